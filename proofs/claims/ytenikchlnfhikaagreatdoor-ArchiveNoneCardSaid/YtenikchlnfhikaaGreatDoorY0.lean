/-
  Texts that were joined: Words, KA, KB, KC, KD, KE, KF, KG, KH, KI, TPrB, TAmt, TNumP, TMul, Fits, TNumD, TNumT, TNumQ, LexSpec, LexA. Conditions: what each theorem names.
-/
import Derived.WalkKit
import Derived.WalkSpells
import Derived.WalkLawsBesides
import Derived.Maps.AppendAt
import Derived.Deep.AppendLies
import Derived.Deep.Draws
import Derived.RegionTactic
import Derived.OwnWalk
import Derived.Laws.OwnMore
import Derived.Laws.Rows
import Derived.Lib.Hide
import Derived.Deep.QuietTactic
import Derived.BigQuiet
import Derived.StillTailTactics
import Derived.Orders
import Derived.Great.BuildSlice
import Derived.Laws.MakeOwn
import Derived.Lib.Bytealg
import Derived.Laws.IdiomStrings
import Derived.Test.YtenikchlnfhikaaGreatDoorProg
import Derived.Handy
import Derived.Deep.Light
set_option linter.unusedSectionVars false
set_option linter.unusedVariables false
set_option linter.unusedSimpArgs false
namespace Go.RowKit
theorem Below.drewN {B : Nat} {a w : World} (h : Below B a w) (n : Nat) : Below B a (w.drewN n) := ⟨h.os, h.tape, h.output, h.size, h.block⟩
end Go.RowKit
namespace Go.Proofs.YtenikchlnfhikaaGreatDoor
open Go.RowKit

theorem block_of_add (a : Addr) (n : Nat) : (a.add n).block = a.block := by unfold Addr.add; split <;> rfl
theorem add_of_add (a : Addr) (i j : Nat) : (a.add i).add j = a.add (i + j) := by
  unfold Addr.add
  by_cases hi : i = 0 <;> by_cases hj : j = 0 <;> simp [hi, hj, Nat.add_assoc]

def Reads (w : World) (B size : Nat) (A : Option Addr) (n : Nat) (xs : List Value) : Prop :=
  xs.length = n * size ∧ (0 < n → ∃ ad, A = some ad ∧ ad.block < B ∧ ∀ j u, xs[j]? = some u → w.cell? (ad.add j) = some u)

section
variable {w w' : World} {B B' size n : Nat} {A : Option Addr} {xs : List Value}
theorem Reads.at_ {k : Nat} (h : Reads w B 1 A n xs) (hk : k < n) : ∃ ad u, A = some ad ∧ ad.block < B ∧ xs[k]? = some u ∧ w.cell? (ad.add k) = some u := by
  obtain ⟨ad, e, hb, hc⟩ := h.2 (by omega)
  have hl : k < xs.length := by have := h.1; omega
  exact ⟨ad, xs[k], e, hb, List.getElem?_eq_getElem hl, hc k _ (List.getElem?_eq_getElem hl)⟩
theorem Reads.keep (h : Reads w B size A n xs) (hk : ∀ p : Addr, p.block < B → w'.cell? p = w.cell? p) : Reads w' B size A n xs :=
  ⟨h.1, fun hn => by
    obtain ⟨ad, e, hb, hc⟩ := h.2 hn
    exact ⟨ad, e, hb, fun j u hu => (hk _ (by rw [block_of_add]; exact hb)).trans (hc j u hu)⟩⟩
theorem Reads.more (h : Reads w B size A n xs) (hB : B ≤ B') : Reads w B' size A n xs :=
  ⟨h.1, fun hn => by
    obtain ⟨ad, e, hb, hc⟩ := h.2 hn
    exact ⟨ad, e, by omega, hc⟩⟩
theorem Reads.below (h : Reads w B size A n xs) (hb : Below B w w') : Reads w' B size A n xs := h.keep fun _ hp => hb.cell hp
theorem Reads.drew (h : Reads w B size A n xs) : Reads w.drew B size A n xs := h
theorem Reads.drewN (h : Reads w B size A n xs) (k : Nat) : Reads (w.drewN k) B size A n xs := h
theorem Reads.alloc (h : Reads w B size A n xs) (hB : B ≤ w.heap.size) (o : Obj) : Reads (w.alloc o) B size A n xs := h.keep fun p hp => World.cell?_alloc_lt w o p (by omega)
theorem Reads.setCell (h : Reads w B size A n xs) {p : Addr} (hB : B ≤ p.block) (u : Value) : Reads (w.setCell p u) B size A n xs :=
  h.keep fun q hq => World.cell?_setCell_other w p q u (fun e => by subst e; omega)
theorem Reads.grown (h : Reads w B size A n xs) {row : Option Nat} (hg : w.grownBy w' row) (hB : B ≤ w.heap.size) (hr : ∀ g, row = some g → B ≤ g) : Reads w' B size A n xs :=
  h.keep fun p hp => World.cell?_of_block (hg.block p.block (by omega) (fun e => by have := hr _ e.symm; omega))
theorem Reads.cut (h : Reads w B size A n xs) {k cap : Nat} (hk : k ≤ n) (hc : n ≤ cap) :
    Reads w B size (if cap = k then A else A.map (·.add (k * size))) (n - k) (xs.drop (k * size)) := by
  refine ⟨by rw [List.length_drop, h.1, Nat.sub_mul], fun hn => ?_⟩
  obtain ⟨ad, rfl, hb, hcell⟩ := h.2 (by omega)
  rw [if_neg (by omega)]
  refine ⟨ad.add (k * size), rfl, by rw [block_of_add]; exact hb, fun j u hu => ?_⟩
  rw [add_of_add]
  exact hcell _ u (by rw [← hu, List.getElem?_drop])
theorem Reads.of_own {base : Nat} {e : TypeId} {c : Nat} (h : w.ownsRow base e size (.slice A n c) n xs) : Reads w w.heap.size size A n xs := by
  refine ⟨h.1, fun hn => ?_⟩
  obtain ⟨g, cap, hv, _, hlt⟩ := h.form hn
  have hA : A = some ⟨g, 0, none⟩ := by injection hv
  subst hA
  exact ⟨_, rfl, hlt, h.cells (g := g) rfl⟩
end

def Blk (w : World) (g : Nat) (t : TypeId) (cs : Array Value) : Prop := w.heap[g]? = some (.cells cs t (0, 0))

section
variable {w w' : World} {g : Nat} {t : TypeId} {cs : Array Value}
theorem Blk.lt (h : Blk w g t cs) : g < w.heap.size := by
  rcases Nat.lt_or_ge g w.heap.size with hlt | hge
  · exact hlt
  · unfold Blk at h; rw [Array.getElem?_eq_none hge] at h; cases h
theorem Blk.cell (h : Blk w g t cs) (i : Nat) : w.cell? ⟨g, i, none⟩ = cs[i]? := cell_of_row w g i cs t (0, 0) h
theorem Blk.frozen (h : Blk w g t cs) (i : Nat) : w.frozen? ⟨g, i, none⟩ = false := by
  unfold Blk at h
  simp [World.frozen?, h]
theorem Blk.new (w : World) (t : TypeId) (cs : Array Value) : Blk (w.alloc (.cells cs t)) w.heap.size t cs := heap_alloc_new w _
theorem Blk.drew (h : Blk w g t cs) : Blk w.drew g t cs := h
theorem Blk.drewN (h : Blk w g t cs) (n : Nat) : Blk (w.drewN n) g t cs := h
theorem Blk.alloc (h : Blk w g t cs) (o : Obj) : Blk (w.alloc o) g t cs := (Below.heap_alloc w o g h.lt).trans h
theorem Blk.set_ (h : Blk w g t cs) (i : Nat) (u : Value) : Blk (w.setCell ⟨g, i, none⟩ u) g t (cs.setIfInBounds i u) := by
  unfold Blk at h ⊢
  simp [World.setCell, Array.getElem?_modify, h]
theorem Blk.below {B : Nat} (h : Blk w g t cs) (hb : Below B w w') (hg : g < B) : Blk w' g t cs := (hb.block g hg).trans h
theorem Blk.grown {row : Option Nat} (h : Blk w g t cs) (hb : w.grownBy w' row) (hg : some g ≠ row) : Blk w' g t cs := (hb.block g h.lt hg).trans h
theorem Blk.ne_ {g' : Nat} {t' : TypeId} {cs' : Array Value} (h : Blk w g t cs) (h' : Blk w g' t' cs') (hne : t ≠ t') : g ≠ g' := by
  rintro rfl
  unfold Blk at h h'
  rw [h] at h'
  injection h' with h'
  injection h' with _ ht
  exact hne ht
theorem own_blk_ne {base : Nat} {e : TypeId} {size n : Nat} {v : Value} {xs : List Value} (h : w.ownsRow base e size v n xs) (hg : Blk w g t cs) (hne : e ≠ t) : v.ownBlock ≠ some g := by
  rcases h.2 with ⟨rfl, _⟩ | ⟨g', cap, cur, rfl, _, hh, _⟩
  · simp [Value.ownBlock]
  · intro he
    have : g' = g := by simpa [Value.ownBlock] using he
    subst this
    exact Blk.ne_ (t := e) hh hg hne rfl
end

section
variable {P : Program} (w : World)

theorem run_append_of_nil (base : Nat) (t ty e : TypeId) (i : TypeInfo) (size : Nat) (ht : P.underlying t = some (.slice e)) (hi : P.info? e = some i)
    (v : Value) (n : Nat) (xs : List Value) (hown : w.ownsRow base e size v n xs) (c : Nat) : (Builtin.append_ #[t, t] ty #[v, .slice none 0 c]).run P w = .ok v w := by
  rcases hown.2 with ⟨rfl, rfl⟩ | ⟨g, cap, cur, rfl, _, _, hnc, _⟩
  · simp [Builtin.append_, run_underlying ht, sizeOf, typeInfo, hi, Builtin.lenOf, Builtin.firstCells]
  · simp [Builtin.append_, run_underlying ht, sizeOf, typeInfo, hi, Builtin.lenOf, Builtin.firstCells, hnc, storeCells]

theorem run_append_any (base : Nat) (t ty e : TypeId) (i : TypeInfo) (z : Value) (size bytes : Nat) (ht : P.underlying t = some (.slice e)) (hi : P.info? e = some i) (hz : i.zero = some z)
    (hsize : i.size = size) (hby : i.bytes = bytes) (hzs : z.cells.size = size) (hsz : 0 < size)
    (v : Value) (n : Nat) (xs : List Value) (hown : w.ownsRow base e size v n xs)
    (B : Nat) (A : Option Addr) (m c : Nat) (news : List Value) (hr : Reads w B size A m news) (h1 : ∀ u ∈ news, u.oneCell' = true)
    (h63 : n + m ≤ maxLen) (hbytes : (n + m) * bytes ≤ 140737488355328) (hbase : base ≤ w.heap.size) :
    ∃ v' w', (Builtin.append_ #[t, t] ty #[v, .slice A m c]).run P w = .ok v' w' ∧ w'.ownsRow base e size v' (n + m) (xs ++ news) ∧ w.grownBy w' v.ownBlock ∧
      (v'.ownBlock = v.ownBlock ∨ v'.ownBlock = some w.heap.size) := by
  rcases A with _ | ad
  · have hm : m = 0 := by
      rcases Nat.eq_zero_or_pos m with h0 | h0
      · exact h0
      · obtain ⟨ad, h, _⟩ := hr.2 h0
        cases h
    subst hm
    have hn : news = [] := List.eq_nil_of_length_eq_zero (by simpa using hr.1)
    subst hn
    exact ⟨v, w, run_append_of_nil w base t ty e i size ht hi v n xs hown c, by simpa using hown, World.grownBy.refl w _, .inl rfl⟩
  · have hcells : ∀ j u, news[j]? = some u → w.cell? (ad.add j) = some u := by
      intro j u hu
      rcases Nat.eq_zero_or_pos m with h0 | h0
      · subst h0
        have hn : news = [] := List.eq_nil_of_length_eq_zero (by simpa using hr.1)
        subst hn
        simp at hu
      · obtain ⟨ad', h, _, hc⟩ := hr.2 h0
        injection h with h
        subst h
        exact hc j u hu
    obtain ⟨v', w', hrun, h2, h3, _, h5⟩ := run_append_own_at (P := P) w base t ty e i z size bytes ht hi hz hsize hby hzs hsz v n xs hown ad m c news hr.1 hcells h1 h63 hbytes hbase
    exact ⟨v', w', hrun, h2, h3, h5⟩

end

/-- The world has drawn, and no more. -/
def Drawn (w w' : World) : Prop := ∃ n, w' = w.drewN n
theorem Drawn.refl (w : World) : Drawn w w := ⟨0, rfl⟩
theorem Drawn.drewN {w w' : World} (h : Drawn w w') (n : Nat) : Drawn w (w'.drewN n) := by
  obtain ⟨m, rfl⟩ := h
  exact ⟨m + n, by rw [World.drewN_drewN]⟩
theorem Drawn.below {w w' : World} (h : Drawn w w') (B : Nat) : Below B w w' := by
  obtain ⟨m, rfl⟩ := h
  exact (Below.refl _ _).drewN _

theorem bool_eq {a b : Bool} (h : a = b) : Value.bool a = .bool b := by rw [h]
theorem ret1 {x x' : Value} (h : x = x') : Ending.returned x = .returned x' := by rw [h]
theorem wrap_u64 (a : Int) : IntKind.u64.wrap a = a % 18446744073709551616 := by rw [IntKind.wrap_u64]
section
variable {P : Program}
theorem grownBy_setRow (w : World) (g : Nat) (cs : Array Value) : w.grownBy (w.setRow g cs) (some g) :=
  ⟨rfl, rfl, rfl, by simp, fun k _ hne => setRow_other w g k cs (fun e => hne (by rw [e]))⟩
theorem run_loadCells_list (W : World) (a : Addr) (cs : List Value) : ∀ (n i : Nat) (acc : Array Value), i + n = cs.length → (∀ j v, cs[j]? = some v → W.cell? (a.add j) = some v) →
    (loadCellsFrom a i n acc).run P W = .ok (acc ++ (cs.drop i).toArray) W := by
  intro n
  induction n with
  | zero => intro i acc hi _; simp [loadCellsFrom, List.drop_of_length_le (show cs.length ≤ i by omega)]
  | succ n ih =>
    intro i acc hi h
    have hlt : i < cs.length := by omega
    have hc := h i cs[i] (List.getElem?_eq_getElem hlt)
    have hd : cs.drop i = cs[i] :: cs.drop (i + 1) := List.drop_eq_getElem_cons hlt
    simp only [loadCellsFrom]
    rw [hd]
    simp [go_sem, hc, ih (i + 1) _ (by omega) h]
theorem run_loadVar_cells (W : World) (ty : TypeId) (d : TypeDesc) (i : TypeInfo) (a : Addr) (cs : List Value) (hu : P.underlying ty = some d) (hd : (match d with | .struct _ | .array _ _ => true | _ => false) = true)
    (hi : P.info? ty = some i) (hs : i.size = cs.length) (h : ∀ j v, cs[j]? = some v → W.cell? (a.add j) = some v) : (loadVar ty a).run P W = .ok (.agg cs.toArray) W := by
  have e := run_loadCells_list (P := P) W a cs cs.length 0 #[] (by simp) h
  cases d <;> first | (simp at hd; done) | (simp [loadVar, loadCells, isAgg, run_underlying hu, sizeOf, typeInfo, hi, hs, e])
/-- A store of a struct into a row of the call's own. -/
theorem wpList_store_row {ops : Array Oper} {rest : List Oper} {o : Oper} {a : Act} {W : World} {Q : Exit → Act → World → Prop} (hgd : o.guard = none) (ty : TypeId) (x y : Operand) (ho : o.op = .store ty x y) (hdst : o.dst = none)
    (g off : Nat) (hx : a.eval x = .pointer (some ⟨g, off, none⟩)) (cs : Array Value) (hy : (a.eval y).cells = cs) (i : TypeInfo) (hi : P.info? ty = some i) (hs : i.size = cs.size) (h1 : ∀ u ∈ cs.toList, u.oneCell' = true)
    (t : TypeId) (cur : Array Value) (hg : W.heap[g]? = some (.cells cur t (0, 0))) (hfit : off + cs.size ≤ cur.size)
    (h : ∀ w', w'.heap[g]? = some (.cells (cur.toList.take off ++ (cs.toList ++ cur.toList.drop (off + cs.size))).toArray t (0, 0)) → W.grownBy w' (some g) → w'.heap.size = W.heap.size → wpList P ops Q rest a w') :
    wpList P ops Q (o :: rest) a W :=
  wpList_plain hgd fun _ hK => by
    unfold Oper.wp execOp
    have hst := run_storeCells_at P g off t cs.toList 0 cur W hg (by simpa using hfit) h1
    simp only [Nat.add_zero, Array.length_toList] at hst
    simp [ho, hdst, hx, hy, Instr.storeAt, Instr.sureAddr, storeVar, sizeOf, typeInfo, hi, hs, hst, Oper.upon, Act.put]
    exact hK _ _ (h _ (setRow_heap W g cur _ t (0, 0) hg) (grownBy_setRow W g _) (by simp))
end

section
variable {P : Program}
end

theorem only_below {a w w1 : World} {row : Option Nat} (h : a.grownBy w row) (hb : Below w.heap.size w w1) : a.grownBy w1 row :=
  ⟨hb.os.trans h.os, hb.tape.trans h.tape, hb.output.trans h.output, Nat.le_trans h.size hb.size, fun i hi hne => (hb.block i (Nat.lt_of_lt_of_le hi h.size)).trans (h.block i hi hne)⟩
theorem only_trans {a w w1 : World} {row : Option Nat} (h : a.grownBy w row) (k : w.grownBy w1 row) : a.grownBy w1 row :=
  ⟨k.os.trans h.os, k.tape.trans h.tape, k.output.trans h.output, Nat.le_trans h.size k.size, fun i hi hne => (k.block i (Nat.lt_of_lt_of_le hi h.size) hne).trans (h.block i hi hne)⟩
theorem only_to_below {a w : World} {g B : Nat} (h : a.grownBy w (some g)) (hB : B ≤ g) (hg : g < a.heap.size) : Below B a w :=
  ⟨h.os, h.tape, h.output, h.size, fun k hk => h.block k (by omega) (fun e => by injection e with e; omega)⟩

theorem only_of_below {a w : World} (h : Below a.heap.size a w) (row : Option Nat) : a.grownBy w row := ⟨h.os, h.tape, h.output, h.size, fun i hi _ => h.block i hi⟩

theorem own_below {w w' : World} {base : Nat} {e : TypeId} {size n : Nat} {v : Value} {xs : List Value} (h : w.ownsRow base e size v n xs) (hb : Below w.heap.size w w') : w'.ownsRow base e size v n xs :=
  h.kept (only_of_below hb none) (by cases hv : v.ownBlock <;> simp)
theorem reads_own {w : World} {base : Nat} {e : TypeId} {size n : Nat} {v : Value} {xs : List Value} (h : w.ownsRow base e size v n xs) : ∃ A c, v = .slice A n c ∧ Reads w w.heap.size size A n xs := by
  rcases h.2 with ⟨rfl, rfl⟩ | ⟨g, cap, cur, rfl, _⟩
  · exact ⟨none, 0, rfl, Reads.of_own h⟩
  · exact ⟨_, cap, rfl, Reads.of_own h⟩

theorem own_ne_blk {w : World} {base : Nat} {e : TypeId} {size n : Nat} {v : Value} {xs : List Value} {g : Nat} {t : TypeId} {cs : Array Value} (h : w.ownsRow base e size v n xs) (hg : w.heap[g]? = some (.cells cs t (0, 0))) (hne : e ≠ t) :
    v.ownBlock = none ∨ v.ownBlock ≠ some g := .inr (own_blk_ne h hg hne)

end Go.Proofs.YtenikchlnfhikaaGreatDoor

namespace Go.Proofs.YtenikchlnfhikaaGreatDoor
open Go.RowKit

section
variable [Inhabited (List Deferred)]

def look : List (Nat × Value) → Nat → Option Value
  | [], _ => none
  | (k, v) :: r, t => bif Nat.beq k t then some v else look r t
def evF (F : List (Nat × Value)) : Operand → Option Value
  | .tmp t => look F t
  | .const v => some v
  | .global g => some (.pointer (some ⟨g, 0, none⟩))
  | .func f => some (.func (.func f) #[] #[])
/-- What is known of a frame. -/
structure Fr (n : Nat) (F : List (Nat × Value)) (a : Act) : Prop where
  size : a.tmps.size = n
  defers : a.defers = default
  slot : ∀ t v, look F t = some v → a.tmps[t]? = some v
theorem Fr.ev {n : Nat} {F : List (Nat × Value)} {a : Act} (h : Fr n F a) : ∀ x u, evF F x = some u → a.eval x = u := by
  intro x u hx
  cases x with
  | tmp t => have := h.slot t u hx; simp [Act.eval, this]
  | const v => exact Option.some.inj hx
  | global g => exact Option.some.inj hx
  | func f => exact Option.some.inj hx
theorem look_put {F : List (Nat × Value)} {d t : Nat} {v u : Value} (h : look ((d, v) :: F) t = some u) : (d = t ∧ v = u) ∨ (d ≠ t ∧ look F t = some u) := by
  unfold look at h
  cases hb : Nat.beq d t with
  | true => rw [hb] at h; exact .inl ⟨Nat.eq_of_beq_eq_true hb, Option.some.inj h⟩
  | false => rw [hb] at h; exact .inr ⟨Nat.ne_of_beq_eq_false hb, h⟩
theorem Fr.put {n d : Nat} {F : List (Nat × Value)} {a : Act} {v : Value} (h : Fr n F a) (hd : d < n) : Fr n ((d, v) :: F) (a.put (some d) v) := by
  refine ⟨by simp [Act.put, h.size], h.defers, fun t u hu => ?_⟩
  rcases look_put hu with ⟨rfl, rfl⟩ | ⟨hne, hu⟩
  · simp [Act.put, h.size, hd]
  · simp only [Act.put]
    rw [Array.getElem?_setIfInBounds_ne hne]
    exact h.slot t u hu
/-- All of F' is in F. -/
def Sub : List (Nat × Value) → List (Nat × Value) → Prop
  | [], _ => True
  | (t, v) :: r, F => look F t = some v ∧ Sub r F
theorem Sub.spec {F : List (Nat × Value)} : ∀ {F' : List (Nat × Value)}, Sub F' F → ∀ t v, look F' t = some v → look F t = some v
  | [], _, _, _, h => by simp [look] at h
  | (k, u) :: r, hs, t, v, h => by
    rcases look_put h with ⟨rfl, rfl⟩ | ⟨_, h⟩
    · exact hs.1
    · exact Sub.spec hs.2 t v h
theorem Fr.sub {n : Nat} {F F' : List (Nat × Value)} {a : Act} (h : Fr n F a) (hs : Sub F' F) : Fr n F' a := ⟨h.size, h.defers, fun t v ht => h.slot t v (hs.spec t v ht)⟩

/-- What an operation does, its operands being known. -/
def Runs (P : Program) (E : Operand → Option Value) (o : Oper) (w : World) (v : Value) (w' : World) : Prop := ∀ ρ : Operand → Value, (∀ x u, E x = some u → ρ x = u) → (execOp ρ o).run P w = .ok (.value v) w'
def RunsU (P : Program) (E : Operand → Option Value) (o : Oper) (w w' : World) : Prop := ∀ ρ : Operand → Value, (∀ x u, E x = some u → ρ x = u) → (execOp ρ o).run P w = .ok .skip w'
def Enters (P : Program) (E : Operand → Option Value) (o : Oper) (w : World) (f : FuncId) (args : Array Value) : Prop := ∀ ρ : Operand → Value, (∀ x u, E x = some u → ρ x = u) → (execOp ρ o).run P w = .ok (.enter f args) w

/-- The operations of a region, in the text's order. -/
def Seq (P : Program) (ops : Array Oper) (Q : Exit → Act → World → Prop) (rest : List Oper) (n : Nat) (F : List (Nat × Value)) (w : World) : Prop := ∀ a, Fr n F a → wpList P ops Q rest a w
/-- A piece of code. -/
def Cd (P : Program) (c : Code) (Q : Exit → Act → World → Prop) (n : Nat) (F : List (Nat × Value)) (w : World) : Prop := ∀ a, Fr n F a → c.wp P Q a w
/-- An end. -/
def Post (Q : Exit → Act → World → Prop) (e : Exit) (n : Nat) (F : List (Nat × Value)) (w : World) : Prop := ∀ a, Fr n F a → Q e a w

section
variable {P : Program} {ops : Array Oper} {Q : Exit → Act → World → Prop} {rest : List Oper} {o : Oper} {n d : Nat} {F F' : List (Nat × Value)} {w w' : World} {v : Value}

theorem Seq.val (hrun : Runs P (evF F) o w v w') (hg : o.guard = none) (hd : o.dst = some d) (hn : Nat.blt d n = true) (h : Seq P ops Q rest n ((d, v) :: F) w') : Seq P ops Q (o :: rest) n F w := by
  intro a ha
  refine wpList_plain hg fun K hK => ?_
  unfold Oper.wp
  rw [hrun a.eval ha.ev, Oper.upon_value, hd]
  exact hK _ _ (h _ (ha.put (Nat.blt_eq.mp hn)))
theorem Seq.unit (hrun : RunsU P (evF F) o w w') (hg : o.guard = none) (hd : o.dst = none) (h : Seq P ops Q rest n F w') : Seq P ops Q (o :: rest) n F w := by
  intro a ha
  refine wpList_plain hg fun K hK => ?_
  unfold Oper.wp
  rw [hrun a.eval ha.ev, Oper.upon_skip, hd]
  exact hK _ _ (h _ ha)
theorem Seq.call {f : FuncId} {args : Array Value} {R : Ending → World → Prop} (he : Enters P (evF F) o w f args) (hg : o.guard = none) (hd : o.dst = some d) (hn : Nat.blt d n = true) (hc : Calls P f args w R)
    (h : ∀ e w', R e w' → ∃ v, e = .returned v ∧ Seq P ops Q rest n ((d, v) :: F) w') : Seq P ops Q (o :: rest) n F w := by
  intro a ha
  refine wpList_plain hg fun K hK => ?_
  unfold Oper.wp
  rw [he a.eval ha.ev, Oper.upon_enter, hd]
  refine hc.mono fun e w' hR => ?_
  obtain ⟨v, rfl, hs⟩ := h e w' hR
  exact hK _ _ (hs _ (ha.put (Nat.blt_eq.mp hn)))
/-- A guarded operation that is wanted, or not. -/
theorem Seq.valG {j : Nat} {b : Bool} {t : Nat} (hrun : Runs P (evF F) o w v w') (hg : o.guard = some (j, b)) (ht : (ops[j]?).bind (·.dst) = some t) (hb : look F t = some (.bool b)) (hd : o.dst = some d) (hn : Nat.blt d n = true) (h : Seq P ops Q rest n ((d, v) :: F) w') : Seq P ops Q (o :: rest) n F w := by
  intro a ha
  refine wpList_step fun K hK => ?_
  have hw : Region.wanted o (yielded ops a.tmps) = true := by
    unfold Region.wanted yielded
    simp only [hg, ht, Option.bind_some, ha.slot t _ hb]
    simp
  rw [if_pos hw]
  unfold Oper.wp
  rw [hrun a.eval ha.ev, Oper.upon_value, hd]
  exact hK _ _ (h _ (ha.put (Nat.blt_eq.mp hn)))
theorem Seq.callG {j : Nat} {b : Bool} {t : Nat} {f : FuncId} {args : Array Value} {R : Ending → World → Prop} (he : Enters P (evF F) o w f args) (hg : o.guard = some (j, b)) (ht : (ops[j]?).bind (·.dst) = some t) (hb : look F t = some (.bool b)) (hd : o.dst = some d) (hn : Nat.blt d n = true) (hc : Calls P f args w R)
    (h : ∀ e w', R e w' → ∃ v, e = .returned v ∧ Seq P ops Q rest n ((d, v) :: F) w') : Seq P ops Q (o :: rest) n F w := by
  intro a ha
  refine wpList_step fun K hK => ?_
  have hw : Region.wanted o (yielded ops a.tmps) = true := by
    unfold Region.wanted yielded
    simp only [hg, ht, Option.bind_some, ha.slot t _ hb]
    simp
  rw [if_pos hw]
  unfold Oper.wp
  rw [he a.eval ha.ev, Oper.upon_enter, hd]
  refine hc.mono fun e w' hR => ?_
  obtain ⟨v, rfl, hs⟩ := h e w' hR
  exact hK _ _ (hs _ (ha.put (Nat.blt_eq.mp hn)))
theorem Seq.skipG {j : Nat} {b b' : Bool} {t : Nat} (hg : o.guard = some (j, b)) (ht : (ops[j]?).bind (·.dst) = some t) (hb : look F t = some (.bool b')) (hne : b' = !b) (hd : o.dst = some d) (hn : Nat.blt d n = true) (h : Seq P ops Q rest n ((d, undef) :: F) w) : Seq P ops Q (o :: rest) n F w := by
  intro a ha
  refine wpList_step fun K hK => ?_
  have hw : Region.wanted o (yielded ops a.tmps) = false := by
    unfold Region.wanted yielded
    simp only [hg, ht, Option.bind_some, ha.slot t _ hb, hne]
    cases b <;> rfl
  rw [if_neg (by rw [hw]; simp), hd]
  exact hK _ _ (h _ (ha.put (Nat.blt_eq.mp hn)))
theorem Seq.nil (h : Post Q .normal n F w) : Seq P ops Q [] n F w := fun a ha => wpList_nil (h a ha)
theorem Seq.weak (hs : Sub F' F) (h : Seq P ops Q rest n F' w) : Seq P ops Q rest n F w := fun a ha => h a (ha.sub hs)
theorem Cd.weak {c : Code} (hs : Sub F' F) (h : Cd P c Q n F' w) : Cd P c Q n F w := fun a ha => h a (ha.sub hs)
theorem Post.weak {e : Exit} (hs : Sub F' F) (h : Post Q e n F' w) : Post Q e n F w := fun a ha => h a (ha.sub hs)

theorem Cd.region {id : Nat} {l : List Oper} (h : Seq P l.toArray Q l n F w) : Cd P (.region id l.toArray false) Q n F w := fun a ha => wp_region_lit (h a ha)
theorem Cd.seq {x y : Code} (h : Cd P x (Exit.then (y.wp P Q) Q) n F w) : Cd P (.seq x y) Q n F w := fun a ha => wp_seq (h a ha)
theorem Cd.cond {c : Operand} {x y : Code} {b : Bool} (hc : evF F c = some (.bool b)) (ht : b = true → Cd P x Q n F w) (hf : b = false → Cd P y Q n F w) : Cd P (.cond c x y) Q n F w :=
  fun a ha => wp_cond_split (ha.ev _ _ hc) (fun h => ht h a ha) (fun h => hf h a ha)
theorem Cd.condD {c : Operand} {x y : Code} {p : Prop} [Decidable p] (hc : evF F c = some (.bool (decide p))) (ht : p → Cd P x Q n F w) (hf : ¬ p → Cd P y Q n F w) : Cd P (.cond c x y) Q n F w :=
  Cd.cond hc (fun h => ht (of_decide_eq_true h)) (fun h => hf (of_decide_eq_false h))
theorem Cd.condT {c : Operand} {x y : Code} {b : Bool} (hc : evF F c = some (.bool b)) (hb : b = true) (h : Cd P x Q n F w) : Cd P (.cond c x y) Q n F w := Cd.cond hc (fun _ => h) (fun h0 => by rw [hb] at h0; cases h0)
theorem Cd.condF {c : Operand} {x y : Code} {b : Bool} (hc : evF F c = some (.bool b)) (hb : b = false) (h : Cd P y Q n F w) : Cd P (.cond c x y) Q n F w := Cd.cond hc (fun h0 => by rw [hb] at h0; cases h0) (fun _ => h)
theorem Cd.block {id : Nat} {c : Code} (h : Cd P c (Exit.inBlock id Q) n F w) : Cd P (.block id c) Q n F w := fun a ha => wp_block (h a ha)
theorem Cd.skip (h : Post Q .normal n F w) : Cd P .skip Q n F w := fun a ha => wp_skip (h a ha)
theorem Cd.exit {id : Nat} (h : Post Q (.exit id) n F w) : Cd P (.exit id) Q n F w := fun a ha => wp_exit (h a ha)
theorem Cd.ret (h : Post Q .ret n F w) : Cd P .ret Q n F w := fun a ha => wp_ret (h a ha)

theorem Post.then_ {y : Code} (h : Cd P y Q n F w) : Post (Exit.then (y.wp P Q) Q) .normal n F w := h
theorem Post.then_ret {K : Act → World → Prop} (h : Post Q .ret n F w) : Post (Exit.then K Q) .ret n F w := h
theorem Post.then_exit {K : Act → World → Prop} {id : Nat} (h : Post Q (.exit id) n F w) : Post (Exit.then K Q) (.exit id) n F w := h
theorem Post.block_normal {id : Nat} (h : Post Q .normal n F w) : Post (Exit.inBlock id Q) .normal n F w := h
theorem Post.block_ret {id : Nat} (h : Post Q .ret n F w) : Post (Exit.inBlock id Q) .ret n F w := h
theorem Post.block_exit {id : Nat} (h : Post Q .normal n F w) : Post (Exit.inBlock id Q) (.exit id) n F w := fun a ha => by
  show if id = id then Q .normal a w else Q (.exit id) a w
  rw [if_pos rfl]
  exact h a ha
/-- A loop: σ is whatever changes from round to round. -/
def LoopK {σ : Type} (n : Nat) (vf : σ → List (Nat × Value)) (I : σ → World → Prop) (μ : σ → Nat) (s : σ) (a : Act) (w : World) : Prop := ∃ s', Fr n (vf s') a ∧ I s' w ∧ μ s' < μ s
theorem Cd.loop {σ : Type} {c : Code} (vf : σ → List (Nat × Value)) (I : σ → World → Prop) (μ : σ → Nat) (s0 : σ) (h0 : I s0 w) (hs : Sub (vf s0) F)
    (round : ∀ s w, I s w → Cd P c (Exit.then (LoopK n vf I μ s) Q) n (vf s) w) : Cd P (.loop c) Q n F w := by
  intro a ha b k cs
  have key : ∀ m s a w, μ s = m → I s w → Fr n (vf s) a → ∃ e a' w', Q e a' w' ∧ Arrives P (lone (b.at a (.code c :: .inLoop c :: k)) cs w) b k cs e a' w' := by
    intro m
    induction m using Nat.strongRecOn with
    | _ m ih =>
      intro s a w hm hI hF
      obtain ⟨e, a₁, w₁, hq, harr⟩ := round s w hI a hF b (.inLoop c :: k) cs
      cases e with
      | normal =>
        obtain ⟨s', hF', hI', hlt⟩ := hq
        obtain ⟨e₂, a₂, w₂, hq₂, harr₂⟩ := ih (μ s') (hm ▸ hlt) s' a₁ w₁ rfl hI' hF'
        exact ⟨e₂, a₂, w₂, hq₂, .of_steps (Steps.trans harr (.one step_inLoop)) harr₂⟩
      | exit id => exact ⟨_, a₁, w₁, hq, .pass (x := .inLoop c) rfl (fun _ _ => .inl (by simp)) harr⟩
      | goto l => exact ⟨_, a₁, w₁, hq, .pass (x := .inLoop c) rfl (fun _ _ => .inl (by simp)) harr⟩
      | ret => exact ⟨_, a₁, w₁, hq, .pass (x := .inLoop c) rfl (fun _ _ => .inl (by simp)) harr⟩
      | panic ch => exact ⟨_, a₁, w₁, hq, .pass (x := .inLoop c) rfl (fun _ _ => .inl (by simp)) harr⟩
      | outgrown => exact ⟨_, a₁, w₁, hq, .pass (x := .inLoop c) rfl (fun _ _ => .inl (by simp)) harr⟩
  obtain ⟨e, a', w', hq, harr⟩ := key _ s0 a w rfl h0 (ha.sub hs)
  exact ⟨e, a', w', hq, .of_steps (.one step_loop) harr⟩
theorem Post.round {σ : Type} {vf : σ → List (Nat × Value)} {I : σ → World → Prop} {μ : σ → Nat} {s : σ} (s' : σ) (hs : Sub (vf s') F) (hI : I s' w) (hlt : μ s' < μ s) : Post (Exit.then (LoopK n vf I μ s) Q) .normal n F w :=
  fun _ ha => ⟨s', ha.sub hs, hI, hlt⟩
theorem Post.round_ret {σ : Type} {vf : σ → List (Nat × Value)} {I : σ → World → Prop} {μ : σ → Nat} {s : σ} (h : Post Q .ret n F w) : Post (Exit.then (LoopK n vf I μ s) Q) .ret n F w := h
theorem Post.round_exit {σ : Type} {vf : σ → List (Nat × Value)} {I : σ → World → Prop} {μ : σ → Nat} {s : σ} {id : Nat} (h : Post Q (.exit id) n F w) : Post (Exit.then (LoopK n vf I μ s) Q) (.exit id) n F w := h

/-- Where ways meet again: σ is what is known there. -/
def JoinK {σ : Type} (n : Nat) (vf : σ → List (Nat × Value)) (J : σ → World → Prop) (a : Act) (w : World) : Prop := ∃ s, Fr n (vf s) a ∧ J s w
theorem Cd.seqJ {σ : Type} {x y : Code} (vf : σ → List (Nat × Value)) (J : σ → World → Prop) (hx : Cd P x (Exit.then (JoinK n vf J) Q) n F w) (hy : ∀ s w, J s w → Cd P y Q n (vf s) w) : Cd P (.seq x y) Q n F w :=
  fun a ha => wp_seq (Code.wp_mono (fun e a w q => by
    cases e with
    | normal => obtain ⟨s, hF, hJ⟩ := q; exact hy s w hJ a hF
    | exit id => exact q
    | goto l => exact q
    | ret => exact q
    | panic ch => exact q
    | outgrown => exact q) (hx a ha))
theorem Post.join {σ : Type} {vf : σ → List (Nat × Value)} {J : σ → World → Prop} (s : σ) (hs : Sub (vf s) F) (hJ : J s w) : Post (Exit.then (JoinK n vf J) Q) .normal n F w := fun _ ha => ⟨s, ha.sub hs, hJ⟩

end
end
section
variable {P : Program} {ops : Array Oper} {Q : Exit → Act → World → Prop} {rest : List Oper} {o : Oper} {n d : Nat} {F F' : List (Nat × Value)} {w w' : World} {v : Value}
/-- The whole function. -/
theorem Calls.of {f : FuncId} {fn : Func} {c : Code} {args : List Value} {R : Ending → World → Prop} (F : List (Nat × Value)) (n : Nat) (hf : P.funcs[f]? = some fn) (hb : fn.body = some c) (hn : n = fn.ntmps) (hle : args.length ≤ n)
    (hF : ∀ a : Act, a.tmps = (args ++ List.replicate (n - args.length) undef).toArray → a.defers = [] → Fr n F a) (h : Cd P c (bodyPost P fn R) n F w) : Calls P f args.toArray w R := by
  refine calls_of_wp hf hb (h _ (hF _ ?_ rfl))
  show args.toArray ++ Array.replicate (fn.ntmps - args.toArray.size) undef = _
  rw [← hn]
  apply Array.ext'
  simp
/-- A call's frame at its start. -/
def startF : Nat → List Value → List (Nat × Value)
  | _, [] => []
  | k, v :: r => (k, v) :: startF (k + 1) r
theorem look_startF (args : List Value) : ∀ k t v, look (startF k args) t = some v → ∃ j, t = k + j ∧ args[j]? = some v := by
  induction args with
  | nil => intro k t v h; simp [startF, look] at h
  | cons x r ih =>
    intro k t v h
    rcases look_put h with ⟨rfl, rfl⟩ | ⟨_, h⟩
    · exact ⟨0, rfl, rfl⟩
    · obtain ⟨j, e, hj⟩ := ih _ _ _ h
      exact ⟨j + 1, by omega, hj⟩
theorem Calls.start {f : FuncId} {fn : Func} {c : Code} {args : List Value} {R : Ending → World → Prop} (n : Nat) (hf : P.funcs[f]? = some fn) (hb : fn.body = some c) (hn : fn.ntmps = n) (hle : Nat.ble args.length n = true)
    (h : Cd P c (bodyPost P fn R) n (startF 0 args) w) : Calls P f args.toArray w R := by
  have hle' := Nat.le_of_ble_eq_true hle
  refine Calls.of (startF 0 args) n hf hb hn.symm hle' (fun a ha hd => ⟨by rw [ha]; simp; omega, hd, fun t v ht => ?_⟩) h
  obtain ⟨j, rfl, hj⟩ := look_startF args 0 t v ht
  rw [ha, Nat.zero_add]
  have hlt : j < args.length := (List.getElem?_eq_some_iff.1 hj).1
  simp [List.getElem?_append_left hlt, hj]

/-- Results that lie in slots. -/
def looks (F : List (Nat × Value)) : List ResultVar → Option (List Value)
  | [] => some []
  | .tmp t :: r => match look F t, looks F r with
    | some v, some vs => some (v :: vs)
    | _, _ => none
  | .cell _ _ :: _ => none
theorem Post.end1 {fn : Func} {R : Ending → World → Prop} {t : Nat} {e : Exit} (hr : fn.results = #[.tmp t]) (hl : look F t = some v) (he : e = .ret ∨ e = .normal) (h : R (.returned v) w) : Post (bodyPost P fn R) e n F w := by
  intro a ha
  have hv : (results fn a.tmps).run P w = .ok v w := by rw [results_tmp hr]; simp [ha.slot t v hl]
  rcases he with rfl | rfl
  · exact ⟨ha.defers, v, hv, h⟩
  · exact ⟨ha.defers, v, hv, h⟩
theorem Post.end2 {fn : Func} {R : Ending → World → Prop} {t u : Nat} {v' : Value} {e : Exit} (hr : fn.results = #[.tmp t, .tmp u]) (hl : look F t = some v) (hl' : look F u = some v') (he : e = .ret ∨ e = .normal) (h : R (.returned (.tuple #[v, v'])) w) : Post (bodyPost P fn R) e n F w := by
  intro a ha
  have hv : (results fn a.tmps).run P w = .ok (.tuple #[v, v']) w := by rw [results_tmp2 hr]; simp [ha.slot t v hl, ha.slot u v' hl']
  rcases he with rfl | rfl
  · exact ⟨ha.defers, _, hv, h⟩
  · exact ⟨ha.defers, _, hv, h⟩
/-- Any results, by what they come to. -/
theorem Post.end_ {fn : Func} {R : Ending → World → Prop} {e : Exit} (hv : ∀ a, Fr n F a → (results fn a.tmps).run P w = .ok v w) (he : e = .ret ∨ e = .normal) (h : R (.returned v) w) : Post (bodyPost P fn R) e n F w := by
  intro a ha
  rcases he with rfl | rfl
  · exact ⟨ha.defers, _, hv a ha, h⟩
  · exact ⟨ha.defers, _, hv a ha, h⟩
end
end Go.Proofs.YtenikchlnfhikaaGreatDoor

namespace Go.Proofs.YtenikchlnfhikaaGreatDoor
open Go.RowKit

theorem wrapI {z : Int} (h0 : -9223372036854775808 ≤ z) (h1 : z ≤ 9223372036854775807) : IntKind.i64.wrap z = z := by rw [IntKind.wrap_i64]; omega
theorem run_enter {P : Program} {f : FuncId} {fn : Func} {c : Code} (hf : P.funcs[f]? = some fn) (hname : (fn.name == "runtime.NumGoroutine") = false)
    (hb : fn.body = some c) (args : Array Value) (w : World) : (callFunc f args).run P w = .ok (.enter f args) w := by
  simp only [callFunc, program, Sem.run_bind, Sem.run, Result.andThen_ok, hf, hname, hb, Option.isNone_some, if_false, Bool.false_eq_true]
  rfl

def evL (E : Operand → Option Value) : List Operand → Option (List Value)
  | [] => some []
  | x :: r => match E x, evL E r with
    | some v, some vs => some (v :: vs)
    | _, _ => none
theorem evL_map {E : Operand → Option Value} {ρ : Operand → Value} (h : ∀ x u, E x = some u → ρ x = u) : ∀ {l : List Operand} {vs : List Value}, evL E l = some vs → l.map ρ = vs
  | [], vs, e => by simp [evL] at e; simp [e]
  | x :: r, vs, e => by
    unfold evL at e
    split at e
    · rename_i v vs' hx hr
      injection e with e
      subst e
      rw [List.map_cons, h _ _ hx, evL_map h hr]
    · cases e
def evP (E : Operand → Option Value) : List (Nat × Operand) → Option (List (Nat × Value))
  | [] => some []
  | (i, x) :: r => match E x, evP E r with
    | some v, some vs => some ((i, v) :: vs)
    | _, _ => none
theorem evP_map {E : Operand → Option Value} {ρ : Operand → Value} (h : ∀ x u, E x = some u → ρ x = u) : ∀ {l : List (Nat × Operand)} {vs : List (Nat × Value)}, evP E l = some vs → l.map (fun (i, x) => (i, ρ x)) = vs
  | [], vs, e => by simp [evP] at e; simp [e]
  | (i, x) :: r, vs, e => by
    unfold evP at e
    split at e
    · rename_i v vs' hx hr
      injection e with e
      subst e
      rw [List.map_cons, evP_map h hr]; simp only [h _ _ hx]
    · cases e

theorem run_equal_bool {P : Program} {T : TypeId} (hT : P.underlying T = some .bool) (a b : Bool) (w : World) : (Op.equal T (.bool a) (.bool b)).run P w = .ok (a == b) w := by
  have h : ∀ d : Nat, (Op.equalIn (d + 1) T (.bool a) (.bool b)).run P w = .ok (a == b) w := fun d => by simp [Op.equalIn, run_underlying hT]
  exact h 9999
theorem run_equal_ptrNil {P : Program} {T e : TypeId} (hT : P.underlying T = some (.pointer e)) (A : Option Addr) (w : World) : (Op.equal T (.pointer A) (.pointer none)).run P w = .ok A.isNone w := by
  have h : ∀ d : Nat, (Op.equalIn (d + 1) T (.pointer A) (.pointer none)).run P w = .ok A.isNone w := fun d => by cases A <;> simp [Op.equalIn, run_underlying hT]
  exact h 9999

section
variable {P : Program} {E : Operand → Option Value} {o : Oper} {w w' : World} {x y : Operand} {v : Value} {T T' : TypeId} {k : IntKind} {p q r : Int} {a b : Bool}

theorem Runs.move (ho : o.op = .move x) (hx : E x = some v) : Runs P E o w v w := fun ρ h => by unfold execOp; simp only [ho]; rw [h _ _ hx]; rfl
theorem Runs.assign (ho : o.op = .assign x) (hx : E x = some v) : Runs P E o w v w := fun ρ h => by unfold execOp; simp only [ho]; rw [h _ _ hx]; rfl
theorem Runs.pick {c x y : Operand} {u : Value} (ho : o.op = .pick c x y) (hc : E c = some (.bool a)) (hx : a = true → E x = some v) (hy : a = false → E y = some v) : Runs P E o w v w := fun ρ h => by
  unfold execOp; simp only [ho]; rw [h _ _ hc]
  cases a
  · rw [h _ _ (hy rfl)]; rfl
  · rw [h _ _ (hx rfl)]; rfl
theorem Runs.pickT {c x y : Operand} (ho : o.op = .pick c x y) (hc : E c = some (.bool true)) (hx : E x = some v) : Runs P E o w v w := fun ρ h => by
  unfold execOp; simp only [ho]; rw [h _ _ hc, h _ _ hx]; rfl
theorem Runs.pickF {c x y : Operand} (ho : o.op = .pick c x y) (hc : E c = some (.bool false)) (hy : E y = some v) : Runs P E o w v w := fun ρ h => by
  unfold execOp; simp only [ho]; rw [h _ _ hc, h _ _ hy]; rfl

theorem Runs.cast {v' : Value} (h : Runs P E o w v w') (e : v = v') : Runs P E o w v' w' := e ▸ h
theorem Runs.isT {p : Prop} [Decidable p] (h : Runs P E o w (.bool (decide p)) w') (e : p) : Runs P E o w (.bool true) w' := h.cast (by rw [decide_eq_true e])
theorem Runs.isF {p : Prop} [Decidable p] (h : Runs P E o w (.bool (decide p)) w') (e : ¬ p) : Runs P E o w (.bool false) w' := h.cast (by rw [decide_eq_false e])
theorem Runs.bin {op : BinOp} {u u' : Value} (ho : o.op = .binOp op T x y T') (hx : E x = some u) (hy : E y = some u') (hg : (eqGuard op T x y u u').run P w = .ok () w) (hb : (binOp op T u u').run P w = .ok v w) : Runs P E o w v w := fun ρ h => by
  unfold execOp; simp only [ho]; rw [h _ _ hx, h _ _ hy]
  simp only [Sem.run_bind, hg, Result.andThen_ok, hb, Sem.run_pure]
theorem Runs.addW (ho : o.op = .binOp .add T x y T') (hx : E x = some (.int k p)) (hy : E y = some (.int k q)) (hr : k.wrap (p + q) = r) : Runs P E o w (.int k r) w := .bin ho hx hy rfl (by simp [binOp, Op.intArith, hr])
theorem Runs.subW (ho : o.op = .binOp .sub T x y T') (hx : E x = some (.int k p)) (hy : E y = some (.int k q)) (hr : k.wrap (p - q) = r) : Runs P E o w (.int k r) w := .bin ho hx hy rfl (by simp [binOp, Op.intArith, hr])
theorem Runs.mulW (ho : o.op = .binOp .mul T x y T') (hx : E x = some (.int k p)) (hy : E y = some (.int k q)) (hr : k.wrap (p * q) = r) : Runs P E o w (.int k r) w := .bin ho hx hy rfl (by simp [binOp, Op.intArith, hr])
theorem Runs.shrW {k' : IntKind} (ho : o.op = .binOp .shr T x y T') (hx : E x = some (.int k p)) (hy : E y = some (.int k' q)) (hq : ¬ q < 0) (hr : p.fdiv (2 ^ (min q.toNat k.bits)) = r) : Runs P E o w (.int k r) w := .bin ho hx hy rfl (by simp [binOp, Op.shift, hr, hq])
/-- The same within the bounds of an int. -/
theorem Runs.addI (ho : o.op = .binOp .add T x y T') (hx : E x = some (.int .i64 p)) (hy : E y = some (.int .i64 q)) (h0 : -9223372036854775808 ≤ p + q) (h1 : p + q ≤ 9223372036854775807) : Runs P E o w (.int .i64 (p + q)) w := .addW ho hx hy (wrapI h0 h1)
theorem Runs.subI (ho : o.op = .binOp .sub T x y T') (hx : E x = some (.int .i64 p)) (hy : E y = some (.int .i64 q)) (h0 : -9223372036854775808 ≤ p - q) (h1 : p - q ≤ 9223372036854775807) : Runs P E o w (.int .i64 (p - q)) w := .subW ho hx hy (wrapI h0 h1)
theorem Runs.mulI (ho : o.op = .binOp .mul T x y T') (hx : E x = some (.int .i64 p)) (hy : E y = some (.int .i64 q)) (h0 : -9223372036854775808 ≤ p * q) (h1 : p * q ≤ 9223372036854775807) : Runs P E o w (.int .i64 (p * q)) w := .mulW ho hx hy (wrapI h0 h1)
/-- Shifts of numbers of Nat. -/
theorem Runs.shrL {a s : Nat} {k' : IntKind} (ho : o.op = .binOp .shr T x y T') (hx : E x = some (.int .u64 (a : Int))) (hy : E y = some (.int k' q)) (hq : q = (s : Int)) (hs : s ≤ 64) : Runs P E o w (.int .u64 ((a / 2 ^ s : Nat) : Int)) w := by
  subst hq
  refine .shrW ho hx hy (by omega) ?_
  have e : min (s : Int).toNat IntKind.u64.bits = s := by simp [IntKind.bits]; omega
  rw [e]
  show ((a : Int)).fdiv ((2 : Int) ^ s) = _
  rw [Int.fdiv_eq_ediv_of_nonneg _ (by exact Int.le_of_lt (Int.pow_pos (by omega)))]
  rw [Int.natCast_ediv, Int.natCast_pow]; rfl
theorem Runs.lss (ho : o.op = .binOp .lss T x y T') (hx : E x = some (.int k p)) (hy : E y = some (.int k q)) : Runs P E o w (.bool (decide (p < q))) w := .bin ho hx hy rfl (by simp [binOp, Op.intCmp])
theorem Runs.leq (ho : o.op = .binOp .leq T x y T') (hx : E x = some (.int k p)) (hy : E y = some (.int k q)) : Runs P E o w (.bool (decide (p ≤ q))) w := .bin ho hx hy rfl (by simp [binOp, Op.intCmp])
theorem Runs.gtr (ho : o.op = .binOp .gtr T x y T') (hx : E x = some (.int k p)) (hy : E y = some (.int k q)) : Runs P E o w (.bool (decide (q < p))) w := .bin ho hx hy rfl (by simp [binOp, Op.intCmp])
theorem Runs.geq (ho : o.op = .binOp .geq T x y T') (hx : E x = some (.int k p)) (hy : E y = some (.int k q)) : Runs P E o w (.bool (decide (q ≤ p))) w := .bin ho hx hy rfl (by simp [binOp, Op.intCmp])
theorem Runs.eqlI (ho : o.op = .binOp .eql T x y T') (hx : E x = some (.int k p)) (hy : E y = some (.int k q)) : Runs P E o w (.bool (decide (p = q))) w := .bin ho hx hy rfl (by simp [binOp, Op.intCmp]; rfl)
theorem Runs.neqI (ho : o.op = .binOp .neq T x y T') (hx : E x = some (.int k p)) (hy : E y = some (.int k q)) : Runs P E o w (.bool (decide (p ≠ q))) w := .bin ho hx hy rfl (by
  simp [binOp, Op.intCmp]
  by_cases h : p = q <;> simp [h])
theorem Runs.eqlB (ho : o.op = .binOp .eql T x y T') (hx : E x = some (.bool a)) (hy : E y = some (.bool b)) (hT : P.underlying T = some .bool) : Runs P E o w (.bool (decide (a = b))) w :=
  .bin ho hx hy rfl (by simp only [binOp, Sem.run_bind, run_equal_bool hT, Result.andThen_ok]; cases a <;> cases b <;> rfl)
theorem Runs.neqB (ho : o.op = .binOp .neq T x y T') (hx : E x = some (.bool a)) (hy : E y = some (.bool b)) (hT : P.underlying T = some .bool) : Runs P E o w (.bool (decide (a ≠ b))) w :=
  .bin ho hx hy rfl (by simp only [binOp, Sem.run_bind, run_equal_bool hT, Result.andThen_ok]; cases a <;> cases b <;> rfl)
theorem Runs.eqlS {s t : ByteArray} (ho : o.op = .binOp .eql T x y T') (hx : E x = some (.string s)) (hy : E y = some (.string t)) : Runs P E o w (.bool (s.toList == t.toList)) w := .bin ho hx hy rfl (by simp [binOp, Op.stringOp])
theorem Runs.neqS {s t : ByteArray} (ho : o.op = .binOp .neq T x y T') (hx : E x = some (.string s)) (hy : E y = some (.string t)) : Runs P E o w (.bool (!(s.toList == t.toList))) w := .bin ho hx hy rfl (by simp [binOp, Op.stringOp])
theorem Runs.addS {s t : ByteArray} (ho : o.op = .binOp .add T x y T') (hx : E x = some (.string s)) (hy : E y = some (.string t)) (hs : s.size + t.size ≤ 9223372036854775807) : Runs P E o w (.string (s ++ t)) w :=
  .bin ho hx hy rfl (by simp only [binOp, Op.stringOp]; rw [if_neg (by simp [IntKind.max, IntKind.bits, IntKind.signed]; omega)]; rfl)
theorem Runs.eqlP {A : Option Addr} (ho : o.op = .binOp .eql T x y T') (hx : E x = some (.pointer A)) (hy : E y = some (.pointer none)) {e : TypeId} (hT : P.underlying T = some (.pointer e)) : Runs P E o w (.bool A.isNone) w :=
  .bin ho hx hy rfl (by simp only [binOp, Sem.run_bind, run_equal_ptrNil hT, Result.andThen_ok]; rfl)
theorem Runs.neqP {A : Option Addr} (ho : o.op = .binOp .neq T x y T') (hx : E x = some (.pointer A)) (hy : E y = some (.pointer none)) {e : TypeId} (hT : P.underlying T = some (.pointer e)) : Runs P E o w (.bool A.isSome) w :=
  .bin ho hx hy rfl (by simp only [binOp, Sem.run_bind, run_equal_ptrNil hT, Result.andThen_ok]; cases A <;> rfl)

theorem Runs.not (ho : o.op = .unOp .not T x) (hx : E x = some (.bool a)) : Runs P E o w (.bool !a) w := fun ρ h => by unfold execOp; simp only [ho]; rw [h _ _ hx]; simp [Op.unary]
theorem Runs.neg (ho : o.op = .unOp .neg T x) (hx : E x = some (.int k p)) (hr : k.wrap (0 - p) = r) : Runs P E o w (.int k r) w := fun ρ h => by unfold execOp; simp only [ho]; rw [h _ _ hx]; simp only [Op.unary, Op.intArith, hr]; rfl
theorem Runs.convI {k' : IntKind} {d : TypeDesc} (ho : o.op = .convert T T' x) (hx : E x = some (.int k p)) (hS : P.underlying T = some d) (hT : P.underlying T' = some (.int k')) (hr : k'.wrap p = r) : Runs P E o w (.int k' r) w := fun ρ h => by
  unfold execOp; simp only [ho]; rw [h _ _ hx]; simp [convert, run_underlying hS, run_underlying hT, Conv.intToInt, hr]
theorem Runs.of_call {c : Call} {bi : Builtin} {vs : List Value} (ho : o.op = .call c) (hc : c.callee = .builtin bi) (hx : evL E c.args.toList = some vs)
    (hb : ∀ cs, (builtin bi c.argTypes o.type cs vs.toArray).run P w = .ok (.value v) w') : Runs P E o w v w' := fun ρ h => by
  have hargs : c.args.map ρ = vs.toArray := by
    apply Array.ext'
    rw [Array.toList_map, evL_map h hx]
  unfold execOp
  simp only [ho, resolve, hc, hargs, Sem.run_bind, Sem.run_pure, Result.andThen_ok, invoke]
  exact hb _
theorem Runs.len {t : TypeId} {A : Option Addr} {n c : Nat} (ho : o.op = .call { callee := .builtin .len, args := #[x], argTypes := #[t] }) (hx : E x = some (.slice A n c)) {e : TypeId} (hT : P.underlying t = some (.slice e)) : Runs P E o w (.int .i64 (n : Int)) w :=
  .of_call ho rfl (vs := [.slice A n c]) (by simp only [evL, hx]) (fun cs => by simp [builtin, Builtin.len_, run_underlying hT, goInt])
theorem Runs.lenS {t : TypeId} {s : ByteArray} (ho : o.op = .call { callee := .builtin .len, args := #[x], argTypes := #[t] }) (hx : E x = some (.string s)) (hT : P.underlying t = some .string) : Runs P E o w (.int .i64 (s.size : Int)) w :=
  .of_call ho rfl (vs := [.string s]) (by simp only [evL, hx]) (fun cs => by simp [builtin, Builtin.len_, run_underlying hT, goInt])
theorem Runs.cap {t : TypeId} {A : Option Addr} {n c : Nat} (ho : o.op = .call { callee := .builtin .cap, args := #[x], argTypes := #[t] }) (hx : E x = some (.slice A n c)) {e : TypeId} (hT : P.underlying t = some (.slice e)) : Runs P E o w (.int .i64 (c : Int)) w :=
  .of_call ho rfl (vs := [.slice A n c]) (by simp only [evL, hx]) (fun cs => by simp [builtin, Builtin.cap_, run_underlying hT, goInt])
theorem Runs.min2 {ts : Array TypeId} (ho : o.op = .call { callee := .builtin .min, args := #[x, y], argTypes := ts }) (hx : E x = some (.int k p)) (hy : E y = some (.int k q)) : Runs P E o w (.int k (min p q)) w :=
  .of_call ho rfl (vs := [.int k p, .int k q]) (by simp only [evL, hx, hy]) (fun cs => by
    have : (if q < p then q else p) = min p q := by omega
    simp [builtin, Builtin.min_, Builtin.min2, this])
theorem Runs.max2 {ts : Array TypeId} (ho : o.op = .call { callee := .builtin .max, args := #[x, y], argTypes := ts }) (hx : E x = some (.int k p)) (hy : E y = some (.int k q)) : Runs P E o w (.int k (max p q)) w :=
  .of_call ho rfl (vs := [.int k p, .int k q]) (by simp only [evL, hx, hy]) (fun cs => by
    have : (if p < q then q else p) = max p q := by omega
    simp [builtin, Builtin.max_, Builtin.max2, this])

/-! memory -/
theorem Runs.load1 {ad : Addr} {d : TypeDesc} (ho : o.op = .load T x) (hx : E x = some (.pointer (some ad))) (hT : P.underlying T = some d) (hd : (match d with | .struct _ | .array _ _ => true | _ => false) = false) (hc : w.cell? ad = some v) : Runs P E o w v w := fun ρ h => by
  unfold execOp; simp only [ho]; rw [h _ _ hx]
  cases d <;> first | (simp at hd; done) | (simp [Instr.loadAt, Instr.sureAddr, loadVar, isAgg, run_underlying hT, hc])
theorem Runs.loadN {ad : Addr} {d : TypeDesc} {i : TypeInfo} {cs : List Value} (ho : o.op = .load T x) (hx : E x = some (.pointer (some ad))) (hT : P.underlying T = some d) (hd : (match d with | .struct _ | .array _ _ => true | _ => false) = true) (hi : P.info? T = some i) (hs : i.size = cs.length)
    (hc : ∀ j v, cs[j]? = some v → w.cell? (ad.add j) = some v) : Runs P E o w (.agg cs.toArray) w := fun ρ h => by
  unfold execOp; simp only [ho]; rw [h _ _ hx]
  simp only [Instr.loadAt, Instr.sureAddr, Sem.run_bind, Sem.run_pure, Result.andThen_ok, run_loadVar_cells w T d i ad cs hT hd hi hs hc]
theorem Runs.alloc_ {z : Value} (ho : o.op = .alloc T) (hz : ∀ w, (zeroValue T).run P w = .ok z w) : Runs P E o w (.pointer (some ⟨w.heap.size, 0, none⟩)) (w.alloc (.cells z.cells T)) := fun ρ h => by
  unfold execOp; simp only [ho, Instr.alloc, Sem.run_bind, hz, Result.andThen_ok]; rfl
theorem Runs.box_ (ho : o.op = .box T x) (hx : E x = some v) : Runs P E o w (.pointer (some ⟨w.heap.size, 0, none⟩)) (w.alloc (.cells v.cells T)) := fun ρ h => by
  unfold execOp; simp only [ho]; rw [h _ _ hx]; rfl
theorem Runs.build {ps : Array (Nat × Operand)} {vs : List (Nat × Value)} (ho : o.op = .build T ps) (hx : evP E ps.toList = some vs) (hb : (Instr.build T vs.toArray).run P w = .ok v w) : Runs P E o w v w := fun ρ h => by
  have hargs : ps.map (fun (i, x) => (i, ρ x)) = vs.toArray := by
    apply Array.ext'
    rw [Array.toList_map, evP_map h hx]
  unfold execOp; simp only [ho, hargs, Sem.run_bind, hb, Result.andThen_ok]; rfl
theorem Runs.buildSlice {ps : Array (Nat × Operand)} {n : Nat} {vs : List (Nat × Value)} (ho : o.op = .buildSlice T n ps) (hx : evP E ps.toList = some vs) (hb : (Instr.buildSlice T n vs.toArray).run P w = .ok v w') : Runs P E o w v w' := fun ρ h => by
  have hargs : ps.map (fun (i, x) => (i, ρ x)) = vs.toArray := by
    apply Array.ext'
    rw [Array.toList_map, evP_map h hx]
  unfold execOp; simp only [ho, hargs, Sem.run_bind, hb, Result.andThen_ok]; rfl
theorem Runs.fieldAddr {i : Nat} {u : Value} (ho : o.op = .fieldAddr T x i) (hx : E x = some u) (hb : (Instr.fieldAt T u i).run P w = .ok v w) : Runs P E o w v w := fun ρ h => by
  unfold execOp; simp only [ho]; rw [h _ _ hx]; simp only [Sem.run_bind, hb, Result.andThen_ok]; rfl
theorem Runs.field {i : Nat} {u : Value} (ho : o.op = .field T x i) (hx : E x = some u) (hb : (Instr.field T u i).run P w = .ok v w) : Runs P E o w v w := fun ρ h => by
  unfold execOp; simp only [ho]; rw [h _ _ hx]; simp only [Sem.run_bind, hb, Result.andThen_ok]; rfl
theorem Runs.indexAddr {ad : Addr} {j n c e : Nat} {i : TypeInfo} (ho : o.op = .indexAddr T x y) (hx : E x = some (.slice (some ad) n c)) (hy : E y = some (.int k p)) (hT : P.underlying T = some (.slice e)) (hi : P.info? e = some i) (hp : p = (j : Int)) (hlt : j < n) :
    Runs P E o w (.pointer (some (ad.add (j * i.size)))) w := fun ρ h => by
  subst hp
  unfold execOp; simp only [ho]; rw [h _ _ hx, h _ _ hy]
  simp [Instr.indexAt, run_underlying hT, asIntOf, sizeOf, typeInfo, hi, hlt]
theorem Runs.indexS {s : ByteArray} {j : Nat} {c : UInt8} (ho : o.op = .index T x y) (hx : E x = some (.string s)) (hy : E y = some (.int k p)) (hT : P.underlying T = some .string) (hp : p = (j : Int)) (hlt : s[j]? = some c) : Runs P E o w (.int .u8 (c.toNat : Int)) w := fun ρ h => by
  subst hp
  unfold execOp; simp only [ho]; rw [h _ _ hx, h _ _ hy]
  simp [Instr.index, run_underlying hT, asIntOf, hlt]
theorem Runs.extract {i : Nat} {vs : Array Value} (ho : o.op = .extract x i) (hx : E x = some (.tuple vs)) (hv : vs[i]? = some v) : Runs P E o w v w := fun ρ h => by
  unfold execOp; simp only [ho]; rw [h _ _ hx]; simp [Instr.extract, hv]
theorem Runs.makeFunc {fn : Fn} {a b : Array Operand} {us bs : List Value} (ho : o.op = .makeFunc fn a b) (ha : evL E a.toList = some us) (hb : evL E b.toList = some bs) (hm : (Instr.makeFunc fn us.toArray bs.toArray).run P w = .ok v w) : Runs P E o w v w := fun ρ h => by
  have h1 : a.map ρ = us.toArray := by apply Array.ext'; rw [Array.toList_map, evL_map h ha]
  have h2 : b.map ρ = bs.toArray := by apply Array.ext'; rw [Array.toList_map, evL_map h hb]
  unfold execOp; simp only [ho, h1, h2, Sem.run_bind, hm, Result.andThen_ok]; rfl
theorem RunsU.store1 {ad : Addr} {u : Value} {i : TypeInfo} (ho : o.op = .store T x y) (hx : E x = some (.pointer (some ad))) (hy : E y = some v) (hi : P.info? T = some i) (hs : i.size = 1) (h1 : v.cells = #[v]) (ho1 : v.oneCell' = true) (hc : w.cell? ad = some u) (hf : w.frozen? ad = false) :
    RunsU P E o w (w.setCell ad v) := fun ρ h => by
  unfold execOp; simp only [ho]; rw [h _ _ hx, h _ _ hy]
  have hst : (storeCells ad [v]).run P w = .ok () (w.setCell ad v) := by
    have hadd : ad.add 0 = ad := rfl
    cases v <;> first | (simp [Value.oneCell'] at ho1; done) | (simp only [storeCells, store, Sem.run_bind, hadd]; simp [Sem.run, hc, hf])
  have h2 : (Instr.storeAt T (.pointer (some ad)) v).run P w = .ok () (w.setCell ad v) := by
    simp only [Instr.storeAt, Instr.sureAddr, storeVar, sizeOf, typeInfo, Sem.run_bind, Sem.run_pure, Result.andThen_ok, h1]
    simp [hi, hs, hst]
  simp only [Sem.run_bind, h2, Result.andThen_ok]; rfl
theorem Enters.func {f : FuncId} {args : Array Operand} {ts : Array TypeId} {vs : List Value} (ho : o.op = .call { callee := .value (.func f), args := args, argTypes := ts }) (hf : E (.func f) = some (.func (.func f) #[] #[])) (hx : evL E args.toList = some vs)
    (he : ∀ args w, (callFunc f args).run P w = .ok (.enter f args) w) : Enters P E o w f vs.toArray := fun ρ h => by
  have hargs : args.map ρ = vs.toArray := by
    apply Array.ext'
    rw [Array.toList_map, evL_map h hx]
  unfold execOp
  simp only [ho, resolve, h _ _ hf, Deferred.ofValue, hargs, Sem.run_bind, Sem.run_pure, Result.andThen_ok, invoke]
  simp [he]
theorem Enters.value {f : FuncId} {args : Array Operand} {ts : Array TypeId} {vs : List Value} {first cap : List Value} (ho : o.op = .call { callee := .value x, args := args, argTypes := ts }) (hf : E x = some (.func (.func f) first.toArray cap.toArray)) (hx : evL E args.toList = some vs)
    (he : ∀ args w, (callFunc f args).run P w = .ok (.enter f args) w) : Enters P E o w f (first ++ vs ++ cap).toArray := fun ρ h => by
  have hargs : args.map ρ = vs.toArray := by
    apply Array.ext'
    rw [Array.toList_map, evL_map h hx]
  unfold execOp
  simp only [ho, resolve, h _ _ hf, Deferred.ofValue, hargs, Sem.run_bind, Sem.run_pure, Result.andThen_ok, invoke]
  simp [he]
end
end Go.Proofs.YtenikchlnfhikaaGreatDoor

namespace Go.RowKit
theorem Below.step {w0 w w' : World} (h : Below w0.heap.size w0 w) (hb : Below w.heap.size w w') : Below w0.heap.size w0 w' := h.trans (hb.mono h.size)
end Go.RowKit
namespace Go.Proofs.YtenikchlnfhikaaGreatDoor
open Go.RowKit

def sizePos (P : Program) (t : TypeId) : Bool := match P.info? t with | some i => Nat.ble 1 i.size | none => false
def sizeIs (P : Program) (t : TypeId) (n : Nat) : Bool := match P.info? t with | some i => Nat.beq i.size n | none => false
theorem sizeIs_spec {P : Program} {t : TypeId} {n : Nat} (h : sizeIs P t n = true) : ∃ i, P.info? t = some i ∧ i.size = n := by
  unfold sizeIs at h
  cases hi : P.info? t with
  | none => rw [hi] at h; cases h
  | some i => rw [hi] at h; exact ⟨i, rfl, Nat.eq_of_beq_eq_true h⟩
def offAt (fields : Array Field) (i : Nat) : Option (TypeId × Nat) := (fields[i]?).map fun f => (f.type, f.offset)
theorem run_fieldAt {P : Program} {T i k t : Nat} {fields : Array Field} (hT : P.underlying T = some (.struct fields)) (hf : offAt fields i = some (t, k)) (hs : sizePos P t = true) (ad : Addr) (w : World) :
    (Instr.fieldAt T (.pointer (some ad)) i).run P w = .ok (.pointer (some (ad.add k))) w := by
  unfold offAt at hf
  cases hfi : fields[i]? with
  | none => rw [hfi] at hf; cases hf
  | some f =>
    rw [hfi] at hf
    obtain ⟨rfl, rfl⟩ : f.type = t ∧ f.offset = k := by injection hf with h; injection h with h1 h2; exact ⟨h1, h2⟩
    obtain ⟨inf, hi, hsz⟩ : ∃ inf, P.info? f.type = some inf ∧ 1 ≤ inf.size := by
      unfold sizePos at hs
      cases h : P.info? f.type with
      | none => rw [h] at hs; cases hs
      | some inf => rw [h] at hs; exact ⟨inf, rfl, Nat.le_of_ble_eq_true hs⟩
    simp [Instr.fieldAt, run_underlying hT, hfi, Instr.sureAddr, fieldPlace, sizeOf, typeInfo, hi, show ¬ inf.size = 0 by omega]

section
variable {P : Program} {ops : Array Oper} {Q : Exit → Act → World → Prop} {rest : List Oper} {E : Operand → Option Value} {o : Oper} {n d : Nat} {F F' : List (Nat × Value)} {w w' : World} {v : Value} {x y : Operand} {T T' : TypeId}
variable [Inhabited (List Deferred)]

theorem Runs.fieldA {i t : Nat} (k : Nat) {fields : Array Field} {ad : Addr} (ho : o.op = .fieldAddr T x i) (hx : E x = some (.pointer (some ad))) (hT : P.underlying T = some (.struct fields)) (hf : offAt fields i = some (t, k)) (hs : sizePos P t = true) :
    Runs P E o w (.pointer (some (ad.add k))) w := .fieldAddr ho hx (run_fieldAt hT hf hs ad w)
/-- The same at the head of a block. -/
theorem Runs.fieldB {i t g : Nat} (k : Nat) {fields : Array Field} (ho : o.op = .fieldAddr T x i) (hx : E x = some (.pointer (some ⟨g, 0, none⟩))) (hT : P.underlying T = some (.struct fields)) (hf : offAt fields i = some (t, k)) (hs : sizePos P t = true) :
    Runs P E o w (.pointer (some ⟨g, k, none⟩)) w := by
  have h := Runs.fieldA (w := w) k ho hx hT hf hs
  have e : (⟨g, 0, none⟩ : Addr).add k = ⟨g, k, none⟩ := by unfold Addr.add; split <;> simp_all
  rwa [e] at h
/-- A cell of a block that is known whole. -/
theorem Runs.loadB {g i : Nat} {cs : Array Value} {t : TypeId} {d : TypeDesc} (ho : o.op = .load T x) (hx : E x = some (.pointer (some ⟨g, i, none⟩))) (hT : P.underlying T = some d) (hd : (match d with | .struct _ | .array _ _ => true | _ => false) = false) (hb : Blk w g t cs) (hi : cs[i]? = some v) : Runs P E o w v w :=
  .load1 ho hx hT hd ((hb.cell i).trans hi)
/-- The whole of a block. -/
theorem Runs.loadW {g : Nat} {cs : Array Value} {t : TypeId} {d : TypeDesc} (ho : o.op = .load T x) (hx : E x = some (.pointer (some ⟨g, 0, none⟩))) (hT : P.underlying T = some d) (hd : (match d with | .struct _ | .array _ _ => true | _ => false) = true) (hb : Blk w g t cs) {m : Nat} (hs : sizeIs P T m = true) (hm : cs.size = m) : Runs P E o w (.agg cs) w := by
  obtain ⟨i, hi, hsz⟩ := sizeIs_spec hs
  exact .loadN (cs := cs.toList) ho hx hT hd hi (by simpa [hm] using hsz) (fun j v hj => by
    have hadd : (⟨g, 0, none⟩ : Addr).add j = ⟨g, j, none⟩ := by unfold Addr.add; split <;> simp_all
    rw [hadd, hb.cell j]
    simpa using hj)

/-- A new block: what is said of it. -/
structure New (w w' : World) (g : Nat) (T : TypeId) (cs : Array Value) : Prop where
  ge : w.heap.size ≤ g
  blk : Blk w' g T cs
  below : Below w.heap.size w w'
theorem New.lt {g : Nat} {cs : Array Value} (h : New w w' g T cs) : g < w'.heap.size := h.blk.lt
theorem new_of (w : World) (cs : Array Value) (T : TypeId) : New w (w.alloc (.cells cs T)) w.heap.size T cs := ⟨Nat.le_refl _, Blk.new w T cs, (Below.refl _ _).alloc (Nat.le_refl _) _⟩

def zeroIs (P : Program) (t : TypeId) : Option (Option Value) := (P.info? t).map (·.zero)
theorem run_zero {t : TypeId} {z : Value} (h : zeroIs P t = some (some z)) (w : World) : (zeroValue t).run P w = .ok z w := by
  unfold zeroIs at h
  cases hi : P.info? t with
  | none => rw [hi] at h; cases h
  | some i =>
    rw [hi] at h
    have hz : i.zero = some z := by injection h
    simp [zeroValue, typeInfo, hi, hz]
theorem Seq.alloc {z : Value} (ho : o.op = .alloc T) (hz : ∀ w, (zeroValue T).run P w = .ok z w) (hg : o.guard = none) (hd : o.dst = some d) (hn : Nat.blt d n = true)
    (h : ∀ g w', New w w' g T z.cells → Seq P ops Q rest n ((d, .pointer (some ⟨g, 0, none⟩)) :: F) w') : Seq P ops Q (o :: rest) n F w :=
  Seq.val (Runs.alloc_ ho hz) hg hd hn (h _ _ (new_of w _ T))
theorem Seq.box (ho : o.op = .box T x) (hx : evF F x = some v) (hg : o.guard = none) (hd : o.dst = some d) (hn : Nat.blt d n = true)
    (h : ∀ g w', New w w' g T v.cells → Seq P ops Q rest n ((d, .pointer (some ⟨g, 0, none⟩)) :: F) w') : Seq P ops Q (o :: rest) n F w :=
  Seq.val (Runs.box_ ho hx) hg hd hn (h _ _ (new_of w _ T))
theorem Seq.buildSlice {ps : Array (Nat × Operand)} {m e : Nat} {vs : List (Nat × Value)} {cs : Array Value} (ho : o.op = .buildSlice T m ps) (hx : evP (evF F) ps.toList = some vs) (hb : ∀ w, (Instr.buildSlice T m vs.toArray).run P w = .ok (.slice (some ⟨w.heap.size, 0, none⟩) m m) (w.alloc (.cells cs e)))
    (hg : o.guard = none) (hd : o.dst = some d) (hn : Nat.blt d n = true)
    (h : ∀ g w', New w w' g e cs → Seq P ops Q rest n ((d, .slice (some ⟨g, 0, none⟩) m m) :: F) w') : Seq P ops Q (o :: rest) n F w :=
  Seq.val (Runs.buildSlice ho hx (hb w)) hg hd hn (h _ _ (new_of w _ e))

/-- A slice literal, every place written in its order. -/
def enumF : Nat → List Value → List (Nat × Value)
  | _, [] => []
  | k, v :: r => (k, v) :: enumF (k + 1) r
theorem enumF_zip (vs : List Value) : ∀ k, enumF k vs = (vs.zipIdx k).map fun x => (x.2, x.1) := by
  induction vs with
  | nil => intro k; rfl
  | cons v r ih => intro k; simp [enumF, ih]
def flatC : List Value → List Value
  | [] => []
  | v :: r => v.cells.toList ++ flatC r
theorem flatC_eq (vs : List Value) : vs.flatMap (fun v => v.cells.toList) = flatC vs := by
  induction vs with
  | nil => rfl
  | cons v r ih => rw [List.flatMap_cons, ih]; rfl
def sizes (s : Nat) : List Value → Prop
  | [] => True
  | v :: r => v.cells.size = s ∧ sizes s r
theorem sizes_spec {s : Nat} : ∀ {l : List Value}, sizes s l → ∀ v ∈ l, v.cells.size = s
  | [], _, _, h => by cases h
  | v :: r, h, u, hu => by
    rcases List.mem_cons.1 hu with rfl | hu
    · exact h.1
    · exact sizes_spec h.2 u hu
theorem Seq.slice {ps : Array (Nat × Operand)} {m e s : Nat} {vs : List Value} {z : Value} (ho : o.op = .buildSlice T m ps) (hx : evP (evF F) ps.toList = some (enumF 0 vs)) (hm : vs.length = m) (hT : P.underlying T = some (.slice e)) (hs : sizeIs P e s = true) (hz : zeroIs P e = some (some z)) (hs0 : 0 < s) (hsm : m * s ≤ 16777216) (hvs : sizes s vs)
    (hg : o.guard = none) (hd : o.dst = some d) (hn : Nat.blt d n = true)
    (h : ∀ g w', New w w' g e (flatC vs).toArray → Seq P ops Q rest n ((d, .slice (some ⟨g, 0, none⟩) m m) :: F) w') : Seq P ops Q (o :: rest) n F w := by
  obtain ⟨i, hi, hsz⟩ := sizeIs_spec hs
  have hz' : i.zero = some z := by unfold zeroIs at hz; rw [hi] at hz; injection hz
  subst hm
  rcases Nat.eq_zero_or_pos vs.length with h0 | h0
  · have : vs = [] := List.eq_nil_of_length_eq_zero h0
    subst this
    refine Seq.buildSlice (e := e) (cs := #[]) ho hx ?_ hg hd hn h
    intro w
    simp [Instr.buildSlice, run_underlying hT, sizeOf, typeInfo, hi, enumF, Instr.fill, newRow]
    have : Array.map (fun (_ : Nat) => (default : Value)) (Array.range 0) = #[] := Array.eq_empty_of_size_eq_zero (by simp)
    rw [this]
  · refine Seq.buildSlice (e := e) (cs := (flatC vs).toArray) ho hx (fun w => run_buildSlice w T e vs.length _ _ i z hT hi hz' (by rw [hsz]; omega) (by rw [hsz]; exact Nat.ne_of_gt (Nat.mul_pos h0 hs0)) ?_) hg hd hn h
    rw [hsz, enumF_zip, ← flatC_eq]
    exact Great.fill_whole hs0 vs _ (sizes_spec hvs) (by simp)

theorem madeCells_one (z : Value) (n : Nat) : madeCells #[z] n = (List.replicate n z).toArray := by
  apply Array.ext_getElem?
  intro i
  unfold madeCells
  rcases Nat.lt_or_ge i n with h | h
  · simp [h, List.getElem?_replicate, Nat.mod_one]
  · simp [Array.getElem?_eq_none, h]
/-- make([]T, n), T of one cell. -/
theorem Seq.make {k k' : IntKind} {c : Int} {m e b : Nat} {z : Value} (ho : o.op = .makeSlice T x y) (hx : evF F x = some (.int k c)) (hy : evF F y = some (.int k' c)) (hT : P.underlying T = some (.slice e)) (hs : sizeIs P e 1 = true) (hz : zeroIs P e = some (some z)) (hz1 : z.cells = #[z]) (hby : (P.info? e).map (·.bytes) = some b) (hc : c = (m : Int)) (hm : b * m ≤ 281474976710656) (h63 : m ≤ 9223372036854775807)
    (hg : o.guard = none) (hd : o.dst = some d) (hn : Nat.blt d n = true)
    (h : ∀ g w', New w w' g e (List.replicate m z).toArray → Seq P ops Q rest n ((d, .slice (some ⟨g, 0, none⟩) m m) :: F) w') : Seq P ops Q (o :: rest) n F w := by
  obtain ⟨i, hi, hsz⟩ := sizeIs_spec hs
  have hz' : i.zero = some z := by unfold zeroIs at hz; rw [hi] at hz; injection hz
  have hb' : i.bytes = b := by rw [hi] at hby; injection hby
  subst hc
  refine Seq.val (v := .slice (some ⟨w.heap.size, 0, none⟩) m m) (w' := w.alloc (.cells (List.replicate m z).toArray e)) (fun ρ h => ?_) hg hd hn (h _ _ (new_of w _ e))
  have hr := run_make (P := P) w T e i z hT hi hz' k k' m m (by omega) (Int.le_refl _) (by rw [hb', ← Int.natCast_mul]; omega) (by omega)
  rw [Int.toNat_natCast, hsz, hz1, Nat.mul_one, madeCells_one] at hr
  unfold execOp; simp only [ho]; rw [h _ _ hx, h _ _ hy]
  simp only [Sem.run_bind, hr, Result.andThen_ok]; rfl
/-- An element's place in a slice at the head of a block; T of one cell. -/
theorem Runs.indexB {k : IntKind} {g j m c e : Nat} {p : Int} (ho : o.op = .indexAddr T x y) (hx : E x = some (.slice (some ⟨g, 0, none⟩) m c)) (hy : E y = some (.int k p)) (hT : P.underlying T = some (.slice e)) (hs : sizeIs P e 1 = true) (hp : p = (j : Int)) (hlt : j < m) : Runs P E o w (.pointer (some ⟨g, j, none⟩)) w := by
  obtain ⟨i, hi, hsz⟩ := sizeIs_spec hs
  have h := Runs.indexAddr (w := w) ho hx hy hT hi hp hlt
  rw [hsz, Nat.mul_one] at h
  have e : (⟨g, 0, none⟩ : Addr).add j = ⟨g, j, none⟩ := by unfold Addr.add; split <;> simp_all
  rwa [e] at h
theorem Runs.indexN {k : IntKind} {ad : Addr} {j m c e s : Nat} {p : Int} (ho : o.op = .indexAddr T x y) (hx : E x = some (.slice (some ad) m c)) (hy : E y = some (.int k p)) (hT : P.underlying T = some (.slice e)) (hs : sizeIs P e s = true) (hp : p = (j : Int)) (hlt : j < m) : Runs P E o w (.pointer (some (ad.add (j * s)))) w := by
  obtain ⟨i, hi, hsz⟩ := sizeIs_spec hs
  have h := Runs.indexAddr (w := w) ho hx hy hT hi hp hlt
  rwa [hsz] at h
theorem cell_grow {w w' : World} {a : Addr} {v : Value} (hc : w.cell? a = some v) (hG : Below w.heap.size w w') : w'.cell? a = some v := (hG.cell (World.block_lt_of_cell? w a hc)).trans hc

/-- A store into one cell of a block of the call's own. -/
structure Put (w w' : World) (g : Nat) (T : TypeId) (cs : Array Value) : Prop where
  blk : Blk w' g T cs
  grown : w.grownBy w' (some g)
  size : w'.heap.size = w.heap.size
theorem put_of {g i : Nat} {t : TypeId} {cs : Array Value} (hb : Blk w g t cs) (v : Value) : Put w (w.setCell ⟨g, i, none⟩ v) g t (cs.setIfInBounds i v) :=
  ⟨hb.set_ i v, ⟨rfl, rfl, rfl, by simp [World.setCell], fun k hk hne => Below.heap_setCell w _ v k (fun e => hne (by rw [e]))⟩, by simp [World.setCell]⟩
theorem Put.below {g B : Nat} {cs : Array Value} (h : Put w w' g T cs) (hB : B ≤ g) (hg : g < w.heap.size) : Below B w w' := only_to_below h.grown hB hg
theorem Put.below_of {g B : Nat} {cs : Array Value} {w0 : World} (h : Put w w' g T cs) (hb : Below B w0 w) (hB : B ≤ g) (hg : g < w.heap.size) : Below B w0 w' := hb.trans (h.below hB hg)
theorem Seq.store1 {g i : Nat} {t : TypeId} {cs : Array Value} {u : Value} (ho : o.op = .store T x y) (hx : evF F x = some (.pointer (some ⟨g, i, none⟩))) (hy : evF F y = some v) (hs : sizeIs P T 1 = true) (h1 : v.cells = #[v]) (ho1 : v.oneCell' = true) (hb : Blk w g t cs) (hc : cs[i]? = some u)
    (hg : o.guard = none) (hd : o.dst = none) (h : ∀ w', Put w w' g t (cs.setIfInBounds i v) → Seq P ops Q rest n F w') : Seq P ops Q (o :: rest) n F w := by
  obtain ⟨inf, hi, hsz⟩ := sizeIs_spec hs
  exact Seq.unit (RunsU.store1 ho hx hy hi hsz h1 ho1 ((hb.cell i).trans hc) (hb.frozen i)) hg hd (h _ (put_of hb v))
def ones : List Value → Prop
  | [] => True
  | v :: r => v.oneCell' = true ∧ ones r
theorem ones_spec : ∀ {l : List Value}, ones l → ∀ u ∈ l, u.oneCell' = true
  | [], _, _, h => by cases h
  | v :: r, h, u, hu => by
    rcases List.mem_cons.1 hu with rfl | hu
    · exact h.1
    · exact ones_spec h.2 u hu
/-- A store of a whole struct into a block of the call's own. -/
theorem Seq.storeN {g off m : Nat} {t : TypeId} {cs cur : Array Value} (ho : o.op = .store T x y) (hx : evF F x = some (.pointer (some ⟨g, off, none⟩))) (hy : evF F y = some v) (hcs : v.cells = cs) (hs : sizeIs P T m = true) (hm : cs.size = m) (h1 : ones cs.toList) (hb : Blk w g t cur) (hfit : off + cs.size ≤ cur.size)
    (hg : o.guard = none) (hd : o.dst = none) (h : ∀ w', Put w w' g t (cur.toList.take off ++ (cs.toList ++ cur.toList.drop (off + cs.size))).toArray → Seq P ops Q rest n F w') : Seq P ops Q (o :: rest) n F w := by
  intro a ha
  obtain ⟨inf, hi, hsz⟩ := sizeIs_spec hs
  refine wpList_store_row hg T x y ho hd g off (ha.ev _ _ hx) cs (by rw [ha.ev _ _ hy, hcs]) inf hi (hsz.trans hm.symm) (ones_spec h1) t cur hb hfit fun w' h1 h2 h3 => h w' ⟨h1, h2, h3⟩ a ha
end
section
variable {P : Program} {ops : Array Oper} {Q : Exit → Act → World → Prop} {rest : List Oper} {E : Operand → Option Value} {o : Oper} {n d : Nat} {F F' : List (Nat × Value)} {w w' : World} {v : Value} {x y : Operand} {T T' : TypeId}
/-- A result that lies in a block. -/
theorem Post.endC {fn : Func} {R : Ending → World → Prop} {e : Exit} {p g : Nat} {ty t : TypeId} {cs : Array Value} {dsc : TypeDesc} (hr : fn.results = #[.cell p ty]) (hl : look F p = some (.pointer (some ⟨g, 0, none⟩))) (hb : Blk w g t cs) (hu : P.underlying ty = some dsc)
    (hd : (match dsc with | .struct _ | .array _ _ => true | _ => false) = true) {m : Nat} (hs : sizeIs P ty m = true) (hm : cs.size = m) (he : e = .ret ∨ e = .normal) (h : R (.returned (.agg cs)) w) : Post (bodyPost P fn R) e n F w :=
  Post.end_ (fun a ha => results_cell_row hr _ _ g t cs (0, 0) dsc (by simp [ha.slot p _ hl]) hb hu hd (by obtain ⟨inf, hi, hsz⟩ := sizeIs_spec hs; rw [hi, hm, ← hsz]; rfl)) he h
theorem Post.endC2 {fn : Func} {R : Ending → World → Prop} {e : Exit} {p q g : Nat} {ty t : TypeId} {cs : Array Value} {dsc : TypeDesc} (hr : fn.results = #[.cell p ty, .tmp q]) (hl : look F p = some (.pointer (some ⟨g, 0, none⟩))) (hq : look F q = some v) (hb : Blk w g t cs) (hu : P.underlying ty = some dsc)
    (hd : (match dsc with | .struct _ | .array _ _ => true | _ => false) = true) {m : Nat} (hs : sizeIs P ty m = true) (hm : cs.size = m) (he : e = .ret ∨ e = .normal) (h : R (.returned (.tuple #[.agg cs, v])) w) : Post (bodyPost P fn R) e n F w :=
  Post.end_ (fun a ha => by
    have hp' : a.tmps[p]?.getD undef = .pointer (some ⟨g, 0, none⟩) := by simp [ha.slot p _ hl]
    have e := run_loadVar_row (P := P) w g t ty cs (0, 0) dsc hb hu (by cases dsc <;> first | rfl | (simp at hd)) (by obtain ⟨inf, hi, hsz⟩ := sizeIs_spec hs; rw [hi, hm, ← hsz]; rfl)
    simp [results, hr, hp', asAddr, e, ha.slot q _ hq]) he h
end

/-- A cell of what came in. -/
structure Cell (w : World) (B : Nat) (a : Addr) (v : Value) : Prop where
  lt : a.block < B
  val : w.cell? a = some v
theorem Cell.step {w w' : World} {B : Nat} {a : Addr} {v : Value} (h : Cell w B a v) (hb : Below w.heap.size w w') : Cell w' B a v := ⟨h.lt, cell_grow h.val hb⟩
theorem Cell.put {w w' : World} {B g : Nat} {a : Addr} {v : Value} {T : TypeId} {cur cs : Array Value} (h : Cell w B a v) (_k : Blk w g T cur) (p : Put w w' g T cs) (e : B ≤ g) : Cell w' B a v :=
  ⟨h.lt, (World.cell?_of_block (p.grown.block a.block (World.block_lt_of_cell? w a h.val) (fun he => by injection he with he; have := h.lt; omega))).trans h.val⟩
/-! What was known stays known. -/
end Go.Proofs.YtenikchlnfhikaaGreatDoor
namespace Go.RowKit
open Go.Proofs.YtenikchlnfhikaaGreatDoor
theorem Below.put {w0 w w' : World} {g : Nat} {T : TypeId} {cur cs : Array Value} (h : Below w0.heap.size w0 w) (k : Blk w g T cur) (p : Put w w' g T cs) (e : w0.heap.size ≤ g) : Below w0.heap.size w0 w' := p.below_of h e k.lt
end Go.RowKit
namespace Go.Proofs.YtenikchlnfhikaaGreatDoor
open Go.RowKit
theorem Reads.put {w w' : World} {B size n g : Nat} {A : Option Addr} {xs : List Value} {T : TypeId} {cur cs : Array Value} (h : Reads w B size A n xs) (_k : Blk w g T cur) (p : Put w w' g T cs) (e : B ≤ g) : Reads w' B size A n xs := h.keep fun q hq => World.cell?_of_block (p.grown.block q.block (by have := _k.lt; omega) (fun he => by injection he with he; omega))
theorem Reads.new {w w' : World} {B size n g : Nat} {A : Option Addr} {xs : List Value} {T : TypeId} {cs : Array Value} (h : Reads w B size A n xs) (hB : B ≤ w.heap.size) (hn : New w w' g T cs) : Reads w' B size A n xs := h.below (hn.below.mono hB)
theorem Blk.step {w w' : World} {g : Nat} {T : TypeId} {cs : Array Value} (h : Blk w g T cs) (hb : Below w.heap.size w w') : Blk w' g T cs := h.below hb h.lt
theorem Blk.put {w w' : World} {g g' : Nat} {T T' : TypeId} {cs cs' : Array Value} (h : Blk w g T cs) (hp : Put w w' g' T' cs') (hne : g ≠ g') : Blk w' g T cs := h.grown hp.grown (fun e => hne (by injection e))
end Go.Proofs.YtenikchlnfhikaaGreatDoor

namespace Go.Proofs.YtenikchlnfhikaaGreatDoor
open Go.RowKit
variable [Inhabited (List Deferred)]

def directB : List Edge → List Nat
  | [] => []
  | e :: r => bif Region.binds .any e then e.on :: directB r else directB r
def direct (o : Oper) : List Nat := directB o.after.toList
theorem mem_directB {l : List Edge} {j : Nat} : j ∈ directB l ↔ ∃ e ∈ l, Region.binds .any e = true ∧ e.on = j := by
  induction l with
  | nil => simp [directB]
  | cons e r ih =>
    unfold directB
    cases h : Region.binds .any e
    · rw [cond_false, ih]
      constructor
      · rintro ⟨x, h1, h2, h3⟩; exact ⟨x, List.mem_cons_of_mem _ h1, h2, h3⟩
      · rintro ⟨x, h1, h2, h3⟩
        rcases List.mem_cons.1 h1 with rfl | h1
        · rw [h] at h2; cases h2
        · exact ⟨x, h1, h2, h3⟩
    · rw [cond_true, List.mem_cons, ih]
      constructor
      · rintro (rfl | ⟨x, h1, h2, h3⟩)
        · exact ⟨e, List.mem_cons_self, h, rfl⟩
        · exact ⟨x, List.mem_cons_of_mem _ h1, h2, h3⟩
      · rintro ⟨x, h1, h2, h3⟩
        rcases List.mem_cons.1 h1 with rfl | h1
        · exact .inl h3.symm
        · exact .inr ⟨x, h1, h2, h3⟩
theorem mem_direct {o : Oper} {j : Nat} : j ∈ direct o ↔ ∃ e ∈ o.after, Region.binds .any e = true ∧ e.on = j := by
  unfold direct
  rw [mem_directB]
  simp

inductive Fact where
  | eq (v : Value)
  | sat (Φ : Value → World → Prop)
def Fact.holds : Fact → Value → World → Prop
  | .eq v, u, _ => u = v
  | .sat Φ, u, w => Φ u w
abbrev Env := List (Nat × Option Nat × Fact)
def Env.find : Env → Nat → Option (Option Nat × Fact)
  | [], _ => none
  | (i, d, f) :: r, j => bif Nat.beq i j then some (d, f) else Env.find r j
def memB : List Nat → Nat → Bool
  | [], _ => false
  | x :: r, j => bif Nat.beq x j then true else memB r j
theorem memB_spec {l : List Nat} {j : Nat} (h : memB l j = true) : j ∈ l := by
  induction l with
  | nil => cases h
  | cons x r ih =>
    unfold memB at h
    cases hb : Nat.beq x j with
    | true => exact List.mem_cons.2 (.inl (Nat.eq_of_beq_eq_true hb).symm)
    | false => rw [hb] at h; exact List.mem_cons.2 (.inr (ih h))
theorem memB_of {l : List Nat} {j : Nat} (h : j ∈ l) : memB l j = true := by
  induction l with
  | nil => cases h
  | cons x r ih =>
    unfold memB
    cases hb : Nat.beq x j with
    | true => rfl
    | false =>
      rcases List.mem_cons.1 h with rfl | h
      · exact absurd rfl (Nat.ne_of_beq_eq_false hb)
      · exact ih h

/-- What is known at an operation: of its predecessors' slots, and of the frame. -/
def lookE (F0 : List (Nat × Value)) (ds : List Nat) (t : Nat) : Env → Option Value
  | [] => look F0 t
  | (j, some d, .eq v) :: r => bif Nat.beq d t then (bif memB ds j then some v else none) else lookE F0 ds t r
  | (_, some d, .sat _) :: r => bif Nat.beq d t then none else lookE F0 ds t r
  | (_, none, _) :: r => lookE F0 ds t r
def evX (X F0 : List (Nat × Value)) (Γ : Env) (o : Oper) : Operand → Option Value
  | .tmp t => match look X t with
    | some v => some v
    | none => lookE F0 (direct o) t Γ
  | .const v => some v
  | .global g => some (.pointer (some ⟨g, 0, none⟩))
  | .func f => some (.func (.func f) #[] #[])

section
variable (P : Program) (ops : Array Oper) (Q : Exit → Act → World → Prop) (n : Nat) (F0 : List (Nat × Value)) (G : World → World → Prop) (w0 : World)

/-- The facts of some operations hold in this frame and world. -/
def Facts (Γ : Env) (S : Nat → Prop) (a : Act) (w : World) : Prop := ∀ j d f, Env.find Γ j = some (d, f) → S j → ∃ u, (∀ t, d = some t → a.tmps[t]? = some u) ∧ f.holds u w
def StepX (X : List (Nat × Value)) (W : World → Prop) (Γ : Env) (o : Oper) (f : Fact) : Prop := ∀ a w, a.tmps.size = n → G w0 w → W w → Facts Γ (· ∈ direct o) a w → (∀ t v, look F0 t = some v → a.tmps[t]? = some v) → (∀ t v, look X t = some v → a.tmps[t]? = some v) →
  if Region.wanted o (yielded ops a.tmps) then o.wp P a w (fun a' w' => ∃ u, a' = a.put o.dst u ∧ G w w' ∧ f.holds u w') Q else f.holds undef w
def FinX (tail : List Oper) (X : List (Nat × Value)) (W : World → Prop) (Γ : Env) : Prop := ∀ a w, a.tmps.size = n → a.defers = default → G w0 w → W w → Facts Γ (fun _ => True) a w → (∀ t v, look F0 t = some v → a.tmps[t]? = some v) → (∀ t v, look X t = some v → a.tmps[t]? = some v) → wpList P ops Q tail a w
def Fact.Stable : Fact → Prop
  | .eq _ => True
  | .sat Φ => ∀ v w w', G w w' → Φ v w → Φ v w'
/-- An operation that may come up behind the others: it touches no memory. -/
def Late (X : List (Nat × Value)) (W : World → Prop) (Γ : Env) (o : Oper) (f : Fact) : Prop := ∃ v, f = .eq v ∧ ∀ a w, a.tmps.size = n → G w0 w → W w → Facts Γ (· ∈ direct o) a w → (∀ t v, look F0 t = some v → a.tmps[t]? = some v) → (∀ t v, look X t = some v → a.tmps[t]? = some v) → Yields P ops o v a
/-- The new pointers of some operations differ. -/
def Dst (AL : List Nat) (Γ : Env) (S : Nat → Prop) (a : Act) : Prop := ∀ i j di dj fi fj gi gj, i ≠ j → Env.find Γ i = some (some di, fi) → Env.find Γ j = some (some dj, fj) → memB AL i = true → memB AL j = true → S i → S j →
  a.tmps[di]? = some (.pointer (some ⟨gi, 0, none⟩)) → a.tmps[dj]? = some (.pointer (some ⟨gj, 0, none⟩)) → gi ≠ gj
/-- They lie within the heap. -/
def Within (AL : List Nat) (Γ : Env) (S : Nat → Prop) (a : Act) (w : World) : Prop := ∀ i di fi gi, Env.find Γ i = some (some di, fi) → memB AL i = true → S i → a.tmps[di]? = some (.pointer (some ⟨gi, 0, none⟩)) → gi < w.heap.size
def FinD (AL : List Nat) (tail : List Oper) (X : List (Nat × Value)) (W : World → Prop) (Γ : Env) : Prop := ∀ a w, a.tmps.size = n → a.defers = default → G w0 w → W w → Facts Γ (fun _ => True) a w → (∀ t v, look F0 t = some v → a.tmps[t]? = some v) → (∀ t v, look X t = some v → a.tmps[t]? = some v) → Dst AL Γ (fun _ => True) a → wpList P ops Q tail a w
def DrW (L : List Nat) (B : Env → Prop) : Nat → List Oper → Env → Prop
  | _, [], Γ => B Γ
  | k, o :: r, Γ => ∃ f, Fact.Stable G f ∧ StepX P ops Q n F0 G w0 [] (fun _ => True) Γ o f ∧ (memB L k = true → Late P ops n F0 G w0 [] (fun _ => True) Γ o f) ∧ DrW L B (k + 1) r ((k, o.dst, f) :: Γ)
end

/-- The edges are such as the law asks. -/
def ltAll (k : Nat) : List Nat → Bool
  | [] => true
  | x :: r => bif Nat.blt x k then ltAll k r else false
theorem ltAll_spec {k : Nat} {l : List Nat} (h : ltAll k l = true) : ∀ x ∈ l, x < k := by
  induction l with
  | nil => intro x hx; cases hx
  | cons y r ih =>
    unfold ltAll at h
    cases hb : Nat.blt y k with
    | false => rw [hb] at h; cases h
    | true =>
      rw [hb] at h
      intro x hx
      rcases List.mem_cons.1 hx with rfl | hx
      · exact Nat.blt_eq.mp hb
      · exact ih h x hx
/-- Every operation's edges go back; slots are in range, different from one another and from the frame's. -/
def chkInit (n : Nat) (keys : List Nat) : Nat → List Nat → List Oper → Bool
  | _, _, [] => true
  | k, ds, o :: r => bif ltAll k (direct o) then (match o.dst with
    | some d => bif Nat.blt d n && !memB ds d && !memB keys d then chkInit n keys (k + 1) (d :: ds) r else false
    | none => chkInit n keys (k + 1) ds r) else false
def chkTail : Nat → List Oper → Bool
  | _, [] => true
  | k, o :: r => bif ltAll k (direct o) && memB (direct o) (k - 1) then chkTail (k + 1) r else false
/-- Number j is a predecessor of some one behind it, which is none of L. -/
def hasNext (L : List Nat) (j : Nat) : Nat → List Oper → Bool
  | _, [] => false
  | i, o :: r => bif memB (direct o) j && !memB L i then true else hasNext L j (i + 1) r
def chkMeet (L : List Nat) : Nat → List Oper → List Oper → Bool
  | _, [], _ => true
  | j, _ :: r, t => bif memB L j || hasNext L j (j + 1) (r ++ t) then chkMeet L (j + 1) r t else false
/-- Number i, o, is apart from each other one that does not wait for it, and for which it does not wait. -/
def chkApart (ops : Array Oper) (i : Nat) (o : Oper) : Nat → List Oper → Bool
  | _, [] => true
  | j, x :: r => (Nat.beq i j || memB (direct x) i || memB (direct o) j || o.apart ops x) && chkApart ops i o (j + 1) r
def chkLate (ops : Array Oper) : List Nat → Bool
  | [] => true
  | i :: r => (match ops[i]? with
    | some o => chkApart ops i o 0 ops.toList
    | none => false) && chkLate ops r
def noSel : List Oper → Bool
  | [] => true
  | o :: r => (match o.op with | .select .. => false | _ => true) && noSel r
def chkAll (n : Nat) (keys : List Nat) (L : List Nat) (init tail : List Oper) : Bool := chkInit n keys 0 [] init && (match tail with
  | [] => true
  | o :: r => ltAll init.length (direct o) && chkMeet L 0 init [o] && chkTail (init.length + 1) r) && ltAll init.length L && (match L with
  | [] => true
  | _ => chkLate (init ++ tail).toArray L && noSel (init ++ tail))
def keysOf : List (Nat × Value) → List Nat
  | [] => []
  | (k, _) :: r => k :: keysOf r
theorem look_keys {F : List (Nat × Value)} {t : Nat} {v : Value} (h : look F t = some v) : t ∈ keysOf F := by
  induction F with
  | nil => cases h
  | cons p r ih =>
    obtain ⟨k, u⟩ := p
    rcases look_put h with ⟨rfl, -⟩ | ⟨-, h⟩
    · exact List.mem_cons.2 (.inl rfl)
    · exact List.mem_cons.2 (.inr (ih h))

theorem chkInit_spec {n : Nat} {keys : List Nat} : ∀ {l : List Oper} {k : Nat} {ds : List Nat}, chkInit n keys k ds l = true → ∀ i o, l[i]? = some o → (∀ x ∈ direct o, x < k + i) ∧ (∀ d, o.dst = some d → d < n ∧ d ∉ ds ∧ d ∉ keys ∧ ∀ i' o', l[i']? = some o' → i' ≠ i → o'.dst ≠ some d)
  | [], _, _, _, i, o, ho => by simp at ho
  | o :: r, k, ds, h, i, o1, ho => by
    unfold chkInit at h
    cases h1 : ltAll k (direct o) with
    | false => rw [h1] at h; cases h
    | true =>
      rw [h1] at h
      cases hd : o.dst with
      | none =>
        rw [hd] at h
        have ih := chkInit_spec (l := r) h
        cases i with
        | zero =>
          obtain rfl : o = o1 := by simpa using ho
          exact ⟨ltAll_spec h1, fun d e => by rw [hd] at e; cases e⟩
        | succ i =>
          have ho' : r[i]? = some o1 := by simpa using ho
          obtain ⟨a1, a2⟩ := ih i o1 ho'
          refine ⟨fun x hx => by have := a1 x hx; omega, fun d e => ?_⟩
          obtain ⟨b1, b2, b3, b4⟩ := a2 d e
          refine ⟨b1, b2, b3, fun i' o' h' hne => ?_⟩
          cases i' with
          | zero =>
            obtain rfl : o = o' := by simpa using h'
            rw [hd]; simp
          | succ i' => exact b4 i' o' (by simpa using h') (by omega)
      | some d0 =>
        rw [hd] at h
        simp only at h
        cases hc : (Nat.blt d0 n && !memB ds d0 && !memB keys d0) with
        | false => rw [hc] at h; cases h
        | true =>
          rw [hc] at h
          simp only [Bool.and_eq_true, Bool.not_eq_true'] at hc
          obtain ⟨⟨c1, c2⟩, c3⟩ := hc
          have ih := chkInit_spec (l := r) h
          cases i with
          | zero =>
            obtain rfl : o = o1 := by simpa using ho
            refine ⟨ltAll_spec h1, fun d e => ?_⟩
            obtain rfl : d0 = d := by rw [hd] at e; injection e
            refine ⟨Nat.blt_eq.mp c1, (fun hm => by rw [memB_of hm] at c2; cases c2), (fun hm => by rw [memB_of hm] at c3; cases c3), fun i' o' h' hne => ?_⟩
            cases i' with
            | zero => exact absurd rfl hne
            | succ i' =>
              intro e'
              exact ((ih i' o' (by simpa using h')).2 d0 e').2.1 (List.mem_cons.2 (.inl rfl))
          | succ i =>
            have ho' : r[i]? = some o1 := by simpa using ho
            obtain ⟨a1, a2⟩ := ih i o1 ho'
            refine ⟨fun x hx => by have := a1 x hx; omega, fun d e => ?_⟩
            obtain ⟨b1, b2, b3, b4⟩ := a2 d e
            refine ⟨b1, fun hm => b2 (List.mem_cons.2 (.inr hm)), b3, fun i' o' h' hne => ?_⟩
            cases i' with
            | zero =>
              obtain rfl : o = o' := by simpa using h'
              rw [hd]
              intro e'
              injection e' with e'
              exact b2 (List.mem_cons.2 (.inl e'.symm))
            | succ i' => exact b4 i' o' (by simpa using h') (by omega)
theorem chkTail_spec : ∀ {l : List Oper} {k : Nat}, chkTail k l = true → ∀ i o, l[i]? = some o → (∀ x ∈ direct o, x < k + i) ∧ k + i - 1 ∈ direct o
  | [], _, _, i, o, ho => by simp at ho
  | o :: r, k, h, i, o1, ho => by
    unfold chkTail at h
    cases hc : (ltAll k (direct o) && memB (direct o) (k - 1)) with
    | false => rw [hc] at h; cases h
    | true =>
      rw [hc] at h
      simp only [Bool.and_eq_true] at hc
      cases i with
      | zero =>
        obtain rfl : o = o1 := by simpa using ho
        exact ⟨ltAll_spec hc.1, memB_spec hc.2⟩
      | succ i =>
        obtain ⟨a1, a2⟩ := chkTail_spec (l := r) h i o1 (by simpa using ho)
        exact ⟨fun x hx => by have := a1 x hx; omega, by rw [show k + (i + 1) - 1 = k + 1 + i - 1 from by omega]; exact a2⟩
theorem hasNext_spec {L : List Nat} {j : Nat} : ∀ {l : List Oper} {k : Nat}, hasNext L j k l = true → ∃ (i : Nat) (o : Oper), l[i]? = some o ∧ j ∈ direct o ∧ memB L (k + i) = false
  | [], _, h => by cases h
  | o :: r, k, h => by
    unfold hasNext at h
    cases hb : (memB (direct o) j && !memB L k) with
    | true =>
      simp only [Bool.and_eq_true, Bool.not_eq_true'] at hb
      exact ⟨0, o, rfl, memB_spec hb.1, hb.2⟩
    | false =>
      rw [hb] at h
      obtain ⟨i, o', h1, h2, h3⟩ := hasNext_spec (l := r) h
      exact ⟨i + 1, o', by simpa using h1, h2, by rw [show k + (i + 1) = k + 1 + i from by omega]; exact h3⟩
theorem chkMeet_spec {L : List Nat} : ∀ {l t : List Oper} {k : Nat}, chkMeet L k l t = true → ∀ j, j < l.length → memB L (k + j) = false → ∃ (i : Nat) (o : Oper), j < i ∧ (l ++ t)[i]? = some o ∧ k + j ∈ direct o ∧ memB L (k + i) = false
  | [], _, _, _, j, hj, _ => by simp at hj
  | o :: r, t, k, h, j, hj, hL => by
    unfold chkMeet at h
    cases hb : (memB L k || hasNext L k (k + 1) (r ++ t)) with
    | false => rw [hb] at h; cases h
    | true =>
      rw [hb] at h
      cases j with
      | zero =>
        rw [Nat.add_zero] at hL
        rw [hL, Bool.false_or] at hb
        obtain ⟨i, o', h1, h2, h3⟩ := hasNext_spec hb
        exact ⟨i + 1, o', by omega, by simpa using h1, by simpa using h2, by rw [show k + (i + 1) = k + 1 + i from by omega]; exact h3⟩
      | succ j =>
        obtain ⟨i, o', h1, h2, h3, h4⟩ := chkMeet_spec (l := r) h j (by simpa using hj) (by rw [show k + 1 + j = k + (j + 1) from by omega]; exact hL)
        exact ⟨i + 1, o', by omega, by simpa using h2, by rw [show k + (j + 1) = k + 1 + j from by omega]; exact h3, by rw [show k + (i + 1) = k + 1 + i from by omega]; exact h4⟩
theorem chkApart_spec {ops : Array Oper} {i : Nat} {o : Oper} : ∀ {l : List Oper} {k : Nat}, chkApart ops i o k l = true → ∀ j x, l[j]? = some x → i ≠ k + j → i ∉ direct x → k + j ∉ direct o → o.apart ops x = true
  | [], _, _, j, x, hx, _, _, _ => by simp at hx
  | y :: r, k, h, j, x, hx, h1, h2, h3 => by
    simp only [chkApart, Bool.and_eq_true, Bool.or_eq_true] at h
    cases j with
    | zero =>
      obtain rfl : y = x := by simpa using hx
      rcases h.1 with ((ha | ha) | ha) | ha
      · exact absurd (Nat.eq_of_beq_eq_true ha) h1
      · exact absurd (memB_spec ha) h2
      · exact absurd (memB_spec ha) h3
      · exact ha
    | succ j => exact chkApart_spec (l := r) h.2 j x (by simpa using hx) (by omega) h2 (by rw [show k + 1 + j = k + (j + 1) from by omega]; exact h3)
theorem chkLate_spec {ops : Array Oper} : ∀ {L : List Nat}, chkLate ops L = true → ∀ i o, memB L i = true → ops[i]? = some o → ∀ j x, ops[j]? = some x → i ≠ j → i ∉ direct x → j ∉ direct o → o.apart ops x = true
  | [], _, i, o, hi, _ => by cases hi
  | k :: r, h, i, o, hi, ho => by
    simp only [chkLate, Bool.and_eq_true] at h
    intro j x hx h1 h2 h3
    rcases List.mem_cons.1 (memB_spec hi) with rfl | hm
    · have h0 := h.1
      rw [ho] at h0
      exact chkApart_spec h0 j x (by simpa using hx) (by omega) h2 (by simpa using h3)
    · exact chkLate_spec h.2 i o (memB_of hm) ho j x hx h1 h2 h3
theorem noSel_spec : ∀ {l : List Oper}, noSel l = true → ∀ (j : Nat) (o : Oper) cs b, l[j]? = some o → o.op ≠ .select cs b
  | [], _, j, o, _, _, ho => by simp at ho
  | x :: r, h, j, o, cs, b, ho => by
    simp only [noSel, Bool.and_eq_true] at h
    cases j with
    | zero =>
      obtain rfl : x = o := by simpa using ho
      intro e
      rw [e] at h
      exact absurd h.1 (by simp)
    | succ j => exact noSel_spec h.2 j o cs b (by simpa using ho)

section
variable {P : Program} {ops : Array Oper} {Q : Exit → Act → World → Prop} {n : Nat} {F0 : List (Nat × Value)} {G : World → World → Prop} {w0 : World}

theorem ready_iff {listed : Array Bool} {j : Nat} : j ∈ Region.ready .any ops listed ↔ listed.getD j true = false ∧ ∃ o, ops[j]? = some o ∧ ∀ x ∈ direct o, listed.getD x false = true := by
  rw [mem_ready]
  constructor
  · rintro ⟨h0, o, ho, h⟩
    refine ⟨h0, o, ho, fun x hx => ?_⟩
    obtain ⟨e, he, hb, rfl⟩ := mem_direct.1 hx
    exact h e he hb
  · rintro ⟨h0, o, ho, h⟩
    exact ⟨h0, o, ho, fun e he hb => h _ (mem_direct.2 ⟨e, he, hb, rfl⟩)⟩
theorem getD_both {listed : Array Bool} {i : Nat} (h : listed.getD i true = false) : listed.getD i false = false := by
  rcases Nat.lt_or_ge i listed.size with hl | hl
  · simp [hl] at h ⊢; exact h
  · simp [Array.getElem?_eq_none hl] at h
theorem getD_both' {listed : Array Bool} {i : Nat} (hl : i < listed.size) (h : listed.getD i false = true) : listed.getD i true = true := by simp [hl] at h ⊢; exact h
theorem getD_set_self {listed : Array Bool} {i : Nat} (d : Bool) (hl : i < listed.size) : (listed.setIfInBounds i true).getD i d = true := by simp [hl]

/-- How many have not come up. -/
def left (listed : Array Bool) : Nat → Nat
  | 0 => 0
  | k + 1 => left listed k + (if listed.getD k true then 0 else 1)
theorem left_set {listed : Array Bool} {i : Nat} (hl : i < listed.size) (h : listed.getD i true = false) : ∀ k, left (listed.setIfInBounds i true) k + (if i < k then 1 else 0) = left listed k
  | 0 => by simp [left]
  | k + 1 => by
    have ih := left_set hl h k
    unfold left
    by_cases hik : i = k
    · subst hik
      rw [getD_set_self true hl, h]
      simp at ih ⊢
      omega
    · rw [getD_set_ne true hik]
      by_cases h2 : i < k
      · rw [if_pos h2] at ih; rw [if_pos (show i < k + 1 by omega)]; omega
      · rw [if_neg h2] at ih; rw [if_neg (show ¬ i < k + 1 by omega)]; omega
theorem left_zero {listed : Array Bool} : ∀ {k : Nat}, left listed k = 0 → ∀ i, i < k → listed.getD i true = true
  | 0, _, i, hi => by omega
  | k + 1, h, i, hi => by
    unfold left at h
    rcases Nat.lt_or_ge i k with h1 | h1
    · exact left_zero (by omega) i h1
    · obtain rfl : i = k := by omega
      cases hb : listed.getD i true with
      | true => rfl
      | false => rw [hb] at h; simp at h

/-- Behind the first part, the others come up in their order. -/
theorem phase2 {init tail : List Oper} (hops : ops = (init ++ tail).toArray) (h0 : ∀ o, tail[0]? = some o → ∀ x ∈ direct o, x < init.length) (ht : ∀ i o, tail[i + 1]? = some o → (∀ x ∈ direct o, x < init.length + 1 + i) ∧ init.length + 1 + i - 1 ∈ direct o) :
    ∀ (fuel r : Nat) (listed : Array Bool) (a : Act) (w : World), listed.size = ops.size → r ≤ tail.length → (∀ i, i < init.length + r → listed.getD i true = true) → (∀ i, init.length + r ≤ i → i < ops.size → listed.getD i true = false) → tail.length ≤ r + fuel →
      wpList P ops Q (tail.drop r) a w → wpAny P .any ops Q fuel listed a w := by
  have hsz : ops.size = init.length + tail.length := by rw [hops]; simp
  have hat : ∀ r, ops[init.length + r]? = tail[r]? := fun r => by rw [hops]; simp [List.getElem?_append_right]
  have done : ∀ (listed : Array Bool), listed.size = ops.size → (∀ i, i < ops.size → listed.getD i true = true) → Region.ready .any ops listed = [] := by
    intro listed hl h
    rw [List.eq_nil_iff_forall_not_mem]
    intro j hj
    obtain ⟨h1, o, ho, _⟩ := ready_iff.1 hj
    rw [h j (Array.getElem?_eq_some_iff.1 ho).1] at h1
    cases h1
  intro fuel
  induction fuel with
  | zero =>
    intro r listed a w hl hr h1 h2 hf hw
    obtain rfl : r = tail.length := by omega
    rw [List.drop_length] at hw
    exact ⟨done listed hl (fun i hi => h1 i (by omega)), hw⟩
  | succ fuel ih =>
    intro r listed a w hl hr h1 h2 hf hw
    rcases Nat.lt_or_ge r tail.length with hlt | hge
    · have hro : tail[r]? = some tail[r] := List.getElem?_eq_getElem hlt
      have hready : init.length + r ∈ Region.ready .any ops listed := by
        refine ready_iff.2 ⟨h2 _ (Nat.le_refl _) (by omega), tail[r], by rw [hat, hro], fun x hx => ?_⟩
        have hlt' : x < init.length + r := by
          cases r with
          | zero => have := h0 _ hro x hx; omega
          | succ r => have := (ht r _ hro).1 x hx; omega
        have := h1 x hlt'
        cases hb : listed.getD x false with
        | true => rfl
        | false =>
          have hxl : x < listed.size := by omega
          simp [hxl] at this hb
          rw [this] at hb; cases hb
      refine ⟨fun h => (by rw [h] at hready; cases hready), fun i hi => ?_⟩
      obtain ⟨g1, o, ho, g2⟩ := ready_iff.1 hi
      have hi' : i < ops.size := (Array.getElem?_eq_some_iff.1 ho).1
      have hir : i = init.length + r := by
        rcases Nat.lt_or_ge i (init.length + r) with hh | hh
        · rw [h1 i hh] at g1; cases g1
        · rcases Nat.eq_or_lt_of_le hh with e | hgt
          · exact e.symm
          · exfalso
            obtain ⟨q, rfl⟩ : ∃ q, i = init.length + (q + 1) := ⟨i - init.length - 1, by omega⟩
            rw [hat] at ho
            have h3 := g2 _ (ht q o ho).2
            have h4 := h2 (init.length + 1 + q - 1) (by omega) (by omega)
            rw [getD_both h4] at h3
            cases h3
      subst hir
      rw [hat, hro] at ho
      have e : tail.drop r = tail[r] :: tail.drop (r + 1) := List.drop_eq_getElem_cons hlt
      rw [e] at hw
      have hstep : wpOp P ops Q (init.length + r) (wpList P ops Q (tail.drop (r + 1))) a w := by
        unfold wpOp
        rw [hat, hro]
        exact hw
      refine wpOp_mono (fun a' w' hh => ih (r + 1) _ a' w' (by simp [hl]) (by omega) (fun i hi => ?_) (fun i hi hi2 => ?_) (by omega) hh) hstep
      · by_cases hir : init.length + r = i
        · rw [← hir, getD_set_self true (by omega)]
        · rw [getD_set_ne true hir]; exact h1 i (by omega)
      · rw [getD_set_ne true (by omega)]; exact h2 i (by omega) hi2
    · obtain rfl : r = tail.length := by omega
      rw [List.drop_length] at hw
      have := done listed hl (fun i hi => h1 i (by omega))
      exact ⟨fun _ => hw, by rw [this]; intro i hi; cases hi⟩

theorem DrW.mono {L : List Nat} {B B' : Env → Prop} (hB : ∀ Γ, B Γ → B' Γ) : ∀ (l : List Oper) (k : Nat) (Γ : Env), DrW P ops Q n F0 G w0 L B k l Γ → DrW P ops Q n F0 G w0 L B' k l Γ
  | [], _, Γ, h => hB Γ h
  | _ :: r, k, _, ⟨f, h1, h2, h3, h4⟩ => ⟨f, h1, h2, h3, DrW.mono hB r (k + 1) _ h4⟩
theorem DrW.out {L : List Nat} {B : Env → Prop} : ∀ (l : List Oper) (k : Nat) (Γ : Env), (∀ j, k ≤ j → Env.find Γ j = none) → DrW P ops Q n F0 G w0 L B k l Γ →
    ∃ Γ', B Γ' ∧ (∀ j, j < k → Env.find Γ' j = Env.find Γ j) ∧ (∀ j, k + l.length ≤ j → Env.find Γ' j = none) ∧
      ∀ i o, l[i]? = some o → ∃ f Γi, Env.find Γ' (k + i) = some (o.dst, f) ∧ Fact.Stable G f ∧ StepX P ops Q n F0 G w0 [] (fun _ => True) Γi o f ∧ (memB L (k + i) = true → Late P ops n F0 G w0 [] (fun _ => True) Γi o f) ∧ ∀ j, j < k + i → Env.find Γi j = Env.find Γ' j
  | [], k, Γ, hk, h => ⟨Γ, h, fun _ _ => rfl, fun j hj => hk j (by simpa using hj), fun i o ho => by simp at ho⟩
  | o :: r, k, Γ, hk, h => by
    obtain ⟨f, hs, hstep, hlate, hr⟩ := h
    have hne : ∀ j, j ≠ k → Env.find ((k, o.dst, f) :: Γ) j = Env.find Γ j := fun j hj => by
      show (bif Nat.beq k j then some (o.dst, f) else Env.find Γ j) = _
      cases hb : Nat.beq k j with
      | true => exact absurd (Nat.eq_of_beq_eq_true hb).symm hj
      | false => rfl
    have heq : Env.find ((k, o.dst, f) :: Γ) k = some (o.dst, f) := by
      show (bif Nat.beq k k then some (o.dst, f) else Env.find Γ k) = _
      rw [Nat.beq_refl]; rfl
    obtain ⟨Γ', h1, h2, h3, h4⟩ := DrW.out r (k + 1) _ (fun j hj => by rw [hne j (by omega)]; exact hk j (by omega)) hr
    refine ⟨Γ', h1, fun j hj => by rw [h2 j (by omega), hne j (by omega)], fun j hj => h3 j (by simp at hj; omega), fun i o' ho => ?_⟩
    cases i with
    | zero =>
      obtain rfl : o = o' := by simpa using ho
      exact ⟨f, Γ, by rw [Nat.add_zero, h2 k (by omega), heq], hs, hstep, hlate, fun j hj => by rw [h2 j (by omega), hne j (by omega)]⟩
    | succ i =>
      obtain ⟨f', Γi, a1, a2, a3, al, a4⟩ := h4 i o' (by simpa using ho)
      exact ⟨f', Γi, by rw [show k + (i + 1) = k + 1 + i from by omega]; exact a1, a2, a3, by rw [show k + (i + 1) = k + 1 + i from by omega]; exact al, fun j hj => a4 j (by omega)⟩

/-- An operation that makes a new block. -/
def Makes (P : Program) (o : Oper) : Prop := o.guard = none ∧ (∃ d, o.dst = some d) ∧ ∃ T z, o.op = .alloc T ∧ ∀ w, (zeroValue T).run P w = .ok z w
theorem Makes.wp {o : Oper} {a : Act} {w : World} {R : Act → World → Prop} (h : Makes P o) (hn : ∀ d, o.dst = some d → d < a.tmps.size) {K : Value → World → Prop} (hR : ∀ a' w', R a' w' → ∃ u, a' = a.put o.dst u ∧ K u w') (hx : o.wp P a w R Q) :
    o.wp P a w (fun a' w' => ∃ u, a' = a.put o.dst u ∧ K u w' ∧ u = .pointer (some ⟨w.heap.size, 0, none⟩) ∧ w.heap.size < w'.heap.size) Q := by
  obtain ⟨-, ⟨d, hd⟩, T, z, ho, hz⟩ := h
  have hr : (execOp a.eval o).run P w = .ok (.value (.pointer (some ⟨w.heap.size, 0, none⟩))) (w.alloc (.cells z.cells T)) := Runs.alloc_ (E := fun _ => none) ho hz a.eval (fun x u hxu => by cases hxu)
  unfold Oper.wp at hx ⊢
  rw [hr, Oper.upon_value] at hx ⊢
  obtain ⟨u, e, hK⟩ := hR _ _ hx
  have hu : u = .pointer (some ⟨w.heap.size, 0, none⟩) := by
    have := congrArg (fun (b : Act) => b.tmps[d]?) e
    rw [hd] at this
    simp [Act.put, hn d hd] at this
    exact this.symm
  subst hu
  exact ⟨_, rfl, hK, rfl, by show w.heap.size < (w.heap.push _).size; rw [Array.size_push]; omega⟩
theorem wp_draw {id : Nat} (L AL : List Nat) {init tail : List Oper} (hAL : ∀ i o, memB AL i = true → init[i]? = some o → Makes P o) (hALL : ∀ i, memB AL i = true → memB L i = false) (hGs : AL = [] ∨ ∀ w w', G w w' → w.heap.size ≤ w'.heap.size) (hQ : L = [] ∨ ∀ c (a : Act) d v w, Q (.panic c) (a.put d v) w → Q (.panic c) a w) (hm : P.follows .mixedOrders = true) (hops : ops = (init ++ tail).toArray) (hchk : chkAll n (keysOf F0) L init tail = true) (Gt : ∀ a b c, G a b → G b c → G a c) (Gr : ∀ w, G w w)
    {w : World} (hw0 : w0 = { w with drawn := w.drawn + 1 }) (h : DrW P ops Q n F0 G w0 L (FinD P ops Q n F0 G w0 AL tail [] (fun _ => True)) 0 init []) {a : Act} (ha : Fr n F0 a) : (Code.region id ops true).wp P Q a w := by
  refine wp_region_any hm ?_
  rw [← hw0]
  simp only [chkAll, Bool.and_eq_true] at hchk
  obtain ⟨⟨⟨hc1, hc2⟩, hcL⟩, hcl⟩ := hchk
  have hLlt : ∀ i, memB L i = true → i < init.length := fun i hi => ltAll_spec hcL i (memB_spec hi)
  have c1 := chkInit_spec hc1
  have hsz : ops.size = init.length + tail.length := by rw [hops]; simp
  have hat : ∀ i, i < init.length → ops[i]? = init[i]? := fun i hi => by rw [hops]; simp [List.getElem?_append_left hi]
  have hat2 : ∀ r, ops[init.length + r]? = tail[r]? := fun r => by rw [hops]; simp [List.getElem?_append_right]
  obtain ⟨Γ, hfin, -, hnone, hall⟩ := DrW.out init 0 [] (fun _ _ => rfl) h
  -- the tail's edges
  have t0 : ∀ o, tail[0]? = some o → ∀ x ∈ direct o, x < init.length := by
    intro o ho
    cases tail with
    | nil => simp at ho
    | cons o1 r =>
      obtain rfl : o1 = o := by simpa using ho
      simp only [Bool.and_eq_true] at hc2
      exact ltAll_spec hc2.1.1
  have ts : ∀ i o, tail[i + 1]? = some o → (∀ x ∈ direct o, x < init.length + 1 + i) ∧ init.length + 1 + i - 1 ∈ direct o := by
    intro i o ho
    cases tail with
    | nil => simp at ho
    | cons o1 r =>
      simp only [Bool.and_eq_true] at hc2
      exact chkTail_spec hc2.2 i o (by simpa using ho)
  have tm : ∀ o, tail[0]? = some o → ∀ j, j < init.length → memB L j = false → ∃ (i : Nat) (o' : Oper), j < i ∧ i ≤ init.length ∧ ops[i]? = some o' ∧ j ∈ direct o' ∧ memB L i = false := by
    intro o ho j hj hjL
    cases tail with
    | nil => simp at ho
    | cons o1 r =>
      simp only [Bool.and_eq_true] at hc2
      obtain ⟨i, o', h1, h2, h3, h4⟩ := chkMeet_spec hc2.1.2 j hj (by rw [Nat.zero_add]; exact hjL)
      rw [Nat.zero_add] at h3 h4
      have hi : i < (init ++ [o1]).length := (List.getElem?_eq_some_iff.1 h2).1
      simp at hi
      refine ⟨i, o', h1, by omega, ?_, h3, h4⟩
      rcases Nat.lt_or_ge i init.length with hlt | hge
      · rw [hat i hlt, ← h2, List.getElem?_append_left hlt]
      · obtain rfl : i = init.length := by omega
        have := hat2 0
        rw [Nat.add_zero] at this
        rw [this, ← h2, List.getElem?_append_right (Nat.le_refl _)]
        simp
  have bothT : ∀ (listed : Array Bool) x, listed.size = ops.size → x < ops.size → listed.getD x true = true → listed.getD x false = true := by
    intro listed x hl hx h
    have hxl : x < listed.size := by omega
    simp [hxl] at h ⊢; exact h
  -- the first part
  have key : ∀ (fuel : Nat) (listed : Array Bool) (a : Act) (w : World), listed.size = ops.size → (∀ i o, ops[i]? = some o → listed.getD i false = true → ∀ x ∈ direct o, listed.getD x false = true) → (∀ i, init.length ≤ i → i < ops.size → listed.getD i true = false) →
      a.tmps.size = n → a.defers = default → G w0 w → Facts Γ (fun j => listed.getD j false = true) a w → (∀ t v, look F0 t = some v → a.tmps[t]? = some v) → Dst AL Γ (fun j => listed.getD j false = true) a → Within AL Γ (fun j => listed.getD j false = true) a w → left listed ops.size ≤ fuel → wpAny P .any ops Q fuel listed a w := by
    intro fuel
    induction fuel with
    | zero =>
      intro listed a w hl hdc hts hsize hdef hG hF hs hDs hWn hf
      have hall1 := left_zero (Nat.le_zero.1 hf)
      have hlen : init.length = ops.size := by
        rcases Nat.lt_or_ge init.length ops.size with hh | hh
        · have := hall1 _ hh; rw [hts _ (Nat.le_refl _) hh] at this; cases this
        · omega
      refine phase2 hops t0 ts 0 0 listed a w hl (Nat.zero_le _) (fun i hi => hall1 i (by omega)) (fun i hi hi2 => by omega) (by omega) ?_
      rw [List.drop_zero]
      have hlis : ∀ j d f, Env.find Γ j = some (d, f) → listed.getD j false = true := fun j d f hj => by
        rcases Nat.lt_or_ge j init.length with hh | hh
        · exact bothT listed j hl (by omega) (hall1 j (by omega))
        · rw [hnone j (by omega)] at hj; cases hj
      exact hfin a w hsize hdef hG trivial (fun j d f hj _ => hF j d f hj (hlis j d f hj)) hs (fun t v ht => by simp [look] at ht) (fun i j di dj fi fj gi gj h1 h2 h3 h4 h5 _ _ h8 h9 => hDs i j di dj fi fj gi gj h1 h2 h3 h4 h5 (hlis i _ _ h2) (hlis j _ _ h3) h8 h9)
    | succ fuel ih =>
      intro listed a w hl hdc hts hsize hdef hG hF hs hDs hWn hf
      by_cases hdone : ∀ i, i < init.length → listed.getD i true = true
      · refine phase2 hops t0 ts (fuel + 1) 0 listed a w hl (Nat.zero_le _) (fun i hi => hdone i (by omega)) (fun i hi hi2 => hts i (by omega) hi2) ?_ ?_
        ·
          have : ∀ k, k ≤ tail.length → left listed (init.length + k) = left listed init.length + k := by
            intro k
            induction k with
            | zero => intro _; rfl
            | succ k ihk =>
              intro hk
              show left listed (init.length + k) + (if listed.getD (init.length + k) true then 0 else 1) = _
              rw [ihk (by omega), hts (init.length + k) (by omega) (by omega)]
              simp; omega
          have := this tail.length (Nat.le_refl _)
          rw [← hsz] at this
          omega
        · rw [List.drop_zero]
          have hlis : ∀ j d f, Env.find Γ j = some (d, f) → listed.getD j false = true := fun j d f hj => by
            rcases Nat.lt_or_ge j init.length with hh | hh
            · exact bothT listed j hl (by omega) (hdone j hh)
            · rw [hnone j (by omega)] at hj; cases hj
          exact hfin a w hsize hdef hG trivial (fun j d f hj _ => hF j d f hj (hlis j d f hj)) hs (fun t v ht => by simp [look] at ht) (fun i j di dj fi fj gi gj h1 h2 h3 h4 h5 _ _ h8 h9 => hDs i j di dj fi fj gi gj h1 h2 h3 h4 h5 (hlis i _ _ h2) (hlis j _ _ h3) h8 h9)
      ·
        have hex : ∃ i, i ∈ Region.ready .any ops listed := by
          have hex0 : ∃ i, i < init.length ∧ listed.getD i true = false := by
            refine Classical.byContradiction fun hno => hdone fun i hi => ?_
            cases hb : listed.getD i true with
            | true => rfl
            | false => exact absurd ⟨i, hi, hb⟩ hno
          have hmin : ∀ m i, i ≤ m → i < init.length → listed.getD i true = false → ∃ j, j < init.length ∧ listed.getD j true = false ∧ ∀ x, x < j → listed.getD x true = true := by
            intro m
            induction m with
            | zero => intro i hi h1 h2; exact ⟨i, h1, h2, fun x hx => by omega⟩
            | succ m ihm =>
              intro i hi h1 h2
              by_cases hx : ∃ x, x < i ∧ listed.getD x true = false
              · obtain ⟨x, hx1, hx2⟩ := hx
                exact ihm x (by omega) (by omega) hx2
              · refine ⟨i, h1, h2, fun x hx1 => ?_⟩
                cases hb : listed.getD x true with
                | true => rfl
                | false => exact absurd ⟨x, hx1, hb⟩ hx
          obtain ⟨i0, hi0, hb0⟩ := hex0
          obtain ⟨j, hj1, hj2, hj3⟩ := hmin i0 i0 (Nat.le_refl _) hi0 hb0
          refine ⟨j, ready_iff.2 ⟨hj2, init[j], by rw [hat j hj1, List.getElem?_eq_getElem hj1], fun x hx => ?_⟩⟩
          have hlt : x < j := by have := (c1 j _ (List.getElem?_eq_getElem hj1)).1 x hx; omega
          exact bothT listed x hl (by omega) (hj3 x hlt)
        -- what one of the first part's operations comes to
        have go : ∀ i o, i < init.length → i ∈ Region.ready .any ops listed → ops[i]? = some o → ∃ f : Fact, (if Region.wanted o (yielded ops a.tmps) = true then o.wp P a w (fun a' w' => ∃ u, a' = a.put o.dst u ∧ G w w' ∧ f.holds u w' ∧ (memB AL i = true → u = .pointer (some ⟨w.heap.size, 0, none⟩) ∧ w.heap.size < w'.heap.size)) Q else f.holds undef w ∧ memB AL i = false) ∧
            (memB L i = true → ∃ v, f = .eq v ∧ Yields P ops o v a) ∧ ∀ u w', G w w' → f.holds u w' → (memB AL i = true → u = .pointer (some ⟨w.heap.size, 0, none⟩) ∧ w.heap.size < w'.heap.size) → wpAny P .any ops Q fuel (listed.setIfInBounds i true) (a.put o.dst u) w' := by
          intro i o hlt hi ho
          obtain ⟨g1, o1, ho1, g2⟩ := ready_iff.1 hi
          rw [ho] at ho1
          obtain rfl : o = o1 := by injection ho1
          have hi' : i < ops.size := (Array.getElem?_eq_some_iff.1 ho).1
          have hoi : init[i]? = some o := by rw [← hat i hlt]; exact ho
          obtain ⟨f, Γi, f1, f2, f3, fl, f4⟩ := hall i o hoi
          rw [Nat.zero_add] at f1 f4 fl
          obtain ⟨d1, d2⟩ := c1 i o hoi
          have hx := f3 a w hsize hG trivial (fun j d f' hj hd => hF j d f' (by rw [← f4 j (by have := d1 j hd; omega)]; exact hj) (g2 j hd)) hs (fun t v ht => by simp [look] at ht)
          have hslot : ∀ u j d f, j ≠ i → Env.find Γ j = some (some d, f) → (a.put o.dst u).tmps[d]? = a.tmps[d]? := by
            intro u j d f hji hj
            rcases Nat.lt_or_ge j init.length with hh | hh
            · have hoj : init[j]? = some init[j] := List.getElem?_eq_getElem hh
              obtain ⟨fj, Γj, q1, -⟩ := hall j _ hoj
              rw [Nat.zero_add, hj] at q1
              injection q1 with q1
              injection q1 with q1 _
              have hdj : init[j].dst = some d := q1.symm
              have hdi : o.dst ≠ some d := fun hdi => (d2 d hdi).2.2.2 j _ hoj hji hdj
              cases hd : o.dst with
              | none => rfl
              | some d0 =>
                have : d0 ≠ d := fun e' => hdi (by rw [hd, e'])
                simp only [Act.put]
                rw [Array.getElem?_setIfInBounds_ne this]
            · rw [hnone j (by omega)] at hj; cases hj
          -- what holds behind it
          have next : ∀ u w', G w w' → f.holds u w' → (memB AL i = true → u = .pointer (some ⟨w.heap.size, 0, none⟩) ∧ w.heap.size < w'.heap.size) → wpAny P .any ops Q fuel (listed.setIfInBounds i true) (a.put o.dst u) w' := by
            intro u w' hG' hu hmk
            refine ih _ _ _ (by simp [hl]) ?_ ?_ ?_ ?_ (Gt _ _ _ hG hG') ?_ ?_ ?_ ?_ ?_
            · intro i2 o2 h1 h2 x hx2
              by_cases e : i = i2
              · subst e
                rw [ho] at h1
                obtain rfl : o = o2 := by injection h1
                exact getD_set_true (g2 x hx2)
              · rw [getD_set_ne false e] at h2
                exact getD_set_true (hdc i2 o2 h1 h2 x hx2)
            · intro i2 h1 h2
              rw [getD_set_ne true (by omega)]
              exact hts i2 h1 h2
            · cases hd : o.dst <;> simp [Act.put, hsize]
            · cases hd : o.dst <;> simp [Act.put, hdef]
            · intro j d f' hj hjl
              by_cases e : i = j
              · subst e
                rw [f1] at hj
                injection hj with hj
                injection hj with e1 e2
                subst e1 e2
                refine ⟨u, fun t ht => ?_, hu⟩
                have := (d2 t ht).1
                rw [ht]
                simp [Act.put, hsize, this]
              · rw [getD_set_ne false e] at hjl
                obtain ⟨u', h1, h2⟩ := hF j d f' hj hjl
                refine ⟨u', fun t ht => ?_, ?_⟩
                · rcases Nat.lt_or_ge j init.length with hh | hh
                  · have hoj : init[j]? = some init[j] := List.getElem?_eq_getElem hh
                    obtain ⟨fj, Γj, q1, -⟩ := hall j _ hoj
                    rw [Nat.zero_add, hj] at q1
                    injection q1 with q1
                    injection q1 with q1 _
                    have hdj : init[j].dst = some t := by rw [← q1]; exact ht
                    have hdi : o.dst ≠ some t := fun hdi => (d2 t hdi).2.2.2 j _ hoj (fun e' => e e'.symm) hdj
                    cases hd : o.dst with
                    | none => exact h1 t ht
                    | some d0 =>
                      have : d0 ≠ t := fun e' => hdi (by rw [hd, e'])
                      simp only [Act.put]
                      rw [Array.getElem?_setIfInBounds_ne this]
                      exact h1 t ht
                  · rw [hnone j (by omega)] at hj; cases hj
                · have hst : Fact.Stable G f' := by
                    rcases Nat.lt_or_ge j init.length with hh | hh
                    · obtain ⟨fj, Γj, q1, q2, -⟩ := hall j _ (List.getElem?_eq_getElem hh)
                      rw [Nat.zero_add, hj] at q1
                      injection q1 with q1
                      injection q1 with _ q1
                      rw [q1]; exact q2
                    · rw [hnone j (by omega)] at hj; cases hj
                  cases f' with
                  | eq v => exact h2
                  | sat Φ => exact hst u' w w' hG' h2
            · intro t v ht
              cases hd : o.dst with
              | none => exact hs t v ht
              | some d0 =>
                have : d0 ≠ t := fun e' => (d2 d0 hd).2.2.1 (by rw [e']; exact look_keys ht)
                simp only [Act.put]
                rw [Array.getElem?_setIfInBounds_ne this]
                exact hs t v ht
            ·
              intro j k dj dk fj fk gj gk hne h1 h2 h3 h4 h5 h6 h7 h8
              have hkeep : ∀ j d f, j ≠ i → Env.find Γ j = some (some d, f) → (a.put o.dst u).tmps[d]? = a.tmps[d]? := hslot u
              by_cases ej : i = j
              · subst ej
                obtain ⟨e1, e2⟩ := hmk h3
                rw [f1] at h1
                injection h1 with h1
                injection h1 with h1 _
                have hdn := (d2 dj h1).1
                rw [h1] at h7
                simp [Act.put, hsize, hdn] at h7
                rw [e1] at h7
                injection h7 with h7
                injection h7 with h7
                injection h7 with h7
                rw [hkeep k dk fk (fun e => hne e.symm) h2] at h8
                rw [getD_set_ne false hne] at h6
                have := hWn k dk fk gk h2 h4 h6 h8
                omega
              · rw [hkeep j dj fj (fun e => ej e.symm) h1] at h7
                rw [getD_set_ne false ej] at h5
                by_cases ek : i = k
                · subst ek
                  obtain ⟨e1, e2⟩ := hmk h4
                  rw [f1] at h2
                  injection h2 with h2
                  injection h2 with h2 _
                  have hdn := (d2 dk h2).1
                  rw [h2] at h8
                  simp [Act.put, hsize, hdn] at h8
                  rw [e1] at h8
                  injection h8 with h8
                  injection h8 with h8
                  injection h8 with h8
                  have := hWn j dj fj gj h1 h3 h5 h7
                  omega
                · rw [hkeep k dk fk (fun e => ek e.symm) h2] at h8
                  rw [getD_set_ne false ek] at h6
                  exact hDs j k dj dk fj fk gj gk hne h1 h2 h3 h4 h5 h6 h7 h8
            · intro j dj fj gj h1 h3 h5 h7
              by_cases ej : i = j
              · subst ej
                obtain ⟨e1, e2⟩ := hmk h3
                rw [f1] at h1
                injection h1 with h1
                injection h1 with h1 _
                have hdn := (d2 dj h1).1
                rw [h1] at h7
                simp [Act.put, hsize, hdn] at h7
                rw [e1] at h7
                injection h7 with h7
                injection h7 with h7
                injection h7 with h7
                omega
              · rw [hslot u j dj fj (fun e => ej e.symm) h1] at h7
                rw [getD_set_ne false ej] at h5
                have h9 := hWn j dj fj gj h1 h3 h5 h7
                rcases hGs with e | hGs
                · rw [e] at h3; cases h3
                · exact Nat.lt_of_lt_of_le h9 (hGs _ _ hG')
            · have := left_set (listed := listed) (i := i) (by omega) g1 ops.size
              rw [if_pos hi'] at this
              omega
          refine ⟨f, ?_, fun hL => ?_, next⟩
          · cases hAi : memB AL i with
            | false =>
              by_cases hwant : Region.wanted o (yielded ops a.tmps) = true
              · rw [if_pos hwant] at hx ⊢
                exact Oper.wp_mono (fun a' w' ⟨u, e, h1, h2⟩ => ⟨u, e, h1, h2, fun h => by cases h⟩) hx
              · rw [if_neg hwant] at hx ⊢
                exact ⟨hx, rfl⟩
            | true =>
              have hmk := hAL i o hAi hoi
              have hwant : Region.wanted o (yielded ops a.tmps) = true := by unfold Region.wanted; rw [hmk.1]
              rw [if_pos hwant] at hx ⊢
              have := hmk.wp (K := fun u w' => G w w' ∧ f.holds u w') (fun d hd => by rw [hsize]; exact (d2 d hd).1) (fun a' w' h => h) hx
              exact Oper.wp_mono (fun a' w' ⟨u, e, ⟨h1, h2⟩, h3, h4⟩ => ⟨u, e, h1, h2, fun _ => ⟨h3, h4⟩⟩) this
          obtain ⟨v, e, hy⟩ := fl hL
          exact ⟨v, e, hy a w hsize hG trivial (fun j d f' hj hd => hF j d f' (by rw [← f4 j (by have := d1 j hd; omega)]; exact hj) (g2 j hd)) hs (fun t v ht => by simp [look] at ht)⟩
        by_cases hlate : ∃ i, memB L i = true ∧ i ∈ Region.ready .any ops listed
        · obtain ⟨i, hiL, hi⟩ := hlate
          obtain ⟨g1, o, ho, g2⟩ := ready_iff.1 hi
          obtain ⟨f, -, hl2, next⟩ := go i o (hLlt i hiL) hi ho
          obtain ⟨v, rfl, hy⟩ := hl2 hiL
          have hcl' : chkLate (init ++ tail).toArray L = true ∧ noSel (init ++ tail) = true := by
            cases L with
            | nil => cases hiL
            | cons x r => simpa using hcl
          rw [← hops] at hcl'
          have hup : listed.setIfInBounds i true = listed.setIfInBounds i true := rfl
          refine wpAny_first ho (fun j oj cs b hoj => noSel_spec hcl'.2 j oj cs b (by rw [hops] at hoj; simpa using hoj)) (fun c a w h => by rcases hQ with e | hQ; (rw [e] at hiL; cases hiL); exact hQ c a _ _ w h) fuel listed a w (fun j oj hoj hne hun hno => ?_) hi hy (next v w (Gr w) rfl (fun h => by have := hALL i h; rw [hiL] at this; cases this))
          refine chkLate_spec hcl'.1 i o hiL ho j oj hoj (Ne.symm hne) (fun hm => ?_) (fun hm => ?_)
          · obtain ⟨e, he, hb, h1⟩ := mem_direct.1 hm
            exact hno e he hb h1
          · have := g2 j hm
            rw [getD_both hun] at this
            cases this
        refine ⟨(fun hnil => by obtain ⟨i, hi⟩ := hex; rw [hnil] at hi; cases hi), fun i hi => ?_⟩
        obtain ⟨g1, o, ho, g2⟩ := ready_iff.1 hi
        have hi' : i < ops.size := (Array.getElem?_eq_some_iff.1 ho).1
        have hlt : i < init.length := by
          rcases Nat.lt_or_ge i init.length with hh | hh
          · exact hh
          · exfalso
            apply hdone
            -- then all before it have come up
            have hi0 : i = init.length := by
              rcases Nat.eq_or_lt_of_le hh with e | hgt
              · exact e.symm
              · exfalso
                obtain ⟨q, rfl⟩ : ∃ q, i = init.length + (q + 1) := ⟨i - init.length - 1, by omega⟩
                rw [hat2] at ho
                have h3 := g2 _ (ts q o ho).2
                rw [getD_both (hts (init.length + 1 + q - 1) (by omega) (by omega))] at h3
                cases h3
            subst hi0
            have ho2 : tail[0]? = some o := by have := hat2 0; rw [Nat.add_zero] at this; rw [← this, ho]
            have down : ∀ q j, init.length - j ≤ q → j < init.length → memB L j = false → listed.getD j false = true := by
              intro q
              induction q with
              | zero => intro j h1 h2 _; omega
              | succ q ihq =>
                intro j h1 h2 hjL
                obtain ⟨i2, o2, b1, b2, b3, b4, b5⟩ := tm o ho2 j h2 hjL
                rcases Nat.eq_or_lt_of_le b2 with e | hlt2
                · subst e
                  rw [ho] at b3
                  obtain rfl : o = o2 := by injection b3
                  exact g2 j b4
                · exact hdc i2 o2 b3 (ihq i2 (by omega) hlt2 b5) j b4
            -- and of those that may come late none is left, as it could come up
            have all : ∀ q j, j ≤ q → j < init.length → listed.getD j false = true := by
              intro q
              induction q using Nat.strongRecOn with
              | _ q ihq =>
                intro j hjq hj
                cases hjL : memB L j with
                | false => exact down _ j (Nat.le_refl _) hj hjL
                | true =>
                  cases hun : listed.getD j true with
                  | true => exact bothT listed j hl (by omega) hun
                  | false =>
                    exfalso
                    refine hlate ⟨j, hjL, ready_iff.2 ⟨hun, init[j], by rw [hat j hj, List.getElem?_eq_getElem hj], fun x hx => ?_⟩⟩
                    have hlt : x < j := by have := (c1 j _ (List.getElem?_eq_getElem hj)).1 x hx; omega
                    exact ihq x (by omega) x (Nat.le_refl _) (by omega)
            intro j hj
            exact getD_both' (by omega) (all j j (Nat.le_refl _) hj)
        obtain ⟨f, hx, -, next⟩ := go i o hlt hi ho
        unfold wpOp
        rw [ho]
        simp only
        by_cases hwant : Region.wanted o (yielded ops a.tmps) = true
        · rw [if_pos hwant] at hx ⊢
          exact .inl (Oper.wp_mono (fun a' w' ⟨u, e, h1, h2, h3⟩ => by rw [e]; exact next u w' h1 h2 h3) hx)
        · rw [if_neg hwant] at hx ⊢
          exact next undef w (Gr w) hx.1 (fun h => by rw [hx.2] at h; cases h)
  have hrep : ∀ i, (Array.replicate ops.size false).getD i false = false := by intro i; by_cases h : i < ops.size <;> simp [h]
  refine key ops.size _ a w0 (by simp) ?_ ?_ ha.size ha.defers (Gr w0) ?_ ha.slot (fun i _ _ _ _ _ _ _ _ _ _ _ _ h0 => by simp only [hrep] at h0; cases h0) (fun i _ _ _ _ _ h0 => by simp only [hrep] at h0; cases h0) ?_
  · intro i o _ h0
    rw [hrep] at h0; cases h0
  · intro i _ h2
    simp [h2]
  · intro j d f _ h0
    simp only [hrep] at h0; cases h0
  · have : ∀ k, left (Array.replicate ops.size false) k ≤ k := by
      intro k
      induction k with
      | zero => exact Nat.le_refl _
      | succ k ih => unfold left; split <;> omega
    exact this _
end
end Go.Proofs.YtenikchlnfhikaaGreatDoor

namespace Go.RowKit
abbrev Grow (w w' : World) : Prop := Below w.heap.size w w'
theorem Grow.refl (w : World) : Grow w w := Below.refl _ _
theorem Grow.trans {a b c : World} (h : Grow a b) (k : Grow b c) : Grow a c := Below.trans h (k.mono h.size)
end Go.RowKit
namespace Go.Proofs.YtenikchlnfhikaaGreatDoor
open Go.RowKit
variable [Inhabited (List Deferred)]

section
variable {P : Program} {ops : Array Oper} {Q : Exit → Act → World → Prop} {n : Nat} {F0 X : List (Nat × Value)} {G : World → World → Prop} {w0 : World} {W : World → Prop} {Γ : Env} {o : Oper} {f : Fact} {v : Value} {tail r : List Oper} {B : Env → Prop} {k : Nat} {Φ : Value → World → Prop} {L : List Nat}

theorem lookE_spec {ds : List Nat} {a : Act} {w : World} (hs : ∀ t v, look F0 t = some v → a.tmps[t]? = some v) : ∀ {Γ : Env}, (∀ j d f, (j, d, f) ∈ Γ → j ∈ ds → ∃ u, (∀ t, d = some t → a.tmps[t]? = some u) ∧ f.holds u w) → ∀ {t v}, lookE F0 ds t Γ = some v → a.tmps[t]? = some v
  | [], _, t, v, h => hs t v h
  | (j, none, f) :: r, hF, t, v, h => lookE_spec hs (fun j d f hm => hF j d f (List.mem_cons_of_mem _ hm)) (Γ := r) h
  | (j, some d, .sat Φ) :: r, hF, t, v, h => by
    unfold lookE at h
    cases hb : Nat.beq d t with
    | true => rw [hb] at h; cases h
    | false => rw [hb] at h; exact lookE_spec hs (fun j d f hm => hF j d f (List.mem_cons_of_mem _ hm)) (Γ := r) h
  | (j, some d, .eq u) :: r, hF, t, v, h => by
    unfold lookE at h
    cases hb : Nat.beq d t with
    | true =>
      rw [hb] at h
      cases hm : memB ds j with
      | false => rw [hm] at h; cases h
      | true =>
        rw [hm] at h
        injection h with h
        subst h
        obtain ⟨u', h1, h2⟩ := hF j (some d) (.eq u) List.mem_cons_self (memB_spec hm)
        have := h1 d rfl
        rw [← Nat.eq_of_beq_eq_true hb, this, show u' = u from h2]
    | false => rw [hb] at h; exact lookE_spec hs (fun j d f hm => hF j d f (List.mem_cons_of_mem _ hm)) (Γ := r) h
/-- No number stands twice. -/
def uniq : Env → Bool
  | [] => true
  | (j, _, _) :: r => (Env.find r j).isNone && uniq r
theorem find_mem : ∀ {Γ : Env}, uniq Γ = true → ∀ {j d f}, (j, d, f) ∈ Γ → Env.find Γ j = some (d, f)
  | [], _, _, _, _, h => by cases h
  | (i, d', f') :: r, hu, j, d, f, h => by
    simp only [uniq, Bool.and_eq_true] at hu
    show (bif Nat.beq i j then some (d', f') else Env.find r j) = _
    rcases List.mem_cons.1 h with e | h
    · injection e with e1 e2
      injection e2 with e2 e3
      subst e1 e2 e3
      rw [Nat.beq_refl]; rfl
    · have hr := find_mem hu.2 h
      cases hb : Nat.beq i j with
      | true =>
        have e := Nat.eq_of_beq_eq_true hb
        subst e
        rw [hr] at hu
        simp at hu
      | false => exact hr
theorem evX_spec {a : Act} {w : World} (hu : uniq Γ = true) (hF : Facts Γ (· ∈ direct o) a w) (hs : ∀ t v, look F0 t = some v → a.tmps[t]? = some v) (hX : ∀ t v, look X t = some v → a.tmps[t]? = some v) : ∀ x u, evX X F0 Γ o x = some u → a.eval x = u := by
  intro x u hx
  cases x with
  | tmp t =>
    simp only [evX] at hx
    have : a.tmps[t]? = some u := by
      split at hx
      · rename_i v hv
        injection hx with hx
        subst hx
        exact hX t _ hv
      · exact lookE_spec hs (fun j d f hm hj => hF j d f (find_mem hu hm) hj) hx
    simp [Act.eval, this]
  | const v => exact Option.some.inj hx
  | global g => exact Option.some.inj hx
  | func f => exact Option.some.inj hx

variable (P Q n F0 G w0) in
def StepY (X : List (Nat × Value)) (W : World → Prop) (Γ : Env) (o : Oper) (f : Fact) : Prop := ∀ a w, a.tmps.size = n → G w0 w → W w → Facts Γ (· ∈ direct o) a w → (∀ t v, look F0 t = some v → a.tmps[t]? = some v) → (∀ t v, look X t = some v → a.tmps[t]? = some v) →
  o.wp P a w (fun a' w' => ∃ u, a' = a.put o.dst u ∧ G w w' ∧ f.holds u w') Q
theorem StepX.plain (hg : o.guard = none) (h : StepY P Q n F0 G w0 X W Γ o f) : StepX P ops Q n F0 G w0 X W Γ o f := by
  intro a w h1 h2 h3 h4 h5 h6
  rw [if_pos (by simp [Region.wanted, hg])]
  exact h a w h1 h2 h3 h4 h5 h6
theorem StepX.wanted {j t : Nat} {b : Bool} (hu : uniq Γ = true) (hg : o.guard = some (j, b)) (ht : (ops[j]?).bind (·.dst) = some t) (hb : evX X F0 Γ o (.tmp t) = some (.bool b)) (h : StepY P Q n F0 G w0 X W Γ o f) : StepX P ops Q n F0 G w0 X W Γ o f := by
  intro a w h1 h2 h3 h4 h5 h6
  have hv : a.tmps[t]? = some (.bool b) := by
    have := evX_spec hu h4 h5 h6 _ _ hb
    cases hh : a.tmps[t]? with
    | none => simp [Act.eval, hh, undef] at this
    | some u => simp [Act.eval, hh] at this; rw [this]
  rw [if_pos (by unfold Region.wanted yielded; simp only [hg, ht, Option.bind_some, hv]; simp)]
  exact h a w h1 h2 h3 h4 h5 h6
theorem StepX.skip {j t : Nat} {b b' : Bool} (hu : uniq Γ = true) (hg : o.guard = some (j, b)) (ht : (ops[j]?).bind (·.dst) = some t) (hb : evX X F0 Γ o (.tmp t) = some (.bool b')) (hne : b' = !b) : StepX P ops Q n F0 G w0 X W Γ o (.eq undef) := by
  intro a w h1 h2 h3 h4 h5 h6
  have hv : a.tmps[t]? = some (.bool b') := by
    have := evX_spec hu h4 h5 h6 _ _ hb
    cases hh : a.tmps[t]? with
    | none => simp [Act.eval, hh, undef] at this
    | some u => simp [Act.eval, hh] at this; rw [this]
  rw [if_neg (by unfold Region.wanted yielded; simp only [hg, ht, Option.bind_some, hv, hne]; cases b <;> simp)]
  rfl
theorem StepY.val (Gr : ∀ w, G w w) (hu : uniq Γ = true) (hrun : ∀ w, G w0 w → W w → Runs P (evX X F0 Γ o) o w v w) : StepY P Q n F0 G w0 X W Γ o (.eq v) := by
  intro a w h1 h2 h3 h4 h5 h6
  unfold Oper.wp
  rw [hrun w h2 h3 a.eval (evX_spec hu h4 h5 h6), Oper.upon_value]
  exact ⟨v, rfl, Gr w, rfl⟩
theorem StepY.make (hu : uniq Γ = true) (hrun : ∀ w, G w0 w → W w → ∃ v w', Runs P (evX X F0 Γ o) o w v w' ∧ G w w' ∧ Φ v w') : StepY P Q n F0 G w0 X W Γ o (.sat Φ) := by
  intro a w h1 h2 h3 h4 h5 h6
  obtain ⟨v, w', hr, hG, hΦ⟩ := hrun w h2 h3
  unfold Oper.wp
  rw [hr a.eval (evX_spec hu h4 h5 h6), Oper.upon_value]
  exact ⟨v, rfl, hG, hΦ⟩
theorem StepY.call {fn : FuncId} {args : Array Value} (hu : uniq Γ = true) (he : ∀ w, Enters P (evX X F0 Γ o) o w fn args) (hc : ∀ w, G w0 w → W w → Calls P fn args w fun e w' => ∃ v, e = .returned v ∧ G w w' ∧ Φ v w') : StepY P Q n F0 G w0 X W Γ o (.sat Φ) := by
  intro a w h1 h2 h3 h4 h5 h6
  unfold Oper.wp
  rw [he w a.eval (evX_spec hu h4 h5 h6), Oper.upon_enter]
  exact (hc w h2 h3).mono fun e w' ⟨v, e1, e2, e3⟩ => by subst e1; exact ⟨v, rfl, e2, e3⟩
theorem StepY.callV {fn : FuncId} {args : Array Value} (hu : uniq Γ = true) (he : ∀ w, Enters P (evX X F0 Γ o) o w fn args) (hc : ∀ w, G w0 w → W w → Calls P fn args w fun e w' => e = .returned v ∧ G w w') : StepY P Q n F0 G w0 X W Γ o (.eq v) := by
  intro a w h1 h2 h3 h4 h5 h6
  unfold Oper.wp
  rw [he w a.eval (evX_spec hu h4 h5 h6), Oper.upon_enter]
  exact (hc w h2 h3).mono fun e w' ⟨e1, e2⟩ => by subst e1; exact ⟨v, rfl, e2, rfl⟩
theorem StepX.open {j d : Nat} (hj : Env.find Γ j = some (some d, .sat Φ)) (hm : memB (direct o) j = true) (h : ∀ u, StepX P ops Q n F0 G w0 ((d, u) :: X) (fun w => W w ∧ Φ u w) Γ o f) : StepX P ops Q n F0 G w0 X W Γ o f := by
  intro a w h1 h2 h3 h4 h5 h6
  obtain ⟨u, g1, g2⟩ := h4 j _ _ hj (memB_spec hm)
  refine h u a w h1 h2 ⟨h3, g2⟩ h4 h5 fun t v ht => ?_
  rcases look_put ht with ⟨rfl, rfl⟩ | ⟨-, ht⟩
  · exact g1 _ rfl
  · exact h6 t v ht

theorem Dr.cons (hs : Fact.Stable G f) (hstep : StepX P ops Q n F0 G w0 [] (fun _ => True) Γ o f) (hr : DrW P ops Q n F0 G w0 L B (k + 1) r ((k, o.dst, f) :: Γ)) (hl : memB L k = false := by rfl) : DrW P ops Q n F0 G w0 L B k (o :: r) Γ := ⟨f, hs, hstep, (fun h => by rw [hl] at h; cases h), hr⟩
theorem Dr.val (Gr : ∀ w, G w w) (hu : uniq Γ = true) (hrun : ∀ w, G w0 w → Runs P (evX [] F0 Γ o) o w v w) (hg : o.guard = none) (hr : DrW P ops Q n F0 G w0 L B (k + 1) r ((k, o.dst, .eq v) :: Γ)) (hl : memB L k = false := by rfl) : DrW P ops Q n F0 G w0 L B k (o :: r) Γ :=
  ⟨.eq v, trivial, .plain hg (.val Gr hu fun w h _ => hrun w h), (fun h => by rw [hl] at h; cases h), hr⟩
theorem Dr.valG {j t : Nat} {b : Bool} (Gr : ∀ w, G w w) (hu : uniq Γ = true) (hrun : ∀ w, G w0 w → Runs P (evX [] F0 Γ o) o w v w) (hg : o.guard = some (j, b)) (ht : (ops[j]?).bind (·.dst) = some t) (hb : evX [] F0 Γ o (.tmp t) = some (.bool b)) (hr : DrW P ops Q n F0 G w0 L B (k + 1) r ((k, o.dst, .eq v) :: Γ)) (hl : memB L k = false := by rfl) : DrW P ops Q n F0 G w0 L B k (o :: r) Γ :=
  ⟨.eq v, trivial, .wanted hu hg ht hb (.val Gr hu fun w h _ => hrun w h), (fun h => by rw [hl] at h; cases h), hr⟩
theorem Dr.skip {j t : Nat} {b b' : Bool} (hu : uniq Γ = true) (hg : o.guard = some (j, b)) (ht : (ops[j]?).bind (·.dst) = some t) (hb : evX [] F0 Γ o (.tmp t) = some (.bool b')) (hne : b' = !b) (hr : DrW P ops Q n F0 G w0 L B (k + 1) r ((k, o.dst, .eq undef) :: Γ)) (hl : memB L k = false := by rfl) : DrW P ops Q n F0 G w0 L B k (o :: r) Γ :=
  ⟨.eq undef, trivial, .skip hu hg ht hb hne, (fun h => by rw [hl] at h; cases h), hr⟩
theorem Dr.call {fn : FuncId} {args : Array Value} (hu : uniq Γ = true) (he : ∀ w, Enters P (evX [] F0 Γ o) o w fn args) (hg : o.guard = none) (hs : ∀ v w w', G w w' → Φ v w → Φ v w') (hc : ∀ w, G w0 w → Calls P fn args w fun e w' => ∃ v, e = .returned v ∧ G w w' ∧ Φ v w')
    (hr : DrW P ops Q n F0 G w0 L B (k + 1) r ((k, o.dst, .sat Φ) :: Γ)) (hl : memB L k = false := by rfl) : DrW P ops Q n F0 G w0 L B k (o :: r) Γ :=
  ⟨.sat Φ, hs, .plain hg (.call hu he fun w h _ => hc w h), (fun h => by rw [hl] at h; cases h), hr⟩
theorem Dr.callV {fn : FuncId} {args : Array Value} (hu : uniq Γ = true) (he : ∀ w, Enters P (evX [] F0 Γ o) o w fn args) (hg : o.guard = none) (hc : ∀ w, G w0 w → Calls P fn args w fun e w' => e = .returned v ∧ G w w')
    (hr : DrW P ops Q n F0 G w0 L B (k + 1) r ((k, o.dst, .eq v) :: Γ)) (hl : memB L k = false := by rfl) : DrW P ops Q n F0 G w0 L B k (o :: r) Γ :=
  ⟨.eq v, trivial, .plain hg (.callV hu he fun w h _ => hc w h), (fun h => by rw [hl] at h; cases h), hr⟩
/-- Operations that may come up late. -/
theorem Dr.late (hl : memB L k = true) (hu : uniq Γ = true) (hrun : ∀ w, Runs P (evX [] F0 Γ o) o w v w) (Gr : ∀ w, G w w) (hg : o.guard = none) (hr : DrW P ops Q n F0 G w0 L B (k + 1) r ((k, o.dst, .eq v) :: Γ)) : DrW P ops Q n F0 G w0 L B k (o :: r) Γ :=
  ⟨.eq v, trivial, .plain hg (.val Gr hu fun w _ _ => hrun w), (fun _ => ⟨v, rfl, fun a w _ _ _ h4 h5 h6 => .inl ⟨by simp [Region.wanted, hg], fun w' => hrun w' a.eval (evX_spec hu h4 h5 h6)⟩⟩), hr⟩
theorem Dr.make (hu : uniq Γ = true) (hs : ∀ v w w', G w w' → Φ v w → Φ v w') (hg : o.guard = none) (hrun : ∀ w, G w0 w → ∃ v w', Runs P (evX [] F0 Γ o) o w v w' ∧ G w w' ∧ Φ v w') (hr : DrW P ops Q n F0 G w0 L B (k + 1) r ((k, o.dst, .sat Φ) :: Γ)) (hl : memB L k = false := by rfl) : DrW P ops Q n F0 G w0 L B k (o :: r) Γ :=
  ⟨.sat Φ, hs, .plain hg (.make hu fun w h _ => hrun w h), (fun h => by rw [hl] at h; cases h), hr⟩
/-- A value that is read off a predecessor's result. -/
theorem Dr.val1 {j d : Nat} {Ψ : Value → World → Prop} (Gr : ∀ w, G w w) (hj : Env.find Γ j = some (some d, .sat Ψ)) (hm : memB (direct o) j = true) (hu : uniq Γ = true) (hs : ∀ v w w', G w w' → Φ v w → Φ v w') (hg : o.guard = none)
    (hrun : ∀ u w, G w0 w → Ψ u w → ∃ v, Runs P (evX [(d, u)] F0 Γ o) o w v w ∧ Φ v w) (hr : DrW P ops Q n F0 G w0 L B (k + 1) r ((k, o.dst, .sat Φ) :: Γ)) (hl : memB L k = false := by rfl) : DrW P ops Q n F0 G w0 L B k (o :: r) Γ :=
  ⟨.sat Φ, hs, .open hj hm fun u => .plain hg (.make hu fun w h h2 => by obtain ⟨v, h3, h4⟩ := hrun u w h h2.2; exact ⟨v, w, h3, Gr w, h4⟩), (fun h => by rw [hl] at h; cases h), hr⟩
theorem Dr.callG {fn : FuncId} {args : Array Value} (hu : uniq Γ = true) (he : ∀ w, Enters P (evX [] F0 Γ o) o w fn args) {jg tg : Nat} {bg : Bool} (hg : o.guard = some (jg, bg)) (ht : (ops[jg]?).bind (·.dst) = some tg) (hb : evX [] F0 Γ o (.tmp tg) = some (.bool bg)) (hs : ∀ v w w', G w w' → Φ v w → Φ v w') (hc : ∀ w, G w0 w → Calls P fn args w fun e w' => ∃ v, e = .returned v ∧ G w w' ∧ Φ v w')
    (hr : DrW P ops Q n F0 G w0 L B (k + 1) r ((k, o.dst, .sat Φ) :: Γ)) (hl : memB L k = false := by rfl) : DrW P ops Q n F0 G w0 L B k (o :: r) Γ :=
  ⟨.sat Φ, hs, .wanted hu hg ht hb (.call hu he fun w h _ => hc w h), (fun h => by rw [hl] at h; cases h), hr⟩
theorem Dr.callVG {fn : FuncId} {args : Array Value} (hu : uniq Γ = true) (he : ∀ w, Enters P (evX [] F0 Γ o) o w fn args) {jg tg : Nat} {bg : Bool} (hg : o.guard = some (jg, bg)) (ht : (ops[jg]?).bind (·.dst) = some tg) (hb : evX [] F0 Γ o (.tmp tg) = some (.bool bg)) (hc : ∀ w, G w0 w → Calls P fn args w fun e w' => e = .returned v ∧ G w w')
    (hr : DrW P ops Q n F0 G w0 L B (k + 1) r ((k, o.dst, .eq v) :: Γ)) (hl : memB L k = false := by rfl) : DrW P ops Q n F0 G w0 L B k (o :: r) Γ :=
  ⟨.eq v, trivial, .wanted hu hg ht hb (.callV hu he fun w h _ => hc w h), (fun h => by rw [hl] at h; cases h), hr⟩
/-! The end of the first part. -/
def knownE (F0 : List (Nat × Value)) : Env → List (Nat × Value)
  | [] => F0
  | (_, some d, .eq v) :: r => (d, v) :: knownE F0 r
  | _ :: r => knownE F0 r
theorem knownE_spec {a : Act} {w : World} (hs : ∀ t v, look F0 t = some v → a.tmps[t]? = some v) : ∀ {Γ : Env}, (∀ j d f, (j, d, f) ∈ Γ → ∃ u, (∀ t, d = some t → a.tmps[t]? = some u) ∧ f.holds u w) → ∀ t v, look (knownE F0 Γ) t = some v → a.tmps[t]? = some v
  | [], _, t, v, h => hs t v h
  | (j, none, f) :: r, hF, t, v, h => knownE_spec hs (fun j d f hm => hF j d f (List.mem_cons_of_mem _ hm)) (Γ := r) t v h
  | (j, some d, .sat Φ) :: r, hF, t, v, h => knownE_spec hs (fun j d f hm => hF j d f (List.mem_cons_of_mem _ hm)) (Γ := r) t v h
  | (j, some d, .eq u) :: r, hF, t, v, h => by
    rcases look_put h with ⟨rfl, rfl⟩ | ⟨-, h⟩
    · obtain ⟨u', h1, h2⟩ := hF j (some d) (.eq u) List.mem_cons_self
      rw [h1 d rfl, show u' = u from h2]
    · exact knownE_spec hs (fun j d f hm => hF j d f (List.mem_cons_of_mem _ hm)) (Γ := r) t v h
theorem look_append {A B : List (Nat × Value)} {t : Nat} {v : Value} (h : look (A ++ B) t = some v) : look A t = some v ∨ look B t = some v := by
  induction A with
  | nil => exact .inr h
  | cons p r ih =>
    obtain ⟨k, u⟩ := p
    rcases look_put h with ⟨rfl, rfl⟩ | ⟨hne, h⟩
    · refine .inl ?_
      unfold look
      rw [Nat.beq_refl]; rfl
    · rcases ih h with h | h
      · refine .inl ?_
        show (bif Nat.beq k t then some u else look r t) = _
        cases hb : Nat.beq k t with
        | true => exact absurd (Nat.eq_of_beq_eq_true hb) hne
        | false => exact h
      · exact .inr h
theorem Dr.nil (h : B Γ) : DrW P ops Q n F0 G w0 L B k [] Γ := h
theorem FinX.open {j d : Nat} (hj : Env.find Γ j = some (some d, .sat Φ)) (h : ∀ u, FinX P ops Q n F0 G w0 tail ((d, u) :: X) (fun w => W w ∧ Φ u w) Γ) : FinX P ops Q n F0 G w0 tail X W Γ := by
  intro a w h1 h1' h2 h3 h4 h5 h6
  obtain ⟨u, g1, g2⟩ := h4 j _ _ hj trivial
  refine h u a w h1 h1' h2 ⟨h3, g2⟩ h4 h5 fun t v ht => ?_
  rcases look_put ht with ⟨rfl, rfl⟩ | ⟨-, ht⟩
  · exact g1 _ rfl
  · exact h6 t v ht
theorem FinX.done {F' : List (Nat × Value)} (hu : uniq Γ = true) (hsub : Sub F' (X ++ knownE F0 Γ)) (h : ∀ w, G w0 w → W w → Seq P ops Q tail n F' w) : FinX P ops Q n F0 G w0 tail X W Γ := by
  intro a w h1 h1' h2 h3 h4 h5 h6
  refine h w h2 h3 a (Fr.sub ⟨h1, h1', fun t v ht => ?_⟩ hsub)
  rcases look_append ht with ht | ht
  · exact h6 t v ht
  · exact knownE_spec h5 (fun j d f hm => h4 j d f (find_mem hu hm) trivial) t v ht
/-- A region that draws: its first m operations come up in whatever order, the others in theirs. -/
theorem Cd.draw (m : Nat) {id : Nat} {l : List Oper} {w : World} (hm : P.follows .mixedOrders = true) (L : List Nat) (hQ : L = [] ∨ ∀ c (a : Act) d v w, Q (.panic c) (a.put d v) w → Q (.panic c) a w) (hchk : chkAll n (keysOf F0) L (l.take m) (l.drop m) = true) (G : World → World → Prop) (Gr : ∀ w, G w w) (Gt : ∀ a b c, G a b → G b c → G a c)
    (h : ∀ w0, Below w.heap.size w w0 → w0.heap.size = w.heap.size → DrW P l.toArray Q n F0 G w0 L (FinX P l.toArray Q n F0 G w0 (l.drop m) [] (fun _ => True)) 0 (l.take m) []) : Cd P (.region id l.toArray true) Q n F0 w := fun _ ha =>
  wp_draw L [] (fun i o h _ => by cases h) (fun i h => by cases h) (.inl rfl) hQ hm (by rw [List.take_append_drop]) hchk Gt Gr rfl (DrW.mono (fun Γ hΓ a w h1 h2 h3 h4 h5 h6 h7 _ => hΓ a w h1 h2 h3 h4 h5 h6 h7) _ _ _ (h { w with drawn := w.drawn + 1 } ⟨rfl, rfl, rfl, Nat.le_refl _, fun _ _ => rfl⟩ rfl)) ha
theorem FinD.open {AL : List Nat} {j d : Nat} (hj : Env.find Γ j = some (some d, .sat Φ)) (h : ∀ u, FinD P ops Q n F0 G w0 AL tail ((d, u) :: X) (fun w => W w ∧ Φ u w) Γ) : FinD P ops Q n F0 G w0 AL tail X W Γ := by
  intro a w h1 h1' h2 h3 h4 h5 h6 h7
  obtain ⟨u, g1, g2⟩ := h4 j _ _ hj trivial
  refine h u a w h1 h1' h2 ⟨h3, g2⟩ h4 h5 (fun t v ht => ?_) h7
  rcases look_put ht with ⟨rfl, rfl⟩ | ⟨-, ht⟩
  · exact g1 _ rfl
  · exact h6 t v ht
theorem FinD.done {AL : List Nat} {F' : List (Nat × Value)} (hu : uniq Γ = true) (hsub : Sub F' (X ++ knownE F0 Γ)) (h : ∀ w, G w0 w → W w → (∀ i j di dj fi fj gi gj, i ≠ j → Env.find Γ i = some (some di, fi) → Env.find Γ j = some (some dj, fj) → memB AL i = true → memB AL j = true → look X di = some (.pointer (some ⟨gi, 0, none⟩)) → look X dj = some (.pointer (some ⟨gj, 0, none⟩)) → gi ≠ gj) → Seq P ops Q tail n F' w) : FinD P ops Q n F0 G w0 AL tail X W Γ := by
  intro a w h1 h1' h2 h3 h4 h5 h6 h7
  refine h w h2 h3 (fun i j di dj fi fj gi gj e1 e2 e3 e4 e5 e6 e7 => h7 i j di dj fi fj gi gj e1 e2 e3 e4 e5 trivial trivial (h6 _ _ e6) (h6 _ _ e7)) a (Fr.sub ⟨h1, h1', fun t v ht => ?_⟩ hsub)
  rcases look_append ht with ht | ht
  · exact h6 t v ht
  · exact knownE_spec h5 (fun j d f hm => h4 j d f (find_mem hu hm) trivial) t v ht
end
/-- A new block's pointer, in a region that draws. -/
def NewPtr (B : Nat) (T : TypeId) (cs : Array Value) (v : Value) (w : World) : Prop := ∃ g, v = .pointer (some ⟨g, 0, none⟩) ∧ Blk w g T cs ∧ B ≤ g
theorem NewPtr.stable {B : Nat} {T : TypeId} {cs : Array Value} : ∀ v w w', Grow w w' → NewPtr B T cs v w → NewPtr B T cs v w' := fun _ _ _ hG ⟨g, e, h, hB⟩ => ⟨g, e, h.step hG, hB⟩
theorem Dr.alloc {P : Program} {ops : Array Oper} {Q : Exit → Act → World → Prop} {n : Nat} {F0 : List (Nat × Value)} {w0 : World} {Γ : Env} {o : Oper} {r : List Oper} {B : Env → Prop} {L : List Nat} {k T : Nat} {z : Value} (hu : uniq Γ = true) (ho : o.op = .alloc T) (hz : ∀ w, (zeroValue T).run P w = .ok z w) (hg : o.guard = none)
    (hr : DrW P ops Q n F0 Grow w0 L B (k + 1) r ((k, o.dst, .sat (NewPtr w0.heap.size T z.cells)) :: Γ)) (hl : memB L k = false := by rfl) : DrW P ops Q n F0 Grow w0 L B k (o :: r) Γ :=
  Dr.make hu NewPtr.stable hg (fun w hG => ⟨_, _, Runs.alloc_ ho hz, (new_of w z.cells T).below, w.heap.size, rfl, (new_of w z.cells T).blk, hG.size⟩) hr hl
theorem Dr.box {P : Program} {ops : Array Oper} {Q : Exit → Act → World → Prop} {n : Nat} {F0 : List (Nat × Value)} {w0 : World} {Γ : Env} {o : Oper} {r : List Oper} {B : Env → Prop} {L : List Nat} {k T : Nat} {x : Operand} {v : Value} (hu : uniq Γ = true) (ho : o.op = .box T x) (hx : evX [] F0 Γ o x = some v) (hg : o.guard = none)
    (hr : DrW P ops Q n F0 Grow w0 L B (k + 1) r ((k, o.dst, .sat (NewPtr w0.heap.size T v.cells)) :: Γ)) (hl : memB L k = false := by rfl) : DrW P ops Q n F0 Grow w0 L B k (o :: r) Γ :=
  Dr.make hu NewPtr.stable hg (fun w hG => ⟨_, _, Runs.box_ ho hx, (new_of w v.cells T).below, w.heap.size, rfl, (new_of w v.cells T).blk, hG.size⟩) hr hl
end Go.Proofs.YtenikchlnfhikaaGreatDoor

namespace Go.Proofs.YtenikchlnfhikaaGreatDoor
open Go.RowKit
variable [Inhabited (List Deferred)]

/-- Contexts, the innermost first: where c holds, the slots hold these values; where it does not, they hold nothing. -/
abbrev Cxs := List (Bool × List (Nat × Value))
def allX : Cxs → List (Nat × Value) → List (Nat × Value)
  | [], F => F
  | (_, H) :: r, F => H ++ allX r F
/-- The innermost one's condition. -/
def topX : Cxs → Bool
  | [] => true
  | (c, _) :: _ => c
/-- What the contexts say of a frame; an inner one's condition implies the outer one's. -/
def HoldX : Cxs → List (Nat × Value) → Act → Prop
  | [], _, _ => True
  | (c, H) :: r, F, a => (c = true → topX r = true) ∧ (c = true → ∀ t v, look H t = some v → a.tmps[t]? = some v) ∧ (c = false → ∀ t v, look H t = some v → a.tmps[t]? = some undef) ∧ HoldX r F a
def SeqC (P : Program) (ops : Array Oper) (Q : Exit → Act → World → Prop) (rest : List Oper) (n : Nat) (C : Cxs) (F : List (Nat × Value)) (w : World) : Prop := ∀ a, Fr n F a → HoldX C F a → wpList P ops Q rest a w

theorem HoldX.all {n : Nat} {F : List (Nat × Value)} {a : Act} (ha : Fr n F a) : ∀ {C : Cxs}, HoldX C F a → topX C = true → ∀ t v, look (allX C F) t = some v → a.tmps[t]? = some v
  | [], _, _, t, v, h => ha.slot t v h
  | (c, H) :: r, hC, hc, t, v, h => by
    obtain ⟨h1, h2, -, h4⟩ := hC
    rcases look_append h with h | h
    · exact h2 hc t v h
    · exact HoldX.all ha h4 (h1 hc) t v h
theorem HoldX.fr {n : Nat} {F : List (Nat × Value)} {a : Act} {C : Cxs} (ha : Fr n F a) (hC : HoldX C F a) (hc : topX C = true) : Fr n (allX C F) a := ⟨ha.size, ha.defers, hC.all ha hc⟩
/-- d is none of the known slots. -/
def freeX (d : Nat) : Cxs → List (Nat × Value) → Bool
  | [], F => (look F d).isNone
  | (_, H) :: r, F => (look H d).isNone && freeX d r F
theorem HoldX.put {F : List (Nat × Value)} {a : Act} {d : Nat} {v : Value} : ∀ {C : Cxs}, freeX d C F = true → HoldX C F a → HoldX C F (a.put (some d) v)
  | [], _, _ => trivial
  | (c, H) :: r, hf, hC => by
    simp only [freeX, Bool.and_eq_true] at hf
    obtain ⟨h1, h2, h3, h4⟩ := hC
    have hne : ∀ t u, look H t = some u → d ≠ t := fun t u ht e => by subst e; rw [ht] at hf; simp at hf
    refine ⟨h1, fun hc t u ht => ?_, fun hc t u ht => ?_, HoldX.put hf.2 h4⟩
    · simp only [Act.put]; rw [Array.getElem?_setIfInBounds_ne (hne t u ht)]; exact h2 hc t u ht
    · simp only [Act.put]; rw [Array.getElem?_setIfInBounds_ne (hne t u ht)]; exact h3 hc t u ht
theorem freeX_base {d : Nat} {F : List (Nat × Value)} : ∀ {C : Cxs}, freeX d C F = true → (look F d).isNone = true
  | [], h => h
  | (_, _) :: r, h => by simp only [freeX, Bool.and_eq_true] at h; exact freeX_base (C := r) h.2
theorem Fr.keep {n d : Nat} {F : List (Nat × Value)} {a : Act} {v : Value} (ha : Fr n F a) (hf : (look F d).isNone = true) : Fr n F (a.put (some d) v) := by
  refine ⟨by simp [Act.put, ha.size], ha.defers, fun t u ht => ?_⟩
  have hne : d ≠ t := fun e => by subst e; rw [ht] at hf; simp at hf
  simp only [Act.put]
  rw [Array.getElem?_setIfInBounds_ne hne]
  exact ha.slot t u ht

section
variable {P : Program} {ops : Array Oper} {Q : Exit → Act → World → Prop} {rest : List Oper} {o : Oper} {n d : Nat} {F : List (Nat × Value)} {C : Cxs} {w w' : World} {v : Value} {c : Bool} {H : List (Nat × Value)}

theorem SeqC.start (h : SeqC P ops Q rest n [] F w) : Seq P ops Q rest n F w := fun a ha => h a ha trivial
/-- The first operation under a new guard: the guard's slot lies in the innermost context. -/
theorem SeqC.open {j t : Nat} {b want : Bool} (hg : o.guard = some (j, want)) (ht : (ops[j]?).bind (·.dst) = some t) (hb : look (match C with | [] => F | (_, H) :: _ => H) t = some (.bool b)) (hd : o.dst = some d) (hn : Nat.blt d n = true) (hf : freeX d C F = true) (hdt : Nat.beq d t = false)
    (hrun : (topX C && (b == want)) = true → Runs P (evF (allX C F)) o w v w) (h : SeqC P ops Q rest n ((topX C && (b == want), [(d, v)]) :: C) F w) : SeqC P ops Q (o :: rest) n C F w := by
  intro a ha hC
  refine wpList_step fun K hK => ?_
  have hwant : Region.wanted o (yielded ops a.tmps) = (topX C && (b == want)) := by
    have hy : yielded ops a.tmps j = if topX C = true then some b else none := by
      unfold yielded
      simp only [ht, Option.bind_some]
      cases C with
      | nil => simp [topX, ha.slot t _ hb]
      | cons x r =>
        obtain ⟨c1, H1⟩ := x
        obtain ⟨h1, h2, h3, h4⟩ := hC
        cases c1
        · simp [topX, h3 rfl t _ hb, undef]
        · simp [topX, h2 rfl t _ hb]
    unfold Region.wanted
    simp only [hg, hy]
    cases topX C <;> cases b <;> cases want <;> rfl
  rw [hwant]
  have hbase := freeX_base hf
  cases hc : (topX C && (b == want)) with
  | true =>
    rw [if_pos rfl]
    have htop : topX C = true := by simp only [Bool.and_eq_true] at hc; exact hc.1
    unfold Oper.wp
    rw [hrun hc a.eval (hC.fr ha htop).ev, Oper.upon_value, hd]
    refine hK _ _ (h _ (ha.keep hbase) ⟨fun _ => htop, fun _ t' u hu => ?_, fun e => (by rw [hc] at e; cases e), hC.put hf⟩)
    rcases look_put hu with ⟨rfl, rfl⟩ | ⟨-, hu⟩
    · simp [Act.put, ha.size, Nat.blt_eq.mp hn]
    · cases hu
  | false =>
    rw [if_neg (by simp), hd]
    refine hK _ _ (h _ (ha.keep hbase) ⟨fun e => (by rw [hc] at e; cases e), fun e => (by rw [hc] at e; cases e), fun _ t' u hu => ?_, hC.put hf⟩)
    rcases look_put hu with ⟨rfl, rfl⟩ | ⟨-, hu⟩
    · simp [Act.put, ha.size, Nat.blt_eq.mp hn]
    · cases hu
/-- The next ones under the same guard. -/
theorem SeqC.next {j t : Nat} {b want : Bool} {c0 : Bool} (hg : o.guard = some (j, want)) (ht : (ops[j]?).bind (·.dst) = some t) (hb : look (match C with | [] => F | (_, H) :: _ => H) t = some (.bool b)) (hc0 : c0 = (topX C && (b == want))) (hd : o.dst = some d) (hn : Nat.blt d n = true) (hf : freeX d ((c0, H) :: C) F = true)
    (hrun : c0 = true → Runs P (evF (allX ((c0, H) :: C) F)) o w v w) (h : SeqC P ops Q rest n ((c0, (d, v) :: H) :: C) F w) : SeqC P ops Q (o :: rest) n ((c0, H) :: C) F w := by
  intro a ha hC
  obtain ⟨h1, h2, h3, h4⟩ := id hC
  refine wpList_step fun K hK => ?_
  have hwant : Region.wanted o (yielded ops a.tmps) = c0 := by
    rw [hc0]
    have hy : yielded ops a.tmps j = if topX C = true then some b else none := by
      unfold yielded
      simp only [ht, Option.bind_some]
      cases C with
      | nil => simp [topX, ha.slot t _ hb]
      | cons x r =>
        obtain ⟨c1, H1⟩ := x
        obtain ⟨g1, g2, g3, g4⟩ := h4
        cases c1
        · simp [topX, g3 rfl t _ hb, undef]
        · simp [topX, g2 rfl t _ hb]
    unfold Region.wanted
    simp only [hg, hy]
    cases topX C <;> cases b <;> cases want <;> rfl
  rw [hwant]
  have hbase := freeX_base hf
  have hne : ∀ t u, look H t = some u → d ≠ t := fun t u ht e => by
    subst e
    simp only [freeX, Bool.and_eq_true] at hf
    rw [ht] at hf; simp at hf
  have hf2 : freeX d C F = true := by simp only [freeX, Bool.and_eq_true] at hf; exact hf.2
  cases hc : c0 with
  | true =>
    rw [if_pos rfl]
    unfold Oper.wp
    rw [hrun hc a.eval (HoldX.fr ha hC hc).ev, Oper.upon_value, hd]
    refine hK _ _ (h _ (ha.keep hbase) ⟨h1, fun _ t' u hu => ?_, fun e => (by rw [hc] at e; cases e), h4.put hf2⟩)
    rcases look_put hu with ⟨rfl, rfl⟩ | ⟨-, hu⟩
    · simp [Act.put, ha.size, Nat.blt_eq.mp hn]
    · simp only [Act.put]; rw [Array.getElem?_setIfInBounds_ne (hne t' u hu)]; exact h2 hc t' u hu
  | false =>
    rw [if_neg (by simp), hd]
    refine hK _ _ (h _ (ha.keep hbase) ⟨h1, fun e => (by rw [hc] at e; cases e), fun _ t' u hu => ?_, h4.put hf2⟩)
    rcases look_put hu with ⟨rfl, rfl⟩ | ⟨-, hu⟩
    · simp [Act.put, ha.size, Nat.blt_eq.mp hn]
    · simp only [Act.put]; rw [Array.getElem?_setIfInBounds_ne (hne t' u hu)]; exact h3 hc t' u hu
/-- 'a || b', 'a && b': the pick that ends the innermost guard, itself under none. -/
theorem SeqC.pick {x y z : Operand} {b p e : Bool} (hg : o.guard = none) (ho : o.op = .pick x y z) (hx : evF F x = some (.bool b)) (hd : o.dst = some d) (hn : Nat.blt d n = true)
    (hv : (c = true → evF (H ++ F) (bif b then y else z) = some (.bool e)) ∧ (c = false → evF F (bif b then y else z) = some (.bool e)))
    (h : Seq P ops Q rest n ((d, .bool e) :: F) w) (_hp : p = p) : SeqC P ops Q (o :: rest) n [(c, H)] F w := by
  intro a ha hC
  refine wpList_plain hg fun K hK => ?_
  have hfr : c = true → Fr n (H ++ F) a := fun hc => HoldX.fr (C := [(c, H)]) ha hC hc
  unfold Oper.wp execOp
  simp only [ho, ha.ev _ _ hx]
  have hval : (if b then a.eval y else a.eval z) = .bool e := by
    have : a.eval (bif b then y else z) = .bool e := by
      cases hc : c with
      | true => exact (hfr hc).ev _ _ (hv.1 hc)
      | false => exact ha.ev _ _ (hv.2 hc)
    cases b <;> exact this
  have hrun : ((do let r ← asBool (.bool b); pure (Next.value (if r then a.eval y else a.eval z))) : Sem Next).run P w = .ok (.value (.bool e)) w := by
    show Result.ok (Next.value (if b then a.eval y else a.eval z)) w = _
    rw [hval]
  rw [hrun, Oper.upon_value, hd]
  exact hK _ _ (h _ (ha.put (Nat.blt_eq.mp hn)))
theorem SeqC.or {x : Operand} {k : Nat} {b p : Bool} (hg : o.guard = none) (ho : o.op = .pick x (.const (.bool true)) (.tmp k)) (hx : evF F x = some (.bool b)) (hc : c = (true && (b == false))) (hk : look H k = some (.bool p)) (hd : o.dst = some d) (hn : Nat.blt d n = true)
    (h : Seq P ops Q rest n ((d, .bool (b || p)) :: F) w) : SeqC P ops Q (o :: rest) n [(c, H)] F w := by
  subst hc
  refine SeqC.pick (b := b) (p := p) hg ho hx hd hn ⟨fun hc => ?_, fun hc => ?_⟩ h rfl
  · cases b
    · show look (H ++ F) k = _
      have : ∀ A : List (Nat × Value), look A k = some (.bool p) → look (A ++ F) k = some (.bool p) := by
        intro A
        induction A with
        | nil => intro h; cases h
        | cons q r ih =>
          obtain ⟨i, u⟩ := q
          intro h
          unfold look at h
          show (bif Nat.beq i k then some u else look (r ++ F) k) = _
          cases hb : Nat.beq i k with
          | true => rw [hb] at h; exact h
          | false => rw [hb] at h; exact ih h
      exact this H hk
    · cases hc
  · cases b
    · cases hc
    · rfl
theorem SeqC.and {x : Operand} {k : Nat} {b p : Bool} (hg : o.guard = none) (ho : o.op = .pick x (.tmp k) (.const (.bool false))) (hx : evF F x = some (.bool b)) (hc : c = (true && (b == true))) (hk : look H k = some (.bool p)) (hd : o.dst = some d) (hn : Nat.blt d n = true)
    (h : Seq P ops Q rest n ((d, .bool (b && p)) :: F) w) : SeqC P ops Q (o :: rest) n [(c, H)] F w := by
  subst hc
  refine SeqC.pick (b := b) (p := p) hg ho hx hd hn ⟨fun hc => ?_, fun hc => ?_⟩ h rfl
  · cases b
    · cases hc
    · show look (H ++ F) k = _
      have : ∀ A : List (Nat × Value), look A k = some (.bool p) → look (A ++ F) k = some (.bool p) := by
        intro A
        induction A with
        | nil => intro h; cases h
        | cons q r ih =>
          obtain ⟨i, u⟩ := q
          intro h
          unfold look at h
          show (bif Nat.beq i k then some u else look (r ++ F) k) = _
          cases hb : Nat.beq i k with
          | true => rw [hb] at h; exact h
          | false => rw [hb] at h; exact ih h
      exact this H hk
  · cases b
    · rfl
    · cases hc
/-- The end of an inner guard within an outer one. -/
theorem SeqC.close {j t : Nat} {b want : Bool} {c0 c2 : Bool} {H2 : List (Nat × Value)} (hg : o.guard = some (j, want)) (ht : (ops[j]?).bind (·.dst) = some t) (hb : look (match C with | [] => F | (_, H) :: _ => H) t = some (.bool b)) (hc0 : c0 = (topX C && (b == want))) (hd : o.dst = some d) (hn : Nat.blt d n = true) (hf : freeX d ((c0, H) :: C) F = true)
    (hrun : c0 = true → ∀ ρ : Operand → Value, (∀ x u, evF (allX ((c0, H) :: C) F) x = some u → ρ x = u) → (c2 = true → ∀ k u, look H2 k = some u → ρ (.tmp k) = u) → (execOp ρ o).run P w = .ok (.value v) w') (h : SeqC P ops Q rest n ((c0, (d, v) :: H) :: C) F w') (hw : c0 = false → w' = w) :
    SeqC P ops Q (o :: rest) n ((c2, H2) :: (c0, H) :: C) F w := by
  intro a ha hC0
  obtain ⟨-, q2, -, hC⟩ := hC0
  obtain ⟨h1, h2, h3, h4⟩ := id hC
  refine wpList_step fun K hK => ?_
  have hwant : Region.wanted o (yielded ops a.tmps) = c0 := by
    rw [hc0]
    have hy : yielded ops a.tmps j = if topX C = true then some b else none := by
      unfold yielded
      simp only [ht, Option.bind_some]
      cases C with
      | nil => simp [topX, ha.slot t _ hb]
      | cons x r =>
        obtain ⟨c1, H1⟩ := x
        obtain ⟨g1, g2, g3, g4⟩ := h4
        cases c1
        · simp [topX, g3 rfl t _ hb, undef]
        · simp [topX, g2 rfl t _ hb]
    unfold Region.wanted
    simp only [hg, hy]
    cases topX C <;> cases b <;> cases want <;> rfl
  rw [hwant]
  have hbase := freeX_base hf
  have hne : ∀ t u, look H t = some u → d ≠ t := fun t u ht e => by
    subst e
    simp only [freeX, Bool.and_eq_true] at hf
    rw [ht] at hf; simp at hf
  have hf2 : freeX d C F = true := by simp only [freeX, Bool.and_eq_true] at hf; exact hf.2
  cases hc : c0 with
  | true =>
    rw [if_pos rfl]
    unfold Oper.wp
    rw [hrun hc a.eval (HoldX.fr ha hC hc).ev (fun hc2 k u hk => by have := q2 hc2 k u hk; simp [Act.eval, this]), Oper.upon_value, hd]
    refine hK _ _ (h _ (ha.keep hbase) ⟨h1, fun _ t' u hu => ?_, fun e => (by rw [hc] at e; cases e), h4.put hf2⟩)
    rcases look_put hu with ⟨rfl, rfl⟩ | ⟨-, hu⟩
    · simp [Act.put, ha.size, Nat.blt_eq.mp hn]
    · simp only [Act.put]; rw [Array.getElem?_setIfInBounds_ne (hne t' u hu)]; exact h2 hc t' u hu
  | false =>
    rw [if_neg (by simp), hd, ← hw hc]
    refine hK _ _ (h _ (ha.keep hbase) ⟨h1, fun e => (by rw [hc] at e; cases e), fun _ t' u hu => ?_, h4.put hf2⟩)
    rcases look_put hu with ⟨rfl, rfl⟩ | ⟨-, hu⟩
    · simp [Act.put, ha.size, Nat.blt_eq.mp hn]
    · simp only [Act.put]; rw [Array.getElem?_setIfInBounds_ne (hne t' u hu)]; exact h3 hc t' u hu
theorem run_pickB {P : Program} {o : Oper} {x y z : Operand} {b e : Bool} {w : World} {ρ : Operand → Value} (ho : o.op = .pick x y z) (hx : ρ x = .bool b) (hv : ρ (bif b then y else z) = .bool e) : (execOp ρ o).run P w = .ok (.value (.bool e)) w := by
  unfold execOp
  simp only [ho, hx]
  show Result.ok (Next.value (if b then ρ y else ρ z)) w = _
  cases b <;> simpa using hv
theorem SeqC.orG {x : Operand} {k j t : Nat} {b p bg want : Bool} {c0 c2 : Bool} {H2 : List (Nat × Value)} (hg : o.guard = some (j, want)) (ht : (ops[j]?).bind (·.dst) = some t) (hb : look (match C with | [] => F | (_, H) :: _ => H) t = some (.bool bg)) (hc0 : c0 = (topX C && (bg == want))) (hd : o.dst = some d) (hn : Nat.blt d n = true) (hf : freeX d ((c0, H) :: C) F = true)
    (ho : o.op = .pick x (.const (.bool true)) (.tmp k)) (hx : evF (allX ((c0, H) :: C) F) x = some (.bool b)) (hc2 : c2 = (c0 && (b == false))) (hk : look H2 k = some (.bool p)) (h : SeqC P ops Q rest n ((c0, (d, .bool (b || p)) :: H) :: C) F w) : SeqC P ops Q (o :: rest) n ((c2, H2) :: (c0, H) :: C) F w := by
  refine SeqC.close hg ht hb hc0 hd hn hf (fun hc ρ hρ h2 => run_pickB ho (hρ _ _ hx) ?_) h (fun _ => rfl)
  cases b
  · exact h2 (by rw [hc2, hc]; rfl) k _ hk
  · exact hρ (.const (.bool true)) _ rfl
theorem SeqC.andG {x : Operand} {k j t : Nat} {b p bg want : Bool} {c0 c2 : Bool} {H2 : List (Nat × Value)} (hg : o.guard = some (j, want)) (ht : (ops[j]?).bind (·.dst) = some t) (hb : look (match C with | [] => F | (_, H) :: _ => H) t = some (.bool bg)) (hc0 : c0 = (topX C && (bg == want))) (hd : o.dst = some d) (hn : Nat.blt d n = true) (hf : freeX d ((c0, H) :: C) F = true)
    (ho : o.op = .pick x (.tmp k) (.const (.bool false))) (hx : evF (allX ((c0, H) :: C) F) x = some (.bool b)) (hc2 : c2 = (c0 && (b == true))) (hk : look H2 k = some (.bool p)) (h : SeqC P ops Q rest n ((c0, (d, .bool (b && p)) :: H) :: C) F w) : SeqC P ops Q (o :: rest) n ((c2, H2) :: (c0, H) :: C) F w := by
  refine SeqC.close hg ht hb hc0 hd hn hf (fun hc ρ hρ h2 => run_pickB ho (hρ _ _ hx) ?_) h (fun _ => rfl)
  cases b
  · exact hρ (.const (.bool false)) _ rfl
  · exact h2 (by rw [hc2, hc]; rfl) k _ hk
end
end Go.Proofs.YtenikchlnfhikaaGreatDoor

namespace Go.Proofs.YtenikchlnfhikaaGreatDoor
open Go.RowKit
variable [Inhabited (List Deferred)]

theorem Blk.ne {w : World} {g g' : Nat} {T T' : TypeId} {cs cs' : Array Value} (h : Blk w g T cs) (h' : Blk w g' T' cs') (hT : T ≠ T') : g ≠ g' := by
  rintro rfl
  unfold Blk at h h'
  rw [h] at h'
  injection h' with h'
  injection h' with h1 h2
  exact hT h2

section
variable {P : Program} {E : Operand → Option Value} {F : List (Nat × Value)} {o : Oper} {w : World} {T d n : Nat} {x y : Operand} {ops : Array Oper} {Q : Exit → Act → World → Prop} {rest : List Oper}
/-- A slice that was made. -/
def NewSl (B m : Nat) (T : TypeId) (cs : Array Value) (v : Value) (w : World) : Prop := ∃ g, v = .slice (some ⟨g, 0, none⟩) m m ∧ Blk w g T cs ∧ B ≤ g
theorem NewSl.stable {B m : Nat} {T : TypeId} {cs : Array Value} : ∀ v w w', Grow w w' → NewSl B m T cs v w → NewSl B m T cs v w' := fun _ _ _ hG ⟨g, e, h, hB⟩ => ⟨g, e, h.step hG, hB⟩
end
section
variable {P : Program} {ops : Array Oper} {Q : Exit → Act → World → Prop} {rest : List Oper} {o : Oper} {n d : Nat} {F : List (Nat × Value)} {C : Cxs} {w w' : World} {v : Value} {c : Bool} {H : List (Nat × Value)}
/-- The first operation under a new guard: the guard's slot lies in the innermost context. -/
theorem SeqC.openC {f : FuncId} {args : Array Value} {j t : Nat} {b want : Bool} (hg : o.guard = some (j, want)) (ht : (ops[j]?).bind (·.dst) = some t) (hb : look (match C with | [] => F | (_, H) :: _ => H) t = some (.bool b)) (hd : o.dst = some d) (hn : Nat.blt d n = true) (hf : freeX d C F = true) (hdt : Nat.beq d t = false)
    (hrun : (topX C && (b == want)) = true → Enters P (evF (allX C F)) o w f args) (hcall : (topX C && (b == want)) = true → Calls P f args w fun e w' => e = .returned v ∧ Grow w w') (h : ∀ w', Grow w w' → SeqC P ops Q rest n ((topX C && (b == want), [(d, v)]) :: C) F w') : SeqC P ops Q (o :: rest) n C F w := by
  intro a ha hC
  refine wpList_step fun K hK => ?_
  have hwant : Region.wanted o (yielded ops a.tmps) = (topX C && (b == want)) := by
    have hy : yielded ops a.tmps j = if topX C = true then some b else none := by
      unfold yielded
      simp only [ht, Option.bind_some]
      cases C with
      | nil => simp [topX, ha.slot t _ hb]
      | cons x r =>
        obtain ⟨c1, H1⟩ := x
        obtain ⟨h1, h2, h3, h4⟩ := hC
        cases c1
        · simp [topX, h3 rfl t _ hb, undef]
        · simp [topX, h2 rfl t _ hb]
    unfold Region.wanted
    simp only [hg, hy]
    cases topX C <;> cases b <;> cases want <;> rfl
  rw [hwant]
  have hbase := freeX_base hf
  cases hc : (topX C && (b == want)) with
  | true =>
    rw [if_pos rfl]
    have htop : topX C = true := by simp only [Bool.and_eq_true] at hc; exact hc.1
    unfold Oper.wp
    rw [hrun hc a.eval (hC.fr ha htop).ev, Oper.upon_enter, hd]
    refine (hcall hc).mono fun e w' ⟨he', hgr⟩ => ?_
    subst he'
    refine hK _ _ (h _ hgr _ (ha.keep hbase) ⟨fun _ => htop, fun _ t' u hu => ?_, fun e => (by rw [hc] at e; cases e), hC.put hf⟩)
    rcases look_put hu with ⟨rfl, rfl⟩ | ⟨-, hu⟩
    · simp [Act.put, ha.size, Nat.blt_eq.mp hn]
    · cases hu
  | false =>
    rw [if_neg (by simp), hd]
    refine hK _ _ (h _ (Grow.refl _) _ (ha.keep hbase) ⟨fun e => (by rw [hc] at e; cases e), fun e => (by rw [hc] at e; cases e), fun _ t' u hu => ?_, hC.put hf⟩)
    rcases look_put hu with ⟨rfl, rfl⟩ | ⟨-, hu⟩
    · simp [Act.put, ha.size, Nat.blt_eq.mp hn]
    · cases hu
/-- The next ones under the same guard. -/
theorem SeqC.nextC {f : FuncId} {args : Array Value} {j t : Nat} {b want : Bool} {c0 : Bool} (hg : o.guard = some (j, want)) (ht : (ops[j]?).bind (·.dst) = some t) (hb : look (match C with | [] => F | (_, H) :: _ => H) t = some (.bool b)) (hc0 : c0 = (topX C && (b == want))) (hd : o.dst = some d) (hn : Nat.blt d n = true) (hf : freeX d ((c0, H) :: C) F = true)
    (hrun : c0 = true → Enters P (evF (allX ((c0, H) :: C) F)) o w f args) (hcall : c0 = true → Calls P f args w fun e w' => e = .returned v ∧ Grow w w') (h : ∀ w', Grow w w' → SeqC P ops Q rest n ((c0, (d, v) :: H) :: C) F w') : SeqC P ops Q (o :: rest) n ((c0, H) :: C) F w := by
  intro a ha hC
  obtain ⟨h1, h2, h3, h4⟩ := id hC
  refine wpList_step fun K hK => ?_
  have hwant : Region.wanted o (yielded ops a.tmps) = c0 := by
    rw [hc0]
    have hy : yielded ops a.tmps j = if topX C = true then some b else none := by
      unfold yielded
      simp only [ht, Option.bind_some]
      cases C with
      | nil => simp [topX, ha.slot t _ hb]
      | cons x r =>
        obtain ⟨c1, H1⟩ := x
        obtain ⟨g1, g2, g3, g4⟩ := h4
        cases c1
        · simp [topX, g3 rfl t _ hb, undef]
        · simp [topX, g2 rfl t _ hb]
    unfold Region.wanted
    simp only [hg, hy]
    cases topX C <;> cases b <;> cases want <;> rfl
  rw [hwant]
  have hbase := freeX_base hf
  have hne : ∀ t u, look H t = some u → d ≠ t := fun t u ht e => by
    subst e
    simp only [freeX, Bool.and_eq_true] at hf
    rw [ht] at hf; simp at hf
  have hf2 : freeX d C F = true := by simp only [freeX, Bool.and_eq_true] at hf; exact hf.2
  cases hc : c0 with
  | true =>
    rw [if_pos rfl]
    unfold Oper.wp
    rw [hrun hc a.eval (HoldX.fr ha hC hc).ev, Oper.upon_enter, hd]
    refine (hcall hc).mono fun e w' ⟨he', hgr⟩ => ?_
    subst he'
    refine hK _ _ (h _ hgr _ (ha.keep hbase) ⟨h1, fun _ t' u hu => ?_, fun e => (by rw [hc] at e; cases e), h4.put hf2⟩)
    rcases look_put hu with ⟨rfl, rfl⟩ | ⟨-, hu⟩
    · simp [Act.put, ha.size, Nat.blt_eq.mp hn]
    · simp only [Act.put]; rw [Array.getElem?_setIfInBounds_ne (hne t' u hu)]; exact h2 hc t' u hu
  | false =>
    rw [if_neg (by simp), hd]
    refine hK _ _ (h _ (Grow.refl _) _ (ha.keep hbase) ⟨h1, fun e => (by rw [hc] at e; cases e), fun _ t' u hu => ?_, h4.put hf2⟩)
    rcases look_put hu with ⟨rfl, rfl⟩ | ⟨-, hu⟩
    · simp [Act.put, ha.size, Nat.blt_eq.mp hn]
    · simp only [Act.put]; rw [Array.getElem?_setIfInBounds_ne (hne t' u hu)]; exact h3 hc t' u hu
end
end Go.Proofs.YtenikchlnfhikaaGreatDoor

namespace Go.Proofs.YtenikchlnfhikaaGreatDoor
open Go.RowKit
variable [Inhabited (List Deferred)]

/-- A slice of the call's own. -/
structure Own (w : World) (B : Nat) (e : TypeId) (size : Nat) (v : Value) (n : Nat) (xs : List Value) : Prop where
  row : w.ownsRow B e size v n xs
section
variable {w w' : World} {B size n : Nat} {e : TypeId} {v : Value} {xs : List Value}
theorem Own.nil (w : World) (B : Nat) (e : TypeId) (size : Nat) : Own w B e size (.slice none 0 0) 0 [] := ⟨World.ownsRow_nil _ _ _ _⟩
theorem Own.step (h : Own w B e size v n xs) (hb : Below w.heap.size w w') : Own w' B e size v n xs := ⟨own_below h.row hb⟩
theorem Own.put {g B' : Nat} {T : TypeId} {cur cs : Array Value} (h : Own w B e size v n xs) (k : Blk w g T cur) (p : Put w w' g T cs) (_e : B' ≤ g) (hne : e ≠ T := by decide) : Own w' B e size v n xs := ⟨h.row.kept p.grown (own_ne_blk h.row k hne)⟩
theorem Own.reads (h : Own w B e size v n xs) : ∃ A c, v = .slice A n c ∧ Reads w w.heap.size size A n xs := reads_own h.row
theorem Reads.blk {g : Nat} {T : TypeId} {cs : Array Value} (k : Blk w g T cs) (m : Nat) (hm : cs.size = m * size) : Reads w w.heap.size size (some ⟨g, 0, none⟩) m cs.toList := by
  refine ⟨by simpa using hm, fun _ => ⟨_, rfl, k.lt, fun j u hu => ?_⟩⟩
  have hplain : (⟨g, 0, none⟩ : Addr).add j = ⟨g, j, none⟩ := by unfold Addr.add; split <;> simp_all
  rw [hplain, cell_of_row _ _ _ _ _ _ k]
  simpa using hu
/-- What append leaves. -/
structure App (w w' : World) (B : Nat) (v : Value) : Prop where
  below : Below B w w'
  grown : w.grownBy w' v.ownBlock
end
section
variable {P : Program} {ops : Array Oper} {Q : Exit → Act → World → Prop} {rest : List Oper} {o : Oper} {n d : Nat} {F : List (Nat × Value)} {w : World} {v : Value} {x y : Operand}
theorem Seq.append {t e B B2 size b k m c : Nat} {A : Option Addr} {z : Value} {xs news : List Value} (ho : o.op = .call { callee := .builtin .append, args := #[x, y], argTypes := #[t, t] }) (hx : evF F x = some v) (hy : evF F y = some (.slice A m c)) (ht : P.underlying t = some (.slice e)) (hs : sizeIs P e size = true) (hz : zeroIs P e = some (some z)) (hzs : z.cells.size = size) (hsz : 0 < size) (hby : (P.info? e).map (·.bytes) = some b)
    (hown : Own w B e size v k xs) (hr : Reads w B2 size A m news) (h1 : ∀ u ∈ news, u.oneCell' = true) (hB : B ≤ w.heap.size) (h63 : k + m ≤ maxLen) (hbytes : (k + m) * b ≤ 140737488355328) (hg : o.guard = none) (hd : o.dst = some d) (hn : Nat.blt d n = true)
    (h : ∀ v' w', Own w' B e size v' (k + m) (xs ++ news) → App w w' B v → Seq P ops Q rest n ((d, v') :: F) w') : Seq P ops Q (o :: rest) n F w := by
  obtain ⟨i, hi, hisz⟩ := sizeIs_spec hs
  have hz' : i.zero = some z := by unfold zeroIs at hz; rw [hi] at hz; injection hz
  have hb' : i.bytes = b := by rw [hi] at hby; injection hby
  obtain ⟨v', w', hrun, h2, h3, _⟩ := run_append_any (P := P) w B t o.type e i z size b ht hi hz' hisz hb' hzs hsz v k xs hown.row B2 A m c news hr h1 h63 hbytes hB
  refine Seq.val (v := v') (w' := w') (fun ρ hρ => ?_) hg hd hn (h v' w' ⟨h2⟩ ⟨?_, h3⟩)
  · unfold execOp
    simp only [ho, resolve, invoke, builtin, Sem.run_bind, Sem.run_pure, Result.andThen_ok, List.map_toArray, List.map_cons, List.map_nil, hρ _ _ hx, hρ _ _ hy, hrun]
  · refine ⟨h3.os, h3.tape, h3.output, h3.size, fun j hj => h3.block j (by omega) fun e' => ?_⟩
    rcases hown.row.2 with ⟨rfl, _⟩ | ⟨g, cap, cur, rfl, hBg, _⟩
    · cases e'
    · injection e' with e'
      have : j = g := e'
      omega
end
/-- Bytes, as cells; as text. -/
def Bt (l : List Nat) : List Value := l.map fun (d : Nat) => Value.int .u8 (d : Int)
def strOf (l : List Nat) : ByteArray := ⟨(l.map UInt8.ofNat).toArray⟩
theorem length_Bt (l : List Nat) : (Bt l).length = l.length := by simp [Bt]
theorem get_Bt (l : List Nat) (k : Nat) : (Bt l)[k]? = l[k]?.map fun (d : Nat) => Value.int .u8 (d : Int) := by simp [Bt]
theorem Bt_append (a b : List Nat) : Bt (a ++ b) = Bt a ++ Bt b := by simp [Bt]
section
variable {P : Program} {E : Operand → Option Value} {o : Oper} {w : World} {x : Operand}
theorem Runs.convBS {T T' e B n c : Nat} {A : Option Addr} {l : List Nat} (ho : o.op = .convert T T' x) (hx : E x = some (.slice A n c)) (hT : P.underlying T = some (.slice e)) (he : P.underlying e = some (.int .u8)) (hd : P.underlying T' = some .string) (hr : Reads w B 1 A n (Bt l)) (hl : ∀ d ∈ l, d < 256) :
    Runs P E o w (.string (strOf l)) w := fun ρ h => by
  have hlen : l.length = n := by have := hr.1; rw [length_Bt] at this; omega
  unfold execOp
  simp only [ho]; rw [h _ _ hx]
  suffices hh : (convert T T' (.slice A n c)).run P w = .ok (.string (strOf l)) w by simp only [Sem.run_bind, hh, Result.andThen_ok]; rfl
  rcases Nat.eq_zero_or_pos n with h0 | h0
  · subst h0
    obtain rfl : l = [] := List.eq_nil_of_length_eq_zero hlen
    rcases A with _ | ad
    · rw [run_convert_bytes_nil w T e hT he 0 c T' hd]; rfl
    · exact run_convert_bytes_back w T T' e ad c [] hT he hd (fun j hj => absurd hj (by simp))
  · obtain ⟨ad, rfl, _, hc⟩ := hr.2 h0
    have := run_convert_bytes_back w T T' e ad c (l.map UInt8.ofNat) hT he hd (fun j hj => by
      rw [List.length_map] at hj
      have h1 := hc j (.int .u8 ((l[j] : Nat) : Int)) (by rw [get_Bt, List.getElem?_eq_getElem hj]; rfl)
      rw [h1]
      have h2 := hl l[j] (List.getElem_mem hj)
      rw [List.getElem_map, UInt8.toNat_ofNat', Nat.mod_eq_of_lt h2])
    rw [List.length_map, hlen] at this
    exact this
end
end Go.Proofs.YtenikchlnfhikaaGreatDoor

namespace Go.Proofs.YtenikchlnfhikaaGreatDoor
open Go.RowKit

theorem strOf_size (l : List Nat) : (strOf l).size = l.length := by simp [strOf, ByteArray.size]
theorem strOf_data (l : List Nat) : (strOf l).data.toList = l.map UInt8.ofNat := by simp [strOf]
theorem bytes_ext {a b : ByteArray} (h : a.data.toList = b.data.toList) : a = b := by
  cases a; cases b; congr 1; exact Array.ext' h
theorem strOf_get {l : List Nat} {j c : Nat} (h : l[j]? = some c) : (strOf l)[j]? = some (UInt8.ofNat c) := by
  have hj : j < l.length := (List.getElem?_eq_some_iff.1 h).1
  have hs : j < (strOf l).size := by rw [strOf_size]; exact hj
  rw [getElem?_pos (strOf l) j hs]
  congr 1
  have e : l[j] = c := (List.getElem?_eq_some_iff.1 h).2
  show (strOf l).data[j]'hs = _
  simp [strOf, e]
theorem strOf_append (a b : List Nat) : strOf a ++ strOf b = strOf (a ++ b) := by
  apply bytes_ext
  rw [ByteArray.toList_data_append, strOf_data, strOf_data, strOf_data, List.map_append]
theorem strOf_extract (l : List Nat) (a b : Nat) : (strOf l).extract a b = strOf ((l.take b).drop a) := by
  apply bytes_ext
  rw [strOf_data, ByteArray.data_extract, Array.toList_extract, strOf_data, List.map_drop, List.map_take]
  simp [List.extract_eq_take_drop, List.drop_take]
theorem ofNat_inj {a b : Nat} (ha : a < 256) (hb : b < 256) (h : UInt8.ofNat a = UInt8.ofNat b) : a = b := by
  have := congrArg UInt8.toNat h
  simpa [Nat.mod_eq_of_lt ha, Nat.mod_eq_of_lt hb] using this
theorem map_ofNat_inj : ∀ {a b : List Nat}, (∀ x ∈ a, x < 256) → (∀ x ∈ b, x < 256) → a.map UInt8.ofNat = b.map UInt8.ofNat → a = b
  | [], [], _, _, _ => rfl
  | [], _ :: _, _, _, h => by simp at h
  | _ :: _, [], _, _, h => by simp at h
  | x :: a, y :: b, ha, hb, h => by
    rw [List.map_cons, List.map_cons] at h
    injection h with h1 h2
    rw [ofNat_inj (ha x (by simp)) (hb y (by simp)) h1, map_ofNat_inj (fun z hz => ha z (by simp [hz])) (fun z hz => hb z (by simp [hz])) h2]
theorem toList_loop (s : ByteArray) : ∀ n i r, s.size - i = n → ByteArray.toList.loop s i r = r.reverse ++ s.data.toList.drop i := by
  intro n
  induction n with
  | zero =>
    intro i r h
    unfold ByteArray.toList.loop
    rw [if_neg (by omega), List.drop_of_length_le (by have : s.data.toList.length = s.size := Array.length_toList
                                                      omega), List.append_nil]
  | succ n ih =>
    intro i r h
    unfold ByteArray.toList.loop
    have hi : i < s.size := by omega
    have hl : i < s.data.toList.length := by rw [Array.length_toList]; exact hi
    rw [if_pos hi, ih _ _ (by omega), List.drop_eq_getElem_cons hl]
    have : s.get! i = s.data.toList[i] := by
      cases s with
      | mk d => simp [ByteArray.get!, ByteArray.size] at hi ⊢; simp [getElem!_pos, hi]
    rw [this]
    simp
theorem toList_data (s : ByteArray) : s.toList = s.data.toList := by
  unfold ByteArray.toList
  rw [toList_loop s _ 0 [] rfl]
  simp
theorem strOf_beq {a b : List Nat} (ha : ∀ x ∈ a, x < 256) (hb : ∀ x ∈ b, x < 256) : ((strOf a).toList == (strOf b).toList) = decide (a = b) := by
  rw [toList_data, toList_data, strOf_data, strOf_data, Bool.eq_iff_iff]
  simp
  constructor
  · exact map_ofNat_inj ha hb
  · intro h; rw [h]
/-- A text's bytes. -/
def bytesOf (s : ByteArray) : List Nat := s.data.toList.map UInt8.toNat
theorem bytesOf_lt (s : ByteArray) : ∀ x ∈ bytesOf s, x < 256 := by
  intro x hx
  obtain ⟨c, _, rfl⟩ := List.mem_map.1 hx
  exact c.toNat_lt
theorem strOf_bytesOf (s : ByteArray) : strOf (bytesOf s) = s := by
  apply bytes_ext
  rw [strOf_data]
  unfold bytesOf
  rw [List.map_map]
  conv => rhs; rw [← List.map_id s.data.toList]
  apply List.map_congr_left
  intro c _
  simp
theorem ofNat_toNat {c : Nat} (h : c < 256) : (UInt8.ofNat c).toNat = c := by simp [Nat.mod_eq_of_lt h]
/-- The place of the first byte of a kind; the length: there is none. -/
def idx (l : List Nat) (c : Nat) : Nat := l.findIdx (· == c)
section
variable {P : Program} {ops : Array Oper} {Q : Exit → Act → World → Prop} {rest : List Oper} {E : Operand → Option Value} {o : Oper} {n d : Nat} {F : List (Nat × Value)} {w w' : World} {v : Value} {x y z : Operand} {T T' : TypeId}
variable [Inhabited (List Deferred)]
theorem Runs.indexL {k : IntKind} {p : Int} {l : List Nat} {j c : Nat} (ho : o.op = .index T x y) (hx : E x = some (.string (strOf l))) (hy : E y = some (.int k p)) (hT : P.underlying T = some .string) (hp : p = (j : Int)) (hl : l[j]? = some c) (hc : c < 256) : Runs P E o w (.int .u8 (c : Int)) w :=
  (Runs.indexS ho hx hy hT hp (strOf_get hl)).cast (by rw [ofNat_toNat hc])
theorem Runs.sliceAtL {k k' : IntKind} {p q : Int} {l : List Nat} {i j : Nat} (ho : o.op = .slice T x (some y) (some z) none) (hx : E x = some (.string (strOf l))) (hy : E y = some (.int k p)) (hz : E z = some (.int k' q)) (hT : P.underlying T = some .string) (hp : p = (i : Int)) (hq : q = (j : Int)) (hi : i ≤ j) (hj : j ≤ l.length) : Runs P E o w (.string (strOf ((l.take j).drop i))) w := fun ρ h => by
  subst hp hq
  have := run_slice_string (P := P) w T (strOf l) k k' (i : Int) (j : Int) hT (by omega) (by omega) (by rw [strOf_size]; omega)
  rw [Int.toNat_natCast, Int.toNat_natCast, strOf_extract] at this
  unfold execOp; simp only [ho, Option.map_some, Option.map_none]; rw [h _ _ hx, h _ _ hy, h _ _ hz]
  simp only [Sem.run_bind, run_sliceAt_string (h := hT), this, Result.andThen_ok]; rfl
theorem Runs.addL {a b : List Nat} (ho : o.op = .binOp .add T x y T') (hx : E x = some (.string (strOf a))) (hy : E y = some (.string (strOf b))) (hs : a.length + b.length ≤ 9223372036854775807) : Runs P E o w (.string (strOf (a ++ b))) w :=
  (Runs.addS ho hx hy (by rw [strOf_size, strOf_size]; exact hs)).cast (by rw [strOf_append])
theorem Runs.eqlL {a b : List Nat} (ho : o.op = .binOp .eql T x y T') (hx : E x = some (.string (strOf a))) (hy : E y = some (.string (strOf b))) (ha : ∀ x ∈ a, x < 256) (hb : ∀ x ∈ b, x < 256) : Runs P E o w (.bool (decide (a = b))) w :=
  (Runs.eqlS ho hx hy).cast (by rw [strOf_beq ha hb])
theorem Runs.neqL {a b : List Nat} (ho : o.op = .binOp .neq T x y T') (hx : E x = some (.string (strOf a))) (hy : E y = some (.string (strOf b))) (ha : ∀ x ∈ a, x < 256) (hb : ∀ x ∈ b, x < 256) : Runs P E o w (.bool (decide (a ≠ b))) w :=
  (Runs.neqS ho hx hy).cast (by rw [strOf_beq ha hb]; by_cases h : a = b <;> simp [h])
theorem Runs.lenL {t : TypeId} {l : List Nat} (ho : o.op = .call { callee := .builtin .len, args := #[x], argTypes := #[t] }) (hx : E x = some (.string (strOf l))) (hT : P.underlying t = some .string) : Runs P E o w (.int .i64 (l.length : Int)) w :=
  (Runs.lenS ho hx hT).cast (by rw [strOf_size])
end
section
variable {P : Program} {ops : Array Oper} {Q : Exit → Act → World → Prop} {rest : List Oper} {E : Operand → Option Value} {o : Oper} {n d : Nat} {F : List (Nat × Value)} {w w' : World} {v : Value} {x y z : Operand} {T T' : TypeId}
theorem Post.end3 {fn : Func} {R : Ending → World → Prop} {t u s : Nat} {v' v'' : Value} {e : Exit} (hr : fn.results = #[.tmp t, .tmp u, .tmp s]) (hl : look F t = some v) (hl' : look F u = some v') (hl'' : look F s = some v'') (he : e = .ret ∨ e = .normal) (h : R (.returned (.tuple #[v, v', v''])) w) : Post (bodyPost P fn R) e n F w :=
  Post.end_ (fun a ha => by rw [results_tmp3 hr]; simp [ha.slot t v hl, ha.slot u v' hl', ha.slot s v'' hl'']) he h
end
section
variable {P : Program} {ops : Array Oper} {Q : Exit → Act → World → Prop} {rest : List Oper} {E : Operand → Option Value} {o : Oper} {n d : Nat} {F : List (Nat × Value)} {w w' : World} {v : Value} {x y z : Operand} {T T' : TypeId}
variable [Inhabited (List Deferred)]
/-- A text as bytes: a new block. -/
structure NewB (w w' : World) (g : Nat) (l : List Nat) : Prop where
  ge : w.heap.size ≤ g
  lt : g < w'.heap.size
  below : Below w.heap.size w w'
  reads : Reads w' w'.heap.size 1 (some ⟨g, 0, none⟩) l.length (Bt l)
theorem Seq.convSB {e : TypeId} {l : List Nat} (ho : o.op = .convert T T' x) (hx : evF F x = some (.string (strOf l))) (hS : P.underlying T = some .string) (hT : P.underlying T' = some (.slice e)) (he : P.underlying e = some (.int .u8)) (hl : ∀ x ∈ l, x < 256)
    (hg : o.guard = none) (hd : o.dst = some d) (hn : Nat.blt d n = true)
    (h : ∀ g c w', l.length ≤ c → NewB w w' g l → Seq P ops Q rest n ((d, .slice (some ⟨g, 0, none⟩) l.length c) :: F) w') : Seq P ops Q (o :: rest) n F w := by
  have hrun := run_bytes_of_string (P := P) w T T' e (strOf l) hS hT he
  generalize hc : grownCap w (strOf l).size 0 e = c at hrun
  have hcl : l.length ≤ c := by
    rw [← hc, ← strOf_size]
    unfold grownCap
    exact Nat.le_add_right _ _
  rw [strOf_size] at hrun
  refine Seq.val (w' := w.drew.alloc (.cells (bytesRow (strOf l) c) e ((bytesRow (strOf l) c).size, (bytesRow (strOf l) c).size + 1))) (fun ρ hρ => ?_) hg hd hn (h w.heap.size c _ hcl ⟨Nat.le_refl _, ?_, ?_, ?_⟩)
  · unfold execOp
    simp only [ho]; rw [hρ _ _ hx]
    simp only [Sem.run_bind, hrun, Result.andThen_ok]; rfl
  · show w.heap.size < (w.heap.push _).size
    rw [Array.size_push]; omega
  · exact ((Below.refl w.heap.size w).drewN 1).alloc (Nat.le_refl _) _
  · refine ⟨by rw [length_Bt]; omega, fun _ => ⟨_, rfl, (show w.heap.size < (w.heap.push _).size by rw [Array.size_push]; omega), fun j u hu => ?_⟩⟩
    have hplain : (⟨w.heap.size, 0, none⟩ : Addr).add j = ⟨w.heap.size, j, none⟩ := by unfold Addr.add; split <;> simp_all
    rw [hplain, cell_of_row _ _ _ _ _ _ (show (w.heap.push _)[w.heap.size]? = some _ from Array.getElem?_push_size)]
    rw [get_Bt] at hu
    cases hlj : l[j]? with
    | none => rw [hlj] at hu; cases hu
    | some b =>
      rw [hlj] at hu
      injection hu with hu
      subst hu
      have hj : j < l.length := (List.getElem?_eq_some_iff.1 hlj).1
      have hj2 : j < (strOf l).data.size := by show j < (strOf l).size; rw [strOf_size]; exact hj
      rw [bytesRow_at _ _ j hj2]
      have e : (strOf l).data[j] = UInt8.ofNat b := by
        have := strOf_get hlj
        rw [getElem?_pos (strOf l) j (by rw [strOf_size]; exact hj)] at this
        exact Option.some.inj this
      rw [e, ofNat_toNat (hl b (List.mem_of_getElem? hlj))]
end
end Go.Proofs.YtenikchlnfhikaaGreatDoor

namespace Go.Proofs.YtenikchlnfhikaaGreatDoor
open Go.RowKit

/-- The bytes of the first k rounds. -/
def prB (u d : Nat) : Nat → List Nat
  | 0 => []
  | k + 1 => prB u d k ++ (if k = d ∧ 0 < d then [46] else []) ++ [48 + u / 10 ^ k % 10]
/-- So many rounds. -/
def Rounds (u d N : Nat) : Prop := (∀ k, k < N → 0 < u / 10 ^ k ∨ k ≤ d) ∧ ¬ (0 < u / 10 ^ N ∨ N ≤ d)
def printed (n : Int) (d N : Nat) : List Nat := (prB n.natAbs d N ++ if n < 0 then [45] else []).reverse
end Go.Proofs.YtenikchlnfhikaaGreatDoor

namespace Go.Proofs.YtenikchlnfhikaaGreatDoor

def isDg (c : Nat) : Prop := 48 ≤ c ∧ c ≤ 57
/-- The number of digits, the highest first. -/
def valD (l : List Nat) : Nat := l.foldl (fun n c => 10 * n + (c - 48)) 0
/-- The digits of a number, the lowest first. -/
def Dg (u : Nat) : Nat → List Nat
  | 0 => []
  | k + 1 => Dg u k ++ [48 + u / 10 ^ k % 10]
/-- The text of a number. -/
def FormL (x : Int) (d : Nat) (F B : List Nat) : List Nat := (if x < 0 then [45] else []) ++ (F ++ (if 0 < d then 46 :: B else []))
structure Form (l : List Nat) (d : Nat) (x : Int) (F B : List Nat) : Prop where
  f : ∀ c ∈ F, isDg c
  b : ∀ c ∈ B, isDg c
  len : B.length = d
  pos : 0 < F.length
  lead : 1 < F.length → F[0]? ≠ some 48
  val : valD (F ++ B) = x.natAbs
  eq : l = FormL x d F B
/-- The number of digits that stand in a text. -/
def valS (l : List Nat) : Nat := l.foldl (fun n c => if 48 ≤ c ∧ c ≤ 57 then 10 * n + (c - 48) else n) 0
theorem foldS_dg (l : List Nat) (h : ∀ c ∈ l, isDg c) : ∀ a, l.foldl (fun n c => if 48 ≤ c ∧ c ≤ 57 then 10 * n + (c - 48) else n) a = l.foldl (fun n c => 10 * n + (c - 48)) a := by
  induction l with
  | nil => intro a; rfl
  | cons c l ih =>
    intro a
    rw [List.foldl_cons, List.foldl_cons, if_pos (show 48 ≤ c ∧ c ≤ 57 from h c (List.mem_cons_self ..))]
    exact ih (fun x hx => h x (List.mem_cons_of_mem _ hx)) _
def signZ (l : List Nat) : Int := if l.head? = some 45 then -(valS l : Int) else valS l
theorem signZ_form {l : List Nat} {d : Nat} {x : Int} {F B : List Nat} (h : Form l d x F B) : signZ l = x := by
  obtain ⟨hf, hb, hlen, hpos, hlead, hval, heq⟩ := h
  have hv : valS l = x.natAbs := by
    rw [heq, ← hval]
    unfold valS FormL
    rw [List.foldl_append, List.foldl_append, foldS_dg F hf]
    have e1 : List.foldl (fun n c => if 48 ≤ c ∧ c ≤ 57 then 10 * n + (c - 48) else n) 0 (if x < 0 then [45] else []) = 0 := by split <;> rfl
    rw [e1]
    unfold valD
    rw [List.foldl_append]
    rcases Nat.eq_zero_or_pos d with h0 | h0
    · subst h0
      obtain rfl := List.eq_nil_of_length_eq_zero hlen
      rfl
    · rw [if_pos h0, List.foldl_cons, if_neg (by omega), foldS_dg B hb]
  unfold signZ
  rw [hv]
  have hh : (l.head? = some 45) ↔ x < 0 := by
    rw [heq]
    unfold FormL
    by_cases hx : x < 0
    · simp [hx]
    · cases F with
      | nil => simp at hpos
      | cons c F =>
        have := hf c (List.mem_cons_self ..)
        unfold isDg at this
        simp [hx]
        omega
  by_cases hx : x < 0
  · rw [if_pos (hh.2 hx)]; omega
  · rw [if_neg (fun h => hx (hh.1 h))]; omega
end Go.Proofs.YtenikchlnfhikaaGreatDoor

namespace Go.Proofs.YtenikchlnfhikaaGreatDoor
open Go.RowKit

section
variable {P : Program} {E : Operand → Option Value} {o : Oper} {w w' : World} {v : Value}
end

/-- What stands ahead of the first byte of a kind, and behind it. -/
def cutA (l : List Nat) (c : Nat) : List Nat := if c ∈ l then l.take (idx l c) else l
def cutB (l : List Nat) (c : Nat) : List Nat := if c ∈ l then l.drop (idx l c + 1) else []
end Go.Proofs.YtenikchlnfhikaaGreatDoor

namespace Go.Proofs.YtenikchlnfhikaaGreatDoor
open Go.RowKit

/-- The upper and the lower half of a product. -/
def hiW (x y : Int) : Int := x * y / 18446744073709551616
def loW (x y : Int) : Int := x * y % 18446744073709551616
end Go.Proofs.YtenikchlnfhikaaGreatDoor

namespace Go.Proofs.YtenikchlnfhikaaGreatDoor
open Go.RowKit

def I64 (a : Int) : Prop := -9223372036854775808 ≤ a ∧ a ≤ 9223372036854775807
/-- Is it an int64? -/
def fits (a : Int) : Bool := decide (-9223372036854775808 ≤ a) && decide (a ≤ 9223372036854775807)
def smallOf (a : Int) : Int := if fits a = true then a else 0
end Go.Proofs.YtenikchlnfhikaaGreatDoor

namespace Go.Proofs.YtenikchlnfhikaaGreatDoor
open Go.RowKit

/-- A wide number. -/
def wideV (m : Nat) (neg : Bool) : Value := .agg #[.int .u64 ((m / 18446744073709551616 : Nat) : Int), .int .u64 ((m % 18446744073709551616 : Nat) : Int), .bool neg]
/-- What narrow answers. -/
def sgn (neg : Bool) (m : Nat) : Int := if neg then -(m : Int) else m
end Go.Proofs.YtenikchlnfhikaaGreatDoor

namespace Go.Proofs.YtenikchlnfhikaaGreatDoor
open Go.RowKit

end Go.Proofs.YtenikchlnfhikaaGreatDoor

namespace Go.Proofs.YtenikchlnfhikaaGreatDoor
open Go.RowKit

/-- A text without its sign. -/
def restOf (l : List Nat) : List Nat := if l.head? = some 45 then l.drop 1 else l
/-- The answer of a text: its number, and whether it is one. -/
def AmtA (l : List Nat) (d x : Int) (b : Bool) : Prop :=
  (b = true → 0 ≤ d ∧ d ≤ 9 ∧ I64 x ∧ ∃ F B, Form l d.toNat x F B) ∧ (b = false → x = 0 ∧ (0 ≤ d → d ≤ 9 → ∀ y, I64 y → ∀ F B, ¬ Form l d.toNat y F B))
theorem AmtA.uniq {l : List Nat} {d x y : Int} {b c : Bool} (h : AmtA l d x b) (k : AmtA l d y c) : x = y ∧ b = c := by
  cases b with
  | true =>
    obtain ⟨h1, h2, h3, F, B, h4⟩ := h.1 rfl
    cases c with
    | true =>
      obtain ⟨-, -, -, F', B', k4⟩ := k.1 rfl
      exact ⟨(signZ_form h4).symm.trans (signZ_form k4), rfl⟩
    | false => exact absurd h4 ((k.2 rfl).2 h1 h2 x h3 F B)
  | false =>
    obtain ⟨h1, h2⟩ := h.2 rfl
    cases c with
    | true =>
      obtain ⟨k1, k2, k3, F, B, k4⟩ := k.1 rfl
      exact absurd k4 (h2 k1 k2 y k3 F B)
    | false => exact ⟨by rw [h1, (k.2 rfl).1], rfl⟩
end Go.Proofs.YtenikchlnfhikaaGreatDoor

namespace Go.Proofs.YtenikchlnfhikaaGreatDoor

def letB (c : Nat) : Bool := (decide (97 ≤ c) && decide (c ≤ 122)) || (decide (65 ≤ c) && decide (c ≤ 90))
def digB (c : Nat) : Bool := decide (48 ≤ c) && decide (c ≤ 57)
def partB (c : Nat) : Bool := letB c || digB c || decide (c = 95)
/-- How many first bytes are so. -/
def runN (p : Nat → Bool) : List Nat → Nat
  | [] => 0
  | c :: l => if p c then runN p l + 1 else 0
theorem runN_le (p : Nat → Bool) : ∀ l, runN p l ≤ l.length
  | [] => Nat.le_refl _
  | c :: l => by
    unfold runN
    split
    · have := runN_le p l; simp; omega
    · simp
theorem runN_all (p : Nat → Bool) : ∀ (l : List Nat), ∀ c ∈ l.take (runN p l), p c = true
  | [], c, h => by simp at h
  | d :: l, c, h => by
    unfold runN at h
    split at h
    · rename_i hd
      rw [List.take_succ_cons] at h
      rcases List.mem_cons.1 h with rfl | h
      · exact hd
      · exact runN_all p l c h
    · simp at h
theorem runN_stop (p : Nat → Bool) : ∀ (l : List Nat) c, l[runN p l]? = some c → p c = false
  | [], c, h => by simp at h
  | d :: l, c, h => by
    unfold runN at h
    split at h
    · exact runN_stop p l c (by simpa using h)
    · rename_i hd
      simp at h
      subst h
      simpa using hd
def blankB (c : Nat) : Bool := decide (c = 32) || decide (c = 9) || decide (c = 10)
def noteB (c : Nat) : Bool := decide (c ≠ 10)
/-- How many first bytes are blanks and remarks; the second: within a remark. -/
def blankF : List Nat → Bool → Nat
  | [], _ => 0
  | c :: l, true => if c = 10 then blankF l false + 1 else blankF l true + 1
  | c :: l, false => if blankB c then blankF l false + 1 else if c = 35 then blankF l true + 1 else 0
def blankN (l : List Nat) : Nat := blankF l false
end Go.Proofs.YtenikchlnfhikaaGreatDoor

namespace Go.Proofs.YtenikchlnfhikaaGreatDoor
open Go.RowKit

theorem letter_any (c : Nat) (w : World) : Calls Tryz.prog 80 #[.int .u8 (c : Int)] w fun e w' => e = .returned (.bool (letB c)) ∧ Grow w w' := by
  have bel := Below.refl w.heap.size w
  refine Calls.start 17 Tryz.func80 rfl rfl rfl ?_
  refine Cd.seq ?_
  refine Cd.region ?_
  refine Seq.val (Runs.assign rfl rfl) rfl rfl rfl ?_
  refine Seq.nil ?_
  refine Post.weak (F' := [(0, _), (2, _)]) ⟨rfl, rfl, trivial⟩ ?_
  refine Post.then_ ?_
  refine Cd.seq ?_
  refine Cd.region ?_
  refine Seq.val (Runs.move rfl rfl) rfl rfl rfl ?_
  refine Seq.val (Runs.geq rfl rfl rfl) rfl rfl rfl ?_
  refine Seq.val (Runs.move rfl rfl) rfl rfl rfl ?_
  refine SeqC.start ?_
  refine SeqC.open rfl rfl rfl rfl rfl rfl rfl (fun hcx => Runs.move rfl rfl) ?_
  refine SeqC.next rfl rfl rfl rfl rfl rfl rfl (fun hcx => Runs.leq rfl rfl rfl) ?_
  refine SeqC.and rfl rfl rfl rfl rfl rfl rfl ?_
  refine Seq.val (Runs.move rfl rfl) rfl rfl rfl ?_
  refine SeqC.start ?_
  refine SeqC.open rfl rfl rfl rfl rfl rfl rfl (fun hcx => Runs.move rfl rfl) ?_
  refine SeqC.next rfl rfl rfl rfl rfl rfl rfl (fun hcx => Runs.geq rfl rfl rfl) ?_
  refine SeqC.next rfl rfl rfl rfl rfl rfl rfl (fun hcx => Runs.move rfl rfl) ?_
  refine SeqC.open rfl rfl rfl rfl rfl rfl rfl (fun hcx => Runs.move rfl rfl) ?_
  refine SeqC.next rfl rfl rfl rfl rfl rfl rfl (fun hcx => Runs.leq rfl rfl rfl) ?_
  refine SeqC.andG rfl rfl rfl rfl rfl rfl rfl rfl rfl rfl rfl ?_
  refine SeqC.or rfl rfl rfl rfl rfl rfl rfl ?_
  refine Seq.val (Runs.assign rfl rfl) rfl rfl rfl ?_
  refine Seq.nil ?_
  refine Post.weak (F' := [(0, _), (2, _)]) ⟨rfl, rfl, trivial⟩ ?_
  refine Post.then_ ?_
  refine Cd.ret ?_
  refine Post.end1 rfl rfl (.inl rfl) ?_
  refine ⟨ret1 (bool_eq ?_), bel⟩
  unfold letB
  rw [Bool.eq_iff_iff]
  simp
  omega
theorem digitL_any (c : Nat) (w : World) : Calls Tryz.prog 170 #[.int .u8 (c : Int)] w fun e w' => e = .returned (.bool (digB c)) ∧ Grow w w' := by
  have bel := Below.refl w.heap.size w
  refine Calls.start 9 Tryz.func170 rfl rfl rfl ?_
  refine Cd.seq ?_
  refine Cd.region ?_
  refine Seq.val (Runs.assign rfl rfl) rfl rfl rfl ?_
  refine Seq.nil ?_
  refine Post.weak (F' := [(0, _), (2, _)]) ⟨rfl, rfl, trivial⟩ ?_
  refine Post.then_ ?_
  refine Cd.seq ?_
  refine Cd.region ?_
  refine Seq.val (Runs.move rfl rfl) rfl rfl rfl ?_
  refine Seq.val (Runs.geq rfl rfl rfl) rfl rfl rfl ?_
  refine Seq.val (Runs.move rfl rfl) rfl rfl rfl ?_
  refine SeqC.start ?_
  refine SeqC.open rfl rfl rfl rfl rfl rfl rfl (fun hcx => Runs.move rfl rfl) ?_
  refine SeqC.next rfl rfl rfl rfl rfl rfl rfl (fun hcx => Runs.leq rfl rfl rfl) ?_
  refine SeqC.and rfl rfl rfl rfl rfl rfl rfl ?_
  refine Seq.val (Runs.assign rfl rfl) rfl rfl rfl ?_
  refine Seq.nil ?_
  refine Post.weak (F' := [(0, _), (2, _)]) ⟨rfl, rfl, trivial⟩ ?_
  refine Post.then_ ?_
  refine Cd.ret ?_
  refine Post.end1 rfl rfl (.inl rfl) ?_
  refine ⟨ret1 (bool_eq ?_), bel⟩
  unfold digB
  rw [Bool.eq_iff_iff]
  simp
  omega
theorem part_any (c : Nat) (w : World) : Calls Tryz.prog 82 #[.int .u8 (c : Int)] w fun e w' => e = .returned (.bool (partB c)) ∧ Grow w w' := by
  have bel := Below.refl w.heap.size w
  refine Calls.start 13 Tryz.func82 rfl rfl rfl ?_
  refine Cd.seq ?_
  refine Cd.region ?_
  refine Seq.val (Runs.assign rfl rfl) rfl rfl rfl ?_
  refine Seq.nil ?_
  refine Post.weak (F' := [(0, _), (2, _)]) ⟨rfl, rfl, trivial⟩ ?_
  refine Post.then_ ?_
  refine Cd.seq ?_
  refine Cd.region ?_
  refine Seq.val (Runs.move rfl rfl) rfl rfl rfl ?_
  refine Seq.call (Enters.func rfl rfl rfl (run_enter Tryz.func80 (by kernel_rfl) rfl)) rfl rfl rfl (letter_any c _) ?_
  rintro e w2 ⟨rfl, hb2⟩
  refine ⟨_, rfl, ?_⟩
  replace bel := bel.step hb2
  refine Seq.val (Runs.move rfl rfl) rfl rfl rfl ?_
  refine SeqC.start ?_
  refine SeqC.open rfl rfl rfl rfl rfl rfl rfl (fun hcx => Runs.move rfl rfl) ?_
  refine SeqC.nextC rfl rfl rfl rfl rfl rfl rfl (fun hcx => Enters.func rfl rfl rfl (run_enter Tryz.func170 (by kernel_rfl) rfl)) (fun hcx => digitL_any c _) ?_
  intro w1 hw1
  replace bel := bel.step hw1
  refine SeqC.or rfl rfl rfl rfl rfl rfl rfl ?_
  refine Seq.val (Runs.move rfl rfl) rfl rfl rfl ?_
  refine SeqC.start ?_
  refine SeqC.open rfl rfl rfl rfl rfl rfl rfl (fun hcx => Runs.move rfl rfl) ?_
  refine SeqC.next rfl rfl rfl rfl rfl rfl rfl (fun hcx => Runs.eqlI rfl rfl rfl) ?_
  refine SeqC.or rfl rfl rfl rfl rfl rfl rfl ?_
  refine Seq.val (Runs.assign rfl rfl) rfl rfl rfl ?_
  refine Seq.nil ?_
  refine Post.weak (F' := [(0, _), (2, _)]) ⟨rfl, rfl, trivial⟩ ?_
  refine Post.then_ ?_
  refine Cd.ret ?_
  refine Post.end1 rfl rfl (.inl rfl) ?_
  refine ⟨ret1 (bool_eq ?_), bel⟩
  unfold partB
  rw [show decide ((c : Int) = 95) = decide (c = 95) from decide_eq_decide.2 (by omega)]
theorem runN_upto (p : Nat → Bool) (l : List Nat) (k : Nat) (h : k ≤ runN p l) (c : Nat) (hc : l[k]? = some c) : (p c = true ↔ k < runN p l) := by
  constructor
  · intro hp
    rcases Nat.lt_or_ge k (runN p l) with h1 | h1
    · exact h1
    · obtain rfl : k = runN p l := by omega
      rw [runN_stop p l c hc] at hp; cases hp
  · intro h1
    refine runN_all p l c ?_
    refine List.mem_of_getElem? (i := k) ?_
    rw [List.getElem?_take_of_lt h1]; exact hc
theorem run_any (f : FuncId) (p : Nat → Bool) (eg : ∀ args w, (callFunc f args).run Tryz.prog w = .ok (.enter f args) w) (hp : ∀ (c : Nat) w, Calls Tryz.prog f #[.int .u8 (c : Int)] w fun e w' => e = .returned (.bool (p c)) ∧ Grow w w')
    (l : List Nat) (w : World) (hl : ∀ x ∈ l, x < 256) (hlen : l.length ≤ 9223372036854775807) :
    Calls Tryz.prog 81 #[.string (strOf l), .func (.func f) #[] #[]] w fun e w' => e = .returned (.int .i64 (runN p l : Int)) ∧ Grow w w' := by
  have bel := Below.refl w.heap.size w
  have hle := runN_le p l
  refine Calls.start 20 Tryz.func81 rfl rfl rfl ?_
  refine Cd.seq ?_
  refine Cd.region ?_
  refine Seq.val (Runs.assign rfl rfl) rfl rfl rfl ?_
  refine Seq.nil ?_
  refine Post.weak (F' := [(0, _), (1, _), (4, _)]) ⟨rfl, rfl, rfl, trivial⟩ ?_
  refine Post.then_ ?_
  refine Cd.seq ?_
  refine Cd.region ?_
  refine Seq.val (Runs.assign rfl rfl) rfl rfl rfl ?_
  refine Seq.nil ?_
  refine Post.weak (F' := [(0, _), (1, _), (4, _), (5, _)]) ⟨rfl, rfl, rfl, rfl, trivial⟩ ?_
  refine Post.then_ ?_
  refine Cd.seq ?_
  refine Cd.block ?_
  refine Cd.loop (σ := Nat) (fun k => [(0, .string (strOf l)), (1, .func (.func f) #[] #[]), (5, .int .i64 (k : Int))]) (fun k wr => k ≤ runN p l ∧ Below w.heap.size w wr) (fun k => runN p l - k) 0 ⟨Nat.zero_le _, bel⟩ ⟨rfl, rfl, rfl, trivial⟩ ?_
  clear bel
  rintro k wr ⟨hk, bel⟩
  refine Cd.seq ?_
  refine Cd.seq ?_
  refine Cd.region ?_
  refine Seq.val (Runs.move rfl rfl) rfl rfl rfl ?_
  refine Seq.val (Runs.move rfl rfl) rfl rfl rfl ?_
  refine Seq.val (Runs.lenL rfl rfl Tryz.underlying9) rfl rfl rfl ?_
  by_cases hi : k < l.length
  · obtain ⟨c, hc⟩ : ∃ c, l[k]? = some c := ⟨_, List.getElem?_eq_getElem hi⟩
    have hc256 := hl c (List.mem_of_getElem? hc)
    have hup := runN_upto p l k hk c hc
    refine Seq.val ((Runs.lss rfl rfl rfl).isT ((by omega))) rfl rfl rfl ?_
    refine Seq.val (Runs.move rfl rfl) rfl rfl rfl ?_
    refine Seq.valG (Runs.move rfl rfl) rfl rfl rfl rfl rfl ?_
    refine Seq.valG (Runs.move rfl rfl) rfl rfl rfl rfl rfl ?_
    refine Seq.valG (Runs.move rfl rfl) rfl rfl rfl rfl rfl ?_
    refine Seq.valG (Runs.indexL (l := l) (j := k) rfl rfl rfl Tryz.underlying9 rfl hc hc256) rfl rfl rfl rfl rfl ?_
    refine Seq.callG (Enters.value (first := []) (cap := []) rfl rfl rfl eg) rfl rfl rfl rfl rfl (hp c _) ?_
    rintro e w3 ⟨rfl, hb3⟩
    refine ⟨_, rfl, ?_⟩
    replace bel := bel.step hb3
    refine Seq.val (Runs.pickT rfl rfl rfl) rfl rfl rfl ?_
    refine Seq.nil ?_
    refine Post.weak (F' := [(0, _), (1, _), (5, _), (16, _)]) ⟨rfl, rfl, rfl, rfl, trivial⟩ ?_
    refine Post.then_ ?_
    refine Cd.cond rfl (fun h => ?_) (fun h => ?_)
    · have hlt := hup.1 h
      refine Cd.skip ?_
      refine Post.then_ ?_
      refine Cd.block ?_
      refine Cd.region ?_
      refine Seq.val (Runs.move rfl rfl) rfl rfl rfl ?_
      refine Seq.val (Runs.addI rfl rfl rfl (by omega) (by omega)) rfl rfl rfl ?_
      refine Seq.val (Runs.assign rfl rfl) rfl rfl rfl ?_
      refine Seq.nil ?_
      refine Post.weak (F' := [(0, _), (1, _), (5, _), (16, _)]) ⟨rfl, rfl, rfl, rfl, trivial⟩ ?_
      refine Post.block_normal ?_
      exact Post.round (k + 1) ⟨rfl, rfl, rfl, trivial⟩ ⟨by omega, bel⟩ (by omega)
    · have hk2 : runN p l = k := by
        rcases Nat.lt_or_ge k (runN p l) with h1 | h1
        · have := hup.2 h1
          rw [h] at this; cases this
        · omega
      rw [hk2]
      refine Cd.exit ?_
      refine Post.then_exit ?_
      refine Post.round_exit ?_
      refine Post.block_exit ?_
      refine Post.then_ ?_
      refine Cd.seq ?_
      refine Cd.region ?_
      refine Seq.val (Runs.move rfl rfl) rfl rfl rfl ?_
      refine Seq.val (Runs.assign rfl rfl) rfl rfl rfl ?_
      refine Seq.nil ?_
      refine Post.weak (F' := [(0, _), (1, _), (4, _), (5, _), (16, _)]) ⟨rfl, rfl, rfl, rfl, rfl, trivial⟩ ?_
      refine Post.then_ ?_
      refine Cd.ret ?_
      refine Post.end1 rfl rfl (.inl rfl) ?_
      exact ⟨rfl, bel⟩
  · have hk2 : runN p l = k := by omega
    rw [hk2]
    refine Seq.val ((Runs.lss rfl rfl rfl).isF ((by omega))) rfl rfl rfl ?_
    refine Seq.val (Runs.move rfl rfl) rfl rfl rfl ?_
    refine Seq.skipG rfl rfl rfl rfl rfl rfl ?_
    refine Seq.skipG rfl rfl rfl rfl rfl rfl ?_
    refine Seq.skipG rfl rfl rfl rfl rfl rfl ?_
    refine Seq.skipG rfl rfl rfl rfl rfl rfl ?_
    refine Seq.skipG rfl rfl rfl rfl rfl rfl ?_
    refine Seq.val (Runs.pickF rfl rfl rfl) rfl rfl rfl ?_
    refine Seq.nil ?_
    refine Post.weak (F' := [(0, _), (1, _), (5, _), (16, _)]) ⟨rfl, rfl, rfl, rfl, trivial⟩ ?_
    refine Post.then_ ?_
    refine Cd.condF rfl rfl ?_
    refine Cd.exit ?_
    refine Post.then_exit ?_
    refine Post.round_exit ?_
    refine Post.block_exit ?_
    refine Post.then_ ?_
    refine Cd.seq ?_
    refine Cd.region ?_
    refine Seq.val (Runs.move rfl rfl) rfl rfl rfl ?_
    refine Seq.val (Runs.assign rfl rfl) rfl rfl rfl ?_
    refine Seq.nil ?_
    refine Post.weak (F' := [(0, _), (1, _), (4, _), (5, _), (16, _)]) ⟨rfl, rfl, rfl, rfl, rfl, trivial⟩ ?_
    refine Post.then_ ?_
    refine Cd.ret ?_
    refine Post.end1 rfl rfl (.inl rfl) ?_
    exact ⟨rfl, bel⟩
theorem eg_part : ∀ args w, (callFunc 82 args).run Tryz.prog w = .ok (.enter 82 args) w := fun args w => run_enter Tryz.func82 (by kernel_rfl) rfl args w
theorem run_part (l : List Nat) (w : World) (hl : ∀ x ∈ l, x < 256) (hlen : l.length ≤ 9223372036854775807) :
    Calls Tryz.prog 81 #[.string (strOf l), .func (.func 82) #[] #[]] w fun e w' => e = .returned (.int .i64 (runN partB l : Int)) ∧ Grow w w' :=
  run_any _ partB eg_part part_any l w hl hlen
end Go.Proofs.YtenikchlnfhikaaGreatDoor

