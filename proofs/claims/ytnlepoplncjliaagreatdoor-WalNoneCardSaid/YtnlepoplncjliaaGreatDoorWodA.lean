/-
  codec.Writer and codec.Reader: bytes as they are. Condition: the lengths are within reach.
-/
import Derived.Test.YtnlepoplncjliaaGreatDoorKJ
import Derived.Test.YtnlepoplncjliaaGreatDoorKN
import Derived.Test.YtnlepoplncjliaaGreatDoorKL
import Derived.Test.YtnlepoplncjliaaGreatDoorRows
import Derived.Test.YtnlepoplncjliaaGreatDoorTLoad
import Derived.Test.YtnlepoplncjliaaGreatDoorFits
namespace Go.Proofs.YtnlepoplncjliaaGreatDoor
open Go.RowKit

theorem Runs.nilCheck {P : Program} {E : Operand → Option Value} {o : Oper} {w : World} {x : Operand} {ad : Addr} (ho : o.op = .nilCheck x) (hx : E x = some (.pointer (some ad))) : Runs P E o w (.pointer (some ad)) w := fun ρ h => by
  unfold execOp; simp only [ho]; rw [h _ _ hx]; rfl
theorem zero_codec_Writer : zeroIs Tryz.prog 120 = some (some (.agg #[.slice none 0 0])) := by kernel_rfl
theorem zero_uint8 : zeroIs Tryz.prog 5 = some (some (.int .u8 0)) := by kernel_rfl
/-- What a Writer's methods leave as it was. -/
structure Wf (B : Nat) (w w' : World) : Prop where
  below : Below (min B w.heap.size) w w'
  keep : ∀ k t cs, Blk w k t cs → t ≠ 120 → t ≠ 5 → Blk w' k t cs
section
variable {B : Nat} {w w' w'' : World}
theorem Wf.refl (B : Nat) (w : World) : Wf B w w := ⟨Below.refl _ _, fun _ _ _ h _ _ => h⟩
theorem Wf.trans (h : Wf B w w') (k : Wf B w' w'') : Wf B w w'' := ⟨h.below.trans (k.below.mono (by have := h.below.size; omega)), fun i t cs hb h1 h2 => k.keep i t cs (h.keep i t cs hb h1 h2) h1 h2⟩
theorem Wf.grow (h : Below w.heap.size w w') : Wf B w w' := ⟨h.mono (Nat.min_le_right _ _), fun _ _ _ hb _ _ => hb.step h⟩
theorem Wf.step (h : Wf B w w') (k : Below w'.heap.size w' w'') : Wf B w w'' := h.trans (Wf.grow k)
theorem Wf.wf (h : Wf B w w') (k : Wf B w' w'') : Wf B w w'' := h.trans k
theorem Wf.to (h : Wf B w w') (hB : B ≤ w.heap.size) : Below B w w' := by have := h.below; rwa [Nat.min_eq_left hB] at this
theorem Wf.put0 {g B' : Nat} {T : TypeId} {cur cs : Array Value} (h : Wf B w w') (k : Blk w' g T cur) (p : Put w' w'' g T cs) (e : B' ≤ g) (hB : B ≤ g) (hT : T = 120 ∨ T = 5) : Wf B w w'' :=
  h.trans ⟨(p.below hB k.lt).mono (Nat.min_le_left _ _), fun i t cs hb h1 h2 => hb.put p (hb.ne k (by rcases hT with rfl | rfl <;> assumption))⟩
theorem Wf.put {g : Nat} {T : TypeId} {cur cs : Array Value} (h : Wf B w w') (k : Blk w' g T cur) (p : Put w' w'' g T cs) (e : w.heap.size ≤ g) : Wf B w w'' :=
  ⟨h.below.trans (p.below (by omega) k.lt), fun i t cs hb h1 h2 => (h.keep i t cs hb h1 h2).put p (by have := hb.lt; omega)⟩
end
theorem Blk.wf {B : Nat} {w w' : World} {k : Nat} {t : TypeId} {cs : Array Value} (h : Blk w k t cs) (f : Wf B w w') (h1 : t ≠ 120 := by decide) (h2 : t ≠ 5 := by decide) : Blk w' k t cs := f.keep k t cs h h1 h2
theorem Reads.wf {B B2 size n : Nat} {w w' : World} {A : Option Addr} {xs : List Value} (h : Reads w B2 size A n xs) (f : Wf B w w') (hB : B2 ≤ B) (hs : B2 ≤ w.heap.size) : Reads w' B2 size A n xs := h.below (f.below.mono (by omega))
/-- A Writer, and what it has laid. -/
structure Wr (w : World) (B g : Nat) (bs : List Nat) : Prop where
  ge : B ≤ g
  bytes : ∀ d ∈ bs, d < 256
  cell : ∃ v, Blk w g 120 #[v] ∧ Own w B 5 1 v bs.length (Bt bs)
theorem Wr.size {w : World} {B g : Nat} {bs : List Nat} (h : Wr w B g bs) : B ≤ w.heap.size := by
  obtain ⟨v, hb, -⟩ := h.cell
  have := hb.lt
  have := h.ge
  omega
theorem Wr.step {w w' : World} {B g : Nat} {bs : List Nat} (h : Wr w B g bs) (k : Below w.heap.size w w') : Wr w' B g bs := by
  obtain ⟨v, hb, ho⟩ := h.cell
  exact ⟨h.ge, h.bytes, v, hb.step k, ho.step k⟩
theorem Wr.put {w w' : World} {B B' g g' : Nat} {bs : List Nat} {T : TypeId} {cur cs : Array Value} (h : Wr w B g bs) (k : Blk w g' T cur) (p : Put w w' g' T cs) (_e : B' ≤ g') (h1 : 120 ≠ T := by decide) (h2 : 5 ≠ T := by decide) : Wr w' B g bs := by
  obtain ⟨v, hb, ho⟩ := h.cell
  exact ⟨h.ge, h.bytes, v, hb.put p (hb.ne k h1), ho.put k p _e h2⟩
theorem App.wf {w w' : World} {B n : Nat} {v : Value} {xs : List Value} (h : App w w' B v) (o : Own w B 5 1 v n xs) : Wf B w w' :=
  ⟨h.below.mono (Nat.min_le_left _ _), fun i t cs hb _ h2 => hb.grown h.grown (fun e => own_blk_ne o.row hb (fun e => h2 e.symm) e.symm)⟩
theorem put_any (B g B2 m c : Nat) (A : Option Addr) (bs new : List Nat) (w : World) (h : Wr w B g bs) (hr : Reads w B2 1 A m (Bt new)) (hn : ∀ d ∈ new, d < 256) (hl : bs.length + new.length ≤ 1000000000) :
    Calls Tryz.prog 89 #[.pointer (some ⟨g, 0, none⟩), .slice A m c] w fun e w' => e = .returned (.pointer (some ⟨g, 0, none⟩)) ∧ Wf B w w' ∧ Wr w' B g (bs ++ new) := by
  obtain ⟨v, k0, own⟩ := h.cell
  have hB := h.size
  have hge := h.ge
  have hm : new.length = m := by have := hr.1; rw [length_Bt] at this; omega
  refine Calls.start 17 Tryz.func89 rfl rfl rfl ?_
  refine Cd.seq ?_
  refine Cd.region ?_
  refine Seq.val (Runs.assign rfl rfl) rfl rfl rfl ?_
  refine Seq.nil ?_
  refine Post.weak (F' := [(0, _), (1, _), (4, _)]) ⟨rfl, rfl, rfl, trivial⟩ ?_
  refine Post.then_ ?_
  refine Cd.seq ?_
  refine Cd.seq ?_
  refine Cd.region ?_
  refine Seq.val (Runs.move rfl rfl) rfl rfl rfl ?_
  refine Seq.val (Runs.neqP rfl rfl rfl Tryz.underlying118) rfl rfl rfl ?_
  refine Seq.nil ?_
  refine Post.weak (F' := [(0, _), (1, _), (4, _), (6, _)]) ⟨rfl, rfl, rfl, rfl, trivial⟩ ?_
  refine Post.then_ ?_
  refine Cd.condT rfl rfl ?_
  refine Cd.region ?_
  refine Seq.val (Runs.move rfl rfl) rfl rfl rfl ?_
  refine Seq.val (Runs.move rfl rfl) rfl rfl rfl ?_
  refine Seq.val (Runs.nilCheck rfl rfl) rfl rfl rfl ?_
  refine Seq.val (Runs.fieldB 0 rfl rfl Tryz.underlying120 rfl (by kernel_rfl)) rfl rfl rfl ?_
  refine Seq.val (Runs.loadB rfl rfl Tryz.underlying60 rfl k0 rfl) rfl rfl rfl ?_
  refine Seq.val (Runs.move rfl rfl) rfl rfl rfl ?_
  refine Seq.append rfl rfl rfl Tryz.underlying60 (by kernel_rfl) zero_uint8 rfl (by decide) (b := 1) (by kernel_rfl) own hr (by intro u hu; obtain ⟨d, -, rfl⟩ := List.mem_map.1 hu; rfl) hB (by simp only [maxLen]; omega) (by omega) rfl rfl rfl ?_
  intro v1 w1 own1 ha
  have k1 := k0.grown ha.grown (fun e => own_blk_ne own.row k0 (by decide) e.symm)
  have f1 := ha.wf own
  clear k0
  have k0 := k1
  obtain ⟨A1, c1, rfl, -⟩ := own1.reads
  have e0 : B ≤ g := hge
  have wf : Wf B w w1 := f1
  refine Seq.val (Runs.nilCheck rfl rfl) rfl rfl rfl ?_
  refine Seq.val (Runs.fieldB 0 rfl rfl Tryz.underlying120 rfl (by kernel_rfl)) rfl rfl rfl ?_
  refine Seq.store1 rfl rfl rfl (by kernel_rfl) rfl rfl k0 rfl rfl rfl ?_
  intro w1 pw1
  replace k0 := pw1.blk
  refine Seq.nil ?_
  refine Post.weak (F' := [(0, _), (1, _), (4, _), (6, _)]) ⟨rfl, rfl, rfl, rfl, trivial⟩ ?_
  refine Post.then_ ?_
  refine Cd.seq ?_
  refine Cd.region ?_
  refine Seq.val (Runs.move rfl rfl) rfl rfl rfl ?_
  refine Seq.val (Runs.assign rfl rfl) rfl rfl rfl ?_
  refine Seq.nil ?_
  refine Post.weak (F' := [(0, _), (1, _), (4, _), (6, _)]) ⟨rfl, rfl, rfl, rfl, trivial⟩ ?_
  refine Post.then_ ?_
  refine Cd.ret ?_
  have own2 := own1.put k1 pw1 hge
  have f2 := wf.put0 k1 pw1 hge hge (.inl rfl)
  refine Post.end1 rfl rfl (.inl rfl) ?_
  refine ⟨rfl, f2, hge, fun d hd => ?_, _, k0, ?_⟩
  · rcases List.mem_append.1 hd with hd | hd
    · exact h.bytes d hd
    · exact hn d hd
  · rw [Bt_append, List.length_append, hm]
    exact own2
set_option maxRecDepth 100000 in
theorem or128 : ∀ x, x < 256 → x ||| 128 = x % 128 + 128 := by decide
theorem Runs.or8 {P : Program} {E : Operand → Option Value} {o : Oper} {w : World} {x y : Operand} {T T' : TypeId} {a b : Nat} (ho : o.op = .binOp .or T x y T') (hx : E x = some (.int .u8 (a : Int))) (hy : E y = some (.int .u8 (b : Int))) (ha : a < 256) (hb : b < 256) : Runs P E o w (.int .u8 ((a ||| b : Nat) : Int)) w := by
  have e1 : (BitVec.ofInt IntKind.u8.bits (a : Int)).toNat = a := by simp [IntKind.bits]; omega
  have e2 : (BitVec.ofInt IntKind.u8.bits (b : Int)).toNat = b := by simp [IntKind.bits]; omega
  have hr : a ||| b < 256 := Nat.or_lt_two_pow (n := 8) ha hb
  refine .bin ho hx hy rfl ?_
  show (Op.intBits .or .u8 a b).run P w = _
  simp only [Op.intBits, BitVec.toNat_or, e1, e2, wrapB (Int.natCast_nonneg _) (Int.ofNat_lt.2 hr)]; rfl
theorem wrap8 (m : Nat) : IntKind.u8.wrap (m : Int) = ((m % 256 : Nat) : Int) := by rw [IntKind.wrap_u8]; omega
theorem Runs.convU {P : Program} {E : Operand → Option Value} {o : Oper} {w : World} {x : Operand} {T T' : TypeId} {p : Int} {r : Nat} (ho : o.op = .convert T T' x) (hx : E x = some (.int .i64 p)) (hS : P.underlying T = some (.int .i64)) (hT : P.underlying T' = some (.int .u64)) (hr : p % 18446744073709551616 = (r : Int)) : Runs P E o w (.int .u64 (r : Int)) w :=
  .convI ho hx hS hT (by rw [IntKind.wrap_u64, hr])
theorem raw_any (B g : Nat) (s bs : List Nat) (w : World) (h : Wr w B g bs) (hs : ∀ d ∈ s, d < 256) (hl : bs.length + s.length ≤ 1000000000) :
    Calls Tryz.prog 64 #[.pointer (some ⟨g, 0, none⟩), .string (strOf s)] w fun e w' => e = .returned (.pointer (some ⟨g, 0, none⟩)) ∧ Wf B w w' ∧ Wr w' B g (bs ++ s) := by
  have wf := Wf.refl B w
  have wr := h
  refine Calls.start 9 Tryz.func64 rfl rfl rfl ?_
  refine Cd.seq ?_
  refine Cd.region ?_
  refine Seq.val (Runs.assign rfl rfl) rfl rfl rfl ?_
  refine Seq.nil ?_
  refine Post.weak (F' := [(0, _), (1, _), (4, _)]) ⟨rfl, rfl, rfl, trivial⟩ ?_
  refine Post.then_ ?_
  refine Cd.seq ?_
  refine Cd.region ?_
  refine Seq.val (Runs.move rfl rfl) rfl rfl rfl ?_
  refine Seq.val (Runs.move rfl rfl) rfl rfl rfl ?_
  refine Seq.convSB rfl rfl Tryz.underlying9 Tryz.underlying60 Tryz.underlying5 hs rfl rfl rfl ?_
  intro g7 c7 w1 hc7 n7
  replace wf := wf.step n7.below
  replace wr := wr.step n7.below
  have hrd := n7.reads
  refine Seq.call (Enters.func rfl rfl rfl (run_enter Tryz.func89 (by kernel_rfl) rfl)) rfl rfl rfl (put_any B g _ _ c7 _ _ s _ wr hrd hs hl) ?_
  clear wr
  rintro e w1 ⟨rfl, fw1, wr⟩
  refine ⟨_, rfl, ?_⟩
  replace wf := wf.wf fw1
  refine Seq.val (Runs.assign rfl rfl) rfl rfl rfl ?_
  refine Seq.nil ?_
  refine Post.weak (F' := [(0, _), (1, _), (4, _)]) ⟨rfl, rfl, rfl, trivial⟩ ?_
  refine Post.then_ ?_
  refine Cd.ret ?_
  refine Post.end1 rfl rfl (.inl rfl) ?_
  exact ⟨rfl, wf, wr⟩
theorem wbytes_any (B g : Nat) (bs : List Nat) (w : World) (h : Wr w B g bs) :
    Calls Tryz.prog 66 #[.pointer (some ⟨g, 0, none⟩)] w fun e w' => e = .returned (.string (strOf bs)) ∧ Grow w w' := by
  have bel := Below.refl w.heap.size w
  obtain ⟨v, k0, own⟩ := h.cell
  obtain ⟨A, c, rfl, hr⟩ := own.reads
  refine Calls.start 10 Tryz.func66 rfl rfl rfl ?_
  refine Cd.seq ?_
  refine Cd.region ?_
  refine Seq.val (Runs.assign rfl rfl) rfl rfl rfl ?_
  refine Seq.nil ?_
  refine Post.weak (F' := [(0, _), (2, _)]) ⟨rfl, rfl, trivial⟩ ?_
  refine Post.then_ ?_
  refine Cd.seq ?_
  refine Cd.seq ?_
  refine Cd.region ?_
  refine Seq.val (Runs.move rfl rfl) rfl rfl rfl ?_
  refine Seq.val (Runs.eqlP rfl rfl rfl Tryz.underlying118) rfl rfl rfl ?_
  refine Seq.nil ?_
  refine Post.weak (F' := [(0, _), (2, _), (4, _)]) ⟨rfl, rfl, rfl, trivial⟩ ?_
  refine Post.then_ ?_
  refine Cd.condF rfl rfl ?_
  refine Cd.skip ?_
  refine Post.then_ ?_
  refine Cd.seq ?_
  refine Cd.region ?_
  refine Seq.val (Runs.move rfl rfl) rfl rfl rfl ?_
  refine Seq.val (Runs.nilCheck rfl rfl) rfl rfl rfl ?_
  refine Seq.val (Runs.fieldB 0 rfl rfl Tryz.underlying120 rfl (by kernel_rfl)) rfl rfl rfl ?_
  refine Seq.val (Runs.loadB rfl rfl Tryz.underlying60 rfl k0 rfl) rfl rfl rfl ?_
  refine Seq.val (Runs.convBS rfl rfl Tryz.underlying60 Tryz.underlying5 Tryz.underlying9 hr h.bytes) rfl rfl rfl ?_
  refine Seq.val (Runs.assign rfl rfl) rfl rfl rfl ?_
  refine Seq.nil ?_
  refine Post.weak (F' := [(0, _), (2, _), (4, _)]) ⟨rfl, rfl, rfl, trivial⟩ ?_
  refine Post.then_ ?_
  refine Cd.ret ?_
  refine Post.end1 rfl rfl (.inl rfl) ?_
  exact ⟨rfl, bel⟩
def Byt (s : List Nat) : Prop := ∀ d ∈ s, d < 256
theorem Byt.drop {s : List Nat} (h : Byt s) (k : Nat) : Byt (s.drop k) := fun d hd => h d (List.mem_of_mem_drop hd)
theorem Byt.take {s : List Nat} (h : Byt s) (k : Nat) : Byt (s.take k) := fun d hd => h d (List.mem_of_mem_take hd)
theorem Byt.tail {c : Nat} {s : List Nat} (h : Byt (c :: s)) : Byt s := fun d hd => h d (List.mem_cons_of_mem _ hd)
theorem Byt.right {a s : List Nat} (h : Byt (a ++ s)) : Byt s := fun d hd => h d (List.mem_append_right _ hd)
theorem Byt.left {a s : List Nat} (h : Byt (a ++ s)) : Byt a := fun d hd => h d (List.mem_append_left _ hd)
theorem Byt.app {a s : List Nat} (h : Byt a) (k : Byt s) : Byt (a ++ s) := fun d hd => by
  rcases List.mem_append.1 hd with hd | hd
  · exact h d hd
  · exact k d hd
def rawP (n : Int) (s : List Nat) : Option (List Nat × List Nat) := if 0 ≤ n ∧ n ≤ (s.length : Int) then some (s.take n.toNat, s.drop n.toNat) else none
/-- What a Reader's methods leave as it was: all but its block. -/
structure Kf (g : Nat) (w w' : World) : Prop where
  only : w.grownBy w' (some g)
section
variable {g : Nat} {w w' w'' : World}
theorem Kf.refl (g : Nat) (w : World) : Kf g w w := ⟨only_of_below (Below.refl _ _) _⟩
theorem Kf.trans (h : Kf g w w') (k : Kf g w' w'') : Kf g w w'' := ⟨only_trans h.only k.only⟩
theorem Kf.step (h : Kf g w w') (k : Below w'.heap.size w' w'') : Kf g w w'' := ⟨only_below h.only k⟩
theorem Kf.size (h : Kf g w w') : w.heap.size ≤ w'.heap.size := h.only.size
theorem Kf.put {g' : Nat} {T : TypeId} {cur cs : Array Value} (h : Kf g w w') (_k : Blk w' g' T cur) (p : Put w' w'' g' T cs) (e : w.heap.size ≤ g') : Kf g w w'' :=
  ⟨p.grown.os.trans h.only.os, p.grown.tape.trans h.only.tape, p.grown.output.trans h.only.output, by have := p.size; have := h.size; omega, fun k hk hne => (p.grown.block k (by have := h.size; omega) (fun e' => by injection e' with e'; omega)).trans (h.only.block k hk hne)⟩
theorem Kf.own {T : TypeId} {cs : Array Value} (h : Kf g w w') (p : Put w' w'' g T cs) : Kf g w w'' := h.trans ⟨p.grown⟩
theorem Kf.to {B : Nat} (h : Kf g w w') (hB : B ≤ g) (hg : g < w.heap.size) : Below B w w' := only_to_below h.only hB hg
end
/-- A Reader, and what is left of its bytes; none: it is a bad one. -/
def Rd (T : TypeId) (w : World) (g : Nat) (o : Option (List Nat)) : Prop := ∃ s b, Blk w g T #[.string (strOf s), .bool b] ∧ Byt s ∧ o = if b = true then none else some s
section
variable {T : TypeId} {w w' w'' : World} {g : Nat} {o : Option (List Nat)}
theorem Rd.step (h : Rd T w g o) (k : Below w.heap.size w w') : Rd T w' g o := by
  obtain ⟨s, b, h1, h2, h3⟩ := h
  exact ⟨s, b, h1.step k, h2, h3⟩
theorem Rd.put {g' B : Nat} {T' : TypeId} {cur cs : Array Value} (h : Rd T w g o) (k : Blk w g' T' cur) (p : Put w w' g' T' cs) (_e : B ≤ g') (hne : T ≠ T' := by decide) : Rd T w' g o := by
  obtain ⟨s, b, h1, h2, h3⟩ := h
  exact ⟨s, b, h1.put p (h1.ne k hne), h2, h3⟩
theorem Rd.lt (h : Rd T w g o) : g < w.heap.size := by
  obtain ⟨s, b, h1, -⟩ := h
  exact h1.lt
theorem Kf.kf (h : Kf g w w') (f : Kf g w' w'') (_rd : Rd T w' g o) : Kf g w w'' := h.trans f
theorem Blk.kf {k : Nat} {t : TypeId} {cs : Array Value} (h : Blk w k t cs) (f : Kf g w w') (rd : Rd T w g o) (hne : t ≠ T := by decide) : Blk w' k t cs := by
  obtain ⟨s, b, h1, -⟩ := rd
  exact h.grown f.only (fun e => h.ne h1 hne (by injection e))
theorem Own.kf {B size n : Nat} {e : TypeId} {v : Value} {xs : List Value} (h : Own w B e size v n xs) (f : Kf g w w') (rd : Rd T w g o) (hne : e ≠ T := by decide) : Own w' B e size v n xs := by
  obtain ⟨s, b, h1, -⟩ := rd
  exact ⟨h.row.kept f.only (own_ne_blk h.row h1 hne)⟩
theorem Rd.bad {s : List Nat} (k : Blk w g T #[.string (strOf s), .bool true]) (hs : Byt s) : Rd T w g none := ⟨s, true, k, hs, rfl⟩
theorem Rd.good {s : List Nat} (k : Blk w g T #[.string (strOf s), .bool false]) (hs : Byt s) : Rd T w g (some s) := ⟨s, false, k, hs, rfl⟩
end
/-- What is left behind. -/
def rest {α : Type} (p : List Nat → Option (α × List Nat)) (o : Option (List Nat)) : Option (List Nat) := (o.bind p).map Prod.snd
def val1 {α : Type} (p : List Nat → Option (α × List Nat)) (o : Option (List Nat)) (z : α) : Prop := ∀ a r, o.bind p = some (a, r) → z = a
theorem val1_none {α : Type} {p : List Nat → Option (α × List Nat)} {o : Option (List Nat)} {z : α} (h : o.bind p = none) : val1 p o z := fun a r e => by rw [h] at e; cases e
theorem val1_some {α : Type} {p : List Nat → Option (α × List Nat)} {o : Option (List Nat)} {z : α} {r : List Nat} (h : o.bind p = some (z, r)) : val1 p o z := fun a r' e => by rw [h] at e; injection e with e; injection e
def rawV (n : Int) (o : Option (List Nat)) : List Nat := ((o.bind (rawP n)).map Prod.fst).getD []
theorem good_any (g : Nat) (o : Option (List Nat)) (w : World) (h : Rd 169 w g o) : Calls Tryz.prog 123 #[.pointer (some ⟨g, 0, none⟩)] w fun e w' => e = .returned (.bool o.isSome) ∧ Grow w w' := by
  obtain ⟨s, b, k0, hs, rfl⟩ := h
  have bel := Below.refl w.heap.size w
  refine Calls.start 12 Tryz.func123 rfl rfl rfl ?_
  refine Cd.seq ?_
  refine Cd.region ?_
  refine Seq.val (Runs.assign rfl rfl) rfl rfl rfl ?_
  refine Seq.nil ?_
  refine Post.weak (F' := [(0, _), (2, _)]) ⟨rfl, rfl, trivial⟩ ?_
  refine Post.then_ ?_
  refine Cd.seq ?_
  refine Cd.region ?_
  refine Seq.val (Runs.move rfl rfl) rfl rfl rfl ?_
  refine Seq.val (Runs.neqP rfl rfl rfl Tryz.underlying133) rfl rfl rfl ?_
  refine Seq.val (Runs.move rfl rfl) rfl rfl rfl ?_
  refine SeqC.start ?_
  refine SeqC.open rfl rfl rfl rfl rfl rfl rfl (fun hcx => Runs.move rfl rfl) ?_
  refine SeqC.next rfl rfl rfl rfl rfl rfl rfl (fun hcx => Runs.nilCheck rfl rfl) ?_
  refine SeqC.next rfl rfl rfl rfl rfl rfl rfl (fun hcx => Runs.fieldB 1 rfl rfl Tryz.underlying169 rfl (by kernel_rfl)) ?_
  refine SeqC.next rfl rfl rfl rfl rfl rfl rfl (fun hcx => Runs.loadB rfl rfl Tryz.underlying4 rfl k0 rfl) ?_
  refine SeqC.next rfl rfl rfl rfl rfl rfl rfl (fun hcx => Runs.not rfl rfl) ?_
  refine SeqC.and rfl rfl rfl rfl rfl rfl rfl ?_
  refine Seq.val (Runs.assign rfl rfl) rfl rfl rfl ?_
  refine Seq.nil ?_
  refine Post.weak (F' := [(0, _), (2, _)]) ⟨rfl, rfl, trivial⟩ ?_
  refine Post.then_ ?_
  refine Cd.ret ?_
  refine Post.end1 rfl rfl (.inl rfl) ?_
  exact ⟨ret1 (bool_eq (by cases b <;> rfl)), bel⟩
theorem fail_any (g : Nat) (o : Option (List Nat)) (w : World) (h : Rd 169 w g o) : Calls Tryz.prog 154 #[.pointer (some ⟨g, 0, none⟩)] w fun e w' => e = .returned (.tuple #[]) ∧ Kf g w w' ∧ Rd 169 w' g none := by
  obtain ⟨s, b, k0, hs, rfl⟩ := h
  refine Calls.start 7 Tryz.func154 rfl rfl rfl ?_
  refine Cd.seq ?_
  refine Cd.region ?_
  refine Seq.val (Runs.move rfl rfl) rfl rfl rfl ?_
  refine Seq.val (Runs.neqP rfl rfl rfl Tryz.underlying133) rfl rfl rfl ?_
  refine Seq.nil ?_
  refine Post.weak (F' := [(0, _), (3, _)]) ⟨rfl, rfl, trivial⟩ ?_
  refine Post.then_ ?_
  refine Cd.condT rfl rfl ?_
  refine Cd.region ?_
  refine Seq.val (Runs.move rfl rfl) rfl rfl rfl ?_
  refine Seq.val (Runs.nilCheck rfl rfl) rfl rfl rfl ?_
  refine Seq.val (Runs.fieldB 1 rfl rfl Tryz.underlying169 rfl (by kernel_rfl)) rfl rfl rfl ?_
  refine Seq.store1 rfl rfl rfl (by kernel_rfl) rfl rfl k0 rfl rfl rfl ?_
  intro w1 pw1
  replace k0 := pw1.blk
  refine Seq.nil ?_
  refine Post.weak (F' := [(0, _), (3, _)]) ⟨rfl, rfl, trivial⟩ ?_
  refine Post.end0 rfl (.inr rfl) ?_
  exact ⟨rfl, ⟨pw1.grown⟩, Rd.bad k0 hs⟩
theorem rraw_any (g : Nat) (n : Int) (o : Option (List Nat)) (w : World) (h : Rd 169 w g o) : Calls Tryz.prog 122 #[.pointer (some ⟨g, 0, none⟩), .int .i64 n] w fun e w' => e = .returned (.string (strOf (rawV n o))) ∧ Kf g w w' ∧ Rd 169 w' g (rest (rawP n) o) := by
  have rd := h
  obtain ⟨s, b, k0, hs, ho⟩ := h
  have kf := Kf.refl g w
  refine Calls.start 40 Tryz.func122 rfl rfl rfl ?_
  refine Cd.seq ?_
  refine Cd.region ?_
  refine Seq.val (Runs.assign rfl rfl) rfl rfl rfl ?_
  refine Seq.nil ?_
  refine Post.weak (F' := [(0, _), (1, _), (4, _)]) ⟨rfl, rfl, rfl, trivial⟩ ?_
  refine Post.then_ ?_
  refine Cd.seq ?_
  refine Cd.seq ?_
  refine Cd.region ?_
  refine Seq.val (Runs.move rfl rfl) rfl rfl rfl ?_
  refine Seq.call (Enters.func rfl rfl rfl (run_enter Tryz.func123 (by kernel_rfl) rfl)) rfl rfl rfl (good_any g o _ rd) ?_
  rintro e w5 ⟨rfl, hb5⟩
  refine ⟨_, rfl, ?_⟩
  replace kf := kf.step hb5
  replace rd := rd.step hb5
  replace k0 := k0.step hb5
  refine Seq.val (Runs.not rfl rfl) rfl rfl rfl ?_
  refine Seq.val (Runs.move rfl rfl) rfl rfl rfl ?_
  refine SeqC.start ?_
  refine SeqC.open rfl rfl rfl rfl rfl rfl rfl (fun hcx => Runs.move rfl rfl) ?_
  refine SeqC.next rfl rfl rfl rfl rfl rfl rfl (fun hcx => Runs.lss rfl rfl rfl) ?_
  refine SeqC.or rfl rfl rfl rfl rfl rfl rfl ?_
  refine Seq.val (Runs.move rfl rfl) rfl rfl rfl ?_
  refine SeqC.start ?_
  refine SeqC.open rfl rfl rfl rfl rfl rfl rfl (fun hcx => Runs.move rfl rfl) ?_
  refine SeqC.next rfl rfl rfl rfl rfl rfl rfl (fun hcx => Runs.move rfl rfl) ?_
  refine SeqC.next rfl rfl rfl rfl rfl rfl rfl (fun hcx => Runs.nilCheck rfl rfl) ?_
  refine SeqC.next rfl rfl rfl rfl rfl rfl rfl (fun hcx => Runs.fieldB 0 rfl rfl Tryz.underlying169 rfl (by kernel_rfl)) ?_
  refine SeqC.next rfl rfl rfl rfl rfl rfl rfl (fun hcx => Runs.loadB rfl rfl Tryz.underlying9 rfl k0 rfl) ?_
  refine SeqC.next rfl rfl rfl rfl rfl rfl rfl (fun hcx => Runs.lenL rfl rfl Tryz.underlying9) ?_
  refine SeqC.next rfl rfl rfl rfl rfl rfl rfl (fun hcx => Runs.gtr rfl rfl rfl) ?_
  refine SeqC.or rfl rfl rfl rfl rfl rfl rfl ?_
  refine Seq.nil ?_
  refine Post.weak (F' := [(0, _), (1, _), (4, _), (21, _)]) ⟨rfl, rfl, rfl, rfl, trivial⟩ ?_
  refine Post.then_ ?_
  refine Cd.cond rfl (fun h => ?_) (fun h => ?_)
  · have hr : o.bind (rawP n) = none := by
      rw [ho]
      cases b with
      | true => rfl
      | false =>
        rw [ho] at h
        simp at h
        show rawP n s = none
        unfold rawP
        rw [if_neg (by omega)]
    refine Cd.seq ?_
    refine Cd.region ?_
    refine Seq.val (Runs.move rfl rfl) rfl rfl rfl ?_
    refine Seq.call (Enters.func rfl rfl rfl (run_enter Tryz.func154 (by kernel_rfl) rfl)) rfl rfl rfl (fail_any g o _ rd) ?_
    rintro e w1 ⟨rfl, fw1, rd'⟩
    refine ⟨_, rfl, ?_⟩
    replace kf := kf.kf fw1 rd
    replace rd := rd'
    clear rd'
    refine Seq.nil ?_
    refine Post.weak (F' := [(0, _), (1, _), (4, _), (21, _)]) ⟨rfl, rfl, rfl, rfl, trivial⟩ ?_
    refine Post.then_ ?_
    refine Cd.seq ?_
    refine Cd.region ?_
    refine Seq.val (Runs.assign rfl rfl) rfl rfl rfl ?_
    refine Seq.nil ?_
    refine Post.weak (F' := [(0, _), (1, _), (4, _), (21, _)]) ⟨rfl, rfl, rfl, rfl, trivial⟩ ?_
    refine Post.then_ ?_
    refine Cd.ret ?_
    refine Post.then_ret ?_
    refine Post.end1 rfl rfl (.inl rfl) ?_
    unfold rest rawV
    rw [hr]
    exact ⟨rfl, kf, rd⟩
  · have hb : b = false := by
      cases b with
      | false => rfl
      | true => rw [ho] at h; simp at h
    subst hb
    have ho' : o = some s := ho
    rw [ho'] at h
    simp at h
    have hr : o.bind (rawP n) = some (s.take n.toNat, s.drop n.toNat) := by
      rw [ho']
      show rawP n s = _
      unfold rawP
      rw [if_pos (by omega)]
    refine Cd.skip ?_
    refine Post.then_ ?_
    refine Cd.seq ?_
    refine Cd.region ?_
    refine Seq.val (Runs.move rfl rfl) rfl rfl rfl ?_
    refine Seq.val (Runs.nilCheck rfl rfl) rfl rfl rfl ?_
    refine Seq.val (Runs.fieldB 0 rfl rfl Tryz.underlying169 rfl (by kernel_rfl)) rfl rfl rfl ?_
    refine Seq.val (Runs.loadB rfl rfl Tryz.underlying9 rfl k0 rfl) rfl rfl rfl ?_
    refine Seq.val (Runs.move rfl rfl) rfl rfl rfl ?_
    refine Seq.val (Runs.sliceTo rfl rfl rfl Tryz.underlying9 (j := n.toNat) (by omega) (by omega)) rfl rfl rfl ?_
    refine Seq.val (Runs.assign rfl rfl) rfl rfl rfl ?_
    refine Seq.nil ?_
    refine Post.weak (F' := [(0, _), (1, _), (4, _), (5, _), (21, _)]) ⟨rfl, rfl, rfl, rfl, rfl, trivial⟩ ?_
    refine Post.then_ ?_
    refine Cd.seq ?_
    refine Cd.region ?_
    refine Seq.val (Runs.move rfl rfl) rfl rfl rfl ?_
    refine Seq.val (Runs.move rfl rfl) rfl rfl rfl ?_
    refine Seq.val (Runs.nilCheck rfl rfl) rfl rfl rfl ?_
    refine Seq.val (Runs.fieldB 0 rfl rfl Tryz.underlying169 rfl (by kernel_rfl)) rfl rfl rfl ?_
    refine Seq.val (Runs.loadB rfl rfl Tryz.underlying9 rfl k0 rfl) rfl rfl rfl ?_
    refine Seq.val (Runs.move rfl rfl) rfl rfl rfl ?_
    refine Seq.val (Runs.sliceFrom rfl rfl rfl Tryz.underlying9 (j := n.toNat) (by omega) (by omega)) rfl rfl rfl ?_
    refine Seq.val (Runs.nilCheck rfl rfl) rfl rfl rfl ?_
    refine Seq.val (Runs.fieldB 0 rfl rfl Tryz.underlying169 rfl (by kernel_rfl)) rfl rfl rfl ?_
    refine Seq.store1 rfl rfl rfl (by kernel_rfl) rfl rfl k0 rfl rfl rfl ?_
    intro w1 pw1
    replace k0 := pw1.blk
    refine Seq.nil ?_
    refine Post.weak (F' := [(0, _), (1, _), (4, _), (5, _), (21, _)]) ⟨rfl, rfl, rfl, rfl, rfl, trivial⟩ ?_
    refine Post.then_ ?_
    refine Cd.seq ?_
    refine Cd.region ?_
    refine Seq.val (Runs.move rfl rfl) rfl rfl rfl ?_
    have kf2 := kf.own pw1
    refine Seq.val (Runs.assign rfl rfl) rfl rfl rfl ?_
    refine Seq.nil ?_
    refine Post.weak (F' := [(0, _), (1, _), (4, _), (5, _), (21, _)]) ⟨rfl, rfl, rfl, rfl, rfl, trivial⟩ ?_
    refine Post.then_ ?_
    refine Cd.ret ?_
    refine Post.end1 rfl rfl (.inl rfl) ?_
    unfold rest rawV
    rw [hr]
    exact ⟨rfl, kf2, Rd.good k0 (hs.drop _)⟩
theorem read_any (s : List Nat) (w : World) (hs : Byt s) : Calls Tryz.prog 84 #[.string (strOf s)] w fun e w' => ∃ g, e = .returned (.pointer (some ⟨g, 0, none⟩)) ∧ Grow w w' ∧ w.heap.size ≤ g ∧ Rd 169 w' g (some s) := by
  have bel := Below.refl w.heap.size w
  have hb : ∀ W, (Instr.build 169 #[(0, .string (strOf s))]).run Tryz.prog W = .ok (.agg #[.string (strOf s), .bool false]) W := fun W => by
    have hu := Tryz.underlying169
    go_simp
  refine Calls.start 6 Tryz.func84 rfl rfl rfl ?_
  refine Cd.seq ?_
  refine Cd.region ?_
  refine Seq.val (Runs.assign rfl rfl) rfl rfl rfl ?_
  refine Seq.nil ?_
  refine Post.weak (F' := [(0, _), (2, _)]) ⟨rfl, rfl, trivial⟩ ?_
  refine Post.then_ ?_
  refine Cd.seq ?_
  refine Cd.region ?_
  refine Seq.val (Runs.move rfl rfl) rfl rfl rfl ?_
  refine Seq.val (Runs.build rfl rfl (hb _)) rfl rfl rfl ?_
  refine Seq.box rfl rfl rfl rfl rfl ?_
  intro g5 w1 n5
  have e5 := Nat.le_trans bel.size n5.ge
  replace bel := bel.step n5.below
  have k5 := n5.blk
  refine Seq.val (Runs.assign rfl rfl) rfl rfl rfl ?_
  refine Seq.nil ?_
  refine Post.weak (F' := [(0, _), (2, _)]) ⟨rfl, rfl, trivial⟩ ?_
  refine Post.then_ ?_
  refine Cd.ret ?_
  refine Post.end1 rfl rfl (.inl rfl) ?_
  exact ⟨_, rfl, bel, e5, Rd.good k5 hs⟩
end Go.Proofs.YtnlepoplncjliaaGreatDoor
