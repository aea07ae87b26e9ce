/-
  edit.take, list.GetAll, codec.Read: what they answer. No condition but that bytes are bytes.
-/
import Derived.Test.YthnnephcohljeaaCodH
namespace Go.Proofs.Ythnnephcohljeaa
open Go.RowKit

def retP {α : Type} (x : α) (s : List Nat) : Option (α × List Nat) := some (x, s)
def seqP {α β : Type} (p : List Nat → Option (α × List Nat)) (k : α → List Nat → Option (β × List Nat)) (s : List Nat) : Option (β × List Nat) := (p s).bind fun x => k x.1 x.2
section
variable {α β : Type} {p : List Nat → Option (α × List Nat)} {k : α → List Nat → Option (β × List Nat)} {o : Option (List Nat)} {a : α}
theorem seqP_bind (o : Option (List Nat)) : o.bind (seqP p k) = (o.bind p).bind fun x => k x.1 x.2 := by cases o <;> rfl
theorem seqP_rest (h : val1 p o a) : rest (seqP p k) o = rest (k a) (rest p o) := by
  unfold rest
  rw [seqP_bind]
  cases hx : o.bind p with
  | none => rfl
  | some x =>
    obtain ⟨b, r⟩ := x
    have := h b r hx
    subst this
    rfl
theorem seqP_val (h : val1 p o a) {b : β} (hb : val1 (k a) (rest p o) b) : val1 (seqP p k) o b := by
  intro c r e
  rw [seqP_bind] at e
  cases hx : o.bind p with
  | none => rw [hx] at e; cases e
  | some x =>
    obtain ⟨d, q⟩ := x
    have := h d q hx
    subst this
    rw [hx] at e
    refine hb c r ?_
    unfold rest
    rw [hx]
    exact e
theorem retP_val (x : α) : val1 (retP x) o x := fun a r e => by
  cases o with
  | none => cases e
  | some s => injection e with e; injection e
theorem retP_rest (x : α) : rest (retP x) o = o := by cases o <;> rfl
end
/-- A file's bytes, read. -/
def fnP : List Nat → Option (Fn × List Nat) := seqP sizeP fun a => seqP sizeP fun b => seqP (txtP 80) fun c => seqP (txtP 80) fun d => seqP sizeP fun e => seqP sizeP fun f => retP ⟨a, b, c, d, e, f⟩
theorem seqP_full {α β : Type} {p : List Nat → Option (α × List Nat)} {k : α → List Nat → Option (β × List Nat)} {enc : α → List Nat} {ok : α → Prop} (h : Cod p enc ok) {a : α} (ha : ok a) (t : List Nat) : seqP p k (enc a ++ t) = k a t := by
  unfold seqP
  rw [h.full a t ha]; rfl
theorem seqP_sound {α β : Type} {p : List Nat → Option (α × List Nat)} {k : α → List Nat → Option (β × List Nat)} {enc : α → List Nat} {ok : α → Prop} (h : Cod p enc ok) {s : List Nat} {b : β} {r : List Nat} (hs : Byt s) (e : seqP p k s = some (b, r)) : ∃ a q, ok a ∧ s = enc a ++ q ∧ Byt q ∧ k a q = some (b, r) := by
  unfold seqP at e
  cases hx : p s with
  | none => rw [hx] at e; cases e
  | some x =>
    obtain ⟨a, q⟩ := x
    rw [hx] at e
    obtain ⟨h1, h2⟩ := h.sound s a q hs hx
    exact ⟨a, q, h1, h2, Byt.right (a := enc a) (h2 ▸ hs), e⟩
theorem retP_eq {α : Type} {x y : α} {s r : List Nat} (h : retP x s = some (y, r)) : x = y ∧ s = r := by
  injection h with h
  injection h with h1 h2
  exact ⟨h1, h2⟩
/-- The bytes of texts are bytes: what is read is so, what is laid has to be. -/
def Fn.ok2 (f : Fn) : Prop := f.num < 9223372036854775808 ∧ f.level < 9223372036854775808 ∧ f.first.length ≤ 80 ∧ f.last.length ≤ 80 ∧ f.count < 9223372036854775808 ∧ f.size < 9223372036854775808
theorem Fn.ok.two {f : Fn} (h : f.ok) : f.ok2 := ⟨h.num, h.level, h.first80, h.last80, h.count, h.size⟩
theorem fnP_cod : Cod fnP Fn.bytes Fn.ok2 where
  full := fun f r h => by
    obtain ⟨h1, h2, h3, h4, h5, h6⟩ := h
    unfold fnP Fn.bytes
    simp only [List.append_assoc]
    rw [seqP_full sizeP_cod h1, seqP_full sizeP_cod h2, seqP_full (txtP_cod 80 (by omega)) h3, seqP_full (txtP_cod 80 (by omega)) h4, seqP_full sizeP_cod h5, seqP_full sizeP_cod h6]
    rfl
  sound := fun s f r hs h => by
    unfold fnP at h
    obtain ⟨a, s1, a1, e1, b1, h⟩ := seqP_sound sizeP_cod hs h
    obtain ⟨b, s2, a2, e2, b2, h⟩ := seqP_sound sizeP_cod b1 h
    obtain ⟨c, s3, a3, e3, b3, h⟩ := seqP_sound (txtP_cod 80 (by omega)) b2 h
    obtain ⟨d, s4, a4, e4, b4, h⟩ := seqP_sound (txtP_cod 80 (by omega)) b3 h
    obtain ⟨e, s5, a5, e5, b5, h⟩ := seqP_sound sizeP_cod b4 h
    obtain ⟨f', s6, a6, e6, b6, h⟩ := seqP_sound sizeP_cod b5 h
    obtain ⟨rfl, rfl⟩ := retP_eq h
    refine ⟨⟨a1, a2, a3, a4, a5, a6⟩, ?_⟩
    rw [e1, e2, e3, e4, e5, e6]
    simp only [Fn.bytes, List.append_assoc]
theorem run_build_F2 (a b : Int) (w : World) : (Instr.build 28 #[(0, .int .i64 a), (1, .int .i64 b)]).run Try.prog w = .ok (.agg #[.int .i64 a, .int .i64 b, .string { data := #[] }, .string { data := #[] }, .int .i64 0, .int .i64 0]) w := by
  have hu := Try.underlying28
  go_simp
/-- What is read of a file, whatever comes: it is within bounds. -/
structure Fn.rd (f : Fn) : Prop where
  num : f.num < 9223372036854775808
  level : f.level < 9223372036854775808
  count : f.count < 9223372036854775808
  size : f.size < 9223372036854775808
  first : Byt f.first
  last : Byt f.last
theorem take_any (g : Nat) (o : Option (List Nat)) (w : World) (h : Rd 124 w g o) : Calls Try.prog 46 #[.pointer (some ⟨g, 0, none⟩)] w fun e w' => ∃ z : Fn, (z.rd ∧ val1 fnP o z ∧ e = .returned z.fl.v) ∧ Kf g w w' ∧ Rd 124 w' g (rest fnP o) := by
  have rd := h
  have kf := Kf.refl g w
  refine Calls.start 22 Try.func46 rfl rfl rfl ?_
  refine Cd.seq ?_
  refine Cd.region ?_
  refine Seq.alloc rfl (run_zero zero_edit_File) rfl rfl rfl ?_
  intro g2 w1 n2
  have e2 := Nat.le_trans kf.size n2.ge
  replace kf := kf.step n2.below
  replace rd := rd.step n2.below
  have k2 := n2.blk
  refine Seq.nil ?_
  refine Post.weak (F' := [(0, _), (2, _)]) ⟨rfl, rfl, trivial⟩ ?_
  refine Post.then_ ?_
  refine Cd.seq ?_
  refine Cd.region ?_
  refine Seq.val (Runs.move rfl rfl) rfl rfl rfl ?_
  refine Seq.call (Enters.func rfl rfl rfl (run_enter Try.func44 (by kernel_rfl) rfl)) rfl rfl rfl (rsize_any g o _ rd) ?_
  rintro e w2 ⟨z1, ⟨hz1, hv1, rfl⟩, fw2, rd'⟩
  refine ⟨_, rfl, ?_⟩
  replace kf := kf.kf fw2 rd
  replace k2 := k2.kf fw2 rd
  replace rd := rd'
  clear rd'
  refine Seq.val (Runs.move rfl rfl) rfl rfl rfl ?_
  refine Seq.call (Enters.func rfl rfl rfl (run_enter Try.func44 (by kernel_rfl) rfl)) rfl rfl rfl (rsize_any g _ _ rd) ?_
  rintro e w3 ⟨z2, ⟨hz2, hv2, rfl⟩, fw3, rd'⟩
  refine ⟨_, rfl, ?_⟩
  replace kf := kf.kf fw3 rd
  replace k2 := k2.kf fw3 rd
  replace rd := rd'
  clear rd'
  refine Seq.val (Runs.build rfl rfl (run_build_F2 _ _ _)) rfl rfl rfl ?_
  refine Seq.alloc rfl (run_zero zero_edit_File) rfl rfl rfl ?_
  intro g3 w4 n3
  have e3 := Nat.le_trans kf.size n3.ge
  have l3 := Nat.lt_of_lt_of_le k2.lt n3.ge
  replace kf := kf.step n3.below
  replace rd := rd.step n3.below
  replace k2 := k2.step n3.below
  have k3 := n3.blk
  refine Seq.storeN rfl rfl rfl rfl (m := 6) (by kernel_rfl) rfl (by repeat' first | exact trivial | apply And.intro | rfl | assumption) k3 (by simp [Value.cells]) rfl rfl ?_
  intro w5 pw5
  replace kf := kf.put k3 pw5 e3
  replace rd := rd.put k3 pw5 e3
  replace k2 := k2.put pw5 (by omega)
  replace k3 := pw5.blk
  refine Seq.nil ?_
  refine Post.weak (F' := [(0, _), (2, _), (3, _)]) ⟨rfl, rfl, rfl, trivial⟩ ?_
  refine Post.then_ ?_
  refine Cd.seq ?_
  refine Cd.region ?_
  refine Seq.val (Runs.move rfl rfl) rfl rfl rfl ?_
  refine Seq.call (Enters.func rfl rfl rfl (run_enter Try.func81 (by kernel_rfl) rfl)) rfl rfl rfl (rtext_any g 80 _ _ rd) ?_
  rintro e w6 ⟨z3, ⟨hz3, hv3, rfl⟩, fw6, rd'⟩
  refine ⟨_, rfl, ?_⟩
  replace kf := kf.kf fw6 rd
  replace k2 := k2.kf fw6 rd
  replace k3 := k3.kf fw6 rd
  replace rd := rd'
  clear rd'
  refine Seq.val (Runs.fieldB 2 rfl rfl Try.underlying28 rfl (by kernel_rfl)) rfl rfl rfl ?_
  refine Seq.store1 rfl rfl rfl (by kernel_rfl) rfl rfl k3 rfl rfl rfl ?_
  intro w7 pw7
  replace kf := kf.put k3 pw7 e3
  replace rd := rd.put k3 pw7 e3
  replace k2 := k2.put pw7 (by omega)
  replace k3 := pw7.blk
  refine Seq.nil ?_
  refine Post.weak (F' := [(0, _), (2, _), (3, _)]) ⟨rfl, rfl, rfl, trivial⟩ ?_
  refine Post.then_ ?_
  refine Cd.seq ?_
  refine Cd.region ?_
  refine Seq.val (Runs.move rfl rfl) rfl rfl rfl ?_
  refine Seq.call (Enters.func rfl rfl rfl (run_enter Try.func81 (by kernel_rfl) rfl)) rfl rfl rfl (rtext_any g 80 _ _ rd) ?_
  rintro e w8 ⟨z4, ⟨hz4, hv4, rfl⟩, fw8, rd'⟩
  refine ⟨_, rfl, ?_⟩
  replace kf := kf.kf fw8 rd
  replace k2 := k2.kf fw8 rd
  replace k3 := k3.kf fw8 rd
  replace rd := rd'
  clear rd'
  refine Seq.val (Runs.fieldB 3 rfl rfl Try.underlying28 rfl (by kernel_rfl)) rfl rfl rfl ?_
  refine Seq.store1 rfl rfl rfl (by kernel_rfl) rfl rfl k3 rfl rfl rfl ?_
  intro w9 pw9
  replace kf := kf.put k3 pw9 e3
  replace rd := rd.put k3 pw9 e3
  replace k2 := k2.put pw9 (by omega)
  replace k3 := pw9.blk
  refine Seq.nil ?_
  refine Post.weak (F' := [(0, _), (2, _), (3, _)]) ⟨rfl, rfl, rfl, trivial⟩ ?_
  refine Post.then_ ?_
  refine Cd.seq ?_
  refine Cd.region ?_
  refine Seq.val (Runs.move rfl rfl) rfl rfl rfl ?_
  refine Seq.call (Enters.func rfl rfl rfl (run_enter Try.func44 (by kernel_rfl) rfl)) rfl rfl rfl (rsize_any g _ _ rd) ?_
  rintro e w10 ⟨z5, ⟨hz5, hv5, rfl⟩, fw10, rd'⟩
  refine ⟨_, rfl, ?_⟩
  replace kf := kf.kf fw10 rd
  replace k2 := k2.kf fw10 rd
  replace k3 := k3.kf fw10 rd
  replace rd := rd'
  clear rd'
  refine Seq.val (Runs.fieldB 4 rfl rfl Try.underlying28 rfl (by kernel_rfl)) rfl rfl rfl ?_
  refine Seq.store1 rfl rfl rfl (by kernel_rfl) rfl rfl k3 rfl rfl rfl ?_
  intro w11 pw11
  replace kf := kf.put k3 pw11 e3
  replace rd := rd.put k3 pw11 e3
  replace k2 := k2.put pw11 (by omega)
  replace k3 := pw11.blk
  refine Seq.nil ?_
  refine Post.weak (F' := [(0, _), (2, _), (3, _)]) ⟨rfl, rfl, rfl, trivial⟩ ?_
  refine Post.then_ ?_
  refine Cd.seq ?_
  refine Cd.region ?_
  refine Seq.val (Runs.move rfl rfl) rfl rfl rfl ?_
  refine Seq.call (Enters.func rfl rfl rfl (run_enter Try.func44 (by kernel_rfl) rfl)) rfl rfl rfl (rsize_any g _ _ rd) ?_
  rintro e w12 ⟨z6, ⟨hz6, hv6, rfl⟩, fw12, rd'⟩
  refine ⟨_, rfl, ?_⟩
  replace kf := kf.kf fw12 rd
  replace k2 := k2.kf fw12 rd
  replace k3 := k3.kf fw12 rd
  replace rd := rd'
  clear rd'
  refine Seq.val (Runs.fieldB 5 rfl rfl Try.underlying28 rfl (by kernel_rfl)) rfl rfl rfl ?_
  refine Seq.store1 rfl rfl rfl (by kernel_rfl) rfl rfl k3 rfl rfl rfl ?_
  intro w13 pw13
  replace kf := kf.put k3 pw13 e3
  replace rd := rd.put k3 pw13 e3
  replace k2 := k2.put pw13 (by omega)
  replace k3 := pw13.blk
  refine Seq.nil ?_
  refine Post.weak (F' := [(0, _), (2, _), (3, _)]) ⟨rfl, rfl, rfl, trivial⟩ ?_
  refine Post.then_ ?_
  refine Cd.seq ?_
  refine Cd.region ?_
  refine Seq.val (Runs.loadW rfl rfl Try.underlying28 rfl k3 (m := 6) (by kernel_rfl) rfl) rfl rfl rfl ?_
  refine Seq.storeN rfl rfl rfl rfl (m := 6) (by kernel_rfl) rfl (by repeat' first | exact trivial | apply And.intro | rfl | assumption) k2 (by simp [Value.cells]) rfl rfl ?_
  intro w14 pw14
  replace kf := kf.put k2 pw14 e2
  replace rd := rd.put k2 pw14 e2
  replace k3 := k3.put pw14 (by omega)
  replace k2 := pw14.blk
  refine Seq.nil ?_
  refine Post.weak (F' := [(0, _), (2, _), (3, _)]) ⟨rfl, rfl, rfl, trivial⟩ ?_
  refine Post.then_ ?_
  refine Cd.ret ?_
  refine Post.endC rfl rfl k2 Try.underlying28 rfl (m := 6) (by kernel_rfl) rfl (.inl rfl) ?_
  refine ⟨⟨z1, z2, z3, z4, z5, z6⟩, ⟨⟨hz1, hz2, hz5, hz6, hz3, hz4⟩, ?_, rfl⟩, kf, ?_⟩
  · exact seqP_val hv1 (seqP_val hv2 (seqP_val hv3 (seqP_val hv4 (seqP_val hv5 (seqP_val hv6 (retP_val _))))))
  · unfold fnP
    rw [seqP_rest hv1, seqP_rest hv2, seqP_rest hv3, seqP_rest hv4, seqP_rest hv5, seqP_rest hv6, retP_rest]
    exact rd
end Go.Proofs.Ythnnephcohljeaa
