/-
  edit.Find; an append that needs new room, in a region that draws. No condition.
-/
import Derived.Test.YthcimkhnijnmgaaRstE
namespace Go.Proofs.Ythcimkhnijnmgaa
open Go.RowKit

theorem find_at {fs : List Fl} {n : Int} {k : Nat} {x f : Fl} (hx : fs[k]? = some x) (hb : ∀ y ∈ fs.take k, y.num ≠ n) (hn : x.num = n) (h : fs.find? (fun g => decide (g.num = n)) = some f) : x = f := by
  rw [cut_at hx, List.find?_append] at h
  have h0 : (fs.take k).find? (fun g => decide (g.num = n)) = none := by
    rw [List.find?_eq_none]
    intro y hy
    simpa using hb y hy
  rw [h0, Option.none_or, List.find?_cons_of_pos (by simpa using hn)] at h
  exact Option.some.inj h
theorem find_any (lg nx sq n : Int) (B c len : Nat) (A : Option Addr) (fs : List Fl) (f : Fl) (w : World) (hr : Reads w B 6 A len (fcs fs)) (hB : B ≤ w.heap.size) (hlen : len ≤ 1000000000) (hf : fs.find? (fun g => decide (g.num = n)) = some f) :
    Calls Try.prog 8 #[.agg #[.int .i64 lg, .int .i64 nx, .int .i64 sq, .slice A len c], .int .i64 n] w fun e w' => e = .returned (.tuple #[f.v, .bool true]) ∧ Grow w w' := by
  have bel := Below.refl w.heap.size w
  have hl := hr.fl_len
  refine Calls.start 22 Try.func8 rfl rfl rfl ?_
  refine Cd.seq ?_
  refine Cd.region ?_
  refine Seq.box rfl rfl rfl rfl rfl ?_
  intro g2 w1 n2
  have e2 := Nat.le_trans bel.size n2.ge
  replace bel := bel.step n2.below
  have k2 := n2.blk
  refine Seq.alloc rfl (run_zero zero_edit_File) rfl rfl rfl ?_
  intro g4 w2 n4
  have e4 := Nat.le_trans bel.size n4.ge
  have l4 := Nat.lt_of_lt_of_le k2.lt n4.ge
  replace bel := bel.step n4.below
  replace k2 := k2.step n4.below
  have k4 := n4.blk
  refine Seq.val (Runs.assign rfl rfl) rfl rfl rfl ?_
  refine Seq.nil ?_
  refine Post.weak (F' := [(0, _), (1, _), (2, _), (4, _), (5, _)]) ⟨rfl, rfl, rfl, rfl, rfl, trivial⟩ ?_
  refine Post.then_ ?_
  refine Cd.seq ?_
  refine Cd.seq ?_
  refine Cd.region ?_
  refine Seq.val (Runs.fieldB 3 rfl rfl Try.underlying29 rfl (by kernel_rfl)) rfl rfl rfl ?_
  refine Seq.val (Runs.loadB rfl rfl Try.underlying27 rfl k2 rfl) rfl rfl rfl ?_
  refine Seq.val (Runs.len rfl rfl Try.underlying27) rfl rfl rfl ?_
  refine Seq.val (Runs.move rfl rfl) rfl rfl rfl ?_
  refine Seq.nil ?_
  refine Post.weak (F' := [(0, _), (1, _), (2, _), (4, _), (5, _), (9, _), (10, _), (11, _)]) ⟨rfl, rfl, rfl, rfl, rfl, rfl, rfl, rfl, trivial⟩ ?_
  refine Post.then_ ?_
  refine Cd.block ?_
  refine Cd.loop (σ := Nat) (fun k => [(1, .int .i64 n), (4, .pointer (some ⟨g4, 0, none⟩)), (9, .slice A len c), (10, .int .i64 (len : Int)), (11, .int .i64 (k : Int))])
    (fun k wr => k ≤ len ∧ (∀ y ∈ fs.take k, y.num ≠ n) ∧ Below w.heap.size w wr ∧ Blk wr g4 37 #[.int .i64 0, .int .i64 0, .string { data := #[] }, .string { data := #[] }, .int .i64 0, .int .i64 0]) (fun k => len - k) 0 ⟨Nat.zero_le _, by simp, bel, k4⟩ ⟨rfl, rfl, rfl, rfl, rfl, trivial⟩ ?_
  clear bel k2 k4
  rintro k wr ⟨hk, hno, bel, k4⟩
  refine Cd.seq ?_
  refine Cd.region ?_
  refine Seq.val (Runs.lss rfl rfl rfl) rfl rfl rfl ?_
  refine Seq.nil ?_
  refine Post.weak (F' := [(1, _), (4, _), (9, _), (10, _), (11, _), (12, _)]) ⟨rfl, rfl, rfl, rfl, rfl, rfl, trivial⟩ ?_
  refine Post.then_ ?_
  refine Cd.seq ?_
  refine Cd.condD rfl (fun hc => ?_) (fun hc => ?_)
  · obtain ⟨x, hx⟩ : ∃ x, fs[k]? = some x := ⟨_, List.getElem?_eq_getElem (show k < fs.length by omega)⟩
    obtain ⟨ad, rfl, hbl, hkn, hcx⟩ := hr.fl (bel.mono hB) hx
    have htk := take_last hx
    refine Cd.skip ?_
    refine Post.then_ ?_
    refine Cd.seq ?_
    refine Cd.block ?_
    refine Cd.seq ?_
    refine Cd.region ?_
    refine Seq.val (Runs.indexN rfl rfl rfl Try.underlying27 (s := 6) (by kernel_rfl) (j := k) rfl (by omega)) rfl rfl rfl ?_
    refine Seq.val (Runs.loadF (ps := [.int .i64 x.num, .int .i64 x.level, .string (strOf x.first), .string (strOf x.last), .int .i64 x.count, .int .i64 x.size]) rfl rfl Try.underlying37 rfl (m := 6) (by kernel_rfl) rfl hcx) rfl rfl rfl ?_
    refine Seq.alloc rfl (run_zero zero_edit_File) rfl rfl rfl ?_
    intro g7 w3 n7
    have e7 := Nat.le_trans bel.size n7.ge
    have l7 := Nat.lt_of_lt_of_le k4.lt n7.ge
    replace bel := bel.step n7.below
    replace k4 := k4.step n7.below
    have k7 := n7.blk
    refine Seq.storeN rfl rfl rfl rfl (m := 6) (by kernel_rfl) rfl (by repeat' first | exact trivial | apply And.intro | rfl | assumption) k7 (by simp [Value.cells]) rfl rfl ?_
    intro w4 pw4
    replace bel := bel.put k7 pw4 e7
    replace k4 := k4.put pw4 (by omega)
    replace k7 := pw4.blk
    refine Seq.nil ?_
    refine Post.weak (F' := [(1, _), (4, _), (7, _), (9, _), (10, _), (11, _), (12, _)]) ⟨rfl, rfl, rfl, rfl, rfl, rfl, rfl, trivial⟩ ?_
    refine Post.then_ ?_
    refine Cd.seq ?_
    refine Cd.region ?_
    refine Seq.val (Runs.fieldB 0 rfl rfl Try.underlying37 rfl (by kernel_rfl)) rfl rfl rfl ?_
    refine Seq.val (Runs.loadB rfl rfl Try.underlying3 rfl k7 rfl) rfl rfl rfl ?_
    refine Seq.val (Runs.move rfl rfl) rfl rfl rfl ?_
    refine Seq.val (Runs.eqlI rfl rfl rfl) rfl rfl rfl ?_
    refine Seq.nil ?_
    refine Post.weak (F' := [(1, _), (4, _), (7, _), (9, _), (10, _), (11, _), (12, _), (18, _)]) ⟨rfl, rfl, rfl, rfl, rfl, rfl, rfl, rfl, trivial⟩ ?_
    refine Post.then_ ?_
    replace k7 : Blk _ g7 37 #[.int .i64 x.num, .int .i64 x.level, .string (strOf x.first), .string (strOf x.last), .int .i64 x.count, .int .i64 x.size] := k7
    refine Cd.cond rfl (fun h => ?_) (fun h => ?_)
    · have h : x.num = n := by simpa using h
      obtain rfl := find_at hx hno h hf
      refine Cd.seq ?_
      refine Cd.region ?_
      refine Seq.val (Runs.loadW rfl rfl Try.underlying37 rfl k7 (m := 6) (by kernel_rfl) rfl) rfl rfl rfl ?_
      refine Seq.storeN rfl rfl rfl rfl (m := 6) (by kernel_rfl) rfl (by repeat' first | exact trivial | apply And.intro | rfl | assumption) k4 (by simp [Value.cells]) rfl rfl ?_
      intro w5 pw5
      replace bel := bel.put k4 pw5 e4
      replace k7 := k7.put pw5 (by omega)
      replace k4 := pw5.blk
      refine Seq.val (Runs.assign rfl rfl) rfl rfl rfl ?_
      refine Seq.nil ?_
      refine Post.weak (F' := [(1, _), (4, _), (5, _), (7, _), (9, _), (10, _), (11, _), (12, _), (18, _)]) ⟨rfl, rfl, rfl, rfl, rfl, rfl, rfl, rfl, rfl, trivial⟩ ?_
      refine Post.then_ ?_
      refine Cd.ret ?_
      refine Post.block_ret ?_
      refine Post.then_ret ?_
      refine Post.round_ret ?_
      refine Post.block_ret ?_
      refine Post.then_ret ?_
      refine Post.endC2 rfl rfl rfl k4 Try.underlying37 rfl (m := 6) (by kernel_rfl) rfl (.inl rfl) ?_
      exact ⟨rfl, bel⟩
    · have h : x.num ≠ n := by simpa using h
      refine Cd.skip ?_
      refine Post.block_normal ?_
      refine Post.then_ ?_
      refine Cd.region ?_
      refine Seq.val (Runs.addI rfl rfl rfl (by omega) (by omega)) rfl rfl rfl ?_
      refine Seq.val (Runs.move rfl rfl) rfl rfl rfl ?_
      refine Seq.nil ?_
      refine Post.weak (F' := [(1, _), (4, _), (7, _), (9, _), (10, _), (11, _), (12, _), (18, _)]) ⟨rfl, rfl, rfl, rfl, rfl, rfl, rfl, rfl, trivial⟩ ?_
      refine Post.round (k + 1) ⟨rfl, rfl, rfl, rfl, int_at (by omega), trivial⟩ ⟨by omega, fun y hy => ?_, bel, k4⟩ (by omega)
      rw [htk] at hy
      rcases List.mem_append.1 hy with hy | hy
      · exact hno y hy
      · simp at hy; subst hy; exact h
  · exfalso
    rw [List.take_of_length_le (by omega)] at hno
    have := List.find?_some hf
    exact hno f (List.mem_of_find?_eq_some hf) (by simpa using this)
section
variable {P : Program} {ops : Array Oper} {Q : Exit → Act → World → Prop} {n : Nat} {F0 : List (Nat × Value)} {G : World → World → Prop} {w0 : World} {Γ : Env} {o : Oper} {r : List Oper} {B : Env → Prop} {L : List Nat} {k : Nat} {Φ : Value → World → Prop}
/-- An operation that makes memory, on what a predecessor has made. -/
theorem Dr.make1 {j d : Nat} {Ψ : Value → World → Prop} (hj : Env.find Γ j = some (some d, .sat Ψ)) (hm : memB (direct o) j = true) (hu : uniq Γ = true) (hs : ∀ v w w', G w w' → Φ v w → Φ v w') (hg : o.guard = none)
    (hrun : ∀ u w, G w0 w → Ψ u w → ∃ v w', Runs P (evX [(d, u)] F0 Γ o) o w v w' ∧ G w w' ∧ Φ v w') (hr : DrW P ops Q n F0 G w0 L B (k + 1) r ((k, o.dst, .sat Φ) :: Γ)) (hl : memB L k = false := by rfl) : DrW P ops Q n F0 G w0 L B k (o :: r) Γ :=
  ⟨.sat Φ, hs, .open hj hm fun u => .plain hg (.make hu fun w h h2 => hrun u w h h2.2), (fun h => by rw [hl] at h; cases h), hr⟩
end
theorem Runs.appendNew {P : Program} {E : Operand → Option Value} {o : Oper} {w : World} {x y : Operand} {t e size b m c g B0 : Nat} {a : Addr} {z : Value} {news : List Value} (ho : o.op = .call { callee := .builtin .append, args := #[x, y], argTypes := #[t, t] }) (hx : E x = some (.slice (some ⟨g, 0, none⟩) 0 0)) (hy : E y = some (.slice (some a) m c)) (ht : P.underlying t = some (.slice e)) (hs : sizeIs P e size = true) (hz : zeroIs P e = some (some z)) (hzs : z.cells.size = size) (hby : (P.info? e).map (·.bytes) = some b)
    (hl : news.length = m * size) (hnews : ∀ j u, news[j]? = some u → w.cell? (a.add j) = some u) (hm : 0 < m) (h63 : m ≤ 100000) (hb : b ≤ 1000) (hB0 : B0 ≤ w.heap.size) : ∃ v w', Runs P E o w v w' ∧ Grow w w' ∧ Own w' B0 e size v m news := by
  obtain ⟨i, hi, hisz⟩ := sizeIs_spec hs
  have hz' : i.zero = some z := by unfold zeroIs at hz; rw [hi] at hz; injection hz
  have hb' : i.bytes = b := by rw [hi] at hby; injection hby
  subst hisz
  subst hb'
  have hfit : Builtin.nextslicecap (0 + m) 0 * i.bytes ≤ 281474976710656 := growslice_fits (by omega) (Nat.le_trans (Nat.mul_le_mul (show 0 + m ≤ 100000 by omega) hb) (by decide))
  have hr := run_append_grow (P := P) w t o.type e i z ht hi hz' ⟨g, 0, none⟩ 0 0 [] (by simp) (fun j v h => by cases h) a m c news hl hnews (by omega) (by omega) hfit
  rw [Nat.zero_add] at hr
  refine ⟨.slice (some ⟨w.heap.size, 0, none⟩) m (grownCap w m 0 e), w.drew.alloc (.cells (([] : List Value).toArray ++ news.toArray ++ Builtin.zeroCells z.cells (grownCap w m 0 e - m)) e), fun ρ hρ => ?_, ?_, ?_⟩
  · unfold execOp
    simp only [ho, resolve, invoke, builtin, Sem.run_bind, Sem.run_pure, Result.andThen_ok, List.map_toArray, List.map_cons, List.map_nil, hρ _ _ hx, hρ _ _ hy, hr]
  · exact ⟨rfl, rfl, rfl, by simp, fun k hk => heap_alloc_old w.drew _ hk⟩
  · have hge := grownCap_ge w m 0 e
    have hcm : grownCap w m 0 e ≤ maxLen := grownCap_le_maxLen w m 0 e (by simp only [maxLen]; omega)
    refine ⟨⟨hl, .inr ⟨w.heap.size, _, _, rfl, hB0, heap_alloc_new w.drew _, hge, hcm, ?_, ?_⟩⟩⟩
    · simp only [Array.size_append, List.size_toArray, size_zeroCells, hzs, hl, List.length_nil, Nat.zero_add, ← Nat.add_mul]
      congr 1
      omega
    · simp only [Array.toList_append, List.append_assoc, List.nil_append]
      rw [← hl]
      exact List.take_left
end Go.Proofs.Ythcimkhnijnmgaa
