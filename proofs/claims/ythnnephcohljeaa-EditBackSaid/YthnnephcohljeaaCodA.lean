/-
  codec.Writer: what its methods lay. Condition: the lengths are within reach.
-/
import Derived.Test.YthnnephcohljeaaKJ
import Derived.Test.YthnnephcohljeaaRows
import Derived.Test.YthnnephcohljeaaTLoad
import Derived.Test.YthnnephcohljeaaFits
namespace Go.Proofs.Ythnnephcohljeaa
open Go.RowKit

theorem Runs.nilCheck {P : Program} {E : Operand → Option Value} {o : Oper} {w : World} {x : Operand} {ad : Addr} (ho : o.op = .nilCheck x) (hx : E x = some (.pointer (some ad))) : Runs P E o w (.pointer (some ad)) w := fun ρ h => by
  unfold execOp; simp only [ho]; rw [h _ _ hx]; rfl
theorem zero_codec_Writer : zeroIs Try.prog 73 = some (some (.agg #[.slice none 0 0])) := by kernel_rfl
theorem zero_uint8 : zeroIs Try.prog 5 = some (some (.int .u8 0)) := by kernel_rfl
/-- What a Writer's methods leave as it was. -/
structure Wf (B : Nat) (w w' : World) : Prop where
  below : Below (min B w.heap.size) w w'
  keep : ∀ k t cs, Blk w k t cs → t ≠ 73 → t ≠ 5 → Blk w' k t cs
section
variable {B : Nat} {w w' w'' : World}
theorem Wf.refl (B : Nat) (w : World) : Wf B w w := ⟨Below.refl _ _, fun _ _ _ h _ _ => h⟩
theorem Wf.trans (h : Wf B w w') (k : Wf B w' w'') : Wf B w w'' := ⟨h.below.trans (k.below.mono (by have := h.below.size; omega)), fun i t cs hb h1 h2 => k.keep i t cs (h.keep i t cs hb h1 h2) h1 h2⟩
theorem Wf.grow (h : Below w.heap.size w w') : Wf B w w' := ⟨h.mono (Nat.min_le_right _ _), fun _ _ _ hb _ _ => hb.step h⟩
theorem Wf.step (h : Wf B w w') (k : Below w'.heap.size w' w'') : Wf B w w'' := h.trans (Wf.grow k)
theorem Wf.wf (h : Wf B w w') (k : Wf B w' w'') : Wf B w w'' := h.trans k
theorem Wf.to (h : Wf B w w') (hB : B ≤ w.heap.size) : Below B w w' := by have := h.below; rwa [Nat.min_eq_left hB] at this
theorem Wf.put0 {g B' : Nat} {T : TypeId} {cur cs : Array Value} (h : Wf B w w') (k : Blk w' g T cur) (p : Put w' w'' g T cs) (e : B' ≤ g) (hB : B ≤ g) (hT : T = 73 ∨ T = 5) : Wf B w w'' :=
  h.trans ⟨(p.below hB k.lt).mono (Nat.min_le_left _ _), fun i t cs hb h1 h2 => hb.put p (hb.ne k (by rcases hT with rfl | rfl <;> assumption))⟩
theorem Wf.put {g : Nat} {T : TypeId} {cur cs : Array Value} (h : Wf B w w') (k : Blk w' g T cur) (p : Put w' w'' g T cs) (e : w.heap.size ≤ g) : Wf B w w'' :=
  ⟨h.below.trans (p.below (by omega) k.lt), fun i t cs hb h1 h2 => (h.keep i t cs hb h1 h2).put p (by have := hb.lt; omega)⟩
end
theorem Blk.wf {B : Nat} {w w' : World} {k : Nat} {t : TypeId} {cs : Array Value} (h : Blk w k t cs) (f : Wf B w w') (h1 : t ≠ 73 := by decide) (h2 : t ≠ 5 := by decide) : Blk w' k t cs := f.keep k t cs h h1 h2
theorem Reads.wf {B B2 size n : Nat} {w w' : World} {A : Option Addr} {xs : List Value} (h : Reads w B2 size A n xs) (f : Wf B w w') (hB : B2 ≤ B) (hs : B2 ≤ w.heap.size) : Reads w' B2 size A n xs := h.below (f.below.mono (by omega))
/-- A Writer, and what it has laid. -/
structure Wr (w : World) (B g : Nat) (bs : List Nat) : Prop where
  ge : B ≤ g
  bytes : ∀ d ∈ bs, d < 256
  cell : ∃ v, Blk w g 73 #[v] ∧ Own w B 5 1 v bs.length (Bt bs)
theorem Wr.size {w : World} {B g : Nat} {bs : List Nat} (h : Wr w B g bs) : B ≤ w.heap.size := by
  obtain ⟨v, hb, -⟩ := h.cell
  have := hb.lt
  have := h.ge
  omega
theorem Wr.step {w w' : World} {B g : Nat} {bs : List Nat} (h : Wr w B g bs) (k : Below w.heap.size w w') : Wr w' B g bs := by
  obtain ⟨v, hb, ho⟩ := h.cell
  exact ⟨h.ge, h.bytes, v, hb.step k, ho.step k⟩
theorem Wr.put {w w' : World} {B B' g g' : Nat} {bs : List Nat} {T : TypeId} {cur cs : Array Value} (h : Wr w B g bs) (k : Blk w g' T cur) (p : Put w w' g' T cs) (_e : B' ≤ g') (h1 : 73 ≠ T := by decide) (h2 : 5 ≠ T := by decide) : Wr w' B g bs := by
  obtain ⟨v, hb, ho⟩ := h.cell
  exact ⟨h.ge, h.bytes, v, hb.put p (hb.ne k h1), ho.put k p _e h2⟩
theorem App.wf {w w' : World} {B n : Nat} {v : Value} {xs : List Value} (h : App w w' B v) (o : Own w B 5 1 v n xs) : Wf B w w' :=
  ⟨h.below.mono (Nat.min_le_left _ _), fun i t cs hb _ h2 => hb.grown h.grown (fun e => own_blk_ne o.row hb (fun e => h2 e.symm) e.symm)⟩
theorem put_any (B g B2 m c : Nat) (A : Option Addr) (bs new : List Nat) (w : World) (h : Wr w B g bs) (hr : Reads w B2 1 A m (Bt new)) (hn : ∀ d ∈ new, d < 256) (hl : bs.length + new.length ≤ 1000000000) :
    Calls Try.prog 94 #[.pointer (some ⟨g, 0, none⟩), .slice A m c] w fun e w' => e = .returned (.pointer (some ⟨g, 0, none⟩)) ∧ Wf B w w' ∧ Wr w' B g (bs ++ new) := by
  obtain ⟨v, k0, own⟩ := h.cell
  have hB := h.size
  have hge := h.ge
  have hm : new.length = m := by have := hr.1; rw [length_Bt] at this; omega
  refine Calls.start 17 Try.func94 rfl rfl rfl ?_
  refine Cd.seq ?_
  refine Cd.region ?_
  refine Seq.val (Runs.assign rfl rfl) rfl rfl rfl ?_
  refine Seq.nil ?_
  refine Post.weak (F' := [(0, _), (1, _), (4, _)]) ⟨rfl, rfl, rfl, trivial⟩ ?_
  refine Post.then_ ?_
  refine Cd.seq ?_
  refine Cd.seq ?_
  refine Cd.region ?_
  refine Seq.val (Runs.move rfl rfl) rfl rfl rfl ?_
  refine Seq.val (Runs.neqP rfl rfl rfl Try.underlying70) rfl rfl rfl ?_
  refine Seq.nil ?_
  refine Post.weak (F' := [(0, _), (1, _), (4, _), (6, _)]) ⟨rfl, rfl, rfl, rfl, trivial⟩ ?_
  refine Post.then_ ?_
  refine Cd.condT rfl rfl ?_
  refine Cd.region ?_
  refine Seq.val (Runs.move rfl rfl) rfl rfl rfl ?_
  refine Seq.val (Runs.move rfl rfl) rfl rfl rfl ?_
  refine Seq.val (Runs.nilCheck rfl rfl) rfl rfl rfl ?_
  refine Seq.val (Runs.fieldB 0 rfl rfl Try.underlying73 rfl (by kernel_rfl)) rfl rfl rfl ?_
  refine Seq.val (Runs.loadB rfl rfl Try.underlying71 rfl k0 rfl) rfl rfl rfl ?_
  refine Seq.val (Runs.move rfl rfl) rfl rfl rfl ?_
  refine Seq.append rfl rfl rfl Try.underlying71 (by kernel_rfl) zero_uint8 rfl (by decide) (b := 1) (by kernel_rfl) own hr (by intro u hu; obtain ⟨d, -, rfl⟩ := List.mem_map.1 hu; rfl) hB (by simp only [maxLen]; omega) (by omega) rfl rfl rfl ?_
  intro v1 w1 own1 ha
  have k1 := k0.grown ha.grown (fun e => own_blk_ne own.row k0 (by decide) e.symm)
  have f1 := ha.wf own
  clear k0
  have k0 := k1
  obtain ⟨A1, c1, rfl, -⟩ := own1.reads
  have e0 : B ≤ g := hge
  have wf : Wf B w w1 := f1
  refine Seq.val (Runs.nilCheck rfl rfl) rfl rfl rfl ?_
  refine Seq.val (Runs.fieldB 0 rfl rfl Try.underlying73 rfl (by kernel_rfl)) rfl rfl rfl ?_
  refine Seq.store1 rfl rfl rfl (by kernel_rfl) rfl rfl k0 rfl rfl rfl ?_
  intro w1 pw1
  replace k0 := pw1.blk
  refine Seq.nil ?_
  refine Post.weak (F' := [(0, _), (1, _), (4, _), (6, _)]) ⟨rfl, rfl, rfl, rfl, trivial⟩ ?_
  refine Post.then_ ?_
  refine Cd.seq ?_
  refine Cd.region ?_
  refine Seq.val (Runs.move rfl rfl) rfl rfl rfl ?_
  refine Seq.val (Runs.assign rfl rfl) rfl rfl rfl ?_
  refine Seq.nil ?_
  refine Post.weak (F' := [(0, _), (1, _), (4, _), (6, _)]) ⟨rfl, rfl, rfl, rfl, trivial⟩ ?_
  refine Post.then_ ?_
  refine Cd.ret ?_
  have own2 := own1.put k1 pw1 hge
  have f2 := wf.put0 k1 pw1 hge hge (.inl rfl)
  refine Post.end1 rfl rfl (.inl rfl) ?_
  refine ⟨rfl, f2, hge, fun d hd => ?_, _, k0, ?_⟩
  · rcases List.mem_append.1 hd with hd | hd
    · exact h.bytes d hd
    · exact hn d hd
  · rw [Bt_append, List.length_append, hm]
    exact own2
/-- A number in groups of seven bits. -/
def grpK : Nat → Nat → List Nat
  | 0, n => [n]
  | k + 1, n => if n < 128 then [n] else (n % 128 + 128) :: grpK k (n / 128)
def grp (n : Nat) : List Nat := grpK 9 n
theorem grpK_small {k n : Nat} (h : n < 128) : grpK k n = [n] := by
  cases k with
  | zero => rfl
  | succ k => unfold grpK; rw [if_pos h]
theorem grpK_more {k n : Nat} (h : ¬ n < 128) : grpK (k + 1) n = (n % 128 + 128) :: grpK k (n / 128) := by
  show (if n < 128 then [n] else (n % 128 + 128) :: grpK k (n / 128)) = _
  rw [if_neg h]
theorem grpK_len : ∀ k n, (grpK k n).length ≤ k + 1
  | 0, n => by simp [grpK]
  | k + 1, n => by
    unfold grpK
    split
    · simp
    · have := grpK_len k (n / 128)
      simp; omega
theorem grp_len (n : Nat) : (grp n).length ≤ 10 := grpK_len 9 n
theorem grpK_lt : ∀ k n, n < 2 * 128 ^ k → ∀ d ∈ grpK k n, d < 256
  | 0, n, h, d, hd => by simp [grpK] at hd; subst hd; simp at h; omega
  | k + 1, n, h, d, hd => by
    unfold grpK at hd
    split at hd
    · simp at hd; omega
    · rcases List.mem_cons.1 hd with rfl | hd
      · omega
      · refine grpK_lt k (n / 128) ?_ d hd
        rw [Nat.pow_succ] at h
        rw [Nat.div_lt_iff_lt_mul (by omega)]
        omega
theorem grp_lt {n : Nat} (h : n < 18446744073709551616) : ∀ d ∈ grp n, d < 256 := grpK_lt 9 n (by omega)
set_option maxRecDepth 100000 in
theorem or128 : ∀ x, x < 256 → x ||| 128 = x % 128 + 128 := by decide
theorem Runs.or8 {P : Program} {E : Operand → Option Value} {o : Oper} {w : World} {x y : Operand} {T T' : TypeId} {a b : Nat} (ho : o.op = .binOp .or T x y T') (hx : E x = some (.int .u8 (a : Int))) (hy : E y = some (.int .u8 (b : Int))) (ha : a < 256) (hb : b < 256) : Runs P E o w (.int .u8 ((a ||| b : Nat) : Int)) w := by
  have e1 : (BitVec.ofInt IntKind.u8.bits (a : Int)).toNat = a := by simp [IntKind.bits]; omega
  have e2 : (BitVec.ofInt IntKind.u8.bits (b : Int)).toNat = b := by simp [IntKind.bits]; omega
  have hr : a ||| b < 256 := Nat.or_lt_two_pow (n := 8) ha hb
  refine .bin ho hx hy rfl ?_
  show (Op.intBits .or .u8 a b).run P w = _
  simp only [Op.intBits, BitVec.toNat_or, e1, e2, wrapB (Int.natCast_nonneg _) (Int.ofNat_lt.2 hr)]; rfl
theorem wrap8 (m : Nat) : IntKind.u8.wrap (m : Int) = ((m % 256 : Nat) : Int) := by rw [IntKind.wrap_u8]; omega
theorem groups_any (B g n : Nat) (bs : List Nat) (w : World) (h : Wr w B g bs) (hn : n < 18446744073709551616) (hl : bs.length + 10 ≤ 1000000000) :
    Calls Try.prog 74 #[.pointer (some ⟨g, 0, none⟩), .int .u64 (n : Int)] w fun e w' => e = .returned (.pointer (some ⟨g, 0, none⟩)) ∧ Wf B w w' ∧ Wr w' B g (bs ++ grp n) := by
  have wf := Wf.refl B w
  have hn9 : n < 2 * 128 ^ 9 := by omega
  refine Calls.start 20 Try.func74 rfl rfl rfl ?_
  refine Cd.seq ?_
  refine Cd.region ?_
  refine Seq.val (Runs.assign rfl rfl) rfl rfl rfl ?_
  refine Seq.nil ?_
  refine Post.weak (F' := [(0, _), (1, _), (4, _)]) ⟨rfl, rfl, rfl, trivial⟩ ?_
  refine Post.then_ ?_
  refine Cd.seq ?_
  refine Cd.block ?_
  refine Cd.loop (σ := List Nat × Nat × Nat) (fun s => [(0, .pointer (some ⟨g, 0, none⟩)), (1, .int .u64 (s.2.2 : Int))])
    (fun s wr => s.1.length + s.2.1 = 9 ∧ s.2.2 < 2 * 128 ^ s.2.1 ∧ s.1 ++ grpK s.2.1 s.2.2 = grp n ∧ Wf B w wr ∧ Wr wr B g (bs ++ s.1)) (fun s => s.2.1) ([], 9, n) ⟨rfl, hn9, List.nil_append _, wf, by rw [List.append_nil]; exact h⟩ ⟨rfl, rfl, trivial⟩ ?_
  clear wf
  rintro ⟨done, k, m⟩ wr0 ⟨hd, hm, he, wf, wr⟩
  simp only at hd hm he wr
  show Cd _ _ _ _ [(0, .pointer (some ⟨g, 0, none⟩)), (1, .int .u64 (m : Int))] _
  have hm64 : m < 18446744073709551616 := Nat.lt_of_lt_of_le hm (by
    have : (128 : Nat) ^ k ≤ 128 ^ 9 := Nat.pow_le_pow_right (by omega) (by omega)
    omega)
  refine Cd.seq ?_
  refine Cd.seq ?_
  refine Cd.region ?_
  refine Seq.val (Runs.move rfl rfl) rfl rfl rfl ?_
  refine Seq.val (Runs.geq rfl rfl rfl) rfl rfl rfl ?_
  refine Seq.nil ?_
  refine Post.weak (F' := [(0, _), (1, _), (6, _)]) ⟨rfl, rfl, rfl, trivial⟩ ?_
  refine Post.then_ ?_
  refine Cd.condD rfl (fun hc => ?_) (fun hc => ?_)
  · obtain ⟨k, rfl⟩ : ∃ j, k = j + 1 := ⟨k - 1, by
      rcases Nat.eq_zero_or_pos k with h0 | h0
      · subst h0; simp at hm; omega
      · omega⟩
    refine Cd.skip ?_
    refine Post.then_ ?_
    refine Cd.seq ?_
    refine Cd.block ?_
    refine Cd.region ?_
    refine Seq.val (Runs.move rfl rfl) rfl rfl rfl ?_
    refine Seq.val (Runs.move rfl rfl) rfl rfl rfl ?_
    refine Seq.val (Runs.convI rfl rfl Try.underlying98 Try.underlying5 (wrap8 m)) rfl rfl rfl ?_
    refine Seq.val ((Runs.or8 (b := 128) rfl rfl rfl (by omega) (by omega)).cast (by rw [or128 (m % 256) (by omega), show m % 256 % 128 = m % 128 by omega])) rfl rfl rfl ?_
    refine Seq.slice (vs := [_]) (s := 1) rfl rfl rfl Try.underlying71 (by kernel_rfl) (zero_uint8) (by omega) (by omega) ⟨rfl, trivial⟩ rfl rfl rfl ?_
    intro g13 w1 n13
    have e13 := Nat.le_trans wf.below.size n13.ge
    replace wf := wf.step n13.below
    replace wr := wr.step n13.below
    have k13 := n13.blk
    have hrd : Reads w1 w1.heap.size 1 (some ⟨g13, 0, none⟩) 1 (Bt [m % 128 + 128]) := Reads.blk (size := 1) k13 1 rfl
    refine Seq.call (Enters.func rfl rfl rfl (run_enter Try.func94 (by kernel_rfl) rfl)) rfl rfl rfl (put_any B g _ 1 1 _ _ [m % 128 + 128] _ wr hrd (by simp; omega) (by simp; omega)) ?_
    clear wr
    rintro e w2 ⟨rfl, fw2, wr⟩
    refine ⟨_, rfl, ?_⟩
    replace wf := wf.wf fw2
    refine Seq.nil ?_
    refine Post.weak (F' := [(0, _), (1, _), (6, _)]) ⟨rfl, rfl, rfl, trivial⟩ ?_
    refine Post.block_normal ?_
    refine Post.then_ ?_
    refine Cd.region ?_
    refine Seq.val (Runs.move rfl rfl) rfl rfl rfl ?_
    refine Seq.val ((Runs.shrL rfl rfl rfl (s := 7) rfl (by omega)).cast (v' := .int .u64 ((m / 128 : Nat) : Int)) (by rw [show (2 : Nat) ^ 7 = 128 from rfl])) rfl rfl rfl ?_
    refine Seq.val (Runs.assign rfl rfl) rfl rfl rfl ?_
    refine Seq.nil ?_
    refine Post.weak (F' := [(0, _), (1, _), (6, _)]) ⟨rfl, rfl, rfl, trivial⟩ ?_
    rw [List.append_assoc] at wr
    refine Post.round (done ++ [m % 128 + 128], k, m / 128) ⟨rfl, rfl, trivial⟩ ⟨by simp; omega, ?_, ?_, wf, wr⟩ (by simp)
    · simp only
      rw [Nat.pow_succ] at hm
      rw [Nat.div_lt_iff_lt_mul (by omega)]
      omega
    · rw [← he, grpK_more (by omega), List.append_assoc]; rfl
  · skip
    refine Cd.exit ?_
    refine Post.then_exit ?_
    refine Post.round_exit ?_
    refine Post.block_exit ?_
    refine Post.then_ ?_
    refine Cd.seq ?_
    refine Cd.region ?_
    refine Seq.val (Runs.move rfl rfl) rfl rfl rfl ?_
    refine Seq.val (Runs.move rfl rfl) rfl rfl rfl ?_
    refine Seq.val (Runs.convI rfl rfl Try.underlying98 Try.underlying5 (wrapB (by omega) (by omega))) rfl rfl rfl ?_
    refine Seq.slice (vs := [_]) (s := 1) rfl rfl rfl Try.underlying71 (by kernel_rfl) (zero_uint8) (by omega) (by omega) ⟨rfl, trivial⟩ rfl rfl rfl ?_
    intro g18 w1 n18
    have e18 := Nat.le_trans wf.below.size n18.ge
    replace wf := wf.step n18.below
    replace wr := wr.step n18.below
    have k18 := n18.blk
    have hrd : Reads w1 w1.heap.size 1 (some ⟨g18, 0, none⟩) 1 (Bt [m]) := Reads.blk (size := 1) k18 1 rfl
    refine Seq.call (Enters.func rfl rfl rfl (run_enter Try.func94 (by kernel_rfl) rfl)) rfl rfl rfl (put_any B g _ 1 1 _ _ [m] _ wr hrd (by simp; omega) (by simp; omega)) ?_
    clear wr
    rintro e w2 ⟨rfl, fw2, wr⟩
    refine ⟨_, rfl, ?_⟩
    replace wf := wf.wf fw2
    refine Seq.val (Runs.assign rfl rfl) rfl rfl rfl ?_
    refine Seq.nil ?_
    refine Post.weak (F' := [(0, _), (1, _), (4, _), (6, _)]) ⟨rfl, rfl, rfl, rfl, trivial⟩ ?_
    refine Post.then_ ?_
    refine Cd.ret ?_
    refine Post.end1 rfl rfl (.inl rfl) ?_
    rw [List.append_assoc, show done ++ [m] = grp n by rw [← he, grpK_small (by omega)]] at wr
    exact ⟨rfl, wf, wr⟩
end Go.Proofs.Ythnnephcohljeaa
