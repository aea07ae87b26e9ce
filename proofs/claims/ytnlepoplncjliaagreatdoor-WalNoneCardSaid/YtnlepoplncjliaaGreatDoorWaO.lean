/-
  codec: numbers of four and of eight bytes. Condition: the lengths are within reach.
-/
import Derived.Test.YtnlepoplncjliaaGreatDoorWaN
namespace Go.Proofs.YtnlepoplncjliaaGreatDoor
open Go.RowKit

theorem u32_id {n : Nat} (h : n < 4294967296) : IntKind.u32.wrap (n : Int) = (n : Int) := by rw [IntKind.wrap_u32]; omega
/-- A number as bytes, the highest first. -/
def beB : Nat → Nat → List Nat
  | 0, _ => []
  | k + 1, n => (n / 256 ^ k % 256) :: beB k n
theorem beB_len (k n : Nat) : (beB k n).length = k := by induction k with
  | zero => rfl
  | succ k ih => simp [beB, ih]
theorem beB_lt (k n : Nat) : ∀ d ∈ beB k n, d < 256 := by induction k with
  | zero => simp [beB]
  | succ k ih =>
    intro d hd
    rcases List.mem_cons.1 hd with rfl | hd
    · exact Nat.mod_lt _ (by omega)
    · exact ih d hd
theorem fixed_any (B g n k : Nat) (bs : List Nat) (w : World) (h : Wr w B g bs) (hn : n < 18446744073709551616) (hk : k ≤ 8) (hl : bs.length + 8 ≤ 1000000000) :
    Calls Tryz.prog 88 #[.pointer (some ⟨g, 0, none⟩), .int .u64 (n : Int), .int .i64 (k : Int)] w fun e w' => e = .returned (.pointer (some ⟨g, 0, none⟩)) ∧ Wf B w w' ∧ Wr w' B g (bs ++ beB k n) := by
  have wf := Wf.refl B w
  refine Calls.start 23 Tryz.func88 rfl rfl rfl ?_
  refine Cd.seq ?_
  refine Cd.region ?_
  refine Seq.val (Runs.assign rfl rfl) rfl rfl rfl ?_
  refine Seq.nil ?_
  refine Post.weak (F' := [(0, _), (1, _), (2, _), (6, _)]) ⟨rfl, rfl, rfl, rfl, trivial⟩ ?_
  refine Post.then_ ?_
  refine Cd.seq ?_
  refine Cd.seq ?_
  refine Cd.region ?_
  refine Seq.val (Runs.move rfl rfl) rfl rfl rfl ?_
  refine Seq.val (Runs.subI rfl rfl rfl (by omega) (by omega)) rfl rfl rfl ?_
  refine Seq.val (Runs.assign rfl rfl) rfl rfl rfl ?_
  refine Seq.nil ?_
  refine Post.weak (F' := [(0, _), (1, _), (2, _), (6, _), (7, _)]) ⟨rfl, rfl, rfl, rfl, rfl, trivial⟩ ?_
  refine Post.then_ ?_
  refine Cd.block ?_
  refine Cd.loop (σ := List Nat × Nat) (fun s => [(0, .pointer (some ⟨g, 0, none⟩)), (1, .int .u64 (n : Int)), (7, .int .i64 ((s.2 : Int) - 1))])
    (fun s wr => s.1.length + s.2 = k ∧ s.1 ++ beB s.2 n = beB k n ∧ Wf B w wr ∧ Wr wr B g (bs ++ s.1)) (fun s => s.2) ([], k) ⟨by simp, rfl, wf, by rw [List.append_nil]; exact h⟩ ⟨rfl, rfl, rfl, trivial⟩ ?_
  clear wf
  rintro ⟨done, j⟩ wr0 ⟨hd, he, wf, wr⟩
  simp only at hd he wr
  show Cd _ _ _ _ [(0, .pointer (some ⟨g, 0, none⟩)), (1, .int .u64 (n : Int)), (7, .int .i64 ((j : Int) - 1))] _
  refine Cd.seq ?_
  refine Cd.seq ?_
  refine Cd.region ?_
  refine Seq.val (Runs.move rfl rfl) rfl rfl rfl ?_
  refine Seq.val (Runs.geq rfl rfl rfl) rfl rfl rfl ?_
  refine Seq.nil ?_
  refine Post.weak (F' := [(0, _), (1, _), (7, _), (11, _)]) ⟨rfl, rfl, rfl, rfl, trivial⟩ ?_
  refine Post.then_ ?_
  refine Cd.condD rfl (fun hc => ?_) (fun hc => ?_)
  · obtain ⟨i, rfl⟩ : ∃ i, j = i + 1 := ⟨j - 1, by omega⟩
    have hi : (((i + 1 : Nat) : Int)) - 1 = (i : Int) := by omega
    rw [hi]
    refine Cd.skip ?_
    refine Post.then_ ?_
    refine Cd.seq ?_
    refine Cd.block ?_
    refine Cd.region ?_
    refine Seq.val (Runs.move rfl rfl) rfl rfl rfl ?_
    refine Seq.val (Runs.move rfl rfl) rfl rfl rfl ?_
    refine Seq.val (Runs.move rfl rfl) rfl rfl rfl ?_
    refine Seq.val ((Runs.mulI rfl rfl rfl (by omega) (by omega)).cast (v' := .int .i64 ((8 * i : Nat) : Int)) rfl) rfl rfl rfl ?_
    refine Seq.val ((Runs.shrL rfl rfl rfl (s := 8 * i) rfl (by omega)).cast (v' := .int .u64 ((n / 256 ^ i : Nat) : Int)) (by rw [Nat.pow_mul])) rfl rfl rfl ?_
    refine Seq.val (Runs.convI rfl rfl Tryz.underlying97 Tryz.underlying5 (wrap8 (n / 256 ^ i))) rfl rfl rfl ?_
    refine Seq.slice (vs := [_]) (s := 1) rfl rfl rfl Tryz.underlying60 (by kernel_rfl) (zero_uint8) (by omega) (by omega) ⟨rfl, trivial⟩ rfl rfl rfl ?_
    intro g20 w1 n20
    have e20 := Nat.le_trans wf.below.size n20.ge
    replace wf := wf.step n20.below
    replace wr := wr.step n20.below
    have k20 := n20.blk
    have hrd : Reads w1 w1.heap.size 1 (some ⟨g20, 0, none⟩) 1 (Bt [n / 256 ^ i % 256]) := Reads.blk (size := 1) k20 1 rfl
    refine Seq.call (Enters.func rfl rfl rfl (run_enter Tryz.func89 (by kernel_rfl) rfl)) rfl rfl rfl (put_any B g _ 1 1 _ _ [n / 256 ^ i % 256] _ wr hrd (by simp; omega) (by simp; omega)) ?_
    clear wr
    rintro e w2 ⟨rfl, fw2, wr⟩
    refine ⟨_, rfl, ?_⟩
    replace wf := wf.wf fw2
    refine Seq.nil ?_
    refine Post.weak (F' := [(0, _), (1, _), (7, _), (11, _)]) ⟨rfl, rfl, rfl, rfl, trivial⟩ ?_
    refine Post.block_normal ?_
    refine Post.then_ ?_
    refine Cd.region ?_
    refine Seq.val (Runs.move rfl rfl) rfl rfl rfl ?_
    refine Seq.val (Runs.subI rfl rfl rfl (by omega) (by omega)) rfl rfl rfl ?_
    refine Seq.val (Runs.assign rfl rfl) rfl rfl rfl ?_
    refine Seq.nil ?_
    refine Post.weak (F' := [(0, _), (1, _), (7, _), (11, _)]) ⟨rfl, rfl, rfl, rfl, trivial⟩ ?_
    rw [List.append_assoc] at wr
    exact Post.round (done ++ [n / 256 ^ i % 256], i) ⟨rfl, rfl, int_at (by omega), trivial⟩ ⟨by simp; omega, by rw [← he, List.append_assoc]; rfl, wf, wr⟩ (by simp)
  · obtain rfl : j = 0 := by omega
    refine Cd.exit ?_
    refine Post.then_exit ?_
    refine Post.round_exit ?_
    refine Post.block_exit ?_
    refine Post.then_ ?_
    refine Cd.seq ?_
    refine Cd.region ?_
    refine Seq.val (Runs.move rfl rfl) rfl rfl rfl ?_
    refine Seq.val (Runs.assign rfl rfl) rfl rfl rfl ?_
    refine Seq.nil ?_
    refine Post.weak (F' := [(0, _), (1, _), (6, _), (7, _), (11, _)]) ⟨rfl, rfl, rfl, rfl, rfl, trivial⟩ ?_
    refine Post.then_ ?_
    refine Cd.ret ?_
    refine Post.end1 rfl rfl (.inl rfl) ?_
    have hde : done = beB k n := by simpa [beB] using he
    rw [hde] at wr
    exact ⟨rfl, wf, wr⟩
theorem fixed4_any (B g n : Nat) (bs : List Nat) (w : World) (h : Wr w B g bs) (hn : n < 4294967296) (hl : bs.length + 8 ≤ 1000000000) :
    Calls Tryz.prog 63 #[.pointer (some ⟨g, 0, none⟩), .int .u32 (n : Int)] w fun e w' => e = .returned (.pointer (some ⟨g, 0, none⟩)) ∧ Wf B w w' ∧ Wr w' B g (bs ++ beB 4 n) := by
  have wf := Wf.refl B w
  have wr := h
  refine Calls.start 9 Tryz.func63 rfl rfl rfl ?_
  refine Cd.seq ?_
  refine Cd.region ?_
  refine Seq.val (Runs.assign rfl rfl) rfl rfl rfl ?_
  refine Seq.nil ?_
  refine Post.weak (F' := [(0, _), (1, _), (4, _)]) ⟨rfl, rfl, rfl, trivial⟩ ?_
  refine Post.then_ ?_
  refine Cd.seq ?_
  refine Cd.region ?_
  refine Seq.val (Runs.move rfl rfl) rfl rfl rfl ?_
  refine Seq.val (Runs.move rfl rfl) rfl rfl rfl ?_
  refine Seq.val (Runs.convI rfl rfl Tryz.underlying65 Tryz.underlying97 (wrapU (by omega) (by omega))) rfl rfl rfl ?_
  refine Seq.call (Enters.func rfl rfl rfl (run_enter Tryz.func88 (by kernel_rfl) rfl)) rfl rfl rfl (fixed_any B g n 4 _ _ wr (by omega) (by omega) hl) ?_
  clear wr
  rintro e w1 ⟨rfl, fw1, wr⟩
  refine ⟨_, rfl, ?_⟩
  replace wf := wf.wf fw1
  refine Seq.val (Runs.assign rfl rfl) rfl rfl rfl ?_
  refine Seq.nil ?_
  refine Post.weak (F' := [(0, _), (1, _), (4, _)]) ⟨rfl, rfl, rfl, trivial⟩ ?_
  refine Post.then_ ?_
  refine Cd.ret ?_
  refine Post.end1 rfl rfl (.inl rfl) ?_
  exact ⟨rfl, wf, wr⟩
theorem fixed8_any (B g n : Nat) (bs : List Nat) (w : World) (h : Wr w B g bs) (hn : n < 18446744073709551616) (hl : bs.length + 8 ≤ 1000000000) :
    Calls Tryz.prog 125 #[.pointer (some ⟨g, 0, none⟩), .int .u64 (n : Int)] w fun e w' => e = .returned (.pointer (some ⟨g, 0, none⟩)) ∧ Wf B w w' ∧ Wr w' B g (bs ++ beB 8 n) := by
  have wf := Wf.refl B w
  have wr := h
  refine Calls.start 8 Tryz.func125 rfl rfl rfl ?_
  refine Cd.seq ?_
  refine Cd.region ?_
  refine Seq.val (Runs.assign rfl rfl) rfl rfl rfl ?_
  refine Seq.nil ?_
  refine Post.weak (F' := [(0, _), (1, _), (4, _)]) ⟨rfl, rfl, rfl, trivial⟩ ?_
  refine Post.then_ ?_
  refine Cd.seq ?_
  refine Cd.region ?_
  refine Seq.val (Runs.move rfl rfl) rfl rfl rfl ?_
  refine Seq.val (Runs.move rfl rfl) rfl rfl rfl ?_
  refine Seq.call (Enters.func rfl rfl rfl (run_enter Tryz.func88 (by kernel_rfl) rfl)) rfl rfl rfl (fixed_any B g n 8 _ _ wr (by omega) (by omega) hl) ?_
  clear wr
  rintro e w1 ⟨rfl, fw1, wr⟩
  refine ⟨_, rfl, ?_⟩
  replace wf := wf.wf fw1
  refine Seq.val (Runs.assign rfl rfl) rfl rfl rfl ?_
  refine Seq.nil ?_
  refine Post.weak (F' := [(0, _), (1, _), (4, _)]) ⟨rfl, rfl, rfl, trivial⟩ ?_
  refine Post.then_ ?_
  refine Cd.ret ?_
  refine Post.end1 rfl rfl (.inl rfl) ?_
  exact ⟨rfl, wf, wr⟩
/-- The number that bytes are, the highest first. -/
def valB (s : List Nat) : Nat := s.foldl (fun n c => n * 256 + c) 0
theorem valB_snoc (s : List Nat) (c : Nat) : valB (s ++ [c]) = valB s * 256 + c := by unfold valB; rw [List.foldl_append]; rfl
theorem valB_take {s : List Nat} (h : Byt s) : ∀ k, k ≤ s.length → valB (s.take k) < 256 ^ k := by
  intro k
  induction k with
  | zero => intro _; simp [valB]
  | succ k ih =>
    intro hk
    obtain ⟨c, hc⟩ : ∃ c, s[k]? = some c := ⟨_, List.getElem?_eq_getElem (by omega)⟩
    rw [take_last hc, valB_snoc, Nat.pow_succ]
    have h1 := ih (by omega)
    have h2 := h c (List.mem_of_getElem? hc)
    omega
theorem valB_lt {s : List Nat} (h : Byt s) : valB s < 256 ^ s.length := by
  have := valB_take h s.length (Nat.le_refl _)
  rwa [List.take_length] at this
theorem rawV_ok {w : World} {g : Nat} {T : TypeId} {o : Option (List Nat)} (h : Rd T w g o) (k : Nat) : Byt (rawV k o) ∧ (rawV k o).length ≤ k := by
  obtain ⟨s, b, -, hs, rfl⟩ := h
  unfold rawV
  cases b with
  | true => exact ⟨by simp [Byt], by simp⟩
  | false =>
    show Byt (((rawP (k : Int) s).map Prod.fst).getD []) ∧ (((rawP (k : Int) s).map Prod.fst).getD []).length ≤ k
    unfold rawP
    split
    · refine ⟨hs.take _, ?_⟩
      simp only [Option.map_some, Option.getD_some, List.length_take, Int.toNat_natCast]
      omega
    · exact ⟨by simp [Byt], by simp⟩
theorem rfixed_any (g k : Nat) (o : Option (List Nat)) (w : World) (h : Rd 169 w g o) (hk : k ≤ 8) :
    Calls Tryz.prog 124 #[.pointer (some ⟨g, 0, none⟩), .int .i64 (k : Int)] w fun e w' => e = .returned (.int .u64 ((valB (rawV k o) : Nat) : Int)) ∧ Kf g w w' ∧ Rd 169 w' g (rest (rawP k) o) := by
  have kf := Kf.refl g w
  have rd := h
  refine Calls.start 24 Tryz.func124 rfl rfl rfl ?_
  refine Cd.seq ?_
  refine Cd.region ?_
  refine Seq.val (Runs.assign rfl rfl) rfl rfl rfl ?_
  refine Seq.nil ?_
  refine Post.weak (F' := [(0, _), (1, _), (4, _)]) ⟨rfl, rfl, rfl, trivial⟩ ?_
  refine Post.then_ ?_
  refine Cd.seq ?_
  refine Cd.region ?_
  refine Seq.val (Runs.assign rfl rfl) rfl rfl rfl ?_
  refine Seq.nil ?_
  refine Post.weak (F' := [(0, _), (1, _), (4, _), (5, _)]) ⟨rfl, rfl, rfl, rfl, trivial⟩ ?_
  refine Post.then_ ?_
  refine Cd.seq ?_
  refine Cd.seq ?_
  refine Cd.region ?_
  refine Seq.val (Runs.move rfl rfl) rfl rfl rfl ?_
  refine Seq.val (Runs.move rfl rfl) rfl rfl rfl ?_
  refine Seq.call (Enters.func rfl rfl rfl (run_enter Tryz.func122 (by kernel_rfl) rfl)) rfl rfl rfl (rraw_any g (k : Int) o _ rd) ?_
  rintro e w1 ⟨⟨rfl, fWW, rd⟩, fw1, rd'⟩
  refine ⟨_, rfl, ?_⟩
  replace kf := kf.kf fw1 rd
  replace rd := rd'
  clear rd'
  obtain ⟨hbs, hbl⟩ := rawV_ok h k
  obtain ⟨S, hS⟩ : ∃ S, S = rawV (k : Int) o := ⟨_, rfl⟩
  rw [← hS] at hbs hbl ⊢
  refine Seq.convSB rfl rfl Tryz.underlying9 Tryz.underlying60 Tryz.underlying5 hbs rfl rfl rfl ?_
  intro g11 c w2 hc hn
  replace kf := kf.step (hn.below)
  replace rd := rd.step hn.below
  have bel := Below.refl w2.heap.size w2
  have hrd := hn.reads
  clear hn
  obtain ⟨A, hA⟩ : ∃ A, A = some (⟨g11, 0, none⟩ : Addr) := ⟨_, rfl⟩
  rw [← hA] at hrd ⊢
  clear hA
  refine Seq.val (Runs.len rfl rfl Tryz.underlying60) rfl rfl rfl ?_
  refine Seq.val (Runs.move rfl rfl) rfl rfl rfl ?_
  refine Seq.nil ?_
  refine Post.weak (F' := [(0, _), (1, _), (4, _), (5, _), (11, _), (12, _), (13, _)]) ⟨rfl, rfl, rfl, rfl, rfl, rfl, rfl, trivial⟩ ?_
  refine Post.then_ ?_
  refine Cd.block ?_
  refine Cd.loop (σ := Nat) (fun j => [(11, .slice A S.length c), (12, .int .i64 (S.length : Int)), (13, .int .i64 (j : Int)), (5, .int .u64 ((valB (S.take j) : Nat) : Int))]) (fun j wr => j ≤ S.length ∧ Below w2.heap.size w2 wr) (fun j => S.length - j) 0 ⟨Nat.zero_le _, bel⟩ ⟨rfl, rfl, rfl, rfl, trivial⟩ ?_
  clear bel
  rintro j wr ⟨hj, bel⟩
  refine Cd.seq ?_
  refine Cd.region ?_
  refine Seq.val (Runs.lss rfl rfl rfl) rfl rfl rfl ?_
  refine Seq.nil ?_
  refine Post.weak (F' := [(5, _), (11, _), (12, _), (13, _), (14, _)]) ⟨rfl, rfl, rfl, rfl, rfl, trivial⟩ ?_
  refine Post.then_ ?_
  refine Cd.seq ?_
  refine Cd.condD rfl (fun hc => ?_) (fun hc => ?_)
  · obtain ⟨b, hb⟩ : ∃ b, S[j]? = some b := ⟨_, List.getElem?_eq_getElem (by omega)⟩
    obtain ⟨ad, rfl, hbd, hcl⟩ := hrd.2 (by omega)
    have hcd := (bel.cell (p := ad.add j) (by rw [block_of_add]; exact hbd)).trans (hcl j (.int .u8 (b : Int)) (by rw [get_Bt, hb]; rfl))
    have hb256 := hbs b (List.mem_of_getElem? hb)
    have hv := valB_take hbs j (by omega)
    have hp : 256 ^ j ≤ 256 ^ 7 := Nat.pow_le_pow_right (by omega) (by omega)
    have hp7 : (256 : Nat) ^ 7 = 72057594037927936 := by decide
    refine Cd.skip ?_
    refine Post.then_ ?_
    refine Cd.seq ?_
    refine Cd.block ?_
    refine Cd.seq ?_
    refine Cd.region ?_
    refine Seq.val (Runs.index1 rfl rfl rfl Tryz.underlying60 (by kernel_rfl) (j := j) rfl (by omega)) rfl rfl rfl ?_
    refine Seq.val (Runs.load1 rfl rfl Tryz.underlying5 rfl hcd) rfl rfl rfl ?_
    refine Seq.val (Runs.assign rfl rfl) rfl rfl rfl ?_
    refine Seq.nil ?_
    refine Post.weak (F' := [(5, _), (7, _), (11, _), (12, _), (13, _), (14, _)]) ⟨rfl, rfl, rfl, rfl, rfl, rfl, trivial⟩ ?_
    refine Post.then_ ?_
    refine Cd.region ?_
    refine Seq.val (Runs.move rfl rfl) rfl rfl rfl ?_
    refine Seq.val (Runs.shlL (a := valB (S.take j)) (s := 8) rfl rfl rfl rfl (show 8 < 64 by omega) (show valB (S.take j) * 2 ^ 8 < 18446744073709551616 by omega)) rfl rfl rfl ?_
    refine Seq.val (Runs.move rfl rfl) rfl rfl rfl ?_
    refine Seq.val (Runs.convI rfl rfl Tryz.underlying5 Tryz.underlying97 (wrapU (by omega) (by omega))) rfl rfl rfl ?_
    refine Seq.val (Runs.orU (a := valB (S.take j) * 2 ^ 8) (b := b) (s := 8) (h := valB (S.take j)) rfl rfl rfl rfl (show b < 2 ^ 8 by omega) (show valB (S.take j) * 2 ^ 8 < _ by omega) (show b < _ by omega)) rfl rfl rfl ?_
    refine Seq.val (Runs.assign rfl rfl) rfl rfl rfl ?_
    refine Seq.nil ?_
    refine Post.weak (F' := [(5, _), (7, _), (11, _), (12, _), (13, _), (14, _)]) ⟨rfl, rfl, rfl, rfl, rfl, rfl, trivial⟩ ?_
    refine Post.block_normal ?_
    refine Post.then_ ?_
    refine Cd.region ?_
    refine Seq.val (Runs.addI rfl rfl rfl (by omega) (by omega)) rfl rfl rfl ?_
    refine Seq.val (Runs.move rfl rfl) rfl rfl rfl ?_
    refine Seq.nil ?_
    refine Post.weak (F' := [(5, _), (7, _), (11, _), (12, _), (13, _), (14, _)]) ⟨rfl, rfl, rfl, rfl, rfl, rfl, trivial⟩ ?_
    refine Post.round (j + 1) ⟨rfl, rfl, int_at (by omega), ?_, trivial⟩ ⟨by omega, bel⟩ (by omega)
    have hvs : valB (S.take (j + 1)) = valB (S.take j) * 2 ^ 8 + b := by rw [take_last hb, valB_snoc]
    rw [hvs]
    rfl
  · skip
    refine Cd.exit ?_
    refine Post.then_exit ?_
    refine Post.round_exit ?_
    refine Post.block_exit ?_
    refine Post.then_ ?_
    refine Cd.seq ?_
    refine Cd.region ?_
    refine Seq.val (Runs.move rfl rfl) rfl rfl rfl ?_
    refine Seq.val (Runs.assign rfl rfl) rfl rfl rfl ?_
    refine Seq.nil ?_
    refine Post.weak (F' := [(4, _), (5, _), (11, _), (12, _), (13, _), (14, _)]) ⟨rfl, rfl, rfl, rfl, rfl, rfl, trivial⟩ ?_
    refine Post.then_ ?_
    refine Cd.ret ?_
    refine Post.end1 rfl rfl (.inl rfl) ?_
    have hj' : S.take j = S := List.take_of_length_le (by omega)
    rw [hj']
    exact ⟨rfl, kf.step bel, rd.step bel⟩
theorem rfixed4_any (g : Nat) (o : Option (List Nat)) (w : World) (h : Rd 169 w g o) :
    Calls Tryz.prog 121 #[.pointer (some ⟨g, 0, none⟩)] w fun e w' => e = .returned (.int .u32 ((valB (rawV 4 o) : Nat) : Int)) ∧ Kf g w w' ∧ Rd 169 w' g (rest (rawP 4) o) := by
  have kf := Kf.refl g w
  have rd := h
  have hbb := rawV_ok h 4
  rw [show ((4 : Nat) : Int) = 4 from rfl] at hbb
  obtain ⟨hbs, hbl⟩ := hbb
  have hlt : valB (rawV 4 o) < 4294967296 := by
    have h1 := valB_lt hbs
    have h2 : 256 ^ (rawV 4 o).length ≤ 256 ^ 4 := Nat.pow_le_pow_right (by omega) hbl
    have h3 : (256 : Nat) ^ 4 = 4294967296 := by decide
    omega
  refine Calls.start 6 Tryz.func121 rfl rfl rfl ?_
  refine Cd.seq ?_
  refine Cd.region ?_
  refine Seq.val (Runs.assign rfl rfl) rfl rfl rfl ?_
  refine Seq.nil ?_
  refine Post.weak (F' := [(0, _), (2, _)]) ⟨rfl, rfl, trivial⟩ ?_
  refine Post.then_ ?_
  refine Cd.seq ?_
  refine Cd.region ?_
  refine Seq.val (Runs.move rfl rfl) rfl rfl rfl ?_
  refine Seq.call (Enters.func rfl rfl rfl (run_enter Tryz.func124 (by kernel_rfl) rfl)) rfl rfl rfl (rfixed_any g 4 o _ rd (by omega)) ?_
  rintro e w1 ⟨⟨rfl, fWW, rd⟩, fw1, rd'⟩
  refine ⟨_, rfl, ?_⟩
  replace kf := kf.kf fw1 rd
  replace rd := rd'
  clear rd'
  refine Seq.val (Runs.convI rfl rfl Tryz.underlying97 Tryz.underlying65 (u32_id hlt)) rfl rfl rfl ?_
  refine Seq.val (Runs.assign rfl rfl) rfl rfl rfl ?_
  refine Seq.nil ?_
  refine Post.weak (F' := [(0, _), (2, _)]) ⟨rfl, rfl, trivial⟩ ?_
  refine Post.then_ ?_
  refine Cd.ret ?_
  refine Post.end1 rfl rfl (.inl rfl) ?_
  exact ⟨rfl, kf, rd⟩
theorem rfixed8_any (g : Nat) (o : Option (List Nat)) (w : World) (h : Rd 169 w g o) :
    Calls Tryz.prog 85 #[.pointer (some ⟨g, 0, none⟩)] w fun e w' => e = .returned (.int .u64 ((valB (rawV 8 o) : Nat) : Int)) ∧ Kf g w w' ∧ Rd 169 w' g (rest (rawP 8) o) := by
  have kf := Kf.refl g w
  have rd := h
  refine Calls.start 5 Tryz.func85 rfl rfl rfl ?_
  refine Cd.seq ?_
  refine Cd.region ?_
  refine Seq.val (Runs.assign rfl rfl) rfl rfl rfl ?_
  refine Seq.nil ?_
  refine Post.weak (F' := [(0, _), (2, _)]) ⟨rfl, rfl, trivial⟩ ?_
  refine Post.then_ ?_
  refine Cd.seq ?_
  refine Cd.region ?_
  refine Seq.val (Runs.move rfl rfl) rfl rfl rfl ?_
  refine Seq.call (Enters.func rfl rfl rfl (run_enter Tryz.func124 (by kernel_rfl) rfl)) rfl rfl rfl (rfixed_any g 8 o _ rd (by omega)) ?_
  rintro e w1 ⟨⟨rfl, fWW, rd⟩, fw1, rd'⟩
  refine ⟨_, rfl, ?_⟩
  replace kf := kf.kf fw1 rd
  replace rd := rd'
  clear rd'
  refine Seq.val (Runs.assign rfl rfl) rfl rfl rfl ?_
  refine Seq.nil ?_
  refine Post.weak (F' := [(0, _), (2, _)]) ⟨rfl, rfl, trivial⟩ ?_
  refine Post.then_ ?_
  refine Cd.ret ?_
  refine Post.end1 rfl rfl (.inl rfl) ?_
  exact ⟨rfl, kf, rd⟩
end Go.Proofs.YtnlepoplncjliaaGreatDoor
