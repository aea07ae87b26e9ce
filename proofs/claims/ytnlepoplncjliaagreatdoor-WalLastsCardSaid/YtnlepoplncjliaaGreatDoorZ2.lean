/-
  Texts that were joined: WaO, WaQ, WaR, WaT, WaU, WaV, WbA, WbB, WbC, WbD, WbF, WbG, WcA, WcB, WbH. Conditions: what each theorem names.
-/
import Derived.Test.YtnlepoplncjliaaGreatDoorZ1
import Derived.Sort.OwnSortedInts
set_option linter.unusedSectionVars false
namespace Go.Proofs.YtnlepoplncjliaaGreatDoor
open Go.RowKit

theorem u32_id {n : Nat} (h : n < 4294967296) : IntKind.u32.wrap (n : Int) = (n : Int) := by rw [IntKind.wrap_u32]; omega
/-- A number as bytes, the highest first. -/
def beB : Nat → Nat → List Nat
  | 0, _ => []
  | k + 1, n => (n / 256 ^ k % 256) :: beB k n
theorem beB_len (k n : Nat) : (beB k n).length = k := by induction k with
  | zero => rfl
  | succ k ih => simp [beB, ih]
theorem beB_lt (k n : Nat) : ∀ d ∈ beB k n, d < 256 := by induction k with
  | zero => simp [beB]
  | succ k ih =>
    intro d hd
    rcases List.mem_cons.1 hd with rfl | hd
    · exact Nat.mod_lt _ (by omega)
    · exact ih d hd
theorem fixed_any (B g n k : Nat) (bs : List Nat) (w : World) (h : Wr w B g bs) (hn : n < 18446744073709551616) (hk : k ≤ 8) (hl : bs.length + 8 ≤ 1000000000) :
    Calls Tryz.prog 88 #[.pointer (some ⟨g, 0, none⟩), .int .u64 (n : Int), .int .i64 (k : Int)] w fun e w' => e = .returned (.pointer (some ⟨g, 0, none⟩)) ∧ Wf B w w' ∧ Wr w' B g (bs ++ beB k n) := by
  have wf := Wf.refl B w
  refine Calls.start 23 Tryz.func88 rfl rfl rfl ?_
  refine Cd.seq ?_
  refine Cd.region ?_
  refine Seq.val (Runs.assign rfl rfl) rfl rfl rfl ?_
  refine Seq.nil ?_
  refine Post.weak (F' := [(0, _), (1, _), (2, _), (6, _)]) ⟨rfl, rfl, rfl, rfl, trivial⟩ ?_
  refine Post.then_ ?_
  refine Cd.seq ?_
  refine Cd.seq ?_
  refine Cd.region ?_
  refine Seq.val (Runs.move rfl rfl) rfl rfl rfl ?_
  refine Seq.val (Runs.subI rfl rfl rfl (by omega) (by omega)) rfl rfl rfl ?_
  refine Seq.val (Runs.assign rfl rfl) rfl rfl rfl ?_
  refine Seq.nil ?_
  refine Post.weak (F' := [(0, _), (1, _), (2, _), (6, _), (7, _)]) ⟨rfl, rfl, rfl, rfl, rfl, trivial⟩ ?_
  refine Post.then_ ?_
  refine Cd.block ?_
  refine Cd.loop (σ := List Nat × Nat) (fun s => [(0, .pointer (some ⟨g, 0, none⟩)), (1, .int .u64 (n : Int)), (7, .int .i64 ((s.2 : Int) - 1))])
    (fun s wr => s.1.length + s.2 = k ∧ s.1 ++ beB s.2 n = beB k n ∧ Wf B w wr ∧ Wr wr B g (bs ++ s.1)) (fun s => s.2) ([], k) ⟨by simp, rfl, wf, by rw [List.append_nil]; exact h⟩ ⟨rfl, rfl, rfl, trivial⟩ ?_
  clear wf
  rintro ⟨done, j⟩ wr0 ⟨hd, he, wf, wr⟩
  simp only at hd he wr
  show Cd _ _ _ _ [(0, .pointer (some ⟨g, 0, none⟩)), (1, .int .u64 (n : Int)), (7, .int .i64 ((j : Int) - 1))] _
  refine Cd.seq ?_
  refine Cd.seq ?_
  refine Cd.region ?_
  refine Seq.val (Runs.move rfl rfl) rfl rfl rfl ?_
  refine Seq.val (Runs.geq rfl rfl rfl) rfl rfl rfl ?_
  refine Seq.nil ?_
  refine Post.weak (F' := [(0, _), (1, _), (7, _), (11, _)]) ⟨rfl, rfl, rfl, rfl, trivial⟩ ?_
  refine Post.then_ ?_
  refine Cd.condD rfl (fun hc => ?_) (fun hc => ?_)
  · obtain ⟨i, rfl⟩ : ∃ i, j = i + 1 := ⟨j - 1, by omega⟩
    have hi : (((i + 1 : Nat) : Int)) - 1 = (i : Int) := by omega
    rw [hi]
    refine Cd.skip ?_
    refine Post.then_ ?_
    refine Cd.seq ?_
    refine Cd.block ?_
    refine Cd.region ?_
    refine Seq.val (Runs.move rfl rfl) rfl rfl rfl ?_
    refine Seq.val (Runs.move rfl rfl) rfl rfl rfl ?_
    refine Seq.val (Runs.move rfl rfl) rfl rfl rfl ?_
    refine Seq.val ((Runs.mulI rfl rfl rfl (by omega) (by omega)).cast (v' := .int .i64 ((8 * i : Nat) : Int)) rfl) rfl rfl rfl ?_
    refine Seq.val ((Runs.shrL rfl rfl rfl (s := 8 * i) rfl (by omega)).cast (v' := .int .u64 ((n / 256 ^ i : Nat) : Int)) (by rw [Nat.pow_mul])) rfl rfl rfl ?_
    refine Seq.val (Runs.convI rfl rfl Tryz.underlying97 Tryz.underlying5 (wrap8 (n / 256 ^ i))) rfl rfl rfl ?_
    refine Seq.slice (vs := [_]) (s := 1) rfl rfl rfl Tryz.underlying60 (by kernel_rfl) (zero_uint8) (by omega) (by omega) ⟨rfl, trivial⟩ rfl rfl rfl ?_
    intro g20 w1 n20
    have e20 := Nat.le_trans wf.below.size n20.ge
    replace wf := wf.step n20.below
    replace wr := wr.step n20.below
    have k20 := n20.blk
    have hrd : Reads w1 w1.heap.size 1 (some ⟨g20, 0, none⟩) 1 (Bt [n / 256 ^ i % 256]) := Reads.blk (size := 1) k20 1 rfl
    refine Seq.call (Enters.func rfl rfl rfl (run_enter Tryz.func89 (by kernel_rfl) rfl)) rfl rfl rfl (put_any B g _ 1 1 _ _ [n / 256 ^ i % 256] _ wr hrd (by simp; omega) (by simp; omega)) ?_
    clear wr
    rintro e w2 ⟨rfl, fw2, wr⟩
    refine ⟨_, rfl, ?_⟩
    replace wf := wf.wf fw2
    refine Seq.nil ?_
    refine Post.weak (F' := [(0, _), (1, _), (7, _), (11, _)]) ⟨rfl, rfl, rfl, rfl, trivial⟩ ?_
    refine Post.block_normal ?_
    refine Post.then_ ?_
    refine Cd.region ?_
    refine Seq.val (Runs.move rfl rfl) rfl rfl rfl ?_
    refine Seq.val (Runs.subI rfl rfl rfl (by omega) (by omega)) rfl rfl rfl ?_
    refine Seq.val (Runs.assign rfl rfl) rfl rfl rfl ?_
    refine Seq.nil ?_
    refine Post.weak (F' := [(0, _), (1, _), (7, _), (11, _)]) ⟨rfl, rfl, rfl, rfl, trivial⟩ ?_
    rw [List.append_assoc] at wr
    exact Post.round (done ++ [n / 256 ^ i % 256], i) ⟨rfl, rfl, int_at (by omega), trivial⟩ ⟨by simp; omega, by rw [← he, List.append_assoc]; rfl, wf, wr⟩ (by simp)
  · obtain rfl : j = 0 := by omega
    refine Cd.exit ?_
    refine Post.then_exit ?_
    refine Post.round_exit ?_
    refine Post.block_exit ?_
    refine Post.then_ ?_
    refine Cd.seq ?_
    refine Cd.region ?_
    refine Seq.val (Runs.move rfl rfl) rfl rfl rfl ?_
    refine Seq.val (Runs.assign rfl rfl) rfl rfl rfl ?_
    refine Seq.nil ?_
    refine Post.weak (F' := [(0, _), (1, _), (6, _), (7, _), (11, _)]) ⟨rfl, rfl, rfl, rfl, rfl, trivial⟩ ?_
    refine Post.then_ ?_
    refine Cd.ret ?_
    refine Post.end1 rfl rfl (.inl rfl) ?_
    have hde : done = beB k n := by simpa [beB] using he
    rw [hde] at wr
    exact ⟨rfl, wf, wr⟩
theorem fixed4_any (B g n : Nat) (bs : List Nat) (w : World) (h : Wr w B g bs) (hn : n < 4294967296) (hl : bs.length + 8 ≤ 1000000000) :
    Calls Tryz.prog 63 #[.pointer (some ⟨g, 0, none⟩), .int .u32 (n : Int)] w fun e w' => e = .returned (.pointer (some ⟨g, 0, none⟩)) ∧ Wf B w w' ∧ Wr w' B g (bs ++ beB 4 n) := by
  have wf := Wf.refl B w
  have wr := h
  refine Calls.start 9 Tryz.func63 rfl rfl rfl ?_
  refine Cd.seq ?_
  refine Cd.region ?_
  refine Seq.val (Runs.assign rfl rfl) rfl rfl rfl ?_
  refine Seq.nil ?_
  refine Post.weak (F' := [(0, _), (1, _), (4, _)]) ⟨rfl, rfl, rfl, trivial⟩ ?_
  refine Post.then_ ?_
  refine Cd.seq ?_
  refine Cd.region ?_
  refine Seq.val (Runs.move rfl rfl) rfl rfl rfl ?_
  refine Seq.val (Runs.move rfl rfl) rfl rfl rfl ?_
  refine Seq.val (Runs.convI rfl rfl Tryz.underlying65 Tryz.underlying97 (wrapU (by omega) (by omega))) rfl rfl rfl ?_
  refine Seq.call (Enters.func rfl rfl rfl (run_enter Tryz.func88 (by kernel_rfl) rfl)) rfl rfl rfl (fixed_any B g n 4 _ _ wr (by omega) (by omega) hl) ?_
  clear wr
  rintro e w1 ⟨rfl, fw1, wr⟩
  refine ⟨_, rfl, ?_⟩
  replace wf := wf.wf fw1
  refine Seq.val (Runs.assign rfl rfl) rfl rfl rfl ?_
  refine Seq.nil ?_
  refine Post.weak (F' := [(0, _), (1, _), (4, _)]) ⟨rfl, rfl, rfl, trivial⟩ ?_
  refine Post.then_ ?_
  refine Cd.ret ?_
  refine Post.end1 rfl rfl (.inl rfl) ?_
  exact ⟨rfl, wf, wr⟩
theorem fixed8_any (B g n : Nat) (bs : List Nat) (w : World) (h : Wr w B g bs) (hn : n < 18446744073709551616) (hl : bs.length + 8 ≤ 1000000000) :
    Calls Tryz.prog 125 #[.pointer (some ⟨g, 0, none⟩), .int .u64 (n : Int)] w fun e w' => e = .returned (.pointer (some ⟨g, 0, none⟩)) ∧ Wf B w w' ∧ Wr w' B g (bs ++ beB 8 n) := by
  have wf := Wf.refl B w
  have wr := h
  refine Calls.start 8 Tryz.func125 rfl rfl rfl ?_
  refine Cd.seq ?_
  refine Cd.region ?_
  refine Seq.val (Runs.assign rfl rfl) rfl rfl rfl ?_
  refine Seq.nil ?_
  refine Post.weak (F' := [(0, _), (1, _), (4, _)]) ⟨rfl, rfl, rfl, trivial⟩ ?_
  refine Post.then_ ?_
  refine Cd.seq ?_
  refine Cd.region ?_
  refine Seq.val (Runs.move rfl rfl) rfl rfl rfl ?_
  refine Seq.val (Runs.move rfl rfl) rfl rfl rfl ?_
  refine Seq.call (Enters.func rfl rfl rfl (run_enter Tryz.func88 (by kernel_rfl) rfl)) rfl rfl rfl (fixed_any B g n 8 _ _ wr (by omega) (by omega) hl) ?_
  clear wr
  rintro e w1 ⟨rfl, fw1, wr⟩
  refine ⟨_, rfl, ?_⟩
  replace wf := wf.wf fw1
  refine Seq.val (Runs.assign rfl rfl) rfl rfl rfl ?_
  refine Seq.nil ?_
  refine Post.weak (F' := [(0, _), (1, _), (4, _)]) ⟨rfl, rfl, rfl, trivial⟩ ?_
  refine Post.then_ ?_
  refine Cd.ret ?_
  refine Post.end1 rfl rfl (.inl rfl) ?_
  exact ⟨rfl, wf, wr⟩
/-- The number that bytes are, the highest first. -/
def valB (s : List Nat) : Nat := s.foldl (fun n c => n * 256 + c) 0
theorem valB_snoc (s : List Nat) (c : Nat) : valB (s ++ [c]) = valB s * 256 + c := by unfold valB; rw [List.foldl_append]; rfl
theorem valB_take {s : List Nat} (h : Byt s) : ∀ k, k ≤ s.length → valB (s.take k) < 256 ^ k := by
  intro k
  induction k with
  | zero => intro _; simp [valB]
  | succ k ih =>
    intro hk
    obtain ⟨c, hc⟩ : ∃ c, s[k]? = some c := ⟨_, List.getElem?_eq_getElem (by omega)⟩
    rw [take_last hc, valB_snoc, Nat.pow_succ]
    have h1 := ih (by omega)
    have h2 := h c (List.mem_of_getElem? hc)
    omega
theorem valB_lt {s : List Nat} (h : Byt s) : valB s < 256 ^ s.length := by
  have := valB_take h s.length (Nat.le_refl _)
  rwa [List.take_length] at this
theorem rawV_ok {w : World} {g : Nat} {T : TypeId} {o : Option (List Nat)} (h : Rd T w g o) (k : Nat) : Byt (rawV k o) ∧ (rawV k o).length ≤ k := by
  obtain ⟨s, b, -, hs, rfl⟩ := h
  unfold rawV
  cases b with
  | true => exact ⟨by simp [Byt], by simp⟩
  | false =>
    show Byt (((rawP (k : Int) s).map Prod.fst).getD []) ∧ (((rawP (k : Int) s).map Prod.fst).getD []).length ≤ k
    unfold rawP
    split
    · refine ⟨hs.take _, ?_⟩
      simp only [Option.map_some, Option.getD_some, List.length_take, Int.toNat_natCast]
      omega
    · exact ⟨by simp [Byt], by simp⟩
theorem rfixed_any (g k : Nat) (o : Option (List Nat)) (w : World) (h : Rd 169 w g o) (hk : k ≤ 8) :
    Calls Tryz.prog 124 #[.pointer (some ⟨g, 0, none⟩), .int .i64 (k : Int)] w fun e w' => e = .returned (.int .u64 ((valB (rawV k o) : Nat) : Int)) ∧ Kf g w w' ∧ Rd 169 w' g (rest (rawP k) o) := by
  have kf := Kf.refl g w
  have rd := h
  refine Calls.start 24 Tryz.func124 rfl rfl rfl ?_
  refine Cd.seq ?_
  refine Cd.region ?_
  refine Seq.val (Runs.assign rfl rfl) rfl rfl rfl ?_
  refine Seq.nil ?_
  refine Post.weak (F' := [(0, _), (1, _), (4, _)]) ⟨rfl, rfl, rfl, trivial⟩ ?_
  refine Post.then_ ?_
  refine Cd.seq ?_
  refine Cd.region ?_
  refine Seq.val (Runs.assign rfl rfl) rfl rfl rfl ?_
  refine Seq.nil ?_
  refine Post.weak (F' := [(0, _), (1, _), (4, _), (5, _)]) ⟨rfl, rfl, rfl, rfl, trivial⟩ ?_
  refine Post.then_ ?_
  refine Cd.seq ?_
  refine Cd.seq ?_
  refine Cd.region ?_
  refine Seq.val (Runs.move rfl rfl) rfl rfl rfl ?_
  refine Seq.val (Runs.move rfl rfl) rfl rfl rfl ?_
  refine Seq.call (Enters.func rfl rfl rfl (run_enter Tryz.func122 (by kernel_rfl) rfl)) rfl rfl rfl (rraw_any g (k : Int) o _ rd) ?_
  rintro e w1 ⟨⟨rfl, fWW, rd⟩, fw1, rd'⟩
  refine ⟨_, rfl, ?_⟩
  replace kf := kf.kf fw1 rd
  replace rd := rd'
  clear rd'
  obtain ⟨hbs, hbl⟩ := rawV_ok h k
  obtain ⟨S, hS⟩ : ∃ S, S = rawV (k : Int) o := ⟨_, rfl⟩
  rw [← hS] at hbs hbl ⊢
  refine Seq.convSB rfl rfl Tryz.underlying9 Tryz.underlying60 Tryz.underlying5 hbs rfl rfl rfl ?_
  intro g11 c w2 hc hn
  replace kf := kf.step (hn.below)
  replace rd := rd.step hn.below
  have bel := Below.refl w2.heap.size w2
  have hrd := hn.reads
  clear hn
  obtain ⟨A, hA⟩ : ∃ A, A = some (⟨g11, 0, none⟩ : Addr) := ⟨_, rfl⟩
  rw [← hA] at hrd ⊢
  clear hA
  refine Seq.val (Runs.len rfl rfl Tryz.underlying60) rfl rfl rfl ?_
  refine Seq.val (Runs.move rfl rfl) rfl rfl rfl ?_
  refine Seq.nil ?_
  refine Post.weak (F' := [(0, _), (1, _), (4, _), (5, _), (11, _), (12, _), (13, _)]) ⟨rfl, rfl, rfl, rfl, rfl, rfl, rfl, trivial⟩ ?_
  refine Post.then_ ?_
  refine Cd.block ?_
  refine Cd.loop (σ := Nat) (fun j => [(11, .slice A S.length c), (12, .int .i64 (S.length : Int)), (13, .int .i64 (j : Int)), (5, .int .u64 ((valB (S.take j) : Nat) : Int))]) (fun j wr => j ≤ S.length ∧ Below w2.heap.size w2 wr) (fun j => S.length - j) 0 ⟨Nat.zero_le _, bel⟩ ⟨rfl, rfl, rfl, rfl, trivial⟩ ?_
  clear bel
  rintro j wr ⟨hj, bel⟩
  refine Cd.seq ?_
  refine Cd.region ?_
  refine Seq.val (Runs.lss rfl rfl rfl) rfl rfl rfl ?_
  refine Seq.nil ?_
  refine Post.weak (F' := [(5, _), (11, _), (12, _), (13, _), (14, _)]) ⟨rfl, rfl, rfl, rfl, rfl, trivial⟩ ?_
  refine Post.then_ ?_
  refine Cd.seq ?_
  refine Cd.condD rfl (fun hc => ?_) (fun hc => ?_)
  · obtain ⟨b, hb⟩ : ∃ b, S[j]? = some b := ⟨_, List.getElem?_eq_getElem (by omega)⟩
    obtain ⟨ad, rfl, hbd, hcl⟩ := hrd.2 (by omega)
    have hcd := (bel.cell (p := ad.add j) (by rw [block_of_add]; exact hbd)).trans (hcl j (.int .u8 (b : Int)) (by rw [get_Bt, hb]; rfl))
    have hb256 := hbs b (List.mem_of_getElem? hb)
    have hv := valB_take hbs j (by omega)
    have hp : 256 ^ j ≤ 256 ^ 7 := Nat.pow_le_pow_right (by omega) (by omega)
    have hp7 : (256 : Nat) ^ 7 = 72057594037927936 := by decide
    refine Cd.skip ?_
    refine Post.then_ ?_
    refine Cd.seq ?_
    refine Cd.block ?_
    refine Cd.seq ?_
    refine Cd.region ?_
    refine Seq.val (Runs.index1 rfl rfl rfl Tryz.underlying60 (by kernel_rfl) (j := j) rfl (by omega)) rfl rfl rfl ?_
    refine Seq.val (Runs.load1 rfl rfl Tryz.underlying5 rfl hcd) rfl rfl rfl ?_
    refine Seq.val (Runs.assign rfl rfl) rfl rfl rfl ?_
    refine Seq.nil ?_
    refine Post.weak (F' := [(5, _), (7, _), (11, _), (12, _), (13, _), (14, _)]) ⟨rfl, rfl, rfl, rfl, rfl, rfl, trivial⟩ ?_
    refine Post.then_ ?_
    refine Cd.region ?_
    refine Seq.val (Runs.move rfl rfl) rfl rfl rfl ?_
    refine Seq.val (Runs.shlL (a := valB (S.take j)) (s := 8) rfl rfl rfl rfl (show 8 < 64 by omega) (show valB (S.take j) * 2 ^ 8 < 18446744073709551616 by omega)) rfl rfl rfl ?_
    refine Seq.val (Runs.move rfl rfl) rfl rfl rfl ?_
    refine Seq.val (Runs.convI rfl rfl Tryz.underlying5 Tryz.underlying97 (wrapU (by omega) (by omega))) rfl rfl rfl ?_
    refine Seq.val (Runs.orU (a := valB (S.take j) * 2 ^ 8) (b := b) (s := 8) (h := valB (S.take j)) rfl rfl rfl rfl (show b < 2 ^ 8 by omega) (show valB (S.take j) * 2 ^ 8 < _ by omega) (show b < _ by omega)) rfl rfl rfl ?_
    refine Seq.val (Runs.assign rfl rfl) rfl rfl rfl ?_
    refine Seq.nil ?_
    refine Post.weak (F' := [(5, _), (7, _), (11, _), (12, _), (13, _), (14, _)]) ⟨rfl, rfl, rfl, rfl, rfl, rfl, trivial⟩ ?_
    refine Post.block_normal ?_
    refine Post.then_ ?_
    refine Cd.region ?_
    refine Seq.val (Runs.addI rfl rfl rfl (by omega) (by omega)) rfl rfl rfl ?_
    refine Seq.val (Runs.move rfl rfl) rfl rfl rfl ?_
    refine Seq.nil ?_
    refine Post.weak (F' := [(5, _), (7, _), (11, _), (12, _), (13, _), (14, _)]) ⟨rfl, rfl, rfl, rfl, rfl, rfl, trivial⟩ ?_
    refine Post.round (j + 1) ⟨rfl, rfl, int_at (by omega), ?_, trivial⟩ ⟨by omega, bel⟩ (by omega)
    have hvs : valB (S.take (j + 1)) = valB (S.take j) * 2 ^ 8 + b := by rw [take_last hb, valB_snoc]
    rw [hvs]
    rfl
  · skip
    refine Cd.exit ?_
    refine Post.then_exit ?_
    refine Post.round_exit ?_
    refine Post.block_exit ?_
    refine Post.then_ ?_
    refine Cd.seq ?_
    refine Cd.region ?_
    refine Seq.val (Runs.move rfl rfl) rfl rfl rfl ?_
    refine Seq.val (Runs.assign rfl rfl) rfl rfl rfl ?_
    refine Seq.nil ?_
    refine Post.weak (F' := [(4, _), (5, _), (11, _), (12, _), (13, _), (14, _)]) ⟨rfl, rfl, rfl, rfl, rfl, rfl, trivial⟩ ?_
    refine Post.then_ ?_
    refine Cd.ret ?_
    refine Post.end1 rfl rfl (.inl rfl) ?_
    have hj' : S.take j = S := List.take_of_length_le (by omega)
    rw [hj']
    exact ⟨rfl, kf.step bel, rd.step bel⟩
theorem rfixed4_any (g : Nat) (o : Option (List Nat)) (w : World) (h : Rd 169 w g o) :
    Calls Tryz.prog 121 #[.pointer (some ⟨g, 0, none⟩)] w fun e w' => e = .returned (.int .u32 ((valB (rawV 4 o) : Nat) : Int)) ∧ Kf g w w' ∧ Rd 169 w' g (rest (rawP 4) o) := by
  have kf := Kf.refl g w
  have rd := h
  have hbb := rawV_ok h 4
  rw [show ((4 : Nat) : Int) = 4 from rfl] at hbb
  obtain ⟨hbs, hbl⟩ := hbb
  have hlt : valB (rawV 4 o) < 4294967296 := by
    have h1 := valB_lt hbs
    have h2 : 256 ^ (rawV 4 o).length ≤ 256 ^ 4 := Nat.pow_le_pow_right (by omega) hbl
    have h3 : (256 : Nat) ^ 4 = 4294967296 := by decide
    omega
  refine Calls.start 6 Tryz.func121 rfl rfl rfl ?_
  refine Cd.seq ?_
  refine Cd.region ?_
  refine Seq.val (Runs.assign rfl rfl) rfl rfl rfl ?_
  refine Seq.nil ?_
  refine Post.weak (F' := [(0, _), (2, _)]) ⟨rfl, rfl, trivial⟩ ?_
  refine Post.then_ ?_
  refine Cd.seq ?_
  refine Cd.region ?_
  refine Seq.val (Runs.move rfl rfl) rfl rfl rfl ?_
  refine Seq.call (Enters.func rfl rfl rfl (run_enter Tryz.func124 (by kernel_rfl) rfl)) rfl rfl rfl (rfixed_any g 4 o _ rd (by omega)) ?_
  rintro e w1 ⟨⟨rfl, fWW, rd⟩, fw1, rd'⟩
  refine ⟨_, rfl, ?_⟩
  replace kf := kf.kf fw1 rd
  replace rd := rd'
  clear rd'
  refine Seq.val (Runs.convI rfl rfl Tryz.underlying97 Tryz.underlying65 (u32_id hlt)) rfl rfl rfl ?_
  refine Seq.val (Runs.assign rfl rfl) rfl rfl rfl ?_
  refine Seq.nil ?_
  refine Post.weak (F' := [(0, _), (2, _)]) ⟨rfl, rfl, trivial⟩ ?_
  refine Post.then_ ?_
  refine Cd.ret ?_
  refine Post.end1 rfl rfl (.inl rfl) ?_
  exact ⟨rfl, kf, rd⟩
theorem rfixed8_any (g : Nat) (o : Option (List Nat)) (w : World) (h : Rd 169 w g o) :
    Calls Tryz.prog 85 #[.pointer (some ⟨g, 0, none⟩)] w fun e w' => e = .returned (.int .u64 ((valB (rawV 8 o) : Nat) : Int)) ∧ Kf g w w' ∧ Rd 169 w' g (rest (rawP 8) o) := by
  have kf := Kf.refl g w
  have rd := h
  refine Calls.start 5 Tryz.func85 rfl rfl rfl ?_
  refine Cd.seq ?_
  refine Cd.region ?_
  refine Seq.val (Runs.assign rfl rfl) rfl rfl rfl ?_
  refine Seq.nil ?_
  refine Post.weak (F' := [(0, _), (2, _)]) ⟨rfl, rfl, trivial⟩ ?_
  refine Post.then_ ?_
  refine Cd.seq ?_
  refine Cd.region ?_
  refine Seq.val (Runs.move rfl rfl) rfl rfl rfl ?_
  refine Seq.call (Enters.func rfl rfl rfl (run_enter Tryz.func124 (by kernel_rfl) rfl)) rfl rfl rfl (rfixed_any g 8 o _ rd (by omega)) ?_
  rintro e w1 ⟨⟨rfl, fWW, rd⟩, fw1, rd'⟩
  refine ⟨_, rfl, ?_⟩
  replace kf := kf.kf fw1 rd
  replace rd := rd'
  clear rd'
  refine Seq.val (Runs.assign rfl rfl) rfl rfl rfl ?_
  refine Seq.nil ?_
  refine Post.weak (F' := [(0, _), (2, _)]) ⟨rfl, rfl, trivial⟩ ?_
  refine Post.then_ ?_
  refine Cd.ret ?_
  refine Post.end1 rfl rfl (.inl rfl) ?_
  exact ⟨rfl, kf, rd⟩
end Go.Proofs.YtnlepoplncjliaaGreatDoor

namespace Go.Proofs.YtnlepoplncjliaaGreatDoor
open Go.RowKit

def nibs : List Nat := [0, 274646895, 549293790, 820201905, 1098587580, 1361435347, 1640403810, 1905808397, 2197175160, 2460548119, 2722870694, 2987750089, 3280807620, 3553878443, 3811616794, 4084100981]
theorem nibs_lt : ∀ i, nibs.getD i 0 < 4294967296 := fun i => by
  by_cases h : i < 16
  · have : ∀ j, j < 16 → nibs.getD j 0 < 4294967296 := by decide
    exact this i h
  · have : nibs.getD i 0 = 0 := by rw [List.getD_eq_getElem?_getD, List.getElem?_eq_none (by simp [nibs]; omega)]; rfl
    omega
/-- Four bits more. -/
def stepN (r : Nat) : Nat := (r / 16) ^^^ (nibs.getD (r % 16) 0)
def crcB (r b : Nat) : Nat := stepN (stepN (r ^^^ b))
def regN (r : Nat) (s : List Nat) : Nat := s.foldl crcB r
def moreN (sum : Nat) (s : List Nat) : Nat := 4294967295 - regN (4294967295 - sum) s
theorem xor_lt32 {a b : Nat} (ha : a < 4294967296) (hb : b < 4294967296) : a ^^^ b < 4294967296 := Nat.xor_lt_two_pow (n := 32) ha hb
theorem stepN_lt {r : Nat} (h : r < 4294967296) : stepN r < 4294967296 := xor_lt32 (by omega) (nibs_lt _)
theorem crcB_lt {r b : Nat} (h : r < 4294967296) (hb : b < 256) : crcB r b < 4294967296 := stepN_lt (stepN_lt (xor_lt32 h (by omega)))
theorem regN_lt : ∀ {s : List Nat} {r : Nat}, r < 4294967296 → Byt s → regN r s < 4294967296
  | [], _, h, _ => h
  | b :: s, r, h, hs => regN_lt (s := s) (crcB_lt h (hs b List.mem_cons_self)) hs.tail
/-- The table, as it is laid. -/
structure Nib (w : World) : Prop where
  cell : ∀ i, i < 16 → w.cell? ⟨3, i, none⟩ = some (.int .u32 ((nibs.getD i 0 : Nat) : Int))
theorem Nib.step {w w' : World} (h : Nib w) (hb : Below w.heap.size w w') : Nib w' := ⟨fun i hi => cell_grow (h.cell i hi) hb⟩
section
variable {P : Program} {E : Operand → Option Value} {o : Oper} {w : World} {x y : Operand} {T T' : TypeId}
theorem Runs.indexArr {k : IntKind} {g j n e : Nat} {p : Int} (ho : o.op = .indexAddr T x y) (hx : E x = some (.pointer (some ⟨g, 0, none⟩))) (hy : E y = some (.int k p)) (hT : P.underlying T = some (.array n e)) (hs : sizeIs P e 1 = true) (hp : p = (j : Int)) (hlt : j < n) : Runs P E o w (.pointer (some ⟨g, j, none⟩)) w := fun ρ hρ => by
  obtain ⟨i, hi, hsz⟩ := sizeIs_spec hs
  subst hp
  have e2 : (⟨g, 0, none⟩ : Addr).add j = ⟨g, j, none⟩ := by unfold Addr.add; split <;> simp_all
  unfold execOp
  simp only [ho]; rw [hρ _ _ hx, hρ _ _ hy]
  have h1 : (0 : Int) ≤ (j : Int) ∧ (j : Int) < (n : Int) := by omega
  simp [Instr.indexAt, asIntOf, run_underlying hT, Instr.sureAddr, Result.andThen_ok, sizeOf, typeInfo, hi, hsz, hlt, e2]
theorem bv32 {a : Nat} (h : a < 4294967296) : (BitVec.ofInt IntKind.u32.bits (a : Int)).toNat = a := by simp [IntKind.bits]; omega
theorem Runs.xor32 {a b : Nat} (ho : o.op = .binOp .xor T x y T') (hx : E x = some (.int .u32 (a : Int))) (hy : E y = some (.int .u32 (b : Int))) (ha : a < 4294967296) (hb : b < 4294967296) : Runs P E o w (.int .u32 ((a ^^^ b : Nat) : Int)) w := by
  refine .bin ho hx hy rfl ?_
  show (Op.intBits .xor .u32 a b).run P w = _
  simp only [Op.intBits, BitVec.toNat_xor, bv32 ha, bv32 hb, u32_id (xor_lt32 ha hb)]; rfl
theorem Runs.and15 {a : Nat} (ho : o.op = .binOp .and T x y T') (hx : E x = some (.int .u32 (a : Int))) (hy : E y = some (.int .u32 15)) (ha : a < 4294967296) : Runs P E o w (.int .u32 ((a % 16 : Nat) : Int)) w := by
  refine .bin ho hx hy rfl ?_
  show (Op.intBits .and .u32 a 15).run P w = _
  have e1 : (BitVec.ofInt IntKind.u32.bits 15).toNat = 15 := by simp [IntKind.bits]
  have e2 : a &&& 15 = a % 16 := Nat.and_two_pow_sub_one_eq_mod a 4
  simp only [Op.intBits, BitVec.toNat_and, bv32 ha, e1, e2, u32_id (show a % 16 < 4294967296 by omega)]; rfl
theorem Runs.shr32 {a s : Nat} {k' : IntKind} {q : Int} (ho : o.op = .binOp .shr T x y T') (hx : E x = some (.int .u32 (a : Int))) (hy : E y = some (.int k' q)) (hq : q = (s : Int)) (hs : s ≤ 32) : Runs P E o w (.int .u32 ((a / 2 ^ s : Nat) : Int)) w := by
  subst hq
  refine .shrW ho hx hy (by omega) ?_
  have e : min (s : Int).toNat IntKind.u32.bits = s := by simp [IntKind.bits]; omega
  rw [e]
  show ((a : Int)).fdiv ((2 : Int) ^ s) = _
  rw [Int.fdiv_eq_ediv_of_nonneg _ (by exact Int.le_of_lt (Int.pow_pos (by omega)))]
  rw [Int.natCast_ediv, Int.natCast_pow]; rfl
theorem xor_ones32 {a : Nat} (h : a < 4294967296) : 4294967295 ^^^ a = 4294967295 - a := by
  have := congrArg BitVec.toNat (BitVec.xor_allOnes (x := BitVec.ofNat 32 a))
  rw [BitVec.toNat_xor, BitVec.toNat_not, BitVec.toNat_allOnes, BitVec.toNat_ofNat, Nat.mod_eq_of_lt (by omega)] at this
  rw [Nat.xor_comm]
  exact this
theorem Runs.and32 {a b : Nat} (ho : o.op = .binOp .and T x y T') (hx : E x = some (.int .u32 (a : Int))) (hy : E y = some (.int .u32 (b : Int))) (ha : a < 4294967296) (hb : b < 4294967296) : Runs P E o w (.int .u32 ((a &&& b : Nat) : Int)) w := by
  refine .bin ho hx hy rfl ?_
  show (Op.intBits .and .u32 a b).run P w = _
  have hr : a &&& b < 4294967296 := Nat.and_lt_two_pow (n := 32) a hb
  simp only [Op.intBits, BitVec.toNat_and, bv32 ha, bv32 hb, u32_id hr]; rfl
theorem Runs.or32 {a b : Nat} (ho : o.op = .binOp .or T x y T') (hx : E x = some (.int .u32 (a : Int))) (hy : E y = some (.int .u32 (b : Int))) (ha : a < 4294967296) (hb : b < 4294967296) : Runs P E o w (.int .u32 ((a ||| b : Nat) : Int)) w := by
  refine .bin ho hx hy rfl ?_
  show (Op.intBits .or .u32 a b).run P w = _
  have hr : a ||| b < 4294967296 := Nat.or_lt_two_pow (n := 32) ha hb
  simp only [Op.intBits, BitVec.toNat_or, bv32 ha, bv32 hb, u32_id hr]; rfl
theorem Runs.shl32 {a s : Nat} {k' : IntKind} {q : Int} (ho : o.op = .binOp .shl T x y T') (hx : E x = some (.int .u32 (a : Int))) (hy : E y = some (.int k' q)) (hq : q = (s : Int)) (hs : s ≤ 32) : Runs P E o w (.int .u32 ((a * 2 ^ s % 4294967296 : Nat) : Int)) w := by
  subst hq
  refine .shlW ho hx hy (by omega) ?_
  have e : min (s : Int).toNat IntKind.u32.bits = s := by simp [IntKind.bits]; omega
  rw [e, IntKind.wrap_u32, Int.natCast_emod, Int.natCast_mul, Int.natCast_pow]
  rfl
theorem Runs.not32 {a : Nat} (ho : o.op = .unOp .xor T x) (hx : E x = some (.int .u32 (a : Int))) (ha : a < 4294967296) : Runs P E o w (.int .u32 ((4294967295 - a : Nat) : Int)) w := fun ρ h => by
  unfold execOp; simp only [ho]; rw [h _ _ hx]
  have e1 : (BitVec.ofInt IntKind.u32.bits IntKind.u32.max).toNat = 4294967295 := by decide
  have e2 : IntKind.u32.signed = false := rfl
  simp only [Op.unary, e2, Bool.false_eq_true, if_false, Op.intBits, BitVec.toNat_xor, bv32 ha, e1, xor_ones32 ha, u32_id (show 4294967295 - a < 4294967296 by omega)]; rfl
end
theorem and_split (k v q : Nat) {u p : Nat} (hu : u < 2 ^ k) (hp : p < 2 ^ k) : (2 ^ k * v + u) &&& (2 ^ k * q + p) = 2 ^ k * (v &&& q) + (u &&& p) := by
  apply Nat.eq_of_testBit_eq
  intro j
  have h3 : u &&& p < 2 ^ k := Nat.and_lt_two_pow u hp
  rw [Nat.testBit_and, Nat.testBit_two_pow_mul_add _ hu, Nat.testBit_two_pow_mul_add _ hp, Nat.testBit_two_pow_mul_add _ h3]
  split <;> simp [Nat.testBit_and]
theorem or_split (k v q : Nat) {u p : Nat} (hu : u < 2 ^ k) (hp : p < 2 ^ k) : (2 ^ k * v + u) ||| (2 ^ k * q + p) = 2 ^ k * (v ||| q) + (u ||| p) := by
  apply Nat.eq_of_testBit_eq
  intro j
  have h3 : u ||| p < 2 ^ k := Nat.or_lt_two_pow hu hp
  rw [Nat.testBit_or, Nat.testBit_two_pow_mul_add _ hu, Nat.testBit_two_pow_mul_add _ hp, Nat.testBit_two_pow_mul_add _ h3]
  split <;> simp [Nat.testBit_or]
/-- A number's four bytes the other way round. -/
def revN (x : Nat) : Nat := 16777216 * (x % 256) + 65536 * (x / 256 % 256) + 256 * (x / 65536 % 256) + x / 16777216 % 256
theorem mask_and (x : Nat) : x &&& 16711935 = 65536 * (x / 65536 % 256) + x % 256 := by
  have e1 : x = 2 ^ 16 * (x / 65536) + x % 65536 := by omega
  have e2 : 16711935 = 2 ^ 16 * 255 + 255 := by decide
  have h1 : x / 65536 &&& 255 = x / 65536 % 256 := Nat.and_two_pow_sub_one_eq_mod _ 8
  have h2 : x % 65536 &&& 255 = x % 65536 % 256 := Nat.and_two_pow_sub_one_eq_mod _ 8
  conv => lhs; rw [e1, e2]
  rw [and_split 16 _ _ (by omega) (by omega), h1, h2]
  omega
theorem or_low (y : Nat) {x : Nat} (hx : x < 256) : x ||| 256 * y = 256 * y + x := by
  rw [Nat.or_comm]
  exact (Nat.two_pow_add_eq_or_of_lt (i := 8) hx y).symm
theorem rev_eq {x : Nat} (h : x < 4294967296) :
    ((x / 2 ^ 8 &&& 16711935) ||| ((x &&& 16711935) * 2 ^ 8 % 4294967296)) / 2 ^ 16 ||| ((x / 2 ^ 8 &&& 16711935) ||| ((x &&& 16711935) * 2 ^ 8 % 4294967296)) * 2 ^ 16 % 4294967296 = revN x := by
  obtain ⟨c, hc⟩ : ∃ c, c = (x / 2 ^ 8 &&& 16711935) ||| ((x &&& 16711935) * 2 ^ 8 % 4294967296) := ⟨_, rfl⟩
  rw [← hc]
  have h1 : c = 65536 * (256 * (x / 65536 % 256) + x / 16777216 % 256) + (256 * (x % 256) + x / 256 % 256) := by
    rw [hc, mask_and, mask_and]
    have e1 : 65536 * (x / 2 ^ 8 / 65536 % 256) + x / 2 ^ 8 % 256 = 2 ^ 16 * (x / 16777216 % 256) + x / 256 % 256 := by omega
    have e2 : (65536 * (x / 65536 % 256) + x % 256) * 2 ^ 8 % 4294967296 = 2 ^ 16 * (256 * (x / 65536 % 256)) + 256 * (x % 256) := by omega
    rw [e1, e2, or_split 16 _ _ (by omega) (by omega), or_low _ (by omega), or_low _ (by omega)]
  have h2 : c / 2 ^ 16 = 256 * (x / 65536 % 256) + x / 16777216 % 256 := by omega
  have h3 : c * 2 ^ 16 % 4294967296 = 2 ^ 16 * (256 * (x % 256) + x / 256 % 256) := by omega
  rw [h2, h3, Nat.or_comm, ← Nat.two_pow_add_eq_or_of_lt (i := 16) (by omega)]
  unfold revN
  omega
theorem revN_lt (x : Nat) : revN x < 4294967296 := by unfold revN; omega
theorem rev_any (x : Nat) (w : World) (hx : x < 4294967296) : Calls Tryz.prog 90 #[.int .u32 (x : Int)] w fun e w' => e = .returned (.int .u32 ((revN x : Nat) : Int)) ∧ Grow w w' := by
  have bel := Below.refl w.heap.size w
  have hm1 := mask_and (x / 2 ^ 8)
  have hm2 := mask_and x
  refine Calls.start 15 Tryz.func90 rfl rfl rfl ?_
  refine Cd.seq ?_
  refine Cd.region ?_
  refine Seq.val (Runs.assign rfl rfl) rfl rfl rfl ?_
  refine Seq.nil ?_
  refine Post.weak (F' := [(0, _), (2, _)]) ⟨rfl, rfl, trivial⟩ ?_
  refine Post.then_ ?_
  refine Cd.seq ?_
  refine Cd.region ?_
  refine Seq.val (Runs.move rfl rfl) rfl rfl rfl ?_
  refine Seq.val (Runs.shr32 (s := 8) rfl rfl rfl rfl (by omega)) rfl rfl rfl ?_
  refine Seq.val (Runs.and32 (b := 16711935) rfl rfl rfl (by omega) (by omega)) rfl rfl rfl ?_
  refine Seq.val (Runs.move rfl rfl) rfl rfl rfl ?_
  refine Seq.val (Runs.and32 (b := 16711935) rfl rfl rfl (by omega) (by omega)) rfl rfl rfl ?_
  refine Seq.val (Runs.shl32 (s := 8) rfl rfl rfl rfl (by omega)) rfl rfl rfl ?_
  refine Seq.val (Runs.or32 rfl rfl rfl (by omega) (by omega)) rfl rfl rfl ?_
  obtain ⟨c, hc⟩ : ∃ c, c = (x / 2 ^ 8 &&& 16711935) ||| ((x &&& 16711935) * 2 ^ 8 % 4294967296) := ⟨_, rfl⟩
  have hc32 : c < 4294967296 := by rw [hc]; exact Nat.or_lt_two_pow (n := 32) (by omega) (by omega)
  have hrev := rev_eq hx
  rw [← hc] at hrev ⊢
  refine Seq.val (Runs.assign rfl rfl) rfl rfl rfl ?_
  refine Seq.nil ?_
  refine Post.weak (F' := [(0, _), (2, _)]) ⟨rfl, rfl, trivial⟩ ?_
  refine Post.then_ ?_
  refine Cd.seq ?_
  refine Cd.region ?_
  refine Seq.val (Runs.move rfl rfl) rfl rfl rfl ?_
  refine Seq.val (Runs.shr32 (s := 16) rfl rfl rfl rfl (by omega)) rfl rfl rfl ?_
  refine Seq.val (Runs.move rfl rfl) rfl rfl rfl ?_
  refine Seq.val (Runs.shl32 (s := 16) rfl rfl rfl rfl (by omega)) rfl rfl rfl ?_
  refine Seq.val (Runs.or32 rfl rfl rfl (by omega) (by omega)) rfl rfl rfl ?_
  rw [hrev]
  refine Seq.val (Runs.assign rfl rfl) rfl rfl rfl ?_
  refine Seq.nil ?_
  refine Post.weak (F' := [(0, _), (2, _)]) ⟨rfl, rfl, trivial⟩ ?_
  refine Post.then_ ?_
  refine Cd.ret ?_
  refine Post.end1 rfl rfl (.inl rfl) ?_
  exact ⟨rfl, bel⟩
theorem beB_rev (x : Nat) : beB 4 (revN x) = [x % 256, x / 256 % 256, x / 65536 % 256, x / 16777216 % 256] := by
  have e : beB 4 (revN x) = [revN x / 16777216 % 256, revN x / 65536 % 256, revN x / 256 % 256, revN x / 1 % 256] := rfl
  rw [e]
  unfold revN
  have ha : x % 256 < 256 := Nat.mod_lt _ (by omega)
  have hb : x / 256 % 256 < 256 := Nat.mod_lt _ (by omega)
  have hc : x / 65536 % 256 < 256 := Nat.mod_lt _ (by omega)
  have hd : x / 16777216 % 256 < 256 := Nat.mod_lt _ (by omega)
  generalize x % 256 = a at ha ⊢
  generalize x / 256 % 256 = b at hb ⊢
  generalize x / 65536 % 256 = c at hc ⊢
  generalize x / 16777216 % 256 = d at hd ⊢
  simp only [List.cons.injEq, and_true]
  refine ⟨?_, ?_, ?_, ?_⟩ <;> omega
set_option maxHeartbeats 1000000 in
theorem more_any (sum : Nat) (s : List Nat) (w : World) (hN : Nib w) (hsum : sum < 4294967296) (hs : Byt s) (hl : s.length ≤ 1000000000) : Calls Tryz.prog 126 #[.int .u32 (sum : Int), .string (strOf s)] w fun e w' => e = .returned (.int .u32 ((moreN sum s : Nat) : Int)) ∧ Grow w w' := by
  have bel := Below.refl w.heap.size w
  refine Calls.start 37 Tryz.func126 rfl rfl rfl ?_
  refine Cd.seq ?_
  refine Cd.region ?_
  refine Seq.val (Runs.assign rfl rfl) rfl rfl rfl ?_
  refine Seq.nil ?_
  refine Post.weak (F' := [(0, _), (1, _), (4, _)]) ⟨rfl, rfl, rfl, trivial⟩ ?_
  refine Post.then_ ?_
  refine Cd.seq ?_
  refine Cd.region ?_
  refine Seq.val (Runs.move rfl rfl) rfl rfl rfl ?_
  refine Seq.val (Runs.not32 rfl rfl hsum) rfl rfl rfl ?_
  refine Seq.val (Runs.assign rfl rfl) rfl rfl rfl ?_
  refine Seq.nil ?_
  refine Post.weak (F' := [(0, _), (1, _), (4, _), (5, _)]) ⟨rfl, rfl, rfl, rfl, trivial⟩ ?_
  refine Post.then_ ?_
  refine Cd.seq ?_
  refine Cd.seq ?_
  refine Cd.region ?_
  refine Seq.val (Runs.move rfl rfl) rfl rfl rfl ?_
  refine Seq.val (Runs.lenL rfl rfl Tryz.underlying9) rfl rfl rfl ?_
  refine Seq.val (Runs.move rfl rfl) rfl rfl rfl ?_
  refine Seq.nil ?_
  refine Post.weak (F' := [(0, _), (1, _), (4, _), (5, _), (10, _), (11, _)]) ⟨rfl, rfl, rfl, rfl, rfl, rfl, trivial⟩ ?_
  refine Post.then_ ?_
  refine Cd.block ?_
  refine Cd.loop (σ := Nat) (fun j => [(1, .string (strOf s)), (10, .int .i64 (s.length : Int)), (11, .int .i64 (j : Int)), (5, .int .u32 ((regN (4294967295 - sum) (s.take j) : Nat) : Int))]) (fun j wr => j ≤ s.length ∧ Below w.heap.size w wr) (fun j => s.length - j) 0 ⟨Nat.zero_le _, bel⟩ ⟨rfl, rfl, rfl, rfl, trivial⟩ ?_
  clear bel
  rintro j wr ⟨hj, bel⟩
  refine Cd.seq ?_
  refine Cd.region ?_
  refine Seq.val (Runs.lss rfl rfl rfl) rfl rfl rfl ?_
  refine Seq.nil ?_
  refine Post.weak (F' := [(1, _), (5, _), (10, _), (11, _), (12, _)]) ⟨rfl, rfl, rfl, rfl, rfl, trivial⟩ ?_
  refine Post.then_ ?_
  refine Cd.seq ?_
  refine Cd.condD rfl (fun hc => ?_) (fun hc => ?_)
  · obtain ⟨b, hb⟩ : ∃ b, s[j]? = some b := ⟨_, List.getElem?_eq_getElem (by omega)⟩
    have hb256 := hs b (List.mem_of_getElem? hb)
    obtain ⟨r, hr⟩ : ∃ r, r = regN (4294967295 - sum) (s.take j) := ⟨_, rfl⟩
    have hr32 : r < 4294967296 := by rw [hr]; exact regN_lt (by omega) (hs.take j)
    have hx1 : r ^^^ b < 4294967296 := xor_lt32 hr32 (by omega)
    have hx2 := stepN_lt hx1
    have nb : Nib wr := ⟨fun i hi => cell_grow (hN.cell i hi) (bel.mono (Nat.le_refl _))⟩
    rw [← hr]
    refine Cd.skip ?_
    refine Post.then_ ?_
    refine Cd.seq ?_
    refine Cd.block ?_
    refine Cd.seq ?_
    refine Cd.region ?_
    refine Seq.val (Runs.move rfl rfl) rfl rfl rfl ?_
    refine Seq.val (Runs.assign rfl rfl) rfl rfl rfl ?_
    refine Seq.nil ?_
    refine Post.weak (F' := [(1, _), (5, _), (6, _), (10, _), (11, _), (12, _)]) ⟨rfl, rfl, rfl, rfl, rfl, rfl, trivial⟩ ?_
    refine Post.then_ ?_
    refine Cd.seq ?_
    refine Cd.region ?_
    refine Seq.val (Runs.move rfl rfl) rfl rfl rfl ?_
    refine Seq.val (Runs.move rfl rfl) rfl rfl rfl ?_
    refine Seq.val (Runs.move rfl rfl) rfl rfl rfl ?_
    refine Seq.val (Runs.indexL rfl rfl rfl Tryz.underlying9 (j := j) rfl hb hb256) rfl rfl rfl ?_
    refine Seq.val (Runs.convI rfl rfl Tryz.underlying5 Tryz.underlying65 (u32_id (show b < 4294967296 by omega))) rfl rfl rfl ?_
    refine Seq.val (Runs.xor32 rfl rfl rfl hr32 (show b < 4294967296 by omega)) rfl rfl rfl ?_
    obtain ⟨x1, hx1e⟩ : ∃ x1, x1 = r ^^^ b := ⟨_, rfl⟩
    rw [← hx1e] at hx1 hx2 ⊢
    refine Seq.val (Runs.assign rfl rfl) rfl rfl rfl ?_
    refine Seq.nil ?_
    refine Post.weak (F' := [(1, _), (5, _), (6, _), (10, _), (11, _), (12, _)]) ⟨rfl, rfl, rfl, rfl, rfl, rfl, trivial⟩ ?_
    refine Post.then_ ?_
    refine Cd.seq ?_
    refine Cd.region ?_
    refine Seq.val (Runs.move rfl rfl) rfl rfl rfl ?_
    refine Seq.val (Runs.shr32 (s := 4) rfl rfl rfl rfl (by omega)) rfl rfl rfl ?_
    refine Seq.val (Runs.move rfl rfl) rfl rfl rfl ?_
    refine Seq.val (Runs.and15 rfl rfl rfl hx1) rfl rfl rfl ?_
    refine Seq.val (Runs.indexArr rfl rfl rfl Tryz.underlying195 (by kernel_rfl) (j := x1 % 16) rfl (by omega)) rfl rfl rfl ?_
    refine Seq.val (Runs.load1 rfl rfl Tryz.underlying65 rfl (nb.cell (x1 % 16) (by omega))) rfl rfl rfl ?_
    refine Seq.val ((Runs.xor32 rfl rfl rfl (show x1 / 2 ^ 4 < 4294967296 by omega) (nibs_lt _)).cast (v' := .int .u32 ((stepN x1 : Nat) : Int)) rfl) rfl rfl rfl ?_
    obtain ⟨x2, hx2e⟩ : ∃ x2, x2 = stepN x1 := ⟨_, rfl⟩
    rw [← hx2e] at hx2 ⊢
    refine Seq.val (Runs.assign rfl rfl) rfl rfl rfl ?_
    refine Seq.nil ?_
    refine Post.weak (F' := [(1, _), (5, _), (6, _), (10, _), (11, _), (12, _)]) ⟨rfl, rfl, rfl, rfl, rfl, rfl, trivial⟩ ?_
    refine Post.then_ ?_
    refine Cd.region ?_
    refine Seq.val (Runs.move rfl rfl) rfl rfl rfl ?_
    refine Seq.val (Runs.shr32 (s := 4) rfl rfl rfl rfl (by omega)) rfl rfl rfl ?_
    refine Seq.val (Runs.move rfl rfl) rfl rfl rfl ?_
    refine Seq.val (Runs.and15 rfl rfl rfl hx2) rfl rfl rfl ?_
    refine Seq.val (Runs.indexArr rfl rfl rfl Tryz.underlying195 (by kernel_rfl) (j := x2 % 16) rfl (by omega)) rfl rfl rfl ?_
    refine Seq.val (Runs.load1 rfl rfl Tryz.underlying65 rfl (nb.cell (x2 % 16) (by omega))) rfl rfl rfl ?_
    refine Seq.val ((Runs.xor32 rfl rfl rfl (show x2 / 2 ^ 4 < 4294967296 by omega) (nibs_lt _)).cast (v' := .int .u32 ((stepN x2 : Nat) : Int)) rfl) rfl rfl rfl ?_
    refine Seq.val (Runs.assign rfl rfl) rfl rfl rfl ?_
    refine Seq.nil ?_
    refine Post.weak (F' := [(1, _), (5, _), (6, _), (10, _), (11, _), (12, _)]) ⟨rfl, rfl, rfl, rfl, rfl, rfl, trivial⟩ ?_
    refine Post.block_normal ?_
    refine Post.then_ ?_
    refine Cd.region ?_
    refine Seq.val (Runs.addI rfl rfl rfl (by omega) (by omega)) rfl rfl rfl ?_
    refine Seq.val (Runs.move rfl rfl) rfl rfl rfl ?_
    refine Seq.nil ?_
    refine Post.weak (F' := [(1, _), (5, _), (6, _), (10, _), (11, _), (12, _)]) ⟨rfl, rfl, rfl, rfl, rfl, rfl, trivial⟩ ?_
    refine Post.round (j + 1) ⟨rfl, rfl, int_at (by omega), ?_, trivial⟩ ⟨by omega, bel⟩ (by omega)
    have hst : regN (4294967295 - sum) (s.take (j + 1)) = stepN x2 := by
      rw [take_last hb]
      unfold regN
      rw [List.foldl_append]
      show crcB (regN (4294967295 - sum) (s.take j)) b = _
      rw [← hr, hx2e, hx1e]
      rfl
    rw [hst]
    rfl
  · skip
    refine Cd.exit ?_
    refine Post.then_exit ?_
    refine Post.round_exit ?_
    refine Post.block_exit ?_
    refine Post.then_ ?_
    refine Cd.seq ?_
    refine Cd.region ?_
    refine Seq.val (Runs.move rfl rfl) rfl rfl rfl ?_
    have hj' : s.take j = s := List.take_of_length_le (by omega)
    rw [hj']
    refine Seq.val (Runs.not32 rfl rfl (regN_lt (by omega) hs)) rfl rfl rfl ?_
    refine Seq.val (Runs.assign rfl rfl) rfl rfl rfl ?_
    refine Seq.nil ?_
    refine Post.weak (F' := [(1, _), (4, _), (5, _), (10, _), (11, _), (12, _)]) ⟨rfl, rfl, rfl, rfl, rfl, rfl, trivial⟩ ?_
    refine Post.then_ ?_
    refine Cd.ret ?_
    refine Post.end1 rfl rfl (.inl rfl) ?_
    exact ⟨rfl, bel⟩
end Go.Proofs.YtnlepoplncjliaaGreatDoor

namespace Go.Proofs.YtnlepoplncjliaaGreatDoor
open Go.RowKit

/-- A sum, as it stands behind bytes. -/
def laidC (s : List Nat) : List Nat := [moreN 0 s % 256, moreN 0 s / 256 % 256, moreN 0 s / 65536 % 256, moreN 0 s / 16777216 % 256]
theorem laidC_len (s : List Nat) : (laidC s).length = 4 := rfl
theorem laidC_lt (s : List Nat) : Byt (laidC s) := by
  intro d hd
  simp only [laidC, List.mem_cons, List.not_mem_nil, or_false] at hd
  rcases hd with rfl | rfl | rfl | rfl <;> exact Nat.mod_lt _ (by omega)
theorem moreN_lt {s : List Nat} (hs : Byt s) : moreN 0 s < 4294967296 := by unfold moreN; omega
theorem run_build_Wr0 (w : World) : (Instr.build 120 #[]).run Tryz.prog w = .ok (.agg #[.slice none 0 0]) w := by kernel_rfl
theorem Nib.lt {w : World} (h : Nib w) : 3 < w.heap.size := World.block_lt_of_cell? w _ (h.cell 0 (by omega))
theorem Nib.below {w w' : World} {B : Nat} (h : Nib w) (hb : Below B w w') (hB : 3 < B) : Nib w' := ⟨fun i hi => (hb.cell hB).trans (h.cell i hi)⟩
theorem Nib.wf {w w' : World} {B : Nat} (h : Nib w) (f : Wf B w w') (hB : 3 < B := by omega) : Nib w' := h.below f.below (by have := h.lt; omega)
theorem Nib.put {w w' : World} {B g : Nat} {T : TypeId} {cur cs : Array Value} (h : Nib w) (_k : Blk w g T cur) (p : Put w w' g T cs) (e : B ≤ g) (hB : 3 < B := by omega) : Nib w' := h.below (p.below e _k.lt) hB
theorem sum_any (s : List Nat) (w : World) (hN : Nib w) (hs : Byt s) (hl : s.length ≤ 1000000000) : Calls Tryz.prog 91 #[.string (strOf s)] w fun e w' => e = .returned (.int .u32 ((moreN 0 s : Nat) : Int)) ∧ Grow w w' := by
  have bel := Below.refl w.heap.size w
  refine Calls.start 5 Tryz.func91 rfl rfl rfl ?_
  refine Cd.seq ?_
  refine Cd.region ?_
  refine Seq.val (Runs.assign rfl rfl) rfl rfl rfl ?_
  refine Seq.nil ?_
  refine Post.weak (F' := [(0, _), (2, _)]) ⟨rfl, rfl, trivial⟩ ?_
  refine Post.then_ ?_
  refine Cd.seq ?_
  refine Cd.region ?_
  refine Seq.val (Runs.move rfl rfl) rfl rfl rfl ?_
  refine Seq.call (Enters.func rfl rfl rfl (run_enter Tryz.func126 (by kernel_rfl) rfl)) rfl rfl rfl (more_any 0 s _ hN (by omega) hs hl) ?_
  rintro e w5 ⟨rfl, hb5⟩
  refine ⟨_, rfl, ?_⟩
  replace bel := bel.step hb5
  refine Seq.val (Runs.assign rfl rfl) rfl rfl rfl ?_
  refine Seq.nil ?_
  refine Post.weak (F' := [(0, _), (2, _)]) ⟨rfl, rfl, trivial⟩ ?_
  refine Post.then_ ?_
  refine Cd.ret ?_
  refine Post.end1 rfl rfl (.inl rfl) ?_
  exact ⟨rfl, bel⟩
theorem laid_c_any (s : List Nat) (w : World) (hN : Nib w) (hs : Byt s) (hl : s.length ≤ 1000000000) : Calls Tryz.prog 65 #[.string (strOf s)] w fun e w' => e = .returned (.string (strOf (laidC s))) ∧ Grow w w' := by
  have bel := Below.refl w.heap.size w
  have nb := hN
  have hm := moreN_lt hs
  refine Calls.start 12 Tryz.func65 rfl rfl rfl ?_
  refine Cd.seq ?_
  refine Cd.region ?_
  refine Seq.val (Runs.assign rfl rfl) rfl rfl rfl ?_
  refine Seq.nil ?_
  refine Post.weak (F' := [(0, _), (2, _)]) ⟨rfl, rfl, trivial⟩ ?_
  refine Post.then_ ?_
  refine Cd.seq ?_
  refine Cd.region ?_
  refine Seq.val (Runs.build rfl rfl (run_build_Wr0 _)) rfl rfl rfl ?_
  refine Seq.box rfl rfl rfl rfl rfl ?_
  intro g5 w1 n5
  have e5 := Nat.le_trans bel.size n5.ge
  replace bel := bel.step n5.below
  replace nb := nb.step n5.below
  have k5 := n5.blk
  refine Seq.val (Runs.assign rfl rfl) rfl rfl rfl ?_
  refine Seq.nil ?_
  refine Post.weak (F' := [(0, _), (2, _), (3, _)]) ⟨rfl, rfl, rfl, trivial⟩ ?_
  refine Post.then_ ?_
  refine Cd.seq ?_
  refine Cd.region ?_
  refine Seq.val (Runs.move rfl rfl) rfl rfl rfl ?_
  refine Seq.val (Runs.move rfl rfl) rfl rfl rfl ?_
  have wr : Wr w1 g5 g5 [] := ⟨Nat.le_refl _, fun d hd => (by cases hd), _, k5, Own.nil _ _ _ _⟩
  have wf := Wf.refl g5 w1
  have hg5 : g5 ≤ w1.heap.size := Nat.le_of_lt n5.lt
  refine Seq.call (Enters.func rfl rfl rfl (run_enter Tryz.func91 (by kernel_rfl) rfl)) rfl rfl rfl (sum_any s _ nb hs hl) ?_
  rintro e w5 ⟨rfl, hb5⟩
  refine ⟨_, rfl, ?_⟩
  replace nb := nb.step hb5
  replace wf := wf.step hb5
  replace wr := wr.step hb5
  refine Seq.call (Enters.func rfl rfl rfl (run_enter Tryz.func90 (by kernel_rfl) rfl)) rfl rfl rfl (rev_any _ _ hm) ?_
  rintro e w6 ⟨rfl, hb6⟩
  refine ⟨_, rfl, ?_⟩
  replace nb := nb.step hb6
  replace wf := wf.step hb6
  replace wr := wr.step hb6
  have h3 : 3 < g5 := by have := hN.lt; omega
  refine Seq.call (Enters.func rfl rfl rfl (run_enter Tryz.func63 (by kernel_rfl) rfl)) rfl rfl rfl (fixed4_any g5 g5 (revN (moreN 0 s)) [] _ wr (revN_lt _) (by simp)) ?_
  clear wr
  rintro e w2 ⟨rfl, fw2, wr⟩
  refine ⟨_, rfl, ?_⟩
  replace nb := nb.wf fw2
  replace wf := wf.wf fw2
  rw [beB_rev, List.nil_append] at wr
  refine Seq.call (Enters.func rfl rfl rfl (run_enter Tryz.func66 (by kernel_rfl) rfl)) rfl rfl rfl (wbytes_any g5 g5 _ _ wr) ?_
  rintro e w7 ⟨rfl, hb7⟩
  refine ⟨_, rfl, ?_⟩
  replace nb := nb.step hb7
  replace wf := wf.step hb7
  replace wr := wr.step hb7
  refine Seq.val (Runs.assign rfl rfl) rfl rfl rfl ?_
  refine Seq.nil ?_
  refine Post.weak (F' := [(0, _), (2, _), (3, _)]) ⟨rfl, rfl, rfl, trivial⟩ ?_
  refine Post.then_ ?_
  refine Cd.ret ?_
  refine Post.end1 rfl rfl (.inl rfl) ?_
  exact ⟨rfl, bel.trans ((wf.to hg5).mono e5)⟩
/-- Bytes in a frame. -/
def frameN (s : List Nat) : List Nat := beB 4 s.length ++ laidC (beB 4 s.length) ++ s ++ laidC s
theorem frameN_len (s : List Nat) : (frameN s).length = s.length + 12 := by
  unfold frameN
  simp only [List.length_append, beB_len, laidC_len]
  omega
theorem frameN_lt {s : List Nat} (hs : Byt s) : Byt (frameN s) := Byt.app (Byt.app (Byt.app (beB_lt 4 _) (laidC_lt _)) hs) (laidC_lt _)
theorem frame_any (s : List Nat) (w : World) (hN : Nib w) (hs : Byt s) (hl : s.length ≤ 100000000) : Calls Tryz.prog 39 #[.string (strOf s)] w fun e w' => e = .returned (.tuple #[.string (strOf (if s.length ≤ 131072 then frameN s else [])), .bool (decide (s.length ≤ 131072))]) ∧ Grow w w' := by
  have bel := Below.refl w.heap.size w
  have nb := hN
  refine Calls.start 26 Tryz.func39 rfl rfl rfl ?_
  refine Cd.seq ?_
  refine Cd.region ?_
  refine Seq.val (Runs.assign rfl rfl) rfl rfl rfl ?_
  refine Seq.val (Runs.assign rfl rfl) rfl rfl rfl ?_
  refine Seq.nil ?_
  refine Post.weak (F' := [(0, _), (2, _), (3, _)]) ⟨rfl, rfl, rfl, trivial⟩ ?_
  refine Post.then_ ?_
  refine Cd.seq ?_
  refine Cd.seq ?_
  refine Cd.region ?_
  refine Seq.val (Runs.move rfl rfl) rfl rfl rfl ?_
  refine Seq.val (Runs.lenL rfl rfl Tryz.underlying9) rfl rfl rfl ?_
  refine Seq.val (Runs.gtr rfl rfl rfl) rfl rfl rfl ?_
  refine Seq.nil ?_
  refine Post.weak (F' := [(0, _), (2, _), (3, _), (7, _)]) ⟨rfl, rfl, rfl, rfl, trivial⟩ ?_
  refine Post.then_ ?_
  refine Cd.cond rfl (fun h => ?_) (fun h => ?_)
  · have h : ¬ s.length ≤ 131072 := by
      have : (131072 : Int) < (s.length : Int) := by simpa using h
      omega
    rw [if_neg h, decide_eq_false h]
    refine Cd.seq ?_
    refine Cd.region ?_
    refine Seq.val (Runs.assign rfl rfl) rfl rfl rfl ?_
    refine Seq.val (Runs.assign rfl rfl) rfl rfl rfl ?_
    refine Seq.nil ?_
    refine Post.weak (F' := [(0, _), (2, _), (3, _), (7, _)]) ⟨rfl, rfl, rfl, rfl, trivial⟩ ?_
    refine Post.then_ ?_
    refine Cd.ret ?_
    refine Post.then_ret ?_
    refine Post.end2 rfl rfl rfl (.inl rfl) ?_
    exact ⟨rfl, bel⟩
  have h : s.length ≤ 131072 := by
    have : ¬ (131072 : Int) < (s.length : Int) := by simpa using h
    omega
  rw [if_pos h, decide_eq_true h]
  refine Cd.skip ?_
  refine Post.then_ ?_
  refine Cd.seq ?_
  refine Cd.region ?_
  refine Seq.val (Runs.build rfl rfl (run_build_Wr0 _)) rfl rfl rfl ?_
  refine Seq.box rfl rfl rfl rfl rfl ?_
  intro g9 w1 n9
  have e9 := Nat.le_trans bel.size n9.ge
  replace bel := bel.step n9.below
  replace nb := nb.step n9.below
  have k9 := n9.blk
  refine Seq.val (Runs.assign rfl rfl) rfl rfl rfl ?_
  refine Seq.nil ?_
  refine Post.weak (F' := [(0, _), (2, _), (3, _), (4, _), (7, _)]) ⟨rfl, rfl, rfl, rfl, rfl, trivial⟩ ?_
  refine Post.then_ ?_
  refine Cd.seq ?_
  refine Cd.region ?_
  refine Seq.val (Runs.move rfl rfl) rfl rfl rfl ?_
  refine Seq.val (Runs.move rfl rfl) rfl rfl rfl ?_
  refine Seq.val (Runs.lenL rfl rfl Tryz.underlying9) rfl rfl rfl ?_
  have wr : Wr w1 g9 g9 [] := ⟨Nat.le_refl _, fun d hd => (by cases hd), _, k9, Own.nil _ _ _ _⟩
  have wf := Wf.refl g9 w1
  have hg9 : g9 ≤ w1.heap.size := Nat.le_of_lt n9.lt
  have h3 : 3 < g9 := by have := hN.lt; omega
  have hb4 : Byt (beB 4 s.length) := beB_lt 4 _
  refine Seq.val (Runs.convI rfl rfl Tryz.underlying3 Tryz.underlying65 (u32_id (by omega))) rfl rfl rfl ?_
  refine Seq.call (Enters.func rfl rfl rfl (run_enter Tryz.func63 (by kernel_rfl) rfl)) rfl rfl rfl (fixed4_any g9 g9 s.length [] _ wr (by omega) (by simp)) ?_
  clear wr
  rintro e w2 ⟨rfl, fw2, wr⟩
  refine ⟨_, rfl, ?_⟩
  replace nb := nb.wf fw2
  replace wf := wf.wf fw2
  refine Seq.nil ?_
  refine Post.weak (F' := [(0, _), (2, _), (3, _), (4, _), (7, _)]) ⟨rfl, rfl, rfl, rfl, rfl, trivial⟩ ?_
  refine Post.then_ ?_
  refine Cd.seq ?_
  refine Cd.region ?_
  refine Seq.val (Runs.move rfl rfl) rfl rfl rfl ?_
  refine Seq.val (Runs.move rfl rfl) rfl rfl rfl ?_
  rw [List.nil_append] at wr
  refine Seq.call (Enters.func rfl rfl rfl (run_enter Tryz.func66 (by kernel_rfl) rfl)) rfl rfl rfl (wbytes_any g9 g9 _ _ wr) ?_
  rintro e w7 ⟨rfl, hb7⟩
  refine ⟨_, rfl, ?_⟩
  replace nb := nb.step hb7
  replace wf := wf.step hb7
  replace wr := wr.step hb7
  refine Seq.call (Enters.func rfl rfl rfl (run_enter Tryz.func65 (by kernel_rfl) rfl)) rfl rfl rfl (laid_c_any _ _ nb hb4 (by rw [beB_len]; omega)) ?_
  rintro e w8 ⟨rfl, hb8⟩
  refine ⟨_, rfl, ?_⟩
  replace nb := nb.step hb8
  replace wf := wf.step hb8
  replace wr := wr.step hb8
  refine Seq.call (Enters.func rfl rfl rfl (run_enter Tryz.func64 (by kernel_rfl) rfl)) rfl rfl rfl (raw_any g9 g9 (laidC (beB 4 s.length)) _ _ wr (laidC_lt _) (by rw [beB_len, laidC_len]; omega)) ?_
  clear wr
  rintro e w3 ⟨rfl, fw3, wr⟩
  refine ⟨_, rfl, ?_⟩
  replace nb := nb.wf fw3
  replace wf := wf.wf fw3
  refine Seq.val (Runs.move rfl rfl) rfl rfl rfl ?_
  refine Seq.call (Enters.func rfl rfl rfl (run_enter Tryz.func64 (by kernel_rfl) rfl)) rfl rfl rfl (raw_any g9 g9 s _ _ wr hs (by simp only [List.length_append, beB_len, laidC_len]; omega)) ?_
  clear wr
  rintro e w4 ⟨rfl, fw4, wr⟩
  refine ⟨_, rfl, ?_⟩
  replace nb := nb.wf fw4
  replace wf := wf.wf fw4
  refine Seq.val (Runs.move rfl rfl) rfl rfl rfl ?_
  refine Seq.call (Enters.func rfl rfl rfl (run_enter Tryz.func65 (by kernel_rfl) rfl)) rfl rfl rfl (laid_c_any s _ nb hs (by omega)) ?_
  rintro e w9 ⟨rfl, hb9⟩
  refine ⟨_, rfl, ?_⟩
  replace nb := nb.step hb9
  replace wf := wf.step hb9
  replace wr := wr.step hb9
  refine Seq.call (Enters.func rfl rfl rfl (run_enter Tryz.func64 (by kernel_rfl) rfl)) rfl rfl rfl (raw_any g9 g9 (laidC s) _ _ wr (laidC_lt _) (by simp only [List.length_append, beB_len, laidC_len]; omega)) ?_
  clear wr
  rintro e w5 ⟨rfl, fw5, wr⟩
  refine ⟨_, rfl, ?_⟩
  replace nb := nb.wf fw5
  replace wf := wf.wf fw5
  refine Seq.call (Enters.func rfl rfl rfl (run_enter Tryz.func66 (by kernel_rfl) rfl)) rfl rfl rfl (wbytes_any g9 g9 _ _ wr) ?_
  rintro e w10 ⟨rfl, hb10⟩
  refine ⟨_, rfl, ?_⟩
  replace nb := nb.step hb10
  replace wf := wf.step hb10
  replace wr := wr.step hb10
  refine Seq.val (Runs.assign rfl rfl) rfl rfl rfl ?_
  refine Seq.val (Runs.assign rfl rfl) rfl rfl rfl ?_
  refine Seq.nil ?_
  refine Post.weak (F' := [(0, _), (2, _), (3, _), (4, _), (7, _)]) ⟨rfl, rfl, rfl, rfl, rfl, trivial⟩ ?_
  refine Post.then_ ?_
  refine Cd.ret ?_
  refine Post.end2 rfl rfl rfl (.inl rfl) ?_
  exact ⟨rfl, bel.trans ((wf.to hg9).mono e9)⟩
end Go.Proofs.YtnlepoplncjliaaGreatDoor

namespace Go.Proofs.YtnlepoplncjliaaGreatDoor
open Go.RowKit

theorem raw_rest (k : Nat) (s : List Nat) : rest (rawP (k : Int)) (some s) = if k ≤ s.length then some (s.drop k) else none := by
  show ((rawP (k : Int) s)).map Prod.snd = _
  unfold rawP
  by_cases h : k ≤ s.length
  · rw [if_pos (by omega), if_pos h]; simp
  · rw [if_neg (by omega), if_neg h]; rfl
theorem raw_val (k : Nat) (s : List Nat) : rawV (k : Int) (some s) = if k ≤ s.length then s.take k else [] := by
  show ((rawP (k : Int) s).map Prod.fst).getD [] = _
  unfold rawP
  by_cases h : k ≤ s.length
  · rw [if_pos (by omega), if_pos h]; simp
  · rw [if_neg (by omega), if_neg h]; rfl
/-- What is framed at the beginning: bytes, how many are taken, 0 whole, 1 short, 2 bad. -/
def openN (s : List Nat) : List Nat × Nat × Nat :=
  if s.length < 8 then ([], 0, 1)
  else if laidC (s.take 4) ≠ (s.drop 4).take 4 ∨ 131072 < valB (s.take 4) then ([], 0, 2)
  else if s.length < 12 + valB (s.take 4) then ([], 0, 1)
  else if laidC ((s.drop 8).take (valB (s.take 4))) ≠ (s.drop (8 + valB (s.take 4))).take 4 then ([], 0, 2)
  else ((s.drop 8).take (valB (s.take 4)), 12 + valB (s.take 4), 0)
set_option maxHeartbeats 2000000 in
theorem open_c_any (s : List Nat) (w : World) (hN : Nib w) (hs : Byt s) (hl : s.length ≤ 100000000) : Calls Tryz.prog 83 #[.string (strOf s)] w fun e w' => e = .returned (.tuple #[.string (strOf (openN s).1), .int .i64 ((openN s).2.1 : Int), .int .i64 ((openN s).2.2 : Int)]) ∧ Grow w w' := by
  have bel := Below.refl w.heap.size w
  refine Calls.start 48 Tryz.func83 rfl rfl rfl ?_
  refine Cd.seq ?_
  refine Cd.region ?_
  refine Seq.val (Runs.assign rfl rfl) rfl rfl rfl ?_
  refine Seq.val (Runs.assign rfl rfl) rfl rfl rfl ?_
  refine Seq.val (Runs.assign rfl rfl) rfl rfl rfl ?_
  refine Seq.nil ?_
  refine Post.weak (F' := [(0, _), (2, _), (3, _), (4, _)]) ⟨rfl, rfl, rfl, rfl, trivial⟩ ?_
  refine Post.then_ ?_
  refine Cd.seq ?_
  refine Cd.region ?_
  refine Seq.val (Runs.move rfl rfl) rfl rfl rfl ?_
  refine Seq.call (Enters.func rfl rfl rfl (run_enter Tryz.func84 (by kernel_rfl) rfl)) rfl rfl rfl (read_any s _ hs) ?_
  rintro e w1 ⟨g5, rfl, hb1, hg5, rd⟩
  refine ⟨_, rfl, ?_⟩
  replace bel := bel.step hb1
  have kf := Kf.refl g5 w1
  have bel0 := bel
  have hlt5 := rd.lt
  have hwhole : ∀ w', Kf g5 w1 w' → Below w.heap.size w w' := fun w' k => bel0.trans (k.to hg5 hlt5)
  clear bel
  refine Seq.val (Runs.assign rfl rfl) rfl rfl rfl ?_
  refine Seq.nil ?_
  refine Post.weak (F' := [(0, _), (2, _), (3, _), (4, _), (5, _)]) ⟨rfl, rfl, rfl, rfl, rfl, trivial⟩ ?_
  refine Post.then_ ?_
  refine Cd.seq ?_
  refine Cd.region ?_
  refine Seq.val (Runs.move rfl rfl) rfl rfl rfl ?_
  refine Seq.call (Enters.func rfl rfl rfl (run_enter Tryz.func121 (by kernel_rfl) rfl)) rfl rfl rfl (rfixed4_any g5 _ _ rd) ?_
  rintro e w1 ⟨⟨rfl, fWW, rd⟩, fw1, rd'⟩
  refine ⟨_, rfl, ?_⟩
  replace kf := kf.kf fw1 rd
  replace rd := rd'
  clear rd'
  refine Seq.val (Runs.move rfl rfl) rfl rfl rfl ?_
  refine Seq.call (Enters.func rfl rfl rfl (run_enter Tryz.func122 (by kernel_rfl) rfl)) rfl rfl rfl (rraw_any g5 4 _ _ rd) ?_
  rintro e w2 ⟨⟨rfl, fWW, rd⟩, fw2, rd'⟩
  refine ⟨_, rfl, ?_⟩
  replace kf := kf.kf fw2 rd
  replace rd := rd'
  clear rd'
  refine Seq.val (Runs.assign rfl rfl) rfl rfl rfl ?_
  refine Seq.val (Runs.assign rfl rfl) rfl rfl rfl ?_
  refine Seq.nil ?_
  refine Post.weak (F' := [(0, _), (2, _), (3, _), (4, _), (5, _), (6, _), (7, _)]) ⟨rfl, rfl, rfl, rfl, rfl, rfl, rfl, trivial⟩ ?_
  refine Post.then_ ?_
  refine Cd.seq ?_
  refine Cd.seq ?_
  refine Cd.region ?_
  refine Seq.val (Runs.move rfl rfl) rfl rfl rfl ?_
  have e4 : ((4 : Nat) : Int) = 4 := rfl
  have hr1 := raw_rest 4 s
  have hv1 := raw_val 4 s
  rw [e4] at hr1 hv1
  rw [hr1] at rd ⊢
  rw [hv1]
  obtain ⟨o2, ho2⟩ : ∃ o2, o2 = rest (rawP 4) (if 4 ≤ s.length then some (s.drop 4) else none) := ⟨_, rfl⟩
  have ho3 : o2 = if 8 ≤ s.length then some (s.drop 8) else none := by
    rw [ho2]
    by_cases h4 : 4 ≤ s.length
    · rw [if_pos h4]
      have := raw_rest 4 (s.drop 4)
      rw [e4] at this
      rw [this, List.length_drop, List.drop_drop]
      by_cases h8 : 8 ≤ s.length
      · rw [if_pos (by omega), if_pos h8]
      · rw [if_neg (by omega), if_neg h8]
    · rw [if_neg h4, if_neg (by omega)]; rfl
  rw [← ho2] at rd
  have hrd8 := rd
  refine Seq.call (Enters.func rfl rfl rfl (run_enter Tryz.func123 (by kernel_rfl) rfl)) rfl rfl rfl (good_any g5 o2 _ rd) ?_
  rintro e w5 ⟨rfl, hb5⟩
  refine ⟨_, rfl, ?_⟩
  replace kf := kf.step hb5
  replace rd := rd.step hb5
  refine Seq.val (Runs.not rfl rfl) rfl rfl rfl ?_
  refine Seq.nil ?_
  refine Post.weak (F' := [(0, _), (2, _), (3, _), (4, _), (5, _), (6, _), (7, _), (18, _)]) ⟨rfl, rfl, rfl, rfl, rfl, rfl, rfl, rfl, trivial⟩ ?_
  refine Post.then_ ?_
  refine Cd.cond rfl (fun h => ?_) (fun h => ?_)
  · have h8 : s.length < 8 := by
      rw [ho3] at h
      by_cases h8 : 8 ≤ s.length
      · rw [if_pos h8] at h; cases h
      · omega
    have hO : openN s = ([], 0, 1) := by unfold openN; rw [if_pos h8]
    rw [hO]
    refine Cd.seq ?_
    refine Cd.region ?_
    refine Seq.val (Runs.assign rfl rfl) rfl rfl rfl ?_
    refine Seq.val (Runs.assign rfl rfl) rfl rfl rfl ?_
    refine Seq.val (Runs.assign rfl rfl) rfl rfl rfl ?_
    refine Seq.nil ?_
    refine Post.weak (F' := [(0, _), (2, _), (3, _), (4, _), (5, _), (6, _), (7, _), (18, _)]) ⟨rfl, rfl, rfl, rfl, rfl, rfl, rfl, rfl, trivial⟩ ?_
    refine Post.then_ ?_
    refine Cd.ret ?_
    refine Post.then_ret ?_
    refine Post.end3 rfl rfl rfl rfl (.inl rfl) ?_
    exact ⟨rfl, hwhole _ kf⟩
  have h8 : 8 ≤ s.length := by
    rw [ho3] at h
    by_cases h8 : 8 ≤ s.length
    · exact h8
    · rw [if_neg h8] at h; cases h
  rw [if_pos h8] at ho3
  subst ho3
  have h4 : 4 ≤ s.length := by omega
  have hv2 := raw_val 4 (s.drop 4)
  rw [e4, if_pos (by rw [List.length_drop]; omega)] at hv2
  rw [if_pos h4, if_pos h4, hv2]
  obtain ⟨n, hn⟩ : ∃ n, n = valB (s.take 4) := ⟨_, rfl⟩
  have hn32 : n < 4294967296 := by
    have h1 := valB_lt (hs.take 4)
    rw [List.length_take, Nat.min_eq_left h4, show (256 : Nat) ^ 4 = 4294967296 by decide] at h1
    omega
  rw [← hn]
  have hO : openN s = if laidC (s.take 4) ≠ (s.drop 4).take 4 ∨ 131072 < n then ([], 0, 2) else if s.length < 12 + n then ([], 0, 1) else if laidC ((s.drop 8).take n) ≠ (s.drop (8 + n)).take 4 then ([], 0, 2) else ((s.drop 8).take n, 12 + n, 0) := by unfold openN; rw [if_neg (by omega), ← hn]
  have nb : Nib _ := hN.step (hwhole _ kf)
  refine Cd.skip ?_
  refine Post.then_ ?_
  refine Cd.seq ?_
  refine Cd.seq ?_
  refine Cd.region ?_
  refine Seq.val (Runs.move rfl rfl) rfl rfl rfl ?_
  refine Seq.val (Runs.sliceTo rfl rfl rfl Tryz.underlying9 (j := 4) rfl (by omega)) rfl rfl rfl ?_
  refine Seq.call (Enters.func rfl rfl rfl (run_enter Tryz.func65 (by kernel_rfl) rfl)) rfl rfl rfl (laid_c_any (s.take 4) _ nb (hs.take 4) (by rw [List.length_take]; omega)) ?_
  rintro e w6 ⟨rfl, hb6⟩
  refine ⟨_, rfl, ?_⟩
  replace kf := kf.step hb6
  replace rd := rd.step hb6
  refine Seq.val (Runs.move rfl rfl) rfl rfl rfl ?_
  refine Seq.val (Runs.neqL rfl rfl rfl (laidC_lt _) ((hs.drop 4).take 4)) rfl rfl rfl ?_
  refine Seq.val (Runs.move rfl rfl) rfl rfl rfl ?_
  refine SeqC.start ?_
  refine SeqC.open rfl rfl rfl rfl rfl rfl rfl (fun hcx => Runs.move rfl rfl) ?_
  refine SeqC.next rfl rfl rfl rfl rfl rfl rfl (fun hcx => Runs.gtr rfl rfl rfl) ?_
  refine SeqC.or rfl rfl rfl rfl rfl rfl rfl ?_
  refine Seq.nil ?_
  refine Post.weak (F' := [(0, _), (2, _), (3, _), (4, _), (5, _), (6, _), (7, _), (18, _), (27, _)]) ⟨rfl, rfl, rfl, rfl, rfl, rfl, rfl, rfl, rfl, trivial⟩ ?_
  refine Post.then_ ?_
  refine Cd.cond rfl (fun h => ?_) (fun h => ?_)
  · have h1 : laidC (s.take 4) ≠ (s.drop 4).take 4 ∨ 131072 < n := by
      have h' : (decide (laidC (s.take 4) ≠ (s.drop 4).take 4) || decide ((131072 : Int) < (n : Int))) = true := h
      rw [Bool.or_eq_true, decide_eq_true_eq, decide_eq_true_eq] at h'
      rcases h' with h' | h'
      · exact .inl h'
      · exact .inr (by omega)
    rw [if_pos h1] at hO
    rw [hO]
    refine Cd.seq ?_
    refine Cd.region ?_
    refine Seq.val (Runs.assign rfl rfl) rfl rfl rfl ?_
    refine Seq.val (Runs.assign rfl rfl) rfl rfl rfl ?_
    refine Seq.val (Runs.assign rfl rfl) rfl rfl rfl ?_
    refine Seq.nil ?_
    refine Post.weak (F' := [(0, _), (2, _), (3, _), (4, _), (5, _), (6, _), (7, _), (18, _), (27, _)]) ⟨rfl, rfl, rfl, rfl, rfl, rfl, rfl, rfl, rfl, trivial⟩ ?_
    refine Post.then_ ?_
    refine Cd.ret ?_
    refine Post.then_ret ?_
    refine Post.end3 rfl rfl rfl rfl (.inl rfl) ?_
    exact ⟨rfl, hwhole _ kf⟩
  have h1 : ¬ (laidC (s.take 4) ≠ (s.drop 4).take 4 ∨ 131072 < n) := by
    have h' : (decide (laidC (s.take 4) ≠ (s.drop 4).take 4) || decide ((131072 : Int) < (n : Int))) = false := h
    rw [Bool.or_eq_false_iff, decide_eq_false_iff_not, decide_eq_false_iff_not] at h'
    rintro (h2 | h2)
    · exact h'.1 h2
    · exact h'.2 (by omega)
  have hn17 : n ≤ 131072 := by
    have : ¬ (131072 < n) := fun h2 => h1 (.inr h2)
    omega
  rw [if_neg h1] at hO
  have hr3 := raw_rest n (s.drop 8)
  have hv3 := raw_val n (s.drop 8)
  refine Cd.skip ?_
  refine Post.then_ ?_
  refine Cd.seq ?_
  refine Cd.region ?_
  refine Seq.val (Runs.move rfl rfl) rfl rfl rfl ?_
  refine Seq.val (Runs.move rfl rfl) rfl rfl rfl ?_
  refine Seq.val (Runs.convI rfl rfl Tryz.underlying65 Tryz.underlying3 (wrapI (by omega) (by omega))) rfl rfl rfl ?_
  refine Seq.call (Enters.func rfl rfl rfl (run_enter Tryz.func122 (by kernel_rfl) rfl)) rfl rfl rfl (rraw_any g5 (n : Int) _ _ rd) ?_
  rintro e w3 ⟨⟨rfl, fWW, rd⟩, fw3, rd'⟩
  refine ⟨_, rfl, ?_⟩
  replace kf := kf.kf fw3 rd
  replace rd := rd'
  clear rd'
  rw [hv3]
  rw [hr3] at rd
  refine Seq.val (Runs.assign rfl rfl) rfl rfl rfl ?_
  refine Seq.nil ?_
  refine Post.weak (F' := [(0, _), (2, _), (3, _), (4, _), (5, _), (6, _), (7, _), (8, _), (18, _), (27, _)]) ⟨rfl, rfl, rfl, rfl, rfl, rfl, rfl, rfl, rfl, rfl, trivial⟩ ?_
  refine Post.then_ ?_
  refine Cd.seq ?_
  refine Cd.region ?_
  refine Seq.val (Runs.move rfl rfl) rfl rfl rfl ?_
  refine Seq.call (Enters.func rfl rfl rfl (run_enter Tryz.func122 (by kernel_rfl) rfl)) rfl rfl rfl (rraw_any g5 4 _ _ rd) ?_
  rintro e w4 ⟨⟨rfl, fWW, rd⟩, fw4, rd'⟩
  refine ⟨_, rfl, ?_⟩
  replace kf := kf.kf fw4 rd
  replace rd := rd'
  clear rd'
  obtain ⟨o4, ho4⟩ : ∃ o4, o4 = rest (rawP 4) (if n ≤ (s.drop 8).length then some ((s.drop 8).drop n) else none) := ⟨_, rfl⟩
  have ho5 : o4 = if 12 + n ≤ s.length then some (s.drop (12 + n)) else none := by
    rw [ho4]
    by_cases h5 : n ≤ (s.drop 8).length
    · rw [if_pos h5]
      have := raw_rest 4 ((s.drop 8).drop n)
      rw [e4] at this
      rw [List.length_drop] at h5
      rw [this, List.length_drop, List.length_drop, List.drop_drop, List.drop_drop]
      by_cases h6 : 12 + n ≤ s.length
      · rw [if_pos (by omega), if_pos h6]
        congr 2
        omega
      · rw [if_neg (by omega), if_neg h6]
    · rw [if_neg h5]
      rw [List.length_drop] at h5
      rw [if_neg (by omega)]
      rfl
  rw [← ho4] at rd
  refine Seq.val (Runs.assign rfl rfl) rfl rfl rfl ?_
  refine Seq.nil ?_
  refine Post.weak (F' := [(0, _), (2, _), (3, _), (4, _), (5, _), (6, _), (7, _), (8, _), (9, _), (18, _), (27, _)]) ⟨rfl, rfl, rfl, rfl, rfl, rfl, rfl, rfl, rfl, rfl, rfl, trivial⟩ ?_
  refine Post.then_ ?_
  refine Cd.seq ?_
  refine Cd.block ?_
  refine Cd.seq ?_
  refine Cd.region ?_
  refine Seq.val (Runs.move rfl rfl) rfl rfl rfl ?_
  refine Seq.call (Enters.func rfl rfl rfl (run_enter Tryz.func123 (by kernel_rfl) rfl)) rfl rfl rfl (good_any g5 o4 _ rd) ?_
  rintro e w7 ⟨rfl, hb7⟩
  refine ⟨_, rfl, ?_⟩
  replace kf := kf.step hb7
  replace rd := rd.step hb7
  refine Seq.val (Runs.not rfl rfl) rfl rfl rfl ?_
  refine Seq.val (Runs.assign rfl rfl) rfl rfl rfl ?_
  refine Seq.nil ?_
  refine Post.weak (F' := [(0, _), (2, _), (3, _), (4, _), (5, _), (6, _), (7, _), (8, _), (9, _), (18, _), (27, _), (34, _)]) ⟨rfl, rfl, rfl, rfl, rfl, rfl, rfl, rfl, rfl, rfl, rfl, rfl, trivial⟩ ?_
  refine Post.then_ ?_
  refine Cd.cond rfl (fun h => ?_) (fun h => ?_)
  · have h6 : s.length < 12 + n := by
      rw [ho5] at h
      by_cases h6 : 12 + n ≤ s.length
      · rw [if_pos h6] at h; cases h
      · omega
    rw [if_pos h6] at hO
    rw [hO]
    refine Cd.seq ?_
    refine Cd.region ?_
    refine Seq.val (Runs.assign rfl rfl) rfl rfl rfl ?_
    refine Seq.val (Runs.assign rfl rfl) rfl rfl rfl ?_
    refine Seq.val (Runs.assign rfl rfl) rfl rfl rfl ?_
    refine Seq.nil ?_
    refine Post.weak (F' := [(0, _), (2, _), (3, _), (4, _), (5, _), (6, _), (7, _), (8, _), (9, _), (18, _), (27, _), (34, _)]) ⟨rfl, rfl, rfl, rfl, rfl, rfl, rfl, rfl, rfl, rfl, rfl, rfl, trivial⟩ ?_
    refine Post.then_ ?_
    refine Cd.ret ?_
    refine Post.block_ret ?_
    refine Post.then_ret ?_
    refine Post.end3 rfl rfl rfl rfl (.inl rfl) ?_
    exact ⟨rfl, hwhole _ kf⟩
  have h6 : 12 + n ≤ s.length := by
    rw [ho5] at h
    by_cases h6 : 12 + n ≤ s.length
    · exact h6
    · rw [if_neg h6] at h; cases h
  have hn8 : n ≤ (s.drop 8).length := by rw [List.length_drop]; omega
  have hv4 := raw_val 4 ((s.drop 8).drop n)
  rw [e4, if_pos (by rw [List.length_drop, List.length_drop]; omega)] at hv4
  have hdd : (s.drop 8).drop n = s.drop (8 + n) := List.drop_drop
  rw [if_neg (by omega)] at hO
  rw [if_pos hn8, if_pos hn8, hv4, hdd]
  have nb : Nib _ := hN.step (hwhole _ kf)
  have hD : Byt ((s.drop 8).take n) := (hs.drop 8).take n
  have hDl : ((s.drop 8).take n).length = n := by rw [List.length_take]; omega
  refine Cd.seq ?_
  refine Cd.region ?_
  refine Seq.val (Runs.move rfl rfl) rfl rfl rfl ?_
  refine Seq.call (Enters.func rfl rfl rfl (run_enter Tryz.func65 (by kernel_rfl) rfl)) rfl rfl rfl (laid_c_any ((s.drop 8).take n) _ nb hD (by omega)) ?_
  rintro e w8 ⟨rfl, hb8⟩
  refine ⟨_, rfl, ?_⟩
  replace kf := kf.step hb8
  replace rd := rd.step hb8
  refine Seq.val (Runs.move rfl rfl) rfl rfl rfl ?_
  refine Seq.val (Runs.neqL rfl rfl rfl (laidC_lt _) ((hs.drop _).take 4)) rfl rfl rfl ?_
  refine Seq.val (Runs.assign rfl rfl) rfl rfl rfl ?_
  refine Seq.nil ?_
  refine Post.weak (F' := [(0, _), (2, _), (3, _), (4, _), (5, _), (6, _), (7, _), (8, _), (9, _), (18, _), (27, _), (34, _), (38, _)]) ⟨rfl, rfl, rfl, rfl, rfl, rfl, rfl, rfl, rfl, rfl, rfl, rfl, rfl, trivial⟩ ?_
  refine Post.then_ ?_
  refine Cd.cond rfl (fun h => ?_) (fun h => ?_)
  · have h7 : laidC ((s.drop 8).take n) ≠ (s.drop (8 + n)).take 4 := by simpa using h
    rw [if_pos h7] at hO
    rw [hO]
    refine Cd.seq ?_
    refine Cd.region ?_
    refine Seq.val (Runs.assign rfl rfl) rfl rfl rfl ?_
    refine Seq.val (Runs.assign rfl rfl) rfl rfl rfl ?_
    refine Seq.val (Runs.assign rfl rfl) rfl rfl rfl ?_
    refine Seq.nil ?_
    refine Post.weak (F' := [(0, _), (2, _), (3, _), (4, _), (5, _), (6, _), (7, _), (8, _), (9, _), (18, _), (27, _), (34, _), (38, _)]) ⟨rfl, rfl, rfl, rfl, rfl, rfl, rfl, rfl, rfl, rfl, rfl, rfl, rfl, trivial⟩ ?_
    refine Post.then_ ?_
    refine Cd.ret ?_
    refine Post.block_ret ?_
    refine Post.then_ret ?_
    refine Post.end3 rfl rfl rfl rfl (.inl rfl) ?_
    exact ⟨rfl, hwhole _ kf⟩
  have h7 : ¬ (laidC ((s.drop 8).take n) ≠ (s.drop (8 + n)).take 4) := by simpa using h
  rw [if_neg h7] at hO
  rw [hO]
  refine Cd.skip ?_
  refine Post.block_normal ?_
  refine Post.then_ ?_
  refine Cd.seq ?_
  refine Cd.region ?_
  refine Seq.val (Runs.move rfl rfl) rfl rfl rfl ?_
  refine Seq.val (Runs.move rfl rfl) rfl rfl rfl ?_
  refine Seq.val (Runs.lenL rfl rfl Tryz.underlying9) rfl rfl rfl ?_
  refine Seq.val (Runs.addI rfl rfl rfl (by omega) (by omega)) rfl rfl rfl ?_
  refine Seq.val (Runs.addI rfl rfl rfl (by omega) (by omega)) rfl rfl rfl ?_
  refine Seq.val (Runs.assign rfl rfl) rfl rfl rfl ?_
  refine Seq.val (Runs.assign rfl rfl) rfl rfl rfl ?_
  refine Seq.val (Runs.assign rfl rfl) rfl rfl rfl ?_
  refine Seq.nil ?_
  refine Post.weak (F' := [(0, _), (2, _), (3, _), (4, _), (5, _), (6, _), (7, _), (8, _), (9, _), (18, _), (27, _), (34, _), (38, _)]) ⟨rfl, rfl, rfl, rfl, rfl, rfl, rfl, rfl, rfl, rfl, rfl, rfl, rfl, trivial⟩ ?_
  refine Post.then_ ?_
  refine Cd.ret ?_
  refine Post.end3 rfl rfl rfl rfl (.inl rfl) ?_
  refine ⟨?_, hwhole _ kf⟩
  rw [hDl]
  have e12 : (8 : Int) + (n : Int) + 4 = ((12 + n : Nat) : Int) := by omega
  rw [← e12]
  rfl
end Go.Proofs.YtnlepoplncjliaaGreatDoor

namespace Go.Proofs.YtnlepoplncjliaaGreatDoor
open Go.RowKit

def allGo : Nat → List Nat → List (List Nat) × Nat × Nat
  | 0, _ => ([], 0, 0)
  | f + 1, s => if s = [] then ([], 0, 0) else if (openN s).2.2 ≠ 0 then ([], 0, (openN s).2.2) else ((openN s).1 :: (allGo f (s.drop (openN s).2.1)).1, (openN s).2.1 + (allGo f (s.drop (openN s).2.1)).2.1, (allGo f (s.drop (openN s).2.1)).2.2)
/-- All that is framed, one behind the other; where it ends; why. -/
def allN (s : List Nat) : List (List Nat) × Nat × Nat := allGo s.length s
theorem openN_whole {s : List Nat} (h : (openN s).2.2 = 0) : 12 ≤ (openN s).2.1 ∧ (openN s).2.1 ≤ s.length ∧ (openN s).1.length + 12 = (openN s).2.1 := by
  unfold openN at h ⊢
  split at h
  · cases h
  rename_i h1
  rw [if_neg h1]
  split at h
  · cases h
  rename_i h2
  rw [if_neg h2]
  split at h
  · cases h
  rename_i h3
  rw [if_neg h3]
  split at h
  · cases h
  rename_i h4
  rw [if_neg h4]
  simp only [List.length_take, List.length_drop]
  omega
theorem allGo_len : ∀ (f : Nat) (s : List Nat), (allGo f s).2.1 ≤ s.length ∧ 12 * (allGo f s).1.length ≤ (allGo f s).2.1
  | 0, s => ⟨Nat.zero_le _, Nat.le_refl _⟩
  | f + 1, s => by
    unfold allGo
    split
    · exact ⟨Nat.zero_le _, Nat.le_refl _⟩
    split
    · exact ⟨Nat.zero_le _, Nat.le_refl _⟩
    rename_i h
    have hw := openN_whole (s := s) (by simpa using h)
    have ih := allGo_len f (s.drop (openN s).2.1)
    rw [List.length_drop] at ih
    simp only [List.length_cons]
    omega
set_option maxHeartbeats 2000000 in
theorem all_any (s : List Nat) (w : World) (hN : Nib w) (hs : Byt s) (hl : s.length ≤ 10000000) : Calls Tryz.prog 60 #[.string (strOf s)] w fun e w' => ∃ v, e = .returned (.tuple #[v, .int .i64 ((allN s).2.1 : Int), .int .i64 ((allN s).2.2 : Int)]) ∧ Own w' w.heap.size 9 1 v (allN s).1.length (Ts (allN s).1) ∧ Grow w w' := by
  have bel := Below.refl w.heap.size w
  have own := Own.nil w w.heap.size 9 1
  refine Calls.start 36 Tryz.func60 rfl rfl rfl ?_
  refine Cd.seq ?_
  refine Cd.region ?_
  refine Seq.val (Runs.assign rfl rfl) rfl rfl rfl ?_
  refine Seq.val (Runs.assign rfl rfl) rfl rfl rfl ?_
  refine Seq.val (Runs.assign rfl rfl) rfl rfl rfl ?_
  refine Seq.nil ?_
  refine Post.weak (F' := [(0, _), (2, _), (3, _), (4, _)]) ⟨rfl, rfl, rfl, rfl, trivial⟩ ?_
  refine Post.then_ ?_
  refine Cd.seq ?_
  refine Cd.region ?_
  refine Seq.val (Runs.assign rfl rfl) rfl rfl rfl ?_
  refine Seq.nil ?_
  refine Post.weak (F' := [(0, _), (2, _), (3, _), (4, _), (5, _)]) ⟨rfl, rfl, rfl, rfl, rfl, trivial⟩ ?_
  refine Post.then_ ?_
  refine Cd.seq ?_
  refine Cd.region ?_
  refine Seq.val (Runs.assign rfl rfl) rfl rfl rfl ?_
  refine Seq.nil ?_
  refine Post.weak (F' := [(0, _), (2, _), (3, _), (4, _), (5, _), (6, _)]) ⟨rfl, rfl, rfl, rfl, rfl, rfl, trivial⟩ ?_
  refine Post.then_ ?_
  refine Cd.seq ?_
  refine Cd.block ?_
  refine Cd.loop (σ := List (List Nat) × Nat × Nat × Value) (fun q => [(0, .string (strOf s)), (5, q.2.2.2), (6, .int .i64 (q.2.1 : Int))]) (fun q wr => q.2.1 ≤ s.length ∧ s.length - q.2.1 ≤ q.2.2.1 ∧ 12 * q.1.length ≤ q.2.1 ∧ allN s = (q.1 ++ (allGo q.2.2.1 (s.drop q.2.1)).1, q.2.1 + (allGo q.2.2.1 (s.drop q.2.1)).2.1, (allGo q.2.2.1 (s.drop q.2.1)).2.2) ∧ Below w.heap.size w wr ∧ Own wr w.heap.size 9 1 q.2.2.2 q.1.length (Ts q.1)) (fun q => q.2.2.1) ([], 0, s.length, .slice none 0 0) ⟨Nat.zero_le _, by simp, Nat.le_refl _, by simp [allN], bel, own⟩ ⟨rfl, rfl, rfl, trivial⟩ ?_
  clear bel own
  rintro ⟨l, at_, f, v⟩ wr ⟨hat, hf, hlen, hall, bel, own⟩
  simp only at hat hf hlen hall own
  obtain ⟨A, c, rfl, -⟩ := own.reads
  show Cd _ _ _ _ [(0, .string (strOf s)), (5, .slice A l.length c), (6, .int .i64 (at_ : Int))] _
  refine Cd.seq ?_
  refine Cd.seq ?_
  refine Cd.region ?_
  refine Seq.val (Runs.move rfl rfl) rfl rfl rfl ?_
  refine Seq.val (Runs.move rfl rfl) rfl rfl rfl ?_
  refine Seq.val (Runs.lenL rfl rfl Tryz.underlying9) rfl rfl rfl ?_
  refine Seq.val (Runs.lss rfl rfl rfl) rfl rfl rfl ?_
  refine Seq.nil ?_
  refine Post.weak (F' := [(0, _), (5, _), (6, _), (13, _)]) ⟨rfl, rfl, rfl, rfl, trivial⟩ ?_
  refine Post.then_ ?_
  refine Cd.condD rfl (fun hc => ?_) (fun hc => ?_)
  · obtain ⟨f, rfl⟩ : ∃ k, f = k + 1 := ⟨f - 1, by omega⟩
    obtain ⟨S, hS⟩ : ∃ S, S = s.drop at_ := ⟨_, rfl⟩
    have hSl : S.length = s.length - at_ := by rw [hS, List.length_drop]
    have hSne : S ≠ [] := fun e => by rw [e] at hSl; simp at hSl; omega
    have hSb : Byt S := by rw [hS]; exact hs.drop _
    rw [← hS] at hall
    have hgo : allGo (f + 1) S = if (openN S).2.2 ≠ 0 then ([], 0, (openN S).2.2) else ((openN S).1 :: (allGo f (S.drop (openN S).2.1)).1, (openN S).2.1 + (allGo f (S.drop (openN S).2.1)).2.1, (allGo f (S.drop (openN S).2.1)).2.2) := by rw [allGo, if_neg hSne]
    have nb : Nib wr := hN.step bel
    refine Cd.skip ?_
    refine Post.then_ ?_
    refine Cd.block ?_
    refine Cd.seq ?_
    refine Cd.region ?_
    refine Seq.val (Runs.move rfl rfl) rfl rfl rfl ?_
    refine Seq.val (Runs.move rfl rfl) rfl rfl rfl ?_
    refine Seq.val (Runs.sliceFrom rfl rfl rfl Tryz.underlying9 (j := at_) rfl (by omega)) rfl rfl rfl ?_
    rw [← hS]
    refine Seq.call (Enters.func rfl rfl rfl (run_enter Tryz.func83 (by kernel_rfl) rfl)) rfl rfl rfl (open_c_any S _ nb hSb (by omega)) ?_
    rintro e w5 ⟨rfl, hb5⟩
    refine ⟨_, rfl, ?_⟩
    replace bel := bel.step hb5
    replace own := own.step hb5
    refine Seq.val (Runs.move rfl rfl) rfl rfl rfl ?_
    refine Seq.val (Runs.extract rfl rfl rfl) rfl rfl rfl ?_
    refine Seq.val (Runs.extract rfl rfl rfl) rfl rfl rfl ?_
    refine Seq.val (Runs.extract rfl rfl rfl) rfl rfl rfl ?_
    refine Seq.val (Runs.assign rfl rfl) rfl rfl rfl ?_
    refine Seq.val (Runs.assign rfl rfl) rfl rfl rfl ?_
    refine Seq.val (Runs.assign rfl rfl) rfl rfl rfl ?_
    refine Seq.nil ?_
    refine Post.weak (F' := [(0, _), (5, _), (6, _), (7, _), (8, _), (9, _), (13, _)]) ⟨rfl, rfl, rfl, rfl, rfl, rfl, rfl, trivial⟩ ?_
    refine Post.then_ ?_
    refine Cd.seq ?_
    refine Cd.seq ?_
    refine Cd.region ?_
    refine Seq.val (Runs.move rfl rfl) rfl rfl rfl ?_
    refine Seq.val (Runs.neqI rfl rfl rfl) rfl rfl rfl ?_
    refine Seq.nil ?_
    refine Post.weak (F' := [(0, _), (5, _), (6, _), (7, _), (8, _), (9, _), (13, _), (23, _)]) ⟨rfl, rfl, rfl, rfl, rfl, rfl, rfl, rfl, trivial⟩ ?_
    refine Post.then_ ?_
    refine Cd.cond rfl (fun h => ?_) (fun h => ?_)
    · have h : (openN S).2.2 ≠ 0 := by
        have : ((openN S).2.2 : Int) ≠ 0 := by simpa using h
        omega
      rw [if_pos h] at hgo
      rw [hgo] at hall
      simp only [List.append_nil, Nat.add_zero] at hall
      rw [hall]
      refine Cd.seq ?_
      refine Cd.region ?_
      refine Seq.val (Runs.move rfl rfl) rfl rfl rfl ?_
      refine Seq.val (Runs.move rfl rfl) rfl rfl rfl ?_
      refine Seq.val (Runs.move rfl rfl) rfl rfl rfl ?_
      refine Seq.val (Runs.assign rfl rfl) rfl rfl rfl ?_
      refine Seq.val (Runs.assign rfl rfl) rfl rfl rfl ?_
      refine Seq.val (Runs.assign rfl rfl) rfl rfl rfl ?_
      refine Seq.nil ?_
      refine Post.weak (F' := [(0, _), (2, _), (3, _), (4, _), (5, _), (6, _), (7, _), (8, _), (9, _), (13, _), (23, _)]) ⟨rfl, rfl, rfl, rfl, rfl, rfl, rfl, rfl, rfl, rfl, rfl, trivial⟩ ?_
      refine Post.then_ ?_
      refine Cd.ret ?_
      refine Post.then_ret ?_
      refine Post.block_ret ?_
      refine Post.round_ret ?_
      refine Post.block_ret ?_
      refine Post.then_ret ?_
      refine Post.end3 rfl rfl rfl rfl (.inl rfl) ?_
      exact ⟨_, rfl, own, bel⟩
    have h : (openN S).2.2 = 0 := by
      have : ((openN S).2.2 : Int) = 0 := by simpa using h
      omega
    rw [if_neg (by omega)] at hgo
    have hw := openN_whole h
    rw [hgo] at hall
    refine Cd.skip ?_
    refine Post.then_ ?_
    refine Cd.seq ?_
    refine Cd.region ?_
    refine Seq.val (Runs.move rfl rfl) rfl rfl rfl ?_
    refine Seq.val (Runs.move rfl rfl) rfl rfl rfl ?_
    refine Seq.slice (vs := [_]) (s := 1) rfl rfl rfl Tryz.underlying22 (by kernel_rfl) (zero_string) (by omega) (by omega) ⟨rfl, trivial⟩ rfl rfl rfl ?_
    intro g29 w1 n29
    have e29 := Nat.le_trans bel.size n29.ge
    replace bel := bel.step n29.below
    replace own := own.step n29.below
    have k29 := n29.blk
    have hrx := Reads.blk (size := 1) k29 1 rfl
    refine Seq.append rfl rfl rfl Tryz.underlying22 (by kernel_rfl) zero_string rfl (by decide) (b := 16) (by kernel_rfl) own hrx (ones_Ts [(openN S).1]) bel.size (by simp only [maxLen]; omega) (by omega) rfl rfl rfl ?_
    intro v2 wb own2 ha
    have bel2 := bel.trans ha.below
    replace own2 : Own wb w.heap.size 9 1 v2 (l.length + 1) (Ts l ++ Ts [(openN S).1]) := own2
    rw [← Ts_append] at own2
    clear bel own k29 hrx ha
    have bel := bel2
    have own := own2
    clear bel2 own2
    refine Seq.val (Runs.assign rfl rfl) rfl rfl rfl ?_
    refine Seq.nil ?_
    refine Post.weak (F' := [(0, _), (5, _), (6, _), (7, _), (8, _), (9, _), (13, _), (23, _)]) ⟨rfl, rfl, rfl, rfl, rfl, rfl, rfl, rfl, trivial⟩ ?_
    refine Post.then_ ?_
    refine Cd.region ?_
    refine Seq.val (Runs.move rfl rfl) rfl rfl rfl ?_
    refine Seq.val (Runs.move rfl rfl) rfl rfl rfl ?_
    refine Seq.val (Runs.addI rfl rfl rfl (by omega) (by omega)) rfl rfl rfl ?_
    refine Seq.val (Runs.assign rfl rfl) rfl rfl rfl ?_
    refine Seq.nil ?_
    refine Post.weak (F' := [(0, _), (5, _), (6, _), (7, _), (8, _), (9, _), (13, _), (23, _)]) ⟨rfl, rfl, rfl, rfl, rfl, rfl, rfl, rfl, trivial⟩ ?_
    refine Post.block_normal ?_
    refine Post.round (l ++ [(openN S).1], at_ + (openN S).2.1, f, v2) ⟨rfl, rfl, rfl, trivial⟩ ⟨by simp only; omega, by simp only; omega, by simp only [List.length_append, List.length_singleton]; omega, ?_, bel, by simpa using own⟩ (by simp)
    rw [hall, hS, List.drop_drop]
    simp [Nat.add_assoc]
  · obtain rfl : at_ = s.length := by omega
    have hnil : s.drop s.length = [] := List.drop_length
    rw [hnil] at hall
    have hgo : allGo f [] = ([], 0, 0) := by cases f <;> simp [allGo]
    rw [hgo] at hall
    simp only [List.append_nil, Nat.add_zero] at hall
    rw [hall]
    refine Cd.exit ?_
    refine Post.then_exit ?_
    refine Post.round_exit ?_
    refine Post.block_exit ?_
    refine Post.then_ ?_
    refine Cd.seq ?_
    refine Cd.region ?_
    refine Seq.val (Runs.move rfl rfl) rfl rfl rfl ?_
    refine Seq.val (Runs.move rfl rfl) rfl rfl rfl ?_
    refine Seq.val (Runs.assign rfl rfl) rfl rfl rfl ?_
    refine Seq.val (Runs.assign rfl rfl) rfl rfl rfl ?_
    refine Seq.val (Runs.assign rfl rfl) rfl rfl rfl ?_
    refine Seq.nil ?_
    refine Post.weak (F' := [(0, _), (2, _), (3, _), (4, _), (5, _), (6, _), (13, _)]) ⟨rfl, rfl, rfl, rfl, rfl, rfl, rfl, trivial⟩ ?_
    refine Post.then_ ?_
    refine Cd.ret ?_
    refine Post.end3 rfl rfl rfl rfl (.inl rfl) ?_
    exact ⟨_, rfl, own, bel⟩
end Go.Proofs.YtnlepoplncjliaaGreatDoor

namespace Go.Proofs.YtnlepoplncjliaaGreatDoor
open Go.RowKit

/-- A mark of a count. -/
def markN (n : Nat) : List Nat := beB 8 n ++ laidC (beB 8 n)
theorem markN_len (n : Nat) : (markN n).length = 12 := by unfold markN; rw [List.length_append, beB_len, laidC_len]
theorem markN_lt (n : Nat) : Byt (markN n) := Byt.app (beB_lt 8 _) (laidC_lt _)
theorem marked_any (n : Nat) (w : World) (hN : Nib w) (hn : n ≤ 9223372036854775807) : Calls Tryz.prog 86 #[.int .i64 (n : Int)] w fun e w' => e = .returned (.string (strOf (markN n))) ∧ Grow w w' := by
  have bel := Below.refl w.heap.size w
  have nb := hN
  refine Calls.start 16 Tryz.func86 rfl rfl rfl ?_
  refine Cd.seq ?_
  refine Cd.region ?_
  refine Seq.val (Runs.assign rfl rfl) rfl rfl rfl ?_
  refine Seq.nil ?_
  refine Post.weak (F' := [(0, _), (2, _)]) ⟨rfl, rfl, trivial⟩ ?_
  refine Post.then_ ?_
  refine Cd.seq ?_
  refine Cd.region ?_
  refine Seq.val (Runs.build rfl rfl (run_build_Wr0 _)) rfl rfl rfl ?_
  refine Seq.box rfl rfl rfl rfl rfl ?_
  intro g5 w1 n5
  have e5 := Nat.le_trans bel.size n5.ge
  replace bel := bel.step n5.below
  replace nb := nb.step n5.below
  have k5 := n5.blk
  refine Seq.val (Runs.assign rfl rfl) rfl rfl rfl ?_
  refine Seq.nil ?_
  refine Post.weak (F' := [(0, _), (2, _), (3, _)]) ⟨rfl, rfl, rfl, trivial⟩ ?_
  refine Post.then_ ?_
  refine Cd.seq ?_
  refine Cd.region ?_
  refine Seq.val (Runs.move rfl rfl) rfl rfl rfl ?_
  refine Seq.val (Runs.move rfl rfl) rfl rfl rfl ?_
  have wr : Wr w1 g5 g5 [] := ⟨Nat.le_refl _, fun d hd => (by cases hd), _, k5, Own.nil _ _ _ _⟩
  have wf := Wf.refl g5 w1
  have hg5 : g5 ≤ w1.heap.size := Nat.le_of_lt n5.lt
  have h3 : 3 < g5 := by have := hN.lt; omega
  refine Seq.val (Runs.convU (r := n) rfl rfl Tryz.underlying3 Tryz.underlying97 (by omega)) rfl rfl rfl ?_
  refine Seq.call (Enters.func rfl rfl rfl (run_enter Tryz.func125 (by kernel_rfl) rfl)) rfl rfl rfl (fixed8_any g5 g5 n [] _ wr (by omega) (by simp)) ?_
  clear wr
  rintro e w2 ⟨rfl, fw2, wr⟩
  refine ⟨_, rfl, ?_⟩
  replace nb := nb.wf fw2
  replace wf := wf.wf fw2
  refine Seq.nil ?_
  refine Post.weak (F' := [(0, _), (2, _), (3, _)]) ⟨rfl, rfl, rfl, trivial⟩ ?_
  refine Post.then_ ?_
  refine Cd.seq ?_
  refine Cd.region ?_
  refine Seq.val (Runs.move rfl rfl) rfl rfl rfl ?_
  refine Seq.val (Runs.move rfl rfl) rfl rfl rfl ?_
  rw [List.nil_append] at wr
  refine Seq.call (Enters.func rfl rfl rfl (run_enter Tryz.func66 (by kernel_rfl) rfl)) rfl rfl rfl (wbytes_any g5 g5 _ _ wr) ?_
  rintro e w7 ⟨rfl, hb7⟩
  refine ⟨_, rfl, ?_⟩
  replace nb := nb.step hb7
  replace wf := wf.step hb7
  replace wr := wr.step hb7
  refine Seq.call (Enters.func rfl rfl rfl (run_enter Tryz.func65 (by kernel_rfl) rfl)) rfl rfl rfl (laid_c_any _ _ nb (beB_lt 8 _) (by rw [beB_len]; omega)) ?_
  rintro e w8 ⟨rfl, hb8⟩
  refine ⟨_, rfl, ?_⟩
  replace nb := nb.step hb8
  replace wf := wf.step hb8
  replace wr := wr.step hb8
  refine Seq.call (Enters.func rfl rfl rfl (run_enter Tryz.func64 (by kernel_rfl) rfl)) rfl rfl rfl (raw_any g5 g5 (laidC (beB 8 n)) _ _ wr (laidC_lt _) (by rw [beB_len, laidC_len]; omega)) ?_
  clear wr
  rintro e w3 ⟨rfl, fw3, wr⟩
  refine ⟨_, rfl, ?_⟩
  replace nb := nb.wf fw3
  replace wf := wf.wf fw3
  refine Seq.call (Enters.func rfl rfl rfl (run_enter Tryz.func66 (by kernel_rfl) rfl)) rfl rfl rfl (wbytes_any g5 g5 _ _ wr) ?_
  rintro e w10 ⟨rfl, hb10⟩
  refine ⟨_, rfl, ?_⟩
  replace nb := nb.step hb10
  replace wf := wf.step hb10
  replace wr := wr.step hb10
  refine Seq.val (Runs.assign rfl rfl) rfl rfl rfl ?_
  refine Seq.nil ?_
  refine Post.weak (F' := [(0, _), (2, _), (3, _)]) ⟨rfl, rfl, rfl, trivial⟩ ?_
  refine Post.then_ ?_
  refine Cd.ret ?_
  refine Post.end1 rfl rfl (.inl rfl) ?_
  exact ⟨rfl, bel.trans ((wf.to hg5).mono e5)⟩
/-- One mark more. -/
def cntStep (a : Nat × Bool) (x : List Nat) : Nat × Bool :=
  if 4295098368 < valB (x.take 8) ∨ x ≠ markN (valB (x.take 8)) then a
  else if 4294967296 ≤ valB (x.take 8) then (if valB (x.take 8) - 4294967296 ≤ 131072 then max a.1 (valB (x.take 8) - 4294967296) else a.1, true)
  else (if valB (x.take 8) ≤ 131072 then max a.1 (valB (x.take 8)) else a.1, a.2)
def cntGo : Nat → Nat × Bool → List Nat → Nat × Bool
  | 0, a, _ => a
  | f + 1, a, s => if 12 ≤ s.length then cntGo f (cntStep a (s.take 12)) (s.drop 12) else a
/-- The greatest count of marks, and whether one seals. -/
def countN (s : List Nat) : Nat × Bool := cntGo s.length (0, false) s
theorem cntStep_le {a : Nat × Bool} {x : List Nat} (h : a.1 ≤ 131072) : (cntStep a x).1 ≤ 131072 := by
  unfold cntStep
  split
  · exact h
  split
  · simp only
    split <;> omega
  · simp only
    split <;> omega
set_option maxHeartbeats 4000000 in
theorem counted_any (s : List Nat) (w : World) (hN : Nib w) (hs : Byt s) (hl : s.length ≤ 10000000) : Calls Tryz.prog 61 #[.string (strOf s)] w fun e w' => e = .returned (.tuple #[.int .i64 ((countN s).1 : Int), .bool (countN s).2]) ∧ Grow w w' := by
  have bel := Below.refl w.heap.size w
  refine Calls.start 45 Tryz.func61 rfl rfl rfl ?_
  refine Cd.seq ?_
  refine Cd.region ?_
  refine Seq.val (Runs.assign rfl rfl) rfl rfl rfl ?_
  refine Seq.val (Runs.assign rfl rfl) rfl rfl rfl ?_
  refine Seq.nil ?_
  refine Post.weak (F' := [(0, _), (2, _), (3, _)]) ⟨rfl, rfl, rfl, trivial⟩ ?_
  refine Post.then_ ?_
  refine Cd.seq ?_
  refine Cd.region ?_
  refine Seq.val (Runs.assign rfl rfl) rfl rfl rfl ?_
  refine Seq.val (Runs.assign rfl rfl) rfl rfl rfl ?_
  refine Seq.nil ?_
  refine Post.weak (F' := [(0, _), (2, _), (3, _), (4, _), (5, _)]) ⟨rfl, rfl, rfl, rfl, rfl, trivial⟩ ?_
  refine Post.then_ ?_
  refine Cd.seq ?_
  refine Cd.seq ?_
  refine Cd.region ?_
  refine Seq.val (Runs.assign rfl rfl) rfl rfl rfl ?_
  refine Seq.nil ?_
  refine Post.weak (F' := [(0, _), (2, _), (3, _), (4, _), (5, _), (6, _)]) ⟨rfl, rfl, rfl, rfl, rfl, rfl, trivial⟩ ?_
  refine Post.then_ ?_
  refine Cd.block ?_
  refine Cd.loop (σ := (Nat × Bool) × Nat × Nat) (fun q => [(0, .string (strOf s)), (4, .int .i64 (q.1.1 : Int)), (5, .bool q.1.2), (6, .int .i64 (q.2.1 : Int))]) (fun q wr => q.2.1 ≤ s.length ∧ s.length - q.2.1 ≤ q.2.2 ∧ q.1.1 ≤ 131072 ∧ countN s = cntGo q.2.2 q.1 (s.drop q.2.1) ∧ Below w.heap.size w wr) (fun q => q.2.2) ((0, false), 0, s.length) ⟨Nat.zero_le _, by simp, by simp, rfl, bel⟩ ⟨rfl, rfl, rfl, rfl, trivial⟩ ?_
  clear bel
  rintro ⟨⟨m, b⟩, at_, f⟩ wr ⟨hat, hf, hm, hall, bel⟩
  simp only at hat hf hm hall
  show Cd _ _ _ _ [(0, .string (strOf s)), (4, .int .i64 (m : Int)), (5, .bool b), (6, .int .i64 (at_ : Int))] _
  refine Cd.seq ?_
  refine Cd.seq ?_
  refine Cd.region ?_
  refine Seq.val (Runs.move rfl rfl) rfl rfl rfl ?_
  refine Seq.val (Runs.addI rfl rfl rfl (by omega) (by omega)) rfl rfl rfl ?_
  refine Seq.val (Runs.move rfl rfl) rfl rfl rfl ?_
  refine Seq.val (Runs.lenL rfl rfl Tryz.underlying9) rfl rfl rfl ?_
  refine Seq.val (Runs.leq rfl rfl rfl) rfl rfl rfl ?_
  refine Seq.nil ?_
  refine Post.weak (F' := [(0, _), (4, _), (5, _), (6, _), (12, _)]) ⟨rfl, rfl, rfl, rfl, rfl, trivial⟩ ?_
  refine Post.then_ ?_
  refine Cd.condD rfl (fun hc => ?_) (fun hc => ?_)
  · obtain ⟨f, rfl⟩ : ∃ k, f = k + 1 := ⟨f - 1, by omega⟩
    obtain ⟨S, hS⟩ : ∃ S, S = s.drop at_ := ⟨_, rfl⟩
    have hSl : S.length = s.length - at_ := by rw [hS, List.length_drop]
    have hSb : Byt S := by rw [hS]; exact hs.drop _
    rw [← hS] at hall
    have hgo : cntGo (f + 1) (m, b) S = cntGo f (cntStep (m, b) (S.take 12)) (s.drop (at_ + 12)) := by rw [cntGo, if_pos (by omega), hS, List.drop_drop]
    rw [hgo] at hall
    have hX8 : (S.take 12).take 8 = S.take 8 := by rw [List.take_take]; rfl
    obtain ⟨n, hn⟩ : ∃ n, n = valB (S.take 8) := ⟨_, rfl⟩
    have hst : cntStep (m, b) (S.take 12) = if 4295098368 < n ∨ S.take 12 ≠ markN n then (m, b) else if 4294967296 ≤ n then (if n - 4294967296 ≤ 131072 then max m (n - 4294967296) else m, true) else (if n ≤ 131072 then max m n else m, b) := by unfold cntStep; rw [hX8, ← hn]
    have hn64 : n < 18446744073709551616 := by
      have h1 := valB_lt (hSb.take 8)
      rw [List.length_take, Nat.min_eq_left (by omega), show (256 : Nat) ^ 8 = 18446744073709551616 by decide] at h1
      omega
    have nb : Nib wr := hN.step bel
    have hle := cntStep_le (a := (m, b)) (x := S.take 12) hm
    have hrv := raw_val 8 S
    rw [show ((8 : Nat) : Int) = 8 from rfl, if_pos (by omega)] at hrv
    have hw0 := bel.size
    refine Cd.skip ?_
    refine Post.then_ ?_
    refine Cd.seq ?_
    refine Cd.block ?_
    refine Cd.seq ?_
    refine Cd.region ?_
    refine Seq.val (Runs.move rfl rfl) rfl rfl rfl ?_
    refine Seq.val (Runs.move rfl rfl) rfl rfl rfl ?_
    refine Seq.val (Runs.sliceFrom rfl rfl rfl Tryz.underlying9 (j := at_) rfl (by omega)) rfl rfl rfl ?_
    rw [← hS]
    refine Seq.call (Enters.func rfl rfl rfl (run_enter Tryz.func84 (by kernel_rfl) rfl)) rfl rfl rfl (read_any S _ hSb) ?_
    rintro e w1 ⟨g18, rfl, hb1, hg18, rd⟩
    refine ⟨_, rfl, ?_⟩
    replace bel := bel.step hb1
    have kf := Kf.refl g18 w1
    have hlt18 := rd.lt
    have bel1 := bel
    clear bel
    refine Seq.call (Enters.func rfl rfl rfl (run_enter Tryz.func85 (by kernel_rfl) rfl)) rfl rfl rfl (rfixed8_any g18 _ _ rd) ?_
    rintro e w1 ⟨⟨rfl, fWW, rd⟩, fw1, rd'⟩
    refine ⟨_, rfl, ?_⟩
    replace kf := kf.kf fw1 rd
    replace rd := rd'
    clear rd'
    rw [hrv, ← hn]
    have bel : Below w.heap.size w _ := bel1.trans (kf.to (Nat.le_trans hw0 hg18) hlt18)
    clear kf rd
    refine Seq.val (Runs.assign rfl rfl) rfl rfl rfl ?_
    refine Seq.nil ?_
    refine Post.weak (F' := [(0, _), (4, _), (5, _), (6, _), (7, _), (12, _)]) ⟨rfl, rfl, rfl, rfl, rfl, rfl, trivial⟩ ?_
    refine Post.then_ ?_
    refine Cd.seq ?_
    refine Cd.seq ?_
    have hsl : (s.take (at_ + 12)).drop at_ = S.take 12 := by rw [hS, List.drop_take]; congr 1; omega
    have hdone : ∀ acc : Nat × Bool, acc.1 ≤ 131072 → cntStep (m, b) (S.take 12) = acc → countN s = cntGo f acc (s.drop (at_ + 12)) := fun acc _ e => by rw [hall, e]
    by_cases hgt : 4295098368 < n
    · rw [if_pos (.inl hgt)] at hst
      refine Cd.draw 13 (by kernel_rfl) [] (.inl rfl) rfl Grow Grow.refl (fun _ _ _ => Grow.trans) ?_
      intro w2 hw2 zw2
      replace bel := bel.step hw2
      have zbel := bel.size
      refine Dr.val Grow.refl rfl (fun w hG => Runs.move rfl rfl) rfl ?_
      refine Dr.val Grow.refl rfl (fun w hG => (Runs.gtr rfl rfl rfl).isT (by omega)) rfl ?_
      refine Dr.val Grow.refl rfl (fun w hG => Runs.move rfl rfl) rfl ?_
      refine Dr.skip rfl rfl rfl rfl rfl ?_
      refine Dr.skip rfl rfl rfl rfl rfl ?_
      refine Dr.skip rfl rfl rfl rfl rfl ?_
      refine Dr.skip rfl rfl rfl rfl rfl ?_
      refine Dr.skip rfl rfl rfl rfl rfl ?_
      refine Dr.skip rfl rfl rfl rfl rfl ?_
      refine Dr.skip rfl rfl rfl rfl rfl ?_
      refine Dr.skip rfl rfl rfl rfl rfl ?_
      refine Dr.skip rfl rfl rfl rfl rfl ?_
      refine Dr.val Grow.refl rfl (fun w hG => Runs.pickT rfl rfl rfl) rfl ?_
      refine Dr.nil ?_
      refine FinX.done (F' := [(0, _), (4, _), (5, _), (6, _), (7, _), (12, _), (32, _)]) rfl ⟨rfl, rfl, rfl, rfl, rfl, rfl, rfl, trivial⟩ ?_
      intro w3 hw3 fw3
      replace bel := bel.step hw3
      refine Seq.nil ?_
      refine Post.weak (F' := [(0, _), (4, _), (5, _), (6, _), (7, _), (12, _), (32, _)]) ⟨rfl, rfl, rfl, rfl, rfl, rfl, rfl, trivial⟩ ?_
      refine Post.then_ ?_
      refine Cd.condT rfl rfl ?_
      refine Cd.exit ?_
      refine Post.then_exit ?_
      refine Post.block_exit ?_
      refine Post.then_ ?_
      refine Cd.region ?_
      refine Seq.val (Runs.move rfl rfl) rfl rfl rfl ?_
      refine Seq.val (Runs.addI rfl rfl rfl (by omega) (by omega)) rfl rfl rfl ?_
      refine Seq.val (Runs.assign rfl rfl) rfl rfl rfl ?_
      refine Seq.nil ?_
      refine Post.weak (F' := [(0, _), (4, _), (5, _), (6, _), (7, _), (12, _), (32, _)]) ⟨rfl, rfl, rfl, rfl, rfl, rfl, rfl, trivial⟩ ?_
      exact Post.round ((m, b), at_ + 12, f) ⟨rfl, rfl, rfl, rfl, trivial⟩ ⟨by simp only; omega, by simp only; omega, hm, hdone _ hm hst, bel⟩ (by simp)
    by_cases hne : S.take 12 ≠ markN n
    · rw [if_pos (.inr hne)] at hst
      refine Cd.draw 13 (by kernel_rfl) [] (.inl rfl) rfl Grow Grow.refl (fun _ _ _ => Grow.trans) ?_
      intro w2 hw2 zw2
      replace bel := bel.step hw2
      have zbel := bel.size
      refine Dr.val Grow.refl rfl (fun w hG => Runs.move rfl rfl) rfl ?_
      refine Dr.val Grow.refl rfl (fun w hG => (Runs.gtr rfl rfl rfl).isF (by omega)) rfl ?_
      refine Dr.val Grow.refl rfl (fun w hG => Runs.move rfl rfl) rfl ?_
      refine Dr.valG Grow.refl rfl (fun w hG => Runs.move rfl rfl) rfl rfl rfl ?_
      refine Dr.valG Grow.refl rfl (fun w hG => Runs.move rfl rfl) rfl rfl rfl ?_
      refine Dr.valG Grow.refl rfl (fun w hG => Runs.move rfl rfl) rfl rfl rfl ?_
      refine Dr.valG Grow.refl rfl (fun w hG => Runs.addI rfl rfl rfl (by omega) (by omega)) rfl rfl rfl ?_
      refine Dr.valG Grow.refl rfl (fun w hG => (Runs.sliceAtL (i := at_) (j := at_ + 12) rfl rfl rfl rfl Tryz.underlying9 rfl (by omega) (by omega) (by omega)).cast (by rw [hsl])) rfl rfl rfl ?_
      refine Dr.valG Grow.refl rfl (fun w hG => Runs.move rfl rfl) rfl rfl rfl ?_
      refine Dr.valG Grow.refl rfl (fun w hG => Runs.convI rfl rfl Tryz.underlying97 Tryz.underlying3 (wrapI (by omega) (by omega))) rfl rfl rfl ?_
      refine Dr.callVG rfl (fun w => Enters.func rfl rfl rfl (run_enter Tryz.func86 (by kernel_rfl) rfl)) rfl rfl rfl (fun w hG => marked_any n _ (hN.step (Below.step bel hG)) (by omega)) ?_
      refine Dr.valG Grow.refl rfl (fun w hG => (Runs.neqL rfl rfl rfl (hSb.take 12) (markN_lt n)).isT hne) rfl rfl rfl ?_
      refine Dr.val Grow.refl rfl (fun w hG => Runs.pickF rfl rfl rfl) rfl ?_
      refine Dr.nil ?_
      refine FinX.done (F' := [(0, _), (4, _), (5, _), (6, _), (7, _), (12, _), (32, _)]) rfl ⟨rfl, rfl, rfl, rfl, rfl, rfl, rfl, trivial⟩ ?_
      intro w3 hw3 fw3
      replace bel := bel.step hw3
      refine Seq.nil ?_
      refine Post.weak (F' := [(0, _), (4, _), (5, _), (6, _), (7, _), (12, _), (32, _)]) ⟨rfl, rfl, rfl, rfl, rfl, rfl, rfl, trivial⟩ ?_
      refine Post.then_ ?_
      refine Cd.condT rfl rfl ?_
      refine Cd.exit ?_
      refine Post.then_exit ?_
      refine Post.block_exit ?_
      refine Post.then_ ?_
      refine Cd.region ?_
      refine Seq.val (Runs.move rfl rfl) rfl rfl rfl ?_
      refine Seq.val (Runs.addI rfl rfl rfl (by omega) (by omega)) rfl rfl rfl ?_
      refine Seq.val (Runs.assign rfl rfl) rfl rfl rfl ?_
      refine Seq.nil ?_
      refine Post.weak (F' := [(0, _), (4, _), (5, _), (6, _), (7, _), (12, _), (32, _)]) ⟨rfl, rfl, rfl, rfl, rfl, rfl, rfl, trivial⟩ ?_
      exact Post.round ((m, b), at_ + 12, f) ⟨rfl, rfl, rfl, rfl, trivial⟩ ⟨by simp only; omega, by simp only; omega, hm, hdone _ hm hst, bel⟩ (by simp)
    rw [if_neg (fun h => h.elim hgt hne)] at hst
    refine Cd.draw 13 (by kernel_rfl) [] (.inl rfl) rfl Grow Grow.refl (fun _ _ _ => Grow.trans) ?_
    intro w2 hw2 zw2
    replace bel := bel.step hw2
    have zbel := bel.size
    refine Dr.val Grow.refl rfl (fun w hG => Runs.move rfl rfl) rfl ?_
    refine Dr.val Grow.refl rfl (fun w hG => (Runs.gtr rfl rfl rfl).isF (by omega)) rfl ?_
    refine Dr.val Grow.refl rfl (fun w hG => Runs.move rfl rfl) rfl ?_
    refine Dr.valG Grow.refl rfl (fun w hG => Runs.move rfl rfl) rfl rfl rfl ?_
    refine Dr.valG Grow.refl rfl (fun w hG => Runs.move rfl rfl) rfl rfl rfl ?_
    refine Dr.valG Grow.refl rfl (fun w hG => Runs.move rfl rfl) rfl rfl rfl ?_
    refine Dr.valG Grow.refl rfl (fun w hG => Runs.addI rfl rfl rfl (by omega) (by omega)) rfl rfl rfl ?_
    refine Dr.valG Grow.refl rfl (fun w hG => (Runs.sliceAtL (i := at_) (j := at_ + 12) rfl rfl rfl rfl Tryz.underlying9 rfl (by omega) (by omega) (by omega)).cast (by rw [hsl])) rfl rfl rfl ?_
    refine Dr.valG Grow.refl rfl (fun w hG => Runs.move rfl rfl) rfl rfl rfl ?_
    refine Dr.valG Grow.refl rfl (fun w hG => Runs.convI rfl rfl Tryz.underlying97 Tryz.underlying3 (wrapI (by omega) (by omega))) rfl rfl rfl ?_
    refine Dr.callVG rfl (fun w => Enters.func rfl rfl rfl (run_enter Tryz.func86 (by kernel_rfl) rfl)) rfl rfl rfl (fun w hG => marked_any n _ (hN.step (Below.step bel hG)) (by omega)) ?_
    refine Dr.valG Grow.refl rfl (fun w hG => (Runs.neqL rfl rfl rfl (hSb.take 12) (markN_lt n)).isF hne) rfl rfl rfl ?_
    refine Dr.val Grow.refl rfl (fun w hG => Runs.pickF rfl rfl rfl) rfl ?_
    refine Dr.nil ?_
    refine FinX.done (F' := [(0, _), (4, _), (5, _), (6, _), (7, _), (12, _), (32, _)]) rfl ⟨rfl, rfl, rfl, rfl, rfl, rfl, rfl, trivial⟩ ?_
    intro w3 hw3 fw3
    replace bel := bel.step hw3
    refine Seq.nil ?_
    refine Post.weak (F' := [(0, _), (4, _), (5, _), (6, _), (7, _), (12, _), (32, _)]) ⟨rfl, rfl, rfl, rfl, rfl, rfl, rfl, trivial⟩ ?_
    refine Post.then_ ?_
    refine Cd.condF rfl rfl ?_
    refine Cd.skip ?_
    refine Post.then_ ?_
    refine Cd.seq ?_
    refine Cd.seq ?_
    refine Cd.region ?_
    refine Seq.val (Runs.move rfl rfl) rfl rfl rfl ?_
    refine Seq.val (Runs.geq rfl rfl rfl) rfl rfl rfl ?_
    refine Seq.nil ?_
    refine Post.weak (F' := [(0, _), (4, _), (5, _), (6, _), (7, _), (12, _), (32, _), (34, _)]) ⟨rfl, rfl, rfl, rfl, rfl, rfl, rfl, rfl, trivial⟩ ?_
    refine Post.then_ ?_
    refine Cd.cond rfl (fun h => ?_) (fun h => ?_)
    · have hge : 4294967296 ≤ n := by
        have : (4294967296 : Int) ≤ (n : Int) := by simpa using h
        omega
      rw [if_pos hge, if_pos (by omega)] at hst
      refine Cd.seq ?_
      refine Cd.region ?_
      refine Seq.val (Runs.assign rfl rfl) rfl rfl rfl ?_
      refine Seq.nil ?_
      refine Post.weak (F' := [(0, _), (4, _), (5, _), (6, _), (7, _), (12, _), (32, _), (34, _)]) ⟨rfl, rfl, rfl, rfl, rfl, rfl, rfl, rfl, trivial⟩ ?_
      refine Post.then_ ?_
      refine Cd.region ?_
      refine Seq.val (Runs.move rfl rfl) rfl rfl rfl ?_
      refine Seq.val (Runs.subU rfl rfl rfl (by omega) (by omega)) rfl rfl rfl ?_
      refine Seq.val (Runs.assign rfl rfl) rfl rfl rfl ?_
      refine Seq.nil ?_
      refine Post.weak (F' := [(0, _), (4, _), (5, _), (6, _), (7, _), (12, _), (32, _), (34, _)]) ⟨rfl, rfl, rfl, rfl, rfl, rfl, rfl, rfl, trivial⟩ ?_
      refine Post.then_ ?_
      refine Cd.seq ?_
      refine Cd.region ?_
      refine Seq.val (Runs.move rfl rfl) rfl rfl rfl ?_
      refine Seq.val (Runs.leq rfl rfl rfl) rfl rfl rfl ?_
      refine Seq.nil ?_
      refine Post.weak (F' := [(0, _), (4, _), (5, _), (6, _), (7, _), (12, _), (32, _), (34, _), (38, _)]) ⟨rfl, rfl, rfl, rfl, rfl, rfl, rfl, rfl, rfl, trivial⟩ ?_
      refine Post.then_ ?_
      refine Cd.condT rfl (by simp; omega) ?_
      refine Cd.region ?_
      refine Seq.val (Runs.move rfl rfl) rfl rfl rfl ?_
      refine Seq.val (Runs.move rfl rfl) rfl rfl rfl ?_
      refine Seq.val (Runs.convI rfl rfl Tryz.underlying97 Tryz.underlying3 (wrapI (by omega) (by omega))) rfl rfl rfl ?_
      refine Seq.val (Runs.max2 rfl rfl rfl) rfl rfl rfl ?_
      refine Seq.val (Runs.assign rfl rfl) rfl rfl rfl ?_
      refine Seq.nil ?_
      refine Post.weak (F' := [(0, _), (4, _), (5, _), (6, _), (7, _), (12, _), (32, _), (34, _), (38, _)]) ⟨rfl, rfl, rfl, rfl, rfl, rfl, rfl, rfl, rfl, trivial⟩ ?_
      refine Post.block_normal ?_
      refine Post.then_ ?_
      refine Cd.region ?_
      refine Seq.val (Runs.move rfl rfl) rfl rfl rfl ?_
      refine Seq.val (Runs.addI rfl rfl rfl (by omega) (by omega)) rfl rfl rfl ?_
      refine Seq.val (Runs.assign rfl rfl) rfl rfl rfl ?_
      refine Seq.nil ?_
      refine Post.weak (F' := [(0, _), (4, _), (5, _), (6, _), (7, _), (12, _), (32, _), (34, _), (38, _)]) ⟨rfl, rfl, rfl, rfl, rfl, rfl, rfl, rfl, rfl, trivial⟩ ?_
      exact Post.round ((max m (n - 4294967296), true), at_ + 12, f) ⟨rfl, int_at (by simp only; omega), rfl, rfl, trivial⟩ ⟨by simp only; omega, by simp only; omega, by rw [← hst]; exact hle, hdone _ (by rw [← hst]; exact hle) hst, bel⟩ (by simp)
    · have hge : ¬ 4294967296 ≤ n := by
        have : ¬ (4294967296 : Int) ≤ (n : Int) := by simpa using h
        omega
      rw [if_neg hge] at hst
      refine Cd.skip ?_
      refine Post.then_ ?_
      refine Cd.seq ?_
      refine Cd.region ?_
      refine Seq.val (Runs.move rfl rfl) rfl rfl rfl ?_
      refine Seq.val (Runs.leq rfl rfl rfl) rfl rfl rfl ?_
      refine Seq.nil ?_
      refine Post.weak (F' := [(0, _), (4, _), (5, _), (6, _), (7, _), (12, _), (32, _), (34, _), (38, _)]) ⟨rfl, rfl, rfl, rfl, rfl, rfl, rfl, rfl, rfl, trivial⟩ ?_
      refine Post.then_ ?_
      refine Cd.cond rfl (fun h => ?_) (fun h => ?_)
      · have hlt : n ≤ 131072 := by
          have : (n : Int) ≤ 131072 := by simpa using h
          omega
        rw [if_pos hlt] at hst
        refine Cd.region ?_
        refine Seq.val (Runs.move rfl rfl) rfl rfl rfl ?_
        refine Seq.val (Runs.move rfl rfl) rfl rfl rfl ?_
        refine Seq.val (Runs.convI rfl rfl Tryz.underlying97 Tryz.underlying3 (wrapI (by omega) (by omega))) rfl rfl rfl ?_
        refine Seq.val (Runs.max2 rfl rfl rfl) rfl rfl rfl ?_
        refine Seq.val (Runs.assign rfl rfl) rfl rfl rfl ?_
        refine Seq.nil ?_
        refine Post.weak (F' := [(0, _), (4, _), (5, _), (6, _), (7, _), (12, _), (32, _), (34, _), (38, _)]) ⟨rfl, rfl, rfl, rfl, rfl, rfl, rfl, rfl, rfl, trivial⟩ ?_
        refine Post.block_normal ?_
        refine Post.then_ ?_
        refine Cd.region ?_
        refine Seq.val (Runs.move rfl rfl) rfl rfl rfl ?_
        refine Seq.val (Runs.addI rfl rfl rfl (by omega) (by omega)) rfl rfl rfl ?_
        refine Seq.val (Runs.assign rfl rfl) rfl rfl rfl ?_
        refine Seq.nil ?_
        refine Post.weak (F' := [(0, _), (4, _), (5, _), (6, _), (7, _), (12, _), (32, _), (34, _), (38, _)]) ⟨rfl, rfl, rfl, rfl, rfl, rfl, rfl, rfl, rfl, trivial⟩ ?_
        exact Post.round ((max m n, b), at_ + 12, f) ⟨rfl, int_at (by simp only; omega), rfl, rfl, trivial⟩ ⟨by simp only; omega, by simp only; omega, by rw [← hst]; exact hle, hdone _ (by rw [← hst]; exact hle) hst, bel⟩ (by simp)
      · have hlt : ¬ n ≤ 131072 := by
          have : ¬ (n : Int) ≤ 131072 := by simpa using h
          omega
        rw [if_neg hlt] at hst
        refine Cd.skip ?_
        refine Post.block_normal ?_
        refine Post.then_ ?_
        refine Cd.region ?_
        refine Seq.val (Runs.move rfl rfl) rfl rfl rfl ?_
        refine Seq.val (Runs.addI rfl rfl rfl (by omega) (by omega)) rfl rfl rfl ?_
        refine Seq.val (Runs.assign rfl rfl) rfl rfl rfl ?_
        refine Seq.nil ?_
        refine Post.weak (F' := [(0, _), (4, _), (5, _), (6, _), (7, _), (12, _), (32, _), (34, _), (38, _)]) ⟨rfl, rfl, rfl, rfl, rfl, rfl, rfl, rfl, rfl, trivial⟩ ?_
        exact Post.round ((m, b), at_ + 12, f) ⟨rfl, rfl, rfl, rfl, trivial⟩ ⟨by simp only; omega, by simp only; omega, hm, hdone _ hm hst, bel⟩ (by simp)
  · skip
    refine Cd.exit ?_
    refine Post.then_exit ?_
    refine Post.round_exit ?_
    refine Post.block_exit ?_
    refine Post.then_ ?_
    refine Cd.seq ?_
    refine Cd.region ?_
    refine Seq.val (Runs.move rfl rfl) rfl rfl rfl ?_
    refine Seq.val (Runs.move rfl rfl) rfl rfl rfl ?_
    refine Seq.val (Runs.assign rfl rfl) rfl rfl rfl ?_
    refine Seq.val (Runs.assign rfl rfl) rfl rfl rfl ?_
    refine Seq.nil ?_
    refine Post.weak (F' := [(0, _), (2, _), (3, _), (4, _), (5, _), (6, _), (12, _)]) ⟨rfl, rfl, rfl, rfl, rfl, rfl, rfl, trivial⟩ ?_
    refine Post.then_ ?_
    refine Cd.ret ?_
    refine Post.end2 rfl rfl rfl (.inl rfl) ?_
    have hgo : cntGo f (m, b) (s.drop at_) = (m, b) := by
      cases f with
      | zero => rfl
      | succ f => rw [cntGo, if_neg (by rw [List.length_drop]; omega)]
    rw [hall, hgo]
    exact ⟨rfl, bel⟩
end Go.Proofs.YtnlepoplncjliaaGreatDoor

namespace Go.Proofs.YtnlepoplncjliaaGreatDoor
open Go.RowKit Go.Maps Go.Sort

/-- What the tables hold. -/
structure Gv (w : World) : Prop where
  nib : Nib w
  pow : Lib.TabIs Tryz.prog w "internal/strconv.uint64pow10" .u64 Lib.pow10Tab
  mx : ∃ m : Int, w.cell? ⟨0, 0, none⟩ = some (.int .i64 m)
theorem glob_pow : Tryz.prog.globalNamed "internal/strconv.uint64pow10" = some 4 := by kernel_rfl
theorem Gv.lt {w : World} (h : Gv w) : 6 < w.heap.size ∨ w.heap.size ≤ 6 := by omega
theorem tab_keep {w w' : World} (h : Lib.TabIs Tryz.prog w "internal/strconv.uint64pow10" .u64 Lib.pow10Tab) (e : w'.heap[4]? = w.heap[4]?) : Lib.TabIs Tryz.prog w' "internal/strconv.uint64pow10" .u64 Lib.pow10Tab := by
  unfold Lib.TabIs World.var? at h ⊢
  rw [glob_pow] at h ⊢
  simp only [Option.bind_some] at h ⊢
  rw [e]
  exact h
theorem tab_lt {w : World} (h : Lib.TabIs Tryz.prog w "internal/strconv.uint64pow10" .u64 Lib.pow10Tab) : 4 < w.heap.size := by
  unfold Lib.TabIs World.var? at h
  rw [glob_pow] at h
  simp only [Option.bind_some] at h
  cases e : w.heap[4]? with
  | none => rw [e] at h; cases h
  | some o => exact (Array.getElem?_eq_some_iff.1 e).1
theorem Gv.below {w w' : World} {B : Nat} (h : Gv w) (hb : Below B w w') (hB : 4 < B) : Gv w' :=
  ⟨h.nib.below hb (by omega), tab_keep h.pow (hb.block _ hB), by obtain ⟨m, hm⟩ := h.mx; exact ⟨m, (hb.cell (show 0 < B by omega)).trans hm⟩⟩
theorem Gv.step {w w' : World} (h : Gv w) (hb : Below w.heap.size w w') : Gv w' := h.below hb (tab_lt h.pow)
theorem Gv.df {w w' : World} {B : Nat} (h : Gv w) (f : Df B w w') (hB : 4 < B := by omega) : Gv w' := h.below f.below (by have := tab_lt h.pow; omega)
theorem Gv.put {w w' : World} {B g : Nat} {T : TypeId} {cur cs : Array Value} (h : Gv w) (k : Blk w g T cur) (p : Put w w' g T cs) (e : B ≤ g) (hB : 4 < B := by omega) : Gv w' := h.below (p.below e k.lt) hB
/-- A number's decimal digits. -/
def decN (u : Nat) : List Nat := if h : u < 10 then [48 + u] else decN (u / 10) ++ [48 + u % 10]
termination_by u
decreasing_by omega
theorem decN_u8 (u : Nat) : u8s (decN u) = Lib.decDigits u := by
  induction u using Nat.strongRecOn with
  | ind u ih =>
    rw [decN, Lib.decDigits]
    split
    · rfl
    · rename_i h
      rw [← ih (u / 10) (by omega)]
      simp [u8s]
theorem decN_lt (u : Nat) : ∀ c ∈ decN u, 48 ≤ c ∧ c < 58 := by
  induction u using Nat.strongRecOn with
  | ind u ih =>
    rw [decN]
    split
    · intro c hc; simp at hc; omega
    · rename_i h
      intro c hc
      rcases List.mem_append.1 hc with hc | hc
      · exact ih (u / 10) (by omega) c hc
      · simp at hc; omega
theorem decN_len : ∀ (k u : Nat), u < 10 ^ (k + 1) → (decN u).length ≤ k + 1
  | 0, u, h => by rw [decN, dif_pos (by simpa using h)]; simp
  | k + 1, u, h => by
    rw [decN]
    split
    · simp
    · rw [List.length_append, List.length_singleton]
      have := decN_len k (u / 10) (by rw [Nat.pow_succ] at h; omega)
      omega
theorem str_u8 {s : List Nat} {l : List UInt8} (h : u8s s = l) : (⟨l.toArray⟩ : ByteArray) = strOf s := by rw [← h]; rfl
theorem below_growN (w : World) (k : Nat) (os : Array Obj) : Below w.heap.size w (grow (w.drewN k) os) := ⟨rfl, rfl, rfl, by simp [grow], fun j hj => by simp only [grow]; exact Array.getElem?_append_left hj⟩
theorem itoa_any (n : Nat) (w : World) (g : Gv w) (hn : n ≤ 9223372036854775807) : Calls Tryz.prog 72 #[.int .i64 (n : Int)] w fun e w' => e = .returned (.string (strOf (decN n))) ∧ Grow w w' := by
  refine (Any.strconv_Itoa shItoa (n : Int) (by omega) (by omega) w g.pow).mono ?_
  rintro e w' ⟨rfl, k, os, rfl⟩
  refine ⟨?_, below_growN _ _ _⟩
  rw [Lib.itoa_nonneg, str_u8 (decN_u8 n)]
theorem rep_u8 (c : Nat) : u8s (List.replicate c 48) = Lib.repeatL [48] c := by
  induction c with
  | zero => rfl
  | succ c ih => rw [List.replicate_succ, Lib.repeatL, ← ih]; rfl
theorem repeat0_any (c : Nat) (w : World) (hc : c ≤ 1000) : Calls Tryz.prog 73 #[.string { data := #[48] }, .int .i64 (c : Int)] w fun e w' => e = .returned (.string (strOf (List.replicate c 48))) ∧ Grow w w' := by
  refine (Any.strings_Repeat shRep shRepX { data := #[48] } c w (by omega) (by show 1 * c ≤ _; omega)).mono ?_
  rintro e w' ⟨rfl, hb⟩
  exact ⟨by rw [← str_u8 (rep_u8 c)], hb⟩
theorem repeatZ_any (z : Int) (c : Nat) (w : World) (h : z = (c : Int)) (hc : c ≤ 1000) : Calls Tryz.prog 73 #[.string { data := #[48] }, .int .i64 z] w fun e w' => e = .returned (.string (strOf (List.replicate c 48))) ∧ Grow w w' := by
  subst h
  exact repeat0_any c w hc
/-- A segment's number, in six digits. -/
def dig6 (n : Nat) : List Nat := List.replicate (6 - (decN n).length) 48 ++ decN n
def fileN (nm : List Nat) (n : Nat) (kind : List Nat) : List Nat := nm ++ [46] ++ dig6 n ++ kind
/-- A log's own block. -/
def wlCs (gd : Nat) (nm : List Nat) (num count size : Int) (broken : Bool) : Array Value := #[.pointer (some ⟨gd, 0, none⟩), .string (strOf nm), .int .i64 num, .int .i64 count, .int .i64 size, .bool broken]
theorem file_any (g0 gd n : Nat) (nm kind : List Nat) (num count size : Int) (broken : Bool) (w : World) (gv : Gv w) (k0 : Blk w g0 80 (wlCs gd nm num count size broken)) (hn : n ≤ 999999) (hnl : nm.length ≤ 1000) (hkl : kind.length ≤ 1000) :
    Calls Tryz.prog 50 #[.pointer (some ⟨g0, 0, none⟩), .int .i64 (n : Int), .string (strOf kind)] w fun e w' => e = .returned (.string (strOf (fileN nm n kind))) ∧ Grow w w' := by
  have bel := Below.refl w.heap.size w
  have hdl := decN_len 5 n (by omega)
  refine Calls.start 25 Tryz.func50 rfl rfl rfl ?_
  refine Cd.seq ?_
  refine Cd.region ?_
  refine Seq.val (Runs.assign rfl rfl) rfl rfl rfl ?_
  refine Seq.nil ?_
  refine Post.weak (F' := [(0, _), (1, _), (2, _), (6, _)]) ⟨rfl, rfl, rfl, rfl, trivial⟩ ?_
  refine Post.then_ ?_
  refine Cd.seq ?_
  refine Cd.region ?_
  refine Seq.val (Runs.move rfl rfl) rfl rfl rfl ?_
  refine Seq.call (Enters.func rfl rfl rfl (run_enter Tryz.func72 (by kernel_rfl) rfl)) rfl rfl rfl (itoa_any n _ gv (by omega)) ?_
  rintro e w5 ⟨rfl, hb5⟩
  refine ⟨_, rfl, ?_⟩
  replace bel := bel.step hb5
  replace k0 := k0.step hb5
  refine Seq.val (Runs.assign rfl rfl) rfl rfl rfl ?_
  refine Seq.nil ?_
  refine Post.weak (F' := [(0, _), (1, _), (2, _), (6, _), (7, _)]) ⟨rfl, rfl, rfl, rfl, rfl, trivial⟩ ?_
  refine Post.then_ ?_
  refine Cd.seq ?_
  refine Cd.draw 15 (by kernel_rfl) [] (.inl rfl) rfl Grow Grow.refl (fun _ _ _ => Grow.trans) ?_
  intro w1 hw1 zw1
  replace bel := bel.step hw1
  replace k0 := k0.step hw1
  have zbel := bel.size
  have zlt := k0.lt
  refine Dr.val Grow.refl rfl (fun w hG => Runs.move rfl rfl) rfl ?_
  refine Dr.val Grow.refl rfl (fun w hG => Runs.nilCheck rfl rfl) rfl ?_
  refine Dr.val Grow.refl rfl (fun w hG => Runs.fieldB 1 rfl rfl Tryz.underlying80 rfl (by kernel_rfl)) rfl ?_
  refine Dr.val Grow.refl rfl (fun w hG => Runs.loadB rfl rfl Tryz.underlying9 rfl (k0.step hG) rfl) rfl ?_
  refine Dr.val Grow.refl rfl (fun w hG => Runs.addL (b := [46]) rfl rfl rfl (show nm.length + 1 ≤ _ by omega)) rfl ?_
  refine Dr.val Grow.refl rfl (fun w hG => Runs.move rfl rfl) rfl ?_
  refine Dr.val Grow.refl rfl (fun w hG => Runs.lenL rfl rfl Tryz.underlying9) rfl ?_
  refine Dr.val Grow.refl rfl (fun w hG => Runs.subI rfl rfl rfl (by omega) (by omega)) rfl ?_
  refine Dr.val Grow.refl rfl (fun w hG => Runs.max2 rfl rfl rfl) rfl ?_
  refine Dr.callV rfl (fun w => Enters.func rfl rfl rfl (run_enter Tryz.func73 (by kernel_rfl) rfl)) rfl (fun w hG => repeatZ_any _ (6 - (decN n).length) w (by omega) (by omega)) ?_
  refine Dr.val Grow.refl rfl (fun w hG => Runs.addL rfl rfl rfl (by simp only [List.length_append, List.length_replicate, List.length_singleton]; omega)) rfl ?_
  refine Dr.val Grow.refl rfl (fun w hG => Runs.move rfl rfl) rfl ?_
  refine Dr.val Grow.refl rfl (fun w hG => Runs.addL rfl rfl rfl (by simp only [List.length_append, List.length_replicate, List.length_singleton]; omega)) rfl ?_
  refine Dr.val Grow.refl rfl (fun w hG => Runs.move rfl rfl) rfl ?_
  refine Dr.val Grow.refl rfl (fun w hG => Runs.addL rfl rfl rfl (by simp only [List.length_append, List.length_replicate, List.length_singleton]; omega)) rfl ?_
  refine FinX.done (F' := [(0, _), (1, _), (2, _), (6, _), (7, _), (24, _)]) rfl ⟨rfl, rfl, rfl, rfl, rfl, rfl, trivial⟩ ?_
  intro w2 hw2 fw2
  replace bel := bel.step hw2
  replace k0 := k0.step hw2
  refine Seq.val (Runs.assign rfl rfl) rfl rfl rfl ?_
  refine Seq.nil ?_
  refine Post.weak (F' := [(0, _), (1, _), (2, _), (6, _), (7, _)]) ⟨rfl, rfl, rfl, rfl, rfl, trivial⟩ ?_
  refine Post.then_ ?_
  refine Cd.ret ?_
  refine Post.end1 rfl rfl (.inl rfl) ?_
  refine ⟨?_, bel⟩
  have e : nm ++ [46] ++ List.replicate (6 - (decN n).length) 48 ++ decN n ++ kind = fileN nm n kind := by unfold fileN dig6; simp
  rw [← e]
end Go.Proofs.YtnlepoplncjliaaGreatDoor

namespace Go.Proofs.YtnlepoplncjliaaGreatDoor
open Go.RowKit Go.Maps Go.Sort

theorem dig6_lt (n : Nat) : ∀ c ∈ dig6 n, 48 ≤ c ∧ c < 58 := by
  intro c hc
  unfold dig6 at hc
  rcases List.mem_append.1 hc with hc | hc
  · have := List.eq_of_mem_replicate hc; omega
  · exact decN_lt n c hc
theorem dig6_len {n : Nat} (h : n ≤ 999999) : (dig6 n).length = 6 := by
  have := decN_len 5 n (by omega)
  unfold dig6
  rw [List.length_append, List.length_replicate]
  omega
theorem decFrom_app : ∀ (a b : List UInt8) (acc : Nat), Lib.decFrom acc (a ++ b) = (Lib.decFrom acc a).bind fun m => Lib.decFrom m b
  | [], b, acc => rfl
  | x :: a, b, acc => by
    rw [List.cons_append, Lib.decFrom, Lib.decFrom]
    cases Lib.digitVal x with
    | none => rfl
    | some d => exact decFrom_app a b _
theorem digitVal_ok {d : Nat} (h : d < 10) : Lib.digitVal (UInt8.ofNat (48 + d)) = some d := by
  have e : (UInt8.ofNat (48 + d)).toNat = 48 + d := ofNat_toNat (by omega)
  unfold Lib.digitVal
  rw [e, if_pos (by omega)]
  congr 1
  omega
theorem decFrom_dec : ∀ n, Lib.decFrom 0 (u8s (decN n)) = some n := by
  intro n
  induction n using Nat.strongRecOn with
  | ind n ih =>
    rw [decN]
    split
    · rename_i h
      show Lib.decFrom 0 [UInt8.ofNat (48 + n)] = _
      rw [Lib.decFrom, digitVal_ok h]
      simp [Lib.decFrom]
    · rename_i h
      have e : u8s (decN (n / 10) ++ [48 + n % 10]) = u8s (decN (n / 10)) ++ [UInt8.ofNat (48 + n % 10)] := by simp [u8s]
      rw [e, decFrom_app, ih (n / 10) (by omega)]
      simp only [Option.bind_some]
      rw [Lib.decFrom, digitVal_ok (by omega)]
      simp only [Lib.decFrom, Option.some.injEq]
      omega
theorem decFrom_zeros : ∀ (k : Nat) (l : List UInt8), Lib.decFrom 0 (u8s (List.replicate k 48) ++ l) = Lib.decFrom 0 l
  | 0, l => rfl
  | k + 1, l => by
    have e : u8s (List.replicate (k + 1) 48) ++ l = UInt8.ofNat (48 + 0) :: (u8s (List.replicate k 48) ++ l) := by rw [List.replicate_succ]; rfl
    rw [e, Lib.decFrom, digitVal_ok (by omega)]
    exact decFrom_zeros k l
theorem atoi_dig6 {n : Nat} (h : n ≤ 999999) : Lib.atoi (u8s (dig6 n)) = some (n : Int) := by
  have hl := dig6_len h
  have hd := dig6_lt n
  have hdec : Lib.decNat (u8s (dig6 n)) = some n := by
    unfold Lib.decNat
    have hne : (u8s (dig6 n)).isEmpty = false := by
      cases e : dig6 n with
      | nil => rw [e] at hl; cases hl
      | cons x r => rfl
    rw [hne]
    simp only [Bool.false_eq_true, if_false]
    unfold dig6
    have e : u8s (List.replicate (6 - (decN n).length) 48 ++ decN n) = u8s (List.replicate (6 - (decN n).length) 48) ++ u8s (decN n) := by simp [u8s]
    rw [e, decFrom_zeros, decFrom_dec]
  cases e : dig6 n with
  | nil => rw [e] at hl; cases hl
  | cons x r =>
    have hx := hd x (by rw [e]; exact List.mem_cons_self)
    rw [e] at hdec
    have e2 : u8s (x :: r) = UInt8.ofNat x :: u8s r := rfl
    rw [e2] at hdec ⊢
    have hx2 : (UInt8.ofNat x).toNat = x := ofNat_toNat (by omega)
    have n1 : (UInt8.ofNat x == 45) = false := by
      rw [beq_eq_false_iff_ne]
      intro h3
      rw [h3] at hx2
      have : (45 : UInt8).toNat = 45 := rfl
      omega
    have n2 : (UInt8.ofNat x == 43) = false := by
      rw [beq_eq_false_iff_ne]
      intro h3
      rw [h3] at hx2
      have : (43 : UInt8).toNat = 43 := rfl
      omega
    show (if (UInt8.ofNat x == 45) = true then (Lib.decNat (u8s r)).map (fun (m : Nat) => -(m : Int)) else if (UInt8.ofNat x == 43) = true then (Lib.decNat (u8s r)).map (fun (m : Nat) => (m : Int)) else (Lib.decNat (UInt8.ofNat x :: u8s r)).map (fun (m : Nat) => (m : Int))) = _
    rw [n1, n2, hdec]
    rfl
theorem strOf_u8 (s : List Nat) : (strOf s).data.toList = u8s s := strOf_data s
theorem below_bytesW (w : World) (e : TypeId) (s : ByteArray) : Below w.heap.size w (Lib.bytesWorld w e s) := ⟨rfl, rfl, rfl, by rw [Lib.bytesWorld_size]; omega, fun j hj => Lib.bytesWorld_at_old w e s j hj⟩
theorem atoi_any (n : Nat) (w : World) (h : n ≤ 999999) : Calls Tryz.prog 56 #[.string (strOf (dig6 n))] w fun e w' => e = .returned (.tuple #[.int .i64 (n : Int), .nilIface]) ∧ Grow w w' := by
  refine (Any.strconv_Atoi shAtoi (strOf (dig6 n)) (n : Int) (by rw [strOf_size, dig6_len h]; omega) (by rw [strOf_u8]; exact atoi_dig6 h) w).mono ?_
  rintro e w' ⟨rfl, t, rfl⟩
  exact ⟨rfl, below_bytesW _ _ _⟩
theorem cutP_any (nm r : List Nat) (w : World) : Calls Tryz.prog 54 #[.string (strOf (nm ++ r)), .string (strOf nm)] w fun e w' => e = .returned (.tuple #[.string (strOf r), .bool true]) ∧ Grow w w' := by
  refine (Any.strings_CutPrefix shCutP (strOf (nm ++ r)) (strOf nm) w).mono ?_
  rintro e w' ⟨rfl, rfl⟩
  have e1 : u8s (nm ++ r) = u8s nm ++ u8s r := by simp [u8s]
  have h1 : Lib.hasPrefix (u8s nm ++ u8s r) (u8s nm) = true := by
    unfold Lib.hasPrefix
    rw [List.isPrefixOf_iff_prefix]
    exact List.prefix_append _ _
  rw [strOf_u8, strOf_u8, e1, h1]
  refine ⟨?_, Below.refl _ _⟩
  unfold Lib.trimPrefix
  rw [h1, if_pos rfl, List.drop_left]
  rfl
theorem cut_any (a b : List Nat) (w : World) (g : Gv w) (ha : ∀ c ∈ a, c < 46 ∨ 46 < c) (hb : Byt a) (hl : a.length + b.length ≤ 1000000) : Calls Tryz.prog 55 #[.string (strOf (a ++ 46 :: b)), .string { data := #[46] }] w fun e w' => e = .returned (.tuple #[.string (strOf a), .string (strOf b), .bool true]) ∧ Grow w w' := by
  obtain ⟨m, hm⟩ := g.mx
  refine (Any.strings_Cut shCut (strOf (a ++ 46 :: b)) { data := #[46] } m w (by rw [strOf_size]; simp only [List.length_append, List.length_cons]; omega) hm).mono ?_
  rintro e w' ⟨rfl, k, rfl⟩
  have e1 : u8s (a ++ 46 :: b) = u8s a ++ 46 :: u8s b := by simp [u8s]
  have hi : Lib.index (u8s a ++ 46 :: u8s b) [46] = ((u8s a).length : Int) := by
    refine Lib.index_first (by simp) ?_ ?_
    · unfold Lib.occAt
      rw [List.drop_left]
      rfl
    · intro j hj
      unfold Lib.occAt
      have hja : j < a.length := by simpa [u8s] using hj
      rw [List.drop_append_of_le_length (by omega)]
      have hc : (u8s a)[j]? = some (UInt8.ofNat a[j]) := by simp [u8s, hja]
      rw [drop_head hc, List.cons_append]
      have hne : (46 : UInt8) ≠ UInt8.ofNat a[j] := fun e => by
        have h1 := ha a[j] (List.getElem_mem hja)
        have h2 : (UInt8.ofNat a[j]).toNat = a[j] := ofNat_toNat (hb _ (List.getElem_mem hja))
        rw [← e] at h2
        have : (46 : UInt8).toNat = 46 := rfl
        omega
      simp [List.isPrefixOf, hne]
  have hcut : Lib.cut (u8s a ++ 46 :: u8s b) [46] = (u8s a, u8s b, true) := by
    unfold Lib.cut
    rw [hi, if_pos (by omega), Int.toNat_natCast, List.take_left]
    have : (u8s a ++ 46 :: u8s b).drop ((u8s a).length + [(46 : UInt8)].length) = u8s b := by
      rw [← List.drop_drop, List.drop_left]
      rfl
    rw [this]
  have e2 : (({ data := #[46] } : ByteArray)).data.toList = [46] := rfl
  rw [strOf_u8, e1, e2, hcut]
  exact ⟨rfl, ⟨rfl, rfl, rfl, Nat.le_refl _, fun _ _ => rfl⟩⟩
end Go.Proofs.YtnlepoplncjliaaGreatDoor

namespace Go.Proofs.YtnlepoplncjliaaGreatDoor
open Go.RowKit Go.Maps Go.Sort

/-- Whether a log's name may be. -/
def rightN (nm : List Nat) : Bool := nm.all (fun c => decide (97 ≤ c) && decide (c ≤ 122)) && (decide (nm ≠ []) && decide (nm.length ≤ 8))
theorem right_w_any (nm : List Nat) (w : World) (hs : Byt nm) (hl : nm.length ≤ 100000000) : Calls Tryz.prog 35 #[.string (strOf nm)] w fun e w' => e = .returned (.bool (rightN nm)) ∧ Grow w w' := by
  have bel := Below.refl w.heap.size w
  refine Calls.start 26 Tryz.func35 rfl rfl rfl ?_
  refine Cd.seq ?_
  refine Cd.region ?_
  refine Seq.val (Runs.assign rfl rfl) rfl rfl rfl ?_
  refine Seq.nil ?_
  refine Post.weak (F' := [(0, _), (2, _)]) ⟨rfl, rfl, trivial⟩ ?_
  refine Post.then_ ?_
  refine Cd.seq ?_
  refine Cd.seq ?_
  refine Cd.region ?_
  refine Seq.val (Runs.move rfl rfl) rfl rfl rfl ?_
  refine Seq.convSB rfl rfl Tryz.underlying9 Tryz.underlying60 Tryz.underlying5 hs rfl rfl rfl ?_
  intro g6 c w2 hc hn
  replace bel := bel.step hn.below
  have hrd := hn.reads
  have hb2 := Below.refl w2.heap.size w2
  clear hn
  obtain ⟨A, hA⟩ : ∃ A, A = some (⟨g6, 0, none⟩ : Addr) := ⟨_, rfl⟩
  rw [← hA] at hrd ⊢
  clear hA
  have bel0 := bel
  clear bel
  have bel := hb2
  refine Seq.val (Runs.len rfl rfl Tryz.underlying60) rfl rfl rfl ?_
  refine Seq.val (Runs.move rfl rfl) rfl rfl rfl ?_
  refine Seq.nil ?_
  refine Post.weak (F' := [(0, _), (2, _), (6, _), (7, _), (8, _)]) ⟨rfl, rfl, rfl, rfl, rfl, trivial⟩ ?_
  refine Post.then_ ?_
  refine Cd.block ?_
  refine Cd.loop (σ := Nat) (fun j => [(0, .string (strOf nm)), (6, .slice A nm.length c), (7, .int .i64 (nm.length : Int)), (8, .int .i64 (j : Int))]) (fun j wr => j ≤ nm.length ∧ (∀ x ∈ nm.take j, 97 ≤ x ∧ x ≤ 122) ∧ Below w2.heap.size w2 wr) (fun j => nm.length - j) 0 ⟨Nat.zero_le _, by simp, bel⟩ ⟨rfl, rfl, rfl, rfl, trivial⟩ ?_
  clear bel
  rintro j wr ⟨hj, hall, bel⟩
  refine Cd.seq ?_
  refine Cd.region ?_
  refine Seq.val (Runs.lss rfl rfl rfl) rfl rfl rfl ?_
  refine Seq.nil ?_
  refine Post.weak (F' := [(0, _), (6, _), (7, _), (8, _), (9, _)]) ⟨rfl, rfl, rfl, rfl, rfl, trivial⟩ ?_
  refine Post.then_ ?_
  refine Cd.seq ?_
  refine Cd.condD rfl (fun hc => ?_) (fun hc => ?_)
  · obtain ⟨b, hb⟩ : ∃ b, nm[j]? = some b := ⟨_, List.getElem?_eq_getElem (by omega)⟩
    have hb256 := hs b (List.mem_of_getElem? hb)
    obtain ⟨ad, rfl, hbd, hcl⟩ := hrd.2 (by omega)
    have hcd := (bel.cell (p := ad.add j) (by rw [block_of_add]; exact hbd)).trans (hcl j (.int .u8 (b : Int)) (by rw [get_Bt, hb]; rfl))
    refine Cd.skip ?_
    refine Post.then_ ?_
    refine Cd.seq ?_
    refine Cd.block ?_
    refine Cd.seq ?_
    refine Cd.region ?_
    refine Seq.val (Runs.index1 rfl rfl rfl Tryz.underlying60 (by kernel_rfl) (j := j) rfl (by omega)) rfl rfl rfl ?_
    refine Seq.val (Runs.load1 rfl rfl Tryz.underlying5 rfl hcd) rfl rfl rfl ?_
    refine Seq.val (Runs.assign rfl rfl) rfl rfl rfl ?_
    refine Seq.nil ?_
    refine Post.weak (F' := [(0, _), (4, _), (6, _), (7, _), (8, _), (9, _)]) ⟨rfl, rfl, rfl, rfl, rfl, rfl, trivial⟩ ?_
    refine Post.then_ ?_
    refine Cd.seq ?_
    refine Cd.region ?_
    refine Seq.val (Runs.move rfl rfl) rfl rfl rfl ?_
    refine Seq.val (Runs.lss rfl rfl rfl) rfl rfl rfl ?_
    refine Seq.val (Runs.move rfl rfl) rfl rfl rfl ?_
    refine SeqC.start ?_
    refine SeqC.open rfl rfl rfl rfl rfl rfl rfl (fun hcx => Runs.move rfl rfl) ?_
    refine SeqC.next rfl rfl rfl rfl rfl rfl rfl (fun hcx => Runs.gtr rfl rfl rfl) ?_
    refine SeqC.or rfl rfl rfl rfl rfl rfl rfl ?_
    refine Seq.nil ?_
    refine Post.weak (F' := [(0, _), (4, _), (6, _), (7, _), (8, _), (9, _), (17, _)]) ⟨rfl, rfl, rfl, rfl, rfl, rfl, rfl, trivial⟩ ?_
    refine Post.then_ ?_
    refine Cd.cond rfl (fun h => ?_) (fun h => ?_)
    · have h1 : b < 97 ∨ 122 < b := by
        have h' : (decide ((b : Int) < 97) || decide ((122 : Int) < (b : Int))) = true := h
        rw [Bool.or_eq_true, decide_eq_true_eq, decide_eq_true_eq] at h'
        omega
      have hR : rightN nm = false := by
        unfold rightN
        rw [Bool.and_eq_false_iff]
        left
        rw [List.all_eq_false]
        refine ⟨b, List.mem_of_getElem? hb, ?_⟩
        simp only [Bool.and_eq_true, decide_eq_true_eq]
        omega
      rw [hR]
      refine Cd.seq ?_
      refine Cd.region ?_
      refine Seq.val (Runs.assign rfl rfl) rfl rfl rfl ?_
      refine Seq.nil ?_
      refine Post.weak (F' := [(0, _), (2, _), (4, _), (6, _), (7, _), (8, _), (9, _), (17, _)]) ⟨rfl, rfl, rfl, rfl, rfl, rfl, rfl, rfl, trivial⟩ ?_
      refine Post.then_ ?_
      refine Cd.ret ?_
      refine Post.block_ret ?_
      refine Post.then_ret ?_
      refine Post.round_ret ?_
      refine Post.block_ret ?_
      refine Post.then_ret ?_
      refine Post.end1 rfl rfl (.inl rfl) ?_
      exact ⟨rfl, bel0.step bel⟩
    · have h1 : 97 ≤ b ∧ b ≤ 122 := by
        have h' : (decide ((b : Int) < 97) || decide ((122 : Int) < (b : Int))) = false := h
        rw [Bool.or_eq_false_iff, decide_eq_false_iff_not, decide_eq_false_iff_not] at h'
        omega
      refine Cd.skip ?_
      refine Post.block_normal ?_
      refine Post.then_ ?_
      refine Cd.region ?_
      refine Seq.val (Runs.addI rfl rfl rfl (by omega) (by omega)) rfl rfl rfl ?_
      refine Seq.val (Runs.move rfl rfl) rfl rfl rfl ?_
      refine Seq.nil ?_
      refine Post.weak (F' := [(0, _), (4, _), (6, _), (7, _), (8, _), (9, _), (17, _)]) ⟨rfl, rfl, rfl, rfl, rfl, rfl, rfl, trivial⟩ ?_
      refine Post.round (j + 1) ⟨rfl, rfl, rfl, int_at (by omega), trivial⟩ ⟨by omega, fun x hx => ?_, bel⟩ (by omega)
      rw [take_last hb] at hx
      rcases List.mem_append.1 hx with hx | hx
      · exact hall x hx
      · simp at hx; subst hx; exact h1
  · have hR : rightN nm = (decide (nm ≠ []) && decide ((nm.length : Int) ≤ 8)) := by
      unfold rightN
      rw [List.take_of_length_le (by omega)] at hall
      have : nm.all (fun c => decide (97 ≤ c) && decide (c ≤ 122)) = true := by
        rw [List.all_eq_true]
        intro x hx
        have := hall x hx
        simp [this]
      rw [this, Bool.true_and]
      congr 1
      by_cases h8 : nm.length ≤ 8
      · rw [decide_eq_true h8, decide_eq_true (by omega)]
      · rw [decide_eq_false h8, decide_eq_false (by omega)]
    rw [hR]
    refine Cd.exit ?_
    refine Post.then_exit ?_
    refine Post.round_exit ?_
    refine Post.block_exit ?_
    refine Post.then_ ?_
    refine Cd.seq ?_
    refine Cd.region ?_
    refine Seq.val (Runs.move rfl rfl) rfl rfl rfl ?_
    refine Seq.val (Runs.neqL (b := []) rfl rfl rfl hs (by simp)) rfl rfl rfl ?_
    refine Seq.val (Runs.move rfl rfl) rfl rfl rfl ?_
    refine SeqC.start ?_
    refine SeqC.open rfl rfl rfl rfl rfl rfl rfl (fun hcx => Runs.move rfl rfl) ?_
    refine SeqC.next rfl rfl rfl rfl rfl rfl rfl (fun hcx => Runs.lenL rfl rfl Tryz.underlying9) ?_
    refine SeqC.next rfl rfl rfl rfl rfl rfl rfl (fun hcx => Runs.leq rfl rfl rfl) ?_
    refine SeqC.and rfl rfl rfl rfl rfl rfl rfl ?_
    refine Seq.val (Runs.assign rfl rfl) rfl rfl rfl ?_
    refine Seq.nil ?_
    refine Post.weak (F' := [(0, _), (2, _), (6, _), (7, _), (8, _), (9, _)]) ⟨rfl, rfl, rfl, rfl, rfl, rfl, trivial⟩ ?_
    refine Post.then_ ?_
    refine Cd.ret ?_
    refine Post.end1 rfl rfl (.inl rfl) ?_
    exact ⟨rfl, bel0.step bel⟩
end Go.Proofs.YtnlepoplncjliaaGreatDoor

namespace Go.Proofs.YtnlepoplncjliaaGreatDoor
open Go.RowKit Go.Maps Go.Sort

def logB : List Nat := [108, 111, 103]
def ackB : List Nat := [97, 99, 107]
def newB : List Nat := [110, 101, 119]
/-- Names of files that are a log's own. -/
def OwnNm (nm : List Nat) (s : List Nat) : Prop := ∃ n k, n ≤ 999999 ∧ (k = logB ∨ k = ackB ∨ k = newB) ∧ s = fileN nm n (46 :: k)
theorem zero_int : zeroIs Tryz.prog 3 = some (some (.int .i64 0)) := by kernel_rfl
/-- The numbers that names tell. -/
def NumIn (nm : List Nat) (names : List (List Nat)) (n : Nat) : Prop := n ≤ 999999 ∧ (fileN nm n (46 :: logB) ∈ names ∨ fileN nm n (46 :: ackB) ∈ names)
theorem ones_nat (l : List Nat) : ∀ u ∈ l.map (fun (n : Nat) => Value.int .i64 (n : Int)), u.oneCell' = true := fun u hu => by
  obtain ⟨z, -, rfl⟩ := List.mem_map.1 hu
  rfl
theorem dig6_inj {m n : Nat} (hm : m ≤ 999999) (hn : n ≤ 999999) (h : dig6 m = dig6 n) : m = n := by
  have h1 := atoi_dig6 hm
  rw [h, atoi_dig6 hn] at h1
  injection h1 with h1
  omega
theorem fileN_inj {nm : List Nat} {m n : Nat} {a b : List Nat} (hm : m ≤ 999999) (hn : n ≤ 999999) (h : fileN nm m a = fileN nm n b) : m = n ∧ a = b := by
  unfold fileN at h
  rw [List.append_assoc, List.append_assoc, List.append_assoc, List.append_assoc] at h
  have h1 := List.append_cancel_left h
  have h2 := List.append_cancel_left h1
  have h3 := List.append_inj h2 (by rw [dig6_len hm, dig6_len hn])
  exact ⟨dig6_inj hm hn h3.1, h3.2⟩
theorem numIn_more {nm : List Nat} {l : List (List Nat)} {n : Nat} {k : List Nat} (hn : n ≤ 999999) (m : Nat) : NumIn nm (l ++ [fileN nm n (46 :: k)]) m ↔ NumIn nm l m ∨ (m = n ∧ (k = logB ∨ k = ackB)) := by
  unfold NumIn
  simp only [List.mem_append, List.mem_singleton]
  constructor
  · rintro ⟨h1, (h2 | h2) | (h2 | h2)⟩
    · exact .inl ⟨h1, .inl h2⟩
    · obtain ⟨e1, e2⟩ := fileN_inj h1 hn h2
      exact .inr ⟨e1, .inl (by injection e2 with _ e2; exact e2.symm)⟩
    · exact .inl ⟨h1, .inr h2⟩
    · obtain ⟨e1, e2⟩ := fileN_inj h1 hn h2
      exact .inr ⟨e1, .inr (by injection e2 with _ e2; exact e2.symm)⟩
  · rintro (⟨h1, h2 | h2⟩ | ⟨rfl, rfl | rfl⟩)
    · exact ⟨h1, .inl (.inl h2)⟩
    · exact ⟨h1, .inr (.inl h2)⟩
    · exact ⟨hn, .inl (.inr rfl)⟩
    · exact ⟨hn, .inr (.inr rfl)⟩
/-- Behind the sort and the pressing: each number once, in order. -/
theorem comp_inv (d : Array Int) (hs : ∀ i j, i ≤ j → j < d.size → d[i]! ≤ d[j]!) : ∀ m, m ≤ d.size → (Lib.compactUpTo d m).Pairwise (· < ·) ∧ ∀ z, z ∈ Lib.compactUpTo d m ↔ ∃ i, i < m ∧ d[i]! = z
  | 0, _ => ⟨by simp [Lib.compactUpTo], fun z => by simp [Lib.compactUpTo]⟩
  | m + 1, h => by
    obtain ⟨h1, h2⟩ := comp_inv d hs m (by omega)
    rw [Lib.compactUpTo_succ]
    by_cases hk : m = 0 ∨ d[m]! ≠ d[m - 1]!
    · have hkk : Lib.keeps d m = true := by unfold Lib.keeps; exact decide_eq_true hk
      rw [hkk, if_pos rfl]
      refine ⟨?_, fun z => ?_⟩
      · rw [List.pairwise_append]
        refine ⟨h1, by simp, ?_⟩
        intro a ha b hb
        simp at hb
        subst hb
        obtain ⟨i, hi, rfl⟩ := (h2 a).1 ha
        have e1 := hs i (m - 1) (by omega) (by omega)
        have e2 := hs (m - 1) m (by omega) (by omega)
        rcases hk with hk | hk <;> omega
      · rw [List.mem_append, h2 z, List.mem_singleton]
        constructor
        · rintro (⟨i, hi, e⟩ | e)
          · exact ⟨i, by omega, e⟩
          · exact ⟨m, by omega, e.symm⟩
        · rintro ⟨i, hi, e⟩
          rcases Nat.lt_or_eq_of_le (Nat.le_of_lt_succ hi) with h3 | h3
          · exact .inl ⟨i, h3, e⟩
          · subst h3; exact .inr e.symm
    · have hkk : Lib.keeps d m = false := by unfold Lib.keeps; exact decide_eq_false hk
      rw [hkk]
      simp only [Bool.false_eq_true, if_false, List.append_nil]
      refine ⟨h1, fun z => ?_⟩
      rw [h2 z]
      have hk1 : m ≠ 0 := fun e => hk (.inl e)
      have hk2 : d[m]! = d[m - 1]! := by
        by_cases e : d[m]! = d[m - 1]!
        · exact e
        · exact absurd (.inr e) hk
      constructor
      · rintro ⟨i, hi, e⟩; exact ⟨i, by omega, e⟩
      · rintro ⟨i, hi, e⟩
        rcases Nat.lt_or_eq_of_le (Nat.le_of_lt_succ hi) with h3 | h3
        · exact ⟨i, h3, e⟩
        · subst h3; exact ⟨i - 1, by omega, by rw [← hk2]; exact e⟩
theorem press {zs : List Int} : (Lib.compact (zs.mergeSort fun x y => decide (x ≤ y))).Pairwise (· < ·) ∧ ∀ z, z ∈ Lib.compact (zs.mergeSort fun x y => decide (x ≤ y)) ↔ z ∈ zs := by
  obtain ⟨S, hS⟩ : ∃ S, S = zs.mergeSort (fun x y => decide (x ≤ y)) := ⟨_, rfl⟩
  have hsort : S.Pairwise (· ≤ ·) := by
    have h1 := List.pairwise_mergeSort (le := fun (x y : Int) => decide (x ≤ y)) (fun a b c h1 h2 => by rw [decide_eq_true_eq] at *; omega) (fun a b => by rw [Bool.or_eq_true, decide_eq_true_eq, decide_eq_true_eq]; omega) zs
    rw [← hS] at h1
    exact h1.imp fun h => by simpa using h
  have hperm : S.Perm zs := by rw [hS]; exact List.mergeSort_perm _ _
  rw [← hS]
  have hs : ∀ i j, i ≤ j → j < S.toArray.size → S.toArray[i]! ≤ S.toArray[j]! := fun i j hij hj => by
    have hj' : j < S.length := by simpa using hj
    rw [getElem!_pos S.toArray i (by simpa using (show i < S.length by omega)), getElem!_pos S.toArray j (by simpa using hj')]
    rcases Nat.lt_or_eq_of_le hij with h1 | h1
    · exact List.pairwise_iff_getElem.1 hsort i j (by omega) hj' h1
    · subst h1; exact Int.le_refl _
  obtain ⟨h1, h2⟩ := comp_inv S.toArray hs S.length (by simp)
  refine ⟨h1, fun z => ?_⟩
  rw [← hperm.mem_iff]
  show z ∈ Lib.compactUpTo S.toArray S.length ↔ _
  rw [h2 z]
  constructor
  · rintro ⟨i, hi, e⟩
    rw [getElem!_pos S.toArray i (by simpa using hi)] at e
    rw [← e]
    simp
  · intro hz
    obtain ⟨i, hi, e⟩ := List.getElem_of_mem hz
    exact ⟨i, hi, by rw [getElem!_pos S.toArray i (by simpa using hi)]; simpa using e⟩
theorem Own.mono {w : World} {B B' size n : Nat} {e : TypeId} {v : Value} {xs : List Value} (h : Own w B e size v n xs) (hB : B' ≤ B) : Own w B' e size v n xs := by
  obtain ⟨⟨hl, h0 | ⟨g, cap, cur, hv, hb, r⟩⟩⟩ := h
  · exact ⟨⟨hl, .inl h0⟩⟩
  · exact ⟨⟨hl, .inr ⟨g, cap, cur, hv, Nat.le_trans hB hb, r⟩⟩⟩
theorem sortI_any (B c n : Nat) (A : Option Addr) (zs : List Int) (w : World) (own : Own w B 3 1 (.slice A n c) n (zs.map (Value.int .i64))) (hn : n ≤ 1000000) : Calls Tryz.prog 57 #[.slice A n c] w fun e w' => e = .returned (.tuple #[]) ∧ Own w' B 3 1 (.slice A n c) n ((zs.mergeSort fun x y => decide (x ≤ y)).map (Value.int .i64)) ∧ Below B w w' := by
  have hl : zs.length = n := by have := own.row.1; simpa using this
  rcases own.row.2 with ⟨hv, h0⟩ | ⟨g, cap, cur, hv, hb, hg, h1, h2, h3, h4⟩
  · injection hv with e1 e2 e3
    subst e1 e2 e3
    obtain rfl : zs = [] := List.eq_nil_of_length_eq_zero hl
    refine (Any.slices_Sort_int_none shSortI none 0 w).mono ?_
    rintro e w' ⟨rfl, rfl⟩
    exact ⟨rfl, by simpa using own, Below.refl _ _⟩
  · injection hv with e1 _ e3
    subst e1 e3 hl
    have hgl : g < w.heap.size := (Array.getElem?_eq_some_iff.1 hg).1
    have hH := holds_of_blockI (ss := zs) hg (by simpa using h4)
    refine (Any.slices_Sort_int shSortI g 0 c zs w hH hgl (by omega)).mono ?_
    rintro e w' ⟨rfl, m, os, rfl⟩
    exact ⟨rfl, ⟨ownsRow_sortedI (by simp) hb hg h1 h2 h3⟩, only_to_below (grownBy_sortedI _) hb hgl⟩
theorem compI_any (B c n : Nat) (A : Option Addr) (zs : List Int) (w : World) (own : Own w B 3 1 (.slice A n c) n (zs.map (Value.int .i64))) (hn : n ≤ 1000000) : Calls Tryz.prog 58 #[.slice A n c] w fun e w' => ∃ v, e = .returned v ∧ Own w' B 3 1 v (Lib.compact zs).length ((Lib.compact zs).map (Value.int .i64)) ∧ Below B w w' := by
  have hl : zs.length = n := by have := own.row.1; simpa using this
  rcases own.row.2 with ⟨hv, h0⟩ | ⟨g, cap, cur, hv, hb, hg, h1, h2, h3, h4⟩
  · injection hv with e1 e2 e3
    subst e1 e2 e3
    obtain rfl : zs = [] := List.eq_nil_of_length_eq_zero hl
    refine (Any.slices_Compact_int_empty shComp none 0 w).mono ?_
    rintro e w' ⟨rfl, rfl⟩
    exact ⟨_, rfl, own, Below.refl _ _⟩
  · injection hv with e1 _ e3
    subst e1 e3 hl
    have hgl : g < w.heap.size := (Array.getElem?_eq_some_iff.1 hg).1
    have hH := holds_of_blockI (ss := zs) hg (by simpa using h4)
    refine (Any.slices_Compact_int shComp g 0 c zs w hH (by omega) h1).mono ?_
    rintro e w' ⟨rfl, q, rfl⟩
    have hcl : (Lib.compact zs).length ≤ zs.length := by
      show (((List.range zs.length).filter _).map _).length ≤ _
      rw [List.length_map]
      exact Nat.le_trans (List.length_filter_le _ _) (by simp)
    have hr := ownsRow_sortedI (n := q) (os := #[]) (ss := zs) (ts := Lib.compact zs ++ List.replicate (zs.length - (Lib.compact zs).length) 0) (by rw [List.length_append, List.length_replicate]; omega) hb hg h1 h2 h3
    rw [grow_empty] at hr
    have hbl : Below B w (putRow (Value.int .i64) (Sort.ahead w q) g 0 (Lib.compact zs ++ List.replicate (zs.length - (Lib.compact zs).length) 0).toArray) := by
      have := grownBy_sortedI (w := w) (g := g) (n := q) (os := #[]) (Lib.compact zs ++ List.replicate (zs.length - (Lib.compact zs).length) 0).toArray
      rw [grow_empty] at this
      exact only_to_below this hb hgl
    refine ⟨_, rfl, ?_, hbl⟩
    obtain ⟨hl2, ⟨hv2, -⟩ | ⟨g2, cap2, cur2, hv2, hb2, hg2, h12, h22, h32, h42⟩⟩ := hr
    · cases hv2
    · injection hv2 with e1 _ e3
      subst e3
      refine ⟨⟨by simp, .inr ⟨g2, c, cur2, by rw [e1], hb2, hg2, by omega, h22, h32, ?_⟩⟩⟩
      rw [Nat.mul_one] at h42 ⊢
      have : cur2.toList.take (Lib.compact zs).length = (cur2.toList.take zs.length).take (Lib.compact zs).length := by rw [List.take_take, Nat.min_eq_left hcl]
      have hlm : ((Lib.compact zs).map (Value.int .i64)).length = (Lib.compact zs).length := List.length_map _
      rw [this, h42, List.map_append, ← hlm, List.take_left]
set_option maxHeartbeats 4000000 in
theorem numbers_any (B g0 gd : Nat) (D : Dk) (nm : List Nat) (num count size : Int) (broken : Bool) (w : World) (gv : Gv w) (k0 : Blk w g0 80 (wlCs gd nm num count size broken)) (dk : DkAt w B gd D) (hnm : Byt nm) (hnl : nm.length ≤ 8) (hown : ∀ p ∈ D.files, OwnNm nm p.1) :
    Calls Tryz.prog 37 #[.pointer (some ⟨g0, 0, none⟩)] w fun e w' => ∃ (v : Value) (ns : List Nat), e = .returned v ∧ ns.Pairwise (· < ·) ∧ (∀ n, n ∈ ns ↔ NumIn nm (D.files.map (·.1)) n) ∧ Own w' w.heap.size 3 1 v ns.length (ns.map fun (n : Nat) => Value.int .i64 (n : Int)) ∧ Grow w w' := by
  have bel := Below.refl w.heap.size w
  have own := Own.nil w w.heap.size 3 1
  obtain ⟨names, hnames⟩ : ∃ names, names = sortN (D.files.map (·.1)) := ⟨_, rfl⟩
  have hperm : names.Perm (D.files.map (·.1)) := by rw [hnames]; exact List.mergeSort_perm _ _
  have hmost : D.files.length ≤ 200 := by obtain ⟨m, l, F, c1, c2, h⟩ := dk; exact h.ok.most
  have hnlen : names.length = D.files.length := by rw [hperm.length_eq, List.length_map]
  have hgood : ∀ s ∈ names, OwnNm nm s := fun s hs => by
    obtain ⟨p, hp, rfl⟩ := List.mem_map.1 (hperm.mem_iff.1 hs)
    exact hown p hp
  refine Calls.start 82 Tryz.func37 rfl rfl rfl ?_
  refine Cd.seq ?_
  refine Cd.region ?_
  refine Seq.val (Runs.assign rfl rfl) rfl rfl rfl ?_
  refine Seq.nil ?_
  refine Post.weak (F' := [(0, _), (2, _)]) ⟨rfl, rfl, trivial⟩ ?_
  refine Post.then_ ?_
  refine Cd.seq ?_
  refine Cd.region ?_
  refine Seq.val (Runs.assign rfl rfl) rfl rfl rfl ?_
  refine Seq.nil ?_
  refine Post.weak (F' := [(0, _), (2, _), (3, _)]) ⟨rfl, rfl, rfl, trivial⟩ ?_
  refine Post.then_ ?_
  refine Cd.seq ?_
  refine Cd.seq ?_
  refine Cd.region ?_
  refine Seq.val (Runs.move rfl rfl) rfl rfl rfl ?_
  refine Seq.val (Runs.nilCheck rfl rfl) rfl rfl rfl ?_
  refine Seq.val (Runs.fieldB 0 rfl rfl Tryz.underlying80 rfl (by kernel_rfl)) rfl rfl rfl ?_
  refine Seq.val (Runs.loadB rfl rfl Tryz.underlying26 rfl k0 rfl) rfl rfl rfl ?_
  refine Seq.call (Enters.func rfl rfl rfl (run_enter Tryz.func31 (by kernel_rfl) rfl)) rfl rfl rfl (names_any B gd D _ (dk.step bel)) ?_
  rintro e w5 ⟨v17, rfl, ownN, hb5⟩
  refine ⟨_, rfl, ?_⟩
  rw [← hnames] at ownN
  replace bel := bel.step hb5
  replace k0 := k0.step hb5
  replace own := own.step hb5
  obtain ⟨A, c, rfl, hrd⟩ := ownN.reads
  refine Seq.val (Runs.len rfl rfl Tryz.underlying22) rfl rfl rfl ?_
  refine Seq.val (Runs.move rfl rfl) rfl rfl rfl ?_
  refine Seq.nil ?_
  refine Post.weak (F' := [(0, _), (2, _), (3, _), (17, _), (18, _), (19, _)]) ⟨rfl, rfl, rfl, rfl, rfl, rfl, trivial⟩ ?_
  refine Post.then_ ?_
  refine Cd.block ?_
  have hw5 := bel.size
  have bel0 := bel
  clear bel
  have bel := Below.refl w5.heap.size w5
  clear own
  have own := Own.nil w5 w5.heap.size 3 1
  refine Cd.loop (σ := Nat × List Nat × Value) (fun q => [(0, .pointer (some ⟨g0, 0, none⟩)), (17, .slice A D.files.length c), (18, .int .i64 (D.files.length : Int)), (19, .int .i64 (q.1 : Int)), (3, q.2.2)]) (fun q wr => q.1 ≤ D.files.length ∧ q.2.1.length ≤ q.1 ∧ (∀ n, n ∈ q.2.1 ↔ NumIn nm (names.take q.1) n) ∧ Below w5.heap.size w5 wr ∧ Blk wr g0 80 (wlCs gd nm num count size broken) ∧ Own wr w5.heap.size 3 1 q.2.2 q.2.1.length (q.2.1.map fun (n : Nat) => Value.int .i64 (n : Int))) (fun q => D.files.length - q.1) (0, [], .slice none 0 0) ⟨Nat.zero_le _, Nat.le_refl _, fun n => by simp [NumIn], bel, k0, own⟩ ⟨rfl, rfl, rfl, rfl, rfl, trivial⟩ ?_
  clear bel k0 own
  rintro ⟨j, zs, v⟩ wr ⟨hj, hzl, hmem, bel, k0, own⟩
  simp only at hj hzl hmem own
  obtain ⟨A3, c3, rfl, -⟩ := own.reads
  show Cd _ _ _ _ [(0, .pointer (some ⟨g0, 0, none⟩)), (17, .slice A D.files.length c), (18, .int .i64 (D.files.length : Int)), (19, .int .i64 (j : Int)), (3, .slice A3 zs.length c3)] _
  refine Cd.seq ?_
  refine Cd.region ?_
  refine Seq.val (Runs.lss rfl rfl rfl) rfl rfl rfl ?_
  refine Seq.nil ?_
  refine Post.weak (F' := [(0, _), (3, _), (17, _), (18, _), (19, _), (20, _)]) ⟨rfl, rfl, rfl, rfl, rfl, rfl, trivial⟩ ?_
  refine Post.then_ ?_
  refine Cd.seq ?_
  refine Cd.condD rfl (fun hc => ?_) (fun hc => ?_)
  · obtain ⟨s, hs⟩ : ∃ s, names[j]? = some s := ⟨_, List.getElem?_eq_getElem (by omega)⟩
    obtain ⟨n, k, hn, hk, rfl⟩ := hgood s (List.mem_of_getElem? hs)
    have hsf : fileN nm n (46 :: k) = (nm ++ [46]) ++ (dig6 n ++ 46 :: k) := by unfold fileN; simp
    have hd6 := dig6_len hn
    have hd6l := dig6_lt n
    have hk3 : k.length = 3 := by rcases hk with rfl | rfl | rfl <;> rfl
    have hkb : Byt k := by rcases hk with rfl | rfl | rfl <;> (intro d hd; revert d; decide)
    obtain ⟨ad, rfl, hbd, hcl⟩ := hrd.2 (by omega)
    have hcd := (bel.cell (p := ad.add j) (by rw [block_of_add]; exact hbd)).trans (hcl j (.string (strOf (fileN nm n (46 :: k)))) (by rw [get_Ts, hs]; rfl))
    have gv1 : Gv wr := gv.step (bel0.trans (bel.mono hw5))
    refine Cd.skip ?_
    refine Post.then_ ?_
    refine Cd.seq ?_
    refine Cd.block ?_
    refine Cd.seq ?_
    refine Cd.region ?_
    refine Seq.val (Runs.index1 rfl rfl rfl Tryz.underlying22 (by kernel_rfl) (j := j) rfl (by omega)) rfl rfl rfl ?_
    refine Seq.val (Runs.load1 rfl rfl Tryz.underlying9 rfl hcd) rfl rfl rfl ?_
    refine Seq.val (Runs.assign rfl rfl) rfl rfl rfl ?_
    refine Seq.nil ?_
    refine Post.weak (F' := [(0, _), (3, _), (5, _), (17, _), (18, _), (19, _), (20, _)]) ⟨rfl, rfl, rfl, rfl, rfl, rfl, rfl, trivial⟩ ?_
    refine Post.then_ ?_
    refine Cd.seq ?_
    refine Cd.region ?_
    refine Seq.val (Runs.move rfl rfl) rfl rfl rfl ?_
    refine Seq.val (Runs.move rfl rfl) rfl rfl rfl ?_
    refine Seq.val (Runs.nilCheck rfl rfl) rfl rfl rfl ?_
    refine Seq.val (Runs.fieldB 1 rfl rfl Tryz.underlying80 rfl (by kernel_rfl)) rfl rfl rfl ?_
    refine Seq.val (Runs.loadB rfl rfl Tryz.underlying9 rfl k0 rfl) rfl rfl rfl ?_
    refine Seq.val (Runs.addL (b := [46]) rfl rfl rfl (show nm.length + 1 ≤ _ by omega)) rfl rfl rfl ?_
    rw [hsf]
    refine Seq.call (Enters.func rfl rfl rfl (run_enter Tryz.func54 (by kernel_rfl) rfl)) rfl rfl rfl (cutP_any (nm ++ [46]) (dig6 n ++ 46 :: k) _) ?_
    rintro e x6 ⟨rfl, hb6⟩
    refine ⟨_, rfl, ?_⟩
    replace bel := bel.step hb6
    replace k0 := k0.step hb6
    replace own := own.step hb6
    refine Seq.val (Runs.move rfl rfl) rfl rfl rfl ?_
    refine Seq.val (Runs.extract rfl rfl rfl) rfl rfl rfl ?_
    refine Seq.val (Runs.extract rfl rfl rfl) rfl rfl rfl ?_
    refine Seq.val (Runs.assign rfl rfl) rfl rfl rfl ?_
    refine Seq.val (Runs.assign rfl rfl) rfl rfl rfl ?_
    refine Seq.nil ?_
    refine Post.weak (F' := [(0, _), (3, _), (5, _), (6, _), (7, _), (17, _), (18, _), (19, _), (20, _)]) ⟨rfl, rfl, rfl, rfl, rfl, rfl, rfl, rfl, rfl, trivial⟩ ?_
    refine Post.then_ ?_
    refine Cd.seq ?_
    refine Cd.region ?_
    refine Seq.val (Runs.move rfl rfl) rfl rfl rfl ?_
    refine Seq.call (Enters.func rfl rfl rfl (run_enter Tryz.func55 (by kernel_rfl) rfl)) rfl rfl rfl (cut_any (dig6 n) k _ (gv.step (bel0.trans (bel.mono hw5))) (fun c hc => by have := hd6l c hc; omega) (fun c hc => by have := hd6l c hc; omega) (by omega)) ?_
    rintro e x7 ⟨rfl, hb7⟩
    refine ⟨_, rfl, ?_⟩
    replace bel := bel.step hb7
    replace k0 := k0.step hb7
    replace own := own.step hb7
    refine Seq.val (Runs.move rfl rfl) rfl rfl rfl ?_
    refine Seq.val (Runs.extract rfl rfl rfl) rfl rfl rfl ?_
    refine Seq.val (Runs.extract rfl rfl rfl) rfl rfl rfl ?_
    refine Seq.val (Runs.extract rfl rfl rfl) rfl rfl rfl ?_
    refine Seq.val (Runs.assign rfl rfl) rfl rfl rfl ?_
    refine Seq.val (Runs.assign rfl rfl) rfl rfl rfl ?_
    refine Seq.val (Runs.assign rfl rfl) rfl rfl rfl ?_
    refine Seq.nil ?_
    refine Post.weak (F' := [(0, _), (3, _), (5, _), (6, _), (7, _), (8, _), (9, _), (10, _), (17, _), (18, _), (19, _), (20, _)]) ⟨rfl, rfl, rfl, rfl, rfl, rfl, rfl, rfl, rfl, rfl, rfl, rfl, trivial⟩ ?_
    refine Post.then_ ?_
    refine Cd.seq ?_
    refine Cd.region ?_
    refine Seq.val (Runs.move rfl rfl) rfl rfl rfl ?_
    refine Seq.call (Enters.func rfl rfl rfl (run_enter Tryz.func56 (by kernel_rfl) rfl)) rfl rfl rfl (atoi_any n _ hn) ?_
    rintro e x8 ⟨rfl, hb8⟩
    refine ⟨_, rfl, ?_⟩
    replace bel := bel.step hb8
    replace k0 := k0.step hb8
    replace own := own.step hb8
    refine Seq.val (Runs.move rfl rfl) rfl rfl rfl ?_
    refine Seq.val (Runs.extract rfl rfl rfl) rfl rfl rfl ?_
    refine Seq.val (Runs.extract rfl rfl rfl) rfl rfl rfl ?_
    refine Seq.val (Runs.assign rfl rfl) rfl rfl rfl ?_
    refine Seq.val (Runs.assign rfl rfl) rfl rfl rfl ?_
    refine Seq.nil ?_
    refine Post.weak (F' := [(0, _), (3, _), (5, _), (6, _), (7, _), (8, _), (9, _), (10, _), (11, _), (12, _), (17, _), (18, _), (19, _), (20, _)]) ⟨rfl, rfl, rfl, rfl, rfl, rfl, rfl, rfl, rfl, rfl, rfl, rfl, rfl, rfl, trivial⟩ ?_
    refine Post.then_ ?_
    refine Cd.seq ?_
    refine Cd.region ?_
    refine Seq.val (Runs.move rfl rfl) rfl rfl rfl ?_
    refine Seq.val (Runs.move rfl rfl) rfl rfl rfl ?_
    refine SeqC.start ?_
    refine SeqC.open rfl rfl rfl rfl rfl rfl rfl (fun hcx => Runs.move rfl rfl) ?_
    refine SeqC.and rfl rfl rfl rfl rfl rfl rfl ?_
    refine Seq.val (Runs.move rfl rfl) rfl rfl rfl ?_
    refine SeqC.start ?_
    refine SeqC.open rfl rfl rfl rfl rfl rfl rfl (fun hcx => Runs.move rfl rfl) ?_
    refine SeqC.next rfl rfl rfl rfl rfl rfl rfl (fun hcx => Runs.bin (v := .bool true) rfl rfl rfl rfl (by kernel_rfl)) ?_
    refine SeqC.and rfl rfl rfl rfl rfl rfl rfl ?_
    refine Seq.val (Runs.move rfl rfl) rfl rfl rfl ?_
    refine SeqC.start ?_
    refine SeqC.open rfl rfl rfl rfl rfl rfl rfl (fun hcx => Runs.move rfl rfl) ?_
    have hfb : Byt (fileN nm n (46 :: k)) := by
      unfold fileN
      refine Byt.app (Byt.app (Byt.app hnm (by intro d hd; simp at hd; omega)) (fun c hc => by have := hd6l c hc; omega)) ?_
      intro d hd
      rcases List.mem_cons.1 hd with rfl | hd
      · omega
      · exact hkb d hd
    refine SeqC.next rfl rfl rfl rfl rfl rfl rfl (fun hcx => Runs.eqlL (b := logB) rfl rfl rfl hkb (by decide)) ?_
    refine SeqC.next rfl rfl rfl rfl rfl rfl rfl (fun hcx => Runs.move rfl rfl) ?_
    refine SeqC.open rfl rfl rfl rfl rfl rfl rfl (fun hcx => Runs.move rfl rfl) ?_
    refine SeqC.next rfl rfl rfl rfl rfl rfl rfl (fun hcx => Runs.eqlL (b := ackB) rfl rfl rfl hkb (by decide)) ?_
    refine SeqC.orG rfl rfl rfl rfl rfl rfl rfl rfl rfl rfl rfl ?_
    refine SeqC.and rfl rfl rfl rfl rfl rfl rfl ?_
    refine Seq.val (Runs.move rfl rfl) rfl rfl rfl ?_
    refine SeqC.start ?_
    refine SeqC.open rfl rfl rfl rfl rfl rfl rfl (fun hcx => Runs.move rfl rfl) ?_
    refine SeqC.next rfl rfl rfl rfl rfl rfl rfl (fun hcx => Runs.move rfl rfl) ?_
    refine SeqC.next rfl rfl rfl rfl rfl rfl rfl (fun hcx => Runs.move rfl rfl) ?_
    refine SeqC.next rfl rfl rfl rfl rfl rfl rfl (fun hcx => Runs.addL (a := [46]) (b := k) rfl rfl rfl (by simp only [List.length_singleton]; omega)) ?_
    refine SeqC.nextC rfl rfl rfl rfl rfl rfl rfl (fun hcx => Enters.func rfl rfl rfl (run_enter Tryz.func50 (by kernel_rfl) rfl)) (fun hcx => file_any g0 gd n nm (46 :: k) num count size broken _ (gv.step (bel0.trans (bel.mono hw5))) k0 hn (by omega) (by simp only [List.length_cons]; omega)) ?_
    intro w1 hw1
    replace bel := bel.step hw1
    replace k0 := k0.step hw1
    replace own := own.step hw1
    refine SeqC.next rfl rfl rfl rfl rfl rfl rfl (fun hcx => Runs.move rfl rfl) ?_
    refine SeqC.next rfl rfl rfl rfl rfl rfl rfl (fun hcx => Runs.eqlL rfl rfl rfl hfb (by rw [← hsf]; exact hfb)) ?_
    refine SeqC.and rfl rfl rfl rfl rfl rfl rfl ?_
    refine Seq.val (Runs.move rfl rfl) rfl rfl rfl ?_
    refine SeqC.start ?_
    refine SeqC.open rfl rfl rfl rfl rfl rfl rfl (fun hcx => Runs.move rfl rfl) ?_
    refine SeqC.next rfl rfl rfl rfl rfl rfl rfl (fun hcx => Runs.geq rfl rfl rfl) ?_
    refine SeqC.and rfl rfl rfl rfl rfl rfl rfl ?_
    refine Seq.nil ?_
    refine Post.weak (F' := [(0, _), (3, _), (5, _), (6, _), (7, _), (8, _), (9, _), (10, _), (11, _), (12, _), (17, _), (18, _), (19, _), (20, _), (72, _)]) ⟨rfl, rfl, rfl, rfl, rfl, rfl, rfl, rfl, rfl, rfl, rfl, rfl, rfl, rfl, rfl, trivial⟩ ?_
    refine Post.then_ ?_
    have hval : (decide (k = logB) || decide (k = ackB)) = true ↔ (k = logB ∨ k = ackB) := by rw [Bool.or_eq_true, decide_eq_true_eq, decide_eq_true_eq]
    have hnj : names.take (j + 1) = names.take j ++ [fileN nm n (46 :: k)] := take_last hs
    refine Cd.cond rfl (fun h => ?_) (fun h => ?_)
    · have hkk : k = logB ∨ k = ackB := by
        apply hval.1
        cases e : (decide (k = logB) || decide (k = ackB)) with
        | true => rfl
        | false =>
          exfalso
          have h' : (true && true && true && (decide (k = logB) || decide (k = ackB)) && decide (fileN nm n (46 :: k) = nm ++ [46] ++ (dig6 n ++ 46 :: k)) && decide ((0 : Int) ≤ (n : Int))) = true := h
          rw [e] at h'
          simp at h'
      refine Cd.region ?_
      refine Seq.val (Runs.move rfl rfl) rfl rfl rfl ?_
      refine Seq.val (Runs.move rfl rfl) rfl rfl rfl ?_
      refine Seq.slice (vs := [_]) (s := 1) rfl rfl rfl Tryz.underlying81 (by kernel_rfl) (zero_int) (by omega) (by omega) ⟨rfl, trivial⟩ rfl rfl rfl ?_
      intro g75 w2 n75
      have e75 := Nat.le_trans bel.size n75.ge
      have l75 := Nat.lt_of_lt_of_le k0.lt n75.ge
      replace bel := bel.step n75.below
      replace k0 := k0.step n75.below
      replace own := own.step n75.below
      have k75 := n75.blk
      have hrx := Reads.blk (size := 1) k75 1 rfl
      refine Seq.append rfl rfl rfl Tryz.underlying81 (by kernel_rfl) zero_int rfl (by decide) (b := 8) (by kernel_rfl) own hrx (ones_nat [n]) bel.size (by simp only [maxLen]; omega) (by omega) rfl rfl rfl ?_
      intro v2 wb own2 ha
      have bel2 := bel.trans ha.below
      have k02 := k0.appNe own ha
      replace own2 : Own wb w5.heap.size 3 1 v2 (zs.length + 1) ((zs.map fun (n : Nat) => Value.int .i64 (n : Int)) ++ [n].map fun (n : Nat) => Value.int .i64 (n : Int)) := own2
      rw [← List.map_append] at own2
      clear bel own k75 hrx ha k0
      have bel := bel2
      have own := own2
      have k0 := k02
      clear bel2 own2 k02
      refine Seq.val (Runs.assign rfl rfl) rfl rfl rfl ?_
      refine Seq.nil ?_
      refine Post.weak (F' := [(0, _), (3, _), (5, _), (6, _), (7, _), (8, _), (9, _), (10, _), (11, _), (12, _), (17, _), (18, _), (19, _), (20, _), (72, _)]) ⟨rfl, rfl, rfl, rfl, rfl, rfl, rfl, rfl, rfl, rfl, rfl, rfl, rfl, rfl, rfl, trivial⟩ ?_
      refine Post.block_normal ?_
      refine Post.then_ ?_
      refine Cd.region ?_
      refine Seq.val (Runs.addI rfl rfl rfl (by omega) (by omega)) rfl rfl rfl ?_
      refine Seq.val (Runs.move rfl rfl) rfl rfl rfl ?_
      refine Seq.nil ?_
      refine Post.weak (F' := [(0, _), (3, _), (5, _), (6, _), (7, _), (8, _), (9, _), (10, _), (11, _), (12, _), (17, _), (18, _), (19, _), (20, _), (72, _)]) ⟨rfl, rfl, rfl, rfl, rfl, rfl, rfl, rfl, rfl, rfl, rfl, rfl, rfl, rfl, rfl, trivial⟩ ?_
      exact Post.round (j + 1, zs ++ [n], v2) ⟨rfl, rfl, rfl, int_at (by omega), rfl, trivial⟩ ⟨by simp only; omega, by simp only [List.length_append, List.length_singleton]; omega, fun m => by rw [hnj, numIn_more hn, ← hmem m]; simp [hkk], bel, k0, by simpa using own⟩ (by simp only; omega)
    · have hkk : ¬ (k = logB ∨ k = ackB) := by
        intro hkk
        have h' : (true && true && true && (decide (k = logB) || decide (k = ackB)) && decide (fileN nm n (46 :: k) = nm ++ [46] ++ (dig6 n ++ 46 :: k)) && decide ((0 : Int) ≤ (n : Int))) = false := h
        rw [hval.2 hkk, ← hsf, decide_eq_true rfl, decide_eq_true (by omega)] at h'
        cases h'
      refine Cd.skip ?_
      refine Post.block_normal ?_
      refine Post.then_ ?_
      refine Cd.region ?_
      refine Seq.val (Runs.addI rfl rfl rfl (by omega) (by omega)) rfl rfl rfl ?_
      refine Seq.val (Runs.move rfl rfl) rfl rfl rfl ?_
      refine Seq.nil ?_
      refine Post.weak (F' := [(0, _), (3, _), (5, _), (6, _), (7, _), (8, _), (9, _), (10, _), (11, _), (12, _), (17, _), (18, _), (19, _), (20, _), (72, _)]) ⟨rfl, rfl, rfl, rfl, rfl, rfl, rfl, rfl, rfl, rfl, rfl, rfl, rfl, rfl, rfl, trivial⟩ ?_
      exact Post.round (j + 1, zs, .slice A3 zs.length c3) ⟨rfl, rfl, rfl, int_at (by omega), rfl, trivial⟩ ⟨by simp only; omega, by simp only; omega, fun m => by rw [hnj, numIn_more hn, hmem m]; simp [hkk], bel, k0, own⟩ (by simp only; omega)
  · have hall : ∀ n, n ∈ zs ↔ NumIn nm (D.files.map (·.1)) n := fun n => by
      rw [hmem n, List.take_of_length_le (by omega)]
      unfold NumIn
      rw [hperm.mem_iff, hperm.mem_iff]
    refine Cd.exit ?_
    refine Post.then_exit ?_
    refine Post.round_exit ?_
    refine Post.block_exit ?_
    refine Post.then_ ?_
    refine Cd.seq ?_
    refine Cd.region ?_
    refine Seq.val (Runs.move rfl rfl) rfl rfl rfl ?_
    have hmap : ∀ l : List Nat, (l.map fun (n : Nat) => Value.int .i64 (n : Int)) = (l.map fun (n : Nat) => (n : Int)).map (Value.int .i64) := fun l => by rw [List.map_map]; rfl
    rw [hmap] at own
    refine Seq.call (Enters.func rfl rfl rfl (run_enter Tryz.func57 (by kernel_rfl) rfl)) rfl rfl rfl (sortI_any w5.heap.size c3 zs.length A3 (zs.map fun (n : Nat) => (n : Int)) _ own (by omega)) ?_
    clear own k0
    rintro e x1 ⟨rfl, own, hb1⟩
    refine ⟨_, rfl, ?_⟩
    replace bel := bel.trans hb1
    have hpress := press (zs := zs.map fun (n : Nat) => (n : Int))
    obtain ⟨Z, hZ⟩ : ∃ Z, Z = (zs.map fun (n : Nat) => (n : Int)).mergeSort fun x y => decide (x ≤ y) := ⟨_, rfl⟩
    rw [← hZ] at own hpress
    refine Seq.nil ?_
    refine Post.weak (F' := [(0, _), (3, _), (17, _), (18, _), (19, _), (20, _)]) ⟨rfl, rfl, rfl, rfl, rfl, rfl, trivial⟩ ?_
    refine Post.then_ ?_
    refine Cd.seq ?_
    refine Cd.region ?_
    refine Seq.val (Runs.move rfl rfl) rfl rfl rfl ?_
    refine Seq.call (Enters.func rfl rfl rfl (run_enter Tryz.func58 (by kernel_rfl) rfl)) rfl rfl rfl (compI_any w5.heap.size c3 zs.length A3 Z _ own (by omega)) ?_
    clear own
    rintro e x2 ⟨v2, rfl, own, hb2⟩
    refine ⟨_, rfl, ?_⟩
    replace bel := bel.trans hb2
    refine Seq.val (Runs.assign rfl rfl) rfl rfl rfl ?_
    refine Seq.nil ?_
    refine Post.weak (F' := [(0, _), (2, _), (3, _), (17, _), (18, _), (19, _), (20, _)]) ⟨rfl, rfl, rfl, rfl, rfl, rfl, rfl, trivial⟩ ?_
    refine Post.then_ ?_
    refine Cd.ret ?_
    refine Post.end1 rfl rfl (.inl rfl) ?_
    have hback : ((Lib.compact Z).map Int.toNat).map (fun (n : Nat) => (n : Int)) = Lib.compact Z := by
      rw [List.map_map]
      conv => rhs; rw [← List.map_id (Lib.compact Z)]
      refine List.map_congr_left fun z hz => ?_
      obtain ⟨n, -, rfl⟩ := List.mem_map.1 ((hpress.2 z).1 hz)
      rfl
    refine ⟨v2, (Lib.compact Z).map Int.toNat, rfl, ?_, fun n => ?_, ?_, ?_⟩
    · have h1 := hpress.1
      rw [← hback] at h1
      exact (List.pairwise_map.1 h1).imp fun h => by omega
    · rw [← hall n]
      constructor
      · intro hn
        have h1 : (n : Int) ∈ Lib.compact Z := by rw [← hback]; exact List.mem_map.2 ⟨n, hn, rfl⟩
        obtain ⟨m, hm, e⟩ := List.mem_map.1 ((hpress.2 _).1 h1)
        obtain rfl : m = n := by omega
        exact hm
      · intro hn
        exact List.mem_map.2 ⟨(n : Int), (hpress.2 _).2 (List.mem_map.2 ⟨n, hn, rfl⟩), by simp⟩
    · rw [hmap, hback, List.length_map]
      exact own.mono hw5
    · exact bel0.trans (bel.mono hw5)
end Go.Proofs.YtnlepoplncjliaaGreatDoor

namespace Go.Proofs.YtnlepoplncjliaaGreatDoor
open Go.RowKit

/-- What a log's methods leave as it was. -/
structure Lf (B : Nat) (w w' : World) : Prop where
  below : Below (min B w.heap.size) w w'
  keep : ∀ k t cs, Blk w k t cs → t ≠ 77 → t ≠ 91 → t ≠ 80 → Blk w' k t cs
section
variable {B : Nat} {w w' w'' : World}
theorem Lf.refl (B : Nat) (w : World) : Lf B w w := ⟨Below.refl _ _, fun _ _ _ h _ _ _ => h⟩
theorem Lf.trans (h : Lf B w w') (k : Lf B w' w'') : Lf B w w'' := ⟨h.below.trans (k.below.mono (by have := h.below.size; omega)), fun i t cs hb h1 h2 h3 => k.keep i t cs (h.keep i t cs hb h1 h2 h3) h1 h2 h3⟩
theorem Lf.lf (h : Lf B w w') (k : Lf B w' w'') : Lf B w w'' := h.trans k
theorem Lf.of (h : Df B w w') : Lf B w w' := ⟨h.below, fun i t cs hb h1 h2 _ => h.keep i t cs hb h1 h2⟩
theorem Lf.df (h : Lf B w w') (k : Df B w' w'') : Lf B w w'' := h.trans (Lf.of k)
theorem Lf.step (h : Lf B w w') (k : Below w'.heap.size w' w'') : Lf B w w'' := h.df (Df.grow k)
theorem Lf.size (h : Lf B w w') : w.heap.size ≤ w'.heap.size := h.below.size
theorem Lf.to (h : Lf B w w') (hB : B ≤ w.heap.size) : Below B w w' := by have := h.below; rwa [Nat.min_eq_left hB] at this
theorem Lf.putX {g : Nat} {T : TypeId} {cur cs : Array Value} (h : Lf B w w') (k : Blk w' g T cur) (p : Put w' w'' g T cs) (ht : (B ≤ g ∧ T = 80) ∨ w.heap.size ≤ g) : Lf B w w'' := by
  refine ⟨h.below.trans (p.below (by omega) k.lt), fun i t cs' hb h3 h4 h5 => (h.keep i t cs' hb h3 h4 h5).grown p.grown (fun e => ?_)⟩
  injection e with e
  have hb1 := h.keep i t cs' hb h3 h4 h5
  have hb2 := hb.lt
  rcases ht with ⟨-, h2⟩ | h1
  · have h6 : w'.heap[i]? = some (.cells cs' t) := hb1
    have h7 : w'.heap[g]? = some (.cells cur T) := k
    rw [← e, h6] at h7
    injection h7 with h7
    injection h7 with _ h7
    exact h5 (h7.trans h2)
  · omega
theorem Lf.put {B' g : Nat} {T : TypeId} {cur cs : Array Value} (h : Lf B w w') (k : Blk w' g T cur) (p : Put w' w'' g T cs) (e : B' ≤ g) (ht : (B ≤ B' ∧ T = 80) ∨ w.heap.size ≤ B' := by first | exact .inl ⟨by omega, rfl⟩ | exact .inr (by omega)) : Lf B w w'' :=
  h.putX k p (by rcases ht with ⟨h1, h2⟩ | h1; exact .inl ⟨by omega, h2⟩; exact .inr (by omega))
theorem Blk.lf {k : Nat} {t : TypeId} {cs : Array Value} (h : Blk w k t cs) (f : Lf B w w') (h1 : t ≠ 77 := by decide) (h2 : t ≠ 91 := by decide) (h3 : t ≠ 80 := by decide) : Blk w' k t cs := f.keep k t cs h h1 h2 h3
theorem Reads.lf {B2 size n : Nat} {A : Option Addr} {xs : List Value} (h : Reads w B2 size A n xs) (f : Lf B w w') (hB : B2 ≤ B) (hs : B2 ≤ w.heap.size) : Reads w' B2 size A n xs := h.below (f.below.mono (by omega))
theorem Own.lf {B' size n : Nat} {e : TypeId} {v : Value} {xs : List Value} (h : Own w B' e size v n xs) (f : Lf B w w') (h1 : e ≠ 77 := by decide) (h2 : e ≠ 91 := by decide) (h3 : e ≠ 80 := by decide) : Own w' B' e size v n xs := by
  obtain ⟨⟨hl, h0 | ⟨g, cap, cur, rfl, hB, hg, r⟩⟩⟩ := h
  · exact ⟨⟨hl, .inl h0⟩⟩
  · exact ⟨⟨hl, .inr ⟨g, cap, cur, rfl, hB, f.keep g e cur hg h1 h2 h3, r⟩⟩⟩
theorem Gv.lf (h : Gv w) (f : Lf B w w') (hB : 4 < B := by omega) : Gv w' := h.below f.below (by have := tab_lt h.pow; omega)
/-- A slice of one's own, beside another one (of another type) that grows. -/
theorem Own.appNe {B1 B2 B3 n1 n2 s1 s2 : Nat} {e1 e2 : TypeId} {v1 v2 : Value} {xs1 xs2 : List Value} (h : Own w B1 e1 s1 v1 n1 xs1) (o : Own w B2 e2 s2 v2 n2 xs2) (ha : App w w' B3 v2) (hne : e2 ≠ e1 := by decide) : Own w' B1 e1 s1 v1 n1 xs1 := by
  obtain ⟨⟨hl, h0 | ⟨g, cap, cur, rfl, hB, hg, r⟩⟩⟩ := h
  · exact ⟨⟨hl, .inl h0⟩⟩
  · have hg' : Blk w g e1 cur := hg
    exact ⟨⟨hl, .inr ⟨g, cap, cur, rfl, hB, hg'.appNe o ha hne, r⟩⟩⟩
/-- The first ones of a slice of one's own. -/
theorem Own.takeN {B1 size n c : Nat} {e : TypeId} {A : Option Addr} {xs : List Value} (h : Own w B1 e size (.slice A n c) n xs) (k : Nat) (hk : k ≤ n) : Own w B1 e size (.slice A k c) k (xs.take (k * size)) := by
  obtain ⟨⟨hl, ⟨hv, h0⟩ | ⟨g, cap, cur, hv, hB, hg, h1, h2, h3, h4⟩⟩⟩ := h
  · injection hv with e1 e2 e3
    subst e1 e2 e3
    obtain rfl : k = 0 := by omega
    refine ⟨⟨by simp, .inl ⟨rfl, rfl⟩⟩⟩
  · injection hv with e1 e2 e3
    subst e1 e3
    have hks : k * size ≤ n * size := Nat.mul_le_mul_right _ hk
    refine ⟨⟨by rw [List.length_take, hl]; omega, .inr ⟨g, c, cur, rfl, hB, hg, by omega, h2, h3, ?_⟩⟩⟩
    have := congrArg (List.take (k * size)) h4
    rw [List.take_take, Nat.min_eq_left hks] at this
    exact this
end
section
variable {P : Program} {E : Operand → Option Value} {o : Oper} {w : World} {x y : Operand} {T : TypeId}
theorem addr_zero (ad : Addr) : ad.add 0 = ad := by unfold Addr.add; simp
theorem Runs.sliceN {k : IntKind} {A : Option Addr} {n c e s j : Nat} {p : Int} (ho : o.op = .slice T x none (some y) none) (hx : E x = some (.slice A n c)) (hy : E y = some (.int k p)) (hT : P.underlying T = some (.slice e)) (hs : sizeIs P e s = true) (hp : p = (j : Int)) (hj : j ≤ c) : Runs P E o w (.slice A j c) w := fun ρ h => by
  subst hp
  have he : P.elem T = e := by simp [Program.elem, hT]
  have hT' : P.underlying T = some (.slice (P.elem T)) := by rw [he]; exact hT
  obtain ⟨i, hi, hsz⟩ := sizeIs_spec hs
  have h1 := run_slice_h (P := P) (w := w) T A n c hT' k (j : Int) (by omega) (by omega)
  rw [he, run_sizeOf (h := hi)] at h1
  unfold execOp; simp only [ho, Option.map_some, Option.map_none]; rw [h _ _ hx, h _ _ hy]
  simp only [Sem.run_bind, run_sliceAt_slice (h := hT'), h1, Result.andThen_ok]
  have h2 : sliced A 0 j c (P.cellsOf e) = .slice A j c := by
    unfold sliced
    congr 1
    split
    · rfl
    · cases A <;> simp [addr_zero]
  rw [Int.toNat_natCast, h2]
  rfl
end
theorem Own.cap {w : World} {B1 size n c : Nat} {e : TypeId} {A : Option Addr} {xs : List Value} (h : Own w B1 e size (.slice A n c) n xs) : n ≤ c := by
  obtain ⟨⟨hl, ⟨hv, h0⟩ | ⟨g, cap, cur, hv, hB, hg, h1, h2, h3, h4⟩⟩⟩ := h
  · injection hv with e1 e2 e3
    omega
  · injection hv with e1 e2 e3
    omega
theorem DkR.size {w : World} {B g m : Nat} {D : Dk} {l : List (List Nat × Nat)} {F : Nat → Fil} {c1 c2 : Int} (h : DkR w B g D m l F c1 c2) : B ≤ w.heap.size := Nat.le_trans h.hB (Nat.le_of_lt h.k.lt)
theorem DkAt.size {w : World} {B g : Nat} {D : Dk} (h : DkAt w B g D) : B ≤ w.heap.size := by
  obtain ⟨m, l, F, c1, c2, h⟩ := h
  exact h.size
theorem DkAt.ok {w : World} {B g : Nat} {D : Dk} (h : DkAt w B g D) : D.ok := by
  obtain ⟨m, l, F, c1, c2, h⟩ := h
  exact h.ok
theorem DkAt.nd {w : World} {B g : Nat} {D : Dk} (h : DkAt w B g D) : (D.files.map (·.1)).Nodup := by
  obtain ⟨m, l, F, c1, c2, h⟩ := h
  rw [h.fl, fs_names]
  exact h.mp.nodup
theorem Lf.app {w w' w'' : World} {B B2 B3 n size : Nat} {e : TypeId} {v : Value} {xs : List Value} (h : Lf B w w') (_o : Own w' B2 e size v n xs) (ha : App w' w'' B3 v) (h0 : w.heap.size ≤ B3) : Lf B w w'' := by
  refine ⟨h.below.trans (ha.below.mono (by omega)), fun i t cs hb h3 h4 h5 => ?_⟩
  have h6 := h.keep i t cs hb h3 h4 h5
  have h7 : w''.heap[i]? = w'.heap[i]? := ha.below.block i (by have := hb.lt; omega)
  exact h7.trans h6
theorem DkAt.mono {w : World} {B B' g : Nat} {D : Dk} (h : DkAt w B g D) (hB : B' ≤ B) : DkAt w B' g D := by
  obtain ⟨m, l, F, c1, c2, h⟩ := h
  exact ⟨m, l, F, c1, c2, h.k, h.mp, Nat.le_trans hB h.hm, ⟨fun p hp => ⟨Nat.le_trans hB (h.fs.blk p hp).1, (h.fs.blk p hp).2⟩, h.fs.nd⟩, h.fl, Nat.le_trans hB h.hB, h.ok⟩
end Go.Proofs.YtnlepoplncjliaaGreatDoor

namespace Go.Proofs.YtnlepoplncjliaaGreatDoor
open Go.RowKit

def logK : List Nat := 46 :: logB
def ackK : List Nat := 46 :: ackB
def newK : List Nat := 46 :: newB
/-- Without a file, if it is there. -/
def Dk.dropE (D : Dk) (nm : List Nat) : Int := if D.thereE [nm] nm = 7 then 0 else D.thereE [nm] nm
/-- A mark behind a file's bytes, safe. -/
def Dk.note (D : Dk) (ack : List Nat) (c : Nat) : Dk × Int :=
  if D.appendE ack (markN c) ≠ 0 then (D.append ack (markN c), D.appendE ack (markN c))
  else ((D.append ack (markN c)).sync ack, (D.append ack (markN c)).thereE [ack] ack)
/-- A segment's mark laid anew. -/
def Dk.fresh (D : Dk) (fresh ack : List Nat) (c : Nat) : Dk × Int :=
  if D.appendE fresh (markN c) ≠ 0 then (D.append fresh (markN c), D.appendE fresh (markN c))
  else if (D.append fresh (markN c)).thereE [fresh] fresh ≠ 0 then ((D.append fresh (markN c)).sync fresh, (D.append fresh (markN c)).thereE [fresh] fresh)
  else (((D.append fresh (markN c)).sync fresh).rename fresh ack, ((D.append fresh (markN c)).sync fresh).thereE [fresh, ack] fresh)
/-- A segment is sealed. -/
def Dk.again (D : Dk) (nm : List Nat) (n cnt : Nat) : Dk × Int :=
  if D.dropE (fileN nm n newK) ≠ 0 then (D.delete (fileN nm n newK), D.dropE (fileN nm n newK))
  else if 200 ≤ (D.delete (fileN nm n newK)).files.length then
    if (D.delete (fileN nm n newK)).dropE (fileN nm n ackK) ≠ 0 then ((D.delete (fileN nm n newK)).delete (fileN nm n ackK), (D.delete (fileN nm n newK)).dropE (fileN nm n ackK))
    else ((D.delete (fileN nm n newK)).delete (fileN nm n ackK)).note (fileN nm n ackK) (4294967296 + cnt)
  else (D.delete (fileN nm n newK)).fresh (fileN nm n newK) (fileN nm n ackK) (4294967296 + cnt)
/-- A file's bytes; those of none are none. -/
def Dk.datN (D : Dk) (nm : List Nat) : List Nat := ((D.get nm).map (·.data)).getD []
/-- A segment's records, and what becomes of the disk. -/
def segN (D : Dk) (nm : List Nat) (n : Nat) : Dk × Int × List (List Nat) :=
  if (allN (D.datN (fileN nm n logK))).1.length < (countN (D.datN (fileN nm n ackK))).1 then (D, 9, [])
  else if (countN (D.datN (fileN nm n ackK))).2 = true then (D, 0, (allN (D.datN (fileN nm n logK))).1.take (countN (D.datN (fileN nm n ackK))).1)
  else if (countN (D.datN (fileN nm n ackK))).1 < (allN (D.datN (fileN nm n logK))).1.length ∨ (allN (D.datN (fileN nm n logK))).2.1 < (D.datN (fileN nm n logK)).length then
    ((D.again nm n (allN (D.datN (fileN nm n logK))).1.length).1, (D.again nm n (allN (D.datN (fileN nm n logK))).1.length).2, (allN (D.datN (fileN nm n logK))).1)
  else (D, 0, (allN (D.datN (fileN nm n logK))).1)
theorem numsL_ex (nm : List Nat) (names : List (List Nat)) : ∃ l : List Nat, l.Pairwise (· < ·) ∧ l.length ≤ 1000000 ∧ ∀ n, n ∈ l ↔ NumIn nm names n := by
  classical
  obtain ⟨M, hM⟩ : ∃ M, M = 1000000 := ⟨_, rfl⟩
  refine ⟨(List.range M).filter fun n => decide (NumIn nm names n), List.Pairwise.filter _ List.pairwise_lt_range, Nat.le_trans (List.length_filter_le _ _) (by rw [List.length_range]; omega), fun n => ?_⟩
  rw [List.mem_filter, List.mem_range, decide_eq_true_eq]
  exact ⟨fun h => h.2, fun h => ⟨by have := h.1; omega, h⟩⟩
/-- The numbers that names tell, in order. -/
noncomputable def numsL (nm : List Nat) (names : List (List Nat)) : List Nat := Classical.choose (numsL_ex nm names)
theorem numsL_mem {nm : List Nat} {names : List (List Nat)} {n : Nat} : n ∈ numsL nm names ↔ NumIn nm names n := (Classical.choose_spec (numsL_ex nm names)).2.2 n
theorem numsL_inc {nm : List Nat} {names : List (List Nat)} : (numsL nm names).Pairwise (· < ·) := (Classical.choose_spec (numsL_ex nm names)).1
theorem numsL_len {nm : List Nat} {names : List (List Nat)} : (numsL nm names).length ≤ 1000000 := (Classical.choose_spec (numsL_ex nm names)).2.1
theorem inc_eq : ∀ {a b : List Nat}, a.Pairwise (· < ·) → b.Pairwise (· < ·) → (∀ n, n ∈ a ↔ n ∈ b) → a = b
  | [], [], _, _, _ => rfl
  | [], y :: b, _, _, h => absurd ((h y).2 List.mem_cons_self) (by simp)
  | x :: a, [], _, _, h => absurd ((h x).1 List.mem_cons_self) (by simp)
  | x :: a, y :: b, ha, hb, h => by
    rw [List.pairwise_cons] at ha hb
    have e : x = y := by
      rcases List.mem_cons.1 ((h x).1 List.mem_cons_self) with h1 | h1
      · exact h1
      · rcases List.mem_cons.1 ((h y).2 List.mem_cons_self) with h2 | h2
        · exact h2.symm
        · have := hb.1 x h1
          have := ha.1 y h2
          omega
    subst e
    congr 1
    refine inc_eq ha.2 hb.2 fun n => ⟨fun hn => ?_, fun hn => ?_⟩
    · rcases List.mem_cons.1 ((h n).1 (List.mem_cons_of_mem _ hn)) with h1 | h1
      · have := ha.1 n hn; omega
      · exact h1
    · rcases List.mem_cons.1 ((h n).2 (List.mem_cons_of_mem _ hn)) with h1 | h1
      · have := hb.1 n hn; omega
      · exact h1
/-- All segments, one behind the other: the disk, why not, the records, the next number. -/
def openGo (nm : List Nat) : List Nat → Dk → List (Nat × List Nat) → Nat → Dk × Int × List (Nat × List Nat) × Nat
  | [], D, acc, num => (D, 0, acc, num)
  | n :: r, D, acc, _ => if (segN D nm n).2.1 ≠ 0 then ((segN D nm n).1, (segN D nm n).2.1, [], 0) else openGo nm r (segN D nm n).1 (acc ++ (segN D nm n).2.2.map fun s => (n, s)) (n + 1)
noncomputable def openW (D : Dk) (nm : List Nat) : Dk × Int × List (Nat × List Nat) × Nat := openGo nm (numsL nm (D.files.map (·.1))) D [] 0
theorem thereE_off {D : Dk} {ns : List (List Nat)} {nm : List Nat} (h : D.thereE ns nm = 0 ∨ D.thereE ns nm = 7) : D.tick.off = false := by
  have hb : D.beginE ns = 0 := by
    unfold Dk.thereE at h
    split at h
    · rename_i h1
      unfold Dk.beginE at h h1
      split at h
      · rcases h with h | h <;> cases h
      · split at h
        · rename_i h2 h3; rw [if_neg h2, if_pos h3] at h1; exact absurd rfl h1
        · rcases h with h | h <;> cases h
    · rename_i h1; omega
  exact (beginE_zero hb).1
theorem sync_off (D : Dk) (nm : List Nat) : (D.sync nm).off = D.tick.off := by
  unfold Dk.sync
  split
  · split <;> rfl
  · rfl
theorem rename_off (D : Dk) (a b : List Nat) : (D.rename a b).off = D.tick.off := by
  unfold Dk.rename
  split
  · rfl
  · split <;> rfl
theorem note_off {D : Dk} {ack : List Nat} {c : Nat} (h : (D.note ack c).2 = 0) : (D.note ack c).1.off = false := by
  unfold Dk.note at h ⊢
  split at h
  · rename_i h1; exact absurd h h1
  · rename_i h1
    rw [if_neg h1, sync_off]
    exact thereE_off (.inl h)
theorem fresh_off {D : Dk} {a b : List Nat} {c : Nat} (h : (D.fresh a b c).2 = 0) : (D.fresh a b c).1.off = false := by
  unfold Dk.fresh at h ⊢
  split at h
  · rename_i h1; exact absurd h h1
  · rename_i h1
    rw [if_neg h1]
    split at h
    · rename_i h2; exact absurd h h2
    · rename_i h2
      rw [if_neg h2, rename_off]
      exact thereE_off (.inl h)
theorem again_off {D : Dk} {nm : List Nat} {n c : Nat} (h : (D.again nm n c).2 = 0) : (D.again nm n c).1.off = false := by
  unfold Dk.again at h ⊢
  split at h
  · rename_i h1; exact absurd h h1
  · rename_i h1
    rw [if_neg h1]
    split at h
    · rename_i h2
      rw [if_pos h2]
      split at h
      · rename_i h3; exact absurd h h3
      · rename_i h3
        rw [if_neg h3]
        exact note_off h
    · rename_i h2
      rw [if_neg h2]
      exact fresh_off h
theorem segN_off {D : Dk} {nm : List Nat} {n : Nat} (h0 : D.off = false) (h : (segN D nm n).2.1 = 0) : (segN D nm n).1.off = false := by
  unfold segN at h ⊢
  split at h
  · cases h
  rename_i h1
  rw [if_neg h1]
  split at h
  · rename_i h2
    rw [if_pos h2]
    exact h0
  rename_i h2
  rw [if_neg h2]
  split at h
  · rename_i h3
    rw [if_pos h3]
    exact again_off h
  · rename_i h3
    rw [if_neg h3]
    exact h0
end Go.Proofs.YtnlepoplncjliaaGreatDoor

namespace Go.Proofs.YtnlepoplncjliaaGreatDoor
open Go.RowKit

theorem foldB (k n : Nat) : ∀ a, (beB k n).foldl (fun n c => n * 256 + c) a = a * 256 ^ k + n % 256 ^ k := by
  induction k with
  | zero => intro a; simp [beB, Nat.mod_one]
  | succ k ih =>
    intro a
    rw [beB, List.foldl_cons, ih, Nat.mod_pow_succ, Nat.pow_succ]
    generalize 256 ^ k = p
    generalize n / p % 256 = d
    generalize n % p = r
    rw [Nat.add_mul, Nat.mul_assoc, Nat.mul_comm 256 p, Nat.mul_comm d p]
    omega
theorem valB_be {k n : Nat} (h : n < 256 ^ k) : valB (beB k n) = n := by
  unfold valB
  rw [foldB, Nat.mod_eq_of_lt h]
  omega
def framesN (l : List (List Nat)) : List Nat := l.flatMap frameN
def marksL (l : List Nat) : List Nat := l.flatMap markN
def marksN (k : Nat) : List Nat := marksL ((List.range k).map (· + 1))
theorem framesN_app (a b : List (List Nat)) : framesN (a ++ b) = framesN a ++ framesN b := by simp [framesN]
theorem framesN_one (s : List Nat) : framesN [s] = frameN s := by simp [framesN]
theorem marksN_succ (k : Nat) : marksN (k + 1) = marksN k ++ markN (k + 1) := by simp [marksN, marksL, List.range_succ]
theorem openN_frame {s : List Nat} (r : List Nat) (hl : s.length ≤ 131072) : openN (frameN s ++ r) = (s, s.length + 12, 0) := by
  have hv : valB (beB 4 s.length) = s.length := valB_be (by rw [show (256 : Nat) ^ 4 = 4294967296 by decide]; omega)
  obtain ⟨X, hX⟩ : ∃ X, X = beB 4 s.length := ⟨_, rfl⟩
  have hXl : X.length = 4 := by rw [hX, beB_len]
  obtain ⟨Y, hY⟩ : ∃ Y, Y = laidC X := ⟨_, rfl⟩
  have hYl : Y.length = 4 := by rw [hY, laidC_len]
  obtain ⟨Z, hZ⟩ : ∃ Z, Z = laidC s := ⟨_, rfl⟩
  have hZl : Z.length = 4 := by rw [hZ, laidC_len]
  have hf : frameN s ++ r = X ++ (Y ++ (s ++ (Z ++ r))) := by
    unfold frameN
    rw [← hX, ← hY, ← hZ]
    simp
  rw [← hX] at hv
  rw [hf]
  have t4 : (X ++ (Y ++ (s ++ (Z ++ r)))).take 4 = X := List.take_left' hXl
  have d4 : (X ++ (Y ++ (s ++ (Z ++ r)))).drop 4 = Y ++ (s ++ (Z ++ r)) := List.drop_left' hXl
  have d8 : (X ++ (Y ++ (s ++ (Z ++ r)))).drop 8 = s ++ (Z ++ r) := by
    rw [← List.append_assoc]
    exact List.drop_left' (by rw [List.length_append]; omega)
  have d8n : (X ++ (Y ++ (s ++ (Z ++ r)))).drop (8 + s.length) = Z ++ r := by
    rw [← List.drop_drop, d8]
    exact List.drop_left' rfl
  have hlen : (X ++ (Y ++ (s ++ (Z ++ r)))).length = 12 + s.length + r.length := by simp only [List.length_append]; omega
  unfold openN
  rw [t4, d4, d8, hv, d8n, hlen, List.take_left' hYl, List.take_left' rfl, List.take_left' hZl, ← hY, ← hZ, if_neg (by omega), if_neg (by simp; omega), if_neg (by omega), if_neg (by simp)]
  congr 2
  omega
theorem allGo_frames : ∀ (l : List (List Nat)) (f : Nat), (∀ s ∈ l, s.length ≤ 131072) → (framesN l).length ≤ f → allGo f (framesN l) = (l, (framesN l).length, 0)
  | [], f, _, _ => by
    cases f with
    | zero => rfl
    | succ f => simp [allGo, framesN]
  | s :: l, f, h, hf => by
    have hs := h s List.mem_cons_self
    have e : framesN (s :: l) = frameN s ++ framesN l := by simp [framesN]
    have hl := frameN_len s
    rw [e, List.length_append] at hf
    obtain ⟨f, rfl⟩ : ∃ k, f = k + 1 := ⟨f - 1, by omega⟩
    have hne : frameN s ++ framesN l ≠ [] := fun h0 => by
      have : 0 < (frameN s ++ framesN l).length := by rw [List.length_append]; omega
      rw [h0] at this
      exact absurd this (by simp)
    rw [e, allGo, if_neg hne, openN_frame _ hs]
    have hd : (frameN s ++ framesN l).drop (s.length + 12) = framesN l := List.drop_left' hl
    simp only [hd, ne_eq, not_true_eq_false, if_false]
    rw [allGo_frames l f (fun x hx => h x (List.mem_cons_of_mem _ hx)) (by omega), List.length_append, hl]
theorem allN_frames {l : List (List Nat)} (h : ∀ s ∈ l, s.length ≤ 131072) : allN (framesN l) = (l, (framesN l).length, 0) := allGo_frames l _ h (Nat.le_refl _)
theorem valB_mark {n : Nat} (h : n < 18446744073709551616) : valB ((markN n).take 8) = n := by
  have : (markN n).take 8 = beB 8 n := List.take_left' (beB_len 8 n)
  rw [this]
  exact valB_be (by rw [show (256 : Nat) ^ 8 = 18446744073709551616 by decide]; exact h)
theorem cntStep_mark {a : Nat × Bool} {n : Nat} (h : n ≤ 131072) : cntStep a (markN n) = (max a.1 n, a.2) := by
  unfold cntStep
  rw [valB_mark (by omega), if_neg (by simp; omega), if_neg (by omega), if_pos h]
theorem cntStep_seal {a : Nat × Bool} {n : Nat} (h : n ≤ 131072) : cntStep a (markN (4294967296 + n)) = (max a.1 n, true) := by
  unfold cntStep
  have e : 4294967296 + n - 4294967296 = n := by omega
  rw [valB_mark (by omega), if_neg (by simp; omega), if_pos (by omega), e, if_pos h]
theorem cntGo_marks : ∀ (ns : List Nat) (f : Nat) (a : Nat × Bool), (∀ n ∈ ns, n ≤ 131072) → (marksL ns).length ≤ f → cntGo f a (marksL ns) = (ns.foldl max a.1, a.2)
  | [], f, a, _, _ => by
    cases f with
    | zero => rfl
    | succ f => simp [cntGo, marksL]
  | n :: ns, f, a, h, hf => by
    have e : marksL (n :: ns) = markN n ++ marksL ns := by simp [marksL]
    have hl := markN_len n
    rw [e, List.length_append] at hf
    obtain ⟨f, rfl⟩ : ∃ k, f = k + 1 := ⟨f - 1, by omega⟩
    have t : (markN n ++ marksL ns).take 12 = markN n := List.take_left' hl
    have d : (markN n ++ marksL ns).drop 12 = marksL ns := List.drop_left' hl
    rw [e, cntGo, if_pos (by rw [List.length_append]; omega), t, d, cntStep_mark (h n List.mem_cons_self), cntGo_marks ns f _ (fun x hx => h x (List.mem_cons_of_mem _ hx)) (by omega), List.foldl_cons]
theorem fold_max (k : Nat) : ((List.range k).map (· + 1)).foldl max 0 = k := by
  induction k with
  | zero => rfl
  | succ k ih =>
    rw [List.range_succ, List.map_append, List.foldl_append, ih]
    simp
theorem countN_marks {k : Nat} (h : k ≤ 131072) : countN (marksN k) = (k, false) := by
  unfold countN marksN
  rw [cntGo_marks _ _ _ (fun n hn => by
    obtain ⟨i, hi, rfl⟩ := List.mem_map.1 hn
    have := List.mem_range.1 hi
    omega) (Nat.le_refl _)]
  rw [fold_max]
theorem marksN_len (k : Nat) : (marksN k).length = 12 * k := by
  induction k with
  | zero => rfl
  | succ k ih => rw [marksN_succ, List.length_append, ih, markN_len]; omega
end Go.Proofs.YtnlepoplncjliaaGreatDoor

namespace Go.Proofs.YtnlepoplncjliaaGreatDoor
open Go.RowKit

/-- A disk that is on, and isn't armed. -/
structure Dk.calm (D : Dk) : Prop where
  off : D.off = false
  armed : D.armed = false
theorem tick_calm {D : Dk} (h : D.calm) : D.tick = D := by unfold Dk.tick; rw [if_neg (by simp [h.off]), if_neg (by simp [h.armed])]
theorem beginE_calm {D : Dk} (h : D.calm) {ns : List (List Nat)} (hn : ∀ s ∈ ns, nameOk s = true) : D.beginE ns = 0 := by
  unfold Dk.beginE
  rw [tick_calm h, h.off, if_neg (by simp), if_pos (List.all_eq_true.2 hn)]
theorem thereE_calm {D : Dk} (h : D.calm) {ns : List (List Nat)} (hn : ∀ s ∈ ns, nameOk s = true) (x : List Nat) : D.thereE ns x = if (D.get x).isSome then 0 else 7 := by
  unfold Dk.thereE
  rw [beginE_calm h hn, if_neg (by simp)]
theorem mem_names {D : Dk} {x : List Nat} : x ∈ D.files.map (·.1) ↔ (D.get x).isSome = true := by
  unfold Dk.get
  rw [Option.isSome_map, List.find?_isSome]
  constructor
  · intro h
    obtain ⟨p, hp, rfl⟩ := List.mem_map.1 h
    exact ⟨p, hp, by simp⟩
  · rintro ⟨p, hp, e⟩
    exact List.mem_map.2 ⟨p, hp, by simpa using e⟩
theorem map_get (fs : List (List Nat × Fil)) (a : List Nat) (f : Fil) (x : List Nat) : ((fs.map fun p => if p.1 = a then (p.1, f) else p).find? (fun p => decide (p.1 = x))).map (·.2) = if x = a then ((fs.find? fun p => decide (p.1 = x)).map fun _ => f) else (fs.find? fun p => decide (p.1 = x)).map (·.2) := by
  have hq : ((fun p : List Nat × Fil => decide (p.1 = x)) ∘ fun p : List Nat × Fil => if p.1 = a then (p.1, f) else p) = fun p => decide (p.1 = x) := by
    funext p
    simp only [Function.comp]
    split <;> rfl
  rw [List.find?_map, hq]
  cases e : fs.find? (fun p => decide (p.1 = x)) with
  | none => simp
  | some p =>
    have h1 := List.find?_some e
    simp only [decide_eq_true_eq] at h1
    subst h1
    by_cases h2 : p.1 = a <;> simp [h2]
theorem putL_get (fs : List (List Nat × Fil)) (a : List Nat) (f : Fil) (x : List Nat) : ((putL fs a f).find? (fun p => decide (p.1 = x))).map (·.2) = if x = a then some f else (fs.find? fun p => decide (p.1 = x)).map (·.2) := by
  unfold putL
  split
  · rename_i h
    rw [map_get]
    split
    · rename_i e
      subst e
      cases e2 : fs.find? (fun p => decide (p.1 = x)) with
      | none => rw [e2] at h; cases h
      | some p => rfl
    · rfl
  · rename_i h
    rw [List.find?_append]
    split
    · rename_i e
      subst e
      have : fs.find? (fun p => decide (p.1 = x)) = none := by
        cases e2 : fs.find? (fun p => decide (p.1 = x)) with
        | none => rfl
        | some p => rw [e2] at h; exact absurd rfl h
      rw [this]
      simp
    · rename_i e
      have h1 : [(a, f)].find? (fun p => decide (p.1 = x)) = none := by
        rw [List.find?_cons_of_neg (by simpa using fun e2 => e e2.symm)]
        rfl
      rw [h1, Option.or_none]
theorem get_append {D : Dk} {a s : List Nat} (h : D.appendE a s = 0) (x : List Nat) : (D.append a s).get x = if x = a then some ⟨(D.fileOf a).data ++ s, (D.fileOf a).safe⟩ else D.get x := by
  have : D.append a s = { D.tick with files := putL D.files a ⟨(D.fileOf a).data ++ s, (D.fileOf a).safe⟩ } := by unfold Dk.append; rw [if_pos h]
  rw [this]
  exact putL_get _ _ _ _
theorem append_room (D : Dk) (a s : List Nat) : (D.append a s).room = D.room := by unfold Dk.append; split <;> exact tick_room D
theorem append_calm {D : Dk} {a s : List Nat} (h : D.calm) : (D.append a s).calm := by
  unfold Dk.append
  split
  · exact ⟨by show D.tick.off = _; rw [tick_calm h]; exact h.off, by show D.tick.armed = _; rw [tick_calm h]; exact h.armed⟩
  · rw [tick_calm h]; exact h
theorem append_len (D : Dk) (a s : List Nat) : (D.append a s).files.length ≤ D.files.length + 1 := by
  unfold Dk.append
  split
  · show (putL _ _ _).length ≤ _
    rw [putL_len]
    split <;> omega
  · rw [tick_files]; omega
theorem get_sync {D : Dk} (hc : D.calm) {a : List Nat} {f : Fil} (ha : nameOk a = true) (hf : D.get a = some f) (x : List Nat) : (D.sync a).get x = if x = a then some { f with safe := f.data.length } else D.get x := by
  have h0 : D.thereE [a] a = 0 := by rw [thereE_calm hc (by simpa using ha), hf]; rfl
  have : D.sync a = D.set a { f with safe := f.data.length } := by unfold Dk.sync; rw [if_pos h0, hf, tick_calm hc]
  rw [this]
  show ((D.files.map _).find? _).map _ = _
  rw [map_get]
  split
  · rename_i e
    subst e
    unfold Dk.get at hf
    cases e2 : D.files.find? (fun p => decide (p.1 = x)) with
    | none => rw [e2] at hf; cases hf
    | some p => rfl
  · rfl
theorem sync_len (D : Dk) (a : List Nat) : (D.sync a).files.length = D.files.length := by
  unfold Dk.sync
  split
  · split
    · unfold Dk.set; simp [tick_files]
    · rw [tick_files]
  · rw [tick_files]
theorem sync_room (D : Dk) (a : List Nat) : (D.sync a).room = D.room := by
  unfold Dk.sync
  split
  · split
    · exact tick_room D
    · exact tick_room D
  · exact tick_room D
theorem sync_calm {D : Dk} {a : List Nat} (h : D.calm) : (D.sync a).calm := by
  unfold Dk.sync
  split
  · split
    · exact ⟨by show D.tick.off = _; rw [tick_calm h]; exact h.off, by show D.tick.armed = _; rw [tick_calm h]; exact h.armed⟩
    · rw [tick_calm h]; exact h
  · rw [tick_calm h]; exact h
theorem sync_used {D : Dk} {a : List Nat} (hn : (D.files.map (·.1)).Nodup) : (D.sync a).used = D.used := by
  unfold Dk.sync
  split
  · split
    · rename_i f hf
      unfold Dk.set Dk.used
      show ((usedL (D.tick.files.map _) : Nat) : Int) = _
      rw [tick_files, usedL_set]
      intro p hp e
      have h1 := get_mem hf
      have h2 : (D.files.map (·.1)).Nodup := hn
      obtain ⟨i, hi, hip⟩ := List.getElem_of_mem hp
      obtain ⟨j, hj, hjp⟩ := List.getElem_of_mem h1
      have h3 : (D.files.map (·.1))[i]? = (D.files.map (·.1))[j]? := by
        rw [List.getElem?_map, List.getElem?_map, List.getElem?_eq_getElem hi, List.getElem?_eq_getElem hj, hip, hjp]
        simp [e]
      have h4 := (List.getElem?_inj (by rw [List.length_map]; exact hi) h2).1 h3
      subst h4
      rw [hip] at hjp
      rw [hjp]
    · exact tick_used D
  · exact tick_used D
theorem sync_names (D : Dk) (a : List Nat) : (D.sync a).files.map (·.1) = D.files.map (·.1) := by
  unfold Dk.sync
  split
  · split
    · unfold Dk.set
      show (D.tick.files.map _).map _ = _
      rw [tick_files, List.map_map]
      refine List.map_congr_left fun p _ => ?_
      simp only [Function.comp]
      split <;> rfl
    · rw [tick_files]
  · rw [tick_files]
theorem putL_nodup {fs : List (List Nat × Fil)} {a : List Nat} {f : Fil} (h : (fs.map (·.1)).Nodup) : ((putL fs a f).map (·.1)).Nodup := by
  unfold putL
  split
  · rw [List.map_map]
    have : ((fun p : List Nat × Fil => p.1) ∘ fun p : List Nat × Fil => if p.1 = a then (p.1, f) else p) = fun p => p.1 := by
      funext p
      simp only [Function.comp]
      split <;> rfl
    rw [this]
    exact h
  · rename_i h1
    rw [List.map_append, List.nodup_append]
    refine ⟨h, by simp, ?_⟩
    intro x hx b hb
    simp at hb
    subst hb
    intro e
    subst e
    obtain ⟨p, hp, e2⟩ := List.mem_map.1 hx
    apply h1
    rw [List.find?_isSome]
    exact ⟨p, hp, by simpa using e2⟩
theorem append_nodup {D : Dk} {a s : List Nat} (h : (D.files.map (·.1)).Nodup) : ((D.append a s).files.map (·.1)).Nodup := by
  unfold Dk.append
  split
  · exact putL_nodup h
  · rw [tick_files]; exact h
theorem append_used {D : Dk} {a s : List Nat} (hn : (D.files.map (·.1)).Nodup) (hE : D.appendE a s = 0) : (D.append a s).used = D.used + (s.length : Int) := by
  have hA : D.append a s = { D.tick with files := putL D.files a ⟨(D.fileOf a).data ++ s, (D.fileOf a).safe⟩ } := by unfold Dk.append; rw [if_pos hE]
  have hu := usedL_put (nm := a) ⟨(D.fileOf a).data ++ s, (D.fileOf a).safe⟩ hn
  have e : getL D.files a = D.fileOf a := rfl
  rw [e] at hu
  simp only [List.length_append] at hu
  rw [hA]
  show ((usedL (putL D.files a _) : Nat) : Int) = ((usedL D.files : Nat) : Int) + _
  omega
theorem appendE_calm {D : Dk} {a s : List Nat} (hc : D.calm) (ha : nameOk a = true) (h1 : (D.get a).isSome = true ∨ D.files.length < 200) (h2 : (D.fileOf a).data.length + s.length ≤ 1048576) (h3 : (s.length : Int) ≤ D.room - D.used) : D.appendE a s = 0 := by
  unfold Dk.appendE
  rw [beginE_calm hc (by simpa using ha), if_neg (by simp), if_neg, if_neg (by omega), if_neg (by omega)]
  rintro ⟨h4, h5⟩
  rcases h1 with h1 | h1
  · rw [h1] at h4; cases h4
  · omega
end Go.Proofs.YtnlepoplncjliaaGreatDoor

namespace Go.Proofs.YtnlepoplncjliaaGreatDoor
open Go.RowKit

theorem fileN_byt {nm k : List Nat} (n : Nat) (hn : Byt nm) (hk : Byt k) : Byt (fileN nm n k) := by
  unfold fileN
  refine Byt.app (Byt.app (Byt.app hn (by intro d hd; simp at hd; omega)) (fun c hc => ?_)) hk
  have := dig6_lt n c hc
  omega
theorem fileN_len {nm k : List Nat} {n : Nat} (hn : n ≤ 999999) : (fileN nm n k).length = nm.length + 7 + k.length := by
  unfold fileN
  have := dig6_len hn
  simp only [List.length_append, List.length_singleton]
  omega
theorem logK_byt : Byt logK := by intro d hd; revert d; decide
theorem ackK_byt : Byt ackK := by intro d hd; revert d; decide
theorem newK_byt : Byt newK := by intro d hd; revert d; decide
theorem wread_any (B g0 gd : Nat) (D : Dk) (nm x : List Nat) (num count size : Int) (broken : Bool) (w : World) (k0 : Blk w g0 80 (wlCs gd nm num count size broken)) (dk : DkAt w B gd D) (hoff : D.off = false) (hx : Byt x) :
    Calls Tryz.prog 59 #[.pointer (some ⟨g0, 0, none⟩), .string (strOf x)] w fun e w' => e = .returned (.tuple #[.string (strOf (D.datN x)), .int .i64 0]) ∧ Grow w w' := by
  have bel := Below.refl w.heap.size w
  have hs : D.readS x = D.datN x := by unfold Dk.readS Dk.datN; rw [if_neg (by simp [hoff])]
  have he : D.readE x = if (D.get x).isSome then 0 else 7 := by unfold Dk.readE; rw [if_neg (by simp [hoff])]
  refine Calls.start 21 Tryz.func59 rfl rfl rfl ?_
  refine Cd.seq ?_
  refine Cd.region ?_
  refine Seq.val (Runs.assign rfl rfl) rfl rfl rfl ?_
  refine Seq.val (Runs.assign rfl rfl) rfl rfl rfl ?_
  refine Seq.nil ?_
  refine Post.weak (F' := [(0, _), (1, _), (4, _), (5, _)]) ⟨rfl, rfl, rfl, rfl, trivial⟩ ?_
  refine Post.then_ ?_
  refine Cd.seq ?_
  refine Cd.region ?_
  refine Seq.val (Runs.move rfl rfl) rfl rfl rfl ?_
  refine Seq.val (Runs.nilCheck rfl rfl) rfl rfl rfl ?_
  refine Seq.val (Runs.fieldB 0 rfl rfl Tryz.underlying80 rfl (by kernel_rfl)) rfl rfl rfl ?_
  refine Seq.val (Runs.loadB rfl rfl Tryz.underlying26 rfl k0 rfl) rfl rfl rfl ?_
  refine Seq.val (Runs.move rfl rfl) rfl rfl rfl ?_
  refine Seq.call (Enters.func rfl rfl rfl (run_enter Tryz.func21 (by kernel_rfl) rfl)) rfl rfl rfl (read_d_any B gd D x _ dk hx) ?_
  rw [hs, he]
  rintro e w5 ⟨rfl, hb5⟩
  refine ⟨_, rfl, ?_⟩
  replace bel := bel.step hb5
  replace k0 := k0.step hb5
  by_cases h0 : (D.get x).isSome = true
  · rw [if_pos h0]
    refine Seq.val (Runs.move rfl rfl) rfl rfl rfl ?_
    refine Seq.val (Runs.extract rfl rfl rfl) rfl rfl rfl ?_
    refine Seq.val (Runs.extract rfl rfl rfl) rfl rfl rfl ?_
    refine Seq.val (Runs.assign rfl rfl) rfl rfl rfl ?_
    refine Seq.val (Runs.assign rfl rfl) rfl rfl rfl ?_
    refine Seq.nil ?_
    refine Post.weak (F' := [(0, _), (1, _), (4, _), (5, _), (6, _), (7, _)]) ⟨rfl, rfl, rfl, rfl, rfl, rfl, trivial⟩ ?_
    refine Post.then_ ?_
    refine Cd.seq ?_
    refine Cd.seq ?_
    refine Cd.region ?_
    refine Seq.val (Runs.move rfl rfl) rfl rfl rfl ?_
    refine Seq.val (Runs.eqlI rfl rfl rfl) rfl rfl rfl ?_
    refine Seq.nil ?_
    refine Post.weak (F' := [(0, _), (1, _), (4, _), (5, _), (6, _), (7, _), (18, _)]) ⟨rfl, rfl, rfl, rfl, rfl, rfl, rfl, trivial⟩ ?_
    refine Post.then_ ?_
    refine Cd.condF rfl rfl ?_
    refine Cd.skip ?_
    refine Post.then_ ?_
    refine Cd.seq ?_
    refine Cd.region ?_
    refine Seq.val (Runs.move rfl rfl) rfl rfl rfl ?_
    refine Seq.val (Runs.move rfl rfl) rfl rfl rfl ?_
    refine Seq.val (Runs.assign rfl rfl) rfl rfl rfl ?_
    refine Seq.val (Runs.assign rfl rfl) rfl rfl rfl ?_
    refine Seq.nil ?_
    refine Post.weak (F' := [(0, _), (1, _), (4, _), (5, _), (6, _), (7, _), (18, _)]) ⟨rfl, rfl, rfl, rfl, rfl, rfl, rfl, trivial⟩ ?_
    refine Post.then_ ?_
    refine Cd.ret ?_
    refine Post.end2 rfl rfl rfl (.inl rfl) ?_
    exact ⟨rfl, bel⟩
  · have h1 : D.datN x = [] := by
      unfold Dk.datN
      cases e : D.get x with
      | none => rfl
      | some f => rw [e] at h0; exact absurd rfl h0
    rw [if_neg h0, h1]
    refine Seq.val (Runs.move rfl rfl) rfl rfl rfl ?_
    refine Seq.val (Runs.extract rfl rfl rfl) rfl rfl rfl ?_
    refine Seq.val (Runs.extract rfl rfl rfl) rfl rfl rfl ?_
    refine Seq.val (Runs.assign rfl rfl) rfl rfl rfl ?_
    refine Seq.val (Runs.assign rfl rfl) rfl rfl rfl ?_
    refine Seq.nil ?_
    refine Post.weak (F' := [(0, _), (1, _), (4, _), (5, _), (6, _), (7, _)]) ⟨rfl, rfl, rfl, rfl, rfl, rfl, trivial⟩ ?_
    refine Post.then_ ?_
    refine Cd.seq ?_
    refine Cd.seq ?_
    refine Cd.region ?_
    refine Seq.val (Runs.move rfl rfl) rfl rfl rfl ?_
    refine Seq.val (Runs.eqlI rfl rfl rfl) rfl rfl rfl ?_
    refine Seq.nil ?_
    refine Post.weak (F' := [(0, _), (1, _), (4, _), (5, _), (6, _), (7, _), (18, _)]) ⟨rfl, rfl, rfl, rfl, rfl, rfl, rfl, trivial⟩ ?_
    refine Post.then_ ?_
    refine Cd.condT rfl rfl ?_
    refine Cd.seq ?_
    refine Cd.region ?_
    refine Seq.val (Runs.assign rfl rfl) rfl rfl rfl ?_
    refine Seq.val (Runs.assign rfl rfl) rfl rfl rfl ?_
    refine Seq.nil ?_
    refine Post.weak (F' := [(0, _), (1, _), (4, _), (5, _), (6, _), (7, _), (18, _)]) ⟨rfl, rfl, rfl, rfl, rfl, rfl, rfl, trivial⟩ ?_
    refine Post.then_ ?_
    refine Cd.ret ?_
    refine Post.then_ret ?_
    refine Post.end2 rfl rfl rfl (.inl rfl) ?_
    exact ⟨rfl, bel⟩
theorem wdrop_any (B g0 gd : Nat) (D : Dk) (nm x : List Nat) (num count size : Int) (broken : Bool) (w : World) (k0 : Blk w g0 80 (wlCs gd nm num count size broken)) (dk : DkAt w B gd D) (hx : Byt x) (hxl : x.length ≤ 1000) :
    Calls Tryz.prog 49 #[.pointer (some ⟨g0, 0, none⟩), .string (strOf x)] w fun e w' => e = .returned (.int .i64 (D.dropE x)) ∧ DkAt w' B gd (D.delete x) ∧ Df B w w' := by
  have df := Df.refl B w
  refine Calls.start 15 Tryz.func49 rfl rfl rfl ?_
  refine Cd.seq ?_
  refine Cd.region ?_
  refine Seq.val (Runs.assign rfl rfl) rfl rfl rfl ?_
  refine Seq.nil ?_
  refine Post.weak (F' := [(0, _), (1, _), (4, _)]) ⟨rfl, rfl, rfl, trivial⟩ ?_
  refine Post.then_ ?_
  refine Cd.seq ?_
  refine Cd.region ?_
  refine Seq.val (Runs.move rfl rfl) rfl rfl rfl ?_
  refine Seq.val (Runs.nilCheck rfl rfl) rfl rfl rfl ?_
  refine Seq.val (Runs.fieldB 0 rfl rfl Tryz.underlying80 rfl (by kernel_rfl)) rfl rfl rfl ?_
  refine Seq.val (Runs.loadB rfl rfl Tryz.underlying26 rfl k0 rfl) rfl rfl rfl ?_
  refine Seq.val (Runs.move rfl rfl) rfl rfl rfl ?_
  refine Seq.call (Enters.func rfl rfl rfl (run_enter Tryz.func71 (by kernel_rfl) rfl)) rfl rfl rfl (delete_d_any B gd D x _ dk hx (by omega)) ?_
  clear dk
  rintro e w1 ⟨rfl, dk, fw1⟩
  refine ⟨_, rfl, ?_⟩
  replace df := df.df fw1
  replace k0 := k0.df fw1
  refine Seq.val (Runs.assign rfl rfl) rfl rfl rfl ?_
  refine Seq.nil ?_
  refine Post.weak (F' := [(0, _), (1, _), (4, _), (5, _)]) ⟨rfl, rfl, rfl, rfl, trivial⟩ ?_
  refine Post.then_ ?_
  refine Cd.seq ?_
  refine Cd.seq ?_
  refine Cd.region ?_
  refine Seq.val (Runs.move rfl rfl) rfl rfl rfl ?_
  refine Seq.val (Runs.eqlI rfl rfl rfl) rfl rfl rfl ?_
  refine Seq.nil ?_
  refine Post.weak (F' := [(0, _), (1, _), (4, _), (5, _), (13, _)]) ⟨rfl, rfl, rfl, rfl, rfl, trivial⟩ ?_
  refine Post.then_ ?_
  unfold Dk.dropE
  refine Cd.cond rfl (fun h => ?_) (fun h => ?_)
  · have h : D.thereE [x] x = 7 := by simpa using h
    rw [if_pos h]
    refine Cd.seq ?_
    refine Cd.region ?_
    refine Seq.val (Runs.assign rfl rfl) rfl rfl rfl ?_
    refine Seq.nil ?_
    refine Post.weak (F' := [(0, _), (1, _), (4, _), (5, _), (13, _)]) ⟨rfl, rfl, rfl, rfl, rfl, trivial⟩ ?_
    refine Post.then_ ?_
    refine Cd.ret ?_
    refine Post.then_ret ?_
    refine Post.end1 rfl rfl (.inl rfl) ?_
    exact ⟨rfl, dk, df⟩
  · have h : ¬ D.thereE [x] x = 7 := by simpa using h
    rw [if_neg h]
    refine Cd.skip ?_
    refine Post.then_ ?_
    refine Cd.seq ?_
    refine Cd.region ?_
    refine Seq.val (Runs.move rfl rfl) rfl rfl rfl ?_
    refine Seq.val (Runs.assign rfl rfl) rfl rfl rfl ?_
    refine Seq.nil ?_
    refine Post.weak (F' := [(0, _), (1, _), (4, _), (5, _), (13, _)]) ⟨rfl, rfl, rfl, rfl, rfl, trivial⟩ ?_
    refine Post.then_ ?_
    refine Cd.ret ?_
    refine Post.end1 rfl rfl (.inl rfl) ?_
    exact ⟨rfl, dk, df⟩
theorem note_any (B g0 gd n c : Nat) (D : Dk) (nm : List Nat) (num count size : Int) (broken : Bool) (w : World) (gv : Gv w) (hgB : 4 < B) (k0 : Blk w g0 80 (wlCs gd nm num count size broken)) (dk : DkAt w B gd D) (hn : n ≤ 999999) (hnm : Byt nm) (hnl : nm.length ≤ 8) (hc : c ≤ 9000000000) :
    Calls Tryz.prog 67 #[.pointer (some ⟨g0, 0, none⟩), .int .i64 (n : Int), .int .i64 (c : Int)] w fun e w' => e = .returned (.int .i64 (D.note (fileN nm n ackK) c).2) ∧ DkAt w' B gd (D.note (fileN nm n ackK) c).1 ∧ Df B w w' := by
  have df := Df.refl B w
  have hab := fileN_byt n hnm ackK_byt
  have hal : (fileN nm n ackK).length ≤ 1000 := by rw [fileN_len hn]; show nm.length + 7 + 4 ≤ _; omega
  refine Calls.start 29 Tryz.func67 rfl rfl rfl ?_
  refine Cd.seq ?_
  refine Cd.region ?_
  refine Seq.val (Runs.assign rfl rfl) rfl rfl rfl ?_
  refine Seq.nil ?_
  refine Post.weak (F' := [(0, _), (1, _), (2, _), (6, _)]) ⟨rfl, rfl, rfl, rfl, trivial⟩ ?_
  refine Post.then_ ?_
  refine Cd.seq ?_
  refine Cd.seq ?_
  refine Cd.draw 9 (by kernel_rfl) [] (.inl rfl) rfl Grow Grow.refl (fun _ _ _ => Grow.trans) ?_
  intro w1 hw1 zw1
  replace df := df.step hw1
  replace dk := dk.step hw1
  replace k0 := k0.step hw1
  replace gv := gv.step hw1
  have zlt := k0.lt
  refine Dr.val Grow.refl rfl (fun w hG => Runs.move rfl rfl) rfl ?_
  refine Dr.val Grow.refl rfl (fun w hG => Runs.nilCheck rfl rfl) rfl ?_
  refine Dr.val Grow.refl rfl (fun w hG => Runs.fieldB 0 rfl rfl Tryz.underlying80 rfl (by kernel_rfl)) rfl ?_
  refine Dr.val Grow.refl rfl (fun w hG => Runs.loadB rfl rfl Tryz.underlying26 rfl (k0.step hG) rfl) rfl ?_
  refine Dr.val Grow.refl rfl (fun w hG => Runs.move rfl rfl) rfl ?_
  refine Dr.val Grow.refl rfl (fun w hG => Runs.move rfl rfl) rfl ?_
  refine Dr.callV rfl (fun w => Enters.func rfl rfl rfl (run_enter Tryz.func50 (by kernel_rfl) rfl)) rfl (fun w hG => file_any g0 gd n nm ackK num count size broken w (gv.step hG) (k0.step hG) hn (by omega) (by decide)) ?_
  refine Dr.val Grow.refl rfl (fun w hG => Runs.move rfl rfl) rfl ?_
  refine Dr.callV rfl (fun w => Enters.func rfl rfl rfl (run_enter Tryz.func86 (by kernel_rfl) rfl)) rfl (fun w hG => marked_any c w (gv.step hG).nib (by omega)) ?_
  refine FinX.done (F' := [(0, _), (1, _), (2, _), (6, _), (11, _), (14, _), (16, _)]) rfl ⟨rfl, rfl, rfl, rfl, rfl, rfl, rfl, trivial⟩ ?_
  intro w2 hw2 fw2
  replace df := df.step hw2
  replace dk := dk.step hw2
  replace k0 := k0.step hw2
  replace gv := gv.step hw2
  obtain ⟨ack, hack⟩ : ∃ x, x = fileN nm n ackK := ⟨_, rfl⟩
  rw [← hack] at hab hal
  rw [← hack]
  refine Seq.call (Enters.func rfl rfl rfl (run_enter Tryz.func17 (by kernel_rfl) rfl)) rfl rfl rfl (append_d_any B gd D ack (markN c) _ dk hab (markN_lt c) (by omega) (by rw [markN_len]; omega)) ?_
  clear dk
  rintro e w3 ⟨rfl, dk, fw3⟩
  refine ⟨_, rfl, ?_⟩
  replace df := df.df fw3
  replace k0 := k0.df fw3
  replace gv := gv.df fw3
  refine Seq.val (Runs.assign rfl rfl) rfl rfl rfl ?_
  refine Seq.nil ?_
  refine Post.weak (F' := [(0, _), (1, _), (2, _), (6, _), (7, _)]) ⟨rfl, rfl, rfl, rfl, rfl, trivial⟩ ?_
  refine Post.then_ ?_
  refine Cd.seq ?_
  refine Cd.region ?_
  refine Seq.val (Runs.move rfl rfl) rfl rfl rfl ?_
  refine Seq.val (Runs.neqI rfl rfl rfl) rfl rfl rfl ?_
  refine Seq.nil ?_
  refine Post.weak (F' := [(0, _), (1, _), (2, _), (6, _), (7, _), (19, _)]) ⟨rfl, rfl, rfl, rfl, rfl, rfl, trivial⟩ ?_
  refine Post.then_ ?_
  refine Cd.cond rfl (fun h => ?_) (fun h => ?_)
  · have h : D.appendE ack (markN c) ≠ 0 := by simpa using h
    have hN : D.note ack c = (D.append ack (markN c), D.appendE ack (markN c)) := by unfold Dk.note; rw [if_pos h]
    rw [hN]
    refine Cd.seq ?_
    refine Cd.region ?_
    refine Seq.val (Runs.move rfl rfl) rfl rfl rfl ?_
    refine Seq.val (Runs.assign rfl rfl) rfl rfl rfl ?_
    refine Seq.nil ?_
    refine Post.weak (F' := [(0, _), (1, _), (2, _), (6, _), (7, _), (19, _)]) ⟨rfl, rfl, rfl, rfl, rfl, rfl, trivial⟩ ?_
    refine Post.then_ ?_
    refine Cd.ret ?_
    refine Post.then_ret ?_
    refine Post.end1 rfl rfl (.inl rfl) ?_
    exact ⟨rfl, dk, df⟩
  have h : ¬ (D.appendE ack (markN c) ≠ 0) := by simpa using h
  have hN : D.note ack c = ((D.append ack (markN c)).sync ack, (D.append ack (markN c)).thereE [ack] ack) := by unfold Dk.note; rw [if_neg h]
  rw [hN]
  refine Cd.skip ?_
  refine Post.then_ ?_
  refine Cd.seq ?_
  refine Cd.draw 7 (by kernel_rfl) [] (.inl rfl) rfl Grow Grow.refl (fun _ _ _ => Grow.trans) ?_
  intro w4 hw4 zw4
  replace df := df.step hw4
  replace dk := dk.step hw4
  replace k0 := k0.step hw4
  replace gv := gv.step hw4
  have zlt := k0.lt
  refine Dr.val Grow.refl rfl (fun w hG => Runs.move rfl rfl) rfl ?_
  refine Dr.val Grow.refl rfl (fun w hG => Runs.nilCheck rfl rfl) rfl ?_
  refine Dr.val Grow.refl rfl (fun w hG => Runs.fieldB 0 rfl rfl Tryz.underlying80 rfl (by kernel_rfl)) rfl ?_
  refine Dr.val Grow.refl rfl (fun w hG => Runs.loadB rfl rfl Tryz.underlying26 rfl (k0.step hG) rfl) rfl ?_
  refine Dr.val Grow.refl rfl (fun w hG => Runs.move rfl rfl) rfl ?_
  refine Dr.val Grow.refl rfl (fun w hG => Runs.move rfl rfl) rfl ?_
  refine Dr.callV rfl (fun w => Enters.func rfl rfl rfl (run_enter Tryz.func50 (by kernel_rfl) rfl)) rfl (fun w hG => file_any g0 gd n nm ackK num count size broken w (gv.step hG) (k0.step hG) hn (by omega) (by decide)) ?_
  refine FinX.done (F' := [(0, _), (1, _), (2, _), (6, _), (7, _), (19, _), (24, _), (27, _)]) rfl ⟨rfl, rfl, rfl, rfl, rfl, rfl, rfl, rfl, trivial⟩ ?_
  intro w5 hw5 fw5
  replace df := df.step hw5
  replace dk := dk.step hw5
  replace k0 := k0.step hw5
  replace gv := gv.step hw5
  rw [← hack]
  refine Seq.call (Enters.func rfl rfl rfl (run_enter Tryz.func27 (by kernel_rfl) rfl)) rfl rfl rfl (sync_any B gd (D.append ack (markN c)) ack _ dk hab (by omega)) ?_
  clear dk
  rintro e w6 ⟨rfl, dk, fw6⟩
  refine ⟨_, rfl, ?_⟩
  replace df := df.df fw6
  replace k0 := k0.df fw6
  replace gv := gv.df fw6
  refine Seq.val (Runs.assign rfl rfl) rfl rfl rfl ?_
  refine Seq.nil ?_
  refine Post.weak (F' := [(0, _), (1, _), (2, _), (6, _), (7, _), (19, _)]) ⟨rfl, rfl, rfl, rfl, rfl, rfl, trivial⟩ ?_
  refine Post.then_ ?_
  refine Cd.ret ?_
  refine Post.end1 rfl rfl (.inl rfl) ?_
  exact ⟨rfl, dk, df⟩
theorem again_any (B g0 gd n cnt : Nat) (D : Dk) (nm : List Nat) (num count size : Int) (broken : Bool) (w : World) (gv : Gv w) (hgB : 4 < B) (k0 : Blk w g0 80 (wlCs gd nm num count size broken)) (dk : DkAt w B gd D) (hn : n ≤ 999999) (hnm : Byt nm) (hnl : nm.length ≤ 8) (hc : cnt ≤ 1000000) :
    Calls Tryz.prog 62 #[.pointer (some ⟨g0, 0, none⟩), .int .i64 (n : Int), .int .i64 (cnt : Int)] w fun e w' => e = .returned (.int .i64 (D.again nm n cnt).2) ∧ DkAt w' B gd (D.again nm n cnt).1 ∧ Df B w w' := by
  have df := Df.refl B w
  have hab := fileN_byt n hnm ackK_byt
  have hal : (fileN nm n ackK).length ≤ 1000 := by rw [fileN_len hn]; show nm.length + 7 + 4 ≤ _; omega
  have hfb := fileN_byt n hnm newK_byt
  have hfl : (fileN nm n newK).length ≤ 1000 := by rw [fileN_len hn]; show nm.length + 7 + 4 ≤ _; omega
  unfold Dk.again
  refine Calls.start 71 Tryz.func62 rfl rfl rfl ?_
  refine Cd.seq ?_
  refine Cd.region ?_
  refine Seq.val (Runs.assign rfl rfl) rfl rfl rfl ?_
  refine Seq.nil ?_
  refine Post.weak (F' := [(0, _), (1, _), (2, _), (6, _)]) ⟨rfl, rfl, rfl, rfl, trivial⟩ ?_
  refine Post.then_ ?_
  refine Cd.seq ?_
  refine Cd.region ?_
  refine Seq.val (Runs.move rfl rfl) rfl rfl rfl ?_
  refine Seq.val (Runs.move rfl rfl) rfl rfl rfl ?_
  refine Seq.call (Enters.func rfl rfl rfl (run_enter Tryz.func50 (by kernel_rfl) rfl)) rfl rfl rfl (file_any g0 gd n nm ackK num count size broken _ gv k0 hn (by omega) (by decide)) ?_
  rintro e w5 ⟨rfl, hb5⟩
  refine ⟨_, rfl, ?_⟩
  replace df := df.step hb5
  replace dk := dk.step hb5
  replace k0 := k0.step hb5
  replace gv := gv.step hb5
  refine Seq.val (Runs.move rfl rfl) rfl rfl rfl ?_
  refine Seq.val (Runs.move rfl rfl) rfl rfl rfl ?_
  refine Seq.call (Enters.func rfl rfl rfl (run_enter Tryz.func50 (by kernel_rfl) rfl)) rfl rfl rfl (file_any g0 gd n nm newK num count size broken _ gv k0 hn (by omega) (by decide)) ?_
  rintro e w6 ⟨rfl, hb6⟩
  refine ⟨_, rfl, ?_⟩
  replace df := df.step hb6
  replace dk := dk.step hb6
  replace k0 := k0.step hb6
  replace gv := gv.step hb6
  refine Seq.val (Runs.assign rfl rfl) rfl rfl rfl ?_
  refine Seq.val (Runs.assign rfl rfl) rfl rfl rfl ?_
  refine Seq.nil ?_
  refine Post.weak (F' := [(0, _), (1, _), (2, _), (6, _), (7, _), (8, _)]) ⟨rfl, rfl, rfl, rfl, rfl, rfl, trivial⟩ ?_
  refine Post.then_ ?_
  refine Cd.seq ?_
  refine Cd.seq ?_
  refine Cd.region ?_
  refine Seq.val (Runs.move rfl rfl) rfl rfl rfl ?_
  refine Seq.val (Runs.move rfl rfl) rfl rfl rfl ?_
  obtain ⟨ack, hack⟩ : ∃ x, x = fileN nm n ackK := ⟨_, rfl⟩
  obtain ⟨fr, hfr⟩ : ∃ x, x = fileN nm n newK := ⟨_, rfl⟩
  rw [← hack] at hab hal
  rw [← hfr] at hfb hfl
  rw [← hack, ← hfr]
  refine Seq.call (Enters.func rfl rfl rfl (run_enter Tryz.func49 (by kernel_rfl) rfl)) rfl rfl rfl (wdrop_any B g0 gd D nm fr num count size broken _ k0 dk hfb hfl) ?_
  clear dk
  rintro e w1 ⟨rfl, dk, fw1⟩
  refine ⟨_, rfl, ?_⟩
  replace df := df.df fw1
  replace k0 := k0.df fw1
  replace gv := gv.df fw1
  refine Seq.val (Runs.assign rfl rfl) rfl rfl rfl ?_
  refine Seq.nil ?_
  refine Post.weak (F' := [(0, _), (1, _), (2, _), (6, _), (7, _), (8, _), (9, _)]) ⟨rfl, rfl, rfl, rfl, rfl, rfl, rfl, trivial⟩ ?_
  refine Post.then_ ?_
  refine Cd.seq ?_
  refine Cd.region ?_
  refine Seq.val (Runs.move rfl rfl) rfl rfl rfl ?_
  refine Seq.val (Runs.neqI rfl rfl rfl) rfl rfl rfl ?_
  refine Seq.nil ?_
  refine Post.weak (F' := [(0, _), (1, _), (2, _), (6, _), (7, _), (8, _), (9, _), (23, _)]) ⟨rfl, rfl, rfl, rfl, rfl, rfl, rfl, rfl, trivial⟩ ?_
  refine Post.then_ ?_
  refine Cd.cond rfl (fun h => ?_) (fun h => ?_)
  · have h : D.dropE fr ≠ 0 := by simpa using h
    rw [if_pos h]
    refine Cd.seq ?_
    refine Cd.region ?_
    refine Seq.val (Runs.move rfl rfl) rfl rfl rfl ?_
    refine Seq.val (Runs.assign rfl rfl) rfl rfl rfl ?_
    refine Seq.nil ?_
    refine Post.weak (F' := [(0, _), (1, _), (2, _), (6, _), (7, _), (8, _), (9, _), (23, _)]) ⟨rfl, rfl, rfl, rfl, rfl, rfl, rfl, rfl, trivial⟩ ?_
    refine Post.then_ ?_
    refine Cd.ret ?_
    refine Post.then_ret ?_
    refine Post.end1 rfl rfl (.inl rfl) ?_
    exact ⟨rfl, dk, df⟩
  have h : ¬ (D.dropE fr ≠ 0) := by simpa using h
  rw [if_neg h]
  obtain ⟨D1, hD1⟩ : ∃ x, x = D.delete fr := ⟨_, rfl⟩
  rw [← hD1] at dk
  rw [← hD1]
  refine Cd.skip ?_
  refine Post.then_ ?_
  refine Cd.seq ?_
  refine Cd.seq ?_
  refine Cd.region ?_
  refine Seq.val (Runs.move rfl rfl) rfl rfl rfl ?_
  refine Seq.val (Runs.nilCheck rfl rfl) rfl rfl rfl ?_
  refine Seq.val (Runs.fieldB 0 rfl rfl Tryz.underlying80 rfl (by kernel_rfl)) rfl rfl rfl ?_
  refine Seq.val (Runs.loadB rfl rfl Tryz.underlying26 rfl k0 rfl) rfl rfl rfl ?_
  refine Seq.call (Enters.func rfl rfl rfl (run_enter Tryz.func31 (by kernel_rfl) rfl)) rfl rfl rfl (names_any B gd D1 _ dk) ?_
  rintro e w7 ⟨v, rfl, own, hb7⟩
  refine ⟨_, rfl, ?_⟩
  obtain ⟨A, c, rfl, -⟩ := own.reads
  clear own
  replace df := df.step hb7
  replace dk := dk.step hb7
  replace k0 := k0.step hb7
  replace gv := gv.step hb7
  refine Seq.val (Runs.len rfl rfl Tryz.underlying22) rfl rfl rfl ?_
  refine Seq.val (Runs.geq rfl rfl rfl) rfl rfl rfl ?_
  refine Seq.nil ?_
  refine Post.weak (F' := [(0, _), (1, _), (2, _), (6, _), (7, _), (8, _), (9, _), (23, _), (31, _)]) ⟨rfl, rfl, rfl, rfl, rfl, rfl, rfl, rfl, rfl, trivial⟩ ?_
  refine Post.then_ ?_
  refine Cd.cond rfl (fun h => ?_) (fun h => ?_)
  · have h : 200 ≤ D1.files.length := by
      have h' : (200 : Int) ≤ (D1.files.length : Int) := by simpa using h
      omega
    rw [if_pos h]
    refine Cd.seq ?_
    refine Cd.seq ?_
    refine Cd.region ?_
    refine Seq.val (Runs.move rfl rfl) rfl rfl rfl ?_
    refine Seq.val (Runs.move rfl rfl) rfl rfl rfl ?_
    refine Seq.call (Enters.func rfl rfl rfl (run_enter Tryz.func49 (by kernel_rfl) rfl)) rfl rfl rfl (wdrop_any B g0 gd D1 nm ack num count size broken _ k0 dk hab hal) ?_
    clear dk
    rintro e w2 ⟨rfl, dk, fw2⟩
    refine ⟨_, rfl, ?_⟩
    replace df := df.df fw2
    replace k0 := k0.df fw2
    replace gv := gv.df fw2
    refine Seq.val (Runs.assign rfl rfl) rfl rfl rfl ?_
    refine Seq.nil ?_
    refine Post.weak (F' := [(0, _), (1, _), (2, _), (6, _), (7, _), (8, _), (9, _), (10, _), (23, _), (31, _)]) ⟨rfl, rfl, rfl, rfl, rfl, rfl, rfl, rfl, rfl, rfl, trivial⟩ ?_
    refine Post.then_ ?_
    refine Cd.seq ?_
    refine Cd.region ?_
    refine Seq.val (Runs.move rfl rfl) rfl rfl rfl ?_
    refine Seq.val (Runs.neqI rfl rfl rfl) rfl rfl rfl ?_
    refine Seq.nil ?_
    refine Post.weak (F' := [(0, _), (1, _), (2, _), (6, _), (7, _), (8, _), (9, _), (10, _), (23, _), (31, _), (36, _)]) ⟨rfl, rfl, rfl, rfl, rfl, rfl, rfl, rfl, rfl, rfl, rfl, trivial⟩ ?_
    refine Post.then_ ?_
    refine Cd.cond rfl (fun h => ?_) (fun h => ?_)
    · have h : D1.dropE ack ≠ 0 := by simpa using h
      rw [if_pos h]
      refine Cd.seq ?_
      refine Cd.region ?_
      refine Seq.val (Runs.move rfl rfl) rfl rfl rfl ?_
      refine Seq.val (Runs.assign rfl rfl) rfl rfl rfl ?_
      refine Seq.nil ?_
      refine Post.weak (F' := [(0, _), (1, _), (2, _), (6, _), (7, _), (8, _), (9, _), (10, _), (23, _), (31, _), (36, _)]) ⟨rfl, rfl, rfl, rfl, rfl, rfl, rfl, rfl, rfl, rfl, rfl, trivial⟩ ?_
      refine Post.then_ ?_
      refine Cd.ret ?_
      refine Post.then_ret ?_
      refine Post.then_ret ?_
      refine Post.end1 rfl rfl (.inl rfl) ?_
      exact ⟨rfl, dk, df⟩
    have h : ¬ (D1.dropE ack ≠ 0) := by simpa using h
    rw [if_neg h]
    refine Cd.skip ?_
    refine Post.then_ ?_
    refine Cd.seq ?_
    refine Cd.region ?_
    refine Seq.val (Runs.move rfl rfl) rfl rfl rfl ?_
    refine Seq.val (Runs.move rfl rfl) rfl rfl rfl ?_
    refine Seq.val (Runs.move rfl rfl) rfl rfl rfl ?_
    refine Seq.val (Runs.addI rfl rfl rfl (by omega) (by omega)) rfl rfl rfl ?_
    have e41 : (4294967296 : Int) + (cnt : Int) = ((4294967296 + cnt : Nat) : Int) := by omega
    rw [e41]
    rw [hack]
    rw [hack] at dk
    refine Seq.call (Enters.func rfl rfl rfl (run_enter Tryz.func67 (by kernel_rfl) rfl)) rfl rfl rfl (note_any B g0 gd n (4294967296 + cnt) (D1.delete (fileN nm n ackK)) nm num count size broken _ gv hgB k0 dk hn hnm hnl (by omega)) ?_
    clear dk
    rintro e w3 ⟨rfl, dk, fw3⟩
    refine ⟨_, rfl, ?_⟩
    replace df := df.df fw3
    replace k0 := k0.df fw3
    replace gv := gv.df fw3
    refine Seq.val (Runs.assign rfl rfl) rfl rfl rfl ?_
    refine Seq.nil ?_
    refine Post.weak (F' := [(0, _), (1, _), (2, _), (6, _), (7, _), (8, _), (9, _), (10, _), (23, _), (31, _), (36, _)]) ⟨rfl, rfl, rfl, rfl, rfl, rfl, rfl, rfl, rfl, rfl, rfl, trivial⟩ ?_
    refine Post.then_ ?_
    refine Cd.ret ?_
    refine Post.then_ret ?_
    refine Post.end1 rfl rfl (.inl rfl) ?_
    exact ⟨rfl, dk, df⟩
  have h : ¬ (200 ≤ D1.files.length) := by
    have h' : ¬ ((200 : Int) ≤ (D1.files.length : Int)) := by simpa using h
    omega
  rw [if_neg h]
  unfold Dk.fresh
  have e41 : (4294967296 : Int) + (cnt : Int) = ((4294967296 + cnt : Nat) : Int) := by omega
  obtain ⟨M, hM⟩ : ∃ x, x = 4294967296 + cnt := ⟨_, rfl⟩
  rw [← hM] at e41
  rw [← hM]
  refine Cd.skip ?_
  refine Post.then_ ?_
  refine Cd.seq ?_
  refine Cd.seq ?_
  refine Cd.draw 8 (by kernel_rfl) [] (.inl rfl) rfl Grow Grow.refl (fun _ _ _ => Grow.trans) ?_
  intro w2 hw2 zw2
  replace df := df.step hw2
  replace dk := dk.step hw2
  replace k0 := k0.step hw2
  replace gv := gv.step hw2
  have zlt := k0.lt
  refine Dr.val Grow.refl rfl (fun w hG => Runs.move rfl rfl) rfl ?_
  refine Dr.val Grow.refl rfl (fun w hG => Runs.nilCheck rfl rfl) rfl ?_
  refine Dr.val Grow.refl rfl (fun w hG => Runs.fieldB 0 rfl rfl Tryz.underlying80 rfl (by kernel_rfl)) rfl ?_
  refine Dr.val Grow.refl rfl (fun w hG => Runs.loadB rfl rfl Tryz.underlying26 rfl (k0.step hG) rfl) rfl ?_
  refine Dr.val Grow.refl rfl (fun w hG => Runs.move rfl rfl) rfl ?_
  refine Dr.val Grow.refl rfl (fun w hG => Runs.move rfl rfl) rfl ?_
  refine Dr.val Grow.refl rfl (fun w hG => Runs.addI rfl rfl rfl (by omega) (by omega)) rfl ?_
  rw [e41]
  refine Dr.callV rfl (fun w => Enters.func rfl rfl rfl (run_enter Tryz.func86 (by kernel_rfl) rfl)) rfl (fun w hG => marked_any M w (gv.step hG).nib (by omega)) ?_
  refine FinX.done (F' := [(0, _), (1, _), (2, _), (6, _), (7, _), (8, _), (9, _), (23, _), (31, _), (46, _), (47, _), (50, _)]) rfl ⟨rfl, rfl, rfl, rfl, rfl, rfl, rfl, rfl, rfl, rfl, rfl, rfl, trivial⟩ ?_
  intro w3 hw3 fw3
  replace df := df.step hw3
  replace dk := dk.step hw3
  replace k0 := k0.step hw3
  replace gv := gv.step hw3
  refine Seq.call (Enters.func rfl rfl rfl (run_enter Tryz.func17 (by kernel_rfl) rfl)) rfl rfl rfl (append_d_any B gd D1 fr (markN M) _ dk hfb (markN_lt M) (by omega) (by rw [markN_len]; omega)) ?_
  clear dk
  rintro e w4 ⟨rfl, dk, fw4⟩
  refine ⟨_, rfl, ?_⟩
  replace df := df.df fw4
  replace k0 := k0.df fw4
  replace gv := gv.df fw4
  refine Seq.val (Runs.assign rfl rfl) rfl rfl rfl ?_
  refine Seq.nil ?_
  refine Post.weak (F' := [(0, _), (1, _), (2, _), (6, _), (7, _), (8, _), (9, _), (11, _), (23, _), (31, _)]) ⟨rfl, rfl, rfl, rfl, rfl, rfl, rfl, rfl, rfl, rfl, trivial⟩ ?_
  refine Post.then_ ?_
  refine Cd.seq ?_
  refine Cd.region ?_
  refine Seq.val (Runs.move rfl rfl) rfl rfl rfl ?_
  refine Seq.val (Runs.neqI rfl rfl rfl) rfl rfl rfl ?_
  refine Seq.nil ?_
  refine Post.weak (F' := [(0, _), (1, _), (2, _), (6, _), (7, _), (8, _), (9, _), (11, _), (23, _), (31, _), (53, _)]) ⟨rfl, rfl, rfl, rfl, rfl, rfl, rfl, rfl, rfl, rfl, rfl, trivial⟩ ?_
  refine Post.then_ ?_
  refine Cd.cond rfl (fun h => ?_) (fun h => ?_)
  · have h : D1.appendE fr (markN M) ≠ 0 := by simpa using h
    rw [if_pos h]
    refine Cd.seq ?_
    refine Cd.region ?_
    refine Seq.val (Runs.move rfl rfl) rfl rfl rfl ?_
    refine Seq.val (Runs.assign rfl rfl) rfl rfl rfl ?_
    refine Seq.nil ?_
    refine Post.weak (F' := [(0, _), (1, _), (2, _), (6, _), (7, _), (8, _), (9, _), (11, _), (23, _), (31, _), (53, _)]) ⟨rfl, rfl, rfl, rfl, rfl, rfl, rfl, rfl, rfl, rfl, rfl, trivial⟩ ?_
    refine Post.then_ ?_
    refine Cd.ret ?_
    refine Post.then_ret ?_
    refine Post.end1 rfl rfl (.inl rfl) ?_
    exact ⟨rfl, dk, df⟩
  have h : ¬ (D1.appendE fr (markN M) ≠ 0) := by simpa using h
  rw [if_neg h]
  obtain ⟨D2, hD2⟩ : ∃ x, x = D1.append fr (markN M) := ⟨_, rfl⟩
  rw [← hD2] at dk
  rw [← hD2]
  refine Cd.skip ?_
  refine Post.then_ ?_
  refine Cd.seq ?_
  refine Cd.seq ?_
  refine Cd.region ?_
  refine Seq.val (Runs.move rfl rfl) rfl rfl rfl ?_
  refine Seq.val (Runs.nilCheck rfl rfl) rfl rfl rfl ?_
  refine Seq.val (Runs.fieldB 0 rfl rfl Tryz.underlying80 rfl (by kernel_rfl)) rfl rfl rfl ?_
  refine Seq.val (Runs.loadB rfl rfl Tryz.underlying26 rfl k0 rfl) rfl rfl rfl ?_
  refine Seq.val (Runs.move rfl rfl) rfl rfl rfl ?_
  refine Seq.call (Enters.func rfl rfl rfl (run_enter Tryz.func27 (by kernel_rfl) rfl)) rfl rfl rfl (sync_any B gd D2 fr _ dk hfb (by omega)) ?_
  clear dk
  rintro e w5 ⟨rfl, dk, fw5⟩
  refine ⟨_, rfl, ?_⟩
  replace df := df.df fw5
  replace k0 := k0.df fw5
  replace gv := gv.df fw5
  refine Seq.val (Runs.assign rfl rfl) rfl rfl rfl ?_
  refine Seq.nil ?_
  refine Post.weak (F' := [(0, _), (1, _), (2, _), (6, _), (7, _), (8, _), (9, _), (11, _), (12, _), (23, _), (31, _), (53, _)]) ⟨rfl, rfl, rfl, rfl, rfl, rfl, rfl, rfl, rfl, rfl, rfl, rfl, trivial⟩ ?_
  refine Post.then_ ?_
  refine Cd.seq ?_
  refine Cd.region ?_
  refine Seq.val (Runs.move rfl rfl) rfl rfl rfl ?_
  refine Seq.val (Runs.neqI rfl rfl rfl) rfl rfl rfl ?_
  refine Seq.nil ?_
  refine Post.weak (F' := [(0, _), (1, _), (2, _), (6, _), (7, _), (8, _), (9, _), (11, _), (12, _), (23, _), (31, _), (53, _), (62, _)]) ⟨rfl, rfl, rfl, rfl, rfl, rfl, rfl, rfl, rfl, rfl, rfl, rfl, rfl, trivial⟩ ?_
  refine Post.then_ ?_
  refine Cd.cond rfl (fun h => ?_) (fun h => ?_)
  · have h : D2.thereE [fr] fr ≠ 0 := by simpa using h
    rw [if_pos h]
    refine Cd.seq ?_
    refine Cd.region ?_
    refine Seq.val (Runs.move rfl rfl) rfl rfl rfl ?_
    refine Seq.val (Runs.assign rfl rfl) rfl rfl rfl ?_
    refine Seq.nil ?_
    refine Post.weak (F' := [(0, _), (1, _), (2, _), (6, _), (7, _), (8, _), (9, _), (11, _), (12, _), (23, _), (31, _), (53, _), (62, _)]) ⟨rfl, rfl, rfl, rfl, rfl, rfl, rfl, rfl, rfl, rfl, rfl, rfl, rfl, trivial⟩ ?_
    refine Post.then_ ?_
    refine Cd.ret ?_
    refine Post.then_ret ?_
    refine Post.end1 rfl rfl (.inl rfl) ?_
    exact ⟨rfl, dk, df⟩
  have h : ¬ (D2.thereE [fr] fr ≠ 0) := by simpa using h
  rw [if_neg h]
  refine Cd.skip ?_
  refine Post.then_ ?_
  refine Cd.seq ?_
  refine Cd.region ?_
  refine Seq.val (Runs.move rfl rfl) rfl rfl rfl ?_
  refine Seq.val (Runs.nilCheck rfl rfl) rfl rfl rfl ?_
  refine Seq.val (Runs.fieldB 0 rfl rfl Tryz.underlying80 rfl (by kernel_rfl)) rfl rfl rfl ?_
  refine Seq.val (Runs.loadB rfl rfl Tryz.underlying26 rfl k0 rfl) rfl rfl rfl ?_
  refine Seq.val (Runs.move rfl rfl) rfl rfl rfl ?_
  refine Seq.val (Runs.move rfl rfl) rfl rfl rfl ?_
  refine Seq.call (Enters.func rfl rfl rfl (run_enter Tryz.func87 (by kernel_rfl) rfl)) rfl rfl rfl (rename_d_any B gd (D2.sync fr) fr ack _ dk hfb hab (by omega) (by omega)) ?_
  clear dk
  rintro e w6 ⟨rfl, dk, fw6⟩
  refine ⟨_, rfl, ?_⟩
  replace df := df.df fw6
  replace k0 := k0.df fw6
  replace gv := gv.df fw6
  refine Seq.val (Runs.assign rfl rfl) rfl rfl rfl ?_
  refine Seq.nil ?_
  refine Post.weak (F' := [(0, _), (1, _), (2, _), (6, _), (7, _), (8, _), (9, _), (11, _), (12, _), (23, _), (31, _), (53, _), (62, _)]) ⟨rfl, rfl, rfl, rfl, rfl, rfl, rfl, rfl, rfl, rfl, rfl, rfl, rfl, trivial⟩ ?_
  refine Post.then_ ?_
  refine Cd.ret ?_
  refine Post.end1 rfl rfl (.inl rfl) ?_
  exact ⟨rfl, dk, df⟩
end Go.Proofs.YtnlepoplncjliaaGreatDoor

