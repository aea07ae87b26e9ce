/-
  debentureref01's divide: what it answers. Condition: the numbers keep a bound.
-/
import Derived.Test.YtpdeihienkbeeaaBigI
namespace Go.Proofs.Ytpdeihienkbeeaa
open Go.RowKit

/-- A store into another block of the call's own. -/
theorem MagR.far {w w' : World} {v : Value} {n g B : Nat} {T : TypeId} {cs : Array Value} (h : MagR w v n) (hf : Fresh B v) (p : Put w w' g T cs) (hg : g < B) : MagR w' v n := by
  obtain ⟨A, c, rfl, h1, h2, h3⟩ := h
  refine ⟨A, c, rfl, h1, h2, ⟨h3.1, fun hn => ?_⟩⟩
  obtain ⟨ad, rfl, hb, hc⟩ := h3.2 hn
  have hB : B ≤ ad.block := hf
  refine ⟨ad, rfl, by rw [p.size]; exact hb, fun j u hu => ?_⟩
  rw [← hc j u hu]
  exact World.cell?_of_block (p.grown.block _ (by rw [block_of_add]; exact hb) (fun e => by injection e with e; rw [block_of_add] at e; omega))
/-- A store behind what came in. -/
theorem MagR.old {w w' : World} {v : Value} {n g B : Nat} {T : TypeId} {cs : Array Value} {l : List Nat} {A : Option Addr} {k : Nat} (h : Reads w B 1 A k (U l)) (p : Put w w' g T cs) (hg : B ≤ g) (hB : B ≤ w.heap.size) : Reads w' B 1 A k (U l) :=
  h.keep fun q hq => World.cell?_of_block (p.grown.block _ (by omega) (fun e => by injection e with e; omega))
theorem digit_of (l : List Nat) (hl : ∀ d ∈ l, d < 65536) (k d : Nat) (h : l[k]? = some d) : val l / 65536 ^ k % 65536 = d := by
  have e := val_split l k d h
  have h1 := val_lt (l.take k) (fun x hx => hl x (List.mem_of_mem_take hx))
  obtain ⟨hk, -⟩ := List.getElem?_eq_some_iff.1 h
  rw [List.length_take, Nat.min_eq_left (by omega)] at h1
  have hd := hl d (List.mem_of_getElem? h)
  rw [e, Nat.add_mul_div_left _ _ (Nat.pos_of_ne_zero (by simp)), Nat.div_eq_of_lt h1]
  omega
theorem pow_split (j : Nat) : 2 ^ j = 65536 ^ (j / 16) * 2 ^ (j % 16) := by
  have : (65536 : Nat) = 2 ^ 16 := by decide
  rw [this, ← Nat.pow_mul, ← Nat.pow_add, Nat.div_add_mod]
theorem bit_of (n j d : Nat) (h : n / 65536 ^ (j / 16) % 65536 = d) : d / 2 ^ (j % 16) % 2 = n / 2 ^ j % 2 := by
  subst h
  have e : (65536 : Nat) = 2 ^ (j % 16) * 2 ^ (16 - j % 16) := by rw [← Nat.pow_add, show j % 16 + (16 - j % 16) = 16 from by omega]
  rw [pow_split j, ← Nat.div_div_eq_div_mul]
  generalize n / 65536 ^ (j / 16) = m
  rw [e, Nat.mod_mul_right_div_self]
  have e2 : 2 ^ (16 - j % 16) = 2 * 2 ^ (15 - j % 16) := by rw [show 16 - j % 16 = (15 - j % 16) + 1 from by omega, Nat.pow_succ, Nat.mul_comm]
  rw [e2, Nat.mod_mul_right_mod]
/-- There is room for the bit. -/
theorem room_of (l : List Nat) (hl : ∀ d ∈ l, d < 65536) (j d m : Nat) (h : l[j / 16]? = some d) (hm : val l = m * 2 ^ (j + 1)) : d + 2 ^ (j % 16) < 65536 := by
  have hd := digit_of l hl _ d h
  have e : (65536 : Nat) = 2 ^ (j % 16 + 1) * 2 ^ (15 - j % 16) := by rw [← Nat.pow_add, show j % 16 + 1 + (15 - j % 16) = 16 from by omega]
  have e1 : val l / 65536 ^ (j / 16) = m * 2 ^ (j % 16 + 1) := by
    rw [hm, Nat.pow_succ, pow_split, Nat.pow_succ, Nat.mul_assoc (65536 ^ (j / 16)), Nat.mul_left_comm, Nat.mul_div_cancel_left _ (Nat.pos_of_ne_zero (by simp))]
  rw [e1] at hd
  have hdvd : 2 ^ (j % 16 + 1) ∣ d := by
    rw [← hd]
    exact (Nat.dvd_mod_iff ⟨_, e⟩).2 ⟨m, Nat.mul_comm _ _⟩
  obtain ⟨t, rfl⟩ := hdvd
  have hlt : 2 ^ (j % 16 + 1) * t < 65536 := by rw [← hd]; exact Nat.mod_lt _ (by omega)
  have ht : t < 2 ^ (15 - j % 16) := by
    rw [e] at hlt
    exact Nat.lt_of_mul_lt_mul_left hlt
  have h2 : 2 ^ (j % 16 + 1) * (t + 1) ≤ 2 ^ (j % 16 + 1) * 2 ^ (15 - j % 16) := Nat.mul_le_mul_left _ ht
  rw [← e, Nat.mul_add, Nat.mul_one] at h2
  have h3 : 2 ^ (j % 16 + 1) = 2 ^ (j % 16) * 2 := Nat.pow_succ ..
  have h4 : 0 < 2 ^ (j % 16) := Nat.pos_of_ne_zero (by simp)
  omega
/-- One bit more. -/
theorem div_bit (n j b : Nat) (hb : 0 < b) : n / 2 ^ j = 2 * (n / 2 ^ (j + 1)) + n / 2 ^ j % 2 := by
  have : n / 2 ^ (j + 1) = n / 2 ^ j / 2 := by rw [Nat.pow_succ, Nat.div_div_eq_div_mul]
  rw [this]; omega
theorem div_step (x y c b : Nat) (hb : 0 < b) (h : x = 2 * y + c) (hc : c < 2) :
    (b ≤ 2 * (y % b) + c → x / b = 2 * (y / b) + 1 ∧ x % b = 2 * (y % b) + c - b) ∧ (2 * (y % b) + c < b → x / b = 2 * (y / b) ∧ x % b = 2 * (y % b) + c) := by
  have e := Nat.div_add_mod y b
  have hlt := Nat.mod_lt y hb
  have hx : x = b * (2 * (y / b)) + (2 * (y % b) + c) := by
    rw [h]
    have : b * (2 * (y / b)) = 2 * (b * (y / b)) := Nat.mul_left_comm ..
    omega
  constructor
  · intro h1
    have hx2 : x = b * (2 * (y / b) + 1) + (2 * (y % b) + c - b) := by rw [Nat.mul_add]; omega
    have h3 : 2 * (y % b) + c - b < b := by omega
    rw [hx2]
    exact ⟨by rw [Nat.mul_add_div hb, Nat.div_eq_of_lt h3], by rw [Nat.mul_add_mod, Nat.mod_eq_of_lt h3]⟩
  · intro h1
    rw [hx]
    exact ⟨by rw [Nat.mul_add_div hb, Nat.div_eq_of_lt h1, Nat.add_zero], by rw [Nat.mul_add_mod, Nat.mod_eq_of_lt h1]⟩
theorem MagR.neg_ne (n : Nat) (h : 0 < n) : digs n ≠ [] := digs_ne_nil n (by omega)

theorem divide_any (x y : Value) (a b : Nat) (w : World) (hx : MagR w x a) (hy : MagR w y b) (ha : a < big) (hb : b < big) (hb0 : 0 < b) :
    Calls Try.prog 63 #[x, y] w fun e w' => ∃ q r, e = .returned (.tuple #[q, r]) ∧ MagR w' q (a / b) ∧ MagR w' r (a % b) ∧ Below w.heap.size w w' := by
  obtain ⟨A, ca, rfl, hca, hca2, hra⟩ := hx
  have hla := len_big (n := a) (by omega)
  have hlb := len_big (n := b) (by omega)
  have hal := lt_of_digs_len a
  generalize hma : (digs a).length = la at *
  have bel := Below.refl w.heap.size w
  have hy0 := hy
  refine Calls.start 59 Try.func63 rfl rfl rfl ?_
  refine Cd.seq ?_
  refine Cd.region ?_
  refine Seq.val (Runs.assign rfl rfl) rfl rfl rfl ?_
  refine Seq.val (Runs.assign rfl rfl) rfl rfl rfl ?_
  refine Seq.nil ?_
  refine Post.weak (F' := [(0, _), (1, _), (4, _), (5, _)]) ⟨rfl, rfl, rfl, rfl, trivial⟩ ?_
  refine Post.then_ ?_
  refine Cd.seq ?_
  refine Cd.region ?_
  refine Seq.val (Runs.move rfl rfl) rfl rfl rfl ?_
  refine Seq.val (Runs.len rfl rfl Try.underlying29) rfl rfl rfl ?_
  refine Seq.make rfl rfl rfl Try.underlying29 (by kernel_rfl) zero_uint64 rfl (b := 8) (by kernel_rfl) (m := la) (by omega) (by omega) (by omega) rfl rfl rfl ?_
  intro g11 w1 n11
  have e11 := Nat.le_trans bel.size n11.ge
  replace bel := bel.step n11.below
  replace hy := hy.step n11.below
  have k11 := n11.blk
  refine Seq.val (Runs.assign rfl rfl) rfl rfl rfl ?_
  refine Seq.nil ?_
  refine Post.weak (F' := [(0, _), (1, _), (4, _), (5, _), (6, _)]) ⟨rfl, rfl, rfl, rfl, rfl, trivial⟩ ?_
  refine Post.then_ ?_
  refine Cd.seq ?_
  refine Cd.region ?_
  refine Seq.val (Runs.assign rfl rfl) rfl rfl rfl ?_
  refine Seq.nil ?_
  refine Post.weak (F' := [(0, _), (1, _), (4, _), (5, _), (6, _), (7, _)]) ⟨rfl, rfl, rfl, rfl, rfl, rfl, trivial⟩ ?_
  refine Post.then_ ?_
  refine Cd.seq ?_
  refine Cd.seq ?_
  refine Cd.region ?_
  refine Seq.val (Runs.move rfl rfl) rfl rfl rfl ?_
  refine Seq.val (Runs.len rfl rfl Try.underlying29) rfl rfl rfl ?_
  refine Seq.val (Runs.mulI rfl rfl rfl (by omega) (by omega)) rfl rfl rfl ?_
  refine Seq.val (Runs.subI rfl rfl rfl (by omega) (by omega)) rfl rfl rfl ?_
  refine Seq.val (Runs.assign rfl rfl) rfl rfl rfl ?_
  refine Seq.nil ?_
  refine Post.weak (F' := [(0, _), (1, _), (4, _), (5, _), (6, _), (7, _), (8, _)]) ⟨rfl, rfl, rfl, rfl, rfl, rfl, rfl, trivial⟩ ?_
  refine Post.then_ ?_
  refine Cd.block ?_
  rw [U_zero] at k11
  refine Cd.loop (σ := Nat × List Nat × Value) (fun s => [(0, .slice A la ca), (1, y), (4, .slice none 0 0), (5, .slice none 0 0), (6, .slice (some ⟨g11, 0, none⟩) la la), (7, s.2.2), (8, .int .i64 ((s.1 : Int) - 1))])
    (fun s wr => s.1 ≤ 16 * la ∧ s.2.1.length = la ∧ (∀ d ∈ s.2.1, d < 65536) ∧ val s.2.1 = a / 2 ^ s.1 / b * 2 ^ s.1 ∧ MagR wr s.2.2 (a / 2 ^ s.1 % b) ∧ Fresh (g11 + 1) s.2.2 ∧ Below w.heap.size w wr ∧ Blk wr g11 62 (U s.2.1).toArray)
    (fun s => s.1) (16 * la, List.replicate la 0, .slice none 0 0) ?_ ⟨rfl, rfl, rfl, rfl, rfl, rfl, ?_, trivial⟩ ?_
  · refine ⟨Nat.le_refl _, by simp, by simp, ?_, ?_, trivial, bel, k11⟩
    · have h0 : a / 2 ^ (16 * la) = 0 := Nat.div_eq_of_lt (by rw [Nat.pow_mul]; exact hal)
      simp [val_zero, h0]
    · have h0 : a / 2 ^ (16 * la) = 0 := Nat.div_eq_of_lt (by rw [Nat.pow_mul]; exact hal)
      simp only [h0, Nat.zero_mod]
      exact MagR.nil _ 0 (by omega)
  · exact congrArg (fun z => some (Value.int .i64 z)) (by omega)
  clear bel hy k11
  rintro ⟨k, l, lv⟩ wr ⟨hk, hl, hd, hv, hlv, hfr, bel, k11⟩
  dsimp only at hk hl hd hv hlv hfr ⊢
  refine Cd.seq ?_
  refine Cd.seq ?_
  refine Cd.region ?_
  refine Seq.val (Runs.move rfl rfl) rfl rfl rfl ?_
  refine Seq.val (Runs.geq rfl rfl rfl) rfl rfl rfl ?_
  refine Seq.nil ?_
  refine Post.weak (F' := [(0, _), (1, _), (4, _), (5, _), (6, _), (7, _), (8, _), (17, _)]) ⟨rfl, rfl, rfl, rfl, rfl, rfl, rfl, rfl, trivial⟩ ?_
  refine Post.then_ ?_
  refine Cd.condD rfl (fun hc => ?_) (fun hc => ?_)
  · obtain ⟨j, rfl⟩ : ∃ j, k = j + 1 := ⟨k - 1, by omega⟩
    have hyr := hy0.step bel
    have hrb := Nat.mod_lt (a / 2 ^ (j + 1)) hb0
    obtain ⟨ad, p, rfl, hbp, hp, hcp⟩ := hra.dig bel (Nat.le_refl _) (show j / 16 < la by omega)
    have cp : Cell wr w.heap.size (ad.add (j / 16)) (.int .u64 p) := ⟨by rw [block_of_add]; exact hbp, hcp⟩
    have hp2 := get_lt (digs_lt _) hp
    have hpd := digit_of _ (digs_lt a) _ _ hp
    rw [val_digs] at hpd
    have hbit := bit_of a j p hpd
    obtain ⟨x, hx⟩ : ∃ x, l[j / 16]? = some x := ⟨_, List.getElem?_eq_getElem (show j / 16 < l.length by omega)⟩
    have hroom := room_of l hd j x _ hx hv
    have hds := div_step _ _ _ b hb0 (div_bit a j b hb0) (Nat.mod_lt _ (by omega))
    have hdig := digit_of l hd _ _ hx
    generalize hr : a / 2 ^ (j + 1) % b = r at *
    generalize hqq : a / 2 ^ (j + 1) / b = qq at *
    generalize hc0 : a / 2 ^ j % 2 = c at *
    have hc2 : c < 2 := by rw [← hc0]; exact Nat.mod_lt _ (by omega)
    have hlr := len_big (n := r) (by omega)
    have hl2r := len_big (n := r + r) (by omega)
    refine Cd.skip ?_
    refine Post.then_ ?_
    refine Cd.seq ?_
    refine Cd.block ?_
    refine Cd.seq ?_
    refine Cd.region ?_
    refine Seq.val (Runs.move rfl rfl) rfl rfl rfl ?_
    refine Seq.val (Runs.move rfl rfl) rfl rfl rfl ?_
    refine Seq.call (Enters.func rfl rfl rfl (run_enter Try.func53 (by kernel_rfl) rfl)) rfl rfl rfl (add_any _ _ _ _ _ hlv hlv (by omega) (by omega)) ?_
    rintro e w7 ⟨l2, rfl, hl2, hb7, hf7⟩
    refine ⟨_, rfl, ?_⟩
    have hf2 := hf7.mono (show g11 + 1 ≤ _ from k11.lt)
    replace bel := bel.step hb7
    replace k11 := k11.step hb7
    replace hyr := hyr.step hb7
    replace cp := cp.step hb7
    refine Seq.val (Runs.assign rfl rfl) rfl rfl rfl ?_
    refine Seq.nil ?_
    refine Post.weak (F' := [(0, _), (1, _), (4, _), (5, _), (6, _), (7, _), (8, _), (17, _)]) ⟨rfl, rfl, rfl, rfl, rfl, rfl, rfl, rfl, trivial⟩ ?_
    refine Post.then_ ?_
    refine Cd.seqJ (σ := Value) (fun v => [(0, .slice (some ad) la ca), (1, y), (4, .slice none 0 0), (5, .slice none 0 0), (6, .slice (some ⟨g11, 0, none⟩) la la), (7, v), (8, .int .i64 (((j + 1 : Nat) : Int) - 1))])
      (fun v wr => MagR wr v (2 * r + c) ∧ Fresh (g11 + 1) v ∧ MagR wr y b ∧ Below w.heap.size w wr ∧ Blk wr g11 62 (U l).toArray) ?_ ?_
    · skip
      refine Cd.seq ?_
      refine Cd.region ?_
      refine Seq.val (Runs.move rfl rfl) rfl rfl rfl ?_
      refine Seq.val (Runs.move rfl rfl) rfl rfl rfl ?_
      refine Seq.val (Runs.quoI rfl rfl rfl (by omega) (by omega) (by omega)) rfl rfl rfl ?_
      refine Seq.val (Runs.index1 rfl rfl rfl Try.underlying29 (by kernel_rfl) (j := j / 16) (by omega) (by omega)) rfl rfl rfl ?_
      refine Seq.val (Runs.load1 rfl rfl Try.underlying62 rfl cp.val) rfl rfl rfl ?_
      refine Seq.val (Runs.move rfl rfl) rfl rfl rfl ?_
      refine Seq.val (Runs.remN rfl rfl rfl (by omega) (by omega)) rfl rfl rfl ?_
      refine Seq.val (Runs.shrL (s := j % 16) rfl rfl rfl (by omega) (by omega)) rfl rfl rfl ?_
      refine Seq.val (Runs.remL 2 rfl rfl rfl rfl (by omega)) rfl rfl rfl ?_
      refine Seq.val (Runs.eqlI rfl rfl rfl) rfl rfl rfl ?_
      refine Seq.nil ?_
      refine Post.weak (F' := [(0, _), (1, _), (4, _), (5, _), (6, _), (7, _), (8, _), (17, _), (32, _)]) ⟨rfl, rfl, rfl, rfl, rfl, rfl, rfl, rfl, rfl, trivial⟩ ?_
      refine Post.then_ ?_
      refine Cd.condD rfl (fun hc => ?_) (fun hc => ?_)
      · have hc1 : c = 1 := by rw [hbit] at hc; omega
        refine Cd.region ?_
        refine Seq.val (Runs.move rfl rfl) rfl rfl rfl ?_
        refine Seq.slice (vs := [_]) (s := 1) rfl rfl rfl Try.underlying29 (by kernel_rfl) (zero_uint64) (by omega) (by omega) ⟨rfl, trivial⟩ rfl rfl rfl ?_
        intro g34 w2 n34
        have e34 := Nat.le_trans bel.size n34.ge
        have l34 := Nat.lt_of_lt_of_le k11.lt n34.ge
        replace bel := bel.step n34.below
        replace k11 := k11.step n34.below
        replace hyr := hyr.step n34.below
        replace cp := cp.step n34.below
        replace hl2 := hl2.step n34.below
        have k34 := n34.blk
        have hm1 : MagR w2 (.slice (some ⟨g34, 0, none⟩) 1 1) 1 := by
          have e1 : digs 1 = [1] := by rw [digs_pos 1 (by omega), digs_zero]
          refine ⟨_, 1, by rw [e1]; rfl, by rw [e1]; exact Nat.le_refl _, by omega, ?_⟩
          rw [e1]
          refine ⟨rfl, fun _ => ⟨_, rfl, k34.lt, fun i u hu => ?_⟩⟩
          have hadd : (⟨g34, 0, none⟩ : Addr).add i = ⟨g34, i, none⟩ := by unfold Addr.add; split <;> simp_all
          rw [hadd, k34.cell i]
          simpa [U, flatC, Value.cells] using hu
        refine Seq.call (Enters.func rfl rfl rfl (run_enter Try.func53 (by kernel_rfl) rfl)) rfl rfl rfl (add_any _ _ _ _ _ hl2 hm1 (by omega) (by rw [digs_pos 1 (by omega), digs_zero]; simp)) ?_
        rintro e w9 ⟨l3, rfl, hl3, hb9, hf9⟩
        refine ⟨_, rfl, ?_⟩
        have hf3 := hf9.mono (show g11 + 1 ≤ _ from k11.lt)
        replace bel := bel.step hb9
        replace k11 := k11.step hb9
        replace hyr := hyr.step hb9
        replace cp := cp.step hb9
        replace hl2 := hl2.step hb9
        replace k34 := k34.step hb9
        refine Seq.val (Runs.assign rfl rfl) rfl rfl rfl ?_
        refine Seq.nil ?_
        refine Post.weak (F' := [(0, _), (1, _), (4, _), (5, _), (6, _), (7, _), (8, _), (17, _), (32, _)]) ⟨rfl, rfl, rfl, rfl, rfl, rfl, rfl, rfl, rfl, trivial⟩ ?_
        refine Post.join _ ⟨rfl, rfl, rfl, rfl, rfl, rfl, rfl, trivial⟩ ⟨?_, hf3, hyr, bel, k11⟩
        rw [show 2 * r + c = r + r + 1 by omega]; exact hl3
      · have hc1 : c = 0 := by rw [hbit] at hc; omega
        refine Cd.skip ?_
        refine Post.join _ ⟨rfl, rfl, rfl, rfl, rfl, rfl, rfl, trivial⟩ ⟨?_, hf2, hyr, bel, k11⟩
        rw [show 2 * r + c = r + r by omega]; exact hl2
    clear bel k11 hyr cp hl2
    rintro v w8 ⟨hlv, hfv, hyr, bel, k11⟩
    have hlc := len_big (n := 2 * r + c) (by omega)
    refine Cd.seq ?_
    refine Cd.region ?_
    refine Seq.val (Runs.move rfl rfl) rfl rfl rfl ?_
    refine Seq.val (Runs.move rfl rfl) rfl rfl rfl ?_
    refine Seq.call (Enters.func rfl rfl rfl (run_enter Try.func54 (by kernel_rfl) rfl)) rfl rfl rfl (cmp_any _ _ _ _ _ hlv hyr (by omega) (by omega)) ?_
    rintro e w9 ⟨rfl, hdr⟩
    refine ⟨_, rfl, ?_⟩
    have hb9 := hdr.below w8.heap.size
    replace bel := bel.step hb9
    replace k11 := k11.step hb9
    replace hyr := hyr.step hb9
    replace hlv := hlv.step hb9
    refine Seq.val (Runs.geq rfl rfl rfl) rfl rfl rfl ?_
    refine Seq.nil ?_
    refine Post.weak (F' := [(0, _), (1, _), (4, _), (5, _), (6, _), (7, _), (8, _), (39, _)]) ⟨rfl, rfl, rfl, rfl, rfl, rfl, rfl, rfl, trivial⟩ ?_
    refine Post.then_ ?_
    refine Cd.condD rfl (fun hc => ?_) (fun hc => ?_)
    · have hle := cmpN_ge hc
      obtain ⟨hq1, hr1⟩ := hds.1 hle
      refine Cd.seq ?_
      refine Cd.region ?_
      refine Seq.val (Runs.move rfl rfl) rfl rfl rfl ?_
      refine Seq.val (Runs.move rfl rfl) rfl rfl rfl ?_
      refine Seq.call (Enters.func rfl rfl rfl (run_enter Try.func55 (by kernel_rfl) rfl)) rfl rfl rfl (sub_any _ _ _ _ _ hlv hyr (by omega) hle) ?_
      rintro e w10 ⟨l4, rfl, hl4, hb10, hf10⟩
      refine ⟨_, rfl, ?_⟩
      have hf4 := hf10.mono (show g11 + 1 ≤ _ from k11.lt)
      replace bel := bel.step hb10
      replace k11 := k11.step hb10
      replace hyr := hyr.step hb10
      refine Seq.val (Runs.assign rfl rfl) rfl rfl rfl ?_
      refine Seq.nil ?_
      refine Post.weak (F' := [(0, _), (1, _), (4, _), (5, _), (6, _), (7, _), (8, _), (39, _)]) ⟨rfl, rfl, rfl, rfl, rfl, rfl, rfl, rfl, trivial⟩ ?_
      refine Post.then_ ?_
      refine Cd.draw 13 (by kernel_rfl) [] (.inl rfl) rfl Grow Grow.refl (fun _ _ _ => Grow.trans) ?_
      intro w2 hw2 zw2
      replace bel := bel.step hw2
      replace k11 := k11.step hw2
      replace hyr := hyr.step hw2
      replace hl4 := hl4.step hw2
      have zbel := bel.size
      have zlt := k11.lt
      refine Dr.val Grow.refl rfl (fun w hG => Runs.move rfl rfl) rfl ?_
      refine Dr.val Grow.refl rfl (fun w hG => Runs.move rfl rfl) rfl ?_
      refine Dr.val Grow.refl rfl (fun w hG => Runs.quoI rfl rfl rfl (by omega) (by omega) (by omega)) rfl ?_
      refine Dr.val Grow.refl rfl (fun w hG => Runs.move rfl rfl) rfl ?_
      refine Dr.val Grow.refl rfl (fun w hG => Runs.move rfl rfl) rfl ?_
      refine Dr.val Grow.refl rfl (fun w hG => Runs.quoI rfl rfl rfl (by omega) (by omega) (by omega)) rfl ?_
      refine Dr.val Grow.refl rfl (fun w hG => Runs.indexB rfl rfl rfl Try.underlying29 (by kernel_rfl) (j := j / 16) (by omega) (by omega)) rfl ?_
      refine Dr.val Grow.refl rfl (fun w hG => Runs.loadB rfl rfl Try.underlying62 rfl (k11.step hG) (U_at hx)) rfl ?_
      refine Dr.val Grow.refl rfl (fun w hG => Runs.move rfl rfl) rfl ?_
      refine Dr.val Grow.refl rfl (fun w hG => Runs.remN rfl rfl rfl (by omega) (by omega)) rfl ?_
      refine Dr.val Grow.refl rfl (fun w hG => Runs.shlL (a := 1) (s := j % 16) rfl rfl rfl (by omega) (by omega) (by omega)) rfl ?_
      refine Dr.val Grow.refl rfl (fun w hG => Runs.addLU rfl rfl rfl (by omega)) rfl ?_
      refine Dr.val Grow.refl rfl (fun w hG => Runs.indexB rfl rfl rfl Try.underlying29 (by kernel_rfl) (j := j / 16) (by omega) (by omega)) rfl ?_
      refine Dr.nil ?_
      refine FinX.done (F' := [(0, _), (1, _), (4, _), (5, _), (6, _), (7, _), (8, _), (39, _), (54, _), (55, _)]) rfl ⟨rfl, rfl, rfl, rfl, rfl, rfl, rfl, rfl, rfl, rfl, trivial⟩ ?_
      intro w3 hw3 fw3
      replace bel := bel.step hw3
      replace k11 := k11.step hw3
      replace hl4 := hl4.step hw3
      refine Seq.store1 rfl rfl rfl (by kernel_rfl) rfl rfl k11 (U_at hx) rfl rfl ?_
      intro w4 pw4
      replace bel := bel.put k11 pw4 e11
      replace k11 := pw4.blk
      have hl5 := hl4.far hf4 (by assumption) (Nat.lt_succ_self g11)
      rw [U_set] at k11
      refine Seq.nil ?_
      refine Post.weak (F' := [(0, _), (1, _), (4, _), (5, _), (6, _), (7, _), (8, _), (39, _)]) ⟨rfl, rfl, rfl, rfl, rfl, rfl, rfl, rfl, trivial⟩ ?_
      refine Post.block_normal ?_
      refine Post.then_ ?_
      refine Cd.region ?_
      refine Seq.val (Runs.move rfl rfl) rfl rfl rfl ?_
      refine Seq.val (Runs.subI rfl rfl rfl (by omega) (by omega)) rfl rfl rfl ?_
      refine Seq.val (Runs.assign rfl rfl) rfl rfl rfl ?_
      refine Seq.nil ?_
      refine Post.weak (F' := [(0, _), (1, _), (4, _), (5, _), (6, _), (7, _), (8, _), (39, _)]) ⟨rfl, rfl, rfl, rfl, rfl, rfl, rfl, rfl, trivial⟩ ?_
      refine Post.round (j, l.set (j / 16) (x + 1 * 2 ^ (j % 16)), l4) ⟨rfl, rfl, rfl, rfl, rfl, rfl, ?_, trivial⟩ ⟨by dsimp only; omega, by simp [hl], set_lt hd _ _ (by omega), ?_, ?_, hf4, bel, k11⟩ (Nat.lt_succ_self _)
      · exact congrArg (fun z => some (Value.int .i64 z)) (by omega)
      · show val (l.set (j / 16) (x + 1 * 2 ^ (j % 16))) = a / 2 ^ j / b * 2 ^ j
        have h1 := val_set l (j / 16) (x + 1 * 2 ^ (j % 16)) x hx
        have h2 : 65536 ^ (j / 16) * (x + 1 * 2 ^ (j % 16)) = 65536 ^ (j / 16) * x + 2 ^ j := by rw [Nat.mul_add, Nat.one_mul, ← pow_split]
        have h3 : a / 2 ^ j / b * 2 ^ j = val l + 2 ^ j := by
          rw [hv, hq1, Nat.pow_succ, Nat.add_mul, Nat.one_mul, Nat.mul_comm 2 qq, Nat.mul_assoc, Nat.mul_comm 2 (2 ^ j)]
        omega
      · show MagR _ l4 _
        rw [hr1]; exact hl5
    · have hlt := cmpN_lt hc
      obtain ⟨hq1, hr1⟩ := hds.2 hlt
      refine Cd.skip ?_
      refine Post.block_normal ?_
      refine Post.then_ ?_
      refine Cd.region ?_
      refine Seq.val (Runs.move rfl rfl) rfl rfl rfl ?_
      refine Seq.val (Runs.subI rfl rfl rfl (by omega) (by omega)) rfl rfl rfl ?_
      refine Seq.val (Runs.assign rfl rfl) rfl rfl rfl ?_
      refine Seq.nil ?_
      refine Post.weak (F' := [(0, _), (1, _), (4, _), (5, _), (6, _), (7, _), (8, _), (39, _)]) ⟨rfl, rfl, rfl, rfl, rfl, rfl, rfl, rfl, trivial⟩ ?_
      refine Post.round (j, l, v) ⟨rfl, rfl, rfl, rfl, rfl, rfl, ?_, trivial⟩ ⟨by dsimp only; omega, hl, hd, ?_, ?_, hfv, bel, k11⟩ (Nat.lt_succ_self _)
      · exact congrArg (fun z => some (Value.int .i64 z)) (by omega)
      · show val l = a / 2 ^ j / b * 2 ^ j
        rw [hv, hq1, Nat.pow_succ, Nat.mul_comm 2 qq, Nat.mul_assoc, Nat.mul_comm 2 (2 ^ j)]
      · show MagR _ v _
        rw [hr1]; exact hlv
  · obtain rfl : k = 0 := by omega
    have hv1 : val l = a / b := by rw [hv]; simp
    have hq1 : (digs (val l)).length ≤ la := by rw [← hl]; exact digs_len_le _ _ (val_lt l hd)
    have hr11 : Reads wr wr.heap.size 1 (some ⟨g11, 0, none⟩) la (U l) := by
      refine ⟨by rw [length_U]; omega, fun _ => ⟨_, rfl, k11.lt, fun j u hu => ?_⟩⟩
      have hadd : (⟨g11, 0, none⟩ : Addr).add j = ⟨g11, j, none⟩ := by unfold Addr.add; split <;> simp_all
      rw [hadd, k11.cell j]
      simpa using hu
    refine Cd.exit ?_
    refine Post.then_exit ?_
    refine Post.round_exit ?_
    refine Post.block_exit ?_
    refine Post.then_ ?_
    refine Cd.seq ?_
    refine Cd.region ?_
    refine Seq.val (Runs.move rfl rfl) rfl rfl rfl ?_
    refine Seq.call (Enters.func rfl rfl rfl (run_enter Try.func51 (by kernel_rfl) rfl)) rfl rfl rfl (trim_any _ _ la la l _ hr11 (Nat.le_refl _) hd (by omega) (Nat.le_refl _)) ?_
    rintro e w9 ⟨rfl, rfl⟩
    refine ⟨_, rfl, ?_⟩
    refine Seq.val (Runs.move rfl rfl) rfl rfl rfl ?_
    refine Seq.val (Runs.assign rfl rfl) rfl rfl rfl ?_
    refine Seq.val (Runs.assign rfl rfl) rfl rfl rfl ?_
    refine Seq.nil ?_
    refine Post.weak (F' := [(0, _), (1, _), (4, _), (5, _), (6, _), (7, _), (8, _), (17, _)]) ⟨rfl, rfl, rfl, rfl, rfl, rfl, rfl, rfl, trivial⟩ ?_
    refine Post.then_ ?_
    refine Cd.ret ?_
    refine Post.end2 rfl rfl rfl (.inl rfl) ?_
    refine ⟨_, _, rfl, ?_, by simpa using hlv, bel⟩
    have := mag_of_trim hr11 hd (Nat.le_refl _) (by omega) hv1
    rwa [hv1] at this ⊢
end Go.Proofs.Ytpdeihienkbeeaa
