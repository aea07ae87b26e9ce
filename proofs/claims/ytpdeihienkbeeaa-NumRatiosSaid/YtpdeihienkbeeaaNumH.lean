/-
  slices.Reverse of bytes; num's Print. Condition: the number is of 64 bits.
-/
import Derived.Test.YtpdeihienkbeeaaNumG
import Derived.Test.YtpdeihienkbeeaaKH
namespace Go.Proofs.Ytpdeihienkbeeaa
open Go.RowKit

theorem zero_uint8 : zeroIs Try.prog 5 = some (some (.int .u8 0)) := by kernel_rfl
/-- Nothing but one block has changed. -/
structure Only (w0 w : World) (g : Nat) : Prop where
  row : w0.grownBy w (some g)
theorem Only.step {w0 w w' : World} {g : Nat} (h : Only w0 w g) (hb : Below w.heap.size w w') : Only w0 w' g := ⟨only_below h.row hb⟩
theorem Only.put {w0 w w' : World} {g B : Nat} {T : TypeId} {cur cs : Array Value} (h : Only w0 w g) (_k : Blk w g T cur) (p : Put w w' g T cs) (_e : B ≤ g) : Only w0 w' g := ⟨only_trans h.row p.grown⟩
/-- The first i and the last i have changed places. -/
def turned (xs : List Value) (n i j : Nat) : Option Value := if j < i ∨ n ≤ j + i then xs[n - 1 - j]? else xs[j]?
theorem reverse_any (g n cap : Nat) (cur : Array Value) (xs : List Value) (w : World) (hb : Blk w g 5 cur) (hc : n ≤ cap) (hn : n ≤ 1000000000) (hs : cur.size = cap) (hx : ∀ j, j < n → cur[j]? = xs[j]?) (hl : xs.length = n) (h1 : ∀ u ∈ xs, ∃ z, u = .int .u8 z) :
    Calls Try.prog 67 #[.slice (some ⟨g, 0, none⟩) n cap] w fun e w' => ∃ cur', e = .returned (.tuple #[]) ∧ Blk w' g 5 cur' ∧ cur'.size = cap ∧ (∀ j, j < n → cur'[j]? = xs.reverse[j]?) ∧ Only w w' g := by
  refine Calls.start 28 Try.func67 rfl rfl rfl ?_
  refine Cd.seq ?_
  refine Cd.region ?_
  refine Seq.val (Runs.move rfl rfl) rfl rfl rfl ?_
  refine Seq.val (Runs.len rfl rfl Try.underlying94) rfl rfl rfl ?_
  refine Seq.val (Runs.subI rfl rfl rfl (by omega) (by omega)) rfl rfl rfl ?_
  refine Seq.val (Runs.assign rfl rfl) rfl rfl rfl ?_
  refine Seq.val (Runs.assign rfl rfl) rfl rfl rfl ?_
  refine Seq.nil ?_
  refine Post.weak (F' := [(0, _), (2, _), (3, _)]) ⟨rfl, rfl, rfl, trivial⟩ ?_
  refine Post.then_ ?_
  refine Cd.block ?_
  refine Cd.loop (σ := Nat × Array Value) (fun s => [(0, .slice (some ⟨g, 0, none⟩) n cap), (2, .int .i64 (s.1 : Int)), (3, .int .i64 ((n : Int) - 1 - s.1))])
    (fun s wr => s.1 ≤ n ∧ Blk wr g 5 s.2 ∧ s.2.size = cap ∧ (∀ j, j < n → s.2[j]? = turned xs n s.1 j) ∧ Only w wr g) (fun s => n - s.1) (0, cur) ⟨Nat.zero_le _, hb, hs, fun j hj => by dsimp only; rw [hx j hj]; unfold turned; rw [if_neg (by omega)], ⟨World.grownBy.refl _ _⟩⟩
    ⟨rfl, rfl, congrArg (fun x => some (Value.int .i64 x)) (show (n : Int) - 1 = (n : Int) - 1 - ((0 : Nat) : Int) by omega), trivial⟩ ?_
  clear hb hs hx cur
  rintro ⟨i, cs⟩ wr ⟨hi, k0, hs, hx, hgr⟩
  dsimp only at hi k0 hs hx hgr ⊢
  have e0 : 0 ≤ g := Nat.zero_le g
  refine Cd.seq ?_
  refine Cd.seq ?_
  refine Cd.region ?_
  refine Seq.val (Runs.move rfl rfl) rfl rfl rfl ?_
  refine Seq.val (Runs.move rfl rfl) rfl rfl rfl ?_
  refine Seq.val (Runs.lss rfl rfl rfl) rfl rfl rfl ?_
  refine Seq.nil ?_
  refine Post.weak (F' := [(0, _), (2, _), (3, _), (9, _)]) ⟨rfl, rfl, rfl, rfl, trivial⟩ ?_
  refine Post.then_ ?_
  refine Cd.condD rfl (fun hc => ?_) (fun hc => ?_)
  · have hlt : i < n - 1 - i := by omega
    have get : ∀ j, j < n → ∃ z, xs[j]? = some (.int .u8 z) := fun j hj => by
      obtain ⟨z, hz⟩ := h1 xs[j] (List.getElem_mem (by omega))
      exact ⟨z, by rw [List.getElem?_eq_getElem (by omega), hz]⟩
    obtain ⟨za, ha⟩ := get (n - 1 - i) (by omega)
    obtain ⟨zb, hb⟩ := get i (by omega)
    have ca : cs[n - 1 - i]? = some (.int .u8 za) := by rw [hx _ (by omega), turned, if_neg (by omega), ha]
    have cb : cs[i]? = some (.int .u8 zb) := by rw [hx _ (by omega), turned, if_neg (by omega), hb]
    refine Cd.skip ?_
    refine Post.then_ ?_
    refine Cd.seq ?_
    refine Cd.block ?_
    refine Cd.draw 12 (by kernel_rfl) [2, 3] (.inr (fun _ _ d _ _ h => by cases d <;> exact h)) rfl Grow Grow.refl (fun _ _ _ => Grow.trans) ?_
    intro w1 hw1 zw1
    replace k0 := k0.step hw1
    replace hgr := hgr.step hw1
    have zlt := k0.lt
    refine Dr.val Grow.refl rfl (fun w hG => Runs.move rfl rfl) rfl ?_
    refine Dr.val Grow.refl rfl (fun w hG => Runs.move rfl rfl) rfl ?_
    refine Dr.late rfl rfl (fun w => Runs.move rfl rfl) Grow.refl rfl ?_
    refine Dr.late rfl rfl (fun w => Runs.move rfl rfl) Grow.refl rfl ?_
    refine Dr.val Grow.refl rfl (fun w hG => Runs.move rfl rfl) rfl ?_
    refine Dr.val Grow.refl rfl (fun w hG => Runs.move rfl rfl) rfl ?_
    refine Dr.val Grow.refl rfl (fun w hG => Runs.indexB rfl rfl rfl Try.underlying94 (by kernel_rfl) (j := n - 1 - i) (by omega) (by omega)) rfl ?_
    refine Dr.val Grow.refl rfl (fun w hG => Runs.loadB rfl rfl Try.underlying5 rfl (k0.step hG) ca) rfl ?_
    refine Dr.val Grow.refl rfl (fun w hG => Runs.move rfl rfl) rfl ?_
    refine Dr.val Grow.refl rfl (fun w hG => Runs.move rfl rfl) rfl ?_
    refine Dr.val Grow.refl rfl (fun w hG => Runs.indexB rfl rfl rfl Try.underlying94 (by kernel_rfl) (j := i) (by omega) (by omega)) rfl ?_
    refine Dr.val Grow.refl rfl (fun w hG => Runs.loadB rfl rfl Try.underlying5 rfl (k0.step hG) cb) rfl ?_
    refine Dr.nil ?_
    refine FinX.done (F' := [(0, _), (2, _), (3, _), (9, _), (14, _), (15, _), (16, _), (17, _), (21, _), (25, _)]) rfl ⟨rfl, rfl, rfl, rfl, rfl, rfl, rfl, rfl, rfl, rfl, trivial⟩ ?_
    intro w2 hw2 fw2
    replace k0 := k0.step hw2
    replace hgr := hgr.step hw2
    refine Seq.val (Runs.indexB rfl rfl rfl Try.underlying94 (by kernel_rfl) (j := i) (by omega) (by omega)) rfl rfl rfl ?_
    refine Seq.store1 rfl rfl rfl (by kernel_rfl) rfl rfl k0 (cb) rfl rfl ?_
    intro w3 pw3
    replace hgr := hgr.put k0 pw3 e0
    replace k0 := pw3.blk
    refine Seq.val (Runs.indexB rfl rfl rfl Try.underlying94 (by kernel_rfl) (j := n - 1 - i) (by omega) (by omega)) rfl rfl rfl ?_
    have ca2 : (cs.setIfInBounds i (.int .u8 za))[n - 1 - i]? = some (.int .u8 za) := by rw [Array.getElem?_setIfInBounds_ne (by omega)]; exact ca
    refine Seq.store1 rfl rfl rfl (by kernel_rfl) rfl rfl k0 (ca2) rfl rfl ?_
    intro w4 pw4
    replace hgr := hgr.put k0 pw4 e0
    replace k0 := pw4.blk
    refine Seq.nil ?_
    refine Post.weak (F' := [(0, _), (2, _), (3, _), (9, _)]) ⟨rfl, rfl, rfl, rfl, trivial⟩ ?_
    refine Post.block_normal ?_
    refine Post.then_ ?_
    refine Cd.region ?_
    refine Seq.val (Runs.move rfl rfl) rfl rfl rfl ?_
    refine Seq.val (Runs.addI rfl rfl rfl (by omega) (by omega)) rfl rfl rfl ?_
    refine Seq.val (Runs.move rfl rfl) rfl rfl rfl ?_
    refine Seq.val (Runs.subI rfl rfl rfl (by omega) (by omega)) rfl rfl rfl ?_
    refine Seq.val (Runs.assign rfl rfl) rfl rfl rfl ?_
    refine Seq.val (Runs.assign rfl rfl) rfl rfl rfl ?_
    refine Seq.nil ?_
    refine Post.weak (F' := [(0, _), (2, _), (3, _), (9, _)]) ⟨rfl, rfl, rfl, rfl, trivial⟩ ?_
    rw [show (i : Int) + 1 = ((i + 1 : Nat) : Int) by omega, show (n : Int) - 1 - (i : Int) - 1 = (n : Int) - 1 - ((i + 1 : Nat) : Int) by omega]
    refine Post.round (i + 1, (cs.setIfInBounds i (.int .u8 za)).setIfInBounds (n - 1 - i) (.int .u8 zb)) ⟨rfl, rfl, rfl, trivial⟩ ⟨by dsimp only; omega, k0, by simp [hs], fun j hj => ?_, hgr⟩ (by dsimp only; omega)
    dsimp only
    have hin : n - 1 - i < (cs.setIfInBounds i (.int .u8 za)).size := by rw [Array.size_setIfInBounds]; omega
    by_cases hj1 : j = n - 1 - i
    · subst hj1
      rw [Array.getElem?_setIfInBounds_self_of_lt hin, turned, if_pos (by omega), show n - 1 - (n - 1 - i) = i by omega, hb]
    · rw [Array.getElem?_setIfInBounds_ne (by omega)]
      by_cases hj2 : j = i
      · subst hj2
        rw [Array.getElem?_setIfInBounds_self_of_lt (by omega), turned, if_pos (by omega), ha]
      · rw [Array.getElem?_setIfInBounds_ne (by omega), hx j hj]
        unfold turned
        by_cases hc2 : j < i ∨ n ≤ j + i
        · rw [if_pos hc2, if_pos (by omega)]
        · rw [if_neg hc2, if_neg (by omega)]
  · skip
    refine Cd.exit ?_
    refine Post.then_exit ?_
    refine Post.round_exit ?_
    refine Post.block_exit ?_
    refine Post.end0 rfl (.inr rfl) ?_
    refine ⟨cs, rfl, k0, hs, fun j hj => ?_, hgr⟩
    rw [hx j hj, List.getElem?_reverse (by omega), hl]
    unfold turned
    by_cases hc2 : j < i ∨ n ≤ j + i
    · rw [if_pos hc2]
    · rw [if_neg hc2]
      rw [show n - 1 - j = j by omega]

/-- The bytes of the first k rounds. -/
def prB (u d : Nat) : Nat → List Nat
  | 0 => []
  | k + 1 => prB u d k ++ (if k = d ∧ 0 < d then [46] else []) ++ [48 + u / 10 ^ k % 10]
theorem prB_len (u d : Nat) : ∀ k, k ≤ (prB u d k).length ∧ (prB u d k).length ≤ 2 * k
  | 0 => by simp [prB]
  | k + 1 => by
    have ih := prB_len u d k
    unfold prB
    split <;> simp <;> omega
theorem prB_lt (u d : Nat) : ∀ k, ∀ x ∈ prB u d k, x < 256
  | 0 => by simp [prB]
  | k + 1 => by
    have ih := prB_lt u d k
    unfold prB
    intro x hx
    simp only [List.mem_append, List.mem_singleton] at hx
    rcases hx with (hx | hx) | hx
    · exact ih x hx
    · split at hx
      · simp at hx; omega
      · simp at hx
    · omega
/-- So many rounds. -/
def Rounds (u d N : Nat) : Prop := (∀ k, k < N → 0 < u / 10 ^ k ∨ k ≤ d) ∧ ¬ (0 < u / 10 ^ N ∨ N ≤ d)
def printed (n : Int) (d N : Nat) : List Nat := (prB n.natAbs d N ++ if n < 0 then [45] else []).reverse
theorem div_ten (u k : Nat) : u / 10 ^ k / 10 = u / 10 ^ (k + 1) := by rw [Nat.div_div_eq_div_mul, Nat.pow_succ]
theorem Own.blk {w : World} {B n : Nat} {e : TypeId} {v : Value} {xs : List Value} (h : Own w B e 1 v n xs) (h0 : 0 < n) : ∃ g cap cur, v = .slice (some ⟨g, 0, none⟩) n cap ∧ B ≤ g ∧ Blk w g e cur ∧ n ≤ cap ∧ cap ≤ maxLen ∧ cur.size = cap ∧ xs.length = n ∧ ∀ j, j < n → cur[j]? = xs[j]? := by
  obtain ⟨hl, ⟨_, h1⟩ | ⟨g, cap, cur, rfl, h1, h2, h3, h4, h5, h6⟩⟩ := h.row
  · omega
  · refine ⟨g, cap, cur, rfl, h1, h2, h3, h4, by omega, by omega, fun j hj => ?_⟩
    rw [← h6, List.getElem?_take_of_lt (by omega)]
    simp

set_option maxHeartbeats 1000000 in
theorem print_any (n : Int) (d : Nat) (w : World) (hn : I64 n) (hd : d ≤ 9) :
    Calls Try.prog 42 #[.int .i64 n, .int .i64 (d : Int)] w fun e w' => (∃ N, Rounds n.natAbs d N ∧ N ≤ 20 ∧ e = .returned (.string (strOf (printed n d N)))) ∧ Grow w w' := by
  have bel := Below.refl w.heap.size w
  have hu : n.natAbs ≤ 9223372036854775808 := by have := hn.1; have := hn.2; omega
  refine Calls.start 53 Try.func42 rfl rfl rfl ?_
  refine Cd.seq ?_
  refine Cd.region ?_
  refine Seq.val (Runs.assign rfl rfl) rfl rfl rfl ?_
  refine Seq.nil ?_
  refine Post.weak (F' := [(0, _), (1, _), (4, _)]) ⟨rfl, rfl, rfl, trivial⟩ ?_
  refine Post.then_ ?_
  refine Cd.seq ?_
  refine Cd.seq ?_
  refine Cd.region ?_
  refine Seq.val (Runs.move rfl rfl) rfl rfl rfl ?_
  refine Seq.val (Runs.lss rfl rfl rfl) rfl rfl rfl ?_
  refine Seq.val (Runs.move rfl rfl) rfl rfl rfl ?_
  refine SeqC.start ?_
  refine SeqC.open rfl rfl rfl rfl rfl rfl rfl (fun hcx => Runs.move rfl rfl) ?_
  refine SeqC.next rfl rfl rfl rfl rfl rfl rfl (fun hcx => Runs.gtr rfl rfl rfl) ?_
  refine SeqC.or rfl rfl rfl rfl rfl rfl rfl ?_
  refine Seq.nil ?_
  refine Post.weak (F' := [(0, _), (1, _), (4, _), (13, _)]) ⟨rfl, rfl, rfl, rfl, trivial⟩ ?_
  refine Post.then_ ?_
  refine Cd.cond rfl (fun h => ?_) (fun h => ?_)
  · exfalso
    simp at h
    omega
  clear h
  refine Cd.skip ?_
  refine Post.then_ ?_
  refine Cd.seq ?_
  refine Cd.region ?_
  refine Seq.val (Runs.assign rfl rfl) rfl rfl rfl ?_
  refine Seq.nil ?_
  refine Post.weak (F' := [(0, _), (1, _), (4, _), (5, _), (13, _)]) ⟨rfl, rfl, rfl, rfl, rfl, trivial⟩ ?_
  refine Post.then_ ?_
  refine Cd.seq ?_
  refine Cd.seq ?_
  refine Cd.region ?_
  refine Seq.val (Runs.move rfl rfl) rfl rfl rfl ?_
  refine Seq.call (Enters.func rfl rfl rfl (run_enter Try.func59 (by kernel_rfl) rfl)) rfl rfl rfl (size_nat _ _ hn) ?_
  rintro e w3 ⟨rfl, rfl⟩
  refine ⟨_, rfl, ?_⟩
  refine Seq.val (Runs.assign rfl rfl) rfl rfl rfl ?_
  refine Seq.val (Runs.assign rfl rfl) rfl rfl rfl ?_
  refine Seq.nil ?_
  refine Post.weak (F' := [(0, _), (1, _), (4, _), (5, _), (6, _), (7, _), (13, _)]) ⟨rfl, rfl, rfl, rfl, rfl, rfl, rfl, trivial⟩ ?_
  refine Post.then_ ?_
  refine Cd.block ?_
  generalize hun : n.natAbs = u at *
  have own := Own.nil w w.heap.size 5 1
  refine Cd.loop (σ := Nat × Value) (fun s => [(0, .int .i64 n), (1, .int .i64 (d : Int)), (5, s.2), (6, .int .u64 ((u / 10 ^ s.1 : Nat) : Int)), (7, .int .i64 (s.1 : Int))])
    (fun s wr => s.1 ≤ 20 ∧ Below w.heap.size w wr ∧ Own wr w.heap.size 5 1 s.2 (prB u d s.1).length (Bt (prB u d s.1)) ∧ ∀ j, j < s.1 → 0 < u / 10 ^ j ∨ j ≤ d) (fun s => 20 - s.1) (0, .slice none 0 0) ⟨by simp, bel, own, fun j hj => absurd hj (by simp)⟩ ⟨rfl, rfl, rfl, congrArg (fun x : Nat => some (Value.int .u64 (x : Int))) (show u = u / 10 ^ 0 by simp), rfl, trivial⟩ ?_
  clear bel
  clear own
  rintro ⟨k, v⟩ wr ⟨hk, bel, own, hgo⟩
  dsimp only at hk own hgo ⊢
  refine Cd.seq ?_
  refine Cd.seq ?_
  refine Cd.region ?_
  refine Seq.val (Runs.move rfl rfl) rfl rfl rfl ?_
  refine Seq.val (Runs.gtr rfl rfl rfl) rfl rfl rfl ?_
  refine Seq.val (Runs.move rfl rfl) rfl rfl rfl ?_
  refine SeqC.start ?_
  refine SeqC.open rfl rfl rfl rfl rfl rfl rfl (fun hcx => Runs.move rfl rfl) ?_
  refine SeqC.next rfl rfl rfl rfl rfl rfl rfl (fun hcx => Runs.move rfl rfl) ?_
  refine SeqC.next rfl rfl rfl rfl rfl rfl rfl (fun hcx => Runs.leq rfl rfl rfl) ?_
  refine SeqC.or rfl rfl rfl rfl rfl rfl rfl ?_
  refine Seq.nil ?_
  refine Post.weak (F' := [(0, _), (1, _), (5, _), (6, _), (7, _), (22, _)]) ⟨rfl, rfl, rfl, rfl, rfl, rfl, trivial⟩ ?_
  refine Post.then_ ?_
  have hlen := prB_len u d k
  have hdk : u / 10 ^ k ≤ u := Nat.div_le_self _ _
  have hdt := div_ten u k
  have hpr : prB u d (k + 1) = prB u d k ++ (if k = d ∧ 0 < d then [46] else []) ++ [48 + u / 10 ^ k % 10] := rfl
  generalize hq : u / 10 ^ k = q at *
  refine Cd.cond rfl (fun hc => ?_) (fun hc => ?_)
  · have hgo1 : 0 < q ∨ k ≤ d := by simp at hc; omega
    have hk20 : k < 20 := by
      rcases Nat.lt_or_ge k 20 with h | h
      · exact h
      · obtain rfl : k = 20 := by omega
        have : u / 10 ^ 20 = 0 := Nat.div_eq_of_lt (by omega)
        omega
    have hgo2 : ∀ j, j < k + 1 → 0 < u / 10 ^ j ∨ j ≤ d := fun j hj => by
      rcases Nat.lt_or_ge j k with h | h
      · exact hgo j h
      · obtain rfl : j = k := by omega
        rw [hq]; exact hgo1
    refine Cd.skip ?_
    refine Post.then_ ?_
    refine Cd.seq ?_
    refine Cd.block ?_
    refine Cd.seqJ (σ := Value) (fun v => [(0, .int .i64 n), (1, .int .i64 (d : Int)), (5, v), (6, .int .u64 (q : Int)), (7, .int .i64 (k : Int))]) (fun v wr => Below w.heap.size w wr ∧ Own wr w.heap.size 5 1 v (prB u d k ++ if k = d ∧ 0 < d then [46] else []).length (Bt (prB u d k ++ if k = d ∧ 0 < d then [46] else []))) ?_ ?_
    · skip
      refine Cd.seq ?_
      refine Cd.region ?_
      refine Seq.val (Runs.move rfl rfl) rfl rfl rfl ?_
      refine Seq.val (Runs.move rfl rfl) rfl rfl rfl ?_
      refine Seq.val (Runs.eqlI rfl rfl rfl) rfl rfl rfl ?_
      refine Seq.val (Runs.move rfl rfl) rfl rfl rfl ?_
      refine SeqC.start ?_
      refine SeqC.open rfl rfl rfl rfl rfl rfl rfl (fun hcx => Runs.move rfl rfl) ?_
      refine SeqC.next rfl rfl rfl rfl rfl rfl rfl (fun hcx => Runs.gtr rfl rfl rfl) ?_
      refine SeqC.and rfl rfl rfl rfl rfl rfl rfl ?_
      refine Seq.nil ?_
      refine Post.weak (F' := [(0, _), (1, _), (5, _), (6, _), (7, _), (22, _), (31, _)]) ⟨rfl, rfl, rfl, rfl, rfl, rfl, rfl, trivial⟩ ?_
      refine Post.then_ ?_
      refine Cd.cond rfl (fun hp => ?_) (fun hp => ?_)
      · rw [if_pos (by simp at hp; omega)]
        refine Cd.region ?_
        refine Seq.val (Runs.move rfl rfl) rfl rfl rfl ?_
        refine Seq.slice (vs := [_]) (s := 1) rfl rfl rfl Try.underlying94 (by kernel_rfl) (zero_uint8) (by omega) (by omega) ⟨rfl, trivial⟩ rfl rfl rfl ?_
        intro g33 w1 n33
        have e33 := Nat.le_trans bel.size n33.ge
        replace bel := bel.step n33.below
        replace own := own.step n33.below
        have k33 := n33.blk
        refine Seq.append rfl rfl rfl Try.underlying94 (by kernel_rfl) zero_uint8 rfl (by decide) (b := 1) (by kernel_rfl) own (Reads.blk k33 1 rfl) (by intro x hx; simp [flatC, Value.cells] at hx; rw [hx]; rfl) bel.size (by simp only [maxLen]; omega) (by omega) rfl rfl rfl ?_
        clear own
        intro vw2 w2 own haw2
        replace bel := bel.trans haw2.below
        refine Seq.val (Runs.assign rfl rfl) rfl rfl rfl ?_
        refine Seq.nil ?_
        refine Post.weak (F' := [(0, _), (1, _), (5, _), (6, _), (7, _), (22, _), (31, _)]) ⟨rfl, rfl, rfl, rfl, rfl, rfl, rfl, trivial⟩ ?_
        exact Post.join _ ⟨rfl, rfl, rfl, rfl, rfl, trivial⟩ ⟨bel, by rw [List.length_append, Bt_append]; exact own⟩
      · rw [if_neg (by simp at hp; omega)]
        refine Cd.skip ?_
        exact Post.join _ ⟨rfl, rfl, rfl, rfl, rfl, trivial⟩ ⟨bel, by rw [List.append_nil]; exact own⟩
    clear own bel hc
    rintro v wr ⟨bel, own⟩
    have hl2 : (prB u d k ++ if k = d ∧ 0 < d then [46] else []).length ≤ 2 * k + 1 := by rw [List.length_append]; split <;> simp <;> omega
    generalize prB u d k ++ (if k = d ∧ 0 < d then [46] else []) = pre at *
    refine Cd.seq ?_
    refine Cd.region ?_
    refine Seq.val (Runs.move rfl rfl) rfl rfl rfl ?_
    refine Seq.val (Runs.move rfl rfl) rfl rfl rfl ?_
    refine Seq.val (Runs.remL 10 rfl rfl rfl rfl (by omega)) rfl rfl rfl ?_
    refine Seq.val (Runs.addU rfl rfl rfl (by omega) (by omega)) rfl rfl rfl ?_
    refine Seq.val (Runs.convI rfl rfl Try.underlying62 Try.underlying5 (wrapB (by omega) (by omega))) rfl rfl rfl ?_
    refine Seq.slice (vs := [_]) (s := 1) rfl rfl rfl Try.underlying94 (by kernel_rfl) (zero_uint8) (by omega) (by omega) ⟨rfl, trivial⟩ rfl rfl rfl ?_
    intro g40 w1 n40
    have e40 := Nat.le_trans bel.size n40.ge
    replace bel := bel.step n40.below
    replace own := own.step n40.below
    have k40 := n40.blk
    refine Seq.append rfl rfl rfl Try.underlying94 (by kernel_rfl) zero_uint8 rfl (by decide) (b := 1) (by kernel_rfl) own (Reads.blk k40 1 rfl) (by intro x hx; simp [flatC, Value.cells] at hx; rw [hx]; rfl) bel.size (by simp only [maxLen]; omega) (by omega) rfl rfl rfl ?_
    clear own
    intro vw2 w2 own haw2
    replace bel := bel.trans haw2.below
    refine Seq.val (Runs.assign rfl rfl) rfl rfl rfl ?_
    refine Seq.nil ?_
    refine Post.weak (F' := [(0, _), (1, _), (5, _), (6, _), (7, _)]) ⟨rfl, rfl, rfl, rfl, rfl, trivial⟩ ?_
    refine Post.then_ ?_
    refine Cd.region ?_
    refine Seq.val (Runs.move rfl rfl) rfl rfl rfl ?_
    refine Seq.val (Runs.quoLU 10 rfl rfl rfl rfl (by omega) (by omega)) rfl rfl rfl ?_
    refine Seq.val (Runs.assign rfl rfl) rfl rfl rfl ?_
    refine Seq.nil ?_
    refine Post.weak (F' := [(0, _), (1, _), (5, _), (6, _), (7, _)]) ⟨rfl, rfl, rfl, rfl, rfl, trivial⟩ ?_
    refine Post.block_normal ?_
    refine Post.then_ ?_
    refine Cd.region ?_
    refine Seq.val (Runs.move rfl rfl) rfl rfl rfl ?_
    refine Seq.val (Runs.addI rfl rfl rfl (by omega) (by omega)) rfl rfl rfl ?_
    refine Seq.val (Runs.assign rfl rfl) rfl rfl rfl ?_
    refine Seq.nil ?_
    refine Post.weak (F' := [(0, _), (1, _), (5, _), (6, _), (7, _)]) ⟨rfl, rfl, rfl, rfl, rfl, trivial⟩ ?_
    refine Post.round (k + 1, _) ⟨rfl, rfl, rfl, congrArg (fun x : Nat => some (Value.int .u64 (x : Int))) hdt, rfl, trivial⟩ ⟨by dsimp only; omega, bel, ?_, hgo2⟩ (by dsimp only; omega)
    dsimp only
    rw [hpr, List.length_append, Bt_append]
    exact own
  · have hstop : Rounds u d k := ⟨hgo, by rw [hq]; simp at hc; omega⟩
    have hk1 : 0 < k := by simp at hc; omega
    refine Cd.exit ?_
    refine Post.then_exit ?_
    refine Post.round_exit ?_
    refine Post.block_exit ?_
    refine Post.then_ ?_
    refine Cd.seqJ (σ := Value) (fun v => [(5, v)]) (fun v wr => Below w.heap.size w wr ∧ Own wr w.heap.size 5 1 v (prB u d k ++ if n < 0 then [45] else []).length (Bt (prB u d k ++ if n < 0 then [45] else []))) ?_ ?_
    · skip
      refine Cd.seq ?_
      refine Cd.region ?_
      refine Seq.val (Runs.move rfl rfl) rfl rfl rfl ?_
      refine Seq.val (Runs.lss rfl rfl rfl) rfl rfl rfl ?_
      refine Seq.nil ?_
      refine Post.weak (F' := [(0, _), (1, _), (5, _), (6, _), (7, _), (22, _), (45, _)]) ⟨rfl, rfl, rfl, rfl, rfl, rfl, rfl, trivial⟩ ?_
      refine Post.then_ ?_
      refine Cd.condD rfl (fun hp => ?_) (fun hp => ?_)
      · rw [if_pos hp]
        refine Cd.region ?_
        refine Seq.val (Runs.move rfl rfl) rfl rfl rfl ?_
        refine Seq.slice (vs := [_]) (s := 1) rfl rfl rfl Try.underlying94 (by kernel_rfl) (zero_uint8) (by omega) (by omega) ⟨rfl, trivial⟩ rfl rfl rfl ?_
        intro g47 w1 n47
        have e47 := Nat.le_trans bel.size n47.ge
        replace bel := bel.step n47.below
        replace own := own.step n47.below
        have k47 := n47.blk
        refine Seq.append rfl rfl rfl Try.underlying94 (by kernel_rfl) zero_uint8 rfl (by decide) (b := 1) (by kernel_rfl) own (Reads.blk k47 1 rfl) (by intro x hx; simp [flatC, Value.cells] at hx; rw [hx]; rfl) bel.size (by simp only [maxLen]; omega) (by omega) rfl rfl rfl ?_
        clear own
        intro vw2 w2 own haw2
        replace bel := bel.trans haw2.below
        refine Seq.val (Runs.assign rfl rfl) rfl rfl rfl ?_
        refine Seq.nil ?_
        refine Post.weak (F' := [(0, _), (1, _), (5, _), (6, _), (7, _), (22, _), (45, _)]) ⟨rfl, rfl, rfl, rfl, rfl, rfl, rfl, trivial⟩ ?_
        exact Post.join _ ⟨rfl, trivial⟩ ⟨bel, by rw [List.length_append, Bt_append]; exact own⟩
      · rw [if_neg hp]
        refine Cd.skip ?_
        exact Post.join _ ⟨rfl, trivial⟩ ⟨bel, by rw [List.append_nil]; exact own⟩
    clear own bel hc
    rintro v wr ⟨bel, own⟩
    have hpos : 0 < (prB u d k ++ if n < 0 then [45] else []).length := by rw [List.length_append]; omega
    have hl3 : (prB u d k ++ if n < 0 then [45] else []).length ≤ 41 := by rw [List.length_append]; split <;> simp <;> omega
    have hlt : ∀ x ∈ (prB u d k ++ if n < 0 then [45] else []), x < 256 := fun x hx => by
      rcases List.mem_append.1 hx with hx | hx
      · exact prB_lt u d k x hx
      · split at hx
        · simp at hx; omega
        · simp at hx
    have hprd : printed n d k = (prB u d k ++ if n < 0 then [45] else []).reverse := by unfold printed; rw [hun]
    obtain ⟨g, cap, cur, rfl, hBg, kb, hnc, hcm, hsz, hxl, hcur⟩ := own.blk hpos
    generalize prB u d k ++ (if n < 0 then [45] else []) = l at *
    refine Cd.seq ?_
    refine Cd.region ?_
    refine Seq.val (Runs.move rfl rfl) rfl rfl rfl ?_
    refine Seq.call (Enters.func rfl rfl rfl (run_enter Try.func67 (by kernel_rfl) rfl)) rfl rfl rfl (reverse_any g l.length cap cur (Bt l) _ kb hnc (by omega) hsz hcur hxl (fun x hx => by unfold Bt at hx; obtain ⟨z, _, rfl⟩ := List.mem_map.1 hx; exact ⟨_, rfl⟩)) ?_
    rintro e w9 ⟨cur', rfl, kb', hsz', hcur', honly⟩
    refine ⟨_, rfl, ?_⟩
    replace bel := bel.trans (only_to_below honly.row hBg kb.lt)
    have hrd : Reads w9 w9.heap.size 1 (some ⟨g, 0, none⟩) l.length (Bt l.reverse) := by
      refine ⟨by rw [length_Bt]; simp, fun _ => ⟨_, rfl, kb'.lt, fun j x hx => ?_⟩⟩
      have hplain : (⟨g, 0, none⟩ : Addr).add j = ⟨g, j, none⟩ := by unfold Addr.add; split <;> simp_all
      rw [hplain, cell_of_row _ _ _ _ _ _ kb']
      have hj : j < l.length := by
        rcases Nat.lt_or_ge j l.length with h | h
        · exact h
        · rw [get_Bt, List.getElem?_eq_none (by simpa using h)] at hx; cases hx
      rw [hcur' j hj]
      unfold Bt at hx ⊢
      rw [← List.map_reverse]
      exact hx
    refine Seq.nil ?_
    refine Post.weak (F' := [(5, _)]) ⟨rfl, trivial⟩ ?_
    refine Post.then_ ?_
    refine Cd.seq ?_
    refine Cd.region ?_
    refine Seq.val (Runs.move rfl rfl) rfl rfl rfl ?_
    refine Seq.val (Runs.convBS rfl rfl Try.underlying94 Try.underlying5 Try.underlying9 hrd (fun x hx => hlt x (List.mem_reverse.1 hx))) rfl rfl rfl ?_
    refine Seq.val (Runs.assign rfl rfl) rfl rfl rfl ?_
    refine Seq.nil ?_
    refine Post.weak (F' := [(4, _), (5, _)]) ⟨rfl, rfl, trivial⟩ ?_
    refine Post.then_ ?_
    refine Cd.ret ?_
    refine Post.end1 rfl rfl (.inl rfl) ?_
    exact ⟨⟨k, hstop, by omega, by rw [hprd]⟩, bel⟩
end Go.Proofs.Ytpdeihienkbeeaa
