/-
  debentureref02's digits, Print: what each answers. Condition: the day is one.
-/
import Derived.Test.YtijaldpmpjapiaaDateC
import Derived.Test.YtijaldpmpjapiaaTNumS
namespace Go.Proofs.Ytijaldpmpjapiaa
open Go.RowKit

theorem digits_any (v n : Nat) (w : World) (hv : v ≤ 100000) (hn : n ≤ 9) : Calls Try.prog 87 #[.int .i64 (v : Int), .int .i64 (n : Int)] w fun e w' => e = .returned (.string (strOf (digR v n))) ∧ Grow w w' := by
  have bel := Below.refl w.heap.size w
  refine Calls.start 23 Try.func87 rfl rfl rfl ?_
  refine Cd.seq ?_
  refine Cd.region ?_
  refine Seq.val (Runs.assign rfl rfl) rfl rfl rfl ?_
  refine Seq.nil ?_
  refine Post.weak (F' := [(0, _), (1, _), (4, _)]) ⟨rfl, rfl, rfl, trivial⟩ ?_
  refine Post.then_ ?_
  refine Cd.seq ?_
  refine Cd.region ?_
  refine Seq.val (Runs.assign rfl rfl) rfl rfl rfl ?_
  refine Seq.nil ?_
  refine Post.weak (F' := [(0, _), (1, _), (4, _), (5, _)]) ⟨rfl, rfl, rfl, rfl, trivial⟩ ?_
  refine Post.then_ ?_
  refine Cd.seq ?_
  refine Cd.seq ?_
  refine Cd.region ?_
  refine Seq.val (Runs.assign rfl rfl) rfl rfl rfl ?_
  refine Seq.nil ?_
  refine Post.weak (F' := [(0, _), (1, _), (4, _), (5, _), (6, _)]) ⟨rfl, rfl, rfl, rfl, rfl, trivial⟩ ?_
  refine Post.then_ ?_
  refine Cd.block ?_
  refine Cd.loop (σ := Nat) (fun k => [(0, .int .i64 ((v / 10 ^ k : Nat) : Int)), (1, .int .i64 (n : Int)), (5, .string (strOf (digR v k))), (6, .int .i64 (k : Int))])
    (fun k wr => k ≤ n ∧ Below w.heap.size w wr) (fun k => n - k) 0 ⟨Nat.zero_le _, bel⟩ ⟨congrArg (fun x : Nat => some (Value.int .i64 (x : Int))) (show v = v / 10 ^ 0 by simp), rfl, rfl, rfl, trivial⟩ ?_
  clear bel
  rintro k wr ⟨hk, bel⟩
  have hdk : v / 10 ^ k ≤ v := Nat.div_le_self _ _
  have hdt : v / 10 ^ k / 10 = v / 10 ^ (k + 1) := by rw [Nat.div_div_eq_div_mul, Nat.pow_succ]
  have hdr : digR v (k + 1) = (48 + v / 10 ^ k % 10) :: digR v k := rfl
  have hlen := digR_len v k
  generalize hq : v / 10 ^ k = q at *
  refine Cd.seq ?_
  refine Cd.seq ?_
  refine Cd.region ?_
  refine Seq.val (Runs.move rfl rfl) rfl rfl rfl ?_
  refine Seq.val (Runs.move rfl rfl) rfl rfl rfl ?_
  refine Seq.val (Runs.lss rfl rfl rfl) rfl rfl rfl ?_
  refine Seq.nil ?_
  refine Post.weak (F' := [(0, _), (1, _), (5, _), (6, _), (9, _)]) ⟨rfl, rfl, rfl, rfl, rfl, trivial⟩ ?_
  refine Post.then_ ?_
  refine Cd.condD rfl (fun hc => ?_) (fun hc => ?_)
  · have hl3 : [48 + q % 10].length + (digR v k).length ≤ 9223372036854775807 := by simp; omega
    have hqm : q % 10 < 10 := Nat.mod_lt _ (by omega)
    refine Cd.skip ?_
    refine Post.then_ ?_
    refine Cd.seq ?_
    refine Cd.block ?_
    refine Cd.seq ?_
    refine Cd.region ?_
    refine Seq.val (Runs.move rfl rfl) rfl rfl rfl ?_
    refine Seq.val (Runs.remN rfl rfl rfl (by omega) (by omega)) rfl rfl rfl ?_
    refine Seq.val (Runs.addI rfl rfl rfl (by omega) (by omega)) rfl rfl rfl ?_
    refine Seq.val (Runs.convI rfl rfl Try.underlying3 Try.underlying5 (wrapB (by omega) (by omega))) rfl rfl rfl ?_
    refine Seq.slice (vs := [_]) (s := 1) rfl rfl rfl Try.underlying108 (by kernel_rfl) (zero_uint8) (by omega) (by omega) ⟨rfl, trivial⟩ rfl rfl rfl ?_
    intro g16 w1 n16
    have e16 := Nat.le_trans bel.size n16.ge
    replace bel := bel.step n16.below
    have k16 := n16.blk
    rw [show (48 + (q : Int) % 10) = ((48 + q % 10 : Nat) : Int) by omega] at k16
    have hrd := Reads.blk (size := 1) k16 1 rfl
    refine Seq.val (Runs.convBS (l := [48 + q % 10]) rfl rfl Try.underlying108 Try.underlying5 Try.underlying9 hrd (fun x hx => by simp at hx; omega)) rfl rfl rfl ?_
    refine Seq.val (Runs.move rfl rfl) rfl rfl rfl ?_
    refine Seq.val (Runs.addL (a := [48 + q % 10]) (b := digR v k) rfl rfl rfl hl3) rfl rfl rfl ?_
    refine Seq.val (Runs.assign rfl rfl) rfl rfl rfl ?_
    refine Seq.nil ?_
    refine Post.weak (F' := [(0, _), (1, _), (5, _), (6, _), (9, _)]) ⟨rfl, rfl, rfl, rfl, rfl, trivial⟩ ?_
    refine Post.then_ ?_
    refine Cd.region ?_
    refine Seq.val (Runs.move rfl rfl) rfl rfl rfl ?_
    refine Seq.val (Runs.quoI rfl rfl rfl (by omega) (by omega) (by omega)) rfl rfl rfl ?_
    refine Seq.val (Runs.assign rfl rfl) rfl rfl rfl ?_
    refine Seq.nil ?_
    refine Post.weak (F' := [(0, _), (1, _), (5, _), (6, _), (9, _)]) ⟨rfl, rfl, rfl, rfl, rfl, trivial⟩ ?_
    refine Post.block_normal ?_
    refine Post.then_ ?_
    refine Cd.region ?_
    refine Seq.val (Runs.move rfl rfl) rfl rfl rfl ?_
    refine Seq.val (Runs.addI rfl rfl rfl (by omega) (by omega)) rfl rfl rfl ?_
    refine Seq.val (Runs.assign rfl rfl) rfl rfl rfl ?_
    refine Seq.nil ?_
    refine Post.weak (F' := [(0, _), (1, _), (5, _), (6, _), (9, _)]) ⟨rfl, rfl, rfl, rfl, rfl, trivial⟩ ?_
    refine Post.round (k + 1) ⟨congrArg (fun x : Int => some (Value.int .i64 x)) (by rw [← hdt]; omega), rfl, by rw [hdr]; rfl, rfl, trivial⟩ ⟨by omega, bel⟩ (by omega)
  · obtain rfl : k = n := by omega
    refine Cd.exit ?_
    refine Post.then_exit ?_
    refine Post.round_exit ?_
    refine Post.block_exit ?_
    refine Post.then_ ?_
    refine Cd.seq ?_
    refine Cd.region ?_
    refine Seq.val (Runs.move rfl rfl) rfl rfl rfl ?_
    refine Seq.val (Runs.assign rfl rfl) rfl rfl rfl ?_
    refine Seq.nil ?_
    refine Post.weak (F' := [(0, _), (1, _), (4, _), (5, _), (6, _), (9, _)]) ⟨rfl, rfl, rfl, rfl, rfl, rfl, trivial⟩ ?_
    refine Post.then_ ?_
    refine Cd.ret ?_
    refine Post.end1 rfl rfl (.inl rfl) ?_
    exact ⟨rfl, bel⟩
theorem refDayPrint_any (y m d : Int) (w : World) (hok : ofOk y m d = true) : Calls Try.prog 47 #[.int .i64 (ofZ y m d)] w fun e w' => e = .returned (.string (strOf (printD y.toNat m.toNat d.toNat))) ∧ Grow w w' := by
  have bel := Below.refl w.heap.size w
  obtain ⟨o1, o2, o3, o4, o5, o6⟩ := ofOk_bd hok
  have ey : y = (y.toNat : Int) := by omega
  have em : m = (m.toNat : Int) := by omega
  have ed : d = (d.toNat : Int) := by omega
  have hciv := fun W => refCivil_any y m d W hok
  have hy2 : y.toNat ≤ 9999 := by omega
  have hm2 : m.toNat ≤ 12 := by omega
  have hd2 : d.toNat ≤ 31 := by omega
  have hy1 : 1970 ≤ y.toNat := by omega
  generalize ofZ y m d = n at *
  refine Calls.start 24 Try.func47 rfl rfl rfl ?_
  refine Cd.seq ?_
  refine Cd.region ?_
  refine Seq.val (Runs.assign rfl rfl) rfl rfl rfl ?_
  refine Seq.nil ?_
  refine Post.weak (F' := [(0, _), (2, _)]) ⟨rfl, rfl, trivial⟩ ?_
  refine Post.then_ ?_
  refine Cd.seq ?_
  refine Cd.region ?_
  refine Seq.val (Runs.move rfl rfl) rfl rfl rfl ?_
  refine Seq.call (Enters.func rfl rfl rfl (run_enter Try.func86 (by kernel_rfl) rfl)) rfl rfl rfl (hciv _) ?_
  rintro e w8 ⟨rfl, hb8⟩
  refine ⟨_, rfl, ?_⟩
  replace bel := bel.step hb8
  rw [ey, em, ed]
  generalize y.toNat = Y at *
  generalize m.toNat = M at *
  generalize d.toNat = D at *
  simp only [Int.toNat_natCast]
  refine Seq.val (Runs.move rfl rfl) rfl rfl rfl ?_
  refine Seq.val (Runs.extract rfl rfl rfl) rfl rfl rfl ?_
  refine Seq.val (Runs.extract rfl rfl rfl) rfl rfl rfl ?_
  refine Seq.val (Runs.extract rfl rfl rfl) rfl rfl rfl ?_
  refine Seq.val (Runs.assign rfl rfl) rfl rfl rfl ?_
  refine Seq.val (Runs.assign rfl rfl) rfl rfl rfl ?_
  refine Seq.val (Runs.assign rfl rfl) rfl rfl rfl ?_
  refine Seq.nil ?_
  refine Post.weak (F' := [(0, _), (2, _), (3, _), (4, _), (5, _)]) ⟨rfl, rfl, rfl, rfl, rfl, trivial⟩ ?_
  refine Post.then_ ?_
  refine Cd.seq ?_
  refine Cd.seq ?_
  refine Cd.region ?_
  refine Seq.val (Runs.move rfl rfl) rfl rfl rfl ?_
  refine Seq.val (Runs.eqlI rfl rfl rfl) rfl rfl rfl ?_
  refine Seq.nil ?_
  refine Post.weak (F' := [(0, _), (2, _), (3, _), (4, _), (5, _), (13, _)]) ⟨rfl, rfl, rfl, rfl, rfl, rfl, trivial⟩ ?_
  refine Post.then_ ?_
  refine Cd.condF rfl (decide_eq_false (by omega)) ?_
  refine Cd.skip ?_
  refine Post.then_ ?_
  refine Cd.seq ?_
  refine Cd.region ?_
  refine Seq.val (Runs.move rfl rfl) rfl rfl rfl ?_
  refine Seq.call (Enters.func rfl rfl rfl (run_enter Try.func87 (by kernel_rfl) rfl)) rfl rfl rfl (digits_any Y 4 _ (by omega) (by omega)) ?_
  rintro e w9 ⟨rfl, hb9⟩
  refine ⟨_, rfl, ?_⟩
  replace bel := bel.step hb9
  refine Seq.val (Runs.addL (a := digR Y 4) (b := [45]) rfl rfl rfl (by rw [digR_len]; simp)) rfl rfl rfl ?_
  refine Seq.val (Runs.move rfl rfl) rfl rfl rfl ?_
  refine Seq.call (Enters.func rfl rfl rfl (run_enter Try.func87 (by kernel_rfl) rfl)) rfl rfl rfl (digits_any M 2 _ (by omega) (by omega)) ?_
  rintro e w10 ⟨rfl, hb10⟩
  refine ⟨_, rfl, ?_⟩
  replace bel := bel.step hb10
  refine Seq.val (Runs.addL (a := digR Y 4 ++ [45]) (b := digR M 2) rfl rfl rfl (by rw [List.length_append, digR_len, digR_len]; simp)) rfl rfl rfl ?_
  refine Seq.val (Runs.addL (a := digR Y 4 ++ [45] ++ digR M 2) (b := [45]) rfl rfl rfl (by rw [List.length_append, List.length_append, digR_len, digR_len]; simp)) rfl rfl rfl ?_
  refine Seq.val (Runs.move rfl rfl) rfl rfl rfl ?_
  refine Seq.call (Enters.func rfl rfl rfl (run_enter Try.func87 (by kernel_rfl) rfl)) rfl rfl rfl (digits_any D 2 _ (by omega) (by omega)) ?_
  rintro e w11 ⟨rfl, hb11⟩
  refine ⟨_, rfl, ?_⟩
  replace bel := bel.step hb11
  refine Seq.val (Runs.addL (a := digR Y 4 ++ [45] ++ digR M 2 ++ [45]) (b := digR D 2) rfl rfl rfl (by rw [List.length_append, List.length_append, List.length_append, digR_len, digR_len, digR_len]; simp)) rfl rfl rfl ?_
  refine Seq.val (Runs.assign rfl rfl) rfl rfl rfl ?_
  refine Seq.nil ?_
  refine Post.weak (F' := [(0, _), (2, _), (3, _), (4, _), (5, _), (13, _)]) ⟨rfl, rfl, rfl, rfl, rfl, rfl, trivial⟩ ?_
  refine Post.then_ ?_
  refine Cd.ret ?_
  refine Post.end1 rfl rfl (.inl rfl) ?_
  exact ⟨rfl, bel⟩
theorem printD_lt (y m d : Nat) : ∀ x ∈ printD y m d, x < 256 := by
  intro x hx
  unfold printD at hx
  simp only [List.mem_append] at hx
  rcases hx with (((h | h) | h) | h) | h
  · exact digR_lt _ _ x h
  · simp at h; omega
  · exact digR_lt _ _ x h
  · simp at h; omega
  · exact digR_lt _ _ x h

/-- The numbers behind so many bytes. -/
def idxD (k : Nat) : Nat := if 7 < k then 2 else if 4 < k then 1 else 0
def rawS (l : List Nat) : Nat → List Int
  | 0 => [0, 0, 0]
  | k + 1 => if k = 4 ∨ k = 7 then rawS l k else (rawS l k).set (idxD k) (10 * (rawS l k).getD (idxD k) 0 + (l.getD k 0 : Int) - 48)
theorem rawS_len (l : List Nat) (k : Nat) : (rawS l k).length = 3 := by
  induction k with
  | zero => rfl
  | succ k ih => unfold rawS; split; exact ih; simp [ih]
theorem rawS_bd (l : List Nat) (hl : ∀ x ∈ l, x < 256) : ∀ k, ∀ x ∈ rawS l k, 250 - (10 ^ k * 250 : Int) ≤ x ∧ x ≤ 10 ^ k * 250 - 250 := by
  intro k
  induction k with
  | zero => intro x hx; simp [rawS] at hx; subst hx; decide
  | succ k ih =>
    have hp : (10 : Int) ^ (k + 1) = 10 * 10 ^ k := by rw [Int.pow_succ]; omega
    have hp0 : (1 : Int) ≤ 10 ^ k := by
      have : 0 < (10 : Nat) ^ k := Nat.pow_pos (by omega)
      have : ((10 ^ k : Nat) : Int) = (10 : Int) ^ k := by simp
      omega
    rw [hp]
    intro x hx
    unfold rawS at hx
    split at hx
    · have := ih x hx; omega
    · rcases List.mem_or_eq_of_mem_set hx with h | h
      · have := ih x h; omega
      · have h1 : (rawS l k).getD (idxD k) 0 ∈ rawS l k := by
          have hi : idxD k < (rawS l k).length := by rw [rawS_len]; unfold idxD; split; omega; split <;> omega
          rw [List.getD_eq_getElem?_getD, List.getElem?_eq_getElem hi]
          exact List.getElem_mem hi
        have h2 := ih _ h1
        have h3 : l.getD k 0 < 256 := by
          rcases Nat.lt_or_ge k l.length with h | h
          · rw [List.getD_eq_getElem?_getD, List.getElem?_eq_getElem h]; exact hl _ (List.getElem_mem h)
          · rw [List.getD_eq_getElem?_getD, List.getElem?_eq_none h]; simp
        omega
theorem rawS_ten (l : List Nat) (h : l.length = 10) : rawS l 10 = [rawV (l.take 4), rawV ((l.take 7).drop 5), rawV ((l.take 10).drop 8)] := by
  obtain ⟨c0, c1, c2, c3, c4, c5, c6, c7, c8, c9, rfl⟩ := ten_of h
  rfl
end Go.Proofs.Ytijaldpmpjapiaa
