/-
  wal: a name that may be; a file's name. Condition: the tables stand as they are laid.
-/
import Derived.Test.YtnlepoplncjliaaGreatDoorWaV
namespace Go.Proofs.YtnlepoplncjliaaGreatDoor
open Go.RowKit Go.Maps Go.Sort

/-- What the tables hold. -/
structure Gv (w : World) : Prop where
  nib : Nib w
  pow : Lib.TabIs Tryz.prog w "internal/strconv.uint64pow10" .u64 Lib.pow10Tab
  mx : ∃ m : Int, w.cell? ⟨0, 0, none⟩ = some (.int .i64 m)
theorem glob_pow : Tryz.prog.globalNamed "internal/strconv.uint64pow10" = some 4 := by kernel_rfl
theorem Gv.lt {w : World} (h : Gv w) : 6 < w.heap.size ∨ w.heap.size ≤ 6 := by omega
theorem tab_keep {w w' : World} (h : Lib.TabIs Tryz.prog w "internal/strconv.uint64pow10" .u64 Lib.pow10Tab) (e : w'.heap[4]? = w.heap[4]?) : Lib.TabIs Tryz.prog w' "internal/strconv.uint64pow10" .u64 Lib.pow10Tab := by
  unfold Lib.TabIs World.var? at h ⊢
  rw [glob_pow] at h ⊢
  simp only [Option.bind_some] at h ⊢
  rw [e]
  exact h
theorem tab_lt {w : World} (h : Lib.TabIs Tryz.prog w "internal/strconv.uint64pow10" .u64 Lib.pow10Tab) : 4 < w.heap.size := by
  unfold Lib.TabIs World.var? at h
  rw [glob_pow] at h
  simp only [Option.bind_some] at h
  cases e : w.heap[4]? with
  | none => rw [e] at h; cases h
  | some o => exact (Array.getElem?_eq_some_iff.1 e).1
theorem Gv.below {w w' : World} {B : Nat} (h : Gv w) (hb : Below B w w') (hB : 4 < B) : Gv w' :=
  ⟨h.nib.below hb (by omega), tab_keep h.pow (hb.block _ hB), by obtain ⟨m, hm⟩ := h.mx; exact ⟨m, (hb.cell (show 0 < B by omega)).trans hm⟩⟩
theorem Gv.step {w w' : World} (h : Gv w) (hb : Below w.heap.size w w') : Gv w' := h.below hb (tab_lt h.pow)
theorem Gv.df {w w' : World} {B : Nat} (h : Gv w) (f : Df B w w') (hB : 4 < B := by omega) : Gv w' := h.below f.below (by have := tab_lt h.pow; omega)
theorem Gv.put {w w' : World} {B g : Nat} {T : TypeId} {cur cs : Array Value} (h : Gv w) (k : Blk w g T cur) (p : Put w w' g T cs) (e : B ≤ g) (hB : 4 < B := by omega) : Gv w' := h.below (p.below e k.lt) hB
/-- A number's decimal digits. -/
def decN (u : Nat) : List Nat := if h : u < 10 then [48 + u] else decN (u / 10) ++ [48 + u % 10]
termination_by u
decreasing_by omega
theorem decN_u8 (u : Nat) : u8s (decN u) = Lib.decDigits u := by
  induction u using Nat.strongRecOn with
  | ind u ih =>
    rw [decN, Lib.decDigits]
    split
    · rfl
    · rename_i h
      rw [← ih (u / 10) (by omega)]
      simp [u8s]
theorem decN_lt (u : Nat) : ∀ c ∈ decN u, 48 ≤ c ∧ c < 58 := by
  induction u using Nat.strongRecOn with
  | ind u ih =>
    rw [decN]
    split
    · intro c hc; simp at hc; omega
    · rename_i h
      intro c hc
      rcases List.mem_append.1 hc with hc | hc
      · exact ih (u / 10) (by omega) c hc
      · simp at hc; omega
theorem decN_len : ∀ (k u : Nat), u < 10 ^ (k + 1) → (decN u).length ≤ k + 1
  | 0, u, h => by rw [decN, dif_pos (by simpa using h)]; simp
  | k + 1, u, h => by
    rw [decN]
    split
    · simp
    · rw [List.length_append, List.length_singleton]
      have := decN_len k (u / 10) (by rw [Nat.pow_succ] at h; omega)
      omega
theorem str_u8 {s : List Nat} {l : List UInt8} (h : u8s s = l) : (⟨l.toArray⟩ : ByteArray) = strOf s := by rw [← h]; rfl
theorem below_growN (w : World) (k : Nat) (os : Array Obj) : Below w.heap.size w (grow (w.drewN k) os) := ⟨rfl, rfl, rfl, by simp [grow], fun j hj => by simp only [grow]; exact Array.getElem?_append_left hj⟩
theorem itoa_any (n : Nat) (w : World) (g : Gv w) (hn : n ≤ 9223372036854775807) : Calls Tryz.prog 72 #[.int .i64 (n : Int)] w fun e w' => e = .returned (.string (strOf (decN n))) ∧ Grow w w' := by
  refine (Any.strconv_Itoa shItoa (n : Int) (by omega) (by omega) w g.pow).mono ?_
  rintro e w' ⟨rfl, k, os, rfl⟩
  refine ⟨?_, below_growN _ _ _⟩
  rw [Lib.itoa_nonneg, str_u8 (decN_u8 n)]
theorem rep_u8 (c : Nat) : u8s (List.replicate c 48) = Lib.repeatL [48] c := by
  induction c with
  | zero => rfl
  | succ c ih => rw [List.replicate_succ, Lib.repeatL, ← ih]; rfl
theorem repeat0_any (c : Nat) (w : World) (hc : c ≤ 1000) : Calls Tryz.prog 73 #[.string { data := #[48] }, .int .i64 (c : Int)] w fun e w' => e = .returned (.string (strOf (List.replicate c 48))) ∧ Grow w w' := by
  refine (Any.strings_Repeat shRep shRepX { data := #[48] } c w (by omega) (by show 1 * c ≤ _; omega)).mono ?_
  rintro e w' ⟨rfl, hb⟩
  exact ⟨by rw [← str_u8 (rep_u8 c)], hb⟩
theorem repeatZ_any (z : Int) (c : Nat) (w : World) (h : z = (c : Int)) (hc : c ≤ 1000) : Calls Tryz.prog 73 #[.string { data := #[48] }, .int .i64 z] w fun e w' => e = .returned (.string (strOf (List.replicate c 48))) ∧ Grow w w' := by
  subst h
  exact repeat0_any c w hc
/-- A segment's number, in six digits. -/
def dig6 (n : Nat) : List Nat := List.replicate (6 - (decN n).length) 48 ++ decN n
def fileN (nm : List Nat) (n : Nat) (kind : List Nat) : List Nat := nm ++ [46] ++ dig6 n ++ kind
/-- A log's own block. -/
def wlCs (gd : Nat) (nm : List Nat) (num count size : Int) (broken : Bool) : Array Value := #[.pointer (some ⟨gd, 0, none⟩), .string (strOf nm), .int .i64 num, .int .i64 count, .int .i64 size, .bool broken]
theorem file_any (g0 gd n : Nat) (nm kind : List Nat) (num count size : Int) (broken : Bool) (w : World) (gv : Gv w) (k0 : Blk w g0 80 (wlCs gd nm num count size broken)) (hn : n ≤ 999999) (hnl : nm.length ≤ 1000) (hkl : kind.length ≤ 1000) :
    Calls Tryz.prog 50 #[.pointer (some ⟨g0, 0, none⟩), .int .i64 (n : Int), .string (strOf kind)] w fun e w' => e = .returned (.string (strOf (fileN nm n kind))) ∧ Grow w w' := by
  have bel := Below.refl w.heap.size w
  have hdl := decN_len 5 n (by omega)
  refine Calls.start 25 Tryz.func50 rfl rfl rfl ?_
  refine Cd.seq ?_
  refine Cd.region ?_
  refine Seq.val (Runs.assign rfl rfl) rfl rfl rfl ?_
  refine Seq.nil ?_
  refine Post.weak (F' := [(0, _), (1, _), (2, _), (6, _)]) ⟨rfl, rfl, rfl, rfl, trivial⟩ ?_
  refine Post.then_ ?_
  refine Cd.seq ?_
  refine Cd.region ?_
  refine Seq.val (Runs.move rfl rfl) rfl rfl rfl ?_
  refine Seq.call (Enters.func rfl rfl rfl (run_enter Tryz.func72 (by kernel_rfl) rfl)) rfl rfl rfl (itoa_any n _ gv (by omega)) ?_
  rintro e w5 ⟨rfl, hb5⟩
  refine ⟨_, rfl, ?_⟩
  replace bel := bel.step hb5
  replace k0 := k0.step hb5
  refine Seq.val (Runs.assign rfl rfl) rfl rfl rfl ?_
  refine Seq.nil ?_
  refine Post.weak (F' := [(0, _), (1, _), (2, _), (6, _), (7, _)]) ⟨rfl, rfl, rfl, rfl, rfl, trivial⟩ ?_
  refine Post.then_ ?_
  refine Cd.seq ?_
  refine Cd.draw 15 (by kernel_rfl) [] (.inl rfl) rfl Grow Grow.refl (fun _ _ _ => Grow.trans) ?_
  intro w1 hw1 zw1
  replace bel := bel.step hw1
  replace k0 := k0.step hw1
  have zbel := bel.size
  have zlt := k0.lt
  refine Dr.val Grow.refl rfl (fun w hG => Runs.move rfl rfl) rfl ?_
  refine Dr.val Grow.refl rfl (fun w hG => Runs.nilCheck rfl rfl) rfl ?_
  refine Dr.val Grow.refl rfl (fun w hG => Runs.fieldB 1 rfl rfl Tryz.underlying80 rfl (by kernel_rfl)) rfl ?_
  refine Dr.val Grow.refl rfl (fun w hG => Runs.loadB rfl rfl Tryz.underlying9 rfl (k0.step hG) rfl) rfl ?_
  refine Dr.val Grow.refl rfl (fun w hG => Runs.addL (b := [46]) rfl rfl rfl (show nm.length + 1 ≤ _ by omega)) rfl ?_
  refine Dr.val Grow.refl rfl (fun w hG => Runs.move rfl rfl) rfl ?_
  refine Dr.val Grow.refl rfl (fun w hG => Runs.lenL rfl rfl Tryz.underlying9) rfl ?_
  refine Dr.val Grow.refl rfl (fun w hG => Runs.subI rfl rfl rfl (by omega) (by omega)) rfl ?_
  refine Dr.val Grow.refl rfl (fun w hG => Runs.max2 rfl rfl rfl) rfl ?_
  refine Dr.callV rfl (fun w => Enters.func rfl rfl rfl (run_enter Tryz.func73 (by kernel_rfl) rfl)) rfl (fun w hG => repeatZ_any _ (6 - (decN n).length) w (by omega) (by omega)) ?_
  refine Dr.val Grow.refl rfl (fun w hG => Runs.addL rfl rfl rfl (by simp only [List.length_append, List.length_replicate, List.length_singleton]; omega)) rfl ?_
  refine Dr.val Grow.refl rfl (fun w hG => Runs.move rfl rfl) rfl ?_
  refine Dr.val Grow.refl rfl (fun w hG => Runs.addL rfl rfl rfl (by simp only [List.length_append, List.length_replicate, List.length_singleton]; omega)) rfl ?_
  refine Dr.val Grow.refl rfl (fun w hG => Runs.move rfl rfl) rfl ?_
  refine Dr.val Grow.refl rfl (fun w hG => Runs.addL rfl rfl rfl (by simp only [List.length_append, List.length_replicate, List.length_singleton]; omega)) rfl ?_
  refine FinX.done (F' := [(0, _), (1, _), (2, _), (6, _), (7, _), (24, _)]) rfl ⟨rfl, rfl, rfl, rfl, rfl, rfl, trivial⟩ ?_
  intro w2 hw2 fw2
  replace bel := bel.step hw2
  replace k0 := k0.step hw2
  refine Seq.val (Runs.assign rfl rfl) rfl rfl rfl ?_
  refine Seq.nil ?_
  refine Post.weak (F' := [(0, _), (1, _), (2, _), (6, _), (7, _)]) ⟨rfl, rfl, rfl, rfl, rfl, trivial⟩ ?_
  refine Post.then_ ?_
  refine Cd.ret ?_
  refine Post.end1 rfl rfl (.inl rfl) ?_
  refine ⟨?_, bel⟩
  have e : nm ++ [46] ++ List.replicate (6 - (decN n).length) 48 ++ decN n ++ kind = fileN nm n kind := by unfold fileN dig6; simp
  rw [← e]
end Go.Proofs.YtnlepoplncjliaaGreatDoor
