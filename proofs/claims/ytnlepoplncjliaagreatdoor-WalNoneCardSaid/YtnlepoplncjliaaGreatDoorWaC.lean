/-
  disk.Disk: what each operation begins with. Condition: names within reach.
-/
import Derived.Test.YtnlepoplncjliaaGreatDoorWaB
namespace Go.Proofs.YtnlepoplncjliaaGreatDoor
open Go.RowKit

/-- Texts, as cells. -/
def Ts (l : List (List Nat)) : List Value := l.map fun s => Value.string (strOf s)
theorem get_Ts (l : List (List Nat)) (k : Nat) : (Ts l)[k]? = l[k]?.map fun s => Value.string (strOf s) := by simp [Ts]
theorem Ts_len (l : List (List Nat)) : (Ts l).length = l.length := by simp [Ts]
theorem Ts_append (a b : List (List Nat)) : Ts (a ++ b) = Ts a ++ Ts b := by simp [Ts]
theorem Own.of_blk {w : World} {B g n size : Nat} {e : TypeId} {cs : Array Value} (k : Blk w g e cs) (hB : B ≤ g) (hn : cs.size = n * size) (hm : n ≤ maxLen) : Own w B e size (.slice (some ⟨g, 0, none⟩) n n) n cs.toList :=
  ⟨⟨by simpa using hn, .inr ⟨g, n, cs, rfl, hB, k, Nat.le_refl _, hm, hn, by rw [List.take_of_length_le (by simp [hn])]⟩⟩⟩
def nameOk (s : List Nat) : Bool := decide (s ≠ []) && decide (s.length ≤ 24)
/-- One operation more. -/
def Dk.tick (D : Dk) : Dk := if D.off then D else if D.armed then (if D.left = 0 then { D with off := true } else { D with left := D.left - 1 }) else D
def Dk.beginE (D : Dk) (names : List (List Nat)) : Int := if D.tick.off then 6 else if names.all nameOk then 0 else 1
theorem tick_files (D : Dk) : D.tick.files = D.files := by unfold Dk.tick; split <;> (try split) <;> (try split) <;> rfl
theorem tick_room (D : Dk) : D.tick.room = D.room := by unfold Dk.tick; split <;> (try split) <;> (try split) <;> rfl
theorem strOf_nil_eq : (({ data := #[] } : ByteArray)) = strOf [] := rfl
set_option maxHeartbeats 1000000 in
theorem begin_any (B g0 m : Nat) (D : Dk) (l : List (List Nat × Nat)) (F : Nat → Fil) (c1 c2 : Int) (names : List (List Nat)) (v : Value) (Bv n : Nat) (w : World) (h : DkR w B g0 D m l F c1 c2) (own : Own w Bv 9 1 v n (Ts names)) (hsm : ∀ s ∈ names, ∀ c ∈ s, c < 256) (hl : ∀ s ∈ names, s.length ≤ 1000000000) (hn : n ≤ 1000000) :
    Calls Tryz.prog 42 #[.pointer (some ⟨g0, 0, none⟩), v] w fun e w' => e = .returned (.int .i64 (D.beginE names)) ∧ (∃ c3, DkR w' B g0 D.tick m l F c1 c3) ∧ Df B w w' := by
  obtain ⟨k0, mp, hm, fs, hfl, e0, ok⟩ := h
  obtain ⟨us, hus⟩ : ∃ us, us = D.used := ⟨_, rfl⟩
  obtain ⟨room, files, off, armed, left⟩ := D
  have hlen : names.length = n := by have := own.row.1; rw [Ts_len] at this; omega
  have hleft := ok.left0
  have hleft1 := ok.left1
  simp only at hleft hleft1 hfl
  unfold Dk.cs at k0
  rw [← hus] at k0
  simp only at k0
  have df := Df.refl B w
  obtain ⟨A, c, rfl, -⟩ := own.reads
  refine Calls.start 55 Tryz.func42 rfl rfl rfl ?_
  refine Cd.seq ?_
  refine Cd.region ?_
  refine Seq.val (Runs.assign rfl rfl) rfl rfl rfl ?_
  refine Seq.nil ?_
  refine Post.weak (F' := [(0, _), (1, _), (4, _)]) ⟨rfl, rfl, rfl, trivial⟩ ?_
  refine Post.then_ ?_
  refine Cd.seq ?_
  refine Cd.block ?_
  refine Cd.seq ?_
  refine Cd.region ?_
  refine Seq.val (Runs.move rfl rfl) rfl rfl rfl ?_
  refine Seq.val (Runs.eqlP rfl rfl rfl Tryz.underlying26) rfl rfl rfl ?_
  refine Seq.val (Runs.assign rfl rfl) rfl rfl rfl ?_
  refine Seq.nil ?_
  refine Post.weak (F' := [(0, _), (1, _), (4, _), (7, _)]) ⟨rfl, rfl, rfl, rfl, trivial⟩ ?_
  refine Post.then_ ?_
  refine Cd.condF rfl rfl ?_
  refine Cd.seq ?_
  refine Cd.region ?_
  refine Seq.val (Runs.move rfl rfl) rfl rfl rfl ?_
  refine Seq.val (Runs.nilCheck rfl rfl) rfl rfl rfl ?_
  refine Seq.val (Runs.fieldB 5 rfl rfl Tryz.underlying77 rfl (by kernel_rfl)) rfl rfl rfl ?_
  refine Seq.val (Runs.loadB rfl rfl Tryz.underlying4 rfl k0 rfl) rfl rfl rfl ?_
  refine Seq.val (Runs.assign rfl rfl) rfl rfl rfl ?_
  refine Seq.nil ?_
  refine Post.weak (F' := [(0, _), (1, _), (4, _), (7, _), (10, _)]) ⟨rfl, rfl, rfl, rfl, rfl, trivial⟩ ?_
  refine Post.then_ ?_
  have hbad : (names.all nameOk = false) → ∃ s ∈ names, nameOk s = false := fun hb => by
    have := List.all_eq_false.1 hb
    simpa using this
  refine Cd.cond rfl (fun h => ?_) (fun h => ?_)
  · obtain rfl : off = true := h
    refine Cd.seq ?_
    refine Cd.region ?_
    refine Seq.val (Runs.assign rfl rfl) rfl rfl rfl ?_
    refine Seq.nil ?_
    refine Post.weak (F' := [(0, _), (1, _), (4, _), (7, _), (10, _)]) ⟨rfl, rfl, rfl, rfl, rfl, trivial⟩ ?_
    refine Post.then_ ?_
    refine Cd.ret ?_
    refine Post.block_ret ?_
    refine Post.then_ret ?_
    refine Post.end1 rfl rfl (.inl rfl) ?_
    exact ⟨rfl, ⟨c2, by rw [hus] at k0; exact k0, mp, hm, fs, hfl, e0, ok⟩, df⟩
  obtain rfl : off = false := h
  refine Cd.skip ?_
  refine Post.block_normal ?_
  refine Post.then_ ?_
  refine Cd.seq ?_
  refine Cd.region ?_
  refine Seq.val (Runs.move rfl rfl) rfl rfl rfl ?_
  refine Seq.val (Runs.nilCheck rfl rfl) rfl rfl rfl ?_
  refine Seq.val (Runs.fieldB 4 rfl rfl Tryz.underlying77 rfl (by kernel_rfl)) rfl rfl rfl ?_
  refine Seq.val (Runs.loadB rfl rfl Tryz.underlying3 rfl k0 rfl) rfl rfl rfl ?_
  refine Seq.val (Runs.addW rfl rfl rfl rfl) rfl rfl rfl ?_
  refine Seq.val (Runs.nilCheck rfl rfl) rfl rfl rfl ?_
  refine Seq.val (Runs.fieldB 4 rfl rfl Tryz.underlying77 rfl (by kernel_rfl)) rfl rfl rfl ?_
  refine Seq.store1 rfl rfl rfl (by kernel_rfl) rfl rfl k0 rfl rfl rfl ?_
  intro w1 pw1
  replace df := df.put k0 pw1 e0
  replace mp := mp.put k0 pw1 e0
  replace fs := fs.put k0 pw1 e0
  replace own := own.put k0 pw1 e0
  replace k0 := pw1.blk
  refine Seq.nil ?_
  refine Post.weak (F' := [(0, _), (1, _), (4, _), (7, _), (10, _)]) ⟨rfl, rfl, rfl, rfl, rfl, trivial⟩ ?_
  refine Post.then_ ?_
  replace k0 : Blk _ g0 77 #[.int .i64 room, .map (some m), .int .i64 us, .int .i64 c1, .int .i64 (IntKind.i64.wrap (c2 + 1)), .bool false, .bool armed, .int .i64 left] := k0
  obtain ⟨c3, hc3⟩ : ∃ c3, c3 = IntKind.i64.wrap (c2 + 1) := ⟨_, rfl⟩
  rw [← hc3] at k0
  refine Cd.seqJ (σ := Dk) (fun _ => [(0, .pointer (some ⟨g0, 0, none⟩)), (1, .slice A n c)]) (fun D' wr => D' = (Dk.mk room files false armed left).tick ∧ D'.off = false ∧ D'.ok ∧ Df B w wr ∧ Blk wr g0 77 (D'.cs m c1 c3) ∧ Mp wr m l ∧ Fs wr B l F ∧ Own wr Bv 9 1 (.slice A n c) n (Ts names)) ?_ ?_
  · skip
    refine Cd.seq ?_
    refine Cd.region ?_
    refine Seq.val (Runs.move rfl rfl) rfl rfl rfl ?_
    refine Seq.val (Runs.nilCheck rfl rfl) rfl rfl rfl ?_
    refine Seq.val (Runs.fieldB 6 rfl rfl Tryz.underlying77 rfl (by kernel_rfl)) rfl rfl rfl ?_
    refine Seq.val (Runs.loadB rfl rfl Tryz.underlying4 rfl k0 rfl) rfl rfl rfl ?_
    refine Seq.nil ?_
    refine Post.weak (F' := [(0, _), (1, _), (4, _), (7, _), (10, _), (25, _)]) ⟨rfl, rfl, rfl, rfl, rfl, rfl, trivial⟩ ?_
    refine Post.then_ ?_
    refine Cd.cond rfl (fun h => ?_) (fun h => ?_)
    · obtain rfl : armed = true := h
      refine Cd.seq ?_
      refine Cd.seq ?_
      refine Cd.region ?_
      refine Seq.val (Runs.move rfl rfl) rfl rfl rfl ?_
      refine Seq.val (Runs.nilCheck rfl rfl) rfl rfl rfl ?_
      refine Seq.val (Runs.fieldB 7 rfl rfl Tryz.underlying77 rfl (by kernel_rfl)) rfl rfl rfl ?_
      refine Seq.val (Runs.loadB rfl rfl Tryz.underlying3 rfl k0 rfl) rfl rfl rfl ?_
      refine Seq.val (Runs.eqlI rfl rfl rfl) rfl rfl rfl ?_
      refine Seq.nil ?_
      refine Post.weak (F' := [(0, _), (1, _), (4, _), (7, _), (10, _), (25, _), (30, _)]) ⟨rfl, rfl, rfl, rfl, rfl, rfl, rfl, trivial⟩ ?_
      refine Post.then_ ?_
      refine Cd.cond rfl (fun h => ?_) (fun h => ?_)
      · have h : left = 0 := by simpa using h
        refine Cd.seq ?_
        refine Cd.region ?_
        refine Seq.val (Runs.move rfl rfl) rfl rfl rfl ?_
        refine Seq.val (Runs.nilCheck rfl rfl) rfl rfl rfl ?_
        refine Seq.val (Runs.fieldB 5 rfl rfl Tryz.underlying77 rfl (by kernel_rfl)) rfl rfl rfl ?_
        refine Seq.store1 rfl rfl rfl (by kernel_rfl) rfl rfl k0 rfl rfl rfl ?_
        intro w2 pw2
        replace df := df.put k0 pw2 e0
        replace mp := mp.put k0 pw2 e0
        replace fs := fs.put k0 pw2 e0
        replace own := own.put k0 pw2 e0
        replace k0 := pw2.blk
        refine Seq.nil ?_
        refine Post.weak (F' := [(0, _), (1, _), (4, _), (7, _), (10, _), (25, _), (30, _)]) ⟨rfl, rfl, rfl, rfl, rfl, rfl, rfl, trivial⟩ ?_
        refine Post.then_ ?_
        refine Cd.seq ?_
        refine Cd.region ?_
        refine Seq.val (Runs.assign rfl rfl) rfl rfl rfl ?_
        refine Seq.nil ?_
        refine Post.weak (F' := [(0, _), (1, _), (4, _), (7, _), (10, _), (25, _), (30, _)]) ⟨rfl, rfl, rfl, rfl, rfl, rfl, rfl, trivial⟩ ?_
        refine Post.then_ ?_
        refine Cd.ret ?_
        refine Post.then_ret ?_
        refine Post.then_ret ?_
        replace k0 : Blk _ g0 77 #[.int .i64 room, .map (some m), .int .i64 us, .int .i64 c1, .int .i64 c3, .bool true, .bool true, .int .i64 left] := k0
        refine Post.end1 rfl rfl (.inl rfl) ?_
        have ht : (Dk.mk room files false true left).tick = Dk.mk room files true true left := by unfold Dk.tick; rw [if_neg (by simp), if_pos rfl, if_pos h]
        refine ⟨by unfold Dk.beginE; rw [ht]; rfl, ?_, df⟩
        rw [ht]
        exact ⟨c3, by unfold Dk.cs; rw [show (Dk.mk room files true true left).used = us from hus.symm]; exact k0, mp, hm, fs, hfl, e0, ⟨ok.room0, ok.room1, ok.fits, ok.left0, ok.left1, ok.fil, ok.most⟩⟩
      · have h : left ≠ 0 := by simpa using h
        refine Cd.skip ?_
        refine Post.then_ ?_
        refine Cd.region ?_
        refine Seq.val (Runs.move rfl rfl) rfl rfl rfl ?_
        refine Seq.val (Runs.nilCheck rfl rfl) rfl rfl rfl ?_
        refine Seq.val (Runs.fieldB 7 rfl rfl Tryz.underlying77 rfl (by kernel_rfl)) rfl rfl rfl ?_
        refine Seq.val (Runs.loadB rfl rfl Tryz.underlying3 rfl k0 rfl) rfl rfl rfl ?_
        refine Seq.val (Runs.subI rfl rfl rfl (by omega) (by omega)) rfl rfl rfl ?_
        refine Seq.val (Runs.nilCheck rfl rfl) rfl rfl rfl ?_
        refine Seq.val (Runs.fieldB 7 rfl rfl Tryz.underlying77 rfl (by kernel_rfl)) rfl rfl rfl ?_
        refine Seq.store1 rfl rfl rfl (by kernel_rfl) rfl rfl k0 rfl rfl rfl ?_
        intro w2 pw2
        replace df := df.put k0 pw2 e0
        replace mp := mp.put k0 pw2 e0
        replace fs := fs.put k0 pw2 e0
        replace own := own.put k0 pw2 e0
        replace k0 := pw2.blk
        refine Seq.nil ?_
        refine Post.weak (F' := [(0, _), (1, _), (4, _), (7, _), (10, _), (25, _), (30, _)]) ⟨rfl, rfl, rfl, rfl, rfl, rfl, rfl, trivial⟩ ?_
        replace k0 : Blk _ g0 77 #[.int .i64 room, .map (some m), .int .i64 us, .int .i64 c1, .int .i64 c3, .bool false, .bool true, .int .i64 (left - 1)] := k0
        have ht : (Dk.mk room files false true left).tick = Dk.mk room files false true (left - 1) := by unfold Dk.tick; rw [if_neg (by simp), if_pos rfl, if_neg h]
        exact Post.join (Dk.mk room files false true (left - 1)) ⟨rfl, rfl, trivial⟩ ⟨ht.symm, rfl, ⟨ok.room0, ok.room1, ok.fits, show 0 ≤ left - 1 by omega, show left - 1 ≤ 4611686018427387904 by omega, ok.fil, ok.most⟩, df, (by unfold Dk.cs; rw [show (Dk.mk room files false true (left - 1)).used = us from hus.symm]; exact k0), mp, fs, own⟩
    · obtain rfl : armed = false := h
      refine Cd.skip ?_
      exact Post.join (Dk.mk room files false false left) ⟨rfl, rfl, trivial⟩ ⟨rfl, rfl, ok, df, (by rw [hus] at k0; exact k0), mp, fs, own⟩
  clear df k0 mp fs own
  rintro D' wj ⟨hD, hoff, okD, df, k0, mp, fs, own⟩
  obtain ⟨A', c', hv, hrd⟩ := own.reads
  injection hv with e1 _ e2
  subst e1 e2
  have bel := Below.refl wj.heap.size wj
  refine Cd.seq ?_
  refine Cd.seq ?_
  refine Cd.region ?_
  refine Seq.val (Runs.move rfl rfl) rfl rfl rfl ?_
  refine Seq.val (Runs.len rfl rfl Tryz.underlying22) rfl rfl rfl ?_
  refine Seq.val (Runs.move rfl rfl) rfl rfl rfl ?_
  refine Seq.nil ?_
  refine Post.weak (F' := [(0, _), (1, _), (41, _), (42, _), (43, _)]) ⟨rfl, rfl, rfl, rfl, rfl, trivial⟩ ?_
  refine Post.then_ ?_
  refine Cd.block ?_
  have hfin : ∀ w', Below wj.heap.size wj w' → (∃ c3, DkR w' B g0 D' m l F c1 c3) ∧ Df B w w' := fun w' hb => ⟨⟨c3, k0.step hb, mp.step hb, hm, fs.step hb, by rw [hD, tick_files]; exact hfl, e0, okD⟩, df.step hb⟩
  rw [← hD]
  clear df mp fs k0
  unfold Dk.beginE
  rw [← hD, hoff]
  simp only [Bool.false_eq_true, if_false]
  refine Cd.loop (σ := Nat) (fun k => [(41, .slice A n c), (42, .int .i64 (n : Int)), (43, .int .i64 (k : Int))]) (fun k wr => k ≤ n ∧ (∀ s ∈ names.take k, nameOk s = true) ∧ Below wj.heap.size wj wr) (fun k => n - k) 0 ⟨Nat.zero_le _, by simp, bel⟩ ⟨rfl, rfl, rfl, trivial⟩ ?_
  clear bel
  rintro k wr ⟨hk, hok, bel⟩
  refine Cd.seq ?_
  refine Cd.region ?_
  refine Seq.val (Runs.lss rfl rfl rfl) rfl rfl rfl ?_
  refine Seq.nil ?_
  refine Post.weak (F' := [(41, _), (42, _), (43, _), (44, _)]) ⟨rfl, rfl, rfl, rfl, trivial⟩ ?_
  refine Post.then_ ?_
  refine Cd.seq ?_
  refine Cd.condD rfl (fun hc => ?_) (fun hc => ?_)
  · obtain ⟨s, hs⟩ : ∃ s, names[k]? = some s := ⟨_, List.getElem?_eq_getElem (show k < names.length by omega)⟩
    have hms := List.mem_of_getElem? hs
    have hsl := hl s hms
    obtain ⟨ad, rfl, hbl, hcl⟩ := hrd.2 (by omega)
    have hcd := (bel.cell (p := ad.add k) (by rw [block_of_add]; exact hbl)).trans (hcl k (.string (strOf s)) (by rw [get_Ts, hs]; rfl))
    refine Cd.skip ?_
    refine Post.then_ ?_
    refine Cd.seq ?_
    refine Cd.block ?_
    refine Cd.seq ?_
    refine Cd.region ?_
    refine Seq.val (Runs.index1 rfl rfl rfl Tryz.underlying22 (by kernel_rfl) (j := k) rfl (by omega)) rfl rfl rfl ?_
    refine Seq.val (Runs.load1 rfl rfl Tryz.underlying9 rfl hcd) rfl rfl rfl ?_
    refine Seq.val (Runs.assign rfl rfl) rfl rfl rfl ?_
    refine Seq.nil ?_
    refine Post.weak (F' := [(6, _), (41, _), (42, _), (43, _), (44, _)]) ⟨rfl, rfl, rfl, rfl, rfl, trivial⟩ ?_
    refine Post.then_ ?_
    refine Cd.seq ?_
    refine Cd.region ?_
    refine Seq.val (Runs.move rfl rfl) rfl rfl rfl ?_
    refine Seq.val (Runs.eqlS rfl rfl rfl) rfl rfl rfl ?_
    refine Seq.val (Runs.move rfl rfl) rfl rfl rfl ?_
    refine SeqC.start ?_
    refine SeqC.open rfl rfl rfl rfl rfl rfl rfl (fun hcx => Runs.move rfl rfl) ?_
    refine SeqC.next rfl rfl rfl rfl rfl rfl rfl (fun hcx => Runs.lenS rfl rfl Tryz.underlying9) ?_
    refine SeqC.next rfl rfl rfl rfl rfl rfl rfl (fun hcx => Runs.gtr rfl rfl rfl) ?_
    refine SeqC.or rfl rfl rfl rfl rfl rfl rfl ?_
    refine Seq.nil ?_
    refine Post.weak (F' := [(6, _), (41, _), (42, _), (43, _), (44, _), (53, _)]) ⟨rfl, rfl, rfl, rfl, rfl, rfl, trivial⟩ ?_
    refine Post.then_ ?_
    have hno : nameOk s = !(((strOf s).toList == (strOf []).toList) || decide ((24 : Int) < (s.length : Int))) := by
      rw [strOf_beq (hsm s hms) (by simp)]
      unfold nameOk
      rw [Bool.not_or]
      congr 1
      · by_cases e : s = [] <;> simp [e]
      · by_cases e : s.length ≤ 24
        · rw [decide_eq_true e, decide_eq_false (by omega)]; rfl
        · rw [decide_eq_false e, decide_eq_true (by omega)]; rfl
    refine Cd.cond rfl (fun h => ?_) (fun h => ?_)
    · replace h : ((strOf s).toList == (strOf []).toList || decide ((24 : Int) < ((strOf s).size : Int))) = true := h
      rw [strOf_size] at h
      refine Cd.seq ?_
      refine Cd.region ?_
      refine Seq.val (Runs.assign rfl rfl) rfl rfl rfl ?_
      refine Seq.nil ?_
      refine Post.weak (F' := [(4, _), (6, _), (41, _), (42, _), (43, _), (44, _), (53, _)]) ⟨rfl, rfl, rfl, rfl, rfl, rfl, rfl, trivial⟩ ?_
      refine Post.then_ ?_
      refine Cd.ret ?_
      refine Post.block_ret ?_
      refine Post.then_ret ?_
      refine Post.round_ret ?_
      refine Post.block_ret ?_
      refine Post.then_ret ?_
      refine Post.end1 rfl rfl (.inl rfl) ?_
      have hall : names.all nameOk = false := by
        rw [List.all_eq_false]
        exact ⟨s, hms, by rw [hno]; simp only [Bool.not_eq_true, Bool.not_eq_false']; exact h⟩
      rw [hall]
      exact ⟨rfl, hfin _ bel⟩
    · replace h : ((strOf s).toList == (strOf []).toList || decide ((24 : Int) < ((strOf s).size : Int))) = false := h
      rw [strOf_size] at h
      refine Cd.skip ?_
      refine Post.block_normal ?_
      refine Post.then_ ?_
      refine Cd.region ?_
      refine Seq.val (Runs.addI rfl rfl rfl (by omega) (by omega)) rfl rfl rfl ?_
      refine Seq.val (Runs.move rfl rfl) rfl rfl rfl ?_
      refine Seq.nil ?_
      refine Post.weak (F' := [(6, _), (41, _), (42, _), (43, _), (44, _), (53, _)]) ⟨rfl, rfl, rfl, rfl, rfl, rfl, trivial⟩ ?_
      refine Post.round (k + 1) ⟨rfl, rfl, int_at (by omega), trivial⟩ ⟨by omega, fun y hy => ?_, bel⟩ (by omega)
      rw [take_last hs] at hy
      rcases List.mem_append.1 hy with hy | hy
      · exact hok y hy
      · simp at hy
        subst hy
        rw [hno]
        simp only [Bool.not_eq_true']
        exact h
  · have hall : names.all nameOk = true := by
      rw [List.all_eq_true]
      intro s hs
      rw [List.take_of_length_le (by omega)] at hok
      exact hok s hs
    rw [hall]
    refine Cd.exit ?_
    refine Post.then_exit ?_
    refine Post.round_exit ?_
    refine Post.block_exit ?_
    refine Post.then_ ?_
    refine Cd.seq ?_
    refine Cd.region ?_
    refine Seq.val (Runs.assign rfl rfl) rfl rfl rfl ?_
    refine Seq.nil ?_
    refine Post.weak (F' := [(4, _), (41, _), (42, _), (43, _), (44, _)]) ⟨rfl, rfl, rfl, rfl, rfl, trivial⟩ ?_
    refine Post.then_ ?_
    refine Cd.ret ?_
    refine Post.end1 rfl rfl (.inl rfl) ?_
    exact ⟨rfl, hfin _ bel⟩
end Go.Proofs.YtnlepoplncjliaaGreatDoor
