/-
  disk.Disk: there, Sync, Read, Free, On, Arm, Safe. Condition: names within reach.
-/
import Derived.Test.YtnlepoplncjliaaGreatDoorWaC
namespace Go.Proofs.YtnlepoplncjliaaGreatDoor
open Go.RowKit

theorem zero_string : zeroIs Tryz.prog 9 = some (some (.string { data := #[] })) := by kernel_rfl
theorem zero_pfile : zeroIs Tryz.prog 88 = some (some (.pointer none)) := by kernel_rfl
section
variable {P : Program} {ops : Array Oper} {Q : Exit → Act → World → Prop} {rest : List Oper} {E : Operand → Option Value} {F : List (Nat × Value)} {o : Oper} {w : World} {x y z : Operand} {t k e m n d : Nat} {l : List (List Nat × Nat)} {nm : List Nat}
theorem Runs.lookup2 (ho : o.op = .lookup t x y true) (hx : E x = some (.map (some m))) (hy : E y = some (.string (strOf nm))) (h : Mp w m l) (hn : ∀ c ∈ nm, c < 256) (ht : P.underlying t = some (.map k e)) (hk : P.underlying k = some .string) (hz : zeroIs P e = some (some (.pointer none))) :
    Runs P E o w (.tuple #[lkV l nm, .bool (lk l nm).isSome]) w := fun ρ hρ => by
  unfold execOp
  simp only [ho]; rw [hρ _ _ hx, hρ _ _ hy]
  simp only [Sem.run_bind, h.look ht hk hz hn, Result.andThen_ok, Sem.run_pure, if_true]
theorem Runs.lookup1 (ho : o.op = .lookup t x y false) (hx : E x = some (.map (some m))) (hy : E y = some (.string (strOf nm))) (h : Mp w m l) (hn : ∀ c ∈ nm, c < 256) (ht : P.underlying t = some (.map k e)) (hk : P.underlying k = some .string) (hz : zeroIs P e = some (some (.pointer none))) :
    Runs P E o w (lkV l nm) w := fun ρ hρ => by
  unfold execOp
  simp only [ho]; rw [hρ _ _ hx, hρ _ _ hy]
  simp only [Sem.run_bind, h.look ht hk hz hn, Result.andThen_ok, Sem.run_pure, Bool.false_eq_true, if_false]
theorem Runs.lenM (ho : o.op = .call { callee := .builtin .len, args := #[x], argTypes := #[t] }) (hx : E x = some (.map (some m))) (h : Mp w m l) (ht : P.underlying t = some (.map k e)) : Runs P E o w (.int .i64 (l.length : Int)) w := fun ρ hρ => by
  obtain ⟨es, clk, h1, h2, h3⟩ := h.ex
  have hl : es.size = l.length := by have := congrArg List.length h3; simpa using this
  unfold execOp
  simp only [ho, resolve, invoke, builtin, Sem.run_bind, Sem.run_pure, Result.andThen_ok, List.map_toArray, List.map_cons, List.map_nil, hρ _ _ hx]
  simp [Builtin.len_, run_underlying ht, Result.andThen_ok, MapKept.run_getObj_map h1, hl, goInt]
theorem Seq.mapUpd {b : Nat} (ho : o.op = .mapUpdate t x y z) (hx : evF F x = some (.map (some m))) (hy : evF F y = some (.string (strOf nm))) (hz : evF F z = some (.pointer (some ⟨b, 0, none⟩))) (h : Mp w m l) (hn : ∀ c ∈ nm, c < 256) (ht : P.underlying t = some (.map k e)) (hk : P.underlying k = some .string)
    (hg : o.guard = none) (hd : o.dst = none) (hr : ∀ w', PutM w w' m (upd l nm b) → Seq P ops Q rest n F w') : Seq P ops Q (o :: rest) n F w := by
  obtain ⟨w', h1, h2⟩ := Mp.update (b := b) h ht hk hn
  refine Seq.unit (w' := w') (fun ρ hρ => ?_) hg hd (hr w' h2)
  unfold execOp
  simp only [ho]; rw [hρ _ _ hx, hρ _ _ hy, hρ _ _ hz]
  simp only [Sem.run_bind, h1, Result.andThen_ok, Sem.run_pure]
theorem Seq.mapDel (ho : o.op = .call { callee := .builtin .delete, args := #[x, y], argTypes := #[t, k] }) (hx : evF F x = some (.map (some m))) (hy : evF F y = some (.string (strOf nm))) (h : Mp w m l) (hn : ∀ c ∈ nm, c < 256) (ht : P.underlying t = some (.map k e)) (hk : P.underlying k = some .string)
    (hg : o.guard = none) (hd : o.dst = some d) (hb : Nat.blt d n = true) (hr : ∀ w', PutM w w' m (del l nm) → Seq P ops Q rest n ((d, .tuple #[]) :: F) w') : Seq P ops Q (o :: rest) n F w := by
  obtain ⟨w', h1, h2⟩ := Mp.delete (ty := o.type) h ht hk hn
  refine Seq.val (v := .tuple #[]) (w' := w') (fun ρ hρ => ?_) hg hd hb (hr w' h2)
  unfold execOp
  simp only [ho, resolve, invoke, builtin, Sem.run_bind, Sem.run_pure, Result.andThen_ok, List.map_toArray, List.map_cons, List.map_nil, hρ _ _ hx, hρ _ _ hy, h1]
end
theorem ones_Ts (l : List (List Nat)) : ∀ u ∈ Ts l, u.oneCell' = true := fun u hu => by
  unfold Ts at hu
  obtain ⟨z, -, rfl⟩ := List.mem_map.1 hu
  rfl
/-- What is wrong with an operation on a file that has to be there. -/
def Dk.thereE (D : Dk) (names : List (List Nat)) (nm : List Nat) : Int := if D.beginE names ≠ 0 then D.beginE names else if (D.get nm).isSome then 0 else 7
theorem get_some {D : Dk} {l : List (List Nat × Nat)} {F : Nat → Fil} (h : D.files = fsOf l F) (nm : List Nat) : D.get nm = (lk l nm).map F := by unfold Dk.get; rw [h]; exact get_lk l F nm
set_option maxHeartbeats 1000000 in
theorem there_any (B g0 m : Nat) (D : Dk) (l : List (List Nat × Nat)) (F : Nat → Fil) (c1 c2 : Int) (nm : List Nat) (more : List (List Nat)) (v : Value) (Bv n : Nat) (w : World) (h : DkR w B g0 D m l F c1 c2) (own : Own w Bv 9 1 v n (Ts more)) (hsm : ∀ s ∈ nm :: more, ∀ c ∈ s, c < 256) (hl : ∀ s ∈ nm :: more, s.length ≤ 1000000000) (hn : n ≤ 100000) :
    Calls Tryz.prog 48 #[.pointer (some ⟨g0, 0, none⟩), .string (strOf nm), v] w fun e w' => e = .returned (.tuple #[if D.thereE (nm :: more) nm = 0 then lkV l nm else .pointer none, .int .i64 (D.thereE (nm :: more) nm)]) ∧ (∃ c3, DkR w' B g0 D.tick m l F c1 c3) ∧ Df B w w' := by
  have hlen : more.length = n := by have := own.row.1; rw [Ts_len] at this; omega
  obtain ⟨A, c, rfl, -⟩ := own.reads
  have df := Df.refl B w
  have dk := h
  refine Calls.start 32 Tryz.func48 rfl rfl rfl ?_
  refine Cd.seq ?_
  refine Cd.region ?_
  refine Seq.val (Runs.assign rfl rfl) rfl rfl rfl ?_
  refine Seq.val (Runs.assign rfl rfl) rfl rfl rfl ?_
  refine Seq.nil ?_
  refine Post.weak (F' := [(0, _), (1, _), (2, _), (6, _), (7, _)]) ⟨rfl, rfl, rfl, rfl, rfl, trivial⟩ ?_
  refine Post.then_ ?_
  refine Cd.seq ?_
  refine Cd.seq ?_
  refine Cd.region ?_
  refine Seq.val (Runs.move rfl rfl) rfl rfl rfl ?_
  refine Seq.val (Runs.move rfl rfl) rfl rfl rfl ?_
  refine Seq.slice (vs := [_]) (s := 1) rfl rfl rfl Tryz.underlying22 (by kernel_rfl) (zero_string) (by omega) (by omega) ⟨rfl, trivial⟩ rfl rfl rfl ?_
  intro g13 w1 n13
  replace df := df.step n13.below
  replace dk := dk.step n13.below
  replace own := own.step n13.below
  have k13 := n13.blk
  refine Seq.val (Runs.move rfl rfl) rfl rfl rfl ?_
  have own1 : Own w1 w.heap.size 9 1 (.slice (some ⟨g13, 0, none⟩) 1 1) 1 [.string (strOf nm)] := Own.of_blk k13 n13.ge rfl (by decide)
  have hrd := own.reads
  obtain ⟨A', c', hv, hrd⟩ := hrd
  injection hv with e1 _ e2
  subst e1 e2
  refine Seq.append rfl rfl rfl Tryz.underlying22 (by kernel_rfl) zero_string rfl (by decide) (b := 16) (by kernel_rfl) own1 hrd (ones_Ts _) df.size (by simp only [maxLen]; omega) (by omega) rfl rfl rfl ?_
  intro v2 w2 own2 ha
  replace own2 : Own w2 w.heap.size 9 1 v2 (1 + n) (Ts (nm :: more)) := own2
  have dk' := dk.app own1 ha
  have df' := df.app own1 ha (Nat.le_refl _)
  clear dk df own own1 k13 hrd ha
  have dk := dk'
  have df := df'
  clear dk' df'
  refine Seq.call (Enters.func rfl rfl rfl (run_enter Tryz.func42 (by kernel_rfl) rfl)) rfl rfl rfl (begin_any B g0 m D l F c1 c2 (nm :: more) v2 _ _ _ dk own2 hsm hl (by omega)) ?_
  clear dk
  rintro e w2 ⟨rfl, ⟨c3, dk⟩, fw2⟩
  refine ⟨_, rfl, ?_⟩
  replace df := df.df fw2
  refine Seq.val (Runs.assign rfl rfl) rfl rfl rfl ?_
  refine Seq.nil ?_
  refine Post.weak (F' := [(0, _), (1, _), (2, _), (6, _), (7, _), (8, _)]) ⟨rfl, rfl, rfl, rfl, rfl, rfl, trivial⟩ ?_
  refine Post.then_ ?_
  refine Cd.seq ?_
  refine Cd.region ?_
  refine Seq.val (Runs.move rfl rfl) rfl rfl rfl ?_
  refine Seq.val (Runs.neqI rfl rfl rfl) rfl rfl rfl ?_
  refine Seq.nil ?_
  refine Post.weak (F' := [(0, _), (1, _), (2, _), (6, _), (7, _), (8, _), (18, _)]) ⟨rfl, rfl, rfl, rfl, rfl, rfl, rfl, trivial⟩ ?_
  refine Post.then_ ?_
  refine Cd.cond rfl (fun h => ?_) (fun h => ?_)
  · have h : D.beginE (nm :: more) ≠ 0 := by simpa using h
    have ht : D.thereE (nm :: more) nm = D.beginE (nm :: more) := by unfold Dk.thereE; rw [if_pos h]
    refine Cd.seq ?_
    refine Cd.region ?_
    refine Seq.val (Runs.move rfl rfl) rfl rfl rfl ?_
    refine Seq.val (Runs.assign rfl rfl) rfl rfl rfl ?_
    refine Seq.val (Runs.assign rfl rfl) rfl rfl rfl ?_
    refine Seq.nil ?_
    refine Post.weak (F' := [(0, _), (1, _), (2, _), (6, _), (7, _), (8, _), (18, _)]) ⟨rfl, rfl, rfl, rfl, rfl, rfl, rfl, trivial⟩ ?_
    refine Post.then_ ?_
    refine Cd.ret ?_
    refine Post.then_ret ?_
    refine Post.end2 rfl rfl rfl (.inl rfl) ?_
    rw [ht, if_neg h]
    exact ⟨rfl, ⟨c3, dk⟩, df⟩
  have h : D.beginE (nm :: more) = 0 := by simpa using h
  have hfl := dk.fl
  rw [tick_files] at hfl
  have hget := get_some hfl nm
  have ht : D.thereE (nm :: more) nm = if (lk l nm).isSome then 0 else 7 := by unfold Dk.thereE; rw [if_neg (by omega), hget, Option.isSome_map]
  have k0 := dk.k
  refine Cd.skip ?_
  refine Post.then_ ?_
  refine Cd.seq ?_
  refine Cd.region ?_
  refine Seq.val (Runs.move rfl rfl) rfl rfl rfl ?_
  refine Seq.val (Runs.nilCheck rfl rfl) rfl rfl rfl ?_
  refine Seq.val (Runs.fieldB 1 rfl rfl Tryz.underlying77 rfl (by kernel_rfl)) rfl rfl rfl ?_
  refine Seq.val (Runs.loadB rfl rfl Tryz.underlying75 rfl k0 rfl) rfl rfl rfl ?_
  refine Seq.val (Runs.move rfl rfl) rfl rfl rfl ?_
  refine Seq.val (Runs.lookup2 rfl rfl rfl dk.mp (hsm nm (List.mem_cons_self)) Tryz.underlying75 Tryz.underlying9 zero_pfile) rfl rfl rfl ?_
  refine Seq.val (Runs.move rfl rfl) rfl rfl rfl ?_
  refine Seq.val (Runs.extract rfl rfl rfl) rfl rfl rfl ?_
  refine Seq.val (Runs.extract rfl rfl rfl) rfl rfl rfl ?_
  refine Seq.val (Runs.assign rfl rfl) rfl rfl rfl ?_
  refine Seq.val (Runs.assign rfl rfl) rfl rfl rfl ?_
  refine Seq.nil ?_
  refine Post.weak (F' := [(0, _), (1, _), (2, _), (6, _), (7, _), (8, _), (9, _), (10, _), (18, _)]) ⟨rfl, rfl, rfl, rfl, rfl, rfl, rfl, rfl, rfl, trivial⟩ ?_
  refine Post.then_ ?_
  refine Cd.seq ?_
  refine Cd.seq ?_
  refine Cd.region ?_
  refine Seq.val (Runs.move rfl rfl) rfl rfl rfl ?_
  refine Seq.val (Runs.not rfl rfl) rfl rfl rfl ?_
  refine Seq.nil ?_
  refine Post.weak (F' := [(0, _), (1, _), (2, _), (6, _), (7, _), (8, _), (9, _), (10, _), (18, _), (30, _)]) ⟨rfl, rfl, rfl, rfl, rfl, rfl, rfl, rfl, rfl, rfl, trivial⟩ ?_
  refine Post.then_ ?_
  refine Cd.cond rfl (fun h => ?_) (fun h => ?_)
  · have h : lk l nm = none := by
      cases e : lk l nm with
      | none => rfl
      | some b => exfalso; revert h; show (!(lk l nm).isSome) = true → False; rw [e]; simp
    rw [h] at ht
    have ht : D.thereE (nm :: more) nm = 7 := ht
    refine Cd.seq ?_
    refine Cd.region ?_
    refine Seq.val (Runs.assign rfl rfl) rfl rfl rfl ?_
    refine Seq.val (Runs.assign rfl rfl) rfl rfl rfl ?_
    refine Seq.nil ?_
    refine Post.weak (F' := [(0, _), (1, _), (2, _), (6, _), (7, _), (8, _), (9, _), (10, _), (18, _), (30, _)]) ⟨rfl, rfl, rfl, rfl, rfl, rfl, rfl, rfl, rfl, rfl, trivial⟩ ?_
    refine Post.then_ ?_
    refine Cd.ret ?_
    refine Post.then_ret ?_
    refine Post.end2 rfl rfl rfl (.inl rfl) ?_
    rw [ht]
    exact ⟨rfl, ⟨c3, dk⟩, df⟩
  have h : (lk l nm).isSome = true := by
    have h' : (!(lk l nm).isSome) = false := h
    simpa using h'
  rw [h, if_pos rfl] at ht
  refine Cd.skip ?_
  refine Post.then_ ?_
  refine Cd.seq ?_
  refine Cd.region ?_
  refine Seq.val (Runs.move rfl rfl) rfl rfl rfl ?_
  refine Seq.val (Runs.assign rfl rfl) rfl rfl rfl ?_
  refine Seq.val (Runs.assign rfl rfl) rfl rfl rfl ?_
  refine Seq.nil ?_
  refine Post.weak (F' := [(0, _), (1, _), (2, _), (6, _), (7, _), (8, _), (9, _), (10, _), (18, _), (30, _)]) ⟨rfl, rfl, rfl, rfl, rfl, rfl, rfl, rfl, rfl, rfl, trivial⟩ ?_
  refine Post.then_ ?_
  refine Cd.ret ?_
  refine Post.end2 rfl rfl rfl (.inl rfl) ?_
  rw [ht, if_pos rfl]
  exact ⟨rfl, ⟨c3, dk⟩, df⟩
theorem thereE_zero {D : Dk} {names : List (List Nat)} {nm : List Nat} (h : D.thereE names nm = 0) : D.beginE names = 0 ∧ ∃ f, D.get nm = some f := by
  unfold Dk.thereE at h
  split at h
  · rename_i h1; exact absurd h h1
  · rename_i h1
    split at h
    · rename_i h2
      refine ⟨by omega, ?_⟩
      exact Option.isSome_iff_exists.1 h2
    · cases h
/-- Behind Sync. -/
def Dk.sync (D : Dk) (nm : List Nat) : Dk := if D.thereE [nm] nm = 0 then (match D.get nm with | some f => D.tick.set nm { f with safe := f.data.length } | none => D.tick) else D.tick
theorem ok_tick {D : Dk} (h : D.tick.ok) {fs : List (List Nat × Fil)} (h1 : usedL fs = usedL D.tick.files) (h2 : ∀ p ∈ fs, p.2.ok ∧ (∀ c ∈ p.1, c < 256) ∧ p.1 ≠ [] ∧ p.1.length ≤ 24) (h3 : fs.length = D.tick.files.length) : ({ D.tick with files := fs } : Dk).ok :=
  ⟨h.room0, h.room1, (by have := h.fits; unfold Dk.used at this ⊢; rw [h1]; exact this), h.left0, h.left1, h2, (by rw [h3]; exact h.most)⟩
theorem sync_any (B g0 : Nat) (D : Dk) (nm : List Nat) (w : World) (h : DkAt w B g0 D) (hsm : ∀ c ∈ nm, c < 256) (hl : nm.length ≤ 1000000000) :
    Calls Tryz.prog 27 #[.pointer (some ⟨g0, 0, none⟩), .string (strOf nm)] w fun e w' => e = .returned (.int .i64 (D.thereE [nm] nm)) ∧ DkAt w' B g0 (D.sync nm) ∧ Df B w w' := by
  obtain ⟨m, l, F, c1, c2, dk⟩ := h
  have df := Df.refl B w
  refine Calls.start 24 Tryz.func27 rfl rfl rfl ?_
  refine Cd.seq ?_
  refine Cd.region ?_
  refine Seq.val (Runs.assign rfl rfl) rfl rfl rfl ?_
  refine Seq.nil ?_
  refine Post.weak (F' := [(0, _), (1, _), (4, _)]) ⟨rfl, rfl, rfl, trivial⟩ ?_
  refine Post.then_ ?_
  refine Cd.seq ?_
  refine Cd.region ?_
  refine Seq.val (Runs.move rfl rfl) rfl rfl rfl ?_
  refine Seq.val (Runs.move rfl rfl) rfl rfl rfl ?_
  refine Seq.call (Enters.func rfl rfl rfl (run_enter Tryz.func48 (by kernel_rfl) rfl)) rfl rfl rfl (there_any B g0 m D l F c1 c2 nm [] (.slice none 0 0) 0 0 _ dk (Own.nil _ _ _ _) (by simpa using hsm) (by simpa using hl) (by omega)) ?_
  clear dk
  rintro e w1 ⟨rfl, ⟨c3, dk⟩, fw1⟩
  refine ⟨_, rfl, ?_⟩
  replace df := df.df fw1
  refine Seq.val (Runs.move rfl rfl) rfl rfl rfl ?_
  refine Seq.val (Runs.extract rfl rfl rfl) rfl rfl rfl ?_
  refine Seq.val (Runs.extract rfl rfl rfl) rfl rfl rfl ?_
  refine Seq.val (Runs.assign rfl rfl) rfl rfl rfl ?_
  refine Seq.val (Runs.assign rfl rfl) rfl rfl rfl ?_
  refine Seq.nil ?_
  refine Post.weak (F' := [(0, _), (1, _), (4, _), (5, _), (6, _)]) ⟨rfl, rfl, rfl, rfl, rfl, trivial⟩ ?_
  refine Post.then_ ?_
  refine Cd.seq ?_
  refine Cd.seq ?_
  refine Cd.region ?_
  refine Seq.val (Runs.move rfl rfl) rfl rfl rfl ?_
  refine Seq.val (Runs.eqlI rfl rfl rfl) rfl rfl rfl ?_
  refine Seq.nil ?_
  refine Post.weak (F' := [(0, _), (1, _), (4, _), (5, _), (6, _), (14, _)]) ⟨rfl, rfl, rfl, rfl, rfl, rfl, trivial⟩ ?_
  refine Post.then_ ?_
  refine Cd.cond rfl (fun h => ?_) (fun h => ?_)
  · have h : D.thereE [nm] nm = 0 := by simpa using h
    obtain ⟨hb0, f, hf⟩ := thereE_zero h
    have hS : D.sync nm = D.tick.set nm { f with safe := f.data.length } := by unfold Dk.sync; rw [if_pos h, hf]
    have hfl := dk.fl
    have hfl0 := hfl
    rw [tick_files] at hfl0
    have hg := get_some hfl0 nm
    rw [hf] at hg
    obtain ⟨g5, hg5, rfl⟩ := Option.map_eq_some_iff.1 hg.symm
    rw [h, if_pos rfl]
    have hv : lkV l nm = .pointer (some ⟨g5, 0, none⟩) := by unfold lkV; rw [hg5]; rfl
    rw [hv, hS]
    have k0 := dk.k
    have mp := dk.mp
    have fx := dk.fs.off g5
    obtain ⟨e5, k5⟩ : B ≤ g5 ∧ Blk _ g5 91 (F g5).cs := dk.fs.blk _ (lk_mem hg5)
    have hne := k0.neT k5
    have hfo := (dk.ok.fil (nm, F g5) (by rw [tick_files]; exact get_mem hf)).1
    have ok0 := dk.ok
    have hm := dk.hm
    have e0 := dk.hB
    have hnd := dk.fs.nd
    clear dk
    refine Cd.region ?_
    refine Seq.val (Runs.move rfl rfl) rfl rfl rfl ?_
    refine Seq.val (Runs.move rfl rfl) rfl rfl rfl ?_
    refine Seq.val (Runs.nilCheck rfl rfl) rfl rfl rfl ?_
    refine Seq.val (Runs.fieldB 0 rfl rfl Tryz.underlying91 rfl (by kernel_rfl)) rfl rfl rfl ?_
    refine Seq.val (Runs.loadB rfl rfl Tryz.underlying9 rfl k5 rfl) rfl rfl rfl ?_
    refine Seq.val (Runs.lenS rfl rfl Tryz.underlying9) rfl rfl rfl ?_
    refine Seq.val (Runs.nilCheck rfl rfl) rfl rfl rfl ?_
    refine Seq.val (Runs.fieldB 1 rfl rfl Tryz.underlying91 rfl (by kernel_rfl)) rfl rfl rfl ?_
    refine Seq.store1 rfl rfl rfl (by kernel_rfl) rfl rfl k5 rfl rfl rfl ?_
    intro w2 pw2
    replace df := df.put k5 pw2 e5
    replace mp := mp.put k5 pw2 e5
    replace fx := fx.put k5 pw2 e5
    replace k0 := k0.put pw2 (by omega)
    replace k5 := pw2.blk
    refine Seq.nil ?_
    refine Post.weak (F' := [(0, _), (1, _), (4, _), (5, _), (6, _), (14, _)]) ⟨rfl, rfl, rfl, rfl, rfl, rfl, trivial⟩ ?_
    refine Post.then_ ?_
    refine Cd.seq ?_
    refine Cd.region ?_
    refine Seq.val (Runs.move rfl rfl) rfl rfl rfl ?_
    refine Seq.val (Runs.assign rfl rfl) rfl rfl rfl ?_
    refine Seq.nil ?_
    refine Post.weak (F' := [(0, _), (1, _), (4, _), (5, _), (6, _), (14, _)]) ⟨rfl, rfl, rfl, rfl, rfl, rfl, trivial⟩ ?_
    refine Post.then_ ?_
    refine Cd.ret ?_
    replace k5 : Blk _ g5 91 #[.string (strOf (F g5).data), .int .i64 ((strOf (F g5).data).size : Int)] := k5
    rw [strOf_size] at k5
    refine Post.end1 rfl rfl (.inl rfl) ?_
    have hnn := mp.nodup
    have hsz : ∀ p ∈ D.files, p.1 = nm → p.2.data.length = (F g5).data.length := fun p hp e => by
      rw [hfl0] at hp
      obtain ⟨q, hq, rfl⟩ := List.mem_map.1 hp
      rw [(mem_one hnn hnd (lk_mem hg5) hq).1 e]
    have hfs : (D.tick.files.map fun p => if p.1 = nm then (p.1, ({ data := (F g5).data, safe := (F g5).data.length } : Fil)) else p) = fsOf l (setF F g5 { data := (F g5).data, safe := (F g5).data.length }) := by rw [hfl]; exact fsOf_set hnn hnd hg5 _
    have hus : usedL (D.tick.files.map fun p => if p.1 = nm then (p.1, ({ data := (F g5).data, safe := (F g5).data.length } : Fil)) else p) = usedL D.tick.files := usedL_set (by rw [tick_files]; exact hsz)
    refine ⟨rfl, ⟨m, l, setF F g5 { data := (F g5).data, safe := (F g5).data.length }, c1, c3, ?_, mp, hm, fx.on k5, hfs, e0, ok_tick ok0 hus ?_ (by rw [List.length_map])⟩, df⟩
    · unfold Dk.cs at k0 ⊢
      have hu2 : (D.tick.set nm { data := (F g5).data, safe := (F g5).data.length }).used = D.tick.used := congrArg Int.ofNat hus
      rw [hu2]
      exact k0
    · intro p hp
      obtain ⟨q, hq, rfl⟩ := List.mem_map.1 hp
      have h1 := ok0.fil q hq
      by_cases e : q.1 = nm
      · rw [if_pos e]
        exact ⟨⟨hfo.1, Nat.le_refl _, hfo.2.2⟩, h1.2⟩
      · rw [if_neg e]; exact h1
  · have h : D.thereE [nm] nm ≠ 0 := by simpa using h
    have hS : D.sync nm = D.tick := by unfold Dk.sync; rw [if_neg h]
    rw [hS]
    refine Cd.skip ?_
    refine Post.then_ ?_
    refine Cd.seq ?_
    refine Cd.region ?_
    refine Seq.val (Runs.move rfl rfl) rfl rfl rfl ?_
    refine Seq.val (Runs.assign rfl rfl) rfl rfl rfl ?_
    refine Seq.nil ?_
    refine Post.weak (F' := [(0, _), (1, _), (4, _), (5, _), (6, _), (14, _)]) ⟨rfl, rfl, rfl, rfl, rfl, rfl, trivial⟩ ?_
    refine Post.then_ ?_
    refine Cd.ret ?_
    refine Post.end1 rfl rfl (.inl rfl) ?_
    exact ⟨rfl, ⟨m, l, F, c1, c3, dk⟩, df⟩
end Go.Proofs.YtnlepoplncjliaaGreatDoor
