/-
  disk.Disk: drop, Delete, Rename. Condition: names within reach.
-/
import Derived.Test.YtnlepoplncjliaaGreatDoorWaG
namespace Go.Proofs.YtnlepoplncjliaaGreatDoor
open Go.RowKit

section
variable {P : Program} {ops : Array Oper} {Q : Exit → Act → World → Prop} {rest : List Oper} {E : Operand → Option Value} {F : List (Nat × Value)} {o : Oper} {w : World} {x y z : Operand} {t k e m n d : Nat} {l : List (List Nat × Nat)} {nm : List Nat}
theorem Seq.mapDel0 (ho : o.op = .call { callee := .builtin .delete, args := #[x, y], argTypes := #[t, k] }) (hx : evF F x = some (.map (some m))) (hy : evF F y = some (.string (strOf nm))) (h : Mp w m l) (hn : ∀ c ∈ nm, c < 256) (ht : P.underlying t = some (.map k e)) (hk : P.underlying k = some .string)
    (hg : o.guard = none) (hd : o.dst = none) (hr : ∀ w', PutM w w' m (del l nm) → Seq P ops Q rest n F w') : Seq P ops Q (o :: rest) n F w := by
  obtain ⟨w', h1, h2⟩ := Mp.delete (ty := o.type) h ht hk hn
  refine Seq.val0 (v := .tuple #[]) (w' := w') (fun ρ hρ => ?_) hg hd (hr w' h2)
  unfold execOp
  simp only [ho, resolve, invoke, builtin, Sem.run_bind, Sem.run_pure, Result.andThen_ok, List.map_toArray, List.map_cons, List.map_nil, hρ _ _ hx, hρ _ _ hy, h1]
end
theorem fsOf_del (l : List (List Nat × Nat)) (F : Nat → Fil) (nm : List Nat) : fsOf (del l nm) F = (fsOf l F).filter (fun p => decide (p.1 ≠ nm)) := by
  unfold fsOf del
  rw [List.filter_map]
  rfl
theorem usedL_del {fs : List (List Nat × Fil)} {nm : List Nat} (hn : (fs.map (·.1)).Nodup) : usedL (fs.filter fun p => decide (p.1 ≠ nm)) + (getL fs nm).data.length = usedL fs := by
  induction fs with
  | nil => rfl
  | cons p r ih =>
    rw [List.map_cons, List.nodup_cons] at hn
    by_cases e : p.1 = nm
    · have hs : r.filter (fun p => decide (p.1 ≠ nm)) = r := by
        rw [List.filter_eq_self]
        intro q hq
        rw [decide_eq_true_eq]
        intro e2
        exact hn.1 (by rw [e, ← e2]; exact List.mem_map.2 ⟨q, hq, rfl⟩)
      have hg : getL (p :: r) nm = p.2 := by
        unfold getL
        rw [List.find?_cons_of_pos (by simpa using e)]
        rfl
      rw [List.filter_cons_of_neg (by simp [e]), hs, usedL, hg]
      omega
    · have hg : getL (p :: r) nm = getL r nm := by
        unfold getL
        rw [List.find?_cons_of_neg (by simpa using e)]
      rw [List.filter_cons_of_pos (by simpa using e), usedL, usedL, hg]
      have := ih hn.2
      omega
theorem Fs.del {w : World} {B : Nat} {l : List (List Nat × Nat)} {F : Nat → Fil} (h : Fs w B l F) (nm : List Nat) : Fs w B (del l nm) F :=
  ⟨fun p hp => h.blk p (List.mem_filter.1 hp).1, h.nd.sublist (List.Sublist.map _ (List.filter_sublist))⟩
theorem Fs.putM {w w' : World} {B m : Nat} {l l' : List (List Nat × Nat)} {F : Nat → Fil} (h : Fs w B l F) (p : PutM w w' m l') : Fs w' B l F := ⟨fun q hq => ⟨(h.blk q hq).1, (h.blk q hq).2.putM p⟩, h.nd⟩
/-- Without a file. -/
def Dk.wipe (D : Dk) (nm : List Nat) : Dk := { D with files := D.files.filter fun p => decide (p.1 ≠ nm) }
theorem wipe_used {D : Dk} {nm : List Nat} (hn : (D.files.map (·.1)).Nodup) : (D.wipe nm).used + ((D.fileOf nm).data.length : Int) = D.used := by
  have := usedL_del (nm := nm) hn
  show (usedL (D.files.filter fun p => decide (p.1 ≠ nm)) : Int) + ((getL D.files nm).data.length : Int) = (usedL D.files : Int)
  omega
theorem wipe_ok {D : Dk} {nm : List Nat} (h : D.ok) (hn : (D.files.map (·.1)).Nodup) : (D.wipe nm).ok := by
  have hu := wipe_used (nm := nm) hn
  refine ⟨h.room0, h.room1, ?_, h.left0, h.left1, fun p hp => h.fil p (List.mem_filter.1 hp).1, Nat.le_trans (List.length_filter_le _ _) h.most⟩
  have := h.fits
  show (D.wipe nm).used ≤ D.room
  omega
theorem wipe_none {D : Dk} {nm : List Nat} (h : D.get nm = none) : D.wipe nm = D := by
  unfold Dk.wipe
  have : (D.files.filter fun p => decide (p.1 ≠ nm)) = D.files := by
    rw [List.filter_eq_self]
    intro p hp
    rw [decide_eq_true_eq]
    intro e
    unfold Dk.get at h
    rw [Option.map_eq_none_iff, List.find?_eq_none] at h
    exact h p hp (by simpa using e)
  rw [this]
theorem drop_d_any (B g0 m : Nat) (D : Dk) (l : List (List Nat × Nat)) (F : Nat → Fil) (c1 c2 : Int) (nm : List Nat) (w : World) (h : DkR w B g0 D m l F c1 c2) (hsm : ∀ c ∈ nm, c < 256) :
    Calls Tryz.prog 93 #[.pointer (some ⟨g0, 0, none⟩), .string (strOf nm)] w fun e w' => e = .returned (.tuple #[]) ∧ DkR w' B g0 (D.wipe nm) m (del l nm) F c1 c2 ∧ Df B w w' := by
  obtain ⟨k0, mp, hm, fs, fl0, e0, ok0⟩ := h
  have df := Df.refl B w
  have hBw : B ≤ w.heap.size := Nat.le_trans e0 (Nat.le_of_lt k0.lt)
  have hg := get_some fl0 nm
  have hnn := mp.nodup
  have hnd : (D.files.map (·.1)).Nodup := by rw [fl0, fs_names]; exact hnn
  refine Calls.start 33 Tryz.func93 rfl rfl rfl ?_
  refine Cd.seq ?_
  refine Cd.region ?_
  refine Seq.val (Runs.move rfl rfl) rfl rfl rfl ?_
  refine Seq.val (Runs.nilCheck rfl rfl) rfl rfl rfl ?_
  refine Seq.val (Runs.fieldB 1 rfl rfl Tryz.underlying77 rfl (by kernel_rfl)) rfl rfl rfl ?_
  refine Seq.val (Runs.loadB rfl rfl Tryz.underlying75 rfl k0 rfl) rfl rfl rfl ?_
  refine Seq.val (Runs.move rfl rfl) rfl rfl rfl ?_
  refine Seq.val (Runs.lookup2 rfl rfl rfl mp hsm Tryz.underlying75 Tryz.underlying9 zero_pfile) rfl rfl rfl ?_
  refine Seq.val (Runs.move rfl rfl) rfl rfl rfl ?_
  refine Seq.val (Runs.extract rfl rfl rfl) rfl rfl rfl ?_
  refine Seq.val (Runs.extract rfl rfl rfl) rfl rfl rfl ?_
  refine Seq.val (Runs.assign rfl rfl) rfl rfl rfl ?_
  refine Seq.val (Runs.assign rfl rfl) rfl rfl rfl ?_
  refine Seq.nil ?_
  refine Post.weak (F' := [(0, _), (1, _), (4, _), (5, _)]) ⟨rfl, rfl, rfl, rfl, trivial⟩ ?_
  refine Post.then_ ?_
  refine Cd.seq ?_
  refine Cd.region ?_
  refine Seq.val (Runs.move rfl rfl) rfl rfl rfl ?_
  refine Seq.nil ?_
  refine Post.weak (F' := [(0, _), (1, _), (4, _), (5, _), (15, _)]) ⟨rfl, rfl, rfl, rfl, rfl, trivial⟩ ?_
  refine Post.then_ ?_
  refine Cd.cond rfl (fun h => ?_) (fun h => ?_)
  · have h : (lk l nm).isSome = true := h
    obtain ⟨g4, hg4⟩ := Option.isSome_iff_exists.1 h
    have hv : lkV l nm = .pointer (some ⟨g4, 0, none⟩) := by unfold lkV; rw [hg4]; rfl
    obtain ⟨e4, k4⟩ : B ≤ g4 ∧ Blk _ g4 91 (F g4).cs := fs.blk _ (lk_mem hg4)
    have hne04 := k0.neT k4
    have hgg : D.get nm = some (F g4) := by rw [hg, hg4]; rfl
    have hfo : D.fileOf nm = F g4 := by rw [fileOf_eq, hgg]; rfl
    have hu := wipe_used (nm := nm) hnd
    rw [hfo] at hu
    have hfo1 : (F g4).data.length ≤ 1048576 := (ok0.fil _ (get_mem hgg)).1.2.2
    have hwok := wipe_ok (nm := nm) ok0 hnd
    obtain ⟨us, hus⟩ : ∃ us, us = D.used := ⟨_, rfl⟩
    have hu0 : 0 ≤ us := by rw [hus]; exact Int.natCast_nonneg _
    have hu1 : us ≤ 16777216 := by rw [hus]; have := ok0.fits; have := ok0.room1; omega
    replace k0 : Blk w g0 77 #[.int .i64 D.room, .map (some m), .int .i64 us, .int .i64 c1, .int .i64 c2, .bool D.off, .bool D.armed, .int .i64 D.left] := by rw [hus]; exact k0
    rw [hv]
    refine Cd.seq ?_
    refine Cd.draw 12 (by kernel_rfl) [] (.inl rfl) rfl Grow Grow.refl (fun _ _ _ => Grow.trans) ?_
    intro w1 hw1 zw1
    replace df := df.step hw1
    replace k0 := k0.step hw1
    replace mp := mp.step hw1
    replace fs := fs.step hw1
    replace k4 := k4.step hw1
    have zlt := k4.lt
    refine Dr.val Grow.refl rfl (fun w hG => Runs.move rfl rfl) rfl ?_
    refine Dr.val Grow.refl rfl (fun w hG => Runs.nilCheck rfl rfl) rfl ?_
    refine Dr.val Grow.refl rfl (fun w hG => Runs.fieldB 2 rfl rfl Tryz.underlying77 rfl (by kernel_rfl)) rfl ?_
    refine Dr.val Grow.refl rfl (fun w hG => Runs.loadB rfl rfl Tryz.underlying3 rfl (k0.step hG) rfl) rfl ?_
    refine Dr.val Grow.refl rfl (fun w hG => Runs.move rfl rfl) rfl ?_
    refine Dr.val Grow.refl rfl (fun w hG => Runs.nilCheck rfl rfl) rfl ?_
    refine Dr.val Grow.refl rfl (fun w hG => Runs.fieldB 0 rfl rfl Tryz.underlying91 rfl (by kernel_rfl)) rfl ?_
    refine Dr.val Grow.refl rfl (fun w hG => Runs.loadB rfl rfl Tryz.underlying9 rfl (k4.step hG) rfl) rfl ?_
    refine Dr.val Grow.refl rfl (fun w hG => Runs.lenL rfl rfl Tryz.underlying9) rfl ?_
    refine Dr.val Grow.refl rfl (fun w hG => Runs.subI rfl rfl rfl (by omega) (by omega)) rfl ?_
    refine Dr.val Grow.refl rfl (fun w hG => Runs.nilCheck rfl rfl) rfl ?_
    refine Dr.val Grow.refl rfl (fun w hG => Runs.fieldB 2 rfl rfl Tryz.underlying77 rfl (by kernel_rfl)) rfl ?_
    refine Dr.nil ?_
    refine FinX.done (F' := [(0, _), (1, _), (4, _), (5, _), (15, _), (25, _), (27, _)]) rfl ⟨rfl, rfl, rfl, rfl, rfl, rfl, rfl, trivial⟩ ?_
    intro w2 hw2 fw2
    replace df := df.step hw2
    replace k0 := k0.step hw2
    replace mp := mp.step hw2
    replace fs := fs.step hw2
    replace k4 := k4.step hw2
    refine Seq.store1 rfl rfl rfl (by kernel_rfl) rfl rfl k0 rfl rfl rfl ?_
    intro w3 pw3
    replace df := df.put k0 pw3 e0
    replace mp := mp.put k0 pw3 e0
    replace fs := fs.put k0 pw3 e0
    replace k4 := k4.put pw3 (by omega)
    replace k0 := pw3.blk
    refine Seq.nil ?_
    refine Post.weak (F' := [(0, _), (1, _), (4, _), (5, _), (15, _)]) ⟨rfl, rfl, rfl, rfl, rfl, trivial⟩ ?_
    refine Post.then_ ?_
    refine Cd.region ?_
    refine Seq.val (Runs.move rfl rfl) rfl rfl rfl ?_
    refine Seq.val (Runs.nilCheck rfl rfl) rfl rfl rfl ?_
    refine Seq.val (Runs.fieldB 1 rfl rfl Tryz.underlying77 rfl (by kernel_rfl)) rfl rfl rfl ?_
    refine Seq.val (Runs.loadB rfl rfl Tryz.underlying75 rfl k0 rfl) rfl rfl rfl ?_
    refine Seq.val (Runs.move rfl rfl) rfl rfl rfl ?_
    refine Seq.mapDel0 rfl rfl rfl mp hsm Tryz.underlying75 Tryz.underlying9 rfl rfl ?_
    intro wm pm
    replace df := df.putM hm pm
    replace k0 := k0.putM pm
    replace fs := (fs.putM pm).del nm
    replace mp := pm.mp
    clear pm k4
    refine Seq.nil ?_
    refine Post.weak (F' := [(0, _), (1, _), (4, _), (5, _), (15, _)]) ⟨rfl, rfl, rfl, rfl, rfl, trivial⟩ ?_
    refine Post.end0 rfl (.inr rfl) ?_
    refine ⟨rfl, ⟨?_, mp, hm, fs, ?_, e0, hwok⟩, df⟩
    · have hu2 : (D.wipe nm).used = us - ((F g4).data.length : Int) := by omega
      unfold Dk.cs
      rw [hu2]
      exact k0
    · rw [fsOf_del, ← fl0]; rfl
  · have h : lk l nm = none := by
      have h' : (lk l nm).isSome = false := h
      simpa using h'
    have hn0 : D.get nm = none := by rw [hg, h]; rfl
    have hdel : del l nm = l := by
      unfold del
      rw [List.filter_eq_self]
      intro p hp
      simpa using lk_none_of h p hp
    rw [wipe_none hn0, hdel]
    refine Cd.skip ?_
    refine Post.end0 rfl (.inr rfl) ?_
    exact ⟨rfl, ⟨k0, mp, hm, fs, fl0, e0, ok0⟩, df⟩
/-- Without a file, where it may be. -/
def Dk.delete (D : Dk) (nm : List Nat) : Dk := if D.thereE [nm] nm = 0 then D.tick.wipe nm else D.tick
/-- A file by another name. -/
def Dk.rename (D : Dk) (a b : List Nat) : Dk := if D.thereE [a, b] a ≠ 0 ∨ a = b then D.tick else match D.get a with | some f => { (D.tick.wipe b).wipe a with files := ((D.tick.wipe b).wipe a).files ++ [(b, f)] } | none => D.tick
theorem delete_d_any (B g0 : Nat) (D : Dk) (nm : List Nat) (w : World) (h : DkAt w B g0 D) (hsm : ∀ c ∈ nm, c < 256) (hl : nm.length ≤ 1000000000) :
    Calls Tryz.prog 71 #[.pointer (some ⟨g0, 0, none⟩), .string (strOf nm)] w fun e w' => e = .returned (.int .i64 (D.thereE [nm] nm)) ∧ DkAt w' B g0 (D.delete nm) ∧ Df B w w' := by
  obtain ⟨m, l, F, c1, c2, dk⟩ := h
  have df := Df.refl B w
  refine Calls.start 19 Tryz.func71 rfl rfl rfl ?_
  refine Cd.seq ?_
  refine Cd.region ?_
  refine Seq.val (Runs.assign rfl rfl) rfl rfl rfl ?_
  refine Seq.nil ?_
  refine Post.weak (F' := [(0, _), (1, _), (4, _)]) ⟨rfl, rfl, rfl, trivial⟩ ?_
  refine Post.then_ ?_
  refine Cd.seq ?_
  refine Cd.region ?_
  refine Seq.val (Runs.move rfl rfl) rfl rfl rfl ?_
  refine Seq.val (Runs.move rfl rfl) rfl rfl rfl ?_
  refine Seq.call (Enters.func rfl rfl rfl (run_enter Tryz.func48 (by kernel_rfl) rfl)) rfl rfl rfl (there_any B g0 m D l F c1 c2 nm [] (.slice none 0 0) 0 0 _ dk (Own.nil _ _ _ _) (by simpa using hsm) (by simpa using hl) (by omega)) ?_
  clear dk
  rintro e w1 ⟨rfl, ⟨c3, dk⟩, fw1⟩
  refine ⟨_, rfl, ?_⟩
  replace df := df.df fw1
  refine Seq.val (Runs.move rfl rfl) rfl rfl rfl ?_
  refine Seq.val (Runs.extract rfl rfl rfl) rfl rfl rfl ?_
  refine Seq.val (Runs.extract rfl rfl rfl) rfl rfl rfl ?_
  refine Seq.val (Runs.assign rfl rfl) rfl rfl rfl ?_
  refine Seq.val (Runs.assign rfl rfl) rfl rfl rfl ?_
  refine Seq.nil ?_
  refine Post.weak (F' := [(0, _), (1, _), (4, _), (6, _)]) ⟨rfl, rfl, rfl, rfl, trivial⟩ ?_
  refine Post.then_ ?_
  refine Cd.seq ?_
  refine Cd.seq ?_
  refine Cd.region ?_
  refine Seq.val (Runs.move rfl rfl) rfl rfl rfl ?_
  refine Seq.val (Runs.eqlI rfl rfl rfl) rfl rfl rfl ?_
  refine Seq.nil ?_
  refine Post.weak (F' := [(0, _), (1, _), (4, _), (6, _), (14, _)]) ⟨rfl, rfl, rfl, rfl, rfl, trivial⟩ ?_
  refine Post.then_ ?_
  refine Cd.cond rfl (fun h => ?_) (fun h => ?_)
  · have h : D.thereE [nm] nm = 0 := by simpa using h
    have hS : D.delete nm = D.tick.wipe nm := by unfold Dk.delete; rw [if_pos h]
    rw [hS]
    refine Cd.region ?_
    refine Seq.val (Runs.move rfl rfl) rfl rfl rfl ?_
    refine Seq.val (Runs.move rfl rfl) rfl rfl rfl ?_
    refine Seq.call (Enters.func rfl rfl rfl (run_enter Tryz.func93 (by kernel_rfl) rfl)) rfl rfl rfl (drop_d_any B g0 m D.tick l F c1 c3 nm _ dk hsm) ?_
    clear dk
    rintro e w2 ⟨rfl, dk, fw2⟩
    refine ⟨_, rfl, ?_⟩
    replace df := df.df fw2
    refine Seq.nil ?_
    refine Post.weak (F' := [(0, _), (1, _), (4, _), (6, _), (14, _)]) ⟨rfl, rfl, rfl, rfl, rfl, trivial⟩ ?_
    refine Post.then_ ?_
    refine Cd.seq ?_
    refine Cd.region ?_
    refine Seq.val (Runs.move rfl rfl) rfl rfl rfl ?_
    refine Seq.val (Runs.assign rfl rfl) rfl rfl rfl ?_
    refine Seq.nil ?_
    refine Post.weak (F' := [(0, _), (1, _), (4, _), (6, _), (14, _)]) ⟨rfl, rfl, rfl, rfl, rfl, trivial⟩ ?_
    refine Post.then_ ?_
    refine Cd.ret ?_
    refine Post.end1 rfl rfl (.inl rfl) ?_
    exact ⟨rfl, ⟨m, _, F, c1, c3, dk⟩, df⟩
  · have h : D.thereE [nm] nm ≠ 0 := by simpa using h
    have hS : D.delete nm = D.tick := by unfold Dk.delete; rw [if_neg h]
    rw [hS]
    refine Cd.skip ?_
    refine Post.then_ ?_
    refine Cd.seq ?_
    refine Cd.region ?_
    refine Seq.val (Runs.move rfl rfl) rfl rfl rfl ?_
    refine Seq.val (Runs.assign rfl rfl) rfl rfl rfl ?_
    refine Seq.nil ?_
    refine Post.weak (F' := [(0, _), (1, _), (4, _), (6, _), (14, _)]) ⟨rfl, rfl, rfl, rfl, rfl, trivial⟩ ?_
    refine Post.then_ ?_
    refine Cd.ret ?_
    refine Post.end1 rfl rfl (.inl rfl) ?_
    exact ⟨rfl, ⟨m, l, F, c1, c3, dk⟩, df⟩
theorem rename_ok {D : Dk} {a b : List Nat} {f : Fil} (h : D.ok) (hn : (D.files.map (·.1)).Nodup) (hf : D.get a = some f) (hne : a ≠ b) (hb : ∀ c ∈ b, c < 256) (hb1 : nameOk b = true) : ({ (D.wipe b).wipe a with files := ((D.wipe b).wipe a).files ++ [(b, f)] } : Dk).ok ∧ ({ (D.wipe b).wipe a with files := ((D.wipe b).wipe a).files ++ [(b, f)] } : Dk).used = (D.wipe b).used := by
  have h1 := wipe_ok (nm := b) h hn
  have hn1 : ((D.wipe b).files.map (·.1)).Nodup := hn.sublist (List.Sublist.map _ List.filter_sublist)
  have h2 := wipe_ok (nm := a) h1 hn1
  have hu := wipe_used (nm := a) hn1
  have hg : getL (D.wipe b).files a = f := by
    unfold getL Dk.wipe
    have : (D.files.filter fun p => decide (p.1 ≠ b)).find? (fun p => decide (p.1 = a)) = D.files.find? (fun p => decide (p.1 = a)) := by
      rw [List.find?_filter]
      congr 1
      funext p
      by_cases e : p.1 = a
      · simp [e, hne]
      · simp [e]
    show (((D.files.filter fun p => decide (p.1 ≠ b)).find? (fun p => decide (p.1 = a))).map fun (p : List Nat × Fil) => p.2).getD ⟨[], 0⟩ = f
    rw [this]
    unfold Dk.get at hf
    rw [hf]
    rfl
  have hu2 : ({ (D.wipe b).wipe a with files := ((D.wipe b).wipe a).files ++ [(b, f)] } : Dk).used = (D.wipe b).used := by
    show ((usedL (((D.wipe b).wipe a).files ++ [(b, f)]) : Nat) : Int) = _
    rw [usedL_app]
    have e : (D.wipe b).fileOf a = f := hg
    rw [e] at hu
    have e2 : usedL [(b, f)] = f.data.length := by simp [usedL]
    rw [e2]
    have e3 : ((usedL ((D.wipe b).wipe a).files : Nat) : Int) = ((D.wipe b).wipe a).used := rfl
    omega
  refine ⟨⟨h.room0, h.room1, ?_, h.left0, h.left1, ?_, ?_⟩, hu2⟩
  · rw [hu2]; exact h1.fits
  · intro p hp
    rcases List.mem_append.1 hp with hp | hp
    · exact h2.fil p hp
    · simp at hp
      subst hp
      unfold nameOk at hb1
      rw [Bool.and_eq_true, decide_eq_true_eq, decide_eq_true_eq] at hb1
      exact ⟨(h.fil _ (get_mem hf)).1, hb, hb1.1, hb1.2⟩
  · have h3 : (a, f) ∈ (D.wipe b).files := by
      unfold Dk.wipe
      rw [List.mem_filter]
      exact ⟨get_mem hf, by simpa using hne⟩
    have h4 : ((D.wipe b).wipe a).files.length < (D.wipe b).files.length := by
      show ((D.wipe b).files.filter _).length < _
      rw [List.length_filter_lt_length_iff_exists]
      exact ⟨(a, f), h3, by simp⟩
    have h5 := h1.most
    show (((D.wipe b).wipe a).files ++ [(b, f)]).length ≤ 200
    rw [List.length_append, List.length_singleton]
    omega
set_option maxHeartbeats 2000000 in
theorem rename_d_any (B g0 : Nat) (D : Dk) (a b : List Nat) (w : World) (h : DkAt w B g0 D) (ha : ∀ c ∈ a, c < 256) (hb : ∀ c ∈ b, c < 256) (hal : a.length ≤ 1000000000) (hbl : b.length ≤ 1000000000) :
    Calls Tryz.prog 87 #[.pointer (some ⟨g0, 0, none⟩), .string (strOf a), .string (strOf b)] w fun e w' => e = .returned (.int .i64 (D.thereE [a, b] a)) ∧ DkAt w' B g0 (D.rename a b) ∧ Df B w w' := by
  obtain ⟨m, l, F, c1, c2, dk⟩ := h
  have df := Df.refl B w
  have hm := dk.hm
  refine Calls.start 39 Tryz.func87 rfl rfl rfl ?_
  refine Cd.seq ?_
  refine Cd.region ?_
  refine Seq.val (Runs.assign rfl rfl) rfl rfl rfl ?_
  refine Seq.nil ?_
  refine Post.weak (F' := [(0, _), (1, _), (2, _), (6, _)]) ⟨rfl, rfl, rfl, rfl, trivial⟩ ?_
  refine Post.then_ ?_
  refine Cd.seq ?_
  refine Cd.region ?_
  refine Seq.val (Runs.move rfl rfl) rfl rfl rfl ?_
  refine Seq.val (Runs.move rfl rfl) rfl rfl rfl ?_
  refine Seq.val (Runs.move rfl rfl) rfl rfl rfl ?_
  refine Seq.slice (vs := [_]) (s := 1) rfl rfl rfl Tryz.underlying22 (by kernel_rfl) (zero_string) (by omega) (by omega) ⟨rfl, trivial⟩ rfl rfl rfl ?_
  intro g13 w1 n13
  replace df := df.step n13.below
  replace dk := dk.step n13.below
  have k13 := n13.blk
  have own : Own w1 w.heap.size 9 1 (.slice (some ⟨g13, 0, none⟩) 1 1) 1 (Ts [b]) := Own.of_blk k13 n13.ge rfl (by decide)
  refine Seq.call (Enters.func rfl rfl rfl (run_enter Tryz.func48 (by kernel_rfl) rfl)) rfl rfl rfl (there_any B g0 m D l F c1 c2 a [b] (.slice (some ⟨g13, 0, none⟩) 1 1) _ _ _ dk own (by simpa using ⟨ha, hb⟩) (by simpa using ⟨hal, hbl⟩) (by omega)) ?_
  clear dk
  rintro e w2 ⟨rfl, ⟨c3, dk⟩, fw2⟩
  refine ⟨_, rfl, ?_⟩
  replace df := df.df fw2
  refine Seq.val (Runs.move rfl rfl) rfl rfl rfl ?_
  refine Seq.val (Runs.extract rfl rfl rfl) rfl rfl rfl ?_
  refine Seq.val (Runs.extract rfl rfl rfl) rfl rfl rfl ?_
  refine Seq.val (Runs.assign rfl rfl) rfl rfl rfl ?_
  refine Seq.val (Runs.assign rfl rfl) rfl rfl rfl ?_
  refine Seq.nil ?_
  refine Post.weak (F' := [(0, _), (1, _), (2, _), (6, _), (7, _), (8, _)]) ⟨rfl, rfl, rfl, rfl, rfl, rfl, trivial⟩ ?_
  refine Post.then_ ?_
  refine Cd.seq ?_
  refine Cd.seq ?_
  refine Cd.region ?_
  refine Seq.val (Runs.move rfl rfl) rfl rfl rfl ?_
  refine Seq.val (Runs.neqI rfl rfl rfl) rfl rfl rfl ?_
  refine Seq.val (Runs.move rfl rfl) rfl rfl rfl ?_
  refine SeqC.start ?_
  refine SeqC.open rfl rfl rfl rfl rfl rfl rfl (fun hcx => Runs.move rfl rfl) ?_
  refine SeqC.next rfl rfl rfl rfl rfl rfl rfl (fun hcx => Runs.move rfl rfl) ?_
  refine SeqC.next rfl rfl rfl rfl rfl rfl rfl (fun hcx => Runs.eqlL rfl rfl rfl ha hb) ?_
  refine SeqC.or rfl rfl rfl rfl rfl rfl rfl ?_
  refine Seq.nil ?_
  refine Post.weak (F' := [(0, _), (1, _), (2, _), (6, _), (7, _), (8, _), (23, _)]) ⟨rfl, rfl, rfl, rfl, rfl, rfl, rfl, trivial⟩ ?_
  refine Post.then_ ?_
  refine Cd.cond rfl (fun h => ?_) (fun h => ?_)
  · have h : D.thereE [a, b] a ≠ 0 ∨ a = b := by simpa using h
    have hR : D.rename a b = D.tick := by unfold Dk.rename; rw [if_pos h]
    rw [hR]
    refine Cd.seq ?_
    refine Cd.region ?_
    refine Seq.val (Runs.move rfl rfl) rfl rfl rfl ?_
    refine Seq.val (Runs.assign rfl rfl) rfl rfl rfl ?_
    refine Seq.nil ?_
    refine Post.weak (F' := [(0, _), (1, _), (2, _), (6, _), (7, _), (8, _), (23, _)]) ⟨rfl, rfl, rfl, rfl, rfl, rfl, rfl, trivial⟩ ?_
    refine Post.then_ ?_
    refine Cd.ret ?_
    refine Post.then_ret ?_
    refine Post.end1 rfl rfl (.inl rfl) ?_
    exact ⟨rfl, ⟨m, l, F, c1, c3, dk⟩, df⟩
  have h : D.thereE [a, b] a = 0 ∧ a ≠ b := by simpa using h
  obtain ⟨h0, hab⟩ := h
  obtain ⟨hb0, f, hf⟩ := thereE_zero h0
  have hbok := (beginE_zero hb0).2 b (by simp)
  have hft : D.tick.get a = some f := by
    have : D.tick.get a = D.get a := by unfold Dk.get; rw [tick_files]
    rw [this, hf]
  have hR : D.rename a b = { (D.tick.wipe b).wipe a with files := ((D.tick.wipe b).wipe a).files ++ [(b, f)] } := by
    unfold Dk.rename
    rw [if_neg (by rintro (h | h); exact h h0; exact hab h), hf]
  have hg := get_some dk.fl a
  rw [hft] at hg
  obtain ⟨g7, hg7, hF7⟩ := Option.map_eq_some_iff.1 hg.symm
  rw [h0, if_pos rfl]
  have hv : lkV l a = .pointer (some ⟨g7, 0, none⟩) := by unfold lkV; rw [hg7]; rfl
  have hblk7 := dk.fs.blk _ (lk_mem hg7)
  have hB7 : B ≤ g7 := hblk7.1
  have hnn := dk.mp.nodup
  have hndb := dk.fs.nd
  have okt := dk.ok
  have hndt : (D.tick.files.map (·.1)).Nodup := by rw [dk.fl, fs_names]; exact hnn
  have hrok := rename_ok okt hndt hft hab hb hbok
  rw [hv, hR]
  refine Cd.skip ?_
  refine Post.then_ ?_
  refine Cd.seq ?_
  refine Cd.region ?_
  refine Seq.val (Runs.move rfl rfl) rfl rfl rfl ?_
  refine Seq.val (Runs.move rfl rfl) rfl rfl rfl ?_
  refine Seq.call (Enters.func rfl rfl rfl (run_enter Tryz.func93 (by kernel_rfl) rfl)) rfl rfl rfl (drop_d_any B g0 m D.tick l F c1 c3 b _ dk hb) ?_
  clear dk
  rintro e w3 ⟨rfl, dk, fw3⟩
  refine ⟨_, rfl, ?_⟩
  replace df := df.df fw3
  have k0 := dk.k
  have mp := dk.mp
  have fs := dk.fs
  have fl := dk.fl
  have e0 := dk.hB
  clear dk
  obtain ⟨-, k7⟩ := fs.blk (a, g7) (by unfold del; rw [List.mem_filter]; exact ⟨lk_mem hg7, by simpa using hab⟩)
  rw [show F (a, g7).2 = f from hF7] at k7
  refine Seq.nil ?_
  refine Post.weak (F' := [(0, _), (1, _), (2, _), (6, _), (7, _), (8, _), (23, _)]) ⟨rfl, rfl, rfl, rfl, rfl, rfl, rfl, trivial⟩ ?_
  refine Post.then_ ?_
  refine Cd.seq ?_
  refine Cd.region ?_
  refine Seq.val (Runs.move rfl rfl) rfl rfl rfl ?_
  refine Seq.val (Runs.nilCheck rfl rfl) rfl rfl rfl ?_
  refine Seq.val (Runs.fieldB 1 rfl rfl Tryz.underlying77 rfl (by kernel_rfl)) rfl rfl rfl ?_
  refine Seq.val (Runs.loadB rfl rfl Tryz.underlying75 rfl k0 rfl) rfl rfl rfl ?_
  refine Seq.val (Runs.move rfl rfl) rfl rfl rfl ?_
  refine Seq.mapDel0 rfl rfl rfl mp ha Tryz.underlying75 Tryz.underlying9 rfl rfl ?_
  intro wm pm
  replace df := df.putM hm pm
  replace k0 := k0.putM pm
  replace fs := (fs.putM pm).del a
  replace k7 := k7.putM pm
  replace mp := pm.mp
  clear pm
  refine Seq.nil ?_
  refine Post.weak (F' := [(0, _), (1, _), (2, _), (6, _), (7, _), (8, _), (23, _)]) ⟨rfl, rfl, rfl, rfl, rfl, rfl, rfl, trivial⟩ ?_
  refine Post.then_ ?_
  refine Cd.seq ?_
  refine Cd.region ?_
  refine Seq.val (Runs.move rfl rfl) rfl rfl rfl ?_
  refine Seq.val (Runs.nilCheck rfl rfl) rfl rfl rfl ?_
  refine Seq.val (Runs.fieldB 1 rfl rfl Tryz.underlying77 rfl (by kernel_rfl)) rfl rfl rfl ?_
  refine Seq.val (Runs.loadB rfl rfl Tryz.underlying75 rfl k0 rfl) rfl rfl rfl ?_
  refine Seq.val (Runs.move rfl rfl) rfl rfl rfl ?_
  refine Seq.val (Runs.move rfl rfl) rfl rfl rfl ?_
  refine Seq.mapUpd (b := g7) rfl rfl rfl rfl mp hb Tryz.underlying75 Tryz.underlying9 rfl rfl ?_
  intro wn pn
  replace df := df.putM hm pn
  replace k0 := k0.putM pn
  have fx := (fs.off g7).putM pn
  have hlk : lk (del (del l b) a) b = none := lk_none fun p hp => by
    have h1 := (List.mem_filter.1 hp).1
    have h2 := (List.mem_filter.1 h1).2
    simpa using h2
  have hno7 : ∀ p ∈ del (del l b) a, p.2 ≠ g7 := fun p hp e => by
    have h1 := (List.mem_filter.1 hp).2
    have h2 := (List.mem_filter.1 (List.mem_filter.1 hp).1).1
    have h3 := (mem_one hnn hndb (lk_mem hg7) h2).2 e
    simp [h3] at h1
  have hnn2 : ((del (del l b) a).map (·.1)).Nodup := (hnn.sublist (List.Sublist.map _ List.filter_sublist)).sublist (List.Sublist.map _ List.filter_sublist)
  replace k7 := k7.putM pn
  have fs2 : Fs wn B (upd (del (del l b) a) b g7) (setF F g7 f) := put_blk hnn2 fx hB7 k7 (.inr ⟨hlk, hno7⟩)
  replace mp := pn.mp
  clear pn fs
  refine Seq.nil ?_
  refine Post.weak (F' := [(0, _), (1, _), (2, _), (6, _), (7, _), (8, _), (23, _)]) ⟨rfl, rfl, rfl, rfl, rfl, rfl, rfl, trivial⟩ ?_
  refine Post.then_ ?_
  refine Cd.seq ?_
  refine Cd.region ?_
  refine Seq.val (Runs.assign rfl rfl) rfl rfl rfl ?_
  refine Seq.nil ?_
  refine Post.weak (F' := [(0, _), (1, _), (2, _), (6, _), (7, _), (8, _), (23, _)]) ⟨rfl, rfl, rfl, rfl, rfl, rfl, rfl, trivial⟩ ?_
  refine Post.then_ ?_
  refine Cd.ret ?_
  refine Post.end1 rfl rfl (.inl rfl) ?_
  have hfs : ({ (D.tick.wipe b).wipe a with files := ((D.tick.wipe b).wipe a).files ++ [(b, f)] } : Dk).files = fsOf (upd (del (del l b) a) b g7) (setF F g7 f) := by
    rw [put_fs f hnn2 fx.nd (.inr ⟨hlk, hno7⟩)]
    unfold putL
    rw [find_isSome, hlk, fsOf_del, ← fl]
    rfl
  refine ⟨rfl, ⟨m, _, _, c1, c3, ?_, mp, hm, fs2, hfs, e0, hrok.1⟩, df⟩
  unfold Dk.cs
  rw [hrok.2]
  exact k0
end Go.Proofs.YtnlepoplncjliaaGreatDoor
