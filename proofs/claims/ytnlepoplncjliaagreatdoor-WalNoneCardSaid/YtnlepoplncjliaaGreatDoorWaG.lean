/-
  disk.Disk: Append. Condition: names and bytes within reach.
-/
import Derived.Test.YtnlepoplncjliaaGreatDoorWaF
namespace Go.Proofs.YtnlepoplncjliaaGreatDoor
open Go.RowKit

theorem zero_disk_file : zeroIs Tryz.prog 91 = some (some (.agg #[.string { data := #[] }, .int .i64 0])) := by kernel_rfl
theorem run_build_file0 (w : World) : (Instr.build 91 #[]).run Tryz.prog w = .ok (.agg #[.string { data := #[] }, .int .i64 0]) w := by kernel_rfl
theorem Blk.putM {w w' : World} {k m : Nat} {t : TypeId} {cs : Array Value} {l : List (List Nat × Nat)} (h : Blk w k t cs) (p : PutM w w' m l) : Blk w' k t cs := h.grown p.grown (fun e => by
  have e : k = m := by injection e
  obtain ⟨es, clk, h1⟩ := p.was
  have h2 : w.heap[k]? = some (.cells cs t) := h
  rw [e, h1] at h2
  cases h2)
theorem Fb.putM {w w' : World} {B m b : Nat} {l l' : List (List Nat × Nat)} {F : Nat → Fil} (h : Fb w B l F b) (p : PutM w w' m l') : Fb w' B l F b := ⟨fun q hq => ⟨(h.blk q hq).1, fun hne => ((h.blk q hq).2 hne).putM p⟩, h.nd⟩
theorem fb_ne {w : World} {B b : Nat} {l : List (List Nat × Nat)} {F : Nat → Fil} (h : Fs w B l F) (hb : w.heap.size ≤ b) : ∀ p ∈ l, p.2 ≠ b := fun p hp e => by
  have := (h.blk p hp).2.lt
  omega
set_option maxHeartbeats 4000000 in
theorem append_d_any (B g0 : Nat) (D : Dk) (nm data : List Nat) (w : World) (h : DkAt w B g0 D) (hnm : ∀ c ∈ nm, c < 256) (hda : ∀ c ∈ data, c < 256) (hl : nm.length ≤ 1000000000) (hdl : data.length ≤ 1000000000) :
    Calls Tryz.prog 17 #[.pointer (some ⟨g0, 0, none⟩), .string (strOf nm), .string (strOf data)] w fun e w' => e = .returned (.int .i64 (D.appendE nm data)) ∧ DkAt w' B g0 (D.append nm data) ∧ Df B w w' := by
  obtain ⟨m, l, F, c1, c2, dk⟩ := h
  have df := Df.refl B w
  have ok0 := dk.ok
  have fl0 := dk.fl
  have hg := get_some fl0 nm
  have hBw : B ≤ w.heap.size := Nat.le_trans dk.hB (Nat.le_of_lt dk.k.lt)
  have hnn := dk.mp.nodup
  refine Calls.start 90 Tryz.func17 rfl rfl rfl ?_
  refine Cd.seq ?_
  refine Cd.region ?_
  refine Seq.val (Runs.assign rfl rfl) rfl rfl rfl ?_
  refine Seq.nil ?_
  refine Post.weak (F' := [(0, _), (1, _), (2, _), (6, _)]) ⟨rfl, rfl, rfl, rfl, trivial⟩ ?_
  refine Post.then_ ?_
  refine Cd.seq ?_
  refine Cd.seq ?_
  refine Cd.region ?_
  refine Seq.val (Runs.move rfl rfl) rfl rfl rfl ?_
  refine Seq.val (Runs.move rfl rfl) rfl rfl rfl ?_
  refine Seq.slice (vs := [_]) (s := 1) rfl rfl rfl Tryz.underlying22 (by kernel_rfl) (zero_string) (by omega) (by omega) ⟨rfl, trivial⟩ rfl rfl rfl ?_
  intro g12 w1 n12
  replace df := df.step n12.below
  replace dk := dk.step n12.below
  have k12 := n12.blk
  have own : Own w1 w.heap.size 9 1 (.slice (some ⟨g12, 0, none⟩) 1 1) 1 (Ts [nm]) := Own.of_blk k12 n12.ge rfl (by decide)
  refine Seq.call (Enters.func rfl rfl rfl (run_enter Tryz.func42 (by kernel_rfl) rfl)) rfl rfl rfl (begin_any B g0 m D l F c1 c2 [nm] (.slice (some ⟨g12, 0, none⟩) 1 1) _ _ _ dk own (by simpa using hnm) (by simpa using hl) (by omega)) ?_
  clear dk
  rintro e w2 ⟨rfl, ⟨c3, dk⟩, fw2⟩
  refine ⟨_, rfl, ?_⟩
  replace df := df.df fw2
  refine Seq.val (Runs.assign rfl rfl) rfl rfl rfl ?_
  refine Seq.nil ?_
  refine Post.weak (F' := [(0, _), (1, _), (2, _), (6, _), (7, _)]) ⟨rfl, rfl, rfl, rfl, rfl, trivial⟩ ?_
  refine Post.then_ ?_
  refine Cd.seq ?_
  refine Cd.region ?_
  refine Seq.val (Runs.move rfl rfl) rfl rfl rfl ?_
  refine Seq.val (Runs.neqI rfl rfl rfl) rfl rfl rfl ?_
  refine Seq.nil ?_
  refine Post.weak (F' := [(0, _), (1, _), (2, _), (6, _), (7, _), (15, _)]) ⟨rfl, rfl, rfl, rfl, rfl, rfl, trivial⟩ ?_
  refine Post.then_ ?_
  refine Cd.cond rfl (fun h => ?_) (fun h => ?_)
  · have h : D.beginE [nm] ≠ 0 := by simpa using h
    have hE : D.appendE nm data = D.beginE [nm] := by unfold Dk.appendE; rw [if_pos h]
    have hD : D.append nm data = D.tick := by unfold Dk.append; rw [hE, if_neg h]
    refine Cd.seq ?_
    refine Cd.region ?_
    refine Seq.val (Runs.move rfl rfl) rfl rfl rfl ?_
    refine Seq.val (Runs.assign rfl rfl) rfl rfl rfl ?_
    refine Seq.nil ?_
    refine Post.weak (F' := [(0, _), (1, _), (2, _), (6, _), (7, _), (15, _)]) ⟨rfl, rfl, rfl, rfl, rfl, rfl, trivial⟩ ?_
    refine Post.then_ ?_
    refine Cd.ret ?_
    refine Post.then_ret ?_
    refine Post.end1 rfl rfl (.inl rfl) ?_
    rw [hE, hD]
    exact ⟨rfl, ⟨m, l, F, c1, c3, dk⟩, df⟩
  have hb0 : D.beginE [nm] = 0 := by simpa using h
  have okt := dk.ok
  have hnok := (beginE_zero hb0).2 nm List.mem_cons_self
  have k0 := dk.k
  have e0 := dk.hB
  have mp := dk.mp
  have fs := dk.fs
  have hm := dk.hm
  clear dk h
  have hfok := fileOf_ok ok0 nm
  have hfok1 := hfok.2.2
  have hlen : l.length = D.files.length := by rw [fl0]; unfold fsOf; rw [List.length_map]
  have hget : (D.get nm).isSome = (lk l nm).isSome := by rw [hg, Option.isSome_map]
  have hE0 : D.appendE nm data = if (D.get nm).isSome = false ∧ 200 ≤ D.files.length then 4 else if 1048576 - ((D.fileOf nm).data.length : Int) < (data.length : Int) then 4 else if D.room - D.used < (data.length : Int) then 5 else 0 := by unfold Dk.appendE; rw [if_neg (by omega)]
  have hDat : ∀ w', DkAt w' B g0 D.tick → D.appendE nm data ≠ 0 → DkAt w' B g0 (D.append nm data) := fun w' hd hne => by unfold Dk.append; rw [if_neg hne]; exact hd
  refine Cd.skip ?_
  refine Post.then_ ?_
  refine Cd.seq ?_
  refine Cd.region ?_
  refine Seq.val (Runs.move rfl rfl) rfl rfl rfl ?_
  refine Seq.val (Runs.nilCheck rfl rfl) rfl rfl rfl ?_
  refine Seq.val (Runs.fieldB 1 rfl rfl Tryz.underlying77 rfl (by kernel_rfl)) rfl rfl rfl ?_
  refine Seq.val (Runs.loadB rfl rfl Tryz.underlying75 rfl k0 rfl) rfl rfl rfl ?_
  refine Seq.val (Runs.move rfl rfl) rfl rfl rfl ?_
  refine Seq.val (Runs.lookup2 rfl rfl rfl mp hnm Tryz.underlying75 Tryz.underlying9 zero_pfile) rfl rfl rfl ?_
  refine Seq.val (Runs.move rfl rfl) rfl rfl rfl ?_
  refine Seq.val (Runs.extract rfl rfl rfl) rfl rfl rfl ?_
  refine Seq.val (Runs.extract rfl rfl rfl) rfl rfl rfl ?_
  refine Seq.val (Runs.assign rfl rfl) rfl rfl rfl ?_
  refine Seq.val (Runs.assign rfl rfl) rfl rfl rfl ?_
  refine Seq.nil ?_
  refine Post.weak (F' := [(0, _), (1, _), (2, _), (6, _), (7, _), (8, _), (9, _), (15, _)]) ⟨rfl, rfl, rfl, rfl, rfl, rfl, rfl, rfl, trivial⟩ ?_
  refine Post.then_ ?_
  refine Cd.seqJ (σ := Nat) (fun gf => [(0, .pointer (some ⟨g0, 0, none⟩)), (1, .string (strOf nm)), (2, .string (strOf data)), (8, .pointer (some ⟨gf, 0, none⟩))]) (fun gf wr => ¬ ((D.get nm).isSome = false ∧ 200 ≤ D.files.length) ∧ Df B w wr ∧ Blk wr g0 77 (D.tick.cs m c1 c3) ∧ Mp wr m l ∧ Fb wr B l F gf ∧ B ≤ gf ∧ Blk wr gf 91 (D.fileOf nm).cs ∧ (lk l nm = some gf ∨ lk l nm = none ∧ ∀ p ∈ l, p.2 ≠ gf)) ?_ ?_
  · skip
    refine Cd.block ?_
    refine Cd.seq ?_
    refine Cd.region ?_
    refine Seq.val (Runs.move rfl rfl) rfl rfl rfl ?_
    refine Seq.val (Runs.not rfl rfl) rfl rfl rfl ?_
    refine Seq.val (Runs.move rfl rfl) rfl rfl rfl ?_
    refine SeqC.start ?_
    refine SeqC.open rfl rfl rfl rfl rfl rfl rfl (fun hcx => Runs.move rfl rfl) ?_
    refine SeqC.next rfl rfl rfl rfl rfl rfl rfl (fun hcx => Runs.nilCheck rfl rfl) ?_
    refine SeqC.next rfl rfl rfl rfl rfl rfl rfl (fun hcx => Runs.fieldB 1 rfl rfl Tryz.underlying77 rfl (by kernel_rfl)) ?_
    refine SeqC.next rfl rfl rfl rfl rfl rfl rfl (fun hcx => Runs.loadB rfl rfl Tryz.underlying75 rfl k0 rfl) ?_
    refine SeqC.next rfl rfl rfl rfl rfl rfl rfl (fun hcx => Runs.lenM rfl rfl mp Tryz.underlying75) ?_
    refine SeqC.next rfl rfl rfl rfl rfl rfl rfl (fun hcx => Runs.geq rfl rfl rfl) ?_
    refine SeqC.and rfl rfl rfl rfl rfl rfl rfl ?_
    refine Seq.val (Runs.assign rfl rfl) rfl rfl rfl ?_
    refine Seq.nil ?_
    refine Post.weak (F' := [(0, _), (1, _), (2, _), (6, _), (7, _), (8, _), (9, _), (15, _), (26, _)]) ⟨rfl, rfl, rfl, rfl, rfl, rfl, rfl, rfl, rfl, trivial⟩ ?_
    refine Post.then_ ?_
    refine Cd.cond rfl (fun h => ?_) (fun h => ?_)
    · have h' : (!(lk l nm).isSome && decide ((200 : Int) ≤ (l.length : Int))) = true := h
      rw [Bool.and_eq_true, decide_eq_true_eq, hlen, ← hget] at h'
      have h1 : (D.get nm).isSome = false ∧ 200 ≤ D.files.length := ⟨by simpa using h'.1, by omega⟩
      have hE : D.appendE nm data = 4 := by rw [hE0, if_pos h1]
      refine Cd.seq ?_
      refine Cd.region ?_
      refine Seq.val (Runs.assign rfl rfl) rfl rfl rfl ?_
      refine Seq.nil ?_
      refine Post.weak (F' := [(0, _), (1, _), (2, _), (6, _), (7, _), (8, _), (9, _), (15, _), (26, _)]) ⟨rfl, rfl, rfl, rfl, rfl, rfl, rfl, rfl, rfl, trivial⟩ ?_
      refine Post.then_ ?_
      refine Cd.ret ?_
      refine Post.block_ret ?_
      refine Post.then_ret ?_
      refine Post.end1 rfl rfl (.inl rfl) ?_
      rw [hE]
      exact ⟨rfl, hDat _ ⟨m, l, F, c1, c3, k0, mp, hm, fs, by rw [tick_files]; exact fl0, e0, okt⟩ (by omega), df⟩
    have h' : (!(lk l nm).isSome && decide ((200 : Int) ≤ (l.length : Int))) = false := h
    have h1 : ¬ ((D.get nm).isSome = false ∧ 200 ≤ D.files.length) := by
      rintro ⟨h2, h3⟩
      rw [hget] at h2
      rw [h2, hlen, decide_eq_true (by omega)] at h'
      cases h'
    refine Cd.seq ?_
    refine Cd.region ?_
    refine Seq.val (Runs.move rfl rfl) rfl rfl rfl ?_
    refine Seq.val (Runs.not rfl rfl) rfl rfl rfl ?_
    refine Seq.val (Runs.assign rfl rfl) rfl rfl rfl ?_
    refine Seq.nil ?_
    refine Post.weak (F' := [(0, _), (1, _), (2, _), (6, _), (7, _), (8, _), (9, _), (15, _), (26, _), (37, _)]) ⟨rfl, rfl, rfl, rfl, rfl, rfl, rfl, rfl, rfl, rfl, trivial⟩ ?_
    refine Post.then_ ?_
    refine Cd.cond rfl (fun h => ?_) (fun h => ?_)
    · have h2 : lk l nm = none := by
        have h' : (!(lk l nm).isSome) = true := h
        cases e : lk l nm with
        | none => rfl
        | some b => rw [e] at h'; cases h'
      have hfo : D.fileOf nm = ⟨[], 0⟩ := by rw [fileOf_eq, hg, h2]; rfl
      have hfs := fs
      refine Cd.region ?_
      refine Seq.val (Runs.build rfl rfl (run_build_file0 _)) rfl rfl rfl ?_
      refine Seq.box rfl rfl rfl rfl rfl ?_
      intro g41 w3 n41
      have l41 := Nat.lt_of_lt_of_le k0.lt n41.ge
      replace df := df.step n41.below
      replace k0 := k0.step n41.below
      replace mp := mp.step n41.below
      replace fs := fs.step n41.below
      have k41 := n41.blk
      refine Seq.val (Runs.assign rfl rfl) rfl rfl rfl ?_
      refine Seq.nil ?_
      refine Post.weak (F' := [(0, _), (1, _), (2, _), (6, _), (7, _), (8, _), (9, _), (15, _), (26, _), (37, _)]) ⟨rfl, rfl, rfl, rfl, rfl, rfl, rfl, rfl, rfl, rfl, trivial⟩ ?_
      refine Post.block_normal ?_
      have hne := fb_ne (b := g41) hfs n41.ge
      exact Post.join g41 ⟨rfl, rfl, rfl, rfl, trivial⟩ ⟨h1, df, k0, mp, fs.off g41, by omega, by rw [hfo]; exact k41, .inr ⟨h2, hne⟩⟩
    · have h2 : (lk l nm).isSome = true := by
        have h' : (!(lk l nm).isSome) = false := h
        simpa using h'
      obtain ⟨g8, hg8⟩ := Option.isSome_iff_exists.1 h2
      have hfo : D.fileOf nm = F g8 := by rw [fileOf_eq, hg, hg8]; rfl
      have hv : lkV l nm = .pointer (some ⟨g8, 0, none⟩) := by unfold lkV; rw [hg8]; rfl
      obtain ⟨e8, k8⟩ : B ≤ g8 ∧ Blk _ g8 91 (F g8).cs := fs.blk _ (lk_mem hg8)
      rw [hv]
      refine Cd.skip ?_
      refine Post.block_normal ?_
      exact Post.join g8 ⟨rfl, rfl, rfl, rfl, trivial⟩ ⟨h1, df, k0, mp, fs.off g8, e8, by rw [hfo]; exact k8, .inl hg8⟩
  clear df k0 mp fs
  rintro g8 wj ⟨hno, df, k0, mp, fx, e8, k8, hor⟩
  have hback : ∀ w', Fb w' B l F g8 → Blk w' g8 91 (D.fileOf nm).cs → Fs w' B l F := fun w' hx hk => by
    rcases hor with ho | ⟨ho, hb⟩
    · have hfo : D.fileOf nm = F g8 := by rw [fileOf_eq, hg, ho]; rfl
      rw [hfo] at hk
      refine ⟨fun p hp => ⟨(hx.blk p hp).1, ?_⟩, hx.nd⟩
      by_cases e : p.2 = g8
      · rw [e]; exact hk
      · exact (hx.blk p hp).2 e
    · exact ⟨fun p hp => ⟨(hx.blk p hp).1, (hx.blk p hp).2 (hb p hp)⟩, hx.nd⟩
  have hdk : ∀ w', Blk w' g0 77 (D.tick.cs m c1 c3) → Mp w' m l → Fb w' B l F g8 → Blk w' g8 91 (D.fileOf nm).cs → DkAt w' B g0 D.tick := fun w' h1 h2 h3 h4 => ⟨m, l, F, c1, c3, h1, h2, hm, hback w' h3 h4, by rw [tick_files]; exact fl0, e0, okt⟩
  have hne08 := k0.neT k8
  refine Cd.seq ?_
  refine Cd.block ?_
  refine Cd.seq ?_
  refine Cd.region ?_
  refine Seq.val (Runs.move rfl rfl) rfl rfl rfl ?_
  refine Seq.val (Runs.lenL rfl rfl Tryz.underlying9) rfl rfl rfl ?_
  refine Seq.val (Runs.move rfl rfl) rfl rfl rfl ?_
  refine Seq.val (Runs.nilCheck rfl rfl) rfl rfl rfl ?_
  refine Seq.val (Runs.fieldB 0 rfl rfl Tryz.underlying91 rfl (by kernel_rfl)) rfl rfl rfl ?_
  refine Seq.val (Runs.loadB rfl rfl Tryz.underlying9 rfl k8 rfl) rfl rfl rfl ?_
  refine Seq.val (Runs.lenL rfl rfl Tryz.underlying9) rfl rfl rfl ?_
  refine Seq.val (Runs.subI rfl rfl rfl (by omega) (by omega)) rfl rfl rfl ?_
  refine Seq.val (Runs.gtr rfl rfl rfl) rfl rfl rfl ?_
  refine Seq.val (Runs.assign rfl rfl) rfl rfl rfl ?_
  refine Seq.nil ?_
  refine Post.weak (F' := [(0, _), (1, _), (2, _), (8, _), (42, _)]) ⟨rfl, rfl, rfl, rfl, rfl, trivial⟩ ?_
  refine Post.then_ ?_
  refine Cd.cond rfl (fun h => ?_) (fun h => ?_)
  · have h1 : 1048576 - ((D.fileOf nm).data.length : Int) < (data.length : Int) := by simpa using h
    have hE : D.appendE nm data = 4 := by rw [hE0, if_neg hno, if_pos h1]
    refine Cd.seq ?_
    refine Cd.region ?_
    refine Seq.val (Runs.assign rfl rfl) rfl rfl rfl ?_
    refine Seq.nil ?_
    refine Post.weak (F' := [(0, _), (1, _), (2, _), (6, _), (8, _), (42, _)]) ⟨rfl, rfl, rfl, rfl, rfl, rfl, trivial⟩ ?_
    refine Post.then_ ?_
    refine Cd.ret ?_
    refine Post.block_ret ?_
    refine Post.then_ret ?_
    refine Post.end1 rfl rfl (.inl rfl) ?_
    rw [hE]
    exact ⟨rfl, hDat _ (hdk _ k0 mp fx k8) (by omega), df⟩
  have h1 : ¬ (1048576 - ((D.fileOf nm).data.length : Int) < (data.length : Int)) := by simpa using h
  refine Cd.seq ?_
  refine Cd.region ?_
  refine Seq.val (Runs.move rfl rfl) rfl rfl rfl ?_
  refine Seq.val (Runs.lenL rfl rfl Tryz.underlying9) rfl rfl rfl ?_
  refine Seq.val (Runs.move rfl rfl) rfl rfl rfl ?_
  refine Seq.call (Enters.func rfl rfl rfl (run_enter Tryz.func14 (by kernel_rfl) rfl)) rfl rfl rfl (free_any B g0 D.tick _ (hdk _ k0 mp fx k8)) ?_
  rw [tick_room, tick_used]
  rintro en x9 ⟨rfl, hb9⟩
  refine ⟨_, rfl, ?_⟩
  replace df := df.step hb9
  replace k0 := k0.step hb9
  replace mp := mp.step hb9
  replace fx := fx.step hb9
  replace k8 := k8.step hb9
  refine Seq.val (Runs.gtr rfl rfl rfl) rfl rfl rfl ?_
  refine Seq.val (Runs.assign rfl rfl) rfl rfl rfl ?_
  refine Seq.nil ?_
  refine Post.weak (F' := [(0, _), (1, _), (2, _), (8, _), (42, _), (52, _)]) ⟨rfl, rfl, rfl, rfl, rfl, rfl, trivial⟩ ?_
  refine Post.then_ ?_
  refine Cd.cond rfl (fun h => ?_) (fun h => ?_)
  · have h2 : D.room - D.used < (data.length : Int) := by simpa using h
    have hE : D.appendE nm data = 5 := by rw [hE0, if_neg hno, if_neg h1, if_pos h2]
    refine Cd.seq ?_
    refine Cd.region ?_
    refine Seq.val (Runs.assign rfl rfl) rfl rfl rfl ?_
    refine Seq.nil ?_
    refine Post.weak (F' := [(0, _), (1, _), (2, _), (6, _), (8, _), (42, _), (52, _)]) ⟨rfl, rfl, rfl, rfl, rfl, rfl, rfl, trivial⟩ ?_
    refine Post.then_ ?_
    refine Cd.ret ?_
    refine Post.block_ret ?_
    refine Post.then_ret ?_
    refine Post.end1 rfl rfl (.inl rfl) ?_
    rw [hE]
    exact ⟨rfl, hDat _ (hdk _ k0 mp fx k8) (by omega), df⟩
  have h2 : ¬ (D.room - D.used < (data.length : Int)) := by simpa using h
  have hE : D.appendE nm data = 0 := by rw [hE0, if_neg hno, if_neg h1, if_neg h2]
  have hfin := append_ok ok0 okt (by rw [fl0, fs_names]; exact hnn) hnm hda hE hnok
  rw [hE]
  refine Cd.skip ?_
  refine Post.block_normal ?_
  refine Post.then_ ?_
  refine Cd.seq ?_
  refine Cd.region ?_
  refine Seq.val (Runs.move rfl rfl) rfl rfl rfl ?_
  refine Seq.val (Runs.nilCheck rfl rfl) rfl rfl rfl ?_
  refine Seq.val (Runs.fieldB 0 rfl rfl Tryz.underlying91 rfl (by kernel_rfl)) rfl rfl rfl ?_
  refine Seq.val (Runs.loadB rfl rfl Tryz.underlying9 rfl k8 rfl) rfl rfl rfl ?_
  refine Seq.val (Runs.move rfl rfl) rfl rfl rfl ?_
  refine Seq.val (Runs.addL rfl rfl rfl (by omega)) rfl rfl rfl ?_
  refine Seq.val (Runs.nilCheck rfl rfl) rfl rfl rfl ?_
  refine Seq.val (Runs.fieldB 0 rfl rfl Tryz.underlying91 rfl (by kernel_rfl)) rfl rfl rfl ?_
  refine Seq.store1 rfl rfl rfl (by kernel_rfl) rfl rfl k8 rfl rfl rfl ?_
  intro w3 pw3
  replace df := df.put k8 pw3 e8
  replace k0 := k0.put pw3 (by omega)
  replace mp := mp.put k8 pw3 e8
  replace fx := fx.put k8 pw3 e8
  replace k8 := pw3.blk
  refine Seq.nil ?_
  refine Post.weak (F' := [(0, _), (1, _), (2, _), (8, _), (42, _), (52, _)]) ⟨rfl, rfl, rfl, rfl, rfl, rfl, trivial⟩ ?_
  refine Post.then_ ?_
  refine Cd.seq ?_
  refine Cd.region ?_
  refine Seq.val (Runs.move rfl rfl) rfl rfl rfl ?_
  refine Seq.val (Runs.nilCheck rfl rfl) rfl rfl rfl ?_
  refine Seq.val (Runs.fieldB 1 rfl rfl Tryz.underlying77 rfl (by kernel_rfl)) rfl rfl rfl ?_
  refine Seq.val (Runs.loadB rfl rfl Tryz.underlying75 rfl k0 rfl) rfl rfl rfl ?_
  refine Seq.val (Runs.move rfl rfl) rfl rfl rfl ?_
  refine Seq.val (Runs.move rfl rfl) rfl rfl rfl ?_
  obtain ⟨fn, hfn⟩ : ∃ fn, fn = Fil.mk ((D.fileOf nm).data ++ data) (D.fileOf nm).safe := ⟨_, rfl⟩
  replace k8 : Blk _ g8 91 (Fil.mk ((D.fileOf nm).data ++ data) (D.fileOf nm).safe).cs := k8
  rw [← hfn] at k8
  refine Seq.mapUpd rfl rfl rfl rfl mp hnm Tryz.underlying75 Tryz.underlying9 rfl rfl ?_
  intro wm pm
  replace df := df.putM hm pm
  replace k0 := k0.putM pm
  replace k8 := k8.putM pm
  replace fx := fx.putM pm
  replace mp := pm.mp
  clear pm
  have fs : Fs wm B (upd l nm g8) (setF F g8 fn) := put_blk hnn fx e8 k8 hor
  have hfiles : (D.append nm data).files = fsOf (upd l nm g8) (setF F g8 fn) := by
    unfold Dk.append
    rw [if_pos hE]
    show putL D.files nm _ = _
    rw [← hfn, fl0]
    exact (put_fs fn hnn fx.nd hor).symm
  obtain ⟨us, hus⟩ : ∃ us, us = D.tick.used := ⟨_, rfl⟩
  have hu0 : 0 ≤ us := by rw [hus]; exact Int.natCast_nonneg _
  have hu1 : us ≤ 16777216 := by rw [hus]; have := okt.fits; have := okt.room1; omega
  replace k0 : Blk wm g0 77 #[.int .i64 D.tick.room, .map (some m), .int .i64 us, .int .i64 c1, .int .i64 c3, .bool D.tick.off, .bool D.tick.armed, .int .i64 D.tick.left] := by rw [hus]; exact k0
  clear fx k8
  refine Seq.nil ?_
  refine Post.weak (F' := [(0, _), (1, _), (2, _), (8, _), (42, _), (52, _)]) ⟨rfl, rfl, rfl, rfl, rfl, rfl, trivial⟩ ?_
  refine Post.then_ ?_
  refine Cd.seq ?_
  refine Cd.region ?_
  refine Seq.val (Runs.move rfl rfl) rfl rfl rfl ?_
  refine Seq.val (Runs.nilCheck rfl rfl) rfl rfl rfl ?_
  refine Seq.val (Runs.fieldB 2 rfl rfl Tryz.underlying77 rfl (by kernel_rfl)) rfl rfl rfl ?_
  refine Seq.val (Runs.loadB rfl rfl Tryz.underlying3 rfl k0 rfl) rfl rfl rfl ?_
  refine Seq.val (Runs.move rfl rfl) rfl rfl rfl ?_
  refine Seq.val (Runs.lenL rfl rfl Tryz.underlying9) rfl rfl rfl ?_
  refine Seq.val (Runs.addI rfl rfl rfl (by omega) (by omega)) rfl rfl rfl ?_
  refine Seq.val (Runs.nilCheck rfl rfl) rfl rfl rfl ?_
  refine Seq.val (Runs.fieldB 2 rfl rfl Tryz.underlying77 rfl (by kernel_rfl)) rfl rfl rfl ?_
  refine Seq.store1 rfl rfl rfl (by kernel_rfl) rfl rfl k0 rfl rfl rfl ?_
  intro w4 pw4
  replace df := df.put k0 pw4 e0
  replace mp := mp.put k0 pw4 e0
  replace fs := fs.put k0 pw4 e0
  replace k0 := pw4.blk
  refine Seq.nil ?_
  refine Post.weak (F' := [(0, _), (1, _), (2, _), (8, _), (42, _), (52, _)]) ⟨rfl, rfl, rfl, rfl, rfl, rfl, trivial⟩ ?_
  refine Post.then_ ?_
  refine Cd.seq ?_
  refine Cd.region ?_
  replace k0 : Blk _ g0 77 #[.int .i64 D.tick.room, .map (some m), .int .i64 (us + (data.length : Int)), .int .i64 c1, .int .i64 c3, .bool D.tick.off, .bool D.tick.armed, .int .i64 D.tick.left] := k0
  refine Seq.val (Runs.move rfl rfl) rfl rfl rfl ?_
  refine Seq.val (Runs.nilCheck rfl rfl) rfl rfl rfl ?_
  refine Seq.val (Runs.fieldB 3 rfl rfl Tryz.underlying77 rfl (by kernel_rfl)) rfl rfl rfl ?_
  refine Seq.val (Runs.loadB rfl rfl Tryz.underlying3 rfl k0 rfl) rfl rfl rfl ?_
  refine Seq.val (Runs.move rfl rfl) rfl rfl rfl ?_
  refine Seq.val (Runs.lenL rfl rfl Tryz.underlying9) rfl rfl rfl ?_
  refine Seq.val (Runs.addW rfl rfl rfl rfl) rfl rfl rfl ?_
  refine Seq.val (Runs.nilCheck rfl rfl) rfl rfl rfl ?_
  refine Seq.val (Runs.fieldB 3 rfl rfl Tryz.underlying77 rfl (by kernel_rfl)) rfl rfl rfl ?_
  refine Seq.store1 rfl rfl rfl (by kernel_rfl) rfl rfl k0 rfl rfl rfl ?_
  intro w5 pw5
  replace df := df.put k0 pw5 e0
  replace mp := mp.put k0 pw5 e0
  replace fs := fs.put k0 pw5 e0
  replace k0 := pw5.blk
  refine Seq.nil ?_
  refine Post.weak (F' := [(0, _), (1, _), (2, _), (8, _), (42, _), (52, _)]) ⟨rfl, rfl, rfl, rfl, rfl, rfl, trivial⟩ ?_
  refine Post.then_ ?_
  refine Cd.seq ?_
  refine Cd.region ?_
  refine Seq.val (Runs.assign rfl rfl) rfl rfl rfl ?_
  refine Seq.nil ?_
  refine Post.weak (F' := [(0, _), (1, _), (2, _), (6, _), (8, _), (42, _), (52, _)]) ⟨rfl, rfl, rfl, rfl, rfl, rfl, rfl, trivial⟩ ?_
  refine Post.then_ ?_
  refine Cd.ret ?_
  refine Post.end1 rfl rfl (.inl rfl) ?_
  have hap : D.append nm data = { D.tick with files := (D.append nm data).files } := by unfold Dk.append; rw [if_pos hE]
  have hus2 : (D.append nm data).used = us + (data.length : Int) := by rw [hfin.2, hus, tick_used]
  refine ⟨rfl, ⟨m, upd l nm g8, setF F g8 fn, IntKind.i64.wrap (c1 + (data.length : Int)), c3, ?_, mp, hm, fs, hfiles, e0, hfin.1⟩, df⟩
  unfold Dk.cs
  rw [hus2, hap]
  exact k0
end Go.Proofs.YtnlepoplncjliaaGreatDoor
