/-
  wal: room, lay, Rotate, Least, Number, Append. Condition: numbers within reach, the log's own files.
-/
import Derived.Test.YtnlepoplncjliaaGreatDoorWbJ
namespace Go.Proofs.YtnlepoplncjliaaGreatDoor
open Go.RowKit

section
variable {P : Program} {ops : Array Oper} {Q : Exit → Act → World → Prop} {rest : List Oper} {o : Oper} {n d : Nat} {F : List (Nat × Value)} {C : Cxs} {w w' : World} {v : Value} {c : Bool} {H : List (Nat × Value)}
/-- A call under the same guard, of whose value only something is known. -/
theorem SeqC.nextCE {f : FuncId} {args : Array Value} {j t : Nat} {b want : Bool} {c0 : Bool} {Φ : Value → World → Prop} (hg : o.guard = some (j, want)) (ht : (ops[j]?).bind (·.dst) = some t) (hb : look (match C with | [] => F | (_, H) :: _ => H) t = some (.bool b)) (hc0 : c0 = (topX C && (b == want))) (hd : o.dst = some d) (hn : Nat.blt d n = true) (hf : freeX d ((c0, H) :: C) F = true)
    (hrun : c0 = true → Enters P (evF (allX ((c0, H) :: C) F)) o w f args) (hcall : c0 = true → Calls P f args w fun e w' => ∃ v, e = .returned v ∧ Φ v w' ∧ Grow w w') (h : ∀ v w', (c0 = true → Φ v w') → Grow w w' → SeqC P ops Q rest n ((c0, (d, v) :: H) :: C) F w') : SeqC P ops Q (o :: rest) n ((c0, H) :: C) F w := by
  intro a ha hC
  obtain ⟨h1, h2, h3, h4⟩ := id hC
  refine wpList_step fun K hK => ?_
  have hwant : Region.wanted o (yielded ops a.tmps) = c0 := by
    rw [hc0]
    have hy : yielded ops a.tmps j = if topX C = true then some b else none := by
      unfold yielded
      simp only [ht, Option.bind_some]
      cases C with
      | nil => simp [topX, ha.slot t _ hb]
      | cons x r =>
        obtain ⟨c1, H1⟩ := x
        obtain ⟨g1, g2, g3, g4⟩ := h4
        cases c1
        · simp [topX, g3 rfl t _ hb, undef]
        · simp [topX, g2 rfl t _ hb]
    unfold Region.wanted
    simp only [hg, hy]
    cases topX C <;> cases b <;> cases want <;> rfl
  rw [hwant]
  have hbase := freeX_base hf
  have hne : ∀ t u, look H t = some u → d ≠ t := fun t u ht e => by
    subst e
    simp only [freeX, Bool.and_eq_true] at hf
    rw [ht] at hf; simp at hf
  have hf2 : freeX d C F = true := by simp only [freeX, Bool.and_eq_true] at hf; exact hf.2
  cases hc : c0 with
  | true =>
    rw [if_pos rfl]
    unfold Oper.wp
    rw [hrun hc a.eval (HoldX.fr ha hC hc).ev, Oper.upon_enter, hd]
    refine (hcall hc).mono fun e w' ⟨v, he', hΦ, hgr⟩ => ?_
    subst he'
    refine hK _ _ (h v _ (fun _ => hΦ) hgr _ (ha.keep hbase) ⟨h1, fun _ t' u hu => ?_, fun e => (by rw [hc] at e; cases e), h4.put hf2⟩)
    rcases look_put hu with ⟨rfl, rfl⟩ | ⟨-, hu⟩
    · simp [Act.put, ha.size, Nat.blt_eq.mp hn]
    · simp only [Act.put]; rw [Array.getElem?_setIfInBounds_ne (hne t' u hu)]; exact h2 hc t' u hu
  | false =>
    rw [if_neg (by simp), hd]
    refine hK _ _ (h undef _ (fun e => by rw [hc] at e; cases e) (Grow.refl _) _ (ha.keep hbase) ⟨h1, fun e => (by rw [hc] at e; cases e), fun _ t' u hu => ?_, h4.put hf2⟩)
    rcases look_put hu with ⟨rfl, rfl⟩ | ⟨-, hu⟩
    · simp [Act.put, ha.size, Nat.blt_eq.mp hn]
    · simp only [Act.put]; rw [Array.getElem?_setIfInBounds_ne (hne t' u hu)]; exact h3 hc t' u hu
end
/-- Whether there is room for a frame. -/
def roomW (D : Dk) (num count len : Nat) : Bool := decide ((len : Int) + 24 ≤ D.room - D.used) && (!decide (count = 0) || decide (D.files.length + 2 ≤ 200)) && decide (num ≤ 999999)
/-- A frame laid, and marked. -/
def Dk.lay (D : Dk) (nm : List Nat) (num count : Nat) (s : List Nat) : Dk × Int :=
  if D.appendE (fileN nm num logK) s ≠ 0 then (D.append (fileN nm num logK) s, D.appendE (fileN nm num logK) s)
  else if (D.append (fileN nm num logK) s).thereE [fileN nm num logK] (fileN nm num logK) ≠ 0 then ((D.append (fileN nm num logK) s).sync (fileN nm num logK), (D.append (fileN nm num logK) s).thereE [fileN nm num logK] (fileN nm num logK))
  else ((D.append (fileN nm num logK) s).sync (fileN nm num logK)).note (fileN nm num ackK) (count + 1)
/-- A log under way. -/
structure Wl where
  num : Nat
  count : Nat
  size : Nat
  broken : Bool
def Wl.cs (W : Wl) (gd : Nat) (nm : List Nat) : Array Value := wlCs gd nm (W.num : Int) (W.count : Int) (W.size : Int) W.broken
def Wl.rotate (W : Wl) : Wl := if 0 < W.count then ⟨W.num + 1, 0, 0, W.broken⟩ else W
def Wl.least (W : Wl) (n : Int) : Wl := if (W.num : Int) < n then ⟨n.toNat, 0, 0, W.broken⟩ else W
/-- Behind a rotation, where the segment is full. -/
def Wl.turned (W : Wl) (data : List Nat) : Wl := if 1048576 - (W.size : Int) < ((data.length + 12 : Nat) : Int) then W.rotate else W
/-- A record behind the others. -/
def appW (W : Wl) (D : Dk) (nm data : List Nat) : Wl × Dk × Int :=
  if 131072 < data.length then (W, D, 4)
  else if W.broken = true then (W, D, 6)
  else if roomW D (W.turned data).num (W.turned data).count (data.length + 12) = false then (W.turned data, D, 5)
  else if (D.lay nm (W.turned data).num (W.turned data).count (frameN data)).2 ≠ 0 then ({ W.turned data with broken := true }, (D.lay nm (W.turned data).num (W.turned data).count (frameN data)).1, (D.lay nm (W.turned data).num (W.turned data).count (frameN data)).2)
  else (⟨(W.turned data).num, (W.turned data).count + 1, (W.turned data).size + (data.length + 12), (W.turned data).broken⟩, (D.lay nm (W.turned data).num (W.turned data).count (frameN data)).1, 0)
theorem room_any (B g0 gd : Nat) (D : Dk) (nm s : List Nat) (W : Wl) (w : World) (k0 : Blk w g0 80 (W.cs gd nm)) (dk : DkAt w B gd D) (hs : s.length ≤ 1000000) :
    Calls Tryz.prog 40 #[.pointer (some ⟨g0, 0, none⟩), .string (strOf s)] w fun e w' => e = .returned (.bool (roomW D W.num W.count s.length)) ∧ Grow w w' := by
  have bel := Below.refl w.heap.size w
  have hok := dk.ok
  have hlen := hok.most
  unfold Wl.cs at k0
  refine Calls.start 41 Tryz.func40 rfl rfl rfl ?_
  refine Cd.seq ?_
  refine Cd.region ?_
  refine Seq.val (Runs.assign rfl rfl) rfl rfl rfl ?_
  refine Seq.nil ?_
  refine Post.weak (F' := [(0, _), (1, _), (4, _)]) ⟨rfl, rfl, rfl, trivial⟩ ?_
  refine Post.then_ ?_
  refine Cd.seq ?_
  refine Cd.region ?_
  refine Seq.val (Runs.move rfl rfl) rfl rfl rfl ?_
  refine Seq.val (Runs.nilCheck rfl rfl) rfl rfl rfl ?_
  refine Seq.val (Runs.fieldB 3 rfl rfl Tryz.underlying80 rfl (by kernel_rfl)) rfl rfl rfl ?_
  refine Seq.val (Runs.loadB rfl rfl Tryz.underlying3 rfl k0 rfl) rfl rfl rfl ?_
  refine Seq.val (Runs.eqlI rfl rfl rfl) rfl rfl rfl ?_
  refine Seq.val (Runs.assign rfl rfl) rfl rfl rfl ?_
  refine Seq.nil ?_
  refine Post.weak (F' := [(0, _), (1, _), (4, _), (5, _)]) ⟨rfl, rfl, rfl, rfl, trivial⟩ ?_
  refine Post.then_ ?_
  refine Cd.seq ?_
  refine Cd.region ?_
  refine Seq.val (Runs.move rfl rfl) rfl rfl rfl ?_
  refine Seq.val (Runs.lenL rfl rfl Tryz.underlying9) rfl rfl rfl ?_
  refine Seq.val (Runs.addI rfl rfl rfl (by omega) (by omega)) rfl rfl rfl ?_
  refine Seq.val (Runs.move rfl rfl) rfl rfl rfl ?_
  refine Seq.val (Runs.nilCheck rfl rfl) rfl rfl rfl ?_
  refine Seq.val (Runs.fieldB 0 rfl rfl Tryz.underlying80 rfl (by kernel_rfl)) rfl rfl rfl ?_
  refine Seq.val (Runs.loadB rfl rfl Tryz.underlying26 rfl k0 rfl) rfl rfl rfl ?_
  refine Seq.call (Enters.func rfl rfl rfl (run_enter Tryz.func14 (by kernel_rfl) rfl)) rfl rfl rfl (free_any B gd D _ dk) ?_
  rintro e w5 ⟨rfl, hb5⟩
  refine ⟨_, rfl, ?_⟩
  replace bel := bel.step hb5
  replace k0 := k0.step hb5
  replace dk := dk.step hb5
  refine Seq.val (Runs.leq rfl rfl rfl) rfl rfl rfl ?_
  refine Seq.val (Runs.move rfl rfl) rfl rfl rfl ?_
  refine SeqC.start ?_
  refine SeqC.open rfl rfl rfl rfl rfl rfl rfl (fun hcx => Runs.move rfl rfl) ?_
  refine SeqC.next rfl rfl rfl rfl rfl rfl rfl (fun hcx => Runs.not rfl rfl) ?_
  refine SeqC.next rfl rfl rfl rfl rfl rfl rfl (fun hcx => Runs.move rfl rfl) ?_
  refine SeqC.open rfl rfl rfl rfl rfl rfl rfl (fun hcx => Runs.move rfl rfl) ?_
  refine SeqC.next rfl rfl rfl rfl rfl rfl rfl (fun hcx => Runs.nilCheck rfl rfl) ?_
  refine SeqC.next rfl rfl rfl rfl rfl rfl rfl (fun hcx => Runs.fieldB 0 rfl rfl Tryz.underlying80 rfl (by kernel_rfl)) ?_
  refine SeqC.next rfl rfl rfl rfl rfl rfl rfl (fun hcx => Runs.loadB rfl rfl Tryz.underlying26 rfl k0 rfl) ?_
  refine SeqC.nextCE (Φ := fun v _ => ∃ A c, v = .slice A D.files.length c) rfl rfl rfl rfl rfl rfl rfl (fun hcx => Enters.func rfl rfl rfl (run_enter Tryz.func31 (by kernel_rfl) rfl)) (fun hcx => (names_any B gd D _ dk).mono ?_) ?_
  · rintro e w' ⟨v, rfl, own, hb⟩
    obtain ⟨A, c, rfl, -⟩ := own.reads
    exact ⟨_, rfl, ⟨A, c, rfl⟩, hb⟩
  intro v28 w28 hv28 hb28
  replace bel := bel.step hb28
  replace k0 := k0.step hb28
  replace dk := dk.step hb28
  refine SeqC.next rfl rfl rfl rfl rfl rfl rfl (fun hcx => (by obtain ⟨A, c, rfl⟩ := hv28 hcx; exact Runs.len rfl rfl Tryz.underlying22)) ?_
  refine SeqC.next rfl rfl rfl rfl rfl rfl rfl (fun hcx => Runs.addI rfl rfl rfl (by omega) (by omega)) ?_
  refine SeqC.next rfl rfl rfl rfl rfl rfl rfl (fun hcx => Runs.leq rfl rfl rfl) ?_
  refine SeqC.orG rfl rfl rfl rfl rfl rfl rfl rfl rfl rfl rfl ?_
  refine SeqC.and rfl rfl rfl rfl rfl rfl rfl ?_
  refine Seq.val (Runs.move rfl rfl) rfl rfl rfl ?_
  refine SeqC.start ?_
  refine SeqC.open rfl rfl rfl rfl rfl rfl rfl (fun hcx => Runs.move rfl rfl) ?_
  refine SeqC.next rfl rfl rfl rfl rfl rfl rfl (fun hcx => Runs.nilCheck rfl rfl) ?_
  refine SeqC.next rfl rfl rfl rfl rfl rfl rfl (fun hcx => Runs.fieldB 2 rfl rfl Tryz.underlying80 rfl (by kernel_rfl)) ?_
  refine SeqC.next rfl rfl rfl rfl rfl rfl rfl (fun hcx => Runs.loadB rfl rfl Tryz.underlying3 rfl k0 rfl) ?_
  refine SeqC.next rfl rfl rfl rfl rfl rfl rfl (fun hcx => Runs.leq rfl rfl rfl) ?_
  refine SeqC.and rfl rfl rfl rfl rfl rfl rfl ?_
  refine Seq.val (Runs.assign rfl rfl) rfl rfl rfl ?_
  refine Seq.nil ?_
  refine Post.weak (F' := [(0, _), (1, _), (4, _), (5, _)]) ⟨rfl, rfl, rfl, rfl, trivial⟩ ?_
  refine Post.then_ ?_
  refine Cd.ret ?_
  refine Post.end1 rfl rfl (.inl rfl) ?_
  refine ⟨?_, bel⟩
  have e1 : decide ((W.count : Int) = 0) = decide (W.count = 0) := decide_eq_decide.2 (by omega)
  have e2 : decide ((D.files.length : Int) + 2 ≤ 200) = decide (D.files.length + 2 ≤ 200) := decide_eq_decide.2 (by omega)
  have e3 : decide ((W.num : Int) ≤ 999999) = decide (W.num ≤ 999999) := decide_eq_decide.2 (by omega)
  unfold roomW
  rw [← e1, ← e2, ← e3]
theorem lay_any (B g0 gd : Nat) (D : Dk) (nm s : List Nat) (W : Wl) (w : World) (gv : Gv w) (hgB : 4 < B) (k0 : Blk w g0 80 (W.cs gd nm)) (dk : DkAt w B gd D) (hnm : Byt nm) (hnl : nm.length ≤ 8) (hn : W.num ≤ 999999) (hc : W.count ≤ 1000000) (hs : Byt s) (hsl : s.length ≤ 1000000) :
    Calls Tryz.prog 41 #[.pointer (some ⟨g0, 0, none⟩), .string (strOf s)] w fun e w' => e = .returned (.int .i64 (D.lay nm W.num W.count s).2) ∧ DkAt w' B gd (D.lay nm W.num W.count s).1 ∧ Df B w w' := by
  have df := Df.refl B w
  obtain ⟨num, count, size, broken⟩ := W
  simp only at hn hc
  unfold Wl.cs at k0
  simp only at k0 ⊢
  have hlb := fileN_byt num hnm logK_byt
  have hll : (fileN nm num logK).length ≤ 1000 := by rw [fileN_len hn]; show nm.length + 7 + 4 ≤ _; omega
  unfold Dk.lay
  refine Calls.start 44 Tryz.func41 rfl rfl rfl ?_
  refine Cd.seq ?_
  refine Cd.region ?_
  refine Seq.val (Runs.assign rfl rfl) rfl rfl rfl ?_
  refine Seq.nil ?_
  refine Post.weak (F' := [(0, _), (1, _), (4, _)]) ⟨rfl, rfl, rfl, trivial⟩ ?_
  refine Post.then_ ?_
  refine Cd.seq ?_
  refine Cd.region ?_
  refine Seq.val (Runs.move rfl rfl) rfl rfl rfl ?_
  refine Seq.val (Runs.move rfl rfl) rfl rfl rfl ?_
  refine Seq.val (Runs.nilCheck rfl rfl) rfl rfl rfl ?_
  refine Seq.val (Runs.fieldB 2 rfl rfl Tryz.underlying80 rfl (by kernel_rfl)) rfl rfl rfl ?_
  refine Seq.val (Runs.loadB rfl rfl Tryz.underlying3 rfl k0 rfl) rfl rfl rfl ?_
  refine Seq.call (Enters.func rfl rfl rfl (run_enter Tryz.func50 (by kernel_rfl) rfl)) rfl rfl rfl (file_any g0 gd num nm logK num count size broken _ gv k0 hn (by omega) (by decide)) ?_
  rintro e w5 ⟨rfl, hb5⟩
  refine ⟨_, rfl, ?_⟩
  replace df := df.step hb5
  replace dk := dk.step hb5
  replace k0 := k0.step hb5
  replace gv := gv.step hb5
  obtain ⟨lg, hlg⟩ : ∃ x, x = fileN nm num logK := ⟨_, rfl⟩
  rw [← hlg] at hlb hll
  rw [← hlg]
  refine Seq.val (Runs.assign rfl rfl) rfl rfl rfl ?_
  refine Seq.nil ?_
  refine Post.weak (F' := [(0, _), (1, _), (4, _), (5, _)]) ⟨rfl, rfl, rfl, rfl, trivial⟩ ?_
  refine Post.then_ ?_
  refine Cd.seq ?_
  refine Cd.seq ?_
  refine Cd.region ?_
  refine Seq.val (Runs.move rfl rfl) rfl rfl rfl ?_
  refine Seq.val (Runs.nilCheck rfl rfl) rfl rfl rfl ?_
  refine Seq.val (Runs.fieldB 0 rfl rfl Tryz.underlying80 rfl (by kernel_rfl)) rfl rfl rfl ?_
  refine Seq.val (Runs.loadB rfl rfl Tryz.underlying26 rfl k0 rfl) rfl rfl rfl ?_
  refine Seq.val (Runs.move rfl rfl) rfl rfl rfl ?_
  refine Seq.val (Runs.move rfl rfl) rfl rfl rfl ?_
  refine Seq.call (Enters.func rfl rfl rfl (run_enter Tryz.func17 (by kernel_rfl) rfl)) rfl rfl rfl (append_d_any B gd D lg s _ dk hlb hs (by omega) (by omega)) ?_
  clear dk
  rintro e w1 ⟨rfl, dk, fw1⟩
  refine ⟨_, rfl, ?_⟩
  replace df := df.df fw1
  replace k0 := k0.df fw1
  replace gv := gv.df fw1
  refine Seq.val (Runs.assign rfl rfl) rfl rfl rfl ?_
  refine Seq.nil ?_
  refine Post.weak (F' := [(0, _), (1, _), (4, _), (5, _), (6, _)]) ⟨rfl, rfl, rfl, rfl, rfl, trivial⟩ ?_
  refine Post.then_ ?_
  refine Cd.seq ?_
  refine Cd.region ?_
  refine Seq.val (Runs.move rfl rfl) rfl rfl rfl ?_
  refine Seq.val (Runs.neqI rfl rfl rfl) rfl rfl rfl ?_
  refine Seq.nil ?_
  refine Post.weak (F' := [(0, _), (1, _), (4, _), (5, _), (6, _), (22, _)]) ⟨rfl, rfl, rfl, rfl, rfl, rfl, trivial⟩ ?_
  refine Post.then_ ?_
  refine Cd.cond rfl (fun h => ?_) (fun h => ?_)
  · have h : D.appendE lg s ≠ 0 := by simpa using h
    rw [if_pos h]
    refine Cd.seq ?_
    refine Cd.region ?_
    refine Seq.val (Runs.move rfl rfl) rfl rfl rfl ?_
    refine Seq.val (Runs.assign rfl rfl) rfl rfl rfl ?_
    refine Seq.nil ?_
    refine Post.weak (F' := [(0, _), (1, _), (4, _), (5, _), (6, _), (22, _)]) ⟨rfl, rfl, rfl, rfl, rfl, rfl, trivial⟩ ?_
    refine Post.then_ ?_
    refine Cd.ret ?_
    refine Post.then_ret ?_
    refine Post.end1 rfl rfl (.inl rfl) ?_
    exact ⟨rfl, dk, df⟩
  have h : ¬ (D.appendE lg s ≠ 0) := by simpa using h
  rw [if_neg h]
  obtain ⟨D1, hD1⟩ : ∃ x, x = D.append lg s := ⟨_, rfl⟩
  rw [← hD1] at dk
  rw [← hD1]
  refine Cd.skip ?_
  refine Post.then_ ?_
  refine Cd.seq ?_
  refine Cd.seq ?_
  refine Cd.region ?_
  refine Seq.val (Runs.move rfl rfl) rfl rfl rfl ?_
  refine Seq.val (Runs.nilCheck rfl rfl) rfl rfl rfl ?_
  refine Seq.val (Runs.fieldB 0 rfl rfl Tryz.underlying80 rfl (by kernel_rfl)) rfl rfl rfl ?_
  refine Seq.val (Runs.loadB rfl rfl Tryz.underlying26 rfl k0 rfl) rfl rfl rfl ?_
  refine Seq.val (Runs.move rfl rfl) rfl rfl rfl ?_
  refine Seq.call (Enters.func rfl rfl rfl (run_enter Tryz.func27 (by kernel_rfl) rfl)) rfl rfl rfl (sync_any B gd D1 lg _ dk hlb (by omega)) ?_
  clear dk
  rintro e w2 ⟨rfl, dk, fw2⟩
  refine ⟨_, rfl, ?_⟩
  replace df := df.df fw2
  replace k0 := k0.df fw2
  replace gv := gv.df fw2
  refine Seq.val (Runs.assign rfl rfl) rfl rfl rfl ?_
  refine Seq.nil ?_
  refine Post.weak (F' := [(0, _), (1, _), (4, _), (5, _), (6, _), (7, _), (22, _)]) ⟨rfl, rfl, rfl, rfl, rfl, rfl, rfl, trivial⟩ ?_
  refine Post.then_ ?_
  refine Cd.seq ?_
  refine Cd.region ?_
  refine Seq.val (Runs.move rfl rfl) rfl rfl rfl ?_
  refine Seq.val (Runs.neqI rfl rfl rfl) rfl rfl rfl ?_
  refine Seq.nil ?_
  refine Post.weak (F' := [(0, _), (1, _), (4, _), (5, _), (6, _), (7, _), (22, _), (31, _)]) ⟨rfl, rfl, rfl, rfl, rfl, rfl, rfl, rfl, trivial⟩ ?_
  refine Post.then_ ?_
  refine Cd.cond rfl (fun h => ?_) (fun h => ?_)
  · have h : D1.thereE [lg] lg ≠ 0 := by simpa using h
    rw [if_pos h]
    refine Cd.seq ?_
    refine Cd.region ?_
    refine Seq.val (Runs.move rfl rfl) rfl rfl rfl ?_
    refine Seq.val (Runs.assign rfl rfl) rfl rfl rfl ?_
    refine Seq.nil ?_
    refine Post.weak (F' := [(0, _), (1, _), (4, _), (5, _), (6, _), (7, _), (22, _), (31, _)]) ⟨rfl, rfl, rfl, rfl, rfl, rfl, rfl, rfl, trivial⟩ ?_
    refine Post.then_ ?_
    refine Cd.ret ?_
    refine Post.then_ret ?_
    refine Post.end1 rfl rfl (.inl rfl) ?_
    exact ⟨rfl, dk, df⟩
  have h : ¬ (D1.thereE [lg] lg ≠ 0) := by simpa using h
  rw [if_neg h]
  refine Cd.skip ?_
  refine Post.then_ ?_
  refine Cd.seq ?_
  refine Cd.draw 10 (by kernel_rfl) [] (.inl rfl) rfl Grow Grow.refl (fun _ _ _ => Grow.trans) ?_
  intro w3 hw3 zw3
  replace df := df.step hw3
  replace dk := dk.step hw3
  replace k0 := k0.step hw3
  replace gv := gv.step hw3
  have zlt := k0.lt
  refine Dr.val Grow.refl rfl (fun w hG => Runs.move rfl rfl) rfl ?_
  refine Dr.val Grow.refl rfl (fun w hG => Runs.move rfl rfl) rfl ?_
  refine Dr.val Grow.refl rfl (fun w hG => Runs.nilCheck rfl rfl) rfl ?_
  refine Dr.val Grow.refl rfl (fun w hG => Runs.fieldB 2 rfl rfl Tryz.underlying80 rfl (by kernel_rfl)) rfl ?_
  refine Dr.val Grow.refl rfl (fun w hG => Runs.loadB rfl rfl Tryz.underlying3 rfl (k0.step hG) rfl) rfl ?_
  refine Dr.val Grow.refl rfl (fun w hG => Runs.move rfl rfl) rfl ?_
  refine Dr.val Grow.refl rfl (fun w hG => Runs.nilCheck rfl rfl) rfl ?_
  refine Dr.val Grow.refl rfl (fun w hG => Runs.fieldB 3 rfl rfl Tryz.underlying80 rfl (by kernel_rfl)) rfl ?_
  refine Dr.val Grow.refl rfl (fun w hG => Runs.loadB rfl rfl Tryz.underlying3 rfl (k0.step hG) rfl) rfl ?_
  refine Dr.val Grow.refl rfl (fun w hG => Runs.addI rfl rfl rfl (by omega) (by omega)) rfl ?_
  refine Dr.nil ?_
  refine FinX.done (F' := [(0, _), (1, _), (4, _), (5, _), (6, _), (7, _), (22, _), (31, _), (33, _), (37, _), (42, _)]) rfl ⟨rfl, rfl, rfl, rfl, rfl, rfl, rfl, rfl, rfl, rfl, rfl, trivial⟩ ?_
  intro w4 hw4 fw4
  replace df := df.step hw4
  replace dk := dk.step hw4
  replace k0 := k0.step hw4
  replace gv := gv.step hw4
  have e41 : (count : Int) + 1 = ((count + 1 : Nat) : Int) := by omega
  rw [e41]
  refine Seq.call (Enters.func rfl rfl rfl (run_enter Tryz.func67 (by kernel_rfl) rfl)) rfl rfl rfl (note_any B g0 gd num (count + 1) (D1.sync lg) nm num count size broken _ gv hgB k0 dk hn hnm hnl (by omega)) ?_
  clear dk
  rintro e w5 ⟨rfl, dk, fw5⟩
  refine ⟨_, rfl, ?_⟩
  replace df := df.df fw5
  replace k0 := k0.df fw5
  replace gv := gv.df fw5
  refine Seq.val (Runs.assign rfl rfl) rfl rfl rfl ?_
  refine Seq.nil ?_
  refine Post.weak (F' := [(0, _), (1, _), (4, _), (5, _), (6, _), (7, _), (22, _), (31, _)]) ⟨rfl, rfl, rfl, rfl, rfl, rfl, rfl, rfl, trivial⟩ ?_
  refine Post.then_ ?_
  refine Cd.ret ?_
  refine Post.end1 rfl rfl (.inl rfl) ?_
  exact ⟨rfl, dk, df⟩
end Go.Proofs.YtnlepoplncjliaaGreatDoor
