/-
  Texts that were joined: WbK, WbL, WbM, WcC, WeC, WdA, WdB, WeD, WfA, WfB, WfC, TOpen, WdD, WfD. Conditions: what each theorem names.
-/
import Derived.Test.YtnlepoplncjliaaGreatDoorY2
import Derived.ProofKit
import Derived.OpenShut
import Derived.Lib.SmallJoins
import Derived.Deep.Slices
import Derived.Deep.Fields
import Derived.ChangeSame
import Derived.LaidMore
import Derived.Lib.LaidTab
import Derived.Shelf.Vars
set_option linter.unusedSectionVars false
namespace Go.Proofs.YtnlepoplncjliaaGreatDoor
open Go.RowKit

section
variable {P : Program} {ops : Array Oper} {Q : Exit → Act → World → Prop} {rest : List Oper} {o : Oper} {n d : Nat} {F : List (Nat × Value)} {C : Cxs} {w w' : World} {v : Value} {c : Bool} {H : List (Nat × Value)}
/-- A call under the same guard, of whose value only something is known. -/
theorem SeqC.nextCE {f : FuncId} {args : Array Value} {j t : Nat} {b want : Bool} {c0 : Bool} {Φ : Value → World → Prop} (hg : o.guard = some (j, want)) (ht : (ops[j]?).bind (·.dst) = some t) (hb : look (match C with | [] => F | (_, H) :: _ => H) t = some (.bool b)) (hc0 : c0 = (topX C && (b == want))) (hd : o.dst = some d) (hn : Nat.blt d n = true) (hf : freeX d ((c0, H) :: C) F = true)
    (hrun : c0 = true → Enters P (evF (allX ((c0, H) :: C) F)) o w f args) (hcall : c0 = true → Calls P f args w fun e w' => ∃ v, e = .returned v ∧ Φ v w' ∧ Grow w w') (h : ∀ v w', (c0 = true → Φ v w') → Grow w w' → SeqC P ops Q rest n ((c0, (d, v) :: H) :: C) F w') : SeqC P ops Q (o :: rest) n ((c0, H) :: C) F w := by
  intro a ha hC
  obtain ⟨h1, h2, h3, h4⟩ := id hC
  refine wpList_step fun K hK => ?_
  have hwant : Region.wanted o (yielded ops a.tmps) = c0 := by
    rw [hc0]
    have hy : yielded ops a.tmps j = if topX C = true then some b else none := by
      unfold yielded
      simp only [ht, Option.bind_some]
      cases C with
      | nil => simp [topX, ha.slot t _ hb]
      | cons x r =>
        obtain ⟨c1, H1⟩ := x
        obtain ⟨g1, g2, g3, g4⟩ := h4
        cases c1
        · simp [topX, g3 rfl t _ hb, undef]
        · simp [topX, g2 rfl t _ hb]
    unfold Region.wanted
    simp only [hg, hy]
    cases topX C <;> cases b <;> cases want <;> rfl
  rw [hwant]
  have hbase := freeX_base hf
  have hne : ∀ t u, look H t = some u → d ≠ t := fun t u ht e => by
    subst e
    simp only [freeX, Bool.and_eq_true] at hf
    rw [ht] at hf; simp at hf
  have hf2 : freeX d C F = true := by simp only [freeX, Bool.and_eq_true] at hf; exact hf.2
  cases hc : c0 with
  | true =>
    rw [if_pos rfl]
    unfold Oper.wp
    rw [hrun hc a.eval (HoldX.fr ha hC hc).ev, Oper.upon_enter, hd]
    refine (hcall hc).mono fun e w' ⟨v, he', hΦ, hgr⟩ => ?_
    subst he'
    refine hK _ _ (h v _ (fun _ => hΦ) hgr _ (ha.keep hbase) ⟨h1, fun _ t' u hu => ?_, fun e => (by rw [hc] at e; cases e), h4.put hf2⟩)
    rcases look_put hu with ⟨rfl, rfl⟩ | ⟨-, hu⟩
    · simp [Act.put, ha.size, Nat.blt_eq.mp hn]
    · simp only [Act.put]; rw [Array.getElem?_setIfInBounds_ne (hne t' u hu)]; exact h2 hc t' u hu
  | false =>
    rw [if_neg (by simp), hd]
    refine hK _ _ (h undef _ (fun e => by rw [hc] at e; cases e) (Grow.refl _) _ (ha.keep hbase) ⟨h1, fun e => (by rw [hc] at e; cases e), fun _ t' u hu => ?_, h4.put hf2⟩)
    rcases look_put hu with ⟨rfl, rfl⟩ | ⟨-, hu⟩
    · simp [Act.put, ha.size, Nat.blt_eq.mp hn]
    · simp only [Act.put]; rw [Array.getElem?_setIfInBounds_ne (hne t' u hu)]; exact h3 hc t' u hu
end
/-- Whether there is room for a frame. -/
def roomW (D : Dk) (num count len : Nat) : Bool := decide ((len : Int) + 24 ≤ D.room - D.used) && (!decide (count = 0) || decide (D.files.length + 2 ≤ 200)) && decide (num ≤ 999999)
/-- A frame laid, and marked. -/
def Dk.lay (D : Dk) (nm : List Nat) (num count : Nat) (s : List Nat) : Dk × Int :=
  if D.appendE (fileN nm num logK) s ≠ 0 then (D.append (fileN nm num logK) s, D.appendE (fileN nm num logK) s)
  else if (D.append (fileN nm num logK) s).thereE [fileN nm num logK] (fileN nm num logK) ≠ 0 then ((D.append (fileN nm num logK) s).sync (fileN nm num logK), (D.append (fileN nm num logK) s).thereE [fileN nm num logK] (fileN nm num logK))
  else ((D.append (fileN nm num logK) s).sync (fileN nm num logK)).note (fileN nm num ackK) (count + 1)
/-- A log under way. -/
structure Wl where
  num : Nat
  count : Nat
  size : Nat
  broken : Bool
def Wl.cs (W : Wl) (gd : Nat) (nm : List Nat) : Array Value := wlCs gd nm (W.num : Int) (W.count : Int) (W.size : Int) W.broken
def Wl.rotate (W : Wl) : Wl := if 0 < W.count then ⟨W.num + 1, 0, 0, W.broken⟩ else W
def Wl.least (W : Wl) (n : Int) : Wl := if (W.num : Int) < n then ⟨n.toNat, 0, 0, W.broken⟩ else W
/-- Behind a rotation, where the segment is full. -/
def Wl.turned (W : Wl) (data : List Nat) : Wl := if 1048576 - (W.size : Int) < ((data.length + 12 : Nat) : Int) then W.rotate else W
/-- A record behind the others. -/
def appW (W : Wl) (D : Dk) (nm data : List Nat) : Wl × Dk × Int :=
  if 131072 < data.length then (W, D, 4)
  else if W.broken = true then (W, D, 6)
  else if roomW D (W.turned data).num (W.turned data).count (data.length + 12) = false then (W.turned data, D, 5)
  else if (D.lay nm (W.turned data).num (W.turned data).count (frameN data)).2 ≠ 0 then ({ W.turned data with broken := true }, (D.lay nm (W.turned data).num (W.turned data).count (frameN data)).1, (D.lay nm (W.turned data).num (W.turned data).count (frameN data)).2)
  else (⟨(W.turned data).num, (W.turned data).count + 1, (W.turned data).size + (data.length + 12), (W.turned data).broken⟩, (D.lay nm (W.turned data).num (W.turned data).count (frameN data)).1, 0)
theorem room_any (B g0 gd : Nat) (D : Dk) (nm s : List Nat) (W : Wl) (w : World) (k0 : Blk w g0 80 (W.cs gd nm)) (dk : DkAt w B gd D) (hs : s.length ≤ 1000000) :
    Calls Tryz.prog 40 #[.pointer (some ⟨g0, 0, none⟩), .string (strOf s)] w fun e w' => e = .returned (.bool (roomW D W.num W.count s.length)) ∧ Grow w w' := by
  have bel := Below.refl w.heap.size w
  have hok := dk.ok
  have hlen := hok.most
  unfold Wl.cs at k0
  refine Calls.start 41 Tryz.func40 rfl rfl rfl ?_
  refine Cd.seq ?_
  refine Cd.region ?_
  refine Seq.val (Runs.assign rfl rfl) rfl rfl rfl ?_
  refine Seq.nil ?_
  refine Post.weak (F' := [(0, _), (1, _), (4, _)]) ⟨rfl, rfl, rfl, trivial⟩ ?_
  refine Post.then_ ?_
  refine Cd.seq ?_
  refine Cd.region ?_
  refine Seq.val (Runs.move rfl rfl) rfl rfl rfl ?_
  refine Seq.val (Runs.nilCheck rfl rfl) rfl rfl rfl ?_
  refine Seq.val (Runs.fieldB 3 rfl rfl Tryz.underlying80 rfl (by kernel_rfl)) rfl rfl rfl ?_
  refine Seq.val (Runs.loadB rfl rfl Tryz.underlying3 rfl k0 rfl) rfl rfl rfl ?_
  refine Seq.val (Runs.eqlI rfl rfl rfl) rfl rfl rfl ?_
  refine Seq.val (Runs.assign rfl rfl) rfl rfl rfl ?_
  refine Seq.nil ?_
  refine Post.weak (F' := [(0, _), (1, _), (4, _), (5, _)]) ⟨rfl, rfl, rfl, rfl, trivial⟩ ?_
  refine Post.then_ ?_
  refine Cd.seq ?_
  refine Cd.region ?_
  refine Seq.val (Runs.move rfl rfl) rfl rfl rfl ?_
  refine Seq.val (Runs.lenL rfl rfl Tryz.underlying9) rfl rfl rfl ?_
  refine Seq.val (Runs.addI rfl rfl rfl (by omega) (by omega)) rfl rfl rfl ?_
  refine Seq.val (Runs.move rfl rfl) rfl rfl rfl ?_
  refine Seq.val (Runs.nilCheck rfl rfl) rfl rfl rfl ?_
  refine Seq.val (Runs.fieldB 0 rfl rfl Tryz.underlying80 rfl (by kernel_rfl)) rfl rfl rfl ?_
  refine Seq.val (Runs.loadB rfl rfl Tryz.underlying26 rfl k0 rfl) rfl rfl rfl ?_
  refine Seq.call (Enters.func rfl rfl rfl (run_enter Tryz.func14 (by kernel_rfl) rfl)) rfl rfl rfl (free_any B gd D _ dk) ?_
  rintro e w5 ⟨rfl, hb5⟩
  refine ⟨_, rfl, ?_⟩
  replace bel := bel.step hb5
  replace k0 := k0.step hb5
  replace dk := dk.step hb5
  refine Seq.val (Runs.leq rfl rfl rfl) rfl rfl rfl ?_
  refine Seq.val (Runs.move rfl rfl) rfl rfl rfl ?_
  refine SeqC.start ?_
  refine SeqC.open rfl rfl rfl rfl rfl rfl rfl (fun hcx => Runs.move rfl rfl) ?_
  refine SeqC.next rfl rfl rfl rfl rfl rfl rfl (fun hcx => Runs.not rfl rfl) ?_
  refine SeqC.next rfl rfl rfl rfl rfl rfl rfl (fun hcx => Runs.move rfl rfl) ?_
  refine SeqC.open rfl rfl rfl rfl rfl rfl rfl (fun hcx => Runs.move rfl rfl) ?_
  refine SeqC.next rfl rfl rfl rfl rfl rfl rfl (fun hcx => Runs.nilCheck rfl rfl) ?_
  refine SeqC.next rfl rfl rfl rfl rfl rfl rfl (fun hcx => Runs.fieldB 0 rfl rfl Tryz.underlying80 rfl (by kernel_rfl)) ?_
  refine SeqC.next rfl rfl rfl rfl rfl rfl rfl (fun hcx => Runs.loadB rfl rfl Tryz.underlying26 rfl k0 rfl) ?_
  refine SeqC.nextCE (Φ := fun v _ => ∃ A c, v = .slice A D.files.length c) rfl rfl rfl rfl rfl rfl rfl (fun hcx => Enters.func rfl rfl rfl (run_enter Tryz.func31 (by kernel_rfl) rfl)) (fun hcx => (names_any B gd D _ dk).mono ?_) ?_
  · rintro e w' ⟨v, rfl, own, hb⟩
    obtain ⟨A, c, rfl, -⟩ := own.reads
    exact ⟨_, rfl, ⟨A, c, rfl⟩, hb⟩
  intro v28 w28 hv28 hb28
  replace bel := bel.step hb28
  replace k0 := k0.step hb28
  replace dk := dk.step hb28
  refine SeqC.next rfl rfl rfl rfl rfl rfl rfl (fun hcx => (by obtain ⟨A, c, rfl⟩ := hv28 hcx; exact Runs.len rfl rfl Tryz.underlying22)) ?_
  refine SeqC.next rfl rfl rfl rfl rfl rfl rfl (fun hcx => Runs.addI rfl rfl rfl (by omega) (by omega)) ?_
  refine SeqC.next rfl rfl rfl rfl rfl rfl rfl (fun hcx => Runs.leq rfl rfl rfl) ?_
  refine SeqC.orG rfl rfl rfl rfl rfl rfl rfl rfl rfl rfl rfl ?_
  refine SeqC.and rfl rfl rfl rfl rfl rfl rfl ?_
  refine Seq.val (Runs.move rfl rfl) rfl rfl rfl ?_
  refine SeqC.start ?_
  refine SeqC.open rfl rfl rfl rfl rfl rfl rfl (fun hcx => Runs.move rfl rfl) ?_
  refine SeqC.next rfl rfl rfl rfl rfl rfl rfl (fun hcx => Runs.nilCheck rfl rfl) ?_
  refine SeqC.next rfl rfl rfl rfl rfl rfl rfl (fun hcx => Runs.fieldB 2 rfl rfl Tryz.underlying80 rfl (by kernel_rfl)) ?_
  refine SeqC.next rfl rfl rfl rfl rfl rfl rfl (fun hcx => Runs.loadB rfl rfl Tryz.underlying3 rfl k0 rfl) ?_
  refine SeqC.next rfl rfl rfl rfl rfl rfl rfl (fun hcx => Runs.leq rfl rfl rfl) ?_
  refine SeqC.and rfl rfl rfl rfl rfl rfl rfl ?_
  refine Seq.val (Runs.assign rfl rfl) rfl rfl rfl ?_
  refine Seq.nil ?_
  refine Post.weak (F' := [(0, _), (1, _), (4, _), (5, _)]) ⟨rfl, rfl, rfl, rfl, trivial⟩ ?_
  refine Post.then_ ?_
  refine Cd.ret ?_
  refine Post.end1 rfl rfl (.inl rfl) ?_
  refine ⟨?_, bel⟩
  have e1 : decide ((W.count : Int) = 0) = decide (W.count = 0) := decide_eq_decide.2 (by omega)
  have e2 : decide ((D.files.length : Int) + 2 ≤ 200) = decide (D.files.length + 2 ≤ 200) := decide_eq_decide.2 (by omega)
  have e3 : decide ((W.num : Int) ≤ 999999) = decide (W.num ≤ 999999) := decide_eq_decide.2 (by omega)
  unfold roomW
  rw [← e1, ← e2, ← e3]
theorem lay_any (B g0 gd : Nat) (D : Dk) (nm s : List Nat) (W : Wl) (w : World) (gv : Gv w) (hgB : 4 < B) (k0 : Blk w g0 80 (W.cs gd nm)) (dk : DkAt w B gd D) (hnm : Byt nm) (hnl : nm.length ≤ 8) (hn : W.num ≤ 999999) (hc : W.count ≤ 1000000) (hs : Byt s) (hsl : s.length ≤ 1000000) :
    Calls Tryz.prog 41 #[.pointer (some ⟨g0, 0, none⟩), .string (strOf s)] w fun e w' => e = .returned (.int .i64 (D.lay nm W.num W.count s).2) ∧ DkAt w' B gd (D.lay nm W.num W.count s).1 ∧ Df B w w' := by
  have df := Df.refl B w
  obtain ⟨num, count, size, broken⟩ := W
  simp only at hn hc
  unfold Wl.cs at k0
  simp only at k0 ⊢
  have hlb := fileN_byt num hnm logK_byt
  have hll : (fileN nm num logK).length ≤ 1000 := by rw [fileN_len hn]; show nm.length + 7 + 4 ≤ _; omega
  unfold Dk.lay
  refine Calls.start 44 Tryz.func41 rfl rfl rfl ?_
  refine Cd.seq ?_
  refine Cd.region ?_
  refine Seq.val (Runs.assign rfl rfl) rfl rfl rfl ?_
  refine Seq.nil ?_
  refine Post.weak (F' := [(0, _), (1, _), (4, _)]) ⟨rfl, rfl, rfl, trivial⟩ ?_
  refine Post.then_ ?_
  refine Cd.seq ?_
  refine Cd.region ?_
  refine Seq.val (Runs.move rfl rfl) rfl rfl rfl ?_
  refine Seq.val (Runs.move rfl rfl) rfl rfl rfl ?_
  refine Seq.val (Runs.nilCheck rfl rfl) rfl rfl rfl ?_
  refine Seq.val (Runs.fieldB 2 rfl rfl Tryz.underlying80 rfl (by kernel_rfl)) rfl rfl rfl ?_
  refine Seq.val (Runs.loadB rfl rfl Tryz.underlying3 rfl k0 rfl) rfl rfl rfl ?_
  refine Seq.call (Enters.func rfl rfl rfl (run_enter Tryz.func50 (by kernel_rfl) rfl)) rfl rfl rfl (file_any g0 gd num nm logK num count size broken _ gv k0 hn (by omega) (by decide)) ?_
  rintro e w5 ⟨rfl, hb5⟩
  refine ⟨_, rfl, ?_⟩
  replace df := df.step hb5
  replace dk := dk.step hb5
  replace k0 := k0.step hb5
  replace gv := gv.step hb5
  obtain ⟨lg, hlg⟩ : ∃ x, x = fileN nm num logK := ⟨_, rfl⟩
  rw [← hlg] at hlb hll
  rw [← hlg]
  refine Seq.val (Runs.assign rfl rfl) rfl rfl rfl ?_
  refine Seq.nil ?_
  refine Post.weak (F' := [(0, _), (1, _), (4, _), (5, _)]) ⟨rfl, rfl, rfl, rfl, trivial⟩ ?_
  refine Post.then_ ?_
  refine Cd.seq ?_
  refine Cd.seq ?_
  refine Cd.region ?_
  refine Seq.val (Runs.move rfl rfl) rfl rfl rfl ?_
  refine Seq.val (Runs.nilCheck rfl rfl) rfl rfl rfl ?_
  refine Seq.val (Runs.fieldB 0 rfl rfl Tryz.underlying80 rfl (by kernel_rfl)) rfl rfl rfl ?_
  refine Seq.val (Runs.loadB rfl rfl Tryz.underlying26 rfl k0 rfl) rfl rfl rfl ?_
  refine Seq.val (Runs.move rfl rfl) rfl rfl rfl ?_
  refine Seq.val (Runs.move rfl rfl) rfl rfl rfl ?_
  refine Seq.call (Enters.func rfl rfl rfl (run_enter Tryz.func17 (by kernel_rfl) rfl)) rfl rfl rfl (append_d_any B gd D lg s _ dk hlb hs (by omega) (by omega)) ?_
  clear dk
  rintro e w1 ⟨rfl, dk, fw1⟩
  refine ⟨_, rfl, ?_⟩
  replace df := df.df fw1
  replace k0 := k0.df fw1
  replace gv := gv.df fw1
  refine Seq.val (Runs.assign rfl rfl) rfl rfl rfl ?_
  refine Seq.nil ?_
  refine Post.weak (F' := [(0, _), (1, _), (4, _), (5, _), (6, _)]) ⟨rfl, rfl, rfl, rfl, rfl, trivial⟩ ?_
  refine Post.then_ ?_
  refine Cd.seq ?_
  refine Cd.region ?_
  refine Seq.val (Runs.move rfl rfl) rfl rfl rfl ?_
  refine Seq.val (Runs.neqI rfl rfl rfl) rfl rfl rfl ?_
  refine Seq.nil ?_
  refine Post.weak (F' := [(0, _), (1, _), (4, _), (5, _), (6, _), (22, _)]) ⟨rfl, rfl, rfl, rfl, rfl, rfl, trivial⟩ ?_
  refine Post.then_ ?_
  refine Cd.cond rfl (fun h => ?_) (fun h => ?_)
  · have h : D.appendE lg s ≠ 0 := by simpa using h
    rw [if_pos h]
    refine Cd.seq ?_
    refine Cd.region ?_
    refine Seq.val (Runs.move rfl rfl) rfl rfl rfl ?_
    refine Seq.val (Runs.assign rfl rfl) rfl rfl rfl ?_
    refine Seq.nil ?_
    refine Post.weak (F' := [(0, _), (1, _), (4, _), (5, _), (6, _), (22, _)]) ⟨rfl, rfl, rfl, rfl, rfl, rfl, trivial⟩ ?_
    refine Post.then_ ?_
    refine Cd.ret ?_
    refine Post.then_ret ?_
    refine Post.end1 rfl rfl (.inl rfl) ?_
    exact ⟨rfl, dk, df⟩
  have h : ¬ (D.appendE lg s ≠ 0) := by simpa using h
  rw [if_neg h]
  obtain ⟨D1, hD1⟩ : ∃ x, x = D.append lg s := ⟨_, rfl⟩
  rw [← hD1] at dk
  rw [← hD1]
  refine Cd.skip ?_
  refine Post.then_ ?_
  refine Cd.seq ?_
  refine Cd.seq ?_
  refine Cd.region ?_
  refine Seq.val (Runs.move rfl rfl) rfl rfl rfl ?_
  refine Seq.val (Runs.nilCheck rfl rfl) rfl rfl rfl ?_
  refine Seq.val (Runs.fieldB 0 rfl rfl Tryz.underlying80 rfl (by kernel_rfl)) rfl rfl rfl ?_
  refine Seq.val (Runs.loadB rfl rfl Tryz.underlying26 rfl k0 rfl) rfl rfl rfl ?_
  refine Seq.val (Runs.move rfl rfl) rfl rfl rfl ?_
  refine Seq.call (Enters.func rfl rfl rfl (run_enter Tryz.func27 (by kernel_rfl) rfl)) rfl rfl rfl (sync_any B gd D1 lg _ dk hlb (by omega)) ?_
  clear dk
  rintro e w2 ⟨rfl, dk, fw2⟩
  refine ⟨_, rfl, ?_⟩
  replace df := df.df fw2
  replace k0 := k0.df fw2
  replace gv := gv.df fw2
  refine Seq.val (Runs.assign rfl rfl) rfl rfl rfl ?_
  refine Seq.nil ?_
  refine Post.weak (F' := [(0, _), (1, _), (4, _), (5, _), (6, _), (7, _), (22, _)]) ⟨rfl, rfl, rfl, rfl, rfl, rfl, rfl, trivial⟩ ?_
  refine Post.then_ ?_
  refine Cd.seq ?_
  refine Cd.region ?_
  refine Seq.val (Runs.move rfl rfl) rfl rfl rfl ?_
  refine Seq.val (Runs.neqI rfl rfl rfl) rfl rfl rfl ?_
  refine Seq.nil ?_
  refine Post.weak (F' := [(0, _), (1, _), (4, _), (5, _), (6, _), (7, _), (22, _), (31, _)]) ⟨rfl, rfl, rfl, rfl, rfl, rfl, rfl, rfl, trivial⟩ ?_
  refine Post.then_ ?_
  refine Cd.cond rfl (fun h => ?_) (fun h => ?_)
  · have h : D1.thereE [lg] lg ≠ 0 := by simpa using h
    rw [if_pos h]
    refine Cd.seq ?_
    refine Cd.region ?_
    refine Seq.val (Runs.move rfl rfl) rfl rfl rfl ?_
    refine Seq.val (Runs.assign rfl rfl) rfl rfl rfl ?_
    refine Seq.nil ?_
    refine Post.weak (F' := [(0, _), (1, _), (4, _), (5, _), (6, _), (7, _), (22, _), (31, _)]) ⟨rfl, rfl, rfl, rfl, rfl, rfl, rfl, rfl, trivial⟩ ?_
    refine Post.then_ ?_
    refine Cd.ret ?_
    refine Post.then_ret ?_
    refine Post.end1 rfl rfl (.inl rfl) ?_
    exact ⟨rfl, dk, df⟩
  have h : ¬ (D1.thereE [lg] lg ≠ 0) := by simpa using h
  rw [if_neg h]
  refine Cd.skip ?_
  refine Post.then_ ?_
  refine Cd.seq ?_
  refine Cd.draw 10 (by kernel_rfl) [] (.inl rfl) rfl Grow Grow.refl (fun _ _ _ => Grow.trans) ?_
  intro w3 hw3 zw3
  replace df := df.step hw3
  replace dk := dk.step hw3
  replace k0 := k0.step hw3
  replace gv := gv.step hw3
  have zlt := k0.lt
  refine Dr.val Grow.refl rfl (fun w hG => Runs.move rfl rfl) rfl ?_
  refine Dr.val Grow.refl rfl (fun w hG => Runs.move rfl rfl) rfl ?_
  refine Dr.val Grow.refl rfl (fun w hG => Runs.nilCheck rfl rfl) rfl ?_
  refine Dr.val Grow.refl rfl (fun w hG => Runs.fieldB 2 rfl rfl Tryz.underlying80 rfl (by kernel_rfl)) rfl ?_
  refine Dr.val Grow.refl rfl (fun w hG => Runs.loadB rfl rfl Tryz.underlying3 rfl (k0.step hG) rfl) rfl ?_
  refine Dr.val Grow.refl rfl (fun w hG => Runs.move rfl rfl) rfl ?_
  refine Dr.val Grow.refl rfl (fun w hG => Runs.nilCheck rfl rfl) rfl ?_
  refine Dr.val Grow.refl rfl (fun w hG => Runs.fieldB 3 rfl rfl Tryz.underlying80 rfl (by kernel_rfl)) rfl ?_
  refine Dr.val Grow.refl rfl (fun w hG => Runs.loadB rfl rfl Tryz.underlying3 rfl (k0.step hG) rfl) rfl ?_
  refine Dr.val Grow.refl rfl (fun w hG => Runs.addI rfl rfl rfl (by omega) (by omega)) rfl ?_
  refine Dr.nil ?_
  refine FinX.done (F' := [(0, _), (1, _), (4, _), (5, _), (6, _), (7, _), (22, _), (31, _), (33, _), (37, _), (42, _)]) rfl ⟨rfl, rfl, rfl, rfl, rfl, rfl, rfl, rfl, rfl, rfl, rfl, trivial⟩ ?_
  intro w4 hw4 fw4
  replace df := df.step hw4
  replace dk := dk.step hw4
  replace k0 := k0.step hw4
  replace gv := gv.step hw4
  have e41 : (count : Int) + 1 = ((count + 1 : Nat) : Int) := by omega
  rw [e41]
  refine Seq.call (Enters.func rfl rfl rfl (run_enter Tryz.func67 (by kernel_rfl) rfl)) rfl rfl rfl (note_any B g0 gd num (count + 1) (D1.sync lg) nm num count size broken _ gv hgB k0 dk hn hnm hnl (by omega)) ?_
  clear dk
  rintro e w5 ⟨rfl, dk, fw5⟩
  refine ⟨_, rfl, ?_⟩
  replace df := df.df fw5
  replace k0 := k0.df fw5
  replace gv := gv.df fw5
  refine Seq.val (Runs.assign rfl rfl) rfl rfl rfl ?_
  refine Seq.nil ?_
  refine Post.weak (F' := [(0, _), (1, _), (4, _), (5, _), (6, _), (7, _), (22, _), (31, _)]) ⟨rfl, rfl, rfl, rfl, rfl, rfl, rfl, rfl, trivial⟩ ?_
  refine Post.then_ ?_
  refine Cd.ret ?_
  refine Post.end1 rfl rfl (.inl rfl) ?_
  exact ⟨rfl, dk, df⟩
end Go.Proofs.YtnlepoplncjliaaGreatDoor

namespace Go.Proofs.YtnlepoplncjliaaGreatDoor
open Go.RowKit

theorem number_any (g0 gd : Nat) (nm : List Nat) (W : Wl) (w : World) (k0 : Blk w g0 80 (W.cs gd nm)) :
    Calls Tryz.prog 20 #[.pointer (some ⟨g0, 0, none⟩)] w fun e w' => e = .returned (.int .i64 (W.num : Int)) ∧ Grow w w' := by
  have bel := Below.refl w.heap.size w
  unfold Wl.cs at k0
  refine Calls.start 9 Tryz.func20 rfl rfl rfl ?_
  refine Cd.seq ?_
  refine Cd.region ?_
  refine Seq.val (Runs.assign rfl rfl) rfl rfl rfl ?_
  refine Seq.nil ?_
  refine Post.weak (F' := [(0, _), (2, _)]) ⟨rfl, rfl, trivial⟩ ?_
  refine Post.then_ ?_
  refine Cd.seq ?_
  refine Cd.seq ?_
  refine Cd.region ?_
  refine Seq.val (Runs.move rfl rfl) rfl rfl rfl ?_
  refine Seq.val (Runs.eqlP rfl rfl rfl Tryz.underlying28) rfl rfl rfl ?_
  refine Seq.nil ?_
  refine Post.weak (F' := [(0, _), (2, _), (4, _)]) ⟨rfl, rfl, rfl, trivial⟩ ?_
  refine Post.then_ ?_
  refine Cd.condF rfl rfl ?_
  refine Cd.skip ?_
  refine Post.then_ ?_
  refine Cd.seq ?_
  refine Cd.region ?_
  refine Seq.val (Runs.move rfl rfl) rfl rfl rfl ?_
  refine Seq.val (Runs.nilCheck rfl rfl) rfl rfl rfl ?_
  refine Seq.val (Runs.fieldB 2 rfl rfl Tryz.underlying80 rfl (by kernel_rfl)) rfl rfl rfl ?_
  refine Seq.val (Runs.loadB rfl rfl Tryz.underlying3 rfl k0 rfl) rfl rfl rfl ?_
  refine Seq.val (Runs.assign rfl rfl) rfl rfl rfl ?_
  refine Seq.nil ?_
  refine Post.weak (F' := [(0, _), (2, _), (4, _)]) ⟨rfl, rfl, rfl, trivial⟩ ?_
  refine Post.then_ ?_
  refine Cd.ret ?_
  refine Post.end1 rfl rfl (.inl rfl) ?_
  exact ⟨rfl, bel⟩
theorem rotate_any (B g0 gd : Nat) (D : Dk) (nm : List Nat) (W : Wl) (w : World) (e0 : B ≤ g0) (hB : B ≤ w.heap.size) (k0 : Blk w g0 80 (W.cs gd nm)) (dk : DkAt w B gd D) (hn : W.num ≤ 1000000000) :
    Calls Tryz.prog 29 #[.pointer (some ⟨g0, 0, none⟩)] w fun e w' => e = .returned (.int .i64 (W.rotate.num : Int)) ∧ Blk w' g0 80 (W.rotate.cs gd nm) ∧ DkAt w' B gd D ∧ Lf B w w' := by
  have lf := Lf.refl B w
  obtain ⟨num, count, size, broken⟩ := W
  simp only at hn
  unfold Wl.cs at k0
  unfold Wl.rotate
  simp only at k0 ⊢
  refine Calls.start 28 Tryz.func29 rfl rfl rfl ?_
  refine Cd.seq ?_
  refine Cd.region ?_
  refine Seq.val (Runs.assign rfl rfl) rfl rfl rfl ?_
  refine Seq.nil ?_
  refine Post.weak (F' := [(0, _), (2, _)]) ⟨rfl, rfl, trivial⟩ ?_
  refine Post.then_ ?_
  refine Cd.seq ?_
  refine Cd.seq ?_
  refine Cd.region ?_
  refine Seq.val (Runs.move rfl rfl) rfl rfl rfl ?_
  refine Seq.val (Runs.eqlP rfl rfl rfl Tryz.underlying28) rfl rfl rfl ?_
  refine Seq.nil ?_
  refine Post.weak (F' := [(0, _), (2, _), (4, _)]) ⟨rfl, rfl, rfl, trivial⟩ ?_
  refine Post.then_ ?_
  refine Cd.condF rfl rfl ?_
  refine Cd.skip ?_
  refine Post.then_ ?_
  refine Cd.seq ?_
  refine Cd.seq ?_
  refine Cd.region ?_
  refine Seq.val (Runs.move rfl rfl) rfl rfl rfl ?_
  refine Seq.val (Runs.nilCheck rfl rfl) rfl rfl rfl ?_
  refine Seq.val (Runs.fieldB 3 rfl rfl Tryz.underlying80 rfl (by kernel_rfl)) rfl rfl rfl ?_
  refine Seq.val (Runs.loadB rfl rfl Tryz.underlying3 rfl k0 rfl) rfl rfl rfl ?_
  refine Seq.val (Runs.gtr rfl rfl rfl) rfl rfl rfl ?_
  refine Seq.nil ?_
  refine Post.weak (F' := [(0, _), (2, _), (4, _), (9, _)]) ⟨rfl, rfl, rfl, rfl, trivial⟩ ?_
  refine Post.then_ ?_
  refine Cd.cond rfl (fun h => ?_) (fun h => ?_)
  · have h : 0 < count := by
      have h' : (0 : Int) < (count : Int) := by simpa using h
      omega
    rw [if_pos h]
    refine Cd.region ?_
    refine Seq.val (Runs.move rfl rfl) rfl rfl rfl ?_
    refine Seq.val (Runs.move rfl rfl) rfl rfl rfl ?_
    refine Seq.val (Runs.move rfl rfl) rfl rfl rfl ?_
    refine Seq.val (Runs.move rfl rfl) rfl rfl rfl ?_
    refine Seq.val (Runs.nilCheck rfl rfl) rfl rfl rfl ?_
    refine Seq.val (Runs.fieldB 2 rfl rfl Tryz.underlying80 rfl (by kernel_rfl)) rfl rfl rfl ?_
    refine Seq.val (Runs.loadB rfl rfl Tryz.underlying3 rfl k0 rfl) rfl rfl rfl ?_
    refine Seq.val (Runs.addI rfl rfl rfl (by omega) (by omega)) rfl rfl rfl ?_
    refine Seq.val (Runs.nilCheck rfl rfl) rfl rfl rfl ?_
    refine Seq.val (Runs.fieldB 2 rfl rfl Tryz.underlying80 rfl (by kernel_rfl)) rfl rfl rfl ?_
    refine Seq.store1 rfl rfl rfl (by kernel_rfl) rfl rfl k0 rfl rfl rfl ?_
    intro w1 pw1
    replace lf := lf.put k0 pw1 e0
    replace dk := dk.put k0 pw1 e0
    replace k0 := pw1.blk
    refine Seq.val (Runs.nilCheck rfl rfl) rfl rfl rfl ?_
    refine Seq.val (Runs.fieldB 3 rfl rfl Tryz.underlying80 rfl (by kernel_rfl)) rfl rfl rfl ?_
    refine Seq.store1 rfl rfl rfl (by kernel_rfl) rfl rfl k0 rfl rfl rfl ?_
    intro w2 pw2
    replace lf := lf.put k0 pw2 e0
    replace dk := dk.put k0 pw2 e0
    replace k0 := pw2.blk
    refine Seq.val (Runs.nilCheck rfl rfl) rfl rfl rfl ?_
    refine Seq.val (Runs.fieldB 4 rfl rfl Tryz.underlying80 rfl (by kernel_rfl)) rfl rfl rfl ?_
    refine Seq.store1 rfl rfl rfl (by kernel_rfl) rfl rfl k0 rfl rfl rfl ?_
    intro w3 pw3
    replace lf := lf.put k0 pw3 e0
    replace dk := dk.put k0 pw3 e0
    replace k0 := pw3.blk
    refine Seq.nil ?_
    refine Post.weak (F' := [(0, _), (2, _), (4, _), (9, _)]) ⟨rfl, rfl, rfl, rfl, trivial⟩ ?_
    refine Post.then_ ?_
    refine Cd.seq ?_
    refine Cd.region ?_
    refine Seq.val (Runs.move rfl rfl) rfl rfl rfl ?_
    refine Seq.val (Runs.nilCheck rfl rfl) rfl rfl rfl ?_
    refine Seq.val (Runs.fieldB 2 rfl rfl Tryz.underlying80 rfl (by kernel_rfl)) rfl rfl rfl ?_
    refine Seq.val (Runs.loadB rfl rfl Tryz.underlying3 rfl k0 rfl) rfl rfl rfl ?_
    refine Seq.val (Runs.assign rfl rfl) rfl rfl rfl ?_
    refine Seq.nil ?_
    refine Post.weak (F' := [(0, _), (2, _), (4, _), (9, _)]) ⟨rfl, rfl, rfl, rfl, trivial⟩ ?_
    refine Post.then_ ?_
    refine Cd.ret ?_
    refine Post.end1 rfl rfl (.inl rfl) ?_
    exact ⟨rfl, k0, dk, lf⟩
  · have h : ¬ (0 < count) := by
      have h' : ¬ ((0 : Int) < (count : Int)) := by simpa using h
      omega
    rw [if_neg h]
    refine Cd.skip ?_
    refine Post.then_ ?_
    refine Cd.seq ?_
    refine Cd.region ?_
    refine Seq.val (Runs.move rfl rfl) rfl rfl rfl ?_
    refine Seq.val (Runs.nilCheck rfl rfl) rfl rfl rfl ?_
    refine Seq.val (Runs.fieldB 2 rfl rfl Tryz.underlying80 rfl (by kernel_rfl)) rfl rfl rfl ?_
    refine Seq.val (Runs.loadB rfl rfl Tryz.underlying3 rfl k0 rfl) rfl rfl rfl ?_
    refine Seq.val (Runs.assign rfl rfl) rfl rfl rfl ?_
    refine Seq.nil ?_
    refine Post.weak (F' := [(0, _), (2, _), (4, _), (9, _)]) ⟨rfl, rfl, rfl, rfl, trivial⟩ ?_
    refine Post.then_ ?_
    refine Cd.ret ?_
    refine Post.end1 rfl rfl (.inl rfl) ?_
    exact ⟨rfl, k0, dk, lf⟩
theorem least_any (B g0 gd : Nat) (D : Dk) (nm : List Nat) (n : Int) (W : Wl) (w : World) (e0 : B ≤ g0) (hB : B ≤ w.heap.size) (k0 : Blk w g0 80 (W.cs gd nm)) (dk : DkAt w B gd D) (hn : W.num ≤ 1000000000) :
    Calls Tryz.prog 30 #[.pointer (some ⟨g0, 0, none⟩), .int .i64 n] w fun e w' => e = .returned (.int .i64 ((W.least n).num : Int)) ∧ Blk w' g0 80 ((W.least n).cs gd nm) ∧ DkAt w' B gd D ∧ Lf B w w' := by
  have lf := Lf.refl B w
  obtain ⟨num, count, size, broken⟩ := W
  simp only at hn
  unfold Wl.cs at k0
  unfold Wl.least
  simp only at k0 ⊢
  refine Calls.start 27 Tryz.func30 rfl rfl rfl ?_
  refine Cd.seq ?_
  refine Cd.region ?_
  refine Seq.val (Runs.assign rfl rfl) rfl rfl rfl ?_
  refine Seq.nil ?_
  refine Post.weak (F' := [(0, _), (1, _), (4, _)]) ⟨rfl, rfl, rfl, trivial⟩ ?_
  refine Post.then_ ?_
  refine Cd.seq ?_
  refine Cd.seq ?_
  refine Cd.region ?_
  refine Seq.val (Runs.move rfl rfl) rfl rfl rfl ?_
  refine Seq.val (Runs.neqP rfl rfl rfl Tryz.underlying28) rfl rfl rfl ?_
  refine Seq.val (Runs.move rfl rfl) rfl rfl rfl ?_
  refine SeqC.start ?_
  refine SeqC.open rfl rfl rfl rfl rfl rfl rfl (fun hcx => Runs.move rfl rfl) ?_
  refine SeqC.next rfl rfl rfl rfl rfl rfl rfl (fun hcx => Runs.move rfl rfl) ?_
  refine SeqC.next rfl rfl rfl rfl rfl rfl rfl (fun hcx => Runs.nilCheck rfl rfl) ?_
  refine SeqC.next rfl rfl rfl rfl rfl rfl rfl (fun hcx => Runs.fieldB 2 rfl rfl Tryz.underlying80 rfl (by kernel_rfl)) ?_
  refine SeqC.next rfl rfl rfl rfl rfl rfl rfl (fun hcx => Runs.loadB rfl rfl Tryz.underlying3 rfl k0 rfl) ?_
  refine SeqC.next rfl rfl rfl rfl rfl rfl rfl (fun hcx => Runs.gtr rfl rfl rfl) ?_
  refine SeqC.and rfl rfl rfl rfl rfl rfl rfl ?_
  refine Seq.nil ?_
  refine Post.weak (F' := [(0, _), (1, _), (4, _), (14, _)]) ⟨rfl, rfl, rfl, rfl, trivial⟩ ?_
  refine Post.then_ ?_
  refine Cd.cond rfl (fun h => ?_) (fun h => ?_)
  · have h : (num : Int) < n := by simpa using h
    rw [if_pos h]
    obtain ⟨m, rfl⟩ : ∃ m : Nat, n = (m : Int) := ⟨n.toNat, by omega⟩
    rw [Int.toNat_natCast]
    refine Cd.region ?_
    refine Seq.val (Runs.move rfl rfl) rfl rfl rfl ?_
    refine Seq.val (Runs.move rfl rfl) rfl rfl rfl ?_
    refine Seq.val (Runs.move rfl rfl) rfl rfl rfl ?_
    refine Seq.val (Runs.move rfl rfl) rfl rfl rfl ?_
    refine Seq.val (Runs.nilCheck rfl rfl) rfl rfl rfl ?_
    refine Seq.val (Runs.fieldB 2 rfl rfl Tryz.underlying80 rfl (by kernel_rfl)) rfl rfl rfl ?_
    refine Seq.store1 rfl rfl rfl (by kernel_rfl) rfl rfl k0 rfl rfl rfl ?_
    intro w1 pw1
    replace lf := lf.put k0 pw1 e0
    replace dk := dk.put k0 pw1 e0
    replace k0 := pw1.blk
    refine Seq.val (Runs.nilCheck rfl rfl) rfl rfl rfl ?_
    refine Seq.val (Runs.fieldB 3 rfl rfl Tryz.underlying80 rfl (by kernel_rfl)) rfl rfl rfl ?_
    refine Seq.store1 rfl rfl rfl (by kernel_rfl) rfl rfl k0 rfl rfl rfl ?_
    intro w2 pw2
    replace lf := lf.put k0 pw2 e0
    replace dk := dk.put k0 pw2 e0
    replace k0 := pw2.blk
    refine Seq.val (Runs.nilCheck rfl rfl) rfl rfl rfl ?_
    refine Seq.val (Runs.fieldB 4 rfl rfl Tryz.underlying80 rfl (by kernel_rfl)) rfl rfl rfl ?_
    refine Seq.store1 rfl rfl rfl (by kernel_rfl) rfl rfl k0 rfl rfl rfl ?_
    intro w3 pw3
    replace lf := lf.put k0 pw3 e0
    replace dk := dk.put k0 pw3 e0
    replace k0 := pw3.blk
    refine Seq.nil ?_
    refine Post.weak (F' := [(0, _), (1, _), (4, _), (14, _)]) ⟨rfl, rfl, rfl, rfl, trivial⟩ ?_
    refine Post.then_ ?_
    refine Cd.seq ?_
    refine Cd.region ?_
    refine Seq.val (Runs.move rfl rfl) rfl rfl rfl ?_
    replace k0 : Blk _ g0 80 (Wl.cs ⟨m, 0, 0, broken⟩ gd nm) := k0
    refine Seq.call (Enters.func rfl rfl rfl (run_enter Tryz.func20 (by kernel_rfl) rfl)) rfl rfl rfl (number_any g0 gd nm ⟨m, 0, 0, broken⟩ _ k0) ?_
    rintro e w5 ⟨rfl, hb5⟩
    refine ⟨_, rfl, ?_⟩
    replace lf := lf.step hb5
    replace dk := dk.step hb5
    replace k0 := k0.step hb5
    refine Seq.val (Runs.assign rfl rfl) rfl rfl rfl ?_
    refine Seq.nil ?_
    refine Post.weak (F' := [(0, _), (1, _), (4, _), (14, _)]) ⟨rfl, rfl, rfl, rfl, trivial⟩ ?_
    refine Post.then_ ?_
    refine Cd.ret ?_
    refine Post.end1 rfl rfl (.inl rfl) ?_
    exact ⟨rfl, k0, dk, lf⟩
  · have h : ¬ ((num : Int) < n) := by simpa using h
    rw [if_neg h]
    refine Cd.skip ?_
    refine Post.then_ ?_
    refine Cd.seq ?_
    refine Cd.region ?_
    refine Seq.val (Runs.move rfl rfl) rfl rfl rfl ?_
    replace k0 : Blk _ g0 80 (Wl.cs ⟨num, count, size, broken⟩ gd nm) := k0
    refine Seq.call (Enters.func rfl rfl rfl (run_enter Tryz.func20 (by kernel_rfl) rfl)) rfl rfl rfl (number_any g0 gd nm ⟨num, count, size, broken⟩ _ k0) ?_
    rintro e w5 ⟨rfl, hb5⟩
    refine ⟨_, rfl, ?_⟩
    replace lf := lf.step hb5
    replace dk := dk.step hb5
    replace k0 := k0.step hb5
    refine Seq.val (Runs.assign rfl rfl) rfl rfl rfl ?_
    refine Seq.nil ?_
    refine Post.weak (F' := [(0, _), (1, _), (4, _), (14, _)]) ⟨rfl, rfl, rfl, rfl, trivial⟩ ?_
    refine Post.then_ ?_
    refine Cd.ret ?_
    refine Post.end1 rfl rfl (.inl rfl) ?_
    exact ⟨rfl, k0, dk, lf⟩
end Go.Proofs.YtnlepoplncjliaaGreatDoor

namespace Go.Proofs.YtnlepoplncjliaaGreatDoor
open Go.RowKit

theorem turned_le (W : Wl) (data : List Nat) : (W.turned data).count ≤ W.count ∧ (W.turned data).num ≤ W.num + 1 ∧ (W.turned data).size ≤ W.size ∧ (W.turned data).broken = W.broken := by
  unfold Wl.turned Wl.rotate
  split
  · split
    · exact ⟨Nat.zero_le _, Nat.le_refl _, Nat.zero_le _, rfl⟩
    · exact ⟨Nat.le_refl _, Nat.le_succ _, Nat.le_refl _, rfl⟩
  · exact ⟨Nat.le_refl _, Nat.le_succ _, Nat.le_refl _, rfl⟩
set_option maxHeartbeats 2000000 in
theorem append_w_any (B g0 gd : Nat) (D : Dk) (nm data : List Nat) (W : Wl) (w : World) (gv : Gv w) (hgB : 4 < B) (e0 : B ≤ g0) (k0 : Blk w g0 80 (W.cs gd nm)) (dk : DkAt w B gd D) (hnm : Byt nm) (hnl : nm.length ≤ 8) (hn : W.num ≤ 1000000) (hc : W.count ≤ 1000000) (hsz : W.size ≤ 1000000000) (hd : Byt data) (hdl : data.length ≤ 100000000) :
    Calls Tryz.prog 15 #[.pointer (some ⟨g0, 0, none⟩), .string (strOf data)] w fun e w' => e = .returned (.int .i64 (appW W D nm data).2.2) ∧ Blk w' g0 80 ((appW W D nm data).1.cs gd nm) ∧ DkAt w' B gd (appW W D nm data).2.1 ∧ Lf B w w' := by
  have lf := Lf.refl B w
  have hB := dk.size
  have hturn := turned_le W data
  unfold appW
  refine Calls.start 62 Tryz.func15 rfl rfl rfl ?_
  refine Cd.seq ?_
  refine Cd.region ?_
  refine Seq.val (Runs.assign rfl rfl) rfl rfl rfl ?_
  refine Seq.nil ?_
  refine Post.weak (F' := [(0, _), (1, _), (4, _)]) ⟨rfl, rfl, rfl, trivial⟩ ?_
  refine Post.then_ ?_
  refine Cd.seq ?_
  refine Cd.seq ?_
  refine Cd.region ?_
  refine Seq.val (Runs.move rfl rfl) rfl rfl rfl ?_
  refine Seq.val (Runs.eqlP rfl rfl rfl Tryz.underlying28) rfl rfl rfl ?_
  refine Seq.nil ?_
  refine Post.weak (F' := [(0, _), (1, _), (4, _), (9, _)]) ⟨rfl, rfl, rfl, rfl, trivial⟩ ?_
  refine Post.then_ ?_
  refine Cd.condF rfl rfl ?_
  refine Cd.skip ?_
  refine Post.then_ ?_
  refine Cd.seq ?_
  refine Cd.region ?_
  refine Seq.val (Runs.move rfl rfl) rfl rfl rfl ?_
  refine Seq.call (Enters.func rfl rfl rfl (run_enter Tryz.func39 (by kernel_rfl) rfl)) rfl rfl rfl (frame_any data _ gv.nib hd hdl) ?_
  rintro e w5 ⟨rfl, hb5⟩
  refine ⟨_, rfl, ?_⟩
  replace lf := lf.step hb5
  replace dk := dk.step hb5
  replace k0 := k0.step hb5
  replace gv := gv.step hb5
  refine Seq.val (Runs.move rfl rfl) rfl rfl rfl ?_
  refine Seq.val (Runs.extract rfl rfl rfl) rfl rfl rfl ?_
  refine Seq.val (Runs.extract rfl rfl rfl) rfl rfl rfl ?_
  refine Seq.val (Runs.assign rfl rfl) rfl rfl rfl ?_
  refine Seq.val (Runs.assign rfl rfl) rfl rfl rfl ?_
  refine Seq.nil ?_
  refine Post.weak (F' := [(0, _), (1, _), (4, _), (5, _), (6, _), (9, _)]) ⟨rfl, rfl, rfl, rfl, rfl, rfl, trivial⟩ ?_
  refine Post.then_ ?_
  refine Cd.seq ?_
  refine Cd.block ?_
  refine Cd.seq ?_
  refine Cd.region ?_
  refine Seq.val (Runs.move rfl rfl) rfl rfl rfl ?_
  refine Seq.val (Runs.not rfl rfl) rfl rfl rfl ?_
  refine Seq.val (Runs.assign rfl rfl) rfl rfl rfl ?_
  refine Seq.nil ?_
  refine Post.weak (F' := [(0, _), (1, _), (4, _), (5, _), (6, _), (9, _), (15, _)]) ⟨rfl, rfl, rfl, rfl, rfl, rfl, rfl, trivial⟩ ?_
  refine Post.then_ ?_
  refine Cd.cond rfl (fun h => ?_) (fun h => ?_)
  · have h : 131072 < data.length := by
      have h' : (!decide (data.length ≤ 131072)) = true := h
      rw [Bool.not_eq_true', decide_eq_false_iff_not] at h'
      omega
    rw [if_pos h]
    refine Cd.seq ?_
    refine Cd.region ?_
    refine Seq.val (Runs.assign rfl rfl) rfl rfl rfl ?_
    refine Seq.nil ?_
    refine Post.weak (F' := [(0, _), (1, _), (4, _), (5, _), (6, _), (9, _), (15, _)]) ⟨rfl, rfl, rfl, rfl, rfl, rfl, rfl, trivial⟩ ?_
    refine Post.then_ ?_
    refine Cd.ret ?_
    refine Post.block_ret ?_
    refine Post.then_ret ?_
    refine Post.end1 rfl rfl (.inl rfl) ?_
    exact ⟨rfl, k0, dk, lf⟩
  have hlen : data.length ≤ 131072 := by
    have h' : (!decide (data.length ≤ 131072)) = false := h
    rw [Bool.not_eq_false', decide_eq_true_eq] at h'
    exact h'
  rw [if_neg (by omega), if_pos hlen]
  obtain ⟨W0, hW0⟩ : ∃ x, x = W := ⟨_, rfl⟩
  have k0' := k0
  rw [← hW0] at k0'
  obtain ⟨num, count, size, broken⟩ := W0
  clear k0
  have k0 := k0'
  clear k0'
  unfold Wl.cs at k0
  simp only at k0
  have hbr : W.broken = broken := by rw [← hW0]
  refine Cd.seq ?_
  refine Cd.region ?_
  refine Seq.val (Runs.move rfl rfl) rfl rfl rfl ?_
  refine Seq.val (Runs.nilCheck rfl rfl) rfl rfl rfl ?_
  refine Seq.val (Runs.fieldB 5 rfl rfl Tryz.underlying80 rfl (by kernel_rfl)) rfl rfl rfl ?_
  refine Seq.val (Runs.loadB rfl rfl Tryz.underlying4 rfl k0 rfl) rfl rfl rfl ?_
  refine Seq.val (Runs.assign rfl rfl) rfl rfl rfl ?_
  refine Seq.nil ?_
  refine Post.weak (F' := [(0, _), (1, _), (4, _), (5, _), (6, _), (9, _), (15, _), (18, _)]) ⟨rfl, rfl, rfl, rfl, rfl, rfl, rfl, rfl, trivial⟩ ?_
  refine Post.then_ ?_
  refine Cd.cond rfl (fun h => ?_) (fun h => ?_)
  · have h : broken = true := h
    rw [if_pos (by rw [hbr]; exact h), ← hW0]
    refine Cd.seq ?_
    refine Cd.region ?_
    refine Seq.val (Runs.assign rfl rfl) rfl rfl rfl ?_
    refine Seq.nil ?_
    refine Post.weak (F' := [(0, _), (1, _), (4, _), (5, _), (6, _), (9, _), (15, _), (18, _)]) ⟨rfl, rfl, rfl, rfl, rfl, rfl, rfl, rfl, trivial⟩ ?_
    refine Post.then_ ?_
    refine Cd.ret ?_
    refine Post.block_ret ?_
    refine Post.then_ret ?_
    refine Post.end1 rfl rfl (.inl rfl) ?_
    exact ⟨rfl, k0, dk, lf⟩
  have h : broken = false := h
  subst h
  rw [if_neg (by rw [hbr]; simp)]
  obtain ⟨fr, hfr⟩ : ∃ x, x = frameN data := ⟨_, rfl⟩
  have hfl : fr.length = data.length + 12 := by rw [hfr, frameN_len]
  have hfb : Byt fr := by rw [hfr]; exact frameN_lt hd
  rw [← hfr]
  have hW'e : W.turned data = if 1048576 - (size : Int) < (fr.length : Int) then (Wl.mk num count size false).rotate else ⟨num, count, size, false⟩ := by rw [← hW0, hfl]; rfl
  have hsz0 : size ≤ 1000000000 := by rw [← hW0] at hsz; exact hsz
  have hn0 : num ≤ 1000000 := by rw [← hW0] at hn; exact hn
  have hc0 : W.count = count := by rw [← hW0]
  have hs0 : W.size = size := by rw [← hW0]
  have hn1 : W.num = num := by rw [← hW0]
  obtain ⟨W', hW'⟩ : ∃ x, x = W.turned data := ⟨_, rfl⟩
  rw [← hW'] at hturn hW'e
  rw [← hW']
  refine Cd.skip ?_
  refine Post.block_normal ?_
  refine Post.then_ ?_
  refine Cd.seqJ (σ := Unit) (fun _ => [(0, .pointer (some ⟨g0, 0, none⟩)), (5, .string (strOf fr))]) (fun _ wr => Blk wr g0 80 (W'.cs gd nm) ∧ DkAt wr B gd D ∧ Lf B w wr ∧ Gv wr) ?_ ?_
  · skip
    refine Cd.seq ?_
    refine Cd.region ?_
    refine Seq.val (Runs.move rfl rfl) rfl rfl rfl ?_
    refine Seq.val (Runs.lenL rfl rfl Tryz.underlying9) rfl rfl rfl ?_
    refine Seq.val (Runs.move rfl rfl) rfl rfl rfl ?_
    refine Seq.val (Runs.nilCheck rfl rfl) rfl rfl rfl ?_
    refine Seq.val (Runs.fieldB 4 rfl rfl Tryz.underlying80 rfl (by kernel_rfl)) rfl rfl rfl ?_
    refine Seq.val (Runs.loadB rfl rfl Tryz.underlying3 rfl k0 rfl) rfl rfl rfl ?_
    refine Seq.val (Runs.subI rfl rfl rfl (by omega) (by omega)) rfl rfl rfl ?_
    refine Seq.val (Runs.gtr rfl rfl rfl) rfl rfl rfl ?_
    refine Seq.nil ?_
    refine Post.weak (F' := [(0, _), (1, _), (4, _), (5, _), (6, _), (9, _), (15, _), (18, _), (30, _)]) ⟨rfl, rfl, rfl, rfl, rfl, rfl, rfl, rfl, rfl, trivial⟩ ?_
    refine Post.then_ ?_
    refine Cd.cond rfl (fun h => ?_) (fun h => ?_)
    · have h : 1048576 - (size : Int) < (fr.length : Int) := by simpa using h
      rw [if_pos h] at hW'e
      rw [hW'e]
      refine Cd.region ?_
      refine Seq.val (Runs.move rfl rfl) rfl rfl rfl ?_
      refine Seq.call (Enters.func rfl rfl rfl (run_enter Tryz.func29 (by kernel_rfl) rfl)) rfl rfl rfl (rotate_any B g0 gd D nm ⟨num, count, size, false⟩ _ e0 (by have := lf.size; omega) k0 dk (by show num ≤ _; omega)) ?_
      clear k0 dk
      rintro e w1 ⟨rfl, k0, dk, fw1⟩
      refine ⟨_, rfl, ?_⟩
      replace lf := lf.lf fw1
      replace gv := gv.lf fw1
      refine Seq.nil ?_
      refine Post.weak (F' := [(0, _), (1, _), (4, _), (5, _), (6, _), (9, _), (15, _), (18, _), (30, _)]) ⟨rfl, rfl, rfl, rfl, rfl, rfl, rfl, rfl, rfl, trivial⟩ ?_
      exact Post.join () ⟨rfl, rfl, trivial⟩ ⟨k0, dk, lf, gv⟩
    · have h : ¬ (1048576 - (size : Int) < (fr.length : Int)) := by simpa using h
      rw [if_neg h] at hW'e
      rw [hW'e]
      refine Cd.skip ?_
      exact Post.join () ⟨rfl, rfl, trivial⟩ ⟨k0, dk, lf, gv⟩
  clear lf dk k0 gv
  rintro ⟨⟩ wj ⟨k0, dk, lf, gv⟩
  obtain ⟨ht1, ht2, ht3, ht4⟩ := hturn
  clear hW'e hW'
  obtain ⟨num', count', size', broken'⟩ := W'
  simp only at ht1 ht2 ht3 ht4
  simp only
  obtain rfl : broken' = false := by rw [ht4, hbr]
  refine Cd.seq ?_
  refine Cd.seq ?_
  refine Cd.region ?_
  refine Seq.val (Runs.move rfl rfl) rfl rfl rfl ?_
  refine Seq.val (Runs.move rfl rfl) rfl rfl rfl ?_
  refine Seq.call (Enters.func rfl rfl rfl (run_enter Tryz.func40 (by kernel_rfl) rfl)) rfl rfl rfl (room_any B g0 gd D nm fr ⟨num', count', size', false⟩ _ k0 dk (by omega)) ?_
  rintro e w6 ⟨rfl, hb6⟩
  refine ⟨_, rfl, ?_⟩
  rw [hfl]
  simp only
  replace lf := lf.step hb6
  replace dk := dk.step hb6
  replace k0 := k0.step hb6
  replace gv := gv.step hb6
  refine Seq.val (Runs.not rfl rfl) rfl rfl rfl ?_
  refine Seq.nil ?_
  refine Post.weak (F' := [(0, _), (5, _), (36, _)]) ⟨rfl, rfl, rfl, trivial⟩ ?_
  refine Post.then_ ?_
  refine Cd.cond rfl (fun h => ?_) (fun h => ?_)
  · have h : roomW D num' count' (data.length + 12) = false := by simpa using h
    rw [if_pos h]
    refine Cd.seq ?_
    refine Cd.region ?_
    refine Seq.val (Runs.assign rfl rfl) rfl rfl rfl ?_
    refine Seq.nil ?_
    refine Post.weak (F' := [(0, _), (4, _), (5, _), (36, _)]) ⟨rfl, rfl, rfl, rfl, trivial⟩ ?_
    refine Post.then_ ?_
    refine Cd.ret ?_
    refine Post.then_ret ?_
    refine Post.end1 rfl rfl (.inl rfl) ?_
    exact ⟨rfl, k0, dk, lf⟩
  have h : roomW D num' count' (data.length + 12) = true := by simpa using h
  rw [if_neg (by simp [h])]
  have hn6 : num' ≤ 999999 := by
    unfold roomW at h
    rw [Bool.and_eq_true, decide_eq_true_eq] at h
    exact h.2
  refine Cd.skip ?_
  refine Post.then_ ?_
  refine Cd.seq ?_
  refine Cd.seq ?_
  refine Cd.region ?_
  refine Seq.val (Runs.move rfl rfl) rfl rfl rfl ?_
  refine Seq.val (Runs.move rfl rfl) rfl rfl rfl ?_
  refine Seq.call (Enters.func rfl rfl rfl (run_enter Tryz.func41 (by kernel_rfl) rfl)) rfl rfl rfl (lay_any B g0 gd D nm fr ⟨num', count', size', false⟩ _ gv hgB k0 dk hnm hnl hn6 (by show count' ≤ _; omega) hfb (by omega)) ?_
  clear dk
  rintro e w1 ⟨rfl, dk, fw1⟩
  refine ⟨_, rfl, ?_⟩
  replace lf := lf.df fw1
  replace k0 := k0.df fw1
  replace gv := gv.df fw1
  simp only at dk
  simp only
  unfold Wl.cs at k0
  simp only at k0
  refine Seq.val (Runs.assign rfl rfl) rfl rfl rfl ?_
  refine Seq.nil ?_
  refine Post.weak (F' := [(0, _), (5, _), (7, _), (36, _)]) ⟨rfl, rfl, rfl, rfl, trivial⟩ ?_
  refine Post.then_ ?_
  refine Cd.seq ?_
  refine Cd.region ?_
  refine Seq.val (Runs.move rfl rfl) rfl rfl rfl ?_
  refine Seq.val (Runs.neqI rfl rfl rfl) rfl rfl rfl ?_
  refine Seq.nil ?_
  refine Post.weak (F' := [(0, _), (5, _), (7, _), (36, _), (41, _)]) ⟨rfl, rfl, rfl, rfl, rfl, trivial⟩ ?_
  refine Post.then_ ?_
  refine Cd.cond rfl (fun h => ?_) (fun h => ?_)
  · have h : (D.lay nm num' count' fr).2 ≠ 0 := by simpa using h
    rw [if_pos h]
    refine Cd.seq ?_
    refine Cd.region ?_
    refine Seq.val (Runs.move rfl rfl) rfl rfl rfl ?_
    refine Seq.val (Runs.nilCheck rfl rfl) rfl rfl rfl ?_
    refine Seq.val (Runs.fieldB 5 rfl rfl Tryz.underlying80 rfl (by kernel_rfl)) rfl rfl rfl ?_
    refine Seq.store1 rfl rfl rfl (by kernel_rfl) rfl rfl k0 rfl rfl rfl ?_
    intro w2 pw2
    replace lf := lf.put k0 pw2 e0
    replace dk := dk.put k0 pw2 e0
    replace gv := gv.put k0 pw2 e0
    replace k0 := pw2.blk
    refine Seq.nil ?_
    refine Post.weak (F' := [(0, _), (5, _), (7, _), (36, _), (41, _)]) ⟨rfl, rfl, rfl, rfl, rfl, trivial⟩ ?_
    refine Post.then_ ?_
    refine Cd.seq ?_
    refine Cd.region ?_
    refine Seq.val (Runs.move rfl rfl) rfl rfl rfl ?_
    refine Seq.val (Runs.assign rfl rfl) rfl rfl rfl ?_
    refine Seq.nil ?_
    refine Post.weak (F' := [(0, _), (4, _), (5, _), (7, _), (36, _), (41, _)]) ⟨rfl, rfl, rfl, rfl, rfl, rfl, trivial⟩ ?_
    refine Post.then_ ?_
    refine Cd.ret ?_
    refine Post.then_ret ?_
    refine Post.end1 rfl rfl (.inl rfl) ?_
    exact ⟨rfl, k0, dk, lf⟩
  have h : ¬ ((D.lay nm num' count' fr).2 ≠ 0) := by simpa using h
  rw [if_neg h]
  refine Cd.skip ?_
  refine Post.then_ ?_
  refine Cd.seq ?_
  refine Cd.region ?_
  refine Seq.val (Runs.move rfl rfl) rfl rfl rfl ?_
  refine Seq.val (Runs.nilCheck rfl rfl) rfl rfl rfl ?_
  refine Seq.val (Runs.fieldB 3 rfl rfl Tryz.underlying80 rfl (by kernel_rfl)) rfl rfl rfl ?_
  refine Seq.val (Runs.loadB rfl rfl Tryz.underlying3 rfl k0 rfl) rfl rfl rfl ?_
  refine Seq.val (Runs.addI rfl rfl rfl (by omega) (by omega)) rfl rfl rfl ?_
  refine Seq.val (Runs.nilCheck rfl rfl) rfl rfl rfl ?_
  refine Seq.val (Runs.fieldB 3 rfl rfl Tryz.underlying80 rfl (by kernel_rfl)) rfl rfl rfl ?_
  refine Seq.store1 rfl rfl rfl (by kernel_rfl) rfl rfl k0 rfl rfl rfl ?_
  intro w2 pw2
  replace lf := lf.put k0 pw2 e0
  replace dk := dk.put k0 pw2 e0
  replace gv := gv.put k0 pw2 e0
  replace k0 := pw2.blk
  refine Seq.nil ?_
  refine Post.weak (F' := [(0, _), (5, _), (7, _), (36, _), (41, _)]) ⟨rfl, rfl, rfl, rfl, rfl, trivial⟩ ?_
  refine Post.then_ ?_
  refine Cd.seq ?_
  refine Cd.region ?_
  refine Seq.val (Runs.move rfl rfl) rfl rfl rfl ?_
  refine Seq.val (Runs.nilCheck rfl rfl) rfl rfl rfl ?_
  refine Seq.val (Runs.fieldB 4 rfl rfl Tryz.underlying80 rfl (by kernel_rfl)) rfl rfl rfl ?_
  refine Seq.val (Runs.loadB rfl rfl Tryz.underlying3 rfl k0 rfl) rfl rfl rfl ?_
  refine Seq.val (Runs.move rfl rfl) rfl rfl rfl ?_
  refine Seq.val (Runs.lenL rfl rfl Tryz.underlying9) rfl rfl rfl ?_
  refine Seq.val (Runs.addI rfl rfl rfl (by omega) (by omega)) rfl rfl rfl ?_
  refine Seq.val (Runs.nilCheck rfl rfl) rfl rfl rfl ?_
  refine Seq.val (Runs.fieldB 4 rfl rfl Tryz.underlying80 rfl (by kernel_rfl)) rfl rfl rfl ?_
  refine Seq.store1 rfl rfl rfl (by kernel_rfl) rfl rfl k0 rfl rfl rfl ?_
  intro w3 pw3
  replace lf := lf.put k0 pw3 e0
  replace dk := dk.put k0 pw3 e0
  replace gv := gv.put k0 pw3 e0
  replace k0 := pw3.blk
  refine Seq.nil ?_
  refine Post.weak (F' := [(0, _), (5, _), (7, _), (36, _), (41, _)]) ⟨rfl, rfl, rfl, rfl, rfl, trivial⟩ ?_
  refine Post.then_ ?_
  refine Cd.seq ?_
  refine Cd.region ?_
  refine Seq.val (Runs.assign rfl rfl) rfl rfl rfl ?_
  refine Seq.nil ?_
  refine Post.weak (F' := [(0, _), (4, _), (5, _), (7, _), (36, _), (41, _)]) ⟨rfl, rfl, rfl, rfl, rfl, rfl, trivial⟩ ?_
  refine Post.then_ ?_
  refine Cd.ret ?_
  refine Post.end1 rfl rfl (.inl rfl) ?_
  refine ⟨rfl, ?_, dk, lf⟩
  unfold Wl.cs
  simp only
  rw [← hfl]
  exact k0
end Go.Proofs.YtnlepoplncjliaaGreatDoor

namespace Go.Proofs.YtnlepoplncjliaaGreatDoor
open Go.RowKit

/-- A file of which all is safe. -/
def full (s : List Nat) : Fil := ⟨s, s.length⟩
theorem app_sync {D : Dk} {a s : List Nat} (hc : D.calm) (hn : (D.files.map (·.1)).Nodup) (ha : nameOk a = true) (h1 : (D.get a).isSome = true ∨ D.files.length < 200) (h2 : (D.fileOf a).data.length + s.length ≤ 1048576) (h3 : (s.length : Int) ≤ D.room - D.used) :
    D.appendE a s = 0 ∧ (D.append a s).thereE [a] a = 0 ∧ ((D.append a s).sync a).calm ∧ (((D.append a s).sync a).files.map (·.1)).Nodup ∧ ((D.append a s).sync a).room = D.room ∧ ((D.append a s).sync a).used = D.used + (s.length : Int) ∧ ((D.append a s).sync a).files.length ≤ D.files.length + 1 ∧ ∀ x, ((D.append a s).sync a).get x = if x = a then some (full ((D.fileOf a).data ++ s)) else D.get x := by
  have hE := appendE_calm hc ha h1 h2 h3
  have hg := get_append hE
  have hc1 := append_calm (a := a) (s := s) hc
  have hn1 := append_nodup (a := a) (s := s) hn
  have hga := hg a
  rw [if_pos rfl] at hga
  refine ⟨hE, ?_, sync_calm hc1, ?_, ?_, ?_, ?_, fun x => ?_⟩
  · rw [thereE_calm hc1 (by simpa using ha), hga]; rfl
  · rw [sync_names]; exact hn1
  · rw [sync_room, append_room]
  · rw [sync_used hn1, append_used hn hE]
  · rw [sync_len]; exact append_len D a s
  · rw [get_sync hc1 ha hga, hg x]
    by_cases e : x = a
    · rw [if_pos e, if_pos e]; rfl
    · rw [if_neg e, if_neg e, if_neg e]
theorem lay_calm {D : Dk} {nm : List Nat} {num count : Nat} {s : List Nat} (hc : D.calm) (hn : (D.files.map (·.1)).Nodup) (hnl : nm.length ≤ 8) (hnum : num ≤ 999999) (h1 : (D.get (fileN nm num logK)).isSome = true ∨ D.files.length + 2 ≤ 200) (h1' : (D.get (fileN nm num ackK)).isSome = true ∨ D.files.length + 2 ≤ 200)
    (h2 : (D.fileOf (fileN nm num logK)).data.length + s.length ≤ 1048576) (h2' : (D.fileOf (fileN nm num ackK)).data.length + 12 ≤ 1048576) (h3 : (s.length : Int) + 12 ≤ D.room - D.used) :
    (D.lay nm num count s).2 = 0 ∧ (D.lay nm num count s).1.calm ∧ ((D.lay nm num count s).1.files.map (·.1)).Nodup ∧ (D.lay nm num count s).1.room = D.room ∧ (D.lay nm num count s).1.used = D.used + (s.length : Int) + 12 ∧ (D.lay nm num count s).1.files.length ≤ D.files.length + 2 ∧
    ∀ x, (D.lay nm num count s).1.get x = if x = fileN nm num ackK then some (full ((D.fileOf (fileN nm num ackK)).data ++ markN (count + 1))) else if x = fileN nm num logK then some (full ((D.fileOf (fileN nm num logK)).data ++ s)) else D.get x := by
  have hne : fileN nm num ackK ≠ fileN nm num logK := fun e => by
    have := (fileN_inj hnum hnum e).2
    revert this
    decide
  have hok : ∀ k : List Nat, k.length = 4 → nameOk (fileN nm num k) = true := fun k hk => by
    have hl := fileN_len (nm := nm) (k := k) hnum
    unfold nameOk
    rw [Bool.and_eq_true, decide_eq_true_eq, decide_eq_true_eq]
    refine ⟨fun e => ?_, by omega⟩
    rw [e] at hl
    simp at hl
    omega
  have hlg := hok logK rfl
  have hak := hok ackK rfl
  obtain ⟨lg, hlg0⟩ : ∃ x, x = fileN nm num logK := ⟨_, rfl⟩
  obtain ⟨ak, hak0⟩ : ∃ x, x = fileN nm num ackK := ⟨_, rfl⟩
  unfold Dk.lay Dk.note
  rw [← hlg0] at h1 h2 hne hlg
  rw [← hak0] at h1' h2' hne hak
  rw [← hlg0, ← hak0]
  obtain ⟨a1, a2, a3, a4, a5, a6, a7, a8⟩ := app_sync (D := D) (a := lg) (s := s) hc hn hlg (h1.imp_right fun h => by omega) h2 (by omega)
  rw [if_neg (by omega), if_neg (by omega)]
  obtain ⟨E, hE⟩ : ∃ E, E = (D.append lg s).sync lg := ⟨_, rfl⟩
  rw [← hE] at a3 a4 a5 a6 a7 a8
  rw [← hE]
  have hga : E.get ak = D.get ak := by rw [a8, if_neg hne]
  have hfa : E.fileOf ak = D.fileOf ak := by rw [fileOf_eq, fileOf_eq, hga]
  obtain ⟨b1, b2, b3, b4, b5, b6, b7, b8⟩ := app_sync (D := E) (a := ak) (s := markN (count + 1)) a3 a4 hak (h1'.imp (fun h => by rw [hga]; exact h) fun h => by omega) (by rw [hfa, markN_len]; exact h2') (by rw [markN_len, a5, a6]; omega)
  rw [if_neg (by omega)]
  refine ⟨b2, b3, b4, by rw [b5, a5], by rw [b6, a6, markN_len]; omega, Nat.le_trans b7 (by omega), fun x => ?_⟩
  rw [b8, hfa]
  by_cases e : x = ak
  · rw [if_pos e, if_pos e]
  · rw [if_neg e, if_neg e, a8]
/-- A log: what its files hold. -/
structure LogIs (D : Dk) (nm : List Nat) (segs : List (Nat × List (List Nat))) : Prop where
  calm : D.calm
  nd : (D.files.map (·.1)).Nodup
  inc : (segs.map (·.1)).Pairwise (· < ·)
  le : ∀ s ∈ segs, s.1 ≤ 999999
  recs : ∀ s ∈ segs, s.2 ≠ [] ∧ (∀ r ∈ s.2, Byt r ∧ r.length ≤ 131072) ∧ s.2.length ≤ 131072
  log : ∀ s ∈ segs, D.get (fileN nm s.1 logK) = some (full (framesN s.2))
  ack : ∀ s ∈ segs, D.get (fileN nm s.1 ackK) = some (full (marksN s.2.length))
  own : ∀ x, (D.get x).isSome = true → ∃ s ∈ segs, x = fileN nm s.1 logK ∨ x = fileN nm s.1 ackK
/-- All records, and the number behind. -/
def recsOf (segs : List (Nat × List (List Nat))) : List (Nat × List Nat) := segs.flatMap fun s => s.2.map fun r => (s.1, r)
def nextN : Nat → List (Nat × List (List Nat)) → Nat
  | num, [] => num
  | _, s :: r => nextN (s.1 + 1) r
theorem recsOf_app (a b : List (Nat × List (List Nat))) : recsOf (a ++ b) = recsOf a ++ recsOf b := by simp [recsOf]
theorem nextN_app (a : List (Nat × List (List Nat))) (s : Nat × List (List Nat)) : ∀ num, nextN num (a ++ [s]) = s.1 + 1 := by
  induction a with
  | nil => intro num; rfl
  | cons x a ih => intro num; exact ih _
theorem LogIs.own_nm {D : Dk} {nm : List Nat} {segs : List (Nat × List (List Nat))} (h : LogIs D nm segs) : ∀ p ∈ D.files, OwnNm nm p.1 := by
  intro p hp
  obtain ⟨s, hs, e⟩ := h.own p.1 (mem_names.1 (List.mem_map.2 ⟨p, hp, rfl⟩))
  rcases e with e | e
  · exact ⟨s.1, logB, h.le s hs, .inl rfl, e⟩
  · exact ⟨s.1, ackB, h.le s hs, .inr (.inl rfl), e⟩
theorem LogIs.nums {D : Dk} {nm : List Nat} {segs : List (Nat × List (List Nat))} (h : LogIs D nm segs) : numsL nm (D.files.map (·.1)) = segs.map (·.1) := by
  refine inc_eq numsL_inc h.inc fun n => ?_
  rw [numsL_mem]
  constructor
  · rintro ⟨h1, h2⟩
    have key : ∀ k : List Nat, fileN nm n (46 :: k) ∈ D.files.map (·.1) → n ∈ segs.map (·.1) := fun k hk => by
      obtain ⟨s, hs, e⟩ := h.own _ (mem_names.1 hk)
      have : n = s.1 := by
        rcases e with e | e
        · exact (fileN_inj h1 (h.le s hs) e).1
        · exact (fileN_inj h1 (h.le s hs) e).1
      rw [this]
      exact List.mem_map.2 ⟨s, hs, rfl⟩
    rcases h2 with h2 | h2
    · exact key _ h2
    · exact key _ h2
  · intro hn
    obtain ⟨s, hs, rfl⟩ := List.mem_map.1 hn
    refine ⟨h.le s hs, .inl (mem_names.2 ?_)⟩
    show (D.get (fileN nm s.1 logK)).isSome = true
    rw [h.log s hs]
    rfl
theorem LogIs.seg {D : Dk} {nm : List Nat} {segs : List (Nat × List (List Nat))} (h : LogIs D nm segs) {s : Nat × List (List Nat)} (hs : s ∈ segs) : segN D nm s.1 = (D, 0, s.2) := by
  obtain ⟨h1, h2, h3⟩ := h.recs s hs
  have e1 : D.datN (fileN nm s.1 logK) = framesN s.2 := by unfold Dk.datN; rw [h.log s hs]; rfl
  have e2 : D.datN (fileN nm s.1 ackK) = marksN s.2.length := by unfold Dk.datN; rw [h.ack s hs]; rfl
  unfold segN
  rw [e1, e2, allN_frames (fun r hr => (h2 r hr).2), countN_marks h3, if_neg (by simp), if_neg (by simp), if_neg (by simp)]
theorem openGo_log {D : Dk} {nm : List Nat} : ∀ (segs : List (Nat × List (List Nat))) (acc : List (Nat × List Nat)) (num : Nat), (∀ s ∈ segs, segN D nm s.1 = (D, 0, s.2)) → openGo nm (segs.map (·.1)) D acc num = (D, 0, acc ++ recsOf segs, nextN num segs)
  | [], acc, num, _ => by simp [openGo, recsOf, nextN]
  | s :: r, acc, num, h => by
    rw [List.map_cons, openGo, h s List.mem_cons_self, if_neg (by simp), openGo_log r _ _ (fun x hx => h x (List.mem_cons_of_mem _ hx))]
    have : recsOf (s :: r) = (s.2.map fun x => (s.1, x)) ++ recsOf r := by simp [recsOf]
    rw [this, ← List.append_assoc]
    rfl
theorem LogIs.opens {D : Dk} {nm : List Nat} {segs : List (Nat × List (List Nat))} (h : LogIs D nm segs) : openW D nm = (D, 0, recsOf segs, nextN 0 segs) := by
  unfold openW
  rw [h.nums, openGo_log segs [] 0 (fun s hs => h.seg hs)]
  rfl
theorem LogIs.nil {room : Int} {nm : List Nat} : LogIs (Dk.new room) nm [] := ⟨⟨rfl, rfl⟩, by simp [Dk.new], by simp, by simp, by simp, by simp, by simp, fun x hx => by cases hx⟩
/-- A log under way. -/
structure WlIs (D : Dk) (nm : List Nat) (W : Wl) (segs : List (Nat × List (List Nat))) : Prop where
  log : LogIs D nm segs
  broken : W.broken = false
  at_ : (W.count = 0 ∧ W.size = 0 ∧ ∀ s ∈ segs, s.1 < W.num) ∨ ∃ ini l, segs = ini ++ [(W.num, l)] ∧ W.count = l.length ∧ W.size = (framesN l).length
/-- A record more. -/
def addS (segs : List (Nat × List (List Nat))) (W : Wl) (data : List Nat) : List (Nat × List (List Nat)) := if W.count = 0 then segs ++ [(W.num, [data])] else segs.map fun s => if s.1 = W.num then (s.1, s.2 ++ [data]) else s
theorem WlIs.opened {D : Dk} {nm : List Nat} {segs : List (Nat × List (List Nat))} (h : LogIs D nm segs) : WlIs D nm ⟨nextN 0 segs, 0, 0, false⟩ segs := by
  refine ⟨h, rfl, .inl ⟨rfl, rfl, fun s hs => ?_⟩⟩
  show s.1 < nextN 0 segs
  rcases List.eq_nil_or_concat segs with e | ⟨ini, t, e⟩
  · rw [e] at hs; cases hs
  · rw [List.concat_eq_append] at e
    subst e
    rw [nextN_app]
    rcases List.mem_append.1 hs with h1 | h1
    · have := h.inc
      rw [List.map_append, List.pairwise_append] at this
      have := this.2.2 s.1 (List.mem_map.2 ⟨s, h1, rfl⟩) t.1 (by simp)
      omega
    · simp at h1; subst h1; omega
theorem WlIs.last {D : Dk} {nm : List Nat} {W : Wl} {segs : List (Nat × List (List Nat))} (h : WlIs D nm W segs) : ∃ ini l, (if W.count = 0 then segs = ini ∧ l = [] else segs = ini ++ [(W.num, l)]) ∧ (∀ s ∈ ini, s.1 < W.num) ∧ W.count = l.length ∧ W.size = (framesN l).length := by
  rcases h.at_ with ⟨h1, h2, h3⟩ | ⟨ini, l, h1, h2, h3⟩
  · exact ⟨segs, [], by rw [if_pos h1]; exact ⟨rfl, rfl⟩, h3, h1, h2⟩
  · have hm : (W.num, l) ∈ segs := by rw [h1]; simp
    have hne := (h.log.recs _ hm).1
    have hc : ¬ (W.count = 0) := by
      rw [h2]
      intro e
      exact hne (List.eq_nil_of_length_eq_zero e)
    refine ⟨ini, l, by rw [if_neg hc]; exact h1, fun s hs => ?_, h2, h3⟩
    have := h.log.inc
    rw [h1, List.map_append, List.pairwise_append] at this
    exact this.2.2 s.1 (List.mem_map.2 ⟨s, hs, rfl⟩) W.num (by simp)
/-- A record laid: the answer, and what the log is then. -/
theorem WlIs.append {D : Dk} {nm data : List Nat} {W : Wl} {segs : List (Nat × List (List Nat))} (h : WlIs D nm W segs) (hnl : nm.length ≤ 8) (hd : Byt data) (hdl : data.length ≤ 131072) (hnum : W.num ≤ 999999) (hcnt : W.count + 1 ≤ 80000) (hsz : W.size + (data.length + 12) ≤ 1048576) (hfl : D.files.length + 2 ≤ 200) (hroom : (data.length : Int) + 36 ≤ D.room - D.used) :
    ∃ D' segs', appW W D nm data = (⟨W.num, W.count + 1, W.size + (data.length + 12), false⟩, D', 0) ∧ WlIs D' nm ⟨W.num, W.count + 1, W.size + (data.length + 12), false⟩ segs' ∧ recsOf segs' = recsOf segs ++ [(W.num, data)] ∧ D'.room = D.room ∧ D'.used = D.used + (data.length : Int) + 24 ∧ D'.files.length ≤ D.files.length + 2 := by
  obtain ⟨ini, l, hsegs, hini, hcl, hszl⟩ := h.last
  have hL := h.log
  have hturn : W.turned data = W := by unfold Wl.turned; rw [if_neg (by omega)]
  have hfrl := frameN_len data
  have hrw : roomW D W.num W.count (data.length + 12) = true := by
    unfold roomW
    rw [Bool.and_eq_true, Bool.and_eq_true, Bool.or_eq_true, decide_eq_true_eq, decide_eq_true_eq, decide_eq_true_eq]
    exact ⟨⟨by omega, .inr hfl⟩, hnum⟩
  have hlog : D.fileOf (fileN nm W.num logK) = full (framesN l) := by
    rw [fileOf_eq]
    by_cases hc : W.count = 0
    · rw [if_pos hc] at hsegs
      obtain ⟨rfl, rfl⟩ := hsegs
      cases e : D.get (fileN nm W.num logK) with
      | none => rfl
      | some f =>
        exfalso
        obtain ⟨s, hs, e2⟩ := hL.own _ (by rw [e]; rfl)
        have h3 := hini s hs
        have : W.num = s.1 := by rcases e2 with e2 | e2 <;> exact (fileN_inj hnum (hL.le s hs) e2).1
        omega
    · rw [if_neg hc] at hsegs
      rw [hL.log (W.num, l) (by rw [hsegs]; simp)]
      rfl
  have hack : D.fileOf (fileN nm W.num ackK) = full (marksN l.length) := by
    rw [fileOf_eq]
    by_cases hc : W.count = 0
    · rw [if_pos hc] at hsegs
      obtain ⟨rfl, rfl⟩ := hsegs
      cases e : D.get (fileN nm W.num ackK) with
      | none => rfl
      | some f =>
        exfalso
        obtain ⟨s, hs, e2⟩ := hL.own _ (by rw [e]; rfl)
        have h3 := hini s hs
        have : W.num = s.1 := by rcases e2 with e2 | e2 <;> exact (fileN_inj hnum (hL.le s hs) e2).1
        omega
    · rw [if_neg hc] at hsegs
      rw [hL.ack (W.num, l) (by rw [hsegs]; simp)]
      rfl
  have hml := marksN_len l.length
  obtain ⟨a1, a2, a3, a4, a5, a6, a7⟩ := lay_calm (D := D) (nm := nm) (num := W.num) (count := W.count) (s := frameN data) hL.calm hL.nd hnl hnum (.inr hfl) (.inr hfl) (by rw [hlog]; show (framesN l).length + _ ≤ _; omega) (by rw [hack]; show (marksN l.length).length + 12 ≤ _; omega) (by omega)
  obtain ⟨E, hE⟩ : ∃ E, E = (D.lay nm W.num W.count (frameN data)).1 := ⟨_, rfl⟩
  rw [← hE] at a2 a3 a4 a5 a6 a7
  have hfr : framesN l ++ frameN data = framesN (l ++ [data]) := by rw [framesN_app, framesN_one]
  have hmr : marksN l.length ++ markN (W.count + 1) = marksN (l ++ [data]).length := by rw [hcl, List.length_append, List.length_singleton, marksN_succ]
  rw [hlog, hack] at a7
  have e1 : (full (marksN l.length)).data = marksN l.length := rfl
  have e2 : (full (framesN l)).data = framesN l := rfl
  rw [e1, e2, hfr, hmr] at a7
  refine ⟨E, ini ++ [(W.num, l ++ [data])], ?_, ⟨⟨a2, a3, ?_, ?_, ?_, ?_, ?_, ?_⟩, rfl, .inr ⟨ini, l ++ [data], rfl, ?_, ?_⟩⟩, ?_, a4, by rw [a5]; omega, a6⟩
  · unfold appW
    rw [hturn, if_neg (by omega), if_neg (by simp [h.broken]), if_neg (by simp [hrw]), if_neg (by simp [a1]), h.broken, hE]
  · rw [List.map_append, List.pairwise_append]
    refine ⟨?_, by simp, fun a ha b hb => ?_⟩
    · have := hL.inc
      by_cases hc : W.count = 0
      · rw [if_pos hc] at hsegs; rw [hsegs.1] at this; exact this
      · rw [if_neg hc] at hsegs; rw [hsegs, List.map_append, List.pairwise_append] at this; exact this.1
    · obtain ⟨s, hs, rfl⟩ := List.mem_map.1 ha
      simp at hb
      subst hb
      exact hini s hs
  all_goals
    have hsub : ∀ s ∈ ini, s ∈ segs := fun s hs => by
      by_cases hc : W.count = 0
      · rw [if_pos hc] at hsegs; rw [hsegs.1]; exact hs
      · rw [if_neg hc] at hsegs; rw [hsegs]; exact List.mem_append_left _ hs
  · intro s hs
    rcases List.mem_append.1 hs with hs | hs
    · exact hL.le s (hsub s hs)
    · simp at hs; subst hs; exact hnum
  · intro s hs
    rcases List.mem_append.1 hs with hs | hs
    · exact hL.recs s (hsub s hs)
    · simp at hs
      subst hs
      refine ⟨by simp, fun r hr => ?_, by simp only [List.length_append, List.length_singleton]; omega⟩
      rcases List.mem_append.1 hr with hr | hr
      · by_cases hc : W.count = 0
        · rw [if_pos hc] at hsegs; rw [hsegs.2] at hr; cases hr
        · rw [if_neg hc] at hsegs
          exact (hL.recs (W.num, l) (by rw [hsegs]; simp)).2.1 r hr
      · simp at hr; subst hr; exact ⟨hd, hdl⟩
  · intro s hs
    rw [a7]
    rcases List.mem_append.1 hs with hs | hs
    · have h3 := hini s hs
      have n1 : fileN nm s.1 logK ≠ fileN nm W.num ackK := fun e => by have := (fileN_inj (hL.le s (hsub s hs)) hnum e).1; omega
      have n2 : fileN nm s.1 logK ≠ fileN nm W.num logK := fun e => by have := (fileN_inj (hL.le s (hsub s hs)) hnum e).1; omega
      rw [if_neg n1, if_neg n2]
      exact hL.log s (hsub s hs)
    · simp at hs
      subst hs
      have n1 : fileN nm W.num logK ≠ fileN nm W.num ackK := fun e => by
        have := (fileN_inj hnum hnum e).2
        revert this
        decide
      rw [if_neg n1, if_pos rfl]
  · intro s hs
    rw [a7]
    rcases List.mem_append.1 hs with hs | hs
    · have h3 := hini s hs
      have n1 : fileN nm s.1 ackK ≠ fileN nm W.num ackK := fun e => by have := (fileN_inj (hL.le s (hsub s hs)) hnum e).1; omega
      have n2 : fileN nm s.1 ackK ≠ fileN nm W.num logK := fun e => by have := (fileN_inj (hL.le s (hsub s hs)) hnum e).1; omega
      rw [if_neg n1, if_neg n2]
      exact hL.ack s (hsub s hs)
    · simp at hs
      subst hs
      rw [if_pos rfl]
  · intro x hx
    rw [a7] at hx
    by_cases n1 : x = fileN nm W.num ackK
    · exact ⟨(W.num, l ++ [data]), by simp, .inr n1⟩
    · rw [if_neg n1] at hx
      by_cases n2 : x = fileN nm W.num logK
      · exact ⟨(W.num, l ++ [data]), by simp, .inl n2⟩
      · rw [if_neg n2] at hx
        obtain ⟨s, hs, e⟩ := hL.own x hx
        by_cases hc : W.count = 0
        · rw [if_pos hc] at hsegs
          rw [hsegs.1] at hs
          exact ⟨s, List.mem_append_left _ hs, e⟩
        · rw [if_neg hc] at hsegs
          rw [hsegs] at hs
          rcases List.mem_append.1 hs with hs | hs
          · exact ⟨s, List.mem_append_left _ hs, e⟩
          · simp at hs
            subst hs
            rcases e with e | e
            · exact absurd e n2
            · exact absurd e n1
  · show W.count + 1 = _
    rw [List.length_append, List.length_singleton]; omega
  · show W.size + (data.length + 12) = _
    rw [← hfr, List.length_append]; omega
  · rw [recsOf_app]
    have e3 : recsOf [(W.num, l ++ [data])] = recsOf [(W.num, l)] ++ [(W.num, data)] := by simp [recsOf]
    rw [e3, ← List.append_assoc, ← recsOf_app]
    congr 1
    by_cases hc : W.count = 0
    · rw [if_pos hc] at hsegs
      obtain ⟨rfl, rfl⟩ := hsegs
      simp [recsOf]
    · rw [if_neg hc] at hsegs
      rw [hsegs]
theorem recsOf_byt {D : Dk} {nm : List Nat} {segs : List (Nat × List (List Nat))} (h : LogIs D nm segs) : ∀ r ∈ recsOf segs, Byt r.2 := by
  intro r hr
  unfold recsOf at hr
  obtain ⟨s, hs, h2⟩ := List.mem_flatMap.1 hr
  obtain ⟨x, hx, rfl⟩ := List.mem_map.1 h2
  exact ((h.recs s hs).2.1 x hx).1
end Go.Proofs.YtnlepoplncjliaaGreatDoor

namespace Go.Proofs.YtnlepoplncjliaaGreatDoor
open Go.RowKit

/-- Segments with lower numbers go. -/
def retGo (nm : List Nat) (lim : Int) : List Nat → Dk → Dk × Int
  | [], D => (D, 0)
  | n :: r, D =>
    if lim ≤ (n : Int) then (D, 0)
    else if D.dropE (fileN nm n ackK) ≠ 0 then (D.delete (fileN nm n ackK), D.dropE (fileN nm n ackK))
    else if (D.delete (fileN nm n ackK)).dropE (fileN nm n logK) ≠ 0 then ((D.delete (fileN nm n ackK)).delete (fileN nm n logK), (D.delete (fileN nm n ackK)).dropE (fileN nm n logK))
    else retGo nm lim r ((D.delete (fileN nm n ackK)).delete (fileN nm n logK))
noncomputable def retW (W : Wl) (D : Dk) (nm : List Nat) (below : Int) : Wl × Dk × Int :=
  if W.broken = true then (W, D, 6)
  else if (retGo nm (min below (W.num : Int)) (numsL nm (D.files.map (·.1))) D).2 ≠ 0 then ({ W with broken := true }, (retGo nm (min below (W.num : Int)) (numsL nm (D.files.map (·.1))) D).1, (retGo nm (min below (W.num : Int)) (numsL nm (D.files.map (·.1))) D).2)
  else (W, (retGo nm (min below (W.num : Int)) (numsL nm (D.files.map (·.1))) D).1, 0)
def kindR (j : Nat) : List Nat := if j = 0 then ackK else logK
/-- What is left to do of a segment, and behind. -/
def remR (nm : List Nat) (n : Nat) (lim : Int) (r : List Nat) : Nat → Dk → Dk × Int
  | 0, D => retGo nm lim r D
  | k + 1, D => if D.dropE (fileN nm n (kindR (1 - k))) ≠ 0 then (D.delete (fileN nm n (kindR (1 - k))), D.dropE (fileN nm n (kindR (1 - k)))) else remR nm n lim r k (D.delete (fileN nm n (kindR (1 - k))))
theorem kindR_byt (j : Nat) : Byt (kindR j) := by unfold kindR; split; exact ackK_byt; exact logK_byt
theorem kindR_len (j : Nat) : (kindR j).length = 4 := by unfold kindR; split <;> rfl
set_option maxHeartbeats 4000000 in
theorem retire_any (B g0 gd : Nat) (D : Dk) (nm : List Nat) (below : Int) (W : Wl) (w : World) (gv : Gv w) (hgB : 4 < B) (e0 : B ≤ g0) (k0 : Blk w g0 80 (W.cs gd nm)) (dk : DkAt w B gd D) (hnm : Byt nm) (hnl : nm.length ≤ 8) (hown : ∀ p ∈ D.files, OwnNm nm p.1) (hn : W.num ≤ 1000000000) :
    Calls Tryz.prog 28 #[.pointer (some ⟨g0, 0, none⟩), .int .i64 below] w fun e w' => e = .returned (.int .i64 (retW W D nm below).2.2) ∧ Blk w' g0 80 ((retW W D nm below).1.cs gd nm) ∧ DkAt w' B gd (retW W D nm below).2.1 ∧ Lf B w w' := by
  have lf := Lf.refl B w
  have hB := dk.size
  obtain ⟨num, count, size, broken⟩ := W
  simp only at hn
  unfold Wl.cs at k0
  simp only at k0
  unfold retW
  simp only
  refine Calls.start 53 Tryz.func28 rfl rfl rfl ?_
  refine Cd.seq ?_
  refine Cd.region ?_
  refine Seq.val (Runs.assign rfl rfl) rfl rfl rfl ?_
  refine Seq.nil ?_
  refine Post.weak (F' := [(0, _), (1, _), (4, _)]) ⟨rfl, rfl, rfl, trivial⟩ ?_
  refine Post.then_ ?_
  refine Cd.seq ?_
  refine Cd.block ?_
  refine Cd.seq ?_
  refine Cd.region ?_
  refine Seq.val (Runs.move rfl rfl) rfl rfl rfl ?_
  refine Seq.val (Runs.eqlP rfl rfl rfl Tryz.underlying28) rfl rfl rfl ?_
  refine Seq.val (Runs.assign rfl rfl) rfl rfl rfl ?_
  refine Seq.nil ?_
  refine Post.weak (F' := [(0, _), (1, _), (4, _), (10, _)]) ⟨rfl, rfl, rfl, rfl, trivial⟩ ?_
  refine Post.then_ ?_
  refine Cd.condF rfl rfl ?_
  refine Cd.seq ?_
  refine Cd.region ?_
  refine Seq.val (Runs.move rfl rfl) rfl rfl rfl ?_
  refine Seq.val (Runs.nilCheck rfl rfl) rfl rfl rfl ?_
  refine Seq.val (Runs.fieldB 5 rfl rfl Tryz.underlying80 rfl (by kernel_rfl)) rfl rfl rfl ?_
  refine Seq.val (Runs.loadB rfl rfl Tryz.underlying4 rfl k0 rfl) rfl rfl rfl ?_
  refine Seq.val (Runs.assign rfl rfl) rfl rfl rfl ?_
  refine Seq.nil ?_
  refine Post.weak (F' := [(0, _), (1, _), (4, _), (10, _), (13, _)]) ⟨rfl, rfl, rfl, rfl, rfl, trivial⟩ ?_
  refine Post.then_ ?_
  refine Cd.cond rfl (fun h => ?_) (fun h => ?_)
  · have h : broken = true := h
    subst h
    rw [if_pos rfl]
    refine Cd.seq ?_
    refine Cd.region ?_
    refine Seq.val (Runs.assign rfl rfl) rfl rfl rfl ?_
    refine Seq.nil ?_
    refine Post.weak (F' := [(0, _), (1, _), (4, _), (10, _), (13, _)]) ⟨rfl, rfl, rfl, rfl, rfl, trivial⟩ ?_
    refine Post.then_ ?_
    refine Cd.ret ?_
    refine Post.block_ret ?_
    refine Post.then_ret ?_
    refine Post.end1 rfl rfl (.inl rfl) ?_
    exact ⟨rfl, k0, dk, lf⟩
  have h : broken = false := h
  subst h
  rw [if_neg (by simp)]
  refine Cd.skip ?_
  refine Post.block_normal ?_
  refine Post.then_ ?_
  refine Cd.seq ?_
  refine Cd.seq ?_
  refine Cd.region ?_
  refine Seq.val (Runs.move rfl rfl) rfl rfl rfl ?_
  refine Seq.call (Enters.func rfl rfl rfl (run_enter Tryz.func37 (by kernel_rfl) rfl)) rfl rfl rfl (numbers_any B g0 gd D nm (num : Int) (count : Int) (size : Int) false _ gv k0 dk hnm hnl hown) ?_
  rintro e w7 ⟨v19, ns, rfl, hinc, hmem, ownN, hb7⟩
  refine ⟨_, rfl, ?_⟩
  have hns : ns = numsL nm (D.files.map (·.1)) := inc_eq hinc numsL_inc (fun n => by rw [hmem, numsL_mem])
  have hnsl := numsL_len (nm := nm) (names := D.files.map (·.1))
  rw [← hns] at hnsl
  rw [← hns]
  clear hinc hns
  replace ownN := ownN.mono lf.size
  replace lf := lf.step hb7
  replace dk := dk.step hb7
  replace k0 := k0.step hb7
  replace gv := gv.step hb7
  obtain ⟨A, c, rfl, -⟩ := ownN.reads
  obtain ⟨R, hR⟩ : ∃ R, R = retGo nm (min below (num : Int)) ns D := ⟨_, rfl⟩
  rw [← hR]
  refine Seq.val (Runs.len rfl rfl Tryz.underlying81) rfl rfl rfl ?_
  refine Seq.val (Runs.move rfl rfl) rfl rfl rfl ?_
  refine Seq.nil ?_
  refine Post.weak (F' := [(0, _), (1, _), (4, _), (10, _), (13, _), (19, _), (20, _), (21, _)]) ⟨rfl, rfl, rfl, rfl, rfl, rfl, rfl, rfl, trivial⟩ ?_
  refine Post.then_ ?_
  refine Cd.block ?_
  refine Cd.loop (σ := Nat × Dk) (fun q => [(0, .pointer (some ⟨g0, 0, none⟩)), (1, .int .i64 below), (19, .slice A ns.length c), (20, .int .i64 (ns.length : Int)), (21, .int .i64 (q.1 : Int))]) (fun q wr => q.1 ≤ ns.length ∧ R = retGo nm (min below (num : Int)) (ns.drop q.1) q.2 ∧ DkAt wr B gd q.2 ∧ Lf B w wr ∧ Gv wr ∧ Blk wr g0 80 (wlCs gd nm (num : Int) (count : Int) (size : Int) false) ∧ Own wr w.heap.size 3 1 (.slice A ns.length c) ns.length (ns.map fun (n : Nat) => Value.int .i64 (n : Int))) (fun q => ns.length - q.1) (0, D) ⟨Nat.zero_le _, hR, dk, lf, gv, k0, ownN⟩ ⟨rfl, rfl, rfl, rfl, rfl, trivial⟩ ?_
  clear dk lf gv k0 ownN hR
  rintro ⟨i, D'⟩ wr ⟨hi, hR, dk, lf, gv, k0, ownN⟩
  simp only at hi hR dk
  show Cd _ _ _ _ [(0, .pointer (some ⟨g0, 0, none⟩)), (1, .int .i64 below), (19, .slice A ns.length c), (20, .int .i64 (ns.length : Int)), (21, .int .i64 (i : Int))] _
  refine Cd.seq ?_
  refine Cd.region ?_
  refine Seq.val (Runs.lss rfl rfl rfl) rfl rfl rfl ?_
  refine Seq.nil ?_
  refine Post.weak (F' := [(0, _), (1, _), (19, _), (20, _), (21, _), (22, _)]) ⟨rfl, rfl, rfl, rfl, rfl, rfl, trivial⟩ ?_
  refine Post.then_ ?_
  refine Cd.seq ?_
  refine Cd.condD rfl (fun hc => ?_) (fun hc => ?_)
  · obtain ⟨n, hn1⟩ : ∃ n, ns[i]? = some n := ⟨_, List.getElem?_eq_getElem (by omega)⟩
    have hn6 : n ≤ 999999 := ((hmem n).1 (List.mem_of_getElem? hn1)).1
    rw [drop_head hn1, retGo] at hR
    obtain ⟨A', c', hv, hrd⟩ := ownN.reads
    injection hv with e1 _ e2
    subst e1 e2
    obtain ⟨ad, rfl, -, hcl⟩ := hrd.2 (by omega)
    have hcd := hcl i (.int .i64 (n : Int)) (by rw [List.getElem?_map, hn1]; rfl)
    clear hrd hcl
    refine Cd.skip ?_
    refine Post.then_ ?_
    refine Cd.seq ?_
    refine Cd.block ?_
    refine Cd.seq ?_
    refine Cd.region ?_
    refine Seq.val (Runs.index1 rfl rfl rfl Tryz.underlying81 (by kernel_rfl) (j := i) rfl (by omega)) rfl rfl rfl ?_
    refine Seq.val (Runs.load1 rfl rfl Tryz.underlying3 rfl hcd) rfl rfl rfl ?_
    refine Seq.val (Runs.assign rfl rfl) rfl rfl rfl ?_
    refine Seq.nil ?_
    refine Post.weak (F' := [(0, _), (1, _), (6, _), (19, _), (20, _), (21, _), (22, _)]) ⟨rfl, rfl, rfl, rfl, rfl, rfl, rfl, trivial⟩ ?_
    refine Post.then_ ?_
    refine Cd.seq ?_
    refine Cd.seq ?_
    refine Cd.region ?_
    refine Seq.val (Runs.move rfl rfl) rfl rfl rfl ?_
    refine Seq.val (Runs.move rfl rfl) rfl rfl rfl ?_
    refine Seq.val (Runs.move rfl rfl) rfl rfl rfl ?_
    refine Seq.val (Runs.nilCheck rfl rfl) rfl rfl rfl ?_
    refine Seq.val (Runs.fieldB 2 rfl rfl Tryz.underlying80 rfl (by kernel_rfl)) rfl rfl rfl ?_
    refine Seq.val (Runs.loadB rfl rfl Tryz.underlying3 rfl k0 rfl) rfl rfl rfl ?_
    refine Seq.val (Runs.min2 rfl rfl rfl) rfl rfl rfl ?_
    refine Seq.val (Runs.geq rfl rfl rfl) rfl rfl rfl ?_
    refine Seq.nil ?_
    refine Post.weak (F' := [(0, _), (1, _), (6, _), (19, _), (20, _), (21, _), (22, _), (32, _)]) ⟨rfl, rfl, rfl, rfl, rfl, rfl, rfl, rfl, trivial⟩ ?_
    refine Post.then_ ?_
    refine Cd.cond rfl (fun h => ?_) (fun h => ?_)
    · have h : min below (num : Int) ≤ (n : Int) := by simpa using h
      rw [if_pos h] at hR
      subst hR
      refine Cd.exit ?_
      refine Post.then_exit ?_
      refine Post.block_other rfl ?_
      refine Post.then_exit ?_
      refine Post.round_exit ?_
      refine Post.block_exit ?_
      refine Post.then_ ?_
      refine Cd.seq ?_
      refine Cd.region ?_
      refine Seq.val (Runs.assign rfl rfl) rfl rfl rfl ?_
      refine Seq.nil ?_
      refine Post.weak (F' := [(0, _), (1, _), (4, _), (6, _), (19, _), (20, _), (21, _), (22, _), (32, _)]) ⟨rfl, rfl, rfl, rfl, rfl, rfl, rfl, rfl, rfl, trivial⟩ ?_
      refine Post.then_ ?_
      refine Cd.ret ?_
      refine Post.end1 rfl rfl (.inl rfl) ?_
      exact ⟨rfl, k0, dk, lf⟩
    have h : ¬ (min below (num : Int) ≤ (n : Int)) := by simpa using h
    rw [if_neg h] at hR
    replace hR : R = remR nm n (min below (num : Int)) (ns.drop (i + 1)) 2 D' := hR
    refine Cd.skip ?_
    refine Post.then_ ?_
    refine Cd.seq ?_
    refine Cd.region ?_
    refine Seq.slice (vs := [_, _]) (s := 1) rfl rfl rfl Tryz.underlying22 (by kernel_rfl) (zero_string) (by omega) (by omega) ⟨rfl, rfl, trivial⟩ rfl rfl rfl ?_
    intro g33 w1 n33
    have l33 := Nat.lt_of_lt_of_le k0.lt n33.ge
    replace lf := lf.step n33.below
    replace dk := dk.step n33.below
    replace gv := gv.step n33.below
    replace k0 := k0.step n33.below
    replace ownN := ownN.step n33.below
    have k33 := n33.blk
    refine Seq.val (Runs.len rfl rfl Tryz.underlying22) rfl rfl rfl ?_
    refine Seq.val (Runs.move rfl rfl) rfl rfl rfl ?_
    refine Seq.nil ?_
    refine Post.weak (F' := [(0, _), (1, _), (6, _), (19, _), (20, _), (21, _), (22, _), (32, _), (33, _), (34, _), (35, _)]) ⟨rfl, rfl, rfl, rfl, rfl, rfl, rfl, rfl, rfl, rfl, rfl, trivial⟩ ?_
    refine Post.then_ ?_
    refine Cd.block ?_
    have hsz := lf.size
    refine Cd.loop (σ := Nat × Dk) (fun q => [(0, .pointer (some ⟨g0, 0, none⟩)), (1, .int .i64 below), (6, .int .i64 (n : Int)), (19, .slice (some ad) ns.length c), (20, .int .i64 (ns.length : Int)), (21, .int .i64 (i : Int)), (33, .slice (some ⟨g33, 0, none⟩) 2 2), (34, .int .i64 2), (35, .int .i64 (q.1 : Int))]) (fun q wr => q.1 ≤ 2 ∧ R = remR nm n (min below (num : Int)) (ns.drop (i + 1)) (2 - q.1) q.2 ∧ DkAt wr B gd q.2 ∧ Lf B w wr ∧ Gv wr ∧ Blk wr g0 80 (wlCs gd nm (num : Int) (count : Int) (size : Int) false) ∧ Own wr w.heap.size 3 1 (.slice (some ad) ns.length c) ns.length (ns.map fun (n : Nat) => Value.int .i64 (n : Int)) ∧ Blk wr g33 9 (Ts [ackK, logK]).toArray) (fun q => 2 - q.1) (0, D') ⟨by omega, hR, dk, lf, gv, k0, ownN, k33⟩ ⟨rfl, rfl, rfl, rfl, rfl, rfl, rfl, rfl, rfl, trivial⟩ ?_
    clear dk lf gv k0 ownN k33 hR
    rintro ⟨j, D''⟩ wr2 ⟨hj, hR, dk, lf, gv, k0, ownN, k33⟩
    simp only at hj hR dk
    show Cd _ _ _ _ [(0, .pointer (some ⟨g0, 0, none⟩)), (1, .int .i64 below), (6, .int .i64 (n : Int)), (19, .slice (some ad) ns.length c), (20, .int .i64 (ns.length : Int)), (21, .int .i64 (i : Int)), (33, .slice (some ⟨g33, 0, none⟩) 2 2), (34, .int .i64 2), (35, .int .i64 (j : Int))] _
    refine Cd.seq ?_
    refine Cd.region ?_
    refine Seq.val (Runs.lss rfl rfl rfl) rfl rfl rfl ?_
    refine Seq.nil ?_
    refine Post.weak (F' := [(0, _), (1, _), (6, _), (19, _), (20, _), (21, _), (33, _), (34, _), (35, _), (36, _)]) ⟨rfl, rfl, rfl, rfl, rfl, rfl, rfl, rfl, rfl, rfl, trivial⟩ ?_
    refine Post.then_ ?_
    refine Cd.seq ?_
    refine Cd.condD rfl (fun hc => ?_) (fun hc => ?_)
    · have hkj : (Ts [ackK, logK]).toArray[j]? = some (.string (strOf (kindR j))) := by
        rcases (show j = 0 ∨ j = 1 by omega) with rfl | rfl <;> rfl
      rw [show 2 - j = (1 - j) + 1 by omega, remR, show 1 - (1 - j) = j by omega] at hR
      have hfb := fileN_byt n hnm (kindR_byt j)
      have hfl : (fileN nm n (kindR j)).length ≤ 1000 := by rw [fileN_len hn6, kindR_len]; omega
      have hkl := kindR_len j
      refine Cd.skip ?_
      refine Post.then_ ?_
      refine Cd.seq ?_
      refine Cd.block ?_
      refine Cd.seq ?_
      refine Cd.region ?_
      refine Seq.val (Runs.indexB rfl rfl rfl Tryz.underlying22 (by kernel_rfl) (j := j) rfl (by omega)) rfl rfl rfl ?_
      refine Seq.val (Runs.loadB rfl rfl Tryz.underlying9 rfl k33 hkj) rfl rfl rfl ?_
      refine Seq.val (Runs.assign rfl rfl) rfl rfl rfl ?_
      refine Seq.nil ?_
      refine Post.weak (F' := [(0, _), (1, _), (6, _), (8, _), (19, _), (20, _), (21, _), (33, _), (34, _), (35, _), (36, _)]) ⟨rfl, rfl, rfl, rfl, rfl, rfl, rfl, rfl, rfl, rfl, rfl, trivial⟩ ?_
      refine Post.then_ ?_
      refine Cd.seq ?_
      refine Cd.region ?_
      refine Seq.val (Runs.move rfl rfl) rfl rfl rfl ?_
      refine Seq.val (Runs.move rfl rfl) rfl rfl rfl ?_
      refine Seq.val (Runs.move rfl rfl) rfl rfl rfl ?_
      refine Seq.val (Runs.move rfl rfl) rfl rfl rfl ?_
      refine Seq.call (Enters.func rfl rfl rfl (run_enter Tryz.func50 (by kernel_rfl) rfl)) rfl rfl rfl (file_any g0 gd n nm (kindR j) (num : Int) (count : Int) (size : Int) false _ gv k0 hn6 (by omega) (by omega)) ?_
      rintro e w9 ⟨rfl, hb9⟩
      refine ⟨_, rfl, ?_⟩
      replace lf := lf.step hb9
      replace dk := dk.step hb9
      replace gv := gv.step hb9
      replace ownN := ownN.step hb9
      replace k0 := k0.step hb9
      replace k33 := k33.step hb9
      obtain ⟨x, hx⟩ : ∃ x, x = fileN nm n (kindR j) := ⟨_, rfl⟩
      rw [← hx] at hfb hfl hR
      rw [← hx]
      refine Seq.call (Enters.func rfl rfl rfl (run_enter Tryz.func49 (by kernel_rfl) rfl)) rfl rfl rfl (wdrop_any B g0 gd D'' nm x (num : Int) (count : Int) (size : Int) false _ k0 dk hfb hfl) ?_
      clear dk
      rintro e w2 ⟨rfl, dk, fw2⟩
      refine ⟨_, rfl, ?_⟩
      replace lf := lf.df fw2
      replace gv := gv.df fw2
      replace ownN := ownN.df fw2
      replace k0 := k0.df fw2
      replace k33 := k33.df fw2
      refine Seq.val (Runs.assign rfl rfl) rfl rfl rfl ?_
      refine Seq.nil ?_
      refine Post.weak (F' := [(0, _), (1, _), (6, _), (8, _), (9, _), (19, _), (20, _), (21, _), (33, _), (34, _), (35, _), (36, _)]) ⟨rfl, rfl, rfl, rfl, rfl, rfl, rfl, rfl, rfl, rfl, rfl, rfl, trivial⟩ ?_
      refine Post.then_ ?_
      refine Cd.seq ?_
      refine Cd.region ?_
      refine Seq.val (Runs.move rfl rfl) rfl rfl rfl ?_
      refine Seq.val (Runs.neqI rfl rfl rfl) rfl rfl rfl ?_
      refine Seq.nil ?_
      refine Post.weak (F' := [(0, _), (1, _), (6, _), (8, _), (9, _), (19, _), (20, _), (21, _), (33, _), (34, _), (35, _), (36, _), (46, _)]) ⟨rfl, rfl, rfl, rfl, rfl, rfl, rfl, rfl, rfl, rfl, rfl, rfl, rfl, trivial⟩ ?_
      refine Post.then_ ?_
      refine Cd.cond rfl (fun h => ?_) (fun h => ?_)
      · have h : D''.dropE x ≠ 0 := by simpa using h
        rw [if_pos h] at hR
        subst hR
        simp only
        rw [if_pos h]
        refine Cd.seq ?_
        refine Cd.region ?_
        refine Seq.val (Runs.move rfl rfl) rfl rfl rfl ?_
        refine Seq.val (Runs.nilCheck rfl rfl) rfl rfl rfl ?_
        refine Seq.val (Runs.fieldB 5 rfl rfl Tryz.underlying80 rfl (by kernel_rfl)) rfl rfl rfl ?_
        refine Seq.store1 rfl rfl rfl (by kernel_rfl) rfl rfl k0 rfl rfl rfl ?_
        intro w3 pw3
        replace lf := lf.put k0 pw3 e0
        replace dk := dk.put k0 pw3 e0
        replace gv := gv.put k0 pw3 e0
        replace ownN := ownN.put k0 pw3 e0
        replace k33 := k33.put pw3 (by omega)
        replace k0 := pw3.blk
        refine Seq.nil ?_
        refine Post.weak (F' := [(0, _), (1, _), (6, _), (8, _), (9, _), (19, _), (20, _), (21, _), (33, _), (34, _), (35, _), (36, _), (46, _)]) ⟨rfl, rfl, rfl, rfl, rfl, rfl, rfl, rfl, rfl, rfl, rfl, rfl, rfl, trivial⟩ ?_
        refine Post.then_ ?_
        refine Cd.seq ?_
        refine Cd.region ?_
        refine Seq.val (Runs.move rfl rfl) rfl rfl rfl ?_
        refine Seq.val (Runs.assign rfl rfl) rfl rfl rfl ?_
        refine Seq.nil ?_
        refine Post.weak (F' := [(0, _), (1, _), (4, _), (6, _), (8, _), (9, _), (19, _), (20, _), (21, _), (33, _), (34, _), (35, _), (36, _), (46, _)]) ⟨rfl, rfl, rfl, rfl, rfl, rfl, rfl, rfl, rfl, rfl, rfl, rfl, rfl, rfl, trivial⟩ ?_
        refine Post.then_ ?_
        refine Cd.ret ?_
        refine Post.block_ret ?_
        refine Post.then_ret ?_
        refine Post.round_ret ?_
        refine Post.block_ret ?_
        refine Post.block_ret ?_
        refine Post.then_ret ?_
        refine Post.round_ret ?_
        refine Post.block_ret ?_
        refine Post.then_ret ?_
        refine Post.end1 rfl rfl (.inl rfl) ?_
        exact ⟨rfl, k0, dk, lf⟩
      have h : ¬ (D''.dropE x ≠ 0) := by simpa using h
      rw [if_neg h] at hR
      refine Cd.skip ?_
      refine Post.block_normal ?_
      refine Post.then_ ?_
      refine Cd.region ?_
      refine Seq.val (Runs.addI rfl rfl rfl (by omega) (by omega)) rfl rfl rfl ?_
      refine Seq.val (Runs.move rfl rfl) rfl rfl rfl ?_
      refine Seq.nil ?_
      refine Post.weak (F' := [(0, _), (1, _), (6, _), (8, _), (9, _), (19, _), (20, _), (21, _), (33, _), (34, _), (35, _), (36, _), (46, _)]) ⟨rfl, rfl, rfl, rfl, rfl, rfl, rfl, rfl, rfl, rfl, rfl, rfl, rfl, trivial⟩ ?_
      exact Post.round (j + 1, D''.delete x) ⟨rfl, rfl, rfl, rfl, rfl, rfl, rfl, rfl, int_at (by omega), trivial⟩ ⟨by simp only; omega, by simp only; rw [show 2 - (j + 1) = 1 - j by omega]; exact hR, dk, lf, gv, k0, ownN, k33⟩ (by simp only; omega)
    · obtain rfl : j = 2 := by omega
      refine Cd.exit ?_
      refine Post.then_exit ?_
      refine Post.round_exit ?_
      refine Post.block_exit ?_
      refine Post.block_normal ?_
      refine Post.then_ ?_
      refine Cd.region ?_
      refine Seq.val (Runs.addI rfl rfl rfl (by omega) (by omega)) rfl rfl rfl ?_
      refine Seq.val (Runs.move rfl rfl) rfl rfl rfl ?_
      refine Seq.nil ?_
      refine Post.weak (F' := [(0, _), (1, _), (6, _), (19, _), (20, _), (21, _), (33, _), (34, _), (35, _), (36, _)]) ⟨rfl, rfl, rfl, rfl, rfl, rfl, rfl, rfl, rfl, rfl, trivial⟩ ?_
      exact Post.round (i + 1, D'') ⟨rfl, rfl, rfl, rfl, int_at (by omega), trivial⟩ ⟨by simp only; omega, hR, dk, lf, gv, k0, ownN⟩ (by simp only; omega)
  · obtain rfl : i = ns.length := by omega
    rw [List.drop_length, retGo] at hR
    subst hR
    refine Cd.exit ?_
    refine Post.then_exit ?_
    refine Post.round_exit ?_
    refine Post.block_exit ?_
    refine Post.then_ ?_
    refine Cd.seq ?_
    refine Cd.region ?_
    refine Seq.val (Runs.assign rfl rfl) rfl rfl rfl ?_
    refine Seq.nil ?_
    refine Post.weak (F' := [(0, _), (1, _), (4, _), (19, _), (20, _), (21, _), (22, _)]) ⟨rfl, rfl, rfl, rfl, rfl, rfl, rfl, trivial⟩ ?_
    refine Post.then_ ?_
    refine Cd.ret ?_
    refine Post.end1 rfl rfl (.inl rfl) ?_
    exact ⟨rfl, k0, dk, lf⟩
end Go.Proofs.YtnlepoplncjliaaGreatDoor

namespace Go.Proofs.YtnlepoplncjliaaGreatDoor
open Go.RowKit

theorem addr_add2 (ad : Addr) (a b : Nat) : (ad.add a).add b = ad.add (a + b) := by
  unfold Addr.add
  by_cases ha : a = 0
  · subst ha; simp
  · by_cases hb : b = 0
    · subst hb; simp [ha]
    · simp [ha, hb, Nat.add_assoc]
theorem recsV_at {l : List (Nat × List Nat)} {i : Nat} {r : Nat × List Nat} (h : l[i]? = some r) : ∀ (j : Nat) (v : Value), (recV r)[j]? = some v → (recsV l)[i * 2 + j]? = some v := by
  intro j v hj
  have hj2 : j < 2 := (List.getElem?_eq_some_iff.1 hj).1
  induction l generalizing i with
  | nil => cases h
  | cons x l ih =>
    have e : recsV (x :: l) = recV x ++ recsV l := by simp [recsV]
    have hx : (recV x).length = 2 := rfl
    cases i with
    | zero =>
      injection h with h
      subst h
      rw [e, Nat.zero_mul, Nat.zero_add, List.getElem?_append_left (by omega)]
      exact hj
    | succ i =>
      rw [e, List.getElem?_append_right (by omega)]
      have := ih (i := i) (by simpa using h)
      rw [show (i + 1) * 2 + j - (recV x).length = i * 2 + j by omega]
      exact this
theorem Reads.rec {w wr : World} {B n i : Nat} {A : Option Addr} {l : List (Nat × List Nat)} {r : Nat × List Nat} (h : Reads w B 2 A n (recsV l)) (hb : Below B w wr) (hf : l[i]? = some r) : ∃ ad, A = some ad ∧ ad.block < B ∧ i < n ∧ ∀ (j : Nat) (v : Value), (recV r)[j]? = some v → wr.cell? ((ad.add (i * 2)).add j) = some v := by
  have hl := h.1
  rw [recsV_len] at hl
  have hi := (List.getElem?_eq_some_iff.1 hf).1
  have hin : i < n := by omega
  obtain ⟨ad, rfl, hbl, hc⟩ := h.2 (by omega)
  exact ⟨ad, rfl, hbl, hin, fun j v hj => by
    rw [addr_add2]
    exact (hb.cell (by rw [block_of_add]; exact hbl)).trans (hc _ _ (recsV_at hf j v hj))⟩
theorem Reads.rec_len {w : World} {B n : Nat} {A : Option Addr} {l : List (Nat × List Nat)} (h : Reads w B 2 A n (recsV l)) : l.length = n := by
  have hl := h.1
  rw [recsV_len] at hl
  omega
/-- A record's value. -/
def recA (r : Nat × List Nat) : Value := .agg (recV r).toArray
theorem run_neq_rec (a b : Nat × List Nat) (w : World) : (binOp .neq 36 (recA a) (recA b)).run Tryz.prog w = .ok (.bool (!((a.1 : Int) == (b.1 : Int) && (strOf a.2).toList == (strOf b.2).toList))) w := by
  have hu := Tryz.underlying36
  unfold recA recV
  go_simp
  repeat' split
  all_goals simp_all
theorem run_eql_rec (a b : Nat × List Nat) (w : World) : (binOp .eql 36 (recA a) (recA b)).run Tryz.prog w = .ok (.bool ((a.1 : Int) == (b.1 : Int) && (strOf a.2).toList == (strOf b.2).toList)) w := by
  have hu := Tryz.underlying36
  unfold recA recV
  go_simp
  repeat' split
  all_goals simp_all
theorem guard_rec (op : BinOp) (x y : Operand) (a b : Array Value) (w : World) : (eqGuard op 36 x y (.agg a) (.agg b)).run Tryz.prog w = .ok () w := by
  have h : Tryz.prog.eqGuardType Tryz.prog.depth 36 = false := by kernel_rfl
  cases op <;> simp [eqGuard, program, h, Sem.run_bind, Sem.run]
theorem same_rec {a b : Nat × List Nat} (ha : Byt a.2) (hb : Byt b.2) : ((a.1 : Int) == (b.1 : Int) && (strOf a.2).toList == (strOf b.2).toList) = decide (a = b) := by
  rw [strOf_beq ha hb, Bool.eq_iff_iff]
  cases a
  cases b
  simp
  intro _
  omega
section
variable {P : Program} {E : Operand → Option Value} {o : Oper} {w : World} {x : Operand} {T : TypeId}
/-- A struct, by its cells. -/
theorem Runs.loadCs {ad : Addr} {m : Nat} {ps : List Value} {d : TypeDesc} (ho : o.op = .load T x) (hx : E x = some (.pointer (some ad))) (hT : P.underlying T = some d) (hd : (match d with | .struct _ | .array _ _ => true | _ => false) = true) (hs : sizeIs P T m = true) (hm : ps.length = m) (hc : ∀ (j : Nat) (v : Value), ps[j]? = some v → w.cell? (ad.add j) = some v) : Runs P E o w (.agg ps.toArray) w := by
  obtain ⟨i, hi, hsz⟩ := sizeIs_spec hs
  exact .loadN (cs := ps) ho hx hT hd hi (by omega) hc
end
theorem same_any (A A' : Option Addr) (n c n' c' B : Nat) (l l' : List (Nat × List Nat)) (w : World) (hr : Reads w B 2 A n (recsV l)) (hr' : Reads w B 2 A' n' (recsV l')) (hB : B ≤ w.heap.size) (hb : ∀ r ∈ l, Byt r.2) (hb' : ∀ r ∈ l', Byt r.2) (hn : n ≤ 1000000000) (hn' : n' ≤ 1000000000) :
    Calls Tryz.prog 16 #[.slice A n c, .slice A' n' c'] w fun e w' => e = .returned (.bool (decide (l = l'))) ∧ Grow w w' := by
  have bel := Below.refl w.heap.size w
  have hl := hr.rec_len
  have hl' := hr'.rec_len
  refine Calls.start 26 Tryz.func16 rfl rfl rfl ?_
  refine Cd.seq ?_
  refine Cd.region ?_
  refine Seq.val (Runs.assign rfl rfl) rfl rfl rfl ?_
  refine Seq.nil ?_
  refine Post.weak (F' := [(0, _), (1, _), (4, _)]) ⟨rfl, rfl, rfl, trivial⟩ ?_
  refine Post.then_ ?_
  refine Cd.seq ?_
  refine Cd.seq ?_
  refine Cd.region ?_
  refine Seq.val (Runs.move rfl rfl) rfl rfl rfl ?_
  refine Seq.val (Runs.len rfl rfl Tryz.underlying29) rfl rfl rfl ?_
  refine Seq.val (Runs.move rfl rfl) rfl rfl rfl ?_
  refine Seq.val (Runs.len rfl rfl Tryz.underlying29) rfl rfl rfl ?_
  refine Seq.val (Runs.neqI rfl rfl rfl) rfl rfl rfl ?_
  refine Seq.nil ?_
  refine Post.weak (F' := [(0, _), (1, _), (4, _), (10, _)]) ⟨rfl, rfl, rfl, rfl, trivial⟩ ?_
  refine Post.then_ ?_
  refine Cd.cond rfl (fun h => ?_) (fun h => ?_)
  · have h : (n : Int) ≠ (n' : Int) := by simpa using h
    have hne : l ≠ l' := fun e => by rw [e] at hl; omega
    rw [decide_eq_false hne]
    refine Cd.seq ?_
    refine Cd.region ?_
    refine Seq.val (Runs.assign rfl rfl) rfl rfl rfl ?_
    refine Seq.nil ?_
    refine Post.weak (F' := [(0, _), (1, _), (4, _), (10, _)]) ⟨rfl, rfl, rfl, rfl, trivial⟩ ?_
    refine Post.then_ ?_
    refine Cd.ret ?_
    refine Post.then_ret ?_
    refine Post.end1 rfl rfl (.inl rfl) ?_
    exact ⟨rfl, bel⟩
  have h : (n : Int) = (n' : Int) := by simpa using h
  obtain rfl : n = n' := by omega
  refine Cd.skip ?_
  refine Post.then_ ?_
  refine Cd.seq ?_
  refine Cd.seq ?_
  refine Cd.region ?_
  refine Seq.val (Runs.assign rfl rfl) rfl rfl rfl ?_
  refine Seq.nil ?_
  refine Post.weak (F' := [(0, _), (1, _), (4, _), (5, _), (10, _)]) ⟨rfl, rfl, rfl, rfl, rfl, trivial⟩ ?_
  refine Post.then_ ?_
  refine Cd.block ?_
  refine Cd.loop (σ := Nat) (fun j => [(0, .slice A n c), (1, .slice A' n c'), (5, .int .i64 (j : Int))]) (fun j wr => j ≤ n ∧ l.take j = l'.take j ∧ Below w.heap.size w wr) (fun j => n - j) 0 ⟨Nat.zero_le _, by simp, bel⟩ ⟨rfl, rfl, rfl, trivial⟩ ?_
  clear bel
  rintro j wr ⟨hj, heq, bel⟩
  refine Cd.seq ?_
  refine Cd.seq ?_
  refine Cd.region ?_
  refine Seq.val (Runs.move rfl rfl) rfl rfl rfl ?_
  refine Seq.val (Runs.move rfl rfl) rfl rfl rfl ?_
  refine Seq.val (Runs.len rfl rfl Tryz.underlying29) rfl rfl rfl ?_
  refine Seq.val (Runs.lss rfl rfl rfl) rfl rfl rfl ?_
  refine Seq.nil ?_
  refine Post.weak (F' := [(0, _), (1, _), (5, _), (14, _)]) ⟨rfl, rfl, rfl, rfl, trivial⟩ ?_
  refine Post.then_ ?_
  refine Cd.condD rfl (fun hc => ?_) (fun hc => ?_)
  · obtain ⟨r, hrj⟩ : ∃ r, l[j]? = some r := ⟨_, List.getElem?_eq_getElem (by omega)⟩
    obtain ⟨r', hrj'⟩ : ∃ r, l'[j]? = some r := ⟨_, List.getElem?_eq_getElem (by omega)⟩
    obtain ⟨ad, rfl, hbd, -, hcl⟩ := hr.rec (bel.mono hB) hrj
    obtain ⟨ad', rfl, hbd', -, hcl'⟩ := hr'.rec (bel.mono hB) hrj'
    have hneq := run_neq_rec r r'
    rw [same_rec (hb r (List.mem_of_getElem? hrj)) (hb' r' (List.mem_of_getElem? hrj'))] at hneq
    have hsz := bel.size
    refine Cd.skip ?_
    refine Post.then_ ?_
    refine Cd.seq ?_
    refine Cd.block ?_
    refine Cd.seq ?_
    refine Cd.draw 9 (by kernel_rfl) [] (.inl rfl) rfl Grow Grow.refl (fun _ _ _ => Grow.trans) ?_
    intro w1 hw1 zw1
    replace bel := bel.step hw1
    have zbel := bel.size
    refine Dr.val Grow.refl rfl (fun w hG => Runs.move rfl rfl) rfl ?_
    refine Dr.val Grow.refl rfl (fun w hG => Runs.move rfl rfl) rfl ?_
    refine Dr.val Grow.refl rfl (fun w hG => Runs.indexN rfl rfl rfl Tryz.underlying29 (s := 2) (by kernel_rfl) (j := j) rfl (by omega)) rfl ?_
    refine Dr.val Grow.refl rfl (fun w hG => Runs.loadCs rfl rfl Tryz.underlying36 rfl (m := 2) (ps := recV r) (by kernel_rfl) rfl (fun k v hk => (hG.cell (by rw [block_of_add, block_of_add]; omega)).trans ((hw1.cell (by rw [block_of_add, block_of_add]; omega)).trans (hcl k v hk)))) rfl ?_
    refine Dr.val Grow.refl rfl (fun w hG => Runs.move rfl rfl) rfl ?_
    refine Dr.val Grow.refl rfl (fun w hG => Runs.move rfl rfl) rfl ?_
    refine Dr.val Grow.refl rfl (fun w hG => Runs.indexN rfl rfl rfl Tryz.underlying29 (s := 2) (by kernel_rfl) (j := j) rfl (by omega)) rfl ?_
    refine Dr.val Grow.refl rfl (fun w hG => Runs.loadCs rfl rfl Tryz.underlying36 rfl (m := 2) (ps := recV r') (by kernel_rfl) rfl (fun k v hk => (hG.cell (by rw [block_of_add, block_of_add]; omega)).trans ((hw1.cell (by rw [block_of_add, block_of_add]; omega)).trans (hcl' k v hk)))) rfl ?_
    refine Dr.val Grow.refl rfl (fun w hG => Runs.bin rfl rfl rfl (guard_rec _ _ _ _ _ w) (hneq w)) rfl ?_
    refine FinX.done (F' := [(0, _), (1, _), (5, _), (14, _), (25, _)]) rfl ⟨rfl, rfl, rfl, rfl, rfl, trivial⟩ ?_
    intro w2 hw2 fw2
    replace bel := bel.step hw2
    refine Seq.nil ?_
    refine Post.weak (F' := [(0, _), (1, _), (5, _), (14, _), (25, _)]) ⟨rfl, rfl, rfl, rfl, rfl, trivial⟩ ?_
    refine Post.then_ ?_
    refine Cd.cond rfl (fun h => ?_) (fun h => ?_)
    · have h : r ≠ r' := by simpa using h
      have hne : l ≠ l' := fun e => by
        rw [e, hrj'] at hrj
        injection hrj with e2
        exact h e2.symm
      rw [decide_eq_false hne]
      refine Cd.seq ?_
      refine Cd.region ?_
      refine Seq.val (Runs.assign rfl rfl) rfl rfl rfl ?_
      refine Seq.nil ?_
      refine Post.weak (F' := [(0, _), (1, _), (4, _), (5, _), (14, _), (25, _)]) ⟨rfl, rfl, rfl, rfl, rfl, rfl, trivial⟩ ?_
      refine Post.then_ ?_
      refine Cd.ret ?_
      refine Post.block_ret ?_
      refine Post.then_ret ?_
      refine Post.round_ret ?_
      refine Post.block_ret ?_
      refine Post.then_ret ?_
      refine Post.end1 rfl rfl (.inl rfl) ?_
      exact ⟨rfl, bel⟩
    have h : r = r' := by simpa using h
    subst h
    refine Cd.skip ?_
    refine Post.block_normal ?_
    refine Post.then_ ?_
    refine Cd.region ?_
    refine Seq.val (Runs.move rfl rfl) rfl rfl rfl ?_
    refine Seq.val (Runs.addI rfl rfl rfl (by omega) (by omega)) rfl rfl rfl ?_
    refine Seq.val (Runs.assign rfl rfl) rfl rfl rfl ?_
    refine Seq.nil ?_
    refine Post.weak (F' := [(0, _), (1, _), (5, _), (14, _), (25, _)]) ⟨rfl, rfl, rfl, rfl, rfl, trivial⟩ ?_
    exact Post.round (j + 1) ⟨rfl, rfl, int_at (by omega), trivial⟩ ⟨by omega, by rw [take_last hrj, take_last hrj', heq], bel⟩ (by omega)
  · obtain rfl : j = n := by omega
    have he : l = l' := by rw [← List.take_length (l := l), ← List.take_length (l := l'), hl, hl']; exact heq
    rw [decide_eq_true he]
    refine Cd.exit ?_
    refine Post.then_exit ?_
    refine Post.round_exit ?_
    refine Post.block_exit ?_
    refine Post.then_ ?_
    refine Cd.seq ?_
    refine Cd.region ?_
    refine Seq.val (Runs.assign rfl rfl) rfl rfl rfl ?_
    refine Seq.nil ?_
    refine Post.weak (F' := [(0, _), (1, _), (4, _), (5, _), (14, _)]) ⟨rfl, rfl, rfl, rfl, rfl, trivial⟩ ?_
    refine Post.then_ ?_
    refine Cd.ret ?_
    refine Post.end1 rfl rfl (.inl rfl) ?_
    exact ⟨rfl, bel⟩
end Go.Proofs.YtnlepoplncjliaaGreatDoor

namespace Go.Proofs.YtnlepoplncjliaaGreatDoor
open Go.RowKit

theorem WlIs.rotated {D : Dk} {nm : List Nat} {W : Wl} {segs : List (Nat × List (List Nat))} (h : WlIs D nm W segs) : WlIs D nm W.rotate segs := by
  unfold Wl.rotate
  split
  · rename_i hc
    refine ⟨h.log, h.broken, .inl ⟨rfl, rfl, fun s hs => ?_⟩⟩
    show s.1 < W.num + 1
    rcases h.at_ with ⟨h1, -, -⟩ | ⟨ini, l, h1, h2, h3⟩
    · omega
    · rw [h1] at hs
      rcases List.mem_append.1 hs with hs | hs
      · have := h.log.inc
        rw [h1, List.map_append, List.pairwise_append] at this
        have := this.2.2 s.1 (List.mem_map.2 ⟨s, hs, rfl⟩) W.num (by simp)
        omega
      · simp at hs; subst hs; omega
  · exact h
theorem byt_one {c : Nat} (h : c < 256) : Byt [c] := by intro d hd; simp at hd; omega
theorem right_w : rightN [119] = true := by decide
theorem run_build_rec1 (s : List Nat) (w : World) : (Instr.build 36 #[(1, .string (strOf s))]).run Tryz.prog w = .ok (.agg #[.int .i64 0, .string (strOf s)]) w := by
  have hu := Tryz.underlying36
  go_simp
set_option maxHeartbeats 4000000 in
theorem awake_any (w : World) (gv : Gv w) : Calls Tryz.prog 11 #[] w fun e w' => e = .returned (.bool true) ∧ Grow w w' := by
  have lf := Lf.refl w.heap.size w
  have hgw := tab_lt gv.pow
  have hL0 : LogIs (Dk.new 1000) [119] [] := LogIs.nil
  have hO0 := hL0.opens
  have hnext : nextN 0 [] = 0 := rfl
  have hrec0 : recsOf [] = [] := rfl
  rw [hnext, hrec0] at hO0
  obtain ⟨D1, s1, hA1, hW1, hr1, hro1, hu1, hf1⟩ := WlIs.append (WlIs.opened hL0) (data := [97]) (by decide) (byt_one (by omega)) (by decide) (by decide) (by decide) (by decide) (by decide) (by decide)
  rw [hnext] at hA1 hW1 hr1
  rw [hrec0] at hr1
  have hW2 := hW1.rotated
  have hrot : (Wl.mk 0 (0 + 1) (0 + ([97].length + 12)) false).rotate = ⟨1, 0, 0, false⟩ := rfl
  rw [hrot] at hW2
  have hu0 : (Dk.new 1000).used = 0 := rfl
  have hro0 : (Dk.new 1000).room = 1000 := rfl
  have hf0 : (Dk.new 1000).files.length = 0 := rfl
  rw [hu0] at hu1
  rw [hro0] at hro1
  rw [hf0] at hf1
  obtain ⟨D2, s2, hA2, hW3, hr2, -, -, -⟩ := WlIs.append hW2 (data := [98]) (by decide) (byt_one (by omega)) (by decide) (by decide) (by decide) (by decide) (by omega) (by rw [hro1, hu1]; decide)
  rw [hr1] at hr2
  have hO2 := hW3.log.opens
  rw [hr2] at hO2
  generalize nextN 0 s2 = nx at hO2
  replace hA1 : appW ⟨0, 0, 0, false⟩ (Dk.new 1000) [119] [97] = (⟨0, 1, 13, false⟩, D1, 0) := hA1
  replace hA2 : appW ⟨1, 0, 0, false⟩ D1 [119] [98] = (⟨1, 1, 13, false⟩, D2, 0) := hA2
  replace hO2 : openW D2 [119] = (D2, 0, [(0, [97]), (1, [98])], nx) := hO2
  have hown2 := hW3.log.own_nm
  have hoff2 := hW3.log.calm.off
  clear hW1 hW2 hW3 hr1 hr2 hro1 hu1 hf1 hrot hu0 hro0 hf0 hnext hrec0
  refine Calls.start 69 Tryz.func11 rfl rfl rfl ?_
  refine Cd.seq ?_
  refine Cd.region ?_
  refine Seq.val (Runs.assign rfl rfl) rfl rfl rfl ?_
  refine Seq.nil ?_
  refine Post.weak (F' := [(0, _)]) ⟨rfl, trivial⟩ ?_
  refine Post.then_ ?_
  refine Cd.seq ?_
  refine Cd.region ?_
  refine Seq.call (Enters.func rfl rfl rfl (run_enter Tryz.func12 (by kernel_rfl) rfl)) rfl rfl rfl (new_any 1000 _ (by omega) (by omega)) ?_
  rintro e w5 ⟨gd, rfl, dk, hb5⟩
  refine ⟨_, rfl, ?_⟩
  replace lf := lf.step hb5
  replace gv := gv.step hb5
  refine Seq.val (Runs.assign rfl rfl) rfl rfl rfl ?_
  refine Seq.nil ?_
  refine Post.weak (F' := [(0, _), (1, _)]) ⟨rfl, rfl, trivial⟩ ?_
  refine Post.then_ ?_
  refine Cd.seq ?_
  refine Cd.region ?_
  refine Seq.val (Runs.move rfl rfl) rfl rfl rfl ?_
  refine Seq.call (Enters.func rfl rfl rfl (run_enter Tryz.func13 (by kernel_rfl) rfl)) rfl rfl rfl (open_any w.heap.size gd (Dk.new 1000) [119] _ gv hgw dk rfl right_w (byt_one (by omega)) hL0.own_nm) ?_
  clear dk
  rintro e w1 ⟨v1, v2, rfl, hO, dk, fw1⟩
  refine ⟨_, rfl, ?_⟩
  replace lf := lf.df fw1
  replace gv := gv.df fw1
  rw [hO0] at hO dk
  rw [hO0]
  rcases hO with ⟨h, -, -⟩ | ⟨-, g6, rfl, hg6, k6, own6⟩
  · exact absurd rfl h
  obtain ⟨A, c, rfl, -⟩ := own6.reads
  clear own6
  have e6 : w.heap.size ≤ g6 := Nat.le_trans hb5.size hg6
  replace k6 : Blk _ g6 80 (Wl.cs ⟨0, 0, 0, false⟩ gd [119]) := k6
  refine Seq.val (Runs.move rfl rfl) rfl rfl rfl ?_
  refine Seq.val (Runs.extract rfl rfl rfl) rfl rfl rfl ?_
  refine Seq.val (Runs.extract rfl rfl rfl) rfl rfl rfl ?_
  refine Seq.val (Runs.extract rfl rfl rfl) rfl rfl rfl ?_
  refine Seq.val (Runs.assign rfl rfl) rfl rfl rfl ?_
  refine Seq.val (Runs.assign rfl rfl) rfl rfl rfl ?_
  refine Seq.val (Runs.assign rfl rfl) rfl rfl rfl ?_
  refine Seq.nil ?_
  refine Post.weak (F' := [(0, _), (1, _), (2, _), (3, _), (4, _)]) ⟨rfl, rfl, rfl, rfl, rfl, trivial⟩ ?_
  refine Post.then_ ?_
  refine Cd.seq ?_
  refine Cd.seq ?_
  refine Cd.region ?_
  refine Seq.val (Runs.move rfl rfl) rfl rfl rfl ?_
  refine Seq.val (Runs.eqlP rfl rfl rfl Tryz.underlying26) rfl rfl rfl ?_
  refine Seq.val (Runs.move rfl rfl) rfl rfl rfl ?_
  refine Seq.valG (Runs.move rfl rfl) rfl rfl rfl rfl rfl ?_
  refine Seq.valG (Runs.eqlP rfl rfl rfl Tryz.underlying28) rfl rfl rfl rfl rfl ?_
  refine Seq.val (Runs.pickF rfl rfl rfl) rfl rfl rfl ?_
  refine Seq.val (Runs.move rfl rfl) rfl rfl rfl ?_
  refine Seq.valG (Runs.move rfl rfl) rfl rfl rfl rfl rfl ?_
  refine Seq.valG (Runs.neqI rfl rfl rfl) rfl rfl rfl rfl rfl ?_
  refine Seq.val (Runs.pickF rfl rfl rfl) rfl rfl rfl ?_
  refine Seq.val (Runs.move rfl rfl) rfl rfl rfl ?_
  refine Seq.valG (Runs.move rfl rfl) rfl rfl rfl rfl rfl ?_
  refine Seq.valG (Runs.len rfl rfl Tryz.underlying29) rfl rfl rfl rfl rfl ?_
  refine Seq.valG (Runs.neqI rfl rfl rfl) rfl rfl rfl rfl rfl ?_
  refine Seq.val (Runs.pickF rfl rfl rfl) rfl rfl rfl ?_
  refine Seq.val (Runs.move rfl rfl) rfl rfl rfl ?_
  refine Seq.valG (Runs.move rfl rfl) rfl rfl rfl rfl rfl ?_
  refine Seq.callG (Enters.func rfl rfl rfl (run_enter Tryz.func15 (by kernel_rfl) rfl)) rfl rfl rfl rfl rfl (append_w_any w.heap.size g6 gd (Dk.new 1000) [119] [97] ⟨0, 0, 0, false⟩ _ gv hgw e6 k6 dk (byt_one (by omega)) (by decide) (by decide) (by decide) (by decide) (byt_one (by omega)) (by decide)) ?_
  clear k6 dk
  rw [hA1]
  rintro e w7 ⟨rfl, k6, dk, f7⟩
  refine ⟨_, rfl, ?_⟩
  replace lf := lf.lf f7
  replace gv := gv.lf f7
  clear f7
  refine Seq.valG (Runs.neqI rfl rfl rfl) rfl rfl rfl rfl rfl ?_
  refine Seq.val (Runs.pickF rfl rfl rfl) rfl rfl rfl ?_
  refine Seq.val (Runs.move rfl rfl) rfl rfl rfl ?_
  refine Seq.valG (Runs.move rfl rfl) rfl rfl rfl rfl rfl ?_
  refine Seq.callG (Enters.func rfl rfl rfl (run_enter Tryz.func29 (by kernel_rfl) rfl)) rfl rfl rfl rfl rfl (rotate_any w.heap.size g6 gd D1 [119] ⟨0, 1, 13, false⟩ _ e6 lf.size k6 dk (by decide)) ?_
  clear k6 dk
  rintro e w8 ⟨rfl, k6, dk, f8⟩
  refine ⟨_, rfl, ?_⟩
  replace lf := lf.lf f8
  replace gv := gv.lf f8
  clear f8
  replace k6 : Blk _ g6 80 (Wl.cs ⟨1, 0, 0, false⟩ gd [119]) := k6
  refine Seq.valG (Runs.neqI rfl rfl rfl) rfl rfl rfl rfl rfl ?_
  refine Seq.val (Runs.pickF rfl rfl rfl) rfl rfl rfl ?_
  refine Seq.val (Runs.move rfl rfl) rfl rfl rfl ?_
  refine Seq.valG (Runs.move rfl rfl) rfl rfl rfl rfl rfl ?_
  refine Seq.callG (Enters.func rfl rfl rfl (run_enter Tryz.func15 (by kernel_rfl) rfl)) rfl rfl rfl rfl rfl (append_w_any w.heap.size g6 gd D1 [119] [98] ⟨1, 0, 0, false⟩ _ gv hgw e6 k6 dk (byt_one (by omega)) (by decide) (by decide) (by decide) (by decide) (byt_one (by omega)) (by decide)) ?_
  clear k6 dk
  rw [hA2]
  rintro e w9 ⟨rfl, k6, dk, f9⟩
  refine ⟨_, rfl, ?_⟩
  replace lf := lf.lf f9
  replace gv := gv.lf f9
  clear f9
  refine Seq.valG (Runs.neqI rfl rfl rfl) rfl rfl rfl rfl rfl ?_
  refine Seq.val (Runs.pickF rfl rfl rfl) rfl rfl rfl ?_
  refine Seq.nil ?_
  refine Post.weak (F' := [(0, _), (1, _), (2, _), (3, _), (4, _), (41, _)]) ⟨rfl, rfl, rfl, rfl, rfl, rfl, trivial⟩ ?_
  refine Post.then_ ?_
  refine Cd.condF rfl rfl ?_
  replace dk : DkAt w9 w.heap.size gd D2 := dk
  replace k6 : Blk w9 g6 80 (Wl.cs ⟨1, 1, 13, false⟩ gd [119]) := k6
  refine Cd.skip ?_
  refine Post.then_ ?_
  refine Cd.seq ?_
  refine Cd.region ?_
  refine Seq.val (Runs.move rfl rfl) rfl rfl rfl ?_
  refine Seq.call (Enters.func rfl rfl rfl (run_enter Tryz.func13 (by kernel_rfl) rfl)) rfl rfl rfl (open_any w.heap.size gd D2 [119] _ gv hgw dk hoff2 right_w (byt_one (by omega)) hown2) ?_
  clear dk
  rintro e w2 ⟨v1, v2, rfl, hO, dk, fw2⟩
  refine ⟨_, rfl, ?_⟩
  replace lf := lf.df fw2
  replace gv := gv.df fw2
  replace k6 := k6.df fw2
  rw [hO2] at hO dk
  rw [hO2]
  rcases hO with ⟨h, -, -⟩ | ⟨-, g16, rfl, -, -, own⟩
  · exact absurd rfl h
  obtain ⟨g3, cap, cur, rfl, -, k3, hcur⟩ := own.form (show 0 < 2 by decide)
  have hc0 : ∀ (j : Nat) (v : Value), (recV (0, [97]))[j]? = some v → cur[2 * 0 + j]? = some v := fun j v hj => hcur _ _ (by have := recsV_at (l := [(0, [97]), (1, [98])]) (i := 0) rfl j v hj; simpa using this)
  have hc1 : ∀ (j : Nat) (v : Value), (recV (1, [98]))[j]? = some v → cur[2 * 1 + j]? = some v := fun j v hj => hcur _ _ (by have := recsV_at (l := [(0, [97]), (1, [98])]) (i := 1) rfl j v hj; simpa using this)
  have heq0 := run_eql_rec (0, [97]) (0, [97])
  have heq1 := run_eql_rec (1, [98]) (1, [98])
  rw [same_rec (byt_one (by omega)) (byt_one (by omega)), decide_eq_true rfl] at heq0 heq1
  refine Seq.val (Runs.move rfl rfl) rfl rfl rfl ?_
  refine Seq.val (Runs.extract rfl rfl rfl) rfl rfl rfl ?_
  refine Seq.val (Runs.extract rfl rfl rfl) rfl rfl rfl ?_
  refine Seq.val (Runs.extract rfl rfl rfl) rfl rfl rfl ?_
  refine Seq.val (Runs.assign rfl rfl) rfl rfl rfl ?_
  refine Seq.val (Runs.assign rfl rfl) rfl rfl rfl ?_
  refine Seq.nil ?_
  refine Post.weak (F' := [(0, _), (1, _), (2, _), (3, _), (4, _), (41, _)]) ⟨rfl, rfl, rfl, rfl, rfl, rfl, trivial⟩ ?_
  refine Post.then_ ?_
  refine Cd.seq ?_
  refine Cd.region ?_
  refine Seq.val (Runs.move rfl rfl) rfl rfl rfl ?_
  refine Seq.val (Runs.eqlI rfl rfl rfl) rfl rfl rfl ?_
  refine Seq.val (Runs.move rfl rfl) rfl rfl rfl ?_
  refine Seq.valG (Runs.move rfl rfl) rfl rfl rfl rfl rfl ?_
  refine Seq.valG (Runs.len rfl rfl Tryz.underlying29) rfl rfl rfl rfl rfl ?_
  refine Seq.valG (Runs.eqlI rfl rfl rfl) rfl rfl rfl rfl rfl ?_
  refine Seq.val (Runs.pickT rfl rfl rfl) rfl rfl rfl ?_
  refine Seq.val (Runs.move rfl rfl) rfl rfl rfl ?_
  refine Seq.valG (Runs.move rfl rfl) rfl rfl rfl rfl rfl ?_
  refine Seq.valG (Runs.indexBN rfl rfl rfl Tryz.underlying29 (s := 2) (by kernel_rfl) (j := 0) rfl (show 0 < 2 by decide)) rfl rfl rfl rfl rfl ?_
  refine Seq.valG (Runs.loadP rfl rfl Tryz.underlying36 rfl k3 (m := 2) (ps := recV (0, [97])) (by kernel_rfl) rfl hc0) rfl rfl rfl rfl rfl ?_
  refine Seq.valG (Runs.build rfl rfl (run_build_rec1 [97] _)) rfl rfl rfl rfl rfl ?_
  refine Seq.valG (Runs.bin rfl rfl rfl (guard_rec _ _ _ _ _ _) (heq0 _)) rfl rfl rfl rfl rfl ?_
  refine Seq.val (Runs.pickT rfl rfl rfl) rfl rfl rfl ?_
  refine Seq.val (Runs.move rfl rfl) rfl rfl rfl ?_
  refine Seq.valG (Runs.move rfl rfl) rfl rfl rfl rfl rfl ?_
  refine Seq.valG (Runs.indexBN rfl rfl rfl Tryz.underlying29 (s := 2) (by kernel_rfl) (j := 1) rfl (show 1 < 2 by decide)) rfl rfl rfl rfl rfl ?_
  refine Seq.valG (Runs.loadP rfl rfl Tryz.underlying36 rfl k3 (m := 2) (ps := recV (1, [98])) (by kernel_rfl) rfl hc1) rfl rfl rfl rfl rfl ?_
  refine Seq.valG (Runs.build rfl rfl (run_build_rec 1 [98] _)) rfl rfl rfl rfl rfl ?_
  refine Seq.valG (Runs.bin rfl rfl rfl (guard_rec _ _ _ _ _ _) (heq1 _)) rfl rfl rfl rfl rfl ?_
  refine Seq.val (Runs.pickT rfl rfl rfl) rfl rfl rfl ?_
  refine Seq.val (Runs.assign rfl rfl) rfl rfl rfl ?_
  refine Seq.nil ?_
  refine Post.weak (F' := [(0, _), (1, _), (2, _), (3, _), (4, _), (41, _)]) ⟨rfl, rfl, rfl, rfl, rfl, rfl, trivial⟩ ?_
  refine Post.then_ ?_
  refine Cd.ret ?_
  refine Post.end1 rfl rfl (.inl rfl) ?_
  exact ⟨rfl, lf.to (Nat.le_refl _)⟩
end Go.Proofs.YtnlepoplncjliaaGreatDoor

namespace Go.Proofs.YtnlepoplncjliaaGreatDoor
open Go.RowKit

theorem wipe_get (D : Dk) (x y : List Nat) : (D.wipe x).get y = if y = x then none else D.get y := by
  unfold Dk.get Dk.wipe
  show ((D.files.filter fun p => decide (p.1 ≠ x)).find? (fun p => decide (p.1 = y))).map (fun (p : List Nat × Fil) => p.2) = _
  rw [List.find?_filter]
  by_cases e : y = x
  · rw [if_pos e]
    have : D.files.find? (fun a => decide (decide (a.1 ≠ x) = true ∧ decide (a.1 = y) = true)) = none := by
      rw [List.find?_eq_none]
      intro p _
      simp
      intro h1 h2
      exact h1 (h2.trans e)
    rw [this]
    rfl
  · rw [if_neg e]
    congr 2
    funext p
    by_cases h : p.1 = y
    · simp [h, e]
    · simp [h]
theorem del_calm {D : Dk} {x : List Nat} (hc : D.calm) (hn : (D.files.map (·.1)).Nodup) (hx : nameOk x = true) :
    D.dropE x = 0 ∧ (D.delete x).calm ∧ ((D.delete x).files.map (·.1)).Nodup ∧ (D.delete x).room = D.room ∧ (D.delete x).used ≤ D.used ∧ (D.delete x).files.length ≤ D.files.length ∧ ∀ y, (D.delete x).get y = if y = x then none else D.get y := by
  have hE := thereE_calm hc (ns := [x]) (by simpa using hx) x
  have ht := tick_calm hc
  unfold Dk.dropE Dk.delete
  by_cases h : (D.get x).isSome = true
  · rw [if_pos h] at hE
    rw [hE, if_neg (by decide), if_pos rfl, ht]
    have hu := wipe_used (nm := x) hn
    exact ⟨rfl, ⟨hc.off, hc.armed⟩, hn.sublist (List.Sublist.map _ List.filter_sublist), rfl, by omega, List.length_filter_le _ _, wipe_get D x⟩
  · rw [if_neg h] at hE
    rw [hE, if_pos rfl, if_neg (by decide), ht]
    refine ⟨rfl, hc, hn, rfl, Int.le_refl _, Nat.le_refl _, fun y => ?_⟩
    by_cases e : y = x
    · subst e
      rw [if_pos rfl]
      simpa using h
    · rw [if_neg e]
theorem name_ok {nm k : List Nat} {n : Nat} (hnl : nm.length ≤ 8) (hn : n ≤ 999999) (hk : k.length = 4) : nameOk (fileN nm n k) = true := by
  have hl := fileN_len (nm := nm) (k := k) hn
  unfold nameOk
  rw [Bool.and_eq_true, decide_eq_true_eq, decide_eq_true_eq]
  refine ⟨fun e => ?_, by omega⟩
  rw [e] at hl
  simp at hl
  omega
theorem LogIs.behead {D : Dk} {nm : List Nat} {s : Nat × List (List Nat)} {r : List (Nat × List (List Nat))} (h : LogIs D nm (s :: r)) (hnl : nm.length ≤ 8) :
    D.dropE (fileN nm s.1 ackK) = 0 ∧ (D.delete (fileN nm s.1 ackK)).dropE (fileN nm s.1 logK) = 0 ∧ LogIs ((D.delete (fileN nm s.1 ackK)).delete (fileN nm s.1 logK)) nm r ∧ ((D.delete (fileN nm s.1 ackK)).delete (fileN nm s.1 logK)).room = D.room ∧ ((D.delete (fileN nm s.1 ackK)).delete (fileN nm s.1 logK)).used ≤ D.used ∧ ((D.delete (fileN nm s.1 ackK)).delete (fileN nm s.1 logK)).files.length ≤ D.files.length := by
  have hs6 := h.le s List.mem_cons_self
  obtain ⟨a1, a2, a3, a4, a5, a6, a7⟩ := del_calm h.calm h.nd (name_ok (k := ackK) hnl hs6 rfl)
  obtain ⟨b1, b2, b3, b4, b5, b6, b7⟩ := del_calm a2 a3 (name_ok (k := logK) hnl hs6 rfl)
  have hinc := h.inc
  rw [List.map_cons, List.pairwise_cons] at hinc
  have hlt : ∀ t ∈ r, s.1 < t.1 := fun t ht => hinc.1 t.1 (List.mem_map.2 ⟨t, ht, rfl⟩)
  have hne : ∀ t ∈ r, ∀ k k' : List Nat, fileN nm t.1 k ≠ fileN nm s.1 k' := fun t ht k k' e => by
    have h1 := (fileN_inj (h.le t (List.mem_cons_of_mem _ ht)) hs6 e).1
    have h2 := hlt t ht
    omega
  refine ⟨a1, b1, ⟨b2, b3, hinc.2, fun t ht => h.le t (List.mem_cons_of_mem _ ht), fun t ht => h.recs t (List.mem_cons_of_mem _ ht), fun t ht => ?_, fun t ht => ?_, fun x hx => ?_⟩, by rw [b4, a4], by omega, by omega⟩
  · rw [b7, a7, if_neg (hne t ht _ _), if_neg (hne t ht _ _)]
    exact h.log t (List.mem_cons_of_mem _ ht)
  · rw [b7, a7, if_neg (hne t ht _ _), if_neg (hne t ht _ _)]
    exact h.ack t (List.mem_cons_of_mem _ ht)
  · rw [b7, a7] at hx
    by_cases e1 : x = fileN nm s.1 logK
    · rw [if_pos e1] at hx; cases hx
    · rw [if_neg e1] at hx
      by_cases e2 : x = fileN nm s.1 ackK
      · rw [if_pos e2] at hx; cases hx
      · rw [if_neg e2] at hx
        obtain ⟨t, ht, e⟩ := h.own x hx
        rcases List.mem_cons.1 ht with rfl | ht
        · rcases e with e | e
          · exact absurd e e1
          · exact absurd e e2
        · exact ⟨t, ht, e⟩
theorem retGo_log {nm : List Nat} {lim : Int} (hnl : nm.length ≤ 8) : ∀ (segs : List (Nat × List (List Nat))) (D : Dk), LogIs D nm segs → ∃ D', retGo nm lim (segs.map (·.1)) D = (D', 0) ∧ LogIs D' nm (segs.filter fun s => decide (lim ≤ (s.1 : Int))) ∧ D'.room = D.room ∧ D'.used ≤ D.used ∧ D'.files.length ≤ D.files.length
  | [], D, h => ⟨D, rfl, h, rfl, Int.le_refl _, Nat.le_refl _⟩
  | s :: r, D, h => by
    rw [List.map_cons, retGo]
    by_cases hl : lim ≤ (s.1 : Int)
    · rw [if_pos hl]
      have hall : (s :: r).filter (fun s => decide (lim ≤ (s.1 : Int))) = s :: r := by
        rw [List.filter_eq_self]
        intro t ht
        rw [decide_eq_true_eq]
        rcases List.mem_cons.1 ht with rfl | ht
        · exact hl
        · have hinc := h.inc
          rw [List.map_cons, List.pairwise_cons] at hinc
          have := hinc.1 t.1 (List.mem_map.2 ⟨t, ht, rfl⟩)
          omega
      rw [hall]
      exact ⟨D, rfl, h, rfl, Int.le_refl _, Nat.le_refl _⟩
    · obtain ⟨a1, a2, a3, a4, a5, a6⟩ := h.behead hnl
      rw [if_neg hl, a1, if_neg (by simp), a2, if_neg (by simp), List.filter_cons_of_neg (by simpa using hl)]
      obtain ⟨D', b1, b2, b3, b4, b5⟩ := retGo_log hnl r _ a3
      exact ⟨D', b1, b2, by rw [b3, a4], by omega, by omega⟩
/-- A log within bounds, some acts behind its beginning. -/
structure PlIs (D : Dk) (W : Wl) (segs : List (Nat × List (List Nat))) (k : Nat) : Prop where
  wl : WlIs D [119] W segs
  room : D.room = 1048576
  files : D.files.length ≤ 2 * k
  used : D.used ≤ 336 * (k : Int)
  num : W.num ≤ 900 + k
  cnt : W.count ≤ k
  size : W.size ≤ 312 * k
  recs : (recsOf segs).length ≤ k
section
variable {D : Dk} {W : Wl} {segs : List (Nat × List (List Nat))} {k : Nat}
theorem PlIs.le_num (h : PlIs D W segs k) : ∀ s ∈ segs, s.1 ≤ W.num := by
  obtain ⟨ini, l, h1, h2, -, -⟩ := h.wl.last
  intro s hs
  split at h1
  · rw [h1.1] at hs
    exact Nat.le_of_lt (h2 s hs)
  · rw [h1] at hs
    rcases List.mem_append.1 hs with hs | hs
    · exact Nat.le_of_lt (h2 s hs)
    · simp at hs; subst hs; exact Nat.le_refl _
theorem PlIs.begin_ : PlIs (Dk.new 1048576) ⟨0, 0, 0, false⟩ [] 0 := ⟨WlIs.opened LogIs.nil, rfl, Nat.le_refl _, Int.le_refl _, by simp, Nat.le_refl _, Nat.le_refl _, Nat.le_refl _⟩
theorem PlIs.append (h : PlIs D W segs k) (hk : k ≤ 30) {data : List Nat} (hd : Byt data) (hdl : data.length ≤ 300) :
    ∃ D' segs', appW W D [119] data = (⟨W.num, W.count + 1, W.size + (data.length + 12), false⟩, D', 0) ∧ PlIs D' ⟨W.num, W.count + 1, W.size + (data.length + 12), false⟩ segs' (k + 1) ∧ recsOf segs' = recsOf segs ++ [(W.num, data)] := by
  have h1 := h.room
  have h2 := h.files
  have h3 := h.used
  have h4 := h.num
  have h5 := h.cnt
  have h6 := h.size
  have h7 := h.recs
  obtain ⟨D', segs', a1, a2, a3, a4, a5, a6⟩ := h.wl.append (by decide) hd (by omega) (by omega) (by omega) (by omega) (by omega) (by omega)
  refine ⟨D', segs', a1, ⟨a2, by rw [a4, h1], by omega, by rw [a5]; omega, by show W.num ≤ _; omega, by show W.count + 1 ≤ _; omega, by show W.size + (data.length + 12) ≤ _; omega, ?_⟩, a3⟩
  rw [a3, List.length_append, List.length_singleton]
  omega
theorem PlIs.rotate (h : PlIs D W segs k) : PlIs D W.rotate segs (k + 1) := by
  have h2 := h.files
  have h3 := h.used
  have h4 := h.num
  have h5 := h.cnt
  have h6 := h.size
  have h7 := h.recs
  refine ⟨h.wl.rotated, h.room, by omega, by omega, ?_, ?_, ?_, by omega⟩
  all_goals
    unfold Wl.rotate
    split
    · simp only; omega
    · omega
theorem PlIs.least (h : PlIs D W segs k) {n : Int} (hn : n < 900) : PlIs D (W.least n) segs (k + 1) := by
  have h2 := h.files
  have h3 := h.used
  have h4 := h.num
  have h5 := h.cnt
  have h6 := h.size
  have h7 := h.recs
  have h8 := h.le_num
  refine ⟨?_, h.room, by omega, by omega, ?_, ?_, ?_, by omega⟩
  · unfold Wl.least
    split
    · refine ⟨h.wl.log, h.wl.broken, .inl ⟨rfl, rfl, fun s hs => ?_⟩⟩
      have := h8 s hs
      show s.1 < n.toNat
      omega
    · exact h.wl
  all_goals
    unfold Wl.least
    split
    · simp only; omega
    · omega
theorem PlIs.open_ (h : PlIs D W segs k) : openW D [119] = (D, 0, recsOf segs, nextN 0 segs) ∧ PlIs D ⟨nextN 0 segs, 0, 0, false⟩ segs (k + 1) := by
  have h2 := h.files
  have h3 := h.used
  have h4 := h.num
  have h7 := h.recs
  refine ⟨h.wl.log.opens, ⟨WlIs.opened h.wl.log, h.room, by omega, by omega, ?_, Nat.zero_le _, Nat.zero_le _, by omega⟩⟩
  show nextN 0 segs ≤ _
  rcases List.eq_nil_or_concat segs with e | ⟨ini, t, e⟩
  · rw [e]; exact Nat.zero_le _
  · rw [List.concat_eq_append] at e
    have := h.le_num t (by rw [e]; simp)
    rw [e, nextN_app]
    omega
theorem recsOf_filter (segs : List (Nat × List (List Nat))) (p : Nat → Bool) : recsOf (segs.filter fun s => p s.1) = (recsOf segs).filter fun r => p r.1 := by
  induction segs with
  | nil => rfl
  | cons s r ih =>
    have e : recsOf (s :: r) = (s.2.map fun x => (s.1, x)) ++ recsOf r := by simp [recsOf]
    rw [e, List.filter_append, ← ih]
    cases hp : p s.1 with
    | true =>
      rw [List.filter_cons_of_pos (by simpa using hp)]
      have e2 : (s.2.map fun x => (s.1, x)).filter (fun r => p r.1) = s.2.map fun x => (s.1, x) := by
        rw [List.filter_eq_self]
        intro q hq
        obtain ⟨x, -, rfl⟩ := List.mem_map.1 hq
        exact hp
      rw [e2]
      simp [recsOf]
    | false =>
      rw [List.filter_cons_of_neg (by simp [hp])]
      have e2 : (s.2.map fun x => (s.1, x)).filter (fun r => p r.1) = [] := by
        rw [List.filter_eq_nil_iff]
        intro q hq
        obtain ⟨x, -, rfl⟩ := List.mem_map.1 hq
        simp [hp]
      rw [e2, List.nil_append]
theorem PlIs.retire (h : PlIs D W segs k) (N : Int) : ∃ D' segs', retW W D [119] N = (W, D', 0) ∧ PlIs D' W segs' (k + 1) ∧ recsOf segs' = (recsOf segs).filter fun r => decide (min N (W.num : Int) ≤ (r.1 : Int)) := by
  have h2 := h.files
  have h3 := h.used
  have h4 := h.num
  have h5 := h.cnt
  have h6 := h.size
  have h7 := h.recs
  obtain ⟨D', a1, a2, a3, a4, a5⟩ := retGo_log (nm := [119]) (lim := min N (W.num : Int)) (by decide) segs D h.wl.log
  have hf := recsOf_filter segs (fun n => decide (min N (W.num : Int) ≤ (n : Int)))
  refine ⟨D', segs.filter fun s => decide (min N (W.num : Int) ≤ (s.1 : Int)), ?_, ⟨⟨a2, h.wl.broken, ?_⟩, by rw [a3, h.room], by omega, by omega, by omega, by omega, by omega, ?_⟩, hf⟩
  · unfold retW
    rw [if_neg (by simp [h.wl.broken]), h.wl.log.nums, a1]
    simp
  · rcases h.wl.at_ with ⟨b1, b2, b3⟩ | ⟨ini, l, b1, b2, b3⟩
    · exact .inl ⟨b1, b2, fun s hs => b3 s ((List.mem_filter.1 hs).1)⟩
    · refine .inr ⟨ini.filter fun s => decide (min N (W.num : Int) ≤ (s.1 : Int)), l, ?_, b2, b3⟩
      rw [b1, List.filter_append]
      congr 1
      rw [List.filter_cons_of_pos (by simp; omega)]
      rfl
  · rw [hf]
    have := List.length_filter_le (fun r : Nat × List Nat => decide (min N (W.num : Int) ≤ (r.1 : Int))) (recsOf segs)
    omega
end
end Go.Proofs.YtnlepoplncjliaaGreatDoor

namespace Go.Proofs.YtnlepoplncjliaaGreatDoor
open Go.RowKit

/-- What lies below a bound stays. -/
structure Bf (B : Nat) (w w' : World) : Prop where
  below : Below (min B w.heap.size) w w'
section
variable {B : Nat} {w w' w'' : World}
theorem Bf.refl (B : Nat) (w : World) : Bf B w w := ⟨Below.refl _ _⟩
theorem Bf.size (h : Bf B w w') : w.heap.size ≤ w'.heap.size := h.below.size
theorem Bf.trans (h : Bf B w w') (k : Bf B w' w'') : Bf B w w'' := ⟨h.below.trans (k.below.mono (by have := h.size; omega))⟩
theorem Bf.bf (h : Bf B w w') (k : Bf B w' w'') : Bf B w w'' := h.trans k
theorem Bf.lf (h : Bf B w w') (k : Lf B w' w'') : Bf B w w'' := h.trans ⟨k.below⟩
theorem Bf.df (h : Bf B w w') (k : Df B w' w'') : Bf B w w'' := h.trans ⟨k.below⟩
theorem Bf.step (h : Bf B w w') (k : Below w'.heap.size w' w'') : Bf B w w'' := h.trans ⟨k.mono (Nat.min_le_right _ _)⟩
theorem Bf.put {B' g : Nat} {T : TypeId} {cur cs : Array Value} (h : Bf B w w') (k : Blk w' g T cur) (p : Put w' w'' g T cs) (e : B' ≤ g) (ht : B ≤ B' ∨ w.heap.size ≤ B' := by omega) : Bf B w w'' := ⟨h.below.trans (p.below (by omega) k.lt)⟩
theorem Bf.app {B2 B3 n size : Nat} {e : TypeId} {v : Value} {xs : List Value} (h : Bf B w w') (_o : Own w' B2 e size v n xs) (ha : App w' w'' B3 v) (ht : B ≤ B3 ∨ w.heap.size ≤ B3 := by omega) : Bf B w w'' := ⟨h.below.trans (ha.below.mono (by omega))⟩
theorem Bf.to (h : Bf B w w') (hB : B ≤ w.heap.size) : Below B w w' := by have := h.below; rwa [Nat.min_eq_left hB] at this
theorem Gv.bf (h : Gv w) (f : Bf B w w') (hB : 4 < B := by omega) : Gv w' := h.below f.below (by have := tab_lt h.pow; omega)
theorem Gv.app {B2 B3 n size : Nat} {e : TypeId} {v : Value} {xs : List Value} (h : Gv w) (_o : Own w B2 e size v n xs) (ha : App w w' B3 v) (hB : 4 < B3 := by omega) : Gv w' := h.below ha.below hB
end
/-- A log under way, and what must be there. -/
def runCs (gd g6 : Nat) (v : Value) (num : Int) (has : Bool) : Array Value := #[.pointer (some ⟨gd, 0, none⟩), .pointer (some ⟨g6, 0, none⟩), v, .int .i64 num, .bool has]
theorem run_build_run (gd g6 : Nat) (w : World) : (Instr.build 59 #[(0, .pointer (some ⟨gd, 0, none⟩)), (1, .pointer (some ⟨g6, 0, none⟩))]).run Tryz.prog w = .ok (.agg (runCs gd g6 (.slice none 0 0) 0 false)) w := by
  have hu := Tryz.underlying59
  unfold runCs
  go_simp
/-- A log under way, in its blocks. -/
structure RunAt (w : World) (B gr : Nat) (D : Dk) (W : Wl) (segs : List (Nat × List (List Nat))) : Prop where
  ex : ∃ gd g6 v, Blk w gr 59 (runCs gd g6 v (W.num : Int) (decide (0 < W.count))) ∧ DkAt w B gd D ∧ Blk w g6 80 (W.cs gd [119]) ∧ Own w B 36 2 v (recsOf segs).length (recsV (recsOf segs)) ∧ B ≤ g6
  hr : B ≤ gr
theorem RunAt.step {w w' : World} {B gr : Nat} {D : Dk} {W : Wl} {segs : List (Nat × List (List Nat))} (h : RunAt w B gr D W segs) (hb : Below w.heap.size w w') : RunAt w' B gr D W segs := by
  obtain ⟨⟨gd, g6, v, h1, h2, h3, h4, h5⟩, h6⟩ := h
  exact ⟨⟨gd, g6, v, h1.step hb, h2.step hb, h3.step hb, h4.step hb, h5⟩, h6⟩
set_option maxHeartbeats 2000000 in
theorem begin_r_any (w : World) (gv : Gv w) : Calls Tryz.prog 24 #[] w fun e w' => ∃ gr, e = .returned (.pointer (some ⟨gr, 0, none⟩)) ∧ RunAt w' w.heap.size gr (Dk.new 1048576) ⟨0, 0, 0, false⟩ [] ∧ Grow w w' := by
  have lf := Lf.refl w.heap.size w
  have hgw := tab_lt gv.pow
  have hL0 : LogIs (Dk.new 1048576) [119] [] := LogIs.nil
  have hO0 := hL0.opens
  have hnext : nextN 0 [] = 0 := rfl
  have hrec0 : recsOf [] = [] := rfl
  rw [hnext, hrec0] at hO0
  refine Calls.start 31 Tryz.func24 rfl rfl rfl ?_
  refine Cd.seq ?_
  refine Cd.region ?_
  refine Seq.val (Runs.assign rfl rfl) rfl rfl rfl ?_
  refine Seq.nil ?_
  refine Post.weak (F' := [(0, _)]) ⟨rfl, trivial⟩ ?_
  refine Post.then_ ?_
  refine Cd.seq ?_
  refine Cd.region ?_
  refine Seq.call (Enters.func rfl rfl rfl (run_enter Tryz.func12 (by kernel_rfl) rfl)) rfl rfl rfl (new_any 1048576 _ (by omega) (by omega)) ?_
  rintro e w5 ⟨gd, rfl, dk, hb5⟩
  refine ⟨_, rfl, ?_⟩
  replace lf := lf.step hb5
  replace gv := gv.step hb5
  refine Seq.val (Runs.assign rfl rfl) rfl rfl rfl ?_
  refine Seq.nil ?_
  refine Post.weak (F' := [(0, _), (1, _)]) ⟨rfl, rfl, trivial⟩ ?_
  refine Post.then_ ?_
  refine Cd.seq ?_
  refine Cd.region ?_
  refine Seq.val (Runs.move rfl rfl) rfl rfl rfl ?_
  refine Seq.call (Enters.func rfl rfl rfl (run_enter Tryz.func13 (by kernel_rfl) rfl)) rfl rfl rfl (open_any w.heap.size gd (Dk.new 1048576) [119] _ gv hgw dk rfl right_w (byt_one (by omega)) hL0.own_nm) ?_
  clear dk
  rintro e w1 ⟨v1, v2, rfl, hO, dk, fw1⟩
  refine ⟨_, rfl, ?_⟩
  replace lf := lf.df fw1
  replace gv := gv.df fw1
  rw [hO0] at hO dk
  rw [hO0]
  rcases hO with ⟨h, -, -⟩ | ⟨-, g6, rfl, hg6, k6, own6⟩
  · exact absurd rfl h
  obtain ⟨A, c, rfl, -⟩ := own6.reads
  clear own6
  have e6 : w.heap.size ≤ g6 := Nat.le_trans hb5.size hg6
  replace k6 : Blk _ g6 80 (Wl.cs ⟨0, 0, 0, false⟩ gd [119]) := k6
  replace dk : DkAt _ w.heap.size gd (Dk.new 1048576) := dk
  have hsz1 := lf.size
  refine Seq.val (Runs.move rfl rfl) rfl rfl rfl ?_
  refine Seq.val (Runs.extract rfl rfl rfl) rfl rfl rfl ?_
  refine Seq.val (Runs.extract rfl rfl rfl) rfl rfl rfl ?_
  refine Seq.val (Runs.extract rfl rfl rfl) rfl rfl rfl ?_
  refine Seq.val (Runs.assign rfl rfl) rfl rfl rfl ?_
  refine Seq.val (Runs.assign rfl rfl) rfl rfl rfl ?_
  refine Seq.val (Runs.assign rfl rfl) rfl rfl rfl ?_
  refine Seq.nil ?_
  refine Post.weak (F' := [(0, _), (1, _), (2, _), (3, _), (4, _)]) ⟨rfl, rfl, rfl, rfl, rfl, trivial⟩ ?_
  refine Post.then_ ?_
  refine Cd.seq ?_
  refine Cd.seq ?_
  refine Cd.region ?_
  refine Seq.val (Runs.move rfl rfl) rfl rfl rfl ?_
  refine Seq.val (Runs.eqlP rfl rfl rfl Tryz.underlying26) rfl rfl rfl ?_
  refine Seq.val (Runs.move rfl rfl) rfl rfl rfl ?_
  refine SeqC.start ?_
  refine SeqC.open rfl rfl rfl rfl rfl rfl rfl (fun hcx => Runs.move rfl rfl) ?_
  refine SeqC.next rfl rfl rfl rfl rfl rfl rfl (fun hcx => Runs.eqlP rfl rfl rfl Tryz.underlying28) ?_
  refine SeqC.or rfl rfl rfl rfl rfl rfl rfl ?_
  refine Seq.val (Runs.move rfl rfl) rfl rfl rfl ?_
  refine SeqC.start ?_
  refine SeqC.open rfl rfl rfl rfl rfl rfl rfl (fun hcx => Runs.move rfl rfl) ?_
  refine SeqC.next rfl rfl rfl rfl rfl rfl rfl (fun hcx => Runs.neqI rfl rfl rfl) ?_
  refine SeqC.or rfl rfl rfl rfl rfl rfl rfl ?_
  refine Seq.val (Runs.move rfl rfl) rfl rfl rfl ?_
  refine SeqC.start ?_
  refine SeqC.open rfl rfl rfl rfl rfl rfl rfl (fun hcx => Runs.move rfl rfl) ?_
  refine SeqC.next rfl rfl rfl rfl rfl rfl rfl (fun hcx => Runs.len rfl rfl Tryz.underlying29) ?_
  refine SeqC.next rfl rfl rfl rfl rfl rfl rfl (fun hcx => Runs.neqI rfl rfl rfl) ?_
  refine SeqC.or rfl rfl rfl rfl rfl rfl rfl ?_
  refine Seq.nil ?_
  refine Post.weak (F' := [(0, _), (1, _), (2, _), (3, _), (4, _), (26, _)]) ⟨rfl, rfl, rfl, rfl, rfl, rfl, trivial⟩ ?_
  refine Post.then_ ?_
  refine Cd.condF rfl rfl ?_
  refine Cd.skip ?_
  refine Post.then_ ?_
  refine Cd.seq ?_
  refine Cd.region ?_
  refine Seq.val (Runs.move rfl rfl) rfl rfl rfl ?_
  refine Seq.val (Runs.move rfl rfl) rfl rfl rfl ?_
  refine Seq.val (Runs.build rfl rfl (run_build_run gd g6 _)) rfl rfl rfl ?_
  refine Seq.box rfl rfl rfl rfl rfl ?_
  intro g30 w2 n30
  have l30 := Nat.lt_of_lt_of_le k6.lt n30.ge
  replace lf := lf.step n30.below
  replace gv := gv.step n30.below
  replace dk := dk.step n30.below
  replace k6 := k6.step n30.below
  have k30 := n30.blk
  refine Seq.val (Runs.assign rfl rfl) rfl rfl rfl ?_
  refine Seq.nil ?_
  refine Post.weak (F' := [(0, _), (1, _), (2, _), (3, _), (4, _), (26, _)]) ⟨rfl, rfl, rfl, rfl, rfl, rfl, trivial⟩ ?_
  refine Post.then_ ?_
  refine Cd.ret ?_
  refine Post.end1 rfl rfl (.inl rfl) ?_
  exact ⟨g30, rfl, ⟨⟨gd, g6, .slice none 0 0, k30, dk, k6, Own.nil _ _ _ _, e6⟩, Nat.le_trans hsz1 n30.ge⟩, lf.to (Nat.le_refl _)⟩
theorem recsOf_last {segs : List (Nat × List (List Nat))} (hne : ∀ s ∈ segs, s.2 ≠ []) : (recsOf segs = [] ∧ nextN 0 segs = 0) ∨ ∃ r, (recsOf segs)[(recsOf segs).length - 1]? = some r ∧ 0 < (recsOf segs).length ∧ nextN 0 segs = r.1 + 1 := by
  rcases List.eq_nil_or_concat segs with e | ⟨ini, t, e⟩
  · left
    rw [e]
    exact ⟨rfl, rfl⟩
  · right
    rw [List.concat_eq_append] at e
    have ht := hne t (by rw [e]; simp)
    rcases List.eq_nil_or_concat t.2 with e2 | ⟨l, x, e2⟩
    · exact absurd e2 ht
    · rw [List.concat_eq_append] at e2
      have e3 : recsOf segs = (recsOf ini ++ l.map fun y => (t.1, y)) ++ [(t.1, x)] := by
        rw [e, recsOf_app]
        simp [recsOf, e2]
      refine ⟨(t.1, x), ?_, ?_, by rw [e, nextN_app]⟩
      · rw [e3, List.length_append, List.length_singleton, Nat.add_sub_cancel, List.getElem?_append_right (Nat.le_refl _), Nat.sub_self]
        rfl
      · rw [e3, List.length_append, List.length_singleton]
        omega
theorem same_self (A A' : Option Addr) (n c n' c' B : Nat) (l : List (Nat × List Nat)) (w : World) (hr : Reads w B 2 A n (recsV l)) (hr' : Reads w B 2 A' n' (recsV l)) (hB : B ≤ w.heap.size) (hb : ∀ r ∈ l, Byt r.2) (hn : n ≤ 1000000000) (hn' : n' ≤ 1000000000) :
    Calls Tryz.prog 16 #[.slice A n c, .slice A' n' c'] w fun e w' => e = .returned (.bool true) ∧ Grow w w' := by
  have h := same_any A A' n c n' c' B l l w hr hr' hB hb hb hn hn'
  rw [decide_eq_true rfl] at h
  exact h
set_option maxHeartbeats 4000000 in
theorem opened_any (B gr : Nat) (D : Dk) (W : Wl) (segs : List (Nat × List (List Nat))) (k : Nat) (w : World) (gv : Gv w) (hgB : 4 < B) (hP : PlIs D W segs k) (hk : k ≤ 1000) (h : RunAt w B gr D W segs) :
    Calls Tryz.prog 47 #[.pointer (some ⟨gr, 0, none⟩)] w fun e w' => e = .returned (.bool true) ∧ RunAt w' B gr D ⟨nextN 0 segs, 0, 0, false⟩ segs ∧ Bf B w w' := by
  obtain ⟨⟨gd, g6, v, k90, dk, -, own, -⟩, e90⟩ := h
  have bf := Bf.refl B w
  have hO0 := hP.wl.log.opens
  have hbyt := recsOf_byt hP.wl.log
  have hlast := recsOf_last (fun s hs => (hP.wl.log.recs s hs).1)
  have hrl := hP.recs
  have hown := hP.wl.log.own_nm
  have hoff := hP.wl.log.calm.off
  obtain ⟨L, hL⟩ : ∃ L, L = recsOf segs := ⟨_, rfl⟩
  obtain ⟨nx, hnx⟩ : ∃ x, x = nextN 0 segs := ⟨_, rfl⟩
  have hnxb := hP.open_.2.num
  replace hnxb : nextN 0 segs ≤ 900 + (k + 1) := hnxb
  rw [← hnx] at hnxb
  rw [← hL, ← hnx] at hO0 hlast
  rw [← hL] at hbyt hrl own
  rw [← hnx]
  obtain ⟨A0, c0, rfl, -⟩ := own.reads
  refine Calls.start 62 Tryz.func47 rfl rfl rfl ?_
  refine Cd.seq ?_
  refine Cd.region ?_
  refine Seq.val (Runs.assign rfl rfl) rfl rfl rfl ?_
  refine Seq.nil ?_
  refine Post.weak (F' := [(0, _), (2, _)]) ⟨rfl, rfl, trivial⟩ ?_
  refine Post.then_ ?_
  refine Cd.seq ?_
  refine Cd.region ?_
  refine Seq.val (Runs.move rfl rfl) rfl rfl rfl ?_
  refine Seq.val (Runs.nilCheck rfl rfl) rfl rfl rfl ?_
  refine Seq.val (Runs.fieldB 0 rfl rfl Tryz.underlying59 rfl (by kernel_rfl)) rfl rfl rfl ?_
  refine Seq.val (Runs.loadB rfl rfl Tryz.underlying26 rfl k90 rfl) rfl rfl rfl ?_
  have hBw := dk.size
  refine Seq.call (Enters.func rfl rfl rfl (run_enter Tryz.func13 (by kernel_rfl) rfl)) rfl rfl rfl (open_any B gd D [119] _ gv hgB dk hoff right_w (byt_one (by omega)) hown) ?_
  clear dk
  rintro e w1 ⟨v1, v2, rfl, hO, dk, fw1⟩
  refine ⟨_, rfl, ?_⟩
  replace bf := bf.df fw1
  replace gv := gv.df fw1
  replace k90 := k90.df fw1
  replace own := own.df fw1
  rw [hO0] at hO dk
  rw [hO0]
  rcases hO with ⟨h, -, -⟩ | ⟨-, g16, rfl, hg16, k16, own16⟩
  · exact absurd rfl h
  replace k16 : Blk _ g16 80 (Wl.cs ⟨nx, 0, 0, false⟩ gd [119]) := k16
  replace dk : DkAt _ B gd D := dk
  replace own16 : Own _ _ 36 2 v2 L.length (recsV L) := own16
  have e16 : B ≤ g16 := Nat.le_trans hBw hg16
  have hne16 := k90.neT k16
  obtain ⟨A1, c1, rfl, -⟩ := own16.reads
  refine Seq.val (Runs.move rfl rfl) rfl rfl rfl ?_
  refine Seq.val (Runs.extract rfl rfl rfl) rfl rfl rfl ?_
  refine Seq.val (Runs.extract rfl rfl rfl) rfl rfl rfl ?_
  refine Seq.val (Runs.extract rfl rfl rfl) rfl rfl rfl ?_
  refine Seq.val (Runs.assign rfl rfl) rfl rfl rfl ?_
  refine Seq.val (Runs.assign rfl rfl) rfl rfl rfl ?_
  refine Seq.val (Runs.assign rfl rfl) rfl rfl rfl ?_
  refine Seq.nil ?_
  refine Post.weak (F' := [(0, _), (2, _), (3, _), (4, _), (5, _)]) ⟨rfl, rfl, rfl, rfl, rfl, trivial⟩ ?_
  refine Post.then_ ?_
  refine Cd.seq ?_
  refine Cd.region ?_
  refine Seq.val (Runs.move rfl rfl) rfl rfl rfl ?_
  refine Seq.val (Runs.move rfl rfl) rfl rfl rfl ?_
  refine Seq.val (Runs.nilCheck rfl rfl) rfl rfl rfl ?_
  refine Seq.val (Runs.fieldB 1 rfl rfl Tryz.underlying59 rfl (by kernel_rfl)) rfl rfl rfl ?_
  refine Seq.store1 rfl rfl rfl (by kernel_rfl) rfl rfl k90 rfl rfl rfl ?_
  intro w2 pw2
  replace bf := bf.put k90 pw2 e90
  replace gv := gv.put k90 pw2 e90
  replace dk := dk.put k90 pw2 e90
  replace own := own.put k90 pw2 e90
  replace k16 := k16.put pw2 (by omega)
  replace own16 := own16.put k90 pw2 e90
  replace k90 := pw2.blk
  refine Seq.nil ?_
  refine Post.weak (F' := [(0, _), (2, _), (3, _), (4, _), (5, _)]) ⟨rfl, rfl, rfl, rfl, rfl, trivial⟩ ?_
  refine Post.then_ ?_
  refine Cd.seq ?_
  refine Cd.region ?_
  refine Seq.val (Runs.move rfl rfl) rfl rfl rfl ?_
  refine Seq.val (Runs.nilCheck rfl rfl) rfl rfl rfl ?_
  refine Seq.val (Runs.fieldB 4 rfl rfl Tryz.underlying59 rfl (by kernel_rfl)) rfl rfl rfl ?_
  refine Seq.store1 rfl rfl rfl (by kernel_rfl) rfl rfl k90 rfl rfl rfl ?_
  intro w3 pw3
  replace bf := bf.put k90 pw3 e90
  replace gv := gv.put k90 pw3 e90
  replace dk := dk.put k90 pw3 e90
  replace own := own.put k90 pw3 e90
  replace k16 := k16.put pw3 (by omega)
  replace own16 := own16.put k90 pw3 e90
  replace k90 := pw3.blk
  refine Seq.nil ?_
  refine Post.weak (F' := [(0, _), (2, _), (3, _), (4, _), (5, _)]) ⟨rfl, rfl, rfl, rfl, rfl, trivial⟩ ?_
  refine Post.then_ ?_
  refine Cd.seq ?_
  refine Cd.region ?_
  refine Seq.val (Runs.move rfl rfl) rfl rfl rfl ?_
  refine Seq.val (Runs.nilCheck rfl rfl) rfl rfl rfl ?_
  refine Seq.val (Runs.fieldB 3 rfl rfl Tryz.underlying59 rfl (by kernel_rfl)) rfl rfl rfl ?_
  refine Seq.store1 rfl rfl rfl (by kernel_rfl) rfl rfl k90 rfl rfl rfl ?_
  intro w4 pw4
  replace bf := bf.put k90 pw4 e90
  replace gv := gv.put k90 pw4 e90
  replace dk := dk.put k90 pw4 e90
  replace own := own.put k90 pw4 e90
  replace k16 := k16.put pw4 (by omega)
  replace own16 := own16.put k90 pw4 e90
  replace k90 := pw4.blk
  refine Seq.nil ?_
  refine Post.weak (F' := [(0, _), (2, _), (3, _), (4, _), (5, _)]) ⟨rfl, rfl, rfl, rfl, rfl, trivial⟩ ?_
  refine Post.then_ ?_
  refine Cd.seq ?_
  refine Cd.seq ?_
  refine Cd.region ?_
  refine Seq.val (Runs.move rfl rfl) rfl rfl rfl ?_
  refine Seq.val (Runs.len rfl rfl Tryz.underlying29) rfl rfl rfl ?_
  refine Seq.val (Runs.gtr rfl rfl rfl) rfl rfl rfl ?_
  refine Seq.nil ?_
  refine Post.weak (F' := [(0, _), (2, _), (3, _), (4, _), (5, _), (27, _)]) ⟨rfl, rfl, rfl, rfl, rfl, rfl, trivial⟩ ?_
  refine Post.then_ ?_
  replace k90 : Blk _ gr 59 (runCs gd g16 (.slice A0 L.length c0) 0 false) := k90
  refine Cd.cond rfl (fun h => ?_) (fun h => ?_)
  · have h : (0 : Int) < (L.length : Int) := by simpa using h
    obtain ⟨r, hr, -, hnxe⟩ : ∃ r, L[L.length - 1]? = some r ∧ 0 < L.length ∧ nx = r.1 + 1 := by
      rcases hlast with ⟨h1, -⟩ | h1
      · rw [h1] at h; simp at h
      · exact h1
    have hcell : ∃ ad, A1 = some ad ∧ ∀ wr, Own wr w.heap.size 36 2 (.slice A1 L.length c1) L.length (recsV L) → wr.cell? ((ad.add ((L.length - 1) * 2)).add 0) = some (.int .i64 (r.1 : Int)) := by
      obtain ⟨A1', c1', hv1, hr1⟩ := own16.reads
      injection hv1 with e1 _ e2
      subst e1 e2
      obtain ⟨ad, hA1, -, -, -⟩ := hr1.rec (Below.refl _ _) hr
      refine ⟨ad, hA1, fun wr ho => ?_⟩
      obtain ⟨A1', c1', hv1, hr1⟩ := ho.reads
      injection hv1 with e1 _ e2
      subst e1 e2
      obtain ⟨ad', hA2, -, -, hcl⟩ := hr1.rec (Below.refl _ _) hr
      rw [hA1] at hA2
      injection hA2 with hA2
      subst hA2
      exact hcl 0 _ rfl
    obtain ⟨ad, rfl, hcd⟩ := hcell
    refine Cd.region ?_
    refine Seq.val (Runs.move rfl rfl) rfl rfl rfl ?_
    refine Seq.val (Runs.move rfl rfl) rfl rfl rfl ?_
    refine Seq.val (Runs.move rfl rfl) rfl rfl rfl ?_
    refine Seq.val (Runs.len rfl rfl Tryz.underlying29) rfl rfl rfl ?_
    refine Seq.val (Runs.subI rfl rfl rfl (by omega) (by omega)) rfl rfl rfl ?_
    refine Seq.val (Runs.indexN rfl rfl rfl Tryz.underlying29 (s := 2) (by kernel_rfl) (j := L.length - 1) (by omega) (by omega)) rfl rfl rfl ?_
    refine Seq.val (Runs.fieldA 0 rfl rfl Tryz.underlying36 rfl (by kernel_rfl)) rfl rfl rfl ?_
    refine Seq.val (Runs.load1 rfl rfl Tryz.underlying3 rfl (hcd _ own16)) rfl rfl rfl ?_
    refine Seq.val (Runs.addI rfl rfl rfl (by omega) (by omega)) rfl rfl rfl ?_
    refine Seq.val (Runs.nilCheck rfl rfl) rfl rfl rfl ?_
    refine Seq.val (Runs.fieldB 3 rfl rfl Tryz.underlying59 rfl (by kernel_rfl)) rfl rfl rfl ?_
    refine Seq.store1 rfl rfl rfl (by kernel_rfl) rfl rfl k90 rfl rfl rfl ?_
    intro w5 pw5
    replace bf := bf.put k90 pw5 e90
    replace gv := gv.put k90 pw5 e90
    replace dk := dk.put k90 pw5 e90
    replace own := own.put k90 pw5 e90
    replace k16 := k16.put pw5 (by omega)
    replace own16 := own16.put k90 pw5 e90
    replace k90 := pw5.blk
    refine Seq.nil ?_
    refine Post.weak (F' := [(0, _), (2, _), (3, _), (4, _), (5, _), (27, _)]) ⟨rfl, rfl, rfl, rfl, rfl, rfl, trivial⟩ ?_
    refine Post.then_ ?_
    refine Cd.seq ?_
    replace k90 : Blk _ gr 59 (runCs gd g16 (.slice A0 L.length c0) ((r.1 : Int) + 1) false) := k90
    rw [show (r.1 : Int) + 1 = (nx : Int) by omega] at k90
    refine Cd.draw 23 (by kernel_rfl) [] (.inl rfl) rfl Grow Grow.refl (fun _ _ _ => Grow.trans) ?_
    intro w6 hw6 zw6
    replace bf := bf.step hw6
    replace gv := gv.step hw6
    replace k90 := k90.step hw6
    replace dk := dk.step hw6
    replace own := own.step hw6
    replace k16 := k16.step hw6
    replace own16 := own16.step hw6
    have zlt := k16.lt
    obtain ⟨A1x, c1x, hv1, hr1⟩ := own16.reads
    injection hv1 with e1 _ e2
    subst e1 e2
    obtain ⟨A0', c0', hv0, hr0⟩ := own.reads
    injection hv0 with e1 _ e2
    subst e1 e2
    refine Dr.val Grow.refl rfl (fun w hG => Runs.move rfl rfl) rfl ?_
    refine Dr.val Grow.refl rfl (fun w hG => Runs.neqP rfl rfl rfl Tryz.underlying28) rfl ?_
    refine Dr.val Grow.refl rfl (fun w hG => Runs.move rfl rfl) rfl ?_
    refine Dr.valG Grow.refl rfl (fun w hG => Runs.move rfl rfl) rfl rfl rfl ?_
    refine Dr.valG Grow.refl rfl (fun w hG => (Runs.eqlI rfl rfl rfl).isT (rfl)) rfl rfl rfl ?_
    refine Dr.val Grow.refl rfl (fun w hG => Runs.pickT rfl rfl rfl) rfl ?_
    refine Dr.val Grow.refl rfl (fun w hG => Runs.move rfl rfl) rfl ?_
    refine Dr.valG Grow.refl rfl (fun w hG => Runs.move rfl rfl) rfl rfl rfl ?_
    refine Dr.valG Grow.refl rfl (fun w hG => Runs.move rfl rfl) rfl rfl rfl ?_
    refine Dr.valG Grow.refl rfl (fun w hG => Runs.nilCheck rfl rfl) rfl rfl rfl ?_
    refine Dr.valG Grow.refl rfl (fun w hG => Runs.fieldB 2 rfl rfl Tryz.underlying59 rfl (by kernel_rfl)) rfl rfl rfl ?_
    refine Dr.valG Grow.refl rfl (fun w hG => Runs.loadB rfl rfl Tryz.underlying29 rfl (k90.step hG) rfl) rfl rfl rfl ?_
    refine Dr.callVG rfl (fun w => Enters.func rfl rfl rfl (run_enter Tryz.func16 (by kernel_rfl) rfl)) rfl rfl rfl (fun w hG => same_self (some ad) A0 _ c1 _ c0 _ L w (hr1.below hG) (hr0.below hG) hG.size hbyt (by omega) (by omega)) ?_
    refine Dr.val Grow.refl rfl (fun w hG => Runs.pickT rfl rfl rfl) rfl ?_
    refine Dr.val Grow.refl rfl (fun w hG => Runs.move rfl rfl) rfl ?_
    refine Dr.valG Grow.refl rfl (fun w hG => Runs.move rfl rfl) rfl rfl rfl ?_
    refine Dr.callVG rfl (fun w => Enters.func rfl rfl rfl (run_enter Tryz.func20 (by kernel_rfl) rfl)) rfl rfl rfl (fun w hG => number_any g16 gd [119] ⟨nx, 0, 0, false⟩ w (k16.step hG)) ?_
    refine Dr.valG Grow.refl rfl (fun w hG => Runs.move rfl rfl) rfl rfl rfl ?_
    refine Dr.valG Grow.refl rfl (fun w hG => Runs.nilCheck rfl rfl) rfl rfl rfl ?_
    refine Dr.valG Grow.refl rfl (fun w hG => Runs.fieldB 3 rfl rfl Tryz.underlying59 rfl (by kernel_rfl)) rfl rfl rfl ?_
    refine Dr.valG Grow.refl rfl (fun w hG => Runs.loadB rfl rfl Tryz.underlying3 rfl (k90.step hG) rfl) rfl rfl rfl ?_
    refine Dr.valG Grow.refl rfl (fun w hG => (Runs.eqlI rfl rfl rfl).isT (rfl)) rfl rfl rfl ?_
    refine Dr.val Grow.refl rfl (fun w hG => Runs.pickT rfl rfl rfl) rfl ?_
    refine Dr.nil ?_
    refine FinX.done (F' := [(0, _), (2, _), (3, _), (4, _), (5, _), (27, _), (61, _)]) rfl ⟨rfl, rfl, rfl, rfl, rfl, rfl, rfl, trivial⟩ ?_
    intro w7 hw7 fw7
    replace bf := bf.step hw7
    replace gv := gv.step hw7
    replace k90 := k90.step hw7
    replace dk := dk.step hw7
    replace own := own.step hw7
    replace k16 := k16.step hw7
    replace own16 := own16.step hw7
    refine Seq.val (Runs.assign rfl rfl) rfl rfl rfl ?_
    refine Seq.nil ?_
    refine Post.weak (F' := [(0, _), (2, _), (3, _), (4, _), (5, _), (27, _)]) ⟨rfl, rfl, rfl, rfl, rfl, rfl, trivial⟩ ?_
    refine Post.then_ ?_
    refine Cd.ret ?_
    refine Post.end1 rfl rfl (.inl rfl) ?_
    rw [hL] at own
    exact ⟨rfl, ⟨⟨gd, g16, _, by rw [hL] at k90; exact k90, dk, k16, own, e16⟩, e90⟩, bf⟩
  · have h : ¬ ((0 : Int) < (L.length : Int)) := by simpa using h
    have hL0 : L = [] := List.eq_nil_of_length_eq_zero (by omega)
    have hnx0 : nx = 0 := by
      rcases hlast with ⟨-, h1⟩ | ⟨r, -, h1, -⟩
      · exact h1
      · omega
    subst hnx0
    refine Cd.skip ?_
    refine Post.then_ ?_
    refine Cd.seq ?_
    refine Cd.draw 23 (by kernel_rfl) [] (.inl rfl) rfl Grow Grow.refl (fun _ _ _ => Grow.trans) ?_
    intro w5 hw5 zw5
    replace bf := bf.step hw5
    replace gv := gv.step hw5
    replace k90 := k90.step hw5
    replace dk := dk.step hw5
    replace own := own.step hw5
    replace k16 := k16.step hw5
    replace own16 := own16.step hw5
    have zlt := k16.lt
    obtain ⟨A1', c1', hv1, hr1⟩ := own16.reads
    injection hv1 with e1 _ e2
    subst e1 e2
    obtain ⟨A0', c0', hv0, hr0⟩ := own.reads
    injection hv0 with e1 _ e2
    subst e1 e2
    refine Dr.val Grow.refl rfl (fun w hG => Runs.move rfl rfl) rfl ?_
    refine Dr.val Grow.refl rfl (fun w hG => Runs.neqP rfl rfl rfl Tryz.underlying28) rfl ?_
    refine Dr.val Grow.refl rfl (fun w hG => Runs.move rfl rfl) rfl ?_
    refine Dr.valG Grow.refl rfl (fun w hG => Runs.move rfl rfl) rfl rfl rfl ?_
    refine Dr.valG Grow.refl rfl (fun w hG => (Runs.eqlI rfl rfl rfl).isT (rfl)) rfl rfl rfl ?_
    refine Dr.val Grow.refl rfl (fun w hG => Runs.pickT rfl rfl rfl) rfl ?_
    refine Dr.val Grow.refl rfl (fun w hG => Runs.move rfl rfl) rfl ?_
    refine Dr.valG Grow.refl rfl (fun w hG => Runs.move rfl rfl) rfl rfl rfl ?_
    refine Dr.valG Grow.refl rfl (fun w hG => Runs.move rfl rfl) rfl rfl rfl ?_
    refine Dr.valG Grow.refl rfl (fun w hG => Runs.nilCheck rfl rfl) rfl rfl rfl ?_
    refine Dr.valG Grow.refl rfl (fun w hG => Runs.fieldB 2 rfl rfl Tryz.underlying59 rfl (by kernel_rfl)) rfl rfl rfl ?_
    refine Dr.valG Grow.refl rfl (fun w hG => Runs.loadB rfl rfl Tryz.underlying29 rfl (k90.step hG) rfl) rfl rfl rfl ?_
    refine Dr.callVG rfl (fun w => Enters.func rfl rfl rfl (run_enter Tryz.func16 (by kernel_rfl) rfl)) rfl rfl rfl (fun w hG => same_self A1 A0 _ c1 _ c0 _ L w (hr1.below hG) (hr0.below hG) hG.size hbyt (by omega) (by omega)) ?_
    refine Dr.val Grow.refl rfl (fun w hG => Runs.pickT rfl rfl rfl) rfl ?_
    refine Dr.val Grow.refl rfl (fun w hG => Runs.move rfl rfl) rfl ?_
    refine Dr.valG Grow.refl rfl (fun w hG => Runs.move rfl rfl) rfl rfl rfl ?_
    refine Dr.callVG rfl (fun w => Enters.func rfl rfl rfl (run_enter Tryz.func20 (by kernel_rfl) rfl)) rfl rfl rfl (fun w hG => number_any g16 gd [119] ⟨0, 0, 0, false⟩ w (k16.step hG)) ?_
    refine Dr.valG Grow.refl rfl (fun w hG => Runs.move rfl rfl) rfl rfl rfl ?_
    refine Dr.valG Grow.refl rfl (fun w hG => Runs.nilCheck rfl rfl) rfl rfl rfl ?_
    refine Dr.valG Grow.refl rfl (fun w hG => Runs.fieldB 3 rfl rfl Tryz.underlying59 rfl (by kernel_rfl)) rfl rfl rfl ?_
    refine Dr.valG Grow.refl rfl (fun w hG => Runs.loadB rfl rfl Tryz.underlying3 rfl (k90.step hG) rfl) rfl rfl rfl ?_
    refine Dr.valG Grow.refl rfl (fun w hG => (Runs.eqlI rfl rfl rfl).isT (rfl)) rfl rfl rfl ?_
    refine Dr.val Grow.refl rfl (fun w hG => Runs.pickT rfl rfl rfl) rfl ?_
    refine Dr.nil ?_
    refine FinX.done (F' := [(0, _), (2, _), (3, _), (4, _), (5, _), (27, _), (61, _)]) rfl ⟨rfl, rfl, rfl, rfl, rfl, rfl, rfl, trivial⟩ ?_
    intro w6 hw6 fw6
    replace bf := bf.step hw6
    replace gv := gv.step hw6
    replace k90 := k90.step hw6
    replace dk := dk.step hw6
    replace own := own.step hw6
    replace k16 := k16.step hw6
    replace own16 := own16.step hw6
    refine Seq.val (Runs.assign rfl rfl) rfl rfl rfl ?_
    refine Seq.nil ?_
    refine Post.weak (F' := [(0, _), (2, _), (3, _), (4, _), (5, _), (27, _)]) ⟨rfl, rfl, rfl, rfl, rfl, rfl, trivial⟩ ?_
    refine Post.then_ ?_
    refine Cd.ret ?_
    refine Post.end1 rfl rfl (.inl rfl) ?_
    rw [hL] at own
    exact ⟨rfl, ⟨⟨gd, g16, _, by rw [hL] at k90; exact k90, dk, k16, own, e16⟩, e90⟩, bf⟩
end Go.Proofs.YtnlepoplncjliaaGreatDoor

namespace Go.Proofs.YtnlepoplncjliaaGreatDoor
open Go.RowKit

/-- An act. -/
structure ActV where
  kind : Int
  n : Int
  data : List Nat
def ActV.cs (a : ActV) : List Value := [.int .i64 a.kind, .int .i64 a.n, .string (strOf a.data)]
def ActV.v (a : ActV) : Value := .agg #[.int .i64 a.kind, .int .i64 a.n, .string (strOf a.data)]
/-- A log's block and its disk. -/
structure WkAt (w : World) (B gd g6 : Nat) (D : Dk) (W : Wl) : Prop where
  k : Blk w g6 80 (W.cs gd [119])
  dk : DkAt w B gd D
theorem WkAt.step {w w' : World} {B gd g6 : Nat} {D : Dk} {W : Wl} (h : WkAt w B gd g6 D W) (hb : Below w.heap.size w w') : WkAt w' B gd g6 D W := ⟨h.k.step hb, h.dk.step hb⟩
def nthW (W0 W1 : Wl) (c : Nat) : Wl := if c = 0 then W0 else W1
theorem rotate_j (B g6 gd : Nat) (D : Dk) (W : Wl) (w : World) (e6 : B ≤ g6) (h : WkAt w B gd g6 D W) (hn : W.num ≤ 1000000000) :
    Calls Tryz.prog 29 #[.pointer (some ⟨g6, 0, none⟩)] w fun e w' => e = .returned (.int .i64 (W.rotate.num : Int)) ∧ Lf B w w' ∧ WkAt w' B gd g6 D W.rotate :=
  (rotate_any B g6 gd D [119] W w e6 h.dk.size h.k h.dk hn).mono fun _ _ ⟨h1, h2, h3, h4⟩ => ⟨h1, h4, h2, h3⟩
theorem least_j (B g6 gd : Nat) (D : Dk) (n : Int) (W : Wl) (w : World) (e6 : B ≤ g6) (h : WkAt w B gd g6 D W) (hn : W.num ≤ 1000000000) :
    Calls Tryz.prog 30 #[.pointer (some ⟨g6, 0, none⟩), .int .i64 n] w fun e w' => e = .returned (.int .i64 ((W.least n).num : Int)) ∧ Lf B w w' ∧ WkAt w' B gd g6 D (W.least n) :=
  (least_any B g6 gd D [119] n W w e6 h.dk.size h.k h.dk hn).mono fun _ _ ⟨h1, h2, h3, h4⟩ => ⟨h1, h4, h2, h3⟩
set_option maxHeartbeats 8000000 in
theorem does_any (B gr : Nat) (a : ActV) (D : Dk) (W : Wl) (segs : List (Nat × List (List Nat))) (k : Nat) (w : World) (gv : Gv w) (hgB : 4 < B) (hP : PlIs D W segs k) (hk : k ≤ 30) (h : RunAt w B gr D W segs) (hd : Byt a.data) (hdl : a.data.length ≤ 300) (hn : I64 a.n) :
    Calls Tryz.prog 25 #[.pointer (some ⟨gr, 0, none⟩), a.v] w fun e w' => ∃ D' W' segs', e = .returned (.tuple #[.bool true, .bool false]) ∧ PlIs D' W' segs' (k + 1) ∧ RunAt w' B gr D' W' segs' ∧ Bf B w w' := by
  obtain ⟨⟨gd, g6, v, k90, dk, k6, own, e6⟩, e90⟩ := h
  have bf := Bf.refl B w
  have hBw := dk.size
  have hb1 := hP.num
  have hb2 := hP.cnt
  have hb3 := hP.size
  have hrl := hP.recs
  have hwn : W.broken = false := hP.wl.broken
  have hne6 := k90.neT k6
  obtain ⟨A0, c0, rfl, -⟩ := own.reads
  unfold ActV.v
  refine Calls.start 156 Tryz.func25 rfl rfl rfl ?_
  refine Cd.seq ?_
  refine Cd.region ?_
  refine Seq.box rfl rfl rfl rfl rfl ?_
  intro g3 w1 n3
  have l3 := Nat.lt_of_lt_of_le k6.lt n3.ge
  replace bf := bf.step n3.below
  replace gv := gv.step n3.below
  replace k90 := k90.step n3.below
  replace dk := dk.step n3.below
  replace k6 := k6.step n3.below
  replace own := own.step n3.below
  have k3 := n3.blk
  refine Seq.val (Runs.assign rfl rfl) rfl rfl rfl ?_
  refine Seq.val (Runs.assign rfl rfl) rfl rfl rfl ?_
  refine Seq.nil ?_
  refine Post.weak (F' := [(0, _), (1, _), (3, _), (4, _), (5, _)]) ⟨rfl, rfl, rfl, rfl, rfl, trivial⟩ ?_
  refine Post.then_ ?_
  refine Cd.seq ?_
  refine Cd.seq ?_
  refine Cd.region ?_
  refine Seq.val (Runs.fieldB 0 rfl rfl Tryz.underlying57 rfl (by kernel_rfl)) rfl rfl rfl ?_
  refine Seq.val (Runs.loadB rfl rfl Tryz.underlying3 rfl k3 rfl) rfl rfl rfl ?_
  refine Seq.nil ?_
  refine Post.weak (F' := [(0, _), (1, _), (3, _), (4, _), (5, _), (12, _)]) ⟨rfl, rfl, rfl, rfl, rfl, rfl, trivial⟩ ?_
  refine Post.then_ ?_
  refine Cd.block ?_
  refine Cd.seq ?_
  refine Cd.region ?_
  refine Seq.val (Runs.eqlI rfl rfl rfl) rfl rfl rfl ?_
  refine Seq.val (Runs.assign rfl rfl) rfl rfl rfl ?_
  refine Seq.nil ?_
  refine Post.weak (F' := [(0, _), (1, _), (3, _), (4, _), (5, _), (12, _), (13, _)]) ⟨rfl, rfl, rfl, rfl, rfl, rfl, rfl, trivial⟩ ?_
  refine Post.then_ ?_
  have hne3 := k90.neT k3
  have hne63 := k6.neT k3
  refine Cd.cond rfl (fun h => ?_) (fun h => ?_)
  · obtain ⟨D', segs', hA, hP', hrec⟩ := hP.append hk hd hdl
    refine Cd.seq ?_
    refine Cd.draw 6 (by kernel_rfl) [] (.inl rfl) rfl Grow Grow.refl (fun _ _ _ => Grow.trans) ?_
    intro w2 hw2 zw2
    replace bf := bf.step hw2
    replace gv := gv.step hw2
    replace k90 := k90.step hw2
    replace dk := dk.step hw2
    replace k6 := k6.step hw2
    replace own := own.step hw2
    replace k3 := k3.step hw2
    have zlt := k3.lt
    refine Dr.val Grow.refl rfl (fun w hG => Runs.move rfl rfl) rfl ?_
    refine Dr.val Grow.refl rfl (fun w hG => Runs.nilCheck rfl rfl) rfl ?_
    refine Dr.val Grow.refl rfl (fun w hG => Runs.fieldB 1 rfl rfl Tryz.underlying59 rfl (by kernel_rfl)) rfl ?_
    refine Dr.val Grow.refl rfl (fun w hG => Runs.loadB rfl rfl Tryz.underlying28 rfl (k90.step hG) rfl) rfl ?_
    refine Dr.val Grow.refl rfl (fun w hG => Runs.fieldB 2 rfl rfl Tryz.underlying57 rfl (by kernel_rfl)) rfl ?_
    refine Dr.val Grow.refl rfl (fun w hG => Runs.loadB rfl rfl Tryz.underlying9 rfl (k3.step hG) rfl) rfl ?_
    refine Dr.nil ?_
    refine FinX.done (F' := [(0, _), (1, _), (3, _), (4, _), (5, _), (12, _), (13, _), (18, _), (20, _)]) rfl ⟨rfl, rfl, rfl, rfl, rfl, rfl, rfl, rfl, rfl, trivial⟩ ?_
    intro w3 hw3 fw3
    replace bf := bf.step hw3
    replace gv := gv.step hw3
    replace k90 := k90.step hw3
    replace dk := dk.step hw3
    replace k6 := k6.step hw3
    replace own := own.step hw3
    replace k3 := k3.step hw3
    refine Seq.call (Enters.func rfl rfl rfl (run_enter Tryz.func15 (by kernel_rfl) rfl)) rfl rfl rfl (append_w_any B g6 gd D [119] a.data W _ gv hgB e6 k6 dk (byt_one (by omega)) (by decide) (by omega) (by omega) (by omega) hd (by omega)) ?_
    clear k6 dk
    rintro e w4 ⟨rfl, k6, dk, fw4⟩
    refine ⟨_, rfl, ?_⟩
    replace bf := bf.lf fw4
    replace gv := gv.lf fw4
    replace k90 := k90.lf fw4
    replace own := own.lf fw4
    replace k3 := k3.lf fw4
    rw [hA] at k6 dk
    rw [hA]
    refine Seq.val (Runs.assign rfl rfl) rfl rfl rfl ?_
    refine Seq.nil ?_
    refine Post.weak (F' := [(0, _), (1, _), (3, _), (4, _), (5, _), (6, _), (12, _), (13, _)]) ⟨rfl, rfl, rfl, rfl, rfl, rfl, rfl, rfl, trivial⟩ ?_
    refine Post.then_ ?_
    refine Cd.seq ?_
    refine Cd.seq ?_
    refine Cd.region ?_
    refine Seq.val (Runs.move rfl rfl) rfl rfl rfl ?_
    refine Seq.val (Runs.eqlI rfl rfl rfl) rfl rfl rfl ?_
    refine Seq.nil ?_
    refine Post.weak (F' := [(0, _), (1, _), (3, _), (4, _), (5, _), (6, _), (12, _), (13, _), (23, _)]) ⟨rfl, rfl, rfl, rfl, rfl, rfl, rfl, rfl, rfl, trivial⟩ ?_
    refine Post.then_ ?_
    refine Cd.condF rfl rfl ?_
    refine Cd.skip ?_
    refine Post.then_ ?_
    refine Cd.seq ?_
    refine Cd.draw 13 (by kernel_rfl) [0] (.inr (fun _ _ d _ _ h => by cases d <;> exact h)) rfl Grow Grow.refl (fun _ _ _ => Grow.trans) ?_
    intro w5 hw5 zw5
    replace bf := bf.step hw5
    replace gv := gv.step hw5
    replace k90 := k90.step hw5
    replace dk := dk.step hw5
    replace k6 := k6.step hw5
    replace own := own.step hw5
    replace k3 := k3.step hw5
    have zlt := k3.lt
    refine Dr.late rfl rfl (fun w => Runs.move rfl rfl) Grow.refl rfl ?_
    refine Dr.val Grow.refl rfl (fun w hG => Runs.move rfl rfl) rfl ?_
    refine Dr.val Grow.refl rfl (fun w hG => Runs.nilCheck rfl rfl) rfl ?_
    refine Dr.val Grow.refl rfl (fun w hG => Runs.fieldB 2 rfl rfl Tryz.underlying59 rfl (by kernel_rfl)) rfl ?_
    refine Dr.val Grow.refl rfl (fun w hG => Runs.loadB rfl rfl Tryz.underlying29 rfl (k90.step hG) rfl) rfl ?_
    refine Dr.val Grow.refl rfl (fun w hG => Runs.move rfl rfl) rfl ?_
    refine Dr.val Grow.refl rfl (fun w hG => Runs.nilCheck rfl rfl) rfl ?_
    refine Dr.val Grow.refl rfl (fun w hG => Runs.fieldB 3 rfl rfl Tryz.underlying59 rfl (by kernel_rfl)) rfl ?_
    refine Dr.val Grow.refl rfl (fun w hG => Runs.loadB rfl rfl Tryz.underlying3 rfl (k90.step hG) rfl) rfl ?_
    refine Dr.val Grow.refl rfl (fun w hG => Runs.fieldB 2 rfl rfl Tryz.underlying57 rfl (by kernel_rfl)) rfl ?_
    refine Dr.val Grow.refl rfl (fun w hG => Runs.loadB rfl rfl Tryz.underlying9 rfl (k3.step hG) rfl) rfl ?_
    refine Dr.val Grow.refl rfl (fun w hG => Runs.build rfl rfl (run_build_rec (W.num : Int) a.data w)) rfl ?_
    refine Dr.slice (vs := [_]) (s := 2) rfl rfl rfl rfl Tryz.underlying29 (by kernel_rfl) zero_wal_Rec (by omega) (by omega) ⟨rfl, trivial⟩ rfl ?_
    refine Dr.nil ?_
    refine FinX.open (j := 12) rfl ?_
    intro u12
    refine FinX.done (F' := [(0, _), (1, _), (3, _), (4, _), (5, _), (6, _), (12, _), (13, _), (23, _), (24, _), (28, _), (36, _)]) rfl ⟨rfl, rfl, rfl, rfl, rfl, rfl, rfl, rfl, rfl, rfl, rfl, rfl, trivial⟩ ?_
    intro w6 hw6 fw6
    replace bf := bf.step hw6
    replace gv := gv.step hw6
    replace k90 := k90.step hw6
    replace dk := dk.step hw6
    replace k6 := k6.step hw6
    replace own := own.step hw6
    replace k3 := k3.step hw6
    obtain ⟨-, g36, rfl, k36, e36⟩ := fw6
    have hrx := Reads.blk (size := 2) k36 1 rfl
    have hBw6 := dk.size
    refine Seq.append rfl rfl rfl Tryz.underlying29 (by kernel_rfl) zero_wal_Rec rfl (by decide) (b := 24) (by kernel_rfl) own hrx (ones_recV (W.num, a.data)) hBw6 (by simp only [maxLen]; omega) (by omega) rfl rfl rfl ?_
    intro v2 wb own2 ha
    replace dk := dk.app own ha
    replace bf := bf.app own ha
    replace k6 := k6.appNe own ha
    replace k90 := k90.appNe own ha
    replace gv := gv.app own ha
    replace own2 : Own wb B 36 2 v2 ((recsOf segs).length + 1) (recsV (recsOf segs) ++ recsV [(W.num, a.data)]) := own2
    have hrecl : (recsOf segs').length = (recsOf segs).length + 1 := by rw [hrec]; simp
    rw [← recsV_app, ← hrec, ← hrecl] at own2
    clear own k36 hrx ha k3
    have own := own2
    clear own2
    obtain ⟨A2, c2, rfl, -⟩ := own.reads
    refine Seq.val (Runs.nilCheck rfl rfl) rfl rfl rfl ?_
    refine Seq.val (Runs.fieldB 2 rfl rfl Tryz.underlying59 rfl (by kernel_rfl)) rfl rfl rfl ?_
    refine Seq.store1 rfl rfl rfl (by kernel_rfl) rfl rfl k90 rfl rfl rfl ?_
    intro w7 pw7
    replace bf := bf.put k90 pw7 e90
    replace gv := gv.put k90 pw7 e90
    replace dk := dk.put k90 pw7 e90
    replace k6 := k6.put pw7 (by omega)
    replace own := own.put k90 pw7 e90
    replace k90 := pw7.blk
    refine Seq.nil ?_
    refine Post.weak (F' := [(0, _), (1, _), (3, _), (4, _), (5, _), (6, _), (12, _), (13, _), (23, _)]) ⟨rfl, rfl, rfl, rfl, rfl, rfl, rfl, rfl, rfl, trivial⟩ ?_
    refine Post.then_ ?_
    refine Cd.seq ?_
    refine Cd.region ?_
    refine Seq.val (Runs.move rfl rfl) rfl rfl rfl ?_
    refine Seq.val (Runs.nilCheck rfl rfl) rfl rfl rfl ?_
    refine Seq.val (Runs.fieldB 4 rfl rfl Tryz.underlying59 rfl (by kernel_rfl)) rfl rfl rfl ?_
    refine Seq.store1 rfl rfl rfl (by kernel_rfl) rfl rfl k90 rfl rfl rfl ?_
    intro w8 pw8
    replace bf := bf.put k90 pw8 e90
    replace gv := gv.put k90 pw8 e90
    replace dk := dk.put k90 pw8 e90
    replace k6 := k6.put pw8 (by omega)
    replace own := own.put k90 pw8 e90
    replace k90 := pw8.blk
    refine Seq.nil ?_
    refine Post.weak (F' := [(0, _), (1, _), (3, _), (4, _), (5, _), (6, _), (12, _), (13, _), (23, _)]) ⟨rfl, rfl, rfl, rfl, rfl, rfl, rfl, rfl, rfl, trivial⟩ ?_
    refine Post.then_ ?_
    refine Cd.seq ?_
    refine Cd.region ?_
    refine Seq.val (Runs.move rfl rfl) rfl rfl rfl ?_
    refine Seq.val (Runs.eqlI rfl rfl rfl) rfl rfl rfl ?_
    refine Seq.val (Runs.assign rfl rfl) rfl rfl rfl ?_
    refine Seq.val (Runs.assign rfl rfl) rfl rfl rfl ?_
    refine Seq.nil ?_
    refine Post.weak (F' := [(0, _), (1, _), (3, _), (4, _), (5, _), (6, _), (12, _), (13, _), (23, _)]) ⟨rfl, rfl, rfl, rfl, rfl, rfl, rfl, rfl, rfl, trivial⟩ ?_
    refine Post.then_ ?_
    refine Cd.ret ?_
    refine Post.block_ret ?_
    refine Post.then_ret ?_
    refine Post.end2 rfl rfl rfl (.inl rfl) ?_
    exact ⟨D', _, segs', rfl, hP', ⟨⟨gd, g6, _, by rw [decide_eq_true (show 0 < W.count + 1 by omega)]; exact k90, dk, k6, own, e6⟩, e90⟩, bf⟩
  refine Cd.seq ?_
  refine Cd.region ?_
  refine Seq.val (Runs.eqlI rfl rfl rfl) rfl rfl rfl ?_
  refine Seq.val (Runs.assign rfl rfl) rfl rfl rfl ?_
  refine Seq.nil ?_
  refine Post.weak (F' := [(0, _), (1, _), (3, _), (4, _), (5, _), (12, _), (13, _), (45, _)]) ⟨rfl, rfl, rfl, rfl, rfl, rfl, rfl, rfl, trivial⟩ ?_
  refine Post.then_ ?_
  refine Cd.cond rfl (fun h => ?_) (fun h => ?_)
  · have hP' := hP.rotate
    refine Cd.seq ?_
    refine Cd.seq ?_
    refine Cd.region ?_
    refine Seq.val (Runs.move rfl rfl) rfl rfl rfl ?_
    refine Seq.val (Runs.nilCheck rfl rfl) rfl rfl rfl ?_
    refine Seq.val (Runs.fieldB 4 rfl rfl Tryz.underlying59 rfl (by kernel_rfl)) rfl rfl rfl ?_
    refine Seq.val (Runs.loadB rfl rfl Tryz.underlying4 rfl k90 rfl) rfl rfl rfl ?_
    refine Seq.nil ?_
    refine Post.weak (F' := [(0, _), (1, _), (3, _), (4, _), (5, _), (12, _), (13, _), (45, _), (50, _)]) ⟨rfl, rfl, rfl, rfl, rfl, rfl, rfl, rfl, rfl, trivial⟩ ?_
    refine Post.then_ ?_
    refine Cd.cond rfl (fun h => ?_) (fun h => ?_)
    · have h : 0 < W.count := by simpa using h
      have hrot : W.rotate = ⟨W.num + 1, 0, 0, W.broken⟩ := by unfold Wl.rotate; rw [if_pos h]
      refine Cd.seq ?_
      refine Cd.region ?_
      refine Seq.val (Runs.move rfl rfl) rfl rfl rfl ?_
      refine Seq.val (Runs.nilCheck rfl rfl) rfl rfl rfl ?_
      refine Seq.val (Runs.fieldB 3 rfl rfl Tryz.underlying59 rfl (by kernel_rfl)) rfl rfl rfl ?_
      refine Seq.val (Runs.loadB rfl rfl Tryz.underlying3 rfl k90 rfl) rfl rfl rfl ?_
      refine Seq.val (Runs.addI rfl rfl rfl (by omega) (by omega)) rfl rfl rfl ?_
      refine Seq.val (Runs.nilCheck rfl rfl) rfl rfl rfl ?_
      refine Seq.val (Runs.fieldB 3 rfl rfl Tryz.underlying59 rfl (by kernel_rfl)) rfl rfl rfl ?_
      refine Seq.store1 rfl rfl rfl (by kernel_rfl) rfl rfl k90 rfl rfl rfl ?_
      intro w2 pw2
      replace bf := bf.put k90 pw2 e90
      replace gv := gv.put k90 pw2 e90
      replace dk := dk.put k90 pw2 e90
      replace k6 := k6.put pw2 (by omega)
      replace own := own.put k90 pw2 e90
      replace k3 := k3.put pw2 (by omega)
      replace k90 := pw2.blk
      refine Seq.nil ?_
      refine Post.weak (F' := [(0, _), (1, _), (3, _), (4, _), (5, _), (12, _), (13, _), (45, _), (50, _)]) ⟨rfl, rfl, rfl, rfl, rfl, rfl, rfl, rfl, rfl, trivial⟩ ?_
      refine Post.then_ ?_
      refine Cd.region ?_
      refine Seq.val (Runs.move rfl rfl) rfl rfl rfl ?_
      refine Seq.val (Runs.nilCheck rfl rfl) rfl rfl rfl ?_
      refine Seq.val (Runs.fieldB 4 rfl rfl Tryz.underlying59 rfl (by kernel_rfl)) rfl rfl rfl ?_
      refine Seq.store1 rfl rfl rfl (by kernel_rfl) rfl rfl k90 rfl rfl rfl ?_
      intro w3 pw3
      replace bf := bf.put k90 pw3 e90
      replace gv := gv.put k90 pw3 e90
      replace dk := dk.put k90 pw3 e90
      replace k6 := k6.put pw3 (by omega)
      replace own := own.put k90 pw3 e90
      replace k3 := k3.put pw3 (by omega)
      replace k90 := pw3.blk
      refine Seq.nil ?_
      refine Post.weak (F' := [(0, _), (1, _), (3, _), (4, _), (5, _), (12, _), (13, _), (45, _), (50, _)]) ⟨rfl, rfl, rfl, rfl, rfl, rfl, rfl, rfl, rfl, trivial⟩ ?_
      refine Post.then_ ?_
      refine Cd.seq ?_
      have wk : WkAt _ B gd g6 D W := ⟨k6, dk⟩
      clear k6 dk
      refine Cd.weak (F' := [(0, _), (1, _), (3, _), (12, _), (13, _), (45, _), (50, _)]) ⟨rfl, rfl, rfl, rfl, rfl, rfl, rfl, trivial⟩ ?_
      refine Cd.drawJ 12 (by kernel_rfl) [] [4] (fun i h => by cases h) rfl rfl (.inl rfl) rfl (Lf B) (Lf.refl B) (fun _ _ _ => Lf.trans) (fun c w => WkAt w B gd g6 D (nthW W W.rotate c)) ?_
      intro w4 hw4 zw4
      replace bf := bf.step hw4
      replace gv := gv.step hw4
      replace k90 := k90.step hw4
      replace own := own.step hw4
      replace k3 := k3.step hw4
      replace wk := wk.step hw4
      refine ⟨wk, ?_⟩
      have zlt := k3.lt
      refine DJ.val rfl (Lf.refl B) rfl (fun w hG => Runs.move rfl rfl) rfl ?_
      refine DJ.val rfl (Lf.refl B) rfl (fun w hG => Runs.nilCheck rfl rfl) rfl ?_
      refine DJ.val rfl (Lf.refl B) rfl (fun w hG => Runs.fieldB 1 rfl rfl Tryz.underlying59 rfl (by kernel_rfl)) rfl ?_
      refine DJ.val rfl (Lf.refl B) rfl (fun w hG => Runs.loadB rfl rfl Tryz.underlying28 rfl (k90.lf hG) rfl) rfl ?_
      refine DJ.chain 0 rfl rfl (fun w => Enters.func rfl rfl rfl (run_enter Tryz.func29 (by kernel_rfl) rfl)) rfl (fun w hG wk => rotate_j B g6 gd D W w e6 wk (by omega)) ?_
      refine DJ.val rfl (Lf.refl B) rfl (fun w hG => Runs.move rfl rfl) rfl ?_
      refine DJ.val rfl (Lf.refl B) rfl (fun w hG => Runs.nilCheck rfl rfl) rfl ?_
      refine DJ.val rfl (Lf.refl B) rfl (fun w hG => Runs.fieldB 3 rfl rfl Tryz.underlying59 rfl (by kernel_rfl)) rfl ?_
      refine DJ.val rfl (Lf.refl B) rfl (fun w hG => Runs.loadB rfl rfl Tryz.underlying3 rfl (k90.lf hG) rfl) rfl ?_
      refine DJ.val rfl (Lf.refl B) rfl (fun w hG => Runs.eqlI rfl rfl rfl) rfl ?_
      refine DJ.val rfl (Lf.refl B) rfl (fun w hG => Runs.assign rfl rfl) rfl ?_
      refine DJ.val rfl (Lf.refl B) rfl (fun w hG => Runs.assign rfl rfl) rfl ?_
      refine DJ.nil ?_
      refine FinX.done (F' := [(0, _), (1, _), (3, _), (4, _), (5, _), (12, _), (13, _), (45, _), (50, _)]) rfl ⟨rfl, rfl, rfl, rfl, rfl, rfl, rfl, rfl, rfl, trivial⟩ ?_
      intro w5 hw5 fw5
      replace bf := bf.lf hw5
      replace gv := gv.lf hw5
      replace k90 := k90.lf hw5
      replace own := own.lf hw5
      replace k3 := k3.lf hw5
      clear wk
      have wk := fw5
      refine Seq.nil ?_
      refine Post.weak (F' := [(0, _), (1, _), (3, _), (4, _), (5, _), (12, _), (13, _), (45, _), (50, _)]) ⟨rfl, rfl, rfl, rfl, rfl, rfl, rfl, rfl, rfl, trivial⟩ ?_
      refine Post.then_ ?_
      refine Cd.ret ?_
      refine Post.block_ret ?_
      refine Post.then_ret ?_
      refine Post.end2 rfl rfl rfl (.inl rfl) ?_
      have wk : WkAt _ B gd g6 D W.rotate := wk
      refine ⟨D, W.rotate, segs, ?_, hP', ⟨⟨gd, g6, _, ?_, wk.dk, wk.k, own, e6⟩, e90⟩, bf⟩
      · rw [hrot]; simp
      · rw [hrot]; exact k90
    · have h : ¬ (0 < W.count) := by simpa using h
      have hrot : W.rotate = W := by unfold Wl.rotate; rw [if_neg h]
      refine Cd.skip ?_
      refine Post.then_ ?_
      refine Cd.seq ?_
      have wk : WkAt _ B gd g6 D W := ⟨k6, dk⟩
      clear k6 dk
      refine Cd.weak (F' := [(0, _), (1, _), (3, _), (12, _), (13, _), (45, _), (50, _)]) ⟨rfl, rfl, rfl, rfl, rfl, rfl, rfl, trivial⟩ ?_
      refine Cd.drawJ 12 (by kernel_rfl) [] [4] (fun i h => by cases h) rfl rfl (.inl rfl) rfl (Lf B) (Lf.refl B) (fun _ _ _ => Lf.trans) (fun c w => WkAt w B gd g6 D (nthW W W.rotate c)) ?_
      intro w2 hw2 zw2
      replace bf := bf.step hw2
      replace gv := gv.step hw2
      replace k90 := k90.step hw2
      replace own := own.step hw2
      replace k3 := k3.step hw2
      replace wk := wk.step hw2
      refine ⟨wk, ?_⟩
      have zlt := k3.lt
      refine DJ.val rfl (Lf.refl B) rfl (fun w hG => Runs.move rfl rfl) rfl ?_
      refine DJ.val rfl (Lf.refl B) rfl (fun w hG => Runs.nilCheck rfl rfl) rfl ?_
      refine DJ.val rfl (Lf.refl B) rfl (fun w hG => Runs.fieldB 1 rfl rfl Tryz.underlying59 rfl (by kernel_rfl)) rfl ?_
      refine DJ.val rfl (Lf.refl B) rfl (fun w hG => Runs.loadB rfl rfl Tryz.underlying28 rfl (k90.lf hG) rfl) rfl ?_
      refine DJ.chain 0 rfl rfl (fun w => Enters.func rfl rfl rfl (run_enter Tryz.func29 (by kernel_rfl) rfl)) rfl (fun w hG wk => rotate_j B g6 gd D W w e6 wk (by omega)) ?_
      refine DJ.val rfl (Lf.refl B) rfl (fun w hG => Runs.move rfl rfl) rfl ?_
      refine DJ.val rfl (Lf.refl B) rfl (fun w hG => Runs.nilCheck rfl rfl) rfl ?_
      refine DJ.val rfl (Lf.refl B) rfl (fun w hG => Runs.fieldB 3 rfl rfl Tryz.underlying59 rfl (by kernel_rfl)) rfl ?_
      refine DJ.val rfl (Lf.refl B) rfl (fun w hG => Runs.loadB rfl rfl Tryz.underlying3 rfl (k90.lf hG) rfl) rfl ?_
      refine DJ.val rfl (Lf.refl B) rfl (fun w hG => Runs.eqlI rfl rfl rfl) rfl ?_
      refine DJ.val rfl (Lf.refl B) rfl (fun w hG => Runs.assign rfl rfl) rfl ?_
      refine DJ.val rfl (Lf.refl B) rfl (fun w hG => Runs.assign rfl rfl) rfl ?_
      refine DJ.nil ?_
      refine FinX.done (F' := [(0, _), (1, _), (3, _), (4, _), (5, _), (12, _), (13, _), (45, _), (50, _)]) rfl ⟨rfl, rfl, rfl, rfl, rfl, rfl, rfl, rfl, rfl, trivial⟩ ?_
      intro w3 hw3 fw3
      replace bf := bf.lf hw3
      replace gv := gv.lf hw3
      replace k90 := k90.lf hw3
      replace own := own.lf hw3
      replace k3 := k3.lf hw3
      clear wk
      have wk := fw3
      refine Seq.nil ?_
      refine Post.weak (F' := [(0, _), (1, _), (3, _), (4, _), (5, _), (12, _), (13, _), (45, _), (50, _)]) ⟨rfl, rfl, rfl, rfl, rfl, rfl, rfl, rfl, rfl, trivial⟩ ?_
      refine Post.then_ ?_
      refine Cd.ret ?_
      refine Post.block_ret ?_
      refine Post.then_ret ?_
      refine Post.end2 rfl rfl rfl (.inl rfl) ?_
      have wk : WkAt _ B gd g6 D W.rotate := wk
      refine ⟨D, W.rotate, segs, ?_, hP', ⟨⟨gd, g6, _, ?_, wk.dk, wk.k, own, e6⟩, e90⟩, bf⟩
      · rw [hrot]; simp
      · rw [hrot]; exact k90
  refine Cd.seq ?_
  refine Cd.region ?_
  refine Seq.val (Runs.eqlI rfl rfl rfl) rfl rfl rfl ?_
  refine Seq.val (Runs.assign rfl rfl) rfl rfl rfl ?_
  refine Seq.nil ?_
  refine Post.weak (F' := [(0, _), (1, _), (3, _), (4, _), (5, _), (12, _), (13, _), (45, _), (71, _)]) ⟨rfl, rfl, rfl, rfl, rfl, rfl, rfl, rfl, rfl, trivial⟩ ?_
  refine Post.then_ ?_
  refine Cd.cond rfl (fun h => ?_) (fun h => ?_)
  · obtain ⟨m, hm, hm9⟩ : ∃ m : Nat, a.n % 18446744073709551616 % 900 = (m : Int) ∧ m < 900 := ⟨(a.n % 18446744073709551616 % 900).toNat, by omega, by omega⟩
    have hP' := hP.least (n := (m : Int)) (by omega)
    obtain ⟨u, hu⟩ : ∃ u : Nat, a.n % 18446744073709551616 = (u : Int) := ⟨(a.n % 18446744073709551616).toNat, by omega⟩
    refine Cd.seq ?_
    refine Cd.region ?_
    refine Seq.val (Runs.fieldB 1 rfl rfl Tryz.underlying57 rfl (by kernel_rfl)) rfl rfl rfl ?_
    refine Seq.val (Runs.loadB rfl rfl Tryz.underlying3 rfl k3 rfl) rfl rfl rfl ?_
    refine Seq.val (Runs.convU (r := u) rfl rfl Tryz.underlying3 Tryz.underlying67 hu) rfl rfl rfl ?_
    refine Seq.val (Runs.remN rfl rfl rfl (by omega) (by omega)) rfl rfl rfl ?_
    have hum : (u : Int) % 900 = (m : Int) := by rw [← hu]; exact hm
    refine Seq.val (Runs.convI (r := (m : Int)) rfl rfl Tryz.underlying67 Tryz.underlying3 (by rw [hum]; exact wrapI (by omega) (by omega))) rfl rfl rfl ?_
    refine Seq.val (Runs.assign rfl rfl) rfl rfl rfl ?_
    refine Seq.nil ?_
    refine Post.weak (F' := [(0, _), (1, _), (3, _), (4, _), (5, _), (7, _), (12, _), (13, _), (45, _), (71, _)]) ⟨rfl, rfl, rfl, rfl, rfl, rfl, rfl, rfl, rfl, rfl, trivial⟩ ?_
    refine Post.then_ ?_
    refine Cd.seq ?_
    refine Cd.seq ?_
    refine Cd.region ?_
    refine Seq.val (Runs.move rfl rfl) rfl rfl rfl ?_
    refine Seq.val (Runs.move rfl rfl) rfl rfl rfl ?_
    refine Seq.val (Runs.nilCheck rfl rfl) rfl rfl rfl ?_
    refine Seq.val (Runs.fieldB 3 rfl rfl Tryz.underlying59 rfl (by kernel_rfl)) rfl rfl rfl ?_
    refine Seq.val (Runs.loadB rfl rfl Tryz.underlying3 rfl k90 rfl) rfl rfl rfl ?_
    refine Seq.val (Runs.gtr rfl rfl rfl) rfl rfl rfl ?_
    refine Seq.nil ?_
    refine Post.weak (F' := [(0, _), (1, _), (3, _), (4, _), (5, _), (7, _), (12, _), (13, _), (45, _), (71, _), (83, _)]) ⟨rfl, rfl, rfl, rfl, rfl, rfl, rfl, rfl, rfl, rfl, rfl, trivial⟩ ?_
    refine Post.then_ ?_
    refine Cd.cond rfl (fun h => ?_) (fun h => ?_)
    · have h : (W.num : Int) < (m : Int) := by simpa using h
      have hle : W.least (m : Int) = ⟨m, 0, 0, W.broken⟩ := by unfold Wl.least; rw [if_pos h, Int.toNat_natCast]
      refine Cd.seq ?_
      refine Cd.region ?_
      refine Seq.val (Runs.move rfl rfl) rfl rfl rfl ?_
      refine Seq.val (Runs.move rfl rfl) rfl rfl rfl ?_
      refine Seq.val (Runs.nilCheck rfl rfl) rfl rfl rfl ?_
      refine Seq.val (Runs.fieldB 3 rfl rfl Tryz.underlying59 rfl (by kernel_rfl)) rfl rfl rfl ?_
      refine Seq.store1 rfl rfl rfl (by kernel_rfl) rfl rfl k90 rfl rfl rfl ?_
      intro w2 pw2
      replace bf := bf.put k90 pw2 e90
      replace gv := gv.put k90 pw2 e90
      replace dk := dk.put k90 pw2 e90
      replace k6 := k6.put pw2 (by omega)
      replace own := own.put k90 pw2 e90
      replace k3 := k3.put pw2 (by omega)
      replace k90 := pw2.blk
      refine Seq.nil ?_
      refine Post.weak (F' := [(0, _), (1, _), (3, _), (4, _), (5, _), (7, _), (12, _), (13, _), (45, _), (71, _), (83, _)]) ⟨rfl, rfl, rfl, rfl, rfl, rfl, rfl, rfl, rfl, rfl, rfl, trivial⟩ ?_
      refine Post.then_ ?_
      refine Cd.region ?_
      refine Seq.val (Runs.move rfl rfl) rfl rfl rfl ?_
      refine Seq.val (Runs.nilCheck rfl rfl) rfl rfl rfl ?_
      refine Seq.val (Runs.fieldB 4 rfl rfl Tryz.underlying59 rfl (by kernel_rfl)) rfl rfl rfl ?_
      refine Seq.store1 rfl rfl rfl (by kernel_rfl) rfl rfl k90 rfl rfl rfl ?_
      intro w3 pw3
      replace bf := bf.put k90 pw3 e90
      replace gv := gv.put k90 pw3 e90
      replace dk := dk.put k90 pw3 e90
      replace k6 := k6.put pw3 (by omega)
      replace own := own.put k90 pw3 e90
      replace k3 := k3.put pw3 (by omega)
      replace k90 := pw3.blk
      refine Seq.nil ?_
      refine Post.weak (F' := [(0, _), (1, _), (3, _), (4, _), (5, _), (7, _), (12, _), (13, _), (45, _), (71, _), (83, _)]) ⟨rfl, rfl, rfl, rfl, rfl, rfl, rfl, rfl, rfl, rfl, rfl, trivial⟩ ?_
      refine Post.then_ ?_
      refine Cd.seq ?_
      have wk : WkAt _ B gd g6 D W := ⟨k6, dk⟩
      clear k6 dk
      refine Cd.weak (F' := [(0, _), (1, _), (3, _), (7, _), (12, _), (13, _), (45, _), (71, _), (83, _)]) ⟨rfl, rfl, rfl, rfl, rfl, rfl, rfl, rfl, rfl, trivial⟩ ?_
      refine Cd.drawJ 13 (by kernel_rfl) [] [5] (fun i h => by cases h) rfl rfl (.inl rfl) rfl (Lf B) (Lf.refl B) (fun _ _ _ => Lf.trans) (fun c w => WkAt w B gd g6 D (nthW W (W.least (m : Int)) c)) ?_
      intro w4 hw4 zw4
      replace bf := bf.step hw4
      replace gv := gv.step hw4
      replace k90 := k90.step hw4
      replace own := own.step hw4
      replace k3 := k3.step hw4
      replace wk := wk.step hw4
      refine ⟨wk, ?_⟩
      have zlt := k3.lt
      refine DJ.val rfl (Lf.refl B) rfl (fun w hG => Runs.move rfl rfl) rfl ?_
      refine DJ.val rfl (Lf.refl B) rfl (fun w hG => Runs.nilCheck rfl rfl) rfl ?_
      refine DJ.val rfl (Lf.refl B) rfl (fun w hG => Runs.fieldB 1 rfl rfl Tryz.underlying59 rfl (by kernel_rfl)) rfl ?_
      refine DJ.val rfl (Lf.refl B) rfl (fun w hG => Runs.loadB rfl rfl Tryz.underlying28 rfl (k90.lf hG) rfl) rfl ?_
      refine DJ.val rfl (Lf.refl B) rfl (fun w hG => Runs.move rfl rfl) rfl ?_
      refine DJ.chain 0 rfl rfl (fun w => Enters.func rfl rfl rfl (run_enter Tryz.func30 (by kernel_rfl) rfl)) rfl (fun w hG wk => least_j B g6 gd D (m : Int) W w e6 wk (by omega)) ?_
      refine DJ.val rfl (Lf.refl B) rfl (fun w hG => Runs.move rfl rfl) rfl ?_
      refine DJ.val rfl (Lf.refl B) rfl (fun w hG => Runs.nilCheck rfl rfl) rfl ?_
      refine DJ.val rfl (Lf.refl B) rfl (fun w hG => Runs.fieldB 3 rfl rfl Tryz.underlying59 rfl (by kernel_rfl)) rfl ?_
      refine DJ.val rfl (Lf.refl B) rfl (fun w hG => Runs.loadB rfl rfl Tryz.underlying3 rfl (k90.lf hG) rfl) rfl ?_
      refine DJ.val rfl (Lf.refl B) rfl (fun w hG => Runs.eqlI rfl rfl rfl) rfl ?_
      refine DJ.val rfl (Lf.refl B) rfl (fun w hG => Runs.assign rfl rfl) rfl ?_
      refine DJ.val rfl (Lf.refl B) rfl (fun w hG => Runs.assign rfl rfl) rfl ?_
      refine DJ.nil ?_
      refine FinX.done (F' := [(0, _), (1, _), (3, _), (4, _), (5, _), (7, _), (12, _), (13, _), (45, _), (71, _), (83, _)]) rfl ⟨rfl, rfl, rfl, rfl, rfl, rfl, rfl, rfl, rfl, rfl, rfl, trivial⟩ ?_
      intro w5 hw5 fw5
      replace bf := bf.lf hw5
      replace gv := gv.lf hw5
      replace k90 := k90.lf hw5
      replace own := own.lf hw5
      replace k3 := k3.lf hw5
      clear wk
      have wk := fw5
      refine Seq.nil ?_
      refine Post.weak (F' := [(0, _), (1, _), (3, _), (4, _), (5, _), (7, _), (12, _), (13, _), (45, _), (71, _), (83, _)]) ⟨rfl, rfl, rfl, rfl, rfl, rfl, rfl, rfl, rfl, rfl, rfl, trivial⟩ ?_
      refine Post.then_ ?_
      refine Cd.ret ?_
      refine Post.block_ret ?_
      refine Post.then_ret ?_
      refine Post.end2 rfl rfl rfl (.inl rfl) ?_
      have wk : WkAt _ B gd g6 D (W.least (m : Int)) := wk
      refine ⟨D, W.least (m : Int), segs, ?_, hP', ⟨⟨gd, g6, _, ?_, wk.dk, wk.k, own, e6⟩, e90⟩, bf⟩
      · rw [hle]; simp
      · rw [hle]; exact k90
    · have h : ¬ ((W.num : Int) < (m : Int)) := by simpa using h
      have hle : W.least (m : Int) = W := by unfold Wl.least; rw [if_neg h]
      refine Cd.skip ?_
      refine Post.then_ ?_
      refine Cd.seq ?_
      have wk : WkAt _ B gd g6 D W := ⟨k6, dk⟩
      clear k6 dk
      refine Cd.weak (F' := [(0, _), (1, _), (3, _), (7, _), (12, _), (13, _), (45, _), (71, _), (83, _)]) ⟨rfl, rfl, rfl, rfl, rfl, rfl, rfl, rfl, rfl, trivial⟩ ?_
      refine Cd.drawJ 13 (by kernel_rfl) [] [5] (fun i h => by cases h) rfl rfl (.inl rfl) rfl (Lf B) (Lf.refl B) (fun _ _ _ => Lf.trans) (fun c w => WkAt w B gd g6 D (nthW W (W.least (m : Int)) c)) ?_
      intro w2 hw2 zw2
      replace bf := bf.step hw2
      replace gv := gv.step hw2
      replace k90 := k90.step hw2
      replace own := own.step hw2
      replace k3 := k3.step hw2
      replace wk := wk.step hw2
      refine ⟨wk, ?_⟩
      have zlt := k3.lt
      refine DJ.val rfl (Lf.refl B) rfl (fun w hG => Runs.move rfl rfl) rfl ?_
      refine DJ.val rfl (Lf.refl B) rfl (fun w hG => Runs.nilCheck rfl rfl) rfl ?_
      refine DJ.val rfl (Lf.refl B) rfl (fun w hG => Runs.fieldB 1 rfl rfl Tryz.underlying59 rfl (by kernel_rfl)) rfl ?_
      refine DJ.val rfl (Lf.refl B) rfl (fun w hG => Runs.loadB rfl rfl Tryz.underlying28 rfl (k90.lf hG) rfl) rfl ?_
      refine DJ.val rfl (Lf.refl B) rfl (fun w hG => Runs.move rfl rfl) rfl ?_
      refine DJ.chain 0 rfl rfl (fun w => Enters.func rfl rfl rfl (run_enter Tryz.func30 (by kernel_rfl) rfl)) rfl (fun w hG wk => least_j B g6 gd D (m : Int) W w e6 wk (by omega)) ?_
      refine DJ.val rfl (Lf.refl B) rfl (fun w hG => Runs.move rfl rfl) rfl ?_
      refine DJ.val rfl (Lf.refl B) rfl (fun w hG => Runs.nilCheck rfl rfl) rfl ?_
      refine DJ.val rfl (Lf.refl B) rfl (fun w hG => Runs.fieldB 3 rfl rfl Tryz.underlying59 rfl (by kernel_rfl)) rfl ?_
      refine DJ.val rfl (Lf.refl B) rfl (fun w hG => Runs.loadB rfl rfl Tryz.underlying3 rfl (k90.lf hG) rfl) rfl ?_
      refine DJ.val rfl (Lf.refl B) rfl (fun w hG => Runs.eqlI rfl rfl rfl) rfl ?_
      refine DJ.val rfl (Lf.refl B) rfl (fun w hG => Runs.assign rfl rfl) rfl ?_
      refine DJ.val rfl (Lf.refl B) rfl (fun w hG => Runs.assign rfl rfl) rfl ?_
      refine DJ.nil ?_
      refine FinX.done (F' := [(0, _), (1, _), (3, _), (4, _), (5, _), (7, _), (12, _), (13, _), (45, _), (71, _), (83, _)]) rfl ⟨rfl, rfl, rfl, rfl, rfl, rfl, rfl, rfl, rfl, rfl, rfl, trivial⟩ ?_
      intro w3 hw3 fw3
      replace bf := bf.lf hw3
      replace gv := gv.lf hw3
      replace k90 := k90.lf hw3
      replace own := own.lf hw3
      replace k3 := k3.lf hw3
      clear wk
      have wk := fw3
      refine Seq.nil ?_
      refine Post.weak (F' := [(0, _), (1, _), (3, _), (4, _), (5, _), (7, _), (12, _), (13, _), (45, _), (71, _), (83, _)]) ⟨rfl, rfl, rfl, rfl, rfl, rfl, rfl, rfl, rfl, rfl, rfl, trivial⟩ ?_
      refine Post.then_ ?_
      refine Cd.ret ?_
      refine Post.block_ret ?_
      refine Post.then_ret ?_
      refine Post.end2 rfl rfl rfl (.inl rfl) ?_
      have wk : WkAt _ B gd g6 D (W.least (m : Int)) := wk
      refine ⟨D, W.least (m : Int), segs, ?_, hP', ⟨⟨gd, g6, _, ?_, wk.dk, wk.k, own, e6⟩, e90⟩, bf⟩
      · rw [hle]; simp
      · rw [hle]; exact k90
  refine Cd.seq ?_
  refine Cd.region ?_
  refine Seq.val (Runs.eqlI rfl rfl rfl) rfl rfl rfl ?_
  refine Seq.val (Runs.assign rfl rfl) rfl rfl rfl ?_
  refine Seq.nil ?_
  refine Post.weak (F' := [(0, _), (1, _), (3, _), (4, _), (5, _), (12, _), (13, _), (45, _), (71, _), (102, _)]) ⟨rfl, rfl, rfl, rfl, rfl, rfl, rfl, rfl, rfl, rfl, trivial⟩ ?_
  refine Post.then_ ?_
  refine Cd.cond rfl (fun h => ?_) (fun h => ?_)
  · obtain ⟨D', segs', hA, hP', hrec⟩ := hP.retire a.n
    have hown := hP.wl.log.own_nm
    refine Cd.seq ?_
    refine Cd.draw 6 (by kernel_rfl) [] (.inl rfl) rfl Grow Grow.refl (fun _ _ _ => Grow.trans) ?_
    intro w2 hw2 zw2
    replace bf := bf.step hw2
    replace gv := gv.step hw2
    replace k90 := k90.step hw2
    replace dk := dk.step hw2
    replace k6 := k6.step hw2
    replace own := own.step hw2
    replace k3 := k3.step hw2
    have zlt := k3.lt
    refine Dr.val Grow.refl rfl (fun w hG => Runs.move rfl rfl) rfl ?_
    refine Dr.val Grow.refl rfl (fun w hG => Runs.nilCheck rfl rfl) rfl ?_
    refine Dr.val Grow.refl rfl (fun w hG => Runs.fieldB 1 rfl rfl Tryz.underlying59 rfl (by kernel_rfl)) rfl ?_
    refine Dr.val Grow.refl rfl (fun w hG => Runs.loadB rfl rfl Tryz.underlying28 rfl (k90.step hG) rfl) rfl ?_
    refine Dr.val Grow.refl rfl (fun w hG => Runs.fieldB 1 rfl rfl Tryz.underlying57 rfl (by kernel_rfl)) rfl ?_
    refine Dr.val Grow.refl rfl (fun w hG => Runs.loadB rfl rfl Tryz.underlying3 rfl (k3.step hG) rfl) rfl ?_
    refine Dr.nil ?_
    refine FinX.done (F' := [(0, _), (1, _), (3, _), (4, _), (5, _), (12, _), (13, _), (45, _), (71, _), (102, _), (107, _), (109, _)]) rfl ⟨rfl, rfl, rfl, rfl, rfl, rfl, rfl, rfl, rfl, rfl, rfl, rfl, trivial⟩ ?_
    intro w3 hw3 fw3
    replace bf := bf.step hw3
    replace gv := gv.step hw3
    replace k90 := k90.step hw3
    replace dk := dk.step hw3
    replace k6 := k6.step hw3
    replace own := own.step hw3
    replace k3 := k3.step hw3
    refine Seq.call (Enters.func rfl rfl rfl (run_enter Tryz.func28 (by kernel_rfl) rfl)) rfl rfl rfl (retire_any B g6 gd D [119] a.n W _ gv hgB e6 k6 dk (byt_one (by omega)) (by decide) hown (by omega)) ?_
    clear k6 dk
    rintro e w4 ⟨rfl, k6, dk, fw4⟩
    refine ⟨_, rfl, ?_⟩
    replace bf := bf.lf fw4
    replace gv := gv.lf fw4
    replace k90 := k90.lf fw4
    replace own := own.lf fw4
    replace k3 := k3.lf fw4
    rw [hA] at k6 dk
    rw [hA]
    refine Seq.val (Runs.assign rfl rfl) rfl rfl rfl ?_
    refine Seq.nil ?_
    refine Post.weak (F' := [(0, _), (1, _), (3, _), (4, _), (5, _), (8, _), (12, _), (13, _), (45, _), (71, _), (102, _)]) ⟨rfl, rfl, rfl, rfl, rfl, rfl, rfl, rfl, rfl, rfl, rfl, trivial⟩ ?_
    refine Post.then_ ?_
    refine Cd.seq ?_
    refine Cd.seq ?_
    refine Cd.region ?_
    refine Seq.val (Runs.move rfl rfl) rfl rfl rfl ?_
    refine Seq.val (Runs.eqlI rfl rfl rfl) rfl rfl rfl ?_
    refine Seq.nil ?_
    refine Post.weak (F' := [(0, _), (1, _), (3, _), (4, _), (5, _), (8, _), (12, _), (13, _), (45, _), (71, _), (102, _), (112, _)]) ⟨rfl, rfl, rfl, rfl, rfl, rfl, rfl, rfl, rfl, rfl, rfl, rfl, trivial⟩ ?_
    refine Post.then_ ?_
    refine Cd.condF rfl rfl ?_
    refine Cd.skip ?_
    refine Post.then_ ?_
    refine Cd.seq ?_
    refine Cd.region ?_
    refine Seq.val (Runs.assign rfl rfl) rfl rfl rfl ?_
    refine Seq.nil ?_
    refine Post.weak (F' := [(0, _), (1, _), (3, _), (4, _), (5, _), (8, _), (9, _), (12, _), (13, _), (45, _), (71, _), (102, _), (112, _)]) ⟨rfl, rfl, rfl, rfl, rfl, rfl, rfl, rfl, rfl, rfl, rfl, rfl, rfl, trivial⟩ ?_
    refine Post.then_ ?_
    refine Cd.seq ?_
    refine Cd.seq ?_
    refine Cd.region ?_
    refine Seq.val (Runs.assign rfl rfl) rfl rfl rfl ?_
    refine Seq.nil ?_
    refine Post.weak (F' := [(0, _), (1, _), (3, _), (4, _), (5, _), (8, _), (9, _), (10, _), (12, _), (13, _), (45, _), (71, _), (102, _), (112, _)]) ⟨rfl, rfl, rfl, rfl, rfl, rfl, rfl, rfl, rfl, rfl, rfl, rfl, rfl, rfl, trivial⟩ ?_
    refine Post.then_ ?_
    refine Cd.block ?_
    obtain ⟨L, hL⟩ : ∃ L, L = recsOf segs := ⟨_, rfl⟩
    obtain ⟨lim, hlim⟩ : ∃ lim, lim = min a.n (W.num : Int) := ⟨_, rfl⟩
    rw [← hL] at own k90 hrl hrec
    rw [← hlim] at hrec
    obtain ⟨A0', c0', hv0, hr0⟩ := own.reads
    injection hv0 with e1 _ e2
    subst e1 e2
    clear own
    have bel := Below.refl w4.heap.size w4
    have own9 := Own.nil w4 w4.heap.size 36 2
    have hBw4 := dk.size
    refine Cd.loop (σ := Nat × Value) (fun q => [(0, .pointer (some ⟨gr, 0, none⟩)), (3, .pointer (some ⟨g3, 0, none⟩)), (8, .int .i64 0), (9, q.2), (10, .int .i64 (q.1 : Int))]) (fun q wr => q.1 ≤ L.length ∧ Below w4.heap.size w4 wr ∧ Own wr w4.heap.size 36 2 q.2 ((L.take q.1).filter fun r => decide (lim ≤ (r.1 : Int))).length (recsV ((L.take q.1).filter fun r => decide (lim ≤ (r.1 : Int))))) (fun q => L.length - q.1) (0, .slice none 0 0) ⟨Nat.zero_le _, bel, own9⟩ ⟨rfl, rfl, rfl, rfl, rfl, trivial⟩ ?_
    clear bel own9
    rintro ⟨j, v9⟩ wr ⟨hj, bel, own9⟩
    simp only at hj own9
    replace bf := bf.step bel
    replace gv := gv.step bel
    replace k90 := k90.step bel
    replace dk := dk.step bel
    replace k6 := k6.step bel
    replace k3 := k3.step bel
    obtain ⟨A9, c9, rfl, -⟩ := own9.reads
    have hfl9 : ((L.take j).filter fun r => decide (lim ≤ (r.1 : Int))).length ≤ j := Nat.le_trans (List.length_filter_le _ _) (by rw [List.length_take]; omega)
    show Cd _ _ _ _ [(0, .pointer (some ⟨gr, 0, none⟩)), (3, .pointer (some ⟨g3, 0, none⟩)), (8, .int .i64 0), (9, .slice A9 ((L.take j).filter fun r => decide (lim ≤ (r.1 : Int))).length c9), (10, .int .i64 (j : Int))] _
    refine Cd.seq ?_
    refine Cd.seq ?_
    refine Cd.region ?_
    refine Seq.val (Runs.move rfl rfl) rfl rfl rfl ?_
    refine Seq.val (Runs.move rfl rfl) rfl rfl rfl ?_
    refine Seq.val (Runs.nilCheck rfl rfl) rfl rfl rfl ?_
    refine Seq.val (Runs.fieldB 2 rfl rfl Tryz.underlying59 rfl (by kernel_rfl)) rfl rfl rfl ?_
    refine Seq.val (Runs.loadB rfl rfl Tryz.underlying29 rfl k90 rfl) rfl rfl rfl ?_
    refine Seq.val (Runs.len rfl rfl Tryz.underlying29) rfl rfl rfl ?_
    refine Seq.val (Runs.lss rfl rfl rfl) rfl rfl rfl ?_
    refine Seq.nil ?_
    refine Post.weak (F' := [(0, _), (3, _), (8, _), (9, _), (10, _), (119, _)]) ⟨rfl, rfl, rfl, rfl, rfl, rfl, trivial⟩ ?_
    refine Post.then_ ?_
    refine Cd.condD rfl (fun hc => ?_) (fun hc => ?_)
    · obtain ⟨r, hr⟩ : ∃ r, L[j]? = some r := ⟨_, List.getElem?_eq_getElem (by omega)⟩
      obtain ⟨ad, rfl, -, -, -⟩ := hr0.rec (Below.refl _ _) hr
      have hcell : ∀ wx, Below w4.heap.size w4 wx → ∀ (i : Nat) (u : Value), (recV r)[i]? = some u → wx.cell? ((ad.add (j * 2)).add i) = some u := fun wx hb i u hu => by
        obtain ⟨ad', e, -, -, hcl⟩ := hr0.rec hb hr
        injection e with e
        subst e
        exact hcl i u hu
      have htk : L.take (j + 1) = L.take j ++ [r] := take_last hr
      have hlimW : min a.n (W.num : Int) = lim := hlim.symm
      refine Cd.skip ?_
      refine Post.then_ ?_
      refine Cd.seq ?_
      refine Cd.block ?_
      refine Cd.seq ?_
      refine Cd.draw 16 (by kernel_rfl) [] (.inl rfl) rfl Grow Grow.refl (fun _ _ _ => Grow.trans) ?_
      intro w5 hw5 zw5
      replace bf := bf.step hw5
      replace gv := gv.step hw5
      replace dk := dk.step hw5
      replace k6 := k6.step hw5
      replace bel := bel.step hw5
      replace own9 := own9.step hw5
      replace k3 := k3.step hw5
      replace k90 := k90.step hw5
      have zbel := bel.size
      have zlt := k90.lt
      refine Dr.val Grow.refl rfl (fun w hG => Runs.move rfl rfl) rfl ?_
      refine Dr.val Grow.refl rfl (fun w hG => Runs.nilCheck rfl rfl) rfl ?_
      refine Dr.val Grow.refl rfl (fun w hG => Runs.fieldB 2 rfl rfl Tryz.underlying59 rfl (by kernel_rfl)) rfl ?_
      refine Dr.val Grow.refl rfl (fun w hG => Runs.loadB rfl rfl Tryz.underlying29 rfl (k90.step hG) rfl) rfl ?_
      refine Dr.val Grow.refl rfl (fun w hG => Runs.move rfl rfl) rfl ?_
      refine Dr.val Grow.refl rfl (fun w hG => Runs.indexN rfl rfl rfl Tryz.underlying29 (s := 2) (by kernel_rfl) (j := j) rfl (by omega)) rfl ?_
      refine Dr.val Grow.refl rfl (fun w hG => Runs.fieldA 0 rfl rfl Tryz.underlying36 rfl (by kernel_rfl)) rfl ?_
      refine Dr.val Grow.refl rfl (fun w hG => Runs.load1 rfl rfl Tryz.underlying3 rfl (hcell w (bel.step hG) 0 _ rfl)) rfl ?_
      refine Dr.val Grow.refl rfl (fun w hG => Runs.fieldB 1 rfl rfl Tryz.underlying57 rfl (by kernel_rfl)) rfl ?_
      refine Dr.val Grow.refl rfl (fun w hG => Runs.loadB rfl rfl Tryz.underlying3 rfl (k3.step hG) rfl) rfl ?_
      refine Dr.val Grow.refl rfl (fun w hG => Runs.move rfl rfl) rfl ?_
      refine Dr.val Grow.refl rfl (fun w hG => Runs.nilCheck rfl rfl) rfl ?_
      refine Dr.val Grow.refl rfl (fun w hG => Runs.fieldB 3 rfl rfl Tryz.underlying59 rfl (by kernel_rfl)) rfl ?_
      refine Dr.val Grow.refl rfl (fun w hG => Runs.loadB rfl rfl Tryz.underlying3 rfl (k90.step hG) rfl) rfl ?_
      refine Dr.val Grow.refl rfl (fun w hG => Runs.min2 rfl rfl rfl) rfl ?_
      refine Dr.val Grow.refl rfl (fun w hG => Runs.geq rfl rfl rfl) rfl ?_
      refine Dr.nil ?_
      refine FinX.done (F' := [(0, _), (3, _), (8, _), (9, _), (10, _), (119, _), (137, _)]) rfl ⟨rfl, rfl, rfl, rfl, rfl, rfl, rfl, trivial⟩ ?_
      intro w6 hw6 fw6
      replace bf := bf.step hw6
      replace gv := gv.step hw6
      replace dk := dk.step hw6
      replace k6 := k6.step hw6
      replace bel := bel.step hw6
      replace own9 := own9.step hw6
      replace k3 := k3.step hw6
      replace k90 := k90.step hw6
      refine Seq.nil ?_
      refine Post.weak (F' := [(0, _), (3, _), (8, _), (9, _), (10, _), (119, _), (137, _)]) ⟨rfl, rfl, rfl, rfl, rfl, rfl, rfl, trivial⟩ ?_
      refine Post.then_ ?_
      rw [hlimW]
      refine Cd.cond rfl (fun h => ?_) (fun h => ?_)
      · have h : lim ≤ (r.1 : Int) := by simpa using h
        have hF : (L.take (j + 1)).filter (fun r => decide (lim ≤ (r.1 : Int))) = (L.take j).filter (fun r => decide (lim ≤ (r.1 : Int))) ++ [r] := by
          rw [htk, List.filter_append]
          congr 1
          simp [h]
        refine Cd.region ?_
        refine Seq.val (Runs.move rfl rfl) rfl rfl rfl ?_
        refine Seq.val (Runs.move rfl rfl) rfl rfl rfl ?_
        refine Seq.val (Runs.nilCheck rfl rfl) rfl rfl rfl ?_
        refine Seq.val (Runs.fieldB 2 rfl rfl Tryz.underlying59 rfl (by kernel_rfl)) rfl rfl rfl ?_
        refine Seq.val (Runs.loadB rfl rfl Tryz.underlying29 rfl k90 rfl) rfl rfl rfl ?_
        refine Seq.val (Runs.move rfl rfl) rfl rfl rfl ?_
        refine Seq.val (Runs.indexN rfl rfl rfl Tryz.underlying29 (s := 2) (by kernel_rfl) (j := j) rfl (by omega)) rfl rfl rfl ?_
        refine Seq.val (Runs.loadCs rfl rfl Tryz.underlying36 rfl (m := 2) (ps := recV r) (by kernel_rfl) rfl (fun i u hu => hcell _ bel i u hu)) rfl rfl rfl ?_
        refine Seq.slice (vs := [_]) (s := 2) rfl rfl rfl Tryz.underlying29 (by kernel_rfl) (zero_wal_Rec) (by omega) (by omega) ⟨rfl, trivial⟩ rfl rfl rfl ?_
        intro g146 w7 n146
        have e146 := Nat.le_trans bel.size n146.ge
        have l146 := Nat.lt_of_lt_of_le k90.lt n146.ge
        replace bf := bf.step n146.below
        replace gv := gv.step n146.below
        replace dk := dk.step n146.below
        replace k6 := k6.step n146.below
        replace bel := bel.step n146.below
        replace own9 := own9.step n146.below
        replace k3 := k3.step n146.below
        replace k90 := k90.step n146.below
        have k146 := n146.blk
        have hrx := Reads.blk (size := 2) k146 1 rfl
        refine Seq.append rfl rfl rfl Tryz.underlying29 (by kernel_rfl) zero_wal_Rec rfl (by decide) (b := 24) (by kernel_rfl) own9 hrx (ones_recV r) bel.size (by simp only [maxLen]; omega) (by omega) rfl rfl rfl ?_
        intro v2 wb own2 ha
        replace bel := bel.trans ha.below
        replace own2 : Own wb w4.heap.size 36 2 v2 (((L.take j).filter fun r => decide (lim ≤ (r.1 : Int))).length + 1) (recsV ((L.take j).filter fun r => decide (lim ≤ (r.1 : Int))) ++ recsV [r]) := own2
        have hFl : ((L.take (j + 1)).filter fun r => decide (lim ≤ (r.1 : Int))).length = ((L.take j).filter fun r => decide (lim ≤ (r.1 : Int))).length + 1 := by rw [hF]; simp
        rw [← recsV_app, ← hF, ← hFl] at own2
        clear own9 k146 hrx ha bf gv dk k6 k3 k90
        refine Seq.val (Runs.assign rfl rfl) rfl rfl rfl ?_
        refine Seq.nil ?_
        refine Post.weak (F' := [(0, _), (3, _), (8, _), (9, _), (10, _), (119, _), (137, _)]) ⟨rfl, rfl, rfl, rfl, rfl, rfl, rfl, trivial⟩ ?_
        refine Post.block_normal ?_
        refine Post.then_ ?_
        refine Cd.region ?_
        refine Seq.val (Runs.move rfl rfl) rfl rfl rfl ?_
        refine Seq.val (Runs.addI rfl rfl rfl (by omega) (by omega)) rfl rfl rfl ?_
        refine Seq.val (Runs.assign rfl rfl) rfl rfl rfl ?_
        refine Seq.nil ?_
        refine Post.weak (F' := [(0, _), (3, _), (8, _), (9, _), (10, _), (119, _), (137, _)]) ⟨rfl, rfl, rfl, rfl, rfl, rfl, rfl, trivial⟩ ?_
        exact Post.round (j + 1, v2) ⟨rfl, rfl, rfl, rfl, int_at (by omega), trivial⟩ ⟨by simp only; omega, bel, own2⟩ (by simp only; omega)
      · have h : ¬ (lim ≤ (r.1 : Int)) := by simpa using h
        have hF : (L.take (j + 1)).filter (fun r => decide (lim ≤ (r.1 : Int))) = (L.take j).filter (fun r => decide (lim ≤ (r.1 : Int))) := by
          rw [htk, List.filter_append]
          simp [h]
        refine Cd.skip ?_
        refine Post.block_normal ?_
        refine Post.then_ ?_
        refine Cd.region ?_
        refine Seq.val (Runs.move rfl rfl) rfl rfl rfl ?_
        refine Seq.val (Runs.addI rfl rfl rfl (by omega) (by omega)) rfl rfl rfl ?_
        refine Seq.val (Runs.assign rfl rfl) rfl rfl rfl ?_
        refine Seq.nil ?_
        refine Post.weak (F' := [(0, _), (3, _), (8, _), (9, _), (10, _), (119, _), (137, _)]) ⟨rfl, rfl, rfl, rfl, rfl, rfl, rfl, trivial⟩ ?_
        refine Post.round (j + 1, .slice A9 ((L.take j).filter fun r => decide (lim ≤ (r.1 : Int))).length c9) ⟨rfl, rfl, rfl, rfl, int_at (by omega), trivial⟩ ⟨by simp only; omega, bel, ?_⟩ (by simp only; omega)
        simp only
        rw [hF]
        exact own9
    · obtain rfl : j = L.length := by omega
      rw [List.take_length] at own9
      rw [List.take_length]
      rw [← hrec] at own9
      rw [← hrec]
      refine Cd.exit ?_
      refine Post.then_exit ?_
      refine Post.round_exit ?_
      refine Post.block_exit ?_
      refine Post.then_ ?_
      refine Cd.seq ?_
      refine Cd.region ?_
      refine Seq.val (Runs.move rfl rfl) rfl rfl rfl ?_
      refine Seq.val (Runs.move rfl rfl) rfl rfl rfl ?_
      refine Seq.val (Runs.nilCheck rfl rfl) rfl rfl rfl ?_
      refine Seq.val (Runs.fieldB 2 rfl rfl Tryz.underlying59 rfl (by kernel_rfl)) rfl rfl rfl ?_
      refine Seq.store1 rfl rfl rfl (by kernel_rfl) rfl rfl k90 rfl rfl rfl ?_
      intro w5 pw5
      replace bf := bf.put k90 pw5 e90
      replace gv := gv.put k90 pw5 e90
      replace dk := dk.put k90 pw5 e90
      replace k6 := k6.put pw5 (by omega)
      replace own9 := own9.put k90 pw5 e90
      replace k3 := k3.put pw5 (by omega)
      replace k90 := pw5.blk
      refine Seq.nil ?_
      refine Post.weak (F' := [(0, _), (3, _), (8, _), (9, _), (10, _), (119, _)]) ⟨rfl, rfl, rfl, rfl, rfl, rfl, trivial⟩ ?_
      refine Post.then_ ?_
      refine Cd.seq ?_
      refine Cd.region ?_
      refine Seq.val (Runs.move rfl rfl) rfl rfl rfl ?_
      refine Seq.val (Runs.eqlI rfl rfl rfl) rfl rfl rfl ?_
      refine Seq.val (Runs.assign rfl rfl) rfl rfl rfl ?_
      refine Seq.val (Runs.assign rfl rfl) rfl rfl rfl ?_
      refine Seq.nil ?_
      refine Post.weak (F' := [(0, _), (3, _), (4, _), (5, _), (8, _), (9, _), (10, _), (119, _)]) ⟨rfl, rfl, rfl, rfl, rfl, rfl, rfl, rfl, trivial⟩ ?_
      refine Post.then_ ?_
      refine Cd.ret ?_
      refine Post.block_ret ?_
      refine Post.then_ret ?_
      refine Post.end2 rfl rfl rfl (.inl rfl) ?_
      exact ⟨D', W, segs', rfl, hP', ⟨⟨gd, g6, _, k90, dk, k6, own9.mono hBw4, e6⟩, e90⟩, bf⟩
  have hP' := hP.open_.2
  refine Cd.skip ?_
  refine Post.block_normal ?_
  refine Post.then_ ?_
  refine Cd.seq ?_
  refine Cd.region ?_
  refine Seq.val (Runs.move rfl rfl) rfl rfl rfl ?_
  refine Seq.call (Enters.func rfl rfl rfl (run_enter Tryz.func47 (by kernel_rfl) rfl)) rfl rfl rfl (opened_any B gr D W segs k _ gv hgB hP (by omega) ⟨⟨gd, g6, _, k90, dk, k6, own, e6⟩, e90⟩) ?_
  rintro e w9 ⟨rfl, hR, f9⟩
  refine ⟨_, rfl, ?_⟩
  replace bf := bf.bf f9
  clear k90 dk k6 own gv k3
  refine Seq.val (Runs.assign rfl rfl) rfl rfl rfl ?_
  refine Seq.val (Runs.assign rfl rfl) rfl rfl rfl ?_
  refine Seq.nil ?_
  refine Post.weak (F' := [(0, _), (1, _), (3, _), (4, _), (5, _), (12, _), (13, _), (45, _), (71, _), (102, _)]) ⟨rfl, rfl, rfl, rfl, rfl, rfl, rfl, rfl, rfl, rfl, trivial⟩ ?_
  refine Post.then_ ?_
  refine Cd.ret ?_
  refine Post.end2 rfl rfl rfl (.inl rfl) ?_
  exact ⟨D, _, segs, rfl, hP', hR, bf⟩
end Go.Proofs.YtnlepoplncjliaaGreatDoor

namespace Go.Proofs.YtnlepoplncjliaaGreatDoor
open Go.RowKit

/-- Acts, laid flat. -/
def acsV (l : List ActV) : List Value := l.flatMap ActV.cs
theorem acsV_at {l : List ActV} {i : Nat} {r : ActV} (h : l[i]? = some r) : ∀ (j : Nat) (v : Value), r.cs[j]? = some v → (acsV l)[i * 3 + j]? = some v := by
  intro j v hj
  have hj2 : j < 3 := (List.getElem?_eq_some_iff.1 hj).1
  induction l generalizing i with
  | nil => cases h
  | cons x l ih =>
    have e : acsV (x :: l) = x.cs ++ acsV l := by simp [acsV]
    have hx : x.cs.length = 3 := rfl
    cases i with
    | zero =>
      injection h with h
      subst h
      rw [e, Nat.zero_mul, Nat.zero_add, List.getElem?_append_left (by omega)]
      exact hj
    | succ i =>
      rw [e, List.getElem?_append_right (by omega)]
      have := ih (i := i) (by simpa using h)
      rw [show (i + 1) * 3 + j - x.cs.length = i * 3 + j by omega]
      exact this
theorem acsV_len (a : List ActV) : (acsV a).length = a.length * 3 := by
  induction a with
  | nil => rfl
  | cons x a ih => simp only [acsV, List.flatMap_cons, List.length_append, List.length_cons] at ih ⊢; rw [ih]; simp [ActV.cs]; omega
theorem Reads.act {w wr : World} {B n i : Nat} {A : Option Addr} {l : List ActV} {r : ActV} (h : Reads w B 3 A n (acsV l)) (hb : Below B w wr) (hf : l[i]? = some r) : ∃ ad, A = some ad ∧ ad.block < B ∧ i < n ∧ ∀ (j : Nat) (v : Value), r.cs[j]? = some v → wr.cell? ((ad.add (i * 3)).add j) = some v := by
  have hl := h.1
  rw [acsV_len] at hl
  have hi := (List.getElem?_eq_some_iff.1 hf).1
  have hin : i < n := by omega
  obtain ⟨ad, rfl, hbl, hc⟩ := h.2 (by omega)
  exact ⟨ad, rfl, hbl, hin, fun j v hj => by
    rw [addr_add2]
    exact (hb.cell (by rw [block_of_add]; exact hbl)).trans (hc _ _ (acsV_at hf j v hj))⟩
/-- Whether there is more than is asked of. -/
def greatL (l : List ActV) : Bool := decide (20 < l.length) || l.any fun a => decide (300 < a.data.length)
theorem great_any (A : Option Addr) (n c : Nat) (l : List ActV) (w : World) (hr : Reads w w.heap.size 3 A n (acsV l)) :
    Calls Tryz.prog 23 #[.slice A n c] w fun e w' => e = .returned (.bool (greatL l)) ∧ Grow w w' := by
  have bel := Below.refl w.heap.size w
  have hl : l.length = n := by have := hr.1; rw [acsV_len] at this; omega
  refine Calls.start 20 Tryz.func23 rfl rfl rfl ?_
  refine Cd.seq ?_
  refine Cd.region ?_
  refine Seq.val (Runs.assign rfl rfl) rfl rfl rfl ?_
  refine Seq.nil ?_
  refine Post.weak (F' := [(0, _), (2, _)]) ⟨rfl, rfl, trivial⟩ ?_
  refine Post.then_ ?_
  refine Cd.seq ?_
  refine Cd.seq ?_
  refine Cd.region ?_
  refine Seq.val (Runs.move rfl rfl) rfl rfl rfl ?_
  refine Seq.val (Runs.len rfl rfl Tryz.underlying50) rfl rfl rfl ?_
  refine Seq.val (Runs.gtr rfl rfl rfl) rfl rfl rfl ?_
  refine Seq.nil ?_
  refine Post.weak (F' := [(0, _), (2, _), (6, _)]) ⟨rfl, rfl, rfl, trivial⟩ ?_
  refine Post.then_ ?_
  refine Cd.cond rfl (fun h => ?_) (fun h => ?_)
  · have h : (20 : Int) < (n : Int) := by simpa using h
    have hS : greatL l = true := by unfold greatL; rw [decide_eq_true (by omega)]; rfl
    rw [hS]
    refine Cd.seq ?_
    refine Cd.region ?_
    refine Seq.val (Runs.assign rfl rfl) rfl rfl rfl ?_
    refine Seq.nil ?_
    refine Post.weak (F' := [(0, _), (2, _), (6, _)]) ⟨rfl, rfl, rfl, trivial⟩ ?_
    refine Post.then_ ?_
    refine Cd.ret ?_
    refine Post.then_ret ?_
    refine Post.end1 rfl rfl (.inl rfl) ?_
    exact ⟨rfl, bel⟩
  have h : ¬ ((20 : Int) < (n : Int)) := by simpa using h
  refine Cd.skip ?_
  refine Post.then_ ?_
  refine Cd.seq ?_
  refine Cd.seq ?_
  refine Cd.region ?_
  refine Seq.val (Runs.assign rfl rfl) rfl rfl rfl ?_
  refine Seq.nil ?_
  refine Post.weak (F' := [(0, _), (2, _), (3, _), (6, _)]) ⟨rfl, rfl, rfl, rfl, trivial⟩ ?_
  refine Post.then_ ?_
  refine Cd.block ?_
  refine Cd.loop (σ := Nat) (fun j => [(0, .slice A n c), (3, .int .i64 (j : Int))]) (fun j wr => j ≤ n ∧ (∀ s ∈ l.take j, s.data.length ≤ 300) ∧ Below w.heap.size w wr) (fun j => n - j) 0 ⟨Nat.zero_le _, by simp, bel⟩ ⟨rfl, rfl, trivial⟩ ?_
  clear bel
  rintro j wr ⟨hj, hall, bel⟩
  refine Cd.seq ?_
  refine Cd.seq ?_
  refine Cd.region ?_
  refine Seq.val (Runs.move rfl rfl) rfl rfl rfl ?_
  refine Seq.val (Runs.move rfl rfl) rfl rfl rfl ?_
  refine Seq.val (Runs.len rfl rfl Tryz.underlying50) rfl rfl rfl ?_
  refine Seq.val (Runs.lss rfl rfl rfl) rfl rfl rfl ?_
  refine Seq.nil ?_
  refine Post.weak (F' := [(0, _), (3, _), (10, _)]) ⟨rfl, rfl, rfl, trivial⟩ ?_
  refine Post.then_ ?_
  refine Cd.condD rfl (fun hc => ?_) (fun hc => ?_)
  · obtain ⟨s, hs⟩ : ∃ s, l[j]? = some s := ⟨_, List.getElem?_eq_getElem (by omega)⟩
    obtain ⟨ad, rfl, -, -, hcl⟩ := hr.act bel hs
    refine Cd.skip ?_
    refine Post.then_ ?_
    refine Cd.seq ?_
    refine Cd.block ?_
    refine Cd.seq ?_
    refine Cd.region ?_
    refine Seq.val (Runs.move rfl rfl) rfl rfl rfl ?_
    refine Seq.val (Runs.move rfl rfl) rfl rfl rfl ?_
    refine Seq.val (Runs.indexN rfl rfl rfl Tryz.underlying50 (s := 3) (by kernel_rfl) (j := j) rfl (by omega)) rfl rfl rfl ?_
    refine Seq.val (Runs.fieldA 2 rfl rfl Tryz.underlying57 rfl (by kernel_rfl)) rfl rfl rfl ?_
    refine Seq.val (Runs.load1 rfl rfl Tryz.underlying9 rfl (hcl 2 _ rfl)) rfl rfl rfl ?_
    refine Seq.val (Runs.lenL rfl rfl Tryz.underlying9) rfl rfl rfl ?_
    refine Seq.val (Runs.gtr rfl rfl rfl) rfl rfl rfl ?_
    refine Seq.nil ?_
    refine Post.weak (F' := [(0, _), (3, _), (10, _), (19, _)]) ⟨rfl, rfl, rfl, rfl, trivial⟩ ?_
    refine Post.then_ ?_
    refine Cd.cond rfl (fun h => ?_) (fun h => ?_)
    · have h : (300 : Int) < (s.data.length : Int) := by simpa using h
      have hS : greatL l = true := by
        unfold greatL
        rw [Bool.or_eq_true]
        right
        rw [List.any_eq_true]
        exact ⟨s, List.mem_of_getElem? hs, by simp; omega⟩
      rw [hS]
      refine Cd.seq ?_
      refine Cd.region ?_
      refine Seq.val (Runs.assign rfl rfl) rfl rfl rfl ?_
      refine Seq.nil ?_
      refine Post.weak (F' := [(0, _), (2, _), (3, _), (10, _), (19, _)]) ⟨rfl, rfl, rfl, rfl, rfl, trivial⟩ ?_
      refine Post.then_ ?_
      refine Cd.ret ?_
      refine Post.block_ret ?_
      refine Post.then_ret ?_
      refine Post.round_ret ?_
      refine Post.block_ret ?_
      refine Post.then_ret ?_
      refine Post.end1 rfl rfl (.inl rfl) ?_
      exact ⟨rfl, bel⟩
    have h : ¬ ((300 : Int) < (s.data.length : Int)) := by simpa using h
    refine Cd.skip ?_
    refine Post.block_normal ?_
    refine Post.then_ ?_
    refine Cd.region ?_
    refine Seq.val (Runs.move rfl rfl) rfl rfl rfl ?_
    refine Seq.val (Runs.addI rfl rfl rfl (by omega) (by omega)) rfl rfl rfl ?_
    refine Seq.val (Runs.assign rfl rfl) rfl rfl rfl ?_
    refine Seq.nil ?_
    refine Post.weak (F' := [(0, _), (3, _), (10, _), (19, _)]) ⟨rfl, rfl, rfl, rfl, trivial⟩ ?_
    refine Post.round (j + 1) ⟨rfl, int_at (by omega), trivial⟩ ⟨by omega, fun x hx => ?_, bel⟩ (by omega)
    rw [take_last hs] at hx
    rcases List.mem_append.1 hx with hx | hx
    · exact hall x hx
    · simp at hx; subst hx; omega
  · have hS : greatL l = false := by
      unfold greatL
      rw [decide_eq_false (by omega), Bool.false_or, List.any_eq_false]
      intro s hs
      rw [List.take_of_length_le (by omega)] at hall
      simpa using hall s hs
    rw [hS]
    refine Cd.exit ?_
    refine Post.then_exit ?_
    refine Post.round_exit ?_
    refine Post.block_exit ?_
    refine Post.then_ ?_
    refine Cd.seq ?_
    refine Cd.region ?_
    refine Seq.val (Runs.assign rfl rfl) rfl rfl rfl ?_
    refine Seq.nil ?_
    refine Post.weak (F' := [(0, _), (2, _), (3, _), (10, _)]) ⟨rfl, rfl, rfl, rfl, trivial⟩ ?_
    refine Post.then_ ?_
    refine Cd.ret ?_
    refine Post.end1 rfl rfl (.inl rfl) ?_
    exact ⟨rfl, bel⟩
theorem RunAt.mono {w : World} {B B' gr : Nat} {D : Dk} {W : Wl} {segs : List (Nat × List (List Nat))} (h : RunAt w B gr D W segs) (hB : B' ≤ B) : RunAt w B' gr D W segs := by
  obtain ⟨⟨gd, g6, v, h1, h2, h3, h4, h5⟩, h6⟩ := h
  exact ⟨⟨gd, g6, v, h1, h2.mono hB, h3, h4.mono hB, Nat.le_trans hB h5⟩, Nat.le_trans hB h6⟩
set_option maxHeartbeats 4000000 in
theorem walk_plays (A : Option Addr) (n c : Nat) (l : List ActV) (w : World) (gv : Gv w) (hr : Reads w w.heap.size 3 A n (acsV l)) (hl : ∀ a ∈ l, Byt a.data ∧ I64 a.n) :
    Calls Tryz.prog 5 #[.slice A n c] w fun e w' => e = .returned (.bool true) ∧ Grow w w' := by
  have bf := Bf.refl w.heap.size w
  have hgw := tab_lt gv.pow
  have hln : l.length = n := by have := hr.1; rw [acsV_len] at this; omega
  refine Calls.start 59 Tryz.func5 rfl rfl rfl ?_
  refine Cd.seq ?_
  refine Cd.region ?_
  refine Seq.val (Runs.assign rfl rfl) rfl rfl rfl ?_
  refine Seq.nil ?_
  refine Post.weak (F' := [(0, _), (2, _)]) ⟨rfl, rfl, trivial⟩ ?_
  refine Post.then_ ?_
  refine Cd.seq ?_
  refine Cd.seq ?_
  refine Cd.region ?_
  refine Seq.val (Runs.move rfl rfl) rfl rfl rfl ?_
  refine Seq.call (Enters.func rfl rfl rfl (run_enter Tryz.func23 (by kernel_rfl) rfl)) rfl rfl rfl (great_any A n c l _ (hr.below (Below.refl _ _))) ?_
  rintro e w4 ⟨rfl, hb4⟩
  refine ⟨_, rfl, ?_⟩
  replace bf := bf.step hb4
  replace gv := gv.step hb4
  refine Seq.val (Runs.move rfl rfl) rfl rfl rfl ?_
  refine SeqC.start ?_
  refine SeqC.openC rfl rfl rfl rfl rfl rfl rfl (fun hcx => Enters.func rfl rfl rfl (run_enter Tryz.func11 (by kernel_rfl) rfl)) (fun hcx => awake_any _ gv) ?_
  intro w1 hw1
  replace bf := bf.step hw1
  replace gv := gv.step hw1
  refine SeqC.next rfl rfl rfl rfl rfl rfl rfl (fun hcx => Runs.not rfl rfl) ?_
  refine SeqC.or rfl rfl rfl rfl rfl rfl rfl ?_
  refine Seq.nil ?_
  refine Post.weak (F' := [(0, _), (2, _), (15, _)]) ⟨rfl, rfl, rfl, trivial⟩ ?_
  refine Post.then_ ?_
  refine Cd.cond rfl (fun h => ?_) (fun h => ?_)
  · skip
    refine Cd.seq ?_
    refine Cd.region ?_
    refine Seq.call (Enters.func rfl rfl rfl (run_enter Tryz.func11 (by kernel_rfl) rfl)) rfl rfl rfl (awake_any _ gv) ?_
    rintro e w5 ⟨rfl, hb5⟩
    refine ⟨_, rfl, ?_⟩
    replace bf := bf.step hb5
    replace gv := gv.step hb5
    refine Seq.val (Runs.assign rfl rfl) rfl rfl rfl ?_
    refine Seq.nil ?_
    refine Post.weak (F' := [(0, _), (2, _), (15, _)]) ⟨rfl, rfl, rfl, trivial⟩ ?_
    refine Post.then_ ?_
    refine Cd.ret ?_
    refine Post.then_ret ?_
    refine Post.end1 rfl rfl (.inl rfl) ?_
    exact ⟨rfl, bf.to (Nat.le_refl _)⟩
  have h : greatL l = false := by
    cases e : greatL l with
    | false => rfl
    | true => rw [e] at h; cases h
  unfold greatL at h
  rw [Bool.or_eq_false_iff, decide_eq_false_iff_not, List.any_eq_false] at h
  obtain ⟨hn20, hall⟩ := h
  refine Cd.skip ?_
  refine Post.then_ ?_
  refine Cd.seq ?_
  refine Cd.region ?_
  have hsz0 := bf.size
  refine Seq.call (Enters.func rfl rfl rfl (run_enter Tryz.func24 (by kernel_rfl) rfl)) rfl rfl rfl (begin_r_any _ gv) ?_
  rintro e w5 ⟨gr, rfl, hR, hb5⟩
  refine ⟨_, rfl, ?_⟩
  replace hR := hR.mono hsz0
  replace bf := bf.step hb5
  replace gv := gv.step hb5
  have hP := PlIs.begin_
  refine Seq.val (Runs.assign rfl rfl) rfl rfl rfl ?_
  refine Seq.nil ?_
  refine Post.weak (F' := [(0, _), (2, _), (3, _), (15, _)]) ⟨rfl, rfl, rfl, rfl, trivial⟩ ?_
  refine Post.then_ ?_
  refine Cd.seq ?_
  refine Cd.seq ?_
  refine Cd.region ?_
  refine Seq.val (Runs.move rfl rfl) rfl rfl rfl ?_
  refine Seq.val (Runs.eqlP rfl rfl rfl Tryz.underlying52) rfl rfl rfl ?_
  refine Seq.nil ?_
  refine Post.weak (F' := [(0, _), (2, _), (3, _), (15, _), (19, _)]) ⟨rfl, rfl, rfl, rfl, rfl, trivial⟩ ?_
  refine Post.then_ ?_
  refine Cd.condF rfl rfl ?_
  refine Cd.skip ?_
  refine Post.then_ ?_
  refine Cd.seq ?_
  refine Cd.seq ?_
  refine Cd.region ?_
  refine Seq.val (Runs.assign rfl rfl) rfl rfl rfl ?_
  refine Seq.nil ?_
  refine Post.weak (F' := [(0, _), (2, _), (3, _), (4, _), (15, _), (19, _)]) ⟨rfl, rfl, rfl, rfl, rfl, rfl, trivial⟩ ?_
  refine Post.then_ ?_
  refine Cd.block ?_
  refine Cd.loop (σ := Nat × Dk × Wl × List (Nat × List (List Nat))) (fun q => [(0, .slice A n c), (3, .pointer (some ⟨gr, 0, none⟩)), (4, .int .i64 (q.1 : Int))]) (fun q wr => q.1 ≤ n ∧ PlIs q.2.1 q.2.2.1 q.2.2.2 q.1 ∧ RunAt wr w.heap.size gr q.2.1 q.2.2.1 q.2.2.2 ∧ Bf w.heap.size w wr ∧ Gv wr) (fun q => n - q.1) (0, Dk.new 1048576, ⟨0, 0, 0, false⟩, []) ⟨Nat.zero_le _, hP, hR, bf, gv⟩ ⟨rfl, rfl, rfl, trivial⟩ ?_
  clear hP hR bf gv
  rintro ⟨i, D, W, segs⟩ wr ⟨hi, hP, hR, bf, gv⟩
  simp only at hi hP hR
  show Cd _ _ _ _ [(0, .slice A n c), (3, .pointer (some ⟨gr, 0, none⟩)), (4, .int .i64 (i : Int))] _
  refine Cd.seq ?_
  refine Cd.seq ?_
  refine Cd.region ?_
  refine Seq.val (Runs.move rfl rfl) rfl rfl rfl ?_
  refine Seq.val (Runs.move rfl rfl) rfl rfl rfl ?_
  refine Seq.val (Runs.len rfl rfl Tryz.underlying50) rfl rfl rfl ?_
  refine Seq.val (Runs.lss rfl rfl rfl) rfl rfl rfl ?_
  refine Seq.nil ?_
  refine Post.weak (F' := [(0, _), (3, _), (4, _), (23, _)]) ⟨rfl, rfl, rfl, rfl, trivial⟩ ?_
  refine Post.then_ ?_
  refine Cd.condD rfl (fun hc => ?_) (fun hc => ?_)
  · obtain ⟨a, ha⟩ : ∃ a, l[i]? = some a := ⟨_, List.getElem?_eq_getElem (by omega)⟩
    have ham := List.mem_of_getElem? ha
    obtain ⟨hd, hn⟩ := hl a ham
    have hdl : a.data.length ≤ 300 := by simpa using hall a ham
    obtain ⟨ad, rfl, -, -, hcl⟩ := hr.act (bf.to (Nat.le_refl _)) ha
    refine Cd.skip ?_
    refine Post.then_ ?_
    refine Cd.seq ?_
    refine Cd.block ?_
    refine Cd.seq ?_
    refine Cd.region ?_
    refine Seq.val (Runs.move rfl rfl) rfl rfl rfl ?_
    refine Seq.val (Runs.move rfl rfl) rfl rfl rfl ?_
    refine Seq.val (Runs.move rfl rfl) rfl rfl rfl ?_
    refine Seq.val (Runs.indexN rfl rfl rfl Tryz.underlying50 (s := 3) (by kernel_rfl) (j := i) rfl (by omega)) rfl rfl rfl ?_
    refine Seq.val (Runs.loadCs rfl rfl Tryz.underlying57 rfl (m := 3) (ps := a.cs) (by kernel_rfl) rfl hcl) rfl rfl rfl ?_
    have hk : i ≤ 30 := by omega
    refine Seq.call (Enters.func rfl rfl rfl (run_enter Tryz.func25 (by kernel_rfl) rfl)) rfl rfl rfl (does_any w.heap.size gr a D W segs i _ gv hgw hP hk hR hd hdl hn) ?_
    clear hP hR
    rintro e w2 ⟨D', W', segs', rfl, hP, hR, fw2⟩
    refine ⟨_, rfl, ?_⟩
    replace bf := bf.bf fw2
    replace gv := gv.bf fw2
    refine Seq.val (Runs.move rfl rfl) rfl rfl rfl ?_
    refine Seq.val (Runs.extract rfl rfl rfl) rfl rfl rfl ?_
    refine Seq.val (Runs.extract rfl rfl rfl) rfl rfl rfl ?_
    refine Seq.val (Runs.assign rfl rfl) rfl rfl rfl ?_
    refine Seq.val (Runs.assign rfl rfl) rfl rfl rfl ?_
    refine Seq.nil ?_
    refine Post.weak (F' := [(0, _), (3, _), (4, _), (5, _), (6, _), (23, _)]) ⟨rfl, rfl, rfl, rfl, rfl, rfl, trivial⟩ ?_
    refine Post.then_ ?_
    refine Cd.seq ?_
    refine Cd.region ?_
    refine Seq.val (Runs.move rfl rfl) rfl rfl rfl ?_
    refine Seq.val (Runs.not rfl rfl) rfl rfl rfl ?_
    refine Seq.val (Runs.move rfl rfl) rfl rfl rfl ?_
    refine SeqC.start ?_
    refine SeqC.open rfl rfl rfl rfl rfl rfl rfl (fun hcx => Runs.move rfl rfl) ?_
    refine SeqC.or rfl rfl rfl rfl rfl rfl rfl ?_
    refine Seq.nil ?_
    refine Post.weak (F' := [(0, _), (3, _), (4, _), (5, _), (6, _), (23, _), (39, _)]) ⟨rfl, rfl, rfl, rfl, rfl, rfl, rfl, trivial⟩ ?_
    refine Post.then_ ?_
    refine Cd.condF rfl rfl ?_
    refine Cd.skip ?_
    refine Post.block_normal ?_
    refine Post.then_ ?_
    refine Cd.region ?_
    refine Seq.val (Runs.move rfl rfl) rfl rfl rfl ?_
    refine Seq.val (Runs.addI rfl rfl rfl (by omega) (by omega)) rfl rfl rfl ?_
    refine Seq.val (Runs.assign rfl rfl) rfl rfl rfl ?_
    refine Seq.nil ?_
    refine Post.weak (F' := [(0, _), (3, _), (4, _), (5, _), (6, _), (23, _), (39, _)]) ⟨rfl, rfl, rfl, rfl, rfl, rfl, rfl, trivial⟩ ?_
    exact Post.round (i + 1, D', W', segs') ⟨rfl, rfl, int_at (by omega), trivial⟩ ⟨by simp only; omega, hP, hR, bf, gv⟩ (by simp only; omega)
  · obtain ⟨⟨gd, g6, v, k90, dk, -, own, -⟩, e90⟩ := hR
    have hO := hP.wl.log.opens
    have hbyt := recsOf_byt hP.wl.log
    have hrl := hP.recs
    have hown := hP.wl.log.own_nm
    have hoff := hP.wl.log.calm.off
    obtain ⟨A0, c0, rfl, -⟩ := own.reads
    refine Cd.exit ?_
    refine Post.then_exit ?_
    refine Post.round_exit ?_
    refine Post.block_exit ?_
    refine Post.then_ ?_
    refine Cd.seq ?_
    refine Cd.region ?_
    refine Seq.val (Runs.move rfl rfl) rfl rfl rfl ?_
    refine Seq.val (Runs.nilCheck rfl rfl) rfl rfl rfl ?_
    refine Seq.val (Runs.fieldB 0 rfl rfl Tryz.underlying59 rfl (by kernel_rfl)) rfl rfl rfl ?_
    refine Seq.val (Runs.loadB rfl rfl Tryz.underlying26 rfl k90 rfl) rfl rfl rfl ?_
    refine Seq.call (Enters.func rfl rfl rfl (run_enter Tryz.func13 (by kernel_rfl) rfl)) rfl rfl rfl (open_any w.heap.size gd D [119] _ gv hgw dk hoff right_w (byt_one (by omega)) hown) ?_
    clear dk
    rintro e w2 ⟨v1, v2, rfl, hO2, dk, fw2⟩
    refine ⟨_, rfl, ?_⟩
    replace bf := bf.df fw2
    replace gv := gv.df fw2
    replace k90 := k90.df fw2
    replace own := own.df fw2
    rw [hO] at hO2 dk
    rw [hO]
    rcases hO2 with ⟨h, -, -⟩ | ⟨-, g14, rfl, -, -, own14⟩
    · exact absurd rfl h
    replace own14 : Own _ _ 36 2 v2 (recsOf segs).length (recsV (recsOf segs)) := own14
    obtain ⟨A14, c14, rfl, hr14⟩ := own14.reads
    obtain ⟨A9', c9', hv9, hr9⟩ := own.reads
    injection hv9 with e1 _ e2
    subst e1 e2
    refine Seq.val (Runs.move rfl rfl) rfl rfl rfl ?_
    refine Seq.val (Runs.extract rfl rfl rfl) rfl rfl rfl ?_
    refine Seq.val (Runs.extract rfl rfl rfl) rfl rfl rfl ?_
    refine Seq.val (Runs.extract rfl rfl rfl) rfl rfl rfl ?_
    refine Seq.val (Runs.assign rfl rfl) rfl rfl rfl ?_
    refine Seq.val (Runs.assign rfl rfl) rfl rfl rfl ?_
    refine Seq.val (Runs.assign rfl rfl) rfl rfl rfl ?_
    refine Seq.nil ?_
    refine Post.weak (F' := [(0, _), (3, _), (4, _), (8, _), (9, _), (23, _)]) ⟨rfl, rfl, rfl, rfl, rfl, rfl, trivial⟩ ?_
    refine Post.then_ ?_
    refine Cd.seq ?_
    refine Cd.region ?_
    refine Seq.val (Runs.move rfl rfl) rfl rfl rfl ?_
    refine Seq.val (Runs.eqlI rfl rfl rfl) rfl rfl rfl ?_
    refine Seq.val (Runs.move rfl rfl) rfl rfl rfl ?_
    refine SeqC.start ?_
    refine SeqC.open rfl rfl rfl rfl rfl rfl rfl (fun hcx => Runs.move rfl rfl) ?_
    refine SeqC.next rfl rfl rfl rfl rfl rfl rfl (fun hcx => Runs.move rfl rfl) ?_
    refine SeqC.next rfl rfl rfl rfl rfl rfl rfl (fun hcx => Runs.nilCheck rfl rfl) ?_
    refine SeqC.next rfl rfl rfl rfl rfl rfl rfl (fun hcx => Runs.fieldB 2 rfl rfl Tryz.underlying59 rfl (by kernel_rfl)) ?_
    refine SeqC.next rfl rfl rfl rfl rfl rfl rfl (fun hcx => Runs.loadB rfl rfl Tryz.underlying29 rfl k90 rfl) ?_
    refine SeqC.nextC rfl rfl rfl rfl rfl rfl rfl (fun hcx => Enters.func rfl rfl rfl (run_enter Tryz.func16 (by kernel_rfl) rfl)) (fun hcx => same_self A14 A0 _ c14 _ c0 _ (recsOf segs) _ hr14 hr9 (Nat.le_refl _) hbyt (by omega) (by omega)) ?_
    intro w3 hw3
    replace bf := bf.step hw3
    replace gv := gv.step hw3
    replace k90 := k90.step hw3
    replace dk := dk.step hw3
    replace own := own.step hw3
    refine SeqC.and rfl rfl rfl rfl rfl rfl rfl ?_
    refine Seq.val (Runs.assign rfl rfl) rfl rfl rfl ?_
    refine Seq.nil ?_
    refine Post.weak (F' := [(0, _), (2, _), (3, _), (4, _), (8, _), (9, _), (23, _)]) ⟨rfl, rfl, rfl, rfl, rfl, rfl, rfl, trivial⟩ ?_
    refine Post.then_ ?_
    refine Cd.ret ?_
    refine Post.end1 rfl rfl (.inl rfl) ?_
    exact ⟨by simp, bf.to (Nat.le_refl _)⟩
end Go.Proofs.YtnlepoplncjliaaGreatDoor

namespace Go.Proofs.YtnlepoplncjliaaGreatDoor
open Go.ChangeShapes Go.WideShapes Go.Deep Go.RowKit

end Go.Proofs.YtnlepoplncjliaaGreatDoor

namespace Go.Proofs.YtnlepoplncjliaaGreatDoor
open Go.ChangeShapes Go.WideShapes Go.ChangeAt Go.Deep Go.RowKit

theorem laid_tail {P : Program} {W : World} {x : String × DataW Unit} {rest : List (String × DataW Unit)} (h : laidMet P (x :: rest) W) : laidMet P rest W := by
  obtain ⟨ps, ⟨g, t, cs, fuel, p, q, h1, h2, h3, h4, h5, rfl⟩, hn, hi⟩ := h
  exact ⟨q, h5, (List.nodup_append.1 hn).2.1, fun b off hm => hi b off (List.mem_append_right _ hm)⟩
def laidL : List (String × DataW Unit) := Rows.walFullRow.laid
theorem gv_of_laid {W : World} (h : laidMetH Tryz.prog laidL W) (hs : W.ShapedOpen Tryz.prog) : Gv W := by
  rw [MakeChecks.laidMetH_plain _ _ _ (by kernel_rfl)] at h
  have h3 := laid_tail (laid_tail (show laidMet Tryz.prog (_ :: _ :: _) W from h))
  have tn : Lib.TabIs Tryz.prog W "debenture/crc.nibbles" .u32 (nibs.map Int.ofNat) := Lib.tabIs_of_head (rest := _) (g := 3) (by kernel_rfl) (by kernel_rfl) Tryz.underlying195 Tryz.underlying65 (by kernel_rfl) (by kernel_rfl) h3
  have tp : Lib.TabIs Tryz.prog W "internal/strconv.uint64pow10" .u64 Lib.pow10Tab := Lib.tabIs_of_head (rest := _) (g := 4) (by kernel_rfl) (by kernel_rfl) Tryz.underlying214 Tryz.underlying97 (by kernel_rfl) (by kernel_rfl) (laid_tail h3)
  refine ⟨⟨fun i hi => ?_⟩, tp, cell_of_shapedOpen_int (t := 3) (zero := #[.int .i64 0]) hs (of_decide_eq_true (by kernel_rfl)) (by kernel_rfl) rfl (by kernel_rfl) (by kernel_rfl) Tryz.underlying3⟩
  rw [tn.cell (g := 3) (by kernel_rfl) i (by rw [List.length_map]; exact hi)]
  congr 2
  have : ∀ i, i < 16 → (nibs.map Int.ofNat).getD i 0 = ((nibs.getD i 0 : Nat) : Int) := by decide
  exact this i hi
theorem choose_at {α : Type} (n : Nat) (p : Nat → α → Prop) (h : ∀ i, i < n → ∃ f, p i f) : ∃ l : List α, l.length = n ∧ ∀ i f, l[i]? = some f → p i f := by
  induction n with
  | zero => exact ⟨[], rfl, fun i f hf => by simp at hf⟩
  | succ n ih =>
    obtain ⟨l, hl, hp⟩ := ih fun i hi => h i (by omega)
    obtain ⟨x, hx⟩ := h n (by omega)
    refine ⟨l ++ [x], by simp [hl], fun i f hf => ?_⟩
    rcases Nat.lt_or_ge i l.length with h1 | h1
    · rw [List.getElem?_append_left h1] at hf
      exact hp i f hf
    · rw [List.getElem?_append_right h1] at hf
      have h2 : i - l.length = 0 := by
        rcases Nat.eq_zero_or_pos (i - l.length) with h2 | h2
        · exact h2
        · rw [List.getElem?_eq_none (by simp; omega)] at hf; cases hf
      rw [h2] at hf
      injection hf with hf
      subst hf
      have : i = n := by omega
      subst this
      exact hx
theorem strOf_of (s : ByteArray) : ∃ l : List Nat, s = strOf l ∧ Byt l ∧ l.length = s.size := by
  refine ⟨s.data.toList.map UInt8.toNat, ?_, fun c hc => ?_, by rw [List.length_map]; rfl⟩
  · have : (s.data.toList.map UInt8.toNat).map UInt8.ofNat = s.data.toList := by
      rw [List.map_map]
      conv => rhs; rw [← List.map_id s.data.toList]
      exact List.map_congr_left fun b _ => by simp
    unfold strOf
    rw [this]
  · obtain ⟨b, -, rfl⟩ := List.mem_map.1 hc
    exact b.toNat_lt
/-- The wrap for rows that list variables, with what the world's shape says handed on. -/
theorem lift_laid {H : Type} {enc : TypeId × Value → H} {a : Assume} {C : Checked} {os : Os} {f : FuncId} {fn : Func} {s : ChangeSpec} {X : World → Array Value → Prop} {apart fresh handsOn again : Bool}
    (hX : ∀ (w w' : World) (args : Array Value), w.heap = w'.heap → X w args → X w' args) (own : ownKnob C.prog.godebug = none) (started : os.Started) (hi : C.prog.inits.idxOf? f = none) (hfn : C.prog.funcs[f]? = some fn)
    (wit : ∃ (w : World) (tape : Tape) (i : Input), w.os = os ∧ (w.forCall tape i).Shaped C.prog ∧ i.vars = [] ∧ Input.okWide C.prog (w.forCall tape i) .any w.heap.size f i ∧
      ((s.pre enc C.prog fn [] apart (w.forCall tape i).memory i.args ∧ X (w.forCall tape i).memory i.args) ∧ sizedMet enc C.prog fn (OpenSpec.ofChange s) apart (w.forCall tape i).memory i.args) ∧ a.holds C.prog (lone (Frame.enter C.prog f i.args .normal) [] (w.forCall tape i)))
    (walk : ∀ (W : World) (base : Nat) (args : Array Value) (ds gs : List (DataW H)) (before : List MemPlace), (∀ (j : Nat) t v, fn.params[j]? = some t → args[j]? = some v → Value.okWide C.prog W .any base t v) →
      DataW.Whole enc C.prog fn.params.toList s.vars apart W args.toList ds gs before → X W args → W.ShapedOpen C.prog →
      Calls C.prog f args W fun e W' => ∃ v, e = .returned v ∧ s.post enc C.prog fn apart fresh handsOn again W args v W') :
    ReturnsInHanded a C os f .any (fun w args => (s.pre enc C.prog fn [] apart w args ∧ X w args) ∧ sizedMet enc C.prog fn (OpenSpec.ofChange s) apart w args) (s.post enc C.prog fn apart fresh handsOn again) := by
  refine returnsInHanded_of_calls own started hi wit fun w tape i _ hsh _ hok hp _ => ?_
  obtain ⟨⟨⟨ds, gs, before, hw, -⟩, hx⟩, -⟩ := hp
  obtain ⟨_, _, _, fn', hfn', _, _, _, _, hval⟩ := hok
  obtain rfl : fn' = fn := Option.some.inj (hfn'.symm.trans hfn)
  refine (walk _ _ _ ds gs before hval (DataW.Whole.of_heap (by rfl) hw) (hX _ _ _ (by rfl) hx) hsh).mono fun e W' he => ?_
  obtain ⟨v, rfl, hp⟩ := he
  exact ChangeSpec.post_blind hp
theorem own : ownKnob Tryz.prog.godebug = none := by kernel_rfl
theorem laidOut : laidOutB Tryz.prog = true := by kernel_rfl
theorem door_met (os : Os) (args : Array Value) : laidMetH Tryz.prog laidL ((World.doorLaid Tryz.prog 67 os).forCall (fun _ _ => 0) ⟨#[], args, []⟩).memory :=
  laidMetH_of_parts3 (fuel := 8) (laidMet_of_run' 8 (by kernel_rfl) (by kernel_rfl)) (by kernel_rfl) (by kernel_rfl)
end Go.Proofs.YtnlepoplncjliaaGreatDoor

namespace Go.Proofs.YtnlepoplncjliaaGreatDoor
open Go.ChangeShapes Go.WideShapes Go.Deep Go.RowKit

section
variable {H : Type} {enc : TypeId × Value → H} {P : Program} {w : World} {base : Nat} {spare : Nat → Bool} {held : Bool}
theorem open_slice_fields {t e : TypeId} {fs : Array Field} {fuel : Nat} {cs : List Value} {x : DataW H × List MemPlace} (ht : P.underlying t = some (.slice e)) (he : P.underlying e = some (.struct fs))
    (hone : oneCellFields P fs = true) (hC : P.cellsOf e = fs.size) (h : DataW.trod enc P w base spare held fuel t cs = some x) :
    (cs = [.slice none 0 0] ∧ x = (.nil, [])) ∨
    ∃ (a : Addr) (len cap m : Nat) (D : Nat → DataW H) (Pl : Nat → List MemPlace), cs = [.slice (some a) len cap] ∧ base ≤ a.block ∧ len ≤ cap ∧ cap ≤ maxLen ∧ m = (if spare a.block then cap else len) ∧
      x = (.slice ((List.range len).map D) ((List.range (m - len)).map fun j => D (len + j)), MemPlace.row a (m * fs.size) ++ (List.range m).flatMap Pl) ∧
      ∀ i, i < m → ∃ (ys : List (DataW H × List MemPlace)) (n : Nat), D i = .agg (ys.map (·.1)) ∧ Pl i = ys.flatMap (·.2) ∧ ys.length = fs.size ∧
        ∀ (j : Nat) (f : Field), fs[j]? = some f → ∃ (v : Value) (y : DataW H × List MemPlace), w.cell? (a.add (i * fs.size + j)) = some v ∧ ys[j]? = some y ∧ DataW.trod enc P w base spare held n f.type [v] = some y := by
  rcases open_slice ht h with h0 | ⟨a, len, cap, m, n, D, Pl, hcs, hb, hl, hm, hmm, hx, hi⟩
  · exact .inl h0
  · refine .inr ⟨a, len, cap, m, D, Pl, hcs, hb, hl, hm, hmm, by rw [hC] at hx; exact hx, fun i him => ?_⟩
    obtain ⟨cs', hc, ht'⟩ := hi i him
    rw [hC] at hc
    obtain ⟨ys, n', hn', hy, hlen, hyl, hf⟩ := DataW.trod_struct he ht'
    obtain ⟨_, hcl, hat⟩ := World.cells?_some hc
    simp only [Prod.mk.injEq] at hy
    refine ⟨ys, n', hy.1, hy.2, hyl, fun j f hj => ?_⟩
    obtain ⟨ho, hk⟩ := hone_of hone j f hj
    have hjl : j < fs.size := (Array.getElem?_eq_some_iff.1 hj).1
    have hcell := hat j hjl
    have hv : cs'[j]? = some (cs'[j]'(by omega)) := List.getElem?_eq_getElem (by omega)
    have h1 := hf j f hj
    rw [ho, hk] at h1
    have hone' : (cs'.drop j).take 1 = [cs'[j]'(by omega)] := by
      rw [List.drop_eq_getElem_cons (by omega)]
      rfl
    rw [hone'] at h1
    have hys : ys[j]? = some (ys[j]'(by omega)) := List.getElem?_eq_getElem (by omega)
    refine ⟨_, _, ?_, hys, h1.trans hys⟩
    rw [← Go.Deep.add_add, hcell, hv]
end

set_option maxRecDepth 100000 in
theorem open_acts {H : Type} {enc : TypeId × Value → H} {W : World} {base : Nat} {v : Value} {d : DataW H} {p : List MemPlace} (hv : Value.okWide Tryz.prog W .any base 50 v)
    (h : DataW.Trod enc Tryz.prog W 0 (fun _ => true) true 50 v d p) : ∃ A len cap l, v = .slice A len cap ∧ Reads W W.heap.size 3 A len (acsV l) ∧ ∀ a ∈ l, Byt a.data ∧ I64 a.n := by
  obtain ⟨A, len, cap, rfl⟩ := okWide_slice Tryz.underlying50 hv
  obtain ⟨m, hm⟩ := h
  rcases open_slice_fields Tryz.underlying50 Tryz.underlying57 (by kernel_rfl) (by kernel_rfl) hm with ⟨hcs, -⟩ | ⟨a, len', cap', k, D, Pl, hcs, -, hlc, -, hk, -, hf⟩
  · simp [Value.cells] at hcs
    obtain ⟨rfl, rfl, rfl⟩ := hcs
    exact ⟨none, 0, 0, [], rfl, Reads.none_, by simp⟩
  · simp only [if_true] at hk
    simp [Value.cells] at hcs
    obtain ⟨rfl, rfl, rfl⟩ := hcs
    obtain ⟨l, hl, hp⟩ := choose_at (α := ActV) len (fun i f => (Byt f.data ∧ I64 f.n) ∧ ∀ j u, f.cs[j]? = some u → W.cell? (a.add (i * 3 + j)) = some u) fun i hi => by
      obtain ⟨ys, n, -, -, hyl, hfj⟩ := hf i (by omega)
      obtain ⟨v0, z0, k0, -, t0⟩ := hfj 0 _ rfl
      obtain ⟨v1, z1, k1, -, t1⟩ := hfj 1 _ rfl
      obtain ⟨v2, z2, k2, -, t2⟩ := hfj 2 _ rfl
      obtain ⟨x0, e0, -, -⟩ := DataW.trod_int Tryz.underlying3 t0
      obtain ⟨x1, e1, -, hwf⟩ := DataW.trod_int Tryz.underlying3 t1
      obtain ⟨x2, e2, -⟩ := DataW.trod_string Tryz.underlying9 t2
      simp at e0 e1 e2
      subst e0 e1 e2
      obtain ⟨s, rfl, hs, -⟩ := strOf_of x2
      simp only [Lit.wf, Bool.and_eq_true, decide_eq_true_eq] at hwf
      refine ⟨⟨x0, x1, s⟩, ⟨hs, hwf.1, hwf.2⟩, fun j u hu => ?_⟩
      match j, hu with
      | 0, hu => simp [ActV.cs] at hu; subst hu; exact k0
      | 1, hu => simp [ActV.cs] at hu; subst hu; exact k1
      | 2, hu => simp [ActV.cs] at hu; subst hu; exact k2
      | j + 3, hu => simp [ActV.cs] at hu
    refine ⟨some a, len, cap, l, rfl, ⟨by rw [acsV_len, hl], fun hpos => ⟨a, rfl, ?_, fun j u hu => ?_⟩⟩, fun x hx => ?_⟩
    · obtain ⟨f, hf0⟩ : ∃ f, l[0]? = some f := ⟨_, List.getElem?_eq_getElem (by omega)⟩
      have := World.block_lt_of_cell? W _ ((hp 0 f hf0).2 0 _ rfl)
      rwa [block_of_add] at this
    · have hj : j < len * 3 := by have := (List.getElem?_eq_some_iff.1 hu).1; rw [acsV_len, hl] at this; exact this
      have hi : j / 3 < l.length := by omega
      obtain ⟨f, hf0⟩ : ∃ f, l[j / 3]? = some f := ⟨_, List.getElem?_eq_getElem hi⟩
      have hj3 : j % 3 < f.cs.length := by show j % 3 < 3; omega
      have hg := acsV_at hf0 (j % 3) _ (List.getElem?_eq_getElem hj3)
      rw [show j / 3 * 3 + j % 3 = j by omega, hu] at hg
      have := (hp (j / 3) f hf0).2 (j % 3) u (by rw [List.getElem?_eq_getElem hj3, ← hg])
      rwa [show j / 3 * 3 + j % 3 = j by omega] at this
    · obtain ⟨j, hj, rfl⟩ := List.getElem_of_mem hx
      exact (hp j _ (List.getElem?_eq_getElem hj)).1
end Go.Proofs.YtnlepoplncjliaaGreatDoor

