/-
  make of any size, in the text's order and in any order. No condition.
-/
import Derived.Test.YtefpejnmhlhnkaaGreatDoorKF
set_option linter.unusedSectionVars false
namespace Go.Proofs.YtefpejnmhlhnkaaGreatDoor
open Go.RowKit
variable [Inhabited (List Deferred)]

theorem Blk.ne {w : World} {g g' : Nat} {T T' : TypeId} {cs cs' : Array Value} (h : Blk w g T cs) (h' : Blk w g' T' cs') (hT : T ≠ T') : g ≠ g' := by
  rintro rfl
  unfold Blk at h h'
  rw [h] at h'
  injection h' with h'
  injection h' with h1 h2
  exact hT h2

section
variable {P : Program} {E : Operand → Option Value} {F : List (Nat × Value)} {o : Oper} {w : World} {T d n : Nat} {x y : Operand} {ops : Array Oper} {Q : Exit → Act → World → Prop} {rest : List Oper}
theorem Runs.makeN {k k' : IntKind} {c : Int} {m e b : Nat} {z : Value} (ho : o.op = .makeSlice T x y) (hx : E x = some (.int k c)) (hy : E y = some (.int k' c)) (hT : P.underlying T = some (.slice e)) (hz : zeroIs P e = some (some z)) (hsz : sizeIs P e z.cells.size = true) (hby : (P.info? e).map (·.bytes) = some b) (hc : c = (m : Int)) (hm : b * m ≤ 281474976710656) (h63 : m ≤ 9223372036854775807) :
    Runs P E o w (.slice (some ⟨w.heap.size, 0, none⟩) m m) (w.alloc (.cells (madeCells z.cells (m * z.cells.size)) e)) := fun ρ h => by
  obtain ⟨i, hi, hs⟩ := sizeIs_spec hsz
  have hz' : i.zero = some z := by unfold zeroIs at hz; rw [hi] at hz; injection hz
  have hb' : i.bytes = b := by rw [hi] at hby; injection hby
  subst hc
  have hr := run_make (P := P) w T e i z hT hi hz' k k' m m (by omega) (Int.le_refl _) (by rw [hb', ← Int.natCast_mul]; omega) (by omega)
  rw [Int.toNat_natCast, hs] at hr
  unfold execOp; simp only [ho]; rw [h _ _ hx, h _ _ hy]
  simp only [Sem.run_bind, hr, Result.andThen_ok]; rfl
theorem Seq.makeN {k k' : IntKind} {c : Int} {m e b : Nat} {z : Value} (ho : o.op = .makeSlice T x y) (hx : evF F x = some (.int k c)) (hy : evF F y = some (.int k' c)) (hT : P.underlying T = some (.slice e)) (hz : zeroIs P e = some (some z)) (hsz : sizeIs P e z.cells.size = true) (hby : (P.info? e).map (·.bytes) = some b) (hc : c = (m : Int)) (hm : b * m ≤ 281474976710656) (h63 : m ≤ 9223372036854775807)
    (hg : o.guard = none) (hd : o.dst = some d) (hn : Nat.blt d n = true)
    (h : ∀ g w', New w w' g e (madeCells z.cells (m * z.cells.size)) → Seq P ops Q rest n ((d, .slice (some ⟨g, 0, none⟩) m m) :: F) w') : Seq P ops Q (o :: rest) n F w :=
  Seq.val (Runs.makeN ho hx hy hT hz hsz hby hc hm h63) hg hd hn (h _ _ (new_of w _ e))
/-- A slice that was made. -/
def NewSl (B m : Nat) (T : TypeId) (cs : Array Value) (v : Value) (w : World) : Prop := ∃ g, v = .slice (some ⟨g, 0, none⟩) m m ∧ Blk w g T cs ∧ B ≤ g
theorem NewSl.stable {B m : Nat} {T : TypeId} {cs : Array Value} : ∀ v w w', Grow w w' → NewSl B m T cs v w → NewSl B m T cs v w' := fun _ _ _ hG ⟨g, e, h, hB⟩ => ⟨g, e, h.step hG, hB⟩
theorem Dr.makeS {F0 : List (Nat × Value)} {w0 : World} {Γ : Env} {r : List Oper} {B : Env → Prop} {L : List Nat} {kk : Nat} {k k' : IntKind} {c : Int} {m e b : Nat} {z : Value} (hu : uniq Γ = true) (ho : o.op = .makeSlice T x y) (hx : evX [] F0 Γ o x = some (.int k c)) (hy : evX [] F0 Γ o y = some (.int k' c)) (hT : P.underlying T = some (.slice e)) (hz : zeroIs P e = some (some z)) (hsz : sizeIs P e z.cells.size = true) (hby : (P.info? e).map (·.bytes) = some b) (hc : c = (m : Int)) (hm : b * m ≤ 281474976710656) (h63 : m ≤ 9223372036854775807)
    (hg : o.guard = none)
    (hr : DrW P ops Q n F0 Grow w0 L B (kk + 1) r ((kk, o.dst, .sat (NewSl w0.heap.size m e (madeCells z.cells (m * z.cells.size)))) :: Γ)) (hl : memB L kk = false := by rfl) : DrW P ops Q n F0 Grow w0 L B kk (o :: r) Γ :=
  Dr.make hu NewSl.stable hg (fun w hG => ⟨_, _, Runs.makeN ho hx hy hT hz hsz hby hc hm h63, (new_of w _ e).below, w.heap.size, rfl, (new_of w _ e).blk, hG.size⟩) hr hl
end
theorem made_i64 (m : Nat) : madeCells (Value.int .i64 0).cells (m * (Value.int .i64 0).cells.size) = ((List.replicate m (0 : Int)).map (Value.int .i64)).toArray := by
  show madeCells #[Value.int .i64 0] (m * 1) = _
  rw [Nat.mul_one, madeCells_one, List.map_replicate]
theorem made_u64 (m : Nat) : madeCells (Value.int .u64 0).cells (m * (Value.int .u64 0).cells.size) = ((List.replicate m (0 : Nat)).map (fun (d : Nat) => Value.int .u64 (d : Int))).toArray := by
  show madeCells #[Value.int .u64 0] (m * 1) = _
  rw [Nat.mul_one, madeCells_one, List.map_replicate]; rfl
section
variable {P : Program} {ops : Array Oper} {Q : Exit → Act → World → Prop} {rest : List Oper} {o : Oper} {n d : Nat} {F : List (Nat × Value)} {C : Cxs} {w w' : World} {v : Value} {c : Bool} {H : List (Nat × Value)}
/-- The first operation under a new guard: the guard's slot lies in the innermost context. -/
theorem SeqC.openC {f : FuncId} {args : Array Value} {j t : Nat} {b want : Bool} (hg : o.guard = some (j, want)) (ht : (ops[j]?).bind (·.dst) = some t) (hb : look (match C with | [] => F | (_, H) :: _ => H) t = some (.bool b)) (hd : o.dst = some d) (hn : Nat.blt d n = true) (hf : freeX d C F = true) (hdt : Nat.beq d t = false)
    (hrun : (topX C && (b == want)) = true → Enters P (evF (allX C F)) o w f args) (hcall : (topX C && (b == want)) = true → Calls P f args w fun e w' => e = .returned v ∧ Grow w w') (h : ∀ w', Grow w w' → SeqC P ops Q rest n ((topX C && (b == want), [(d, v)]) :: C) F w') : SeqC P ops Q (o :: rest) n C F w := by
  intro a ha hC
  refine wpList_step fun K hK => ?_
  have hwant : Region.wanted o (yielded ops a.tmps) = (topX C && (b == want)) := by
    have hy : yielded ops a.tmps j = if topX C = true then some b else none := by
      unfold yielded
      simp only [ht, Option.bind_some]
      cases C with
      | nil => simp [topX, ha.slot t _ hb]
      | cons x r =>
        obtain ⟨c1, H1⟩ := x
        obtain ⟨h1, h2, h3, h4⟩ := hC
        cases c1
        · simp [topX, h3 rfl t _ hb, undef]
        · simp [topX, h2 rfl t _ hb]
    unfold Region.wanted
    simp only [hg, hy]
    cases topX C <;> cases b <;> cases want <;> rfl
  rw [hwant]
  have hbase := freeX_base hf
  cases hc : (topX C && (b == want)) with
  | true =>
    rw [if_pos rfl]
    have htop : topX C = true := by simp only [Bool.and_eq_true] at hc; exact hc.1
    unfold Oper.wp
    rw [hrun hc a.eval (hC.fr ha htop).ev, Oper.upon_enter, hd]
    refine (hcall hc).mono fun e w' ⟨he', hgr⟩ => ?_
    subst he'
    refine hK _ _ (h _ hgr _ (ha.keep hbase) ⟨fun _ => htop, fun _ t' u hu => ?_, fun e => (by rw [hc] at e; cases e), hC.put hf⟩)
    rcases look_put hu with ⟨rfl, rfl⟩ | ⟨-, hu⟩
    · simp [Act.put, ha.size, Nat.blt_eq.mp hn]
    · cases hu
  | false =>
    rw [if_neg (by simp), hd]
    refine hK _ _ (h _ (Grow.refl _) _ (ha.keep hbase) ⟨fun e => (by rw [hc] at e; cases e), fun e => (by rw [hc] at e; cases e), fun _ t' u hu => ?_, hC.put hf⟩)
    rcases look_put hu with ⟨rfl, rfl⟩ | ⟨-, hu⟩
    · simp [Act.put, ha.size, Nat.blt_eq.mp hn]
    · cases hu
/-- The next ones under the same guard. -/
theorem SeqC.nextC {f : FuncId} {args : Array Value} {j t : Nat} {b want : Bool} {c0 : Bool} (hg : o.guard = some (j, want)) (ht : (ops[j]?).bind (·.dst) = some t) (hb : look (match C with | [] => F | (_, H) :: _ => H) t = some (.bool b)) (hc0 : c0 = (topX C && (b == want))) (hd : o.dst = some d) (hn : Nat.blt d n = true) (hf : freeX d ((c0, H) :: C) F = true)
    (hrun : c0 = true → Enters P (evF (allX ((c0, H) :: C) F)) o w f args) (hcall : c0 = true → Calls P f args w fun e w' => e = .returned v ∧ Grow w w') (h : ∀ w', Grow w w' → SeqC P ops Q rest n ((c0, (d, v) :: H) :: C) F w') : SeqC P ops Q (o :: rest) n ((c0, H) :: C) F w := by
  intro a ha hC
  obtain ⟨h1, h2, h3, h4⟩ := id hC
  refine wpList_step fun K hK => ?_
  have hwant : Region.wanted o (yielded ops a.tmps) = c0 := by
    rw [hc0]
    have hy : yielded ops a.tmps j = if topX C = true then some b else none := by
      unfold yielded
      simp only [ht, Option.bind_some]
      cases C with
      | nil => simp [topX, ha.slot t _ hb]
      | cons x r =>
        obtain ⟨c1, H1⟩ := x
        obtain ⟨g1, g2, g3, g4⟩ := h4
        cases c1
        · simp [topX, g3 rfl t _ hb, undef]
        · simp [topX, g2 rfl t _ hb]
    unfold Region.wanted
    simp only [hg, hy]
    cases topX C <;> cases b <;> cases want <;> rfl
  rw [hwant]
  have hbase := freeX_base hf
  have hne : ∀ t u, look H t = some u → d ≠ t := fun t u ht e => by
    subst e
    simp only [freeX, Bool.and_eq_true] at hf
    rw [ht] at hf; simp at hf
  have hf2 : freeX d C F = true := by simp only [freeX, Bool.and_eq_true] at hf; exact hf.2
  cases hc : c0 with
  | true =>
    rw [if_pos rfl]
    unfold Oper.wp
    rw [hrun hc a.eval (HoldX.fr ha hC hc).ev, Oper.upon_enter, hd]
    refine (hcall hc).mono fun e w' ⟨he', hgr⟩ => ?_
    subst he'
    refine hK _ _ (h _ hgr _ (ha.keep hbase) ⟨h1, fun _ t' u hu => ?_, fun e => (by rw [hc] at e; cases e), h4.put hf2⟩)
    rcases look_put hu with ⟨rfl, rfl⟩ | ⟨-, hu⟩
    · simp [Act.put, ha.size, Nat.blt_eq.mp hn]
    · simp only [Act.put]; rw [Array.getElem?_setIfInBounds_ne (hne t' u hu)]; exact h2 hc t' u hu
  | false =>
    rw [if_neg (by simp), hd]
    refine hK _ _ (h _ (Grow.refl _) _ (ha.keep hbase) ⟨h1, fun e => (by rw [hc] at e; cases e), fun _ t' u hu => ?_, h4.put hf2⟩)
    rcases look_put hu with ⟨rfl, rfl⟩ | ⟨-, hu⟩
    · simp [Act.put, ha.size, Nat.blt_eq.mp hn]
    · simp only [Act.put]; rw [Array.getElem?_setIfInBounds_ne (hne t' u hu)]; exact h3 hc t' u hu
end
end Go.Proofs.YtefpejnmhlhnkaaGreatDoor
