/-
  slices.Clone and Delete over files. Condition: the files are few.
-/
import Derived.Test.YthcimkhnijnmgaaSrtG
namespace Go.Proofs.Ythcimkhnijnmgaa
open Go.RowKit

section
variable {P : Program} {E : Operand → Option Value} {o : Oper} {w : World} {x y z u : Operand} {T : TypeId}
theorem Runs.sliceLo {k : IntKind} {A : Option Addr} {n c e s j : Nat} {p : Int} (ho : o.op = .slice T x (some y) none none) (hx : E x = some (.slice A n c)) (hy : E y = some (.int k p)) (hT : P.underlying T = some (.slice e)) (hs : sizeIs P e s = true) (hp : p = (j : Int)) (hj : j ≤ n) : Runs P E o w (sliced A j n c s) w := fun ρ h => by
  subst hp
  have he : P.elem T = e := by simp [Program.elem, hT]
  have hT' : P.underlying T = some (.slice (P.elem T)) := by rw [he]; exact hT
  obtain ⟨i, hi, hsz⟩ := sizeIs_spec hs
  have h1 := run_slice_l (P := P) (w := w) T A n c hT' k (j : Int) (by omega) (by omega)
  rw [he, run_sizeOf (h := hi)] at h1
  unfold execOp; simp only [ho, Option.map_some, Option.map_none]; rw [h _ _ hx, h _ _ hy]
  simp only [Sem.run_bind, run_sliceAt_slice (h := hT'), h1, Result.andThen_ok]
  have hcs : P.cellsOf e = s := by simp [Program.cellsOf, hi, hsz]
  rw [Int.toNat_natCast, hcs]
  rfl
theorem Runs.sliceLH {k k' : IntKind} {A : Option Addr} {n c e s i j : Nat} {p q : Int} (ho : o.op = .slice T x (some y) (some z) none) (hx : E x = some (.slice A n c)) (hy : E y = some (.int k p)) (hz : E z = some (.int k' q)) (hT : P.underlying T = some (.slice e)) (hs : sizeIs P e s = true) (hp : p = (i : Int)) (hq : q = (j : Int)) (hij : i ≤ j) (hj : j ≤ c) : Runs P E o w (sliced A i j c s) w := fun ρ h => by
  subst hp hq
  have he : P.elem T = e := by simp [Program.elem, hT]
  have hT' : P.underlying T = some (.slice (P.elem T)) := by rw [he]; exact hT
  obtain ⟨f, hi, hsz⟩ := sizeIs_spec hs
  have h1 := run_slice_lh (P := P) (w := w) T A n c hT' k k' (i : Int) (j : Int) (by omega) (by omega) (by omega)
  rw [he, run_sizeOf (h := hi)] at h1
  unfold execOp; simp only [ho, Option.map_some, Option.map_none]; rw [h _ _ hx, h _ _ hy, h _ _ hz]
  simp only [Sem.run_bind, run_sliceAt_slice (h := hT'), h1, Result.andThen_ok]
  have hcs : P.cellsOf e = s := by simp [Program.cellsOf, hi, hsz]
  rw [Int.toNat_natCast, Int.toNat_natCast, hcs]
  rfl
theorem Runs.sliceLHM {k k' k'' : IntKind} {A : Option Addr} {n c e s i j m : Nat} {p q r : Int} (ho : o.op = .slice T x (some y) (some z) (some u)) (hx : E x = some (.slice A n c)) (hy : E y = some (.int k p)) (hz : E z = some (.int k' q)) (hu : E u = some (.int k'' r)) (hT : P.underlying T = some (.slice e)) (hs : sizeIs P e s = true) (hp : p = (i : Int)) (hq : q = (j : Int)) (hr : r = (m : Int)) (hij : i ≤ j) (hj : j ≤ m) (hm : m ≤ c) : Runs P E o w (sliced A i j m s) w := fun ρ h => by
  subst hp hq hr
  have he : P.elem T = e := by simp [Program.elem, hT]
  have hT' : P.underlying T = some (.slice (P.elem T)) := by rw [he]; exact hT
  obtain ⟨f, hi, hsz⟩ := sizeIs_spec hs
  have h1 := run_slice_lhm (P := P) (w := w) T A n c hT' k k' k'' (i : Int) (j : Int) (m : Int) (by omega) (by omega) (by omega) (by omega)
  rw [he, run_sizeOf (h := hi)] at h1
  unfold execOp; simp only [ho, Option.map_some, Option.map_none]; rw [h _ _ hx, h _ _ hy, h _ _ hz, h _ _ hu]
  simp only [Sem.run_bind, run_sliceAt_slice (h := hT'), h1, Result.andThen_ok]
  have hcs : P.cellsOf e = s := by simp [Program.cellsOf, hi, hsz]
  rw [Int.toNat_natCast, Int.toNat_natCast, Int.toNat_natCast, hcs]
  rfl
end
section
variable {P : Program} {ops : Array Oper} {Q : Exit → Act → World → Prop} {rest : List Oper} {o : Oper} {n d : Nat} {F : List (Nat × Value)} {w : World} {x y : Operand}
/-- An append within what there is room for. -/
theorem Seq.appendRoom {t e size k m c cap g : Nat} {A : Option Addr} {news : List Value} {cur : Array Value} (ho : o.op = .call { callee := .builtin .append, args := #[x, y], argTypes := #[t, t] }) (hx : evF F x = some (.slice (some ⟨g, 0, none⟩) k cap)) (hy : evF F y = some (.slice A m c)) (ht : P.underlying t = some (.slice e)) (hs : sizeIs P e size = true)
    (hb : Blk w g e cur) (hl : news.length = m * size) (hA : A = none → m = 0 ∧ False) (hnews : ∀ a, A = some a → ∀ j u, news[j]? = some u → w.cell? (a.add j) = some u) (h1 : ∀ u ∈ news, u.oneCell' = true) (hroom : k + m ≤ cap) (hfit : k * size + news.length ≤ cur.size) (hg : o.guard = none) (hd : o.dst = some d) (hn : Nat.blt d n = true)
    (h : ∀ w', Blk w' g e (cur.toList.take (k * size) ++ news ++ cur.toList.drop (k * size + news.length)).toArray → w.grownBy w' (some g) → Seq P ops Q rest n ((d, .slice (some ⟨g, 0, none⟩) (k + m) cap) :: F) w') : Seq P ops Q (o :: rest) n F w := by
  obtain ⟨i, hi, hisz⟩ := sizeIs_spec hs
  subst hisz
  cases A with
  | none => exact (hA rfl).2.elim
  | some a =>
    have hr := run_append_room (P := P) w t o.type e i ht hi g k cap cur hb a m c news hl (hnews a rfl) h1 hroom hfit
    refine Seq.val (fun ρ hρ => ?_) hg hd hn (h _ (setRow_heap w g cur _ e _ hb) (grownBy_setRow w g _))
    unfold execOp
    simp only [ho, resolve, invoke, builtin, Sem.run_bind, Sem.run_pure, Result.andThen_ok, List.map_toArray, List.map_cons, List.map_nil, hρ _ _ hx, hρ _ _ hy, hr]
theorem Seq.clearR {t e g off m c : Nat} {z : Value} {A : Option Addr} {cur : Array Value} (ho : o.op = .call { callee := .builtin .clear, args := #[x], argTypes := #[t] }) (hx : evF F x = some (.slice A m c)) (ht : P.underlying t = some (.slice e)) (hz : ∀ w, (zeroValue e).run P w = .ok z w) (hz1 : ∀ u ∈ z.cells.toList, u.oneCell' = true) (hzs : 0 < z.cells.size) (hA : 0 < m → A = some ⟨g, off, none⟩)
    (hb : Blk w g e cur) (hfit : off + m * z.cells.size ≤ cur.size) (hg : o.guard = none) (hd : o.dst = none)
    (h : ∀ w' cur', Blk w' g e cur' → cur'.size = cur.size → cur'.toList.take off = cur.toList.take off → w.grownBy w' (some g) → Seq P ops Q rest n F w') : Seq P ops Q (o :: rest) n F w := by
  intro a ha
  exact wpList_clear_row hg x t ho hd e z ht hz hz1 hzs g off m c A (ha.ev _ _ hx) hA cur hb hfit fun w' cur' h1 h2 h3 h4 _ => h w' cur' h1 h2 h3 h4 a ha
end
theorem addr_plain (g k : Nat) : (⟨g, 0, none⟩ : Addr).add k = ⟨g, k, none⟩ := by unfold Addr.add; split <;> simp_all
theorem ones_fcs (d : List Fl) : ∀ u ∈ fcs d, u.oneCell' = true := fun u hu => by
  unfold fcs at hu
  rw [List.mem_flatMap] at hu
  obtain ⟨f, -, hu⟩ := hu
  simp at hu
  rcases hu with rfl | rfl | rfl | rfl | rfl | rfl <;> rfl
theorem reads_rw {w : World} {g : Nat} {d : List Fl} {pad : List Value} (k : Blk w g 37 (fcs d ++ pad).toArray) : Reads w w.heap.size 6 (some ⟨g, 0, none⟩) d.length (fcs d) := by
  refine ⟨fcs_len d, fun _ => ⟨_, rfl, k.lt, fun j u hu => ?_⟩⟩
  have hplain : (⟨g, 0, none⟩ : Addr).add j = ⟨g, j, none⟩ := by unfold Addr.add; split <;> simp_all
  rw [hplain, cell_of_row _ _ _ _ _ _ k, List.getElem?_toArray, List.getElem?_append_left (List.getElem?_eq_some_iff.1 hu).1]
  exact hu
theorem own_blk {w : World} {B n : Nat} {v : Value} {d : List Fl} (o : Own w B 37 6 v n (fcs d)) (hn : 0 < n) : ∃ g cap pad, v = .slice (some ⟨g, 0, none⟩) n cap ∧ B ≤ g ∧ n ≤ cap ∧ Blk w g 37 (fcs d ++ pad).toArray ∧ d.length * 6 + pad.length = cap * 6 := by
  obtain ⟨h1, h2⟩ := o.row
  rcases h2 with ⟨-, h⟩ | ⟨g, cap, cur, e1, e2, e3, e4, e5, e6, e7⟩
  · omega
  · have hl : cur.toList.length = cap * 6 := by rw [Array.length_toList]; exact e6
    have hc : cur.toList = fcs d ++ cur.toList.drop (n * 6) := by rw [← e7, List.take_append_drop]
    refine ⟨g, cap, cur.toList.drop (n * 6), e1, e2, e4, ?_, ?_⟩
    · rw [← hc]
      exact e3
    · have := congrArg List.length hc
      rw [List.length_append, fcs_len] at this
      omega
theorem clone_any (c n : Nat) (A : Option Addr) (d : List Fl) (w : World) (hr : Reads w w.heap.size 6 A n (fcs d)) (h0 : 0 < n) (hn : n ≤ 1000) : Calls Try.prog 21 #[.slice A n c] w fun e w' => Grow w w' ∧ ∃ v, e = .returned v ∧ Own w' w.heap.size 37 6 v n (fcs d) := by
  have bel := Below.refl w.heap.size w
  obtain ⟨ad, rfl, hb, hc⟩ := hr.2 h0
  refine Calls.start 8 Try.func21 rfl rfl rfl ?_
  refine Cd.seq ?_
  refine Cd.region ?_
  refine Seq.val (Runs.assign rfl rfl) rfl rfl rfl ?_
  refine Seq.nil ?_
  refine Post.weak (F' := [(0, _), (2, _)]) ⟨rfl, rfl, trivial⟩ ?_
  refine Post.then_ ?_
  refine Cd.seq ?_
  refine Cd.seq ?_
  refine Cd.region ?_
  refine Seq.val (Runs.move rfl rfl) rfl rfl rfl ?_
  refine Seq.val (Runs.eqlN rfl rfl rfl Try.underlying27) rfl rfl rfl ?_
  refine Seq.nil ?_
  refine Post.weak (F' := [(0, _), (2, _), (4, _)]) ⟨rfl, rfl, rfl, trivial⟩ ?_
  refine Post.then_ ?_
  refine Cd.condF rfl rfl ?_
  refine Cd.skip ?_
  refine Post.then_ ?_
  refine Cd.seq ?_
  refine Cd.region ?_
  refine Seq.slice (vs := []) (s := 6) rfl rfl rfl Try.underlying27 (by kernel_rfl) (zero_edit_File) (by omega) (by omega) trivial rfl rfl rfl ?_
  intro g5 w1 n5
  have e5 := Nat.le_trans bel.size n5.ge
  replace bel := bel.step n5.below
  have k5 := n5.blk
  refine Seq.val (Runs.move rfl rfl) rfl rfl rfl ?_
  have own : Own _ w.heap.size 37 6 (.slice (some ⟨g5, 0, none⟩) 0 0) 0 [] := ⟨⟨by simp, .inr ⟨g5, 0, #[], rfl, e5, k5, Nat.le_refl _, by simp only [maxLen]; omega, by simp, by simp⟩⟩⟩
  refine Seq.append rfl rfl rfl Try.underlying27 (by kernel_rfl) zero_edit_File rfl (by decide) (b := 64) (by kernel_rfl) own ((hr.below bel).more bel.size) (ones_fcs d) bel.size (by simp only [maxLen]; omega) (by omega) rfl rfl rfl ?_
  intro v9 wa own9 ha
  replace bel := bel.trans ha.below
  rw [Nat.zero_add, List.nil_append] at own9
  refine Seq.val (Runs.assign rfl rfl) rfl rfl rfl ?_
  refine Seq.nil ?_
  refine Post.weak (F' := [(0, _), (2, _), (4, _)]) ⟨rfl, rfl, rfl, trivial⟩ ?_
  refine Post.then_ ?_
  refine Cd.ret ?_
  refine Post.end1 rfl rfl (.inl rfl) ?_
  exact ⟨bel, v9, rfl, own9⟩
set_option maxHeartbeats 1000000 in
theorem delete_any (g cap n i : Nat) (X Y : List Fl) (f : Fl) (pad : List Value) (w : World) (hN : n = (X ++ f :: Y).length) (hi : i = X.length) (hcap : n ≤ cap) (k0 : Blk w g 37 (fcs (X ++ f :: Y) ++ pad).toArray) (hpad : n * 6 + pad.length = cap * 6) :
    Calls Try.prog 24 #[.slice (some ⟨g, 0, none⟩) n cap, .int .i64 (i : Int), .int .i64 ((i + 1 : Nat) : Int)] w fun e w' => ∃ pad', e = .returned (.slice (some ⟨g, 0, none⟩) (X ++ Y).length cap) ∧ Blk w' g 37 (fcs (X ++ Y) ++ pad').toArray ∧ (X ++ Y).length * 6 + pad'.length = cap * 6 ∧ Onl w w' g := by
  have only := Onl.refl w g
  have hXY : (X ++ Y).length + 1 = n := by rw [hN]; simp only [List.length_append, List.length_cons]; omega
  simp only [List.length_append, List.length_cons] at hN
  refine Calls.start 33 Try.func24 rfl rfl rfl ?_
  refine Cd.seq ?_
  refine Cd.region ?_
  refine Seq.val (Runs.assign rfl rfl) rfl rfl rfl ?_
  refine Seq.nil ?_
  refine Post.weak (F' := [(0, _), (1, _), (2, _), (6, _)]) ⟨rfl, rfl, rfl, rfl, trivial⟩ ?_
  refine Post.then_ ?_
  refine Cd.seq ?_
  refine Cd.region ?_
  refine Seq.val (Runs.move rfl rfl) rfl rfl rfl ?_
  refine Seq.val (Runs.move rfl rfl) rfl rfl rfl ?_
  refine Seq.val (Runs.move rfl rfl) rfl rfl rfl ?_
  refine Seq.val (Runs.move rfl rfl) rfl rfl rfl ?_
  refine Seq.val (Runs.len rfl rfl Try.underlying27) rfl rfl rfl ?_
  refine Seq.val (Runs.sliceLHM (s := 6) (i := i) (j := i + 1) (m := n) rfl rfl rfl rfl rfl Try.underlying27 (by kernel_rfl) rfl rfl rfl (by omega) (by omega) hcap) rfl rfl rfl ?_
  refine Seq.nil ?_
  refine Post.weak (F' := [(0, _), (1, _), (2, _), (6, _)]) ⟨rfl, rfl, rfl, rfl, trivial⟩ ?_
  refine Post.then_ ?_
  refine Cd.seq ?_
  refine Cd.seq ?_
  refine Cd.region ?_
  refine Seq.val (Runs.move rfl rfl) rfl rfl rfl ?_
  refine Seq.val (Runs.move rfl rfl) rfl rfl rfl ?_
  refine Seq.val (Runs.eqlI rfl rfl rfl) rfl rfl rfl ?_
  refine Seq.nil ?_
  refine Post.weak (F' := [(0, _), (1, _), (2, _), (6, _), (16, _)]) ⟨rfl, rfl, rfl, rfl, rfl, trivial⟩ ?_
  refine Post.then_ ?_
  refine Cd.condF rfl (decide_eq_false (by omega)) ?_
  refine Cd.skip ?_
  refine Post.then_ ?_
  refine Cd.seq ?_
  refine Cd.region ?_
  refine Seq.val (Runs.move rfl rfl) rfl rfl rfl ?_
  refine Seq.val (Runs.len rfl rfl Try.underlying27) rfl rfl rfl ?_
  refine Seq.val (Runs.assign rfl rfl) rfl rfl rfl ?_
  refine Seq.nil ?_
  refine Post.weak (F' := [(0, _), (1, _), (2, _), (6, _), (7, _), (16, _)]) ⟨rfl, rfl, rfl, rfl, rfl, rfl, trivial⟩ ?_
  refine Post.then_ ?_
  refine Cd.seq ?_
  refine Cd.draw 6 (by kernel_rfl) [] (.inl rfl) rfl Grow Grow.refl (fun _ _ _ => Grow.trans) ?_
  intro w1 hw1 zw1
  replace k0 := k0.step hw1
  replace only := only.step hw1
  have zlt := k0.lt
  refine Dr.val Grow.refl rfl (fun w hG => Runs.move rfl rfl) rfl ?_
  refine Dr.val Grow.refl rfl (fun w hG => Runs.move rfl rfl) rfl ?_
  refine Dr.val Grow.refl rfl (fun w hG => Runs.sliceN (s := 6) (j := i) rfl rfl rfl Try.underlying27 (by kernel_rfl) rfl (by omega)) rfl ?_
  refine Dr.val Grow.refl rfl (fun w hG => Runs.move rfl rfl) rfl ?_
  refine Dr.val Grow.refl rfl (fun w hG => Runs.move rfl rfl) rfl ?_
  refine Dr.val Grow.refl rfl (fun w hG => Runs.sliceLo (s := 6) (j := i + 1) rfl rfl rfl Try.underlying27 (by kernel_rfl) rfl (by omega)) rfl ?_
  refine FinX.done (F' := [(0, _), (1, _), (2, _), (6, _), (7, _), (16, _), (22, _), (25, _)]) rfl ⟨rfl, rfl, rfl, rfl, rfl, rfl, rfl, rfl, trivial⟩ ?_
  intro w2 hw2 fw2
  replace k0 := k0.step hw2
  replace only := only.step hw2
  have hlX : (fcs X).length = i * 6 := by rw [fcs_len, hi]
  have hlY : (fcs Y).length = (n - (i + 1)) * 6 := by rw [fcs_len]; omega
  have hf6 : (fcs [f]).length = 6 := by rw [fcs_len]; rfl
  have hcut : fcs (X ++ f :: Y) ++ pad = fcs X ++ (fcs [f] ++ (fcs Y ++ pad)) := by
    rw [show X ++ f :: Y = X ++ ([f] ++ Y) from rfl, fcs_append, fcs_append]
    simp only [List.append_assoc]
  have hrow : ∀ (j : Nat) (u : Value), (fcs Y)[j]? = some u → (fcs (X ++ f :: Y) ++ pad).toArray[(i + 1) * 6 + j]? = some u := fun j u hu => by
    rw [List.getElem?_toArray, hcut, List.getElem?_append_right (by omega), List.getElem?_append_right (by omega), show (i + 1) * 6 + j - (fcs X).length - (fcs [f]).length = j by omega, List.getElem?_append_left (List.getElem?_eq_some_iff.1 hu).1]
    exact hu
  refine Seq.appendRoom (size := 6) (news := fcs Y) (m := n - (i + 1)) rfl rfl rfl Try.underlying27 (by kernel_rfl) k0 hlY ?_ ?_ (ones_fcs Y) (by omega) ?_ rfl rfl rfl ?_
  · intro hA
    split at hA <;> simp at hA
  · intro a ha j u hu
    split at ha
    · have : (fcs Y).length = 0 := by omega
      rw [List.length_eq_zero_iff.1 this] at hu
      cases hu
    · simp at ha
      subst ha
      rw [add_of_add, addr_plain, cell_of_row _ _ _ _ _ _ k0]
      exact hrow j u hu
  · show i * 6 + (fcs Y).length ≤ (fcs (X ++ f :: Y) ++ pad).length
    rw [hcut]
    simp only [List.length_append]
    omega
  intro wz kz oz
  have only2 := only.trans ⟨oz⟩
  obtain ⟨e, he⟩ : ∃ e, e = (X ++ Y).length := ⟨_, rfl⟩
  have hel : e = X.length + Y.length := by rw [he, List.length_append]
  rw [← he] at hXY ⊢
  have hk : i + (n - (i + 1)) = e := by omega
  obtain ⟨pad1, hp1⟩ : ∃ p, p = (fcs (X ++ f :: Y) ++ pad).drop (i * 6 + (fcs Y).length) := ⟨_, rfl⟩
  have hpl : pad1.length = pad.length + 6 := by
    rw [hp1, List.length_drop, hcut]
    simp only [List.length_append]
    omega
  have k0' : Blk wz g 37 (fcs (X ++ Y) ++ pad1).toArray := by
    have ht : (fcs (X ++ f :: Y) ++ pad).take (i * 6) = fcs X := by rw [hcut]; exact List.take_left' hlX
    have e1 : ((fcs (X ++ f :: Y) ++ pad).toArray.toList.take (i * 6) ++ fcs Y ++ (fcs (X ++ f :: Y) ++ pad).toArray.toList.drop (i * 6 + (fcs Y).length)).toArray = (fcs (X ++ Y) ++ pad1).toArray := by
      congr 1
      show (fcs (X ++ f :: Y) ++ pad).take (i * 6) ++ fcs Y ++ (fcs (X ++ f :: Y) ++ pad).drop (i * 6 + (fcs Y).length) = _
      rw [ht, ← hp1, fcs_append]
    rw [e1] at kz
    exact kz
  clear k0 kz only
  have k0 := k0'
  have only := only2
  clear k0' only2
  rw [hk]
  refine Seq.val (Runs.assign rfl rfl) rfl rfl rfl ?_
  refine Seq.nil ?_
  refine Post.weak (F' := [(0, _), (1, _), (2, _), (6, _), (7, _), (16, _)]) ⟨rfl, rfl, rfl, rfl, rfl, rfl, trivial⟩ ?_
  refine Post.then_ ?_
  refine Cd.seq ?_
  refine Cd.region ?_
  refine Seq.val (Runs.move rfl rfl) rfl rfl rfl ?_
  refine Seq.val (Runs.move rfl rfl) rfl rfl rfl ?_
  refine Seq.val (Runs.len rfl rfl Try.underlying27) rfl rfl rfl ?_
  refine Seq.val (Runs.move rfl rfl) rfl rfl rfl ?_
  refine Seq.val (Runs.sliceLH (s := 6) (i := e) (j := n) rfl rfl rfl rfl Try.underlying27 (by kernel_rfl) rfl rfl (by omega) hcap) rfl rfl rfl ?_
  have hsz : (fcs (X ++ Y)).length = e * 6 := by rw [fcs_len, he]
  refine Seq.clearR (off := e * 6) (m := n - e) rfl rfl Try.underlying27 (run_zero zero_edit_File) (by intro u hu; simp [Value.cells] at hu; rcases hu with rfl | rfl | rfl | rfl | rfl | rfl <;> rfl) (by decide) (fun _ => by rw [if_neg (by omega)]; simp [addr_plain]) k0 (by show e * 6 + (n - e) * 6 ≤ (fcs (X ++ Y) ++ pad1).length; rw [List.length_append]; omega) rfl rfl ?_
  intro wc cur' kc hcs hct hcg
  have only2 := only.trans ⟨hcg⟩
  have k0' : Blk wc g 37 (fcs (X ++ Y) ++ cur'.toList.drop (e * 6)).toArray := by
    have h1 : cur'.toList.take (e * 6) = fcs (X ++ Y) := by rw [hct]; exact List.take_left' hsz
    rw [← h1, List.take_append_drop]
    exact kc
  have hcl : cur'.toList.length = e * 6 + pad1.length := by
    rw [Array.length_toList, hcs]
    show (fcs (X ++ Y) ++ pad1).length = _
    rw [List.length_append, hsz]
  clear k0 only
  have k0 := k0'
  have only := only2
  clear k0' only2
  refine Seq.nil ?_
  refine Post.weak (F' := [(0, _), (1, _), (2, _), (6, _), (7, _), (16, _)]) ⟨rfl, rfl, rfl, rfl, rfl, rfl, trivial⟩ ?_
  refine Post.then_ ?_
  refine Cd.seq ?_
  refine Cd.region ?_
  refine Seq.val (Runs.move rfl rfl) rfl rfl rfl ?_
  refine Seq.val (Runs.assign rfl rfl) rfl rfl rfl ?_
  refine Seq.nil ?_
  refine Post.weak (F' := [(0, _), (1, _), (2, _), (6, _), (7, _), (16, _)]) ⟨rfl, rfl, rfl, rfl, rfl, rfl, trivial⟩ ?_
  refine Post.then_ ?_
  refine Cd.ret ?_
  refine Post.end1 rfl rfl (.inl rfl) ?_
  exact ⟨_, rfl, k0, by rw [List.length_drop]; omega, only⟩
end Go.Proofs.Ythcimkhnijnmgaa
