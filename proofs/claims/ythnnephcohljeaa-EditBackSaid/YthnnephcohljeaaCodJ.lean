/-
  list.GetAll: what it answers. No condition but that bytes are bytes.
-/
import Derived.Test.YthnnephcohljeaaCodI
namespace Go.Proofs.Ythnnephcohljeaa
open Go.RowKit

theorem Kf.app {g n : Nat} {w0 w w' : World} {v : Value} {B size : Nat} {e : TypeId} {xs : List Value} (h : Kf g w0 w) (_o : Own w B e size v n xs) (ha : App w w' w0.heap.size v) : Kf g w0 w' :=
  ⟨ha.below.os.trans h.only.os, ha.below.tape.trans h.only.tape, ha.below.output.trans h.only.output, Nat.le_trans h.only.size ha.below.size, fun k hk hne => (ha.below.block k hk).trans (h.only.block k hk hne)⟩
theorem Blk.app {k n B B' size : Nat} {w w' : World} {t e : TypeId} {cs : Array Value} {v : Value} {xs : List Value} (h : Blk w k t cs) (o : Own w B e size v n xs) (ha : App w w' B' v) (hne : e ≠ t := by decide) : Blk w' k t cs := h.grown ha.grown (fun e' => own_blk_ne o.row h hne e'.symm)
theorem Rd.app {g n B B' size : Nat} {w w' : World} {T e : TypeId} {q : Option (List Nat)} {v : Value} {xs : List Value} (h : Rd T w g q) (o : Own w B e size v n xs) (ha : App w w' B' v) (hne : e ≠ T := by decide) : Rd T w' g q := by
  obtain ⟨s, b, h1, h2, h3⟩ := h
  exact ⟨s, b, h1.app o ha hne, h2, h3⟩
theorem int_at {a b : Int} (h : a = b) : some (Value.int .i64 a) = some (Value.int .i64 b) := by rw [h]
theorem zero_int : zeroIs Try.prog 3 = some (some (.int .i64 0)) := by kernel_rfl
theorem eg_size : ∀ args w, (callFunc 44 args).run Try.prog w = .ok (.enter 44 args) w := fun args w => run_enter Try.func44 (by kernel_rfl) rfl args w
theorem eg_take : ∀ args w, (callFunc 46 args).run Try.prog w = .ok (.enter 46 args) w := fun args w => run_enter Try.func46 (by kernel_rfl) rfl args w
def DNc (l : List Nat) : List Value := DI (DN l)
def Fc (l : List Fn) : List Value := fcs (l.map Fn.fl)
theorem DNc_snoc (l : List Nat) (x : Nat) : DNc (l ++ [x]) = DNc l ++ [.int .i64 (x : Int)] := by simp [DNc, DI, DN]
theorem Fc_snoc (l : List Fn) (f : Fn) : Fc (l ++ [f]) = Fc l ++ f.fl.cs.toList := by simp [Fc, fcs]
theorem getN_any (g : Nat) (o : Option (List Nat)) (w : World) (h : Rd 124 w g o) : Calls Try.prog 43 #[.pointer (some ⟨g, 0, none⟩), .int .i64 100, .func (.func 44) #[] #[]] w fun e w' => ∃ l : List Nat, (l.length ≤ 100 ∧ (∀ x ∈ l, x < 9223372036854775808) ∧ val1 (getP sizeP 100) o l ∧ ∃ A c, e = .returned (.slice A l.length c) ∧ Own w' w.heap.size 3 1 (.slice A l.length c) l.length (DNc l)) ∧ Kf g w w' ∧ Rd 124 w' g (rest (getP sizeP 100) o) := by
  have rd := h
  have kf := Kf.refl g w
  have hdef : o.bind (getP sizeP 100) = (o.bind sizeP).bind fun x => if x.1 ≤ 100 then listP sizeP x.1 [] x.2 else none := by cases o <;> rfl
  refine Calls.start 34 Try.func43 rfl rfl rfl ?_
  refine Cd.seq ?_
  refine Cd.region ?_
  refine Seq.val (Runs.assign rfl rfl) rfl rfl rfl ?_
  refine Seq.nil ?_
  refine Post.weak (F' := [(0, _), (1, _), (2, _), (6, _)]) ⟨rfl, rfl, rfl, rfl, trivial⟩ ?_
  refine Post.then_ ?_
  refine Cd.seq ?_
  refine Cd.region ?_
  refine Seq.val (Runs.move rfl rfl) rfl rfl rfl ?_
  refine Seq.call (Enters.func rfl rfl rfl (run_enter Try.func44 (by kernel_rfl) rfl)) rfl rfl rfl (rsize_any g o _ rd) ?_
  rintro e w1 ⟨n, ⟨hn, hv, rfl⟩, fw1, rd'⟩
  refine ⟨_, rfl, ?_⟩
  replace kf := kf.kf fw1 rd
  replace rd := rd'
  clear rd'
  refine Seq.val (Runs.assign rfl rfl) rfl rfl rfl ?_
  refine Seq.nil ?_
  refine Post.weak (F' := [(0, _), (1, _), (2, _), (6, _), (7, _)]) ⟨rfl, rfl, rfl, rfl, rfl, trivial⟩ ?_
  refine Post.then_ ?_
  refine Cd.seqJ (σ := Option (List Nat)) (fun _ => [(0, .pointer (some ⟨g, 0, none⟩)), (2, .func (.func 44) #[] #[]), (7, .int .i64 (n : Int))]) (fun q wr => Kf g w wr ∧ Rd 124 wr g q ∧ q.bind (listP sizeP n []) = o.bind (getP sizeP 100) ∧ (q.isSome = true → n ≤ 100)) ?_ ?_
  · skip
    refine Cd.seq ?_
    refine Cd.region ?_
    refine Seq.val (Runs.move rfl rfl) rfl rfl rfl ?_
    refine Seq.val (Runs.move rfl rfl) rfl rfl rfl ?_
    refine Seq.val (Runs.gtr rfl rfl rfl) rfl rfl rfl ?_
    refine Seq.nil ?_
    refine Post.weak (F' := [(0, _), (1, _), (2, _), (6, _), (7, _), (13, _)]) ⟨rfl, rfl, rfl, rfl, rfl, rfl, trivial⟩ ?_
    refine Post.then_ ?_
    refine Cd.condD rfl (fun hc => ?_) (fun hc => ?_)
    · skip
      refine Cd.region ?_
      refine Seq.val (Runs.move rfl rfl) rfl rfl rfl ?_
      refine Seq.call (Enters.func rfl rfl rfl (run_enter Try.func78 (by kernel_rfl) rfl)) rfl rfl rfl (rraw_any g (-1) _ _ rd) ?_
      rintro e w2 ⟨rfl, fw2, rd'⟩
      refine ⟨_, rfl, ?_⟩
      replace kf := kf.kf fw2 rd
      replace rd := rd'
      clear rd'
      have hb : ∀ q : Option (List Nat), q.bind (rawP (-1)) = none := fun q => by
        cases q with
        | none => rfl
        | some s => show rawP (-1) s = none; unfold rawP; rw [if_neg (by omega)]
      rw [rest_none (hb _)] at rd
      refine Seq.nil ?_
      refine Post.weak (F' := [(0, _), (1, _), (2, _), (6, _), (7, _), (13, _)]) ⟨rfl, rfl, rfl, rfl, rfl, rfl, trivial⟩ ?_
      refine Post.join none ⟨rfl, rfl, rfl, trivial⟩ ⟨kf, rd, ?_, by simp⟩
      rw [hdef]
      cases hx : o.bind sizeP with
      | none => rfl
      | some x =>
        have := hv x.1 x.2 hx
        show none = if x.1 ≤ 100 then _ else none
        rw [if_neg (by omega)]
    · skip
      refine Cd.skip ?_
      refine Post.join (rest sizeP o) ⟨rfl, rfl, rfl, trivial⟩ ⟨kf, rd, ?_, fun _ => by omega⟩
      rw [hdef]
      cases hx : o.bind sizeP with
      | none => rw [rest_none hx]; rfl
      | some x =>
        obtain ⟨m, r⟩ := x
        have := hv m r hx
        subst this
        rw [rest_some hx]
        show listP sizeP n [] r = if n ≤ 100 then _ else none
        rw [if_pos (by omega)]
  clear kf rd
  rintro q0 wr ⟨kf, rd, hq0, hq1⟩
  obtain ⟨R, hFIN⟩ : ∃ R, R = o.bind (getP sizeP 100) := ⟨_, rfl⟩
  rw [← hFIN] at hq0
  refine Cd.seq ?_
  refine Cd.region ?_
  refine Seq.val (Runs.assign rfl rfl) rfl rfl rfl ?_
  refine Seq.nil ?_
  refine Post.weak (F' := [(0, _), (2, _), (7, _), (8, _)]) ⟨rfl, rfl, rfl, rfl, trivial⟩ ?_
  refine Post.then_ ?_
  refine Cd.seq ?_
  refine Cd.block ?_
  have own : Own wr w.heap.size 3 1 (.slice none 0 0) 0 [] := Own.nil _ _ _ _
  refine Cd.loop (σ := Nat × List Nat × Value × Option (List Nat)) (fun s => [(0, .pointer (some ⟨g, 0, none⟩)), (2, .func (.func 44) #[] #[]), (7, .int .i64 (s.1 : Int)), (8, s.2.2.1)])
    (fun s wr => s.1 < 9223372036854775808 ∧ s.2.1.length ≤ 100 ∧ (s.2.2.2.isSome = true → s.2.1.length + s.1 ≤ 100) ∧ (∀ x ∈ s.2.1, x < 9223372036854775808) ∧ s.2.2.2.bind (listP sizeP s.1 s.2.1) = R ∧ Kf g w wr ∧ Rd 124 wr g s.2.2.2 ∧ Own wr w.heap.size 3 1 s.2.2.1 s.2.1.length (DNc s.2.1)) (fun s => s.1) (n, [], .slice none 0 0, q0) ⟨hn, Nat.zero_le _, fun h => by simpa using hq1 h, by simp, hq0, kf, rd, own⟩ ⟨rfl, rfl, rfl, rfl, trivial⟩ ?_
  clear kf rd
  clear own
  rintro ⟨k, acc, v, q⟩ wr ⟨hk, hacc, hsome, hall, hR, kf, rd, own⟩
  simp only at hk hacc hsome hall hR rd own
  show Cd _ _ _ _ [(0, .pointer (some ⟨g, 0, none⟩)), (2, .func (.func 44) #[] #[]), (7, .int .i64 (k : Int)), (8, v)] _
  refine Cd.seq ?_
  refine Cd.seq ?_
  refine Cd.region ?_
  refine Seq.val (Runs.move rfl rfl) rfl rfl rfl ?_
  refine Seq.val (Runs.gtr rfl rfl rfl) rfl rfl rfl ?_
  refine Seq.val (Runs.move rfl rfl) rfl rfl rfl ?_
  refine SeqC.start ?_
  refine SeqC.open rfl rfl rfl rfl rfl rfl rfl (fun hcx => Runs.move rfl rfl) ?_
  refine SeqC.nextC rfl rfl rfl rfl rfl rfl rfl (fun hcx => Enters.func rfl rfl rfl (run_enter Try.func79 (by kernel_rfl) rfl)) (fun hcx => good_any g q _ rd) ?_
  intro w2 hw2
  replace kf := kf.step hw2
  replace rd := rd.step hw2
  replace own := own.step hw2
  refine SeqC.and rfl rfl rfl rfl rfl rfl rfl ?_
  refine Seq.nil ?_
  refine Post.weak (F' := [(0, _), (2, _), (7, _), (8, _), (21, _)]) ⟨rfl, rfl, rfl, rfl, rfl, trivial⟩ ?_
  refine Post.then_ ?_
  refine Cd.cond rfl (fun h => ?_) (fun h => ?_)
  · obtain ⟨k, rfl⟩ : ∃ j, k = j + 1 := ⟨k - 1, by simp at h; omega⟩
    obtain ⟨s, rfl⟩ : ∃ s, q = some s := by
      cases q with
      | none => simp at h
      | some s => exact ⟨s, rfl⟩
    have hsm := hsome rfl
    have hdef2 : (some s).bind (listP sizeP (k + 1) acc) = ((some s).bind sizeP).bind fun x => listP sizeP k (acc ++ [x.1]) x.2 := rfl
    rw [hdef2] at hR
    refine Cd.skip ?_
    refine Post.then_ ?_
    refine Cd.seq ?_
    refine Cd.block ?_
    refine Cd.region ?_
    refine Seq.val (Runs.move rfl rfl) rfl rfl rfl ?_
    refine Seq.val (Runs.move rfl rfl) rfl rfl rfl ?_
    refine Seq.val (Runs.move rfl rfl) rfl rfl rfl ?_
    refine Seq.call (Enters.value (first := []) (cap := []) rfl rfl rfl eg_size) rfl rfl rfl (rsize_any g _ _ rd) ?_
    rintro e w3 ⟨z, ⟨hz, hv1, rfl⟩, fw3, rd'⟩
    refine ⟨_, rfl, ?_⟩
    replace kf := kf.kf fw3 rd
    replace own := own.kf fw3 rd
    replace rd := rd'
    clear rd'
    refine Seq.slice (vs := [_]) (s := 1) rfl rfl rfl Try.underlying30 (by kernel_rfl) (zero_int) (by omega) (by omega) ⟨rfl, trivial⟩ rfl rfl rfl ?_
    intro g28 w4 n28
    have e28 := Nat.le_trans kf.size n28.ge
    replace kf := kf.step n28.below
    replace rd := rd.step n28.below
    replace own := own.step n28.below
    have k28 := n28.blk
    have hrd := Reads.blk (size := 1) k28 1 rfl
    refine Seq.append rfl rfl rfl Try.underlying30 (by kernel_rfl) zero_int rfl (by decide) (b := 8) (by kernel_rfl) own (hrd) (by intro x hx; simp [flatC, Value.cells] at hx; rw [hx]; rfl) kf.size (by simp only [maxLen]; omega) (by omega) rfl rfl rfl ?_
    intro vw5 w5 ow5 haw5
    replace kf := kf.app own haw5
    replace rd := rd.app own haw5
    clear own
    have own := ow5
    refine Seq.val (Runs.assign rfl rfl) rfl rfl rfl ?_
    refine Seq.nil ?_
    refine Post.weak (F' := [(0, _), (2, _), (7, _), (8, _), (21, _)]) ⟨rfl, rfl, rfl, rfl, rfl, trivial⟩ ?_
    refine Post.block_normal ?_
    refine Post.then_ ?_
    refine Cd.region ?_
    refine Seq.val (Runs.move rfl rfl) rfl rfl rfl ?_
    refine Seq.val (Runs.subI rfl rfl rfl (by omega) (by omega)) rfl rfl rfl ?_
    refine Seq.val (Runs.assign rfl rfl) rfl rfl rfl ?_
    refine Seq.nil ?_
    refine Post.weak (F' := [(0, _), (2, _), (7, _), (8, _), (21, _)]) ⟨rfl, rfl, rfl, rfl, rfl, trivial⟩ ?_
    refine Post.round (k, acc ++ [z], _, rest sizeP (some s)) ⟨rfl, rfl, int_at (by omega), rfl, trivial⟩ ⟨by simp only; omega, by simp; omega, fun hh => by simp; omega, fun x hx => ?_, ?_, kf, rd, by simp only; rw [List.length_append, DNc_snoc]; exact own⟩ (by simp)
    · rcases List.mem_append.1 hx with hx | hx
      · exact hall x hx
      · simp at hx; subst hx; exact hz
    · simp only
      rw [← hR]
      cases hx : (some s).bind sizeP with
      | none => rw [rest_none hx]; rfl
      | some x =>
        obtain ⟨m, r⟩ := x
        have := hv1 m r hx
        subst this
        rw [rest_some hx]; rfl
  · obtain ⟨A, c, rfl, -⟩ := own.reads
    refine Cd.exit ?_
    refine Post.then_exit ?_
    refine Post.round_exit ?_
    refine Post.block_exit ?_
    refine Post.then_ ?_
    refine Cd.seq ?_
    refine Cd.seq ?_
    refine Cd.region ?_
    refine Seq.val (Runs.move rfl rfl) rfl rfl rfl ?_
    refine Seq.call (Enters.func rfl rfl rfl (run_enter Try.func79 (by kernel_rfl) rfl)) rfl rfl rfl (good_any g q _ rd) ?_
    rintro e w5 ⟨rfl, hb5⟩
    refine ⟨_, rfl, ?_⟩
    replace kf := kf.step hb5
    replace rd := rd.step hb5
    replace own := own.step hb5
    refine Seq.val (Runs.not rfl rfl) rfl rfl rfl ?_
    refine Seq.nil ?_
    refine Post.weak (F' := [(0, _), (2, _), (7, _), (8, _), (21, _), (32, _)]) ⟨rfl, rfl, rfl, rfl, rfl, rfl, trivial⟩ ?_
    refine Post.then_ ?_
    refine Cd.cond rfl (fun h2 => ?_) (fun h2 => ?_)
    · have hqn : q = none := by
        cases q with
        | none => rfl
        | some s => simp at h2
      subst hqn
      have hRn : R = none := hR.symm
      refine Cd.seq ?_
      refine Cd.region ?_
      refine Seq.val (Runs.assign rfl rfl) rfl rfl rfl ?_
      refine Seq.nil ?_
      refine Post.weak (F' := [(0, _), (2, _), (6, _), (7, _), (8, _), (21, _), (32, _)]) ⟨rfl, rfl, rfl, rfl, rfl, rfl, rfl, trivial⟩ ?_
      refine Post.then_ ?_
      refine Cd.ret ?_
      refine Post.then_ret ?_
      refine Post.end1 rfl rfl (.inl rfl) ?_
      refine ⟨[], ⟨by simp, by simp, fun a r e => (by rw [← hFIN, hRn] at e; cases e), none, 0, rfl, Own.nil _ _ _ _⟩, kf, ?_⟩
      rw [show rest (getP sizeP 100) o = none by unfold rest; rw [← hFIN, hRn]; rfl]
      exact rd
    · obtain ⟨s, rfl⟩ : ∃ s, q = some s := by
        cases q with
        | none => simp at h2
        | some s => exact ⟨s, rfl⟩
      have hk0 : k = 0 := by simp at h; omega
      subst hk0
      have hRs : R = some (acc, s) := hR.symm
      refine Cd.skip ?_
      refine Post.then_ ?_
      refine Cd.seq ?_
      refine Cd.region ?_
      refine Seq.val (Runs.move rfl rfl) rfl rfl rfl ?_
      refine Seq.val (Runs.assign rfl rfl) rfl rfl rfl ?_
      refine Seq.nil ?_
      refine Post.weak (F' := [(0, _), (2, _), (6, _), (7, _), (8, _), (21, _), (32, _)]) ⟨rfl, rfl, rfl, rfl, rfl, rfl, rfl, trivial⟩ ?_
      refine Post.then_ ?_
      refine Cd.ret ?_
      refine Post.end1 rfl rfl (.inl rfl) ?_
      refine ⟨acc, ⟨by omega, hall, fun a r e => (by rw [← hFIN, hRs] at e; injection e with e; injection e), A, c, rfl, own⟩, kf, ?_⟩
      rw [show rest (getP sizeP 100) o = some s by unfold rest; rw [← hFIN, hRs]; rfl]
      exact rd
theorem getF_any (g : Nat) (o : Option (List Nat)) (w : World) (h : Rd 124 w g o) : Calls Try.prog 45 #[.pointer (some ⟨g, 0, none⟩), .int .i64 100, .func (.func 46) #[] #[]] w fun e w' => ∃ l : List Fn, (l.length ≤ 100 ∧ (∀ x ∈ l, x.rd) ∧ val1 (getP fnP 100) o l ∧ ∃ A c, e = .returned (.slice A l.length c) ∧ Own w' w.heap.size 28 6 (.slice A l.length c) l.length (Fc l)) ∧ Kf g w w' ∧ Rd 124 w' g (rest (getP fnP 100) o) := by
  have rd := h
  have kf := Kf.refl g w
  have hdef : o.bind (getP fnP 100) = (o.bind sizeP).bind fun x => if x.1 ≤ 100 then listP fnP x.1 [] x.2 else none := by cases o <;> rfl
  refine Calls.start 34 Try.func45 rfl rfl rfl ?_
  refine Cd.seq ?_
  refine Cd.region ?_
  refine Seq.val (Runs.assign rfl rfl) rfl rfl rfl ?_
  refine Seq.nil ?_
  refine Post.weak (F' := [(0, _), (1, _), (2, _), (6, _)]) ⟨rfl, rfl, rfl, rfl, trivial⟩ ?_
  refine Post.then_ ?_
  refine Cd.seq ?_
  refine Cd.region ?_
  refine Seq.val (Runs.move rfl rfl) rfl rfl rfl ?_
  refine Seq.call (Enters.func rfl rfl rfl (run_enter Try.func44 (by kernel_rfl) rfl)) rfl rfl rfl (rsize_any g o _ rd) ?_
  rintro e w1 ⟨n, ⟨hn, hv, rfl⟩, fw1, rd'⟩
  refine ⟨_, rfl, ?_⟩
  replace kf := kf.kf fw1 rd
  replace rd := rd'
  clear rd'
  refine Seq.val (Runs.assign rfl rfl) rfl rfl rfl ?_
  refine Seq.nil ?_
  refine Post.weak (F' := [(0, _), (1, _), (2, _), (6, _), (7, _)]) ⟨rfl, rfl, rfl, rfl, rfl, trivial⟩ ?_
  refine Post.then_ ?_
  refine Cd.seqJ (σ := Option (List Nat)) (fun _ => [(0, .pointer (some ⟨g, 0, none⟩)), (2, .func (.func 46) #[] #[]), (7, .int .i64 (n : Int))]) (fun q wr => Kf g w wr ∧ Rd 124 wr g q ∧ q.bind (listP fnP n []) = o.bind (getP fnP 100) ∧ (q.isSome = true → n ≤ 100)) ?_ ?_
  · skip
    refine Cd.seq ?_
    refine Cd.region ?_
    refine Seq.val (Runs.move rfl rfl) rfl rfl rfl ?_
    refine Seq.val (Runs.move rfl rfl) rfl rfl rfl ?_
    refine Seq.val (Runs.gtr rfl rfl rfl) rfl rfl rfl ?_
    refine Seq.nil ?_
    refine Post.weak (F' := [(0, _), (1, _), (2, _), (6, _), (7, _), (13, _)]) ⟨rfl, rfl, rfl, rfl, rfl, rfl, trivial⟩ ?_
    refine Post.then_ ?_
    refine Cd.condD rfl (fun hc => ?_) (fun hc => ?_)
    · skip
      refine Cd.region ?_
      refine Seq.val (Runs.move rfl rfl) rfl rfl rfl ?_
      refine Seq.call (Enters.func rfl rfl rfl (run_enter Try.func78 (by kernel_rfl) rfl)) rfl rfl rfl (rraw_any g (-1) _ _ rd) ?_
      rintro e w2 ⟨rfl, fw2, rd'⟩
      refine ⟨_, rfl, ?_⟩
      replace kf := kf.kf fw2 rd
      replace rd := rd'
      clear rd'
      have hb : ∀ q : Option (List Nat), q.bind (rawP (-1)) = none := fun q => by
        cases q with
        | none => rfl
        | some s => show rawP (-1) s = none; unfold rawP; rw [if_neg (by omega)]
      rw [rest_none (hb _)] at rd
      refine Seq.nil ?_
      refine Post.weak (F' := [(0, _), (1, _), (2, _), (6, _), (7, _), (13, _)]) ⟨rfl, rfl, rfl, rfl, rfl, rfl, trivial⟩ ?_
      refine Post.join none ⟨rfl, rfl, rfl, trivial⟩ ⟨kf, rd, ?_, by simp⟩
      rw [hdef]
      cases hx : o.bind sizeP with
      | none => rfl
      | some x =>
        have := hv x.1 x.2 hx
        show none = if x.1 ≤ 100 then _ else none
        rw [if_neg (by omega)]
    · skip
      refine Cd.skip ?_
      refine Post.join (rest sizeP o) ⟨rfl, rfl, rfl, trivial⟩ ⟨kf, rd, ?_, fun _ => by omega⟩
      rw [hdef]
      cases hx : o.bind sizeP with
      | none => rw [rest_none hx]; rfl
      | some x =>
        obtain ⟨m, r⟩ := x
        have := hv m r hx
        subst this
        rw [rest_some hx]
        show listP fnP n [] r = if n ≤ 100 then _ else none
        rw [if_pos (by omega)]
  clear kf rd
  rintro q0 wr ⟨kf, rd, hq0, hq1⟩
  obtain ⟨R, hFIN⟩ : ∃ R, R = o.bind (getP fnP 100) := ⟨_, rfl⟩
  rw [← hFIN] at hq0
  refine Cd.seq ?_
  refine Cd.region ?_
  refine Seq.val (Runs.assign rfl rfl) rfl rfl rfl ?_
  refine Seq.nil ?_
  refine Post.weak (F' := [(0, _), (2, _), (7, _), (8, _)]) ⟨rfl, rfl, rfl, rfl, trivial⟩ ?_
  refine Post.then_ ?_
  refine Cd.seq ?_
  refine Cd.block ?_
  have own : Own wr w.heap.size 28 6 (.slice none 0 0) 0 [] := Own.nil _ _ _ _
  refine Cd.loop (σ := Nat × List Fn × Value × Option (List Nat)) (fun s => [(0, .pointer (some ⟨g, 0, none⟩)), (2, .func (.func 46) #[] #[]), (7, .int .i64 (s.1 : Int)), (8, s.2.2.1)])
    (fun s wr => s.1 < 9223372036854775808 ∧ s.2.1.length ≤ 100 ∧ (s.2.2.2.isSome = true → s.2.1.length + s.1 ≤ 100) ∧ (∀ x ∈ s.2.1, x.rd) ∧ s.2.2.2.bind (listP fnP s.1 s.2.1) = R ∧ Kf g w wr ∧ Rd 124 wr g s.2.2.2 ∧ Own wr w.heap.size 28 6 s.2.2.1 s.2.1.length (Fc s.2.1)) (fun s => s.1) (n, [], .slice none 0 0, q0) ⟨hn, Nat.zero_le _, fun h => by simpa using hq1 h, by simp, hq0, kf, rd, own⟩ ⟨rfl, rfl, rfl, rfl, trivial⟩ ?_
  clear kf rd
  clear own
  rintro ⟨k, acc, v, q⟩ wr ⟨hk, hacc, hsome, hall, hR, kf, rd, own⟩
  simp only at hk hacc hsome hall hR rd own
  show Cd _ _ _ _ [(0, .pointer (some ⟨g, 0, none⟩)), (2, .func (.func 46) #[] #[]), (7, .int .i64 (k : Int)), (8, v)] _
  refine Cd.seq ?_
  refine Cd.seq ?_
  refine Cd.region ?_
  refine Seq.val (Runs.move rfl rfl) rfl rfl rfl ?_
  refine Seq.val (Runs.gtr rfl rfl rfl) rfl rfl rfl ?_
  refine Seq.val (Runs.move rfl rfl) rfl rfl rfl ?_
  refine SeqC.start ?_
  refine SeqC.open rfl rfl rfl rfl rfl rfl rfl (fun hcx => Runs.move rfl rfl) ?_
  refine SeqC.nextC rfl rfl rfl rfl rfl rfl rfl (fun hcx => Enters.func rfl rfl rfl (run_enter Try.func79 (by kernel_rfl) rfl)) (fun hcx => good_any g q _ rd) ?_
  intro w2 hw2
  replace kf := kf.step hw2
  replace rd := rd.step hw2
  replace own := own.step hw2
  refine SeqC.and rfl rfl rfl rfl rfl rfl rfl ?_
  refine Seq.nil ?_
  refine Post.weak (F' := [(0, _), (2, _), (7, _), (8, _), (21, _)]) ⟨rfl, rfl, rfl, rfl, rfl, trivial⟩ ?_
  refine Post.then_ ?_
  refine Cd.cond rfl (fun h => ?_) (fun h => ?_)
  · obtain ⟨k, rfl⟩ : ∃ j, k = j + 1 := ⟨k - 1, by simp at h; omega⟩
    obtain ⟨s, rfl⟩ : ∃ s, q = some s := by
      cases q with
      | none => simp at h
      | some s => exact ⟨s, rfl⟩
    have hsm := hsome rfl
    have hdef2 : (some s).bind (listP fnP (k + 1) acc) = ((some s).bind fnP).bind fun x => listP fnP k (acc ++ [x.1]) x.2 := rfl
    rw [hdef2] at hR
    refine Cd.skip ?_
    refine Post.then_ ?_
    refine Cd.seq ?_
    refine Cd.block ?_
    refine Cd.region ?_
    refine Seq.val (Runs.move rfl rfl) rfl rfl rfl ?_
    refine Seq.val (Runs.move rfl rfl) rfl rfl rfl ?_
    refine Seq.val (Runs.move rfl rfl) rfl rfl rfl ?_
    refine Seq.call (Enters.value (first := []) (cap := []) rfl rfl rfl eg_take) rfl rfl rfl (take_any g _ _ rd) ?_
    rintro e w3 ⟨z, ⟨hz, hv1, rfl⟩, fw3, rd'⟩
    refine ⟨_, rfl, ?_⟩
    replace kf := kf.kf fw3 rd
    replace own := own.kf fw3 rd
    replace rd := rd'
    clear rd'
    refine Seq.slice (vs := [_]) (s := 6) rfl rfl rfl Try.underlying36 (by kernel_rfl) (zero_edit_File) (by omega) (by omega) ⟨rfl, trivial⟩ rfl rfl rfl ?_
    intro g28 w4 n28
    have e28 := Nat.le_trans kf.size n28.ge
    replace kf := kf.step n28.below
    replace rd := rd.step n28.below
    replace own := own.step n28.below
    have k28 := n28.blk
    have hrd := Reads.blk (size := 6) k28 1 rfl
    refine Seq.append rfl rfl rfl Try.underlying36 (by kernel_rfl) zero_edit_File rfl (by decide) (b := 64) (by kernel_rfl) own (hrd) (by intro x hx; simp [flatC, Value.cells] at hx; rcases hx with rfl | rfl | rfl | rfl | rfl | rfl <;> rfl) kf.size (by simp only [maxLen]; omega) (by omega) rfl rfl rfl ?_
    intro vw5 w5 ow5 haw5
    replace kf := kf.app own haw5
    replace rd := rd.app own haw5
    clear own
    have own := ow5
    refine Seq.val (Runs.assign rfl rfl) rfl rfl rfl ?_
    refine Seq.nil ?_
    refine Post.weak (F' := [(0, _), (2, _), (7, _), (8, _), (21, _)]) ⟨rfl, rfl, rfl, rfl, rfl, trivial⟩ ?_
    refine Post.block_normal ?_
    refine Post.then_ ?_
    refine Cd.region ?_
    refine Seq.val (Runs.move rfl rfl) rfl rfl rfl ?_
    refine Seq.val (Runs.subI rfl rfl rfl (by omega) (by omega)) rfl rfl rfl ?_
    refine Seq.val (Runs.assign rfl rfl) rfl rfl rfl ?_
    refine Seq.nil ?_
    refine Post.weak (F' := [(0, _), (2, _), (7, _), (8, _), (21, _)]) ⟨rfl, rfl, rfl, rfl, rfl, trivial⟩ ?_
    refine Post.round (k, acc ++ [z], _, rest fnP (some s)) ⟨rfl, rfl, int_at (by omega), rfl, trivial⟩ ⟨by simp only; omega, by simp; omega, fun hh => by simp; omega, fun x hx => ?_, ?_, kf, rd, by simp only; rw [List.length_append, Fc_snoc]; exact own⟩ (by simp)
    · rcases List.mem_append.1 hx with hx | hx
      · exact hall x hx
      · simp at hx; subst hx; exact hz
    · simp only
      rw [← hR]
      cases hx : (some s).bind fnP with
      | none => rw [rest_none hx]; rfl
      | some x =>
        obtain ⟨m, r⟩ := x
        have := hv1 m r hx
        subst this
        rw [rest_some hx]; rfl
  · obtain ⟨A, c, rfl, -⟩ := own.reads
    refine Cd.exit ?_
    refine Post.then_exit ?_
    refine Post.round_exit ?_
    refine Post.block_exit ?_
    refine Post.then_ ?_
    refine Cd.seq ?_
    refine Cd.seq ?_
    refine Cd.region ?_
    refine Seq.val (Runs.move rfl rfl) rfl rfl rfl ?_
    refine Seq.call (Enters.func rfl rfl rfl (run_enter Try.func79 (by kernel_rfl) rfl)) rfl rfl rfl (good_any g q _ rd) ?_
    rintro e w5 ⟨rfl, hb5⟩
    refine ⟨_, rfl, ?_⟩
    replace kf := kf.step hb5
    replace rd := rd.step hb5
    replace own := own.step hb5
    refine Seq.val (Runs.not rfl rfl) rfl rfl rfl ?_
    refine Seq.nil ?_
    refine Post.weak (F' := [(0, _), (2, _), (7, _), (8, _), (21, _), (32, _)]) ⟨rfl, rfl, rfl, rfl, rfl, rfl, trivial⟩ ?_
    refine Post.then_ ?_
    refine Cd.cond rfl (fun h2 => ?_) (fun h2 => ?_)
    · have hqn : q = none := by
        cases q with
        | none => rfl
        | some s => simp at h2
      subst hqn
      have hRn : R = none := hR.symm
      refine Cd.seq ?_
      refine Cd.region ?_
      refine Seq.val (Runs.assign rfl rfl) rfl rfl rfl ?_
      refine Seq.nil ?_
      refine Post.weak (F' := [(0, _), (2, _), (6, _), (7, _), (8, _), (21, _), (32, _)]) ⟨rfl, rfl, rfl, rfl, rfl, rfl, rfl, trivial⟩ ?_
      refine Post.then_ ?_
      refine Cd.ret ?_
      refine Post.then_ret ?_
      refine Post.end1 rfl rfl (.inl rfl) ?_
      refine ⟨[], ⟨by simp, by simp, fun a r e => (by rw [← hFIN, hRn] at e; cases e), none, 0, rfl, Own.nil _ _ _ _⟩, kf, ?_⟩
      rw [show rest (getP fnP 100) o = none by unfold rest; rw [← hFIN, hRn]; rfl]
      exact rd
    · obtain ⟨s, rfl⟩ : ∃ s, q = some s := by
        cases q with
        | none => simp at h2
        | some s => exact ⟨s, rfl⟩
      have hk0 : k = 0 := by simp at h; omega
      subst hk0
      have hRs : R = some (acc, s) := hR.symm
      refine Cd.skip ?_
      refine Post.then_ ?_
      refine Cd.seq ?_
      refine Cd.region ?_
      refine Seq.val (Runs.move rfl rfl) rfl rfl rfl ?_
      refine Seq.val (Runs.assign rfl rfl) rfl rfl rfl ?_
      refine Seq.nil ?_
      refine Post.weak (F' := [(0, _), (2, _), (6, _), (7, _), (8, _), (21, _), (32, _)]) ⟨rfl, rfl, rfl, rfl, rfl, rfl, rfl, trivial⟩ ?_
      refine Post.then_ ?_
      refine Cd.ret ?_
      refine Post.end1 rfl rfl (.inl rfl) ?_
      refine ⟨acc, ⟨by omega, hall, fun a r e => (by rw [← hFIN, hRs] at e; injection e with e; injection e), A, c, rfl, own⟩, kf, ?_⟩
      rw [show rest (getP fnP 100) o = some s by unfold rest; rw [← hFIN, hRs]; rfl]
      exact rd
end Go.Proofs.Ythnnephcohljeaa
