/-
  EditBack: what is encoded is decoded as it was; cut off it is none: the statement returns true. No condition.
-/
import Derived.Test.YthnnephcohljeaaEditDecodes
namespace Go.Proofs.Ythnnephcohljeaa
open Go.ChangeShapes Go.WideShapes Go.ChangeAt Go.Deep Go.RowKit

def Ed.enc (x : Ed) : List Nat := encB x.lg x.nx x.sq x.drop x.add
structure Ed.ok (x : Ed) : Prop where
  lg : I64 x.lg
  nx : I64 x.nx
  sq : I64 x.sq
  drop : x.drop.length ≤ 100 ∧ ∀ n ∈ x.drop, n < 9223372036854775808
  add : x.add.length ≤ 100 ∧ ∀ f ∈ x.add, f.ok2
theorem decP_cod : Cod decP Ed.enc Ed.ok where
  full := fun x r h => by
    unfold decP Ed.enc encB
    simp only [List.append_assoc]
    rw [seqP_full sgnP_cod h.lg, seqP_full sgnP_cod h.nx, seqP_full sgnP_cod h.sq]
    have e1 : ∀ t, grp x.drop.length ++ (x.drop.flatMap grp ++ t) = (grp x.drop.length ++ x.drop.flatMap grp) ++ t := fun t => (List.append_assoc _ _ _).symm
    have e2 : ∀ t, grp x.add.length ++ (x.add.flatMap Fn.bytes ++ t) = (grp x.add.length ++ x.add.flatMap Fn.bytes) ++ t := fun t => (List.append_assoc _ _ _).symm
    rw [e1, seqP_full (getP_cod sizeP_cod 100 (by decide)) h.drop, e2, seqP_full (getP_cod fnP_cod 100 (by decide)) h.add]
    rfl
  sound := fun s x r hs h => by
    unfold decP at h
    obtain ⟨a, s1, a1, e1, b1, h⟩ := seqP_sound sgnP_cod hs h
    obtain ⟨b, s2, a2, e2, b2, h⟩ := seqP_sound sgnP_cod b1 h
    obtain ⟨c, s3, a3, e3, b3, h⟩ := seqP_sound sgnP_cod b2 h
    obtain ⟨d, s4, a4, e4, b4, h⟩ := seqP_sound (getP_cod sizeP_cod 100 (by decide)) b3 h
    obtain ⟨f, s5, a5, e5, b5, h⟩ := seqP_sound (getP_cod fnP_cod 100 (by decide)) b4 h
    obtain ⟨rfl, rfl⟩ := retP_eq h
    refine ⟨⟨a1, a2, a3, a4, a5⟩, ?_⟩
    rw [e1, e2, e3, e4, e5]
    simp only [Ed.enc, encB, List.append_assoc]
theorem decF_full {x : Ed} (h : x.ok) (hl : x.laid = true) : decF x.enc = some x := by
  have := decP_cod.full x [] h
  rw [List.append_nil] at this
  unfold decF
  rw [this]
  show (if x.laid = true then some x else none) = _
  rw [if_pos hl]
theorem decF_cut {x : Ed} (h : x.ok) (hb : Byt x.enc) {k : Nat} (hk : k < x.enc.length) : decF (x.enc.take k) = none := by
  unfold decF
  cases hd : decP (x.enc.take k) with
  | none => rfl
  | some y =>
    obtain ⟨y, r⟩ := y
    cases r with
    | cons c r => rfl
    | nil =>
      exfalso
      obtain ⟨hy, he⟩ := decP_cod.sound _ y [] (hb.take k) hd
      rw [List.append_nil] at he
      have e : x.enc = y.enc ++ x.enc.drop k := by rw [← he, List.take_append_drop]
      have h1 := decP_cod.full x [] h
      rw [List.append_nil, e, decP_cod.full y _ hy] at h1
      injection h1 with h1
      injection h1 with _ h1
      have := congrArg List.length h1
      rw [List.length_drop] at this
      simp at this
      omega
theorem encB_byt {lg nx sq : Int} {drop : List Nat} {add : List Fn} (h1 : I64 lg) (h2 : I64 nx) (h3 : I64 sq) (hd : ∀ n ∈ drop, n < 9223372036854775808) (hf : ∀ f ∈ add, f.ok) (hdl : drop.length ≤ 1000) (hal : add.length ≤ 1000) : Byt (encB lg nx sq drop add) := by
  have ht : ∀ s, Byt s → s.length ≤ 80 → Byt (txt s) := fun s hs hl => Byt.app (grp_lt (by omega)) hs
  unfold encB
  refine Byt.app (grp_lt (sgn_lt h1)) (Byt.app (grp_lt (sgn_lt h2)) (Byt.app (grp_lt (sgn_lt h3)) (Byt.app (grp_lt (by omega)) (Byt.app ?_ (Byt.app (grp_lt (by omega)) ?_)))))
  · intro d hdd
    obtain ⟨n, hn, hd2⟩ := List.mem_flatMap.1 hdd
    exact grp_lt (by have := hd n hn; omega) d hd2
  · intro d hdd
    obtain ⟨f, hfm, hd2⟩ := List.mem_flatMap.1 hdd
    have o := hf f hfm
    have n1 := o.num
    have n2 := o.level
    have n3 := o.count
    have n4 := o.size
    have : Byt f.bytes := Byt.app (grp_lt (by omega)) (Byt.app (grp_lt (by omega)) (Byt.app (ht _ o.first o.first80) (Byt.app (ht _ o.last o.last80) (Byt.app (grp_lt (by omega)) (grp_lt (by omega))))))
    exact this d hd2
theorem grp_ne (n : Nat) : 0 < (grp n).length := by
  unfold grp
  rcases Nat.lt_or_ge n 128 with h | h
  · rw [grpK_small h]; simp
  · rw [grpK_more (by omega)]; simp
set_option maxRecDepth 100000 in
theorem walk_back (lg nx sq : Int) (A A' : Option Addr) (n c n' c' : Nat) (drop : List Int) (add : List Fl) (a : Int) (W : World) (hr : Reads W W.heap.size 1 A n (DI drop)) (hr' : Reads W W.heap.size 6 A' n' (fcs add)) (i1 : I64 lg) (i2 : I64 nx) (i3 : I64 sq) (i4 : ∀ x ∈ drop, I64 x) (i5 : ∀ f ∈ add, Fl.rng f) :
    Calls Try.prog 6 #[.agg #[.int .i64 lg, .int .i64 nx, .int .i64 sq, .slice A n c, .slice A' n' c'], .int .i64 a] W fun e w' => e = .returned (.bool true) ∧ Below W.heap.size W w' := by
  have bel := Below.refl W.heap.size W
  have hfl := hr'.fl_len
  have hdl : drop.length = n := by have := hr.1; simpa [DI] using this
  refine Calls.start 72 Try.func6 rfl rfl rfl ?_
  refine Cd.seq ?_
  refine Cd.region ?_
  refine Seq.box rfl rfl rfl rfl rfl ?_
  intro g2 w1 n2
  have e2 := Nat.le_trans bel.size n2.ge
  replace bel := bel.step n2.below
  have k2 := n2.blk
  refine Seq.val (Runs.assign rfl rfl) rfl rfl rfl ?_
  refine Seq.nil ?_
  refine Post.weak (F' := [(0, _), (1, _), (2, _), (4, _)]) ⟨rfl, rfl, rfl, rfl, trivial⟩ ?_
  refine Post.then_ ?_
  refine Cd.seq ?_
  refine Cd.seq ?_
  refine Cd.region ?_
  refine Seq.val (Runs.fieldB 4 rfl rfl Try.underlying32 rfl (by kernel_rfl)) rfl rfl rfl ?_
  refine Seq.val (Runs.loadB rfl rfl Try.underlying25 rfl k2 rfl) rfl rfl rfl ?_
  refine Seq.call (Enters.func rfl rfl rfl (run_enter Try.func8 (by kernel_rfl) rfl)) rfl rfl rfl (great_any _ n' c' A' add _ (hr'.below bel) bel.size) ?_
  rintro e w5 ⟨⟨b, rfl, hb⟩, hb5⟩
  refine ⟨_, rfl, ?_⟩
  replace bel := bel.step hb5
  replace k2 := k2.step hb5
  refine Seq.val (Runs.move rfl rfl) rfl rfl rfl ?_
  refine SeqC.start ?_
  refine SeqC.open rfl rfl rfl rfl rfl rfl rfl (fun hcx => Runs.fieldB 3 rfl rfl Try.underlying32 rfl (by kernel_rfl)) ?_
  refine SeqC.next rfl rfl rfl rfl rfl rfl rfl (fun hcx => Runs.loadB rfl rfl Try.underlying30 rfl k2 rfl) ?_
  refine SeqC.next rfl rfl rfl rfl rfl rfl rfl (fun hcx => Runs.len rfl rfl Try.underlying30) ?_
  refine SeqC.next rfl rfl rfl rfl rfl rfl rfl (fun hcx => Runs.gtr rfl rfl rfl) ?_
  refine SeqC.or rfl rfl rfl rfl rfl rfl rfl ?_
  refine Seq.nil ?_
  refine Post.weak (F' := [(0, _), (1, _), (2, _), (4, _), (19, _)]) ⟨rfl, rfl, rfl, rfl, rfl, trivial⟩ ?_
  refine Post.then_ ?_
  refine Cd.cond rfl (fun h => ?_) (fun h => ?_)
  · skip
    refine Cd.seq ?_
    refine Cd.region ?_
    refine Seq.call (Enters.func rfl rfl rfl (run_enter Try.func9 (by kernel_rfl) rfl)) rfl rfl rfl (awake12_any _) ?_
    rintro e w6 ⟨rfl, hb6⟩
    refine ⟨_, rfl, ?_⟩
    replace bel := bel.step hb6
    replace k2 := k2.step hb6
    refine Seq.val (Runs.assign rfl rfl) rfl rfl rfl ?_
    refine Seq.nil ?_
    refine Post.weak (F' := [(0, _), (1, _), (2, _), (4, _), (19, _)]) ⟨rfl, rfl, rfl, rfl, rfl, trivial⟩ ?_
    refine Post.then_ ?_
    refine Cd.ret ?_
    refine Post.then_ret ?_
    refine Post.end1 rfl rfl (.inl rfl) ?_
    exact ⟨rfl, bel⟩
  · simp only [Bool.or_eq_false_iff, decide_eq_false_iff_not] at h
    have hn' := hb h.1
    refine Cd.skip ?_
    refine Post.then_ ?_
    refine Cd.seq ?_
    refine Cd.region ?_
    refine Seq.val (Runs.loadW rfl rfl Try.underlying32 rfl k2 (m := 5) (by kernel_rfl) rfl) rfl rfl rfl ?_
    refine Seq.call (Enters.func rfl rfl rfl (run_enter Try.func13 (by kernel_rfl) rfl)) rfl rfl rfl (of_any lg nx sq _ n n' c c' A A' add _ (hr'.below bel) bel.size hn') ?_
    rintro e w6 ⟨hb6, A2, c2, rfl, own⟩
    refine ⟨_, rfl, ?_⟩
    replace bel := bel.step hb6
    replace k2 := k2.step hb6
    obtain ⟨A3, c3, hv3, hrd⟩ := own.reads
    injection hv3 with hv4 _ hv5
    subst hv4 hv5
    cases hlaid : laidB lg nx sq drop add with
    | false =>
      have hen := encode_not lg nx sq w6.heap.size A A2 c c2 drop add _ (by rw [hdl]; exact (hr.below bel).more bel.size) (by rw [hfl]; exact hrd) (Nat.le_refl _) hlaid
      rw [hdl, hfl] at hen
      refine Seq.call (Enters.func rfl rfl rfl (run_enter Try.func12 (by kernel_rfl) rfl)) rfl rfl rfl (hen) ?_
      rintro e w7 ⟨rfl, hb7⟩
      refine ⟨_, rfl, ?_⟩
      replace bel := bel.step hb7
      replace k2 := k2.step hb7
      rw [← strOf_nil]
      refine Seq.val (Runs.move rfl rfl) rfl rfl rfl ?_
      refine Seq.val (Runs.extract rfl rfl rfl) rfl rfl rfl ?_
      refine Seq.val (Runs.extract rfl rfl rfl) rfl rfl rfl ?_
      refine Seq.val (Runs.assign rfl rfl) rfl rfl rfl ?_
      refine Seq.val (Runs.assign rfl rfl) rfl rfl rfl ?_
      refine Seq.nil ?_
      refine Post.weak (F' := [(0, _), (1, _), (2, _), (4, _), (5, _), (6, _), (19, _)]) ⟨rfl, rfl, rfl, rfl, rfl, rfl, rfl, trivial⟩ ?_
      refine Post.then_ ?_
      refine Cd.seq ?_
      refine Cd.seq ?_
      refine Cd.region ?_
      refine Seq.val (Runs.move rfl rfl) rfl rfl rfl ?_
      refine Seq.val (Runs.neqI rfl rfl rfl) rfl rfl rfl ?_
      refine Seq.val (Runs.move rfl rfl) rfl rfl rfl ?_
      refine SeqC.start ?_
      refine SeqC.open rfl rfl rfl rfl rfl rfl rfl (fun hcx => Runs.move rfl rfl) ?_
      refine SeqC.next rfl rfl rfl rfl rfl rfl rfl (fun hcx => Runs.lenL rfl rfl Try.underlying9) ?_
      refine SeqC.next rfl rfl rfl rfl rfl rfl rfl (fun hcx => Runs.eqlI rfl rfl rfl) ?_
      refine SeqC.or rfl rfl rfl rfl rfl rfl rfl ?_
      refine Seq.nil ?_
      refine Post.weak (F' := [(0, _), (1, _), (2, _), (4, _), (5, _), (6, _), (19, _), (33, _)]) ⟨rfl, rfl, rfl, rfl, rfl, rfl, rfl, rfl, trivial⟩ ?_
      refine Post.then_ ?_
      refine Cd.condT rfl (by simp) ?_
      refine Cd.seq ?_
      refine Cd.region ?_
      refine Seq.val (Runs.move rfl rfl) rfl rfl rfl ?_
      refine Seq.val (Runs.neqI rfl rfl rfl) rfl rfl rfl ?_
      refine Seq.val (Runs.move rfl rfl) rfl rfl rfl ?_
      refine SeqC.start ?_
      refine SeqC.openC rfl rfl rfl rfl rfl rfl rfl (fun hcx => Enters.func rfl rfl rfl (run_enter Try.func9 (by kernel_rfl) rfl)) (fun hcx => awake12_any _) ?_
      intro w2 hw2
      replace bel := bel.step hw2
      replace k2 := k2.step hw2
      refine SeqC.and rfl rfl rfl rfl rfl rfl rfl ?_
      refine Seq.val (Runs.assign rfl rfl) rfl rfl rfl ?_
      refine Seq.nil ?_
      refine Post.weak (F' := [(0, _), (1, _), (2, _), (4, _), (5, _), (6, _), (19, _), (33, _)]) ⟨rfl, rfl, rfl, rfl, rfl, rfl, rfl, rfl, trivial⟩ ?_
      refine Post.then_ ?_
      refine Cd.ret ?_
      refine Post.then_ret ?_
      refine Post.end1 rfl rfl (.inl rfl) ?_
      exact ⟨ret1 (bool_eq (by simp)), bel⟩
    | true =>
      obtain ⟨ed, ea, hd9, hf9, hd1, hf1⟩ := laid_forms hlaid i4 i5
      obtain ⟨drop', hdr⟩ : ∃ d', d' = drop.map Int.toNat := ⟨_, rfl⟩
      obtain ⟨add', har⟩ : ∃ a', a' = add.map nFn := ⟨_, rfl⟩
      rw [← hdr] at ed hd9
      rw [← har] at ea hf9
      have hdl' : drop'.length = n := by rw [hdr, List.length_map, hdl]
      have hal' : add'.length = n' := by rw [har, List.length_map, hfl]
      subst ed ea
      obtain ⟨x, hx⟩ : ∃ x : Ed, x = ⟨lg, nx, sq, drop', add'⟩ := ⟨_, rfl⟩
      have hxe : x.enc = encB lg nx sq drop' add' := by rw [hx]; rfl
      have hxok : x.ok := by rw [hx]; exact ⟨i1, i2, i3, ⟨by simp only; omega, hd9⟩, ⟨by simp only; omega, fun f hf => (hf9 f hf).two⟩⟩
      have hxl : x.laid = true := by rw [hx]; exact hlaid
      have hbyt : Byt x.enc := by rw [hxe]; exact encB_byt i1 i2 i3 hd9 hf9 (by omega) (by omega)
      have hpos : 0 < x.enc.length := by
        rw [hxe]; unfold encB; rw [List.length_append]
        have := grp_ne (sgn lg)
        omega
      have hlen : x.enc.length ≤ 1000000 := by
        have h1 := grp_len (sgn lg)
        have h2 := grp_len (sgn nx)
        have h3 := grp_len (sgn sq)
        have h4 := grp_len drop'.length
        have h5 := grp_len add'.length
        have h6 := flat_len grp 10 (l := drop') (fun x _ => grp_len x)
        have h7 := flat_len Fn.bytes 220 (l := add') (fun x hx => Fn.len (hf9 x hx))
        rw [hxe]
        simp only [encB, List.length_append]
        omega
      have hdf := decF_full hxok hxl
      have hen := encode_any lg nx sq w6.heap.size A A2 c c2 drop' add' _ (by rw [hdl']; exact (hr.below bel).more bel.size) (by rw [hal']; exact hrd) (Nat.le_refl _) i1 i2 i3 hd9 hf9 (by omega) (by omega) hlaid
      rw [hdl', hal', ← hxe] at hen
      refine Seq.call (Enters.func rfl rfl rfl (run_enter Try.func12 (by kernel_rfl) rfl)) rfl rfl rfl (hen) ?_
      rintro e w7 ⟨rfl, hb7⟩
      refine ⟨_, rfl, ?_⟩
      replace bel := bel.step hb7
      replace k2 := k2.step hb7
      refine Seq.val (Runs.move rfl rfl) rfl rfl rfl ?_
      refine Seq.val (Runs.extract rfl rfl rfl) rfl rfl rfl ?_
      refine Seq.val (Runs.extract rfl rfl rfl) rfl rfl rfl ?_
      refine Seq.val (Runs.assign rfl rfl) rfl rfl rfl ?_
      refine Seq.val (Runs.assign rfl rfl) rfl rfl rfl ?_
      refine Seq.nil ?_
      refine Post.weak (F' := [(0, _), (1, _), (2, _), (4, _), (5, _), (6, _), (19, _)]) ⟨rfl, rfl, rfl, rfl, rfl, rfl, rfl, trivial⟩ ?_
      refine Post.then_ ?_
      refine Cd.seq ?_
      refine Cd.seq ?_
      refine Cd.region ?_
      refine Seq.val (Runs.move rfl rfl) rfl rfl rfl ?_
      refine Seq.val (Runs.neqI rfl rfl rfl) rfl rfl rfl ?_
      refine Seq.val (Runs.move rfl rfl) rfl rfl rfl ?_
      refine SeqC.start ?_
      refine SeqC.open rfl rfl rfl rfl rfl rfl rfl (fun hcx => Runs.move rfl rfl) ?_
      refine SeqC.next rfl rfl rfl rfl rfl rfl rfl (fun hcx => Runs.lenL rfl rfl Try.underlying9) ?_
      refine SeqC.next rfl rfl rfl rfl rfl rfl rfl (fun hcx => Runs.eqlI rfl rfl rfl) ?_
      refine SeqC.or rfl rfl rfl rfl rfl rfl rfl ?_
      refine Seq.nil ?_
      refine Post.weak (F' := [(0, _), (1, _), (2, _), (4, _), (5, _), (6, _), (19, _), (33, _)]) ⟨rfl, rfl, rfl, rfl, rfl, rfl, rfl, rfl, trivial⟩ ?_
      refine Post.then_ ?_
      refine Cd.condF rfl (by simp; intro h0; rw [h0] at hpos; simp at hpos) ?_
      refine Cd.skip ?_
      refine Post.then_ ?_
      refine Cd.seq ?_
      refine Cd.region ?_
      refine Seq.val (Runs.move rfl rfl) rfl rfl rfl ?_
      have hd := fun w => decode_any x.enc w hbyt
      rw [hdf] at hd
      have e0 : (if (some x).isSome = true then (0 : Int) else 3) = 0 := rfl
      rw [e0] at hd
      refine Seq.call (Enters.func rfl rfl rfl (run_enter Try.func16 (by kernel_rfl) rfl)) rfl rfl rfl (hd _) ?_
      rintro e w8 ⟨⟨v, rfl, D, cD, D', cD', hv8, own1, own2⟩, hb8⟩
      replace hv8 : v = .agg #[.int .i64 lg, .int .i64 nx, .int .i64 sq, .slice D drop'.length cD, .slice D' add'.length cD'] := by rw [hv8, hx]
      rw [hx] at own1 own2
      dsimp only at own1 own2
      rw [hdl', hal'] at hv8
      rw [hdl'] at own1
      rw [hal'] at own2
      subst hv8
      refine ⟨_, rfl, ?_⟩
      replace bel := bel.step hb8
      replace k2 := k2.step hb8
      obtain ⟨au, hau⟩ : ∃ au : Nat, a % 18446744073709551616 = (au : Int) := ⟨(a % 18446744073709551616).toNat, by omega⟩
      obtain ⟨k, hk⟩ : ∃ k, k = au % x.enc.length := ⟨_, rfl⟩
      have hkl : k < x.enc.length := by rw [hk]; exact Nat.mod_lt _ hpos
      have hd2 := fun w => decode_any (x.enc.take k) w (hbyt.take k)
      rw [decF_cut hxok hbyt hkl] at hd2
      have e1 : (if (none : Option Ed).isSome = true then (0 : Int) else 3) = 3 := rfl
      rw [e1] at hd2
      refine Seq.val (Runs.move rfl rfl) rfl rfl rfl ?_
      refine Seq.val (Runs.extract rfl rfl rfl) rfl rfl rfl ?_
      refine Seq.val (Runs.extract rfl rfl rfl) rfl rfl rfl ?_
      refine Seq.alloc rfl (run_zero zero_edit_Edit) rfl rfl rfl ?_
      intro g7 w2 n7
      have e7 := Nat.le_trans bel.size n7.ge
      have l7 := Nat.lt_of_lt_of_le k2.lt n7.ge
      replace bel := bel.step n7.below
      replace k2 := k2.step n7.below
      replace own1 := own1.step n7.below
      replace own2 := own2.step n7.below
      have k7 := n7.blk
      refine Seq.storeN rfl rfl rfl rfl (m := 5) (by kernel_rfl) rfl (by repeat' first | exact trivial | apply And.intro | rfl | assumption) k7 (by simp [Value.cells]) rfl rfl ?_
      intro w3 pw3
      replace bel := bel.put k7 pw3 e7
      replace k2 := k2.put pw3 (by omega)
      replace own1 := own1.put k7 pw3 e7
      replace own2 := own2.put k7 pw3 e7
      replace k7 := pw3.blk
      refine Seq.val (Runs.assign rfl rfl) rfl rfl rfl ?_
      refine Seq.nil ?_
      refine Post.weak (F' := [(0, _), (1, _), (2, _), (4, _), (5, _), (6, _), (7, _), (8, _), (19, _), (33, _)]) ⟨rfl, rfl, rfl, rfl, rfl, rfl, rfl, rfl, rfl, rfl, trivial⟩ ?_
      refine Post.then_ ?_
      refine Cd.seq ?_
      refine Cd.region ?_
      refine Seq.val (Runs.move rfl rfl) rfl rfl rfl ?_
      refine Seq.val (Runs.move rfl rfl) rfl rfl rfl ?_
      refine Seq.val (Runs.convU (r := au) rfl rfl Try.underlying3 Try.underlying49 hau) rfl rfl rfl ?_
      refine Seq.val (Runs.move rfl rfl) rfl rfl rfl ?_
      refine Seq.val (Runs.lenL rfl rfl Try.underlying9) rfl rfl rfl ?_
      refine Seq.val (Runs.convU (r := x.enc.length) rfl rfl Try.underlying3 Try.underlying49 (by omega)) rfl rfl rfl ?_
      refine Seq.val ((Runs.remN rfl rfl rfl (by omega) (by omega)).cast (v' := .int .u64 (k : Int)) (int_eq (by rw [hk]; exact (Int.natCast_emod _ _).symm))) rfl rfl rfl ?_
      refine Seq.val (Runs.convI rfl rfl Try.underlying49 Try.underlying3 (wrapI (by omega) (by omega))) rfl rfl rfl ?_
      refine Seq.val (Runs.sliceTo rfl rfl rfl Try.underlying9 (j := k) rfl (by omega)) rfl rfl rfl ?_
      refine Seq.call (Enters.func rfl rfl rfl (run_enter Try.func16 (by kernel_rfl) rfl)) rfl rfl rfl (hd2 _) ?_
      rintro e w9 ⟨⟨v, rfl, hv⟩, hb9⟩
      have hv : v = _ := hv
      subst hv
      refine ⟨_, rfl, ?_⟩
      replace bel := bel.step hb9
      replace k2 := k2.step hb9
      replace own1 := own1.step hb9
      replace own2 := own2.step hb9
      replace k7 := k7.step hb9
      refine Seq.val (Runs.move rfl rfl) rfl rfl rfl ?_
      refine Seq.val (Runs.extract rfl rfl rfl) rfl rfl rfl ?_
      refine Seq.val (Runs.extract rfl rfl rfl) rfl rfl rfl ?_
      refine Seq.alloc rfl (run_zero zero_edit_Edit) rfl rfl rfl ?_
      intro g9 w4 n9
      have e9 := Nat.le_trans bel.size n9.ge
      have l9 := Nat.lt_of_lt_of_le k7.lt n9.ge
      have l9_k2 := Nat.lt_of_lt_of_le k2.lt n9.ge
      replace bel := bel.step n9.below
      replace k2 := k2.step n9.below
      replace own1 := own1.step n9.below
      replace own2 := own2.step n9.below
      replace k7 := k7.step n9.below
      have k9 := n9.blk
      refine Seq.storeN rfl rfl rfl rfl (m := 5) (by kernel_rfl) rfl (by repeat' first | exact trivial | apply And.intro | rfl | assumption) k9 (by simp [Value.cells]) rfl rfl ?_
      intro w5 pw5
      replace bel := bel.put k9 pw5 e9
      replace k2 := k2.put pw5 (by omega)
      replace own1 := own1.put k9 pw5 e9
      replace own2 := own2.put k9 pw5 e9
      replace k7 := k7.put pw5 (by omega)
      replace k9 := pw5.blk
      refine Seq.val (Runs.assign rfl rfl) rfl rfl rfl ?_
      refine Seq.nil ?_
      refine Post.weak (F' := [(0, _), (1, _), (2, _), (4, _), (5, _), (6, _), (7, _), (8, _), (10, _), (19, _), (33, _)]) ⟨rfl, rfl, rfl, rfl, rfl, rfl, rfl, rfl, rfl, rfl, rfl, trivial⟩ ?_
      refine Post.then_ ?_
      refine Cd.seq ?_
      have hse := fun w (hb : Below W.heap.size W w) (D2 : Option Addr) (cD2 B1 B2 : Nat) (o1 : Own w B1 3 1 (.slice D n cD) n (DNc drop')) (o2 : Own w B2 23 6 (.slice D2 n' cD2) n' (Fc add')) => sameEdits_any lg nx sq w.heap.size n n' cD cD2 c c' D D2 A A' (DN drop') (add'.map Fn.fl) w o1.rds o2.rds ((hr.below hb).more hb.size) ((hr'.below hb).more hb.size) (Nat.le_refl _) (by omega) (by omega)
      have his := fun w B2 (o2 : Own w B2 28 6 (.slice D' n' cD') n' (Fc add')) => is_any lg nx sq w.heap.size n n' cD cD' D D' (add'.map Fn.fl) w o2.rds (Nat.le_refl _) (by omega)
      refine Cd.weak (F' := [(0, _), (1, _), (2, _), (5, _), (6, _), (7, _), (8, _), (10, _), (19, _), (33, _)]) ⟨rfl, rfl, rfl, rfl, rfl, rfl, rfl, rfl, rfl, rfl, trivial⟩ ?_
      refine Cd.draw 16 (by kernel_rfl) [] (.inl rfl) rfl Grow Grow.refl (fun _ _ _ => Grow.trans) ?_
      intro w6 hw6 zw6
      replace bel := bel.step hw6
      replace k2 := k2.step hw6
      replace own1 := own1.step hw6
      replace own2 := own2.step hw6
      replace k7 := k7.step hw6
      replace k9 := k9.step hw6
      have zbel := bel.size
      have zlt := k9.lt
      refine Dr.val Grow.refl rfl (fun w hG => Runs.move rfl rfl) rfl ?_
      refine Dr.val Grow.refl rfl (fun w hG => Runs.eqlI rfl rfl rfl) rfl ?_
      refine Dr.val Grow.refl rfl (fun w hG => Runs.move rfl rfl) rfl ?_
      refine Dr.valG Grow.refl rfl (fun w hG => Runs.loadW rfl rfl Try.underlying38 rfl (k7.step hG) (m := 5) (by kernel_rfl) rfl) rfl rfl rfl ?_
      refine Dr.callG (Φ := IsR lg nx sq D n cD n' 0 (Fc add')) rfl (fun w => Enters.func rfl rfl rfl (run_enter Try.func19 (by kernel_rfl) rfl)) rfl rfl rfl (IsR.stable) (fun w hG => (his w _ (own2.step hG)).mono fun e w' ⟨hg, A2, c2, e1, ho⟩ => ⟨_, e1, hg, A2, c2, rfl, ⟨own_base ho.row (Nat.zero_le _)⟩⟩) ?_
      refine Dr.valG Grow.refl rfl (fun w hG => Runs.loadW rfl rfl Try.underlying32 rfl (k2.step hG) (m := 5) (by kernel_rfl) rfl) rfl rfl rfl ?_
      refine Dr.call1VG (j := 4) rfl rfl rfl (fun u w => Enters.func rfl rfl rfl (run_enter Try.func18 (by kernel_rfl) rfl)) rfl rfl (fun _ => rfl) (fun u w hG hu => by obtain ⟨A2, c2, rfl, ho⟩ := hu; exact hse w (bel.step hG) A2 c2 _ _ (own1.step hG) ho) ?_
      refine Dr.val Grow.refl rfl (fun w hG => Runs.pickT rfl rfl rfl) rfl ?_
      refine Dr.val Grow.refl rfl (fun w hG => Runs.move rfl rfl) rfl ?_
      refine Dr.valG Grow.refl rfl (fun w hG => Runs.move rfl rfl) rfl rfl rfl ?_
      refine Dr.valG Grow.refl rfl (fun w hG => Runs.eqlI rfl rfl rfl) rfl rfl rfl ?_
      refine Dr.val Grow.refl rfl (fun w hG => Runs.pickT rfl rfl rfl) rfl ?_
      refine Dr.val Grow.refl rfl (fun w hG => Runs.move rfl rfl) rfl ?_
      refine Dr.callVG rfl (fun w => Enters.func rfl rfl rfl (run_enter Try.func9 (by kernel_rfl) rfl)) rfl rfl rfl (fun w hG => awake12_any w) ?_
      refine Dr.val Grow.refl rfl (fun w hG => Runs.pickT rfl rfl rfl) rfl ?_
      refine Dr.val Grow.refl rfl (fun w hG => Runs.assign rfl rfl) rfl ?_
      refine Dr.nil ?_
      refine FinX.done (F' := [(0, _), (1, _), (2, _), (4, _), (5, _), (6, _), (7, _), (8, _), (10, _), (19, _), (33, _)]) rfl ⟨rfl, rfl, rfl, rfl, rfl, rfl, rfl, rfl, rfl, rfl, rfl, trivial⟩ ?_
      intro w7 hw7 fw7
      replace bel := bel.step hw7
      replace k2 := k2.step hw7
      replace own1 := own1.step hw7
      replace own2 := own2.step hw7
      replace k7 := k7.step hw7
      replace k9 := k9.step hw7
      refine Seq.nil ?_
      refine Post.weak (F' := [(0, _), (1, _), (2, _), (4, _), (5, _), (6, _), (7, _), (8, _), (10, _), (19, _), (33, _)]) ⟨rfl, rfl, rfl, rfl, rfl, rfl, rfl, rfl, rfl, rfl, rfl, trivial⟩ ?_
      refine Post.then_ ?_
      refine Cd.ret ?_
      refine Post.end1 rfl rfl (.inl rfl) ?_
      exact ⟨rfl, bel⟩
namespace EditBack
theorem own : ownKnob Try.prog.godebug = none := by kernel_rfl
theorem laidOut : laidOutB Try.prog = true := by kernel_rfl
set_option maxRecDepth 100000 in
theorem lifted (os : Os) (started : os.Started) (H : Type) (enc : TypeId × Value → H) :
    ReturnsInHanded {} Try.checked os 6 .any (Rows.editBackSpec.pre6 enc Try.prog Try.f6 Rows.editBackRow.domain false) (Rows.editBackSpec.post enc Try.prog Try.f6 false true false false) := by
  refine returnsInHanded_of_change (C := Try.checked) own started (by kernel_rfl) Try.func6
    (ChangeSpec.witness6 (enc := enc) (C := Try.checked) false ⟨#[], #[.agg #[.int .i64 0, .int .i64 0, .int .i64 0, .slice none 0 0, .slice none 0 0], .int .i64 0], []⟩ 8 (by kernel_rfl) (by kernel_rfl) (by kernel_rfl) (by kernel_rfl)) ?_
  intro W base args ds gs before hval0 hW hcnd _
  have hval : ∀ (j : Nat) t v, Try.f6.params[j]? = some t → args[j]? = some v → Value.okWide Try.prog W .any base t v := hval0
  have hW' := hW
  obtain ⟨p, q, hA0, hV, rfl, hfz, hnd⟩ := hW
  have hA : DataW.TrodAll enc Try.prog W 0 (fun _ => true) true Try.f6.params.toList args.toList ds p := hA0
  rw [Try.params6] at hA hval
  obtain ⟨v0, vs0, d0, ds0, p0, q0, hargs, rfl, rfl, h0, r0⟩ := trodAll_cons hA
  obtain ⟨v1, vs1, d1, ds1, p1, q1, rfl, rfl, rfl, h1, r1⟩ := trodAll_cons r0
  obtain ⟨rfl, rfl, rfl⟩ := trodAll_nil r1
  obtain rfl : args = #[v0, v1] := by cases args; simp_all
  obtain ⟨rfl, rfl⟩ := trodVars_none hV
  have k0 := h0
  have lt0 : ∀ x ∈ p0, x.block < W.heap.size := by obtain ⟨m, hm⟩ := k0; exact DataW.trod_lt m _ _ _ hm
  have k1 := h1
  have lt1 : ∀ x ∈ p1, x.block < W.heap.size := by obtain ⟨m, hm⟩ := k1; exact DataW.trod_lt m _ _ _ hm
  obtain ⟨lg, nx, sq, A, n, c, A', n', c', drop, add, rfl, hr, hr', i1, i2, i3, i4, i5⟩ := open_edit (hval 0 _ v0 rfl rfl) h0
  obtain ⟨a, rfl, i6⟩ := open_i64 Try.underlying3 (hval 1 _ v1 rfl rfl)
  clear hA0 hval0
  refine (walk_back lg nx sq A A' n c n' c' drop add a W hr hr' i1 i2 i3 i4 i5).mono fun e W' ⟨he, bel⟩ => ?_
  subst he
  exact ⟨_, rfl, _, _, _, [], _, [], hW', trodAll_mk1 (shut_bool Try.underlying4 _), (trodAll_cons_mk (Below.trod laidOut (by kernel_rfl) (of_decide_eq_true (by kernel_rfl)) k0 bel lt0) (trodAll_cons_mk (Below.trod laidOut (by kernel_rfl) (of_decide_eq_true (by kernel_rfl)) k1 bel lt1) trodAll_mk0)), rfl, bel.frame _, fun h => by cases h⟩

theorem over : Rows.editBackRow.holds Try.pinned (OpenSpec.ofChange Rows.editBackSpec) :=
  OpenClaim.holds_of_wide 6 Try.f6 rfl rfl rfl rfl rfl rfl rfl ⟨rfl, rfl, rfl, rfl, rfl⟩ rfl rfl rfl rfl rfl (by kernel_rfl) Try.func6 (by kernel_rfl)
    (of_decide_eq_true (by kernel_rfl)) (by unfold Func.isWrapper; first | (rw [if_pos (by decide +kernel)]; kernel_rfl) | (rw [if_neg (by decide +kernel)]; exact ⟨rfl, rfl⟩))
    (fun os started H enc _ => lifted os started H enc)

theorem proved : Rows.EditBackSaid := over

end EditBack
end Go.Proofs.Ythnnephcohljeaa
