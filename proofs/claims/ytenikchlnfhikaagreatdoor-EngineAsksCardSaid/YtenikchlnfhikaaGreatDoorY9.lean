/-
  Texts that were joined: EnD. Conditions: what each theorem names.
-/
import Derived.Test.YtenikchlnfhikaaGreatDoorY7
import Derived.Test.YtenikchlnfhikaaGreatDoorY8
set_option linter.unusedSectionVars false
set_option linter.unusedVariables false
set_option linter.unusedSimpArgs false
namespace Go.Proofs.YtenikchlnfhikaaGreatDoor
open Go Go.RowKit

theorem zero_event_Contract : zeroIs Tryz.prog 48 = some (some (.agg #[.string { data := #[] }, .string { data := #[] }, .string { data := #[] }, .string { data := #[] }, .int .i64 0, .int .i64 0, .int .i64 0, .slice none 0 0])) := by kernel_rfl
abbrev askC : Value := .agg #[.int .i64 1, .string { data := #[114] }, .string { data := #[99] }, .string { data := #[97, 110, 110] }, .string { data := #[98, 111, 98] }, .string { data := #[111, 110, 101, 40, 85, 83, 68, 41] }, .int .i64 0, .int .i64 0, .int .i64 0, .int .i64 0]
theorem run_build_ask (W : World) : (Instr.build 34 #[(0, .int .i64 1), (1, .string { data := #[114] }), (2, .string { data := #[99] }), (3, .string { data := #[97, 110, 110] }), (4, .string { data := #[98, 111, 98] }), (5, .string { data := #[111, 110, 101, 40, 85, 83, 68, 41] })]).run Tryz.prog W = .ok askC W := by kernel_rfl
theorem rv_ask {ρ : RI.Env} {L : RI.Loc} : RI.RV ρ L vAsk askC :=
  .agg (.cons (.int _ _) (.cons (rv_of (l := [114]) (by decide)) (.cons (rv_of (l := [99]) (by decide)) (.cons (rv_of (l := [97, 110, 110]) (by decide)) (.cons (rv_of (l := [98, 111, 98]) (by decide)) (.cons (rv_of (l := [111, 110, 101, 40, 85, 83, 68, 41]) (by decide)) (.cons (.int _ _) (.cons (.int _ _) (.cons (.int _ _) (.cons (.int _ _) .nil))))))))))
abbrev conC : Value := .agg #[.string (strOf [99]), .string (strOf [97, 110, 110]), .string (strOf [98, 111, 98]), .string (strOf [111, 110, 101, 40, 85, 83, 68, 41]), .int .i64 0, .int .i64 0, .int .i64 2, .slice none 0 0]
theorem rv_con {ρ : RI.Env} {L : RI.Loc} {x : Value} (h : RI.RV ρ L (.agg [.str [99], .str [97, 110, 110], .str [98, 111, 98], .str [111, 110, 101, 40, 85, 83, 68, 41], .int .i64 0, .int .i64 0, .int .i64 2, .sl none 0 0]) x) : x = conC := by
  cases h with
  | agg h =>
    rcases h with _ | ⟨h0, h⟩
    rcases h with _ | ⟨h1, h⟩
    rcases h with _ | ⟨h2, h⟩
    rcases h with _ | ⟨h3, h⟩
    rcases h with _ | ⟨h4, h⟩
    rcases h with _ | ⟨h5, h⟩
    rcases h with _ | ⟨h6, h⟩
    rcases h with _ | ⟨h7, h⟩
    cases h
    rw [rv_str h0, rv_str h1, rv_str h2, rv_str h3, rv_int h4, rv_int h5, rv_int h6]
    cases h7
    rfl
section
variable {P : Program} {E : Operand → Option Value} {o : Oper} {w : World} {x : Operand} {T : TypeId}
theorem Runs.loadFE {ad : Addr} {m : Nat} {ps : List Value} {d : TypeDesc} (ho : o.op = .load T x) (hx : E x = some (.pointer (some ad))) (hT : P.underlying T = some d) (hd : (match d with | .struct _ | .array _ _ => true | _ => false) = true) (hs : sizeIs P T m = true) (hm : ps.length = m) (hc : ∀ (j : Nat) (v : Value), ps[j]? = some v → w.cell? (ad.add j) = some v) : Runs P E o w (.agg ps.toArray) w := by
  obtain ⟨i, hi, hsz⟩ := sizeIs_spec hs
  exact .loadN (cs := ps) ho hx hT hd hi (by omega) hc
end
abbrev mvC : List Value := [.string (strOf [98, 111, 98]), .string (strOf [97, 110, 110]), .string (strOf [85, 83, 68]), .int .i64 1]
theorem run_build_mv (W : World) : (Instr.build 94 #[(0, .string { data := #[98, 111, 98] }), (1, .string { data := #[97, 110, 110] }), (2, .string { data := #[85, 83, 68] }), (3, .int .i64 1)]).run Tryz.prog W = .ok (.agg mvC.toArray) W := by kernel_rfl
theorem run_eql_mv (W : World) : (binOp .eql 94 (.agg mvC.toArray) (.agg mvC.toArray)).run Tryz.prog W = .ok (.bool true) W := by kernel_rfl
theorem guard_mv (op : BinOp) (x y : Operand) (a b : Array Value) (w : World) : (eqGuard op 94 x y (.agg a) (.agg b)).run Tryz.prog w = .ok () w := by
  have h : Tryz.prog.eqGuardType Tryz.prog.depth 94 = false := by kernel_rfl
  cases op <;> simp [eqGuard, program, h, Sem.run_bind, Sem.run]
set_option maxRecDepth 1000000 in
theorem run_count : isV (.int .i64 1) (runO 20 [.ptr (some (.own 156 0 0))] stUS) = true := by kernel_rfl
theorem leaves_open : ∀ p ∈ RI.Sh.lf.paths, RI.leafB stOOk p (runO 10 [.ptr (some (.own 1 0 0)), vCfg] s2) = true := fun p hp => by
  simp [RI.Sh.paths] at hp
  subst hp
  exact run_open
theorem leaves_do : ∀ p ∈ (RI.Sh.nd .lf .lf).paths, RI.leafB stDOk p (runO 12 [.ptr (some (.own 156 0 0)), vAsk] stOS) = true := fun p hp => by
  simp [RI.Sh.paths] at hp
  rcases hp with rfl | rfl
  · exact run_do1
  · exact run_do2
theorem leaves_con : ∀ p ∈ RI.Sh.lf.paths, RI.leafB stCOk p (runO 13 [.ptr (some (.own 156 0 0)), .str [99]] stDS) = true := fun p hp => by
  simp [RI.Sh.paths] at hp
  subst hp
  exact run_con
theorem leaves_aud : ∀ p ∈ (RI.Sh.nd (.nd .lf .lf) (.nd .lf .lf)).paths, RI.leafB stUOk p (runO 21 [.ptr (some (.own 156 0 0))] stCS) = true := fun p hp => by
  simp [RI.Sh.paths] at hp
  rcases hp with rfl | rfl | rfl | rfl
  · exact run_aud_t_t
  · exact run_aud_t_f
  · exact run_aud_f_t
  · exact run_aud_f_f
set_option maxHeartbeats 2000000 in
theorem awake26_any (w : World) (nb : Nb w) : Calls Tryz.prog 7 #[] w fun e w' => e = .returned (.bool true) ∧ Below w.heap.size w w' := by
  obtain ⟨y, hat⟩ := At.start nb
  refine Calls.start 62 Tryz.func7 rfl rfl rfl ?_
  refine Cd.seq ?_
  refine Cd.region ?_
  refine Seq.val (Runs.assign rfl rfl) rfl rfl rfl ?_
  refine Seq.nil ?_
  refine Post.weak (F' := [(0, _)]) ⟨rfl, trivial⟩ ?_
  refine Post.then_ ?_
  refine Cd.seq ?_
  refine Cd.region ?_
  refine Seq.call (Enters.func rfl rfl rfl (run_enter Tryz.func33 (by kernel_rfl) rfl)) rfl rfl rfl (runs_from nb hat (f := 33) (l := [.int .i64 1048576]) (xs := [.int .i64 1048576]) (.cons (.int _ _) .nil) (isV_spec run_new).1 (RI.run_enter Tryz.func33 (by kernel_rfl) rfl _ _)) ?_
  rintro e wa ⟨xa, La, rfl, hla, hata, hxa⟩
  refine ⟨_, rfl, ?_⟩
  replace hata : At w y s1 wa La := hata
  rw [(isV_spec run_new).2] at hxa
  refine Seq.call (Enters.func rfl rfl rfl (run_enter Tryz.func11 (by kernel_rfl) rfl)) rfl rfl rfl (runs_from nb hata (f := 11) (l := []) (xs := []) .nil (isV_spec run_config).1 (RI.run_enter Tryz.func11 (by kernel_rfl) rfl _ _)) ?_
  rintro e wb ⟨xb, Lb, rfl, hlb, hatb, hxb⟩
  refine ⟨_, rfl, ?_⟩
  replace hatb : At w y s2 wb Lb := hatb
  rw [(isV_spec run_config).2] at hxb
  refine Seq.call (Enters.func rfl rfl rfl (run_enter Tryz.func10 (by kernel_rfl) rfl)) rfl rfl rfl (runs_lit nb hatb (f := 10) (l := [.ptr (some (.own 1 0 0)), vCfg]) (xs := [xa, xb]) (.cons (hxa.mono hlb) (.cons hxb .nil)) .lf leaves_open (RI.run_enter Tryz.func10 (by kernel_rfl) rfl _ _)) ?_
  rintro e wc ⟨xc, Lc, rfl, hlc, hatc, hxc⟩
  refine ⟨_, rfl, ?_⟩
  obtain ⟨u, v, rfl, hu, hv⟩ := rv_tup2 hxc
  obtain rfl := rv_int hv
  obtain ⟨a, rfl, hA⟩ := rv_ptr hu
  refine Seq.val (Runs.move rfl rfl) rfl rfl rfl ?_
  refine Seq.val (Runs.extract rfl rfl rfl) rfl rfl rfl ?_
  refine Seq.val (Runs.extract rfl rfl rfl) rfl rfl rfl ?_
  refine Seq.val (Runs.assign rfl rfl) rfl rfl rfl ?_
  refine Seq.val (Runs.assign rfl rfl) rfl rfl rfl ?_
  refine Seq.nil ?_
  refine Post.weak (F' := [(0, _), (1, _), (2, _)]) ⟨rfl, rfl, rfl, trivial⟩ ?_
  refine Post.then_ ?_
  refine Cd.seq ?_
  refine Cd.seq ?_
  refine Cd.region ?_
  refine Seq.val (Runs.move rfl rfl) rfl rfl rfl ?_
  refine Seq.val (Runs.eqlP rfl rfl rfl Tryz.underlying36) rfl rfl rfl ?_
  refine Seq.val (Runs.move rfl rfl) rfl rfl rfl ?_
  refine SeqC.start ?_
  refine SeqC.open rfl rfl rfl rfl rfl rfl rfl (fun hcx => Runs.move rfl rfl) ?_
  refine SeqC.next rfl rfl rfl rfl rfl rfl rfl (fun hcx => Runs.neqI rfl rfl rfl) ?_
  refine SeqC.or rfl rfl rfl rfl rfl rfl rfl ?_
  refine Seq.nil ?_
  refine Post.weak (F' := [(0, _), (1, _), (2, _), (17, _)]) ⟨rfl, rfl, rfl, rfl, trivial⟩ ?_
  refine Post.then_ ?_
  refine Cd.condF rfl (by simp) ?_
  refine Cd.skip ?_
  refine Post.then_ ?_
  refine Cd.seq ?_
  refine Cd.region ?_
  refine Seq.val (Runs.move rfl rfl) rfl rfl rfl ?_
  refine Seq.val (Runs.build rfl rfl (run_build_ask _)) rfl rfl rfl ?_
  refine Seq.call (Enters.func rfl rfl rfl (run_enter Tryz.func12 (by kernel_rfl) rfl)) rfl rfl rfl (runs_lit nb hatc (f := 12) (l := [.ptr (some (.own 156 0 0)), vAsk]) (xs := [.pointer (some a), askC]) (.cons hu (.cons rv_ask .nil)) (.nd .lf .lf) leaves_do (RI.run_enter Tryz.func12 (by kernel_rfl) rfl _ _)) ?_
  rintro e wd ⟨xd, Ld, rfl, hld, hatd, hxd⟩
  refine ⟨_, rfl, ?_⟩
  obtain ⟨ud, vd, rfl, hud, hvd⟩ := rv_tup2 hxd
  obtain rfl := rv_int hvd
  obtain ⟨B, base, sz, c, rfl, hB⟩ := rv_sg hud
  refine Seq.val (Runs.move rfl rfl) rfl rfl rfl ?_
  refine Seq.val (Runs.extract rfl rfl rfl) rfl rfl rfl ?_
  refine Seq.val (Runs.extract rfl rfl rfl) rfl rfl rfl ?_
  refine Seq.val (Runs.assign rfl rfl) rfl rfl rfl ?_
  refine Seq.val (Runs.assign rfl rfl) rfl rfl rfl ?_
  refine Seq.nil ?_
  refine Post.weak (F' := [(0, _), (1, _), (2, _), (3, _), (17, _)]) ⟨rfl, rfl, rfl, rfl, rfl, trivial⟩ ?_
  refine Post.then_ ?_
  refine Cd.seq ?_
  refine Cd.region ?_
  refine Seq.val (Runs.move rfl rfl) rfl rfl rfl ?_
  refine Seq.call (Enters.func rfl rfl rfl (run_enter Tryz.func13 (by kernel_rfl) rfl)) rfl rfl rfl (runs_lit nb hatd (f := 13) (l := [.ptr (some (.own 156 0 0)), .str [99]]) (xs := [.pointer (some a), .string (strOf [99])]) (.cons (hu.mono hld) (.cons (rv_of (by decide)) .nil)) .lf leaves_con (RI.run_enter Tryz.func13 (by kernel_rfl) rfl _ _)) ?_
  rintro e we ⟨xe, Le, rfl, hle, hate, hxe⟩
  refine ⟨_, rfl, ?_⟩
  obtain ⟨ue, ve, rfl, hue, hve⟩ := rv_tup2 hxe
  obtain rfl := rv_int hve
  obtain ⟨rfl, hcells⟩ := hate.row row_mC (hle _ _ _ hB)
  obtain ⟨m0, hm0, hr0⟩ := hcells 0 _ (by omega) rfl
  obtain ⟨m1, hm1, hr1⟩ := hcells 1 _ (by omega) rfl
  obtain ⟨m2, hm2, hr2⟩ := hcells 2 _ (by omega) rfl
  obtain ⟨m3, hm3, hr3⟩ := hcells 3 _ (by omega) rfl
  obtain rfl := rv_str hr0
  obtain rfl := rv_str hr1
  obtain rfl := rv_str hr2
  obtain rfl := rv_int hr3
  obtain rfl := rv_con hue
  have bel := Below.refl we.heap.size we
  have hcl : ∀ W, Below we.heap.size we W → ∀ (j : Nat) (v : Value), mvC[j]? = some v → W.cell? (((⟨B, 0 + 0, none⟩ : Addr).add (0 * 4)).add j) = some v := fun W hW j v hj => by
    have hlt : B < we.heap.size := World.block_lt_of_cell? we _ hm0
    have e : (((⟨B, 0 + 0, none⟩ : Addr).add (0 * 4)).add j) = ⟨B, j, none⟩ := by simp [Addr.add]; exact fun h => h.symm
    rw [e, hW.cell hlt]
    match j, hj with
    | 0, hj => injection hj with hj; rw [hm0, hj]
    | 1, hj => injection hj with hj; rw [hm1, hj]
    | 2, hj => injection hj with hj; rw [hm2, hj]
    | 3, hj => injection hj with hj; rw [hm3, hj]
  refine Seq.val (Runs.move rfl rfl) rfl rfl rfl ?_
  refine Seq.val (Runs.extract rfl rfl rfl) rfl rfl rfl ?_
  refine Seq.val (Runs.extract rfl rfl rfl) rfl rfl rfl ?_
  refine Seq.alloc rfl (run_zero zero_event_Contract) rfl rfl rfl ?_
  intro g4 w1 n4
  have e4 := Nat.le_trans bel.size n4.ge
  replace bel := bel.step n4.below
  have k4 := n4.blk
  refine Seq.storeN rfl rfl rfl rfl (m := 8) (by kernel_rfl) rfl (by repeat' first | exact trivial | apply And.intro | rfl | assumption) k4 (by simp [Value.cells]) rfl rfl ?_
  intro w2 pw2
  replace bel := bel.put k4 pw2 e4
  replace k4 := pw2.blk
  refine Seq.val (Runs.assign rfl rfl) rfl rfl rfl ?_
  refine Seq.nil ?_
  refine Post.weak (F' := [(0, _), (1, _), (2, _), (3, _), (4, _), (5, _), (17, _)]) ⟨rfl, rfl, rfl, rfl, rfl, rfl, rfl, trivial⟩ ?_
  refine Post.then_ ?_
  refine Cd.seq ?_
  refine Cd.region ?_
  refine Seq.val (Runs.move rfl rfl) rfl rfl rfl ?_
  refine Seq.val (Runs.eqlI rfl rfl rfl) rfl rfl rfl ?_
  refine Seq.val (Runs.move rfl rfl) rfl rfl rfl ?_
  refine Seq.valG (Runs.move rfl rfl) rfl rfl rfl rfl rfl ?_
  refine Seq.valG (Runs.len rfl rfl Tryz.underlying43) rfl rfl rfl rfl rfl ?_
  refine Seq.valG (Runs.eqlI rfl rfl rfl) rfl rfl rfl rfl rfl ?_
  refine Seq.val (Runs.pickT rfl rfl rfl) rfl rfl rfl ?_
  refine Seq.val (Runs.move rfl rfl) rfl rfl rfl ?_
  refine Seq.valG (Runs.move rfl rfl) rfl rfl rfl rfl rfl ?_
  refine Seq.valG (Runs.indexN rfl rfl rfl Tryz.underlying43 (s := 4) (by kernel_rfl) (j := 0) rfl (by omega)) rfl rfl rfl rfl rfl ?_
  refine Seq.valG (Runs.loadFE (m := 4) (ps := mvC) rfl rfl Tryz.underlying94 rfl (by kernel_rfl) rfl (hcl _ bel)) rfl rfl rfl rfl rfl ?_
  refine Seq.valG (Runs.build rfl rfl (run_build_mv _)) rfl rfl rfl rfl rfl ?_
  refine Seq.valG (Runs.bin rfl rfl rfl (guard_mv _ _ _ _ _ _) (run_eql_mv _)) rfl rfl rfl rfl rfl ?_
  refine Seq.val (Runs.pickT rfl rfl rfl) rfl rfl rfl ?_
  refine Seq.val (Runs.move rfl rfl) rfl rfl rfl ?_
  refine Seq.valG (Runs.move rfl rfl) rfl rfl rfl rfl rfl ?_
  refine Seq.valG (Runs.eqlI rfl rfl rfl) rfl rfl rfl rfl rfl ?_
  refine Seq.val (Runs.pickT rfl rfl rfl) rfl rfl rfl ?_
  refine Seq.val (Runs.move rfl rfl) rfl rfl rfl ?_
  refine Seq.valG (Runs.fieldB 6 rfl rfl Tryz.underlying48 rfl (by kernel_rfl)) rfl rfl rfl rfl rfl ?_
  refine Seq.valG (Runs.loadB rfl rfl Tryz.underlying3 rfl k4 rfl) rfl rfl rfl rfl rfl ?_
  refine Seq.valG (Runs.eqlI rfl rfl rfl) rfl rfl rfl rfl rfl ?_
  refine Seq.val (Runs.pickT rfl rfl rfl) rfl rfl rfl ?_
  refine Seq.val (Runs.move rfl rfl) rfl rfl rfl ?_
  refine Seq.valG (Runs.move rfl rfl) rfl rfl rfl rfl rfl ?_
  have hatu := hate.grow bel
  refine Seq.callG (Enters.func rfl rfl rfl (run_enter Tryz.func21 (by kernel_rfl) rfl)) rfl rfl rfl rfl rfl (runs_lit nb hatu (f := 21) (l := [.ptr (some (.own 156 0 0))]) (xs := [.pointer (some a)]) (.cons ((hu.mono hld).mono hle) .nil) (.nd (.nd .lf .lf) (.nd .lf .lf)) leaves_aud (RI.run_enter Tryz.func21 (by kernel_rfl) rfl _ _)) ?_
  rintro e wu ⟨xu, Lu, rfl, hlu, hatv, hxu⟩
  refine ⟨_, rfl, ?_⟩
  obtain rfl := rv_int hxu
  refine Seq.valG (Runs.eqlI rfl rfl rfl) rfl rfl rfl rfl rfl ?_
  refine Seq.val (Runs.pickT rfl rfl rfl) rfl rfl rfl ?_
  refine Seq.val (Runs.move rfl rfl) rfl rfl rfl ?_
  refine Seq.valG (Runs.move rfl rfl) rfl rfl rfl rfl rfl ?_
  refine Seq.callG (Enters.func rfl rfl rfl (run_enter Tryz.func20 (by kernel_rfl) rfl)) rfl rfl rfl rfl rfl (runs_from nb hatv (f := 20) (l := [.ptr (some (.own 156 0 0))]) (xs := [.pointer (some a)]) (.cons (((hu.mono hld).mono hle).mono hlu) .nil) (isV_spec run_count).1 (RI.run_enter Tryz.func20 (by kernel_rfl) rfl _ _)) ?_
  rintro e wv ⟨xv, Lv, rfl, hlv, hatw, hxv⟩
  refine ⟨_, rfl, ?_⟩
  rw [(isV_spec run_count).2] at hxv
  obtain rfl := rv_int hxv
  refine Seq.valG (Runs.eqlI rfl rfl rfl) rfl rfl rfl rfl rfl ?_
  refine Seq.val (Runs.pickT rfl rfl rfl) rfl rfl rfl ?_
  refine Seq.val (Runs.assign rfl rfl) rfl rfl rfl ?_
  refine Seq.nil ?_
  refine Post.weak (F' := [(0, _), (1, _), (2, _), (3, _), (4, _), (5, _), (17, _)]) ⟨rfl, rfl, rfl, rfl, rfl, rfl, rfl, trivial⟩ ?_
  refine Post.then_ ?_
  refine Cd.ret ?_
  refine Post.end1 rfl rfl (.inl rfl) ?_
  exact ⟨rfl, hatw.rel.below⟩
end Go.Proofs.YtenikchlnfhikaaGreatDoor
