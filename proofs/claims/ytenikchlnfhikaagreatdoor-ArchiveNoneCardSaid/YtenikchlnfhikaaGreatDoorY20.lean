/-
  Texts that were joined: EoD, EoE, EoG, EoH, EoK. Conditions: what each theorem names.
-/
import Derived.Test.YtenikchlnfhikaaGreatDoorY8
import Derived.Test.YtenikchlnfhikaaGreatDoorY10
import Derived.Test.YtenikchlnfhikaaGreatDoorY11
import Derived.Test.YtenikchlnfhikaaGreatDoorY13
import Derived.Test.YtenikchlnfhikaaGreatDoorY15
import Derived.Test.YtenikchlnfhikaaGreatDoorY16
import Derived.Test.YtenikchlnfhikaaGreatDoorY17
import Derived.Test.YtenikchlnfhikaaGreatDoorY19
set_option linter.unusedSectionVars false
set_option linter.unusedVariables false
set_option linter.unusedSimpArgs false
namespace Go.Proofs.YtenikchlnfhikaaGreatDoor
open Go Go.RowKit

abbrev askA : Value := .agg #[.int .i64 1, .string { data := #[114] }, .string { data := #[99] }, .string { data := #[97, 110, 110] }, .string { data := #[98, 111, 98] }, .string { data := #[111, 110, 101, 40, 85, 83, 68, 41] }, .int .i64 0, .int .i64 0, .int .i64 0, .int .i64 0]
theorem run_build_askA (W : World) : (Instr.build 34 #[(0, .int .i64 1), (1, .string { data := #[114] }), (2, .string { data := #[99] }), (3, .string { data := #[97, 110, 110] }), (4, .string { data := #[98, 111, 98] }), (5, .string { data := #[111, 110, 101, 40, 85, 83, 68, 41] })]).run Tryz.prog W = .ok askA W := by kernel_rfl
theorem rv_askA {ρ : RI.Env} {L : RI.Loc} : RI.RV ρ L vAskA askA :=
  .agg (.cons (.int _ _) (.cons (rv_of (l := [114]) (by decide)) (.cons (rv_of (l := [99]) (by decide)) (.cons (rv_of (l := [97, 110, 110]) (by decide)) (.cons (rv_of (l := [98, 111, 98]) (by decide)) (.cons (rv_of (l := [111, 110, 101, 40, 85, 83, 68, 41]) (by decide)) (.cons (.int _ _) (.cons (.int _ _) (.cons (.int _ _) (.cons (.int _ _) .nil))))))))))
abbrev askB : Value := .agg #[.int .i64 7, .string { data := #[113] }, .string { data := #[99] }, .string { data := #[] }, .string { data := #[] }, .string { data := #[] }, .int .i64 0, .int .i64 0, .int .i64 0, .int .i64 0]
theorem run_build_askB (W : World) : (Instr.build 34 #[(0, .int .i64 7), (1, .string { data := #[113] }), (2, .string { data := #[99] })]).run Tryz.prog W = .ok askB W := by kernel_rfl
theorem rv_askB {ρ : RI.Env} {L : RI.Loc} : RI.RV ρ L vAskB askB :=
  .agg (.cons (.int _ _) (.cons (rv_of (l := [113]) (by decide)) (.cons (rv_of (l := [99]) (by decide)) (.cons (rv_of (l := []) (by decide)) (.cons (rv_of (l := []) (by decide)) (.cons (rv_of (l := []) (by decide)) (.cons (.int _ _) (.cons (.int _ _) (.cons (.int _ _) (.cons (.int _ _) .nil))))))))))
theorem Runs.eqlT {P : Program} {E : Operand → Option Value} {o : Oper} {w : World} {b : Bool} (h : Runs P E o w (.bool b) w) (hb : b = true) : Runs P E o w (.bool true) w := hb ▸ h
theorem leaf1 {ok : RI.Rr → Bool} {o : RI.Oc RI.Rr} (h : RI.leafB ok [] o = true) : ∀ p ∈ RI.Sh.lf.paths, RI.leafB ok p o = true := fun p hp => by
  simp [RI.Sh.paths] at hp
  subst hp
  exact h
theorem leaves_doA : ∀ p ∈ (RI.Sh.nd .lf .lf).paths, RI.leafB stXOk p (runO 12 [.ptr (some (.own 156 0 0)), vAskA] stES) = true := fun p hp => by
  simp [RI.Sh.paths] at hp
  rcases hp with rfl | rfl
  · exact run_doA1
  · exact run_doA2
set_option maxHeartbeats 2000000 in
theorem awake27_any (w : World) (nb : Nb w) : Calls Tryz.prog 24 #[] w fun e w' => e = .returned (.bool true) ∧ Below w.heap.size w w' := by
  obtain ⟨y, hat⟩ := At.start nb
  refine Calls.start 76 Tryz.func24 rfl rfl rfl ?_
  refine Cd.seq ?_
  refine Cd.region ?_
  refine Seq.val (Runs.assign rfl rfl) rfl rfl rfl ?_
  refine Seq.nil ?_
  refine Post.weak (F' := [(0, _)]) ⟨rfl, trivial⟩ ?_
  refine Post.then_ ?_
  refine Cd.seq ?_
  refine Cd.region ?_
  refine Seq.call (Enters.func rfl rfl rfl (run_enter Tryz.func33 (by kernel_rfl) rfl)) rfl rfl rfl (runs_from nb hat (f := 33) (l := [.int .i64 1048576]) (xs := [.int .i64 1048576]) (.cons (.int _ _) .nil) (isV_spec run_new).1 (RI.run_enter Tryz.func33 (by kernel_rfl) rfl _ _)) ?_
  rintro e wa ⟨xa, La, rfl, hla, hata, hxa⟩
  refine ⟨_, rfl, ?_⟩
  replace hata : At w y s1 wa La := hata
  rw [(isV_spec run_new).2] at hxa
  refine Seq.call (Enters.func rfl rfl rfl (run_enter Tryz.func30 (by kernel_rfl) rfl)) rfl rfl rfl (runs_from nb hata (f := 30) (l := []) (xs := []) .nil (isV_spec run_config27).1 (RI.run_enter Tryz.func30 (by kernel_rfl) rfl _ _)) ?_
  rintro e wb ⟨xb, Lb, rfl, hlb, hatb, hxb⟩
  refine ⟨_, rfl, ?_⟩
  replace hatb : At w y s27 wb Lb := hatb
  rw [(isV_spec run_config27).2] at hxb
  refine Seq.call (Enters.func rfl rfl rfl (run_enter Tryz.func10 (by kernel_rfl) rfl)) rfl rfl rfl (runs_lit nb hatb (f := 10) (l := [.ptr (some (.own 1 0 0)), vCfg]) (xs := [xa, xb]) (.cons (hxa.mono hlb) (.cons hxb .nil)) .lf (leaf1 run_open27) (RI.run_enter Tryz.func10 (by kernel_rfl) rfl _ _)) ?_
  rintro e wc ⟨xc, Lc, rfl, hlc, hatc, hxc⟩
  refine ⟨_, rfl, ?_⟩
  obtain ⟨u, v, rfl, hu, hv⟩ := rv_tup2 hxc
  obtain rfl := rv_int hv
  obtain ⟨a, rfl, hA⟩ := rv_ptr hu
  refine Seq.val (Runs.move rfl rfl) rfl rfl rfl ?_
  refine Seq.val (Runs.extract rfl rfl rfl) rfl rfl rfl ?_
  refine Seq.val (Runs.extract rfl rfl rfl) rfl rfl rfl ?_
  refine Seq.val (Runs.assign rfl rfl) rfl rfl rfl ?_
  refine Seq.val (Runs.assign rfl rfl) rfl rfl rfl ?_
  refine Seq.nil ?_
  refine Post.weak (F' := [(0, _), (1, _), (2, _)]) ⟨rfl, rfl, rfl, trivial⟩ ?_
  refine Post.then_ ?_
  refine Cd.seq ?_
  refine Cd.seq ?_
  refine Cd.region ?_
  refine Seq.val (Runs.move rfl rfl) rfl rfl rfl ?_
  refine Seq.val (Runs.eqlP rfl rfl rfl Tryz.underlying36) rfl rfl rfl ?_
  refine Seq.val (Runs.move rfl rfl) rfl rfl rfl ?_
  refine SeqC.start ?_
  refine SeqC.open rfl rfl rfl rfl rfl rfl rfl (fun hcx => Runs.move rfl rfl) ?_
  refine SeqC.next rfl rfl rfl rfl rfl rfl rfl (fun hcx => Runs.neqI rfl rfl rfl) ?_
  refine SeqC.or rfl rfl rfl rfl rfl rfl rfl ?_
  refine Seq.nil ?_
  refine Post.weak (F' := [(0, _), (1, _), (2, _), (19, _)]) ⟨rfl, rfl, rfl, rfl, trivial⟩ ?_
  refine Post.then_ ?_
  refine Cd.condF rfl (by simp) ?_
  refine Cd.skip ?_
  refine Post.then_ ?_
  refine Cd.seq ?_
  refine Cd.region ?_
  refine Seq.val (Runs.move rfl rfl) rfl rfl rfl ?_
  refine Seq.call (Enters.func rfl rfl rfl (run_enter Tryz.func25 (by kernel_rfl) rfl)) rfl rfl rfl (runs_lit nb hatc (f := 25) (l := [.ptr (some (.own 156 0 0))]) (xs := [.pointer (some a)]) (.cons hu .nil) .lf (leaf1 run_expA) (RI.run_enter Tryz.func25 (by kernel_rfl) rfl _ _)) ?_
  rintro e wd ⟨xd, Ld, rfl, hld, hatd, hxd⟩
  refine ⟨_, rfl, ?_⟩
  obtain ⟨ud, vd, rfl, hud, hvd⟩ := rv_tup2 hxd
  obtain rfl := rv_int hvd
  obtain rfl := rv_str hud
  replace hu := hu.mono hld
  refine Seq.val (Runs.move rfl rfl) rfl rfl rfl ?_
  refine Seq.val (Runs.extract rfl rfl rfl) rfl rfl rfl ?_
  refine Seq.val (Runs.extract rfl rfl rfl) rfl rfl rfl ?_
  refine Seq.val (Runs.assign rfl rfl) rfl rfl rfl ?_
  refine Seq.val (Runs.assign rfl rfl) rfl rfl rfl ?_
  refine Seq.nil ?_
  refine Post.weak (F' := [(0, _), (1, _), (2, _), (3, _), (19, _)]) ⟨rfl, rfl, rfl, rfl, rfl, trivial⟩ ?_
  refine Post.then_ ?_
  refine Cd.seq ?_
  refine Cd.region ?_
  refine Seq.val (Runs.move rfl rfl) rfl rfl rfl ?_
  refine Seq.val (Runs.build rfl rfl (run_build_askA _)) rfl rfl rfl ?_
  refine Seq.call (Enters.func rfl rfl rfl (run_enter Tryz.func12 (by kernel_rfl) rfl)) rfl rfl rfl (runs_lit nb hatd (f := 12) (l := [.ptr (some (.own 156 0 0)), vAskA]) (xs := [.pointer (some a), askA]) (.cons hu (.cons rv_askA .nil)) (.nd .lf .lf) leaves_doA (RI.run_enter Tryz.func12 (by kernel_rfl) rfl _ _)) ?_
  rintro e we ⟨xe, Le, rfl, hle, hate, hxe⟩
  refine ⟨_, rfl, ?_⟩
  replace hu := hu.mono hle
  refine Seq.nil ?_
  refine Post.weak (F' := [(0, _), (1, _), (2, _), (3, _), (19, _)]) ⟨rfl, rfl, rfl, rfl, rfl, trivial⟩ ?_
  refine Post.then_ ?_
  refine Cd.seq ?_
  refine Cd.region ?_
  refine Seq.val (Runs.move rfl rfl) rfl rfl rfl ?_
  refine Seq.val (Runs.build rfl rfl (run_build_askB _)) rfl rfl rfl ?_
  refine Seq.call (Enters.func rfl rfl rfl (run_enter Tryz.func12 (by kernel_rfl) rfl)) rfl rfl rfl (runs_lit nb hate (f := 12) (l := [.ptr (some (.own 156 0 0)), vAskB]) (xs := [.pointer (some a), askB]) (.cons hu (.cons rv_askB .nil)) .lf (leaf1 run_doB) (RI.run_enter Tryz.func12 (by kernel_rfl) rfl _ _)) ?_
  rintro e wf ⟨xf, Lf, rfl, hlf, hatf, hxf⟩
  refine ⟨_, rfl, ?_⟩
  replace hu := hu.mono hlf
  refine Seq.nil ?_
  refine Post.weak (F' := [(0, _), (1, _), (2, _), (3, _), (19, _)]) ⟨rfl, rfl, rfl, rfl, rfl, trivial⟩ ?_
  refine Post.then_ ?_
  refine Cd.seq ?_
  refine Cd.region ?_
  refine Seq.val (Runs.move rfl rfl) rfl rfl rfl ?_
  refine Seq.call (Enters.func rfl rfl rfl (run_enter Tryz.func25 (by kernel_rfl) rfl)) rfl rfl rfl (runs_lit nb hatf (f := 25) (l := [.ptr (some (.own 156 0 0))]) (xs := [.pointer (some a)]) (.cons hu .nil) .lf (leaf1 run_expB) (RI.run_enter Tryz.func25 (by kernel_rfl) rfl _ _)) ?_
  rintro e wg ⟨xg, Lg, rfl, hlg, hatg, hxg⟩
  refine ⟨_, rfl, ?_⟩
  obtain ⟨ug, vg, rfl, hug, hvg⟩ := rv_tup2 hxg
  obtain rfl := rv_int hvg
  refine Seq.val (Runs.move rfl rfl) rfl rfl rfl ?_
  refine Seq.val (Runs.extract rfl rfl rfl) rfl rfl rfl ?_
  refine Seq.val (Runs.extract rfl rfl rfl) rfl rfl rfl ?_
  refine Seq.val (Runs.assign rfl rfl) rfl rfl rfl ?_
  refine Seq.val (Runs.assign rfl rfl) rfl rfl rfl ?_
  refine Seq.nil ?_
  refine Post.weak (F' := [(0, _), (1, _), (2, _), (3, _), (4, _), (5, _), (19, _)]) ⟨rfl, rfl, rfl, rfl, rfl, rfl, rfl, trivial⟩ ?_
  refine Post.then_ ?_
  refine Cd.seq ?_
  refine Cd.region ?_
  refine Seq.val (Runs.move rfl rfl) rfl rfl rfl ?_
  refine Seq.call (Enters.func rfl rfl rfl (run_enter Tryz.func68 (by kernel_rfl) rfl)) rfl rfl rfl (runs_lit nb hatg (f := 68) (l := [vArch]) (xs := [ug]) (.cons hug .nil) .lf (leaf1 run_read) (RI.run_enter Tryz.func68 (by kernel_rfl) rfl _ _)) ?_
  rintro e wh ⟨xh, Lh, rfl, hlh, hath, hxh⟩
  refine ⟨_, rfl, ?_⟩
  obtain ⟨uh, vh, rfl, huh, hvh⟩ := rv_tup2 hxh
  obtain rfl := rv_int hvh
  obtain ⟨B, base, sz, c, rfl, hB⟩ := rv_sg huh
  obtain ⟨rfl, hcells⟩ := hath.row row_it hB
  obtain ⟨m1, hm1, hr1⟩ := hcells 1 _ (by omega) rfl
  obtain rfl := rv_str hr1
  obtain ⟨m8, hm8, hr8⟩ := hcells 8 _ (by omega) rfl
  obtain ⟨B8, base8, sz8, c8, rfl, -⟩ := rv_sg hr8
  have e1 : wh.cell? ((⟨B, 0 + 0, none⟩ : Addr).add (0 * 9) |>.add 0 |>.add 1) = some (.string (strOf [97, 110, 110])) := hm1
  have e8 : wh.cell? ((⟨B, 0 + 0, none⟩ : Addr).add (0 * 9) |>.add 8) = some (.slice (some ⟨B8, base8 + 0, none⟩) 2 c8) := hm8
  refine Seq.val (Runs.move rfl rfl) rfl rfl rfl ?_
  refine Seq.val (Runs.extract rfl rfl rfl) rfl rfl rfl ?_
  refine Seq.val (Runs.extract rfl rfl rfl) rfl rfl rfl ?_
  refine Seq.val (Runs.assign rfl rfl) rfl rfl rfl ?_
  refine Seq.val (Runs.assign rfl rfl) rfl rfl rfl ?_
  refine Seq.nil ?_
  refine Post.weak (F' := [(0, _), (1, _), (2, _), (3, _), (4, _), (5, _), (6, _), (7, _), (19, _)]) ⟨rfl, rfl, rfl, rfl, rfl, rfl, rfl, rfl, rfl, trivial⟩ ?_
  refine Post.then_ ?_
  refine Cd.seq ?_
  refine Cd.region ?_
  refine Seq.val (Runs.move rfl rfl) rfl rfl rfl ?_
  refine Seq.val (Runs.eqlI rfl rfl rfl) rfl rfl rfl ?_
  refine Seq.val (Runs.move rfl rfl) rfl rfl rfl ?_
  refine Seq.valG (Runs.move rfl rfl) rfl rfl rfl rfl rfl ?_
  refine Seq.valG (Runs.eqlT (Runs.eqlS rfl rfl rfl) (by kernel_rfl)) rfl rfl rfl rfl rfl ?_
  refine Seq.val (Runs.pickT rfl rfl rfl) rfl rfl rfl ?_
  refine Seq.val (Runs.move rfl rfl) rfl rfl rfl ?_
  refine Seq.valG (Runs.move rfl rfl) rfl rfl rfl rfl rfl ?_
  refine Seq.valG (Runs.eqlI rfl rfl rfl) rfl rfl rfl rfl rfl ?_
  refine Seq.val (Runs.pickT rfl rfl rfl) rfl rfl rfl ?_
  refine Seq.val (Runs.move rfl rfl) rfl rfl rfl ?_
  refine Seq.valG (Runs.move rfl rfl) rfl rfl rfl rfl rfl ?_
  refine Seq.valG (Runs.eqlI rfl rfl rfl) rfl rfl rfl rfl rfl ?_
  refine Seq.val (Runs.pickT rfl rfl rfl) rfl rfl rfl ?_
  refine Seq.val (Runs.move rfl rfl) rfl rfl rfl ?_
  refine Seq.valG (Runs.move rfl rfl) rfl rfl rfl rfl rfl ?_
  refine Seq.valG (Runs.len rfl rfl Tryz.underlying149) rfl rfl rfl rfl rfl ?_
  refine Seq.valG (Runs.eqlI rfl rfl rfl) rfl rfl rfl rfl rfl ?_
  refine Seq.val (Runs.pickT rfl rfl rfl) rfl rfl rfl ?_
  refine Seq.val (Runs.move rfl rfl) rfl rfl rfl ?_
  refine Seq.valG (Runs.move rfl rfl) rfl rfl rfl rfl rfl ?_
  refine Seq.valG (Runs.indexN rfl rfl rfl Tryz.underlying149 (s := 9) (by kernel_rfl) (j := 0) rfl (by omega)) rfl rfl rfl rfl rfl ?_
  refine Seq.valG (Runs.fieldA 8 rfl rfl Tryz.underlying83 rfl (by kernel_rfl)) rfl rfl rfl rfl rfl ?_
  refine Seq.valG (Runs.load1 rfl rfl Tryz.underlying59 rfl e8) rfl rfl rfl rfl rfl ?_
  refine Seq.valG (Runs.len rfl rfl Tryz.underlying59) rfl rfl rfl rfl rfl ?_
  refine Seq.valG (Runs.eqlI rfl rfl rfl) rfl rfl rfl rfl rfl ?_
  refine Seq.val (Runs.pickT rfl rfl rfl) rfl rfl rfl ?_
  refine Seq.val (Runs.move rfl rfl) rfl rfl rfl ?_
  refine Seq.valG (Runs.move rfl rfl) rfl rfl rfl rfl rfl ?_
  refine Seq.valG (Runs.indexN rfl rfl rfl Tryz.underlying149 (s := 9) (by kernel_rfl) (j := 0) rfl (by omega)) rfl rfl rfl rfl rfl ?_
  refine Seq.valG (Runs.fieldA 0 rfl rfl Tryz.underlying83 rfl (by kernel_rfl)) rfl rfl rfl rfl rfl ?_
  refine Seq.valG (Runs.fieldA 1 rfl rfl Tryz.underlying48 rfl (by kernel_rfl)) rfl rfl rfl rfl rfl ?_
  refine Seq.valG (Runs.load1 rfl rfl Tryz.underlying9 rfl e1) rfl rfl rfl rfl rfl ?_
  refine Seq.valG (Runs.eqlT (Runs.eqlS rfl rfl rfl) (by kernel_rfl)) rfl rfl rfl rfl rfl ?_
  refine Seq.val (Runs.pickT rfl rfl rfl) rfl rfl rfl ?_
  refine Seq.val (Runs.assign rfl rfl) rfl rfl rfl ?_
  refine Seq.nil ?_
  refine Post.weak (F' := [(0, _), (1, _), (2, _), (3, _), (4, _), (5, _), (6, _), (7, _), (19, _)]) ⟨rfl, rfl, rfl, rfl, rfl, rfl, rfl, rfl, rfl, trivial⟩ ?_
  refine Post.then_ ?_
  refine Cd.ret ?_
  refine Post.end1 rfl rfl (.inl rfl) ?_
  exact ⟨rfl, hath.rel.below⟩
end Go.Proofs.YtenikchlnfhikaaGreatDoor

set_option linter.unusedVariables false
namespace Go.Proofs.YtenikchlnfhikaaGreatDoor
open Go Go.RowKit
noncomputable def stH : List (Nat × RI.Ob) := [(0, .map [⟨.str [109, 97, 97, 46, 48, 48, 48, 48, 48, 48, 46, 108, 111, 103], .ptr (some (.own 46 0 0)), 0⟩, ⟨.str [109, 97, 97, 46, 48, 48, 48, 48, 48, 48, 46, 97, 99, 107], .ptr (some (.own 66 0 0)), 1⟩, ⟨.str [67, 85, 82, 82, 69, 78, 84], .ptr (some (.own 94 0 0)), 3⟩] 4), (1, .row 164 8 0 0 (RI.wrT [.int .i64 1048576, .mp (some 0), .int .i64 42, .int .i64 42, .int .i64 8, .bool false, .bool false, .int .i64 0] 0 .lf)), (5, .row 293 9 0 0 (RI.wrT [.ptr (some (.own 1 0 0)), .int .i64 0, .ptr (some (.own 12 0 0)), .int .i64 0, .int .i64 1, .int .i64 0, .sl none 0 0, .int .i64 1, .bool false] 0 .lf)), (12, .row 304 6 0 0 (RI.wrT [.ptr (some (.own 1 0 0)), .str [109, 97, 97], .int .i64 0, .int .i64 1, .int .i64 17, .bool false] 0 .lf)), (46, .row 465 2 0 0 (RI.wrT [.str [0, 0, 0, 5, 219, 95, 150, 125, 1, 2, 1, 0, 0, 102, 168, 69, 103], .int .i64 17] 0 .lf)), (66, .row 465 2 0 0 (RI.wrT [.str [0, 0, 0, 0, 0, 0, 0, 1, 137, 49, 67, 126], .int .i64 12] 0 .lf)), (94, .row 465 2 0 0 (RI.wrT [.str [0, 0, 0, 1, 196, 200, 12, 186, 0, 81, 83, 125, 82], .int .i64 13] 0 .lf)), (113, .row 304 6 0 0 (RI.wrT [.ptr (some (.own 1 0 0)), .str [119], .int .i64 0, .int .i64 0, .int .i64 0, .bool false] 0 .lf)), (128, .map [] 0), (135, .row 313 12 0 0 (RI.wrT [.ptr none, .ptr none, .ptr none, .ptr none, .ptr none, .ptr none, .ptr none, .ptr none, .ptr none, .ptr none, .ptr none, .ptr none] 0 .lf)), (136, .row 316 3 0 0 (RI.wrT [.str [], .str [], .sl (some (.own 135 0 0)) 12 12] 0 .lf)), (137, .row 318 3 0 0 (RI.wrT [.ptr (some (.own 136 0 0)), .int .i64 0, .int .u64 0] 0 .lf)), (138, .row 319 12 0 0 (RI.wrT [.ptr none, .ptr none, .ptr none, .ptr none, .ptr none, .ptr none, .ptr none, .ptr none, .ptr none, .ptr none, .ptr none, .ptr none] 0 .lf)), (139, .row 322 3 0 0 (RI.wrT [.int .i64 0, .int .i64 0, .sl (some (.own 138 0 0)) 12 12] 0 .lf)), (140, .row 324 3 0 0 (RI.wrT [.ptr (some (.own 139 0 0)), .int .i64 0, .int .u64 0] 0 .lf)), (141, .row 327 5 0 0 (RI.wrT [.int .i64 0, .int .i64 0, .ptr none, .ptr (some (.own 141 0 0)), .ptr (some (.own 141 0 0))] 0 .lf)), (142, .map [] 0), (143, .row 330 5 0 0 (RI.wrT [.int .i64 32, .mp (some 142), .ptr (some (.own 141 0 0)), .int .i64 0, .int .i64 0] 0 .lf)), (144, .row 203 13 0 0 (RI.wrT [.ptr (some (.own 1 0 0)), .int .i64 2, .int .i64 4000, .int .i64 2, .int .i64 1000, .ptr (some (.own 5 0 0)), .ptr (some (.own 113 0 0)), .ptr (some (.own 137 0 0)), .int .i64 0, .ptr (some (.own 140 0 0)), .mp (some 128), .ptr (some (.own 143 0 0)), .int .i64 0] 0 .lf)), (156, .row 155 1 0 0 (RI.wrT [.ptr (some (.own 144 0 0))] 0 .lf))]
noncomputable def stHV : RI.V := .tup [.ptr (some (.own 156 0 0)), .int .i64 0]
noncomputable def stHOk (r : RI.Rr) : Bool := RI.an (RI.V.beq r.v stHV) (RI.an (Nat.beq r.s.nx 157) (RI.hasAll r.s stH))
noncomputable abbrev stHS : RI.St := RI.stOf stH 157
noncomputable abbrev rowH : RI.Ob := .row 155 1 0 0 (RI.wrT [.ptr (some (.own 144 0 0))] 0 .lf)
theorem row_H : stHS.h.get 156 = some rowH := by kernel_rfl
theorem rowH_S : stHS.h.get 144 = some rowS := by kernel_rfl
set_option maxRecDepth 1000000 in
theorem run_shelf : RI.leafB stHOk [] (runO 29 [.ptr (some (.own 1 0 0)), vCfg] s27) = true := by kernel_rfl
end Go.Proofs.YtenikchlnfhikaaGreatDoor

namespace Go.Proofs.YtenikchlnfhikaaGreatDoor
open Go Go.RowKit

theorem zero_archive_Item : zeroIs Tryz.prog 83 = some (some (.agg #[.string { data := #[] }, .string { data := #[] }, .string { data := #[] }, .string { data := #[] }, .int .i64 0, .int .i64 0, .int .i64 0, .slice none 0 0, .slice none 0 0])) := by kernel_rfl
abbrev itZ : Value := .agg #[.string { data := #[] }, .string { data := #[] }, .string { data := #[] }, .string { data := #[] }, .int .i64 0, .int .i64 0, .int .i64 0, .slice none 0 0, .slice none 0 0]
theorem run_build_it (W : World) : (Instr.build 83 #[]).run Tryz.prog W = .ok itZ W := by kernel_rfl
noncomputable abbrev iT : Nat := 83
theorem arr9 {C : Array Value} (h : C.size = 9) : ∃ c0 c1 c2 c3 c4 c5 c6 c7 c8, C = #[c0, c1, c2, c3, c4, c5, c6, c7, c8] := by
  obtain ⟨l⟩ := C
  match l, h with
  | [c0, c1, c2, c3, c4, c5, c6, c7, c8], _ => exact ⟨_, _, _, _, _, _, _, _, _, rfl⟩
set_option maxRecDepth 1000000 in
theorem shf_row : (more stHS iT).h.get 156 = some rowH := by kernel_rfl
set_option maxRecDepth 1000000 in
theorem shf_get (l : List Nat) : GetOk (more stHS iT) (kF l) :=
  ⟨by kernel_rfl, by kernel_rfl, by kernel_rfl, by kernel_rfl, by kernel_rfl, by kernel_rfl, by kernel_rfl⟩
set_option maxRecDepth 1000000 in
theorem shf_back (l : List Nat) : (nextS (more stHS iT) (kF l)).h.get stHS.nx = some (.row iT 0 0 0 .lf) := by kernel_rfl
set_option maxHeartbeats 2000000 in
theorem shelf_bad (H : Nat) (l : List Nat) (hl : ∀ x ∈ l, x < 256) (hlen : l.length ≤ 9223372036854775807) (hn : namedB l = false) (w : World) :
    Calls Tryz.prog 27 #[.pointer (some ⟨H, 0, none⟩), .string (strOf l)] w fun e w' => e = .returned (.tuple #[itZ, .int .i64 7]) ∧ Below w.heap.size w w' := by
  have bel := Below.refl w.heap.size w
  have hnm := fun W => named_any l W hl hlen
  rw [hn] at hnm
  refine Calls.start 114 Tryz.func27 rfl rfl rfl ?_
  refine Cd.seq ?_
  refine Cd.region ?_
  refine Seq.alloc rfl (run_zero zero_archive_Item) rfl rfl rfl ?_
  intro g4 w1 n4
  have e4 := Nat.le_trans bel.size n4.ge
  replace bel := bel.step n4.below
  have k4 := n4.blk
  refine Seq.val (Runs.assign rfl rfl) rfl rfl rfl ?_
  refine Seq.nil ?_
  refine Post.weak (F' := [(0, _), (1, _), (4, _), (5, _)]) ⟨rfl, rfl, rfl, rfl, trivial⟩ ?_
  refine Post.then_ ?_
  refine Cd.seq ?_
  refine Cd.block ?_
  refine Cd.seq ?_
  refine Cd.region ?_
  refine Seq.val (Runs.move rfl rfl) rfl rfl rfl ?_
  refine Seq.val (Runs.eqlP rfl rfl rfl Tryz.underlying79) rfl rfl rfl ?_
  refine Seq.val (Runs.assign rfl rfl) rfl rfl rfl ?_
  refine Seq.nil ?_
  refine Post.weak (F' := [(0, _), (1, _), (4, _), (5, _), (17, _)]) ⟨rfl, rfl, rfl, rfl, rfl, trivial⟩ ?_
  refine Post.then_ ?_
  refine Cd.condF rfl (by simp) ?_
  refine Cd.seq ?_
  refine Cd.region ?_
  refine Seq.val (Runs.move rfl rfl) rfl rfl rfl ?_
  refine Seq.call (Enters.func rfl rfl rfl (run_enter Tryz.func35 (by kernel_rfl) rfl)) rfl rfl rfl (hnm _) ?_
  rintro e w3 ⟨rfl, hb3⟩
  refine ⟨_, rfl, ?_⟩
  replace bel := bel.step hb3
  replace k4 := k4.step hb3
  refine Seq.val (Runs.not rfl rfl) rfl rfl rfl ?_
  refine Seq.val (Runs.assign rfl rfl) rfl rfl rfl ?_
  refine Seq.nil ?_
  refine Post.weak (F' := [(0, _), (1, _), (4, _), (5, _), (17, _), (21, _)]) ⟨rfl, rfl, rfl, rfl, rfl, rfl, trivial⟩ ?_
  refine Post.then_ ?_
  refine Cd.condT rfl (by simp) ?_
  refine Cd.seq ?_
  refine Cd.region ?_
  refine Seq.val (Runs.build rfl rfl (run_build_it _)) rfl rfl rfl ?_
  refine Seq.storeN rfl rfl rfl rfl (m := 9) (by kernel_rfl) rfl (by repeat' first | exact trivial | apply And.intro | rfl | assumption) k4 (by simp [Value.cells]) rfl rfl ?_
  intro w2 pw2
  replace bel := bel.put k4 pw2 e4
  replace k4 := pw2.blk
  refine Seq.val (Runs.assign rfl rfl) rfl rfl rfl ?_
  refine Seq.nil ?_
  refine Post.weak (F' := [(0, _), (1, _), (4, _), (5, _), (17, _), (21, _)]) ⟨rfl, rfl, rfl, rfl, rfl, rfl, trivial⟩ ?_
  refine Post.then_ ?_
  refine Cd.ret ?_
  refine Post.block_ret ?_
  refine Post.then_ret ?_
  refine Post.endC2 rfl rfl rfl k4 Tryz.underlying83 rfl (m := 9) (by kernel_rfl) rfl (.inl rfl) ?_
  exact ⟨rfl, bel⟩
set_option maxHeartbeats 2000000 in
theorem shelf_none {w0 w : World} {y : Value} (nb : Nb w0) {L : RI.Loc} {l : List Nat} {H B sH sB : Nat} (hat : At w0 y stHS w L) (hH : L 156 0 = some (H, 0, sH)) (hB : L 144 0 = some (B, 0, sB)) (hl : ∀ x ∈ l, x < 256) (hn : namedB l = true) :
    Calls Tryz.prog 27 #[.pointer (some ⟨H, 0, none⟩), .string (strOf l)] w fun e w' => e = .returned (.tuple #[itZ, .int .i64 7]) ∧ Below w0.heap.size w0 w' := by
  have bel := Below.refl w.heap.size w
  have hlen := (named_key hl hn).1
  have hk := keyOkF hl hn
  have hnm := fun W => named_any l W hl (by omega)
  rw [hn] at hnm
  refine Calls.start 114 Tryz.func27 rfl rfl rfl ?_
  refine Cd.seq ?_
  refine Cd.region ?_
  refine Seq.alloc rfl (run_zero zero_archive_Item) rfl rfl rfl ?_
  intro g4 w1 n4
  have e4 := Nat.le_trans bel.size n4.ge
  replace bel := bel.step n4.below
  have k4 := n4.blk
  refine Seq.val (Runs.assign rfl rfl) rfl rfl rfl ?_
  refine Seq.nil ?_
  refine Post.weak (F' := [(0, _), (1, _), (4, _), (5, _)]) ⟨rfl, rfl, rfl, rfl, trivial⟩ ?_
  refine Post.then_ ?_
  refine Cd.seq ?_
  refine Cd.block ?_
  refine Cd.seq ?_
  refine Cd.region ?_
  refine Seq.val (Runs.move rfl rfl) rfl rfl rfl ?_
  refine Seq.val (Runs.eqlP rfl rfl rfl Tryz.underlying79) rfl rfl rfl ?_
  refine Seq.val (Runs.assign rfl rfl) rfl rfl rfl ?_
  refine Seq.nil ?_
  refine Post.weak (F' := [(0, _), (1, _), (4, _), (5, _), (17, _)]) ⟨rfl, rfl, rfl, rfl, rfl, trivial⟩ ?_
  refine Post.then_ ?_
  obtain ⟨hle1, hat1⟩ := hat.adopt n4
  have hc4 : (L.put stHS.nx 0 (g4, 0, 9)) stHS.nx 0 = some (g4, 0, 9) := RI.Loc.put_self _ _ _ _
  refine Cd.condF rfl (by simp) ?_
  refine Cd.seq ?_
  refine Cd.region ?_
  refine Seq.val (Runs.move rfl rfl) rfl rfl rfl ?_
  refine Seq.call (Enters.func rfl rfl rfl (run_enter Tryz.func35 (by kernel_rfl) rfl)) rfl rfl rfl (hnm _) ?_
  rintro e w3 ⟨rfl, hb3⟩
  refine ⟨_, rfl, ?_⟩
  replace hat1 := hat1.grow hb3
  replace bel := bel.step hb3
  replace k4 := k4.step hb3
  refine Seq.val (Runs.not rfl rfl) rfl rfl rfl ?_
  refine Seq.val (Runs.assign rfl rfl) rfl rfl rfl ?_
  refine Seq.nil ?_
  refine Post.weak (F' := [(0, _), (1, _), (4, _), (5, _), (17, _), (21, _)]) ⟨rfl, rfl, rfl, rfl, rfl, rfl, trivial⟩ ?_
  refine Post.then_ ?_
  refine Cd.condF rfl (by simp) ?_
  refine Cd.skip ?_
  refine Post.block_normal ?_
  refine Post.then_ ?_
  refine Cd.seq ?_
  refine Cd.region ?_
  refine Seq.val (Runs.move rfl rfl) rfl rfl rfl ?_
  refine Seq.val (Runs.nilCheck rfl rfl) rfl rfl rfl ?_
  refine Seq.val (Runs.fieldA 0 rfl rfl Tryz.underlying155 rfl (by kernel_rfl)) rfl rfl rfl ?_
  obtain ⟨-, hc⟩ := hat1.row shf_row (hle1 _ _ _ hH)
  obtain ⟨m0, hm0, hr0⟩ := hc 0 _ (by omega) rfl
  obtain ⟨a0, rfl, hA0⟩ := rv_ptr hr0
  obtain rfl := ra_own hA0 (hle1 _ _ _ hB)
  have hm0' : w3.cell? ((⟨H, 0, none⟩ : Addr).add 0) = some (.pointer (some ⟨B, 0 + 0, none⟩)) := by rw [Addr.add_lit]; exact hm0
  refine Seq.val (Runs.load1 rfl rfl Tryz.underlying64 rfl hm0') rfl rfl rfl ?_
  refine Seq.val (Runs.move rfl rfl) rfl rfl rfl ?_
  refine Seq.val (Runs.addL (a := [97, 46]) (b := l) rfl rfl rfl (by simp; omega)) rfl rfl rfl ?_
  refine Seq.call (Enters.func rfl rfl rfl (run_enter Tryz.func41 (by kernel_rfl) rfl)) rfl rfl rfl (get_none nb hat1 (shf_get l) hk (hle1 _ _ _ hB)) ?_
  rintro e w5 ⟨L5, rfl, hl5, hat5⟩
  refine ⟨_, rfl, ?_⟩
  clear k4 bel
  obtain ⟨C4, k4, hs4, hg4⟩ := hat5.blk0 (shf_back l) (hl5 _ _ _ hc4)
  obtain ⟨c0, c1, c2, c3, c4, c5, c6, c7, c8, rfl⟩ := arr9 hs4
  have bel := Below.refl w5.heap.size w5
  refine Seq.val (Runs.move rfl rfl) rfl rfl rfl ?_
  refine Seq.val (Runs.extract rfl rfl rfl) rfl rfl rfl ?_
  refine Seq.val (Runs.extract rfl rfl rfl) rfl rfl rfl ?_
  refine Seq.val (Runs.extract rfl rfl rfl) rfl rfl rfl ?_
  refine Seq.val (Runs.assign rfl rfl) rfl rfl rfl ?_
  refine Seq.val (Runs.assign rfl rfl) rfl rfl rfl ?_
  refine Seq.val (Runs.assign rfl rfl) rfl rfl rfl ?_
  refine Seq.nil ?_
  refine Post.weak (F' := [(0, _), (1, _), (4, _), (5, _), (6, _), (7, _), (8, _), (17, _), (21, _)]) ⟨rfl, rfl, rfl, rfl, rfl, rfl, rfl, rfl, rfl, trivial⟩ ?_
  refine Post.then_ ?_
  refine Cd.seq ?_
  refine Cd.block ?_
  refine Cd.seq ?_
  refine Cd.region ?_
  refine Seq.val (Runs.move rfl rfl) rfl rfl rfl ?_
  refine Seq.val (Runs.neqI rfl rfl rfl) rfl rfl rfl ?_
  refine Seq.val (Runs.assign rfl rfl) rfl rfl rfl ?_
  refine Seq.nil ?_
  refine Post.weak (F' := [(0, _), (1, _), (4, _), (5, _), (6, _), (7, _), (8, _), (17, _), (21, _), (37, _)]) ⟨rfl, rfl, rfl, rfl, rfl, rfl, rfl, rfl, rfl, rfl, trivial⟩ ?_
  refine Post.then_ ?_
  refine Cd.condF rfl (by simp) ?_
  refine Cd.seq ?_
  refine Cd.region ?_
  refine Seq.val (Runs.move rfl rfl) rfl rfl rfl ?_
  refine Seq.val (Runs.not rfl rfl) rfl rfl rfl ?_
  refine Seq.val (Runs.assign rfl rfl) rfl rfl rfl ?_
  refine Seq.nil ?_
  refine Post.weak (F' := [(0, _), (1, _), (4, _), (5, _), (6, _), (7, _), (8, _), (17, _), (21, _), (37, _), (42, _)]) ⟨rfl, rfl, rfl, rfl, rfl, rfl, rfl, rfl, rfl, rfl, rfl, trivial⟩ ?_
  refine Post.then_ ?_
  refine Cd.condT rfl (by simp) ?_
  refine Cd.seq ?_
  refine Cd.region ?_
  refine Seq.val (Runs.build rfl rfl (run_build_it _)) rfl rfl rfl ?_
  refine Seq.storeN rfl rfl rfl rfl (m := 9) (by kernel_rfl) rfl (by repeat' first | exact trivial | apply And.intro | rfl | assumption) k4 (by simp [Value.cells]) rfl rfl ?_
  intro w2 pw2
  replace k4 := pw2.blk
  refine Seq.val (Runs.assign rfl rfl) rfl rfl rfl ?_
  refine Seq.nil ?_
  refine Post.weak (F' := [(0, _), (1, _), (4, _), (5, _), (6, _), (7, _), (8, _), (17, _), (21, _), (37, _), (42, _)]) ⟨rfl, rfl, rfl, rfl, rfl, rfl, rfl, rfl, rfl, rfl, rfl, trivial⟩ ?_
  refine Post.then_ ?_
  refine Cd.ret ?_
  refine Post.block_ret ?_
  refine Post.then_ret ?_
  refine Post.endC2 rfl rfl rfl k4 Tryz.underlying83 rfl (m := 9) (by kernel_rfl) rfl (.inl rfl) ?_
  exact ⟨rfl, (hat5.putB (shf_back l) (hl5 _ _ _ hc4) pw2 rfl).rel.below⟩
end Go.Proofs.YtenikchlnfhikaaGreatDoor

namespace Go.Proofs.YtenikchlnfhikaaGreatDoor
open Go Go.RowKit

noncomputable abbrev itV : RI.V := .agg [.str [], .str [], .str [], .str [], .int .i64 0, .int .i64 0, .int .i64 0, .sl none 0 0, .sl none 0 0]
theorem rv_itZ {ρ : RI.Env} {L : RI.Loc} {x : Value} (h : RI.RV ρ L itV x) : x = itZ := by
  cases h with
  | agg hh =>
    rcases hh with _ | ⟨h0, hh⟩
    rcases hh with _ | ⟨h1, hh⟩
    rcases hh with _ | ⟨h2, hh⟩
    rcases hh with _ | ⟨h3, hh⟩
    rcases hh with _ | ⟨h4, hh⟩
    rcases hh with _ | ⟨h5, hh⟩
    rcases hh with _ | ⟨h6, hh⟩
    rcases hh with _ | ⟨h7, hh⟩
    rcases hh with _ | ⟨h8, hh⟩
    cases hh
    rw [rv_str h0, rv_str h1, rv_str h2, rv_str h3, rv_int h4, rv_int h5, rv_int h6]
    cases h7
    cases h8
    rfl
section
set_option maxRecDepth 1000000
theorem run_nilExp : isV (.tup [.str [], .int .i64 1]) (runO 25 [.ptr none] ⟨.lf, 0⟩) = true := by kernel_rfl
theorem run_nilSIds : isV (.tup [.sl none 0 0, .int .i64 1]) (runO 26 [.ptr none] ⟨.lf, 0⟩) = true := by kernel_rfl
theorem run_nilGet (l : List Nat) : isV (.tup [itV, .int .i64 1]) (runO 27 [.ptr none, .str l] ⟨.lf, 0⟩) = true := by kernel_rfl
theorem run_nilSExp : isV (.tup [.str [], .int .i64 1]) (runO 28 [.ptr none] ⟨.lf, 0⟩) = true := by kernel_rfl
theorem run_nilAOpen : isV (.tup [.ptr none, .int .i64 1]) (runO 29 [.ptr none, vCfg] ⟨.lf, 0⟩) = true := by kernel_rfl
theorem run_nilImp (l : List Nat) : isV (.int .i64 1) (runO 31 [.ptr none, .str l] ⟨.lf, 0⟩) = true := by kernel_rfl
theorem run_nilSto : isV (.ptr none) (runO 32 [.ptr none] ⟨.lf, 0⟩) = true := by kernel_rfl
end
theorem cfg27_any (w : World) (nb : Nb w) : Calls Tryz.prog 30 #[] w fun e w' => e = .returned cfgZ ∧ Below w.heap.size w w' :=
  runs_val w nb (l := []) (xs := []) (fun _ => .nil) (v := vCfg) (by kernel_rfl) (fun ρ L x h => by
    cases h with
    | agg hh =>
      rcases hh with _ | ⟨h0, hh⟩
      rcases hh with _ | ⟨h1, hh⟩
      rcases hh with _ | ⟨h2, hh⟩
      rcases hh with _ | ⟨h3, hh⟩
      cases hh
      rw [rv_int h0, rv_int h1, rv_int h2, rv_int h3]) (RI.run_enter Tryz.func30 (by kernel_rfl) rfl _ _)
theorem exp_nil (w : World) (nb : Nb w) : Calls Tryz.prog 25 #[.pointer none] w fun e w' => e = .returned (.tuple #[.string (strOf []), .int .i64 1]) ∧ Below w.heap.size w w' :=
  runs_val w nb (l := [.ptr none]) (xs := [.pointer none]) (fun _ => .cons .ptr0 .nil) run_nilExp (rv_two (fun _ _ _ h => rv_str h) (fun _ _ _ h => rv_int h)) (RI.run_enter Tryz.func25 (by kernel_rfl) rfl _ _)
theorem sids_nil (w : World) (nb : Nb w) : Calls Tryz.prog 26 #[.pointer none] w fun e w' => e = .returned (.tuple #[.slice none 0 0, .int .i64 1]) ∧ Below w.heap.size w w' :=
  runs_val w nb (l := [.ptr none]) (xs := [.pointer none]) (fun _ => .cons .ptr0 .nil) run_nilSIds (rv_two (fun _ _ _ h => rv_nil h) (fun _ _ _ h => rv_int h)) (RI.run_enter Tryz.func26 (by kernel_rfl) rfl _ _)
theorem get_nil (l : List Nat) (hl : ∀ x ∈ l, x < 256) (w : World) (nb : Nb w) : Calls Tryz.prog 27 #[.pointer none, .string (strOf l)] w fun e w' => e = .returned (.tuple #[itZ, .int .i64 1]) ∧ Below w.heap.size w w' :=
  runs_val w nb (l := [.ptr none, .str l]) (xs := [.pointer none, .string (strOf l)]) (fun _ => .cons .ptr0 (.cons (rv_of hl) .nil)) (run_nilGet l) (rv_two (fun _ _ _ h => rv_itZ h) (fun _ _ _ h => rv_int h)) (RI.run_enter Tryz.func27 (by kernel_rfl) rfl _ _)
theorem sexp_nil (w : World) (nb : Nb w) : Calls Tryz.prog 28 #[.pointer none] w fun e w' => e = .returned (.tuple #[.string (strOf []), .int .i64 1]) ∧ Below w.heap.size w w' :=
  runs_val w nb (l := [.ptr none]) (xs := [.pointer none]) (fun _ => .cons .ptr0 .nil) run_nilSExp (rv_two (fun _ _ _ h => rv_str h) (fun _ _ _ h => rv_int h)) (RI.run_enter Tryz.func28 (by kernel_rfl) rfl _ _)
theorem aopen_nil (w : World) (nb : Nb w) : Calls Tryz.prog 29 #[.pointer none, cfgZ] w fun e w' => e = .returned (.tuple #[.pointer none, .int .i64 1]) ∧ Below w.heap.size w w' :=
  runs_val w nb (l := [.ptr none, vCfg]) (xs := [.pointer none, cfgZ]) (fun _ => .cons .ptr0 (.cons (.agg (.cons (.int _ _) (.cons (.int _ _) (.cons (.int _ _) (.cons (.int _ _) .nil))))) .nil)) run_nilAOpen (rv_two (fun _ _ _ h => rv_nilP h) (fun _ _ _ h => rv_int h)) (RI.run_enter Tryz.func29 (by kernel_rfl) rfl _ _)
theorem imp_nil (l : List Nat) (hl : ∀ x ∈ l, x < 256) (w : World) (nb : Nb w) : Calls Tryz.prog 31 #[.pointer none, .string (strOf l)] w fun e w' => e = .returned (.int .i64 1) ∧ Below w.heap.size w w' :=
  runs_val w nb (l := [.ptr none, .str l]) (xs := [.pointer none, .string (strOf l)]) (fun _ => .cons .ptr0 (.cons (rv_of hl) .nil)) (run_nilImp l) (fun _ _ _ h => rv_int h) (RI.run_enter Tryz.func31 (by kernel_rfl) rfl _ _)
theorem sto_nil (w : World) (nb : Nb w) : Calls Tryz.prog 32 #[.pointer none] w fun e w' => e = .returned (.pointer none) ∧ Below w.heap.size w w' :=
  runs_val w nb (l := [.ptr none]) (xs := [.pointer none]) (fun _ => .cons .ptr0 .nil) run_nilSto (fun _ _ _ h => rv_nilP h) (RI.run_enter Tryz.func32 (by kernel_rfl) rfl _ _)
set_option maxHeartbeats 4000000 in
theorem walk_archive (i s : List Nat) (w : World) (nb : Nb w) (hi : ∀ x ∈ i, x < 256) (hs : ∀ x ∈ s, x < 256) (hil : i.length ≤ 9223372036854775807) (hsl : s.length ≤ 9223372036854775807) : Calls Tryz.prog 5 #[.string (strOf i), .string (strOf s)] w fun e w' => e = .returned (.bool true) ∧ Below w.heap.size w w' := by
  have bel := Below.refl w.heap.size w
  refine Calls.start 109 Tryz.func5 rfl rfl rfl ?_
  refine Cd.seq ?_
  refine Cd.region ?_
  refine Seq.val (Runs.assign rfl rfl) rfl rfl rfl ?_
  refine Seq.nil ?_
  refine Post.weak (F' := [(0, _), (1, _), (4, _)]) ⟨rfl, rfl, rfl, trivial⟩ ?_
  refine Post.then_ ?_
  refine Cd.seq ?_
  refine Cd.seq ?_
  refine Cd.region ?_
  refine Seq.val (Runs.move rfl rfl) rfl rfl rfl ?_
  refine Seq.val (Runs.lenL rfl rfl Tryz.underlying9) rfl rfl rfl ?_
  refine Seq.val (Runs.gtr rfl rfl rfl) rfl rfl rfl ?_
  refine Seq.val (Runs.move rfl rfl) rfl rfl rfl ?_
  refine SeqC.start ?_
  refine SeqC.open rfl rfl rfl rfl rfl rfl rfl (fun hcx => Runs.move rfl rfl) ?_
  refine SeqC.next rfl rfl rfl rfl rfl rfl rfl (fun hcx => Runs.lenL rfl rfl Tryz.underlying9) ?_
  refine SeqC.next rfl rfl rfl rfl rfl rfl rfl (fun hcx => Runs.gtr rfl rfl rfl) ?_
  refine SeqC.or rfl rfl rfl rfl rfl rfl rfl ?_
  refine Seq.val (Runs.move rfl rfl) rfl rfl rfl ?_
  refine SeqC.start ?_
  refine SeqC.openC rfl rfl rfl rfl rfl rfl rfl (fun hcx => Enters.func rfl rfl rfl (run_enter Tryz.func24 (by kernel_rfl) rfl)) (fun hcx => awake27_any _ nb) ?_
  intro w1 hw1
  replace bel := bel.step hw1
  refine SeqC.next rfl rfl rfl rfl rfl rfl rfl (fun hcx => Runs.not rfl rfl) ?_
  refine SeqC.or rfl rfl rfl rfl rfl rfl rfl ?_
  refine Seq.nil ?_
  refine Post.weak (F' := [(0, _), (1, _), (4, _), (30, _)]) ⟨rfl, rfl, rfl, rfl, trivial⟩ ?_
  refine Post.then_ ?_
  refine Cd.cond rfl (fun h => ?_) (fun h => ?_)
  · skip
    refine Cd.seq ?_
    refine Cd.region ?_
    refine Seq.call (Enters.func rfl rfl rfl (run_enter Tryz.func24 (by kernel_rfl) rfl)) rfl rfl rfl (awake27_any _ (nb.step bel)) ?_
    rintro e w10 ⟨rfl, hb10⟩
    refine ⟨_, rfl, ?_⟩
    replace bel := bel.step hb10
    refine Seq.val (Runs.assign rfl rfl) rfl rfl rfl ?_
    refine Seq.nil ?_
    refine Post.weak (F' := [(0, _), (1, _), (4, _), (30, _)]) ⟨rfl, rfl, rfl, rfl, trivial⟩ ?_
    refine Post.then_ ?_
    refine Cd.ret ?_
    refine Post.then_ret ?_
    refine Post.end1 rfl rfl (.inl rfl) ?_
    exact ⟨rfl, bel⟩
  · skip
    have hil' : i.length ≤ 100 := by simp at h; omega
    refine Cd.skip ?_
    refine Post.then_ ?_
    refine Cd.seq ?_
    refine Cd.region ?_
    refine Seq.val (Runs.assign rfl rfl) rfl rfl rfl ?_
    refine Seq.nil ?_
    refine Post.weak (F' := [(0, _), (1, _), (4, _), (5, _), (30, _)]) ⟨rfl, rfl, rfl, rfl, rfl, trivial⟩ ?_
    refine Post.then_ ?_
    refine Cd.seq ?_
    refine Cd.region ?_
    refine Seq.val (Runs.assign rfl rfl) rfl rfl rfl ?_
    refine Seq.nil ?_
    refine Post.weak (F' := [(0, _), (1, _), (4, _), (5, _), (6, _), (30, _)]) ⟨rfl, rfl, rfl, rfl, rfl, rfl, trivial⟩ ?_
    refine Post.then_ ?_
    refine Cd.seq ?_
    refine Cd.region ?_
    refine Seq.val (Runs.move rfl rfl) rfl rfl rfl ?_
    refine Seq.call (Enters.func rfl rfl rfl (run_enter Tryz.func25 (by kernel_rfl) rfl)) rfl rfl rfl (exp_nil _ (nb.step bel)) ?_
    rintro e w11 ⟨rfl, hb11⟩
    refine ⟨_, rfl, ?_⟩
    replace bel := bel.step hb11
    refine Seq.val (Runs.move rfl rfl) rfl rfl rfl ?_
    refine Seq.val (Runs.extract rfl rfl rfl) rfl rfl rfl ?_
    refine Seq.val (Runs.extract rfl rfl rfl) rfl rfl rfl ?_
    refine Seq.val (Runs.assign rfl rfl) rfl rfl rfl ?_
    refine Seq.val (Runs.assign rfl rfl) rfl rfl rfl ?_
    refine Seq.nil ?_
    refine Post.weak (F' := [(0, _), (1, _), (4, _), (5, _), (6, _), (8, _), (30, _)]) ⟨rfl, rfl, rfl, rfl, rfl, rfl, rfl, trivial⟩ ?_
    refine Post.then_ ?_
    refine Cd.seq ?_
    refine Cd.region ?_
    refine Seq.val (Runs.move rfl rfl) rfl rfl rfl ?_
    refine Seq.call (Enters.func rfl rfl rfl (run_enter Tryz.func26 (by kernel_rfl) rfl)) rfl rfl rfl (sids_nil _ (nb.step bel)) ?_
    rintro e w12 ⟨rfl, hb12⟩
    refine ⟨_, rfl, ?_⟩
    replace bel := bel.step hb12
    refine Seq.val (Runs.move rfl rfl) rfl rfl rfl ?_
    refine Seq.val (Runs.extract rfl rfl rfl) rfl rfl rfl ?_
    refine Seq.val (Runs.extract rfl rfl rfl) rfl rfl rfl ?_
    refine Seq.val (Runs.assign rfl rfl) rfl rfl rfl ?_
    refine Seq.val (Runs.assign rfl rfl) rfl rfl rfl ?_
    refine Seq.nil ?_
    refine Post.weak (F' := [(0, _), (1, _), (4, _), (5, _), (6, _), (8, _), (10, _), (30, _)]) ⟨rfl, rfl, rfl, rfl, rfl, rfl, rfl, rfl, trivial⟩ ?_
    refine Post.then_ ?_
    refine Cd.seq ?_
    refine Cd.region ?_
    refine Seq.val (Runs.move rfl rfl) rfl rfl rfl ?_
    refine Seq.val (Runs.move rfl rfl) rfl rfl rfl ?_
    refine Seq.call (Enters.func rfl rfl rfl (run_enter Tryz.func27 (by kernel_rfl) rfl)) rfl rfl rfl (get_nil i hi _ (nb.step bel)) ?_
    rintro e w13 ⟨rfl, hb13⟩
    refine ⟨_, rfl, ?_⟩
    replace bel := bel.step hb13
    refine Seq.val (Runs.move rfl rfl) rfl rfl rfl ?_
    refine Seq.val (Runs.extract rfl rfl rfl) rfl rfl rfl ?_
    refine Seq.val (Runs.extract rfl rfl rfl) rfl rfl rfl ?_
    refine Seq.alloc rfl (run_zero zero_archive_Item) rfl rfl rfl ?_
    intro g11 w2 n11
    have e11 := Nat.le_trans bel.size n11.ge
    replace bel := bel.step n11.below
    have k11 := n11.blk
    refine Seq.storeN rfl rfl rfl rfl (m := 9) (by kernel_rfl) rfl (by repeat' first | exact trivial | apply And.intro | rfl | assumption) k11 (by simp [Value.cells]) rfl rfl ?_
    intro w3 pw3
    replace bel := bel.put k11 pw3 e11
    replace k11 := pw3.blk
    refine Seq.val (Runs.assign rfl rfl) rfl rfl rfl ?_
    refine Seq.nil ?_
    refine Post.weak (F' := [(0, _), (1, _), (4, _), (5, _), (6, _), (8, _), (10, _), (12, _), (30, _)]) ⟨rfl, rfl, rfl, rfl, rfl, rfl, rfl, rfl, rfl, trivial⟩ ?_
    refine Post.then_ ?_
    refine Cd.seq ?_
    refine Cd.region ?_
    refine Seq.val (Runs.move rfl rfl) rfl rfl rfl ?_
    refine Seq.call (Enters.func rfl rfl rfl (run_enter Tryz.func28 (by kernel_rfl) rfl)) rfl rfl rfl (sexp_nil _ (nb.step bel)) ?_
    rintro e w14 ⟨rfl, hb14⟩
    refine ⟨_, rfl, ?_⟩
    replace bel := bel.step hb14
    replace k11 := k11.step hb14
    refine Seq.val (Runs.move rfl rfl) rfl rfl rfl ?_
    refine Seq.val (Runs.extract rfl rfl rfl) rfl rfl rfl ?_
    refine Seq.val (Runs.extract rfl rfl rfl) rfl rfl rfl ?_
    refine Seq.val (Runs.assign rfl rfl) rfl rfl rfl ?_
    refine Seq.val (Runs.assign rfl rfl) rfl rfl rfl ?_
    refine Seq.nil ?_
    refine Post.weak (F' := [(0, _), (1, _), (4, _), (5, _), (6, _), (8, _), (10, _), (12, _), (14, _), (30, _)]) ⟨rfl, rfl, rfl, rfl, rfl, rfl, rfl, rfl, rfl, rfl, trivial⟩ ?_
    refine Post.then_ ?_
    refine Cd.seq ?_
    refine Cd.region ?_
    refine Seq.call (Enters.func rfl rfl rfl (run_enter Tryz.func30 (by kernel_rfl) rfl)) rfl rfl rfl (cfg27_any _ (nb.step bel)) ?_
    rintro e w15 ⟨rfl, hb15⟩
    refine ⟨_, rfl, ?_⟩
    replace bel := bel.step hb15
    replace k11 := k11.step hb15
    refine Seq.call (Enters.func rfl rfl rfl (run_enter Tryz.func29 (by kernel_rfl) rfl)) rfl rfl rfl (aopen_nil _ (nb.step bel)) ?_
    rintro e w16 ⟨rfl, hb16⟩
    refine ⟨_, rfl, ?_⟩
    replace bel := bel.step hb16
    replace k11 := k11.step hb16
    refine Seq.val (Runs.move rfl rfl) rfl rfl rfl ?_
    refine Seq.val (Runs.extract rfl rfl rfl) rfl rfl rfl ?_
    refine Seq.val (Runs.extract rfl rfl rfl) rfl rfl rfl ?_
    refine Seq.val (Runs.assign rfl rfl) rfl rfl rfl ?_
    refine Seq.val (Runs.assign rfl rfl) rfl rfl rfl ?_
    refine Seq.nil ?_
    refine Post.weak (F' := [(0, _), (1, _), (4, _), (5, _), (6, _), (8, _), (10, _), (12, _), (14, _), (15, _), (16, _), (30, _)]) ⟨rfl, rfl, rfl, rfl, rfl, rfl, rfl, rfl, rfl, rfl, rfl, rfl, trivial⟩ ?_
    refine Post.then_ ?_
    refine Cd.seq ?_
    refine Cd.seq ?_
    refine Cd.region ?_
    refine Seq.val (Runs.move rfl rfl) rfl rfl rfl ?_
    refine Seq.val (Runs.neqI rfl rfl rfl) rfl rfl rfl ?_
    refine Seq.val (Runs.move rfl rfl) rfl rfl rfl ?_
    refine Seq.valG (Runs.move rfl rfl) rfl rfl rfl rfl rfl ?_
    refine Seq.valG (Runs.neqI rfl rfl rfl) rfl rfl rfl rfl rfl ?_
    refine Seq.val (Runs.pickF rfl rfl rfl) rfl rfl rfl ?_
    refine Seq.val (Runs.move rfl rfl) rfl rfl rfl ?_
    refine Seq.valG (Runs.move rfl rfl) rfl rfl rfl rfl rfl ?_
    refine Seq.valG (Runs.neqI rfl rfl rfl) rfl rfl rfl rfl rfl ?_
    refine Seq.val (Runs.pickF rfl rfl rfl) rfl rfl rfl ?_
    refine Seq.val (Runs.move rfl rfl) rfl rfl rfl ?_
    refine Seq.valG (Runs.move rfl rfl) rfl rfl rfl rfl rfl ?_
    refine Seq.valG (Runs.neqI rfl rfl rfl) rfl rfl rfl rfl rfl ?_
    refine Seq.val (Runs.pickF rfl rfl rfl) rfl rfl rfl ?_
    refine Seq.val (Runs.move rfl rfl) rfl rfl rfl ?_
    refine Seq.valG (Runs.move rfl rfl) rfl rfl rfl rfl rfl ?_
    refine Seq.valG (Runs.neqP rfl rfl rfl Tryz.underlying79) rfl rfl rfl rfl rfl ?_
    refine Seq.val (Runs.pickF rfl rfl rfl) rfl rfl rfl ?_
    refine Seq.val (Runs.move rfl rfl) rfl rfl rfl ?_
    refine Seq.valG (Runs.move rfl rfl) rfl rfl rfl rfl rfl ?_
    refine Seq.valG (Runs.neqI rfl rfl rfl) rfl rfl rfl rfl rfl ?_
    refine Seq.val (Runs.pickF rfl rfl rfl) rfl rfl rfl ?_
    refine Seq.val (Runs.move rfl rfl) rfl rfl rfl ?_
    refine Seq.valG (Runs.move rfl rfl) rfl rfl rfl rfl rfl ?_
    refine Seq.valG (Runs.move rfl rfl) rfl rfl rfl rfl rfl ?_
    refine Seq.callG (Enters.func rfl rfl rfl (run_enter Tryz.func31 (by kernel_rfl) rfl)) rfl rfl rfl rfl rfl (imp_nil s hs _ (nb.step bel)) ?_
    rintro e w17 ⟨rfl, hb17⟩
    refine ⟨_, rfl, ?_⟩
    replace bel := bel.step hb17
    replace k11 := k11.step hb17
    refine Seq.valG (Runs.neqI rfl rfl rfl) rfl rfl rfl rfl rfl ?_
    refine Seq.val (Runs.pickF rfl rfl rfl) rfl rfl rfl ?_
    refine Seq.val (Runs.move rfl rfl) rfl rfl rfl ?_
    refine Seq.valG (Runs.move rfl rfl) rfl rfl rfl rfl rfl ?_
    refine Seq.callG (Enters.func rfl rfl rfl (run_enter Tryz.func32 (by kernel_rfl) rfl)) rfl rfl rfl rfl rfl (sto_nil _ (nb.step bel)) ?_
    rintro e w18 ⟨rfl, hb18⟩
    refine ⟨_, rfl, ?_⟩
    replace bel := bel.step hb18
    replace k11 := k11.step hb18
    refine Seq.valG (Runs.neqP rfl rfl rfl Tryz.underlying64) rfl rfl rfl rfl rfl ?_
    refine Seq.val (Runs.pickF rfl rfl rfl) rfl rfl rfl ?_
    refine Seq.nil ?_
    refine Post.weak (F' := [(0, _), (1, _), (4, _), (5, _), (6, _), (8, _), (10, _), (12, _), (14, _), (15, _), (16, _), (30, _), (90, _)]) ⟨rfl, rfl, rfl, rfl, rfl, rfl, rfl, rfl, rfl, rfl, rfl, rfl, rfl, trivial⟩ ?_
    refine Post.then_ ?_
    refine Cd.condF rfl (by simp) ?_
    refine Cd.skip ?_
    refine Post.then_ ?_
    refine Cd.seq ?_
    refine Cd.region ?_
    have nbS := nb.step bel
    have belS := bel
    obtain ⟨y, hat⟩ := At.start nbS
    refine Seq.call (Enters.func rfl rfl rfl (run_enter Tryz.func33 (by kernel_rfl) rfl)) rfl rfl rfl (runs_from nbS hat (f := 33) (l := [.int .i64 1048576]) (xs := [.int .i64 1048576]) (.cons (.int _ _) .nil) (isV_spec run_new).1 (RI.run_enter Tryz.func33 (by kernel_rfl) rfl _ _)) ?_
    rintro e wa ⟨xa, La, rfl, hla, hata, hxa⟩
    refine ⟨_, rfl, ?_⟩
    replace hata : At _ y s1 wa La := hata
    rw [(isV_spec run_new).2] at hxa
    refine Seq.call (Enters.func rfl rfl rfl (run_enter Tryz.func30 (by kernel_rfl) rfl)) rfl rfl rfl (runs_from nbS hata (f := 30) (l := []) (xs := []) .nil (isV_spec run_config27).1 (RI.run_enter Tryz.func30 (by kernel_rfl) rfl _ _)) ?_
    rintro e wb ⟨xb, Lb, rfl, hlb, hatb, hxb⟩
    refine ⟨_, rfl, ?_⟩
    replace hatb : At _ y s27 wb Lb := hatb
    rw [(isV_spec run_config27).2] at hxb
    refine Seq.call (Enters.func rfl rfl rfl (run_enter Tryz.func29 (by kernel_rfl) rfl)) rfl rfl rfl (runs_lit nbS hatb (f := 29) (l := [.ptr (some (.own 1 0 0)), vCfg]) (xs := [xa, xb]) (.cons (hxa.mono hlb) (.cons hxb .nil)) .lf (leaf1 run_shelf) (RI.run_enter Tryz.func29 (by kernel_rfl) rfl _ _)) ?_
    rintro e wc ⟨xc, Lc, rfl, hlc, hatc, hxc⟩
    refine ⟨_, rfl, ?_⟩
    replace hatc : At _ y stHS wc Lc := hatc
    obtain ⟨u, v, rfl, hu, hv⟩ := rv_tup2 hxc
    obtain rfl := rv_int hv
    obtain ⟨a, rfl, hA⟩ := rv_ptr hu
    obtain ⟨H, sH, hH, rfl⟩ := ra_row hatc row_H hA
    obtain ⟨-, hcH⟩ := hatc.row row_H hH
    obtain ⟨m0, hm0, hr0⟩ := hcH 0 _ (by omega) rfl
    obtain ⟨a0, rfl, hA0⟩ := rv_ptr hr0
    obtain ⟨B, sB, hB, rfl⟩ := ra_row hatc rowH_S hA0
    refine Seq.val (Runs.move rfl rfl) rfl rfl rfl ?_
    refine Seq.val (Runs.extract rfl rfl rfl) rfl rfl rfl ?_
    refine Seq.val (Runs.extract rfl rfl rfl) rfl rfl rfl ?_
    refine Seq.val (Runs.assign rfl rfl) rfl rfl rfl ?_
    refine Seq.val (Runs.assign rfl rfl) rfl rfl rfl ?_
    refine Seq.nil ?_
    refine Post.weak (F' := [(0, _), (1, _), (4, _), (5, _), (6, _), (8, _), (10, _), (12, _), (14, _), (15, _), (16, _), (30, _), (90, _)]) ⟨rfl, rfl, rfl, rfl, rfl, rfl, rfl, rfl, rfl, rfl, rfl, rfl, rfl, trivial⟩ ?_
    refine Post.then_ ?_
    refine Cd.seq ?_
    refine Cd.region ?_
    refine Seq.val (Runs.move rfl rfl) rfl rfl rfl ?_
    refine Seq.val (Runs.move rfl rfl) rfl rfl rfl ?_
    have hget : Calls Tryz.prog 27 #[.pointer (some ⟨H, 0, none⟩), .string (strOf i)] wc fun e w' => e = .returned (.tuple #[itZ, .int .i64 7]) ∧ Below w.heap.size w w' := by
      cases hn : namedB i with
      | true => exact (shelf_none nbS hatc hH hB hi hn).mono fun e w' ⟨h1, h2⟩ => ⟨h1, belS.trans (h2.mono belS.size)⟩
      | false => exact (shelf_bad H i hi hil hn wc).mono fun e w' ⟨h1, h2⟩ => ⟨h1, belS.trans ((hatc.rel.below.trans (h2.mono hatc.rel.below.size)).mono belS.size)⟩
    refine Seq.call (Enters.func rfl rfl rfl (run_enter Tryz.func27 (by kernel_rfl) rfl)) rfl rfl rfl (hget) ?_
    rintro e wd ⟨rfl, hbd⟩
    refine ⟨_, rfl, ?_⟩
    clear bel
    have bel := hbd
    refine Seq.val (Runs.move rfl rfl) rfl rfl rfl ?_
    refine Seq.val (Runs.extract rfl rfl rfl) rfl rfl rfl ?_
    refine Seq.val (Runs.extract rfl rfl rfl) rfl rfl rfl ?_
    refine Seq.alloc rfl (run_zero zero_archive_Item) rfl rfl rfl ?_
    intro g17 w4 n17
    have e17 := Nat.le_trans bel.size n17.ge
    replace bel := bel.step n17.below
    have k17 := n17.blk
    refine Seq.storeN rfl rfl rfl rfl (m := 9) (by kernel_rfl) rfl (by repeat' first | exact trivial | apply And.intro | rfl | assumption) k17 (by simp [Value.cells]) rfl rfl ?_
    intro w5 pw5
    replace bel := bel.put k17 pw5 e17
    replace k17 := pw5.blk
    refine Seq.val (Runs.assign rfl rfl) rfl rfl rfl ?_
    refine Seq.nil ?_
    refine Post.weak (F' := [(0, _), (1, _), (4, _), (5, _), (6, _), (8, _), (10, _), (12, _), (14, _), (15, _), (16, _), (18, _), (30, _), (90, _)]) ⟨rfl, rfl, rfl, rfl, rfl, rfl, rfl, rfl, rfl, rfl, rfl, rfl, rfl, rfl, trivial⟩ ?_
    refine Post.then_ ?_
    refine Cd.seq ?_
    refine Cd.region ?_
    refine Seq.val (Runs.move rfl rfl) rfl rfl rfl ?_
    refine Seq.val (Runs.eqlI rfl rfl rfl) rfl rfl rfl ?_
    refine Seq.val (Runs.move rfl rfl) rfl rfl rfl ?_
    refine SeqC.start ?_
    refine SeqC.open rfl rfl rfl rfl rfl rfl rfl (fun hcx => Runs.move rfl rfl) ?_
    refine SeqC.next rfl rfl rfl rfl rfl rfl rfl (fun hcx => Runs.eqlI rfl rfl rfl) ?_
    refine SeqC.and rfl rfl rfl rfl rfl rfl rfl ?_
    refine Seq.val (Runs.assign rfl rfl) rfl rfl rfl ?_
    refine Seq.nil ?_
    refine Post.weak (F' := [(0, _), (1, _), (4, _), (5, _), (6, _), (8, _), (10, _), (12, _), (14, _), (15, _), (16, _), (18, _), (30, _), (90, _)]) ⟨rfl, rfl, rfl, rfl, rfl, rfl, rfl, rfl, rfl, rfl, rfl, rfl, rfl, rfl, trivial⟩ ?_
    refine Post.then_ ?_
    refine Cd.ret ?_
    refine Post.end1 rfl rfl (.inl rfl) ?_
    exact ⟨rfl, bel⟩
end Go.Proofs.YtenikchlnfhikaaGreatDoor

namespace Go.Proofs.YtenikchlnfhikaaGreatDoor
open Go.ChangeShapes Go.WideShapes Go.ChangeAt Go.Deep Go.RowKit

end Go.Proofs.YtenikchlnfhikaaGreatDoor

