/-
  The law ManifestFull: on a disk of any room what there is no room for is refused, and what was OK lasts. Condition: the listed variables read as the program's text lays them.
-/
import Derived.Test.YtdpipgidpkmolaaGreatDoorZ5
import Derived.Test.YtdpipgidpkmolaaGreatDoorTie
import Derived.Test.YtdpipgidpkmolaaGreatDoorCards
import Derived.SevenTiedAt
namespace Go.Proofs.YtdpipgidpkmolaaGreatDoor
namespace ManifestFull
open Go.ChangeShapes Go.WideShapes Go.ChangeAt Go.Deep Go.RowKit
set_option maxRecDepth 100000 in
theorem lifted (os:Os)(started:os.Started)(H:Type)(enc:TypeId × Value→H):
  ReturnsInHanded {} Tryz.checked os 3 .any (fun w args=>(Rows.manifestFullSpec.pre enc Tryz.prog Tryz.f3 [] false w args∧laidMetH Tryz.prog laidL w)∧sizedMet enc Tryz.prog Tryz.f3 (OpenSpec.ofChange Rows.manifestFullSpec) false w args) (Rows.manifestFullSpec.post enc Tryz.prog Tryz.f3 false true false false):=by
 refine lift_laid (C:=Tryz.checked) (X:=fun w _=>laidMetH Tryz.prog laidL w) (fun _ _ _ hh h=>h.of_heap hh) own started (by kernel_rfl) Tryz.func3
  (ChangeSpec.witness_shaped (enc:=enc) (C:=Tryz.checked) (os:=os) (X:=fun w _=>laidMetH Tryz.prog laidL w) false (World.doorLaid Tryz.prog 67 os) #[.slice none 0 0, .int .u16 0] 8 rfl (World.shaped_of_RefB (by kernel_rfl) (by kernel_rfl)) (by kernel_rfl) (by kernel_rfl) (by kernel_rfl) (door_met os _)) ?_
 intro W base args ds gs before hval0 hW hL hsh
 have hval:∀(j:Nat) t v,Tryz.f3.params[j]? =some t→args[j]? =some v→Value.okWide Tryz.prog W .any base t v:=hval0
 have hW':=hW
 obtain⟨p,q,hA0,hV,rfl,hfz,hnd⟩:=hW
 have hA:DataW.TrodAll enc Tryz.prog W 0 (fun _=>true) true Tryz.f3.params.toList args.toList ds p:=hA0
 rw[Tryz.params3] at hA hval
 obtain⟨v0,vs0,d0,ds0,p0,q0,hargs,rfl,rfl,h0,r0⟩:=trodAll_cons hA
 obtain⟨v1,vs1,d1,ds1,p1,q1,rfl,rfl,rfl,h1,r1⟩:=trodAll_cons r0
 obtain⟨rfl,rfl,rfl⟩:=trodAll_nil r1
 obtain rfl:args= #[v0,v1]:=by cases args;simp_all
 obtain⟨rfl,rfl⟩:=trodVars_none hV
 have k0:=h0
 have lt0:∀x∈p0,x.block<W.heap.size:=by obtain⟨m,hm⟩:=k0;exact DataW.trod_lt m _ _ _ hm
 have k1:=h1
 have lt1:∀x∈p1,x.block<W.heap.size:=by obtain⟨m,hm⟩:=k1;exact DataW.trod_lt m _ _ _ hm
 obtain⟨A,n,c,l,rfl,ha⟩:=open_acts13 (hval 0 _ v0 rfl rfl) h0
 obtain⟨room,rfl,hroom⟩:=open_u16 Tryz.underlying23 (hval 1 _ v1 rfl rfl)
 clear hA0 hval0
 have gv:=gv_of_laid hL hsh
 refine(walk_full W.heap.size n c A l room W rfl gv (es_of_laid hL) ha (by omega)).mono fun e W' ⟨he,bel⟩=> ?_
 subst he
 exact⟨_,rfl,_,_,_,[],_,[],hW',trodAll_mk1 (shut_bool Tryz.underlying4 _),(trodAll_cons_mk (Below.trod laidOut (by kernel_rfl) (of_decide_eq_true (by kernel_rfl)) k0 bel lt0) (trodAll_cons_mk (Below.trod laidOut (by kernel_rfl) (of_decide_eq_true (by kernel_rfl)) k1 bel lt1) trodAll_mk0)),rfl,bel.frame _,fun h=>by cases h⟩
theorem over:Rows.ManifestFullSaid:=
 OpenClaim.holds_of_wide 3 Tryz.f3 rfl rfl rfl rfl rfl rfl rfl ⟨rfl,rfl,rfl,rfl,rfl⟩ rfl rfl rfl rfl rfl (by kernel_rfl) Tryz.func3 (by kernel_rfl)
  (of_decide_eq_true (by kernel_rfl)) (by unfold Func.isWrapper;first|(rw[if_pos (by decide+kernel)];kernel_rfl)|(rw[if_neg (by decide+kernel)];exact⟨rfl,rfl⟩))
  (fun os started H enc _=>lifted os started H enc)
theorem proved:Rows.ManifestFullCardSaid:=
 Claim7.holds_tied_plain_at .later [] [.data, .data, .data, .data, .sentinel, .sentinel] true (true, "7c470ec08df3b45fc7e3af8af2a29a9c5a9121e3b86b5d2f779d516b7e9a1f00") true
  over (fun _ h=>by cases h) (by kernel_rfl) (fun _ h=>by cases h) manifestFull_row_tie rfl ⟨rfl,rfl⟩ (by kernel_rfl) rfl
  (fun f fn hf hfn=>by
   obtain rfl:f=3:=Option.some.inj ((show Tryz.prog.funcNamed "debenture/debenturelaw13.ManifestFull" =some 3 by kernel_rfl).symm.trans hf)|>.symm
   obtain rfl:fn=Tryz.f3:=(Option.some.inj (Tryz.func3.symm.trans hfn)).symm
   exact⟨by kernel_rfl,fun j t ht=>by
    rw[Tryz.params3] at ht
    have hm:t∈ [22,23]:=by simpa using Array.mem_of_getElem? ht
    have hall:([22,23].all fun u=> !Tryz.prog.wantsStandIn u)=true:=by kernel_rfl
    exact(show Tryz.prog.wantsStandIn t=false by simpa using List.all_eq_true.1 hall t hm)⟩)
  (by kernel_rfl)
end ManifestFull
#print axioms ManifestFull.proved
end Go.Proofs.YtdpipgidpkmolaaGreatDoor
