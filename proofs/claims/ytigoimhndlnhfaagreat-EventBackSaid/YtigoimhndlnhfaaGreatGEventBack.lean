/-
  EventBack: an event that is encoded is decoded as it was; cut off it is none. No condition.
-/
import Derived.Test.YtigoimhndlnhfaaGreatG4
namespace Go.Proofs.YtigoimhndlnhfaaGreat
open Go.ChangeShapes Go.WideShapes Go.ChangeAt Go.Deep Go.RowKit
theorem nD {x:Int}(h:Lit.wf (.int .i64 x)=true):bM x:=by
 simp only[Lit.wf,Bool.and_eq_true,decide_eq_true_eq] at h;exact⟨h.1,h.2⟩
set_option maxRecDepth 100000 in
theorem yF {H:Type}{enc:TypeId × Value→H}{W:World}{base:Nat}{v:Value}{d:DataW H}{p:List MemPlace}(hv:Value.okWide Tryz.prog W .any base 23 v)
  (h:DataW.Trod enc Tryz.prog W 0 (fun _=>true) true 23 v d p):∃e:Ev,v=e.v∧e.qu:=by
 obtain⟨cs,rfl,hsz⟩:=okWide_struct Tryz.underlying23 hv;have hC:Tryz.prog.cellsOf 23=9:=by kernel_rfl
 have ci:Tryz.prog.cellsOf 3=1:=by kernel_rfl
 have cl:Tryz.prog.cellsOf 2=1:=by kernel_rfl
 have cs':Tryz.prog.cellsOf 9=1:=by kernel_rfl
 obtain⟨l⟩:=cs;have hsz:=hsz.trans hC
 match l,hsz with
 | [c0,c1,c2,c3,c4,c5,c6,c7,c8],_=>
  obtain⟨fuel,hf⟩:=h;obtain⟨xs,n,-,-,-,hlen,hfj⟩:=DataW.trod_struct Tryz.underlying23 hf
  match xs,hlen with
  | [y0,y1,y2,y3,y4,y5,y6,y7,y8],_=>
   have t0:=hfj 0 _ rfl;have t1:=hfj 1 _ rfl;have t2:=hfj 2 _ rfl;have t3:=hfj 3 _ rfl;have t4:=hfj 4 _ rfl;have t5:=hfj 5 _ rfl;have t6:=hfj 6 _ rfl;have t7:=hfj 7 _ rfl;have t8:=hfj 8 _ rfl;simp[Value.cells,ci,cl,cs'] at t0 t1 t2 t3 t4 t5 t6 t7 t8;obtain⟨x0,e0,-,w0⟩:=DataW.trod_int Tryz.underlying3 t0;obtain⟨x1,e1,-,w1⟩:=DataW.trod_string Tryz.underlying9 t1;obtain⟨x2,e2,-,w2⟩:=DataW.trod_string Tryz.underlying9 t2;obtain⟨x3,e3,-,w3⟩:=DataW.trod_string Tryz.underlying9 t3;obtain⟨x4,e4,-,w4⟩:=DataW.trod_string Tryz.underlying9 t4;obtain⟨x5,e5,-,w5⟩:=DataW.trod_int Tryz.underlying3 t5;obtain⟨x6,e6,-,w6⟩:=DataW.trod_int Tryz.underlying3 t6;obtain⟨x7,e7,-,w7⟩:=DataW.trod_int Tryz.underlying3 t7;obtain⟨x8,e8,-,w8⟩:=DataW.trod_int Tryz.underlying2 t8;simp at e0 e1 e2 e3 e4 e5 e6 e7 e8;subst e0 e1 e2 e3 e4 e5 e6 e7 e8;have hb:∀x:ByteArray,(bytesOf x).length=x.size:=fun x=>by rw[←bD,j3]
   refine⟨⟨x0,bytesOf x1,bytesOf x2,bytesOf x3,bytesOf x4,x5,x6,x7,x8⟩,?_,nD w0,iq _,iq _,iq _,iq _,nD w5,nD w6,nD w7,nD w8,by rw[hb];exact w1,by rw[hb];exact w2,by rw[hb];exact w3,by rw[hb];exact w4⟩;unfold Ev.v;simp only[j3]
namespace EventBack
theorem own:ownKnob Tryz.prog.godebug=none:=by kernel_rfl
theorem laidOut:laidOutB Tryz.prog=true:=by kernel_rfl
set_option maxRecDepth 100000 in
theorem lifted (os:Os)(started:os.Started)(H:Type)(enc:TypeId × Value→H):
  ReturnsInHanded {} Tryz.checked os 5 .any (Rows.eventBackSpec.pre6 enc Tryz.prog Tryz.f5 Rows.eventBackRow.domain false) (Rows.eventBackSpec.post enc Tryz.prog Tryz.f5 false true false false):=by
 refine returnsInHanded_of_change (C:=Tryz.checked) own started (by kernel_rfl) Tryz.func5
  (ChangeSpec.witness6 (enc:=enc) (C:=Tryz.checked) false ⟨#[],#[.agg #[.int .i64 0, .string {data:= #[]}, .string {data:= #[]}, .string {data:= #[]}, .string {data:= #[]}, .int .i64 0, .int .i64 0, .int .i64 0, .int .i64 0], .int .i64 0],[]⟩ 8 (by kernel_rfl) (by kernel_rfl) (by kernel_rfl) (by kernel_rfl)) ?_
 intro W base args ds gs before hval0 hW hcnd _;have hval:∀(j:Nat) t v,Tryz.f5.params[j]? =some t→args[j]? =some v→Value.okWide Tryz.prog W .any base t v:=hval0;have hW':=hW;obtain⟨p,q,hA0,hV,rfl,hfz,hnd⟩:=hW;have hA:DataW.TrodAll enc Tryz.prog W 0 (fun _=>true) true Tryz.f5.params.toList args.toList ds p:=hA0;rw[Tryz.params5] at hA hval;obtain⟨v0,vs0,d0,ds0,p0,q0,hargs,rfl,rfl,h0,r0⟩:=trodAll_cons hA;obtain⟨v1,vs1,d1,ds1,p1,q1,rfl,rfl,rfl,h1,r1⟩:=trodAll_cons r0;obtain⟨rfl,rfl,rfl⟩:=trodAll_nil r1;obtain rfl:args= #[v0,v1]:=by cases args;simp_all
 obtain⟨rfl,rfl⟩:=trodVars_none hV;have k0:=h0;have lt0:∀x∈p0,x.block<W.heap.size:=by obtain⟨m,hm⟩:=k0;exact DataW.trod_lt m _ _ _ hm
 have k1:=h1;have lt1:∀x∈p1,x.block<W.heap.size:=by obtain⟨m,hm⟩:=k1;exact DataW.trod_lt m _ _ _ hm
 obtain⟨e,rfl,he⟩:=yF (hval 0 _ v0 rfl rfl) h0;obtain⟨kk,rfl,hkk⟩:=vK Tryz.underlying3 (hval 1 _ v1 rfl rfl);clear hA0 hval0;refine(rP e he kk hkk W).mono fun e W' ⟨he,bel⟩=> ?_;subst he;exact⟨_,rfl,_,_,_,[],_,[],hW',trodAll_mk1 (shut_bool Tryz.underlying4 _),(trodAll_cons_mk (Below.trod laidOut (by kernel_rfl) (of_decide_eq_true (by kernel_rfl)) k0 bel lt0) (trodAll_cons_mk (Below.trod laidOut (by kernel_rfl) (of_decide_eq_true (by kernel_rfl)) k1 bel lt1) trodAll_mk0)),rfl,bel.frame _,fun h=>by cases h⟩
theorem over:Rows.eventBackRow.holds Tryz.pinned (OpenSpec.ofChange Rows.eventBackSpec):=
 OpenClaim.holds_of_wide 5 Tryz.f5 rfl rfl rfl rfl rfl rfl rfl ⟨rfl,rfl,rfl,rfl,rfl⟩ rfl rfl rfl rfl rfl (by kernel_rfl) Tryz.func5 (by kernel_rfl)
  (of_decide_eq_true (by kernel_rfl)) (by unfold Func.isWrapper;first|(rw[if_pos (by decide+kernel)];kernel_rfl)|(rw[if_neg (by decide+kernel)];exact⟨rfl,rfl⟩))
  (fun os started H enc _=>lifted os started H enc)
theorem proved:Rows.EventBackSaid:=over
end EventBack
end Go.Proofs.YtigoimhndlnhfaaGreat