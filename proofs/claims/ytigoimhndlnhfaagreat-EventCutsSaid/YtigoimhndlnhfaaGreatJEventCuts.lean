/-
  EventCuts: a contract's bytes, cut off or turned in one place, are none's, or another contract's; that it is the same is told just of the same one. No condition.
-/
import Derived.Test.YtigoimhndlnhfaaGreatJ7
namespace Go.Proofs.YtigoimhndlnhfaaGreat
open Go.ChangeShapes Go.WideShapes Go.ChangeAt Go.Deep Go.RowKit
theorem kZ {α:Type}(n:Nat)(p:Nat→α→Prop)(h:∀i,i<n→∃f,p i f):∃l:List α,l.length=n∧∀i f,l[i]? =some f→p i f:=by
 induction n with
 |zero=>exact⟨[],rfl,fun i f hf=>by simp at hf⟩
 |succ n ih=>
  obtain⟨l,hl,hp⟩:=ih fun i hi=>h i (by omega);obtain⟨x,hx⟩:=h n (by omega);refine⟨l++[x],by simp[hl],fun i f hf=> ?_⟩;rcases Nat.lt_or_ge i n with hi|hi
  ·rw[List.getElem?_append_left (by omega)] at hf
   exact hp i f hf
  ·rw[List.getElem?_append_right (by omega)] at hf
   have h0:i-l.length=0:=by
    have:=(List.getElem?_eq_some_iff.1 hf).1;simp at this;omega
   rw[h0] at hf;simp at hf;subst hf;have:i=n:=by omega
   subst this;exact hx
theorem nY {x:Int}(h:Lit.wf (.int .i64 x)=true):bw x:=by
 simp only[Lit.wf,Bool.and_eq_true,decide_eq_true_eq] at h;exact⟨h.1,h.2⟩
section
variable {H:Type} {enc:TypeId × Value→H} {P:Program} {w:World} {base:Nat} {spare:Nat→Bool} {held:Bool}
theorem fO {t e:TypeId}{fs:Array Field}{fuel:Nat}{cs:List Value}{x:DataW H × List MemPlace}(ht:P.underlying t=some (.slice e))(he:P.underlying e=some (.struct fs))
  (hone:oneCellFields P fs=true) (hC:P.cellsOf e=fs.size) (h:DataW.trod enc P w base spare held fuel t cs=some x):
  (cs=[.slice none 0 0]∧x=(.nil,[]))∨
  ∃(a:Addr) (len cap m:Nat) (D:Nat→DataW H) (Pl:Nat→List MemPlace),cs=[.slice (some a) len cap]∧base≤a.block∧len≤cap∧cap≤maxLen∧m=(if spare a.block then cap else len)∧
   x=(.slice ((List.range len).map D) ((List.range (m-len)).map fun j=>D (len+j)),MemPlace.row a (m*fs.size)++(List.range m).flatMap Pl)∧
   ∀i,i<m→∃(ys:List (DataW H × List MemPlace)) (n:Nat),D i= .agg (ys.map (·.1))∧Pl i=ys.flatMap (·.2)∧ys.length=fs.size∧
    ∀(j:Nat) (f:Field),fs[j]? =some f→∃(v:Value) (y:DataW H × List MemPlace),w.cell? (a.add (i*fs.size+j))=some v∧ys[j]? =some y∧DataW.trod enc P w base spare held n f.type [v]=some y:=by
 rcases open_slice ht h with h0|⟨a,len,cap,m,n,D,Pl,hcs,hb,hl,hm,hmm,hx,hi⟩
 ·exact .inl h0
 ·refine .inr ⟨a,len,cap,m,D,Pl,hcs,hb,hl,hm,hmm,by rw[hC] at hx;exact hx,fun i him=> ?_⟩
  obtain⟨cs',hc,ht'⟩:=hi i him;rw[hC] at hc;obtain⟨ys,n',hn',hy,hlen,hyl,hf⟩:=DataW.trod_struct he ht';obtain⟨_,hcl,hat⟩:=World.cells?_some hc;simp only[Prod.mk.injEq] at hy;refine⟨ys,n',hy.1,hy.2,hyl,fun j f hj=> ?_⟩;obtain⟨ho,hk⟩:=hone_of hone j f hj;have hjl:j<fs.size:=(Array.getElem?_eq_some_iff.1 hj).1;have hcell:=hat j hjl;have hv:cs'[j]? =some (cs'[j]'(by omega)):=List.getElem?_eq_getElem (by omega);have h1:=hf j f hj;rw[ho,hk] at h1
  have hone':(cs'.drop j).take 1=[cs'[j]'(by omega)]:=by
   rw[List.drop_eq_getElem_cons (by omega)];rfl
  rw[hone'] at h1;have hys:ys[j]? =some (ys[j]'(by omega)):=List.getElem?_eq_getElem (by omega);refine⟨_,_,?_,hys,h1.trans hys⟩;rw[←Go.Deep.add_add,hcell,hv]
end
set_option maxRecDepth 100000 in
theorem mL {H:Type}{enc:TypeId × Value→H}{W:World}{v:Value}{y:DataW H × List MemPlace}{m:Nat}
  (h:DataW.trod enc Tryz.prog W 0 (fun _=>true) true m 96 [v]=some y):∃A len cap l,v= .slice A len cap∧Reads W W.heap.size 1 A len (DI l)∧∀x∈l,bw x:=by
 rcases open_slice Tryz.underlying96 h with ⟨hcs,-⟩|⟨a,len',cap',k,n,D,Pl,hcs,-,hlc,-,hk,-,hf⟩
 ·simp at hcs
  exact⟨none,0,0,[],hcs,Reads.none_,by simp⟩
 ·simp only[if_true] at hk
  simp at hcs;have hC:Tryz.prog.cellsOf 3=1:=by kernel_rfl
  rw[hC] at hf
  obtain⟨l,hl,hp⟩:=kZ len' (fun i (x:Int)=>bw x∧W.cell? (a.add i)=some (.int .i64 x)) fun i hi=>by
   obtain⟨cs',hc,ht⟩:=hf i (by omega);obtain⟨x,rfl,-,hwf⟩:=DataW.trod_int Tryz.underlying3 ht;obtain⟨_,_,hat⟩:=World.cells?_some hc;have h0:=hat (i:=0) (by omega);refine⟨x,nY hwf,?_⟩;rw[bK,Nat.mul_one,Nat.add_zero] at h0;rw[h0];rfl
  refine⟨some a,len',cap',l,hcs,⟨by simp[DI,hl],fun hpos=>⟨a,rfl,?_,fun j u hu=> ?_⟩⟩,fun x hx=> ?_⟩
  ·obtain⟨x,hx⟩:∃x,l[0]? =some x:=⟨_,List.getElem?_eq_getElem (by omega)⟩
   have:=World.block_lt_of_cell? W _ (hp 0 x hx).2
   rwa [ag] at this
  ·simp only[DI,List.getElem?_map] at hu
   cases hx:l[j]? with
   |none=>rw[hx] at hu;cases hu
   |some x=>
    rw[hx] at hu;injection hu with hu
    rw[←hu];exact(hp j x hx).2
  ·obtain⟨j,hj,rfl⟩:=List.getElem_of_mem hx
   exact(hp j _ (List.getElem?_eq_getElem hj)).1
set_option maxRecDepth 100000 in
theorem sN {H:Type}{enc:TypeId × Value→H}{W:World}{v:Value}{y:DataW H × List MemPlace}{m:Nat}
  (hm:DataW.trod enc Tryz.prog W 0 (fun _=>true) true m 39 [v]=some y):∃A len cap xs,v= .slice A len cap∧xs.length=len∧(∀x∈xs,Lf.kh x)∧qW W W.heap.size A xs:=by
 rcases fO Tryz.underlying39 Tryz.underlying150 (by kernel_rfl) (by kernel_rfl) hm with ⟨hcs,-⟩|⟨a,len',cap',k,D,Pl,hcs,-,hlc,-,hk,-,hf⟩
 ·simp at hcs
  subst hcs;exact⟨none,0,0,[],rfl,rfl,by simp,fun i x h=>by cases h⟩
 ·simp only[if_true] at hk
  simp at hcs;subst hcs
  obtain⟨fs,hl,hp⟩:=kZ len' (fun i (f:Lf)=>f.kh∧∃A' c,Reads W W.heap.size 1 A' f.kids.length (DI f.kids)∧∀(j:Nat) (u:Value),([.int .i64 f.op, .int .i64 f.n, .string (strOf f.name), .slice A' f.kids.length c]:List Value)[j]? =some u→W.cell? (a.add (i*4+j))=some u) fun i hi=>by
   obtain⟨ys,n,-,-,hyl,hfj⟩:=hf i (by omega);obtain⟨v0,z0,k0,-,t0⟩:=hfj 0 _ rfl;obtain⟨v1,z1,k1,-,t1⟩:=hfj 1 _ rfl;obtain⟨v2,z2,k2,-,t2⟩:=hfj 2 _ rfl;obtain⟨v3,z3,k3,-,t3⟩:=hfj 3 _ rfl;obtain⟨x0,e0,-,w0⟩:=DataW.trod_int Tryz.underlying3 t0;obtain⟨x1,e1,-,w1⟩:=DataW.trod_int Tryz.underlying2 t1;obtain⟨x2,e2,-,w2⟩:=DataW.trod_string Tryz.underlying9 t2;obtain⟨A',n',c',l,e3,r3,b3⟩:=mL t3;simp at e0 e1 e2;subst e0 e1 e2 e3;have hln:l.length=n':=by have:=r3.1;rw[lx] at this;omega
   subst hln;have hbl:(bytesOf x2).length=x2.size:=by rw[←bG,fx]
   refine⟨⟨x0,x1,bytesOf x2,l⟩,⟨nY w0,nY w1,gn _,by dsimp only;rw[hbl];exact w2⟩,A',c',r3,fun j u hu=> ?_⟩
   ·simp only[fx] at hu
    match j,hu with
    |0,hu=>simp at hu;subst hu;exact k0
    |1,hu=>simp at hu;subst hu;exact k1
    |2,hu=>simp at hu;subst hu;exact k2
    |3,hu=>simp at hu;subst hu;exact k3
    |j+4,hu=>simp at hu
  refine⟨some a,len',cap',fs,rfl,hl,fun f hf0=> ?_,fun i x hx=> ?_⟩
  ·obtain⟨j,hj,rfl⟩:=List.getElem_of_mem hf0
   exact(hp j _ (List.getElem?_eq_getElem hj)).1
  ·obtain⟨-,A',c',r,hc⟩:=hp i x hx
   have hb:=World.block_lt_of_cell? W _ (hc 0 _ rfl);rw[ag] at hb;exact⟨a,A',c',rfl,hb,r,fun j u hu=>by rw[bK];exact hc j u hu⟩
set_option maxRecDepth 100000 in
theorem uO {H:Type}{enc:TypeId × Value→H}{W:World}{v:Value}{y:DataW H × List MemPlace}{m:Nat}
  (hm:DataW.trod enc Tryz.prog W 0 (fun _=>true) true m 40 [v]=some y):∃A len cap xs,v= .slice A len cap∧xs.length=len∧(∀x∈xs,Kn.kh x)∧qN W W.heap.size A xs:=by
 rcases fO Tryz.underlying40 Tryz.underlying155 (by kernel_rfl) (by kernel_rfl) hm with ⟨hcs,-⟩|⟨a,len',cap',k,D,Pl,hcs,-,hlc,-,hk,-,hf⟩
 ·simp at hcs
  subst hcs;exact⟨none,0,0,[],rfl,rfl,by simp,fun i x h=>by cases h⟩
 ·simp only[if_true] at hk
  simp at hcs;subst hcs
  obtain⟨fs,hl,hp⟩:=kZ len' (fun i (f:Kn)=>f.kh∧∃A1 A2 c1 c2,Reads W W.heap.size 1 A1 f.exprs.length (DI f.exprs)∧Reads W W.heap.size 1 A2 f.ar.length (DI f.ar)∧∀(j:Nat) (u:Value),([.int .i64 f.op, .string (strOf f.name), .slice A1 f.exprs.length c1, .slice A2 f.ar.length c2]:List Value)[j]? =some u→W.cell? (a.add (i*4+j))=some u) fun i hi=>by
   obtain⟨ys,n,-,-,hyl,hfj⟩:=hf i (by omega);obtain⟨v0,z0,k0,-,t0⟩:=hfj 0 _ rfl;obtain⟨v1,z1,k1,-,t1⟩:=hfj 1 _ rfl;obtain⟨v2,z2,k2,-,t2⟩:=hfj 2 _ rfl;obtain⟨v3,z3,k3,-,t3⟩:=hfj 3 _ rfl;obtain⟨x0,e0,-,w0⟩:=DataW.trod_int Tryz.underlying3 t0;obtain⟨x2,e2,-,w2⟩:=DataW.trod_string Tryz.underlying9 t1;obtain⟨A1,n1,c1,l1,e1,r1,b1⟩:=mL t2;obtain⟨A2,n2,c2,l2,e3,r2,b2⟩:=mL t3;simp at e0 e2;subst e0 e1 e2 e3;have hln:l1.length=n1:=by have:=r1.1;rw[lx] at this;omega
   subst hln;have hln2:l2.length=n2:=by have:=r2.1;rw[lx] at this;omega
   subst hln2;have hbl:(bytesOf x2).length=x2.size:=by rw[←bG,fx]
   refine⟨⟨x0,bytesOf x2,l1,l2⟩,⟨nY w0,gn _,by dsimp only;rw[hbl];exact w2⟩,A1,A2,c1,c2,r1,r2,fun j u hu=> ?_⟩
   ·simp only[fx] at hu
    match j,hu with
    |0,hu=>simp at hu;subst hu;exact k0
    |1,hu=>simp at hu;subst hu;exact k1
    |2,hu=>simp at hu;subst hu;exact k2
    |3,hu=>simp at hu;subst hu;exact k3
    |j+4,hu=>simp at hu
  refine⟨some a,len',cap',fs,rfl,hl,fun f hf0=> ?_,fun i x hx=> ?_⟩
  ·obtain⟨j,hj,rfl⟩:=List.getElem_of_mem hf0
   exact(hp j _ (List.getElem?_eq_getElem hj)).1
  ·obtain⟨-,A1,A2,c1,c2,r1,r2,hc⟩:=hp i x hx
   have hb:=World.block_lt_of_cell? W _ (hc 0 _ rfl);rw[ag] at hb;exact⟨a,A1,A2,c1,c2,rfl,hb,r1,r2,fun j u hu=>by rw[bK];exact hc j u hu⟩
set_option maxRecDepth 100000 in
theorem tw {H:Type}{enc:TypeId × Value→H}{W:World}{v:Value}{y:DataW H × List MemPlace}{m:Nat}
  (hm:DataW.trod enc Tryz.prog W 0 (fun _=>true) true m 41 [v]=some y):∃A len cap xs,v= .slice A len cap∧xs.length=len∧rL W W.heap.size A xs:=by
 rcases fO Tryz.underlying41 Tryz.underlying101 (by kernel_rfl) (by kernel_rfl) hm with ⟨hcs,-⟩|⟨a,len',cap',k,D,Pl,hcs,-,hlc,-,hk,-,hf⟩
 ·simp at hcs
  subst hcs;exact⟨none,0,0,[],rfl,rfl,fun i x h=>by cases h⟩
 ·simp only[if_true] at hk
  simp at hcs;subst hcs
  obtain⟨fs,hl,hp⟩:=kZ len' (fun i (f:Pc)=>bw f.aV∧∃A' c,Reads W W.heap.size 1 A' f.fD.length (DI f.fD)∧∀(j:Nat) (u:Value),([.int .i64 f.aV, .bool f.ba, .slice A' f.fD.length c, .int .i64 f.term]:List Value)[j]? =some u→W.cell? (a.add (i*4+j))=some u) fun i hi=>by
   obtain⟨ys,n,-,-,hyl,hfj⟩:=hf i (by omega);obtain⟨v0,z0,k0,-,t0⟩:=hfj 0 _ rfl;obtain⟨v1,z1,k1,-,t1⟩:=hfj 1 _ rfl;obtain⟨v2,z2,k2,-,t2⟩:=hfj 2 _ rfl;obtain⟨v3,z3,k3,-,t3⟩:=hfj 3 _ rfl;obtain⟨x0,e0,-,w0⟩:=DataW.trod_int Tryz.underlying2 t0;obtain⟨x1,e1,-⟩:=DataW.trod_bool Tryz.underlying4 t1;obtain⟨A',n',c',l,e2,r2,b2⟩:=mL t2;obtain⟨x3,e3,-,w3⟩:=DataW.trod_int Tryz.underlying3 t3;simp at e0 e1 e3;subst e0 e1 e2 e3;have hln:l.length=n':=by have:=r2.1;rw[lx] at this;omega
   subst hln;refine⟨⟨x0,x1,l,x3⟩,nY w0,A',c',r2,fun j u hu=> ?_⟩
   ·match j,hu with
    |0,hu=>simp at hu;subst hu;exact k0
    |1,hu=>simp at hu;subst hu;exact k1
    |2,hu=>simp at hu;subst hu;exact k2
    |3,hu=>simp at hu;subst hu;exact k3
    |j+4,hu=>simp at hu
  refine⟨some a,len',cap',fs,rfl,hl,fun i x hx=> ?_⟩;obtain⟨h1,A',c',r,hc⟩:=hp i x hx;have hb:=World.block_lt_of_cell? W _ (hc 0 _ rfl);rw[ag] at hb;exact⟨a,A',c',rfl,hb,h1,r,fun j u hu=>by rw[bK];exact hc j u hu⟩
set_option maxRecDepth 100000 in
theorem zL {H:Type}{enc:TypeId × Value→H}{W:World}{base:Nat}{v:Value}{d:DataW H}{p:List MemPlace}(hv:Value.okWide Tryz.prog W .any base 43 v)
  (h:DataW.Trod enc Tryz.prog W 0 (fun _=>true) true 43 v d p):∃id ho wt tx bo en st AL nL cL AK nK cK AP nP cP xs ks ps,v= .agg #[.string (strOf id), .string (strOf ho), .string (strOf wt), .string (strOf tx), .int .i64 bo, .int .i64 en, .int .i64 st, .slice AL nL cL, .slice AK nK cK, .slice AP nP cP]∧
   (∀d∈id,d<256)∧(∀d∈ho,d<256)∧(∀d∈wt,d<256)∧(∀d∈tx,d<256)∧bw bo∧bw en∧bw st∧xs.length=nL∧(∀x∈xs,Lf.kh x)∧qW W W.heap.size AL xs∧ks.length=nK∧(∀x∈ks,Kn.kh x)∧qN W W.heap.size AK ks∧ps.length=nP∧rL W W.heap.size AP ps:=by
 obtain⟨cs,rfl,hsz⟩:=okWide_struct Tryz.underlying43 hv;have hC:Tryz.prog.cellsOf 43=10:=by kernel_rfl
 have ci:Tryz.prog.cellsOf 3=1:=by kernel_rfl
 have cs_:Tryz.prog.cellsOf 9=1:=by kernel_rfl
 have cl:Tryz.prog.cellsOf 39=1:=by kernel_rfl
 have ck:Tryz.prog.cellsOf 40=1:=by kernel_rfl
 have cp:Tryz.prog.cellsOf 41=1:=by kernel_rfl
 obtain⟨l⟩:=cs;have hsz:=hsz.trans hC
 match l,hsz with
 | [c0,c1,c2,c3,c4,c5,c6,c7,c8,c9],_=>
  obtain⟨fuel,hf⟩:=h;obtain⟨xs,n,-,-,-,hlen,hfj⟩:=DataW.trod_struct Tryz.underlying43 hf
  match xs,hlen with
  | [y0,y1,y2,y3,y4,y5,y6,y7,y8,y9],_=>
   have t0:=hfj 0 _ rfl;have t1:=hfj 1 _ rfl;have t2:=hfj 2 _ rfl;have t3:=hfj 3 _ rfl;have t4:=hfj 4 _ rfl;have t5:=hfj 5 _ rfl;have t6:=hfj 6 _ rfl;have t7:=hfj 7 _ rfl;have t8:=hfj 8 _ rfl;have t9:=hfj 9 _ rfl;simp[Value.cells,ci,cs_,cl,ck,cp] at t0 t1 t2 t3 t4 t5 t6 t7 t8 t9;obtain⟨x0,e0,-,w0⟩:=DataW.trod_string Tryz.underlying9 t0;obtain⟨x1,e1,-,w1⟩:=DataW.trod_string Tryz.underlying9 t1;obtain⟨x2,e2,-,w2⟩:=DataW.trod_string Tryz.underlying9 t2;obtain⟨x3,e3,-,w3⟩:=DataW.trod_string Tryz.underlying9 t3;obtain⟨x4,e4,-,w4⟩:=DataW.trod_int Tryz.underlying3 t4;obtain⟨x5,e5,-,w5⟩:=DataW.trod_int Tryz.underlying3 t5;obtain⟨x6,e6,-,w6⟩:=DataW.trod_int Tryz.underlying3 t6;obtain⟨AL,nL,cL,xs,e7,a7,b7,d7⟩:=sN t7;obtain⟨AK,nK,cK,ks,e8,a8,b8,d8⟩:=uO t8;obtain⟨AP,nP,cP,ps,e9,a9,d9⟩:=tw t9;simp at e0 e1 e2 e3 e4 e5 e6;subst e0 e1 e2 e3 e4 e5 e6 e7 e8 e9;exact⟨bytesOf x0,bytesOf x1,bytesOf x2,bytesOf x3,x4,x5,x6,AL,nL,cL,AK,nK,cK,AP,nP,cP,xs,ks,ps,by simp only[fx],gn _,gn _,gn _,gn _,nY w4,nY w5,nY w6,a7,b7,d7,a8,b8,d8,a9,d9⟩
namespace EventCuts
theorem own:ownKnob Tryz.prog.godebug=none:=by kernel_rfl
theorem laidOut:laidOutB Tryz.prog=true:=by kernel_rfl
set_option maxRecDepth 100000 in
theorem lifted (os:Os)(started:os.Started)(H:Type)(enc:TypeId × Value→H):
  ReturnsInHanded {} Tryz.checked os 8 .any (Rows.eventCutsSpec.pre6 enc Tryz.prog Tryz.f8 Rows.eventCutsRow.domain false) (Rows.eventCutsSpec.post enc Tryz.prog Tryz.f8 false true false false):=by
 refine returnsInHanded_of_change (C:=Tryz.checked) own started (by kernel_rfl) Tryz.func8
  (ChangeSpec.witness6 (enc:=enc) (C:=Tryz.checked) false ⟨#[],#[.agg #[.string {data:= #[]}, .string {data:= #[]}, .string {data:= #[]}, .string {data:= #[]}, .int .i64 0, .int .i64 0, .int .i64 0, .slice none 0 0, .slice none 0 0, .slice none 0 0], .int .i64 0, .int .u8 0],[]⟩ 8 (by kernel_rfl) (by kernel_rfl) (by kernel_rfl) (by kernel_rfl)) ?_
 intro W base args ds gs before hval0 hW hcnd _;have hval:∀(j:Nat) t v,Tryz.f8.params[j]? =some t→args[j]? =some v→Value.okWide Tryz.prog W .any base t v:=hval0;have hW':=hW;obtain⟨p,q,hA0,hV,rfl,hfz,hnd⟩:=hW;have hA:DataW.TrodAll enc Tryz.prog W 0 (fun _=>true) true Tryz.f8.params.toList args.toList ds p:=hA0;rw[Tryz.params8] at hA hval;obtain⟨v0,vs0,d0,ds0,p0,q0,hargs,rfl,rfl,h0,r0⟩:=trodAll_cons hA;obtain⟨v1,vs1,d1,ds1,p1,q1,rfl,rfl,rfl,h1,r1⟩:=trodAll_cons r0;obtain⟨v2,vs2,d2,ds2,p2,q2,rfl,rfl,rfl,h2,r2⟩:=trodAll_cons r1;obtain⟨rfl,rfl,rfl⟩:=trodAll_nil r2;obtain rfl:args= #[v0,v1,v2]:=by cases args;simp_all
 obtain⟨rfl,rfl⟩:=trodVars_none hV;have k0:=h0;have lt0:∀x∈p0,x.block<W.heap.size:=by obtain⟨m,hm⟩:=k0;exact DataW.trod_lt m _ _ _ hm
 have k1:=h1;have lt1:∀x∈p1,x.block<W.heap.size:=by obtain⟨m,hm⟩:=k1;exact DataW.trod_lt m _ _ _ hm
 have k2:=h2;have lt2:∀x∈p2,x.block<W.heap.size:=by obtain⟨m,hm⟩:=k2;exact DataW.trod_lt m _ _ _ hm
 obtain⟨id,ho,wt,tx,bo,en,st,AL,nL,cL,AK,nK,cK,AP,nP,cP,xs,ks,ps,rfl,i1,i2,i3,i4,i5,i6,i7,i8,i9,j1,j2,j3,j4,j5,j6⟩:=zL (hval 0 _ v0 rfl rfl) h0;obtain⟨kk,rfl,hkk⟩:=Ca Tryz.underlying3 (hval 1 _ v1 rfl rfl);obtain⟨cc,rfl,hcc⟩:=Du Tryz.underlying5 (hval 2 _ v2 rfl rfl);clear hA0 hval0;refine(zg id ho wt tx bo en st AL AK AP nL cL nK cK nP cP xs ks ps kk cc W i1 i2 i3 i4 i5 i6 i7 i8 i9 j1 j2 j3 j4 j5 j6 hcc).mono fun e W' ⟨he,bel⟩=> ?_;subst he;exact⟨_,rfl,_,_,_,[],_,[],hW',trodAll_mk1 (shut_bool Tryz.underlying4 _),(trodAll_cons_mk (Below.trod laidOut (by kernel_rfl) (of_decide_eq_true (by kernel_rfl)) k0 bel lt0) (trodAll_cons_mk (Below.trod laidOut (by kernel_rfl) (of_decide_eq_true (by kernel_rfl)) k1 bel lt1) (trodAll_cons_mk (Below.trod laidOut (by kernel_rfl) (of_decide_eq_true (by kernel_rfl)) k2 bel lt2) trodAll_mk0))),rfl,bel.frame _,fun h=>by cases h⟩
theorem over:Rows.eventCutsRow.holds Tryz.pinned (OpenSpec.ofChange Rows.eventCutsSpec):=
 OpenClaim.holds_of_wide 8 Tryz.f8 rfl rfl rfl rfl rfl rfl rfl ⟨rfl,rfl,rfl,rfl,rfl⟩ rfl rfl rfl rfl rfl (by kernel_rfl) Tryz.func8 (by kernel_rfl)
  (of_decide_eq_true (by kernel_rfl)) (by unfold Func.isWrapper;first|(rw[if_pos (by decide+kernel)];kernel_rfl)|(rw[if_neg (by decide+kernel)];exact⟨rfl,rfl⟩))
  (fun os started H enc _=>lifted os started H enc)
theorem proved:Rows.EventCutsSaid:=over
end EventCuts
end Go.Proofs.YtigoimhndlnhfaaGreat