/-
  PrintBack: what is printed, in one line or in several, is parsed as it was. No condition.
-/
import Derived.Test.YtaamkfajnpobfaaGreatB5
namespace Go.Proofs.YtaamkfajnpobfaaGreat
open Go.ChangeShapes Go.WideShapes Go.ChangeAt Go.Deep Go.RowKit
theorem choose_of {α:Type}(n:Nat)(p:Nat→α→Prop)(h:∀i,i<n→∃f,p i f):∃l:List α,l.length=n∧∀i f,l[i]? =some f→p i f:=by
 induction n with
 |zero=>exact⟨[],rfl,fun i f hf=>by simp at hf⟩
 |succ n ih=>
  obtain⟨l,hl,hp⟩:=ih fun i hi=>h i (by omega)
  obtain⟨x,hx⟩:=h n (by omega)
  refine⟨l++[x],by simp[hl],fun i f hf=> ?_⟩
  rcases Nat.lt_or_ge i n with hi|hi
  ·rw[List.getElem?_append_left (by omega)] at hf
   exact hp i f hf
  ·rw[List.getElem?_append_right (by omega)] at hf
   have h0:i-l.length=0:=by
    have:=(List.getElem?_eq_some_iff.1 hf).1
    simp at this
    omega
   rw[h0] at hf
   simp at hf
   subst hf
   have:i=n:=by omega
   subst this
   exact hx
theorem has64 {x:Int}(h:Lit.wf (.int .i64 x)=true):I64 x:=by
 simp only[Lit.wf,Bool.and_eq_true,decide_eq_true_eq] at h
 exact⟨h.1,h.2⟩
section
variable {H:Type} {enc:TypeId × Value→H} {P:Program} {w:World} {base:Nat} {spare:Nat→Bool} {held:Bool}
theorem open_slice_fields {t e:TypeId}{fs:Array Field}{fuel:Nat}{cs:List Value}{x:DataW H × List MemPlace}(ht:P.underlying t=some (.slice e))(he:P.underlying e=some (.struct fs))
  (hone:oneCellFields P fs=true) (hC:P.cellsOf e=fs.size) (h:DataW.trod enc P w base spare held fuel t cs=some x):
  (cs=[.slice none 0 0]∧x=(.nil,[]))∨
  ∃(a:Addr) (len cap m:Nat) (D:Nat→DataW H) (Pl:Nat→List MemPlace),cs=[.slice (some a) len cap]∧base≤a.block∧len≤cap∧cap≤maxLen∧m=(if spare a.block then cap else len)∧
   x=(.slice ((List.range len).map D) ((List.range (m-len)).map fun j=>D (len+j)),MemPlace.row a (m*fs.size)++(List.range m).flatMap Pl)∧
   ∀i,i<m→∃(ys:List (DataW H × List MemPlace)) (n:Nat),D i= .agg (ys.map (·.1))∧Pl i=ys.flatMap (·.2)∧ys.length=fs.size∧
    ∀(j:Nat) (f:Field),fs[j]? =some f→∃(v:Value) (y:DataW H × List MemPlace),w.cell? (a.add (i*fs.size+j))=some v∧ys[j]? =some y∧DataW.trod enc P w base spare held n f.type [v]=some y:=by
 rcases open_slice ht h with h0|⟨a,len,cap,m,n,D,Pl,hcs,hb,hl,hm,hmm,hx,hi⟩
 ·exact .inl h0
 ·refine .inr ⟨a,len,cap,m,D,Pl,hcs,hb,hl,hm,hmm,by rw[hC] at hx;exact hx,fun i him=> ?_⟩
  obtain⟨cs',hc,ht'⟩:=hi i him
  rw[hC] at hc
  obtain⟨ys,n',hn',hy,hlen,hyl,hf⟩:=DataW.trod_struct he ht'
  obtain⟨_,hcl,hat⟩:=World.cells?_some hc
  simp only[Prod.mk.injEq] at hy
  refine⟨ys,n',hy.1,hy.2,hyl,fun j f hj=> ?_⟩
  obtain⟨ho,hk⟩:=hone_of hone j f hj
  have hjl:j<fs.size:=(Array.getElem?_eq_some_iff.1 hj).1
  have hcell:=hat j hjl
  have hv:cs'[j]? =some (cs'[j]'(by omega)):=List.getElem?_eq_getElem (by omega)
  have h1:=hf j f hj
  rw[ho,hk] at h1
  have hone':(cs'.drop j).take 1=[cs'[j]'(by omega)]:=by
   rw[List.drop_eq_getElem_cons (by omega)]
   rfl
  rw[hone'] at h1
  have hys:ys[j]? =some (ys[j]'(by omega)):=List.getElem?_eq_getElem (by omega)
  refine⟨_,_,?_,hys,h1.trans hys⟩
  rw[←Go.Deep.add_add,hcell,hv]
end
set_option maxRecDepth 100000 in
theorem open_dis {H:Type}{enc:TypeId × Value→H}{W:World}{v:Value}{y:DataW H × List MemPlace}{m:Nat}
  (h:DataW.trod enc Tryz.prog W 0 (fun _=>true) true m 43 [v]=some y):∃A len cap l,v= .slice A len cap∧Reads W W.heap.size 1 A len (DI l)∧∀x∈l,I64 x:=by
 rcases open_slice Tryz.underlying43 h with ⟨hcs,-⟩|⟨a,len',cap',k,n,D,Pl,hcs,-,hlc,-,hk,-,hf⟩
 ·simp at hcs
  exact⟨none,0,0,[],hcs,Reads.none_,by simp⟩
 ·simp only[if_true] at hk
  simp at hcs
  have hC:Tryz.prog.cellsOf 3=1:=by kernel_rfl
  rw[hC] at hf
  obtain⟨l,hl,hp⟩:=choose_of len' (fun i (x:Int)=>I64 x∧W.cell? (a.add i)=some (.int .i64 x)) fun i hi=>by
   obtain⟨cs',hc,ht⟩:=hf i (by omega)
   obtain⟨x,rfl,-,hwf⟩:=DataW.trod_int Tryz.underlying3 ht
   obtain⟨_,_,hat⟩:=World.cells?_some hc
   have h0:=hat (i:=0) (by omega)
   refine⟨x,has64 hwf,?_⟩
   rw[add_of_add,Nat.mul_one,Nat.add_zero] at h0
   rw[h0];rfl
  refine⟨some a,len',cap',l,hcs,⟨by simp[DI,hl],fun hpos=>⟨a,rfl,?_,fun j u hu=> ?_⟩⟩,fun x hx=> ?_⟩
  ·obtain⟨x,hx⟩:∃x,l[0]? =some x:=⟨_,List.getElem?_eq_getElem (by omega)⟩
   have:=World.block_lt_of_cell? W _ (hp 0 x hx).2
   rwa [block_of_add] at this
  ·simp only[DI,List.getElem?_map] at hu
   cases hx:l[j]? with
   |none=>rw[hx] at hu;cases hu
   |some x=>
    rw[hx] at hu
    injection hu with hu
    rw[←hu]
    exact(hp j x hx).2
  ·obtain⟨j,hj,rfl⟩:=List.getElem_of_mem hx
   exact(hp j _ (List.getElem?_eq_getElem hj)).1
set_option maxRecDepth 100000 in
theorem open_leaves {H:Type}{enc:TypeId × Value→H}{W:World}{base:Nat}{v:Value}{d:DataW H}{p:List MemPlace}(hv:Value.okWide Tryz.prog W .any base 41 v)
  (h:DataW.Trod enc Tryz.prog W 0 (fun _=>true) true 41 v d p):∃A len cap xs,v= .slice A len cap∧xs.length=len∧(∀x∈xs,Lf.rng x)∧LfAt W W.heap.size A xs:=by
 obtain⟨A,len,cap,rfl⟩:=okWide_slice Tryz.underlying41 hv
 obtain⟨m,hm⟩:=h
 rcases open_slice_fields Tryz.underlying41 Tryz.underlying77 (by kernel_rfl) (by kernel_rfl) hm with ⟨hcs,-⟩|⟨a,len',cap',k,D,Pl,hcs,-,hlc,-,hk,-,hf⟩
 ·simp[Value.cells] at hcs
  obtain⟨rfl,rfl,rfl⟩:=hcs
  exact⟨none,0,0,[],rfl,rfl,by simp,fun i x h=>by cases h⟩
 ·simp only[if_true] at hk
  simp[Value.cells] at hcs
  obtain⟨rfl,rfl,rfl⟩:=hcs
  obtain⟨fs,hl,hp⟩:=choose_of len (fun i (f:Lf)=>f.rng∧∃A' c,Reads W W.heap.size 1 A' f.kids.length (DI f.kids)∧∀(j:Nat) (u:Value),([.int .i64 f.op, .int .i64 f.n, .string (strOf f.name), .slice A' f.kids.length c]:List Value)[j]? =some u→W.cell? (a.add (i*4+j))=some u) fun i hi=>by
   obtain⟨ys,n,-,-,hyl,hfj⟩:=hf i (by omega)
   obtain⟨v0,z0,k0,-,t0⟩:=hfj 0 _ rfl
   obtain⟨v1,z1,k1,-,t1⟩:=hfj 1 _ rfl
   obtain⟨v2,z2,k2,-,t2⟩:=hfj 2 _ rfl
   obtain⟨v3,z3,k3,-,t3⟩:=hfj 3 _ rfl
   obtain⟨x0,e0,-,w0⟩:=DataW.trod_int Tryz.underlying3 t0
   obtain⟨x1,e1,-,w1⟩:=DataW.trod_int Tryz.underlying2 t1
   obtain⟨x2,e2,-,w2⟩:=DataW.trod_string Tryz.underlying9 t2
   obtain⟨A',n',c',l,e3,r3,b3⟩:=open_dis t3
   simp at e0 e1 e2
   subst e0 e1 e2 e3
   have hln:l.length=n':=by have:=r3.1;rw[length_DI] at this;omega
   subst hln
   have hbl:(bytesOf x2).length=x2.size:=by rw[←strOf_size,strOf_bytesOf]
   refine⟨⟨x0,x1,bytesOf x2,l⟩,⟨has64 w0,has64 w1,bytesOf_lt _,by dsimp only;rw[hbl];exact w2⟩,A',c',r3,fun j u hu=> ?_⟩
   ·simp only[strOf_bytesOf] at hu
    match j,hu with
    |0,hu=>simp at hu;subst hu;exact k0
    |1,hu=>simp at hu;subst hu;exact k1
    |2,hu=>simp at hu;subst hu;exact k2
    |3,hu=>simp at hu;subst hu;exact k3
    |j+4,hu=>simp at hu
  refine⟨some a,len,cap,fs,rfl,hl,fun f hf0=> ?_,fun i x hx=> ?_⟩
  ·obtain⟨j,hj,rfl⟩:=List.getElem_of_mem hf0
   exact(hp j _ (List.getElem?_eq_getElem hj)).1
  ·obtain⟨-,A',c',r,hc⟩:=hp i x hx
   have hb:=World.block_lt_of_cell? W _ (hc 0 _ rfl)
   rw[block_of_add] at hb
   exact⟨a,A',c',rfl,hb,r,fun j u hu=>by rw[add_of_add];exact hc j u hu⟩
set_option maxRecDepth 100000 in
theorem open_knots {H:Type}{enc:TypeId × Value→H}{W:World}{base:Nat}{v:Value}{d:DataW H}{p:List MemPlace}(hv:Value.okWide Tryz.prog W .any base 54 v)
  (h:DataW.Trod enc Tryz.prog W 0 (fun _=>true) true 54 v d p):∃A len cap xs,v= .slice A len cap∧xs.length=len∧(∀x∈xs,Kn.rng x)∧KnAt W W.heap.size A xs:=by
 obtain⟨A,len,cap,rfl⟩:=okWide_slice Tryz.underlying54 hv
 obtain⟨m,hm⟩:=h
 rcases open_slice_fields Tryz.underlying54 Tryz.underlying81 (by kernel_rfl) (by kernel_rfl) hm with ⟨hcs,-⟩|⟨a,len',cap',k,D,Pl,hcs,-,hlc,-,hk,-,hf⟩
 ·simp[Value.cells] at hcs
  obtain⟨rfl,rfl,rfl⟩:=hcs
  exact⟨none,0,0,[],rfl,rfl,by simp,fun i x h=>by cases h⟩
 ·simp only[if_true] at hk
  simp[Value.cells] at hcs
  obtain⟨rfl,rfl,rfl⟩:=hcs
  obtain⟨fs,hl,hp⟩:=choose_of len (fun i (f:Kn)=>f.rng∧∃A1 A2 c1 c2,Reads W W.heap.size 1 A1 f.exprs.length (DI f.exprs)∧Reads W W.heap.size 1 A2 f.terms.length (DI f.terms)∧∀(j:Nat) (u:Value),([.int .i64 f.op, .string (strOf f.name), .slice A1 f.exprs.length c1, .slice A2 f.terms.length c2]:List Value)[j]? =some u→W.cell? (a.add (i*4+j))=some u) fun i hi=>by
   obtain⟨ys,n,-,-,hyl,hfj⟩:=hf i (by omega)
   obtain⟨v0,z0,k0,-,t0⟩:=hfj 0 _ rfl
   obtain⟨v1,z1,k1,-,t1⟩:=hfj 1 _ rfl
   obtain⟨v2,z2,k2,-,t2⟩:=hfj 2 _ rfl
   obtain⟨v3,z3,k3,-,t3⟩:=hfj 3 _ rfl
   obtain⟨x0,e0,-,w0⟩:=DataW.trod_int Tryz.underlying3 t0
   obtain⟨x2,e2,-,w2⟩:=DataW.trod_string Tryz.underlying9 t1
   obtain⟨A1,n1,c1,l1,e1,r1,b1⟩:=open_dis t2
   obtain⟨A2,n2,c2,l2,e3,r2,b2⟩:=open_dis t3
   simp at e0 e2
   subst e0 e1 e2 e3
   have hln:l1.length=n1:=by have:=r1.1;rw[length_DI] at this;omega
   subst hln
   have hln2:l2.length=n2:=by have:=r2.1;rw[length_DI] at this;omega
   subst hln2
   have hbl:(bytesOf x2).length=x2.size:=by rw[←strOf_size,strOf_bytesOf]
   refine⟨⟨x0,bytesOf x2,l1,l2⟩,⟨has64 w0,bytesOf_lt _,by dsimp only;rw[hbl];exact w2⟩,A1,A2,c1,c2,r1,r2,fun j u hu=> ?_⟩
   ·simp only[strOf_bytesOf] at hu
    match j,hu with
    |0,hu=>simp at hu;subst hu;exact k0
    |1,hu=>simp at hu;subst hu;exact k1
    |2,hu=>simp at hu;subst hu;exact k2
    |3,hu=>simp at hu;subst hu;exact k3
    |j+4,hu=>simp at hu
  refine⟨some a,len,cap,fs,rfl,hl,fun f hf0=> ?_,fun i x hx=> ?_⟩
  ·obtain⟨j,hj,rfl⟩:=List.getElem_of_mem hf0
   exact(hp j _ (List.getElem?_eq_getElem hj)).1
  ·obtain⟨-,A1,A2,c1,c2,r1,r2,hc⟩:=hp i x hx
   have hb:=World.block_lt_of_cell? W _ (hc 0 _ rfl)
   rw[block_of_add] at hb
   exact⟨a,A1,A2,c1,c2,rfl,hb,r1,r2,fun j u hu=>by rw[add_of_add];exact hc j u hu⟩
namespace PrintBack
theorem own:ownKnob Tryz.prog.godebug=none:=by kernel_rfl
theorem laidOut:laidOutB Tryz.prog=true:=by kernel_rfl
set_option maxRecDepth 100000 in
theorem lifted (os:Os)(started:os.Started)(H:Type)(enc:TypeId × Value→H):
  ReturnsInHanded {} Tryz.checked os 6 .any (Rows.printBackSpec.pre6 enc Tryz.prog Tryz.f6 Rows.printBackRow.domain false) (Rows.printBackSpec.post enc Tryz.prog Tryz.f6 false true false false):=by
 refine returnsInHanded_of_change (C:=Tryz.checked) own started (by kernel_rfl) Tryz.func6
  (ChangeSpec.witness6 (enc:=enc) (C:=Tryz.checked) false ⟨#[],#[.slice none 0 0, .slice none 0 0],[]⟩ 8 (by kernel_rfl) (by kernel_rfl) (by kernel_rfl) (by kernel_rfl)) ?_
 intro W base args ds gs before hval0 hW hcnd _
 have hval:∀(j:Nat) t v,Tryz.f6.params[j]? =some t→args[j]? =some v→Value.okWide Tryz.prog W .any base t v:=hval0
 have hW':=hW
 obtain⟨p,q,hA0,hV,rfl,hfz,hnd⟩:=hW
 have hA:DataW.TrodAll enc Tryz.prog W 0 (fun _=>true) true Tryz.f6.params.toList args.toList ds p:=hA0
 rw[Tryz.params6] at hA hval
 obtain⟨v0,vs0,d0,ds0,p0,q0,hargs,rfl,rfl,h0,r0⟩:=trodAll_cons hA
 obtain⟨v1,vs1,d1,ds1,p1,q1,rfl,rfl,rfl,h1,r1⟩:=trodAll_cons r0
 obtain⟨rfl,rfl,rfl⟩:=trodAll_nil r1
 obtain rfl:args= #[v0,v1]:=by cases args;simp_all
 obtain⟨rfl,rfl⟩:=trodVars_none hV
 have k0:=h0
 have lt0:∀x∈p0,x.block<W.heap.size:=by obtain⟨m,hm⟩:=k0;exact DataW.trod_lt m _ _ _ hm
 have k1:=h1
 have lt1:∀x∈p1,x.block<W.heap.size:=by obtain⟨m,hm⟩:=k1;exact DataW.trod_lt m _ _ _ hm
 obtain⟨A,n,cap,xs,rfl,hl,hx,hr⟩:=open_leaves (hval 0 _ v0 rfl rfl) h0
 obtain⟨AK,nK,capK,ks,rfl,hlK,hxK,hrK⟩:=open_knots (hval 1 _ v1 rfl rfl) h1
 clear hA0 hval0
 refine(walk_pback A AK n cap nK capK xs ks W hl hx hr hlK hxK hrK).mono fun e W' ⟨he,bel⟩=> ?_
 subst he
 exact⟨_,rfl,_,_,_,[],_,[],hW',trodAll_mk1 (shut_bool Tryz.underlying4 _),(trodAll_cons_mk (Below.trod laidOut (by kernel_rfl) (of_decide_eq_true (by kernel_rfl)) k0 bel lt0) (trodAll_cons_mk (Below.trod laidOut (by kernel_rfl) (of_decide_eq_true (by kernel_rfl)) k1 bel lt1) trodAll_mk0)),rfl,bel.frame _,fun h=>by cases h⟩
theorem over:Rows.printBackRow.holds Tryz.pinned (OpenSpec.ofChange Rows.printBackSpec):=
 OpenClaim.holds_of_wide 6 Tryz.f6 rfl rfl rfl rfl rfl rfl rfl ⟨rfl,rfl,rfl,rfl,rfl⟩ rfl rfl rfl rfl rfl (by kernel_rfl) Tryz.func6 (by kernel_rfl)
  (of_decide_eq_true (by kernel_rfl)) (by unfold Func.isWrapper;first|(rw[if_pos (by decide+kernel)];kernel_rfl)|(rw[if_neg (by decide+kernel)];exact⟨rfl,rfl⟩))
  (fun os started H enc _=>lifted os started H enc)
theorem proved:Rows.PrintBackSaid:=over
end PrintBack
end Go.Proofs.YtaamkfajnpobfaaGreat
