/-
  Texts that were joined: SrtH, SrtJ, TOpen, NcB, NgA, NhC, NhE, NcC, NhG, NhW, NhF, NhH, NhI. Conditions: what each theorem names.
-/
import Derived.Test.YtdpipgidpkmolaaGreatDoorZ3
import Derived.ProofKit
import Derived.OpenShut
import Derived.Lib.SmallJoins
import Derived.Deep.Slices
import Derived.Deep.Fields
import Derived.ChangeSame
set_option linter.unusedSectionVars false
namespace Go.Proofs.YtdpipgidpkmolaaGreatDoor
open Go.RowKit
section
variable {P:Program} {E:Operand→Option Value} {o:Oper} {w:World} {x y z u:Operand} {T:TypeId}
theorem Runs.sliceLo {k:IntKind}{A:Option Addr}{n c e s j:Nat}{p:Int}(ho:o.op= .slice T x (some y) none none)(hx:E x=some (.slice A n c))(hy:E y=some (.int k p))(hT:P.underlying T=some (.slice e))(hs:sizeIs P e s=true)(hp:p=(j:Int))(hj:j≤n):Runs P E o w (sliced A j n c s) w:=fun ρ h=>by
 subst hp
 have he:P.elem T=e:=by simp[Program.elem,hT]
 have hT':P.underlying T=some (.slice (P.elem T)):=by rw[he];exact hT
 obtain⟨i,hi,hsz⟩:=sizeIs_spec hs
 have h1:=run_slice_l (P:=P) (w:=w) T A n c hT' k (j:Int) (by omega) (by omega)
 rw[he,run_sizeOf (h:=hi)] at h1
 unfold execOp;simp only[ho,Option.map_some,Option.map_none];rw[h _ _ hx,h _ _ hy]
 simp only[Sem.run_bind,run_sliceAt_slice (h:=hT'),h1,Result.andThen_ok]
 have hcs:P.cellsOf e=s:=by simp[Program.cellsOf,hi,hsz]
 rw[Int.toNat_natCast,hcs]
 rfl
theorem Runs.sliceLH {k k':IntKind}{A:Option Addr}{n c e s i j:Nat}{p q:Int}(ho:o.op= .slice T x (some y) (some z) none)(hx:E x=some (.slice A n c))(hy:E y=some (.int k p))(hz:E z=some (.int k' q))(hT:P.underlying T=some (.slice e))(hs:sizeIs P e s=true)(hp:p=(i:Int))(hq:q=(j:Int))(hij:i≤j)(hj:j≤c):Runs P E o w (sliced A i j c s) w:=fun ρ h=>by
 subst hp hq
 have he:P.elem T=e:=by simp[Program.elem,hT]
 have hT':P.underlying T=some (.slice (P.elem T)):=by rw[he];exact hT
 obtain⟨f,hi,hsz⟩:=sizeIs_spec hs
 have h1:=run_slice_lh (P:=P) (w:=w) T A n c hT' k k' (i:Int) (j:Int) (by omega) (by omega) (by omega)
 rw[he,run_sizeOf (h:=hi)] at h1
 unfold execOp;simp only[ho,Option.map_some,Option.map_none];rw[h _ _ hx,h _ _ hy,h _ _ hz]
 simp only[Sem.run_bind,run_sliceAt_slice (h:=hT'),h1,Result.andThen_ok]
 have hcs:P.cellsOf e=s:=by simp[Program.cellsOf,hi,hsz]
 rw[Int.toNat_natCast,Int.toNat_natCast,hcs]
 rfl
theorem Runs.sliceLHM {k k' k'':IntKind}{A:Option Addr}{n c e s i j m:Nat}{p q r:Int}(ho:o.op= .slice T x (some y) (some z) (some u))(hx:E x=some (.slice A n c))(hy:E y=some (.int k p))(hz:E z=some (.int k' q))(hu:E u=some (.int k'' r))(hT:P.underlying T=some (.slice e))(hs:sizeIs P e s=true)(hp:p=(i:Int))(hq:q=(j:Int))(hr:r=(m:Int))(hij:i≤j)(hj:j≤m)(hm:m≤c):Runs P E o w (sliced A i j m s) w:=fun ρ h=>by
 subst hp hq hr
 have he:P.elem T=e:=by simp[Program.elem,hT]
 have hT':P.underlying T=some (.slice (P.elem T)):=by rw[he];exact hT
 obtain⟨f,hi,hsz⟩:=sizeIs_spec hs
 have h1:=run_slice_lhm (P:=P) (w:=w) T A n c hT' k k' k'' (i:Int) (j:Int) (m:Int) (by omega) (by omega) (by omega) (by omega)
 rw[he,run_sizeOf (h:=hi)] at h1
 unfold execOp;simp only[ho,Option.map_some,Option.map_none];rw[h _ _ hx,h _ _ hy,h _ _ hz,h _ _ hu]
 simp only[Sem.run_bind,run_sliceAt_slice (h:=hT'),h1,Result.andThen_ok]
 have hcs:P.cellsOf e=s:=by simp[Program.cellsOf,hi,hsz]
 rw[Int.toNat_natCast,Int.toNat_natCast,Int.toNat_natCast,hcs]
 rfl
end
section
variable {P:Program} {ops:Array Oper} {Q:Exit→Act→World→Prop} {rest:List Oper} {o:Oper} {n d:Nat} {F:List (Nat × Value)} {w:World} {x y:Operand}
theorem Seq.appendRoom {t e size k m c cap g:Nat}{A:Option Addr}{news:List Value}{cur:Array Value}(ho:o.op= .call {callee:= .builtin .append,args:= #[x,y],argTypes:= #[t,t]}) (hx:evF F x=some (.slice (some ⟨g,0,none⟩) k cap)) (hy:evF F y=some (.slice A m c)) (ht:P.underlying t=some (.slice e)) (hs:sizeIs P e size=true)
  (hb:Blk w g e cur) (hl:news.length=m*size) (hA:A=none→m=0∧False) (hnews:∀a,A=some a→∀j u,news[j]? =some u→w.cell? (a.add j)=some u) (h1:∀u∈news,u.oneCell'=true) (hroom:k+m≤cap) (hfit:k*size+news.length≤cur.size) (hg:o.guard=none) (hd:o.dst=some d) (hn:Nat.blt d n=true)
  (h:∀w',Blk w' g e (cur.toList.take (k*size)++news++cur.toList.drop (k*size+news.length)).toArray→w.grownBy w' (some g)→Seq P ops Q rest n ((d, .slice (some ⟨g,0,none⟩) (k+m) cap)::F) w'):Seq P ops Q (o::rest) n F w:=by
 obtain⟨i,hi,hisz⟩:=sizeIs_spec hs
 subst hisz
 cases A with
 |none=>exact(hA rfl).2.elim
 |some a=>
  have hr:=run_append_room (P:=P) w t o.type e i ht hi g k cap cur hb a m c news hl (hnews a rfl) h1 hroom hfit
  refine Seq.val (fun ρ hρ=> ?_) hg hd hn (h _ (setRow_heap w g cur _ e _ hb) (grownBy_setRow w g _))
  unfold execOp
  simp only[ho,resolve,invoke,builtin,Sem.run_bind,Sem.run_pure,Result.andThen_ok,List.map_toArray,List.map_cons,List.map_nil,hρ _ _ hx,hρ _ _ hy,hr]
theorem Seq.clearR {t e g off m c:Nat}{z:Value}{A:Option Addr}{cur:Array Value}(ho:o.op= .call {callee:= .builtin .clear,args:= #[x],argTypes:= #[t]}) (hx:evF F x=some (.slice A m c)) (ht:P.underlying t=some (.slice e)) (hz:∀w,(zeroValue e).run P w= .ok z w) (hz1:∀u∈z.cells.toList,u.oneCell'=true) (hzs:0<z.cells.size) (hA:0<m→A=some ⟨g,off,none⟩)
  (hb:Blk w g e cur) (hfit:off+m*z.cells.size≤cur.size) (hg:o.guard=none) (hd:o.dst=none)
  (h:∀w' cur',Blk w' g e cur'→cur'.size=cur.size→cur'.toList.take off=cur.toList.take off→w.grownBy w' (some g)→Seq P ops Q rest n F w'):Seq P ops Q (o::rest) n F w:=by
 intro a ha
 exact wpList_clear_row hg x t ho hd e z ht hz hz1 hzs g off m c A (ha.ev _ _ hx) hA cur hb hfit fun w' cur' h1 h2 h3 h4 _=>h w' cur' h1 h2 h3 h4 a ha
end
theorem addr_plain (g k:Nat):(⟨g,0,none⟩:Addr).add k=⟨g,k,none⟩:=by unfold Addr.add;split<;>simp_all
theorem ones_fcs (d:List Fl):∀u∈fcs d,u.oneCell'=true:=fun u hu=>by
 unfold fcs at hu
 rw[List.mem_flatMap] at hu
 obtain⟨f,-,hu⟩:=hu
 simp at hu
 rcases hu with rfl|rfl|rfl|rfl|rfl|rfl<;>rfl
theorem own_blk {w:World}{B n:Nat}{v:Value}{d:List Fl}(o:Own w B 81 6 v n (fcs d))(hn:0<n):∃g cap pad,v= .slice (some ⟨g,0,none⟩) n cap∧B≤g∧n≤cap∧Blk w g 81 (fcs d++pad).toArray∧d.length*6+pad.length=cap*6:=by
 obtain⟨h1,h2⟩:=o.row
 rcases h2 with ⟨-,h⟩|⟨g,cap,cur,e1,e2,e3,e4,e5,e6,e7⟩
 ·omega
 ·have hl:cur.toList.length=cap*6:=by rw[Array.length_toList];exact e6
  have hc:cur.toList=fcs d++cur.toList.drop (n*6):=by rw[←e7,List.take_append_drop]
  refine⟨g,cap,cur.toList.drop (n*6),e1,e2,e4,?_,?_⟩
  ·rw[←hc]
   exact e3
  ·have:=congrArg List.length hc
   rw[List.length_append,fcs_len] at this
   omega
theorem clone_any (c n:Nat)(A:Option Addr)(d:List Fl)(w:World)(hr:Reads w w.heap.size 6 A n (fcs d))(h0:0<n)(hn:n≤1000):Calls Tryz.prog 30 #[.slice A n c] w fun e w'=>Grow w w'∧∃v,e= .returned v∧Own w' w.heap.size 81 6 v n (fcs d):=by
 have bel:=Below.refl w.heap.size w
 obtain⟨ad,rfl,hb,hc⟩:=hr.2 h0
 refine Zs 8 Tryz.func30 ?_
 refine Zsr ?_
 refine Za ?_
 refine Zk2 0 2 (Zts (Zsr ?_))
 refine Zm ?_
 refine Zv (Runs.eqlN rfl rfl rfl Tryz.underlying36) ?_
 refine Zk3 0 2 4 (Zt ?_)
 refine Cd.condF rfl rfl ?_
 refine Cd.skip (Ztq ?_)
 refine Seq.slice (vs:=[]) (s:=6) rfl rfl rfl Tryz.underlying36 (by kernel_rfl) (zero_edit_File) (by omega) (by omega) trivial rfl rfl rfl ?_
 intro g5 w1 n5
 have e5:=Nat.le_trans bel.size n5.ge
 replace bel:=bel.step n5.below
 have k5:=n5.blk
 refine Zm ?_
 have own:Own _ w.heap.size 81 6 (.slice (some ⟨g5,0,none⟩) 0 0) 0 []:=⟨⟨by simp, .inr ⟨g5,0,#[],rfl,e5,k5,Nat.le_refl _,by simp only[maxLen];omega,by simp,by simp⟩⟩⟩
 refine Seq.append rfl rfl rfl Tryz.underlying36 (by kernel_rfl) zero_edit_File rfl (by decide) (b:=64) (by kernel_rfl) own ((hr.below bel).more bel.size) (ones_fcs d) bel.size (by simp only[maxLen];omega) (by omega) rfl rfl rfl ?_
 intro v9 wa own9 ha
 replace bel:=bel.trans ha.below
 rw[Nat.zero_add,List.nil_append] at own9
 refine Za ?_
 refine Zk3 0 2 4 (Zt (Cd.ret ?_))
 refine Ze1 ?_
 exact⟨bel,v9,rfl,own9⟩
set_option maxHeartbeats 1000000 in
theorem delete_any (g cap n i:Nat)(X Y:List Fl)(f:Fl)(pad:List Value)(w:World)(hN:n=(X++f::Y).length)(hi:i=X.length)(hcap:n≤cap)(k0:Blk w g 81 (fcs (X++f::Y)++pad).toArray)(hpad:n*6+pad.length=cap*6):
  Calls Tryz.prog 64 #[.slice (some ⟨g,0,none⟩) n cap, .int .i64 (i:Int), .int .i64 ((i+1:Nat):Int)] w fun e w'=>∃pad',e= .returned (.slice (some ⟨g,0,none⟩) (X++Y).length cap)∧Blk w' g 81 (fcs (X++Y)++pad').toArray∧(X++Y).length*6+pad'.length=cap*6∧Onl w w' g:=by
 have only:=Onl.refl w g
 have hXY:(X++Y).length+1=n:=by rw[hN];simp only[List.length_append,List.length_cons];omega
 simp only[List.length_append,List.length_cons] at hN
 refine Zs 33 Tryz.func64 ?_
 refine Zsr ?_
 refine Za ?_
 refine Zk4 0 1 2 6 (Ztq ?_)
 refine Zm ?_
 refine Zm ?_
 refine Zm ?_
 refine Zm ?_
 refine Zv (Runs.len rfl rfl Tryz.underlying36) ?_
 refine Zv (Runs.sliceLHM (s:=6) (i:=i) (j:=i+1) (m:=n) rfl rfl rfl rfl rfl Tryz.underlying36 (by kernel_rfl) rfl rfl rfl (by omega) (by omega) hcap) ?_
 refine Zk4 0 1 2 6 (Zts (Zsr ?_))
 refine Zm ?_
 refine Zm ?_
 refine Zqi ?_
 refine Zk5 0 1 2 6 16 (Zt ?_)
 refine Cd.condF rfl (decide_eq_false (by omega)) ?_
 refine Cd.skip (Ztq ?_)
 refine Zm ?_
 refine Zv (Runs.len rfl rfl Tryz.underlying36) ?_
 refine Za ?_
 refine Zk6 0 1 2 6 7 16 (Zts ?_)
 refine Zdr 6 ?_
 intro w1 hw1 zw1
 replace k0:=k0.step hw1
 replace only:=only.step hw1
 have zlt:=k0.lt
 refine Zdm ?_
 refine Zdm ?_
 refine Zd (fun w hG=>Runs.sliceN (s:=6) (j:=i) rfl rfl rfl Tryz.underlying36 (by kernel_rfl) rfl (by omega)) ?_
 refine Zdm ?_
 refine Zdm ?_
 refine Zd (fun w hG=>Runs.sliceLo (s:=6) (j:=i+1) rfl rfl rfl Tryz.underlying36 (by kernel_rfl) rfl (by omega)) ?_
 refine FinX.done (F':=[(0,_),(1,_),(2,_),(6,_),(7,_),(16,_),(22,_),(25,_)]) rfl ⟨rfl,rfl,rfl,rfl,rfl,rfl,rfl,rfl,trivial⟩ ?_
 intro w2 hw2 fw2
 replace k0:=k0.step hw2
 replace only:=only.step hw2
 have hlX:(fcs X).length=i*6:=by rw[fcs_len,hi]
 have hlY:(fcs Y).length=(n-(i+1))*6:=by rw[fcs_len];omega
 have hf6:(fcs [f]).length=6:=by rw[fcs_len];rfl
 have hcut:fcs (X++f::Y)++pad=fcs X++(fcs [f]++(fcs Y++pad)):=by
  rw[show X++f::Y=X++([f]++Y) from rfl,fcs_append,fcs_append]
  simp only[List.append_assoc]
 have hrow:∀(j:Nat) (u:Value),(fcs Y)[j]? =some u→(fcs (X++f::Y)++pad).toArray[(i+1)*6+j]? =some u:=fun j u hu=>by
  rw[List.getElem?_toArray,hcut,List.getElem?_append_right (by omega),List.getElem?_append_right (by omega),show(i+1)*6+j-(fcs X).length-(fcs [f]).length=j by omega,List.getElem?_append_left (List.getElem?_eq_some_iff.1 hu).1]
  exact hu
 refine Seq.appendRoom (size:=6) (news:=fcs Y) (m:=n-(i+1)) rfl rfl rfl Tryz.underlying36 (by kernel_rfl) k0 hlY ?_ ?_ (ones_fcs Y) (by omega) ?_ rfl rfl rfl ?_
 ·intro hA
  split at hA<;>simp at hA
 ·intro a ha j u hu
  split at ha
  ·have:(fcs Y).length=0:=by omega
   rw[List.length_eq_zero_iff.1 this] at hu
   cases hu
  ·simp at ha
   subst ha
   rw[add_of_add,addr_plain,cell_of_row _ _ _ _ _ _ k0]
   exact hrow j u hu
 ·show i*6+(fcs Y).length≤(fcs (X++f::Y)++pad).length
  rw[hcut]
  simp only[List.length_append]
  omega
 intro wz kz oz
 have only2:=only.trans ⟨oz⟩
 obtain⟨e,he⟩:∃e,e=(X++Y).length:=⟨_,rfl⟩
 have hel:e=X.length+Y.length:=by rw[he,List.length_append]
 rw[←he] at hXY⊢
 have hk:i+(n-(i+1))=e:=by omega
 obtain⟨pad1,hp1⟩:∃p,p=(fcs (X++f::Y)++pad).drop (i*6+(fcs Y).length):=⟨_,rfl⟩
 have hpl:pad1.length=pad.length+6:=by
  rw[hp1,List.length_drop,hcut]
  simp only[List.length_append]
  omega
 have k0':Blk wz g 81 (fcs (X++Y)++pad1).toArray:=by
  have ht:(fcs (X++f::Y)++pad).take (i*6)=fcs X:=by rw[hcut];exact List.take_left' hlX
  have e1:((fcs (X++f::Y)++pad).toArray.toList.take (i*6)++fcs Y++(fcs (X++f::Y)++pad).toArray.toList.drop (i*6+(fcs Y).length)).toArray=(fcs (X++Y)++pad1).toArray:=by
   congr 1
   show(fcs (X++f::Y)++pad).take (i*6)++fcs Y++(fcs (X++f::Y)++pad).drop (i*6+(fcs Y).length)=_
   rw[ht,←hp1,fcs_append]
  rw[e1] at kz
  exact kz
 clear k0 kz only
 have k0:=k0'
 have only:=only2
 clear k0' only2
 rw[hk]
 refine Za ?_
 refine Zk6 0 1 2 6 7 16 (Ztq ?_)
 refine Zm ?_
 refine Zm ?_
 refine Zv (Runs.len rfl rfl Tryz.underlying36) ?_
 refine Zm ?_
 refine Zv (Runs.sliceLH (s:=6) (i:=e) (j:=n) rfl rfl rfl rfl Tryz.underlying36 (by kernel_rfl) rfl rfl (by omega) hcap) ?_
 have hsz:(fcs (X++Y)).length=e*6:=by rw[fcs_len,he]
 refine Seq.clearR (off:=e*6) (m:=n-e) rfl rfl Tryz.underlying36 (run_zero zero_edit_File) (by intro u hu;simp[Value.cells] at hu;rcases hu with rfl|rfl|rfl|rfl|rfl|rfl<;>rfl) (by decide) (fun _=>by rw[if_neg (by omega)];simp[addr_plain]) k0 (by show e*6+(n-e)*6≤(fcs (X++Y)++pad1).length;rw[List.length_append];omega) rfl rfl ?_
 intro wc cur' kc hcs hct hcg
 have only2:=only.trans ⟨hcg⟩
 have k0':Blk wc g 81 (fcs (X++Y)++cur'.toList.drop (e*6)).toArray:=by
  have h1:cur'.toList.take (e*6)=fcs (X++Y):=by rw[hct];exact List.take_left' hsz
  rw[←h1,List.take_append_drop]
  exact kc
 have hcl:cur'.toList.length=e*6+pad1.length:=by
  rw[Array.length_toList,hcs]
  show(fcs (X++Y)++pad1).length=_
  rw[List.length_append,hsz]
 clear k0 only
 have k0:=k0'
 have only:=only2
 clear k0' only2
 refine Zk6 0 1 2 6 7 16 (Ztq ?_)
 refine Zm ?_
 refine Za ?_
 refine Zk6 0 1 2 6 7 16 (Zt (Cd.ret ?_))
 refine Ze1 ?_
 exact⟨_,rfl,k0,by rw[List.length_drop];omega,only⟩
end Go.Proofs.YtdpipgidpkmolaaGreatDoor
namespace Go.Proofs.YtdpipgidpkmolaaGreatDoor
open Go.RowKit
theorem sortG_any (g cap n:Nat)(d:List Fl)(pad:List Value)(w:World)(hN:n=d.length)(h1:n≤100000)(k0:Blk w g 81 (fcs (d)++pad).toArray):
  Calls Tryz.prog 65 #[.slice (some ⟨g,0,none⟩) n cap, .func (.func 66) #[] #[]] w fun e w'=>∃M,e= .returned (.tuple #[])∧M.Perm d∧M.Pairwise leF∧Blk w' g 81 (fcs (M)++pad).toArray∧Onl w w' g:=by
 refine Zs 9 Tryz.func65 ?_
 refine Zr ?_
 refine Zm ?_
 refine Zm ?_
 refine Zv (Runs.len rfl rfl Tryz.underlying36) ?_
 refine Zm ?_
 refine Zc (Ze Tryz.func124) (stableG_any g cap n d pad _ hN h1 k0) ?_
 rintro en w5 ⟨M,rfl,hp,hw,kz,oz⟩
 refine⟨_,rfl,?_⟩
 clear k0
 have k0:=kz
 clear kz
 refine Zk2 0 1 ?_
 refine Post.end0 rfl (.inr rfl) ?_
 exact⟨M,rfl,hp,hw,k0,oz⟩
theorem insert_none (cap:Nat)(A:Option Addr)(w:World):Calls Tryz.prog 157 #[.slice A 0 cap, .int .i64 0, .int .i64 0, .func (.func 66) #[] #[]] w fun e w'=>e= .returned (.tuple #[])∧Grow w w':=by
 have bel:=Below.refl w.heap.size w
 refine Zs 53 Tryz.func157 ?_
 refine Zsr ?_
 refine Zm ?_
 refine Za_ ?_
 refine Za ?_
 refine Zk5 0 1 2 3 8 (Zt (Cd.block ?_))
 refine Cd.loop (σ:=Unit) (fun _=>[(2, .int .i64 0),(8, .int .i64 1)]) (fun _ wr=>Below w.heap.size w wr) (fun _=>0) () bel ⟨rfl,rfl,trivial⟩ ?_
 clear bel
 rintro _ wr bel
 show Cd _ _ _ _ [(2, .int .i64 0),(8, .int .i64 1)] _
 refine Cd.seq (Zsr ?_)
 refine Zm ?_
 refine Zm ?_
 refine Zls ?_
 refine Zk3 2 8 14 (Zt ?_)
 refine Cd.cond rfl (fun h=> ?_) (fun h=> ?_)
 ·cases h
 ·skip
  refine Cd.exit (Post.then_exit (Post.round_exit (Post.block_exit ?_)))
  refine Post.end0 rfl (.inr rfl) ?_
  exact⟨rfl,bel⟩
theorem stable_none (cap:Nat)(A:Option Addr)(w:World):Calls Tryz.prog 124 #[.slice A 0 cap, .int .i64 0, .func (.func 66) #[] #[]] w fun e w'=>e= .returned (.tuple #[])∧Grow w w':=by
 have bel:=Below.refl w.heap.size w
 refine Zs 63 Tryz.func124 ?_
 refine Zsr ?_
 refine Za ?_
 refine Zk4 0 1 2 6 (Ztq ?_)
 refine Zm ?_
 refine Za ?_
 refine Za ?_
 refine Zk6 0 1 2 6 7 8 (Zts (Cd.block ?_))
 refine Cd.loop (σ:=Unit) (fun _=>[(0, .slice A 0 cap),(1, .int .i64 0),(2, .func (.func 66) #[] #[]),(6, .int .i64 20),(7, .int .i64 0),(8, .int .i64 20)]) (fun _ wr=>Below w.heap.size w wr) (fun _=>0) () bel ⟨rfl,rfl,rfl,rfl,rfl,rfl,trivial⟩ ?_
 clear bel
 rintro _ wr bel
 show Cd _ _ _ _ [(0, .slice A 0 cap),(1, .int .i64 0),(2, .func (.func 66) #[] #[]),(6, .int .i64 20),(7, .int .i64 0),(8, .int .i64 20)] _
 refine Cd.seq (Zsr ?_)
 refine Zm ?_
 refine Zm ?_
 refine Zle ?_
 refine Zk7 0 1 2 6 7 8 13 (Zt ?_)
 refine Cd.cond rfl (fun h=> ?_) (fun h=> ?_)
 ·cases h
 ·skip
  refine Cd.exit (Post.then_exit (Post.round_exit (Post.block_exit (Ztq ?_))))
  refine Zm ?_
  refine Zm ?_
  refine Zm ?_
  refine Zm ?_
  refine Zc (Ze Tryz.func157) (insert_none cap A _) ?_
  rintro en w5 ⟨rfl,hb5⟩
  refine⟨_,rfl,?_⟩
  replace bel:=bel.step hb5
  refine Zk7 0 1 2 6 7 8 13 (Zt (Cd.block ?_))
  refine Cd.loop (σ:=Unit) (fun _=>[(1, .int .i64 0),(6, .int .i64 20)]) (fun _ wr=>Below w.heap.size w wr) (fun _=>0) () bel ⟨rfl,rfl,trivial⟩ ?_
  clear bel
  rintro _ wr bel
  show Cd _ _ _ _ [(1, .int .i64 0),(6, .int .i64 20)] _
  refine Cd.seq (Zsr ?_)
  refine Zm ?_
  refine Zm ?_
  refine Zls ?_
  refine Zk3 1 6 30 (Zt ?_)
  refine Cd.cond rfl (fun h=> ?_) (fun h=> ?_)
  ·cases h
  ·skip
   refine Cd.exit (Post.then_exit (Post.round_exit (Post.block_exit ?_)))
   refine Post.end0 rfl (.inr rfl) ?_
   exact⟨rfl,bel⟩
theorem sort_none (cap:Nat)(A:Option Addr)(w:World):Calls Tryz.prog 65 #[.slice A 0 cap, .func (.func 66) #[] #[]] w fun e w'=>e= .returned (.tuple #[])∧Grow w w':=by
 have bel:=Below.refl w.heap.size w
 refine Zs 9 Tryz.func65 ?_
 refine Zr ?_
 refine Zm ?_
 refine Zm ?_
 refine Zv (Runs.len rfl rfl Tryz.underlying36) ?_
 refine Zm ?_
 refine Zc (Ze Tryz.func124) (stable_none cap A _) ?_
 rintro en w5 ⟨rfl,hb5⟩
 refine⟨_,rfl,?_⟩
 replace bel:=bel.step hb5
 refine Zk2 0 1 ?_
 refine Post.end0 rfl (.inr rfl) ?_
 exact⟨rfl,bel⟩
theorem Blk.ownF {w:World}{B g cap:Nat}{M:List Fl}{pad:List Value}(k:Blk w g 81 (fcs M++pad).toArray)(hB:B≤g)(hc:M.length≤cap)(hm:cap≤maxLen)(hp:M.length*6+pad.length=cap*6):Own w B 81 6 (.slice (some ⟨g,0,none⟩) M.length cap) M.length (fcs M):=by
 have h6:=fcs_len M
 refine⟨⟨h6, .inr ⟨g,cap,_,rfl,hB,k,hc,hm,?_,?_⟩⟩⟩
 ·rw[List.size_toArray,List.length_append]
  omega
 ·show(fcs M++pad).take (M.length*6)=fcs M
  exact List.take_left' h6
theorem Own.blkF {w:World}{B n:Nat}{v:Value}{d:List Fl}(o:Own w B 81 6 v n (fcs d))(hn:0<n):∃g cap pad,v= .slice (some ⟨g,0,none⟩) n cap∧B≤g∧n≤cap∧cap≤maxLen∧n=d.length∧Blk w g 81 (fcs d++pad).toArray∧d.length*6+pad.length=cap*6:=by
 have hl:=o.row.1
 rw[fcs_len] at hl
 obtain⟨g,cap,pad,e1,e2,e3,e4,e5⟩:=own_blk o hn
 have hm:cap≤maxLen:=by
  rcases o.row.2 with ⟨-,h⟩|⟨g',cap',cur,q1,q2,q3,q4,q5,-⟩
  ·omega
  ·rw[e1] at q1
   injection q1 with _ _ q1
   omega
 exact⟨g,cap,pad,e1,e2,e3,hm,by omega,e4,e5⟩
theorem Onl.app {w w':World}{B g n cap:Nat}{T:TypeId}{cur:Array Value}(h:Onl w w' g)(hB:B≤g)(k:Blk w g T cur):App w w' B (.slice (some ⟨g,0,none⟩) n cap):=⟨only_to_below h.row hB k.lt,h.row⟩
theorem Below.app {w w':World}{B:Nat}(v:Value)(h:Below w.heap.size w w')(hB:B≤w.heap.size):App w w' B v:=⟨h.mono hB,h.os,h.tape,h.output,h.size,fun j hj _=>h.block j hj⟩
theorem sortO_any (B:Nat)(v:Value)(d:List Fl)(w:World)(own:Own w B 81 6 v d.length (fcs d))(hBw:B≤w.heap.size)(hn:d.length≤100000):
  Calls Tryz.prog 65 #[v, .func (.func 66) #[] #[]] w fun e w'=>∃M,e= .returned (.tuple #[])∧M.Perm d∧M.Pairwise leF∧Own w' B 81 6 v M.length (fcs M)∧App w w' B v:=by
 rcases Nat.eq_zero_or_pos d.length with h0|h0
 ·obtain⟨A,c,rfl,-⟩:=own.reads
  have hd:d=[]:=List.eq_nil_of_length_eq_zero h0
  subst hd
  exact(sort_none c A w).mono fun e w' ⟨e1,hg⟩=>⟨[],e1,List.Perm.refl _,List.Pairwise.nil,own.step hg,Below.app _ hg hBw⟩
 ·obtain⟨g,cap,pad,rfl,e2,e3,e4,-,k,e5⟩:=own.blkF h0
  exact(sortG_any g cap d.length d pad w rfl hn k).mono fun e w' ⟨M,e1,hp,hw,kz,oz⟩=>by
   have hl:=hp.length_eq
   refine⟨M,e1,hp,hw,?_,oz.app e2 k⟩
   have:=kz.ownF e2 (cap:=cap) (by omega) e4 (by omega)
   rw[hl] at this
   rw[hl]
   exact this
theorem deleteO_any (B:Nat)(v:Value)(X Y:List Fl)(f:Fl)(w:World)(own:Own w B 81 6 v (X++f::Y).length (fcs (X++f::Y))):
  Calls Tryz.prog 64 #[v, .int .i64 (X.length:Int), .int .i64 ((X.length+1:Nat):Int)] w fun e w'=>∃v',e= .returned v'∧Own w' B 81 6 v' (X++Y).length (fcs (X++Y))∧App w w' B v:=by
 have hXY:(X++Y).length+1=(X++f::Y).length:=by simp only[List.length_append,List.length_cons];omega
 obtain⟨g,cap,pad,rfl,e2,e3,e4,-,k,e5⟩:=own.blkF (by omega)
 refine(delete_any g cap (X++f::Y).length X.length X Y f pad w rfl rfl e3 k e5).mono fun e w' h=> ?_
 obtain⟨pad',e1,kz,hp,oz⟩:=h
 exact⟨_,e1,kz.ownF e2 (by omega) e4 hp,oz.app e2 k⟩
theorem clone_nilC (c:Nat)(w:World):Calls Tryz.prog 30 #[.slice none 0 c] w fun e w'=>e= .returned (.slice none 0 0)∧Grow w w':=by
 have bel:=Below.refl w.heap.size w
 refine Zs 8 Tryz.func30 ?_
 refine Zsr ?_
 refine Za ?_
 refine Zk2 0 2 (Zts (Zsr ?_))
 refine Zm ?_
 refine Zv (Runs.eqlN rfl rfl rfl Tryz.underlying36) ?_
 refine Zk3 0 2 4 (Zt ?_)
 refine Cd.condT rfl rfl ?_
 refine Zsr ?_
 refine Za ?_
 refine Zk3 0 2 4 (Zt (Cd.ret (Post.then_ret ?_)))
 refine Ze1 ?_
 exact⟨rfl,bel⟩
theorem cloneO_any (c n:Nat)(A:Option Addr)(d:List Fl)(w:World)(hr:Reads w w.heap.size 6 A n (fcs d))(hn:n≤1000):Calls Tryz.prog 30 #[.slice A n c] w fun e w'=>Grow w w'∧∃v,e= .returned v∧Own w' w.heap.size 81 6 v n (fcs d):=by
 rcases Nat.eq_zero_or_pos n with h0|h0
 ·subst h0
  have hd:d=[]:=by
   have:=hr.1
   rw[fcs_len] at this
   exact List.eq_nil_of_length_eq_zero (by omega)
  subst hd
  cases A with
  |none=>exact(clone_nilC c w).mono fun e w' ⟨e1,hg⟩=>⟨hg,_,e1,Own.nil _ _ _ _⟩
  |some ad=>
   have bel:=Below.refl w.heap.size w
   refine Zs 8 Tryz.func30 ?_
   refine Zsr ?_
   refine Za ?_
   refine Zk2 0 2 (Zts (Zsr ?_))
   refine Zm ?_
   refine Zv (Runs.eqlN rfl rfl rfl Tryz.underlying36) ?_
   refine Zk3 0 2 4 (Zt ?_)
   refine Cd.condF rfl rfl ?_
   refine Cd.skip (Ztq ?_)
   refine Seq.slice (vs:=[]) (s:=6) rfl rfl rfl Tryz.underlying36 (by kernel_rfl) (zero_edit_File) (by omega) (by omega) trivial rfl rfl rfl ?_
   intro g5 w1 n5
   have e5:=Nat.le_trans bel.size n5.ge
   replace bel:=bel.step n5.below
   have k5:=n5.blk
   refine Zm ?_
   have own:Own _ w.heap.size 81 6 (.slice (some ⟨g5,0,none⟩) 0 0) 0 []:=⟨⟨by simp, .inr ⟨g5,0,#[],rfl,e5,k5,Nat.le_refl _,by simp only[maxLen];omega,by simp,by simp⟩⟩⟩
   refine Seq.append rfl rfl rfl Tryz.underlying36 (by kernel_rfl) zero_edit_File rfl (by decide) (b:=64) (by kernel_rfl) own ((hr.below bel).more bel.size) (ones_fcs []) bel.size (by simp only[maxLen];omega) (by omega) rfl rfl rfl ?_
   intro v9 wa own9 ha
   replace bel:=bel.trans ha.below
   rw[Nat.zero_add,List.nil_append] at own9
   refine Za ?_
   refine Zk3 0 2 4 (Zt (Cd.ret ?_))
   refine Ze1 ?_
   exact⟨bel,v9,rfl,own9⟩
 ·exact clone_any c n A d w hr h0 hn
end Go.Proofs.YtdpipgidpkmolaaGreatDoor
namespace Go.Proofs.YtdpipgidpkmolaaGreatDoor
open Go.ChangeShapes Go.WideShapes Go.Deep Go.RowKit
set_option maxRecDepth 100000 in
theorem open_int {W:World}{base t:Nat}{v:Value}{k:IntKind}(hu:Tryz.prog.underlying t=some (.int k))(hv:Value.okWide Tryz.prog W .any base t v):∃n,v= .int k n∧k.has n:=by
 obtain⟨n,rfl⟩:=okWide_int hu hv
 simp only[Value.okWide,hu,Cell.okWide] at hv
 exact⟨n,rfl,by simpa[Cell.ok,hu] using hv⟩
end Go.Proofs.YtdpipgidpkmolaaGreatDoor
namespace Go.Proofs.YtdpipgidpkmolaaGreatDoor
open Go.ChangeShapes Go.WideShapes Go.ChangeAt Go.Deep Go.RowKit
theorem fcs_take {fs:List Fl}{k:Nat}{f:Fl}(h:fs[k]? =some f):fcs (fs.take (k+1))=fcs (fs.take k)++f.cs.toList:=by
 unfold fcs
 rw[List.take_add_one,h,List.flatMap_append]
 simp
theorem files_any (B n cap:Nat)(A:Option Addr)(fs:List Fl)(w:World)(hr:Reads w B 6 A n (fcs fs))(hB:B≤w.heap.size)(hn:n≤101):
  Calls Tryz.prog 35 #[.slice A n cap] w fun e w'=>∃v,e= .returned v∧Grow w w'∧∃A' c,v= .slice A' n c∧Own w' w.heap.size 81 6 v n (fcs fs):=by
 have bel:=Below.refl w.heap.size w
 have hfl:=hr.fl_len
 have own:Own w w.heap.size 81 6 (.slice none 0 0) 0 []:=Own.nil _ _ _ _
 refine Zs 19 Tryz.func35 ?_
 refine Zsr ?_
 refine Za ?_
 refine Zk2 0 2 (Ztq ?_)
 refine Za ?_
 refine Zk3 0 2 3 (Zts (Zsr ?_))
 refine Za ?_
 refine Zk4 0 2 3 4 (Zt (Cd.block ?_))
 refine Cd.loop (σ:=Nat × Value) (fun s=>[(0, .slice A n cap),(3,s.2),(4, .int .i64 (s.1:Int))]) (fun s wr=>s.1≤n∧Below w.heap.size w wr∧Own wr w.heap.size 81 6 s.2 s.1 (fcs (fs.take s.1))) (fun s=>n-s.1) (0, .slice none 0 0) ⟨Nat.zero_le _,bel,own⟩ ⟨rfl,rfl,rfl,trivial⟩ ?_
 clear bel
 clear own
 rintro⟨k,v⟩ wr ⟨hk,bel,own⟩
 simp only at hk own
 show Cd _ _ _ _ [(0, .slice A n cap),(3,v),(4, .int .i64 (k:Int))] _
 refine Cd.seq (Zsr ?_)
 refine Zm ?_
 refine Zm ?_
 refine Zv (Runs.len rfl rfl Tryz.underlying32) ?_
 refine Zls ?_
 refine Zk4 0 3 4 8 (Zt ?_)
 refine Cd.condD rfl (fun hc=> ?_) (fun hc=> ?_)
 ·obtain⟨f,hf⟩:∃f,fs[k]? =some f:=⟨_,List.getElem?_eq_getElem (show k<fs.length by omega)⟩
  obtain⟨ad,rfl,hbl,hin,hc⟩:=hr.fl (bel.mono hB) hf
  have htk:=fcs_take hf
  refine Cd.skip (Zts (Cd.block (Zr ?_)))
  refine Zm ?_
  refine Zm ?_
  refine Zm ?_
  refine Zv (Runs.indexN rfl rfl rfl Tryz.underlying32 (s:=6) (by kernel_rfl) (j:=k) rfl (by omega)) ?_
  refine Zv (Runs.loadF (ps:=[.int .i64 f.num, .int .i64 f.level, .string (strOf f.first), .string (strOf f.last), .int .i64 f.count, .int .i64 f.size]) rfl rfl Tryz.underlying60 rfl (m:=6) (by kernel_rfl) rfl hc) ?_
  refine Seq.slice (vs:=[_]) (s:=6) rfl rfl rfl Tryz.underlying36 (by kernel_rfl) (zero_edit_File) (by omega) (by omega) ⟨rfl,trivial⟩ rfl rfl rfl ?_
  intro g16 w1 n16
  have e16:=Nat.le_trans bel.size n16.ge
  replace bel:=bel.step n16.below
  replace own:=own.step n16.below
  have k16:=n16.blk
  have hrd:=Reads.blk (size:=6) k16 1 rfl
  refine Seq.append rfl rfl rfl Tryz.underlying36 (by kernel_rfl) zero_edit_File rfl (by decide) (b:=64) (by kernel_rfl) own (hrd) (by intro x hx;simp[flatC,Value.cells] at hx;rcases hx with rfl|rfl|rfl|rfl|rfl|rfl<;>rfl) bel.size (by simp only[maxLen];omega) (by omega) rfl rfl rfl ?_
  clear own
  intro vw2 w2 own haw2
  replace bel:=bel.trans haw2.below
  refine Za ?_
  refine Zk4 0 3 4 8 (Post.block_normal (Ztr ?_))
  refine Zm ?_
  refine Za_ ?_
  refine Za ?_
  refine Zk4 0 3 4 8 ?_
  exact Post.round (k+1,vw2) ⟨rfl,rfl,rfl,trivial⟩ ⟨by simp only;omega,bel,by rw[htk];exact own⟩ (by simp only;omega)
 ·obtain rfl:k=n:=by omega
  rw[List.take_of_length_le (by omega)] at own
  obtain⟨A',c,rfl,-⟩:=own.reads
  refine Cd.exit (Post.then_exit (Post.round_exit (Post.block_exit (Ztq ?_))))
  refine Zm ?_
  refine Za ?_
  refine Zk5 0 2 3 4 8 (Zt (Cd.ret ?_))
  refine Ze1 ?_
  exact⟨_,rfl,bel,A',c,rfl,own⟩
def OwnF (B n:Nat)(xs:List Value)(v:Value)(w:World):Prop:=∃A c,v= .slice A n c∧Own w B 81 6 v n xs
theorem OwnF.stable {B n:Nat}{xs:List Value}:∀v w w',Grow w w'→OwnF B n xs v w→OwnF B n xs v w':=fun _ _ _ hG ⟨A,c,e,h⟩=>⟨A,c,e,h.step hG⟩
theorem zero_edit_Edit:zeroIs Tryz.prog 47=some (some (.agg #[.int .i64 0, .int .i64 0, .int .i64 0, .slice none 0 0, .slice none 0 0])):=by kernel_rfl
theorem run_build_Edit (a b c:Int)(A A':Option Addr)(m k m' k':Nat)(w:World):(Instr.build 47 #[(0, .int .i64 a),(1, .int .i64 b),(2, .int .i64 c),(3, .slice A m k),(4, .slice A' m' k')]).run Tryz.prog w= .ok (.agg #[.int .i64 a, .int .i64 b, .int .i64 c, .slice A m k, .slice A' m' k']) w:=by
 have hu:=Tryz.underlying47
 go_simp
theorem of_any (lg nx sq:Int)(B n m c c':Nat)(A A':Option Addr)(fs:List Fl)(w:World)(hr:Reads w B 6 A' m (fcs fs))(hB:B≤w.heap.size)(hn:m≤101):
  Calls Tryz.prog 12 #[.agg #[.int .i64 lg, .int .i64 nx, .int .i64 sq, .slice A n c, .slice A' m c']] w fun e w'=>Grow w w'∧∃A2 c2,e= .returned (.agg #[.int .i64 lg, .int .i64 nx, .int .i64 sq, .slice A n c, .slice A2 m c2])∧Own w' w.heap.size 81 6 (.slice A2 m c2) m (fcs fs):=by
 have bel:=Below.refl w.heap.size w
 refine Zs 15 Tryz.func12 ?_
 refine Zsr ?_
 refine Seq.box rfl rfl rfl rfl rfl ?_
 intro g1 w1 n1
 have e1:=Nat.le_trans bel.size n1.ge
 replace bel:=bel.step n1.below
 have k1:=n1.blk
 refine Zl zero_edit_Edit ?_
 intro g2 w2 n2
 have e2:=Nat.le_trans bel.size n2.ge
 have l2:=Nat.lt_of_lt_of_le k1.lt n2.ge
 replace bel:=bel.step n2.below
 replace k1:=k1.step n2.below
 have k2:=n2.blk
 refine Zk3 0 1 2 (Zts ?_)
 have hfl:=fun W (hb:Below w.heap.size w W)=>files_any B m c' A' fs W (hr.below (hb.mono hB)) (Nat.le_trans hB hb.size) hn
 refine Zdr 11 ?_
 intro w3 hw3 zw3
 replace bel:=bel.step hw3
 replace k1:=k1.step hw3
 replace k2:=k2.step hw3
 have zbel:=bel.size
 have zlt:=k2.lt
 refine Zdf 0 Tryz.underlying42 ?_
 refine ZdL Tryz.underlying3 k1 ?_
 refine Zdf 1 Tryz.underlying42 ?_
 refine ZdL Tryz.underlying3 k1 ?_
 refine Zdf 2 Tryz.underlying42 ?_
 refine ZdL Tryz.underlying3 k1 ?_
 refine Zdf 3 Tryz.underlying42 ?_
 refine ZdL Tryz.underlying40 k1 ?_
 refine Zdf 4 Tryz.underlying42 ?_
 refine ZdL Tryz.underlying32 k1 ?_
 refine Dr.call (Φ:=OwnF w.heap.size m (fcs fs)) rfl (fun w=>Ze Tryz.func35) rfl (OwnF.stable) (fun w hG=>(hfl _ (bel.step hG)).mono fun e w' ⟨v,e1,hg,A2,c2,e2,ho⟩=>⟨v,e1,hg,A2,c2,e2,⟨own_base ho.row (bel.step hG).size⟩⟩) ?_
 refine Dr.nil ?_
 refine FinX.open (j:=10) rfl ?_
 intro u10
 refine FinX.done (F':=[(0,_),(1,_),(2,_),(4,_),(6,_),(8,_),(10,_),(13,_)]) rfl ⟨rfl,rfl,rfl,rfl,rfl,rfl,rfl,rfl,trivial⟩ ?_
 intro w4 hw4 fw4
 replace bel:=bel.step hw4
 replace k1:=k1.step hw4
 replace k2:=k2.step hw4
 obtain⟨A2,c2,rfl,own⟩:=fw4.2
 refine Zv (Runs.build rfl rfl (run_build_Edit _ _ _ _ _ _ _ _ _ _)) ?_
 refine Zo 5 k2 ?_
 intro w5 pw5
 replace bel:=bel.put k2 pw5 e2
 replace k1:=k1.put pw5 (by omega)
 replace own:=own.put k2 pw5 e2
 replace k2:=pw5.blk
 refine Zk3 0 1 2 (Zt (Cd.ret ?_))
 refine Zec 5 k2 Tryz.underlying47 ?_
 exact⟨bel,A2,c2,rfl,own⟩
structure Fl.rng (f:Fl):Prop where
 num:I64 f.num
 level:I64 f.level
 count:I64 f.count
 size:I64 f.size
 first:∀d∈f.first,d<256
 last:∀d∈f.last,d<256
theorem choose_of {α:Type}(n:Nat)(p:Nat→α→Prop)(h:∀i,i<n→∃f,p i f):∃l:List α,l.length=n∧∀i f,l[i]? =some f→p i f:=by
 induction n with
 |zero=>exact⟨[],rfl,fun i f hf=>by simp at hf⟩
 |succ n ih=>
  obtain⟨l,hl,hp⟩:=ih fun i hi=>h i (by omega)
  obtain⟨x,hx⟩:=h n (by omega)
  refine⟨l++[x],by simp[hl],fun i f hf=> ?_⟩
  rcases Nat.lt_or_ge i n with hi|hi
  ·rw[List.getElem?_append_left (by omega)] at hf
   exact hp i f hf
  ·rw[List.getElem?_append_right (by omega)] at hf
   have h0:i-l.length=0:=by
    have:=(List.getElem?_eq_some_iff.1 hf).1
    simp at this
    omega
   rw[h0] at hf
   simp at hf
   subst hf
   have:i=n:=by omega
   subst this
   exact hx
theorem has64 {x:Int}(h:Lit.wf (.int .i64 x)=true):I64 x:=by
 simp only[Lit.wf,Bool.and_eq_true,decide_eq_true_eq] at h
 exact⟨h.1,h.2⟩
section
variable {H:Type} {enc:TypeId × Value→H} {P:Program} {w:World} {base:Nat} {spare:Nat→Bool} {held:Bool}
theorem open_slice_fields {t e:TypeId}{fs:Array Field}{fuel:Nat}{cs:List Value}{x:DataW H × List MemPlace}(ht:P.underlying t=some (.slice e))(he:P.underlying e=some (.struct fs))
  (hone:oneCellFields P fs=true) (hC:P.cellsOf e=fs.size) (h:DataW.trod enc P w base spare held fuel t cs=some x):
  (cs=[.slice none 0 0]∧x=(.nil,[]))∨
  ∃(a:Addr) (len cap m:Nat) (D:Nat→DataW H) (Pl:Nat→List MemPlace),cs=[.slice (some a) len cap]∧base≤a.block∧len≤cap∧cap≤maxLen∧m=(if spare a.block then cap else len)∧
   x=(.slice ((List.range len).map D) ((List.range (m-len)).map fun j=>D (len+j)),MemPlace.row a (m*fs.size)++(List.range m).flatMap Pl)∧
   ∀i,i<m→∃(ys:List (DataW H × List MemPlace)) (n:Nat),D i= .agg (ys.map (·.1))∧Pl i=ys.flatMap (·.2)∧ys.length=fs.size∧
    ∀(j:Nat) (f:Field),fs[j]? =some f→∃(v:Value) (y:DataW H × List MemPlace),w.cell? (a.add (i*fs.size+j))=some v∧ys[j]? =some y∧DataW.trod enc P w base spare held n f.type [v]=some y:=by
 rcases open_slice ht h with h0|⟨a,len,cap,m,n,D,Pl,hcs,hb,hl,hm,hmm,hx,hi⟩
 ·exact .inl h0
 ·refine .inr ⟨a,len,cap,m,D,Pl,hcs,hb,hl,hm,hmm,by rw[hC] at hx;exact hx,fun i him=> ?_⟩
  obtain⟨cs',hc,ht'⟩:=hi i him
  rw[hC] at hc
  obtain⟨ys,n',hn',hy,hlen,hyl,hf⟩:=DataW.trod_struct he ht'
  obtain⟨_,hcl,hat⟩:=World.cells?_some hc
  simp only[Prod.mk.injEq] at hy
  refine⟨ys,n',hy.1,hy.2,hyl,fun j f hj=> ?_⟩
  obtain⟨ho,hk⟩:=hone_of hone j f hj
  have hjl:j<fs.size:=(Array.getElem?_eq_some_iff.1 hj).1
  have hcell:=hat j hjl
  have hv:cs'[j]? =some (cs'[j]'(by omega)):=List.getElem?_eq_getElem (by omega)
  have h1:=hf j f hj
  rw[ho,hk] at h1
  have hone':(cs'.drop j).take 1=[cs'[j]'(by omega)]:=by
   rw[List.drop_eq_getElem_cons (by omega)]
   rfl
  rw[hone'] at h1
  have hys:ys[j]? =some (ys[j]'(by omega)):=List.getElem?_eq_getElem (by omega)
  refine⟨_,_,?_,hys,h1.trans hys⟩
  rw[←Go.Deep.add_add,hcell,hv]
end
set_option maxRecDepth 100000 in
theorem open_fls {H:Type}{enc:TypeId × Value→H}{W:World}{v:Value}{y:DataW H × List MemPlace}{m:Nat}
  (h:DataW.trod enc Tryz.prog W 0 (fun _=>true) true m 32 [v]=some y):∃A len cap fs,v= .slice A len cap∧Reads W W.heap.size 6 A len (fcs fs)∧∀f∈fs,Fl.rng f:=by
 rcases open_slice_fields Tryz.underlying32 Tryz.underlying60 (by kernel_rfl) (by kernel_rfl) h with ⟨hcs,-⟩|⟨a,len,cap,k,D,Pl,hcs,-,hlc,-,hk,-,hf⟩
 ·simp at hcs
  exact⟨none,0,0,[],hcs,Reads.none_,by simp⟩
 ·simp only[if_true] at hk
  simp at hcs
  obtain⟨fs,hl,hp⟩:=choose_of len (fun i (f:Fl)=>f.rng∧∀(j:Nat) (u:Value),f.cs.toList[j]? =some u→W.cell? (a.add (i*6+j))=some u) fun i hi=>by
   obtain⟨ys,n,-,-,hyl,hfj⟩:=hf i (by omega)
   obtain⟨v0,z0,k0,-,t0⟩:=hfj 0 _ rfl
   obtain⟨v1,z1,k1,-,t1⟩:=hfj 1 _ rfl
   obtain⟨v2,z2,k2,-,t2⟩:=hfj 2 _ rfl
   obtain⟨v3,z3,k3,-,t3⟩:=hfj 3 _ rfl
   obtain⟨v4,z4,k4,-,t4⟩:=hfj 4 _ rfl
   obtain⟨v5,z5,k5,-,t5⟩:=hfj 5 _ rfl
   obtain⟨x0,e0,-,w0⟩:=DataW.trod_int Tryz.underlying3 t0
   obtain⟨x1,e1,-,w1⟩:=DataW.trod_int Tryz.underlying3 t1
   obtain⟨x2,e2,-⟩:=DataW.trod_string Tryz.underlying9 t2
   obtain⟨x3,e3,-⟩:=DataW.trod_string Tryz.underlying9 t3
   obtain⟨x4,e4,-,w4⟩:=DataW.trod_int Tryz.underlying3 t4
   obtain⟨x5,e5,-,w5⟩:=DataW.trod_int Tryz.underlying3 t5
   simp at e0 e1 e2 e3 e4 e5
   subst e0 e1 e2 e3 e4 e5
   refine⟨⟨x0,x1,bytesOf x2,bytesOf x3,x4,x5⟩,⟨has64 w0,has64 w1,has64 w4,has64 w5,bytesOf_lt _,bytesOf_lt _⟩,fun j u hu=> ?_⟩
   simp only[Fl.cs,strOf_bytesOf] at hu
   match j,hu with
   |0,hu=>simp at hu;subst hu;exact k0
   |1,hu=>simp at hu;subst hu;exact k1
   |2,hu=>simp at hu;subst hu;exact k2
   |3,hu=>simp at hu;subst hu;exact k3
   |4,hu=>simp at hu;subst hu;exact k4
   |5,hu=>simp at hu;subst hu;exact k5
   |j+6,hu=>simp at hu
  refine⟨some a,len,cap,fs,hcs,⟨by rw[fcs_len,hl],fun hpos=>⟨a,rfl,?_,fun j u hu=> ?_⟩⟩,fun f hf=> ?_⟩
  ·obtain⟨f,hf0⟩:∃f,fs[0]? =some f:=⟨_,List.getElem?_eq_getElem (by omega)⟩
   have:=World.block_lt_of_cell? W _ ((hp 0 f hf0).2 0 _ rfl)
   rwa [block_of_add] at this
  ·have hj:j<len*6:=by have:=(List.getElem?_eq_some_iff.1 hu).1;rw[fcs_len,hl] at this;exact this
   have hi:j/6<fs.length:=by omega
   obtain⟨f,hfi⟩:∃f,fs[j/6]? =some f:=⟨_,List.getElem?_eq_getElem hi⟩
   obtain⟨x,hx⟩:∃x,f.cs.toList[j%6]? =some x:=⟨_,List.getElem?_eq_getElem (show j%6<f.cs.toList.length from Nat.mod_lt _ (by decide))⟩
   have hg:=fcs_at hfi (j%6) x hx
   rw[show j/6*6+j%6=j by omega,hu] at hg
   injection hg with hg
   subst hg
   have:=(hp (j/6) _ hfi).2 (j%6) u hx
   rwa [show j/6*6+j%6=j by omega] at this
  ·obtain⟨j,hj,rfl⟩:=List.getElem_of_mem hf
   exact(hp j _ (List.getElem?_eq_getElem hj)).1
set_option maxRecDepth 100000 in
theorem open_dis {H:Type}{enc:TypeId × Value→H}{W:World}{v:Value}{y:DataW H × List MemPlace}{m:Nat}
  (h:DataW.trod enc Tryz.prog W 0 (fun _=>true) true m 40 [v]=some y):∃A len cap l,v= .slice A len cap∧Reads W W.heap.size 1 A len (DI l)∧∀x∈l,I64 x:=by
 rcases open_slice Tryz.underlying40 h with ⟨hcs,-⟩|⟨a,len',cap',k,n,D,Pl,hcs,-,hlc,-,hk,-,hf⟩
 ·simp at hcs
  exact⟨none,0,0,[],hcs,Reads.none_,by simp⟩
 ·simp only[if_true] at hk
  simp at hcs
  have hC:Tryz.prog.cellsOf 3=1:=by kernel_rfl
  rw[hC] at hf
  obtain⟨l,hl,hp⟩:=choose_of len' (fun i (x:Int)=>I64 x∧W.cell? (a.add i)=some (.int .i64 x)) fun i hi=>by
   obtain⟨cs',hc,ht⟩:=hf i (by omega)
   obtain⟨x,rfl,-,hwf⟩:=DataW.trod_int Tryz.underlying3 ht
   obtain⟨_,_,hat⟩:=World.cells?_some hc
   have h0:=hat (i:=0) (by omega)
   refine⟨x,has64 hwf,?_⟩
   rw[add_of_add,Nat.mul_one,Nat.add_zero] at h0
   rw[h0];rfl
  refine⟨some a,len',cap',l,hcs,⟨by simp[DI,hl],fun hpos=>⟨a,rfl,?_,fun j u hu=> ?_⟩⟩,fun x hx=> ?_⟩
  ·obtain⟨x,hx⟩:∃x,l[0]? =some x:=⟨_,List.getElem?_eq_getElem (by omega)⟩
   have:=World.block_lt_of_cell? W _ (hp 0 x hx).2
   rwa [block_of_add] at this
  ·simp only[DI,List.getElem?_map] at hu
   cases hx:l[j]? with
   |none=>rw[hx] at hu;cases hu
   |some x=>
    rw[hx] at hu
    injection hu with hu
    rw[←hu]
    exact(hp j x hx).2
  ·obtain⟨j,hj,rfl⟩:=List.getElem_of_mem hx
   exact(hp j _ (List.getElem?_eq_getElem hj)).1
end Go.Proofs.YtdpipgidpkmolaaGreatDoor
namespace Go.Proofs.YtdpipgidpkmolaaGreatDoor
open Go.RowKit
theorem Own.rdsN {w:World}{B size n c:Nat}{A:Option Addr}{e:TypeId}{xs:List Value}(h:Own w B e size (.slice A n c) n xs):Reads w w.heap.size size A n xs:=by
 obtain⟨A1,c1,hv1,hr1⟩:=h.reads
 injection hv1 with e1 _ _
 subst e1
 exact hr1
structure VerV where
 lg:Int
 nx:Int
 sq:Int
 fs:List Fl
structure EdV where
 lg:Int
 nx:Int
 sq:Int
 drop:List Int
 add:List Fl
def raV (was now:Int):Int:=if now<0 then was else now
def dropF:List Fl→List Int→Option (List Fl)
 |q,[]=>some q
 |q,n::r=>if q.any (fun f=>decide (f.num=n))=true then dropF (q.eraseP (fun f=>decide (f.num=n))) r else none
def okE (V:VerV)(E:EdV):Bool:=rightB V.lg V.nx V.sq V.fs&&(laidB E.lg E.nx E.sq E.drop E.add&&(decide (E.lg<0∨V.lg≤E.lg)&&(decide (E.nx<0∨V.nx≤E.nx)&&decide (E.sq<0∨V.sq≤E.sq))))
def AppR (V:VerV)(E:EdV)(o:Option VerV):Prop:=
 (o=none∧(okE V E=false∨dropF V.fs E.drop=none∨∃rem M,dropF V.fs E.drop=some rem∧M.Perm (rem++E.add)∧M.Pairwise leF∧rightB (raV V.lg E.lg) (raV V.nx E.nx) (raV V.sq E.sq) M=false))∨
 (∃rem M,o=some ⟨raV V.lg E.lg,raV V.nx E.nx,raV V.sq E.sq,M⟩∧okE V E=true∧dropF V.fs E.drop=some rem∧M.Perm (rem++E.add)∧M.Pairwise leF∧rightB (raV V.lg E.lg) (raV V.nx E.nx) (raV V.sq E.sq) M=true)
theorem get_DI (l:List Int)(k:Nat):(DI l)[k]? =l[k]?.map fun(z:Int)=>Value.int .i64 z:=by simp[DI]
theorem apply1_any (f:Fl)(n:Int)(g99:Nat)(w:World)(k99:Blk w g99 3 #[.int .i64 n]):Calls Tryz.prog 63 #[f.v, .pointer (some ⟨g99,0,none⟩)] w fun e w'=>e= .returned (.bool (decide (f.num=n)))∧Grow w w':=by
 have bel:=Below.refl w.heap.size w
 refine Zs 8 Tryz.func63 ?_
 refine Zsr ?_
 refine Seq.box rfl rfl rfl rfl rfl ?_
 intro g2 w1 n2
 have e2:=Nat.le_trans bel.size n2.ge
 have l2:=Nat.lt_of_lt_of_le k99.lt n2.ge
 replace bel:=bel.step n2.below
 replace k99:=k99.step n2.below
 have k2:=n2.blk
 refine Za ?_
 refine Zk4 0 1 2 3 (Ztq ?_)
 refine Zf 0 Tryz.underlying81 ?_
 refine ZL Tryz.underlying3 k2 ?_
 refine ZL Tryz.underlying3 k99 ?_
 refine Zqi ?_
 refine Za ?_
 refine Zk4 0 1 2 3 (Zt (Cd.ret ?_))
 refine Ze1 ?_
 exact⟨rfl,bel⟩
theorem eg_apply1:∀args w,(callFunc 63 args).run Tryz.prog w= .ok (.enter 63 args) w:=fun args w=>run_enter Tryz.func63 (by kernel_rfl) rfl args w
theorem run_build_ver4 (a b c:Int)(A:Option Addr)(n k:Nat)(w:World):(Instr.build 38 #[(0, .int .i64 a),(1, .int .i64 b),(2, .int .i64 c),(3, .slice A n k)]).run Tryz.prog w= .ok (.agg #[.int .i64 a, .int .i64 b, .int .i64 c, .slice A n k]) w:=by kernel_rfl
theorem run_build_verZ (w:World):(Instr.build 38 #[]).run Tryz.prog w= .ok (.agg #[.int .i64 0, .int .i64 0, .int .i64 0, .slice none 0 0]) w:=by kernel_rfl
def AppO (w w':World)(V:VerV)(E:EdV)(e:Ending):Prop:=
 (AppR V E none∧e= .returned (.tuple #[.agg #[.int .i64 0, .int .i64 0, .int .i64 0, .slice none 0 0], .int .i64 1]))∨
 (∃M v,AppR V E (some ⟨raV V.lg E.lg,raV V.nx E.nx,raV V.sq E.sq,M⟩)∧e= .returned (.tuple #[.agg #[.int .i64 (raV V.lg E.lg), .int .i64 (raV V.nx E.nx), .int .i64 (raV V.sq E.sq),v], .int .i64 0])∧Own w' w.heap.size 81 6 v M.length (fcs M)∧∀f∈M,f∈V.fs∨f∈E.add)
set_option maxHeartbeats 8000000 in
theorem apply_gen (V:VerV)(E:EdV)(B c cd ca:Nat)(A A2 A3:Option Addr)(w:World)(hr:Reads w B 6 A V.fs.length (fcs V.fs))(hrd:Reads w B 1 A2 E.drop.length (DI E.drop))(hrx:Reads w B 6 A3 E.add.length (fcs E.add))(hB:B≤w.heap.size)(hok:∀f∈V.fs,f.ok)(hxok:∀f∈E.add,f.ok)(hcap:V.fs.length≤c)(h30:V.fs.length≤1000)(hd1:E.drop.length≤1000)(ha1:E.add.length≤1000):
  Calls Tryz.prog 31 #[.agg #[.int .i64 V.lg, .int .i64 V.nx, .int .i64 V.sq, .slice A V.fs.length c], .agg #[.int .i64 E.lg, .int .i64 E.nx, .int .i64 E.sq, .slice A2 E.drop.length cd, .slice A3 E.add.length ca]] w fun e w'=>Grow w w'∧AppO w w' V E e:=by
 have bel:=Below.refl w.heap.size w
 have hra:=raise_any V.lg E.lg
 have hrb:=raise_any V.nx E.nx
 have hrc:=raise_any V.sq E.sq
 have hri:=fun W (hb:Below w.heap.size w W)=>right_any V.lg V.nx V.sq B A c V.fs W (hr.below (hb.mono hB)) (Nat.le_trans hB hb.size) hok hcap
 have hla:=fun W (hb:Below w.heap.size w W)=>laid_any E.lg E.nx E.sq B A2 A3 cd ca E.drop E.add W (hrd.below (hb.mono hB)) (hrx.below (hb.mono hB)) (Nat.le_trans hB hb.size)
 refine Zs 104 Tryz.func31 ?_
 refine Zsr ?_
 refine Seq.box rfl rfl rfl rfl rfl ?_
 intro g2 w1 n2
 have e2:=Nat.le_trans bel.size n2.ge
 replace bel:=bel.step n2.below
 have k2:=n2.blk
 refine Seq.box rfl rfl rfl rfl rfl ?_
 intro g3 w2 n3
 have e3:=Nat.le_trans bel.size n3.ge
 have l3:=Nat.lt_of_lt_of_le k2.lt n3.ge
 replace bel:=bel.step n3.below
 replace k2:=k2.step n3.below
 have k3:=n3.blk
 refine Zl zero_edit_Version ?_
 intro g4 w3 n4
 have e4:=Nat.le_trans bel.size n4.ge
 have l4:=Nat.lt_of_lt_of_le k3.lt n4.ge
 have l4_k2:=Nat.lt_of_lt_of_le k2.lt n4.ge
 replace bel:=bel.step n4.below
 replace k2:=k2.step n4.below
 replace k3:=k3.step n4.below
 have k4:=n4.blk
 refine Za ?_
 refine Zk6 0 1 2 3 4 5 (Ztq ?_)
 refine Zf 0 Tryz.underlying38 ?_
 refine ZL Tryz.underlying3 k2 ?_
 refine Zf 0 Tryz.underlying47 ?_
 refine ZL Tryz.underlying3 k3 ?_
 refine Zc (Ze Tryz.func59) (hra _) ?_
 rintro en w5 ⟨rfl,hb5⟩
 refine⟨_,rfl,?_⟩
 replace bel:=bel.step hb5
 replace k2:=k2.step hb5
 replace k3:=k3.step hb5
 replace k4:=k4.step hb5
 refine Zm ?_
 refine Zx ?_
 refine Zx ?_
 refine Za ?_
 refine Za ?_
 refine Zk8 0 1 2 3 4 5 6 7 (Ztq ?_)
 refine Zf 1 Tryz.underlying38 ?_
 refine ZL Tryz.underlying3 k2 ?_
 refine Zf 1 Tryz.underlying47 ?_
 refine ZL Tryz.underlying3 k3 ?_
 refine Zc (Ze Tryz.func59) (hrb _) ?_
 rintro en w6 ⟨rfl,hb6⟩
 refine⟨_,rfl,?_⟩
 replace bel:=bel.step hb6
 replace k2:=k2.step hb6
 replace k3:=k3.step hb6
 replace k4:=k4.step hb6
 refine Zm ?_
 refine Zx ?_
 refine Zx ?_
 refine Za ?_
 refine Za ?_
 refine Zk10 0 1 2 3 4 5 6 7 8 9 (Ztq ?_)
 refine Zf 2 Tryz.underlying38 ?_
 refine ZL Tryz.underlying3 k2 ?_
 refine Zf 2 Tryz.underlying47 ?_
 refine ZL Tryz.underlying3 k3 ?_
 refine Zc (Ze Tryz.func59) (hrc _) ?_
 rintro en w7 ⟨rfl,hb7⟩
 refine⟨_,rfl,?_⟩
 replace bel:=bel.step hb7
 replace k2:=k2.step hb7
 replace k3:=k3.step hb7
 replace k4:=k4.step hb7
 refine Zm ?_
 refine Zx ?_
 refine Zx ?_
 refine Za ?_
 refine Za ?_
 refine Zk12 0 1 2 3 4 5 6 7 8 9 10 11 (Zts (Zsr ?_))
 refine ZW 4 Tryz.underlying38 k2 ?_
 refine Zc (Ze Tryz.func60) (hri _ bel) ?_
 rintro en w8 ⟨rfl,hb8⟩
 refine⟨_,rfl,?_⟩
 replace bel:=bel.step hb8
 replace k2:=k2.step hb8
 replace k3:=k3.step hb8
 replace k4:=k4.step hb8
 refine Zno ?_
 refine Zm ?_
 refine SeqC.start ?_
 refine Zco (fun hcx=>Runs.loadW rfl rfl Tryz.underlying47 rfl k3 (m:=5) (by kernel_rfl) rfl) ?_
 refine SeqC.nextC rfl rfl rfl rfl rfl rfl rfl (fun hcx=>Ze Tryz.func61) (fun hcx=>hla _ bel) ?_
 intro w4 hw4
 replace bel:=bel.step hw4
 replace k2:=k2.step hw4
 replace k3:=k3.step hw4
 replace k4:=k4.step hw4
 refine Zn (fun hcx=>Runs.not rfl rfl) ?_
 refine Zor ?_
 refine Zm ?_
 refine SeqC.start ?_
 refine Zco (fun hcx=>Runs.move rfl rfl) ?_
 refine Zn (fun hcx=>Runs.not rfl rfl) ?_
 refine Zor ?_
 refine Zm ?_
 refine SeqC.start ?_
 refine Zco (fun hcx=>Runs.move rfl rfl) ?_
 refine Zn (fun hcx=>Runs.not rfl rfl) ?_
 refine Zor ?_
 refine Zm ?_
 refine SeqC.start ?_
 refine Zco (fun hcx=>Runs.move rfl rfl) ?_
 refine Zn (fun hcx=>Runs.not rfl rfl) ?_
 refine Zor ?_
 refine Zk13 0 1 2 3 4 5 6 7 8 9 10 11 59 (Zt ?_)
 refine Cd.cond rfl (fun h=> ?_) (fun h=> ?_)
 ·have hoke:okE V E=false:=by
   have h':(!rightB V.lg V.nx V.sq V.fs|| !laidB E.lg E.nx E.sq E.drop E.add|| !decide (E.lg<0∨V.lg≤E.lg)|| !decide (E.nx<0∨V.nx≤E.nx)|| !decide (E.sq<0∨V.sq≤E.sq))=true:=h
   unfold okE
   cases q1:rightB V.lg V.nx V.sq V.fs<;>cases q2:laidB E.lg E.nx E.sq E.drop E.add<;>cases q3:decide (E.lg<0∨V.lg≤E.lg)<;>cases q4:decide (E.nx<0∨V.nx≤E.nx)<;>cases q5:decide (E.sq<0∨V.sq≤E.sq)<;>rw[q1,q2,q3,q4,q5] at h'<;>first|rfl|cases h'
  refine Zsr ?_
  refine Zv (Runs.build rfl rfl (run_build_verZ _)) ?_
  refine Zo 4 k4 ?_
  intro w5 pw5
  replace bel:=bel.put k4 pw5 e4
  replace k2:=k2.put pw5 (by omega)
  replace k3:=k3.put pw5 (by omega)
  replace k4:=pw5.blk
  refine Za ?_
  refine Zk13 0 1 2 3 4 5 6 7 8 9 10 11 59 (Zt (Cd.ret (Post.then_ret ?_)))
  refine Post.endC2 rfl rfl rfl k4 Tryz.underlying38 rfl (m:=4) (by kernel_rfl) rfl (.inl rfl) ?_
  exact⟨bel, .inl ⟨.inl ⟨rfl, .inl hoke⟩,rfl⟩⟩
 have hoke:okE V E=true:=by
  have h':(!rightB V.lg V.nx V.sq V.fs|| !laidB E.lg E.nx E.sq E.drop E.add|| !decide (E.lg<0∨V.lg≤E.lg)|| !decide (E.nx<0∨V.nx≤E.nx)|| !decide (E.sq<0∨V.sq≤E.sq))=false:=h
  unfold okE
  cases q1:rightB V.lg V.nx V.sq V.fs<;>cases q2:laidB E.lg E.nx E.sq E.drop E.add<;>cases q3:decide (E.lg<0∨V.lg≤E.lg)<;>cases q4:decide (E.nx<0∨V.nx≤E.nx)<;>cases q5:decide (E.sq<0∨V.sq≤E.sq)<;>rw[q1,q2,q3,q4,q5] at h'<;>first|rfl|cases h'
 obtain⟨dl,hdl⟩:∃n,n=E.drop.length:=⟨_,rfl⟩
 obtain⟨al,hal⟩:∃n,n=E.add.length:=⟨_,rfl⟩
 rw[←hdl] at hrd hd1 k3
 rw[←hal] at hrx ha1 k3
 refine Cd.skip (Ztq ?_)
 refine Zm ?_
 refine Zm ?_
 refine Zm ?_
 refine Zf 3 Tryz.underlying38 ?_
 refine ZL Tryz.underlying36 k2 ?_
 have l2:=k2.lt
 have l3:=k3.lt
 have l4:=k4.lt
 have hbs0:=bel.size
 refine Zc (Ze Tryz.func30) (cloneO_any c V.fs.length A V.fs _ ((hr.below (bel.mono hB)).more (Nat.le_trans hB bel.size)) (by omega)) ?_
 rintro en w9 ⟨hb9,v,rfl,own⟩
 refine⟨_,rfl,?_⟩
 replace own:=own.mono hbs0
 replace bel:=bel.step hb9
 replace k2:=k2.step hb9
 replace k3:=k3.step hb9
 replace k4:=k4.step hb9
 obtain⟨A9,c9,rfl,-⟩:=own.reads
 refine Zv (Runs.build rfl rfl (run_build_ver4 _ _ _ _ _ _ _)) ?_
 refine Zl zero_edit_Version ?_
 intro g12 w5 n12
 have e12:=Nat.le_trans bel.size n12.ge
 have l12:=Nat.lt_of_lt_of_le k4.lt n12.ge
 have l12_k2:=Nat.lt_of_lt_of_le k2.lt n12.ge
 have l12_k3:=Nat.lt_of_lt_of_le k3.lt n12.ge
 replace bel:=bel.step n12.below
 replace k2:=k2.step n12.below
 replace k3:=k3.step n12.below
 replace k4:=k4.step n12.below
 replace own:=own.step n12.below
 have k12:=n12.blk
 refine Zo 4 k12 ?_
 intro w6 pw6
 replace bel:=bel.put k12 pw6 e12
 replace k2:=k2.put pw6 (by omega)
 replace k3:=k3.put pw6 (by omega)
 replace k4:=k4.put pw6 (by omega)
 replace own:=own.put k12 pw6 e12
 replace k12:=pw6.blk
 refine Zk14 0 1 2 3 4 5 6 7 8 9 10 11 12 59 (Zts (Zsr ?_))
 refine Zf 3 Tryz.underlying47 ?_
 refine ZL Tryz.underlying40 k3 ?_
 refine Zv (Runs.len rfl rfl Tryz.underlying40) ?_
 refine Zm ?_
 refine Zk17 0 1 2 3 4 5 6 7 8 9 10 11 12 59 69 70 71 (Zt (Cd.block ?_))
 replace k12:Blk _ g12 38 #[.int .i64 (raV V.lg E.lg), .int .i64 (raV V.nx E.nx), .int .i64 (raV V.sq E.sq), .slice A9 V.fs.length c9]:=k12
 have hq0:dropF V.fs (E.drop.drop 0)=dropF V.fs E.drop:=by rw[List.drop_zero]
 refine Cd.loop (σ:=Nat × List Fl × Value) (fun s=>[(3, .pointer (some ⟨g3,0,none⟩)),(4, .pointer (some ⟨g4,0,none⟩)),(12, .pointer (some ⟨g12,0,none⟩)),(69, .slice A2 dl cd),(70, .int .i64 (dl:Int)),(71, .int .i64 (s.1:Int))])
  (fun s wr=>s.1≤dl∧dropF s.2.1 (E.drop.drop s.1)=dropF V.fs E.drop∧(∀f∈s.2.1,f∈V.fs)∧s.2.1.length≤1000∧Below w.heap.size w wr∧Blk wr g3 47 #[.int .i64 E.lg, .int .i64 E.nx, .int .i64 E.sq, .slice A2 dl cd, .slice A3 al ca]∧Blk wr g4 38 #[.int .i64 0, .int .i64 0, .int .i64 0, .slice none 0 0]∧Blk wr g12 38 #[.int .i64 (raV V.lg E.lg), .int .i64 (raV V.nx E.nx), .int .i64 (raV V.sq E.sq),s.2.2]∧Own wr w.heap.size 81 6 s.2.2 s.2.1.length (fcs s.2.1)) (fun s=>dl-s.1) (0,V.fs, .slice A9 V.fs.length c9) ⟨Nat.zero_le _,hq0,fun f h=>h,h30,bel,k3,k4,k12,own⟩ ⟨rfl,rfl,rfl,rfl,rfl,rfl,trivial⟩ ?_
 clear bel k2 k3 k4 own k12
 rintro⟨k,q,v⟩ wr ⟨hk,hdq,hqs,hql,bel,k3,k4,k12,own⟩
 simp only at hk hdq hqs hql k12 own
 obtain⟨Aq,cq,rfl,-⟩:=own.reads
 have hnsz:=bel.size
 show Cd _ _ _ _ [(3, .pointer (some ⟨g3,0,none⟩)),(4, .pointer (some ⟨g4,0,none⟩)),(12, .pointer (some ⟨g12,0,none⟩)),(69, .slice A2 dl cd),(70, .int .i64 (dl:Int)),(71, .int .i64 (k:Int))] _
 refine Zsr ?_
 refine Zls ?_
 refine Zk7 3 4 12 69 70 71 72 (Zts ?_)
 refine Cd.condD rfl (fun hc=> ?_) (fun hc=> ?_)
 ·obtain⟨n,hn⟩:∃n,E.drop[k]? =some n:=⟨_,List.getElem?_eq_getElem (show k<E.drop.length by omega)⟩
  rw[drop_head hn,dropF] at hdq
  obtain⟨adD,rfl,hbD,hcD⟩:=hrd.2 (by omega)
  have hcd:=((bel.mono hB).cell (p:=adD.add k) (by rw[block_of_add];exact hbD)).trans (hcD k (.int .i64 n) (by rw[get_DI,hn];rfl))
  refine Cd.skip (Zts (Cd.block (Zsr ?_)))
  refine Zv (Runs.index1 rfl rfl rfl Tryz.underlying40 (by kernel_rfl) (j:=k) rfl (by omega)) ?_
  refine Zv (Runs.load1 rfl rfl Tryz.underlying3 rfl hcd) ?_
  refine Zl zero_int ?_
  intro g14 w7 n14
  have e14:=Nat.le_trans bel.size n14.ge
  have l14:=Nat.lt_of_lt_of_le k12.lt n14.ge
  have l14_k3:=Nat.lt_of_lt_of_le k3.lt n14.ge
  have l14_k4:=Nat.lt_of_lt_of_le k4.lt n14.ge
  replace bel:=bel.step n14.below
  replace k3:=k3.step n14.below
  replace k4:=k4.step n14.below
  replace own:=own.step n14.below
  replace k12:=k12.step n14.below
  have k14:=n14.blk
  refine Zq k14 ?_
  intro w8 pw8
  replace bel:=bel.put k14 pw8 e14
  replace k3:=k3.put pw8 (by omega)
  replace k4:=k4.put pw8 (by omega)
  replace own:=own.put k14 pw8 e14
  replace k12:=k12.put pw8 (by omega)
  replace k14:=pw8.blk
  refine Zk8 3 4 12 14 69 70 71 72 (Ztq ?_)
  refine Zf 3 Tryz.underlying38 ?_
  refine ZL Tryz.underlying36 k12 ?_
  replace k14:Blk _ g14 3 #[.int .i64 n]:=k14
  have hrq:Reads _ _ 6 Aq q.length (fcs q):=own.rdsN
  refine Zv (Runs.makeFunc (v:= .func (.func 63) #[] #[.pointer (some ⟨g14,0,none⟩)]) rfl (show evL _ _=some [] from rfl) (show evL _ _=some [.pointer (some ⟨g14,0,none⟩)] from rfl) rfl) ?_
  refine Zc (Ze Tryz.func62) (indexF_any 63 [.pointer (some ⟨g14,0,none⟩)] (fun f=>decide (f.num=n)) _ Aq q.length cq q _ hrq (Nat.le_refl _) (by omega) eg_apply1 (fun f hf W hb=>apply1_any f n g14 W (k14.step hb))) ?_
  rintro en w10 ⟨rfl,hb10⟩
  refine⟨_,rfl,?_⟩
  replace bel:=bel.step hb10
  replace k3:=k3.step hb10
  replace k4:=k4.step hb10
  replace own:=own.step hb10
  replace k12:=k12.step hb10
  replace k14:=k14.step hb10
  by_cases hany:q.any (fun f=>decide (f.num=n))=true
  ·rw[if_pos hany] at hdq
   obtain⟨f0,hf0,hf1⟩:=List.any_eq_true.1 hany
   obtain⟨f,X,Y,hX,hf,hq,her⟩:=List.exists_of_eraseP (p:=fun f:Fl=>decide (f.num=n)) hf0 hf1
   rw[her] at hdq
   have hXq:X.length<q.length:=by rw[hq];simp only[List.length_append,List.length_cons];omega
   have hidx:idxP (fun f:Fl=>decide (f.num=n)) q=(X.length:Int):=by
    refine idxP_some (x:=f) (by rw[hq];exact get_mid X f Y) hf fun y hy=> ?_
    rw[hq,List.take_left] at hy
    simpa using hX y hy
   rw[hidx]
   refine Za ?_
   refine Zk9 3 4 12 14 15 69 70 71 72 (Zts (Zsr ?_))
   refine Zm ?_
   refine Zls ?_
   refine Zk10 3 4 12 14 15 69 70 71 72 80 (Zt ?_)
   refine Cd.condF rfl (decide_eq_false (by omega)) ?_
   refine Cd.skip (Ztr ?_)
   refine Zf 3 Tryz.underlying38 ?_
   refine ZL Tryz.underlying36 k12 ?_
   refine Zm ?_
   refine Zm ?_
   refine Za_ ?_
   have hXY:(X++Y).length+1=q.length:=by rw[hq];simp only[List.length_append,List.length_cons];omega
   have own7:=own
   rw[hq] at own7
   rw[show(X.length:Int)+1=((X.length+1:Nat):Int) by omega]
   rw[hq]
   refine Zc (Ze Tryz.func64) (deleteO_any w.heap.size _ X Y f _ own7) ?_
   rintro en w11 ⟨v',rfl,own8,ha⟩
   refine⟨_,rfl,?_⟩
   replace bel:=bel.trans ha.below
   replace k3:=k3.appNe own7 ha
   replace k4:=k4.appNe own7 ha
   replace k12:=k12.appNe own7 ha
   clear own own7 k14
   have own:=own8
   clear own8
   obtain⟨A8,c8,rfl,-⟩:=own.reads
   refine Zf 3 Tryz.underlying38 ?_
   refine Zq k12 ?_
   intro w9 pw9
   replace bel:=bel.put k12 pw9 e12
   replace k3:=k3.put pw9 (by omega)
   replace k4:=k4.put pw9 (by omega)
   replace own:=own.put k12 pw9 e12
   replace k12:=pw9.blk
   refine Zk10 3 4 12 14 15 69 70 71 72 80 (Post.block_normal (Ztr ?_))
   refine Za_ ?_
   refine Zm ?_
   refine Zk10 3 4 12 14 15 69 70 71 72 80 ?_
   replace k12:Blk _ g12 38 #[.int .i64 (raV V.lg E.lg), .int .i64 (raV V.nx E.nx), .int .i64 (raV V.sq E.sq), .slice A8 (X++Y).length c8]:=k12
   exact Post.round (k+1,X++Y, .slice A8 (X++Y).length c8) ⟨rfl,rfl,rfl,rfl,rfl,int_at (by simp only;omega),trivial⟩ ⟨by simp only;omega,hdq,fun y hy=>hqs y (by rw[hq];rcases List.mem_append.1 hy with h|h;exact List.mem_append_left _ h;exact List.mem_append_right _ (List.mem_cons_of_mem _ h)),by simp only;omega,bel,k3,k4,k12,own⟩ (by simp only;omega)
  ·rw[if_neg hany] at hdq
   have hidx:idxP (fun f:Fl=>decide (f.num=n)) q= -1:=idxP_none fun y hy=>by
    cases e:decide (y.num=n) with
    |false=>rfl
    |true=>exact absurd (List.any_eq_true.2 ⟨y,hy,e⟩) hany
   rw[hidx]
   refine Za ?_
   refine Zk9 3 4 12 14 15 69 70 71 72 (Zts (Zsr ?_))
   refine Zm ?_
   refine Zls ?_
   refine Zk10 3 4 12 14 15 69 70 71 72 80 (Zt ?_)
   refine Cd.condT rfl rfl ?_
   refine Zsr ?_
   refine Zv (Runs.build rfl rfl (run_build_verZ _)) ?_
   refine Zo 4 k4 ?_
   intro w9 pw9
   replace bel:=bel.put k4 pw9 e4
   replace k3:=k3.put pw9 (by omega)
   replace own:=own.put k4 pw9 e4
   replace k12:=k12.put pw9 (by omega)
   replace k14:=k14.put pw9 (by omega)
   replace k4:=pw9.blk
   refine Za ?_
   refine Zk11 3 4 5 12 14 15 69 70 71 72 80 (Zt (Cd.ret (Post.then_ret (Post.block_ret (Post.then_ret (Post.round_ret (Post.block_ret (Post.then_ret ?_))))))))
   refine Post.endC2 rfl rfl rfl k4 Tryz.underlying38 rfl (m:=4) (by kernel_rfl) rfl (.inl rfl) ?_
   exact⟨bel, .inl ⟨.inl ⟨rfl, .inr (.inl hdq.symm)⟩,rfl⟩⟩
 ·obtain rfl:k=dl:=by omega
  rw[List.drop_of_length_le (by omega),dropF] at hdq
  refine Cd.exit (Post.then_exit (Post.round_exit (Post.block_exit (Ztq ?_))))
  refine Zf 3 Tryz.underlying38 ?_
  refine ZL Tryz.underlying36 k12 ?_
  refine Zf 4 Tryz.underlying47 ?_
  refine ZL Tryz.underlying36 k3 ?_
  refine Seq.append rfl rfl rfl Tryz.underlying36 (by kernel_rfl) zero_edit_File rfl (by decide) (b:=64) (by kernel_rfl) own (hrx.below (bel.mono hB)) (ones_fcs E.add) hnsz (by simp only[maxLen];omega) (by omega) rfl rfl rfl ?_
  intro v2 wz own2 ha
  have bel2:=bel.trans ha.below
  replace k3:=k3.appNe own ha
  replace k4:=k4.appNe own ha
  replace k12:=k12.appNe own ha
  clear bel own
  have bel:=bel2
  have own:Own wz w.heap.size 81 6 v2 (q++E.add).length (fcs (q++E.add)):=by rw[fcs_append,List.length_append,←hal];exact own2
  clear bel2 own2
  obtain⟨A7,c7,rfl,-⟩:=own.reads
  have hsz7:=bel.size
  have hql2:(q++E.add).length≤2000:=by rw[List.length_append];omega
  refine Zf 3 Tryz.underlying38 ?_
  refine Zq k12 ?_
  intro w7 pw7
  replace bel:=bel.put k12 pw7 e12
  replace k3:=k3.put pw7 (by omega)
  replace k4:=k4.put pw7 (by omega)
  replace own:=own.put k12 pw7 e12
  replace k12:=pw7.blk
  refine Zk7 3 4 12 69 70 71 72 (Ztq ?_)
  refine Zf 3 Tryz.underlying38 ?_
  refine ZL Tryz.underlying36 k12 ?_
  replace k12:Blk _ g12 38 #[.int .i64 (raV V.lg E.lg), .int .i64 (raV V.nx E.nx), .int .i64 (raV V.sq E.sq), .slice A7 (q++E.add).length c7]:=k12
  have hsz8:=bel.size
  refine Zc (Ze Tryz.func65) (sortO_any w.heap.size _ (q++E.add) _ own hsz8 (by omega)) ?_
  rintro en w12 ⟨M,rfl,hMp,hMs,own8,ha8⟩
  refine⟨_,rfl,?_⟩
  replace bel:=bel.trans ha8.below
  replace k3:=k3.appNe own ha8
  replace k4:=k4.appNe own ha8
  replace k12:=k12.appNe own ha8
  clear own
  have own:=own8
  clear own8
  have hMl:M.length=(q++E.add).length:=hMp.length_eq
  have hMm:∀f∈M,f∈V.fs∨f∈E.add:=fun f hf=>by
   rcases List.mem_append.1 (hMp.subset hf) with h|h
   ·exact .inl (hqs f h)
   ·exact .inr h
  have hMok:∀f∈M,f.ok:=fun f hf=>(hMm f hf).elim (hok f) (hxok f)
  rw[←hMl] at k12 own⊢
  refine Zk7 3 4 12 69 70 71 72 (Zts (Zsr ?_))
  refine ZW 4 Tryz.underlying38 k12 ?_
  have hcap7:=own.cap
  refine Zc (Ze Tryz.func60) (right_any (raV V.lg E.lg) (raV V.nx E.nx) (raV V.sq E.sq) _ A7 c7 M _ own.rdsN (Nat.le_refl _) hMok hcap7) ?_
  rintro en w13 ⟨rfl,hb13⟩
  refine⟨_,rfl,?_⟩
  replace bel:=bel.step hb13
  replace k3:=k3.step hb13
  replace k4:=k4.step hb13
  replace own:=own.step hb13
  replace k12:=k12.step hb13
  cases hR:rightB (raV V.lg E.lg) (raV V.nx E.nx) (raV V.sq E.sq) M with
  |false=>
   refine Zno ?_
   refine Zk8 3 4 12 69 70 71 72 101 (Zt ?_)
   refine Cd.condT rfl rfl ?_
   refine Zsr ?_
   refine Zv (Runs.build rfl rfl (run_build_verZ _)) ?_
   refine Zo 4 k4 ?_
   intro w8 pw8
   replace bel:=bel.put k4 pw8 e4
   replace k3:=k3.put pw8 (by omega)
   replace own:=own.put k4 pw8 e4
   replace k12:=k12.put pw8 (by omega)
   replace k4:=pw8.blk
   refine Za ?_
   refine Zk9 3 4 5 12 69 70 71 72 101 (Zt (Cd.ret (Post.then_ret ?_)))
   refine Post.endC2 rfl rfl rfl k4 Tryz.underlying38 rfl (m:=4) (by kernel_rfl) rfl (.inl rfl) ?_
   exact⟨bel, .inl ⟨.inl ⟨rfl, .inr (.inr ⟨q,M,hdq.symm,hMp,hMs,hR⟩)⟩,rfl⟩⟩
  |true=>
   refine Zno ?_
   refine Zk8 3 4 12 69 70 71 72 101 (Zt ?_)
   refine Cd.condF rfl rfl ?_
   refine Cd.skip (Ztq ?_)
   refine ZW 4 Tryz.underlying38 k12 ?_
   refine Zo 4 k4 ?_
   intro w8 pw8
   replace bel:=bel.put k4 pw8 e4
   replace k3:=k3.put pw8 (by omega)
   replace own:=own.put k4 pw8 e4
   replace k12:=k12.put pw8 (by omega)
   replace k4:=pw8.blk
   refine Za ?_
   refine Zk9 3 4 5 12 69 70 71 72 101 (Zt (Cd.ret ?_))
   refine Post.endC2 rfl rfl rfl k4 Tryz.underlying38 rfl (m:=4) (by kernel_rfl) rfl (.inl rfl) ?_
   exact⟨bel, .inr ⟨M,_, .inr ⟨q,M,rfl,hoke,hdq.symm,hMp,hMs,hR⟩,rfl,own,hMm⟩⟩
end Go.Proofs.YtdpipgidpkmolaaGreatDoor
namespace Go.Proofs.YtdpipgidpkmolaaGreatDoor
open Go.RowKit
def FsO (B n:Nat)(l:List Fl)(v:Value)(w:World):Prop:=Own w B 81 6 v n (fcs l)
theorem FsO.stable {B n:Nat}{l:List Fl}:∀v w w',Grow w w'→FsO B n l v w→FsO B n l v w':=fun _ _ _ hG h=>h.step hG
theorem version_any (gm n c B:Nat)(A:Option Addr)(fs:List Fl)(p c1 c2 c8:Value)(lg nx sq next:Int)(w:World)(k0:Blk w gm 70 #[p,c1,c2, .int .i64 lg, .int .i64 nx, .int .i64 sq, .slice A n c, .int .i64 next,c8]) (own:Own w B 81 6 (.slice A n c) n (fcs fs)) (hn:n≤1000):
  Calls Tryz.prog 10 #[.pointer (some ⟨gm,0,none⟩)] w fun e w'=>Grow w w'∧∃v,e= .returned (.agg #[.int .i64 lg, .int .i64 next, .int .i64 sq,v])∧Own w' w.heap.size 81 6 v n (fcs fs):=by
 have bel:=Below.refl w.heap.size w
 have hrd:=own.rdsN
 refine Zs 21 Tryz.func10 ?_
 refine Zsr ?_
 refine Zl zero_edit_Version ?_
 intro g2 w1 n2
 have e2:=Nat.le_trans bel.size n2.ge
 have l2:=Nat.lt_of_lt_of_le k0.lt n2.ge
 replace bel:=bel.step n2.below
 replace k0:=k0.step n2.below
 have k2:=n2.blk
 refine Zk2 0 2 (Zts (Zsr ?_))
 refine Zm ?_
 refine Zv (Runs.eqlP rfl rfl rfl Tryz.underlying28) ?_
 refine Zk3 0 2 5 (Zt ?_)
 refine Cd.condF rfl rfl ?_
 refine Cd.skip (Ztq ?_)
 refine Zm ?_
 refine Zv (Runs.nilCheck rfl rfl) ?_
 refine Zf 3 Tryz.underlying70 ?_
 refine Zv (Runs.loadF (ps:=[.int .i64 lg, .int .i64 nx, .int .i64 sq, .slice A n c]) rfl rfl Tryz.underlying38 rfl (m:=4) (by kernel_rfl) rfl (k0.sub sub_four)) ?_
 refine Zl zero_edit_Version ?_
 intro g3 w2 n3
 have e3:=Nat.le_trans bel.size n3.ge
 have l3:=Nat.lt_of_lt_of_le k2.lt n3.ge
 have l3_k0:=Nat.lt_of_lt_of_le k0.lt n3.ge
 replace bel:=bel.step n3.below
 replace k0:=k0.step n3.below
 replace k2:=k2.step n3.below
 have k3:=n3.blk
 refine Zo 4 k3 ?_
 intro w3 pw3
 replace bel:=bel.put k3 pw3 e3
 replace k0:=k0.put pw3 (by omega)
 replace k2:=k2.put pw3 (by omega)
 replace k3:=pw3.blk
 refine Zk4 0 2 3 5 (Ztq ?_)
 refine Zm ?_
 refine Zv (Runs.nilCheck rfl rfl) ?_
 refine Zf 7 Tryz.underlying70 ?_
 refine ZL Tryz.underlying3 k0 ?_
 refine Zf 1 Tryz.underlying38 ?_
 refine Zq k3 ?_
 intro w4 pw4
 replace bel:=bel.put k3 pw4 e3
 replace k0:=k0.put pw4 (by omega)
 replace k2:=k2.put pw4 (by omega)
 replace k3:=pw4.blk
 refine Zk4 0 2 3 5 (Ztq ?_)
 refine Zf 3 Tryz.underlying38 ?_
 refine ZL Tryz.underlying36 k3 ?_
 have hb0:=bel.size
 refine Zc (Ze Tryz.func30) (cloneO_any c n A fs _ ((hrd.below bel).more hb0) hn) ?_
 rintro e w7 ⟨hb7,v,rfl,own7⟩
 refine⟨_,rfl,?_⟩
 replace bel:=bel.step hb7
 replace k0:=k0.step hb7
 replace k2:=k2.step hb7
 replace k3:=k3.step hb7
 replace own7:=own7.mono hb0
 obtain⟨A9,c9,rfl,-⟩:=own7.reads
 refine Zf 3 Tryz.underlying38 ?_
 refine Zq k3 ?_
 intro w5 pw5
 replace bel:=bel.put k3 pw5 e3
 replace k0:=k0.put pw5 (by omega)
 replace k2:=k2.put pw5 (by omega)
 replace own7:=own7.put k3 pw5 e3
 replace k3:=pw5.blk
 refine Zk4 0 2 3 5 (Ztq ?_)
 refine ZW 4 Tryz.underlying38 k3 ?_
 refine Zo 4 k2 ?_
 intro w6 pw6
 replace bel:=bel.put k2 pw6 e2
 replace k0:=k0.put pw6 (by omega)
 replace k3:=k3.put pw6 (by omega)
 replace own7:=own7.put k2 pw6 e2
 replace k2:=pw6.blk
 refine Zk4 0 2 3 5 (Zt (Cd.ret ?_))
 refine Zec 4 k2 Tryz.underlying38 ?_
 exact⟨bel,_,rfl,own7⟩
theorem run_build_edW (a b c:Int)(A:Option Addr)(n k:Nat)(w:World):(Instr.build 47 #[(0, .int .i64 a),(1, .int .i64 b),(2, .int .i64 c),(4, .slice A n k)]).run Tryz.prog w= .ok (.agg #[.int .i64 a, .int .i64 b, .int .i64 c, .slice none 0 0, .slice A n k]) w:=by
 have hu:=Tryz.underlying47
 go_simp
theorem whole_any (n c:Nat)(A:Option Addr)(fs:List Fl)(lg nx sq:Int)(w:World)(hr:Reads w w.heap.size 6 A n (fcs fs))(hn:n≤1000):
  Calls Tryz.prog 36 #[.agg #[.int .i64 lg, .int .i64 nx, .int .i64 sq, .slice A n c]] w fun e w'=>Grow w w'∧∃v,e= .returned (.agg #[.int .i64 lg, .int .i64 nx, .int .i64 sq, .slice none 0 0,v])∧Own w' w.heap.size 81 6 v n (fcs fs):=by
 have bel:=Below.refl w.heap.size w
 have hcl:∀W,Below w.heap.size w W→Calls Tryz.prog 30 #[.slice A n c] W fun e w'=>∃v,e= .returned v∧Grow W w'∧FsO w.heap.size n fs v w':=fun W hb=>(cloneO_any c n A fs W ((hr.below hb).more hb.size) hn).mono fun e w' ⟨h1,v,h2,h3⟩=>⟨v,h2,h1,h3.mono hb.size⟩
 refine Zs 13 Tryz.func36 ?_
 refine Zsr ?_
 refine Seq.box rfl rfl rfl rfl rfl ?_
 intro g1 w1 n1
 have e1:=Nat.le_trans bel.size n1.ge
 replace bel:=bel.step n1.below
 have k1:=n1.blk
 refine Zl zero_edit_Edit ?_
 intro g2 w2 n2
 have e2:=Nat.le_trans bel.size n2.ge
 have l2:=Nat.lt_of_lt_of_le k1.lt n2.ge
 replace bel:=bel.step n2.below
 replace k1:=k1.step n2.below
 have k2:=n2.blk
 refine Zk3 0 1 2 (Zts ?_)
 refine Zdr 9 ?_
 intro w3 hw3 zw3
 replace bel:=bel.step hw3
 replace k1:=k1.step hw3
 replace k2:=k2.step hw3
 have zbel:=bel.size
 have zlt:=k2.lt
 refine Zdf 0 Tryz.underlying38 ?_
 refine ZdL Tryz.underlying3 k1 ?_
 refine Zdf 1 Tryz.underlying38 ?_
 refine ZdL Tryz.underlying3 k1 ?_
 refine Zdf 2 Tryz.underlying38 ?_
 refine ZdL Tryz.underlying3 k1 ?_
 refine Zdf 3 Tryz.underlying38 ?_
 refine ZdL Tryz.underlying36 k1 ?_
 refine Dr.call (Φ:=FsO w.heap.size n fs) rfl (fun w=>Ze Tryz.func30) rfl (FsO.stable) (fun w hG=>hcl w (bel.step hG)) ?_
 refine FinX.open (j:=8) rfl ?_
 intro u8
 refine FinX.done (F':=[(0,_),(1,_),(2,_),(4,_),(6,_),(8,_),(11,_)]) rfl ⟨rfl,rfl,rfl,rfl,rfl,rfl,rfl,trivial⟩ ?_
 intro w4 hw4 fw4
 replace bel:=bel.step hw4
 replace k1:=k1.step hw4
 replace k2:=k2.step hw4
 have own8:Own w4 w.heap.size 81 6 u8 n (fcs fs):=fw4.2
 obtain⟨A9,c9,rfl,-⟩:=Own.reads own8
 refine Zv (Runs.build rfl rfl (run_build_edW _ _ _ _ _ _ _)) ?_
 refine Zo 5 k2 ?_
 intro w5 pw5
 replace bel:=bel.put k2 pw5 e2
 replace k1:=k1.put pw5 (by omega)
 replace own8:=own8.put k2 pw5 e2
 replace k2:=pw5.blk
 refine Zk3 0 1 2 (Zt (Cd.ret ?_))
 refine Zec 5 k2 Tryz.underlying47 ?_
 exact⟨bel,_,rfl,own8⟩
end Go.Proofs.YtdpipgidpkmolaaGreatDoor
namespace Go.Proofs.YtdpipgidpkmolaaGreatDoor
open Go.RowKit
structure MDk (D:Dk):Prop where
 calm:D.calm
 nd:(D.files.map (·.1)).Nodup
 nm:∀x,(D.get x).isSome=true→ManNm x
theorem MDk.nms {D:Dk}(h:MDk D):∀s∈D.files.map (·.1),ManNm s:=fun s hs=>h.nm s (mem_names.1 hs)
def lgN (g:Nat):List Nat:=fileN (genN g) 0 logK
def akN (g:Nat):List Nat:=fileN (genN g) 0 ackK
structure GLog (D:Dk)(g:Nat)(l:List (List Nat)):Prop where
 log:D.fileOf (lgN g)=full (framesN l)
 ack:D.fileOf (akN g)=full (marksN l.length)
 there:l≠ []→(D.get (lgN g)).isSome=true∧(D.get (akN g)).isSome=true
 recs:∀r∈l,Byt r∧r.length≤131072
theorem genOf_cur:genOf curN= -1:=rfl
theorem genOf_fresh:genOf freshN= -1:=rfl
theorem genOf_lg {g:Nat}(h:g≤675):genOf (lgN g)=(g:Int):=by unfold lgN;rw[fileN_gen,genOf_gen h]
theorem genOf_ak {g:Nat}(h:g≤675):genOf (akN g)=(g:Int):=by unfold akN;rw[fileN_gen,genOf_gen h]
theorem fresh_no {D:Dk}(h:MDk D):D.get freshN=none:=by
 cases e:D.get freshN with
 |none=>rfl
 |some f=>
  exfalso
  rcases h.nm freshN (by rw[e];rfl) with h1|⟨g,k,hg,hk,h1⟩
  ·revert h1;decide
  ·have:=congrArg genOf h1
   rw[fileN_gen,genOf_gen hg,genOf_fresh] at this
   omega
theorem lg_man {g:Nat}(h:g≤675):ManNm (lgN g):= .inr ⟨g,logK,h, .inl rfl,rfl⟩
theorem ak_man {g:Nat}(h:g≤675):ManNm (akN g):= .inr ⟨g,ackK,h, .inr rfl,rfl⟩
theorem ak_ne_lg (g:Nat):akN g≠lgN g:=fun e=>by
 have:=(fileN_inj (by omega) (by omega) e).2
 revert this
 decide
theorem GLog.congr {D D':Dk}{g:Nat}{l:List (List Nat)}(h:GLog D g l)(h1:D'.get (lgN g)=D.get (lgN g))(h2:D'.get (akN g)=D.get (akN g)):GLog D' g l:=⟨by rw[fileOf_eq,h1,←fileOf_eq,h.log],by rw[fileOf_eq,h2,←fileOf_eq,h.ack],fun hn=>by rw[h1,h2];exact h.there hn,h.recs⟩
theorem GLog.nil {D:Dk}{g:Nat}(h1:D.get (lgN g)=none)(h2:D.get (akN g)=none):GLog D g []:=⟨by rw[fileOf_eq,h1];rfl,by rw[fileOf_eq,h2];rfl,fun h=>absurd rfl h,by simp⟩
theorem GLog.append {D:Dk}{g:Nat}{l:List (List Nat)}{data:List Nat}(hm:MDk D)(h:GLog D g l)(hg:g≤675)(hd:Byt data)(hdl:data.length≤131072)(hsz:(framesN l).length+(data.length+12)≤1048576)(hcnt:l.length+1≤1000)(hfl:D.files.length+2≤200):
  appW ⟨0,l.length,(framesN l).length,false⟩ D (genN g) data=(⟨0,l.length,(framesN l).length,false⟩,D,5)∨
  ∃D',appW ⟨0,l.length,(framesN l).length,false⟩ D (genN g) data=(⟨0,(l++[data]).length,(framesN (l++[data])).length,false⟩,D',0)∧MDk D'∧D'.files.length≤D.files.length+2∧GLog D' g (l++[data])∧∀x,x≠lgN g→x≠akN g→D'.get x=D.get x:=by
 by_cases hroom:(data.length:Int)+36≤D.room-D.used
 ·right
  obtain⟨W,hW⟩:∃W:Wl,W=⟨0,l.length,(framesN l).length,false⟩:=⟨_,rfl⟩
  have hturn:W.turned data=W:=by unfold Wl.turned;rw[hW,if_neg (by simp only;omega)]
  have hfrl:=frameN_len data
  have hrw:roomW D 0 l.length (data.length+12)=true:=by
   unfold roomW
   rw[Bool.and_eq_true,Bool.and_eq_true,Bool.or_eq_true,decide_eq_true_eq,decide_eq_true_eq,decide_eq_true_eq]
   exact⟨⟨by omega, .inr hfl⟩,by omega⟩
  have hlog:=h.log
  have hack:=h.ack
  unfold lgN at hlog
  unfold akN at hack
  have hml:=marksN_len l.length
  obtain⟨a1,a2,a3,a4,a5,a6,a7⟩:=lay_calm (D:=D) (nm:=genN g) (num:=0) (count:=l.length) (s:=frameN data) hm.calm hm.nd (show 3≤8 by decide) (by omega) (.inr hfl) (.inr hfl) (by rw[hlog];show(framesN l).length+_≤_;omega) (by rw[hack];show(marksN l.length).length+12≤_;omega) (by omega)
  obtain⟨E,hE⟩:∃E,E=(D.lay (genN g) 0 l.length (frameN data)).1:=⟨_,rfl⟩
  rw[←hE] at a2 a3 a4 a5 a6 a7
  have hfr:framesN l++frameN data=framesN (l++[data]):=by rw[framesN_app,framesN_one]
  have hmr:marksN l.length++markN (l.length+1)=marksN (l++[data]).length:=by rw[List.length_append,List.length_singleton,marksN_succ]
  rw[hlog,hack] at a7
  have e1:(full (marksN l.length)).data=marksN l.length:=rfl
  have e2:(full (framesN l)).data=framesN l:=rfl
  rw[e1,e2,hfr,hmr] at a7
  change∀x,E.get x=if x=akN g then some (full (marksN (l++[data]).length)) else if x=lgN g then some (full (framesN (l++[data]))) else D.get x at a7
  refine⟨E,?_,⟨a2,a3,fun x hx=> ?_⟩,a6,⟨?_,?_,fun _=>⟨?_,?_⟩,fun r hr=> ?_⟩,fun x h1 h2=> ?_⟩
  ·unfold appW
   rw[←hW,hturn,hW]
   simp only
   rw[if_neg (by omega),if_neg (by simp),if_neg (by simp[hrw]),if_neg (by simp[a1]),hE]
   have e3:(framesN (l++[data])).length=(framesN l).length+(data.length+12):=by rw[←hfr,List.length_append,hfrl]
   rw[e3,List.length_append,List.length_singleton]
  ·rw[a7] at hx
   by_cases e1:x=akN g
   ·rw[e1];exact ak_man hg
   ·rw[if_neg e1] at hx
    by_cases e2:x=lgN g
    ·rw[e2];exact lg_man hg
    ·rw[if_neg e2] at hx
     exact hm.nm x hx
  ·rw[fileOf_eq,a7,if_neg (ak_ne_lg g).symm,if_pos rfl];rfl
  ·rw[fileOf_eq,a7,if_pos rfl];rfl
  ·rw[a7,if_neg (ak_ne_lg g).symm,if_pos rfl];rfl
  ·rw[a7,if_pos rfl];rfl
  ·rcases List.mem_append.1 hr with hr|hr
   ·exact h.recs r hr
   ·simp at hr;subst hr;exact⟨hd,hdl⟩
  ·rw[a7,if_neg h2,if_neg h1]
 ·left
  exact appW_full rfl hdl hsz hroom
theorem point_m {D:Dk}{gen:Nat}(hm:MDk D)(hfew:D.files.length<200)(hg:gen≤675):
  pointW D gen=(D,5)∨∃D2,pointW D gen=(D2,0)∧MDk D2∧D2.files.length≤D.files.length+1∧∀x,D2.get x=if x=curN then some (full (frameN (grp gen))) else D.get x:=by
 have hfr:nameOk freshN=true:=by decide
 have hno:=fresh_no hm
 have hgl:=grp_len gen
 have hFl:=frameN_len (grp gen)
 by_cases hroom:((frameN (grp gen)).length:Int)≤D.room-D.used
 ·right
  have hc:=hm.calm
  have hn:=hm.nd
  have hcu:nameOk curN=true:=by decide
  have h0:D.thereE [freshN] freshN=7:=by rw[thereE_calm hc (by simpa using hfr),hno];rfl
  obtain⟨-,a2,a3,a4,a5,a6,a7⟩:=del_calm hc hn hfr
  obtain⟨D1,hD1⟩:∃D1,D1=D.delete freshN:=⟨_,rfl⟩
  rw[←hD1] at a2 a3 a4 a5 a6 a7
  obtain⟨F,hF⟩:∃F,F=frameN (grp gen):=⟨_,rfl⟩
  rw[←hF] at hFl hroom
  have hg1:D1.get freshN=none:=by rw[a7,if_pos rfl]
  have hfo:D1.fileOf freshN=full []:=by rw[fileOf_eq,hg1];rfl
  obtain⟨b1,b2,b3,b4,b5,b6,b7,b8⟩:=app_sync (D:=D1) (a:=freshN) (s:=F) a2 a3 hfr (.inr (by omega)) (by rw[hfo];show 0+_≤_;omega) (by omega)
  obtain⟨D2,hD2⟩:∃D2,D2=D1.append freshN F:=⟨_,rfl⟩
  rw[←hD2] at b2 b3 b4 b5 b6 b7 b8
  obtain⟨D3,hD3⟩:∃D3,D3=D2.sync freshN:=⟨_,rfl⟩
  rw[←hD3] at b3 b4 b5 b6 b7 b8
  have hg3:D3.get freshN=some (full F):=by
   rw[b8,if_pos rfl,hfo]
   rfl
  obtain⟨c1,c2,c3,c4,c5,c6,c7⟩:=rename_calm (D:=D3) (a:=freshN) (b:=curN) b3 b4 hfr hcu hg3 (by decide)
  have hget:∀x,(D3.rename freshN curN).get x=if x=curN then some (full (frameN (grp gen))) else D.get x:=fun x=>by
   rw[c7,←hF]
   by_cases e1:x=curN
   ·rw[if_pos e1,if_pos e1]
   ·rw[if_neg e1,if_neg e1]
    by_cases e2:x=freshN
    ·rw[if_pos e2,e2,hno]
    ·rw[if_neg e2,b8,if_neg e2,a7,if_neg e2]
  refine⟨D3.rename freshN curN,?_,⟨c2,c3,fun x hx=> ?_⟩,by omega,hget⟩
  ·unfold pointW
   rw[←hD1,←hF,←hD2,←hD3,if_neg (by rw[h0];simp),if_neg (by rw[b1];simp),if_neg (by rw[b2];simp),c1]
  ·rw[hget] at hx
   by_cases e1:x=curN
   ·exact .inl e1
   ·rw[if_neg e1] at hx
    exact hm.nm x hx
 ·left
  have hc:=hm.calm
  have h0:D.thereE [freshN] freshN=7:=by rw[thereE_calm hc (by simpa using hfr),hno];rfl
  have hdel:D.delete freshN=D:=by unfold Dk.delete;rw[if_neg (by rw[h0];decide),tick_calm hc]
  have hE:D.appendE freshN (frameN (grp gen))=5:=by
   unfold Dk.appendE
   have hb:D.beginE [freshN]=0:=beginE_calm hc (by simpa using hfr)
   have hfo:D.fileOf freshN=full []:=by rw[fileOf_eq,hno];rfl
   have hfl:(full []).data.length=0:=rfl
   rw[hb,hno,hfo,hfl]
   split
   ·omega
   ·split
    ·omega
    ·split
     ·omega
     ·rw[if_pos (by omega)]
  have happ:D.append freshN (frameN (grp gen))=D:=by unfold Dk.append;rw[if_neg (by rw[hE];decide),tick_calm hc]
  unfold pointW
  rw[hdel,hE,happ,if_neg (by rw[h0];simp),if_pos (by decide)]
theorem atoi_m (r:List Nat):Lib.atoi (u8s (109::r))=none:=by
 have e:u8s (109::r)=109::u8s r:=rfl
 rw[e]
 rfl
theorem for_man {g:Nat}{s:List Nat}(hg:g≤675)(h:ManNm s):OwnNm (genN g) s∨ForN (genN g) s:=by
 obtain⟨hb,hl,-⟩:=h.byt
 rcases h with rfl|⟨g',k,hg',hk,rfl⟩
 ·right
  refine⟨?_,hb,hl, .inl ⟨by decide,by decide,by rfl⟩⟩
  unfold genN Lib.hasPrefix
  rfl
 ·by_cases e:g'=g
  ·subst e
   left
   rcases hk with rfl|rfl
   ·exact⟨0,logB,by omega, .inl rfl,rfl⟩
   ·exact⟨0,ackB,by omega, .inr (.inl rfl),rfl⟩
  ·right
   refine⟨?_,hb,hl, .inr ⟨genN g',dig6 0++k,fileN_gen g' k,?_,genN_byt hg',show 3≤18 by decide,atoi_m _⟩⟩
   ·rw[fileN_gen]
    unfold genN Lib.hasPrefix
    cases hc:(u8s ([109,97+g/26,97+g%26]++[46])).isPrefixOf (u8s ([109,97+g'/26,97+g'%26]++46::(dig6 0++k))) with
    |false=>rfl
    |true=>
     exfalso
     simp only[u8s,List.cons_append,List.nil_append,List.map_cons,List.map_nil,List.isPrefixOf_cons_cons,Bool.and_eq_true,beq_iff_eq] at hc
     have h1:=congrArg UInt8.toNat hc.2.1
     have h2:=congrArg UInt8.toNat hc.2.2.1
     rw[ofNat_toNat (by omega),ofNat_toNat (by omega)] at h1 h2
     omega
   ·intro c hc
    simp[genN] at hc
    omega
theorem GLog.opens {D:Dk}{g:Nat}{l:List (List Nat)}(hm:MDk D)(h:GLog D g l)(hg:g≤675)(hne:l≠ [])(hlen:l.length≤1000):openW D (genN g)=(D,0,l.map fun r=>(0,r),1):=by
 have hnm:numsL (genN g) (D.files.map (·.1))=[0]:=by
  refine inc_eq numsL_inc (by simp) fun n=> ?_
  rw[numsL_mem]
  constructor
  ·rintro⟨h1,h2⟩
   have key:∀k:List Nat,fileN (genN g) n (46::k)∈D.files.map (·.1)→n∈ [0]:=fun k hk=>by
    rcases hm.nms _ hk with e|⟨g',k',hg',hk',e⟩
    ·have:=congrArg genOf e
     have e2:fileN (genN g) n (46::k)=genN g++46::(dig6 n++(46::k)):=by unfold fileN;simp
     rw[e2,genOf_gen hg,genOf_cur] at this
     omega
    ·have:=congrArg genOf e
     have e2:fileN (genN g) n (46::k)=genN g++46::(dig6 n++(46::k)):=by unfold fileN;simp
     rw[e2,genOf_gen hg,fileN_gen,genOf_gen hg'] at this
     have e3:g'=g:=by omega
     subst e3
     have:=(fileN_inj h1 (by omega) e).1
     simp[this]
   rcases h2 with h2|h2
   ·exact key _ h2
   ·exact key _ h2
  ·intro hn
   simp at hn
   subst hn
   exact⟨by omega, .inl (mem_names.2 (h.there hne).1)⟩
 have e1:D.datN (fileN (genN g) 0 logK)=framesN l:=by
  have:=h.log
  unfold Dk.datN
  rw[fileOf_eq] at this
  unfold lgN at this
  have h2:=(h.there hne).1
  unfold lgN at h2
  obtain⟨f,hf⟩:=Option.isSome_iff_exists.1 h2
  rw[hf] at this⊢
  have h3:f=full (framesN l):=this
  rw[h3]
  rfl
 have e2:D.datN (fileN (genN g) 0 ackK)=marksN l.length:=by
  have:=h.ack
  unfold Dk.datN
  rw[fileOf_eq] at this
  unfold akN at this
  have h2:=(h.there hne).2
  unfold akN at h2
  obtain⟨f,hf⟩:=Option.isSome_iff_exists.1 h2
  rw[hf] at this⊢
  have h3:f=full (marksN l.length):=this
  rw[h3]
  rfl
 have hseg:segN D (genN g) 0=(D,0,l):=by
  unfold segN
  rw[e1,e2,allN_frames (fun r hr=>(h.recs r hr).2),countN_marks (by omega),if_neg (by simp),if_neg (by simp),if_neg (by simp)]
 unfold openW
 rw[hnm]
 unfold openGo
 rw[hseg,if_neg (by simp)]
 rfl
theorem GLog.none_opens {D:Dk}{g:Nat}(hm:MDk D)(hg:g≤675)(h1:D.get (lgN g)=none)(h2:D.get (akN g)=none):openW D (genN g)=(D,0,[],0):=by
 have hnm:numsL (genN g) (D.files.map (·.1))=[]:=by
  refine inc_eq numsL_inc (by simp) fun n=> ?_
  rw[numsL_mem]
  constructor
  ·rintro⟨h3,h4⟩
   exfalso
   have key:∀k:List Nat,(46::k=logK∨46::k=ackK)→fileN (genN g) n (46::k)∈D.files.map (·.1)→False:=fun k hkk hk=>by
    rcases hm.nms _ hk with e|⟨g',k',hg',hk',e⟩
    ·have:=congrArg genOf e
     have e2:fileN (genN g) n (46::k)=genN g++46::(dig6 n++(46::k)):=by unfold fileN;simp
     rw[e2,genOf_gen hg,genOf_cur] at this
     omega
    ·have:=congrArg genOf e
     have e2:fileN (genN g) n (46::k)=genN g++46::(dig6 n++(46::k)):=by unfold fileN;simp
     rw[e2,genOf_gen hg,fileN_gen,genOf_gen hg'] at this
     have e3:g'=g:=by omega
     subst e3
     have h5:=(fileN_inj h3 (by omega) e).1
     subst h5
     have h6:=mem_names.1 hk
     rcases hkk with e4|e4
     ·rw[e4] at h6
      have:D.get (lgN g')=D.get (fileN (genN g') 0 logK):=rfl
      rw[←this,h1] at h6
      cases h6
     ·rw[e4] at h6
      have:D.get (akN g')=D.get (fileN (genN g') 0 ackK):=rfl
      rw[←this,h2] at h6
      cases h6
   rcases h4 with h4|h4
   ·exact key _ (.inl rfl) h4
   ·exact key _ (.inr rfl) h4
  ·intro hn;cases hn
 unfold openW
 rw[hnm]
 rfl
end Go.Proofs.YtdpipgidpkmolaaGreatDoor
namespace Go.Proofs.YtdpipgidpkmolaaGreatDoor
open Go.RowKit
def gr:Nat→Nat→List Nat→Option (Nat × List Nat)
 |_,_,[]=>none
 |i,n,c::r=>if(i=9∧1<c)∨(0<i∧c=0) then none else if c<128 then some (n+c%128*2^(7*i),r) else gr (i+1) (n+c%128*2^(7*i)) r
def gP (s:List Nat):Option (Nat × List Nat):=gr 0 0 s
theorem pow7 (i:Nat):2^(7*(i+1))=2^(7*i)*128:=by rw[Nat.mul_add,Nat.pow_add]
theorem gr_full:∀(k i n m:Nat) (r:List Nat),i+k=9→m<2*128^k→(0<i→0<m)→gr i n (grpK k m++r)=some (n+m*2^(7*i),r)
 |k,i,n,m,r,hk,hm,h0=>by
  by_cases hs:m<128
  ·rw[grpK_small hs]
   show(if(i=9∧1<m)∨(0<i∧m=0) then none else if m<128 then some (n+m%128*2^(7*i),r) else gr (i+1) (n+m%128*2^(7*i)) r)=_
   rw[if_neg,if_pos hs,Nat.mod_eq_of_lt hs]
   rintro(⟨rfl,h⟩|⟨h1,h2⟩)
   ·obtain rfl:k=0:=by omega
    simp at hm;omega
   ·have:=h0 h1;omega
  ·obtain⟨k,rfl⟩:∃j,k=j+1:=⟨k-1,by
    rcases Nat.eq_zero_or_pos k with h|h
    ·subst h;simp at hm;omega
    ·omega⟩
   rw[grpK_more hs]
   show(if(i=9∧1<m%128+128)∨(0<i∧m%128+128=0) then none else if m%128+128<128 then some (n+(m%128+128)%128*2^(7*i),grpK k (m/128)++r) else gr (i+1) (n+(m%128+128)%128*2^(7*i)) (grpK k (m/128)++r))=_
   rw[if_neg (by omega),if_neg (by omega),gr_full k (i+1) _ (m/128) r (by omega) (by rw[Nat.pow_succ] at hm;rw[Nat.div_lt_iff_lt_mul (by omega)];omega) (by omega)]
   congr 2
   rw[show(m%128+128)%128=m%128 by omega,pow7]
   have e:m%128*2^(7*i)+m/128*(2^(7*i)*128)=(m%128+128*(m/128))*2^(7*i):=by
    rw[Nat.add_mul,Nat.mul_comm (2^(7*i)) 128,←Nat.mul_assoc,Nat.mul_comm (m/128) 128]
   rw[Nat.add_assoc,e,Nat.mod_add_div]
theorem gr_sound:∀(s:List Nat) (i n v:Nat) (r:List Nat),Byt s→i≤9→gr i n s=some (v,r)→∃m,v=n+m*2^(7*i)∧s=grpK (9-i) m++r∧m<2*128^(9-i)∧(0<i→0<m)
 | [],i,n,v,r,_,_,h=>by cases h
 |c::t,i,n,v,r,hb,hi,h=>by
  have hc:=hb c List.mem_cons_self
  unfold gr at h
  by_cases hx:(i=9∧1<c)∨(0<i∧c=0)
  ·rw[if_pos hx] at h;cases h
  ·rw[if_neg hx] at h
   by_cases hs:c<128
   ·rw[if_pos hs] at h
    injection h with h
    injection h with h1 h2
    subst h2
    refine⟨c,by rw[←h1,Nat.mod_eq_of_lt hs],by rw[grpK_small hs];rfl,?_,by omega⟩
    rcases Nat.lt_or_ge i 9 with h9|h9
    ·have:128^1≤128^(9-i):=Nat.pow_le_pow_right (by omega) (by omega)
     omega
    ·obtain rfl:i=9:=by omega
     simp;omega
   ·rw[if_neg hs] at h
    have h9:i<9:=by omega
    obtain⟨m,e1,e2,e3,e4⟩:=gr_sound t (i+1) _ v r hb.tail (by omega) h
    have e4:=e4 (by omega)
    have hk:9-i=(9-(i+1))+1:=by omega
    refine⟨c%128+128*m,?_,?_,?_,by omega⟩
    ·rw[e1,pow7,Nat.add_assoc]
     congr 1
     rw[Nat.add_mul,Nat.mul_comm (2^(7*i)) 128,←Nat.mul_assoc,Nat.mul_comm m 128]
    ·rw[hk,grpK_more (by omega),show(c%128+128*m)/128=m by omega,show(c%128+128*m)%128+128=c by omega,e2];rfl
    ·rw[hk,Nat.pow_succ];omega
structure Cod {α:Type}(p:List Nat→Option (α × List Nat))(enc:α→List Nat)(ok:α→Prop):Prop where
 full:∀a r,ok a→p (enc a++r)=some (a,r)
 sound:∀s a r,Byt s→p s=some (a,r)→ok a∧s=enc a++r
theorem gP_cod:Cod gP grp (fun n=>n<18446744073709551616) where
 full:=fun n r h=>by
  have:=gr_full 9 0 0 n r (by omega) (by omega) (by omega)
  simpa[gP,grp] using this
 sound:=fun s n r hs h=>by
  obtain⟨m,e1,e2,e3,-⟩:=gr_sound s 0 0 n r hs (by omega) h
  obtain rfl:n=m:=by rw[e1];simp
  exact⟨by have:(9-0:Nat)=9:=rfl;rw[this] at e3;omega,e2⟩
def sizeP (s:List Nat):Option (Nat × List Nat):=(gP s).bind fun x=>if x.1<9223372036854775808 then some x else none
def txtP (most:Nat)(s:List Nat):Option (List Nat × List Nat):=(sizeP s).bind fun x=>if x.1≤most then rawP x.1 x.2 else none
def unsgn (n:Nat):Int:=if n%2=0 then((n/2:Nat):Int) else -((n/2:Nat):Int)-1
def sgnP (s:List Nat):Option (Int × List Nat):=(gP s).map fun x=>(unsgn x.1,x.2)
def listP {α:Type}(one:List Nat→Option (α × List Nat)):Nat→List α→List Nat→Option (List α × List Nat)
 |0,acc,s=>some (acc,s)
 |k+1,acc,s=>(one s).bind fun x=>listP one k (acc++[x.1]) x.2
def getP {α:Type}(one:List Nat→Option (α × List Nat))(most:Nat)(s:List Nat):Option (List α × List Nat):=(sizeP s).bind fun x=>if x.1≤most then listP one x.1 [] x.2 else none
theorem sizeP_cod:Cod sizeP grp (fun n=>n<9223372036854775808) where
 full:=fun n r h=>by
  unfold sizeP
  rw[gP_cod.full n r (by omega)]
  show(if n<_ then _ else _)=_
  rw[if_pos h]
 sound:=fun s n r hs h=>by
  unfold sizeP at h
  cases hg:gP s with
  |none=>rw[hg] at h;cases h
  |some x=>
   rw[hg] at h
   replace h:(if x.1<9223372036854775808 then some x else none)=some (n,r):=h
   split at h
   ·injection h with h
    subst h
    exact⟨by assumption,(gP_cod.sound s n r hs hg).2⟩
   ·cases h
theorem txtP_cod (most:Nat)(hm:most<9223372036854775808):Cod (txtP most) txt (fun t=>t.length≤most) where
 full:=fun t r h=>by
  unfold txtP txt
  rw[List.append_assoc,sizeP_cod.full _ _ (by omega)]
  show(if t.length≤most then rawP t.length (t++r) else none)=_
  rw[if_pos h]
  unfold rawP
  rw[if_pos (by simp;omega)]
  simp
 sound:=fun s t r hs h=>by
  unfold txtP at h
  cases hg:sizeP s with
  |none=>rw[hg] at h;cases h
  |some x=>
   obtain⟨n,q⟩:=x
   obtain⟨o1,rfl⟩:=sizeP_cod.sound s n q hs hg
   rw[hg] at h
   replace h:(if n≤most then rawP n q else none)=some (t,r):=h
   split at h
   ·unfold rawP at h
    split at h
    ·rename_i h1 h2
     injection h with h
     injection h with e1 e2
     simp only[Int.toNat_natCast] at e1 e2
     have hl:t.length=n:=by rw[←e1,List.length_take];omega
     refine⟨by omega,?_⟩
     unfold txt
     rw[hl,List.append_assoc,←e1,←e2,List.take_append_drop]
    ·cases h
   ·cases h
theorem unsgn_sgn {n:Int}(h:I64 n):unsgn (sgn n)=n:=by
 unfold I64 at h
 unfold sgn unsgn
 split
 ·rw[if_pos (by omega)];omega
 ·rw[if_neg (by omega)];omega
theorem sgn_unsgn {n:Nat}(h:n<18446744073709551616):sgn (unsgn n)=n∧I64 (unsgn n):=by
 unfold unsgn sgn I64
 split
 ·rw[if_pos (by omega)];omega
 ·rw[if_neg (by omega)];omega
theorem sgnP_cod:Cod sgnP (fun n=>grp (sgn n)) I64 where
 full:=fun n r h=>by
  unfold sgnP
  rw[gP_cod.full _ r (sgn_lt h)]
  show some (unsgn (sgn n),r)=_
  rw[unsgn_sgn h]
 sound:=fun s n r hs h=>by
  unfold sgnP at h
  cases hg:gP s with
  |none=>rw[hg] at h;cases h
  |some x=>
   obtain⟨m,q⟩:=x
   obtain⟨o1,rfl⟩:=gP_cod.sound s m q hs hg
   rw[hg] at h
   replace h:some (unsgn m,q)=some (n,r):=h
   injection h with h
   injection h with e1 e2
   subst e1 e2
   obtain⟨e3,e4⟩:=sgn_unsgn o1
   refine⟨e4,?_⟩
   simp only[e3]
section
variable {α:Type} {one:List Nat→Option (α × List Nat)} {enc:α→List Nat} {ok:α→Prop}
theorem listP_full (h:Cod one enc ok):∀(l acc:List α) (r:List Nat),(∀a∈l,ok a)→listP one l.length acc (l.flatMap enc++r)=some (acc++l,r)
 | [],acc,r,_=>by simp[listP]
 |a::l,acc,r,hl=>by
  show((one ((a::l).flatMap enc++r)).bind fun x=>listP one l.length (acc++[x.1]) x.2)=_
  rw[List.flatMap_cons,List.append_assoc,h.full a _ (hl a List.mem_cons_self)]
  show listP one l.length (acc++[a]) (l.flatMap enc++r)=_
  rw[listP_full h l _ r (fun b hb=>hl b (List.mem_cons_of_mem _ hb)),List.append_assoc];rfl
theorem listP_sound (h:Cod one enc ok):∀(k:Nat) (acc:List α) (s:List Nat) (l:List α) (r:List Nat),Byt s→listP one k acc s=some (l,r)→∃l',l=acc++l'∧l'.length=k∧(∀a∈l',ok a)∧s=l'.flatMap enc++r
 |0,acc,s,l,r,_,hh=>by
  injection hh with hh
  injection hh with e1 e2
  exact⟨[],by simp[e1],rfl,by simp,by simp[e2]⟩
 |k+1,acc,s,l,r,hs,hh=>by
  replace hh:((one s).bind fun x=>listP one k (acc++[x.1]) x.2)=some (l,r):=hh
  cases ho:one s with
  |none=>rw[ho] at hh;cases hh
  |some x=>
   obtain⟨a,q⟩:=x
   rw[ho] at hh
   obtain⟨o1,rfl⟩:=h.sound s a q hs ho
   obtain⟨l',e1,e2,e3,e4⟩:=listP_sound h k _ q l r hs.right hh
   refine⟨a::l',by rw[e1,List.append_assoc];rfl,by simp[e2],fun b hb=> ?_,by rw[List.flatMap_cons,List.append_assoc,←e4]⟩
   rcases List.mem_cons.1 hb with rfl|hb
   ·exact o1
   ·exact e3 b hb
theorem getP_cod (h:Cod one enc ok)(most:Nat)(hm:most<9223372036854775808):Cod (getP one most) (fun l=>grp l.length++l.flatMap enc) (fun l=>l.length≤most∧∀a∈l,ok a) where
 full:=fun l r hl=>by
  unfold getP
  rw[List.append_assoc,sizeP_cod.full _ _ (by omega)]
  show(if l.length≤most then listP one l.length [] (l.flatMap enc++r) else none)=_
  rw[if_pos hl.1,listP_full h l [] r hl.2];rfl
 sound:=fun s l r hs hh=>by
  unfold getP at hh
  cases hg:sizeP s with
  |none=>rw[hg] at hh;cases hh
  |some x=>
   obtain⟨n,q⟩:=x
   obtain⟨o1,rfl⟩:=sizeP_cod.sound s n q hs hg
   rw[hg] at hh
   replace hh:(if n≤most then listP one n [] q else none)=some (l,r):=hh
   split at hh
   ·obtain⟨l',e1,e2,e3,e4⟩:=listP_sound h n [] q l r hs.right hh
    simp only[List.nil_append] at e1
    subst e1
    exact⟨⟨by omega,e3⟩,by simp only[e2,List.append_assoc,←e4]⟩
   ·cases hh
end
theorem rest_none {α:Type}{p:List Nat→Option (α × List Nat)}{o:Option (List Nat)}(h:o.bind p=none):rest p o=none:=by unfold rest;rw[h];rfl
theorem rest_some {α:Type}{p:List Nat→Option (α × List Nat)}{o:Option (List Nat)}{z:α}{r:List Nat}(h:o.bind p=some (z,r)):rest p o=some r:=by unfold rest;rw[h];rfl
theorem low_lt {i:Nat}(hi:i≤9):2^(7*i)≤9223372036854775808:=by
 have:2^(7*i)≤2^63:=Nat.pow_le_pow_right (by omega) (by omega)
 exact this
theorem high_lt {i c:Nat}(hi:i≤9)(hc:i=9→c≤1):c%128*2^(7*i)≤18446744073709551616-2^(7*i):=by
 have hm:c%128≤127:=by omega
 rcases Nat.lt_or_ge i 9 with h|h
 ·have h1:2^(7*i)≤2^56:=Nat.pow_le_pow_right (by omega) (by omega)
  have h2:c%128*2^(7*i)≤127*2^56:=Nat.mul_le_mul hm h1
  omega
 ·obtain rfl:i=9:=by omega
  have:=hc rfl
  have h3:(2:Nat)^(7*9)=9223372036854775808:=rfl
  rw[h3]
  omega
theorem step_ok {i n c:Nat}(hi:i≤9)(hc:i=9→c≤1)(hn:n<2^(7*i)):c%128*2^(7*i)<18446744073709551616∧n+c%128*2^(7*i)<18446744073709551616∧n<18446744073709551616:=by
 have h1:=low_lt hi
 have h2:=high_lt hi hc
 have h3:0<2^(7*i):=Nat.two_pow_pos _
 generalize c%128*2^(7*i)=T at *
 generalize 2^(7*i)=p at *
 omega
theorem shl_wrap {c i:Nat}(h:c%128*2^(7*i)<18446744073709551616):IntKind.u64.wrap (((c%2^7:Nat):Int)*2^(7*i))=((c%128*2^(7*i):Nat):Int):=by
 have e:((c%2^7:Nat):Int)*2^(7*i)=((c%128*2^(7*i):Nat):Int):=by rw[Int.natCast_mul,Int.natCast_pow];rfl
 rw[e]
 exact wrapU (Int.natCast_nonneg _) (Int.ofNat_lt.2 h)
theorem rgroups_any (g:Nat)(o:Option (List Nat))(w:World)(h:Rd 163 w g o):Calls Tryz.prog 102 #[.pointer (some ⟨g,0,none⟩)] w fun e w'=>∃z:Nat,(z<18446744073709551616∧val1 gP o z∧e= .returned (.int .u64 (z:Int)))∧Kf g w w'∧Rd 163 w' g (rest gP o):=by
 have rd:=h
 have kf:=Kf.refl g w
 refine Zs 42 Tryz.func102 ?_
 refine Zsr ?_
 refine Za ?_
 refine Zk2 0 2 (Ztq ?_)
 refine Za ?_
 refine Zk3 0 2 3 (Ztq ?_)
 refine Za ?_
 refine Zk4 0 2 3 4 (Zt (Cd.block ?_))
 refine Cd.loop (σ:=Nat × Nat × Option (List Nat)) (fun s=>[(0, .pointer (some ⟨g,0,none⟩)),(3, .int .u64 (s.2.1:Int)),(4, .int .i64 (s.1:Int))])
  (fun s wr=>s.1≤9∧s.2.1<2^(7*s.1)∧s.2.2.bind (gr s.1 s.2.1)=o.bind gP∧Kf g w wr∧Rd 163 wr g s.2.2) (fun s=>10-s.1) (0,0,o) ⟨Nat.zero_le _,(show 0<2^(7*0) by decide),rfl,kf,rd⟩ ⟨rfl,rfl,rfl,trivial⟩ ?_
 clear kf rd
 rintro⟨i,n,q⟩ wr ⟨hi,hn,hq,kf,rd⟩
 simp only at hi hn hq rd
 show Cd _ _ _ _ [(0, .pointer (some ⟨g,0,none⟩)),(3, .int .u64 (n:Int)),(4, .int .i64 (i:Int))] _
 have hlow:=low_lt hi
 refine Cd.seq (Cd.block (Zsr ?_))
 refine Zm ?_
 have hbyt0:=rd
 refine Zc (Ze Tryz.func99) (rraw_any g 1 q _ rd) ?_
 rintro e w1 ⟨rfl,fw1,rd'⟩
 refine⟨_,rfl,?_⟩
 replace kf:=kf.kf fw1 rd
 replace rd:=rd'
 clear rd'
 cases hqq:q.bind (rawP 1) with
 |none=>
  have hnone:o.bind gP=none:=by
   rw[←hq]
   cases q with
   |none=>rfl
   |some s=>
    cases s with
    |nil=>rfl
    |cons c r=>
     exfalso
     have:rawP 1 (c::r)=none:=hqq
     unfold rawP at this
     rw[if_pos (by simp;omega)] at this
     cases this
  rw[rest_none hqq] at rd
  rw[show rawV 1 q=[] by unfold rawV;rw[hqq];rfl]
  refine Za ?_
  refine Zk4 0 3 4 5 (Zts (Zsr ?_))
  refine Zm ?_
  refine Zv (Runs.eqlL (a:=[]) (b:=[]) rfl rfl rfl (by simp) (by simp)) ?_
  refine Zk5 0 3 4 5 12 (Zt ?_)
  refine Cd.condT rfl rfl ?_
  refine Zsr ?_
  refine Za ?_
  refine Zk6 0 2 3 4 5 12 (Zt (Cd.ret (Post.then_ret (Post.block_ret (Post.then_ret (Post.round_ret (Post.block_ret ?_)))))))
  refine Ze1 ?_
  refine⟨0,⟨by decide,val1_none hnone,rfl⟩,kf,?_⟩
  rw[rest_none hnone];exact rd
 |some x=>
  obtain⟨c,r,rfl⟩:∃c r,q=some (c::r):=by
   cases q with
   |none=>cases hqq
   |some s=>
    cases s with
    |nil=>exact absurd (show rawP 1 []=some x from hqq) (by simp[rawP])
    |cons c r=>exact⟨c,r,rfl⟩
  have hx:x=([c],r):=by
   have:rawP 1 (c::r)=some x:=hqq
   unfold rawP at this
   rw[if_pos (by simp;omega)] at this
   injection this with this
   rw[←this];rfl
  subst hx
  have rdc:=hbyt0
  rw[rest_some hqq] at rd
  rw[show rawV 1 (some (c::r))=[c] by unfold rawV;rw[hqq];rfl]
  have hbr:Byt (c::r):=by
   obtain⟨s',b',-,hs',ho'⟩:=rdc
   cases b' with
   |true=>cases ho'
   |false=>injection ho' with ho';rw[ho'];exact hs'
  have hc:=hbr c List.mem_cons_self
  have hgr:gr i n (c::r)=if(i=9∧1<c)∨(0<i∧c=0) then none else if c<128 then some (n+c%128*2^(7*i),r) else gr (i+1) (n+c%128*2^(7*i)) r:=rfl
  replace hq:gr i n (c::r)=o.bind gP:=hq
  rw[hgr] at hq
  refine Za ?_
  refine Zk4 0 3 4 5 (Zts (Zsr ?_))
  refine Zm ?_
  refine Zv (Runs.eqlL (a:=[c]) (b:=[]) rfl rfl rfl (by intro x hx;simp at hx;omega) (by simp)) ?_
  refine Zk5 0 3 4 5 12 (Zt ?_)
  refine Cd.condF rfl (decide_eq_false (by simp)) ?_
  refine Cd.skip (Ztq ?_)
  refine Zm ?_
  refine Zv (Runs.indexL (j:=0) (c:=c) rfl rfl rfl Tryz.underlying9 rfl rfl hc) ?_
  refine Zv (Runs.convI rfl rfl Tryz.underlying5 Tryz.underlying164 (wrapU (by omega) (by omega))) ?_
  refine Za ?_
  refine Zk6 0 3 4 5 6 12 (Zts (Zsr ?_))
  refine Zm ?_
  refine Zqi ?_
  refine Zm ?_
  refine SeqC.start ?_
  refine Zco (fun hcx=>Runs.move rfl rfl) ?_
  refine Zn (fun hcx=>Runs.gtr rfl rfl rfl) ?_
  refine Zan ?_
  refine Zm ?_
  refine SeqC.start ?_
  refine Zco (fun hcx=>Runs.move rfl rfl) ?_
  refine Zn (fun hcx=>Runs.gtr rfl rfl rfl) ?_
  refine Znm ?_
  refine Zco (fun hcx=>Runs.move rfl rfl) ?_
  refine Zn (fun hcx=>Runs.eqlI rfl rfl rfl) ?_
  refine SeqC.andG rfl rfl rfl rfl rfl rfl rfl rfl rfl rfl rfl ?_
  refine Zor ?_
  refine Zk7 0 3 4 5 6 12 29 (Zt ?_)
  refine Cd.cond rfl (fun h=> ?_) (fun h=> ?_)
  ·rw[if_pos (by simp at h;omega)] at hq
   refine Zsr ?_
   refine Zm ?_
   refine Zc (Ze Tryz.func103) (fail_any g _ _ rd) ?_
   rintro e w2 ⟨rfl,fw2,rd'⟩
   refine⟨_,rfl,?_⟩
   replace kf:=kf.kf fw2 rd
   replace rd:=rd'
   clear rd'
   refine Zk7 0 3 4 5 6 12 29 (Ztq ?_)
   refine Za ?_
   refine Zk8 0 2 3 4 5 6 12 29 (Zt (Cd.ret (Post.then_ret (Post.block_ret (Post.then_ret (Post.round_ret (Post.block_ret ?_)))))))
   refine Ze1 ?_
   refine⟨0,⟨by decide,val1_none hq.symm,rfl⟩,kf,?_⟩
   rw[rest_none hq.symm];exact rd
  ·rw[if_neg (by simp at h;omega)] at hq
   have h9:i=9→c≤1:=by simp at h;omega
   obtain⟨b1,b2,b3⟩:=step_ok hi h9 hn
   have hmin:min (7*(i:Int)).toNat IntKind.u64.bits=7*i:=by simp[IntKind.bits];omega
   refine Cd.skip (Ztq ?_)
   refine Zm ?_
   refine Zm ?_
   refine Zv (Runs.maskU (m:=127) 7 rfl rfl rfl rfl (by omega) (by omega)) ?_
   refine Zm ?_
   refine Zv (Runs.mulI rfl rfl rfl (by omega) (by omega)) ?_
   refine Zv (Runs.shlW (r:=((c%128*2^(7*i):Nat):Int)) rfl rfl rfl (by omega) (by rw[hmin];exact shl_wrap b1)) ?_
   refine Zv (Runs.bitsU (a:=n) (b:=c%128*2^(7*i)) (r:=n+c%128*2^(7*i)) rfl rfl rfl b3 b1 (.inr (.inl ⟨rfl,by rw[Nat.or_comm,Nat.mul_comm (c%128),←Nat.two_pow_add_eq_or_of_lt hn,Nat.add_comm]⟩))) ?_
   refine Za ?_
   refine Zk7 0 3 4 5 6 12 29 (Ztq ?_)
   refine Zm ?_
   refine Zls ?_
   refine Zk8 0 3 4 5 6 12 29 40 (Zt ?_)
   refine Cd.condD rfl (fun hc=> ?_) (fun hc=> ?_)
   ·rw[if_pos (by omega)] at hq
    refine Zsr ?_
    refine Zm ?_
    refine Za ?_
    refine Zk9 0 2 3 4 5 6 12 29 40 (Zt (Cd.ret (Post.block_ret (Post.then_ret (Post.round_ret (Post.block_ret ?_))))))
    refine Ze1 ?_
    refine⟨_,⟨b2,val1_some hq.symm,rfl⟩,kf,?_⟩
    rw[rest_some hq.symm];exact rd
   ·rw[if_neg (by omega)] at hq
    have hi8:i<9:=by omega
    refine Cd.skip (Post.block_normal (Ztr ?_))
    refine Zm ?_
    refine Za_ ?_
    refine Za ?_
    refine Zk8 0 3 4 5 6 12 29 40 ?_
    refine Post.round (i+1,n+c%128*2^(7*i),some r) ⟨rfl,rfl,rfl,trivial⟩ ⟨by simp only;omega,?_,hq,kf,rd⟩ (by simp only;omega)
    simp only
    rw[pow7]
    have hm:c%128≤127:=by omega
    have:=Nat.mul_le_mul_right (2^(7*i)) hm
    omega
theorem rsize_any (g:Nat)(o:Option (List Nat))(w:World)(h:Rd 163 w g o):Calls Tryz.prog 52 #[.pointer (some ⟨g,0,none⟩)] w fun e w'=>∃z:Nat,(z<9223372036854775808∧val1 sizeP o z∧e= .returned (.int .i64 (z:Int)))∧Kf g w w'∧Rd 163 w' g (rest sizeP o):=by
 have rd:=h
 have kf:=Kf.refl g w
 have hsz:o.bind sizeP=(o.bind gP).bind fun x=>if x.1<9223372036854775808 then some x else none:=by cases o<;>rfl
 refine Zs 12 Tryz.func52 ?_
 refine Zsr ?_
 refine Za ?_
 refine Zk2 0 2 (Ztq ?_)
 refine Zm ?_
 refine Zc (Ze Tryz.func102) (rgroups_any g o _ rd) ?_
 rintro e w1 ⟨z,⟨hz,hv,rfl⟩,fw1,rd'⟩
 refine⟨_,rfl,?_⟩
 replace kf:=kf.kf fw1 rd
 replace rd:=rd'
 clear rd'
 refine Za ?_
 refine Zk3 0 2 3 (Zts (Zsr ?_))
 refine Zm ?_
 refine Zge ?_
 refine Zk4 0 2 3 7 (Zt ?_)
 refine Cd.condD rfl (fun hc=> ?_) (fun hc=> ?_)
 ·have hn:o.bind sizeP=none:=by
   rw[hsz]
   cases hx:o.bind gP with
   |none=>rfl
   |some x=>
    have:=hv x.1 x.2 hx
    show(if x.1<_ then _ else _)=_
    rw[if_neg (by omega)]
  refine Zsr ?_
  refine Zm ?_
  refine Zc (Ze Tryz.func103) (fail_any g _ _ rd) ?_
  rintro e w2 ⟨rfl,fw2,rd'⟩
  refine⟨_,rfl,?_⟩
  replace kf:=kf.kf fw2 rd
  replace rd:=rd'
  clear rd'
  refine Zk4 0 2 3 7 (Ztq ?_)
  refine Za ?_
  refine Zk4 0 2 3 7 (Zt (Cd.ret (Post.then_ret ?_)))
  refine Ze1 ?_
  refine⟨0,⟨by decide,val1_none hn,rfl⟩,kf,?_⟩
  rw[rest_none hn];exact rd
 ·have hr:rest sizeP o=rest gP o∧val1 sizeP o z:=by
   cases hx:o.bind gP with
   |none=>rw[hx] at hsz;exact⟨by rw[rest_none hx,rest_none hsz],val1_none hsz⟩
   |some x=>
    obtain⟨m,r⟩:=x
    have e:=hv m r hx
    subst e
    rw[hx] at hsz
    have hs2:o.bind sizeP=some (z,r):=by
     rw[hsz]
     show(if z<_ then _ else _)=_
     rw[if_pos (by omega)]
    exact⟨by rw[rest_some hx,rest_some hs2],val1_some hs2⟩
  refine Cd.skip (Ztq ?_)
  refine Zm ?_
  refine Zv (Runs.convI rfl rfl Tryz.underlying164 Tryz.underlying3 (wrapI (by omega) (by omega))) ?_
  refine Za ?_
  refine Zk4 0 2 3 7 (Zt (Cd.ret ?_))
  refine Ze1 ?_
  refine⟨z,⟨by omega,hr.2,rfl⟩,kf,?_⟩
  rw[hr.1];exact rd
theorem intBits_xor_i64 (p q:Int)(w:World){P:Program}(hp:0≤p)(hp2:p<9223372036854775808)(hq:q=0∨q= -1):(Op.intBits .xor .i64 p q).run P w= .ok (.int .i64 (if q=0 then p else -p-1)) w:=by
 have e1:(BitVec.ofInt IntKind.i64.bits p).toNat=p.toNat:=by simp[IntKind.bits];omega
 have hx:IntKind.i64.wrap (((BitVec.ofInt IntKind.i64.bits p)^^^(BitVec.ofInt IntKind.i64.bits q)).toNat:Int)=if q=0 then p else -p-1:=by
  rcases hq with rfl|rfl
  ·have:BitVec.ofInt IntKind.i64.bits p^^^BitVec.ofInt IntKind.i64.bits 0=BitVec.ofInt IntKind.i64.bits p:=by simp
   rw[this,e1,if_pos rfl,IntKind.wrap_i64];omega
  ·have h1:BitVec.ofInt 64 (-1)=BitVec.allOnes 64:=by decide
   have e2:(BitVec.ofInt 64 p).toNat=p.toNat:=e1
   show IntKind.i64.wrap (((BitVec.ofInt 64 p)^^^(BitVec.ofInt 64 (-1))).toNat:Int)=_
   rw[h1,BitVec.xor_allOnes,BitVec.toNat_not,e2,if_neg (by decide),IntKind.wrap_i64]
   have:(2:Nat)^64=18446744073709551616:=rfl
   rw[this]
   omega
 unfold Op.intBits
 simp only[hx]
 rfl
theorem rsigned_any (g:Nat)(o:Option (List Nat))(w:World)(h:Rd 163 w g o):Calls Tryz.prog 113 #[.pointer (some ⟨g,0,none⟩)] w fun e w'=>∃z:Int,(I64 z∧val1 sgnP o z∧e= .returned (.int .i64 z))∧Kf g w w'∧Rd 163 w' g (rest sgnP o):=by
 have rd:=h
 have kf:=Kf.refl g w
 have hsz:o.bind sgnP=(o.bind gP).map fun x=>(unsgn x.1,x.2):=by cases o<;>rfl
 refine Zs 14 Tryz.func113 ?_
 refine Zsr ?_
 refine Za ?_
 refine Zk2 0 2 (Ztq ?_)
 refine Zm ?_
 refine Zc (Ze Tryz.func102) (rgroups_any g o _ rd) ?_
 rintro e w1 ⟨z,⟨hz,hv,rfl⟩,fw1,rd'⟩
 refine⟨_,rfl,?_⟩
 replace kf:=kf.kf fw1 rd
 replace rd:=rd'
 clear rd'
 have hr:rest sgnP o=rest gP o∧val1 sgnP o (unsgn z):=by
  cases hx:o.bind gP with
  |none=>
   rw[hx] at hsz
   have hsz:o.bind sgnP=none:=hsz
   exact⟨by rw[rest_none hx,rest_none hsz],val1_none hsz⟩
  |some x=>
   obtain⟨m,r⟩:=x
   have e:=hv m r hx
   subst e
   rw[hx] at hsz
   have hs2:o.bind sgnP=some (unsgn z,r):=hsz
   exact⟨by rw[rest_some hx,rest_some hs2],val1_some hs2⟩
 have hm:z%2^1=z%2:=rfl
 have hun:unsgn z=if -((z%2:Nat):Int)=0 then((z/2:Nat):Int) else -((z/2:Nat):Int)-1:=by
  unfold unsgn
  by_cases h2:z%2=0
  ·rw[if_pos h2,if_pos (by omega)]
  ·rw[if_neg h2,if_neg (by omega)]
 refine Za ?_
 refine Zk3 0 2 3 (Ztq ?_)
 refine Zm ?_
 refine Zv (Runs.shrL rfl rfl rfl (s:=1) rfl (by omega)) ?_
 refine Zv ((Runs.convI rfl rfl Tryz.underlying164 Tryz.underlying2 (wrapI (by omega) (by omega))).cast (v':= .int .i64 ((z/2:Nat):Int)) rfl) ?_
 refine Zm ?_
 refine Zv (Runs.maskU (m:=1) 1 rfl rfl rfl rfl (by omega) (by omega)) ?_
 refine Zv ((Runs.convI rfl rfl Tryz.underlying164 Tryz.underlying2 (wrapI (by omega) (by omega))).cast (v':= .int .i64 ((z%2:Nat):Int)) rfl) ?_
 refine Zv (Runs.neg rfl rfl (r:= -((z%2:Nat):Int)) (by rw[IntKind.wrap_i64];omega)) ?_
 refine Zv (Runs.bin rfl rfl rfl rfl (intBits_xor_i64 _ _ _ (by omega) (by omega) (by omega))) ?_
 rw[←hun]
 refine Za ?_
 refine Zk3 0 2 3 (Zt (Cd.ret ?_))
 refine Ze1 ?_
 refine⟨unsgn z,⟨(sgn_unsgn hz).2,hr.2,rfl⟩,kf,?_⟩
 rw[hr.1];exact rd
theorem rtext_any (g most:Nat)(o:Option (List Nat))(w:World)(h:Rd 163 w g o):Calls Tryz.prog 154 #[.pointer (some ⟨g,0,none⟩), .int .i64 (most:Int)] w fun e w'=>∃z:List Nat,(Byt z∧val1 (txtP most) o z∧e= .returned (.string (strOf z)))∧Kf g w w'∧Rd 163 w' g (rest (txtP most) o):=by
 have rd:=h
 have kf:=Kf.refl g w
 have hsz:o.bind (txtP most)=(o.bind sizeP).bind fun x=>if x.1≤most then rawP x.1 x.2 else none:=by cases o<;>rfl
 have hbyt:∀s,o=some s→Byt s:=fun s e=>by
  obtain⟨s',b',-,hs',ho'⟩:=h
  rw[e] at ho'
  cases b' with
  |true=>cases ho'
  |false=>injection ho' with ho';rw[ho'];exact hs'
 refine Zs 16 Tryz.func154 ?_
 refine Zsr ?_
 refine Za ?_
 refine Zk3 0 1 4 (Ztq ?_)
 refine Zm ?_
 refine Zc (Ze Tryz.func52) (rsize_any g o _ rd) ?_
 rintro e w1 ⟨z,⟨hz,hv,rfl⟩,fw1,rd'⟩
 refine⟨_,rfl,?_⟩
 replace kf:=kf.kf fw1 rd
 replace rd:=rd'
 clear rd'
 refine Za ?_
 refine Zk4 0 1 4 5 (Zt ?_)
 refine Cd.seqJ (σ:=Unit) (fun _=>[(0, .pointer (some ⟨g,0,none⟩)),(5, .int .i64 (z:Int))]) (fun _ wr=>Kf g w wr∧Rd 163 wr g (if z≤most then rest sizeP o else none)) ?_ ?_
 ·skip
  refine Zsr ?_
  refine Zm ?_
  refine Zm ?_
  refine Zgt ?_
  refine Zk5 0 1 4 5 10 (Zt ?_)
  refine Cd.condD rfl (fun hc=> ?_) (fun hc=> ?_)
  ·skip
   refine Zr ?_
   refine Zm ?_
   refine Zc (Ze Tryz.func103) (fail_any g _ _ rd) ?_
   rintro e w2 ⟨rfl,fw2,rd'⟩
   refine⟨_,rfl,?_⟩
   replace kf:=kf.kf fw2 rd
   replace rd:=rd'
   clear rd'
   refine Zk5 0 1 4 5 10 ?_
   exact Post.join () ⟨rfl,rfl,trivial⟩ ⟨kf,by rw[if_neg (by omega)];exact rd⟩
  ·skip
   refine Cd.skip ?_
   exact Post.join () ⟨rfl,rfl,trivial⟩ ⟨kf,by rw[if_pos (by omega)];exact rd⟩
 clear kf rd
 rintro⟨⟩ wr ⟨kf,rd⟩
 refine Zsr ?_
 refine Zm ?_
 refine Zm ?_
 refine Zc (Ze Tryz.func99) (rraw_any g z _ _ rd) ?_
 rintro e w2 ⟨rfl,fw2,rd'⟩
 refine⟨_,rfl,?_⟩
 replace kf:=kf.kf fw2 rd
 replace rd:=rd'
 clear rd'
 refine Za ?_
 refine Zk3 0 4 5 (Zt (Cd.ret ?_))
 refine Ze1 ?_
 have hx:rest (rawP z) (if z≤most then rest sizeP o else none)=rest (txtP most) o∧∃t,t=rawV z (if z≤most then rest sizeP o else none)∧Byt t∧val1 (txtP most) o t:=by
  cases hs:o.bind sizeP with
  |none=>
   have e:(if z≤most then rest sizeP o else none)=none:=(by
    by_cases hz3:z≤most
    ·rw[if_pos hz3];exact rest_none hs
    ·rw[if_neg hz3])
   rw[hs] at hsz
   have hsz:o.bind (txtP most)=none:=hsz
   rw[e]
   exact⟨by rw[rest_none hsz];rfl,[],rfl,(fun d hd=>by cases hd),val1_none hsz⟩
  |some x=>
   obtain⟨m,r⟩:=x
   have e:=hv m r hs
   subst e
   rw[hs] at hsz
   replace hsz:o.bind (txtP most)=if z≤most then rawP z r else none:=hsz
   have hbr:Byt r:=by
    cases o with
    |none=>cases hs
    |some s=>exact Byt.right (a:=grp z) ((sizeP_cod.sound s z r (hbyt s rfl) hs).2▸hbyt s rfl)
   by_cases hz2:z≤most
   ·rw[if_pos hz2] at hsz
    rw[if_pos hz2,rest_some hs]
    cases hr:rawP z r with
    |none=>
     rw[hr] at hsz
     refine⟨by rw[rest_none hsz];exact rest_none hr,[],?_,(fun d hd=>by cases hd),val1_none hsz⟩
     show _=((rawP z r).map Prod.fst).getD []
     rw[hr];rfl
    |some y=>
     obtain⟨t,q⟩:=y
     rw[hr] at hsz
     refine⟨by rw[rest_some hsz];exact rest_some (o:=some r) hr,t,?_,?_,val1_some hsz⟩
     ·show _=((rawP z r).map Prod.fst).getD []
      rw[hr];rfl
     ·unfold rawP at hr
      split at hr
      ·injection hr with hr
       injection hr with hr _
       rw[←hr]
       exact hbr.take _
      ·cases hr
   ·rw[if_neg hz2] at hsz
    rw[if_neg hz2]
    exact⟨by rw[rest_none hsz];rfl,[],rfl,(fun d hd=>by cases hd),val1_none hsz⟩
 obtain⟨hx1,t,ht,hb,hv2⟩:=hx
 refine⟨t,⟨hb,hv2,by rw[ht]⟩,kf,?_⟩
 rw[←hx1];exact rd
theorem rend_any (g:Nat)(o:Option (List Nat))(w:World)(h:Rd 163 w g o):Calls Tryz.prog 53 #[.pointer (some ⟨g,0,none⟩)] w fun e w'=>e= .returned (.bool (decide (o=some [])))∧Grow w w':=by
 have rd:=h
 obtain⟨s,b,k0,hs,ho⟩:=h
 have bel:=Below.refl w.heap.size w
 refine Zs 13 Tryz.func53 ?_
 refine Zsr ?_
 refine Za ?_
 refine Zk2 0 2 (Ztq ?_)
 refine Zm ?_
 refine Zc (Ze Tryz.func100) (good_any g o _ rd) ?_
 rintro e w5 ⟨rfl,hb5⟩
 refine⟨_,rfl,?_⟩
 replace bel:=bel.step hb5
 replace k0:=k0.step hb5
 refine Zm ?_
 refine SeqC.start ?_
 refine Zco (fun hcx=>Runs.move rfl rfl) ?_
 refine Zn (fun hcx=>Runs.nilCheck rfl rfl) ?_
 refine Zn (fun hcx=>Runs.fieldB 0 rfl rfl Tryz.underlying163 rfl (by kernel_rfl)) ?_
 refine Zn (fun hcx=>Runs.loadB rfl rfl Tryz.underlying9 rfl k0 rfl) ?_
 refine Zn (fun hcx=>Runs.lenL rfl rfl Tryz.underlying9) ?_
 refine Zn (fun hcx=>Runs.eqlI rfl rfl rfl) ?_
 refine Zan ?_
 refine Za ?_
 refine Zk2 0 2 (Zt (Cd.ret ?_))
 refine Ze1 ?_
 refine⟨ret1 (bool_eq ?_),bel⟩
 subst ho
 cases b with
 |true=>rfl
 |false=>
  cases s with
  |nil=>rfl
  |cons c r=>simp;omega
def retP {α:Type}(x:α)(s:List Nat):Option (α × List Nat):=some (x,s)
def seqP {α β:Type}(p:List Nat→Option (α × List Nat))(k:α→List Nat→Option (β × List Nat))(s:List Nat):Option (β × List Nat):=(p s).bind fun x=>k x.1 x.2
section
variable {α β:Type} {p:List Nat→Option (α × List Nat)} {k:α→List Nat→Option (β × List Nat)} {o:Option (List Nat)} {a:α}
theorem seqP_bind (o:Option (List Nat)):o.bind (seqP p k)=(o.bind p).bind fun x=>k x.1 x.2:=by cases o<;>rfl
theorem seqP_rest (h:val1 p o a):rest (seqP p k) o=rest (k a) (rest p o):=by
 unfold rest
 rw[seqP_bind]
 cases hx:o.bind p with
 |none=>rfl
 |some x=>
  obtain⟨b,r⟩:=x
  have:=h b r hx
  subst this
  rfl
theorem seqP_val (h:val1 p o a){b:β}(hb:val1 (k a) (rest p o) b):val1 (seqP p k) o b:=by
 intro c r e
 rw[seqP_bind] at e
 cases hx:o.bind p with
 |none=>rw[hx] at e;cases e
 |some x=>
  obtain⟨d,q⟩:=x
  have:=h d q hx
  subst this
  rw[hx] at e
  refine hb c r ?_
  unfold rest
  rw[hx]
  exact e
theorem retP_val (x:α):val1 (retP x) o x:=fun a r e=>by
 cases o with
 |none=>cases e
 |some s=>injection e with e;injection e
theorem retP_rest (x:α):rest (retP x) o=o:=by cases o<;>rfl
end
def fnP:List Nat→Option (Fn × List Nat):=seqP sizeP fun a=>seqP sizeP fun b=>seqP (txtP 80) fun c=>seqP (txtP 80) fun d=>seqP sizeP fun e=>seqP sizeP fun f=>retP ⟨a,b,c,d,e,f⟩
theorem seqP_full {α β:Type}{p:List Nat→Option (α × List Nat)}{k:α→List Nat→Option (β × List Nat)}{enc:α→List Nat}{ok:α→Prop}(h:Cod p enc ok){a:α}(ha:ok a)(t:List Nat):seqP p k (enc a++t)=k a t:=by
 unfold seqP
 rw[h.full a t ha];rfl
theorem seqP_sound {α β:Type}{p:List Nat→Option (α × List Nat)}{k:α→List Nat→Option (β × List Nat)}{enc:α→List Nat}{ok:α→Prop}(h:Cod p enc ok){s:List Nat}{b:β}{r:List Nat}(hs:Byt s)(e:seqP p k s=some (b,r)):∃a q,ok a∧s=enc a++q∧Byt q∧k a q=some (b,r):=by
 unfold seqP at e
 cases hx:p s with
 |none=>rw[hx] at e;cases e
 |some x=>
  obtain⟨a,q⟩:=x
  rw[hx] at e
  obtain⟨h1,h2⟩:=h.sound s a q hs hx
  exact⟨a,q,h1,h2,Byt.right (a:=enc a) (h2▸hs),e⟩
theorem retP_eq {α:Type}{x y:α}{s r:List Nat}(h:retP x s=some (y,r)):x=y∧s=r:=by
 injection h with h
 injection h with h1 h2
 exact⟨h1,h2⟩
def Fn.ok2 (f:Fn):Prop:=f.num<9223372036854775808∧f.level<9223372036854775808∧f.first.length≤80∧f.last.length≤80∧f.count<9223372036854775808∧f.size<9223372036854775808
theorem Fn.ok.two {f:Fn}(h:f.ok):f.ok2:=⟨h.num,h.level,h.first80,h.last80,h.count,h.size⟩
theorem fnP_cod:Cod fnP Fn.bytes Fn.ok2 where
 full:=fun f r h=>by
  obtain⟨h1,h2,h3,h4,h5,h6⟩:=h
  unfold fnP Fn.bytes
  simp only[List.append_assoc]
  rw[seqP_full sizeP_cod h1,seqP_full sizeP_cod h2,seqP_full (txtP_cod 80 (by omega)) h3,seqP_full (txtP_cod 80 (by omega)) h4,seqP_full sizeP_cod h5,seqP_full sizeP_cod h6]
  rfl
 sound:=fun s f r hs h=>by
  unfold fnP at h
  obtain⟨a,s1,a1,e1,b1,h⟩:=seqP_sound sizeP_cod hs h
  obtain⟨b,s2,a2,e2,b2,h⟩:=seqP_sound sizeP_cod b1 h
  obtain⟨c,s3,a3,e3,b3,h⟩:=seqP_sound (txtP_cod 80 (by omega)) b2 h
  obtain⟨d,s4,a4,e4,b4,h⟩:=seqP_sound (txtP_cod 80 (by omega)) b3 h
  obtain⟨e,s5,a5,e5,b5,h⟩:=seqP_sound sizeP_cod b4 h
  obtain⟨f',s6,a6,e6,b6,h⟩:=seqP_sound sizeP_cod b5 h
  obtain⟨rfl,rfl⟩:=retP_eq h
  refine⟨⟨a1,a2,a3,a4,a5,a6⟩,?_⟩
  rw[e1,e2,e3,e4,e5,e6]
  simp only[Fn.bytes,List.append_assoc]
theorem run_build_F2 (a b:Int)(w:World):(Instr.build 81 #[(0, .int .i64 a),(1, .int .i64 b)]).run Tryz.prog w= .ok (.agg #[.int .i64 a, .int .i64 b, .string {data:= #[]}, .string {data:= #[]}, .int .i64 0, .int .i64 0]) w:=by
 have hu:=Tryz.underlying81
 go_simp
structure Fn.rd (f:Fn):Prop where
 num:f.num<9223372036854775808
 level:f.level<9223372036854775808
 count:f.count<9223372036854775808
 size:f.size<9223372036854775808
 first:Byt f.first
 last:Byt f.last
theorem take_any (g:Nat)(o:Option (List Nat))(w:World)(h:Rd 163 w g o):Calls Tryz.prog 116 #[.pointer (some ⟨g,0,none⟩)] w fun e w'=>∃z:Fn,(z.rd∧val1 fnP o z∧e= .returned z.fl.v)∧Kf g w w'∧Rd 163 w' g (rest fnP o):=by
 have rd:=h
 have kf:=Kf.refl g w
 refine Zs 22 Tryz.func116 ?_
 refine Zsr ?_
 refine Zl zero_edit_File ?_
 intro g2 w1 n2
 have e2:=Nat.le_trans kf.size n2.ge
 replace kf:=kf.step n2.below
 replace rd:=rd.step n2.below
 have k2:=n2.blk
 refine Zk2 0 2 (Ztq ?_)
 refine Zm ?_
 refine Zc (Ze Tryz.func52) (rsize_any g o _ rd) ?_
 rintro e w2 ⟨z1,⟨hz1,hv1,rfl⟩,fw2,rd'⟩
 refine⟨_,rfl,?_⟩
 replace kf:=kf.kf fw2 rd
 replace k2:=k2.kf fw2 rd
 replace rd:=rd'
 clear rd'
 refine Zm ?_
 refine Zc (Ze Tryz.func52) (rsize_any g _ _ rd) ?_
 rintro e w3 ⟨z2,⟨hz2,hv2,rfl⟩,fw3,rd'⟩
 refine⟨_,rfl,?_⟩
 replace kf:=kf.kf fw3 rd
 replace k2:=k2.kf fw3 rd
 replace rd:=rd'
 clear rd'
 refine Zv (Runs.build rfl rfl (run_build_F2 _ _ _)) ?_
 refine Zl zero_edit_File ?_
 intro g3 w4 n3
 have e3:=Nat.le_trans kf.size n3.ge
 have l3:=Nat.lt_of_lt_of_le k2.lt n3.ge
 replace kf:=kf.step n3.below
 replace rd:=rd.step n3.below
 replace k2:=k2.step n3.below
 have k3:=n3.blk
 refine Zo 6 k3 ?_
 intro w5 pw5
 replace kf:=kf.put k3 pw5 e3
 replace rd:=rd.put k3 pw5 e3
 replace k2:=k2.put pw5 (by omega)
 replace k3:=pw5.blk
 refine Zk3 0 2 3 (Ztq ?_)
 refine Zm ?_
 refine Zc (Ze Tryz.func154) (rtext_any g 80 _ _ rd) ?_
 rintro e w6 ⟨z3,⟨hz3,hv3,rfl⟩,fw6,rd'⟩
 refine⟨_,rfl,?_⟩
 replace kf:=kf.kf fw6 rd
 replace k2:=k2.kf fw6 rd
 replace k3:=k3.kf fw6 rd
 replace rd:=rd'
 clear rd'
 refine Zf 2 Tryz.underlying81 ?_
 refine Zq k3 ?_
 intro w7 pw7
 replace kf:=kf.put k3 pw7 e3
 replace rd:=rd.put k3 pw7 e3
 replace k2:=k2.put pw7 (by omega)
 replace k3:=pw7.blk
 refine Zk3 0 2 3 (Ztq ?_)
 refine Zm ?_
 refine Zc (Ze Tryz.func154) (rtext_any g 80 _ _ rd) ?_
 rintro e w8 ⟨z4,⟨hz4,hv4,rfl⟩,fw8,rd'⟩
 refine⟨_,rfl,?_⟩
 replace kf:=kf.kf fw8 rd
 replace k2:=k2.kf fw8 rd
 replace k3:=k3.kf fw8 rd
 replace rd:=rd'
 clear rd'
 refine Zf 3 Tryz.underlying81 ?_
 refine Zq k3 ?_
 intro w9 pw9
 replace kf:=kf.put k3 pw9 e3
 replace rd:=rd.put k3 pw9 e3
 replace k2:=k2.put pw9 (by omega)
 replace k3:=pw9.blk
 refine Zk3 0 2 3 (Ztq ?_)
 refine Zm ?_
 refine Zc (Ze Tryz.func52) (rsize_any g _ _ rd) ?_
 rintro e w10 ⟨z5,⟨hz5,hv5,rfl⟩,fw10,rd'⟩
 refine⟨_,rfl,?_⟩
 replace kf:=kf.kf fw10 rd
 replace k2:=k2.kf fw10 rd
 replace k3:=k3.kf fw10 rd
 replace rd:=rd'
 clear rd'
 refine Zf 4 Tryz.underlying81 ?_
 refine Zq k3 ?_
 intro w11 pw11
 replace kf:=kf.put k3 pw11 e3
 replace rd:=rd.put k3 pw11 e3
 replace k2:=k2.put pw11 (by omega)
 replace k3:=pw11.blk
 refine Zk3 0 2 3 (Ztq ?_)
 refine Zm ?_
 refine Zc (Ze Tryz.func52) (rsize_any g _ _ rd) ?_
 rintro e w12 ⟨z6,⟨hz6,hv6,rfl⟩,fw12,rd'⟩
 refine⟨_,rfl,?_⟩
 replace kf:=kf.kf fw12 rd
 replace k2:=k2.kf fw12 rd
 replace k3:=k3.kf fw12 rd
 replace rd:=rd'
 clear rd'
 refine Zf 5 Tryz.underlying81 ?_
 refine Zq k3 ?_
 intro w13 pw13
 replace kf:=kf.put k3 pw13 e3
 replace rd:=rd.put k3 pw13 e3
 replace k2:=k2.put pw13 (by omega)
 replace k3:=pw13.blk
 refine Zk3 0 2 3 (Ztq ?_)
 refine ZW 6 Tryz.underlying81 k3 ?_
 refine Zo 6 k2 ?_
 intro w14 pw14
 replace kf:=kf.put k2 pw14 e2
 replace rd:=rd.put k2 pw14 e2
 replace k3:=k3.put pw14 (by omega)
 replace k2:=pw14.blk
 refine Zk3 0 2 3 (Zt (Cd.ret ?_))
 refine Zec 6 k2 Tryz.underlying81 ?_
 refine⟨⟨z1,z2,z3,z4,z5,z6⟩,⟨⟨hz1,hz2,hz5,hz6,hz3,hz4⟩,?_,rfl⟩,kf,?_⟩
 ·exact seqP_val hv1 (seqP_val hv2 (seqP_val hv3 (seqP_val hv4 (seqP_val hv5 (seqP_val hv6 (retP_val _))))))
 ·unfold fnP
  rw[seqP_rest hv1,seqP_rest hv2,seqP_rest hv3,seqP_rest hv4,seqP_rest hv5,seqP_rest hv6,retP_rest]
  exact rd
theorem Kf.app {g n:Nat}{w0 w w':World}{v:Value}{B size:Nat}{e:TypeId}{xs:List Value}(h:Kf g w0 w)(_o:Own w B e size v n xs)(ha:App w w' w0.heap.size v):Kf g w0 w':=
 ⟨ha.below.os.trans h.only.os,ha.below.tape.trans h.only.tape,ha.below.output.trans h.only.output,Nat.le_trans h.only.size ha.below.size,fun k hk hne=>(ha.below.block k hk).trans (h.only.block k hk hne)⟩
theorem Blk.app {k n B B' size:Nat}{w w':World}{t e:TypeId}{cs:Array Value}{v:Value}{xs:List Value}(h:Blk w k t cs)(o:Own w B e size v n xs)(ha:App w w' B' v)(hne:e≠t:=by decide):Blk w' k t cs:=h.grown ha.grown (fun e'=>own_blk_ne o.row h hne e'.symm)
theorem Rd.app {g n B B' size:Nat}{w w':World}{T e:TypeId}{q:Option (List Nat)}{v:Value}{xs:List Value}(h:Rd T w g q)(o:Own w B e size v n xs)(ha:App w w' B' v)(hne:e≠T:=by decide):Rd T w' g q:=by
 obtain⟨s,b,h1,h2,h3⟩:=h
 exact⟨s,b,h1.app o ha hne,h2,h3⟩
theorem eg_size:∀args w,(callFunc 52 args).run Tryz.prog w= .ok (.enter 52 args) w:=fun args w=>run_enter Tryz.func52 (by kernel_rfl) rfl args w
theorem eg_take:∀args w,(callFunc 116 args).run Tryz.prog w= .ok (.enter 116 args) w:=fun args w=>run_enter Tryz.func116 (by kernel_rfl) rfl args w
def DNc (l:List Nat):List Value:=DI (DN l)
def Fc (l:List Fn):List Value:=fcs (l.map Fn.fl)
theorem DNc_snoc (l:List Nat)(x:Nat):DNc (l++[x])=DNc l++[.int .i64 (x:Int)]:=by simp[DNc,DI,DN]
theorem Fc_snoc (l:List Fn)(f:Fn):Fc (l++[f])=Fc l++f.fl.cs.toList:=by simp[Fc,fcs]
theorem getN_any (g:Nat)(o:Option (List Nat))(w:World)(h:Rd 163 w g o):Calls Tryz.prog 114 #[.pointer (some ⟨g,0,none⟩), .int .i64 100, .func (.func 52) #[] #[]] w fun e w'=>∃l:List Nat,(l.length≤100∧(∀x∈l,x<9223372036854775808)∧val1 (getP sizeP 100) o l∧∃A c,e= .returned (.slice A l.length c)∧Own w' w.heap.size 3 1 (.slice A l.length c) l.length (DNc l))∧Kf g w w'∧Rd 163 w' g (rest (getP sizeP 100) o):=by
 have rd:=h
 have kf:=Kf.refl g w
 have hdef:o.bind (getP sizeP 100)=(o.bind sizeP).bind fun x=>if x.1≤100 then listP sizeP x.1 [] x.2 else none:=by cases o<;>rfl
 refine Zs 34 Tryz.func114 ?_
 refine Zsr ?_
 refine Za ?_
 refine Zk4 0 1 2 6 (Ztq ?_)
 refine Zm ?_
 refine Zc (Ze Tryz.func52) (rsize_any g o _ rd) ?_
 rintro e w1 ⟨n,⟨hn,hv,rfl⟩,fw1,rd'⟩
 refine⟨_,rfl,?_⟩
 replace kf:=kf.kf fw1 rd
 replace rd:=rd'
 clear rd'
 refine Za ?_
 refine Zk5 0 1 2 6 7 (Zt ?_)
 refine Cd.seqJ (σ:=Option (List Nat)) (fun _=>[(0, .pointer (some ⟨g,0,none⟩)),(2, .func (.func 52) #[] #[]),(7, .int .i64 (n:Int))]) (fun q wr=>Kf g w wr∧Rd 163 wr g q∧q.bind (listP sizeP n [])=o.bind (getP sizeP 100)∧(q.isSome=true→n≤100)) ?_ ?_
 ·skip
  refine Zsr ?_
  refine Zm ?_
  refine Zm ?_
  refine Zgt ?_
  refine Zk6 0 1 2 6 7 13 (Zt ?_)
  refine Cd.condD rfl (fun hc=> ?_) (fun hc=> ?_)
  ·skip
   refine Zr ?_
   refine Zm ?_
   refine Zc (Ze Tryz.func99) (rraw_any g (-1) _ _ rd) ?_
   rintro e w2 ⟨rfl,fw2,rd'⟩
   refine⟨_,rfl,?_⟩
   replace kf:=kf.kf fw2 rd
   replace rd:=rd'
   clear rd'
   have hb:∀q:Option (List Nat),q.bind (rawP (-1))=none:=fun q=>by
    cases q with
    |none=>rfl
    |some s=>show rawP (-1) s=none;unfold rawP;rw[if_neg (by omega)]
   rw[rest_none (hb _)] at rd
   refine Zk6 0 1 2 6 7 13 ?_
   refine Post.join none ⟨rfl,rfl,rfl,trivial⟩ ⟨kf,rd,?_,by simp⟩
   rw[hdef]
   cases hx:o.bind sizeP with
   |none=>rfl
   |some x=>
    have:=hv x.1 x.2 hx
    show none=if x.1≤100 then _ else none
    rw[if_neg (by omega)]
  ·skip
   refine Cd.skip ?_
   refine Post.join (rest sizeP o) ⟨rfl,rfl,rfl,trivial⟩ ⟨kf,rd,?_,fun _=>by omega⟩
   rw[hdef]
   cases hx:o.bind sizeP with
   |none=>rw[rest_none hx];rfl
   |some x=>
    obtain⟨m,r⟩:=x
    have:=hv m r hx
    subst this
    rw[rest_some hx]
    show listP sizeP n [] r=if n≤100 then _ else none
    rw[if_pos (by omega)]
 clear kf rd
 rintro q0 wr ⟨kf,rd,hq0,hq1⟩
 obtain⟨R,hFIN⟩:∃R,R=o.bind (getP sizeP 100):=⟨_,rfl⟩
 rw[←hFIN] at hq0
 refine Zsr ?_
 refine Za ?_
 refine Zk4 0 2 7 8 (Zts (Cd.block ?_))
 have own:Own wr w.heap.size 3 1 (.slice none 0 0) 0 []:=Own.nil _ _ _ _
 refine Cd.loop (σ:=Nat × List Nat × Value × Option (List Nat)) (fun s=>[(0, .pointer (some ⟨g,0,none⟩)),(2, .func (.func 52) #[] #[]),(7, .int .i64 (s.1:Int)),(8,s.2.2.1)])
  (fun s wr=>s.1<9223372036854775808∧s.2.1.length≤100∧(s.2.2.2.isSome=true→s.2.1.length+s.1≤100)∧(∀x∈s.2.1,x<9223372036854775808)∧s.2.2.2.bind (listP sizeP s.1 s.2.1)=R∧Kf g w wr∧Rd 163 wr g s.2.2.2∧Own wr w.heap.size 3 1 s.2.2.1 s.2.1.length (DNc s.2.1)) (fun s=>s.1) (n,[], .slice none 0 0,q0) ⟨hn,Nat.zero_le _,fun h=>by simpa using hq1 h,by simp,hq0,kf,rd,own⟩ ⟨rfl,rfl,rfl,rfl,trivial⟩ ?_
 clear kf rd
 clear own
 rintro⟨k,acc,v,q⟩ wr ⟨hk,hacc,hsome,hall,hR,kf,rd,own⟩
 simp only at hk hacc hsome hall hR rd own
 show Cd _ _ _ _ [(0, .pointer (some ⟨g,0,none⟩)),(2, .func (.func 52) #[] #[]),(7, .int .i64 (k:Int)),(8,v)] _
 refine Cd.seq (Zsr ?_)
 refine Zm ?_
 refine Zgt ?_
 refine Zm ?_
 refine SeqC.start ?_
 refine Zco (fun hcx=>Runs.move rfl rfl) ?_
 refine SeqC.nextC rfl rfl rfl rfl rfl rfl rfl (fun hcx=>Ze Tryz.func100) (fun hcx=>good_any g q _ rd) ?_
 intro w2 hw2
 replace kf:=kf.step hw2
 replace rd:=rd.step hw2
 replace own:=own.step hw2
 refine Zan ?_
 refine Zk5 0 2 7 8 21 (Zt ?_)
 refine Cd.cond rfl (fun h=> ?_) (fun h=> ?_)
 ·obtain⟨k,rfl⟩:∃j,k=j+1:=⟨k-1,by simp at h;omega⟩
  obtain⟨s,rfl⟩:∃s,q=some s:=by
   cases q with
   |none=>simp at h
   |some s=>exact⟨s,rfl⟩
  have hsm:=hsome rfl
  have hdef2:(some s).bind (listP sizeP (k+1) acc)=((some s).bind sizeP).bind fun x=>listP sizeP k (acc++[x.1]) x.2:=rfl
  rw[hdef2] at hR
  refine Cd.skip (Zts (Cd.block (Zr ?_)))
  refine Zm ?_
  refine Zm ?_
  refine Zm ?_
  refine Seq.call (Enters.value (first:=[]) (cap:=[]) rfl rfl rfl eg_size) rfl rfl rfl (rsize_any g _ _ rd) ?_
  rintro e w3 ⟨z,⟨hz,hv1,rfl⟩,fw3,rd'⟩
  refine⟨_,rfl,?_⟩
  replace kf:=kf.kf fw3 rd
  replace own:=own.kf fw3 rd
  replace rd:=rd'
  clear rd'
  refine Seq.slice (vs:=[_]) (s:=1) rfl rfl rfl Tryz.underlying40 (by kernel_rfl) (zero_int) (by omega) (by omega) ⟨rfl,trivial⟩ rfl rfl rfl ?_
  intro g28 w4 n28
  have e28:=Nat.le_trans kf.size n28.ge
  replace kf:=kf.step n28.below
  replace rd:=rd.step n28.below
  replace own:=own.step n28.below
  have k28:=n28.blk
  have hrd:=Reads.blk (size:=1) k28 1 rfl
  refine Seq.append rfl rfl rfl Tryz.underlying40 (by kernel_rfl) zero_int rfl (by decide) (b:=8) (by kernel_rfl) own (hrd) (by intro x hx;simp[flatC,Value.cells] at hx;rw[hx];rfl) kf.size (by simp only[maxLen];omega) (by omega) rfl rfl rfl ?_
  intro vw5 w5 ow5 haw5
  replace kf:=kf.app own haw5
  replace rd:=rd.app own haw5
  clear own
  have own:=ow5
  refine Za ?_
  refine Zk5 0 2 7 8 21 (Post.block_normal (Ztr ?_))
  refine Zm ?_
  refine Zsu ?_
  refine Za ?_
  refine Zk5 0 2 7 8 21 ?_
  refine Post.round (k,acc++[z],_,rest sizeP (some s)) ⟨rfl,rfl,int_at (by omega),rfl,trivial⟩ ⟨by simp only;omega,by simp;omega,fun hh=>by simp;omega,fun x hx=> ?_,?_,kf,rd,by simp only;rw[List.length_append,DNc_snoc];exact own⟩ (by simp)
  ·rcases List.mem_append.1 hx with hx|hx
   ·exact hall x hx
   ·simp at hx;subst hx;exact hz
  ·simp only
   rw[←hR]
   cases hx:(some s).bind sizeP with
   |none=>rw[rest_none hx];rfl
   |some x=>
    obtain⟨m,r⟩:=x
    have:=hv1 m r hx
    subst this
    rw[rest_some hx];rfl
 ·obtain⟨A,c,rfl,-⟩:=own.reads
  refine Cd.exit (Post.then_exit (Post.round_exit (Post.block_exit (Zts (Zsr ?_)))))
  refine Zm ?_
  refine Zc (Ze Tryz.func100) (good_any g q _ rd) ?_
  rintro e w5 ⟨rfl,hb5⟩
  refine⟨_,rfl,?_⟩
  replace kf:=kf.step hb5
  replace rd:=rd.step hb5
  replace own:=own.step hb5
  refine Zno ?_
  refine Zk6 0 2 7 8 21 32 (Zt ?_)
  refine Cd.cond rfl (fun h2=> ?_) (fun h2=> ?_)
  ·have hqn:q=none:=by
    cases q with
    |none=>rfl
    |some s=>simp at h2
   subst hqn
   have hRn:R=none:=hR.symm
   refine Zsr ?_
   refine Za ?_
   refine Zk7 0 2 6 7 8 21 32 (Zt (Cd.ret (Post.then_ret ?_)))
   refine Ze1 ?_
   refine⟨[],⟨by simp,by simp,fun a r e=>(by rw[←hFIN,hRn] at e;cases e),none,0,rfl,Own.nil _ _ _ _⟩,kf,?_⟩
   rw[show rest (getP sizeP 100) o=none by unfold rest;rw[←hFIN,hRn];rfl]
   exact rd
  ·obtain⟨s,rfl⟩:∃s,q=some s:=by
    cases q with
    |none=>simp at h2
    |some s=>exact⟨s,rfl⟩
   have hk0:k=0:=by simp at h;omega
   subst hk0
   have hRs:R=some (acc,s):=hR.symm
   refine Cd.skip (Ztq ?_)
   refine Zm ?_
   refine Za ?_
   refine Zk7 0 2 6 7 8 21 32 (Zt (Cd.ret ?_))
   refine Ze1 ?_
   refine⟨acc,⟨by omega,hall,fun a r e=>(by rw[←hFIN,hRs] at e;injection e with e;injection e),A,c,rfl,own⟩,kf,?_⟩
   rw[show rest (getP sizeP 100) o=some s by unfold rest;rw[←hFIN,hRs];rfl]
   exact rd
theorem getF_any (g:Nat)(o:Option (List Nat))(w:World)(h:Rd 163 w g o):Calls Tryz.prog 115 #[.pointer (some ⟨g,0,none⟩), .int .i64 100, .func (.func 116) #[] #[]] w fun e w'=>∃l:List Fn,(l.length≤100∧(∀x∈l,x.rd)∧val1 (getP fnP 100) o l∧∃A c,e= .returned (.slice A l.length c)∧Own w' w.heap.size 81 6 (.slice A l.length c) l.length (Fc l))∧Kf g w w'∧Rd 163 w' g (rest (getP fnP 100) o):=by
 have rd:=h
 have kf:=Kf.refl g w
 have hdef:o.bind (getP fnP 100)=(o.bind sizeP).bind fun x=>if x.1≤100 then listP fnP x.1 [] x.2 else none:=by cases o<;>rfl
 refine Zs 34 Tryz.func115 ?_
 refine Zsr ?_
 refine Za ?_
 refine Zk4 0 1 2 6 (Ztq ?_)
 refine Zm ?_
 refine Zc (Ze Tryz.func52) (rsize_any g o _ rd) ?_
 rintro e w1 ⟨n,⟨hn,hv,rfl⟩,fw1,rd'⟩
 refine⟨_,rfl,?_⟩
 replace kf:=kf.kf fw1 rd
 replace rd:=rd'
 clear rd'
 refine Za ?_
 refine Zk5 0 1 2 6 7 (Zt ?_)
 refine Cd.seqJ (σ:=Option (List Nat)) (fun _=>[(0, .pointer (some ⟨g,0,none⟩)),(2, .func (.func 116) #[] #[]),(7, .int .i64 (n:Int))]) (fun q wr=>Kf g w wr∧Rd 163 wr g q∧q.bind (listP fnP n [])=o.bind (getP fnP 100)∧(q.isSome=true→n≤100)) ?_ ?_
 ·skip
  refine Zsr ?_
  refine Zm ?_
  refine Zm ?_
  refine Zgt ?_
  refine Zk6 0 1 2 6 7 13 (Zt ?_)
  refine Cd.condD rfl (fun hc=> ?_) (fun hc=> ?_)
  ·skip
   refine Zr ?_
   refine Zm ?_
   refine Zc (Ze Tryz.func99) (rraw_any g (-1) _ _ rd) ?_
   rintro e w2 ⟨rfl,fw2,rd'⟩
   refine⟨_,rfl,?_⟩
   replace kf:=kf.kf fw2 rd
   replace rd:=rd'
   clear rd'
   have hb:∀q:Option (List Nat),q.bind (rawP (-1))=none:=fun q=>by
    cases q with
    |none=>rfl
    |some s=>show rawP (-1) s=none;unfold rawP;rw[if_neg (by omega)]
   rw[rest_none (hb _)] at rd
   refine Zk6 0 1 2 6 7 13 ?_
   refine Post.join none ⟨rfl,rfl,rfl,trivial⟩ ⟨kf,rd,?_,by simp⟩
   rw[hdef]
   cases hx:o.bind sizeP with
   |none=>rfl
   |some x=>
    have:=hv x.1 x.2 hx
    show none=if x.1≤100 then _ else none
    rw[if_neg (by omega)]
  ·skip
   refine Cd.skip ?_
   refine Post.join (rest sizeP o) ⟨rfl,rfl,rfl,trivial⟩ ⟨kf,rd,?_,fun _=>by omega⟩
   rw[hdef]
   cases hx:o.bind sizeP with
   |none=>rw[rest_none hx];rfl
   |some x=>
    obtain⟨m,r⟩:=x
    have:=hv m r hx
    subst this
    rw[rest_some hx]
    show listP fnP n [] r=if n≤100 then _ else none
    rw[if_pos (by omega)]
 clear kf rd
 rintro q0 wr ⟨kf,rd,hq0,hq1⟩
 obtain⟨R,hFIN⟩:∃R,R=o.bind (getP fnP 100):=⟨_,rfl⟩
 rw[←hFIN] at hq0
 refine Zsr ?_
 refine Za ?_
 refine Zk4 0 2 7 8 (Zts (Cd.block ?_))
 have own:Own wr w.heap.size 81 6 (.slice none 0 0) 0 []:=Own.nil _ _ _ _
 refine Cd.loop (σ:=Nat × List Fn × Value × Option (List Nat)) (fun s=>[(0, .pointer (some ⟨g,0,none⟩)),(2, .func (.func 116) #[] #[]),(7, .int .i64 (s.1:Int)),(8,s.2.2.1)])
  (fun s wr=>s.1<9223372036854775808∧s.2.1.length≤100∧(s.2.2.2.isSome=true→s.2.1.length+s.1≤100)∧(∀x∈s.2.1,x.rd)∧s.2.2.2.bind (listP fnP s.1 s.2.1)=R∧Kf g w wr∧Rd 163 wr g s.2.2.2∧Own wr w.heap.size 81 6 s.2.2.1 s.2.1.length (Fc s.2.1)) (fun s=>s.1) (n,[], .slice none 0 0,q0) ⟨hn,Nat.zero_le _,fun h=>by simpa using hq1 h,by simp,hq0,kf,rd,own⟩ ⟨rfl,rfl,rfl,rfl,trivial⟩ ?_
 clear kf rd
 clear own
 rintro⟨k,acc,v,q⟩ wr ⟨hk,hacc,hsome,hall,hR,kf,rd,own⟩
 simp only at hk hacc hsome hall hR rd own
 show Cd _ _ _ _ [(0, .pointer (some ⟨g,0,none⟩)),(2, .func (.func 116) #[] #[]),(7, .int .i64 (k:Int)),(8,v)] _
 refine Cd.seq (Zsr ?_)
 refine Zm ?_
 refine Zgt ?_
 refine Zm ?_
 refine SeqC.start ?_
 refine Zco (fun hcx=>Runs.move rfl rfl) ?_
 refine SeqC.nextC rfl rfl rfl rfl rfl rfl rfl (fun hcx=>Ze Tryz.func100) (fun hcx=>good_any g q _ rd) ?_
 intro w2 hw2
 replace kf:=kf.step hw2
 replace rd:=rd.step hw2
 replace own:=own.step hw2
 refine Zan ?_
 refine Zk5 0 2 7 8 21 (Zt ?_)
 refine Cd.cond rfl (fun h=> ?_) (fun h=> ?_)
 ·obtain⟨k,rfl⟩:∃j,k=j+1:=⟨k-1,by simp at h;omega⟩
  obtain⟨s,rfl⟩:∃s,q=some s:=by
   cases q with
   |none=>simp at h
   |some s=>exact⟨s,rfl⟩
  have hsm:=hsome rfl
  have hdef2:(some s).bind (listP fnP (k+1) acc)=((some s).bind fnP).bind fun x=>listP fnP k (acc++[x.1]) x.2:=rfl
  rw[hdef2] at hR
  refine Cd.skip (Zts (Cd.block (Zr ?_)))
  refine Zm ?_
  refine Zm ?_
  refine Zm ?_
  refine Seq.call (Enters.value (first:=[]) (cap:=[]) rfl rfl rfl eg_take) rfl rfl rfl (take_any g _ _ rd) ?_
  rintro e w3 ⟨z,⟨hz,hv1,rfl⟩,fw3,rd'⟩
  refine⟨_,rfl,?_⟩
  replace kf:=kf.kf fw3 rd
  replace own:=own.kf fw3 rd
  replace rd:=rd'
  clear rd'
  refine Seq.slice (vs:=[_]) (s:=6) rfl rfl rfl Tryz.underlying36 (by kernel_rfl) (zero_edit_File) (by omega) (by omega) ⟨rfl,trivial⟩ rfl rfl rfl ?_
  intro g28 w4 n28
  have e28:=Nat.le_trans kf.size n28.ge
  replace kf:=kf.step n28.below
  replace rd:=rd.step n28.below
  replace own:=own.step n28.below
  have k28:=n28.blk
  have hrd:=Reads.blk (size:=6) k28 1 rfl
  refine Seq.append rfl rfl rfl Tryz.underlying36 (by kernel_rfl) zero_edit_File rfl (by decide) (b:=64) (by kernel_rfl) own (hrd) (by intro x hx;simp[flatC,Value.cells] at hx;rcases hx with rfl|rfl|rfl|rfl|rfl|rfl<;>rfl) kf.size (by simp only[maxLen];omega) (by omega) rfl rfl rfl ?_
  intro vw5 w5 ow5 haw5
  replace kf:=kf.app own haw5
  replace rd:=rd.app own haw5
  clear own
  have own:=ow5
  refine Za ?_
  refine Zk5 0 2 7 8 21 (Post.block_normal (Ztr ?_))
  refine Zm ?_
  refine Zsu ?_
  refine Za ?_
  refine Zk5 0 2 7 8 21 ?_
  refine Post.round (k,acc++[z],_,rest fnP (some s)) ⟨rfl,rfl,int_at (by omega),rfl,trivial⟩ ⟨by simp only;omega,by simp;omega,fun hh=>by simp;omega,fun x hx=> ?_,?_,kf,rd,by simp only;rw[List.length_append,Fc_snoc];exact own⟩ (by simp)
  ·rcases List.mem_append.1 hx with hx|hx
   ·exact hall x hx
   ·simp at hx;subst hx;exact hz
  ·simp only
   rw[←hR]
   cases hx:(some s).bind fnP with
   |none=>rw[rest_none hx];rfl
   |some x=>
    obtain⟨m,r⟩:=x
    have:=hv1 m r hx
    subst this
    rw[rest_some hx];rfl
 ·obtain⟨A,c,rfl,-⟩:=own.reads
  refine Cd.exit (Post.then_exit (Post.round_exit (Post.block_exit (Zts (Zsr ?_)))))
  refine Zm ?_
  refine Zc (Ze Tryz.func100) (good_any g q _ rd) ?_
  rintro e w5 ⟨rfl,hb5⟩
  refine⟨_,rfl,?_⟩
  replace kf:=kf.step hb5
  replace rd:=rd.step hb5
  replace own:=own.step hb5
  refine Zno ?_
  refine Zk6 0 2 7 8 21 32 (Zt ?_)
  refine Cd.cond rfl (fun h2=> ?_) (fun h2=> ?_)
  ·have hqn:q=none:=by
    cases q with
    |none=>rfl
    |some s=>simp at h2
   subst hqn
   have hRn:R=none:=hR.symm
   refine Zsr ?_
   refine Za ?_
   refine Zk7 0 2 6 7 8 21 32 (Zt (Cd.ret (Post.then_ret ?_)))
   refine Ze1 ?_
   refine⟨[],⟨by simp,by simp,fun a r e=>(by rw[←hFIN,hRn] at e;cases e),none,0,rfl,Own.nil _ _ _ _⟩,kf,?_⟩
   rw[show rest (getP fnP 100) o=none by unfold rest;rw[←hFIN,hRn];rfl]
   exact rd
  ·obtain⟨s,rfl⟩:∃s,q=some s:=by
    cases q with
    |none=>simp at h2
    |some s=>exact⟨s,rfl⟩
   have hk0:k=0:=by simp at h;omega
   subst hk0
   have hRs:R=some (acc,s):=hR.symm
   refine Cd.skip (Ztq ?_)
   refine Zm ?_
   refine Za ?_
   refine Zk7 0 2 6 7 8 21 32 (Zt (Cd.ret ?_))
   refine Ze1 ?_
   refine⟨acc,⟨by omega,hall,fun a r e=>(by rw[←hFIN,hRs] at e;injection e with e;injection e),A,c,rfl,own⟩,kf,?_⟩
   rw[show rest (getP fnP 100) o=some s by unfold rest;rw[←hFIN,hRs];rfl]
   exact rd
structure Ed where
 lg:Int
 nx:Int
 sq:Int
 drop:List Nat
 add:List Fn
def decP:List Nat→Option (Ed × List Nat):=seqP sgnP fun a=>seqP sgnP fun b=>seqP sgnP fun c=>seqP (getP sizeP 100) fun d=>seqP (getP fnP 100) fun e=>retP ⟨a,b,c,d,e⟩
def Ed.laid (x:Ed):Bool:=laidB x.lg x.nx x.sq (DN x.drop) (x.add.map Fn.fl)
def decF (s:List Nat):Option Ed:=match decP s with
 |some (x,[])=>if x.laid=true then some x else none
 |_=>none
theorem run_build_E1 (z:Int)(w:World):(Instr.build 47 #[(0, .int .i64 z)]).run Tryz.prog w= .ok (.agg #[.int .i64 z, .int .i64 0, .int .i64 0, .slice none 0 0, .slice none 0 0]) w:=by
 have hu:=Tryz.underlying47
 go_simp
theorem run_build_Ez (w:World):(Instr.build 47 #[]).run Tryz.prog w= .ok (.agg #[.int .i64 0, .int .i64 0, .int .i64 0, .slice none 0 0, .slice none 0 0]) w:=by kernel_rfl
def DecR (B:Nat)(te:TypeId):Option Ed→Value→World→Prop
 |none,v,_=>v= .agg #[.int .i64 0, .int .i64 0, .int .i64 0, .slice none 0 0, .slice none 0 0]
 |some x,v,w=>∃A c A' c',v= .agg #[.int .i64 x.lg, .int .i64 x.nx, .int .i64 x.sq, .slice A x.drop.length c, .slice A' x.add.length c']∧Own w B 3 1 (.slice A x.drop.length c) x.drop.length (DNc x.drop)∧Own w B te 6 (.slice A' x.add.length c') x.add.length (Fc x.add)
theorem decode_any (s:List Nat)(w:World)(hs:Byt s):Calls Tryz.prog 58 #[.string (strOf s)] w fun e w'=>(∃v,e= .returned (.tuple #[v, .int .i64 (if(decF s).isSome=true then 0 else 3)])∧DecR w.heap.size 81 (decF s) v w')∧Grow w w':=by
 have bel:=Below.refl w.heap.size w
 have hdd:decF s=match decP s with|some (x,[])=>if x.laid=true then some x else none|_=>none:=rfl
 generalize decF s=D at *
 refine Zs 33 Tryz.func58 ?_
 refine Zsr ?_
 refine Zl zero_edit_Edit ?_
 intro g2 w1 n2
 have e2:=Nat.le_trans bel.size n2.ge
 replace bel:=bel.step n2.below
 have k2:=n2.blk
 refine Za ?_
 refine Zk3 0 2 3 (Ztq ?_)
 refine Zm ?_
 refine Zc (Ze Tryz.func51) (read_any s _ hs) ?_
 rintro e w5 ⟨g,rfl,hb5,hg,rd⟩
 refine⟨_,rfl,?_⟩
 replace bel:=bel.step hb5
 replace k2:=k2.step hb5
 have hgB:w.heap.size≤g:=by have:=e2;have:=k2.lt;have:=n2.below.size;omega
 have belr:=bel
 have hgl:=rd.lt
 have kf:=Kf.refl g w5
 refine Za ?_
 refine Zk4 0 2 3 4 (Ztq ?_)
 refine Zm ?_
 refine Zc (Ze Tryz.func113) (rsigned_any g _ _ rd) ?_
 rintro e w2 ⟨a,⟨ha,hva,rfl⟩,fw2,rd'⟩
 refine⟨_,rfl,?_⟩
 replace k2:=k2.kf fw2 rd
 replace kf:=kf.kf fw2 rd
 replace rd:=rd'
 clear rd'
 refine Zv (Runs.build rfl rfl (run_build_E1 _ _)) ?_
 refine Zl zero_edit_Edit ?_
 intro g5 w3 n5
 have e5:=Nat.le_trans kf.size n5.ge
 have l5:=Nat.lt_of_lt_of_le k2.lt n5.ge
 replace k2:=k2.step n5.below
 replace kf:=kf.step n5.below
 replace rd:=rd.step n5.below
 have k5:=n5.blk
 refine Zo 5 k5 ?_
 intro w4 pw4
 replace k2:=k2.put pw4 (by omega)
 replace kf:=kf.put k5 pw4 e5
 replace rd:=rd.put k5 pw4 e5
 replace k5:=pw4.blk
 refine Zk5 0 2 3 4 5 (Ztq ?_)
 refine Zm ?_
 refine Zc (Ze Tryz.func113) (rsigned_any g _ _ rd) ?_
 rintro e w5 ⟨b,⟨hb,hvb,rfl⟩,fw5,rd'⟩
 refine⟨_,rfl,?_⟩
 replace k2:=k2.kf fw5 rd
 replace kf:=kf.kf fw5 rd
 replace k5:=k5.kf fw5 rd
 replace rd:=rd'
 clear rd'
 refine Zf 1 Tryz.underlying47 ?_
 refine Zq k5 ?_
 intro w6 pw6
 replace k2:=k2.put pw6 (by omega)
 replace kf:=kf.put k5 pw6 e5
 replace rd:=rd.put k5 pw6 e5
 replace k5:=pw6.blk
 refine Zk5 0 2 3 4 5 (Ztq ?_)
 refine Zm ?_
 refine Zc (Ze Tryz.func113) (rsigned_any g _ _ rd) ?_
 rintro e w7 ⟨c,⟨hc,hvc,rfl⟩,fw7,rd'⟩
 refine⟨_,rfl,?_⟩
 replace k2:=k2.kf fw7 rd
 replace kf:=kf.kf fw7 rd
 replace k5:=k5.kf fw7 rd
 replace rd:=rd'
 clear rd'
 refine Zf 2 Tryz.underlying47 ?_
 refine Zq k5 ?_
 intro w8 pw8
 replace k2:=k2.put pw8 (by omega)
 replace kf:=kf.put k5 pw8 e5
 replace rd:=rd.put k5 pw8 e5
 replace k5:=pw8.blk
 refine Zk5 0 2 3 4 5 (Ztq ?_)
 refine Zm ?_
 have s1:=Nat.le_trans belr.size kf.size
 refine Zc (Ze Tryz.func114) (getN_any g _ _ rd) ?_
 rintro e w9 ⟨dl,⟨hdl,hdx,hvd,A,cA,rfl,own1⟩,fw9,rd'⟩
 refine⟨_,rfl,?_⟩
 replace k2:=k2.kf fw9 rd
 replace kf:=kf.kf fw9 rd
 replace k5:=k5.kf fw9 rd
 replace rd:=rd'
 clear rd'
 replace own1:Own _ w.heap.size _ _ _ _ _:=⟨own_base own1.row s1⟩
 refine Zf 3 Tryz.underlying47 ?_
 refine Zq k5 ?_
 intro w10 pw10
 replace k2:=k2.put pw10 (by omega)
 replace kf:=kf.put k5 pw10 e5
 replace rd:=rd.put k5 pw10 e5
 replace own1:=own1.put k5 pw10 e5
 replace k5:=pw10.blk
 refine Zk5 0 2 3 4 5 (Ztq ?_)
 refine Zm ?_
 have s2:=Nat.le_trans belr.size kf.size
 refine Zc (Ze Tryz.func115) (getF_any g _ _ rd) ?_
 rintro e w11 ⟨fl,⟨hfl,hfx,hvf,A',cA',rfl,own2⟩,fw11,rd'⟩
 refine⟨_,rfl,?_⟩
 replace k2:=k2.kf fw11 rd
 replace kf:=kf.kf fw11 rd
 replace k5:=k5.kf fw11 rd
 replace own1:=own1.kf fw11 rd
 replace rd:=rd'
 clear rd'
 replace own2:Own _ w.heap.size _ _ _ _ _:=⟨own_base own2.row s2⟩
 refine Zf 4 Tryz.underlying47 ?_
 refine Zq k5 ?_
 intro w12 pw12
 replace k2:=k2.put pw12 (by omega)
 replace kf:=kf.put k5 pw12 e5
 replace rd:=rd.put k5 pw12 e5
 replace own1:=own1.put k5 pw12 e5
 replace own2:=own2.put k5 pw12 e5
 replace k5:=pw12.blk
 refine Zk5 0 2 3 4 5 (Zts (Zsr ?_))
 refine Zm ?_
 refine Zc (Ze Tryz.func53) (rend_any g _ _ rd) ?_
 rintro e w20 ⟨rfl,hb20⟩
 refine⟨_,rfl,?_⟩
 replace k2:=k2.step hb20
 replace kf:=kf.step hb20
 replace rd:=rd.step hb20
 replace k5:=k5.step hb20
 replace own1:=own1.step hb20
 replace own2:=own2.step hb20
 have hval:val1 decP (some s) ⟨a,b,c,dl,fl⟩:=seqP_val hva (seqP_val hvb (seqP_val hvc (seqP_val hvd (seqP_val hvf (retP_val _)))))
 have hrest:rest decP (some s)=rest (getP fnP 100) (rest (getP sizeP 100) (rest sgnP (rest sgnP (rest sgnP (some s))))):=by
  unfold decP
  rw[seqP_rest hva,seqP_rest hvb,seqP_rest hvc,seqP_rest hvd,seqP_rest hvf,retP_rest]
 rw[←hrest] at rd⊢
 have hlaid:∃L,L=laidB a b c (DN dl) (fl.map Fn.fl):=⟨_,rfl⟩
 obtain⟨L,hL⟩:=hlaid
 obtain⟨A1,c1,hv1,hr1⟩:=own1.reads
 injection hv1 with e1 _ e2'
 subst e1 e2'
 obtain⟨A2,c2,hv2,hr2⟩:=own2.reads
 injection hv2 with e1 _ e2'
 subst e1 e2'
 have hl:=laid_any a b c _ A A' cA cA' (DN dl) (fl.map Fn.fl) w20 (by rw[DN,List.length_map];exact hr1) (by rw[List.length_map];exact hr2) (Nat.le_refl _)
 rw[←hL] at hl
 simp only[DN,List.length_map] at hl
 refine Zno ?_
 refine Zm ?_
 refine SeqC.start ?_
 refine Zco (fun hcx=>Runs.loadW rfl rfl Tryz.underlying47 rfl k5 (m:=5) (by kernel_rfl) rfl) ?_
 refine SeqC.nextC rfl rfl rfl rfl rfl rfl rfl (fun hcx=>Ze Tryz.func61) (fun hcx=>hl) ?_
 intro w13 hw13
 replace k2:=k2.step hw13
 replace kf:=kf.step hw13
 replace rd:=rd.step hw13
 replace k5:=k5.step hw13
 replace own1:=own1.step hw13
 replace own2:=own2.step hw13
 refine Zn (fun hcx=>Runs.not rfl rfl) ?_
 refine Zor ?_
 refine Zk6 0 2 3 4 5 30 (Zt ?_)
 refine Cd.cond rfl (fun h=> ?_) (fun h=> ?_)
 ·have hD:D=none:=by
   rw[hdd]
   cases hx:decP s with
   |none=>rfl
   |some x=>
    obtain⟨x,r⟩:=x
    have e:=hval x r hx
    subst e
    have hq:rest decP (some s)=some r:=rest_some (o:=some s) hx
    rw[hq] at h
    cases r with
    |cons c r=>rfl
    |nil=>
     simp at h
     subst h
     show(if Ed.laid _=true then _ else none)=none
     unfold Ed.laid
     rw[if_neg (by rw[←hL];simp)]
  subst hD
  have bel:=belr.trans (kf.to hgB hgl)
  refine Zsr ?_
  refine Zv (Runs.build rfl rfl (run_build_Ez _)) ?_
  refine Zo 5 k2 ?_
  intro w14 pw14
  replace k5:=k5.put pw14 (by omega)
  replace own1:=own1.put k2 pw14 e2
  replace own2:=own2.put k2 pw14 e2
  replace bel:=bel.put k2 pw14 e2
  replace k2:=pw14.blk
  refine Za ?_
  refine Zk6 0 2 3 4 5 30 (Zt (Cd.ret (Post.then_ret ?_)))
  refine Post.endC2 rfl rfl rfl k2 Tryz.underlying47 rfl (m:=5) (by kernel_rfl) rfl (.inl rfl) ?_
  exact⟨⟨_,rfl,rfl⟩,bel⟩
 ·have hD:D=some ⟨a,b,c,dl,fl⟩:=by
   rw[hdd]
   cases hx:decP s with
   |none=>
    rw[show rest decP (some s)=none from rest_none (o:=some s) hx] at h
    simp at h
   |some x=>
    obtain⟨x,r⟩:=x
    have e:=hval x r hx
    subst e
    have hq:rest decP (some s)=some r:=rest_some (o:=some s) hx
    rw[hq] at h
    cases r with
    |cons c r=>simp at h
    |nil=>
     simp at h
     subst h
     show(if Ed.laid _=true then _ else none)=_
     unfold Ed.laid
     rw[if_pos hL.symm]
  subst hD
  have bel:=belr.trans (kf.to hgB hgl)
  refine Cd.skip (Ztq ?_)
  refine ZW 5 Tryz.underlying47 k5 ?_
  refine Zo 5 k2 ?_
  intro w14 pw14
  replace k5:=k5.put pw14 (by omega)
  replace own1:=own1.put k2 pw14 e2
  replace own2:=own2.put k2 pw14 e2
  replace bel:=bel.put k2 pw14 e2
  replace k2:=pw14.blk
  refine Za ?_
  refine Zk6 0 2 3 4 5 30 (Zt (Cd.ret ?_))
  refine Post.endC2 rfl rfl rfl k2 Tryz.underlying47 rfl (m:=5) (by kernel_rfl) rfl (.inl rfl) ?_
  exact⟨⟨_,rfl,A,cA,A',cA',rfl,own1,own2⟩,bel⟩
end Go.Proofs.YtdpipgidpkmolaaGreatDoor
namespace Go.Proofs.YtdpipgidpkmolaaGreatDoor
open Go.RowKit
def nFn (f:Fl):Fn:=⟨f.num.toNat,f.level.toNat,f.first,f.last,f.count.toNat,f.size.toNat⟩
theorem laid_forms {lg nx sq:Int}{drop:List Int}{add:List Fl}(h:laidB lg nx sq drop add=true)(hd:∀x∈drop,I64 x)(ha:∀f∈add,f.rng):
  DN (drop.map Int.toNat)=drop∧(add.map nFn).map Fn.fl=add∧(∀n∈drop.map Int.toNat,n<9223372036854775808)∧(∀f∈add.map nFn,f.ok)∧drop.length≤100∧add.length≤100:=by
 obtain⟨-,-,-,h4,h5,h6,h7⟩:=(laidB_iff ..).1 h
 have hb:∀f∈add,0≤f.num∧0≤f.level∧0≤f.count∧0≤f.size∧f.first.length≤80∧f.last.length≤80:=fun f hf=>by
  have:=h7 f hf
  rw[badF_iff] at this
  have:=of_decide_eq_false this
  omega
 refine⟨?_,?_,?_,?_,h4,h5⟩
 ·unfold DN
  rw[List.map_map]
  conv=>rhs;rw[←List.map_id drop]
  refine List.map_congr_left fun x hx=> ?_
  have:=h6 x hx
  show((x.toNat:Nat):Int)=x
  omega
 ·rw[List.map_map]
  conv=>rhs;rw[←List.map_id add]
  refine List.map_congr_left fun f hf=> ?_
  obtain⟨b1,b2,b3,b4,-,-⟩:=hb f hf
  show(⟨((f.num.toNat:Nat):Int),((f.level.toNat:Nat):Int),f.first,f.last,((f.count.toNat:Nat):Int),((f.size.toNat:Nat):Int)⟩:Fl)=f
  rw[Int.toNat_of_nonneg b1,Int.toNat_of_nonneg b2,Int.toNat_of_nonneg b3,Int.toNat_of_nonneg b4]
 ·intro n hn
  obtain⟨x,hx,rfl⟩:=List.mem_map.1 hn
  have:=(hd x hx).2
  have:=h6 x hx
  omega
 ·intro g hg
  obtain⟨f,hf,rfl⟩:=List.mem_map.1 hg
  obtain⟨b1,b2,b3,b4,b5,b6⟩:=hb f hf
  have r:=ha f hf
  have r1:=r.num.2
  have r2:=r.level.2
  have r3:=r.count.2
  have r4:=r.size.2
  exact⟨by show f.num.toNat<_;omega,by show f.level.toNat<_;omega,by show f.count.toNat<_;omega,by show f.size.toNat<_;omega,r.first,r.last,b5,b6⟩
def Ed.enc (x:Ed):List Nat:=encB x.lg x.nx x.sq x.drop x.add
structure Ed.ok (x:Ed):Prop where
 lg:I64 x.lg
 nx:I64 x.nx
 sq:I64 x.sq
 drop:x.drop.length≤100∧∀n∈x.drop,n<9223372036854775808
 add:x.add.length≤100∧∀f∈x.add,f.ok2
theorem decP_cod:Cod decP Ed.enc Ed.ok where
 full:=fun x r h=>by
  unfold decP Ed.enc encB
  simp only[List.append_assoc]
  rw[seqP_full sgnP_cod h.lg,seqP_full sgnP_cod h.nx,seqP_full sgnP_cod h.sq]
  have e1:∀t,grp x.drop.length++(x.drop.flatMap grp++t)=(grp x.drop.length++x.drop.flatMap grp)++t:=fun t=>(List.append_assoc _ _ _).symm
  have e2:∀t,grp x.add.length++(x.add.flatMap Fn.bytes++t)=(grp x.add.length++x.add.flatMap Fn.bytes)++t:=fun t=>(List.append_assoc _ _ _).symm
  rw[e1,seqP_full (getP_cod sizeP_cod 100 (by decide)) h.drop,e2,seqP_full (getP_cod fnP_cod 100 (by decide)) h.add]
  rfl
 sound:=fun s x r hs h=>by
  unfold decP at h
  obtain⟨a,s1,a1,e1,b1,h⟩:=seqP_sound sgnP_cod hs h
  obtain⟨b,s2,a2,e2,b2,h⟩:=seqP_sound sgnP_cod b1 h
  obtain⟨c,s3,a3,e3,b3,h⟩:=seqP_sound sgnP_cod b2 h
  obtain⟨d,s4,a4,e4,b4,h⟩:=seqP_sound (getP_cod sizeP_cod 100 (by decide)) b3 h
  obtain⟨f,s5,a5,e5,b5,h⟩:=seqP_sound (getP_cod fnP_cod 100 (by decide)) b4 h
  obtain⟨rfl,rfl⟩:=retP_eq h
  refine⟨⟨a1,a2,a3,a4,a5⟩,?_⟩
  rw[e1,e2,e3,e4,e5]
  simp only[Ed.enc,encB,List.append_assoc]
theorem decF_full {x:Ed}(h:x.ok)(hl:x.laid=true):decF x.enc=some x:=by
 have:=decP_cod.full x [] h
 rw[List.append_nil] at this
 unfold decF
 rw[this]
 show(if x.laid=true then some x else none)=_
 rw[if_pos hl]
theorem encB_byt {lg nx sq:Int}{drop:List Nat}{add:List Fn}(h1:I64 lg)(h2:I64 nx)(h3:I64 sq)(hd:∀n∈drop,n<9223372036854775808)(hf:∀f∈add,f.ok)(hdl:drop.length≤1000)(hal:add.length≤1000):Byt (encB lg nx sq drop add):=by
 have ht:∀s,Byt s→s.length≤80→Byt (txt s):=fun s hs hl=>Byt.app (grp_lt (by omega)) hs
 unfold encB
 refine Byt.app (grp_lt (sgn_lt h1)) (Byt.app (grp_lt (sgn_lt h2)) (Byt.app (grp_lt (sgn_lt h3)) (Byt.app (grp_lt (by omega)) (Byt.app ?_ (Byt.app (grp_lt (by omega)) ?_)))))
 ·intro d hdd
  obtain⟨n,hn,hd2⟩:=List.mem_flatMap.1 hdd
  exact grp_lt (by have:=hd n hn;omega) d hd2
 ·intro d hdd
  obtain⟨f,hfm,hd2⟩:=List.mem_flatMap.1 hdd
  have o:=hf f hfm
  have n1:=o.num
  have n2:=o.level
  have n3:=o.count
  have n4:=o.size
  have:Byt f.bytes:=Byt.app (grp_lt (by omega)) (Byt.app (grp_lt (by omega)) (Byt.app (ht _ o.first o.first80) (Byt.app (ht _ o.last o.last80) (Byt.app (grp_lt (by omega)) (grp_lt (by omega))))))
  exact this d hd2
structure EdV.rng (E:EdV):Prop where
 lg:I64 E.lg
 nx:I64 E.nx
 sq:I64 E.sq
 drop:∀x∈E.drop,I64 x
 add:∀f∈E.add,f.rng
def EdV.laid (E:EdV):Bool:=laidB E.lg E.nx E.sq E.drop E.add
def EdV.bytes (E:EdV):List Nat:=encB E.lg E.nx E.sq (E.drop.map Int.toNat) (E.add.map nFn)
def Ed.edV (x:Ed):EdV:=⟨x.lg,x.nx,x.sq,DN x.drop,x.add.map Fn.fl⟩
theorem EdV.back {E:EdV}(h:E.rng)(hl:E.laid=true):Byt E.bytes∧E.bytes.length≤24000∧∃x,decF E.bytes=some x∧x.edV=E:=by
 obtain⟨ed,ea,hd9,hf9,hd1,hf1⟩:=laid_forms hl h.drop h.add
 obtain⟨drop',hdr⟩:∃d',d'=E.drop.map Int.toNat:=⟨_,rfl⟩
 obtain⟨add',har⟩:∃a',a'=E.add.map nFn:=⟨_,rfl⟩
 have hdl':drop'.length=E.drop.length:=by rw[hdr,List.length_map]
 have hal':add'.length=E.add.length:=by rw[har,List.length_map]
 have hb:E.bytes=encB E.lg E.nx E.sq drop' add':=by unfold EdV.bytes;rw[←hdr,←har]
 rw[←hdr] at ed hd9
 rw[←har] at ea hf9
 obtain⟨x,hx⟩:∃x:Ed,x=⟨E.lg,E.nx,E.sq,drop',add'⟩:=⟨_,rfl⟩
 have hxe:x.enc=encB E.lg E.nx E.sq drop' add':=by rw[hx];rfl
 have hxok:x.ok:=by rw[hx];exact⟨h.lg,h.nx,h.sq,⟨by simp only;omega,hd9⟩,⟨by simp only;omega,fun f hf=>(hf9 f hf).two⟩⟩
 have hxl:x.laid=true:=by
  rw[hx]
  show laidB E.lg E.nx E.sq (DN drop') (add'.map Fn.fl)=true
  rw[ed,ea]
  exact hl
 rw[hb]
 refine⟨encB_byt h.lg h.nx h.sq hd9 hf9 (by omega) (by omega),?_,x,by rw[←hxe];exact decF_full hxok hxl,?_⟩
 ·have h1:=grp_len (sgn E.lg)
  have h2:=grp_len (sgn E.nx)
  have h3:=grp_len (sgn E.sq)
  have h4:=grp_len drop'.length
  have h5:=grp_len add'.length
  have h6:=flat_len grp 10 (l:=drop') (fun x _=>grp_len x)
  have h7:=flat_len Fn.bytes 220 (l:=add') (fun x hx=>Fn.len (hf9 x hx))
  simp only[encB,List.length_append]
  omega
 ·rw[hx]
  show(⟨E.lg,E.nx,E.sq,DN drop',add'.map Fn.fl⟩:EdV)=E
  rw[ed,ea]
theorem encode_all (E:EdV)(B:Nat)(A A':Option Addr)(n n' cap cap':Nat)(w:World)(hn:E.drop.length=n)(hn':E.add.length=n')(hr:Reads w B 1 A n (DI E.drop))(hr':Reads w B 6 A' n' (fcs E.add))(hB:B≤w.heap.size)(h:E.rng):
  Calls Tryz.prog 32 #[.agg #[.int .i64 E.lg, .int .i64 E.nx, .int .i64 E.sq, .slice A n cap, .slice A' n' cap']] w fun e w'=>((E.laid=false∧e= .returned (.tuple #[.string {data:= #[]}, .int .i64 1]))∨(E.laid=true∧e= .returned (.tuple #[.string (strOf E.bytes), .int .i64 0])))∧Grow w w':=by
 subst hn hn'
 cases hl:E.laid with
 |false=>exact(encode_not E.lg E.nx E.sq B A A' cap cap' E.drop E.add w hr hr' hB hl).mono fun e w' ⟨h1,h2⟩=>⟨.inl ⟨rfl,h1⟩,h2⟩
 |true=>
  obtain⟨ed,ea,hd9,hf9,hd1,hf1⟩:=laid_forms hl h.drop h.add
  obtain⟨drop',hdr⟩:∃d',d'=E.drop.map Int.toNat:=⟨_,rfl⟩
  obtain⟨add',har⟩:∃a',a'=E.add.map nFn:=⟨_,rfl⟩
  have hdl':drop'.length=E.drop.length:=by rw[hdr,List.length_map]
  have hal':add'.length=E.add.length:=by rw[har,List.length_map]
  have hb:E.bytes=encB E.lg E.nx E.sq drop' add':=by unfold EdV.bytes;rw[←hdr,←har]
  rw[←hdr] at ed hd9
  rw[←har] at ea hf9
  have hen:=encode_any E.lg E.nx E.sq B A A' cap cap' drop' add' w (by rw[hdl',ed];exact hr) (by rw[hal',ea];exact hr') hB h.lg h.nx h.sq hd9 hf9 (by omega) (by omega) (by rw[ed,ea];exact hl)
  rw[hdl',hal',←hb] at hen
  exact hen.mono fun e w' ⟨h1,h2⟩=>⟨.inr ⟨rfl,h1⟩,h2⟩
end Go.Proofs.YtdpipgidpkmolaaGreatDoor
namespace Go.Proofs.YtdpipgidpkmolaaGreatDoor
open Go.RowKit
structure Lg (B g0:Nat)(w w':World):Prop where
 below:Below (min B w.heap.size) w w'
 keep:∀k t cs,Blk w k t cs→t≠65→t≠100→k≠g0→Blk w' k t cs
section
variable {B g0:Nat} {w w' w'':World}
theorem Lg.refl (B g0:Nat)(w:World):Lg B g0 w w:=⟨Below.refl _ _,fun _ _ _ h _ _ _=>h⟩
theorem Lg.trans (h:Lg B g0 w w')(k:Lg B g0 w' w''):Lg B g0 w w'':=⟨h.below.trans (k.below.mono (by have:=h.below.size;omega)),fun i t cs hb h1 h2 h3=>k.keep i t cs (h.keep i t cs hb h1 h2 h3) h1 h2 h3⟩
theorem Lg.lg (h:Lg B g0 w w')(k:Lg B g0 w' w''):Lg B g0 w w'':=h.trans k
theorem Lg.of (h:Df B w w'):Lg B g0 w w':=⟨h.below,fun i t cs hb h1 h2 _=>h.keep i t cs hb h1 h2⟩
theorem Lg.df (h:Lg B g0 w w')(k:Df B w' w''):Lg B g0 w w'':=h.trans (Lg.of k)
theorem Lg.step (h:Lg B g0 w w')(k:Below w'.heap.size w' w''):Lg B g0 w w'':=h.df (Df.grow k)
theorem Lg.size (h:Lg B g0 w w'):w.heap.size≤w'.heap.size:=h.below.size
theorem Lg.put {B' g:Nat}{T:TypeId}{cur cs:Array Value}(h:Lg B g0 w w')(k:Blk w' g T cur)(p:Put w' w'' g T cs)(e:B'≤g)(ht:(B≤B'∧g=g0)∨w.heap.size≤B':=by first|exact .inl ⟨by omega,rfl⟩|exact .inr (by omega)):Lg B g0 w w'':=by
 refine⟨h.below.trans (p.below (by rcases ht with ⟨h1,-⟩|h1<;>omega) k.lt),fun i t cs' hb h3 h4 h5=>(h.keep i t cs' hb h3 h4 h5).grown p.grown (fun e2=> ?_)⟩
 injection e2 with e2
 have hb2:=hb.lt
 rcases ht with ⟨-,h2⟩|h1<;>omega
theorem Gv.lg (h:Gv w)(f:Lg B g0 w w')(hB:max 2 1 <B:=by omega):Gv w':=h.below f.below (by have:=h.top;omega)
theorem Lg.lf {cs:Array Value}(h:Lg B g0 w w')(k:Blk w g0 111 cs):Lf B w w':=⟨h.below,fun i t c hb h1 h2 h3=>h.keep i t c hb h1 h2 (fun e=>h3 (by
 subst e
 have a1:w.heap[i]? =some (.cells c t):=hb
 have a2:w.heap[i]? =some (.cells cs 111):=k
 rw[a1] at a2
 injection a2 with a2
 injection a2 with _ a2))⟩
end
theorem rotateG_any (B g0 gd:Nat)(D:Dk)(nm:List Nat)(W:Wl)(w:World)(e0:B≤g0)(hB:B≤w.heap.size)(k0:Blk w g0 111 (W.cs gd nm))(dk:DkAt w B gd D)(hn:W.num≤1000000000):
  Calls Tryz.prog 76 #[.pointer (some ⟨g0,0,none⟩)] w fun e w'=>e= .returned (.int .i64 (W.rotate.num:Int))∧Blk w' g0 111 (W.rotate.cs gd nm)∧DkAt w' B gd D∧Lg B g0 w w':=by
 have lf:=Lg.refl B g0 w
 obtain⟨num,count,size,broken⟩:=W
 simp only at hn
 unfold Wl.cs at k0
 unfold Wl.rotate
 simp only at k0⊢
 refine Zs 28 Tryz.func76 ?_
 refine Zsr ?_
 refine Za ?_
 refine Zk2 0 2 (Zts (Zsr ?_))
 refine Zm ?_
 refine Zv (Runs.eqlP rfl rfl rfl Tryz.underlying68) ?_
 refine Zk3 0 2 4 (Zt ?_)
 refine Cd.condF rfl rfl ?_
 refine Cd.skip (Zts (Zsr ?_))
 refine Zm ?_
 refine Zv (Runs.nilCheck rfl rfl) ?_
 refine Zf 3 Tryz.underlying111 ?_
 refine ZL Tryz.underlying3 k0 ?_
 refine Zgt ?_
 refine Zk4 0 2 4 9 (Zt ?_)
 refine Cd.cond rfl (fun h=> ?_) (fun h=> ?_)
 ·have h:0<count:=by
   have h':(0:Int)<(count:Int):=by simpa using h
   omega
  rw[if_pos h]
  refine Zr ?_
  refine Zm ?_
  refine Zm ?_
  refine Zm ?_
  refine Zm ?_
  refine Zv (Runs.nilCheck rfl rfl) ?_
  refine Zf 2 Tryz.underlying111 ?_
  refine ZL Tryz.underlying3 k0 ?_
  refine Za_ ?_
  refine Zv (Runs.nilCheck rfl rfl) ?_
  refine Zf 2 Tryz.underlying111 ?_
  refine Zq k0 ?_
  intro w1 pw1
  replace lf:=lf.put k0 pw1 e0
  replace dk:=dk.put k0 pw1 e0
  replace k0:=pw1.blk
  refine Zv (Runs.nilCheck rfl rfl) ?_
  refine Zf 3 Tryz.underlying111 ?_
  refine Zq k0 ?_
  intro w2 pw2
  replace lf:=lf.put k0 pw2 e0
  replace dk:=dk.put k0 pw2 e0
  replace k0:=pw2.blk
  refine Zv (Runs.nilCheck rfl rfl) ?_
  refine Zf 4 Tryz.underlying111 ?_
  refine Zq k0 ?_
  intro w3 pw3
  replace lf:=lf.put k0 pw3 e0
  replace dk:=dk.put k0 pw3 e0
  replace k0:=pw3.blk
  refine Zk4 0 2 4 9 (Ztq ?_)
  refine Zm ?_
  refine Zv (Runs.nilCheck rfl rfl) ?_
  refine Zf 2 Tryz.underlying111 ?_
  refine ZL Tryz.underlying3 k0 ?_
  refine Za ?_
  refine Zk4 0 2 4 9 (Zt (Cd.ret ?_))
  refine Ze1 ?_
  exact⟨rfl,k0,dk,lf⟩
 ·have h:¬(0<count):=by
   have h':¬((0:Int)<(count:Int)):=by simpa using h
   omega
  rw[if_neg h]
  refine Cd.skip (Ztq ?_)
  refine Zm ?_
  refine Zv (Runs.nilCheck rfl rfl) ?_
  refine Zf 2 Tryz.underlying111 ?_
  refine ZL Tryz.underlying3 k0 ?_
  refine Za ?_
  refine Zk4 0 2 4 9 (Zt (Cd.ret ?_))
  refine Ze1 ?_
  exact⟨rfl,k0,dk,lf⟩
set_option maxHeartbeats 2000000 in
theorem append_g_any (B g0 gd:Nat)(D:Dk)(nm data:List Nat)(W:Wl)(w:World)(gv:Gv w)(hgB:max 2 1 <B)(e0:B≤g0)(k0:Blk w g0 111 (W.cs gd nm))(dk:DkAt w B gd D)(hnm:Byt nm)(hnl:nm.length≤8)(hn:W.num≤1000000)(hc:W.count≤1000000)(hsz:W.size≤1000000000)(hd:Byt data)(hdl:data.length≤100000000):
  Calls Tryz.prog 33 #[.pointer (some ⟨g0,0,none⟩), .string (strOf data)] w fun e w'=>e= .returned (.int .i64 (appW W D nm data).2.2)∧Blk w' g0 111 ((appW W D nm data).1.cs gd nm)∧DkAt w' B gd (appW W D nm data).2.1∧Lg B g0 w w':=by
 have lf:=Lg.refl B g0 w
 have hB:=dk.size
 have hturn:=turned_le W data
 unfold appW
 refine Zs 62 Tryz.func33 ?_
 refine Zsr ?_
 refine Za ?_
 refine Zk3 0 1 4 (Zts (Zsr ?_))
 refine Zm ?_
 refine Zv (Runs.eqlP rfl rfl rfl Tryz.underlying68) ?_
 refine Zk4 0 1 4 9 (Zt ?_)
 refine Cd.condF rfl rfl ?_
 refine Cd.skip (Ztq ?_)
 refine Zm ?_
 refine Zc (Ze Tryz.func75) (frame_any data _ gv.nib hd hdl) ?_
 rintro e w5 ⟨rfl,hb5⟩
 refine⟨_,rfl,?_⟩
 replace lf:=lf.step hb5
 replace dk:=dk.step hb5
 replace k0:=k0.step hb5
 replace gv:=gv.step hb5
 refine Zm ?_
 refine Zx ?_
 refine Zx ?_
 refine Za ?_
 refine Za ?_
 refine Zk6 0 1 4 5 6 9 (Zts (Cd.block (Zsr ?_)))
 refine Zm ?_
 refine Zno ?_
 refine Za ?_
 refine Zk7 0 1 4 5 6 9 15 (Zt ?_)
 refine Cd.cond rfl (fun h=> ?_) (fun h=> ?_)
 ·have h:131072<data.length:=by
   have h':(!decide (data.length≤131072))=true:=h
   rw[Bool.not_eq_true',decide_eq_false_iff_not] at h'
   omega
  rw[if_pos h]
  refine Zsr ?_
  refine Za ?_
  refine Zk7 0 1 4 5 6 9 15 (Zt (Cd.ret (Post.block_ret (Post.then_ret ?_))))
  refine Ze1 ?_
  exact⟨rfl,k0,dk,lf⟩
 have hlen:data.length≤131072:=by
  have h':(!decide (data.length≤131072))=false:=h
  rw[Bool.not_eq_false',decide_eq_true_eq] at h'
  exact h'
 rw[if_neg (by omega),if_pos hlen]
 obtain⟨W0,hW0⟩:∃x,x=W:=⟨_,rfl⟩
 have k0':=k0
 rw[←hW0] at k0'
 obtain⟨num,count,size,broken⟩:=W0
 clear k0
 have k0:=k0'
 clear k0'
 unfold Wl.cs at k0
 simp only at k0
 have hbr:W.broken=broken:=by rw[←hW0]
 refine Zsr ?_
 refine Zm ?_
 refine Zv (Runs.nilCheck rfl rfl) ?_
 refine Zf 5 Tryz.underlying111 ?_
 refine ZL Tryz.underlying4 k0 ?_
 refine Za ?_
 refine Zk8 0 1 4 5 6 9 15 18 (Zt ?_)
 refine Cd.cond rfl (fun h=> ?_) (fun h=> ?_)
 ·have h:broken=true:=h
  rw[if_pos (by rw[hbr];exact h),←hW0]
  refine Zsr ?_
  refine Za ?_
  refine Zk8 0 1 4 5 6 9 15 18 (Zt (Cd.ret (Post.block_ret (Post.then_ret ?_))))
  refine Ze1 ?_
  exact⟨rfl,k0,dk,lf⟩
 have h:broken=false:=h
 subst h
 rw[if_neg (by rw[hbr];simp)]
 obtain⟨fr,hfr⟩:∃x,x=frameN data:=⟨_,rfl⟩
 have hfl:fr.length=data.length+12:=by rw[hfr,frameN_len]
 have hfb:Byt fr:=by rw[hfr];exact frameN_lt hd
 rw[←hfr]
 have hW'e:W.turned data=if 1048576-(size:Int)<(fr.length:Int) then(Wl.mk num count size false).rotate else⟨num,count,size,false⟩:=by rw[←hW0,hfl];rfl
 have hsz0:size≤1000000000:=by rw[←hW0] at hsz;exact hsz
 have hn0:num≤1000000:=by rw[←hW0] at hn;exact hn
 have hc0:W.count=count:=by rw[←hW0]
 have hs0:W.size=size:=by rw[←hW0]
 have hn1:W.num=num:=by rw[←hW0]
 obtain⟨W',hW'⟩:∃x,x=W.turned data:=⟨_,rfl⟩
 rw[←hW'] at hturn hW'e
 rw[←hW']
 refine Cd.skip (Post.block_normal (Zt ?_))
 refine Cd.seqJ (σ:=Unit) (fun _=>[(0, .pointer (some ⟨g0,0,none⟩)),(5, .string (strOf fr))]) (fun _ wr=>Blk wr g0 111 (W'.cs gd nm)∧DkAt wr B gd D∧Lg B g0 w wr∧Gv wr) ?_ ?_
 ·skip
  refine Zsr ?_
  refine Zm ?_
  refine Zv (Runs.lenL rfl rfl Tryz.underlying9) ?_
  refine Zm ?_
  refine Zv (Runs.nilCheck rfl rfl) ?_
  refine Zf 4 Tryz.underlying111 ?_
  refine ZL Tryz.underlying3 k0 ?_
  refine Zsu ?_
  refine Zgt ?_
  refine Zk9 0 1 4 5 6 9 15 18 30 (Zt ?_)
  refine Cd.cond rfl (fun h=> ?_) (fun h=> ?_)
  ·have h:1048576-(size:Int)<(fr.length:Int):=by simpa using h
   rw[if_pos h] at hW'e
   rw[hW'e]
   refine Zr ?_
   refine Zm ?_
   refine Zc (Ze Tryz.func76) (rotateG_any B g0 gd D nm ⟨num,count,size,false⟩ _ e0 (by have:=lf.size;omega) k0 dk (by show num≤_;omega)) ?_
   clear k0 dk
   rintro e w1 ⟨rfl,k0,dk,fw1⟩
   refine⟨_,rfl,?_⟩
   replace lf:=lf.lg fw1
   replace gv:=gv.lg fw1
   refine Zk9 0 1 4 5 6 9 15 18 30 ?_
   exact Post.join () ⟨rfl,rfl,trivial⟩ ⟨k0,dk,lf,gv⟩
  ·have h:¬(1048576-(size:Int)<(fr.length:Int)):=by simpa using h
   rw[if_neg h] at hW'e
   rw[hW'e]
   refine Cd.skip ?_
   exact Post.join () ⟨rfl,rfl,trivial⟩ ⟨k0,dk,lf,gv⟩
 clear lf dk k0 gv
 rintro⟨⟩ wj ⟨k0,dk,lf,gv⟩
 obtain⟨ht1,ht2,ht3,ht4⟩:=hturn
 clear hW'e hW'
 obtain⟨num',count',size',broken'⟩:=W'
 simp only at ht1 ht2 ht3 ht4
 simp only
 obtain rfl:broken'=false:=by rw[ht4,hbr]
 refine Cd.seq (Zsr ?_)
 refine Zm ?_
 refine Zm ?_
 refine Zc (Ze Tryz.func77) (room_any B g0 gd D nm fr ⟨num',count',size',false⟩ _ k0 dk (by omega)) ?_
 rintro e w6 ⟨rfl,hb6⟩
 refine⟨_,rfl,?_⟩
 rw[hfl]
 simp only
 replace lf:=lf.step hb6
 replace dk:=dk.step hb6
 replace k0:=k0.step hb6
 replace gv:=gv.step hb6
 refine Zno ?_
 refine Zk3 0 5 36 (Zt ?_)
 refine Cd.cond rfl (fun h=> ?_) (fun h=> ?_)
 ·have h:roomW D num' count' (data.length+12)=false:=by simpa using h
  rw[if_pos h]
  refine Zsr ?_
  refine Za ?_
  refine Zk4 0 4 5 36 (Zt (Cd.ret (Post.then_ret ?_)))
  refine Ze1 ?_
  exact⟨rfl,k0,dk,lf⟩
 have h:roomW D num' count' (data.length+12)=true:=by simpa using h
 rw[if_neg (by simp[h])]
 have hn6:num'≤999999:=by
  unfold roomW at h
  rw[Bool.and_eq_true,decide_eq_true_eq] at h
  exact h.2
 refine Cd.skip (Zts (Zsr ?_))
 refine Zm ?_
 refine Zm ?_
 refine Zc (Ze Tryz.func78) (lay_any B g0 gd D nm fr ⟨num',count',size',false⟩ _ gv hgB k0 dk hnm hnl hn6 (by show count'≤_;omega) hfb (by omega)) ?_
 clear dk
 rintro e w1 ⟨rfl,dk,fw1⟩
 refine⟨_,rfl,?_⟩
 replace lf:=lf.df fw1
 replace k0:=k0.df fw1
 replace gv:=gv.df fw1
 simp only at dk
 simp only
 unfold Wl.cs at k0
 simp only at k0
 refine Za ?_
 refine Zk4 0 5 7 36 (Ztq ?_)
 refine Zm ?_
 refine Zni ?_
 refine Zk5 0 5 7 36 41 (Zt ?_)
 refine Cd.cond rfl (fun h=> ?_) (fun h=> ?_)
 ·have h:(D.lay nm num' count' fr).2≠0:=by simpa using h
  rw[if_pos h]
  refine Zsr ?_
  refine Zm ?_
  refine Zv (Runs.nilCheck rfl rfl) ?_
  refine Zf 5 Tryz.underlying111 ?_
  refine Zq k0 ?_
  intro w2 pw2
  replace lf:=lf.put k0 pw2 e0
  replace dk:=dk.put k0 pw2 e0
  replace gv:=gv.put k0 pw2 e0
  replace k0:=pw2.blk
  refine Zk5 0 5 7 36 41 (Ztq ?_)
  refine Zm ?_
  refine Za ?_
  refine Zk6 0 4 5 7 36 41 (Zt (Cd.ret (Post.then_ret ?_)))
  refine Ze1 ?_
  exact⟨rfl,k0,dk,lf⟩
 have h:¬((D.lay nm num' count' fr).2≠0):=by simpa using h
 rw[if_neg h]
 refine Cd.skip (Ztq ?_)
 refine Zm ?_
 refine Zv (Runs.nilCheck rfl rfl) ?_
 refine Zf 3 Tryz.underlying111 ?_
 refine ZL Tryz.underlying3 k0 ?_
 refine Za_ ?_
 refine Zv (Runs.nilCheck rfl rfl) ?_
 refine Zf 3 Tryz.underlying111 ?_
 refine Zq k0 ?_
 intro w2 pw2
 replace lf:=lf.put k0 pw2 e0
 replace dk:=dk.put k0 pw2 e0
 replace gv:=gv.put k0 pw2 e0
 replace k0:=pw2.blk
 refine Zk5 0 5 7 36 41 (Ztq ?_)
 refine Zm ?_
 refine Zv (Runs.nilCheck rfl rfl) ?_
 refine Zf 4 Tryz.underlying111 ?_
 refine ZL Tryz.underlying3 k0 ?_
 refine Zm ?_
 refine Zv (Runs.lenL rfl rfl Tryz.underlying9) ?_
 refine Za_ ?_
 refine Zv (Runs.nilCheck rfl rfl) ?_
 refine Zf 4 Tryz.underlying111 ?_
 refine Zq k0 ?_
 intro w3 pw3
 replace lf:=lf.put k0 pw3 e0
 replace dk:=dk.put k0 pw3 e0
 replace gv:=gv.put k0 pw3 e0
 replace k0:=pw3.blk
 refine Zk5 0 5 7 36 41 (Ztq ?_)
 refine Za ?_
 refine Zk6 0 4 5 7 36 41 (Zt (Cd.ret ?_))
 refine Ze1 ?_
 refine⟨rfl,?_,dk,lf⟩
 unfold Wl.cs
 simp only
 rw[←hfl]
 exact k0
theorem append_k_any (B g0 gd:Nat)(D:Dk)(nm data:List Nat)(W:Wl)(w:World)(gv:Gv w)(hgB:max 2 1 <B)(e0:B≤g0)(k0:Blk w g0 111 (W.cs gd nm))(dk:DkAt w B gd D)(hnm:Byt nm)(hnl:nm.length≤8)(hn:W.num≤1000000)(hc:W.count≤1000000)(hsz:W.size≤1000000000)(hd:Byt data)(hdl:data.length≤100000000):
  Calls Tryz.prog 33 #[.pointer (some ⟨g0,0,none⟩), .string (strOf data)] w fun e w'=>e= .returned (.int .i64 (appW W D nm data).2.2)∧Blk w' g0 111 ((appW W D nm data).1.cs gd nm)∧DkAt w' B gd (appW W D nm data).2.1∧Lf B w w'∧Lg B g0 w w':=
 (append_g_any B g0 gd D nm data W w gv hgB e0 k0 dk hnm hnl hn hc hsz hd hdl).mono fun e w' ⟨h1,h2,h3,h4⟩=>⟨h1,h2,h3,h4.lf k0,h4⟩
end Go.Proofs.YtdpipgidpkmolaaGreatDoor
namespace Go.Proofs.YtdpipgidpkmolaaGreatDoor
open Go.RowKit
def NoNumE (B gd:Nat)(D:Dk)(nm:List Nat):Prop:=∀g0 w,Gv w→Es w→Blk w g0 111 (wlCs gd nm 0 0 0 false)→DkAt w B gd D→Calls Tryz.prog 56 #[.pointer (some ⟨g0,0,none⟩)] w fun e w'=>∃v,e= .returned v∧Own w' w.heap.size 3 1 v 0 []∧Grow w w'
theorem noNum_gen {B gd g:Nat}{D:Dk}(hm:MDk D)(hg:g≤675)(h1:D.get (lgN g)=none)(h2:D.get (akN g)=none):NoNumE B gd D (genN g):=fun g0 w gv es k0 dk=>by
 refine(numbers_all B g0 gd D (genN g) 0 0 0 false w gv es k0 dk (genN_byt hg) (show 3≤8 by decide) (fun p hp=>for_man hg (hm.nms _ (List.mem_map.2 ⟨p,hp,rfl⟩)))).mono fun e w' ⟨v,ns,e1,hi,hmem,own,hgr⟩=> ?_
 have hns:ns=[]:=by
  have h3:=GLog.none_opens hm hg h1 h2
  have h4:numsL (genN g) (D.files.map (·.1))=ns:=inc_eq numsL_inc hi fun n=>by rw[numsL_mem,hmem]
  unfold openW at h3
  rw[h4] at h3
  cases ns with
  |nil=>rfl
  |cons n r=>
   exfalso
   have h5:=(hmem n).1 (by simp)
   have h6:=h5.2
   have key:∀k:List Nat,(46::k=logK∨46::k=ackK)→fileN (genN g) n (46::k)∈D.files.map (·.1)→False:=fun k hkk hk=>by
    rcases hm.nms _ hk with e|⟨g',k',hg',hk',e⟩
    ·have:=congrArg genOf e
     have e2:fileN (genN g) n (46::k)=genN g++46::(dig6 n++(46::k)):=by unfold fileN;simp
     rw[e2,genOf_gen hg,genOf_cur] at this
     omega
    ·have:=congrArg genOf e
     have e2:fileN (genN g) n (46::k)=genN g++46::(dig6 n++(46::k)):=by unfold fileN;simp
     rw[e2,genOf_gen hg,fileN_gen,genOf_gen hg'] at this
     have e3:g'=g:=by omega
     subst e3
     have h5:=(fileN_inj h5.1 (by omega) e).1
     subst h5
     have h6:=mem_names.1 hk
     rcases hkk with e4|e4
     ·rw[e4] at h6
      have:D.get (lgN g')=D.get (fileN (genN g') 0 logK):=rfl
      rw[←this,h1] at h6
      cases h6
     ·rw[e4] at h6
      have:D.get (akN g')=D.get (fileN (genN g') 0 ackK):=rfl
      rw[←this,h2] at h6
      cases h6
   rcases h6 with h6|h6
   ·exact key _ (.inl rfl) h6
   ·exact key _ (.inr rfl) h6
 subst hns
 exact⟨v,e1,own,hgr⟩
theorem openE_any (B gd:Nat)(D:Dk)(nm:List Nat)(w:World)(gv:Gv w)(es:Es w)(dk:DkAt w B gd D)(hoff:D.off=false)(hr:rightN nm=true)(hnm:Byt nm)(hno:NoNumE B gd D nm):
  Calls Tryz.prog 27 #[.pointer (some ⟨gd,0,none⟩), .string (strOf nm)] w fun e w'=>∃v,e= .returned v∧Grow w w'∧OpN w.heap.size gd nm v w':=by
 have bel:=Below.refl w.heap.size w
 have hBw:=dk.size
 have hnl:nm.length≤8:=by
  unfold rightN at hr
  rw[Bool.and_eq_true,Bool.and_eq_true,decide_eq_true_eq,decide_eq_true_eq] at hr
  exact hr.2.2
 refine Zs 68 Tryz.func27 ?_
 refine Zsr ?_
 refine Za ?_
 refine Za ?_
 refine Za ?_
 refine Zk5 0 1 4 5 6 (Zts (Cd.block (Zsr ?_)))
 refine Zm ?_
 refine Zv (Runs.eqlP rfl rfl rfl Tryz.underlying26) ?_
 refine Zm ?_
 refine SeqC.start ?_
 refine Zco (fun hcx=>Runs.move rfl rfl) ?_
 refine SeqC.nextC rfl rfl rfl rfl rfl rfl rfl (fun hcx=>Ze Tryz.func54) (fun hcx=>right_w_any nm _ hnm (by omega)) ?_
 intro w1 hw1
 replace bel:=bel.step hw1
 replace dk:=dk.step hw1
 replace gv:=gv.step hw1
 replace es:=es.step hw1
 rw[hr]
 refine Zn (fun hcx=>Runs.not rfl rfl) ?_
 refine Zor ?_
 refine Za ?_
 refine Zk6 0 1 4 5 6 15 (Zt ?_)
 refine Cd.condF rfl rfl ?_
 refine Zsr ?_
 refine Zm ?_
 refine Zc (Ze Tryz.func55) (on_any B gd D _ dk) ?_
 rw[hoff]
 rintro e w5 ⟨rfl,hb5⟩
 refine⟨_,rfl,?_⟩
 replace bel:=bel.step hb5
 replace dk:=dk.step hb5
 replace gv:=gv.step hb5
 replace es:=es.step hb5
 refine Zno ?_
 refine Za ?_
 refine Zk7 0 1 4 5 6 15 23 (Zt ?_)
 refine Cd.condF rfl rfl ?_
 refine Cd.skip (Post.block_normal (Ztq ?_))
 refine Zm ?_
 refine Zm ?_
 have hsz5:=bel.size
 refine Zv (Runs.build rfl rfl (run_build_wal gd nm _)) ?_
 refine Seq.box rfl rfl rfl rfl rfl ?_
 intro g30 w2 n30
 have e30:=Nat.le_trans bel.size n30.ge
 replace bel:=bel.step n30.below
 replace dk:=dk.step n30.below
 replace gv:=gv.step n30.below
 replace es:=es.step n30.below
 have k30:=n30.blk
 refine Za ?_
 refine Zk8 0 1 4 5 6 7 15 23 (Ztq ?_)
 refine Za ?_
 refine Zk9 0 1 4 5 6 7 8 15 23 (Zts (Zsr ?_))
 refine Zm ?_
 have k30:Blk _ g30 111 (wlCs gd nm 0 0 0 false):=k30
 refine Zc (Ze Tryz.func56) (hno g30 _ gv es k30 dk) ?_
 rintro e w7 ⟨v32,rfl,ownN,hb7⟩
 refine⟨_,rfl,?_⟩
 replace bel:=bel.step hb7
 replace dk:=dk.step hb7
 replace gv:=gv.step hb7
 replace es:=es.step hb7
 replace k30:=k30.step hb7
 obtain⟨A,c,rfl,-⟩:=ownN.reads
 refine Zv (Runs.len rfl rfl Tryz.underlying40) ?_
 refine Zm ?_
 refine Zk12 0 1 4 5 6 7 8 15 23 32 33 34 (Zt (Cd.block ?_))
 refine Cd.loop (σ:=Unit) (fun _=>[(7, .pointer (some ⟨g30,0,none⟩)),(8, .slice none 0 0),(32, .slice A 0 c),(33, .int .i64 0),(34, .int .i64 0)]) (fun _ wr=>Below w.heap.size w wr∧Blk wr g30 111 (wlCs gd nm 0 0 0 false)) (fun _=>0) () ⟨bel,k30⟩ ⟨rfl,rfl,rfl,rfl,rfl,trivial⟩ ?_
 clear dk bel gv es k30
 rintro _ wr ⟨bel,k30⟩
 show Cd _ _ _ _ [(7, .pointer (some ⟨g30,0,none⟩)),(8, .slice none 0 0),(32, .slice A 0 c),(33, .int .i64 0),(34, .int .i64 0)] _
 refine Zsr ?_
 refine Zls ?_
 refine Zk6 7 8 32 33 34 35 (Zts ?_)
 refine Cd.cond rfl (fun h=> ?_) (fun h=> ?_)
 ·cases h
 ·skip
  refine Cd.exit (Post.then_exit (Post.round_exit (Post.block_exit (Ztq ?_))))
  refine Zm ?_
  refine Zm ?_
  refine Za ?_
  refine Za ?_
  refine Za ?_
  refine Zk9 4 5 6 7 8 32 33 34 35 (Zt (Cd.ret ?_))
  refine Post.end3 rfl rfl rfl rfl (.inl rfl) ?_
  exact⟨_,rfl,bel,g30,rfl,by omega,k30⟩
theorem Es.mf {B:Nat}{w w':World}(h:Es w)(f:Mf B w w')(hB: 3 <B:=by omega):Es w':=h.below f.below (by have:=h.lt;omega)
theorem Own.mf {B B' size n:Nat}{w w':World}{e:TypeId}{v:Value}{xs:List Value}(h:Own w B' e size v n xs)(f:Mf B w w')(h1:e≠65:=by decide)(h2:e≠100:=by decide)(h3:e≠111:=by decide)(h4:e≠70:=by decide):Own w' B' e size v n xs:=by
 obtain⟨hl,⟨h5,h6⟩|⟨g,cap,cur,h',a1,a2,a3⟩⟩:=h.row
 ·exact⟨hl, .inl ⟨h5,h6⟩⟩
 ·exact⟨hl, .inr ⟨g,cap,cur,h',a1,f.keep g e cur a2 h1 h2 h3 h4,a3⟩⟩
theorem Blk.mf {k:Nat}{B:Nat}{w w':World}{t:TypeId}{cs:Array Value}(h:Blk w k t cs)(f:Mf B w w')(h1:t≠65:=by decide)(h2:t≠100:=by decide)(h3:t≠111:=by decide)(h4:t≠70:=by decide):Blk w' k t cs:=f.keep k t cs h h1 h2 h3 h4
theorem SwpR.man {D D':Dk}{q:List Nat→Prop}(h:SwpR D q D')(hm:MDk D):MDk D':=⟨h.calm,h.nd,fun x hx=>by
 by_cases e:q x
 ·rw[h.gone x e] at hx;cases hx
 ·rw[h.kept x e] at hx;exact hm.nm x hx⟩
structure KpW (w w':World):Prop where
 size:w.heap.size≤w'.heap.size
 keep:∀k cs,Blk w k 111 cs→Blk w' k 111 cs
theorem KpW.refl (w:World):KpW w w:=⟨Nat.le_refl _,fun _ _ h=>h⟩
theorem KpW.step {w w' w'':World}(h:KpW w w')(k:Below w'.heap.size w' w''):KpW w w'':=⟨Nat.le_trans h.size k.size,fun i cs hb=>(h.keep i cs hb).step k⟩
theorem KpW.df {B:Nat}{w w' w'':World}(h:KpW w w')(k:Df B w' w''):KpW w w'':=⟨Nat.le_trans h.size k.size,fun i cs hb=>(h.keep i cs hb).df k⟩
theorem KpW.put {w w' w'':World}{B' g:Nat}{T:TypeId}{cur cs:Array Value}(h:KpW w w')(k:Blk w' g T cur)(p:Put w' w'' g T cs)(_e:B'≤g)(hne:111≠T:=by decide):KpW w w'':=⟨by rw[p.size];exact h.size,fun i c hb=>(h.keep i c hb).put p (by
 intro e
 subst e
 have a1:w'.heap[i]? =some (.cells c 111):=h.keep i c hb
 have a2:w'.heap[i]? =some (.cells cur T):=k
 rw[a1] at a2
 injection a2 with a2
 injection a2 with _ a2
 exact hne a2)⟩
theorem KpW.lg {B g:Nat}{w w' w'':World}(h:KpW w w')(k:Lg B g w' w'')(hg:w.heap.size≤g):KpW w w'':=⟨Nat.le_trans h.size k.size,fun i c hb=>k.keep i _ c (h.keep i c hb) (by decide) (by decide) (by have:=hb.lt;omega)⟩
theorem rightN_gen {g:Nat}(h:g≤675):rightN (genN g)=true:=by
 unfold rightN genN
 simp
 omega
def BegR (B g0 gd gen:Nat)(D:Dk)(E:EdV)(c1 c2 c3 c4 c5 c6 c7 c8:Value)(e:Ending)(w':World):Prop:=
 ∃D' r,e= .returned (.int .i64 r)∧DkAt w' B gd D'∧MDk D'∧D'.files.length≤D.files.length+3∧
 ((((r=1∧E.laid=false)∨r=5)∧Blk w' g0 70 #[.pointer (some ⟨gd,0,none⟩),c1,c2,c3,c4,c5,c6,c7,c8]∧∀x,genOf x≠(gen:Int)→D'.get x=D.get x)∨
  (r=0∧E.laid=true∧(∃gl,B≤gl∧Blk w' g0 70 #[.pointer (some ⟨gd,0,none⟩), .int .i64 (gen:Int), .pointer (some ⟨gl,0,none⟩),c3,c4,c5,c6,c7,c8]∧Blk w' gl 111 ((⟨0,1,(framesN [E.bytes]).length,false⟩:Wl).cs gd (genN gen)))∧GLog D' gen [E.bytes]∧D'.get curN=some (full (frameN (grp gen)))∧∀x,x≠curN→genOf x≠(gen:Int)→D'.get x=D.get x))
set_option maxHeartbeats 4000000 in
theorem begin_m_any (B g0 gd gen n c:Nat)(D:Dk)(A:Option Addr)(E:EdV)(c1 c2 c3 c4 c5 c6 c7 c8:Value)(w:World)(gv:Gv w)(es:Es w)(hgB:max 2 1 <B)(heB: 3 <B)(e0:B≤g0)(k0:Blk w g0 70 #[.pointer (some ⟨gd,0,none⟩),c1,c2,c3,c4,c5,c6,c7,c8]) (dk:DkAt w B gd D) (hm:MDk D) (hfew:D.files.length≤150) (hg:gen≤675) (hE:E.rng) (hdrop:E.drop=[]) (hn:E.add.length=n) (own:Own w B 81 6 (.slice A n c) n (fcs E.add)):
  Calls Tryz.prog 25 #[.pointer (some ⟨g0,0,none⟩), .int .i64 (gen:Int), .agg #[.int .i64 E.lg, .int .i64 E.nx, .int .i64 E.sq, .slice none 0 0, .slice A n c]] w fun e w'=>BegR B g0 gd gen D E c1 c2 c3 c4 c5 c6 c7 c8 e w'∧KpW w w'∧Mf B w w':=by
 have mf:=Mf.refl B w
 have kw:=KpW.refl w
 have hBw:=dk.size
 obtain⟨S0,hS0⟩:∃s,s=w.heap.size:=⟨_,rfl⟩
 refine Zs 65 Tryz.func25 ?_
 refine Zsr ?_
 refine Seq.box rfl rfl rfl rfl rfl ?_
 intro g4 w1 n4
 have l4:=Nat.lt_of_lt_of_le k0.lt n4.ge
 replace mf:=mf.step n4.below
 replace kw:=kw.step n4.below
 replace gv:=gv.step n4.below
 replace es:=es.step n4.below
 replace k0:=k0.step n4.below
 replace dk:=dk.step n4.below
 replace own:=own.step n4.below
 have k4:=n4.blk
 refine Seq.box rfl rfl rfl rfl rfl ?_
 intro g5 w2 n5
 have l5:=Nat.lt_of_lt_of_le k4.lt n5.ge
 have l5_k0:=Nat.lt_of_lt_of_le k0.lt n5.ge
 replace mf:=mf.step n5.below
 replace kw:=kw.step n5.below
 replace gv:=gv.step n5.below
 replace es:=es.step n5.below
 replace k0:=k0.step n5.below
 replace dk:=dk.step n5.below
 replace own:=own.step n5.below
 replace k4:=k4.step n5.below
 have k5:=n5.blk
 refine Za ?_
 refine Zk6 0 1 2 4 5 6 (Zts (Zsr ?_))
 refine Zm ?_
 refine Zv (Runs.nilCheck rfl rfl) ?_
 refine Zf 0 Tryz.underlying70 ?_
 refine ZL Tryz.underlying26 k0 ?_
 refine Zv (Runs.makeFunc (v:= .func (.func 48) #[] #[.pointer (some ⟨g4,0,none⟩)]) rfl (show evL _ _=some [] from rfl) (show evL _ _=some [.pointer (some ⟨g4,0,none⟩)] from rfl) rfl) ?_
 replace k4:Blk _ g4 3 #[.int .i64 (gen:Int)]:=k4
 refine Zc (Ze Tryz.func22) (sweep_any B gd D 48 (.pointer (some ⟨g4,0,none⟩)) (fun s=>decide (genOf s=(gen:Int))) _ dk hm.calm hm.nd eg_begin1 hm.nms (fun s W hs hdf=>begin1_any s (gen:Int) g4 W (gv.df hdf) hs (k4.df hdf))) ?_
 clear dk
 rintro e w3 ⟨v6,D0,rfl,dk,fw3,hsw⟩
 refine⟨_,rfl,?_⟩
 replace mf:=mf.df fw3
 replace kw:=kw.df fw3
 replace gv:=gv.df fw3
 replace es:=es.df fw3
 replace k0:=k0.df fw3
 replace own:=own.df fw3
 replace k4:=k4.df fw3
 replace k5:=k5.df fw3
 refine Zm ?_
 refine Zx ?_
 refine Zx ?_
 refine Za ?_
 refine Za ?_
 refine Zk7 0 1 2 4 5 6 8 (Ztq ?_)
 refine Zm ?_
 refine Zni ?_
 refine Zk8 0 1 2 4 5 6 8 23 (Zt ?_)
 refine Cd.condF rfl rfl ?_
 have hm0:=hsw.man hm
 have hL:D0.get (lgN gen)=none:=hsw.gone _ (by simp[genOf_lg hg])
 have hA:D0.get (akN gen)=none:=hsw.gone _ (by simp[genOf_ak hg])
 have hk0:∀x,genOf x≠(gen:Int)→D0.get x=D.get x:=fun x hx=>hsw.kept x (by simpa using hx)
 have hf0:=hsw.few
 have hr:=rightN_gen hg
 have hnb:=genN_byt hg
 have hno:=noNum_gen (B:=B) (gd:=gd) hm0 hg hL hA
 have hgl0:GLog D0 gen []:=GLog.nil hL hA
 clear hsw
 have hnc:∀w,Calls Tryz.prog 28 #[.int .i64 (gen:Int)] w fun e w'=>e= .returned (.string (strOf (genN gen)))∧Grow w w':=fun w=>name_any gen w hg
 refine Cd.skip (Zts ?_)
 have hop:=openE_any B gd D0 (genN gen)
 have hkw0:=kw.size
 refine Cd.draw 11 (by kernel_rfl) [9,10] (.inr (fun _ _ d _ _ h=>by cases d<;>exact h)) rfl Grow Grow.refl (fun _ _ _=>Grow.trans) ?_
 intro w4 hw4 zw4
 replace mf:=mf.step hw4
 replace kw:=kw.step hw4
 replace gv:=gv.step hw4
 replace es:=es.step hw4
 replace k0:=k0.step hw4
 replace dk:=dk.step hw4
 replace own:=own.step hw4
 replace k4:=k4.step hw4
 replace k5:=k5.step hw4
 have zlt:=k5.lt
 have hkw1:=kw.size
 refine Zdm ?_
 refine Zd (fun w hG=>Runs.nilCheck rfl rfl) ?_
 refine Zdf 0 Tryz.underlying70 ?_
 refine ZdL Tryz.underlying26 k0 ?_
 refine ZdL Tryz.underlying3 k4 ?_
 refine Dr.callV rfl (fun w=>Ze Tryz.func28) rfl (fun w hG=>hnc w) ?_
 refine Dr.call (Φ:=OpN S0 gd (genN gen)) rfl (fun w=>Ze Tryz.func27) rfl (OpN.stable) (fun w hG=>(hop w (gv.step hG) (es.step hG) (dk.step hG) hm0.calm.off hr hnb hno).mono fun e w' ⟨v,h1,h2,g,h3,h4,h5⟩=>⟨v,h1,h2,g,h3,by have:=hG.size;omega,h5⟩) ?_
 refine Dr.val1 (j:=6) (Φ:=OpN S0 gd (genN gen)) Grow.refl rfl rfl rfl OpN.stable rfl (fun u w hG hu=>⟨_,Runs.move rfl rfl,hu⟩) ?_
 refine Dr.val1 (j:=7) (Φ:=OpG S0 gd (genN gen)) Grow.refl rfl rfl rfl OpG.stable rfl (fun u w hG hu=>by obtain⟨g,rfl,h⟩:=hu;exact⟨_,Runs.extract rfl rfl rfl,g,rfl,h⟩) ?_
 refine Dr.late1 (j:=7) rfl rfl rfl rfl (fun u w w' hG hu=>by obtain⟨g,rfl,h⟩:=hu;exact Runs.extract rfl rfl rfl) Grow.refl rfl ?_
 refine Dr.late1 (j:=7) rfl rfl rfl rfl (fun u w w' hG hu=>by obtain⟨g,rfl,h⟩:=hu;exact Runs.extract rfl rfl rfl) Grow.refl rfl ?_
 refine Dr.nil ?_
 refine FinX.open (j:=8) rfl ?_
 intro u8
 refine FinX.done (F':=[(0,_),(1,_),(2,_),(4,_),(5,_),(6,_),(8,_),(23,_),(33,_),(34,_),(35,_)]) rfl ⟨rfl,rfl,rfl,rfl,rfl,rfl,rfl,rfl,rfl,rfl,rfl,trivial⟩ ?_
 intro w5 hw5 fw5
 replace mf:=mf.step hw5
 replace kw:=kw.step hw5
 replace gv:=gv.step hw5
 replace es:=es.step hw5
 replace k0:=k0.step hw5
 replace dk:=dk.step hw5
 replace own:=own.step hw5
 replace k4:=k4.step hw5
 replace k5:=k5.step hw5
 obtain⟨g9,rfl,e9S,k9⟩:=fw5.2
 have e9:B≤g9:=by omega
 have hne9:=k0.neT k9
 have hne4:=k0.neT k4
 have hne5:=k0.neT k5
 refine Za ?_
 refine Za ?_
 refine Za ?_
 refine Zk10 0 1 2 4 5 6 8 9 11 23 (Zts (Zsr ?_))
 refine Zm ?_
 refine Zni ?_
 refine Zk11 0 1 2 4 5 6 8 9 11 23 37 (Zt ?_)
 refine Cd.condF rfl rfl ?_
 refine Cd.skip (Ztq ?_)
 refine ZW 5 Tryz.underlying47 k5 ?_
 refine Zc (Ze Tryz.func32) (encode_all E _ none A 0 n 0 c _ (by rw[hdrop];rfl) hn (by rw[hdrop];exact Reads.none_) own.rdsN (Nat.le_refl _) hE) ?_
 rintro e w8 ⟨⟨hl,rfl⟩|⟨hl,rfl⟩,hb8⟩
 ·refine⟨_,rfl,?_⟩
  replace mf:=mf.step hb8
  replace kw:=kw.step hb8
  replace gv:=gv.step hb8
  replace es:=es.step hb8
  replace k0:=k0.step hb8
  replace dk:=dk.step hb8
  replace own:=own.step hb8
  replace k4:=k4.step hb8
  replace k5:=k5.step hb8
  replace k9:=k9.step hb8
  refine Zm ?_
  refine Zx ?_
  refine Zx ?_
  refine Za ?_
  refine Za ?_
  refine Zk12 0 1 2 4 5 6 8 9 11 12 23 37 (Zts (Zsr ?_))
  refine Zm ?_
  refine Zqi ?_
  refine Zk13 0 1 2 4 5 6 8 9 11 12 23 37 45 (Zt ?_)
  refine Cd.condF rfl rfl ?_
  refine Cd.skip (Zts (Zsr ?_))
  refine Zm ?_
  refine Zqi ?_
  refine Zk14 0 1 2 4 5 6 8 9 11 12 23 37 45 50 (Zt ?_)
  refine Cd.condF rfl rfl ?_
  refine Cd.skip (Zts (Zsr ?_))
  refine Zm ?_
  refine Zqi ?_
  refine Zk15 0 1 2 4 5 6 8 9 11 12 23 37 45 50 55 (Zt ?_)
  refine Cd.condF rfl rfl ?_
  refine Cd.skip (Ztq ?_)
  refine Zm ?_
  refine Za ?_
  refine Zk15 0 1 2 4 5 6 8 9 11 12 23 37 45 50 55 (Zt (Cd.ret ?_))
  refine Ze1 ?_
  exact⟨⟨D0,1,rfl,dk,hm0,by omega, .inl ⟨.inl ⟨rfl,hl⟩,k0,hk0⟩⟩,kw,mf⟩
 ·refine⟨_,rfl,?_⟩
  obtain⟨hbb,hbl,-⟩:=EdV.back hE hl
  obtain⟨b,hb⟩:∃b,b=E.bytes:=⟨_,rfl⟩
  rw[←hb] at hbb hbl⊢
  have happ:=GLog.append (data:=b) hm0 hgl0 hg hbb (by omega) (by show 0+_≤_;omega) (by simp) (by omega)
  have e00:(⟨0,([]:List (List Nat)).length,(framesN []).length,false⟩:Wl)=⟨0,0,0,false⟩:=rfl
  rw[e00,List.nil_append] at happ
  replace mf:=mf.step hb8
  replace kw:=kw.step hb8
  replace gv:=gv.step hb8
  replace es:=es.step hb8
  replace k0:=k0.step hb8
  replace dk:=dk.step hb8
  replace own:=own.step hb8
  replace k4:=k4.step hb8
  replace k5:=k5.step hb8
  replace k9:=k9.step hb8
  refine Zm ?_
  refine Zx ?_
  refine Zx ?_
  refine Za ?_
  refine Za ?_
  refine Zk12 0 1 2 4 5 6 8 9 11 12 23 37 (Zts (Zsr ?_))
  refine Zm ?_
  refine Zqi ?_
  refine Zk13 0 1 2 4 5 6 8 9 11 12 23 37 45 (Zt ?_)
  refine Cd.condT rfl rfl ?_
  refine Zr ?_
  refine Zm ?_
  refine Zm ?_
  have kwa:=kw
  refine Zc (Ze Tryz.func33) (append_k_any B g9 gd D0 (genN gen) b ⟨0,0,0,false⟩ _ gv hgB e9 k9 dk hnb (show 3≤8 by decide) (by simp) (by simp) (by simp) hbb (by omega)) ?_
  clear k9 dk
  rintro e w6 ⟨rfl,k9,dk,fw6,flg⟩
  refine⟨_,rfl,?_⟩
  replace mf:=mf.lf fw6
  replace gv:=gv.lf fw6
  replace es:=es.lf fw6
  replace k0:=k0.lf fw6
  replace own:=own.lf fw6
  replace k4:=k4.lf fw6
  replace k5:=k5.lf fw6
  clear kw
  have kw:=kwa.lg flg (by omega)
  clear kwa
  rcases happ with hA|⟨D1,hA,hm1,hf1,hgl1,hk1⟩
  ·rw[hA] at k9 dk
   rw[hA]
   refine Za ?_
   refine Zk13 0 1 2 4 5 6 8 9 11 12 23 37 45 (Zts (Zsr ?_))
   refine Zm ?_
   refine Zqi ?_
   refine Zk14 0 1 2 4 5 6 8 9 11 12 23 37 45 50 (Zt ?_)
   refine Cd.condF rfl rfl ?_
   refine Cd.skip (Zts (Zsr ?_))
   refine Zm ?_
   refine Zqi ?_
   refine Zk15 0 1 2 4 5 6 8 9 11 12 23 37 45 50 55 (Zt ?_)
   refine Cd.condF rfl rfl ?_
   refine Cd.skip (Ztq ?_)
   refine Zm ?_
   refine Za ?_
   refine Zk15 0 1 2 4 5 6 8 9 11 12 23 37 45 50 55 (Zt (Cd.ret ?_))
   refine Ze1 ?_
   exact⟨⟨D0,5,rfl,dk,hm0,by omega, .inl ⟨.inr rfl,k0,hk0⟩⟩,kw,mf⟩
  ·rw[hA] at k9 dk
   rw[hA]
   have hpt:=point_m hm1 (by omega) hg
   refine Za ?_
   refine Zk13 0 1 2 4 5 6 8 9 11 12 23 37 45 (Zts (Zsr ?_))
   refine Zm ?_
   refine Zqi ?_
   refine Zk14 0 1 2 4 5 6 8 9 11 12 23 37 45 50 (Zt ?_)
   refine Cd.condT rfl rfl ?_
   refine Zr ?_
   refine Zm ?_
   refine ZL Tryz.underlying3 k4 ?_
   refine Zc (Ze Tryz.func49) (point_any B g0 gd D1 gen c1 c2 c3 c4 c5 c6 c7 c8 _ gv hgB k0 dk (by omega)) ?_
   clear dk
   rintro e w7 ⟨rfl,dk,fw7⟩
   refine⟨_,rfl,?_⟩
   replace mf:=mf.df fw7
   replace gv:=gv.df fw7
   replace es:=es.df fw7
   replace k0:=k0.df fw7
   replace own:=own.df fw7
   replace k4:=k4.df fw7
   replace k5:=k5.df fw7
   replace k9:=k9.df fw7
   replace kw:=kw.df fw7
   have hk01:∀x,genOf x≠(gen:Int)→D1.get x=D.get x:=fun x hx=>by
    rw[hk1 x (fun e=>hx (by rw[e];exact genOf_lg hg)) (fun e=>hx (by rw[e];exact genOf_ak hg))]
    exact hk0 x hx
   rcases hpt with hp|⟨D2,hp,hm2,hf2,hk2⟩
   ·rw[hp] at dk
    rw[hp]
    refine Za ?_
    refine Zk14 0 1 2 4 5 6 8 9 11 12 23 37 45 50 (Zts (Zsr ?_))
    refine Zm ?_
    refine Zqi ?_
    refine Zk15 0 1 2 4 5 6 8 9 11 12 23 37 45 50 55 (Zt ?_)
    refine Cd.condF rfl rfl ?_
    refine Cd.skip (Ztq ?_)
    refine Zm ?_
    refine Za ?_
    refine Zk15 0 1 2 4 5 6 8 9 11 12 23 37 45 50 55 (Zt (Cd.ret ?_))
    refine Ze1 ?_
    exact⟨⟨D1,5,rfl,dk,hm1,by omega, .inl ⟨.inr rfl,k0,hk01⟩⟩,kw,mf⟩
   ·rw[hp] at dk
    rw[hp]
    refine Za ?_
    refine Zk14 0 1 2 4 5 6 8 9 11 12 23 37 45 50 (Zts (Zsr ?_))
    refine Zm ?_
    refine Zqi ?_
    refine Zk15 0 1 2 4 5 6 8 9 11 12 23 37 45 50 55 (Zt ?_)
    refine Cd.condT rfl rfl ?_
    refine Zr ?_
    refine Zm ?_
    refine Zm ?_
    refine ZL Tryz.underlying3 k4 ?_
    refine Zm ?_
    refine Zv (Runs.nilCheck rfl rfl) ?_
    refine Zf 1 Tryz.underlying70 ?_
    refine Zq k0 ?_
    intro w8 pw8
    replace mf:=mf.put k0 pw8 e0
    replace gv:=gv.put k0 pw8 e0
    replace es:=es.put k0 pw8 e0
    replace dk:=dk.put k0 pw8 e0
    replace own:=own.put k0 pw8 e0
    replace k4:=k4.put pw8 (by omega)
    replace k5:=k5.put pw8 (by omega)
    replace k9:=k9.put pw8 (by omega)
    replace kw:=kw.put k0 pw8 e0
    replace k0:=pw8.blk
    refine Zv (Runs.nilCheck rfl rfl) ?_
    refine Zf 2 Tryz.underlying70 ?_
    refine Zq k0 ?_
    intro w9 pw9
    replace mf:=mf.put k0 pw9 e0
    replace gv:=gv.put k0 pw9 e0
    replace es:=es.put k0 pw9 e0
    replace dk:=dk.put k0 pw9 e0
    replace own:=own.put k0 pw9 e0
    replace k4:=k4.put pw9 (by omega)
    replace k5:=k5.put pw9 (by omega)
    replace k9:=k9.put pw9 (by omega)
    replace kw:=kw.put k0 pw9 e0
    replace k0:=pw9.blk
    refine Zk15 0 1 2 4 5 6 8 9 11 12 23 37 45 50 55 (Ztq ?_)
    refine Zm ?_
    refine Za ?_
    refine Zk15 0 1 2 4 5 6 8 9 11 12 23 37 45 50 55 (Zt (Cd.ret ?_))
    refine Ze1 ?_
    have hcl:curN≠lgN gen:=fun e=>by
     have:=congrArg genOf e
     rw[genOf_lg hg,genOf_cur] at this
     omega
    have hca:curN≠akN gen:=fun e=>by
     have:=congrArg genOf e
     rw[genOf_ak hg,genOf_cur] at this
     omega
    rw[hb] at hgl1
    refine⟨⟨D2,0,rfl,dk,hm2,by omega, .inr ⟨rfl,hl,⟨g9,e9,k0,?_⟩,hgl1.congr (by rw[hk2,if_neg hcl.symm]) (by rw[hk2,if_neg hca.symm]),by rw[hk2,if_pos rfl],fun x hx1 hx2=>by rw[hk2,if_neg hx1];exact hk01 x hx2⟩⟩,kw,mf⟩
    rw[←hb]
    exact k9
end Go.Proofs.YtdpipgidpkmolaaGreatDoor
namespace Go.Proofs.YtdpipgidpkmolaaGreatDoor
open Go.RowKit
theorem ltF_tr {a b c:Fl}(h:ltF a b)(k:ltF b c):ltF a c:=by
 refine Classical.byContradiction fun hn=> ?_
 have h1:leF c a:=hn
 exact leF_tr c a b h1 (ltF_le h) k
theorem right_at {lg nx sq:Int}{fs:List Fl}{k:Nat}{f:Fl}(h:rightB lg nx sq fs=true)(hf:fs[k]? =some f):mayB f=true∧f.num<nx∧∀g,0<k→fs[k-1]? =some g→ltF g f:=by
 unfold rightB at h
 rw[Bool.and_eq_true] at h
 have hk:k<fs.length:=(List.getElem?_eq_some_iff.1 hf).1
 have h1:=rightFiles_mono (nx:=nx) (fs:=fs) (k:=k+1) (fs.length-(k+1)) (by rw[show k+1+(fs.length-(k+1))=fs.length by omega];exact h.2)
 rw[rightFiles_succ hf] at h1
 simp only[Bool.and_eq_true] at h1
 have h2:=h1.2.1
 unfold goodB at h2
 simp only[Bool.and_eq_true,decide_eq_true_eq] at h2
 refine⟨h2.1.1,h2.1.2,fun g hk0 hg=> ?_⟩
 have h3:=h2.2
 rw[if_neg (by omega),hg] at h3
 simpa[ltF] using h3
theorem right_lt {lg nx sq:Int}{fs:List Fl}(h:rightB lg nx sq fs=true):fs.Pairwise ltF:=by
 rw[List.pairwise_iff_getElem]
 intro i j hi hj hij
 have key:∀d (hd:i+d+1<fs.length),ltF fs[i] fs[i+d+1]:=by
  intro d
  induction d with
  |zero=>
   intro hd
   exact(right_at h (List.getElem?_eq_getElem hd)).2.2 _ (by omega) (List.getElem?_eq_getElem (by omega))
  |succ d ih=>
   intro hd
   refine ltF_tr (ih (by omega)) ?_
   exact(right_at h (List.getElem?_eq_getElem hd)).2.2 _ (by omega) (List.getElem?_eq_getElem (by omega))
 have:=key (j-i-1) (by omega)
 have e:i+(j-i-1)+1=j:=by omega
 simp only[e] at this
 exact this
theorem right_nums {lg nx sq:Int}{fs:List Fl}(h:rightB lg nx sq fs=true):(0≤lg∧lg≤999999)∧(0≤nx∧nx≤999999)∧(0≤sq∧sq≤4611686018427387904)∧fs.length≤100:=by
 unfold rightB at h
 simp only[Bool.and_eq_true,decide_eq_true_eq] at h
 exact⟨h.1.1.1.1,h.1.1.1.2,h.1.1.2,h.1.2⟩
theorem sorted_one {a b:List Fl}(ha:a.Pairwise ltF)(hb:b.Pairwise leF)(hp:a.Perm b):a=b:=by
 refine List.Perm.eq_of_pairwise (le:=leF) (fun x y hx hy h1 h2=> ?_) (ha.imp fun h=>ltF_le h) hb hp
 have hy':=hp.mem_iff.2 hy
 obtain⟨i,hi,rfl⟩:=List.mem_iff_getElem.1 hx
 obtain⟨j,hj,rfl⟩:=List.mem_iff_getElem.1 hy'
 rw[List.pairwise_iff_getElem] at ha
 rcases Nat.lt_trichotomy i j with h|h|h
 ·exact absurd (ha i j hi hj h) h2
 ·subst h;rfl
 ·exact absurd (ha j i hj hi h) h1
theorem appR_det {V V1:VerV}{E:EdV}{o:Option VerV}(h:AppR V E (some V1))(k:AppR V E o):o=some V1:=by
 rcases h with ⟨h,-⟩|⟨rem,M,h1,h2,h3,h4,h5,h6⟩
 ·cases h
 rcases k with ⟨rfl,k⟩|⟨rem',M',rfl,k2,k3,k4,k5,k6⟩
 ·exfalso
  rcases k with k|k|⟨rem',M',k3,k4,k5,k6⟩
  ·rw[h2] at k;cases k
  ·rw[h3] at k;cases k
  ·rw[h3] at k3
   injection k3 with k3
   subst k3
   have e:=sorted_one (right_lt h6) k5 (h4.trans k4.symm)
   rw[←e,h6] at k6
   cases k6
 ·rw[h3] at k3
  injection k3 with k3
  subst k3
  have e:=sorted_one (right_lt h6) k5 (h4.trans k4.symm)
  rw[h1,e]
theorem appR_right {V V1:VerV}{E:EdV}(h:AppR V E (some V1)):rightB V1.lg V1.nx V1.sq V1.fs=true∧∀f∈V1.fs,f∈V.fs∨f∈E.add:=by
 rcases h with ⟨h,-⟩|⟨rem,M,h1,h2,h3,h4,h5,h6⟩
 ·cases h
 injection h1 with h1
 subst h1
 refine⟨h6,fun f hf=> ?_⟩
 rcases List.mem_append.1 (h4.mem_iff.1 hf) with hf|hf
 ·left
  have key:∀(d:List Int) (q r:List Fl),dropF q d=some r→∀f∈r,f∈q:=by
   intro d
   induction d with
   |nil=>intro q r h f hf;injection h with h;subst h;exact hf
   |cons n d ih=>
    intro q r h f hf
    unfold dropF at h
    split at h
    ·exact List.eraseP_subset (ih _ _ h f hf)
    ·cases h
  exact key _ _ _ h3 f hf
 ·exact .inr hf
theorem appR_laid {V V1:VerV}{E:EdV}(h:AppR V E (some V1)):E.laid=true∧E.drop.length≤100∧E.add.length≤100:=by
 rcases h with ⟨h,-⟩|⟨rem,M,h1,h2,h3,h4,h5,h6⟩
 ·cases h
 unfold okE at h2
 simp only[Bool.and_eq_true] at h2
 have h7:E.laid=true:=h2.2.1
 obtain⟨-,-,-,h8,h9,-⟩:=(laidB_iff ..).1 h7
 exact⟨h7,h8,h9⟩
structure VOk (V:VerV):Prop where
 right:rightB V.lg V.nx V.sq V.fs=true
 rng:∀f∈V.fs,f.rng
theorem Fl.rng.ok {f:Fl}(h:f.rng):f.ok:=⟨h.first,h.last⟩
def VerV.whole (V:VerV):EdV:=⟨V.lg,V.nx,V.sq,[],V.fs⟩
def VerV.zero:VerV:=⟨0,0,0,[]⟩
theorem VOk.whole {V:VerV}(h:VOk V):V.whole.rng:=by
 obtain⟨h1,h2,h3,-⟩:=right_nums h.right
 exact⟨⟨by show _≤V.lg;omega,by show V.lg≤_;omega⟩,⟨by show _≤V.nx;omega,by show V.nx≤_;omega⟩,⟨by show _≤V.sq;omega,by show V.sq≤_;omega⟩,fun x hx=>(by cases hx),h.rng⟩
theorem VOk.laid {V:VerV}(h:VOk V):V.whole.laid=true:=by
 obtain⟨h1,h2,h3,h4⟩:=right_nums h.right
 show laidB V.lg V.nx V.sq [] V.fs=true
 rw[laidB_iff]
 refine⟨by omega,by omega,by omega,by simp,h4,by simp,fun f hf=> ?_⟩
 obtain⟨k,hk,rfl⟩:=List.mem_iff_getElem.1 hf
 have h5:=(right_at h.right (List.getElem?_eq_getElem hk)).1
 unfold mayB at h5
 simp only[Bool.and_eq_true,decide_eq_true_eq] at h5
 rw[badF_iff]
 refine decide_eq_false ?_
 omega
theorem VOk.again {V:VerV}(h:VOk V)(hl:V.whole.laid=true):AppR VerV.zero V.whole (some V):=by
 obtain⟨h1,h2,h3,-⟩:=right_nums h.right
 have e1:raV 0 V.lg=V.lg:=by unfold raV;rw[if_neg (by omega)]
 have e2:raV 0 V.nx=V.nx:=by unfold raV;rw[if_neg (by omega)]
 have e3:raV 0 V.sq=V.sq:=by unfold raV;rw[if_neg (by omega)]
 refine .inr ⟨[],V.fs,?_,?_,rfl,?_,(right_lt h.right).imp fun h=>ltF_le h,?_⟩
 ·show some V=some ⟨raV 0 V.lg,raV 0 V.nx,raV 0 V.sq,V.fs⟩
  rw[e1,e2,e3]
 ·unfold okE
  have r0:rightB 0 0 0 []=true:=by decide
  have l0:laidB V.lg V.nx V.sq [] V.fs=true:=hl
  show(rightB 0 0 0 []&&(laidB V.lg V.nx V.sq [] V.fs&&(decide (V.lg<0∨0≤V.lg)&&(decide (V.nx<0∨0≤V.nx)&&decide (V.sq<0∨0≤V.sq)))))=true
  rw[r0,l0,decide_eq_true (by omega),decide_eq_true (by omega),decide_eq_true (by omega)]
  rfl
 ·exact List.Perm.refl _
 ·show rightB (raV 0 V.lg) (raV 0 V.nx) (raV 0 V.sq) V.fs=true
  rw[e1,e2,e3]
  exact h.right
def ReplR:List (List Nat)→VerV→VerV→Prop
 | [],V,V'=>V'=V
 |r::rs,V,V'=>∃x V1,decF r=some x∧x.edV.rng∧AppR V x.edV (some V1)∧ReplR rs V1 V'
theorem ReplR.snoc:∀ {rs:List (List Nat)} {r:List Nat} {V V1 V2:VerV} {x:Ed},ReplR rs V V1→decF r=some x→x.edV.rng→AppR V1 x.edV (some V2)→ReplR (rs++[r]) V V2
 | [],r,V,V1,V2,x,h,hd,hx,ha=>by
  have h:V1=V:=h
  subst h
  exact⟨x,V2,hd,hx,ha,rfl⟩
 |q::rs,r,V,V1,V2,x,h,hd,hx,ha=>by
  obtain⟨y,V3,h1,h4,h2,h3⟩:=h
  exact⟨y,V3,h1,h4,h2,h3.snoc hd hx ha⟩
theorem VOk.app {V V1:VerV}{E:EdV}(h:VOk V)(hE:E.rng)(ha:AppR V E (some V1)):VOk V1:=by
 obtain⟨h1,h2⟩:=appR_right ha
 exact⟨h1,fun f hf=>(h2 f hf).elim (h.rng f) (hE.add f)⟩
theorem VOk.zero:VOk VerV.zero:=⟨by decide,fun f hf=>by cases hf⟩
def V1st:VerV:=⟨0,1,0,[]⟩
def E1st:EdV:=⟨-1,1,-1,[],[]⟩
theorem first_ok:VOk V1st∧E1st.rng∧E1st.laid=true∧AppR VerV.zero E1st (some V1st):=by
 refine⟨⟨by decide,fun f hf=>(by cases hf)⟩,⟨⟨by decide,by decide⟩,⟨by decide,by decide⟩,⟨by decide,by decide⟩,fun x hx=>(by cases hx),fun f hf=>(by cases hf)⟩,by decide, .inr ⟨[],[],rfl,by decide,rfl,List.Perm.refl _,List.Pairwise.nil,by decide⟩⟩
end Go.Proofs.YtdpipgidpkmolaaGreatDoor
namespace Go.Proofs.YtdpipgidpkmolaaGreatDoor
open Go.RowKit
section
variable {P:Program} {ops:Array Oper} {Q:Exit→Act→World→Prop} {n:Nat} {F0:List (Nat × Value)} {G:World→World→Prop} {w0:World} {CH:List Nat} {J:Nat→World→Prop} {L:List Nat} {B:Env→Prop} {k:Nat} {o:Oper} {r:List Oper} {Γ:Env} {x y:Operand} {T:TypeId} {v:Value} {E:Operand→Option Value} {w:World}
theorem DJ.chainS (c:Nat)(hp:posC CH k=some c)(hu:uniq Γ=true)(hg:o.guard=none)(hc:∀w,G w0 w→J c w→∃w',RunsU P (evX [] F0 Γ o) o w w'∧G w w'∧J (c+1) w')
  (hr:DrJ P ops Q n F0 G w0 CH J L B (k+1) r ((k,o.dst, .eq undef)::Γ)) (hl:memB L k=false:=by rfl):DrJ P ops Q n F0 G w0 CH J L B k (o::r) Γ:=
 ⟨.eq undef,trivial,(by
  intro a w c2 h1 h2 h3 h4 h5 h6
  rw[if_pos (by simp[Region.wanted,hg])]
  obtain rfl:=h4 c hp
  obtain⟨w',hrun,hG,hJ⟩:=hc w h2 h3
  unfold Oper.wp
  rw[hrun a.eval (evX_spec hu h5 h6 (fun t v ht=>by cases ht)),Oper.upon_skip]
  refine⟨undef,rfl,hG,rfl,?_⟩
  unfold nextC
  rw[hp]
  exact hJ),(fun h=>by rw[hl] at h;cases h),hr⟩
theorem RunsU.storeN {g off m:Nat}{t:TypeId}{cs cur:Array Value}(ho:o.op= .store T x y)(hx:E x=some (.pointer (some ⟨g,off,none⟩)))(hy:E y=some v)(hcs:v.cells=cs)(hs:sizeIs P T m=true)(hm:cs.size=m)(h1:ones cs.toList)(hb:Blk w g t cur)(hfit:off+cs.size≤cur.size):
  ∃w',RunsU P E o w w'∧Put w w' g t (cur.toList.take off++(cs.toList++cur.toList.drop (off+cs.size))).toArray:=by
 obtain⟨inf,hi,hsz⟩:=sizeIs_spec hs
 have hst:=run_storeCells_at P g off t cs.toList 0 cur w hb (by simpa using hfit) (ones_spec h1)
 simp only[Nat.add_zero,Array.length_toList] at hst
 refine⟨_,fun ρ h=> ?_,⟨setRow_heap w g cur _ t (0,0) hb,grownBy_setRow w g _,by simp⟩⟩
 unfold execOp
 simp only[ho]
 rw[h _ _ hx,h _ _ hy]
 subst hcs
 simp[Instr.storeAt,Instr.sureAddr,storeVar,sizeOf,typeInfo,hi,hsz.trans hm.symm,hst]
theorem RunsU.one {g i:Nat}{t:TypeId}{cs:Array Value}{u:Value}(ho:o.op= .store T x y)(hx:E x=some (.pointer (some ⟨g,i,none⟩)))(hy:E y=some v)(hs:sizeIs P T 1=true)(h1:v.cells= #[v]) (ho1:v.oneCell'=true) (hb:Blk w g t cs) (hc:cs[i]? =some u):
  ∃w',RunsU P E o w w'∧Put w w' g t (cs.setIfInBounds i v):=by
 obtain⟨inf,hi,hsz⟩:=sizeIs_spec hs
 exact⟨_,RunsU.store1 ho hx hy hi hsz h1 ho1 ((hb.cell i).trans hc) (hb.frozen i),put_of hb v⟩
theorem DJ.storeN (c:Nat){g off m:Nat}{t:TypeId}{cs cur:Array Value}(hp:posC CH k=some c)(hu:uniq Γ=true)(hg:o.guard=none)(ho:o.op= .store T x y)(hx:evX [] F0 Γ o x=some (.pointer (some ⟨g,off,none⟩)))(hy:evX [] F0 Γ o y=some v)(hcs:v.cells=cs)(hs:sizeIs P T m=true)(hm:cs.size=m)(h1:ones cs.toList)(hb:∀w,J c w→Blk w g t cur)(hfit:off+cs.size≤cur.size)(hG:∀w w' cs,Put w w' g t cs→G w w')(hJ:∀w',Blk w' g t (cur.toList.take off++(cs.toList++cur.toList.drop (off+cs.size))).toArray→J (c+1) w')
  (hr:DrJ P ops Q n F0 G w0 CH J L B (k+1) r ((k,o.dst, .eq undef)::Γ)) (hl:memB L k=false:=by rfl):DrJ P ops Q n F0 G w0 CH J L B k (o::r) Γ:=
 DJ.chainS c hp hu hg (fun w _ h0=>by
  obtain⟨w',hr,p⟩:=RunsU.storeN (w:=w) ho hx hy hcs hs hm h1 (hb w h0) hfit
  exact⟨w',hr,hG _ _ _ p,hJ _ p.blk⟩) hr hl
theorem DJ.store1 (c:Nat){g i:Nat}{t:TypeId}{cur:Array Value}{u:Value}(hp:posC CH k=some c)(hu:uniq Γ=true)(hg:o.guard=none)(ho:o.op= .store T x y)(hx:evX [] F0 Γ o x=some (.pointer (some ⟨g,i,none⟩)))(hy:evX [] F0 Γ o y=some v)(hs:sizeIs P T 1=true)(h1:v.cells= #[v]) (ho1:v.oneCell'=true) (hb:∀w,J c w→Blk w g t cur) (hc:cur[i]? =some u) (hG:∀w w' cs,Put w w' g t cs→G w w') (hJ:∀w',Blk w' g t (cur.setIfInBounds i v)→J (c+1) w')
  (hr:DrJ P ops Q n F0 G w0 CH J L B (k+1) r ((k,o.dst, .eq undef)::Γ)) (hl:memB L k=false:=by rfl):DrJ P ops Q n F0 G w0 CH J L B k (o::r) Γ:=
 DJ.chainS c hp hu hg (fun w _ h0=>by
  obtain⟨w',hr,p⟩:=RunsU.one (w:=w) ho hx hy hs h1 ho1 (hb w h0) hc
  exact⟨w',hr,hG _ _ _ p,hJ _ p.blk⟩) hr hl
end
structure GK (g:Nat)(w w':World):Prop where
 grown:w.grownBy w' (some g)
 size:w'.heap.size=w.heap.size
theorem GK.refl (g:Nat)(w:World):GK g w w:=⟨⟨rfl,rfl,rfl,Nat.le_refl _,fun _ _ _=>rfl⟩,rfl⟩
theorem GK.trans {g:Nat}{w w' w'':World}(h:GK g w w')(k:GK g w' w''):GK g w w'':=⟨⟨k.grown.os.trans h.grown.os,k.grown.tape.trans h.grown.tape,k.grown.output.trans h.grown.output,Nat.le_trans h.grown.size k.grown.size,fun i hi hne=>(k.grown.block i (by rw[h.size];exact hi) hne).trans (h.grown.block i hi hne)⟩,k.size.trans h.size⟩
theorem Blk.gk {g j:Nat}{w w':World}{t:TypeId}{cs:Array Value}(h:Blk w j t cs)(f:GK g w w')(hne:j≠g:=by omega):Blk w' j t cs:=h.grown f.grown (fun e=>hne (by injection e))
theorem GK.put {g:Nat}{w w':World}{t:TypeId}{cs:Array Value}(f:GK g w w')(k:Blk w' g t cs):Put w w' g t cs:=⟨k,f.grown,f.size⟩
def nthB (w:World)(g:Nat)(t:TypeId)(a b c:Array Value):Nat→Prop
 |0=>Blk w g t a
 |1=>Blk w g t b
 |_=>Blk w g t c
open Classical in
noncomputable def appF (V:VerV) (E:EdV):Option VerV:=if h:∃V1,AppR V E (some V1) then some h.choose else none
theorem appF_of {V:VerV}{E:EdV}{o:Option VerV}(k:AppR V E o):appF V E=o:=by
 unfold appF
 split
 ·rename_i h
  exact(appR_det h.choose_spec k).symm
 ·rename_i h
  cases o with
  |none=>rfl
  |some V1=>exact absurd ⟨V1,k⟩ h
theorem appF_app {V V1:VerV}{E:EdV}(h:appF V E=some V1):AppR V E (some V1):=by
 unfold appF at h
 split at h
 ·rename_i h1
  injection h with h
  rw[←h]
  exact h1.choose_spec
 ·cases h
def ApO (B:Nat)(V1:VerV)(u:Value)(w:World):Prop:=∃A c,u= .tuple #[.agg #[.int .i64 V1.lg, .int .i64 V1.nx, .int .i64 V1.sq, .slice A V1.fs.length c], .int .i64 0]∧Own w B 81 6 (.slice A V1.fs.length c) V1.fs.length (fcs V1.fs)
theorem ApO.stable {B:Nat}{V1:VerV}:∀v w w',Grow w w'→ApO B V1 v w→ApO B V1 v w':=fun _ _ _ hG ⟨A,c,e,h⟩=>⟨A,c,e,h.step hG⟩
def ApV (B:Nat)(V1:VerV)(u:Value)(w:World):Prop:=∃A c,u= .agg #[.int .i64 V1.lg, .int .i64 V1.nx, .int .i64 V1.sq, .slice A V1.fs.length c]∧Own w B 81 6 (.slice A V1.fs.length c) V1.fs.length (fcs V1.fs)
theorem ApV.stable {B:Nat}{V1:VerV}:∀v w w',Grow w w'→ApV B V1 v w→ApV B V1 v w':=fun _ _ _ hG ⟨A,c,e,h⟩=>⟨A,c,e,h.step hG⟩
theorem apply_some (V V1:VerV)(E:EdV)(B S n nd na c cd ca:Nat)(A A2 A3:Option Addr)(w:World)(hf:appF V E=some V1)(hn:V.fs.length=n)(hnd:E.drop.length=nd)(hna:E.add.length=na)(hr:Reads w B 6 A n (fcs V.fs))(hrd:Reads w B 1 A2 nd (DI E.drop))(hrx:Reads w B 6 A3 na (fcs E.add))(hB:B≤w.heap.size)(hS:S≤w.heap.size)(hok:∀f∈V.fs,f.ok)(hxok:∀f∈E.add,f.ok)(hcap:n≤c)(h30:n≤1000)(hd1:nd≤1000)(ha1:na≤1000):
  Calls Tryz.prog 31 #[.agg #[.int .i64 V.lg, .int .i64 V.nx, .int .i64 V.sq, .slice A n c], .agg #[.int .i64 E.lg, .int .i64 E.nx, .int .i64 E.sq, .slice A2 nd cd, .slice A3 na ca]] w fun e w'=>∃v,e= .returned v∧Grow w w'∧ApO S V1 v w':=by
 subst hn hnd hna
 refine(apply_gen V E B c cd ca A A2 A3 w hr hrd hrx hB hok hxok hcap h30 hd1 ha1).mono ?_
 rintro e w' ⟨hg,⟨h1,-⟩|⟨M,v,h1,rfl,own,-⟩⟩
 ·have:=appF_of h1
  rw[hf] at this
  cases this
 ·have:=appF_of h1
  rw[hf] at this
  injection this with this
  subst this
  obtain⟨A9,c9,rfl,-⟩:=own.reads
  exact⟨_,rfl,hg,A9,c9,rfl,own.mono hS⟩
theorem apply_none (V:VerV)(E:EdV)(B n nd na c cd ca:Nat)(A A2 A3:Option Addr)(w:World)(hf:appF V E=none)(hn:V.fs.length=n)(hnd:E.drop.length=nd)(hna:E.add.length=na)(hr:Reads w B 6 A n (fcs V.fs))(hrd:Reads w B 1 A2 nd (DI E.drop))(hrx:Reads w B 6 A3 na (fcs E.add))(hB:B≤w.heap.size)(hok:∀f∈V.fs,f.ok)(hxok:∀f∈E.add,f.ok)(hcap:n≤c)(h30:n≤1000)(hd1:nd≤1000)(ha1:na≤1000):
  Calls Tryz.prog 31 #[.agg #[.int .i64 V.lg, .int .i64 V.nx, .int .i64 V.sq, .slice A n c], .agg #[.int .i64 E.lg, .int .i64 E.nx, .int .i64 E.sq, .slice A2 nd cd, .slice A3 na ca]] w fun e w'=>e= .returned (.tuple #[.agg #[.int .i64 0, .int .i64 0, .int .i64 0, .slice none 0 0], .int .i64 1])∧Grow w w':=by
 subst hn hnd hna
 refine(apply_gen V E B c cd ca A A2 A3 w hr hrd hrx hB hok hxok hcap h30 hd1 ha1).mono ?_
 rintro e w' ⟨hg,⟨h1,rfl⟩|⟨M,v,h1,rfl,own,-⟩⟩
 ·exact⟨rfl,hg⟩
 ·have:=appF_of h1
  rw[hf] at this
  cases this
def EdV.raised (E:EdV)(V:VerV):EdV:= {E with nx:=if 0≤E.nx then max E.nx V.nx else E.nx}
theorem EdV.rng.raised {E:EdV}{V:VerV}(h:E.rng)(hV:VOk V):(E.raised V).rng:=⟨h.lg,by
 obtain⟨-,h2,-,-⟩:=right_nums hV.right
 have h3:=h.nx
 unfold EdV.raised
 show I64 (if 0≤E.nx then max E.nx V.nx else E.nx)
 obtain⟨h4,h5⟩:=h3
 split
 ·constructor<;>omega
 ·exact⟨h4,h5⟩,h.sq,h.drop,h.add⟩
set_option maxHeartbeats 8000000 in
theorem log_any (B g0 gd gl gen n c nd cd na ca:Nat)(D:Dk)(A A2 A3:Option Addr)(V:VerV)(E:EdV)(rs:List (List Nat))(w:World)(gv:Gv w)(hgB:max 2 1 <B)(e0:B≤g0)(el:B≤gl)(k0:Blk w g0 70 #[.pointer (some ⟨gd,0,none⟩), .int .i64 (gen:Int), .pointer (some ⟨gl,0,none⟩), .int .i64 V.lg, .int .i64 V.nx, .int .i64 V.sq, .slice A n c, .int .i64 V.nx, .bool false]) (k98:Blk w gl 111 ((⟨0,rs.length,(framesN rs).length,false⟩:Wl).cs gd (genN gen))) (dk:DkAt w B gd D) (hm:MDk D) (hfew:D.files.length≤150) (hg:gen≤675) (hlog:GLog D gen rs) (own:Own w B 81 6 (.slice A n c) n (fcs V.fs)) (hV:VOk V) (hE:E.rng) (hn:V.fs.length=n) (hnd:E.drop.length=nd) (hna:E.add.length=na) (hrd:Reads w w.heap.size 1 A2 nd (DI E.drop)) (hrx:Reads w w.heap.size 6 A3 na (fcs E.add)) (hd1:nd≤1000) (ha1:na≤1000) (hrs:rs.length≤100) (hfr:(framesN rs).length≤900000):
  Calls Tryz.prog 11 #[.pointer (some ⟨g0,0,none⟩), .agg #[.int .i64 E.lg, .int .i64 E.nx, .int .i64 E.sq, .slice A2 nd cd, .slice A3 na ca]] w fun e w'=>Mf B w w'∧∃r,e= .returned (.int .i64 r)∧
  (((r=1∨r=5)∧DkAt w' B gd D∧Blk w' g0 70 #[.pointer (some ⟨gd,0,none⟩), .int .i64 (gen:Int), .pointer (some ⟨gl,0,none⟩), .int .i64 V.lg, .int .i64 V.nx, .int .i64 V.sq, .slice A n c, .int .i64 V.nx, .bool false]∧Blk w' gl 111 ((⟨0,rs.length,(framesN rs).length,false⟩:Wl).cs gd (genN gen))∧Own w' B 81 6 (.slice A n c) n (fcs V.fs))∨
   (r=0∧∃V1 D' A' c',AppR V (E.raised V) (some V1)∧(E.raised V).laid=true∧MDk D'∧D'.files.length≤D.files.length+2∧GLog D' gen (rs++[(E.raised V).bytes])∧(∀x,x≠lgN gen→x≠akN gen→D'.get x=D.get x)∧DkAt w' B gd D'∧Blk w' g0 70 #[.pointer (some ⟨gd,0,none⟩), .int .i64 (gen:Int), .pointer (some ⟨gl,0,none⟩), .int .i64 V1.lg, .int .i64 V1.nx, .int .i64 V1.sq, .slice A' V1.fs.length c', .int .i64 V1.nx, .bool false]∧Blk w' gl 111 ((⟨0,(rs++[(E.raised V).bytes]).length,(framesN (rs++[(E.raised V).bytes])).length,false⟩:Wl).cs gd (genN gen))∧Own w' B 81 6 (.slice A' V1.fs.length c') V1.fs.length (fcs V1.fs))):=by
 have mf:=Mf.refl B w
 have bel:=Below.refl w.heap.size w
 have hBw:=dk.size
 have hne9:=k0.neT k98
 obtain⟨-,-,-,hn100⟩:=right_nums hV.right
 have hnc:=own.cap
 refine Zs 83 Tryz.func11 ?_
 refine Zsr ?_
 refine Seq.box rfl rfl rfl rfl rfl ?_
 intro g3 w1 n3
 have e3:=Nat.le_trans bel.size n3.ge
 have l3:=Nat.lt_of_lt_of_le k98.lt n3.ge
 have l3_k0:=Nat.lt_of_lt_of_le k0.lt n3.ge
 replace bel:=bel.step n3.below
 replace mf:=mf.step n3.below
 replace gv:=gv.step n3.below
 replace k0:=k0.step n3.below
 replace k98:=k98.step n3.below
 replace dk:=dk.step n3.below
 replace own:=own.step n3.below
 have k3:=n3.blk
 refine Za ?_
 refine Zk4 0 1 3 4 (Zts (Cd.block (Zsr ?_)))
 refine Zm ?_
 refine Zv (Runs.eqlP rfl rfl rfl Tryz.underlying28) ?_
 refine Za ?_
 refine Zk5 0 1 3 4 9 (Zt ?_)
 refine Cd.condF rfl rfl ?_
 refine Zsr ?_
 refine Zm ?_
 refine Zv (Runs.nilCheck rfl rfl) ?_
 refine Zf 8 Tryz.underlying70 ?_
 refine ZL Tryz.underlying4 k0 ?_
 refine Za ?_
 refine Zk6 0 1 3 4 9 12 (Zt ?_)
 refine Cd.condF rfl rfl ?_
 replace k3:Blk _ g3 47 #[.int .i64 E.lg, .int .i64 E.nx, .int .i64 E.sq, .slice A2 nd cd, .slice A3 na ca]:=k3
 have hne3:=k0.neT k3
 have hne93:=k98.neT k3
 refine Cd.skip (Post.block_normal (Zt ?_))
 refine Cd.seqJ (σ:=Unit) (fun _=>[(0, .pointer (some ⟨g0,0,none⟩)),(3, .pointer (some ⟨g3,0,none⟩))]) (fun _ wr=>Below w.heap.size w wr∧Mf B w wr∧Gv wr∧Blk wr g0 70 #[.pointer (some ⟨gd,0,none⟩), .int .i64 (gen:Int), .pointer (some ⟨gl,0,none⟩), .int .i64 V.lg, .int .i64 V.nx, .int .i64 V.sq, .slice A n c, .int .i64 V.nx, .bool false]∧Blk wr gl 111 ((⟨0,rs.length,(framesN rs).length,false⟩:Wl).cs gd (genN gen))∧DkAt wr B gd D∧Own wr B 81 6 (.slice A n c) n (fcs V.fs)∧Blk wr g3 47 #[.int .i64 (E.raised V).lg, .int .i64 (E.raised V).nx, .int .i64 (E.raised V).sq, .slice A2 nd cd, .slice A3 na ca]) ?_ ?_
 ·skip
  by_cases hnx:0≤E.nx
  ·have hR:(E.raised V).nx=max E.nx V.nx:=by unfold EdV.raised;simp only;rw[if_pos hnx]
   refine Cd.seq ?_
   refine Zdr 15 ?_
   intro w2 hw2 zw2
   replace bel:=bel.step hw2
   replace mf:=mf.step hw2
   replace gv:=gv.step hw2
   replace k0:=k0.step hw2
   replace k98:=k98.step hw2
   replace dk:=dk.step hw2
   replace own:=own.step hw2
   replace k3:=k3.step hw2
   have zbel:=bel.size
   have zlt:=k3.lt
   refine Zdf 1 Tryz.underlying47 ?_
   refine ZdL Tryz.underlying3 k3 ?_
   refine Zd (fun w hG=>(Runs.geq rfl rfl rfl).isT (hnx)) ?_
   refine Zdm ?_
   refine Zds ?_
   refine Zds ?_
   refine Zds ?_
   refine Zds ?_
   refine Zds ?_
   refine Zds ?_
   refine Zds ?_
   refine Zds ?_
   refine Zds ?_
   refine Zds ?_
   refine Zd (fun w hG=>Runs.pickT rfl rfl rfl) ?_
   refine Dr.nil ?_
   refine FinX.done (F':=[(0,_),(1,_),(3,_),(4,_),(9,_),(12,_),(31,_)]) rfl ⟨rfl,rfl,rfl,rfl,rfl,rfl,rfl,trivial⟩ ?_
   intro w3 hw3 fw3
   replace bel:=bel.step hw3
   replace mf:=mf.step hw3
   replace gv:=gv.step hw3
   replace k0:=k0.step hw3
   replace k98:=k98.step hw3
   replace dk:=dk.step hw3
   replace own:=own.step hw3
   replace k3:=k3.step hw3
   refine Zk7 0 1 3 4 9 12 31 (Zt ?_)
   refine Cd.condT rfl rfl ?_
   refine Zdr 7 ?_
   intro w4 hw4 zw4
   replace bel:=bel.step hw4
   replace mf:=mf.step hw4
   replace gv:=gv.step hw4
   replace k0:=k0.step hw4
   replace k98:=k98.step hw4
   replace dk:=dk.step hw4
   replace own:=own.step hw4
   replace k3:=k3.step hw4
   have zbel:=bel.size
   have zlt:=k3.lt
   refine Zdf 1 Tryz.underlying47 ?_
   refine ZdL Tryz.underlying3 k3 ?_
   refine Zdm ?_
   refine Zd (fun w hG=>Runs.nilCheck rfl rfl) ?_
   refine Zdf 7 Tryz.underlying70 ?_
   refine ZdL Tryz.underlying3 k0 ?_
   refine Zd (fun w hG=>Runs.max2 rfl rfl rfl) ?_
   refine Dr.nil ?_
   refine FinX.done (F':=[(0,_),(1,_),(3,_),(4,_),(9,_),(12,_),(31,_),(38,_)]) rfl ⟨rfl,rfl,rfl,rfl,rfl,rfl,rfl,rfl,trivial⟩ ?_
   intro w5 hw5 fw5
   replace bel:=bel.step hw5
   replace mf:=mf.step hw5
   replace gv:=gv.step hw5
   replace k0:=k0.step hw5
   replace k98:=k98.step hw5
   replace dk:=dk.step hw5
   replace own:=own.step hw5
   replace k3:=k3.step hw5
   refine Zf 1 Tryz.underlying47 ?_
   refine Zq k3 ?_
   intro w6 pw6
   replace bel:=bel.put k3 pw6 e3
   replace mf:=mf.put k3 pw6 e3
   replace gv:=gv.put k3 pw6 e3
   replace k0:=k0.put pw6 (by omega)
   replace k98:=k98.put pw6 (by omega)
   replace dk:=dk.put k3 pw6 e3
   replace own:=own.put k3 pw6 e3
   replace k3:=pw6.blk
   refine Zk7 0 1 3 4 9 12 31 ?_
   exact Post.join () ⟨rfl,rfl,trivial⟩ ⟨bel,mf,gv,k0,k98,dk,own,by rw[hR];exact k3⟩
  ·have hR:(E.raised V).nx=E.nx:=by unfold EdV.raised;simp only;rw[if_neg hnx]
   refine Cd.seq ?_
   refine Zdr 15 ?_
   intro w2 hw2 zw2
   replace bel:=bel.step hw2
   replace mf:=mf.step hw2
   replace gv:=gv.step hw2
   replace k0:=k0.step hw2
   replace k98:=k98.step hw2
   replace dk:=dk.step hw2
   replace own:=own.step hw2
   replace k3:=k3.step hw2
   have zbel:=bel.size
   have zlt:=k3.lt
   refine Zdf 1 Tryz.underlying47 ?_
   refine ZdL Tryz.underlying3 k3 ?_
   refine Zd (fun w hG=>(Runs.geq rfl rfl rfl).isF (hnx)) ?_
   refine Zdm ?_
   refine Zdg (fun w hG=>Runs.move rfl rfl) ?_
   refine Zdg (fun w hG=>Runs.nilCheck rfl rfl) ?_
   refine Zdg (fun w hG=>Runs.fieldB 7 rfl rfl Tryz.underlying70 rfl (by kernel_rfl)) ?_
   refine Zdg (fun w hG=>Runs.loadB rfl rfl Tryz.underlying3 rfl (k0.step hG) rfl) ?_
   refine Zdg (fun w hG=>Runs.move rfl rfl) ?_
   refine Zdg (fun w hG=>Runs.nilCheck rfl rfl) ?_
   refine Zdg (fun w hG=>Runs.fieldB 3 rfl rfl Tryz.underlying70 rfl (by kernel_rfl)) ?_
   refine Zdg (fun w hG=>Runs.fieldA 1 rfl rfl Tryz.underlying38 rfl (by kernel_rfl)) ?_
   refine Zdg (fun w hG=>Runs.loadB rfl rfl Tryz.underlying3 rfl (k0.step hG) rfl) ?_
   refine Zdg (fun w hG=>(Runs.gtr rfl rfl rfl).isF (by omega)) ?_
   refine Zd (fun w hG=>Runs.pickF rfl rfl rfl) ?_
   refine Dr.nil ?_
   refine FinX.done (F':=[(0,_),(1,_),(3,_),(4,_),(9,_),(12,_),(31,_)]) rfl ⟨rfl,rfl,rfl,rfl,rfl,rfl,rfl,trivial⟩ ?_
   intro w3 hw3 fw3
   replace bel:=bel.step hw3
   replace mf:=mf.step hw3
   replace gv:=gv.step hw3
   replace k0:=k0.step hw3
   replace k98:=k98.step hw3
   replace dk:=dk.step hw3
   replace own:=own.step hw3
   replace k3:=k3.step hw3
   refine Zk7 0 1 3 4 9 12 31 (Zt ?_)
   refine Cd.condF rfl rfl ?_
   refine Cd.skip ?_
   exact Post.join () ⟨rfl,rfl,trivial⟩ ⟨bel,mf,gv,k0,k98,dk,own,by rw[hR];exact k3⟩
 clear bel mf gv k0 k98 dk own k3
 rintro _ wr ⟨bel,mf,gv,k0,k98,dk,own,k3⟩
 have hER:=hE.raised hV
 have hBo:∀f∈V.fs,f.ok:=fun f hf=>(hV.rng f hf).ok
 have hxo:∀f∈(E.raised V).add,f.ok:=fun f hf=>(hE.add f hf).ok
 cases hap:appF V (E.raised V) with
 |none=>
  refine Cd.seq ?_
  refine Cd.draw 10 (by kernel_rfl) [8] (.inr (fun _ _ d _ _ h=>by cases d<;>exact h)) rfl Grow Grow.refl (fun _ _ _=>Grow.trans) ?_
  intro w2 hw2 zw2
  replace bel:=bel.step hw2
  replace mf:=mf.step hw2
  replace gv:=gv.step hw2
  replace k0:=k0.step hw2
  replace k98:=k98.step hw2
  replace dk:=dk.step hw2
  replace own:=own.step hw2
  replace k3:=k3.step hw2
  have zbel:=bel.size
  have zlt:=k3.lt
  have hb2:=bel.size
  refine Zdm ?_
  refine Zd (fun w hG=>Runs.nilCheck rfl rfl) ?_
  refine Zdf 3 Tryz.underlying70 ?_
  refine Zd (fun w hG=>Runs.loadF (ps:=[.int .i64 V.lg, .int .i64 V.nx, .int .i64 V.sq, .slice A n c]) rfl rfl Tryz.underlying38 rfl (m:=4) (by kernel_rfl) rfl ((k0.step hG).sub sub_four)) ?_
  refine Zd (fun w hG=>Runs.loadW rfl rfl Tryz.underlying47 rfl (k3.step hG) (m:=5) (by kernel_rfl) rfl) ?_
  refine Dr.callV rfl (fun w=>Ze Tryz.func31) rfl (fun w hG=>apply_none V (E.raised V) w.heap.size n nd na c cd ca A A2 A3 w hap hn hnd hna (own.step hG).rdsN ((hrd.below (bel.step hG)).more (bel.step hG).size) ((hrx.below (bel.step hG)).more (bel.step hG).size) (Nat.le_refl _) hBo hxo hnc (by omega) hd1 ha1) ?_
  refine Zdm ?_
  refine Zd (fun w hG=>Runs.extract rfl rfl rfl) ?_
  refine Dr.late rfl rfl (fun w=>Runs.extract rfl rfl rfl) Grow.refl rfl ?_
  refine Dr.alloc rfl rfl (run_zero zero_edit_Version) rfl ?_
  refine Dr.nil ?_
  refine FinX.open (j:=9) rfl ?_
  intro u9
  refine FinX.done (F':=[(0,_),(3,_),(5,_),(47,_),(48,_)]) rfl ⟨rfl,rfl,rfl,rfl,rfl,trivial⟩ ?_
  intro w3 hw3 fw3
  replace bel:=bel.step hw3
  replace mf:=mf.step hw3
  replace gv:=gv.step hw3
  replace k0:=k0.step hw3
  replace k98:=k98.step hw3
  replace dk:=dk.step hw3
  replace own:=own.step hw3
  replace k3:=k3.step hw3
  obtain⟨g5,rfl,k5,e5⟩:=fw3.2
  replace e5:w.heap.size≤g5:=Nat.le_trans hb2 e5
  have q98:=k98.neT k5
  have q0:=k0.neT k5
  have q3:=k3.neT k5
  refine Zo 4 k5 ?_
  intro w4 pw4
  replace bel:=bel.put k5 pw4 e5
  replace mf:=mf.put k5 pw4 e5
  replace gv:=gv.put k5 pw4 e5
  replace k0:=k0.put pw4 (by omega)
  replace k98:=k98.put pw4 (by omega)
  replace dk:=dk.put k5 pw4 e5
  replace own:=own.put k5 pw4 e5
  replace k3:=k3.put pw4 (by omega)
  replace k5:=pw4.blk
  refine Za ?_
  refine Zk4 0 3 5 6 (Zts (Zsr ?_))
  refine Zm ?_
  refine Zni ?_
  refine Zk5 0 3 5 6 50 (Zt ?_)
  refine Cd.condT rfl rfl ?_
  refine Zsr ?_
  refine Zm ?_
  refine Za ?_
  refine Zk6 0 3 4 5 6 50 (Zt (Cd.ret (Post.then_ret ?_)))
  refine Ze1 ?_
  exact⟨mf,1,rfl, .inl ⟨.inl rfl,dk,k0,k98,own⟩⟩
 |some V1=>
  refine Cd.seq ?_
  refine Cd.draw 10 (by kernel_rfl) [8] (.inr (fun _ _ d _ _ h=>by cases d<;>exact h)) rfl Grow Grow.refl (fun _ _ _=>Grow.trans) ?_
  intro w2 hw2 zw2
  replace bel:=bel.step hw2
  replace mf:=mf.step hw2
  replace gv:=gv.step hw2
  replace k0:=k0.step hw2
  replace k98:=k98.step hw2
  replace dk:=dk.step hw2
  replace own:=own.step hw2
  replace k3:=k3.step hw2
  have zbel:=bel.size
  have zlt:=k3.lt
  have hb2:=bel.size
  refine Zdm ?_
  refine Zd (fun w hG=>Runs.nilCheck rfl rfl) ?_
  refine Zdf 3 Tryz.underlying70 ?_
  refine Zd (fun w hG=>Runs.loadF (ps:=[.int .i64 V.lg, .int .i64 V.nx, .int .i64 V.sq, .slice A n c]) rfl rfl Tryz.underlying38 rfl (m:=4) (by kernel_rfl) rfl ((k0.step hG).sub sub_four)) ?_
  refine Zd (fun w hG=>Runs.loadW rfl rfl Tryz.underlying47 rfl (k3.step hG) (m:=5) (by kernel_rfl) rfl) ?_
  refine Dr.call (Φ:=ApO B V1) rfl (fun w=>Ze Tryz.func31) rfl (ApO.stable) (fun w hG=>apply_some V V1 (E.raised V) w.heap.size B n nd na c cd ca A A2 A3 w hap hn hnd hna (own.step hG).rdsN ((hrd.below (bel.step hG)).more (bel.step hG).size) ((hrx.below (bel.step hG)).more (bel.step hG).size) (Nat.le_refl _) (Nat.le_trans hBw (Nat.le_trans bel.size hG.size)) hBo hxo hnc (by omega) hd1 ha1) ?_
  refine Dr.val1 (j:=5) (Φ:=ApO B V1) Grow.refl rfl rfl rfl ApO.stable rfl (fun u w hG hu=>⟨_,Runs.move rfl rfl,hu⟩) ?_
  refine Dr.val1 (j:=6) (Φ:=ApV B V1) Grow.refl rfl rfl rfl ApV.stable rfl (fun u w hG hu=>by obtain⟨A,c,rfl,h⟩:=hu;exact⟨_,Runs.extract rfl rfl rfl,A,c,rfl,h⟩) ?_
  refine Dr.late1 (j:=6) (v:= .int .i64 0) rfl rfl rfl rfl (fun u w w' hG hu=>by obtain⟨A,c,rfl,h⟩:=hu;exact Runs.extract rfl rfl rfl) Grow.refl rfl ?_
  refine Dr.alloc rfl rfl (run_zero zero_edit_Version) rfl ?_
  refine Dr.nil ?_
  refine FinX.open (j:=7) rfl ?_
  intro u7
  refine FinX.open (j:=9) rfl ?_
  intro u9
  refine FinX.done (F':=[(0,_),(3,_),(5,_),(47,_),(48,_)]) rfl ⟨rfl,rfl,rfl,rfl,rfl,trivial⟩ ?_
  intro w3 hw3 fw3
  replace bel:=bel.step hw3
  replace mf:=mf.step hw3
  replace gv:=gv.step hw3
  replace k0:=k0.step hw3
  replace k98:=k98.step hw3
  replace dk:=dk.step hw3
  replace own:=own.step hw3
  replace k3:=k3.step hw3
  obtain⟨⟨-,hu7⟩,hu9⟩:=fw3
  obtain⟨A1,c1,rfl,own1⟩:=hu7
  obtain⟨g5,rfl,k5,e5⟩:=hu9
  replace e5:w.heap.size≤g5:=Nat.le_trans hb2 e5
  have q98:=k98.neT k5
  have q0:=k0.neT k5
  have q3:=k3.neT k5
  refine Zo 4 k5 ?_
  intro w4 pw4
  replace bel:=bel.put k5 pw4 e5
  replace mf:=mf.put k5 pw4 e5
  replace gv:=gv.put k5 pw4 e5
  replace k0:=k0.put pw4 (by omega)
  replace k98:=k98.put pw4 (by omega)
  replace dk:=dk.put k5 pw4 e5
  replace own:=own.put k5 pw4 e5
  replace k3:=k3.put pw4 (by omega)
  replace own1:=own1.put k5 pw4 e5
  replace k5:=pw4.blk
  refine Za ?_
  refine Zk4 0 3 5 6 (Zts (Zsr ?_))
  refine Zm ?_
  refine Zni ?_
  refine Zk5 0 3 5 6 50 (Zt ?_)
  refine Cd.condF rfl rfl ?_
  replace k5:Blk _ g5 38 #[.int .i64 V1.lg, .int .i64 V1.nx, .int .i64 V1.sq, .slice A1 V1.fs.length c1]:=k5
  refine Cd.skip (Ztq ?_)
  refine ZW 5 Tryz.underlying47 k3 ?_
  refine Zc (Ze Tryz.func32) (encode_all (E.raised V) w.heap.size A2 A3 nd na cd ca _ hnd hna (hrd.below bel) (hrx.below bel) bel.size hER) ?_
  rintro e w8 ⟨⟨hl,rfl⟩|⟨hl,rfl⟩,hb8⟩
  ·refine⟨_,rfl,?_⟩
   replace bel:=bel.step hb8
   replace mf:=mf.step hb8
   replace gv:=gv.step hb8
   replace k0:=k0.step hb8
   replace k98:=k98.step hb8
   replace dk:=dk.step hb8
   replace own:=own.step hb8
   replace k3:=k3.step hb8
   replace k5:=k5.step hb8
   replace own1:=own1.step hb8
   refine Zm ?_
   refine Zx ?_
   refine Zx ?_
   refine Za ?_
   refine Za ?_
   refine Zk6 0 3 5 6 7 50 (Zts (Zsr ?_))
   refine Zm ?_
   refine Zni ?_
   refine Zk7 0 3 5 6 7 50 58 (Zt ?_)
   refine Cd.condT rfl rfl ?_
   refine Zsr ?_
   refine Zm ?_
   refine Za ?_
   refine Zk8 0 3 4 5 6 7 50 58 (Zt (Cd.ret (Post.then_ret ?_)))
   refine Ze1 ?_
   exact⟨mf,1,rfl, .inl ⟨.inl rfl,dk,k0,k98,own⟩⟩
  ·refine⟨_,rfl,?_⟩
   obtain⟨hbb,hbl,-⟩:=EdV.back hER hl
   have happ:=GLog.append (data:=(E.raised V).bytes) hm hlog hg hbb (by omega) (by omega) (by omega) (by omega)
   replace bel:=bel.step hb8
   replace mf:=mf.step hb8
   replace gv:=gv.step hb8
   replace k0:=k0.step hb8
   replace k98:=k98.step hb8
   replace dk:=dk.step hb8
   replace own:=own.step hb8
   replace k3:=k3.step hb8
   replace k5:=k5.step hb8
   replace own1:=own1.step hb8
   refine Zm ?_
   refine Zx ?_
   refine Zx ?_
   refine Za ?_
   refine Za ?_
   refine Zk6 0 3 5 6 7 50 (Zts (Zsr ?_))
   refine Zm ?_
   refine Zni ?_
   refine Zk7 0 3 5 6 7 50 58 (Zt ?_)
   refine Cd.condF rfl rfl ?_
   refine Cd.skip (Zts (Zsr ?_))
   refine Zm ?_
   refine Zv (Runs.nilCheck rfl rfl) ?_
   refine Zf 2 Tryz.underlying70 ?_
   refine ZL Tryz.underlying68 k0 ?_
   refine Zm ?_
   refine Zc (Ze Tryz.func33) (append_w_any B gl gd D (genN gen) (E.raised V).bytes ⟨0,rs.length,(framesN rs).length,false⟩ _ gv hgB el k98 dk (genN_byt hg) (show 3≤8 by decide) (by simp) (by simp only;omega) (by simp only;omega) hbb (by omega)) ?_
   clear k98 dk
   rintro e w5 ⟨rfl,k98,dk,fw5⟩
   refine⟨_,rfl,?_⟩
   replace mf:=mf.lf fw5
   replace gv:=gv.lf fw5
   replace k0:=k0.lf fw5
   replace own:=own.lf fw5
   replace k3:=k3.lf fw5
   replace k5:=k5.lf fw5
   replace own1:=own1.lf fw5
   rcases happ with hA|⟨D1,hA,hm1,hf1,hgl1,hk1⟩
   ·rw[hA] at k98 dk
    rw[hA]
    refine Za ?_
    refine Zk8 0 3 5 6 7 8 50 58 (Ztq ?_)
    refine Zm ?_
    refine Zni ?_
    refine Zk9 0 3 5 6 7 8 50 58 67 (Zt ?_)
    refine Cd.condT rfl rfl ?_
    refine Zsr ?_
    refine Zm ?_
    refine Zm ?_
    refine Zc (Ze Tryz.func34) (breaks_any 5 _) ?_
    rintro e w9 ⟨rfl,hb9⟩
    refine⟨_,rfl,?_⟩
    replace mf:=mf.step hb9
    replace gv:=gv.step hb9
    replace k0:=k0.step hb9
    replace k98:=k98.step hb9
    replace dk:=dk.step hb9
    replace own:=own.step hb9
    replace k3:=k3.step hb9
    replace k5:=k5.step hb9
    replace own1:=own1.step hb9
    refine Zv (Runs.nilCheck rfl rfl) ?_
    refine Zf 8 Tryz.underlying70 ?_
    refine Zq k0 ?_
    intro w6 pw6
    replace mf:=mf.put k0 pw6 e0
    replace gv:=gv.put k0 pw6 e0
    replace k98:=k98.put pw6 (by omega)
    replace dk:=dk.put k0 pw6 e0
    replace own:=own.put k0 pw6 e0
    replace k3:=k3.put pw6 (by omega)
    replace k5:=k5.put pw6 (by omega)
    replace own1:=own1.put k0 pw6 e0
    replace k0:=pw6.blk
    refine Zk9 0 3 5 6 7 8 50 58 67 (Ztq ?_)
    refine Zm ?_
    refine Za ?_
    refine Zk10 0 3 4 5 6 7 8 50 58 67 (Zt (Cd.ret (Post.then_ret ?_)))
    refine Ze1 ?_
    exact⟨mf,5,rfl, .inl ⟨.inr rfl,dk,k0,k98,own⟩⟩
   ·rw[hA] at k98 dk
    rw[hA]
    refine Za ?_
    refine Zk8 0 3 5 6 7 8 50 58 (Ztq ?_)
    refine Zm ?_
    refine Zni ?_
    refine Zk9 0 3 5 6 7 8 50 58 67 (Zt ?_)
    refine Cd.condF rfl rfl ?_
    refine Cd.skip (Zts ?_)
    have k00:=k0
    refine Cd.drawJ 11 (by kernel_rfl) [] [7,10] (fun i h=>by cases h) rfl rfl (.inl rfl) rfl (GK g0) (GK.refl g0) (fun _ _ _=>GK.trans) (fun j w=>nthB w g0 70 #[.pointer (some ⟨gd,0,none⟩), .int .i64 (gen:Int), .pointer (some ⟨gl,0,none⟩), .int .i64 V.lg, .int .i64 V.nx, .int .i64 V.sq, .slice A n c, .int .i64 V.nx, .bool false] #[.pointer (some ⟨gd,0,none⟩), .int .i64 (gen:Int), .pointer (some ⟨gl,0,none⟩), .int .i64 V1.lg, .int .i64 V1.nx, .int .i64 V1.sq, .slice A1 V1.fs.length c1, .int .i64 V.nx, .bool false] #[.pointer (some ⟨gd,0,none⟩), .int .i64 (gen:Int), .pointer (some ⟨gl,0,none⟩), .int .i64 V1.lg, .int .i64 V1.nx, .int .i64 V1.sq, .slice A1 V1.fs.length c1, .int .i64 V1.nx, .bool false] j) ?_
    intro w6 hw6 zw6
    replace k0:=k0.step hw6
    replace k5:=k5.step hw6
    refine⟨k0,?_⟩
    have zlt:=k5.lt
    refine DJ.val rfl (GK.refl g0) rfl (fun w hG=>Runs.move rfl rfl) rfl ?_
    refine DJ.val rfl (GK.refl g0) rfl (fun w hG=>Runs.move rfl rfl) rfl ?_
    refine DJ.val rfl (GK.refl g0) rfl (fun w hG=>Runs.loadW rfl rfl Tryz.underlying38 rfl (k5.gk hG) (m:=4) (by kernel_rfl) rfl) rfl ?_
    refine DJ.val rfl (GK.refl g0) rfl (fun w hG=>Runs.fieldB 1 rfl rfl Tryz.underlying38 rfl (by kernel_rfl)) rfl ?_
    refine DJ.val rfl (GK.refl g0) rfl (fun w hG=>Runs.loadB rfl rfl Tryz.underlying3 rfl (k5.gk hG) rfl) rfl ?_
    refine DJ.val rfl (GK.refl g0) rfl (fun w hG=>Runs.nilCheck rfl rfl) rfl ?_
    refine DJ.val rfl (GK.refl g0) rfl (fun w hG=>Runs.fieldB 3 rfl rfl Tryz.underlying70 rfl (by kernel_rfl)) rfl ?_
    refine DJ.storeN 0 rfl rfl rfl rfl rfl rfl rfl (m:=4) (by kernel_rfl) rfl (by repeat' first|exact trivial|apply And.intro|rfl|assumption) (fun w h=>h) (show 3+4≤9 by omega) (fun w w' cs p=>⟨p.grown,p.size⟩) (fun w' h=>h) ?_
    refine DJ.val rfl (GK.refl g0) rfl (fun w hG=>Runs.nilCheck rfl rfl) rfl ?_
    refine DJ.val rfl (GK.refl g0) rfl (fun w hG=>Runs.fieldB 7 rfl rfl Tryz.underlying70 rfl (by kernel_rfl)) rfl ?_
    refine DJ.store1 1 rfl rfl rfl rfl rfl rfl (by kernel_rfl) rfl rfl (fun w h=>h) rfl (fun w w' cs p=>⟨p.grown,p.size⟩) (fun w' h=>h) ?_
    refine DJ.nil ?_
    refine FinX.done (F':=[(0,_),(3,_),(5,_),(6,_),(7,_),(8,_),(50,_),(58,_),(67,_)]) rfl ⟨rfl,rfl,rfl,rfl,rfl,rfl,rfl,rfl,rfl,trivial⟩ ?_
    intro w7 hw7 fw7
    replace k5:=k5.gk hw7
    clear k0
    have k0:=fw7
    replace k0:Blk w7 g0 70 #[.pointer (some ⟨gd,0,none⟩), .int .i64 (gen:Int), .pointer (some ⟨gl,0,none⟩), .int .i64 V1.lg, .int .i64 V1.nx, .int .i64 V1.sq, .slice A1 V1.fs.length c1, .int .i64 V1.nx, .bool false]:=k0
    have pw:=GK.put hw7 k0
    have k06:=k00.step hw6
    replace mf:=(mf.step hw6).put k06 pw e0
    replace dk:=(dk.step hw6).put k06 pw e0
    replace own1:=(own1.step hw6).put k06 pw e0
    replace k98:=(k98.step hw6).put pw (by omega)
    clear k00 k06
    refine Zk9 0 3 5 6 7 8 50 58 67 (Ztq ?_)
    refine Za ?_
    refine Zk10 0 3 4 5 6 7 8 50 58 67 (Zt (Cd.ret ?_))
    refine Ze1 ?_
    exact⟨mf,0,rfl, .inr ⟨rfl,V1,D1,A1,c1,appF_app hap,hl,hm1,hf1,hgl1,hk1,dk,k0,k98,own1⟩⟩
end Go.Proofs.YtdpipgidpkmolaaGreatDoor
