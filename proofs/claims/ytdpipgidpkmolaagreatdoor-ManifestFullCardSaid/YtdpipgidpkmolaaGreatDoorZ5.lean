/-
  Texts that were joined: NhJ, NhK, NhL, NfE, NfF, NhD, NhM, NhN, NdD, NhO. Conditions: what each theorem names.
-/
import Derived.Test.YtdpipgidpkmolaaGreatDoorZ4
import Derived.LaidMore
import Derived.Lib.LaidTab
import Derived.Shelf.Vars
set_option linter.unusedSectionVars false
namespace Go.Proofs.YtdpipgidpkmolaaGreatDoor
open Go.RowKit
def VrO (B n:Nat)(lg nx sq:Int)(fs:List Fl)(u:Value)(w:World):Prop:=∃A c,u= .agg #[.int .i64 lg, .int .i64 nx, .int .i64 sq, .slice A n c]∧Own w B 81 6 (.slice A n c) n (fcs fs)
theorem VrO.stable {B n:Nat}{lg nx sq:Int}{fs:List Fl}:∀v w w',Grow w w'→VrO B n lg nx sq fs v w→VrO B n lg nx sq fs v w':=fun _ _ _ hG ⟨A,c,e,h⟩=>⟨A,c,e,h.step hG⟩
def WhO (B n:Nat)(lg nx sq:Int)(fs:List Fl)(u:Value)(w:World):Prop:=∃A c,u= .agg #[.int .i64 lg, .int .i64 nx, .int .i64 sq, .slice none 0 0, .slice A n c]∧Own w B 81 6 (.slice A n c) n (fcs fs)
theorem WhO.stable {B n:Nat}{lg nx sq:Int}{fs:List Fl}:∀v w w',Grow w w'→WhO B n lg nx sq fs v w→WhO B n lg nx sq fs v w':=fun _ _ _ hG ⟨A,c,e,h⟩=>⟨A,c,e,h.step hG⟩
set_option maxHeartbeats 8000000 in
theorem roll_any (B g0 gd gl gen n c:Nat)(D:Dk)(A:Option Addr)(V:VerV)(rs:List (List Nat))(w:World)(gv:Gv w)(es:Es w)(hgB:max 2 1 <B)(heB: 3 <B)(e0:B≤g0)(el:B≤gl)(k0:Blk w g0 70 #[.pointer (some ⟨gd,0,none⟩), .int .i64 (gen:Int), .pointer (some ⟨gl,0,none⟩), .int .i64 V.lg, .int .i64 V.nx, .int .i64 V.sq, .slice A n c, .int .i64 V.nx, .bool false]) (k98:Blk w gl 111 ((⟨0,rs.length,(framesN rs).length,false⟩:Wl).cs gd (genN gen))) (dk:DkAt w B gd D) (hm:MDk D) (hfew:D.files.length≤140) (hg:gen≤600) (hlog:GLog D gen rs) (hcur:D.get curN=some (full (frameN (grp gen)))) (own:Own w B 81 6 (.slice A n c) n (fcs V.fs)) (hV:VOk V) (hn:V.fs.length=n):
  Calls Tryz.prog 13 #[.pointer (some ⟨g0,0,none⟩)] w fun e w'=>Mf B w w'∧∃r D',e= .returned (.int .i64 r)∧DkAt w' B gd D'∧MDk D'∧D'.files.length≤D.files.length+3∧Own w' B 81 6 (.slice A n c) n (fcs V.fs)∧
  (((r=1∨r=5)∧GLog D' gen rs∧D'.get curN=some (full (frameN (grp gen)))∧Blk w' g0 70 #[.pointer (some ⟨gd,0,none⟩), .int .i64 (gen:Int), .pointer (some ⟨gl,0,none⟩), .int .i64 V.lg, .int .i64 V.nx, .int .i64 V.sq, .slice A n c, .int .i64 V.nx, .bool false]∧Blk w' gl 111 ((⟨0,rs.length,(framesN rs).length,false⟩:Wl).cs gd (genN gen)))∨
   (r=0∧V.whole.laid=true∧GLog D' (gen+1) [V.whole.bytes]∧D'.get curN=some (full (frameN (grp (gen+1))))∧∃gl',B≤gl'∧Blk w' g0 70 #[.pointer (some ⟨gd,0,none⟩), .int .i64 ((gen+1:Nat):Int), .pointer (some ⟨gl',0,none⟩), .int .i64 V.lg, .int .i64 V.nx, .int .i64 V.sq, .slice A n c, .int .i64 V.nx, .bool false]∧Blk w' gl' 111 ((⟨0,1,(framesN [V.whole.bytes]).length,false⟩:Wl).cs gd (genN (gen+1))))):=by
 have mf:=Mf.refl B w
 have bel:=Below.refl w.heap.size w
 have hBw:=dk.size
 have hne9:=k0.neT k98
 obtain⟨-,-,-,hn100⟩:=right_nums hV.right
 refine Zs 50 Tryz.func13 ?_
 refine Zsr ?_
 refine Za ?_
 refine Zk2 0 2 (Zts (Cd.block (Zsr ?_)))
 refine Zm ?_
 refine Zv (Runs.eqlP rfl rfl rfl Tryz.underlying28) ?_
 refine Za ?_
 refine Zk3 0 2 5 (Zt ?_)
 refine Cd.condF rfl rfl ?_
 refine Zsr ?_
 refine Zm ?_
 refine Zv (Runs.nilCheck rfl rfl) ?_
 refine Zf 8 Tryz.underlying70 ?_
 refine ZL Tryz.underlying4 k0 ?_
 refine Za ?_
 refine Zk4 0 2 5 8 (Zt ?_)
 refine Cd.condF rfl rfl ?_
 refine Cd.skip (Post.block_normal (Ztq ?_))
 refine Zm ?_
 refine Zv (Runs.nilCheck rfl rfl) ?_
 refine Zf 1 Tryz.underlying70 ?_
 refine ZL Tryz.underlying3 k0 ?_
 refine Zl zero_int ?_
 intro g3 w1 n3
 have e3:=Nat.le_trans bel.size n3.ge
 have l3:=Nat.lt_of_lt_of_le k98.lt n3.ge
 have l3_k0:=Nat.lt_of_lt_of_le k0.lt n3.ge
 replace bel:=bel.step n3.below
 replace mf:=mf.step n3.below
 replace gv:=gv.step n3.below
 replace es:=es.step n3.below
 replace k0:=k0.step n3.below
 replace k98:=k98.step n3.below
 replace dk:=dk.step n3.below
 replace own:=own.step n3.below
 have k3:=n3.blk
 refine Zq k3 ?_
 intro w2 pw2
 replace bel:=bel.put k3 pw2 e3
 replace mf:=mf.put k3 pw2 e3
 replace gv:=gv.put k3 pw2 e3
 replace es:=es.put k3 pw2 e3
 replace k0:=k0.put pw2 (by omega)
 replace k98:=k98.put pw2 (by omega)
 replace dk:=dk.put k3 pw2 e3
 replace own:=own.put k3 pw2 e3
 replace k3:=pw2.blk
 refine Zk5 0 2 3 5 8 (Zts ?_)
 replace k3:Blk _ g3 3 #[.int .i64 (gen:Int)]:=k3
 have hne3:=k0.neT k3
 have hne93:=k98.neT k3
 refine Zdr 7 ?_
 intro w3 hw3 zw3
 replace bel:=bel.step hw3
 replace mf:=mf.step hw3
 replace gv:=gv.step hw3
 replace es:=es.step hw3
 replace k0:=k0.step hw3
 replace k98:=k98.step hw3
 replace dk:=dk.step hw3
 replace own:=own.step hw3
 replace k3:=k3.step hw3
 have zbel:=bel.size
 have zlt:=k3.lt
 have hBw2:B≤_:=Nat.le_trans hBw bel.size
 have hrem:Value.int .i64 (((gen:Int)+1)%676)= .int .i64 ((gen+1:Nat):Int):=by congr 1;omega
 refine Zdm ?_
 refine ZdL Tryz.underlying3 k3 ?_
 refine Zd (fun w hG=>Runs.addI rfl rfl rfl (by omega) (by omega)) ?_
 refine Zd (fun w hG=>(Runs.remN rfl rfl rfl (by omega) (by omega)).cast hrem) ?_
 refine Zdm ?_
 refine Dr.call (Φ:=VrO B n V.lg V.nx V.sq V.fs) rfl (fun w=>Ze Tryz.func10) rfl (VrO.stable) (fun w hG=>(version_any g0 n c B A V.fs _ _ _ _ V.lg V.nx V.sq V.nx w (k0.step hG) (own.step hG) (by omega)).mono fun e w' ⟨h1,v,h2,h3⟩=>by obtain⟨A',c',rfl,-⟩:=h3.reads;exact⟨_,h2,h1,A',c',rfl,h3.mono (Nat.le_trans hBw2 hG.size)⟩) ?_
 refine Dr.call1 (j:=5) (Φ:=WhO B n V.lg V.nx V.sq V.fs) rfl rfl rfl (fun u w=>Ze Tryz.func36) rfl (WhO.stable) (fun u w hG hu=>by obtain⟨A',c',rfl,h3⟩:=hu;exact(whole_any n c' A' V.fs V.lg V.nx V.sq w h3.rdsN (by omega)).mono fun e w' ⟨h4,v,h5,h6⟩=>by obtain⟨A2,c2,rfl,-⟩:=h6.reads;exact⟨_,h5,h4,A2,c2,rfl,h6.mono (Nat.le_trans hBw2 hG.size)⟩) ?_
 refine Dr.nil ?_
 refine FinX.open (j:=6) rfl ?_
 intro u6
 refine FinX.done (F':=[(0,_),(2,_),(3,_),(5,_),(8,_),(17,_),(20,_),(23,_)]) rfl ⟨rfl,rfl,rfl,rfl,rfl,rfl,rfl,rfl,trivial⟩ ?_
 intro w4 hw4 fw4
 replace bel:=bel.step hw4
 replace mf:=mf.step hw4
 replace gv:=gv.step hw4
 replace es:=es.step hw4
 replace k0:=k0.step hw4
 replace k98:=k98.step hw4
 replace dk:=dk.step hw4
 replace own:=own.step hw4
 replace k3:=k3.step hw4
 obtain⟨A2,c2,rfl,own2⟩:=fw4.2
 have hrng:=hV.whole
 have k98a:=k98
 refine Zc (Ze Tryz.func25) (begin_m_any B g0 gd (gen+1) n c2 D A2 V.whole _ _ _ _ _ _ _ _ _ gv es hgB heB e0 k0 dk hm (by omega) (by omega) hrng rfl hn own2) ?_
 clear dk k0 k98
 rintro e w5 ⟨⟨D',r,rfl,dk,hm',hf',hbr⟩,kw,fw5⟩
 refine⟨_,rfl,?_⟩
 replace mf:=mf.mf fw5
 replace gv:=gv.mf fw5
 replace es:=es.mf fw5
 replace own:=own.mf fw5
 replace k3:=k3.mf fw5
 have k98:=kw.keep _ _ k98a
 clear k98a
 have hc1:genOf curN≠((gen+1:Nat):Int):=by rw[genOf_cur];omega
 have hl1:genOf (lgN gen)≠((gen+1:Nat):Int):=by rw[genOf_lg (by omega)];omega
 have ha1:genOf (akN gen)≠((gen+1:Nat):Int):=by rw[genOf_ak (by omega)];omega
 rcases hbr with ⟨hr15,k0,hk⟩|⟨rfl,hla,⟨gl',el',k0,k97⟩,hgl',hcur',hk⟩
 ·obtain rfl:r=5:=by
   rcases hr15 with ⟨-,h⟩|h
   ·rw[hV.laid] at h;cases h
   ·exact h
  refine Za ?_
  refine Zk6 0 2 3 4 5 8 (Zts (Zsr ?_))
  refine Zm ?_
  refine Zqi ?_
  refine Zk7 0 2 3 4 5 8 26 (Zt ?_)
  refine Cd.condF rfl rfl ?_
  refine Cd.skip (Ztq ?_)
  refine Zm ?_
  refine Zm ?_
  refine Zc (Ze Tryz.func34) (breaks_any 5 _) ?_
  rintro e w9 ⟨rfl,hb9⟩
  refine⟨_,rfl,?_⟩
  replace mf:=mf.step hb9
  replace gv:=gv.step hb9
  replace es:=es.step hb9
  replace k0:=k0.step hb9
  replace dk:=dk.step hb9
  replace own:=own.step hb9
  replace k3:=k3.step hb9
  replace k98:=k98.step hb9
  refine Zv (Runs.nilCheck rfl rfl) ?_
  refine Zf 8 Tryz.underlying70 ?_
  refine Zq k0 ?_
  intro w6 pw6
  replace mf:=mf.put k0 pw6 e0
  replace gv:=gv.put k0 pw6 e0
  replace es:=es.put k0 pw6 e0
  replace dk:=dk.put k0 pw6 e0
  replace own:=own.put k0 pw6 e0
  replace k3:=k3.put pw6 (by omega)
  replace k98:=k98.put pw6 (by omega)
  replace k0:=pw6.blk
  refine Zk7 0 2 3 4 5 8 26 (Ztq ?_)
  refine Zm ?_
  refine Za ?_
  refine Zk7 0 2 3 4 5 8 26 (Zt (Cd.ret ?_))
  refine Ze1 ?_
  exact⟨mf,5,D',rfl,dk,hm',hf',own, .inl ⟨.inr rfl,hlog.congr (hk _ hl1) (hk _ ha1),by rw[hk _ hc1,hcur],k0,k98⟩⟩
 ·skip
  refine Za ?_
  refine Zk6 0 2 3 4 5 8 (Zts (Zsr ?_))
  refine Zm ?_
  refine Zqi ?_
  refine Zk7 0 2 3 4 5 8 26 (Zt ?_)
  refine Cd.condT rfl rfl ?_
  have hne97:=k0.neT k97
  have hne937:=k97.neT k3
  refine Zsr ?_
  refine Zm ?_
  refine Zm ?_
  refine Zv (Runs.nilCheck rfl rfl) ?_
  refine Zf 7 Tryz.underlying70 ?_
  refine ZL Tryz.underlying3 k0 ?_
  refine Zv (Runs.nilCheck rfl rfl) ?_
  refine Zf 3 Tryz.underlying70 ?_
  refine Zv (Runs.fieldA 1 rfl rfl Tryz.underlying38 rfl (by kernel_rfl)) ?_
  refine Zq k0 ?_
  intro wx px
  replace px:Put _ wx g0 70 _:=px
  replace mf:=mf.put k0 px e0
  replace gv:=gv.put k0 px e0
  replace es:=es.put k0 px e0
  replace dk:=dk.put k0 px e0
  replace own:=own.put k0 px e0
  replace k3:=k3.put px (by omega)
  replace k97:=k97.put px (by omega)
  replace k0:=px.blk
  refine Zk7 0 2 3 4 5 8 26 (Ztr ?_)
  refine Zm ?_
  refine Zv (Runs.nilCheck rfl rfl) ?_
  refine Zf 0 Tryz.underlying70 ?_
  refine ZL Tryz.underlying26 k0 ?_
  refine Zv (Runs.makeFunc (v:= .func (.func 37) #[] #[.pointer (some ⟨g3,0,none⟩)]) rfl (show evL _ _=some [] from rfl) (show evL _ _=some [.pointer (some ⟨g3,0,none⟩)] from rfl) rfl) ?_
  refine Zc (Ze Tryz.func22) (sweep_any B gd D' 37 (.pointer (some ⟨g3,0,none⟩)) (fun s=>decide (genOf s=(gen:Int))) _ dk hm'.calm hm'.nd eg_roll1 hm'.nms (fun s W hs hdf=>roll1_any s (gen:Int) g3 W (gv.df hdf) hs (k3.df hdf))) ?_
  clear dk
  rintro e w6 ⟨v6,D0,rfl,dk,fw6,hsw⟩
  refine⟨_,rfl,?_⟩
  replace mf:=mf.df fw6
  replace gv:=gv.df fw6
  replace es:=es.df fw6
  replace k0:=k0.df fw6
  replace own:=own.df fw6
  replace k3:=k3.df fw6
  replace k97:=k97.df fw6
  refine Zm ?_
  refine Zx ?_
  refine Zx ?_
  refine Za ?_
  refine Zk7 0 2 3 4 5 8 26 (Ztq ?_)
  refine Zm ?_
  refine Zm ?_
  refine Zc (Ze Tryz.func34) (breaks_any 0 _) ?_
  rintro e w9 ⟨rfl,hb9⟩
  refine⟨_,rfl,?_⟩
  replace mf:=mf.step hb9
  replace gv:=gv.step hb9
  replace es:=es.step hb9
  replace k0:=k0.step hb9
  replace dk:=dk.step hb9
  replace own:=own.step hb9
  replace k3:=k3.step hb9
  replace k97:=k97.step hb9
  refine Zv (Runs.nilCheck rfl rfl) ?_
  refine Zf 8 Tryz.underlying70 ?_
  refine Zq k0 ?_
  intro w7 pw7
  replace mf:=mf.put k0 pw7 e0
  replace gv:=gv.put k0 pw7 e0
  replace es:=es.put k0 pw7 e0
  replace dk:=dk.put k0 pw7 e0
  replace own:=own.put k0 pw7 e0
  replace k3:=k3.put pw7 (by omega)
  replace k97:=k97.put pw7 (by omega)
  replace k0:=pw7.blk
  refine Zk7 0 2 3 4 5 8 26 (Ztq ?_)
  refine Zm ?_
  refine Za ?_
  refine Zk7 0 2 3 4 5 8 26 (Zt (Cd.ret ?_))
  refine Ze1 ?_
  have hkk:∀x,genOf x≠(gen:Int)→D0.get x=D'.get x:=fun x hx=>hsw.kept x (by simpa using hx)
  have hf2:=hsw.few
  exact⟨mf,0,D0,rfl,dk,hsw.man hm',by omega,own, .inr ⟨rfl,hla,hgl'.congr (hkk _ (by rw[genOf_lg (by omega)];omega)) (hkk _ (by rw[genOf_ak (by omega)];omega)),by rw[hkk _ (by rw[genOf_cur];omega),hcur'],gl',el',k0,k97⟩⟩
end Go.Proofs.YtdpipgidpkmolaaGreatDoor
namespace Go.Proofs.YtdpipgidpkmolaaGreatDoor
open Go.RowKit
set_option maxHeartbeats 4000000 in
theorem pointed_any (gen:Nat)(w:World)(gv:Gv w)(hg:gen≤675):Calls Tryz.prog 26 #[.string (strOf (frameN (grp gen)))] w fun e w'=>e= .returned (.tuple #[.int .i64 (gen:Int), .bool true])∧Grow w w':=by
 have bel:=Below.refl w.heap.size w
 have hgl:=grp_len gen
 have hgb:=grp_lt (n:=gen) (by omega)
 have hFb:Byt (frameN (grp gen)):=frameN_lt hgb
 have hFl:=frameN_len (grp gen)
 have hop:openN (frameN (grp gen))=(grp gen,(grp gen).length+12,0):=by
  have:=openN_frame (s:=grp gen) [] (by omega)
  rwa [List.append_nil] at this
 have hfull:sizeP (grp gen)=some (gen,[]):=by
  have:=sizeP_cod.full gen [] (by omega)
  rwa [List.append_nil] at this
 obtain⟨F,hF⟩:∃F,F=frameN (grp gen):=⟨_,rfl⟩
 rw[←hF] at hFb hFl hop⊢
 refine Zs 36 Tryz.func26 ?_
 refine Zsr ?_
 refine Za ?_
 refine Za ?_
 refine Zk3 0 2 3 (Ztq ?_)
 refine Zm ?_
 refine Zc (Ze Tryz.func50) (open_c_any F _ gv.nib hFb (by omega)) ?_
 rw[hop]
 rintro e w5 ⟨rfl,hb5⟩
 refine⟨_,rfl,?_⟩
 replace bel:=bel.step hb5
 replace gv:=gv.step hb5
 refine Zm ?_
 refine Zx ?_
 refine Zx ?_
 refine Zx ?_
 refine Za ?_
 refine Za ?_
 refine Za ?_
 refine Zk6 0 2 3 4 5 6 (Ztq ?_)
 refine Zm ?_
 have hb5s:=bel.size
 refine Zc (Ze Tryz.func51) (read_any (grp gen) _ hgb) ?_
 rintro e w6 ⟨g7,rfl,hb6,hg7,rd⟩
 refine⟨_,rfl,?_⟩
 replace bel:=bel.step hb6
 replace gv:=gv.step hb6
 have hgB:w.heap.size≤g7:=Nat.le_trans hb5s hg7
 have hrdl:=rd.lt
 have belr:=bel
 have kf:=Kf.refl g7 w6
 refine Za ?_
 refine Zk7 0 2 3 4 5 6 7 (Ztq ?_)
 refine Zm ?_
 refine Zc (Ze Tryz.func52) (rsize_any g7 _ _ rd) ?_
 rintro e w1 ⟨z,⟨hz,hvz,rfl⟩,fw1,rd'⟩
 refine⟨_,rfl,?_⟩
 replace kf:=kf.kf fw1 rd
 replace rd:=rd'
 clear rd'
 obtain rfl:z=gen:=hvz gen [] hfull
 have hre:rest sizeP (some (grp z))=some []:=by unfold rest;show((sizeP (grp z)).map _)=_;rw[hfull];rfl
 rw[hre] at rd
 refine Za ?_
 refine Zk8 0 2 3 4 5 6 7 8 (Ztq ?_)
 refine Zm ?_
 refine Zm ?_
 refine Zqi ?_
 refine Zm ?_
 refine SeqC.start ?_
 refine Zco (fun hcx=>Runs.move rfl rfl) ?_
 refine Znm ?_
 refine Zn (fun hcx=>Runs.lenL rfl rfl Tryz.underlying9) ?_
 refine Zn (fun hcx=>Runs.eqlI rfl rfl rfl) ?_
 refine Zan ?_
 refine Zm ?_
 refine SeqC.start ?_
 refine Zco (fun hcx=>Runs.move rfl rfl) ?_
 refine SeqC.nextC rfl rfl rfl rfl rfl rfl rfl (fun hcx=>Ze Tryz.func53) (fun hcx=>rend_any g7 _ _ rd) ?_
 intro w2 hw2
 replace kf:=kf.step hw2
 replace rd:=rd.step hw2
 refine Zan ?_
 refine Zm ?_
 refine SeqC.start ?_
 refine Zco (fun hcx=>Runs.move rfl rfl) ?_
 refine Zn (fun hcx=>Runs.lss rfl rfl rfl) ?_
 refine Zan ?_
 refine Za ?_
 refine Za ?_
 refine Zk8 0 2 3 4 5 6 7 8 (Zt (Cd.ret ?_))
 refine Ze2 ?_
 have bel:=belr.trans (kf.to hgB hrdl)
 refine⟨?_,bel⟩
 have e1:(((grp z).length+12:Nat):Int)=(F.length:Int):=by omega
 simp[e1]
 omega
theorem Reads.ofBlk {w:World}{g n size:Nat}{T:TypeId}{cur:Array Value}{xs:List Value}(k:Blk w g T cur)(hl:xs.length=n*size)(h:cur.toList.take (n*size)=xs):Reads w w.heap.size size (some ⟨g,0,none⟩) n xs:=by
 refine⟨hl,fun _=>⟨⟨g,0,none⟩,rfl,k.lt,fun j v hj=> ?_⟩⟩
 have e:(⟨g,0,none⟩:Addr).add j=⟨g,j,none⟩:=by unfold Addr.add;split<;>simp_all
 rw[e,cell_of_row _ _ _ _ _ _ k]
 rw[←h,List.getElem?_take] at hj
 split at hj
 ·simpa using hj
 ·cases hj
set_option maxHeartbeats 8000000 in
theorem replay_any (B g0 gd gl n c:Nat)(D:Dk)(A:Option Addr)(rs:List (List Nat))(V:VerV)(W:Wl)(nm:List Nat)(p c1 c2 c7 c8:Value)(w:World)(gv:Gv w)(hgB:max 2 1 <B)(e0:B≤g0)(k0:Blk w g0 70 #[p,c1,c2, .int .i64 0, .int .i64 0, .int .i64 0, .slice none 0 0,c7,c8]) (k98:Blk w gl 111 (W.cs gd nm)) (dk:DkAt w B gd D) (hr:Own w B 115 2 (.slice A n c) n (recsV (rs.map fun r=>(0,r)))) (hb:∀r∈rs,Byt r) (hne:rs≠ []) (hR:ReplR rs VerV.zero V) (hn:n≤1000):
  Calls Tryz.prog 29 #[.pointer (some ⟨g0,0,none⟩), .slice A n c] w fun e w'=>e= .returned (.bool true)∧Mf B w w'∧DkAt w' B gd D∧Blk w' gl 111 (W.cs gd nm)∧∃A' c',Blk w' g0 70 #[p,c1,c2, .int .i64 V.lg, .int .i64 V.nx, .int .i64 V.sq, .slice A' V.fs.length c', .int .i64 V.nx,c8]∧Own w' B 81 6 (.slice A' V.fs.length c') V.fs.length (fcs V.fs):=by
 have mf:=Mf.refl B w
 have hBw:=dk.size
 have hne9:=k0.neT k98
 have hrl:rs.length=n:=by have:=hr.rdsN.rec_len;simpa using this
 obtain⟨gA,cur,hA,k97,hcur⟩:∃gA cur,A=some ⟨gA,0,none⟩∧Blk w gA 115 cur∧cur.toList.take (n*2)=recsV (rs.map fun r=>(0,r)):=by
  obtain⟨hl,⟨h0,h1⟩|⟨g,cap,cur,h',h1,h2,h3,h4,h5,h6⟩⟩:=hr.row
  ·exact absurd (List.eq_nil_of_length_eq_zero (by omega)) hne
  ·injection h' with h7
   exact⟨g,cur,h7,h2,h6⟩
 subst hA
 have hrvl:(recsV (rs.map fun r=>(0,r))).length=n*2:=hr.rdsN.1
 clear hr
 have hneA:=k0.neT k97
 have own:Own w B 81 6 (.slice none 0 0) 0 (fcs []):=Own.nil _ _ _ _
 refine Zs 51 Tryz.func29 ?_
 refine Zsr ?_
 refine Za ?_
 refine Zk3 0 1 4 (Zts (Zsr ?_))
 refine Zm ?_
 refine Zv (Runs.len rfl rfl Tryz.underlying77) ?_
 refine Zm ?_
 refine Zk6 0 1 4 10 11 12 (Zt (Cd.block ?_))
 refine Cd.loop (σ:=Nat × VerV × Option Addr × Nat) (fun s=>[(0, .pointer (some ⟨g0,0,none⟩)),(1, .slice (some ⟨gA,0,none⟩) n c),(10, .slice (some ⟨gA,0,none⟩) n c),(11, .int .i64 (n:Int)),(12, .int .i64 (s.1:Int))]) (fun s wr=>s.1≤n∧VOk s.2.1∧ReplR (rs.drop s.1) s.2.1 V∧Mf B w wr∧Gv wr∧Blk wr g0 70 #[p,c1,c2, .int .i64 s.2.1.lg, .int .i64 s.2.1.nx, .int .i64 s.2.1.sq, .slice s.2.2.1 s.2.1.fs.length s.2.2.2,c7,c8]∧Blk wr gl 111 (W.cs gd nm)∧DkAt wr B gd D∧Blk wr gA 115 cur∧Own wr B 81 6 (.slice s.2.2.1 s.2.1.fs.length s.2.2.2) s.2.1.fs.length (fcs s.2.1.fs)) (fun s=>n-s.1) (0,VerV.zero,none,0) ⟨Nat.zero_le _,VOk.zero,by rw[List.drop_zero];exact hR,mf,gv,k0,k98,dk,k97,own⟩ ⟨rfl,rfl,rfl,rfl,rfl,trivial⟩ ?_
 clear mf gv k0 k98 dk k97 own
 rintro⟨j,U,Au,cu⟩ wr ⟨hj,hU,hRj,mf,gv,k0,k98,dk,k97,own⟩
 simp only at hj hU hRj k0 own
 obtain⟨-,-,-,hn100⟩:=right_nums hU.right
 have hnc:=own.cap
 have bel:=Below.refl wr.heap.size wr
 have hsz:=mf.size
 show Cd _ _ _ _ [(0, .pointer (some ⟨g0,0,none⟩)),(1, .slice (some ⟨gA,0,none⟩) n c),(10, .slice (some ⟨gA,0,none⟩) n c),(11, .int .i64 (n:Int)),(12, .int .i64 (j:Int))] _
 refine Zsr ?_
 refine Zls ?_
 refine Zk6 0 1 10 11 12 13 (Zts ?_)
 refine Cd.condD rfl (fun hc=> ?_) (fun hc=> ?_)
 ·obtain⟨r,hrj⟩:∃r,rs[j]? =some r:=⟨_,List.getElem?_eq_getElem (by omega)⟩
  have hdj:rs.drop j=r::rs.drop (j+1):=by
   have h1:=(List.getElem?_eq_some_iff.1 hrj)
   rw[List.drop_eq_getElem_cons h1.1,h1.2]
  rw[hdj] at hRj
  obtain⟨x,V1,hx,hxr,hxa,hR1⟩:=hRj
  have hrj2:(rs.map fun r=>((0:Nat),r))[j]? =some (0,r):=by rw[List.getElem?_map,hrj];rfl
  have hrb:=hb r (List.mem_of_getElem? hrj)
  obtain⟨ad,had,hbl,hin,hc⟩:=(Reads.ofBlk k97 hrvl hcur).rec (Below.refl _ _) hrj2
  injection had with had
  subst had
  have hap:=appF_of hxa
  refine Cd.skip (Zts (Cd.block (Zsr ?_)))
  refine Zv (Runs.indexN rfl rfl rfl Tryz.underlying77 (s:=2) (by kernel_rfl) (j:=j) rfl (by omega)) ?_
  refine Zv (Runs.loadF (ps:=[.int .i64 0, .string (strOf r)]) rfl rfl Tryz.underlying115 rfl (m:=2) (by kernel_rfl) rfl hc) ?_
  refine Zl zero_wal_Rec ?_
  intro g6 w1 n6
  have e6:=Nat.le_trans bel.size n6.ge
  have l6:=Nat.lt_of_lt_of_le k97.lt n6.ge
  have l6_k0:=Nat.lt_of_lt_of_le k0.lt n6.ge
  have l6_k98:=Nat.lt_of_lt_of_le k98.lt n6.ge
  replace mf:=mf.step n6.below
  replace gv:=gv.step n6.below
  replace k0:=k0.step n6.below
  replace k98:=k98.step n6.below
  replace dk:=dk.step n6.below
  replace k97:=k97.step n6.below
  replace own:=own.step n6.below
  replace bel:=bel.step n6.below
  have k6:=n6.blk
  refine Zo 2 k6 ?_
  intro w2 pw2
  replace mf:=mf.put k6 pw2 e6
  replace gv:=gv.put k6 pw2 e6
  replace k0:=k0.put pw2 (by omega)
  replace k98:=k98.put pw2 (by omega)
  replace dk:=dk.put k6 pw2 e6
  replace k97:=k97.put pw2 (by omega)
  replace own:=own.put k6 pw2 e6
  replace bel:=bel.put k6 pw2 e6
  replace k6:=pw2.blk
  refine Zk7 0 1 6 10 11 12 13 (Ztq ?_)
  refine Zf 1 Tryz.underlying115 ?_
  refine ZL Tryz.underlying9 k6 ?_
  refine Zc (Ze Tryz.func58) (decode_any r _ hrb) ?_
  rw[hx]
  rintro e w7 ⟨⟨v,rfl,A7,c7',A8,c8',rfl,owd,owa⟩,hb7⟩
  refine⟨_,rfl,?_⟩
  have hbs:=bel.size
  replace owd:=owd.mono (B':=wr.heap.size) hbs
  replace owa:=owa.mono (B':=wr.heap.size) hbs
  replace mf:=mf.step hb7
  replace gv:=gv.step hb7
  replace k0:=k0.step hb7
  replace k98:=k98.step hb7
  replace dk:=dk.step hb7
  replace k97:=k97.step hb7
  replace own:=own.step hb7
  replace bel:=bel.step hb7
  replace k6:=k6.step hb7
  refine Zm ?_
  refine Zx ?_
  refine Zx ?_
  refine Zl zero_edit_Edit ?_
  intro g7 w3 n7
  have e7:=Nat.le_trans bel.size n7.ge
  have l7:=Nat.lt_of_lt_of_le k6.lt n7.ge
  have l7_k0:=Nat.lt_of_lt_of_le k0.lt n7.ge
  have l7_k98:=Nat.lt_of_lt_of_le k98.lt n7.ge
  have l7_k97:=Nat.lt_of_lt_of_le k97.lt n7.ge
  replace mf:=mf.step n7.below
  replace gv:=gv.step n7.below
  replace k0:=k0.step n7.below
  replace k98:=k98.step n7.below
  replace dk:=dk.step n7.below
  replace k97:=k97.step n7.below
  replace own:=own.step n7.below
  replace bel:=bel.step n7.below
  replace k6:=k6.step n7.below
  replace owd:=owd.step n7.below
  replace owa:=owa.step n7.below
  have k7:=n7.blk
  refine Zo 5 k7 ?_
  intro w4 pw4
  replace mf:=mf.put k7 pw4 e7
  replace gv:=gv.put k7 pw4 e7
  replace k0:=k0.put pw4 (by omega)
  replace k98:=k98.put pw4 (by omega)
  replace dk:=dk.put k7 pw4 e7
  replace k97:=k97.put pw4 (by omega)
  replace own:=own.put k7 pw4 e7
  replace bel:=bel.put k7 pw4 e7
  replace k6:=k6.put pw4 (by omega)
  replace owd:=owd.put k7 pw4 e7
  replace owa:=owa.put k7 pw4 e7
  replace k7:=pw4.blk
  refine Za ?_
  refine Zk9 0 1 6 7 8 10 11 12 13 (Zts (Zsr ?_))
  refine Zm ?_
  refine Zni ?_
  refine Zk10 0 1 6 7 8 10 11 12 13 23 (Zt ?_)
  refine Cd.condF rfl rfl ?_
  obtain⟨-,hl8,hl9⟩:=appR_laid hxa
  have hnd:x.edV.drop.length=x.drop.length:=by simp[Ed.edV,DN]
  have hna:x.edV.add.length=x.add.length:=by simp[Ed.edV]
  have hUo:∀f∈U.fs,f.ok:=fun f hf=>(hU.rng f hf).ok
  have hxo:∀f∈x.edV.add,f.ok:=fun f hf=>(hxr.add f hf).ok
  have hV1:=hU.app hxr hxa
  replace k7:Blk _ g7 47 #[.int .i64 x.lg, .int .i64 x.nx, .int .i64 x.sq, .slice A7 x.drop.length c7', .slice A8 x.add.length c8']:=k7
  refine Cd.skip (Zts ?_)
  refine Cd.draw 10 (by kernel_rfl) [8] (.inr (fun _ _ d _ _ h=>by cases d<;>exact h)) rfl Grow Grow.refl (fun _ _ _=>Grow.trans) ?_
  intro w5 hw5 zw5
  replace mf:=mf.step hw5
  replace gv:=gv.step hw5
  replace k0:=k0.step hw5
  replace k98:=k98.step hw5
  replace dk:=dk.step hw5
  replace k97:=k97.step hw5
  replace own:=own.step hw5
  replace bel:=bel.step hw5
  replace k6:=k6.step hw5
  replace owd:=owd.step hw5
  replace owa:=owa.step hw5
  replace k7:=k7.step hw5
  have zbel:=bel.size
  have zlt:=k7.lt
  have hb2:=bel.size
  refine Zdm ?_
  refine Zd (fun w hG=>Runs.nilCheck rfl rfl) ?_
  refine Zdf 3 Tryz.underlying70 ?_
  refine Zd (fun w hG=>Runs.loadF (ps:=[.int .i64 U.lg, .int .i64 U.nx, .int .i64 U.sq, .slice Au U.fs.length cu]) rfl rfl Tryz.underlying38 rfl (m:=4) (by kernel_rfl) rfl ((k0.step hG).sub sub_four)) ?_
  refine Zd (fun w hG=>Runs.loadW rfl rfl Tryz.underlying47 rfl (k7.step hG) (m:=5) (by kernel_rfl) rfl) ?_
  refine Dr.call (Φ:=ApO B V1) rfl (fun w=>Ze Tryz.func31) rfl (ApO.stable) (fun w hG=>apply_some U V1 x.edV w.heap.size B U.fs.length x.drop.length x.add.length cu c7' c8' Au A7 A8 w hap rfl hnd hna (own.step hG).rdsN (owd.step hG).rdsN (owa.step hG).rdsN (Nat.le_refl _) (Nat.le_trans hBw (Nat.le_trans hsz (Nat.le_trans hb2 hG.size))) hUo hxo hnc (by omega) (by omega) (by omega)) ?_
  refine Dr.val1 (j:=5) (Φ:=ApO B V1) Grow.refl rfl rfl rfl ApO.stable rfl (fun u w hG hu=>⟨_,Runs.move rfl rfl,hu⟩) ?_
  refine Dr.val1 (j:=6) (Φ:=ApV B V1) Grow.refl rfl rfl rfl ApV.stable rfl (fun u w hG hu=>by obtain⟨A,c,rfl,h⟩:=hu;exact⟨_,Runs.extract rfl rfl rfl,A,c,rfl,h⟩) ?_
  refine Dr.late1 (j:=6) (v:= .int .i64 0) rfl rfl rfl rfl (fun u w w' hG hu=>by obtain⟨A,c,rfl,h⟩:=hu;exact Runs.extract rfl rfl rfl) Grow.refl rfl ?_
  refine Dr.alloc rfl rfl (run_zero zero_edit_Version) rfl ?_
  refine Dr.nil ?_
  refine FinX.open (j:=7) rfl ?_
  intro u7
  refine FinX.open (j:=9) rfl ?_
  intro u9
  refine FinX.done (F':=[(0,_),(1,_),(6,_),(7,_),(8,_),(9,_),(10,_),(11,_),(12,_),(13,_),(23,_),(31,_),(32,_)]) rfl ⟨rfl,rfl,rfl,rfl,rfl,rfl,rfl,rfl,rfl,rfl,rfl,rfl,rfl,trivial⟩ ?_
  intro w6 hw6 fw6
  replace mf:=mf.step hw6
  replace gv:=gv.step hw6
  replace k0:=k0.step hw6
  replace k98:=k98.step hw6
  replace dk:=dk.step hw6
  replace k97:=k97.step hw6
  replace own:=own.step hw6
  replace bel:=bel.step hw6
  replace k6:=k6.step hw6
  replace owd:=owd.step hw6
  replace owa:=owa.step hw6
  replace k7:=k7.step hw6
  obtain⟨⟨-,hu7⟩,hu9⟩:=fw6
  obtain⟨A1,cc1,rfl,own1⟩:=hu7
  obtain⟨g9,rfl,k9,e9⟩:=hu9
  replace e9:wr.heap.size≤g9:=Nat.le_trans hb2 e9
  have q98:=k98.neT k9
  have q0:=k0.neT k9
  have q97:=k97.neT k9
  refine Zo 4 k9 ?_
  intro w7 pw7
  replace mf:=mf.put k9 pw7 e9
  replace gv:=gv.put k9 pw7 e9
  replace k0:=k0.put pw7 (by omega)
  replace k98:=k98.put pw7 (by omega)
  replace dk:=dk.put k9 pw7 e9
  replace k97:=k97.put pw7 (by omega)
  replace bel:=bel.put k9 pw7 e9
  replace own1:=own1.put k9 pw7 e9
  replace k9:=pw7.blk
  refine Za ?_
  refine Zk11 0 1 6 7 8 9 10 11 12 13 23 (Zts (Zsr ?_))
  refine Zm ?_
  refine Zni ?_
  refine Zk12 0 1 6 7 8 9 10 11 12 13 23 34 (Zt ?_)
  refine Cd.condF rfl rfl ?_
  replace k9:Blk _ g9 38 #[.int .i64 V1.lg, .int .i64 V1.nx, .int .i64 V1.sq, .slice A1 V1.fs.length cc1]:=k9
  refine Cd.skip (Ztr ?_)
  refine Zm ?_
  refine ZW 4 Tryz.underlying38 k9 ?_
  refine Zv (Runs.nilCheck rfl rfl) ?_
  refine Zf 3 Tryz.underlying70 ?_
  refine Zo 4 k0 ?_
  intro w8 pw8
  replace mf:=mf.put k0 pw8 e0
  replace gv:=gv.put k0 pw8 e0
  replace k98:=k98.put pw8 (by omega)
  replace dk:=dk.put k0 pw8 e0
  replace k97:=k97.put pw8 (by omega)
  replace k9:=k9.put pw8 (by omega)
  replace own1:=own1.put k0 pw8 e0
  replace k0:=pw8.blk
  refine Zk12 0 1 6 7 8 9 10 11 12 13 23 34 (Post.block_normal (Ztr ?_))
  refine Za_ ?_
  refine Zm ?_
  refine Zk12 0 1 6 7 8 9 10 11 12 13 23 34 ?_
  exact Post.round (j+1,V1,A1,cc1) ⟨rfl,rfl,rfl,rfl,int_at (by omega),trivial⟩ ⟨by simp only;omega,hV1,hR1,mf,gv,k0,k98,dk,k97,own1⟩ (by simp only;omega)
 ·skip
  have hjn:j=n:=by omega
  rw[List.drop_of_length_le (by omega)] at hRj
  have hUV:V=U:=hRj
  subst hUV
  refine Cd.exit (Post.then_exit (Post.round_exit (Post.block_exit (Ztq ?_))))
  refine Zm ?_
  refine Zm ?_
  refine Zv (Runs.nilCheck rfl rfl) ?_
  refine Zf 3 Tryz.underlying70 ?_
  refine Zv (Runs.fieldA 1 rfl rfl Tryz.underlying38 rfl (by kernel_rfl)) ?_
  refine ZL Tryz.underlying3 k0 ?_
  refine Zv (Runs.nilCheck rfl rfl) ?_
  refine Zf 7 Tryz.underlying70 ?_
  refine Zq k0 ?_
  intro w1 pw1
  replace mf:=mf.put k0 pw1 e0
  replace gv:=gv.put k0 pw1 e0
  replace k98:=k98.put pw1 (by omega)
  replace dk:=dk.put k0 pw1 e0
  replace k97:=k97.put pw1 (by omega)
  replace own:=own.put k0 pw1 e0
  replace k0:=pw1.blk
  refine Zk6 0 1 10 11 12 13 (Ztq ?_)
  refine Zm ?_
  refine Zv (Runs.len rfl rfl Tryz.underlying77) ?_
  refine Zgt ?_
  refine Za ?_
  refine Zk7 0 1 4 10 11 12 13 (Zt (Cd.ret ?_))
  refine Ze1 ?_
  have hn0:0<n:=by
   rcases Nat.eq_zero_or_pos n with h|h
   ·exact absurd (List.eq_nil_of_length_eq_zero (by omega)) hne
   ·exact h
  refine⟨?_,mf,dk,k98,Au,cu,k0,own⟩
  simp
  omega
end Go.Proofs.YtdpipgidpkmolaaGreatDoor
namespace Go.Proofs.YtdpipgidpkmolaaGreatDoor
open Go.RowKit
set_option maxHeartbeats 8000000 in
theorem openM_any (B gd gen:Nat)(D:Dk)(rs:List (List Nat))(V:VerV)(w:World)(gv:Gv w)(es:Es w)(hgB:max 2 1 <B)(heB: 3 <B)(dk:DkAt w B gd D)(hm:MDk D)(hg:gen≤675)(hcur:D.get curN=some (full (frameN (grp gen))))(hlog:GLog D gen rs)(hne:rs≠ [])(hlen:rs.length≤1000)(hR:ReplR rs VerV.zero V):
  Calls Tryz.prog 8 #[.pointer (some ⟨gd,0,none⟩)] w fun e w'=>∃gm gl A' c',e= .returned (.tuple #[.pointer (some ⟨gm,0,none⟩), .int .i64 0])∧Blk w' gm 70 #[.pointer (some ⟨gd,0,none⟩), .int .i64 (gen:Int), .pointer (some ⟨gl,0,none⟩), .int .i64 V.lg, .int .i64 V.nx, .int .i64 V.sq, .slice A' V.fs.length c', .int .i64 V.nx, .bool false]∧Own w' B 81 6 (.slice A' V.fs.length c') V.fs.length (fcs V.fs)∧Mf B w w':=by
 have mf:=Mf.refl B w
 have bel:=Below.refl w.heap.size w
 have hBw:=dk.size
 have hrE:D.readE curN=0:=by unfold Dk.readE;rw[if_neg (by simp[hm.calm.off]),hcur];rfl
 have hrS:D.readS curN=frameN (grp gen):=by unfold Dk.readS;rw[if_neg (by simp[hm.calm.off]),hcur];rfl
 have hop:=hlog.opens hm hg hne hlen
 refine Zs 82 Tryz.func8 ?_
 refine Zsr ?_
 refine Za ?_
 refine Za ?_
 refine Zk3 0 2 3 (Zts (Zsr ?_))
 refine Zm ?_
 refine Zv (Runs.eqlP rfl rfl rfl Tryz.underlying26) ?_
 refine Zk4 0 2 3 15 (Zt ?_)
 refine Cd.condF rfl rfl ?_
 refine Cd.skip (Ztq ?_)
 refine Zm ?_
 refine Zc (Ze Tryz.func21) (read_d_any B gd D curN _ dk (by decide)) ?_
 rw[hrE,hrS]
 rintro e w6 ⟨rfl,hb6⟩
 refine⟨_,rfl,?_⟩
 replace bel:=bel.step hb6
 replace mf:=mf.step hb6
 replace gv:=gv.step hb6
 replace es:=es.step hb6
 replace dk:=dk.step hb6
 refine Zm ?_
 refine Zx ?_
 refine Zx ?_
 refine Za ?_
 refine Za ?_
 refine Zk6 0 2 3 4 5 15 (Ztq ?_)
 refine Zm ?_
 refine Zv (Runs.build rfl rfl (run_build_man gd _)) ?_
 refine Seq.box rfl rfl rfl rfl rfl ?_
 intro g23 w1 n23
 have e23:=Nat.le_trans bel.size n23.ge
 replace bel:=bel.step n23.below
 replace mf:=mf.step n23.below
 replace gv:=gv.step n23.below
 replace es:=es.step n23.below
 replace dk:=dk.step n23.below
 have k23:=n23.blk
 refine Za ?_
 refine Zk7 0 2 3 4 5 6 15 (Zts (Zsr ?_))
 refine Zm ?_
 refine Zqi ?_
 refine Zk8 0 2 3 4 5 6 15 25 (Zt ?_)
 refine Cd.condF rfl rfl ?_
 refine Cd.skip (Zts (Zsr ?_))
 refine Zm ?_
 refine Zni ?_
 refine Zk9 0 2 3 4 5 6 15 25 49 (Zt ?_)
 refine Cd.condF rfl rfl ?_
 refine Cd.skip (Ztq ?_)
 refine Zm ?_
 refine Zc (Ze Tryz.func26) (pointed_any gen _ gv hg) ?_
 rintro e w7 ⟨rfl,hb7⟩
 refine⟨_,rfl,?_⟩
 replace bel:=bel.step hb7
 replace mf:=mf.step hb7
 replace gv:=gv.step hb7
 replace es:=es.step hb7
 replace dk:=dk.step hb7
 replace k23:=k23.step hb7
 refine Zm ?_
 refine Zx ?_
 refine Zx ?_
 refine Za ?_
 refine Za ?_
 refine Zk11 0 2 3 4 5 6 10 11 15 25 49 (Zts (Zsr ?_))
 refine Zm ?_
 refine Zno ?_
 refine Zk12 0 2 3 4 5 6 10 11 15 25 49 57 (Zt ?_)
 refine Cd.condF rfl rfl ?_
 refine Cd.skip (Ztq ?_)
 refine Zm ?_
 refine Zm ?_
 refine Zc (Ze Tryz.func28) (name_any gen _ hg) ?_
 rintro e w8 ⟨rfl,hb8⟩
 refine⟨_,rfl,?_⟩
 replace bel:=bel.step hb8
 replace mf:=mf.step hb8
 replace gv:=gv.step hb8
 replace es:=es.step hb8
 replace dk:=dk.step hb8
 replace k23:=k23.step hb8
 have hw8s:B≤w8.heap.size:=Nat.le_trans hBw bel.size
 have e23:B≤g23:=Nat.le_trans hBw e23
 refine Zc (Ze Tryz.func27) (open_all B gd D (genN gen) _ gv es hgB dk hm.calm.off (rightN_gen hg) (genN_byt hg) (fun p hp=>for_man hg (hm.nms _ (List.mem_map.2 ⟨p,hp,rfl⟩)))) ?_
 clear dk
 rintro e w2 ⟨v1,v2,rfl,hor,dk,fw2⟩
 refine⟨_,rfl,?_⟩
 replace mf:=mf.df fw2
 replace gv:=gv.df fw2
 replace es:=es.df fw2
 replace k23:=k23.df fw2
 rw[hop] at hor dk
 rw[hop]
 obtain⟨h,-⟩|⟨-,g9,rfl,hg9,k98,ownR⟩:=hor
 ·exact absurd rfl h
 have ownR:Own _ _ 115 2 v2 (rs.map fun r=>((0:Nat),r)).length (recsV (rs.map fun r=>(0,r))):=ownR
 have hlm:(rs.map fun r=>((0:Nat),r)).length=rs.length:=List.length_map _
 rw[hlm] at ownR
 obtain⟨AR,cR,rfl,-⟩:=ownR.reads
 have k98:Blk _ g9 111 (wlCs gd (genN gen) 1 0 0 false):=k98
 have e9:B≤g9:=Nat.le_trans hw8s hg9
 have hne9:=k23.neT k98
 replace ownR:=ownR.mono (B':=B) hw8s
 refine Zm ?_
 refine Zx ?_
 refine Zx ?_
 refine Zx ?_
 refine Za ?_
 refine Za ?_
 refine Za ?_
 refine Zk14 0 2 3 4 5 6 10 11 12 13 15 25 49 57 (Zts (Zsr ?_))
 refine Zm ?_
 refine Zni ?_
 refine Zk15 0 2 3 4 5 6 10 11 12 13 15 25 49 57 67 (Zt ?_)
 refine Cd.condF rfl rfl ?_
 refine Cd.skip (Ztq ?_)
 refine Zm ?_
 refine Zm ?_
 refine Zm ?_
 refine Zm ?_
 refine Zv (Runs.nilCheck rfl rfl) ?_
 refine Zf 1 Tryz.underlying70 ?_
 refine Zq k23 ?_
 intro w3 pw3
 replace mf:=mf.put k23 pw3 e23
 replace gv:=gv.put k23 pw3 e23
 replace es:=es.put k23 pw3 e23
 replace dk:=dk.put k23 pw3 e23
 replace k98:=k98.put pw3 (by omega)
 replace ownR:=ownR.put k23 pw3 e23
 replace k23:=pw3.blk
 refine Zv (Runs.nilCheck rfl rfl) ?_
 refine Zf 2 Tryz.underlying70 ?_
 refine Zq k23 ?_
 intro w4 pw4
 replace mf:=mf.put k23 pw4 e23
 replace gv:=gv.put k23 pw4 e23
 replace es:=es.put k23 pw4 e23
 replace dk:=dk.put k23 pw4 e23
 replace k98:=k98.put pw4 (by omega)
 replace ownR:=ownR.put k23 pw4 e23
 replace k23:=pw4.blk
 refine Zk15 0 2 3 4 5 6 10 11 12 13 15 25 49 57 67 (Zts (Zsr ?_))
 refine Zm ?_
 refine Zm ?_
 refine Zc (Ze Tryz.func29) (replay_any B g23 gd g9 rs.length cR D AR rs V ⟨1,0,0,false⟩ (genN gen) _ _ _ _ _ _ gv hgB e23 k23 k98 dk ownR (fun r hr=>(hlog.recs r hr).1) hne hR hlen) ?_
 clear dk k98 k23 ownR
 rintro e w5 ⟨rfl,fw5,dk,k98,A',c',k23,own⟩
 refine⟨_,rfl,?_⟩
 replace mf:=mf.mf fw5
 replace gv:=gv.mf fw5
 replace es:=es.mf fw5
 refine Zno ?_
 refine Zk16 0 2 3 4 5 6 10 11 12 13 15 25 49 57 67 80 (Zt ?_)
 refine Cd.condF rfl rfl ?_
 refine Cd.skip (Ztq ?_)
 refine Zm ?_
 refine Za ?_
 refine Za ?_
 refine Zk16 0 2 3 4 5 6 10 11 12 13 15 25 49 57 67 80 (Zt (Cd.ret ?_))
 refine Ze2 ?_
 exact⟨g23,g9,A',c',rfl,k23,own,mf⟩
theorem new_man (room:Int):MDk (Dk.new room):=⟨⟨rfl,rfl⟩,by simp[Dk.new],fun x hx=>by cases hx⟩
set_option maxHeartbeats 8000000 in
theorem openF_any (B gd:Nat)(room:Int)(w:World)(gv:Gv w)(es:Es w)(hgB:max 2 1 <B)(heB: 3 <B)(dk:DkAt w B gd (Dk.new room)):
  Calls Tryz.prog 8 #[.pointer (some ⟨gd,0,none⟩)] w fun e w'=>Mf B w w'∧(e= .returned (.tuple #[.pointer none, .int .i64 5])∨∃gm gl D,e= .returned (.tuple #[.pointer (some ⟨gm,0,none⟩), .int .i64 0])∧B≤gm∧B≤gl∧Blk w' gm 70 #[.pointer (some ⟨gd,0,none⟩), .int .i64 ((0:Nat):Int), .pointer (some ⟨gl,0,none⟩), .int .i64 V1st.lg, .int .i64 V1st.nx, .int .i64 V1st.sq, .slice none 0 0, .int .i64 V1st.nx, .bool false]∧Blk w' gl 111 ((⟨0,1,(framesN [E1st.bytes]).length,false⟩:Wl).cs gd (genN 0))∧DkAt w' B gd D∧MDk D∧D.files.length≤3∧GLog D 0 [E1st.bytes]∧D.get curN=some (full (frameN (grp 0)))):=by
 have mf:=Mf.refl B w
 have bel:=Below.refl w.heap.size w
 have hBw:=dk.size
 have hrE:(Dk.new room).readE curN=7:=rfl
 obtain⟨-,hE,hEl,-⟩:=first_ok
 refine Zs 82 Tryz.func8 ?_
 refine Zsr ?_
 refine Za ?_
 refine Za ?_
 refine Zk3 0 2 3 (Zts (Zsr ?_))
 refine Zm ?_
 refine Zv (Runs.eqlP rfl rfl rfl Tryz.underlying26) ?_
 refine Zk4 0 2 3 15 (Zt ?_)
 refine Cd.condF rfl rfl ?_
 refine Cd.skip (Ztq ?_)
 refine Zm ?_
 refine Zc (Ze Tryz.func21) (read_d_any B gd (Dk.new room) curN _ dk (by decide)) ?_
 rw[hrE]
 rintro e w6 ⟨rfl,hb6⟩
 refine⟨_,rfl,?_⟩
 replace bel:=bel.step hb6
 replace mf:=mf.step hb6
 replace gv:=gv.step hb6
 replace es:=es.step hb6
 replace dk:=dk.step hb6
 refine Zm ?_
 refine Zx ?_
 refine Zx ?_
 refine Za ?_
 refine Za ?_
 refine Zk6 0 2 3 4 5 15 (Ztq ?_)
 refine Zm ?_
 refine Zv (Runs.build rfl rfl (run_build_man gd _)) ?_
 refine Seq.box rfl rfl rfl rfl rfl ?_
 intro g23 w1 n23
 have e23:=Nat.le_trans bel.size n23.ge
 replace bel:=bel.step n23.below
 replace mf:=mf.step n23.below
 replace gv:=gv.step n23.below
 replace es:=es.step n23.below
 replace dk:=dk.step n23.below
 have k23:=n23.blk
 refine Za ?_
 refine Zk7 0 2 3 4 5 6 15 (Zts (Zsr ?_))
 refine Zm ?_
 refine Zqi ?_
 refine Zk8 0 2 3 4 5 6 15 25 (Zt ?_)
 refine Cd.condT rfl rfl ?_
 refine Cd.seq (Zsr ?_)
 refine Zm ?_
 refine Zc (Ze Tryz.func22) (sweep_none B gd (Dk.new room) _ _ dk rfl) ?_
 rintro e w7 ⟨rfl,hb7⟩
 refine⟨_,rfl,?_⟩
 replace bel:=bel.step hb7
 replace mf:=mf.step hb7
 replace gv:=gv.step hb7
 replace es:=es.step hb7
 replace dk:=dk.step hb7
 replace k23:=k23.step hb7
 refine Zm ?_
 refine Zx ?_
 refine Zx ?_
 refine Za ?_
 refine Za ?_
 refine Zk9 0 2 3 4 5 6 8 15 25 (Ztq ?_)
 refine Zm ?_
 refine Zni ?_
 refine Zk10 0 2 3 4 5 6 8 15 25 32 (Zt ?_)
 refine Cd.condF rfl rfl ?_
 refine Cd.skip (Zts (Zsr ?_))
 refine Zm ?_
 refine Zv (Runs.build rfl rfl (run_build_ed3 (-1) 1 (-1) _)) ?_
 have e23:B≤g23:=Nat.le_trans hBw e23
 have own:Own w7 B 81 6 (.slice none 0 0) 0 (fcs []):=Own.nil _ _ _ _
 refine Zc (Ze Tryz.func25) (begin_m_any B g23 gd 0 0 0 (Dk.new room) none E1st _ _ _ _ _ _ _ _ _ gv es hgB heB e23 k23 dk (new_man room) (by simp[Dk.new]) (by omega) hE rfl rfl own) ?_
 clear dk k23
 rintro e w2 ⟨⟨D',r,rfl,dk,hm',hf',hbr⟩,kw,fw2⟩
 refine⟨_,rfl,?_⟩
 replace mf:=mf.mf fw2
 replace gv:=gv.mf fw2
 replace es:=es.mf fw2
 have hf0:D'.files.length≤3:=hf'
 rcases hbr with ⟨hr15,k23,hk⟩|⟨rfl,hla,⟨gl',el',k23,k97⟩,hgl',hcur',hk⟩
 ·obtain rfl:r=5:=by
   rcases hr15 with ⟨-,h⟩|h
   ·rw[hEl] at h;cases h
   ·exact h
  refine Za ?_
  refine Zk11 0 2 3 4 5 6 8 9 15 25 32 (Ztq ?_)
  refine Zm ?_
  refine Zni ?_
  refine Zk12 0 2 3 4 5 6 8 9 15 25 32 38 (Zt ?_)
  refine Cd.condT rfl rfl ?_
  refine Zsr ?_
  refine Zm ?_
  refine Za ?_
  refine Za ?_
  refine Zk12 0 2 3 4 5 6 8 9 15 25 32 38 (Zt (Cd.ret (Post.then_ret (Post.then_ret ?_))))
  refine Ze2 ?_
  exact⟨mf, .inl rfl⟩
 ·skip
  have hne97:=k23.neT k97
  refine Za ?_
  refine Zk11 0 2 3 4 5 6 8 9 15 25 32 (Ztq ?_)
  refine Zm ?_
  refine Zni ?_
  refine Zk12 0 2 3 4 5 6 8 9 15 25 32 38 (Zt ?_)
  refine Cd.condF rfl rfl ?_
  refine Cd.skip (Ztq ?_)
  refine Zm ?_
  refine Zm ?_
  refine Zv (Runs.nilCheck rfl rfl) ?_
  refine Zf 3 Tryz.underlying70 ?_
  refine Zv (Runs.fieldA 1 rfl rfl Tryz.underlying38 rfl (by kernel_rfl)) ?_
  refine Zq k23 ?_
  intro wx px
  replace px:Put _ wx g23 70 _:=px
  replace mf:=mf.put k23 px e23
  replace gv:=gv.put k23 px e23
  replace es:=es.put k23 px e23
  replace dk:=dk.put k23 px e23
  replace k97:=k97.put px (by omega)
  replace k23:=px.blk
  refine Zv (Runs.nilCheck rfl rfl) ?_
  refine Zf 7 Tryz.underlying70 ?_
  refine Zq k23 ?_
  intro w3 pw3
  replace mf:=mf.put k23 pw3 e23
  replace gv:=gv.put k23 pw3 e23
  replace es:=es.put k23 pw3 e23
  replace dk:=dk.put k23 pw3 e23
  replace k97:=k97.put pw3 (by omega)
  replace k23:=pw3.blk
  refine Zk12 0 2 3 4 5 6 8 9 15 25 32 38 (Ztq ?_)
  refine Zm ?_
  refine Za ?_
  refine Za ?_
  refine Zk12 0 2 3 4 5 6 8 9 15 25 32 38 (Zt (Cd.ret (Post.then_ret ?_)))
  refine Ze2 ?_
  exact⟨mf, .inr ⟨g23,gl',D',rfl,e23,el',k23,k97,dk,hm',hf0,hgl',hcur'⟩⟩
end Go.Proofs.YtdpipgidpkmolaaGreatDoor
namespace Go.Proofs.YtdpipgidpkmolaaGreatDoor
open Go.RowKit
theorem refSame3_any (A A':Option Addr)(n c c' B:Nat)(l:List (List Nat))(w:World)(hr:Reads w B 1 A n (Ts l))(hr':Reads w B 1 A' n (Ts l))(hB:B≤w.heap.size)(hb:∀r∈l,Byt r)(hn:n≤1000000000):
  Calls Tryz.prog 18 #[.slice A n c, .slice A' n c'] w fun e w'=>e= .returned (.bool true)∧Grow w w':=by
 have bel:=Below.refl w.heap.size w
 have hl:l.length=n:=by have:=hr.1;simpa[Ts] using this
 refine Zs 26 Tryz.func18 ?_
 refine Zsr ?_
 refine Za ?_
 refine Zk3 0 1 4 (Zts (Zsr ?_))
 refine Zm ?_
 refine Zv (Runs.len rfl rfl Tryz.underlying54) ?_
 refine Zm ?_
 refine Zv (Runs.len rfl rfl Tryz.underlying54) ?_
 refine Zni ?_
 refine Zk4 0 1 4 10 (Zt ?_)
 refine Cd.condF rfl (by simp) ?_
 refine Cd.skip (Zts (Zsr ?_))
 refine Za ?_
 refine Zk5 0 1 4 5 10 (Zt (Cd.block ?_))
 refine Cd.loop (σ:=Nat) (fun j=>[(0, .slice A n c),(1, .slice A' n c'),(5, .int .i64 (j:Int))]) (fun j wr=>j≤n∧Below w.heap.size w wr) (fun j=>n-j) 0 ⟨Nat.zero_le _,bel⟩ ⟨rfl,rfl,rfl,trivial⟩ ?_
 clear bel
 rintro j wr ⟨hj,bel⟩
 refine Cd.seq (Zsr ?_)
 refine Zm ?_
 refine Zm ?_
 refine Zv (Runs.len rfl rfl Tryz.underlying54) ?_
 refine Zls ?_
 refine Zk4 0 1 5 14 (Zt ?_)
 refine Cd.condD rfl (fun hc=> ?_) (fun hc=> ?_)
 ·obtain⟨r,hrj⟩:∃r,l[j]? =some r:=⟨_,List.getElem?_eq_getElem (by omega)⟩
  obtain⟨ad,rfl,hbd,hcl⟩:=hr.2 (by omega)
  obtain⟨ad',rfl,hbd',hcl'⟩:=hr'.2 (by omega)
  have hsz:=bel.size
  have hc1:∀wx,Below w.heap.size w wx→wx.cell? (ad.add j)=some (.string (strOf r)):=fun wx hx=>(hx.cell (by rw[block_of_add];omega)).trans (hcl j _ (by rw[get_Ts,hrj];rfl))
  have hc2:∀wx,Below w.heap.size w wx→wx.cell? (ad'.add j)=some (.string (strOf r)):=fun wx hx=>(hx.cell (by rw[block_of_add];omega)).trans (hcl' j _ (by rw[get_Ts,hrj];rfl))
  have hrb:=hb r (List.mem_of_getElem? hrj)
  refine Cd.skip (Zts (Cd.block (Cd.seq ?_)))
  refine Zdr 9 ?_
  intro w1 hw1 zw1
  replace bel:=bel.step hw1
  have zbel:=bel.size
  refine Zdm ?_
  refine Zdm ?_
  refine Zd (fun w hG=>(Runs.index1 rfl rfl rfl Tryz.underlying54 (by kernel_rfl) (j:=j) rfl (by omega))) ?_
  refine Zd (fun w hG=>(Runs.load1 rfl rfl Tryz.underlying9 rfl (hc1 w (bel.step hG)))) ?_
  refine Zdm ?_
  refine Zdm ?_
  refine Zd (fun w hG=>(Runs.index1 rfl rfl rfl Tryz.underlying54 (by kernel_rfl) (j:=j) rfl (by omega))) ?_
  refine Zd (fun w hG=>(Runs.load1 rfl rfl Tryz.underlying9 rfl (hc2 w (bel.step hG)))) ?_
  refine Zd (fun w hG=>((Runs.neqL (a:=r) (b:=r) rfl rfl rfl hrb hrb).isF (by simp))) ?_
  refine Dr.nil ?_
  refine FinX.done (F':=[(0,_),(1,_),(5,_),(14,_),(25,_)]) rfl ⟨rfl,rfl,rfl,rfl,rfl,trivial⟩ ?_
  intro w2 hw2 fw2
  replace bel:=bel.step hw2
  refine Zk5 0 1 5 14 25 (Zt ?_)
  refine Cd.condF rfl rfl ?_
  refine Cd.skip (Post.block_normal (Ztr ?_))
  refine Zm ?_
  refine Za_ ?_
  refine Za ?_
  refine Zk5 0 1 5 14 25 ?_
  exact Post.round (j+1) ⟨rfl,rfl,int_at (by omega),trivial⟩ ⟨by omega,bel⟩ (by omega)
 ·skip
  refine Cd.exit (Post.then_exit (Post.round_exit (Post.block_exit (Ztq ?_))))
  refine Za ?_
  refine Zk5 0 1 4 5 14 (Zt (Cd.ret ?_))
  refine Ze1 ?_
  exact⟨rfl,bel⟩
theorem run_field_next (a b c:Int)(A:Option Addr)(k m:Nat)(w:World):(Instr.field 38 (.agg #[.int .i64 a, .int .i64 b, .int .i64 c, .slice A k m]) 1).run Tryz.prog w= .ok (.int .i64 b) w:=by kernel_rfl
theorem dig6_7:dig6 7++[46,116,97,98]=[48,48,48,48,48,55,46,116,97,98]:=by unfold dig6;rw[decN];rfl
theorem awake13_any (w:World)(gv:Gv w):Calls Tryz.prog 6 #[] w fun e w'=>e= .returned (.bool true)∧Grow w w':=by
 have mf:=Mf.refl w.heap.size w
 have hgw:=gv.top
 obtain⟨W1,D1,D2,hA,hp,hs,hl⟩:=man_new
 refine Zs 28 Tryz.func6 ?_
 refine Zsr ?_
 refine Za ?_
 refine Zk1 0 (Ztq ?_)
 refine Zc (Ze Tryz.func7) (new_any 1000 _ (by omega) (by omega)) ?_
 rintro e w5 ⟨gd,rfl,dk,hb5⟩
 refine⟨_,rfl,?_⟩
 replace mf:=mf.step hb5
 replace gv:=gv.step hb5
 refine Za ?_
 refine Zk2 0 1 (Ztq ?_)
 refine Zm ?_
 refine Zc (Ze Tryz.func8) (open_new w.heap.size gd (Dk.new 1000) D1 D2 W1 _ gv hgw dk rfl (noNum_empty (show∀d∈ [109,97,97],d<256 by decide) (by decide) rfl) rfl rfl hA hp) ?_
 clear dk
 rintro e w1 ⟨gm,gl,rfl,k2,kl,e2,el,dk,fw1⟩
 refine⟨_,rfl,?_⟩
 replace mf:=mf.mf fw1
 replace gv:=gv.mf fw1
 refine Zm ?_
 refine Zx ?_
 refine Zx ?_
 refine Za ?_
 refine Za ?_
 refine Zk4 0 1 2 3 (Ztq ?_)
 refine Zm ?_
 refine Zqi ?_
 refine Zm ?_
 refine Seq.valG (Runs.move rfl rfl) rfl rfl rfl rfl rfl ?_
 refine Seq.callG (Ze Tryz.func10) rfl rfl rfl rfl rfl (version_new gm _ _ _ _ 0 1 0 1 _ k2) ?_
 rintro e w7 ⟨rfl,hb7⟩
 refine⟨_,rfl,?_⟩
 replace mf:=mf.step hb7
 replace gv:=gv.step hb7
 replace dk:=dk.step hb7
 replace k2:=k2.step hb7
 refine Seq.valG (Runs.field rfl rfl (run_field_next 0 1 0 _ _ _ _)) rfl rfl rfl rfl rfl ?_
 refine Seq.valG (Runs.eqlI rfl rfl rfl) rfl rfl rfl rfl rfl ?_
 refine Zv (Runs.pickT rfl rfl rfl) ?_
 refine Zm ?_
 refine Seq.valG (Runs.move rfl rfl) rfl rfl rfl rfl rfl ?_
 refine Seq.callG (Ze Tryz.func19) rfl rfl rfl rfl rfl (names_any w.heap.size gd D2 _ dk) ?_
 rw[hs,hl]
 rintro e w8 ⟨v8,rfl,ownN,hb8⟩
 refine⟨_,rfl,?_⟩
 replace mf:=mf.step hb8
 replace gv:=gv.step hb8
 replace dk:=dk.step hb8
 replace k2:=k2.step hb8
 obtain⟨A8,c8,rfl,-⟩:=ownN.reads
 refine Seq.valG (Runs.sliceLit (vs:=[_,_,_]) (s:=1) rfl rfl rfl Tryz.underlying54 (by kernel_rfl) zero_string (by omega) (by omega) ⟨rfl,rfl,rfl,trivial⟩) rfl rfl rfl rfl rfl ?_
 have hnw:=new_of w8 (flatC [.string (strOf curN), .string (strOf ackA), .string (strOf logA)]).toArray 9
 replace mf:=mf.step hnw.below
 replace gv:=gv.step hnw.below
 replace dk:=dk.step hnw.below
 replace k2:=k2.step hnw.below
 replace ownN:=ownN.step hnw.below
 obtain⟨A8',c8',hv8,hr8⟩:=ownN.reads
 injection hv8 with q1 _ q2
 subst q1 q2
 have hk:=Reads.blk (size:=1) hnw.blk 3 rfl
 refine Seq.callG (Ze Tryz.func18) rfl rfl rfl rfl rfl (refSame3_any A8 (some ⟨w8.heap.size,0,none⟩) 3 c8 3 _ [curN,ackA,logA] _ hr8 hk (Nat.le_refl _) (show∀r∈ [curN,ackA,logA],∀c∈r,c<256 by decide) (by omega)) ?_
 rintro e w9 ⟨rfl,hb9⟩
 refine⟨_,rfl,?_⟩
 replace mf:=mf.step hb9
 replace gv:=gv.step hb9
 replace dk:=dk.step hb9
 replace k2:=k2.step hb9
 replace ownN:=ownN.step hb9
 refine Zv (Runs.pickT rfl rfl rfl) ?_
 refine Zm ?_
 refine Seq.callG (Ze Tryz.func20) rfl rfl rfl rfl rfl (Name_any 7 _ gv (by omega) (by omega)) ?_
 rw[dig6_7]
 rintro e w10 ⟨rfl,hb10⟩
 refine⟨_,rfl,?_⟩
 replace mf:=mf.step hb10
 replace gv:=gv.step hb10
 replace dk:=dk.step hb10
 replace k2:=k2.step hb10
 replace ownN:=ownN.step hb10
 refine Seq.valG ((Runs.eqlL (a:=[48,48,48,48,48,55,46,116,97,98]) (b:=[48,48,48,48,48,55,46,116,97,98]) rfl rfl rfl (by decide) (by decide)).isT rfl) rfl rfl rfl rfl rfl ?_
 refine Zv (Runs.pickT rfl rfl rfl) ?_
 refine Za ?_
 refine Zk4 0 1 2 3 (Zt (Cd.ret ?_))
 refine Ze1 ?_
 exact⟨rfl,mf.to (Nat.le_refl _)⟩
end Go.Proofs.YtdpipgidpkmolaaGreatDoor
namespace Go.Proofs.YtdpipgidpkmolaaGreatDoor
open Go.RowKit
theorem zero_debentureref12_Version:zeroIs Tryz.prog 34=some (some (.agg #[.int .i64 0, .int .i64 0, .int .i64 0, .slice none 0 0])):=by kernel_rfl
theorem run_build_rver (a b c:Int)(w:World):(Instr.build 34 #[(0, .int .i64 a),(1, .int .i64 b),(2, .int .i64 c)]).run Tryz.prog w= .ok (.agg #[.int .i64 a, .int .i64 b, .int .i64 c, .slice none 0 0]) w:=by
 have hu:=Tryz.underlying34
 go_simp
end Go.Proofs.YtdpipgidpkmolaaGreatDoor
namespace Go.Proofs.YtdpipgidpkmolaaGreatDoor
open Go.RowKit
theorem zero_debentureref12_File:zeroIs Tryz.prog 60=some (some (.agg #[.int .i64 0, .int .i64 0, .string {data:= #[]}, .string {data:= #[]}, .int .i64 0, .int .i64 0])):=by kernel_rfl
set_option maxHeartbeats 4000000 in
theorem back_any (n c B:Nat)(A:Option Addr)(fs:List Fl)(lg nx sq:Int)(w:World)(hr:Reads w B 6 A n (fcs fs))(hB:B≤w.heap.size)(hn:n≤1000):
  Calls Tryz.prog 9 #[.agg #[.int .i64 lg, .int .i64 nx, .int .i64 sq, .slice A n c]] w fun e w'=>Grow w w'∧∃v,e= .returned (.agg #[.int .i64 lg, .int .i64 nx, .int .i64 sq,v])∧Own w' w.heap.size 60 6 v n (fcs fs):=by
 have bel:=Below.refl w.heap.size w
 have hfl:=hr.fl_len
 have own:Own w w.heap.size 60 6 (.slice none 0 0) 0 []:=Own.nil _ _ _ _
 refine Zs 30 Tryz.func9 ?_
 refine Zsr ?_
 refine Seq.box rfl rfl rfl rfl rfl ?_
 intro g1 w1 n1
 have e1:=Nat.le_trans bel.size n1.ge
 replace bel:=bel.step n1.below
 replace own:=own.step n1.below
 have k1:=n1.blk
 refine Zl zero_debentureref12_Version ?_
 intro g2 w2 n2
 have e2:=Nat.le_trans bel.size n2.ge
 have l2:=Nat.lt_of_lt_of_le k1.lt n2.ge
 replace bel:=bel.step n2.below
 replace own:=own.step n2.below
 replace k1:=k1.step n2.below
 have k2:=n2.blk
 refine Zk3 0 1 2 (Ztq ?_)
 refine Zf 0 Tryz.underlying38 ?_
 refine ZL Tryz.underlying3 k1 ?_
 refine Zf 1 Tryz.underlying38 ?_
 refine ZL Tryz.underlying3 k1 ?_
 refine Zf 2 Tryz.underlying38 ?_
 refine ZL Tryz.underlying3 k1 ?_
 refine Zv (Runs.build rfl rfl (run_build_rver _ _ _ _)) ?_
 refine Zl zero_debentureref12_Version ?_
 intro g3 w3 n3
 have e3:=Nat.le_trans bel.size n3.ge
 have l3:=Nat.lt_of_lt_of_le k2.lt n3.ge
 have l3_k1:=Nat.lt_of_lt_of_le k1.lt n3.ge
 replace bel:=bel.step n3.below
 replace own:=own.step n3.below
 replace k1:=k1.step n3.below
 replace k2:=k2.step n3.below
 have k3:=n3.blk
 refine Zo 4 k3 ?_
 intro w4 pw4
 replace bel:=bel.put k3 pw4 e3
 replace own:=own.put k3 pw4 e3
 replace k1:=k1.put pw4 (by omega)
 replace k2:=k2.put pw4 (by omega)
 replace k3:=pw4.blk
 refine Zk4 0 1 2 3 (Zts (Zsr ?_))
 refine Za ?_
 refine Zk5 0 1 2 3 4 (Zt (Cd.block ?_))
 replace k3:Blk _ g3 34 #[.int .i64 lg, .int .i64 nx, .int .i64 sq, .slice none 0 0]:=k3
 replace k1:Blk _ g1 38 #[.int .i64 lg, .int .i64 nx, .int .i64 sq, .slice A n c]:=k1
 have hgw:w.heap.size≤g3:=by omega
 refine Cd.loop (σ:=Nat × Value) (fun s=>[(1, .pointer (some ⟨g1,0,none⟩)),(2, .pointer (some ⟨g2,0,none⟩)),(3, .pointer (some ⟨g3,0,none⟩)),(4, .int .i64 (s.1:Int))]) (fun s wr=>s.1≤n∧Below w.heap.size w wr∧Blk wr g1 38 #[.int .i64 lg, .int .i64 nx, .int .i64 sq, .slice A n c]∧(∃cs,Blk wr g2 34 cs∧cs.size=4)∧Blk wr g3 34 #[.int .i64 lg, .int .i64 nx, .int .i64 sq,s.2]∧Own wr w.heap.size 60 6 s.2 s.1 (fcs (fs.take s.1))) (fun s=>n-s.1) (0, .slice none 0 0) ⟨Nat.zero_le _,bel,k1,⟨_,k2,rfl⟩,k3,own⟩ ⟨rfl,rfl,rfl,rfl,trivial⟩ ?_
 clear bel own k1 k2 k3
 rintro⟨k,v⟩ wr ⟨hk,bel,k1,⟨cs2,k2,hcs2⟩,k3,own⟩
 simp only at hk own k3
 obtain⟨Aq,cq,rfl,-⟩:=own.reads
 show Cd _ _ _ _ [(1, .pointer (some ⟨g1,0,none⟩)),(2, .pointer (some ⟨g2,0,none⟩)),(3, .pointer (some ⟨g3,0,none⟩)),(4, .int .i64 (k:Int))] _
 refine Cd.seq (Zsr ?_)
 refine Zm ?_
 refine Zf 3 Tryz.underlying38 ?_
 refine ZL Tryz.underlying36 k1 ?_
 refine Zv (Runs.len rfl rfl Tryz.underlying36) ?_
 refine Zls ?_
 refine Zk5 1 2 3 4 16 (Zt ?_)
 refine Cd.condD rfl (fun hc=> ?_) (fun hc=> ?_)
 ·obtain⟨f,hf⟩:∃f,fs[k]? =some f:=⟨_,List.getElem?_eq_getElem (show k<fs.length by omega)⟩
  obtain⟨ad,rfl,hbl,hin,hc⟩:=hr.fl (bel.mono hB) hf
  have hbsz:=bel.size
  have hc:=fun W (hG:Below wr.heap.size wr W) j v hj=>(hG.cell (p:=(ad.add (k*6)).add j) (by rw[block_of_add,block_of_add];omega)).trans (hc j v hj)
  have htk:=fcs_take hf
  refine Cd.skip (Zts (Cd.block ?_))
  refine Zdr 8 ?_
  intro w5 hw5 zw5
  replace bel:=bel.step hw5
  replace own:=own.step hw5
  replace k1:=k1.step hw5
  replace k2:=k2.step hw5
  replace k3:=k3.step hw5
  have zbel:=bel.size
  have zlt:=k3.lt
  refine Zdf 3 Tryz.underlying34 ?_
  refine ZdL Tryz.underlying32 k3 ?_
  refine Zdf 3 Tryz.underlying38 ?_
  refine ZdL Tryz.underlying36 k1 ?_
  refine Zdm ?_
  refine Zd (fun w hG=>Runs.indexN rfl rfl rfl Tryz.underlying36 (s:=6) (by kernel_rfl) (j:=k) rfl (by omega)) ?_
  refine Zd (fun w hG=>Runs.loadF (ps:=[.int .i64 f.num, .int .i64 f.level, .string (strOf f.first), .string (strOf f.last), .int .i64 f.count, .int .i64 f.size]) rfl rfl Tryz.underlying81 rfl (m:=6) (by kernel_rfl) rfl (hc w (Below.step hw5 hG))) ?_
  refine Dr.slice (vs:=[_]) (s:=6) rfl rfl rfl rfl Tryz.underlying32 (by kernel_rfl) zero_debentureref12_File (by omega) (by omega) ⟨rfl,trivial⟩ rfl ?_
  refine Dr.nil ?_
  refine FinX.open (j:=7) rfl ?_
  intro u7
  refine FinX.done (F':=[(1,_),(2,_),(3,_),(4,_),(16,_),(20,_),(26,_)]) rfl ⟨rfl,rfl,rfl,rfl,rfl,rfl,rfl,trivial⟩ ?_
  intro w6 hw6 fw6
  replace bel:=bel.step hw6
  replace own:=own.step hw6
  replace k1:=k1.step hw6
  replace k2:=k2.step hw6
  replace k3:=k3.step hw6
  obtain⟨g26,rfl,k26,e26⟩:=fw6.2
  replace k26:Blk _ g26 60 #[.int .i64 f.num, .int .i64 f.level, .string (strOf f.first), .string (strOf f.last), .int .i64 f.count, .int .i64 f.size]:=k26
  have hrd:=Reads.blk (size:=6) k26 1 rfl
  have hgw2:=bel.size
  refine Seq.append rfl rfl rfl Tryz.underlying32 (by kernel_rfl) zero_debentureref12_File rfl (by decide) (b:=64) (by kernel_rfl) own hrd (by intro x hx;simp[flatC,Value.cells] at hx;rcases hx with rfl|rfl|rfl|rfl|rfl|rfl<;>rfl) hgw2 (by simp only[maxLen];omega) (by omega) rfl rfl rfl ?_
  intro v2 wb own2 ha
  replace bel:=bel.trans ha.below
  replace k1:=k1.appNe own ha
  replace k2:=k2.appNe own ha
  replace k3:=k3.appNe own ha
  obtain⟨A2,c2,rfl,-⟩:=own2.reads
  clear own
  refine Zf 3 Tryz.underlying34 ?_
  refine Zq k3 ?_
  intro w7 pw7
  replace bel:=bel.put k3 pw7 e3
  replace k1:=k1.put pw7 (by omega)
  replace k2:=k2.put pw7 (by omega)
  replace own2:=own2.put k3 pw7 e3
  replace k3:=pw7.blk
  refine Zk5 1 2 3 4 16 (Post.block_normal (Ztr ?_))
  refine Zm ?_
  refine Za_ ?_
  refine Za ?_
  refine Zk5 1 2 3 4 16 ?_
  exact Post.round (k+1, .slice A2 (k+1) c2) ⟨rfl,rfl,rfl,rfl,trivial⟩ ⟨by simp only;omega,bel,k1,⟨_,k2,hcs2⟩,k3,by rw[htk];exact own2⟩ (by simp only;omega)
 ·obtain rfl:k=n:=by omega
  rw[List.take_of_length_le (by omega)] at own
  obtain⟨c2a,c2b,c2c,c2d,rfl⟩:∃a b c d,cs2= #[a,b,c,d]:=by
   obtain⟨l⟩:=cs2
   match l,hcs2 with
   | [a,b,c,d],_=>exact⟨a,b,c,d,rfl⟩
  refine Cd.exit (Post.then_exit (Post.round_exit (Post.block_exit (Ztq ?_))))
  refine ZW 4 Tryz.underlying34 k3 ?_
  refine Zo 4 k2 ?_
  intro w5 pw5
  replace bel:=bel.put k2 pw5 e2
  replace own:=own.put k2 pw5 e2
  replace k1:=k1.put pw5 (by omega)
  replace k3:=k3.put pw5 (by omega)
  replace k2:=pw5.blk
  refine Zk5 1 2 3 4 16 (Zt (Cd.ret ?_))
  refine Zec 4 k2 Tryz.underlying34 ?_
  exact⟨bel,_,rfl,own⟩
theorem run_neq_file (f:Fl)(w:World):(binOp .neq 60 f.v f.v).run Tryz.prog w= .ok (.bool false) w:=by
 have hu:=Tryz.underlying60
 go_simp
theorem guard_file (x y:Operand)(a b:Array Value)(w:World):(eqGuard .neq 60 x y (.agg a) (.agg b)).run Tryz.prog w= .ok () w:=by
 have h:Tryz.prog.eqGuardType Tryz.prog.depth 60=false:=by kernel_rfl
 simp[eqGuard,program,h,Sem.run_bind,Sem.run]
theorem sameFiles_any (B n c c':Nat)(A A':Option Addr)(fs:List Fl)(w:World)(hr:Reads w B 6 A n (fcs fs))(hr':Reads w B 6 A' n (fcs fs))(hB:B≤w.heap.size)(hn:n≤1000):
  Calls Tryz.prog 38 #[.slice A n c, .slice A' n c'] w fun e w'=>e= .returned (.bool true)∧Grow w w':=by
 have bel:=Below.refl w.heap.size w
 have hfl:=hr.fl_len
 refine Zs 26 Tryz.func38 ?_
 refine Zsr ?_
 refine Za ?_
 refine Zk3 0 1 4 (Zts (Zsr ?_))
 refine Zm ?_
 refine Zv (Runs.len rfl rfl Tryz.underlying32) ?_
 refine Zm ?_
 refine Zv (Runs.len rfl rfl Tryz.underlying32) ?_
 refine Zni ?_
 refine Zk4 0 1 4 10 (Zt ?_)
 refine Cd.condF rfl (decide_eq_false (by simp)) ?_
 refine Cd.skip (Zts (Zsr ?_))
 refine Za ?_
 refine Zk5 0 1 4 5 10 (Zt (Cd.block ?_))
 refine Cd.loop (σ:=Nat) (fun k=>[(0, .slice A n c),(1, .slice A' n c'),(5, .int .i64 (k:Int))]) (fun k wr=>k≤n∧Below w.heap.size w wr) (fun k=>n-k) 0 ⟨Nat.zero_le _,bel⟩ ⟨rfl,rfl,rfl,trivial⟩ ?_
 clear bel
 rintro k wr ⟨hk,bel⟩
 refine Cd.seq (Zsr ?_)
 refine Zm ?_
 refine Zm ?_
 refine Zv (Runs.len rfl rfl Tryz.underlying32) ?_
 refine Zls ?_
 refine Zk4 0 1 5 14 (Zt ?_)
 refine Cd.condD rfl (fun hc=> ?_) (fun hc=> ?_)
 ·obtain⟨f,hf⟩:∃f,fs[k]? =some f:=⟨_,List.getElem?_eq_getElem (show k<fs.length by omega)⟩
  obtain⟨ad,rfl,hbl,hin,hc⟩:=hr.fl (bel.mono hB) hf
  obtain⟨ad',rfl,hbl',hin',hc'⟩:=hr'.fl (bel.mono hB) hf
  have hc:=fun W (hG:Below wr.heap.size wr W) j v hj=>(hG.cell (p:=(ad.add (k*6)).add j) (by rw[block_of_add,block_of_add];have:=bel.size;omega)).trans (hc j v hj)
  have hc':=fun W (hG:Below wr.heap.size wr W) j v hj=>(hG.cell (p:=(ad'.add (k*6)).add j) (by rw[block_of_add,block_of_add];have:=bel.size;omega)).trans (hc' j v hj)
  have hne:=run_neq_file f
  refine Cd.skip (Zts (Cd.block (Cd.seq ?_)))
  refine Zdr 9 ?_
  intro w1 hw1 zw1
  replace bel:=bel.step hw1
  have zbel:=bel.size
  have hwsz:=hw1
  refine Zdm ?_
  refine Zdm ?_
  refine Zd (fun w hG=>Runs.indexN rfl rfl rfl Tryz.underlying32 (s:=6) (by kernel_rfl) (j:=k) rfl (by omega)) ?_
  refine Zd (fun w hG=>Runs.loadF (ps:=[.int .i64 f.num, .int .i64 f.level, .string (strOf f.first), .string (strOf f.last), .int .i64 f.count, .int .i64 f.size]) rfl rfl Tryz.underlying60 rfl (m:=6) (by kernel_rfl) rfl (hc w (Below.step hwsz hG))) ?_
  refine Zdm ?_
  refine Zdm ?_
  refine Zd (fun w hG=>Runs.indexN rfl rfl rfl Tryz.underlying32 (s:=6) (by kernel_rfl) (j:=k) rfl (by omega)) ?_
  refine Zd (fun w hG=>Runs.loadF (ps:=[.int .i64 f.num, .int .i64 f.level, .string (strOf f.first), .string (strOf f.last), .int .i64 f.count, .int .i64 f.size]) rfl rfl Tryz.underlying60 rfl (m:=6) (by kernel_rfl) rfl (hc' w (Below.step hwsz hG))) ?_
  refine Zd (fun w hG=>Runs.bin rfl rfl rfl (guard_file _ _ _ _ w) (hne w)) ?_
  refine Dr.nil ?_
  refine FinX.done (F':=[(0,_),(1,_),(5,_),(14,_),(25,_)]) rfl ⟨rfl,rfl,rfl,rfl,rfl,trivial⟩ ?_
  intro w2 hw2 fw2
  replace bel:=bel.step hw2
  refine Zk5 0 1 5 14 25 (Zt ?_)
  refine Cd.condF rfl rfl ?_
  refine Cd.skip (Post.block_normal (Ztr ?_))
  refine Zm ?_
  refine Za_ ?_
  refine Za ?_
  refine Zk5 0 1 5 14 25 ?_
  exact Post.round (k+1) ⟨rfl,rfl,rfl,trivial⟩ ⟨by omega,bel⟩ (by omega)
 ·skip
  refine Cd.exit (Post.then_exit (Post.round_exit (Post.block_exit (Ztq ?_))))
  refine Za ?_
  refine Zk5 0 1 4 5 14 (Zt (Cd.ret ?_))
  refine Ze1 ?_
  exact⟨rfl,bel⟩
theorem refSame_any (n c c' B:Nat)(A A':Option Addr)(fs:List Fl)(lg nx sq:Int)(w:World)(hr:Reads w B 6 A n (fcs fs))(hr':Reads w B 6 A' n (fcs fs))(hB:B≤w.heap.size)(hn:n≤1000):Calls Tryz.prog 14 #[.agg #[.int .i64 lg, .int .i64 nx, .int .i64 sq, .slice A n c], .agg #[.int .i64 lg, .int .i64 nx, .int .i64 sq, .slice A' n c']] w fun e w'=>e= .returned (.bool true)∧Grow w w':=by
 have bel:=Below.refl w.heap.size w
 refine Zs 31 Tryz.func14 ?_
 refine Zsr ?_
 refine Seq.box rfl rfl rfl rfl rfl ?_
 intro g2 w1 n2
 have e2:=Nat.le_trans bel.size n2.ge
 replace bel:=bel.step n2.below
 have k2:=n2.blk
 refine Seq.box rfl rfl rfl rfl rfl ?_
 intro g3 w2 n3
 have e3:=Nat.le_trans bel.size n3.ge
 have l3:=Nat.lt_of_lt_of_le k2.lt n3.ge
 replace bel:=bel.step n3.below
 replace k2:=k2.step n3.below
 have k3:=n3.blk
 refine Za ?_
 refine Zk5 0 1 2 3 4 (Ztq ?_)
 refine Zf 0 Tryz.underlying34 ?_
 refine ZL Tryz.underlying3 k2 ?_
 refine Zf 0 Tryz.underlying34 ?_
 refine ZL Tryz.underlying3 k3 ?_
 refine Zqi ?_
 refine Zm ?_
 refine SeqC.start ?_
 refine Zco (fun hcx=>Runs.fieldB 1 rfl rfl Tryz.underlying34 rfl (by kernel_rfl)) ?_
 refine Zn (fun hcx=>Runs.loadB rfl rfl Tryz.underlying3 rfl k2 rfl) ?_
 refine Zn (fun hcx=>Runs.fieldB 1 rfl rfl Tryz.underlying34 rfl (by kernel_rfl)) ?_
 refine Zn (fun hcx=>Runs.loadB rfl rfl Tryz.underlying3 rfl k3 rfl) ?_
 refine Zn (fun hcx=>Runs.eqlI rfl rfl rfl) ?_
 refine Zan ?_
 refine Zm ?_
 refine SeqC.start ?_
 refine Zco (fun hcx=>Runs.fieldB 2 rfl rfl Tryz.underlying34 rfl (by kernel_rfl)) ?_
 refine Zn (fun hcx=>Runs.loadB rfl rfl Tryz.underlying3 rfl k2 rfl) ?_
 refine Zn (fun hcx=>Runs.fieldB 2 rfl rfl Tryz.underlying34 rfl (by kernel_rfl)) ?_
 refine Zn (fun hcx=>Runs.loadB rfl rfl Tryz.underlying3 rfl k3 rfl) ?_
 refine Zn (fun hcx=>Runs.eqlI rfl rfl rfl) ?_
 refine Zan ?_
 refine Zm ?_
 refine SeqC.start ?_
 refine Zco (fun hcx=>Runs.fieldB 3 rfl rfl Tryz.underlying34 rfl (by kernel_rfl)) ?_
 refine Zn (fun hcx=>Runs.loadB rfl rfl Tryz.underlying32 rfl k2 rfl) ?_
 refine Zn (fun hcx=>Runs.fieldB 3 rfl rfl Tryz.underlying34 rfl (by kernel_rfl)) ?_
 refine Zn (fun hcx=>Runs.loadB rfl rfl Tryz.underlying32 rfl k3 rfl) ?_
 refine SeqC.nextC rfl rfl rfl rfl rfl rfl rfl (fun hcx=>Ze Tryz.func38) (fun hcx=>sameFiles_any B n c c' A A' fs _ (hr.below (bel.mono hB)) (hr'.below (bel.mono hB)) (Nat.le_trans hB bel.size) hn) ?_
 intro w3 hw3
 replace bel:=bel.step hw3
 replace k2:=k2.step hw3
 replace k3:=k3.step hw3
 refine Zan ?_
 refine Za ?_
 refine Zk5 0 1 2 3 4 (Zt (Cd.ret ?_))
 refine Ze1 ?_
 exact⟨by simp,bel⟩
end Go.Proofs.YtdpipgidpkmolaaGreatDoor
namespace Go.Proofs.YtdpipgidpkmolaaGreatDoor
open Go.RowKit
structure ActM where
 kind:Int
 num:Int
 ed:EdV
structure ActsAt (w:World)(B:Nat)(A:Option Addr)(n:Nat)(l:List ActM):Prop where
 len:l.length=n
 rng:∀a∈l,a.ed.rng
 at_:∀(i:Nat) (a:ActM),l[i]? =some a→∃ad A2 n2 c2 A3 n3 c3,A=some ad∧ad.block<B∧a.ed.drop.length=n2∧a.ed.add.length=n3∧
  (∀(j:Nat) (v:Value),[Value.int .i64 a.kind, .int .i64 a.num, .int .i64 a.ed.lg, .int .i64 a.ed.nx, .int .i64 a.ed.sq, .slice A2 n2 c2, .slice A3 n3 c3][j]? =some v→w.cell? ((ad.add (i*7)).add j)=some v)∧
  Reads w B 1 A2 n2 (DI a.ed.drop)∧Reads w B 6 A3 n3 (fcs a.ed.add)
theorem ActsAt.below {w w':World}{B n:Nat}{A:Option Addr}{l:List ActM}(h:ActsAt w B A n l)(hb:Below B w w'):ActsAt w' B A n l:=⟨h.len,h.rng,fun i a ha=>by
 obtain⟨ad,A2,n2,c2,A3,n3,c3,e1,e2,e3,e4,e5,e6,e7⟩:=h.at_ i a ha
 exact⟨ad,A2,n2,c2,A3,n3,c3,e1,e2,e3,e4,fun j v hj=>(hb.cell (by rw[block_of_add,block_of_add];exact e2)).trans (e5 j v hj),e6.below hb,e7.below hb⟩⟩
set_option maxHeartbeats 4000000 in
theorem great_acts (B n c:Nat)(A:Option Addr)(l:List ActM)(w:World)(h:ActsAt w B A n l)(hB:B≤w.heap.size):
  Calls Tryz.prog 5 #[.slice A n c] w fun e w'=>(∃b,e= .returned (.bool b)∧(b=false→n≤14∧∀a∈l,a.ed.drop.length≤10∧a.ed.add.length≤6))∧Grow w w':=by
 have bel:=Below.refl w.heap.size w
 have hll:=h.len
 refine Zs 69 Tryz.func5 ?_
 refine Zsr ?_
 refine Za ?_
 refine Zk2 0 2 (Zts (Zsr ?_))
 refine Zm ?_
 refine Zv (Runs.len rfl rfl Tryz.underlying22) ?_
 refine Zgt ?_
 refine Zk3 0 2 7 (Zt ?_)
 refine Cd.cond rfl (fun h=> ?_) (fun h=> ?_)
 ·skip
  refine Zsr ?_
  refine Za ?_
  refine Zk3 0 2 7 (Zt (Cd.ret (Post.then_ret ?_)))
  refine Ze1 ?_
  exact⟨⟨true,rfl,fun h=>by cases h⟩,bel⟩
 rename_i hA
 have hn14:n≤14:=by
  have h':¬((14:Int)<(n:Int)):=by simpa using h
  omega
 refine Cd.skip (Zts (Zsr ?_))
 refine Za ?_
 refine Zk4 0 2 3 7 (Zt (Cd.block ?_))
 refine Cd.loop (σ:=Nat) (fun i=>[(0, .slice A n c),(3, .int .i64 (i:Int))]) (fun i wr=>i≤n∧(∀a∈l.take i,a.ed.drop.length≤10∧a.ed.add.length≤6)∧Below w.heap.size w wr) (fun i=>n-i) 0 ⟨by omega,by simp,bel⟩ ⟨rfl,rfl,trivial⟩ ?_
 clear bel
 rintro i wr ⟨hi,hnm,bel⟩
 refine Cd.seq (Zsr ?_)
 refine Zm ?_
 refine Zm ?_
 refine Zv (Runs.len rfl rfl Tryz.underlying22) ?_
 refine Zls ?_
 refine Zk3 0 3 11 (Zt ?_)
 refine Cd.condD rfl (fun hc=> ?_) (fun hc=> ?_)
 ·obtain⟨a,ha⟩:∃a,l[i]? =some a:=⟨_,List.getElem?_eq_getElem (by omega)⟩
  obtain⟨ad,A2,n2,c2,A3,n3,c3,rfl,e2,e3,e4,e5,e6,e7⟩:=hA.at_ i a ha
  have hcA:∀wx,Below w.heap.size w wx→∀(k j:Nat) (v:Value),[Value.int .i64 a.kind, .int .i64 a.num, .int .i64 a.ed.lg, .int .i64 a.ed.nx, .int .i64 a.ed.sq, .slice A2 n2 c2, .slice A3 n3 c3][2+j]? =some v→wx.cell? (((ad.add (i*7)).add 2).add j)=some v:=fun wx hx k j v hv=>by
   rw[addr_add2,(hx.cell (by rw[block_of_add,block_of_add];omega))]
   exact e5 _ v hv
  have htk:=take_last ha
  refine Cd.skip (Zts (Cd.block (Cd.seq (Zsr ?_))))
  refine Zm ?_
  refine Zm ?_
  refine Zv (Runs.indexN rfl rfl rfl Tryz.underlying22 (s:=7) (by kernel_rfl) (j:=i) rfl (by omega)) ?_
  refine Zv (Runs.fieldA 2 rfl rfl Tryz.underlying44 rfl (by kernel_rfl)) ?_
  refine Zv (Runs.fieldA 3 rfl rfl Tryz.underlying42 rfl (by kernel_rfl)) ?_
  refine Zv (Runs.load1 rfl rfl Tryz.underlying40 rfl (hcA _ bel 0 3 _ rfl)) ?_
  refine Zv (Runs.len rfl rfl Tryz.underlying40) ?_
  refine Zgt ?_
  refine Zm ?_
  refine SeqC.start ?_
  refine Zco (fun hcx=>Runs.move rfl rfl) ?_
  refine Znm ?_
  refine Zn (fun hcx=>Runs.indexN rfl rfl rfl Tryz.underlying22 (s:=7) (by kernel_rfl) (j:=i) rfl (by omega)) ?_
  refine Zn (fun hcx=>Runs.fieldA 2 rfl rfl Tryz.underlying44 rfl (by kernel_rfl)) ?_
  refine Zn (fun hcx=>Runs.fieldA 4 rfl rfl Tryz.underlying42 rfl (by kernel_rfl)) ?_
  refine Zn (fun hcx=>Runs.load1 rfl rfl Tryz.underlying32 rfl (hcA _ bel 0 4 _ rfl)) ?_
  refine Zn (fun hcx=>Runs.len rfl rfl Tryz.underlying32) ?_
  refine Zn (fun hcx=>Runs.gtr rfl rfl rfl) ?_
  refine Zor ?_
  refine Zk4 0 3 11 31 (Zt ?_)
  refine Cd.cond rfl (fun h=> ?_) (fun h=> ?_)
  ·skip
   refine Zsr ?_
   refine Za ?_
   refine Zk5 0 2 3 11 31 (Zt (Cd.ret (Post.then_ret (Post.block_ret (Post.then_ret (Post.round_ret (Post.block_ret (Post.then_ret ?_))))))))
   refine Ze1 ?_
   exact⟨⟨true,rfl,fun h=>by cases h⟩,bel⟩
  have hnm2:n2≤10∧n3≤6:=by
   have h':(decide ((10:Int)<(n2:Int))||decide ((6:Int)<(n3:Int)))=false:=h
   rw[Bool.or_eq_false_iff,decide_eq_false_iff_not,decide_eq_false_iff_not] at h'
   omega
  refine Cd.skip (Ztq ?_)
  refine Za ?_
  refine Zk5 0 3 4 11 31 (Zt (Cd.block ?_))
  refine Cd.loop (σ:=Nat) (fun j=>[(0, .slice (some ad) n c),(3, .int .i64 (i:Int)),(4, .int .i64 (j:Int))]) (fun j wr=>j≤n3∧Below w.heap.size w wr) (fun j=>n3-j) 0 ⟨by omega,bel⟩ ⟨rfl,rfl,rfl,trivial⟩ ?_
  clear bel
  rintro j wr ⟨hj,bel⟩
  refine Cd.seq (Zsr ?_)
  refine Zm ?_
  refine Zm ?_
  refine Zm ?_
  refine Zv (Runs.indexN rfl rfl rfl Tryz.underlying22 (s:=7) (by kernel_rfl) (j:=i) rfl (by omega)) ?_
  refine Zv (Runs.fieldA 2 rfl rfl Tryz.underlying44 rfl (by kernel_rfl)) ?_
  refine Zv (Runs.fieldA 4 rfl rfl Tryz.underlying42 rfl (by kernel_rfl)) ?_
  refine Zv (Runs.load1 rfl rfl Tryz.underlying32 rfl (hcA _ bel 0 4 _ rfl)) ?_
  refine Zv (Runs.len rfl rfl Tryz.underlying32) ?_
  refine Zls ?_
  refine Zk4 0 3 4 40 (Zt ?_)
  refine Cd.condD rfl (fun hc=> ?_) (fun hc=> ?_)
  ·obtain⟨f,hf⟩:∃f,a.ed.add[j]? =some f:=⟨_,List.getElem?_eq_getElem (show j<a.ed.add.length by omega)⟩
   obtain⟨ad3,rfl,hbl,hin,hcf⟩:=e7.fl (bel.mono hB) hf
   have hc2:=hcf 2 _ rfl
   have hc3:=hcf 3 _ rfl
   refine Cd.skip (Zts (Cd.block (Zsr ?_)))
   refine Zm ?_
   refine Zm ?_
   refine Zv (Runs.indexN rfl rfl rfl Tryz.underlying22 (s:=7) (by kernel_rfl) (j:=i) rfl (by omega)) ?_
   refine Zv (Runs.fieldA 2 rfl rfl Tryz.underlying44 rfl (by kernel_rfl)) ?_
   refine Zv (Runs.fieldA 4 rfl rfl Tryz.underlying42 rfl (by kernel_rfl)) ?_
   refine Zv (Runs.load1 rfl rfl Tryz.underlying32 rfl (hcA _ bel 0 4 _ rfl)) ?_
   refine Zm ?_
   refine Zv (Runs.indexN rfl rfl rfl Tryz.underlying32 (s:=6) (by kernel_rfl) (j:=j) rfl (by omega)) ?_
   refine Zv (Runs.fieldA 2 rfl rfl Tryz.underlying60 rfl (by kernel_rfl)) ?_
   refine Zv (Runs.load1 rfl rfl Tryz.underlying9 rfl hc2) ?_
   refine Zv (Runs.lenL rfl rfl Tryz.underlying9) ?_
   refine Zgt ?_
   refine Zm ?_
   refine SeqC.start ?_
   refine Zco (fun hcx=>Runs.move rfl rfl) ?_
   refine Znm ?_
   refine Zn (fun hcx=>Runs.indexN rfl rfl rfl Tryz.underlying22 (s:=7) (by kernel_rfl) (j:=i) rfl (by omega)) ?_
   refine Zn (fun hcx=>Runs.fieldA 2 rfl rfl Tryz.underlying44 rfl (by kernel_rfl)) ?_
   refine Zn (fun hcx=>Runs.fieldA 4 rfl rfl Tryz.underlying42 rfl (by kernel_rfl)) ?_
   refine Zn (fun hcx=>Runs.load1 rfl rfl Tryz.underlying32 rfl (hcA _ bel 0 4 _ rfl)) ?_
   refine Znm ?_
   refine Zn (fun hcx=>Runs.indexN rfl rfl rfl Tryz.underlying32 (s:=6) (by kernel_rfl) (j:=j) rfl (by omega)) ?_
   refine Zn (fun hcx=>Runs.fieldA 3 rfl rfl Tryz.underlying60 rfl (by kernel_rfl)) ?_
   refine Zn (fun hcx=>Runs.load1 rfl rfl Tryz.underlying9 rfl hc3) ?_
   refine Zn (fun hcx=>Runs.lenL rfl rfl Tryz.underlying9) ?_
   refine Zn (fun hcx=>Runs.gtr rfl rfl rfl) ?_
   refine Zor ?_
   refine Zk5 0 3 4 40 68 (Zt ?_)
   refine Cd.cond rfl (fun h=> ?_) (fun h=> ?_)
   ·skip
    refine Zsr ?_
    refine Za ?_
    refine Zk6 0 2 3 4 40 68 (Zt (Cd.ret (Post.block_ret (Post.then_ret (Post.round_ret (Post.block_ret (Post.block_ret (Post.then_ret (Post.round_ret (Post.block_ret (Post.then_ret ?_)))))))))))
    refine Ze1 ?_
    exact⟨⟨true,rfl,fun h=>by cases h⟩,bel⟩
   ·skip
    refine Cd.skip (Post.block_normal (Ztr ?_))
    refine Zm ?_
    refine Za_ ?_
    refine Za ?_
    refine Zk5 0 3 4 40 68 ?_
    exact Post.round (j+1) ⟨rfl,rfl,int_at (by omega),trivial⟩ ⟨by omega,bel⟩ (by omega)
  ·skip
   refine Cd.exit (Post.then_exit (Post.round_exit (Post.block_exit (Post.block_normal (Ztr ?_)))))
   refine Zm ?_
   refine Za_ ?_
   refine Za ?_
   refine Zk4 0 3 4 40 ?_
   refine Post.round (i+1) ⟨rfl,int_at (by omega),trivial⟩ ⟨by omega,fun b hb=> ?_,bel⟩ (by omega)
   rw[htk] at hb
   rcases List.mem_append.1 hb with hb|hb
   ·exact hnm b hb
   ·simp at hb;subst hb;exact⟨by omega,by omega⟩
 ·rw[List.take_of_length_le (by omega)] at hnm
  refine Cd.exit (Post.then_exit (Post.round_exit (Post.block_exit (Ztq ?_))))
  refine Za ?_
  refine Zk4 0 2 3 11 (Zt (Cd.ret ?_))
  refine Ze1 ?_
  exact⟨⟨false,rfl,fun _=>⟨hn14,hnm⟩⟩,bel⟩
end Go.Proofs.YtdpipgidpkmolaaGreatDoor
namespace Go.Proofs.YtdpipgidpkmolaaGreatDoor
open Go.RowKit
structure FullSt (S gd gm:Nat)(w:World)(i gen:Nat)(V:VerV)(rs:List (List Nat))(D:Dk)(A:Option Addr)(c gl:Nat):Prop where
 k:Blk w gm 70 #[.pointer (some ⟨gd,0,none⟩), .int .i64 (gen:Int), .pointer (some ⟨gl,0,none⟩), .int .i64 V.lg, .int .i64 V.nx, .int .i64 V.sq, .slice A V.fs.length c, .int .i64 V.nx, .bool false]
 kl:Blk w gl 111 ((⟨0,rs.length,(framesN rs).length,false⟩:Wl).cs gd (genN gen))
 own:Own w S 81 6 (.slice A V.fs.length c) V.fs.length (fcs V.fs)
 dk:DkAt w S gd D
 el:S≤gl
 hm:MDk D
 few:D.files.length≤3+3*i
 gen_:gen≤i
 log:GLog D gen rs
 cur:D.get curN=some (full (frameN (grp gen)))
 ver:VOk V
 repl:ReplR rs VerV.zero V
 ne:rs≠ []
 rl:rs.length≤i+1
 fr:(framesN rs).length≤(i+1)*24012
section
variable {S gd gm i gen c gl:Nat} {w w':World} {V:VerV} {rs:List (List Nat)} {D:Dk} {A:Option Addr}
theorem FullSt.step (h:FullSt S gd gm w i gen V rs D A c gl)(hb:Below w.heap.size w w'):FullSt S gd gm w' i gen V rs D A c gl:=⟨h.k.step hb,h.kl.step hb,h.own.step hb,h.dk.step hb,h.el,h.hm,h.few,h.gen_,h.log,h.cur,h.ver,h.repl,h.ne,h.rl,h.fr⟩
theorem FullSt.put {g B':Nat}{T:TypeId}{cur cs:Array Value}(h:FullSt S gd gm w i gen V rs D A c gl)(k:Blk w g T cur)(p:Put w w' g T cs)(e:B'≤g)(h1:70≠T:=by decide)(h2:111≠T:=by decide)(h3:81≠T:=by decide)(h4:T≠65:=by decide)(h5:T≠100:=by decide):FullSt S gd gm w' i gen V rs D A c gl:=
 ⟨h.k.put p (h.k.neT k h1),h.kl.put p (h.kl.neT k h2),h.own.put k p e h3,h.dk.put k p e h5 h4,h.el,h.hm,h.few,h.gen_,h.log,h.cur,h.ver,h.repl,h.ne,h.rl,h.fr⟩
theorem FullSt.more (h:FullSt S gd gm w i gen V rs D A c gl):FullSt S gd gm w (i+1) gen V rs D A c gl:=⟨h.k,h.kl,h.own,h.dk,h.el,h.hm,by have:=h.few;omega,by have:=h.gen_;omega,h.log,h.cur,h.ver,h.repl,h.ne,by have:=h.rl;omega,Nat.le_trans h.fr (Nat.mul_le_mul_right _ (Nat.le_succ _))⟩
end
def BkO (B n:Nat)(lg nx sq:Int)(fs:List Fl)(u:Value)(w:World):Prop:=∃A c,u= .agg #[.int .i64 lg, .int .i64 nx, .int .i64 sq, .slice A n c]∧Own w B 60 6 (.slice A n c) n (fcs fs)
theorem BkO.stable {B n:Nat}{lg nx sq:Int}{fs:List Fl}:∀v w w',Grow w w'→BkO B n lg nx sq fs v w→BkO B n lg nx sq fs v w':=fun _ _ _ hG ⟨A,c,e,h⟩=>⟨A,c,e,h.step hG⟩
theorem FullSt.first {S gd gm gl:Nat}{w:World}{D:Dk}(km:Blk w gm 70 #[.pointer (some ⟨gd,0,none⟩), .int .i64 ((0:Nat):Int), .pointer (some ⟨gl,0,none⟩), .int .i64 V1st.lg, .int .i64 V1st.nx, .int .i64 V1st.sq, .slice none 0 0, .int .i64 V1st.nx, .bool false]) (kl:Blk w gl 111 ((⟨0,1,(framesN [E1st.bytes]).length,false⟩:Wl).cs gd (genN 0))) (dk:DkAt w S gd D) (el:S≤gl) (hm:MDk D) (hf:D.files.length≤3) (hlog:GLog D 0 [E1st.bytes]) (hcur:D.get curN=some (full (frameN (grp 0)))):FullSt S gd gm w 0 0 V1st [E1st.bytes] D none 0 gl:=by
 obtain⟨hV,hE,hEl,hap⟩:=first_ok
 obtain⟨hbb,hbl,x,hx,hxe⟩:=EdV.back hE hEl
 refine⟨km,kl,Own.nil _ _ _ _,dk,el,hm,by omega,Nat.le_refl _,hlog,hcur,hV,⟨x,V1st,hx,by rw[hxe];exact hE,by rw[hxe];exact hap,rfl⟩,by simp,by simp,?_⟩
 rw[framesN_one,frameN_len]
 omega
set_option maxHeartbeats 16000000 in
theorem walk_full (B n c:Nat)(A:Option Addr)(l:List ActM)(room:Nat)(w:World)(hBw:B=w.heap.size)(gv:Gv w)(es:Es w)(hA:ActsAt w B A n l)(hroom:room≤65535):
  Calls Tryz.prog 3 #[.slice A n c, .int .u16 (room:Int)] w fun e w'=>e= .returned (.bool true)∧Grow w w':=by
 have bel:=Below.refl w.heap.size w
 have hB:B≤w.heap.size:=Nat.le_of_eq hBw
 have hll:=hA.len
 refine Zs 103 Tryz.func3 ?_
 refine Zsr ?_
 refine Za ?_
 refine Zk3 0 1 4 (Zts (Zsr ?_))
 refine Zm ?_
 refine Zc (Ze Tryz.func5) (great_acts B n c A l _ (hA.below (bel.mono hB)) (Nat.le_trans hB bel.size)) ?_
 rintro e w5 ⟨⟨b,rfl,hbf⟩,hb5⟩
 refine⟨_,rfl,?_⟩
 replace bel:=bel.step hb5
 replace gv:=gv.step hb5
 replace es:=es.step hb5
 cases b with
 |true=>
  refine Zm ?_
  refine Seq.skipG rfl rfl rfl rfl rfl rfl ?_
  refine Seq.skipG rfl rfl rfl rfl rfl rfl ?_
  refine Zv (Runs.pickT rfl rfl rfl) ?_
  refine Zk4 0 1 4 18 (Zt ?_)
  refine Cd.condT rfl rfl ?_
  refine Zsr ?_
  refine Zc (Ze Tryz.func6) (awake13_any _ gv) ?_
  rintro e w6 ⟨rfl,hb6⟩
  refine⟨_,rfl,?_⟩
  replace bel:=bel.step hb6
  replace gv:=gv.step hb6
  replace es:=es.step hb6
  refine Za ?_
  refine Zk4 0 1 4 18 (Zt (Cd.ret (Post.then_ret ?_)))
  refine Ze1 ?_
  exact⟨rfl,bel⟩
 |false=>
  obtain⟨hn14,hsm⟩:=hbf rfl
  refine Zm ?_
  refine Seq.callG (Ze Tryz.func6) rfl rfl rfl rfl rfl (awake13_any _ gv) ?_
  rintro e w6 ⟨rfl,hb6⟩
  refine⟨_,rfl,?_⟩
  replace bel:=bel.step hb6
  replace gv:=gv.step hb6
  replace es:=es.step hb6
  refine Seq.valG (Runs.not rfl rfl) rfl rfl rfl rfl rfl ?_
  refine Zv (Runs.pickF rfl rfl rfl) ?_
  refine Zk4 0 1 4 18 (Zt ?_)
  refine Cd.condF rfl rfl ?_
  refine Cd.skip (Ztq ?_)
  refine Zm ?_
  refine Zv (Runs.convI rfl rfl Tryz.underlying23 Tryz.underlying3 (wrapI (by omega) (by omega))) ?_
  have hgS:=gv.top
  have heS:=es.lt
  obtain⟨S,hS⟩:∃S,S=w6.heap.size:=⟨_,rfl⟩
  rw[←hS] at hgS heS
  have hwS:w.heap.size≤S:=by rw[hS];exact bel.size
  have bel0:=bel
  have mf:=Mf.refl S w6
  refine Zc (Ze Tryz.func7) (new_any (room:Int) _ (by omega) (by omega)) ?_
  rw[←hS]
  rintro e w7 ⟨gd,rfl,dk,hb7⟩
  refine⟨_,rfl,?_⟩
  replace gv:=gv.step hb7
  replace es:=es.step hb7
  replace mf:=mf.step hb7
  refine Za ?_
  refine Zk5 0 1 4 5 18 (Ztq ?_)
  refine Zm ?_
  refine Zc (Ze Tryz.func8) (openF_any S gd (room:Int) _ gv es hgS heS dk) ?_
  clear dk
  rintro e w8 ⟨f8,rfl|⟨gm,gl,D,rfl,egm,egl,km,kl,dk,hm,hf,hlog,hcur⟩⟩
  ·refine⟨_,rfl,?_⟩
   replace mf:=mf.mf f8
   refine Zm ?_
   refine Zx ?_
   refine Zx ?_
   refine Za ?_
   refine Za ?_
   refine Zk7 0 1 4 5 6 7 18 (Zts (Zsr ?_))
   refine Zm ?_
   refine Zni ?_
   refine Zk8 0 1 4 5 6 7 18 29 (Zt ?_)
   refine Cd.condT rfl rfl ?_
   refine Zsr ?_
   refine Zm ?_
   refine Zv (Runs.eqlP rfl rfl rfl Tryz.underlying28) ?_
   refine Zm ?_
   refine Seq.valG (Runs.move rfl rfl) rfl rfl rfl rfl rfl ?_
   refine Seq.valG (Runs.eqlI rfl rfl rfl) rfl rfl rfl rfl rfl ?_
   refine Zv (Runs.pickT rfl rfl rfl) ?_
   refine Za ?_
   refine Zk8 0 1 4 5 6 7 18 29 (Zt (Cd.ret (Post.then_ret ?_)))
   refine Ze1 ?_
   exact⟨rfl,bel0.trans ((mf.to (by omega)).mono hwS)⟩
  ·refine⟨_,rfl,?_⟩
   replace mf:=mf.mf f8
   replace gv:=gv.mf f8
   replace es:=es.mf f8
   have st:FullSt S gd gm w8 0 0 V1st [E1st.bytes] D none 0 gl:=FullSt.first km kl dk egl hm hf hlog hcur
   clear km kl dk
   refine Zm ?_
   refine Zx ?_
   refine Zx ?_
   refine Za ?_
   refine Za ?_
   refine Zk7 0 1 4 5 6 7 18 (Zts (Zsr ?_))
   refine Zm ?_
   refine Zni ?_
   refine Zk8 0 1 4 5 6 7 18 29 (Zt ?_)
   refine Cd.condF rfl rfl ?_
   refine Cd.skip (Zts (Zsr ?_))
   refine Za ?_
   refine Zk9 0 1 4 5 6 7 8 18 29 (Zt (Cd.block ?_))
   refine Cd.loop (σ:=Nat × Nat × VerV × List (List Nat) × Dk × Option Addr × Nat × Nat) (fun s=>[(0, .slice A n c),(5, .pointer (some ⟨gd,0,none⟩)),(6, .pointer (some ⟨gm,0,none⟩)),(8, .int .i64 (s.1:Int))]) (fun s wr=>s.1≤n∧Mf S w6 wr∧Gv wr∧Es wr∧FullSt S gd gm wr s.1 s.2.1 s.2.2.1 s.2.2.2.1 s.2.2.2.2.1 s.2.2.2.2.2.1 s.2.2.2.2.2.2.1 s.2.2.2.2.2.2.2) (fun s=>n-s.1) (0,0,V1st,[E1st.bytes],D,none,0,gl) ⟨Nat.zero_le _,mf,gv,es,st⟩ ⟨rfl,rfl,rfl,rfl,trivial⟩ ?_
   clear gv es mf st
   clear hlog hcur hm hf egl
   clear D gl
   rintro⟨i,gen,V,rs,D,A',c',gl⟩ wr ⟨hi,mf,gv,es,st⟩
   simp only at hi st
   show Cd _ _ _ _ [(0, .slice A n c),(5, .pointer (some ⟨gd,0,none⟩)),(6, .pointer (some ⟨gm,0,none⟩)),(8, .int .i64 (i:Int))] _
   have belr:Below w.heap.size w wr:=bel0.trans ((mf.to (by omega)).mono hwS)
   have hAr:=hA.below (belr.mono hB)
   have hSr:S≤wr.heap.size:=by have:=mf.size;omega
   refine Cd.seq (Zsr ?_)
   refine Zm ?_
   refine Zm ?_
   refine Zv (Runs.len rfl rfl Tryz.underlying22) ?_
   refine Zls ?_
   refine Zk5 0 5 6 8 39 (Zt ?_)
   refine Cd.condD rfl (fun hc=> ?_) (fun hc=> ?_)
   ·obtain⟨a,ha⟩:∃a,l[i]? =some a:=⟨_,List.getElem?_eq_getElem (by omega)⟩
    obtain⟨ad,A2,n2,c2,A3,n3,c3,rfl,e2,e3,e4,e5,e6,e7⟩:=hAr.at_ i a ha
    obtain⟨hs2,hs3⟩:=hsm a (List.mem_of_getElem? ha)
    obtain⟨-,-,-,hV100⟩:=right_nums st.ver.right
    have hnc:=st.own.cap
    have hgen:=st.gen_
    have bel:=Below.refl wr.heap.size wr
    refine Cd.skip (Zts (Cd.block (Zsr ?_)))
    refine Zm ?_
    refine Zc (Ze Tryz.func10) (version_any gm V.fs.length c' S A' V.fs _ _ _ _ V.lg V.nx V.sq V.nx _ st.k st.own (by omega)) ?_
    rintro e w9 ⟨hb9,v,rfl,ow9⟩
    refine⟨_,rfl,?_⟩
    replace gv:=gv.step hb9
    replace es:=es.step hb9
    replace mf:=mf.step hb9
    replace st:=st.step hb9
    replace bel:=bel.step hb9
    obtain⟨A9,c9,rfl,-⟩:=ow9.reads
    refine Zc (Ze Tryz.func9) (back_any V.fs.length c9 _ A9 V.fs V.lg V.nx V.sq _ ow9.rdsN (Nat.le_refl _) (by omega)) ?_
    rintro e w10 ⟨hb10,v,rfl,ow10⟩
    refine⟨_,rfl,?_⟩
    replace gv:=gv.step hb10
    replace es:=es.step hb10
    replace mf:=mf.step hb10
    replace st:=st.step hb10
    replace bel:=bel.step hb10
    obtain⟨A10,c10,rfl,-⟩:=ow10.reads
    replace ow10:=ow10.mono (B':=S) (by have:=hb9.size;omega)
    refine Zl zero_debentureref12_Version ?_
    intro g9 w1 n9
    have e9:=Nat.le_trans bel.size n9.ge
    replace gv:=gv.step n9.below
    replace es:=es.step n9.below
    replace mf:=mf.step n9.below
    replace st:=st.step n9.below
    replace bel:=bel.step n9.below
    replace ow10:=ow10.step n9.below
    have k9:=n9.blk
    refine Zo 4 k9 ?_
    intro w2 pw2
    replace gv:=gv.put k9 pw2 e9
    replace es:=es.put k9 pw2 e9
    replace mf:=mf.put k9 pw2 e9
    replace st:=st.put k9 pw2 e9
    replace bel:=bel.put k9 pw2 e9
    replace ow10:=ow10.put k9 pw2 e9
    replace k9:=pw2.blk
    refine Zk6 0 5 6 8 9 39 (Ztq ?_)
    refine Za ?_
    refine Zk7 0 5 6 8 9 10 39 (Zt ?_)
    replace k9:Blk _ g9 34 #[.int .i64 V.lg, .int .i64 V.nx, .int .i64 V.sq, .slice A10 V.fs.length c10]:=k9
    refine Cd.seqJ (σ:=Int × Nat × VerV × List (List Nat) × Dk × Option Addr × Nat × Nat) (fun s=>[(0, .slice (some ad) n c),(5, .pointer (some ⟨gd,0,none⟩)),(6, .pointer (some ⟨gm,0,none⟩)),(8, .int .i64 (i:Int)),(9, .pointer (some ⟨g9,0,none⟩)),(10, .int .i64 s.1)]) (fun s wx=>Mf S w6 wx∧Gv wx∧Es wx∧FullSt S gd gm wx (i+1) s.2.1 s.2.2.1 s.2.2.2.1 s.2.2.2.2.1 s.2.2.2.2.2.1 s.2.2.2.2.2.2.1 s.2.2.2.2.2.2.2∧(s.1=0∨((s.1=1∨s.1=5)∧s.2.2.1=V))∧Blk wx g9 34 #[.int .i64 V.lg, .int .i64 V.nx, .int .i64 V.sq, .slice A10 V.fs.length c10]∧Own wx S 60 6 (.slice A10 V.fs.length c10) V.fs.length (fcs V.fs)) ?_ ?_
    ·skip
     refine Zsr ?_
     refine Zm ?_
     refine Zm ?_
     have h0:=fun wx (hx:Below B wr wx)=>(hx.cell (p:=(ad.add (i*7)).add 0) (by rw[block_of_add,block_of_add];omega)).trans (e5 0 _ rfl)
     have hbB:Below B wr _:=bel.mono (by omega)
     refine Zv (Runs.indexN rfl rfl rfl Tryz.underlying22 (s:=7) (by kernel_rfl) (j:=i) rfl (by omega)) ?_
     refine Zv (Runs.fieldA 0 rfl rfl Tryz.underlying44 rfl (by kernel_rfl)) ?_
     refine Zv (Runs.load1 rfl rfl Tryz.underlying3 rfl (h0 _ hbB)) ?_
     refine Zk8 0 5 6 8 9 10 39 49 (Zt (Cd.block (Zsr ?_)))
     refine Zqi ?_
     refine Za ?_
     refine Zk9 0 5 6 8 9 10 39 49 50 (Zt ?_)
     refine Cd.cond rfl (fun h=> ?_) (fun h=> ?_)
     ·have hcE:∀(j:Nat) (v:Value),[Value.int .i64 a.ed.lg, .int .i64 a.ed.nx, .int .i64 a.ed.sq, .slice A2 n2 c2, .slice A3 n3 c3][j]? =some v→World.cell? _ (((ad.add (i*7)).add 2).add j)=some v:=fun j v hj=>by
       rw[addr_add2]
       exact(hbB.cell (by rw[block_of_add,block_of_add];omega)).trans (e5 (2+j) v (by rw[Nat.add_comm];exact hj))
      refine Zr ?_
      refine Zm ?_
      refine Zm ?_
      refine Zm ?_
      refine Zv (Runs.indexN rfl rfl rfl Tryz.underlying22 (s:=7) (by kernel_rfl) (j:=i) rfl (by omega)) ?_
      refine Zv (Runs.fieldA 2 rfl rfl Tryz.underlying44 rfl (by kernel_rfl)) ?_
      refine Zv (Runs.loadF (ps:=[.int .i64 a.ed.lg, .int .i64 a.ed.nx, .int .i64 a.ed.sq, .slice A2 n2 c2, .slice A3 n3 c3]) rfl rfl Tryz.underlying42 rfl (m:=5) (by kernel_rfl) rfl hcE) ?_
      refine Zc (Ze Tryz.func12) (of_any a.ed.lg a.ed.nx a.ed.sq B n2 n3 c2 c3 A2 A3 a.ed.add _ (e7.below hbB) (Nat.le_trans (by omega) bel.size) (by omega)) ?_
      rintro e w12 ⟨hb12,A12,c12,rfl,ow12⟩
      refine⟨_,rfl,?_⟩
      have hbB2:=hbB.trans (hb12.mono (Nat.le_trans (show B≤wr.heap.size by omega) bel.size))
      replace gv:=gv.step hb12
      replace es:=es.step hb12
      replace mf:=mf.step hb12
      replace st:=st.step hb12
      replace bel:=bel.step hb12
      replace ow10:=ow10.step hb12
      replace k9:=k9.step hb12
      have hSw:=bel.size
      have hfrb:(framesN rs).length≤900000:=Nat.le_trans st.fr (Nat.le_trans (Nat.mul_le_mul_right _ (show i+1≤15 by omega)) (by decide))
      have hfew:=st.few
      have hrl:=st.rl
      refine Zc (Ze Tryz.func11) (log_any S gm gd gl gen V.fs.length c' n2 c2 n3 c12 D A' A2 A12 V a.ed rs _ gv hgS egm st.el st.k st.kl st.dk st.hm (by omega) (by omega) st.log st.own st.ver (hA.rng a (List.mem_of_getElem? ha)) rfl e3 e4 ((e6.below hbB2).more (by omega)) ow12.rdsN (by omega) (by omega) (by omega) hfrb) ?_
      rintro e w13 ⟨f13,r,rfl,hres⟩
      refine⟨_,rfl,?_⟩
      replace mf:=mf.mf f13
      replace gv:=gv.mf f13
      replace es:=es.mf f13
      replace k9:=k9.mf f13
      replace ow10:=ow10.mf f13
      refine Za ?_
      refine Zk9 0 5 6 8 9 10 39 49 50 (Post.block_normal ?_)
      rcases hres with ⟨hr15,dk',km',kl',ow'⟩|⟨rfl,V1,D',A1,c1,hap,hla,hm',hf',hlog',hkeep,dk',km',kl',ow'⟩
      ·exact Post.join (r,gen,V,rs,D,A',c',gl) ⟨rfl,rfl,rfl,rfl,rfl,rfl,trivial⟩ ⟨mf,gv,es,FullSt.more ⟨km',kl',ow',dk',st.el,st.hm,st.few,st.gen_,st.log,st.cur,st.ver,st.repl,st.ne,st.rl,st.fr⟩, .inr ⟨hr15,rfl⟩,k9,ow10⟩
      ·have hrng:=(hA.rng a (List.mem_of_getElem? ha)).raised st.ver
       obtain⟨hbb,hbl,x,hx,hxe⟩:=EdV.back hrng hla
       have hcu:curN≠lgN gen:=fun e=>by
        have:=congrArg genOf e
        rw[genOf_lg (by omega),genOf_cur] at this
        omega
       have hca:curN≠akN gen:=fun e=>by
        have:=congrArg genOf e
        rw[genOf_ak (by omega),genOf_cur] at this
        omega
       have hfr2:(framesN (rs++[(a.ed.raised V).bytes])).length≤(i+1+1)*24012:=by
        rw[framesN_app,List.length_append,framesN_one,frameN_len]
        have:=st.fr
        rw[Nat.add_mul (i+1) 1]
        omega
       have st':FullSt S gd gm w13 (i+1) gen V1 (rs++[(a.ed.raised V).bytes]) D' A1 c1 gl:=⟨km',kl',ow',dk',st.el,hm',by omega,by omega,hlog',by rw[hkeep _ hcu hca];exact st.cur,st.ver.app hrng hap,st.repl.snoc hx (by rw[hxe];exact hrng) (by rw[hxe];exact hap),by simp,by rw[List.length_append];simp;omega,hfr2⟩
       exact Post.join (0,gen,V1,rs++[(a.ed.raised V).bytes],D',A1,c1,gl) ⟨rfl,rfl,rfl,rfl,rfl,rfl,trivial⟩ ⟨mf,gv,es,st', .inl rfl,k9,ow10⟩
     ·skip
      refine Zsr ?_
      refine Zqi ?_
      refine Za ?_
      refine Zk10 0 5 6 8 9 10 39 49 50 60 (Zt ?_)
      refine Cd.cond rfl (fun h=> ?_) (fun h=> ?_)
      ·skip
       refine Zr ?_
       refine Zm ?_
       have hfew:=st.few
       have hrl:=st.rl
       refine Zc (Ze Tryz.func13) (roll_any S gm gd gl gen V.fs.length c' D A' V rs _ gv es hgS heS egm st.el st.k st.kl st.dk st.hm (by omega) (by omega) st.log st.cur st.own st.ver rfl) ?_
       rintro e w13 ⟨f13,r,D',rfl,dk',hm',hf',ow',hres⟩
       refine⟨_,rfl,?_⟩
       replace mf:=mf.mf f13
       replace gv:=gv.mf f13
       replace es:=es.mf f13
       replace k9:=k9.mf f13
       replace ow10:=ow10.mf f13
       refine Za ?_
       refine Zk10 0 5 6 8 9 10 39 49 50 60 (Post.block_normal ?_)
       rcases hres with ⟨hr15,hlog',hcur',km',kl'⟩|⟨rfl,hla,hlog',hcur',gl',el',km',kl'⟩
       ·have st':FullSt S gd gm w13 (i+1) gen V rs D' A' c' gl:=⟨km',kl',ow',dk',st.el,hm',by omega,by omega,hlog',hcur',st.ver,st.repl,st.ne,by omega,Nat.le_trans st.fr (Nat.mul_le_mul_right _ (Nat.le_succ _))⟩
        exact Post.join (r,gen,V,rs,D',A',c',gl) ⟨rfl,rfl,rfl,rfl,rfl,rfl,trivial⟩ ⟨mf,gv,es,st', .inr ⟨hr15,rfl⟩,k9,ow10⟩
       ·obtain⟨hbb,hbl,x,hx,hxe⟩:=EdV.back st.ver.whole hla
        have hfr2:(framesN [V.whole.bytes]).length≤(i+1+1)*24012:=by
         rw[framesN_one,frameN_len]
         rw[Nat.add_mul (i+1) 1]
         omega
        have st':FullSt S gd gm w13 (i+1) (gen+1) V [V.whole.bytes] D' A' c' gl':=⟨km',kl',ow',dk',el',hm',by omega,by omega,hlog',hcur',st.ver,⟨x,V,hx,by rw[hxe];exact st.ver.whole,by rw[hxe];exact st.ver.again hla,rfl⟩,by simp,by simp,hfr2⟩
        exact Post.join (0,gen+1,V,[V.whole.bytes],D',A',c',gl') ⟨rfl,rfl,rfl,rfl,rfl,rfl,trivial⟩ ⟨mf,gv,es,st', .inl rfl,k9,ow10⟩
      ·skip
       refine Cd.skip (Post.block_normal ?_)
       exact Post.join (0,gen,V,rs,D,A',c',gl) ⟨rfl,rfl,rfl,rfl,rfl,rfl,trivial⟩ ⟨mf,gv,es,st.more, .inl rfl,k9,ow10⟩
    clear mf gv es st k9 ow10 bel
    rintro⟨r,gen',V',rs',D',A'',c'',gl'⟩ wx ⟨mf,gv,es,st,hr,k9,ow10⟩
    simp only at st hr
    show Cd _ _ _ _ [(0, .slice (some ad) n c),(5, .pointer (some ⟨gd,0,none⟩)),(6, .pointer (some ⟨gm,0,none⟩)),(8, .int .i64 (i:Int)),(9, .pointer (some ⟨g9,0,none⟩)),(10, .int .i64 r)] _
    obtain⟨-,-,-,hV100'⟩:=right_nums st.ver.right
    have hSx:S≤wx.heap.size:=by have:=mf.size;omega
    rcases hr with rfl|⟨rfl|rfl,hVV⟩
    ·skip
     refine Cd.seq ?_
     refine Zdr 22 ?_
     intro w3 hw3 zw3
     replace gv:=gv.step hw3
     replace es:=es.step hw3
     replace mf:=mf.step hw3
     replace st:=st.step hw3
     replace ow10:=ow10.step hw3
     replace k9:=k9.step hw3
     have zlt:=k9.lt
     refine Zdm ?_
     refine Zd (fun w hG=>(Runs.neqI rfl rfl rfl).isF (by decide)) ?_
     refine Zdm ?_
     refine Zds ?_
     refine Zds ?_
     refine Zds ?_
     refine Zds ?_
     refine Zds ?_
     refine Zds ?_
     refine Zd (fun w hG=>Runs.pickF rfl rfl rfl) ?_
     refine Zdm ?_
     refine Zdg (fun w hG=>Runs.move rfl rfl) ?_
     refine Zdg (fun w hG=>(Runs.neqI rfl rfl rfl).isF (by decide)) ?_
     refine Zdg (fun w hG=>Runs.move rfl rfl) ?_
     refine Zds ?_
     refine Zds ?_
     refine Zdg (fun w hG=>Runs.pickF rfl rfl rfl) ?_
     refine Zdg (fun w hG=>Runs.move rfl rfl) ?_
     refine Zds ?_
     refine Zds ?_
     refine Zdg (fun w hG=>Runs.pickF rfl rfl rfl) ?_
     refine Zd (fun w hG=>Runs.pickF rfl rfl rfl) ?_
     refine Dr.nil ?_
     refine FinX.done (F':=[(0,_),(5,_),(6,_),(8,_),(9,_),(10,_),(85,_)]) rfl ⟨rfl,rfl,rfl,rfl,rfl,rfl,rfl,trivial⟩ ?_
     intro w4 hw4 fw4
     replace gv:=gv.step hw4
     replace es:=es.step hw4
     replace mf:=mf.step hw4
     replace st:=st.step hw4
     replace ow10:=ow10.step hw4
     replace k9:=k9.step hw4
     refine Zk7 0 5 6 8 9 10 85 (Zt ?_)
     refine Cd.condF rfl rfl ?_
     refine Cd.skip (Post.block_normal (Ztr ?_))
     refine Zm ?_
     refine Za_ ?_
     refine Za ?_
     refine Zk7 0 5 6 8 9 10 85 ?_
     exact Post.round (i+1,gen',V',rs',D',A'',c'',gl') ⟨rfl,rfl,rfl,int_at (by omega),trivial⟩ ⟨by simp only;omega,mf,gv,es,st⟩ (by simp only;omega)
    ·rw[←hVV] at k9 ow10
     refine Cd.seq ?_
     refine Zdr 22 ?_
     intro w3 hw3 zw3
     replace gv:=gv.step hw3
     replace es:=es.step hw3
     replace mf:=mf.step hw3
     replace st:=st.step hw3
     replace ow10:=ow10.step hw3
     replace k9:=k9.step hw3
     have zlt:=k9.lt
     replace hSx:S≤_:=Nat.le_trans hSx hw3.size
     refine Zdm ?_
     refine Zd (fun w hG=>(Runs.neqI rfl rfl rfl).isT (by decide)) ?_
     refine Zdm ?_
     refine Zdg (fun w hG=>Runs.move rfl rfl) ?_
     refine Dr.callG (Φ:=VrO S V'.fs.length V'.lg V'.nx V'.sq V'.fs) rfl (fun w=>Ze Tryz.func10) rfl rfl rfl (VrO.stable) (fun w hG=>(version_any gm V'.fs.length c'' S A'' V'.fs _ _ _ _ V'.lg V'.nx V'.sq V'.nx w (st.step hG).k (st.step hG).own (by omega)).mono fun e w' ⟨h1,v,h2,h3⟩=>by obtain⟨Aq,cq,rfl,-⟩:=h3.reads;exact⟨_,h2,h1,Aq,cq,rfl,h3.mono (Nat.le_trans hSx hG.size)⟩) ?_
     refine Dr.call1G (j:=4) (Φ:=BkO S V'.fs.length V'.lg V'.nx V'.sq V'.fs) rfl rfl rfl (fun u w=>Ze Tryz.func9) rfl rfl (fun _=>rfl) (BkO.stable) (fun u w hG hu=>by obtain⟨Aq,cq,rfl,h3⟩:=hu;exact(back_any V'.fs.length cq _ Aq V'.fs V'.lg V'.nx V'.sq w h3.rdsN (Nat.le_refl _) (by omega)).mono fun e w' ⟨h4,v,h5,h6⟩=>by obtain⟨Aq2,cq2,rfl,-⟩:=h6.reads;exact⟨_,h5,h4,Aq2,cq2,rfl,h6.mono (Nat.le_trans hSx hG.size)⟩) ?_
     refine Zdg (fun w hG=>(Runs.loadW rfl rfl Tryz.underlying34 rfl (k9.step hG) (m:=4) (by kernel_rfl) rfl)) ?_
     refine Dr.call1VG (j:=5) rfl rfl rfl (fun u w=>Ze Tryz.func14) rfl rfl (fun _=>rfl) (fun u w hG hu=>by obtain⟨Aq,cq,rfl,h3⟩:=hu;exact refSame_any V'.fs.length cq c10 _ Aq A10 V'.fs V'.lg V'.nx V'.sq w h3.rdsN (ow10.step hG).rdsN (Nat.le_refl _) (by omega)) ?_
     refine Zdg (fun w hG=>Runs.not rfl rfl) ?_
     refine Zd (fun w hG=>Runs.pickT rfl rfl rfl) ?_
     refine Zdm ?_
     refine Zdg (fun w hG=>Runs.move rfl rfl) ?_
     refine Zdg (fun w hG=>(Runs.neqI rfl rfl rfl).isT (by decide)) ?_
     refine Zdg (fun w hG=>Runs.move rfl rfl) ?_
     refine Zdg (fun w hG=>Runs.move rfl rfl) ?_
     refine Zdg (fun w hG=>(Runs.neqI rfl rfl rfl).isT (by decide)) ?_
     refine Zdg (fun w hG=>Runs.pickT rfl rfl rfl) ?_
     refine Zdg (fun w hG=>Runs.move rfl rfl) ?_
     refine Zdg (fun w hG=>Runs.move rfl rfl) ?_
     refine Zdg (fun w hG=>(Runs.neqI rfl rfl rfl).isF (by decide)) ?_
     refine Zdg (fun w hG=>Runs.pickT rfl rfl rfl) ?_
     refine Zd (fun w hG=>Runs.pickF rfl rfl rfl) ?_
     refine Dr.nil ?_
     refine FinX.done (F':=[(0,_),(5,_),(6,_),(8,_),(9,_),(10,_),(85,_)]) rfl ⟨rfl,rfl,rfl,rfl,rfl,rfl,rfl,trivial⟩ ?_
     intro w4 hw4 fw4
     replace gv:=gv.step hw4
     replace es:=es.step hw4
     replace mf:=mf.step hw4
     replace st:=st.step hw4
     replace ow10:=ow10.step hw4
     replace k9:=k9.step hw4
     refine Zk7 0 5 6 8 9 10 85 (Zt ?_)
     refine Cd.condF rfl rfl ?_
     refine Cd.skip (Post.block_normal (Ztr ?_))
     refine Zm ?_
     refine Za_ ?_
     refine Za ?_
     refine Zk7 0 5 6 8 9 10 85 ?_
     exact Post.round (i+1,gen',V',rs',D',A'',c'',gl') ⟨rfl,rfl,rfl,int_at (by omega),trivial⟩ ⟨by simp only;omega,mf,gv,es,st⟩ (by simp only;omega)
    ·rw[←hVV] at k9 ow10
     refine Cd.seq ?_
     refine Zdr 22 ?_
     intro w3 hw3 zw3
     replace gv:=gv.step hw3
     replace es:=es.step hw3
     replace mf:=mf.step hw3
     replace st:=st.step hw3
     replace ow10:=ow10.step hw3
     replace k9:=k9.step hw3
     have zlt:=k9.lt
     replace hSx:S≤_:=Nat.le_trans hSx hw3.size
     refine Zdm ?_
     refine Zd (fun w hG=>(Runs.neqI rfl rfl rfl).isT (by decide)) ?_
     refine Zdm ?_
     refine Zdg (fun w hG=>Runs.move rfl rfl) ?_
     refine Dr.callG (Φ:=VrO S V'.fs.length V'.lg V'.nx V'.sq V'.fs) rfl (fun w=>Ze Tryz.func10) rfl rfl rfl (VrO.stable) (fun w hG=>(version_any gm V'.fs.length c'' S A'' V'.fs _ _ _ _ V'.lg V'.nx V'.sq V'.nx w (st.step hG).k (st.step hG).own (by omega)).mono fun e w' ⟨h1,v,h2,h3⟩=>by obtain⟨Aq,cq,rfl,-⟩:=h3.reads;exact⟨_,h2,h1,Aq,cq,rfl,h3.mono (Nat.le_trans hSx hG.size)⟩) ?_
     refine Dr.call1G (j:=4) (Φ:=BkO S V'.fs.length V'.lg V'.nx V'.sq V'.fs) rfl rfl rfl (fun u w=>Ze Tryz.func9) rfl rfl (fun _=>rfl) (BkO.stable) (fun u w hG hu=>by obtain⟨Aq,cq,rfl,h3⟩:=hu;exact(back_any V'.fs.length cq _ Aq V'.fs V'.lg V'.nx V'.sq w h3.rdsN (Nat.le_refl _) (by omega)).mono fun e w' ⟨h4,v,h5,h6⟩=>by obtain⟨Aq2,cq2,rfl,-⟩:=h6.reads;exact⟨_,h5,h4,Aq2,cq2,rfl,h6.mono (Nat.le_trans hSx hG.size)⟩) ?_
     refine Zdg (fun w hG=>(Runs.loadW rfl rfl Tryz.underlying34 rfl (k9.step hG) (m:=4) (by kernel_rfl) rfl)) ?_
     refine Dr.call1VG (j:=5) rfl rfl rfl (fun u w=>Ze Tryz.func14) rfl rfl (fun _=>rfl) (fun u w hG hu=>by obtain⟨Aq,cq,rfl,h3⟩:=hu;exact refSame_any V'.fs.length cq c10 _ Aq A10 V'.fs V'.lg V'.nx V'.sq w h3.rdsN (ow10.step hG).rdsN (Nat.le_refl _) (by omega)) ?_
     refine Zdg (fun w hG=>Runs.not rfl rfl) ?_
     refine Zd (fun w hG=>Runs.pickT rfl rfl rfl) ?_
     refine Zdm ?_
     refine Zdg (fun w hG=>Runs.move rfl rfl) ?_
     refine Zdg (fun w hG=>(Runs.neqI rfl rfl rfl).isT (by decide)) ?_
     refine Zdg (fun w hG=>Runs.move rfl rfl) ?_
     refine Zdg (fun w hG=>Runs.move rfl rfl) ?_
     refine Zdg (fun w hG=>(Runs.neqI rfl rfl rfl).isF (by decide)) ?_
     refine Zdg (fun w hG=>Runs.pickT rfl rfl rfl) ?_
     refine Zdg (fun w hG=>Runs.move rfl rfl) ?_
     refine Zds ?_
     refine Zds ?_
     refine Zdg (fun w hG=>Runs.pickF rfl rfl rfl) ?_
     refine Zd (fun w hG=>Runs.pickF rfl rfl rfl) ?_
     refine Dr.nil ?_
     refine FinX.done (F':=[(0,_),(5,_),(6,_),(8,_),(9,_),(10,_),(85,_)]) rfl ⟨rfl,rfl,rfl,rfl,rfl,rfl,rfl,trivial⟩ ?_
     intro w4 hw4 fw4
     replace gv:=gv.step hw4
     replace es:=es.step hw4
     replace mf:=mf.step hw4
     replace st:=st.step hw4
     replace ow10:=ow10.step hw4
     replace k9:=k9.step hw4
     refine Zk7 0 5 6 8 9 10 85 (Zt ?_)
     refine Cd.condF rfl rfl ?_
     refine Cd.skip (Post.block_normal (Ztr ?_))
     refine Zm ?_
     refine Za_ ?_
     refine Za ?_
     refine Zk7 0 5 6 8 9 10 85 ?_
     exact Post.round (i+1,gen',V',rs',D',A'',c'',gl') ⟨rfl,rfl,rfl,int_at (by omega),trivial⟩ ⟨by simp only;omega,mf,gv,es,st⟩ (by simp only;omega)
   ·obtain⟨-,-,-,hV100⟩:=right_nums st.ver.right
    have hgen:=st.gen_
    have hrl:=st.rl
    have bel:=Below.refl wr.heap.size wr
    refine Cd.exit (Post.then_exit (Post.round_exit (Post.block_exit (Ztq ?_))))
    refine Zm ?_
    refine Zc (Ze Tryz.func10) (version_any gm V.fs.length c' S A' V.fs _ _ _ _ V.lg V.nx V.sq V.nx _ st.k st.own (by omega)) ?_
    rintro e w9 ⟨hb9,v,rfl,ow9⟩
    refine⟨_,rfl,?_⟩
    replace gv:=gv.step hb9
    replace es:=es.step hb9
    replace mf:=mf.step hb9
    replace st:=st.step hb9
    replace bel:=bel.step hb9
    obtain⟨A9,c9,rfl,-⟩:=ow9.reads
    refine Zc (Ze Tryz.func9) (back_any V.fs.length c9 _ A9 V.fs V.lg V.nx V.sq _ ow9.rdsN (Nat.le_refl _) (by omega)) ?_
    rintro e w10 ⟨hb10,v,rfl,ow10⟩
    refine⟨_,rfl,?_⟩
    replace gv:=gv.step hb10
    replace es:=es.step hb10
    replace mf:=mf.step hb10
    replace st:=st.step hb10
    replace bel:=bel.step hb10
    obtain⟨A10,c10,rfl,-⟩:=ow10.reads
    replace ow10:=ow10.mono (B':=S) (by have:=hb9.size;omega)
    refine Zl zero_debentureref12_Version ?_
    intro g11 w1 n11
    have e11:=Nat.le_trans bel.size n11.ge
    replace gv:=gv.step n11.below
    replace es:=es.step n11.below
    replace mf:=mf.step n11.below
    replace st:=st.step n11.below
    replace bel:=bel.step n11.below
    replace ow10:=ow10.step n11.below
    have k11:=n11.blk
    refine Zo 4 k11 ?_
    intro w2 pw2
    replace gv:=gv.put k11 pw2 e11
    replace es:=es.put k11 pw2 e11
    replace mf:=mf.put k11 pw2 e11
    replace st:=st.put k11 pw2 e11
    replace bel:=bel.put k11 pw2 e11
    replace ow10:=ow10.put k11 pw2 e11
    replace k11:=pw2.blk
    refine Zk6 0 5 6 8 11 39 (Ztq ?_)
    refine Zm ?_
    replace k11:Blk _ g11 34 #[.int .i64 V.lg, .int .i64 V.nx, .int .i64 V.sq, .slice A10 V.fs.length c10]:=k11
    refine Zc (Ze Tryz.func8) (openM_any S gd gen D rs V _ gv es hgS heS st.dk st.hm (by omega) st.cur st.log st.ne (by omega) st.repl) ?_
    rintro e w11 ⟨gm2,gl2,A2,c2,rfl,km2,ow2,f11⟩
    refine⟨_,rfl,?_⟩
    replace mf:=mf.mf f11
    replace gv:=gv.mf f11
    replace es:=es.mf f11
    replace k11:=k11.mf f11
    replace ow10:=ow10.mf f11
    clear bel st
    have hSx:S≤w11.heap.size:=by have:=mf.size;omega
    refine Zm ?_
    refine Zx ?_
    refine Zx ?_
    refine Za ?_
    refine Za ?_
    refine Zk8 0 5 6 7 8 11 12 39 (Zts ?_)
    refine Cd.weak (F':=[(0,_),(5,_),(6,_),(7,_),(8,_),(11,_),(12,_),(39,_)]) ⟨rfl,rfl,rfl,rfl,rfl,rfl,rfl,rfl,trivial⟩ ?_
    refine Zdr 10 ?_
    intro w3 hw3 zw3
    replace gv:=gv.step hw3
    replace es:=es.step hw3
    replace mf:=mf.step hw3
    replace ow10:=ow10.step hw3
    replace k11:=k11.step hw3
    replace km2:=km2.step hw3
    replace ow2:=ow2.step hw3
    have zlt:=k11.lt
    replace hSx:S≤_:=Nat.le_trans hSx hw3.size
    refine Zdm ?_
    refine Zd (fun w hG=>(Runs.eqlI rfl rfl rfl).isT (by decide)) ?_
    refine Zdm ?_
    refine Zdg (fun w hG=>Runs.move rfl rfl) ?_
    refine Dr.callG (Φ:=VrO S V.fs.length V.lg V.nx V.sq V.fs) rfl (fun w=>Ze Tryz.func10) rfl rfl rfl (VrO.stable) (fun w hG=>(version_any gm2 V.fs.length c2 S A2 V.fs _ _ _ _ V.lg V.nx V.sq V.nx w (km2.step hG) (ow2.step hG) (by omega)).mono fun e w' ⟨h1,v,h2,h3⟩=>by obtain⟨Aq,cq,rfl,-⟩:=h3.reads;exact⟨_,h2,h1,Aq,cq,rfl,h3.mono (Nat.le_trans hSx hG.size)⟩) ?_
    refine Dr.call1G (j:=4) (Φ:=BkO S V.fs.length V.lg V.nx V.sq V.fs) rfl rfl rfl (fun u w=>Ze Tryz.func9) rfl rfl (fun _=>rfl) (BkO.stable) (fun u w hG hu=>by obtain⟨Aq,cq,rfl,h3⟩:=hu;exact(back_any V.fs.length cq _ Aq V.fs V.lg V.nx V.sq w h3.rdsN (Nat.le_refl _) (by omega)).mono fun e w' ⟨h4,v,h5,h6⟩=>by obtain⟨Aq2,cq2,rfl,-⟩:=h6.reads;exact⟨_,h5,h4,Aq2,cq2,rfl,h6.mono (Nat.le_trans hSx hG.size)⟩) ?_
    refine Zdg (fun w hG=>(Runs.loadW rfl rfl Tryz.underlying34 rfl (k11.step hG) (m:=4) (by kernel_rfl) rfl)) ?_
    refine Dr.call1VG (j:=5) rfl rfl rfl (fun u w=>Ze Tryz.func14) rfl rfl (fun _=>rfl) (fun u w hG hu=>by obtain⟨Aq,cq,rfl,h3⟩:=hu;exact refSame_any V.fs.length cq c10 _ Aq A10 V.fs V.lg V.nx V.sq w h3.rdsN (ow10.step hG).rdsN (Nat.le_refl _) (by omega)) ?_
    refine Zd (fun w hG=>Runs.pickT rfl rfl rfl) ?_
    refine Zd (fun w hG=>Runs.assign rfl rfl) ?_
    refine Dr.nil ?_
    refine FinX.done (F':=[(0,_),(4,_),(5,_),(6,_),(7,_),(8,_),(11,_),(12,_),(39,_)]) rfl ⟨rfl,rfl,rfl,rfl,rfl,rfl,rfl,rfl,rfl,trivial⟩ ?_
    intro w4 hw4 fw4
    replace gv:=gv.step hw4
    replace es:=es.step hw4
    replace mf:=mf.step hw4
    replace ow10:=ow10.step hw4
    replace k11:=k11.step hw4
    replace km2:=km2.step hw4
    replace ow2:=ow2.step hw4
    refine Zk9 0 4 5 6 7 8 11 12 39 (Zt (Cd.ret ?_))
    refine Ze1 ?_
    exact⟨rfl,bel0.trans ((mf.to (by omega)).mono hwS)⟩
end Go.Proofs.YtdpipgidpkmolaaGreatDoor
namespace Go.Proofs.YtdpipgidpkmolaaGreatDoor
open Go.ChangeShapes Go.WideShapes Go.ChangeAt Go.Deep Go.RowKit
theorem laid_tail {P:Program}{W:World}{x:String × DataW Unit}{rest:List (String × DataW Unit)}(h:laidMet P (x::rest) W):laidMet P rest W:=by
 obtain⟨ps,⟨g,t,cs,fuel,p,q,h1,h2,h3,h4,h5,rfl⟩,hn,hi⟩:=h
 exact⟨q,h5,(List.nodup_append.1 hn).2.1,fun b off hm=>hi b off (List.mem_append_right _ hm)⟩
def laidL:List (String × DataW Unit):=Rows.manifestNoneRow.laid
theorem gv_of_laid {W:World}(h:laidMetH Tryz.prog laidL W)(hs:W.ShapedOpen Tryz.prog):Gv W:=by
 rw[MakeChecks.laidMetH_plain _ _ _ (by kernel_rfl)] at h
 have h3:=laid_tail (laid_tail (show laidMet Tryz.prog (_::_::_) W from h))
 have tn:Lib.TabIs Tryz.prog W "debenture/crc.nibbles" .u32 (nibs.map Int.ofNat):=Lib.tabIs_of_head (rest:=_) (g:= 2) (by kernel_rfl) (by kernel_rfl) Tryz.underlying247 Tryz.underlying159 (by kernel_rfl) (by kernel_rfl) h3
 have tp:Lib.TabIs Tryz.prog W "internal/strconv.uint64pow10" .u64 Lib.pow10Tab:=Lib.tabIs_of_head (rest:=_) (g:= 1) (by kernel_rfl) (by kernel_rfl) Tryz.underlying244 Tryz.underlying164 (by kernel_rfl) (by kernel_rfl) (laid_tail h3)
 refine⟨⟨fun i hi=> ?_⟩,tp,cell_of_shapedOpen_int (t:=3) (zero:= #[.int .i64 0]) hs (of_decide_eq_true (by kernel_rfl)) (by kernel_rfl) rfl (by kernel_rfl) (by kernel_rfl) Tryz.underlying3⟩
 rw[tn.cell (g:= 2) (by kernel_rfl) i (by rw[List.length_map];exact hi)]
 congr 2
 have:∀i,i<16→(nibs.map Int.ofNat).getD i 0=((nibs.getD i 0:Nat):Int):=by decide
 exact this i hi
theorem choose_at {α:Type}(n:Nat)(p:Nat→α→Prop)(h:∀i,i<n→∃f,p i f):∃l:List α,l.length=n∧∀i f,l[i]? =some f→p i f:=by
 induction n with
 |zero=>exact⟨[],rfl,fun i f hf=>by simp at hf⟩
 |succ n ih=>
  obtain⟨l,hl,hp⟩:=ih fun i hi=>h i (by omega)
  obtain⟨x,hx⟩:=h n (by omega)
  refine⟨l++[x],by simp[hl],fun i f hf=> ?_⟩
  rcases Nat.lt_or_ge i l.length with h1|h1
  ·rw[List.getElem?_append_left h1] at hf
   exact hp i f hf
  ·rw[List.getElem?_append_right h1] at hf
   have h2:i-l.length=0:=by
    rcases Nat.eq_zero_or_pos (i-l.length) with h2|h2
    ·exact h2
    ·rw[List.getElem?_eq_none (by simp;omega)] at hf;cases hf
   rw[h2] at hf
   injection hf with hf
   subst hf
   have:i=n:=by omega
   subst this
   exact hx
set_option maxRecDepth 100000 in
theorem open_u16 {W:World}{base t:Nat}{v:Value}(hu:Tryz.prog.underlying t=some (.int .u16))(hv:Value.okWide Tryz.prog W .any base t v):∃n:Nat,v= .int .u16 (n:Int)∧n<65536:=by
 obtain⟨n,rfl,h0,h1⟩:=open_int hu hv
 have h2:(0:Int)≤n:=h0
 have e:IntKind.u16.max=65535:=by decide
 rw[e] at h1
 exact⟨n.toNat,by rw[Int.toNat_of_nonneg h2],by omega⟩
theorem lift_laid {H:Type}{enc:TypeId × Value→H}{a:Assume}{C:Checked}{os:Os}{f:FuncId}{fn:Func}{s:ChangeSpec}{X:World→Array Value→Prop}{apart fresh handsOn again:Bool}
  (hX:∀(w w':World) (args:Array Value),w.heap=w'.heap→X w args→X w' args) (own:ownKnob C.prog.godebug=none) (started:os.Started) (hi:C.prog.inits.idxOf? f=none) (hfn:C.prog.funcs[f]? =some fn)
  (wit:∃(w:World) (tape:Tape) (i:Input),w.os=os∧(w.forCall tape i).Shaped C.prog∧i.vars=[]∧Input.okWide C.prog (w.forCall tape i) .any w.heap.size f i∧
   ((s.pre enc C.prog fn [] apart (w.forCall tape i).memory i.args∧X (w.forCall tape i).memory i.args)∧sizedMet enc C.prog fn (OpenSpec.ofChange s) apart (w.forCall tape i).memory i.args)∧a.holds C.prog (lone (Frame.enter C.prog f i.args .normal) [] (w.forCall tape i)))
  (walk:∀(W:World) (base:Nat) (args:Array Value) (ds gs:List (DataW H)) (before:List MemPlace),(∀(j:Nat) t v,fn.params[j]? =some t→args[j]? =some v→Value.okWide C.prog W .any base t v)→
   DataW.Whole enc C.prog fn.params.toList s.vars apart W args.toList ds gs before→X W args→W.ShapedOpen C.prog→
   Calls C.prog f args W fun e W'=>∃v,e= .returned v∧s.post enc C.prog fn apart fresh handsOn again W args v W'):
  ReturnsInHanded a C os f .any (fun w args=>(s.pre enc C.prog fn [] apart w args∧X w args)∧sizedMet enc C.prog fn (OpenSpec.ofChange s) apart w args) (s.post enc C.prog fn apart fresh handsOn again):=by
 refine returnsInHanded_of_calls own started hi wit fun w tape i _ hsh _ hok hp _=> ?_
 obtain⟨⟨⟨ds,gs,before,hw,-⟩,hx⟩,-⟩:=hp
 obtain⟨_,_,_,fn',hfn',_,_,_,_,hval⟩:=hok
 obtain rfl:fn'=fn:=Option.some.inj (hfn'.symm.trans hfn)
 refine(walk _ _ _ ds gs before hval (DataW.Whole.of_heap (by rfl) hw) (hX _ _ _ (by rfl) hx) hsh).mono fun e W' he=> ?_
 obtain⟨v,rfl,hp⟩:=he
 exact ChangeSpec.post_blind hp
theorem own:ownKnob Tryz.prog.godebug=none:=by kernel_rfl
theorem laidOut:laidOutB Tryz.prog=true:=by kernel_rfl
theorem door_met (os:Os)(args:Array Value):laidMetH Tryz.prog laidL ((World.doorLaid Tryz.prog 67 os).forCall (fun _ _=>0) ⟨#[],args,[]⟩).memory:=
 laidMetH_of_parts3 (fuel:=8) (laidMet_of_run' 8 (by kernel_rfl) (by kernel_rfl)) (by kernel_rfl) (by kernel_rfl)
end Go.Proofs.YtdpipgidpkmolaaGreatDoor
namespace Go.Proofs.YtdpipgidpkmolaaGreatDoor
open Go.ChangeShapes Go.WideShapes Go.ChangeAt Go.Deep Go.RowKit
theorem iface_of_trod {P:Program}{w:World}{base fuel:Nat}{sp:Nat→Bool}{enc:TypeId × Value→Unit}{t:TypeId}{ms:Array String}{cs:List Value}{name:String}{d:DataW Unit}{p:List MemPlace}(ht:∃x,P.underlying t=some (.interface x))(h:DataW.trod enc P w base sp false fuel t cs=some (.iface name d,p)):∃u v,cs=[.iface u v]:=by
 obtain⟨x,ht⟩:=ht
 cases fuel with
 |zero=>simp[DataW.trod] at h
 |succ n=>
  unfold DataW.trod at h
  rw[ht] at h
  split at h<;>simp_all
theorem es_of_laid {W:World}(h:laidMetH Tryz.prog laidL W):Es W:=by
 rw[MakeChecks.laidMetH_plain _ _ _ (by kernel_rfl)] at h
 have h5:=laid_tail (laid_tail (laid_tail (laid_tail (laid_tail (show laidMet Tryz.prog (_::_::_::_::_::_) W from h)))))
 obtain⟨ps,⟨g',t',cs,fuel,p,q,hg',ht',hvar,hd,_,_⟩,_⟩:=(show laidMet Tryz.prog (("strconv.ErrSyntax",Rows.laid_strconv_ErrSyntax)::[]) W from h5)
 have hg:Tryz.prog.globalNamed "strconv.ErrSyntax" =some 3 :=by kernel_rfl
 have hty:(Tryz.prog.globals[3]?).map (·.type)=some 152:=by kernel_rfl
 obtain rfl:=Option.some.inj (hg.symm.trans hg')
 obtain rfl:=Option.some.inj (hty.symm.trans ht')
 obtain⟨u,v,hcs⟩:=iface_of_trod (ms:= #[]) ⟨_,Tryz.underlying152⟩ (show DataW.trod _ _ _ _ _ _ _ _ _=some (.iface _ _,p) from hd)
 refine⟨u,v,?_⟩
 have:=World.var?_cell hg hvar 0
 rw[this]
 have:cs= #[.iface u v]:=by rw[←hcs]
 rw[this]
 rfl
set_option maxRecDepth 100000 in
set_option maxHeartbeats 4000000 in
theorem open_acts13 {H:Type}{enc:TypeId × Value→H}{W:World}{base:Nat}{v:Value}{d:DataW H}{p:List MemPlace}(hv:Value.okWide Tryz.prog W .any base 22 v)
  (h:DataW.Trod enc Tryz.prog W 0 (fun _=>true) true 22 v d p):∃A len cap l,v= .slice A len cap∧ActsAt W W.heap.size A len l:=by
 obtain⟨A,len,cap,rfl⟩:=okWide_slice Tryz.underlying22 hv
 obtain⟨m,hm⟩:=h
 rcases open_slice Tryz.underlying22 hm with ⟨hcs,-⟩|⟨a,len',cap',k,n,D,Pl,hcs,-,hlc,-,hk,-,hf⟩
 ·simp[Value.cells] at hcs
  obtain⟨rfl,rfl,rfl⟩:=hcs
  exact⟨none,0,0,[],rfl,rfl,(by simp),fun i a ha=>by simp at ha⟩
 ·simp only[if_true] at hk
  simp[Value.cells] at hcs
  obtain⟨rfl,rfl,rfl⟩:=hcs
  have hC:Tryz.prog.cellsOf 44=7:=by kernel_rfl
  have hCE:Tryz.prog.cellsOf 42=5:=by kernel_rfl
  have ci:Tryz.prog.cellsOf 3=1:=by kernel_rfl
  have cd:Tryz.prog.cellsOf 40=1:=by kernel_rfl
  have cf:Tryz.prog.cellsOf 32=1:=by kernel_rfl
  rw[hC] at hf
  obtain⟨l,hl,hp⟩:=choose_at len (fun i (x:ActM)=>x.ed.rng∧∃A2 n2 c2 A3 n3 c3,x.ed.drop.length=n2∧x.ed.add.length=n3∧
   (∀(j:Nat) (v:Value),[Value.int .i64 x.kind, .int .i64 x.num, .int .i64 x.ed.lg, .int .i64 x.ed.nx, .int .i64 x.ed.sq, .slice A2 n2 c2, .slice A3 n3 c3][j]? =some v→W.cell? ((a.add (i*7)).add j)=some v)∧
   Reads W W.heap.size 1 A2 n2 (DI x.ed.drop)∧Reads W W.heap.size 6 A3 n3 (fcs x.ed.add)) fun i hi=>by
   obtain⟨cs',hc,ht⟩:=hf i (by omega)
   obtain⟨xs,n0,-,-,hlenc,hlen,hfj⟩:=DataW.trod_struct Tryz.underlying44 ht
   obtain⟨_,_,hat⟩:=World.cells?_some hc
   have hlenc:=hlenc.trans hC
   match cs',hlenc with
   | [c0,c1,c2,c3,c4,c5,c6],_=>
    match xs,hlen with
    | [y0,y1,y2],_=>
     have t0:=hfj 0 _ rfl
     have t1:=hfj 1 _ rfl
     have t2:=hfj 2 _ rfl
     simp[ci,hCE] at t0 t1 t2
     obtain⟨x0,e0,-,w0⟩:=DataW.trod_int Tryz.underlying3 t0
     obtain⟨x1,e1,-,w1⟩:=DataW.trod_int Tryz.underlying3 t1
     obtain⟨zs,n1,-,-,-,hlen2,hgj⟩:=DataW.trod_struct Tryz.underlying42 t2
     match zs,hlen2 with
     | [z0,z1,z2,z3,z4],_=>
      have s0:=hgj 0 _ rfl
      have s1:=hgj 1 _ rfl
      have s2:=hgj 2 _ rfl
      have s3:=hgj 3 _ rfl
      have s4:=hgj 4 _ rfl
      simp[ci,cd,cf] at s0 s1 s2 s3 s4
      obtain⟨x2,e2,-,w2⟩:=DataW.trod_int Tryz.underlying3 s0
      obtain⟨x3,e3,-,w3⟩:=DataW.trod_int Tryz.underlying3 s1
      obtain⟨x4,e4,-,w4⟩:=DataW.trod_int Tryz.underlying3 s2
      obtain⟨A2,n2,k2,drop,e5,r5,b5⟩:=open_dis s3
      obtain⟨A3,n3,k3,add,e6,r6,b6⟩:=open_fls s4
      simp at e0 e1 e2 e3 e4
      subst e0 e1 e2 e3 e4 e5 e6
      have hdl:drop.length=n2:=by have:=r5.1;simpa[DI] using this
      refine⟨⟨x0,x1,⟨x2,x3,x4,drop,add⟩⟩,⟨has64 w2,has64 w3,has64 w4,b5,b6⟩,A2,n2,k2,A3,n3,k3,hdl,r6.fl_len,fun j u hu=> ?_,r5,r6⟩
      have hj:j<7:=by have:=(List.getElem?_eq_some_iff.1 hu).1;simpa using this
      rw[hat (i:=j) (by omega)]
      exact hu
  refine⟨some a,len,cap,l,rfl,hl,fun x hx=> ?_,fun i x hx=> ?_⟩
  ·obtain⟨j,hj,rfl⟩:=List.getElem_of_mem hx
   exact(hp j _ (List.getElem?_eq_getElem hj)).1
  ·obtain⟨-,A2,n2,k2,A3,n3,k3,q1,q2,q3,q4,q5⟩:=hp i x hx
   refine⟨a,A2,n2,k2,A3,n3,k3,rfl,?_,q1,q2,q3,q4,q5⟩
   have:=World.block_lt_of_cell? W _ (q3 0 _ rfl)
   rwa [block_of_add,block_of_add] at this
end Go.Proofs.YtdpipgidpkmolaaGreatDoor
