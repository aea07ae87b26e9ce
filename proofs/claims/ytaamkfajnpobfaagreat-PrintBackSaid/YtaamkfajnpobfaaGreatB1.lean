/-
  Texts that were joined: StrA, StrB, TMul, TNumD, TNumT, TNumQ, LexSpec, LexA, LexB, TreA, TreB, TreC, TreD, LexC, LexD, LexE, LexF, LexG, LexH. Conditions: what each theorem names.
-/
import Derived.Test.YtaamkfajnpobfaaGreatB0
import Derived.Lib.Builder
import Derived.Lib.UnsafeStr
import Derived.Handy
import Derived.Deep.Light
set_option linter.unusedSectionVars false
namespace Go.Proofs.YtaamkfajnpobfaaGreat
open Go.RowKit
theorem Runs.nilCheck {P:Program}{E:Operand→Option Value}{o:Oper}{w:World}{x:Operand}{ad:Addr}(ho:o.op= .nilCheck x)(hx:E x=some (.pointer (some ad))):Runs P E o w (.pointer (some ad)) w:=fun ρ h=>by
 unfold execOp;simp only[ho];rw[h _ _ hx];rfl
theorem Runs.conv_ {P:Program}{E:Operand→Option Value}{o:Oper}{w w':World}{x:Operand}{T T':TypeId}{u v:Value}(ho:o.op= .convert T T' x)(hx:E x=some u)(hr:(convert T T' u).run P w= .ok v w'):Runs P E o w v w':=fun ρ h=>by
 unfold execOp;simp only[ho];rw[h _ _ hx];simp only[Sem.run_bind,hr,Result.andThen_ok];rfl
structure Wt (B:Nat)(w w':World):Prop where
 below:Below (min B w.heap.size) w w'
 keep:∀k t cs,Blk w k t cs→t≠129→t≠5→Blk w' k t cs
section
variable {B:Nat} {w w' w'':World}
theorem Wt.refl (B:Nat)(w:World):Wt B w w:=⟨Below.refl _ _,fun _ _ _ h _ _=>h⟩
theorem Wt.trans (h:Wt B w w')(k:Wt B w' w''):Wt B w w'':=⟨h.below.trans (k.below.mono (by have:=h.below.size;omega)),fun i t cs hb h1 h2=>k.keep i t cs (h.keep i t cs hb h1 h2) h1 h2⟩
theorem Wt.grow (h:Below w.heap.size w w'):Wt B w w':=⟨h.mono (Nat.min_le_right _ _),fun _ _ _ hb _ _=>hb.step h⟩
theorem Wt.step (h:Wt B w w')(k:Below w'.heap.size w' w''):Wt B w w'':=h.trans (Wt.grow k)
theorem Wt.wt (h:Wt B w w')(k:Wt B w' w''):Wt B w w'':=h.trans k
theorem Wt.to (h:Wt B w w')(hB:B≤w.heap.size):Below B w w':=by have:=h.below;rwa [Nat.min_eq_left hB] at this
theorem Wt.put0 {g:Nat}{T:TypeId}{cur cs:Array Value}(h:Wt B w w')(k:Blk w' g T cur)(p:Put w' w'' g T cs)(hB:B≤g)(hT:T=129∨T=5):Wt B w w'':=
 h.trans ⟨(p.below hB k.lt).mono (Nat.min_le_left _ _),fun i t cs hb h1 h2=>hb.put p (hb.ne k (by rcases hT with rfl|rfl<;>assumption))⟩
theorem Wt.put {g:Nat}{T:TypeId}{cur cs:Array Value}(h:Wt B w w')(k:Blk w' g T cur)(p:Put w' w'' g T cs)(e:w.heap.size≤g):Wt B w w'':=
 ⟨h.below.trans (p.below (by omega) k.lt),fun i t cs hb h1 h2=>(h.keep i t cs hb h1 h2).put p (by have:=hb.lt;omega)⟩
theorem Blk.wt {k:Nat}{t:TypeId}{cs:Array Value}(h:Blk w k t cs)(f:Wt B w w')(h1:t≠129:=by decide)(h2:t≠5:=by decide):Blk w' k t cs:=f.keep k t cs h h1 h2
theorem App.wt {n:Nat}{v:Value}{xs:List Value}(h:App w w' B v)(o:Own w B 5 1 v n xs):Wt B w w':=
 ⟨h.below.mono (Nat.min_le_left _ _),fun i t cs hb _ h2=>hb.grown h.grown (fun e=>own_blk_ne o.row hb (fun e=>h2 e.symm) e.symm)⟩
end
structure Bw (w:World)(B g:Nat)(bs:List Nat):Prop where
 ge:B≤g
 bytes:∀d∈bs,d<256
 cell:∃p v,(p= .pointer none∨p= .pointer (some ⟨g,0,none⟩))∧Blk w g 129 #[p,v]∧Own w B 5 1 v bs.length (Bt bs)∧(bs=[]→v= .slice none 0 0)
theorem Bw.size {w:World}{B g:Nat}{bs:List Nat}(h:Bw w B g bs):B≤w.heap.size:=by
 obtain⟨p,v,-,hb,-⟩:=h.cell
 have:=hb.lt
 have:=h.ge
 omega
theorem Bw.step {w w':World}{B g:Nat}{bs:List Nat}(h:Bw w B g bs)(k:Below w.heap.size w w'):Bw w' B g bs:=by
 obtain⟨p,v,hp,hb,ho,hz⟩:=h.cell
 exact⟨h.ge,h.bytes,p,v,hp,hb.step k,ho.step k,hz⟩
theorem Bw.put {w w':World}{B B' g g':Nat}{bs:List Nat}{T:TypeId}{cur cs:Array Value}(h:Bw w B g bs)(k:Blk w g' T cur)(p:Put w w' g' T cs)(_e:B'≤g')(h1:129≠T:=by decide)(h2:5≠T:=by decide):Bw w' B g bs:=by
 obtain⟨q,v,hp,hb,ho,hz⟩:=h.cell
 exact⟨h.ge,h.bytes,q,v,hp,hb.put p (hb.ne k h1),ho.put k p _e h2,hz⟩
theorem noEscape_here (x:Value)(w:World):(callFunc 154 [x].toArray).run Tryz.prog w= .ok (.value x) w:=by
 rw[run_callFunc_extern Tryz.func154 (by kernel_rfl) (by kernel_rfl) (by kernel_rfl) (e:=Extern.AbiNoEscape.same) (by kernel_rfl),Lib.run_noEscape]
 rfl
theorem copyCheck_any (B g:Nat)(bs:List Nat)(w:World)(h:Bw w B g bs):Calls Tryz.prog 123 #[.pointer (some ⟨g,0,none⟩)] w fun e w'=>e= .returned (.tuple #[])∧Wt B w w'∧Bw w' B g bs:=by
 obtain⟨p,v,hp,k0,own,hz⟩:=h.cell
 have k00:=k0
 have hsh:∀W p,Blk W g 129 #[p,v]→W.shape? g=some (129,2):=fun W p hb=>by
  have hb:W.heap[g]? =some (.cells #[p,v] 129 (0,0)):=hb
  simp[World.shape?,hb]
 obtain⟨j,hj,hjs⟩:=sizeIs_spec (P:=Tryz.prog) (t:=127) (n:=2) (by kernel_rfl)
 rcases hp with rfl|rfl
 ·have hto:=Lib.run_to_unsafe (P:=Tryz.prog) w (src:=124) (dst:=182) (a:=⟨g,0,none⟩) Tryz.underlying124 Tryz.underlying182 hj (by omega) (hsh w _ k0) (show(0:Nat)<2 by decide)
  have hfrom:=Lib.run_from_unsafe (P:=Tryz.prog) w (dst:=124) (src:=182) (a:=⟨g,0,none⟩) Tryz.underlying182 Tryz.underlying124 hj (hsh w _ k0) (by kernel_rfl)
  refine Zs 20 Tryz.func123 ?_
  refine Zsr ?_
  refine Zm ?_
  refine Zv (Runs.nilCheck rfl rfl) ?_
  refine Zf 0 Tryz.underlying127 ?_
  refine Zv (Runs.loadB rfl rfl Tryz.underlying124 rfl k0 rfl) ?_
  refine Zv (Runs.eqlP rfl rfl rfl Tryz.underlying124) ?_
  refine Zk2 0 6 (Zt ?_)
  refine Cd.condT rfl rfl ?_
  refine Zr ?_
  refine Zm ?_
  refine Zm ?_
  refine Zv (Runs.conv_ rfl rfl hto) ?_
  refine Zv (Runs.here rfl rfl rfl (noEscape_here _ _)) ?_
  refine Zv (Runs.conv_ rfl rfl hfrom) ?_
  refine Zv (Runs.nilCheck rfl rfl) ?_
  refine Zf 0 Tryz.underlying127 ?_
  refine Zq k0 ?_
  intro w1 pw1
  replace k0:=pw1.blk
  refine Zk2 0 6 ?_
  refine Post.end0 rfl (.inr rfl) ?_
  exact⟨rfl,(Wt.refl B w).put0 k00 pw1 h.ge (.inl rfl),h.ge,h.bytes,_,v, .inr rfl,k0,own.put (B':=B) k00 pw1 h.ge,hz⟩
 ·refine Calls.start 20 Tryz.func123 rfl rfl rfl ?_
  refine Zsr ?_
  refine Zm ?_
  refine Zv (Runs.nilCheck rfl rfl) ?_
  refine Zf 0 Tryz.underlying127 ?_
  refine Zv (Runs.loadB rfl rfl Tryz.underlying124 rfl k0 rfl) ?_
  refine Zv (Runs.eqlP rfl rfl rfl Tryz.underlying124) ?_
  refine Zk2 0 6 (Zt ?_)
  refine Cd.condF rfl rfl ?_
  refine Zsr ?_
  refine Zm ?_
  refine Zv (Runs.nilCheck rfl rfl) ?_
  refine Zf 0 Tryz.underlying127 ?_
  refine Zv (Runs.loadB rfl rfl Tryz.underlying124 rfl k0 rfl) ?_
  refine Zm ?_
  refine Zv (Runs.bin rfl rfl rfl rfl (Lib.run_neq_ptr_same w _ Tryz.underlying124 hj)) ?_
  refine Zk3 0 6 19 (Zt ?_)
  refine Cd.condF rfl rfl ?_
  refine Cd.skip ?_
  refine Post.end0 rfl (.inr rfl) ?_
  exact⟨rfl,Wt.refl B w,h⟩
theorem strCells_Bt {s:List Nat}(hs:∀d∈s,d<256):Lib.strCells (strOf s)=Bt s:=by
 unfold Lib.strCells Bt
 rw[strOf_data,List.map_map]
 refine List.map_congr_left fun d hd=> ?_
 show Value.int .u8 ((UInt8.ofNat d).toNat:Int)= .int .u8 (d:Int)
 rw[ofNat_toNat (hs d hd)]
theorem Seq.appendS {P:Program}{ops:Array Oper}{Q:Exit→Act→World→Prop}{rest:List Oper}{o:Oper}{n d:Nat}{F:List (Nat × Value)}{w:World}{v:Value}{x y:Operand}{t u e B:Nat}{k:Nat}{xs:List Value}{s:List Nat}(ho:o.op= .call {callee:= .builtin .append,args:= #[x,y],argTypes:= #[t,u]}) (hx:evF F x=some v) (hy:evF F y=some (.string (strOf s))) (ht:P.underlying t=some (.slice e)) (hu:P.underlying u=some .string) (hs:sizeIs P e 1=true) (hz:zeroIs P e=some (some (.int .u8 0))) (hby:(P.info? e).map (·.bytes)=some 1)
  (hown:Own w B e 1 v k xs) (hsb:∀d∈s,d<256) (hB:B≤w.heap.size) (h63:k+s.length≤1000000000) (hg:o.guard=none) (hd:o.dst=some d) (hn:Nat.blt d n=true)
  (h:∀v' w',Own w' B e 1 v' (k+s.length) (xs++Bt s)→App w w' B v→(v'= .slice none 0 0↔v= .slice none 0 0∧s.length=0)→Seq P ops Q rest n ((d,v')::F) w'):Seq P ops Q (o::rest) n F w:=by
 obtain⟨i,hi,hisz⟩:=sizeIs_spec hs
 have hz':i.zero=some (.int .u8 0):=by unfold zeroIs at hz;rw[hi] at hz;injection hz
 have hb':i.bytes=1:=by rw[hi] at hby;injection hby
 obtain⟨v',w',hrun,h2,h3,h4⟩:=Lib.run_append_own_string (P:=P) w B t u o.type e i ht hu hi hz' hisz hb' v k xs hown.row (strOf s) (by rw[strOf_size];simp only[maxLen];omega) (by rw[strOf_size];omega) hB
 rw[strOf_size] at h2 h4
 rw[strCells_Bt hsb] at h2
 refine Seq.val (v:=v') (w':=w') (fun ρ hρ=> ?_) hg hd hn (h v' w' ⟨h2⟩ ⟨?_,h3⟩ h4)
 ·unfold execOp
  simp only[ho,resolve,invoke,builtin,Sem.run_bind,Sem.run_pure,Result.andThen_ok,List.map_toArray,List.map_cons,List.map_nil,hρ _ _ hx,hρ _ _ hy,hrun]
 ·refine⟨h3.os,h3.tape,h3.output,h3.size,fun j hj=>h3.block j (by omega) fun e'=> ?_⟩
  rcases hown.row.2 with ⟨rfl,_⟩|⟨g,cap,cur,rfl,hBg,_⟩
  ·cases e'
  ·injection e' with e'
   have:j=g:=e'
   omega
def WrRet (B g:Nat)(bs:List Nat)(w:World)(e:Ending)(w':World):Prop:=(∃v,e= .returned v)∧Wt B w w'∧Bw w' B g bs
theorem writeS_both (B g:Nat)(s bs:List Nat)(w:World)(h:Bw w B g bs)(hs:∀d∈s,d<256)(hl:bs.length+s.length≤1000000000):
  Calls Tryz.prog 82 #[.pointer (some ⟨g,0,none⟩), .string (strOf s)] w (WrRet B g (bs++s) w)∧∀u,CallsD Tryz.prog 82 #[.pointer (some ⟨g,0,none⟩), .string (strOf s)] u w fun e u' w'=>u'=u∧WrRet B g (bs++s) w e w':=by
 have wt:=Wt.refl B w
 have wr:=h
 refine(fun key=>⟨Calls.start 19 Tryz.func82 rfl rfl rfl key,fun u=>CallsD.start 19 Tryz.func82 rfl rfl rfl key⟩) ?_
 refine Zsr ?_
 refine Za ?_
 refine Za ?_
 refine Zk4 0 1 4 5 (Ztq ?_)
 refine Zm ?_
 refine Zc (Ze Tryz.func123) (copyCheck_any B g bs _ wr) ?_
 clear wr
 rintro e w1 ⟨rfl,fw1,wr⟩
 refine⟨_,rfl,?_⟩
 replace wt:=wt.wt fw1
 obtain⟨p,v,hp,k0,own,hz⟩:=wr.cell
 refine Zk4 0 1 4 5 (Ztq ?_)
 refine Zm ?_
 refine Zm ?_
 refine Zv (Runs.nilCheck rfl rfl) ?_
 refine Zf 1 Tryz.underlying127 ?_
 refine Zv (Runs.loadB rfl rfl Tryz.underlying125 rfl k0 rfl) ?_
 refine Zm ?_
 refine Seq.appendS rfl rfl rfl Tryz.underlying125 Tryz.underlying9 (by kernel_rfl) zero_uint8 (by kernel_rfl) own hs wr.size hl rfl rfl rfl ?_
 intro v2 w2 own2 ha2 hv2
 have k1:=k0.grown ha2.grown (fun e=>own_blk_ne own.row k0 (by decide) e.symm)
 have wt2:=wt.trans (ha2.wt own)
 clear k0 wt
 have k0:=k1
 have wt:=wt2
 obtain⟨A2,c2,rfl,-⟩:=own2.reads
 refine Zv (Runs.nilCheck rfl rfl) ?_
 refine Zf 1 Tryz.underlying127 ?_
 refine Zq k0 ?_
 intro w2 pw2
 replace k0:=pw2.blk
 refine Zk4 0 1 4 5 (Ztq ?_)
 refine Zm ?_
 refine Zv (Runs.lenL rfl rfl Tryz.underlying9) ?_
 refine Za ?_
 refine Za ?_
 refine Zk4 0 1 4 5 (Zt (Cd.ret ?_))
 refine Post.end2 rfl rfl rfl (.inl rfl) ?_
 refine⟨⟨_,rfl⟩,wt.put0 k1 pw2 h.ge (.inl rfl),h.ge,fun d hd=> ?_,p,_,hp,k0,?_,fun hnil=> ?_⟩
 ·rcases List.mem_append.1 hd with hd|hd
  ·exact h.bytes d hd
  ·exact hs d hd
 ·rw[Bt_append,List.length_append]
  exact own2.put (B':=B) k1 pw2 h.ge
 ·rw[hv2]
  have:=congrArg List.length hnil
  simp at this
  exact⟨hz this.1,by rw[this.2];rfl⟩
theorem blen_any (B g:Nat)(bs:List Nat)(w:World)(h:Bw w B g bs):Calls Tryz.prog 79 #[.pointer (some ⟨g,0,none⟩)] w fun e w'=>e= .returned (.int .i64 (bs.length:Int))∧Grow w w':=by
 obtain⟨p,v,hp,k0,own,hz⟩:=h.cell
 have bel:=Below.refl w.heap.size w
 obtain⟨A,c,rfl,-⟩:=own.reads
 refine Zs 8 Tryz.func79 ?_
 refine Zsr ?_
 refine Za ?_
 refine Zk2 0 2 (Ztq ?_)
 refine Zm ?_
 refine Zv (Runs.nilCheck rfl rfl) ?_
 refine Zf 1 Tryz.underlying127 ?_
 refine Zv (Runs.loadB rfl rfl Tryz.underlying125 rfl k0 rfl) ?_
 refine Zv (Runs.len rfl rfl Tryz.underlying125) ?_
 refine Za ?_
 refine Zk2 0 2 (Zt (Cd.ret ?_))
 refine Post.end1 rfl rfl (.inl rfl) ?_
 exact⟨rfl,bel⟩
end Go.Proofs.YtaamkfajnpobfaaGreat
namespace Go.Proofs.YtaamkfajnpobfaaGreat
open Go.RowKit
theorem Own.form1 {w:World}{B n:Nat}{e:TypeId}{v:Value}{xs:List Value}(h:Own w B e 1 v n xs)(h0:0<n):∃g cap cur,v= .slice (some ⟨g,0,none⟩) n cap∧B≤g∧Blk w g e cur∧n≤cap∧cur.size=cap∧∀(j:Nat) (x:Value),xs[j]? =some x→cur[j]? =some x:=by
 obtain⟨hl,⟨_,h1⟩|⟨g,cap,cur,h',h1,h2,h3,h4,h5,h6⟩⟩:=h.row
 ·omega
 ·refine⟨g,cap,cur,h',h1,h2,h3,by omega,fun j x hx=> ?_⟩
  rw[←h6] at hx
  have:cur.toList[j]? =some x:=by
   rw[List.getElem?_take] at hx
   split at hx
   ·exact hx
   ·cases hx
  simpa using this
theorem bstring_any (B g:Nat)(bs:List Nat)(w:World)(h:Bw w B g bs)(hl:bs.length≤1000000000):Calls Tryz.prog 80 #[.pointer (some ⟨g,0,none⟩)] w fun e w'=>e= .returned (.string (strOf bs))∧Below B w w':=by
 obtain⟨p,v,hp,k0,own,hz⟩:=h.cell
 have bel:=Below.refl w.heap.size w
 have hBw:=h.size
 rcases Nat.eq_zero_or_pos bs.length with h0|h0
 ·have hb:bs=[]:=List.eq_nil_of_length_eq_zero h0
  have hv:=hz hb
  subst hb hv
  refine Zs 14 Tryz.func80 ?_
  refine Zsr ?_
  refine Za ?_
  refine Zk2 0 2 (Zts ?_)
  refine Cd.draw 10 (by kernel_rfl) [] (.inl rfl) rfl Grow Grow.refl (fun _ _ _=>Grow.trans) ?_
  intro w1 hw1 zw1
  replace bel:=bel.step hw1
  replace k0:=k0.step hw1
  have zbel:=bel.size
  have zlt:=k0.lt
  refine Zdm ?_
  refine Zd (fun w hG=>Runs.nilCheck rfl rfl) ?_
  refine Zd (fun w hG=>Runs.fieldB 1 rfl rfl Tryz.underlying127 rfl (by kernel_rfl)) ?_
  refine Zd (fun w hG=>Runs.loadB rfl rfl Tryz.underlying125 rfl (k0.step hG) rfl) ?_
  refine Zd (fun w hG=>Runs.of_call (v:= .pointer none) rfl rfl (vs:=[.slice none 0 0]) rfl (fun cs=>by simp[builtin,Lib.run_unsafeSliceData_nil])) ?_
  refine Zdm ?_
  refine Zd (fun w hG=>Runs.nilCheck rfl rfl) ?_
  refine Zd (fun w hG=>Runs.fieldB 1 rfl rfl Tryz.underlying127 rfl (by kernel_rfl)) ?_
  refine Zd (fun w hG=>Runs.loadB rfl rfl Tryz.underlying125 rfl (k0.step hG) rfl) ?_
  refine Zd (fun w hG=>Runs.len rfl rfl Tryz.underlying125) ?_
  refine Dr.nil ?_
  refine FinX.done (F':=[(0,_),(2,_),(7,_),(12,_)]) rfl ⟨rfl,rfl,rfl,rfl,trivial⟩ ?_
  intro w2 hw2 fw2
  replace bel:=bel.step hw2
  replace k0:=k0.step hw2
  refine Zv (Runs.of_call (v:= .string (strOf [])) rfl rfl (vs:=[.pointer none, .int .i64 ((0:Nat):Int)]) rfl (fun cs=>by simp[builtin,Lib.run_unsafeString_none];exact⟨rfl,rfl⟩)) ?_
  refine Za ?_
  refine Zk2 0 2 (Zt (Cd.ret ?_))
  refine Post.end1 rfl rfl (.inl rfl) ?_
  exact⟨rfl,bel.mono hBw⟩
 ·obtain⟨gb,cap,cur,rfl,hgb,kb,hcap,hsz,hcur⟩:=own.form1 h0
  refine Zs 14 Tryz.func80 ?_
  refine Zsr ?_
  refine Za ?_
  refine Zk2 0 2 (Zts ?_)
  refine Cd.draw 10 (by kernel_rfl) [] (.inl rfl) rfl Grow Grow.refl (fun _ _ _=>Grow.trans) ?_
  intro w1 hw1 zw1
  replace bel:=bel.step hw1
  replace k0:=k0.step hw1
  replace kb:=kb.step hw1
  have zbel:=bel.size
  have zlt:=k0.lt
  refine Zdm ?_
  refine Zd (fun w hG=>Runs.nilCheck rfl rfl) ?_
  refine Zd (fun w hG=>Runs.fieldB 1 rfl rfl Tryz.underlying127 rfl (by kernel_rfl)) ?_
  refine Zd (fun w hG=>Runs.loadB rfl rfl Tryz.underlying125 rfl (k0.step hG) rfl) ?_
  refine Zd (fun w hG=>Runs.of_call (v:= .pointer (some ⟨gb,0,none⟩)) rfl rfl (vs:=[.slice (some ⟨gb,0,none⟩) bs.length cap]) rfl (fun cs=>by have:=Lib.run_unsafeSliceData_row (P:=Tryz.prog) w #[125] 161 ⟨gb,0,none⟩ bs.length cap (by omega);simp[builtin,this])) ?_
  refine Zdm ?_
  refine Zd (fun w hG=>Runs.nilCheck rfl rfl) ?_
  refine Zd (fun w hG=>Runs.fieldB 1 rfl rfl Tryz.underlying127 rfl (by kernel_rfl)) ?_
  refine Zd (fun w hG=>Runs.loadB rfl rfl Tryz.underlying125 rfl (k0.step hG) rfl) ?_
  refine Zd (fun w hG=>Runs.len rfl rfl Tryz.underlying125) ?_
  refine Dr.nil ?_
  refine FinX.done (F':=[(0,_),(2,_),(7,_),(12,_)]) rfl ⟨rfl,rfl,rfl,rfl,trivial⟩ ?_
  intro w2 hw2 fw2
  replace bel:=bel.step hw2
  replace k0:=k0.step hw2
  replace kb:=kb.step hw2
  have hsh:∀W,Blk W gb 5 cur→W.shape? gb=some (5,cap):=fun W hb=>by
   have hb:W.heap[gb]? =some (.cells cur 5 (0,0)):=hb
   simp[World.shape?,hb,hsz]
  have hcell:∀W,Blk W gb 5 cur→∀j x,(bs.map UInt8.ofNat)[j]? =some x→W.cell? ((⟨gb,0,none⟩:Addr).add j)=some (.int .u8 x.toNat):=fun W hb j x hx=>by
   have hadd:(⟨gb,0,none⟩:Addr).add j=⟨gb,j,none⟩:=by unfold Addr.add;split<;>simp_all
   rw[hadd,hb.cell j]
   rw[List.getElem?_map] at hx
   cases hbj:bs[j]? with
   |none=>rw[hbj] at hx;cases hx
   |some d=>
    rw[hbj] at hx
    injection hx with hx
    subst hx
    rw[ofNat_toNat (h.bytes d (List.mem_of_getElem? hbj))]
    exact hcur j _ (by rw[get_Bt,hbj];rfl)
  have hrun:=Lib.run_unsafeString_row (P:=Tryz.prog) _ 161 3 9 5 Tryz.underlying161 (by kernel_rfl) gb cap (hsh _ kb) (bs.map UInt8.ofNat) (by intro hn;rw[List.map_eq_nil_iff] at hn;rw[hn] at h0;simp at h0) (by simpa using hcap) (by simp;omega) (hcell _ kb)
  rw[List.length_map] at hrun
  refine Zv (Runs.of_call (v:= .string (strOf bs)) rfl rfl (vs:=[.pointer (some ⟨gb,0,none⟩), .int .i64 ((bs.length:Nat):Int)]) rfl (fun cs=>by simp[builtin,hrun];exact⟨rfl,rfl⟩)) ?_
  have bel2:=Lib.below_freeze (bel.mono hBw) (p:=⟨gb,0,none⟩) hgb bs.length
  refine Za ?_
  refine Zk2 0 2 (Zt (Cd.ret ?_))
  refine Post.end1 rfl rfl (.inl rfl) ?_
  exact⟨rfl,bel2⟩
end Go.Proofs.YtaamkfajnpobfaaGreat
namespace Go.Proofs.YtaamkfajnpobfaaGreat
open Go.RowKit
theorem mul64_hi (x y:Int)(hx0:0≤x)(hx:x<18446744073709551616)(hy0:0≤y)(hy:y<18446744073709551616):
  IntKind.u64.wrap (IntKind.u64.wrap (IntKind.u64.wrap (x/4294967296*(y/4294967296))+IntKind.u64.wrap (IntKind.u64.wrap (x/4294967296*bits BinOp.and IntKind.u64 y 4294967295)+
    IntKind.u64.wrap (bits BinOp.and IntKind.u64 x 4294967295*bits BinOp.and IntKind.u64 y 4294967295)/4294967296)/4294967296)+
   IntKind.u64.wrap (bits BinOp.and IntKind.u64 (IntKind.u64.wrap (IntKind.u64.wrap (x/4294967296*bits BinOp.and IntKind.u64 y 4294967295)+
    IntKind.u64.wrap (bits BinOp.and IntKind.u64 x 4294967295*bits BinOp.and IntKind.u64 y 4294967295)/4294967296)) 4294967295+
    IntKind.u64.wrap (bits BinOp.and IntKind.u64 x 4294967295*(y/4294967296)))/4294967296)=x*y/18446744073709551616:=by
 rw[and_low32 y hy0 hy,and_low32 x hx0 hx,and_low32 _ (by rw[wrap_u64];omega) (by rw[wrap_u64];omega)]
 simp only[wrap_u64]
 exact mul64_arith x y hx0 hx hy0 hy
def hiW (x y:Int):Int:=x*y/18446744073709551616
def loW (x y:Int):Int:=x*y%18446744073709551616
set_option maxHeartbeats 400000 in
theorem mul64_any (x y:Int)(w:World)(hx0:0≤x)(hx:x<18446744073709551616)(hy0:0≤y)(hy:y<18446744073709551616):
  Calls Tryz.prog 157 #[.int .u64 x, .int .u64 y] w fun e w'=>e= .returned (.tuple #[.int .u64 (hiW x y), .int .u64 (loW x y)])∧w=w':=by
 go_enter Tryz.func157,Tryz.ntmps157
 go_wp2
 go_ret2
 exact⟨ret2 (int_eq (mul64_hi x y hx0 hx hy0 hy)) (int_eq (wrap_u64 _)),rfl⟩
end Go.Proofs.YtaamkfajnpobfaaGreat
namespace Go.Proofs.YtaamkfajnpobfaaGreat
open Go.RowKit
theorem zero_num_wide:zeroIs Tryz.prog 199=some (some (.agg #[.int .u64 0, .int .u64 0, .bool false])):=by kernel_rfl
theorem size_nat (a:Int)(w:World)(h:I64 a):Calls Tryz.prog 124 #[.int .i64 a] w fun e w'=>e= .returned (.int .u64 (a.natAbs:Int))∧w=w':=by
 obtain⟨h0,h1⟩:=h
 refine Zs 10 Tryz.func124 ?_
 refine Zsr ?_
 refine Za ?_
 refine Zk2 0 2 (Zts (Zsr ?_))
 refine Zm ?_
 refine Zv (Runs.lss rfl rfl rfl) ?_
 refine Zk3 0 2 4 (Zt ?_)
 refine Cd.condD rfl (fun hc=> ?_) (fun hc=> ?_)
 ·skip
  refine Zsr ?_
  refine Zm ?_
  refine Zv (Runs.convI rfl rfl Tryz.underlying2 Tryz.underlying162 (wrap_u64 a)) ?_
  refine Zv (Runs.neg rfl rfl (r:=(a.natAbs:Int)) (by rw[wrap_u64];omega)) ?_
  refine Za ?_
  refine Zk3 0 2 4 (Zt (Cd.ret (Post.then_ret ?_)))
  refine Post.end1 rfl rfl (.inl rfl) ?_
  exact⟨rfl,rfl⟩
 ·skip
  refine Cd.skip (Ztq ?_)
  refine Zm ?_
  refine Zv (Runs.convI rfl rfl Tryz.underlying2 Tryz.underlying162 (r:=(a.natAbs:Int)) (by rw[wrap_u64];omega)) ?_
  refine Za ?_
  refine Zk3 0 2 4 (Zt (Cd.ret ?_))
  refine Post.end1 rfl rfl (.inl rfl) ?_
  exact⟨rfl,rfl⟩
theorem mul64_nat (x y:Nat)(w:World)(hx:x<18446744073709551616)(hy:y<18446744073709551616):
  Calls Tryz.prog 157 #[.int .u64 (x:Int), .int .u64 (y:Int)] w fun e w'=>e= .returned (.tuple #[.int .u64 ((x*y/18446744073709551616:Nat):Int), .int .u64 ((x*y%18446744073709551616:Nat):Int)])∧w=w':=
 (mul64_any x y w (by omega) (by omega) (by omega) (by omega)).mono fun e w' ⟨h1,h2⟩=>⟨by rw[h1];unfold hiW loW;rw[←Int.natCast_mul];rfl,h2⟩
def wideV (m:Nat)(neg:Bool):Value:= .agg #[.int .u64 ((m/18446744073709551616:Nat):Int), .int .u64 ((m%18446744073709551616:Nat):Int), .bool neg]
theorem run_build_wide (a b:Int)(c:Bool)(w:World):(Instr.build 199 #[(0, .int .u64 a),(1, .int .u64 b),(2, .bool c)]).run Tryz.prog w= .ok (.agg #[.int .u64 a, .int .u64 b, .bool c]) w:=by
 have hu:=Tryz.underlying199
 go_simp
theorem product_any (a b:Int)(w:World)(ha:I64 a)(hb:I64 b):
  Calls Tryz.prog 175 #[.int .i64 a, .int .i64 b] w fun e w'=>e= .returned (wideV (a.natAbs*b.natAbs) (decide (decide (a<0)≠decide (b<0))))∧Grow w w':=by
 have bel:=Below.refl w.heap.size w
 have ha2:a.natAbs<18446744073709551616:=by have:=ha.1;have:=ha.2;omega
 have hb2:b.natAbs<18446744073709551616:=by have:=hb.1;have:=hb.2;omega
 refine Zs 23 Tryz.func175 ?_
 refine Zsr ?_
 refine Zl zero_num_wide ?_
 intro g4 w1 n4
 have e4:=Nat.le_trans bel.size n4.ge
 replace bel:=bel.step n4.below
 have k4:=n4.blk
 refine Zk3 0 1 4 (Ztq ?_)
 refine Zm ?_
 refine Zc (Ze Tryz.func124) (size_nat _ _ ha) ?_
 rintro e w3 ⟨rfl,rfl⟩
 refine⟨_,rfl,?_⟩
 refine Zm ?_
 refine Zc (Ze Tryz.func124) (size_nat _ _ hb) ?_
 rintro e w3 ⟨rfl,rfl⟩
 refine⟨_,rfl,?_⟩
 refine Zc (Ze Tryz.func157) (mul64_nat _ _ _ ha2 hb2) ?_
 rintro e w3 ⟨rfl,rfl⟩
 refine⟨_,rfl,?_⟩
 refine Zm ?_
 refine Zv (Runs.extract rfl rfl rfl) ?_
 refine Zv (Runs.extract rfl rfl rfl) ?_
 refine Za ?_
 refine Za ?_
 refine Zk5 0 1 4 5 6 (Ztq ?_)
 refine Zm ?_
 refine Zm ?_
 refine Zm ?_
 refine Zv (Runs.lss rfl rfl rfl) ?_
 refine Zm ?_
 refine Zv (Runs.lss rfl rfl rfl) ?_
 refine Zv (Runs.neqB rfl rfl rfl Tryz.underlying4) ?_
 refine Zv (Runs.build rfl rfl (run_build_wide _ _ _ _)) ?_
 refine Zo 3 k4 ?_
 intro w2 pw2
 replace bel:=bel.put k4 pw2 e4
 replace k4:=pw2.blk
 refine Zk5 0 1 4 5 6 (Zt (Cd.ret ?_))
 refine Post.endC rfl rfl k4 Tryz.underlying199 rfl (m:=3) (by kernel_rfl) rfl (.inl rfl) ?_
 exact⟨rfl,bel⟩
def sgn (neg:Bool)(m:Nat):Int:=if neg then -(m:Int) else m
theorem narrow_any (m:Nat)(neg:Bool)(w:World)(hm:m<340282366920938463463374607431768211456):
  Calls Tryz.prog 176 #[wideV m neg] w fun e w'=>∃v,e= .returned (.tuple #[.int .i64 v, .bool (fits (sgn neg m))])∧(fits (sgn neg m)=true→v=sgn neg m)∧Grow w w':=by
 have bel:=Below.refl w.heap.size w
 unfold wideV
 refine Zs 24 Tryz.func176 ?_
 refine Zsr ?_
 refine Seq.box rfl rfl rfl rfl rfl ?_
 intro g1 w1 n1
 have e1:=Nat.le_trans bel.size n1.ge
 replace bel:=bel.step n1.below
 have k1:=n1.blk
 refine Za ?_
 refine Za ?_
 refine Zk4 0 1 2 3 (Zts (Cd.block (Zsr ?_)))
 refine Zf 0 Tryz.underlying199 ?_
 refine Zv (Runs.loadB rfl rfl Tryz.underlying162 rfl k1 rfl) ?_
 refine Zv (Runs.neqI rfl rfl rfl) ?_
 refine Za ?_
 refine Zk5 0 1 2 3 4 (Zt ?_)
 refine Cd.condD rfl (fun hc=> ?_) (fun hc=> ?_)
 ·have hf:fits (sgn neg m)=false:=by
   apply fits_not
   unfold sgn
   cases neg<;>simp at hc⊢ <;>omega
  rw[hf]
  refine Zsr ?_
  refine Za ?_
  refine Za ?_
  refine Zk5 0 1 2 3 4 (Zt (Cd.ret (Post.block_ret (Post.then_ret ?_))))
  refine Post.end2 rfl rfl rfl (.inl rfl) ?_
  exact⟨0,rfl,(fun h=>by cases h),bel⟩
 ·have hlt:m<18446744073709551616:=by simp at hc;omega
  cases neg
  ·skip
   refine Zsr ?_
   refine Zf 2 Tryz.underlying199 ?_
   refine Zv (Runs.loadB rfl rfl Tryz.underlying4 rfl k1 rfl) ?_
   refine Za ?_
   refine Zk6 0 1 2 3 4 8 (Zt ?_)
   refine Cd.condF rfl rfl ?_
   refine Cd.skip (Post.block_normal (Zts ?_))
   refine Cd.weak (F':=[(0,_),(1,_),(4,_),(8,_)]) ⟨rfl,rfl,rfl,rfl,trivial⟩ ?_
   refine Cd.draw 8 (by kernel_rfl) [] (.inl rfl) rfl Grow Grow.refl (fun _ _ _=>Grow.trans) ?_
   intro w2 hw2 zw2
   replace bel:=bel.step hw2
   replace k1:=k1.step hw2
   have zbel:=bel.size
   have zlt:=k1.lt
   refine Zd (fun w hG=>Runs.fieldB 1 rfl rfl Tryz.underlying199 rfl (by kernel_rfl)) ?_
   refine Zd (fun w hG=>Runs.loadB rfl rfl Tryz.underlying162 rfl (k1.step hG) rfl) ?_
   refine Zd (fun w hG=>Runs.convI rfl rfl Tryz.underlying162 Tryz.underlying2 rfl) ?_
   refine Zd (fun w hG=>Runs.fieldB 1 rfl rfl Tryz.underlying199 rfl (by kernel_rfl)) ?_
   refine Zd (fun w hG=>Runs.loadB rfl rfl Tryz.underlying162 rfl (k1.step hG) rfl) ?_
   refine Zd (fun w hG=>Runs.lss rfl rfl rfl) ?_
   refine Zd (fun w hG=>Runs.assign rfl rfl) ?_
   refine Zd (fun w hG=>Runs.assign rfl rfl) ?_
   refine Dr.nil ?_
   refine FinX.done (F':=[(0,_),(1,_),(2,_),(3,_),(4,_),(8,_)]) rfl ⟨rfl,rfl,rfl,rfl,rfl,rfl,trivial⟩ ?_
   intro w3 hw3 fw3
   replace bel:=bel.step hw3
   replace k1:=k1.step hw3
   refine Zk6 0 1 2 3 4 8 (Zt (Cd.ret ?_))
   refine Post.end2 rfl rfl rfl (.inl rfl) ?_
   refine⟨_,ret2 rfl (bool_eq ?_),fun h=> ?_,bel⟩
   ·unfold fits sgn;rw[Bool.eq_iff_iff];simp;omega
   ·unfold fits sgn at *;simp at h⊢;rw[IntKind.wrap_i64];omega
  ·skip
   refine Zsr ?_
   refine Zf 2 Tryz.underlying199 ?_
   refine Zv (Runs.loadB rfl rfl Tryz.underlying4 rfl k1 rfl) ?_
   refine Za ?_
   refine Zk6 0 1 2 3 4 8 (Zt ?_)
   refine Cd.condT rfl rfl ?_
   refine Cd.seq ?_
   refine Cd.weak (F':=[(0,_),(1,_),(4,_),(8,_)]) ⟨rfl,rfl,rfl,rfl,trivial⟩ ?_
   refine Cd.draw 9 (by kernel_rfl) [] (.inl rfl) rfl Grow Grow.refl (fun _ _ _=>Grow.trans) ?_
   intro w2 hw2 zw2
   replace bel:=bel.step hw2
   replace k1:=k1.step hw2
   have zbel:=bel.size
   have zlt:=k1.lt
   refine Zd (fun w hG=>Runs.fieldB 1 rfl rfl Tryz.underlying199 rfl (by kernel_rfl)) ?_
   refine Zd (fun w hG=>Runs.loadB rfl rfl Tryz.underlying162 rfl (k1.step hG) rfl) ?_
   refine Zd (fun w hG=>Runs.convI rfl rfl Tryz.underlying162 Tryz.underlying2 rfl) ?_
   refine Zd (fun w hG=>Runs.neg rfl rfl rfl) ?_
   refine Zd (fun w hG=>Runs.fieldB 1 rfl rfl Tryz.underlying199 rfl (by kernel_rfl)) ?_
   refine Zd (fun w hG=>Runs.loadB rfl rfl Tryz.underlying162 rfl (k1.step hG) rfl) ?_
   refine Zd (fun w hG=>Runs.leq rfl rfl rfl) ?_
   refine Zd (fun w hG=>Runs.assign rfl rfl) ?_
   refine Zd (fun w hG=>Runs.assign rfl rfl) ?_
   refine Dr.nil ?_
   refine FinX.done (F':=[(0,_),(1,_),(2,_),(3,_),(4,_),(8,_)]) rfl ⟨rfl,rfl,rfl,rfl,rfl,rfl,trivial⟩ ?_
   intro w3 hw3 fw3
   replace bel:=bel.step hw3
   replace k1:=k1.step hw3
   refine Zk6 0 1 2 3 4 8 (Zt (Cd.ret (Post.block_ret (Post.then_ret ?_))))
   refine Post.end2 rfl rfl rfl (.inl rfl) ?_
   refine⟨_,ret2 rfl (bool_eq ?_),fun h=> ?_,bel⟩
   ·unfold fits sgn;rw[Bool.eq_iff_iff];simp;omega
   ·unfold fits sgn at *;simp at h⊢;rw[IntKind.wrap_i64,IntKind.wrap_i64];omega
end Go.Proofs.YtaamkfajnpobfaaGreat
namespace Go.Proofs.YtaamkfajnpobfaaGreat
open Go.RowKit
theorem two_not {a:Int}(h:fits a=false):Ending.returned (.tuple #[.int .i64 0, .bool false])= .returned (.tuple #[.int .i64 (smallOf a), .bool (fits a)]):=by unfold smallOf;rw[h];rfl
theorem two_yes {a s:Int}(h:fits a=true)(hs:s=a):Ending.returned (.tuple #[.int .i64 s, .bool true])= .returned (.tuple #[.int .i64 (smallOf a), .bool (fits a)]):=by unfold smallOf;rw[h,hs];rfl
theorem sub_num (a b:Int)(w:World)(ha:I64 a)(hb:I64 b):
  Calls Tryz.prog 170 #[.int .i64 a, .int .i64 b] w fun e w'=>e= .returned (.tuple #[.int .i64 (smallOf (a+ -b)), .bool (fits (a+ -b))])∧Grow w w':=by
 obtain⟨ha0,ha1⟩:=ha
 obtain⟨hb0,hb1⟩:=hb
 refine Zs 23 Tryz.func170 ?_
 refine Zsr ?_
 refine Za ?_
 refine Za ?_
 refine Zk4 0 1 4 5 (Ztq ?_)
 refine Zm ?_
 refine Zm ?_
 refine Zv (Runs.subW rfl rfl rfl rfl) ?_
 generalize hs:IntKind.i64.wrap (a-b)=s
 rw[IntKind.wrap_i64] at hs
 refine Za ?_
 refine Zk5 0 1 4 5 6 (Zts (Zsr ?_))
 refine Zm ?_
 refine Zv (Runs.lss rfl rfl rfl) ?_
 refine Zm ?_
 refine Zv (Runs.lss rfl rfl rfl) ?_
 refine Zv (Runs.neqB rfl rfl rfl Tryz.underlying4) ?_
 refine Zm ?_
 refine SeqC.start ?_
 refine Zco (fun hcx=>Runs.move rfl rfl) ?_
 refine SeqC.next rfl rfl rfl rfl rfl rfl rfl (fun hcx=>Runs.lss rfl rfl rfl) ?_
 refine SeqC.next rfl rfl rfl rfl rfl rfl rfl (fun hcx=>Runs.move rfl rfl) ?_
 refine SeqC.next rfl rfl rfl rfl rfl rfl rfl (fun hcx=>Runs.lss rfl rfl rfl) ?_
 refine SeqC.next rfl rfl rfl rfl rfl rfl rfl (fun hcx=>Runs.neqB rfl rfl rfl Tryz.underlying4) ?_
 refine SeqC.and rfl rfl rfl rfl rfl rfl rfl ?_
 refine Zk6 0 1 4 5 6 21 (Zt ?_)
 refine Cd.cond rfl (fun h=> ?_) (fun h=> ?_)
 ·skip
  refine Zsr ?_
  refine Za ?_
  refine Za ?_
  refine Zk6 0 1 4 5 6 21 (Zt (Cd.ret (Post.then_ret ?_)))
  refine Post.end2 rfl rfl rfl (.inl rfl) ?_
  simp at h
  exact⟨two_not (fits_not (by omega)),Grow.refl _⟩
 ·skip
  refine Cd.skip (Ztq ?_)
  refine Zm ?_
  refine Za ?_
  refine Za ?_
  refine Zk6 0 1 4 5 6 21 (Zt (Cd.ret ?_))
  refine Post.end2 rfl rfl rfl (.inl rfl) ?_
  simp at h
  exact⟨two_yes (fits_of (by omega) (by omega)) (by omega),Grow.refl _⟩
theorem neg_num (a:Int)(w:World)(ha:I64 a):
  Calls Tryz.prog 171 #[.int .i64 a] w fun e w'=>e= .returned (.tuple #[.int .i64 (smallOf (-a)), .bool (fits (-a))])∧Grow w w':=by
 obtain⟨ha0,ha1⟩:=ha
 refine Zs 8 Tryz.func171 ?_
 refine Zsr ?_
 refine Za ?_
 refine Za ?_
 refine Zk3 0 2 3 (Zts (Zsr ?_))
 refine Zm ?_
 refine Zv (Runs.eqlI rfl rfl rfl) ?_
 refine Zk4 0 2 3 5 (Zt ?_)
 refine Cd.condD rfl (fun h=> ?_) (fun h=> ?_)
 ·skip
  refine Zsr ?_
  refine Za ?_
  refine Za ?_
  refine Zk4 0 2 3 5 (Zt (Cd.ret (Post.then_ret ?_)))
  refine Post.end2 rfl rfl rfl (.inl rfl) ?_
  exact⟨two_not (fits_not (by omega)),Grow.refl _⟩
 ·skip
  refine Cd.skip (Ztq ?_)
  refine Zm ?_
  refine Zv (Runs.neg rfl rfl (wrapI (by omega) (by omega))) ?_
  refine Za ?_
  refine Za ?_
  refine Zk4 0 2 3 5 (Zt (Cd.ret ?_))
  refine Post.end2 rfl rfl rfl (.inl rfl) ?_
  exact⟨two_yes (fits_of (by omega) (by omega)) (by omega),Grow.refl _⟩
theorem sgn_prod (a b:Int):sgn (decide (decide (a<0)≠decide (b<0))) (a.natAbs*b.natAbs)=a*b:=by
 unfold sgn
 rw[Int.natCast_mul]
 by_cases ha:a<0
 ·have ea:(a.natAbs:Int)= -a:=by omega
  by_cases hb:b<0
  ·have eb:(b.natAbs:Int)= -b:=by omega
   rw[ea,eb,Int.neg_mul_neg];simp[ha,hb]
  ·have eb:(b.natAbs:Int)=b:=by omega
   rw[ea,eb,Int.neg_mul,Int.neg_neg];simp[ha,hb]
 ·have ea:(a.natAbs:Int)=a:=by omega
  by_cases hb:b<0
  ·have eb:(b.natAbs:Int)= -b:=by omega
   rw[ea,eb,Int.mul_neg,Int.neg_neg];simp[ha,hb]
  ·have eb:(b.natAbs:Int)=b:=by omega
   rw[ea,eb];simp[ha,hb]
theorem mul_num (a b:Int)(w:World)(ha:I64 a)(hb:I64 b):
  Calls Tryz.prog 169 #[.int .i64 a, .int .i64 b] w fun e w'=>e= .returned (.tuple #[.int .i64 (smallOf (a*b)), .bool (fits (a*b))])∧Grow w w':=by
 have bel:=Below.refl w.heap.size w
 have hm:a.natAbs*b.natAbs<340282366920938463463374607431768211456:=by
  have h1:=ha.1;have h2:=ha.2;have h3:=hb.1;have h4:=hb.2
  have:=Nat.mul_le_mul (show a.natAbs≤9223372036854775808 by omega) (show b.natAbs≤9223372036854775808 by omega)
  omega
 refine Zs 18 Tryz.func169 ?_
 refine Zsr ?_
 refine Za ?_
 refine Za ?_
 refine Zk4 0 1 4 5 (Ztq ?_)
 refine Zm ?_
 refine Zm ?_
 refine Zc (Ze Tryz.func175) (product_any a b _ ha hb) ?_
 rintro e w4 ⟨rfl,hb4⟩
 refine⟨_,rfl,?_⟩
 replace bel:=bel.step hb4
 refine Zc (Ze Tryz.func176) (narrow_any _ _ _ hm) ?_
 rw[sgn_prod]
 rintro e w5 ⟨v,rfl,hv,hb5⟩
 refine⟨_,rfl,?_⟩
 replace bel:=bel.step hb5
 refine Zm ?_
 refine Zv (Runs.extract rfl rfl rfl) ?_
 refine Zv (Runs.extract rfl rfl rfl) ?_
 refine Za ?_
 refine Za ?_
 refine Zk6 0 1 4 5 6 7 (Zts (Zsr ?_))
 refine Zm ?_
 refine Zv (Runs.not rfl rfl) ?_
 refine Zk7 0 1 4 5 6 7 16 (Zt ?_)
 refine Cd.cond rfl (fun h=> ?_) (fun h=> ?_)
 ·skip
  refine Zsr ?_
  refine Za ?_
  refine Za ?_
  refine Zk7 0 1 4 5 6 7 16 (Zt (Cd.ret (Post.then_ret ?_)))
  refine Post.end2 rfl rfl rfl (.inl rfl) ?_
  simp at h
  exact⟨two_not h,bel⟩
 ·skip
  refine Cd.skip (Ztq ?_)
  refine Zm ?_
  refine Za ?_
  refine Za ?_
  refine Zk7 0 1 4 5 6 7 16 (Zt (Cd.ret ?_))
  refine Post.end2 rfl rfl rfl (.inl rfl) ?_
  simp at h
  exact⟨two_yes h (hv h),bel⟩
end Go.Proofs.YtaamkfajnpobfaaGreat
namespace Go.Proofs.YtaamkfajnpobfaaGreat
open Go.RowKit
def restOf (l:List Nat):List Nat:=if l.head? =some 45 then l.drop 1 else l
theorem idx_append (F R:List Nat)(c:Nat)(h:c∉F):idx (F++c::R) c=F.length:=by
 induction F with
 |nil=>simp[idx,List.findIdx_cons]
 |cons x F ih=>
  have hx:(x==c)=false:=beq_eq_false_iff_ne.2 (fun e=>h (by simp[e]))
  have:=ih (fun hm=>h (List.mem_cons_of_mem _ hm))
  unfold idx at this⊢
  rw[List.cons_append,List.findIdx_cons,hx,List.length_cons,←this]
  rfl
theorem form_amt {l:List Nat}{d:Nat}{y:Int}{F B:List Nat}(h:Form l d y F B):(l.head? =some 45↔y<0)∧(46∈restOf l↔0<d)∧cutA (restOf l) 46=F∧cutB (restOf l) 46=B:=by
 obtain⟨hf,hb,hlen,hpos,hlead,hval,heq⟩:=h
 have hF46:46∉F:=fun hm=>by have:=hf 46 hm;unfold isDg at this;omega
 have hh:(l.head? =some 45)↔y<0:=by
  rw[heq]
  unfold FormL
  by_cases hx:y<0
  ·simp[hx]
  ·cases F with
   |nil=>simp at hpos
   |cons c F=>
    have:=hf c (List.mem_cons_self ..)
    unfold isDg at this
    simp[hx]
    omega
 have hr:restOf l=F++(if 0<d then 46::B else []):=by
  unfold restOf
  by_cases hx:y<0
  ·rw[if_pos (hh.2 hx),heq]
   unfold FormL
   rw[if_pos hx]
   rfl
  ·rw[if_neg (fun h=>hx (hh.1 h)),heq]
   unfold FormL
   rw[if_neg hx]
   rfl
 refine⟨hh,?_,?_,?_⟩
 ·rw[hr]
  by_cases hd:0<d
  ·simp[hd]
  ·simp[hd,hF46]
 ·rw[hr]
  unfold cutA
  by_cases hd:0<d
  ·rw[if_pos hd,if_pos (by simp),idx_append _ _ _ hF46,List.take_left]
  ·rw[if_neg hd,List.append_nil,if_neg hF46]
 ·rw[hr]
  unfold cutB
  by_cases hd:0<d
  ·rw[if_pos hd,if_pos (by simp),idx_append _ _ _ hF46,←List.drop_drop,List.drop_left]
   rfl
  ·rw[if_neg hd,List.append_nil,if_neg hF46]
   exact(List.eq_nil_of_length_eq_zero (by omega)).symm
theorem amt_form {l:List Nat}{d:Nat}{x:Int}(hp:46∈restOf l↔0<d)(hb:(cutB (restOf l) 46).length=d)(hf:0<(cutA (restOf l) 46).length)(hlead:1<(cutA (restOf l) 46).length→(cutA (restOf l) 46)[0]? ≠some 48)
  (hdg:∀c∈cutA (restOf l) 46++cutB (restOf l) 46,isDg c) (hx:valD (cutA (restOf l) 46++cutB (restOf l) 46)=x.natAbs) (hs:x<0↔l.head? =some 45):Form l d x (cutA (restOf l) 46) (cutB (restOf l) 46):=by
 refine⟨fun c hc=>hdg c (List.mem_append_left _ hc),fun c hc=>hdg c (List.mem_append_right _ hc),hb,hf,hlead,hx,?_⟩
 have hr:restOf l=cutA (restOf l) 46++(if 0<d then 46::cutB (restOf l) 46 else []):=by
  by_cases hd:0<d
  ·have hm:=hp.2 hd
   unfold cutA cutB
   rw[if_pos hm,if_pos hm,if_pos hd]
   exact(idx_split _ _ hm).2.2
  ·have hm:¬46∈restOf l:=fun h=>hd (hp.1 h)
   unfold cutA
   rw[if_neg hm,if_neg hd,List.append_nil]
 unfold FormL
 rw[←hr]
 unfold restOf
 by_cases h:l.head? =some 45
 ·rw[if_pos (hs.2 h),if_pos h]
  cases l with
  |nil=>simp at h
  |cons c l=>simp at h;subst h;rfl
 ·rw[if_neg (fun h0=>h (hs.1 h0)),if_neg h]
  rfl
def AmtA (l:List Nat)(d x:Int)(b:Bool):Prop:=
 (b=true→0≤d∧d≤9∧I64 x∧∃F B,Form l d.toNat x F B)∧(b=false→x=0∧(0≤d→d≤9→∀y,I64 y→∀F B,¬Form l d.toNat y F B))
theorem AmtA.uniq {l:List Nat}{d x y:Int}{b c:Bool}(h:AmtA l d x b)(k:AmtA l d y c):x=y∧b=c:=by
 cases b with
 |true=>
  obtain⟨h1,h2,h3,F,B,h4⟩:=h.1 rfl
  cases c with
  |true=>
   obtain⟨-,-,-,F',B',k4⟩:=k.1 rfl
   exact⟨(signZ_form h4).symm.trans (signZ_form k4),rfl⟩
  |false=>exact absurd h4 ((k.2 rfl).2 h1 h2 x h3 F B)
 |false=>
  obtain⟨h1,h2⟩:=h.2 rfl
  cases c with
  |true=>
   obtain⟨k1,k2,k3,F,B,k4⟩:=k.1 rfl
   exact absurd k4 (h2 k1 k2 y k3 F B)
  |false=>exact⟨by rw[h1,(k.2 rfl).1],rfl⟩
theorem restOf_lt {l:List Nat}(hl:∀x∈l,x<256):∀x∈restOf l,x<256:=by
 unfold restOf
 split
 ·exact fun x hx=>hl x (List.mem_of_mem_drop hx)
 ·exact hl
theorem restOf_len (l:List Nat):(restOf l).length≤l.length:=by
 unfold restOf
 split
 ·rw[List.length_drop];omega
 ·omega
theorem cutA_sub {l:List Nat}{c:Nat}:(∀x∈cutA l c,x∈l)∧(cutA l c).length+(cutB l c).length≤l.length:=by
 unfold cutA cutB
 constructor
 ·split
  ·exact fun x hx=>List.mem_of_mem_take hx
  ·exact fun x hx=>hx
 ·split
  ·rename_i h
   have:=(idx_split l c h).1
   rw[List.length_take,List.length_drop];omega
  ·simp
theorem cutB_sub {l:List Nat}{c:Nat}:∀x∈cutB l c,x∈l:=by
 unfold cutB
 split
 ·exact fun x hx=>List.mem_of_mem_drop hx
 ·exact fun x hx=>by simp at hx
set_option maxHeartbeats 1000000 in
theorem amount_any (l:List Nat)(d:Int)(w:World)(hl:∀x∈l,x<256)(hn:l.length≤9223372036854775807)(hd:I64 d):
  Calls Tryz.prog 161 #[.string (strOf l), .int .i64 d] w fun e w'=>∃x b,e= .returned (.tuple #[.int .i64 x, .bool b])∧AmtA l d x b∧Grow w w':=by
 have bel:=Below.refl w.heap.size w
 refine Zs 95 Tryz.func161 ?_
 refine Zsr ?_
 refine Za ?_
 refine Za ?_
 refine Zk4 0 1 4 5 (Zts (Zsr ?_))
 refine Zm ?_
 refine Zv (Runs.lss rfl rfl rfl) ?_
 refine Zm ?_
 refine SeqC.start ?_
 refine Zco (fun hcx=>Runs.move rfl rfl) ?_
 refine SeqC.next rfl rfl rfl rfl rfl rfl rfl (fun hcx=>Runs.gtr rfl rfl rfl) ?_
 refine SeqC.or rfl rfl rfl rfl rfl rfl rfl ?_
 refine Zk5 0 1 4 5 21 (Zt ?_)
 refine Cd.cond rfl (fun h=> ?_) (fun h=> ?_)
 ·skip
  refine Zsr ?_
  refine Za ?_
  refine Za ?_
  refine Zk5 0 1 4 5 21 (Zt (Cd.ret (Post.then_ret ?_)))
  refine Post.end2 rfl rfl rfl (.inl rfl) ?_
  exact⟨0,false,rfl,⟨fun h=>(by cases h),fun _=>⟨rfl,fun h1 h2=>(by simp at h;omega)⟩⟩,bel⟩
 obtain⟨D,rfl⟩:∃D:Nat,d=(D:Int):=⟨d.toNat,by simp at h;omega⟩
 have hD:D≤9:=by simp at h;omega
 clear h
 have hno:(∀y,I64 y→∀F B,¬Form l D y F B)→AmtA l (D:Int) 0 false:=fun h=>⟨fun h=>(by cases h),fun _=>⟨rfl,fun _ _=>by rw[Int.toNat_natCast];exact h⟩⟩
 have hrl:=restOf_lt hl
 have hrn:=restOf_len l
 have hrd:(if l.head? =some 45 then l.drop 1 else l)=restOf l:=rfl
 refine Cd.skip (Ztq ?_)
 refine Zm ?_
 refine Zc (Ze Tryz.func166) (cutPrefix_any l 45 _ hl (by omega)) ?_
 rintro e w2 ⟨rfl,rfl⟩
 refine⟨_,rfl,?_⟩
 rw[hrd]
 refine Zm ?_
 refine Zv (Runs.extract rfl rfl rfl) ?_
 refine Zv (Runs.extract rfl rfl rfl) ?_
 refine Za ?_
 refine Za ?_
 refine Zk7 0 1 4 5 6 7 21 (Ztq ?_)
 refine Zm ?_
 refine Zc (Ze Tryz.func167) (cut_any (restOf l) 46 _ hrl (by omega) (by omega)) ?_
 rintro e w3 ⟨rfl,hb3⟩
 refine⟨_,rfl,?_⟩
 replace bel:=bel.step hb3
 have hA:=cutA_sub (l:=restOf l) (c:=46)
 have hB:=cutB_sub (l:=restOf l) (c:=46)
 have hFl:∀x∈cutA (restOf l) 46,x<256:=fun x hx=>hrl x (hA.1 x hx)
 have hBl:∀x∈cutB (restOf l) 46,x<256:=fun x hx=>hrl x (hB x hx)
 have hlen:=hA.2
 have hform:=fun y F B (h:Form l D y F B)=>form_amt h
 have hmk:=fun x=>amt_form (l:=l) (d:=D) (x:=x)
 generalize hF:cutA (restOf l) 46=F at *
 generalize hBd:cutB (restOf l) 46=B at *
 refine Zm ?_
 refine Zv (Runs.extract rfl rfl rfl) ?_
 refine Zv (Runs.extract rfl rfl rfl) ?_
 refine Zv (Runs.extract rfl rfl rfl) ?_
 refine Za ?_
 refine Za ?_
 refine Za ?_
 refine Zk10 0 1 4 5 6 7 8 9 10 21 (Zts (Zsr ?_))
 refine Zm ?_
 refine Zm ?_
 refine Zv (Runs.gtr rfl rfl rfl) ?_
 refine Zv (Runs.neqB rfl rfl rfl Tryz.underlying4) ?_
 refine Zm ?_
 refine SeqC.start ?_
 refine Zco (fun hcx=>Runs.move rfl rfl) ?_
 refine SeqC.next rfl rfl rfl rfl rfl rfl rfl (fun hcx=>Runs.lenL rfl rfl Tryz.underlying9) ?_
 refine SeqC.next rfl rfl rfl rfl rfl rfl rfl (fun hcx=>Runs.move rfl rfl) ?_
 refine SeqC.next rfl rfl rfl rfl rfl rfl rfl (fun hcx=>Runs.neqI rfl rfl rfl) ?_
 refine SeqC.or rfl rfl rfl rfl rfl rfl rfl ?_
 refine Zm ?_
 refine SeqC.start ?_
 refine Zco (fun hcx=>Runs.move rfl rfl) ?_
 refine SeqC.next rfl rfl rfl rfl rfl rfl rfl (fun hcx=>Runs.eqlL (a:=F) (b:=[]) rfl rfl rfl hFl (fun x hx=>by simp at hx)) ?_
 refine SeqC.or rfl rfl rfl rfl rfl rfl rfl ?_
 refine Zm ?_
 refine SeqC.start ?_
 refine Zco (fun hcx=>Runs.move rfl rfl) ?_
 refine SeqC.next rfl rfl rfl rfl rfl rfl rfl (fun hcx=>Runs.lenL rfl rfl Tryz.underlying9) ?_
 refine SeqC.next rfl rfl rfl rfl rfl rfl rfl (fun hcx=>Runs.gtr rfl rfl rfl) ?_
 refine SeqC.next rfl rfl rfl rfl rfl rfl rfl (fun hcx=>Runs.move rfl rfl) ?_
 refine Zco (fun hcx=>Runs.move rfl rfl) ?_
 have hF0:1<F.length→F[0]? =some (F.getD 0 0):=by
  intro h
  cases F with
  |nil=>simp at h
  |cons c F=>rfl
 have hF1:F.getD 0 0<256:=by
  cases F with
  |nil=>simp
  |cons c F=>exact hFl c (by simp)
 refine SeqC.next rfl rfl rfl rfl rfl rfl rfl (fun hcx=>Runs.indexL (l:=F) (j:=0) (c:=F.getD 0 0) rfl rfl rfl Tryz.underlying9 rfl (hF0 (by simp at hcx;omega)) hF1) ?_
 refine SeqC.next rfl rfl rfl rfl rfl rfl rfl (fun hcx=>Runs.eqlI rfl rfl rfl) ?_
 refine SeqC.andG rfl rfl rfl rfl rfl rfl rfl rfl rfl rfl rfl ?_
 refine SeqC.or rfl rfl rfl rfl rfl rfl rfl ?_
 refine Zk11 0 1 4 5 6 7 8 9 10 21 56 (Zt ?_)
 generalize hf0:F.getD 0 0=f0 at *
 have hiff:(decide (46∈restOf l)=decide ((0:Int)<(D:Int)))↔(46∈restOf l↔0<D):=by
  rw[decide_eq_decide]
  constructor<;>intro h<;>rw[h]<;>omega
 have hnil:F=[]↔F.length=0:=by cases F<;>simp
 refine Cd.cond rfl (fun h=> ?_) (fun h=> ?_)
 ·have hbad:∀y,I64 y→∀F B,¬Form l D y F B:=by
   intro y _ F' B' hfm
   obtain⟨-,e2,rfl,rfl⟩:=hform y F' B' hfm
   have e3:=hfm.len
   have e4:=hfm.pos
   have e5:1<F.length→f0≠48:=fun h1 h2=>hfm.lead h1 (by rw[hF0 h1,h2])
   have e6:=hiff.2 e2
   have e7:F≠ []:=fun h=>by rw[h] at e4;simp at e4
   simp only[e6,e3] at h
   simp[e7] at h
   omega
  refine Zsr ?_
  refine Za ?_
  refine Za ?_
  refine Zk11 0 1 4 5 6 7 8 9 10 21 56 (Zt (Cd.ret (Post.then_ret ?_)))
  refine Post.end2 rfl rfl rfl (.inl rfl) ?_
  exact⟨0,false,rfl,hno hbad,bel⟩
 have hok:(46∈restOf l↔0<D)∧B.length=D∧0<F.length∧(1<F.length→F[0]? ≠some 48):=by
  simp only[Bool.or_eq_false_iff,Bool.and_eq_false_iff,decide_eq_false_iff_not,ne_eq,Decidable.not_not] at h
  obtain⟨⟨⟨k1,k2⟩,k3⟩,k4⟩:=h
  refine⟨hiff.1 k1,by omega,by have:=mt hnil.2 k3;omega,fun h1 h2=> ?_⟩
  rw[hF0 h1] at h2
  injection h2 with h2
  omega
 obtain⟨k1,k2,k3,k4⟩:=hok
 replace hmk:=fun x=>hmk x k1 k2 k3 k4
 have hM:∀x∈F++B,x<256:=fun x hx=>by
  rcases List.mem_append.1 hx with h|h
  ·exact hFl x h
  ·exact hBl x h
 have hMl:(F++B).length≤9223372036854775807:=by rw[List.length_append];omega
 have hfm:∀y,∀F' B',Form l D y F' B'→(∀c∈F++B,isDg c)∧valD (F++B)=y.natAbs∧(l.head? =some 45↔y<0):=by
  intro y F' B' hf
  obtain⟨e1,-,rfl,rfl⟩:=hform y F' B' hf
  exact⟨fun c hc=>by
   rcases List.mem_append.1 hc with h|h
   ·exact hf.f c h
   ·exact hf.b c h,hf.val,e1⟩
 have hFB:F.length+B.length≤9223372036854775807:=by omega
 clear h hform hF0 hF1 hf0 hiff hnil
 refine Cd.skip (Ztq ?_)
 refine Za ?_
 refine Zk12 0 1 4 5 6 7 8 9 10 11 21 56 (Zts (Zsr ?_))
 refine Zm ?_
 refine Zm ?_
 refine Zv (Runs.addL rfl rfl rfl hFB) ?_
 generalize F++B=M at *
 refine Seq.convSB rfl rfl Tryz.underlying9 Tryz.underlying125 Tryz.underlying5 hM rfl rfl rfl ?_
 intro g60 c60 w60 hc60 n60
 replace bel:=bel.step n60.below
 have hrd60:=n60.reads
 have hB60:=n60.lt
 refine Zv (Runs.len rfl rfl Tryz.underlying125) ?_
 refine Zm ?_
 refine Zk15 0 1 4 5 6 7 8 9 10 11 21 56 60 61 62 (Zt (Cd.block ?_))
 refine Cd.loop (σ:=Nat) (fun k=>[(7, .bool (decide (l.head? =some 45))),(11, .int .i64 (-((valD (M.take k):Nat):Int))),(60, .slice (some ⟨g60,0,none⟩) M.length c60),(61, .int .i64 (M.length:Int)),(62, .int .i64 (k:Int))])
  (fun k wr=>k≤M.length∧(∀c∈M.take k,isDg c)∧valD (M.take k)≤9223372036854775808∧Below w.heap.size w wr∧Below w60.heap.size w60 wr) (fun k=>M.length-k) 0 ⟨by omega,by simp,by simp[valD],bel,Below.refl _ _⟩ ⟨rfl,rfl,rfl,rfl,rfl,trivial⟩ ?_
 clear bel
 rintro k wr ⟨hk,hdg,hv,bel,bl60⟩
 refine Zsr ?_
 refine Zv (Runs.lss rfl rfl rfl) ?_
 refine Zk6 7 11 60 61 62 63 (Zts ?_)
 refine Cd.condD rfl (fun hc=> ?_) (fun hc=> ?_)
 ·obtain⟨c,hc⟩:∃c,M[k]? =some c:=⟨_,List.getElem?_eq_getElem (show k<M.length by omega)⟩
  have hc256:=hM c (List.mem_of_getElem? hc)
  have hcell:wr.cell? (Addr.add ⟨g60,0,none⟩ k)=some (.int .u8 (c:Int)):=by
   obtain⟨ad,e,hb,hcs⟩:=hrd60.2 (by omega)
   injection e with e
   subst e
   rw[bl60.cell (by rw[block_of_add];exact hB60)]
   exact hcs k _ (by rw[get_Bt,hc];rfl)
  have htk:M.take (k+1)=M.take k++[c]:=by rw[List.take_add_one,hc];rfl
  have hvs:valD (M.take (k+1))=10*valD (M.take k)+(c-48):=by rw[htk,valD_snoc]
  have hvl:=valD_take M (k+1)
  have hbig:9223372036854775808<valD M→∀y,I64 y→∀F B,¬Form l D y F B:=fun h y hy F' B' hf=>by
   obtain⟨-,e2,-⟩:=hfm y F' B' hf
   unfold I64 at hy
   omega
  generalize hV:valD (M.take k)=V at *
  refine Cd.skip (Zts (Cd.block (Zsr ?_)))
  refine Zv (Runs.index1 rfl rfl rfl Tryz.underlying125 (by kernel_rfl) (j:=k) rfl (by omega)) ?_
  refine Zv (Runs.load1 rfl rfl Tryz.underlying5 rfl hcell) ?_
  refine Za ?_
  refine Zk7 7 11 13 60 61 62 63 (Zts (Zsr ?_))
  refine Zm ?_
  refine Zc (Ze Tryz.func168) (digit_any c _) ?_
  rintro e w5 ⟨rfl,rfl⟩
  refine⟨_,rfl,?_⟩
  refine Zv (Runs.not rfl rfl) ?_
  refine Zk8 7 11 13 60 61 62 63 68 (Zt ?_)
  refine Cd.cond rfl (fun h=> ?_) (fun h=> ?_)
  ·have hnd:∀y,I64 y→∀F B,¬Form l D y F B:=fun y _ F' B' hf=>by
    have:=(hfm y F' B' hf).1 c (List.mem_of_getElem? hc)
    unfold isDg at this
    simp at h
    omega
   refine Zsr ?_
   refine Za ?_
   refine Za ?_
   refine Zk10 4 5 7 11 13 60 61 62 63 68 (Zt (Cd.ret (Post.then_ret (Post.block_ret (Post.then_ret (Post.round_ret (Post.block_ret (Post.then_ret ?_))))))))
   refine Post.end2 rfl rfl rfl (.inl rfl) ?_
   exact⟨0,false,rfl,hno hnd,bel⟩
  have hcd:isDg c:=by unfold isDg;simp at h;omega
  have hcd2:=hcd
  unfold isDg at hcd2
  clear h
  refine Cd.skip (Ztq ?_)
  refine Zm ?_
  refine Zc (Ze Tryz.func169) (mul_num (-(V:Int)) 10 _ (by unfold I64;omega) (by unfold I64;omega)) ?_
  rintro e w6 ⟨rfl,hb6⟩
  refine⟨_,rfl,?_⟩
  replace bel:=bel.step hb6
  refine Zm ?_
  refine Zv (Runs.extract rfl rfl rfl) ?_
  refine Zv (Runs.extract rfl rfl rfl) ?_
  refine Za ?_
  refine Za ?_
  refine Zk10 7 11 13 14 15 60 61 62 63 68 (Zts (Zsr ?_))
  refine Zm ?_
  refine Zv (Runs.not rfl rfl) ?_
  refine Zk11 7 11 13 14 15 60 61 62 63 68 75 (Zt ?_)
  refine Cd.cond rfl (fun h=> ?_) (fun h=> ?_)
  ·have hbg:9223372036854775808<10*V:=by
    unfold fits at h
    simp at h
    omega
   refine Zsr ?_
   refine Za ?_
   refine Za ?_
   refine Zk13 4 5 7 11 13 14 15 60 61 62 63 68 75 (Zt (Cd.ret (Post.then_ret (Post.block_ret (Post.then_ret (Post.round_ret (Post.block_ret (Post.then_ret ?_))))))))
   refine Post.end2 rfl rfl rfl (.inl rfl) ?_
   exact⟨0,false,rfl,hno (hbig (by omega)),bel⟩
  have hft:fits (-(V:Int)*10)=true:=by simpa using h
  have hsm:smallOf (-(V:Int)*10)= -(V:Int)*10:=by unfold smallOf;rw[hft];rfl
  have hft2:10*V≤9223372036854775808:=by unfold fits at hft;simp at hft;omega
  rw[hsm]
  clear h
  refine Cd.skip (Ztq ?_)
  refine Zm ?_
  refine Zm ?_
  refine Zv (Runs.subW rfl rfl rfl (wrapB (by omega) (by omega))) ?_
  refine Zv (Runs.convI rfl rfl Tryz.underlying5 Tryz.underlying2 (wrapI (by omega) (by omega))) ?_
  refine Zc (Ze Tryz.func170) (sub_num (-(V:Int)*10) ((c:Int)-48) _ (by unfold I64;omega) (by unfold I64;omega)) ?_
  rintro e w7 ⟨rfl,hb7⟩
  refine⟨_,rfl,?_⟩
  replace bel:=bel.step hb7
  refine Zm ?_
  refine Zv (Runs.extract rfl rfl rfl) ?_
  refine Zv (Runs.extract rfl rfl rfl) ?_
  refine Za ?_
  refine Za ?_
  refine Zk11 7 11 13 14 15 60 61 62 63 68 75 (Ztq ?_)
  refine Zm ?_
  refine Zv (Runs.not rfl rfl) ?_
  refine Zk12 7 11 13 14 15 60 61 62 63 68 75 85 (Zt ?_)
  refine Cd.cond rfl (fun h=> ?_) (fun h=> ?_)
  ·have hbg:9223372036854775808<10*V+(c-48):=by
    unfold fits at h
    simp at h
    omega
   refine Zsr ?_
   refine Za ?_
   refine Za ?_
   refine Zk14 4 5 7 11 13 14 15 60 61 62 63 68 75 85 (Zt (Cd.ret (Post.block_ret (Post.then_ret (Post.round_ret (Post.block_ret (Post.then_ret ?_)))))))
   refine Post.end2 rfl rfl rfl (.inl rfl) ?_
   exact⟨0,false,rfl,hno (hbig (by omega)),bel⟩
  have hft3:fits (-(V:Int)*10+ -((c:Int)-48))=true:=by simpa using h
  have hsm2:smallOf (-(V:Int)*10+ -((c:Int)-48))= -(V:Int)*10+ -((c:Int)-48):=by unfold smallOf;rw[hft3];rfl
  have hft4:10*V+(c-48)≤9223372036854775808:=by unfold fits at hft3;simp at hft3;omega
  rw[hsm2]
  clear h
  refine Cd.skip (Post.block_normal (Ztr ?_))
  refine Za_ ?_
  refine Zm ?_
  refine Zk12 7 11 13 14 15 60 61 62 63 68 75 85 ?_
  refine Post.round (k+1) ⟨rfl,congrArg (fun x=>some (Value.int .i64 x)) (show(-(V:Int)*10+ -((c:Int)-48))= -((valD (M.take (k+1)):Nat):Int) by omega),rfl,rfl,rfl,trivial⟩ ⟨by omega,?_,by omega,bel,(bl60.step hb6).step hb7⟩ (by omega)
  intro x hx
  rw[htk] at hx
  rcases List.mem_append.1 hx with h|h
  ·exact hdg x h
  ·simp at h;subst h;exact hcd
 ·obtain rfl:k=M.length:=by omega
  rw[List.take_of_length_le (Nat.le_refl _)] at hdg hv⊢
  replace hmk:=fun x=>hmk x hdg
  generalize valD M=V at *
  refine Cd.exit (Post.then_exit (Post.round_exit (Post.block_exit (Zts (Zsr ?_)))))
  refine Zm ?_
  refine Zk7 7 11 60 61 62 63 87 (Zt ?_)
  refine Cd.condD rfl (fun h=> ?_) (fun h=> ?_)
  ·skip
   refine Zsr ?_
   refine Zm ?_
   refine Zm ?_
   refine Zv (Runs.lss rfl rfl rfl) ?_
   refine Za ?_
   refine Za ?_
   refine Zk9 4 5 7 11 60 61 62 63 87 (Zt (Cd.ret (Post.then_ret ?_)))
   refine Post.end2 rfl rfl rfl (.inl rfl) ?_
   refine⟨_,_,rfl,⟨fun hb=> ?_,fun hb=> ?_⟩,bel⟩
   ·have hb':0<V:=by simpa using hb
    refine⟨by omega,by omega,by unfold I64;omega,_,_,hmk (-(V:Int)) (by omega) ⟨fun _=>h,fun _=>by omega⟩⟩
   ·have hb':V=0:=by simp at hb;omega
    subst hb'
    refine⟨rfl,fun _ _ y hy F' B' hf=> ?_⟩
    obtain⟨-,e2,e3⟩:=hfm y F' B' (by rwa [Int.toNat_natCast] at hf)
    have:=e3.1 h
    omega
  ·skip
   refine Cd.skip (Ztq ?_)
   refine Zm ?_
   refine Zc (Ze Tryz.func171) (neg_num (-(V:Int)) _ (by unfold I64;omega)) ?_
   rintro e w9 ⟨rfl,hb9⟩
   refine⟨_,rfl,?_⟩
   replace bel:=bel.step hb9
   refine Zv (Runs.extract rfl rfl rfl) ?_
   refine Zv (Runs.extract rfl rfl rfl) ?_
   refine Za ?_
   refine Za ?_
   refine Zk9 4 5 7 11 60 61 62 63 87 (Zt (Cd.ret ?_))
   refine Post.end2 rfl rfl rfl (.inl rfl) ?_
   refine⟨_,_,rfl,⟨fun hb=> ?_,fun hb=> ?_⟩,bel⟩
   ·have hsm:smallOf (-(-(V:Int)))=(V:Int):=by unfold smallOf;rw[hb,if_pos rfl,Int.neg_neg]
    rw[hsm]
    unfold fits at hb
    simp at hb
    refine⟨by omega,by omega,by unfold I64;omega,_,_,hmk (V:Int) (by omega) ⟨fun h0=>by omega,fun h0=>absurd h0 h⟩⟩
   ·have hsm:smallOf (-(-(V:Int)))=0:=by unfold smallOf;rw[hb];rfl
    refine⟨hsm,fun _ _ y hy F' B' hf=> ?_⟩
    obtain⟨-,e2,e3⟩:=hfm y F' B' (by rwa [Int.toNat_natCast] at hf)
    have:¬y<0:=fun h0=>h (e3.2 h0)
    unfold fits at hb
    simp at hb
    unfold I64 at hy
    omega
end Go.Proofs.YtaamkfajnpobfaaGreat
namespace Go.Proofs.YtaamkfajnpobfaaGreat
def letB (c:Nat):Bool:=(decide (97≤c)&&decide (c≤122))||(decide (65≤c)&&decide (c≤90))
def digB (c:Nat):Bool:=decide (48≤c)&&decide (c≤57)
def partB (c:Nat):Bool:=letB c||digB c||decide (c=95)
def runN (p:Nat→Bool):List Nat→Nat
 | []=>0
 |c::l=>if p c then runN p l+1 else 0
theorem runN_le (p:Nat→Bool):∀l,runN p l≤l.length
 | []=>Nat.le_refl _
 |c::l=>by
  unfold runN
  split
  ·have:=runN_le p l;simp;omega
  ·simp
theorem runN_all (p:Nat→Bool):∀(l:List Nat),∀c∈l.take (runN p l),p c=true
 | [],c,h=>by simp at h
 |d::l,c,h=>by
  unfold runN at h
  split at h
  ·rename_i hd
   rw[List.take_succ_cons] at h
   rcases List.mem_cons.1 h with rfl|h
   ·exact hd
   ·exact runN_all p l c h
  ·simp at h
theorem runN_stop (p:Nat→Bool):∀(l:List Nat) c,l[runN p l]? =some c→p c=false
 | [],c,h=>by simp at h
 |d::l,c,h=>by
  unfold runN at h
  split at h
  ·exact runN_stop p l c (by simpa using h)
  ·rename_i hd
   simp at h
   subst h
   simpa using hd
def blankB (c:Nat):Bool:=decide (c=32)||decide (c=9)||decide (c=10)
def noteB (c:Nat):Bool:=decide (c≠10)
def blankF:List Nat→Bool→Nat
 | [],_=>0
 |c::l,true=>if c=10 then blankF l false+1 else blankF l true+1
 |c::l,false=>if blankB c then blankF l false+1 else if c=35 then blankF l true+1 else 0
def blankN (l:List Nat):Nat:=blankF l false
theorem blankF_le:∀l b,blankF l b≤l.length
 | [],_=>Nat.le_refl _
 |c::l,true=>by unfold blankF;have:=blankF_le l true;have:=blankF_le l false;split<;>simp<;>omega
 |c::l,false=>by unfold blankF;have:=blankF_le l true;have:=blankF_le l false;split;simp;omega;split<;>simp<;>omega
theorem blankF_t (c:Nat)(l:List Nat):blankF (c::l) true=if c=10 then blankF l false+1 else blankF l true+1:=by rw[blankF]
theorem blankF_f (c:Nat)(l:List Nat):blankF (c::l) false=if blankB c then blankF l false+1 else if c=35 then blankF l true+1 else 0:=by rw[blankF]
theorem runN_cons (p:Nat→Bool)(c:Nat)(l:List Nat):runN p (c::l)=if p c then runN p l+1 else 0:=rfl
theorem blankF_note:∀l,blankF l true=runN noteB l+blankF (l.drop (runN noteB l)) false
 | []=>rfl
 |c::l=>by
  rw[blankF_t,runN_cons]
  by_cases hc:c=10
  ·subst hc
   have:noteB 10=false:=by decide
   rw[if_pos rfl,this,if_neg (by simp),List.drop_zero,blankF_f,if_pos (by decide)]
   omega
  ·have:noteB c=true:=by simp[noteB,hc]
   rw[if_neg hc,this,if_pos rfl,blankF_note l,List.drop_succ_cons]
   omega
theorem blankN_step (c:Nat)(r:List Nat):blankN (c::r)=if blankB c then blankN r+1 else if c=35 then runN noteB (c::r)+blankN ((c::r).drop (runN noteB (c::r))) else 0:=by
 unfold blankN
 rw[blankF_f]
 split
 ·rfl
 ·split
  ·rename_i hc
   subst hc
   have:noteB 35=true:=by decide
   rw[blankF_note,runN_cons,this,if_pos rfl,List.drop_succ_cons]
   omega
  ·rfl
theorem blankN_le (l:List Nat):blankN l≤l.length:=blankF_le l false
end Go.Proofs.YtaamkfajnpobfaaGreat
namespace Go.Proofs.YtaamkfajnpobfaaGreat
open Go.RowKit
theorem letter_any (c:Nat)(w:World):Calls Tryz.prog 136 #[.int .u8 (c:Int)] w fun e w'=>e= .returned (.bool (letB c))∧Grow w w':=by
 have bel:=Below.refl w.heap.size w
 refine Zs 17 Tryz.func136 ?_
 refine Zsr ?_
 refine Za ?_
 refine Zk2 0 2 (Ztq ?_)
 refine Zm ?_
 refine Zv (Runs.geq rfl rfl rfl) ?_
 refine Zm ?_
 refine SeqC.start ?_
 refine Zco (fun hcx=>Runs.move rfl rfl) ?_
 refine SeqC.next rfl rfl rfl rfl rfl rfl rfl (fun hcx=>Runs.leq rfl rfl rfl) ?_
 refine SeqC.and rfl rfl rfl rfl rfl rfl rfl ?_
 refine Zm ?_
 refine SeqC.start ?_
 refine Zco (fun hcx=>Runs.move rfl rfl) ?_
 refine SeqC.next rfl rfl rfl rfl rfl rfl rfl (fun hcx=>Runs.geq rfl rfl rfl) ?_
 refine SeqC.next rfl rfl rfl rfl rfl rfl rfl (fun hcx=>Runs.move rfl rfl) ?_
 refine Zco (fun hcx=>Runs.move rfl rfl) ?_
 refine SeqC.next rfl rfl rfl rfl rfl rfl rfl (fun hcx=>Runs.leq rfl rfl rfl) ?_
 refine SeqC.andG rfl rfl rfl rfl rfl rfl rfl rfl rfl rfl rfl ?_
 refine SeqC.or rfl rfl rfl rfl rfl rfl rfl ?_
 refine Za ?_
 refine Zk2 0 2 (Zt (Cd.ret ?_))
 refine Post.end1 rfl rfl (.inl rfl) ?_
 refine⟨ret1 (bool_eq ?_),bel⟩
 unfold letB
 rw[Bool.eq_iff_iff]
 simp
 omega
theorem digitL_any (c:Nat)(w:World):Calls Tryz.prog 133 #[.int .u8 (c:Int)] w fun e w'=>e= .returned (.bool (digB c))∧Grow w w':=by
 have bel:=Below.refl w.heap.size w
 refine Zs 9 Tryz.func133 ?_
 refine Zsr ?_
 refine Za ?_
 refine Zk2 0 2 (Ztq ?_)
 refine Zm ?_
 refine Zv (Runs.geq rfl rfl rfl) ?_
 refine Zm ?_
 refine SeqC.start ?_
 refine Zco (fun hcx=>Runs.move rfl rfl) ?_
 refine SeqC.next rfl rfl rfl rfl rfl rfl rfl (fun hcx=>Runs.leq rfl rfl rfl) ?_
 refine SeqC.and rfl rfl rfl rfl rfl rfl rfl ?_
 refine Za ?_
 refine Zk2 0 2 (Zt (Cd.ret ?_))
 refine Post.end1 rfl rfl (.inl rfl) ?_
 refine⟨ret1 (bool_eq ?_),bel⟩
 unfold digB
 rw[Bool.eq_iff_iff]
 simp
 omega
theorem part_any (c:Nat)(w:World):Calls Tryz.prog 137 #[.int .u8 (c:Int)] w fun e w'=>e= .returned (.bool (partB c))∧Grow w w':=by
 have bel:=Below.refl w.heap.size w
 refine Zs 13 Tryz.func137 ?_
 refine Zsr ?_
 refine Za ?_
 refine Zk2 0 2 (Ztq ?_)
 refine Zm ?_
 refine Zc (Ze Tryz.func136) (letter_any c _) ?_
 rintro e w2 ⟨rfl,hb2⟩
 refine⟨_,rfl,?_⟩
 replace bel:=bel.step hb2
 refine Zm ?_
 refine SeqC.start ?_
 refine Zco (fun hcx=>Runs.move rfl rfl) ?_
 refine SeqC.nextC rfl rfl rfl rfl rfl rfl rfl (fun hcx=>Ze Tryz.func133) (fun hcx=>digitL_any c _) ?_
 intro w1 hw1
 replace bel:=bel.step hw1
 refine SeqC.or rfl rfl rfl rfl rfl rfl rfl ?_
 refine Zm ?_
 refine SeqC.start ?_
 refine Zco (fun hcx=>Runs.move rfl rfl) ?_
 refine SeqC.next rfl rfl rfl rfl rfl rfl rfl (fun hcx=>Runs.eqlI rfl rfl rfl) ?_
 refine SeqC.or rfl rfl rfl rfl rfl rfl rfl ?_
 refine Za ?_
 refine Zk2 0 2 (Zt (Cd.ret ?_))
 refine Post.end1 rfl rfl (.inl rfl) ?_
 refine⟨ret1 (bool_eq ?_),bel⟩
 unfold partB
 rw[show decide ((c:Int)=95)=decide (c=95) from decide_eq_decide.2 (by omega)]
theorem note_any (c:Nat)(w:World):Calls Tryz.prog 132 #[.int .u8 (c:Int)] w fun e w'=>e= .returned (.bool (noteB c))∧Grow w w':=by
 have bel:=Below.refl w.heap.size w
 refine Zs 5 Tryz.func132 ?_
 refine Zsr ?_
 refine Za ?_
 refine Zk2 0 2 (Ztq ?_)
 refine Zm ?_
 refine Zv (Runs.neqI rfl rfl rfl) ?_
 refine Za ?_
 refine Zk2 0 2 (Zt (Cd.ret ?_))
 refine Post.end1 rfl rfl (.inl rfl) ?_
 refine⟨ret1 (bool_eq ?_),bel⟩
 unfold noteB
 exact decide_eq_decide.2 (by omega)
theorem runN_upto (p:Nat→Bool)(l:List Nat)(k:Nat)(h:k≤runN p l)(c:Nat)(hc:l[k]? =some c):(p c=true↔k<runN p l):=by
 constructor
 ·intro hp
  rcases Nat.lt_or_ge k (runN p l) with h1|h1
  ·exact h1
  ·obtain rfl:k=runN p l:=by omega
   rw[runN_stop p l c hc] at hp;cases hp
 ·intro h1
  refine runN_all p l c ?_
  refine List.mem_of_getElem? (i:=k) ?_
  rw[List.getElem?_take_of_lt h1];exact hc
theorem run_any (f:FuncId)(p:Nat→Bool)(eg:∀args w,(callFunc f args).run Tryz.prog w= .ok (.enter f args) w)(hp:∀(c:Nat) w,Calls Tryz.prog f #[.int .u8 (c:Int)] w fun e w'=>e= .returned (.bool (p c))∧Grow w w')
  (l:List Nat) (w:World) (hl:∀x∈l,x<256) (hlen:l.length≤9223372036854775807):
  Calls Tryz.prog 131 #[.string (strOf l), .func (.func f) #[] #[]] w fun e w'=>e= .returned (.int .i64 (runN p l:Int))∧Grow w w':=by
 have bel:=Below.refl w.heap.size w
 have hle:=runN_le p l
 refine Zs 20 Tryz.func131 ?_
 refine Zsr ?_
 refine Za ?_
 refine Zk3 0 1 4 (Ztq ?_)
 refine Za ?_
 refine Zk4 0 1 4 5 (Zts (Cd.block ?_))
 refine Cd.loop (σ:=Nat) (fun k=>[(0, .string (strOf l)),(1, .func (.func f) #[] #[]),(5, .int .i64 (k:Int))]) (fun k wr=>k≤runN p l∧Below w.heap.size w wr) (fun k=>runN p l-k) 0 ⟨Nat.zero_le _,bel⟩ ⟨rfl,rfl,rfl,trivial⟩ ?_
 clear bel
 rintro k wr ⟨hk,bel⟩
 refine Cd.seq (Zsr ?_)
 refine Zm ?_
 refine Zm ?_
 refine Zv (Runs.lenL rfl rfl Tryz.underlying9) ?_
 by_cases hi:k<l.length
 ·obtain⟨c,hc⟩:∃c,l[k]? =some c:=⟨_,List.getElem?_eq_getElem hi⟩
  have hc256:=hl c (List.mem_of_getElem? hc)
  have hup:=runN_upto p l k hk c hc
  refine Zv ((Runs.lss rfl rfl rfl).isT ((by omega))) ?_
  refine Zm ?_
  refine Seq.valG (Runs.move rfl rfl) rfl rfl rfl rfl rfl ?_
  refine Seq.valG (Runs.move rfl rfl) rfl rfl rfl rfl rfl ?_
  refine Seq.valG (Runs.move rfl rfl) rfl rfl rfl rfl rfl ?_
  refine Seq.valG (Runs.indexL (l:=l) (j:=k) rfl rfl rfl Tryz.underlying9 rfl hc hc256) rfl rfl rfl rfl rfl ?_
  refine Seq.callG (Enters.value (first:=[]) (cap:=[]) rfl rfl rfl eg) rfl rfl rfl rfl rfl (hp c _) ?_
  rintro e w3 ⟨rfl,hb3⟩
  refine⟨_,rfl,?_⟩
  replace bel:=bel.step hb3
  refine Zv (Runs.pickT rfl rfl rfl) ?_
  refine Zk4 0 1 5 16 (Zt ?_)
  refine Cd.cond rfl (fun h=> ?_) (fun h=> ?_)
  ·have hlt:=hup.1 h
   refine Cd.skip (Zt (Cd.block (Zr ?_)))
   refine Zm ?_
   refine Za_ ?_
   refine Za ?_
   refine Zk4 0 1 5 16 (Post.block_normal ?_)
   exact Post.round (k+1) ⟨rfl,rfl,rfl,trivial⟩ ⟨by omega,bel⟩ (by omega)
  ·have hk2:runN p l=k:=by
    rcases Nat.lt_or_ge k (runN p l) with h1|h1
    ·have:=hup.2 h1
     rw[h] at this;cases this
    ·omega
   rw[hk2]
   refine Cd.exit (Post.then_exit (Post.round_exit (Post.block_exit (Ztq ?_))))
   refine Zm ?_
   refine Za ?_
   refine Zk5 0 1 4 5 16 (Zt (Cd.ret ?_))
   refine Post.end1 rfl rfl (.inl rfl) ?_
   exact⟨rfl,bel⟩
 ·have hk2:runN p l=k:=by omega
  rw[hk2]
  refine Zv ((Runs.lss rfl rfl rfl).isF ((by omega))) ?_
  refine Zm ?_
  refine Seq.skipG rfl rfl rfl rfl rfl rfl ?_
  refine Seq.skipG rfl rfl rfl rfl rfl rfl ?_
  refine Seq.skipG rfl rfl rfl rfl rfl rfl ?_
  refine Seq.skipG rfl rfl rfl rfl rfl rfl ?_
  refine Seq.skipG rfl rfl rfl rfl rfl rfl ?_
  refine Zv (Runs.pickF rfl rfl rfl) ?_
  refine Zk4 0 1 5 16 (Zt ?_)
  refine Cd.condF rfl rfl ?_
  refine Cd.exit (Post.then_exit (Post.round_exit (Post.block_exit (Ztq ?_))))
  refine Zm ?_
  refine Za ?_
  refine Zk5 0 1 4 5 16 (Zt (Cd.ret ?_))
  refine Post.end1 rfl rfl (.inl rfl) ?_
  exact⟨rfl,bel⟩
theorem eg_part:∀args w,(callFunc 137 args).run Tryz.prog w= .ok (.enter 137 args) w:=fun args w=>run_enter Tryz.func137 (by kernel_rfl) rfl args w
theorem eg_note:∀args w,(callFunc 132 args).run Tryz.prog w= .ok (.enter 132 args) w:=fun args w=>run_enter Tryz.func132 (by kernel_rfl) rfl args w
theorem run_part (l:List Nat)(w:World)(hl:∀x∈l,x<256)(hlen:l.length≤9223372036854775807):
  Calls Tryz.prog 131 #[.string (strOf l), .func (.func 137) #[] #[]] w fun e w'=>e= .returned (.int .i64 (runN partB l:Int))∧Grow w w':=
 run_any _ partB eg_part part_any l w hl hlen
theorem run_note (l:List Nat)(w:World)(hl:∀x∈l,x<256)(hlen:l.length≤9223372036854775807):
  Calls Tryz.prog 131 #[.string (strOf l), .func (.func 132) #[] #[]] w fun e w'=>e= .returned (.int .i64 (runN noteB l:Int))∧Grow w w':=
 run_any _ noteB eg_note note_any l w hl hlen
end Go.Proofs.YtaamkfajnpobfaaGreat
namespace Go.Proofs.YtaamkfajnpobfaaGreat
open Go.RowKit
theorem drop_at {l:List Nat}{k c:Nat}(h:l[k]? =some c):l.drop k=c::l.drop (k+1):=by
 obtain⟨hk,rfl⟩:=List.getElem?_eq_some_iff.1 h
 exact List.drop_eq_getElem_cons hk
theorem drop_lt {l:List Nat}(hl:∀x∈l,x<256)(k:Nat):∀x∈l.drop k,x<256:=fun x hx=>hl x (List.mem_of_mem_drop hx)
theorem take_lt {l:List Nat}(hl:∀x∈l,x<256)(k:Nat):∀x∈l.take k,x<256:=fun x hx=>hl x (List.mem_of_mem_take hx)
theorem blank_any (l:List Nat)(w:World)(hl:∀x∈l,x<256)(hlen:l.length≤9223372036854775807):
  Calls Tryz.prog 95 #[.string (strOf l)] w fun e w'=>e= .returned (.int .i64 (blankN l:Int))∧Grow w w':=by
 have bel:=Below.refl w.heap.size w
 refine Zs 27 Tryz.func95 ?_
 refine Zsr ?_
 refine Za ?_
 refine Zk2 0 2 (Ztq ?_)
 refine Za ?_
 refine Zk3 0 2 3 (Zts (Cd.block ?_))
 refine Cd.loop (σ:=Nat) (fun k=>[(0, .string (strOf l)),(3, .int .i64 (k:Int))]) (fun k wr=>k≤l.length∧blankN l=k+blankN (l.drop k)∧Below w.heap.size w wr) (fun k=>l.length-k) 0 ⟨Nat.zero_le _,by simp,bel⟩ ⟨rfl,rfl,trivial⟩ ?_
 clear bel
 rintro k wr ⟨hk,hbl,bel⟩
 refine Cd.seq (Zsr ?_)
 refine Zm ?_
 refine Zm ?_
 refine Zv (Runs.lenL rfl rfl Tryz.underlying9) ?_
 refine Zv (Runs.lss rfl rfl rfl) ?_
 refine Zk3 0 3 7 (Zt ?_)
 refine Cd.condD rfl (fun hc=> ?_) (fun hc=> ?_)
 ·obtain⟨c,hcc⟩:∃c,l[k]? =some c:=⟨_,List.getElem?_eq_getElem (show k<l.length by omega)⟩
  have hc256:=hl c (List.mem_of_getElem? hcc)
  have hdr:=drop_at hcc
  have hst:=blankN_step c (l.drop (k+1))
  rw[←hdr] at hst
  refine Cd.skip (Zt (Cd.block (Zsr ?_)))
  refine Zm ?_
  refine Zm ?_
  refine Zv (Runs.indexL (l:=l) (j:=k) rfl rfl rfl Tryz.underlying9 rfl hcc hc256) ?_
  refine Zk4 0 3 7 10 (Zt (Cd.block ?_))
  refine Cd.seqJ (σ:=Unit) (fun _=>[(0, .string (strOf l)),(3, .int .i64 (k:Int)),(10, .int .u8 (c:Int)),(12, .bool (blankB c))]) (fun _ wr=>Below w.heap.size w wr) ?_ ?_
  ·skip
   refine Zsr ?_
   refine Zv (Runs.eqlI rfl rfl rfl) ?_
   refine Za ?_
   refine Zk5 0 3 7 10 12 (Zt ?_)
   refine Cd.condD rfl (fun h=> ?_) (fun h=> ?_)
   ·skip
    refine Cd.skip ?_
    exact Post.join () ⟨rfl,rfl,rfl,congrArg (fun z=>some (Value.bool z)) (by unfold blankB;rw[decide_eq_true h,decide_eq_true (show c=32 by omega)];rfl),trivial⟩ bel
   ·skip
    refine Zsr ?_
    refine Zv (Runs.eqlI rfl rfl rfl) ?_
    refine Za ?_
    refine Zk5 0 3 7 10 12 (Zt ?_)
    refine Cd.condD rfl (fun h2=> ?_) (fun h2=> ?_)
    ·skip
     refine Cd.skip ?_
     exact Post.join () ⟨rfl,rfl,rfl,congrArg (fun z=>some (Value.bool z)) (by unfold blankB;rw[decide_eq_true h2,decide_eq_true (show c=9 by omega)];simp),trivial⟩ bel
    ·skip
     refine Zr ?_
     refine Zv (Runs.eqlI rfl rfl rfl) ?_
     refine Za ?_
     refine Zk5 0 3 7 10 12 ?_
     exact Post.join () ⟨rfl,rfl,rfl,congrArg (fun z=>some (Value.bool z)) (by unfold blankB;rw[decide_eq_false (show¬c=32 by omega),decide_eq_false (show¬c=9 by omega)];exact decide_eq_decide.2 (by omega)),trivial⟩ bel
  clear bel
  rintro⟨⟩ wr bel
  refine Cd.cond rfl (fun h=> ?_) (fun h=> ?_)
  ·rw[h,if_pos rfl] at hst
   refine Zr ?_
   refine Zm ?_
   refine Za_ ?_
   refine Za ?_
   refine Zk4 0 3 10 12 (Post.block_normal (Post.block_normal ?_))
   exact Post.round (k+1) ⟨rfl,rfl,trivial⟩ ⟨by omega,by omega,bel⟩ (by omega)
  ·rw[h,if_neg (by simp)] at hst
   refine Zsr ?_
   refine Zv (Runs.eqlI rfl rfl rfl) ?_
   refine Za ?_
   refine Zk5 0 3 10 12 18 (Zt ?_)
   refine Cd.condD rfl (fun h2=> ?_) (fun h2=> ?_)
   ·rw[if_pos (by omega)] at hst
    have hr1:1≤runN noteB (l.drop k):=by
     rw[hdr,runN_cons,show c=35 by omega,if_pos (by decide)]
     omega
    have hr2:=runN_le noteB (l.drop k)
    rw[List.length_drop] at hr2
    rw[List.drop_drop] at hst
    refine Zr ?_
    refine Zm ?_
    refine Zm ?_
    refine Zm ?_
    refine Zv (Runs.sliceFrom (j:=k) rfl rfl rfl Tryz.underlying9 rfl hk) ?_
    refine Zc (Ze Tryz.func131) (run_note (l.drop k) _ (drop_lt hl k) (by rw[List.length_drop];omega)) ?_
    rintro e w7 ⟨rfl,hb7⟩
    refine⟨_,rfl,?_⟩
    replace bel:=bel.step hb7
    generalize runN noteB (l.drop k)=r at *
    refine Za_ ?_
    refine Za ?_
    refine Zk5 0 3 10 12 18 (Post.block_normal (Post.block_normal ?_))
    exact Post.round (k+r) ⟨rfl,rfl,trivial⟩ ⟨by omega,by omega,bel⟩ (by omega)
   ·rw[if_neg (by omega)] at hst
    have hbk:blankN l=k:=by omega
    rw[hbk]
    refine Zsr ?_
    refine Zm ?_
    refine Za ?_
    refine Zk6 0 2 3 10 12 18 (Zt (Cd.ret (Post.block_ret (Post.block_ret (Post.round_ret (Post.block_ret (Post.then_ret ?_)))))))
    refine Post.end1 rfl rfl (.inl rfl) ?_
    exact⟨rfl,bel⟩
 ·have hbk:blankN l=k:=by
   have:l.drop k=[]:=List.drop_eq_nil_of_le (by omega)
   rw[this] at hbl
   simpa[blankN,blankF] using hbl
  rw[hbk]
  refine Cd.exit (Post.then_exit (Post.round_exit (Post.block_exit (Ztq ?_))))
  refine Zm ?_
  refine Za ?_
  refine Zk4 0 2 3 7 (Zt (Cd.ret ?_))
  refine Post.end1 rfl rfl (.inl rfl) ?_
  exact⟨rfl,bel⟩
def namedB (l:List Nat):Bool:=decide (l≠ [])&&decide (l.length≤16)&&letB (l.getD 0 0)&&decide (runN partB l=l.length)
theorem named_any (l:List Nat)(w:World)(hl:∀x∈l,x<256)(hlen:l.length≤9223372036854775807):
  Calls Tryz.prog 139 #[.string (strOf l)] w fun e w'=>e= .returned (.bool (namedB l))∧Grow w w':=by
 have bel:=Below.refl w.heap.size w
 have h0:l≠ []→l[0]? =some (l.getD 0 0):=by
  intro h
  cases l with
  |nil=>exact absurd rfl h
  |cons c l=>rfl
 have h1:l.getD 0 0<256:=by
  cases l with
  |nil=>simp
  |cons c l=>exact hl c (by simp)
 unfold namedB
 generalize l.getD 0 0=c0 at *
 refine Zs 22 Tryz.func139 ?_
 refine Zsr ?_
 refine Za ?_
 refine Zk2 0 2 (Ztq ?_)
 refine Zm ?_
 refine Zv (Runs.neqL (a:=l) (b:=[]) rfl rfl rfl hl (fun x hx=>by simp at hx)) ?_
 refine Zm ?_
 refine SeqC.start ?_
 refine Zco (fun hcx=>Runs.move rfl rfl) ?_
 refine SeqC.next rfl rfl rfl rfl rfl rfl rfl (fun hcx=>Runs.lenL rfl rfl Tryz.underlying9) ?_
 refine SeqC.next rfl rfl rfl rfl rfl rfl rfl (fun hcx=>Runs.leq rfl rfl rfl) ?_
 refine SeqC.and rfl rfl rfl rfl rfl rfl rfl ?_
 refine Zm ?_
 refine SeqC.start ?_
 refine Zco (fun hcx=>Runs.move rfl rfl) ?_
 refine SeqC.next rfl rfl rfl rfl rfl rfl rfl (fun hcx=>Runs.indexL (l:=l) (j:=0) (c:=c0) rfl rfl rfl Tryz.underlying9 rfl (h0 (by simp[topX] at hcx;exact hcx.1)) h1) ?_
 refine SeqC.nextC rfl rfl rfl rfl rfl rfl rfl (fun hcx=>Ze Tryz.func136) (fun hcx=>letter_any _ _) ?_
 intro w1 hw1
 replace bel:=bel.step hw1
 refine SeqC.and rfl rfl rfl rfl rfl rfl rfl ?_
 refine Zm ?_
 refine SeqC.start ?_
 refine Zco (fun hcx=>Runs.move rfl rfl) ?_
 refine SeqC.nextC rfl rfl rfl rfl rfl rfl rfl (fun hcx=>Ze Tryz.func131) (fun hcx=>run_part l _ hl hlen) ?_
 intro w2 hw2
 replace bel:=bel.step hw2
 refine SeqC.next rfl rfl rfl rfl rfl rfl rfl (fun hcx=>Runs.move rfl rfl) ?_
 refine SeqC.next rfl rfl rfl rfl rfl rfl rfl (fun hcx=>Runs.lenL rfl rfl Tryz.underlying9) ?_
 refine SeqC.next rfl rfl rfl rfl rfl rfl rfl (fun hcx=>Runs.eqlI rfl rfl rfl) ?_
 refine SeqC.and rfl rfl rfl rfl rfl rfl rfl ?_
 refine Za ?_
 refine Zk2 0 2 (Zt (Cd.ret ?_))
 refine Post.end1 rfl rfl (.inl rfl) ?_
 refine⟨ret1 (bool_eq ?_),bel⟩
 rw[Bool.eq_iff_iff]
 simp
 constructor
 ·rintro⟨⟨⟨a,b⟩,c⟩,d⟩
  exact⟨⟨⟨a,by omega⟩,c⟩,by omega⟩
 ·rintro⟨⟨⟨a,b⟩,c⟩,d⟩
  exact⟨⟨⟨a,by omega⟩,c⟩,by omega⟩
end Go.Proofs.YtaamkfajnpobfaaGreat
namespace Go.Proofs.YtaamkfajnpobfaaGreat
open Go.RowKit
section
variable {P:Program} {E:Operand→Option Value} {o:Oper} {w:World} {x:Operand} {T:TypeId}
theorem Runs.loadF {ad:Addr}{m:Nat}{ps:List Value}{d:TypeDesc}(ho:o.op= .load T x)(hx:E x=some (.pointer (some ad)))(hT:P.underlying T=some d)(hd:(match d with| .struct _| .array _ _=>true|_=>false)=true)(hs:sizeIs P T m=true)(hm:ps.length=m)(hc:∀(j:Nat) (v:Value),ps[j]? =some v→w.cell? (ad.add j)=some v):Runs P E o w (.agg ps.toArray) w:=by
 obtain⟨i,hi,hsz⟩:=sizeIs_spec hs
 exact .loadN (cs:=ps) ho hx hT hd hi (by omega) hc
end
inductive Ex where
 |mk (op n:Int) (name:List Nat) (args:List Ex)
def Ex.op:Ex→Int| .mk op _ _ _=>op
def Ex.n:Ex→Int| .mk _ n _ _=>n
def Ex.name:Ex→List Nat| .mk _ _ nm _=>nm
def Ex.args:Ex→List Ex| .mk _ _ _ l=>l
mutual
def Ex.nodes:Ex→Nat
 | .mk _ _ _ l=>1+nodesL l
def nodesL:List Ex→Nat
 | []=>0
 |e::r=>e.nodes+nodesL r
end
mutual
def Ex.depth:Ex→Nat
 | .mk _ _ _ l=>1+depthL l
def depthL:List Ex→Nat
 | []=>0
 |e::r=>max e.depth (depthL r)
end
theorem Ex.nodes_mk (op n:Int)(nm:List Nat)(l:List Ex):(Ex.mk op n nm l).nodes=1+nodesL l:=by rw[Ex.nodes]
theorem Ex.depth_mk (op n:Int)(nm:List Nat)(l:List Ex):(Ex.mk op n nm l).depth=1+depthL l:=by rw[Ex.depth]
theorem nodesL_mem {l:List Ex}{e:Ex}(h:e∈l):e.nodes≤nodesL l:=by
 induction l with
 |nil=>cases h
 |cons x r ih=>
  unfold nodesL
  rcases List.mem_cons.1 h with rfl|h
  ·omega
  ·have:=ih h;omega
theorem Ex.arg_nodes {e x:Ex}(h:x∈e.args):x.nodes<e.nodes:=by
 cases e with
 |mk op n nm l=>
  have:=nodesL_mem (l:=l) h
  rw[Ex.nodes_mk]
  omega
theorem Ex.nodes_pos (e:Ex):0<e.nodes:=by cases e;unfold Ex.nodes;omega
theorem depthL_mem {l:List Ex}{e:Ex}(h:e∈l):e.depth≤depthL l:=by
 induction l with
 |nil=>cases h
 |cons x r ih=>
  unfold depthL
  rcases List.mem_cons.1 h with rfl|h
  ·omega
  ·have:=ih h;omega
theorem Ex.arg_depth {e x:Ex}(h:x∈e.args):x.depth<e.depth:=by
 cases e with
 |mk op n nm l=>
  have:=depthL_mem (l:=l) h
  rw[Ex.depth_mk]
  omega
mutual
theorem Ex.depth_nodes:∀e:Ex,e.depth≤e.nodes
 | .mk _ _ _ l=>by unfold Ex.depth Ex.nodes;have:=depthL_nodesL l;omega
theorem depthL_nodesL:∀l:List Ex,depthL l≤nodesL l
 | []=>Nat.le_refl _
 |e::r=>by unfold depthL nodesL;have:=Ex.depth_nodes e;have:=depthL_nodesL r;omega
end
def Rows (w:World)(S:Nat→Prop)(A:Option Addr)(xs:List Value):Prop:=xs≠ []→∃ad,A=some ad∧S ad.block∧∀(j:Nat) (u:Value),xs[j]? =some u→w.cell? (ad.add j)=some u
inductive RepE (w:World)(S:Nat→Prop):Ex→Value→Prop
 |mk {op n:Int} {nm:List Nat} {args:List Ex} {A:Option Addr} {c:Nat} {vs:List Value} (hl:vs.length=args.length) (h60:args.length≤1000) (hop:I64 op) (hn:I64 n) (hnm:∀d∈nm,d<256) (hnl:nm.length≤9223372036854775807)
   (hr:∀(i:Nat) (e:Ex) (v:Value),args[i]? =some e→vs[i]? =some v→RepE w S e v) (hA:Rows w S A (flatC vs)):RepE w S (.mk op n nm args) (.agg #[.int .i64 op, .int .i64 n, .string (strOf nm), .slice A args.length c])
theorem RepE.mono {w w':World}{S S':Nat→Prop}{e:Ex}{v:Value}(h:RepE w S e v)(hS:∀b,S b→S' b)(hc:∀p:Addr,S p.block→w'.cell? p=w.cell? p):RepE w' S' e v:=by
 induction h with
 |mk hl h60 hop hn hnm hnl hr hA ih=>
  refine .mk hl h60 hop hn hnm hnl ih fun hne=> ?_
  obtain⟨ad,e1,e2,e3⟩:=hA hne
  exact⟨ad,e1,hS _ e2,fun j u hu=>(hc _ (by rw[block_of_add];exact e2)).trans (e3 j u hu)⟩
def Rep (w:World)(B:Nat)(e:Ex)(v:Value):Prop:=RepE w (· <B) e v
theorem Rep.below {w w':World}{B:Nat}{e:Ex}{v:Value}(h:Rep w B e v)(hb:Below B w w'):Rep w' B e v:=RepE.mono h (fun _ h=>h) (fun _ hp=>hb.cell hp)
theorem Rep.more {w:World}{B B':Nat}{e:Ex}{v:Value}(h:Rep w B e v)(hb:B≤B'):Rep w B' e v:=RepE.mono h (fun _ h=>Nat.lt_of_lt_of_le h hb) (fun _ _=>rfl)
theorem RepE.cells4 {w:World}{S:Nat→Prop}{e:Ex}{v:Value}(h:RepE w S e v):v.cells.size=4:=by
 cases h;rfl
theorem flatC_at {vs:List Value}{i:Nat}{v:Value}(hs:∀x∈vs,x.cells.size=4)(h:vs[i]? =some v):∀(j:Nat) (u:Value),v.cells.toList[j]? =some u→(flatC vs)[i*4+j]? =some u:=by
 induction vs generalizing i with
 |nil=>cases h
 |cons x r ih=>
  intro j u hj
  have hx:x.cells.size=4:=hs x List.mem_cons_self
  show(x.cells.toList++flatC r)[i*4+j]? =some u
  cases i with
  |zero=>
   injection h with h
   subst h
   have:j<x.cells.toList.length:=(List.getElem?_eq_some_iff.1 hj).1
   rw[Nat.zero_mul,Nat.zero_add,List.getElem?_append_left this]
   exact hj
  |succ i=>
   have h2:=ih (fun y hy=>hs y (List.mem_cons_of_mem _ hy)) (by simpa using h) j u hj
   have hxl:x.cells.toList.length=4:=by simpa using hx
   rw[List.getElem?_append_right (by rw[hxl];omega),hxl,←h2]
   congr 1
   omega
structure RepV (w:World)(B:Nat)(e:Ex)(A:Option Addr)(c:Nat):Prop where
 h60:e.args.length≤1000
 op:I64 e.op
 n:I64 e.n
 name:∀d∈e.name,d<256
 nlen:e.name.length≤9223372036854775807
 arg:∀i x,e.args[i]? =some x→∃ad A' c',A=some ad∧ad.block<B∧Rep w B x (.agg #[.int .i64 x.op, .int .i64 x.n, .string (strOf x.name), .slice A' x.args.length c'])∧∀(j:Nat) (u:Value),([.int .i64 x.op, .int .i64 x.n, .string (strOf x.name), .slice A' x.args.length c']:List Value)[j]? =some u→w.cell? ((ad.add (i*4)).add j)=some u
theorem RepE.form {w:World}{S:Nat→Prop}{e:Ex}{v:Value}(h:RepE w S e v):∃A c,v= .agg #[.int .i64 e.op, .int .i64 e.n, .string (strOf e.name), .slice A e.args.length c]:=by
 cases h;exact⟨_,_,rfl⟩
theorem Rep.open {w:World}{B:Nat}{e:Ex}{v:Value}(h:Rep w B e v):∃A c,v= .agg #[.int .i64 e.op, .int .i64 e.n, .string (strOf e.name), .slice A e.args.length c]∧RepV w B e A c:=by
 have h':RepE w (· <B) e v:=h
 cases h' with
 | @mk op n nm args A c vs hl h60 hop hn hnm hnl hr hA=>
  refine⟨A,c,rfl,h60,hop,hn,hnm,hnl,fun i x hx=> ?_⟩
  have hi:=(List.getElem?_eq_some_iff.1 hx).1
  replace hi:i<args.length:=hi
  obtain⟨v,hv⟩:∃v,vs[i]? =some v:=⟨_,List.getElem?_eq_getElem (by omega)⟩
  have hrx:=hr i x v hx hv
  have h4:∀y∈vs,y.cells.size=4:=fun y hy=>by
   obtain⟨k,hk,rfl⟩:=List.getElem_of_mem hy
   obtain⟨z,hz⟩:∃z,args[k]? =some z:=⟨_,List.getElem?_eq_getElem (by omega)⟩
   exact(hr k z _ hz (List.getElem?_eq_getElem hk)).cells4
  have hne:flatC vs≠ []:=by
   intro h0
   obtain⟨A',c',rfl⟩:=hrx.form
   have:=flatC_at h4 hv 0 _ rfl
   rw[h0] at this
   cases this
  obtain⟨ad,rfl,hb,hc⟩:=hA hne
  obtain⟨A',c',rfl⟩:=hrx.form
  refine⟨ad,A',c',rfl,hb,hrx,fun j u hu=> ?_⟩
  rw[add_of_add]
  exact hc _ _ (flatC_at h4 hv j u (by simpa[Value.cells] using hu))
theorem RepV.below {w w':World}{B:Nat}{e:Ex}{A:Option Addr}{c:Nat}(h:RepV w B e A c)(hb:Below B w w'):RepV w' B e A c:=
 ⟨h.h60,h.op,h.n,h.name,h.nlen,fun i x hx=>by
  obtain⟨ad,A',c',e1,e2,e3,e4⟩:=h.arg i x hx
  exact⟨ad,A',c',e1,e2,e3.below hb,fun j u hu=>(hb.cell (by rw[block_of_add,block_of_add];exact e2)).trans (e4 j u hu)⟩⟩
end Go.Proofs.YtaamkfajnpobfaaGreat
namespace Go.Proofs.YtaamkfajnpobfaaGreat
open Go.RowKit
def arityZ (op:Int):Int:=if 1≤op∧op≤4 then 0 else if 5≤op∧op≤18 then 2 else if op=19∨op=20 then 1 else if op=21 then 3 else -1
theorem arity_any (op:Int)(w:World):Calls Tryz.prog 120 #[.int .i64 op] w fun e w'=>e= .returned (.int .i64 (arityZ op))∧Grow w w':=by
 have bel:=Below.refl w.heap.size w
 refine Zs 27 Tryz.func120 ?_
 refine Zsr ?_
 refine Za ?_
 refine Zk2 0 2 (Zts (Cd.block (Zsr ?_)))
 refine Zm ?_
 refine Zv (Runs.geq rfl rfl rfl) ?_
 refine Zm ?_
 refine SeqC.start ?_
 refine Zco (fun hcx=>Runs.move rfl rfl) ?_
 refine SeqC.next rfl rfl rfl rfl rfl rfl rfl (fun hcx=>Runs.leq rfl rfl rfl) ?_
 refine SeqC.and rfl rfl rfl rfl rfl rfl rfl ?_
 refine Za ?_
 refine Zk3 0 2 3 (Zt ?_)
 refine Cd.cond rfl (fun h=> ?_) (fun h=> ?_)
 ·simp at h
  refine Zsr ?_
  refine Za ?_
  refine Zk3 0 2 3 (Zt (Cd.ret (Post.block_ret (Post.then_ret ?_))))
  refine Post.end1 rfl rfl (.inl rfl) ?_
  exact⟨ret1 (int_eq (by unfold arityZ;rw[if_pos h])),bel⟩
 ·simp at h
  refine Zsr ?_
  refine Zm ?_
  refine Zv (Runs.geq rfl rfl rfl) ?_
  refine Zm ?_
  refine SeqC.start ?_
  refine Zco (fun hcx=>Runs.move rfl rfl) ?_
  refine SeqC.next rfl rfl rfl rfl rfl rfl rfl (fun hcx=>Runs.leq rfl rfl rfl) ?_
  refine SeqC.and rfl rfl rfl rfl rfl rfl rfl ?_
  refine Za ?_
  refine Zk4 0 2 3 10 (Zt ?_)
  refine Cd.cond rfl (fun h2=> ?_) (fun h2=> ?_)
  ·simp at h2
   refine Zsr ?_
   refine Za ?_
   refine Zk4 0 2 3 10 (Zt (Cd.ret (Post.block_ret (Post.then_ret ?_))))
   refine Post.end1 rfl rfl (.inl rfl) ?_
   exact⟨ret1 (int_eq (by unfold arityZ;rw[if_neg (by omega),if_pos h2])),bel⟩
  ·simp at h2
   refine Zsr ?_
   refine Zm ?_
   refine Zv (Runs.eqlI rfl rfl rfl) ?_
   refine Zm ?_
   refine SeqC.start ?_
   refine Zco (fun hcx=>Runs.move rfl rfl) ?_
   refine SeqC.next rfl rfl rfl rfl rfl rfl rfl (fun hcx=>Runs.eqlI rfl rfl rfl) ?_
   refine SeqC.or rfl rfl rfl rfl rfl rfl rfl ?_
   refine Za ?_
   refine Zk5 0 2 3 10 17 (Zt ?_)
   refine Cd.cond rfl (fun h3=> ?_) (fun h3=> ?_)
   ·simp at h3
    refine Zsr ?_
    refine Za ?_
    refine Zk5 0 2 3 10 17 (Zt (Cd.ret (Post.block_ret (Post.then_ret ?_))))
    refine Post.end1 rfl rfl (.inl rfl) ?_
    exact⟨ret1 (int_eq (by unfold arityZ;rw[if_neg (by omega),if_neg (by omega),if_pos h3])),bel⟩
   ·simp at h3
    refine Zsr ?_
    refine Zm ?_
    refine Zv (Runs.eqlI rfl rfl rfl) ?_
    refine Za ?_
    refine Zk6 0 2 3 10 17 24 (Zt ?_)
    refine Cd.condD rfl (fun hc=> ?_) (fun hc=> ?_)
    ·skip
     refine Zsr ?_
     refine Za ?_
     refine Zk6 0 2 3 10 17 24 (Zt (Cd.ret (Post.block_ret (Post.then_ret ?_))))
     refine Post.end1 rfl rfl (.inl rfl) ?_
     exact⟨ret1 (int_eq (by unfold arityZ;rw[if_neg (by omega),if_neg (by omega),if_neg (by omega),if_pos (by assumption)])),bel⟩
    ·skip
     refine Cd.skip (Post.block_normal (Ztq ?_))
     refine Za ?_
     refine Zk6 0 2 3 10 17 24 (Zt (Cd.ret ?_))
     refine Post.end1 rfl rfl (.inl rfl) ?_
     exact⟨ret1 (int_eq (by unfold arityZ;rw[if_neg (by omega),if_neg (by omega),if_neg (by omega),if_neg (by assumption)])),bel⟩
def reserved:List (List Nat):=[[122,101,114,111],[111,110,101],[103,105,118,101],[97,110,100],[111,114],[115,99,97,108,101],[119,104,101,110],[117,110,116,105,108],[97,110,121,116,105,109,101],[100,97,121],[109,105,110],[109,97,120],[105,102]]
def reservedB (l:List Nat):Bool:=reserved.any fun x=>decide (l=x)
theorem reserved_any (l:List Nat)(w:World)(hl:∀d∈l,d<256):Calls Tryz.prog 100 #[.string (strOf l)] w fun e w'=>e= .returned (.bool (reservedB l))∧Grow w w':=by
 have bel:=Below.refl w.heap.size w
 refine Zs 18 Tryz.func100 ?_
 refine Zsr ?_
 refine Za ?_
 refine Zk2 0 2 (Zts (Zsr ?_))
 refine Zm ?_
 refine Zk3 0 2 3 (Zt (Cd.block ?_))
 refine Cd.seqJ (σ:=Unit) (fun _=>[(4, .bool (reservedB l))]) (fun _ wr=>Below w.heap.size w wr) ?_ ?_
 ·skip
  refine Zsr ?_
  refine Zv (Runs.eqlL (a:=l) (b:=[122,101,114,111]) rfl rfl rfl hl (by decide)) ?_
  refine Za ?_
  refine Zk4 0 2 3 4 (Zt ?_)
  refine Cd.condD rfl (fun h0=> ?_) (fun h0=> ?_)
  ·subst h0
   refine Cd.skip ?_
   exact Post.join () ⟨rfl,trivial⟩ bel
  ·skip
   refine Zsr ?_
   refine Zv (Runs.eqlL (a:=l) (b:=[111,110,101]) rfl rfl rfl hl (by decide)) ?_
   refine Za ?_
   refine Zk4 0 2 3 4 (Zt ?_)
   refine Cd.condD rfl (fun h1=> ?_) (fun h1=> ?_)
   ·subst h1
    refine Cd.skip ?_
    exact Post.join () ⟨rfl,trivial⟩ bel
   ·skip
    refine Zsr ?_
    refine Zv (Runs.eqlL (a:=l) (b:=[103,105,118,101]) rfl rfl rfl hl (by decide)) ?_
    refine Za ?_
    refine Zk4 0 2 3 4 (Zt ?_)
    refine Cd.condD rfl (fun h2=> ?_) (fun h2=> ?_)
    ·subst h2
     refine Cd.skip ?_
     exact Post.join () ⟨rfl,trivial⟩ bel
    ·skip
     refine Zsr ?_
     refine Zv (Runs.eqlL (a:=l) (b:=[97,110,100]) rfl rfl rfl hl (by decide)) ?_
     refine Za ?_
     refine Zk4 0 2 3 4 (Zt ?_)
     refine Cd.condD rfl (fun h3=> ?_) (fun h3=> ?_)
     ·subst h3
      refine Cd.skip ?_
      exact Post.join () ⟨rfl,trivial⟩ bel
     ·skip
      refine Zsr ?_
      refine Zv (Runs.eqlL (a:=l) (b:=[111,114]) rfl rfl rfl hl (by decide)) ?_
      refine Za ?_
      refine Zk4 0 2 3 4 (Zt ?_)
      refine Cd.condD rfl (fun h4=> ?_) (fun h4=> ?_)
      ·subst h4
       refine Cd.skip ?_
       exact Post.join () ⟨rfl,trivial⟩ bel
      ·skip
       refine Zsr ?_
       refine Zv (Runs.eqlL (a:=l) (b:=[115,99,97,108,101]) rfl rfl rfl hl (by decide)) ?_
       refine Za ?_
       refine Zk4 0 2 3 4 (Zt ?_)
       refine Cd.condD rfl (fun h5=> ?_) (fun h5=> ?_)
       ·subst h5
        refine Cd.skip ?_
        exact Post.join () ⟨rfl,trivial⟩ bel
       ·skip
        refine Zsr ?_
        refine Zv (Runs.eqlL (a:=l) (b:=[119,104,101,110]) rfl rfl rfl hl (by decide)) ?_
        refine Za ?_
        refine Zk4 0 2 3 4 (Zt ?_)
        refine Cd.condD rfl (fun h6=> ?_) (fun h6=> ?_)
        ·subst h6
         refine Cd.skip ?_
         exact Post.join () ⟨rfl,trivial⟩ bel
        ·skip
         refine Zsr ?_
         refine Zv (Runs.eqlL (a:=l) (b:=[117,110,116,105,108]) rfl rfl rfl hl (by decide)) ?_
         refine Za ?_
         refine Zk4 0 2 3 4 (Zt ?_)
         refine Cd.condD rfl (fun h7=> ?_) (fun h7=> ?_)
         ·subst h7
          refine Cd.skip ?_
          exact Post.join () ⟨rfl,trivial⟩ bel
         ·skip
          refine Zsr ?_
          refine Zv (Runs.eqlL (a:=l) (b:=[97,110,121,116,105,109,101]) rfl rfl rfl hl (by decide)) ?_
          refine Za ?_
          refine Zk4 0 2 3 4 (Zt ?_)
          refine Cd.condD rfl (fun h8=> ?_) (fun h8=> ?_)
          ·subst h8
           refine Cd.skip ?_
           exact Post.join () ⟨rfl,trivial⟩ bel
          ·skip
           refine Zsr ?_
           refine Zv (Runs.eqlL (a:=l) (b:=[100,97,121]) rfl rfl rfl hl (by decide)) ?_
           refine Za ?_
           refine Zk4 0 2 3 4 (Zt ?_)
           refine Cd.condD rfl (fun h9=> ?_) (fun h9=> ?_)
           ·subst h9
            refine Cd.skip ?_
            exact Post.join () ⟨rfl,trivial⟩ bel
           ·skip
            refine Zsr ?_
            refine Zv (Runs.eqlL (a:=l) (b:=[109,105,110]) rfl rfl rfl hl (by decide)) ?_
            refine Za ?_
            refine Zk4 0 2 3 4 (Zt ?_)
            refine Cd.condD rfl (fun h10=> ?_) (fun h10=> ?_)
            ·subst h10
             refine Cd.skip ?_
             exact Post.join () ⟨rfl,trivial⟩ bel
            ·skip
             refine Zsr ?_
             refine Zv (Runs.eqlL (a:=l) (b:=[109,97,120]) rfl rfl rfl hl (by decide)) ?_
             refine Za ?_
             refine Zk4 0 2 3 4 (Zt ?_)
             refine Cd.condD rfl (fun h11=> ?_) (fun h11=> ?_)
             ·subst h11
              refine Cd.skip ?_
              exact Post.join () ⟨rfl,trivial⟩ bel
             ·skip
              refine Zr ?_
              refine Zv (Runs.eqlL (a:=l) (b:=[105,102]) rfl rfl rfl hl (by decide)) ?_
              refine Za ?_
              refine Zk4 0 2 3 4 ?_
              refine Post.join () ⟨congrArg (fun b=>some (Value.bool b)) ?_,trivial⟩ bel
              simp[reservedB,reserved,h0,h1,h2,h3,h4,h5,h6,h7,h8,h9,h10,h11]
 clear bel
 rintro⟨⟩ wr bel
 refine Cd.cond rfl (fun h=> ?_) (fun h=> ?_)
 ·skip
  refine Zsr ?_
  refine Za ?_
  refine Zk2 2 4 (Zt (Cd.ret (Post.block_ret (Post.then_ret ?_))))
  refine Post.end1 rfl rfl (.inl rfl) ?_
  rw[h]
  exact⟨rfl,bel⟩
 ·skip
  refine Cd.skip (Post.block_normal (Ztq ?_))
  refine Za ?_
  refine Zk2 2 4 (Zt (Cd.ret ?_))
  refine Post.end1 rfl rfl (.inl rfl) ?_
  rw[h]
  exact⟨rfl,bel⟩
end Go.Proofs.YtaamkfajnpobfaaGreat
namespace Go.Proofs.YtaamkfajnpobfaaGreat
open Go.RowKit
def freeB (l:List Nat):Bool:=namedB l&& !reservedB l
theorem free_any (l:List Nat)(w:World)(hl:∀d∈l,d<256)(hlen:l.length≤9223372036854775807):Calls Tryz.prog 105 #[.string (strOf l)] w fun e w'=>e= .returned (.bool (freeB l))∧Grow w w':=by
 have bel:=Below.refl w.heap.size w
 refine Zs 10 Tryz.func105 ?_
 refine Zsr ?_
 refine Za ?_
 refine Zk2 0 2 (Ztq ?_)
 refine Zm ?_
 refine Zc (Ze Tryz.func139) (named_any l _ hl hlen) ?_
 rintro e w5 ⟨rfl,hb5⟩
 refine⟨_,rfl,?_⟩
 replace bel:=bel.step hb5
 refine Zm ?_
 refine SeqC.start ?_
 refine Zco (fun hcx=>Runs.move rfl rfl) ?_
 refine SeqC.nextC rfl rfl rfl rfl rfl rfl rfl (fun hcx=>Ze Tryz.func100) (fun hcx=>reserved_any l _ hl) ?_
 intro w1 hw1
 replace bel:=bel.step hw1
 refine SeqC.next rfl rfl rfl rfl rfl rfl rfl (fun hcx=>Runs.not rfl rfl) ?_
 refine SeqC.and rfl rfl rfl rfl rfl rfl rfl ?_
 refine Za ?_
 refine Zk2 0 2 (Zt (Cd.ret ?_))
 refine Post.end1 rfl rfl (.inl rfl) ?_
 exact⟨ret1 (bool_eq (by unfold freeB;cases namedB l<;>rfl)),bel⟩
theorem szSmall_any (a b:Int)(w:World):Calls Tryz.prog 58 #[.agg #[.int .i64 a, .int .i64 b]] w fun e w'=>e= .returned (.bool (decide (a≤200)&&decide (b≤16)))∧Grow w w':=by
 have bel:=Below.refl w.heap.size w
 refine Zs 11 Tryz.func58 ?_
 refine Zsr ?_
 refine Seq.box rfl rfl rfl rfl rfl ?_
 intro g1 w1 n1
 have e1:=Nat.le_trans bel.size n1.ge
 replace bel:=bel.step n1.below
 have k1:=n1.blk
 refine Za ?_
 refine Zk3 0 1 2 (Ztq ?_)
 refine Zf 0 Tryz.underlying105 ?_
 refine Zv (Runs.loadB rfl rfl Tryz.underlying3 rfl k1 rfl) ?_
 refine Zv (Runs.leq rfl rfl rfl) ?_
 refine Zm ?_
 refine SeqC.start ?_
 refine Zco (fun hcx=>Runs.fieldB 1 rfl rfl Tryz.underlying105 rfl (by kernel_rfl)) ?_
 refine SeqC.next rfl rfl rfl rfl rfl rfl rfl (fun hcx=>Runs.loadB rfl rfl Tryz.underlying3 rfl k1 rfl) ?_
 refine SeqC.next rfl rfl rfl rfl rfl rfl rfl (fun hcx=>Runs.leq rfl rfl rfl) ?_
 refine SeqC.and rfl rfl rfl rfl rfl rfl rfl ?_
 refine Za ?_
 refine Zk3 0 1 2 (Zt (Cd.ret ?_))
 refine Post.end1 rfl rfl (.inl rfl) ?_
 exact⟨ret1 (bool_eq (by cases decide (a≤200)<;>rfl)),bel⟩
theorem zero_term_size:zeroIs Tryz.prog 105=some (some (.agg #[.int .i64 0, .int .i64 0])):=by kernel_rfl
theorem run_build_size (a b:Int)(w:World):(Instr.build 105 #[(0, .int .i64 a),(1, .int .i64 b)]).run Tryz.prog w= .ok (.agg #[.int .i64 a, .int .i64 b]) w:=by
 have hu:=Tryz.underlying105
 go_simp
def withS (s t:Int × Int):Int × Int:=(min (s.1+t.1) 1000,min (max s.2 (t.2+1)) 1000)
theorem with_any (s t:Int × Int)(w:World)(h1:0≤s.1∧s.1≤1000)(h2:0≤s.2∧s.2≤1000)(h3:0≤t.1∧t.1≤1000)(h4:0≤t.2∧t.2≤1000):Calls Tryz.prog 103 #[.agg #[.int .i64 s.1, .int .i64 s.2], .agg #[.int .i64 t.1, .int .i64 t.2]] w fun e w'=>e= .returned (.agg #[.int .i64 (withS s t).1, .int .i64 (withS s t).2])∧Grow w w':=by
 have bel:=Below.refl w.heap.size w
 obtain⟨a,b⟩:=s
 obtain⟨c,d⟩:=t
 simp only at h1 h2 h3 h4
 refine Zs 19 Tryz.func103 ?_
 refine Zsr ?_
 refine Seq.box rfl rfl rfl rfl rfl ?_
 intro g2 w1 n2
 have e2:=Nat.le_trans bel.size n2.ge
 replace bel:=bel.step n2.below
 have k2:=n2.blk
 refine Seq.box rfl rfl rfl rfl rfl ?_
 intro g3 w2 n3
 have e3:=Nat.le_trans bel.size n3.ge
 have l3:=Nat.lt_of_lt_of_le k2.lt n3.ge
 replace bel:=bel.step n3.below
 replace k2:=k2.step n3.below
 have k3:=n3.blk
 refine Zl zero_term_size ?_
 intro g4 w3 n4
 have e4:=Nat.le_trans bel.size n4.ge
 have l4:=Nat.lt_of_lt_of_le k3.lt n4.ge
 have l4_k2:=Nat.lt_of_lt_of_le k2.lt n4.ge
 replace bel:=bel.step n4.below
 replace k2:=k2.step n4.below
 replace k3:=k3.step n4.below
 have k4:=n4.blk
 refine Zk5 0 1 2 3 4 (Ztq ?_)
 refine Zf 0 Tryz.underlying105 ?_
 refine Zv (Runs.loadB rfl rfl Tryz.underlying3 rfl k2 rfl) ?_
 refine Zf 0 Tryz.underlying105 ?_
 refine Zv (Runs.loadB rfl rfl Tryz.underlying3 rfl k3 rfl) ?_
 refine Za_ ?_
 refine Zv (Runs.min2 rfl rfl rfl) ?_
 refine Zf 1 Tryz.underlying105 ?_
 refine Zv (Runs.loadB rfl rfl Tryz.underlying3 rfl k2 rfl) ?_
 refine Zf 1 Tryz.underlying105 ?_
 refine Zv (Runs.loadB rfl rfl Tryz.underlying3 rfl k3 rfl) ?_
 refine Za_ ?_
 refine Zv (Runs.max2 rfl rfl rfl) ?_
 refine Zv (Runs.min2 rfl rfl rfl) ?_
 refine Zv (Runs.build rfl rfl (run_build_size _ _ _)) ?_
 refine Zo 2 k4 ?_
 intro w4 pw4
 replace bel:=bel.put k4 pw4 e4
 replace k2:=k2.put pw4 (by omega)
 replace k3:=k3.put pw4 (by omega)
 replace k4:=pw4.blk
 refine Zk5 0 1 2 3 4 (Zt (Cd.ret ?_))
 refine Post.endC rfl rfl k4 Tryz.underlying105 rfl (m:=2) (by kernel_rfl) rfl (.inl rfl) ?_
 exact⟨rfl,bel⟩
mutual
def szE:Ex→Int × Int
 | .mk _ _ _ l=>szL (1,1) l
def szL (s:Int × Int):List Ex→Int × Int
 | []=>s
 |e::r=>if 1000≤s.1 then(1000,1000) else szL (withS s (szE e)) r
end
def Sz (s:Int × Int):Prop:=(0≤s.1∧s.1≤1000)∧(0≤s.2∧s.2≤1000)
theorem withS_Sz {s t:Int × Int}(h:Sz s)(k:Sz t):Sz (withS s t):=by
 unfold Sz withS at *
 simp only
 omega
mutual
theorem szE_Sz:∀e,Sz (szE e)
 | .mk op n nm l=>by rw[szE];exact szL_Sz (1,1) ⟨by simp,by simp⟩ l
theorem szL_Sz:∀(s:Int × Int),Sz s→∀l,Sz (szL s l)
 |s,h,[]=>by rw[szL];exact h
 |s,h,e::r=>by
  rw[szL]
  split
  ·exact⟨by simp,by simp⟩
  ·exact szL_Sz _ (withS_Sz h (szE_Sz e)) r
end
def Cnt (s:Int × Int)(n d:Nat):Prop:=s.1=min (n:Int) 1000∧(n<1000→s.2=(d:Int))
mutual
theorem szE_cnt:∀e,Cnt (szE e) e.nodes e.depth
 | .mk op n nm l=>by
  rw[szE,Ex.nodes_mk,Ex.depth_mk]
  have:=szL_cnt (1,1) 1 1 ⟨(by show(1:Int)=min ((1:Nat):Int) 1000;omega),fun _=>rfl⟩ (Nat.le_refl _) (Nat.le_refl _) l
  rwa [show max 1 (1+depthL l)=1+depthL l by omega] at this
theorem szL_cnt:∀(s:Int × Int) (n d:Nat),Cnt s n d→1≤d→d≤n→∀l,Cnt (szL s l) (n+nodesL l) (max d (1+depthL l))
 |s,n,d,h,h1,h2,[]=>by
  rw[szL,nodesL,depthL,show max d (1+0)=d by omega]
  exact h
 |s,n,d,h,h1,h2,e::r=>by
  rw[szL,nodesL,depthL]
  have he:=szE_cnt e
  have hn:=Ex.depth_nodes e
  have hr:=depthL_nodesL r
  split
  ·obtain⟨a,b⟩:=h
   exact⟨by simp only;omega,fun h=>by omega⟩
  ·have hw:Cnt (withS s (szE e)) (n+e.nodes) (max d (1+e.depth)):=by
    obtain⟨a,b⟩:=h
    obtain⟨a',b'⟩:=he
    refine⟨by unfold withS;simp only;omega,fun h=> ?_⟩
    unfold withS
    simp only
    rw[b (by omega),b' (by omega)]
    omega
   have:=szL_cnt _ (n+e.nodes) (max d (1+e.depth)) hw (by omega) (by omega) r
   rw[show n+(e.nodes+nodesL r)=n+e.nodes+nodesL r by omega,show max d (1+max e.depth (depthL r))=max (max d (1+e.depth)) (1+depthL r) by omega]
   exact this
end
theorem zero_api_Expr:zeroIs Tryz.prog 35=some (some (.agg #[.int .i64 0, .int .i64 0, .string {data:= #[]}, .slice none 0 0])):=by kernel_rfl
mutual
def szF:Ex→Nat→Int × Int
 | .mk _ _ _ l,at_=>szG at_ (1,1) l
def szG (at_:Nat)(s:Int × Int):List Ex→Int × Int
 | []=>s
 |e::r=>if 1000≤at_∨1000≤s.1 then(1000,1000) else szG at_ (withS s (szF e (at_+1))) r
end
theorem szF_eq (e:Ex)(at_:Nat):szF e at_=szG at_ (1,1) e.args:=by cases e;rw[szF];rfl
theorem szG_cons (at_:Nat)(s:Int × Int)(e:Ex)(r:List Ex):szG at_ s (e::r)=if 1000≤at_∨1000≤s.1 then(1000,1000) else szG at_ (withS s (szF e (at_+1))) r:=by rw[szG]
theorem szG_nil (at_:Nat)(s:Int × Int):szG at_ s []=s:=by rw[szG]
theorem withS_big {s:Int × Int}(h:Sz s):withS s (1000,1000)=(1000,1000):=by
 unfold Sz at h
 unfold withS
 simp only[Prod.mk.injEq]
 omega
theorem szG_big (at_:Nat)(l:List Ex):szG at_ (1000,1000) l=(1000,1000):=by
 cases l with
 |nil=>rw[szG_nil]
 |cons e r=>rw[szG_cons,if_pos (.inr (by decide))]
mutual
theorem szF_Sz:∀(e:Ex) (at_:Nat),Sz (szF e at_)
 | .mk op n nm l,at_=>by rw[szF];exact szG_Sz at_ (1,1) ⟨by simp,by simp⟩ l
theorem szG_Sz:∀(at_:Nat) (s:Int × Int),Sz s→∀l,Sz (szG at_ s l)
 |at_,s,h,[]=>by rw[szG];exact h
 |at_,s,h,e::r=>by
  rw[szG]
  split
  ·exact⟨by simp,by simp⟩
  ·exact szG_Sz at_ _ (withS_Sz h (szF_Sz e (at_+1))) r
end
mutual
theorem szF_or:∀(e:Ex) (at_:Nat),szF e at_=szE e∨(szF e at_=(1000,1000)∧1002≤e.depth+at_)
 | .mk op n nm l,at_=>by
  rw[szF,szE,Ex.depth_mk]
  rcases szG_or at_ (1,1) ⟨by simp,by simp⟩ l with h|⟨h1,h2⟩
  ·exact .inl h
  ·exact .inr ⟨h1,by omega⟩
theorem szG_or:∀(at_:Nat) (s:Int × Int),Sz s→∀l,szG at_ s l=szL s l∨(szG at_ s l=(1000,1000)∧1001≤depthL l+at_)
 |at_,s,h,[]=>by rw[szG,szL];exact .inl rfl
 |at_,s,h,e::r=>by
  rw[szG,szL,depthL]
  have hd:0<e.depth:=by cases e;rw[Ex.depth_mk];omega
  by_cases h1:1000≤s.1
  ·rw[if_pos (.inr h1),if_pos h1];exact .inl rfl
  ·by_cases h2:1000≤at_
   ·rw[if_pos (.inl h2)];exact .inr ⟨rfl,by omega⟩
   ·rw[if_neg (by omega),if_neg h1]
    rcases szF_or e (at_+1) with h3|⟨h3,h4⟩
    ·rw[h3]
     rcases szG_or at_ (withS s (szE e)) (withS_Sz h (szE_Sz e)) r with h5|⟨h5,h6⟩
     ·exact .inl h5
     ·exact .inr ⟨h5,by omega⟩
    ·rw[h3,withS_big h,szG_big]
     exact .inr ⟨rfl,by omega⟩
end
theorem szF_low {e:Ex}{at_:Nat}(h:e.depth+at_≤900):szF e at_=szE e:=by
 rcases szF_or e at_ with h1|⟨h1,h2⟩
 ·exact h1
 ·omega
theorem sizeExpr_all (N:Nat):∀(e:Ex) (at_:Nat) (B:Nat) (v:Value) (w:World),e.nodes≤N→at_≤1001→Rep w B e v→B≤w.heap.size→Calls Tryz.prog 73 #[v, .int .i64 (at_:Int)] w fun en w'=>en= .returned (.agg #[.int .i64 (szF e at_).1, .int .i64 (szF e at_).2])∧Grow w w':=by
 induction N with
 |zero=>intro e at_ B v w hN;have:=e.nodes_pos;omega
 |succ N ih=>
 intro e at_ B v w hN hdep hrep hB
 obtain⟨A,c,rfl,hv⟩:=hrep.open
 have bel:=Below.refl w.heap.size w
 have hdp:0<e.depth:=by cases e;rw[Ex.depth_mk];omega
 have h60:=hv.h60
 refine Zs 32 Tryz.func73 ?_
 refine Zsr ?_
 refine Seq.box rfl rfl rfl rfl rfl ?_
 intro g2 w1 n2
 have e2:=Nat.le_trans bel.size n2.ge
 replace bel:=bel.step n2.below
 have k2:=n2.blk
 refine Zl zero_term_size ?_
 intro g4 w2 n4
 have e4:=Nat.le_trans bel.size n4.ge
 have l4:=Nat.lt_of_lt_of_le k2.lt n4.ge
 replace bel:=bel.step n4.below
 replace k2:=k2.step n4.below
 have k4:=n4.blk
 refine Zk4 0 1 2 4 (Ztq ?_)
 refine Zv (Runs.build rfl rfl (run_build_size _ _ _)) ?_
 refine Zl zero_term_size ?_
 intro g5 w3 n5
 have e5:=Nat.le_trans bel.size n5.ge
 have l5:=Nat.lt_of_lt_of_le k4.lt n5.ge
 have l5_k2:=Nat.lt_of_lt_of_le k2.lt n5.ge
 replace bel:=bel.step n5.below
 replace k2:=k2.step n5.below
 replace k4:=k4.step n5.below
 have k5:=n5.blk
 refine Zo 2 k5 ?_
 intro w4 pw4
 replace bel:=bel.put k5 pw4 e5
 replace k2:=k2.put pw4 (by omega)
 replace k4:=k4.put pw4 (by omega)
 replace k5:=pw4.blk
 refine Zk5 0 1 2 4 5 (Zts (Zsr ?_))
 refine Zf 3 Tryz.underlying35 ?_
 refine Zv (Runs.loadB rfl rfl Tryz.underlying22 rfl k2 rfl) ?_
 refine Zv (Runs.len rfl rfl Tryz.underlying22) ?_
 refine Zm ?_
 refine Zk8 0 1 2 4 5 10 11 12 (Zt (Cd.block ?_))
 refine Cd.loop (σ:=Nat × (Int × Int)) (fun s=>[(1, .int .i64 (at_:Int)),(4, .pointer (some ⟨g4,0,none⟩)),(5, .pointer (some ⟨g5,0,none⟩)),(10, .slice A e.args.length c),(11, .int .i64 (e.args.length:Int)),(12, .int .i64 (s.1:Int))])
  (fun s wr=>s.1≤e.args.length∧Sz s.2∧szG at_ s.2 (e.args.drop s.1)=szF e at_∧Below w.heap.size w wr∧Blk wr g4 105 #[.int .i64 0, .int .i64 0]∧Blk wr g5 105 #[.int .i64 s.2.1, .int .i64 s.2.2]) (fun s=>e.args.length-s.1) (0,(1,1)) ⟨Nat.zero_le _,⟨by simp,by simp⟩,by rw[szF_eq];rfl,bel,k4,k5⟩ ⟨rfl,rfl,rfl,rfl,rfl,rfl,trivial⟩ ?_
 clear bel k2 k4 k5
 rintro⟨k,s⟩ wr ⟨hk,hs,hsz,bel,k4,k5⟩
 simp only at hk hs hsz k5
 show Cd _ _ _ _ [(1, .int .i64 (at_:Int)),(4, .pointer (some ⟨g4,0,none⟩)),(5, .pointer (some ⟨g5,0,none⟩)),(10, .slice A e.args.length c),(11, .int .i64 (e.args.length:Int)),(12, .int .i64 (k:Int))] _
 refine Zsr ?_
 refine Zv (Runs.lss rfl rfl rfl) ?_
 refine Zk7 1 4 5 10 11 12 13 (Zts ?_)
 refine Cd.condD rfl (fun hc=> ?_) (fun hc=> ?_)
 ·obtain⟨x,hx⟩:∃x,e.args[k]? =some x:=⟨_,List.getElem?_eq_getElem (show k<e.args.length by omega)⟩
  obtain⟨ad,A',c',rfl,hbl,hrx,hc⟩:=hv.arg k x hx
  have hxm:=List.mem_of_getElem? hx
  have hxn:=Ex.arg_nodes hxm
  have hxd:=Ex.arg_depth hxm
  have hc:=fun j u hj=>((bel.mono hB).cell (p:=(ad.add (k*4)).add j) (by rw[block_of_add,block_of_add];exact hbl)).trans (hc j u hj)
  have hdrop:e.args.drop k=x::e.args.drop (k+1):=by
   rw[List.drop_eq_getElem_cons (show k<e.args.length by omega)]
   congr 1
   obtain⟨_,he⟩:=List.getElem?_eq_some_iff.1 hx
   exact he
  rw[hdrop,szG_cons] at hsz
  refine Cd.skip (Zts (Cd.block (Zsr ?_)))
  refine Zv (Runs.indexN rfl rfl rfl Tryz.underlying22 (s:=4) (by kernel_rfl) (j:=k) rfl (by omega)) ?_
  refine Zv (Runs.loadF (ps:=[.int .i64 x.op, .int .i64 x.n, .string (strOf x.name), .slice A' x.args.length c']) rfl rfl Tryz.underlying35 rfl (m:=4) (by kernel_rfl) rfl hc) ?_
  refine Zl zero_api_Expr ?_
  intro g7 w5 n7
  have e7:=Nat.le_trans bel.size n7.ge
  have l7:=Nat.lt_of_lt_of_le k5.lt n7.ge
  have l7_k4:=Nat.lt_of_lt_of_le k4.lt n7.ge
  replace bel:=bel.step n7.below
  replace k4:=k4.step n7.below
  replace k5:=k5.step n7.below
  have k7:=n7.blk
  refine Zo 4 k7 ?_
  intro w6 pw6
  replace bel:=bel.put k7 pw6 e7
  replace k4:=k4.put pw6 (by omega)
  replace k5:=k5.put pw6 (by omega)
  replace k7:=pw6.blk
  refine Zk8 1 4 5 7 10 11 12 13 (Zts (Zsr ?_))
  refine Zm ?_
  refine Zv (Runs.geq rfl rfl rfl) ?_
  refine Zm ?_
  refine SeqC.start ?_
  refine Zco (fun hcx=>Runs.fieldB 0 rfl rfl Tryz.underlying105 rfl (by kernel_rfl)) ?_
  refine SeqC.next rfl rfl rfl rfl rfl rfl rfl (fun hcx=>Runs.loadB rfl rfl Tryz.underlying3 rfl k5 rfl) ?_
  refine SeqC.next rfl rfl rfl rfl rfl rfl rfl (fun hcx=>Runs.geq rfl rfl rfl) ?_
  refine SeqC.or rfl rfl rfl rfl rfl rfl rfl ?_
  refine Zk9 1 4 5 7 10 11 12 13 22 (Zt ?_)
  refine Cd.cond rfl (fun h=> ?_) (fun h=> ?_)
  ·simp at h
   rw[if_pos (by omega)] at hsz
   refine Zsr ?_
   refine Zv (Runs.build rfl rfl (run_build_size _ _ _)) ?_
   refine Zo 2 k4 ?_
   intro w7 pw7
   replace bel:=bel.put k4 pw7 e4
   replace k5:=k5.put pw7 (by omega)
   replace k7:=k7.put pw7 (by omega)
   replace k4:=pw7.blk
   refine Zk9 1 4 5 7 10 11 12 13 22 (Zt (Cd.ret (Post.then_ret (Post.block_ret (Post.then_ret (Post.round_ret (Post.block_ret (Post.then_ret ?_))))))))
   refine Post.endC rfl rfl k4 Tryz.underlying105 rfl (m:=2) (by kernel_rfl) rfl (.inl rfl) ?_
   rw[←hsz]
   exact⟨rfl,bel⟩
  ·simp at h
   rw[if_neg (by omega)] at hsz
   have hat:at_+1≤1001:=by omega
   have hrec:=fun W (hb:Below w.heap.size w W)=>ih x (at_+1) B _ W (by omega) hat (hrx.below (hb.mono hB)) (Nat.le_trans hB hb.size)
   have hxs:=szF_Sz x (at_+1)
   have hws:=withS_Sz hs hxs
   refine Cd.skip (Zt ?_)
   refine Cd.draw 6 (by kernel_rfl) [] (.inl rfl) rfl Grow Grow.refl (fun _ _ _=>Grow.trans) ?_
   intro w7 hw7 zw7
   replace bel:=bel.step hw7
   replace k4:=k4.step hw7
   replace k5:=k5.step hw7
   replace k7:=k7.step hw7
   have zbel:=bel.size
   have zlt:=k7.lt
   refine Zd (fun w hG=>Runs.loadW rfl rfl Tryz.underlying105 rfl (k5.step hG) (m:=2) (by kernel_rfl) rfl) ?_
   refine Zd (fun w hG=>Runs.loadW rfl rfl Tryz.underlying35 rfl (k7.step hG) (m:=4) (by kernel_rfl) rfl) ?_
   refine Zdm ?_
   refine Zd (fun w hG=>Runs.addI rfl rfl rfl (by omega) (by omega)) ?_
   refine Dr.callV rfl (fun w=>Ze Tryz.func73) rfl (fun w hG=>hrec w (bel.step hG)) ?_
   refine Dr.callV rfl (fun w=>Ze Tryz.func103) rfl (fun w hG=>with_any s (szF x (at_+1)) w hs.1 hs.2 hxs.1 hxs.2) ?_
   refine Dr.nil ?_
   refine FinX.done (F':=[(1,_),(4,_),(5,_),(7,_),(10,_),(11,_),(12,_),(13,_),(22,_),(29,_)]) rfl ⟨rfl,rfl,rfl,rfl,rfl,rfl,rfl,rfl,rfl,rfl,trivial⟩ ?_
   intro w8 hw8 fw8
   replace bel:=bel.step hw8
   replace k4:=k4.step hw8
   replace k5:=k5.step hw8
   replace k7:=k7.step hw8
   refine Zo 2 k5 ?_
   intro w9 pw9
   replace bel:=bel.put k5 pw9 e5
   replace k4:=k4.put pw9 (by omega)
   replace k5:=pw9.blk
   refine Zk9 1 4 5 7 10 11 12 13 22 (Post.block_normal (Ztr ?_))
   refine Za_ ?_
   refine Zm ?_
   refine Zk9 1 4 5 7 10 11 12 13 22 ?_
   exact Post.round (k+1,withS s (szF x (at_+1))) ⟨rfl,rfl,rfl,rfl,rfl,rfl,trivial⟩ ⟨by simp only;omega,hws,hsz,bel,k4,k5⟩ (by simp only;omega)
 ·obtain rfl:k=e.args.length:=by omega
  rw[List.drop_of_length_le (Nat.le_refl _),szG_nil] at hsz
  refine Cd.exit (Post.then_exit (Post.round_exit (Post.block_exit (Ztq ?_))))
  refine Zv (Runs.loadW rfl rfl Tryz.underlying105 rfl k5 (m:=2) (by kernel_rfl) rfl) ?_
  refine Zo 2 k4 ?_
  intro w5 pw5
  replace bel:=bel.put k4 pw5 e4
  replace k5:=k5.put pw5 (by omega)
  replace k4:=pw5.blk
  refine Zk7 1 4 5 10 11 12 13 (Zt (Cd.ret ?_))
  refine Post.endC rfl rfl k4 Tryz.underlying105 rfl (m:=2) (by kernel_rfl) rfl (.inl rfl) ?_
  rw[←hsz]
  exact⟨rfl,bel⟩
theorem sizeExpr_any (N:Nat)(e:Ex)(at_:Nat)(B:Nat)(v:Value)(w:World)(hN:e.nodes≤N)(hd:e.depth+at_≤900)(hrep:Rep w B e v)(hB:B≤w.heap.size):Calls Tryz.prog 73 #[v, .int .i64 (at_:Int)] w fun en w'=>en= .returned (.agg #[.int .i64 (szE e).1, .int .i64 (szE e).2])∧Grow w w':=by
 rw[←szF_low hd]
 exact sizeExpr_all N e at_ B v w hN (by omega) hrep hB
end Go.Proofs.YtaamkfajnpobfaaGreat
namespace Go.Proofs.YtaamkfajnpobfaaGreat
open Go.RowKit
def idxP {α:Type}(p:α→Bool)(l:List α):Int:=match l.findIdx? p with|some i=>(i:Int)|none=> -1
theorem idxP_some {α:Type}{p:α→Bool}{l:List α}{i:Nat}{x:α}(h:l[i]? =some x)(hp:p x=true)(hb:∀y∈l.take i,p y=false):idxP p l=(i:Int):=by
 unfold idxP
 have:l.findIdx? p=some i:=by
  rw[List.findIdx?_eq_some_iff_getElem]
  obtain⟨hi,he⟩:=List.getElem?_eq_some_iff.1 h
  refine⟨hi,by rw[he];exact hp,fun j hj=> ?_⟩
  have:=hb (l[j]) (by rw[List.mem_take_iff_getElem];exact⟨j,by omega,rfl⟩)
  rw[this];simp
 rw[this]
theorem idxP_none {α:Type}{p:α→Bool}{l:List α}(hb:∀y∈l,p y=false):idxP p l= -1:=by
 unfold idxP
 have:l.findIdx? p=none:=by rw[List.findIdx?_eq_none_iff];exact hb
 rw[this]
theorem idxP_any {α:Type}(p:α→Bool)(l:List α):decide (0≤idxP p l)=l.any p:=by
 unfold idxP
 cases h:l.findIdx? p with
 |none=>
  rw[List.findIdx?_eq_none_iff] at h
  have:l.any p=false:=by rw[List.any_eq_false];exact fun x hx=>by rw[h x hx];simp
  rw[this];rfl
 |some i=>
  obtain⟨hi,he,-⟩:=List.findIdx?_eq_some_iff_getElem.1 h
  have:l.any p=true:=by rw[List.any_eq_true];exact⟨_,List.getElem_mem hi,he⟩
  rw[this];simp
theorem indexE_any (g:Nat)(cp:List Value)(p:Ex→Bool)(B:Nat)(A:Option Addr)(c:Nat)(e:Ex)(w:World)(hv:RepV w B e A c)(hB:B≤w.heap.size)
  (eg:∀args w,(callFunc g args).run Tryz.prog w= .ok (.enter g args) w) (hp:∀x∈e.args,∀v W,Below w.heap.size w W→Rep W B x v→Calls Tryz.prog g ([]++[v]++cp).toArray W fun en w'=>en= .returned (.bool (p x))∧Grow W w'):
  Calls Tryz.prog 140 #[.slice A e.args.length c, .func (.func g) #[] cp.toArray] w fun en w'=>en= .returned (.int .i64 (idxP p e.args))∧Grow w w':=by
 have bel:=Below.refl w.heap.size w
 have h60:=hv.h60
 obtain⟨n,hn⟩:∃n,n=e.args.length:=⟨_,rfl⟩
 rw[←hn] at h60⊢
 refine Zs 19 Tryz.func140 ?_
 refine Zsr ?_
 refine Za ?_
 refine Zk3 0 1 4 (Zts (Zsr ?_))
 refine Zm ?_
 refine Zv (Runs.len rfl rfl Tryz.underlying22) ?_
 refine Zm ?_
 refine Zk5 0 1 4 7 8 (Zt (Cd.block ?_))
 refine Cd.loop (σ:=Nat) (fun k=>[(0, .slice A n c),(1, .func (.func g) #[] cp.toArray),(7, .int .i64 (n:Int)),(8, .int .i64 (k:Int))])
  (fun k wr=>k≤n∧(∀y∈e.args.take k,p y=false)∧Below w.heap.size w wr) (fun k=>n-k) 0 ⟨Nat.zero_le _,by simp,bel⟩ ⟨rfl,rfl,rfl,rfl,trivial⟩ ?_
 clear bel
 rintro k wr ⟨hk,hno,bel⟩
 refine Zsr ?_
 refine Zv (Runs.lss rfl rfl rfl) ?_
 refine Zk5 0 1 7 8 9 (Zts ?_)
 refine Cd.condD rfl (fun hc=> ?_) (fun hc=> ?_)
 ·obtain⟨x,hx⟩:∃x,e.args[k]? =some x:=⟨_,List.getElem?_eq_getElem (show k<e.args.length by omega)⟩
  obtain⟨ad,A',c',rfl,hbl,hrx,hc⟩:=hv.arg k x hx
  have hc:=fun j u hj=>((bel.mono hB).cell (p:=(ad.add (k*4)).add j) (by rw[block_of_add,block_of_add];exact hbl)).trans (hc j u hj)
  have htk:e.args.take (k+1)=e.args.take k++[x]:=by rw[List.take_add_one,hx];rfl
  refine Cd.skip (Zts (Cd.block (Zsr ?_)))
  refine Zm ?_
  refine Za ?_
  refine Zk6 0 1 5 7 8 9 (Ztq ?_)
  refine Zm ?_
  refine Zm ?_
  refine Zm ?_
  refine Zv (Runs.indexN rfl rfl rfl Tryz.underlying22 (s:=4) (by kernel_rfl) (j:=k) rfl (by omega)) ?_
  refine Zv (Runs.loadF (ps:=[.int .i64 x.op, .int .i64 x.n, .string (strOf x.name), .slice A' x.args.length c']) rfl rfl Tryz.underlying35 rfl (m:=4) (by kernel_rfl) rfl hc) ?_
  refine Seq.call (Enters.value (first:=[]) (cap:=cp) rfl rfl rfl eg) rfl rfl rfl (hp x (List.mem_of_getElem? hx) _ _ bel (hrx.below (bel.mono hB))) ?_
  rintro en w5 ⟨rfl,hb5⟩
  refine⟨_,rfl,?_⟩
  replace bel:=bel.step hb5
  refine Zk7 0 1 5 7 8 9 16 (Zt ?_)
  refine Cd.cond rfl (fun h=> ?_) (fun h=> ?_)
  ·skip
   refine Zsr ?_
   refine Zm ?_
   refine Za ?_
   refine Zk8 0 1 4 5 7 8 9 16 (Zt (Cd.ret (Post.block_ret (Post.then_ret (Post.round_ret (Post.block_ret (Post.then_ret ?_)))))))
   refine Post.end1 rfl rfl (.inl rfl) ?_
   exact⟨ret1 (int_eq (idxP_some hx h hno).symm),bel⟩
  ·skip
   refine Cd.skip (Post.block_normal (Ztr ?_))
   refine Za_ ?_
   refine Zm ?_
   refine Zk7 0 1 5 7 8 9 16 ?_
   refine Post.round (k+1) ⟨rfl,rfl,rfl,rfl,trivial⟩ ⟨by omega,fun y hy=> ?_,bel⟩ (by omega)
   rw[htk] at hy
   rcases List.mem_append.1 hy with hy|hy
   ·exact hno y hy
   ·simp at hy;subst hy;exact h
 ·obtain rfl:k=n:=by omega
  rw[List.take_of_length_le (by omega)] at hno
  refine Cd.exit (Post.then_exit (Post.round_exit (Post.block_exit (Ztq ?_))))
  refine Za ?_
  refine Zk6 0 1 4 7 8 9 (Zt (Cd.ret ?_))
  refine Post.end1 rfl rfl (.inl rfl) ?_
  exact⟨ret1 (int_eq (idxP_none hno).symm),bel⟩
theorem containsE_any (g:Nat)(cp:List Value)(p:Ex→Bool)(B:Nat)(A:Option Addr)(c:Nat)(e:Ex)(w:World)(hv:RepV w B e A c)(hB:B≤w.heap.size)
  (eg:∀args w,(callFunc g args).run Tryz.prog w= .ok (.enter g args) w) (hp:∀x∈e.args,∀v W,Below w.heap.size w W→Rep W B x v→Calls Tryz.prog g ([]++[v]++cp).toArray W fun en w'=>en= .returned (.bool (p x))∧Grow W w'):
  Calls Tryz.prog 106 #[.slice A e.args.length c, .func (.func g) #[] cp.toArray] w fun en w'=>en= .returned (.bool (e.args.any p))∧Grow w w':=by
 have bel:=Below.refl w.heap.size w
 have hc:=fun W (hb:Below w.heap.size w W)=>indexE_any g cp p B A c e W (hv.below (hb.mono hB)) (Nat.le_trans hB hb.size) eg (fun x hx v W2 hb2 hr=>hp x hx v W2 (hb.trans (hb2.mono hb.size)) hr)
 have hany:=idxP_any p e.args
 obtain⟨n,hn⟩:∃n,n=e.args.length:=⟨_,rfl⟩
 rw[←hn] at hc⊢
 refine Zs 9 Tryz.func106 ?_
 refine Zsr ?_
 refine Za ?_
 refine Zk3 0 1 4 (Ztq ?_)
 refine Zm ?_
 refine Zm ?_
 refine Zc (Ze Tryz.func140) (hc _ bel) ?_
 rintro en w5 ⟨rfl,hb5⟩
 refine⟨_,rfl,?_⟩
 replace bel:=bel.step hb5
 refine Zv (Runs.geq rfl rfl rfl) ?_
 refine Za ?_
 refine Zk3 0 1 4 (Zt (Cd.ret ?_))
 refine Post.end1 rfl rfl (.inl rfl) ?_
 exact⟨ret1 (bool_eq hany),bel⟩
def headB (op n:Int)(nm:List Nat)(k:Nat):Bool:=decide (arityZ op=(k:Int))&& !(decide (n≠0)&&decide (op≠1)&&decide (op≠2))&& !(decide (nm≠ [])&&decide (op≠3))&& !decide (n<0)&& !(decide (op=2)&&decide (2932896<n))&& !(decide (op=3)&& !freeB nm)
mutual
def builtB:Ex→Bool
 | .mk op n nm l=>headB op n nm l.length&&builtL l
def builtL:List Ex→Bool
 | []=>true
 |e::r=>builtB e&&builtL r
end
theorem builtL_all:∀l,builtL l=l.all builtB
 | []=>by rw[builtL];rfl
 |e::r=>by rw[builtL,builtL_all r];rfl
theorem builtB_eq (e:Ex):builtB e=(headB e.op e.n e.name e.args.length&&e.args.all builtB):=by
 cases e;rw[builtB,builtL_all];rfl
theorem eg_built1:∀args w,(callFunc 121 args).run Tryz.prog w= .ok (.enter 121 args) w:=fun args w=>run_enter Tryz.func121 (by kernel_rfl) rfl args w
theorem headB_false {op n:Int}{nm:List Nat}{k:Nat}(h:¬(arityZ op=(k:Int)∧(n=0∨op=1∨op=2)∧(nm=[]∨op=3)∧0≤n∧(op=2→n≤2932896)∧(op=3→freeB nm=true))):headB op n nm k=false:=by
 cases hh:headB op n nm k with
 |false=>rfl
 |true=>
  exfalso
  apply h
  unfold headB at hh
  simp at hh
  obtain⟨⟨⟨⟨⟨h1,h2⟩,h3⟩,h4⟩,h5⟩,h6⟩:=hh
  exact⟨h1,by omega,h3,h4,by omega,fun h=>by
   rcases h6 with a|a
   ·exact absurd h a
   ·exact a⟩
theorem headB_true {op n:Int}{nm:List Nat}{k:Nat}(h1:arityZ op=(k:Int))(h2:n=0∨op=1∨op=2)(h3:nm=[]∨op=3)(h4:0≤n)(h5:op=2→n≤2932896)(h6:op=3→freeB nm=true):headB op n nm k=true:=by
 unfold headB
 simp
 refine⟨⟨⟨⟨⟨h1,by omega⟩,h3⟩,h4⟩,by omega⟩,?_⟩
 by_cases a:op=3
 ·exact .inr (h6 a)
 ·exact .inl a
theorem builtExpr_any (N:Nat):∀(e:Ex) (B:Nat) (v:Value) (w:World),e.nodes≤N→Rep w B e v→B≤w.heap.size→Calls Tryz.prog 74 #[v] w fun en w'=>en= .returned (.bool (builtB e))∧Grow w w':=by
 induction N with
 |zero=>intro e B v w hN;have:=e.nodes_pos;omega
 |succ N ih=>
 intro e B v w hN hrep hB
 obtain⟨A,c,rfl,hv⟩:=hrep.open
 have bel:=Below.refl w.heap.size w
 have HB1:=hv.name
 have HB2:∀d∈([]:List Nat),d<256:=by simp
 have hnl:=hv.nlen
 have h60:=hv.h60
 have hn1:=hv.n.1
 have hn2:=hv.n.2
 have hbt:=builtB_eq e
 have hcl:=fun W (hb:Below w.heap.size w W)=>containsE_any 121 [] (fun x=> !builtB x) B A c e W (hv.below (hb.mono hB)) (Nat.le_trans hB hb.size) eg_built1 (fun x hx v W2 hb2 hr=>by
  have hxn:=Ex.arg_nodes hx
  have hrec:=ih x B v
  have hs2:=Nat.le_trans hB (Nat.le_trans hb.size hb2.size)
  obtain⟨Ax,cx,rfl,-⟩:=hr.open
  have bel:=Below.refl W2.heap.size W2
  have hrec:=fun W3 (hb3:Below W2.heap.size W2 W3)=>hrec W3 (by omega) (hr.below (hb3.mono hs2)) (Nat.le_trans hs2 hb3.size)
  generalize builtB x=q at *
  refine Zs 6 Tryz.func121 ?_
  refine Zsr ?_
  refine Seq.box rfl rfl rfl rfl rfl ?_
  intro g1 w1 n1
  have e1:=Nat.le_trans bel.size n1.ge
  replace bel:=bel.step n1.below
  have k1:=n1.blk
  refine Za ?_
  refine Zk3 0 1 2 (Ztq ?_)
  refine Zv (Runs.loadW rfl rfl Tryz.underlying35 rfl k1 (m:=4) (by kernel_rfl) rfl) ?_
  refine Zc (Ze Tryz.func74) (hrec _ bel) ?_
  rintro en w5 ⟨rfl,hb5⟩
  refine⟨_,rfl,?_⟩
  replace bel:=bel.step hb5
  replace k1:=k1.step hb5
  refine Zv (Runs.not rfl rfl) ?_
  refine Za ?_
  refine Zk3 0 1 2 (Zt (Cd.ret ?_))
  refine Post.end1 rfl rfl (.inl rfl) ?_
  exact⟨rfl,bel⟩)
 obtain⟨op,hop⟩:∃op,op=e.op:=⟨_,rfl⟩
 obtain⟨n,hn⟩:∃n,n=e.n:=⟨_,rfl⟩
 obtain⟨nm,hnm⟩:∃nm,nm=e.name:=⟨_,rfl⟩
 obtain⟨k,hk⟩:∃k,k=e.args.length:=⟨_,rfl⟩
 rw[←hop,←hn,←hnm,←hk] at hbt
 rw[←hnm] at HB1 hnl
 rw[←hn] at hn1 hn2
 rw[←hk] at h60 hcl
 rw[←hop,←hn,←hnm,←hk]
 have hbf:∀_:¬(arityZ op=(k:Int)∧(n=0∨op=1∨op=2)∧(nm=[]∨op=3)∧0≤n∧(op=2→n≤2932896)∧(op=3→freeB nm=true)),builtB e=false:=fun h=>by rw[hbt,headB_false h];rfl
 generalize builtB e=b at *
 refine Zs 60 Tryz.func74 ?_
 refine Zsr ?_
 refine Seq.box rfl rfl rfl rfl rfl ?_
 intro g1 w1 n1
 have e1:=Nat.le_trans bel.size n1.ge
 replace bel:=bel.step n1.below
 have k1:=n1.blk
 refine Za ?_
 refine Zk3 0 1 2 (Zt ?_)
 refine Cd.seqJ (σ:=Unit) (fun _=>[(1, .pointer (some ⟨g1,0,none⟩))]) (fun _ wr=>(arityZ op=(k:Int)∧(n=0∨op=1∨op=2)∧(nm=[]∨op=3))∧Below w.heap.size w wr∧Blk wr g1 35 #[.int .i64 op, .int .i64 n, .string (strOf nm), .slice A k c]) ?_ ?_
 ·skip
  by_cases h1:arityZ op=(k:Int)
  ·by_cases h2:n=0
   ·skip
    by_cases h5:nm=[]
    ·skip
     refine Cd.seq ?_
     refine Cd.draw 32 (by kernel_rfl) [] (.inl rfl) rfl Grow Grow.refl (fun _ _ _=>Grow.trans) ?_
     intro w2 hw2 zw2
     replace bel:=bel.step hw2
     replace k1:=k1.step hw2
     have zbel:=bel.size
     have zlt:=k1.lt
     refine Dr.val Grow.refl rfl (fun w hG=>Runs.fieldB 0 rfl rfl Tryz.underlying35 rfl (by kernel_rfl)) rfl ?_
     refine Dr.val Grow.refl rfl (fun w hG=>Runs.loadB rfl rfl Tryz.underlying3 rfl (k1.step hG) rfl) rfl ?_
     refine Dr.callV rfl (fun w=>Ze Tryz.func120) rfl (fun w hG=>arity_any op w) ?_
     refine Dr.val Grow.refl rfl (fun w hG=>Runs.fieldB 3 rfl rfl Tryz.underlying35 rfl (by kernel_rfl)) rfl ?_
     refine Dr.val Grow.refl rfl (fun w hG=>Runs.loadB rfl rfl Tryz.underlying22 rfl (k1.step hG) rfl) rfl ?_
     refine Dr.val Grow.refl rfl (fun w hG=>Runs.len rfl rfl Tryz.underlying22) rfl ?_
     refine Dr.val Grow.refl rfl (fun w hG=>(Runs.neqI rfl rfl rfl).isF (by omega)) rfl ?_
     refine Dr.val Grow.refl rfl (fun w hG=>Runs.move rfl rfl) rfl ?_
     refine Dr.valG Grow.refl rfl (fun w hG=>Runs.fieldB 1 rfl rfl Tryz.underlying35 rfl (by kernel_rfl)) rfl rfl rfl ?_
     refine Dr.valG Grow.refl rfl (fun w hG=>Runs.loadB rfl rfl Tryz.underlying2 rfl (k1.step hG) rfl) rfl rfl rfl ?_
     refine Dr.valG Grow.refl rfl (fun w hG=>(Runs.neqI rfl rfl rfl).isF (by omega)) rfl rfl rfl ?_
     refine Dr.valG Grow.refl rfl (fun w hG=>Runs.move rfl rfl) rfl rfl rfl ?_
     refine Dr.skip rfl rfl rfl rfl rfl ?_
     refine Dr.skip rfl rfl rfl rfl rfl ?_
     refine Dr.skip rfl rfl rfl rfl rfl ?_
     refine Dr.valG Grow.refl rfl (fun w hG=>Runs.pickF rfl rfl rfl) rfl rfl rfl ?_
     refine Dr.valG Grow.refl rfl (fun w hG=>Runs.move rfl rfl) rfl rfl rfl ?_
     refine Dr.skip rfl rfl rfl rfl rfl ?_
     refine Dr.skip rfl rfl rfl rfl rfl ?_
     refine Dr.skip rfl rfl rfl rfl rfl ?_
     refine Dr.valG Grow.refl rfl (fun w hG=>Runs.pickF rfl rfl rfl) rfl rfl rfl ?_
     refine Dr.val Grow.refl rfl (fun w hG=>Runs.pickF rfl rfl rfl) rfl ?_
     refine Dr.val Grow.refl rfl (fun w hG=>Runs.move rfl rfl) rfl ?_
     refine Dr.valG Grow.refl rfl (fun w hG=>Runs.fieldB 2 rfl rfl Tryz.underlying35 rfl (by kernel_rfl)) rfl rfl rfl ?_
     refine Dr.valG Grow.refl rfl (fun w hG=>Runs.loadB rfl rfl Tryz.underlying9 rfl (k1.step hG) rfl) rfl rfl rfl ?_
     refine Dr.valG Grow.refl rfl (fun w hG=>(Runs.neqL (b:=[]) rfl rfl rfl HB1 HB2).isF (by simp[h5])) rfl rfl rfl ?_
     refine Dr.valG Grow.refl rfl (fun w hG=>Runs.move rfl rfl) rfl rfl rfl ?_
     refine Dr.skip rfl rfl rfl rfl rfl ?_
     refine Dr.skip rfl rfl rfl rfl rfl ?_
     refine Dr.skip rfl rfl rfl rfl rfl ?_
     refine Dr.valG Grow.refl rfl (fun w hG=>Runs.pickF rfl rfl rfl) rfl rfl rfl ?_
     refine Dr.val Grow.refl rfl (fun w hG=>Runs.pickF rfl rfl rfl) rfl ?_
     refine Dr.nil ?_
     refine FinX.done (F':=[(0,_),(1,_),(2,_),(34,_)]) rfl ⟨rfl,rfl,rfl,rfl,trivial⟩ ?_
     intro w3 hw3 fw3
     replace bel:=bel.step hw3
     replace k1:=k1.step hw3
     refine Zk4 0 1 2 34 (Zt ?_)
     refine Cd.condF rfl rfl ?_
     refine Cd.skip ?_
     exact Post.join () ⟨rfl,trivial⟩ ⟨⟨h1, .inl h2, .inl h5⟩,bel,k1⟩
    ·by_cases h6:op=3
     ·skip
      refine Cd.seq ?_
      refine Cd.draw 32 (by kernel_rfl) [] (.inl rfl) rfl Grow Grow.refl (fun _ _ _=>Grow.trans) ?_
      intro w2 hw2 zw2
      replace bel:=bel.step hw2
      replace k1:=k1.step hw2
      have zbel:=bel.size
      have zlt:=k1.lt
      refine Dr.val Grow.refl rfl (fun w hG=>Runs.fieldB 0 rfl rfl Tryz.underlying35 rfl (by kernel_rfl)) rfl ?_
      refine Dr.val Grow.refl rfl (fun w hG=>Runs.loadB rfl rfl Tryz.underlying3 rfl (k1.step hG) rfl) rfl ?_
      refine Dr.callV rfl (fun w=>Ze Tryz.func120) rfl (fun w hG=>arity_any op w) ?_
      refine Dr.val Grow.refl rfl (fun w hG=>Runs.fieldB 3 rfl rfl Tryz.underlying35 rfl (by kernel_rfl)) rfl ?_
      refine Dr.val Grow.refl rfl (fun w hG=>Runs.loadB rfl rfl Tryz.underlying22 rfl (k1.step hG) rfl) rfl ?_
      refine Dr.val Grow.refl rfl (fun w hG=>Runs.len rfl rfl Tryz.underlying22) rfl ?_
      refine Dr.val Grow.refl rfl (fun w hG=>(Runs.neqI rfl rfl rfl).isF (by omega)) rfl ?_
      refine Dr.val Grow.refl rfl (fun w hG=>Runs.move rfl rfl) rfl ?_
      refine Dr.valG Grow.refl rfl (fun w hG=>Runs.fieldB 1 rfl rfl Tryz.underlying35 rfl (by kernel_rfl)) rfl rfl rfl ?_
      refine Dr.valG Grow.refl rfl (fun w hG=>Runs.loadB rfl rfl Tryz.underlying2 rfl (k1.step hG) rfl) rfl rfl rfl ?_
      refine Dr.valG Grow.refl rfl (fun w hG=>(Runs.neqI rfl rfl rfl).isF (by omega)) rfl rfl rfl ?_
      refine Dr.valG Grow.refl rfl (fun w hG=>Runs.move rfl rfl) rfl rfl rfl ?_
      refine Dr.skip rfl rfl rfl rfl rfl ?_
      refine Dr.skip rfl rfl rfl rfl rfl ?_
      refine Dr.skip rfl rfl rfl rfl rfl ?_
      refine Dr.valG Grow.refl rfl (fun w hG=>Runs.pickF rfl rfl rfl) rfl rfl rfl ?_
      refine Dr.valG Grow.refl rfl (fun w hG=>Runs.move rfl rfl) rfl rfl rfl ?_
      refine Dr.skip rfl rfl rfl rfl rfl ?_
      refine Dr.skip rfl rfl rfl rfl rfl ?_
      refine Dr.skip rfl rfl rfl rfl rfl ?_
      refine Dr.valG Grow.refl rfl (fun w hG=>Runs.pickF rfl rfl rfl) rfl rfl rfl ?_
      refine Dr.val Grow.refl rfl (fun w hG=>Runs.pickF rfl rfl rfl) rfl ?_
      refine Dr.val Grow.refl rfl (fun w hG=>Runs.move rfl rfl) rfl ?_
      refine Dr.valG Grow.refl rfl (fun w hG=>Runs.fieldB 2 rfl rfl Tryz.underlying35 rfl (by kernel_rfl)) rfl rfl rfl ?_
      refine Dr.valG Grow.refl rfl (fun w hG=>Runs.loadB rfl rfl Tryz.underlying9 rfl (k1.step hG) rfl) rfl rfl rfl ?_
      refine Dr.valG Grow.refl rfl (fun w hG=>(Runs.neqL (b:=[]) rfl rfl rfl HB1 HB2).isT (h5)) rfl rfl rfl ?_
      refine Dr.valG Grow.refl rfl (fun w hG=>Runs.move rfl rfl) rfl rfl rfl ?_
      refine Dr.valG Grow.refl rfl (fun w hG=>Runs.fieldB 0 rfl rfl Tryz.underlying35 rfl (by kernel_rfl)) rfl rfl rfl ?_
      refine Dr.valG Grow.refl rfl (fun w hG=>Runs.loadB rfl rfl Tryz.underlying3 rfl (k1.step hG) rfl) rfl rfl rfl ?_
      refine Dr.valG Grow.refl rfl (fun w hG=>(Runs.neqI rfl rfl rfl).isF (by omega)) rfl rfl rfl ?_
      refine Dr.valG Grow.refl rfl (fun w hG=>Runs.pickT rfl rfl rfl) rfl rfl rfl ?_
      refine Dr.val Grow.refl rfl (fun w hG=>Runs.pickF rfl rfl rfl) rfl ?_
      refine Dr.nil ?_
      refine FinX.done (F':=[(0,_),(1,_),(2,_),(34,_)]) rfl ⟨rfl,rfl,rfl,rfl,trivial⟩ ?_
      intro w3 hw3 fw3
      replace bel:=bel.step hw3
      replace k1:=k1.step hw3
      refine Zk4 0 1 2 34 (Zt ?_)
      refine Cd.condF rfl rfl ?_
      refine Cd.skip ?_
      exact Post.join () ⟨rfl,trivial⟩ ⟨⟨h1, .inl h2, .inr h6⟩,bel,k1⟩
     ·skip
      refine Cd.seq ?_
      refine Cd.draw 32 (by kernel_rfl) [] (.inl rfl) rfl Grow Grow.refl (fun _ _ _=>Grow.trans) ?_
      intro w2 hw2 zw2
      replace bel:=bel.step hw2
      replace k1:=k1.step hw2
      have zbel:=bel.size
      have zlt:=k1.lt
      refine Dr.val Grow.refl rfl (fun w hG=>Runs.fieldB 0 rfl rfl Tryz.underlying35 rfl (by kernel_rfl)) rfl ?_
      refine Dr.val Grow.refl rfl (fun w hG=>Runs.loadB rfl rfl Tryz.underlying3 rfl (k1.step hG) rfl) rfl ?_
      refine Dr.callV rfl (fun w=>Ze Tryz.func120) rfl (fun w hG=>arity_any op w) ?_
      refine Dr.val Grow.refl rfl (fun w hG=>Runs.fieldB 3 rfl rfl Tryz.underlying35 rfl (by kernel_rfl)) rfl ?_
      refine Dr.val Grow.refl rfl (fun w hG=>Runs.loadB rfl rfl Tryz.underlying22 rfl (k1.step hG) rfl) rfl ?_
      refine Dr.val Grow.refl rfl (fun w hG=>Runs.len rfl rfl Tryz.underlying22) rfl ?_
      refine Dr.val Grow.refl rfl (fun w hG=>(Runs.neqI rfl rfl rfl).isF (by omega)) rfl ?_
      refine Dr.val Grow.refl rfl (fun w hG=>Runs.move rfl rfl) rfl ?_
      refine Dr.valG Grow.refl rfl (fun w hG=>Runs.fieldB 1 rfl rfl Tryz.underlying35 rfl (by kernel_rfl)) rfl rfl rfl ?_
      refine Dr.valG Grow.refl rfl (fun w hG=>Runs.loadB rfl rfl Tryz.underlying2 rfl (k1.step hG) rfl) rfl rfl rfl ?_
      refine Dr.valG Grow.refl rfl (fun w hG=>(Runs.neqI rfl rfl rfl).isF (by omega)) rfl rfl rfl ?_
      refine Dr.valG Grow.refl rfl (fun w hG=>Runs.move rfl rfl) rfl rfl rfl ?_
      refine Dr.skip rfl rfl rfl rfl rfl ?_
      refine Dr.skip rfl rfl rfl rfl rfl ?_
      refine Dr.skip rfl rfl rfl rfl rfl ?_
      refine Dr.valG Grow.refl rfl (fun w hG=>Runs.pickF rfl rfl rfl) rfl rfl rfl ?_
      refine Dr.valG Grow.refl rfl (fun w hG=>Runs.move rfl rfl) rfl rfl rfl ?_
      refine Dr.skip rfl rfl rfl rfl rfl ?_
      refine Dr.skip rfl rfl rfl rfl rfl ?_
      refine Dr.skip rfl rfl rfl rfl rfl ?_
      refine Dr.valG Grow.refl rfl (fun w hG=>Runs.pickF rfl rfl rfl) rfl rfl rfl ?_
      refine Dr.val Grow.refl rfl (fun w hG=>Runs.pickF rfl rfl rfl) rfl ?_
      refine Dr.val Grow.refl rfl (fun w hG=>Runs.move rfl rfl) rfl ?_
      refine Dr.valG Grow.refl rfl (fun w hG=>Runs.fieldB 2 rfl rfl Tryz.underlying35 rfl (by kernel_rfl)) rfl rfl rfl ?_
      refine Dr.valG Grow.refl rfl (fun w hG=>Runs.loadB rfl rfl Tryz.underlying9 rfl (k1.step hG) rfl) rfl rfl rfl ?_
      refine Dr.valG Grow.refl rfl (fun w hG=>(Runs.neqL (b:=[]) rfl rfl rfl HB1 HB2).isT (h5)) rfl rfl rfl ?_
      refine Dr.valG Grow.refl rfl (fun w hG=>Runs.move rfl rfl) rfl rfl rfl ?_
      refine Dr.valG Grow.refl rfl (fun w hG=>Runs.fieldB 0 rfl rfl Tryz.underlying35 rfl (by kernel_rfl)) rfl rfl rfl ?_
      refine Dr.valG Grow.refl rfl (fun w hG=>Runs.loadB rfl rfl Tryz.underlying3 rfl (k1.step hG) rfl) rfl rfl rfl ?_
      refine Dr.valG Grow.refl rfl (fun w hG=>(Runs.neqI rfl rfl rfl).isT (h6)) rfl rfl rfl ?_
      refine Dr.valG Grow.refl rfl (fun w hG=>Runs.pickT rfl rfl rfl) rfl rfl rfl ?_
      refine Dr.val Grow.refl rfl (fun w hG=>Runs.pickF rfl rfl rfl) rfl ?_
      refine Dr.nil ?_
      refine FinX.done (F':=[(0,_),(1,_),(2,_),(34,_)]) rfl ⟨rfl,rfl,rfl,rfl,trivial⟩ ?_
      intro w3 hw3 fw3
      replace bel:=bel.step hw3
      replace k1:=k1.step hw3
      refine Zk4 0 1 2 34 (Zt ?_)
      refine Cd.condT rfl rfl ?_
      refine Zsr ?_
      refine Za ?_
      refine Zk4 0 1 2 34 (Zt (Cd.ret (Post.then_ret ?_)))
      refine Post.end1 rfl rfl (.inl rfl) ?_
      rw[hbf (by rintro⟨-,-,h,-⟩;rcases h with h|h;exact h5 h;exact h6 h)]
      exact⟨rfl,bel⟩
   ·by_cases h3:op=1
    ·skip
     by_cases h5:nm=[]
     ·skip
      refine Cd.seq ?_
      refine Cd.draw 32 (by kernel_rfl) [] (.inl rfl) rfl Grow Grow.refl (fun _ _ _=>Grow.trans) ?_
      intro w2 hw2 zw2
      replace bel:=bel.step hw2
      replace k1:=k1.step hw2
      have zbel:=bel.size
      have zlt:=k1.lt
      refine Dr.val Grow.refl rfl (fun w hG=>Runs.fieldB 0 rfl rfl Tryz.underlying35 rfl (by kernel_rfl)) rfl ?_
      refine Dr.val Grow.refl rfl (fun w hG=>Runs.loadB rfl rfl Tryz.underlying3 rfl (k1.step hG) rfl) rfl ?_
      refine Dr.callV rfl (fun w=>Ze Tryz.func120) rfl (fun w hG=>arity_any op w) ?_
      refine Dr.val Grow.refl rfl (fun w hG=>Runs.fieldB 3 rfl rfl Tryz.underlying35 rfl (by kernel_rfl)) rfl ?_
      refine Dr.val Grow.refl rfl (fun w hG=>Runs.loadB rfl rfl Tryz.underlying22 rfl (k1.step hG) rfl) rfl ?_
      refine Dr.val Grow.refl rfl (fun w hG=>Runs.len rfl rfl Tryz.underlying22) rfl ?_
      refine Dr.val Grow.refl rfl (fun w hG=>(Runs.neqI rfl rfl rfl).isF (by omega)) rfl ?_
      refine Dr.val Grow.refl rfl (fun w hG=>Runs.move rfl rfl) rfl ?_
      refine Dr.valG Grow.refl rfl (fun w hG=>Runs.fieldB 1 rfl rfl Tryz.underlying35 rfl (by kernel_rfl)) rfl rfl rfl ?_
      refine Dr.valG Grow.refl rfl (fun w hG=>Runs.loadB rfl rfl Tryz.underlying2 rfl (k1.step hG) rfl) rfl rfl rfl ?_
      refine Dr.valG Grow.refl rfl (fun w hG=>(Runs.neqI rfl rfl rfl).isT (h2)) rfl rfl rfl ?_
      refine Dr.valG Grow.refl rfl (fun w hG=>Runs.move rfl rfl) rfl rfl rfl ?_
      refine Dr.valG Grow.refl rfl (fun w hG=>Runs.fieldB 0 rfl rfl Tryz.underlying35 rfl (by kernel_rfl)) rfl rfl rfl ?_
      refine Dr.valG Grow.refl rfl (fun w hG=>Runs.loadB rfl rfl Tryz.underlying3 rfl (k1.step hG) rfl) rfl rfl rfl ?_
      refine Dr.valG Grow.refl rfl (fun w hG=>(Runs.neqI rfl rfl rfl).isF (by omega)) rfl rfl rfl ?_
      refine Dr.valG Grow.refl rfl (fun w hG=>Runs.pickT rfl rfl rfl) rfl rfl rfl ?_
      refine Dr.valG Grow.refl rfl (fun w hG=>Runs.move rfl rfl) rfl rfl rfl ?_
      refine Dr.skip rfl rfl rfl rfl rfl ?_
      refine Dr.skip rfl rfl rfl rfl rfl ?_
      refine Dr.skip rfl rfl rfl rfl rfl ?_
      refine Dr.valG Grow.refl rfl (fun w hG=>Runs.pickF rfl rfl rfl) rfl rfl rfl ?_
      refine Dr.val Grow.refl rfl (fun w hG=>Runs.pickF rfl rfl rfl) rfl ?_
      refine Dr.val Grow.refl rfl (fun w hG=>Runs.move rfl rfl) rfl ?_
      refine Dr.valG Grow.refl rfl (fun w hG=>Runs.fieldB 2 rfl rfl Tryz.underlying35 rfl (by kernel_rfl)) rfl rfl rfl ?_
      refine Dr.valG Grow.refl rfl (fun w hG=>Runs.loadB rfl rfl Tryz.underlying9 rfl (k1.step hG) rfl) rfl rfl rfl ?_
      refine Dr.valG Grow.refl rfl (fun w hG=>(Runs.neqL (b:=[]) rfl rfl rfl HB1 HB2).isF (by simp[h5])) rfl rfl rfl ?_
      refine Dr.valG Grow.refl rfl (fun w hG=>Runs.move rfl rfl) rfl rfl rfl ?_
      refine Dr.skip rfl rfl rfl rfl rfl ?_
      refine Dr.skip rfl rfl rfl rfl rfl ?_
      refine Dr.skip rfl rfl rfl rfl rfl ?_
      refine Dr.valG Grow.refl rfl (fun w hG=>Runs.pickF rfl rfl rfl) rfl rfl rfl ?_
      refine Dr.val Grow.refl rfl (fun w hG=>Runs.pickF rfl rfl rfl) rfl ?_
      refine Dr.nil ?_
      refine FinX.done (F':=[(0,_),(1,_),(2,_),(34,_)]) rfl ⟨rfl,rfl,rfl,rfl,trivial⟩ ?_
      intro w3 hw3 fw3
      replace bel:=bel.step hw3
      replace k1:=k1.step hw3
      refine Zk4 0 1 2 34 (Zt ?_)
      refine Cd.condF rfl rfl ?_
      refine Cd.skip ?_
      exact Post.join () ⟨rfl,trivial⟩ ⟨⟨h1, .inr (.inl h3), .inl h5⟩,bel,k1⟩
     ·by_cases h6:op=3
      ·skip
       refine Cd.seq ?_
       refine Cd.draw 32 (by kernel_rfl) [] (.inl rfl) rfl Grow Grow.refl (fun _ _ _=>Grow.trans) ?_
       intro w2 hw2 zw2
       replace bel:=bel.step hw2
       replace k1:=k1.step hw2
       have zbel:=bel.size
       have zlt:=k1.lt
       refine Dr.val Grow.refl rfl (fun w hG=>Runs.fieldB 0 rfl rfl Tryz.underlying35 rfl (by kernel_rfl)) rfl ?_
       refine Dr.val Grow.refl rfl (fun w hG=>Runs.loadB rfl rfl Tryz.underlying3 rfl (k1.step hG) rfl) rfl ?_
       refine Dr.callV rfl (fun w=>Ze Tryz.func120) rfl (fun w hG=>arity_any op w) ?_
       refine Dr.val Grow.refl rfl (fun w hG=>Runs.fieldB 3 rfl rfl Tryz.underlying35 rfl (by kernel_rfl)) rfl ?_
       refine Dr.val Grow.refl rfl (fun w hG=>Runs.loadB rfl rfl Tryz.underlying22 rfl (k1.step hG) rfl) rfl ?_
       refine Dr.val Grow.refl rfl (fun w hG=>Runs.len rfl rfl Tryz.underlying22) rfl ?_
       refine Dr.val Grow.refl rfl (fun w hG=>(Runs.neqI rfl rfl rfl).isF (by omega)) rfl ?_
       refine Dr.val Grow.refl rfl (fun w hG=>Runs.move rfl rfl) rfl ?_
       refine Dr.valG Grow.refl rfl (fun w hG=>Runs.fieldB 1 rfl rfl Tryz.underlying35 rfl (by kernel_rfl)) rfl rfl rfl ?_
       refine Dr.valG Grow.refl rfl (fun w hG=>Runs.loadB rfl rfl Tryz.underlying2 rfl (k1.step hG) rfl) rfl rfl rfl ?_
       refine Dr.valG Grow.refl rfl (fun w hG=>(Runs.neqI rfl rfl rfl).isT (h2)) rfl rfl rfl ?_
       refine Dr.valG Grow.refl rfl (fun w hG=>Runs.move rfl rfl) rfl rfl rfl ?_
       refine Dr.valG Grow.refl rfl (fun w hG=>Runs.fieldB 0 rfl rfl Tryz.underlying35 rfl (by kernel_rfl)) rfl rfl rfl ?_
       refine Dr.valG Grow.refl rfl (fun w hG=>Runs.loadB rfl rfl Tryz.underlying3 rfl (k1.step hG) rfl) rfl rfl rfl ?_
       refine Dr.valG Grow.refl rfl (fun w hG=>(Runs.neqI rfl rfl rfl).isF (by omega)) rfl rfl rfl ?_
       refine Dr.valG Grow.refl rfl (fun w hG=>Runs.pickT rfl rfl rfl) rfl rfl rfl ?_
       refine Dr.valG Grow.refl rfl (fun w hG=>Runs.move rfl rfl) rfl rfl rfl ?_
       refine Dr.skip rfl rfl rfl rfl rfl ?_
       refine Dr.skip rfl rfl rfl rfl rfl ?_
       refine Dr.skip rfl rfl rfl rfl rfl ?_
       refine Dr.valG Grow.refl rfl (fun w hG=>Runs.pickF rfl rfl rfl) rfl rfl rfl ?_
       refine Dr.val Grow.refl rfl (fun w hG=>Runs.pickF rfl rfl rfl) rfl ?_
       refine Dr.val Grow.refl rfl (fun w hG=>Runs.move rfl rfl) rfl ?_
       refine Dr.valG Grow.refl rfl (fun w hG=>Runs.fieldB 2 rfl rfl Tryz.underlying35 rfl (by kernel_rfl)) rfl rfl rfl ?_
       refine Dr.valG Grow.refl rfl (fun w hG=>Runs.loadB rfl rfl Tryz.underlying9 rfl (k1.step hG) rfl) rfl rfl rfl ?_
       refine Dr.valG Grow.refl rfl (fun w hG=>(Runs.neqL (b:=[]) rfl rfl rfl HB1 HB2).isT (h5)) rfl rfl rfl ?_
       refine Dr.valG Grow.refl rfl (fun w hG=>Runs.move rfl rfl) rfl rfl rfl ?_
       refine Dr.valG Grow.refl rfl (fun w hG=>Runs.fieldB 0 rfl rfl Tryz.underlying35 rfl (by kernel_rfl)) rfl rfl rfl ?_
       refine Dr.valG Grow.refl rfl (fun w hG=>Runs.loadB rfl rfl Tryz.underlying3 rfl (k1.step hG) rfl) rfl rfl rfl ?_
       refine Dr.valG Grow.refl rfl (fun w hG=>(Runs.neqI rfl rfl rfl).isF (by omega)) rfl rfl rfl ?_
       refine Dr.valG Grow.refl rfl (fun w hG=>Runs.pickT rfl rfl rfl) rfl rfl rfl ?_
       refine Dr.val Grow.refl rfl (fun w hG=>Runs.pickF rfl rfl rfl) rfl ?_
       refine Dr.nil ?_
       refine FinX.done (F':=[(0,_),(1,_),(2,_),(34,_)]) rfl ⟨rfl,rfl,rfl,rfl,trivial⟩ ?_
       intro w3 hw3 fw3
       replace bel:=bel.step hw3
       replace k1:=k1.step hw3
       refine Zk4 0 1 2 34 (Zt ?_)
       refine Cd.condF rfl rfl ?_
       refine Cd.skip ?_
       exact Post.join () ⟨rfl,trivial⟩ ⟨⟨h1, .inr (.inl h3), .inr h6⟩,bel,k1⟩
      ·skip
       refine Cd.seq ?_
       refine Cd.draw 32 (by kernel_rfl) [] (.inl rfl) rfl Grow Grow.refl (fun _ _ _=>Grow.trans) ?_
       intro w2 hw2 zw2
       replace bel:=bel.step hw2
       replace k1:=k1.step hw2
       have zbel:=bel.size
       have zlt:=k1.lt
       refine Dr.val Grow.refl rfl (fun w hG=>Runs.fieldB 0 rfl rfl Tryz.underlying35 rfl (by kernel_rfl)) rfl ?_
       refine Dr.val Grow.refl rfl (fun w hG=>Runs.loadB rfl rfl Tryz.underlying3 rfl (k1.step hG) rfl) rfl ?_
       refine Dr.callV rfl (fun w=>Ze Tryz.func120) rfl (fun w hG=>arity_any op w) ?_
       refine Dr.val Grow.refl rfl (fun w hG=>Runs.fieldB 3 rfl rfl Tryz.underlying35 rfl (by kernel_rfl)) rfl ?_
       refine Dr.val Grow.refl rfl (fun w hG=>Runs.loadB rfl rfl Tryz.underlying22 rfl (k1.step hG) rfl) rfl ?_
       refine Dr.val Grow.refl rfl (fun w hG=>Runs.len rfl rfl Tryz.underlying22) rfl ?_
       refine Dr.val Grow.refl rfl (fun w hG=>(Runs.neqI rfl rfl rfl).isF (by omega)) rfl ?_
       refine Dr.val Grow.refl rfl (fun w hG=>Runs.move rfl rfl) rfl ?_
       refine Dr.valG Grow.refl rfl (fun w hG=>Runs.fieldB 1 rfl rfl Tryz.underlying35 rfl (by kernel_rfl)) rfl rfl rfl ?_
       refine Dr.valG Grow.refl rfl (fun w hG=>Runs.loadB rfl rfl Tryz.underlying2 rfl (k1.step hG) rfl) rfl rfl rfl ?_
       refine Dr.valG Grow.refl rfl (fun w hG=>(Runs.neqI rfl rfl rfl).isT (h2)) rfl rfl rfl ?_
       refine Dr.valG Grow.refl rfl (fun w hG=>Runs.move rfl rfl) rfl rfl rfl ?_
       refine Dr.valG Grow.refl rfl (fun w hG=>Runs.fieldB 0 rfl rfl Tryz.underlying35 rfl (by kernel_rfl)) rfl rfl rfl ?_
       refine Dr.valG Grow.refl rfl (fun w hG=>Runs.loadB rfl rfl Tryz.underlying3 rfl (k1.step hG) rfl) rfl rfl rfl ?_
       refine Dr.valG Grow.refl rfl (fun w hG=>(Runs.neqI rfl rfl rfl).isF (by omega)) rfl rfl rfl ?_
       refine Dr.valG Grow.refl rfl (fun w hG=>Runs.pickT rfl rfl rfl) rfl rfl rfl ?_
       refine Dr.valG Grow.refl rfl (fun w hG=>Runs.move rfl rfl) rfl rfl rfl ?_
       refine Dr.skip rfl rfl rfl rfl rfl ?_
       refine Dr.skip rfl rfl rfl rfl rfl ?_
       refine Dr.skip rfl rfl rfl rfl rfl ?_
       refine Dr.valG Grow.refl rfl (fun w hG=>Runs.pickF rfl rfl rfl) rfl rfl rfl ?_
       refine Dr.val Grow.refl rfl (fun w hG=>Runs.pickF rfl rfl rfl) rfl ?_
       refine Dr.val Grow.refl rfl (fun w hG=>Runs.move rfl rfl) rfl ?_
       refine Dr.valG Grow.refl rfl (fun w hG=>Runs.fieldB 2 rfl rfl Tryz.underlying35 rfl (by kernel_rfl)) rfl rfl rfl ?_
       refine Dr.valG Grow.refl rfl (fun w hG=>Runs.loadB rfl rfl Tryz.underlying9 rfl (k1.step hG) rfl) rfl rfl rfl ?_
       refine Dr.valG Grow.refl rfl (fun w hG=>(Runs.neqL (b:=[]) rfl rfl rfl HB1 HB2).isT (h5)) rfl rfl rfl ?_
       refine Dr.valG Grow.refl rfl (fun w hG=>Runs.move rfl rfl) rfl rfl rfl ?_
       refine Dr.valG Grow.refl rfl (fun w hG=>Runs.fieldB 0 rfl rfl Tryz.underlying35 rfl (by kernel_rfl)) rfl rfl rfl ?_
       refine Dr.valG Grow.refl rfl (fun w hG=>Runs.loadB rfl rfl Tryz.underlying3 rfl (k1.step hG) rfl) rfl rfl rfl ?_
       refine Dr.valG Grow.refl rfl (fun w hG=>(Runs.neqI rfl rfl rfl).isT (h6)) rfl rfl rfl ?_
       refine Dr.valG Grow.refl rfl (fun w hG=>Runs.pickT rfl rfl rfl) rfl rfl rfl ?_
       refine Dr.val Grow.refl rfl (fun w hG=>Runs.pickF rfl rfl rfl) rfl ?_
       refine Dr.nil ?_
       refine FinX.done (F':=[(0,_),(1,_),(2,_),(34,_)]) rfl ⟨rfl,rfl,rfl,rfl,trivial⟩ ?_
       intro w3 hw3 fw3
       replace bel:=bel.step hw3
       replace k1:=k1.step hw3
       refine Zk4 0 1 2 34 (Zt ?_)
       refine Cd.condT rfl rfl ?_
       refine Zsr ?_
       refine Za ?_
       refine Zk4 0 1 2 34 (Zt (Cd.ret (Post.then_ret ?_)))
       refine Post.end1 rfl rfl (.inl rfl) ?_
       rw[hbf (by rintro⟨-,-,h,-⟩;rcases h with h|h;exact h5 h;exact h6 h)]
       exact⟨rfl,bel⟩
    ·by_cases h4:op=2
     ·skip
      by_cases h5:nm=[]
      ·skip
       refine Cd.seq ?_
       refine Cd.draw 32 (by kernel_rfl) [] (.inl rfl) rfl Grow Grow.refl (fun _ _ _=>Grow.trans) ?_
       intro w2 hw2 zw2
       replace bel:=bel.step hw2
       replace k1:=k1.step hw2
       have zbel:=bel.size
       have zlt:=k1.lt
       refine Dr.val Grow.refl rfl (fun w hG=>Runs.fieldB 0 rfl rfl Tryz.underlying35 rfl (by kernel_rfl)) rfl ?_
       refine Dr.val Grow.refl rfl (fun w hG=>Runs.loadB rfl rfl Tryz.underlying3 rfl (k1.step hG) rfl) rfl ?_
       refine Dr.callV rfl (fun w=>Ze Tryz.func120) rfl (fun w hG=>arity_any op w) ?_
       refine Dr.val Grow.refl rfl (fun w hG=>Runs.fieldB 3 rfl rfl Tryz.underlying35 rfl (by kernel_rfl)) rfl ?_
       refine Dr.val Grow.refl rfl (fun w hG=>Runs.loadB rfl rfl Tryz.underlying22 rfl (k1.step hG) rfl) rfl ?_
       refine Dr.val Grow.refl rfl (fun w hG=>Runs.len rfl rfl Tryz.underlying22) rfl ?_
       refine Dr.val Grow.refl rfl (fun w hG=>(Runs.neqI rfl rfl rfl).isF (by omega)) rfl ?_
       refine Dr.val Grow.refl rfl (fun w hG=>Runs.move rfl rfl) rfl ?_
       refine Dr.valG Grow.refl rfl (fun w hG=>Runs.fieldB 1 rfl rfl Tryz.underlying35 rfl (by kernel_rfl)) rfl rfl rfl ?_
       refine Dr.valG Grow.refl rfl (fun w hG=>Runs.loadB rfl rfl Tryz.underlying2 rfl (k1.step hG) rfl) rfl rfl rfl ?_
       refine Dr.valG Grow.refl rfl (fun w hG=>(Runs.neqI rfl rfl rfl).isT (h2)) rfl rfl rfl ?_
       refine Dr.valG Grow.refl rfl (fun w hG=>Runs.move rfl rfl) rfl rfl rfl ?_
       refine Dr.valG Grow.refl rfl (fun w hG=>Runs.fieldB 0 rfl rfl Tryz.underlying35 rfl (by kernel_rfl)) rfl rfl rfl ?_
       refine Dr.valG Grow.refl rfl (fun w hG=>Runs.loadB rfl rfl Tryz.underlying3 rfl (k1.step hG) rfl) rfl rfl rfl ?_
       refine Dr.valG Grow.refl rfl (fun w hG=>(Runs.neqI rfl rfl rfl).isT (h3)) rfl rfl rfl ?_
       refine Dr.valG Grow.refl rfl (fun w hG=>Runs.pickT rfl rfl rfl) rfl rfl rfl ?_
       refine Dr.valG Grow.refl rfl (fun w hG=>Runs.move rfl rfl) rfl rfl rfl ?_
       refine Dr.valG Grow.refl rfl (fun w hG=>Runs.fieldB 0 rfl rfl Tryz.underlying35 rfl (by kernel_rfl)) rfl rfl rfl ?_
       refine Dr.valG Grow.refl rfl (fun w hG=>Runs.loadB rfl rfl Tryz.underlying3 rfl (k1.step hG) rfl) rfl rfl rfl ?_
       refine Dr.valG Grow.refl rfl (fun w hG=>(Runs.neqI rfl rfl rfl).isF (by omega)) rfl rfl rfl ?_
       refine Dr.valG Grow.refl rfl (fun w hG=>Runs.pickT rfl rfl rfl) rfl rfl rfl ?_
       refine Dr.val Grow.refl rfl (fun w hG=>Runs.pickF rfl rfl rfl) rfl ?_
       refine Dr.val Grow.refl rfl (fun w hG=>Runs.move rfl rfl) rfl ?_
       refine Dr.valG Grow.refl rfl (fun w hG=>Runs.fieldB 2 rfl rfl Tryz.underlying35 rfl (by kernel_rfl)) rfl rfl rfl ?_
       refine Dr.valG Grow.refl rfl (fun w hG=>Runs.loadB rfl rfl Tryz.underlying9 rfl (k1.step hG) rfl) rfl rfl rfl ?_
       refine Dr.valG Grow.refl rfl (fun w hG=>(Runs.neqL (b:=[]) rfl rfl rfl HB1 HB2).isF (by simp[h5])) rfl rfl rfl ?_
       refine Dr.valG Grow.refl rfl (fun w hG=>Runs.move rfl rfl) rfl rfl rfl ?_
       refine Dr.skip rfl rfl rfl rfl rfl ?_
       refine Dr.skip rfl rfl rfl rfl rfl ?_
       refine Dr.skip rfl rfl rfl rfl rfl ?_
       refine Dr.valG Grow.refl rfl (fun w hG=>Runs.pickF rfl rfl rfl) rfl rfl rfl ?_
       refine Dr.val Grow.refl rfl (fun w hG=>Runs.pickF rfl rfl rfl) rfl ?_
       refine Dr.nil ?_
       refine FinX.done (F':=[(0,_),(1,_),(2,_),(34,_)]) rfl ⟨rfl,rfl,rfl,rfl,trivial⟩ ?_
       intro w3 hw3 fw3
       replace bel:=bel.step hw3
       replace k1:=k1.step hw3
       refine Zk4 0 1 2 34 (Zt ?_)
       refine Cd.condF rfl rfl ?_
       refine Cd.skip ?_
       exact Post.join () ⟨rfl,trivial⟩ ⟨⟨h1, .inr (.inr h4), .inl h5⟩,bel,k1⟩
      ·by_cases h6:op=3
       ·skip
        refine Cd.seq ?_
        refine Cd.draw 32 (by kernel_rfl) [] (.inl rfl) rfl Grow Grow.refl (fun _ _ _=>Grow.trans) ?_
        intro w2 hw2 zw2
        replace bel:=bel.step hw2
        replace k1:=k1.step hw2
        have zbel:=bel.size
        have zlt:=k1.lt
        refine Dr.val Grow.refl rfl (fun w hG=>Runs.fieldB 0 rfl rfl Tryz.underlying35 rfl (by kernel_rfl)) rfl ?_
        refine Dr.val Grow.refl rfl (fun w hG=>Runs.loadB rfl rfl Tryz.underlying3 rfl (k1.step hG) rfl) rfl ?_
        refine Dr.callV rfl (fun w=>Ze Tryz.func120) rfl (fun w hG=>arity_any op w) ?_
        refine Dr.val Grow.refl rfl (fun w hG=>Runs.fieldB 3 rfl rfl Tryz.underlying35 rfl (by kernel_rfl)) rfl ?_
        refine Dr.val Grow.refl rfl (fun w hG=>Runs.loadB rfl rfl Tryz.underlying22 rfl (k1.step hG) rfl) rfl ?_
        refine Dr.val Grow.refl rfl (fun w hG=>Runs.len rfl rfl Tryz.underlying22) rfl ?_
        refine Dr.val Grow.refl rfl (fun w hG=>(Runs.neqI rfl rfl rfl).isF (by omega)) rfl ?_
        refine Dr.val Grow.refl rfl (fun w hG=>Runs.move rfl rfl) rfl ?_
        refine Dr.valG Grow.refl rfl (fun w hG=>Runs.fieldB 1 rfl rfl Tryz.underlying35 rfl (by kernel_rfl)) rfl rfl rfl ?_
        refine Dr.valG Grow.refl rfl (fun w hG=>Runs.loadB rfl rfl Tryz.underlying2 rfl (k1.step hG) rfl) rfl rfl rfl ?_
        refine Dr.valG Grow.refl rfl (fun w hG=>(Runs.neqI rfl rfl rfl).isT (h2)) rfl rfl rfl ?_
        refine Dr.valG Grow.refl rfl (fun w hG=>Runs.move rfl rfl) rfl rfl rfl ?_
        refine Dr.valG Grow.refl rfl (fun w hG=>Runs.fieldB 0 rfl rfl Tryz.underlying35 rfl (by kernel_rfl)) rfl rfl rfl ?_
        refine Dr.valG Grow.refl rfl (fun w hG=>Runs.loadB rfl rfl Tryz.underlying3 rfl (k1.step hG) rfl) rfl rfl rfl ?_
        refine Dr.valG Grow.refl rfl (fun w hG=>(Runs.neqI rfl rfl rfl).isT (h3)) rfl rfl rfl ?_
        refine Dr.valG Grow.refl rfl (fun w hG=>Runs.pickT rfl rfl rfl) rfl rfl rfl ?_
        refine Dr.valG Grow.refl rfl (fun w hG=>Runs.move rfl rfl) rfl rfl rfl ?_
        refine Dr.valG Grow.refl rfl (fun w hG=>Runs.fieldB 0 rfl rfl Tryz.underlying35 rfl (by kernel_rfl)) rfl rfl rfl ?_
        refine Dr.valG Grow.refl rfl (fun w hG=>Runs.loadB rfl rfl Tryz.underlying3 rfl (k1.step hG) rfl) rfl rfl rfl ?_
        refine Dr.valG Grow.refl rfl (fun w hG=>(Runs.neqI rfl rfl rfl).isF (by omega)) rfl rfl rfl ?_
        refine Dr.valG Grow.refl rfl (fun w hG=>Runs.pickT rfl rfl rfl) rfl rfl rfl ?_
        refine Dr.val Grow.refl rfl (fun w hG=>Runs.pickF rfl rfl rfl) rfl ?_
        refine Dr.val Grow.refl rfl (fun w hG=>Runs.move rfl rfl) rfl ?_
        refine Dr.valG Grow.refl rfl (fun w hG=>Runs.fieldB 2 rfl rfl Tryz.underlying35 rfl (by kernel_rfl)) rfl rfl rfl ?_
        refine Dr.valG Grow.refl rfl (fun w hG=>Runs.loadB rfl rfl Tryz.underlying9 rfl (k1.step hG) rfl) rfl rfl rfl ?_
        refine Dr.valG Grow.refl rfl (fun w hG=>(Runs.neqL (b:=[]) rfl rfl rfl HB1 HB2).isT (h5)) rfl rfl rfl ?_
        refine Dr.valG Grow.refl rfl (fun w hG=>Runs.move rfl rfl) rfl rfl rfl ?_
        refine Dr.valG Grow.refl rfl (fun w hG=>Runs.fieldB 0 rfl rfl Tryz.underlying35 rfl (by kernel_rfl)) rfl rfl rfl ?_
        refine Dr.valG Grow.refl rfl (fun w hG=>Runs.loadB rfl rfl Tryz.underlying3 rfl (k1.step hG) rfl) rfl rfl rfl ?_
        refine Dr.valG Grow.refl rfl (fun w hG=>(Runs.neqI rfl rfl rfl).isF (by omega)) rfl rfl rfl ?_
        refine Dr.valG Grow.refl rfl (fun w hG=>Runs.pickT rfl rfl rfl) rfl rfl rfl ?_
        refine Dr.val Grow.refl rfl (fun w hG=>Runs.pickF rfl rfl rfl) rfl ?_
        refine Dr.nil ?_
        refine FinX.done (F':=[(0,_),(1,_),(2,_),(34,_)]) rfl ⟨rfl,rfl,rfl,rfl,trivial⟩ ?_
        intro w3 hw3 fw3
        replace bel:=bel.step hw3
        replace k1:=k1.step hw3
        refine Zk4 0 1 2 34 (Zt ?_)
        refine Cd.condF rfl rfl ?_
        refine Cd.skip ?_
        exact Post.join () ⟨rfl,trivial⟩ ⟨⟨h1, .inr (.inr h4), .inr h6⟩,bel,k1⟩
       ·skip
        refine Cd.seq ?_
        refine Cd.draw 32 (by kernel_rfl) [] (.inl rfl) rfl Grow Grow.refl (fun _ _ _=>Grow.trans) ?_
        intro w2 hw2 zw2
        replace bel:=bel.step hw2
        replace k1:=k1.step hw2
        have zbel:=bel.size
        have zlt:=k1.lt
        refine Dr.val Grow.refl rfl (fun w hG=>Runs.fieldB 0 rfl rfl Tryz.underlying35 rfl (by kernel_rfl)) rfl ?_
        refine Dr.val Grow.refl rfl (fun w hG=>Runs.loadB rfl rfl Tryz.underlying3 rfl (k1.step hG) rfl) rfl ?_
        refine Dr.callV rfl (fun w=>Ze Tryz.func120) rfl (fun w hG=>arity_any op w) ?_
        refine Dr.val Grow.refl rfl (fun w hG=>Runs.fieldB 3 rfl rfl Tryz.underlying35 rfl (by kernel_rfl)) rfl ?_
        refine Dr.val Grow.refl rfl (fun w hG=>Runs.loadB rfl rfl Tryz.underlying22 rfl (k1.step hG) rfl) rfl ?_
        refine Dr.val Grow.refl rfl (fun w hG=>Runs.len rfl rfl Tryz.underlying22) rfl ?_
        refine Dr.val Grow.refl rfl (fun w hG=>(Runs.neqI rfl rfl rfl).isF (by omega)) rfl ?_
        refine Dr.val Grow.refl rfl (fun w hG=>Runs.move rfl rfl) rfl ?_
        refine Dr.valG Grow.refl rfl (fun w hG=>Runs.fieldB 1 rfl rfl Tryz.underlying35 rfl (by kernel_rfl)) rfl rfl rfl ?_
        refine Dr.valG Grow.refl rfl (fun w hG=>Runs.loadB rfl rfl Tryz.underlying2 rfl (k1.step hG) rfl) rfl rfl rfl ?_
        refine Dr.valG Grow.refl rfl (fun w hG=>(Runs.neqI rfl rfl rfl).isT (h2)) rfl rfl rfl ?_
        refine Dr.valG Grow.refl rfl (fun w hG=>Runs.move rfl rfl) rfl rfl rfl ?_
        refine Dr.valG Grow.refl rfl (fun w hG=>Runs.fieldB 0 rfl rfl Tryz.underlying35 rfl (by kernel_rfl)) rfl rfl rfl ?_
        refine Dr.valG Grow.refl rfl (fun w hG=>Runs.loadB rfl rfl Tryz.underlying3 rfl (k1.step hG) rfl) rfl rfl rfl ?_
        refine Dr.valG Grow.refl rfl (fun w hG=>(Runs.neqI rfl rfl rfl).isT (h3)) rfl rfl rfl ?_
        refine Dr.valG Grow.refl rfl (fun w hG=>Runs.pickT rfl rfl rfl) rfl rfl rfl ?_
        refine Dr.valG Grow.refl rfl (fun w hG=>Runs.move rfl rfl) rfl rfl rfl ?_
        refine Dr.valG Grow.refl rfl (fun w hG=>Runs.fieldB 0 rfl rfl Tryz.underlying35 rfl (by kernel_rfl)) rfl rfl rfl ?_
        refine Dr.valG Grow.refl rfl (fun w hG=>Runs.loadB rfl rfl Tryz.underlying3 rfl (k1.step hG) rfl) rfl rfl rfl ?_
        refine Dr.valG Grow.refl rfl (fun w hG=>(Runs.neqI rfl rfl rfl).isF (by omega)) rfl rfl rfl ?_
        refine Dr.valG Grow.refl rfl (fun w hG=>Runs.pickT rfl rfl rfl) rfl rfl rfl ?_
        refine Dr.val Grow.refl rfl (fun w hG=>Runs.pickF rfl rfl rfl) rfl ?_
        refine Dr.val Grow.refl rfl (fun w hG=>Runs.move rfl rfl) rfl ?_
        refine Dr.valG Grow.refl rfl (fun w hG=>Runs.fieldB 2 rfl rfl Tryz.underlying35 rfl (by kernel_rfl)) rfl rfl rfl ?_
        refine Dr.valG Grow.refl rfl (fun w hG=>Runs.loadB rfl rfl Tryz.underlying9 rfl (k1.step hG) rfl) rfl rfl rfl ?_
        refine Dr.valG Grow.refl rfl (fun w hG=>(Runs.neqL (b:=[]) rfl rfl rfl HB1 HB2).isT (h5)) rfl rfl rfl ?_
        refine Dr.valG Grow.refl rfl (fun w hG=>Runs.move rfl rfl) rfl rfl rfl ?_
        refine Dr.valG Grow.refl rfl (fun w hG=>Runs.fieldB 0 rfl rfl Tryz.underlying35 rfl (by kernel_rfl)) rfl rfl rfl ?_
        refine Dr.valG Grow.refl rfl (fun w hG=>Runs.loadB rfl rfl Tryz.underlying3 rfl (k1.step hG) rfl) rfl rfl rfl ?_
        refine Dr.valG Grow.refl rfl (fun w hG=>(Runs.neqI rfl rfl rfl).isT (h6)) rfl rfl rfl ?_
        refine Dr.valG Grow.refl rfl (fun w hG=>Runs.pickT rfl rfl rfl) rfl rfl rfl ?_
        refine Dr.val Grow.refl rfl (fun w hG=>Runs.pickF rfl rfl rfl) rfl ?_
        refine Dr.nil ?_
        refine FinX.done (F':=[(0,_),(1,_),(2,_),(34,_)]) rfl ⟨rfl,rfl,rfl,rfl,trivial⟩ ?_
        intro w3 hw3 fw3
        replace bel:=bel.step hw3
        replace k1:=k1.step hw3
        refine Zk4 0 1 2 34 (Zt ?_)
        refine Cd.condT rfl rfl ?_
        refine Zsr ?_
        refine Za ?_
        refine Zk4 0 1 2 34 (Zt (Cd.ret (Post.then_ret ?_)))
        refine Post.end1 rfl rfl (.inl rfl) ?_
        rw[hbf (by rintro⟨-,-,h,-⟩;rcases h with h|h;exact h5 h;exact h6 h)]
        exact⟨rfl,bel⟩
     ·skip
      refine Cd.seq ?_
      refine Cd.draw 32 (by kernel_rfl) [] (.inl rfl) rfl Grow Grow.refl (fun _ _ _=>Grow.trans) ?_
      intro w2 hw2 zw2
      replace bel:=bel.step hw2
      replace k1:=k1.step hw2
      have zbel:=bel.size
      have zlt:=k1.lt
      refine Dr.val Grow.refl rfl (fun w hG=>Runs.fieldB 0 rfl rfl Tryz.underlying35 rfl (by kernel_rfl)) rfl ?_
      refine Dr.val Grow.refl rfl (fun w hG=>Runs.loadB rfl rfl Tryz.underlying3 rfl (k1.step hG) rfl) rfl ?_
      refine Dr.callV rfl (fun w=>Ze Tryz.func120) rfl (fun w hG=>arity_any op w) ?_
      refine Dr.val Grow.refl rfl (fun w hG=>Runs.fieldB 3 rfl rfl Tryz.underlying35 rfl (by kernel_rfl)) rfl ?_
      refine Dr.val Grow.refl rfl (fun w hG=>Runs.loadB rfl rfl Tryz.underlying22 rfl (k1.step hG) rfl) rfl ?_
      refine Dr.val Grow.refl rfl (fun w hG=>Runs.len rfl rfl Tryz.underlying22) rfl ?_
      refine Dr.val Grow.refl rfl (fun w hG=>(Runs.neqI rfl rfl rfl).isF (by omega)) rfl ?_
      refine Dr.val Grow.refl rfl (fun w hG=>Runs.move rfl rfl) rfl ?_
      refine Dr.valG Grow.refl rfl (fun w hG=>Runs.fieldB 1 rfl rfl Tryz.underlying35 rfl (by kernel_rfl)) rfl rfl rfl ?_
      refine Dr.valG Grow.refl rfl (fun w hG=>Runs.loadB rfl rfl Tryz.underlying2 rfl (k1.step hG) rfl) rfl rfl rfl ?_
      refine Dr.valG Grow.refl rfl (fun w hG=>(Runs.neqI rfl rfl rfl).isT (h2)) rfl rfl rfl ?_
      refine Dr.valG Grow.refl rfl (fun w hG=>Runs.move rfl rfl) rfl rfl rfl ?_
      refine Dr.valG Grow.refl rfl (fun w hG=>Runs.fieldB 0 rfl rfl Tryz.underlying35 rfl (by kernel_rfl)) rfl rfl rfl ?_
      refine Dr.valG Grow.refl rfl (fun w hG=>Runs.loadB rfl rfl Tryz.underlying3 rfl (k1.step hG) rfl) rfl rfl rfl ?_
      refine Dr.valG Grow.refl rfl (fun w hG=>(Runs.neqI rfl rfl rfl).isT (h3)) rfl rfl rfl ?_
      refine Dr.valG Grow.refl rfl (fun w hG=>Runs.pickT rfl rfl rfl) rfl rfl rfl ?_
      refine Dr.valG Grow.refl rfl (fun w hG=>Runs.move rfl rfl) rfl rfl rfl ?_
      refine Dr.valG Grow.refl rfl (fun w hG=>Runs.fieldB 0 rfl rfl Tryz.underlying35 rfl (by kernel_rfl)) rfl rfl rfl ?_
      refine Dr.valG Grow.refl rfl (fun w hG=>Runs.loadB rfl rfl Tryz.underlying3 rfl (k1.step hG) rfl) rfl rfl rfl ?_
      refine Dr.valG Grow.refl rfl (fun w hG=>(Runs.neqI rfl rfl rfl).isT (h4)) rfl rfl rfl ?_
      refine Dr.valG Grow.refl rfl (fun w hG=>Runs.pickT rfl rfl rfl) rfl rfl rfl ?_
      refine Dr.val Grow.refl rfl (fun w hG=>Runs.pickF rfl rfl rfl) rfl ?_
      refine Dr.val Grow.refl rfl (fun w hG=>Runs.move rfl rfl) rfl ?_
      refine Dr.skip rfl rfl rfl rfl rfl ?_
      refine Dr.skip rfl rfl rfl rfl rfl ?_
      refine Dr.skip rfl rfl rfl rfl rfl ?_
      refine Dr.skip rfl rfl rfl rfl rfl ?_
      refine Dr.skipU rfl rfl rfl rfl ?_
      refine Dr.skipU rfl rfl rfl rfl ?_
      refine Dr.skipU rfl rfl rfl rfl ?_
      refine Dr.skip rfl rfl rfl rfl rfl ?_
      refine Dr.val Grow.refl rfl (fun w hG=>Runs.pickT rfl rfl rfl) rfl ?_
      refine Dr.nil ?_
      refine FinX.done (F':=[(0,_),(1,_),(2,_),(34,_)]) rfl ⟨rfl,rfl,rfl,rfl,trivial⟩ ?_
      intro w3 hw3 fw3
      replace bel:=bel.step hw3
      replace k1:=k1.step hw3
      refine Zk4 0 1 2 34 (Zt ?_)
      refine Cd.condT rfl rfl ?_
      refine Zsr ?_
      refine Za ?_
      refine Zk4 0 1 2 34 (Zt (Cd.ret (Post.then_ret ?_)))
      refine Post.end1 rfl rfl (.inl rfl) ?_
      rw[hbf (by rintro⟨-,h,-⟩;omega)]
      exact⟨rfl,bel⟩
  ·skip
   refine Cd.seq ?_
   refine Cd.draw 32 (by kernel_rfl) [] (.inl rfl) rfl Grow Grow.refl (fun _ _ _=>Grow.trans) ?_
   intro w2 hw2 zw2
   replace bel:=bel.step hw2
   replace k1:=k1.step hw2
   have zbel:=bel.size
   have zlt:=k1.lt
   refine Dr.val Grow.refl rfl (fun w hG=>Runs.fieldB 0 rfl rfl Tryz.underlying35 rfl (by kernel_rfl)) rfl ?_
   refine Dr.val Grow.refl rfl (fun w hG=>Runs.loadB rfl rfl Tryz.underlying3 rfl (k1.step hG) rfl) rfl ?_
   refine Dr.callV rfl (fun w=>Ze Tryz.func120) rfl (fun w hG=>arity_any op w) ?_
   refine Dr.val Grow.refl rfl (fun w hG=>Runs.fieldB 3 rfl rfl Tryz.underlying35 rfl (by kernel_rfl)) rfl ?_
   refine Dr.val Grow.refl rfl (fun w hG=>Runs.loadB rfl rfl Tryz.underlying22 rfl (k1.step hG) rfl) rfl ?_
   refine Dr.val Grow.refl rfl (fun w hG=>Runs.len rfl rfl Tryz.underlying22) rfl ?_
   refine Dr.val Grow.refl rfl (fun w hG=>(Runs.neqI rfl rfl rfl).isT (h1)) rfl ?_
   refine Dr.val Grow.refl rfl (fun w hG=>Runs.move rfl rfl) rfl ?_
   refine Dr.skip rfl rfl rfl rfl rfl ?_
   refine Dr.skip rfl rfl rfl rfl rfl ?_
   refine Dr.skip rfl rfl rfl rfl rfl ?_
   refine Dr.skip rfl rfl rfl rfl rfl ?_
   refine Dr.skipU rfl rfl rfl rfl ?_
   refine Dr.skipU rfl rfl rfl rfl ?_
   refine Dr.skipU rfl rfl rfl rfl ?_
   refine Dr.skip rfl rfl rfl rfl rfl ?_
   refine Dr.skip rfl rfl rfl rfl rfl ?_
   refine Dr.skipU rfl rfl rfl rfl ?_
   refine Dr.skipU rfl rfl rfl rfl ?_
   refine Dr.skipU rfl rfl rfl rfl ?_
   refine Dr.skip rfl rfl rfl rfl rfl ?_
   refine Dr.val Grow.refl rfl (fun w hG=>Runs.pickT rfl rfl rfl) rfl ?_
   refine Dr.val Grow.refl rfl (fun w hG=>Runs.move rfl rfl) rfl ?_
   refine Dr.skip rfl rfl rfl rfl rfl ?_
   refine Dr.skip rfl rfl rfl rfl rfl ?_
   refine Dr.skip rfl rfl rfl rfl rfl ?_
   refine Dr.skip rfl rfl rfl rfl rfl ?_
   refine Dr.skipU rfl rfl rfl rfl ?_
   refine Dr.skipU rfl rfl rfl rfl ?_
   refine Dr.skipU rfl rfl rfl rfl ?_
   refine Dr.skip rfl rfl rfl rfl rfl ?_
   refine Dr.val Grow.refl rfl (fun w hG=>Runs.pickT rfl rfl rfl) rfl ?_
   refine Dr.nil ?_
   refine FinX.done (F':=[(0,_),(1,_),(2,_),(34,_)]) rfl ⟨rfl,rfl,rfl,rfl,trivial⟩ ?_
   intro w3 hw3 fw3
   replace bel:=bel.step hw3
   replace k1:=k1.step hw3
   refine Zk4 0 1 2 34 (Zt ?_)
   refine Cd.condT rfl rfl ?_
   refine Zsr ?_
   refine Za ?_
   refine Zk4 0 1 2 34 (Zt (Cd.ret (Post.then_ret ?_)))
   refine Post.end1 rfl rfl (.inl rfl) ?_
   rw[hbf (by rintro⟨h,-⟩;exact h1 h)]
   exact⟨rfl,bel⟩
 clear bel k1
 rintro⟨⟩ wr ⟨⟨a1,a2,a3⟩,bel,k1⟩
 refine Cd.seq (Cd.block (Cd.seq (Zsr ?_)))
 refine Zf 1 Tryz.underlying35 ?_
 refine Zv (Runs.loadB rfl rfl Tryz.underlying2 rfl k1 rfl) ?_
 refine Zv (Runs.lss rfl rfl rfl) ?_
 refine Za ?_
 refine Zk2 1 35 (Zt ?_)
 refine Cd.condD rfl (fun hc=> ?_) (fun hc=> ?_)
 ·skip
  refine Cd.skip (Zt ?_)
  refine Cd.condT rfl (decide_eq_true (by assumption)) ?_
  refine Zsr ?_
  refine Za ?_
  refine Zk3 1 2 35 (Zt (Cd.ret (Post.block_ret (Post.then_ret ?_))))
  refine Post.end1 rfl rfl (.inl rfl) ?_
  rw[hbf (by omega)]
  exact⟨rfl,bel⟩
 ·skip
  refine Zsr ?_
  refine Zf 0 Tryz.underlying35 ?_
  refine Zv (Runs.loadB rfl rfl Tryz.underlying3 rfl k1 rfl) ?_
  refine Zv (Runs.eqlI rfl rfl rfl) ?_
  refine Zm ?_
  refine SeqC.start ?_
  refine Zco (fun hcx=>Runs.fieldB 1 rfl rfl Tryz.underlying35 rfl (by kernel_rfl)) ?_
  refine SeqC.next rfl rfl rfl rfl rfl rfl rfl (fun hcx=>Runs.loadB rfl rfl Tryz.underlying2 rfl k1 rfl) ?_
  refine SeqC.next rfl rfl rfl rfl rfl rfl rfl (fun hcx=>Runs.gtr rfl rfl rfl) ?_
  refine SeqC.and rfl rfl rfl rfl rfl rfl rfl ?_
  refine Za ?_
  refine Zk2 1 35 (Zt ?_)
  refine Cd.cond rfl (fun h=> ?_) (fun h=> ?_)
  ·skip
   refine Cd.skip (Zt ?_)
   refine Cd.condT rfl h ?_
   refine Zsr ?_
   refine Za ?_
   refine Zk3 1 2 35 (Zt (Cd.ret (Post.block_ret (Post.then_ret ?_))))
   refine Post.end1 rfl rfl (.inl rfl) ?_
   simp at h
   rw[hbf (by omega)]
   exact⟨rfl,bel⟩
  ·simp at h
   refine Zr ?_
   refine Zf 0 Tryz.underlying35 ?_
   refine Zv (Runs.loadB rfl rfl Tryz.underlying3 rfl k1 rfl) ?_
   refine Zv (Runs.eqlI rfl rfl rfl) ?_
   refine Zm ?_
   refine SeqC.start ?_
   refine Zco (fun hcx=>Runs.fieldB 2 rfl rfl Tryz.underlying35 rfl (by kernel_rfl)) ?_
   refine SeqC.next rfl rfl rfl rfl rfl rfl rfl (fun hcx=>Runs.loadB rfl rfl Tryz.underlying9 rfl k1 rfl) ?_
   refine SeqC.nextC rfl rfl rfl rfl rfl rfl rfl (fun hcx=>Ze Tryz.func105) (fun hcx=>free_any nm _ HB1 hnl) ?_
   intro w2 hw2
   replace bel:=bel.step hw2
   replace k1:=k1.step hw2
   refine SeqC.next rfl rfl rfl rfl rfl rfl rfl (fun hcx=>Runs.not rfl rfl) ?_
   refine SeqC.and rfl rfl rfl rfl rfl rfl rfl ?_
   refine Za ?_
   refine Zk2 1 35 (Zt ?_)
   refine Cd.cond rfl (fun h2=> ?_) (fun h2=> ?_)
   ·skip
    refine Zsr ?_
    refine Za ?_
    refine Zk3 1 2 35 (Zt (Cd.ret (Post.block_ret (Post.then_ret ?_))))
    refine Post.end1 rfl rfl (.inl rfl) ?_
    simp at h2
    rw[hbf (by rintro⟨-,-,-,-,-,h7⟩;rw[h7 h2.1] at h2;cases h2.2)]
    exact⟨rfl,bel⟩
   ·have hh:=headB_true a1 a2 a3 (by omega) (by omega) (fun h3=>by simp at h2;exact h2 h3)
    refine Cd.skip (Post.block_normal (Ztq ?_))
    refine Zf 3 Tryz.underlying35 ?_
    refine Zv (Runs.loadB rfl rfl Tryz.underlying22 rfl k1 rfl) ?_
    refine Zc (Ze Tryz.func106) (hcl _ bel) ?_
    rintro en w9 ⟨rfl,hb9⟩
    refine⟨_,rfl,?_⟩
    replace bel:=bel.step hb9
    replace k1:=k1.step hb9
    refine Zv (Runs.not rfl rfl) ?_
    refine Za ?_
    refine Zk3 1 2 35 (Zt (Cd.ret ?_))
    refine Post.end1 rfl rfl (.inl rfl) ?_
    refine⟨ret1 (bool_eq ?_),bel⟩
    rw[hbt,hh,Bool.true_and]
    induction e.args with
    |nil=>rfl
    |cons x r ih=>simp only[List.any_cons,List.all_cons,Bool.not_or,Bool.not_not,ih]
theorem rightExpr_any (e:Ex)(B:Nat)(v:Value)(w:World)(hd:e.depth≤900)(hrep:Rep w B e v)(hB:B≤w.heap.size):Calls Tryz.prog 32 #[v] w fun en w'=>en= .returned (.bool (decide (e.nodes≤200)&&decide (e.depth≤16)&&builtB e))∧Grow w w':=by
 have hs:=fun W (hb:Below w.heap.size w W)=>sizeExpr_any e.nodes e 0 B v W (Nat.le_refl _) (by omega) (hrep.below (hb.mono hB)) (Nat.le_trans hB hb.size)
 have hbt:=fun W (hb:Below w.heap.size w W)=>builtExpr_any e.nodes e B v W (Nat.le_refl _) (hrep.below (hb.mono hB)) (Nat.le_trans hB hb.size)
 have hc:=szE_cnt e
 have hdn:=e.depth_nodes
 have hsz:=szE_Sz e
 have hres:(decide (e.nodes≤200)&&decide (e.depth≤16))=(decide ((szE e).1≤200)&&decide ((szE e).2≤16)):=by
  obtain⟨c1,c2⟩:=hc
  rw[Bool.eq_iff_iff]
  simp only[Bool.and_eq_true,decide_eq_true_eq]
  constructor
  ·rintro⟨h1,h2⟩
   rw[c2 (by omega)]
   omega
  ·rintro⟨h1,h2⟩
   have h3:e.nodes≤200:=by omega
   rw[c2 (by omega)] at h2
   omega
 rw[hres]
 obtain⟨A,c,rfl,-⟩:=hrep.open
 have bel:=Below.refl w.heap.size w
 generalize (szE e)=s at *
 refine Zs 10 Tryz.func32 ?_
 refine Zsr ?_
 refine Seq.box rfl rfl rfl rfl rfl ?_
 intro g1 w1 n1
 have e1:=Nat.le_trans bel.size n1.ge
 replace bel:=bel.step n1.below
 have k1:=n1.blk
 refine Za ?_
 refine Zk3 0 1 2 (Ztq ?_)
 refine Zv (Runs.loadW rfl rfl Tryz.underlying35 rfl k1 (m:=4) (by kernel_rfl) rfl) ?_
 refine Zc (Ze Tryz.func73) (hs _ bel) ?_
 rintro en w5 ⟨rfl,hb5⟩
 refine⟨_,rfl,?_⟩
 replace bel:=bel.step hb5
 replace k1:=k1.step hb5
 refine Zc (Ze Tryz.func58) (szSmall_any s.1 s.2 _) ?_
 rintro en w6 ⟨rfl,hb6⟩
 refine⟨_,rfl,?_⟩
 replace bel:=bel.step hb6
 replace k1:=k1.step hb6
 refine Zm ?_
 refine SeqC.start ?_
 refine Zco (fun hcx=>Runs.loadW rfl rfl Tryz.underlying35 rfl k1 (m:=4) (by kernel_rfl) rfl) ?_
 refine SeqC.nextC rfl rfl rfl rfl rfl rfl rfl (fun hcx=>Ze Tryz.func74) (fun hcx=>hbt _ bel) ?_
 intro w2 hw2
 replace bel:=bel.step hw2
 replace k1:=k1.step hw2
 refine SeqC.and rfl rfl rfl rfl rfl rfl rfl ?_
 refine Za ?_
 refine Zk3 0 1 2 (Zt (Cd.ret ?_))
 refine Post.end1 rfl rfl (.inl rfl) ?_
 exact⟨ret1 (bool_eq (by cases (decide (s.1≤200)&&decide (s.2≤16))<;>rfl)),bel⟩
end Go.Proofs.YtaamkfajnpobfaaGreat
namespace Go.Proofs.YtaamkfajnpobfaaGreat
open Go.RowKit
def leapB (y:Int):Bool:=decide (y%4=0)&&(decide (y%100≠0)||decide (y%400=0))
def daysZ (y m:Int):Int:=if m=2 then(if leapB y then 29 else 28) else if m=4∨m=6∨m=9∨m=11 then 30 else if m=1∨m=3∨m=5∨m=7∨m=8∨m=10∨m=12 then 31 else 0
theorem leap_any (y:Int)(w:World)(h0:0≤y):Calls Tryz.prog 177 #[.int .i64 y] w fun e w'=>e= .returned (.bool (leapB y))∧w=w':=by
 refine Zs 16 Tryz.func177 ?_
 refine Zsr ?_
 refine Za ?_
 refine Zk2 0 2 (Ztq ?_)
 refine Zm ?_
 refine Zv (Runs.remN rfl rfl rfl (by omega) (by omega)) ?_
 refine Zv (Runs.eqlI rfl rfl rfl) ?_
 refine Zm ?_
 refine SeqC.start ?_
 refine Zco (fun hcx=>Runs.move rfl rfl) ?_
 refine SeqC.next rfl rfl rfl rfl rfl rfl rfl (fun hcx=>Runs.remN rfl rfl rfl (by omega) (by omega)) ?_
 refine SeqC.next rfl rfl rfl rfl rfl rfl rfl (fun hcx=>Runs.neqI rfl rfl rfl) ?_
 refine SeqC.next rfl rfl rfl rfl rfl rfl rfl (fun hcx=>Runs.move rfl rfl) ?_
 refine Zco (fun hcx=>Runs.move rfl rfl) ?_
 refine SeqC.next rfl rfl rfl rfl rfl rfl rfl (fun hcx=>Runs.remN rfl rfl rfl (by omega) (by omega)) ?_
 refine SeqC.next rfl rfl rfl rfl rfl rfl rfl (fun hcx=>Runs.eqlI rfl rfl rfl) ?_
 refine SeqC.orG rfl rfl rfl rfl rfl rfl rfl rfl rfl rfl rfl ?_
 refine SeqC.and rfl rfl rfl rfl rfl rfl rfl ?_
 refine Za ?_
 refine Zk2 0 2 (Zt (Cd.ret ?_))
 refine Post.end1 rfl rfl (.inl rfl) ?_
 refine⟨ret1 (bool_eq ?_),rfl⟩
 unfold leapB
 rw[Bool.eq_iff_iff]
theorem days_any (y m:Int)(w:World)(h0:0≤y):Calls Tryz.prog 172 #[.int .i64 y, .int .i64 m] w fun e w'=>e= .returned (.int .i64 (daysZ y m))∧w=w':=by
 refine Zs 23 Tryz.func172 ?_
 refine Zsr ?_
 refine Za ?_
 refine Zk3 0 1 4 (Zts (Zsr ?_))
 refine Zm ?_
 refine Zk4 0 1 4 5 (Zt (Cd.block (Zsr ?_)))
 refine Zv (Runs.eqlI rfl rfl rfl) ?_
 refine Za ?_
 refine Zk5 0 1 4 5 6 (Zt ?_)
 refine Cd.condD rfl (fun h=> ?_) (fun h=> ?_)
 ·subst h
  refine Cd.seq (Zsr ?_)
  refine Zm ?_
  refine Zc (Ze Tryz.func177) (leap_any y _ h0) ?_
  rintro e w2 ⟨rfl,rfl⟩
  refine⟨_,rfl,?_⟩
  refine Zk6 0 1 4 5 6 9 (Zt ?_)
  refine Cd.cond rfl (fun h2=> ?_) (fun h2=> ?_)
  ·skip
   refine Zsr ?_
   refine Za ?_
   refine Zk6 0 1 4 5 6 9 (Zt (Cd.ret (Post.then_ret (Post.block_ret (Post.then_ret ?_)))))
   refine Post.end1 rfl rfl (.inl rfl) ?_
   exact⟨ret1 (int_eq (by unfold daysZ;rw[if_pos rfl,if_pos h2])),rfl⟩
  ·skip
   refine Cd.skip (Ztq ?_)
   refine Za ?_
   refine Zk6 0 1 4 5 6 9 (Zt (Cd.ret (Post.block_ret (Post.then_ret ?_))))
   refine Post.end1 rfl rfl (.inl rfl) ?_
   exact⟨ret1 (int_eq (by unfold daysZ;rw[if_pos rfl,h2];rfl)),rfl⟩
 refine Cd.seq (Zsr ?_)
 refine Zv (Runs.eqlI rfl rfl rfl) ?_
 refine Za ?_
 refine Zk6 0 1 4 5 6 10 (Zt ?_)
 refine Cd.condD rfl (fun a4=> ?_) (fun a4=> ?_)
 ·skip
  refine Cd.skip (Zt ?_)
  refine Cd.condT rfl (decide_eq_true a4) ?_
  refine Zsr ?_
  refine Za ?_
  refine Zk6 0 1 4 5 6 10 (Zt (Cd.ret (Post.block_ret (Post.then_ret ?_))))
  refine Post.end1 rfl rfl (.inl rfl) ?_
  exact⟨ret1 (int_eq (by unfold daysZ;rw[if_neg h,if_pos (by omega)])),rfl⟩
 refine Zsr ?_
 refine Zv (Runs.eqlI rfl rfl rfl) ?_
 refine Za ?_
 refine Zk6 0 1 4 5 6 10 (Zt ?_)
 refine Cd.condD rfl (fun a6=> ?_) (fun a6=> ?_)
 ·skip
  refine Cd.skip (Zt ?_)
  refine Cd.condT rfl (decide_eq_true a6) ?_
  refine Zsr ?_
  refine Za ?_
  refine Zk6 0 1 4 5 6 10 (Zt (Cd.ret (Post.block_ret (Post.then_ret ?_))))
  refine Post.end1 rfl rfl (.inl rfl) ?_
  exact⟨ret1 (int_eq (by unfold daysZ;rw[if_neg h,if_pos (by omega)])),rfl⟩
 refine Zsr ?_
 refine Zv (Runs.eqlI rfl rfl rfl) ?_
 refine Za ?_
 refine Zk6 0 1 4 5 6 10 (Zt ?_)
 refine Cd.condD rfl (fun a9=> ?_) (fun a9=> ?_)
 ·skip
  refine Cd.skip (Zt ?_)
  refine Cd.condT rfl (decide_eq_true a9) ?_
  refine Zsr ?_
  refine Za ?_
  refine Zk6 0 1 4 5 6 10 (Zt (Cd.ret (Post.block_ret (Post.then_ret ?_))))
  refine Post.end1 rfl rfl (.inl rfl) ?_
  exact⟨ret1 (int_eq (by unfold daysZ;rw[if_neg h,if_pos (by omega)])),rfl⟩
 refine Zr ?_
 refine Zv (Runs.eqlI rfl rfl rfl) ?_
 refine Za ?_
 refine Zk6 0 1 4 5 6 10 (Zt ?_)
 refine Cd.condD rfl (fun a11=> ?_) (fun a11=> ?_)
 ·skip
  refine Zsr ?_
  refine Za ?_
  refine Zk6 0 1 4 5 6 10 (Zt (Cd.ret (Post.block_ret (Post.then_ret ?_))))
  refine Post.end1 rfl rfl (.inl rfl) ?_
  exact⟨ret1 (int_eq (by unfold daysZ;rw[if_neg h,if_pos (by omega)])),rfl⟩
 refine Cd.seq (Zsr ?_)
 refine Zv (Runs.eqlI rfl rfl rfl) ?_
 refine Za ?_
 refine Zk7 0 1 4 5 6 10 15 (Zt ?_)
 refine Cd.condD rfl (fun a1=> ?_) (fun a1=> ?_)
 ·skip
  refine Cd.skip (Zt ?_)
  refine Cd.condT rfl (decide_eq_true a1) ?_
  refine Zsr ?_
  refine Za ?_
  refine Zk7 0 1 4 5 6 10 15 (Zt (Cd.ret (Post.block_ret (Post.then_ret ?_))))
  refine Post.end1 rfl rfl (.inl rfl) ?_
  exact⟨ret1 (int_eq (by unfold daysZ;rw[if_neg h,if_neg (by omega),if_pos (by omega)])),rfl⟩
 refine Zsr ?_
 refine Zv (Runs.eqlI rfl rfl rfl) ?_
 refine Za ?_
 refine Zk7 0 1 4 5 6 10 15 (Zt ?_)
 refine Cd.condD rfl (fun a3=> ?_) (fun a3=> ?_)
 ·skip
  refine Cd.skip (Zt ?_)
  refine Cd.condT rfl (decide_eq_true a3) ?_
  refine Zsr ?_
  refine Za ?_
  refine Zk7 0 1 4 5 6 10 15 (Zt (Cd.ret (Post.block_ret (Post.then_ret ?_))))
  refine Post.end1 rfl rfl (.inl rfl) ?_
  exact⟨ret1 (int_eq (by unfold daysZ;rw[if_neg h,if_neg (by omega),if_pos (by omega)])),rfl⟩
 refine Zsr ?_
 refine Zv (Runs.eqlI rfl rfl rfl) ?_
 refine Za ?_
 refine Zk7 0 1 4 5 6 10 15 (Zt ?_)
 refine Cd.condD rfl (fun a5=> ?_) (fun a5=> ?_)
 ·skip
  refine Cd.skip (Zt ?_)
  refine Cd.condT rfl (decide_eq_true a5) ?_
  refine Zsr ?_
  refine Za ?_
  refine Zk7 0 1 4 5 6 10 15 (Zt (Cd.ret (Post.block_ret (Post.then_ret ?_))))
  refine Post.end1 rfl rfl (.inl rfl) ?_
  exact⟨ret1 (int_eq (by unfold daysZ;rw[if_neg h,if_neg (by omega),if_pos (by omega)])),rfl⟩
 refine Zsr ?_
 refine Zv (Runs.eqlI rfl rfl rfl) ?_
 refine Za ?_
 refine Zk7 0 1 4 5 6 10 15 (Zt ?_)
 refine Cd.condD rfl (fun a7=> ?_) (fun a7=> ?_)
 ·skip
  refine Cd.skip (Zt ?_)
  refine Cd.condT rfl (decide_eq_true a7) ?_
  refine Zsr ?_
  refine Za ?_
  refine Zk7 0 1 4 5 6 10 15 (Zt (Cd.ret (Post.block_ret (Post.then_ret ?_))))
  refine Post.end1 rfl rfl (.inl rfl) ?_
  exact⟨ret1 (int_eq (by unfold daysZ;rw[if_neg h,if_neg (by omega),if_pos (by omega)])),rfl⟩
 refine Zsr ?_
 refine Zv (Runs.eqlI rfl rfl rfl) ?_
 refine Za ?_
 refine Zk7 0 1 4 5 6 10 15 (Zt ?_)
 refine Cd.condD rfl (fun a8=> ?_) (fun a8=> ?_)
 ·skip
  refine Cd.skip (Zt ?_)
  refine Cd.condT rfl (decide_eq_true a8) ?_
  refine Zsr ?_
  refine Za ?_
  refine Zk7 0 1 4 5 6 10 15 (Zt (Cd.ret (Post.block_ret (Post.then_ret ?_))))
  refine Post.end1 rfl rfl (.inl rfl) ?_
  exact⟨ret1 (int_eq (by unfold daysZ;rw[if_neg h,if_neg (by omega),if_pos (by omega)])),rfl⟩
 refine Zsr ?_
 refine Zv (Runs.eqlI rfl rfl rfl) ?_
 refine Za ?_
 refine Zk7 0 1 4 5 6 10 15 (Zt ?_)
 refine Cd.condD rfl (fun a10=> ?_) (fun a10=> ?_)
 ·skip
  refine Cd.skip (Zt ?_)
  refine Cd.condT rfl (decide_eq_true a10) ?_
  refine Zsr ?_
  refine Za ?_
  refine Zk7 0 1 4 5 6 10 15 (Zt (Cd.ret (Post.block_ret (Post.then_ret ?_))))
  refine Post.end1 rfl rfl (.inl rfl) ?_
  exact⟨ret1 (int_eq (by unfold daysZ;rw[if_neg h,if_neg (by omega),if_pos (by omega)])),rfl⟩
 refine Zr ?_
 refine Zv (Runs.eqlI rfl rfl rfl) ?_
 refine Za ?_
 refine Zk7 0 1 4 5 6 10 15 (Zt ?_)
 refine Cd.condD rfl (fun a12=> ?_) (fun a12=> ?_)
 ·skip
  refine Zsr ?_
  refine Za ?_
  refine Zk7 0 1 4 5 6 10 15 (Zt (Cd.ret (Post.block_ret (Post.then_ret ?_))))
  refine Post.end1 rfl rfl (.inl rfl) ?_
  exact⟨ret1 (int_eq (by unfold daysZ;rw[if_neg h,if_neg (by omega),if_pos (by omega)])),rfl⟩
 refine Cd.skip (Post.block_normal (Ztq ?_))
 refine Za ?_
 refine Zk7 0 1 4 5 6 10 15 (Zt (Cd.ret ?_))
 refine Post.end1 rfl rfl (.inl rfl) ?_
 exact⟨ret1 (int_eq (by unfold daysZ;rw[if_neg h,if_neg (by omega),if_neg (by omega)])),rfl⟩
def ofOk (y m d:Int):Bool:=decide (1970≤y)&&decide (y≤9999)&&decide (1≤d)&&decide (d≤daysZ y m)
def ofY (y m:Int):Int:=if m<3 then y-1 else y
def ofM (m:Int):Int:=if m<3 then m+9 else m-3
def ofZ (y m d:Int):Int:=ofY y m/400*146097+(ofY y m%400*365+ofY y m%400/4-ofY y m%400/100+((153*ofM m+2)/5+d-1))-719468
theorem daysZ_m {y m:Int}(h:0<daysZ y m):1≤m∧m≤12∧daysZ y m≤31:=by
 unfold daysZ at *
 split
 ·split<;>omega
 ·split
  ·omega
  ·split
   ·omega
   ·rename_i h1 h2 h3
    rw[if_neg h1,if_neg h2,if_neg h3] at h
    omega
theorem dateOf_any (y m d:Int)(w:World)(hy:I64 y)(hm: -100≤m∧m≤100)(hd:I64 d):
  Calls Tryz.prog 165 #[.int .i64 y, .int .i64 m, .int .i64 d] w fun e w'=>e= .returned (.tuple #[.int .i64 (if ofOk y m d then ofZ y m d else 0), .bool (ofOk y m d)])∧Grow w w':=by
 have bel:=Below.refl w.heap.size w
 unfold I64 at hy hd
 by_cases hy2:y<1970∨9999<y
 ·have hf:ofOk y m d=false:=by
   unfold ofOk
   rw[Bool.eq_false_iff]
   simp
   omega
  rw[hf]
  refine Zs 64 Tryz.func165 ?_
  refine Zsr ?_
  refine Za ?_
  refine Za ?_
  refine Zk5 0 1 2 6 7 (Zts (Zsr ?_))
  refine Zm ?_
  refine Zv (Runs.lss rfl rfl rfl) ?_
  refine Zm ?_
  refine SeqC.start ?_
  refine Zco (fun hcx=>Runs.move rfl rfl) ?_
  refine SeqC.next rfl rfl rfl rfl rfl rfl rfl (fun hcx=>Runs.gtr rfl rfl rfl) ?_
  refine SeqC.or rfl rfl rfl rfl rfl rfl rfl ?_
  refine Zm ?_
  refine SeqC.start ?_
  refine Zco (fun hcx=>Runs.move rfl rfl) ?_
  refine SeqC.next rfl rfl rfl rfl rfl rfl rfl (fun hcx=>Runs.lss rfl rfl rfl) ?_
  refine SeqC.or rfl rfl rfl rfl rfl rfl rfl ?_
  refine Zm ?_
  refine SeqC.start ?_
  refine Zco (fun hcx=>Runs.move rfl rfl) ?_
  refine SeqC.next rfl rfl rfl rfl rfl rfl rfl (fun hcx=>Runs.move rfl rfl) ?_
  refine SeqC.next rfl rfl rfl rfl rfl rfl rfl (fun hcx=>Runs.move rfl rfl) ?_
  refine SeqC.nextC rfl rfl rfl rfl rfl rfl rfl (fun hcx=>Ze Tryz.func172) (fun hcx=>(by exfalso;simp[topX] at hcx;omega:Calls _ _ _ _ (fun e w'=>e= .returned (.int .i64 0)∧Grow _ w'))) ?_
  intro w1 hw1
  replace bel:=bel.step hw1
  refine SeqC.next rfl rfl rfl rfl rfl rfl rfl (fun hcx=>Runs.gtr rfl rfl rfl) ?_
  refine SeqC.or rfl rfl rfl rfl rfl rfl rfl ?_
  refine Zk6 0 1 2 6 7 28 (Zt ?_)
  refine Cd.condT rfl (by simp;omega) ?_
  refine Zsr ?_
  refine Za ?_
  refine Za ?_
  refine Zk6 0 1 2 6 7 28 (Zt (Cd.ret (Post.then_ret ?_)))
  refine Post.end2 rfl rfl rfl (.inl rfl) ?_
  exact⟨rfl,bel⟩
 have hdc:=fun w=>(days_any y m w (by omega)).mono (fun e w' (h:e= .returned (.int .i64 (daysZ y m))∧w=w')=>(⟨h.1,by rw[←h.2];exact Grow.refl _⟩:e= .returned (.int .i64 (daysZ y m))∧Grow w w'))
 refine Zs 64 Tryz.func165 ?_
 refine Zsr ?_
 refine Za ?_
 refine Za ?_
 refine Zk5 0 1 2 6 7 (Zts (Zsr ?_))
 refine Zm ?_
 refine Zv (Runs.lss rfl rfl rfl) ?_
 refine Zm ?_
 refine SeqC.start ?_
 refine Zco (fun hcx=>Runs.move rfl rfl) ?_
 refine SeqC.next rfl rfl rfl rfl rfl rfl rfl (fun hcx=>Runs.gtr rfl rfl rfl) ?_
 refine SeqC.or rfl rfl rfl rfl rfl rfl rfl ?_
 refine Zm ?_
 refine SeqC.start ?_
 refine Zco (fun hcx=>Runs.move rfl rfl) ?_
 refine SeqC.next rfl rfl rfl rfl rfl rfl rfl (fun hcx=>Runs.lss rfl rfl rfl) ?_
 refine SeqC.or rfl rfl rfl rfl rfl rfl rfl ?_
 refine Zm ?_
 refine SeqC.start ?_
 refine Zco (fun hcx=>Runs.move rfl rfl) ?_
 refine SeqC.next rfl rfl rfl rfl rfl rfl rfl (fun hcx=>Runs.move rfl rfl) ?_
 refine SeqC.next rfl rfl rfl rfl rfl rfl rfl (fun hcx=>Runs.move rfl rfl) ?_
 refine SeqC.nextC rfl rfl rfl rfl rfl rfl rfl (fun hcx=>Ze Tryz.func172) (fun hcx=>hdc _) ?_
 intro w1 hw1
 replace bel:=bel.step hw1
 refine SeqC.next rfl rfl rfl rfl rfl rfl rfl (fun hcx=>Runs.gtr rfl rfl rfl) ?_
 refine SeqC.or rfl rfl rfl rfl rfl rfl rfl ?_
 refine Zk6 0 1 2 6 7 28 (Zt ?_)
 refine Cd.cond rfl (fun h=> ?_) (fun h=> ?_)
 ·have hf:ofOk y m d=false:=by
   unfold ofOk
   rw[Bool.eq_false_iff]
   simp at h⊢
   omega
  rw[hf]
  refine Zsr ?_
  refine Za ?_
  refine Za ?_
  refine Zk6 0 1 2 6 7 28 (Zt (Cd.ret (Post.then_ret ?_)))
  refine Post.end2 rfl rfl rfl (.inl rfl) ?_
  exact⟨rfl,bel⟩
 have hd2:1≤d∧d≤daysZ y m:=by
  simp at h
  omega
 have hok:ofOk y m d=true:=by
  unfold ofOk
  simp
  omega
 rw[hok,if_pos rfl]
 obtain⟨m1,m2,m3⟩:=daysZ_m (y:=y) (m:=m) (by omega)
 have hz:ofZ y m d=ofY y m/400*146097+(ofY y m%400*365+ofY y m%400/4-ofY y m%400/100+((153*ofM m+2)/5+d-1))-719468:=rfl
 have hY:1969≤ofY y m∧ofY y m≤9999:=by unfold ofY;split<;>omega
 have hM:0≤ofM m∧ofM m≤11:=by unfold ofM;split<;>omega
 have eY:ofY y m=if m<3 then y-1 else y:=rfl
 have eM:ofM m=if m<3 then m+9 else m-3:=rfl
 generalize ofY y m=Y at *
 generalize ofM m=M at *
 refine Cd.skip (Ztq ?_)
 refine Zm ?_
 refine Zm ?_
 refine Zv (Runs.subI rfl rfl rfl (by omega) (by omega)) ?_
 refine Za ?_
 refine Za ?_
 refine Zk8 0 1 2 6 7 8 9 28 (Zt ?_)
 refine Cd.seqJ (σ:=Unit) (fun _=>[(2, .int .i64 d),(8, .int .i64 Y),(9, .int .i64 M)]) (fun _ wr=>Below w.heap.size w wr) ?_ ?_
 ·skip
  refine Zsr ?_
  refine Zm ?_
  refine Zv (Runs.lss rfl rfl rfl) ?_
  refine Zk9 0 1 2 6 7 8 9 28 33 (Zt ?_)
  refine Cd.condD rfl (fun hc=> ?_) (fun hc=> ?_)
  ·skip
   refine Zr ?_
   refine Zm ?_
   refine Zv (Runs.subI rfl rfl rfl (by omega) (by omega)) ?_
   refine Zm ?_
   refine Za_ ?_
   refine Za ?_
   refine Za ?_
   refine Zk9 0 1 2 6 7 8 9 28 33 ?_
   exact Post.join () ⟨rfl,congrArg (fun z=>some (Value.int .i64 z)) (by rw[eY,if_pos (by omega)]),congrArg (fun z=>some (Value.int .i64 z)) (by rw[eM,if_pos (by omega)];omega),trivial⟩ bel
  ·skip
   refine Cd.skip ?_
   exact Post.join () ⟨rfl,congrArg (fun z=>some (Value.int .i64 z)) (by rw[eY,if_neg (by omega)]),congrArg (fun z=>some (Value.int .i64 z)) (by rw[eM,if_neg (by omega)]),trivial⟩ bel
 clear bel
 rintro⟨⟩ wr bel
 refine Zsr ?_
 refine Zm ?_
 refine Zv (Runs.mulI rfl rfl rfl (by omega) (by omega)) ?_
 refine Za_ ?_
 refine Zv (Runs.quoI rfl rfl rfl (by omega) (by omega) (by omega)) ?_
 refine Zm ?_
 refine Za_ ?_
 refine Zv (Runs.subI rfl rfl rfl (by omega) (by omega)) ?_
 refine Za ?_
 refine Zk4 2 8 9 10 (Ztq ?_)
 refine Zm ?_
 refine Zv (Runs.remN rfl rfl rfl (by omega) (by omega)) ?_
 refine Zv (Runs.mulI rfl rfl rfl (by omega) (by omega)) ?_
 refine Zm ?_
 refine Zv (Runs.remN rfl rfl rfl (by omega) (by omega)) ?_
 refine Zv (Runs.quoI rfl rfl rfl (by omega) (by omega) (by omega)) ?_
 refine Za_ ?_
 refine Zm ?_
 refine Zv (Runs.remN rfl rfl rfl (by omega) (by omega)) ?_
 refine Zv (Runs.quoI rfl rfl rfl (by omega) (by omega) (by omega)) ?_
 refine Zv (Runs.subI rfl rfl rfl (by omega) (by omega)) ?_
 refine Zm ?_
 refine Za_ ?_
 refine Za ?_
 refine Zk5 2 8 9 10 11 (Ztq ?_)
 refine Zm ?_
 refine Zv (Runs.quoI rfl rfl rfl (by omega) (by omega) (by omega)) ?_
 refine Zv (Runs.mulI rfl rfl rfl (by omega) (by omega)) ?_
 refine Zm ?_
 refine Za_ ?_
 refine Zv (Runs.subI rfl rfl rfl (by omega) (by omega)) ?_
 refine Za ?_
 refine Za ?_
 refine Zk7 2 6 7 8 9 10 11 (Zt (Cd.ret ?_))
 refine Post.end2 rfl rfl rfl (.inl rfl) ?_
 exact⟨by rw[hz],bel⟩
end Go.Proofs.YtaamkfajnpobfaaGreat
namespace Go.Proofs.YtaamkfajnpobfaaGreat
open Go.RowKit
def numZ (l:List Nat):Int:=if l.all digB then(valD l:Int) else -1
theorem numZ_bd (l:List Nat)(h:l.length≤4): -1≤numZ l∧numZ l≤9999:=by
 unfold numZ
 split
 ·rename_i ha
  have:=valD_lt l (fun c hc=>by
   have:=List.all_eq_true.1 ha c hc
   unfold digB at this
   simp at this
   exact this)
  have h2:10^l.length≤10^4:=Nat.pow_le_pow_right (by omega) h
  omega
 ·omega
theorem numZ_bd2 (l:List Nat)(h:l.length≤2): -1≤numZ l∧numZ l≤99:=by
 unfold numZ
 split
 ·rename_i ha
  have:=valD_lt l (fun c hc=>by
   have:=List.all_eq_true.1 ha c hc
   unfold digB at this
   simp at this
   exact this)
  have h2:10^l.length≤10^2:=Nat.pow_le_pow_right (by omega) h
  omega
 ·omega
theorem datePart_any (g:Nat)(l:List Nat)(i j:Nat)(w:World)(hl:∀x∈l,x<256)(hg:Blk w g 9 #[.string (strOf l)]) (hi:i≤j) (hj:j≤l.length) (h4:j≤i+4):
  Calls Tryz.prog 164 #[.int .i64 (i:Int), .int .i64 (j:Int), .pointer (some ⟨g,0,none⟩)] w fun e w'=>e= .returned (.int .i64 (numZ ((l.take j).drop i)))∧Grow w w':=by
 have bel:=Below.refl w.heap.size w
 have hll:l.length≤9223372036854775807∨9223372036854775807<l.length:=by omega
 have hM:∀x∈(l.take j).drop i,x<256:=drop_lt (take_lt hl j) i
 have hMl:((l.take j).drop i).length≤4:=by rw[List.length_drop,List.length_take];omega
 have kg:=hg
 refine Zs 33 Tryz.func164 ?_
 refine Zsr ?_
 refine Za ?_
 refine Zk4 0 1 2 5 (Ztq ?_)
 refine Za ?_
 refine Zk5 0 1 2 5 6 (Zts (Zsr ?_))
 refine Zv (Runs.loadB rfl rfl Tryz.underlying9 rfl kg rfl) ?_
 refine Zm ?_
 refine Zm ?_
 refine Zv (Runs.sliceAtL (i:=i) (j:=j) rfl rfl rfl rfl Tryz.underlying9 rfl rfl hi hj) ?_
 generalize (l.take j).drop i=M at *
 refine Seq.convSB rfl rfl Tryz.underlying9 Tryz.underlying125 Tryz.underlying5 hM rfl rfl rfl ?_
 intro g13 c13 w13 hc13 n13
 replace bel:=bel.step n13.below
 have hrd13:=n13.reads
 have hB13:=n13.lt
 refine Zv (Runs.len rfl rfl Tryz.underlying125) ?_
 refine Zm ?_
 refine Zk8 0 1 2 5 6 13 14 15 (Zt (Cd.block ?_))
 refine Cd.loop (σ:=Nat) (fun k=>[(6, .int .i64 ((valD (M.take k):Nat):Int)),(13, .slice (some ⟨g13,0,none⟩) M.length c13),(14, .int .i64 (M.length:Int)),(15, .int .i64 (k:Int))])
  (fun k wr=>k≤M.length∧(∀c∈M.take k,isDg c)∧Below w.heap.size w wr∧Below w13.heap.size w13 wr) (fun k=>M.length-k) 0 ⟨by omega,by simp,bel,Below.refl _ _⟩ ⟨rfl,rfl,rfl,rfl,trivial⟩ ?_
 clear bel
 rintro k wr ⟨hk,hdg,bel,bl13⟩
 have hvl:=valD_lt (M.take k) hdg
 rw[List.length_take,Nat.min_eq_left hk] at hvl
 have h10:10^k≤10^4:=Nat.pow_le_pow_right (by omega) (by omega)
 refine Zsr ?_
 refine Zv (Runs.lss rfl rfl rfl) ?_
 refine Zk5 6 13 14 15 16 (Zts ?_)
 refine Cd.condD rfl (fun hc=> ?_) (fun hc=> ?_)
 ·obtain⟨c,hcc⟩:∃c,M[k]? =some c:=⟨_,List.getElem?_eq_getElem (show k<M.length by omega)⟩
  have hc256:=hM c (List.mem_of_getElem? hcc)
  have hcell:wr.cell? (Addr.add ⟨g13,0,none⟩ k)=some (.int .u8 (c:Int)):=by
   obtain⟨ad,e,hb,hcs⟩:=hrd13.2 (by omega)
   injection e with e
   subst e
   rw[bl13.cell (by rw[block_of_add];exact hB13)]
   exact hcs k _ (by rw[get_Bt,hcc];rfl)
  have htk:M.take (k+1)=M.take k++[c]:=by rw[List.take_add_one,hcc];rfl
  have hvs:valD (M.take (k+1))=10*valD (M.take k)+(c-48):=by rw[htk,valD_snoc]
  generalize hV:valD (M.take k)=V at *
  refine Cd.skip (Zts (Cd.block (Zsr ?_)))
  refine Zv (Runs.index1 rfl rfl rfl Tryz.underlying125 (by kernel_rfl) (j:=k) rfl (by omega)) ?_
  refine Zv (Runs.load1 rfl rfl Tryz.underlying5 rfl hcell) ?_
  refine Za ?_
  refine Zk6 6 8 13 14 15 16 (Zts (Zsr ?_))
  refine Zm ?_
  refine Zv (Runs.lss rfl rfl rfl) ?_
  refine Zm ?_
  refine SeqC.start ?_
  refine Zco (fun hcx=>Runs.move rfl rfl) ?_
  refine SeqC.next rfl rfl rfl rfl rfl rfl rfl (fun hcx=>Runs.gtr rfl rfl rfl) ?_
  refine SeqC.or rfl rfl rfl rfl rfl rfl rfl ?_
  refine Zk7 6 8 13 14 15 16 24 (Zt ?_)
  refine Cd.cond rfl (fun h=> ?_) (fun h=> ?_)
  ·have hno:¬M.all digB=true:=by
    intro ha
    have:=List.all_eq_true.1 ha c (List.mem_of_getElem? hcc)
    unfold digB at this
    simp at this h
    omega
   refine Zsr ?_
   refine Za ?_
   refine Zk8 5 6 8 13 14 15 16 24 (Zt (Cd.ret (Post.then_ret (Post.block_ret (Post.then_ret (Post.round_ret (Post.block_ret (Post.then_ret ?_))))))))
   refine Post.end1 rfl rfl (.inl rfl) ?_
   exact⟨ret1 (int_eq (by unfold numZ;rw[if_neg hno])),bel⟩
  ·have hcd:isDg c:=by unfold isDg;simp at h;omega
   have hcd2:=hcd
   unfold isDg at hcd2
   clear h
   refine Cd.skip (Ztr ?_)
   refine Zm ?_
   refine Zv (Runs.mulI rfl rfl rfl (by omega) (by omega)) ?_
   refine Zm ?_
   refine Zv (Runs.subW rfl rfl rfl (wrapB (by omega) (by omega))) ?_
   refine Zv (Runs.convI rfl rfl Tryz.underlying5 Tryz.underlying3 (wrapI (by omega) (by omega))) ?_
   refine Za_ ?_
   refine Za ?_
   refine Zk7 6 8 13 14 15 16 24 (Post.block_normal (Ztr ?_))
   refine Za_ ?_
   refine Zm ?_
   refine Zk7 6 8 13 14 15 16 24 ?_
   refine Post.round (k+1) ⟨congrArg (fun x=>some (Value.int .i64 x)) (show(10*(V:Int)+((c:Int)-48))=((valD (M.take (k+1)):Nat):Int) by omega),rfl,rfl,rfl,trivial⟩ ⟨by omega,?_,bel,bl13⟩ (by omega)
   intro x hx
   rw[htk] at hx
   rcases List.mem_append.1 hx with h|h
   ·exact hdg x h
   ·simp at h;subst h;exact hcd
 ·obtain rfl:k=M.length:=by omega
  rw[List.take_of_length_le (Nat.le_refl _)] at hdg⊢
  have hall:M.all digB=true:=by
   rw[List.all_eq_true]
   intro c hc
   have:=hdg c hc
   unfold isDg at this
   unfold digB
   simp
   omega
  refine Cd.exit (Post.then_exit (Post.round_exit (Post.block_exit (Ztq ?_))))
  refine Zm ?_
  refine Za ?_
  refine Zk6 5 6 13 14 15 16 (Zt (Cd.ret ?_))
  refine Post.end1 rfl rfl (.inl rfl) ?_
  exact⟨ret1 (int_eq (by unfold numZ;rw[if_pos hall])),bel⟩
theorem eg_datePart:∀args w,(callFunc 164 args).run Tryz.prog w= .ok (.enter 164 args) w:=fun args w=>run_enter Tryz.func164 (by kernel_rfl) rfl args w
def dateOk (l:List Nat):Bool:=decide (l.length=10)&&decide (l[4]? =some 45)&&decide (l[7]? =some 45)&&ofOk (numZ ((l.take 4).drop 0)) (numZ ((l.take 7).drop 5)) (numZ ((l.take 10).drop 8))
def dateZ (l:List Nat):Int:=if dateOk l then ofZ (numZ ((l.take 4).drop 0)) (numZ ((l.take 7).drop 5)) (numZ ((l.take 10).drop 8)) else 0
theorem dateParse_any (l:List Nat)(w:World)(hl:∀x∈l,x<256)(hlen:l.length≤9223372036854775807):
  Calls Tryz.prog 160 #[.string (strOf l)] w fun e w'=>e= .returned (.tuple #[.int .i64 (dateZ l), .bool (dateOk l)])∧Grow w w':=by
 have bel:=Below.refl w.heap.size w
 by_cases h10:l.length=10
 ·obtain⟨c4,h4⟩:∃c,l[4]? =some c:=⟨_,List.getElem?_eq_getElem (by omega)⟩
  obtain⟨c7,h7⟩:∃c,l[7]? =some c:=⟨_,List.getElem?_eq_getElem (by omega)⟩
  have hc4:=hl c4 (List.mem_of_getElem? h4)
  have hc7:=hl c7 (List.mem_of_getElem? h7)
  refine Zs 28 Tryz.func160 ?_
  refine Zsr ?_
  refine Seq.box rfl rfl rfl rfl rfl ?_
  intro g1 w1 n1
  have e1:=Nat.le_trans bel.size n1.ge
  replace bel:=bel.step n1.below
  have k1:=n1.blk
  refine Za ?_
  refine Za ?_
  refine Zk4 0 1 2 3 (Zts (Zsr ?_))
  refine Zv (Runs.loadB rfl rfl Tryz.underlying9 rfl k1 rfl) ?_
  refine Zv (Runs.lenL rfl rfl Tryz.underlying9) ?_
  refine Zv (Runs.neqI rfl rfl rfl) ?_
  refine Zm ?_
  refine SeqC.start ?_
  refine Zco (fun hcx=>Runs.loadB rfl rfl Tryz.underlying9 rfl k1 rfl) ?_
  refine SeqC.next rfl rfl rfl rfl rfl rfl rfl (fun hcx=>Runs.indexL (l:=l) (j:=4) rfl rfl rfl Tryz.underlying9 rfl h4 hc4) ?_
  refine SeqC.next rfl rfl rfl rfl rfl rfl rfl (fun hcx=>Runs.neqI rfl rfl rfl) ?_
  refine SeqC.or rfl rfl rfl rfl rfl rfl rfl ?_
  refine Zm ?_
  refine SeqC.start ?_
  refine Zco (fun hcx=>Runs.loadB rfl rfl Tryz.underlying9 rfl k1 rfl) ?_
  refine SeqC.next rfl rfl rfl rfl rfl rfl rfl (fun hcx=>Runs.indexL (l:=l) (j:=7) rfl rfl rfl Tryz.underlying9 rfl h7 hc7) ?_
  refine SeqC.next rfl rfl rfl rfl rfl rfl rfl (fun hcx=>Runs.neqI rfl rfl rfl) ?_
  refine SeqC.or rfl rfl rfl rfl rfl rfl rfl ?_
  refine Zk5 0 1 2 3 17 (Zt ?_)
  refine Cd.cond rfl (fun h=> ?_) (fun h=> ?_)
  ·have hf:dateOk l=false:=by
    rw[Bool.eq_false_iff]
    intro h2
    unfold dateOk at h2
    rw[h4,h7] at h2
    simp at h2 h
    omega
   have hz:dateZ l=0:=by unfold dateZ;rw[hf];rfl
   rw[hf,hz]
   refine Zsr ?_
   refine Za ?_
   refine Za ?_
   refine Zk5 0 1 2 3 17 (Zt (Cd.ret (Post.then_ret ?_)))
   refine Post.end2 rfl rfl rfl (.inl rfl) ?_
   exact⟨rfl,bel⟩
  ·have h45:c4=45∧c7=45:=by simp at h;omega
   have hok:dateOk l=ofOk (numZ ((l.take 4).drop 0)) (numZ ((l.take 7).drop 5)) (numZ ((l.take 10).drop 8)):=by
    unfold dateOk
    rw[h4,h7,h45.1,h45.2,h10]
    simp
   unfold dateZ
   rw[hok]
   have d1:=numZ_bd ((l.take 4).drop 0) (by rw[List.length_drop,List.length_take];omega)
   have d2:=numZ_bd2 ((l.take 7).drop 5) (by rw[List.length_drop,List.length_take];omega)
   have d3:=numZ_bd2 ((l.take 10).drop 8) (by rw[List.length_drop,List.length_take];omega)
   have p1:=fun w (k1:Blk w g1 9 #[.string (strOf l)])=>datePart_any g1 l 0 4 w hl k1 (by omega) (by omega) (by omega)
   have p2:=fun w (k1:Blk w g1 9 #[.string (strOf l)])=>datePart_any g1 l 5 7 w hl k1 (by omega) (by omega) (by omega)
   have p3:=fun w (k1:Blk w g1 9 #[.string (strOf l)])=>datePart_any g1 l 8 10 w hl k1 (by omega) (by omega) (by omega)
   generalize numZ ((l.take 4).drop 0)=y at *
   generalize numZ ((l.take 7).drop 5)=m at *
   generalize numZ ((l.take 10).drop 8)=d at *
   refine Cd.skip (Ztq ?_)
   refine Zv (Runs.makeFunc rfl (show evL _ _=some [] from rfl) (show evL _ _=some [.pointer (some ⟨g1,0,none⟩)] from rfl) rfl) ?_
   refine Za ?_
   refine Zk6 0 1 2 3 4 17 (Ztq ?_)
   refine Zm ?_
   refine Seq.call (Enters.value (first:=[]) (cap:=[.pointer (some ⟨g1,0,none⟩)]) rfl rfl rfl eg_datePart) rfl rfl rfl (p1 _ k1) ?_
   rintro e w5 ⟨rfl,hb5⟩
   refine⟨_,rfl,?_⟩
   replace bel:=bel.step hb5
   replace k1:=k1.step hb5
   refine Zm ?_
   refine Seq.call (Enters.value (first:=[]) (cap:=[.pointer (some ⟨g1,0,none⟩)]) rfl rfl rfl eg_datePart) rfl rfl rfl (p2 _ k1) ?_
   rintro e w6 ⟨rfl,hb6⟩
   refine⟨_,rfl,?_⟩
   replace bel:=bel.step hb6
   replace k1:=k1.step hb6
   refine Zm ?_
   refine Seq.call (Enters.value (first:=[]) (cap:=[.pointer (some ⟨g1,0,none⟩)]) rfl rfl rfl eg_datePart) rfl rfl rfl (p3 _ k1) ?_
   rintro e w7 ⟨rfl,hb7⟩
   refine⟨_,rfl,?_⟩
   replace bel:=bel.step hb7
   replace k1:=k1.step hb7
   refine Zc (Ze Tryz.func165) (dateOf_any y m d _ (by unfold I64;omega) (by omega) (by unfold I64;omega)) ?_
   rintro e w8 ⟨rfl,hb8⟩
   refine⟨_,rfl,?_⟩
   replace bel:=bel.step hb8
   replace k1:=k1.step hb8
   refine Zv (Runs.extract rfl rfl rfl) ?_
   refine Zv (Runs.extract rfl rfl rfl) ?_
   refine Za ?_
   refine Za ?_
   refine Zk6 0 1 2 3 4 17 (Zt (Cd.ret ?_))
   refine Post.end2 rfl rfl rfl (.inl rfl) ?_
   exact⟨rfl,bel⟩
 ·have hf:dateOk l=false:=by
   rw[Bool.eq_false_iff]
   intro h2
   unfold dateOk at h2
   simp[h10] at h2
  have hz:dateZ l=0:=by unfold dateZ;rw[hf];rfl
  rw[hf,hz]
  refine Zs 28 Tryz.func160 ?_
  refine Zsr ?_
  refine Seq.box rfl rfl rfl rfl rfl ?_
  intro g1 w1 n1
  have e1:=Nat.le_trans bel.size n1.ge
  replace bel:=bel.step n1.below
  have k1:=n1.blk
  refine Za ?_
  refine Za ?_
  refine Zk4 0 1 2 3 (Zts (Zsr ?_))
  refine Zv (Runs.loadB rfl rfl Tryz.underlying9 rfl k1 rfl) ?_
  refine Zv (Runs.lenL rfl rfl Tryz.underlying9) ?_
  refine Zv (Runs.neqI rfl rfl rfl) ?_
  refine Zm ?_
  refine SeqC.start ?_
  refine Zco (fun hcx=>Runs.loadB rfl rfl Tryz.underlying9 rfl k1 rfl) ?_
  refine SeqC.next rfl rfl rfl rfl rfl rfl rfl (fun hcx=>(by exfalso;first|(simp[topX] at hcx;omega)|simp[topX] at hcx:Runs _ _ _ _ (.int .u8 0) _)) ?_
  refine SeqC.next rfl rfl rfl rfl rfl rfl rfl (fun hcx=>Runs.neqI rfl rfl rfl) ?_
  refine SeqC.or rfl rfl rfl rfl rfl rfl rfl ?_
  refine Zm ?_
  refine SeqC.start ?_
  refine Zco (fun hcx=>Runs.loadB rfl rfl Tryz.underlying9 rfl k1 rfl) ?_
  refine SeqC.next rfl rfl rfl rfl rfl rfl rfl (fun hcx=>(by exfalso;first|(simp[topX] at hcx;omega)|simp[topX] at hcx:Runs _ _ _ _ (.int .u8 0) _)) ?_
  refine SeqC.next rfl rfl rfl rfl rfl rfl rfl (fun hcx=>Runs.neqI rfl rfl rfl) ?_
  refine SeqC.or rfl rfl rfl rfl rfl rfl rfl ?_
  refine Zk5 0 1 2 3 17 (Zt ?_)
  refine Cd.condT rfl (by first|(simp;omega)|simp) ?_
  refine Zsr ?_
  refine Za ?_
  refine Za ?_
  refine Zk5 0 1 2 3 17 (Zt (Cd.ret (Post.then_ret ?_)))
  refine Post.end2 rfl rfl rfl (.inl rfl) ?_
  exact⟨rfl,bel⟩
end Go.Proofs.YtaamkfajnpobfaaGreat
namespace Go.Proofs.YtaamkfajnpobfaaGreat
open Go.RowKit
theorem zero_string:zeroIs Tryz.prog 9=some (some (.string {data:= #[]})):=by kernel_rfl
theorem zero_lex_Word:zeroIs Tryz.prog 95=some (some (.agg #[.int .i64 0, .string {data:= #[]}, .int .i64 0, .int .i64 0])):=by kernel_rfl
theorem run_build_Word3 (a c:Int)(s:ByteArray)(w:World):(Instr.build 95 #[(0, .int .i64 a),(1, .string s),(2, .int .i64 c)]).run Tryz.prog w= .ok (.agg #[.int .i64 a, .string s, .int .i64 c, .int .i64 0]) w:=by
 have hu:=Tryz.underlying95
 go_simp
theorem run_build_Word2 (a:Int)(s:ByteArray)(w:World):(Instr.build 95 #[(0, .int .i64 a),(1, .string s)]).run Tryz.prog w= .ok (.agg #[.int .i64 a, .string s, .int .i64 0, .int .i64 0]) w:=by
 have hu:=Tryz.underlying95
 go_simp
theorem run_build_Word0 (w:World):(Instr.build 95 #[]).run Tryz.prog w= .ok (.agg #[.int .i64 0, .string {data:= #[]}, .int .i64 0, .int .i64 0]) w:=by
 have hu:=Tryz.underlying95
 go_simp
theorem hasPrefixL_lite (l p:List Nat)(w:World)(hl:∀x∈l,x<256)(hp:∀x∈p,x<256):
  Calls Tryz.prog 158 #[.string (strOf l), .string (strOf p)] w fun e w'=>e= .returned (.bool (decide (l.take p.length=p)))∧w=w':=by
 have h2:∀x∈l.take p.length,x<256:=fun x hx=>hl x (List.mem_of_mem_take hx)
 refine Zs 18 Tryz.func158 ?_
 refine Zsr ?_
 refine Za ?_
 refine Zk3 0 1 4 (Ztq ?_)
 refine Zm ?_
 refine Zv (Runs.lenL rfl rfl Tryz.underlying9) ?_
 refine Zm ?_
 refine Zv (Runs.lenL rfl rfl Tryz.underlying9) ?_
 refine Zv (Runs.geq rfl rfl rfl) ?_
 refine Zm ?_
 refine SeqC.start ?_
 refine Zco (fun hcx=>Runs.move rfl rfl) ?_
 refine SeqC.next rfl rfl rfl rfl rfl rfl rfl (fun hcx=>Runs.move rfl rfl) ?_
 refine SeqC.next rfl rfl rfl rfl rfl rfl rfl (fun hcx=>Runs.lenL rfl rfl Tryz.underlying9) ?_
 refine SeqC.next rfl rfl rfl rfl rfl rfl rfl (fun hcx=>Runs.sliceTo (j:=p.length) rfl rfl rfl Tryz.underlying9 rfl (by simp[topX] at hcx;omega)) ?_
 refine SeqC.next rfl rfl rfl rfl rfl rfl rfl (fun hcx=>Runs.move rfl rfl) ?_
 refine SeqC.next rfl rfl rfl rfl rfl rfl rfl (fun hcx=>Runs.eqlL (a:=l.take p.length) (b:=p) rfl rfl rfl h2 hp) ?_
 refine SeqC.and rfl rfl rfl rfl rfl rfl rfl ?_
 refine Za ?_
 refine Zk3 0 1 4 (Zt (Cd.ret ?_))
 refine Post.end1 rfl rfl (.inl rfl) ?_
 refine⟨ret1 (bool_eq ?_),rfl⟩
 rw[Bool.eq_iff_iff]
 simp
 intro h
 have:=congrArg List.length h
 rw[List.length_take] at this
 omega
theorem hasPrefixL_any (l p:List Nat)(w:World)(hl:∀x∈l,x<256)(hp:∀x∈p,x<256):
  Calls Tryz.prog 129 #[.string (strOf l), .string (strOf p)] w fun e w'=>e= .returned (.bool (decide (l.take p.length=p)))∧w=w':=by
 refine Zs 8 Tryz.func129 ?_
 refine Zsr ?_
 refine Za ?_
 refine Zk3 0 1 4 (Ztq ?_)
 refine Zm ?_
 refine Zm ?_
 refine Zc (Ze Tryz.func158) (hasPrefixL_lite l p _ hl hp) ?_
 rintro e w2 ⟨rfl,rfl⟩
 refine⟨_,rfl,?_⟩
 refine Za ?_
 refine Zk3 0 1 4 (Zt (Cd.ret ?_))
 refine Post.end1 rfl rfl (.inl rfl) ?_
 exact⟨rfl,rfl⟩
def signsL:List (List Nat):=[[60,61],[33,61],[62,61],[40],[41],[44],[43],[45],[42],[47],[60],[61],[62],[38],[124],[33]]
def strV (L:List (List Nat)):List Value:=L.map fun s=> .string (strOf s)
theorem signs_any (w:World):Calls Tryz.prog 138 #[] w fun e w'=>∃g,e= .returned (.slice (some ⟨g,0,none⟩) 16 16)∧Blk w' g 9 (strV signsL).toArray∧Grow w w':=by
 have bel:=Below.refl w.heap.size w
 refine Zs 2 Tryz.func138 ?_
 refine Zsr ?_
 refine Za ?_
 refine Zk1 0 (Ztq ?_)
 refine Seq.slice (vs:=[_,_,_,_,_,_,_,_,_,_,_,_,_,_,_,_]) (s:=1) rfl rfl rfl Tryz.underlying114 (by kernel_rfl) (zero_string) (by omega) (by omega) ⟨rfl,rfl,rfl,rfl,rfl,rfl,rfl,rfl,rfl,rfl,rfl,rfl,rfl,rfl,rfl,rfl,trivial⟩ rfl rfl rfl ?_
 intro g1 w1 n1
 have e1:=Nat.le_trans bel.size n1.ge
 replace bel:=bel.step n1.below
 have k1:=n1.blk
 refine Za ?_
 refine Zk1 0 (Zt (Cd.ret ?_))
 refine Post.end1 rfl rfl (.inl rfl) ?_
 exact⟨_,rfl,k1,bel⟩
def signW (l:List Nat):Option (List Nat):=signsL.find? fun s=>decide (l.take s.length=s)
def amt0 (t:List Nat):Option Int:=if t.all digB=true∧(1<t.length→t[0]? ≠some 48)∧valD t≤9223372036854775807 then some (valD t:Int) else none
theorem all_dg {t:List Nat}:t.all digB=true↔∀c∈t,isDg c:=by
 rw[List.all_eq_true]
 constructor
 ·intro h c hc
  have:=h c hc
  unfold digB at this
  simp at this
  exact this
 ·intro h c hc
  have:=h c hc
  unfold isDg at this
  unfold digB
  simp
  omega
theorem amt0_of {t:List Nat}{v:Int}{ok:Bool}(h:AmtA t 0 v ok)(c:Nat)(r:List Nat)(ht:t=c::r)(hc:digB c=true):amt0 t=if ok then some v else none:=by
 have hc2:48≤c∧c≤57:=by unfold digB at hc;simp at hc;exact hc
 cases ok with
 |true=>
  obtain⟨-,-,hv,F,B,hf⟩:=h.1 rfl
  have h0:=hf.len
  have hB:B=[]:=List.eq_nil_of_length_eq_zero (by simpa using h0)
  subst hB
  have he:=hf.eq
  unfold FormL at he
  rw[if_neg (show¬0<(0:Int).toNat by decide),List.append_nil] at he
  have hneg:¬v<0:=by
   intro hn
   rw[if_pos hn,ht] at he
   injection he with he
   omega
  rw[if_neg hneg] at he
  have he2:t=F:=he
  subst he2
  have hval:=hf.val
  rw[List.append_nil] at hval
  have hcond:t.all digB=true∧(1<t.length→t[0]? ≠some 48)∧valD t≤9223372036854775807:=⟨all_dg.2 hf.f,hf.lead,by unfold I64 at hv;omega⟩
  unfold amt0
  rw[if_pos hcond,if_pos rfl,hval]
  congr 1
  omega
 |false=>
  obtain⟨-,hno⟩:=h.2 rfl
  unfold amt0
  rw[if_neg]
  ·rfl
  ·rintro⟨h1,h2,h3⟩
   refine hno (by omega) (by omega) (valD t:Int) (by unfold I64;omega) t [] ⟨all_dg.1 h1,by simp,by simp,by rw[ht];simp,h2,by rw[List.append_nil];omega,?_⟩
   unfold FormL
   rw[if_neg (show¬(valD t:Int)<0 by omega),if_neg (show¬0<(0:Int).toNat by decide),List.append_nil]
   rfl
def dayOk (l:List Nat):Bool:=decide (10≤l.length)&& !(decide (10<l.length)&&partB (l.getD 10 0))&&dateOk (l.take 10)
theorem day_any (l:List Nat)(w:World)(hl:∀x∈l,x<256)(hlen:l.length≤9223372036854775807):
  Calls Tryz.prog 134 #[.string (strOf l)] w fun e w'=>∃a b c,e= .returned (.tuple #[.agg #[.int .i64 a, .string (strOf b), .int .i64 c, .int .i64 0], .bool (dayOk l)])∧(dayOk l=true→a=2∧b=l.take 10∧c=dateZ (l.take 10))∧Grow w w':=by
 have bel:=Below.refl w.heap.size w
 have h0:10<l.length→l[10]? =some (l.getD 10 0):=by
  intro h
  rw[List.getD_eq_getElem?_getD,List.getElem?_eq_getElem h];rfl
 have h1:l.getD 10 0<256:=by
  rw[List.getD_eq_getElem?_getD]
  cases hh:l[10]? with
  |none=>simp
  |some c=>exact hl c (List.mem_of_getElem? hh)
 unfold dayOk
 generalize l.getD 10 0=c0 at *
 refine Zs 31 Tryz.func134 ?_
 refine Zsr ?_
 refine Zl zero_lex_Word ?_
 intro g2 w1 n2
 have e2:=Nat.le_trans bel.size n2.ge
 replace bel:=bel.step n2.below
 have k2:=n2.blk
 refine Za ?_
 refine Zk3 0 2 3 (Zts (Zsr ?_))
 refine Zm ?_
 refine Zv (Runs.lenL rfl rfl Tryz.underlying9) ?_
 refine Zv (Runs.lss rfl rfl rfl) ?_
 refine Zm ?_
 refine SeqC.start ?_
 refine Zco (fun hcx=>Runs.move rfl rfl) ?_
 refine SeqC.next rfl rfl rfl rfl rfl rfl rfl (fun hcx=>Runs.lenL rfl rfl Tryz.underlying9) ?_
 refine SeqC.next rfl rfl rfl rfl rfl rfl rfl (fun hcx=>Runs.gtr rfl rfl rfl) ?_
 refine SeqC.next rfl rfl rfl rfl rfl rfl rfl (fun hcx=>Runs.move rfl rfl) ?_
 refine Zco (fun hcx=>Runs.move rfl rfl) ?_
 refine SeqC.next rfl rfl rfl rfl rfl rfl rfl (fun hcx=>Runs.indexL (l:=l) (j:=10) (c:=c0) rfl rfl rfl Tryz.underlying9 rfl (h0 (by simp[topX] at hcx;omega)) h1) ?_
 refine SeqC.nextC rfl rfl rfl rfl rfl rfl rfl (fun hcx=>Ze Tryz.func137) (fun hcx=>part_any _ _) ?_
 intro w2 hw2
 replace bel:=bel.step hw2
 replace k2:=k2.step hw2
 refine SeqC.andG rfl rfl rfl rfl rfl rfl rfl rfl rfl rfl rfl ?_
 refine SeqC.or rfl rfl rfl rfl rfl rfl rfl ?_
 refine Zk4 0 2 3 18 (Zt ?_)
 refine Cd.cond rfl (fun h=> ?_) (fun h=> ?_)
 ·have hf:(decide (10≤l.length)&& !(decide (10<l.length)&&partB c0))=false:=by
   cases hp:partB c0 with
   |false=>rw[hp] at h;simp at h⊢;omega
   |true=>rw[hp] at h;simp at h⊢;omega
  rw[hf]
  refine Zsr ?_
  refine Zv (Runs.build rfl rfl (run_build_Word0 _)) ?_
  refine Zo 4 k2 ?_
  intro w3 pw3
  replace bel:=bel.put k2 pw3 e2
  replace k2:=pw3.blk
  refine Za ?_
  refine Zk4 0 2 3 18 (Zt (Cd.ret (Post.then_ret ?_)))
  refine Post.endC2 rfl rfl rfl k2 Tryz.underlying95 rfl (m:=4) (by kernel_rfl) rfl (.inl rfl) ?_
  exact⟨0,[],0,rfl,(fun h=>by cases h),bel⟩
 ·have hf:(decide (10≤l.length)&& !(decide (10<l.length)&&partB c0))=true:=by
   cases hp:partB c0 with
   |false=>rw[hp] at h;simp at h⊢;omega
   |true=>rw[hp] at h;simp at h⊢;omega
  have h10:10≤l.length:=by simp at hf;exact hf.1
  rw[hf,Bool.true_and]
  refine Cd.skip (Ztq ?_)
  refine Zm ?_
  refine Zv (Runs.sliceTo (j:=10) rfl rfl rfl Tryz.underlying9 rfl h10) ?_
  refine Zc (Ze Tryz.func160) (dateParse_any (l.take 10) _ (take_lt hl 10) (by rw[List.length_take];omega)) ?_
  rintro e w5 ⟨rfl,hb5⟩
  refine⟨_,rfl,?_⟩
  replace bel:=bel.step hb5
  replace k2:=k2.step hb5
  refine Zm ?_
  refine Zv (Runs.extract rfl rfl rfl) ?_
  refine Zv (Runs.extract rfl rfl rfl) ?_
  refine Za ?_
  refine Za ?_
  refine Zk6 0 2 3 4 5 18 (Ztq ?_)
  refine Zm ?_
  refine Zv (Runs.sliceTo (j:=10) rfl rfl rfl Tryz.underlying9 rfl h10) ?_
  refine Zm ?_
  refine Zv (Runs.build rfl rfl (run_build_Word3 _ _ _ _)) ?_
  refine Zm ?_
  refine Zo 4 k2 ?_
  intro w3 pw3
  replace bel:=bel.put k2 pw3 e2
  replace k2:=pw3.blk
  refine Za ?_
  refine Zk6 0 2 3 4 5 18 (Zt (Cd.ret ?_))
  refine Post.endC2 rfl rfl rfl k2 Tryz.underlying95 rfl (m:=4) (by kernel_rfl) rfl (.inl rfl) ?_
  exact⟨2,l.take 10,dateZ (l.take 10),rfl,fun _=>⟨rfl,rfl,rfl⟩,bel⟩
theorem number_any (l:List Nat)(w:World)(hl:∀x∈l,x<256)(hlen:l.length≤9223372036854775807):
  Calls Tryz.prog 135 #[.string (strOf l)] w fun e w'=>∃v ok,e= .returned (.tuple #[.agg #[.int .i64 1, .string (strOf (l.take (runN partB l))), .int .i64 v, .int .i64 0], .bool ok])∧AmtA (l.take (runN partB l)) 0 v ok∧Grow w w':=by
 have bel:=Below.refl w.heap.size w
 have hr:=runN_le partB l
 refine Zs 22 Tryz.func135 ?_
 refine Zsr ?_
 refine Zl zero_lex_Word ?_
 intro g2 w1 n2
 have e2:=Nat.le_trans bel.size n2.ge
 replace bel:=bel.step n2.below
 have k2:=n2.blk
 refine Za ?_
 refine Zk3 0 2 3 (Ztq ?_)
 refine Zm ?_
 refine Zc (Ze Tryz.func131) (run_part l _ hl hlen) ?_
 rintro e w2 ⟨rfl,hb2⟩
 refine⟨_,rfl,?_⟩
 replace bel:=bel.step hb2
 replace k2:=k2.step hb2
 generalize runN partB l=n at *
 refine Za ?_
 refine Zk4 0 2 3 4 (Ztq ?_)
 refine Zm ?_
 refine Zm ?_
 refine Zv (Runs.sliceTo (j:=n) rfl rfl rfl Tryz.underlying9 rfl hr) ?_
 refine Zc (Ze Tryz.func161) (amount_any (l.take n) 0 _ (take_lt hl n) (by rw[List.length_take];omega) (by unfold I64;omega)) ?_
 rintro e w3 ⟨v,ok,rfl,ha,hb3⟩
 refine⟨_,rfl,?_⟩
 replace bel:=bel.step hb3
 replace k2:=k2.step hb3
 refine Zm ?_
 refine Zv (Runs.extract rfl rfl rfl) ?_
 refine Zv (Runs.extract rfl rfl rfl) ?_
 refine Za ?_
 refine Za ?_
 refine Zk6 0 2 3 4 5 6 (Ztq ?_)
 refine Zm ?_
 refine Zm ?_
 refine Zv (Runs.sliceTo (j:=n) rfl rfl rfl Tryz.underlying9 rfl hr) ?_
 refine Zm ?_
 refine Zv (Runs.build rfl rfl (run_build_Word3 _ _ _ _)) ?_
 refine Zm ?_
 refine Zo 4 k2 ?_
 intro w2 pw2
 replace bel:=bel.put k2 pw2 e2
 replace k2:=pw2.blk
 refine Za ?_
 refine Zk6 0 2 3 4 5 6 (Zt (Cd.ret ?_))
 refine Post.endC2 rfl rfl rfl k2 Tryz.underlying95 rfl (m:=4) (by kernel_rfl) rfl (.inl rfl) ?_
 exact⟨v,ok,rfl,ha,bel⟩
end Go.Proofs.YtaamkfajnpobfaaGreat
namespace Go.Proofs.YtaamkfajnpobfaaGreat
open Go.RowKit
def nextW (l:List Nat):Option (Int × List Nat × Int):=match l with
 | []=>none
 |c::r=>if digB c then(if dayOk (c::r) then some (2,(c::r).take 10,dateZ ((c::r).take 10)) else(amt0 ((c::r).take (runN partB (c::r)))).map fun v=>(1,(c::r).take (runN partB (c::r)),v))
  else if letB c then(if runN partB (c::r)≤16 then some (3,(c::r).take (runN partB (c::r)),0) else none)
  else(signW (c::r)).map fun s=>(0,s,0)
theorem find_at {α:Type}(p:α→Bool):∀(L:List α) (k:Nat) (s:α),(∀j s',j<k→L[j]? =some s'→p s'=false)→L[k]? =some s→p s=true→L.find? p=some s
 | [],k,s,_,h,_=>by simp at h
 |x::L,0,s,_,h,hp=>by simp at h;subst h;simp[hp]
 |x::L,k+1,s,hn,h,hp=>by
  have h0:=hn 0 x (by omega) (by simp)
  rw[List.find?_cons,h0]
  exact find_at p L k s (fun j s' hj hs=>hn (j+1) s' (by omega) (by simpa using hs)) (by simpa using h) hp
theorem find_no {α:Type}(p:α→Bool)(L:List α)(h:∀(j:Nat) (s':α),L[j]? =some s'→p s'=false):L.find? p=none:=by
 rw[List.find?_eq_none]
 intro x hx
 obtain⟨j,hj,rfl⟩:=List.getElem_of_mem hx
 rw[h j _ (List.getElem?_eq_getElem hj)]
 simp
theorem signs_lt:∀s∈signsL,∀x∈s,x<256:=by decide
theorem next_any (l:List Nat)(w:World)(hl:∀x∈l,x<256)(hlen:l.length≤9223372036854775807)(hne:l≠ []):
  Calls Tryz.prog 96 #[.string (strOf l)] w fun e w'=>∃a b c ok,e= .returned (.tuple #[.agg #[.int .i64 a, .string (strOf b), .int .i64 c, .int .i64 0], .bool ok])∧nextW l=(if ok then some (a,b,c) else none)∧Grow w w':=by
 have bel:=Below.refl w.heap.size w
 obtain⟨c0,r,hcr⟩:∃c r,l=c::r:=by
  cases l with
  |nil=>exact absurd rfl hne
  |cons c r=>exact⟨c,r,rfl⟩
 have h0:l[0]? =some c0:=by rw[hcr];rfl
 have hc256:=hl c0 (List.mem_of_getElem? h0)
 have hnw:nextW l=if digB c0 then(if dayOk l then some (2,l.take 10,dateZ (l.take 10)) else(amt0 (l.take (runN partB l))).map fun v=>(1,l.take (runN partB l),v))
  else if letB c0 then(if runN partB l≤16 then some (3,l.take (runN partB l),0) else none)
  else(signW l).map fun s=>(0,s,0):=by rw[hcr];rfl
 have hrl:=runN_le partB l
 refine Zs 49 Tryz.func96 ?_
 refine Zsr ?_
 refine Zl zero_lex_Word ?_
 intro g2 w1 n2
 have e2:=Nat.le_trans bel.size n2.ge
 replace bel:=bel.step n2.below
 have k2:=n2.blk
 refine Za ?_
 refine Zk3 0 2 3 (Zts (Cd.block (Zsr ?_)))
 refine Zm ?_
 refine Zv (Runs.indexL (l:=l) (j:=0) rfl rfl rfl Tryz.underlying9 rfl h0 hc256) ?_
 refine Zc (Ze Tryz.func133) (digitL_any c0 _) ?_
 rintro e w2 ⟨rfl,hb2⟩
 refine⟨_,rfl,?_⟩
 replace bel:=bel.step hb2
 replace k2:=k2.step hb2
 refine Za ?_
 refine Zk4 0 2 3 9 (Zt ?_)
 refine Cd.cond rfl (fun h=> ?_) (fun h=> ?_)
 ·rw[h,if_pos rfl] at hnw
  refine Cd.seq (Zsr ?_)
  refine Zm ?_
  refine Zc (Ze Tryz.func134) (day_any l _ hl hlen) ?_
  rintro e w3 ⟨a,b,c,rfl,hday,hb3⟩
  refine⟨_,rfl,?_⟩
  replace bel:=bel.step hb3
  replace k2:=k2.step hb3
  refine Zm ?_
  refine Zv (Runs.extract rfl rfl rfl) ?_
  refine Zv (Runs.extract rfl rfl rfl) ?_
  refine Zl zero_lex_Word ?_
  intro g4 w2 n4
  have e4:=Nat.le_trans bel.size n4.ge
  have l4:=Nat.lt_of_lt_of_le k2.lt n4.ge
  replace bel:=bel.step n4.below
  replace k2:=k2.step n4.below
  have k4:=n4.blk
  refine Zo 4 k4 ?_
  intro w3 pw3
  replace bel:=bel.put k4 pw3 e4
  replace k2:=k2.put pw3 (by omega)
  replace k4:=pw3.blk
  refine Za ?_
  refine Zk6 0 2 3 4 5 9 (Ztq ?_)
  refine Zm ?_
  refine Zk7 0 2 3 4 5 9 18 (Zt ?_)
  refine Cd.cond rfl (fun hd=> ?_) (fun hd=> ?_)
  ·rw[hd,if_pos rfl] at hnw
   obtain⟨rfl,rfl,rfl⟩:=hday hd
   refine Zsr ?_
   refine Zv (Runs.loadW rfl rfl Tryz.underlying95 rfl k4 (m:=4) (by kernel_rfl) rfl) ?_
   refine Zo 4 k2 ?_
   intro w4 pw4
   replace bel:=bel.put k2 pw4 e2
   replace k4:=k4.put pw4 (by omega)
   replace k2:=pw4.blk
   refine Za ?_
   refine Zk7 0 2 3 4 5 9 18 (Zt (Cd.ret (Post.then_ret (Post.block_ret (Post.then_ret ?_)))))
   refine Post.endC2 rfl rfl rfl k2 Tryz.underlying95 rfl (m:=4) (by kernel_rfl) rfl (.inl rfl) ?_
   exact⟨_,_,_,true,rfl,hnw,bel⟩
  ·rw[hd,if_neg (by simp)] at hnw
   refine Cd.skip (Ztq ?_)
   refine Zm ?_
   refine Zc (Ze Tryz.func135) (number_any l _ hl hlen) ?_
   rintro e w4 ⟨v,ok,rfl,ha,hb4⟩
   refine⟨_,rfl,?_⟩
   have hlt:l.take (runN partB l)=c0::(l.take (runN partB l)).drop 1:=by
    have hp:partB c0=true:=by unfold partB;rw[h];simp
    rw[hcr,runN_cons,if_pos hp,List.take_succ_cons]
    rfl
   have hamt:=amt0_of ha c0 _ hlt h
   replace bel:=bel.step hb4
   replace k2:=k2.step hb4
   replace k4:=k4.step hb4
   refine Zv (Runs.extract rfl rfl rfl) ?_
   refine Zv (Runs.extract rfl rfl rfl) ?_
   refine Zo 4 k2 ?_
   intro w4 pw4
   replace bel:=bel.put k2 pw4 e2
   replace k4:=k4.put pw4 (by omega)
   replace k2:=pw4.blk
   refine Za ?_
   refine Zk7 0 2 3 4 5 9 18 (Zt (Cd.ret (Post.block_ret (Post.then_ret ?_))))
   refine Post.endC2 rfl rfl rfl k2 Tryz.underlying95 rfl (m:=4) (by kernel_rfl) rfl (.inl rfl) ?_
   refine⟨_,_,_,ok,rfl,?_,bel⟩
   rw[hnw,hamt]
   cases ok<;>rfl
 ·rw[h,if_neg (by simp)] at hnw
  refine Zsr ?_
  refine Zm ?_
  refine Zv (Runs.indexL (l:=l) (j:=0) rfl rfl rfl Tryz.underlying9 rfl h0 hc256) ?_
  refine Zc (Ze Tryz.func136) (letter_any c0 _) ?_
  rintro e w3 ⟨rfl,hb3⟩
  refine⟨_,rfl,?_⟩
  replace bel:=bel.step hb3
  replace k2:=k2.step hb3
  refine Za ?_
  refine Zk5 0 2 3 9 24 (Zt ?_)
  refine Cd.cond rfl (fun h2=> ?_) (fun h2=> ?_)
  ·rw[h2,if_pos rfl] at hnw
   refine Zsr ?_
   refine Zm ?_
   refine Zc (Ze Tryz.func131) (run_part l _ hl hlen) ?_
   rintro e w4 ⟨rfl,hb4⟩
   refine⟨_,rfl,?_⟩
   replace bel:=bel.step hb4
   replace k2:=k2.step hb4
   generalize runN partB l=n at *
   refine Za ?_
   refine Zk6 0 2 3 6 9 24 (Ztq ?_)
   refine Zm ?_
   refine Zm ?_
   refine Zv (Runs.sliceTo (j:=n) rfl rfl rfl Tryz.underlying9 rfl hrl) ?_
   refine Zv (Runs.build rfl rfl (run_build_Word2 _ _ _)) ?_
   refine Zm ?_
   refine Zv (Runs.leq rfl rfl rfl) ?_
   refine Zo 4 k2 ?_
   intro w2 pw2
   replace bel:=bel.put k2 pw2 e2
   replace k2:=pw2.blk
   refine Za ?_
   refine Zk6 0 2 3 6 9 24 (Zt (Cd.ret (Post.block_ret (Post.then_ret ?_))))
   refine Post.endC2 rfl rfl rfl k2 Tryz.underlying95 rfl (m:=4) (by kernel_rfl) rfl (.inl rfl) ?_
   refine⟨3,l.take n,0,decide ((n:Int)≤16),rfl,?_,bel⟩
   rw[hnw]
   by_cases hn:n≤16
   ·rw[if_pos hn,decide_eq_true (show(n:Int)≤16 by omega)];rfl
   ·rw[if_neg hn,decide_eq_false (show¬(n:Int)≤16 by omega)];rfl
  ·rw[h2,if_neg (by simp)] at hnw
   refine Cd.skip (Post.block_normal (Zts (Zsr ?_)))
   refine Zc (Ze Tryz.func138) (signs_any _) ?_
   rintro e w4 ⟨gs,rfl,ks,hb4⟩
   refine⟨_,rfl,?_⟩
   replace bel:=bel.step hb4
   replace k2:=k2.step hb4
   refine Zv (Runs.len rfl rfl Tryz.underlying114) ?_
   refine Zm ?_
   refine Zk8 0 2 3 9 24 36 37 38 (Zt (Cd.block ?_))
   refine Cd.loop (σ:=Nat) (fun k=>[(0, .string (strOf l)),(2, .pointer (some ⟨g2,0,none⟩)),(36, .slice (some ⟨gs,0,none⟩) 16 16),(37, .int .i64 16),(38, .int .i64 (k:Int))])
    (fun k wr=>k≤16∧(∀j s',j<k→signsL[j]? =some s'→decide (l.take s'.length=s')=false)∧Below w.heap.size w wr∧Blk wr g2 95 #[.int .i64 0, .string {data:= #[]}, .int .i64 0, .int .i64 0]∧Blk wr gs 9 (strV signsL).toArray) (fun k=>16-k) 0 ⟨by omega,fun j s' hj=>absurd hj (by omega),bel,k2,ks⟩ ⟨rfl,rfl,rfl,rfl,rfl,trivial⟩ ?_
   clear bel k2 ks
   rintro k wr ⟨hk,hno,bel,k2,ks⟩
   refine Zsr ?_
   refine Zv (Runs.lss rfl rfl rfl) ?_
   refine Zk6 0 2 36 37 38 39 (Zts ?_)
   refine Cd.condD rfl (fun hc=> ?_) (fun hc=> ?_)
   ·obtain⟨s,hs⟩:∃s,signsL[k]? =some s:=⟨_,List.getElem?_eq_getElem (show k<signsL.length by have:signsL.length=16:=rfl;omega)⟩
    have hsl:=signs_lt s (List.mem_of_getElem? hs)
    have hcell:(strV signsL).toArray[k]? =some (.string (strOf s)):=by
     unfold strV
     simp[hs]
    refine Cd.skip (Zts (Cd.block (Zsr ?_)))
    refine Zv (Runs.indexB rfl rfl rfl Tryz.underlying114 (by kernel_rfl) (j:=k) rfl (by omega)) ?_
    refine Zv (Runs.loadB rfl rfl Tryz.underlying9 rfl ks hcell) ?_
    refine Za ?_
    refine Zk7 0 2 8 36 37 38 39 (Ztq ?_)
    refine Zm ?_
    refine Zm ?_
    refine Zc (Ze Tryz.func129) (hasPrefixL_any l s _ hl hsl) ?_
    rintro e w6 ⟨rfl,rfl⟩
    refine⟨_,rfl,?_⟩
    refine Zk8 0 2 8 36 37 38 39 44 (Zt ?_)
    refine Cd.cond rfl (fun h3=> ?_) (fun h3=> ?_)
    ·have hsw:signW l=some s:=find_at _ signsL k s hno hs h3
     rw[hsw] at hnw
     refine Zsr ?_
     refine Zm ?_
     refine Zv (Runs.build rfl rfl (run_build_Word2 _ _ _)) ?_
     refine Zo 4 k2 ?_
     intro w2 pw2
     replace bel:=bel.put k2 pw2 e2
     replace k2:=pw2.blk
     refine Za ?_
     refine Zk9 0 2 3 8 36 37 38 39 44 (Zt (Cd.ret (Post.block_ret (Post.then_ret (Post.round_ret (Post.block_ret (Post.then_ret ?_)))))))
     refine Post.endC2 rfl rfl rfl k2 Tryz.underlying95 rfl (m:=4) (by kernel_rfl) rfl (.inl rfl) ?_
     exact⟨0,s,0,true,rfl,hnw,bel⟩
    ·skip
     refine Cd.skip (Post.block_normal (Ztr ?_))
     refine Za_ ?_
     refine Zm ?_
     refine Zk8 0 2 8 36 37 38 39 44 ?_
     refine Post.round (k+1) ⟨rfl,rfl,rfl,rfl,rfl,trivial⟩ ⟨by omega,fun j s' hj hs'=> ?_,bel,k2,ks⟩ (by omega)
     rcases Nat.lt_or_ge j k with h4|h4
     ·exact hno j s' h4 hs'
     ·obtain rfl:j=k:=by omega
      rw[hs] at hs'
      injection hs' with hs'
      subst hs'
      exact h3
   ·have hsw:signW l=none:=find_no _ signsL fun j s' hs'=>hno j s' (by
     have:=(List.getElem?_eq_some_iff.1 hs').1
     have h16:signsL.length=16:=rfl
     omega) hs'
    rw[hsw] at hnw
    refine Cd.exit (Post.then_exit (Post.round_exit (Post.block_exit (Ztq ?_))))
    refine Zv (Runs.build rfl rfl (run_build_Word0 _)) ?_
    refine Zo 4 k2 ?_
    intro w2 pw2
    replace bel:=bel.put k2 pw2 e2
    replace k2:=pw2.blk
    refine Za ?_
    refine Zk7 0 2 3 36 37 38 39 (Zt (Cd.ret ?_))
    refine Post.endC2 rfl rfl rfl k2 Tryz.underlying95 rfl (m:=4) (by kernel_rfl) rfl (.inl rfl) ?_
    exact⟨0,[],0,false,rfl,hnw,bel⟩
end Go.Proofs.YtaamkfajnpobfaaGreat
namespace Go.Proofs.YtaamkfajnpobfaaGreat
open Go.RowKit
structure Wd where
 kind:Int
 text:List Nat
 n:Int
 pos:Nat
def lexW:Nat→List Nat→Nat→List Wd × Option Nat
 |0,_,_=>([],none)
 |f+1,l,p=>if l.length≤p then([],none) else match nextW (l.drop p) with
  |none=>([],some p)
  |some (k,t,n)=>(⟨k,t,n,p⟩::(lexW f l (p+t.length+blankN (l.drop (p+t.length)))).1,(lexW f l (p+t.length+blankN (l.drop (p+t.length)))).2)
def lexAll (l:List Nat):List Wd × Option Nat:=lexW (l.length+1) l (blankN l)
def wdCells (ws:List Wd):List Value:=ws.flatMap fun x=>[.int .i64 x.kind, .string (strOf x.text), .int .i64 x.n, .int .i64 (x.pos:Int)]
theorem wdCells_snoc (ws:List Wd)(x:Wd):wdCells (ws++[x])=wdCells ws++[.int .i64 x.kind, .string (strOf x.text), .int .i64 x.n, .int .i64 (x.pos:Int)]:=by simp[wdCells]
theorem lexW_end (f:Nat)(l:List Nat)(p:Nat)(h:l.length≤p):lexW f l p=([],none):=by
 cases f with
 |zero=>rfl
 |succ f=>unfold lexW;rw[if_pos h]
theorem lexW_step (f:Nat)(l:List Nat)(p:Nat)(h:p<l.length):lexW (f+1) l p=match nextW (l.drop p) with
  |none=>([],some p)
  |some (k,t,n)=>(⟨k,t,n,p⟩::(lexW f l (p+t.length+blankN (l.drop (p+t.length)))).1,(lexW f l (p+t.length+blankN (l.drop (p+t.length)))).2):=by
 rw[lexW,if_neg (by omega)]
theorem run_pos {l:List Nat}{c:Nat}{r:List Nat}(h:l=c::r)(hp:partB c=true):0<runN partB l:=by rw[h,runN_cons,if_pos hp];omega
theorem nextW_spec {l:List Nat}{k:Int}{t:List Nat}{n:Int}(h:nextW l=some (k,t,n)):0<t.length∧t=l.take t.length∧t.length≤l.length:=by
 cases l with
 |nil=>cases h
 |cons c r=>
  have hrl:=runN_le partB (c::r)
  have htk:∀j,j≤(c::r).length→0<j→0<((c::r).take j).length∧(c::r).take j=(c::r).take ((c::r).take j).length∧((c::r).take j).length≤(c::r).length:=by
   intro j hj h0
   have:((c::r).take j).length=j:=by rw[List.length_take];omega
   rw[this]
   exact⟨h0,rfl,hj⟩
  unfold nextW at h
  simp only at h
  generalize hl:c::r=l at *
  split at h
  ·rename_i hd
   have hp:partB c=true:=by unfold partB;rw[hd];simp
   have h0:=run_pos hl.symm hp
   split at h
   ·rename_i hday
    injection h with h
    injection h with h1 h
    injection h with h2 h
    subst h2
    refine htk 10 ?_ (by omega)
    unfold dayOk at hday
    simp at hday
    exact hday.1.1
   ·cases ha:amt0 (l.take (runN partB l)) with
    |none=>rw[ha] at h;cases h
    |some v=>
     rw[ha] at h
     injection h with h
     injection h with h1 h
     injection h with h2 h
     subst h2
     exact htk _ hrl h0
  ·split at h
   ·rename_i hd
    have hp:partB c=true:=by unfold partB;rw[hd];simp
    have h0:=run_pos hl.symm hp
    split at h
    ·injection h with h
     injection h with h1 h
     injection h with h2 h
     subst h2
     exact htk _ hrl h0
    ·cases h
   ·cases hs:signW l with
    |none=>rw[hs] at h;cases h
    |some s=>
     rw[hs] at h
     injection h with h
     injection h with h1 h
     injection h with h2 h
     subst h2
     have hm:=List.mem_of_find?_eq_some hs
     have hp:=List.find?_some hs
     simp at hp
     have h0:0<s.length:=by
      have:∀s∈signsL,0<s.length:=by decide
      exact this s hm
     refine⟨h0,hp.symm,?_⟩
     have:=congrArg List.length hp
     rw[List.length_take] at this
     omega
structure OwnA (w:World)(B:Nat)(e:TypeId)(size:Nat)(v:Value)(n:Nat)(xs:List Value):Prop where
 own:Own w B e size v n xs
section
variable {w w':World} {B size n:Nat} {e:TypeId} {v:Value} {xs:List Value}
theorem OwnA.step (h:OwnA w B e size v n xs)(hb:Below w.heap.size w w'):OwnA w' B e size v n xs:=⟨h.own.step hb⟩
theorem OwnA.put {g B':Nat}{T:TypeId}{cur cs:Array Value}(h:OwnA w B e size v n xs)(_k:Blk w g T cur)(p:Put w w' g T cs)(_e:B'≤g)(hne:v.ownBlock≠some g:=by assumption):OwnA w' B e size v n xs:=⟨⟨h.own.row.kept p.grown (.inr hne)⟩⟩
theorem OwnA.ne (h:OwnA w B e size v n xs){g:Nat}(hg:w.heap.size≤g):v.ownBlock≠some g:=by
 intro hv
 obtain⟨hl,⟨h0,h1⟩|⟨g',cap,cur,h0,h1,h2,h3,h4,h5,h6⟩⟩:=h.own.row
 ·rw[h0] at hv;cases hv
 ·rw[h0] at hv
  injection hv with hv
  have hv:g'=g:=hv
  have hlt:g'<w.heap.size:=Blk.lt (cs:=cur) (t:=e) h2
  omega
end
theorem words_any (l:List Nat)(w:World)(hl:∀x∈l,x<256)(hlen:l.length≤9223372036854775807):
  Calls Tryz.prog 46 #[.string (strOf l)] w fun e w'=>Grow w w'∧((4000<l.length∧e= .returned (.tuple #[.slice none 0 0, .int .i64 0, .int .i64 4]))∨
   (l.length≤4000∧∃p:Nat,(lexAll l).2=some p∧e= .returned (.tuple #[.slice none 0 0, .int .i64 (p:Int), .int .i64 11]))∨
   (l.length≤4000∧(lexAll l).2=none∧∃v,e= .returned (.tuple #[v, .int .i64 0, .int .i64 0])∧Own w' w.heap.size 95 4 v (lexAll l).1.length (wdCells (lexAll l).1))):=by
 have bel:=Below.refl w.heap.size w
 refine Zs 46 Tryz.func46 ?_
 refine Zsr ?_
 refine Za ?_
 refine Za ?_
 refine Za ?_
 refine Zk4 0 2 3 4 (Zts (Zsr ?_))
 refine Zm ?_
 refine Zv (Runs.lenL rfl rfl Tryz.underlying9) ?_
 refine Zv (Runs.gtr rfl rfl rfl) ?_
 refine Zk5 0 2 3 4 11 (Zt ?_)
 refine Cd.condD rfl (fun h=> ?_) (fun h=> ?_)
 ·skip
  refine Zsr ?_
  refine Za ?_
  refine Za ?_
  refine Za ?_
  refine Zk5 0 2 3 4 11 (Zt (Cd.ret (Post.then_ret ?_)))
  refine Post.end3 rfl rfl rfl rfl (.inl rfl) ?_
  exact⟨bel, .inl ⟨by omega,rfl⟩⟩
 have h4:l.length≤4000:=by omega
 clear h
 have hb0:=blankN_le l
 refine Cd.skip (Ztq ?_)
 refine Za ?_
 refine Zk6 0 2 3 4 5 11 (Zts (Zsr ?_))
 refine Zm ?_
 refine Zc (Ze Tryz.func95) (blank_any l _ hl hlen) ?_
 rintro e w4 ⟨rfl,hb4⟩
 refine⟨_,rfl,?_⟩
 replace bel:=bel.step hb4
 have own:OwnA w4 w.heap.size 95 4 (.slice none 0 0) 0 []:=⟨Own.nil _ _ _ _⟩
 refine Za ?_
 refine Zk7 0 2 3 4 5 6 11 (Zt (Cd.block ?_))
 refine Cd.loop (σ:=Nat × Value × List Wd) (fun s=>[(0, .string (strOf l)),(5,s.2.1),(6, .int .i64 (s.1:Int))])
  (fun s wr=>s.1≤l.length∧s.2.2.length≤s.1∧(∃f,l.length+1≤f+s.1∧lexAll l=(s.2.2++(lexW f l s.1).1,(lexW f l s.1).2))∧Below w.heap.size w wr∧OwnA wr w.heap.size 95 4 s.2.1 s.2.2.length (wdCells s.2.2)) (fun s=>l.length-s.1) (blankN l, .slice none 0 0,[])
  ⟨hb0,by simp,⟨l.length+1,by dsimp only;omega,rfl⟩,bel,own⟩ ⟨rfl,rfl,rfl,trivial⟩ ?_
 clear bel
 clear own
 rintro⟨p,v,ws⟩ wr ⟨hp,hwp,⟨f,hf,hall⟩,bel,own⟩
 dsimp only at hp hwp hf hall own⊢
 refine Cd.seq (Zsr ?_)
 refine Zm ?_
 refine Zm ?_
 refine Zv (Runs.lenL rfl rfl Tryz.underlying9) ?_
 refine Zv (Runs.lss rfl rfl rfl) ?_
 refine Zk4 0 5 6 17 (Zt ?_)
 refine Cd.condD rfl (fun hc=> ?_) (fun hc=> ?_)
 ·obtain⟨f',rfl⟩:∃f',f=f'+1:=⟨f-1,by omega⟩
  have hdl:=drop_lt hl p
  have hdn:(l.drop p).length≤9223372036854775807:=by rw[List.length_drop];omega
  have hstep:=lexW_step f' l p (by omega)
  refine Cd.skip (Zts (Cd.block (Zsr ?_)))
  refine Zm ?_
  refine Zm ?_
  refine Zv (Runs.sliceFrom (j:=p) rfl rfl rfl Tryz.underlying9 rfl hp) ?_
  refine Zc (Ze Tryz.func96) (next_any (l.drop p) _ hdl hdn (by intro h0;have:=congrArg List.length h0;rw[List.length_drop] at this;simp at this;omega)) ?_
  rintro e w6 ⟨a,b,c,ok,rfl,hnx,hb6⟩
  refine⟨_,rfl,?_⟩
  replace bel:=bel.step hb6
  replace own:=own.step hb6
  have hneg:∀g,w6.heap.size≤g→v.ownBlock≠some g:=fun g hg=>own.ne hg
  have hstep1:ok=false→lexW (f'+1) l p=([],some p):=fun h=>by rw[hstep,hnx,h];rfl
  have hstep2:ok=true→lexW (f'+1) l p=(⟨a,b,c,p⟩::(lexW f' l (p+b.length+blankN (l.drop (p+b.length)))).1,(lexW f' l (p+b.length+blankN (l.drop (p+b.length)))).2):=fun h=>by rw[hstep,hnx,h];rfl
  have hspec:ok=true→0<b.length∧b=(l.drop p).take b.length∧b.length≤(l.drop p).length:=fun h=>nextW_spec (by rw[hnx,h];rfl)
  clear hstep hnx
  refine Zm ?_
  refine Zv (Runs.extract rfl rfl rfl) ?_
  refine Zv (Runs.extract rfl rfl rfl) ?_
  refine Zl zero_lex_Word ?_
  intro g7 w1 n7
  have e7:=Nat.le_trans bel.size n7.ge
  replace bel:=bel.step n7.below
  replace own:=own.step n7.below
  have k7:=n7.blk
  have hne7:v.ownBlock≠some g7:=hneg g7 n7.ge
  refine Zo 4 k7 ?_
  intro w2 pw2
  replace bel:=bel.put k7 pw2 e7
  replace own:=own.put k7 pw2 e7
  replace k7:=pw2.blk
  refine Za ?_
  refine Zk6 0 5 6 7 8 17 (Zts (Zsr ?_))
  refine Zm ?_
  refine Zv (Runs.not rfl rfl) ?_
  refine Zk7 0 5 6 7 8 17 32 (Zt ?_)
  refine Cd.cond rfl (fun h=> ?_) (fun h=> ?_)
  ·have hok:ok=false:=by cases ok<;>simp at h⊢
   rw[hstep1 hok] at hall
   refine Zsr ?_
   refine Zm ?_
   refine Za ?_
   refine Za ?_
   refine Za ?_
   refine Zk10 0 2 3 4 5 6 7 8 17 32 (Zt (Cd.ret (Post.then_ret (Post.block_ret (Post.then_ret (Post.round_ret (Post.block_ret (Post.then_ret ?_))))))))
   refine Post.end3 rfl rfl rfl rfl (.inl rfl) ?_
   exact⟨bel, .inr (.inl ⟨h4,p,by rw[hall],rfl⟩)⟩
  ·have hok:ok=true:=by cases ok<;>simp at h⊢
   obtain⟨s1,s2,s3⟩:=hspec hok
   rw[List.length_drop] at s3
   rw[hstep2 hok] at hall
   clear hstep1 hstep2 hspec
   have hbl:=blankN_le (l.drop (p+b.length))
   rw[List.length_drop] at hbl
   refine Cd.skip (Ztq ?_)
   refine Zm ?_
   refine Zf 3 Tryz.underlying95 ?_
   refine Zq k7 ?_
   intro w3 pw3
   replace bel:=bel.put k7 pw3 e7
   replace own:=own.put k7 pw3 e7
   replace k7:=pw3.blk
   refine Zk7 0 5 6 7 8 17 32 (Ztq ?_)
   refine Zm ?_
   refine Zv (Runs.loadW rfl rfl Tryz.underlying95 rfl k7 (m:=4) (by kernel_rfl) rfl) ?_
   refine Seq.slice (vs:=[_]) (s:=4) rfl rfl rfl Tryz.underlying88 (by kernel_rfl) (zero_lex_Word) (by omega) (by omega) ⟨rfl,trivial⟩ rfl rfl rfl ?_
   intro g38 w4 n38
   have e38:=Nat.le_trans bel.size n38.ge
   have l38:=Nat.lt_of_lt_of_le k7.lt n38.ge
   replace bel:=bel.step n38.below
   replace own:=own.step n38.below
   replace k7:=k7.step n38.below
   have k38:=n38.blk
   replace own:=own.own
   refine Seq.append rfl rfl rfl Tryz.underlying88 (by kernel_rfl) zero_lex_Word rfl (by decide) (b:=40) (by kernel_rfl) own (Reads.blk (size:=4) k38 1 rfl) (by intro x hx;simp[flatC,Value.cells] at hx;rcases hx with rfl|rfl|rfl|rfl<;>rfl) bel.size (by simp only[maxLen];omega) (by omega) rfl rfl rfl ?_
   clear own
   intro vw5 w5 own haw5
   replace bel:=bel.trans haw5.below
   replace k7:=k7.grown haw5.grown (fun e=>hne7 e.symm)
   replace own:OwnA w5 w.heap.size 95 4 vw5 (ws++[(⟨a,b,c,p⟩:Wd)]).length (wdCells (ws++[⟨a,b,c,p⟩])):=⟨by rw[List.length_append,wdCells_snoc];exact own⟩
   refine Za ?_
   refine Zk7 0 5 6 7 8 17 32 (Ztr ?_)
   refine Zm ?_
   refine Zf 1 Tryz.underlying95 ?_
   refine Zv (Runs.loadB rfl rfl Tryz.underlying9 rfl k7 rfl) ?_
   refine Zv (Runs.lenL rfl rfl Tryz.underlying9) ?_
   refine Za_ ?_
   refine Za ?_
   refine Zk7 0 5 6 7 8 17 32 (Post.block_normal (Ztr ?_))
   refine Zm ?_
   refine Zm ?_
   refine Zm ?_
   refine Zv (Runs.sliceFrom (j:=p+b.length) rfl rfl rfl Tryz.underlying9 rfl (by omega)) ?_
   refine Zc (Ze Tryz.func95) (blank_any (l.drop (p+b.length)) _ (drop_lt hl _) (by rw[List.length_drop];omega)) ?_
   rintro e w8 ⟨rfl,hb8⟩
   refine⟨_,rfl,?_⟩
   replace bel:=bel.step hb8
   replace own:=own.step hb8
   replace k7:=k7.step hb8
   generalize hq:p+b.length+blankN (l.drop (p+b.length))=q at *
   refine Za_ ?_
   refine Za ?_
   refine Zk7 0 5 6 7 8 17 32 ?_
   refine Post.round (q,vw5,ws++[⟨a,b,c,p⟩]) ⟨rfl,rfl,congrArg (fun x:Int=>some (Value.int .i64 x)) (show((p:Int)+(b.length:Int)+(blankN (l.drop (p+b.length)):Int))=((q:Nat):Int) by omega),trivial⟩ ⟨by dsimp only;omega,by dsimp only;rw[List.length_append];simp;omega,⟨f',by dsimp only;omega,?_⟩,bel,own⟩ (by dsimp only;omega)
   dsimp only
   rw[hall,List.append_assoc]
   rfl
 ·have hpe:p=l.length:=by omega
  rw[lexW_end f l p (by omega)] at hall
  dsimp only at hall
  rw[List.append_nil] at hall
  refine Cd.exit (Post.then_exit (Post.round_exit (Post.block_exit (Ztq ?_))))
  refine Zm ?_
  refine Za ?_
  refine Za ?_
  refine Za ?_
  refine Zk7 0 2 3 4 5 6 17 (Zt (Cd.ret ?_))
  refine Post.end3 rfl rfl rfl rfl (.inl rfl) ?_
  exact⟨bel, .inr (.inr ⟨h4,by rw[hall],v,rfl,by rw[hall];exact own.own⟩)⟩
end Go.Proofs.YtaamkfajnpobfaaGreat
namespace Go.Proofs.YtaamkfajnpobfaaGreat
open Go.RowKit
theorem refLetter_any (c:Nat)(w:World):Calls Tryz.prog 63 #[.int .u8 (c:Int)] w fun e w'=>e= .returned (.bool (letB c))∧Grow w w':=by
 have bel:=Below.refl w.heap.size w
 refine Zs 17 Tryz.func63 ?_
 refine Zsr ?_
 refine Za ?_
 refine Zk2 0 2 (Ztq ?_)
 refine Zm ?_
 refine Zv (Runs.geq rfl rfl rfl) ?_
 refine Zm ?_
 refine SeqC.start ?_
 refine Zco (fun hcx=>Runs.move rfl rfl) ?_
 refine SeqC.next rfl rfl rfl rfl rfl rfl rfl (fun hcx=>Runs.leq rfl rfl rfl) ?_
 refine SeqC.and rfl rfl rfl rfl rfl rfl rfl ?_
 refine Zm ?_
 refine SeqC.start ?_
 refine Zco (fun hcx=>Runs.move rfl rfl) ?_
 refine SeqC.next rfl rfl rfl rfl rfl rfl rfl (fun hcx=>Runs.geq rfl rfl rfl) ?_
 refine SeqC.next rfl rfl rfl rfl rfl rfl rfl (fun hcx=>Runs.move rfl rfl) ?_
 refine Zco (fun hcx=>Runs.move rfl rfl) ?_
 refine SeqC.next rfl rfl rfl rfl rfl rfl rfl (fun hcx=>Runs.leq rfl rfl rfl) ?_
 refine SeqC.andG rfl rfl rfl rfl rfl rfl rfl rfl rfl rfl rfl ?_
 refine SeqC.or rfl rfl rfl rfl rfl rfl rfl ?_
 refine Za ?_
 refine Zk2 0 2 (Zt (Cd.ret ?_))
 refine Post.end1 rfl rfl (.inl rfl) ?_
 refine⟨ret1 (bool_eq ?_),bel⟩
 unfold letB
 rw[Bool.eq_iff_iff]
 simp
 omega
theorem refPart_any (c:Nat)(w:World):Calls Tryz.prog 61 #[.int .u8 (c:Int)] w fun e w'=>e= .returned (.bool (partB c))∧Grow w w':=by
 have bel:=Below.refl w.heap.size w
 refine Zs 17 Tryz.func61 ?_
 refine Zsr ?_
 refine Za ?_
 refine Zk2 0 2 (Ztq ?_)
 refine Zm ?_
 refine Zc (Ze Tryz.func63) (refLetter_any c _) ?_
 rintro e w2 ⟨rfl,hb2⟩
 refine⟨_,rfl,?_⟩
 replace bel:=bel.step hb2
 refine Zm ?_
 refine SeqC.start ?_
 refine Zco (fun hcx=>Runs.move rfl rfl) ?_
 refine SeqC.next rfl rfl rfl rfl rfl rfl rfl (fun hcx=>Runs.geq rfl rfl rfl) ?_
 refine SeqC.next rfl rfl rfl rfl rfl rfl rfl (fun hcx=>Runs.move rfl rfl) ?_
 refine Zco (fun hcx=>Runs.move rfl rfl) ?_
 refine SeqC.next rfl rfl rfl rfl rfl rfl rfl (fun hcx=>Runs.leq rfl rfl rfl) ?_
 refine SeqC.andG rfl rfl rfl rfl rfl rfl rfl rfl rfl rfl rfl ?_
 refine SeqC.or rfl rfl rfl rfl rfl rfl rfl ?_
 refine Zm ?_
 refine SeqC.start ?_
 refine Zco (fun hcx=>Runs.move rfl rfl) ?_
 refine SeqC.next rfl rfl rfl rfl rfl rfl rfl (fun hcx=>Runs.eqlI rfl rfl rfl) ?_
 refine SeqC.or rfl rfl rfl rfl rfl rfl rfl ?_
 refine Za ?_
 refine Zk2 0 2 (Zt (Cd.ret ?_))
 refine Post.end1 rfl rfl (.inl rfl) ?_
 refine⟨ret1 (bool_eq ?_),bel⟩
 unfold partB digB
 cases letB c<;>rw[Bool.eq_iff_iff]<;>simp<;>omega
theorem refNamed_any (l:List Nat)(w:World)(hl:∀x∈l,x<256)(hlen:l.length≤9223372036854775807):
  Calls Tryz.prog 64 #[.string (strOf l)] w fun e w'=>e= .returned (.bool (namedB l))∧Grow w w':=by
 have bel:=Below.refl w.heap.size w
 have h0:l≠ []→l[0]? =some (l.getD 0 0):=by
  intro h
  cases l with
  |nil=>exact absurd rfl h
  |cons c l=>rfl
 have h1:l.getD 0 0<256:=by
  cases l with
  |nil=>simp
  |cons c l=>exact hl c (by simp)
 have hnil:l≠ []↔0<l.length:=by cases l<;>simp
 unfold namedB
 generalize l.getD 0 0=c0 at *
 refine Zs 29 Tryz.func64 ?_
 refine Zsr ?_
 refine Za ?_
 refine Zk2 0 2 (Zts (Zsr ?_))
 refine Zm ?_
 refine Zv (Runs.lenL rfl rfl Tryz.underlying9) ?_
 refine Zv (Runs.lss rfl rfl rfl) ?_
 refine Zm ?_
 refine SeqC.start ?_
 refine Zco (fun hcx=>Runs.move rfl rfl) ?_
 refine SeqC.next rfl rfl rfl rfl rfl rfl rfl (fun hcx=>Runs.lenL rfl rfl Tryz.underlying9) ?_
 refine SeqC.next rfl rfl rfl rfl rfl rfl rfl (fun hcx=>Runs.gtr rfl rfl rfl) ?_
 refine SeqC.or rfl rfl rfl rfl rfl rfl rfl ?_
 refine Zm ?_
 refine SeqC.start ?_
 refine Zco (fun hcx=>Runs.move rfl rfl) ?_
 refine SeqC.next rfl rfl rfl rfl rfl rfl rfl (fun hcx=>Runs.indexL (l:=l) (j:=0) (c:=c0) rfl rfl rfl Tryz.underlying9 rfl (h0 (hnil.2 (by simp[topX] at hcx;omega))) h1) ?_
 refine SeqC.nextC rfl rfl rfl rfl rfl rfl rfl (fun hcx=>Ze Tryz.func63) (fun hcx=>refLetter_any _ _) ?_
 intro w1 hw1
 replace bel:=bel.step hw1
 refine SeqC.next rfl rfl rfl rfl rfl rfl rfl (fun hcx=>Runs.not rfl rfl) ?_
 refine SeqC.or rfl rfl rfl rfl rfl rfl rfl ?_
 refine Zk3 0 2 17 (Zt ?_)
 refine Cd.cond rfl (fun h=> ?_) (fun h=> ?_)
 ·have hf:(decide (l≠ [])&&decide (l.length≤16)&&letB c0&&decide (runN partB l=l.length))=false:=by
   rw[Bool.eq_false_iff]
   intro h2
   simp only[Bool.and_eq_true,decide_eq_true_eq] at h2
   have h3:=hnil.1 h2.1.1.1
   rw[h2.1.2] at h
   simp at h
   omega
  rw[hf]
  refine Zsr ?_
  refine Za ?_
  refine Zk3 0 2 17 (Zt (Cd.ret (Post.then_ret ?_)))
  refine Post.end1 rfl rfl (.inl rfl) ?_
  exact⟨rfl,bel⟩
 have hok:l≠ []∧l.length≤16∧letB c0=true:=by
  cases hle:letB c0 with
  |false=>rw[hle] at h;simp at h
  |true=>rw[hle] at h;simp at h;exact⟨hnil.2 (by omega),by omega,rfl⟩
 have hrl:=runN_le partB l
 rw[decide_eq_true hok.1,decide_eq_true hok.2.1,hok.2.2]
 refine Cd.skip (Zts (Zsr ?_))
 refine Za ?_
 refine Zk4 0 2 3 17 (Zt (Cd.block ?_))
 refine Cd.loop (σ:=Nat) (fun k=>[(0, .string (strOf l)),(3, .int .i64 (k:Int))]) (fun k wr=>k≤runN partB l∧Below w.heap.size w wr) (fun k=>l.length-k) 0 ⟨Nat.zero_le _,bel⟩ ⟨rfl,rfl,trivial⟩ ?_
 clear bel
 rintro k wr ⟨hk,bel⟩
 refine Cd.seq (Zsr ?_)
 refine Zm ?_
 refine Zm ?_
 refine Zv (Runs.lenL rfl rfl Tryz.underlying9) ?_
 refine Zv (Runs.lss rfl rfl rfl) ?_
 refine Zk3 0 3 21 (Zt ?_)
 refine Cd.condD rfl (fun hc=> ?_) (fun hc=> ?_)
 ·obtain⟨c,hcc⟩:∃c,l[k]? =some c:=⟨_,List.getElem?_eq_getElem (show k<l.length by omega)⟩
  have hc256:=hl c (List.mem_of_getElem? hcc)
  have hup:=runN_upto partB l k hk c hcc
  refine Cd.skip (Zts (Cd.block (Zsr ?_)))
  refine Zm ?_
  refine Zm ?_
  refine Zv (Runs.indexL (l:=l) (j:=k) rfl rfl rfl Tryz.underlying9 rfl hcc hc256) ?_
  refine Zc (Ze Tryz.func61) (refPart_any c _) ?_
  rintro e w5 ⟨rfl,hb5⟩
  refine⟨_,rfl,?_⟩
  replace bel:=bel.step hb5
  refine Zv (Runs.not rfl rfl) ?_
  refine Zk4 0 3 21 28 (Zt ?_)
  refine Cd.cond rfl (fun h2=> ?_) (fun h2=> ?_)
  ·have hne:¬runN partB l=l.length:=by
    intro he
    have:=hup.2 (by omega)
    rw[this] at h2
    cases h2
   rw[decide_eq_false hne]
   refine Zsr ?_
   refine Za ?_
   refine Zk5 0 2 3 21 28 (Zt (Cd.ret (Post.block_ret (Post.then_ret (Post.round_ret (Post.block_ret (Post.then_ret ?_)))))))
   refine Post.end1 rfl rfl (.inl rfl) ?_
   exact⟨rfl,bel⟩
  ·have hlt:=hup.1 (by simpa using h2)
   refine Cd.skip (Post.block_normal (Ztr ?_))
   refine Zm ?_
   refine Za_ ?_
   refine Za ?_
   refine Zk4 0 3 21 28 ?_
   exact Post.round (k+1) ⟨rfl,rfl,trivial⟩ ⟨by omega,bel⟩ (by omega)
 ·rw[decide_eq_true (show runN partB l=l.length by omega)]
  refine Cd.exit (Post.then_exit (Post.round_exit (Post.block_exit (Ztq ?_))))
  refine Za ?_
  refine Zk4 0 2 3 21 (Zt (Cd.ret ?_))
  refine Post.end1 rfl rfl (.inl rfl) ?_
  exact⟨rfl,bel⟩
theorem Own.form {w:World}{B size n:Nat}{e:TypeId}{v:Value}{xs:List Value}(h:Own w B e size v n xs)(h0:0<n):∃g cap cur,v= .slice (some ⟨g,0,none⟩) n cap∧B≤g∧Blk w g e cur∧∀(j:Nat) (x:Value),xs[j]? =some x→cur[j]? =some x:=by
 obtain⟨hl,⟨_,h1⟩|⟨g,cap,cur,rfl,h1,h2,h3,h4,h5,h6⟩⟩:=h.row
 ·omega
 ·refine⟨g,cap,cur,rfl,h1,h2,fun j x hx=> ?_⟩
  rw[←h6] at hx
  have:=List.getElem?_take_of_lt (l:=cur.toList) (i:=j) (j:=n*size) (by
   rcases Nat.lt_or_ge j (n*size) with h|h
   ·exact h
   ·rw[List.getElem?_eq_none (by rw[List.length_take];omega)] at hx;cases hx)
  rw[this] at hx
  simpa using hx
def sampleL:List Nat:=[100,97,121,62,61,50,48,50,52,45,48,49,45,51,49]
section
variable {P:Program} {E:Operand→Option Value} {o:Oper} {w:World} {x y:Operand} {T:TypeId}
end
end Go.Proofs.YtaamkfajnpobfaaGreat
