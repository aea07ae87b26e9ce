/-
  Texts that were joined: TrmE, TrmF, TrmG, TrmH, TrmI, TrmJ, TrmK, TrmL, TrmM, TrmN, TrmO, TrmP, ParA, PanA, PanB, PanC, PanD, KS, PanE, PanF, PanG, PanH. Conditions: what each theorem names.
-/
import Derived.Test.YtigoimhndlnhfaaGreatJ2
set_option linter.unusedSectionVars false
namespace Go.Proofs.YtigoimhndlnhfaaGreat
open Go.RowKit
structure Kn where
 op:Int
 name:List Nat
 exprs:List Int
 ar:List Int
structure Kn.kh (x:Kn):Prop where
 op:bw x.op
 name:∀d∈x.name,d<256
 pU:x.name.length≤9223372036854775807
def dN (t:Tm):Int:=(eZ (t.nodes:Int) (t.depth:Int)).1
def dW (t:Tm):Int:=(eZ (t.nodes:Int) (t.depth:Int)).2
def lG:List Tm→Int
 | []=>0
 |e::r=>dN e+lG r
def mo:List Tm→Int
 | []=>0
 |e::r=>max (dW e) (mo r)
theorem zd (l:List Tm)(e:Tm):lG (l++[e])=lG l+dN e:=by
 induction l with
 |nil=>show dN e+0=0+dN e;omega
 |cons x r ih=>show dN x+lG (r++[e])=dN x+lG r+dN e;omega
theorem jr (e:Tm):0≤dN e∧dN e≤1000∧0≤dW e∧dW e≤1000:=by
 unfold dN dW eZ;split<;>omega
theorem nM (l:List Tm):0≤mo l∧mo l≤1000:=by
 induction l with
 |nil=>exact⟨Int.le_refl _,by decide⟩
 |cons x r ih=>have:=jr x;show 0≤max (dW x) (mo r)∧max (dW x) (mo r)≤1000;omega
theorem yG (l:List Tm)(e:Tm):mo (l++[e])=max (mo l) (dW e):=by
 induction l with
 |nil=>have:=jr e;show max (dW e) 0=max 0 (dW e);omega
 |cons x r ih=>show max (dW x) (mo (r++[e]))=max (max (dW x) (mo r)) (dW e);omega
theorem ky (l:List Tm):0≤lG l∧lG l≤1000*(l.length:Int):=by
 induction l with
 |nil=>exact⟨Int.le_refl _,by decide⟩
 |cons x r ih=>
  have:=jr x;have h:lG (x::r)=dN x+lG r:=rfl;rw[h,List.length_cons];omega
theorem CZ (l:List Tm):(lG l=(eh l:Int)∧mo l=(da l:Int))∨(1000≤lG l∧1000≤eh l):=by
 induction l with
 |nil=>exact .inl ⟨rfl,rfl⟩
 |cons x r ih=>
  have hb:=ky r;have hz:=jr x;have h1:lG (x::r)=dN x+lG r:=rfl;have h2:mo (x::r)=max (dW x) (mo r):=rfl;have h3:eh (x::r)=x.nodes+eh r:=by rw[eh]
  have h4:da (x::r)=max x.depth (da r):=by rw[da]
  have hd:=x.bh;rw[h1,h2,h3,h4];rcases ih with ⟨e1,e2⟩|⟨e1,e2⟩
  ·by_cases hbig:1000≤(x.nodes:Int)∨1000≤(x.depth:Int)
   ·have:dN x=1000:=by unfold dN eZ;rw[if_pos hbig]
    right
    omega
   ·have g1:dN x=x.nodes:=by unfold dN eZ;rw[if_neg hbig]
    have g2:dW x=x.depth:=by unfold dW eZ;rw[if_neg hbig]
    left
    omega
  ·right;omega
theorem Cb (op:Int)(nm:List Nat)(es:List Ex)(l:List Tm):eZ (1+jf es+lG l) (1+max (maxD es) (mo l))=(dN (.mk op nm es l),dW (.mk op nm es l)):=by
 have hn:=Tm.fR op nm es l;have hd:=Tm.ei op nm es l;have hdn:=jb l;have hdn2:=eD es;have hm:=nM l;have hs1:=gA es;have hs2:=ky l;have hm2:=gC es;unfold dN dW;rw[hn,hd];rcases AZ es with ⟨e1,e2⟩|⟨e1,e2⟩
 ·rcases CZ l with ⟨f1,f2⟩|⟨f1,f2⟩
  ·rw[e1,e2,f1,f2,Int.natCast_add,Int.natCast_add,Int.natCast_add,show((max (bD es) (da l):Nat):Int)=max (bD es:Int) (da l:Int) by omega];rfl
  ·unfold eZ
   rw[if_pos (by omega),if_pos (by omega)]
 ·unfold eZ
  rw[if_pos (by omega),if_pos (by omega)]
def dL (ts:List Tm)(ks:List Int):List Tm:=ks.filterMap fun k=>if ts.length=0 then none else ts[km k ts.length]?
theorem wT (es:List Tm)(ks:List Int)(k:Int)(h:es.length=0):dL es (ks++[k])=dL es ks:=by
 unfold dL;rw[List.filterMap_append];simp[h]
theorem wR (es:List Tm)(ks:List Int)(k:Int)(e:Tm)(h:es[km k es.length]? =some e):dL es (ks++[k])=dL es ks++[e]:=by
 unfold dL;have h0:¬es.length=0:=fun h0=>by rw[List.eq_nil_of_length_eq_zero h0] at h;cases h
 rw[List.filterMap_append];simp only[h0,if_false];rw[List.filterMap_cons,h];rfl
theorem mK (es:List Tm)(ks:List Int):(dL es ks).length≤ks.length:=List.length_filterMap_le _ _
theorem yj {es:List Tm}{ks:List Int}{e:Tm}(h:e∈dL es ks):e∈es:=by
 unfold dL at h;obtain⟨k,-,hk⟩:=List.mem_filterMap.1 h;split at hk
 ·cases hk
 ·exact List.mem_of_getElem? hk
def rW (es:List Ex)(ts:List Tm)(x:Kn):Tm:= .mk x.op x.name (bL es (x.exprs.take 3)) (dL ts (x.ar.take 4))
def uZ (es:List Ex)(ts:List Tm)(x:Kn):List Tm:=ts++[rW es ts x]
def cW (es:List Ex)(ks:List Kn):List Tm:=ks.foldl (uZ es) []
theorem tG (es:List Ex)(ks:List Kn)(x:Kn):cW es (ks++[x])=cW es ks++[rW es (cW es ks) x]:=by
 unfold cW;rw[List.foldl_append];rfl
theorem kG (es:List Ex)(ks:List Kn):(cW es ks).length=ks.length:=by
 have:∀(r:List Kn) (ts:List Tm),(r.foldl (uZ es) ts).length=ts.length+r.length:=by
  intro r
  induction r with
  |nil=>intro ts;rfl
  |cons x r ih=>intro ts;rw[List.foldl_cons,ih];simp[uZ];omega
 have h:=this ks []
 simpa[cW] using h
theorem yz {l:List Tm}{m:Nat}(h:∀e∈l,e.depth≤m):da l≤m:=by
 induction l with
 |nil=>exact Nat.zero_le _
 |cons x r ih=>
  rw[da];have:=h x List.mem_cons_self;have:=ih fun e he=>h e (List.mem_cons_of_mem _ he);omega
theorem ru (es:List Ex)(D:Nat)(hD:∀e∈es,e.depth≤D)(ks:List Kn):∀e∈cW es ks,e.depth≤D+ks.length:=by
 have key:∀(r:List Kn) (ts:List Tm) (m:Nat),D≤m→(∀e∈ts,e.depth≤m)→∀e∈r.foldl (uZ es) ts,e.depth≤m+r.length:=by
  intro r
  induction r with
  |nil=>intro ts m _ h e he;exact h e he
  |cons x r ih=>
   intro ts m hDm h e he;rw[List.foldl_cons] at he
   have:=ih (uZ es ts x) (m+1) (by omega) (fun e he=>by
    rcases List.mem_append.1 he with he|he
    ·have:=h e he;omega
    ·obtain rfl:=List.mem_singleton.1 he
     have h1:=yz (fun e he=>h e (yj he):∀e∈dL ts (x.ar.take 4),e.depth≤m);have h2:=sw (fun e he=>Nat.le_trans (hD e (sk he)) hDm:∀e∈bL es (x.exprs.take 3),e.depth≤m);unfold rW;rw[Tm.ei];omega) e he
   rw[List.length_cons];omega
 intro e he;exact key ks [] D (Nat.le_refl _) (by simp) e he
def qN (w:World)(B:Nat)(A:Option Addr)(xs:List Kn):Prop:=∀i x,xs[i]? =some x→∃ad A1 A2 c1 c2,A=some ad∧ad.block<B∧Reads w B 1 A1 x.exprs.length (DI x.exprs)∧Reads w B 1 A2 x.ar.length (DI x.ar)∧∀(j:Nat) (u:Value),([.int .i64 x.op, .string (strOf x.name), .slice A1 x.exprs.length c1, .slice A2 x.ar.length c2]:List Value)[j]? =some u→w.cell? ((ad.add (i*4)).add j)=some u
theorem qN.below {w w':World}{B:Nat}{A:Option Addr}{xs:List Kn}(h:qN w B A xs)(hb:Below B w w'):qN w' B A xs:=fun i x hx=>by
 obtain⟨ad,A1,A2,c1,c2,e1,e2,e3,e3',e4⟩:=h i x hx;exact⟨ad,A1,A2,c1,c2,e1,e2,e3.below hb,e3'.below hb,fun j u hu=>(hb.cell (by rw[ag,ag];exact e2)).trans (e4 j u hu)⟩
structure bY (w:World)(T:List Nat)(ts:List Tm)(vs:List Value):Prop where
 len:vs.length=ts.length
 lt:∀b∈T,b<w.heap.size
 rep:∀(i:Nat) (e:Tm) (v:Value),ts[i]? =some e→vs[i]? =some v→dR w (· ∈T) e v
section
variable {w w':World} {T:List Nat} {ts:List Tm} {vs:List Value}
theorem bY.bN (h:bY w T ts vs)(hs:w.heap.size≤w'.heap.size)(hb:∀b∈T,w'.heap[b]? =w.heap[b]?):bY w' T ts vs:=
 ⟨h.len,fun b hm=>Nat.lt_of_lt_of_le (h.lt b hm) hs,fun i e v he hv=>(h.rep i e v he hv).mono (fun _ h=>h) (fun p hp=>World.cell?_of_block (hb p.block hp))⟩
theorem bY.step (h:bY w T ts vs)(hb:Below w.heap.size w w'):bY w' T ts vs:=h.bN hb.size (fun b hm=>hb.block b (h.lt b hm))
theorem bY.grown {row:Option Nat}(h:bY w T ts vs)(hg:w.grownBy w' row)(hne:∀b,row=some b→b∉T):bY w' T ts vs:=h.bN hg.size (fun b hm=>hg.block b (h.lt b hm) (fun e=>hne b e.symm hm))
theorem bY.nil (w:World)(T:List Nat)(hlt:∀b∈T,b<w.heap.size):bY w T [] []:=⟨rfl,hlt,fun i e v h=>by cases h⟩
theorem bY.cells (h:bY w T ts vs):nO 4 vs:=by
 have:∀v∈vs,v.cells.size=4:=fun v hv=>by
  obtain⟨k,hk,rfl⟩:=List.getElem_of_mem hv;obtain⟨z,hz⟩:∃z,ts[k]? =some z:=⟨_,List.getElem?_eq_getElem (by have:=h.len;omega)⟩;exact(h.rep k z _ hz (List.getElem?_eq_getElem hk)).kN
 clear h
 induction vs with
 |nil=>trivial
 |cons v r ih=>exact⟨this v List.mem_cons_self,ih (fun u hu=>this u (List.mem_cons_of_mem _ hu))⟩
theorem bY.app {B:Nat}{v:Value}(h:bY w T ts vs)(hv:iK v T)(ha:App w w' B v):bY w' T ts vs:=h.grown ha.grown fun b e=>hv b e
theorem bY.put {g B:Nat}{t:TypeId}{cur cs:Array Value}(h:bY w T ts vs)(_k:aH w g t cur)(p:hZ w w' g t cs)(_e:B≤g)(hne:g∉T:=by assumption):bY w' T ts vs:=
 h.grown p.grown fun b e=>by injection e with e;exact e▸hne
end
theorem xA {w:World}{B len:Nat}{ty:TypeId}{vA:Value}{avs:List Value}{S:Nat→Prop}(hA:Own w B ty 4 vA len (ax avs))(hS:∀b,vA.ownBlock=some b→S b):∃A c,vA= .slice A len c∧(0<len→Rows w S A (ax avs)):=by
 obtain⟨A,c,rfl,hrd⟩:=hA.reads;refine⟨A,c,rfl,fun h0 hne=> ?_⟩;obtain⟨ad,rfl,-,hc⟩:=hrd.2 h0;exact⟨ad,rfl,hS _ rfl,hc⟩
theorem uW {w:World}{S:Nat→Prop}{A:Option Addr}{avs:List Value}(h:avs.length=0):Rows w S A (ax avs):=fun hne=>by
 rw[List.eq_nil_of_length_eq_zero h] at hne;exact absurd rfl hne
theorem bY.more {w:World}{T:List Nat}{ts args:List Tm}{eargs:List Ex}{vs avs evs:List Value}{B B':Nat}{o:Int}{nm:List Nat}{vE vT:Value}(h:bY w T ts vs)(hle:evs.length=eargs.length)(hl:avs.length=args.length)(iD:eargs.length≤1000)(dX:args.length≤1000)(hop:bw o)(hnm:∀d∈nm,d<256)(hnl:nm.length≤9223372036854775807)
  (hre:∀(i:Nat) (e:Ex) (v:Value),eargs[i]? =some e→evs[i]? =some v→cr w (· ∈T) e v) (hr:∀(i:Nat) (e:Tm) (v:Value),args[i]? =some e→avs[i]? =some v→dR w (· ∈T) e v) (hE:Own w B' 105 4 vE eargs.length (ax evs)) (hA:Own w B 71 4 vT args.length (ax avs)):
  bY w (dv vE++(dv vT++T)) (ts++[.mk o nm eargs args]) (vs++[.agg #[.int .i64 o, .string (strOf nm),vE,vT]]):=by
 have hbE:=hE.aI;have hbT:=hA.aI;obtain⟨AE,cE,rfl,hRE⟩:=xA (S:=(· ∈dv vE++(dv vT++T))) hE (fun b hb=>List.mem_append_left _ (ct.2 hb));obtain⟨AT,cT,rfl,hRT⟩:=xA (S:=(· ∈dv (.slice AE eargs.length cE)++(dv vT++T))) hA (fun b hb=>List.mem_append_right _ (List.mem_append_left _ (ct.2 hb)));refine⟨by rw[List.length_append,List.length_append,h.len];rfl,fun b hm=> ?_,fun i e v he hvi=> ?_⟩
 ·rcases List.mem_append.1 hm with hm|hm
  ·exact(hbE b (ct.1 hm)).2
  ·rcases List.mem_append.1 hm with hm|hm
   ·exact(hbT b (ct.1 hm)).2
   ·exact h.lt b hm
 ·rcases Nat.lt_or_ge i ts.length with hi|hi
  ·rw[List.getElem?_append_left hi] at he
   rw[List.getElem?_append_left (by rw[h.len];exact hi)] at hvi;exact(h.rep i e v he hvi).mono (fun b hb=>List.mem_append_right _ (List.mem_append_right _ hb)) (fun _ _=>rfl)
  ·rw[List.getElem?_append_right hi] at he
   rw[List.getElem?_append_right (by rw[h.len];exact hi),h.len] at hvi
   have h0:i-ts.length=0:=by
    have:=(List.getElem?_eq_some_iff.1 he).1;simp at this;exact this
   rw[h0] at he hvi;injection he with he
   injection hvi with hvi
   subst he hvi;refine .mk hle hl iD dX hop hnm hnl (fun i e v he hv=>(hre i e v he hv).mono (fun b hb=>List.mem_append_right _ (List.mem_append_right _ hb)) (fun _ _=>rfl)) (fun i e v he hv=>(hr i e v he hv).mono (fun b hb=>List.mem_append_right _ (List.mem_append_right _ hb)) (fun _ _=>rfl)) ?_ ?_
   ·rcases Nat.eq_zero_or_pos eargs.length with h0|h0
    ·exact uW (by omega)
    ·exact hRE h0
   ·rcases Nat.eq_zero_or_pos args.length with h0|h0
    ·exact uW (by omega)
    ·exact hRT h0
theorem tC (a:Int)(s:List Nat)(w:World):(Instr.build 71 #[(0, .int .i64 a),(1, .string (strOf s))]).run Tryz.prog w= .ok (.agg #[.int .i64 a, .string (strOf s), .slice none 0 0, .slice none 0 0]) w:=by
 have hu:=Tryz.underlying71
 go_simp
theorem ji:bz Tryz.prog 155=some (some (.agg #[.int .i64 0, .string {data:= #[]}, .slice none 0 0, .slice none 0 0])):=by kernel_rfl
theorem E3 (n d:Int)(es:List Ex)(l:List Tm)(op:Int)(nm:List Nat)(w:World)(hn:n=1+jf es+lG l)(hd:d=1+max (maxD es) (mo l)):Calls Tryz.prog 90 #[.int .i64 n, .int .i64 d] w fun e w'=>e= .returned (.tuple #[.int .i64 (dN (.mk op nm es l)), .int .i64 (dW (.mk op nm es l))])∧Grow w w':=by
 have h:=uo n d w;subst hn hd;rw[Cb op nm es l] at h;exact h
theorem oO.low {w0 w w':World}{g:Nat}(h:oO w0 w g)(hb:Below w0.heap.size w w'):oO w0 w' g:=
 ⟨⟨hb.os.trans h.row.os,hb.tape.trans h.row.tape,hb.output.trans h.row.output,Nat.le_trans h.row.size hb.size,fun i hi hne=>(hb.block i hi).trans (h.row.block i hi hne)⟩⟩
def nZ (n m:Nat)(AE AN AD AT AM AP:Option Addr)(cE cN cD cT cM cP:Nat):Value:= .agg #[.slice AE n cE, .slice AN n cN, .slice AD n cD, .slice AT m cT, .slice AM m cM, .slice AP m cP]
structure DQ (w:World)(B:Nat)(ts:List Tm)(AT AM AP:Option Addr):Prop where
 term:qF w B ts AT
 CM:Reads w B 1 AM ts.length (DI (ts.map dN))
 deep:Reads w B 1 AP ts.length (DI (ts.map dW))
theorem BR (e:Tm):((decide (dN e≤200)&&decide (dW e≤16))&&bW e)=bV e:=by
 have hdn:=e.bh;unfold bV;congr 1;rw[Bool.eq_iff_iff];simp only[Bool.and_eq_true,decide_eq_true_eq];unfold dN dW eZ;split<;>constructor<;>intro h<;>dsimp only at * <;>omega
theorem pJ (i n cE cN cD cT cM cP:Nat)(AE AN AD AT AM AP:Option Addr)(ts:List Tm)(e:Tm)(w:World)(hr:DQ w w.heap.size ts AT AM AP)(he:ts[i]? =some e):
  Calls Tryz.prog 51 #[nZ n ts.length AE AN AD AT AM AP cE cN cD cT cM cP, .int .i64 (i:Int)] w fun en w'=>en= .returned (.bool (bV e))∧Grow w w':=by
 have bel:=Below.refl w.heap.size w;have hi:=(List.getElem?_eq_some_iff.1 he).1;obtain⟨ad,A1,A2,c1,c2,rfl,hb,hrep,hcell⟩:=hr.term i e he;have hcE:∀W,Below w.heap.size w W→∀(q:Nat) (u:Value),([.int .i64 e.op, .string (strOf e.name), .slice A1 e.exprs.length c1, .slice A2 e.ar.length c2]:List Value)[q]? =some u→W.cell? ((ad.add (i*4)).add q)=some u:=fun W hW q u hq=>(hW.cell (by rw[ag,ag];exact hb)).trans (hcell q u hq);obtain⟨adN,rfl,hbN,hcN⟩:=hr.CM.2 (by omega);have hcN:=fun W (hb:Below w.heap.size w W)=>(hb.cell (p:=adN.add i) (by rw[ag];exact hbN)).trans (hcN i (.int .i64 (dN e)) (by rw[fF,List.getElem?_map,he];rfl));obtain⟨adD,rfl,hbD,hcD⟩:=hr.deep.2 (by omega);have hcD:=fun W (hb:Below w.heap.size w W)=>(hb.cell (p:=adD.add i) (by rw[ag];exact hbD)).trans (hcD i (.int .i64 (dW e)) (by rw[fF,List.getElem?_map,he];rfl));have hbt:=fun W (hb:Below w.heap.size w W)=>rM e.nodes e w.heap.size _ W (Nat.le_refl _) (hrep.below hb) hb.size;have hz:=BR e;unfold nZ;refine Zs 27 Tryz.func51 ?_;refine aj ?_;refine Seq.box rfl rfl rfl rfl rfl ?_;intro g2 w1 n2;have e2:=Nat.le_trans bel.size n2.ge;replace bel:=bel.step n2.below;have k2:=n2.ao;refine Za ?_;refine aZ 0 1 2 4 (aB ?_);refine Zf 4 Tryz.underlying98 ?_;refine ZL Tryz.underlying96 k2 ?_;refine Zm ?_;refine Zv (aa.dg rfl rfl rfl Tryz.underlying96 (by kernel_rfl) (j:=i) rfl (by omega)) ?_;refine Zv (aa.dF rfl rfl Tryz.underlying3 rfl (hcN _ bel)) ?_;refine Fj ?_;refine Zm ?_;refine av.start ?_;refine bk (fun hcx=>aa.ak 5 rfl rfl Tryz.underlying98 rfl (by kernel_rfl)) ?_;refine Zn (fun hcx=>aa.an rfl rfl Tryz.underlying96 rfl k2 rfl) ?_;refine jl ?_;refine Zn (fun hcx=>aa.dg rfl rfl rfl Tryz.underlying96 (by kernel_rfl) (j:=i) rfl (by omega)) ?_;refine Zn (fun hcx=>aa.dF rfl rfl Tryz.underlying3 rfl (hcD _ bel)) ?_;refine Zn (fun hcx=>aa.leq rfl rfl rfl) ?_;refine ep ?_;refine Zm ?_;refine av.start ?_;refine bk (fun hcx=>aa.ak 3 rfl rfl Tryz.underlying98 rfl (by kernel_rfl)) ?_;refine Zn (fun hcx=>aa.an rfl rfl Tryz.underlying69 rfl k2 rfl) ?_;refine jl ?_;refine Zn (fun hcx=>aa.aR rfl rfl rfl Tryz.underlying69 (s:=4) (by kernel_rfl) (j:=i) rfl (by omega)) ?_;refine Zn (fun hcx=>aa.bP (ps:=[.int .i64 e.op, .string (strOf e.name), .slice A1 e.exprs.length c1, .slice A2 e.ar.length c2]) rfl rfl Tryz.underlying71 rfl (m:=4) (by kernel_rfl) rfl (hcE _ bel)) ?_;refine av.bj rfl rfl rfl rfl rfl rfl rfl (fun hcx=>Ze Tryz.func91) (fun hcx=>hbt _ bel) ?_;intro w2 hw2;replace bel:=bel.step hw2;replace k2:=k2.step hw2;refine ep ?_;refine Za ?_;refine aZ 0 1 2 4 (Zt (Cd.ret ?_));refine aX ?_;exact⟨aW (aF hz),bel⟩
def th:List (List Nat):=[[122,101,114,111],[111,110,101],[103,105,118,101],[97,110,100],[111,114],[115,99,97,108,101],[119,104,101,110],[117,110,116,105,108],[97,110,121,116,105,109,101]]
def nX (op:Int):List Nat:=th.getD (op-1).toNat []
mutual
def et:Tm→List Nat
 | .mk op nm es l=>if op=1 then [122,101,114,111] else nX op++[40]++df ((if op=2 then [nm] else [])++es.map cC++qB l)++[41]
def qB:List Tm→List (List Nat)
 | []=>[]
 |t::r=>et t::qB r
end
theorem qp:∀l,qB l=l.map et
 | []=>by rw[qB];rfl
 |e::r=>by rw[qB,qp r];rfl
theorem uy (t:Tm):et t=if t.op=1 then [122,101,114,111] else nX t.op++[40]++df ((if t.op=2 then [t.name] else [])++t.exprs.map cC++t.ar.map et)++[41]:=by
 cases t;rw[et,qp];rfl
theorem rD (op:Int)(w:World)(h1:1≤op)(h2:op≤9):Calls Tryz.prog 176 #[.int .i64 op] w fun e w'=>e= .returned (.string (strOf (nX op)))∧Grow w w':=by
 have bel:=Below.refl w.heap.size w;refine Zs 20 Tryz.func176 ?_;refine aj ?_;refine Za ?_;refine dM 0 2 (aJ (aj ?_));refine Zm ?_;refine bu 0 2 3 (Zt (Cd.block (aj ?_)));refine bq ?_;refine Za ?_;refine aZ 0 2 3 4 (Zt ?_);refine Cd.au rfl (fun g1=> ?_) (fun g1=> ?_)
 ·skip
  refine aj ?_;refine Za ?_;refine aZ 0 2 3 4 (Zt (Cd.ret (ab.ah (ab.af ?_))));refine aX ?_;subst g1;exact⟨rfl,bel⟩
 refine aj ?_;refine bq ?_;refine Za ?_;refine aU 0 2 3 4 6 (Zt ?_);refine Cd.au rfl (fun h3=> ?_) (fun h3=> ?_)
 ·skip
  refine aj ?_;refine Za ?_;refine aU 0 2 3 4 6 (Zt (Cd.ret (ab.ah (ab.af ?_))));refine aX ?_;subst h3;exact⟨rfl,bel⟩
 refine aj ?_;refine bq ?_;refine Za ?_;refine bl 0 2 3 4 6 8 (Zt ?_);refine Cd.au rfl (fun h4=> ?_) (fun h4=> ?_)
 ·skip
  refine aj ?_;refine Za ?_;refine bl 0 2 3 4 6 8 (Zt (Cd.ret (ab.ah (ab.af ?_))));refine aX ?_;subst h4;exact⟨rfl,bel⟩
 refine aj ?_;refine bq ?_;refine Za ?_;refine bp 0 2 3 4 6 8 10 (Zt ?_);refine Cd.au rfl (fun h5=> ?_) (fun h5=> ?_)
 ·skip
  refine aj ?_;refine Za ?_;refine bp 0 2 3 4 6 8 10 (Zt (Cd.ret (ab.ah (ab.af ?_))));refine aX ?_;subst h5;exact⟨rfl,bel⟩
 refine aj ?_;refine bq ?_;refine Za ?_;refine cn 0 2 3 4 6 8 10 12 (Zt ?_);refine Cd.au rfl (fun h6=> ?_) (fun h6=> ?_)
 ·skip
  refine aj ?_;refine Za ?_;refine cn 0 2 3 4 6 8 10 12 (Zt (Cd.ret (ab.ah (ab.af ?_))));refine aX ?_;subst h6;exact⟨rfl,bel⟩
 refine aj ?_;refine bq ?_;refine Za ?_;refine du 0 2 3 4 6 8 10 12 14 (Zt ?_);refine Cd.au rfl (fun h7=> ?_) (fun h7=> ?_)
 ·skip
  refine aj ?_;refine Za ?_;refine du 0 2 3 4 6 8 10 12 14 (Zt (Cd.ret (ab.ah (ab.af ?_))));refine aX ?_;subst h7;exact⟨rfl,bel⟩
 refine aj ?_;refine bq ?_;refine Za ?_;refine ed 0 2 3 4 6 8 10 12 14 16 (Zt ?_);refine Cd.au rfl (fun h8=> ?_) (fun h8=> ?_)
 ·skip
  refine aj ?_;refine Za ?_;refine ed 0 2 3 4 6 8 10 12 14 16 (Zt (Cd.ret (ab.ah (ab.af ?_))));refine aX ?_;subst h8;exact⟨rfl,bel⟩
 refine aj ?_;refine bq ?_;refine Za ?_;refine bT 0 2 3 4 6 8 10 12 14 16 18 (Zt ?_);refine Cd.au rfl (fun h9=> ?_) (fun h9=> ?_)
 ·skip
  refine aj ?_;refine Za ?_;refine bT 0 2 3 4 6 8 10 12 14 16 18 (Zt (Cd.ret (ab.ah (ab.af ?_))));refine aX ?_;subst h9;exact⟨rfl,bel⟩
 refine Cd.skip (ab.ai (aB ?_));refine Za ?_;refine bT 0 2 3 4 6 8 10 12 14 16 18 (Zt (Cd.ret ?_));refine aX ?_;obtain rfl:op=2:=by omega
 exact⟨rfl,bel⟩
theorem jF {t:Tm}(h:bW t=true):gm t.op t.name t.exprs.length t.ar.length=true∧(∀x∈t.exprs,bF x=true)∧∀x∈t.ar,bW x=true:=by
 rw[lr,Bool.and_eq_true,Bool.and_eq_true,List.all_eq_true,List.all_eq_true] at h;exact⟨h.1.1,h.1.2,h.2⟩
theorem sa (op:Int):(nX op).length≤7∧∀x∈nX op,x<256:=by
 unfold nX
 generalize (op-1).toNat=j
 rcases Nat.lt_or_ge j 9 with h|h
 ·have key:∀j:Fin 9,(th.getD j.val []).length≤7∧∀x∈th.getD j.val [],x<256:=by decide
  exact key ⟨j,h⟩
 ·rw[List.getD_eq_getElem?_getD,List.getElem?_eq_none (show th.length≤j from h)]
  simp
theorem vH:∀l:List (List Nat),(df l).length≤(l.map fun t=>t.length+2).sum
 | []=>by simp[df]
 | [x]=>by simp[df]
 |x::y::r=>by
  have h2:=vH (y::r);rw[oc];simp only[List.length_append,List.length_cons,List.length_nil,List.map_cons,List.sum_cons] at h2⊢;omega
theorem r7:∀l:List Ex,(∀x∈l,(cC x).length≤50*x.nodes)→((l.map cC).map fun t=>t.length+2).sum≤60*bC l
 | [],_=>by simp
 |x::r,h=>by
  have h1:=h x List.mem_cons_self;have h2:=r7 r fun z hz=>h z (List.mem_cons_of_mem _ hz);have hp:=x.bU;rw[bC,List.map_cons,List.map_cons,List.sum_cons];omega
theorem sm:∀l:List Tm,(∀x∈l,(et x).length+2≤60*x.nodes)→((l.map et).map fun t=>t.length+2).sum≤60*eh l
 | [],_=>by simp
 |x::r,h=>by
  have h1:=h x List.mem_cons_self;have h2:=sm r fun z hz=>h z (List.mem_cons_of_mem _ hz);rw[eh,List.map_cons,List.map_cons,List.sum_cons];omega
theorem kU (N:Nat):∀t:Tm,t.nodes≤N→bW t=true→(et t).length+2≤60*t.nodes∧∀d∈et t,d<256:=by
 induction N with
 |zero=>intro t hN;have:=t.bU;omega
 |succ N ih=>
  intro t hN hb;obtain⟨hh,he,ht⟩:=jF hb;obtain⟨a1,a2,a3⟩:=(jG _ _ _ _).1 hh;have hn:=t.mP;have hE:=r7 t.exprs fun x hx=>(fN x.nodes x (Nat.le_refl _) (he x hx)).1;have hT:=sm t.ar fun x hx=>(ih x (by have:=Tm.eW hx;omega) (ht x hx)).1;have hw:=sa t.op;rw[uy];split
  ·exact⟨by simp;omega,by decide⟩
  ·have hj:=vH ((if t.op=2 then [t.name] else [])++t.exprs.map cC++t.ar.map et)
   rw[List.map_append,List.map_append,List.sum_append,List.sum_append] at hj
   have hnm:((if t.op=2 then [t.name] else []).map fun t=>t.length+2).sum≤18:=by
    split
    ·rename_i h
     have:=mM (a2 h);simp;omega
    ·simp
   refine⟨by simp only[List.length_append,List.length_cons,List.length_nil];omega,Dn (fun x hx=> ?_) (xN fun u hu=> ?_) (by decide)⟩
   ·rcases List.mem_append.1 hx with hx|hx
    ·exact hw.2 x hx
    ·simp at hx;omega
   ·rcases List.mem_append.1 hu with hu|hu
    ·rcases List.mem_append.1 hu with hu|hu
     ·split at hu
      ·rename_i h
       obtain rfl:=List.mem_singleton.1 hu;exact o8 (a2 h)
      ·cases hu
     ·obtain⟨x,hx,rfl⟩:=List.mem_map.1 hu
      exact(fN x.nodes x (Nat.le_refl _) (he x hx)).2
    ·obtain⟨x,hx,rfl⟩:=List.mem_map.1 hu
     exact(ih x (by have:=Tm.eW hx;omega) (ht x hx)).2
theorem yv (B g i:Nat)(t:Tm)(A A':Option Addr)(c c' f:Nat)(fst cp:List Value)(bs T:List Nat)(W:World)(hv:sx W B t A A')(h200:t.nodes≤200)(hbt:bW t=true)(wr:Bw W B g bs)(hl:bs.length≤60000000)
  (eg:∀args w,(callFunc f args).run Tryz.prog w= .ok (.enter f args) w) (hi:i<t.exprs.length+t.ar.length)
  (hT:∀x,t.exprs[i]? =some x→T=cC x)
  (hS:∀k x A1 A2 c1 c2,t.ar[k]? =some x→i=t.exprs.length+k→∀W',Wt B W W'→fv W' B x (.agg (Dz x A1 A2 c1 c2).toArray)→Bw W' B g bs→Calls Tryz.prog f (fst++[Value.agg (Dz x A1 A2 c1 c2).toArray]++cp).toArray W' (gT B g (bs++T) W')):
  Calls Tryz.prog 178 #[.pointer (some ⟨g,0,none⟩), .agg #[.int .i64 t.op, .string (strOf t.name), .slice A t.exprs.length c, .slice A' t.ar.length c'], .int .i64 (i:Int), .func (.func f) fst.toArray cp.toArray] W (gT B g (bs++T) W):=by
 obtain⟨hh,hexp,hter⟩:=jF hbt;have hBW:=wr.size;have dX:=hv.dX;have h61:=hv.iD;have wt:=Wt.refl B W;refine Zs 31 Tryz.func178 ?_;refine aj ?_;refine Seq.box rfl rfl rfl rfl rfl ?_;intro g5 w1 n5;replace wt:=wt.step n5.below;replace wr:=wr.step n5.below;have k5:=n5.ao;refine aU 0 1 2 3 5 (aJ (aj ?_));refine Zm ?_;refine Zf 2 Tryz.underlying71 ?_;refine ZL Tryz.underlying68 k5 ?_;refine Zv (aa.len rfl rfl Tryz.underlying68) ?_;refine ff ?_;refine bl 0 1 2 3 5 12 (Zt ?_);refine Cd.au rfl (fun hc=> ?_) (fun hc=> ?_)
 ·obtain⟨y,hy⟩:∃y,t.exprs[i]? =some y:=⟨_,List.getElem?_eq_getElem (by omega)⟩
  obtain⟨ad,Ax,cx,rfl,hbl,hrx,hce⟩:=hv.expr i y hy;have hxm:=List.mem_of_getElem? hy;have hxn:=Tm.wQ hxm;have hxd:=y.bh;have hce:=fun j u hj=>((wt.to hBW).cell (p:=(ad.add (i*4)).add j) (by rw[ag,ag];exact hbl)).trans (hce j u hj);have hex:=r8 y.nodes y B g bs _ 1 _ (Nat.le_refl _) (by omega) (hexp y hxm) (hrx.below (wt.to hBW)) wr (by unfold bw;omega) (by omega);rw[sT,←hT y hy] at hex;refine aj ?_;refine Zm ?_;refine Zf 2 Tryz.underlying71 ?_;refine ZL Tryz.underlying68 k5 ?_;refine Zm ?_;refine Zv (aa.aR rfl rfl rfl Tryz.underlying68 (s:=4) (by kernel_rfl) (j:=i) rfl (by omega)) ?_;refine Zv (aa.bP (ps:=[.int .i64 y.op, .int .i64 y.n, .string (strOf y.name), .slice Ax y.args.length cx]) rfl rfl Tryz.underlying105 rfl (m:=4) (by kernel_rfl) rfl hce) ?_;refine Zc (Ze Tryz.func138) (hex) ?_;clear wr;rintro e w2 ⟨⟨_,rfl⟩,fw2,wr⟩;refine⟨_,rfl,?_⟩;replace wt:=wt.wt fw2;refine bl 0 1 2 3 5 12 (Zt (Cd.ret (ab.af ?_)));refine ab.eP rfl (.inl rfl) ?_;exact⟨⟨_,rfl⟩,wt,wr⟩
 ·obtain⟨k,rfl⟩:∃k,i=t.exprs.length+k:=⟨i-t.exprs.length,by omega⟩
  obtain⟨y,hy⟩:∃y,t.ar[k]? =some y:=⟨_,List.getElem?_eq_getElem (by omega)⟩;obtain⟨ad,A1,A2,d1,d2,rfl,hbl,hrx,hce⟩:=hv.term k y hy;have hce:=fun j u hj=>((wt.to hBW).cell (p:=(ad.add (k*4)).add j) (by rw[ag,ag];exact hbl)).trans (hce j u hj);have hsub:=hS k y A1 A2 d1 d2 hy rfl _ wt (hrx.below (wt.to hBW)) wr;refine Cd.skip (dU ?_);refine Zm ?_;refine Zf 3 Tryz.underlying71 ?_;refine ZL Tryz.underlying69 k5 ?_;refine Zm ?_;refine Zf 2 Tryz.underlying71 ?_;refine ZL Tryz.underlying68 k5 ?_;refine Zv (aa.len rfl rfl Tryz.underlying68) ?_;refine rF ?_;refine Zv (aa.aR rfl rfl rfl Tryz.underlying69 (s:=4) (by kernel_rfl) (j:=k) (by omega) (by omega)) ?_;refine Zv (aa.bP (ps:=[.int .i64 y.op, .string (strOf y.name), .slice A1 y.exprs.length d1, .slice A2 y.ar.length d2]) rfl rfl Tryz.underlying71 rfl (m:=4) (by kernel_rfl) rfl hce) ?_;refine Seq.call (Enters.value (first:=fst) (cap:=cp) rfl rfl rfl eg) rfl rfl rfl hsub ?_;clear wr;rintro e w9 ⟨⟨_,rfl⟩,f9,wr⟩;refine⟨_,rfl,?_⟩;replace wt:=wt.wt f9;refine bl 0 1 2 3 5 12 ?_;refine ab.eP rfl (.inr rfl) ?_;exact⟨⟨_,rfl⟩,wt,wr⟩
theorem CC:∀args w,(callFunc 131 args).run Tryz.prog w= .ok (.enter 131 args) w:=fun args w=>aO Tryz.func131 (by kernel_rfl) rfl args w
theorem B6:∀args w,(callFunc 177 args).run Tryz.prog w= .ok (.enter 177 args) w:=fun args w=>aO Tryz.func177 (by kernel_rfl) rfl args w
def EI (B g L:Nat)(t:Tm):Prop:=∀(x:Tm) (A1 A2:Option Addr) (c1 c2:Nat),x∈t.ar→∀(W:World) (bs':List Nat),fv W B x (.agg (Dz x A1 A2 c1 c2).toArray)→Bw W B g bs'→bs'.length≤L→Calls Tryz.prog 131 #[.pointer (some ⟨g,0,none⟩), .agg (Dz x A1 A2 c1 c2).toArray] W (gT B g (bs'++et x) W)
def jm (t:Tm):List (List Nat):=t.exprs.map cC++t.ar.map et
theorem xk {t:Tm}{i:Nat}{x:Ex}(h:t.exprs[i]? =some x):(jm t)[i]? =some (cC x):=by
 have:=(List.getElem?_eq_some_iff.1 h).1;unfold jm;rw[List.getElem?_append_left (by simp;omega),List.getElem?_map,h];rfl
theorem xp {t:Tm}{k:Nat}{x:Tm}(h:t.ar[k]? =some x):(jm t)[t.exprs.length+k]? =some (et x):=by
 unfold jm;rw[List.getElem?_append_right (by simp),List.length_map,Nat.add_sub_cancel_left,List.getElem?_map,h];rfl
theorem wJ (B g L g2 g3 i c c':Nat)(A A':Option Addr)(t:Tm)(bs T:List Nat)(w W:World)(h:EI B g L t)(hv:sx w B t A A')(h200:t.nodes≤200)(hbt:bW t=true)(hb:Below B w W)(k2:aH W g2 192 #[.pointer (some ⟨g,0,none⟩)]) (k3:aH W g3 71 #[.int .i64 t.op, .string (strOf t.name), .slice A t.exprs.length c, .slice A' t.ar.length c']) (wr:Bw W B g bs) (hL:bs.length≤L) (hL2:L≤60000000) (hT:(jm t)[i]? =some T):
  Calls Tryz.prog 177 #[.int .i64 (i:Int), .pointer (some ⟨g2,0,none⟩), .pointer (some ⟨g3,0,none⟩)] W (gT B g (bs++T) W):=by
 have hBW:=wr.size;have hi:=(List.getElem?_eq_some_iff.1 hT).1;have hi:i<t.exprs.length+t.ar.length:=by unfold jm at hi;simpa using hi
 have hpart:=yv B g i t A A' c c' 131 [.pointer (some ⟨g,0,none⟩)] [] bs T W (hv.below hb) h200 hbt wr (by omega) CC hi
  (fun x hx=>by rw[xk hx] at hT;injection hT with hT;exact hT.symm)
  (fun k x A1 A2 c1 c2 hx hik W' hb' hr hw=>by
   subst hik;rw[xp hx] at hT;injection hT with hT
   subst hT;exact h x A1 A2 c1 c2 (List.mem_of_getElem? hx) W' bs hr hw hL)
 have wt:=Wt.refl B W;refine Zs 10 Tryz.func177 ?_;refine Zr ?_;refine ZL Tryz.underlying192 k2 ?_;refine ZW 4 Tryz.underlying71 k3 ?_;refine Zm ?_;refine ZL Tryz.underlying192 k2 ?_;refine Zv (aa.makeFunc (v:= .func (.func 131) #[.pointer (some ⟨g,0,none⟩)] #[]) rfl (show gR _ _=some [.pointer (some ⟨g,0,none⟩)] from rfl) (show gR _ _=some [] from rfl) rfl) ?_;refine Zc (Ze Tryz.func178) (hpart) ?_;clear wr;rintro e w1 ⟨⟨_,rfl⟩,fw1,wr⟩;refine⟨_,rfl,?_⟩;replace wt:=wt.wt fw1;refine bu 0 1 2 ?_;refine ab.eP rfl (.inr rfl) ?_;exact⟨⟨_,rfl⟩,wt,wr⟩
theorem yf (N:Nat):∀(t:Tm) (B g:Nat) (bs:List Nat) (v:Value) (w:World),t.nodes≤N→t.nodes≤200→bW t=true→fv w B t v→Bw w B g bs→bs.length+100000*t.depth≤50000000→
  Calls Tryz.prog 131 #[.pointer (some ⟨g,0,none⟩),v] w (gT B g (bs++et t) w):=by
 induction N with
 |zero=>intro t B g bs v w hN;have:=t.bU;omega
 |succ N ih=>
 intro t B g bs v w hN h200 hbt hrep hbw hbs;obtain⟨A,c,A',c',rfl,hv⟩:=hrep.open;obtain⟨hh,hexp,hter⟩:=jF hbt;obtain⟨a1,a2,a3⟩:=(jG _ _ _ _).1 hh;obtain⟨p1,p2,p3,p4⟩:=Cl a1;have hBW:=hbw.size;have hT:=uy t;have hbd:=kU t.nodes t (Nat.le_refl _) hbt;have dX:=hv.dX;have h61:=hv.iD
 have hrec:EI B g (bs.length+60000) t:=fun x A1 A2 c1 c2 hx W bs' hr hw hl=>by
  have hnd:=Tm.eW hx;have hdp:=Tm.qO hx;exact ih x B g bs' _ W (by omega) (by omega) (hter x hx) hr hw (by omega)
 have wt:=Wt.refl B w;have wr:=hbw;refine Zs 35 Tryz.func131 ?_;refine aj ?_;refine Seq.box rfl rfl rfl rfl rfl ?_;intro g2 w1 n2;replace wt:=wt.step n2.below;replace wr:=wr.step n2.below;have k2:=n2.ao;refine Seq.box rfl rfl rfl rfl rfl ?_;intro g3 w2 n3;have l3:=Nat.lt_of_lt_of_le k2.lt n3.ge;replace wt:=wt.step n3.below;replace wr:=wr.step n3.below;replace k2:=k2.step n3.below;have k3:=n3.ao;refine aZ 0 1 2 3 (aB ?_);refine Zf 0 Tryz.underlying71 ?_;refine ZL Tryz.underlying3 k3 ?_;refine aU 0 1 2 3 5 (Zt (Cd.block (aj ?_)));refine bq ?_;refine Za ?_;refine bl 0 1 2 3 5 19 (Zt ?_);refine Cd.au rfl (fun h1=> ?_) (fun h1=> ?_)
 ·rw[if_pos h1] at hT
  refine Zr ?_;refine ZL Tryz.underlying192 k2 ?_;refine Zv (aa.nilCheck rfl rfl) ?_;refine Zf 0 Tryz.underlying232 ?_;refine Zc (Ze Tryz.func174) ((bH B g [122,101,114,111] bs _ wr (by decide) (by simp only[List.length_cons,List.length_nil];omega)).1) ?_;clear wr;rintro e w3 ⟨⟨_,rfl⟩,fw3,wr⟩;refine⟨_,rfl,?_⟩;replace wt:=wt.wt fw3;refine bl 0 1 2 3 5 19 (ab.ai ?_);refine ab.eP rfl (.inr rfl) ?_;rw[hT];exact⟨⟨_,rfl⟩,wt,wr⟩
 rw[if_neg h1] at hT;refine aj ?_;refine bq ?_;refine Za ?_;refine bp 0 1 2 3 5 19 25 (Zt ?_);refine Cd.au rfl (fun h2=> ?_) (fun h2=> ?_)
 ·have hnm:=mM (a2 h2)
  have hnl:=o8 (a2 h2)
  have he0:t.exprs=[]∧t.ar=[]:=by
   rw[h2] at a1;have e1:xU 2=(0,0):=rfl;rw[e1] at a1;injection a1 with x1 x2
   exact⟨List.eq_nil_of_length_eq_zero (by omega),List.eq_nil_of_length_eq_zero (by omega)⟩
  have hT2:et t=[111,110,101,40]++t.name++[41]:=by
   rw[hT,if_pos h2,he0.1,he0.2,h2];simp[df];rfl
  refine fV 7 ?_;intro w3 hw3 zw3;replace wt:=wt.step hw3;replace wr:=wr.step hw3;replace k2:=k2.step hw3;replace k3:=k3.step hw3;have zlt:=k3.lt;refine eH Tryz.underlying192 k2 ?_;refine Zd (fun w hG=>aa.nilCheck rfl rfl) ?_;refine fp 0 Tryz.underlying232 ?_;refine fp 1 Tryz.underlying71 ?_;refine eH Tryz.underlying9 k3 ?_;refine Zd (fun w hG=>aa.rC (a:=[111,110,101,40]) rfl rfl rfl (by simp only[List.length_cons,List.length_nil];omega)) ?_;refine Zd (fun w hG=>aa.rC (b:=[41]) rfl rfl rfl (by simp only[List.length_append,List.length_cons,List.length_nil];omega)) ?_;refine Dr.nil ?_;refine br.done (F':=[(0,_),(1,_),(2,_),(3,_),(5,_),(19,_),(25,_),(29,_),(33,_)]) rfl ⟨rfl,rfl,rfl,rfl,rfl,rfl,rfl,rfl,rfl,trivial⟩ ?_;intro w4 hw4 fw4;replace wt:=wt.step hw4;replace wr:=wr.step hw4;replace k2:=k2.step hw4;replace k3:=k3.step hw4;refine Zc (Ze Tryz.func174) ((bH B g ([111,110,101,40]++t.name++[41]) bs _ wr (Dn (by decide) hnl (by decide)) (by simp only[List.length_append,List.length_cons,List.length_nil];omega)).1) ?_;clear wr;rintro e w5 ⟨⟨_,rfl⟩,fw5,wr⟩;refine⟨_,rfl,?_⟩;replace wt:=wt.wt fw5;refine bp 0 1 2 3 5 19 25 (ab.ai ?_);refine ab.eP rfl (.inr rfl) ?_;rw[hT2];exact⟨⟨_,rfl⟩,wt,wr⟩
 rw[if_neg h2,List.nil_append] at hT;have hjr:t.exprs.map cC++t.ar.map et=jm t:=rfl;rw[hjr] at hT;have hrl:(jm t).length=t.exprs.length+t.ar.length:=by unfold jm;simp
 have hwl:=sa t.op
 have hjl:(df (jm t)).length≤20000:=by
  have:=hbd.1;rw[hT] at this;simp only[List.length_append,List.length_cons,List.length_nil] at this;omega
 have hrows:∀u∈jm t,∀d∈u,d<256:=fun u hu=>by
  unfold jm at hu;rcases List.mem_append.1 hu with hu|hu
  ·obtain⟨z,hz,rfl⟩:=List.mem_map.1 hu
   exact(fN z.nodes z (Nat.le_refl _) (hexp z hz)).2
  ·obtain⟨z,hz,rfl⟩:=List.mem_map.1 hu
   exact(kU z.nodes z (Nat.le_refl _) (hter z hz)).2
 have hword:∀W,Calls Tryz.prog 176 #[.int .i64 t.op] W fun e w'=>e= .returned (.string (strOf (nX t.op)))∧Grow W w':=fun W=>rD t.op W p1 p2;refine fV 12 ?_;intro w3 hw3 zw3;replace wt:=wt.step hw3;replace wr:=wr.step hw3;replace k2:=k2.step hw3;replace k3:=k3.step hw3;have zlt:=k3.lt;refine eH Tryz.underlying192 k2 ?_;refine fp 0 Tryz.underlying71 ?_;refine eH Tryz.underlying3 k3 ?_;refine Dr.dm rfl (fun w=>Ze Tryz.func176) rfl (fun w hG=>hword w) ?_;refine fp 2 Tryz.underlying71 ?_;refine eH Tryz.underlying68 k3 ?_;refine Zd (fun w hG=>aa.len rfl rfl Tryz.underlying68) ?_;refine fp 3 Tryz.underlying71 ?_;refine eH Tryz.underlying69 k3 ?_;refine Zd (fun w hG=>aa.len rfl rfl Tryz.underlying69) ?_;refine Zd (fun w hG=>aa.qR rfl rfl rfl (by omega) (by omega)) ?_;refine Zd (fun w hG=>aa.makeFunc (v:= .func (.func 177) #[] #[.pointer (some ⟨g2,0,none⟩), .pointer (some ⟨g3,0,none⟩)]) rfl (show gR _ _=some [] from rfl) (show gR _ _=some [.pointer (some ⟨g2,0,none⟩), .pointer (some ⟨g3,0,none⟩)] from rfl) rfl) ?_;refine Dr.nil ?_;refine br.done (F':=[(0,_),(1,_),(2,_),(3,_),(5,_),(6,_),(9,_),(16,_),(17,_),(19,_),(25,_)]) rfl ⟨rfl,rfl,rfl,rfl,rfl,rfl,rfl,rfl,rfl,rfl,rfl,trivial⟩ ?_;intro w4 hw4 fw4;replace wt:=wt.step hw4;replace wr:=wr.step hw4;replace k2:=k2.step hw4;replace k3:=k3.step hw4
 have hlist:=vG B g 177 (t.exprs.length+t.ar.length) [.pointer (some ⟨g2,0,none⟩), .pointer (some ⟨g3,0,none⟩)] (nX t.op) bs (jm t) _ wr hwl.2 (by omega) hrl (by omega) hrows hjl (by omega) B6
  (fun i u hu W' bs' hwt hwr hlen=>wJ B g (bs.length+60000) g2 g3 i c c' A A' t bs' u w W' hrec hv h200 hbt ((wt.wt hwt).to hBW) (k2.wt hwt) (k3.wt hwt) hwr (by omega) (by omega) hu)
 refine Zc (Ze Tryz.func175) (hlist) ?_;clear wr;rintro e w5 ⟨⟨_,rfl⟩,fw5,wr⟩;refine⟨_,rfl,?_⟩;replace wt:=wt.wt fw5;refine bp 0 1 2 3 5 19 25 (ab.ai ?_);refine ab.eP rfl (.inr rfl) ?_;rw[hT];exact⟨⟨_,rfl⟩,wt,by simpa only[List.append_assoc] using wr⟩
theorem vk (t:Tm)(A A':Option Addr)(B g g1 c c':Nat)(w W:World)(hbt:bW t=true)(h200:t.nodes≤200)(hrep:fv w B t (.agg #[.int .i64 t.op, .string (strOf t.name), .slice A t.exprs.length c, .slice A' t.ar.length c'])) (hb:Below B w W) (k1:aH W g1 71 #[.int .i64 t.op, .string (strOf t.name), .slice A t.exprs.length c, .slice A' t.ar.length c']) (wr:Bw W B g []):
  Calls Tryz.prog 130 #[.pointer (some ⟨g,0,none⟩), .pointer (some ⟨g1,0,none⟩)] W (gT B g (et t) W):=by
 have hdn:=t.bh;have hex:=yf t.nodes t B g [] _ W (Nat.le_refl _) h200 hbt (hrep.below hb) wr (by simp only[List.length_nil];omega);rw[List.nil_append] at hex;have wt:=Wt.refl B W;refine Zs 6 Tryz.func130 ?_;refine Zr ?_;refine Zm ?_;refine ZW 4 Tryz.underlying71 k1 ?_;refine Zc (Ze Tryz.func131) (hex) ?_;clear wr;rintro e w1 ⟨⟨_,rfl⟩,fw1,wr⟩;refine⟨_,rfl,?_⟩;replace wt:=wt.wt fw1;refine dM 0 1 ?_;refine ab.eP rfl (.inr rfl) ?_;exact⟨⟨_,rfl⟩,wt,wr⟩
theorem Ba:∀args w,(callFunc 130 args).run Tryz.prog w= .ok (.enter 130 args) w:=fun args w=>aO Tryz.func130 (by kernel_rfl) rfl args w
theorem kx {t:Tm}(h:bV t=true):t.nodes≤200∧t.depth≤16∧bW t=true:=by
 unfold bV at h;simp at h;exact⟨h.1.1,h.1.2,h.2⟩
def kD (t:Tm):List Nat:=if bV t=true then et t else []
theorem yi (t:Tm):(kD t).length≤1000000:=by
 unfold kD;split
 ·rename_i h
  obtain⟨h1,h2,h3⟩:=kx h;have:=(kU t.nodes t (Nat.le_refl _) h3).1;omega
 ·simp
theorem lJ (t:Tm)(v:Value)(w:World)(hd:t.depth≤900)(hrep:fv w w.heap.size t v):Calls Tryz.prog 82 #[v] w fun en w'=>en= .returned (.tuple #[.string (strOf (eX (bV t) (kD t)).1), .int .i64 (eX (bV t) (kD t)).2])∧Grow w w':=by
 obtain⟨A,c,A',c',rfl,hv⟩:=hrep.open;have bel:=Below.refl w.heap.size w;have hre:∀W,Below w.heap.size w W→Calls Tryz.prog 99 #[.agg #[.int .i64 t.op, .string (strOf t.name), .slice A t.exprs.length c, .slice A' t.ar.length c']] W fun en w'=>en= .returned (.bool (bV t))∧Grow W w':=fun W hb=>rV t w.heap.size _ W hd (hrep.below hb) hb.size;refine Zs 10 Tryz.func82 ?_;refine aj ?_;refine Seq.box rfl rfl rfl rfl rfl ?_;intro g1 w1 n1;have e1:=Nat.le_trans bel.size n1.ge;replace bel:=bel.step n1.below;have k1:=n1.ao;refine Za ?_;refine Za ?_;refine aZ 0 1 2 3 (aB ?_);refine ZW 4 Tryz.underlying71 k1 ?_;refine Zc (Ze Tryz.func99) (hre _ bel) ?_;rintro en w5 ⟨rfl,hb5⟩;refine⟨_,rfl,?_⟩;replace bel:=bel.step hb5;replace k1:=k1.step hb5;refine Zv (aa.makeFunc (v:= .func (.func 130) #[] #[.pointer (some ⟨g1,0,none⟩)]) rfl (show gR _ _=some [] from rfl) (show gR _ _=some [.pointer (some ⟨g1,0,none⟩)] from rfl) rfl) ?_;refine Zc (Ze Tryz.func129) (ou (bV t) (kD t) 130 [.pointer (some ⟨g1,0,none⟩)] _ Ba (yi t) (fun hr W g hb hw=>by unfold kD;rw[if_pos hr];obtain⟨h1,h2,h3⟩:=kx hr;exact vk t A A' _ g g1 c c' _ W h3 h1 ((hrep.below bel).more bel.size) hb (k1.step hb) hw)) ?_;rintro en w6 ⟨rfl,hb6⟩;refine⟨_,rfl,?_⟩;replace bel:=bel.step hb6;replace k1:=k1.step hb6;refine Zx ?_;refine Zx ?_;refine Za ?_;refine Za ?_;refine aZ 0 1 2 3 (Zt (Cd.ret ?_));refine dO ?_;exact⟨rfl,bel⟩
inductive Rs (α:Type) where
 |out
 |bad (pos:Nat) (over:Bool)
 |ok (a:α) (pos:Nat)
def Rs.bind {α β:Type}(r:Rs α)(f:α→Nat→Rs β):Rs β:=match r with
 | .out=> .out
 | .bad p o=> .bad p o
 | .ok a p=>f a p
section
variable {α β:Type}
theorem Rs.gw (a:α)(p:Nat)(f:α→Nat→Rs β):(Rs.ok a p).bind f=f a p:=rfl
theorem Rs.bind_assoc {γ:Type}(r:Rs α)(f:α→Nat→Rs β)(g:β→Nat→Rs γ):(r.bind f).bind g=r.bind fun a p=>(f a p).bind g:=by cases r<;>rfl
theorem Rs.fC {r:Rs α}{f:α→Nat→Rs β}(h:r.bind f≠ .out):r≠ .out:=fun e=>h (by rw[e];rfl)
theorem Rs.de {r:Rs α}(h:r≠ .out):(∃p o,r= .bad p o)∨∃a p,r= .ok a p:=by
 cases r with
 |out=>exact absurd rfl h
 |bad p o=>exact .inl ⟨p,o,rfl⟩
 |ok a p=>exact .inr ⟨a,p,rfl⟩
end
def fT (ws:List Wd)(p:Nat):Wd:=ws.getD p ⟨-1,[],0,0⟩
def zN (ws:List Wd)(p:Nat)(s:List Nat):Bool:=decide ((fT ws p).kind=0)&&decide ((fT ws p).text=s)
def fy (ws:List Wd)(s:List Nat)(p:Nat):Rs Unit:=if zN ws p s=true then .ok () (p+1) else .bad p false
def fG (p d:Nat):Rs Unit:=if 64<d+1 then .bad p true else .ok () p
def cS:Nat→List (List Nat)
 |0=>[[124]]
 |1=>[[38]]
 |2=>[[60],[60,61],[61],[33,61],[62,61],[62]]
 |3=>[[43],[45]]
 |4=>[[42],[47]]
 |_=>[]
def jV:Nat→List Int
 |0=>[18]
 |1=>[17]
 |2=>[11,12,13,14,15,16]
 |3=>[5,6]
 |4=>[7,8]
 |_=>[]
def opAt (ws:List Wd)(lvl p:Nat):Option Int:=if(fT ws p).kind≠0 then none else if(fT ws p).text∈cS lvl then(jV lvl)[(cS lvl).idxOf (fT ws p).text]? else none
def C4 (op:Int)(a b:Ex):Ex:= .mk op 0 [] [a,b]
def Eg:List Nat:=[100,97,121]
def DX:List Nat:=[109,105,110]
def D8:List Nat:=[109,97,120]
def Fp:List Nat:=[105,102]
def Ah:List Nat:=[122,101,114,111]
def El:List Nat:=[111,110,101]
def dA {α:Type}(ws:List Wd):List (Nat→Nat→Rs α)→Bool→Nat→Nat→Rs (List α)
 | [],_,p,_=> .ok [] p
 |one::r,first,p,d=>(if first=true then Rs.ok () p else fy ws [44] p).bind fun _ p=>(one p d).bind fun x p=>(dA ws r false p d).bind fun xs p=> .ok (x::xs) p
def cR {α:Type}(ws:List Wd)(bQ:List (Nat→Nat→Rs α))(p d:Nat):Rs (List α):=(fy ws [40] p).bind fun _ p=>(fG p d).bind fun _ p=>(dA ws bQ true p (d+1)).bind fun xs p=>(fy ws [41] p).bind fun _ p=> .ok xs p
def eK (ws:List Wd)(E0:Nat→Nat→Rs Ex)(op:Int)(k p d:Nat):Rs Ex:=(cR ws (List.replicate k E0) (p+1) d).bind fun xs p=> .ok (.mk op 0 [] xs) p
def fW (ws:List Wd)(p:Nat):Rs (List Nat):=if(fT ws p).kind=3∧dD (fT ws p).text=false then .ok (fT ws p).text (p+1) else .bad p false
def j0 (ws:List Wd)(E0:Nat→Nat→Rs Ex)(p d:Nat):Rs Ex:=
 if(fT ws p).kind=1 then .ok (.mk 1 (fT ws p).n [] []) (p+1)
 else if(fT ws p).kind=2 then .ok (.mk 2 (fT ws p).n [] []) (p+1)
 else if(fT ws p).kind=3 then
  if(fT ws p).text=Eg then .ok (.mk 4 0 [] []) (p+1)
  else if(fT ws p).text=DX then eK ws E0 9 2 p d
  else if(fT ws p).text=D8 then eK ws E0 10 2 p d
  else if(fT ws p).text=Fp then eK ws E0 21 3 p d
  else(fW ws p).bind fun nm p=> .ok (.mk 3 0 nm []) p
 else if(fT ws p).kind=0 then(cR ws [E0] p d).bind fun xs p=> .ok (xs.getD 0 (.mk 0 0 [] [])) p
 else .bad p false
def gI (S:Nat→Nat→Rs Ex)(op:Int)(p d:Nat):Rs Ex:=(fG p d).bind fun _ p=>(S (p+1) (d+1)).bind fun x p=> .ok (.mk op 0 [] [x]) p
def ec (ws:List Wd)(S:Nat→Nat→Rs Ex)(E0:Nat→Nat→Rs Ex)(p d:Nat):Rs Ex:=
 if zN ws p [33]=true then gI S 19 p d else if zN ws p [45]=true then gI S 20 p d else j0 ws E0 p d
structure PF where
 E:Nat→Nat→Nat→Rs Ex
 L:Nat→Ex→Nat→Nat→Rs Ex
 S:Nat→Nat→Rs Ex
def sX (L:Nat→Ex→Nat→Nat→Rs Ex)(S:Nat→Nat→Rs Ex):Nat→Nat→Nat→Rs Ex
 |0,p,d=>S p d
 |j+1,p,d=>(sX L S j p d).bind fun x p=>L (4-j) x p d
def fX (ws:List Wd)(f:PF)(lvl:Nat)(left:Ex)(p d:Nat):Rs Ex:=match opAt ws lvl p with
 |none=> .ok left p
 |some op=>(f.E (lvl+1) (p+1) d).bind fun r p=>if lvl=2 then .ok (C4 op left r) p else f.L lvl (C4 op left r) p d
def Fc (ws:List Wd)(f:PF):PF where
 E:=fun lvl p d=>sX (fX ws f) (ec ws f.S (f.E 0)) (5-lvl) p d
 L:=fX ws f
 S:=ec ws f.S (f.E 0)
def bM (ws:List Wd):Nat→PF
 |0=>⟨fun _ _ _=> .out,fun _ _ _ _=> .out,fun _ _=> .out⟩
 |n+1=>Fc ws (bM ws n)
theorem Df (ws:List Wd)(n lvl p d:Nat)(h:lvl<5):(bM ws (n+1)).E lvl p d=((bM ws (n+1)).E (lvl+1) p d).bind fun x p=>(bM ws (n+1)).L lvl x p d:=by
 show sX (fX ws (bM ws n)) (ec ws (bM ws n).S ((bM ws n).E 0)) (5-lvl) p d=(sX (fX ws (bM ws n)) (ec ws (bM ws n).S ((bM ws n).E 0)) (5-(lvl+1)) p d).bind _;have e:5-lvl=(5-(lvl+1))+1:=by omega
 have e2:4-(5-(lvl+1))=lvl:=by omega
 rw[e,sX,e2];rfl
def fH (t:List Nat):Int × Nat × Nat:=
 if t=[103,105,118,101] then(3,0,1) else if t=[97,110,100] then(4,0,2) else if t=[111,114] then(5,0,2) else if t=[115,99,97,108,101] then(6,1,1)
 else if t=[119,104,101,110] then(7,1,1) else if t=[117,110,116,105,108] then(8,1,1) else if t=[97,110,121,116,105,109,101] then(9,1,1) else(0,0,0)
abbrev Part:=Ex ⊕ Tm
def Rs.map {α β:Type}(r:Rs α)(f:α→β):Rs β:=r.bind fun a p=> .ok (f a) p
def jW (E0:Nat→Nat→Rs Ex)(T:Nat→Nat→Rs Tm)(n m:Nat):List (Nat→Nat→Rs Part):=List.replicate n (fun p d=>(E0 p d).map .inl)++List.replicate m (fun p d=>(T p d).map .inr)
def fh (l:List Part):List Ex:=l.filterMap fun x=>match x with| .inl e=>some e| .inr _=>none
def dZ (l:List Part):List Tm:=l.filterMap fun x=>match x with| .inl _=>none| .inr t=>some t
def iP (ws:List Wd)(E0:Nat→Nat→Rs Ex)(T:Nat→Nat→Rs Tm)(p d:Nat):Rs Tm:=
 if(fT ws p).kind≠3 then .bad p false
 else if(fT ws p).text=Ah then .ok (.mk 1 [] [] []) (p+1)
 else if(fT ws p).text=El then(cR ws [fun p _=>fW ws p] (p+1) d).bind fun xs p=> .ok (.mk 2 (xs.getD 0 []) [] []) p
 else if(fH (fT ws p).text).1=0 then .bad p false
 else(cR ws (jW E0 T (fH (fT ws p).text).2.1 (fH (fT ws p).text).2.2) (p+1) d).bind fun xs q=> .ok (.mk (fH (fT ws p).text).1 [] (fh xs) (dZ xs)) q
def nN (ws:List Wd):Nat→Nat→Nat→Rs Tm
 |0,_,_=> .out
 |n+1,p,d=>iP ws ((bM ws (n+1)).E 0) (nN ws n) p d
section
variable {P:Program} {ops:Array Oper} {Q:Exit→Act→World→Prop} {rest:List Oper} {o:Oper} {n d:Nat} {F F':List (Nat × Value)} {w w':World} {v:Value}
theorem Seq.cw {I:Inhabited (List Deferred)}{f:FuncId}{args:Array Value}{R:Ending→World→Prop}(he:Enters P (eO F) o w f args)(hg:o.guard=none)(hc:Calls P f args w R)
  (h:∀e w',R e w'→∃ch,e= .panicked ch∧ab Q (.panic ch) n F w'):Seq P ops Q (o::rest) n F w:=by
 intro a ha;refine wpList_plain hg fun K hK=> ?_;unfold Oper.wp;rw[he a.eval ha.ev,Oper.upon_enter];refine hc.mono fun e w' hR=> ?_;obtain⟨ch,rfl,hp⟩:=h e w' hR;exact hp _ ha
theorem Seq.En {I:Inhabited (List Deferred)}{x:Operand}{u:Value}(ho:o.op= .panic x)(hx:eO F x=some v)(hg:o.guard=none)(hr:(Instr.panic v).run P w= .halt (.panic u) w)(h:ab Q (.panic [{v:=u,recovered:=false}]) n F w):Seq P ops Q (o::rest) n F w:=by
 intro a ha;refine wpList_plain hg fun K hK=> ?_;unfold Oper.wp
 have:(execOp a.eval o).run P w= .halt (.panic u) w:=by
  unfold execOp;simp only[ho];rw[ha.ev _ _ hx];simp only[Sem.run_bind,hr];rfl
 rw[this,Oper.upon_panic];exact h _ ha
end
structure Fz (h g:Nat)(w w':World):Prop where
 os:w'.os=w.os
 tape:w'.tape=w.tape
 output:w'.output=w.output
 size:w.heap.size≤w'.heap.size
 block:∀k,k<h→k≠g→w'.heap[k]? =w.heap[k]?
class PutAt (E:Prop) (h g g':Nat):Prop where
 ok:E→h≤g'∨g'=g
instance {h g g':Nat}:PutAt (h≤g') h g g':=⟨.inl⟩
instance {h g g':Nat}:PutAt (g'=g) h g g':=⟨.inr⟩
section
variable {h g:Nat} {w w' w'':World}
theorem Fz.refl (h g:Nat)(w:World):Fz h g w w:=⟨rfl,rfl,rfl,Nat.le_refl _,fun _ _ _=>rfl⟩
theorem Fz.trans (a:Fz h g w w')(b:Fz h g w' w''):Fz h g w w'':=⟨b.os.trans a.os,b.tape.trans a.tape,b.output.trans a.output,Nat.le_trans a.size b.size,fun k hk hne=>(b.block k hk hne).trans (a.block k hk hne)⟩
theorem Fz.less {h':Nat}(a:Fz h g w w')(hh:h'≤h):Fz h' g w w':=⟨a.os,a.tape,a.output,a.size,fun k hk=>a.block k (by omega)⟩
theorem Fz.of (hb:Below h w w'):Fz h g w w':=⟨hb.os,hb.tape,hb.output,hb.size,fun k hk _=>hb.block k hk⟩
theorem Fz.step (a:Fz h g w w')(hb:Below w'.heap.size w' w'')(hh:h≤w.heap.size:=by exact Nat.le_refl _):Fz h g w w'':=a.trans (Fz.of (hb.mono (Nat.le_trans hh a.size)))
theorem Fz.call (a:Fz h g w w')(b:Fz w'.heap.size g w' w'')(hh:h≤w.heap.size:=by exact Nat.le_refl _):Fz h g w w'':=a.trans (b.less (Nat.le_trans hh a.size))
theorem Fz.put {g':Nat}{T:TypeId}{cur cs:Array Value}{E:Prop}[at_:PutAt E h g g'](a:Fz h g w w')(_k:aH w' g' T cur)(p:hZ w' w'' g' T cs)(e:E):Fz h g w w'':=
 a.trans ⟨p.grown.os,p.grown.tape,p.grown.output,p.grown.size,fun k hk hne=>by
  rcases Nat.lt_or_ge k w'.heap.size with hs|hs
  ·exact p.grown.block k hs (fun e'=>by injection e' with e';rcases at_.ok e with h1|h1<;>omega)
  ·have h1:w'.heap[k]? =none:=by simpa using hs
   have h2:w''.heap[k]? =none:=by have:=p.size;simp;omega
   rw[h1,h2]⟩
theorem Fz.below {B:Nat}(a:Fz h g w w')(h1:B≤h)(h2:B≤g):Below B w w':=⟨a.os,a.tape,a.output,a.size,fun k hk=>a.block k (by omega) (by omega)⟩
theorem aH.fz {k:Nat}{T:TypeId}{cs:Array Value}(b:aH w k T cs)(a:Fz w.heap.size g w w')(hne:k≠g:=by omega):aH w' k T cs:=by
 have h1:=a.block k b.lt hne;unfold aH at b⊢;rw[h1];exact b
end
structure Ctx where
 B:Nat
 g:Nat
 c:Nat
 en:Nat
 A:Option Addr
 ws:List Wd
structure Ctx.Ok (K:Ctx):Prop where
 le:K.B≤K.g
 len:K.ws.length≤4000
 en:K.en≤4000
 word:∀x∈K.ws,bw x.kind∧bw x.n∧(∀c∈x.text,c<256)∧x.text.length≤4000∧x.pos≤4000
def Ctx.at_ (K:Ctx)(p:Nat):Wd:=K.ws.getD p ⟨-1,[],0,K.en⟩
def Ew (x:Wd):Value:= .agg #[.int .i64 x.kind, .string (strOf x.text), .int .i64 x.n, .int .i64 (x.pos:Int)]
theorem Ctx.lz (K:Ctx)(p:Nat):(K.at_ p).kind=(fT K.ws p).kind∧(K.at_ p).text=(fT K.ws p).text∧(K.at_ p).n=(fT K.ws p).n:=by
 unfold Ctx.at_ fT;rw[List.getD_eq_getElem?_getD,List.getD_eq_getElem?_getD]
 cases K.ws[p]? <;>exact⟨rfl,rfl,rfl⟩
theorem Ctx.Ok.at_ {K:Ctx}(h:K.Ok)(p:Nat):bw (K.at_ p).kind∧bw (K.at_ p).n∧(∀c∈(K.at_ p).text,c<256)∧(K.at_ p).text.length≤4000∧(K.at_ p).pos≤4000:=by
 unfold Ctx.at_;rw[List.getD_eq_getElem?_getD]
 cases hp:K.ws[p]? with
 |none=>exact⟨show bw (-1) by unfold bw;decide,show bw 0 by unfold bw;decide,by simp,by simp,h.en⟩
 |some x=>exact h.word x (List.mem_of_getElem? hp)
structure PW (K:Ctx)(w:World)(p d:Nat)(ov:Bool):Prop where
 ao:aH w K.g 219 #[.slice K.A K.ws.length K.c, .int .i64 (p:Int), .int .i64 (d:Int), .bool ov, .int .i64 (K.en:Int)]
 rd:Reads w K.B 4 K.A K.ws.length (fB K.ws)
 dy:p≤K.ws.length
 dP:d≤64∨(ov=true∧d≤65)
theorem PW.step {K:Ctx}{w w':World}{p d:Nat}{ov:Bool}(h:PW K w p d ov)(hk:K.B≤K.g)(hb:Below w.heap.size w w'):PW K w' p d ov:=⟨h.ao.step hb,h.rd.below (hb.mono (by have:=h.ao.lt;omega)),h.dy,h.dP⟩
def nf:List PanicEntry:=[{v:= .iface 261 (.agg #[]),recovered:=false}]
def uT {α:Type}(K:Ctx)(h:Nat)(w:World)(d:Nat)(r:Rs α)(okv:α→Value→World→Prop)(e:Ending)(w':World):Prop:=
 Fz h K.g w w'∧match r with
 | .out=>False
 | .bad p ov=>e= .panicked nf∧∃d,PW K w' p d ov
 | .ok a p=>∃v,e= .returned v∧PW K w' p d false∧okv a v w'
abbrev PR {α:Type}(K:Ctx)(w:World)(d:Nat)(r:Rs α)(okv:α→Value→World→Prop)(e:Ending)(w':World):Prop:=uT K w.heap.size w d r okv e w'
theorem aa.CS {P:Program}{E:Operand→Option Value}{o:Oper}{w:World}{x:Operand}{T:TypeId}{v u:Value}(ho:o.op= .makeInterface T x)(hx:E x=some v)(hr:(Instr.makeInterface T v).run P w= .ok u w):aa P E o w u w:=fun ρ h=>by
 unfold execOp;simp only[ho];rw[h _ _ hx];simp only[Sem.run_bind,hr,Result.andThen_ok];rfl
theorem qg (w:World):(Instr.build 261 #[]).run Tryz.prog w= .ok (.agg #[]) w:=by kernel_rfl
theorem jy (g:Nat)(w:World):Calls Tryz.prog 165 #[.pointer (some ⟨g,0,none⟩)] w fun e w'=>e= .panicked nf∧Grow w w':=by
 have bel:=Below.refl w.heap.size w;refine Zs 4 Tryz.func165 ?_;refine Zr ?_;refine Zv (aa.build rfl rfl (qg _)) ?_;refine Zv (aa.CS (u:= .iface 261 (.agg #[])) rfl rfl (by kernel_rfl)) ?_;refine Seq.En rfl rfl rfl (by rfl) ?_;exact fun a ha=>⟨ha.defers,rfl,bel⟩
theorem nU:∀(ws:List Wd) (p:Nat) (x:Wd),ws[p]? =some x→∀(q:Nat) (u:Value),([.int .i64 x.kind, .string (strOf x.text), .int .i64 x.n, .int .i64 (x.pos:Int)]:List Value)[q]? =some u→(fB ws)[p*4+q]? =some u
 | [],p,x,h,_,_,_=>by simp at h
 |y::r,0,x,h,q,u,hu=>by
  simp at h;subst h;have hq:=(List.getElem?_eq_some_iff.1 hu).1;rw[Nat.zero_mul,Nat.zero_add];show(([.int .i64 y.kind, .string (strOf y.text), .int .i64 y.n, .int .i64 (y.pos:Int)]:List Value)++fB r)[q]? =some u;rw[List.getElem?_append_left hq];exact hu
 |y::r,p+1,x,h,q,u,hu=>by
  have ih:=nU r p x (by simpa using h) q u hu;show(([.int .i64 y.kind, .string (strOf y.text), .int .i64 y.n, .int .i64 (y.pos:Int)]:List Value)++fB r)[(p+1)*4+q]? =some u;rw[List.getElem?_append_right (by simp;omega),←ih];congr 1;simp;omega
theorem qu (a d:Int)(w:World):(Instr.build 221 #[(0, .int .i64 a),(3, .int .i64 d)]).run Tryz.prog w= .ok (.agg #[.int .i64 a, .string (strOf []), .int .i64 0, .int .i64 d]) w:=by
 have hu:=Tryz.underlying221
 go_simp
 rfl
theorem gy (K:Ctx)(hK:K.Ok)(p d:Nat)(ov:Bool)(w:World)(h:PW K w p d ov):Calls Tryz.prog 164 #[.pointer (some ⟨K.g,0,none⟩)] w fun e w'=>e= .returned (Ew (K.at_ p))∧Grow w w':=by
 have bel:=Below.refl w.heap.size w;have k99:=h.ao;have hrd:=h.rd;have hlt:=h.ao.lt;have hBg:=hK.le;refine Zs 28 Tryz.func164 ?_;refine aj ?_;refine Zl bA ?_;intro g2 w1 n2;have e2:=Nat.le_trans bel.size n2.ge;have l2:=Nat.lt_of_lt_of_le k99.lt n2.ge;replace bel:=bel.step n2.below;replace k99:=k99.step n2.below;have k2:=n2.ao;refine dM 0 2 (aJ (Cd.seq ?_));refine fV 9 ?_;intro w2 hw2 zw2;replace bel:=bel.step hw2;replace k99:=k99.step hw2;replace k2:=k2.step hw2;have zbel:=bel.size;have zlt:=k2.lt;refine eJ ?_;refine Zd (fun w hG=>aa.nilCheck rfl rfl) ?_;refine fp 1 Tryz.underlying219 ?_;refine eH Tryz.underlying3 k99 ?_;refine eJ ?_;refine Zd (fun w hG=>aa.nilCheck rfl rfl) ?_;refine fp 0 Tryz.underlying219 ?_;refine eH Tryz.underlying215 k99 ?_;refine Zd (fun w hG=>aa.len rfl rfl Tryz.underlying215) ?_;refine Dr.nil ?_;refine br.done (F':=[(0,_),(2,_),(6,_),(11,_)]) rfl ⟨rfl,rfl,rfl,rfl,trivial⟩ ?_;intro w3 hw3 fw3;replace bel:=bel.step hw3;replace k99:=k99.step hw3;replace k2:=k2.step hw3;refine ff ?_;refine bu 0 2 12 (Zt ?_);refine Cd.au rfl (fun hc=> ?_) (fun hc=> ?_)
 ·obtain⟨ad,hA,hadb,hcell⟩:=hrd.2 (by omega)
  obtain⟨x,hx⟩:∃x,K.ws[p]? =some x:=⟨_,List.getElem?_eq_getElem (by omega)⟩;have hat:K.at_ p=x:=by unfold Ctx.at_;rw[List.getD_eq_getElem?_getD,hx];rfl
  have hce:∀W,Below w.heap.size w W→∀(q:Nat) (u:Value),([.int .i64 x.kind, .string (strOf x.text), .int .i64 x.n, .int .i64 (x.pos:Int)]:List Value)[q]? =some u→W.cell? ((ad.add (p*4)).add q)=some u:=fun W hb q u hu=>by
   rw[(hb.mono (show K.B≤w.heap.size by omega)).cell (by rw[ag,ag];exact hadb),bK];exact hcell _ _ (nU K.ws p x hx q u hu)
  rw[hA] at k99;refine Cd.seq ?_;refine fV 8 ?_;intro w4 hw4 zw4;replace bel:=bel.step hw4;replace k99:=k99.step hw4;replace k2:=k2.step hw4;have zbel:=bel.size;have zlt:=k2.lt;refine eJ ?_;refine Zd (fun w hG=>aa.nilCheck rfl rfl) ?_;refine fp 0 Tryz.underlying219 ?_;refine eH Tryz.underlying215 k99 ?_;refine eJ ?_;refine Zd (fun w hG=>aa.nilCheck rfl rfl) ?_;refine fp 1 Tryz.underlying219 ?_;refine eH Tryz.underlying3 k99 ?_;refine Dr.nil ?_;refine br.done (F':=[(0,_),(2,_),(12,_),(16,_),(20,_)]) rfl ⟨rfl,rfl,rfl,rfl,rfl,trivial⟩ ?_;intro w5 hw5 fw5;replace bel:=bel.step hw5;replace k99:=k99.step hw5;replace k2:=k2.step hw5;refine Zv (aa.aR rfl rfl rfl Tryz.underlying215 (s:=4) (by kernel_rfl) (j:=p) rfl (by omega)) ?_;refine Zv (aa.bP (ps:=[.int .i64 x.kind, .string (strOf x.text), .int .i64 x.n, .int .i64 (x.pos:Int)]) rfl rfl Tryz.underlying221 rfl (m:=4) (by kernel_rfl) rfl (hce _ bel)) ?_;refine Zo 4 k2 ?_;intro w6 pw6;replace bel:=bel.put k2 pw6 e2;replace k99:=k99.put pw6 (by omega);replace k2:=pw6.ao;refine bu 0 2 12 (Zt (Cd.ret (ab.af ?_)));refine jU 4 k2 Tryz.underlying221 ?_;rw[hat];exact⟨rfl,bel⟩
 ·have hat:K.at_ p=⟨-1,[],0,K.en⟩:=by
   unfold Ctx.at_;rw[List.getD_eq_getElem?_getD,List.getElem?_eq_none (by omega)];rfl
  refine Cd.skip (aB ?_);refine Zm ?_;refine Zv (aa.nilCheck rfl rfl) ?_;refine Zf 4 Tryz.underlying219 ?_;refine ZL Tryz.underlying3 k99 ?_;refine Zv (aa.build rfl rfl (qu (-1) _ _)) ?_;refine Zo 4 k2 ?_;intro w4 pw4;replace bel:=bel.put k2 pw4 e2;replace k99:=k99.put pw4 (by omega);replace k2:=pw4.ao;refine bu 0 2 12 (Zt (Cd.ret ?_));refine jU 4 k2 Tryz.underlying221 ?_;rw[hat];exact⟨rfl,bel⟩
theorem zZ (K:Ctx)(hK:K.Ok)(p d:Nat)(ov:Bool)(k:Int)(s:List Nat)(w:World)(h:PW K w p d ov)(hs:∀x∈s,x<256):Calls Tryz.prog 221 #[.pointer (some ⟨K.g,0,none⟩), .int .i64 k, .string (strOf s)] w fun e w'=>e= .returned (.bool (decide ((fT K.ws p).kind=k)&&decide ((fT K.ws p).text=s)))∧Grow w w':=by
 have bel:=Below.refl w.heap.size w;obtain⟨a1,a2,a3,a4,a5⟩:=hK.at_ p;obtain⟨b1,b2,b3⟩:=K.lz p;rw[←b1,←b2];have hw:=fun W (hb:Below w.heap.size w W)=>gy K hK p d ov W (h.step hK.le hb);unfold Ew at hw;refine Zs 20 Tryz.func221 ?_;refine aj ?_;refine Za ?_;refine aZ 0 1 2 6 (aB ?_);refine Zm ?_;refine Zc (Ze Tryz.func164) (hw _ bel) ?_;rintro e w5 ⟨rfl,hb5⟩;refine⟨_,rfl,?_⟩;replace bel:=bel.step hb5;refine Zl bA ?_;intro g7 w1 n7;have e7:=Nat.le_trans bel.size n7.ge;replace bel:=bel.step n7.below;have k7:=n7.ao;refine Zo 4 k7 ?_;intro w2 pw2;replace bel:=bel.put k7 pw2 e7;replace k7:=pw2.ao;refine aU 0 1 2 6 7 (aB ?_);refine Zf 0 Tryz.underlying221 ?_;refine ZL Tryz.underlying3 k7 ?_;refine Zm ?_;refine bq ?_;refine Zm ?_;refine av.start ?_;refine bk (fun hcx=>aa.ak 1 rfl rfl Tryz.underlying221 rfl (by kernel_rfl)) ?_;refine Zn (fun hcx=>aa.an rfl rfl Tryz.underlying9 rfl k7 rfl) ?_;refine jl ?_;refine Zn (fun hcx=>aa.dq rfl rfl rfl a3 hs) ?_;refine ep ?_;refine Za ?_;refine aU 0 1 2 6 7 (Zt (Cd.ret ?_));refine aX ?_;exact⟨rfl,bel⟩
theorem PW.next {K:Ctx}{w w':World}{p d:Nat}{ov:Bool}(h:PW K w p d ov)(hK:K.B≤K.g)(hp:p+1≤K.ws.length)(bel:Fz w.heap.size K.g w w')(hb:aH w' K.g 219 #[.slice K.A K.ws.length K.c, .int .i64 ((p:Int)+1), .int .i64 (d:Int), .bool ov, .int .i64 (K.en:Int)]):PW K w' (p+1) d ov:=
 ⟨by rw[Int.natCast_add];exact hb,h.rd.below (bel.below (by have:=h.ao.lt;omega) hK),hp,h.dP⟩
theorem nD (K:Ctx)(hK:K.Ok)(p d:Nat)(s:List Nat)(w:World)(h:PW K w p d false)(hs:∀x∈s,x<256):Calls Tryz.prog 208 #[.pointer (some ⟨K.g,0,none⟩), .string (strOf s)] w (PR K w d (fy K.ws s p) fun _ _ _=>True):=by
 have bel:=Fz.refl w.heap.size K.g w;have k99:=h.ao;have e99:K.g=K.g:=rfl;have hlt:=h.ao.lt;have hlen:=hK.len;have hle:=h.dy;have hw:=zZ K hK p d false 0 s w h hs;have hq:fy K.ws s p=if(decide ((fT K.ws p).kind=0)&&decide ((fT K.ws p).text=s))=true then .ok () (p+1) else .bad p false:=rfl;refine Zs 17 Tryz.func208 ?_;refine Cd.seq (aj ?_);refine Zm ?_;refine Zm ?_;refine Zc (Ze Tryz.func221) (hw) ?_;rintro e w5 ⟨rfl,hb5⟩;refine⟨_,rfl,?_⟩;replace bel:=bel.step hb5;replace k99:=k99.step hb5;refine iC ?_;refine bu 0 1 7 (Zt ?_);refine Cd.cond rfl (fun hc=> ?_) (fun hc=> ?_)
 ·have hc:¬(decide ((fT K.ws p).kind=0)&&decide ((fT K.ws p).text=s))=true:=by rw[Bool.not_eq_true];simpa only[Bool.not_eq_true'] using hc
  rw[if_neg hc] at hq;refine Zr ?_;refine Zm ?_;refine Seq.cw (Ze Tryz.func165) rfl (jy K.g _) ?_;rintro e w6 ⟨rfl,hb6⟩;refine⟨_,rfl,fun a ha=>⟨ha.defers,?_⟩⟩;rw[hq];exact⟨bel.step hb6,rfl,d,⟨k99.step hb6,h.rd.below ((bel.step hb6).below (by have:=hK.le;omega) hK.le),h.dy,h.dP⟩⟩
 ·have hc:(decide ((fT K.ws p).kind=0)&&decide ((fT K.ws p).text=s))=true:=by simpa only[Bool.not_eq_false'] using hc
  rw[if_pos hc] at hq
  have hp:p+1≤K.ws.length:=by
   rcases Nat.lt_or_ge p K.ws.length with hp|hp
   ·exact hp
   ·simp only[Bool.and_eq_true,decide_eq_true_eq] at hc
    have h1:fT K.ws p=⟨-1,[],0,0⟩:=by unfold fT;rw[List.getD_eq_getElem?_getD,List.getElem?_eq_none hp];rfl
    rw[h1] at hc;exact absurd hc.1 (by decide)
  refine Cd.skip (dU ?_);refine Zm ?_;refine Zv (aa.nilCheck rfl rfl) ?_;refine Zf 1 Tryz.underlying219 ?_;refine ZL Tryz.underlying3 k99 ?_;refine dt ?_;refine Zv (aa.nilCheck rfl rfl) ?_;refine Zf 1 Tryz.underlying219 ?_;refine Zq k99 ?_;intro w1 pw1;replace bel:=bel.put k99 pw1 e99;replace k99:=pw1.ao;refine bu 0 1 7 ?_;refine ab.eP rfl (.inr rfl) ?_;rw[hq];exact⟨bel,_,rfl,h.next hK.le hp bel k99,trivial⟩
theorem nv (K:Ctx)(hK:K.Ok)(p d:Nat)(w:World)(h:PW K w p d false):Calls Tryz.prog 209 #[.pointer (some ⟨K.g,0,none⟩)] w (PR K w (d+1) (fG p d) fun _ _ _=>True):=by
 have bel:=Fz.refl w.heap.size K.g w;have k99:=h.ao;have e99:K.g=K.g:=rfl;have hlt:=h.ao.lt;have hde:d≤64:=by rcases h.dP with h|⟨h,-⟩;exact h;cases h
 have hle:=hK.le;have hq:fG p d=if 64<d+1 then .bad p true else .ok () p:=rfl;refine Zs 19 Tryz.func209 ?_;refine aj ?_;refine Zm ?_;refine Zv (aa.nilCheck rfl rfl) ?_;refine Zf 2 Tryz.underlying219 ?_;refine ZL Tryz.underlying3 k99 ?_;refine dt ?_;refine Zv (aa.nilCheck rfl rfl) ?_;refine Zf 2 Tryz.underlying219 ?_;refine Zq k99 ?_;intro w1 pw1;replace bel:=bel.put k99 pw1 e99;replace k99:=pw1.ao;refine Es 0 (aB ?_);refine Zm ?_;refine Zv (aa.nilCheck rfl rfl) ?_;refine Zf 2 Tryz.underlying219 ?_;refine ZL Tryz.underlying3 k99 ?_;refine tU ?_;refine dM 0 13 (Zt ?_);refine Cd.au rfl (fun hc=> ?_) (fun hc=> ?_)
 ·rw[if_pos (by omega)] at hq
  refine aj ?_;refine Zm ?_;refine Zv (aa.nilCheck rfl rfl) ?_;refine Zf 3 Tryz.underlying219 ?_;refine Zq k99 ?_;intro w2 pw2;replace bel:=bel.put k99 pw2 e99;replace k99:=pw2.ao;refine dM 0 13 (dU ?_);refine Zm ?_;refine Seq.cw (Ze Tryz.func165) rfl (jy K.g _) ?_;rintro e w6 ⟨rfl,hb6⟩;refine⟨_,rfl,fun a ha=>⟨ha.defers,?_⟩⟩;rw[hq];exact⟨bel.step hb6,rfl,d+1,⟨by have:=k99.step hb6;rw[Int.natCast_add];exact this,h.rd.below ((bel.step hb6).below (by omega) hle),h.dy, .inr ⟨rfl,by omega⟩⟩⟩
 ·rw[if_neg (by omega)] at hq
  refine Cd.skip ?_;refine ab.eP rfl (.inr rfl) ?_;rw[hq];exact⟨bel,_,rfl,⟨by rw[Int.natCast_add];exact k99,h.rd.below (bel.below (by omega) hle),h.dy, .inl (by omega)⟩,trivial⟩
def mr (L:List (List Nat))(s:List Nat):Int:=if s∈L then(L.idxOf s:Int) else -1
theorem vU (L:List (List Nat))(s:List Nat)(A:Option Addr)(c B:Nat)(w:World)(hr:Reads w B 1 A L.length (kr L))(hB:B≤w.heap.size)(hl:L.length≤1000)(hL:∀t∈L,∀x∈t,x<256)(hs:∀x∈s,x<256):
  Calls Tryz.prog 139 #[.slice A L.length c, .string (strOf s)] w fun e w'=>e= .returned (.int .i64 (mr L s))∧Grow w w':=by
 have bel:=Below.refl w.heap.size w;refine Zs 19 Tryz.func139 ?_;refine aj ?_;refine Za ?_;refine bu 0 1 4 (aJ (aj ?_));refine Zm ?_;refine Zv (aa.len rfl rfl Tryz.underlying66) ?_;refine Zm ?_;refine aU 0 1 4 7 8 (Zt (Cd.block ?_));refine Cd.loop (σ:=Nat) (fun k=>[(0, .slice A L.length c),(1, .string (strOf s)),(7, .int .i64 (L.length:Int)),(8, .int .i64 (k:Int))]) (fun k wr=>k≤L.length∧Below w.heap.size w wr∧∀t∈L.take k,t≠s) (fun k=>L.length-k) 0 ⟨Nat.zero_le _,bel,by simp⟩ ⟨rfl,rfl,rfl,rfl,trivial⟩ ?_;clear bel;rintro k wr ⟨hk,bel,hno⟩;refine aj ?_;refine ff ?_;refine aU 0 1 7 8 9 (aJ ?_);refine Cd.au rfl (fun hc=> ?_) (fun hc=> ?_)
 ·obtain⟨t,ht⟩:∃t,L[k]? =some t:=⟨_,List.getElem?_eq_getElem (by omega)⟩
  have hr:=hr.below (bel.mono hB);obtain⟨ad,rfl,-,hc⟩:=hr.2 (by omega);have hc:=hc k (.string (strOf t)) (by simp[kr,ht]);have htk:L.take (k+1)=L.take k++[t]:=by rw[List.take_add_one,ht];rfl
  refine Cd.skip (aJ (Cd.block (aj ?_)));refine Zm ?_;refine Za ?_;refine bl 0 1 5 7 8 9 (aB ?_);refine Zm ?_;refine Zm ?_;refine Zm ?_;refine Zv (aa.dg rfl rfl rfl Tryz.underlying66 (by kernel_rfl) (j:=k) rfl (by omega)) ?_;refine Zv (aa.dF rfl rfl Tryz.underlying9 rfl hc) ?_;refine Zv (aa.dq rfl rfl rfl hs (hL t (List.mem_of_getElem? ht))) ?_;refine bp 0 1 5 7 8 9 16 (Zt ?_);refine Cd.au rfl (fun hc=> ?_) (fun hc=> ?_)
  ·skip
   refine aj ?_;refine Zm ?_;refine Za ?_;refine cn 0 1 4 5 7 8 9 16 (Zt (Cd.ret (ab.ah (ab.af (ab.aL (ab.ah (ab.af ?_)))))));refine aX ?_
   have hi:L.idxOf s=k:=by
    have hlt:=(List.getElem?_eq_some_iff.1 ht).1
    have h1:L=L.take k++t::L.drop (k+1):=by
     rw[List.getElem?_eq_getElem hlt] at ht;injection ht with ht
     rw[←ht,List.getElem_cons_drop,List.take_append_drop]
    rw[h1,List.idxOf_append,if_neg (fun hm=>hno s hm rfl),hc,List.idxOf_cons_self,List.length_take];omega
   unfold mr;rw[if_pos (by rw[hc];exact List.mem_of_getElem? ht),hi];exact⟨rfl,bel⟩
  ·skip
   refine Cd.skip (ab.ai (dU ?_));refine dt ?_;refine Zm ?_;refine bp 0 1 5 7 8 9 16 ?_;refine ab.round (k+1) ⟨rfl,rfl,rfl,rfl,trivial⟩ ⟨by omega,bel,fun u hu=> ?_⟩ (by omega);rw[htk] at hu;rcases List.mem_append.1 hu with hu|hu
   ·exact hno u hu
   ·obtain rfl:=List.mem_singleton.1 hu
    exact fun e=>hc e.symm
 ·obtain rfl:k=L.length:=by omega
  rw[List.take_of_length_le (Nat.le_refl _)] at hno;refine Cd.exit (ab.aA (ab.ay (ab.az (aB ?_))));refine Za ?_;refine bl 0 1 4 7 8 9 (Zt (Cd.ret ?_));refine aX ?_;unfold mr;rw[if_neg fun hm=>hno s hm rfl];exact⟨rfl,bel⟩
structure FR (w:World)(g lvl ga gb c d:Nat)(cs:Array Value):Prop where
 FF:aH w g 248 cs
 s0:cs[lvl*3]? =some (.slice (some ⟨ga,0,none⟩) (cS lvl).length c)
 s1:cs[lvl*3+1]? =some (.slice (some ⟨gb,0,none⟩) (jV lvl).length d)
 s2:cs[lvl*3+2]? =some (.bool (decide (lvl=2)))
 sg:aH w ga 9 (kr (cS lvl)).toArray
 op:aH w gb 3 (DI (jV lvl)).toArray
theorem na:bz Tryz.prog 248=some (some (.agg #[.slice none 0 0, .slice none 0 0, .bool false])):=by kernel_rfl
theorem eC (a b:Addr)(n c m d:Nat)(x:Bool)(w:World):(Instr.build 248 #[(0, .slice (some a) n c),(1, .slice (some b) m d),(2, .bool x)]).run Tryz.prog w= .ok (.agg #[.slice (some a) n c, .slice (some b) m d, .bool x]) w:=by
 have hu:=Tryz.underlying248
 go_simp
theorem qU (w:World):Calls Tryz.prog 195 #[] w fun e w'=>∃g,e= .returned (.slice (some ⟨g,0,none⟩) 5 5)∧Grow w w'∧∀lvl,lvl<5→∃ga gb c d cs,FR w' g lvl ga gb c d cs:=by
 have bel:=Below.refl w.heap.size w;refine Zs 17 Tryz.func195 ?_;refine aj ?_;refine Za ?_;refine Es 0 (aB ?_);refine Seq.slice (vs:=[_]) (s:=1) rfl rfl rfl Tryz.underlying66 (by kernel_rfl) (cJ) (by omega) (by omega) ⟨rfl,trivial⟩ rfl rfl rfl ?_;intro g1 w1 n1;have e1:=Nat.le_trans bel.size n1.ge;replace bel:=bel.step n1.below;have k1:=n1.ao;refine Seq.slice (vs:=[_]) (s:=1) rfl rfl rfl Tryz.underlying96 (by kernel_rfl) (cG) (by omega) (by omega) ⟨rfl,trivial⟩ rfl rfl rfl ?_;intro g2 w2 n2;have e2:=Nat.le_trans bel.size n2.ge;have l2:=Nat.lt_of_lt_of_le k1.lt n2.ge;replace bel:=bel.step n2.below;replace k1:=k1.step n2.below;have k2:=n2.ao;refine Zv (aa.build rfl rfl (eC _ _ _ _ _ _ _ _)) ?_;refine Seq.slice (vs:=[_]) (s:=1) rfl rfl rfl Tryz.underlying66 (by kernel_rfl) (cJ) (by omega) (by omega) ⟨rfl,trivial⟩ rfl rfl rfl ?_;intro g4 w3 n4;have e4:=Nat.le_trans bel.size n4.ge;have l4:=Nat.lt_of_lt_of_le k2.lt n4.ge;replace bel:=bel.step n4.below;replace k1:=k1.step n4.below;replace k2:=k2.step n4.below;have k4:=n4.ao;refine Seq.slice (vs:=[_]) (s:=1) rfl rfl rfl Tryz.underlying96 (by kernel_rfl) (cG) (by omega) (by omega) ⟨rfl,trivial⟩ rfl rfl rfl ?_;intro g5 w4 n5;have e5:=Nat.le_trans bel.size n5.ge;have l5:=Nat.lt_of_lt_of_le k4.lt n5.ge;replace bel:=bel.step n5.below;replace k1:=k1.step n5.below;replace k2:=k2.step n5.below;replace k4:=k4.step n5.below;have k5:=n5.ao;refine Zv (aa.build rfl rfl (eC _ _ _ _ _ _ _ _)) ?_;refine Seq.slice (vs:=[_,_,_,_,_,_]) (s:=1) rfl rfl rfl Tryz.underlying66 (by kernel_rfl) (cJ) (by omega) (by omega) ⟨rfl,rfl,rfl,rfl,rfl,rfl,trivial⟩ rfl rfl rfl ?_;intro g7 w5 n7;have e7:=Nat.le_trans bel.size n7.ge;have l7:=Nat.lt_of_lt_of_le k5.lt n7.ge;replace bel:=bel.step n7.below;replace k1:=k1.step n7.below;replace k2:=k2.step n7.below;replace k4:=k4.step n7.below;replace k5:=k5.step n7.below;have k7:=n7.ao;refine Seq.slice (vs:=[_,_,_,_,_,_]) (s:=1) rfl rfl rfl Tryz.underlying96 (by kernel_rfl) (cG) (by omega) (by omega) ⟨rfl,rfl,rfl,rfl,rfl,rfl,trivial⟩ rfl rfl rfl ?_;intro g8 w6 n8;have e8:=Nat.le_trans bel.size n8.ge;have l8:=Nat.lt_of_lt_of_le k7.lt n8.ge;replace bel:=bel.step n8.below;replace k1:=k1.step n8.below;replace k2:=k2.step n8.below;replace k4:=k4.step n8.below;replace k5:=k5.step n8.below;replace k7:=k7.step n8.below;have k8:=n8.ao;refine Zv (aa.build rfl rfl (eC _ _ _ _ _ _ _ _)) ?_;refine Seq.slice (vs:=[_,_]) (s:=1) rfl rfl rfl Tryz.underlying66 (by kernel_rfl) (cJ) (by omega) (by omega) ⟨rfl,rfl,trivial⟩ rfl rfl rfl ?_;intro g10 w7 n10;have e10:=Nat.le_trans bel.size n10.ge;have l10:=Nat.lt_of_lt_of_le k8.lt n10.ge;replace bel:=bel.step n10.below;replace k1:=k1.step n10.below;replace k2:=k2.step n10.below;replace k4:=k4.step n10.below;replace k5:=k5.step n10.below;replace k7:=k7.step n10.below;replace k8:=k8.step n10.below;have k10:=n10.ao;refine Seq.slice (vs:=[_,_]) (s:=1) rfl rfl rfl Tryz.underlying96 (by kernel_rfl) (cG) (by omega) (by omega) ⟨rfl,rfl,trivial⟩ rfl rfl rfl ?_;intro g11 w8 n11;have e11:=Nat.le_trans bel.size n11.ge;have l11:=Nat.lt_of_lt_of_le k10.lt n11.ge;replace bel:=bel.step n11.below;replace k1:=k1.step n11.below;replace k2:=k2.step n11.below;replace k4:=k4.step n11.below;replace k5:=k5.step n11.below;replace k7:=k7.step n11.below;replace k8:=k8.step n11.below;replace k10:=k10.step n11.below;have k11:=n11.ao;refine Zv (aa.build rfl rfl (eC _ _ _ _ _ _ _ _)) ?_;refine Seq.slice (vs:=[_,_]) (s:=1) rfl rfl rfl Tryz.underlying66 (by kernel_rfl) (cJ) (by omega) (by omega) ⟨rfl,rfl,trivial⟩ rfl rfl rfl ?_;intro g13 w9 n13;have e13:=Nat.le_trans bel.size n13.ge;have l13:=Nat.lt_of_lt_of_le k11.lt n13.ge;replace bel:=bel.step n13.below;replace k1:=k1.step n13.below;replace k2:=k2.step n13.below;replace k4:=k4.step n13.below;replace k5:=k5.step n13.below;replace k7:=k7.step n13.below;replace k8:=k8.step n13.below;replace k10:=k10.step n13.below;replace k11:=k11.step n13.below;have k13:=n13.ao;refine Seq.slice (vs:=[_,_]) (s:=1) rfl rfl rfl Tryz.underlying96 (by kernel_rfl) (cG) (by omega) (by omega) ⟨rfl,rfl,trivial⟩ rfl rfl rfl ?_;intro g14 w10 n14;have e14:=Nat.le_trans bel.size n14.ge;have l14:=Nat.lt_of_lt_of_le k13.lt n14.ge;replace bel:=bel.step n14.below;replace k1:=k1.step n14.below;replace k2:=k2.step n14.below;replace k4:=k4.step n14.below;replace k5:=k5.step n14.below;replace k7:=k7.step n14.below;replace k8:=k8.step n14.below;replace k10:=k10.step n14.below;replace k11:=k11.step n14.below;replace k13:=k13.step n14.below;have k14:=n14.ao;refine Zv (aa.build rfl rfl (eC _ _ _ _ _ _ _ _)) ?_;refine Seq.slice (vs:=[_,_,_,_,_]) (s:=3) rfl rfl rfl Tryz.underlying244 (by kernel_rfl) (na) (by omega) (by omega) ⟨rfl,rfl,rfl,rfl,rfl,trivial⟩ rfl rfl rfl ?_;intro g16 w11 n16;have e16:=Nat.le_trans bel.size n16.ge;have l16:=Nat.lt_of_lt_of_le k14.lt n16.ge;replace bel:=bel.step n16.below;replace k1:=k1.step n16.below;replace k2:=k2.step n16.below;replace k4:=k4.step n16.below;replace k5:=k5.step n16.below;replace k7:=k7.step n16.below;replace k8:=k8.step n16.below;replace k10:=k10.step n16.below;replace k11:=k11.step n16.below;replace k13:=k13.step n16.below;replace k14:=k14.step n16.below;have k16:=n16.ao;refine Za ?_;refine Es 0 (Zt (Cd.ret ?_));refine aX ?_;refine⟨_,rfl,bel,fun lvl hlvl=> ?_⟩
 match lvl,hlvl with
 |0,_=>exact⟨_,_,_,_,_,k16,rfl,rfl,rfl,k1,k2⟩
 |1,_=>exact⟨_,_,_,_,_,k16,rfl,rfl,rfl,k4,k5⟩
 |2,_=>exact⟨_,_,_,_,_,k16,rfl,rfl,rfl,k7,k8⟩
 |3,_=>exact⟨_,_,_,_,_,k16,rfl,rfl,rfl,k10,k11⟩
 |4,_=>exact⟨_,_,_,_,_,k16,rfl,rfl,rfl,k13,k14⟩
theorem zl (t:List Nat)(w:World)(ht:∀x∈t,x<256):Calls Tryz.prog 169 #[.string (strOf t)] w fun e w'=>e= .returned (.tuple #[.int .i64 (fH t).1, .int .i64 ((fH t).2.1:Int), .int .i64 ((fH t).2.2:Int)])∧Grow w w':=by
 have bel:=Below.refl w.heap.size w;unfold fH;refine Zs 20 Tryz.func169 ?_;refine aj ?_;refine Za ?_;refine Za ?_;refine Za ?_;refine aZ 0 2 3 4 (aJ (aj ?_));refine Zm ?_;refine aU 0 2 3 4 5 (Zt (Cd.block (aj ?_)));refine Zv (aa.dq (b:=[103,105,118,101]) rfl rfl rfl ht (by decide)) ?_;refine Za ?_;refine bl 0 2 3 4 5 6 (Zt ?_);refine Cd.au rfl (fun hc=> ?_) (fun h0=> ?_)
 ·rw[if_pos hc]
  refine aj ?_;refine Za ?_;refine Za ?_;refine Za ?_;refine bl 0 2 3 4 5 6 (Zt (Cd.ret (ab.ah (ab.af ?_))));refine ab.mI rfl rfl rfl rfl (.inl rfl) ?_;exact⟨rfl,bel⟩
 refine aj ?_;refine Zv (aa.dq (b:=[97,110,100]) rfl rfl rfl ht (by decide)) ?_;refine Za ?_;refine bp 0 2 3 4 5 6 8 (Zt ?_);refine Cd.au rfl (fun hc=> ?_) (fun h1=> ?_)
 ·rw[if_neg h0,if_pos hc]
  refine aj ?_;refine Za ?_;refine Za ?_;refine Za ?_;refine bp 0 2 3 4 5 6 8 (Zt (Cd.ret (ab.ah (ab.af ?_))));refine ab.mI rfl rfl rfl rfl (.inl rfl) ?_;exact⟨rfl,bel⟩
 refine aj ?_;refine Zv (aa.dq (b:=[111,114]) rfl rfl rfl ht (by decide)) ?_;refine Za ?_;refine cn 0 2 3 4 5 6 8 10 (Zt ?_);refine Cd.au rfl (fun hc=> ?_) (fun h2=> ?_)
 ·rw[if_neg h0,if_neg h1,if_pos hc]
  refine aj ?_;refine Za ?_;refine Za ?_;refine Za ?_;refine cn 0 2 3 4 5 6 8 10 (Zt (Cd.ret (ab.ah (ab.af ?_))));refine ab.mI rfl rfl rfl rfl (.inl rfl) ?_;exact⟨rfl,bel⟩
 refine aj ?_;refine Zv (aa.dq (b:=[115,99,97,108,101]) rfl rfl rfl ht (by decide)) ?_;refine Za ?_;refine du 0 2 3 4 5 6 8 10 12 (Zt ?_);refine Cd.au rfl (fun hc=> ?_) (fun h3=> ?_)
 ·rw[if_neg h0,if_neg h1,if_neg h2,if_pos hc]
  refine aj ?_;refine Za ?_;refine Za ?_;refine Za ?_;refine du 0 2 3 4 5 6 8 10 12 (Zt (Cd.ret (ab.ah (ab.af ?_))));refine ab.mI rfl rfl rfl rfl (.inl rfl) ?_;exact⟨rfl,bel⟩
 refine aj ?_;refine Zv (aa.dq (b:=[119,104,101,110]) rfl rfl rfl ht (by decide)) ?_;refine Za ?_;refine ed 0 2 3 4 5 6 8 10 12 14 (Zt ?_);refine Cd.au rfl (fun hc=> ?_) (fun h4=> ?_)
 ·rw[if_neg h0,if_neg h1,if_neg h2,if_neg h3,if_pos hc]
  refine aj ?_;refine Za ?_;refine Za ?_;refine Za ?_;refine ed 0 2 3 4 5 6 8 10 12 14 (Zt (Cd.ret (ab.ah (ab.af ?_))));refine ab.mI rfl rfl rfl rfl (.inl rfl) ?_;exact⟨rfl,bel⟩
 refine aj ?_;refine Zv (aa.dq (b:=[117,110,116,105,108]) rfl rfl rfl ht (by decide)) ?_;refine Za ?_;refine bT 0 2 3 4 5 6 8 10 12 14 16 (Zt ?_);refine Cd.au rfl (fun hc=> ?_) (fun h5=> ?_)
 ·rw[if_neg h0,if_neg h1,if_neg h2,if_neg h3,if_neg h4,if_pos hc]
  refine aj ?_;refine Za ?_;refine Za ?_;refine Za ?_;refine bT 0 2 3 4 5 6 8 10 12 14 16 (Zt (Cd.ret (ab.ah (ab.af ?_))));refine ab.mI rfl rfl rfl rfl (.inl rfl) ?_;exact⟨rfl,bel⟩
 refine aj ?_;refine Zv (aa.dq (b:=[97,110,121,116,105,109,101]) rfl rfl rfl ht (by decide)) ?_;refine Za ?_;refine eS 0 2 3 4 5 6 8 10 12 14 16 18 (Zt ?_);refine Cd.au rfl (fun hc=> ?_) (fun h6=> ?_)
 ·rw[if_neg h0,if_neg h1,if_neg h2,if_neg h3,if_neg h4,if_neg h5,if_pos hc]
  refine aj ?_;refine Za ?_;refine Za ?_;refine Za ?_;refine eS 0 2 3 4 5 6 8 10 12 14 16 18 (Zt (Cd.ret (ab.ah (ab.af ?_))));refine ab.mI rfl rfl rfl rfl (.inl rfl) ?_;exact⟨rfl,bel⟩
 refine Cd.skip (ab.ai (aB ?_));refine Za ?_;refine Za ?_;refine Za ?_;refine eS 0 2 3 4 5 6 8 10 12 14 16 18 (Zt (Cd.ret ?_));refine ab.mI rfl rfl rfl rfl (.inl rfl) ?_;rw[if_neg h0,if_neg h1,if_neg h2,if_neg h3,if_neg h4,if_neg h5,if_neg h6];exact⟨rfl,bel⟩
theorem ux (K:Ctx)(hK:K.Ok)(p d:Nat)(w:World)(h:PW K w p d false):Calls Tryz.prog 168 #[.pointer (some ⟨K.g,0,none⟩)] w (PR K w d (fW K.ws p) fun nm v _=>v= .string (strOf nm)):=by
 have bel:=Fz.refl w.heap.size K.g w;have k99:=h.ao;have e99:K.g=K.g:=rfl;have hlt:=h.ao.lt;have hlen:=hK.len;have hle:=h.dy;obtain⟨a1,a2,a3,a4,a5⟩:=hK.at_ p;obtain⟨b1,b2,b3⟩:=K.lz p;have hw:=fun W (hb:Below w.heap.size w W)=>gy K hK p d false W (h.step hK.le hb);unfold Ew at hw;have hres:=fun W=>mE (K.at_ p).text W a3;have hq:fW K.ws p=if(K.at_ p).kind=3∧dD (K.at_ p).text=false then .ok (K.at_ p).text (p+1) else .bad p false:=by rw[b1,b2];rfl
 refine Zs 25 Tryz.func168 ?_;refine aj ?_;refine Za ?_;refine dM 0 2 (aB ?_);refine Zm ?_;refine Zc (Ze Tryz.func164) (hw _ (Below.refl _ _)) ?_;rintro e w5 ⟨rfl,hb5⟩;refine⟨_,rfl,?_⟩;replace bel:=bel.step hb5;replace k99:=k99.step hb5;refine Zl bA ?_;intro g3 w1 n3;have e3:=Nat.le_trans bel.size n3.ge;have l3:=Nat.lt_of_lt_of_le k99.lt n3.ge;replace bel:=bel.step n3.below;replace k99:=k99.step n3.below;have k3:=n3.ao;refine Zo 4 k3 ?_;intro w2 pw2;replace bel:=bel.put k3 pw2 e3;replace k99:=k99.put pw2 (by omega);replace k3:=pw2.ao;refine bu 0 2 3 (aJ (aj ?_));refine Zf 0 Tryz.underlying221 ?_;refine ZL Tryz.underlying3 k3 ?_;refine kL ?_;refine Zm ?_;refine av.start ?_;refine bk (fun hcx=>aa.ak 1 rfl rfl Tryz.underlying221 rfl (by kernel_rfl)) ?_;refine Zn (fun hcx=>aa.an rfl rfl Tryz.underlying9 rfl k3 rfl) ?_;refine av.bj rfl rfl rfl rfl rfl rfl rfl (fun hcx=>Ze Tryz.func210) (fun hcx=>hres _) ?_;intro w3 hw3;replace bel:=bel.step hw3;replace k99:=k99.step hw3;replace k3:=k3.step hw3;refine eG ?_;refine aZ 0 2 3 13 (Zt ?_);refine Cd.cond rfl (fun hc=> ?_) (fun hc=> ?_)
 ·have hc:¬((K.at_ p).kind=3∧dD (K.at_ p).text=false):=by
   rintro⟨c1,c2⟩;simp[c1,c2] at hc
  rw[if_neg hc] at hq;refine Zr ?_;refine Zm ?_;refine Seq.cw (Ze Tryz.func165) rfl (jy K.g _) ?_;rintro e w6 ⟨rfl,hb6⟩;refine⟨_,rfl,fun a ha=>⟨ha.defers,?_⟩⟩;rw[hq];exact⟨bel.step hb6,rfl,d,⟨k99.step hb6,h.rd.below ((bel.step hb6).below (by have:=hK.le;omega) hK.le),h.dy,h.dP⟩⟩
 ·have hc:(K.at_ p).kind=3∧dD (K.at_ p).text=false:=by
   simpa using hc
  rw[if_pos hc] at hq
  have hp:p+1≤K.ws.length:=by
   rcases Nat.lt_or_ge p K.ws.length with hp|hp
   ·exact hp
   ·have h1:(K.at_ p).kind= -1:=by unfold Ctx.at_;rw[List.getD_eq_getElem?_getD,List.getElem?_eq_none hp];rfl
    rw[h1] at hc;exact absurd hc.1 (by decide)
  refine Cd.skip (aB ?_);refine Zm ?_;refine Zv (aa.nilCheck rfl rfl) ?_;refine Zf 1 Tryz.underlying219 ?_;refine ZL Tryz.underlying3 k99 ?_;refine dt ?_;refine Zv (aa.nilCheck rfl rfl) ?_;refine Zf 1 Tryz.underlying219 ?_;refine Zq k99 ?_;intro w4 pw4;replace bel:=bel.put k99 pw4 e99;replace k3:=k3.put pw4 (by omega);replace k99:=pw4.ao;refine aZ 0 2 3 13 (aB ?_);refine Zf 1 Tryz.underlying221 ?_;refine ZL Tryz.underlying9 k3 ?_;refine Za ?_;refine aZ 0 2 3 13 (Zt (Cd.ret ?_));refine aX ?_;rw[hq];exact⟨bel,_,rfl,h.next hK.le hp bel k99,rfl⟩
theorem Ctx.Ok.E9 {K:Ctx}(hK:K.Ok){w:World}{p d:Nat}{ov:Bool}(h:PW K w p d ov):K.B≤w.heap.size:=by have:=hK.le;have:=h.ao.lt;omega
theorem pk (ws:List Wd)(s:List Nat)(p:Nat):fy ws s p≠ .out:=by unfold fy;split<;>simp
theorem nB (p d:Nat):fG p d≠ .out:=by unfold fG;split<;>simp
theorem uN (ws:List Wd)(p:Nat):fW ws p≠ .out:=by unfold fW;split<;>simp
theorem kA {α:Type}(ws:List Wd)(one:Nat→Nat→Rs α)(r:List (Nat→Nat→Rs α))(first:Bool)(p d:Nat):dA ws (one::r) first p d=(if first=true then Rs.ok () p else fy ws [44] p).bind fun _ p=>(one p d).bind fun x p=>(dA ws r false p d).bind fun xs p=> .ok (x::xs) p:=rfl
theorem PW.deep {K:Ctx}{w:World}{p d:Nat}(h:PW K w p d false):d≤64:=by
 rcases h.dP with h|⟨h,-⟩
 ·exact h
 ·cases h
theorem uT.mono {α:Type}{K:Ctx}{h d:Nat}{w w':World}{r:Rs α}{ok1 ok2:α→Value→World→Prop}{e:Ending}(hr:uT K h w d r ok1 e w')(hm:∀a v w',ok1 a v w'→ok2 a v w'):uT K h w d r ok2 e w':=by
 refine⟨hr.1,?_⟩
 cases r with
 |out=>exact hr.2
 |bad p o=>exact hr.2
 |ok a p=>obtain⟨v,h1,h2,h3⟩:=hr.2;exact⟨v,h1,h2,hm _ _ _ h3⟩
theorem jR {α:Type}(K:Ctx)(hK:K.Ok)(h0:Nat)(bQ:List (Nat→Nat→Rs α))(fs:List (Nat × List Value))(AP:Option Addr)(cP:Nat)(M:List α→World→Prop)(p d:Nat)(w:World)(h:PW K w p d false)(hh0:h0≤w.heap.size)
  (hlen:fs.length=bQ.length) (hn:bQ.length≤10) (hM0:M [] w) (hMs:∀(xs:List α) (W W':World) (p d:Nat),M xs W→PW K W p d false→Fz W.heap.size K.g W W'→M xs W')
  (hMr:∀(xs:List α) (W:World) (i f:Nat) (cp:List Value),M xs W→fs[i]? =some (f,cp)→∃ad,AP=some ad∧W.cell? (ad.add i)=some (.func (.func f) #[] cp.toArray))
  (heg:∀(i f:Nat) (cp:List Value),fs[i]? =some (f,cp)→∀args w,(callFunc f args).run Tryz.prog w= .ok (.enter f args) w)
  (hone:∀(i f:Nat) (cp:List Value) (one:Nat→Nat→Rs α),fs[i]? =some (f,cp)→bQ[i]? =some one→∀(xs:List α) (W:World) (p:Nat),xs.length=i→PW K W p (d+1) false→h0≤W.heap.size→M xs W→one p (d+1)≠ .out→Calls Tryz.prog f cp.toArray W (uT K h0 W (d+1) (one p (d+1)) fun x _ W'=>M (xs++[x]) W'))
  (hne:cR K.ws bQ p d≠ .out):
  Calls Tryz.prog 166 #[.pointer (some ⟨K.g,0,none⟩), .slice AP fs.length cP] w (uT K h0 w d (cR K.ws bQ p d) fun xs _ W'=>M xs W'):=by
 have bel:=Fz.refl h0 K.g w;have pw:=h;have e99:K.g=K.g:=rfl;have hlt:=h.ao.lt;have hle:=hK.le;obtain⟨R,hR⟩:∃R,R=cR K.ws bQ p d:=⟨_,rfl⟩;rw[←hR] at hne⊢;have hRu:R=(fy K.ws [40] p).bind fun _ p=>(fG p d).bind fun _ p=>(dA K.ws bQ true p (d+1)).bind fun xs p=>(fy K.ws [41] p).bind fun _ p=> .ok xs p:=hR;clear hR;have hsg:=nD K hK p d [40] w h (by decide);refine Zs 33 Tryz.func166 ?_;refine aj ?_;refine Zm ?_;rcases Rs.de (pk K.ws [40] p) with ⟨p1,o1,hr1⟩|⟨u1,p1,hr1⟩
 ·rw[hr1] at hsg hRu
  refine Seq.cw (Ze Tryz.func208) rfl hsg ?_;rintro e w6 ⟨hf,rfl,d6,hp6⟩;refine⟨_,rfl,fun a ha=>⟨ha.defers,?_⟩⟩;rw[hRu];exact⟨hf.less hh0,rfl,d6,hp6⟩
 rw[hr1] at hsg hRu;replace hRu:R=(fG p1 d).bind fun _ p=>(dA K.ws bQ true p (d+1)).bind fun xs p=>(fy K.ws [41] p).bind fun _ p=> .ok xs p:=hRu;refine Zc (Ze Tryz.func208) (hsg) ?_;rintro e w5 ⟨hf5,v5,rfl,pw,-⟩;refine⟨_,rfl,?_⟩;replace bel:=bel.call hf5 hh0;have hs5:=bel.size;have hM5:=hMs _ _ _ _ _ hM0 h hf5;have hen:=nv K hK p1 d w5 pw;have pwo:=pw;refine dM 0 1 (aB ?_);refine Zm ?_;rcases Rs.de (nB p1 d) with ⟨p2,o2,hr2⟩|⟨u2,p2,hr2⟩
 ·rw[hr2] at hen hRu
  refine Seq.cw (Ze Tryz.func209) rfl hen ?_;rintro e w6 ⟨hf,rfl,d6,hp6⟩;refine⟨_,rfl,fun a ha=>⟨ha.defers,?_⟩⟩;rw[hRu];exact⟨bel.call hf hh0,rfl,d6,hp6⟩
 rw[hr2] at hen hRu;replace hRu:R=(dA K.ws bQ true p2 (d+1)).bind fun xs p=>(fy K.ws [41] p).bind fun _ p=> .ok xs p:=hRu;refine Zc (Ze Tryz.func209) (hen) ?_;rintro e w6 ⟨hf6,v6,rfl,pw,-⟩;refine⟨_,rfl,?_⟩;replace bel:=bel.call hf6 hh0;have hs6:=bel.size;have hM6:=hMs _ _ _ _ _ hM5 pwo hf6;obtain⟨R0,hR0⟩:∃R0,R0=dA K.ws bQ true p2 (d+1):=⟨_,rfl⟩;rw[←hR0] at hRu;have hne0:R0≠ .out:=Rs.fC (by rw[←hRu];exact hne);refine dM 0 1 (aJ (aj ?_));refine Zm ?_;refine Zv (aa.len rfl rfl Tryz.underlying225) ?_;refine Zm ?_;refine aU 0 1 10 11 12 (Zt (Cd.block ?_))
 refine Cd.loop (σ:=Nat × Nat × List α) (fun s=>[(0, .pointer (some ⟨K.g,0,none⟩)),(10, .slice AP fs.length cP),(11, .int .i64 (fs.length:Int)),(12, .int .i64 (s.1:Int))])
  (fun s wr=>s.1≤bQ.length∧PW K wr s.2.1 (d+1) false∧Fz h0 K.g w wr∧M s.2.2 wr∧s.2.2.length=s.1∧R0=(dA K.ws (bQ.drop s.1) (decide (s.1=0)) s.2.1 (d+1)).bind fun ys p=> .ok (s.2.2++ys) p)
  (fun s=>bQ.length-s.1) (0,p2,[]) ⟨Nat.zero_le _,pw,bel,hM6,rfl,by rw[hR0];show _=(dA K.ws bQ true p2 (d+1)).bind _;cases dA K.ws bQ true p2 (d+1)<;>rfl⟩ ⟨rfl,rfl,rfl,rfl,trivial⟩ ?_
 clear bel pw hM6 hM5 hM0 hR0;rintro⟨i,pi,xs⟩ wr ⟨hi,pw,bel,hM,hxl,hinv⟩;dsimp only at hi pw hM hxl hinv⊢;have hsr:=bel.size;refine aj ?_;refine ff ?_;refine aU 0 10 11 12 13 (aJ ?_);refine Cd.au rfl (fun hc=> ?_) (fun hc=> ?_)
 ·obtain⟨one,ho⟩:∃one,bQ[i]? =some one:=⟨_,List.getElem?_eq_getElem (by omega)⟩
  obtain⟨⟨f,cp⟩,hfc⟩:∃f,fs[i]? =some f:=⟨_,List.getElem?_eq_getElem (by omega)⟩;obtain⟨ad,hA,hcl⟩:=hMr xs wr i f cp hM hfc
  have hdr:bQ.drop i=one::bQ.drop (i+1):=by
   have hlt:=(List.getElem?_eq_some_iff.1 ho).1;rw[List.drop_eq_getElem_cons hlt];rw[List.getElem?_eq_getElem hlt] at ho;injection ho with ho
   rw[ho]
  rw[hdr] at hinv;rw[hA];refine Cd.skip (aJ (Cd.block (aj ?_)));refine Zm ?_;refine Zv (aa.dg rfl rfl rfl Tryz.underlying225 (by kernel_rfl) (j:=i) rfl (by omega)) ?_;refine Zv (aa.dF rfl rfl Tryz.underlying1 rfl hcl) ?_;refine Za ?_;refine Za ?_;refine bp 0 4 5 10 11 12 13 (Zt ?_);refine Cd.lC (σ:=Nat) (fun _=>[(0, .pointer (some ⟨K.g,0,none⟩)),(5, .func (.func f) #[] cp.toArray),(10, .slice (some ad) fs.length cP),(11, .int .i64 (fs.length:Int)),(12, .int .i64 (i:Int))]) (fun pj wj=>PW K wj pj (d+1) false∧Fz h0 K.g w wj∧M xs wj∧R0=(one pj (d+1)).bind fun x p=>(dA K.ws (bQ.drop (i+1)) false p (d+1)).bind fun ys p=> .ok (xs++(x::ys)) p) ?_ ?_
  ·skip
   refine aj ?_;refine Zm ?_;refine tU ?_;refine cn 0 4 5 10 11 12 13 18 (Zt ?_);refine Cd.au rfl (fun hc=> ?_) (fun hc=> ?_)
   ·have hinv:R0=(fy K.ws [44] pi).bind fun _ p=>(one p (d+1)).bind fun x p=>(dA K.ws (bQ.drop (i+1)) false p (d+1)).bind fun ys p=> .ok (xs++(x::ys)) p:=by
     rw[hinv,kA,decide_eq_false (show¬i=0 by omega),if_neg (by decide)];simp only[Rs.bind_assoc];rfl
    have hsg:=nD K hK pi (d+1) [44] wr pw (by decide);have pwo:=pw;refine Zr ?_;refine Zm ?_;rcases Rs.de (pk K.ws [44] pi) with ⟨p1,o1,hr1⟩|⟨u1,p1,hr1⟩
    ·rw[hr1] at hsg hinv
     refine Seq.cw (Ze Tryz.func208) rfl hsg ?_;rintro e w7 ⟨hf,rfl,d6,hp6⟩;refine⟨_,rfl,fun a ha=>⟨ha.defers,?_⟩⟩;rw[hRu,hinv];exact⟨bel.call hf hh0,rfl,d6,hp6⟩
    rw[hr1] at hsg hinv;refine Zc (Ze Tryz.func208) (hsg) ?_;rintro e w7 ⟨hf7,v7,rfl,pw,-⟩;refine⟨_,rfl,?_⟩;refine cn 0 4 5 10 11 12 13 18 ?_;exact ab.join p1 ⟨rfl,rfl,rfl,rfl,rfl,trivial⟩ ⟨pw,bel.call hf7 hh0,hMs _ _ _ _ _ hM pwo hf7,hinv⟩
   ·obtain rfl:i=0:=by omega
    refine Cd.skip ?_;refine ab.join pi ⟨rfl,rfl,rfl,rfl,rfl,trivial⟩ ⟨pw,bel,hM,?_⟩;rw[hinv,kA,decide_eq_true rfl,if_pos rfl];simp only[Rs.bind_assoc,Rs.gw]
  clear bel pw hM hinv;rintro pj wj ⟨pw,bel,hM,hinv⟩;have hsj:=bel.size;have hne1:one pj (d+1)≠ .out:=Rs.fC (by rw[←hinv];exact hne0);have hcall:=hone i f cp one hfc ho xs wj pj hxl pw (by omega) hM hne1;refine Zr ?_;refine Zm ?_;rcases Rs.de hne1 with ⟨p1,o1,hr1⟩|⟨x,p1,hr1⟩
  ·rw[hr1] at hcall hinv
   refine Seq.cw (Enters.value (first:=[]) (cap:=cp) rfl rfl rfl (heg i f cp hfc)) rfl hcall ?_;rintro e w7 ⟨hf,rfl,d6,hp6⟩;refine⟨_,rfl,fun a ha=>⟨ha.defers,?_⟩⟩;rw[hRu,hinv];exact⟨bel.trans hf,rfl,d6,hp6⟩
  rw[hr1] at hcall hinv;refine Seq.call (Enters.value (first:=[]) (cap:=cp) rfl rfl rfl (heg i f cp hfc)) rfl rfl rfl hcall ?_;rintro e w7 ⟨hf7,v7,rfl,pw,hM⟩;refine⟨_,rfl,?_⟩;refine aU 0 5 10 11 12 (ab.ai (dU ?_));refine dt ?_;refine Zm ?_;refine aU 0 5 10 11 12 ?_;refine ab.round (i+1,p1,xs++[x]) ⟨rfl,rfl,rfl,rfl,trivial⟩ ⟨by dsimp only;omega,pw,bel.trans hf7,hM,by dsimp only;rw[List.length_append,hxl];rfl,?_⟩ (by dsimp only;omega);dsimp only;rw[hinv,decide_eq_false (show¬i+1=0 by omega),Rs.gw];simp only[List.append_assoc,List.cons_append,List.nil_append]
 ·obtain rfl:i=bQ.length:=by omega
  rw[List.drop_of_length_le (Nat.le_refl _)] at hinv;have hinv:R0= .ok xs pi:=by rw[hinv];unfold dA;rw[Rs.gw,List.append_nil]
  rw[hinv] at hRu;replace hRu:R=(fy K.ws [41] pi).bind fun _ p=> .ok xs p:=hRu;have hsg:=nD K hK pi (d+1) [41] wr pw (by decide);have pwo:=pw;refine Cd.exit (ab.aA (ab.ay (ab.az (aB ?_))));refine Zm ?_;rcases Rs.de (pk K.ws [41] pi) with ⟨p1,o1,hr1⟩|⟨u1,p1,hr1⟩
  ·rw[hr1] at hsg hRu
   refine Seq.cw (Ze Tryz.func208) rfl hsg ?_;rintro e w7 ⟨hf,rfl,d6,hp6⟩;refine⟨_,rfl,fun a ha=>⟨ha.defers,?_⟩⟩;rw[hRu];exact⟨bel.call hf hh0,rfl,d6,hp6⟩
  rw[hr1] at hsg hRu;refine Zc (Ze Tryz.func208) (hsg) ?_;rintro e w7 ⟨hf7,v7,rfl,pw,-⟩;refine⟨_,rfl,?_⟩;replace bel:=bel.call hf7 hh0;have hM:=hMs _ _ _ _ _ hM pwo hf7;have k99:=pw.ao;have hd64:=pw.deep;have loc:=Fz.refl w7.heap.size K.g w7;refine aU 0 10 11 12 13 (dU ?_);refine Zm ?_;refine Zv (aa.nilCheck rfl rfl) ?_;refine Zf 2 Tryz.underlying219 ?_;refine ZL Tryz.underlying3 k99 ?_;refine rF ?_;refine Zv (aa.nilCheck rfl rfl) ?_;refine Zf 2 Tryz.underlying219 ?_;refine Zq k99 ?_;intro w1 pw1;replace bel:=bel.put k99 pw1 e99;replace loc:=loc.put k99 pw1 e99;replace k99:=pw1.ao;refine aU 0 10 11 12 13 ?_;refine ab.eP rfl (.inr rfl) ?_;rw[hRu];have hcast:((d+1:Nat):Int)-1=(d:Int):=by omega
  rw[hcast] at k99;exact⟨bel,_,rfl,⟨k99,pw.rd.below (loc.below (hK.E9 pw) hle),pw.dy, .inl (by omega)⟩,hMs _ _ _ _ _ hM pw loc⟩
variable [Inhabited (List Deferred)]
theorem fq (A B:List (Nat × Value))(t:Nat):look (A++B) t=match look A t with|some v=>some v|none=>look B t:=by
 induction A with
 |nil=>rfl
 |cons x r ih=>
  obtain⟨k,v⟩:=x;show(bif Nat.beq k t then some v else look (r++B) t)=match (bif Nat.beq k t then some v else look r t) with|some v=>some v|none=>look B t
  cases Nat.beq k t with
  |true=>rfl
  |false=>exact ih
def dz (S:Nat→Bool):Nat→List Oper→List Value→List (Nat × Value)
 |k,o::r,v::vs=>match o.dst with
  |some d=>bif S k then(d,v)::dz S (k+1) r vs else dz S (k+1) r vs
  |none=>dz S (k+1) r vs
 |_,_,_=>[]
theorem eU {S:Nat→Bool}:∀ {l:List Oper} {vs:List Value} {k t:Nat} {v:Value},look (dz S k l vs) t=some v→∃(j:Nat) (o:Oper),l[j]? =some o∧o.dst=some t∧vs[j]? =some v∧S (k+j)=true
 | [],_,_,_,_,h=>by simp[dz,look] at h
 |_::_,[],_,_,_,h=>by simp[dz,look] at h
 |o::r,v::vs,k,t,u,h=>by
  unfold dz at h
  have up:look (dz S (k+1) r vs) t=some u→∃(j:Nat) (o':Oper),(o::r)[j]? =some o'∧o'.dst=some t∧(v::vs)[j]? =some u∧S (k+j)=true:=fun h=>by
   obtain⟨j,o',h1,h2,h3,h4⟩:=eU h;exact⟨j+1,o',by simpa using h1,h2,by simpa using h3,by rw[show k+(j+1)=k+1+j from by omega];exact h4⟩
  cases hd:o.dst with
  |none=>rw[hd] at h;exact up h
  |some d=>
   rw[hd] at h;simp only at h
   cases hS:S k with
   |false=>rw[hS] at h;exact up h
   |true=>
    rw[hS,cond_true] at h;rcases cd h with ⟨rfl,rfl⟩|⟨_,h⟩
    ·exact⟨0,o,rfl,hd,rfl,hS⟩
    ·exact up h
theorem mx {S:Nat→Bool}:∀ {l:List Oper} {vs:List Value} {k j:Nat} {o:Oper} {d:Nat} {v:Value},l[j]? =some o→o.dst=some d→vs[j]? =some v→S (k+j)=true→(∀i o',l[i]? =some o'→i≠j→o'.dst≠some d)→look (dz S k l vs) d=some v
 | [],_,_,_,_,_,_,h,_,_,_,_=>by simp at h
 |_::_,[],_,_,_,_,_,_,_,h,_,_=>by simp at h
 |o0::r,v0::vs,k,0,o,d,v,h1,h2,h3,h4,h5=>by
  simp at h1 h3;subst h1 h3;unfold dz;rw[h2];simp only;rw[Nat.add_zero] at h4;rw[h4,cond_true];unfold look;rw[Nat.beq_refl];rfl
 |o0::r,v0::vs,k,j+1,o,d,v,h1,h2,h3,h4,h5=>by
  have ih:=mx (S:=S) (l:=r) (vs:=vs) (k:=k+1) (j:=j) (o:=o) (d:=d) (v:=v) (by simpa using h1) h2 (by simpa using h3) (by rw[show k+1+j=k+(j+1) from by omega];exact h4) (fun i o' hi hne=>h5 (i+1) o' (by simpa using hi) (by omega));unfold dz
  cases hd:o0.dst with
  |none=>exact ih
  |some d0=>
   simp only
   cases S k with
   |false=>exact ih
   |true=>
    have hne:d0≠d:=fun e=>h5 0 o0 rfl (by omega) (by rw[hd,e]);rw[cond_true];unfold look
    have:Nat.beq d0 d=false:=by
     cases hb:Nat.beq d0 d with
     |false=>rfl
     |true=>exact absurd (Nat.eq_of_beq_eq_true hb) hne
    rw[this,cond_false];exact ih
section
variable {P:Program} {Q:Exit→Act→World→Prop} {n:Nat} {F0:List (Nat × Value)}
def kR (l:List Oper)(F0:List (Nat × Value))(vs:List Value)(S:Nat→Bool)(o:Oper):List (Nat × Value):=dz (fun k=>bf (direct o) k) 0 l vs++(F0++dz S 0 l vs)
def tQ {σT:Type}(l:List Oper)(n:Nat)(F0:List (Nat × Value))(vs:σT→List Value)(X:σT→(Nat→Bool)→World→Prop)(S:Nat→Bool)(k:Nat)(a:Act)(w:World):Prop:=
 ∃σ,Fr n F0 a∧(∀(j:Nat) (o:Oper) (d:Nat) (v:Value),l[j]? =some o→o.dst=some d→ik S k j=true→(vs σ)[j]? =some v→a.tmps[d]? =some v)∧X σ (ik S k) w
def DD (l:List Oper)(S:Nat→Bool):Prop:=∀(i:Nat) (o:Oper),l[i]? =some o→S i=true→∀x∈direct o,S x=true
def Fa {σT:Type}(P:Program)(ops:Array Oper)(Q:Exit→Act→World→Prop)(l:List Oper)(n:Nat)(F0:List (Nat × Value))(vs:σT→List Value)(X:σT→(Nat→Bool)→World→Prop)(k:Nat)(o:Oper):Prop:=
 ∀(σ:σT) (S:Nat→Bool) (w:World),S k=false→(∀x∈direct o,S x=true)→DD l S→X σ S w→Seq P ops (Exit.then (tQ l n F0 vs X S k) Q) [o] n (kR l F0 (vs σ) S o) w
theorem zu {o:Oper}{a:Act}{w:World}{K K':Act→World→Prop}(h:o.wp P a w K (Exit.then K' Q)):o.wp P a w K Q:=by
 unfold Oper.wp at *;unfold Oper.upon at *;split at h<;>exact h
theorem ig {l:List Oper}{keys:List Nat}(hchk:gX n keys 0 [] l=true){j:Nat}{o:Oper}{d:Nat}(h:l[j]? =some o)(hd:o.dst=some d):d<n∧d∉keys∧∀i o',l[i]? =some o'→i≠j→o'.dst≠some d:=by
 obtain⟨-,h2⟩:=fc hchk j o h;obtain⟨a1,-,a3,a4⟩:=h2 d hd;exact⟨a1,a3,a4⟩
theorem ab.aQ {σT:Type}{l:List Oper}{vs:σT→List Value}{X:σT→(Nat→Bool)→World→Prop}{σ σ':σT}{S:Nat→Bool}{k d:Nat}{o:Oper}{u:Value}{w':World}(hchk:gX n (iY F0) 0 [] l=true)(ho:l[k]? =some o)(hd:o.dst=some d)(hpre:∀x∈direct o,S x=true)(hu:(vs σ')[k]? =some u)(hj:∀j,S j=true→(vs σ')[j]? =(vs σ)[j]?)(hX:X σ' (ik S k) w'):
  ab (Exit.then (tQ l n F0 vs X S k) Q) .normal n ((d,u)::kR l F0 (vs σ) S o) w':=by
 intro a ha;obtain⟨b1,b2,b3⟩:=ig hchk ho hd
 have hF:∀t v,look F0 t=some v→a.tmps[t]? =some v:=fun t v ht=>by
  have hk:=ia ht
  have hnone:∀S',look (dz S' 0 l (vs σ)) t=none:=fun S'=>by
   cases hl:look (dz S' 0 l (vs σ)) t with
   |none=>rfl
   |some x=>
    obtain⟨j,o',h1,h2,-,-⟩:=eU hl;exact absurd hk (ig hchk h1 h2).2.1
  refine ha.slot t v ?_;unfold look
  cases hb:Nat.beq d t with
  |true=>rw[Nat.eq_of_beq_eq_true hb] at b2;exact absurd hk b2
  |false=>
   rw[cond_false];unfold kR;rw[fq,hnone];simp only;rw[fq,ht]
 refine⟨σ',⟨ha.size,ha.defers,hF⟩,fun j o' d' v h1 h2 h3 h4=> ?_,hX⟩
 by_cases hjk:j=k
 ·subst hjk
  rw[ho] at h1;injection h1 with h1
  subst h1;rw[hd] at h2;injection h2 with h2
  subst h2;rw[hu] at h4;injection h4 with h4
  subst h4;exact ha.slot d u (by unfold look;rw[Nat.beq_refl];rfl)
 ·have hS:S j=true:=by unfold ik at h3;rwa [if_neg hjk] at h3
  have hv:(vs σ)[j]? =some v:=by rw[←hj j hS];exact h4
  obtain⟨c1,c2,c3⟩:=ig hchk h1 h2;refine ha.slot d' v ?_;have hne:d≠d':=fun e=>b3 j o' h1 hjk (by rw[h2,e]);unfold look
  have hb:Nat.beq d d'=false:=by
   cases hb:Nat.beq d d' with
   |false=>rfl
   |true=>exact absurd (Nat.eq_of_beq_eq_true hb) hne
  rw[hb,cond_false];unfold kR;rw[fq];have h0:look (dz S 0 l (vs σ)) d'=some v:=mx h1 h2 hv (by rw[Nat.zero_add];exact hS) c3
  cases hl:look (dz (fun k=>bf (direct o) k) 0 l (vs σ)) d' with
  |none=>
   simp only;rw[fq]
   cases hf:look F0 d' with
   |none=>simp only;exact h0
   |some y=>exact absurd (ia hf) c2
  |some x=>
   obtain⟨i,oi,e1,e2,e3,-⟩:=eU hl
   have:i=j:=by
    by_cases hij:i=j
    ·exact hij
    ·exact absurd e2 (c3 i oi e1 hij)
   subst this;rw[hv] at e3;exact e3.symm
theorem ab.lg {σT:Type}{l:List Oper}{vs:σT→List Value}{X:σT→(Nat→Bool)→World→Prop}{σ σ':σT}{S:Nat→Bool}{k:Nat}{o:Oper}{w':World}(hchk:gX n (iY F0) 0 [] l=true)(ho:l[k]? =some o)(hd:o.dst=none)(hj:∀j,S j=true→(vs σ')[j]? =(vs σ)[j]?)(hX:X σ' (ik S k) w'):
  ab (Exit.then (tQ l n F0 vs X S k) Q) .normal n (kR l F0 (vs σ) S o) w':=by
 intro a ha
 have hF:∀t v,look F0 t=some v→a.tmps[t]? =some v:=fun t v ht=>by
  have hk:=ia ht
  have hnone:∀S',look (dz S' 0 l (vs σ)) t=none:=fun S'=>by
   cases hl:look (dz S' 0 l (vs σ)) t with
   |none=>rfl
   |some x=>
    obtain⟨j,o',h1,h2,-,-⟩:=eU hl;exact absurd hk (ig hchk h1 h2).2.1
  refine ha.slot t v ?_;unfold kR;rw[fq,hnone];simp only;rw[fq,ht]
 refine⟨σ',⟨ha.size,ha.defers,hF⟩,fun j o' d' v h1 h2 h3 h4=> ?_,hX⟩
 have hjk:j≠k:=fun e=>by
  subst e;rw[ho] at h1;injection h1 with h1
  subst h1;rw[hd] at h2
  cases h2
 have hS:S j=true:=by unfold ik at h3;rwa [if_neg hjk] at h3
 have hv:(vs σ)[j]? =some v:=by rw[←hj j hS];exact h4
 obtain⟨c1,c2,c3⟩:=ig hchk h1 h2;refine ha.slot d' v ?_;unfold kR;rw[fq];have h0:look (dz S 0 l (vs σ)) d'=some v:=mx h1 h2 hv (by rw[Nat.zero_add];exact hS) c3
 cases hl:look (dz (fun k=>bf (direct o) k) 0 l (vs σ)) d' with
 |none=>
  simp only;rw[fq]
  cases hf:look F0 d' with
  |none=>simp only;exact h0
  |some y=>exact absurd (ia hf) c2
 |some x=>
  obtain⟨i,oi,e1,e2,e3,-⟩:=eU hl
  have:i=j:=by
   by_cases hij:i=j
   ·exact hij
   ·exact absurd e2 (c3 i oi e1 hij)
  subst this;rw[hv] at e3;exact e3.symm
def zh:List Oper→List Value→List (Nat × Value)→List (Nat × Value)
 |o::r,v::vs,F=>match o.dst with
  |some d=>(d,v)::zh r vs F
  |none=>zh r vs F
 |_,_,F=>F
theorem ss:∀ {l:List Oper} {vs:List Value} {F:List (Nat × Value)} {t:Nat} {v:Value},look (zh l vs F) t=some v→(∃(j:Nat) (o:Oper),l[j]? =some o∧o.dst=some t∧vs[j]? =some v)∨look F t=some v
 | [],_,_,_,_,h=> .inr h
 |_::_,[],_,_,_,h=> .inr h
 |o::r,u::vs,F,t,v,h=>by
  have up:look (zh r vs F) t=some v→(∃(j:Nat) (o':Oper),(o::r)[j]? =some o'∧o'.dst=some t∧(u::vs)[j]? =some v)∨look F t=some v:=fun h=>by
   rcases ss h with ⟨j,o',h1,h2,h3⟩|h
   ·exact .inl ⟨j+1,o',by simpa using h1,h2,by simpa using h3⟩
   ·exact .inr h
  unfold zh at h
  cases hd:o.dst with
  |none=>rw[hd] at h;exact up h
  |some d=>
   rw[hd] at h;simp only at h;rcases cd h with ⟨rfl,rfl⟩|⟨_,h⟩
   ·exact .inl ⟨0,o,rfl,hd,rfl⟩
   ·exact up h
theorem pG (m i:Nat):(Array.replicate m false).getD i false=false:=by by_cases h:i<m<;>simp[h]
def xZ (ds:List Nat):Nat→Bool
 |0=>true
 |k+1=>bf ds k&&xZ ds k
theorem re {ds:List Nat}:∀ {m:Nat},xZ ds m=true→∀i,i<m→i∈ds
 |0,_,i,hi=>by omega
 |m+1,h,i,hi=>by
  unfold xZ at h;simp only[Bool.and_eq_true] at h;rcases Nat.lt_or_ge i m with h1|h1
  ·exact re h.2 i h1
  ·obtain rfl:i=m:=by omega
   exact aG h.1
def sM (m:Nat):List Oper→Bool
 | []=>true
 |o::r=>xZ (direct o) m&&j9 m (direct o)&&mF (m+1) r
theorem Cd.ot {σT:Type}(m:Nat){id:Nat}{l:List Oper}{w:World}(hm:P.follows .mixedOrders=true)(hchk:gX n (iY F0) 0 [] (l.take m)=true)(hrest:sM (l.take m).length (l.drop m)=true)(vs:σT→List Value)(X:σT→(Nat→Bool)→World→Prop)(σ0:σT)
  (h0:∀w0,Below w.heap.size w w0→w0.heap.size=w.heap.size→X σ0 (fun _=>false) w0)
  (hstep:∀(k:Nat) (o:Oper),(l.take m)[k]? =some o→Fa P l.toArray Q (l.take m) n F0 vs X k o)
  (hfin:∀(σ:σT) (S:Nat→Bool) (w:World),(∀i,i<(l.take m).length→S i=true)→X σ S w→Seq P l.toArray Q (l.drop m) n (zh (l.take m) (vs σ) F0) w):Cd P (.region id l.toArray true) Q n F0 w:=by
 have hops:l.toArray=(l.take m++l.drop m).toArray:=by rw[List.take_append_drop]
 revert hchk hrest hstep hfin
 generalize l.take m=init at *
 generalize l.drop m=tail at *
 intro hchk hrest hstep hfin
 generalize l.toArray=ops at *
 intro a ha;refine wp_region_any hm ?_;have hw0:=h0 {w with drawn:=w.drawn+1} ⟨rfl,rfl,rfl,Nat.le_refl _,fun _ _=>rfl⟩ rfl;have c1:=fc hchk;have hsz:ops.size=init.length+tail.length:=by rw[hops];simp
 have hat:∀i,i<init.length→ops[i]? =init[i]? :=fun i hi=>by rw[hops];simp[List.getElem?_append_left hi]
 have hat2:∀r,ops[init.length+r]? =tail[r]? :=fun r=>by rw[hops];simp[List.getElem?_append_right]
 have t0:∀o,tail[0]? =some o→(∀x∈direct o,x<init.length)∧∀i,i<init.length→i∈direct o:=by
  intro o ho
  cases tail with
  |nil=>simp at ho
  |cons o1 r=>
   obtain rfl:o1=o:=by simpa using ho
   unfold sM at hrest;simp only[Bool.and_eq_true] at hrest;exact⟨dK hrest.1.2,re hrest.1.1⟩
 have ts:∀i o,tail[i+1]? =some o→(∀x∈direct o,x<init.length+1+i)∧init.length+1+i-1∈direct o:=by
  intro i o ho
  cases tail with
  |nil=>simp at ho
  |cons o1 r=>
   unfold sM at hrest;simp only[Bool.and_eq_true] at hrest;exact gW hrest.2 i o (by simpa using ho)
 have key:∀(fuel:Nat) (listed:Array Bool) (σ:σT) (a:Act) (w:World),listed.size=ops.size→DD init (fun j=>listed.getD j false)→(∀i,init.length≤i→i<ops.size→listed.getD i true=false)→Fr n F0 a→(∀(j:Nat) (o:Oper) (d:Nat) (v:Value),init[j]? =some o→o.dst=some d→listed.getD j false=true→(vs σ)[j]? =some v→a.tmps[d]? =some v)→X σ (fun j=>listed.getD j false) w→left listed ops.size≤fuel→wpAny P .any ops Q fuel listed a w:=by
  have fin:∀(fuel:Nat) (listed:Array Bool) (σ:σT) (a:Act) (w:World),listed.size=ops.size→(∀i,i<init.length→listed.getD i true=true)→(∀i,init.length≤i→i<ops.size→listed.getD i true=false)→Fr n F0 a→(∀(j:Nat) (o:Oper) (d:Nat) (v:Value),init[j]? =some o→o.dst=some d→listed.getD j false=true→(vs σ)[j]? =some v→a.tmps[d]? =some v)→X σ (fun j=>listed.getD j false) w→left listed ops.size≤fuel→wpAny P .any ops Q fuel listed a w:=by
   intro fuel listed σ a w hl hall hts hF hD hX hf
   have hb:∀i,i<init.length→listed.getD i false=true:=fun i hi=>by
    have h1:=hall i hi;have h2:i<listed.size:=by omega
    simp[h2] at h1⊢;exact h1
   have hleft:∀k,k≤ops.size→left listed k=k-init.length:=by
    intro k
    induction k with
    |zero=>intro _;show 0=0-init.length;omega
    |succ k ihk=>
     intro hk;unfold left;rw[ihk (by omega)];rcases Nat.lt_or_ge k init.length with h1|h1
     ·rw[if_pos (hall k h1)];omega
     ·rw[if_neg (by rw[hts k h1 (by omega)];simp)];omega
   refine qL hops (fun o ho=>(t0 o ho).1) ts fuel 0 listed a w hl (Nat.zero_le _) (fun i hi=>hall i (by omega)) (fun i hi hi2=>hts i (by omega) hi2) (by have:=hleft ops.size (Nat.le_refl _);omega) ?_;rw[List.drop_zero];refine hfin σ _ w hb hX a ⟨hF.size,hF.defers,fun t v ht=> ?_⟩;rcases ss ht with ⟨j,o,h1,h2,h3⟩|h
   ·exact hD j o t v h1 h2 (hb j (List.getElem?_eq_some_iff.1 h1).1) h3
   ·exact hF.slot t v h
  intro fuel
  induction fuel with
  |zero=>
   intro listed σ a w hl hdc hts hF hD hX hf;have hall:=kX (Nat.le_zero.1 hf);exact fin 0 listed σ a w hl (fun i hi=>hall i (by omega)) hts hF hD hX hf
  |succ fuel ih=>
   intro listed σ a w hl hdc hts hF hD hX hf
   by_cases hdone:∀i,i<init.length→listed.getD i true=true
   ·exact fin _ listed σ a w hl hdone hts hF hD hX hf
   have hex:∃i,i∈Region.ready .any ops listed:=by
    refine Classical.byContradiction fun hno=>hdone ?_
    have this:∀i,(∀j,j<i→j<init.length→listed.getD j true=true)→i<init.length→listed.getD i true=true:=fun i hlt hi=>by
     cases hb:listed.getD i true with
     |true=>rfl
     |false=>
      exfalso;refine hno ⟨i,cF.2 ⟨hb,init[i],by rw[hat i hi,List.getElem?_eq_getElem hi],fun x hx=> ?_⟩⟩;have hxi:=(c1 i _ (List.getElem?_eq_getElem hi)).1 x hx;have h1:=hlt x (by omega) (by omega);have h2:x<listed.size:=by omega
      simp[h2] at h1⊢;exact h1
    have all:∀m i,i≤m→i<init.length→listed.getD i true=true:=by
     intro m
     induction m using Nat.strongRecOn with
     |_ m ihm=>intro i him hi;exact this i (fun j hj hjl=>ihm j (by omega) j (Nat.le_refl _) hjl) hi
    exact fun i hi=>all i i (Nat.le_refl _) hi
   refine⟨fun hnil=>(by obtain⟨i,hi⟩:=hex;rw[hnil] at hi;cases hi),fun i hi=> ?_⟩
   ·obtain⟨g1,o,ho,g2⟩:=cF.1 hi
    have hio:=(Array.getElem?_eq_some_iff.1 ho).1
    have hil:i<init.length:=by
     rcases Nat.lt_or_ge i init.length with h|h
     ·exact h
     ·exfalso
      obtain⟨q,rfl⟩:∃q,i=init.length+q:=⟨i-init.length,by omega⟩;rw[hat2] at ho
      cases q with
      |zero=>
       refine hdone fun j hj=> ?_;have h1:=g2 j ((t0 o ho).2 j hj);have h2:j<listed.size:=by omega
       simp[h2] at h1⊢;exact h1
      |succ q=>
       have h1:=g2 _ (ts q o ho).2;have h2:=hts (init.length+1+q-1) (by omega) (by omega);rw[getD_both h2] at h1
       cases h1
    rw[hat i hil] at ho;have hSi:listed.getD i false=false:=getD_both g1
    have hst:=hstep i o ho σ (fun j=>listed.getD j false) w hSi g2 hdc hX a ⟨hF.size,hF.defers,fun t v ht=>by
     unfold kR at ht;rw[fq] at ht
     cases h1:look (dz (fun k=>bf (direct o) k) 0 init (vs σ)) t with
     |some x=>
      rw[h1] at ht;injection ht with ht
      subst ht;obtain⟨j,oj,e1,e2,e3,e4⟩:=eU h1;rw[Nat.zero_add] at e4;exact hD j oj t x e1 e2 (g2 j (aG e4)) e3
     |none=>
      rw[h1] at ht;simp only at ht;rw[fq] at ht
      cases h2:look F0 t with
      |some x=>
       rw[h2] at ht;injection ht with ht
       subst ht;exact hF.slot t x h2
      |none=>
       rw[h2] at ht;simp only at ht;obtain⟨j,oj,e1,e2,e3,e4⟩:=eU ht;rw[Nat.zero_add] at e4;exact hD j oj t v e1 e2 e4 e3⟩
    have hupd:(fun j=>(listed.setIfInBounds i true).getD j false)=ik (fun j=>listed.getD j false) i:=by
     funext j
     unfold ik
     by_cases e:i=j
     ·subst e;simp[gu false (show i<listed.size by omega)]
     ·rw[getD_set_ne false e,if_neg (fun h=>e h.symm)]
    have next:∀a' w',tQ init n F0 vs X (fun j=>listed.getD j false) i a' w'→wpAny P .any ops Q fuel (listed.setIfInBounds i true) a' w':=by
     rintro a' w' ⟨σ',h1,h2,h3⟩;rw[←hupd] at h3;refine ih _ σ' a' w' (by simp[hl]) ?_ (fun j h4 h5=>by rw[getD_set_ne true (by omega)];exact hts j h4 h5) h1 (fun j oj d v e1 e2 e3 e4=>h2 j oj d v e1 e2 (by rw[←hupd];exact e3) e4) h3 ?_
     ·intro i2 o2 e1 e2 x hx
      simp only at e2⊢
      by_cases e:i=i2
      ·subst e
       rw[ho] at e1;injection e1 with e1
       subst e1;exact getD_set_true (g2 x hx)
      ·rw[getD_set_ne false e] at e2
       exact getD_set_true (hdc i2 o2 e1 e2 x hx)
     ·have:=mS (listed:=listed) (i:=i) (by omega) g1 ops.size
      rw[if_pos hio] at this;omega
    unfold wpOp;rw[hat i hil,ho];simp only;unfold wpList at hst
    by_cases hwant:Region.wanted o (yielded ops a.tmps)=true
    ·rw[if_pos hwant] at hst⊢
     rcases hst with hst|⟨h1,h2⟩
     ·exact .inl (Oper.wp_mono next (zu (Oper.wp_mono (fun a' w' h=>h) hst)))
     ·exact .inr ⟨h1,h2⟩
    ·rw[if_neg hwant] at hst⊢
     exact next _ _ hst
 refine key ops.size _ σ0 a _ (by simp) (fun i o _ h=> ?_) (fun i _ h=>by simp[h]) ha (fun j o d v _ _ h _=> ?_) ?_ ?_
 ·simp only[pG] at h;cases h
 ·rw[pG] at h;cases h
 ·have hrep:(fun j=>(Array.replicate ops.size false).getD j false)=fun _=>false:=funext fun i=>pG _ i
  rw[hrep];exact hw0
 ·have:∀k,left (Array.replicate ops.size false) k≤k:=by
   intro k
   induction k with
   |zero=>exact Nat.le_refl _
   |succ k ih=>unfold left;split<;>omega
  exact this _
end
end Go.Proofs.YtigoimhndlnhfaaGreat
namespace Go.Proofs.YtigoimhndlnhfaaGreat
open Go.RowKit
structure Kp (w w':World):Prop where
 size:w.heap.size≤w'.heap.size
 bN:∀k t cs,aH w k t cs→t≠71→t≠105→t≠219→aH w' k t cs
section
variable {w w' w'':World}
theorem Kp.refl (w:World):Kp w w:=⟨Nat.le_refl _,fun _ _ _ h _ _ _=>h⟩
theorem Kp.trans (a:Kp w w')(b:Kp w' w''):Kp w w'':=⟨Nat.le_trans a.size b.size,fun k t cs h h1 h2 h3=>b.bN k t cs (a.bN k t cs h h1 h2 h3) h1 h2 h3⟩
theorem Kp.step (a:Kp w w')(b:Below w'.heap.size w' w''):Kp w w'':=a.trans ⟨b.size,fun _ _ _ h _ _ _=>h.step b⟩
theorem Kp.fz {g:Nat}{cs:Array Value}(a:Kp w w')(k:aH w' g 219 cs)(b:Fz w'.heap.size g w' w''):Kp w w'':=a.trans ⟨b.size,fun i t cs h _ _ h3=>h.fz b fun e=>h3 (by
 subst e;have h1:w'.heap[i]? =_:=h;have h2:w'.heap[i]? =_:=k;rw[h1] at h2;injection h2 with h2
 injection h2)⟩
theorem Kp.put {g:Nat}{E:Prop}{T:TypeId}{cur cs:Array Value}(a:Kp w w')(k:aH w' g T cur)(p:hZ w' w'' g T cs)(_e:E)(hT:(T=71∨T=105∨T=219)∨w.heap.size≤g:=by first|exact .inl (by decide)|exact .inr (by omega)):Kp w w'':=by
 refine⟨Nat.le_trans a.size (Nat.le_of_eq p.size.symm),fun i t cs h h1 h2 h3=> ?_⟩;rcases hT with hT|hg
 ·exact(a.bN i t cs h h1 h2 h3).put p ((a.bN i t cs h h1 h2 h3).ne k (by rcases hT with rfl|rfl|rfl<;>assumption))
 ·exact(a.bN i t cs h h1 h2 h3).put p (by have:=h.lt;omega)
theorem Kp.app {B n size:Nat}{e:TypeId}{v:Value}{xs:List Value}(a:Kp w w')(o:Own w' B e size v n xs)(ha:App w' w'' B v)(hT:e=71∨e=105:=by decide):Kp w w'':=
 a.trans ⟨ha.below.size,fun i t cs h h1 h2 _=>h.grown ha.grown (fun e'=>bR o.row h (by rcases hT with rfl|rfl<;>exact fun e=>by first|exact h1 e.symm|exact h2 e.symm) e'.symm)⟩
end
theorem Kp.ao {w w':World}{k:Nat}{t:TypeId}{cs:Array Value}(a:Kp w w')(h:aH w k t cs)(h1:t≠71:=by decide)(h2:t≠105:=by decide)(h3:t≠219:=by decide):aH w' k t cs:=a.bN k t cs h h1 h2 h3
structure ey (W:World)(h gt:Nat)(es:List Ex)(ts:List Tm)(evs tvs:List Value)(vE vT:Value)(S:Nat→Prop):Prop where
 ui:evs.length=es.length
 xc:tvs.length=ts.length
 gY:Own W h 105 4 vE es.length (ax evs)
 dC:Own W h 71 4 vT ts.length (ax tvs)
 BN:∀(i:Nat) (e:Ex) (v:Value),es[i]? =some e→evs[i]? =some v→cr W S e v
 CA:∀(i:Nat) (t:Tm) (v:Value),ts[i]? =some t→tvs[i]? =some v→dR W S t v
 gK:∀b,S b→h≤b∧b<W.heap.size∧b≠gt∧vE.ownBlock≠some b∧vT.ownBlock≠some b
 BM:vE.ownBlock≠some gt
 Cr:vT.ownBlock≠some gt
section
variable {W W':World} {h gt g:Nat} {es:List Ex} {ts:List Tm} {evs tvs:List Value} {vE vT:Value} {S:Nat→Prop}
theorem Own.fP {B n size:Nat}{e:TypeId}{v:Value}{xs:List Value}(o:Own W B e size v n xs)(hs:W.heap.size≤W'.heap.size)(hb:∀b,v.ownBlock=some b→W'.heap[b]? =W.heap[b]?):Own W' B e size v n xs:=by
 obtain⟨h1,⟨h2,h3⟩|⟨g,cap,cur,rfl,e2,e3,e4⟩⟩:=o.row
 ·exact⟨h1, .inl ⟨h2,h3⟩⟩
 ·exact⟨h1, .inr ⟨g,cap,cur,rfl,e2,(hb g rfl).trans e3,e4⟩⟩
theorem ey.bN (a:ey W h gt es ts evs tvs vE vT S)(hs:W.heap.size≤W'.heap.size)(hb:∀b,h≤b→b<W.heap.size→b≠gt→W'.heap[b]? =W.heap[b]?):ey W' h gt es ts evs tvs vE vT S:=by
 have hS:∀p:Addr,S p.block→W'.cell? p=W.cell? p:=fun p hp=>by
  obtain⟨b1,b2,b3,-,-⟩:=a.gK _ hp;exact World.cell?_of_block (hb _ b1 b2 b3)
 refine⟨a.ui,a.xc,a.gY.fP hs fun b e=> ?_,a.dC.fP hs fun b e=> ?_,fun i e v h1 h2=>(a.BN i e v h1 h2).mono (fun _ h=>h) hS,fun i e v h1 h2=>(a.CA i e v h1 h2).mono (fun _ h=>h) hS,fun b hb=> ?_,a.BM,a.Cr⟩
 ·obtain⟨h1,h2⟩:=a.gY.aI b e
  exact hb b h1 h2 fun e'=>a.BM (by rw[e,e'])
 ·obtain⟨h1,h2⟩:=a.dC.aI b e
  exact hb b h1 h2 fun e'=>a.Cr (by rw[e,e'])
 ·obtain⟨b1,b2,b3,b4,b5⟩:=a.gK b hb
  exact⟨b1,by omega,b3,b4,b5⟩
theorem ey.fz (a:ey W h gt es ts evs tvs vE vT S)(f:Fz W.heap.size g W W')(hg:g<h):ey W' h gt es ts evs tvs vE vT S:=a.bN f.size fun b h1 h2 _=>f.block b h2 (by omega)
theorem ey.step (a:ey W h gt es ts evs tvs vE vT S)(f:Below W.heap.size W W'):ey W' h gt es ts evs tvs vE vT S:=a.bN f.size fun b _ h2 _=>f.block b h2
theorem ey.put {T:TypeId}{cur cs:Array Value}{B:Nat}(a:ey W h gt es ts evs tvs vE vT S)(_k:aH W gt T cur)(p:hZ W W' gt T cs)(_e:B≤gt):ey W' h gt es ts evs tvs vE vT S:=a.bN (Nat.le_of_eq p.size.symm) fun b _ h2 h3=>p.grown.block b h2 fun e=>h3 (by injection e)
end
theorem Own.o7 {w:World}{B s n:Nat}{e:TypeId}{v:Value}{xs ys:List Value}(o:Own w B e s v (n+1) (xs++ys))(hl:xs.length=n*s):∃g cap cur,v= .slice (some ⟨g,0,none⟩) (n+1) cap∧B≤g∧g<w.heap.size∧aH w g e cur∧n*s+s≤cur.size∧
  ∀(w':World) (cs:Array Value),cs.size=s→hZ w w' g e (cur.toList.take (n*s)++(cs.toList++cur.toList.drop (n*s+cs.size))).toArray→Own w' B e s v (n+1) (xs++cs.toList):=by
 obtain⟨h1,⟨-,h3⟩|⟨g,cap,cur,rfl,e2,e3,e4,e5,e6,e7⟩⟩:=o.row
 ·omega
 ·have hk:aH w g e cur:=e3
  have hm:(n+1)*s≤cap*s:=Nat.mul_le_mul_right s e4;have hns:(n+1)*s=n*s+s:=Nat.succ_mul n s;refine⟨g,cap,cur,rfl,e2,hk.lt,hk,by omega,fun w' cs hcs p=>⟨?_, .inr ⟨g,cap,_,rfl,e2,p.ao,e4,e5,?_,?_⟩⟩⟩
  ·have:cs.toList.length=s:=by simpa using hcs
   rw[List.length_append,hl,this,hns]
  ·have h9:cur.toList.length=cap*s:=by simpa using e6
   have:cs.toList.length=s:=by simpa using hcs
   simp only[List.size_toArray,List.length_append,List.length_take,List.length_drop,this,h9,hcs];omega
  ·have h9:cur.toList.length=cap*s:=by simpa using e6
   have h10:cs.toList.length=s:=by simpa using hcs
   have htk:cur.toList.take (n*s)=xs:=by
    have:=congrArg (List.take (n*s)) e7;rw[List.take_take,Nat.min_eq_left (by omega),←hl,List.take_left' rfl] at this;rw[←hl];exact this
   rw[htk,←List.append_assoc,hns,List.take_left' (by rw[List.length_append,hl,h10])]
theorem Own.two {W:World}{B B' n m s s':Nat}{e e':TypeId}{v u:Value}{xs ys:List Value}(o:Own W B e s v n xs)(o':Own W B' e' s' u m ys)(hne:e≠e'):AI v u:=fun b h1 h2=>by
 obtain⟨-,⟨rfl,-⟩|⟨g,cap,cur,rfl,-,e3,-⟩⟩:=o.row
 ·cases h1
 obtain⟨-,⟨rfl,-⟩|⟨g',cap',cur',rfl,-,e3',-⟩⟩:=o'.row
 ·cases h2
 injection h1 with h1
 injection h2 with h2
 have h1:g=b:=h1;have h2:g'=b:=h2;subst h1;subst h2;rw[e3] at e3';injection e3' with e3'
 injection e3' with _ e3'
 exact hne e3'
theorem ey.tM {W W':World}{h gt:Nat}{es:List Ex}{ts:List Tm}{evs tvs:List Value}{vE vT vE':Value}{S S':Nat→Prop}(a:ey W h gt es ts evs tvs vE vT S){x:Ex}{v:Value}(hr:cr W S' x v)(hS':∀b,S' b→h≤b∧b<W.heap.size∧b≠gt∧vE.ownBlock≠some b∧vT.ownBlock≠some b)
  (o:Own W' h 105 4 vE' (es.length+1) (ax evs++v.cells.toList)) (hs:W.heap.size≤W'.heap.size) (hb:∀b,h≤b→b<W.heap.size→b≠gt→vE.ownBlock≠some b→W'.heap[b]? =W.heap[b]?) (hv':vE'.ownBlock=vE.ownBlock∨∃N,vE'.ownBlock=some N∧W.heap.size≤N) (hgt:gt<W.heap.size):
  ey W' h gt (es++[x]) ts (evs++[v]) tvs vE' vT (fun b=>S b∨S' b):=by
 have htwo:AI vE vT:=a.gY.two a.dC (by decide);have hS:∀b,(S b∨S' b)→h≤b∧b<W.heap.size∧b≠gt∧vE.ownBlock≠some b∧vT.ownBlock≠some b:=fun b hb=>hb.elim (a.gK b) (hS' b)
 have hc:∀p:Addr,(S p.block∨S' p.block)→W'.cell? p=W.cell? p:=fun p hp=>by
  obtain⟨b1,b2,b3,b4,-⟩:=hS _ hp;exact World.cell?_of_block (hb _ b1 b2 b3 b4)
 have hneE:∀b,b<W.heap.size→vE.ownBlock≠some b→vE'.ownBlock≠some b:=fun b h1 h2 h3=>by
  rcases hv' with e|⟨N,e,hN⟩
  ·exact h2 (by rw[←e,h3])
  ·rw[e] at h3;injection h3 with h3;omega
 refine⟨by simp[a.ui],a.xc,?_,a.dC.fP hs fun b e=> ?_,fun i e u h1 h2=> ?_,fun i t u h1 h2=>(a.CA i t u h1 h2).mono (fun _ h=> .inl h) (fun p hp=>hc p (.inl hp)),fun b hb'=> ?_,hneE gt hgt a.BM,a.Cr⟩
 ·have hf:ax (evs++[v])=ax evs++v.cells.toList:=by rw[bO];simp[ax]
  rw[hf,List.length_append];exact o
 ·obtain⟨h1,h2⟩:=a.dC.aI b e
  exact hb b h1 h2 (fun e'=>a.Cr (by rw[e,e'])) (fun e'=>htwo b e' e)
 ·rcases Nat.lt_or_ge i es.length with hi|hi
  ·rw[List.getElem?_append_left hi] at h1
   rw[List.getElem?_append_left (by rw[a.ui];exact hi)] at h2;exact(a.BN i e u h1 h2).mono (fun _ h=> .inl h) (fun p hp=>hc p (.inl hp))
  ·rw[List.getElem?_append_right hi] at h1
   rw[List.getElem?_append_right (by rw[a.ui];exact hi),a.ui] at h2
   have h0:i-es.length=0:=by
    have:=(List.getElem?_eq_some_iff.1 h1).1;simp at this;exact this
   rw[h0] at h1 h2;injection h1 with h1
   injection h2 with h2
   subst h1 h2;exact hr.mono (fun _ h=> .inr h) (fun p hp=>hc p (.inr hp))
 ·obtain⟨b1,b2,b3,b4,b5⟩:=hS b hb'
  exact⟨b1,by omega,b3,hneE b b2 b4,b5⟩
theorem ey.uZ {W W':World}{h gt:Nat}{es:List Ex}{ts:List Tm}{evs tvs:List Value}{vE vT vT':Value}{S S':Nat→Prop}(a:ey W h gt es ts evs tvs vE vT S){x:Tm}{v:Value}(hr:dR W S' x v)(hS':∀b,S' b→h≤b∧b<W.heap.size∧b≠gt∧vE.ownBlock≠some b∧vT.ownBlock≠some b)
  (o:Own W' h 71 4 vT' (ts.length+1) (ax tvs++v.cells.toList)) (hs:W.heap.size≤W'.heap.size) (hb:∀b,h≤b→b<W.heap.size→b≠gt→vT.ownBlock≠some b→W'.heap[b]? =W.heap[b]?) (hv':vT'.ownBlock=vT.ownBlock∨∃N,vT'.ownBlock=some N∧W.heap.size≤N) (hgt:gt<W.heap.size):
  ey W' h gt es (ts++[x]) evs (tvs++[v]) vE vT' (fun b=>S b∨S' b):=by
 have htwo:AI vE vT:=a.gY.two a.dC (by decide);have hS:∀b,(S b∨S' b)→h≤b∧b<W.heap.size∧b≠gt∧vE.ownBlock≠some b∧vT.ownBlock≠some b:=fun b hb=>hb.elim (a.gK b) (hS' b)
 have hc:∀p:Addr,(S p.block∨S' p.block)→W'.cell? p=W.cell? p:=fun p hp=>by
  obtain⟨b1,b2,b3,-,b4⟩:=hS _ hp;exact World.cell?_of_block (hb _ b1 b2 b3 b4)
 have hneT:∀b,b<W.heap.size→vT.ownBlock≠some b→vT'.ownBlock≠some b:=fun b h1 h2 h3=>by
  rcases hv' with e|⟨N,e,hN⟩
  ·exact h2 (by rw[←e,h3])
  ·rw[e] at h3;injection h3 with h3;omega
 refine⟨a.ui,by simp[a.xc],a.gY.fP hs fun b e=> ?_,?_,fun i e u h1 h2=>(a.BN i e u h1 h2).mono (fun _ h=> .inl h) (fun p hp=>hc p (.inl hp)),fun i t u h1 h2=> ?_,fun b hb'=> ?_,a.BM,hneT gt hgt a.Cr⟩
 ·obtain⟨h1,h2⟩:=a.gY.aI b e
  exact hb b h1 h2 (fun e'=>a.BM (by rw[e,e'])) (fun e'=>htwo b e e')
 ·have hf:ax (tvs++[v])=ax tvs++v.cells.toList:=by rw[bO];simp[ax]
  rw[hf,List.length_append];exact o
 ·rcases Nat.lt_or_ge i ts.length with hi|hi
  ·rw[List.getElem?_append_left hi] at h1
   rw[List.getElem?_append_left (by rw[a.xc];exact hi)] at h2;exact(a.CA i t u h1 h2).mono (fun _ h=> .inl h) (fun p hp=>hc p (.inl hp))
  ·rw[List.getElem?_append_right hi] at h1
   rw[List.getElem?_append_right (by rw[a.xc];exact hi),a.xc] at h2
   have h0:i-ts.length=0:=by
    have:=(List.getElem?_eq_some_iff.1 h1).1;simp at this;exact this
   rw[h0] at h1 h2;injection h1 with h1
   injection h2 with h2
   subst h1 h2;exact hr.mono (fun _ h=> .inr h) (fun p hp=>hc p (.inr hp))
 ·obtain⟨b1,b2,b3,b4,b5⟩:=hS b hb'
  exact⟨b1,by omega,b3,b4,hneT b b2 b5⟩
def Cn (W:World)(x:Ex)(v:Value)(W':World):Prop:=∃S:Nat→Prop,cr W' S x v∧∀b,S b→W.heap.size≤b∧b<W'.heap.size
def Fi (W:World)(x:Tm)(v:Value)(W':World):Prop:=∃S:Nat→Prop,dR W' S x v∧∀b,S b→W.heap.size≤b∧b<W'.heap.size
structure XA {α:Type}(lE:World→(Nat→Prop)→α→Value→Prop)(K:Ctx)(w1:World)(p d:Nat)(r:Rs α)(done made:Bool)(S':Nat→Prop)(v:Value)(g7:Nat)(zt:TypeId)(zc:Array Value)(w:World):Prop where
 fz:Fz w1.heap.size K.g w1 w
 pre:done=false→PW K w p d false
 post:done=true→∃x p',r= .ok x p'∧PW K w p' d false∧lE w S' x v∧∀b,S' b→w1.heap.size≤b∧b<w.heap.size
 new:made=true→w1.heap.size≤g7∧aH w g7 zt zc∧(done=true→¬S' g7)
theorem aH.yO {w w':World}{k g:Nat}{T T':TypeId}{cs cs':Array Value}{h:Nat}(b:aH w k T cs)(q:aH w g T' cs')(a:Fz h g w w')(hh:w.heap.size≤h)(hne:T≠T':=by decide):aH w' k T cs:=b.fz (a.less hh) (b.ne q hne)
theorem dR.bQ {w:World}{S:Nat→Prop}{t:Tm}{v:Value}(h:dR w S t v):v.cells.size=4∧∀u∈v.cells.toList,u.oneCell'=true:=by
 obtain⟨A,c,A',c',rfl⟩:=h.form;refine⟨rfl,fun u hu=> ?_⟩;simp[Value.cells] at hu;rcases hu with rfl|rfl|rfl|rfl<;>rfl
theorem cr.bQ {w:World}{S:Nat→Prop}{t:Ex}{v:Value}(h:cr w S t v):v.cells.size=4∧∀u∈v.cells.toList,u.oneCell'=true:=by
 obtain⟨A,c,rfl⟩:=h.form;refine⟨rfl,fun u hu=> ?_⟩;simp[Value.cells] at hu;rcases hu with rfl|rfl|rfl|rfl<;>rfl
theorem nj:bz Tryz.prog 4=some (some (.bool false)):=by kernel_rfl
theorem iI:∀ {l:List Value},(∀u∈l,u.oneCell'=true)→bQ l
 | [],_=>trivial
 |v::r,h=>⟨h v List.mem_cons_self,iI fun u hu=>h u (List.mem_cons_of_mem _ hu)⟩
theorem BQ (K:Ctx)(hK:K.Ok)(h0 gt b0 b1 d p:Nat)(op:Int)(nm:List Nat)(es:List Ex)(ts:List Tm)(evs tvs:List Value)(vE vT:Value)(S0:Nat→Prop)(T:Nat→Nat→Rs Tm)(w:World)(pw:PW K w p d false)(hg0:K.g<h0)(hgt:h0≤gt)(hh:h0≤w.heap.size)
  (kt:aH w gt 71 #[.int .i64 op, .string (strOf nm),vE,vT]) (kb0:aH w b0 227 #[.pointer (some ⟨gt,0,none⟩)]) (kb1:aH w b1 189 #[.pointer (some ⟨K.g,0,none⟩)]) (aq:ey w h0 gt es ts evs tvs vE vT S0) (hl:ts.length≤10)
  (hc:∀W,PW K W p d false→Fz w.heap.size K.g w W→Calls Tryz.prog 128 #[.pointer (some ⟨K.g,0,none⟩)] W (PR K W d (T p d) (Fi W))) (hne:T p d≠ .out):
  Calls Tryz.prog 212 #[.pointer (some ⟨b0,0,none⟩), .pointer (some ⟨b1,0,none⟩)] w (uT K h0 w d (T p d) fun x _ W'=>Kp w W'∧∃evs tvs vE vT S,aH W' gt 71 #[.int .i64 op, .string (strOf nm),vE,vT]∧ey W' h0 gt es (ts++[x]) evs tvs vE vT S):=by
 have hle:=hK.le;have hgg:K.g<w.heap.size:=pw.ao.lt;have hgtl:gt<w.heap.size:=kt.lt;obtain⟨AE,cE,rfl,-⟩:=aq.gY.reads;obtain⟨AT,cT,rfl,-⟩:=aq.dC.reads;refine Zs 27 Tryz.func212 ?_;refine Cd.seq ?_;refine Cd.ot (σT:=Nat × Bool) 3 (by kernel_rfl) rfl rfl (fun σ=>[.pointer (some ⟨σ.1,0,none⟩),undef,undef]) (fun σ S W=>Below w.heap.size w W∧(S 0=true→w.heap.size≤σ.1∧aH W σ.1 4 #[.bool σ.2])) ((0,false)) ?_ ?_ ?_
 ·intro w0 hb0 hs0
  exact⟨hb0,fun h=>by cases h⟩
 ·intro k o ho
  match k,ho with
  |0,ho=>
   injection ho with ho
   subst ho;intro σ S w hS hpre hdc hX;refine Zl nj ?_;intro g2 w' n2;refine Seq.nil ?_;exact ab.aQ (σ:=σ) (σ':=(g2,false)) rfl rfl rfl hpre rfl (fun j hj=>by cases j with|zero=>rw[hS] at hj;cases hj|succ j=>rfl) ⟨hX.1.trans (n2.below.mono hX.1.size),fun _=>⟨Nat.le_trans hX.1.size n2.ge,n2.ao⟩⟩
  |1,ho=>
   injection ho with ho
   subst ho;intro σ S w hS hpre hdc hX;have h2:=hX.2 (hpre 0 (aG rfl));refine Zq h2.2 ?_;intro w' pq;refine Seq.nil ?_;exact ab.lg (σ:=σ) (σ':=(σ.1,true)) rfl rfl rfl (fun _ _=>rfl) ⟨pq.jv hX.1 h2.1 h2.2.lt,fun _=>⟨h2.1,pq.ao⟩⟩
  |2,ho=>
   injection ho with ho
   subst ho;intro σ S w hS hpre hdc hX;have h2:=hX.2 (hpre 0 (aG rfl));refine Zq h2.2 ?_;intro w' pq;refine Seq.nil ?_;exact ab.lg (σ:=σ) (σ':=(σ.1,false)) rfl rfl rfl (fun _ _=>rfl) ⟨pq.jv hX.1 h2.1 h2.2.lt,fun _=>⟨h2.1,pq.ao⟩⟩
  |k+3,ho=>simp at ho
 rintro⟨g2,b2⟩ S w2 hS ⟨bel2,hX⟩;obtain⟨e2,k2⟩:=hX (hS 0 (by decide));dsimp only at e2 k2;have pw2:=pw.step hle bel2;have kt2:=kt.step bel2;have kb02:=kb0.step bel2;have kb12:=kb1.step bel2;have aq2:=aq.step bel2;have hs2:=bel2.size;have fz2:Fz w.heap.size K.g w w2:=Fz.of bel2;have kp2:Kp w w2:=(Kp.refl w).step bel2;have hh2:h0≤w2.heap.size:=by omega
 clear pw kt kb0 kb1 aq hX;have hcall:∀W,PW K W p d false→Fz w2.heap.size K.g w2 W→Calls Tryz.prog 128 #[.pointer (some ⟨K.g,0,none⟩)] W (PR K W d (T p d) (Fi W)):=fun W h1 h2=>hc W h1 (fz2.trans (h2.less hs2));refine ZL Tryz.underlying4 k2 ?_;refine bu 0 1 3 (Zt ?_);refine Cd.cond rfl (fun hcn=> ?_) (fun hcn=> ?_)
 ·skip
  refine Cd.seq ?_;refine Cd.ot (σT:=Value × (Nat→Prop) × Nat) 8 (by kernel_rfl) rfl rfl (fun σ=>[.pointer (some ⟨gt,0,none⟩), .pointer (some ⟨gt,0,none⟩), .pointer (some ⟨gt,3,none⟩), .slice AT ts.length cT, .pointer (some ⟨K.g,0,none⟩),σ.1, .int .i64 (ts.length:Int), .slice (some ⟨σ.2.2,0,none⟩) 1 1]) (fun σ S W=>XA dR K w2 p d (T p d) (S 5) (S 7) σ.2.1 σ.1 σ.2.2 71 #[.int .i64 0, .string {data:= #[]}, .slice none 0 0, .slice none 0 0] W) ((undef,fun _=>False,0)) ?_ ?_ ?_
  ·intro w0 hb0 hs0
   exact⟨Fz.of hb0,fun _=>pw2.step hle hb0,fun h=>(by cases h),fun h=>(by cases h)⟩
  ·intro k o ho
   match k,ho with
   |0,ho=>
    injection ho with ho
    subst ho;intro σ S w hS hpre hdc hX;refine Seq.val (aa.an (g:=b0) (i:=0) rfl rfl Tryz.underlying227 rfl (kb02.yO pw2.ao hX.fz (Nat.le_refl _)) rfl) rfl rfl rfl (Seq.nil ?_);exact ab.aQ rfl rfl rfl hpre rfl (fun _ _=>rfl) hX
   |1,ho=>
    injection ho with ho
    subst ho;intro σ S w hS hpre hdc hX;refine Seq.val (aa.nilCheck rfl rfl) rfl rfl rfl (Seq.nil ?_);exact ab.aQ rfl rfl rfl hpre rfl (fun _ _=>rfl) hX
   |2,ho=>
    injection ho with ho
    subst ho;intro σ S w hS hpre hdc hX;refine Seq.val (aa.eR 3 rfl rfl Tryz.underlying71 rfl (by kernel_rfl)) rfl rfl rfl (Seq.nil ?_);exact ab.aQ rfl rfl rfl hpre rfl (fun _ _=>rfl) hX
   |3,ho=>
    injection ho with ho
    subst ho;intro σ S w hS hpre hdc hX;refine Seq.val (aa.an (g:=gt) (i:=3) rfl rfl Tryz.underlying69 rfl (kt2.fz hX.fz (by omega)) rfl) rfl rfl rfl (Seq.nil ?_);exact ab.aQ rfl rfl rfl hpre rfl (fun _ _=>rfl) hX
   |4,ho=>
    injection ho with ho
    subst ho;intro σ S w hS hpre hdc hX;refine Seq.val (aa.an (g:=b1) (i:=0) rfl rfl Tryz.underlying189 rfl (kb12.yO pw2.ao hX.fz (Nat.le_refl _)) rfl) rfl rfl rfl (Seq.nil ?_);exact ab.aQ rfl rfl rfl hpre rfl (fun _ _=>rfl) hX
   |5,ho=>
    injection ho with ho
    subst ho;intro σ S w hS hpre hdc hX;have hcl:=hcall w (hX.pre hS) hX.fz;rcases Rs.de hne with ⟨q,ov,hr⟩|⟨x,q,hr⟩
    ·rw[hr] at hcl
     refine Seq.cw (Ze Tryz.func128) rfl hcl ?_;rintro e w6 ⟨hf,rfl,d6,hp6⟩;refine⟨_,rfl,fun a ha=>⟨ha.defers,?_⟩⟩;rw[hr];exact⟨(fz2.trans ((hX.fz.call hf).less hs2)).less hh,rfl,d6,hp6⟩
    ·rw[hr] at hcl
     refine Zc (Ze Tryz.func128) hcl ?_;rintro e w6 ⟨hf,v6,rfl,hp6,S6,hr6,hb6⟩;refine⟨_,rfl,Seq.nil ?_⟩;have hsz:=hX.fz.size;refine ab.aQ (σ:=σ) (σ':=(v6,S6,σ.2.2)) rfl rfl rfl hpre rfl (fun j hj=> ?_) ⟨hX.fz.call hf,(fun h=>by cases h),fun _=>⟨x,q,hr,hp6,hr6,fun b hb=>⟨by have:=(hb6 b hb).1;omega,(hb6 b hb).2⟩⟩,fun hm=> ?_⟩
     ·match j,hj with
      |0,_=>rfl
      |1,_=>rfl
      |2,_=>rfl
      |3,_=>rfl
      |4,_=>rfl
      |5,hj=>rw[hS] at hj;cases hj
      |6,_=>rfl
      |7,_=>rfl
      |j+8,_=>rfl
     ·obtain⟨m1,m2,-⟩:=hX.new hm
      exact⟨m1,m2.fz hf (by omega),fun _ hb=>Nat.lt_irrefl _ (Nat.lt_of_lt_of_le m2.lt (hb6 _ hb).1)⟩
   |6,ho=>
    injection ho with ho
    subst ho;intro σ S w hS hpre hdc hX;refine Seq.val (aa.len rfl rfl Tryz.underlying69) rfl rfl rfl (Seq.nil ?_);exact ab.aQ rfl rfl rfl hpre rfl (fun _ _=>rfl) hX
   |7,ho=>
    injection ho with ho
    subst ho;intro σ S w hS hpre hdc hX;refine Seq.slice (vs:=[.agg #[.int .i64 0, .string {data:= #[]}, .slice none 0 0, .slice none 0 0]]) (s:=4) rfl rfl rfl Tryz.underlying69 (by kernel_rfl) aK (by omega) (by omega) ⟨rfl,trivial⟩ rfl rfl rfl ?_;intro g7 w' n7;refine Seq.nil ?_;have hsz:=hX.fz.size;refine ab.aQ (σ:=σ) (σ':=(σ.1,σ.2.1,g7)) rfl rfl rfl hpre rfl (fun j hj=> ?_) ⟨hX.fz.step n7.below,fun h=>(hX.pre h).step hle n7.below,fun h=> ?_,fun _=>⟨Nat.le_trans hsz n7.ge,n7.ao,fun h hb=> ?_⟩⟩
    ·match j,hj with
     |0,_=>rfl
     |1,_=>rfl
     |2,_=>rfl
     |3,_=>rfl
     |4,_=>rfl
     |5,_=>rfl
     |6,_=>rfl
     |7,hj=>rw[hS] at hj;cases hj
     |j+8,_=>rfl
    ·obtain⟨x,q,q1,q2,q3,q4⟩:=hX.post h
     exact⟨x,q,q1,q2.step hle n7.below,q3.mono (fun _ h=>h) (fun a ha=>n7.below.cell (q4 _ ha).2),fun b hb=>⟨(q4 b hb).1,Nat.lt_of_lt_of_le (q4 b hb).2 n7.below.size⟩⟩
    ·obtain⟨x,q,q1,q2,q3,q4⟩:=hX.post h
     exact Nat.lt_irrefl _ (Nat.lt_of_lt_of_le (q4 _ hb).2 n7.ge)
   |k+8,ho=>simp at ho
  ·rintro⟨v5,S5,g7⟩ S w3 hS hX
   obtain⟨x,q,hr,pw3,hrep,haway⟩:=hX.post (hS 5 (by decide));obtain⟨e7,k7,hn7⟩:=hX.new (hS 7 (by decide));dsimp only at hrep haway e7 k7;have fz3:=hX.fz;clear hX;have hs3:=fz3.size;have k90:=kt2.fz fz3 (by omega);have aq3:=aq2.fz fz3 hg0;have kp3:Kp w w3:=kp2.fz pw2.ao fz3;have e90:h0≤gt:=hgt;have bel:Fz h0 K.g w w3:=(fz2.trans (fz3.less hs2)).less hh;have hh3:h0≤w3.heap.size:=by omega
   have hown:=aq3.dC;have hones:=hrep.bQ;rw[hr];refine Seq.eI rfl rfl rfl Tryz.underlying69 (by kernel_rfl) aK rfl (by decide) (b:=72) (by kernel_rfl) hown (Reads.ao (size:=4) k7 1 rfl) (by intro z hz;simp at hz;rcases hz with rfl|rfl|rfl|rfl<;>rfl) hh3 (by simp only[maxLen];omega) (by omega) rfl rfl rfl ?_;intro v' w4 hown' happ hv';obtain⟨AV,cV,hvV,-⟩:=hown'.reads;subst hvV;have k90':=k90.grown happ.grown (fun e=>aq3.Cr e.symm);have pw4:PW K w4 q d false:=⟨pw3.ao.grown happ.grown (fun e=>by have:=hown.aI _ e.symm;omega),pw3.rd.below (happ.below.mono (by omega)),pw3.dy,pw3.dP⟩;have kp4:=kp3.app hown happ;have bel4:Fz h0 K.g w w4:=bel.trans (Fz.of happ.below);have hs4:=happ.below.size;have hgrow:=happ.grown;clear bel k90 kp3;have bel:=bel4;have k90:=k90';have kp:=kp4;have pwk:=pw4.ao;refine Zv (aa.nilCheck rfl rfl) ?_;refine Zf 3 Tryz.underlying71 ?_;refine Zq k90 ?_;intro w1 pw1;replace bel:=bel.put k90 pw1 e90;replace kp:=kp.put k90 pw1 e90;replace k90:=pw1.ao;refine bl 0 1 3 9 10 12 (dU ?_);have hb5:∀b,b<w3.heap.size→b≠gt→(Value.slice AT ts.length cT).ownBlock≠some b→w1.heap[b]? =w3.heap[b]? :=fun b h1 h2 h3=>(pw1.grown.block b (by omega) (fun e=>h2 (by injection e))).trans (hgrow.block b h1 (fun e=>h3 e.symm))
   have hvown:∀b,(Value.slice AV (ts.length+1) cV).ownBlock=some b→b≠gt:=fun b e1 e2=>by
    rcases hv' with e|e
    ·exact aq3.Cr (by rw[←e,e1,e2])
    ·rw[e] at e1;injection e1 with e1;omega
   have hown5:Own w1 h0 71 4 (.slice AV (ts.length+1) cV) (ts.length+1) (ax tvs++_):=hown'.fP (Nat.le_of_eq pw1.size.symm) fun b e=>pw1.grown.block b ((hown'.aI b e).2) (fun e'=>hvown b e (by injection e'));have hlv:(ax tvs).length=ts.length*4:=hown.row.1;obtain⟨gv,cap,cur,hvv,hgv,hgvl,kv,hfit,hset⟩:=hown5.o7 hlv;have hgne:gv≠gt:=hvown gv (by rw[hvv];rfl);obtain⟨rfl,rfl⟩:AV=some ⟨gv,0,none⟩∧cV=cap:=by injection hvv with h1 _ h3;exact⟨h1,h3⟩
   have haddr:(⟨gv,0,none⟩:Addr).add (ts.length*4)=⟨gv,ts.length*4,none⟩:=by unfold Addr.add;split<;>simp_all
   refine Zv (aa.aR rfl rfl rfl Tryz.underlying69 (s:=4) (by kernel_rfl) (j:=ts.length) rfl (by omega)) ?_;rw[haddr];refine Seq.jQ rfl rfl rfl rfl (m:=4) (by kernel_rfl) hones.1 (iI hones.2) kv (by rw[hones.1];exact hfit) rfl rfl ?_;intro w6 p6;have hown6:=hset w6 v5.cells hones.1 p6;have kp6:Kp w w6:=kp.put kv p6 hgv;have bel6:Fz h0 K.g w w6:=bel.put kv p6 hgv;have k906:=k90.put p6 (fun e=>hgne e.symm);have pw6:PW K w6 q d false:=⟨(pwk.put pw1 (by omega)).put p6 (by omega),(pw4.rd.below (pw1.below (by omega) k90'.lt)).below (p6.below (by omega) hgvl),pw3.dy,pw3.dP⟩;have hsl:=p6.size;have hsl2:=pw1.size
   have aq6:=aq3.uZ hrep (fun b hb=>⟨by have:=(haway b hb).1;omega,(haway b hb).2,by have:=(haway b hb).1;omega,fun e=>by have:=(aq2.gY.aI b e).2;have:=(haway b hb).1;omega,fun e=>by have:=(aq2.dC.aI b e).2;have:=(haway b hb).1;omega⟩) hown6 (by omega)
    (fun b _ h2 h3 h4=>(p6.grown.block b (by omega) (fun e=>by
     injection e with e
     rcases hv' with e'|e'
     ·exact h4 (by rw[←e',e];rfl)
     ·injection e' with e'
      have e':gv=w3.heap.size:=e';omega)).trans (hb5 b h2 h3 h4))
    (hv'.elim .inl fun e=> .inr ⟨_,e,Nat.le_refl _⟩) (by omega)
   refine bl 0 1 3 9 10 12 ?_;refine ab.eP rfl (.inr rfl) ?_;exact⟨bel6,_,rfl,pw6,kp6,_,_,_,_,_,k906,aq6⟩
 ·skip
  refine Cd.ot (σT:=Value × (Nat→Prop) × Nat × Value) 9 (by kernel_rfl) rfl rfl (fun σ=>[.pointer (some ⟨gt,0,none⟩), .pointer (some ⟨gt,0,none⟩), .pointer (some ⟨gt,0,none⟩), .pointer (some ⟨gt,3,none⟩), .slice AT ts.length cT, .pointer (some ⟨K.g,0,none⟩),σ.1, .slice (some ⟨σ.2.2.1,0,none⟩) 1 1,σ.2.2.2]) (fun σ S W=>(S 8=false→XA dR K w2 p d (T p d) (S 6) (S 7) σ.2.1 σ.1 σ.2.2.1 71 σ.1.cells W)∧(S 8=true→∃x q,T p d= .ok x q∧Kp w2 W∧Fz h0 K.g w2 W∧PW K W q d false∧aH W gt 71 #[.int .i64 op, .string (strOf nm), .slice AE es.length cE, .slice AT ts.length cT]∧∃S',ey W h0 gt es (ts++[x]) evs (tvs++[σ.1]) (.slice AE es.length cE) σ.2.2.2 S')) ((undef,fun _=>False,0,undef)) ?_ ?_ ?_
  ·intro w0 hb0 hs0
   exact⟨fun _=>⟨Fz.of hb0,fun _=>pw2.step hle hb0,fun h=>(by cases h),fun h=>(by cases h)⟩,fun h=>(by cases h)⟩
  ·intro k o ho
   match k,ho with
   |0,ho=>
    injection ho with ho
    subst ho;intro σ S w hS hpre hdc hX
    have hb:aH w b0 227 #[.pointer (some ⟨gt,0,none⟩)]:=by
     cases h8:S 8 with
     |false=>exact kb02.yO pw2.ao (hX.1 h8).fz (Nat.le_refl _)
     |true=>obtain⟨x,q,-,hkp,-⟩:=hX.2 h8;exact hkp.ao kb02
    refine Seq.val (aa.an (g:=b0) (i:=0) rfl rfl Tryz.underlying227 rfl hb rfl) rfl rfl rfl (Seq.nil ?_);exact ab.aQ rfl rfl rfl hpre rfl (fun _ _=>rfl) hX
   |1,ho=>
    injection ho with ho
    subst ho;intro σ S w hS hpre hdc hX
    have hb:aH w b0 227 #[.pointer (some ⟨gt,0,none⟩)]:=by
     cases h8:S 8 with
     |false=>exact kb02.yO pw2.ao (hX.1 h8).fz (Nat.le_refl _)
     |true=>obtain⟨x,q,-,hkp,-⟩:=hX.2 h8;exact hkp.ao kb02
    refine Seq.val (aa.an (g:=b0) (i:=0) rfl rfl Tryz.underlying227 rfl hb rfl) rfl rfl rfl (Seq.nil ?_);exact ab.aQ rfl rfl rfl hpre rfl (fun _ _=>rfl) hX
   |2,ho=>
    injection ho with ho
    subst ho;intro σ S w hS hpre hdc hX;refine Seq.val (aa.nilCheck rfl rfl) rfl rfl rfl (Seq.nil ?_);exact ab.aQ rfl rfl rfl hpre rfl (fun _ _=>rfl) hX
   |3,ho=>
    injection ho with ho
    subst ho;intro σ S w hS hpre hdc hX;refine Seq.val (aa.eR 3 rfl rfl Tryz.underlying71 rfl (by kernel_rfl)) rfl rfl rfl (Seq.nil ?_);exact ab.aQ rfl rfl rfl hpre rfl (fun _ _=>rfl) hX
   |4,ho=>
    injection ho with ho
    subst ho;intro σ S w hS hpre hdc hX
    have h8:S 8=false:=by
     cases h8:S 8 with
     |false=>rfl
     |true=>have:=hdc 8 _ rfl h8 4 (aG rfl);rw[hS] at this;cases this
    refine Seq.val (aa.an (g:=gt) (i:=3) rfl rfl Tryz.underlying69 rfl (kt2.fz (hX.1 h8).fz (by omega)) rfl) rfl rfl rfl (Seq.nil ?_);exact ab.aQ rfl rfl rfl hpre rfl (fun _ _=>rfl) hX
   |5,ho=>
    injection ho with ho
    subst ho;intro σ S w hS hpre hdc hX
    have hb:aH w b1 189 #[.pointer (some ⟨K.g,0,none⟩)]:=by
     cases h8:S 8 with
     |false=>exact kb12.yO pw2.ao (hX.1 h8).fz (Nat.le_refl _)
     |true=>obtain⟨x,q,-,hkp,-⟩:=hX.2 h8;exact hkp.ao kb12
    refine Seq.val (aa.an (g:=b1) (i:=0) rfl rfl Tryz.underlying189 rfl hb rfl) rfl rfl rfl (Seq.nil ?_);exact ab.aQ rfl rfl rfl hpre rfl (fun _ _=>rfl) hX
   |6,ho=>
    injection ho with ho
    subst ho;intro σ S w hS hpre hdc hX
    have h8:S 8=false:=by
     cases h8:S 8 with
     |false=>rfl
     |true=>have:=hdc 8 _ rfl h8 6 (aG rfl);rw[hS] at this;cases this
    have h7:S 7=false:=by
     cases h7:S 7 with
     |false=>rfl
     |true=>have:=hdc 7 _ rfl h7 6 (aG rfl);rw[hS] at this;cases this
    have hXa:=hX.1 h8;have hcl:=hcall w (hXa.pre hS) hXa.fz;rcases Rs.de hne with ⟨q,ov,hr⟩|⟨x,q,hr⟩
    ·rw[hr] at hcl
     refine Seq.cw (Ze Tryz.func128) rfl hcl ?_;rintro e w6 ⟨hf,rfl,d6,hp6⟩;refine⟨_,rfl,fun a ha=>⟨ha.defers,?_⟩⟩;rw[hr];exact⟨(fz2.trans ((hXa.fz.call hf).less hs2)).less hh,rfl,d6,hp6⟩
    ·rw[hr] at hcl
     refine Zc (Ze Tryz.func128) hcl ?_;rintro e w6 ⟨hf,v6,rfl,hp6,S6,hr6,hb6⟩;refine⟨_,rfl,Seq.nil ?_⟩;have hsz:=hXa.fz.size;refine ab.aQ (σ:=σ) (σ':=(v6,S6,σ.2.2.1,σ.2.2.2)) rfl rfl rfl hpre rfl (fun j hj=> ?_) ⟨fun _=>⟨hXa.fz.call hf,(fun h=>by cases h),fun _=>⟨x,q,hr,hp6,hr6,fun b hb=>⟨by have:=(hb6 b hb).1;omega,(hb6 b hb).2⟩⟩,fun hm=> ?_⟩,fun hm=> ?_⟩
     ·match j,hj with
      |0,_=>rfl
      |1,_=>rfl
      |2,_=>rfl
      |3,_=>rfl
      |4,_=>rfl
      |5,_=>rfl
      |6,hj=>rw[hS] at hj;cases hj
      |7,hj=>rw[h7] at hj;cases hj
      |8,_=>rfl
      |j+9,_=>rfl
     ·have hm:S 7=true:=hm
      rw[h7] at hm;cases hm
     ·have hm:S 8=true:=hm
      rw[h8] at hm;cases hm
   |7,ho=>
    injection ho with ho
    subst ho;intro σ S w hS hpre hdc hX
    have h8:S 8=false:=by
     cases h8:S 8 with
     |false=>rfl
     |true=>have:=hdc 8 _ rfl h8 7 (aG rfl);rw[hS] at this;cases this
    have hXa:=hX.1 h8;obtain⟨x,q,q1,q2,q3,q4⟩:=hXa.post (hpre 6 (aG rfl));have hones:=q3.bQ;refine Seq.slice (vs:=[σ.1]) (s:=4) rfl rfl rfl Tryz.underlying69 (by kernel_rfl) aK (by omega) (by omega) ⟨hones.1,trivial⟩ rfl rfl rfl ?_;intro g7 w' n7;refine Seq.nil ?_;have hsz:=hXa.fz.size;have hcells:(ax [σ.1]).toArray=σ.1.cells:=by simp[ax]
    have n7b:=n7.ao;rw[hcells] at n7b;refine ab.aQ (σ:=σ) (σ':=(σ.1,σ.2.1,g7,σ.2.2.2)) rfl rfl rfl hpre rfl (fun j hj=> ?_) ⟨fun _=>⟨hXa.fz.step n7.below,fun h=>(hXa.pre h).step hle n7.below,fun h=> ?_,fun _=>⟨Nat.le_trans hsz n7.ge,n7b,fun h hb=> ?_⟩⟩,fun hm=> ?_⟩
    ·match j,hj with
     |0,_=>rfl
     |1,_=>rfl
     |2,_=>rfl
     |3,_=>rfl
     |4,_=>rfl
     |5,_=>rfl
     |6,_=>rfl
     |7,hj=>rw[hS] at hj;cases hj
     |8,_=>rfl
     |j+9,_=>rfl
    ·exact⟨x,q,q1,q2.step hle n7.below,q3.mono (fun _ h=>h) (fun a ha=>n7.below.cell (q4 _ ha).2),fun b hb=>⟨(q4 b hb).1,Nat.lt_of_lt_of_le (q4 b hb).2 n7.below.size⟩⟩
    ·exact Nat.lt_irrefl _ (Nat.lt_of_lt_of_le (q4 _ hb).2 n7.ge)
    ·have hm:S 8=true:=hm
     rw[h8] at hm;cases hm
   |8,ho=>
    injection ho with ho
    subst ho;intro σ S w hS hpre hdc hX;have hXa:=hX.1 hS;obtain⟨x,q,hr,pw3,hrep,haway⟩:=hXa.post (hpre 6 (aG rfl));obtain⟨e7,k7,hn7⟩:=hXa.new (hpre 7 (aG rfl));have hones:=hrep.bQ;have hsz:=hXa.fz.size;have aq3:=aq2.fz hXa.fz hg0;have hown:=aq3.dC;have k90:=kt2.fz hXa.fz (by omega);refine Seq.eI rfl rfl rfl Tryz.underlying69 (by kernel_rfl) aK rfl (by decide) (b:=72) (by kernel_rfl) hown (Reads.ao (size:=4) k7 1 hones.1) hones.2 (by omega) (by simp only[maxLen];omega) (by omega) rfl rfl rfl ?_;intro v' w4 hown' happ hv';refine Seq.nil ?_;have hs4:=happ.below.size
    have aq6:=aq3.uZ hrep (fun b hb=>⟨by have:=(haway b hb).1;omega,(haway b hb).2,by have:=(haway b hb).1;omega,fun e=>by have:=(aq2.gY.aI b e).2;have:=(haway b hb).1;omega,fun e=>by have:=(aq2.dC.aI b e).2;have:=(haway b hb).1;omega⟩) hown' hs4
     (fun b _ h2 h3 h4=>happ.grown.block b h2 (fun e=>h4 e.symm)) (hv'.elim .inl fun e=> .inr ⟨_,e,Nat.le_refl _⟩) (by omega)
    refine ab.aQ (σ:=σ) (σ':=(σ.1,σ.2.1,σ.2.2.1,v')) rfl rfl rfl hpre rfl (fun j hj=> ?_) ⟨(fun h=>by cases h),fun _=>⟨x,q,hr,((Kp.refl w2).fz pw2.ao hXa.fz).app hown happ,(hXa.fz.less hh2).trans (Fz.of happ.below),⟨pw3.ao.grown happ.grown (fun e=>by have:=hown.aI _ e.symm;omega),pw3.rd.below (happ.below.mono (by omega)),pw3.dy,pw3.dP⟩,k90.grown happ.grown (fun e=>aq3.Cr e.symm),_,aq6⟩⟩
    match j,hj with
    |0,_=>rfl
    |1,_=>rfl
    |2,_=>rfl
    |3,_=>rfl
    |4,_=>rfl
    |5,_=>rfl
    |6,_=>rfl
    |7,_=>rfl
    |8,hj=>rw[hS] at hj;cases hj
    |j+9,_=>rfl
   |k+9,ho=>simp at ho
  ·rintro⟨v6,S6,g7,v8⟩ S w3 hS hX
   obtain⟨x,q,hr,kp3,fz3,pw3,k90,S',aq3⟩:=hX.2 (hS 8 (by decide));clear hX;dsimp only at aq3;have hs3:=fz3.size;have e90:h0≤gt:=hgt;have bel:Fz h0 K.g w w3:=(fz2.less hh).trans fz3;have kp:=kp2.trans kp3;have pwk:=pw3.ao;have hlt3:=k90.lt;rw[hr];obtain⟨AX,cX,hvX,-⟩:=aq3.dC.reads;subst hvX;refine Zv (aa.nilCheck rfl rfl) ?_;refine Zf 3 Tryz.underlying71 ?_;refine Zq k90 ?_;intro w1 pw1;replace bel:=bel.put k90 pw1 e90;replace kp:=kp.put k90 pw1 e90;replace aq3:=aq3.put k90 pw1 e90;replace k90:=pw1.ao;refine bu 0 1 3 ?_;have pw5:PW K w1 q d false:=⟨pwk.put pw1 (by omega),pw3.rd.below (pw1.below (by omega) hlt3),pw3.dy,pw3.dP⟩;refine ab.eP rfl (.inr rfl) ?_;exact⟨bel,_,rfl,pw5,kp,_,_,_,_,_,k90,aq3⟩
theorem zO (K:Ctx)(hK:K.Ok)(h0 gt b0 b1 d p:Nat)(op:Int)(nm:List Nat)(es:List Ex)(ts:List Tm)(evs tvs:List Value)(vE vT:Value)(S0:Nat→Prop)(T:Nat→Nat→Rs Ex)(w:World)(pw:PW K w p d false)(hg0:K.g<h0)(hgt:h0≤gt)(hh:h0≤w.heap.size)
  (kt:aH w gt 71 #[.int .i64 op, .string (strOf nm),vE,vT]) (kb0:aH w b0 227 #[.pointer (some ⟨gt,0,none⟩)]) (kb1:aH w b1 189 #[.pointer (some ⟨K.g,0,none⟩)]) (aq:ey w h0 gt es ts evs tvs vE vT S0) (hl:es.length≤10)
  (hc:∀W,PW K W p d false→Fz w.heap.size K.g w W→Calls Tryz.prog 151 #[.pointer (some ⟨K.g,0,none⟩), .int .i64 0] W (PR K W d (T p d) (Cn W))) (hne:T p d≠ .out):
  Calls Tryz.prog 211 #[.pointer (some ⟨b0,0,none⟩), .pointer (some ⟨b1,0,none⟩)] w (uT K h0 w d (T p d) fun x _ W'=>Kp w W'∧∃evs tvs vE vT S,aH W' gt 71 #[.int .i64 op, .string (strOf nm),vE,vT]∧ey W' h0 gt (es++[x]) ts evs tvs vE vT S):=by
 have hle:=hK.le;have hgg:K.g<w.heap.size:=pw.ao.lt;have hgtl:gt<w.heap.size:=kt.lt;obtain⟨AE,cE,rfl,-⟩:=aq.gY.reads;obtain⟨AT,cT,rfl,-⟩:=aq.dC.reads;refine Zs 27 Tryz.func211 ?_;refine Cd.seq ?_;refine Cd.ot (σT:=Nat × Bool) 3 (by kernel_rfl) rfl rfl (fun σ=>[.pointer (some ⟨σ.1,0,none⟩),undef,undef]) (fun σ S W=>Below w.heap.size w W∧(S 0=true→w.heap.size≤σ.1∧aH W σ.1 4 #[.bool σ.2])) ((0,false)) ?_ ?_ ?_
 ·intro w0 hb0 hs0
  exact⟨hb0,fun h=>by cases h⟩
 ·intro k o ho
  match k,ho with
  |0,ho=>
   injection ho with ho
   subst ho;intro σ S w hS hpre hdc hX;refine Zl nj ?_;intro g2 w' n2;refine Seq.nil ?_;exact ab.aQ (σ:=σ) (σ':=(g2,false)) rfl rfl rfl hpre rfl (fun j hj=>by cases j with|zero=>rw[hS] at hj;cases hj|succ j=>rfl) ⟨hX.1.trans (n2.below.mono hX.1.size),fun _=>⟨Nat.le_trans hX.1.size n2.ge,n2.ao⟩⟩
  |1,ho=>
   injection ho with ho
   subst ho;intro σ S w hS hpre hdc hX;have h2:=hX.2 (hpre 0 (aG rfl));refine Zq h2.2 ?_;intro w' pq;refine Seq.nil ?_;exact ab.lg (σ:=σ) (σ':=(σ.1,true)) rfl rfl rfl (fun _ _=>rfl) ⟨pq.jv hX.1 h2.1 h2.2.lt,fun _=>⟨h2.1,pq.ao⟩⟩
  |2,ho=>
   injection ho with ho
   subst ho;intro σ S w hS hpre hdc hX;have h2:=hX.2 (hpre 0 (aG rfl));refine Zq h2.2 ?_;intro w' pq;refine Seq.nil ?_;exact ab.lg (σ:=σ) (σ':=(σ.1,false)) rfl rfl rfl (fun _ _=>rfl) ⟨pq.jv hX.1 h2.1 h2.2.lt,fun _=>⟨h2.1,pq.ao⟩⟩
  |k+3,ho=>simp at ho
 rintro⟨g2,b2⟩ S w2 hS ⟨bel2,hX⟩;obtain⟨e2,k2⟩:=hX (hS 0 (by decide));dsimp only at e2 k2;have pw2:=pw.step hle bel2;have kt2:=kt.step bel2;have kb02:=kb0.step bel2;have kb12:=kb1.step bel2;have aq2:=aq.step bel2;have hs2:=bel2.size;have fz2:Fz w.heap.size K.g w w2:=Fz.of bel2;have kp2:Kp w w2:=(Kp.refl w).step bel2;have hh2:h0≤w2.heap.size:=by omega
 clear pw kt kb0 kb1 aq hX;have hcall:∀W,PW K W p d false→Fz w2.heap.size K.g w2 W→Calls Tryz.prog 151 #[.pointer (some ⟨K.g,0,none⟩), .int .i64 0] W (PR K W d (T p d) (Cn W)):=fun W h1 h2=>hc W h1 (fz2.trans (h2.less hs2));refine ZL Tryz.underlying4 k2 ?_;refine bu 0 1 3 (Zt ?_);refine Cd.cond rfl (fun hcn=> ?_) (fun hcn=> ?_)
 ·skip
  refine Cd.seq ?_;refine Cd.ot (σT:=Value × (Nat→Prop) × Nat) 8 (by kernel_rfl) rfl rfl (fun σ=>[.pointer (some ⟨gt,0,none⟩), .pointer (some ⟨gt,0,none⟩), .pointer (some ⟨gt,2,none⟩), .slice AE es.length cE, .pointer (some ⟨K.g,0,none⟩),σ.1, .int .i64 (es.length:Int), .slice (some ⟨σ.2.2,0,none⟩) 1 1]) (fun σ S W=>XA cr K w2 p d (T p d) (S 5) (S 7) σ.2.1 σ.1 σ.2.2 105 #[.int .i64 0, .int .i64 0, .string {data:= #[]}, .slice none 0 0] W) ((undef,fun _=>False,0)) ?_ ?_ ?_
  ·intro w0 hb0 hs0
   exact⟨Fz.of hb0,fun _=>pw2.step hle hb0,fun h=>(by cases h),fun h=>(by cases h)⟩
  ·intro k o ho
   match k,ho with
   |0,ho=>
    injection ho with ho
    subst ho;intro σ S w hS hpre hdc hX;refine Seq.val (aa.an (g:=b0) (i:=0) rfl rfl Tryz.underlying227 rfl (kb02.yO pw2.ao hX.fz (Nat.le_refl _)) rfl) rfl rfl rfl (Seq.nil ?_);exact ab.aQ rfl rfl rfl hpre rfl (fun _ _=>rfl) hX
   |1,ho=>
    injection ho with ho
    subst ho;intro σ S w hS hpre hdc hX;refine Seq.val (aa.nilCheck rfl rfl) rfl rfl rfl (Seq.nil ?_);exact ab.aQ rfl rfl rfl hpre rfl (fun _ _=>rfl) hX
   |2,ho=>
    injection ho with ho
    subst ho;intro σ S w hS hpre hdc hX;refine Seq.val (aa.eR 2 rfl rfl Tryz.underlying71 rfl (by kernel_rfl)) rfl rfl rfl (Seq.nil ?_);exact ab.aQ rfl rfl rfl hpre rfl (fun _ _=>rfl) hX
   |3,ho=>
    injection ho with ho
    subst ho;intro σ S w hS hpre hdc hX;refine Seq.val (aa.an (g:=gt) (i:=2) rfl rfl Tryz.underlying68 rfl (kt2.fz hX.fz (by omega)) rfl) rfl rfl rfl (Seq.nil ?_);exact ab.aQ rfl rfl rfl hpre rfl (fun _ _=>rfl) hX
   |4,ho=>
    injection ho with ho
    subst ho;intro σ S w hS hpre hdc hX;refine Seq.val (aa.an (g:=b1) (i:=0) rfl rfl Tryz.underlying189 rfl (kb12.yO pw2.ao hX.fz (Nat.le_refl _)) rfl) rfl rfl rfl (Seq.nil ?_);exact ab.aQ rfl rfl rfl hpre rfl (fun _ _=>rfl) hX
   |5,ho=>
    injection ho with ho
    subst ho;intro σ S w hS hpre hdc hX;have hcl:=hcall w (hX.pre hS) hX.fz;rcases Rs.de hne with ⟨q,ov,hr⟩|⟨x,q,hr⟩
    ·rw[hr] at hcl
     refine Seq.cw (Ze Tryz.func151) rfl hcl ?_;rintro e w6 ⟨hf,rfl,d6,hp6⟩;refine⟨_,rfl,fun a ha=>⟨ha.defers,?_⟩⟩;rw[hr];exact⟨(fz2.trans ((hX.fz.call hf).less hs2)).less hh,rfl,d6,hp6⟩
    ·rw[hr] at hcl
     refine Zc (Ze Tryz.func151) hcl ?_;rintro e w6 ⟨hf,v6,rfl,hp6,S6,hr6,hb6⟩;refine⟨_,rfl,Seq.nil ?_⟩;have hsz:=hX.fz.size;refine ab.aQ (σ:=σ) (σ':=(v6,S6,σ.2.2)) rfl rfl rfl hpre rfl (fun j hj=> ?_) ⟨hX.fz.call hf,(fun h=>by cases h),fun _=>⟨x,q,hr,hp6,hr6,fun b hb=>⟨by have:=(hb6 b hb).1;omega,(hb6 b hb).2⟩⟩,fun hm=> ?_⟩
     ·match j,hj with
      |0,_=>rfl
      |1,_=>rfl
      |2,_=>rfl
      |3,_=>rfl
      |4,_=>rfl
      |5,hj=>rw[hS] at hj;cases hj
      |6,_=>rfl
      |7,_=>rfl
      |j+8,_=>rfl
     ·obtain⟨m1,m2,-⟩:=hX.new hm
      exact⟨m1,m2.fz hf (by omega),fun _ hb=>Nat.lt_irrefl _ (Nat.lt_of_lt_of_le m2.lt (hb6 _ hb).1)⟩
   |6,ho=>
    injection ho with ho
    subst ho;intro σ S w hS hpre hdc hX;refine Seq.val (aa.len rfl rfl Tryz.underlying68) rfl rfl rfl (Seq.nil ?_);exact ab.aQ rfl rfl rfl hpre rfl (fun _ _=>rfl) hX
   |7,ho=>
    injection ho with ho
    subst ho;intro σ S w hS hpre hdc hX;refine Seq.slice (vs:=[.agg #[.int .i64 0, .int .i64 0, .string {data:= #[]}, .slice none 0 0]]) (s:=4) rfl rfl rfl Tryz.underlying68 (by kernel_rfl) aw (by omega) (by omega) ⟨rfl,trivial⟩ rfl rfl rfl ?_;intro g7 w' n7;refine Seq.nil ?_;have hsz:=hX.fz.size;refine ab.aQ (σ:=σ) (σ':=(σ.1,σ.2.1,g7)) rfl rfl rfl hpre rfl (fun j hj=> ?_) ⟨hX.fz.step n7.below,fun h=>(hX.pre h).step hle n7.below,fun h=> ?_,fun _=>⟨Nat.le_trans hsz n7.ge,n7.ao,fun h hb=> ?_⟩⟩
    ·match j,hj with
     |0,_=>rfl
     |1,_=>rfl
     |2,_=>rfl
     |3,_=>rfl
     |4,_=>rfl
     |5,_=>rfl
     |6,_=>rfl
     |7,hj=>rw[hS] at hj;cases hj
     |j+8,_=>rfl
    ·obtain⟨x,q,q1,q2,q3,q4⟩:=hX.post h
     exact⟨x,q,q1,q2.step hle n7.below,q3.mono (fun _ h=>h) (fun a ha=>n7.below.cell (q4 _ ha).2),fun b hb=>⟨(q4 b hb).1,Nat.lt_of_lt_of_le (q4 b hb).2 n7.below.size⟩⟩
    ·obtain⟨x,q,q1,q2,q3,q4⟩:=hX.post h
     exact Nat.lt_irrefl _ (Nat.lt_of_lt_of_le (q4 _ hb).2 n7.ge)
   |k+8,ho=>simp at ho
  ·rintro⟨v5,S5,g7⟩ S w3 hS hX
   obtain⟨x,q,hr,pw3,hrep,haway⟩:=hX.post (hS 5 (by decide));obtain⟨e7,k7,hn7⟩:=hX.new (hS 7 (by decide));dsimp only at hrep haway e7 k7;have fz3:=hX.fz;clear hX;have hs3:=fz3.size;have k90:=kt2.fz fz3 (by omega);have aq3:=aq2.fz fz3 hg0;have kp3:Kp w w3:=kp2.fz pw2.ao fz3;have e90:h0≤gt:=hgt;have bel:Fz h0 K.g w w3:=(fz2.trans (fz3.less hs2)).less hh;have hh3:h0≤w3.heap.size:=by omega
   have hown:=aq3.gY;have hones:=hrep.bQ;rw[hr];refine Seq.eI rfl rfl rfl Tryz.underlying68 (by kernel_rfl) aw rfl (by decide) (b:=56) (by kernel_rfl) hown (Reads.ao (size:=4) k7 1 rfl) (by intro z hz;simp at hz;rcases hz with rfl|rfl|rfl|rfl<;>rfl) hh3 (by simp only[maxLen];omega) (by omega) rfl rfl rfl ?_;intro v' w4 hown' happ hv';obtain⟨AV,cV,hvV,-⟩:=hown'.reads;subst hvV;have k90':=k90.grown happ.grown (fun e=>aq3.BM e.symm);have pw4:PW K w4 q d false:=⟨pw3.ao.grown happ.grown (fun e=>by have:=hown.aI _ e.symm;omega),pw3.rd.below (happ.below.mono (by omega)),pw3.dy,pw3.dP⟩;have kp4:=kp3.app hown happ;have bel4:Fz h0 K.g w w4:=bel.trans (Fz.of happ.below);have hs4:=happ.below.size;have hgrow:=happ.grown;clear bel k90 kp3;have bel:=bel4;have k90:=k90';have kp:=kp4;have pwk:=pw4.ao;refine Zv (aa.nilCheck rfl rfl) ?_;refine Zf 2 Tryz.underlying71 ?_;refine Zq k90 ?_;intro w1 pw1;replace bel:=bel.put k90 pw1 e90;replace kp:=kp.put k90 pw1 e90;replace k90:=pw1.ao;refine bl 0 1 3 9 10 12 (dU ?_);have hb5:∀b,b<w3.heap.size→b≠gt→(Value.slice AE es.length cE).ownBlock≠some b→w1.heap[b]? =w3.heap[b]? :=fun b h1 h2 h3=>(pw1.grown.block b (by omega) (fun e=>h2 (by injection e))).trans (hgrow.block b h1 (fun e=>h3 e.symm))
   have hvown:∀b,(Value.slice AV (es.length+1) cV).ownBlock=some b→b≠gt:=fun b e1 e2=>by
    rcases hv' with e|e
    ·exact aq3.BM (by rw[←e,e1,e2])
    ·rw[e] at e1;injection e1 with e1;omega
   have hown5:Own w1 h0 105 4 (.slice AV (es.length+1) cV) (es.length+1) (ax evs++_):=hown'.fP (Nat.le_of_eq pw1.size.symm) fun b e=>pw1.grown.block b ((hown'.aI b e).2) (fun e'=>hvown b e (by injection e'));have hlv:(ax evs).length=es.length*4:=hown.row.1;obtain⟨gv,cap,cur,hvv,hgv,hgvl,kv,hfit,hset⟩:=hown5.o7 hlv;have hgne:gv≠gt:=hvown gv (by rw[hvv];rfl);obtain⟨rfl,rfl⟩:AV=some ⟨gv,0,none⟩∧cV=cap:=by injection hvv with h1 _ h3;exact⟨h1,h3⟩
   have haddr:(⟨gv,0,none⟩:Addr).add (es.length*4)=⟨gv,es.length*4,none⟩:=by unfold Addr.add;split<;>simp_all
   refine Zv (aa.aR rfl rfl rfl Tryz.underlying68 (s:=4) (by kernel_rfl) (j:=es.length) rfl (by omega)) ?_;rw[haddr];refine Seq.jQ rfl rfl rfl rfl (m:=4) (by kernel_rfl) hones.1 (iI hones.2) kv (by rw[hones.1];exact hfit) rfl rfl ?_;intro w6 p6;have hown6:=hset w6 v5.cells hones.1 p6;have kp6:Kp w w6:=kp.put kv p6 hgv;have bel6:Fz h0 K.g w w6:=bel.put kv p6 hgv;have k906:=k90.put p6 (fun e=>hgne e.symm);have pw6:PW K w6 q d false:=⟨(pwk.put pw1 (by omega)).put p6 (by omega),(pw4.rd.below (pw1.below (by omega) k90'.lt)).below (p6.below (by omega) hgvl),pw3.dy,pw3.dP⟩;have hsl:=p6.size;have hsl2:=pw1.size
   have aq6:=aq3.tM hrep (fun b hb=>⟨by have:=(haway b hb).1;omega,(haway b hb).2,by have:=(haway b hb).1;omega,fun e=>by have:=(aq2.gY.aI b e).2;have:=(haway b hb).1;omega,fun e=>by have:=(aq2.dC.aI b e).2;have:=(haway b hb).1;omega⟩) hown6 (by omega)
    (fun b _ h2 h3 h4=>(p6.grown.block b (by omega) (fun e=>by
     injection e with e
     rcases hv' with e'|e'
     ·exact h4 (by rw[←e',e];rfl)
     ·injection e' with e'
      have e':gv=w3.heap.size:=e';omega)).trans (hb5 b h2 h3 h4))
    (hv'.elim .inl fun e=> .inr ⟨_,e,Nat.le_refl _⟩) (by omega)
   refine bl 0 1 3 9 10 12 ?_;refine ab.eP rfl (.inr rfl) ?_;exact⟨bel6,_,rfl,pw6,kp6,_,_,_,_,_,k906,aq6⟩
 ·skip
  refine Cd.ot (σT:=Value × (Nat→Prop) × Nat × Value) 9 (by kernel_rfl) rfl rfl (fun σ=>[.pointer (some ⟨gt,0,none⟩), .pointer (some ⟨gt,0,none⟩), .pointer (some ⟨gt,0,none⟩), .pointer (some ⟨gt,2,none⟩), .slice AE es.length cE, .pointer (some ⟨K.g,0,none⟩),σ.1, .slice (some ⟨σ.2.2.1,0,none⟩) 1 1,σ.2.2.2]) (fun σ S W=>(S 8=false→XA cr K w2 p d (T p d) (S 6) (S 7) σ.2.1 σ.1 σ.2.2.1 105 σ.1.cells W)∧(S 8=true→∃x q,T p d= .ok x q∧Kp w2 W∧Fz h0 K.g w2 W∧PW K W q d false∧aH W gt 71 #[.int .i64 op, .string (strOf nm), .slice AE es.length cE, .slice AT ts.length cT]∧∃S',ey W h0 gt (es++[x]) ts (evs++[σ.1]) tvs σ.2.2.2 (.slice AT ts.length cT) S')) ((undef,fun _=>False,0,undef)) ?_ ?_ ?_
  ·intro w0 hb0 hs0
   exact⟨fun _=>⟨Fz.of hb0,fun _=>pw2.step hle hb0,fun h=>(by cases h),fun h=>(by cases h)⟩,fun h=>(by cases h)⟩
  ·intro k o ho
   match k,ho with
   |0,ho=>
    injection ho with ho
    subst ho;intro σ S w hS hpre hdc hX
    have hb:aH w b0 227 #[.pointer (some ⟨gt,0,none⟩)]:=by
     cases h8:S 8 with
     |false=>exact kb02.yO pw2.ao (hX.1 h8).fz (Nat.le_refl _)
     |true=>obtain⟨x,q,-,hkp,-⟩:=hX.2 h8;exact hkp.ao kb02
    refine Seq.val (aa.an (g:=b0) (i:=0) rfl rfl Tryz.underlying227 rfl hb rfl) rfl rfl rfl (Seq.nil ?_);exact ab.aQ rfl rfl rfl hpre rfl (fun _ _=>rfl) hX
   |1,ho=>
    injection ho with ho
    subst ho;intro σ S w hS hpre hdc hX
    have hb:aH w b0 227 #[.pointer (some ⟨gt,0,none⟩)]:=by
     cases h8:S 8 with
     |false=>exact kb02.yO pw2.ao (hX.1 h8).fz (Nat.le_refl _)
     |true=>obtain⟨x,q,-,hkp,-⟩:=hX.2 h8;exact hkp.ao kb02
    refine Seq.val (aa.an (g:=b0) (i:=0) rfl rfl Tryz.underlying227 rfl hb rfl) rfl rfl rfl (Seq.nil ?_);exact ab.aQ rfl rfl rfl hpre rfl (fun _ _=>rfl) hX
   |2,ho=>
    injection ho with ho
    subst ho;intro σ S w hS hpre hdc hX;refine Seq.val (aa.nilCheck rfl rfl) rfl rfl rfl (Seq.nil ?_);exact ab.aQ rfl rfl rfl hpre rfl (fun _ _=>rfl) hX
   |3,ho=>
    injection ho with ho
    subst ho;intro σ S w hS hpre hdc hX;refine Seq.val (aa.eR 2 rfl rfl Tryz.underlying71 rfl (by kernel_rfl)) rfl rfl rfl (Seq.nil ?_);exact ab.aQ rfl rfl rfl hpre rfl (fun _ _=>rfl) hX
   |4,ho=>
    injection ho with ho
    subst ho;intro σ S w hS hpre hdc hX
    have h8:S 8=false:=by
     cases h8:S 8 with
     |false=>rfl
     |true=>have:=hdc 8 _ rfl h8 4 (aG rfl);rw[hS] at this;cases this
    refine Seq.val (aa.an (g:=gt) (i:=2) rfl rfl Tryz.underlying68 rfl (kt2.fz (hX.1 h8).fz (by omega)) rfl) rfl rfl rfl (Seq.nil ?_);exact ab.aQ rfl rfl rfl hpre rfl (fun _ _=>rfl) hX
   |5,ho=>
    injection ho with ho
    subst ho;intro σ S w hS hpre hdc hX
    have hb:aH w b1 189 #[.pointer (some ⟨K.g,0,none⟩)]:=by
     cases h8:S 8 with
     |false=>exact kb12.yO pw2.ao (hX.1 h8).fz (Nat.le_refl _)
     |true=>obtain⟨x,q,-,hkp,-⟩:=hX.2 h8;exact hkp.ao kb12
    refine Seq.val (aa.an (g:=b1) (i:=0) rfl rfl Tryz.underlying189 rfl hb rfl) rfl rfl rfl (Seq.nil ?_);exact ab.aQ rfl rfl rfl hpre rfl (fun _ _=>rfl) hX
   |6,ho=>
    injection ho with ho
    subst ho;intro σ S w hS hpre hdc hX
    have h8:S 8=false:=by
     cases h8:S 8 with
     |false=>rfl
     |true=>have:=hdc 8 _ rfl h8 6 (aG rfl);rw[hS] at this;cases this
    have h7:S 7=false:=by
     cases h7:S 7 with
     |false=>rfl
     |true=>have:=hdc 7 _ rfl h7 6 (aG rfl);rw[hS] at this;cases this
    have hXa:=hX.1 h8;have hcl:=hcall w (hXa.pre hS) hXa.fz;rcases Rs.de hne with ⟨q,ov,hr⟩|⟨x,q,hr⟩
    ·rw[hr] at hcl
     refine Seq.cw (Ze Tryz.func151) rfl hcl ?_;rintro e w6 ⟨hf,rfl,d6,hp6⟩;refine⟨_,rfl,fun a ha=>⟨ha.defers,?_⟩⟩;rw[hr];exact⟨(fz2.trans ((hXa.fz.call hf).less hs2)).less hh,rfl,d6,hp6⟩
    ·rw[hr] at hcl
     refine Zc (Ze Tryz.func151) hcl ?_;rintro e w6 ⟨hf,v6,rfl,hp6,S6,hr6,hb6⟩;refine⟨_,rfl,Seq.nil ?_⟩;have hsz:=hXa.fz.size;refine ab.aQ (σ:=σ) (σ':=(v6,S6,σ.2.2.1,σ.2.2.2)) rfl rfl rfl hpre rfl (fun j hj=> ?_) ⟨fun _=>⟨hXa.fz.call hf,(fun h=>by cases h),fun _=>⟨x,q,hr,hp6,hr6,fun b hb=>⟨by have:=(hb6 b hb).1;omega,(hb6 b hb).2⟩⟩,fun hm=> ?_⟩,fun hm=> ?_⟩
     ·match j,hj with
      |0,_=>rfl
      |1,_=>rfl
      |2,_=>rfl
      |3,_=>rfl
      |4,_=>rfl
      |5,_=>rfl
      |6,hj=>rw[hS] at hj;cases hj
      |7,hj=>rw[h7] at hj;cases hj
      |8,_=>rfl
      |j+9,_=>rfl
     ·have hm:S 7=true:=hm
      rw[h7] at hm;cases hm
     ·have hm:S 8=true:=hm
      rw[h8] at hm;cases hm
   |7,ho=>
    injection ho with ho
    subst ho;intro σ S w hS hpre hdc hX
    have h8:S 8=false:=by
     cases h8:S 8 with
     |false=>rfl
     |true=>have:=hdc 8 _ rfl h8 7 (aG rfl);rw[hS] at this;cases this
    have hXa:=hX.1 h8;obtain⟨x,q,q1,q2,q3,q4⟩:=hXa.post (hpre 6 (aG rfl));have hones:=q3.bQ;refine Seq.slice (vs:=[σ.1]) (s:=4) rfl rfl rfl Tryz.underlying68 (by kernel_rfl) aw (by omega) (by omega) ⟨hones.1,trivial⟩ rfl rfl rfl ?_;intro g7 w' n7;refine Seq.nil ?_;have hsz:=hXa.fz.size;have hcells:(ax [σ.1]).toArray=σ.1.cells:=by simp[ax]
    have n7b:=n7.ao;rw[hcells] at n7b;refine ab.aQ (σ:=σ) (σ':=(σ.1,σ.2.1,g7,σ.2.2.2)) rfl rfl rfl hpre rfl (fun j hj=> ?_) ⟨fun _=>⟨hXa.fz.step n7.below,fun h=>(hXa.pre h).step hle n7.below,fun h=> ?_,fun _=>⟨Nat.le_trans hsz n7.ge,n7b,fun h hb=> ?_⟩⟩,fun hm=> ?_⟩
    ·match j,hj with
     |0,_=>rfl
     |1,_=>rfl
     |2,_=>rfl
     |3,_=>rfl
     |4,_=>rfl
     |5,_=>rfl
     |6,_=>rfl
     |7,hj=>rw[hS] at hj;cases hj
     |8,_=>rfl
     |j+9,_=>rfl
    ·exact⟨x,q,q1,q2.step hle n7.below,q3.mono (fun _ h=>h) (fun a ha=>n7.below.cell (q4 _ ha).2),fun b hb=>⟨(q4 b hb).1,Nat.lt_of_lt_of_le (q4 b hb).2 n7.below.size⟩⟩
    ·exact Nat.lt_irrefl _ (Nat.lt_of_lt_of_le (q4 _ hb).2 n7.ge)
    ·have hm:S 8=true:=hm
     rw[h8] at hm;cases hm
   |8,ho=>
    injection ho with ho
    subst ho;intro σ S w hS hpre hdc hX;have hXa:=hX.1 hS;obtain⟨x,q,hr,pw3,hrep,haway⟩:=hXa.post (hpre 6 (aG rfl));obtain⟨e7,k7,hn7⟩:=hXa.new (hpre 7 (aG rfl));have hones:=hrep.bQ;have hsz:=hXa.fz.size;have aq3:=aq2.fz hXa.fz hg0;have hown:=aq3.gY;have k90:=kt2.fz hXa.fz (by omega);refine Seq.eI rfl rfl rfl Tryz.underlying68 (by kernel_rfl) aw rfl (by decide) (b:=56) (by kernel_rfl) hown (Reads.ao (size:=4) k7 1 hones.1) hones.2 (by omega) (by simp only[maxLen];omega) (by omega) rfl rfl rfl ?_;intro v' w4 hown' happ hv';refine Seq.nil ?_;have hs4:=happ.below.size
    have aq6:=aq3.tM hrep (fun b hb=>⟨by have:=(haway b hb).1;omega,(haway b hb).2,by have:=(haway b hb).1;omega,fun e=>by have:=(aq2.gY.aI b e).2;have:=(haway b hb).1;omega,fun e=>by have:=(aq2.dC.aI b e).2;have:=(haway b hb).1;omega⟩) hown' hs4
     (fun b _ h2 h3 h4=>happ.grown.block b h2 (fun e=>h4 e.symm)) (hv'.elim .inl fun e=> .inr ⟨_,e,Nat.le_refl _⟩) (by omega)
    refine ab.aQ (σ:=σ) (σ':=(σ.1,σ.2.1,σ.2.2.1,v')) rfl rfl rfl hpre rfl (fun j hj=> ?_) ⟨(fun h=>by cases h),fun _=>⟨x,q,hr,((Kp.refl w2).fz pw2.ao hXa.fz).app hown happ,(hXa.fz.less hh2).trans (Fz.of happ.below),⟨pw3.ao.grown happ.grown (fun e=>by have:=hown.aI _ e.symm;omega),pw3.rd.below (happ.below.mono (by omega)),pw3.dy,pw3.dP⟩,k90.grown happ.grown (fun e=>aq3.BM e.symm),_,aq6⟩⟩
    match j,hj with
    |0,_=>rfl
    |1,_=>rfl
    |2,_=>rfl
    |3,_=>rfl
    |4,_=>rfl
    |5,_=>rfl
    |6,_=>rfl
    |7,_=>rfl
    |8,hj=>rw[hS] at hj;cases hj
    |j+9,_=>rfl
   |k+9,ho=>simp at ho
  ·rintro⟨v6,S6,g7,v8⟩ S w3 hS hX
   obtain⟨x,q,hr,kp3,fz3,pw3,k90,S',aq3⟩:=hX.2 (hS 8 (by decide));clear hX;dsimp only at aq3;have hs3:=fz3.size;have e90:h0≤gt:=hgt;have bel:Fz h0 K.g w w3:=(fz2.less hh).trans fz3;have kp:=kp2.trans kp3;have pwk:=pw3.ao;have hlt3:=k90.lt;rw[hr];obtain⟨AX,cX,hvX,-⟩:=aq3.gY.reads;subst hvX;refine Zv (aa.nilCheck rfl rfl) ?_;refine Zf 2 Tryz.underlying71 ?_;refine Zq k90 ?_;intro w1 pw1;replace bel:=bel.put k90 pw1 e90;replace kp:=kp.put k90 pw1 e90;replace aq3:=aq3.put k90 pw1 e90;replace k90:=pw1.ao;refine bu 0 1 3 ?_;have pw5:PW K w1 q d false:=⟨pwk.put pw1 (by omega),pw3.rd.below (pw1.below (by omega) hlt3),pw3.dy,pw3.dP⟩;refine ab.eP rfl (.inr rfl) ?_;exact⟨bel,_,rfl,pw5,kp,_,_,_,_,_,k90,aq3⟩
structure XB (K:Ctx)(h0 gt d q:Nat)(op z:Int)(nm:List Nat)(m:Nat)(base:List Value)(vE:Value)(gv cap:Nat)(v:Value)(set stored:Bool)(w2 W3 w:World):Prop where
 own:Own w h0 105 4 (.slice (some ⟨gv,0,none⟩) (m+1) cap) (m+1) (base++(bif set then v.cells.toList else [.int .i64 0, .int .i64 0, .string {data:= #[]}, .slice none 0 0]))
 box:aH w gt 105 #[.int .i64 op, .int .i64 z, .string (strOf nm),bif stored then .slice (some ⟨gv,0,none⟩) (m+1) cap else vE]
 pw:PW K w q d false
 kp:Kp w2 w
 fz:Fz h0 K.g w2 w
 hs:W3.heap.size≤w.heap.size
 hb:∀b,b<W3.heap.size→b≠gt→vE.ownBlock≠some b→w.heap[b]? =W3.heap[b]?
 hv:some gv=vE.ownBlock∨gv=W3.heap.size
 ne:gv≠gt
theorem tZ (K:Ctx)(hK:K.Ok)(h0 gt b1 d p:Nat)(op z:Int)(nm:List Nat)(es:List Ex)(evs:List Value)(vE:Value)(S0:Nat→Prop)(T:Nat→Nat→Rs Ex)(wa:World)(pw:PW K wa p d false)(hg0:K.g<h0)(hgt:h0≤gt)(hh:h0≤wa.heap.size)
  (kt:aH wa gt 105 #[.int .i64 op, .int .i64 z, .string (strOf nm),vE]) (kb1:aH wa b1 189 #[.pointer (some ⟨K.g,0,none⟩)]) (aq:ey wa h0 gt es [] evs [] vE (.slice none 0 0) S0) (hl:es.length≤10)
  (hc:∀W,PW K W p d false→Fz wa.heap.size K.g wa W→Calls Tryz.prog 151 #[.pointer (some ⟨K.g,0,none⟩), .int .i64 0] W (PR K W d (T p d) (Cn W))) (hne:T p d≠ .out):
  Calls Tryz.prog 242 #[.pointer (some ⟨gt,0,none⟩), .pointer (some ⟨b1,0,none⟩)] wa (uT K h0 wa d (T p d) fun x _ W'=>Kp wa W'∧∃evs vE S,aH W' gt 105 #[.int .i64 op, .int .i64 z, .string (strOf nm),vE]∧ey W' h0 gt (es++[x]) [] evs [] vE (.slice none 0 0) S):=by
 have hle:=hK.le;have hgg:K.g<wa.heap.size:=pw.ao.lt;have hgtl:gt<wa.heap.size:=kt.lt;obtain⟨AE,cE,rfl,-⟩:=aq.gY.reads;refine Zs 11 Tryz.func242 ?_;refine Cd.ot (σT:=Value × (Nat→Prop) × Nat × Nat × Nat × World) 11 (by kernel_rfl) rfl rfl (fun σ=>[.pointer (some ⟨gt,3,none⟩), .slice AE es.length cE, .pointer (some ⟨K.g,0,none⟩),σ.1, .int .i64 (es.length:Int), .slice (some ⟨σ.2.2.1,0,none⟩) 1 1, .slice (some ⟨σ.2.2.2.1,0,none⟩) (es.length+1) σ.2.2.2.2.1, .pointer (some ((⟨σ.2.2.2.1,0,none⟩:Addr).add (es.length*4))),undef, .pointer (some ⟨gt,3,none⟩),undef]) (fun σ S W=>(S 6=false→XA cr K wa p d (T p d) (S 3) (S 5) σ.2.1 σ.1 σ.2.2.1 105 #[.int .i64 0, .int .i64 0, .string {data:= #[]}, .slice none 0 0] W)∧(S 6=true→∃x q,T p d= .ok x q∧XA cr K wa p d (T p d) true true σ.2.1 σ.1 σ.2.2.1 105 #[.int .i64 0, .int .i64 0, .string {data:= #[]}, .slice none 0 0] σ.2.2.2.2.2∧XB K h0 gt d q op z nm es.length (ax evs) (.slice AE es.length cE) σ.2.2.2.1 σ.2.2.2.2.1 σ.1 (S 8) (S 10) wa σ.2.2.2.2.2 W)) ((undef,fun _=>False,0,0,0,wa)) ?_ ?_ ?_
 ·intro w0 hb0 hs0
  exact⟨fun _=>⟨Fz.of hb0,fun _=>pw.step hle hb0,fun h=>(by cases h),fun h=>(by cases h)⟩,fun h=>(by cases h)⟩
 ·intro k o ho
  match k,ho with
  |0,ho=>
   injection ho with ho
   subst ho;intro σ S w hS hpre hdc hX;refine Seq.val (aa.eR 3 rfl rfl Tryz.underlying105 rfl (by kernel_rfl)) rfl rfl rfl (Seq.nil ?_);exact ab.aQ rfl rfl rfl hpre rfl (fun _ _=>rfl) hX
  |1,ho=>
   injection ho with ho
   subst ho;intro σ S w hS hpre hdc hX
   have h6:S 6=false:=by
    cases h6:S 6 with
    |false=>rfl
    |true=>have:=hdc 6 _ rfl h6 1 (aG rfl);rw[hS] at this;cases this
   refine Seq.val (aa.an (g:=gt) (i:=3) rfl rfl Tryz.underlying68 rfl (kt.fz (hX.1 h6).fz (by omega)) rfl) rfl rfl rfl (Seq.nil ?_);exact ab.aQ rfl rfl rfl hpre rfl (fun _ _=>rfl) hX
  |2,ho=>
   injection ho with ho
   subst ho;intro σ S w hS hpre hdc hX
   have hb:aH w b1 189 #[.pointer (some ⟨K.g,0,none⟩)]:=by
    cases h6:S 6 with
    |false=>exact kb1.yO pw.ao (hX.1 h6).fz (Nat.le_refl _)
    |true=>obtain⟨x,q,-,-,hB⟩:=hX.2 h6;exact hB.kp.ao kb1
   refine Seq.val (aa.an (g:=b1) (i:=0) rfl rfl Tryz.underlying189 rfl hb rfl) rfl rfl rfl (Seq.nil ?_);exact ab.aQ rfl rfl rfl hpre rfl (fun _ _=>rfl) hX
  |3,ho=>
   injection ho with ho
   subst ho;intro σ S w hS hpre hdc hX
   have h6:S 6=false:=by
    cases h6:S 6 with
    |false=>rfl
    |true=>have:=hdc 6 _ rfl h6 3 (aG rfl);rw[hS] at this;cases this
   have hXa:=hX.1 h6;have hcl:=hc w (hXa.pre hS) hXa.fz;rcases Rs.de hne with ⟨q,ov,hr⟩|⟨x,q,hr⟩
   ·rw[hr] at hcl
    refine Seq.cw (Ze Tryz.func151) rfl hcl ?_;rintro e w6 ⟨hf,rfl,d6,hp6⟩;refine⟨_,rfl,fun a ha=>⟨ha.defers,?_⟩⟩;rw[hr];exact⟨(hXa.fz.call hf).less hh,rfl,d6,hp6⟩
   ·rw[hr] at hcl
    refine Zc (Ze Tryz.func151) hcl ?_;rintro e w6 ⟨hf,v6,rfl,hp6,S6,hr6,hb6⟩;refine⟨_,rfl,Seq.nil ?_⟩;have hsz:=hXa.fz.size;refine ab.aQ (σ:=σ) (σ':=(v6,S6,σ.2.2)) rfl rfl rfl hpre rfl (fun j hj=> ?_) ⟨fun _=>⟨hXa.fz.call hf,(fun h=>by cases h),fun _=>⟨x,q,hr,hp6,hr6,fun b hb=>⟨by have:=(hb6 b hb).1;omega,(hb6 b hb).2⟩⟩,fun hm=> ?_⟩,fun hm=> ?_⟩
    ·match j,hj with
     |0,_=>rfl
     |1,_=>rfl
     |2,_=>rfl
     |3,hj=>rw[hS] at hj;cases hj
     |4,_=>rfl
     |5,_=>rfl
     |6,_=>rfl
     |7,_=>rfl
     |8,_=>rfl
     |9,_=>rfl
     |10,_=>rfl
     |j+11,_=>rfl
    ·obtain⟨m1,m2,-⟩:=hXa.new hm
     exact⟨m1,m2.fz hf (by omega),fun _ hb=>Nat.lt_irrefl _ (Nat.lt_of_lt_of_le m2.lt (hb6 _ hb).1)⟩
    ·have hm:S 6=true:=hm
     rw[h6] at hm;cases hm
  |4,ho=>
   injection ho with ho
   subst ho;intro σ S w hS hpre hdc hX;refine Seq.val (aa.len rfl rfl Tryz.underlying68) rfl rfl rfl (Seq.nil ?_);exact ab.aQ rfl rfl rfl hpre rfl (fun _ _=>rfl) hX
  |5,ho=>
   injection ho with ho
   subst ho;intro σ S w hS hpre hdc hX
   have h6:S 6=false:=by
    cases h6:S 6 with
    |false=>rfl
    |true=>have:=hdc 6 _ rfl h6 5 (aG rfl);rw[hS] at this;cases this
   have hXa:=hX.1 h6;refine Seq.slice (vs:=[.agg #[.int .i64 0, .int .i64 0, .string {data:= #[]}, .slice none 0 0]]) (s:=4) rfl rfl rfl Tryz.underlying68 (by kernel_rfl) aw (by omega) (by omega) ⟨rfl,trivial⟩ rfl rfl rfl ?_;intro g7 wa' n7;refine Seq.nil ?_;have hsz:=hXa.fz.size;refine ab.aQ (σ:=σ) (σ':=(σ.1,σ.2.1,g7,σ.2.2.2)) rfl rfl rfl hpre rfl (fun j hj=> ?_) ⟨fun _=>⟨hXa.fz.step n7.below,fun h=>(hXa.pre h).step hle n7.below,fun h=> ?_,fun _=>⟨Nat.le_trans hsz n7.ge,n7.ao,fun h hb=> ?_⟩⟩,fun hm=> ?_⟩
   ·match j,hj with
    |0,_=>rfl
    |1,_=>rfl
    |2,_=>rfl
    |3,_=>rfl
    |4,_=>rfl
    |5,hj=>rw[hS] at hj;cases hj
    |6,_=>rfl
    |7,_=>rfl
    |8,_=>rfl
    |9,_=>rfl
    |10,_=>rfl
    |j+11,_=>rfl
   ·obtain⟨x,q,q1,q2,q3,q4⟩:=hXa.post h
    exact⟨x,q,q1,q2.step hle n7.below,q3.mono (fun _ h=>h) (fun a ha=>n7.below.cell (q4 _ ha).2),fun b hb=>⟨(q4 b hb).1,Nat.lt_of_lt_of_le (q4 b hb).2 n7.below.size⟩⟩
   ·obtain⟨x,q,q1,q2,q3,q4⟩:=hXa.post h
    exact Nat.lt_irrefl _ (Nat.lt_of_lt_of_le (q4 _ hb).2 n7.ge)
   ·have hm:S 6=true:=hm
    rw[h6] at hm;cases hm
  |6,ho=>
   injection ho with ho
   subst ho;intro σ S w hS hpre hdc hX;have hXa0:=hX.1 hS;have d3:S 3=true:=hpre 3 (aG rfl);have d5:S 5=true:=hpre 5 (aG rfl);have hXa:XA cr K wa p d (T p d) true true σ.2.1 σ.1 σ.2.2.1 105 #[.int .i64 0, .int .i64 0, .string {data:= #[]}, .slice none 0 0] w:=by rw[d3,d5] at hXa0;exact hXa0
   obtain⟨x,q,hr,pw3,hrep,haway⟩:=hXa.post rfl;obtain⟨e7,k7,hn7⟩:=hXa.new rfl;have hsz:=hXa.fz.size;have aq3:=aq.fz hXa.fz hg0;have hown:=aq3.gY;have k90:=kt.fz hXa.fz (by omega);refine Seq.eI rfl rfl rfl Tryz.underlying68 (by kernel_rfl) aw rfl (by decide) (b:=56) (by kernel_rfl) hown (Reads.ao (size:=4) k7 1 rfl) (by intro z hz;simp at hz;rcases hz with rfl|rfl|rfl|rfl<;>rfl) (by omega) (by simp only[maxLen];omega) (by omega) rfl rfl rfl ?_;intro v' w4 hown' happ hv';refine Seq.nil ?_;have hs4:=happ.below.size;have hlv:(ax evs).length=es.length*4:=hown.row.1;obtain⟨gv,cap,cur,rfl,-⟩:=Own.o7 (n:=es.length) (xs:=ax evs) hown' hlv
   have hd8:S 8=false:=by
    cases h:S 8 with
    |false=>rfl
    |true=>have:=hdc 8 _ rfl h 6 (aG rfl);rw[hS] at this;cases this
   have hd10:S 10=false:=by
    cases h:S 10 with
    |false=>rfl
    |true=>have:=hdc 10 _ rfl h 6 (aG rfl);rw[hS] at this;cases this
   have hd7:S 7=false:=by
    cases h:S 7 with
    |false=>rfl
    |true=>have:=hdc 7 _ rfl h 6 (aG rfl);rw[hS] at this;cases this
   have hgvne:gv≠gt:=fun e=>by
    subst e;rcases hv' with e|e
    ·exact aq3.BM (by rw[←e];rfl)
    ·injection e with e
     have e:gv=w.heap.size:=e;have:=k90.lt;omega
   refine ab.aQ (σ:=σ) (σ':=(σ.1,σ.2.1,σ.2.2.1,gv,cap,w)) rfl rfl rfl hpre rfl (fun j hj=> ?_) ⟨(fun h=>by cases h),fun _=>⟨x,q,hr,hXa,?_⟩⟩
   ·match j,hj with
    |0,_=>rfl
    |1,_=>rfl
    |2,_=>rfl
    |3,_=>rfl
    |4,_=>rfl
    |5,_=>rfl
    |6,hj=>rw[hS] at hj;cases hj
    |7,hj=>rw[hd7] at hj;cases hj
    |8,_=>rfl
    |9,_=>rfl
    |10,_=>rfl
    |j+11,_=>rfl
   ·have e8:ik S 6 8=false:=hd8
    have e10:ik S 6 10=false:=hd10;rw[e8,e10];exact⟨hown',k90.grown happ.grown (fun e=>aq3.BM e.symm),⟨pw3.ao.grown happ.grown (fun e=>by have:=hown.aI _ e.symm;omega),pw3.rd.below (happ.below.mono (by omega)),pw3.dy,pw3.dP⟩,((Kp.refl wa).fz pw.ao hXa.fz).app hown happ,(hXa.fz.less hh).trans (Fz.of happ.below),hs4,fun b h1 _ h3=>happ.grown.block b h1 (fun e=>h3 e.symm),hv'.elim (fun e=> .inl e) (fun e=> .inr (by injection e)),hgvne⟩
  |7,ho=>
   injection ho with ho
   subst ho;intro σ S w hS hpre hdc hX;refine Seq.val (aa.aR rfl rfl rfl Tryz.underlying68 (s:=4) (by kernel_rfl) (j:=es.length) rfl (by omega)) rfl rfl rfl (Seq.nil ?_);exact ab.aQ rfl rfl rfl hpre rfl (fun _ _=>rfl) hX
  |8,ho=>
   injection ho with ho
   subst ho;intro σ S w hS hpre hdc hX;obtain⟨x,q,hr,hXa,hB⟩:=hX.2 (hpre 6 (aG rfl));obtain⟨x',q',hr',hp',hrep,haway'⟩:=hXa.post rfl;have hones:=hrep.bQ
   have hB8:Own w h0 105 4 (.slice (some ⟨σ.2.2.2.1,0,none⟩) (es.length+1) σ.2.2.2.2.1) (es.length+1) (ax evs++[.int .i64 0, .int .i64 0, .string {data:= #[]}, .slice none 0 0]):=by
    have:=hB.own;rw[hS] at this;exact this
   have hlv:(ax evs).length=es.length*4:=aq.gY.row.1;obtain⟨gv,cap,cur,hvv,hgv,hgvl,kv,hfit,hset⟩:=hB8.o7 hlv;have hgv2:σ.2.2.2.1=gv:=by injection hvv with h1;injection h1 with h1;injection h1
   rw[←hgv2] at hgv hgvl kv hset;have haddr:(⟨σ.2.2.2.1,0,none⟩:Addr).add (es.length*4)=⟨σ.2.2.2.1,es.length*4,none⟩:=by unfold Addr.add;split<;>simp_all
   refine Seq.jQ (g:=σ.2.2.2.1) (off:=es.length*4) rfl (congrArg (fun a=>some (Value.pointer (some a))) haddr) rfl rfl (m:=4) (by kernel_rfl) hones.1 (iI hones.2) kv (by rw[hones.1];exact hfit) rfl rfl ?_;intro w6 p6;refine Seq.nil ?_;have hne:=hB.ne;have hsz:=hXa.fz.size;have hown6:=hset w6 σ.1.cells hones.1 p6;have hcv:cap=σ.2.2.2.2.1:=by injection hvv with _ _ h3;exact h3.symm
   refine ab.lg (σ:=σ) (σ':=σ) rfl rfl rfl (fun _ _=>rfl) ⟨(fun h=>by have h:S 6=false:=h;rw[hpre 6 (aG rfl)] at h;cases h),fun _=>⟨x,q,hr,hXa,?_⟩⟩
   exact⟨by have:=hown6;exact this,hB.box.put p6 (fun e=>hne e.symm),⟨hB.pw.ao.put p6 (by omega),hB.pw.rd.below (p6.below (by omega) hgvl),hB.pw.dy,hB.pw.dP⟩,hB.kp.put kv p6 hgv,hB.fz.put kv p6 hgv,Nat.le_trans hB.hs (Nat.le_of_eq p6.size.symm),fun b h1 h2 h3=>(p6.grown.block b (Nat.lt_of_lt_of_le h1 hB.hs) (fun e=>by
    injection e with e
    rcases hB.hv with e'|e'
    ·exact h3 (by rw[←e',e])
    ·omega)).trans (hB.hb b h1 h2 h3),hB.hv,hne⟩
  |9,ho=>
   injection ho with ho
   subst ho;intro σ S w hS hpre hdc hX;refine Seq.val (aa.eR 3 rfl rfl Tryz.underlying105 rfl (by kernel_rfl)) rfl rfl rfl (Seq.nil ?_);exact ab.aQ rfl rfl rfl hpre rfl (fun _ _=>rfl) hX
  |10,ho=>
   injection ho with ho
   subst ho;intro σ S w hS hpre hdc hX;obtain⟨x,q,hr,hXa,hB⟩:=hX.2 (hpre 6 (aG rfl));have hbox:=hB.box;refine Zq hbox ?_;intro w6 p6;refine Seq.nil ?_;have hne:=hB.ne;have hown:=hB.own;refine ab.lg (σ:=σ) (σ':=σ) rfl rfl rfl (fun _ _=>rfl) ⟨(fun h=>by have h:S 6=false:=h;rw[hpre 6 (aG rfl)] at h;cases h),fun _=>⟨x,q,hr,hXa,?_⟩⟩
   exact⟨hown.fP (Nat.le_of_eq p6.size.symm) (fun b e=>p6.grown.block b (hown.aI b e).2 (fun e'=>by
    have e1:σ.2.2.2.1=b:=by injection e
    have e2:b=gt:=by injection e'
    exact hne (e1.trans e2))),p6.ao,⟨hB.pw.ao.put p6 (by omega),hB.pw.rd.below (p6.below (by omega) hbox.lt),hB.pw.dy,hB.pw.dP⟩,hB.kp.put hbox p6 hgt,hB.fz.put hbox p6 hgt,Nat.le_trans hB.hs (Nat.le_of_eq p6.size.symm),fun b h1 h2 h3=>(p6.grown.block b (Nat.lt_of_lt_of_le h1 hB.hs) (fun e=>h2 (by injection e))).trans (hB.hb b h1 h2 h3),hB.hv,hne⟩
  |k+11,ho=>simp at ho
 rintro⟨v5,S5,g7,gv,cap,W3⟩ S w9 hS hX;obtain⟨x,q,hr,hXa,hB⟩:=hX.2 (hS 6 (by decide));obtain⟨x',q',hr',-,hrep,haway⟩:=hXa.post rfl;rw[hr] at hr';injection hr' with e1 e2
 subst e1 e2;dsimp only at hrep haway hXa hB;rw[hS 8 (by decide),hS 10 (by decide)] at hB;have aq3:=aq.fz hXa.fz hg0;have hsz:=hXa.fz.size;rw[hr]
 have hfin:=aq3.tM hrep (fun b hb=>⟨by have:=(haway b hb).1;omega,(haway b hb).2,by have:=(haway b hb).1;omega,fun e=>by have:=(aq.gY.aI b e).2;have:=(haway b hb).1;omega,fun e=>by cases e⟩) hB.own hB.hs
  (fun b _ h2 h3 h4=>hB.hb b h2 h3 h4) (hB.hv.elim .inl fun e=> .inr ⟨_,rfl,Nat.le_of_eq e.symm⟩) (by omega)
 refine dM 0 1 ?_;refine ab.eP rfl (.inr rfl) ?_;exact⟨hB.fz,_,rfl,hB.pw,hB.kp,_,_,_,hB.box,hfin⟩
section
variable {W:World} {h gt:Nat} {es:List Ex} {ts:List Tm} {evs tvs:List Value} {vE vT:Value} {S:Nat→Prop}
theorem Own.rows {B n size:Nat}{e:TypeId}{v:Value}{xs:List Value}{S':Nat→Prop}(o:Own W B e size v n xs)(hS:∀b,v.ownBlock=some b→S' b):∃A c,v= .slice A n c∧Rows W S' A xs:=by
 obtain⟨h1,⟨rfl,rfl⟩|⟨g,cap,cur,rfl,e2,e3,e4,e5,e6,e7⟩⟩:=o.row
 ·refine⟨none,0,rfl,fun hne=> ?_⟩
  rw[Nat.zero_mul] at h1;exact absurd (List.eq_nil_of_length_eq_zero h1) hne
 ·obtain⟨A,c,hv,hr⟩:=o.reads
  injection hv with e1 _ _
  subst e1;refine⟨_,cap,rfl,fun hne=> ?_⟩;rcases Nat.eq_zero_or_pos n with h0|h0
  ·subst h0
   rw[Nat.zero_mul] at h1;exact absurd (List.eq_nil_of_length_eq_zero h1) hne
  ·obtain⟨ad,hA,hb,hc⟩:=hr.2 h0
   injection hA with hA
   subst hA;exact⟨_,rfl,hS _ rfl,hc⟩
def sl (S:Nat→Prop)(vE vT:Value)(b:Nat):Prop:=S b∨vE.ownBlock=some b∨vT.ownBlock=some b
theorem ey.bounds (a:ey W h gt es ts evs tvs vE vT S):∀b,sl S vE vT b→h≤b∧b<W.heap.size∧b≠gt:=fun b hb=>by
 rcases hb with hb|hb|hb
 ·obtain⟨h1,h2,h3,-,-⟩:=a.gK b hb
  exact⟨h1,h2,h3⟩
 ·obtain⟨h1,h2⟩:=a.gY.aI b hb
  exact⟨h1,h2,fun e=>a.BM (by rw[hb,e])⟩
 ·obtain⟨h1,h2⟩:=a.dC.aI b hb
  exact⟨h1,h2,fun e=>a.Cr (by rw[hb,e])⟩
theorem ey.ex (a:ey W h gt es ts evs tvs vE vT S)(op z:Int)(nm:List Nat)(h1:bw op)(h2:bw z)(h3:∀d∈nm,d<256)(h4:nm.length≤9223372036854775807)(hl:es.length≤1000):cr W (sl S vE vT) (.mk op z nm es) (.agg #[.int .i64 op, .int .i64 z, .string (strOf nm),vE]):=by
 obtain⟨A,c,hv,hr⟩:=a.gY.rows (S':=sl S vE vT) (fun b hb=> .inr (.inl hb));rw[hv];rw[hv] at hr a;exact cr.mk a.ui hl h1 h2 h3 h4 (fun i e v e1 e2=>(a.BN i e v e1 e2).mono (fun _ h=> .inl h) (fun _ _=>rfl)) hr
theorem ey.tm (a:ey W h gt es ts evs tvs vE vT S)(op:Int)(nm:List Nat)(h1:bw op)(h3:∀d∈nm,d<256)(h4:nm.length≤9223372036854775807)(hl:es.length≤1000)(hl':ts.length≤1000):dR W (sl S vE vT) (.mk op nm es ts) (.agg #[.int .i64 op, .string (strOf nm),vE,vT]):=by
 obtain⟨A,c,hv,hr⟩:=a.gY.rows (S':=sl S vE vT) (fun b hb=> .inr (.inl hb));obtain⟨A',c',hv',hr'⟩:=a.dC.rows (S':=sl S vE vT) (fun b hb=> .inr (.inr hb));rw[hv,hv'];rw[hv,hv'] at hr hr' a;exact dR.mk a.ui a.xc hl hl' h1 h3 h4 (fun i e v e1 e2=>(a.BN i e v e1 e2).mono (fun _ h=> .inl h) (fun _ _=>rfl)) (fun i e v e1 e2=>(a.CA i e v e1 e2).mono (fun _ h=> .inl h) (fun _ _=>rfl)) hr hr'
end
theorem ey.nil (W:World)(h gt:Nat):ey W h gt [] [] [] [] (.slice none 0 0) (.slice none 0 0) (fun _=>False):=
 ⟨rfl,rfl,Own.nil _ _ _ _,Own.nil _ _ _ _,fun i e v h1=>by simp at h1,fun i e v h1=>by simp at h1,fun b h=>h.elim,(by intro h;cases h),(by intro h;cases h)⟩
theorem zD:∀args w,(callFunc 242 args).run Tryz.prog w= .ok (.enter 242 args) w:=fun args w=>aO Tryz.func242 (by kernel_rfl) rfl args w
theorem er:bz Tryz.prog 1=some (some .nilFunc):=by kernel_rfl
theorem lS (a:Int)(w:World):(Instr.build 105 #[(0, .int .i64 a)]).run Tryz.prog w= .ok (.agg #[.int .i64 a, .int .i64 0, .string (strOf []), .slice none 0 0]) w:=by
 have hu:=Tryz.underlying105
 go_simp
 rfl
theorem pB {α:Type}(ws:List Wd):∀(bQ:List (Nat→Nat→Rs α)) (first:Bool) (p d:Nat) (xs:List α) (q:Nat),dA ws bQ first p d= .ok xs q→xs.length=bQ.length
 | [],_,p,d,xs,q,h=>by
  unfold dA at h;injection h with h
  rw[←h];rfl
 |one::r,first,p,d,xs,q,h=>by
  rw[kA] at h
  cases h1:(if first=true then Rs.ok () p else fy ws [44] p) with
  |out=>rw[h1] at h;cases h
  |bad a b=>rw[h1] at h;cases h
  |ok u p1=>
   rw[h1,Rs.gw] at h
   cases h2:one p1 d with
   |out=>rw[h2] at h;cases h
   |bad a b=>rw[h2] at h;cases h
   |ok x p2=>
    rw[h2,Rs.gw] at h
    cases h3:dA ws r false p2 d with
    |out=>rw[h3] at h;cases h
    |bad a b=>rw[h3] at h;cases h
    |ok ys p3=>
     rw[h3,Rs.gw] at h;injection h with h _
     rw[←h,List.length_cons,List.length_cons,pB ws r false p2 d ys p3 h3]
theorem iL {α:Type}{ws:List Wd}{bQ:List (Nat→Nat→Rs α)}{p d:Nat}{xs:List α}{q:Nat}(h:cR ws bQ p d= .ok xs q):xs.length=bQ.length:=by
 unfold cR at h
 cases h1:fy ws [40] p with
 |out=>rw[h1] at h;cases h
 |bad a b=>rw[h1] at h;cases h
 |ok u p1=>
  rw[h1,Rs.gw] at h
  cases h2:fG p1 d with
  |out=>rw[h2] at h;cases h
  |bad a b=>rw[h2] at h;cases h
  |ok u p2=>
   rw[h2,Rs.gw] at h
   cases h3:dA ws bQ true p2 (d+1) with
   |out=>rw[h3] at h;cases h
   |bad a b=>rw[h3] at h;cases h
   |ok ys p3=>
    rw[h3,Rs.gw] at h
    cases h4:fy ws [41] p3 with
    |out=>rw[h4] at h;cases h
    |bad a b=>rw[h4] at h;cases h
    |ok u p4=>
     rw[h4,Rs.gw] at h;injection h with h _
     rw[←h];exact pB ws bQ true p2 (d+1) ys p3 h3
theorem Kp.own {w W:World}{B n size:Nat}{e:TypeId}{v:Value}{xs:List Value}(a:Kp w W)(o:Own w B e size v n xs)(h1:e≠71:=by decide)(h2:e≠105:=by decide)(h3:e≠219:=by decide):Own W B e size v n xs:=by
 obtain⟨r1,⟨r2,r3⟩|⟨g,cap,cur,rfl,e2,e3,e4⟩⟩:=o.row
 ·exact⟨r1, .inl ⟨r2,r3⟩⟩
 ·exact⟨r1, .inr ⟨g,cap,cur,rfl,e2,a.bN g e cur e3 h1 h2 h3,e4⟩⟩
def CU (K:Ctx)(E0:Nat→Nat→Rs Ex):Prop:=∀p d W,PW K W p d false→E0 p d≠ .out→Calls Tryz.prog 151 #[.pointer (some ⟨K.g,0,none⟩), .int .i64 0] W (PR K W d (E0 p d) (Cn W))
theorem mi (K:Ctx)(hK:K.Ok)(E0:Nat→Nat→Rs Ex)(hE:CU K E0)(op:Int)(k p d:Nat)(w:World)(pw:PW K w p d false)(hp:p+1≤K.ws.length)(hop:bw op)(hk:k≤3)(hne:eK K.ws E0 op k p d≠ .out):
  Calls Tryz.prog 237 #[.pointer (some ⟨K.g,0,none⟩), .int .i64 op, .int .i64 (k:Int)] w (PR K w d (eK K.ws E0 op k p d) (Cn w)):=by
 have bel:=Fz.refl w.heap.size K.g w;have k99:=pw.ao;have e99:K.g=K.g:=rfl;have hlt:=pw.ao.lt;have hlen:=hK.len;have hle:=hK.le;refine Zs 30 Tryz.func237 ?_;refine aj ?_;refine Seq.box rfl rfl rfl rfl rfl ?_;intro g3 w1 n3;have e3:=Nat.le_trans bel.size n3.ge;have l3:=Nat.lt_of_lt_of_le k99.lt n3.ge;replace bel:=bel.step n3.below;replace k99:=k99.step n3.below;have k3:=n3.ao;refine Zl aw ?_;intro g6 w2 n6;have e6:=Nat.le_trans bel.size n6.ge;have l6:=Nat.lt_of_lt_of_le k3.lt n6.ge;replace bel:=bel.step n6.below;replace k99:=k99.step n6.below;replace k3:=k3.step n6.below;have k6:=n6.ao;refine aU 0 1 2 3 6 (aB ?_);refine ZL Tryz.underlying189 k3 ?_;refine Zv (aa.nilCheck rfl rfl) ?_;refine Zf 1 Tryz.underlying219 ?_;refine ZL Tryz.underlying3 k99 ?_;refine dt ?_;refine Zv (aa.nilCheck rfl rfl) ?_;refine Zf 1 Tryz.underlying219 ?_;refine Zq k99 ?_;intro w3 pw3;replace bel:=bel.put k99 pw3 e99;replace k3:=k3.put pw3 (by omega);replace k6:=k6.put pw3 (by omega);replace k99:=pw3.ao;refine aU 0 1 2 3 6 (aB ?_);refine Zm ?_;refine Zv (aa.build rfl rfl (lS op _)) ?_;refine Zl aw ?_;intro g7 w4 n7;have e7:=Nat.le_trans bel.size n7.ge;have l7:=Nat.lt_of_lt_of_le k6.lt n7.ge;replace bel:=bel.step n7.below;replace k99:=k99.step n7.below;replace k3:=k3.step n7.below;replace k6:=k6.step n7.below;have k7:=n7.ao;refine Zo 4 k7 ?_;intro w5 pw5;replace bel:=bel.put k7 pw5 e7;replace k99:=k99.put pw5 (by omega);replace k3:=k3.put pw5 (by omega);replace k6:=k6.put pw5 (by omega);replace k7:=pw5.ao;refine bl 0 1 2 3 6 7 (aB ?_);refine Za ?_;refine bp 0 1 2 3 6 7 8 (aJ (aj ?_));refine Zm ?_;refine Zm ?_;refine du 0 1 2 3 6 7 8 18 19 (Zt (Cd.block ?_));have pwl:=pw.next hle hp bel k99;obtain⟨wl,hwl⟩:∃wl,wl=w5:=⟨_,rfl⟩;rw[←hwl] at pwl bel k3 k6 k7 k99⊢;have bel0:=bel;have l37:g3<g7:=by omega
 have hgg7:K.g<g7:=by omega
 have hs0:=bel.size;replace bel:=Below.refl wl.heap.size wl;refine Cd.loop (σ:=Nat × Value) (fun s=>[(3, .pointer (some ⟨g3,0,none⟩)),(6, .pointer (some ⟨g6,0,none⟩)),(7, .pointer (some ⟨g7,0,none⟩)),(8,s.2),(18, .int .i64 (k:Int)),(19, .int .i64 (s.1:Int))]) (fun s wr=>s.1≤k∧Below wl.heap.size wl wr∧Own wr wl.heap.size 1 1 s.2 s.1 (List.replicate s.1 (.func (.func 242) #[] #[.pointer (some ⟨g7,0,none⟩), .pointer (some ⟨g3,0,none⟩)]))) (fun s=>k-s.1) (0, .slice none 0 0) ⟨Nat.zero_le _,bel,Own.nil _ _ _ _⟩ ⟨rfl,rfl,rfl,rfl,rfl,rfl,trivial⟩ ?_;clear bel;rintro⟨i,v⟩ wr ⟨hi,bel,own⟩;dsimp only at hi own⊢;refine aj ?_;refine ff ?_;refine bp 3 6 7 8 18 19 20 (aJ ?_);refine Cd.au rfl (fun hc=> ?_) (fun hc=> ?_)
 ·skip
  refine Cd.skip (aJ (Cd.block (Zr ?_)));refine Zm ?_;refine Zv (aa.makeFunc (v:= .func (.func 242) #[] #[.pointer (some ⟨g7,0,none⟩), .pointer (some ⟨g3,0,none⟩)]) rfl (show gR _ _=some [] from rfl) (show gR _ _=some [.pointer (some ⟨g7,0,none⟩), .pointer (some ⟨g3,0,none⟩)] from rfl) rfl) ?_;refine Seq.slice (vs:=[_]) (s:=1) rfl rfl rfl Tryz.underlying225 (by kernel_rfl) (er) (by omega) (by omega) ⟨rfl,trivial⟩ rfl rfl rfl ?_;intro g23 w6 n23;have e23:=Nat.le_trans bel.size n23.ge;replace bel:=bel.step n23.below;replace own:=own.step n23.below;have k23:=n23.ao;refine Seq.append rfl rfl rfl Tryz.underlying225 (by kernel_rfl) er rfl (by decide) (b:=8) (by kernel_rfl) own (Reads.ao k23 1 rfl) (by intro x hx;simp[ax,Value.cells] at hx;rw[hx];rfl) bel.size (by simp only[maxLen];omega) (by omega) rfl rfl rfl ?_;clear own;intro vw7 w7 own haw7;replace bel:=bel.trans haw7.below;refine Za ?_;refine bp 3 6 7 8 18 19 20 (ab.ai (dU ?_));refine dt ?_;refine Zm ?_;refine bp 3 6 7 8 18 19 20 ?_;refine ab.round (i+1,_) ⟨rfl,rfl,rfl,rfl,rfl,rfl,trivial⟩ ⟨by dsimp only;omega,bel,?_⟩ (by dsimp only;omega);dsimp only;rw[List.replicate_succ'];exact own
 obtain rfl:i=k:=by omega
 have pw9:=pwl.step hle bel;replace k3:=k3.step bel;replace k6:=k6.step bel;replace k7:=k7.step bel;obtain⟨AP,cP,rfl,-⟩:=own.reads;have hsr:=bel.size;obtain⟨R,hR⟩:∃R,R=cR K.ws (List.replicate i E0) (p+1) d:=⟨_,rfl⟩;have hcd:eK K.ws E0 op i p d=R.bind fun xs p=> .ok (.mk op 0 [] xs) p:=by rw[hR];rfl
 have hneR:R≠ .out:=Rs.fC (by rw[←hcd];exact hne);have hfl:(List.replicate i (242,[Value.pointer (some ⟨g7,0,none⟩),Value.pointer (some ⟨g3,0,none⟩)])).length=i:=List.length_replicate
 have hrepl:∀ {β:Type} {x y:β} {j:Nat},(List.replicate i x)[j]? =some y→y=x∧j<i:=fun {β x y j} h=>by
  have h1:=(List.getElem?_eq_some_iff.1 h).1;rw[List.length_replicate] at h1;rw[List.getElem?_replicate,if_pos h1] at h;injection h with h
  exact⟨h.symm,h1⟩
 have hwi:=jR K hK g7 (List.replicate i E0) (List.replicate i (242,[Value.pointer (some ⟨g7,0,none⟩),Value.pointer (some ⟨g3,0,none⟩)])) AP cP
  (fun xs W=>Kp wr W∧∃evs vE S,aH W g7 105 #[.int .i64 op, .int .i64 0, .string (strOf []),vE]∧ey W g7 g7 xs [] evs [] vE (.slice none 0 0) S) (p+1) d wr pw9 (by have:=k7.lt;omega) (by rw[List.length_replicate,List.length_replicate]) (by rw[List.length_replicate];omega)
  ⟨Kp.refl wr,[],_,_,k7,ey.nil wr g7 g7⟩
  (fun xs W W' p d hM hp hf=>by
   obtain⟨kp,evs,vE,S,kt,aq⟩:=hM;exact⟨kp.fz hp.ao hf,evs,vE,S,kt.fz hf (by omega),aq.fz hf hgg7⟩)
  (fun xs W j f cp hM hj=>by
   obtain⟨kp,-⟩:=hM;obtain⟨e1,hji⟩:=hrepl hj;injection e1 with e1 e2
   subst e1 e2;obtain⟨A',c',hv,hr⟩:=(kp.own own).reads;injection hv with hv _ _
   subst hv;obtain⟨ad,hA,-,hc⟩:=hr.2 (by omega);exact⟨ad,hA,hc j _ (by rw[List.getElem?_replicate,if_pos hji])⟩)
  (fun j f cp hj=>by
   obtain⟨e1,-⟩:=hrepl hj;injection e1 with e1 e2
   subst e1;exact zD)
  (fun j f cp one hj ho xs W p' hxl hpw hW hM hne1=>by
   obtain⟨e1,hji⟩:=hrepl hj;injection e1 with e1 e2
   subst e1 e2;obtain⟨e3,-⟩:=hrepl ho;subst e3;obtain⟨kp,evs,vE,S,kt,aq⟩:=hM;exact(tZ K hK g7 g7 g3 (d+1) p' op 0 [] xs evs vE S one W hpw hgg7 (Nat.le_refl _) hW kt (kp.ao k3) aq (by omega) (fun W' h1 _=>hE p' (d+1) W' h1 hne1) hne1).mono fun e W' hq=>hq.mono fun a v W' h=>⟨kp.trans h.1,h.2⟩)
  (by rw[←hR];exact hneR)
 rw[←hR,hfl] at hwi;have e0:Fz w.heap.size K.g w wr:=bel0.step bel;refine Cd.exit (ab.aA (ab.ay (ab.az (aB ?_))));refine ZL Tryz.underlying189 k3 ?_;refine Zm ?_;rcases Rs.de hneR with ⟨q,ov,hr⟩|⟨xs,q,hr⟩
 ·rw[hr] at hwi hcd
  refine Seq.cw (Ze Tryz.func166) rfl hwi ?_;rintro e w6 ⟨hf,rfl,d6,hp6⟩;refine⟨_,rfl,fun a ha=>⟨ha.defers,?_⟩⟩;rw[hcd];exact⟨e0.trans (hf.less (by omega)),rfl,d6,hp6⟩
 rw[hr] at hwi hcd;replace hcd:eK K.ws E0 op i p d= .ok (.mk op 0 [] xs) q:=hcd;have k6lt:g6<g7:=by omega
 refine Zc (Ze Tryz.func166) (hwi) ?_;rintro e wq ⟨hf,v6,rfl,pwq,kp6,evs,vE,S,kt6,aq6⟩;refine⟨_,rfl,?_⟩
 have k66:aH wq g6 105 #[.int .i64 0, .int .i64 0, .string {data:= #[]}, .slice none 0 0]:=by
  have k6:aH wr g6 105 #[.int .i64 0, .int .i64 0, .string {data:= #[]}, .slice none 0 0]:=k6;have h1:=hf.block g6 k6lt (by omega);unfold aH at k6⊢;rw[h1];exact k6
 have e1:Fz w.heap.size K.g w wq:=e0.trans (hf.less (by omega));clear hwi;obtain⟨AX,cX,hvX,-⟩:=aq6.gY.reads;subst hvX;clear k6 k7 bel bel0 k3;have k6:=k66;have k7:=kt6;have bel:=e1
 have hxl:xs.length=i:=by
  have:=iL (hR.symm.trans hr);rw[List.length_replicate] at this;exact this
 have e6:w.heap.size≤g6:=by omega
 have hrx:=aq6.ex op 0 [] hop (by unfold bw;omega) (by simp) (by simp) (by omega);have hbn:=aq6.bounds;have hlq:=k6.lt;refine bp 3 6 7 8 18 19 20 (aB ?_);refine ZW 4 Tryz.underlying105 k7 ?_;refine Zo 4 k6 ?_;intro w6 pw6;replace bel:=bel.put k6 pw6 e6;replace k7:=k7.put pw6 (by omega);replace k6:=pw6.ao;refine bp 3 6 7 8 18 19 20 (Zt (Cd.ret ?_));refine jU 4 k6 Tryz.underlying105 ?_;rw[hcd];have hsz:=pw6.size;refine⟨bel,_,rfl,⟨pwq.ao.put pw6 (by omega),pwq.rd.below (pw6.below (by omega) hlq),pwq.dy,pwq.dP⟩,_,hrx.mono (fun _ h=>h) (fun a ha=>World.cell?_of_block (pw6.grown.block _ (hbn _ ha).2.1 (fun e=>by injection e with e;have:=(hbn _ ha).1;omega))),fun b hb=> ?_⟩;obtain⟨h1,h2,-⟩:=hbn b hb;exact⟨by omega,by omega⟩
end Go.Proofs.YtigoimhndlnhfaaGreat