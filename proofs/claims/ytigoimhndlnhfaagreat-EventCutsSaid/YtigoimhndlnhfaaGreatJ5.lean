/-
  Texts that were joined: EvN, EvO, EvP, EvC, EvD, EvE, VodA, EvQ, EvR, EvS, EvT, EvU, EvV, VodB, EvW, EvY, EwA, EwB. Conditions: what each theorem names.
-/
import Derived.Test.YtigoimhndlnhfaaGreatJ4
set_option linter.unusedSectionVars false
namespace Go.Proofs.YtigoimhndlnhfaaGreat
open Go.RowKit
def ql (t:Tm):Int:=if bV t then(if gO t then 0 else 12) else 1
theorem fQ {t:Tm}(h:bV t=true):bW t=true∧t.nodes≤200∧t.depth≤16:=by
 unfold bV at h;simp only[Bool.and_eq_true,decide_eq_true_eq] at h;exact⟨h.2,h.1.1,h.1.2⟩
theorem sA (t:Tm)(B:Nat)(v:Value)(w:World)(hd:t.depth≤900)(hrep:fv w B t v)(hB:B≤w.heap.size):Calls Tryz.prog 61 #[v] w fun en w'=>en= .returned (.int .i64 (ql t))∧Grow w w':=by
 have bel:=Below.refl w.heap.size w;have hrt:=fun W (hb:Below w.heap.size w W)=>rV t B v W hd (hrep.below (hb.mono hB)) (Nat.le_trans hB hb.size);have hft:=fun W (hb:Below w.heap.size w W) (h:bV t=true)=>zS t.nodes t B v W (Nat.le_refl _) (fQ h).1 (hrep.below (hb.mono hB)) (Nat.le_trans hB hb.size);obtain⟨A,c,A',c',rfl,-⟩:=hrep.open;unfold ql
 generalize bV t=r at hrt hft⊢
 generalize gO t=f at hft⊢
 refine Zs 11 Tryz.func61 ?_;refine aj ?_;refine Seq.box rfl rfl rfl rfl rfl ?_;intro g1 w1 n1;have e1:=Nat.le_trans bel.size n1.ge;replace bel:=bel.step n1.below;have k1:=n1.ao;refine Za ?_;refine bu 0 1 2 (aJ (Cd.block (aj ?_)));refine ZW 4 Tryz.underlying71 k1 ?_;refine Zc (Ze Tryz.func99) (hrt _ bel) ?_;rintro en w5 ⟨rfl,hb5⟩;refine⟨_,rfl,?_⟩;replace bel:=bel.step hb5;replace k1:=k1.step hb5;refine iC ?_;refine Za ?_;refine aZ 0 1 2 3 (Zt ?_);refine Cd.cond rfl (fun h=> ?_) (fun h=> ?_)
 ·simp at h
  subst h;refine aj ?_;refine Za ?_;refine aZ 0 1 2 3 (Zt (Cd.ret (ab.ah (ab.af ?_))));refine aX ?_;exact⟨rfl,bel⟩
 ·simp at h
  subst h;refine aj ?_;refine ZW 4 Tryz.underlying71 k1 ?_;refine Zc (Ze Tryz.func100) (hft _ bel rfl) ?_;rintro en w6 ⟨rfl,hb6⟩;refine⟨_,rfl,?_⟩;replace bel:=bel.step hb6;replace k1:=k1.step hb6;refine iC ?_;refine Za ?_;refine aU 0 1 2 3 7 (Zt ?_);refine Cd.cond rfl (fun h=> ?_) (fun h=> ?_)
  ·simp at h
   subst h;refine aj ?_;refine Za ?_;refine aU 0 1 2 3 7 (Zt (Cd.ret (ab.ah (ab.af ?_))));refine aX ?_;exact⟨rfl,bel⟩
  ·simp at h
   subst h;refine Cd.skip (ab.ai (aB ?_));refine Za ?_;refine aU 0 1 2 3 7 (Zt (Cd.ret ?_));refine aX ?_;exact⟨rfl,bel⟩
def qH (e:Ex):Int:=if dc e then eQ e else 0
theorem zz (e:Ex)(B:Nat)(v:Value)(w:World)(hd:e.depth≤900)(hrep:lE w B e v)(hB:B≤w.heap.size):Calls Tryz.prog 105 #[v] w fun en w'=>en= .returned (.tuple #[.int .i64 (qH e), .bool (decide (qH e≠0))])∧Grow w w':=by
 have bel:=Below.refl w.heap.size w;have hrt:=fun W (hb:Below w.heap.size w W)=>lP e B v W hd (hrep.below (hb.mono hB)) (Nat.le_trans hB hb.size);have hft:=fun W (hb:Below w.heap.size w W) (h:dc e=true)=>uM e.nodes e B v W (Nat.le_refl _) (by unfold dc at h;simp only[Bool.and_eq_true] at h;exact h.2) (hrep.below (hb.mono hB)) (Nat.le_trans hB hb.size);obtain⟨A,c,rfl,-⟩:=hrep.open;unfold qH;have hre:(decide (e.nodes≤200)&&decide (e.depth≤16)&&bF e)=dc e:=rfl;rw[hre] at hrt
 generalize dc e=r at hrt hft⊢
 generalize eQ e=f at hft⊢
 refine Zs 13 Tryz.func105 ?_;refine aj ?_;refine Seq.box rfl rfl rfl rfl rfl ?_;intro g1 w1 n1;have e1:=Nat.le_trans bel.size n1.ge;replace bel:=bel.step n1.below;have k1:=n1.ao;refine Za ?_;refine Za ?_;refine aZ 0 1 2 3 (aJ (aj ?_));refine ZW 4 Tryz.underlying105 k1 ?_;refine Zc (Ze Tryz.func136) (hrt _ bel) ?_;rintro en w5 ⟨rfl,hb5⟩;refine⟨_,rfl,?_⟩;replace bel:=bel.step hb5;replace k1:=k1.step hb5;refine iC ?_;refine aU 0 1 2 3 7 (Zt ?_);refine Cd.cond rfl (fun h=> ?_) (fun h=> ?_)
 ·simp at h
  subst h;refine aj ?_;refine Za ?_;refine Za ?_;refine aU 0 1 2 3 7 (Zt (Cd.ret (ab.af ?_)));refine dO ?_;exact⟨rfl,bel⟩
 ·simp at h
  subst h;refine Cd.skip (aB ?_);refine ZW 4 Tryz.underlying105 k1 ?_;refine Zc (Ze Tryz.func143) (hft _ bel rfl) ?_;rintro en w6 ⟨rfl,hb6⟩;refine⟨_,rfl,?_⟩;replace bel:=bel.step hb6;replace k1:=k1.step hb6;refine Za ?_;refine bl 0 1 2 3 4 7 (aB ?_);refine Zm ?_;refine Zm ?_;refine kL ?_;refine Za ?_;refine Za ?_;refine bl 0 1 2 3 4 7 (Zt (Cd.ret ?_));refine dO ?_;exact⟨rfl,bel⟩
theorem C9 (e:Ex)(B:Nat)(v:Value)(w:World)(hd:e.depth≤900)(hrep:lE w B e v)(hB:B≤w.heap.size):Calls Tryz.prog 104 #[v] w fun en w'=>en= .returned (.bool (decide (qH e≠2)))∧Grow w w':=by
 have bel:=Below.refl w.heap.size w;have hk:=fun W (hb:Below w.heap.size w W)=>zz e B v W hd (hrep.below (hb.mono hB)) (Nat.le_trans hB hb.size);obtain⟨A,c,rfl,-⟩:=hrep.open;refine Zs 12 Tryz.func104 ?_;refine aj ?_;refine Seq.box rfl rfl rfl rfl rfl ?_;intro g1 w1 n1;have e1:=Nat.le_trans bel.size n1.ge;replace bel:=bel.step n1.below;have k1:=n1.ao;refine Za ?_;refine bu 0 1 2 (aB ?_);refine ZW 4 Tryz.underlying105 k1 ?_;refine Zc (Ze Tryz.func105) (hk _ bel) ?_;rintro en w6 ⟨rfl,hb6⟩;refine⟨_,rfl,?_⟩;replace bel:=bel.step hb6;replace k1:=k1.step hb6;refine Zm ?_;refine Zx ?_;refine Zx ?_;refine Za ?_;refine Za ?_;refine aZ 0 1 2 3 (aB ?_);refine Zm ?_;refine kL ?_;refine Za ?_;refine aZ 0 1 2 3 (Zt (Cd.ret ?_));refine aX ?_;exact⟨rfl,bel⟩
def Am (op:Int):Bool:=decide (op=6)||decide (op=7)||decide (op=5)||decide (op=9)
theorem vd (t:Tm)(A A':Option Addr)(c c':Nat)(w:World):Calls Tryz.prog 106 #[.agg #[.int .i64 t.op, .string (strOf t.name), .slice A t.exprs.length c, .slice A' t.ar.length c']] w fun e w'=>e= .returned (.bool (Am t.op))∧Grow w w':=by
 have bel:=Below.refl w.heap.size w
 generalize t.op=op
 refine Zs 10 Tryz.func106 ?_;refine aj ?_;refine Seq.box rfl rfl rfl rfl rfl ?_;intro g1 w1 n1;have e1:=Nat.le_trans bel.size n1.ge;replace bel:=bel.step n1.below;have k1:=n1.ao;refine Za ?_;refine bu 0 1 2 (aJ (aj ?_));refine Zf 0 Tryz.underlying71 ?_;refine ZL Tryz.underlying3 k1 ?_;refine aZ 0 1 2 4 (Zt (Cd.block (Cd.seq (aj ?_))));refine bq ?_;refine Za ?_;refine aU 0 1 2 4 5 (Zt ?_);refine Cd.cond rfl (fun h=> ?_) (fun h=> ?_)
 ·skip
  refine Cd.skip (Zt ?_);refine Cd.aY rfl h ?_;simp at h;subst h;refine aj ?_;refine Za ?_;refine aU 0 1 2 4 5 (Zt (Cd.ret (ab.ah (ab.af ?_))));refine aX ?_;exact⟨rfl,bel⟩
 ·simp at h
  refine aj ?_;refine bq ?_;refine Za ?_;refine aU 0 1 2 4 5 (Zt ?_);refine Cd.cond rfl (fun h2=> ?_) (fun h2=> ?_)
  ·skip
   refine Cd.skip (Zt ?_);refine Cd.aY rfl h2 ?_;simp at h2;subst h2;refine aj ?_;refine Za ?_;refine aU 0 1 2 4 5 (Zt (Cd.ret (ab.ah (ab.af ?_))));refine aX ?_;exact⟨rfl,bel⟩
  ·simp at h2
   refine aj ?_;refine bq ?_;refine Za ?_;refine aU 0 1 2 4 5 (Zt ?_);refine Cd.cond rfl (fun h3=> ?_) (fun h3=> ?_)
   ·skip
    refine Cd.skip (Zt ?_);refine Cd.aY rfl h3 ?_;simp at h3;subst h3;refine aj ?_;refine Za ?_;refine aU 0 1 2 4 5 (Zt (Cd.ret (ab.ah (ab.af ?_))));refine aX ?_;exact⟨rfl,bel⟩
   ·simp at h3
    refine Zr ?_;refine bq ?_;refine Za ?_;refine aU 0 1 2 4 5 (Zt ?_);refine Cd.cond rfl (fun h4=> ?_) (fun h4=> ?_)
    ·simp at h4
     subst h4;refine aj ?_;refine Za ?_;refine aU 0 1 2 4 5 (Zt (Cd.ret (ab.ah (ab.af ?_))));refine aX ?_;exact⟨rfl,bel⟩
    ·simp at h4
     refine Cd.skip (ab.ai (aB ?_));refine Za ?_;refine aU 0 1 2 4 5 (Zt (Cd.ret ?_));refine aX ?_;exact⟨aW (aF (by unfold Am;simp[h,h2,h3,h4])),bel⟩
theorem xv (a b:Int)(w:World)(h:a<1000)(h2:b<1000):Calls Tryz.prog 147 #[.agg #[.int .i64 a, .int .i64 b]] w fun e w'=>e= .returned (.tuple #[.int .i64 a, .int .i64 b])∧Grow w w':=by
 have bel:=Below.refl w.heap.size w;refine Zs 14 Tryz.func147 ?_;refine aj ?_;refine Seq.box rfl rfl rfl rfl rfl ?_;intro g1 w1 n1;have e1:=Nat.le_trans bel.size n1.ge;replace bel:=bel.step n1.below;have k1:=n1.ao;refine Za ?_;refine Za ?_;refine aZ 0 1 2 3 (aJ (aj ?_));refine Zf 0 Tryz.underlying200 ?_;refine ZL Tryz.underlying3 k1 ?_;refine Zf 1 Tryz.underlying200 ?_;refine ZL Tryz.underlying3 k1 ?_;refine Zv (aa.max2 rfl rfl rfl) ?_;refine mz ?_;refine aU 0 1 2 3 9 (Zt ?_);refine Cd.au rfl (fun hc=> ?_) (fun hc=> ?_)
 ·exfalso
  omega
 ·skip
  refine Cd.skip (aJ ?_);refine Cd.ef (F':=[(0,_),(1,_),(9,_)]) ⟨rfl,rfl,rfl,trivial⟩ ?_;refine fV 6 ?_;intro w2 hw2 zw2;replace bel:=bel.step hw2;replace k1:=k1.step hw2;have zbel:=bel.size;have zlt:=k1.lt;refine fp 0 Tryz.underlying200 ?_;refine eH Tryz.underlying3 k1 ?_;refine fp 1 Tryz.underlying200 ?_;refine eH Tryz.underlying3 k1 ?_;refine Zd (fun w hG=>aa.assign rfl rfl) ?_;refine Zd (fun w hG=>aa.assign rfl rfl) ?_;refine Dr.nil ?_;refine br.done (F':=[(0,_),(1,_),(2,_),(3,_),(9,_)]) rfl ⟨rfl,rfl,rfl,rfl,rfl,trivial⟩ ?_;intro w3 hw3 fw3;replace bel:=bel.step hw3;replace k1:=k1.step hw3;refine aU 0 1 2 3 9 (Zt (Cd.ret ?_));refine dO ?_;exact⟨rfl,bel⟩
theorem wP (t:Tm)(B:Nat)(v:Value)(w:World)(hr:bV t=true)(hrep:fv w B t v)(hB:B≤w.heap.size):Calls Tryz.prog 108 #[v] w fun en w'=>en= .returned (.tuple #[.int .i64 (t.nodes:Int), .int .i64 (t.depth:Int)])∧Grow w w':=by
 obtain⟨hbt,hn,hd⟩:=fQ hr;have hs:=fun W (hb:Below w.heap.size w W)=>mZ t.nodes t 0 B v W (Nat.le_refl _) (by omega) (hrep.below (hb.mono hB)) (Nat.le_trans hB hb.size);have hc:=oY t;obtain⟨c1,c2⟩:=hc;rw[c2 (by omega),c1,show min (t.nodes:Int) 1000=t.nodes by omega] at hs;obtain⟨A,c,A',c',rfl,-⟩:=hrep.open;have bel:=Below.refl w.heap.size w;refine Zs 9 Tryz.func108 ?_;refine aj ?_;refine Seq.box rfl rfl rfl rfl rfl ?_;intro g1 w1 n1;have e1:=Nat.le_trans bel.size n1.ge;replace bel:=bel.step n1.below;have k1:=n1.ao;refine Za ?_;refine Za ?_;refine aZ 0 1 2 3 (aB ?_);refine ZW 4 Tryz.underlying71 k1 ?_;refine Zc (Ze Tryz.func140) (hs _ bel) ?_;rintro en w5 ⟨rfl,hb5⟩;refine⟨_,rfl,?_⟩;replace bel:=bel.step hb5;replace k1:=k1.step hb5;refine Zc (Ze Tryz.func147) (xv t.nodes t.depth _ (by omega) (by omega)) ?_;rintro en w6 ⟨rfl,hb6⟩;refine⟨_,rfl,?_⟩;replace bel:=bel.step hb6;replace k1:=k1.step hb6;refine Zx ?_;refine Zx ?_;refine Za ?_;refine Za ?_;refine aZ 0 1 2 3 (Zt (Cd.ret ?_));refine dO ?_;exact⟨rfl,bel⟩
structure Pt where
 aV:Int
 ba:Bool
 fD:List Ex
 term:Tm
def yq (p:Pt)(A A1 A2:Option Addr)(c c1 c2:Nat):List Value:=[.int .i64 p.aV, .bool p.ba, .slice A p.fD.length c, .int .i64 p.term.op, .string (strOf p.term.name), .slice A1 p.term.exprs.length c1, .slice A2 p.term.ar.length c2]
structure od (w:World)(B:Nat)(p:Pt)(A A1 A2:Option Addr)(c1 c2:Nat):Prop where
 sU:bw p.aV
 dX:p.fD.length≤1000
 fD:oJ w B p.fD A
 term:fv w B p.term (.agg #[.int .i64 p.term.op, .string (strOf p.term.name), .slice A1 p.term.exprs.length c1, .slice A2 p.term.ar.length c2])
theorem od.below {w w':World}{B:Nat}{p:Pt}{A A1 A2:Option Addr}{c1 c2:Nat}(h:od w B p A A1 A2 c1 c2)(hb:Below B w w'):od w' B p A A1 A2 c1 c2:=⟨h.sU,h.dX,h.fD.below hb,h.term.below hb⟩
def gD (w:World)(B:Nat)(ps:List Pt)(A:Option Addr):Prop:=∀i x,ps[i]? =some x→∃ad A0 A1 A2 c c1 c2,A=some ad∧ad.block<B∧od w B x A0 A1 A2 c1 c2∧∀(j:Nat) (u:Value),(yq x A0 A1 A2 c c1 c2)[j]? =some u→w.cell? ((ad.add (i*7)).add j)=some u
theorem gD.below {w w':World}{B:Nat}{ps:List Pt}{A:Option Addr}(h:gD w B ps A)(hb:Below B w w'):gD w' B ps A:=fun i x hx=>by
 obtain⟨ad,A0,A1,A2,c,c1,c2,e1,e2,e3,e4⟩:=h i x hx;exact⟨ad,A0,A1,A2,c,c1,c2,e1,e2,e3.below hb,fun j u hu=>(hb.cell (by rw[ag,ag];exact e2)).trans (e4 j u hu)⟩
def Pt.flat (p:Pt):Prop:=p.term.depth≤900∧∀e∈p.fD,e.depth≤900
def Dw (p:Pt):Bool:=Am p.term.op&&decide (ql p.term=0)&&decide (p.fD.length≤16)&& !p.fD.any fun e=>decide (qH e≠2)
def kP:Nat→List Pt→Bool
 |_,[]=>true
 |s,p::r=>Dw p&&decide (s+p.term.nodes≤200)&&kP (s+p.term.nodes) r
theorem yI {p:Pt}(h:Dw p=true):bV p.term=true:=by
 unfold Dw ql at h
 cases hr:bV p.term with
 |true=>rfl
 |false=>rw[hr] at h;simp at h
theorem bI:bz Tryz.prog 108=some (some (.agg #[.int .i64 0, .bool false, .slice none 0 0, .int .i64 0, .string {data:= #[]}, .slice none 0 0, .slice none 0 0])):=by kernel_rfl
theorem lq {a b c d e f g:Value}(j:Nat)(v:Value)(hj:([d,e,f,g]:List Value)[j]? =some v):(#[a,b,c,d,e,f,g]:Array Value)[3+j]? =some v:=by
 rcases j with _|_|_|_|j<;>first|(rw[←hj];rfl)|cases hj
theorem Ei:∀args w,(callFunc 104 args).run Tryz.prog w= .ok (.enter 104 args) w:=fun args w=>aO Tryz.func104 (by kernel_rfl) rfl args w
theorem tb (l:List Ex)(B:Nat)(A:Option Addr)(c:Nat)(w:World)(dX:l.length≤1000)(hv:oJ w B l A)(hd:∀e∈l,e.depth≤900)(hB:B≤w.heap.size):
  Calls Tryz.prog 107 #[.slice A l.length c, .func (.func 104) #[] #[]] w fun en w'=>en= .returned (.bool (l.any fun e=>decide (qH e≠2)))∧Grow w w':=
 iW 104 [] (fun e=>decide (qH e≠2)) B A c (.mk 0 0 [] l) w ⟨dX,⟨by show -9223372036854775808≤(0:Int);omega,by show(0:Int)≤9223372036854775807;omega⟩,⟨by show -9223372036854775808≤(0:Int);omega,by show(0:Int)≤9223372036854775807;omega⟩,(by intro d hd;cases hd),Nat.zero_le _,hv⟩ hB Ei (fun x hx v W hb hr=>C9 x B v W (hd x hx) hr (Nat.le_trans hB hb.size))
theorem rG (ps:List Pt)(B:Nat)(A:Option Addr)(c:Nat)(w:World)(dX:ps.length≤1000)(hv:gD w B ps A)(hB:B≤w.heap.size)(hd:∀p∈ps,p.flat):Calls Tryz.prog 63 #[.slice A ps.length c] w fun en w'=>en= .returned (.bool (kP 0 ps))∧Grow w w':=by
 have bel:=Below.refl w.heap.size w;obtain⟨n,hn⟩:∃n,ps.length=n:=⟨_,rfl⟩;rw[hn] at dX⊢;obtain⟨b,hb⟩:∃b,kP 0 ps=b:=⟨_,rfl⟩;rw[hb];refine Zs 49 Tryz.func63 ?_;refine aj ?_;refine Za ?_;refine dM 0 2 (aB ?_);refine Za ?_;refine bu 0 2 3 (aB ?_);refine Za ?_;refine aZ 0 2 3 4 (aJ (aj ?_));refine Zm ?_;refine Zv (aa.len rfl rfl Tryz.underlying50) ?_;refine Zm ?_;refine bp 0 2 3 4 9 10 11 (Zt (Cd.block ?_))
 refine Cd.loop (σ:=Nat × Nat) (fun s=>[(3, .func (.func 104) #[] #[]),(4, .int .i64 (s.2:Int)),(9, .slice A n c),(10, .int .i64 (n:Int)),(11, .int .i64 (s.1:Int))])
  (fun s wr=>s.1≤n∧s.2≤200∧kP s.2 (ps.drop s.1)=b∧Below w.heap.size w wr) (fun s=>n-s.1) (0,0) ⟨Nat.zero_le _,Nat.zero_le _,hb,bel⟩ ⟨rfl,rfl,rfl,rfl,rfl,trivial⟩ ?_
 clear bel;clear hb;rintro⟨k,s⟩ wr ⟨hk,hs,hb,bel⟩;simp only at hk hs hb;show Cd _ _ _ _ [(3, .func (.func 104) #[] #[]),(4, .int .i64 (s:Int)),(9, .slice A n c),(10, .int .i64 (n:Int)),(11, .int .i64 (k:Int))] _;refine aj ?_;refine ff ?_;refine bl 3 4 9 10 11 12 (aJ ?_);refine Cd.au rfl (fun hc=> ?_) (fun hc=> ?_)
 ·obtain⟨x,hx⟩:∃x,ps[k]? =some x:=⟨_,List.getElem?_eq_getElem (show k<ps.length by omega)⟩
  obtain⟨ad,A0,A1,A2,c0,c1,c2,rfl,hbl,hrx,hc⟩:=hv k x hx;have hxm:=List.mem_of_getElem? hx;obtain⟨hdt,hde⟩:=hd x hxm;have hc:=fun j u hj=>((bel.mono hB).cell (p:=(ad.add (k*7)).add j) (by rw[ag,ag];exact hbl)).trans (hc j u hj)
  have hdrop:ps.drop k=x::ps.drop (k+1):=by
   rw[List.drop_eq_getElem_cons (show k<ps.length by omega)];congr 1;obtain⟨_,he⟩:=List.getElem?_eq_some_iff.1 hx;exact he
  rw[hdrop,kP] at hb;have q1:=fun W=>vd x.term A1 A2 c1 c2 W;have q2:=fun W (hb:Below w.heap.size w W)=>sA x.term B _ W hdt (hrx.term.below (hb.mono hB)) (Nat.le_trans hB hb.size);have q3:=fun W (hb:Below w.heap.size w W)=>tb x.fD B A0 c0 W hrx.dX (hrx.fD.below (hb.mono hB)) hde (Nat.le_trans hB hb.size);have q4:=fun W (hb:Below w.heap.size w W) (hr:bV x.term=true)=>wP x.term B _ W hr (hrx.term.below (hb.mono hB)) (Nat.le_trans hB hb.size);have q5:= @yI x;unfold yq at hc;have h60x:=hrx.dX;refine Cd.skip (aJ (Cd.block (aj ?_)));refine Zv (aa.aR rfl rfl rfl Tryz.underlying50 (s:=7) (by kernel_rfl) (j:=k) rfl (by omega)) ?_;refine Zv (aa.bP (ps:=[.int .i64 x.aV, .bool x.ba, .slice A0 x.fD.length c0, .int .i64 x.term.op, .string (strOf x.term.name), .slice A1 x.term.exprs.length c1, .slice A2 x.term.ar.length c2]) rfl rfl Tryz.underlying108 rfl (m:=7) (by kernel_rfl) rfl hc) ?_;refine Zl bI ?_;intro g6 w1 n6;have e6:=Nat.le_trans bel.size n6.ge;replace bel:=bel.step n6.below;have k6:=n6.ao;refine Zo 7 k6 ?_;intro w2 pw2;replace bel:=bel.put k6 pw2 e6;replace k6:=pw2.ao;refine bp 3 4 6 9 10 11 12 (aJ (aj ?_));refine Zf 3 Tryz.underlying108 ?_;refine Zv (aa.rU (off:=3) (ps:=[.int .i64 x.term.op, .string (strOf x.term.name), .slice A1 x.term.exprs.length c1, .slice A2 x.term.ar.length c2]) rfl rfl Tryz.underlying71 rfl k6 (m:=4) (by kernel_rfl) rfl lq) ?_;refine Zc (Ze Tryz.func106) (q1 _) ?_;rintro en w6 ⟨rfl,hb6⟩;refine⟨_,rfl,?_⟩;replace bel:=bel.step hb6;replace k6:=k6.step hb6;refine iC ?_;refine Zm ?_;refine av.start ?_;refine bk (fun hcx=>aa.ak 3 rfl rfl Tryz.underlying108 rfl (by kernel_rfl)) ?_;refine Zn (fun hcx=>aa.rU (off:=3) (ps:=[.int .i64 x.term.op, .string (strOf x.term.name), .slice A1 x.term.exprs.length c1, .slice A2 x.term.ar.length c2]) rfl rfl Tryz.underlying71 rfl k6 (m:=4) (by kernel_rfl) rfl lq) ?_;refine av.bj rfl rfl rfl rfl rfl rfl rfl (fun hcx=>Ze Tryz.func61) (fun hcx=>q2 _ bel) ?_;intro w3 hw3;replace bel:=bel.step hw3;replace k6:=k6.step hw3;refine Zn (fun hcx=>aa.cz rfl rfl rfl) ?_;refine eG ?_;refine Zm ?_;refine av.start ?_;refine bk (fun hcx=>aa.ak 2 rfl rfl Tryz.underlying108 rfl (by kernel_rfl)) ?_;refine Zn (fun hcx=>aa.an rfl rfl Tryz.underlying68 rfl k6 rfl) ?_;refine Zn (fun hcx=>aa.len rfl rfl Tryz.underlying68) ?_;refine Zn (fun hcx=>aa.gtr rfl rfl rfl) ?_;refine eG ?_;refine Zm ?_;refine av.start ?_;refine bk (fun hcx=>aa.ak 2 rfl rfl Tryz.underlying108 rfl (by kernel_rfl)) ?_;refine Zn (fun hcx=>aa.an rfl rfl Tryz.underlying68 rfl k6 rfl) ?_;refine jl ?_;refine av.bj rfl rfl rfl rfl rfl rfl rfl (fun hcx=>Ze Tryz.func107) (fun hcx=>q3 _ bel) ?_;intro w4 hw4;replace bel:=bel.step hw4;replace k6:=k6.step hw4;refine eG ?_;refine cn 3 4 6 9 10 11 12 36 (Zt ?_);refine Cd.cond rfl (fun h=> ?_) (fun h=> ?_)
  ·simp at h
   have hok:Dw x=false:=by
    cases hh:Dw x with
    |false=>rfl
    |true=>
     unfold Dw at hh;simp at hh
     grind
   rw[hok,Bool.false_and,Bool.false_and] at hb;refine aj ?_;refine Za ?_;refine du 2 3 4 6 9 10 11 12 36 (Zt (Cd.ret (ab.af (ab.ah (ab.af (ab.aL (ab.ah (ab.af ?_))))))));refine aX ?_;exact⟨aW (aF hb),bel⟩
  ·simp at h
   have hok:Dw x=true:=by
    unfold Dw;simp
    grind
   have hr:=q5 hok;rw[hok,Bool.true_and] at hb;obtain⟨-,hn2,-⟩:=fQ hr;refine Cd.skip (aB ?_);refine Zf 3 Tryz.underlying108 ?_;refine Zv (aa.rU (off:=3) (ps:=[.int .i64 x.term.op, .string (strOf x.term.name), .slice A1 x.term.exprs.length c1, .slice A2 x.term.ar.length c2]) rfl rfl Tryz.underlying71 rfl k6 (m:=4) (by kernel_rfl) rfl lq) ?_;refine Zc (Ze Tryz.func108) (q4 _ bel hr) ?_;rintro en w7 ⟨rfl,hb7⟩;refine⟨_,rfl,?_⟩;replace bel:=bel.step hb7;replace k6:=k6.step hb7;refine Zm ?_;refine Zx ?_;refine Zx ?_;refine Za ?_;refine Za ?_;refine du 3 4 6 7 9 10 11 12 36 (aB ?_);refine Zm ?_;refine Zm ?_;refine dt ?_;refine Za ?_;refine du 3 4 6 7 9 10 11 12 36 (aB ?_);refine Zm ?_;refine tU ?_;refine ed 3 4 6 7 9 10 11 12 36 47 (Zt ?_);refine Cd.cond rfl (fun h2=> ?_) (fun h2=> ?_)
   ·simp at h2
    rw[decide_eq_false (by omega),Bool.false_and] at hb;refine aj ?_;refine Za ?_;refine bT 2 3 4 6 7 9 10 11 12 36 47 (Zt (Cd.ret (ab.ah (ab.af (ab.aL (ab.ah (ab.af ?_)))))));refine aX ?_;exact⟨aW (aF hb),bel⟩
   ·simp at h2
    rw[decide_eq_true (by omega),Bool.true_and] at hb;refine Cd.skip (ab.ai (dU ?_));refine dt ?_;refine Zm ?_;refine ed 3 4 6 7 9 10 11 12 36 47 ?_;exact ab.round (k+1,s+x.term.nodes) ⟨rfl,rfl,rfl,rfl,rfl,trivial⟩ ⟨by simp only;omega,by simp only;omega,hb,bel⟩ (by simp only;omega)
 ·obtain rfl:k=n:=by omega
  rw[List.drop_of_length_le (by omega),kP] at hb;refine Cd.exit (ab.aA (ab.ay (ab.az (aB ?_))));refine Za ?_;refine bp 2 3 4 9 10 11 12 (Zt (Cd.ret ?_));refine aX ?_;exact⟨aW (aF hb),bel⟩
structure Ct where
 id:List Nat
 bc:List Nat
 writer:List Nat
 text:List Nat
 born:Int
 ended : Int
 state:Int
 parts:List Pt
def Ct.v (k:Ct)(A:Option Addr)(c:Nat):Value:= .agg #[.string (strOf k.id), .string (strOf k.bc), .string (strOf k.writer), .string (strOf k.text), .int .i64 k.born, .int .i64 k.ended, .int .i64 k.state, .slice A k.parts.length c]
structure Ct.kh (k:Ct):Prop where
 id:∀x∈k.id,x<256
 Fk:k.id.length≤9223372036854775807
 bc:∀x∈k.bc,x<256
 Dx:k.bc.length≤9223372036854775807
 writer:∀x∈k.writer,x<256
 C3:k.writer.length≤9223372036854775807
 text:∀x∈k.text,x<256
 pS:k.text.length≤9223372036854775807
 born:bw k.born
 ended : bw k.ended
 state:bw k.state
 parts:k.parts.length≤1000
 flat:∀p∈k.parts,p.flat
def yr (n:Int):Bool:=decide (0≤n)&&decide (n≤2932896)
def gM (k:Ct):Bool:=
 (fS k.text&&decide (ql (cA k.text).1=0)&&cI k.id&&cI k.bc&&cI k.writer&& !decide (k.bc=k.writer)&&yr k.born&&yr k.ended)&&
 (if k.state=1 then decide (k.ended=0)&&kP 0 k.parts else if k.state=2∨k.state=3 then decide (k.parts.length=0) else false)
theorem nS (s:List Nat):(cA s).1.depth≤900:=by
 by_cases h:(cA s).2.2=0
 ·have:=(fQ (nq h).1).2.2
  omega
 ·rw[sB h]
  decide
theorem sJ (k:Ct)(B:Nat)(A:Option Addr)(c:Nat)(w:World)(hk:k.kh)(hv:gD w B k.parts A)(hB:B≤w.heap.size):Calls Tryz.prog 21 #[k.v A c] w fun en w'=>en= .returned (.bool (gM k))∧Grow w w':=by
 have bel:=Below.refl w.heap.size w;have hha:=hk.bc;have hwr:=hk.writer;have y1:=fun W=>gp k.id W hk.id hk.Fk;have y2:=fun W=>gp k.bc W hk.bc hk.Dx;have y3:=fun W=>gp k.writer W hk.writer hk.C3;have y4:=fun W=>qV k.text W hk.text hk.pS;have y5:=fun W=>wS k.born W;have y6:=fun W=>wS k.ended W;have y7:=fun W v hr=>sA (cA k.text).1 _ v W (nS k.text) hr (Nat.le_refl _);have y8:=fun W (hb:Below w.heap.size w W)=>rG k.parts B A c W hk.parts (hv.below (hb.mono hB)) (Nat.le_trans hB hb.size) hk.flat;have h61:=hk.parts
 have hso:gM k=((fS k.text&&decide (ql (cA k.text).1=0)&&cI k.id&&cI k.bc&&cI k.writer&& !decide (k.bc=k.writer)&&yr k.born&&yr k.ended)&&
  (if k.state=1 then decide (k.ended=0)&&kP 0 k.parts else if k.state=2∨k.state=3 then decide (k.parts.length=0) else false)):=rfl
 unfold yr at hso;unfold Ct.v
 generalize gM k=so at hso⊢
 generalize (cA k.text).1=t at y4 y7 hso
 generalize fS k.text=b0 at y4 hso
 generalize cI k.id=b1 at y1 hso
 generalize cI k.bc=b2 at y2 hso
 generalize cI k.writer=b3 at y3 hso
 generalize kP 0 k.parts=b8 at y8 hso
 generalize ql t=f at y7 hso
 refine Zs 74 Tryz.func21 ?_;refine aj ?_;refine Seq.box rfl rfl rfl rfl rfl ?_;intro g1 w1 n1;have e1:=Nat.le_trans bel.size n1.ge;replace bel:=bel.step n1.below;have k1:=n1.ao;refine Za ?_;refine bu 0 1 2 (aB ?_);refine Zf 3 Tryz.underlying52 ?_;refine ZL Tryz.underlying9 k1 ?_;refine Zc (Ze Tryz.func36) (y4 _) ?_;rintro en w5 ⟨hb5,v,S,rfl,hrep,hS⟩;obtain⟨A1,c1,A2,c2,hvX⟩:=hrep.form;subst hvX;refine⟨_,rfl,?_⟩;have hp1:=k1.lt;replace bel:=bel.step hb5;replace k1:=k1.step hb5;have rs:zm _ w5.heap.size S t (.agg #[.int .i64 t.op, .string (strOf t.name), .slice A1 t.exprs.length c1, .slice A2 t.ar.length c2]) w5:=⟨hrep,hS,Nat.le_refl _⟩;refine Zm ?_;refine Zx ?_;refine Zx ?_;refine Zl aK ?_;intro g3 w2 n3;have q3:=n3.ge;have e3:=Nat.le_trans bel.size n3.ge;have l3:=Nat.lt_of_lt_of_le k1.lt n3.ge;replace bel:=bel.step n3.below;replace k1:=k1.step n3.below;replace rs:=rs.step n3.below;have k3:=n3.ao;refine Zo 4 k3 ?_;intro w3 pw3;replace bel:=bel.put k3 pw3 e3;replace k1:=k1.put pw3 (by omega);replace rs:=rs.put k3 pw3 e3;replace k3:=pw3.ao;have k3:aH _ g3 71 #[.int .i64 t.op, .string (strOf t.name), .slice A1 t.exprs.length c1, .slice A2 t.ar.length c2]:=k3;refine Za ?_;refine aU 0 1 2 3 4 (aJ (aj ?_));refine Zm ?_;refine iC ?_;refine Zm ?_;refine av.start ?_;refine bk (fun hcx=>aa.dr rfl rfl Tryz.underlying71 rfl k3 (m:=4) (by kernel_rfl) rfl) ?_;refine av.bj rfl rfl rfl rfl rfl rfl rfl (fun hcx=>Ze Tryz.func61) (fun hcx=>y7 _ _ (rs.rep.mono (fun b hb=>Nat.lt_of_lt_of_le (rs.bd b hb).2 rs.eV) (fun _ _=>rfl))) ?_;intro w4 hw4;replace bel:=bel.step hw4;replace k1:=k1.step hw4;replace rs:=rs.step hw4;replace k3:=k3.step hw4;refine Zn (fun hcx=>aa.cz rfl rfl rfl) ?_;refine eG ?_;refine Zm ?_;refine av.start ?_;refine bk (fun hcx=>aa.ak 0 rfl rfl Tryz.underlying52 rfl (by kernel_rfl)) ?_;refine Zn (fun hcx=>aa.an rfl rfl Tryz.underlying9 rfl k1 rfl) ?_;refine av.bj rfl rfl rfl rfl rfl rfl rfl (fun hcx=>Ze Tryz.func62) (fun hcx=>y1 _) ?_;intro w5 hw5;replace bel:=bel.step hw5;replace k1:=k1.step hw5;replace rs:=rs.step hw5;replace k3:=k3.step hw5;refine Zn (fun hcx=>aa.not rfl rfl) ?_;refine eG ?_;refine Zm ?_;refine av.start ?_;refine bk (fun hcx=>aa.ak 1 rfl rfl Tryz.underlying52 rfl (by kernel_rfl)) ?_;refine Zn (fun hcx=>aa.an rfl rfl Tryz.underlying9 rfl k1 rfl) ?_;refine av.bj rfl rfl rfl rfl rfl rfl rfl (fun hcx=>Ze Tryz.func62) (fun hcx=>y2 _) ?_;intro w6 hw6;replace bel:=bel.step hw6;replace k1:=k1.step hw6;replace rs:=rs.step hw6;replace k3:=k3.step hw6;refine Zn (fun hcx=>aa.not rfl rfl) ?_;refine eG ?_;refine Zm ?_;refine av.start ?_;refine bk (fun hcx=>aa.ak 2 rfl rfl Tryz.underlying52 rfl (by kernel_rfl)) ?_;refine Zn (fun hcx=>aa.an rfl rfl Tryz.underlying9 rfl k1 rfl) ?_;refine av.bj rfl rfl rfl rfl rfl rfl rfl (fun hcx=>Ze Tryz.func62) (fun hcx=>y3 _) ?_;intro w7 hw7;replace bel:=bel.step hw7;replace k1:=k1.step hw7;replace rs:=rs.step hw7;replace k3:=k3.step hw7;refine Zn (fun hcx=>aa.not rfl rfl) ?_;refine eG ?_;refine Zm ?_;refine av.start ?_;refine bk (fun hcx=>aa.ak 1 rfl rfl Tryz.underlying52 rfl (by kernel_rfl)) ?_;refine Zn (fun hcx=>aa.an rfl rfl Tryz.underlying9 rfl k1 rfl) ?_;refine Zn (fun hcx=>aa.ak 2 rfl rfl Tryz.underlying52 rfl (by kernel_rfl)) ?_;refine Zn (fun hcx=>aa.an rfl rfl Tryz.underlying9 rfl k1 rfl) ?_;refine Zn (fun hcx=>aa.dq (a:=k.bc) (b:=k.writer) rfl rfl rfl hha hwr) ?_;refine eG ?_;refine Zm ?_;refine av.start ?_;refine bk (fun hcx=>aa.ak 4 rfl rfl Tryz.underlying52 rfl (by kernel_rfl)) ?_;refine Zn (fun hcx=>aa.an rfl rfl Tryz.underlying3 rfl k1 rfl) ?_;refine av.bj rfl rfl rfl rfl rfl rfl rfl (fun hcx=>Ze Tryz.func37) (fun hcx=>y5 _) ?_;intro w8 hw8;replace bel:=bel.step hw8;replace k1:=k1.step hw8;replace rs:=rs.step hw8;replace k3:=k3.step hw8;refine Zn (fun hcx=>aa.not rfl rfl) ?_;refine eG ?_;refine Zm ?_;refine av.start ?_;refine bk (fun hcx=>aa.ak 5 rfl rfl Tryz.underlying52 rfl (by kernel_rfl)) ?_;refine Zn (fun hcx=>aa.an rfl rfl Tryz.underlying3 rfl k1 rfl) ?_;refine av.bj rfl rfl rfl rfl rfl rfl rfl (fun hcx=>Ze Tryz.func37) (fun hcx=>y6 _) ?_;intro w9 hw9;replace bel:=bel.step hw9;replace k1:=k1.step hw9;replace rs:=rs.step hw9;replace k3:=k3.step hw9;refine Zn (fun hcx=>aa.not rfl rfl) ?_;refine eG ?_;refine bl 0 1 2 3 4 54 (Zt ?_);refine Cd.cond rfl (fun h=> ?_) (fun h=> ?_)
 ·simp at h
  have hs0:so=false:=by
   rw[hso,Bool.and_eq_false_iff];refine .inl ?_;simp
   grind
  refine aj ?_;refine Za ?_;refine bl 0 1 2 3 4 54 (Zt (Cd.ret (ab.af ?_)));refine aX ?_;exact⟨aW (aF hs0.symm),bel⟩
 ·simp at h
  have hs0:so=(if k.state=1 then decide (k.ended=0)&&b8 else if k.state=2∨k.state=3 then decide (k.parts.length=0) else false):=by
   rw[hso]
   have:(b0&&decide (f=0)&&b1&&b2&&b3&& !decide (k.bc=k.writer)&&(decide (0≤k.born)&&decide (k.born≤2932896))&&(decide (0≤k.ended)&&decide (k.ended≤2932896)))=true:=by
    simp
    grind
   rw[this,Bool.true_and]
  clear hso;refine Cd.skip (aJ (aj ?_));refine Zf 6 Tryz.underlying52 ?_;refine ZL Tryz.underlying3 k1 ?_;refine bp 0 1 2 3 4 54 56 (Zt (Cd.block (aj ?_)));refine bq ?_;refine Za ?_;refine cn 0 1 2 3 4 54 56 57 (Zt ?_);refine Cd.au rfl (fun hc=> ?_) (fun hc=> ?_)
  ·rw[if_pos hc] at hs0
   refine aj ?_;refine Zf 5 Tryz.underlying52 ?_;refine ZL Tryz.underlying3 k1 ?_;refine bq ?_;refine Zm ?_;refine av.start ?_;refine bk (fun hcx=>aa.ak 7 rfl rfl Tryz.underlying52 rfl (by kernel_rfl)) ?_;refine Zn (fun hcx=>aa.an rfl rfl Tryz.underlying50 rfl k1 rfl) ?_;refine av.bj rfl rfl rfl rfl rfl rfl rfl (fun hcx=>Ze Tryz.func63) (fun hcx=>y8 _ bel) ?_;intro w10 hw10;replace bel:=bel.step hw10;replace k1:=k1.step hw10;replace rs:=rs.step hw10;replace k3:=k3.step hw10;refine ep ?_;refine Za ?_;refine cn 0 1 2 3 4 54 56 57 (Zt (Cd.ret (ab.ah (ab.af ?_))));refine aX ?_;exact⟨aW (aF (by rw[hs0];try (cases decide (k.ended=0)<;>rfl))),bel⟩
  ·rw[if_neg hc] at hs0
   refine Cd.seq (aj ?_);refine bq ?_;refine Za ?_;refine du 0 1 2 3 4 54 56 57 67 (Zt ?_);refine Cd.cond rfl (fun h2=> ?_) (fun h2=> ?_)
   ·skip
    refine Cd.skip (Zt ?_);refine Cd.aY rfl h2 ?_;simp at h2;rw[if_pos (by omega)] at hs0;refine aj ?_;refine Zf 7 Tryz.underlying52 ?_;refine ZL Tryz.underlying50 k1 ?_;refine Zv (aa.len rfl rfl Tryz.underlying50) ?_;refine bq ?_;refine Za ?_;refine du 0 1 2 3 4 54 56 57 67 (Zt (Cd.ret (ab.ah (ab.af ?_))));refine aX ?_;exact⟨aW (aF (by rw[hs0];try simp)),bel⟩
   ·simp at h2
    refine Zr ?_;refine bq ?_;refine Za ?_;refine du 0 1 2 3 4 54 56 57 67 (Zt ?_);refine Cd.cond rfl (fun h3=> ?_) (fun h3=> ?_)
    ·simp at h3
     rw[if_pos (by omega)] at hs0;refine aj ?_;refine Zf 7 Tryz.underlying52 ?_;refine ZL Tryz.underlying50 k1 ?_;refine Zv (aa.len rfl rfl Tryz.underlying50) ?_;refine bq ?_;refine Za ?_;refine du 0 1 2 3 4 54 56 57 67 (Zt (Cd.ret (ab.ah (ab.af ?_))));refine aX ?_;exact⟨aW (aF (by rw[hs0];try simp)),bel⟩
    ·simp at h3
     rw[if_neg (by omega)] at hs0;refine Cd.skip (ab.ai (aB ?_));refine Za ?_;refine du 0 1 2 3 4 54 56 57 67 (Zt (Cd.ret ?_));refine aX ?_;exact⟨aW (aF hs0.symm),bel⟩
def pC (k:Int):Ev:=⟨k,[],[],[],[],0,0,0,0⟩
theorem mV (a:Int)(w:World):(Instr.build 29 #[(0, .int .i64 a)]).run Tryz.prog w= .ok (pC a).v w:=by kernel_rfl
theorem vV {e:Ev}(h:e.kh):(jD e).kh:=by
 have hn:∀x∈([]:List Nat),x<256:=fun x h=>by cases h
 have h0:bw 0:=by unfold bw;omega
 have hl:([]:List Nat).length≤9223372036854775807:=Nat.zero_le _;obtain⟨a1,a2,a3,a4,a5,a6,a7,a8,a9,b1,b2,b3,b4⟩:=h;unfold jD
 repeat' split
 all_goals constructor<;>first|assumption
theorem zi {k:Int}(h:bw k):(pC k).kh:=by
 have h0:bw 0:=by unfold bw;omega
 have hn:∀x∈([]:List Nat),x<256:=fun x h=>by cases h
 exact⟨h,hn,hn,hn,hn,h0,h0,h0,h0,Nat.zero_le _,Nat.zero_le _,Nat.zero_le _,Nat.zero_le _⟩
def iB (e:Ev):Bool:=(decide (1≤e.kind)&&decide (e.kind≤7))&&decide (jD e=pC e.kind)&&rf e&&(decide (e.kind≠1)||fS e.text)&&(decide (0≤e.day)&&decide (e.day≤2932896))&&(decide (0≤e.at_)&&decide (e.at_<200)&&(decide (e.gH=0)||decide (e.gH=1)))
set_option maxHeartbeats 1000000 in
theorem vg (e:Ev)(he:e.kh)(w:World):Calls Tryz.prog 13 #[e.v] w fun en w'=>en= .returned (.bool (iB e))∧Grow w w':=by
 have bel:=Below.refl w.heap.size w;have hneq:=fun W=>wV (jD e) (pC e.kind) W;rw[CR (vV he) (zi he.kind)] at hneq;have hbl:=fun W=>BB e W;have hnm:=fun W=>Ak e he W;have hpr:=fun W=>qV e.text W he.text he.pS;have hday:=fun W=>wS e.day W;unfold Ev.v at hbl hnm⊢;have hF:∀ {b:Bool},b=false→∀c d,(b&&c&&d)=false:=fun h c d=>by rw[h];rfl
 refine Zs 60 Tryz.func13 ?_;refine aj ?_;refine Seq.box rfl rfl rfl rfl rfl ?_;intro g1 w1 n1;have e1:=Nat.le_trans bel.size n1.ge;replace bel:=bel.step n1.below;have k1:=n1.ao;refine Za ?_;refine bu 0 1 2 (aJ (Cd.seq ?_))
 by_cases c1:e.kind<1
 ·skip
  refine fV 21 ?_;intro w2 hw2 zw2;replace bel:=bel.step hw2;replace k1:=k1.step hw2;have zbel:=bel.size;have zlt:=k1.lt;refine fp 0 Tryz.underlying29 ?_;refine eH Tryz.underlying3 k1 ?_;refine Zd (fun w hG=>(aa.lss rfl rfl rfl).lI (by omega)) ?_;refine eJ ?_;refine ki ?_;refine ki ?_;refine ki ?_;refine Zd (fun w hG=>aa.bZ rfl rfl rfl) ?_;refine eJ ?_;refine ki ?_;refine ki ?_;refine ki ?_;refine ki ?_;refine ki ?_;refine ki ?_;refine Zd (fun w hG=>aa.bZ rfl rfl rfl) ?_;refine eJ ?_;refine ki ?_;refine ki ?_;refine ki ?_;refine Zd (fun w hG=>aa.bZ rfl rfl rfl) ?_;refine Dr.nil ?_;refine br.done (F':=[(0,_),(1,_),(2,_),(25,_)]) rfl ⟨rfl,rfl,rfl,rfl,trivial⟩ ?_;intro w3 hw3 fw3;replace bel:=bel.step hw3;replace k1:=k1.step hw3;refine aZ 0 1 2 25 (Zt ?_);refine Cd.aY rfl rfl ?_;refine aj ?_;refine Za ?_;refine aZ 0 1 2 25 (Zt (Cd.ret (ab.af ?_)));refine aX ?_;exact⟨aW (aF (by unfold iB;rw[decide_eq_false (by omega)];rfl)),bel⟩
 by_cases c2:7<e.kind
 ·skip
  refine fV 21 ?_;intro w2 hw2 zw2;replace bel:=bel.step hw2;replace k1:=k1.step hw2;have zbel:=bel.size;have zlt:=k1.lt;refine fp 0 Tryz.underlying29 ?_;refine eH Tryz.underlying3 k1 ?_;refine Zd (fun w hG=>(aa.lss rfl rfl rfl).kj (by omega)) ?_;refine eJ ?_;refine fY (fun w hG=>aa.ak 0 rfl rfl Tryz.underlying29 rfl (by kernel_rfl)) ?_;refine fY (fun w hG=>aa.an rfl rfl Tryz.underlying3 rfl (k1.step hG) rfl) ?_;refine fY (fun w hG=>(aa.gtr rfl rfl rfl).lI (by omega)) ?_;refine Zd (fun w hG=>aa.bX rfl rfl rfl) ?_;refine eJ ?_;refine ki ?_;refine ki ?_;refine ki ?_;refine ki ?_;refine ki ?_;refine ki ?_;refine Zd (fun w hG=>aa.bZ rfl rfl rfl) ?_;refine eJ ?_;refine ki ?_;refine ki ?_;refine ki ?_;refine Zd (fun w hG=>aa.bZ rfl rfl rfl) ?_;refine Dr.nil ?_;refine br.done (F':=[(0,_),(1,_),(2,_),(25,_)]) rfl ⟨rfl,rfl,rfl,rfl,trivial⟩ ?_;intro w3 hw3 fw3;replace bel:=bel.step hw3;replace k1:=k1.step hw3;refine aZ 0 1 2 25 (Zt ?_);refine Cd.aY rfl rfl ?_;refine aj ?_;refine Za ?_;refine aZ 0 1 2 25 (Zt (Cd.ret (ab.af ?_)));refine aX ?_;exact⟨aW (aF (by unfold iB;rw[decide_eq_false (show¬e.kind≤7 by omega),Bool.and_false];rfl)),bel⟩
 have hk:decide (1≤e.kind)=true∧decide (e.kind≤7)=true:=⟨decide_eq_true (by omega),decide_eq_true (by omega)⟩
 by_cases c3:jD e=pC e.kind
 ·have hne:(!decide (jD e=pC e.kind))=false:=by rw[decide_eq_true c3];rfl
  rw[hne] at hneq;refine fV 21 ?_;intro w2 hw2 zw2;replace bel:=bel.step hw2;replace k1:=k1.step hw2;have zbel:=bel.size;have zlt:=k1.lt;refine fp 0 Tryz.underlying29 ?_;refine eH Tryz.underlying3 k1 ?_;refine Zd (fun w hG=>(aa.lss rfl rfl rfl).kj (by omega)) ?_;refine eJ ?_;refine fY (fun w hG=>aa.ak 0 rfl rfl Tryz.underlying29 rfl (by kernel_rfl)) ?_;refine fY (fun w hG=>aa.an rfl rfl Tryz.underlying3 rfl (k1.step hG) rfl) ?_;refine fY (fun w hG=>(aa.gtr rfl rfl rfl).kj (by omega)) ?_;refine Zd (fun w hG=>aa.bX rfl rfl rfl) ?_;refine eJ ?_;refine fY (fun w hG=>aa.dr rfl rfl Tryz.underlying29 rfl (k1.step hG) (m:=9) (by kernel_rfl) rfl) ?_;refine Dr.ng rfl (fun w=>Ze Tryz.func34) rfl rfl rfl (fun w hG=>hbl w) ?_;refine fY (fun w hG=>aa.ak 0 rfl rfl Tryz.underlying29 rfl (by kernel_rfl)) ?_;refine fY (fun w hG=>aa.an rfl rfl Tryz.underlying3 rfl (k1.step hG) rfl) ?_;refine fY (fun w hG=>aa.build rfl rfl (mV _ w)) ?_;refine fY (fun w hG=>aa.bin rfl rfl rfl (vF _ _ _ _ _ w) (hneq w)) ?_;refine Zd (fun w hG=>aa.bX rfl rfl rfl) ?_;refine eJ ?_;refine fY (fun w hG=>aa.dr rfl rfl Tryz.underlying29 rfl (k1.step hG) (m:=9) (by kernel_rfl) rfl) ?_;refine Dr.ng rfl (fun w=>Ze Tryz.func35) rfl rfl rfl (fun w hG=>hnm w) ?_;refine fY (fun w hG=>aa.not rfl rfl) ?_;refine Zd (fun w hG=>aa.bX rfl rfl rfl) ?_;refine Dr.nil ?_;refine br.done (F':=[(0,_),(1,_),(2,_),(25,_)]) rfl ⟨rfl,rfl,rfl,rfl,trivial⟩ ?_;intro w3 hw3 fw3;replace bel:=bel.step hw3;replace k1:=k1.step hw3;refine aZ 0 1 2 25 (Zt ?_);refine Cd.cond rfl (fun h4=> ?_) (fun h4=> ?_)
  ·skip
   refine aj ?_;refine Za ?_;refine aZ 0 1 2 25 (Zt (Cd.ret (ab.af ?_)));refine aX ?_;have h4:rf e=false:=by simpa using h4
   exact⟨aW (aF (by unfold iB;rw[h4];simp)),bel⟩
  have h4:rf e=true:=by simpa using h4
  refine Cd.skip (aJ (aj ?_));refine Zf 0 Tryz.underlying29 ?_;refine ZL Tryz.underlying3 k1 ?_;refine bq ?_;refine aU 0 1 2 25 28 (Zt ?_);refine Cd.au rfl (fun h5=> ?_) (fun h5=> ?_)
  ·skip
   refine aj ?_;refine Zf 4 Tryz.underlying29 ?_;refine ZL Tryz.underlying9 k1 ?_;refine Zc (Ze Tryz.func36) (hpr _) ?_;rintro en w8 ⟨hb8,v,S,rfl,hrep,hS⟩;obtain⟨A1,d1,A2,d2,hvX⟩:=hrep.form;subst hvX;refine⟨_,rfl,?_⟩;replace bel:=bel.step hb8;replace k1:=k1.step hb8;refine Zm ?_;refine Zx ?_;refine Zx ?_;refine Zl aK ?_;intro g3 w4 n3;have e3:=Nat.le_trans bel.size n3.ge;have l3:=Nat.lt_of_lt_of_le k1.lt n3.ge;replace bel:=bel.step n3.below;replace k1:=k1.step n3.below;have k3:=n3.ao;refine Zo 4 k3 ?_;intro w5 pw5;replace bel:=bel.put k3 pw5 e3;replace k1:=k1.put pw5 (by omega);replace k3:=pw5.ao;refine Za ?_;refine bl 0 1 2 4 25 28 (aB ?_);refine Zm ?_;refine iC ?_;refine bp 0 1 2 4 25 28 36 (Zt ?_);refine Cd.cond rfl (fun h6=> ?_) (fun h6=> ?_)
   ·skip
    refine aj ?_;refine Za ?_;refine bp 0 1 2 4 25 28 36 (Zt (Cd.ret (ab.af ?_)));refine aX ?_;have h6:fS e.text=false:=by simpa using h6
    exact⟨aW (aF (by unfold iB;rw[h6,decide_eq_false (show¬e.kind≠1 from fun h=>h h5)];simp)),bel⟩
   have h6:fS e.text=true:=by simpa using h6
   refine Cd.skip (aB ?_);refine Zf 5 Tryz.underlying29 ?_;refine ZL Tryz.underlying3 k1 ?_;refine Zc (Ze Tryz.func37) (hday _) ?_;rintro en w9 ⟨rfl,hb9⟩;refine⟨_,rfl,?_⟩;replace bel:=bel.step hb9;replace k1:=k1.step hb9;replace k3:=k3.step hb9;refine Zm ?_;refine av.start ?_;refine bk (fun hcx=>aa.ak 6 rfl rfl Tryz.underlying29 rfl (by kernel_rfl)) ?_;refine Zn (fun hcx=>aa.an rfl rfl Tryz.underlying3 rfl k1 rfl) ?_;refine Zn (fun hcx=>aa.geq rfl rfl rfl) ?_;refine ep ?_;refine Zm ?_;refine av.start ?_;refine bk (fun hcx=>aa.ak 6 rfl rfl Tryz.underlying29 rfl (by kernel_rfl)) ?_;refine Zn (fun hcx=>aa.an rfl rfl Tryz.underlying3 rfl k1 rfl) ?_;refine Zn (fun hcx=>aa.lss rfl rfl rfl) ?_;refine ep ?_;refine Zm ?_;refine av.start ?_;refine bk (fun hcx=>aa.ak 7 rfl rfl Tryz.underlying29 rfl (by kernel_rfl)) ?_;refine Zn (fun hcx=>aa.an rfl rfl Tryz.underlying3 rfl k1 rfl) ?_;refine Zn (fun hcx=>aa.fm rfl rfl rfl) ?_;refine jl ?_;refine bk (fun hcx=>aa.ak 7 rfl rfl Tryz.underlying29 rfl (by kernel_rfl)) ?_;refine Zn (fun hcx=>aa.an rfl rfl Tryz.underlying3 rfl k1 rfl) ?_;refine Zn (fun hcx=>aa.fm rfl rfl rfl) ?_;refine av.E6 rfl rfl rfl rfl rfl rfl rfl rfl rfl rfl rfl ?_;refine ep ?_;refine Za ?_;refine bp 0 1 2 4 25 28 36 (Zt (Cd.ret ?_));refine aX ?_;refine⟨aW (aF ?_),bel⟩;unfold iB;rw[hk.1,hk.2,decide_eq_true c3,h4,h6,Bool.or_true];simp[Bool.and_assoc]
  ·skip
   refine Cd.skip (aB ?_);refine Zf 5 Tryz.underlying29 ?_;refine ZL Tryz.underlying3 k1 ?_;refine Zc (Ze Tryz.func37) (hday _) ?_;rintro en w9 ⟨rfl,hb9⟩;refine⟨_,rfl,?_⟩;replace bel:=bel.step hb9;replace k1:=k1.step hb9;refine Zm ?_;refine av.start ?_;refine bk (fun hcx=>aa.ak 6 rfl rfl Tryz.underlying29 rfl (by kernel_rfl)) ?_;refine Zn (fun hcx=>aa.an rfl rfl Tryz.underlying3 rfl k1 rfl) ?_;refine Zn (fun hcx=>aa.geq rfl rfl rfl) ?_;refine ep ?_;refine Zm ?_;refine av.start ?_;refine bk (fun hcx=>aa.ak 6 rfl rfl Tryz.underlying29 rfl (by kernel_rfl)) ?_;refine Zn (fun hcx=>aa.an rfl rfl Tryz.underlying3 rfl k1 rfl) ?_;refine Zn (fun hcx=>aa.lss rfl rfl rfl) ?_;refine ep ?_;refine Zm ?_;refine av.start ?_;refine bk (fun hcx=>aa.ak 7 rfl rfl Tryz.underlying29 rfl (by kernel_rfl)) ?_;refine Zn (fun hcx=>aa.an rfl rfl Tryz.underlying3 rfl k1 rfl) ?_;refine Zn (fun hcx=>aa.fm rfl rfl rfl) ?_;refine jl ?_;refine bk (fun hcx=>aa.ak 7 rfl rfl Tryz.underlying29 rfl (by kernel_rfl)) ?_;refine Zn (fun hcx=>aa.an rfl rfl Tryz.underlying3 rfl k1 rfl) ?_;refine Zn (fun hcx=>aa.fm rfl rfl rfl) ?_;refine av.E6 rfl rfl rfl rfl rfl rfl rfl rfl rfl rfl rfl ?_;refine ep ?_;refine Za ?_;refine aU 0 1 2 25 28 (Zt (Cd.ret ?_));refine aX ?_;refine⟨aW (aF ?_),bel⟩;unfold iB;rw[hk.1,hk.2,decide_eq_true c3,h4,decide_eq_true h5,Bool.true_or];simp[Bool.and_assoc]
 ·have hne:(!decide (jD e=pC e.kind))=true:=by rw[decide_eq_false c3];rfl
  rw[hne] at hneq;refine fV 21 ?_;intro w2 hw2 zw2;replace bel:=bel.step hw2;replace k1:=k1.step hw2;have zbel:=bel.size;have zlt:=k1.lt;refine fp 0 Tryz.underlying29 ?_;refine eH Tryz.underlying3 k1 ?_;refine Zd (fun w hG=>(aa.lss rfl rfl rfl).kj (by omega)) ?_;refine eJ ?_;refine fY (fun w hG=>aa.ak 0 rfl rfl Tryz.underlying29 rfl (by kernel_rfl)) ?_;refine fY (fun w hG=>aa.an rfl rfl Tryz.underlying3 rfl (k1.step hG) rfl) ?_;refine fY (fun w hG=>(aa.gtr rfl rfl rfl).kj (by omega)) ?_;refine Zd (fun w hG=>aa.bX rfl rfl rfl) ?_;refine eJ ?_;refine fY (fun w hG=>aa.dr rfl rfl Tryz.underlying29 rfl (k1.step hG) (m:=9) (by kernel_rfl) rfl) ?_;refine Dr.ng rfl (fun w=>Ze Tryz.func34) rfl rfl rfl (fun w hG=>hbl w) ?_;refine fY (fun w hG=>aa.ak 0 rfl rfl Tryz.underlying29 rfl (by kernel_rfl)) ?_;refine fY (fun w hG=>aa.an rfl rfl Tryz.underlying3 rfl (k1.step hG) rfl) ?_;refine fY (fun w hG=>aa.build rfl rfl (mV _ w)) ?_;refine fY (fun w hG=>aa.bin rfl rfl rfl (vF _ _ _ _ _ w) (hneq w)) ?_;refine Zd (fun w hG=>aa.bX rfl rfl rfl) ?_;refine eJ ?_;refine ki ?_;refine ki ?_;refine ki ?_;refine Zd (fun w hG=>aa.bZ rfl rfl rfl) ?_;refine Dr.nil ?_;refine br.done (F':=[(0,_),(1,_),(2,_),(25,_)]) rfl ⟨rfl,rfl,rfl,rfl,trivial⟩ ?_;intro w3 hw3 fw3;replace bel:=bel.step hw3;replace k1:=k1.step hw3;refine aZ 0 1 2 25 (Zt ?_);refine Cd.aY rfl rfl ?_;refine aj ?_;refine Za ?_;refine aZ 0 1 2 25 (Zt (Cd.ret (ab.af ?_)));refine aX ?_;exact⟨aW (aF (by unfold iB;rw[decide_eq_false c3];simp)),bel⟩
section
variable {P:Program} {E:Operand→Option Value} {o:Oper} {w:World} {x y:Operand} {T:TypeId}
end
section
variable {P:Program} {E:Operand→Option Value} {o:Oper} {w:World} {x:Operand} {T:TypeId}
end
structure Wf (B:Nat)(w w':World):Prop where
 below:Below (min B w.heap.size) w w'
 bN:∀k t cs,aH w k t cs→t≠76→t≠5→aH w' k t cs
section
variable {B:Nat} {w w' w'':World}
theorem Wf.refl (B:Nat)(w:World):Wf B w w:=⟨Below.refl _ _,fun _ _ _ h _ _=>h⟩
theorem Wf.trans (h:Wf B w w')(k:Wf B w' w''):Wf B w w'':=⟨h.below.trans (k.below.mono (by have:=h.below.size;omega)),fun i t cs hb h1 h2=>k.bN i t cs (h.bN i t cs hb h1 h2) h1 h2⟩
theorem Wf.grow (h:Below w.heap.size w w'):Wf B w w':=⟨h.mono (Nat.min_le_right _ _),fun _ _ _ hb _ _=>hb.step h⟩
theorem Wf.step (h:Wf B w w')(k:Below w'.heap.size w' w''):Wf B w w'':=h.trans (Wf.grow k)
theorem Wf.wf (h:Wf B w w')(k:Wf B w' w''):Wf B w w'':=h.trans k
theorem Wf.to (h:Wf B w w')(hB:B≤w.heap.size):Below B w w':=by have:=h.below;rwa [Nat.min_eq_left hB] at this
theorem Wf.yZ {g B':Nat}{T:TypeId}{cur cs:Array Value}(h:Wf B w w')(k:aH w' g T cur)(p:hZ w' w'' g T cs)(e:B'≤g)(hB:B≤g)(hT:T=76∨T=5):Wf B w w'':=
 h.trans ⟨(p.below hB k.lt).mono (Nat.min_le_left _ _),fun i t cs hb h1 h2=>hb.put p (hb.ne k (by rcases hT with rfl|rfl<;>assumption))⟩
theorem Wf.put {g:Nat}{T:TypeId}{cur cs:Array Value}(h:Wf B w w')(k:aH w' g T cur)(p:hZ w' w'' g T cs)(e:w.heap.size≤g):Wf B w w'':=
 ⟨h.below.trans (p.below (by omega) k.lt),fun i t cs hb h1 h2=>(h.bN i t cs hb h1 h2).put p (by have:=hb.lt;omega)⟩
end
theorem aH.wf {B:Nat}{w w':World}{k:Nat}{t:TypeId}{cs:Array Value}(h:aH w k t cs)(f:Wf B w w')(h1:t≠76:=by decide)(h2:t≠5:=by decide):aH w' k t cs:=f.bN k t cs h h1 h2
theorem Reads.wf {B B2 size n:Nat}{w w':World}{A:Option Addr}{xs:List Value}(h:Reads w B2 size A n xs)(f:Wf B w w')(hB:B2≤B)(hs:B2≤w.heap.size):Reads w' B2 size A n xs:=h.below (f.below.mono (by omega))
structure Wr (w:World)(B g:Nat)(bs:List Nat):Prop where
 ge:B≤g
 bytes:∀d∈bs,d<256
 cell:∃v,aH w g 76 #[v]∧Own w B 5 1 v bs.length (Bt bs)
theorem Wr.size {w:World}{B g:Nat}{bs:List Nat}(h:Wr w B g bs):B≤w.heap.size:=by
 obtain⟨v,hb,-⟩:=h.cell;have:=hb.lt;have:=h.ge;omega
theorem Wr.step {w w':World}{B g:Nat}{bs:List Nat}(h:Wr w B g bs)(k:Below w.heap.size w w'):Wr w' B g bs:=by
 obtain⟨v,hb,ho⟩:=h.cell;exact⟨h.ge,h.bytes,v,hb.step k,ho.step k⟩
theorem Wr.put {w w':World}{B B' g g':Nat}{bs:List Nat}{T:TypeId}{cur cs:Array Value}(h:Wr w B g bs)(k:aH w g' T cur)(p:hZ w w' g' T cs)(_e:B'≤g')(h1:76≠T:=by decide)(h2:5≠T:=by decide):Wr w' B g bs:=by
 obtain⟨v,hb,ho⟩:=h.cell;exact⟨h.ge,h.bytes,v,hb.put p (hb.ne k h1),ho.put k p _e h2⟩
theorem App.wf {w w':World}{B n:Nat}{v:Value}{xs:List Value}(h:App w w' B v)(o:Own w B 5 1 v n xs):Wf B w w':=
 ⟨h.below.mono (Nat.min_le_left _ _),fun i t cs hb _ h2=>hb.grown h.grown (fun e=>bR o.row hb (fun e=>h2 e.symm) e.symm)⟩
theorem ta (B g B2 m c:Nat)(A:Option Addr)(bs new:List Nat)(w:World)(h:Wr w B g bs)(hr:Reads w B2 1 A m (Bt new))(hn:∀d∈new,d<256)(hl:bs.length+new.length≤1000000000):
  Calls Tryz.prog 125 #[.pointer (some ⟨g,0,none⟩), .slice A m c] w fun e w'=>e= .returned (.pointer (some ⟨g,0,none⟩))∧Wf B w w'∧Wr w' B g (bs++new):=by
 obtain⟨v,k0,own⟩:=h.cell;have hB:=h.size;have hge:=h.ge;have hm:new.length=m:=by have:=hr.1;rw[lA] at this;omega
 refine Zs 17 Tryz.func125 ?_;refine aj ?_;refine Za ?_;refine bu 0 1 4 (aJ (aj ?_));refine Zm ?_;refine Zv (aa.Ep rfl rfl rfl Tryz.underlying74) ?_;refine aZ 0 1 4 6 (Zt ?_);refine Cd.aY rfl rfl ?_;refine Zr ?_;refine Zm ?_;refine Zm ?_;refine Zv (aa.nilCheck rfl rfl) ?_;refine Zf 0 Tryz.underlying76 ?_;refine ZL Tryz.underlying64 k0 ?_;refine Zm ?_;refine Seq.append rfl rfl rfl Tryz.underlying64 (by kernel_rfl) bt rfl (by decide) (b:=1) (by kernel_rfl) own hr (by intro u hu;obtain⟨d,-,rfl⟩:=List.mem_map.1 hu;rfl) hB (by simp only[maxLen];omega) (by omega) rfl rfl rfl ?_;intro v1 w1 own1 ha;have k1:=k0.grown ha.grown (fun e=>bR own.row k0 (by decide) e.symm);have f1:=ha.wf own;clear k0;have k0:=k1;obtain⟨A1,c1,rfl,-⟩:=own1.reads;have e0:B≤g:=hge;have wf:Wf B w w1:=f1;refine Zv (aa.nilCheck rfl rfl) ?_;refine Zf 0 Tryz.underlying76 ?_;refine Zq k0 ?_;intro w1 pw1;replace k0:=pw1.ao;refine aZ 0 1 4 6 (aB ?_);refine Zm ?_;refine Za ?_;refine aZ 0 1 4 6 (Zt (Cd.ret ?_));have own2:=own1.put k1 pw1 hge;have f2:=wf.yZ k1 pw1 hge hge (.inl rfl);refine aX ?_;refine⟨rfl,f2,hge,fun d hd=> ?_,_,k0,?_⟩
 ·rcases List.mem_append.1 hd with hd|hd
  ·exact h.bytes d hd
  ·exact hn d hd
 ·rw[jz,List.length_append,hm]
  exact own2
def kd:Nat→Nat→List Nat
 |0,n=>[n]
 |k+1,n=>if n<128 then [n] else(n%128+128)::kd k (n/128)
def dS (n:Nat):List Nat:=kd 9 n
theorem l0 {k n:Nat}(h:n<128):kd k n=[n]:=by
 cases k with
 |zero=>rfl
 |succ k=>unfold kd;rw[if_pos h]
theorem nA {k n:Nat}(h:¬n<128):kd (k+1) n=(n%128+128)::kd k (n/128):=by
 show(if n<128 then [n] else(n%128+128)::kd k (n/128))=_;rw[if_neg h]
theorem vw:∀k n,(kd k n).length≤k+1
 |0,n=>by simp[kd]
 |k+1,n=>by
  unfold kd;split
  ·simp
  ·have:=vw k (n/128)
   simp;omega
theorem cf (n:Nat):(dS n).length≤10:=vw 9 n
theorem yd:∀k n,n<2*128^k→∀d∈kd k n,d<256
 |0,n,h,d,hd=>by simp[kd] at hd;subst hd;simp at h;omega
 |k+1,n,h,d,hd=>by
  unfold kd at hd;split at hd
  ·simp at hd;omega
  ·rcases List.mem_cons.1 hd with rfl|hd
   ·omega
   ·refine yd k (n/128) ?_ d hd
    rw[Nat.pow_succ] at h;rw[Nat.div_lt_iff_lt_mul (by omega)];omega
theorem iU {n:Nat}(h:n<18446744073709551616):∀d∈dS n,d<256:=yd 9 n (by omega)
set_option maxRecDepth 100000 in
theorem EV:∀x,x<256→x|||128=x%128+128:=by decide
theorem aa.FQ {P:Program}{E:Operand→Option Value}{o:Oper}{w:World}{x y:Operand}{T T':TypeId}{a b:Nat}(ho:o.op= .binOp .or T x y T')(hx:E x=some (.int .u8 (a:Int)))(hy:E y=some (.int .u8 (b:Int)))(ha:a<256)(hb:b<256):aa P E o w (.int .u8 ((a|||b:Nat):Int)) w:=by
 have e1:(BitVec.ofInt IntKind.u8.bits (a:Int)).toNat=a:=by simp[IntKind.bits];omega
 have e2:(BitVec.ofInt IntKind.u8.bits (b:Int)).toNat=b:=by simp[IntKind.bits];omega
 have hr:a|||b<256:=Nat.or_lt_two_pow (n:=8) ha hb;refine .bin ho hx hy rfl ?_;show(Op.intBits .or .u8 a b).run P w=_;simp only[Op.intBits,BitVec.toNat_or,e1,e2,qJ (Int.natCast_nonneg _) (Int.ofNat_lt.2 hr)];rfl
theorem EK (m:Nat):IntKind.u8.wrap (m:Int)=((m%256:Nat):Int):=by rw[IntKind.wrap_u8];omega
theorem pY (B g n:Nat)(bs:List Nat)(w:World)(h:Wr w B g bs)(hn:n<18446744073709551616)(hl:bs.length+10≤1000000000):
  Calls Tryz.prog 79 #[.pointer (some ⟨g,0,none⟩), .int .u64 (n:Int)] w fun e w'=>e= .returned (.pointer (some ⟨g,0,none⟩))∧Wf B w w'∧Wr w' B g (bs++dS n):=by
 have wf:=Wf.refl B w;have hn9:n<2*128^9:=by omega
 refine Zs 20 Tryz.func79 ?_;refine aj ?_;refine Za ?_;refine bu 0 1 4 (aJ (Cd.block ?_))
 refine Cd.loop (σ:=List Nat × Nat × Nat) (fun s=>[(0, .pointer (some ⟨g,0,none⟩)),(1, .int .u64 (s.2.2:Int))])
  (fun s wr=>s.1.length+s.2.1=9∧s.2.2<2*128^s.2.1∧s.1++kd s.2.1 s.2.2=dS n∧Wf B w wr∧Wr wr B g (bs++s.1)) (fun s=>s.2.1) ([],9,n) ⟨rfl,hn9,List.nil_append _,wf,by rw[List.append_nil];exact h⟩ ⟨rfl,rfl,trivial⟩ ?_
 clear wf;rintro⟨done,k,m⟩ wr0 ⟨hd,hm,he,wf,wr⟩;simp only at hd hm he wr;show Cd _ _ _ _ [(0, .pointer (some ⟨g,0,none⟩)),(1, .int .u64 (m:Int))] _
 have hm64:m<18446744073709551616:=Nat.lt_of_lt_of_le hm (by
  have:(128:Nat)^k≤128^9:=Nat.pow_le_pow_right (by omega) (by omega);omega)
 refine Cd.seq (aj ?_);refine Zm ?_;refine mz ?_;refine bu 0 1 6 (Zt ?_);refine Cd.au rfl (fun hc=> ?_) (fun hc=> ?_)
 ·obtain⟨k,rfl⟩:∃j,k=j+1:=⟨k-1,by
   rcases Nat.eq_zero_or_pos k with h0|h0
   ·subst h0;simp at hm;omega
   ·omega⟩
  refine Cd.skip (aJ (Cd.block (Zr ?_)));refine Zm ?_;refine Zm ?_;refine Zv (aa.fJ rfl rfl Tryz.underlying94 Tryz.underlying5 (EK m)) ?_;refine Zv ((aa.FQ (b:=128) rfl rfl rfl (by omega) (by omega)).cast (by rw[EV (m%256) (by omega),show m%256%128=m%128 by omega])) ?_;refine Seq.slice (vs:=[_]) (s:=1) rfl rfl rfl Tryz.underlying64 (by kernel_rfl) (bt) (by omega) (by omega) ⟨rfl,trivial⟩ rfl rfl rfl ?_;intro g13 w1 n13;have e13:=Nat.le_trans wf.below.size n13.ge;replace wf:=wf.step n13.below;replace wr:=wr.step n13.below;have k13:=n13.ao;have hrd:Reads w1 w1.heap.size 1 (some ⟨g13,0,none⟩) 1 (Bt [m%128+128]):=Reads.ao (size:=1) k13 1 rfl;refine Zc (Ze Tryz.func125) (ta B g _ 1 1 _ _ [m%128+128] _ wr hrd (by simp;omega) (by simp;omega)) ?_;clear wr;rintro e w2 ⟨rfl,fw2,wr⟩;refine⟨_,rfl,?_⟩;replace wf:=wf.wf fw2;refine bu 0 1 6 (ab.ai (dU ?_));refine Zm ?_;refine Zv ((aa.EP rfl rfl rfl (s:=7) rfl (by omega)).cast (v':= .int .u64 ((m/128:Nat):Int)) (by rw[show(2:Nat)^7=128 from rfl])) ?_;refine Za ?_;refine bu 0 1 6 ?_;rw[List.append_assoc] at wr;refine ab.round (done++[m%128+128],k,m/128) ⟨rfl,rfl,trivial⟩ ⟨by simp;omega,?_,?_,wf,wr⟩ (by simp)
  ·simp only
   rw[Nat.pow_succ] at hm;rw[Nat.div_lt_iff_lt_mul (by omega)];omega
  ·rw[←he,nA (by omega),List.append_assoc];rfl
 ·skip
  refine Cd.exit (ab.aA (ab.ay (ab.az (aB ?_))));refine Zm ?_;refine Zm ?_;refine Zv (aa.fJ rfl rfl Tryz.underlying94 Tryz.underlying5 (qJ (by omega) (by omega))) ?_;refine Seq.slice (vs:=[_]) (s:=1) rfl rfl rfl Tryz.underlying64 (by kernel_rfl) (bt) (by omega) (by omega) ⟨rfl,trivial⟩ rfl rfl rfl ?_;intro g18 w1 n18;have e18:=Nat.le_trans wf.below.size n18.ge;replace wf:=wf.step n18.below;replace wr:=wr.step n18.below;have k18:=n18.ao;have hrd:Reads w1 w1.heap.size 1 (some ⟨g18,0,none⟩) 1 (Bt [m]):=Reads.ao (size:=1) k18 1 rfl;refine Zc (Ze Tryz.func125) (ta B g _ 1 1 _ _ [m] _ wr hrd (by simp;omega) (by simp;omega)) ?_;clear wr;rintro e w2 ⟨rfl,fw2,wr⟩;refine⟨_,rfl,?_⟩;replace wf:=wf.wf fw2;refine Za ?_;refine aZ 0 1 4 6 (Zt (Cd.ret ?_));refine aX ?_;rw[List.append_assoc,show done++[m]=dS n by rw[←he,l0 (by omega)]] at wr;exact⟨rfl,wf,wr⟩
theorem dn (B g n:Nat)(bs:List Nat)(w:World)(h:Wr w B g bs)(hn:n<9223372036854775808)(hl:bs.length+10≤1000000000):
  Calls Tryz.prog 30 #[.pointer (some ⟨g,0,none⟩), .int .i64 (n:Int)] w fun e w'=>e= .returned (.pointer (some ⟨g,0,none⟩))∧Wf B w w'∧Wr w' B g (bs++dS n):=by
 have wf:=Wf.refl B w;have wr:=h;refine Zs 10 Tryz.func30 ?_;refine aj ?_;refine Za ?_;refine bu 0 1 4 (aB ?_);refine Zm ?_;refine Zm ?_;refine Zv ((aa.max2 rfl rfl rfl).cast (v':= .int .i64 (n:Int)) (int_eq (by omega))) ?_;refine Zv (aa.kV (r:=n) rfl rfl Tryz.underlying3 Tryz.underlying94 (by omega)) ?_;refine Zc (Ze Tryz.func79) (pY B g n _ _ wr (by omega) hl) ?_;clear wr;rintro e w1 ⟨rfl,fw1,wr⟩;refine⟨_,rfl,?_⟩;replace wf:=wf.wf fw1;refine Za ?_;refine bu 0 1 4 (Zt (Cd.ret ?_));refine aX ?_;exact⟨rfl,wf,wr⟩
def lY (n:Int):Nat:=if 0≤n then(2*n).toNat else(-2*n-1).toNat
theorem tE {n:Int}(h:bw n):lY n<18446744073709551616:=by
 unfold lY bw at *;split<;>omega
theorem Bz {a:Nat}(h:a<18446744073709551616):a^^^18446744073709551615=18446744073709551615-a:=by
 have:=congrArg BitVec.toNat (BitVec.xor_allOnes (x:=BitVec.ofNat 64 a));rw[BitVec.toNat_xor,BitVec.toNat_not,BitVec.toNat_allOnes,BitVec.toNat_ofNat,Nat.mod_eq_of_lt (by omega)] at this;exact this
theorem qc (B g:Nat)(n:Int)(bs:List Nat)(w:World)(h:Wr w B g bs)(hn:bw n)(hl:bs.length+10≤1000000000):
  Calls Tryz.prog 32 #[.pointer (some ⟨g,0,none⟩), .int .i64 n] w fun e w'=>e= .returned (.pointer (some ⟨g,0,none⟩))∧Wf B w w'∧Wr w' B g (bs++dS (lY n)):=by
 have wf:=Wf.refl B w;have wr:=h;have hs:=tE hn;unfold bw at hn;obtain⟨a,ha⟩:∃a:Nat,n%18446744073709551616=(a:Int):=⟨(n%18446744073709551616).toNat,by omega⟩;obtain⟨a2,ha2⟩:∃a2:Nat,a2=a*2%18446744073709551616:=⟨_,rfl⟩;obtain⟨z,hz⟩:∃z:Int,z=if 0≤n then 0 else -1:=⟨_,rfl⟩;obtain⟨b,hb⟩:∃b:Nat,b=if 0≤n then 0 else 18446744073709551615:=⟨_,rfl⟩
 have hx:lY n=a2^^^b:=by
  unfold lY
  by_cases h0:0≤n
  ·rw[hb,if_pos h0,if_pos h0,Nat.xor_zero];omega
  ·rw[hb,if_neg h0,if_neg h0,Bz (by omega)];omega
 have hfd:n.fdiv 9223372036854775808=z:=by
  rw[Int.fdiv_eq_ediv_of_nonneg _ (by omega),hz];split<;>omega
 refine Zs 14 Tryz.func32 ?_;refine aj ?_;refine Za ?_;refine bu 0 1 4 (aB ?_);refine Zm ?_;refine Zm ?_;refine Zv (aa.kV (r:=a) rfl rfl Tryz.underlying2 Tryz.underlying94 ha) ?_;refine Zv (aa.EO (r:=(a2:Int)) rfl rfl rfl (by omega) (by rw[IntKind.wrap_u64];show((a:Int)*2)%_=_;omega)) ?_;refine Zm ?_;refine Zv (aa.EU (r:=z) rfl rfl rfl (by omega) hfd) ?_;refine Zv (aa.kV (r:=b) rfl rfl Tryz.underlying2 Tryz.underlying94 (by rw[hz,hb];split<;>rfl)) ?_;refine Zv (aa.Al (a:=a2) (b:=b) rfl rfl rfl (by omega) (by rw[hb];split<;>omega) (.inr (.inr ⟨rfl,hx⟩))) ?_;refine Zc (Ze Tryz.func79) (pY B g (lY n) _ _ wr hs hl) ?_;clear wr;rintro e w1 ⟨rfl,fw1,wr⟩;refine⟨_,rfl,?_⟩;replace wf:=wf.wf fw1;refine Za ?_;refine bu 0 1 4 (Zt (Cd.ret ?_));refine aX ?_;exact⟨rfl,wf,wr⟩
theorem C0 (B g:Nat)(s bs:List Nat)(w:World)(h:Wr w B g bs)(hs:∀d∈s,d<256)(hl:bs.length+s.length≤1000000000):
  Calls Tryz.prog 80 #[.pointer (some ⟨g,0,none⟩), .string (strOf s)] w fun e w'=>e= .returned (.pointer (some ⟨g,0,none⟩))∧Wf B w w'∧Wr w' B g (bs++s):=by
 have wf:=Wf.refl B w;have wr:=h;refine Zs 9 Tryz.func80 ?_;refine aj ?_;refine Za ?_;refine bu 0 1 4 (aB ?_);refine Zm ?_;refine Zm ?_;refine Seq.xf rfl rfl Tryz.underlying9 Tryz.underlying64 Tryz.underlying5 hs rfl rfl rfl ?_;intro g7 c7 w1 hc7 n7;replace wf:=wf.step n7.below;replace wr:=wr.step n7.below;have hrd:=n7.reads;refine Zc (Ze Tryz.func125) (ta B g _ _ c7 _ _ s _ wr hrd hs hl) ?_;clear wr;rintro e w1 ⟨rfl,fw1,wr⟩;refine⟨_,rfl,?_⟩;replace wf:=wf.wf fw1;refine Za ?_;refine bu 0 1 4 (Zt (Cd.ret ?_));refine aX ?_;exact⟨rfl,wf,wr⟩
theorem eE (B g:Nat)(s bs:List Nat)(w:World)(h:Wr w B g bs)(hs:∀d∈s,d<256)(hl:bs.length+10+s.length≤1000000000):
  Calls Tryz.prog 31 #[.pointer (some ⟨g,0,none⟩), .string (strOf s)] w fun e w'=>e= .returned (.pointer (some ⟨g,0,none⟩))∧Wf B w w'∧Wr w' B g (bs++(dS s.length++s)):=by
 have wf:=Wf.refl B w;have wr:=h;have hg:=cf s.length;refine Zs 11 Tryz.func31 ?_;refine aj ?_;refine Za ?_;refine bu 0 1 4 (aB ?_);refine Zm ?_;refine Zm ?_;refine Zv (aa.eB rfl rfl Tryz.underlying9) ?_;refine Zc (Ze Tryz.func30) (dn B g s.length _ _ wr (by omega) (by omega)) ?_;clear wr;rintro e w1 ⟨rfl,fw1,wr⟩;refine⟨_,rfl,?_⟩;replace wf:=wf.wf fw1;refine Zm ?_;refine Zc (Ze Tryz.func80) (C0 B g s _ _ wr hs (by rw[List.length_append];omega)) ?_;clear wr;rintro e w2 ⟨rfl,fw2,wr⟩;refine⟨_,rfl,?_⟩;replace wf:=wf.wf fw2;rw[List.append_assoc] at wr;refine Za ?_;refine bu 0 1 4 (Zt (Cd.ret ?_));refine aX ?_;exact⟨rfl,wf,wr⟩
theorem mh (B g:Nat)(bs:List Nat)(w:World)(h:Wr w B g bs):
  Calls Tryz.prog 33 #[.pointer (some ⟨g,0,none⟩)] w fun e w'=>e= .returned (.string (strOf bs))∧Grow w w':=by
 have bel:=Below.refl w.heap.size w;obtain⟨v,k0,own⟩:=h.cell;obtain⟨A,c,rfl,hr⟩:=own.reads;refine Zs 10 Tryz.func33 ?_;refine aj ?_;refine Za ?_;refine dM 0 2 (aJ (aj ?_));refine Zm ?_;refine Zv (aa.Eb rfl rfl rfl Tryz.underlying74) ?_;refine bu 0 2 4 (Zt ?_);refine Cd.aS rfl rfl ?_;refine Cd.skip (aB ?_);refine Zm ?_;refine Zv (aa.nilCheck rfl rfl) ?_;refine Zf 0 Tryz.underlying76 ?_;refine ZL Tryz.underlying64 k0 ?_;refine Zv (aa.tq rfl rfl Tryz.underlying64 Tryz.underlying5 Tryz.underlying9 hr h.bytes) ?_;refine Za ?_;refine bu 0 2 4 (Zt (Cd.ret ?_));refine aX ?_;exact⟨rfl,bel⟩
def gJ {α:Type}(d:α):List α→Nat→α
 | [],_=>d
 |x::_,0=>x
 |_::r,k+1=>gJ d r k
def dw (s:List Nat):List Nat:=dS s.length++s
theorem lT (w:World):(Instr.build 76 #[]).run Tryz.prog w= .ok (.agg #[.slice none 0 0]) w:=by kernel_rfl
def DJ (l:List Nat):List Value:=l.map fun(z:Nat)=> .int .i64 (z:Int)
def DS (l:List (List Nat)):List Value:=l.map fun s=> .string (strOf s)
theorem m9 {α:Type}(f:α→List Nat){l:List α}{k:Nat}{x:α}(h:l[k]? =some x):(l.take (k+1)).flatMap f=(l.take k).flatMap f++f x:=by
 rw[List.take_add_one,h,List.flatMap_append];simp
theorem iA {α:Type}(f:α→List Nat)(m:Nat):∀ {l:List α},(∀x∈l,(f x).length≤m)→(l.flatMap f).length≤l.length*m
 | [],_=>by simp
 |x::r,h=>by
  have h1:=h x List.mem_cons_self;have h2:=iA f m (l:=r) (fun y hy=>h y (List.mem_cons_of_mem _ hy));rw[List.flatMap_cons,List.length_append,List.length_cons,Nat.add_mul];omega
theorem gE (s:List Nat):(dw s).length≤10+s.length:=by unfold dw;rw[List.length_append];have:=cf s.length;omega
theorem D3 (B g n:Nat)(bs:List Nat)(w:World)(h:Wr w B g bs)(hn:n<9223372036854775808)(hl:bs.length+10≤1000000000):
  Calls Tryz.prog 60 #[.pointer (some ⟨g,0,none⟩), .int .i64 (n:Int)] w fun e w'=>e= .returned (.tuple #[])∧Wf B w w'∧Wr w' B g (bs++dS n):=by
 have wf:=Wf.refl B w;have wr:=h;refine Zs 7 Tryz.func60 ?_;refine Zr ?_;refine Zm ?_;refine Zm ?_;refine Zc (Ze Tryz.func30) (dn B g n _ _ wr hn hl) ?_;clear wr;rintro e w1 ⟨rfl,fw1,wr⟩;refine⟨_,rfl,?_⟩;replace wf:=wf.wf fw1;refine dM 0 1 ?_;refine ab.eP rfl (.inr rfl) ?_;exact⟨rfl,wf,wr⟩
theorem Eo (B g:Nat)(s bs:List Nat)(w:World)(h:Wr w B g bs)(hs:∀d∈s,d<256)(hl:bs.length+10+s.length≤1000000000):
  Calls Tryz.prog 98 #[.pointer (some ⟨g,0,none⟩), .string (strOf s)] w fun e w'=>e= .returned (.tuple #[])∧Wf B w w'∧Wr w' B g (bs++dw s):=by
 have wf:=Wf.refl B w;have wr:=h;refine Zs 7 Tryz.func98 ?_;refine Zr ?_;refine Zm ?_;refine Zm ?_;refine Zc (Ze Tryz.func31) (eE B g s _ _ wr hs hl) ?_;clear wr;rintro e w1 ⟨rfl,fw1,wr⟩;refine⟨_,rfl,?_⟩;replace wf:=wf.wf fw1;refine dM 0 1 ?_;refine ab.eP rfl (.inr rfl) ?_;exact⟨rfl,wf,wr⟩
theorem EN:∀args w,(callFunc 60 args).run Tryz.prog w= .ok (.enter 60 args) w:=fun args w=>aO Tryz.func60 (by kernel_rfl) rfl args w
theorem ED:∀args w,(callFunc 98 args).run Tryz.prog w= .ok (.enter 98 args) w:=fun args w=>aO Tryz.func98 (by kernel_rfl) rfl args w
theorem Ay (B g B2 cap:Nat)(A:Option Addr)(l:List Nat)(bs:List Nat)(w:World)(h:Wr w B g bs)(hr:Reads w B2 1 A l.length (DJ l))(hB:B2≤B)(hn:∀n∈l,n<9223372036854775808)(hlen:l.length≤1000)(hl:bs.length≤900000000):
  Calls Tryz.prog 59 #[.pointer (some ⟨g,0,none⟩), .slice A l.length cap, .func (.func 60) #[] #[]] w fun e w'=>e= .returned (.tuple #[])∧Wf B w w'∧Wr w' B g (bs++(dS l.length++l.flatMap dS)):=by
 have wf:=Wf.refl B w;have wr:=h;have hBw:=h.size;have hg:=cf l.length
 generalize hn0:l.length=n at *
 refine Zs 23 Tryz.func59 ?_;refine aj ?_;refine Zm ?_;refine Zm ?_;refine Zv (aa.len rfl rfl Tryz.underlying96) ?_;refine Zc (Ze Tryz.func30) (dn B g n _ _ wr (by omega) (by omega)) ?_;clear wr;rintro e w1 ⟨rfl,fw1,wr⟩;refine⟨_,rfl,?_⟩;replace wf:=wf.wf fw1;refine bu 0 1 2 (aB ?_);refine Zm ?_;refine Zv (aa.len rfl rfl Tryz.underlying96) ?_;refine Zm ?_;refine bl 0 1 2 12 13 14 (Zt (Cd.block ?_))
 refine Cd.loop (σ:=Nat) (fun k=>[(0, .pointer (some ⟨g,0,none⟩)),(2, .func (.func 60) #[] #[]),(12, .slice A n cap),(13, .int .i64 (n:Int)),(14, .int .i64 (k:Int))])
  (fun k wr=>k≤n∧Wf B w wr∧Wr wr B g (bs++dS n++(l.take k).flatMap dS)) (fun k=>n-k) 0 ⟨Nat.zero_le _,wf,by simpa using wr⟩ ⟨rfl,rfl,rfl,rfl,rfl,trivial⟩ ?_
 clear wf wr;rintro k wr0 ⟨hk,wf,wr⟩;have hlt:=iA dS 10 (l:=l.take k) (fun x _=>cf x);rw[List.length_take] at hlt;refine aj ?_;refine ff ?_;refine bl 0 2 12 13 14 15 (aJ ?_);refine Cd.au rfl (fun hc=> ?_) (fun hc=> ?_)
 ·obtain⟨x,hx⟩:∃x,l[k]? =some x:=⟨_,List.getElem?_eq_getElem (show k<l.length by omega)⟩
  obtain⟨ad,rfl,hbl,hc⟩:=hr.2 (by omega);have hc:=((wf.to hBw).cell (p:=ad.add k) (by rw[ag];omega)).trans (hc k (.int .i64 (x:Int)) (by simp[DJ,hx]));refine Cd.skip (aJ (Cd.block (aj ?_)));refine Zv (aa.dg rfl rfl rfl Tryz.underlying96 (by kernel_rfl) (j:=k) rfl (by omega)) ?_;refine Zv (aa.dF rfl rfl Tryz.underlying3 rfl hc) ?_;refine Za ?_;refine bp 0 2 7 12 13 14 15 (dU ?_);refine Zm ?_;refine Zm ?_;refine Zm ?_;refine Seq.call (Enters.value (first:=[]) (cap:=[]) rfl rfl rfl EN) rfl rfl rfl (D3 B g x _ _ wr (hn x (List.mem_of_getElem? hx)) (by simp only[List.length_append];omega)) ?_;clear wr;rintro e w5 ⟨rfl,f5,wr⟩;refine⟨_,rfl,?_⟩;replace wf:=wf.wf f5;rw[List.append_assoc,←m9 dS hx] at wr;refine bp 0 2 7 12 13 14 15 (ab.ai (dU ?_));refine dt ?_;refine Zm ?_;refine bp 0 2 7 12 13 14 15 ?_;exact ab.round (k+1) ⟨rfl,rfl,rfl,rfl,rfl,trivial⟩ ⟨by omega,wf,wr⟩ (by omega)
 ·obtain rfl:k=n:=by omega
  rw[List.take_of_length_le (by omega),List.append_assoc] at wr;refine Cd.exit (ab.aA (ab.ay (ab.az ?_)));refine ab.eP rfl (.inr rfl) ?_;exact⟨rfl,wf,wr⟩
theorem Av (B g B2 cap:Nat)(A:Option Addr)(l:List (List Nat))(bs:List Nat)(w:World)(h:Wr w B g bs)(hr:Reads w B2 1 A l.length (DS l))(hB:B2≤B)(hn:∀s∈l,(∀d∈s,d<256)∧s.length≤4000)(hlen:l.length≤20000)(hl:bs.length≤900000000):
  Calls Tryz.prog 97 #[.pointer (some ⟨g,0,none⟩), .slice A l.length cap, .func (.func 98) #[] #[]] w fun e w'=>e= .returned (.tuple #[])∧Wf B w w'∧Wr w' B g (bs++(dS l.length++l.flatMap dw)):=by
 have wf:=Wf.refl B w;have wr:=h;have hBw:=h.size;have hg:=cf l.length
 generalize hn0:l.length=n at *
 refine Zs 23 Tryz.func97 ?_;refine aj ?_;refine Zm ?_;refine Zm ?_;refine Zv (aa.len rfl rfl Tryz.underlying66) ?_;refine Zc (Ze Tryz.func30) (dn B g n _ _ wr (by omega) (by omega)) ?_;clear wr;rintro e w1 ⟨rfl,fw1,wr⟩;refine⟨_,rfl,?_⟩;replace wf:=wf.wf fw1;refine bu 0 1 2 (aB ?_);refine Zm ?_;refine Zv (aa.len rfl rfl Tryz.underlying66) ?_;refine Zm ?_;refine bl 0 1 2 12 13 14 (Zt (Cd.block ?_))
 refine Cd.loop (σ:=Nat) (fun k=>[(0, .pointer (some ⟨g,0,none⟩)),(2, .func (.func 98) #[] #[]),(12, .slice A n cap),(13, .int .i64 (n:Int)),(14, .int .i64 (k:Int))])
  (fun k wr=>k≤n∧Wf B w wr∧Wr wr B g (bs++dS n++(l.take k).flatMap dw)) (fun k=>n-k) 0 ⟨Nat.zero_le _,wf,by simpa using wr⟩ ⟨rfl,rfl,rfl,rfl,rfl,trivial⟩ ?_
 clear wf wr;rintro k wr0 ⟨hk,wf,wr⟩;have hlt:=iA dw 4010 (l:=l.take k) (fun x hx=>by have:=gE x;have:=(hn x (List.mem_of_mem_take hx)).2;omega);rw[List.length_take] at hlt;refine aj ?_;refine ff ?_;refine bl 0 2 12 13 14 15 (aJ ?_);refine Cd.au rfl (fun hc=> ?_) (fun hc=> ?_)
 ·obtain⟨x,hx⟩:∃x,l[k]? =some x:=⟨_,List.getElem?_eq_getElem (show k<l.length by omega)⟩
  obtain⟨ad,rfl,hbl,hc⟩:=hr.2 (by omega);have hc:=((wf.to hBw).cell (p:=ad.add k) (by rw[ag];omega)).trans (hc k (.string (strOf x)) (by simp[DS,hx]));obtain⟨hx1,hx2⟩:=hn x (List.mem_of_getElem? hx);refine Cd.skip (aJ (Cd.block (aj ?_)));refine Zv (aa.dg rfl rfl rfl Tryz.underlying66 (by kernel_rfl) (j:=k) rfl (by omega)) ?_;refine Zv (aa.dF rfl rfl Tryz.underlying9 rfl hc) ?_;refine Za ?_;refine bp 0 2 7 12 13 14 15 (dU ?_);refine Zm ?_;refine Zm ?_;refine Zm ?_;refine Seq.call (Enters.value (first:=[]) (cap:=[]) rfl rfl rfl ED) rfl rfl rfl (Eo B g x _ _ wr hx1 (by simp only[List.length_append];omega)) ?_;clear wr;rintro e w5 ⟨rfl,f5,wr⟩;refine⟨_,rfl,?_⟩;replace wf:=wf.wf f5;rw[List.append_assoc,←m9 dw hx] at wr;refine bp 0 2 7 12 13 14 15 (ab.ai (dU ?_));refine dt ?_;refine Zm ?_;refine bp 0 2 7 12 13 14 15 ?_;exact ab.round (k+1) ⟨rfl,rfl,rfl,rfl,rfl,trivial⟩ ⟨by omega,wf,wr⟩ (by omega)
 ·obtain rfl:k=n:=by omega
  rw[List.take_of_length_le (by omega),List.append_assoc] at wr;refine Cd.exit (ab.aA (ab.ay (ab.az ?_)));refine ab.eP rfl (.inr rfl) ?_;exact⟨rfl,wf,wr⟩
theorem tv (B g B2 cap:Nat)(A:Option Addr)(l:List (List Nat))(bs:List Nat)(w:World)(h:Wr w B g bs)(hr:Reads w B2 1 A l.length (DS l))(hB:B2≤B)(hn:∀s∈l,(∀d∈s,d<256)∧s.length≤4000)(hlen:l.length≤20000)(hl:bs.length≤900000000):
  Calls Tryz.prog 56 #[.pointer (some ⟨g,0,none⟩), .slice A l.length cap] w fun e w'=>e= .returned (.tuple #[])∧Wf B w w'∧Wr w' B g (bs++(dS l.length++l.flatMap dw)):=by
 have wf:=Wf.refl B w;have wr:=h;refine Zs 7 Tryz.func56 ?_;refine Zr ?_;refine Zm ?_;refine Zm ?_;refine Zc (Ze Tryz.func97) (Av B g B2 cap A l _ _ wr hr hB hn hlen hl) ?_;clear wr;rintro e w1 ⟨rfl,fw1,wr⟩;refine⟨_,rfl,?_⟩;replace wf:=wf.wf fw1;refine dM 0 1 ?_;refine ab.eP rfl (.inr rfl) ?_;exact⟨rfl,wf,wr⟩
structure Pk where
 aV:Int
 ba:Bool
 places:List Nat
 text:List Nat
def Pk.bytes (q:Pk):List Nat:=dS (lY q.aV)++dS (if q.ba then 1 else 0)++(dS q.places.length++q.places.flatMap dS)++dw q.text
structure Pk.ok (q:Pk):Prop where
 aV:bw q.aV
 places:∀n∈q.places,n<9223372036854775808
 dX:q.places.length≤1000
 text:∀d∈q.text,d<256
 pS:q.text.length≤4000
theorem Pk.len {q:Pk}(h:q.ok):q.bytes.length≤15000:=by
 have h1:=cf (lY q.aV);have h2:=cf (if q.ba then 1 else 0);have h3:=cf q.places.length;have h4:=gE q.text;have h5:=iA dS 10 (l:=q.places) (fun x _=>cf x);have h6:=h.dX;have h7:=h.pS;unfold Pk.bytes;simp only[List.length_append];omega
theorem D0 (B g B2 c:Nat)(q:Pk)(u2 u3 u4 u5 u6:Value)(A:Option Addr)(bs:List Nat)(w:World)(hq:q.ok)(h:Wr w B g bs)(hr:Reads w B2 1 A q.places.length (DJ q.places))(hB:B2≤B)(hl:bs.length≤800000000):
  Calls Tryz.prog 58 #[.pointer (some ⟨g,0,none⟩), .agg #[.int .i64 q.aV, .bool q.ba,u2,u3,u4,u5,u6, .string (strOf q.text), .slice A q.places.length c]] w fun e w'=>e= .returned (.tuple #[])∧Wf B w w'∧Wr w' B g (bs++q.bytes):=by
 have wf:=Wf.refl B w;have wr:=h;have hBw:=h.size;have h1:=cf (lY q.aV);have h2:=cf (if q.ba then 1 else 0);have h3:=cf q.places.length;have h4:=gE q.text;have h5:=iA dS 10 (l:=q.places) (fun x _=>cf x);have h6:=hq.dX;have h7:=hq.pS;obtain⟨tt,htt⟩:∃tt,tt=if q.ba then 1 else 0:=⟨_,rfl⟩;have htt1:tt≤1:=by rw[htt];split<;>omega
 have hqb:q.bytes=dS (lY q.aV)++dS tt++(dS q.places.length++q.places.flatMap dS)++dw q.text:=by unfold Pk.bytes;rw[htt]
 rw[←htt] at h2;rw[hqb];refine Zs 23 Tryz.func58 ?_;refine aj ?_;refine Seq.box rfl rfl rfl rfl rfl ?_;intro g3 w1 n3;have e3:=Nat.le_trans wf.below.size n3.ge;replace wf:=wf.step n3.below;replace wr:=wr.step n3.below;have k3:=n3.ao;refine bu 0 1 3 (aB ?_);refine Za ?_;refine aZ 0 1 3 4 (Zt ?_);refine Cd.lC (σ:=Unit) (fun _=>[(0, .pointer (some ⟨g,0,none⟩)),(3, .pointer (some ⟨g3,0,none⟩)),(4, .int .i64 (tt:Int))]) (fun _ wr=>Wf B w wr∧Wr wr B g bs∧aH wr g3 118 #[.int .i64 q.aV, .bool q.ba,u2,u3,u4,u5,u6, .string (strOf q.text), .slice A q.places.length c]) ?_ ?_
 ·skip
  refine aj ?_;refine Zf 0 Tryz.underlying118 ?_;refine Zv (aa.eR 1 rfl rfl Tryz.underlying108 rfl (by kernel_rfl)) ?_;refine ZL Tryz.underlying4 k3 ?_;refine aU 0 1 3 4 7 (Zt ?_);refine Cd.cond rfl (fun h=> ?_) (fun h=> ?_)
  ·rw[h] at htt
   subst htt;refine Zr ?_;refine Za ?_;refine aU 0 1 3 4 7 ?_;exact ab.join () ⟨rfl,rfl,rfl,trivial⟩ ⟨wf,wr,k3⟩
  ·rw[h] at htt
   subst htt;refine Cd.skip ?_;exact ab.join () ⟨rfl,rfl,rfl,trivial⟩ ⟨wf,wr,k3⟩
 clear wf wr k3;rintro u wj ⟨wf,wr,k3⟩;refine aj ?_;refine Zm ?_;refine Zf 0 Tryz.underlying118 ?_;refine Zv (aa.eR 0 rfl rfl Tryz.underlying108 rfl (by kernel_rfl)) ?_;refine ZL Tryz.underlying2 k3 ?_;refine Zc (Ze Tryz.func32) (qc B g q.aV _ _ wr hq.aV (by omega)) ?_;clear wr;rintro e w2 ⟨rfl,fw2,wr⟩;refine⟨_,rfl,?_⟩;replace wf:=wf.wf fw2;replace k3:=k3.wf fw2;refine Zm ?_;refine Zc (Ze Tryz.func30) (dn B g tt _ _ wr (by omega) (by simp only[List.length_append];omega)) ?_;clear wr;rintro e w3 ⟨rfl,fw3,wr⟩;refine⟨_,rfl,?_⟩;replace wf:=wf.wf fw3;replace k3:=k3.wf fw3;refine bu 0 3 4 (aB ?_);refine Zm ?_;refine Zf 8 Tryz.underlying118 ?_;refine ZL Tryz.underlying96 k3 ?_;refine Zc (Ze Tryz.func59) (Ay B g B2 c A q.places _ _ wr (hr.wf wf hB (Nat.le_trans hB hBw)) hB hq.places h6 (by simp only[List.length_append];omega)) ?_;clear wr;rintro e w4 ⟨rfl,fw4,wr⟩;refine⟨_,rfl,?_⟩;replace wf:=wf.wf fw4;replace k3:=k3.wf fw4;refine bu 0 3 4 (dU ?_);refine Zm ?_;refine Zf 7 Tryz.underlying118 ?_;refine ZL Tryz.underlying9 k3 ?_;refine Zc (Ze Tryz.func31) (eE B g q.text _ _ wr hq.text (by simp only[List.length_append];omega)) ?_;clear wr;rintro e w5 ⟨rfl,fw5,wr⟩;refine⟨_,rfl,?_⟩;replace wf:=wf.wf fw5;replace k3:=k3.wf fw5;refine bu 0 3 4 ?_;refine ab.eP rfl (.inr rfl) ?_;exact⟨rfl,wf,by simpa only[dw,List.append_assoc] using wr⟩
theorem E4:∀args w,(callFunc 58 args).run Tryz.prog w= .ok (.enter 58 args) w:=fun args w=>aO Tryz.func58 (by kernel_rfl) rfl args w
theorem eL:bz Tryz.prog 118=some (some (.agg #[.int .i64 0, .bool false, .slice none 0 0, .int .i64 0, .string {data:= #[]}, .slice none 0 0, .slice none 0 0, .string {data:= #[]}, .slice none 0 0])):=by kernel_rfl
def Aw (w:World)(B:Nat)(l:List Pk)(A:Option Addr):Prop:=∀i x,l[i]? =some x→∃ad u2 u3 u4 u5 u6 A' c,A=some ad∧ad.block<B∧Reads w B 1 A' x.places.length (DJ x.places)∧(u2.oneCell'=true∧u3.oneCell'=true∧u4.oneCell'=true∧u5.oneCell'=true∧u6.oneCell'=true)∧∀(j:Nat) (u:Value),([.int .i64 x.aV, .bool x.ba,u2,u3,u4,u5,u6, .string (strOf x.text), .slice A' x.places.length c]:List Value)[j]? =some u→w.cell? ((ad.add (i*9)).add j)=some u
theorem zY (B g B2 cap:Nat)(A:Option Addr)(l:List Pk)(bs:List Nat)(w:World)(h:Wr w B g bs)(hr:Aw w B2 l A)(hB:B2≤B)(hn:∀q∈l,q.ok)(hlen:l.length≤1000)(hl:bs.length≤700000000):
  Calls Tryz.prog 57 #[.pointer (some ⟨g,0,none⟩), .slice A l.length cap, .func (.func 58) #[] #[]] w fun e w'=>e= .returned (.tuple #[])∧Wf B w w'∧Wr w' B g (bs++(dS l.length++l.flatMap Pk.bytes)):=by
 have wf:=Wf.refl B w;have wr:=h;have hBw:=h.size;have hg:=cf l.length
 generalize hn0:l.length=n at *
 refine Zs 23 Tryz.func57 ?_;refine aj ?_;refine Zm ?_;refine Zm ?_;refine Zv (aa.len rfl rfl Tryz.underlying112) ?_;refine Zc (Ze Tryz.func30) (dn B g n _ _ wr (by omega) (by omega)) ?_;clear wr;rintro e w1 ⟨rfl,fw1,wr⟩;refine⟨_,rfl,?_⟩;replace wf:=wf.wf fw1;refine bu 0 1 2 (aB ?_);refine Zm ?_;refine Zv (aa.len rfl rfl Tryz.underlying112) ?_;refine Zm ?_;refine bl 0 1 2 12 13 14 (Zt (Cd.block ?_))
 refine Cd.loop (σ:=Nat) (fun k=>[(0, .pointer (some ⟨g,0,none⟩)),(2, .func (.func 58) #[] #[]),(12, .slice A n cap),(13, .int .i64 (n:Int)),(14, .int .i64 (k:Int))])
  (fun k wr=>k≤n∧Wf B w wr∧Wr wr B g (bs++dS n++(l.take k).flatMap Pk.bytes)) (fun k=>n-k) 0 ⟨Nat.zero_le _,wf,by simpa using wr⟩ ⟨rfl,rfl,rfl,rfl,rfl,trivial⟩ ?_
 clear wf wr;rintro k wr0 ⟨hk,wf,wr⟩;have hlt:=iA Pk.bytes 15000 (l:=l.take k) (fun x hx=>Pk.len (hn x (List.mem_of_mem_take hx)));rw[List.length_take] at hlt;refine aj ?_;refine ff ?_;refine bl 0 2 12 13 14 15 (aJ ?_);refine Cd.au rfl (fun hc=> ?_) (fun hc=> ?_)
 ·obtain⟨x,hx⟩:∃x,l[k]? =some x:=⟨_,List.getElem?_eq_getElem (show k<l.length by omega)⟩
  obtain⟨ad,u2,u3,u4,u5,u6,A',c',rfl,hbl,hrp,⟨o2,o3,o4,o5,o6⟩,hc⟩:=hr k x hx;have hc:=fun j u hj=>((wf.to hBw).cell (p:=(ad.add (k*9)).add j) (by rw[ag,ag];omega)).trans (hc j u hj);have hsz:=wf.below.size;refine Cd.skip (aJ (Cd.block (aj ?_)));refine Zv (aa.aR rfl rfl rfl Tryz.underlying112 (s:=9) (by kernel_rfl) (j:=k) rfl (by omega)) ?_;refine Zv (aa.bP (ps:=[.int .i64 x.aV, .bool x.ba,u2,u3,u4,u5,u6, .string (strOf x.text), .slice A' x.places.length c']) rfl rfl Tryz.underlying118 rfl (m:=9) (by kernel_rfl) rfl hc) ?_;refine Zl eL ?_;intro g7 w2 n7;have e7:=Nat.le_trans wf.below.size n7.ge;replace wf:=wf.step n7.below;replace wr:=wr.step n7.below;have k7:=n7.ao;refine Zo 9 k7 ?_;intro w3 pw3;replace wf:=wf.put k7 pw3 e7;replace wr:=wr.put k7 pw3 e7;replace k7:=pw3.ao;refine bp 0 2 7 12 13 14 15 (dU ?_);refine Zm ?_;refine Zm ?_;refine ZW 9 Tryz.underlying118 k7 ?_;refine Seq.call (Enters.value (first:=[]) (cap:=[]) rfl rfl rfl E4) rfl rfl rfl (D0 B g B2 c' x u2 u3 u4 u5 u6 A' _ _ (hn x (List.mem_of_getElem? hx)) wr (hrp.wf wf hB (Nat.le_trans hB hBw)) hB (by simp only[List.length_append];omega)) ?_;clear wr;rintro e w5 ⟨rfl,f5,wr⟩;refine⟨_,rfl,?_⟩;replace wf:=wf.wf f5;rw[List.append_assoc,←m9 Pk.bytes hx] at wr;refine bp 0 2 7 12 13 14 15 (ab.ai (dU ?_));refine dt ?_;refine Zm ?_;refine bp 0 2 7 12 13 14 15 ?_;exact ab.round (k+1) ⟨rfl,rfl,rfl,rfl,rfl,trivial⟩ ⟨by omega,wf,wr⟩ (by omega)
 ·obtain rfl:k=n:=by omega
  rw[List.take_of_length_le (by omega),List.append_assoc] at wr;refine Cd.exit (ab.aA (ab.ay (ab.az ?_)));refine ab.eP rfl (.inr rfl) ?_;exact⟨rfl,wf,wr⟩
structure Pf (B:Nat)(w w':World):Prop where
 below:Below (min B w.heap.size) w w'
 bN:∀k t cs,aH w k t cs→t≠111→t≠9→aH w' k t cs
section
variable {B:Nat} {w w' w'':World}
theorem Pf.refl (B:Nat)(w:World):Pf B w w:=⟨Below.refl _ _,fun _ _ _ h _ _=>h⟩
theorem Pf.trans (h:Pf B w w')(k:Pf B w' w''):Pf B w w'':=⟨h.below.trans (k.below.mono (by have:=h.below.size;omega)),fun i t cs hb h1 h2=>k.bN i t cs (h.bN i t cs hb h1 h2) h1 h2⟩
theorem Pf.grow (h:Below w.heap.size w w'):Pf B w w':=⟨h.mono (Nat.min_le_right _ _),fun _ _ _ hb _ _=>hb.step h⟩
theorem Pf.step (h:Pf B w w')(k:Below w'.heap.size w' w''):Pf B w w'':=h.trans (Pf.grow k)
theorem Pf.to (h:Pf B w w')(hB:B≤w.heap.size):Below B w w':=by have:=h.below;rwa [Nat.min_eq_left hB] at this
theorem Pf.yZ {g:Nat}{T:TypeId}{cur cs:Array Value}(h:Pf B w w')(k:aH w' g T cur)(p:hZ w' w'' g T cs)(hB:B≤g)(hT:T=111∨T=9):Pf B w w'':=
 h.trans ⟨(p.below hB k.lt).mono (Nat.min_le_left _ _),fun i t cs hb h1 h2=>hb.put p (hb.ne k (by rcases hT with rfl|rfl<;>assumption))⟩
theorem Pf.put {g:Nat}{T:TypeId}{cur cs:Array Value}(h:Pf B w w')(k:aH w' g T cur)(p:hZ w' w'' g T cs)(e:w.heap.size≤g):Pf B w w'':=
 ⟨h.below.trans (p.below (by omega) k.lt),fun i t cs hb h1 h2=>(h.bN i t cs hb h1 h2).put p (by have:=hb.lt;omega)⟩
end
theorem aH.pf {B:Nat}{w w':World}{k:Nat}{t:TypeId}{cs:Array Value}(h:aH w k t cs)(f:Pf B w w')(h1:t≠111:=by decide)(h2:t≠9:=by decide):aH w' k t cs:=f.bN k t cs h h1 h2
theorem Own.pf {B B' size n:Nat}{w w':World}{e:TypeId}{v:Value}{xs:List Value}(h:Own w B' e size v n xs)(f:Pf B w w')(h1:e≠111:=by decide)(h2:e≠9:=by decide):Own w' B' e size v n xs:=by
 obtain⟨hl,h|⟨g,cap,cur,rfl,hg,hc,h3⟩⟩:=h.row
 ·exact⟨hl, .inl h⟩
 ·exact⟨hl, .inr ⟨g,cap,cur,rfl,hg,f.bN g e cur hc h1 h2,h3⟩⟩
theorem App.pf {w w':World}{B n:Nat}{v:Value}{xs:List Value}(h:App w w' B v)(o:Own w B 9 1 v n xs):Pf B w w':=
 ⟨h.below.mono (Nat.min_le_left _ _),fun i t cs hb _ h2=>hb.grown h.grown (fun e=>bR o.row hb (fun e=>h2 e.symm) e.symm)⟩
structure Pl (w:World)(B g:Nat)(L:List (List Nat)):Prop where
 ge:B≤g
 DM:∀t∈L,∀d∈t,d<256
 cell:∃v,aH w g 111 #[v]∧Own w B 9 1 v L.length (kr L)
theorem Pl.size {w:World}{B g:Nat}{L:List (List Nat)}(h:Pl w B g L):B≤w.heap.size:=by
 obtain⟨v,hb,-⟩:=h.cell;have:=hb.lt;have:=h.ge;omega
theorem Pl.step {w w':World}{B g:Nat}{L:List (List Nat)}(h:Pl w B g L)(k:Below w.heap.size w w'):Pl w' B g L:=by
 obtain⟨v,hb,ho⟩:=h.cell;exact⟨h.ge,h.DM,v,hb.step k,ho.step k⟩
theorem Pl.put {w w':World}{B B' g g':Nat}{L:List (List Nat)}{T:TypeId}{cur cs:Array Value}(h:Pl w B g L)(k:aH w g' T cur)(p:hZ w w' g' T cs)(_e:B'≤g')(h1:111≠T:=by decide)(h2:9≠T:=by decide):Pl w' B g L:=by
 obtain⟨v,hb,ho⟩:=h.cell;exact⟨h.ge,h.DM,v,hb.put p (hb.ne k h1),ho.put k p _e h2⟩
def lF (L:List (List Nat))(s:List Nat):List (List Nat):=if s∈L then L else L++[s]
theorem tj (L:List (List Nat))(s:List Nat)(A:Option Addr)(c B:Nat)(w:World)(hr:Reads w B 1 A L.length (kr L))(hB:B≤w.heap.size)(hl:L.length≤100000)(hL:∀t∈L,∀x∈t,x<256)(hs:∀x∈s,x<256):
  Calls Tryz.prog 139 #[.slice A L.length c, .string (strOf s)] w fun e w'=>e= .returned (.int .i64 (mr L s))∧Grow w w':=by
 have bel:=Below.refl w.heap.size w;refine Zs 19 Tryz.func139 ?_;refine aj ?_;refine Za ?_;refine bu 0 1 4 (aJ (aj ?_));refine Zm ?_;refine Zv (aa.len rfl rfl Tryz.underlying66) ?_;refine Zm ?_;refine aU 0 1 4 7 8 (Zt (Cd.block ?_));refine Cd.loop (σ:=Nat) (fun k=>[(0, .slice A L.length c),(1, .string (strOf s)),(7, .int .i64 (L.length:Int)),(8, .int .i64 (k:Int))]) (fun k wr=>k≤L.length∧Below w.heap.size w wr∧∀t∈L.take k,t≠s) (fun k=>L.length-k) 0 ⟨Nat.zero_le _,bel,by simp⟩ ⟨rfl,rfl,rfl,rfl,trivial⟩ ?_;clear bel;rintro k wr ⟨hk,bel,hno⟩;refine aj ?_;refine ff ?_;refine aU 0 1 7 8 9 (aJ ?_);refine Cd.au rfl (fun hc=> ?_) (fun hc=> ?_)
 ·obtain⟨t,ht⟩:∃t,L[k]? =some t:=⟨_,List.getElem?_eq_getElem (by omega)⟩
  have hr:=hr.below (bel.mono hB);obtain⟨ad,rfl,-,hc⟩:=hr.2 (by omega);have hc:=hc k (.string (strOf t)) (by simp[kr,ht]);have htk:L.take (k+1)=L.take k++[t]:=by rw[List.take_add_one,ht];rfl
  refine Cd.skip (aJ (Cd.block (aj ?_)));refine Zm ?_;refine Za ?_;refine bl 0 1 5 7 8 9 (aB ?_);refine Zm ?_;refine Zm ?_;refine Zm ?_;refine Zv (aa.dg rfl rfl rfl Tryz.underlying66 (by kernel_rfl) (j:=k) rfl (by omega)) ?_;refine Zv (aa.dF rfl rfl Tryz.underlying9 rfl hc) ?_;refine Zv (aa.dq rfl rfl rfl hs (hL t (List.mem_of_getElem? ht))) ?_;refine bp 0 1 5 7 8 9 16 (Zt ?_);refine Cd.au rfl (fun hc=> ?_) (fun hc=> ?_)
  ·skip
   refine aj ?_;refine Zm ?_;refine Za ?_;refine cn 0 1 4 5 7 8 9 16 (Zt (Cd.ret (ab.ah (ab.af (ab.aL (ab.ah (ab.af ?_)))))));refine aX ?_
   have hi:L.idxOf s=k:=by
    have hlt:=(List.getElem?_eq_some_iff.1 ht).1
    have h1:L=L.take k++t::L.drop (k+1):=by
     rw[List.getElem?_eq_getElem hlt] at ht;injection ht with ht
     rw[←ht,List.getElem_cons_drop,List.take_append_drop]
    rw[h1,List.idxOf_append,if_neg (fun hm=>hno s hm rfl),hc,List.idxOf_cons_self,List.length_take];omega
   unfold mr;rw[if_pos (by rw[hc];exact List.mem_of_getElem? ht),hi];exact⟨rfl,bel⟩
  ·skip
   refine Cd.skip (ab.ai (dU ?_));refine dt ?_;refine Zm ?_;refine bp 0 1 5 7 8 9 16 ?_;refine ab.round (k+1) ⟨rfl,rfl,rfl,rfl,trivial⟩ ⟨by omega,bel,fun u hu=> ?_⟩ (by omega);rw[htk] at hu;rcases List.mem_append.1 hu with hu|hu
   ·exact hno u hu
   ·obtain rfl:=List.mem_singleton.1 hu
    exact fun e=>hc e.symm
 ·obtain rfl:k=L.length:=by omega
  rw[List.take_of_length_le (Nat.le_refl _)] at hno;refine Cd.exit (ab.aA (ab.ay (ab.az (aB ?_))));refine Za ?_;refine bl 0 1 4 7 8 9 (Zt (Cd.ret ?_));refine aX ?_;unfold mr;rw[if_neg fun hm=>hno s hm rfl];exact⟨rfl,bel⟩
theorem yl (B g:Nat)(L:List (List Nat))(s:List Nat)(w:World)(h:Pl w B g L)(hs:∀d∈s,d<256)(hl:L.length≤20000):
  Calls Tryz.prog 96 #[.pointer (some ⟨g,0,none⟩), .string (strOf s)] w fun e w'=>e= .returned (.int .i64 (L.idxOf s:Int))∧Pf B w w'∧Pl w' B g (lF L s):=by
 obtain⟨v,k0,own⟩:=h.cell;have hB:=h.size;have hge:=h.ge;obtain⟨A0,c0,rfl,-⟩:=own.reads;have bel:=Below.refl w.heap.size w;have hixx:=fun W (hr:Reads W W.heap.size 1 A0 L.length (kr L))=>tj L s A0 c0 _ W hr (Nat.le_refl _) (by omega) h.DM hs;refine Zs 30 Tryz.func96 ?_;refine aj ?_;refine Za ?_;refine bu 0 1 4 (aB ?_);refine Zm ?_;refine Zv (aa.nilCheck rfl rfl) ?_;refine Zf 0 Tryz.underlying111 ?_;refine ZL Tryz.underlying66 k0 ?_;refine Zm ?_;refine Zc (Ze Tryz.func139) (hixx _ (by obtain⟨A1,c1,hv,hrd⟩:=own.reads;injection hv with e1 _ _;subst e1;exact hrd)) ?_;rintro en w5 ⟨rfl,hb5⟩;refine⟨_,rfl,?_⟩;replace bel:=bel.step hb5;replace own:=own.step hb5;replace k0:=k0.step hb5;refine Za ?_;refine aZ 0 1 4 5 (aJ (aj ?_));refine Zm ?_;refine ff ?_;refine aU 0 1 4 5 13 (Zt ?_);refine Cd.au rfl (fun hc=> ?_) (fun hc=> ?_)
 ·have hni:s∉L:=fun hm=>by unfold mr at hc;rw[if_pos hm] at hc;omega
  have hie:(L.idxOf s:Int)=(L.length:Int):=by rw[List.idxOf_eq_length hni]
  have hadd:lF L s=L++[s]:=by unfold lF;rw[if_neg hni]
  rw[hadd,hie];refine aj ?_;refine Zm ?_;refine Zv (aa.nilCheck rfl rfl) ?_;refine Zf 0 Tryz.underlying111 ?_;refine ZL Tryz.underlying66 k0 ?_;refine Zv (aa.len rfl rfl Tryz.underlying66) ?_;refine Za ?_;refine aU 0 1 4 5 13 (dU ?_);refine Zm ?_;refine Zm ?_;refine Zv (aa.nilCheck rfl rfl) ?_;refine Zf 0 Tryz.underlying111 ?_;refine ZL Tryz.underlying66 k0 ?_;refine Zm ?_;refine Seq.slice (vs:=[_]) (s:=1) rfl rfl rfl Tryz.underlying66 (by kernel_rfl) (cJ) (by omega) (by omega) ⟨rfl,trivial⟩ rfl rfl rfl ?_;intro g25 w1 n25;have e25:=Nat.le_trans bel.size n25.ge;have l25:=Nat.lt_of_lt_of_le k0.lt n25.ge;replace bel:=bel.step n25.below;replace own:=own.step n25.below;replace k0:=k0.step n25.below;have k25:=n25.ao;have hrd:=Reads.ao (size:=1) k25 1 rfl;refine Seq.append rfl rfl rfl Tryz.underlying66 (by kernel_rfl) cJ rfl (by decide) (b:=16) (by kernel_rfl) own hrd (by intro x hx;simp[ax,Value.cells] at hx;rw[hx];rfl) (Nat.le_trans hB bel.size) (by simp only[maxLen];omega) (by omega) rfl rfl rfl ?_;intro v1 wa own1 ha;have k0':=k0.grown ha.grown (fun e=>bR own.row k0 (by decide) e.symm);have pf:=(Pf.grow bel).trans (ha.pf own);clear k0;have k0:=k0';obtain⟨A1,c1,rfl,-⟩:=own1.reads;have e0:B≤g:=hge;refine Zv (aa.nilCheck rfl rfl) ?_;refine Zf 0 Tryz.underlying111 ?_;refine Zq k0 ?_;intro w2 pw2;replace k0:=pw2.ao;refine aU 0 1 4 5 13 (aB ?_);refine Zm ?_;refine Za ?_;refine aU 0 1 4 5 13 (Zt (Cd.ret ?_));have own2:=own1.put k0' pw2 hge;have f2:=pf.yZ k0' pw2 hge (.inl rfl);refine aX ?_;refine⟨rfl,f2,hge,fun t ht=> ?_,_,k0,?_⟩
  ·rcases List.mem_append.1 ht with ht|ht
   ·exact h.DM t ht
   ·simp at ht;subst ht;exact hs
  ·rw[show kr (L++[s])=kr L++kr [s] by simp[kr],List.length_append]
   exact own2
 ·have hmem:s∈L:=Classical.byContradiction fun hm=>by unfold mr at hc;rw[if_neg hm] at hc;omega
  have hie:mr L s=(L.idxOf s:Int):=if_pos hmem;have hadd:lF L s=L:=by unfold lF;rw[if_pos hmem]
  rw[hadd];refine Cd.skip (aB ?_);refine Zm ?_;refine Za ?_;refine aU 0 1 4 5 13 (Zt (Cd.ret ?_));refine aX ?_;exact⟨aW (int_eq hie),Pf.grow bel,hge,h.DM,_,k0,own⟩
theorem Pf.pf {B:Nat}{w w' w'':World}(h:Pf B w w')(k:Pf B w' w''):Pf B w w'':=h.trans k
theorem Pf.app {B B2 B' n2 size2:Nat}{w w' w'':World}{e2:TypeId}{v2:Value}{xs2:List Value}(h:Pf B w w')(_o:Own w' B2 e2 size2 v2 n2 xs2)(ha:App w' w'' B' v2)(hB:w.heap.size≤B'):Pf B w w'':=
 ⟨h.below.trans (ha.below.mono (by omega)),fun i t cs hb h1 h2=>(h.bN i t cs hb h1 h2).below ha.below (by have:=hb.lt;omega)⟩
theorem Pl.app {B B2 B' n2 size2 g:Nat}{L:List (List Nat)}{w w':World}{e2:TypeId}{v2:Value}{xs2:List Value}(h:Pl w B g L)(o:Own w B2 e2 size2 v2 n2 xs2)(ha:App w w' B' v2)(h1:e2≠111:=by decide)(h2:e2≠9:=by decide):Pl w' B g L:=by
 obtain⟨v,hb,ho⟩:=h.cell;exact⟨h.ge,h.DM,v,hb.app o ha h1,ho.app o ha h2⟩
def Dy:List (List Nat)→List Nat→List Ex→Option (List Nat × List (List Nat))
 |L,acc,[]=>some (acc,L)
 |L,acc,u::r=>if(ij u).2≠0 then none else Dy (lF L (ij u).1) (acc++[L.idxOf (ij u).1]) r
def EC (t:Tm):List Nat × Int:=eX (bV t) (kD t)
def zR:List (List Nat)→List Pk→List Pt→Option (List Pk × List (List Nat))
 |L,acc,[]=>some (acc,L)
 |L,acc,p::r=>if(EC p.term).2≠0 then none else match Dy L [] p.fD with
  |none=>none
  |some x=>zR x.2 (acc++[⟨p.aV,p.ba,x.1,(EC p.term).1⟩]) r
theorem sq {b:Bool}{T:List Nat}(h:b=true→∀d∈T,d<256):(∀d∈(eX b T).1,d<256)∧(eX b T).1.length≤4000:=by
 unfold eX
 cases b with
 |false=>exact⟨by simp,by simp⟩
 |true=>
  rw[if_neg (by decide)];split
  ·exact⟨by simp,by simp⟩
  ·exact⟨h rfl,by simp only;omega⟩
theorem rQ (e:Ex):(∀d∈(ij e).1,d<256)∧(ij e).1.length≤4000:=sq fun h=>by
 unfold dc at h;simp only[Bool.and_eq_true] at h;exact(fN e.nodes e (Nat.le_refl _) h.2).2
theorem BF (t:Tm):(∀d∈(EC t).1,d<256)∧(EC t).1.length≤4000:=sq fun h=>by
 unfold kD;rw[if_pos h];exact(kU t.nodes t (Nat.le_refl _) (fQ h).1).2
structure my (w:World)(B H:Nat)(out:List Pk)(xs:List Value):Prop where
 hi:H≤w.heap.size
 el:∀i x,out[i]? =some x→∃u2 u3 u4 u5 u6 A' c,(∀(j:Nat) (u:Value),([.int .i64 x.aV, .bool x.ba,u2,u3,u4,u5,u6, .string (strOf x.text), .slice A' x.places.length c]:List Value)[j]? =some u→xs[i*9+j]? =some u)∧(u2.oneCell'=true∧u3.oneCell'=true∧u4.oneCell'=true∧u5.oneCell'=true∧u6.oneCell'=true)∧Own w B 3 1 (.slice A' x.places.length c) x.places.length (DJ x.places)∧∀ad,A'=some ad→ad.block<H
theorem my.map {w w':World}{B H:Nat}{out:List Pk}{xs:List Value}(h:my w B H out xs)(hs:w.heap.size≤w'.heap.size)(hk:∀A n c ys,Own w B 3 1 (.slice A n c) n ys→(∀ad,A=some ad→ad.block<H)→Own w' B 3 1 (.slice A n c) n ys):my w' B H out xs:=
 ⟨Nat.le_trans h.hi hs,fun i x hx=>by
  obtain⟨u2,u3,u4,u5,u6,A',c,h1,h2,h3,h4⟩:=h.el i x hx;exact⟨u2,u3,u4,u5,u6,A',c,h1,h2,hk _ _ _ _ h3 h4,h4⟩⟩
theorem my.step {w w':World}{B H:Nat}{out:List Pk}{xs:List Value}(h:my w B H out xs)(hb:Below w.heap.size w w'):my w' B H out xs:=h.map hb.size fun _ _ _ _ ho _=>ho.step hb
theorem my.put {w w':World}{B B' H g:Nat}{T:TypeId}{cur cs:Array Value}{out:List Pk}{xs:List Value}(h:my w B H out xs)(k:aH w g T cur)(p:hZ w w' g T cs)(_e:B'≤g)(hne:3≠T:=by decide):my w' B H out xs:=h.map (Nat.le_of_eq p.size.symm) fun _ _ _ _ ho _=>ho.put k p _e hne
theorem my.pf {w w':World}{B B1 H:Nat}{out:List Pk}{xs:List Value}(h:my w B H out xs)(f:Pf B1 w w'):my w' B H out xs:=h.map f.below.size fun _ _ _ _ ho _=>ho.pf f
theorem my.app {w w':World}{B B2 B' H n2 size2:Nat}{e2:TypeId}{v2:Value}{xs2:List Value}{out:List Pk}{xs:List Value}(h:my w B H out xs)(o:Own w B2 e2 size2 v2 n2 xs2)(ha:App w w' B' v2)(hne:e2≠3:=by decide):my w' B H out xs:=h.map ha.below.size fun _ _ _ _ ho _=>ho.app o ha hne
theorem my.low {w w':World}{B H:Nat}{out:List Pk}{xs:List Value}(h:my w B H out xs)(hb:Below H w w'):my w' B H out xs:=h.map hb.size fun A n c ys ho hA=>by
 obtain⟨hl,h1|⟨g,cap,cur,e,hg,hc,h3⟩⟩:=ho.row
 ·exact⟨hl, .inl h1⟩
 ·injection e with e1 e2 e3
  have:=hA _ e1;exact⟨hl, .inr ⟨g,cap,cur,by rw[e1,e3],hg,(show aH w g _ cur from hc).below hb this,h3⟩⟩
structure lD (w:World)(B H:Nat)(e:TypeId)(size:Nat)(v:Value)(n:Nat)(xs:List Value):Prop where
 own:Own w B e size v n xs
 hi:H≤w.heap.size
 bd:∀ad m c,v= .slice (some ad) m c→ad.block<H
section
variable {w w':World} {B H size n:Nat} {e:TypeId} {v:Value} {xs:List Value}
theorem lD.step (h:lD w B H e size v n xs)(hb:Below w.heap.size w w'):lD w' B H e size v n xs:=⟨h.own.step hb,Nat.le_trans h.hi hb.size,h.bd⟩
theorem lD.put {g B':Nat}{T:TypeId}{cur cs:Array Value}(h:lD w B H e size v n xs)(k:aH w g T cur)(p:hZ w w' g T cs)(_e:B'≤g)(hne:e≠T∨H≤g:=by first|exact .inl (by decide)|exact .inr (by omega)):lD w' B H e size v n xs:=by
 refine⟨?_,Nat.le_trans h.hi (Nat.le_of_eq p.size.symm),h.bd⟩;rcases hne with h1|h1
 ·exact h.own.put k p _e h1
 ·obtain⟨hl,h2|⟨g',cap,cur',e',hg,hc,h3⟩⟩:=h.own.row
  ·exact⟨hl, .inl h2⟩
  ·have:=h.bd _ _ _ e'
   exact⟨hl, .inr ⟨g',cap,cur',e',hg,(show aH w g' _ cur' from hc).put p (by simp only at this;omega),h3⟩⟩
theorem lD.pf {B1:Nat}(h:lD w B H e size v n xs)(f:Pf B1 w w')(h1:e≠111:=by decide)(h2:e≠9:=by decide):lD w' B H e size v n xs:=⟨h.own.pf f h1 h2,Nat.le_trans h.hi f.below.size,h.bd⟩
theorem lD.app {B2 B' n2 size2:Nat}{e2:TypeId}{v2:Value}{xs2:List Value}(h:lD w B H e size v n xs)(o:Own w B2 e2 size2 v2 n2 xs2)(ha:App w w' B' v2)(hne:e2≠e:=by decide):lD w' B H e size v n xs:=⟨h.own.app o ha hne,Nat.le_trans h.hi ha.below.size,h.bd⟩
end
structure oI (w:World)(B:Nat)(e:TypeId)(size:Nat)(v:Value)(n:Nat)(xs:List Value):Prop where
 own:Own w B e size v n xs
 hi:B≤w.heap.size
section
variable {w w':World} {B size n:Nat} {e:TypeId} {v:Value} {xs:List Value}
theorem oI.step (h:oI w B e size v n xs)(hb:Below w.heap.size w w'):oI w' B e size v n xs:=⟨h.own.step hb,Nat.le_trans h.hi hb.size⟩
theorem oI.put {g B':Nat}{T:TypeId}{cur cs:Array Value}(h:oI w B e size v n xs)(k:aH w g T cur)(p:hZ w w' g T cs)(_e:B'≤g)(hne:e≠T:=by decide):oI w' B e size v n xs:=⟨h.own.put k p _e hne,Nat.le_trans h.hi (Nat.le_of_eq p.size.symm)⟩
theorem oI.pf {B1:Nat}(h:oI w B e size v n xs)(f:Pf B1 w w')(h1:e≠111:=by decide)(h2:e≠9:=by decide):oI w' B e size v n xs:=⟨h.own.pf f h1 h2,Nat.le_trans h.hi f.below.size⟩
end
theorem Own.top {w:World}{B size n:Nat}{e:TypeId}{v:Value}{xs:List Value}(h:Own w B e size v n xs):lD w B w.heap.size e size v n xs:=⟨h,Nat.le_refl _,fun ad m c hv=>by
 obtain⟨hl,⟨h1,-⟩|⟨g,cap,cur,h1,hg,hc,h3⟩⟩:=h.row
 ·rw[h1] at hv;cases hv
 ·rw[h1] at hv
  injection hv with e1 _ _
  injection e1 with e1
  rw[←e1];exact(show aH w g e cur from hc).lt⟩
theorem Own.EZ {w:World}{B B' size n:Nat}{e:TypeId}{v:Value}{xs:List Value}(h:Own w B e size v n xs)(hB:B'≤B):Own w B' e size v n xs:=by
 obtain⟨hl,h1|⟨g,cap,cur,h1,hg,h3⟩⟩:=h.row
 ·exact⟨hl, .inl h1⟩
 ·exact⟨hl, .inr ⟨g,cap,cur,h1,Nat.le_trans hB hg,h3⟩⟩
theorem my.add {w:World}{B B1 H c:Nat}{out:List Pk}{xs:List Value}{q:Pk}{u2 u3 u4 u5 u6:Value}{A':Option Addr}(h:my w B H out xs)(hl:xs.length=out.length*9)(h1:u2.oneCell'=true∧u3.oneCell'=true∧u4.oneCell'=true∧u5.oneCell'=true∧u6.oneCell'=true)(ho:Own w B1 3 1 (.slice A' q.places.length c) q.places.length (DJ q.places))(hB:B≤B1):
  my w B w.heap.size (out++[q]) (xs++[.int .i64 q.aV, .bool q.ba,u2,u3,u4,u5,u6, .string (strOf q.text), .slice A' q.places.length c]):=by
 refine⟨Nat.le_refl _,fun i x hx=> ?_⟩;rcases Nat.lt_or_ge i out.length with hi|hi
 ·rw[List.getElem?_append_left hi] at hx
  obtain⟨a2,a3,a4,a5,a6,A,c,e1,e2,e3,e4⟩:=h.el i x hx;refine⟨a2,a3,a4,a5,a6,A,c,fun j u hj=> ?_,e2,e3,fun ad ha=>Nat.lt_of_lt_of_le (e4 ad ha) h.hi⟩;have:=e1 j u hj;have hlt:=(List.getElem?_eq_some_iff.1 this).1;rw[List.getElem?_append_left hlt];exact this
 ·rw[List.getElem?_append_right hi] at hx
  have hi0:i=out.length:=by
   have:=(List.getElem?_eq_some_iff.1 hx).1;simp at this;omega
  subst hi0;simp at hx;subst hx;refine⟨u2,u3,u4,u5,u6,A',c,fun j u hj=> ?_,h1,ho.EZ hB,fun ad ha=>ho.top.bd ad _ _ (by rw[ha])⟩;rw[←hl,List.getElem?_append_right (by omega),Nat.add_sub_cancel_left];exact hj
theorem my.top {w:World}{B H:Nat}{out:List Pk}{xs:List Value}(h:my w B H out xs):my w B w.heap.size out xs:=⟨Nat.le_refl _,fun i x hx=>by
 obtain⟨a2,a3,a4,a5,a6,A,c,e1,e2,e3,e4⟩:=h.el i x hx;exact⟨a2,a3,a4,a5,a6,A,c,e1,e2,e3,fun ad ha=>Nat.lt_of_lt_of_le (e4 ad ha) h.hi⟩⟩
theorem iO.pf {B B0 m:Nat}{t:TypeId}{cs:Array Value}(h1:t≠111)(h2:t≠9):∀v w w',Pf B w w'→iO B0 m t cs v w→iO B0 m t cs v w':=fun _ _ _ f ⟨g',e,h,hB⟩=>⟨g',e,f.bN g' t cs h h1 h2,hB⟩
theorem tc (a op:Int)(b:Bool)(nm tx:List Nat)(A0 A1 A2:Option Addr)(n0 c0 n1 c1 n2 c2:Nat)(w:World):(Instr.build 118 #[(0, .agg #[.int .i64 a, .bool b, .slice A0 n0 c0, .int .i64 op, .string (strOf nm), .slice A1 n1 c1, .slice A2 n2 c2]),(1, .string (strOf tx))]).run Tryz.prog w= .ok (.agg #[.int .i64 a, .bool b, .slice A0 n0 c0, .int .i64 op, .string (strOf nm), .slice A1 n1 c1, .slice A2 n2 c2, .string (strOf tx), .slice none 0 0]) w:=by kernel_rfl
theorem Bu (B g c B2:Nat)(A:Option Addr)(ps:List Pt)(w:World)(h:Pl w B g [])(hv:gD w B2 ps A)(hB:B2≤B)(dX:ps.length≤1000)(hu:∀p∈ps,p.fD.length≤16)(hfl:∀p∈ps,p.flat):
  Calls Tryz.prog 55 #[.pointer (some ⟨g,0,none⟩), .slice A ps.length c] w fun e w'=>∃v,e= .returned (.tuple #[v, .bool (zR [] [] ps).isSome])∧Pf B w w'∧∀out L,zR [] [] ps=some (out,L)→Pl w' B g L∧∃A' c' xs,v= .slice A' out.length c'∧Own w' w.heap.size 118 9 v out.length xs∧my w' w.heap.size w'.heap.size out xs:=by
 have wf:=Pf.refl B w;have pl:=h;have hBw:=h.size;have hBB:=Nat.le_trans hB hBw;obtain⟨R,hR⟩:∃R,zR [] [] ps=R:=⟨_,rfl⟩;rw[hR];obtain⟨n,hn⟩:∃n,ps.length=n:=⟨_,rfl⟩;rw[hn] at dX⊢;have own:lD w w.heap.size w.heap.size 118 9 (.slice none 0 0) 0 []:=⟨Own.nil _ _ _ _,Nat.le_refl _,fun _ _ _ h=>by cases h⟩;have pks:my w w.heap.size w.heap.size [] []:=⟨Nat.le_refl _,fun i x hx=>by cases hx⟩;refine Zs 62 Tryz.func55 ?_;refine aj ?_;refine Za ?_;refine Za ?_;refine aZ 0 1 4 5 (aB ?_);refine Za ?_;refine aU 0 1 4 5 6 (aJ (aj ?_));refine Zm ?_;refine Zv (aa.len rfl rfl Tryz.underlying50) ?_;refine Zm ?_;refine cn 0 1 4 5 6 16 17 18 (Zt (Cd.block ?_))
 refine Cd.loop (σ:=Nat × List Pk × List (List Nat) × Value × List Value × Nat) (fun s=>[(0, .pointer (some ⟨g,0,none⟩)),(6,s.2.2.2.1),(16, .slice A n c),(17, .int .i64 (n:Int)),(18, .int .i64 (s.1:Int))])
  (fun s wr=>s.1≤n∧s.2.1.length=s.1∧s.2.2.1.length≤16*s.1∧zR s.2.2.1 s.2.1 (ps.drop s.1)=R∧Pf B w wr∧Pl wr B g s.2.2.1∧lD wr w.heap.size s.2.2.2.2.2 118 9 s.2.2.2.1 s.2.1.length s.2.2.2.2.1∧my wr w.heap.size s.2.2.2.2.2 s.2.1 s.2.2.2.2.1) (fun s=>n-s.1) (0,[],[], .slice none 0 0,[],w.heap.size) ⟨Nat.zero_le _,rfl,Nat.zero_le _,hR,wf,pl,own,pks⟩ ⟨rfl,rfl,rfl,rfl,rfl,trivial⟩ ?_
 clear wf pl own pks;clear hR;rintro⟨k,out,L,vo,xs,H⟩ wr ⟨hk,hol,hLl,hR,wf,pl,own,pks⟩;simp only at hk hol hLl hR pl own pks;obtain⟨Ao,co,rfl,-⟩:=own.own.reads;show Cd _ _ _ _ [(0, .pointer (some ⟨g,0,none⟩)),(6, .slice Ao out.length co),(16, .slice A n c),(17, .int .i64 (n:Int)),(18, .int .i64 (k:Int))] _;refine aj ?_;refine ff ?_;refine bl 0 6 16 17 18 19 (aJ ?_);refine Cd.au rfl (fun hc=> ?_) (fun hc=> ?_)
 ·obtain⟨x,hx⟩:∃x,ps[k]? =some x:=⟨_,List.getElem?_eq_getElem (show k<ps.length by omega)⟩
  obtain⟨ad,A0,A1,A2,c0,c1,c2,rfl,hbl,hrx,hc⟩:=hv k x hx;have hxm:=List.mem_of_getElem? hx;obtain⟨hdt,hde⟩:=hfl x hxm;have hu16:=hu x hxm;have hc:=fun j u hj=>((wf.to hBw).cell (p:=(ad.add (k*7)).add j) (by rw[ag,ag];omega)).trans (hc j u hj)
  have hdrop:ps.drop k=x::ps.drop (k+1):=by
   rw[List.drop_eq_getElem_cons (show k<ps.length by omega)];congr 1;obtain⟨_,he⟩:=List.getElem?_eq_some_iff.1 hx;exact he
  rw[hdrop,zR] at hR;unfold yq at hc;have hpt:=fun W (hb:Below B2 w W) (hs:B2≤W.heap.size)=>lJ x.term _ W hdt ((hrx.term.below hb).more hs);have hprt:eX (bV x.term) (kD x.term)=EC x.term:=rfl;rw[hprt] at hpt;have htx:=BF x.term
  generalize EC x.term=pt at hpt hR htx
  obtain⟨tx,te⟩:=pt;simp only at hpt hR htx;have hsz0:=wf.below.size;have hHr:=pks.hi;refine Cd.skip (aJ (Cd.block (aj ?_)));refine Zv (aa.aR rfl rfl rfl Tryz.underlying50 (s:=7) (by kernel_rfl) (j:=k) rfl (by omega)) ?_;refine Zv (aa.bP (ps:=[.int .i64 x.aV, .bool x.ba, .slice A0 x.fD.length c0, .int .i64 x.term.op, .string (strOf x.term.name), .slice A1 x.term.exprs.length c1, .slice A2 x.term.ar.length c2]) rfl rfl Tryz.underlying108 rfl (m:=7) (by kernel_rfl) rfl hc) ?_;refine Zl bI ?_;intro g8 w1 n8;have e8:=Nat.le_trans wf.below.size n8.ge;replace wf:=wf.step n8.below;replace pl:=pl.step n8.below;replace own:=own.step n8.below;replace pks:=pks.step n8.below;have k8:=n8.ao;refine Zo 7 k8 ?_;intro w2 pw2;replace wf:=wf.put k8 pw2 e8;replace pl:=pl.put k8 pw2 e8;replace own:=own.put k8 pw2 e8;replace pks:=pks.put k8 pw2 e8;replace k8:=pw2.ao;refine bp 0 6 8 16 17 18 19 (aB ?_);refine Zf 3 Tryz.underlying108 ?_;refine Zv (aa.rU (off:=3) (ps:=[.int .i64 x.term.op, .string (strOf x.term.name), .slice A1 x.term.exprs.length c1, .slice A2 x.term.ar.length c2]) rfl rfl Tryz.underlying71 rfl k8 (m:=4) (by kernel_rfl) rfl lq) ?_;refine Zc (Ze Tryz.func82) (hpt _ ((wf.to hBw).mono hB) (Nat.le_trans hBB wf.below.size)) ?_;rintro en w6 ⟨rfl,hb6⟩;refine⟨_,rfl,?_⟩;replace wf:=wf.step hb6;replace pl:=pl.step hb6;replace own:=own.step hb6;replace pks:=pks.step hb6;replace k8:=k8.step hb6;refine Zm ?_;refine Zx ?_;refine Zx ?_;refine Za ?_;refine Za ?_;refine du 0 6 8 9 10 16 17 18 19 (aJ (aj ?_));refine Zm ?_;refine kL ?_;refine ed 0 6 8 9 10 16 17 18 19 29 (Zt ?_);refine Cd.au rfl (fun hc=> ?_) (fun hc=> ?_)
  ·rw[if_pos hc] at hR
   refine aj ?_;refine Za ?_;refine Za ?_;refine eS 0 4 5 6 8 9 10 16 17 18 19 29 (Zt (Cd.ret (ab.af (ab.ah (ab.af (ab.aL (ab.ah (ab.af ?_))))))));refine dO ?_;subst hR;exact⟨_,rfl,wf,fun _ _ h=>by cases h⟩
  ·rw[if_neg hc] at hR
   have hg8:=n8.ge;have hH0:H≤wr.heap.size:=hHr;have k8:aH _ g8 108 #[.int .i64 x.aV, .bool x.ba, .slice A0 x.fD.length c0, .int .i64 x.term.op, .string (strOf x.term.name), .slice A1 x.term.exprs.length c1, .slice A2 x.term.ar.length c2]:=k8;have hu60:=hrx.dX;obtain⟨m,hm⟩:∃m,x.fD.length=m:=⟨_,rfl⟩;rw[hm] at k8 hu16 hu60;refine Cd.skip (aB ?_);refine ZW 7 Tryz.underlying108 k8 ?_;refine Zm ?_;refine Zv (aa.build rfl rfl (tc _ _ _ _ _ _ _ _ _ _ _ _ _ _ _)) ?_;refine Zl eL ?_;intro g11 w3 n11;have e11:=Nat.le_trans wf.below.size n11.ge;have l11:=Nat.lt_of_lt_of_le k8.lt n11.ge;replace wf:=wf.step n11.below;replace pl:=pl.step n11.below;replace own:=own.step n11.below;replace pks:=pks.step n11.below;replace k8:=k8.step n11.below;have k11:=n11.ao;refine Zo 9 k11 ?_;intro w4 pw4;replace wf:=wf.put k11 pw4 e11;replace pl:=pl.put k11 pw4 e11;replace own:=own.put k11 pw4 e11;replace pks:=pks.put k11 pw4 e11;replace k8:=k8.put pw4 (by omega);replace k11:=pw4.ao;refine bT 0 6 8 9 10 11 16 17 18 19 29 (aJ (aj ?_));have k11:aH _ g11 118 #[.int .i64 x.aV, .bool x.ba, .slice A0 m c0, .int .i64 x.term.op, .string (strOf x.term.name), .slice A1 x.term.exprs.length c1, .slice A2 x.term.ar.length c2, .string (strOf tx), .slice none 0 0]:=k11;refine Zf 2 Tryz.underlying108 ?_;refine ZL Tryz.underlying68 k8 ?_;refine Zv (aa.len rfl rfl Tryz.underlying68) ?_;refine Zm ?_;refine jc 0 6 8 9 10 11 16 17 18 19 29 34 35 36 (Zt (Cd.block ?_));obtain⟨H1,hH1⟩:∃H1,H1=w4.heap.size:=⟨_,rfl⟩;have hH1w:w.heap.size≤H1:=by rw[hH1];exact wf.below.size
   have hHH:H≤H1:=by rw[hH1];exact pks.hi
   have ownI:oI _ H1 3 1 (.slice none 0 0) ([]:List Nat).length (DJ []):=⟨Own.nil _ _ _ _,by rw[hH1];exact Nat.le_refl _⟩;obtain⟨Q,hQ⟩:∃Q,Dy L [] x.fD=Q:=⟨_,rfl⟩;rw[hQ] at hR
   refine Cd.loop (σ:=Nat × List Nat × List (List Nat) × Value) (fun s=>[(0, .pointer (some ⟨g,0,none⟩)),(6, .slice Ao out.length co),(11, .pointer (some ⟨g11,0,none⟩)),(16, .slice (some ad) n c),(17, .int .i64 (n:Int)),(18, .int .i64 (k:Int)),(34, .slice A0 m c0),(35, .int .i64 (m:Int)),(36, .int .i64 (s.1:Int))])
    (fun s wr=>s.1≤m∧s.2.1.length=s.1∧s.2.2.1.length≤16*k+s.1∧Dy s.2.2.1 s.2.1 (x.fD.drop s.1)=Q∧Pf B w wr∧Pl wr B g s.2.2.1∧lD wr w.heap.size H 118 9 (.slice Ao out.length co) out.length xs∧my wr w.heap.size H out xs∧oI wr H1 3 1 s.2.2.2 s.2.1.length (DJ s.2.1)∧aH wr g11 118 #[.int .i64 x.aV, .bool x.ba, .slice A0 m c0, .int .i64 x.term.op, .string (strOf x.term.name), .slice A1 x.term.exprs.length c1, .slice A2 x.term.ar.length c2, .string (strOf tx),s.2.2.2]) (fun s=>m-s.1) (0,[],L, .slice none 0 0) ⟨Nat.zero_le _,rfl,by simp only;omega,hQ,wf,pl,own,pks,ownI,k11⟩ ⟨rfl,rfl,rfl,rfl,rfl,rfl,rfl,rfl,rfl,trivial⟩ ?_
   clear wf pl own pks k11;clear hQ ownI;rintro⟨j,acc,L',vi⟩ w20 ⟨hj,hal,hLl',hQ,wf,pl,own,pks,ownI,k11⟩;simp only at hj hal hLl' hQ pl ownI k11;obtain⟨Ai,ci,rfl,-⟩:=ownI.own.reads;show Cd _ _ _ _ [(0, .pointer (some ⟨g,0,none⟩)),(6, .slice Ao out.length co),(11, .pointer (some ⟨g11,0,none⟩)),(16, .slice (some ad) n c),(17, .int .i64 (n:Int)),(18, .int .i64 (k:Int)),(34, .slice A0 m c0),(35, .int .i64 (m:Int)),(36, .int .i64 (j:Int))] _;refine aj ?_;refine ff ?_;refine ed 0 6 11 16 17 18 34 35 36 37 (aJ ?_);refine Cd.au rfl (fun hc=> ?_) (fun hc=> ?_)
   ·obtain⟨y,hy⟩:∃y,x.fD[j]? =some y:=⟨_,List.getElem?_eq_getElem (show j<x.fD.length by omega)⟩
    obtain⟨ad2,A3,c3,rfl,hbl3,hry,hcy⟩:=hrx.fD j y hy;have hcy:=fun i u hi=>((wf.to hBw).cell (p:=(ad2.add (j*4)).add i) (by rw[ag,ag];omega)).trans (hcy i u hi)
    have hdropy:x.fD.drop j=y::x.fD.drop (j+1):=by
     rw[List.drop_eq_getElem_cons (show j<x.fD.length by omega)];congr 1;obtain⟨_,he⟩:=List.getElem?_eq_some_iff.1 hy;exact he
    rw[hdropy,Dy] at hQ;have hpe:=fun W (hb:Below B2 w W) (hs:B2≤W.heap.size)=>rK y _ W (hde y (List.mem_of_getElem? hy)) ((hry.below hb).more hs);have hey:=rQ y
    generalize ij y=pe at hpe hQ hey
    obtain⟨te2,ee⟩:=pe;simp only at hpe hQ hey;refine Cd.skip (aJ (Cd.block (aj ?_)));refine Zv (aa.aR rfl rfl rfl Tryz.underlying68 (s:=4) (by kernel_rfl) (j:=j) rfl (by omega)) ?_;refine Zv (aa.bP (ps:=[.int .i64 y.op, .int .i64 y.n, .string (strOf y.name), .slice A3 y.args.length c3]) rfl rfl Tryz.underlying105 rfl (m:=4) (by kernel_rfl) rfl hcy) ?_;refine Zl aw ?_;intro g13 w5 n13;have e13:=Nat.le_trans wf.below.size n13.ge;have l13:=Nat.lt_of_lt_of_le k11.lt n13.ge;replace wf:=wf.step n13.below;replace pl:=pl.step n13.below;replace own:=own.step n13.below;replace pks:=pks.step n13.below;replace k11:=k11.step n13.below;replace ownI:=ownI.step n13.below;have k13:=n13.ao;refine Zo 4 k13 ?_;intro w6 pw6;replace wf:=wf.put k13 pw6 e13;replace pl:=pl.put k13 pw6 e13;replace own:=own.put k13 pw6 e13;replace pks:=pks.put k13 pw6 e13;replace k11:=k11.put pw6 (by omega);replace ownI:=ownI.put k13 pw6 e13;replace k13:=pw6.ao;refine bT 0 6 11 13 16 17 18 34 35 36 37 (aB ?_);refine ZW 4 Tryz.underlying105 k13 ?_;refine Zc (Ze Tryz.func95) (hpe _ ((wf.to hBw).mono hB) (Nat.le_trans hBB wf.below.size)) ?_;rintro en w21 ⟨rfl,hb21⟩;refine⟨_,rfl,?_⟩;replace wf:=wf.step hb21;replace pl:=pl.step hb21;replace own:=own.step hb21;replace pks:=pks.step hb21;replace k11:=k11.step hb21;replace ownI:=ownI.step hb21;replace k13:=k13.step hb21;refine Zm ?_;refine Zx ?_;refine Zx ?_;refine Za ?_;refine Za ?_;refine eN 0 6 11 13 14 15 16 17 18 34 35 36 37 (aJ (aj ?_));refine Zm ?_;refine kL ?_;refine jc 0 6 11 13 14 15 16 17 18 34 35 36 37 46 (Zt ?_);refine Cd.au rfl (fun hc=> ?_) (fun hc=> ?_)
    ·rw[if_pos hc] at hQ
     refine aj ?_;refine Za ?_;refine Za ?_;refine lB 0 4 5 6 11 13 14 15 16 17 18 34 35 36 37 46 (Zt (Cd.ret (ab.af (ab.ah (ab.af (ab.aL (ab.ah (ab.af (ab.ah (ab.af (ab.aL (ab.ah (ab.af ?_)))))))))))));refine dO ?_;subst hQ;rw[←hR];exact⟨_,rfl,wf,fun _ _ h=>by cases h⟩
    ·rw[if_neg hc] at hQ
     have hlL:L'.length≤20000:=by omega
     refine Cd.skip (Zt ?_);refine Cd.yb 6 (by kernel_rfl) [] [4] (fun i h=>by cases h) rfl rfl (.inl rfl) rfl (Pf B) (Pf.refl _) (fun _ _ _=>Pf.trans) (fun c w=>Pl w B g (gJ [] [L',lF L' te2] c)) ?_;intro w7 hw7 zw7;replace wf:=wf.step hw7;replace pl:=pl.step hw7;replace own:=own.step hw7;replace pks:=pks.step hw7;replace k11:=k11.step hw7;replace ownI:=ownI.step hw7;refine⟨pl,?_⟩;have zlt:=k11.lt;refine DJ.val rfl (Pf.refl _) rfl (fun w hG=>aa.ak 8 rfl rfl Tryz.underlying118 rfl (by kernel_rfl)) rfl ?_;refine DJ.val rfl (Pf.refl _) rfl (fun w hG=>aa.an rfl rfl Tryz.underlying96 rfl (k11.pf hG) rfl) rfl ?_;refine DJ.val rfl (Pf.refl _) rfl (fun w hG=>aa.move rfl rfl) rfl ?_;refine DJ.val rfl (Pf.refl _) rfl (fun w hG=>aa.move rfl rfl) rfl ?_;refine DJ.chain 0 rfl rfl (fun w=>Ze Tryz.func96) rfl (fun w hG pl=>yl B g L' te2 _ pl hey.1 hlL) ?_;refine DJ.slice 0 (vs:=[_]) (s:=1) rfl (fun _ _ h=>Pf.grow h) (fun _ _=>Nat.zero_le _) (fun c w w' hg h=>Pl.step h hg) (iO.pf (by decide) (by decide)) rfl rfl rfl rfl Tryz.underlying96 (by kernel_rfl) cG (by omega) (by omega) ⟨rfl,trivial⟩ rfl ?_;refine DJ.nil ?_;refine br.open (j:=5) rfl ?_;intro u5;refine br.done (F':=[(0,_),(6,_),(11,_),(13,_),(14,_),(15,_),(16,_),(17,_),(18,_),(34,_),(35,_),(36,_),(37,_),(46,_),(48,_),(52,_)]) rfl ⟨rfl,rfl,rfl,rfl,rfl,rfl,rfl,rfl,rfl,rfl,rfl,rfl,rfl,rfl,rfl,rfl,trivial⟩ ?_;intro w8 hw8 fw8;replace wf:=wf.pf hw8;replace own:=own.pf hw8;replace pks:=pks.pf hw8;replace k11:=k11.pf hw8;replace ownI:=ownI.pf hw8;clear pl;have pl:=fw8;obtain⟨gz,rfl,kz,-⟩:=fw8.2;have hrd:=Reads.ao (size:=1) kz 1 rfl;replace pl:Pl w8 B g (lF L' te2):=fw8.1;clear fw8;refine Seq.append rfl rfl rfl Tryz.underlying96 (by kernel_rfl) cG rfl (by decide) (b:=8) (by kernel_rfl) ownI.own hrd (by intro x hx;simp[ax,Value.cells] at hx;rw[hx];rfl) ownI.hi (by simp only[maxLen];omega) (by omega) rfl rfl rfl ?_;intro v9 wa own9 ha;replace wf:=wf.app ownI.own ha hH1w;replace pl:=pl.app ownI.own ha;replace own:=own.app ownI.own ha;replace pks:=pks.low (ha.below.mono hHH);replace k11:=k11.app ownI.own ha;have hH1a:H1≤wa.heap.size:=Nat.le_trans ownI.hi ha.below.size;clear ownI;have ownI:oI wa H1 3 1 v9 _ _:=⟨own9,hH1a⟩;obtain⟨Ai2,ci2,rfl,-⟩:=ownI.own.reads;clear own9 kz hrd ha;refine Zf 8 Tryz.underlying118 ?_;refine Zq k11 ?_;intro w9 pw9;replace wf:=wf.put k11 pw9 e11;replace pl:=pl.put k11 pw9 e11;replace own:=own.put k11 pw9 e11;replace pks:=pks.put k11 pw9 e11;replace ownI:=ownI.put k11 pw9 e11;replace k11:=pw9.ao;refine jc 0 6 11 13 14 15 16 17 18 34 35 36 37 46 (ab.ai (dU ?_));refine dt ?_;refine Zm ?_;refine jc 0 6 11 13 14 15 16 17 18 34 35 36 37 46 ?_;have k11:aH _ g11 118 #[.int .i64 x.aV, .bool x.ba, .slice (some ad2) m c0, .int .i64 x.term.op, .string (strOf x.term.name), .slice A1 x.term.exprs.length c1, .slice A2 x.term.ar.length c2, .string (strOf tx), .slice Ai2 (acc.length+1) ci2]:=k11;have hDJ:DJ acc++(ax [Value.int IntKind.i64 ((L'.idxOf te2:Nat):Int)]).toArray.toList=DJ (acc++[L'.idxOf te2]):=by simp[DJ,ax,Value.cells]
     have hlen1:(acc++[L'.idxOf te2]).length=acc.length+1:=by simp
     have haS:(lF L' te2).length≤L'.length+1:=by unfold lF;split<;>simp
     refine ab.round (j+1,acc++[L'.idxOf te2],lF L' te2, .slice Ai2 (acc.length+1) ci2) ⟨rfl,rfl,rfl,rfl,rfl,rfl,rfl,rfl,rfl,trivial⟩ ⟨by simp only;omega,by simp only;omega,by simp only;omega,hQ,wf,pl,own,pks,?_,k11⟩ (by simp only;omega);simp only;rw[hlen1,←hDJ];exact ownI
   ·obtain rfl:j=m:=by omega
    rw[←hm,List.drop_length,Dy] at hQ;subst hQ;refine Cd.exit (ab.aA (ab.ay (ab.az (dU ?_))));refine Zm ?_;refine ZW 9 Tryz.underlying118 k11 ?_;refine Seq.slice (vs:=[_]) (s:=9) rfl rfl rfl Tryz.underlying112 (by kernel_rfl) (eL) (by omega) (by omega) ⟨rfl,trivial⟩ rfl rfl rfl ?_;intro g58 w5 n58;have e58:=Nat.le_trans wf.below.size n58.ge;have l58:=Nat.lt_of_lt_of_le k11.lt n58.ge;replace wf:=wf.step n58.below;replace pl:=pl.step n58.below;replace own:=own.step n58.below;replace pks:=pks.step n58.below;replace k11:=k11.step n58.below;replace ownI:=ownI.step n58.below;have k58:=n58.ao;have hrd:=Reads.ao (size:=9) k58 1 rfl;have hxl:xs.length=out.length*9:=own.own.row.1;refine Seq.append rfl rfl rfl Tryz.underlying112 (by kernel_rfl) eL rfl (by decide) (b:=152) (by kernel_rfl) own.own hrd (by intro x hx;simp[ax,Value.cells] at hx;rcases hx with rfl|rfl|rfl|rfl|rfl|rfl|rfl|rfl|rfl<;>rfl) wf.below.size (by simp only[maxLen];omega) (by omega) rfl rfl rfl ?_;intro v9 wa own9 ha;replace wf:=wf.app own.own ha (Nat.le_refl _);replace pl:=pl.app own.own ha;have ownJ:=ownI.own.app own.own ha;replace pks:=(pks.app own.own ha).add (q:=⟨x.aV,x.ba,acc,tx⟩) (u2:= .slice A0 j c0) (u3:= .int .i64 x.term.op) (u4:= .string (strOf x.term.name)) (u5:= .slice A1 x.term.exprs.length c1) (u6:= .slice A2 x.term.ar.length c2) hxl ⟨rfl,rfl,rfl,rfl,rfl⟩ ownJ hH1w;clear own ownI;have own:=own9.top;obtain⟨Ao2,co2,rfl,-⟩:=own.own.reads;clear own9 ha hrd;refine Za ?_;refine ed 0 6 11 16 17 18 34 35 36 37 (ab.ai (dU ?_));refine dt ?_;refine Zm ?_;refine ed 0 6 11 16 17 18 34 35 36 37 ?_;refine ab.round (k+1,out++[⟨x.aV,x.ba,acc,tx⟩],L', .slice Ao2 (out.length+1) co2,_,wa.heap.size) ⟨rfl,rfl,rfl,rfl,rfl,trivial⟩ ⟨by simp only;omega,by simp only[List.length_append,List.length_cons,List.length_nil];omega,by simp only;omega,hR,wf,pl,?_,pks⟩ (by simp only;omega);simp only[List.length_append,List.length_cons,List.length_nil];exact own
 ·obtain rfl:k=n:=by omega
  rw[←hn,List.drop_length,zR] at hR;subst hR;refine Cd.exit (ab.aA (ab.ay (ab.az (aB ?_))));refine Zm ?_;refine Za ?_;refine Za ?_;refine cn 0 4 5 6 16 17 18 19 (Zt (Cd.ret ?_));refine dO ?_;exact⟨_,rfl,wf,fun _ _ h=>by cases h;exact⟨pl,Ao,co,xs,rfl,own.own,pks.top⟩⟩
def Co (L:List (List Nat)):Prop:=∀t∈L,(∀d∈t,d<256)∧t.length≤4000
theorem Co.add {L:List (List Nat)}{s:List Nat}(h:Co L)(hs:(∀d∈s,d<256)∧s.length≤4000):Co (lF L s)∧(lF L s).length≤L.length+1:=by
 unfold lF;split
 ·exact⟨h,by omega⟩
 ·refine⟨fun t ht=> ?_,by simp⟩
  rcases List.mem_append.1 ht with ht|ht
  ·exact h t ht
  ·simp at ht;subst ht;exact hs
theorem Bl:∀(us:List Ex) (L:List (List Nat)) (acc pl:List Nat) (L':List (List Nat)),Co L→(∀n∈acc,n≤20000)→L.length+us.length≤20000→Dy L acc us=some (pl,L')→Co L'∧L'.length≤L.length+us.length∧pl.length=acc.length+us.length∧∀n∈pl,n≤20000
 | [],L,acc,pl,L',h,ha,hl,e=>by
  rw[Dy] at e
  cases e
  exact⟨h,by simp,by simp,ha⟩
 |u::r,L,acc,pl,L',h,ha,hl,e=>by
  rw[Dy] at e;split at e
  ·cases e
  ·rw[List.length_cons] at hl
   obtain⟨h1,h2⟩:=h.add (rQ u);have hx:L.idxOf (ij u).1≤L.length:=List.idxOf_le_length
   obtain⟨a,b,c,d⟩:=Bl r _ _ pl L' h1 (fun n hn=>by
    rcases List.mem_append.1 hn with hn|hn
    ·exact ha n hn
    ·simp at hn;omega) (by omega) e
   exact⟨a,by simp only[List.length_cons];omega,by simp only[List.length_append,List.length_cons,List.length_nil] at c⊢;omega,d⟩
theorem tN:∀(ps:List Pt) (L:List (List Nat)) (acc out:List Pk) (L':List (List Nat)),Co L→(∀q∈acc,q.ok)→(∀p∈ps,p.fD.length≤16∧bw p.aV)→L.length+16*ps.length≤20000→zR L acc ps=some (out,L')→Co L'∧L'.length≤L.length+16*ps.length∧out.length=acc.length+ps.length∧∀q∈out,q.ok
 | [],L,acc,out,L',h,ha,hp,hl,e=>by
  rw[zR] at e
  cases e
  exact⟨h,by simp,by simp,ha⟩
 |p::r,L,acc,out,L',h,ha,hp,hl,e=>by
  rw[zR] at e;rw[List.length_cons] at hl;obtain⟨hp1,hp2⟩:=hp p List.mem_cons_self;split at e
  ·cases e
  ·split at e
   ·cases e
   ·rename_i x hx
    obtain⟨pl,L1⟩:=x;obtain⟨h1,h2,h3,h4⟩:=Bl p.fD L [] pl L1 h (by simp) (by omega) hx;have htx:=BF p.term
    obtain⟨a,b,c,d⟩:=tN r L1 _ out L' h1 (fun q hq=>by
     rcases List.mem_append.1 hq with hq|hq
     ·exact ha q hq
     ·simp at hq
      subst hq;exact⟨hp2,fun n hn=>by have:=h4 n hn;omega,by simp only[List.length_nil] at h3;show pl.length≤1000;omega,htx.1,htx.2⟩) (fun q hq=>hp q (List.mem_cons_of_mem _ hq)) (by omega) e
    exact⟨a,by simp only[List.length_cons];omega,by simp only[List.length_append,List.length_cons,List.length_nil] at c⊢;omega,d⟩
theorem my.at {w:World}{B H n c:Nat}{A:Option Addr}{out:List Pk}{xs:List Value}(h:my w B H out xs)(ho:Own w B 118 9 (.slice A n c) out.length xs):Aw w w.heap.size out A:=fun i x hx=>by
 obtain⟨u2,u3,u4,u5,u6,A',c',e1,e2,e3,e4⟩:=h.el i x hx;obtain⟨A0,c0,hv,hrd⟩:=ho.reads;injection hv with hv1 _ _
 subst hv1;have hi:=(List.getElem?_eq_some_iff.1 hx).1;obtain⟨ad,rfl,hb,hc⟩:=hrd.2 (by omega);obtain⟨A1,c1,hv,hrp⟩:=e3.reads;injection hv with hv1 _ _
 subst hv1;exact⟨ad,u2,u3,u4,u5,u6,_,c',rfl,hb,hrp,e2,fun j u hj=>by rw[bK];exact hc _ _ (e1 j u hj)⟩
theorem Aw.below {w w':World}{B:Nat}{l:List Pk}{A:Option Addr}(h:Aw w B l A)(hb:Below B w w'):Aw w' B l A:=fun i x hx=>by
 obtain⟨ad,u2,u3,u4,u5,u6,A',c,e1,e2,e3,e4,e5⟩:=h i x hx;exact⟨ad,u2,u3,u4,u5,u6,A',c,e1,e2,e3.below hb,e4,fun j u hu=>(hb.cell (by rw[ag,ag];exact e2)).trans (e5 j u hu)⟩
theorem rZ:∀(ps:List Pt) (s:Nat),kP s ps=true→∀p∈ps,p.fD.length≤16
 | [],_,_,p,hp=>by cases hp
 |q::r,s,h,p,hp=>by
  rw[kP,Bool.and_eq_true,Bool.and_eq_true] at h;rcases List.mem_cons.1 hp with rfl|hp
  ·have:=h.1.1
   unfold Dw at this;simp only[Bool.and_eq_true,decide_eq_true_eq] at this;exact this.1.2
  ·exact rZ r _ h.2 p hp
theorem iz {k:Ct}(h:gM k=true):k.id.length≤16∧k.bc.length≤16∧k.writer.length≤16∧k.text.length≤4000∧(0≤k.born∧k.born≤2932896)∧(0≤k.ended∧k.ended≤2932896)∧(1≤k.state∧k.state≤3)∧∀p∈k.parts,p.fD.length≤16:=by
 have hn:∀ {l:List Nat},cI l=true→l.length≤16:=fun h=>by
  unfold cI at h;simp only[Bool.and_eq_true,decide_eq_true_eq] at h;exact h.1.1.2
 unfold gM yr at h;simp only[Bool.and_eq_true,decide_eq_true_eq] at h;obtain⟨⟨⟨⟨⟨⟨⟨⟨h1,h2⟩,h3⟩,h4⟩,h5⟩,h6⟩,h7⟩,h8⟩,h9⟩:=h;have h1':=h1;unfold fS at h1';simp only[Bool.and_eq_true,decide_eq_true_eq] at h1';refine⟨hn h3,hn h4,hn h5,(nq h1'.1).2,h7,h8,?_⟩;split at h9
 ·simp only[Bool.and_eq_true] at h9
  exact⟨by omega,rZ _ _ h9.2⟩
 ·split at h9
  ·refine⟨by omega,fun p hp=> ?_⟩
   simp only[decide_eq_true_eq,List.length_eq_zero_iff] at h9;rw[h9] at hp
   cases hp
  ·cases h9
def tk (k:Ct)(out:List Pk)(L:List (List Nat)):List Nat:=dw k.id++dw k.bc++dw k.writer++dw k.text++dS k.born.toNat++dS k.ended.toNat++dS k.state.toNat++(dS L.length++L.flatMap dw)++(dS out.length++out.flatMap Pk.bytes)
def iQ (k:Ct):List Nat × Int:=
 if gM k then match zR [] [] k.parts with
  |none=>([],4)
  |some x=>if 15000<(tk k x.1 x.2).length then([],4) else(tk k x.1 x.2,0)
 else([],1)
theorem qq (w:World):(Instr.build 111 #[]).run Tryz.prog w= .ok (.agg #[.slice none 0 0]) w:=by kernel_rfl
theorem qj (k:Ct)(B:Nat)(A:Option Addr)(c:Nat)(w:World)(hk:k.kh)(hv:gD w B k.parts A)(hB:B≤w.heap.size):Calls Tryz.prog 20 #[k.v A c] w fun en w'=>en= .returned (.tuple #[.string (strOf (iQ k).1), .int .i64 (iQ k).2])∧Grow w w':=by
 have bel:=Below.refl w.heap.size w;have hso:=fun W (hb:Below w.heap.size w W)=>sJ k B A c W hk (hv.below (hb.mono hB)) (Nat.le_trans hB hb.size);have hsays:= @iz k;unfold iQ;obtain⟨R,hR⟩:∃R,zR [] [] k.parts=R:=⟨_,rfl⟩;rw[hR]
 generalize gM k=so at hso hsays⊢
 unfold Ct.v at hso⊢;refine Zs 61 Tryz.func20 ?_;refine aj ?_;refine Seq.box rfl rfl rfl rfl rfl ?_;intro g1 w1 n1;have e1:=Nat.le_trans bel.size n1.ge;replace bel:=bel.step n1.below;have k1:=n1.ao;refine Za ?_;refine Za ?_;refine aZ 0 1 2 3 (aJ (aj ?_));refine ZW 8 Tryz.underlying52 k1 ?_;refine Zc (Ze Tryz.func21) (hso _ bel) ?_;rintro en w5 ⟨rfl,hb5⟩;refine⟨_,rfl,?_⟩;replace bel:=bel.step hb5;replace k1:=k1.step hb5;refine iC ?_;refine aU 0 1 2 3 10 (Zt ?_);refine Cd.cond rfl (fun hc=> ?_) (fun hc=> ?_)
 ·simp at hc
  subst hc;refine aj ?_;refine Za ?_;refine Za ?_;refine aU 0 1 2 3 10 (Zt (Cd.ret (ab.af ?_)));refine dO ?_;exact⟨rfl,bel⟩
 ·simp at hc
  subst hc;obtain⟨l1,l2,l3,l4,hbo,hen,hst,htil⟩:=hsays rfl;refine Cd.skip (aB ?_);refine Zv (aa.build rfl rfl (qq _)) ?_;refine Seq.box rfl rfl rfl rfl rfl ?_;intro g12 w2 n12;have e12:=Nat.le_trans bel.size n12.ge;have l12:=Nat.lt_of_lt_of_le k1.lt n12.ge;replace bel:=bel.step n12.below;replace k1:=k1.step n12.below;have k12:=n12.ao;refine Za ?_;refine bl 0 1 2 3 4 10 (aB ?_);refine Zm ?_;refine Zf 7 Tryz.underlying52 ?_;refine ZL Tryz.underlying50 k1 ?_;have hg12:g12≤w2.heap.size:=Nat.le_of_lt k12.lt;have k1:aH w2 g1 52 #[.string (strOf k.id), .string (strOf k.bc), .string (strOf k.writer), .string (strOf k.text), .int .i64 k.born, .int .i64 k.ended, .int .i64 k.state, .slice A k.parts.length c]:=k1;have pl0:Pl w2 g12 g12 []:=⟨Nat.le_refl _,(fun t ht=>by cases ht),_,k12,Own.nil _ _ _ _⟩;refine Zc (Ze Tryz.func55) (Bu g12 g12 c B A k.parts _ pl0 (hv.below (bel.mono hB)) (by omega) hk.parts htil hk.flat) ?_;rw[hR];rintro en w6 ⟨v,rfl,pf6,hpk⟩;refine⟨_,rfl,?_⟩;replace k1:=k1.pf pf6;have bel6:=bel.trans ((pf6.to hg12).mono e12);clear bel k12 pl0;have bel:=bel6
  have hfac:∀p∈k.parts,p.fD.length≤16∧bw p.aV:=fun p hp=>by
   obtain⟨i,hi⟩:=List.getElem?_of_mem hp;obtain⟨_,_,_,_,_,_,_,_,_,hrx,_⟩:=hv i p hi;exact⟨htil p hp,hrx.sU⟩
  have hparts:=hk.parts;rcases R with _|⟨out,L⟩
  ·skip
   refine Zm ?_;refine Zx ?_;refine Zx ?_;refine Za ?_;refine Za ?_;refine cn 0 1 2 3 4 5 6 10 (aJ (aj ?_));refine Zm ?_;refine iC ?_;refine du 0 1 2 3 4 5 6 10 21 (Zt ?_);refine Cd.aY rfl rfl ?_;refine aj ?_;refine Za ?_;refine Za ?_;refine du 0 1 2 3 4 5 6 10 21 (Zt (Cd.ret (ab.af ?_)));refine dO ?_;exact⟨rfl,bel⟩
  obtain⟨hL,hLl,hol,hok⟩:=tN k.parts [] [] out L (by intro t ht;cases ht) (by simp) hfac (by simp only[List.length_nil];omega) hR;obtain⟨pl,A',c',xs,rfl,own,pks⟩:=hpk out L rfl;have pkat:=pks.at own;obtain⟨vl,k12,ownL⟩:=pl.cell;obtain⟨AL,cL,rfl,hrdL⟩:=ownL.reads;refine Zm ?_;refine Zx ?_;refine Zx ?_;refine Za ?_;refine Za ?_;refine cn 0 1 2 3 4 5 6 10 (aJ (aj ?_));refine Zm ?_;refine iC ?_;refine du 0 1 2 3 4 5 6 10 21 (Zt ?_);refine Cd.aS rfl rfl ?_;refine Cd.skip (aB ?_);refine Zv (aa.build rfl rfl (lT _)) ?_;refine Seq.box rfl rfl rfl rfl rfl ?_;intro g23 w3 n23;have e23:=Nat.le_trans bel.size n23.ge;have l23:=Nat.lt_of_lt_of_le k12.lt n23.ge;have l23_k1:=Nat.lt_of_lt_of_le k1.lt n23.ge;replace bel:=bel.step n23.below;replace k1:=k1.step n23.below;replace k12:=k12.step n23.below;have k23:=n23.ao;refine Za ?_;refine ed 0 1 2 3 4 5 6 7 10 21 (aJ ?_);obtain⟨nb,hnb⟩:∃nb:Nat,k.born=(nb:Int):=⟨k.born.toNat,by omega⟩;obtain⟨ne,hne⟩:∃ne:Nat,k.ended=(ne:Int):=⟨k.ended.toNat,by omega⟩;obtain⟨ns,hns⟩:∃ns:Nat,k.state=(ns:Int):=⟨k.state.toNat,by omega⟩;have hct:tk k out L=dw k.id++dw k.bc++dw k.writer++dw k.text++dS nb++dS ne++dS ns++(dS L.length++L.flatMap dw)++(dS out.length++out.flatMap Pk.bytes):=by unfold tk;rw[hnb,hne,hns];rfl
  rw[hnb,hne,hns] at k1;have z1:=gE k.id;have z2:=gE k.bc;have z3:=gE k.writer;have z4:=gE k.text;have z5:=cf nb;have z6:=cf ne;have z7:=cf ns;have z8:=cf L.length;have z9:=iA dw 4010 (l:=L) (fun t ht=>by have:=gE t;have:=(hL t ht).2;omega);simp only[List.length_nil,Nat.zero_add] at hLl hol;have hg23:g23≤w3.heap.size:=Nat.le_of_lt n23.lt;have h6:w6.heap.size≤g23:=n23.ge;have hrd3:=hrdL.below n23.below;have pk3:=pkat.below n23.below;have wr:Wr _ g23 g23 []:=⟨Nat.le_refl _,fun d hd=>(by cases hd),_,k23,Own.nil _ _ _ _⟩;have wf:=Wf.refl g23 w3;refine Cd.yb 22 (by kernel_rfl) [] [3,6,9,12,15,18,21] (fun i h=>by cases h) rfl rfl (.inl rfl) rfl (Wf g23) (Wf.refl g23) (fun _ _ _=>Wf.trans) (fun c w=>Wr w g23 g23 (gJ [] [[],dw k.id,dw k.id++dw k.bc,dw k.id++dw k.bc++dw k.writer,dw k.id++dw k.bc++dw k.writer++dw k.text,dw k.id++dw k.bc++dw k.writer++dw k.text++dS nb,dw k.id++dw k.bc++dw k.writer++dw k.text++dS nb++dS ne,dw k.id++dw k.bc++dw k.writer++dw k.text++dS nb++dS ne++dS ns] c)) ?_;intro w4 hw4 zw4;replace k1:=k1.step hw4;replace k12:=k12.step hw4;replace wf:=wf.step hw4;replace wr:=wr.step hw4;refine⟨wr,?_⟩;have zlt:=k12.lt;refine DJ.val rfl (Wf.refl g23) rfl (fun w hG=>aa.move rfl rfl) rfl ?_;refine DJ.val rfl (Wf.refl g23) rfl (fun w hG=>aa.ak 0 rfl rfl Tryz.underlying52 rfl (by kernel_rfl)) rfl ?_;refine DJ.val rfl (Wf.refl g23) rfl (fun w hG=>aa.an rfl rfl Tryz.underlying9 rfl (k1.wf hG) rfl) rfl ?_;refine DJ.chain 0 rfl rfl (fun w=>Ze Tryz.func31) rfl (fun w hG wr=>eE g23 g23 k.id [] _ wr hk.id (by show 0+10+k.id.length≤1000000000;omega)) ?_;refine DJ.val rfl (Wf.refl g23) rfl (fun w hG=>aa.ak 1 rfl rfl Tryz.underlying52 rfl (by kernel_rfl)) rfl ?_;refine DJ.val rfl (Wf.refl g23) rfl (fun w hG=>aa.an rfl rfl Tryz.underlying9 rfl (k1.wf hG) rfl) rfl ?_;refine DJ.chain 1 rfl rfl (fun w=>Ze Tryz.func31) rfl (fun w hG wr=>eE g23 g23 k.bc _ _ wr hk.bc (by first|omega|(simp only[gJ,List.length_append];omega)|(simp only[gJ];omega))) ?_;refine DJ.val rfl (Wf.refl g23) rfl (fun w hG=>aa.ak 2 rfl rfl Tryz.underlying52 rfl (by kernel_rfl)) rfl ?_;refine DJ.val rfl (Wf.refl g23) rfl (fun w hG=>aa.an rfl rfl Tryz.underlying9 rfl (k1.wf hG) rfl) rfl ?_;refine DJ.chain 2 rfl rfl (fun w=>Ze Tryz.func31) rfl (fun w hG wr=>eE g23 g23 k.writer _ _ wr hk.writer (by first|omega|(simp only[gJ,List.length_append];omega)|(simp only[gJ];omega))) ?_;refine DJ.val rfl (Wf.refl g23) rfl (fun w hG=>aa.ak 3 rfl rfl Tryz.underlying52 rfl (by kernel_rfl)) rfl ?_;refine DJ.val rfl (Wf.refl g23) rfl (fun w hG=>aa.an rfl rfl Tryz.underlying9 rfl (k1.wf hG) rfl) rfl ?_;refine DJ.chain 3 rfl rfl (fun w=>Ze Tryz.func31) rfl (fun w hG wr=>eE g23 g23 k.text _ _ wr hk.text (by first|omega|(simp only[gJ,List.length_append];omega)|(simp only[gJ];omega))) ?_;refine DJ.val rfl (Wf.refl g23) rfl (fun w hG=>aa.ak 4 rfl rfl Tryz.underlying52 rfl (by kernel_rfl)) rfl ?_;refine DJ.val rfl (Wf.refl g23) rfl (fun w hG=>aa.an rfl rfl Tryz.underlying3 rfl (k1.wf hG) rfl) rfl ?_;refine DJ.chain 4 rfl rfl (fun w=>Ze Tryz.func30) rfl (fun w hG wr=>dn g23 g23 nb _ _ wr (by omega) (by first|omega|(simp only[gJ,List.length_append];omega)|(simp only[gJ];omega))) ?_;refine DJ.val rfl (Wf.refl g23) rfl (fun w hG=>aa.ak 5 rfl rfl Tryz.underlying52 rfl (by kernel_rfl)) rfl ?_;refine DJ.val rfl (Wf.refl g23) rfl (fun w hG=>aa.an rfl rfl Tryz.underlying3 rfl (k1.wf hG) rfl) rfl ?_;refine DJ.chain 5 rfl rfl (fun w=>Ze Tryz.func30) rfl (fun w hG wr=>dn g23 g23 ne _ _ wr (by omega) (by first|omega|(simp only[gJ,List.length_append];omega)|(simp only[gJ];omega))) ?_;refine DJ.val rfl (Wf.refl g23) rfl (fun w hG=>aa.ak 6 rfl rfl Tryz.underlying52 rfl (by kernel_rfl)) rfl ?_;refine DJ.val rfl (Wf.refl g23) rfl (fun w hG=>aa.an rfl rfl Tryz.underlying3 rfl (k1.wf hG) rfl) rfl ?_;refine DJ.chain 6 rfl rfl (fun w=>Ze Tryz.func30) rfl (fun w hG wr=>dn g23 g23 ns _ _ wr (by omega) (by first|omega|(simp only[gJ,List.length_append];omega)|(simp only[gJ];omega))) ?_;refine DJ.nil ?_;refine br.done (F':=[(0,_),(1,_),(2,_),(3,_),(4,_),(5,_),(6,_),(7,_),(10,_),(21,_)]) rfl ⟨rfl,rfl,rfl,rfl,rfl,rfl,rfl,rfl,rfl,rfl,trivial⟩ ?_;intro w5 hw5 fw5;replace k1:=k1.wf hw5;replace k12:=k12.wf hw5;replace wf:=wf.wf hw5;clear wr;have wr:=fw5;refine ed 0 1 2 3 4 5 6 7 10 21 (aB ?_);refine Zm ?_;refine Zm ?_;refine Zv (aa.nilCheck rfl rfl) ?_;refine Zf 0 Tryz.underlying111 ?_;refine ZL Tryz.underlying66 k12 ?_;replace wr:Wr _ g23 g23 (dw k.id++dw k.bc++dw k.writer++dw k.text++dS nb++dS ne++dS ns):=wr;refine Zc (Ze Tryz.func56) (tv g23 g23 _ cL AL L _ _ wr (hrd3.below ((wf.to hg23).mono h6)) h6 hL (by omega) (by simp only[List.length_append];omega)) ?_;clear wr;rintro e w6 ⟨rfl,fw6,wr⟩;refine⟨_,rfl,?_⟩;replace k1:=k1.wf fw6;replace k12:=k12.wf fw6;replace wf:=wf.wf fw6;refine ed 0 1 2 3 4 5 6 7 10 21 (aB ?_);refine Zm ?_;refine Zm ?_;refine Zc (Ze Tryz.func57) (zY g23 g23 _ c' A' out _ _ wr (pk3.below ((wf.to hg23).mono h6)) h6 hok (by omega) (by simp only[List.length_append];omega)) ?_;clear wr;rintro e w7 ⟨rfl,fw7,wr⟩;refine⟨_,rfl,?_⟩;replace k1:=k1.wf fw7;replace k12:=k12.wf fw7;replace wf:=wf.wf fw7;rw[←hct] at wr;have bel2:=bel.trans ((wf.to hg23).mono e23);clear bel;have bel:=bel2;refine ed 0 1 2 3 4 5 6 7 10 21 (aJ (aj ?_));refine Zm ?_;refine Zc (Ze Tryz.func33) (mh g23 g23 _ _ wr) ?_;rintro en w15 ⟨rfl,hb15⟩;refine⟨_,rfl,?_⟩;replace wr:=wr.step hb15;replace bel:=bel.step hb15;refine Zv (aa.eB rfl rfl Tryz.underlying9) ?_;refine tU ?_;refine bT 0 1 2 3 4 5 6 7 10 21 58 (Zt ?_);refine Cd.au rfl (fun hc=> ?_) (fun hc=> ?_)
  ·skip
   refine aj ?_;refine Za ?_;refine Za ?_;refine bT 0 1 2 3 4 5 6 7 10 21 58 (Zt (Cd.ret (ab.af ?_)));refine dO ?_
   have hr:(if true=true then(match some (out,L) with|none=>(([],4):List Nat × Int)|some x=>if 15000<(tk k x.1 x.2).length then([],4) else(tk k x.1 x.2,0)) else([],1))=([],4):=by
    rw[if_pos rfl];exact if_pos (show 15000<(tk k out L).length by omega)
   refine⟨yC (Eq.trans ?_ (congrArg (fun z:List Nat × Int=>Value.string (strOf z.1)) hr.symm)) (congrArg (fun z:List Nat × Int=>Value.int .i64 z.2) hr.symm),bel⟩;rfl
  ·skip
   refine Cd.skip (aB ?_);refine Zm ?_;refine Zc (Ze Tryz.func33) (mh g23 g23 _ _ wr) ?_;rintro en w16 ⟨rfl,hb16⟩;refine⟨_,rfl,?_⟩;replace wr:=wr.step hb16;replace bel:=bel.step hb16;refine Za ?_;refine Za ?_;refine bT 0 1 2 3 4 5 6 7 10 21 58 (Zt (Cd.ret ?_));refine dO ?_
   have hr:(if true=true then(match some (out,L) with|none=>(([],4):List Nat × Int)|some x=>if 15000<(tk k x.1 x.2).length then([],4) else(tk k x.1 x.2,0)) else([],1))=(tk k out L,0):=by
    rw[if_pos rfl];exact if_neg (show¬15000<(tk k out L).length by omega)
   refine⟨yC (Eq.trans ?_ (congrArg (fun z:List Nat × Int=>Value.string (strOf z.1)) hr.symm)) (congrArg (fun z:List Nat × Int=>Value.int .i64 z.2) hr.symm),bel⟩;rfl
theorem uD (l:List Nat):(gh l).1.depth≤900:=by
 have hz:mj.depth≤900:=by decide
 unfold gh;split
 ·exact hz
 ·cases lM (bb l).1 with
  |ok x q=>
   dsimp only;split
   ·rename_i hx
    unfold dc at hx;simp only[Bool.and_eq_true,decide_eq_true_eq] at hx;show x.depth≤900;omega
   ·exact hz
  |bad p o=>exact hz
  |out=>exact hz
structure DF (lo hi:Nat)(S:Nat→Prop)(x:Ex)(v:Value)(W:World):Prop where
 rep:cr W S x v
 bd:∀b,S b→lo≤b∧b<hi
 eV:hi≤W.heap.size
theorem DF.step {lo hi:Nat}{S:Nat→Prop}{x:Ex}{v:Value}{W W':World}(r:DF lo hi S x v W)(h:Below W.heap.size W W'):DF lo hi S x v W':=
 ⟨r.rep.mono (fun _ h=>h) (fun a ha=>h.cell (Nat.lt_of_lt_of_le (r.bd _ ha).2 r.eV)),r.bd,Nat.le_trans r.eV h.size⟩
theorem DF.put {lo hi g:Nat}{T:TypeId}{cur cs:Array Value}{S:Nat→Prop}{x:Ex}{v:Value}{W W':World}(r:DF lo hi S x v W)(_k:aH W g T cur)(p:hZ W W' g T cs){E:Prop}(_e:E)(hne:g<lo∨hi≤g:=by omega):DF lo hi S x v W':=
 ⟨r.rep.mono (fun _ h=>h) (fun a ha=>World.cell?_of_block (p.grown.block _ (Nat.lt_of_lt_of_le (r.bd _ ha).2 r.eV) (fun e=>by injection e with e;have:=r.bd _ ha;omega))),r.bd,Nat.le_trans r.eV (Nat.le_of_eq p.size.symm)⟩
structure vQ (w:World)(B H:Nat)(es:List Ex)(vs:List Value)(v:Value)(S:Nat→Prop):Prop where
 len:vs.length=es.length
 own:Own w B 105 4 v es.length (ax vs)
 rep:∀(i:Nat) (e:Ex) (u:Value),es[i]? =some e→vs[i]? =some u→cr w S e u
 gK:∀b,S b→B≤b∧b<H∧v.ownBlock≠some b
 bd:∀b,v.ownBlock=some b→b<H
 hi:H≤w.heap.size
theorem vQ.bN {w w':World}{B H:Nat}{es:List Ex}{vs:List Value}{v:Value}{S:Nat→Prop}(h:vQ w B H es vs v S)(hs:w.heap.size≤w'.heap.size)(hb:∀b,B≤b→b<H→w'.heap[b]? =w.heap[b]?):vQ w' B H es vs v S:=
 ⟨h.len,h.own.fP hs fun b e=>hb b (h.own.aI b e).1 (h.bd b e),fun i e u h1 h2=>(h.rep i e u h1 h2).mono (fun _ h=>h) (fun p hp=>World.cell?_of_block (hb _ (h.gK _ hp).1 (h.gK _ hp).2.1)),h.gK,h.bd,Nat.le_trans h.hi hs⟩
theorem vQ.step {w w':World}{B H:Nat}{es:List Ex}{vs:List Value}{v:Value}{S:Nat→Prop}(h:vQ w B H es vs v S)(hb:Below w.heap.size w w'):vQ w' B H es vs v S:=h.bN hb.size fun b _ h2=>hb.block b (Nat.lt_of_lt_of_le h2 h.hi)
theorem vQ.put {w w':World}{B H g B':Nat}{T:TypeId}{cur cs:Array Value}{es:List Ex}{vs:List Value}{v:Value}{S:Nat→Prop}(h:vQ w B H es vs v S)(_k:aH w g T cur)(p:hZ w w' g T cs)(_e:B'≤g)(hne:H≤g:=by omega):vQ w' B H es vs v S:=h.bN (Nat.le_of_eq p.size.symm) fun b _ h2=>p.grown.block b (Nat.lt_of_lt_of_le h2 h.hi) (fun e=>by injection e with e;omega)
theorem vQ.add {w w':World}{B H lo hi:Nat}{es:List Ex}{vs:List Value}{v v' u:Value}{S S':Nat→Prop}{x:Ex}(h:vQ w B H es vs v S)(r:DF lo hi S' x u w)(hlo:H≤lo)(hBH:B≤H)(ho:Own w' B 105 4 v' (es.length+1) (ax vs++u.cells.toList))(ha:App w w' B v)(hv:v'.ownBlock=v.ownBlock∨v'.ownBlock=some w.heap.size):vQ w' B w'.heap.size (es++[x]) (vs++[u]) v' (fun b=>S b∨S' b):=by
 have hne:∀b,S b∨S' b→B≤b∧b<w.heap.size∧v.ownBlock≠some b:=fun b hb=>by
  rcases hb with hb|hb
  ·have:=h.gK b hb
   exact⟨this.1,Nat.lt_of_lt_of_le this.2.1 h.hi,this.2.2⟩
  ·have:=r.bd b hb
   exact⟨by omega,Nat.lt_of_lt_of_le this.2 r.eV,fun e=>by have:=h.bd b e;omega⟩
 have hc:∀p:Addr,(S p.block∨S' p.block)→w'.cell? p=w.cell? p:=fun p hp=>World.cell?_of_block (ha.grown.block _ (hne _ hp).2.1 (fun e=>(hne _ hp).2.2 e.symm));have hsz:=ha.below.size;refine⟨by simp[h.len],?_,fun i e u' h1 h2=> ?_,fun b hb=>⟨(hne b hb).1,Nat.lt_of_lt_of_le (hne b hb).2.1 hsz,fun e=> ?_⟩,fun b e=>(ho.aI b e).2,Nat.le_refl _⟩
 ·have hf:ax (vs++[u])=ax vs++u.cells.toList:=by rw[bO];simp[ax]
  rw[hf,List.length_append];exact ho
 ·rcases Nat.lt_or_ge i es.length with hi|hi
  ·rw[List.getElem?_append_left hi] at h1
   rw[List.getElem?_append_left (by rw[h.len];exact hi)] at h2;exact(h.rep i e u' h1 h2).mono (fun _ h=> .inl h) (fun p hp=>hc p (.inl hp))
  ·rw[List.getElem?_append_right hi] at h1
   rw[List.getElem?_append_right (by rw[h.len];exact hi),h.len] at h2
   have h0:i-es.length=0:=by
    have:=(List.getElem?_eq_some_iff.1 h1).1;simp at this;exact this
   rw[h0] at h1 h2;injection h1 with h1
   injection h2 with h2
   subst h1 h2;exact r.rep.mono (fun _ h=> .inr h) (fun p hp=>hc p (.inr hp))
 ·rcases hv with e'|e'
  ·exact(hne b hb).2.2 (by rw[←e',e])
  ·rw[e'] at e
   injection e with e
   have:=(hne b hb).2.1;omega
def tW (w:World)(S:Nat→Prop)(es:List Ex)(A:Option Addr):Prop:=∀i x,es[i]? =some x→∃ad A' c',A=some ad∧S ad.block∧cr w S x (.agg #[.int .i64 x.op, .int .i64 x.n, .string (strOf x.name), .slice A' x.args.length c'])∧∀(j:Nat) (u:Value),([.int .i64 x.op, .int .i64 x.n, .string (strOf x.name), .slice A' x.args.length c']:List Value)[j]? =some u→w.cell? ((ad.add (i*4)).add j)=some u
theorem tW.mono {w w':World}{S S':Nat→Prop}{es:List Ex}{A:Option Addr}(h:tW w S es A)(hS:∀b,S b→S' b)(hc:∀p:Addr,S p.block→w'.cell? p=w.cell? p):tW w' S' es A:=fun i x hx=>by
 obtain⟨ad,A',c',e1,e2,e3,e4⟩:=h i x hx;exact⟨ad,A',c',e1,hS _ e2,e3.mono hS hc,fun j u hu=>(hc _ (by rw[ag,ag];exact e2)).trans (e4 j u hu)⟩
theorem tW.at {w:World}{S:Nat→Prop}{B:Nat}{es:List Ex}{A:Option Addr}(h:tW w S es A)(hS:∀b,S b→b<B):oJ w B es A:=h.mono (S':=(· <B)) hS (fun _ _=>rfl)
theorem tK {w:World}{S:Nat→Prop}{es:List Ex}{vs:List Value}{A:Option Addr}(hl:vs.length=es.length)(hr:∀(i:Nat) (e:Ex) (v:Value),es[i]? =some e→vs[i]? =some v→cr w S e v)(hA:Rows w S A (ax vs)):tW w S es A:=fun i x hx=>by
 have hi:=(List.getElem?_eq_some_iff.1 hx).1;obtain⟨v,hv⟩:∃v,vs[i]? =some v:=⟨_,List.getElem?_eq_getElem (by omega)⟩;have hrx:=hr i x v hx hv
 have h4:∀y∈vs,y.cells.size=4:=fun y hy=>by
  obtain⟨k,hk,rfl⟩:=List.getElem_of_mem hy;obtain⟨z,hz⟩:∃z,es[k]? =some z:=⟨_,List.getElem?_eq_getElem (by omega)⟩;exact(hr k z _ hz (List.getElem?_eq_getElem hk)).kN
 obtain⟨A',c',rfl⟩:=hrx.form;have hne:ax vs≠ []:=fun h0=>by have:=dV h4 hv 0 _ rfl;rw[h0] at this;cases this
 obtain⟨ad,rfl,hb,hc⟩:=hA hne;exact⟨ad,A',c',rfl,hb,hrx,fun j u hu=>by rw[bK];exact hc _ _ (dV h4 hv j u (by simpa[Value.cells] using hu))⟩
theorem vQ.at {w:World}{B H n c:Nat}{es:List Ex}{vs:List Value}{A:Option Addr}{S:Nat→Prop}(h:vQ w B H es vs (.slice A n c) S):tW w (fun b=>B≤b∧b<w.heap.size) es A:=by
 refine tK h.len (fun i e u h1 h2=>(h.rep i e u h1 h2).mono (fun b hb=>⟨(h.gK b hb).1,Nat.lt_of_lt_of_le (h.gK b hb).2.1 h.hi⟩) (fun _ _=>rfl)) fun hne=> ?_;obtain⟨A0,c0,hv,hrd⟩:=h.own.reads;injection hv with hv1 _ _
 subst hv1
 have h0:0<es.length:=by
  rcases Nat.eq_zero_or_pos es.length with h0|h0
  ·have:=h.len
   rw[h0,List.length_eq_zero_iff] at this;rw[this] at hne;exact absurd rfl hne
  ·exact h0
 obtain⟨ad,e1,e2,e3⟩:=hrd.2 h0;exact⟨ad,e1,⟨(h.own.aI ad.block (by rw[e1];rfl)).1,e2⟩,e3⟩
def lZ:List Ex→List (List Nat)→Option (List Ex)
 |acc,[]=>some acc
 |acc,s::r=>if(gh s).2.2≠0 then none else lZ (acc++[(gh s).1]) r
theorem wD (B c:Nat)(A:Option Addr)(l:List (List Nat))(w:World)(hr:Reads w B 1 A l.length (DS l))(hB:B≤w.heap.size)(hl:∀s∈l,(∀d∈s,d<256)∧s.length≤9223372036854775807)(dX:l.length≤20000):
  Calls Tryz.prog 67 #[.slice A l.length c] w fun en w'=>Below w.heap.size w w'∧∃A' c',en= .returned (.tuple #[.slice A' ((lZ [] l).getD []).length c', .bool (lZ [] l).isSome])∧tW w' (fun b=>w.heap.size≤b∧b<w'.heap.size) ((lZ [] l).getD []) A':=by
 have bel:=Below.refl w.heap.size w;obtain⟨R,hR⟩:∃R,lZ [] l=R:=⟨_,rfl⟩;rw[hR];obtain⟨n,hn⟩:∃n,l.length=n:=⟨_,rfl⟩;rw[hn] at dX hr⊢;have ex:vQ w w.heap.size w.heap.size [] [] (.slice none 0 0) (fun _=>False):=⟨rfl,Own.nil _ _ _ _,(fun i e u h=>by cases h),(fun b h=>h.elim),(fun b h=>by cases h),Nat.le_refl _⟩;refine Zs 30 Tryz.func67 ?_;refine aj ?_;refine Za ?_;refine Za ?_;refine bu 0 2 3 (aB ?_);refine Za ?_;refine aZ 0 2 3 4 (aJ (aj ?_));refine Zm ?_;refine Zv (aa.len rfl rfl Tryz.underlying66) ?_;refine Zm ?_;refine bp 0 2 3 4 10 11 12 (Zt (Cd.block ?_))
 refine Cd.loop (σ:=Nat × List Ex × List Value × Value × (Nat→Prop) × Nat) (fun s=>[(4,s.2.2.2.1),(10, .slice A n c),(11, .int .i64 (n:Int)),(12, .int .i64 (s.1:Int))])
  (fun s wr=>s.1≤n∧s.2.1.length=s.1∧lZ s.2.1 (l.drop s.1)=R∧Below w.heap.size w wr∧vQ wr w.heap.size s.2.2.2.2.2 s.2.1 s.2.2.1 s.2.2.2.1 s.2.2.2.2.1∧w.heap.size≤s.2.2.2.2.2) (fun s=>n-s.1) (0,[],[], .slice none 0 0,(fun _=>False),w.heap.size) ⟨Nat.zero_le _,rfl,hR,bel,ex,Nat.le_refl _⟩ ⟨rfl,rfl,rfl,rfl,trivial⟩ ?_
 clear bel ex;clear hR;rintro⟨k,es,vs,vo,S,H⟩ wr ⟨hk,hel,hR,bel,ex,hwH⟩;simp only at hk hel hR ex hwH;obtain⟨Ao,co,rfl,-⟩:=ex.own.reads;show Cd _ _ _ _ [(4, .slice Ao es.length co),(10, .slice A n c),(11, .int .i64 (n:Int)),(12, .int .i64 (k:Int))] _;refine aj ?_;refine ff ?_;refine aU 4 10 11 12 13 (aJ ?_);refine Cd.au rfl (fun hc=> ?_) (fun hc=> ?_)
 ·obtain⟨s,hs⟩:∃s,l[k]? =some s:=⟨_,List.getElem?_eq_getElem (show k<l.length by omega)⟩
  obtain⟨ad,rfl,hbl,hcl⟩:=hr.2 (by omega);have hcl:=((bel.mono hB).cell (p:=ad.add k) (by rw[ag];exact hbl)).trans (hcl k (.string (strOf s)) (by simp[DS,hs]));obtain⟨hs1,hs2⟩:=hl s (List.mem_of_getElem? hs)
  have hdrop:l.drop k=s::l.drop (k+1):=by
   rw[List.drop_eq_getElem_cons (show k<l.length by omega)];congr 1;obtain⟨_,he⟩:=List.getElem?_eq_some_iff.1 hs;exact he
  rw[hdrop,lZ] at hR;have hps:=fun W=>rA s W hs1 (by omega)
  generalize gh s=px at hps hR
  obtain⟨x,pq,pz⟩:=px;simp only at hps hR;have hH:=ex.hi;refine Cd.skip (aJ (Cd.block (aj ?_)));refine Zv (aa.dg rfl rfl rfl Tryz.underlying66 (by kernel_rfl) (j:=k) rfl (by omega)) ?_;refine Zv (aa.dF rfl rfl Tryz.underlying9 rfl hcl) ?_;refine Za ?_;refine bl 4 6 10 11 12 13 (aB ?_);refine Zm ?_;refine Zc (Ze Tryz.func115) (hps _) ?_;rintro en w5 ⟨hb5,v,S5,rfl,hrep,hS⟩;obtain⟨A1,c1,hvX⟩:=hrep.form;subst hvX;refine⟨_,rfl,?_⟩;replace bel:=bel.step hb5;replace ex:=ex.step hb5;have rs:DF _ w5.heap.size S5 x (.agg #[.int .i64 x.op, .int .i64 x.n, .string (strOf x.name), .slice A1 x.args.length c1]) w5:=⟨hrep,hS,Nat.le_refl _⟩;have h5:=hb5.size;refine Zm ?_;refine Zx ?_;refine Zx ?_;refine Zx ?_;refine Zl aw ?_;intro g7 w1 n7;have q7:=n7.ge;have e7:=Nat.le_trans bel.size n7.ge;replace bel:=bel.step n7.below;replace ex:=ex.step n7.below;replace rs:=rs.step n7.below;have k7:=n7.ao;refine Zo 4 k7 ?_;intro w2 pw2;replace bel:=bel.put k7 pw2 e7;replace ex:=ex.put k7 pw2 e7;replace rs:=rs.put k7 pw2 e7;replace k7:=pw2.ao;have k7:aH _ g7 105 #[.int .i64 x.op, .int .i64 x.n, .string (strOf x.name), .slice A1 x.args.length c1]:=k7;refine Za ?_;refine Za ?_;refine cn 4 6 7 9 10 11 12 13 (aJ (aj ?_));refine Zm ?_;refine kL ?_;refine du 4 6 7 9 10 11 12 13 23 (Zt ?_);refine Cd.au rfl (fun hc=> ?_) (fun hc=> ?_)
  ·rw[if_pos hc] at hR
   subst hR;refine aj ?_;refine Za ?_;refine Za ?_;refine bT 2 3 4 6 7 9 10 11 12 13 23 (Zt (Cd.ret (ab.af (ab.ah (ab.af (ab.aL (ab.ah (ab.af ?_))))))));refine dO ?_;exact⟨bel,none,0,rfl,fun i x hx=>by cases hx⟩
  ·rw[if_neg hc] at hR
   refine Cd.skip (dU ?_);refine Zm ?_;refine ZW 4 Tryz.underlying105 k7 ?_;refine Seq.slice (vs:=[_]) (s:=4) rfl rfl rfl Tryz.underlying68 (by kernel_rfl) (aw) (by omega) (by omega) ⟨rfl,trivial⟩ rfl rfl rfl ?_;intro g26 w3 n26;have q26:=n26.ge;have e26:=Nat.le_trans bel.size n26.ge;have l26:=Nat.lt_of_lt_of_le k7.lt n26.ge;replace bel:=bel.step n26.below;replace ex:=ex.step n26.below;replace rs:=rs.step n26.below;replace k7:=k7.step n26.below;have k26:=n26.ao;have hrd:=Reads.ao (size:=4) k26 1 rfl;refine Seq.eI rfl rfl rfl Tryz.underlying68 (by kernel_rfl) aw rfl (by decide) (b:=56) (by kernel_rfl) ex.own hrd (by intro x hx;simp[ax,Value.cells] at hx;rcases hx with rfl|rfl|rfl|rfl<;>rfl) bel.size (by simp only[maxLen];omega) (by omega) rfl rfl rfl ?_;intro v9 wa own9 ha hv9;have ex2:=ex.add rs (Nat.le_trans hH (Nat.le_refl _)) hwH own9 ha hv9;replace bel:=bel.trans ha.below;clear ex;obtain⟨Ao2,co2,rfl,-⟩:=own9.reads;clear own9 ha hrd hv9;refine Za ?_;refine du 4 6 7 9 10 11 12 13 23 (ab.ai (dU ?_));refine dt ?_;refine Zm ?_;refine du 4 6 7 9 10 11 12 13 23 ?_;refine ab.round (k+1,es++[x],_, .slice Ao2 (es.length+1) co2,_,wa.heap.size) ⟨rfl,rfl,rfl,rfl,trivial⟩ ⟨by simp only;omega,by simp only[List.length_append,List.length_cons,List.length_nil];omega,hR,bel,ex2,bel.size⟩ (by simp only;omega)
 ·obtain rfl:k=n:=by omega
  rw[←hn,List.drop_length,lZ] at hR;subst hR;refine Cd.exit (ab.aA (ab.ay (ab.az (aB ?_))));refine Zm ?_;refine Za ?_;refine Za ?_;refine bp 2 3 4 10 11 12 13 (Zt (Cd.ret ?_));refine dO ?_;exact⟨bel,Ao,co,rfl,ex.at⟩
theorem ny {a b:Int}(h:a=b):some (Value.int .i64 a)=some (Value.int .i64 b):=by rw[h]
def oH (s:List Nat):Prop:=∀d∈s,d<256
theorem oH.drop {s:List Nat}(h:oH s)(k:Nat):oH (s.drop k):=fun d hd=>h d (List.mem_of_mem_drop hd)
theorem oH.take {s:List Nat}(h:oH s)(k:Nat):oH (s.take k):=fun d hd=>h d (List.mem_of_mem_take hd)
theorem oH.tail {c:Nat}{s:List Nat}(h:oH (c::s)):oH s:=fun d hd=>h d (List.mem_cons_of_mem _ hd)
def gr:Nat→Nat→List Nat→Option (Nat × List Nat)
 |_,_,[]=>none
 |i,n,c::r=>if(i=9∧1<c)∨(0<i∧c=0) then none else if c<128 then some (n+c%128*2^(7*i),r) else gr (i+1) (n+c%128*2^(7*i)) r
def gP (s:List Nat):Option (Nat × List Nat):=gr 0 0 s
theorem Eh (i:Nat):2^(7*(i+1))=2^(7*i)*128:=by rw[Nat.mul_add,Nat.pow_add]
theorem xP:∀(k i n m:Nat) (r:List Nat),i+k=9→m<2*128^k→(0<i→0<m)→gr i n (kd k m++r)=some (n+m*2^(7*i),r)
 |k,i,n,m,r,hk,hm,h0=>by
  by_cases hs:m<128
  ·rw[l0 hs]
   show(if(i=9∧1<m)∨(0<i∧m=0) then none else if m<128 then some (n+m%128*2^(7*i),r) else gr (i+1) (n+m%128*2^(7*i)) r)=_;rw[if_neg,if_pos hs,Nat.mod_eq_of_lt hs];rintro(⟨rfl,h⟩|⟨h1,h2⟩)
   ·obtain rfl:k=0:=by omega
    simp at hm;omega
   ·have:=h0 h1;omega
  ·obtain⟨k,rfl⟩:∃j,k=j+1:=⟨k-1,by
    rcases Nat.eq_zero_or_pos k with h|h
    ·subst h;simp at hm;omega
    ·omega⟩
   rw[nA hs];show(if(i=9∧1<m%128+128)∨(0<i∧m%128+128=0) then none else if m%128+128<128 then some (n+(m%128+128)%128*2^(7*i),kd k (m/128)++r) else gr (i+1) (n+(m%128+128)%128*2^(7*i)) (kd k (m/128)++r))=_;rw[if_neg (by omega),if_neg (by omega),xP k (i+1) _ (m/128) r (by omega) (by rw[Nat.pow_succ] at hm;rw[Nat.div_lt_iff_lt_mul (by omega)];omega) (by omega)];congr 2;rw[show(m%128+128)%128=m%128 by omega,Eh]
   have e:m%128*2^(7*i)+m/128*(2^(7*i)*128)=(m%128+128*(m/128))*2^(7*i):=by
    rw[Nat.add_mul,Nat.mul_comm (2^(7*i)) 128,←Nat.mul_assoc,Nat.mul_comm (m/128) 128]
   rw[Nat.add_assoc,e,Nat.mod_add_div]
theorem vh:∀(s:List Nat) (i n v:Nat) (r:List Nat),oH s→i≤9→gr i n s=some (v,r)→∃m,v=n+m*2^(7*i)∧s=kd (9-i) m++r∧m<2*128^(9-i)∧(0<i→0<m)
 | [],i,n,v,r,_,_,h=>by cases h
 |c::t,i,n,v,r,hb,hi,h=>by
  have hc:=hb c List.mem_cons_self;unfold gr at h
  by_cases hx:(i=9∧1<c)∨(0<i∧c=0)
  ·rw[if_pos hx] at h;cases h
  ·rw[if_neg hx] at h
   by_cases hs:c<128
   ·rw[if_pos hs] at h
    injection h with h
    injection h with h1 h2
    subst h2;refine⟨c,by rw[←h1,Nat.mod_eq_of_lt hs],by rw[l0 hs];rfl,?_,by omega⟩;rcases Nat.lt_or_ge i 9 with h9|h9
    ·have:128^1≤128^(9-i):=Nat.pow_le_pow_right (by omega) (by omega)
     omega
    ·obtain rfl:i=9:=by omega
     simp;omega
   ·rw[if_neg hs] at h
    have h9:i<9:=by omega
    obtain⟨m,e1,e2,e3,e4⟩:=vh t (i+1) _ v r hb.tail (by omega) h;have e4:=e4 (by omega);have hk:9-i=(9-(i+1))+1:=by omega
    refine⟨c%128+128*m,?_,?_,?_,by omega⟩
    ·rw[e1,Eh,Nat.add_assoc]
     congr 1;rw[Nat.add_mul,Nat.mul_comm (2^(7*i)) 128,←Nat.mul_assoc,Nat.mul_comm m 128]
    ·rw[hk,nA (by omega),show(c%128+128*m)/128=m by omega,show(c%128+128*m)%128+128=c by omega,e2];rfl
    ·rw[hk,Nat.pow_succ];omega
structure FP {α:Type}(p:List Nat→Option (α × List Nat))(enc:α→List Nat)(ok:α→Prop):Prop where
 full:∀a r,ok a→p (enc a++r)=some (a,r)
 sound:∀s a r,oH s→p s=some (a,r)→ok a∧s=enc a++r
theorem Bg:FP gP dS (fun n=>n<18446744073709551616) where
 full:=fun n r h=>by
  have:=xP 9 0 0 n r (by omega) (by omega) (by omega)
  simpa[gP,dS] using this
 sound:=fun s n r hs h=>by
  obtain⟨m,e1,e2,e3,-⟩:=vh s 0 0 n r hs (by omega) h;obtain rfl:n=m:=by rw[e1];simp
  exact⟨by have:(9-0:Nat)=9:=rfl;rw[this] at e3;omega,e2⟩
def kn (s:List Nat):Option (Nat × List Nat):=(gP s).bind fun x=>if x.1<9223372036854775808 then some x else none
def gN (n:Int)(s:List Nat):Option (List Nat × List Nat):=if 0≤n∧n≤(s.length:Int) then some (s.take n.toNat,s.drop n.toNat) else none
def lW (n:Nat):Int:=if n%2=0 then((n/2:Nat):Int) else -((n/2:Nat):Int)-1
def wK (s:List Nat):Option (Int × List Nat):=(gP s).map fun x=>(lW x.1,x.2)
theorem zo {n:Nat}(h:n<18446744073709551616):lY (lW n)=n∧bw (lW n):=by
 unfold lW lY bw;split
 ·rw[if_pos (by omega)];omega
 ·rw[if_neg (by omega)];omega
section
variable {α:Type} {one:List Nat→Option (α × List Nat)} {enc:α→List Nat} {ok:α→Prop}
end
structure Kf (g:Nat)(w w':World):Prop where
 only:w.grownBy w' (some g)
section
variable {g:Nat} {w w' w'':World}
theorem Kf.refl (g:Nat)(w:World):Kf g w w:=⟨iV (Below.refl _ _) _⟩
theorem Kf.trans (h:Kf g w w')(k:Kf g w' w''):Kf g w w'':=⟨qi h.only k.only⟩
theorem Kf.step (h:Kf g w w')(k:Below w'.heap.size w' w''):Kf g w w'':=⟨pZ h.only k⟩
theorem Kf.size (h:Kf g w w'):w.heap.size≤w'.heap.size:=h.only.size
theorem Kf.put {g':Nat}{T:TypeId}{cur cs:Array Value}(h:Kf g w w')(_k:aH w' g' T cur)(p:hZ w' w'' g' T cs)(e:w.heap.size≤g'):Kf g w w'':=
 ⟨p.grown.os.trans h.only.os,p.grown.tape.trans h.only.tape,p.grown.output.trans h.only.output,by have:=p.size;have:=h.size;omega,fun k hk hne=>(p.grown.block k (by have:=h.size;omega) (fun e'=>by injection e' with e';omega)).trans (h.only.block k hk hne)⟩
theorem Kf.own {T:TypeId}{cs:Array Value}(h:Kf g w w')(p:hZ w' w'' g T cs):Kf g w w'':=h.trans ⟨p.grown⟩
theorem Kf.to {B:Nat}(h:Kf g w w')(hB:B≤g)(hg:g<w.heap.size):Below B w w':=gx h.only hB hg
end
def Rd (T:TypeId)(w:World)(g:Nat)(o:Option (List Nat)):Prop:=∃s b,aH w g T #[.string (strOf s), .bool b]∧oH s∧o=if b=true then none else some s
section
variable {T:TypeId} {w w' w'':World} {g:Nat} {o:Option (List Nat)}
theorem Rd.step (h:Rd T w g o)(k:Below w.heap.size w w'):Rd T w' g o:=by
 obtain⟨s,b,h1,h2,h3⟩:=h;exact⟨s,b,h1.step k,h2,h3⟩
theorem Rd.put {g' B:Nat}{T':TypeId}{cur cs:Array Value}(h:Rd T w g o)(k:aH w g' T' cur)(p:hZ w w' g' T' cs)(_e:B≤g')(hne:T≠T':=by decide):Rd T w' g o:=by
 obtain⟨s,b,h1,h2,h3⟩:=h;exact⟨s,b,h1.put p (h1.ne k hne),h2,h3⟩
theorem Rd.lt (h:Rd T w g o):g<w.heap.size:=by
 obtain⟨s,b,h1,-⟩:=h;exact h1.lt
theorem Kf.kf (h:Kf g w w')(f:Kf g w' w'')(_rd:Rd T w' g o):Kf g w w'':=h.trans f
theorem aH.kf {k:Nat}{t:TypeId}{cs:Array Value}(h:aH w k t cs)(f:Kf g w w')(rd:Rd T w g o)(hne:t≠T:=by decide):aH w' k t cs:=by
 obtain⟨s,b,h1,-⟩:=rd;exact h.grown f.only (fun e=>h.ne h1 hne (by injection e))
theorem Own.kf {B size n:Nat}{e:TypeId}{v:Value}{xs:List Value}(h:Own w B e size v n xs)(f:Kf g w w')(rd:Rd T w g o)(hne:e≠T:=by decide):Own w' B e size v n xs:=by
 obtain⟨s,b,h1,-⟩:=rd;exact⟨h.row.kept f.only (ri h.row h1 hne)⟩
theorem Rd.bad {s:List Nat}(k:aH w g T #[.string (strOf s), .bool true]) (hs:oH s):Rd T w g none:=⟨s,true,k,hs,rfl⟩
theorem Rd.ER {s:List Nat}(k:aH w g T #[.string (strOf s), .bool false]) (hs:oH s):Rd T w g (some s):=⟨s,false,k,hs,rfl⟩
end
def rest {α:Type}(p:List Nat→Option (α × List Nat))(o:Option (List Nat)):Option (List Nat):=(o.bind p).map Prod.snd
def xt {α:Type}(p:List Nat→Option (α × List Nat))(o:Option (List Nat))(z:α):Prop:=∀a r,o.bind p=some (a,r)→z=a
theorem jn {α:Type}{p:List Nat→Option (α × List Nat)}{o:Option (List Nat)}{z:α}(h:o.bind p=none):xt p o z:=fun a r e=>by rw[h] at e;cases e
theorem nG {α:Type}{p:List Nat→Option (α × List Nat)}{o:Option (List Nat)}{z:α}{r:List Nat}(h:o.bind p=some (z,r)):xt p o z:=fun a r' e=>by rw[h] at e;injection e with e;injection e
def qY (n:Int)(o:Option (List Nat)):List Nat:=((o.bind (gN n)).map Prod.fst).getD []
theorem fI (g:Nat)(o:Option (List Nat))(w:World)(h:Rd 146 w g o):Calls Tryz.prog 87 #[.pointer (some ⟨g,0,none⟩)] w fun e w'=>e= .returned (.bool o.isSome)∧Grow w w':=by
 obtain⟨s,b,k0,hs,rfl⟩:=h;have bel:=Below.refl w.heap.size w;refine Zs 12 Tryz.func87 ?_;refine aj ?_;refine Za ?_;refine dM 0 2 (aB ?_);refine Zm ?_;refine Zv (aa.Ep rfl rfl rfl Tryz.underlying86) ?_;refine Zm ?_;refine av.start ?_;refine bk (fun hcx=>aa.move rfl rfl) ?_;refine Zn (fun hcx=>aa.nilCheck rfl rfl) ?_;refine Zn (fun hcx=>aa.ak 1 rfl rfl Tryz.underlying146 rfl (by kernel_rfl)) ?_;refine Zn (fun hcx=>aa.an rfl rfl Tryz.underlying4 rfl k0 rfl) ?_;refine Zn (fun hcx=>aa.not rfl rfl) ?_;refine ep ?_;refine Za ?_;refine dM 0 2 (Zt (Cd.ret ?_));refine aX ?_;exact⟨aW (aF (by cases b<;>rfl)),bel⟩
theorem jw (g:Nat)(o:Option (List Nat))(w:World)(h:Rd 146 w g o):Calls Tryz.prog 85 #[.pointer (some ⟨g,0,none⟩)] w fun e w'=>e= .returned (.tuple #[])∧Kf g w w'∧Rd 146 w' g none:=by
 obtain⟨s,b,k0,hs,rfl⟩:=h;refine Zs 7 Tryz.func85 ?_;refine aj ?_;refine Zm ?_;refine Zv (aa.Ep rfl rfl rfl Tryz.underlying86) ?_;refine dM 0 3 (Zt ?_);refine Cd.aY rfl rfl ?_;refine Zr ?_;refine Zm ?_;refine Zv (aa.nilCheck rfl rfl) ?_;refine Zf 1 Tryz.underlying146 ?_;refine Zq k0 ?_;intro w1 pw1;replace k0:=pw1.ao;refine dM 0 3 ?_;refine ab.eP rfl (.inr rfl) ?_;exact⟨rfl,⟨pw1.grown⟩,Rd.bad k0 hs⟩
theorem jx (g:Nat)(n:Int)(o:Option (List Nat))(w:World)(h:Rd 146 w g o):Calls Tryz.prog 86 #[.pointer (some ⟨g,0,none⟩), .int .i64 n] w fun e w'=>e= .returned (.string (strOf (qY n o)))∧Kf g w w'∧Rd 146 w' g (rest (gN n) o):=by
 have rd:=h;obtain⟨s,b,k0,hs,ho⟩:=h;have kf:=Kf.refl g w;refine Zs 40 Tryz.func86 ?_;refine aj ?_;refine Za ?_;refine bu 0 1 4 (aJ (aj ?_));refine Zm ?_;refine Zc (Ze Tryz.func87) (fI g o _ rd) ?_;rintro e w5 ⟨rfl,hb5⟩;refine⟨_,rfl,?_⟩;replace kf:=kf.step hb5;replace rd:=rd.step hb5;replace k0:=k0.step hb5;refine iC ?_;refine Zm ?_;refine av.start ?_;refine bk (fun hcx=>aa.move rfl rfl) ?_;refine Zn (fun hcx=>aa.lss rfl rfl rfl) ?_;refine eG ?_;refine Zm ?_;refine av.start ?_;refine bk (fun hcx=>aa.move rfl rfl) ?_;refine jl ?_;refine Zn (fun hcx=>aa.nilCheck rfl rfl) ?_;refine Zn (fun hcx=>aa.ak 0 rfl rfl Tryz.underlying146 rfl (by kernel_rfl)) ?_;refine Zn (fun hcx=>aa.an rfl rfl Tryz.underlying9 rfl k0 rfl) ?_;refine Zn (fun hcx=>aa.eB rfl rfl Tryz.underlying9) ?_;refine Zn (fun hcx=>aa.gtr rfl rfl rfl) ?_;refine eG ?_;refine aZ 0 1 4 21 (Zt ?_);refine Cd.cond rfl (fun h=> ?_) (fun h=> ?_)
 ·have hr:o.bind (gN n)=none:=by
   rw[ho]
   cases b with
   |true=>rfl
   |false=>
    rw[ho] at h;simp at h;show gN n s=none;unfold gN;rw[if_neg (by omega)]
  refine aj ?_;refine Zm ?_;refine Zc (Ze Tryz.func85) (jw g o _ rd) ?_;rintro e w1 ⟨rfl,fw1,rd'⟩;refine⟨_,rfl,?_⟩;replace kf:=kf.kf fw1 rd;replace rd:=rd';clear rd';refine aZ 0 1 4 21 (aB ?_);refine Za ?_;refine aZ 0 1 4 21 (Zt (Cd.ret (ab.af ?_)));refine aX ?_;unfold rest qY;rw[hr];exact⟨rfl,kf,rd⟩
 ·have hb:b=false:=by
   cases b with
   |false=>rfl
   |true=>rw[ho] at h;simp at h
  subst hb;have ho':o=some s:=ho;rw[ho'] at h;simp at h
  have hr:o.bind (gN n)=some (s.take n.toNat,s.drop n.toNat):=by
   rw[ho'];show gN n s=_;unfold gN;rw[if_pos (by omega)]
  refine Cd.skip (aB ?_);refine Zm ?_;refine Zv (aa.nilCheck rfl rfl) ?_;refine Zf 0 Tryz.underlying146 ?_;refine ZL Tryz.underlying9 k0 ?_;refine Zm ?_;refine Zv (aa.sliceTo rfl rfl rfl Tryz.underlying9 (j:=n.toNat) (by omega) (by omega)) ?_;refine Za ?_;refine aU 0 1 4 5 21 (aB ?_);refine Zm ?_;refine Zm ?_;refine Zv (aa.nilCheck rfl rfl) ?_;refine Zf 0 Tryz.underlying146 ?_;refine ZL Tryz.underlying9 k0 ?_;refine Zm ?_;refine Zv (aa.sliceFrom rfl rfl rfl Tryz.underlying9 (j:=n.toNat) (by omega) (by omega)) ?_;refine Zv (aa.nilCheck rfl rfl) ?_;refine Zf 0 Tryz.underlying146 ?_;refine Zq k0 ?_;intro w1 pw1;replace k0:=pw1.ao;refine aU 0 1 4 5 21 (aB ?_);refine Zm ?_;have kf2:=kf.own pw1;refine Za ?_;refine aU 0 1 4 5 21 (Zt (Cd.ret ?_));refine aX ?_;unfold rest qY;rw[hr];exact⟨rfl,kf2,Rd.ER k0 (hs.drop _)⟩
theorem eF {α:Type}{p:List Nat→Option (α × List Nat)}{o:Option (List Nat)}(h:o.bind p=none):rest p o=none:=by unfold rest;rw[h];rfl
theorem hO {α:Type}{p:List Nat→Option (α × List Nat)}{o:Option (List Nat)}{z:α}{r:List Nat}(h:o.bind p=some (z,r)):rest p o=some r:=by unfold rest;rw[h];rfl
theorem B5 {i:Nat}(hi:i≤9):2^(7*i)≤9223372036854775808:=by
 have:2^(7*i)≤2^63:=Nat.pow_le_pow_right (by omega) (by omega);exact this
theorem DA {i c:Nat}(hi:i≤9)(hc:i=9→c≤1):c%128*2^(7*i)≤18446744073709551616-2^(7*i):=by
 have hm:c%128≤127:=by omega
 rcases Nat.lt_or_ge i 9 with h|h
 ·have h1:2^(7*i)≤2^56:=Nat.pow_le_pow_right (by omega) (by omega)
  have h2:c%128*2^(7*i)≤127*2^56:=Nat.mul_le_mul hm h1;omega
 ·obtain rfl:i=9:=by omega
  have:=hc rfl;have h3:(2:Nat)^(7*9)=9223372036854775808:=rfl;rw[h3];omega
theorem CO {i n c:Nat}(hi:i≤9)(hc:i=9→c≤1)(hn:n<2^(7*i)):c%128*2^(7*i)<18446744073709551616∧n+c%128*2^(7*i)<18446744073709551616∧n<18446744073709551616:=by
 have h1:=B5 hi;have h2:=DA hi hc;have h3:0<2^(7*i):=Nat.two_pow_pos _
 generalize c%128*2^(7*i)=T at *
 generalize 2^(7*i)=p at *
 omega
theorem Bk {c i:Nat}(h:c%128*2^(7*i)<18446744073709551616):IntKind.u64.wrap (((c%2^7:Nat):Int)*2^(7*i))=((c%128*2^(7*i):Nat):Int):=by
 have e:((c%2^7:Nat):Int)*2^(7*i)=((c%128*2^(7*i):Nat):Int):=by rw[Int.natCast_mul,Int.natCast_pow];rfl
 rw[e];exact qy (Int.natCast_nonneg _) (Int.ofNat_lt.2 h)
theorem nQ (g:Nat)(o:Option (List Nat))(w:World)(h:Rd 146 w g o):Calls Tryz.prog 84 #[.pointer (some ⟨g,0,none⟩)] w fun e w'=>∃z:Nat,(z<18446744073709551616∧xt gP o z∧e= .returned (.int .u64 (z:Int)))∧Kf g w w'∧Rd 146 w' g (rest gP o):=by
 have rd:=h;have kf:=Kf.refl g w;refine Zs 42 Tryz.func84 ?_;refine aj ?_;refine Za ?_;refine dM 0 2 (aB ?_);refine Za ?_;refine bu 0 2 3 (aB ?_);refine Za ?_;refine aZ 0 2 3 4 (Zt (Cd.block ?_))
 refine Cd.loop (σ:=Nat × Nat × Option (List Nat)) (fun s=>[(0, .pointer (some ⟨g,0,none⟩)),(3, .int .u64 (s.2.1:Int)),(4, .int .i64 (s.1:Int))])
  (fun s wr=>s.1≤9∧s.2.1<2^(7*s.1)∧s.2.2.bind (gr s.1 s.2.1)=o.bind gP∧Kf g w wr∧Rd 146 wr g s.2.2) (fun s=>10-s.1) (0,0,o) ⟨Nat.zero_le _,(show 0<2^(7*0) by decide),rfl,kf,rd⟩ ⟨rfl,rfl,rfl,trivial⟩ ?_
 clear kf rd;rintro⟨i,n,q⟩ wr ⟨hi,hn,hq,kf,rd⟩;simp only at hi hn hq rd;show Cd _ _ _ _ [(0, .pointer (some ⟨g,0,none⟩)),(3, .int .u64 (n:Int)),(4, .int .i64 (i:Int))] _;have hlow:=B5 hi;refine Cd.seq (Cd.block (aj ?_));refine Zm ?_;have hbyt0:=rd;refine Zc (Ze Tryz.func86) (jx g 1 q _ rd) ?_;rintro e w1 ⟨rfl,fw1,rd'⟩;refine⟨_,rfl,?_⟩;replace kf:=kf.kf fw1 rd;replace rd:=rd';clear rd'
 cases hqq:q.bind (gN 1) with
 |none=>
  have hnone:o.bind gP=none:=by
   rw[←hq]
   cases q with
   |none=>rfl
   |some s=>
    cases s with
    |nil=>rfl
    |cons c r=>
     exfalso;have:gN 1 (c::r)=none:=hqq;unfold gN at this;rw[if_pos (by simp;omega)] at this
     cases this
  rw[eF hqq] at rd;rw[show qY 1 q=[] by unfold qY;rw[hqq];rfl];refine Za ?_;refine aZ 0 3 4 5 (aJ (aj ?_));refine Zm ?_;refine Zv (aa.dq (a:=[]) (b:=[]) rfl rfl rfl (by simp) (by simp)) ?_;refine aU 0 3 4 5 12 (Zt ?_);refine Cd.aY rfl rfl ?_;refine aj ?_;refine Za ?_;refine bl 0 2 3 4 5 12 (Zt (Cd.ret (ab.af (ab.ah (ab.af (ab.aL (ab.ah ?_)))))));refine aX ?_;refine⟨0,⟨by decide,jn hnone,rfl⟩,kf,?_⟩;rw[eF hnone];exact rd
 |some x=>
  obtain⟨c,r,rfl⟩:∃c r,q=some (c::r):=by
   cases q with
   |none=>cases hqq
   |some s=>
    cases s with
    |nil=>exact absurd (show gN 1 []=some x from hqq) (by simp[gN])
    |cons c r=>exact⟨c,r,rfl⟩
  have hx:x=([c],r):=by
   have:gN 1 (c::r)=some x:=hqq;unfold gN at this;rw[if_pos (by simp;omega)] at this;injection this with this
   rw[←this];rfl
  subst hx;have rdc:=hbyt0;rw[hO hqq] at rd;rw[show qY 1 (some (c::r))=[c] by unfold qY;rw[hqq];rfl]
  have hbr:oH (c::r):=by
   obtain⟨s',b',-,hs',ho'⟩:=rdc
   cases b' with
   |true=>cases ho'
   |false=>injection ho' with ho';rw[ho'];exact hs'
  have hc:=hbr c List.mem_cons_self;have hgr:gr i n (c::r)=if(i=9∧1<c)∨(0<i∧c=0) then none else if c<128 then some (n+c%128*2^(7*i),r) else gr (i+1) (n+c%128*2^(7*i)) r:=rfl;replace hq:gr i n (c::r)=o.bind gP:=hq;rw[hgr] at hq;refine Za ?_;refine aZ 0 3 4 5 (aJ (aj ?_));refine Zm ?_;refine Zv (aa.dq (a:=[c]) (b:=[]) rfl rfl rfl (by intro x hx;simp at hx;omega) (by simp)) ?_;refine aU 0 3 4 5 12 (Zt ?_);refine Cd.aS rfl (decide_eq_false (by simp)) ?_;refine Cd.skip (aB ?_);refine Zm ?_;refine Zv (aa.gg (j:=0) (c:=c) rfl rfl rfl Tryz.underlying9 rfl rfl hc) ?_;refine Zv (aa.fJ rfl rfl Tryz.underlying5 Tryz.underlying94 (qy (by omega) (by omega))) ?_;refine Za ?_;refine bl 0 3 4 5 6 12 (aJ (aj ?_));refine Zm ?_;refine bq ?_;refine Zm ?_;refine av.start ?_;refine bk (fun hcx=>aa.move rfl rfl) ?_;refine Zn (fun hcx=>aa.gtr rfl rfl rfl) ?_;refine ep ?_;refine Zm ?_;refine av.start ?_;refine bk (fun hcx=>aa.move rfl rfl) ?_;refine Zn (fun hcx=>aa.gtr rfl rfl rfl) ?_;refine jl ?_;refine bk (fun hcx=>aa.move rfl rfl) ?_;refine Zn (fun hcx=>aa.fm rfl rfl rfl) ?_;refine av.pN rfl rfl rfl rfl rfl rfl rfl rfl rfl rfl rfl ?_;refine eG ?_;refine bp 0 3 4 5 6 12 29 (Zt ?_);refine Cd.cond rfl (fun h=> ?_) (fun h=> ?_)
  ·rw[if_pos (by simp at h;omega)] at hq
   refine aj ?_;refine Zm ?_;refine Zc (Ze Tryz.func85) (jw g _ _ rd) ?_;rintro e w2 ⟨rfl,fw2,rd'⟩;refine⟨_,rfl,?_⟩;replace kf:=kf.kf fw2 rd;replace rd:=rd';clear rd';refine bp 0 3 4 5 6 12 29 (aB ?_);refine Za ?_;refine cn 0 2 3 4 5 6 12 29 (Zt (Cd.ret (ab.af (ab.ah (ab.af (ab.aL (ab.ah ?_)))))));refine aX ?_;refine⟨0,⟨by decide,jn hq.symm,rfl⟩,kf,?_⟩;rw[eF hq.symm];exact rd
  ·rw[if_neg (by simp at h;omega)] at hq
   have h9:i=9→c≤1:=by simp at h;omega
   obtain⟨b1,b2,b3⟩:=CO hi h9 hn;have hmin:min (7*(i:Int)).toNat IntKind.u64.bits=7*i:=by simp[IntKind.bits];omega
   refine Cd.skip (aB ?_);refine Zm ?_;refine Zm ?_;refine Zv (aa.DE (m:=127) 7 rfl rfl rfl rfl (by omega) (by omega)) ?_;refine Zm ?_;refine Zv (aa.tl rfl rfl rfl (by omega) (by omega)) ?_;refine Zv (aa.EO (r:=((c%128*2^(7*i):Nat):Int)) rfl rfl rfl (by omega) (by rw[hmin];exact Bk b1)) ?_;refine Zv (aa.Al (a:=n) (b:=c%128*2^(7*i)) (r:=n+c%128*2^(7*i)) rfl rfl rfl b3 b1 (.inr (.inl ⟨rfl,by rw[Nat.or_comm,Nat.mul_comm (c%128),←Nat.two_pow_add_eq_or_of_lt hn,Nat.add_comm]⟩))) ?_;refine Za ?_;refine bp 0 3 4 5 6 12 29 (aB ?_);refine Zm ?_;refine ff ?_;refine cn 0 3 4 5 6 12 29 40 (Zt ?_);refine Cd.au rfl (fun hc=> ?_) (fun hc=> ?_)
   ·rw[if_pos (by omega)] at hq
    refine aj ?_;refine Zm ?_;refine Za ?_;refine du 0 2 3 4 5 6 12 29 40 (Zt (Cd.ret (ab.ah (ab.af (ab.aL (ab.ah ?_))))));refine aX ?_;refine⟨_,⟨b2,nG hq.symm,rfl⟩,kf,?_⟩;rw[hO hq.symm];exact rd
   ·rw[if_neg (by omega)] at hq
    have hi8:i<9:=by omega
    refine Cd.skip (ab.ai (dU ?_));refine Zm ?_;refine dt ?_;refine Za ?_;refine cn 0 3 4 5 6 12 29 40 ?_;refine ab.round (i+1,n+c%128*2^(7*i),some r) ⟨rfl,rfl,rfl,trivial⟩ ⟨by simp only;omega,?_,hq,kf,rd⟩ (by simp only;omega);simp only;rw[Eh];have hm:c%128≤127:=by omega
    have:=Nat.mul_le_mul_right (2^(7*i)) hm;omega
theorem fg (g:Nat)(o:Option (List Nat))(w:World)(h:Rd 146 w g o):Calls Tryz.prog 42 #[.pointer (some ⟨g,0,none⟩)] w fun e w'=>∃z:Nat,(z<9223372036854775808∧xt kn o z∧e= .returned (.int .i64 (z:Int)))∧Kf g w w'∧Rd 146 w' g (rest kn o):=by
 have rd:=h;have kf:=Kf.refl g w;have hsz:o.bind kn=(o.bind gP).bind fun x=>if x.1<9223372036854775808 then some x else none:=by cases o<;>rfl
 refine Zs 12 Tryz.func42 ?_;refine aj ?_;refine Za ?_;refine dM 0 2 (aB ?_);refine Zm ?_;refine Zc (Ze Tryz.func84) (nQ g o _ rd) ?_;rintro e w1 ⟨z,⟨hz,hv,rfl⟩,fw1,rd'⟩;refine⟨_,rfl,?_⟩;replace kf:=kf.kf fw1 rd;replace rd:=rd';clear rd';refine Za ?_;refine bu 0 2 3 (aJ (aj ?_));refine Zm ?_;refine mz ?_;refine aZ 0 2 3 7 (Zt ?_);refine Cd.au rfl (fun hc=> ?_) (fun hc=> ?_)
 ·have hn:o.bind kn=none:=by
   rw[hsz]
   cases hx:o.bind gP with
   |none=>rfl
   |some x=>
    have:=hv x.1 x.2 hx;show(if x.1<_ then _ else _)=_;rw[if_neg (by omega)]
  refine aj ?_;refine Zm ?_;refine Zc (Ze Tryz.func85) (jw g _ _ rd) ?_;rintro e w2 ⟨rfl,fw2,rd'⟩;refine⟨_,rfl,?_⟩;replace kf:=kf.kf fw2 rd;replace rd:=rd';clear rd';refine aZ 0 2 3 7 (aB ?_);refine Za ?_;refine aZ 0 2 3 7 (Zt (Cd.ret (ab.af ?_)));refine aX ?_;refine⟨0,⟨by decide,jn hn,rfl⟩,kf,?_⟩;rw[eF hn];exact rd
 ·have hr:rest kn o=rest gP o∧xt kn o z:=by
   cases hx:o.bind gP with
   |none=>rw[hx] at hsz;exact⟨by rw[eF hx,eF hsz],jn hsz⟩
   |some x=>
    obtain⟨m,r⟩:=x;have e:=hv m r hx;subst e;rw[hx] at hsz
    have hs2:o.bind kn=some (z,r):=by
     rw[hsz];show(if z<_ then _ else _)=_;rw[if_pos (by omega)]
    exact⟨by rw[hO hx,hO hs2],nG hs2⟩
  refine Cd.skip (aB ?_);refine Zm ?_;refine Zv (aa.fJ rfl rfl Tryz.underlying94 Tryz.underlying3 (iR (by omega) (by omega))) ?_;refine Za ?_;refine aZ 0 2 3 7 (Zt (Cd.ret ?_));refine aX ?_;refine⟨z,⟨by omega,hr.2,rfl⟩,kf,?_⟩;rw[hr.1];exact rd
theorem oF (p q:Int)(w:World){P:Program}(hp:0≤p)(hp2:p<9223372036854775808)(hq:q=0∨q= -1):(Op.intBits .xor .i64 p q).run P w= .ok (.int .i64 (if q=0 then p else -p-1)) w:=by
 have e1:(BitVec.ofInt IntKind.i64.bits p).toNat=p.toNat:=by simp[IntKind.bits];omega
 have hx:IntKind.i64.wrap (((BitVec.ofInt IntKind.i64.bits p)^^^(BitVec.ofInt IntKind.i64.bits q)).toNat:Int)=if q=0 then p else -p-1:=by
  rcases hq with rfl|rfl
  ·have:BitVec.ofInt IntKind.i64.bits p^^^BitVec.ofInt IntKind.i64.bits 0=BitVec.ofInt IntKind.i64.bits p:=by simp
   rw[this,e1,if_pos rfl,IntKind.wrap_i64];omega
  ·have h1:BitVec.ofInt 64 (-1)=BitVec.allOnes 64:=by decide
   have e2:(BitVec.ofInt 64 p).toNat=p.toNat:=e1;show IntKind.i64.wrap (((BitVec.ofInt 64 p)^^^(BitVec.ofInt 64 (-1))).toNat:Int)=_;rw[h1,BitVec.xor_allOnes,BitVec.toNat_not,e2,if_neg (by decide),IntKind.wrap_i64];have:(2:Nat)^64=18446744073709551616:=rfl;rw[this];omega
 unfold Op.intBits;simp only[hx];rfl
theorem uI (g:Nat)(o:Option (List Nat))(w:World)(h:Rd 146 w g o):Calls Tryz.prog 44 #[.pointer (some ⟨g,0,none⟩)] w fun e w'=>∃z:Int,(bw z∧xt wK o z∧e= .returned (.int .i64 z))∧Kf g w w'∧Rd 146 w' g (rest wK o):=by
 have rd:=h;have kf:=Kf.refl g w;have hsz:o.bind wK=(o.bind gP).map fun x=>(lW x.1,x.2):=by cases o<;>rfl
 refine Zs 14 Tryz.func44 ?_;refine aj ?_;refine Za ?_;refine dM 0 2 (aB ?_);refine Zm ?_;refine Zc (Ze Tryz.func84) (nQ g o _ rd) ?_;rintro e w1 ⟨z,⟨hz,hv,rfl⟩,fw1,rd'⟩;refine⟨_,rfl,?_⟩;replace kf:=kf.kf fw1 rd;replace rd:=rd';clear rd'
 have hr:rest wK o=rest gP o∧xt wK o (lW z):=by
  cases hx:o.bind gP with
  |none=>
   rw[hx] at hsz;have hsz:o.bind wK=none:=hsz;exact⟨by rw[eF hx,eF hsz],jn hsz⟩
  |some x=>
   obtain⟨m,r⟩:=x;have e:=hv m r hx;subst e;rw[hx] at hsz;have hs2:o.bind wK=some (lW z,r):=hsz;exact⟨by rw[hO hx,hO hs2],nG hs2⟩
 have hm:z%2^1=z%2:=rfl
 have hun:lW z=if -((z%2:Nat):Int)=0 then((z/2:Nat):Int) else -((z/2:Nat):Int)-1:=by
  unfold lW
  by_cases h2:z%2=0
  ·rw[if_pos h2,if_pos (by omega)]
  ·rw[if_neg h2,if_neg (by omega)]
 refine Za ?_;refine bu 0 2 3 (aB ?_);refine Zm ?_;refine Zv (aa.EP rfl rfl rfl (s:=1) rfl (by omega)) ?_;refine Zv ((aa.fJ rfl rfl Tryz.underlying94 Tryz.underlying2 (iR (by omega) (by omega))).cast (v':= .int .i64 ((z/2:Nat):Int)) rfl) ?_;refine Zm ?_;refine Zv (aa.DE (m:=1) 1 rfl rfl rfl rfl (by omega) (by omega)) ?_;refine Zv ((aa.fJ rfl rfl Tryz.underlying94 Tryz.underlying2 (iR (by omega) (by omega))).cast (v':= .int .i64 ((z%2:Nat):Int)) rfl) ?_;refine Zv (aa.neg rfl rfl (r:= -((z%2:Nat):Int)) (by rw[IntKind.wrap_i64];omega)) ?_;refine Zv (aa.bin rfl rfl rfl rfl (oF _ _ _ (by omega) (by omega) (by omega))) ?_;rw[←hun];refine Za ?_;refine bu 0 2 3 (Zt (Cd.ret ?_));refine aX ?_;refine⟨lW z,⟨(zo hz).2,hr.2,rfl⟩,kf,?_⟩;rw[hr.1];exact rd
theorem At (g:Nat)(o:Option (List Nat))(w:World)(h:Rd 146 w g o):Calls Tryz.prog 45 #[.pointer (some ⟨g,0,none⟩)] w fun e w'=>e= .returned (.bool (decide (o=some [])))∧Grow w w':=by
 have rd:=h;obtain⟨s,b,k0,hs,ho⟩:=h;have bel:=Below.refl w.heap.size w;refine Zs 13 Tryz.func45 ?_;refine aj ?_;refine Za ?_;refine dM 0 2 (aB ?_);refine Zm ?_;refine Zc (Ze Tryz.func87) (fI g o _ rd) ?_;rintro e w5 ⟨rfl,hb5⟩;refine⟨_,rfl,?_⟩;replace bel:=bel.step hb5;replace k0:=k0.step hb5;refine Zm ?_;refine av.start ?_;refine bk (fun hcx=>aa.move rfl rfl) ?_;refine Zn (fun hcx=>aa.nilCheck rfl rfl) ?_;refine Zn (fun hcx=>aa.ak 0 rfl rfl Tryz.underlying146 rfl (by kernel_rfl)) ?_;refine Zn (fun hcx=>aa.an rfl rfl Tryz.underlying9 rfl k0 rfl) ?_;refine Zn (fun hcx=>aa.eB rfl rfl Tryz.underlying9) ?_;refine Zn (fun hcx=>aa.fm rfl rfl rfl) ?_;refine ep ?_;refine Za ?_;refine dM 0 2 (Zt (Cd.ret ?_));refine aX ?_;refine⟨aW (aF ?_),bel⟩;subst ho
 cases b with
 |true=>rfl
 |false=>
  cases s with
  |nil=>rfl
  |cons c r=>simp;omega
theorem Be (s:List Nat)(w:World)(hs:oH s):Calls Tryz.prog 41 #[.string (strOf s)] w fun e w'=>∃g,e= .returned (.pointer (some ⟨g,0,none⟩))∧Grow w w'∧w.heap.size≤g∧Rd 146 w' g (some s):=by
 have bel:=Below.refl w.heap.size w
 have hb:∀W,(Instr.build 146 #[(0, .string (strOf s))]).run Tryz.prog W= .ok (.agg #[.string (strOf s), .bool false]) W:=fun W=>by
  have hu:=Tryz.underlying146
  go_simp
 refine Zs 6 Tryz.func41 ?_;refine aj ?_;refine Za ?_;refine dM 0 2 (aB ?_);refine Zm ?_;refine Zv (aa.build rfl rfl (hb _)) ?_;refine Seq.box rfl rfl rfl rfl rfl ?_;intro g5 w1 n5;have e5:=Nat.le_trans bel.size n5.ge;replace bel:=bel.step n5.below;have k5:=n5.ao;refine Za ?_;refine dM 0 2 (Zt (Cd.ret ?_));refine aX ?_;exact⟨_,rfl,bel,e5,Rd.ER k5 hs⟩
theorem Rd.DM {T:TypeId}{w:World}{g:Nat}{s:List Nat}(h:Rd T w g (some s)):oH s:=by
 obtain⟨s',b',-,hs',ho'⟩:=h
 cases b' with
 |true=>cases ho'
 |false=>injection ho' with ho';rw[ho'];exact hs'
section
variable {T:TypeId} {g:Nat} {w w' w'':World} {o:Option (List Nat)}
end
theorem Kf.app {g n:Nat}{w0 w w':World}{v:Value}{B size:Nat}{e:TypeId}{xs:List Value}(h:Kf g w0 w)(_o:Own w B e size v n xs)(ha:App w w' w0.heap.size v):Kf g w0 w':=
 ⟨ha.below.os.trans h.only.os,ha.below.tape.trans h.only.tape,ha.below.output.trans h.only.output,Nat.le_trans h.only.size ha.below.size,fun k hk hne=>(ha.below.block k hk).trans (h.only.block k hk hne)⟩
theorem Rd.app {g n B B' size:Nat}{w w':World}{T e:TypeId}{q:Option (List Nat)}{v:Value}{xs:List Value}(h:Rd T w g q)(o:Own w B e size v n xs)(ha:App w w' B' v)(hne:e≠T:=by decide):Rd T w' g q:=by
 obtain⟨s,b,h1,h2,h3⟩:=h;exact⟨s,b,h1.app o ha hne,h2,h3⟩
theorem Cq {T:TypeId}{w:World}{g:Nat}{q:Option (List Nat)}(h:Rd T w g q)(n:Int)(m:Nat)(hm:q≠none→n≤m):oH (qY n q)∧(qY n q).length≤m:=by
 have h0:oH ([]:List Nat)∧([]:List Nat).length≤m:=⟨(fun d hd=>by cases hd),Nat.zero_le _⟩
 cases q with
 |none=>exact h0
 |some s=>
  have hb:=h.DM;have hn:=hm (by simp)
  by_cases hc:0≤n∧n≤(s.length:Int)
  ·have e:qY n (some s)=s.take n.toNat:=by
    show(((gN n s).map Prod.fst).getD [])=_;unfold gN;rw[if_pos hc];rfl
   rw[e];exact⟨hb.take _,by rw[List.length_take];omega⟩
  ·have e:qY n (some s)=[]:=by
    show(((gN n s).map Prod.fst).getD [])=_;unfold gN;rw[if_neg hc];rfl
   rw[e];exact h0
theorem fZ (g most:Nat)(o:Option (List Nat))(w:World)(h:Rd 146 w g o):Calls Tryz.prog 43 #[.pointer (some ⟨g,0,none⟩), .int .i64 (most:Int)] w fun e w'=>∃(z:List Nat) (q:Option (List Nat)),(oH z∧z.length≤most∧e= .returned (.string (strOf z)))∧Kf g w w'∧Rd 146 w' g q:=by
 have rd:=h;have kf:=Kf.refl g w;refine Zs 16 Tryz.func43 ?_;refine aj ?_;refine Za ?_;refine bu 0 1 4 (aB ?_);refine Zm ?_;refine Zc (Ze Tryz.func42) (fg g o _ rd) ?_;rintro e w1 ⟨z,⟨hz,hv,rfl⟩,fw1,rd'⟩;refine⟨_,rfl,?_⟩;replace kf:=kf.kf fw1 rd;replace rd:=rd';clear rd';refine Za ?_;refine aZ 0 1 4 5 (Zt ?_);refine Cd.lC (σ:=Unit) (fun _=>[(0, .pointer (some ⟨g,0,none⟩)),(5, .int .i64 (z:Int))]) (fun _ wr=>Kf g w wr∧Rd 146 wr g (if z≤most then rest kn o else none)) ?_ ?_
 ·skip
  refine aj ?_;refine Zm ?_;refine Zm ?_;refine tU ?_;refine aU 0 1 4 5 10 (Zt ?_);refine Cd.au rfl (fun hc=> ?_) (fun hc=> ?_)
  ·skip
   refine Zr ?_;refine Zm ?_;refine Zc (Ze Tryz.func85) (jw g _ _ rd) ?_;rintro e w2 ⟨rfl,fw2,rd'⟩;refine⟨_,rfl,?_⟩;replace kf:=kf.kf fw2 rd;replace rd:=rd';clear rd';refine aU 0 1 4 5 10 ?_;exact ab.join () ⟨rfl,rfl,trivial⟩ ⟨kf,by rw[if_neg (by omega)];exact rd⟩
  ·skip
   refine Cd.skip ?_;exact ab.join () ⟨rfl,rfl,trivial⟩ ⟨kf,by rw[if_pos (by omega)];exact rd⟩
 clear kf rd;rintro⟨⟩ wr ⟨kf,rd⟩
 have hr:=Cq rd z most (fun hne=>by
  by_cases hz3:z≤most
  ·omega
  ·rw[if_neg hz3] at hne;exact absurd rfl hne)
 refine aj ?_;refine Zm ?_;refine Zm ?_;refine Zc (Ze Tryz.func86) (jx g z _ _ rd) ?_;rintro e w2 ⟨rfl,fw2,rd'⟩;refine⟨_,rfl,?_⟩;replace kf:=kf.kf fw2 rd;replace rd:=rd';clear rd';refine Za ?_;refine bu 0 4 5 (Zt (Cd.ret ?_));refine aX ?_;exact⟨_,_,⟨hr.1,hr.2,rfl⟩,kf,rd⟩
theorem D9 (g:Nat)(o:Option (List Nat))(w:World)(h:Rd 146 w g o):Calls Tryz.prog 117 #[.pointer (some ⟨g,0,none⟩)] w fun e w'=>∃(z:List Nat) (q:Option (List Nat)),(oH z∧z.length≤16000∧e= .returned (.string (strOf z)))∧Kf g w w'∧Rd 146 w' g q:=by
 have rd:=h;have kf:=Kf.refl g w;refine Zs 5 Tryz.func117 ?_;refine aj ?_;refine Za ?_;refine dM 0 2 (aB ?_);refine Zm ?_;refine Zc (Ze Tryz.func43) (fZ g 16000 o _ rd) ?_;rintro e w1 ⟨z,q,⟨hz,hv,rfl⟩,fw1,rd'⟩;refine⟨_,rfl,?_⟩;replace kf:=kf.kf fw1 rd;replace rd:=rd';clear rd';refine Za ?_;refine dM 0 2 (Zt (Cd.ret ?_));refine aX ?_;exact⟨_,_,⟨hz,hv,rfl⟩,kf,rd⟩
theorem Ci:∀args w,(callFunc 42 args).run Tryz.prog w= .ok (.enter 42 args) w:=fun args w=>aO Tryz.func42 (by kernel_rfl) rfl args w
theorem EY:∀args w,(callFunc 117 args).run Tryz.prog w= .ok (.enter 117 args) w:=fun args w=>aO Tryz.func117 (by kernel_rfl) rfl args w
theorem Dl (l:List Nat)(x:Nat):DJ (l++[x])=DJ l++[.int .i64 (x:Int)]:=by simp[DJ]
theorem Dq (l:List (List Nat))(x:List Nat):DS (l++[x])=DS l++[.string (strOf x)]:=by simp[DS]
theorem yt (g most:Nat)(o:Option (List Nat))(w:World)(h:Rd 146 w g o)(hm:most≤20000):Calls Tryz.prog 118 #[.pointer (some ⟨g,0,none⟩), .int .i64 (most:Int), .func (.func 42) #[] #[]] w fun e w'=>∃(l:List Nat) (q:Option (List Nat)),(l.length≤most∧(∀x∈l,x<9223372036854775808)∧∃A c,e= .returned (.slice A l.length c)∧Own w' w.heap.size 3 1 (.slice A l.length c) l.length (DJ l))∧Kf g w w'∧Rd 146 w' g q:=by
 have rd:=h;have kf:=Kf.refl g w;refine Zs 34 Tryz.func118 ?_;refine aj ?_;refine Za ?_;refine aZ 0 1 2 6 (aB ?_);refine Zm ?_;refine Zc (Ze Tryz.func42) (fg g o _ rd) ?_;rintro e w1 ⟨n,⟨hn,hv,rfl⟩,fw1,rd'⟩;refine⟨_,rfl,?_⟩;replace kf:=kf.kf fw1 rd;replace rd:=rd';clear rd';refine Za ?_;refine aU 0 1 2 6 7 (Zt ?_);refine Cd.lC (σ:=Option (List Nat)) (fun _=>[(0, .pointer (some ⟨g,0,none⟩)),(2, .func (.func 42) #[] #[]),(7, .int .i64 (n:Int))]) (fun q wr=>Kf g w wr∧Rd 146 wr g q∧(q.isSome=true→n≤most)) ?_ ?_
 ·skip
  refine aj ?_;refine Zm ?_;refine Zm ?_;refine tU ?_;refine bl 0 1 2 6 7 13 (Zt ?_);refine Cd.au rfl (fun hc=> ?_) (fun hc=> ?_)
  ·skip
   refine Zr ?_;refine Zm ?_;refine Zc (Ze Tryz.func86) (jx g (-1) _ _ rd) ?_;rintro e w2 ⟨rfl,fw2,rd'⟩;refine⟨_,rfl,?_⟩;replace kf:=kf.kf fw2 rd;replace rd:=rd';clear rd'
   have hb:∀q:Option (List Nat),q.bind (gN (-1))=none:=fun q=>by
    cases q with
    |none=>rfl
    |some s=>show gN (-1) s=none;unfold gN;rw[if_neg (by omega)]
   rw[eF (hb _)] at rd;refine bl 0 1 2 6 7 13 ?_;exact ab.join none ⟨rfl,rfl,rfl,trivial⟩ ⟨kf,rd,by simp⟩
  ·skip
   refine Cd.skip ?_;exact ab.join (rest kn o) ⟨rfl,rfl,rfl,trivial⟩ ⟨kf,rd,fun _=>by omega⟩
 clear kf rd;rintro q0 wr ⟨kf,rd,hq1⟩;refine aj ?_;refine Za ?_;refine aZ 0 2 7 8 (aJ (Cd.block ?_));have own:Own wr w.heap.size 3 1 (.slice none 0 0) 0 []:=Own.nil _ _ _ _
 refine Cd.loop (σ:=Nat × List Nat × Value × Option (List Nat)) (fun s=>[(0, .pointer (some ⟨g,0,none⟩)),(2, .func (.func 42) #[] #[]),(7, .int .i64 (s.1:Int)),(8,s.2.2.1)])
  (fun s wr=>s.1<9223372036854775808∧s.2.1.length≤most∧(s.2.2.2.isSome=true→s.2.1.length+s.1≤most)∧(∀x∈s.2.1,x<9223372036854775808)∧Kf g w wr∧Rd 146 wr g s.2.2.2∧Own wr w.heap.size 3 1 s.2.2.1 s.2.1.length (DJ s.2.1)) (fun s=>s.1) (n,[], .slice none 0 0,q0) ⟨hn,Nat.zero_le _,fun h=>by simpa using hq1 h,by simp,kf,rd,own⟩ ⟨rfl,rfl,rfl,rfl,trivial⟩ ?_
 clear kf rd;clear own;rintro⟨k,acc,v,q⟩ wr ⟨hk,hacc,hsome,hall,kf,rd,own⟩;simp only at hk hacc hsome hall rd own;show Cd _ _ _ _ [(0, .pointer (some ⟨g,0,none⟩)),(2, .func (.func 42) #[] #[]),(7, .int .i64 (k:Int)),(8,v)] _;refine Cd.seq (aj ?_);refine Zm ?_;refine tU ?_;refine Zm ?_;refine av.start ?_;refine bk (fun hcx=>aa.move rfl rfl) ?_;refine av.bj rfl rfl rfl rfl rfl rfl rfl (fun hcx=>Ze Tryz.func87) (fun hcx=>fI g q _ rd) ?_;intro w2 hw2;replace kf:=kf.step hw2;replace rd:=rd.step hw2;replace own:=own.step hw2;refine ep ?_;refine aU 0 2 7 8 21 (Zt ?_);refine Cd.cond rfl (fun h=> ?_) (fun h=> ?_)
 ·obtain⟨k,rfl⟩:∃j,k=j+1:=⟨k-1,by simp at h;omega⟩
  obtain⟨s,rfl⟩:∃s,q=some s:=by
   cases q with
   |none=>simp at h
   |some s=>exact⟨s,rfl⟩
  have hsm:=hsome rfl;refine Cd.skip (aJ (Cd.block (Zr ?_)));refine Zm ?_;refine Zm ?_;refine Zm ?_;refine Seq.call (Enters.value (first:=[]) (cap:=[]) rfl rfl rfl Ci) rfl rfl rfl (fg g _ _ rd) ?_;rintro e w3 ⟨z,⟨hz,hv1,rfl⟩,fw3,rd'⟩;refine⟨_,rfl,?_⟩;replace kf:=kf.kf fw3 rd;replace own:=own.kf fw3 rd;replace rd:=rd';clear rd';refine Seq.slice (vs:=[_]) (s:=1) rfl rfl rfl Tryz.underlying96 (by kernel_rfl) (cG) (by omega) (by omega) ⟨rfl,trivial⟩ rfl rfl rfl ?_;intro g28 w4 n28;have e28:=Nat.le_trans kf.size n28.ge;replace kf:=kf.step n28.below;replace rd:=rd.step n28.below;replace own:=own.step n28.below;have k28:=n28.ao;have hrd:=Reads.ao (size:=1) k28 1 rfl;refine Seq.append rfl rfl rfl Tryz.underlying96 (by kernel_rfl) cG rfl (by decide) (b:=8) (by kernel_rfl) own (hrd) (by intro x hx;simp[ax,Value.cells] at hx;rw[hx];rfl) kf.size (by simp only[maxLen];omega) (by omega) rfl rfl rfl ?_;intro vw5 w5 ow5 haw5;replace kf:=kf.app own haw5;replace rd:=rd.app own haw5;clear own;have own:=ow5;refine Za ?_;refine aU 0 2 7 8 21 (ab.ai (dU ?_));refine Zm ?_;refine rF ?_;refine Za ?_;refine aU 0 2 7 8 21 ?_;refine ab.round (k,acc++[z],_,_) ⟨rfl,rfl,ny (by omega),rfl,trivial⟩ ⟨by simp only;omega,by simp;omega,fun hh=>by simp;omega,fun x hx=> ?_,kf,rd,by simp only;rw[List.length_append,Dl];exact own⟩ (by simp);rcases List.mem_append.1 hx with hx|hx
  ·exact hall x hx
  ·simp at hx;subst hx;exact hz
 ·obtain⟨A,c,rfl,-⟩:=own.reads
  refine Cd.exit (ab.aA (ab.ay (ab.az (aJ (aj ?_)))));refine Zm ?_;refine Zc (Ze Tryz.func87) (fI g q _ rd) ?_;rintro e w5 ⟨rfl,hb5⟩;refine⟨_,rfl,?_⟩;replace kf:=kf.step hb5;replace rd:=rd.step hb5;replace own:=own.step hb5;refine iC ?_;refine bl 0 2 7 8 21 32 (Zt ?_);refine Cd.cond rfl (fun h2=> ?_) (fun h2=> ?_)
  ·skip
   refine aj ?_;refine Za ?_;refine bp 0 2 6 7 8 21 32 (Zt (Cd.ret (ab.af ?_)));refine aX ?_;exact⟨[],_,⟨by simp,by simp,none,0,rfl,Own.nil _ _ _ _⟩,kf,rd⟩
  ·skip
   refine Cd.skip (aB ?_);refine Zm ?_;refine Za ?_;refine bp 0 2 6 7 8 21 32 (Zt (Cd.ret ?_));refine aX ?_;exact⟨acc,_,⟨by omega,hall,A,c,rfl,own⟩,kf,rd⟩
theorem zI (g most:Nat)(o:Option (List Nat))(w:World)(h:Rd 146 w g o)(hm:most≤20000):Calls Tryz.prog 116 #[.pointer (some ⟨g,0,none⟩), .int .i64 (most:Int), .func (.func 117) #[] #[]] w fun e w'=>∃(l:List (List Nat)) (q:Option (List Nat)),(l.length≤most∧(∀x∈l,oH x∧x.length≤16000)∧∃A c,e= .returned (.slice A l.length c)∧Own w' w.heap.size 9 1 (.slice A l.length c) l.length (DS l))∧Kf g w w'∧Rd 146 w' g q:=by
 have rd:=h;have kf:=Kf.refl g w;refine Zs 34 Tryz.func116 ?_;refine aj ?_;refine Za ?_;refine aZ 0 1 2 6 (aB ?_);refine Zm ?_;refine Zc (Ze Tryz.func42) (fg g o _ rd) ?_;rintro e w1 ⟨n,⟨hn,hv,rfl⟩,fw1,rd'⟩;refine⟨_,rfl,?_⟩;replace kf:=kf.kf fw1 rd;replace rd:=rd';clear rd';refine Za ?_;refine aU 0 1 2 6 7 (Zt ?_);refine Cd.lC (σ:=Option (List Nat)) (fun _=>[(0, .pointer (some ⟨g,0,none⟩)),(2, .func (.func 117) #[] #[]),(7, .int .i64 (n:Int))]) (fun q wr=>Kf g w wr∧Rd 146 wr g q∧(q.isSome=true→n≤most)) ?_ ?_
 ·skip
  refine aj ?_;refine Zm ?_;refine Zm ?_;refine tU ?_;refine bl 0 1 2 6 7 13 (Zt ?_);refine Cd.au rfl (fun hc=> ?_) (fun hc=> ?_)
  ·skip
   refine Zr ?_;refine Zm ?_;refine Zc (Ze Tryz.func85) (jw g _ _ rd) ?_;rintro e w2 ⟨rfl,fw2,rd'⟩;refine⟨_,rfl,?_⟩;replace kf:=kf.kf fw2 rd;replace rd:=rd';clear rd';refine bl 0 1 2 6 7 13 ?_;exact ab.join none ⟨rfl,rfl,rfl,trivial⟩ ⟨kf,rd,by simp⟩
  ·skip
   refine Cd.skip ?_;exact ab.join (rest kn o) ⟨rfl,rfl,rfl,trivial⟩ ⟨kf,rd,fun _=>by omega⟩
 clear kf rd;rintro q0 wr ⟨kf,rd,hq1⟩;refine aj ?_;refine Za ?_;refine aZ 0 2 7 8 (aJ (Cd.block ?_));have own:Own wr w.heap.size 9 1 (.slice none 0 0) 0 []:=Own.nil _ _ _ _
 refine Cd.loop (σ:=Nat × List (List Nat) × Value × Option (List Nat)) (fun s=>[(0, .pointer (some ⟨g,0,none⟩)),(2, .func (.func 117) #[] #[]),(7, .int .i64 (s.1:Int)),(8,s.2.2.1)])
  (fun s wr=>s.1<9223372036854775808∧s.2.1.length≤most∧(s.2.2.2.isSome=true→s.2.1.length+s.1≤most)∧(∀x∈s.2.1,oH x∧x.length≤16000)∧Kf g w wr∧Rd 146 wr g s.2.2.2∧Own wr w.heap.size 9 1 s.2.2.1 s.2.1.length (DS s.2.1)) (fun s=>s.1) (n,[], .slice none 0 0,q0) ⟨hn,Nat.zero_le _,fun h=>by simpa using hq1 h,by simp,kf,rd,own⟩ ⟨rfl,rfl,rfl,rfl,trivial⟩ ?_
 clear kf rd;clear own;rintro⟨k,acc,v,q⟩ wr ⟨hk,hacc,hsome,hall,kf,rd,own⟩;simp only at hk hacc hsome hall rd own;show Cd _ _ _ _ [(0, .pointer (some ⟨g,0,none⟩)),(2, .func (.func 117) #[] #[]),(7, .int .i64 (k:Int)),(8,v)] _;refine Cd.seq (aj ?_);refine Zm ?_;refine tU ?_;refine Zm ?_;refine av.start ?_;refine bk (fun hcx=>aa.move rfl rfl) ?_;refine av.bj rfl rfl rfl rfl rfl rfl rfl (fun hcx=>Ze Tryz.func87) (fun hcx=>fI g q _ rd) ?_;intro w2 hw2;replace kf:=kf.step hw2;replace rd:=rd.step hw2;replace own:=own.step hw2;refine ep ?_;refine aU 0 2 7 8 21 (Zt ?_);refine Cd.cond rfl (fun h=> ?_) (fun h=> ?_)
 ·obtain⟨k,rfl⟩:∃j,k=j+1:=⟨k-1,by simp at h;omega⟩
  obtain⟨s,rfl⟩:∃s,q=some s:=by
   cases q with
   |none=>simp at h
   |some s=>exact⟨s,rfl⟩
  have hsm:=hsome rfl;refine Cd.skip (aJ (Cd.block (Zr ?_)));refine Zm ?_;refine Zm ?_;refine Zm ?_;refine Seq.call (Enters.value (first:=[]) (cap:=[]) rfl rfl rfl EY) rfl rfl rfl (D9 g _ _ rd) ?_;rintro e w3 ⟨z,q2,⟨hz1,hz2,rfl⟩,fw3,rd'⟩;refine⟨_,rfl,?_⟩;replace kf:=kf.kf fw3 rd;replace own:=own.kf fw3 rd;replace rd:=rd';clear rd';have hz:=And.intro hz1 hz2;refine Seq.slice (vs:=[_]) (s:=1) rfl rfl rfl Tryz.underlying66 (by kernel_rfl) (cJ) (by omega) (by omega) ⟨rfl,trivial⟩ rfl rfl rfl ?_;intro g28 w4 n28;have e28:=Nat.le_trans kf.size n28.ge;replace kf:=kf.step n28.below;replace rd:=rd.step n28.below;replace own:=own.step n28.below;have k28:=n28.ao;have hrd:=Reads.ao (size:=1) k28 1 rfl;refine Seq.append rfl rfl rfl Tryz.underlying66 (by kernel_rfl) cJ rfl (by decide) (b:=16) (by kernel_rfl) own (hrd) (by intro x hx;simp[ax,Value.cells] at hx;rw[hx];rfl) kf.size (by simp only[maxLen];omega) (by omega) rfl rfl rfl ?_;intro vw5 w5 ow5 haw5;replace kf:=kf.app own haw5;replace rd:=rd.app own haw5;clear own;have own:=ow5;refine Za ?_;refine aU 0 2 7 8 21 (ab.ai (dU ?_));refine Zm ?_;refine rF ?_;refine Za ?_;refine aU 0 2 7 8 21 ?_;refine ab.round (k,acc++[z],_,_) ⟨rfl,rfl,ny (by omega),rfl,trivial⟩ ⟨by simp only;omega,by simp;omega,fun hh=>by simp;omega,fun x hx=> ?_,kf,rd,by simp only;rw[List.length_append,Dq];exact own⟩ (by simp);rcases List.mem_append.1 hx with hx|hx
  ·exact hall x hx
  ·simp at hx;subst hx;exact hz
 ·obtain⟨A,c,rfl,-⟩:=own.reads
  refine Cd.exit (ab.aA (ab.ay (ab.az (aJ (aj ?_)))));refine Zm ?_;refine Zc (Ze Tryz.func87) (fI g q _ rd) ?_;rintro e w5 ⟨rfl,hb5⟩;refine⟨_,rfl,?_⟩;replace kf:=kf.step hb5;replace rd:=rd.step hb5;replace own:=own.step hb5;refine iC ?_;refine bl 0 2 7 8 21 32 (Zt ?_);refine Cd.cond rfl (fun h2=> ?_) (fun h2=> ?_)
  ·skip
   refine aj ?_;refine Za ?_;refine bp 0 2 6 7 8 21 32 (Zt (Cd.ret (ab.af ?_)));refine aX ?_;exact⟨[],_,⟨by simp,by simp,none,0,rfl,Own.nil _ _ _ _⟩,kf,rd⟩
  ·skip
   refine Cd.skip (aB ?_);refine Zm ?_;refine Za ?_;refine bp 0 2 6 7 8 21 32 (Zt (Cd.ret ?_));refine aX ?_;exact⟨acc,_,⟨by omega,hall,A,c,rfl,own⟩,kf,rd⟩
theorem rv (g most:Nat)(o:Option (List Nat))(w:World)(h:Rd 146 w g o)(hm:most≤20000):Calls Tryz.prog 68 #[.pointer (some ⟨g,0,none⟩), .int .i64 (most:Int)] w fun e w'=>∃(l:List (List Nat)) (q:Option (List Nat)),(l.length≤most∧(∀x∈l,oH x∧x.length≤16000)∧∃A c,e= .returned (.slice A l.length c)∧Own w' w.heap.size 9 1 (.slice A l.length c) l.length (DS l))∧Kf g w w'∧Rd 146 w' g q:=by
 have rd:=h;have kf:=Kf.refl g w;refine Zs 8 Tryz.func68 ?_;refine aj ?_;refine Za ?_;refine bu 0 1 4 (aB ?_);refine Zm ?_;refine Zm ?_;refine Zc (Ze Tryz.func116) (zI g most o _ rd hm) ?_;rintro e w1 ⟨l,q,⟨h1,h2,A,c,rfl,own⟩,fw1,rd'⟩;refine⟨_,rfl,?_⟩;replace kf:=kf.kf fw1 rd;replace rd:=rd';clear rd';refine Za ?_;refine bu 0 1 4 (Zt (Cd.ret ?_));refine aX ?_;exact⟨l,q,⟨h1,h2,A,c,rfl,own⟩,kf,rd⟩
theorem rN:∀(l:List (List Nat)) (acc:List Ex),(∀e∈acc,e.depth≤900)→∀e∈(lZ acc l).getD [],e.depth≤900
 | [],acc,h,e,he=>h e he
 |s::r,acc,h,e,he=>by
  rw[lZ] at he;split at he
  ·cases he
  ·exact rN r _ (fun e he=>by
    rcases List.mem_append.1 he with he|he
    ·exact h e he
    ·simp at he;subst he;exact uD s) e he
structure DW (w:World)(S:Nat→Prop)(p:Pt)(A A1 A2:Option Addr)(c1 c2:Nat):Prop where
 sU:bw p.aV
 yL:p.fD.length≤18
 flat:p.flat
 fD:tW w S p.fD A
 term:dR w S p.term (.agg #[.int .i64 p.term.op, .string (strOf p.term.name), .slice A1 p.term.exprs.length c1, .slice A2 p.term.ar.length c2])
theorem DW.mono {w w':World}{S S':Nat→Prop}{p:Pt}{A A1 A2:Option Addr}{c1 c2:Nat}(h:DW w S p A A1 A2 c1 c2)(hS:∀b,S b→S' b)(hc:∀p:Addr,S p.block→w'.cell? p=w.cell? p):DW w' S' p A A1 A2 c1 c2:=⟨h.sU,h.yL,h.flat,h.fD.mono hS hc,h.term.mono hS hc⟩
structure ox (w:World)(B hi g:Nat)(S:Nat→Prop)(all:List Ex)(A:Option Addr)(es:List Ex)(vs:List Value)(v:Value):Prop where
 all:tW w S all A
 lt:∀b,S b→b<hi∧b≠g
 tV:hi≤B
 le:B≤w.heap.size
 gB:g<B
 len:vs.length=es.length
 own:Own w B 105 4 v es.length (ax vs)
 rep:∀(i:Nat) (e:Ex) (u:Value),es[i]? =some e→vs[i]? =some u→cr w S e u
theorem ox.bN {w w':World}{B hi g:Nat}{S:Nat→Prop}{all:List Ex}{A:Option Addr}{es:List Ex}{vs:List Value}{v:Value}(h:ox w B hi g S all A es vs v)(hs:w.heap.size≤w'.heap.size)(hb:∀b,b<hi→b≠g→w'.heap[b]? =w.heap[b]?)(ho:∀b,B≤b→v.ownBlock=some b→w'.heap[b]? =w.heap[b]?):ox w' B hi g S all A es vs v:=
 have hc:∀p:Addr,S p.block→w'.cell? p=w.cell? p:=fun p hp=>World.cell?_of_block (hb _ (h.lt _ hp).1 (h.lt _ hp).2)
 ⟨h.all.mono (fun _ h=>h) hc,h.lt,h.tV,Nat.le_trans h.le hs,h.gB,h.len,h.own.fP hs fun b e=>ho b (h.own.aI b e).1 e,fun i e u h1 h2=>(h.rep i e u h1 h2).mono (fun _ h=>h) hc⟩
section
variable {w w':World} {B hi g:Nat} {S:Nat→Prop} {all:List Ex} {A:Option Addr} {es:List Ex} {vs:List Value} {v:Value}
theorem ox.step (h:ox w B hi g S all A es vs v)(hb:Below w.heap.size w w'):ox w' B hi g S all A es vs v:=
 h.bN hb.size (fun b h1 _=>hb.block b (by have:=h.tV;have:=h.le;omega)) (fun b _ e=>hb.block b (h.own.aI b e).2)
theorem ox.kf {o:Option (List Nat)}{T:TypeId}(h:ox w B hi g S all A es vs v)(f:Kf g w w')(_rd:Rd T w g o):ox w' B hi g S all A es vs v:=
 h.bN f.size (fun b h1 h2=>f.only.block b (by have:=h.tV;have:=h.le;omega) (fun e=>h2 (by injection e))) (fun b h1 e=>f.only.block b (h.own.aI b e).2 (fun e2=>by injection e2 with e2;have:=h.gB;omega))
theorem ox.put {g':Nat}{T:TypeId}{cur cs:Array Value}(h:ox w B hi g S all A es vs v)(k:aH w g' T cur)(p:hZ w w' g' T cs)(hB:B≤g')(hne:105≠T:=by decide):ox w' B hi g S all A es vs v:=by
 have ho:=h.own.put k p hB hne;exact⟨h.all.mono (fun _ h=>h) (fun q hq=>World.cell?_of_block (p.grown.block _ (by have:=(h.lt _ hq).1;have:=h.tV;have:=h.le;omega) (fun e=>by injection e with e;have:=(h.lt _ hq).1;have:=h.tV;omega))),h.lt,h.tV,Nat.le_trans h.le (Nat.le_of_eq p.size.symm),h.gB,h.len,ho,fun i e u h1 h2=>(h.rep i e u h1 h2).mono (fun _ h=>h) (fun q hq=>World.cell?_of_block (p.grown.block _ (by have:=(h.lt _ hq).1;have:=h.tV;have:=h.le;omega) (fun e=>by injection e with e;have:=(h.lt _ hq).1;have:=h.tV;omega)))⟩
end
theorem ox.add {w w':World}{B hi g:Nat}{S:Nat→Prop}{all:List Ex}{A:Option Addr}{es:List Ex}{vs:List Value}{v v' u:Value}{x:Ex}(h:ox w B hi g S all A es vs v)(hx:cr w S x u)(ho:Own w' B 105 4 v' (es.length+1) (ax vs++u.cells.toList))(ha:App w w' B v):ox w' B hi g S all A (es++[x]) (vs++[u]) v':=by
 have hc:∀p:Addr,S p.block→w'.cell? p=w.cell? p:=fun p hp=>ha.below.cell (by have:=(h.lt _ hp).1;have:=h.tV;omega);refine⟨h.all.mono (fun _ h=>h) hc,h.lt,h.tV,Nat.le_trans h.le ha.below.size,h.gB,by simp[h.len],?_,fun i e u' h1 h2=> ?_⟩
 ·have hf:ax (vs++[u])=ax vs++u.cells.toList:=by rw[bO];simp[ax]
  rw[hf,List.length_append];exact ho
 ·rcases Nat.lt_or_ge i es.length with hi|hi
  ·rw[List.getElem?_append_left hi] at h1
   rw[List.getElem?_append_left (by rw[h.len];exact hi)] at h2;exact(h.rep i e u' h1 h2).mono (fun _ h=>h) hc
  ·rw[List.getElem?_append_right hi] at h1
   rw[List.getElem?_append_right (by rw[h.len];exact hi),h.len] at h2
   have h0:i-es.length=0:=by
    have:=(List.getElem?_eq_some_iff.1 h1).1;simp at this;exact this
   rw[h0] at h1 h2;injection h1 with h1
   injection h2 with h2
   subst h1 h2;exact hx.mono (fun _ h=>h) hc
theorem oz (a:Int)(w:World):(Instr.build 108 #[(0, .int .i64 a)]).run Tryz.prog w= .ok (.agg #[.int .i64 a, .bool false, .slice none 0 0, .int .i64 0, .string (strOf []), .slice none 0 0, .slice none 0 0]) w:=by kernel_rfl
theorem zm.kf {lo hi g:Nat}{S:Nat→Prop}{x:Tm}{v:Value}{W W':World}{T:TypeId}{o:Option (List Nat)}(r:zm lo hi S x v W)(f:Kf g W W')(_rd:Rd T W g o)(hg:g<lo:=by omega):zm lo hi S x v W':=
 ⟨r.rep.mono (fun _ h=>h) (fun a ha=>World.cell?_of_block (f.only.block _ (Nat.lt_of_lt_of_le (r.bd _ ha).2 r.eV) (fun e=>by injection e with e;have:=(r.bd _ ha).1;omega))),r.bd,Nat.le_trans r.eV f.size⟩
theorem ox.fD {w:World}{B hi g n c:Nat}{S:Nat→Prop}{all:List Ex}{A A0:Option Addr}{es:List Ex}{vs:List Value}(h:ox w B hi g S all A es vs (.slice A0 n c)):tW w (fun b=>S b∨(B≤b∧b<w.heap.size)) es A0:=by
 refine tK h.len (fun i e u h1 h2=>(h.rep i e u h1 h2).mono (fun b hb=> .inl hb) (fun _ _=>rfl)) fun hne=> ?_;obtain⟨A1,c1,hv,hrd⟩:=h.own.reads;injection hv with hv1 _ _
 subst hv1
 have h0:0<es.length:=by
  rcases Nat.eq_zero_or_pos es.length with h0|h0
  ·have:=h.len
   rw[h0,List.length_eq_zero_iff] at this;rw[this] at hne;exact absurd rfl hne
  ·exact h0
 obtain⟨ad,e1,e2,e3⟩:=hrd.2 h0;exact⟨ad,e1, .inr ⟨(h.own.aI ad.block (by rw[e1];rfl)).1,e2⟩,e3⟩
theorem wB (g c hi:Nat)(o:Option (List Nat))(all:List Ex)(A:Option Addr)(S:Nat→Prop)(w:World)(h:Rd 146 w g o)(ha:tW w S all A)(hS:∀b,S b→b<hi∧b≠g)(hhi:hi≤w.heap.size)(hfl:∀e∈all,e.depth≤900)(hl:all.length≤20000):
  Calls Tryz.prog 71 #[.pointer (some ⟨g,0,none⟩), .slice A all.length c] w fun en w'=>∃(p:Pt) (A0 A1 A2:Option Addr) (c0 c1 c2:Nat) (q:Option (List Nat)),en= .returned (.agg (yq p A0 A1 A2 c0 c1 c2).toArray)∧Kf g w w'∧Rd 146 w' g q∧DW w' (fun b=>S b∨(w.heap.size≤b∧b<w'.heap.size)) p A0 A1 A2 c1 c2:=by
 have rd:=h;have kf:=Kf.refl g w;have px:ox w w.heap.size hi g S all A [] [] (.slice none 0 0):=⟨ha,hS,hhi,Nat.le_refl _,h.lt,rfl,Own.nil _ _ _ _,fun i e u h=>by cases h⟩;obtain⟨n,hn⟩:∃n,all.length=n:=⟨_,rfl⟩;rw[hn] at hl⊢;refine Zs 61 Tryz.func71 ?_;refine aj ?_;refine Zl bI ?_;intro g4 w1 n4;have e4:=Nat.le_trans kf.size n4.ge;replace kf:=kf.step n4.below;replace rd:=rd.step n4.below;replace px:=px.step n4.below;have k4:=n4.ao;refine bu 0 1 4 (aB ?_);refine Zm ?_;refine Zc (Ze Tryz.func44) (uI g o _ rd) ?_;rintro e w2 ⟨sU,⟨hfac,hv1,rfl⟩,fw2,rd'⟩;refine⟨_,rfl,?_⟩;replace kf:=kf.kf fw2 rd;replace px:=px.kf fw2 rd;replace k4:=k4.kf fw2 rd;replace rd:=rd';clear rd';refine Zv (aa.build rfl rfl (oz _ _)) ?_;refine Zl bI ?_;intro g5 w3 n5;have e5:=Nat.le_trans kf.size n5.ge;have l5:=Nat.lt_of_lt_of_le k4.lt n5.ge;replace kf:=kf.step n5.below;replace rd:=rd.step n5.below;replace px:=px.step n5.below;replace k4:=k4.step n5.below;have k5:=n5.ao;refine Zo 7 k5 ?_;intro w4 pw4;replace kf:=kf.put k5 pw4 e5;replace rd:=rd.put k5 pw4 e5;replace px:=px.put k5 pw4 e5;replace k4:=k4.put pw4 (by omega);replace k5:=pw4.ao;refine aZ 0 1 4 5 (aB ?_);refine Zm ?_;refine Zc (Ze Tryz.func42) (fg g _ _ rd) ?_;rintro e w5 ⟨tn,⟨htn,hv2,rfl⟩,fw5,rd'⟩;refine⟨_,rfl,?_⟩;replace kf:=kf.kf fw5 rd;replace px:=px.kf fw5 rd;replace k4:=k4.kf fw5 rd;replace k5:=k5.kf fw5 rd;replace rd:=rd';clear rd';refine Za ?_;refine aU 0 1 4 5 6 (aB ?_);refine Zm ?_;refine bq ?_;refine Zf 1 Tryz.underlying108 ?_;refine Zq k5 ?_;intro w6 pw6;replace kf:=kf.put k5 pw6 e5;replace rd:=rd.put k5 pw6 e5;replace px:=px.put k5 pw6 e5;replace k4:=k4.put pw6 (by omega);replace k5:=pw6.ao;refine aU 0 1 4 5 6 (Zt ?_);have k5:aH _ g5 108 #[.int .i64 sU, .bool (decide ((tn:Int)=1)), .slice none 0 0, .int .i64 0, .string (strOf []), .slice none 0 0, .slice none 0 0]:=k5;refine Cd.lC (σ:=List Ex × List Value × Value × Option (List Nat)) (fun s=>[(0, .pointer (some ⟨g,0,none⟩)),(4, .pointer (some ⟨g4,0,none⟩)),(5, .pointer (some ⟨g5,0,none⟩)),(6, .int .i64 (tn:Int))]) (fun s wr=>s.1.length≤16∧(∀e∈s.1,e.depth≤900)∧Kf g w wr∧Rd 146 wr g s.2.2.2∧ox wr w.heap.size hi g S all A s.1 s.2.1 s.2.2.1∧aH wr g4 108 #[.int .i64 0, .bool false, .slice none 0 0, .int .i64 0, .string {data:= #[]}, .slice none 0 0, .slice none 0 0]∧aH wr g5 108 #[.int .i64 sU, .bool (decide ((tn:Int)=1)),s.2.2.1, .int .i64 0, .string (strOf []), .slice none 0 0, .slice none 0 0]) ?_ ?_
 ·skip
  refine aj ?_;refine Zm ?_;refine Zc (Ze Tryz.func118) (yt g 16 _ _ rd (by omega)) ?_;rintro e w7 ⟨ls,q4,⟨hl1,hl2,A4,c4,rfl,own4⟩,fw7,rd'⟩;refine⟨_,rfl,?_⟩;replace kf:=kf.kf fw7 rd;replace px:=px.kf fw7 rd;replace k4:=k4.kf fw7 rd;replace k5:=k5.kf fw7 rd;replace rd:=rd';clear rd';refine Zv (aa.len rfl rfl Tryz.underlying96) ?_;refine Zm ?_;refine cn 0 1 4 5 6 21 22 23 (Zt (Cd.block ?_));obtain⟨m,hm⟩:∃m,ls.length=m:=⟨_,rfl⟩;obtain⟨HI,hHI⟩:∃HI,HI=w6.heap.size:=⟨_,rfl⟩
  try rw[←hHI] at own4
  rw[hm] at own4 hl1⊢
  refine Cd.loop (σ:=Nat × List Ex × List Value × Value × Option (List Nat)) (fun s=>[(0, .pointer (some ⟨g,0,none⟩)),(1, .slice A n c),(4, .pointer (some ⟨g4,0,none⟩)),(5, .pointer (some ⟨g5,0,none⟩)),(6, .int .i64 (tn:Int)),(21, .slice A4 m c4),(22, .int .i64 (m:Int)),(23, .int .i64 (s.1:Int))])
   (fun s wr=>s.1≤m∧s.2.1.length=s.1∧(∀e∈s.2.1,e.depth≤900)∧Kf g w wr∧Rd 146 wr g s.2.2.2.2∧ox wr w.heap.size hi g S all A s.2.1 s.2.2.1 s.2.2.2.1∧aH wr g4 108 #[.int .i64 0, .bool false, .slice none 0 0, .int .i64 0, .string {data:= #[]}, .slice none 0 0, .slice none 0 0]∧aH wr g5 108 #[.int .i64 sU, .bool (decide ((tn:Int)=1)),s.2.2.2.1, .int .i64 0, .string (strOf []), .slice none 0 0, .slice none 0 0]∧Own wr HI 3 1 (.slice A4 m c4) m (DJ ls)) (fun s=>m-s.1) (0,[],[], .slice none 0 0,q4) ⟨Nat.zero_le _,rfl,by simp,kf,rd,px,k4,k5,own4⟩ ⟨rfl,rfl,rfl,rfl,rfl,rfl,rfl,rfl,trivial⟩ ?_
  clear kf rd px k4 k5;clear own4;rintro⟨j,es,vs,v,q⟩ wr ⟨hj,hjl,hfe,kf,rd,px,k4,k5,own4⟩;simp only at hj hjl hfe rd px k5;show Cd _ _ _ _ [(0, .pointer (some ⟨g,0,none⟩)),(1, .slice A n c),(4, .pointer (some ⟨g4,0,none⟩)),(5, .pointer (some ⟨g5,0,none⟩)),(6, .int .i64 (tn:Int)),(21, .slice A4 m c4),(22, .int .i64 (m:Int)),(23, .int .i64 (j:Int))] _;refine aj ?_;refine ff ?_;refine du 0 1 4 5 6 21 22 23 24 (aJ ?_);refine Cd.au rfl (fun hc=> ?_) (fun hc=> ?_)
  ·obtain⟨z,hz⟩:∃z,ls[j]? =some z:=⟨_,List.getElem?_eq_getElem (show j<ls.length by omega)⟩
   obtain⟨A5,c5,hv4,hr4⟩:=own4.reads;injection hv4 with hv4 _ _
   subst hv4;obtain⟨ad,rfl,-,hc4⟩:=hr4.2 (by omega);have hc4:=hc4 j (.int .i64 (z:Int)) (by simp[DJ,hz]);refine Cd.skip (aJ (Cd.block (aj ?_)));refine Zv (aa.dg rfl rfl rfl Tryz.underlying96 (by kernel_rfl) (j:=j) rfl (by omega)) ?_;refine Zv (aa.dF rfl rfl Tryz.underlying3 rfl hc4) ?_;refine Za ?_;refine ed 0 1 4 5 6 8 21 22 23 24 (aJ (aj ?_));refine Zm ?_;refine Zm ?_;refine Zv (aa.len rfl rfl Tryz.underlying68) ?_;refine mz ?_;refine bT 0 1 4 5 6 8 21 22 23 24 30 (Zt ?_);refine Cd.au rfl (fun hc=> ?_) (fun hc=> ?_)
   ·skip
    refine aj ?_;refine Zm ?_;refine Zc (Ze Tryz.func86) (jx g (-1) _ _ rd) ?_;rintro e w8 ⟨rfl,fw8,rd'⟩;refine⟨_,rfl,?_⟩;replace kf:=kf.kf fw8 rd;replace px:=px.kf fw8 rd;replace k4:=k4.kf fw8 rd;replace k5:=k5.kf fw8 rd;replace own4:=own4.kf fw8 rd;replace rd:=rd';clear rd';refine bT 0 1 4 5 6 8 21 22 23 24 30 (Zt (Cd.exit (ab.aA ?_)));refine ab.uz rfl ?_;refine ab.aA (ab.ay (ab.az ?_));exact ab.join (es,vs,v,_) ⟨rfl,rfl,rfl,rfl,trivial⟩ ⟨by simp only;omega,hfe,kf,rd,px,k4,k5⟩
   ·obtain⟨x,hx⟩:∃x,all[z]? =some x:=⟨_,List.getElem?_eq_getElem (show z<all.length by omega)⟩
    refine Cd.skip (Zt ?_);refine fV 7 ?_;intro w8 hw8 zw8;replace kf:=kf.step hw8;replace rd:=rd.step hw8;replace px:=px.step hw8;replace k4:=k4.step hw8;replace k5:=k5.step hw8;replace own4:=own4.step hw8;have zlt:=k5.lt;obtain⟨ad2,A6,c6,rfl,hS6,hr6,hc6⟩:=px.all z x hx;have hlt6:=px.lt _ hS6;have hle6:=px.le;have hhB:=px.tV;have hdx:=hfl x (List.mem_of_getElem? hx);refine fp 2 Tryz.underlying108 ?_;refine eH Tryz.underlying68 k5 ?_;refine eJ ?_;refine eJ ?_;refine Zd (fun w hG=>aa.aR rfl rfl rfl Tryz.underlying68 (s:=4) (by kernel_rfl) (j:=z) rfl (by omega)) ?_;refine Zd (fun w hG=>aa.bP (ps:=[.int .i64 x.op, .int .i64 x.n, .string (strOf x.name), .slice A6 x.args.length c6]) rfl rfl Tryz.underlying105 rfl (m:=4) (by kernel_rfl) rfl (fun j u hj=>(Below.cell hG (by rw[ag,ag];omega)).trans (hc6 j u hj))) ?_;refine Dr.slice (vs:=[_]) (s:=4) rfl rfl rfl rfl Tryz.underlying68 (by kernel_rfl) aw (by omega) (by omega) ⟨rfl,trivial⟩ rfl ?_;refine Dr.nil ?_;refine br.open (j:=6) rfl ?_;intro u6;refine br.done (F':=[(0,_),(1,_),(4,_),(5,_),(6,_),(8,_),(21,_),(22,_),(23,_),(24,_),(30,_),(34,_),(39,_)]) rfl ⟨rfl,rfl,rfl,rfl,rfl,rfl,rfl,rfl,rfl,rfl,rfl,rfl,rfl,trivial⟩ ?_;intro w9 hw9 fw9;replace kf:=kf.step hw9;replace rd:=rd.step hw9;replace px:=px.step hw9;replace k4:=k4.step hw9;replace k5:=k5.step hw9;replace own4:=own4.step hw9;obtain⟨gz,rfl,kz,-⟩:=fw9.2;have hrd:=Reads.ao (size:=4) kz 1 rfl;have hr9:cr w9 S x (.agg #[.int .i64 x.op, .int .i64 x.n, .string (strOf x.name), .slice A6 x.args.length c6]):=hr6.mono (fun _ h=>h) (fun p hp=>Below.cell hw9 (by have:=(px.lt _ hp).1;omega));refine Seq.append rfl rfl rfl Tryz.underlying68 (by kernel_rfl) aw rfl (by decide) (b:=56) (by kernel_rfl) px.own hrd (by intro x hx;simp[ax,Value.cells] at hx;rcases hx with rfl|rfl|rfl|rfl<;>rfl) px.le (by simp only[maxLen];omega) (by omega) rfl rfl rfl ?_;intro v9 wa own9 ha;replace kf:=kf.app px.own ha;replace rd:=rd.app px.own ha;replace k4:=k4.app px.own ha;replace k5:=k5.app px.own ha;replace own4:=own4.app px.own ha;have px2:=px.add hr9 own9 ha;clear px own9 ha hrd kz hr9;have px:=px2;clear px2;obtain⟨A9,c9,rfl,-⟩:=px.own.reads;refine Zf 2 Tryz.underlying108 ?_;refine Zq k5 ?_;intro w10 pw10;replace kf:=kf.put k5 pw10 e5;replace rd:=rd.put k5 pw10 e5;replace px:=px.put k5 pw10 e5;replace k4:=k4.put pw10 (by omega);replace own4:=own4.put k5 pw10 e5;replace k5:=pw10.ao;refine bT 0 1 4 5 6 8 21 22 23 24 30 (ab.ai (dU ?_));refine dt ?_;refine Zm ?_;refine bT 0 1 4 5 6 8 21 22 23 24 30 ?_;have k5:aH _ g5 108 #[.int .i64 sU, .bool (decide ((tn:Int)=1)), .slice A9 (es++[x]).length c9, .int .i64 0, .string (strOf []), .slice none 0 0, .slice none 0 0]:=k5;refine ab.round (j+1,es++[x],_, .slice A9 (es++[x]).length c9,q) ⟨rfl,rfl,rfl,rfl,rfl,rfl,rfl,rfl,trivial⟩ ⟨by simp only;omega,by simp only[List.length_append,List.length_cons,List.length_nil];omega,fun e he=> ?_,kf,rd,px,k4,k5,own4⟩ (by simp only;omega);rcases List.mem_append.1 he with he|he
    ·exact hfe e he
    ·simp at he;subst he;exact hdx
  ·skip
   refine Cd.exit (ab.aA (ab.ay (ab.az ?_)));exact ab.join (es,vs,v,q) ⟨rfl,rfl,rfl,rfl,trivial⟩ ⟨by simp only;omega,hfe,kf,rd,px,k4,k5⟩
 clear kf rd px k4 k5;rintro⟨es,vs,v,q⟩ wr ⟨hel,hfe,kf,rd,px,k4,k5⟩;simp only at hel hfe rd px k5;obtain⟨A0,c0,rfl,-⟩:=px.own.reads;have hgw:g<w.heap.size:=h.lt;refine aj ?_;refine Zm ?_;refine Zc (Ze Tryz.func43) (fZ g 4000 _ _ rd) ?_;rintro e w7 ⟨z,q2,⟨hz1,hz2,rfl⟩,fw7,rd'⟩;refine⟨_,rfl,?_⟩;replace kf:=kf.kf fw7 rd;replace px:=px.kf fw7 rd;replace k4:=k4.kf fw7 rd;replace k5:=k5.kf fw7 rd;replace rd:=rd';clear rd';have hflT:=nS z;have hps:=fun W=>rX z W hz1 (by omega)
 generalize cA z=pz at hps hflT
 obtain⟨t,pq,pn⟩:=pz;simp only at hps hflT;have hks:=kf.size;have hg5:=k5.lt;have hg4:=k4.lt;refine Zc (Ze Tryz.func81) (hps _) ?_;rintro en w25 ⟨hb5,v2,S2,rfl,hrep,hS2⟩;obtain⟨A1,c1,A2,c2,hvX⟩:=hrep.form;subst hvX;refine⟨_,rfl,?_⟩;replace kf:=kf.step hb5;replace rd:=rd.step hb5;replace px:=px.step hb5;replace k4:=k4.step hb5;replace k5:=k5.step hb5;have h25:=hb5.size;have rs:zm _ w25.heap.size S2 t (.agg #[.int .i64 t.op, .string (strOf t.name), .slice A1 t.exprs.length c1, .slice A2 t.ar.length c2]) w25:=⟨hrep,hS2,Nat.le_refl _⟩;refine Zm ?_;refine Zx ?_;refine Zx ?_;refine Zx ?_;refine Zl aK ?_;intro g9 w8 n9;have q9:=n9.ge;have e9:=Nat.le_trans kf.size n9.ge;have l9:=Nat.lt_of_lt_of_le k5.lt n9.ge;replace kf:=kf.step n9.below;replace rd:=rd.step n9.below;replace px:=px.step n9.below;replace k4:=k4.step n9.below;replace k5:=k5.step n9.below;replace rs:=rs.step n9.below;have k9:=n9.ao;refine Zo 4 k9 ?_;intro w9 pw9;replace kf:=kf.put k9 pw9 e9;replace rd:=rd.put k9 pw9 e9;replace px:=px.put k9 pw9 e9;replace k4:=k4.put pw9 (by omega);replace k5:=k5.put pw9 (by omega);replace rs:=rs.put k9 pw9 e9;replace k9:=pw9.ao;have k9:aH _ g9 71 #[.int .i64 t.op, .string (strOf t.name), .slice A1 t.exprs.length c1, .slice A2 t.ar.length c2]:=k9;refine Za ?_;refine Za ?_;refine bl 0 4 5 6 9 11 (Zt ?_);have hgl:g<w7.heap.size:=by omega
 refine Cd.lC (σ:=Option (List Nat)) (fun _=>[(4, .pointer (some ⟨g4,0,none⟩)),(5, .pointer (some ⟨g5,0,none⟩)),(9, .pointer (some ⟨g9,0,none⟩))]) (fun q wr=>Kf g w wr∧Rd 146 wr g q∧ox wr w.heap.size hi g S all A es vs (.slice A0 es.length c0)∧zm w7.heap.size w25.heap.size S2 t (.agg #[.int .i64 t.op, .string (strOf t.name), .slice A1 t.exprs.length c1, .slice A2 t.ar.length c2]) wr∧aH wr g4 108 #[.int .i64 0, .bool false, .slice none 0 0, .int .i64 0, .string {data:= #[]}, .slice none 0 0, .slice none 0 0]∧aH wr g5 108 #[.int .i64 sU, .bool (decide ((tn:Int)=1)), .slice A0 es.length c0, .int .i64 0, .string (strOf []), .slice none 0 0, .slice none 0 0]∧aH wr g9 71 #[.int .i64 t.op, .string (strOf t.name), .slice A1 t.exprs.length c1, .slice A2 t.ar.length c2]) ?_ ?_
 ·skip
  refine aj ?_;refine Zm ?_;refine kL ?_;refine Zm ?_;refine av.start ?_;refine bk (fun hcx=>aa.move rfl rfl) ?_;refine Zn (fun hcx=>aa.gtr rfl rfl rfl) ?_;refine eG ?_;refine bp 0 4 5 6 9 11 55 (Zt ?_);refine Cd.cond rfl (fun hq=> ?_) (fun hq=> ?_)
  ·skip
   refine Zr ?_;refine Zm ?_;refine Zc (Ze Tryz.func86) (jx g (-1) _ _ rd) ?_;rintro e w10 ⟨rfl,fw10,rd'⟩;refine⟨_,rfl,?_⟩;replace kf:=kf.kf fw10 rd;replace px:=px.kf fw10 rd;replace k4:=k4.kf fw10 rd;replace k5:=k5.kf fw10 rd;replace rs:=rs.kf fw10 rd;replace k9:=k9.kf fw10 rd;replace rd:=rd';clear rd';refine bp 0 4 5 6 9 11 55 ?_;exact ab.join _ ⟨rfl,rfl,rfl,trivial⟩ ⟨kf,rd,px,rs,k4,k5,k9⟩
  ·skip
   refine Cd.skip ?_;exact ab.join _ ⟨rfl,rfl,rfl,trivial⟩ ⟨kf,rd,px,rs,k4,k5,k9⟩
 clear kf rd px k4 k5 rs k9;rintro q3 wr3 ⟨kf,rd,px,rs,k4,k5,k9⟩;refine aj ?_;refine ZW 4 Tryz.underlying71 k9 ?_;refine Zf 3 Tryz.underlying108 ?_;refine Zo 4 k5 ?_;intro w10 pw10;replace kf:=kf.put k5 pw10 e5;replace rd:=rd.put k5 pw10 e5;replace px:=px.put k5 pw10 e5;replace k4:=k4.put pw10 (by omega);replace rs:=rs.put k5 pw10 e5;replace k9:=k9.put pw10 (by omega);replace k5:=pw10.ao;refine bu 4 5 9 (aB ?_);have k5:aH _ g5 108 #[.int .i64 sU, .bool (decide ((tn:Int)=1)), .slice A0 es.length c0, .int .i64 t.op, .string (strOf t.name), .slice A1 t.exprs.length c1, .slice A2 t.ar.length c2]:=k5;refine ZW 7 Tryz.underlying108 k5 ?_;refine Zo 7 k4 ?_;intro w11 pw11;replace kf:=kf.put k4 pw11 e4;replace rd:=rd.put k4 pw11 e4;replace px:=px.put k4 pw11 e4;replace k5:=k5.put pw11 (by omega);replace rs:=rs.put k4 pw11 e4;replace k4:=pw11.ao;refine bu 4 5 9 (Zt (Cd.ret ?_));refine jU 7 k4 Tryz.underlying108 ?_;refine⟨⟨sU,decide ((tn:Int)=1),es,t⟩,A0,A1,A2,c0,c1,c2,q3,rfl,kf,rd,hfac,Nat.le_trans hel (by decide),⟨hflT,hfe⟩,px.fD,rs.rep.mono (fun b hb=> .inr ⟨?_,Nat.lt_of_lt_of_le (rs.bd b hb).2 rs.eV⟩) (fun _ _=>rfl)⟩;have:=(rs.bd b hb).1;omega
theorem Cg (g g1 c hi:Nat)(o:Option (List Nat))(all:List Ex)(A:Option Addr)(S:Nat→Prop)(w:World)(h:Rd 146 w g o)(k1:aH w g1 68 #[.slice A all.length c]) (ha:tW w S all A) (hS:∀b,S b→b<hi∧b≠g) (hhi:hi≤w.heap.size) (hfl:∀e∈all,e.depth≤900) (hl:all.length≤20000):
  Calls Tryz.prog 70 #[.pointer (some ⟨g,0,none⟩), .pointer (some ⟨g1,0,none⟩)] w fun en w'=>∃(p:Pt) (A0 A1 A2:Option Addr) (c0 c1 c2:Nat) (q:Option (List Nat)),en= .returned (.agg (yq p A0 A1 A2 c0 c1 c2).toArray)∧Kf g w w'∧Rd 146 w' g q∧DW w' (fun b=>S b∨(w.heap.size≤b∧b<w'.heap.size)) p A0 A1 A2 c1 c2:=by
 have rd:=h;have kf:=Kf.refl g w;have px:ox w w.heap.size hi g S all A [] [] (.slice none 0 0):=⟨ha,hS,hhi,Nat.le_refl _,h.lt,rfl,Own.nil _ _ _ _,(fun i e u h=>by cases h)⟩;obtain⟨n,hn⟩:∃n,all.length=n:=⟨_,rfl⟩;rw[hn] at hl k1;refine Zs 7 Tryz.func70 ?_;refine aj ?_;refine Zl bI ?_;intro g3 w1 n3;have e3:=Nat.le_trans kf.size n3.ge;have l3:=Nat.lt_of_lt_of_le k1.lt n3.ge;replace kf:=kf.step n3.below;replace rd:=rd.step n3.below;replace px:=px.step n3.below;replace k1:=k1.step n3.below;have k3:=n3.ao;refine bu 0 1 3 (aB ?_);refine Zm ?_;refine ZL Tryz.underlying68 k1 ?_;rw[←hn] at hl;rw[←hn];refine Zc (Ze Tryz.func71) (wB g c hi _ all A S _ rd px.all hS (Nat.le_trans hhi kf.size) hfl hl) ?_;rintro en w5 ⟨p,A0,A1,A2,c0,c1,c2,q,rfl,f5,rd5,ps⟩;refine⟨_,rfl,?_⟩;have k3':=k3.kf f5 rd;have kf5:=kf.trans f5;have hk1:=k3.lt;have hkf:=kf.size;clear k3 kf rd;have k3:=k3';have kf:=kf5;have rd:=rd5;clear k3' kf5 rd5;have e3:w.heap.size≤g3:=n3.ge;unfold yq;refine Zo 7 k3 ?_;intro w2 pw2;replace kf:=kf.put k3 pw2 e3;replace rd:=rd.put k3 pw2 e3;replace k3:=pw2.ao;refine bu 0 1 3 (Zt (Cd.ret ?_));refine jU 7 k3 Tryz.underlying108 ?_;refine⟨p,A0,A1,A2,c0,c1,c2,q,rfl,kf,rd,ps.mono (fun b hb=> ?_) (fun a ha=>World.cell?_of_block (pw2.grown.block _ ?_ (fun e=> ?_)))⟩
 ·rcases hb with hb|hb
  ·exact .inl hb
  ·exact .inr ⟨by omega,by have:=pw2.size;omega⟩
 ·rcases ha with ha|ha
  ·have:=(hS _ ha).1
   have:=f5.size;omega
  ·exact ha.2
 ·injection e with e
  rcases ha with ha|ha
  ·have:=(hS _ ha).1
   omega
  ·omega
end Go.Proofs.YtigoimhndlnhfaaGreat