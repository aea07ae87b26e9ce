/-
  Texts that were joined: TreL, KN, TreM, TreN, TreO, TreP, TrmA, TrmB, TrmC, TrmD, TrmE, TrmF, TrmG, TrmH, TrmI, TrmJ, TrmK, TrmL, TrmM, TrmN, TrmO, TrmP, ParA, PanA, PanB, PanC, PanD. Conditions: what each theorem names.
-/
import Derived.Test.YtigoimhndlnhfaaGreatF2
set_option linter.unusedSectionVars false
namespace Go.Proofs.YtigoimhndlnhfaaGreat
open Go.RowKit
theorem qd (x:Ex)(least:Int)(A:Option Addr)(c:Nat)(w:World)(ho:bm x.op)(hl:(bO x).length≤100000)(hE:∀W,Below w.heap.size w W→Calls Tryz.prog 64 #[.agg #[.int .i64 x.op, .int .i64 x.n, .string (strOf x.name), .slice A x.args.length c]] W fun en w'=>en= .returned (.string (strOf (bO x)))∧Grow W w'):
  Calls Tryz.prog 112 #[.agg #[.int .i64 x.op, .int .i64 x.n, .string (strOf x.name), .slice A x.args.length c], .int .i64 least] w fun en w'=>en= .returned (.string (strOf (pg x least)))∧Grow w w':=by
 have ab:=Below.refl w.heap.size w;refine Zs 22 Tryz.func112 ?_;refine aj ?_;refine Seq.box rfl rfl rfl rfl rfl ?_;intro g2 w1 n2;have e2:=Nat.le_trans ab.size n2.ge;replace ab:=ab.step n2.below;have k2:=n2.an;refine Za ?_;refine aQ 0 1 2 4 (aB ?_);refine Zf 0 Tryz.underlying105 ?_;refine ZL Tryz.underlying3 k2 ?_;refine Zc (Ze Tryz.func109) (uW x.op _ ho) ?_;rintro en w5 ⟨rfl,hb5⟩;refine⟨_,rfl,?_⟩;replace ab:=ab.step hb5;replace k2:=k2.step hb5;refine Zm ?_;refine Zx ?_;refine Zx ?_;refine Za ?_;refine Za ?_;refine aO 0 1 2 4 6 (aI (aj ?_));refine Zm ?_;refine Zm ?_;refine eI ?_;refine aY 0 1 2 4 6 15 (Zt ?_);refine Cd.ak rfl (fun hc=> ?_) (fun hc=> ?_)
 ·skip
  refine aj ?_;refine ZW 4 Tryz.underlying105 k2 ?_;refine Zc (Ze Tryz.func64) (hE _ ab) ?_;rintro en w6 ⟨rfl,hb6⟩;refine⟨_,rfl,?_⟩;replace ab:=ab.step hb6;replace k2:=k2.step hb6;refine Zv (aa.eD (a:=[40]) rfl rfl rfl (by simp only[List.length_cons,List.length_nil];omega)) ?_;refine Zv (aa.eD (b:=[41]) rfl rfl rfl (by simp only[List.length_append,List.length_cons,List.length_nil];omega)) ?_;refine Za ?_;refine aY 0 1 2 4 6 15 (Zt (Cd.ret (ae.af ?_)));refine aZ ?_;unfold pg jC;rw[if_pos (show(cO x).1<least from hc)];exact⟨rfl,ab⟩
 ·skip
  refine Cd.skip (aB ?_);refine ZW 4 Tryz.underlying105 k2 ?_;refine Zc (Ze Tryz.func64) (hE _ ab) ?_;rintro en w6 ⟨rfl,hb6⟩;refine⟨_,rfl,?_⟩;replace ab:=ab.step hb6;replace k2:=k2.step hb6;refine Za ?_;refine aY 0 1 2 4 6 15 (Zt (Cd.ret ?_));refine aZ ?_;unfold pg jC;rw[if_neg (show¬(cO x).1<least from hc)];exact⟨rfl,ab⟩
theorem uC (N:Nat):∀(e:Ex) (B:Nat) (v:Value) (w:World),e.nodes≤N→e.nodes≤200→bE e=true→rE w B e v→B≤w.heap.size→Calls Tryz.prog 64 #[v] w fun en w'=>en= .returned (.string (strOf (bO e)))∧Grow w w':=by
 induction N with
 |zero=>intro e B v w hN;have:=e.cR;omega
 |succ N ih=>
 intro e B v w hN h200 hbt hrep hB;obtain⟨A,c,rfl,hv⟩:=hrep.open;have hbd:=fM e.nodes e (Nat.le_refl _) hbt;obtain⟨hh,hargs⟩:=mS hbt;obtain⟨h1,h2,h3,h4,h5,h6⟩:=oM hh;obtain⟨o1,o2,o3,o4,o5,o6⟩:=qn h1;obtain⟨b1,b2,b3,b4⟩:=mx e.op;have hT:=qQ e;unfold ud at hT
 have hrec:∀i x,e.args[i]? =some x→∃ad A' c',A=some ad∧x.nodes≤200∧(bO x).length≤50*x.nodes∧bm x.op∧
   (∀W,Below w.heap.size w W→∀(j:Nat) (u:Value),([.int .i64 x.op, .int .i64 x.n, .string (strOf x.name), .slice A' x.args.length c']:List Value)[j]? =some u→W.cell? ((ad.add (i*4)).add j)=some u)∧
   (∀W,Below w.heap.size w W→Calls Tryz.prog 64 #[.agg #[.int .i64 x.op, .int .i64 x.n, .string (strOf x.name), .slice A' x.args.length c']] W fun en w'=>en= .returned (.string (strOf (bO x)))∧Grow W w'):=fun i x hx=>by
  obtain⟨ad,A',c',e1,e2,e3,e4⟩:=hv.arg i x hx;have hmem:=List.mem_of_getElem? hx;have hnd:=Ex.gL hmem;have hbx:=hargs x hmem;obtain⟨_,_,-,hvx⟩:=e3.open;exact⟨ad,A',c',e1,by omega,(fM x.nodes x (Nat.le_refl _) hbx).1,hvx.op,fun W hb j u hu=>(hb.cell (by rw[av,av];omega)).trans (e4 j u hu),fun W hb=>ih x B _ W (by omega) (by omega) hbx (e3.below (hb.mono hB)) (Nat.le_trans hB hb.size)⟩
 have ab:=Below.refl w.heap.size w;refine Zs 120 Tryz.func64 ?_;refine aj ?_;refine Seq.box rfl rfl rfl rfl rfl ?_;intro g1 w1 n1;have e1:=Nat.le_trans ab.size n1.ge;replace ab:=ab.step n1.below;have k1:=n1.an;refine Za ?_;refine bn 0 1 2 (aB ?_);refine Zf 0 Tryz.underlying105 ?_;refine ZL Tryz.underlying3 k1 ?_;refine Zc (Ze Tryz.func109) (uW e.op _ hv.op) ?_;rintro en w5 ⟨rfl,hb5⟩;refine⟨_,rfl,?_⟩;replace ab:=ab.step hb5;replace k1:=k1.step hb5;refine Zm ?_;refine Zx ?_;refine Zx ?_;refine Za ?_;refine Za ?_;refine aO 0 1 2 3 4 (aI (Cd.block (aj ?_)));refine Zf 0 Tryz.underlying105 ?_;refine ZL Tryz.underlying3 k1 ?_;refine bC ?_;refine Za ?_;refine aY 0 1 2 3 4 13 (Zt ?_);refine Cd.ak rfl (fun c1=> ?_) (fun c1=> ?_)
 ·rw[if_pos c1] at hT
  refine aj ?_;refine Zf 1 Tryz.underlying105 ?_;refine ZL Tryz.underlying2 k1 ?_;refine Zc (Ze Tryz.func110) (tB e.n _ hv.n) ?_;rintro en w6 ⟨rfl,hb6⟩;refine⟨_,rfl,?_⟩;replace ab:=ab.step hb6;replace k1:=k1.step hb6;refine Za ?_;refine aY 0 1 2 3 4 13 (Zt (Cd.ret (ae.ag (ae.af ?_))));refine aZ ?_;rw[hT];exact⟨rfl,ab⟩
 rw[if_neg c1] at hT;refine aj ?_;refine Zf 0 Tryz.underlying105 ?_;refine ZL Tryz.underlying3 k1 ?_;refine bC ?_;refine Za ?_;refine ba 0 1 2 3 4 13 20 (Zt ?_);refine Cd.ak rfl (fun c2=> ?_) (fun c2=> ?_)
 ·rw[if_pos c2] at hT
  have hday:∀W,Calls Tryz.prog 111 #[.int .i64 e.n] W fun e1 w'=>e1= .returned (.string (strOf (r7 e.n.toNat)))∧Grow W w':=fun W=>by
   have:=Er e.n.toNat W (by have:=h5 c2;omega)
   rwa [Int.toNat_of_nonneg h4] at this
  refine aj ?_;refine Zf 1 Tryz.underlying105 ?_;refine ZL Tryz.underlying2 k1 ?_;refine Zc (Ze Tryz.func111) (hday _) ?_;rintro en w6 ⟨rfl,hb6⟩;refine⟨_,rfl,?_⟩;replace ab:=ab.step hb6;replace k1:=k1.step hb6;refine Za ?_;refine ba 0 1 2 3 4 13 20 (Zt (Cd.ret (ae.ag (ae.af ?_))));refine aZ ?_;rw[hT];exact⟨rfl,ab⟩
 rw[if_neg c2] at hT;refine aj ?_;refine Zf 0 Tryz.underlying105 ?_;refine ZL Tryz.underlying3 k1 ?_;refine bC ?_;refine Za ?_;refine cB 0 1 2 3 4 13 20 27 (Zt ?_);refine Cd.ak rfl (fun c3=> ?_) (fun c3=> ?_)
 ·rw[if_pos c3] at hT
  refine aj ?_;refine Zf 2 Tryz.underlying105 ?_;refine ZL Tryz.underlying9 k1 ?_;refine Za ?_;refine cB 0 1 2 3 4 13 20 27 (Zt (Cd.ret (ae.ag (ae.af ?_))));refine aZ ?_;rw[hT];exact⟨rfl,ab⟩
 rw[if_neg c3] at hT;refine aj ?_;refine Zf 0 Tryz.underlying105 ?_;refine ZL Tryz.underlying3 k1 ?_;refine bC ?_;refine Za ?_;refine dY 0 1 2 3 4 13 20 27 33 (Zt ?_);refine Cd.ak rfl (fun c4=> ?_) (fun c4=> ?_)
 ·rw[if_pos c4] at hT
  refine aj ?_;refine Za ?_;refine dY 0 1 2 3 4 13 20 27 33 (Zt (Cd.ret (ae.ag (ae.af ?_))));refine aZ ?_;rw[hT];exact⟨rfl,ab⟩
 rw[if_neg c4] at hT
 obtain⟨x,r,hxr⟩:∃x r,e.args=x::r:=by
  have:e.args.length≠0:=by omega
  cases hx:e.args with
  |nil=>rw[hx] at this;simp at this
  |cons x r=>exact⟨x,r,rfl⟩
 obtain⟨ad,A0,c0,hAd,x1,x2,x3,x4,x5⟩:=hrec 0 x (by rw[hxr];rfl);subst hAd;have hlen:1≤e.args.length:=by rw[hxr];simp
 have hg0:(e.args.map cO).getD 0 (7,[])=cO x:=by rw[hxr];rfl
 rw[hg0] at hT;have hin0:∀W least,Below w.heap.size w W→Calls Tryz.prog 112 #[.agg #[.int .i64 x.op, .int .i64 x.n, .string (strOf x.name), .slice A0 x.args.length c0], .int .i64 least] W fun en w'=>en= .returned (.string (strOf (pg x least)))∧Grow W w':=fun W least hb=>qd x least A0 c0 W x3 (by omega) fun W2 hb2=>x5 W2 (hb.step hb2);have hil0:∀least,(pg x least).length≤20000:=fun least=>by have:=(lT least (cO x)).1;have e1:(cO x).2=bO x:=rfl;rw[e1] at this;unfold pg;omega
 refine aj ?_;refine Zm ?_;refine bC ?_;refine Za ?_;refine dq 0 1 2 3 4 13 20 27 33 37 (Zt ?_);refine Cd.ak rfl (fun c5=> ?_) (fun c5=> ?_)
 ·rw[if_pos c5] at hT
  refine aj ?_;refine Zm ?_;refine Zf 3 Tryz.underlying105 ?_;refine ZL Tryz.underlying68 k1 ?_;refine Zv (aa.bI rfl rfl rfl Tryz.underlying68 (s:=4) (by kernel_rfl) (j:=0) rfl (by omega)) ?_;refine Zv (aa.ep (ps:=[.int .i64 x.op, .int .i64 x.n, .string (strOf x.name), .slice A0 x.args.length c0]) rfl rfl Tryz.underlying105 rfl (m:=4) (by kernel_rfl) rfl (x4 _ ab)) ?_;refine Zc (Ze Tryz.func112) (hin0 _ 6 ab) ?_;rintro en w6 ⟨rfl,hb6⟩;refine⟨_,rfl,?_⟩;replace ab:=ab.step hb6;replace k1:=k1.step hb6;have hi6:=hil0 6;refine Zv (aa.eD rfl rfl rfl (by omega)) ?_;refine Za ?_;refine dq 0 1 2 3 4 13 20 27 33 37 (Zt (Cd.ret (ae.ag (ae.af ?_))));refine aZ ?_;rw[hT];exact⟨rfl,ab⟩
 rw[if_neg c5] at hT;refine aj ?_;refine Zm ?_;refine bC ?_;refine Za ?_;refine dv 0 1 2 3 4 13 20 27 33 37 47 (Zt ?_)
 have hbin:(bu e.op).2<6→∃y r',r=y::r':=fun hlt=>by
  have hop:e.op≤18:=by
   rcases Int.lt_or_le 18 e.op with h|h
   ·exfalso
    have:e.op=19∨e.op=20∨e.op=21:=by omega
    rcases this with h|h|h<;>rw[h] at hlt<;>revert hlt<;>decide
   ·exact h
  have:=o4 (by omega) hop;rw[hxr] at this
  cases r with
  |nil=>simp at this
  |cons y r'=>exact⟨y,r',rfl⟩
 refine Cd.ak rfl (fun c6=> ?_) (fun c6=> ?_)
 ·rw[if_pos c6] at hT
  obtain⟨y,r',rfl⟩:=hbin (by omega);obtain⟨ad',A1,c1',hAd,y1,y2,y3,y4,y5⟩:=hrec 1 y (by rw[hxr];rfl);injection hAd with hAd
  subst hAd;have hlen2:2≤e.args.length:=by rw[hxr];simp
  have hg1:(e.args.map cO).getD 1 (7,[])=cO y:=by rw[hxr];rfl
  rw[hg1] at hT;have hin1:∀W least,Below w.heap.size w W→Calls Tryz.prog 112 #[.agg #[.int .i64 y.op, .int .i64 y.n, .string (strOf y.name), .slice A1 y.args.length c1'], .int .i64 least] W fun en w'=>en= .returned (.string (strOf (pg y least)))∧Grow W w':=fun W least hb=>qd y least A1 c1' W y3 (by omega) fun W2 hb2=>y5 W2 (hb.step hb2);have hil1:∀least,(pg y least).length≤20000:=fun least=>by have:=(lT least (cO y)).1;have e1:(cO y).2=bO y:=rfl;rw[e1] at this;unfold pg;omega
  have i0:=hil0 4;have i1:=hil1 4;refine Cd.seq ?_;refine Cd.eB (F':=[(0,_),(1,_),(3,_),(4,_),(13,_),(20,_),(27,_),(33,_),(37,_),(47,_)]) ⟨rfl,rfl,rfl,rfl,rfl,rfl,rfl,rfl,rfl,rfl,trivial⟩ ?_;refine ff 16 ?_;intro w2 hw2 zw2;replace ab:=ab.step hw2;replace k1:=k1.step hw2;have zbel:=ab.size;have zlt:=k1.lt;refine eV 3 Tryz.underlying105 ?_;refine dZ Tryz.underlying68 k1 ?_;refine Zd (fun w hG=>aa.bI rfl rfl rfl Tryz.underlying68 (s:=4) (by kernel_rfl) (j:=0) rfl (by omega)) ?_;refine Zd (fun w hG=>aa.ep (ps:=[.int .i64 x.op, .int .i64 x.n, .string (strOf x.name), .slice A0 x.args.length c0]) rfl rfl Tryz.underlying105 rfl (m:=4) (by kernel_rfl) rfl (x4 _ (ab.step hG))) ?_;refine Dr.cJ rfl (fun w=>Ze Tryz.func112) rfl (fun w hG=>hin0 _ 4 (ab.step hG)) ?_;refine Zd (fun w hG=>aa.eD (b:=[32]) rfl rfl rfl (by simp only[List.length_cons,List.length_nil];omega)) ?_;refine cf ?_;refine Zd (fun w hG=>aa.eD rfl rfl rfl (by simp only[List.length_append,List.length_cons,List.length_nil];omega)) ?_;refine Zd (fun w hG=>aa.eD (b:=[32]) rfl rfl rfl (by simp only[List.length_append,List.length_cons,List.length_nil];omega)) ?_;refine eV 3 Tryz.underlying105 ?_;refine dZ Tryz.underlying68 k1 ?_;refine Zd (fun w hG=>aa.bI rfl rfl rfl Tryz.underlying68 (s:=4) (by kernel_rfl) (j:=1) rfl (by omega)) ?_;refine Zd (fun w hG=>aa.ep (ps:=[.int .i64 y.op, .int .i64 y.n, .string (strOf y.name), .slice A1 y.args.length c1']) rfl rfl Tryz.underlying105 rfl (m:=4) (by kernel_rfl) rfl (y4 _ (ab.step hG))) ?_;refine Dr.cJ rfl (fun w=>Ze Tryz.func112) rfl (fun w hG=>hin1 _ 4 (ab.step hG)) ?_;refine Zd (fun w hG=>aa.eD rfl rfl rfl (by simp only[List.length_append,List.length_cons,List.length_nil];omega)) ?_;refine Zd (fun w hG=>aa.assign rfl rfl) ?_;refine Dr.nil ?_;refine bb.done (F':=[(0,_),(1,_),(2,_),(3,_),(4,_),(13,_),(20,_),(27,_),(33,_),(37,_),(47,_)]) rfl ⟨rfl,rfl,rfl,rfl,rfl,rfl,rfl,rfl,rfl,rfl,rfl,trivial⟩ ?_;intro w3 hw3 fw3;replace ab:=ab.step hw3;replace k1:=k1.step hw3;refine dv 0 1 2 3 4 13 20 27 33 37 47 (Zt (Cd.ret (ae.ag (ae.af ?_))));refine aZ ?_;rw[hT];exact⟨rfl,ab⟩
 rw[if_neg c6] at hT;refine aj ?_;refine Zm ?_;refine eI ?_;refine Za ?_;refine fY 0 1 2 3 4 13 20 27 33 37 47 65 (Zt ?_);refine Cd.ak rfl (fun c7=> ?_) (fun c7=> ?_)
 ·rw[if_pos c7] at hT
  obtain⟨y,r',rfl⟩:=hbin c7;obtain⟨ad',A1,c1',hAd,y1,y2,y3,y4,y5⟩:=hrec 1 y (by rw[hxr];rfl);injection hAd with hAd
  subst hAd;have hlen2:2≤e.args.length:=by rw[hxr];simp
  have hg1:(e.args.map cO).getD 1 (7,[])=cO y:=by rw[hxr];rfl
  rw[hg1] at hT;have hin1:∀W least,Below w.heap.size w W→Calls Tryz.prog 112 #[.agg #[.int .i64 y.op, .int .i64 y.n, .string (strOf y.name), .slice A1 y.args.length c1'], .int .i64 least] W fun en w'=>en= .returned (.string (strOf (pg y least)))∧Grow W w':=fun W least hb=>qd y least A1 c1' W y3 (by omega) fun W2 hb2=>y5 W2 (hb.step hb2);have hil1:∀least,(pg y least).length≤20000:=fun least=>by have:=(lT least (cO y)).1;have e1:(cO y).2=bO y:=rfl;rw[e1] at this;unfold pg;omega
  have i0:=hil0 (bu e.op).2;have i1:=hil1 ((bu e.op).2+1);refine Cd.seq ?_;refine Cd.eB (F':=[(0,_),(1,_),(3,_),(4,_),(13,_),(20,_),(27,_),(33,_),(37,_),(47,_),(65,_)]) ⟨rfl,rfl,rfl,rfl,rfl,rfl,rfl,rfl,rfl,rfl,rfl,trivial⟩ ?_;refine ff 19 ?_;intro w2 hw2 zw2;replace ab:=ab.step hw2;replace k1:=k1.step hw2;have zbel:=ab.size;have zlt:=k1.lt;refine eV 3 Tryz.underlying105 ?_;refine dZ Tryz.underlying68 k1 ?_;refine Zd (fun w hG=>aa.bI rfl rfl rfl Tryz.underlying68 (s:=4) (by kernel_rfl) (j:=0) rfl (by omega)) ?_;refine Zd (fun w hG=>aa.ep (ps:=[.int .i64 x.op, .int .i64 x.n, .string (strOf x.name), .slice A0 x.args.length c0]) rfl rfl Tryz.underlying105 rfl (m:=4) (by kernel_rfl) rfl (x4 _ (ab.step hG))) ?_;refine cf ?_;refine Dr.cJ rfl (fun w=>Ze Tryz.func112) rfl (fun w hG=>hin0 _ (bu e.op).2 (ab.step hG)) ?_;refine Zd (fun w hG=>aa.eD (b:=[32]) rfl rfl rfl (by simp only[List.length_cons,List.length_nil];omega)) ?_;refine cf ?_;refine Zd (fun w hG=>aa.eD rfl rfl rfl (by simp only[List.length_append,List.length_cons,List.length_nil];omega)) ?_;refine Zd (fun w hG=>aa.eD (b:=[32]) rfl rfl rfl (by simp only[List.length_append,List.length_cons,List.length_nil];omega)) ?_;refine eV 3 Tryz.underlying105 ?_;refine dZ Tryz.underlying68 k1 ?_;refine Zd (fun w hG=>aa.bI rfl rfl rfl Tryz.underlying68 (s:=4) (by kernel_rfl) (j:=1) rfl (by omega)) ?_;refine Zd (fun w hG=>aa.ep (ps:=[.int .i64 y.op, .int .i64 y.n, .string (strOf y.name), .slice A1 y.args.length c1']) rfl rfl Tryz.underlying105 rfl (m:=4) (by kernel_rfl) rfl (y4 _ (ab.step hG))) ?_;refine cf ?_;refine Zd (fun w hG=>aa.kA rfl rfl rfl (by omega) (by omega)) ?_;refine Dr.cJ rfl (fun w=>Ze Tryz.func112) rfl (fun w hG=>hin1 _ ((bu e.op).2+1) (ab.step hG)) ?_;refine Zd (fun w hG=>aa.eD rfl rfl rfl (by simp only[List.length_append,List.length_cons,List.length_nil];omega)) ?_;refine Zd (fun w hG=>aa.assign rfl rfl) ?_;refine Dr.nil ?_;refine bb.done (F':=[(0,_),(1,_),(2,_),(3,_),(4,_),(13,_),(20,_),(27,_),(33,_),(37,_),(47,_),(65,_)]) rfl ⟨rfl,rfl,rfl,rfl,rfl,rfl,rfl,rfl,rfl,rfl,rfl,rfl,trivial⟩ ?_;intro w3 hw3 fw3;replace ab:=ab.step hw3;replace k1:=k1.step hw3;refine fY 0 1 2 3 4 13 20 27 33 37 47 65 (Zt (Cd.ret (ae.ag (ae.af ?_))));refine aZ ?_;rw[hT];exact⟨rfl,ab⟩
 rw[if_neg c7,jG] at hT
 have hjl:(cA (e.args.map bO)).length≤20000:=by
  have:=mz e.args fun z hz=>(fM z.nodes z (Nat.le_refl _) (hargs z hz)).1;have hn:e.nodes=1+aK e.args:=by cases e;exact Ex.dQ _ _ _ _
  have:e.args.length≤3:=by omega
  omega
 have hl3:e.args.length≤3:=by omega
 refine Cd.skip (ae.ah (aB ?_));refine Za ?_;refine iq 0 1 2 3 4 5 13 20 27 33 37 47 65 (aI (aj ?_));refine Za ?_;refine jO 0 1 2 3 4 5 6 13 20 27 33 37 47 65 (Zt (Cd.block ?_));refine Cd.loop (σ:=Nat × Value) (fun s=>[(1, .pointer (some ⟨g1,0,none⟩)),(5,s.2),(6, .int .i64 (s.1:Int))]) (fun s wr=>s.1≤e.args.length∧Below w.heap.size w wr∧aH wr g1 105 #[.int .i64 e.op, .int .i64 e.n, .string (strOf e.name), .slice (some ad) e.args.length c]∧Own wr w.heap.size 9 1 s.2 s.1 ((e.args.take s.1).map fun x=> .string (strOf (bO x)))) (fun s=>e.args.length-s.1) (0, .slice none 0 0) ⟨Nat.zero_le _,ab,k1,Own.nil _ _ _ _⟩ ⟨rfl,rfl,rfl,trivial⟩ ?_;clear ab k1;rintro⟨k,v⟩ wr ⟨hk,ab,k1,own⟩;dsimp only at hk own⊢;refine Cd.seq (aj ?_);refine Zm ?_;refine Zf 3 Tryz.underlying105 ?_;refine ZL Tryz.underlying68 k1 ?_;refine Zv (aa.len rfl rfl Tryz.underlying68) ?_;refine eI ?_;refine aQ 1 5 6 90 (Zt ?_);refine Cd.ak rfl (fun hc=> ?_) (fun hc=> ?_)
 ·obtain⟨y,hy⟩:∃y,e.args[k]? =some y:=⟨_,List.getElem?_eq_getElem (by omega)⟩
  obtain⟨ad',A1,c1',hAd,y1,y2,y3,y4,y5⟩:=hrec k y hy;injection hAd with hAd
  subst hAd;have htk:e.args.take (k+1)=e.args.take k++[y]:=by rw[List.take_add_one,hy];rfl
  refine Cd.skip (aI (Cd.block (Zr ?_)));refine Zm ?_;refine Zf 3 Tryz.underlying105 ?_;refine ZL Tryz.underlying68 k1 ?_;refine Zm ?_;refine Zv (aa.bI rfl rfl rfl Tryz.underlying68 (s:=4) (by kernel_rfl) (j:=k) rfl (by omega)) ?_;refine Zv (aa.ep (ps:=[.int .i64 y.op, .int .i64 y.n, .string (strOf y.name), .slice A1 y.args.length c1']) rfl rfl Tryz.underlying105 rfl (m:=4) (by kernel_rfl) rfl (y4 _ ab)) ?_;refine Zc (Ze Tryz.func64) (y5 _ ab) ?_;rintro en w6 ⟨rfl,hb6⟩;refine⟨_,rfl,?_⟩;replace ab:=ab.step hb6;replace k1:=k1.step hb6;replace own:=own.step hb6;refine Seq.slice (vs:=[_]) (s:=1) rfl rfl rfl Tryz.underlying66 (by kernel_rfl) (bh) (by omega) (by omega) ⟨rfl,trivial⟩ rfl rfl rfl ?_;intro g100 w2 n100;have e100:=Nat.le_trans ab.size n100.ge;have l100:=Nat.lt_of_lt_of_le k1.lt n100.ge;replace ab:=ab.step n100.below;replace k1:=k1.step n100.below;replace own:=own.step n100.below;have k100:=n100.an;refine Seq.append rfl rfl rfl Tryz.underlying66 (by kernel_rfl) bh rfl (by decide) (b:=16) (by kernel_rfl) own (Reads.an k100 1 rfl) (by intro x hx;simp[aN,Value.cells] at hx;rw[hx];rfl) ab.size (by simp only[maxLen];omega) (by omega) rfl rfl rfl ?_;intro vw3 w3 ow3 haw3
  try replace k1:=k1.app own haw3
  try replace k100:=k100.app own haw3
  clear own;have own:=ow3;replace ab:=ab.trans haw3.below;refine Za ?_;refine aQ 1 5 6 90 (ae.ah (eh ?_));refine Zm ?_;refine cG ?_;refine Za ?_;refine aQ 1 5 6 90 ?_;refine ae.round (k+1,_) ⟨rfl,rfl,rfl,trivial⟩ ⟨by dsimp only;omega,ab,k1,?_⟩ (by dsimp only;omega);dsimp only;rw[htk,List.map_append];exact own
 ·obtain rfl:k=e.args.length:=by omega
  rw[List.take_of_length_le (Nat.le_refl _)] at own;obtain⟨A2,c2,rfl,rd⟩:=own.reads;have hjoin:∀W,Below wr.heap.size wr W→Calls Tryz.prog 113 #[.slice A2 e.args.length c2] W fun en w'=>en= .returned (.string (strOf (cA (e.args.map bO))))∧Grow W w':=fun W hb=>uB e.args.length c2 A2 (e.args.map bO) W (by rw[List.map_map];exact(rd.below hb).more hb.size) (by omega) (by omega);have hloc:=Below.refl wr.heap.size wr;refine Cd.exit (ae.aC (ae.aA (ae.ay (aI (aj ?_)))));refine Zf 0 Tryz.underlying105 ?_;refine ZL Tryz.underlying3 k1 ?_;refine bC ?_;refine aO 1 5 6 90 104 (Zt ?_);refine Cd.ak rfl (fun c9=> ?_) (fun c9=> ?_)
  ·rw[if_pos c9] at hT
   refine aj ?_;refine Zm ?_;refine Zc (Ze Tryz.func113) (hjoin _ hloc) ?_;rintro en w6 ⟨rfl,hb6⟩;refine⟨_,rfl,?_⟩;replace ab:=ab.step hb6;replace k1:=k1.step hb6;replace hloc:=hloc.step hb6;refine Zv (aa.eD (a:=[109,105,110,40]) rfl rfl rfl (by simp only[List.length_cons,List.length_nil];omega)) ?_;refine Zv (aa.eD (b:=[41]) rfl rfl rfl (by simp only[List.length_append,List.length_cons,List.length_nil];omega)) ?_;refine Za ?_;refine aY 1 2 5 6 90 104 (Zt (Cd.ret (ae.af ?_)));refine aZ ?_;rw[hT];exact⟨rfl,ab⟩
  rw[if_neg c9] at hT;refine Cd.skip (aI (aj ?_));refine Zf 0 Tryz.underlying105 ?_;refine ZL Tryz.underlying3 k1 ?_;refine bC ?_;refine aY 1 5 6 90 104 111 (Zt ?_);refine Cd.ak rfl (fun c10=> ?_) (fun c10=> ?_)
  ·rw[if_pos c10] at hT
   refine aj ?_;refine Zm ?_;refine Zc (Ze Tryz.func113) (hjoin _ hloc) ?_;rintro en w6 ⟨rfl,hb6⟩;refine⟨_,rfl,?_⟩;replace ab:=ab.step hb6;replace k1:=k1.step hb6;replace hloc:=hloc.step hb6;refine Zv (aa.eD (a:=[109,97,120,40]) rfl rfl rfl (by simp only[List.length_cons,List.length_nil];omega)) ?_;refine Zv (aa.eD (b:=[41]) rfl rfl rfl (by simp only[List.length_append,List.length_cons,List.length_nil];omega)) ?_;refine Za ?_;refine ba 1 2 5 6 90 104 111 (Zt (Cd.ret (ae.af ?_)));refine aZ ?_;rw[hT];exact⟨rfl,ab⟩
  ·rw[if_neg c10] at hT
   refine Cd.skip (aB ?_);refine Zm ?_;refine Zc (Ze Tryz.func113) (hjoin _ hloc) ?_;rintro en w6 ⟨rfl,hb6⟩;refine⟨_,rfl,?_⟩;replace ab:=ab.step hb6;replace k1:=k1.step hb6;replace hloc:=hloc.step hb6;refine Zv (aa.eD (a:=[105,102,40]) rfl rfl rfl (by simp only[List.length_cons,List.length_nil];omega)) ?_;refine Zv (aa.eD (b:=[41]) rfl rfl rfl (by simp only[List.length_append,List.length_cons,List.length_nil];omega)) ?_;refine Za ?_;refine ba 1 2 5 6 90 104 111 (Zt (Cd.ret ?_));refine aZ ?_;rw[hT];exact⟨rfl,ab⟩
section
variable {P:Program} {Q:Exit→Act→World→Prop} {n:Nat} {F F':List (Nat × Value)} {w:World}
def Bf (n:Nat)(F:List (Nat × Value))(J:Inhabited (List Deferred)→World→Prop)(a:Act)(w:World):Prop:=∃I,@Fr I n F a∧J I w
theorem Cd.Gx {x y:Code}(F':List (Nat × Value))(J:Inhabited (List Deferred)→World→Prop)(hx:Cd P x (Exit.then (Bf n F' J) Q) n F w)(hy:∀I w,J I w→ @Cd I P y Q n F' w):Cd P (.seq x y) Q n F w:=
 fun a ha=>wp_seq (Code.wp_mono (fun e a w q=>by
  cases e with
  |normal=>obtain⟨I,hF,hJ⟩:=q;exact hy I w hJ a hF
  |exit id=>exact q
  |goto l=>exact q
  |ret=>exact q
  |panic ch=>exact q
  |outgrown=>exact q) (hx a ha))
theorem ae.EE {I:Inhabited (List Deferred)}{J:Inhabited (List Deferred)→World→Prop}(hs:Sub F' F)(hJ:J I w): @ae I (Exit.then (Bf n F' J) Q) .normal n F w:=fun _ ha=>⟨I,ha.sub hs,hJ⟩
end
theorem xr (op:Int)(w:World):Calls Tryz.prog 181 #[.int .i64 op] w fun e w'=>e= .returned (.tuple #[.string (strOf (bu op).1), .int .i64 (bu op).2])∧Grow w w':=by
 have ab:=Below.refl w.heap.size w;refine Zs 33 Tryz.func181 ?_;refine aj ?_;refine Za ?_;refine Za ?_;refine bn 0 2 3 (aI (aj ?_));refine Zm ?_;refine aQ 0 2 3 4 (Zt (Cd.block (aj ?_)));refine bC ?_;refine Za ?_;refine aO 0 2 3 4 5 (Zt ?_);refine Cd.ak rfl (fun h18=> ?_) (fun h18=> ?_)
 ·skip
  refine aj ?_;refine Za ?_;refine Za ?_;refine aO 0 2 3 4 5 (Zt (Cd.ret (ae.ag (ae.af ?_))));refine dH ?_;subst h18;exact⟨rfl,ab⟩
 refine aj ?_;refine bC ?_;refine Za ?_;refine aY 0 2 3 4 5 7 (Zt ?_);refine Cd.ak rfl (fun h17=> ?_) (fun h17=> ?_)
 ·skip
  refine aj ?_;refine Za ?_;refine Za ?_;refine aY 0 2 3 4 5 7 (Zt (Cd.ret (ae.ag (ae.af ?_))));refine dH ?_;subst h17;exact⟨rfl,ab⟩
 refine aj ?_;refine bC ?_;refine Za ?_;refine ba 0 2 3 4 5 7 9 (Zt ?_);refine Cd.ak rfl (fun h11=> ?_) (fun h11=> ?_)
 ·skip
  refine aj ?_;refine Za ?_;refine Za ?_;refine ba 0 2 3 4 5 7 9 (Zt (Cd.ret (ae.ag (ae.af ?_))));refine dH ?_;subst h11;exact⟨rfl,ab⟩
 refine aj ?_;refine bC ?_;refine Za ?_;refine cB 0 2 3 4 5 7 9 11 (Zt ?_);refine Cd.ak rfl (fun h12=> ?_) (fun h12=> ?_)
 ·skip
  refine aj ?_;refine Za ?_;refine Za ?_;refine cB 0 2 3 4 5 7 9 11 (Zt (Cd.ret (ae.ag (ae.af ?_))));refine dH ?_;subst h12;exact⟨rfl,ab⟩
 refine aj ?_;refine bC ?_;refine Za ?_;refine dY 0 2 3 4 5 7 9 11 13 (Zt ?_);refine Cd.ak rfl (fun h13=> ?_) (fun h13=> ?_)
 ·skip
  refine aj ?_;refine Za ?_;refine Za ?_;refine dY 0 2 3 4 5 7 9 11 13 (Zt (Cd.ret (ae.ag (ae.af ?_))));refine dH ?_;subst h13;exact⟨rfl,ab⟩
 refine aj ?_;refine bC ?_;refine Za ?_;refine dq 0 2 3 4 5 7 9 11 13 15 (Zt ?_);refine Cd.ak rfl (fun h14=> ?_) (fun h14=> ?_)
 ·skip
  refine aj ?_;refine Za ?_;refine Za ?_;refine dq 0 2 3 4 5 7 9 11 13 15 (Zt (Cd.ret (ae.ag (ae.af ?_))));refine dH ?_;subst h14;exact⟨rfl,ab⟩
 refine aj ?_;refine bC ?_;refine Za ?_;refine dv 0 2 3 4 5 7 9 11 13 15 17 (Zt ?_);refine Cd.ak rfl (fun h15=> ?_) (fun h15=> ?_)
 ·skip
  refine aj ?_;refine Za ?_;refine Za ?_;refine dv 0 2 3 4 5 7 9 11 13 15 17 (Zt (Cd.ret (ae.ag (ae.af ?_))));refine dH ?_;subst h15;exact⟨rfl,ab⟩
 refine aj ?_;refine bC ?_;refine Za ?_;refine fY 0 2 3 4 5 7 9 11 13 15 17 19 (Zt ?_);refine Cd.ak rfl (fun h16=> ?_) (fun h16=> ?_)
 ·skip
  refine aj ?_;refine Za ?_;refine Za ?_;refine fY 0 2 3 4 5 7 9 11 13 15 17 19 (Zt (Cd.ret (ae.ag (ae.af ?_))));refine dH ?_;subst h16;exact⟨rfl,ab⟩
 refine aj ?_;refine bC ?_;refine Za ?_;refine iq 0 2 3 4 5 7 9 11 13 15 17 19 21 (Zt ?_);refine Cd.ak rfl (fun h5=> ?_) (fun h5=> ?_)
 ·skip
  refine aj ?_;refine Za ?_;refine Za ?_;refine iq 0 2 3 4 5 7 9 11 13 15 17 19 21 (Zt (Cd.ret (ae.ag (ae.af ?_))));refine dH ?_;subst h5;exact⟨rfl,ab⟩
 refine aj ?_;refine bC ?_;refine Za ?_;refine jO 0 2 3 4 5 7 9 11 13 15 17 19 21 23 (Zt ?_);refine Cd.ak rfl (fun h6=> ?_) (fun h6=> ?_)
 ·skip
  refine aj ?_;refine Za ?_;refine Za ?_;refine jO 0 2 3 4 5 7 9 11 13 15 17 19 21 23 (Zt (Cd.ret (ae.ag (ae.af ?_))));refine dH ?_;subst h6;exact⟨rfl,ab⟩
 refine aj ?_;refine bC ?_;refine Za ?_;refine tS 0 2 3 4 5 7 9 11 13 15 17 19 21 23 25 (Zt ?_);refine Cd.ak rfl (fun h7=> ?_) (fun h7=> ?_)
 ·skip
  refine aj ?_;refine Za ?_;refine Za ?_;refine tS 0 2 3 4 5 7 9 11 13 15 17 19 21 23 25 (Zt (Cd.ret (ae.ag (ae.af ?_))));refine dH ?_;subst h7;exact⟨rfl,ab⟩
 refine aj ?_;refine bC ?_;refine Za ?_;refine nM 0 2 3 4 5 7 9 11 13 15 17 19 21 23 25 27 (Zt ?_);refine Cd.ak rfl (fun h8=> ?_) (fun h8=> ?_)
 ·skip
  refine aj ?_;refine Za ?_;refine Za ?_;refine nM 0 2 3 4 5 7 9 11 13 15 17 19 21 23 25 27 (Zt (Cd.ret (ae.ag (ae.af ?_))));refine dH ?_;subst h8;exact⟨rfl,ab⟩
 refine aj ?_;refine bC ?_;refine Za ?_;refine FL 0 2 3 4 5 7 9 11 13 15 17 19 21 23 25 27 29 (Zt ?_);refine Cd.ak rfl (fun h19=> ?_) (fun h19=> ?_)
 ·skip
  refine aj ?_;refine Za ?_;refine Za ?_;refine FL 0 2 3 4 5 7 9 11 13 15 17 19 21 23 25 27 29 (Zt (Cd.ret (ae.ag (ae.af ?_))));refine dH ?_;subst h19;exact⟨rfl,ab⟩
 refine aj ?_;refine bC ?_;refine Za ?_;refine EL 0 2 3 4 5 7 9 11 13 15 17 19 21 23 25 27 29 31 (Zt ?_);refine Cd.ak rfl (fun h20=> ?_) (fun h20=> ?_)
 ·skip
  refine aj ?_;refine Za ?_;refine Za ?_;refine EL 0 2 3 4 5 7 9 11 13 15 17 19 21 23 25 27 29 31 (Zt (Cd.ret (ae.ag (ae.af ?_))));refine dH ?_;subst h20;exact⟨rfl,ab⟩
 refine Cd.skip (ae.ah (aB ?_));refine Za ?_;refine Za ?_;refine EL 0 2 3 4 5 7 9 11 13 15 17 19 21 23 25 27 29 31 (Zt (Cd.ret ?_));refine dH ?_
 have hb:bu op=([],7):=by
  unfold bu
  by_cases h:op<5∨20<op
  ·rw[if_pos h]
  ·have:op=9∨op=10:=by omega
   rcases this with rfl|rfl<;>rfl
 rw[hb];exact⟨rfl,ab⟩
theorem va (B g f n:Nat)(cp:List Value)(word bs:List Nat)(ts:List (List Nat))(w:World)(h:Bw w B g bs)(hw:∀d∈word,d<256)(hwl:word.length≤100)(hn:ts.length=n)(hn9:n≤1000)(hts:∀t∈ts,∀d∈t,d<256)(hj:(cA ts).length≤20000)(hl:bs.length≤900000000)
  (eg:∀args w,(callFunc f args).run Tryz.prog w= .ok (.enter f args) w)
  (one:∀(i:Nat) (t:List Nat),ts[i]? =some t→∀W bs',Wt B w W→Bw W B g bs'→bs'.length≤bs.length+50000→Calls Tryz.prog f ([]++[Value.int .i64 (i:Int)]++cp).toArray W (iS B g (bs'++t) W)):
  Calls Tryz.prog 175 #[.pointer (some ⟨g,0,none⟩), .string (strOf word), .int .i64 (n:Int), .func (.func f) #[] cp.toArray] w (iS B g (bs++word++[40]++cA ts++[41]) w):=by
 have wt:=Wt.refl B w;have wr:=h;refine Zs 33 Tryz.func175 ?_;refine aj ?_;refine Zm ?_;refine Zv (aa.nilCheck rfl rfl) ?_;refine Zf 0 Tryz.underlying232 ?_;refine Zm ?_;refine Zv (aa.eD (b:=[40]) rfl rfl rfl (by simp only[List.length_cons,List.length_nil];omega)) ?_
 have k40:∀d∈word++[40],d<256:=fun d hd=>by
  rcases List.mem_append.1 hd with hd|hd
  ·exact hw d hd
  ·simp at hd;omega
 refine Zc (Ze Tryz.func174) ((bS B g (word++[40]) bs _ wr k40 (by simp only[List.length_append,List.length_cons,List.length_nil];omega)).1) ?_;clear wr;rintro e w1 ⟨⟨_,rfl⟩,fw1,wr⟩;refine⟨_,rfl,?_⟩;replace wt:=wt.wt fw1;rw[←List.append_assoc] at wr;obtain⟨pre,hpre⟩:∃pre,pre=bs++word++[40]:=⟨_,rfl⟩;have hprel:pre.length≤bs.length+101:=by rw[hpre];simp only[List.length_append,List.length_cons,List.length_nil];omega
 rw[←hpre] at wr⊢;refine aQ 0 1 2 3 (aI (aj ?_));refine Zm ?_;refine Zm ?_;refine aY 0 1 2 3 15 16 (Zt (Cd.block ?_));refine Cd.loop (σ:=Nat) (fun k=>[(0, .pointer (some ⟨g,0,none⟩)),(1, .string (strOf word)),(2, .int .i64 (n:Int)),(3, .func (.func f) #[] cp.toArray),(15, .int .i64 (n:Int)),(16, .int .i64 (k:Int))]) (fun k wr'=>k≤n∧Wt B w wr'∧Bw wr' B g (pre++cA (ts.take k))) (fun k=>n-k) 0 ⟨Nat.zero_le _,wt,by simpa[cA] using wr⟩ ⟨rfl,rfl,rfl,rfl,rfl,rfl,trivial⟩ ?_;clear wt wr;rintro k w9 ⟨hk,wt,wr⟩;have hbk:=j4 ts k;refine aj ?_;refine eI ?_;refine ba 0 1 2 3 15 16 17 (aI ?_);refine Cd.ak rfl (fun hc=> ?_) (fun hc=> ?_)
 ·obtain⟨t,ht⟩:∃t,ts[k]? =some t:=⟨_,List.getElem?_eq_getElem (by omega)⟩
  have htk:ts.take (k+1)=ts.take k++[t]:=by rw[List.take_add_one,ht];rfl
  have hbk1:=j4 ts (k+1);rw[htk,kC] at hbk1;refine Cd.skip (aI (Cd.block (aj ?_)));refine Zm ?_;refine Za ?_;refine cB 0 1 2 3 8 15 16 17 (aI (aj ?_));refine Zm ?_;refine uV ?_;refine dY 0 1 2 3 8 15 16 17 20 (Zt ?_);refine Cd.ak rfl (fun hc=> ?_) (fun hc=> ?_)
  ·have hne:ts.take k≠ []:=fun h0=>by have:=congrArg List.length h0;rw[List.length_take,List.length_nil] at this;omega
   rw[if_neg hne] at hbk1;refine Zr ?_;refine Zm ?_;refine Zv (aa.nilCheck rfl rfl) ?_;refine Zf 0 Tryz.underlying232 ?_;refine Zc (Ze Tryz.func174) ((bS B g [44,32] _ _ wr (by decide) (by simp only[List.length_append,List.length_cons,List.length_nil];omega)).1) ?_;clear wr;rintro e w2 ⟨⟨_,rfl⟩,fw2,wr⟩;refine⟨_,rfl,?_⟩;replace wt:=wt.wt fw2;refine dY 0 1 2 3 8 15 16 17 20 (eh ?_);refine Zm ?_;refine Zm ?_;refine Seq.call (Enters.value (first:=[]) rfl rfl rfl eg) rfl rfl rfl (one k t ht _ _ wt wr (by simp only[List.length_append,List.length_cons,List.length_nil];omega)) ?_;clear wr;rintro e w10 ⟨⟨_,rfl⟩,f10,wr⟩;refine⟨_,rfl,?_⟩;replace wt:=wt.wt f10;refine dY 0 1 2 3 8 15 16 17 20 (ae.ah (eh ?_));refine cG ?_;refine Zm ?_;refine dY 0 1 2 3 8 15 16 17 20 ?_;refine ae.round (k+1) ⟨rfl,rfl,rfl,rfl,rfl,rfl,trivial⟩ ⟨by omega,wt,?_⟩ (by omega);rw[htk,kC,if_neg hne]
   simpa only[List.append_assoc] using wr
  ·obtain rfl:k=0:=by omega
   refine Cd.skip (eh ?_);refine Zm ?_;refine Zm ?_;refine Seq.call (Enters.value (first:=[]) rfl rfl rfl eg) rfl rfl rfl (one 0 t ht _ _ wt wr (by simp only[List.length_append,List.take_zero];simp only[cA,List.length_nil];omega)) ?_;clear wr;rintro e w10 ⟨⟨_,rfl⟩,f10,wr⟩;refine⟨_,rfl,?_⟩;replace wt:=wt.wt f10;refine dY 0 1 2 3 8 15 16 17 20 (ae.ah (eh ?_));refine cG ?_;refine Zm ?_;refine dY 0 1 2 3 8 15 16 17 20 ?_;refine ae.round 1 ⟨rfl,rfl,rfl,rfl,rfl,rfl,trivial⟩ ⟨by omega,wt,?_⟩ (by omega);rw[htk]
   simpa[cA] using wr
 ·obtain rfl:k=n:=by omega
  rw[List.take_of_length_le (by omega)] at wr;refine Cd.exit (ae.aC (ae.aA (ae.ay (eh ?_))));refine Zm ?_;refine Zv (aa.nilCheck rfl rfl) ?_;refine Zf 0 Tryz.underlying232 ?_;refine Zc (Ze Tryz.func174) ((bS B g [41] _ _ wr (by decide) (by simp only[List.length_append,List.length_cons,List.length_nil];omega)).1) ?_;clear wr;rintro e w2 ⟨⟨_,rfl⟩,fw2,wr⟩;refine⟨_,rfl,?_⟩;replace wt:=wt.wt fw2;refine ba 0 1 2 3 15 16 17 ?_;refine ae.gu rfl (.inr rfl) ?_;exact⟨⟨_,rfl⟩,wt,wr⟩
def Fl (B g L:Nat)(w:World)(e:Ex)(A:Option Addr):Prop:=∀(i:Nat) (x:Ex),e.args[i]? =some x→∃ad A' c',A=some ad∧
 (∀W,Below B w W→∀(j:Nat) (u:Value),([.int .i64 x.op, .int .i64 x.n, .string (strOf x.name), .slice A' x.args.length c']:List Value)[j]? =some u→W.cell? ((ad.add (i*4)).add j)=some u)∧
 (∀W bs' least,Below B w W→Bw W B g bs'→bm least→bs'.length≤L→Calls Tryz.prog 138 #[.pointer (some ⟨g,0,none⟩), .agg #[.int .i64 x.op, .int .i64 x.n, .string (strOf x.name), .slice A' x.args.length c'], .int .i64 least] W (iS B g (bs'++pg x least) W))
theorem ym (x:Ex):pg x 1=bO x:=by
 unfold pg jC;rw[if_neg (by have:=(mx x.op).2.2.1;show¬(bu x.op).2<1;omega)];rfl
theorem wV (B g L g3 g4 c i:Nat)(A:Option Addr)(e x:Ex)(bs:List Nat)(w W:World)(h:Fl B g L w e A)(hb:Below B w W)(k3:aH W g3 192 #[.pointer (some ⟨g,0,none⟩)]) (k4:aH W g4 105 #[.int .i64 e.op, .int .i64 e.n, .string (strOf e.name), .slice A e.args.length c]) (wr:Bw W B g bs) (hL:bs.length≤L) (hx:e.args[i]? =some x):
  Calls Tryz.prog 183 #[.int .i64 (i:Int), .pointer (some ⟨g3,0,none⟩), .pointer (some ⟨g4,0,none⟩)] W (iS B g (bs++bO x) W):=by
 obtain⟨ad,A',c',rfl,hc,hcall⟩:=h i x hx;have hi:=(List.getElem?_eq_some_iff.1 hx).1;have hBW:=wr.size;have hcall:=fun W' (hb2:Below W.heap.size W W') (wr':Bw W' B g bs)=>hcall W' bs 1 (hb.trans (hb2.mono hBW)) wr' (by unfold bm;omega) hL;rw[ym] at hcall;have hc:=fun W' (hb2:Below W.heap.size W W')=>hc W' (hb.trans (hb2.mono hBW));have ab:=Below.refl W.heap.size W;have wt:=Wt.refl B W;refine Zs 11 Tryz.func183 ?_;refine ff 6 ?_;intro w1 hw1 zw1;replace ab:=ab.step hw1;replace wt:=wt.step hw1;replace wr:=wr.step hw1;replace k3:=k3.step hw1;replace k4:=k4.step hw1;have zbel:=ab.size;have zlt:=k4.lt;refine dZ Tryz.underlying192 k3 ?_;refine eV 3 Tryz.underlying105 ?_;refine dZ Tryz.underlying68 k4 ?_;refine cf ?_;refine Zd (fun w hG=>aa.bI rfl rfl rfl Tryz.underlying68 (s:=4) (by kernel_rfl) (j:=i) rfl (by omega)) ?_;refine Zd (fun w hG=>aa.ep (ps:=[.int .i64 x.op, .int .i64 x.n, .string (strOf x.name), .slice A' x.args.length c']) rfl rfl Tryz.underlying105 rfl (m:=4) (by kernel_rfl) rfl (hc _ (ab.step hG))) ?_;refine Dr.nil ?_;refine bb.done (F':=[(0,_),(1,_),(2,_),(4,_),(9,_)]) rfl ⟨rfl,rfl,rfl,rfl,rfl,trivial⟩ ?_;intro w2 hw2 fw2;replace ab:=ab.step hw2;replace wt:=wt.step hw2;replace wr:=wr.step hw2;replace k3:=k3.step hw2;replace k4:=k4.step hw2;have hcc:=hcall _ ab wr;clear ab;refine Zc (Ze Tryz.func138) (hcc) ?_;clear wr;rintro e w3 ⟨⟨_,rfl⟩,fw3,wr⟩;refine⟨_,rfl,?_⟩;replace wt:=wt.wt fw3;refine bn 0 1 2 ?_;refine ae.gu rfl (.inr rfl) ?_;exact⟨⟨_,rfl⟩,wt,wr⟩
theorem Fj:∀args w,(callFunc 183 args).run Tryz.prog w= .ok (.enter 183 args) w:=fun args w=>bG Tryz.func183 (by kernel_rfl) rfl args w
theorem lD (B g L g3 g4 c:Nat)(A:Option Addr)(e:Ex)(word bs:List Nat)(w W:World)(h:Fl B g L w e A)(hb:Below B w W)(k3:aH W g3 192 #[.pointer (some ⟨g,0,none⟩)]) (k4:aH W g4 105 #[.int .i64 e.op, .int .i64 e.n, .string (strOf e.name), .slice A e.args.length c]) (wr:Bw W B g bs) (hL:bs.length+50000≤L) (hL2:L≤900000000)
  (hw:∀d∈word,d<256) (hwl:word.length≤100) (hbt:∀x∈e.args,bE x=true) (hn:e.args.length≤1000) (hj:(cA (e.args.map bO)).length≤20000):
  Calls Tryz.prog 182 #[.string (strOf word), .pointer (some ⟨g3,0,none⟩), .pointer (some ⟨g4,0,none⟩)] W (iS B g (bs++word++[40]++cA (e.args.map bO)++[41]) W):=by
 have wt:=Wt.refl B W;have hBW:=wr.size;have hl:(e.args.map bO).length=e.args.length:=List.length_map _
 have hlist:=va B g 183 e.args.length [.pointer (some ⟨g3,0,none⟩), .pointer (some ⟨g4,0,none⟩)] word bs (e.args.map bO) W wr hw hwl hl hn (fun t ht=>by obtain⟨x,hx,rfl⟩:=List.mem_map.1 ht;exact(fM x.nodes x (Nat.le_refl _) (hbt x hx)).2) hj (by omega) Fj
  (fun i t ht W' bs' hwt hwr hlen=>by
   rw[List.getElem?_map] at ht
   cases hx:e.args[i]? with
   |none=>rw[hx] at ht;cases ht
   |some x=>
    rw[hx] at ht;injection ht with ht
    subst ht;exact wV B g L g3 g4 c i A e x bs' w W' h (hb.trans (hwt.to hBW)) (k3.wt hwt) (k4.wt hwt) hwr (by omega) hx)
 refine Zs 11 Tryz.func182 ?_;refine Zr ?_;refine ZL Tryz.underlying192 k3 ?_;refine Zm ?_;refine Zf 3 Tryz.underlying105 ?_;refine ZL Tryz.underlying68 k4 ?_;refine Zv (aa.len rfl rfl Tryz.underlying68) ?_;refine Zv (aa.makeFunc (v:= .func (.func 183) #[] #[.pointer (some ⟨g3,0,none⟩), .pointer (some ⟨g4,0,none⟩)]) rfl (show jn _ _=some [] from rfl) (show jn _ _=some [.pointer (some ⟨g3,0,none⟩), .pointer (some ⟨g4,0,none⟩)] from rfl) rfl) ?_;refine Zc (Ze Tryz.func175) (hlist) ?_;clear wr;rintro e w1 ⟨⟨_,rfl⟩,fw1,wr⟩;refine⟨_,rfl,?_⟩;replace wt:=wt.wt fw1;refine bn 0 1 2 ?_;refine ae.gu rfl (.inr rfl) ?_;exact⟨⟨_,rfl⟩,wt,wr⟩
theorem tN:∀args w,(callFunc 182 args).run Tryz.prog w= .ok (.enter 182 args) w:=fun args w=>bG Tryz.func182 (by kernel_rfl) rfl args w
theorem Br:∀args w,(callFunc 174 args).run Tryz.prog w= .ok (.enter 174 args) w:=fun args w=>bG Tryz.func174 (by kernel_rfl) rfl args w
def GR (Q:Exit→Act→World→Prop)(B g g3 g4 n m:Nat)(bs T:List Nat)(cs:Array Value)(w:World)(I:Inhabited (List Deferred))(wc:World):Prop:=
 Wt B w wc∧aH wc g3 192 #[.pointer (some ⟨g,0,none⟩)]∧aH wc g4 105 cs∧∃bs0,Bw wc B g bs0∧bs0.length≤m∧∀wx ex,(ex=Exit.ret∨ex=Exit.normal)→Wt B w wx→Bw wx B g (bs0++T)→ @ae I Q ex n [] wx
theorem Cd.Gj {P:Program}{Q:Exit→Act→World→Prop}{n:Nat}{F:List (Nat × Value)}{wc:World}{x y:Code}(F':List (Nat × Value))(B g g3 g4 m:Nat)(bs T:List Nat)(cs:Array Value)(w:World)(hx:Cd P x (Exit.then (Bf n F' (GR Q B g g3 g4 n m bs T cs w)) Q) n F wc)(hy:∀I w2,GR Q B g g3 g4 n m bs T cs w I w2→ @Cd I P y Q n F' w2):Cd P (.seq x y) Q n F wc:=Cd.Gx F' _ hx hy
theorem AK (N:Nat):∀(e:Ex) (B g:Nat) (bs:List Nat) (v:Value) (least:Int) (w:World),e.nodes≤N→e.nodes≤200→bE e=true→rE w B e v→Bw w B g bs→bm least→bs.length+100000*e.depth≤100000000→
  Calls Tryz.prog 138 #[.pointer (some ⟨g,0,none⟩),v, .int .i64 least] w (iS B g (bs++pg e least) w):=by
 induction N with
 |zero=>intro e B g bs v least w hN;have:=e.cR;omega
 |succ N ih=>
 intro e B g bs v least w hN h200 hbt hrep hbw hleast hbs;obtain⟨A,c,rfl,hv⟩:=hrep.open;have hbd:=fM e.nodes e (Nat.le_refl _) hbt;obtain⟨hh,hargs⟩:=mS hbt;obtain⟨h1,h2,h3,h4,h5,h6⟩:=oM hh;obtain⟨o1,o2,o3,o4,o5,o6⟩:=qn h1;obtain⟨b1,b2,b3,b4⟩:=mx e.op;have hBW:=hbw.size;have hT:=qQ e;unfold ud at hT
 have hrec:Fl B g (bs.length+60000) w e A:=fun i x hx=>by
  obtain⟨ad,A',c',e1,e2,e3,e4⟩:=hv.arg i x hx;have hmem:=List.mem_of_getElem? hx;have hnd:=Ex.gL hmem;have hdp:=Ex.sK hmem;have hbx:=hargs x hmem;exact⟨ad,A',c',e1,fun W hb j u hu=>(hb.cell (by rw[av,av];omega)).trans (e4 j u hu),fun W bs' least hb hwr hls hlen=>ih x B g bs' _ least W (by omega) (by omega) hbx (e3.below hb) hwr hls (by omega)⟩
 have hjl:(cA (e.args.map bO)).length≤20000:=by
  have:=mz e.args fun z hz=>(fM z.nodes z (Nat.le_refl _) (hargs z hz)).1;have hn:e.nodes=1+aK e.args:=by cases e;exact Ex.dQ _ _ _ _
  have:e.args.length≤3:=by omega
  omega
 have hl3:e.args.length≤3:=by omega
 have wt:=Wt.refl B w;have wr:=hbw;refine Calls.BB 114 Tryz.func138 rfl rfl rfl ?_;refine aj ?_;refine Seq.box rfl rfl rfl rfl rfl ?_;intro g3 w1 n3;replace wt:=wt.step n3.below;replace wr:=wr.step n3.below;have k3:=n3.an;refine Seq.box rfl rfl rfl rfl rfl ?_;intro g4 w2 n4;have l4:=Nat.lt_of_lt_of_le k3.lt n4.ge;replace wt:=wt.step n4.below;replace wr:=wr.step n4.below;replace k3:=k3.step n4.below;have k4:=n4.an;refine aO 0 1 2 3 4 (aB ?_);refine Zf 0 Tryz.underlying105 ?_;refine ZL Tryz.underlying3 k4 ?_;refine Zc (Ze Tryz.func181) (xr e.op _) ?_;rintro en w5 ⟨rfl,hb5⟩;refine⟨_,rfl,?_⟩;replace wt:=wt.step hb5;replace wr:=wr.step hb5;replace k3:=k3.step hb5;replace k4:=k4.step hb5;refine Zm ?_;refine Zx ?_;refine Zx ?_;refine Za ?_;refine Za ?_;refine ba 0 1 2 3 4 6 7 (Zt ?_);refine Cd.Gj [(3, .pointer (some ⟨g3,0,none⟩)),(4, .pointer (some ⟨g4,0,none⟩)),(6, .string (strOf (bu e.op).1)),(7, .int .i64 (bu e.op).2)] B g g3 g4 (bs.length+1) bs (bO e) #[.int .i64 e.op, .int .i64 e.n, .string (strOf e.name), .slice A e.args.length c] w ?_ ?_
 ·skip
  refine aj ?_;refine Zm ?_;refine Zm ?_;refine eI ?_;refine cB 0 1 2 3 4 6 7 18 (Zt ?_);refine Cd.ak rfl (fun hc=> ?_) (fun hc=> ?_)
  ·have hin:pg e least=[40]++bO e++[41]:=by
    unfold pg jC;rw[if_pos (show(cO e).1<least from hc)];rfl
   refine aj ?_;refine ZL Tryz.underlying192 k3 ?_;refine Zv (aa.nilCheck rfl rfl) ?_;refine Zf 0 Tryz.underlying232 ?_;refine Zc (Ze Tryz.func174) ((bS B g [40] bs _ wr (by decide) (by simp only[List.length_cons,List.length_nil];omega)).1) ?_;clear wr;rintro e w3 ⟨⟨_,rfl⟩,fw3,wr⟩;refine⟨_,rfl,?_⟩;replace wt:=wt.wt fw3;replace k3:=k3.wt fw3;replace k4:=k4.wt fw3;refine cB 0 1 2 3 4 6 7 18 (eh ?_);refine ZL Tryz.underlying192 k3 ?_;refine Zv (aa.nilCheck rfl rfl) ?_;refine Zf 0 Tryz.underlying232 ?_;refine Seq.EO rfl rfl rfl rfl ?_;intro I hI;refine cB 0 1 2 3 4 6 7 18 ?_;refine ae.EE ⟨rfl,rfl,rfl,rfl,trivial⟩ ⟨wt,k3,k4,bs++[40],wr,by simp,fun wx ex hex wtx wrx=> ?_⟩;refine ae.FR hI rfl hex Br ((bS B g [41] _ wx wrx (by decide) (by simp only[List.length_append,List.length_cons,List.length_nil];omega)).2 .returning) fun en w' hw=> ?_;refine⟨hw.1,⟨_,rfl⟩,wtx.wt hw.2.1,?_⟩;rw[hin]
   simpa only[List.append_assoc] using hw.2.2
  ·have hin:pg e least=bO e:=by
    unfold pg jC;rw[if_neg (show¬(cO e).1<least from hc)];rfl
   refine Cd.skip ?_;refine ae.EE ⟨rfl,rfl,rfl,rfl,trivial⟩ ⟨wt,k3,k4,bs,wr,by omega,fun wx ex hex wtx wrx=> ?_⟩;refine ae.FN rfl hex ?_;rw[hin];exact⟨⟨_,rfl⟩,wtx,wrx⟩
 clear wt wr k3 k4;rintro I w8 ⟨wt,k3,k4,bs0,wr,hb0,hend⟩;have hpre:B≤w8.heap.size:=wr.size;refine aj ?_;refine Zv (aa.makeFunc (v:= .func (.func 182) #[] #[.pointer (some ⟨g3,0,none⟩), .pointer (some ⟨g4,0,none⟩)]) rfl (show jn _ _=some [] from rfl) (show jn _ _=some [.pointer (some ⟨g3,0,none⟩), .pointer (some ⟨g4,0,none⟩)] from rfl) rfl) ?_;refine Za ?_;refine aO 3 4 6 7 8 (aB ?_);refine Zf 0 Tryz.underlying105 ?_;refine ZL Tryz.underlying3 k4 ?_;refine aY 3 4 6 7 8 28 (Zt (Cd.block (aj ?_)));refine bC ?_;refine Za ?_;refine ba 3 4 6 7 8 28 56 (Zt ?_);refine Cd.ak rfl (fun c1=> ?_) (fun c1=> ?_)
 ·rw[if_pos c1] at hT
  refine ff 6 ?_;intro w3 hw3 zw3;replace wt:=wt.step hw3;replace wr:=wr.step hw3;replace k3:=k3.step hw3;replace k4:=k4.step hw3;have zlt:=k4.lt;refine dZ Tryz.underlying192 k3 ?_;refine Zd (fun w hG=>aa.nilCheck rfl rfl) ?_;refine eV 0 Tryz.underlying232 ?_;refine eV 1 Tryz.underlying105 ?_;refine dZ Tryz.underlying2 k4 ?_;refine Dr.cJ rfl (fun w=>Ze Tryz.func184) rfl (fun w hG=>zG e.n w hv.n) ?_;refine Dr.nil ?_;refine bb.done (F':=[(3,_),(4,_),(6,_),(7,_),(8,_),(28,_),(56,_),(60,_),(63,_)]) rfl ⟨rfl,rfl,rfl,rfl,rfl,rfl,rfl,rfl,rfl,trivial⟩ ?_;intro w4 hw4 fw4;replace wt:=wt.step hw4;replace wr:=wr.step hw4;replace k3:=k3.step hw4;replace k4:=k4.step hw4;refine Zc (Ze Tryz.func174) ((bS B g (rK e.n) bs0 _ wr (yo _) (by have:=uw e.n;omega)).1) ?_;clear wr;rintro e w5 ⟨⟨_,rfl⟩,fw5,wr⟩;refine⟨_,rfl,?_⟩;replace wt:=wt.wt fw5;replace k3:=k3.wt fw5;replace k4:=k4.wt fw5;refine ba 3 4 6 7 8 28 56 (ae.ah ?_);refine ae.eB (F':=[]) trivial ?_;exact hend _ _ (.inr rfl) wt (by rw[hT];exact wr)
 rw[if_neg c1] at hT;refine aj ?_;refine bC ?_;refine Za ?_;refine cB 3 4 6 7 8 28 56 65 (Zt ?_);refine Cd.ak rfl (fun c2=> ?_) (fun c2=> ?_)
 ·rw[if_pos c2] at hT
  have hday:∀W,Calls Tryz.prog 185 #[.int .i64 e.n] W fun e1 w'=>e1= .returned (.string (strOf (r7 e.n.toNat)))∧Grow W w':=fun W=>by
   have:=tI e.n.toNat W (by have:=h5 c2;omega)
   rwa [Int.toNat_of_nonneg h4] at this
  refine ff 6 ?_;intro w3 hw3 zw3;replace wt:=wt.step hw3;replace wr:=wr.step hw3;replace k3:=k3.step hw3;replace k4:=k4.step hw3;have zlt:=k4.lt;refine dZ Tryz.underlying192 k3 ?_;refine Zd (fun w hG=>aa.nilCheck rfl rfl) ?_;refine eV 0 Tryz.underlying232 ?_;refine eV 1 Tryz.underlying105 ?_;refine dZ Tryz.underlying2 k4 ?_;refine Dr.cJ rfl (fun w=>Ze Tryz.func185) rfl (fun w hG=>hday w) ?_;refine Dr.nil ?_;refine bb.done (F':=[(3,_),(4,_),(6,_),(7,_),(8,_),(28,_),(56,_),(65,_),(69,_),(72,_)]) rfl ⟨rfl,rfl,rfl,rfl,rfl,rfl,rfl,rfl,rfl,rfl,trivial⟩ ?_;intro w4 hw4 fw4;replace wt:=wt.step hw4;replace wr:=wr.step hw4;replace k3:=k3.step hw4;replace k4:=k4.step hw4;refine Zc (Ze Tryz.func174) ((bS B g (r7 e.n.toNat) bs0 _ wr (yw _) (by have:=ui e.n.toNat;omega)).1) ?_;clear wr;rintro e w5 ⟨⟨_,rfl⟩,fw5,wr⟩;refine⟨_,rfl,?_⟩;replace wt:=wt.wt fw5;replace k3:=k3.wt fw5;replace k4:=k4.wt fw5;refine cB 3 4 6 7 8 28 56 65 (ae.ah ?_);refine ae.eB (F':=[]) trivial ?_;exact hend _ _ (.inr rfl) wt (by rw[hT];exact wr)
 rw[if_neg c2] at hT;refine aj ?_;refine bC ?_;refine Za ?_;refine dY 3 4 6 7 8 28 56 65 74 (Zt ?_);refine Cd.ak rfl (fun c3=> ?_) (fun c3=> ?_)
 ·rw[if_pos c3] at hT
  refine ff 5 ?_;intro w3 hw3 zw3;replace wt:=wt.step hw3;replace wr:=wr.step hw3;replace k3:=k3.step hw3;replace k4:=k4.step hw3;have zlt:=k4.lt;refine dZ Tryz.underlying192 k3 ?_;refine Zd (fun w hG=>aa.nilCheck rfl rfl) ?_;refine eV 0 Tryz.underlying232 ?_;refine eV 2 Tryz.underlying105 ?_;refine dZ Tryz.underlying9 k4 ?_;refine Dr.nil ?_;refine bb.done (F':=[(3,_),(4,_),(6,_),(7,_),(8,_),(28,_),(56,_),(65,_),(74,_),(78,_),(80,_)]) rfl ⟨rfl,rfl,rfl,rfl,rfl,rfl,rfl,rfl,rfl,rfl,rfl,trivial⟩ ?_;intro w4 hw4 fw4;replace wt:=wt.step hw4;replace wr:=wr.step hw4;replace k3:=k3.step hw4;replace k4:=k4.step hw4;refine Zc (Ze Tryz.func174) ((bS B g e.name bs0 _ wr (pR (h6 c3)) (by have:=nu (h6 c3);omega)).1) ?_;clear wr;rintro e w5 ⟨⟨_,rfl⟩,fw5,wr⟩;refine⟨_,rfl,?_⟩;replace wt:=wt.wt fw5;replace k3:=k3.wt fw5;replace k4:=k4.wt fw5;refine dY 3 4 6 7 8 28 56 65 74 (ae.ah ?_);refine ae.eB (F':=[]) trivial ?_;exact hend _ _ (.inr rfl) wt (by rw[hT];exact wr)
 rw[if_neg c3] at hT;refine aj ?_;refine bC ?_;refine Za ?_;refine dq 3 4 6 7 8 28 56 65 74 82 (Zt ?_);refine Cd.ak rfl (fun c4=> ?_) (fun c4=> ?_)
 ·rw[if_pos c4] at hT
  refine Zr ?_;refine ZL Tryz.underlying192 k3 ?_;refine Zv (aa.nilCheck rfl rfl) ?_;refine Zf 0 Tryz.underlying232 ?_;refine Zc (Ze Tryz.func174) ((bS B g [100,97,121] bs0 _ wr (by decide) (by simp only[List.length_cons,List.length_nil];omega)).1) ?_;clear wr;rintro e w3 ⟨⟨_,rfl⟩,fw3,wr⟩;refine⟨_,rfl,?_⟩;replace wt:=wt.wt fw3;replace k3:=k3.wt fw3;replace k4:=k4.wt fw3;refine dq 3 4 6 7 8 28 56 65 74 82 (ae.ah ?_);refine ae.eB (F':=[]) trivial ?_;exact hend _ _ (.inr rfl) wt (by rw[hT];exact wr)
 rw[if_neg c4] at hT;refine aj ?_;refine bC ?_;refine Za ?_;refine dv 3 4 6 7 8 28 56 65 74 82 88 (Zt ?_);refine Cd.ak rfl (fun c9=> ?_) (fun c9=> ?_)
 ·have hb:bu e.op=([],7):=by rw[c9];rfl
  rw[if_neg (by rw[hb];decide),if_neg (by rw[hb];decide),if_neg (by rw[hb];decide),if_pos c9,jG] at hT;refine Zr ?_;refine Zm ?_;refine Seq.call (Enters.value (first:=[]) (cap:=[.pointer (some ⟨g3,0,none⟩), .pointer (some ⟨g4,0,none⟩)]) rfl rfl rfl tN) rfl rfl rfl (lD B g (bs.length+60000) g3 g4 c A e [109,105,110] bs0 w _ hrec (wt.to hBW) k3 k4 wr (by omega) (by omega) (by decide) (by decide) hargs (by omega) hjl) ?_;clear wr;rintro en w9 ⟨⟨_,rfl⟩,f9,wr⟩;refine⟨_,rfl,?_⟩;replace wt:=wt.wt f9;refine dv 3 4 6 7 8 28 56 65 74 82 88 (ae.ah ?_);refine ae.eB (F':=[]) trivial ?_;exact hend _ _ (.inr rfl) wt (by rw[hT];simpa only[List.append_assoc,List.cons_append,List.nil_append] using wr)
 refine aj ?_;refine bC ?_;refine Za ?_;refine fY 3 4 6 7 8 28 56 65 74 82 88 92 (Zt ?_);refine Cd.ak rfl (fun c10=> ?_) (fun c10=> ?_)
 ·have hb:bu e.op=([],7):=by rw[c10];rfl
  rw[if_neg (by rw[hb];decide),if_neg (by rw[hb];decide),if_neg (by rw[hb];decide),if_neg c9,if_pos c10,jG] at hT;refine Zr ?_;refine Zm ?_;refine Seq.call (Enters.value (first:=[]) (cap:=[.pointer (some ⟨g3,0,none⟩), .pointer (some ⟨g4,0,none⟩)]) rfl rfl rfl tN) rfl rfl rfl (lD B g (bs.length+60000) g3 g4 c A e [109,97,120] bs0 w _ hrec (wt.to hBW) k3 k4 wr (by omega) (by omega) (by decide) (by decide) hargs (by omega) hjl) ?_;clear wr;rintro en w9 ⟨⟨_,rfl⟩,f9,wr⟩;refine⟨_,rfl,?_⟩;replace wt:=wt.wt f9;refine fY 3 4 6 7 8 28 56 65 74 82 88 92 (ae.ah ?_);refine ae.eB (F':=[]) trivial ?_;exact hend _ _ (.inr rfl) wt (by rw[hT];simpa only[List.append_assoc,List.cons_append,List.nil_append] using wr)
 refine aj ?_;refine bC ?_;refine Za ?_;refine iq 3 4 6 7 8 28 56 65 74 82 88 92 96 (Zt ?_);refine Cd.ak rfl (fun c21=> ?_) (fun c21=> ?_)
 ·have hb:bu e.op=([],7):=by rw[c21];rfl
  rw[if_neg (by rw[hb];decide),if_neg (by rw[hb];decide),if_neg (by rw[hb];decide),if_neg c9,if_neg c10,jG] at hT;refine Zr ?_;refine Zm ?_;refine Seq.call (Enters.value (first:=[]) (cap:=[.pointer (some ⟨g3,0,none⟩), .pointer (some ⟨g4,0,none⟩)]) rfl rfl rfl tN) rfl rfl rfl (lD B g (bs.length+60000) g3 g4 c A e [105,102] bs0 w _ hrec (wt.to hBW) k3 k4 wr (by omega) (by omega) (by decide) (by decide) hargs (by omega) hjl) ?_;clear wr;rintro en w9 ⟨⟨_,rfl⟩,f9,wr⟩;refine⟨_,rfl,?_⟩;replace wt:=wt.wt f9;refine iq 3 4 6 7 8 28 56 65 74 82 88 92 96 (ae.ah ?_);refine ae.eB (F':=[]) trivial ?_;exact hend _ _ (.inr rfl) wt (by rw[hT];simpa only[List.append_assoc,List.cons_append,List.nil_append] using wr)
 refine Cd.seq (aj ?_);refine bC ?_;refine Za ?_;refine jO 3 4 6 7 8 28 56 65 74 82 88 92 96 100 (Zt ?_);refine Cd.ak rfl (fun c19=> ?_) (fun c19=> ?_)
 ·skip
  refine Cd.skip (Zt ?_);refine Cd.aU rfl (decide_eq_true c19) ?_;have hb:(bu e.op).2=6:=by rw[c19];rfl
  have hlen1:e.args.length=1:=o5 (by omega);obtain⟨x,hx⟩:∃x,e.args=[x]:=List.length_eq_one_iff.1 hlen1;obtain⟨ad,A0,A0',rfl,hcx,hcallx⟩:=hrec 0 x (by rw[hx];rfl);rw[if_pos hb,hx,show([x].map cO).getD 0 (7,[])=cO x from rfl] at hT;refine aj ?_;refine ZL Tryz.underlying192 k3 ?_;refine Zv (aa.nilCheck rfl rfl) ?_;refine Zf 0 Tryz.underlying232 ?_;refine Zm ?_;refine Zc (Ze Tryz.func174) ((bS B g (bu e.op).1 bs0 _ wr b2 (by omega)).1) ?_;clear wr;rintro e w3 ⟨⟨_,rfl⟩,fw3,wr⟩;refine⟨_,rfl,?_⟩;replace wt:=wt.wt fw3;replace k3:=k3.wt fw3;replace k4:=k4.wt fw3;refine jO 3 4 6 7 8 28 56 65 74 82 88 92 96 100 (Zt ?_);refine ff 5 ?_;intro w4 hw4 zw4;replace wt:=wt.step hw4;replace wr:=wr.step hw4;replace k3:=k3.step hw4;replace k4:=k4.step hw4;have zlt:=k4.lt;refine dZ Tryz.underlying192 k3 ?_;refine eV 3 Tryz.underlying105 ?_;refine dZ Tryz.underlying68 k4 ?_;refine Zd (fun w hG=>aa.bI rfl rfl rfl Tryz.underlying68 (s:=4) (by kernel_rfl) (j:=0) rfl (by omega)) ?_;refine Zd (fun w hG=>aa.ep (ps:=[.int .i64 x.op, .int .i64 x.n, .string (strOf x.name), .slice A0 x.args.length A0']) rfl rfl Tryz.underlying105 rfl (m:=4) (by kernel_rfl) rfl (hcx _ ((wt.to hBW).trans (hG.mono wr.size)))) ?_;refine Dr.nil ?_;refine bb.done (F':=[(3,_),(4,_),(6,_),(7,_),(8,_),(28,_),(56,_),(65,_),(74,_),(82,_),(88,_),(92,_),(96,_),(100,_),(108,_),(112,_)]) rfl ⟨rfl,rfl,rfl,rfl,rfl,rfl,rfl,rfl,rfl,rfl,rfl,rfl,rfl,rfl,rfl,rfl,trivial⟩ ?_;intro w5 hw5 fw5;replace wt:=wt.step hw5;replace wr:=wr.step hw5;replace k3:=k3.step hw5;replace k4:=k4.step hw5;refine Zc (Ze Tryz.func138) (hcallx _ _ 6 (wt.to hBW) wr (by unfold bm;omega) (by rw[List.length_append];omega)) ?_;clear wr;rintro e w6 ⟨⟨_,rfl⟩,fw6,wr⟩;refine⟨_,rfl,?_⟩;replace wt:=wt.wt fw6;refine jO 3 4 6 7 8 28 56 65 74 82 88 92 96 100 (ae.ah ?_);refine ae.eB (F':=[]) trivial ?_;exact hend _ _ (.inr rfl) wt (by rw[hT];simpa only[List.append_assoc,pg] using wr)
 refine Zr ?_;refine bC ?_;refine Za ?_;refine jO 3 4 6 7 8 28 56 65 74 82 88 92 96 100 (Zt ?_);refine Cd.ak rfl (fun c20=> ?_) (fun c20=> ?_)
 ·skip
  have hb:(bu e.op).2=6:=by rw[c20];rfl
  have hlen1:e.args.length=1:=o5 (by omega);obtain⟨x,hx⟩:∃x,e.args=[x]:=List.length_eq_one_iff.1 hlen1;obtain⟨ad,A0,A0',rfl,hcx,hcallx⟩:=hrec 0 x (by rw[hx];rfl);rw[if_pos hb,hx,show([x].map cO).getD 0 (7,[])=cO x from rfl] at hT;refine aj ?_;refine ZL Tryz.underlying192 k3 ?_;refine Zv (aa.nilCheck rfl rfl) ?_;refine Zf 0 Tryz.underlying232 ?_;refine Zm ?_;refine Zc (Ze Tryz.func174) ((bS B g (bu e.op).1 bs0 _ wr b2 (by omega)).1) ?_;clear wr;rintro e w3 ⟨⟨_,rfl⟩,fw3,wr⟩;refine⟨_,rfl,?_⟩;replace wt:=wt.wt fw3;replace k3:=k3.wt fw3;replace k4:=k4.wt fw3;refine jO 3 4 6 7 8 28 56 65 74 82 88 92 96 100 (Zt ?_);refine ff 5 ?_;intro w4 hw4 zw4;replace wt:=wt.step hw4;replace wr:=wr.step hw4;replace k3:=k3.step hw4;replace k4:=k4.step hw4;have zlt:=k4.lt;refine dZ Tryz.underlying192 k3 ?_;refine eV 3 Tryz.underlying105 ?_;refine dZ Tryz.underlying68 k4 ?_;refine Zd (fun w hG=>aa.bI rfl rfl rfl Tryz.underlying68 (s:=4) (by kernel_rfl) (j:=0) rfl (by omega)) ?_;refine Zd (fun w hG=>aa.ep (ps:=[.int .i64 x.op, .int .i64 x.n, .string (strOf x.name), .slice A0 x.args.length A0']) rfl rfl Tryz.underlying105 rfl (m:=4) (by kernel_rfl) rfl (hcx _ ((wt.to hBW).trans (hG.mono wr.size)))) ?_;refine Dr.nil ?_;refine bb.done (F':=[(3,_),(4,_),(6,_),(7,_),(8,_),(28,_),(56,_),(65,_),(74,_),(82,_),(88,_),(92,_),(96,_),(100,_),(108,_),(112,_)]) rfl ⟨rfl,rfl,rfl,rfl,rfl,rfl,rfl,rfl,rfl,rfl,rfl,rfl,rfl,rfl,rfl,rfl,trivial⟩ ?_;intro w5 hw5 fw5;replace wt:=wt.step hw5;replace wr:=wr.step hw5;replace k3:=k3.step hw5;replace k4:=k4.step hw5;refine Zc (Ze Tryz.func138) (hcallx _ _ 6 (wt.to hBW) wr (by unfold bm;omega) (by rw[List.length_append];omega)) ?_;clear wr;rintro e w6 ⟨⟨_,rfl⟩,fw6,wr⟩;refine⟨_,rfl,?_⟩;replace wt:=wt.wt fw6;refine jO 3 4 6 7 8 28 56 65 74 82 88 92 96 100 (ae.ah ?_);refine ae.eB (F':=[]) trivial ?_;exact hend _ _ (.inr rfl) wt (by rw[hT];simpa only[List.append_assoc,pg] using wr)
 have hop:e.op=5∨e.op=6∨e.op=7∨e.op=8∨e.op=11∨e.op=12∨e.op=13∨e.op=14∨e.op=15∨e.op=16∨e.op=17∨e.op=18:=by omega
 have hp:(bu e.op).2<6:=by rcases hop with h|h|h|h|h|h|h|h|h|h|h|h<;>rw[h]<;>decide
 have hlen2:e.args.length=2:=o4 (by omega) (by omega)
 obtain⟨x,y,hxy⟩:∃x y,e.args=[x,y]:=by
  cases h:e.args with
  |nil=>rw[h] at hlen2;simp at hlen2
  |cons x r=>cases r with
   |nil=>rw[h] at hlen2;simp at hlen2
   |cons y r=>cases r with
    |nil=>exact⟨x,y,rfl⟩
    |cons z r=>rw[h] at hlen2;simp at hlen2
 obtain⟨ad,A0,A0',rfl,hcx,hcallx⟩:=hrec 0 x (by rw[hxy];rfl);obtain⟨ad',A1,A1',had,hcy,hcally⟩:=hrec 1 y (by rw[hxy];rfl);injection had with had
 subst had
 have hil:∀l,(pg x l).length≤20000:=fun l=>by
  have h1:=(lT l (cO x)).1;have e1:(cO x).2=bO x:=rfl;have h2:=(fM x.nodes x (Nat.le_refl _) (hargs x (by rw[hxy];exact List.mem_cons_self))).1;have h3:x.nodes<e.nodes:=Ex.gL (by rw[hxy];exact List.mem_cons_self);rw[e1] at h1;unfold pg;omega
 rw[if_neg (by omega),hxy,show([x,y].map cO).getD 0 (7,[])=cO x from rfl,show([x,y].map cO).getD 1 (7,[])=cO y from rfl] at hT;refine aj ?_;refine Zm ?_;refine Za ?_;refine tS 3 4 6 7 8 9 28 56 65 74 82 88 92 96 100 (aI (aj ?_));refine Zm ?_;refine bC ?_;refine nM 3 4 6 7 8 9 28 31 56 65 74 82 88 92 96 100 (Zt ?_);refine Cd.ak rfl (fun c3'=> ?_) (fun c3'=> ?_)
 ·rw[if_pos c3',show(4:Int)=(bu e.op).2+1 by omega] at hT
  refine Zr ?_;refine Zm ?_;refine cG ?_;refine Za ?_;refine nM 3 4 6 7 8 9 28 31 56 65 74 82 88 92 96 100 (aI ?_);refine ff 6 ?_;intro w3 hw3 zw3;replace wt:=wt.step hw3;replace wr:=wr.step hw3;replace k3:=k3.step hw3;replace k4:=k4.step hw3;have zlt:=k4.lt;refine dZ Tryz.underlying192 k3 ?_;refine eV 3 Tryz.underlying105 ?_;refine dZ Tryz.underlying68 k4 ?_;refine Zd (fun w hG=>aa.bI rfl rfl rfl Tryz.underlying68 (s:=4) (by kernel_rfl) (j:=0) rfl (by omega)) ?_;refine Zd (fun w hG=>aa.ep (ps:=[.int .i64 x.op, .int .i64 x.n, .string (strOf x.name), .slice A0 x.args.length A0']) rfl rfl Tryz.underlying105 rfl (m:=4) (by kernel_rfl) rfl (hcx _ ((wt.to hBW).trans (hG.mono wr.size)))) ?_;refine cf ?_;refine Dr.nil ?_;refine bb.done (F':=[(3,_),(4,_),(6,_),(7,_),(8,_),(9,_),(28,_),(31,_),(34,_),(38,_),(39,_),(56,_),(65,_),(74,_),(82,_),(88,_),(92,_),(96,_),(100,_)]) rfl ⟨rfl,rfl,rfl,rfl,rfl,rfl,rfl,rfl,rfl,rfl,rfl,rfl,rfl,rfl,rfl,rfl,rfl,rfl,rfl,trivial⟩ ?_;intro w4 hw4 fw4;replace wt:=wt.step hw4;replace wr:=wr.step hw4;replace k3:=k3.step hw4;replace k4:=k4.step hw4;refine Zc (Ze Tryz.func138) (hcallx _ _ ((bu e.op).2+1) (wt.to hBW) wr (by unfold bm;omega) (by omega)) ?_;clear wr;rintro e w5 ⟨⟨_,rfl⟩,fw5,wr⟩;refine⟨_,rfl,?_⟩;replace wt:=wt.wt fw5;replace k3:=k3.wt fw5;replace k4:=k4.wt fw5;refine nM 3 4 6 7 8 9 28 31 56 65 74 82 88 92 96 100 (aB ?_);refine ZL Tryz.underlying192 k3 ?_;refine Zv (aa.nilCheck rfl rfl) ?_;refine Zf 0 Tryz.underlying232 ?_;refine Zm ?_;refine Zv (aa.eD (a:=[32]) rfl rfl rfl (by simp only[List.length_cons,List.length_nil];omega)) ?_;refine Zv (aa.eD (b:=[32]) rfl rfl rfl (by simp only[List.length_append,List.length_cons,List.length_nil];omega)) ?_;have i0:=hil ((bu e.op).2+1);refine Zc (Ze Tryz.func174) ((bS B g ([32]++(bu e.op).1++[32]) _ _ wr (DT (by decide) b2 (by decide)) (by simp only[List.length_append,List.length_cons,List.length_nil];omega)).1) ?_;clear wr;rintro e w6 ⟨⟨_,rfl⟩,fw6,wr⟩;refine⟨_,rfl,?_⟩;replace wt:=wt.wt fw6;replace k3:=k3.wt fw6;replace k4:=k4.wt fw6;refine nM 3 4 6 7 8 9 28 31 56 65 74 82 88 92 96 100 (Zt ?_);refine ff 7 ?_;intro w7 hw7 zw7;replace wt:=wt.step hw7;replace wr:=wr.step hw7;replace k3:=k3.step hw7;replace k4:=k4.step hw7;have zlt:=k4.lt;refine dZ Tryz.underlying192 k3 ?_;refine eV 3 Tryz.underlying105 ?_;refine dZ Tryz.underlying68 k4 ?_;refine Zd (fun w hG=>aa.bI rfl rfl rfl Tryz.underlying68 (s:=4) (by kernel_rfl) (j:=1) rfl (by omega)) ?_;refine Zd (fun w hG=>aa.ep (ps:=[.int .i64 y.op, .int .i64 y.n, .string (strOf y.name), .slice A1 y.args.length A1']) rfl rfl Tryz.underlying105 rfl (m:=4) (by kernel_rfl) rfl (hcy _ ((wt.to hBW).trans (hG.mono wr.size)))) ?_;refine cf ?_;refine Zd (fun w hG=>aa.kA rfl rfl rfl (by omega) (by omega)) ?_;refine Dr.nil ?_;refine bb.done (F':=[(3,_),(4,_),(6,_),(7,_),(8,_),(9,_),(28,_),(31,_),(48,_),(52,_),(54,_),(56,_),(65,_),(74,_),(82,_),(88,_),(92,_),(96,_),(100,_)]) rfl ⟨rfl,rfl,rfl,rfl,rfl,rfl,rfl,rfl,rfl,rfl,rfl,rfl,rfl,rfl,rfl,rfl,rfl,rfl,rfl,trivial⟩ ?_;intro w8 hw8 fw8;replace wt:=wt.step hw8;replace wr:=wr.step hw8;replace k3:=k3.step hw8;replace k4:=k4.step hw8;refine Zc (Ze Tryz.func138) (hcally _ _ ((bu e.op).2+1) (wt.to hBW) wr (by unfold bm;omega) (by simp only[List.length_append,List.length_cons,List.length_nil];omega)) ?_;clear wr;rintro e w9 ⟨⟨_,rfl⟩,fw9,wr⟩;refine⟨_,rfl,?_⟩;replace wt:=wt.wt fw9;refine nM 3 4 6 7 8 9 28 31 56 65 74 82 88 92 96 100 (ae.ah ?_);refine ae.eB (F':=[]) trivial ?_;exact hend _ _ (.inr rfl) wt (by rw[hT];simpa only[List.append_assoc,pg] using wr)
 ·rw[if_neg c3',if_pos hp] at hT
  refine Cd.skip (aI ?_);refine ff 6 ?_;intro w3 hw3 zw3;replace wt:=wt.step hw3;replace wr:=wr.step hw3;replace k3:=k3.step hw3;replace k4:=k4.step hw3;have zlt:=k4.lt;refine dZ Tryz.underlying192 k3 ?_;refine eV 3 Tryz.underlying105 ?_;refine dZ Tryz.underlying68 k4 ?_;refine Zd (fun w hG=>aa.bI rfl rfl rfl Tryz.underlying68 (s:=4) (by kernel_rfl) (j:=0) rfl (by omega)) ?_;refine Zd (fun w hG=>aa.ep (ps:=[.int .i64 x.op, .int .i64 x.n, .string (strOf x.name), .slice A0 x.args.length A0']) rfl rfl Tryz.underlying105 rfl (m:=4) (by kernel_rfl) rfl (hcx _ ((wt.to hBW).trans (hG.mono wr.size)))) ?_;refine cf ?_;refine Dr.nil ?_;refine bb.done (F':=[(3,_),(4,_),(6,_),(7,_),(8,_),(9,_),(28,_),(31,_),(34,_),(38,_),(39,_),(56,_),(65,_),(74,_),(82,_),(88,_),(92,_),(96,_),(100,_)]) rfl ⟨rfl,rfl,rfl,rfl,rfl,rfl,rfl,rfl,rfl,rfl,rfl,rfl,rfl,rfl,rfl,rfl,rfl,rfl,rfl,trivial⟩ ?_;intro w4 hw4 fw4;replace wt:=wt.step hw4;replace wr:=wr.step hw4;replace k3:=k3.step hw4;replace k4:=k4.step hw4;refine Zc (Ze Tryz.func138) (hcallx _ _ (bu e.op).2 (wt.to hBW) wr (by unfold bm;omega) (by omega)) ?_;clear wr;rintro e w5 ⟨⟨_,rfl⟩,fw5,wr⟩;refine⟨_,rfl,?_⟩;replace wt:=wt.wt fw5;replace k3:=k3.wt fw5;replace k4:=k4.wt fw5;refine nM 3 4 6 7 8 9 28 31 56 65 74 82 88 92 96 100 (aB ?_);refine ZL Tryz.underlying192 k3 ?_;refine Zv (aa.nilCheck rfl rfl) ?_;refine Zf 0 Tryz.underlying232 ?_;refine Zm ?_;refine Zv (aa.eD (a:=[32]) rfl rfl rfl (by simp only[List.length_cons,List.length_nil];omega)) ?_;refine Zv (aa.eD (b:=[32]) rfl rfl rfl (by simp only[List.length_append,List.length_cons,List.length_nil];omega)) ?_;have i0:=hil (bu e.op).2;refine Zc (Ze Tryz.func174) ((bS B g ([32]++(bu e.op).1++[32]) _ _ wr (DT (by decide) b2 (by decide)) (by simp only[List.length_append,List.length_cons,List.length_nil];omega)).1) ?_;clear wr;rintro e w6 ⟨⟨_,rfl⟩,fw6,wr⟩;refine⟨_,rfl,?_⟩;replace wt:=wt.wt fw6;replace k3:=k3.wt fw6;replace k4:=k4.wt fw6;refine nM 3 4 6 7 8 9 28 31 56 65 74 82 88 92 96 100 (Zt ?_);refine ff 7 ?_;intro w7 hw7 zw7;replace wt:=wt.step hw7;replace wr:=wr.step hw7;replace k3:=k3.step hw7;replace k4:=k4.step hw7;have zlt:=k4.lt;refine dZ Tryz.underlying192 k3 ?_;refine eV 3 Tryz.underlying105 ?_;refine dZ Tryz.underlying68 k4 ?_;refine Zd (fun w hG=>aa.bI rfl rfl rfl Tryz.underlying68 (s:=4) (by kernel_rfl) (j:=1) rfl (by omega)) ?_;refine Zd (fun w hG=>aa.ep (ps:=[.int .i64 y.op, .int .i64 y.n, .string (strOf y.name), .slice A1 y.args.length A1']) rfl rfl Tryz.underlying105 rfl (m:=4) (by kernel_rfl) rfl (hcy _ ((wt.to hBW).trans (hG.mono wr.size)))) ?_;refine cf ?_;refine Zd (fun w hG=>aa.kA rfl rfl rfl (by omega) (by omega)) ?_;refine Dr.nil ?_;refine bb.done (F':=[(3,_),(4,_),(6,_),(7,_),(8,_),(9,_),(28,_),(31,_),(48,_),(52,_),(54,_),(56,_),(65,_),(74,_),(82,_),(88,_),(92,_),(96,_),(100,_)]) rfl ⟨rfl,rfl,rfl,rfl,rfl,rfl,rfl,rfl,rfl,rfl,rfl,rfl,rfl,rfl,rfl,rfl,rfl,rfl,rfl,trivial⟩ ?_;intro w8 hw8 fw8;replace wt:=wt.step hw8;replace wr:=wr.step hw8;replace k3:=k3.step hw8;replace k4:=k4.step hw8;refine Zc (Ze Tryz.func138) (hcally _ _ ((bu e.op).2+1) (wt.to hBW) wr (by unfold bm;omega) (by simp only[List.length_append,List.length_cons,List.length_nil];omega)) ?_;clear wr;rintro e w9 ⟨⟨_,rfl⟩,fw9,wr⟩;refine⟨_,rfl,?_⟩;replace wt:=wt.wt fw9;refine nM 3 4 6 7 8 9 28 31 56 65 74 82 88 92 96 100 (ae.ah ?_);refine ae.eB (F':=[]) trivial ?_;exact hend _ _ (.inr rfl) wt (by rw[hT];simpa only[List.append_assoc,pg] using wr)
def ki (right:Bool)(T:List Nat):List Nat × Int:=if right=false then([],1) else if 4000<T.length then([],4) else(T,0)
theorem ow (w:World):(Instr.build 232 #[]).run Tryz.prog w= .ok (.agg #[.pointer none, .slice none 0 0]) w:=by kernel_rfl
theorem uL (right:Bool)(T:List Nat)(f:Nat)(cp:List Value)(w:World)(eg:∀args w,(callFunc f args).run Tryz.prog w= .ok (.enter f args) w)(hTl:T.length≤1000000)
  (hw:right=true→∀W g,Below w.heap.size w W→Bw W w.heap.size g []→Calls Tryz.prog f ([]++[Value.pointer (some ⟨g,0,none⟩)]++cp).toArray W (iS w.heap.size g T W)):
  Calls Tryz.prog 129 #[.bool right, .func (.func f) #[] cp.toArray] w fun e w'=>e= .returned (.tuple #[.string (strOf (ki right T).1), .int .i64 (ki right T).2])∧Grow w w':=by
 have ab:=Below.refl w.heap.size w;unfold ki;refine Zs 23 Tryz.func129 ?_;refine aj ?_;refine Za ?_;refine Za ?_;refine aQ 0 1 4 5 (aI (aj ?_));refine Zm ?_;refine mD ?_;refine aO 0 1 4 5 8 (Zt ?_);refine Cd.cond rfl (fun hc=> ?_) (fun hc=> ?_)
 ·obtain rfl:right=false:=by simpa using hc
  refine aj ?_;refine Za ?_;refine Za ?_;refine aO 0 1 4 5 8 (Zt (Cd.ret (ae.af ?_)));refine dH ?_;exact⟨rfl,ab⟩
 ·obtain rfl:right=true:=by simpa using hc
  have hw:=hw rfl;refine Cd.skip (aB ?_);refine Zv (aa.build rfl rfl (ow _)) ?_;refine Seq.box rfl rfl rfl rfl rfl ?_;intro g10 w1 n10;have e10:=Nat.le_trans ab.size n10.ge;replace ab:=ab.step n10.below;have k10:=n10.an;refine Za ?_;refine aY 0 1 4 5 6 8 (aB ?_);refine Zm ?_;refine Zm ?_;have wr:Bw _ w.heap.size g10 []:=⟨e10,fun d hd=>(by cases hd),_,_, .inl rfl,k10,Own.nil _ _ _ _,fun _=>rfl⟩;have wt:=Wt.grow (B:=w.heap.size) ab;refine Seq.call (Enters.value (first:=[]) rfl rfl rfl eg) rfl rfl rfl (hw _ g10 ab wr) ?_;clear wr;rintro en w9 ⟨⟨_,rfl⟩,f9,wr⟩;refine⟨_,rfl,?_⟩;replace wt:=wt.wt f9;refine aY 0 1 4 5 6 8 (aI (aj ?_));refine Zm ?_;refine Zv (aa.nilCheck rfl rfl) ?_;refine Zf 0 Tryz.underlying232 ?_;have hBw:=wr.size;refine Zc (Ze Tryz.func172) (Ch w.heap.size g10 _ _ wr) ?_;rintro en w10 ⟨rfl,hb10⟩;refine⟨_,rfl,?_⟩;replace wt:=wt.step hb10;replace wr:=wr.step hb10;refine uV ?_;refine ba 0 1 4 5 6 8 18 (Zt ?_);refine Cd.ak rfl (fun hc=> ?_) (fun hc=> ?_)
  ·skip
   refine aj ?_;refine Za ?_;refine Za ?_;refine ba 0 1 4 5 6 8 18 (Zt (Cd.ret (ae.af ?_)));refine dH ?_;rw[if_neg (by decide),if_pos (by omega)];exact⟨rfl,wt.to (Nat.le_refl _)⟩
  ·skip
   refine Cd.skip (aB ?_);refine Zm ?_;refine Zv (aa.nilCheck rfl rfl) ?_;refine Zf 0 Tryz.underlying232 ?_;refine Zc (Ze Tryz.func173) (vm w.heap.size g10 _ _ wr (by omega)) ?_;rintro en w11 ⟨rfl,hb11⟩;refine⟨_,rfl,?_⟩;have hfin:=(wt.to (Nat.le_refl _)).trans hb11;refine Za ?_;refine Za ?_;refine ba 0 1 4 5 6 8 18 (Zt (Cd.ret ?_));refine dH ?_;rw[if_neg (by decide),if_neg (by omega)];exact⟨by simp,hfin⟩
theorem lC (a b:Int)(w:World):(Instr.build 105 #[(0, .int .i64 a),(1, .int .i64 b)]).run Tryz.prog w= .ok (.agg #[.int .i64 a, .int .i64 b, .string (strOf []), .slice none 0 0]) w:=by
 have hu:=Tryz.underlying105
 go_simp
 rfl
theorem pe (a:Int)(g:Nat)(w:World):(Instr.build 105 #[(0, .int .i64 a),(3, .slice (some ⟨g,0,none⟩) 2 2)]).run Tryz.prog w= .ok (.agg #[.int .i64 a, .int .i64 0, .string (strOf []), .slice (some ⟨g,0,none⟩) 2 2]) w:=by
 have hu:=Tryz.underlying105
 go_simp
 rfl
inductive Tm where
 |mk (op:Int) (name:List Nat) (exprs:List Ex) (aF:List Tm)
def Tm.op:Tm→Int| .mk op _ _ _=>op
def Tm.name:Tm→List Nat| .mk _ nm _ _=>nm
def Tm.exprs:Tm→List Ex| .mk _ _ l _=>l
def Tm.aF:Tm→List Tm| .mk _ _ _ l=>l
mutual
def Tm.nodes:Tm→Nat
 | .mk _ _ es l=>1+aK es+cu l
def cu:List Tm→Nat
 | []=>0
 |e::r=>e.nodes+cu r
end
mutual
def Tm.depth:Tm→Nat
 | .mk _ _ es l=>1+max (aW es) (cD l)
def cD:List Tm→Nat
 | []=>0
 |e::r=>max e.depth (cD r)
end
theorem Tm.dQ (op:Int)(nm:List Nat)(es:List Ex)(l:List Tm):(Tm.mk op nm es l).nodes=1+aK es+cu l:=by rw[Tm.nodes]
theorem Tm.fI (op:Int)(nm:List Nat)(es:List Ex)(l:List Tm):(Tm.mk op nm es l).depth=1+max (aW es) (cD l):=by rw[Tm.depth]
theorem Tm.lJ (t:Tm):t.nodes=1+aK t.exprs+cu t.aF:=by cases t;exact Tm.dQ _ _ _ _
theorem Tm.lx (t:Tm):t.depth=1+max (aW t.exprs) (cD t.aF):=by cases t;exact Tm.fI _ _ _ _
theorem wU {l:List Tm}{t:Tm}(h:t∈l):t.nodes≤cu l:=by
 induction l with
 |nil=>cases h
 |cons x r ih=>
  unfold cu;rcases List.mem_cons.1 h with rfl|h
  ·omega
  ·have:=ih h;omega
theorem wL {l:List Tm}{t:Tm}(h:t∈l):t.depth≤cD l:=by
 induction l with
 |nil=>cases h
 |cons x r ih=>
  unfold cD;rcases List.mem_cons.1 h with rfl|h
  ·omega
  ·have:=ih h;omega
theorem Tm.fU {t x:Tm}(h:x∈t.aF):x.nodes<t.nodes:=by have:=wU h;have:=t.lJ;omega
theorem Tm.rm {t x:Tm}(h:x∈t.aF):x.depth<t.depth:=by have:=wL h;have:=t.lx;omega
theorem Tm.qD {t:Tm}{x:Ex}(h:x∈t.exprs):x.nodes<t.nodes:=by have:=mW h;have:=t.lJ;omega
theorem Tm.wG {t:Tm}{x:Ex}(h:x∈t.exprs):x.depth<t.depth:=by have:=rA h;have:=t.lx;omega
theorem Tm.cR (t:Tm):0<t.nodes:=by have:=t.lJ;omega
mutual
theorem Tm.bR:∀t:Tm,t.depth≤t.nodes
 | .mk _ _ es l=>by unfold Tm.depth Tm.nodes;have:=jx l;have:=dV es;omega
theorem jx:∀l:List Tm,cD l≤cu l
 | []=>Nat.le_refl _
 |e::r=>by unfold cD cu;have:=Tm.bR e;have:=jx r;omega
end
inductive dr (w:World)(S:Nat→Prop):Tm→Value→Prop
 |mk {op:Int} {nm:List Nat} {es:List Ex} {ts:List Tm} {A A':Option Addr} {c c':Nat} {vs us:List Value} (hl:vs.length=es.length) (hl':us.length=ts.length) (kO:es.length≤1000) (nq:ts.length≤1000) (hop:bm op) (hnm:∀d∈nm,d<256) (hnl:nm.length≤9223372036854775807)
   (hr:∀(i:Nat) (e:Ex) (v:Value),es[i]? =some e→vs[i]? =some v→cw w S e v) (hr':∀(i:Nat) (t:Tm) (v:Value),ts[i]? =some t→us[i]? =some v→dr w S t v) (hA:Rows w S A (aN vs)) (hA':Rows w S A' (aN us)):dr w S (.mk op nm es ts) (.agg #[.int .i64 op, .string (strOf nm), .slice A es.length c, .slice A' ts.length c'])
theorem Rows.mono {w w':World}{S S':Nat→Prop}{A:Option Addr}{xs:List Value}(h:Rows w S A xs)(hS:∀b,S b→S' b)(hc:∀p:Addr,S p.block→w'.cell? p=w.cell? p):Rows w' S' A xs:=fun hne=>by
 obtain⟨ad,e1,e2,e3⟩:=h hne;exact⟨ad,e1,hS _ e2,fun j u hu=>(hc _ (by rw[av];exact e2)).trans (e3 j u hu)⟩
theorem dr.mono {w w':World}{S S':Nat→Prop}{t:Tm}{v:Value}(h:dr w S t v)(hS:∀b,S b→S' b)(hc:∀p:Addr,S p.block→w'.cell? p=w.cell? p):dr w' S' t v:=by
 induction h with
 |mk hl hl' kO nq hop hnm hnl hr hr' hA hA' ih=>exact .mk hl hl' kO nq hop hnm hnl (fun i e v he hv=>(hr i e v he hv).mono hS hc) ih (hA.mono hS hc) (hA'.mono hS hc)
def gJ (w:World)(B:Nat)(t:Tm)(v:Value):Prop:=dr w (· <B) t v
theorem gJ.below {w w':World}{B:Nat}{t:Tm}{v:Value}(h:gJ w B t v)(hb:Below B w w'):gJ w' B t v:=dr.mono h (fun _ h=>h) (fun _ hp=>hb.cell hp)
theorem gJ.more {w:World}{B B':Nat}{t:Tm}{v:Value}(h:gJ w B t v)(hb:B≤B'):gJ w B' t v:=dr.mono h (fun _ h=>Nat.lt_of_lt_of_le h hb) (fun _ _=>rfl)
theorem dr.tO {w:World}{S:Nat→Prop}{t:Tm}{v:Value}(h:dr w S t v):v.cells.size=4:=by
 cases h;rfl
theorem dr.form {w:World}{S:Nat→Prop}{t:Tm}{v:Value}(h:dr w S t v):∃A c A' c',v= .agg #[.int .i64 t.op, .string (strOf t.name), .slice A t.exprs.length c, .slice A' t.aF.length c']:=by
 cases h;exact⟨_,_,_,_,rfl⟩
def Db (w:World)(B:Nat)(es:List Ex)(A:Option Addr):Prop:=∀i x,es[i]? =some x→∃ad A' c',A=some ad∧ad.block<B∧rE w B x (.agg #[.int .i64 x.op, .int .i64 x.n, .string (strOf x.name), .slice A' x.args.length c'])∧∀(j:Nat) (u:Value),([.int .i64 x.op, .int .i64 x.n, .string (strOf x.name), .slice A' x.args.length c']:List Value)[j]? =some u→w.cell? ((ad.add (i*4)).add j)=some u
def Fx (x:Tm)(A A':Option Addr)(c c':Nat):List Value:=[.int .i64 x.op, .string (strOf x.name), .slice A x.exprs.length c, .slice A' x.aF.length c']
def xD (w:World)(B:Nat)(ts:List Tm)(A:Option Addr):Prop:=∀i x,ts[i]? =some x→∃ad A1 A2 c1 c2,A=some ad∧ad.block<B∧gJ w B x (.agg #[.int .i64 x.op, .string (strOf x.name), .slice A1 x.exprs.length c1, .slice A2 x.aF.length c2])∧∀(j:Nat) (u:Value),(Fx x A1 A2 c1 c2)[j]? =some u→w.cell? ((ad.add (i*4)).add j)=some u
theorem Db.below {w w':World}{B:Nat}{es:List Ex}{A:Option Addr}(h:Db w B es A)(hb:Below B w w'):Db w' B es A:=fun i x hx=>by
 obtain⟨ad,A',c',e1,e2,e3,e4⟩:=h i x hx;exact⟨ad,A',c',e1,e2,e3.below hb,fun j u hu=>(hb.cell (by rw[av,av];exact e2)).trans (e4 j u hu)⟩
theorem xD.below {w w':World}{B:Nat}{ts:List Tm}{A:Option Addr}(h:xD w B ts A)(hb:Below B w w'):xD w' B ts A:=fun i x hx=>by
 obtain⟨ad,A1,A2,c1,c2,e1,e2,e3,e4⟩:=h i x hx;exact⟨ad,A1,A2,c1,c2,e1,e2,e3.below hb,fun j u hu=>(hb.cell (by rw[av,av];exact e2)).trans (e4 j u hu)⟩
theorem Dq {w:World}{B:Nat}{es:List Ex}{vs:List Value}{A:Option Addr}(hl:vs.length=es.length)(hr:∀(i:Nat) (e:Ex) (v:Value),es[i]? =some e→vs[i]? =some v→cw w (· <B) e v)(hA:Rows w (· <B) A (aN vs)):Db w B es A:=fun i x hx=>by
 have hi:=(List.getElem?_eq_some_iff.1 hx).1;obtain⟨v,hv⟩:∃v,vs[i]? =some v:=⟨_,List.getElem?_eq_getElem (by omega)⟩;have hrx:=hr i x v hx hv
 have h4:∀y∈vs,y.cells.size=4:=fun y hy=>by
  obtain⟨k,hk,rfl⟩:=List.getElem_of_mem hy;obtain⟨z,hz⟩:∃z,es[k]? =some z:=⟨_,List.getElem?_eq_getElem (by omega)⟩;exact(hr k z _ hz (List.getElem?_eq_getElem hk)).tO
 obtain⟨A',c',rfl⟩:=hrx.form;have hne:aN vs≠ []:=fun h0=>by have:=jD h4 hv 0 _ rfl;rw[h0] at this;cases this
 obtain⟨ad,rfl,hb,hc⟩:=hA hne;exact⟨ad,A',c',rfl,hb,hrx,fun j u hu=>by rw[gd];exact hc _ _ (jD h4 hv j u (by simpa[Value.cells] using hu))⟩
theorem DV {w:World}{B:Nat}{ts:List Tm}{vs:List Value}{A:Option Addr}(hl:vs.length=ts.length)(hr:∀(i:Nat) (e:Tm) (v:Value),ts[i]? =some e→vs[i]? =some v→dr w (· <B) e v)(hA:Rows w (· <B) A (aN vs)):xD w B ts A:=fun i x hx=>by
 have hi:=(List.getElem?_eq_some_iff.1 hx).1;obtain⟨v,hv⟩:∃v,vs[i]? =some v:=⟨_,List.getElem?_eq_getElem (by omega)⟩;have hrx:=hr i x v hx hv
 have h4:∀y∈vs,y.cells.size=4:=fun y hy=>by
  obtain⟨k,hk,rfl⟩:=List.getElem_of_mem hy;obtain⟨z,hz⟩:∃z,ts[k]? =some z:=⟨_,List.getElem?_eq_getElem (by omega)⟩;exact(hr k z _ hz (List.getElem?_eq_getElem hk)).tO
 obtain⟨A1,c1,A2,c2,rfl⟩:=hrx.form;have hne:aN vs≠ []:=fun h0=>by have:=jD h4 hv 0 _ rfl;rw[h0] at this;cases this
 obtain⟨ad,rfl,hb,hc⟩:=hA hne;exact⟨ad,A1,A2,c1,c2,rfl,hb,hrx,fun j u hu=>by rw[gd];exact hc _ _ (jD h4 hv j u (by simpa[Value.cells,Fx] using hu))⟩
structure sM (w:World)(B:Nat)(t:Tm)(A A':Option Addr):Prop where
 kO:t.exprs.length≤1000
 nq:t.aF.length≤1000
 op:bm t.op
 name:∀d∈t.name,d<256
 Bp:t.name.length≤9223372036854775807
 expr:Db w B t.exprs A
 term:xD w B t.aF A'
theorem gJ.open {w:World}{B:Nat}{t:Tm}{v:Value}(h:gJ w B t v):∃A c A' c',v= .agg #[.int .i64 t.op, .string (strOf t.name), .slice A t.exprs.length c, .slice A' t.aF.length c']∧sM w B t A A':=by
 have h':dr w (· <B) t v:=h
 cases h' with
 | @mk op nm es ts A A' c c' vs us hl hl' kO nq hop hnm hnl hr hr' hA hA'=>
  exact⟨A,c,A',c',rfl,kO,nq,hop,hnm,hnl,Dq hl hr hA,DV hl' hr' hA'⟩
theorem sM.below {w w':World}{B:Nat}{t:Tm}{A A':Option Addr}(h:sM w B t A A')(hb:Below B w w'):sM w' B t A A':=⟨h.kO,h.nq,h.op,h.name,h.Bp,h.expr.below hb,h.term.below hb⟩
def FB (s:Int × Int):List Ex→Int × Int
 | []=>s
 |e::r=>FB (dR s (A8 e)) r
mutual
def yV:Tm→Int × Int
 | .mk _ _ es l=>CW (FB (1,1) es) l
def CW (s:Int × Int):List Tm→Int × Int
 | []=>s
 |t::r=>if 1000≤s.1 then(1000,1000) else CW (dR s (yV t)) r
end
theorem xw:∀(l:List Ex) (s:Int × Int),Sz s→Sz (FB s l)
 | [],_,h=>h
 |e::r,s,h=>xw r _ (eN h (tt e))
mutual
theorem CS:∀t,Sz (yV t)
 | .mk op nm es l=>by rw[yV];exact Cn _ (xw es _ ⟨by simp,by simp⟩) l
theorem Cn:∀(s:Int × Int),Sz s→∀l,Sz (CW s l)
 |s,h,[]=>by rw[CW];exact h
 |s,h,e::r=>by
  rw[CW];split
  ·exact⟨by simp,by simp⟩
  ·exact Cn _ (eN h (CS e)) r
end
theorem sQ {s t:Int × Int}{n d n' d':Nat}(h:x7 s n d)(k:x7 t n' d')(h2:d≤n)(h3:d'≤n'):x7 (dR s t) (n+n') (max d (1+d'))∨(1000≤n+n'∧x7 (dR s t) (n+n') (max d (1+d'))):=by
 obtain⟨a,b⟩:=h;obtain⟨a',b'⟩:=k
 left
 refine⟨by unfold dR;simp only;omega,fun h=> ?_⟩;unfold dR;simp only;rw[b (by omega),b' (by omega)];omega
theorem yA:∀(l:List Ex) (s:Int × Int) (n d:Nat),x7 s n d→1≤d→d≤n→x7 (FB s l) (n+aK l) (max d (1+aW l))∧max d (1+aW l)≤n+aK l
 | [],s,n,d,h,h1,h2=>by
  rw[aK,aW,show max d (1+0)=d by omega];exact⟨h,by omega⟩
 |e::r,s,n,d,h,h1,h2=>by
  rw[aK,aW];have he:=ye e;have hn:=Ex.bR e;have hp:=e.cR;have hw:=(sQ h he h2 hn).elim id (fun h=>h.2);have:=yA r _ _ _ hw (by omega) (by omega);rw[show n+(e.nodes+aK r)=n+e.nodes+aK r by omega,show max d (1+max e.depth (aW r))=max (max d (1+e.depth)) (1+aW r) by omega];exact this
mutual
theorem tj:∀t,x7 (yV t) t.nodes t.depth
 | .mk op nm es l=>by
  rw[yV,Tm.dQ,Tm.fI];have h0:x7 (1,1) 1 1:=⟨(by show(1:Int)=min ((1:Nat):Int) 1000;omega),fun _=>rfl⟩;obtain⟨h1,h2⟩:=yA es (1,1) 1 1 h0 (Nat.le_refl _) (Nat.le_refl _);have:=yt _ _ _ h1 (by omega) h2 l
  rwa [show max (max 1 (1+aW es)) (1+cD l)=1+max (aW es) (cD l) by omega] at this
theorem yt:∀(s:Int × Int) (n d:Nat),x7 s n d→1≤d→d≤n→∀l,x7 (CW s l) (n+cu l) (max d (1+cD l))
 |s,n,d,h,h1,h2,[]=>by
  rw[CW,cu,cD,show max d (1+0)=d by omega];exact h
 |s,n,d,h,h1,h2,e::r=>by
  rw[CW,cu,cD];have he:=tj e;have hn:=Tm.bR e;have hp:=e.cR;split
  ·obtain⟨a,b⟩:=h
   exact⟨by simp only;omega,fun h=>by omega⟩
  ·have hw:=(sQ h he h2 hn).elim id (fun h=>h.2)
   have:=yt _ _ _ hw (by omega) (by omega) r;rw[show n+(e.nodes+cu r)=n+e.nodes+cu r by omega,show max d (1+max e.depth (cD r))=max (max d (1+e.depth)) (1+cD r) by omega];exact this
end
theorem aG:bW Tryz.prog 71=some (some (.agg #[.int .i64 0, .string {data:= #[]}, .slice none 0 0, .slice none 0 0])):=by kernel_rfl
def zs (at_:Nat)(s:Int × Int):List Ex→Int × Int
 | []=>s
 |e::r=>zs at_ (dR s (vu e (at_+1))) r
mutual
def td:Tm→Nat→Int × Int
 | .mk _ _ es l,at_=>vv at_ (zs at_ (1,1) es) l
def vv (at_:Nat)(s:Int × Int):List Tm→Int × Int
 | []=>s
 |t::r=>if 1000≤at_∨1000≤s.1 then(1000,1000) else vv at_ (dR s (td t (at_+1))) r
end
theorem EN (t:Tm)(at_:Nat):td t at_=vv at_ (zs at_ (1,1) t.exprs) t.aF:=by cases t;rw[td];rfl
theorem uU (at_:Nat)(s:Int × Int)(e:Tm)(r:List Tm):vv at_ s (e::r)=if 1000≤at_∨1000≤s.1 then(1000,1000) else vv at_ (dR s (td e (at_+1))) r:=by rw[vv]
theorem yz (at_:Nat)(s:Int × Int):vv at_ s []=s:=by rw[vv]
theorem Bn (at_:Nat):∀(l:List Ex) (s:Int × Int),Sz s→Sz (zs at_ s l)
 | [],_,h=>h
 |e::r,s,h=>Bn at_ r _ (eN h (qa e _))
mutual
theorem CE:∀(t:Tm) (at_:Nat),Sz (td t at_)
 | .mk op nm es l,at_=>by rw[td];exact BX at_ _ (Bn at_ es _ ⟨by simp,by simp⟩) l
theorem BX:∀(at_:Nat) (s:Int × Int),Sz s→∀l,Sz (vv at_ s l)
 |at_,s,h,[]=>by rw[vv];exact h
 |at_,s,h,e::r=>by
  rw[vv];split
  ·exact⟨by simp,by simp⟩
  ·exact BX at_ _ (eN h (CE e _)) r
end
theorem zz {t:Int × Int}(h:Sz t):dR (1000,1000) t=(1000,1000):=by
 unfold Sz at h;unfold dR;simp only[Prod.mk.injEq];omega
theorem yH (at_:Nat):∀(l:List Ex),zs at_ (1000,1000) l=(1000,1000)
 | []=>rfl
 |e::r=>by rw[zs,zz (qa e _)];exact yH at_ r
theorem yJ (at_:Nat)(l:List Tm):vv at_ (1000,1000) l=(1000,1000):=by
 cases l with
 |nil=>rw[yz]
 |cons e r=>rw[uU,if_pos (.inr (by decide))]
theorem CT (at_:Nat):∀(l:List Ex) (s:Int × Int),Sz s→zs at_ s l=FB s l∨(zs at_ s l=(1000,1000)∧1001≤aW l+at_)
 | [],s,h=> .inl rfl
 |e::r,s,h=>by
  rw[zs,FB,aW];rcases BK e (at_+1) with h3|⟨h3,h4⟩
  ·rw[h3]
   rcases CT at_ r (dR s (A8 e)) (eN h (tt e)) with h5|⟨h5,h6⟩
   ·exact .inl h5
   ·exact .inr ⟨h5,by omega⟩
  ·rw[h3,od h,yH]
   exact .inr ⟨rfl,by omega⟩
mutual
theorem xR:∀(t:Tm) (at_:Nat),td t at_=yV t∨(td t at_=(1000,1000)∧1002≤t.depth+at_)
 | .mk op nm es l,at_=>by
  rw[td,yV,Tm.fI];rcases CT at_ es (1,1) ⟨by simp,by simp⟩ with h0|⟨h0,h1⟩
  ·rw[h0]
   rcases CI at_ _ (xw es (1,1) ⟨by simp,by simp⟩) l with h|⟨h1,h2⟩
   ·exact .inl h
   ·exact .inr ⟨h1,by omega⟩
  ·rw[h0,yJ]
   exact .inr ⟨rfl,by omega⟩
theorem CI:∀(at_:Nat) (s:Int × Int),Sz s→∀l,vv at_ s l=CW s l∨(vv at_ s l=(1000,1000)∧1001≤cD l+at_)
 |at_,s,h,[]=>by rw[vv,CW];exact .inl rfl
 |at_,s,h,e::r=>by
  rw[vv,CW,cD];have hd:0<e.depth:=by rw[e.lx];omega
  by_cases h1:1000≤s.1
  ·rw[if_pos (.inr h1),if_pos h1];exact .inl rfl
  ·by_cases h2:1000≤at_
   ·rw[if_pos (.inl h2)];exact .inr ⟨rfl,by omega⟩
   ·rw[if_neg (by omega),if_neg h1]
    rcases xR e (at_+1) with h3|⟨h3,h4⟩
    ·rw[h3]
     rcases CI at_ (dR s (yV e)) (eN h (CS e)) r with h5|⟨h5,h6⟩
     ·exact .inl h5
     ·exact .inr ⟨h5,by omega⟩
    ·rw[h3,od h,yJ]
     exact .inr ⟨rfl,by omega⟩
end
theorem Ds (t:Tm):x7 (td t 0) t.nodes t.depth:=by
 rcases xR t 0 with h|⟨h1,h2⟩
 ·rw[h];exact tj t
 ·rw[h1]
  have:=t.bR;exact⟨by simp only;omega,fun h=>by omega⟩
theorem Dk {t:Tm}{at_:Nat}(h:t.depth+at_≤900):td t at_=yV t:=by
 rcases xR t at_ with h1|⟨h1,h2⟩
 ·exact h1
 ·omega
theorem nL (N:Nat):∀(t:Tm) (at_:Nat) (B:Nat) (v:Value) (w:World),t.nodes≤N→at_≤1000→gJ w B t v→B≤w.heap.size→Calls Tryz.prog 140 #[v, .int .i64 (at_:Int)] w fun en w'=>en= .returned (.agg #[.int .i64 (td t at_).1, .int .i64 (td t at_).2])∧Grow w w':=by
 induction N with
 |zero=>intro t at_ B v w hN;have:=t.cR;omega
 |succ N ih=>
 intro t at_ B v w hN hdep hrep hB;obtain⟨A,c,A',c',rfl,hv⟩:=hrep.open;have ab:=Below.refl w.heap.size w;have hdp:0<t.depth:=by rw[t.lx];omega
 have kO:=hv.kO;have nq:=hv.nq;refine Zs 48 Tryz.func140 ?_;refine aj ?_;refine Seq.box rfl rfl rfl rfl rfl ?_;intro g2 w1 n2;have e2:=Nat.le_trans ab.size n2.ge;replace ab:=ab.step n2.below;have k2:=n2.an;refine Zl fp ?_;intro g4 w2 n4;have e4:=Nat.le_trans ab.size n4.ge;have l4:=Nat.lt_of_lt_of_le k2.lt n4.ge;replace ab:=ab.step n4.below;replace k2:=k2.step n4.below;have k4:=n4.an;refine aQ 0 1 2 4 (aB ?_);refine Zv (aa.build rfl rfl (fo _ _ _)) ?_;refine Zl fp ?_;intro g5 w3 n5;have e5:=Nat.le_trans ab.size n5.ge;have l5:=Nat.lt_of_lt_of_le k4.lt n5.ge;have l5_k2:=Nat.lt_of_lt_of_le k2.lt n5.ge;replace ab:=ab.step n5.below;replace k2:=k2.step n5.below;replace k4:=k4.step n5.below;have k5:=n5.an;refine Zo 2 k5 ?_;intro w4 pw4;replace ab:=ab.put k5 pw4 e5;replace k2:=k2.put pw4 (by omega);replace k4:=k4.put pw4 (by omega);replace k5:=pw4.an;refine aO 0 1 2 4 5 (aI (aj ?_));refine Zf 2 Tryz.underlying71 ?_;refine ZL Tryz.underlying68 k2 ?_;refine Zv (aa.len rfl rfl Tryz.underlying68) ?_;refine Zm ?_;refine cB 0 1 2 4 5 12 13 14 (Zt (Cd.block ?_))
 refine Cd.loop (σ:=Nat × (Int × Int)) (fun s=>[(1, .int .i64 (at_:Int)),(2, .pointer (some ⟨g2,0,none⟩)),(4, .pointer (some ⟨g4,0,none⟩)),(5, .pointer (some ⟨g5,0,none⟩)),(12, .slice A t.exprs.length c),(13, .int .i64 (t.exprs.length:Int)),(14, .int .i64 (s.1:Int))])
  (fun s wr=>s.1≤t.exprs.length∧Sz s.2∧zs at_ s.2 (t.exprs.drop s.1)=zs at_ (1,1) t.exprs∧Below w.heap.size w wr∧aH wr g2 71 #[.int .i64 t.op, .string (strOf t.name), .slice A t.exprs.length c, .slice A' t.aF.length c']∧aH wr g4 200 #[.int .i64 0, .int .i64 0]∧aH wr g5 200 #[.int .i64 s.2.1, .int .i64 s.2.2]) (fun s=>t.exprs.length-s.1) (0,(1,1)) ⟨Nat.zero_le _,⟨by simp,by simp⟩,rfl,ab,k2,k4,k5⟩ ⟨rfl,rfl,rfl,rfl,rfl,rfl,rfl,trivial⟩ ?_
 clear ab k2 k4 k5;rintro⟨k,s⟩ wr ⟨hk,hs,hsz,ab,k2,k4,k5⟩;simp only at hk hs hsz k5;show Cd _ _ _ _ [(1, .int .i64 (at_:Int)),(2, .pointer (some ⟨g2,0,none⟩)),(4, .pointer (some ⟨g4,0,none⟩)),(5, .pointer (some ⟨g5,0,none⟩)),(12, .slice A t.exprs.length c),(13, .int .i64 (t.exprs.length:Int)),(14, .int .i64 (k:Int))] _;refine aj ?_;refine eI ?_;refine cB 1 2 4 5 12 13 14 15 (aI ?_);refine Cd.ak rfl (fun hc=> ?_) (fun hc=> ?_)
 ·obtain⟨x,hx⟩:∃x,t.exprs[k]? =some x:=⟨_,List.getElem?_eq_getElem (show k<t.exprs.length by omega)⟩
  obtain⟨ad,Ax,cx,rfl,hbl,hrx,hc⟩:=hv.expr k x hx;have hxm:=List.mem_of_getElem? hx;have hxd:=Tm.wG hxm;have hc:=fun j u hj=>((ab.mono hB).cell (p:=(ad.add (k*4)).add j) (by rw[av,av];exact hbl)).trans (hc j u hj)
  have hdrop:t.exprs.drop k=x::t.exprs.drop (k+1):=by
   rw[List.drop_eq_getElem_cons (show k<t.exprs.length by omega)];congr 1;obtain⟨_,he⟩:=List.getElem?_eq_some_iff.1 hx;exact he
  rw[hdrop,zs] at hsz;have hrec:=fun W (hb:Below w.heap.size w W)=>tu x.nodes x (at_+1) B _ W (Nat.le_refl _) (by omega) (hrx.below (hb.mono hB)) (Nat.le_trans hB hb.size);have hxs:=qa x (at_+1);have hws:=eN hs hxs;refine Cd.skip (aI (Cd.block (aj ?_)));refine Zv (aa.bI rfl rfl rfl Tryz.underlying68 (s:=4) (by kernel_rfl) (j:=k) rfl (by omega)) ?_;refine Zv (aa.ep (ps:=[.int .i64 x.op, .int .i64 x.n, .string (strOf x.name), .slice Ax x.args.length cx]) rfl rfl Tryz.underlying105 rfl (m:=4) (by kernel_rfl) rfl hc) ?_;refine Zl az ?_;intro g7 w5 n7;have e7:=Nat.le_trans ab.size n7.ge;have l7:=Nat.lt_of_lt_of_le k5.lt n7.ge;have l7_k2:=Nat.lt_of_lt_of_le k2.lt n7.ge;have l7_k4:=Nat.lt_of_lt_of_le k4.lt n7.ge;replace ab:=ab.step n7.below;replace k2:=k2.step n7.below;replace k4:=k4.step n7.below;replace k5:=k5.step n7.below;have k7:=n7.an;refine Zo 4 k7 ?_;intro w6 pw6;replace ab:=ab.put k7 pw6 e7;replace k2:=k2.put pw6 (by omega);replace k4:=k4.put pw6 (by omega);replace k5:=k5.put pw6 (by omega);replace k7:=pw6.an;refine dY 1 2 4 5 7 12 13 14 15 (Zt ?_);refine ff 6 ?_;intro w7 hw7 zw7;replace ab:=ab.step hw7;replace k2:=k2.step hw7;replace k4:=k4.step hw7;replace k5:=k5.step hw7;replace k7:=k7.step hw7;have zbel:=ab.size;have zlt:=k7.lt;refine Zd (fun w hG=>aa.eK rfl rfl Tryz.underlying200 rfl (k5.step hG) (m:=2) (by kernel_rfl) rfl) ?_;refine Zd (fun w hG=>aa.eK rfl rfl Tryz.underlying105 rfl (k7.step hG) (m:=4) (by kernel_rfl) rfl) ?_;refine cf ?_;refine Zd (fun w hG=>aa.kA rfl rfl rfl (by omega) (by omega)) ?_;refine Dr.cJ rfl (fun w=>Ze Tryz.func179) rfl (fun w hG=>hrec w (ab.step hG)) ?_;refine Dr.cJ rfl (fun w=>Ze Tryz.func186) rfl (fun w hG=>qA s (vu x (at_+1)) w hs.1 hs.2 hxs.1 hxs.2) ?_;refine Dr.nil ?_;refine bb.done (F':=[(1,_),(2,_),(4,_),(5,_),(7,_),(12,_),(13,_),(14,_),(15,_),(23,_)]) rfl ⟨rfl,rfl,rfl,rfl,rfl,rfl,rfl,rfl,rfl,rfl,trivial⟩ ?_;intro w8 hw8 fw8;replace ab:=ab.step hw8;replace k2:=k2.step hw8;replace k4:=k4.step hw8;replace k5:=k5.step hw8;replace k7:=k7.step hw8;refine Zo 2 k5 ?_;intro w9 pw9;replace ab:=ab.put k5 pw9 e5;replace k2:=k2.put pw9 (by omega);replace k4:=k4.put pw9 (by omega);replace k5:=pw9.an;refine dY 1 2 4 5 7 12 13 14 15 (ae.ah (eh ?_));refine cG ?_;refine Zm ?_;refine dY 1 2 4 5 7 12 13 14 15 ?_;exact ae.round (k+1,dR s (vu x (at_+1))) ⟨rfl,rfl,rfl,rfl,rfl,rfl,rfl,trivial⟩ ⟨by simp only;omega,hws,hsz,ab,k2,k4,k5⟩ (by simp only;omega)
 ·obtain rfl:k=t.exprs.length:=by omega
  rw[List.drop_of_length_le (Nat.le_refl _),zs] at hsz;have hT:=EN t at_;rw[←hsz] at hT;refine Cd.exit (ae.aC (ae.aA (ae.ay (aI (aj ?_)))));refine Zf 3 Tryz.underlying71 ?_;refine ZL Tryz.underlying69 k2 ?_;refine Zv (aa.len rfl rfl Tryz.underlying69) ?_;refine Zm ?_;refine dv 1 2 4 5 12 13 14 15 26 27 28 (Zt (Cd.block ?_))
  refine Cd.loop (σ:=Nat × (Int × Int)) (fun s=>[(1, .int .i64 (at_:Int)),(4, .pointer (some ⟨g4,0,none⟩)),(5, .pointer (some ⟨g5,0,none⟩)),(26, .slice A' t.aF.length c'),(27, .int .i64 (t.aF.length:Int)),(28, .int .i64 (s.1:Int))])
   (fun s wr=>s.1≤t.aF.length∧Sz s.2∧vv at_ s.2 (t.aF.drop s.1)=td t at_∧Below w.heap.size w wr∧aH wr g4 200 #[.int .i64 0, .int .i64 0]∧aH wr g5 200 #[.int .i64 s.2.1, .int .i64 s.2.2]) (fun s=>t.aF.length-s.1) (0,s) ⟨Nat.zero_le _,hs,hT.symm,ab,k4,k5⟩ ⟨rfl,rfl,rfl,rfl,rfl,rfl,trivial⟩ ?_
  clear ab k2 k4 k5;clear hs hsz hT;rintro⟨k,s⟩ wr ⟨hk,hs,hsz,ab,k4,k5⟩;simp only at hk hs hsz k5;show Cd _ _ _ _ [(1, .int .i64 (at_:Int)),(4, .pointer (some ⟨g4,0,none⟩)),(5, .pointer (some ⟨g5,0,none⟩)),(26, .slice A' t.aF.length c'),(27, .int .i64 (t.aF.length:Int)),(28, .int .i64 (k:Int))] _;refine aj ?_;refine eI ?_;refine ba 1 4 5 26 27 28 29 (aI ?_);refine Cd.ak rfl (fun hc=> ?_) (fun hc=> ?_)
  ·obtain⟨x,hx⟩:∃x,t.aF[k]? =some x:=⟨_,List.getElem?_eq_getElem (show k<t.aF.length by omega)⟩
   obtain⟨ad,A1,A2,c1,c2,rfl,hbl,hrx,hc⟩:=hv.term k x hx;have hxm:=List.mem_of_getElem? hx;have hxd:=Tm.rm hxm;have hxn:=Tm.fU hxm;have hc:=fun j u hj=>((ab.mono hB).cell (p:=(ad.add (k*4)).add j) (by rw[av,av];exact hbl)).trans (hc j u hj)
   have hdrop:t.aF.drop k=x::t.aF.drop (k+1):=by
    rw[List.drop_eq_getElem_cons (show k<t.aF.length by omega)];congr 1;obtain⟨_,he⟩:=List.getElem?_eq_some_iff.1 hx;exact he
   rw[hdrop,uU] at hsz;refine Cd.skip (aI (Cd.block (aj ?_)));refine Zv (aa.bI rfl rfl rfl Tryz.underlying69 (s:=4) (by kernel_rfl) (j:=k) rfl (by omega)) ?_;refine Zv (aa.ep (ps:=[.int .i64 x.op, .string (strOf x.name), .slice A1 x.exprs.length c1, .slice A2 x.aF.length c2]) rfl rfl Tryz.underlying71 rfl (m:=4) (by kernel_rfl) rfl hc) ?_;refine Zl aG ?_;intro g9 w5 n9;have e9:=Nat.le_trans ab.size n9.ge;have l9:=Nat.lt_of_lt_of_le k5.lt n9.ge;have l9_k4:=Nat.lt_of_lt_of_le k4.lt n9.ge;replace ab:=ab.step n9.below;replace k4:=k4.step n9.below;replace k5:=k5.step n9.below;have k9:=n9.an;refine Zo 4 k9 ?_;intro w6 pw6;replace ab:=ab.put k9 pw6 e9;replace k4:=k4.put pw6 (by omega);replace k5:=k5.put pw6 (by omega);replace k9:=pw6.an;refine cB 1 4 5 9 26 27 28 29 (aI (aj ?_));refine Zm ?_;refine kZ ?_;refine Zm ?_;refine aw.start ?_;refine bw (fun hcx=>aa.ar 0 rfl rfl Tryz.underlying200 rfl (by kernel_rfl)) ?_;refine Zn (fun hcx=>aa.au rfl rfl Tryz.underlying3 rfl k5 rfl) ?_;refine Zn (fun hcx=>aa.geq rfl rfl rfl) ?_;refine fg ?_;refine dY 1 4 5 9 26 27 28 29 38 (Zt ?_);refine Cd.cond rfl (fun h=> ?_) (fun h=> ?_)
   ·simp at h
    rw[if_pos (by omega)] at hsz;refine aj ?_;refine Zv (aa.build rfl rfl (fo _ _ _)) ?_;refine Zo 2 k4 ?_;intro w7 pw7;replace ab:=ab.put k4 pw7 e4;replace k5:=k5.put pw7 (by omega);replace k9:=k9.put pw7 (by omega);replace k4:=pw7.an;refine dY 1 4 5 9 26 27 28 29 38 (Zt (Cd.ret (ae.af (ae.ag (ae.af (ae.aX (ae.ag (ae.af ?_))))))));refine gp 2 k4 Tryz.underlying200 ?_;rw[←hsz];exact⟨rfl,ab⟩
   ·simp at h
    rw[if_neg (by omega)] at hsz;have hrec:=fun W (hb:Below w.heap.size w W)=>ih x (at_+1) B _ W (by omega) (by omega) (hrx.below (hb.mono hB)) (Nat.le_trans hB hb.size);have hxs:=CE x (at_+1);have hws:=eN hs hxs;refine Cd.skip (Zt ?_);refine ff 6 ?_;intro w7 hw7 zw7;replace ab:=ab.step hw7;replace k4:=k4.step hw7;replace k5:=k5.step hw7;replace k9:=k9.step hw7;have zbel:=ab.size;have zlt:=k9.lt;refine Zd (fun w hG=>aa.eK rfl rfl Tryz.underlying200 rfl (k5.step hG) (m:=2) (by kernel_rfl) rfl) ?_;refine Zd (fun w hG=>aa.eK rfl rfl Tryz.underlying71 rfl (k9.step hG) (m:=4) (by kernel_rfl) rfl) ?_;refine cf ?_;refine Zd (fun w hG=>aa.kA rfl rfl rfl (by omega) (by omega)) ?_;refine Dr.cJ rfl (fun w=>Ze Tryz.func140) rfl (fun w hG=>hrec w (ab.step hG)) ?_;refine Dr.cJ rfl (fun w=>Ze Tryz.func186) rfl (fun w hG=>qA s (td x (at_+1)) w hs.1 hs.2 hxs.1 hxs.2) ?_;refine Dr.nil ?_;refine bb.done (F':=[(1,_),(4,_),(5,_),(9,_),(26,_),(27,_),(28,_),(29,_),(38,_),(45,_)]) rfl ⟨rfl,rfl,rfl,rfl,rfl,rfl,rfl,rfl,rfl,rfl,trivial⟩ ?_;intro w8 hw8 fw8;replace ab:=ab.step hw8;replace k4:=k4.step hw8;replace k5:=k5.step hw8;replace k9:=k9.step hw8;refine Zo 2 k5 ?_;intro w9 pw9;replace ab:=ab.put k5 pw9 e5;replace k4:=k4.put pw9 (by omega);replace k5:=pw9.an;refine dY 1 4 5 9 26 27 28 29 38 (ae.ah (eh ?_));refine cG ?_;refine Zm ?_;refine dY 1 4 5 9 26 27 28 29 38 ?_;exact ae.round (k+1,dR s (td x (at_+1))) ⟨rfl,rfl,rfl,rfl,rfl,rfl,trivial⟩ ⟨by simp only;omega,hws,hsz,ab,k4,k5⟩ (by simp only;omega)
  ·obtain rfl:k=t.aF.length:=by omega
   rw[List.drop_of_length_le (Nat.le_refl _),yz] at hsz;refine Cd.exit (ae.aC (ae.aA (ae.ay (aB ?_))));refine ZW 2 Tryz.underlying200 k5 ?_;refine Zo 2 k4 ?_;intro w5 pw5;replace ab:=ab.put k4 pw5 e4;replace k5:=k5.put pw5 (by omega);replace k4:=pw5.an;refine ba 1 4 5 26 27 28 29 (Zt (Cd.ret ?_));refine gp 2 k4 Tryz.underlying200 ?_;rw[←hsz];exact⟨rfl,ab⟩
theorem tv (N:Nat)(t:Tm)(at_:Nat)(B:Nat)(v:Value)(w:World)(hN:t.nodes≤N)(hd:t.depth+at_≤900)(hrep:gJ w B t v)(hB:B≤w.heap.size):Calls Tryz.prog 140 #[v, .int .i64 (at_:Int)] w fun en w'=>en= .returned (.agg #[.int .i64 (yV t).1, .int .i64 (yV t).2])∧Grow w w':=by
 rw[←Dk hd];exact nL N t at_ B v w hN (by omega) hrep hB
theorem wD (g:Nat)(cp:List Value)(p:Tm→Bool)(B:Nat)(A:Option Addr)(c:Nat)(l:List Tm)(w:World)(kO:l.length≤1000)(hv:xD w B l A)(hB:B≤w.heap.size)
  (eg:∀args w,(callFunc g args).run Tryz.prog w= .ok (.enter g args) w) (hp:∀x∈l,∀v W,Below w.heap.size w W→gJ W B x v→Calls Tryz.prog g ([]++[v]++cp).toArray W fun en w'=>en= .returned (.bool (p x))∧Grow W w'):
  Calls Tryz.prog 220 #[.slice A l.length c, .func (.func g) #[] cp.toArray] w fun en w'=>en= .returned (.int .i64 (uq p l))∧Grow w w':=by
 have ab:=Below.refl w.heap.size w;obtain⟨n,hn⟩:∃n,n=l.length:=⟨_,rfl⟩;rw[←hn] at kO⊢;refine Zs 19 Tryz.func220 ?_;refine aj ?_;refine Za ?_;refine bn 0 1 4 (aI (aj ?_));refine Zm ?_;refine Zv (aa.len rfl rfl Tryz.underlying69) ?_;refine Zm ?_;refine aO 0 1 4 7 8 (Zt (Cd.block ?_))
 refine Cd.loop (σ:=Nat) (fun k=>[(0, .slice A n c),(1, .func (.func g) #[] cp.toArray),(7, .int .i64 (n:Int)),(8, .int .i64 (k:Int))])
  (fun k wr=>k≤n∧(∀y∈l.take k,p y=false)∧Below w.heap.size w wr) (fun k=>n-k) 0 ⟨Nat.zero_le _,by simp,ab⟩ ⟨rfl,rfl,rfl,rfl,trivial⟩ ?_
 clear ab;rintro k wr ⟨hk,hno,ab⟩;refine aj ?_;refine eI ?_;refine aO 0 1 7 8 9 (aI ?_);refine Cd.ak rfl (fun hc=> ?_) (fun hc=> ?_)
 ·obtain⟨x,hx⟩:∃x,l[k]? =some x:=⟨_,List.getElem?_eq_getElem (show k<l.length by omega)⟩
  obtain⟨ad,A1,A2,c1,c2,rfl,hbl,hrx,hc⟩:=hv k x hx;have hc:=fun j u hj=>((ab.mono hB).cell (p:=(ad.add (k*4)).add j) (by rw[av,av];exact hbl)).trans (hc j u hj);have htk:l.take (k+1)=l.take k++[x]:=by rw[List.take_add_one,hx];rfl
  refine Cd.skip (aI (Cd.block (aj ?_)));refine Zm ?_;refine Za ?_;refine aY 0 1 5 7 8 9 (aB ?_);refine Zm ?_;refine Zm ?_;refine Zm ?_;refine Zv (aa.bI rfl rfl rfl Tryz.underlying69 (s:=4) (by kernel_rfl) (j:=k) rfl (by omega)) ?_;refine Zv (aa.ep (ps:=[.int .i64 x.op, .string (strOf x.name), .slice A1 x.exprs.length c1, .slice A2 x.aF.length c2]) rfl rfl Tryz.underlying71 rfl (m:=4) (by kernel_rfl) rfl hc) ?_;refine Seq.call (Enters.value (first:=[]) (cap:=cp) rfl rfl rfl eg) rfl rfl rfl (hp x (List.mem_of_getElem? hx) _ _ ab (hrx.below (ab.mono hB))) ?_;rintro en w5 ⟨rfl,hb5⟩;refine⟨_,rfl,?_⟩;replace ab:=ab.step hb5;refine ba 0 1 5 7 8 9 16 (Zt ?_);refine Cd.cond rfl (fun h=> ?_) (fun h=> ?_)
  ·skip
   refine aj ?_;refine Zm ?_;refine Za ?_;refine cB 0 1 4 5 7 8 9 16 (Zt (Cd.ret (ae.ag (ae.af (ae.aX (ae.ag (ae.af ?_)))))));refine aZ ?_;exact⟨bt (int_eq (sO hx h hno).symm),ab⟩
  ·skip
   refine Cd.skip (ae.ah (eh ?_));refine cG ?_;refine Zm ?_;refine ba 0 1 5 7 8 9 16 ?_;refine ae.round (k+1) ⟨rfl,rfl,rfl,rfl,trivial⟩ ⟨by omega,fun y hy=> ?_,ab⟩ (by omega);rw[htk] at hy;rcases List.mem_append.1 hy with hy|hy
   ·exact hno y hy
   ·simp at hy;subst hy;exact h
 ·obtain rfl:k=n:=by omega
  rw[List.take_of_length_le (by omega)] at hno;refine Cd.exit (ae.aC (ae.aA (ae.ay (aB ?_))));refine Za ?_;refine aY 0 1 4 7 8 9 (Zt (Cd.ret ?_));refine aZ ?_;exact⟨bt (int_eq (se hno).symm),ab⟩
theorem rG (g:Nat)(cp:List Value)(p:Tm→Bool)(B:Nat)(A:Option Addr)(c:Nat)(l:List Tm)(w:World)(kO:l.length≤1000)(hv:xD w B l A)(hB:B≤w.heap.size)
  (eg:∀args w,(callFunc g args).run Tryz.prog w= .ok (.enter g args) w) (hp:∀x∈l,∀v W,Below w.heap.size w W→gJ W B x v→Calls Tryz.prog g ([]++[v]++cp).toArray W fun en w'=>en= .returned (.bool (p x))∧Grow W w'):
  Calls Tryz.prog 190 #[.slice A l.length c, .func (.func g) #[] cp.toArray] w fun en w'=>en= .returned (.bool (l.any p))∧Grow w w':=by
 have ab:=Below.refl w.heap.size w;have hc:=fun W (hb:Below w.heap.size w W)=>wD g cp p B A c l W kO (hv.below (hb.mono hB)) (Nat.le_trans hB hb.size) eg (fun x hx v W2 hb2 hr=>hp x hx v W2 (hb.trans (hb2.mono hb.size)) hr);have hany:=uy p l;obtain⟨n,hn⟩:∃n,n=l.length:=⟨_,rfl⟩;rw[←hn] at hc⊢;refine Zs 9 Tryz.func190 ?_;refine aj ?_;refine Za ?_;refine bn 0 1 4 (aB ?_);refine Zm ?_;refine Zm ?_;refine Zc (Ze Tryz.func220) (hc _ ab) ?_;rintro en w5 ⟨rfl,hb5⟩;refine⟨_,rfl,?_⟩;replace ab:=ab.step hb5;refine kZ ?_;refine Za ?_;refine bn 0 1 4 (Zt (Cd.ret ?_));refine aZ ?_;exact⟨bt (aJ hany),ab⟩
def Df (op:Int):Int × Int:=if op=1∨op=2 then(0,0) else if op=3 then(0,1) else if op=4∨op=5 then(0,2) else if op=6∨op=7∨op=8∨op=9 then(1,1) else(-1,-1)
theorem ux (op:Int)(w:World):Calls Tryz.prog 187 #[.int .i64 op] w fun e w'=>e= .returned (.tuple #[.int .i64 (Df op).1, .int .i64 (Df op).2])∧Grow w w':=by
 have ab:=Below.refl w.heap.size w;refine Zs 18 Tryz.func187 ?_
 by_cases h1:op=1
 ·subst h1
  refine aj ?_;refine Za ?_;refine Za ?_;refine bn 0 2 3 (aI (aj ?_));refine Zm ?_;refine aQ 0 2 3 4 (Zt (Cd.block (Cd.seq (aj ?_))));refine bC ?_;refine Za ?_;refine aO 0 2 3 4 5 (Zt ?_);refine Cd.aU rfl rfl ?_;refine Cd.skip (Zt ?_);refine Cd.aU rfl rfl ?_;refine aj ?_;refine Za ?_;refine Za ?_;refine aO 0 2 3 4 5 (Zt (Cd.ret (ae.ag (ae.af ?_))));refine dH ?_;exact⟨rfl,ab⟩
 ·skip
  by_cases h2:op=2
  ·subst h2
   refine aj ?_;refine Za ?_;refine Za ?_;refine bn 0 2 3 (aI (aj ?_));refine Zm ?_;refine aQ 0 2 3 4 (Zt (Cd.block (Cd.seq (aj ?_))));refine bC ?_;refine Za ?_;refine aO 0 2 3 4 5 (Zt ?_);refine Cd.aM rfl rfl ?_;refine Zr ?_;refine bC ?_;refine Za ?_;refine aO 0 2 3 4 5 (Zt ?_);refine Cd.aU rfl rfl ?_;refine aj ?_;refine Za ?_;refine Za ?_;refine aO 0 2 3 4 5 (Zt (Cd.ret (ae.ag (ae.af ?_))));refine dH ?_;exact⟨rfl,ab⟩
  ·skip
   by_cases h3:op=3
   ·subst h3
    refine aj ?_;refine Za ?_;refine Za ?_;refine bn 0 2 3 (aI (aj ?_));refine Zm ?_;refine aQ 0 2 3 4 (Zt (Cd.block (Cd.seq (aj ?_))));refine bC ?_;refine Za ?_;refine aO 0 2 3 4 5 (Zt ?_);refine Cd.aM rfl rfl ?_;refine Zr ?_;refine bC ?_;refine Za ?_;refine aO 0 2 3 4 5 (Zt ?_);refine Cd.aM rfl rfl ?_;refine aj ?_;refine bC ?_;refine Za ?_;refine aY 0 2 3 4 5 8 (Zt ?_);refine Cd.aU rfl rfl ?_;refine aj ?_;refine Za ?_;refine Za ?_;refine aY 0 2 3 4 5 8 (Zt (Cd.ret (ae.ag (ae.af ?_))));refine dH ?_;exact⟨rfl,ab⟩
   ·skip
    by_cases h4:op=4
    ·subst h4
     refine aj ?_;refine Za ?_;refine Za ?_;refine bn 0 2 3 (aI (aj ?_));refine Zm ?_;refine aQ 0 2 3 4 (Zt (Cd.block (Cd.seq (aj ?_))));refine bC ?_;refine Za ?_;refine aO 0 2 3 4 5 (Zt ?_);refine Cd.aM rfl rfl ?_;refine Zr ?_;refine bC ?_;refine Za ?_;refine aO 0 2 3 4 5 (Zt ?_);refine Cd.aM rfl rfl ?_;refine aj ?_;refine bC ?_;refine Za ?_;refine aY 0 2 3 4 5 8 (Zt ?_);refine Cd.aM rfl rfl ?_;refine Cd.seq (aj ?_);refine bC ?_;refine Za ?_;refine ba 0 2 3 4 5 8 10 (Zt ?_);refine Cd.aU rfl rfl ?_;refine Cd.skip (Zt ?_);refine Cd.aU rfl rfl ?_;refine aj ?_;refine Za ?_;refine Za ?_;refine ba 0 2 3 4 5 8 10 (Zt (Cd.ret (ae.ag (ae.af ?_))));refine dH ?_;exact⟨rfl,ab⟩
    ·skip
     by_cases h5:op=5
     ·subst h5
      refine aj ?_;refine Za ?_;refine Za ?_;refine bn 0 2 3 (aI (aj ?_));refine Zm ?_;refine aQ 0 2 3 4 (Zt (Cd.block (Cd.seq (aj ?_))));refine bC ?_;refine Za ?_;refine aO 0 2 3 4 5 (Zt ?_);refine Cd.aM rfl rfl ?_;refine Zr ?_;refine bC ?_;refine Za ?_;refine aO 0 2 3 4 5 (Zt ?_);refine Cd.aM rfl rfl ?_;refine aj ?_;refine bC ?_;refine Za ?_;refine aY 0 2 3 4 5 8 (Zt ?_);refine Cd.aM rfl rfl ?_;refine Cd.seq (aj ?_);refine bC ?_;refine Za ?_;refine ba 0 2 3 4 5 8 10 (Zt ?_);refine Cd.aM rfl rfl ?_;refine Zr ?_;refine bC ?_;refine Za ?_;refine ba 0 2 3 4 5 8 10 (Zt ?_);refine Cd.aU rfl rfl ?_;refine aj ?_;refine Za ?_;refine Za ?_;refine ba 0 2 3 4 5 8 10 (Zt (Cd.ret (ae.ag (ae.af ?_))));refine dH ?_;exact⟨rfl,ab⟩
     ·skip
      by_cases h6:op=6
      ·subst h6
       refine aj ?_;refine Za ?_;refine Za ?_;refine bn 0 2 3 (aI (aj ?_));refine Zm ?_;refine aQ 0 2 3 4 (Zt (Cd.block (Cd.seq (aj ?_))));refine bC ?_;refine Za ?_;refine aO 0 2 3 4 5 (Zt ?_);refine Cd.aM rfl rfl ?_;refine Zr ?_;refine bC ?_;refine Za ?_;refine aO 0 2 3 4 5 (Zt ?_);refine Cd.aM rfl rfl ?_;refine aj ?_;refine bC ?_;refine Za ?_;refine aY 0 2 3 4 5 8 (Zt ?_);refine Cd.aM rfl rfl ?_;refine Cd.seq (aj ?_);refine bC ?_;refine Za ?_;refine ba 0 2 3 4 5 8 10 (Zt ?_);refine Cd.aM rfl rfl ?_;refine Zr ?_;refine bC ?_;refine Za ?_;refine ba 0 2 3 4 5 8 10 (Zt ?_);refine Cd.aM rfl rfl ?_;refine Cd.seq (aj ?_);refine bC ?_;refine Za ?_;refine cB 0 2 3 4 5 8 10 13 (Zt ?_);refine Cd.aU rfl rfl ?_;refine Cd.skip (Zt ?_);refine Cd.aU rfl rfl ?_;refine aj ?_;refine Za ?_;refine Za ?_;refine cB 0 2 3 4 5 8 10 13 (Zt (Cd.ret (ae.ag (ae.af ?_))));refine dH ?_;exact⟨rfl,ab⟩
      ·skip
       by_cases h7:op=7
       ·subst h7
        refine aj ?_;refine Za ?_;refine Za ?_;refine bn 0 2 3 (aI (aj ?_));refine Zm ?_;refine aQ 0 2 3 4 (Zt (Cd.block (Cd.seq (aj ?_))));refine bC ?_;refine Za ?_;refine aO 0 2 3 4 5 (Zt ?_);refine Cd.aM rfl rfl ?_;refine Zr ?_;refine bC ?_;refine Za ?_;refine aO 0 2 3 4 5 (Zt ?_);refine Cd.aM rfl rfl ?_;refine aj ?_;refine bC ?_;refine Za ?_;refine aY 0 2 3 4 5 8 (Zt ?_);refine Cd.aM rfl rfl ?_;refine Cd.seq (aj ?_);refine bC ?_;refine Za ?_;refine ba 0 2 3 4 5 8 10 (Zt ?_);refine Cd.aM rfl rfl ?_;refine Zr ?_;refine bC ?_;refine Za ?_;refine ba 0 2 3 4 5 8 10 (Zt ?_);refine Cd.aM rfl rfl ?_;refine Cd.seq (aj ?_);refine bC ?_;refine Za ?_;refine cB 0 2 3 4 5 8 10 13 (Zt ?_);refine Cd.aM rfl rfl ?_;refine aj ?_;refine bC ?_;refine Za ?_;refine cB 0 2 3 4 5 8 10 13 (Zt ?_);refine Cd.aU rfl rfl ?_;refine Cd.skip (Zt ?_);refine Cd.aU rfl rfl ?_;refine aj ?_;refine Za ?_;refine Za ?_;refine cB 0 2 3 4 5 8 10 13 (Zt (Cd.ret (ae.ag (ae.af ?_))));refine dH ?_;exact⟨rfl,ab⟩
       ·skip
        by_cases h8:op=8
        ·subst h8
         refine aj ?_;refine Za ?_;refine Za ?_;refine bn 0 2 3 (aI (aj ?_));refine Zm ?_;refine aQ 0 2 3 4 (Zt (Cd.block (Cd.seq (aj ?_))));refine bC ?_;refine Za ?_;refine aO 0 2 3 4 5 (Zt ?_);refine Cd.aM rfl rfl ?_;refine Zr ?_;refine bC ?_;refine Za ?_;refine aO 0 2 3 4 5 (Zt ?_);refine Cd.aM rfl rfl ?_;refine aj ?_;refine bC ?_;refine Za ?_;refine aY 0 2 3 4 5 8 (Zt ?_);refine Cd.aM rfl rfl ?_;refine Cd.seq (aj ?_);refine bC ?_;refine Za ?_;refine ba 0 2 3 4 5 8 10 (Zt ?_);refine Cd.aM rfl rfl ?_;refine Zr ?_;refine bC ?_;refine Za ?_;refine ba 0 2 3 4 5 8 10 (Zt ?_);refine Cd.aM rfl rfl ?_;refine Cd.seq (aj ?_);refine bC ?_;refine Za ?_;refine cB 0 2 3 4 5 8 10 13 (Zt ?_);refine Cd.aM rfl rfl ?_;refine aj ?_;refine bC ?_;refine Za ?_;refine cB 0 2 3 4 5 8 10 13 (Zt ?_);refine Cd.aM rfl rfl ?_;refine aj ?_;refine bC ?_;refine Za ?_;refine cB 0 2 3 4 5 8 10 13 (Zt ?_);refine Cd.aU rfl rfl ?_;refine Cd.skip (Zt ?_);refine Cd.aU rfl rfl ?_;refine aj ?_;refine Za ?_;refine Za ?_;refine cB 0 2 3 4 5 8 10 13 (Zt (Cd.ret (ae.ag (ae.af ?_))));refine dH ?_;exact⟨rfl,ab⟩
        ·skip
         by_cases h9:op=9
         ·subst h9
          refine aj ?_;refine Za ?_;refine Za ?_;refine bn 0 2 3 (aI (aj ?_));refine Zm ?_;refine aQ 0 2 3 4 (Zt (Cd.block (Cd.seq (aj ?_))));refine bC ?_;refine Za ?_;refine aO 0 2 3 4 5 (Zt ?_);refine Cd.aM rfl rfl ?_;refine Zr ?_;refine bC ?_;refine Za ?_;refine aO 0 2 3 4 5 (Zt ?_);refine Cd.aM rfl rfl ?_;refine aj ?_;refine bC ?_;refine Za ?_;refine aY 0 2 3 4 5 8 (Zt ?_);refine Cd.aM rfl rfl ?_;refine Cd.seq (aj ?_);refine bC ?_;refine Za ?_;refine ba 0 2 3 4 5 8 10 (Zt ?_);refine Cd.aM rfl rfl ?_;refine Zr ?_;refine bC ?_;refine Za ?_;refine ba 0 2 3 4 5 8 10 (Zt ?_);refine Cd.aM rfl rfl ?_;refine Cd.seq (aj ?_);refine bC ?_;refine Za ?_;refine cB 0 2 3 4 5 8 10 13 (Zt ?_);refine Cd.aM rfl rfl ?_;refine aj ?_;refine bC ?_;refine Za ?_;refine cB 0 2 3 4 5 8 10 13 (Zt ?_);refine Cd.aM rfl rfl ?_;refine aj ?_;refine bC ?_;refine Za ?_;refine cB 0 2 3 4 5 8 10 13 (Zt ?_);refine Cd.aM rfl rfl ?_;refine Zr ?_;refine bC ?_;refine Za ?_;refine cB 0 2 3 4 5 8 10 13 (Zt ?_);refine Cd.aU rfl rfl ?_;refine aj ?_;refine Za ?_;refine Za ?_;refine cB 0 2 3 4 5 8 10 13 (Zt (Cd.ret (ae.ag (ae.af ?_))));refine dH ?_;exact⟨rfl,ab⟩
         ·skip
          refine aj ?_;refine Za ?_;refine Za ?_;refine bn 0 2 3 (aI (aj ?_));refine Zm ?_;refine aQ 0 2 3 4 (Zt (Cd.block (Cd.seq (aj ?_))));refine bC ?_;refine Za ?_;refine aO 0 2 3 4 5 (Zt ?_);refine Cd.aM rfl (decide_eq_false h1) ?_;refine Zr ?_;refine bC ?_;refine Za ?_;refine aO 0 2 3 4 5 (Zt ?_);refine Cd.aM rfl (decide_eq_false h2) ?_;refine aj ?_;refine bC ?_;refine Za ?_;refine aY 0 2 3 4 5 8 (Zt ?_);refine Cd.aM rfl (decide_eq_false h3) ?_;refine Cd.seq (aj ?_);refine bC ?_;refine Za ?_;refine ba 0 2 3 4 5 8 10 (Zt ?_);refine Cd.aM rfl (decide_eq_false h4) ?_;refine Zr ?_;refine bC ?_;refine Za ?_;refine ba 0 2 3 4 5 8 10 (Zt ?_);refine Cd.aM rfl (decide_eq_false h5) ?_;refine Cd.seq (aj ?_);refine bC ?_;refine Za ?_;refine cB 0 2 3 4 5 8 10 13 (Zt ?_);refine Cd.aM rfl (decide_eq_false h6) ?_;refine aj ?_;refine bC ?_;refine Za ?_;refine cB 0 2 3 4 5 8 10 13 (Zt ?_);refine Cd.aM rfl (decide_eq_false h7) ?_;refine aj ?_;refine bC ?_;refine Za ?_;refine cB 0 2 3 4 5 8 10 13 (Zt ?_);refine Cd.aM rfl (decide_eq_false h8) ?_;refine Zr ?_;refine bC ?_;refine Za ?_;refine cB 0 2 3 4 5 8 10 13 (Zt ?_);refine Cd.aM rfl (decide_eq_false h9) ?_;refine Cd.skip (ae.ah (aB ?_));refine Za ?_;refine Za ?_;refine cB 0 2 3 4 5 8 10 13 (Zt (Cd.ret ?_));refine dH ?_;have hb:Df op=(-1,-1):=by unfold Df;rw[if_neg (by omega),if_neg h3,if_neg (by omega),if_neg (by omega)]
          rw[hb];exact⟨rfl,ab⟩
def fV (op:Int)(nm:List Nat)(n m:Nat):Bool:=decide (Df op=((n:Int),(m:Int)))&& !(decide (op=2)&& !ir nm)&& !(decide (op≠2)&&decide (nm≠ []))
mutual
def dy:Tm→Bool
 | .mk op nm es l=>fV op nm es.length l.length&&es.all bE&&nI l
def nI:List Tm→Bool
 | []=>true
 |e::r=>dy e&&nI r
end
theorem pA:∀l,nI l=l.all dy
 | []=>by rw[nI];rfl
 |e::r=>by rw[nI,pA r];rfl
theorem oS (t:Tm):dy t=(fV t.op t.name t.exprs.length t.aF.length&&t.exprs.all bE&&t.aF.all dy):=by
 cases t;rw[dy,pA];rfl
theorem xo:∀args w,(callFunc 189 args).run Tryz.prog w= .ok (.enter 189 args) w:=fun args w=>bG Tryz.func189 (by kernel_rfl) rfl args w
theorem xS:∀args w,(callFunc 191 args).run Tryz.prog w= .ok (.enter 191 args) w:=fun args w=>bG Tryz.func191 (by kernel_rfl) rfl args w
theorem sA (N:Nat):∀(t:Tm) (B:Nat) (v:Value) (w:World),t.nodes≤N→gJ w B t v→B≤w.heap.size→Calls Tryz.prog 142 #[v] w fun en w'=>en= .returned (.bool (dy t))∧Grow w w':=by
 induction N with
 |zero=>intro t B v w hN;have:=t.cR;omega
 |succ N ih=>
 intro t B v w hN hrep hB;obtain⟨A,c,A',c',rfl,hv⟩:=hrep.open;have ab:=Below.refl w.heap.size w;have hnm:=hv.name;have hnl:=hv.Bp;have kO:=hv.kO;have nq:=hv.nq;have hbt:=oS t;have hdum:wK w B (.mk 1 0 [] t.exprs) A c:=⟨hv.kO,by show bm 1;unfold bm;omega,by show bm 0;unfold bm;omega,fun d hd=>(by cases hd),by show(0:Nat)≤_;omega,fun i x hx=>hv.expr i x hx⟩
 have hcl:=fun W (hb:Below w.heap.size w W)=>mM 189 [] (fun x=> !bE x) B A c (.mk 1 0 [] t.exprs) W (hdum.below (hb.mono hB)) (Nat.le_trans hB hb.size) xo (fun x hx v W2 hb2 hr=>by
  have hs2:=Nat.le_trans hB (Nat.le_trans hb.size hb2.size);have hrec:=fun W3 (hb3:Below W2.heap.size W2 W3)=>rQ x.nodes x B v W3 (Nat.le_refl _) (hr.below (hb3.mono hs2)) (Nat.le_trans hs2 hb3.size);obtain⟨Ax,cx,rfl,-⟩:=hr.open;have ab:=Below.refl W2.heap.size W2
  generalize bE x=q at *
  refine Zs 6 Tryz.func189 ?_;refine aj ?_;refine Seq.box rfl rfl rfl rfl rfl ?_;intro g1 w1 n1;have e1:=Nat.le_trans ab.size n1.ge;replace ab:=ab.step n1.below;have k1:=n1.an;refine Za ?_;refine bn 0 1 2 (aB ?_);refine ZW 4 Tryz.underlying105 k1 ?_;refine Zc (Ze Tryz.func180) (hrec _ ab) ?_;rintro en w5 ⟨rfl,hb5⟩;refine⟨_,rfl,?_⟩;replace ab:=ab.step hb5;replace k1:=k1.step hb5;refine mD ?_;refine Za ?_;refine bn 0 1 2 (Zt (Cd.ret ?_));refine aZ ?_;exact⟨rfl,ab⟩)
 have hcl2:=fun W (hb:Below w.heap.size w W)=>rG 191 [] (fun x=> !dy x) B A' c' t.aF W hv.nq (hv.term.below (hb.mono hB)) (Nat.le_trans hB hb.size) xS (fun x hx v W2 hb2 hr=>by
  have hxn:=Tm.fU hx;have hs2:=Nat.le_trans hB (Nat.le_trans hb.size hb2.size);have hrec:=fun W3 (hb3:Below W2.heap.size W2 W3)=>ih x B v W3 (by omega) (hr.below (hb3.mono hs2)) (Nat.le_trans hs2 hb3.size);obtain⟨A1,c1,A2,c2,rfl,-⟩:=hr.open;have ab:=Below.refl W2.heap.size W2
  generalize dy x=q at *
  refine Zs 6 Tryz.func191 ?_;refine aj ?_;refine Seq.box rfl rfl rfl rfl rfl ?_;intro g1 w1 n1;have e1:=Nat.le_trans ab.size n1.ge;replace ab:=ab.step n1.below;have k1:=n1.an;refine Za ?_;refine bn 0 1 2 (aB ?_);refine ZW 4 Tryz.underlying71 k1 ?_;refine Zc (Ze Tryz.func142) (hrec _ ab) ?_;rintro en w5 ⟨rfl,hb5⟩;refine⟨_,rfl,?_⟩;replace ab:=ab.step hb5;replace k1:=k1.step hb5;refine mD ?_;refine Za ?_;refine bn 0 1 2 (Zt (Cd.ret ?_));refine aZ ?_;exact⟨rfl,ab⟩)
 replace hcl:∀W,Below w.heap.size w W→Calls Tryz.prog 107 #[.slice A t.exprs.length c, .func (.func 189) #[] #[]] W fun en w'=>en= .returned (.bool (t.exprs.any fun x=> !bE x))∧Grow W w':=hcl;refine Zs 54 Tryz.func142 ?_;refine aj ?_;refine Seq.box rfl rfl rfl rfl rfl ?_;intro g1 w1 n1;have e1:=Nat.le_trans ab.size n1.ge;replace ab:=ab.step n1.below;have k1:=n1.an;refine Za ?_;refine bn 0 1 2 (aB ?_);refine Zf 0 Tryz.underlying71 ?_;refine ZL Tryz.underlying3 k1 ?_;refine Zc (Ze Tryz.func187) (ux t.op _) ?_;rintro en w5 ⟨rfl,hb5⟩;refine⟨_,rfl,?_⟩;replace ab:=ab.step hb5;replace k1:=k1.step hb5;refine Zm ?_;refine Zx ?_;refine Zx ?_;refine Za ?_;refine Za ?_;refine aO 0 1 2 3 4 (aI (aj ?_));refine Zm ?_;refine Zf 2 Tryz.underlying71 ?_;refine ZL Tryz.underlying68 k1 ?_;refine Zv (aa.len rfl rfl Tryz.underlying68) ?_;refine sJ ?_;refine Zm ?_;refine aw.start ?_;refine bw (fun hcx=>aa.move rfl rfl) ?_;refine Zn (fun hcx=>aa.ar 3 rfl rfl Tryz.underlying71 rfl (by kernel_rfl)) ?_;refine Zn (fun hcx=>aa.au rfl rfl Tryz.underlying69 rfl k1 rfl) ?_;refine Zn (fun hcx=>aa.len rfl rfl Tryz.underlying69) ?_;refine Zn (fun hcx=>aa.cW rfl rfl rfl) ?_;refine fg ?_;refine Zm ?_;refine aw.start ?_;refine bw (fun hcx=>aa.ar 0 rfl rfl Tryz.underlying71 rfl (by kernel_rfl)) ?_;refine Zn (fun hcx=>aa.au rfl rfl Tryz.underlying3 rfl k1 rfl) ?_;refine Zn (fun hcx=>aa.fh rfl rfl rfl) ?_;refine gq ?_;refine bw (fun hcx=>aa.ar 1 rfl rfl Tryz.underlying71 rfl (by kernel_rfl)) ?_;refine Zn (fun hcx=>aa.au rfl rfl Tryz.underlying9 rfl k1 rfl) ?_;refine aw.bU rfl rfl rfl rfl rfl rfl rfl (fun hcx=>Ze Tryz.func188) (fun hcx=>vw t.name _ hnm hnl) ?_;intro w2 hw2;replace ab:=ab.step hw2;replace k1:=k1.step hw2;refine Zn (fun hcx=>aa.not rfl rfl) ?_;refine aw.mF rfl rfl rfl rfl rfl rfl rfl rfl rfl rfl rfl ?_;refine fg ?_;refine Zm ?_;refine aw.start ?_;refine bw (fun hcx=>aa.ar 0 rfl rfl Tryz.underlying71 rfl (by kernel_rfl)) ?_;refine Zn (fun hcx=>aa.au rfl rfl Tryz.underlying3 rfl k1 rfl) ?_;refine Zn (fun hcx=>aa.cW rfl rfl rfl) ?_;refine gq ?_;refine bw (fun hcx=>aa.ar 1 rfl rfl Tryz.underlying71 rfl (by kernel_rfl)) ?_;refine Zn (fun hcx=>aa.au rfl rfl Tryz.underlying9 rfl k1 rfl) ?_;refine Zn (fun hcx=>aa.fT (a:=t.name) (b:=[]) rfl rfl rfl hnm (by decide)) ?_;refine aw.mF rfl rfl rfl rfl rfl rfl rfl rfl rfl rfl rfl ?_;refine fg ?_;refine aY 0 1 2 3 4 43 (Zt ?_);refine Cd.cond rfl (fun h=> ?_) (fun h=> ?_)
 ·have hhead:fV t.op t.name t.exprs.length t.aF.length=false:=by
   cases hq:fV t.op t.name t.exprs.length t.aF.length with
   |false=>rfl
   |true=>
    exfalso;unfold fV at hq;simp at hq h;obtain⟨⟨a,b⟩,c⟩:=hq;rw[a] at h;simp at h;rcases h with ⟨x,y⟩|⟨x,y⟩
    ·rcases b with b|b
     ·exact b x
     ·rw[b] at y;cases y
    ·rcases c with c|c
     ·exact x c
     ·exact y c
  rw[hhead] at hbt;refine aj ?_;refine Za ?_;refine aY 0 1 2 3 4 43 (Zt (Cd.ret (ae.af ?_)));refine aZ ?_;rw[hbt];exact⟨rfl,ab⟩
 ·have hhead:fV t.op t.name t.exprs.length t.aF.length=true:=by
   unfold fV;simp at h⊢;obtain⟨⟨⟨a1,a2⟩,b⟩,c⟩:=h;refine⟨⟨Prod.ext a1 a2,?_⟩,?_⟩
   ·by_cases h2:t.op=2
    ·exact .inr (b h2)
    ·exact .inl h2
   ·by_cases h2:t.op=2
    ·exact .inl h2
    ·exact .inr (c h2)
  rw[hhead] at hbt;refine Cd.skip (aB ?_);refine Zf 2 Tryz.underlying71 ?_;refine ZL Tryz.underlying68 k1 ?_;refine Zc (Ze Tryz.func107) (hcl _ ab) ?_;rintro en w6 ⟨rfl,hb6⟩;refine⟨_,rfl,?_⟩;replace ab:=ab.step hb6;replace k1:=k1.step hb6;refine mD ?_;refine Zm ?_;refine aw.start ?_;refine bw (fun hcx=>aa.ar 3 rfl rfl Tryz.underlying71 rfl (by kernel_rfl)) ?_;refine Zn (fun hcx=>aa.au rfl rfl Tryz.underlying69 rfl k1 rfl) ?_;refine aw.bU rfl rfl rfl rfl rfl rfl rfl (fun hcx=>Ze Tryz.func190) (fun hcx=>hcl2 _ ab) ?_;intro w3 hw3;replace ab:=ab.step hw3;replace k1:=k1.step hw3;refine Zn (fun hcx=>aa.not rfl rfl) ?_;refine fQ ?_;refine Za ?_;refine aY 0 1 2 3 4 43 (Zt (Cd.ret ?_));refine aZ ?_;refine⟨bt (aJ ?_),ab⟩;rw[hbt,List.all_eq_not_any_not,List.all_eq_not_any_not,Bool.true_and]
def dK (t:Tm):Bool:=decide (t.nodes≤200)&&decide (t.depth≤16)&&dy t
theorem AD (t:Tm)(B:Nat)(v:Value)(w:World)(hd:t.depth≤900)(hrep:gJ w B t v)(hB:B≤w.heap.size):Calls Tryz.prog 99 #[v] w fun en w'=>en= .returned (.bool (dK t))∧Grow w w':=by
 have hs:=fun W (hb:Below w.heap.size w W)=>tv t.nodes t 0 B v W (Nat.le_refl _) (by omega) (hrep.below (hb.mono hB)) (Nat.le_trans hB hb.size);have hbt:=fun W (hb:Below w.heap.size w W)=>sA t.nodes t B v W (Nat.le_refl _) (hrep.below (hb.mono hB)) (Nat.le_trans hB hb.size);have hc:=tj t;have hdn:=t.bR
 have hres:(decide (t.nodes≤200)&&decide (t.depth≤16))=(decide ((yV t).1≤200)&&decide ((yV t).2≤16)):=by
  obtain⟨c1,c2⟩:=hc;rw[Bool.eq_iff_iff];simp only[Bool.and_eq_true,decide_eq_true_eq]
  constructor
  ·rintro⟨h1,h2⟩
   rw[c2 (by omega)];omega
  ·rintro⟨h1,h2⟩
   have h3:t.nodes≤200:=by omega
   rw[c2 (by omega)] at h2;omega
 unfold dK;rw[hres];obtain⟨A,c,A',c',rfl,-⟩:=hrep.open;have ab:=Below.refl w.heap.size w
 generalize (yV t)=s at *
 refine Zs 10 Tryz.func99 ?_;refine aj ?_;refine Seq.box rfl rfl rfl rfl rfl ?_;intro g1 w1 n1;have e1:=Nat.le_trans ab.size n1.ge;replace ab:=ab.step n1.below;have k1:=n1.an;refine Za ?_;refine bn 0 1 2 (aB ?_);refine ZW 4 Tryz.underlying71 k1 ?_;refine Zc (Ze Tryz.func140) (hs _ ab) ?_;rintro en w5 ⟨rfl,hb5⟩;refine⟨_,rfl,?_⟩;replace ab:=ab.step hb5;replace k1:=k1.step hb5;refine Zc (Ze Tryz.func141) (pD s.1 s.2 _) ?_;rintro en w6 ⟨rfl,hb6⟩;refine⟨_,rfl,?_⟩;replace ab:=ab.step hb6;replace k1:=k1.step hb6;refine Zm ?_;refine aw.start ?_;refine bw (fun hcx=>aa.eK rfl rfl Tryz.underlying71 rfl k1 (m:=4) (by kernel_rfl) rfl) ?_;refine aw.bU rfl rfl rfl rfl rfl rfl rfl (fun hcx=>Ze Tryz.func142) (fun hcx=>hbt _ ab) ?_;intro w2 hw2;replace ab:=ab.step hw2;replace k1:=k1.step hw2;refine fQ ?_;refine Za ?_;refine bn 0 1 2 (Zt (Cd.ret ?_));refine aZ ?_;exact⟨bt (aJ (by cases (decide (s.1≤200)&&decide (s.2≤16))<;>rfl)),ab⟩
theorem m0 (op:Int)(nm:List Nat)(n m:Nat):fV op nm n m=true↔Df op=((n:Int),(m:Int))∧(op=2→ir nm=true)∧(op≠2→nm=[]):=by
 unfold fV;simp
 constructor
 ·rintro⟨⟨a,b⟩,c⟩
  refine⟨a,fun h=> ?_,fun h=> ?_⟩
  ·rcases b with b|b
   ·exact absurd h b
   ·exact b
  ·rcases c with c|c
   ·exact absurd c h
   ·exact c
 ·rintro⟨a,b,c⟩
  refine⟨⟨a,?_⟩,?_⟩
  ·by_cases h2:op=2
   ·exact .inr (b h2)
   ·exact .inl h2
  ·by_cases h2:op=2
   ·exact .inl h2
   ·exact .inr (c h2)
theorem B9 {op:Int}{n m:Nat}(h:Df op=((n:Int),(m:Int))):1≤op∧op≤9∧n≤1∧m≤2:=by
 unfold Df at h
 repeat' split at h
 all_goals (have h1:=congrArg Prod.fst h;have h2:=congrArg Prod.snd h;simp only at h1 h2;omega)
section
variable {w w':World} {T:List Nat} {ts:List Tm} {vs:List Value}
end
def ky:List (List Nat):=[[122,101,114,111],[111,110,101],[103,105,118,101],[97,110,100],[111,114],[115,99,97,108,101],[119,104,101,110],[117,110,116,105,108],[97,110,121,116,105,109,101]]
def lh (op:Int):List Nat:=ky.getD (op-1).toNat []
mutual
def dt:Tm→List Nat
 | .mk op nm es l=>if op=1 then [122,101,114,111] else lh op++[40]++cA ((if op=2 then [nm] else [])++es.map bO++qX l)++[41]
def qX:List Tm→List (List Nat)
 | []=>[]
 |t::r=>dt t::qX r
end
theorem qB:∀l,qX l=l.map dt
 | []=>by rw[qX];rfl
 |e::r=>by rw[qX,qB r];rfl
theorem qh (t:Tm):dt t=if t.op=1 then [122,101,114,111] else lh t.op++[40]++cA ((if t.op=2 then [t.name] else [])++t.exprs.map bO++t.aF.map dt)++[41]:=by
 cases t;rw[dt,qB];rfl
theorem uZ (op:Int)(w:World)(h1:1≤op)(h2:op≤9):Calls Tryz.prog 114 #[.int .i64 op] w fun e w'=>e= .returned (.string (strOf (lh op)))∧Grow w w':=by
 have ab:=Below.refl w.heap.size w;obtain⟨j,hj⟩:∃j,(op-1).toNat=j:=⟨_,rfl⟩;have hw:lh op=ky.getD j []:=by unfold lh;rw[hj]
 rw[hw];have hj9:j<9:=by omega
 have hs:(ky.map fun s=>Value.string (strOf s)).toArray[j]? =some (.string (strOf (ky.getD j []))):=by
  rw[List.getElem?_toArray,List.getElem?_map,List.getD_eq_getElem?_getD,List.getElem?_eq_getElem (show j<ky.length from hj9)];rfl
 refine Zs 10 Tryz.func114 ?_;refine aj ?_;refine Za ?_;refine dF 0 2 (aB ?_);refine Seq.slice (vs:=[_,_,_,_,_,_,_,_,_]) (s:=1) rfl rfl rfl Tryz.underlying66 (by kernel_rfl) (bh) (by omega) (by omega) ⟨rfl,rfl,rfl,rfl,rfl,rfl,rfl,rfl,rfl,trivial⟩ rfl rfl rfl ?_;intro g4 w1 n4;have e4:=Nat.le_trans ab.size n4.ge;replace ab:=ab.step n4.below;have k4:=n4.an;refine Za ?_;refine bn 0 2 3 (aB ?_);refine Zm ?_;refine Zm ?_;refine mC ?_;have k4:aH _ g4 9 (ky.map fun s=>Value.string (strOf s)).toArray:=k4;refine Zv (aa.dS rfl rfl rfl Tryz.underlying66 (by kernel_rfl) (j:=j) (by omega) (by omega)) ?_;refine Zv (aa.au rfl rfl Tryz.underlying9 rfl k4 hs) ?_;refine Za ?_;refine bn 0 2 3 (Zt (Cd.ret ?_));refine aZ ?_;exact⟨rfl,ab⟩
theorem rY (op:Int)(w:World)(h1:1≤op)(h2:op≤9):Calls Tryz.prog 176 #[.int .i64 op] w fun e w'=>e= .returned (.string (strOf (lh op)))∧Grow w w':=by
 have ab:=Below.refl w.heap.size w;refine Zs 20 Tryz.func176 ?_;refine aj ?_;refine Za ?_;refine dF 0 2 (aI (aj ?_));refine Zm ?_;refine bn 0 2 3 (Zt (Cd.block (aj ?_)));refine bC ?_;refine Za ?_;refine aQ 0 2 3 4 (Zt ?_);refine Cd.ak rfl (fun g1=> ?_) (fun g1=> ?_)
 ·skip
  refine aj ?_;refine Za ?_;refine aQ 0 2 3 4 (Zt (Cd.ret (ae.ag (ae.af ?_))));refine aZ ?_;subst g1;exact⟨rfl,ab⟩
 refine aj ?_;refine bC ?_;refine Za ?_;refine aO 0 2 3 4 6 (Zt ?_);refine Cd.ak rfl (fun h3=> ?_) (fun h3=> ?_)
 ·skip
  refine aj ?_;refine Za ?_;refine aO 0 2 3 4 6 (Zt (Cd.ret (ae.ag (ae.af ?_))));refine aZ ?_;subst h3;exact⟨rfl,ab⟩
 refine aj ?_;refine bC ?_;refine Za ?_;refine aY 0 2 3 4 6 8 (Zt ?_);refine Cd.ak rfl (fun h4=> ?_) (fun h4=> ?_)
 ·skip
  refine aj ?_;refine Za ?_;refine aY 0 2 3 4 6 8 (Zt (Cd.ret (ae.ag (ae.af ?_))));refine aZ ?_;subst h4;exact⟨rfl,ab⟩
 refine aj ?_;refine bC ?_;refine Za ?_;refine ba 0 2 3 4 6 8 10 (Zt ?_);refine Cd.ak rfl (fun h5=> ?_) (fun h5=> ?_)
 ·skip
  refine aj ?_;refine Za ?_;refine ba 0 2 3 4 6 8 10 (Zt (Cd.ret (ae.ag (ae.af ?_))));refine aZ ?_;subst h5;exact⟨rfl,ab⟩
 refine aj ?_;refine bC ?_;refine Za ?_;refine cB 0 2 3 4 6 8 10 12 (Zt ?_);refine Cd.ak rfl (fun h6=> ?_) (fun h6=> ?_)
 ·skip
  refine aj ?_;refine Za ?_;refine cB 0 2 3 4 6 8 10 12 (Zt (Cd.ret (ae.ag (ae.af ?_))));refine aZ ?_;subst h6;exact⟨rfl,ab⟩
 refine aj ?_;refine bC ?_;refine Za ?_;refine dY 0 2 3 4 6 8 10 12 14 (Zt ?_);refine Cd.ak rfl (fun h7=> ?_) (fun h7=> ?_)
 ·skip
  refine aj ?_;refine Za ?_;refine dY 0 2 3 4 6 8 10 12 14 (Zt (Cd.ret (ae.ag (ae.af ?_))));refine aZ ?_;subst h7;exact⟨rfl,ab⟩
 refine aj ?_;refine bC ?_;refine Za ?_;refine dq 0 2 3 4 6 8 10 12 14 16 (Zt ?_);refine Cd.ak rfl (fun h8=> ?_) (fun h8=> ?_)
 ·skip
  refine aj ?_;refine Za ?_;refine dq 0 2 3 4 6 8 10 12 14 16 (Zt (Cd.ret (ae.ag (ae.af ?_))));refine aZ ?_;subst h8;exact⟨rfl,ab⟩
 refine aj ?_;refine bC ?_;refine Za ?_;refine dv 0 2 3 4 6 8 10 12 14 16 18 (Zt ?_);refine Cd.ak rfl (fun h9=> ?_) (fun h9=> ?_)
 ·skip
  refine aj ?_;refine Za ?_;refine dv 0 2 3 4 6 8 10 12 14 16 18 (Zt (Cd.ret (ae.ag (ae.af ?_))));refine aZ ?_;subst h9;exact⟨rfl,ab⟩
 refine Cd.skip (ae.ah (aB ?_));refine Za ?_;refine dv 0 2 3 4 6 8 10 12 14 16 18 (Zt (Cd.ret ?_));refine aZ ?_;obtain rfl:op=2:=by omega
 exact⟨rfl,ab⟩
theorem kr {t:Tm}(h:dy t=true):fV t.op t.name t.exprs.length t.aF.length=true∧(∀x∈t.exprs,bE x=true)∧∀x∈t.aF,dy x=true:=by
 rw[oS,Bool.and_eq_true,Bool.and_eq_true,List.all_eq_true,List.all_eq_true] at h;exact⟨h.1.1,h.1.2,h.2⟩
theorem oN (op:Int):(lh op).length≤7∧∀x∈lh op,x<256:=by
 unfold lh
 generalize (op-1).toNat=j
 rcases Nat.lt_or_ge j 9 with h|h
 ·have key:∀j:Fin 9,(ky.getD j.val []).length≤7∧∀x∈ky.getD j.val [],x<256:=by decide
  exact key ⟨j,h⟩
 ·rw[List.getD_eq_getElem?_getD,List.getElem?_eq_none (show ky.length≤j from h)]
  simp
theorem uv:∀l:List (List Nat),(cA l).length≤(l.map fun t=>t.length+2).sum
 | []=>by simp[cA]
 | [x]=>by simp[cA]
 |x::y::r=>by
  have h2:=uv (y::r);rw[ph];simp only[List.length_append,List.length_cons,List.length_nil,List.map_cons,List.sum_cons] at h2⊢;omega
theorem sW:∀l:List Ex,(∀x∈l,(bO x).length≤50*x.nodes)→((l.map bO).map fun t=>t.length+2).sum≤60*aK l
 | [],_=>by simp
 |x::r,h=>by
  have h1:=h x List.mem_cons_self;have h2:=sW r fun z hz=>h z (List.mem_cons_of_mem _ hz);have hp:=x.cR;rw[aK,List.map_cons,List.map_cons,List.sum_cons];omega
theorem sa:∀l:List Tm,(∀x∈l,(dt x).length+2≤60*x.nodes)→((l.map dt).map fun t=>t.length+2).sum≤60*cu l
 | [],_=>by simp
 |x::r,h=>by
  have h1:=h x List.mem_cons_self;have h2:=sa r fun z hz=>h z (List.mem_cons_of_mem _ hz);rw[cu,List.map_cons,List.map_cons,List.sum_cons];omega
theorem jU (N:Nat):∀t:Tm,t.nodes≤N→dy t=true→(dt t).length+2≤60*t.nodes∧∀d∈dt t,d<256:=by
 induction N with
 |zero=>intro t hN;have:=t.cR;omega
 |succ N ih=>
  intro t hN hb;obtain⟨hh,he,ht⟩:=kr hb;obtain⟨a1,a2,a3⟩:=(m0 _ _ _ _).1 hh;have hn:=t.lJ;have hE:=sW t.exprs fun x hx=>(fM x.nodes x (Nat.le_refl _) (he x hx)).1;have hT:=sa t.aF fun x hx=>(ih x (by have:=Tm.fU hx;omega) (ht x hx)).1;have hw:=oN t.op;rw[qh];split
  ·exact⟨by simp;omega,by decide⟩
  ·have hj:=uv ((if t.op=2 then [t.name] else [])++t.exprs.map bO++t.aF.map dt)
   rw[List.map_append,List.map_append,List.sum_append,List.sum_append] at hj
   have hnm:((if t.op=2 then [t.name] else []).map fun t=>t.length+2).sum≤18:=by
    split
    ·rename_i h
     have:=nu (a2 h);simp;omega
    ·simp
   refine⟨by simp only[List.length_append,List.length_cons,List.length_nil];omega,DT (fun x hx=> ?_) (yi fun u hu=> ?_) (by decide)⟩
   ·rcases List.mem_append.1 hx with hx|hx
    ·exact hw.2 x hx
    ·simp at hx;omega
   ·rcases List.mem_append.1 hu with hu|hu
    ·rcases List.mem_append.1 hu with hu|hu
     ·split at hu
      ·rename_i h
       obtain rfl:=List.mem_singleton.1 hu;exact pR (a2 h)
      ·cases hu
     ·obtain⟨x,hx,rfl⟩:=List.mem_map.1 hu
      exact(fM x.nodes x (Nat.le_refl _) (he x hx)).2
    ·obtain⟨x,hx,rfl⟩:=List.mem_map.1 hu
     exact(ih x (by have:=Tm.fU hx;omega) (ht x hx)).2
def strs (l:List (List Nat)):List Value:=l.map fun s=> .string (strOf s)
theorem pk (a b:List (List Nat)):strs (a++b)=strs a++strs b:=by simp[strs]
theorem u6 (N:Nat):∀(t:Tm) (B:Nat) (v:Value) (w:World),t.nodes≤N→t.nodes≤200→dy t=true→gJ w B t v→B≤w.heap.size→Calls Tryz.prog 65 #[v] w fun en w'=>en= .returned (.string (strOf (dt t)))∧Grow w w':=by
 induction N with
 |zero=>intro t B v w hN;have:=t.cR;omega
 |succ N ih=>
 intro t B v w hN h200 hbt hrep hB;obtain⟨A,c,A',c',rfl,hv⟩:=hrep.open;obtain⟨hh,hexp,hter⟩:=kr hbt;obtain⟨a1,a2,a3⟩:=(m0 _ _ _ _).1 hh;obtain⟨p1,p2,p3,p4⟩:=B9 a1;have hT:=qh t;have ab:=Below.refl w.heap.size w;refine Zs 57 Tryz.func65 ?_;refine aj ?_;refine Seq.box rfl rfl rfl rfl rfl ?_;intro g1 w1 n1;have e1:=Nat.le_trans ab.size n1.ge;replace ab:=ab.step n1.below;have k1:=n1.an;refine Za ?_;refine bn 0 1 2 (aI (aj ?_));refine Zf 0 Tryz.underlying71 ?_;refine ZL Tryz.underlying3 k1 ?_;refine bC ?_;refine aQ 0 1 2 8 (Zt ?_);refine Cd.ak rfl (fun h1=> ?_) (fun h1=> ?_)
 ·rw[if_pos h1] at hT
  refine aj ?_;refine Za ?_;refine aQ 0 1 2 8 (Zt (Cd.ret (ae.af ?_)));refine aZ ?_;rw[hT];exact⟨rfl,ab⟩
 rw[if_neg h1] at hT;refine Cd.skip (aB ?_);refine Za ?_;refine aO 0 1 2 3 8 (Zt ?_);refine Cd.lB (σ:=Value) (fun v=>[(1, .pointer (some ⟨g1,0,none⟩)),(3,v)]) (fun v wr=>Below w.heap.size w wr∧aH wr g1 71 #[.int .i64 t.op, .string (strOf t.name), .slice A t.exprs.length c, .slice A' t.aF.length c']∧Own wr w.heap.size 9 1 v (if t.op=2 then [t.name] else []).length (strs (if t.op=2 then [t.name] else []))) ?_ ?_
 ·skip
  refine aj ?_;refine Zf 0 Tryz.underlying71 ?_;refine ZL Tryz.underlying3 k1 ?_;refine bC ?_;refine aY 0 1 2 3 8 11 (Zt ?_);refine Cd.ak rfl (fun h2=> ?_) (fun h2=> ?_)
  ·rw[if_pos h2]
   have own:Own w1 w.heap.size 9 1 (.slice none 0 0) 0 []:=Own.nil _ _ _ _;refine Zr ?_;refine Zm ?_;refine Zf 1 Tryz.underlying71 ?_;refine ZL Tryz.underlying9 k1 ?_;refine Seq.slice (vs:=[_]) (s:=1) rfl rfl rfl Tryz.underlying66 (by kernel_rfl) (bh) (by omega) (by omega) ⟨rfl,trivial⟩ rfl rfl rfl ?_;intro g15 w2 n15;have e15:=Nat.le_trans ab.size n15.ge;have l15:=Nat.lt_of_lt_of_le k1.lt n15.ge;replace ab:=ab.step n15.below;replace k1:=k1.step n15.below;replace own:=own.step n15.below;have k15:=n15.an;refine Seq.append rfl rfl rfl Tryz.underlying66 (by kernel_rfl) bh rfl (by decide) (b:=16) (by kernel_rfl) own (Reads.an k15 1 rfl) (by intro x hx;simp[aN,Value.cells] at hx;rw[hx];rfl) ab.size (by simp only[maxLen];omega) (by omega) rfl rfl rfl ?_;intro vw3 w3 ow3 haw3
   try replace k1:=k1.app own haw3
   try replace k15:=k15.app own haw3
   clear own;have own:=ow3;replace ab:=ab.trans haw3.below;refine Za ?_;refine aY 0 1 2 3 8 11 ?_;exact ae.join _ ⟨rfl,rfl,trivial⟩ ⟨ab,k1,own⟩
  ·rw[if_neg h2]
   refine Cd.skip ?_;exact ae.join _ ⟨rfl,rfl,trivial⟩ ⟨ab,k1,Own.nil _ _ _ _⟩
 clear ab k1;rintro v wj ⟨ab,k1,own⟩;obtain⟨pre,hpre⟩:∃pre,pre=if t.op=2 then [t.name] else []:=⟨_,rfl⟩;rw[←hpre] at own hT;have hpl:pre.length≤1:=by rw[hpre];split<;>simp
 refine Cd.seq (aj ?_);refine Za ?_;refine bn 1 3 4 (Zt (Cd.block ?_));refine Cd.loop (σ:=Nat × Value) (fun s=>[(1, .pointer (some ⟨g1,0,none⟩)),(3,s.2),(4, .int .i64 (s.1:Int))]) (fun s wr=>s.1≤t.exprs.length∧Below w.heap.size w wr∧aH wr g1 71 #[.int .i64 t.op, .string (strOf t.name), .slice A t.exprs.length c, .slice A' t.aF.length c']∧Own wr w.heap.size 9 1 s.2 (pre++(t.exprs.take s.1).map bO).length (strs (pre++(t.exprs.take s.1).map bO))) (fun s=>t.exprs.length-s.1) (0,v) ⟨Nat.zero_le _,ab,k1,by simpa using own⟩ ⟨rfl,rfl,rfl,trivial⟩ ?_;clear ab k1;clear own;rintro⟨k,v⟩ wr ⟨hk,ab,k1,own⟩;dsimp only at hk own⊢;refine Cd.seq (aj ?_);refine Zm ?_;refine Zf 2 Tryz.underlying71 ?_;refine ZL Tryz.underlying68 k1 ?_;refine Zv (aa.len rfl rfl Tryz.underlying68) ?_;refine eI ?_;refine aQ 1 3 4 21 (Zt ?_);refine Cd.ak rfl (fun hc=> ?_) (fun hc=> ?_)
 ·obtain⟨y,hy⟩:∃y,t.exprs[k]? =some y:=⟨_,List.getElem?_eq_getElem (by omega)⟩
  obtain⟨ad,Ax,cx,rfl,hbl,hrx,hc⟩:=hv.expr k y hy;have hxm:=List.mem_of_getElem? hy;have hxn:=Tm.qD hxm;have hc:=fun j u hj=>((ab.mono hB).cell (p:=(ad.add (k*4)).add j) (by rw[av,av];exact hbl)).trans (hc j u hj);have htk:t.exprs.take (k+1)=t.exprs.take k++[y]:=by rw[List.take_add_one,hy];rfl
  have hrec:=fun W (hb:Below w.heap.size w W)=>uC y.nodes y B _ W (Nat.le_refl _) (by omega) (hexp y hxm) (hrx.below (hb.mono hB)) (Nat.le_trans hB hb.size);have hlk:(pre++(t.exprs.take k).map bO).length≤10:=by rw[List.length_append,List.length_map,List.length_take];omega
  refine Cd.skip (aI (Cd.block (Zr ?_)));refine Zm ?_;refine Zf 2 Tryz.underlying71 ?_;refine ZL Tryz.underlying68 k1 ?_;refine Zm ?_;refine Zv (aa.bI rfl rfl rfl Tryz.underlying68 (s:=4) (by kernel_rfl) (j:=k) rfl (by omega)) ?_;refine Zv (aa.ep (ps:=[.int .i64 y.op, .int .i64 y.n, .string (strOf y.name), .slice Ax y.args.length cx]) rfl rfl Tryz.underlying105 rfl (m:=4) (by kernel_rfl) rfl hc) ?_;refine Zc (Ze Tryz.func64) (hrec _ ab) ?_;rintro en w6 ⟨rfl,hb6⟩;refine⟨_,rfl,?_⟩;replace ab:=ab.step hb6;replace k1:=k1.step hb6;replace own:=own.step hb6;refine Seq.slice (vs:=[_]) (s:=1) rfl rfl rfl Tryz.underlying66 (by kernel_rfl) (bh) (by omega) (by omega) ⟨rfl,trivial⟩ rfl rfl rfl ?_;intro g31 w2 n31;have e31:=Nat.le_trans ab.size n31.ge;have l31:=Nat.lt_of_lt_of_le k1.lt n31.ge;replace ab:=ab.step n31.below;replace k1:=k1.step n31.below;replace own:=own.step n31.below;have k31:=n31.an;refine Seq.append rfl rfl rfl Tryz.underlying66 (by kernel_rfl) bh rfl (by decide) (b:=16) (by kernel_rfl) own (Reads.an k31 1 rfl) (by intro x hx;simp[aN,Value.cells] at hx;rw[hx];rfl) ab.size (by simp only[maxLen];omega) (by omega) rfl rfl rfl ?_;intro vw3 w3 ow3 haw3
  try replace k1:=k1.app own haw3
  try replace k31:=k31.app own haw3
  clear own;have own:=ow3;replace ab:=ab.trans haw3.below;refine Za ?_;refine aQ 1 3 4 21 (ae.ah (eh ?_));refine Zm ?_;refine cG ?_;refine Za ?_;refine aQ 1 3 4 21 ?_;refine ae.round (k+1,_) ⟨rfl,rfl,rfl,trivial⟩ ⟨by dsimp only;omega,ab,k1,?_⟩ (by dsimp only;omega);dsimp only;rw[htk,List.map_append,←List.append_assoc,pk,List.length_append];exact own
 obtain rfl:k=t.exprs.length:=by omega
 rw[List.take_of_length_le (Nat.le_refl _)] at own;obtain⟨pre2,hpre2⟩:∃pre2,pre2=pre++t.exprs.map bO:=⟨_,rfl⟩;rw[←hpre2] at own hT;have hpl2:pre2.length≤10:=by rw[hpre2,List.length_append,List.length_map];omega
 refine Cd.exit (ae.aC (ae.aA (ae.ay (aI (aj ?_)))));refine Za ?_;refine aO 1 3 4 5 21 (Zt (Cd.block ?_));refine Cd.loop (σ:=Nat × Value) (fun s=>[(1, .pointer (some ⟨g1,0,none⟩)),(3,s.2),(5, .int .i64 (s.1:Int))]) (fun s wr=>s.1≤t.aF.length∧Below w.heap.size w wr∧aH wr g1 71 #[.int .i64 t.op, .string (strOf t.name), .slice A t.exprs.length c, .slice A' t.aF.length c']∧Own wr w.heap.size 9 1 s.2 (pre2++(t.aF.take s.1).map dt).length (strs (pre2++(t.aF.take s.1).map dt))) (fun s=>t.aF.length-s.1) (0,v) ⟨Nat.zero_le _,ab,k1,by simpa using own⟩ ⟨rfl,rfl,rfl,trivial⟩ ?_;clear ab k1;clear own;rintro⟨k,v⟩ wr ⟨hk,ab,k1,own⟩;dsimp only at hk own⊢;refine Cd.seq (aj ?_);refine Zm ?_;refine Zf 3 Tryz.underlying71 ?_;refine ZL Tryz.underlying69 k1 ?_;refine Zv (aa.len rfl rfl Tryz.underlying69) ?_;refine eI ?_;refine aQ 1 3 5 37 (Zt ?_);refine Cd.ak rfl (fun hc=> ?_) (fun hc=> ?_)
 ·obtain⟨y,hy⟩:∃y,t.aF[k]? =some y:=⟨_,List.getElem?_eq_getElem (by omega)⟩
  obtain⟨ad,A1,A2,d1,d2,rfl,hbl,hrx,hc⟩:=hv.term k y hy;have hxm:=List.mem_of_getElem? hy;have hxn:=Tm.fU hxm;have hc:=fun j u hj=>((ab.mono hB).cell (p:=(ad.add (k*4)).add j) (by rw[av,av];exact hbl)).trans (hc j u hj);have htk:t.aF.take (k+1)=t.aF.take k++[y]:=by rw[List.take_add_one,hy];rfl
  have hrec:=fun W (hb:Below w.heap.size w W)=>ih y B _ W (by omega) (by omega) (hter y hxm) (hrx.below (hb.mono hB)) (Nat.le_trans hB hb.size);have hlk:(pre2++(t.aF.take k).map dt).length≤20:=by rw[List.length_append,List.length_map,List.length_take];omega
  refine Cd.skip (aI (Cd.block (Zr ?_)));refine Zm ?_;refine Zf 3 Tryz.underlying71 ?_;refine ZL Tryz.underlying69 k1 ?_;refine Zm ?_;refine Zv (aa.bI rfl rfl rfl Tryz.underlying69 (s:=4) (by kernel_rfl) (j:=k) rfl (by omega)) ?_;refine Zv (aa.ep (ps:=[.int .i64 y.op, .string (strOf y.name), .slice A1 y.exprs.length d1, .slice A2 y.aF.length d2]) rfl rfl Tryz.underlying71 rfl (m:=4) (by kernel_rfl) rfl hc) ?_;refine Zc (Ze Tryz.func65) (hrec _ ab) ?_;rintro en w6 ⟨rfl,hb6⟩;refine⟨_,rfl,?_⟩;replace ab:=ab.step hb6;replace k1:=k1.step hb6;replace own:=own.step hb6;refine Seq.slice (vs:=[_]) (s:=1) rfl rfl rfl Tryz.underlying66 (by kernel_rfl) (bh) (by omega) (by omega) ⟨rfl,trivial⟩ rfl rfl rfl ?_;intro g47 w2 n47;have e47:=Nat.le_trans ab.size n47.ge;have l47:=Nat.lt_of_lt_of_le k1.lt n47.ge;replace ab:=ab.step n47.below;replace k1:=k1.step n47.below;replace own:=own.step n47.below;have k47:=n47.an;refine Seq.append rfl rfl rfl Tryz.underlying66 (by kernel_rfl) bh rfl (by decide) (b:=16) (by kernel_rfl) own (Reads.an k47 1 rfl) (by intro x hx;simp[aN,Value.cells] at hx;rw[hx];rfl) ab.size (by simp only[maxLen];omega) (by omega) rfl rfl rfl ?_;intro vw3 w3 ow3 haw3
  try replace k1:=k1.app own haw3
  try replace k47:=k47.app own haw3
  clear own;have own:=ow3;replace ab:=ab.trans haw3.below;refine Za ?_;refine aQ 1 3 5 37 (ae.ah (eh ?_));refine Zm ?_;refine cG ?_;refine Za ?_;refine aQ 1 3 5 37 ?_;refine ae.round (k+1,_) ⟨rfl,rfl,rfl,trivial⟩ ⟨by dsimp only;omega,ab,k1,?_⟩ (by dsimp only;omega);dsimp only;rw[htk,List.map_append,←List.append_assoc,pk,List.length_append];exact own
 ·obtain rfl:k=t.aF.length:=by omega
  rw[List.take_of_length_le (Nat.le_refl _)] at own;obtain⟨l,hl⟩:∃l,l=pre2++t.aF.map dt:=⟨_,rfl⟩;rw[←hl] at own hT;have hll:l.length≤20:=by rw[hl,List.length_append,List.length_map];omega
  have hbd:=(jU t.nodes t (Nat.le_refl _) hbt).1;have hwl:=(oN t.op).1;rw[hT] at hbd;simp only[List.length_append,List.length_cons,List.length_nil] at hbd;obtain⟨A9,c9,rfl,rd⟩:=own.reads;have hjoin:=fun W (hb:Below wr.heap.size wr W)=>uB l.length c9 A9 l W ((rd.below hb).more hb.size) (by omega) (by omega);have hloc:=Below.refl wr.heap.size wr;refine Cd.exit (ae.aC (ae.aA (ae.ay (aB ?_))));refine Zf 0 Tryz.underlying71 ?_;refine ZL Tryz.underlying3 k1 ?_;refine Zc (Ze Tryz.func114) (uZ t.op _ p1 p2) ?_;rintro en w6 ⟨rfl,hb6⟩;refine⟨_,rfl,?_⟩;replace ab:=ab.step hb6;replace k1:=k1.step hb6;replace hloc:=hloc.step hb6;refine Zv (aa.eD (b:=[40]) rfl rfl rfl (by simp only[List.length_cons,List.length_nil];omega)) ?_;refine Zm ?_;refine Zc (Ze Tryz.func113) (hjoin _ hloc) ?_;rintro en w7 ⟨rfl,hb7⟩;refine⟨_,rfl,?_⟩;replace ab:=ab.step hb7;replace k1:=k1.step hb7;replace hloc:=hloc.step hb7;refine Zv (aa.eD rfl rfl rfl (by simp only[List.length_append,List.length_cons,List.length_nil];omega)) ?_;refine Zv (aa.eD (b:=[41]) rfl rfl rfl (by simp only[List.length_append,List.length_cons,List.length_nil];omega)) ?_;refine Za ?_;refine aO 1 2 3 5 37 (Zt (Cd.ret ?_));refine aZ ?_;rw[hT];exact⟨rfl,ab⟩
theorem Aj (B g i:Nat)(t:Tm)(A A':Option Addr)(c c' f:Nat)(fst cp:List Value)(bs T:List Nat)(W:World)(hv:sM W B t A A')(h200:t.nodes≤200)(hbt:dy t=true)(wr:Bw W B g bs)(hl:bs.length≤60000000)
  (eg:∀args w,(callFunc f args).run Tryz.prog w= .ok (.enter f args) w) (hi:i<t.exprs.length+t.aF.length)
  (hT:∀x,t.exprs[i]? =some x→T=bO x)
  (hS:∀k x A1 A2 c1 c2,t.aF[k]? =some x→i=t.exprs.length+k→∀W',Wt B W W'→gJ W' B x (.agg (Fx x A1 A2 c1 c2).toArray)→Bw W' B g bs→Calls Tryz.prog f (fst++[Value.agg (Fx x A1 A2 c1 c2).toArray]++cp).toArray W' (iS B g (bs++T) W')):
  Calls Tryz.prog 178 #[.pointer (some ⟨g,0,none⟩), .agg #[.int .i64 t.op, .string (strOf t.name), .slice A t.exprs.length c, .slice A' t.aF.length c'], .int .i64 (i:Int), .func (.func f) fst.toArray cp.toArray] W (iS B g (bs++T) W):=by
 obtain⟨hh,hexp,hter⟩:=kr hbt;have hBW:=wr.size;have kO:=hv.kO;have h61:=hv.nq;have wt:=Wt.refl B W;refine Zs 31 Tryz.func178 ?_;refine aj ?_;refine Seq.box rfl rfl rfl rfl rfl ?_;intro g5 w1 n5;replace wt:=wt.step n5.below;replace wr:=wr.step n5.below;have k5:=n5.an;refine aO 0 1 2 3 5 (aI (aj ?_));refine Zm ?_;refine Zf 2 Tryz.underlying71 ?_;refine ZL Tryz.underlying68 k5 ?_;refine Zv (aa.len rfl rfl Tryz.underlying68) ?_;refine eI ?_;refine aY 0 1 2 3 5 12 (Zt ?_);refine Cd.ak rfl (fun hc=> ?_) (fun hc=> ?_)
 ·obtain⟨y,hy⟩:∃y,t.exprs[i]? =some y:=⟨_,List.getElem?_eq_getElem (by omega)⟩
  obtain⟨ad,Ax,cx,rfl,hbl,hrx,hce⟩:=hv.expr i y hy;have hxm:=List.mem_of_getElem? hy;have hxn:=Tm.qD hxm;have hxd:=y.bR;have hce:=fun j u hj=>((wt.to hBW).cell (p:=(ad.add (i*4)).add j) (by rw[av,av];exact hbl)).trans (hce j u hj);have hex:=AK y.nodes y B g bs _ 1 _ (Nat.le_refl _) (by omega) (hexp y hxm) (hrx.below (wt.to hBW)) wr (by unfold bm;omega) (by omega);rw[ym,←hT y hy] at hex;refine aj ?_;refine Zm ?_;refine Zf 2 Tryz.underlying71 ?_;refine ZL Tryz.underlying68 k5 ?_;refine Zm ?_;refine Zv (aa.bI rfl rfl rfl Tryz.underlying68 (s:=4) (by kernel_rfl) (j:=i) rfl (by omega)) ?_;refine Zv (aa.ep (ps:=[.int .i64 y.op, .int .i64 y.n, .string (strOf y.name), .slice Ax y.args.length cx]) rfl rfl Tryz.underlying105 rfl (m:=4) (by kernel_rfl) rfl hce) ?_;refine Zc (Ze Tryz.func138) (hex) ?_;clear wr;rintro e w2 ⟨⟨_,rfl⟩,fw2,wr⟩;refine⟨_,rfl,?_⟩;replace wt:=wt.wt fw2;refine aY 0 1 2 3 5 12 (Zt (Cd.ret (ae.af ?_)));refine ae.gu rfl (.inl rfl) ?_;exact⟨⟨_,rfl⟩,wt,wr⟩
 ·obtain⟨k,rfl⟩:∃k,i=t.exprs.length+k:=⟨i-t.exprs.length,by omega⟩
  obtain⟨y,hy⟩:∃y,t.aF[k]? =some y:=⟨_,List.getElem?_eq_getElem (by omega)⟩;obtain⟨ad,A1,A2,d1,d2,rfl,hbl,hrx,hce⟩:=hv.term k y hy;have hce:=fun j u hj=>((wt.to hBW).cell (p:=(ad.add (k*4)).add j) (by rw[av,av];exact hbl)).trans (hce j u hj);have hsub:=hS k y A1 A2 d1 d2 hy rfl _ wt (hrx.below (wt.to hBW)) wr;refine Cd.skip (eh ?_);refine Zm ?_;refine Zf 3 Tryz.underlying71 ?_;refine ZL Tryz.underlying69 k5 ?_;refine Zm ?_;refine Zf 2 Tryz.underlying71 ?_;refine ZL Tryz.underlying68 k5 ?_;refine Zv (aa.len rfl rfl Tryz.underlying68) ?_;refine mC ?_;refine Zv (aa.bI rfl rfl rfl Tryz.underlying69 (s:=4) (by kernel_rfl) (j:=k) (by omega) (by omega)) ?_;refine Zv (aa.ep (ps:=[.int .i64 y.op, .string (strOf y.name), .slice A1 y.exprs.length d1, .slice A2 y.aF.length d2]) rfl rfl Tryz.underlying71 rfl (m:=4) (by kernel_rfl) rfl hce) ?_;refine Seq.call (Enters.value (first:=fst) (cap:=cp) rfl rfl rfl eg) rfl rfl rfl hsub ?_;clear wr;rintro e w9 ⟨⟨_,rfl⟩,f9,wr⟩;refine⟨_,rfl,?_⟩;replace wt:=wt.wt f9;refine aY 0 1 2 3 5 12 ?_;refine ae.gu rfl (.inr rfl) ?_;exact⟨⟨_,rfl⟩,wt,wr⟩
theorem DM:∀args w,(callFunc 131 args).run Tryz.prog w= .ok (.enter 131 args) w:=fun args w=>bG Tryz.func131 (by kernel_rfl) rfl args w
theorem C4:∀args w,(callFunc 177 args).run Tryz.prog w= .ok (.enter 177 args) w:=fun args w=>bG Tryz.func177 (by kernel_rfl) rfl args w
def FM (B g L:Nat)(t:Tm):Prop:=∀(x:Tm) (A1 A2:Option Addr) (c1 c2:Nat),x∈t.aF→∀(W:World) (bs':List Nat),gJ W B x (.agg (Fx x A1 A2 c1 c2).toArray)→Bw W B g bs'→bs'.length≤L→Calls Tryz.prog 131 #[.pointer (some ⟨g,0,none⟩), .agg (Fx x A1 A2 c1 c2).toArray] W (iS B g (bs'++dt x) W)
def jX (t:Tm):List (List Nat):=t.exprs.map bO++t.aF.map dt
theorem xE {t:Tm}{i:Nat}{x:Ex}(h:t.exprs[i]? =some x):(jX t)[i]? =some (bO x):=by
 have:=(List.getElem?_eq_some_iff.1 h).1;unfold jX;rw[List.getElem?_append_left (by simp;omega),List.getElem?_map,h];rfl
theorem wC {t:Tm}{k:Nat}{x:Tm}(h:t.aF[k]? =some x):(jX t)[t.exprs.length+k]? =some (dt x):=by
 unfold jX;rw[List.getElem?_append_right (by simp),List.length_map,Nat.add_sub_cancel_left,List.getElem?_map,h];rfl
theorem wQ (B g L g2 g3 i c c':Nat)(A A':Option Addr)(t:Tm)(bs T:List Nat)(w W:World)(h:FM B g L t)(hv:sM w B t A A')(h200:t.nodes≤200)(hbt:dy t=true)(hb:Below B w W)(k2:aH W g2 192 #[.pointer (some ⟨g,0,none⟩)]) (k3:aH W g3 71 #[.int .i64 t.op, .string (strOf t.name), .slice A t.exprs.length c, .slice A' t.aF.length c']) (wr:Bw W B g bs) (hL:bs.length≤L) (hL2:L≤60000000) (hT:(jX t)[i]? =some T):
  Calls Tryz.prog 177 #[.int .i64 (i:Int), .pointer (some ⟨g2,0,none⟩), .pointer (some ⟨g3,0,none⟩)] W (iS B g (bs++T) W):=by
 have hBW:=wr.size;have hi:=(List.getElem?_eq_some_iff.1 hT).1;have hi:i<t.exprs.length+t.aF.length:=by unfold jX at hi;simpa using hi
 have hpart:=Aj B g i t A A' c c' 131 [.pointer (some ⟨g,0,none⟩)] [] bs T W (hv.below hb) h200 hbt wr (by omega) DM hi
  (fun x hx=>by rw[xE hx] at hT;injection hT with hT;exact hT.symm)
  (fun k x A1 A2 c1 c2 hx hik W' hb' hr hw=>by
   subst hik;rw[wC hx] at hT;injection hT with hT
   subst hT;exact h x A1 A2 c1 c2 (List.mem_of_getElem? hx) W' bs hr hw hL)
 have wt:=Wt.refl B W;refine Zs 10 Tryz.func177 ?_;refine Zr ?_;refine ZL Tryz.underlying192 k2 ?_;refine ZW 4 Tryz.underlying71 k3 ?_;refine Zm ?_;refine ZL Tryz.underlying192 k2 ?_;refine Zv (aa.makeFunc (v:= .func (.func 131) #[.pointer (some ⟨g,0,none⟩)] #[]) rfl (show jn _ _=some [.pointer (some ⟨g,0,none⟩)] from rfl) (show jn _ _=some [] from rfl) rfl) ?_;refine Zc (Ze Tryz.func178) (hpart) ?_;clear wr;rintro e w1 ⟨⟨_,rfl⟩,fw1,wr⟩;refine⟨_,rfl,?_⟩;replace wt:=wt.wt fw1;refine bn 0 1 2 ?_;refine ae.gu rfl (.inr rfl) ?_;exact⟨⟨_,rfl⟩,wt,wr⟩
theorem zw (N:Nat):∀(t:Tm) (B g:Nat) (bs:List Nat) (v:Value) (w:World),t.nodes≤N→t.nodes≤200→dy t=true→gJ w B t v→Bw w B g bs→bs.length+100000*t.depth≤50000000→
  Calls Tryz.prog 131 #[.pointer (some ⟨g,0,none⟩),v] w (iS B g (bs++dt t) w):=by
 induction N with
 |zero=>intro t B g bs v w hN;have:=t.cR;omega
 |succ N ih=>
 intro t B g bs v w hN h200 hbt hrep hbw hbs;obtain⟨A,c,A',c',rfl,hv⟩:=hrep.open;obtain⟨hh,hexp,hter⟩:=kr hbt;obtain⟨a1,a2,a3⟩:=(m0 _ _ _ _).1 hh;obtain⟨p1,p2,p3,p4⟩:=B9 a1;have hBW:=hbw.size;have hT:=qh t;have hbd:=jU t.nodes t (Nat.le_refl _) hbt;have kO:=hv.kO;have h61:=hv.nq
 have hrec:FM B g (bs.length+60000) t:=fun x A1 A2 c1 c2 hx W bs' hr hw hl=>by
  have hnd:=Tm.fU hx;have hdp:=Tm.rm hx;exact ih x B g bs' _ W (by omega) (by omega) (hter x hx) hr hw (by omega)
 have wt:=Wt.refl B w;have wr:=hbw;refine Zs 35 Tryz.func131 ?_;refine aj ?_;refine Seq.box rfl rfl rfl rfl rfl ?_;intro g2 w1 n2;replace wt:=wt.step n2.below;replace wr:=wr.step n2.below;have k2:=n2.an;refine Seq.box rfl rfl rfl rfl rfl ?_;intro g3 w2 n3;have l3:=Nat.lt_of_lt_of_le k2.lt n3.ge;replace wt:=wt.step n3.below;replace wr:=wr.step n3.below;replace k2:=k2.step n3.below;have k3:=n3.an;refine aQ 0 1 2 3 (aB ?_);refine Zf 0 Tryz.underlying71 ?_;refine ZL Tryz.underlying3 k3 ?_;refine aO 0 1 2 3 5 (Zt (Cd.block (aj ?_)));refine bC ?_;refine Za ?_;refine aY 0 1 2 3 5 19 (Zt ?_);refine Cd.ak rfl (fun h1=> ?_) (fun h1=> ?_)
 ·rw[if_pos h1] at hT
  refine Zr ?_;refine ZL Tryz.underlying192 k2 ?_;refine Zv (aa.nilCheck rfl rfl) ?_;refine Zf 0 Tryz.underlying232 ?_;refine Zc (Ze Tryz.func174) ((bS B g [122,101,114,111] bs _ wr (by decide) (by simp only[List.length_cons,List.length_nil];omega)).1) ?_;clear wr;rintro e w3 ⟨⟨_,rfl⟩,fw3,wr⟩;refine⟨_,rfl,?_⟩;replace wt:=wt.wt fw3;refine aY 0 1 2 3 5 19 (ae.ah ?_);refine ae.gu rfl (.inr rfl) ?_;rw[hT];exact⟨⟨_,rfl⟩,wt,wr⟩
 rw[if_neg h1] at hT;refine aj ?_;refine bC ?_;refine Za ?_;refine ba 0 1 2 3 5 19 25 (Zt ?_);refine Cd.ak rfl (fun h2=> ?_) (fun h2=> ?_)
 ·have hnm:=nu (a2 h2)
  have hnl:=pR (a2 h2)
  have he0:t.exprs=[]∧t.aF=[]:=by
   rw[h2] at a1;have e1:Df 2=(0,0):=rfl;rw[e1] at a1;injection a1 with x1 x2
   exact⟨List.eq_nil_of_length_eq_zero (by omega),List.eq_nil_of_length_eq_zero (by omega)⟩
  have hT2:dt t=[111,110,101,40]++t.name++[41]:=by
   rw[hT,if_pos h2,he0.1,he0.2,h2];simp[cA];rfl
  refine ff 7 ?_;intro w3 hw3 zw3;replace wt:=wt.step hw3;replace wr:=wr.step hw3;replace k2:=k2.step hw3;replace k3:=k3.step hw3;have zlt:=k3.lt;refine dZ Tryz.underlying192 k2 ?_;refine Zd (fun w hG=>aa.nilCheck rfl rfl) ?_;refine eV 0 Tryz.underlying232 ?_;refine eV 1 Tryz.underlying71 ?_;refine dZ Tryz.underlying9 k3 ?_;refine Zd (fun w hG=>aa.eD (a:=[111,110,101,40]) rfl rfl rfl (by simp only[List.length_cons,List.length_nil];omega)) ?_;refine Zd (fun w hG=>aa.eD (b:=[41]) rfl rfl rfl (by simp only[List.length_append,List.length_cons,List.length_nil];omega)) ?_;refine Dr.nil ?_;refine bb.done (F':=[(0,_),(1,_),(2,_),(3,_),(5,_),(19,_),(25,_),(29,_),(33,_)]) rfl ⟨rfl,rfl,rfl,rfl,rfl,rfl,rfl,rfl,rfl,trivial⟩ ?_;intro w4 hw4 fw4;replace wt:=wt.step hw4;replace wr:=wr.step hw4;replace k2:=k2.step hw4;replace k3:=k3.step hw4;refine Zc (Ze Tryz.func174) ((bS B g ([111,110,101,40]++t.name++[41]) bs _ wr (DT (by decide) hnl (by decide)) (by simp only[List.length_append,List.length_cons,List.length_nil];omega)).1) ?_;clear wr;rintro e w5 ⟨⟨_,rfl⟩,fw5,wr⟩;refine⟨_,rfl,?_⟩;replace wt:=wt.wt fw5;refine ba 0 1 2 3 5 19 25 (ae.ah ?_);refine ae.gu rfl (.inr rfl) ?_;rw[hT2];exact⟨⟨_,rfl⟩,wt,wr⟩
 rw[if_neg h2,List.nil_append] at hT;have hjr:t.exprs.map bO++t.aF.map dt=jX t:=rfl;rw[hjr] at hT;have hrl:(jX t).length=t.exprs.length+t.aF.length:=by unfold jX;simp
 have hwl:=oN t.op
 have hjl:(cA (jX t)).length≤20000:=by
  have:=hbd.1;rw[hT] at this;simp only[List.length_append,List.length_cons,List.length_nil] at this;omega
 have hrows:∀u∈jX t,∀d∈u,d<256:=fun u hu=>by
  unfold jX at hu;rcases List.mem_append.1 hu with hu|hu
  ·obtain⟨z,hz,rfl⟩:=List.mem_map.1 hu
   exact(fM z.nodes z (Nat.le_refl _) (hexp z hz)).2
  ·obtain⟨z,hz,rfl⟩:=List.mem_map.1 hu
   exact(jU z.nodes z (Nat.le_refl _) (hter z hz)).2
 have hword:∀W,Calls Tryz.prog 176 #[.int .i64 t.op] W fun e w'=>e= .returned (.string (strOf (lh t.op)))∧Grow W w':=fun W=>rY t.op W p1 p2;refine ff 12 ?_;intro w3 hw3 zw3;replace wt:=wt.step hw3;replace wr:=wr.step hw3;replace k2:=k2.step hw3;replace k3:=k3.step hw3;have zlt:=k3.lt;refine dZ Tryz.underlying192 k2 ?_;refine eV 0 Tryz.underlying71 ?_;refine dZ Tryz.underlying3 k3 ?_;refine Dr.cJ rfl (fun w=>Ze Tryz.func176) rfl (fun w hG=>hword w) ?_;refine eV 2 Tryz.underlying71 ?_;refine dZ Tryz.underlying68 k3 ?_;refine Zd (fun w hG=>aa.len rfl rfl Tryz.underlying68) ?_;refine eV 3 Tryz.underlying71 ?_;refine dZ Tryz.underlying69 k3 ?_;refine Zd (fun w hG=>aa.len rfl rfl Tryz.underlying69) ?_;refine Zd (fun w hG=>aa.kA rfl rfl rfl (by omega) (by omega)) ?_;refine Zd (fun w hG=>aa.makeFunc (v:= .func (.func 177) #[] #[.pointer (some ⟨g2,0,none⟩), .pointer (some ⟨g3,0,none⟩)]) rfl (show jn _ _=some [] from rfl) (show jn _ _=some [.pointer (some ⟨g2,0,none⟩), .pointer (some ⟨g3,0,none⟩)] from rfl) rfl) ?_;refine Dr.nil ?_;refine bb.done (F':=[(0,_),(1,_),(2,_),(3,_),(5,_),(6,_),(9,_),(16,_),(17,_),(19,_),(25,_)]) rfl ⟨rfl,rfl,rfl,rfl,rfl,rfl,rfl,rfl,rfl,rfl,rfl,trivial⟩ ?_;intro w4 hw4 fw4;replace wt:=wt.step hw4;replace wr:=wr.step hw4;replace k2:=k2.step hw4;replace k3:=k3.step hw4
 have hlist:=va B g 177 (t.exprs.length+t.aF.length) [.pointer (some ⟨g2,0,none⟩), .pointer (some ⟨g3,0,none⟩)] (lh t.op) bs (jX t) _ wr hwl.2 (by omega) hrl (by omega) hrows hjl (by omega) C4
  (fun i u hu W' bs' hwt hwr hlen=>wQ B g (bs.length+60000) g2 g3 i c c' A A' t bs' u w W' hrec hv h200 hbt ((wt.wt hwt).to hBW) (k2.wt hwt) (k3.wt hwt) hwr (by omega) (by omega) hu)
 refine Zc (Ze Tryz.func175) (hlist) ?_;clear wr;rintro e w5 ⟨⟨_,rfl⟩,fw5,wr⟩;refine⟨_,rfl,?_⟩;replace wt:=wt.wt fw5;refine ba 0 1 2 3 5 19 25 (ae.ah ?_);refine ae.gu rfl (.inr rfl) ?_;rw[hT];exact⟨⟨_,rfl⟩,wt,by simpa only[List.append_assoc] using wr⟩
theorem uQ (t:Tm)(A A':Option Addr)(B g g1 c c':Nat)(w W:World)(hbt:dy t=true)(h200:t.nodes≤200)(hrep:gJ w B t (.agg #[.int .i64 t.op, .string (strOf t.name), .slice A t.exprs.length c, .slice A' t.aF.length c'])) (hb:Below B w W) (k1:aH W g1 71 #[.int .i64 t.op, .string (strOf t.name), .slice A t.exprs.length c, .slice A' t.aF.length c']) (wr:Bw W B g []):
  Calls Tryz.prog 130 #[.pointer (some ⟨g,0,none⟩), .pointer (some ⟨g1,0,none⟩)] W (iS B g (dt t) W):=by
 have hdn:=t.bR;have hex:=zw t.nodes t B g [] _ W (Nat.le_refl _) h200 hbt (hrep.below hb) wr (by simp only[List.length_nil];omega);rw[List.nil_append] at hex;have wt:=Wt.refl B W;refine Zs 6 Tryz.func130 ?_;refine Zr ?_;refine Zm ?_;refine ZW 4 Tryz.underlying71 k1 ?_;refine Zc (Ze Tryz.func131) (hex) ?_;clear wr;rintro e w1 ⟨⟨_,rfl⟩,fw1,wr⟩;refine⟨_,rfl,?_⟩;replace wt:=wt.wt fw1;refine dF 0 1 ?_;refine ae.gu rfl (.inr rfl) ?_;exact⟨⟨_,rfl⟩,wt,wr⟩
theorem C1:∀args w,(callFunc 130 args).run Tryz.prog w= .ok (.enter 130 args) w:=fun args w=>bG Tryz.func130 (by kernel_rfl) rfl args w
theorem gY {t:Tm}(h:dK t=true):t.nodes≤200∧t.depth≤16∧dy t=true:=by
 unfold dK at h;simp at h;exact⟨h.1.1,h.1.2,h.2⟩
def pB (t:Tm):List Nat:=if dK t=true then dt t else []
theorem zi (t:Tm):(pB t).length≤1000000:=by
 unfold pB;split
 ·rename_i h
  obtain⟨h1,h2,h3⟩:=gY h;have:=(jU t.nodes t (Nat.le_refl _) h3).1;omega
 ·simp
theorem rL (t:Tm)(v:Value)(w:World)(hd:t.depth≤900)(hrep:gJ w w.heap.size t v):Calls Tryz.prog 82 #[v] w fun en w'=>en= .returned (.tuple #[.string (strOf (ki (dK t) (pB t)).1), .int .i64 (ki (dK t) (pB t)).2])∧Grow w w':=by
 obtain⟨A,c,A',c',rfl,hv⟩:=hrep.open;have ab:=Below.refl w.heap.size w;have hre:∀W,Below w.heap.size w W→Calls Tryz.prog 99 #[.agg #[.int .i64 t.op, .string (strOf t.name), .slice A t.exprs.length c, .slice A' t.aF.length c']] W fun en w'=>en= .returned (.bool (dK t))∧Grow W w':=fun W hb=>AD t w.heap.size _ W hd (hrep.below hb) hb.size;refine Zs 10 Tryz.func82 ?_;refine aj ?_;refine Seq.box rfl rfl rfl rfl rfl ?_;intro g1 w1 n1;have e1:=Nat.le_trans ab.size n1.ge;replace ab:=ab.step n1.below;have k1:=n1.an;refine Za ?_;refine Za ?_;refine aQ 0 1 2 3 (aB ?_);refine ZW 4 Tryz.underlying71 k1 ?_;refine Zc (Ze Tryz.func99) (hre _ ab) ?_;rintro en w5 ⟨rfl,hb5⟩;refine⟨_,rfl,?_⟩;replace ab:=ab.step hb5;replace k1:=k1.step hb5;refine Zv (aa.makeFunc (v:= .func (.func 130) #[] #[.pointer (some ⟨g1,0,none⟩)]) rfl (show jn _ _=some [] from rfl) (show jn _ _=some [.pointer (some ⟨g1,0,none⟩)] from rfl) rfl) ?_;refine Zc (Ze Tryz.func129) (uL (dK t) (pB t) 130 [.pointer (some ⟨g1,0,none⟩)] _ C1 (zi t) (fun hr W g hb hw=>by unfold pB;rw[if_pos hr];obtain⟨h1,h2,h3⟩:=gY hr;exact uQ t A A' _ g g1 c c' _ W h3 h1 ((hrep.below ab).more ab.size) hb (k1.step hb) hw)) ?_;rintro en w6 ⟨rfl,hb6⟩;refine⟨_,rfl,?_⟩;replace ab:=ab.step hb6;replace k1:=k1.step hb6;refine Zx ?_;refine Zx ?_;refine Za ?_;refine Za ?_;refine aQ 0 1 2 3 (Zt (Cd.ret ?_));refine dH ?_;exact⟨rfl,ab⟩
inductive Rs (α:Type) where
 |out
 |bad (pos:Nat) (over:Bool)
 |ok (a:α) (pos:Nat)
def Rs.bind {α β:Type}(r:Rs α)(f:α→Nat→Rs β):Rs β:=match r with
 | .out=> .out
 | .bad p o=> .bad p o
 | .ok a p=>f a p
section
variable {α β:Type}
theorem Rs.lM (p:Nat)(o:Bool)(f:α→Nat→Rs β):(Rs.bad p o).bind f= .bad p o:=rfl
theorem Rs.bB (a:α)(p:Nat)(f:α→Nat→Rs β):(Rs.ok a p).bind f=f a p:=rfl
theorem Rs.bind_assoc {γ:Type}(r:Rs α)(f:α→Nat→Rs β)(g:β→Nat→Rs γ):(r.bind f).bind g=r.bind fun a p=>(f a p).bind g:=by cases r<;>rfl
theorem Rs.fD {r:Rs α}{f:α→Nat→Rs β}(h:r.bind f≠ .out):r≠ .out:=fun e=>h (by rw[e];rfl)
theorem Rs.dA {r:Rs α}(h:r≠ .out):(∃p o,r= .bad p o)∨∃a p,r= .ok a p:=by
 cases r with
 |out=>exact absurd rfl h
 |bad p o=>exact .inl ⟨p,o,rfl⟩
 |ok a p=>exact .inr ⟨a,p,rfl⟩
end
def dn (ws:List Wd)(p:Nat):Wd:=ws.getD p ⟨-1,[],0,0⟩
def rW (ws:List Wd)(p:Nat)(s:List Nat):Bool:=decide ((dn ws p).kind=0)&&decide ((dn ws p).text=s)
def bF (ws:List Wd)(s:List Nat)(p:Nat):Rs Unit:=if rW ws p s=true then .ok () (p+1) else .bad p false
def db (p d:Nat):Rs Unit:=if 64<d+1 then .bad p true else .ok () p
def cK:Nat→List (List Nat)
 |0=>[[124]]
 |1=>[[38]]
 |2=>[[60],[60,61],[61],[33,61],[62,61],[62]]
 |3=>[[43],[45]]
 |4=>[[42],[47]]
 |_=>[]
def iu:Nat→List Int
 |0=>[18]
 |1=>[17]
 |2=>[11,12,13,14,15,16]
 |3=>[5,6]
 |4=>[7,8]
 |_=>[]
def opAt (ws:List Wd)(lvl p:Nat):Option Int:=if(dn ws p).kind≠0 then none else if(dn ws p).text∈cK lvl then(iu lvl)[(cK lvl).idxOf (dn ws p).text]? else none
def tZ (op:Int)(a b:Ex):Ex:= .mk op 0 [] [a,b]
def CB:List Nat:=[100,97,121]
def CQ:List Nat:=[109,105,110]
def BZ:List Nat:=[109,97,120]
def FQ:List Nat:=[105,102]
def yn:List Nat:=[122,101,114,111]
def xQ:List Nat:=[111,110,101]
def bl {α:Type}(ws:List Wd):List (Nat→Nat→Rs α)→Bool→Nat→Nat→Rs (List α)
 | [],_,p,_=> .ok [] p
 |one::r,first,p,d=>(if first=true then Rs.ok () p else bF ws [44] p).bind fun _ p=>(one p d).bind fun x p=>(bl ws r false p d).bind fun xs p=> .ok (x::xs) p
def aT {α:Type}(ws:List Wd)(aV:List (Nat→Nat→Rs α))(p d:Nat):Rs (List α):=(bF ws [40] p).bind fun _ p=>(db p d).bind fun _ p=>(bl ws aV true p (d+1)).bind fun xs p=>(bF ws [41] p).bind fun _ p=> .ok xs p
def bV (ws:List Wd)(E0:Nat→Nat→Rs Ex)(op:Int)(k p d:Nat):Rs Ex:=(aT ws (List.replicate k E0) (p+1) d).bind fun xs p=> .ok (.mk op 0 [] xs) p
def eA (ws:List Wd)(p:Nat):Rs (List Nat):=if(dn ws p).kind=3∧cl (dn ws p).text=false then .ok (dn ws p).text (p+1) else .bad p false
def fm (ws:List Wd)(E0:Nat→Nat→Rs Ex)(p d:Nat):Rs Ex:=
 if(dn ws p).kind=1 then .ok (.mk 1 (dn ws p).n [] []) (p+1)
 else if(dn ws p).kind=2 then .ok (.mk 2 (dn ws p).n [] []) (p+1)
 else if(dn ws p).kind=3 then
  if(dn ws p).text=CB then .ok (.mk 4 0 [] []) (p+1)
  else if(dn ws p).text=CQ then bV ws E0 9 2 p d
  else if(dn ws p).text=BZ then bV ws E0 10 2 p d
  else if(dn ws p).text=FQ then bV ws E0 21 3 p d
  else(eA ws p).bind fun nm p=> .ok (.mk 3 0 nm []) p
 else if(dn ws p).kind=0 then(aT ws [E0] p d).bind fun xs p=> .ok (xs.getD 0 (.mk 0 0 [] [])) p
 else .bad p false
def dz (S:Nat→Nat→Rs Ex)(op:Int)(p d:Nat):Rs Ex:=(db p d).bind fun _ p=>(S (p+1) (d+1)).bind fun x p=> .ok (.mk op 0 [] [x]) p
def bD (ws:List Wd)(S:Nat→Nat→Rs Ex)(E0:Nat→Nat→Rs Ex)(p d:Nat):Rs Ex:=
 if rW ws p [33]=true then dz S 19 p d else if rW ws p [45]=true then dz S 20 p d else fm ws E0 p d
structure PF where
 E:Nat→Nat→Nat→Rs Ex
 L:Nat→Ex→Nat→Nat→Rs Ex
 S:Nat→Nat→Rs Ex
def lH (L:Nat→Ex→Nat→Nat→Rs Ex)(S:Nat→Nat→Rs Ex):Nat→Nat→Nat→Rs Ex
 |0,p,d=>S p d
 |j+1,p,d=>(lH L S j p d).bind fun x p=>L (4-j) x p d
def dI (ws:List Wd)(f:PF)(lvl:Nat)(left:Ex)(p d:Nat):Rs Ex:=match opAt ws lvl p with
 |none=> .ok left p
 |some op=>(f.E (lvl+1) (p+1) d).bind fun r p=>if lvl=2 then .ok (tZ op left r) p else f.L lvl (tZ op left r) p d
def FY (ws:List Wd)(f:PF):PF where
 E:=fun lvl p d=>lH (dI ws f) (bD ws f.S (f.E 0)) (5-lvl) p d
 L:=dI ws f
 S:=bD ws f.S (f.E 0)
def bH (ws:List Wd):Nat→PF
 |0=>⟨fun _ _ _=> .out,fun _ _ _ _=> .out,fun _ _=> .out⟩
 |n+1=>FY ws (bH ws n)
theorem yD (ws:List Wd)(n lvl p d:Nat)(h:lvl<5):(bH ws (n+1)).E lvl p d=((bH ws (n+1)).E (lvl+1) p d).bind fun x p=>(bH ws (n+1)).L lvl x p d:=by
 show lH (dI ws (bH ws n)) (bD ws (bH ws n).S ((bH ws n).E 0)) (5-lvl) p d=(lH (dI ws (bH ws n)) (bD ws (bH ws n).S ((bH ws n).E 0)) (5-(lvl+1)) p d).bind _;have e:5-lvl=(5-(lvl+1))+1:=by omega
 have e2:4-(5-(lvl+1))=lvl:=by omega
 rw[e,lH,e2];rfl
def cF (t:List Nat):Int × Nat × Nat:=
 if t=[103,105,118,101] then(3,0,1) else if t=[97,110,100] then(4,0,2) else if t=[111,114] then(5,0,2) else if t=[115,99,97,108,101] then(6,1,1)
 else if t=[119,104,101,110] then(7,1,1) else if t=[117,110,116,105,108] then(8,1,1) else if t=[97,110,121,116,105,109,101] then(9,1,1) else(0,0,0)
abbrev Part:=Ex ⊕ Tm
def Rs.map {α β:Type}(r:Rs α)(f:α→β):Rs β:=r.bind fun a p=> .ok (f a) p
def eO (E0:Nat→Nat→Rs Ex)(T:Nat→Nat→Rs Tm)(n m:Nat):List (Nat→Nat→Rs Part):=List.replicate n (fun p d=>(E0 p d).map .inl)++List.replicate m (fun p d=>(T p d).map .inr)
def cU (l:List Part):List Ex:=l.filterMap fun x=>match x with| .inl e=>some e| .inr _=>none
def bY (l:List Part):List Tm:=l.filterMap fun x=>match x with| .inl _=>none| .inr t=>some t
def ee (ws:List Wd)(E0:Nat→Nat→Rs Ex)(T:Nat→Nat→Rs Tm)(p d:Nat):Rs Tm:=
 if(dn ws p).kind≠3 then .bad p false
 else if(dn ws p).text=yn then .ok (.mk 1 [] [] []) (p+1)
 else if(dn ws p).text=xQ then(aT ws [fun p _=>eA ws p] (p+1) d).bind fun xs p=> .ok (.mk 2 (xs.getD 0 []) [] []) p
 else if(cF (dn ws p).text).1=0 then .bad p false
 else(aT ws (eO E0 T (cF (dn ws p).text).2.1 (cF (dn ws p).text).2.2) (p+1) d).bind fun xs q=> .ok (.mk (cF (dn ws p).text).1 [] (cU xs) (bY xs)) q
def ja (ws:List Wd):Nat→Nat→Nat→Rs Tm
 |0,_,_=> .out
 |n+1,p,d=>ee ws ((bH ws (n+1)).E 0) (ja ws n) p d
section
variable {P:Program} {ops:Array Oper} {Q:Exit→Act→World→Prop} {rest:List Oper} {o:Oper} {n d:Nat} {F F':List (Nat × Value)} {w w':World} {v:Value}
theorem Seq.cZ {I:Inhabited (List Deferred)}{f:FuncId}{args:Array Value}{R:Ending→World→Prop}(he:Enters P (eT F) o w f args)(hg:o.guard=none)(hc:Calls P f args w R)
  (h:∀e w',R e w'→∃ch,e= .panicked ch∧ae Q (.panic ch) n F w'):Seq P ops Q (o::rest) n F w:=by
 intro a ha;refine wpList_plain hg fun K hK=> ?_;unfold Oper.wp;rw[he a.eval ha.ev,Oper.upon_enter];refine hc.mono fun e w' hR=> ?_;obtain⟨ch,rfl,hp⟩:=h e w' hR;exact hp _ ha
theorem Seq.EY {I:Inhabited (List Deferred)}{x:Operand}{u:Value}(ho:o.op= .panic x)(hx:eT F x=some v)(hg:o.guard=none)(hr:(Instr.panic v).run P w= .halt (.panic u) w)(h:ae Q (.panic [{v:=u,recovered:=false}]) n F w):Seq P ops Q (o::rest) n F w:=by
 intro a ha;refine wpList_plain hg fun K hK=> ?_;unfold Oper.wp
 have:(execOp a.eval o).run P w= .halt (.panic u) w:=by
  unfold execOp;simp only[ho];rw[ha.ev _ _ hx];simp only[Sem.run_bind,hr];rfl
 rw[this,Oper.upon_panic];exact h _ ha
end
structure Fz (h g:Nat)(w w':World):Prop where
 os:w'.os=w.os
 tape:w'.tape=w.tape
 output:w'.output=w.output
 size:w.heap.size≤w'.heap.size
 block:∀k,k<h→k≠g→w'.heap[k]? =w.heap[k]?
class PutAt (E:Prop) (h g g':Nat):Prop where
 ok:E→h≤g'∨g'=g
instance {h g g':Nat}:PutAt (h≤g') h g g':=⟨.inl⟩
instance {h g g':Nat}:PutAt (g'=g) h g g':=⟨.inr⟩
section
variable {h g:Nat} {w w' w'':World}
theorem Fz.refl (h g:Nat)(w:World):Fz h g w w:=⟨rfl,rfl,rfl,Nat.le_refl _,fun _ _ _=>rfl⟩
theorem Fz.trans (a:Fz h g w w')(b:Fz h g w' w''):Fz h g w w'':=⟨b.os.trans a.os,b.tape.trans a.tape,b.output.trans a.output,Nat.le_trans a.size b.size,fun k hk hne=>(b.block k hk hne).trans (a.block k hk hne)⟩
theorem Fz.less {h':Nat}(a:Fz h g w w')(hh:h'≤h):Fz h' g w w':=⟨a.os,a.tape,a.output,a.size,fun k hk=>a.block k (by omega)⟩
theorem Fz.of (hb:Below h w w'):Fz h g w w':=⟨hb.os,hb.tape,hb.output,hb.size,fun k hk _=>hb.block k hk⟩
theorem Fz.step (a:Fz h g w w')(hb:Below w'.heap.size w' w'')(hh:h≤w.heap.size:=by exact Nat.le_refl _):Fz h g w w'':=a.trans (Fz.of (hb.mono (Nat.le_trans hh a.size)))
theorem Fz.call (a:Fz h g w w')(b:Fz w'.heap.size g w' w'')(hh:h≤w.heap.size:=by exact Nat.le_refl _):Fz h g w w'':=a.trans (b.less (Nat.le_trans hh a.size))
theorem Fz.put {g':Nat}{T:TypeId}{cur cs:Array Value}{E:Prop}[at_:PutAt E h g g'](a:Fz h g w w')(_k:aH w' g' T cur)(p:lu w' w'' g' T cs)(e:E):Fz h g w w'':=
 a.trans ⟨p.grown.os,p.grown.tape,p.grown.output,p.grown.size,fun k hk hne=>by
  rcases Nat.lt_or_ge k w'.heap.size with hs|hs
  ·exact p.grown.block k hs (fun e'=>by injection e' with e';rcases at_.ok e with h1|h1<;>omega)
  ·have h1:w'.heap[k]? =none:=by simpa using hs
   have h2:w''.heap[k]? =none:=by have:=p.size;simp;omega
   rw[h1,h2]⟩
theorem Fz.below {B:Nat}(a:Fz h g w w')(h1:B≤h)(h2:B≤g):Below B w w':=⟨a.os,a.tape,a.output,a.size,fun k hk=>a.block k (by omega) (by omega)⟩
theorem aH.fz {k:Nat}{T:TypeId}{cs:Array Value}(b:aH w k T cs)(a:Fz w.heap.size g w w')(hne:k≠g:=by omega):aH w' k T cs:=by
 have h1:=a.block k b.lt hne;unfold aH at b⊢;rw[h1];exact b
end
structure Ctx where
 B:Nat
 g:Nat
 c:Nat
 en:Nat
 A:Option Addr
 ws:List Wd
structure Ctx.Ok (K:Ctx):Prop where
 le:K.B≤K.g
 len:K.ws.length≤4000
 en:K.en≤4000
 word:∀x∈K.ws,bm x.kind∧bm x.n∧(∀c∈x.text,c<256)∧x.text.length≤4000∧x.pos≤4000
def Ctx.at_ (K:Ctx)(p:Nat):Wd:=K.ws.getD p ⟨-1,[],0,K.en⟩
def FA (x:Wd):Value:= .agg #[.int .i64 x.kind, .string (strOf x.text), .int .i64 x.n, .int .i64 (x.pos:Int)]
theorem Ctx.kj (K:Ctx)(p:Nat):(K.at_ p).kind=(dn K.ws p).kind∧(K.at_ p).text=(dn K.ws p).text∧(K.at_ p).n=(dn K.ws p).n:=by
 unfold Ctx.at_ dn;rw[List.getD_eq_getElem?_getD,List.getD_eq_getElem?_getD]
 cases K.ws[p]? <;>exact⟨rfl,rfl,rfl⟩
theorem Ctx.Ok.at_ {K:Ctx}(h:K.Ok)(p:Nat):bm (K.at_ p).kind∧bm (K.at_ p).n∧(∀c∈(K.at_ p).text,c<256)∧(K.at_ p).text.length≤4000∧(K.at_ p).pos≤4000:=by
 unfold Ctx.at_;rw[List.getD_eq_getElem?_getD]
 cases hp:K.ws[p]? with
 |none=>exact⟨show bm (-1) by unfold bm;decide,show bm 0 by unfold bm;decide,by simp,by simp,h.en⟩
 |some x=>exact h.word x (List.mem_of_getElem? hp)
structure PW (K:Ctx)(w:World)(p d:Nat)(ov:Bool):Prop where
 an:aH w K.g 219 #[.slice K.A K.ws.length K.c, .int .i64 (p:Int), .int .i64 (d:Int), .bool ov, .int .i64 (K.en:Int)]
 rd:Reads w K.B 4 K.A K.ws.length (dg K.ws)
 bJ:p≤K.ws.length
 eo:d≤64∨(ov=true∧d≤65)
theorem PW.step {K:Ctx}{w w':World}{p d:Nat}{ov:Bool}(h:PW K w p d ov)(hk:K.B≤K.g)(hb:Below w.heap.size w w'):PW K w' p d ov:=⟨h.an.step hb,h.rd.below (hb.mono (by have:=h.an.lt;omega)),h.bJ,h.eo⟩
def n0:List PanicEntry:=[{v:= .iface 261 (.agg #[]),recovered:=false}]
def vJ {α:Type}(K:Ctx)(h:Nat)(w:World)(d:Nat)(r:Rs α)(okv:α→Value→World→Prop)(e:Ending)(w':World):Prop:=
 Fz h K.g w w'∧match r with
 | .out=>False
 | .bad p ov=>e= .panicked n0∧∃d,PW K w' p d ov
 | .ok a p=>∃v,e= .returned v∧PW K w' p d false∧okv a v w'
abbrev PR {α:Type}(K:Ctx)(w:World)(d:Nat)(r:Rs α)(okv:α→Value→World→Prop)(e:Ending)(w':World):Prop:=vJ K w.heap.size w d r okv e w'
theorem aa.DP {P:Program}{E:Operand→Option Value}{o:Oper}{w:World}{x:Operand}{T:TypeId}{v u:Value}(ho:o.op= .makeInterface T x)(hx:E x=some v)(hr:(Instr.makeInterface T v).run P w= .ok u w):aa P E o w u w:=fun ρ h=>by
 unfold execOp;simp only[ho];rw[h _ _ hx];simp only[Sem.run_bind,hr,Result.andThen_ok];rfl
theorem qS (w:World):(Instr.build 261 #[]).run Tryz.prog w= .ok (.agg #[]) w:=by kernel_rfl
theorem jL (g:Nat)(w:World):Calls Tryz.prog 165 #[.pointer (some ⟨g,0,none⟩)] w fun e w'=>e= .panicked n0∧Grow w w':=by
 have ab:=Below.refl w.heap.size w;refine Zs 4 Tryz.func165 ?_;refine Zr ?_;refine Zv (aa.build rfl rfl (qS _)) ?_;refine Zv (aa.DP (u:= .iface 261 (.agg #[])) rfl rfl (by kernel_rfl)) ?_;refine Seq.EY rfl rfl rfl (by rfl) ?_;exact fun a ha=>⟨ha.defers,rfl,ab⟩
theorem ia:∀(ws:List Wd) (p:Nat) (x:Wd),ws[p]? =some x→∀(q:Nat) (u:Value),([.int .i64 x.kind, .string (strOf x.text), .int .i64 x.n, .int .i64 (x.pos:Int)]:List Value)[q]? =some u→(dg ws)[p*4+q]? =some u
 | [],p,x,h,_,_,_=>by simp at h
 |y::r,0,x,h,q,u,hu=>by
  simp at h;subst h;have hq:=(List.getElem?_eq_some_iff.1 hu).1;rw[Nat.zero_mul,Nat.zero_add];show(([.int .i64 y.kind, .string (strOf y.text), .int .i64 y.n, .int .i64 (y.pos:Int)]:List Value)++dg r)[q]? =some u;rw[List.getElem?_append_left hq];exact hu
 |y::r,p+1,x,h,q,u,hu=>by
  have ih:=ia r p x (by simpa using h) q u hu;show(([.int .i64 y.kind, .string (strOf y.text), .int .i64 y.n, .int .i64 (y.pos:Int)]:List Value)++dg r)[(p+1)*4+q]? =some u;rw[List.getElem?_append_right (by simp;omega),←ih];congr 1;simp;omega
theorem qt (a d:Int)(w:World):(Instr.build 221 #[(0, .int .i64 a),(3, .int .i64 d)]).run Tryz.prog w= .ok (.agg #[.int .i64 a, .string (strOf []), .int .i64 0, .int .i64 d]) w:=by
 have hu:=Tryz.underlying221
 go_simp
 rfl
theorem ik (K:Ctx)(hK:K.Ok)(p d:Nat)(ov:Bool)(w:World)(h:PW K w p d ov):Calls Tryz.prog 164 #[.pointer (some ⟨K.g,0,none⟩)] w fun e w'=>e= .returned (FA (K.at_ p))∧Grow w w':=by
 have ab:=Below.refl w.heap.size w;have k99:=h.an;have hrd:=h.rd;have hlt:=h.an.lt;have hBg:=hK.le;refine Zs 28 Tryz.func164 ?_;refine aj ?_;refine Zl bK ?_;intro g2 w1 n2;have e2:=Nat.le_trans ab.size n2.ge;have l2:=Nat.lt_of_lt_of_le k99.lt n2.ge;replace ab:=ab.step n2.below;replace k99:=k99.step n2.below;have k2:=n2.an;refine dF 0 2 (aI (Cd.seq ?_));refine ff 9 ?_;intro w2 hw2 zw2;replace ab:=ab.step hw2;replace k99:=k99.step hw2;replace k2:=k2.step hw2;have zbel:=ab.size;have zlt:=k2.lt;refine cf ?_;refine Zd (fun w hG=>aa.nilCheck rfl rfl) ?_;refine eV 1 Tryz.underlying219 ?_;refine dZ Tryz.underlying3 k99 ?_;refine cf ?_;refine Zd (fun w hG=>aa.nilCheck rfl rfl) ?_;refine eV 0 Tryz.underlying219 ?_;refine dZ Tryz.underlying215 k99 ?_;refine Zd (fun w hG=>aa.len rfl rfl Tryz.underlying215) ?_;refine Dr.nil ?_;refine bb.done (F':=[(0,_),(2,_),(6,_),(11,_)]) rfl ⟨rfl,rfl,rfl,rfl,trivial⟩ ?_;intro w3 hw3 fw3;replace ab:=ab.step hw3;replace k99:=k99.step hw3;replace k2:=k2.step hw3;refine eI ?_;refine bn 0 2 12 (Zt ?_);refine Cd.ak rfl (fun hc=> ?_) (fun hc=> ?_)
 ·obtain⟨ad,hA,hadb,hcell⟩:=hrd.2 (by omega)
  obtain⟨x,hx⟩:∃x,K.ws[p]? =some x:=⟨_,List.getElem?_eq_getElem (by omega)⟩;have hat:K.at_ p=x:=by unfold Ctx.at_;rw[List.getD_eq_getElem?_getD,hx];rfl
  have hce:∀W,Below w.heap.size w W→∀(q:Nat) (u:Value),([.int .i64 x.kind, .string (strOf x.text), .int .i64 x.n, .int .i64 (x.pos:Int)]:List Value)[q]? =some u→W.cell? ((ad.add (p*4)).add q)=some u:=fun W hb q u hu=>by
   rw[(hb.mono (show K.B≤w.heap.size by omega)).cell (by rw[av,av];exact hadb),gd];exact hcell _ _ (ia K.ws p x hx q u hu)
  rw[hA] at k99;refine Cd.seq ?_;refine ff 8 ?_;intro w4 hw4 zw4;replace ab:=ab.step hw4;replace k99:=k99.step hw4;replace k2:=k2.step hw4;have zbel:=ab.size;have zlt:=k2.lt;refine cf ?_;refine Zd (fun w hG=>aa.nilCheck rfl rfl) ?_;refine eV 0 Tryz.underlying219 ?_;refine dZ Tryz.underlying215 k99 ?_;refine cf ?_;refine Zd (fun w hG=>aa.nilCheck rfl rfl) ?_;refine eV 1 Tryz.underlying219 ?_;refine dZ Tryz.underlying3 k99 ?_;refine Dr.nil ?_;refine bb.done (F':=[(0,_),(2,_),(12,_),(16,_),(20,_)]) rfl ⟨rfl,rfl,rfl,rfl,rfl,trivial⟩ ?_;intro w5 hw5 fw5;replace ab:=ab.step hw5;replace k99:=k99.step hw5;replace k2:=k2.step hw5;refine Zv (aa.bI rfl rfl rfl Tryz.underlying215 (s:=4) (by kernel_rfl) (j:=p) rfl (by omega)) ?_;refine Zv (aa.ep (ps:=[.int .i64 x.kind, .string (strOf x.text), .int .i64 x.n, .int .i64 (x.pos:Int)]) rfl rfl Tryz.underlying221 rfl (m:=4) (by kernel_rfl) rfl (hce _ ab)) ?_;refine Zo 4 k2 ?_;intro w6 pw6;replace ab:=ab.put k2 pw6 e2;replace k99:=k99.put pw6 (by omega);replace k2:=pw6.an;refine bn 0 2 12 (Zt (Cd.ret (ae.af ?_)));refine gp 4 k2 Tryz.underlying221 ?_;rw[hat];exact⟨rfl,ab⟩
 ·have hat:K.at_ p=⟨-1,[],0,K.en⟩:=by
   unfold Ctx.at_;rw[List.getD_eq_getElem?_getD,List.getElem?_eq_none (by omega)];rfl
  refine Cd.skip (aB ?_);refine Zm ?_;refine Zv (aa.nilCheck rfl rfl) ?_;refine Zf 4 Tryz.underlying219 ?_;refine ZL Tryz.underlying3 k99 ?_;refine Zv (aa.build rfl rfl (qt (-1) _ _)) ?_;refine Zo 4 k2 ?_;intro w4 pw4;replace ab:=ab.put k2 pw4 e2;replace k99:=k99.put pw4 (by omega);replace k2:=pw4.an;refine bn 0 2 12 (Zt (Cd.ret ?_));refine gp 4 k2 Tryz.underlying221 ?_;rw[hat];exact⟨rfl,ab⟩
theorem A7 (K:Ctx)(hK:K.Ok)(p d:Nat)(ov:Bool)(k:Int)(s:List Nat)(w:World)(h:PW K w p d ov)(hs:∀x∈s,x<256):Calls Tryz.prog 221 #[.pointer (some ⟨K.g,0,none⟩), .int .i64 k, .string (strOf s)] w fun e w'=>e= .returned (.bool (decide ((dn K.ws p).kind=k)&&decide ((dn K.ws p).text=s)))∧Grow w w':=by
 have ab:=Below.refl w.heap.size w;obtain⟨a1,a2,a3,a4,a5⟩:=hK.at_ p;obtain⟨b1,b2,b3⟩:=K.kj p;rw[←b1,←b2];have hw:=fun W (hb:Below w.heap.size w W)=>ik K hK p d ov W (h.step hK.le hb);unfold FA at hw;refine Zs 20 Tryz.func221 ?_;refine aj ?_;refine Za ?_;refine aQ 0 1 2 6 (aB ?_);refine Zm ?_;refine Zc (Ze Tryz.func164) (hw _ ab) ?_;rintro e w5 ⟨rfl,hb5⟩;refine⟨_,rfl,?_⟩;replace ab:=ab.step hb5;refine Zl bK ?_;intro g7 w1 n7;have e7:=Nat.le_trans ab.size n7.ge;replace ab:=ab.step n7.below;have k7:=n7.an;refine Zo 4 k7 ?_;intro w2 pw2;replace ab:=ab.put k7 pw2 e7;replace k7:=pw2.an;refine aO 0 1 2 6 7 (aB ?_);refine Zf 0 Tryz.underlying221 ?_;refine ZL Tryz.underlying3 k7 ?_;refine Zm ?_;refine bC ?_;refine Zm ?_;refine aw.start ?_;refine bw (fun hcx=>aa.ar 1 rfl rfl Tryz.underlying221 rfl (by kernel_rfl)) ?_;refine Zn (fun hcx=>aa.au rfl rfl Tryz.underlying9 rfl k7 rfl) ?_;refine gq ?_;refine Zn (fun hcx=>aa.cI rfl rfl rfl a3 hs) ?_;refine fQ ?_;refine Za ?_;refine aO 0 1 2 6 7 (Zt (Cd.ret ?_));refine aZ ?_;exact⟨rfl,ab⟩
theorem PW.next {K:Ctx}{w w':World}{p d:Nat}{ov:Bool}(h:PW K w p d ov)(hK:K.B≤K.g)(hp:p+1≤K.ws.length)(ab:Fz w.heap.size K.g w w')(hb:aH w' K.g 219 #[.slice K.A K.ws.length K.c, .int .i64 ((p:Int)+1), .int .i64 (d:Int), .bool ov, .int .i64 (K.en:Int)]):PW K w' (p+1) d ov:=
 ⟨by rw[Int.natCast_add];exact hb,h.rd.below (ab.below (by have:=h.an.lt;omega) hK),hp,h.eo⟩
theorem nW (K:Ctx)(hK:K.Ok)(p d:Nat)(s:List Nat)(w:World)(h:PW K w p d false)(hs:∀x∈s,x<256):Calls Tryz.prog 208 #[.pointer (some ⟨K.g,0,none⟩), .string (strOf s)] w (PR K w d (bF K.ws s p) fun _ _ _=>True):=by
 have ab:=Fz.refl w.heap.size K.g w;have k99:=h.an;have e99:K.g=K.g:=rfl;have hlt:=h.an.lt;have hlen:=hK.len;have hle:=h.bJ;have hw:=A7 K hK p d false 0 s w h hs;have hq:bF K.ws s p=if(decide ((dn K.ws p).kind=0)&&decide ((dn K.ws p).text=s))=true then .ok () (p+1) else .bad p false:=rfl;refine Zs 17 Tryz.func208 ?_;refine Cd.seq (aj ?_);refine Zm ?_;refine Zm ?_;refine Zc (Ze Tryz.func221) (hw) ?_;rintro e w5 ⟨rfl,hb5⟩;refine⟨_,rfl,?_⟩;replace ab:=ab.step hb5;replace k99:=k99.step hb5;refine mD ?_;refine bn 0 1 7 (Zt ?_);refine Cd.cond rfl (fun hc=> ?_) (fun hc=> ?_)
 ·have hc:¬(decide ((dn K.ws p).kind=0)&&decide ((dn K.ws p).text=s))=true:=by rw[Bool.not_eq_true];simpa only[Bool.not_eq_true'] using hc
  rw[if_neg hc] at hq;refine Zr ?_;refine Zm ?_;refine Seq.cZ (Ze Tryz.func165) rfl (jL K.g _) ?_;rintro e w6 ⟨rfl,hb6⟩;refine⟨_,rfl,fun a ha=>⟨ha.defers,?_⟩⟩;rw[hq];exact⟨ab.step hb6,rfl,d,⟨k99.step hb6,h.rd.below ((ab.step hb6).below (by have:=hK.le;omega) hK.le),h.bJ,h.eo⟩⟩
 ·have hc:(decide ((dn K.ws p).kind=0)&&decide ((dn K.ws p).text=s))=true:=by simpa only[Bool.not_eq_false'] using hc
  rw[if_pos hc] at hq
  have hp:p+1≤K.ws.length:=by
   rcases Nat.lt_or_ge p K.ws.length with hp|hp
   ·exact hp
   ·simp only[Bool.and_eq_true,decide_eq_true_eq] at hc
    have h1:dn K.ws p=⟨-1,[],0,0⟩:=by unfold dn;rw[List.getD_eq_getElem?_getD,List.getElem?_eq_none hp];rfl
    rw[h1] at hc;exact absurd hc.1 (by decide)
  refine Cd.skip (eh ?_);refine Zm ?_;refine Zv (aa.nilCheck rfl rfl) ?_;refine Zf 1 Tryz.underlying219 ?_;refine ZL Tryz.underlying3 k99 ?_;refine cG ?_;refine Zv (aa.nilCheck rfl rfl) ?_;refine Zf 1 Tryz.underlying219 ?_;refine Zq k99 ?_;intro w1 pw1;replace ab:=ab.put k99 pw1 e99;replace k99:=pw1.an;refine bn 0 1 7 ?_;refine ae.gu rfl (.inr rfl) ?_;rw[hq];exact⟨ab,_,rfl,h.next hK.le hp ab k99,trivial⟩
theorem nY (K:Ctx)(hK:K.Ok)(p d:Nat)(w:World)(h:PW K w p d false):Calls Tryz.prog 209 #[.pointer (some ⟨K.g,0,none⟩)] w (PR K w (d+1) (db p d) fun _ _ _=>True):=by
 have ab:=Fz.refl w.heap.size K.g w;have k99:=h.an;have e99:K.g=K.g:=rfl;have hlt:=h.an.lt;have hde:d≤64:=by rcases h.eo with h|⟨h,-⟩;exact h;cases h
 have hle:=hK.le;have hq:db p d=if 64<d+1 then .bad p true else .ok () p:=rfl;refine Zs 19 Tryz.func209 ?_;refine aj ?_;refine Zm ?_;refine Zv (aa.nilCheck rfl rfl) ?_;refine Zf 2 Tryz.underlying219 ?_;refine ZL Tryz.underlying3 k99 ?_;refine cG ?_;refine Zv (aa.nilCheck rfl rfl) ?_;refine Zf 2 Tryz.underlying219 ?_;refine Zq k99 ?_;intro w1 pw1;replace ab:=ab.put k99 pw1 e99;replace k99:=pw1.an;refine EF 0 (aB ?_);refine Zm ?_;refine Zv (aa.nilCheck rfl rfl) ?_;refine Zf 2 Tryz.underlying219 ?_;refine ZL Tryz.underlying3 k99 ?_;refine uV ?_;refine dF 0 13 (Zt ?_);refine Cd.ak rfl (fun hc=> ?_) (fun hc=> ?_)
 ·rw[if_pos (by omega)] at hq
  refine aj ?_;refine Zm ?_;refine Zv (aa.nilCheck rfl rfl) ?_;refine Zf 3 Tryz.underlying219 ?_;refine Zq k99 ?_;intro w2 pw2;replace ab:=ab.put k99 pw2 e99;replace k99:=pw2.an;refine dF 0 13 (eh ?_);refine Zm ?_;refine Seq.cZ (Ze Tryz.func165) rfl (jL K.g _) ?_;rintro e w6 ⟨rfl,hb6⟩;refine⟨_,rfl,fun a ha=>⟨ha.defers,?_⟩⟩;rw[hq];exact⟨ab.step hb6,rfl,d+1,⟨by have:=k99.step hb6;rw[Int.natCast_add];exact this,h.rd.below ((ab.step hb6).below (by omega) hle),h.bJ, .inr ⟨rfl,by omega⟩⟩⟩
 ·rw[if_neg (by omega)] at hq
  refine Cd.skip ?_;refine ae.gu rfl (.inr rfl) ?_;rw[hq];exact⟨ab,_,rfl,⟨by rw[Int.natCast_add];exact k99,h.rd.below (ab.below (by omega) hle),h.bJ, .inl (by omega)⟩,trivial⟩
def tn (L:List (List Nat))(s:List Nat):Int:=if s∈L then(L.idxOf s:Int) else -1
theorem wE (L:List (List Nat))(s:List Nat)(A:Option Addr)(c B:Nat)(w:World)(hr:Reads w B 1 A L.length (tL L))(hB:B≤w.heap.size)(hl:L.length≤1000)(hL:∀t∈L,∀x∈t,x<256)(hs:∀x∈s,x<256):
  Calls Tryz.prog 139 #[.slice A L.length c, .string (strOf s)] w fun e w'=>e= .returned (.int .i64 (tn L s))∧Grow w w':=by
 have ab:=Below.refl w.heap.size w;refine Zs 19 Tryz.func139 ?_;refine aj ?_;refine Za ?_;refine bn 0 1 4 (aI (aj ?_));refine Zm ?_;refine Zv (aa.len rfl rfl Tryz.underlying66) ?_;refine Zm ?_;refine aO 0 1 4 7 8 (Zt (Cd.block ?_));refine Cd.loop (σ:=Nat) (fun k=>[(0, .slice A L.length c),(1, .string (strOf s)),(7, .int .i64 (L.length:Int)),(8, .int .i64 (k:Int))]) (fun k wr=>k≤L.length∧Below w.heap.size w wr∧∀t∈L.take k,t≠s) (fun k=>L.length-k) 0 ⟨Nat.zero_le _,ab,by simp⟩ ⟨rfl,rfl,rfl,rfl,trivial⟩ ?_;clear ab;rintro k wr ⟨hk,ab,hno⟩;refine aj ?_;refine eI ?_;refine aO 0 1 7 8 9 (aI ?_);refine Cd.ak rfl (fun hc=> ?_) (fun hc=> ?_)
 ·obtain⟨t,ht⟩:∃t,L[k]? =some t:=⟨_,List.getElem?_eq_getElem (by omega)⟩
  have hr:=hr.below (ab.mono hB);obtain⟨ad,rfl,-,hc⟩:=hr.2 (by omega);have hc:=hc k (.string (strOf t)) (by simp[tL,ht]);have htk:L.take (k+1)=L.take k++[t]:=by rw[List.take_add_one,ht];rfl
  refine Cd.skip (aI (Cd.block (aj ?_)));refine Zm ?_;refine Za ?_;refine aY 0 1 5 7 8 9 (aB ?_);refine Zm ?_;refine Zm ?_;refine Zm ?_;refine Zv (aa.jy rfl rfl rfl Tryz.underlying66 (by kernel_rfl) (j:=k) rfl (by omega)) ?_;refine Zv (aa.jh rfl rfl Tryz.underlying9 rfl hc) ?_;refine Zv (aa.cI rfl rfl rfl hs (hL t (List.mem_of_getElem? ht))) ?_;refine ba 0 1 5 7 8 9 16 (Zt ?_);refine Cd.ak rfl (fun hc=> ?_) (fun hc=> ?_)
  ·skip
   refine aj ?_;refine Zm ?_;refine Za ?_;refine cB 0 1 4 5 7 8 9 16 (Zt (Cd.ret (ae.ag (ae.af (ae.aX (ae.ag (ae.af ?_)))))));refine aZ ?_
   have hi:L.idxOf s=k:=by
    have hlt:=(List.getElem?_eq_some_iff.1 ht).1
    have h1:L=L.take k++t::L.drop (k+1):=by
     rw[List.getElem?_eq_getElem hlt] at ht;injection ht with ht
     rw[←ht,List.getElem_cons_drop,List.take_append_drop]
    rw[h1,List.idxOf_append,if_neg (fun hm=>hno s hm rfl),hc,List.idxOf_cons_self,List.length_take];omega
   unfold tn;rw[if_pos (by rw[hc];exact List.mem_of_getElem? ht),hi];exact⟨rfl,ab⟩
  ·skip
   refine Cd.skip (ae.ah (eh ?_));refine cG ?_;refine Zm ?_;refine ba 0 1 5 7 8 9 16 ?_;refine ae.round (k+1) ⟨rfl,rfl,rfl,rfl,trivial⟩ ⟨by omega,ab,fun u hu=> ?_⟩ (by omega);rw[htk] at hu;rcases List.mem_append.1 hu with hu|hu
   ·exact hno u hu
   ·obtain rfl:=List.mem_singleton.1 hu
    exact fun e=>hc e.symm
 ·obtain rfl:k=L.length:=by omega
  rw[List.take_of_length_le (Nat.le_refl _)] at hno;refine Cd.exit (ae.aC (ae.aA (ae.ay (aB ?_))));refine Za ?_;refine aY 0 1 4 7 8 9 (Zt (Cd.ret ?_));refine aZ ?_;unfold tn;rw[if_neg fun hm=>hno s hm rfl];exact⟨rfl,ab⟩
structure GX (w:World)(g lvl ga gb c d:Nat)(cs:Array Value):Prop where
 Gg:aH w g 248 cs
 s0:cs[lvl*3]? =some (.slice (some ⟨ga,0,none⟩) (cK lvl).length c)
 s1:cs[lvl*3+1]? =some (.slice (some ⟨gb,0,none⟩) (iu lvl).length d)
 s2:cs[lvl*3+2]? =some (.bool (decide (lvl=2)))
 sg:aH w ga 9 (tL (cK lvl)).toArray
 op:aH w gb 3 (DI (iu lvl)).toArray
theorem nZ:bW Tryz.prog 248=some (some (.agg #[.slice none 0 0, .slice none 0 0, .bool false])):=by kernel_rfl
theorem eJ (a b:Addr)(n c m d:Nat)(x:Bool)(w:World):(Instr.build 248 #[(0, .slice (some a) n c),(1, .slice (some b) m d),(2, .bool x)]).run Tryz.prog w= .ok (.agg #[.slice (some a) n c, .slice (some b) m d, .bool x]) w:=by
 have hu:=Tryz.underlying248
 go_simp
theorem qJ (w:World):Calls Tryz.prog 195 #[] w fun e w'=>∃g,e= .returned (.slice (some ⟨g,0,none⟩) 5 5)∧Grow w w'∧∀lvl,lvl<5→∃ga gb c d cs,GX w' g lvl ga gb c d cs:=by
 have ab:=Below.refl w.heap.size w;refine Zs 17 Tryz.func195 ?_;refine aj ?_;refine Za ?_;refine EF 0 (aB ?_);refine Seq.slice (vs:=[_]) (s:=1) rfl rfl rfl Tryz.underlying66 (by kernel_rfl) (bh) (by omega) (by omega) ⟨rfl,trivial⟩ rfl rfl rfl ?_;intro g1 w1 n1;have e1:=Nat.le_trans ab.size n1.ge;replace ab:=ab.step n1.below;have k1:=n1.an;refine Seq.slice (vs:=[_]) (s:=1) rfl rfl rfl Tryz.underlying96 (by kernel_rfl) (hH) (by omega) (by omega) ⟨rfl,trivial⟩ rfl rfl rfl ?_;intro g2 w2 n2;have e2:=Nat.le_trans ab.size n2.ge;have l2:=Nat.lt_of_lt_of_le k1.lt n2.ge;replace ab:=ab.step n2.below;replace k1:=k1.step n2.below;have k2:=n2.an;refine Zv (aa.build rfl rfl (eJ _ _ _ _ _ _ _ _)) ?_;refine Seq.slice (vs:=[_]) (s:=1) rfl rfl rfl Tryz.underlying66 (by kernel_rfl) (bh) (by omega) (by omega) ⟨rfl,trivial⟩ rfl rfl rfl ?_;intro g4 w3 n4;have e4:=Nat.le_trans ab.size n4.ge;have l4:=Nat.lt_of_lt_of_le k2.lt n4.ge;replace ab:=ab.step n4.below;replace k1:=k1.step n4.below;replace k2:=k2.step n4.below;have k4:=n4.an;refine Seq.slice (vs:=[_]) (s:=1) rfl rfl rfl Tryz.underlying96 (by kernel_rfl) (hH) (by omega) (by omega) ⟨rfl,trivial⟩ rfl rfl rfl ?_;intro g5 w4 n5;have e5:=Nat.le_trans ab.size n5.ge;have l5:=Nat.lt_of_lt_of_le k4.lt n5.ge;replace ab:=ab.step n5.below;replace k1:=k1.step n5.below;replace k2:=k2.step n5.below;replace k4:=k4.step n5.below;have k5:=n5.an;refine Zv (aa.build rfl rfl (eJ _ _ _ _ _ _ _ _)) ?_;refine Seq.slice (vs:=[_,_,_,_,_,_]) (s:=1) rfl rfl rfl Tryz.underlying66 (by kernel_rfl) (bh) (by omega) (by omega) ⟨rfl,rfl,rfl,rfl,rfl,rfl,trivial⟩ rfl rfl rfl ?_;intro g7 w5 n7;have e7:=Nat.le_trans ab.size n7.ge;have l7:=Nat.lt_of_lt_of_le k5.lt n7.ge;replace ab:=ab.step n7.below;replace k1:=k1.step n7.below;replace k2:=k2.step n7.below;replace k4:=k4.step n7.below;replace k5:=k5.step n7.below;have k7:=n7.an;refine Seq.slice (vs:=[_,_,_,_,_,_]) (s:=1) rfl rfl rfl Tryz.underlying96 (by kernel_rfl) (hH) (by omega) (by omega) ⟨rfl,rfl,rfl,rfl,rfl,rfl,trivial⟩ rfl rfl rfl ?_;intro g8 w6 n8;have e8:=Nat.le_trans ab.size n8.ge;have l8:=Nat.lt_of_lt_of_le k7.lt n8.ge;replace ab:=ab.step n8.below;replace k1:=k1.step n8.below;replace k2:=k2.step n8.below;replace k4:=k4.step n8.below;replace k5:=k5.step n8.below;replace k7:=k7.step n8.below;have k8:=n8.an;refine Zv (aa.build rfl rfl (eJ _ _ _ _ _ _ _ _)) ?_;refine Seq.slice (vs:=[_,_]) (s:=1) rfl rfl rfl Tryz.underlying66 (by kernel_rfl) (bh) (by omega) (by omega) ⟨rfl,rfl,trivial⟩ rfl rfl rfl ?_;intro g10 w7 n10;have e10:=Nat.le_trans ab.size n10.ge;have l10:=Nat.lt_of_lt_of_le k8.lt n10.ge;replace ab:=ab.step n10.below;replace k1:=k1.step n10.below;replace k2:=k2.step n10.below;replace k4:=k4.step n10.below;replace k5:=k5.step n10.below;replace k7:=k7.step n10.below;replace k8:=k8.step n10.below;have k10:=n10.an;refine Seq.slice (vs:=[_,_]) (s:=1) rfl rfl rfl Tryz.underlying96 (by kernel_rfl) (hH) (by omega) (by omega) ⟨rfl,rfl,trivial⟩ rfl rfl rfl ?_;intro g11 w8 n11;have e11:=Nat.le_trans ab.size n11.ge;have l11:=Nat.lt_of_lt_of_le k10.lt n11.ge;replace ab:=ab.step n11.below;replace k1:=k1.step n11.below;replace k2:=k2.step n11.below;replace k4:=k4.step n11.below;replace k5:=k5.step n11.below;replace k7:=k7.step n11.below;replace k8:=k8.step n11.below;replace k10:=k10.step n11.below;have k11:=n11.an;refine Zv (aa.build rfl rfl (eJ _ _ _ _ _ _ _ _)) ?_;refine Seq.slice (vs:=[_,_]) (s:=1) rfl rfl rfl Tryz.underlying66 (by kernel_rfl) (bh) (by omega) (by omega) ⟨rfl,rfl,trivial⟩ rfl rfl rfl ?_;intro g13 w9 n13;have e13:=Nat.le_trans ab.size n13.ge;have l13:=Nat.lt_of_lt_of_le k11.lt n13.ge;replace ab:=ab.step n13.below;replace k1:=k1.step n13.below;replace k2:=k2.step n13.below;replace k4:=k4.step n13.below;replace k5:=k5.step n13.below;replace k7:=k7.step n13.below;replace k8:=k8.step n13.below;replace k10:=k10.step n13.below;replace k11:=k11.step n13.below;have k13:=n13.an;refine Seq.slice (vs:=[_,_]) (s:=1) rfl rfl rfl Tryz.underlying96 (by kernel_rfl) (hH) (by omega) (by omega) ⟨rfl,rfl,trivial⟩ rfl rfl rfl ?_;intro g14 w10 n14;have e14:=Nat.le_trans ab.size n14.ge;have l14:=Nat.lt_of_lt_of_le k13.lt n14.ge;replace ab:=ab.step n14.below;replace k1:=k1.step n14.below;replace k2:=k2.step n14.below;replace k4:=k4.step n14.below;replace k5:=k5.step n14.below;replace k7:=k7.step n14.below;replace k8:=k8.step n14.below;replace k10:=k10.step n14.below;replace k11:=k11.step n14.below;replace k13:=k13.step n14.below;have k14:=n14.an;refine Zv (aa.build rfl rfl (eJ _ _ _ _ _ _ _ _)) ?_;refine Seq.slice (vs:=[_,_,_,_,_]) (s:=3) rfl rfl rfl Tryz.underlying244 (by kernel_rfl) (nZ) (by omega) (by omega) ⟨rfl,rfl,rfl,rfl,rfl,trivial⟩ rfl rfl rfl ?_;intro g16 w11 n16;have e16:=Nat.le_trans ab.size n16.ge;have l16:=Nat.lt_of_lt_of_le k14.lt n16.ge;replace ab:=ab.step n16.below;replace k1:=k1.step n16.below;replace k2:=k2.step n16.below;replace k4:=k4.step n16.below;replace k5:=k5.step n16.below;replace k7:=k7.step n16.below;replace k8:=k8.step n16.below;replace k10:=k10.step n16.below;replace k11:=k11.step n16.below;replace k13:=k13.step n16.below;replace k14:=k14.step n16.below;have k16:=n16.an;refine Za ?_;refine EF 0 (Zt (Cd.ret ?_));refine aZ ?_;refine⟨_,rfl,ab,fun lvl hlvl=> ?_⟩
 match lvl,hlvl with
 |0,_=>exact⟨_,_,_,_,_,k16,rfl,rfl,rfl,k1,k2⟩
 |1,_=>exact⟨_,_,_,_,_,k16,rfl,rfl,rfl,k4,k5⟩
 |2,_=>exact⟨_,_,_,_,_,k16,rfl,rfl,rfl,k7,k8⟩
 |3,_=>exact⟨_,_,_,_,_,k16,rfl,rfl,rfl,k10,k11⟩
 |4,_=>exact⟨_,_,_,_,_,k16,rfl,rfl,rfl,k13,k14⟩
theorem zx (t:List Nat)(w:World)(ht:∀x∈t,x<256):Calls Tryz.prog 169 #[.string (strOf t)] w fun e w'=>e= .returned (.tuple #[.int .i64 (cF t).1, .int .i64 ((cF t).2.1:Int), .int .i64 ((cF t).2.2:Int)])∧Grow w w':=by
 have ab:=Below.refl w.heap.size w;unfold cF;refine Zs 20 Tryz.func169 ?_;refine aj ?_;refine Za ?_;refine Za ?_;refine Za ?_;refine aQ 0 2 3 4 (aI (aj ?_));refine Zm ?_;refine aO 0 2 3 4 5 (Zt (Cd.block (aj ?_)));refine Zv (aa.cI (b:=[103,105,118,101]) rfl rfl rfl ht (by decide)) ?_;refine Za ?_;refine aY 0 2 3 4 5 6 (Zt ?_);refine Cd.ak rfl (fun hc=> ?_) (fun h0=> ?_)
 ·rw[if_pos hc]
  refine aj ?_;refine Za ?_;refine Za ?_;refine Za ?_;refine aY 0 2 3 4 5 6 (Zt (Cd.ret (ae.ag (ae.af ?_))));refine ae.nn rfl rfl rfl rfl (.inl rfl) ?_;exact⟨rfl,ab⟩
 refine aj ?_;refine Zv (aa.cI (b:=[97,110,100]) rfl rfl rfl ht (by decide)) ?_;refine Za ?_;refine ba 0 2 3 4 5 6 8 (Zt ?_);refine Cd.ak rfl (fun hc=> ?_) (fun h1=> ?_)
 ·rw[if_neg h0,if_pos hc]
  refine aj ?_;refine Za ?_;refine Za ?_;refine Za ?_;refine ba 0 2 3 4 5 6 8 (Zt (Cd.ret (ae.ag (ae.af ?_))));refine ae.nn rfl rfl rfl rfl (.inl rfl) ?_;exact⟨rfl,ab⟩
 refine aj ?_;refine Zv (aa.cI (b:=[111,114]) rfl rfl rfl ht (by decide)) ?_;refine Za ?_;refine cB 0 2 3 4 5 6 8 10 (Zt ?_);refine Cd.ak rfl (fun hc=> ?_) (fun h2=> ?_)
 ·rw[if_neg h0,if_neg h1,if_pos hc]
  refine aj ?_;refine Za ?_;refine Za ?_;refine Za ?_;refine cB 0 2 3 4 5 6 8 10 (Zt (Cd.ret (ae.ag (ae.af ?_))));refine ae.nn rfl rfl rfl rfl (.inl rfl) ?_;exact⟨rfl,ab⟩
 refine aj ?_;refine Zv (aa.cI (b:=[115,99,97,108,101]) rfl rfl rfl ht (by decide)) ?_;refine Za ?_;refine dY 0 2 3 4 5 6 8 10 12 (Zt ?_);refine Cd.ak rfl (fun hc=> ?_) (fun h3=> ?_)
 ·rw[if_neg h0,if_neg h1,if_neg h2,if_pos hc]
  refine aj ?_;refine Za ?_;refine Za ?_;refine Za ?_;refine dY 0 2 3 4 5 6 8 10 12 (Zt (Cd.ret (ae.ag (ae.af ?_))));refine ae.nn rfl rfl rfl rfl (.inl rfl) ?_;exact⟨rfl,ab⟩
 refine aj ?_;refine Zv (aa.cI (b:=[119,104,101,110]) rfl rfl rfl ht (by decide)) ?_;refine Za ?_;refine dq 0 2 3 4 5 6 8 10 12 14 (Zt ?_);refine Cd.ak rfl (fun hc=> ?_) (fun h4=> ?_)
 ·rw[if_neg h0,if_neg h1,if_neg h2,if_neg h3,if_pos hc]
  refine aj ?_;refine Za ?_;refine Za ?_;refine Za ?_;refine dq 0 2 3 4 5 6 8 10 12 14 (Zt (Cd.ret (ae.ag (ae.af ?_))));refine ae.nn rfl rfl rfl rfl (.inl rfl) ?_;exact⟨rfl,ab⟩
 refine aj ?_;refine Zv (aa.cI (b:=[117,110,116,105,108]) rfl rfl rfl ht (by decide)) ?_;refine Za ?_;refine dv 0 2 3 4 5 6 8 10 12 14 16 (Zt ?_);refine Cd.ak rfl (fun hc=> ?_) (fun h5=> ?_)
 ·rw[if_neg h0,if_neg h1,if_neg h2,if_neg h3,if_neg h4,if_pos hc]
  refine aj ?_;refine Za ?_;refine Za ?_;refine Za ?_;refine dv 0 2 3 4 5 6 8 10 12 14 16 (Zt (Cd.ret (ae.ag (ae.af ?_))));refine ae.nn rfl rfl rfl rfl (.inl rfl) ?_;exact⟨rfl,ab⟩
 refine aj ?_;refine Zv (aa.cI (b:=[97,110,121,116,105,109,101]) rfl rfl rfl ht (by decide)) ?_;refine Za ?_;refine fY 0 2 3 4 5 6 8 10 12 14 16 18 (Zt ?_);refine Cd.ak rfl (fun hc=> ?_) (fun h6=> ?_)
 ·rw[if_neg h0,if_neg h1,if_neg h2,if_neg h3,if_neg h4,if_neg h5,if_pos hc]
  refine aj ?_;refine Za ?_;refine Za ?_;refine Za ?_;refine fY 0 2 3 4 5 6 8 10 12 14 16 18 (Zt (Cd.ret (ae.ag (ae.af ?_))));refine ae.nn rfl rfl rfl rfl (.inl rfl) ?_;exact⟨rfl,ab⟩
 refine Cd.skip (ae.ah (aB ?_));refine Za ?_;refine Za ?_;refine Za ?_;refine fY 0 2 3 4 5 6 8 10 12 14 16 18 (Zt (Cd.ret ?_));refine ae.nn rfl rfl rfl rfl (.inl rfl) ?_;rw[if_neg h0,if_neg h1,if_neg h2,if_neg h3,if_neg h4,if_neg h5,if_neg h6];exact⟨rfl,ab⟩
theorem uc (K:Ctx)(hK:K.Ok)(p d:Nat)(w:World)(h:PW K w p d false):Calls Tryz.prog 168 #[.pointer (some ⟨K.g,0,none⟩)] w (PR K w d (eA K.ws p) fun nm v _=>v= .string (strOf nm)):=by
 have ab:=Fz.refl w.heap.size K.g w;have k99:=h.an;have e99:K.g=K.g:=rfl;have hlt:=h.an.lt;have hlen:=hK.len;have hle:=h.bJ;obtain⟨a1,a2,a3,a4,a5⟩:=hK.at_ p;obtain⟨b1,b2,b3⟩:=K.kj p;have hw:=fun W (hb:Below w.heap.size w W)=>ik K hK p d false W (h.step hK.le hb);unfold FA at hw;have hres:=fun W=>nz (K.at_ p).text W a3;have hq:eA K.ws p=if(K.at_ p).kind=3∧cl (K.at_ p).text=false then .ok (K.at_ p).text (p+1) else .bad p false:=by rw[b1,b2];rfl
 refine Zs 25 Tryz.func168 ?_;refine aj ?_;refine Za ?_;refine dF 0 2 (aB ?_);refine Zm ?_;refine Zc (Ze Tryz.func164) (hw _ (Below.refl _ _)) ?_;rintro e w5 ⟨rfl,hb5⟩;refine⟨_,rfl,?_⟩;replace ab:=ab.step hb5;replace k99:=k99.step hb5;refine Zl bK ?_;intro g3 w1 n3;have e3:=Nat.le_trans ab.size n3.ge;have l3:=Nat.lt_of_lt_of_le k99.lt n3.ge;replace ab:=ab.step n3.below;replace k99:=k99.step n3.below;have k3:=n3.an;refine Zo 4 k3 ?_;intro w2 pw2;replace ab:=ab.put k3 pw2 e3;replace k99:=k99.put pw2 (by omega);replace k3:=pw2.an;refine bn 0 2 3 (aI (aj ?_));refine Zf 0 Tryz.underlying221 ?_;refine ZL Tryz.underlying3 k3 ?_;refine sJ ?_;refine Zm ?_;refine aw.start ?_;refine bw (fun hcx=>aa.ar 1 rfl rfl Tryz.underlying221 rfl (by kernel_rfl)) ?_;refine Zn (fun hcx=>aa.au rfl rfl Tryz.underlying9 rfl k3 rfl) ?_;refine aw.bU rfl rfl rfl rfl rfl rfl rfl (fun hcx=>Ze Tryz.func210) (fun hcx=>hres _) ?_;intro w3 hw3;replace ab:=ab.step hw3;replace k99:=k99.step hw3;replace k3:=k3.step hw3;refine fg ?_;refine aQ 0 2 3 13 (Zt ?_);refine Cd.cond rfl (fun hc=> ?_) (fun hc=> ?_)
 ·have hc:¬((K.at_ p).kind=3∧cl (K.at_ p).text=false):=by
   rintro⟨c1,c2⟩;simp[c1,c2] at hc
  rw[if_neg hc] at hq;refine Zr ?_;refine Zm ?_;refine Seq.cZ (Ze Tryz.func165) rfl (jL K.g _) ?_;rintro e w6 ⟨rfl,hb6⟩;refine⟨_,rfl,fun a ha=>⟨ha.defers,?_⟩⟩;rw[hq];exact⟨ab.step hb6,rfl,d,⟨k99.step hb6,h.rd.below ((ab.step hb6).below (by have:=hK.le;omega) hK.le),h.bJ,h.eo⟩⟩
 ·have hc:(K.at_ p).kind=3∧cl (K.at_ p).text=false:=by
   simpa using hc
  rw[if_pos hc] at hq
  have hp:p+1≤K.ws.length:=by
   rcases Nat.lt_or_ge p K.ws.length with hp|hp
   ·exact hp
   ·have h1:(K.at_ p).kind= -1:=by unfold Ctx.at_;rw[List.getD_eq_getElem?_getD,List.getElem?_eq_none hp];rfl
    rw[h1] at hc;exact absurd hc.1 (by decide)
  refine Cd.skip (aB ?_);refine Zm ?_;refine Zv (aa.nilCheck rfl rfl) ?_;refine Zf 1 Tryz.underlying219 ?_;refine ZL Tryz.underlying3 k99 ?_;refine cG ?_;refine Zv (aa.nilCheck rfl rfl) ?_;refine Zf 1 Tryz.underlying219 ?_;refine Zq k99 ?_;intro w4 pw4;replace ab:=ab.put k99 pw4 e99;replace k3:=k3.put pw4 (by omega);replace k99:=pw4.an;refine aQ 0 2 3 13 (aB ?_);refine Zf 1 Tryz.underlying221 ?_;refine ZL Tryz.underlying9 k3 ?_;refine Za ?_;refine aQ 0 2 3 13 (Zt (Cd.ret ?_));refine aZ ?_;rw[hq];exact⟨ab,_,rfl,h.next hK.le hp ab k99,rfl⟩
theorem Ctx.Ok.FZ {K:Ctx}(hK:K.Ok){w:World}{p d:Nat}{ov:Bool}(h:PW K w p d ov):K.B≤w.heap.size:=by have:=hK.le;have:=h.an.lt;omega
theorem ri (ws:List Wd)(s:List Nat)(p:Nat):bF ws s p≠ .out:=by unfold bF;split<;>simp
theorem oK (p d:Nat):db p d≠ .out:=by unfold db;split<;>simp
theorem vG (ws:List Wd)(p:Nat):eA ws p≠ .out:=by unfold eA;split<;>simp
theorem jl {α:Type}(ws:List Wd)(one:Nat→Nat→Rs α)(r:List (Nat→Nat→Rs α))(first:Bool)(p d:Nat):bl ws (one::r) first p d=(if first=true then Rs.ok () p else bF ws [44] p).bind fun _ p=>(one p d).bind fun x p=>(bl ws r false p d).bind fun xs p=> .ok (x::xs) p:=rfl
theorem PW.deep {K:Ctx}{w:World}{p d:Nat}(h:PW K w p d false):d≤64:=by
 rcases h.eo with h|⟨h,-⟩
 ·exact h
 ·cases h
theorem vJ.mono {α:Type}{K:Ctx}{h d:Nat}{w w':World}{r:Rs α}{ok1 ok2:α→Value→World→Prop}{e:Ending}(hr:vJ K h w d r ok1 e w')(hm:∀a v w',ok1 a v w'→ok2 a v w'):vJ K h w d r ok2 e w':=by
 refine⟨hr.1,?_⟩
 cases r with
 |out=>exact hr.2
 |bad p o=>exact hr.2
 |ok a p=>obtain⟨v,h1,h2,h3⟩:=hr.2;exact⟨v,h1,h2,hm _ _ _ h3⟩
theorem j2 {α:Type}(K:Ctx)(hK:K.Ok)(h0:Nat)(aV:List (Nat→Nat→Rs α))(fs:List (Nat × List Value))(AP:Option Addr)(cP:Nat)(M:List α→World→Prop)(p d:Nat)(w:World)(h:PW K w p d false)(hh0:h0≤w.heap.size)
  (hlen:fs.length=aV.length) (hn:aV.length≤10) (hM0:M [] w) (hMs:∀(xs:List α) (W W':World) (p d:Nat),M xs W→PW K W p d false→Fz W.heap.size K.g W W'→M xs W')
  (hMr:∀(xs:List α) (W:World) (i f:Nat) (cp:List Value),M xs W→fs[i]? =some (f,cp)→∃ad,AP=some ad∧W.cell? (ad.add i)=some (.func (.func f) #[] cp.toArray))
  (heg:∀(i f:Nat) (cp:List Value),fs[i]? =some (f,cp)→∀args w,(callFunc f args).run Tryz.prog w= .ok (.enter f args) w)
  (hone:∀(i f:Nat) (cp:List Value) (one:Nat→Nat→Rs α),fs[i]? =some (f,cp)→aV[i]? =some one→∀(xs:List α) (W:World) (p:Nat),xs.length=i→PW K W p (d+1) false→h0≤W.heap.size→M xs W→one p (d+1)≠ .out→Calls Tryz.prog f cp.toArray W (vJ K h0 W (d+1) (one p (d+1)) fun x _ W'=>M (xs++[x]) W'))
  (hne:aT K.ws aV p d≠ .out):
  Calls Tryz.prog 166 #[.pointer (some ⟨K.g,0,none⟩), .slice AP fs.length cP] w (vJ K h0 w d (aT K.ws aV p d) fun xs _ W'=>M xs W'):=by
 have ab:=Fz.refl h0 K.g w;have pw:=h;have e99:K.g=K.g:=rfl;have hlt:=h.an.lt;have hle:=hK.le;obtain⟨R,hR⟩:∃R,R=aT K.ws aV p d:=⟨_,rfl⟩;rw[←hR] at hne⊢;have hRu:R=(bF K.ws [40] p).bind fun _ p=>(db p d).bind fun _ p=>(bl K.ws aV true p (d+1)).bind fun xs p=>(bF K.ws [41] p).bind fun _ p=> .ok xs p:=hR;clear hR;have hsg:=nW K hK p d [40] w h (by decide);refine Zs 33 Tryz.func166 ?_;refine aj ?_;refine Zm ?_;rcases Rs.dA (ri K.ws [40] p) with ⟨p1,o1,hr1⟩|⟨u1,p1,hr1⟩
 ·rw[hr1] at hsg hRu
  refine Seq.cZ (Ze Tryz.func208) rfl hsg ?_;rintro e w6 ⟨hf,rfl,d6,hp6⟩;refine⟨_,rfl,fun a ha=>⟨ha.defers,?_⟩⟩;rw[hRu];exact⟨hf.less hh0,rfl,d6,hp6⟩
 rw[hr1] at hsg hRu;replace hRu:R=(db p1 d).bind fun _ p=>(bl K.ws aV true p (d+1)).bind fun xs p=>(bF K.ws [41] p).bind fun _ p=> .ok xs p:=hRu;refine Zc (Ze Tryz.func208) (hsg) ?_;rintro e w5 ⟨hf5,v5,rfl,pw,-⟩;refine⟨_,rfl,?_⟩;replace ab:=ab.call hf5 hh0;have hs5:=ab.size;have hM5:=hMs _ _ _ _ _ hM0 h hf5;have hen:=nY K hK p1 d w5 pw;have pwo:=pw;refine dF 0 1 (aB ?_);refine Zm ?_;rcases Rs.dA (oK p1 d) with ⟨p2,o2,hr2⟩|⟨u2,p2,hr2⟩
 ·rw[hr2] at hen hRu
  refine Seq.cZ (Ze Tryz.func209) rfl hen ?_;rintro e w6 ⟨hf,rfl,d6,hp6⟩;refine⟨_,rfl,fun a ha=>⟨ha.defers,?_⟩⟩;rw[hRu];exact⟨ab.call hf hh0,rfl,d6,hp6⟩
 rw[hr2] at hen hRu;replace hRu:R=(bl K.ws aV true p2 (d+1)).bind fun xs p=>(bF K.ws [41] p).bind fun _ p=> .ok xs p:=hRu;refine Zc (Ze Tryz.func209) (hen) ?_;rintro e w6 ⟨hf6,v6,rfl,pw,-⟩;refine⟨_,rfl,?_⟩;replace ab:=ab.call hf6 hh0;have hs6:=ab.size;have hM6:=hMs _ _ _ _ _ hM5 pwo hf6;obtain⟨R0,hR0⟩:∃R0,R0=bl K.ws aV true p2 (d+1):=⟨_,rfl⟩;rw[←hR0] at hRu;have hne0:R0≠ .out:=Rs.fD (by rw[←hRu];exact hne);refine dF 0 1 (aI (aj ?_));refine Zm ?_;refine Zv (aa.len rfl rfl Tryz.underlying225) ?_;refine Zm ?_;refine aO 0 1 10 11 12 (Zt (Cd.block ?_))
 refine Cd.loop (σ:=Nat × Nat × List α) (fun s=>[(0, .pointer (some ⟨K.g,0,none⟩)),(10, .slice AP fs.length cP),(11, .int .i64 (fs.length:Int)),(12, .int .i64 (s.1:Int))])
  (fun s wr=>s.1≤aV.length∧PW K wr s.2.1 (d+1) false∧Fz h0 K.g w wr∧M s.2.2 wr∧s.2.2.length=s.1∧R0=(bl K.ws (aV.drop s.1) (decide (s.1=0)) s.2.1 (d+1)).bind fun ys p=> .ok (s.2.2++ys) p)
  (fun s=>aV.length-s.1) (0,p2,[]) ⟨Nat.zero_le _,pw,ab,hM6,rfl,by rw[hR0];show _=(bl K.ws aV true p2 (d+1)).bind _;cases bl K.ws aV true p2 (d+1)<;>rfl⟩ ⟨rfl,rfl,rfl,rfl,trivial⟩ ?_
 clear ab pw hM6 hM5 hM0 hR0;rintro⟨i,pi,xs⟩ wr ⟨hi,pw,ab,hM,hxl,hinv⟩;dsimp only at hi pw hM hxl hinv⊢;have hsr:=ab.size;refine aj ?_;refine eI ?_;refine aO 0 10 11 12 13 (aI ?_);refine Cd.ak rfl (fun hc=> ?_) (fun hc=> ?_)
 ·obtain⟨one,ho⟩:∃one,aV[i]? =some one:=⟨_,List.getElem?_eq_getElem (by omega)⟩
  obtain⟨⟨f,cp⟩,hfc⟩:∃f,fs[i]? =some f:=⟨_,List.getElem?_eq_getElem (by omega)⟩;obtain⟨ad,hA,hcl⟩:=hMr xs wr i f cp hM hfc
  have hdr:aV.drop i=one::aV.drop (i+1):=by
   have hlt:=(List.getElem?_eq_some_iff.1 ho).1;rw[List.drop_eq_getElem_cons hlt];rw[List.getElem?_eq_getElem hlt] at ho;injection ho with ho
   rw[ho]
  rw[hdr] at hinv;rw[hA];refine Cd.skip (aI (Cd.block (aj ?_)));refine Zm ?_;refine Zv (aa.jy rfl rfl rfl Tryz.underlying225 (by kernel_rfl) (j:=i) rfl (by omega)) ?_;refine Zv (aa.jh rfl rfl Tryz.underlying1 rfl hcl) ?_;refine Za ?_;refine Za ?_;refine ba 0 4 5 10 11 12 13 (Zt ?_);refine Cd.lB (σ:=Nat) (fun _=>[(0, .pointer (some ⟨K.g,0,none⟩)),(5, .func (.func f) #[] cp.toArray),(10, .slice (some ad) fs.length cP),(11, .int .i64 (fs.length:Int)),(12, .int .i64 (i:Int))]) (fun pj wj=>PW K wj pj (d+1) false∧Fz h0 K.g w wj∧M xs wj∧R0=(one pj (d+1)).bind fun x p=>(bl K.ws (aV.drop (i+1)) false p (d+1)).bind fun ys p=> .ok (xs++(x::ys)) p) ?_ ?_
  ·skip
   refine aj ?_;refine Zm ?_;refine uV ?_;refine cB 0 4 5 10 11 12 13 18 (Zt ?_);refine Cd.ak rfl (fun hc=> ?_) (fun hc=> ?_)
   ·have hinv:R0=(bF K.ws [44] pi).bind fun _ p=>(one p (d+1)).bind fun x p=>(bl K.ws (aV.drop (i+1)) false p (d+1)).bind fun ys p=> .ok (xs++(x::ys)) p:=by
     rw[hinv,jl,decide_eq_false (show¬i=0 by omega),if_neg (by decide)];simp only[Rs.bind_assoc];rfl
    have hsg:=nW K hK pi (d+1) [44] wr pw (by decide);have pwo:=pw;refine Zr ?_;refine Zm ?_;rcases Rs.dA (ri K.ws [44] pi) with ⟨p1,o1,hr1⟩|⟨u1,p1,hr1⟩
    ·rw[hr1] at hsg hinv
     refine Seq.cZ (Ze Tryz.func208) rfl hsg ?_;rintro e w7 ⟨hf,rfl,d6,hp6⟩;refine⟨_,rfl,fun a ha=>⟨ha.defers,?_⟩⟩;rw[hRu,hinv];exact⟨ab.call hf hh0,rfl,d6,hp6⟩
    rw[hr1] at hsg hinv;refine Zc (Ze Tryz.func208) (hsg) ?_;rintro e w7 ⟨hf7,v7,rfl,pw,-⟩;refine⟨_,rfl,?_⟩;refine cB 0 4 5 10 11 12 13 18 ?_;exact ae.join p1 ⟨rfl,rfl,rfl,rfl,rfl,trivial⟩ ⟨pw,ab.call hf7 hh0,hMs _ _ _ _ _ hM pwo hf7,hinv⟩
   ·obtain rfl:i=0:=by omega
    refine Cd.skip ?_;refine ae.join pi ⟨rfl,rfl,rfl,rfl,rfl,trivial⟩ ⟨pw,ab,hM,?_⟩;rw[hinv,jl,decide_eq_true rfl,if_pos rfl];simp only[Rs.bind_assoc,Rs.bB]
  clear ab pw hM hinv;rintro pj wj ⟨pw,ab,hM,hinv⟩;have hsj:=ab.size;have hne1:one pj (d+1)≠ .out:=Rs.fD (by rw[←hinv];exact hne0);have hcall:=hone i f cp one hfc ho xs wj pj hxl pw (by omega) hM hne1;refine Zr ?_;refine Zm ?_;rcases Rs.dA hne1 with ⟨p1,o1,hr1⟩|⟨x,p1,hr1⟩
  ·rw[hr1] at hcall hinv
   refine Seq.cZ (Enters.value (first:=[]) (cap:=cp) rfl rfl rfl (heg i f cp hfc)) rfl hcall ?_;rintro e w7 ⟨hf,rfl,d6,hp6⟩;refine⟨_,rfl,fun a ha=>⟨ha.defers,?_⟩⟩;rw[hRu,hinv];exact⟨ab.trans hf,rfl,d6,hp6⟩
  rw[hr1] at hcall hinv;refine Seq.call (Enters.value (first:=[]) (cap:=cp) rfl rfl rfl (heg i f cp hfc)) rfl rfl rfl hcall ?_;rintro e w7 ⟨hf7,v7,rfl,pw,hM⟩;refine⟨_,rfl,?_⟩;refine aO 0 5 10 11 12 (ae.ah (eh ?_));refine cG ?_;refine Zm ?_;refine aO 0 5 10 11 12 ?_;refine ae.round (i+1,p1,xs++[x]) ⟨rfl,rfl,rfl,rfl,trivial⟩ ⟨by dsimp only;omega,pw,ab.trans hf7,hM,by dsimp only;rw[List.length_append,hxl];rfl,?_⟩ (by dsimp only;omega);dsimp only;rw[hinv,decide_eq_false (show¬i+1=0 by omega),Rs.bB];simp only[List.append_assoc,List.cons_append,List.nil_append]
 ·obtain rfl:i=aV.length:=by omega
  rw[List.drop_of_length_le (Nat.le_refl _)] at hinv;have hinv:R0= .ok xs pi:=by rw[hinv];unfold bl;rw[Rs.bB,List.append_nil]
  rw[hinv] at hRu;replace hRu:R=(bF K.ws [41] pi).bind fun _ p=> .ok xs p:=hRu;have hsg:=nW K hK pi (d+1) [41] wr pw (by decide);have pwo:=pw;refine Cd.exit (ae.aC (ae.aA (ae.ay (aB ?_))));refine Zm ?_;rcases Rs.dA (ri K.ws [41] pi) with ⟨p1,o1,hr1⟩|⟨u1,p1,hr1⟩
  ·rw[hr1] at hsg hRu
   refine Seq.cZ (Ze Tryz.func208) rfl hsg ?_;rintro e w7 ⟨hf,rfl,d6,hp6⟩;refine⟨_,rfl,fun a ha=>⟨ha.defers,?_⟩⟩;rw[hRu];exact⟨ab.call hf hh0,rfl,d6,hp6⟩
  rw[hr1] at hsg hRu;refine Zc (Ze Tryz.func208) (hsg) ?_;rintro e w7 ⟨hf7,v7,rfl,pw,-⟩;refine⟨_,rfl,?_⟩;replace ab:=ab.call hf7 hh0;have hM:=hMs _ _ _ _ _ hM pwo hf7;have k99:=pw.an;have hd64:=pw.deep;have loc:=Fz.refl w7.heap.size K.g w7;refine aO 0 10 11 12 13 (eh ?_);refine Zm ?_;refine Zv (aa.nilCheck rfl rfl) ?_;refine Zf 2 Tryz.underlying219 ?_;refine ZL Tryz.underlying3 k99 ?_;refine mC ?_;refine Zv (aa.nilCheck rfl rfl) ?_;refine Zf 2 Tryz.underlying219 ?_;refine Zq k99 ?_;intro w1 pw1;replace ab:=ab.put k99 pw1 e99;replace loc:=loc.put k99 pw1 e99;replace k99:=pw1.an;refine aO 0 10 11 12 13 ?_;refine ae.gu rfl (.inr rfl) ?_;rw[hRu];have hcast:((d+1:Nat):Int)-1=(d:Int):=by omega
  rw[hcast] at k99;exact⟨ab,_,rfl,⟨k99,pw.rd.below (loc.below (hK.FZ pw) hle),pw.bJ, .inl (by omega)⟩,hMs _ _ _ _ _ hM pw loc⟩
end Go.Proofs.YtigoimhndlnhfaaGreat