/-
  Texts that were joined: TreK, TreL, KN, TreM, TreN, TreO, TreP, TrmA, TrmB, TrmC, TrmD, TrmE, TrmF, TrmG, TrmH, TrmI, TrmJ, TrmK, TrmL, TrmM, TrmN, TrmO, TrmP, ParA, PanA, PanB, PanC. Conditions: what each theorem names.
-/
import Derived.Test.YtigoimhndlnhfaaGreatE2
set_option linter.unusedSectionVars false
namespace Go.Proofs.YtigoimhndlnhfaaGreat
open Go.RowKit
theorem uv (op:Int)(w:World)(ho:bt op):Calls Tryz.prog 109 #[.int .i64 op] w fun e w'=>e= .returned (.tuple #[.string (strOf (bu op).1), .int .i64 (bu op).2])∧Grow w w':=by
 have ae:=Below.refl w.heap.size w;refine Zs 24 Tryz.func109 ?_;refine ao ?_;refine Za ?_;refine Za ?_;refine bD 0 2 3 (aG ?_);refine Seq.slice (vs:=[_,_,_,_,_,_,_,_,_,_,_,_,_,_,_,_]) (s:=1) rfl rfl rfl Tryz.underlying66 (by kernel_rfl) (bl) (by omega) (by omega) ⟨rfl,rfl,rfl,rfl,rfl,rfl,rfl,rfl,rfl,rfl,rfl,rfl,rfl,rfl,rfl,rfl,trivial⟩ rfl rfl rfl ?_;intro g6 w1 n6;have e6:=Nat.le_trans ae.size n6.ge;replace ae:=ae.step n6.below;have k6:=n6.av;refine Za ?_;refine aV 0 2 3 4 (aG ?_);refine Seq.slice (vs:=[_,_,_,_,_,_,_,_,_,_,_,_,_,_,_,_]) (s:=1) rfl rfl rfl Tryz.underlying96 (by kernel_rfl) (gy) (by omega) (by omega) ⟨rfl,rfl,rfl,rfl,rfl,rfl,rfl,rfl,rfl,rfl,rfl,rfl,rfl,rfl,rfl,rfl,trivial⟩ rfl rfl rfl ?_;intro g7 w2 n7;have e7:=Nat.le_trans ae.size n7.ge;have l7:=Nat.lt_of_lt_of_le k6.lt n7.ge;replace ae:=ae.step n7.below;replace k6:=k6.step n7.below;have k7:=n7.av;refine Za ?_;refine aU 0 2 3 4 5 (aJ (ao ?_));refine Zm ?_;refine Zv (aa.lss rfl rfl rfl) ?_;refine Zm ?_;refine ah.start ?_;refine bM (fun hcx=>aa.move rfl rfl) ?_;refine ah.next rfl rfl rfl rfl rfl rfl rfl (fun hcx=>aa.gtr rfl rfl rfl) ?_;refine ah.or rfl rfl rfl rfl rfl rfl rfl ?_;refine bj 0 2 3 4 5 13 (Zt ?_);have k6:aK w2 g6 9 (nP.map fun s=>Value.string (strOf s)).toArray:=k6;have k7:aK w2 g7 3 (nU.map fun z=>Value.int .i64 z).toArray:=k7;refine Cd.cond rfl (fun hc=> ?_) (fun hc=> ?_)
 ·have hb:bu op=([],7):=by
   unfold bu;rw[if_pos]
   simpa using hc
  refine ao ?_;refine Za ?_;refine Za ?_;refine bj 0 2 3 4 5 13 (Zt (Cd.ret (ab.af ?_)));refine ab.bf rfl rfl rfl (.inl rfl) ?_;rw[hb];exact⟨rfl,ae⟩
 ·have hn:¬(op<5∨20<op):=by simpa using hc
  have hb:bu op=(nP.getD (op-5).toNat [],nU.getD (op-5).toNat 7):=by unfold bu;rw[if_neg hn]
  obtain⟨j,hj⟩:∃j,(op-5).toNat=j:=⟨_,rfl⟩;rw[hj] at hb;have hj16:j<16:=by omega
  have hs:(nP.map fun s=>Value.string (strOf s)).toArray[j]? =some (.string (strOf (nP.getD j []))):=by
   rw[List.getElem?_toArray,List.getElem?_map,List.getD_eq_getElem?_getD,List.getElem?_eq_getElem (show j<nP.length from hj16)];rfl
  have hp:(nU.map fun z=>Value.int .i64 z).toArray[j]? =some (.int .i64 (nU.getD j 7)):=by
   rw[List.getElem?_toArray,List.getElem?_map,List.getD_eq_getElem?_getD,List.getElem?_eq_getElem (show j<nU.length from hj16)];rfl
  refine Cd.skip (aJ ?_);refine Cd.dV (F':=[(0,_),(4,_),(5,_),(13,_)]) ⟨rfl,rfl,rfl,rfl,trivial⟩ ?_;refine Cd.draw 12 (by kernel_rfl) [] (.inl rfl) rfl Grow Grow.refl (fun _ _ _=>Grow.trans) ?_;intro w3 hw3 zw3;replace ae:=ae.step hw3;replace k6:=k6.step hw3;replace k7:=k7.step hw3;have zbel:=ae.size;have zlt:=k7.lt;refine cn ?_;refine cn ?_;refine Zd (fun w hG=>aa.eU rfl rfl rfl (by omega) (by omega)) ?_;refine Zd (fun w hG=>aa.dN rfl rfl rfl Tryz.underlying66 (by kernel_rfl) (j:=j) (by omega) (by omega)) ?_;refine Zd (fun w hG=>aa.ag rfl rfl Tryz.underlying9 rfl (k6.step hG) hs) ?_;refine cn ?_;refine cn ?_;refine Zd (fun w hG=>aa.eU rfl rfl rfl (by omega) (by omega)) ?_;refine Zd (fun w hG=>aa.dN rfl rfl rfl Tryz.underlying96 (by kernel_rfl) (j:=j) (by omega) (by omega)) ?_;refine Zd (fun w hG=>aa.ag rfl rfl Tryz.underlying3 rfl (k7.step hG) hp) ?_;refine Zd (fun w hG=>aa.assign rfl rfl) ?_;refine Zd (fun w hG=>aa.assign rfl rfl) ?_;refine Dr.nil ?_;refine ba.done (F':=[(0,_),(2,_),(3,_),(4,_),(5,_),(13,_)]) rfl ⟨rfl,rfl,rfl,rfl,rfl,rfl,trivial⟩ ?_;intro w4 hw4 fw4;replace ae:=ae.step hw4;replace k6:=k6.step hw4;replace k7:=k7.step hw4;refine bj 0 2 3 4 5 13 (Zt (Cd.ret ?_));refine ab.bf rfl rfl rfl (.inl rfl) ?_;rw[hb];exact⟨rfl,ae⟩
theorem jx (l:List (List Nat))(k:Nat):(cA (l.take k)).length≤(cA l).length:=by
 cases l with
 |nil=>simp[cA]
 |cons s r=>
  cases k with
  |zero=>exact Nat.zero_le _
  |succ k=>
   rw[List.take_succ_cons]
   conv=>rhs;rw[←List.take_append_drop k r]
   simp only[cA];rw[List.flatMap_append];simp only[List.length_append];omega
theorem sX (n c:Nat)(A:Option Addr)(l:List (List Nat))(w:World)(hr:Reads w w.heap.size 1 A n (l.map fun s=> .string (strOf s)))(hn:n≤1000000)(hb:(cA l).length≤1000000):Calls Tryz.prog 113 #[.slice A n c] w fun e w'=>e= .returned (.string (strOf (cA l)))∧Grow w w':=by
 have ae:=Below.refl w.heap.size w;have hl:l.length=n:=by have:=hr.1;simpa using this
 refine Zs 22 Tryz.func113 ?_;refine ao ?_;refine Za ?_;refine eh 0 2 (aG ?_);refine Za ?_;refine bD 0 2 3 (aJ (ao ?_));refine Za ?_;refine aV 0 2 3 4 (Zt (Cd.block ?_));refine Cd.loop (σ:=Nat) (fun k=>[(0, .slice A n c),(3, .string (strOf (cA (l.take k)))),(4, .int .i64 (k:Int))]) (fun k wr=>k≤n∧Below w.heap.size w wr) (fun k=>n-k) 0 ⟨Nat.zero_le _,ae⟩ ⟨rfl,rfl,rfl,trivial⟩ ?_;clear ae;rintro k wr ⟨hk,ae⟩;have hbk:=jx l k;have hbk1:=jx l (k+1);refine Cd.seq (ao ?_);refine Zm ?_;refine Zm ?_;refine Zv (aa.len rfl rfl Tryz.underlying66) ?_;refine Zv (aa.lss rfl rfl rfl) ?_;refine aV 0 3 4 8 (Zt ?_);refine Cd.au rfl (fun hc=> ?_) (fun hc=> ?_)
 ·obtain⟨x,hx⟩:∃x,l[k]? =some x:=⟨_,List.getElem?_eq_getElem (by omega)⟩
  have htk:l.take (k+1)=l.take k++[x]:=by rw[List.take_add_one,hx];rfl
  obtain⟨ad,rfl,hbl,hcl⟩:=hr.2 (by omega);have hcl:=(ae.cell (p:=ad.add k) (by rw[aw];exact hbl)).trans (hcl k (.string (strOf x)) (by rw[List.getElem?_map,hx];rfl));rw[htk,jA] at hbk1;refine Cd.skip (aJ (Cd.block (Cd.seq (ao ?_))));refine Zm ?_;refine Zv (aa.gtr rfl rfl rfl) ?_;refine aU 0 3 4 8 12 (Zt ?_);refine Cd.au rfl (fun hc=> ?_) (fun hc=> ?_)
  ·have hne:l.take k≠ []:=fun h0=>by have:=congrArg List.length h0;rw[List.length_take,List.length_nil] at this;omega
   rw[if_neg hne] at hbk1;simp only[List.length_append,List.length_cons,List.length_nil] at hbk1;refine Zr ?_;refine Zm ?_;refine Zv (aa.dv (b:=[44,32]) rfl rfl rfl (by simp only[List.length_cons,List.length_nil];omega)) ?_;refine Za ?_;refine aU 0 3 4 8 12 (ei ?_);refine Zm ?_;refine Zm ?_;refine Zm ?_;refine Zv (aa.iM rfl rfl rfl Tryz.underlying66 (by kernel_rfl) (j:=k) rfl (by omega)) ?_;refine Zv (aa.iu rfl rfl Tryz.underlying9 rfl hcl) ?_;refine Zv ((aa.dv rfl rfl rfl (by simp only[List.length_append,List.length_cons,List.length_nil];omega)).cast (v':= .string (strOf (cA (l.take (k+1))))) (by rw[htk,jA,if_neg hne])) ?_;refine Za ?_;refine aU 0 3 4 8 12 (ab.aj (ei ?_));refine Zm ?_;refine cH ?_;refine Za ?_;refine aU 0 3 4 8 12 ?_;exact ab.round (k+1) ⟨rfl,rfl,rfl,trivial⟩ ⟨by omega,ae⟩ (by omega)
  ·obtain rfl:k=0:=by omega
   simp only[List.take_zero,if_true] at hbk1;refine Cd.skip (ei ?_);refine Zm ?_;refine Zm ?_;refine Zm ?_;refine Zv (aa.iM rfl rfl rfl Tryz.underlying66 (by kernel_rfl) (j:=0) rfl (by omega)) ?_;refine Zv (aa.iu rfl rfl Tryz.underlying9 rfl hcl) ?_;refine Zv ((aa.dv (a:=[]) (b:=x) rfl rfl rfl (by simp only[List.length_nil];omega)).cast (v':= .string (strOf (cA (l.take (0+1))))) (by rw[htk];simp[cA])) ?_;refine Za ?_;refine aU 0 3 4 8 12 (ab.aj (ei ?_));refine Zm ?_;refine cH ?_;refine Za ?_;refine aU 0 3 4 8 12 ?_;exact ab.round 1 ⟨rfl,rfl,rfl,trivial⟩ ⟨by omega,ae⟩ (by omega)
 ·obtain rfl:k=n:=by omega
  refine Cd.exit (ab.aD (ab.aA (ab.az (aG ?_))));refine Zm ?_;refine Za ?_;refine aU 0 2 3 4 8 (Zt (Cd.ret ?_));refine ab.aE rfl rfl (.inl rfl) ?_;rw[List.take_of_length_le (by omega)];exact⟨rfl,ae⟩
theorem qo (x:Ex)(least:Int)(A:Option Addr)(c:Nat)(w:World)(ho:bt x.op)(hl:(bR x).length≤100000)(hE:∀W,Below w.heap.size w W→Calls Tryz.prog 64 #[.agg #[.int .i64 x.op, .int .i64 x.n, .string (strOf x.name), .slice A x.args.length c]] W fun en w'=>en= .returned (.string (strOf (bR x)))∧Grow W w'):
  Calls Tryz.prog 112 #[.agg #[.int .i64 x.op, .int .i64 x.n, .string (strOf x.name), .slice A x.args.length c], .int .i64 least] w fun en w'=>en= .returned (.string (strOf (oc x least)))∧Grow w w':=by
 have ae:=Below.refl w.heap.size w;refine Zs 22 Tryz.func112 ?_;refine ao ?_;refine Seq.box rfl rfl rfl rfl rfl ?_;intro g2 w1 n2;have e2:=Nat.le_trans ae.size n2.ge;replace ae:=ae.step n2.below;have k2:=n2.av;refine Za ?_;refine aV 0 1 2 4 (aG ?_);refine Zf 0 Tryz.underlying105 ?_;refine Zv (aa.ag rfl rfl Tryz.underlying3 rfl k2 rfl) ?_;refine Zc (Ze Tryz.func109) (uv x.op _ ho) ?_;rintro en w5 ⟨rfl,hb5⟩;refine⟨_,rfl,?_⟩;replace ae:=ae.step hb5;replace k2:=k2.step hb5;refine Zm ?_;refine Zv (aa.extract rfl rfl rfl) ?_;refine Zv (aa.extract rfl rfl rfl) ?_;refine Za ?_;refine Za ?_;refine aU 0 1 2 4 6 (aJ (ao ?_));refine Zm ?_;refine Zm ?_;refine Zv (aa.lss rfl rfl rfl) ?_;refine bj 0 1 2 4 6 15 (Zt ?_);refine Cd.au rfl (fun hc=> ?_) (fun hc=> ?_)
 ·skip
  refine ao ?_;refine Zv (aa.aQ rfl rfl Tryz.underlying105 rfl k2 (m:=4) (by kernel_rfl) rfl) ?_;refine Zc (Ze Tryz.func64) (hE _ ae) ?_;rintro en w6 ⟨rfl,hb6⟩;refine⟨_,rfl,?_⟩;replace ae:=ae.step hb6;replace k2:=k2.step hb6;refine Zv (aa.dv (a:=[40]) rfl rfl rfl (by simp only[List.length_cons,List.length_nil];omega)) ?_;refine Zv (aa.dv (b:=[41]) rfl rfl rfl (by simp only[List.length_append,List.length_cons,List.length_nil];omega)) ?_;refine Za ?_;refine bj 0 1 2 4 6 15 (Zt (Cd.ret (ab.af ?_)));refine ab.aE rfl rfl (.inl rfl) ?_;unfold oc iJ;rw[if_pos (show(cJ x).1<least from hc)];exact⟨rfl,ae⟩
 ·skip
  refine Cd.skip (aG ?_);refine Zv (aa.aQ rfl rfl Tryz.underlying105 rfl k2 (m:=4) (by kernel_rfl) rfl) ?_;refine Zc (Ze Tryz.func64) (hE _ ae) ?_;rintro en w6 ⟨rfl,hb6⟩;refine⟨_,rfl,?_⟩;replace ae:=ae.step hb6;replace k2:=k2.step hb6;refine Za ?_;refine bj 0 1 2 4 6 15 (Zt (Cd.ret ?_));refine ab.aE rfl rfl (.inl rfl) ?_;unfold oc iJ;rw[if_neg (show¬(cJ x).1<least from hc)];exact⟨rfl,ae⟩
theorem tU (N:Nat):∀(e:Ex) (B:Nat) (v:Value) (w:World),e.nodes≤N→e.nodes≤200→bB e=true→qs w B e v→B≤w.heap.size→Calls Tryz.prog 64 #[v] w fun en w'=>en= .returned (.string (strOf (bR e)))∧Grow w w':=by
 induction N with
 |zero=>intro e B v w hN;have:=e.cO;omega
 |succ N ih=>
 intro e B v w hN h200 hbt hrep hB;obtain⟨A,c,rfl,hv⟩:=hrep.open;have hbd:=fq e.nodes e (Nat.le_refl _) hbt;obtain⟨hh,hargs⟩:=l0 hbt;obtain⟨h1,h2,h3,h4,h5,h6⟩:=nH hh;obtain⟨o1,o2,o3,o4,o5,o6⟩:=pe h1;obtain⟨b1,b2,b3,b4⟩:=lg e.op;have hT:=pd e;unfold uf at hT
 have hrec:∀i x,e.args[i]? =some x→∃ad A' c',A=some ad∧x.nodes≤200∧(bR x).length≤50*x.nodes∧bt x.op∧
   (∀W,Below w.heap.size w W→∀(j:Nat) (u:Value),([.int .i64 x.op, .int .i64 x.n, .string (strOf x.name), .slice A' x.args.length c']:List Value)[j]? =some u→W.cell? ((ad.add (i*4)).add j)=some u)∧
   (∀W,Below w.heap.size w W→Calls Tryz.prog 64 #[.agg #[.int .i64 x.op, .int .i64 x.n, .string (strOf x.name), .slice A' x.args.length c']] W fun en w'=>en= .returned (.string (strOf (bR x)))∧Grow W w'):=fun i x hx=>by
  obtain⟨ad,A',c',e1,e2,e3,e4⟩:=hv.arg i x hx;have hmem:=List.mem_of_getElem? hx;have hnd:=Ex.fS hmem;have hbx:=hargs x hmem;obtain⟨_,_,-,hvx⟩:=e3.open;exact⟨ad,A',c',e1,by omega,(fq x.nodes x (Nat.le_refl _) hbx).1,hvx.op,fun W hb j u hu=>(hb.cell (by rw[aw,aw];omega)).trans (e4 j u hu),fun W hb=>ih x B _ W (by omega) (by omega) hbx (e3.below (hb.mono hB)) (Nat.le_trans hB hb.size)⟩
 have ae:=Below.refl w.heap.size w;refine Zs 120 Tryz.func64 ?_;refine ao ?_;refine Seq.box rfl rfl rfl rfl rfl ?_;intro g1 w1 n1;have e1:=Nat.le_trans ae.size n1.ge;replace ae:=ae.step n1.below;have k1:=n1.av;refine Za ?_;refine bD 0 1 2 (aG ?_);refine Zf 0 Tryz.underlying105 ?_;refine Zv (aa.ag rfl rfl Tryz.underlying3 rfl k1 rfl) ?_;refine Zc (Ze Tryz.func109) (uv e.op _ hv.op) ?_;rintro en w5 ⟨rfl,hb5⟩;refine⟨_,rfl,?_⟩;replace ae:=ae.step hb5;replace k1:=k1.step hb5;refine Zm ?_;refine Zv (aa.extract rfl rfl rfl) ?_;refine Zv (aa.extract rfl rfl rfl) ?_;refine Za ?_;refine Za ?_;refine aU 0 1 2 3 4 (aJ (Cd.block (ao ?_)));refine Zf 0 Tryz.underlying105 ?_;refine Zv (aa.ag rfl rfl Tryz.underlying3 rfl k1 rfl) ?_;refine Zv (aa.aB rfl rfl rfl) ?_;refine Za ?_;refine bj 0 1 2 3 4 13 (Zt ?_);refine Cd.au rfl (fun c1=> ?_) (fun c1=> ?_)
 ·rw[if_pos c1] at hT
  refine ao ?_;refine Zf 1 Tryz.underlying105 ?_;refine Zv (aa.ag rfl rfl Tryz.underlying2 rfl k1 rfl) ?_;refine Zc (Ze Tryz.func110) (rY e.n _ hv.n) ?_;rintro en w6 ⟨rfl,hb6⟩;refine⟨_,rfl,?_⟩;replace ae:=ae.step hb6;replace k1:=k1.step hb6;refine Za ?_;refine bj 0 1 2 3 4 13 (Zt (Cd.ret (ab.ak (ab.af ?_))));refine ab.aE rfl rfl (.inl rfl) ?_;rw[hT];exact⟨rfl,ae⟩
 rw[if_neg c1] at hT;refine ao ?_;refine Zf 0 Tryz.underlying105 ?_;refine Zv (aa.ag rfl rfl Tryz.underlying3 rfl k1 rfl) ?_;refine Zv (aa.aB rfl rfl rfl) ?_;refine Za ?_;refine bb 0 1 2 3 4 13 20 (Zt ?_);refine Cd.au rfl (fun c2=> ?_) (fun c2=> ?_)
 ·rw[if_pos c2] at hT
  have hday:∀W,Calls Tryz.prog 111 #[.int .i64 e.n] W fun e1 w'=>e1= .returned (.string (strOf (qC e.n.toNat)))∧Grow W w':=fun W=>by
   have:=B3 e.n.toNat W (by have:=h5 c2;omega)
   rwa [Int.toNat_of_nonneg h4] at this
  refine ao ?_;refine Zf 1 Tryz.underlying105 ?_;refine Zv (aa.ag rfl rfl Tryz.underlying2 rfl k1 rfl) ?_;refine Zc (Ze Tryz.func111) (hday _) ?_;rintro en w6 ⟨rfl,hb6⟩;refine⟨_,rfl,?_⟩;replace ae:=ae.step hb6;replace k1:=k1.step hb6;refine Za ?_;refine bb 0 1 2 3 4 13 20 (Zt (Cd.ret (ab.ak (ab.af ?_))));refine ab.aE rfl rfl (.inl rfl) ?_;rw[hT];exact⟨rfl,ae⟩
 rw[if_neg c2] at hT;refine ao ?_;refine Zf 0 Tryz.underlying105 ?_;refine Zv (aa.ag rfl rfl Tryz.underlying3 rfl k1 rfl) ?_;refine Zv (aa.aB rfl rfl rfl) ?_;refine Za ?_;refine cI 0 1 2 3 4 13 20 27 (Zt ?_);refine Cd.au rfl (fun c3=> ?_) (fun c3=> ?_)
 ·rw[if_pos c3] at hT
  refine ao ?_;refine Zf 2 Tryz.underlying105 ?_;refine Zv (aa.ag rfl rfl Tryz.underlying9 rfl k1 rfl) ?_;refine Za ?_;refine cI 0 1 2 3 4 13 20 27 (Zt (Cd.ret (ab.ak (ab.af ?_))));refine ab.aE rfl rfl (.inl rfl) ?_;rw[hT];exact⟨rfl,ae⟩
 rw[if_neg c3] at hT;refine ao ?_;refine Zf 0 Tryz.underlying105 ?_;refine Zv (aa.ag rfl rfl Tryz.underlying3 rfl k1 rfl) ?_;refine Zv (aa.aB rfl rfl rfl) ?_;refine Za ?_;refine dG 0 1 2 3 4 13 20 27 33 (Zt ?_);refine Cd.au rfl (fun c4=> ?_) (fun c4=> ?_)
 ·rw[if_pos c4] at hT
  refine ao ?_;refine Za ?_;refine dG 0 1 2 3 4 13 20 27 33 (Zt (Cd.ret (ab.ak (ab.af ?_))));refine ab.aE rfl rfl (.inl rfl) ?_;rw[hT];exact⟨rfl,ae⟩
 rw[if_neg c4] at hT
 obtain⟨x,r,hxr⟩:∃x r,e.args=x::r:=by
  have:e.args.length≠0:=by omega
  cases hx:e.args with
  |nil=>rw[hx] at this;simp at this
  |cons x r=>exact⟨x,r,rfl⟩
 obtain⟨ad,A0,c0,hAd,x1,x2,x3,x4,x5⟩:=hrec 0 x (by rw[hxr];rfl);subst hAd;have hlen:1≤e.args.length:=by rw[hxr];simp
 have hg0:(e.args.map cJ).getD 0 (7,[])=cJ x:=by rw[hxr];rfl
 rw[hg0] at hT;have hin0:∀W least,Below w.heap.size w W→Calls Tryz.prog 112 #[.agg #[.int .i64 x.op, .int .i64 x.n, .string (strOf x.name), .slice A0 x.args.length c0], .int .i64 least] W fun en w'=>en= .returned (.string (strOf (oc x least)))∧Grow W w':=fun W least hb=>qo x least A0 c0 W x3 (by omega) fun W2 hb2=>x5 W2 (hb.step hb2);have hil0:∀least,(oc x least).length≤20000:=fun least=>by have:=(ku least (cJ x)).1;have e1:(cJ x).2=bR x:=rfl;rw[e1] at this;unfold oc;omega
 refine ao ?_;refine Zm ?_;refine Zv (aa.aB rfl rfl rfl) ?_;refine Za ?_;refine dg 0 1 2 3 4 13 20 27 33 37 (Zt ?_);refine Cd.au rfl (fun c5=> ?_) (fun c5=> ?_)
 ·rw[if_pos c5] at hT
  refine ao ?_;refine Zm ?_;refine Zf 3 Tryz.underlying105 ?_;refine Zv (aa.ag rfl rfl Tryz.underlying68 rfl k1 rfl) ?_;refine Zv (aa.bI rfl rfl rfl Tryz.underlying68 (s:=4) (by kernel_rfl) (j:=0) rfl (by omega)) ?_;refine Zv (aa.ef (ps:=[.int .i64 x.op, .int .i64 x.n, .string (strOf x.name), .slice A0 x.args.length c0]) rfl rfl Tryz.underlying105 rfl (m:=4) (by kernel_rfl) rfl (x4 _ ae)) ?_;refine Zc (Ze Tryz.func112) (hin0 _ 6 ae) ?_;rintro en w6 ⟨rfl,hb6⟩;refine⟨_,rfl,?_⟩;replace ae:=ae.step hb6;replace k1:=k1.step hb6;have hi6:=hil0 6;refine Zv (aa.dv rfl rfl rfl (by omega)) ?_;refine Za ?_;refine dg 0 1 2 3 4 13 20 27 33 37 (Zt (Cd.ret (ab.ak (ab.af ?_))));refine ab.aE rfl rfl (.inl rfl) ?_;rw[hT];exact⟨rfl,ae⟩
 rw[if_neg c5] at hT;refine ao ?_;refine Zm ?_;refine Zv (aa.aB rfl rfl rfl) ?_;refine Za ?_;refine dr 0 1 2 3 4 13 20 27 33 37 47 (Zt ?_)
 have hbin:(bu e.op).2<6→∃y r',r=y::r':=fun hlt=>by
  have hop:e.op≤18:=by
   rcases Int.lt_or_le 18 e.op with h|h
   ·exfalso
    have:e.op=19∨e.op=20∨e.op=21:=by omega
    rcases this with h|h|h<;>rw[h] at hlt<;>revert hlt<;>decide
   ·exact h
  have:=o4 (by omega) hop;rw[hxr] at this
  cases r with
  |nil=>simp at this
  |cons y r'=>exact⟨y,r',rfl⟩
 refine Cd.au rfl (fun c6=> ?_) (fun c6=> ?_)
 ·rw[if_pos c6] at hT
  obtain⟨y,r',rfl⟩:=hbin (by omega);obtain⟨ad',A1,c1',hAd,y1,y2,y3,y4,y5⟩:=hrec 1 y (by rw[hxr];rfl);injection hAd with hAd
  subst hAd;have hlen2:2≤e.args.length:=by rw[hxr];simp
  have hg1:(e.args.map cJ).getD 1 (7,[])=cJ y:=by rw[hxr];rfl
  rw[hg1] at hT;have hin1:∀W least,Below w.heap.size w W→Calls Tryz.prog 112 #[.agg #[.int .i64 y.op, .int .i64 y.n, .string (strOf y.name), .slice A1 y.args.length c1'], .int .i64 least] W fun en w'=>en= .returned (.string (strOf (oc y least)))∧Grow W w':=fun W least hb=>qo y least A1 c1' W y3 (by omega) fun W2 hb2=>y5 W2 (hb.step hb2);have hil1:∀least,(oc y least).length≤20000:=fun least=>by have:=(ku least (cJ y)).1;have e1:(cJ y).2=bR y:=rfl;rw[e1] at this;unfold oc;omega
  have i0:=hil0 4;have i1:=hil1 4;refine Cd.seq ?_;refine Cd.dV (F':=[(0,_),(1,_),(3,_),(4,_),(13,_),(20,_),(27,_),(33,_),(37,_),(47,_)]) ⟨rfl,rfl,rfl,rfl,rfl,rfl,rfl,rfl,rfl,rfl,trivial⟩ ?_;refine Cd.draw 16 (by kernel_rfl) [] (.inl rfl) rfl Grow Grow.refl (fun _ _ _=>Grow.trans) ?_;intro w2 hw2 zw2;replace ae:=ae.step hw2;replace k1:=k1.step hw2;have zbel:=ae.size;have zlt:=k1.lt;refine Zd (fun w hG=>aa.an 3 rfl rfl Tryz.underlying105 rfl (by kernel_rfl)) ?_;refine Zd (fun w hG=>aa.ag rfl rfl Tryz.underlying68 rfl (k1.step hG) rfl) ?_;refine Zd (fun w hG=>aa.bI rfl rfl rfl Tryz.underlying68 (s:=4) (by kernel_rfl) (j:=0) rfl (by omega)) ?_;refine Zd (fun w hG=>aa.ef (ps:=[.int .i64 x.op, .int .i64 x.n, .string (strOf x.name), .slice A0 x.args.length c0]) rfl rfl Tryz.underlying105 rfl (m:=4) (by kernel_rfl) rfl (x4 _ (ae.step hG))) ?_;refine Dr.bP rfl (fun w=>Ze Tryz.func112) rfl (fun w hG=>hin0 _ 4 (ae.step hG)) ?_;refine Zd (fun w hG=>aa.dv (b:=[32]) rfl rfl rfl (by simp only[List.length_cons,List.length_nil];omega)) ?_;refine cn ?_;refine Zd (fun w hG=>aa.dv rfl rfl rfl (by simp only[List.length_append,List.length_cons,List.length_nil];omega)) ?_;refine Zd (fun w hG=>aa.dv (b:=[32]) rfl rfl rfl (by simp only[List.length_append,List.length_cons,List.length_nil];omega)) ?_;refine Zd (fun w hG=>aa.an 3 rfl rfl Tryz.underlying105 rfl (by kernel_rfl)) ?_;refine Zd (fun w hG=>aa.ag rfl rfl Tryz.underlying68 rfl (k1.step hG) rfl) ?_;refine Zd (fun w hG=>aa.bI rfl rfl rfl Tryz.underlying68 (s:=4) (by kernel_rfl) (j:=1) rfl (by omega)) ?_;refine Zd (fun w hG=>aa.ef (ps:=[.int .i64 y.op, .int .i64 y.n, .string (strOf y.name), .slice A1 y.args.length c1']) rfl rfl Tryz.underlying105 rfl (m:=4) (by kernel_rfl) rfl (y4 _ (ae.step hG))) ?_;refine Dr.bP rfl (fun w=>Ze Tryz.func112) rfl (fun w hG=>hin1 _ 4 (ae.step hG)) ?_;refine Zd (fun w hG=>aa.dv rfl rfl rfl (by simp only[List.length_append,List.length_cons,List.length_nil];omega)) ?_;refine Zd (fun w hG=>aa.assign rfl rfl) ?_;refine Dr.nil ?_;refine ba.done (F':=[(0,_),(1,_),(2,_),(3,_),(4,_),(13,_),(20,_),(27,_),(33,_),(37,_),(47,_)]) rfl ⟨rfl,rfl,rfl,rfl,rfl,rfl,rfl,rfl,rfl,rfl,rfl,trivial⟩ ?_;intro w3 hw3 fw3;replace ae:=ae.step hw3;replace k1:=k1.step hw3;refine dr 0 1 2 3 4 13 20 27 33 37 47 (Zt (Cd.ret (ab.ak (ab.af ?_))));refine ab.aE rfl rfl (.inl rfl) ?_;rw[hT];exact⟨rfl,ae⟩
 rw[if_neg c6] at hT;refine ao ?_;refine Zm ?_;refine Zv (aa.lss rfl rfl rfl) ?_;refine Za ?_;refine fG 0 1 2 3 4 13 20 27 33 37 47 65 (Zt ?_);refine Cd.au rfl (fun c7=> ?_) (fun c7=> ?_)
 ·rw[if_pos c7] at hT
  obtain⟨y,r',rfl⟩:=hbin c7;obtain⟨ad',A1,c1',hAd,y1,y2,y3,y4,y5⟩:=hrec 1 y (by rw[hxr];rfl);injection hAd with hAd
  subst hAd;have hlen2:2≤e.args.length:=by rw[hxr];simp
  have hg1:(e.args.map cJ).getD 1 (7,[])=cJ y:=by rw[hxr];rfl
  rw[hg1] at hT;have hin1:∀W least,Below w.heap.size w W→Calls Tryz.prog 112 #[.agg #[.int .i64 y.op, .int .i64 y.n, .string (strOf y.name), .slice A1 y.args.length c1'], .int .i64 least] W fun en w'=>en= .returned (.string (strOf (oc y least)))∧Grow W w':=fun W least hb=>qo y least A1 c1' W y3 (by omega) fun W2 hb2=>y5 W2 (hb.step hb2);have hil1:∀least,(oc y least).length≤20000:=fun least=>by have:=(ku least (cJ y)).1;have e1:(cJ y).2=bR y:=rfl;rw[e1] at this;unfold oc;omega
  have i0:=hil0 (bu e.op).2;have i1:=hil1 ((bu e.op).2+1);refine Cd.seq ?_;refine Cd.dV (F':=[(0,_),(1,_),(3,_),(4,_),(13,_),(20,_),(27,_),(33,_),(37,_),(47,_),(65,_)]) ⟨rfl,rfl,rfl,rfl,rfl,rfl,rfl,rfl,rfl,rfl,rfl,trivial⟩ ?_;refine Cd.draw 19 (by kernel_rfl) [] (.inl rfl) rfl Grow Grow.refl (fun _ _ _=>Grow.trans) ?_;intro w2 hw2 zw2;replace ae:=ae.step hw2;replace k1:=k1.step hw2;have zbel:=ae.size;have zlt:=k1.lt;refine Zd (fun w hG=>aa.an 3 rfl rfl Tryz.underlying105 rfl (by kernel_rfl)) ?_;refine Zd (fun w hG=>aa.ag rfl rfl Tryz.underlying68 rfl (k1.step hG) rfl) ?_;refine Zd (fun w hG=>aa.bI rfl rfl rfl Tryz.underlying68 (s:=4) (by kernel_rfl) (j:=0) rfl (by omega)) ?_;refine Zd (fun w hG=>aa.ef (ps:=[.int .i64 x.op, .int .i64 x.n, .string (strOf x.name), .slice A0 x.args.length c0]) rfl rfl Tryz.underlying105 rfl (m:=4) (by kernel_rfl) rfl (x4 _ (ae.step hG))) ?_;refine cn ?_;refine Dr.bP rfl (fun w=>Ze Tryz.func112) rfl (fun w hG=>hin0 _ (bu e.op).2 (ae.step hG)) ?_;refine Zd (fun w hG=>aa.dv (b:=[32]) rfl rfl rfl (by simp only[List.length_cons,List.length_nil];omega)) ?_;refine cn ?_;refine Zd (fun w hG=>aa.dv rfl rfl rfl (by simp only[List.length_append,List.length_cons,List.length_nil];omega)) ?_;refine Zd (fun w hG=>aa.dv (b:=[32]) rfl rfl rfl (by simp only[List.length_append,List.length_cons,List.length_nil];omega)) ?_;refine Zd (fun w hG=>aa.an 3 rfl rfl Tryz.underlying105 rfl (by kernel_rfl)) ?_;refine Zd (fun w hG=>aa.ag rfl rfl Tryz.underlying68 rfl (k1.step hG) rfl) ?_;refine Zd (fun w hG=>aa.bI rfl rfl rfl Tryz.underlying68 (s:=4) (by kernel_rfl) (j:=1) rfl (by omega)) ?_;refine Zd (fun w hG=>aa.ef (ps:=[.int .i64 y.op, .int .i64 y.n, .string (strOf y.name), .slice A1 y.args.length c1']) rfl rfl Tryz.underlying105 rfl (m:=4) (by kernel_rfl) rfl (y4 _ (ae.step hG))) ?_;refine cn ?_;refine Zd (fun w hG=>aa.jH rfl rfl rfl (by omega) (by omega)) ?_;refine Dr.bP rfl (fun w=>Ze Tryz.func112) rfl (fun w hG=>hin1 _ ((bu e.op).2+1) (ae.step hG)) ?_;refine Zd (fun w hG=>aa.dv rfl rfl rfl (by simp only[List.length_append,List.length_cons,List.length_nil];omega)) ?_;refine Zd (fun w hG=>aa.assign rfl rfl) ?_;refine Dr.nil ?_;refine ba.done (F':=[(0,_),(1,_),(2,_),(3,_),(4,_),(13,_),(20,_),(27,_),(33,_),(37,_),(47,_),(65,_)]) rfl ⟨rfl,rfl,rfl,rfl,rfl,rfl,rfl,rfl,rfl,rfl,rfl,rfl,trivial⟩ ?_;intro w3 hw3 fw3;replace ae:=ae.step hw3;replace k1:=k1.step hw3;refine fG 0 1 2 3 4 13 20 27 33 37 47 65 (Zt (Cd.ret (ab.ak (ab.af ?_))));refine ab.aE rfl rfl (.inl rfl) ?_;rw[hT];exact⟨rfl,ae⟩
 rw[if_neg c7,iW] at hT
 have hjl:(cA (e.args.map bR)).length≤20000:=by
  have:=ld e.args fun z hz=>(fq z.nodes z (Nat.le_refl _) (hargs z hz)).1;have hn:e.nodes=1+aM e.args:=by cases e;exact Ex.dI _ _ _ _
  have:e.args.length≤3:=by omega
  omega
 have hl3:e.args.length≤3:=by omega
 refine Cd.skip (ab.aj (aG ?_));refine Za ?_;refine gF 0 1 2 3 4 5 13 20 27 33 37 47 65 (aJ (ao ?_));refine Za ?_;refine jk 0 1 2 3 4 5 6 13 20 27 33 37 47 65 (Zt (Cd.block ?_));refine Cd.loop (σ:=Nat × Value) (fun s=>[(1, .pointer (some ⟨g1,0,none⟩)),(5,s.2),(6, .int .i64 (s.1:Int))]) (fun s wr=>s.1≤e.args.length∧Below w.heap.size w wr∧aK wr g1 105 #[.int .i64 e.op, .int .i64 e.n, .string (strOf e.name), .slice (some ad) e.args.length c]∧Own wr w.heap.size 9 1 s.2 s.1 ((e.args.take s.1).map fun x=> .string (strOf (bR x)))) (fun s=>e.args.length-s.1) (0, .slice none 0 0) ⟨Nat.zero_le _,ae,k1,Own.nil _ _ _ _⟩ ⟨rfl,rfl,rfl,trivial⟩ ?_;clear ae k1;rintro⟨k,v⟩ wr ⟨hk,ae,k1,own⟩;dsimp only at hk own⊢;refine Cd.seq (ao ?_);refine Zm ?_;refine Zf 3 Tryz.underlying105 ?_;refine Zv (aa.ag rfl rfl Tryz.underlying68 rfl k1 rfl) ?_;refine Zv (aa.len rfl rfl Tryz.underlying68) ?_;refine Zv (aa.lss rfl rfl rfl) ?_;refine aV 1 5 6 90 (Zt ?_);refine Cd.au rfl (fun hc=> ?_) (fun hc=> ?_)
 ·obtain⟨y,hy⟩:∃y,e.args[k]? =some y:=⟨_,List.getElem?_eq_getElem (by omega)⟩
  obtain⟨ad',A1,c1',hAd,y1,y2,y3,y4,y5⟩:=hrec k y hy;injection hAd with hAd
  subst hAd;have htk:e.args.take (k+1)=e.args.take k++[y]:=by rw[List.take_add_one,hy];rfl
  refine Cd.skip (aJ (Cd.block (Zr ?_)));refine Zm ?_;refine Zf 3 Tryz.underlying105 ?_;refine Zv (aa.ag rfl rfl Tryz.underlying68 rfl k1 rfl) ?_;refine Zm ?_;refine Zv (aa.bI rfl rfl rfl Tryz.underlying68 (s:=4) (by kernel_rfl) (j:=k) rfl (by omega)) ?_;refine Zv (aa.ef (ps:=[.int .i64 y.op, .int .i64 y.n, .string (strOf y.name), .slice A1 y.args.length c1']) rfl rfl Tryz.underlying105 rfl (m:=4) (by kernel_rfl) rfl (y4 _ ae)) ?_;refine Zc (Ze Tryz.func64) (y5 _ ae) ?_;rintro en w6 ⟨rfl,hb6⟩;refine⟨_,rfl,?_⟩;replace ae:=ae.step hb6;replace k1:=k1.step hb6;replace own:=own.step hb6;refine Seq.slice (vs:=[_]) (s:=1) rfl rfl rfl Tryz.underlying66 (by kernel_rfl) (bl) (by omega) (by omega) ⟨rfl,trivial⟩ rfl rfl rfl ?_;intro g100 w2 n100;have e100:=Nat.le_trans ae.size n100.ge;have l100:=Nat.lt_of_lt_of_le k1.lt n100.ge;replace ae:=ae.step n100.below;replace k1:=k1.step n100.below;replace own:=own.step n100.below;have k100:=n100.av;refine Seq.append rfl rfl rfl Tryz.underlying66 (by kernel_rfl) bl rfl (by decide) (b:=16) (by kernel_rfl) own (Reads.av k100 1 rfl) (by intro x hx;simp[aP,Value.cells] at hx;rw[hx];rfl) ae.size (by simp only[maxLen];omega) (by omega) rfl rfl rfl ?_;intro vw3 w3 ow3 haw3
  try replace k1:=k1.app own haw3
  try replace k100:=k100.app own haw3
  clear own;have own:=ow3;replace ae:=ae.trans haw3.below;refine Za ?_;refine aV 1 5 6 90 (ab.aj (ei ?_));refine Zm ?_;refine cH ?_;refine Za ?_;refine aV 1 5 6 90 ?_;refine ab.round (k+1,_) ⟨rfl,rfl,rfl,trivial⟩ ⟨by dsimp only;omega,ae,k1,?_⟩ (by dsimp only;omega);dsimp only;rw[htk,List.map_append];exact own
 ·obtain rfl:k=e.args.length:=by omega
  rw[List.take_of_length_le (Nat.le_refl _)] at own;obtain⟨A2,c2,rfl,rd⟩:=own.reads;have hjoin:∀W,Below wr.heap.size wr W→Calls Tryz.prog 113 #[.slice A2 e.args.length c2] W fun en w'=>en= .returned (.string (strOf (cA (e.args.map bR))))∧Grow W w':=fun W hb=>sX e.args.length c2 A2 (e.args.map bR) W (by rw[List.map_map];exact(rd.below hb).more hb.size) (by omega) (by omega);have hloc:=Below.refl wr.heap.size wr;refine Cd.exit (ab.aD (ab.aA (ab.az (aJ (ao ?_)))));refine Zf 0 Tryz.underlying105 ?_;refine Zv (aa.ag rfl rfl Tryz.underlying3 rfl k1 rfl) ?_;refine Zv (aa.aB rfl rfl rfl) ?_;refine aU 1 5 6 90 104 (Zt ?_);refine Cd.au rfl (fun c9=> ?_) (fun c9=> ?_)
  ·rw[if_pos c9] at hT
   refine ao ?_;refine Zm ?_;refine Zc (Ze Tryz.func113) (hjoin _ hloc) ?_;rintro en w6 ⟨rfl,hb6⟩;refine⟨_,rfl,?_⟩;replace ae:=ae.step hb6;replace k1:=k1.step hb6;replace hloc:=hloc.step hb6;refine Zv (aa.dv (a:=[109,105,110,40]) rfl rfl rfl (by simp only[List.length_cons,List.length_nil];omega)) ?_;refine Zv (aa.dv (b:=[41]) rfl rfl rfl (by simp only[List.length_append,List.length_cons,List.length_nil];omega)) ?_;refine Za ?_;refine bj 1 2 5 6 90 104 (Zt (Cd.ret (ab.af ?_)));refine ab.aE rfl rfl (.inl rfl) ?_;rw[hT];exact⟨rfl,ae⟩
  rw[if_neg c9] at hT;refine Cd.skip (aJ (ao ?_));refine Zf 0 Tryz.underlying105 ?_;refine Zv (aa.ag rfl rfl Tryz.underlying3 rfl k1 rfl) ?_;refine Zv (aa.aB rfl rfl rfl) ?_;refine bj 1 5 6 90 104 111 (Zt ?_);refine Cd.au rfl (fun c10=> ?_) (fun c10=> ?_)
  ·rw[if_pos c10] at hT
   refine ao ?_;refine Zm ?_;refine Zc (Ze Tryz.func113) (hjoin _ hloc) ?_;rintro en w6 ⟨rfl,hb6⟩;refine⟨_,rfl,?_⟩;replace ae:=ae.step hb6;replace k1:=k1.step hb6;replace hloc:=hloc.step hb6;refine Zv (aa.dv (a:=[109,97,120,40]) rfl rfl rfl (by simp only[List.length_cons,List.length_nil];omega)) ?_;refine Zv (aa.dv (b:=[41]) rfl rfl rfl (by simp only[List.length_append,List.length_cons,List.length_nil];omega)) ?_;refine Za ?_;refine bb 1 2 5 6 90 104 111 (Zt (Cd.ret (ab.af ?_)));refine ab.aE rfl rfl (.inl rfl) ?_;rw[hT];exact⟨rfl,ae⟩
  ·rw[if_neg c10] at hT
   refine Cd.skip (aG ?_);refine Zm ?_;refine Zc (Ze Tryz.func113) (hjoin _ hloc) ?_;rintro en w6 ⟨rfl,hb6⟩;refine⟨_,rfl,?_⟩;replace ae:=ae.step hb6;replace k1:=k1.step hb6;replace hloc:=hloc.step hb6;refine Zv (aa.dv (a:=[105,102,40]) rfl rfl rfl (by simp only[List.length_cons,List.length_nil];omega)) ?_;refine Zv (aa.dv (b:=[41]) rfl rfl rfl (by simp only[List.length_append,List.length_cons,List.length_nil];omega)) ?_;refine Za ?_;refine bb 1 2 5 6 90 104 111 (Zt (Cd.ret ?_));refine ab.aE rfl rfl (.inl rfl) ?_;rw[hT];exact⟨rfl,ae⟩
section
variable {P:Program} {Q:Exit→Act→World→Prop} {n:Nat} {F F':List (Nat × Value)} {w:World}
def zR (n:Nat)(F:List (Nat × Value))(J:Inhabited (List Deferred)→World→Prop)(a:Act)(w:World):Prop:=∃I,@Fr I n F a∧J I w
theorem Cd.EJ {x y:Code}(F':List (Nat × Value))(J:Inhabited (List Deferred)→World→Prop)(hx:Cd P x (Exit.then (zR n F' J) Q) n F w)(hy:∀I w,J I w→ @Cd I P y Q n F' w):Cd P (.seq x y) Q n F w:=
 fun a ha=>wp_seq (Code.wp_mono (fun e a w q=>by
  cases e with
  |normal=>obtain⟨I,hF,hJ⟩:=q;exact hy I w hJ a hF
  |exit id=>exact q
  |goto l=>exact q
  |ret=>exact q
  |panic ch=>exact q
  |outgrown=>exact q) (hx a ha))
theorem ab.CX {I:Inhabited (List Deferred)}{J:Inhabited (List Deferred)→World→Prop}(hs:Sub F' F)(hJ:J I w): @ab I (Exit.then (zR n F' J) Q) .normal n F w:=fun _ ha=>⟨I,ha.sub hs,hJ⟩
end
theorem uS (op:Int)(w:World):Calls Tryz.prog 181 #[.int .i64 op] w fun e w'=>e= .returned (.tuple #[.string (strOf (bu op).1), .int .i64 (bu op).2])∧Grow w w':=by
 have ae:=Below.refl w.heap.size w;refine Zs 33 Tryz.func181 ?_;refine ao ?_;refine Za ?_;refine Za ?_;refine bD 0 2 3 (aJ (ao ?_));refine Zm ?_;refine aV 0 2 3 4 (Zt (Cd.block (ao ?_)));refine Zv (aa.aB rfl rfl rfl) ?_;refine Za ?_;refine aU 0 2 3 4 5 (Zt ?_);refine Cd.au rfl (fun h18=> ?_) (fun h18=> ?_)
 ·skip
  refine ao ?_;refine Za ?_;refine Za ?_;refine aU 0 2 3 4 5 (Zt (Cd.ret (ab.ak (ab.af ?_))));refine ab.bf rfl rfl rfl (.inl rfl) ?_;subst h18;exact⟨rfl,ae⟩
 refine ao ?_;refine Zv (aa.aB rfl rfl rfl) ?_;refine Za ?_;refine bj 0 2 3 4 5 7 (Zt ?_);refine Cd.au rfl (fun h17=> ?_) (fun h17=> ?_)
 ·skip
  refine ao ?_;refine Za ?_;refine Za ?_;refine bj 0 2 3 4 5 7 (Zt (Cd.ret (ab.ak (ab.af ?_))));refine ab.bf rfl rfl rfl (.inl rfl) ?_;subst h17;exact⟨rfl,ae⟩
 refine ao ?_;refine Zv (aa.aB rfl rfl rfl) ?_;refine Za ?_;refine bb 0 2 3 4 5 7 9 (Zt ?_);refine Cd.au rfl (fun h11=> ?_) (fun h11=> ?_)
 ·skip
  refine ao ?_;refine Za ?_;refine Za ?_;refine bb 0 2 3 4 5 7 9 (Zt (Cd.ret (ab.ak (ab.af ?_))));refine ab.bf rfl rfl rfl (.inl rfl) ?_;subst h11;exact⟨rfl,ae⟩
 refine ao ?_;refine Zv (aa.aB rfl rfl rfl) ?_;refine Za ?_;refine cI 0 2 3 4 5 7 9 11 (Zt ?_);refine Cd.au rfl (fun h12=> ?_) (fun h12=> ?_)
 ·skip
  refine ao ?_;refine Za ?_;refine Za ?_;refine cI 0 2 3 4 5 7 9 11 (Zt (Cd.ret (ab.ak (ab.af ?_))));refine ab.bf rfl rfl rfl (.inl rfl) ?_;subst h12;exact⟨rfl,ae⟩
 refine ao ?_;refine Zv (aa.aB rfl rfl rfl) ?_;refine Za ?_;refine dG 0 2 3 4 5 7 9 11 13 (Zt ?_);refine Cd.au rfl (fun h13=> ?_) (fun h13=> ?_)
 ·skip
  refine ao ?_;refine Za ?_;refine Za ?_;refine dG 0 2 3 4 5 7 9 11 13 (Zt (Cd.ret (ab.ak (ab.af ?_))));refine ab.bf rfl rfl rfl (.inl rfl) ?_;subst h13;exact⟨rfl,ae⟩
 refine ao ?_;refine Zv (aa.aB rfl rfl rfl) ?_;refine Za ?_;refine dg 0 2 3 4 5 7 9 11 13 15 (Zt ?_);refine Cd.au rfl (fun h14=> ?_) (fun h14=> ?_)
 ·skip
  refine ao ?_;refine Za ?_;refine Za ?_;refine dg 0 2 3 4 5 7 9 11 13 15 (Zt (Cd.ret (ab.ak (ab.af ?_))));refine ab.bf rfl rfl rfl (.inl rfl) ?_;subst h14;exact⟨rfl,ae⟩
 refine ao ?_;refine Zv (aa.aB rfl rfl rfl) ?_;refine Za ?_;refine dr 0 2 3 4 5 7 9 11 13 15 17 (Zt ?_);refine Cd.au rfl (fun h15=> ?_) (fun h15=> ?_)
 ·skip
  refine ao ?_;refine Za ?_;refine Za ?_;refine dr 0 2 3 4 5 7 9 11 13 15 17 (Zt (Cd.ret (ab.ak (ab.af ?_))));refine ab.bf rfl rfl rfl (.inl rfl) ?_;subst h15;exact⟨rfl,ae⟩
 refine ao ?_;refine Zv (aa.aB rfl rfl rfl) ?_;refine Za ?_;refine fG 0 2 3 4 5 7 9 11 13 15 17 19 (Zt ?_);refine Cd.au rfl (fun h16=> ?_) (fun h16=> ?_)
 ·skip
  refine ao ?_;refine Za ?_;refine Za ?_;refine fG 0 2 3 4 5 7 9 11 13 15 17 19 (Zt (Cd.ret (ab.ak (ab.af ?_))));refine ab.bf rfl rfl rfl (.inl rfl) ?_;subst h16;exact⟨rfl,ae⟩
 refine ao ?_;refine Zv (aa.aB rfl rfl rfl) ?_;refine Za ?_;refine gF 0 2 3 4 5 7 9 11 13 15 17 19 21 (Zt ?_);refine Cd.au rfl (fun h5=> ?_) (fun h5=> ?_)
 ·skip
  refine ao ?_;refine Za ?_;refine Za ?_;refine gF 0 2 3 4 5 7 9 11 13 15 17 19 21 (Zt (Cd.ret (ab.ak (ab.af ?_))));refine ab.bf rfl rfl rfl (.inl rfl) ?_;subst h5;exact⟨rfl,ae⟩
 refine ao ?_;refine Zv (aa.aB rfl rfl rfl) ?_;refine Za ?_;refine jk 0 2 3 4 5 7 9 11 13 15 17 19 21 23 (Zt ?_);refine Cd.au rfl (fun h6=> ?_) (fun h6=> ?_)
 ·skip
  refine ao ?_;refine Za ?_;refine Za ?_;refine jk 0 2 3 4 5 7 9 11 13 15 17 19 21 23 (Zt (Cd.ret (ab.ak (ab.af ?_))));refine ab.bf rfl rfl rfl (.inl rfl) ?_;subst h6;exact⟨rfl,ae⟩
 refine ao ?_;refine Zv (aa.aB rfl rfl rfl) ?_;refine Za ?_;refine sd 0 2 3 4 5 7 9 11 13 15 17 19 21 23 25 (Zt ?_);refine Cd.au rfl (fun h7=> ?_) (fun h7=> ?_)
 ·skip
  refine ao ?_;refine Za ?_;refine Za ?_;refine sd 0 2 3 4 5 7 9 11 13 15 17 19 21 23 25 (Zt (Cd.ret (ab.ak (ab.af ?_))));refine ab.bf rfl rfl rfl (.inl rfl) ?_;subst h7;exact⟨rfl,ae⟩
 refine ao ?_;refine Zv (aa.aB rfl rfl rfl) ?_;refine Za ?_;refine mN 0 2 3 4 5 7 9 11 13 15 17 19 21 23 25 27 (Zt ?_);refine Cd.au rfl (fun h8=> ?_) (fun h8=> ?_)
 ·skip
  refine ao ?_;refine Za ?_;refine Za ?_;refine mN 0 2 3 4 5 7 9 11 13 15 17 19 21 23 25 27 (Zt (Cd.ret (ab.ak (ab.af ?_))));refine ab.bf rfl rfl rfl (.inl rfl) ?_;subst h8;exact⟨rfl,ae⟩
 refine ao ?_;refine Zv (aa.aB rfl rfl rfl) ?_;refine Za ?_;refine DU 0 2 3 4 5 7 9 11 13 15 17 19 21 23 25 27 29 (Zt ?_);refine Cd.au rfl (fun h19=> ?_) (fun h19=> ?_)
 ·skip
  refine ao ?_;refine Za ?_;refine Za ?_;refine DU 0 2 3 4 5 7 9 11 13 15 17 19 21 23 25 27 29 (Zt (Cd.ret (ab.ak (ab.af ?_))));refine ab.bf rfl rfl rfl (.inl rfl) ?_;subst h19;exact⟨rfl,ae⟩
 refine ao ?_;refine Zv (aa.aB rfl rfl rfl) ?_;refine Za ?_;refine C4 0 2 3 4 5 7 9 11 13 15 17 19 21 23 25 27 29 31 (Zt ?_);refine Cd.au rfl (fun h20=> ?_) (fun h20=> ?_)
 ·skip
  refine ao ?_;refine Za ?_;refine Za ?_;refine C4 0 2 3 4 5 7 9 11 13 15 17 19 21 23 25 27 29 31 (Zt (Cd.ret (ab.ak (ab.af ?_))));refine ab.bf rfl rfl rfl (.inl rfl) ?_;subst h20;exact⟨rfl,ae⟩
 refine Cd.skip (ab.aj (aG ?_));refine Za ?_;refine Za ?_;refine C4 0 2 3 4 5 7 9 11 13 15 17 19 21 23 25 27 29 31 (Zt (Cd.ret ?_));refine ab.bf rfl rfl rfl (.inl rfl) ?_
 have hb:bu op=([],7):=by
  unfold bu
  by_cases h:op<5∨20<op
  ·rw[if_pos h]
  ·have:op=9∨op=10:=by omega
   rcases this with rfl|rfl<;>rfl
 rw[hb];exact⟨rfl,ae⟩
theorem tC (B g f n:Nat)(cp:List Value)(word bs:List Nat)(ts:List (List Nat))(w:World)(h:Bw w B g bs)(hw:∀d∈word,d<256)(hwl:word.length≤100)(hn:ts.length=n)(hn9:n≤1000)(hts:∀t∈ts,∀d∈t,d<256)(hj:(cA ts).length≤20000)(hl:bs.length≤900000000)
  (eg:∀args w,(callFunc f args).run Tryz.prog w= .ok (.enter f args) w)
  (one:∀(i:Nat) (t:List Nat),ts[i]? =some t→∀W bs',Wt B w W→Bw W B g bs'→bs'.length≤bs.length+50000→Calls Tryz.prog f ([]++[Value.int .i64 (i:Int)]++cp).toArray W (ij B g (bs'++t) W)):
  Calls Tryz.prog 175 #[.pointer (some ⟨g,0,none⟩), .string (strOf word), .int .i64 (n:Int), .func (.func f) #[] cp.toArray] w (ij B g (bs++word++[40]++cA ts++[41]) w):=by
 have wt:=Wt.refl B w;have wr:=h;refine Zs 33 Tryz.func175 ?_;refine ao ?_;refine Zm ?_;refine Zv (aa.nilCheck rfl rfl) ?_;refine Zf 0 Tryz.underlying232 ?_;refine Zm ?_;refine Zv (aa.dv (b:=[40]) rfl rfl rfl (by simp only[List.length_cons,List.length_nil];omega)) ?_
 have k40:∀d∈word++[40],d<256:=fun d hd=>by
  rcases List.mem_append.1 hd with hd|hd
  ·exact hw d hd
  ·simp at hd;omega
 refine Zc (Ze Tryz.func174) ((bT B g (word++[40]) bs _ wr k40 (by simp only[List.length_append,List.length_cons,List.length_nil];omega)).1) ?_;clear wr;rintro e w1 ⟨⟨_,rfl⟩,fw1,wr⟩;refine⟨_,rfl,?_⟩;replace wt:=wt.wt fw1;rw[←List.append_assoc] at wr;obtain⟨pre,hpre⟩:∃pre,pre=bs++word++[40]:=⟨_,rfl⟩;have hprel:pre.length≤bs.length+101:=by rw[hpre];simp only[List.length_append,List.length_cons,List.length_nil];omega
 rw[←hpre] at wr⊢;refine aV 0 1 2 3 (aJ (ao ?_));refine Zm ?_;refine Zm ?_;refine bj 0 1 2 3 15 16 (Zt (Cd.block ?_));refine Cd.loop (σ:=Nat) (fun k=>[(0, .pointer (some ⟨g,0,none⟩)),(1, .string (strOf word)),(2, .int .i64 (n:Int)),(3, .func (.func f) #[] cp.toArray),(15, .int .i64 (n:Int)),(16, .int .i64 (k:Int))]) (fun k wr'=>k≤n∧Wt B w wr'∧Bw wr' B g (pre++cA (ts.take k))) (fun k=>n-k) 0 ⟨Nat.zero_le _,wt,by simpa[cA] using wr⟩ ⟨rfl,rfl,rfl,rfl,rfl,rfl,trivial⟩ ?_;clear wt wr;rintro k w9 ⟨hk,wt,wr⟩;have hbk:=jx ts k;refine ao ?_;refine Zv (aa.lss rfl rfl rfl) ?_;refine bb 0 1 2 3 15 16 17 (aJ ?_);refine Cd.au rfl (fun hc=> ?_) (fun hc=> ?_)
 ·obtain⟨t,ht⟩:∃t,ts[k]? =some t:=⟨_,List.getElem?_eq_getElem (by omega)⟩
  have htk:ts.take (k+1)=ts.take k++[t]:=by rw[List.take_add_one,ht];rfl
  have hbk1:=jx ts (k+1);rw[htk,jA] at hbk1;refine Cd.skip (aJ (Cd.block (ao ?_)));refine Zm ?_;refine Za ?_;refine cI 0 1 2 3 8 15 16 17 (aJ (ao ?_));refine Zm ?_;refine Zv (aa.gtr rfl rfl rfl) ?_;refine dG 0 1 2 3 8 15 16 17 20 (Zt ?_);refine Cd.au rfl (fun hc=> ?_) (fun hc=> ?_)
  ·have hne:ts.take k≠ []:=fun h0=>by have:=congrArg List.length h0;rw[List.length_take,List.length_nil] at this;omega
   rw[if_neg hne] at hbk1;refine Zr ?_;refine Zm ?_;refine Zv (aa.nilCheck rfl rfl) ?_;refine Zf 0 Tryz.underlying232 ?_;refine Zc (Ze Tryz.func174) ((bT B g [44,32] _ _ wr (by decide) (by simp only[List.length_append,List.length_cons,List.length_nil];omega)).1) ?_;clear wr;rintro e w2 ⟨⟨_,rfl⟩,fw2,wr⟩;refine⟨_,rfl,?_⟩;replace wt:=wt.wt fw2;refine dG 0 1 2 3 8 15 16 17 20 (ei ?_);refine Zm ?_;refine Zm ?_;refine Seq.call (Enters.value (first:=[]) rfl rfl rfl eg) rfl rfl rfl (one k t ht _ _ wt wr (by simp only[List.length_append,List.length_cons,List.length_nil];omega)) ?_;clear wr;rintro e w10 ⟨⟨_,rfl⟩,f10,wr⟩;refine⟨_,rfl,?_⟩;replace wt:=wt.wt f10;refine dG 0 1 2 3 8 15 16 17 20 (ab.aj (ei ?_));refine cH ?_;refine Zm ?_;refine dG 0 1 2 3 8 15 16 17 20 ?_;refine ab.round (k+1) ⟨rfl,rfl,rfl,rfl,rfl,rfl,trivial⟩ ⟨by omega,wt,?_⟩ (by omega);rw[htk,jA,if_neg hne]
   simpa only[List.append_assoc] using wr
  ·obtain rfl:k=0:=by omega
   refine Cd.skip (ei ?_);refine Zm ?_;refine Zm ?_;refine Seq.call (Enters.value (first:=[]) rfl rfl rfl eg) rfl rfl rfl (one 0 t ht _ _ wt wr (by simp only[List.length_append,List.take_zero];simp only[cA,List.length_nil];omega)) ?_;clear wr;rintro e w10 ⟨⟨_,rfl⟩,f10,wr⟩;refine⟨_,rfl,?_⟩;replace wt:=wt.wt f10;refine dG 0 1 2 3 8 15 16 17 20 (ab.aj (ei ?_));refine cH ?_;refine Zm ?_;refine dG 0 1 2 3 8 15 16 17 20 ?_;refine ab.round 1 ⟨rfl,rfl,rfl,rfl,rfl,rfl,trivial⟩ ⟨by omega,wt,?_⟩ (by omega);rw[htk]
   simpa[cA] using wr
 ·obtain rfl:k=n:=by omega
  rw[List.take_of_length_le (by omega)] at wr;refine Cd.exit (ab.aD (ab.aA (ab.az (ei ?_))));refine Zm ?_;refine Zv (aa.nilCheck rfl rfl) ?_;refine Zf 0 Tryz.underlying232 ?_;refine Zc (Ze Tryz.func174) ((bT B g [41] _ _ wr (by decide) (by simp only[List.length_append,List.length_cons,List.length_nil];omega)).1) ?_;clear wr;rintro e w2 ⟨⟨_,rfl⟩,fw2,wr⟩;refine⟨_,rfl,?_⟩;replace wt:=wt.wt fw2;refine bb 0 1 2 3 15 16 17 ?_;refine ab.fP rfl (.inr rfl) ?_;exact⟨⟨_,rfl⟩,wt,wr⟩
def Dl (B g L:Nat)(w:World)(e:Ex)(A:Option Addr):Prop:=∀(i:Nat) (x:Ex),e.args[i]? =some x→∃ad A' c',A=some ad∧
 (∀W,Below B w W→∀(j:Nat) (u:Value),([.int .i64 x.op, .int .i64 x.n, .string (strOf x.name), .slice A' x.args.length c']:List Value)[j]? =some u→W.cell? ((ad.add (i*4)).add j)=some u)∧
 (∀W bs' least,Below B w W→Bw W B g bs'→bt least→bs'.length≤L→Calls Tryz.prog 138 #[.pointer (some ⟨g,0,none⟩), .agg #[.int .i64 x.op, .int .i64 x.n, .string (strOf x.name), .slice A' x.args.length c'], .int .i64 least] W (ij B g (bs'++oc x least) W))
theorem wH (x:Ex):oc x 1=bR x:=by
 unfold oc iJ;rw[if_neg (by have:=(lg x.op).2.2.1;show¬(bu x.op).2<1;omega)];rfl
theorem wy (B g L g3 g4 c i:Nat)(A:Option Addr)(e x:Ex)(bs:List Nat)(w W:World)(h:Dl B g L w e A)(hb:Below B w W)(k3:aK W g3 192 #[.pointer (some ⟨g,0,none⟩)]) (k4:aK W g4 105 #[.int .i64 e.op, .int .i64 e.n, .string (strOf e.name), .slice A e.args.length c]) (wr:Bw W B g bs) (hL:bs.length≤L) (hx:e.args[i]? =some x):
  Calls Tryz.prog 183 #[.int .i64 (i:Int), .pointer (some ⟨g3,0,none⟩), .pointer (some ⟨g4,0,none⟩)] W (ij B g (bs++bR x) W):=by
 obtain⟨ad,A',c',rfl,hc,hcall⟩:=h i x hx;have hi:=(List.getElem?_eq_some_iff.1 hx).1;have hBW:=wr.size;have hcall:=fun W' (hb2:Below W.heap.size W W') (wr':Bw W' B g bs)=>hcall W' bs 1 (hb.trans (hb2.mono hBW)) wr' (by unfold bt;omega) hL;rw[wH] at hcall;have hc:=fun W' (hb2:Below W.heap.size W W')=>hc W' (hb.trans (hb2.mono hBW));have ae:=Below.refl W.heap.size W;have wt:=Wt.refl B W;refine Zs 11 Tryz.func183 ?_;refine Cd.draw 6 (by kernel_rfl) [] (.inl rfl) rfl Grow Grow.refl (fun _ _ _=>Grow.trans) ?_;intro w1 hw1 zw1;replace ae:=ae.step hw1;replace wt:=wt.step hw1;replace wr:=wr.step hw1;replace k3:=k3.step hw1;replace k4:=k4.step hw1;have zbel:=ae.size;have zlt:=k4.lt;refine Zd (fun w hG=>aa.ag rfl rfl Tryz.underlying192 rfl (k3.step hG) rfl) ?_;refine Zd (fun w hG=>aa.an 3 rfl rfl Tryz.underlying105 rfl (by kernel_rfl)) ?_;refine Zd (fun w hG=>aa.ag rfl rfl Tryz.underlying68 rfl (k4.step hG) rfl) ?_;refine cn ?_;refine Zd (fun w hG=>aa.bI rfl rfl rfl Tryz.underlying68 (s:=4) (by kernel_rfl) (j:=i) rfl (by omega)) ?_;refine Zd (fun w hG=>aa.ef (ps:=[.int .i64 x.op, .int .i64 x.n, .string (strOf x.name), .slice A' x.args.length c']) rfl rfl Tryz.underlying105 rfl (m:=4) (by kernel_rfl) rfl (hc _ (ae.step hG))) ?_;refine Dr.nil ?_;refine ba.done (F':=[(0,_),(1,_),(2,_),(4,_),(9,_)]) rfl ⟨rfl,rfl,rfl,rfl,rfl,trivial⟩ ?_;intro w2 hw2 fw2;replace ae:=ae.step hw2;replace wt:=wt.step hw2;replace wr:=wr.step hw2;replace k3:=k3.step hw2;replace k4:=k4.step hw2;have hcc:=hcall _ ae wr;clear ae;refine Zc (Ze Tryz.func138) (hcc) ?_;clear wr;rintro e w3 ⟨⟨_,rfl⟩,fw3,wr⟩;refine⟨_,rfl,?_⟩;replace wt:=wt.wt fw3;refine bD 0 1 2 ?_;refine ab.fP rfl (.inr rfl) ?_;exact⟨⟨_,rfl⟩,wt,wr⟩
theorem C7:∀args w,(callFunc 183 args).run Tryz.prog w= .ok (.enter 183 args) w:=fun args w=>bG Tryz.func183 (by kernel_rfl) rfl args w
theorem kD (B g L g3 g4 c:Nat)(A:Option Addr)(e:Ex)(word bs:List Nat)(w W:World)(h:Dl B g L w e A)(hb:Below B w W)(k3:aK W g3 192 #[.pointer (some ⟨g,0,none⟩)]) (k4:aK W g4 105 #[.int .i64 e.op, .int .i64 e.n, .string (strOf e.name), .slice A e.args.length c]) (wr:Bw W B g bs) (hL:bs.length+50000≤L) (hL2:L≤900000000)
  (hw:∀d∈word,d<256) (hwl:word.length≤100) (hbt:∀x∈e.args,bB x=true) (hn:e.args.length≤1000) (hj:(cA (e.args.map bR)).length≤20000):
  Calls Tryz.prog 182 #[.string (strOf word), .pointer (some ⟨g3,0,none⟩), .pointer (some ⟨g4,0,none⟩)] W (ij B g (bs++word++[40]++cA (e.args.map bR)++[41]) W):=by
 have wt:=Wt.refl B W;have hBW:=wr.size;have hl:(e.args.map bR).length=e.args.length:=List.length_map _
 have hlist:=tC B g 183 e.args.length [.pointer (some ⟨g3,0,none⟩), .pointer (some ⟨g4,0,none⟩)] word bs (e.args.map bR) W wr hw hwl hl hn (fun t ht=>by obtain⟨x,hx,rfl⟩:=List.mem_map.1 ht;exact(fq x.nodes x (Nat.le_refl _) (hbt x hx)).2) hj (by omega) C7
  (fun i t ht W' bs' hwt hwr hlen=>by
   rw[List.getElem?_map] at ht
   cases hx:e.args[i]? with
   |none=>rw[hx] at ht;cases ht
   |some x=>
    rw[hx] at ht;injection ht with ht
    subst ht;exact wy B g L g3 g4 c i A e x bs' w W' h (hb.trans (hwt.to hBW)) (k3.wt hwt) (k4.wt hwt) hwr (by omega) hx)
 refine Zs 11 Tryz.func182 ?_;refine Zr ?_;refine Zv (aa.ag rfl rfl Tryz.underlying192 rfl k3 rfl) ?_;refine Zm ?_;refine Zf 3 Tryz.underlying105 ?_;refine Zv (aa.ag rfl rfl Tryz.underlying68 rfl k4 rfl) ?_;refine Zv (aa.len rfl rfl Tryz.underlying68) ?_;refine Zv (aa.makeFunc (v:= .func (.func 183) #[] #[.pointer (some ⟨g3,0,none⟩), .pointer (some ⟨g4,0,none⟩)]) rfl (show iG _ _=some [] from rfl) (show iG _ _=some [.pointer (some ⟨g3,0,none⟩), .pointer (some ⟨g4,0,none⟩)] from rfl) rfl) ?_;refine Zc (Ze Tryz.func175) (hlist) ?_;clear wr;rintro e w1 ⟨⟨_,rfl⟩,fw1,wr⟩;refine⟨_,rfl,?_⟩;replace wt:=wt.wt fw1;refine bD 0 1 2 ?_;refine ab.fP rfl (.inr rfl) ?_;exact⟨⟨_,rfl⟩,wt,wr⟩
theorem sx:∀args w,(callFunc 182 args).run Tryz.prog w= .ok (.enter 182 args) w:=fun args w=>bG Tryz.func182 (by kernel_rfl) rfl args w
theorem Bq:∀args w,(callFunc 174 args).run Tryz.prog w= .ok (.enter 174 args) w:=fun args w=>bG Tryz.func174 (by kernel_rfl) rfl args w
def EO (Q:Exit→Act→World→Prop)(B g g3 g4 n m:Nat)(bs T:List Nat)(cs:Array Value)(w:World)(I:Inhabited (List Deferred))(wc:World):Prop:=
 Wt B w wc∧aK wc g3 192 #[.pointer (some ⟨g,0,none⟩)]∧aK wc g4 105 cs∧∃bs0,Bw wc B g bs0∧bs0.length≤m∧∀wx ex,(ex=Exit.ret∨ex=Exit.normal)→Wt B w wx→Bw wx B g (bs0++T)→ @ab I Q ex n [] wx
theorem Cd.Ei {P:Program}{Q:Exit→Act→World→Prop}{n:Nat}{F:List (Nat × Value)}{wc:World}{x y:Code}(F':List (Nat × Value))(B g g3 g4 m:Nat)(bs T:List Nat)(cs:Array Value)(w:World)(hx:Cd P x (Exit.then (zR n F' (EO Q B g g3 g4 n m bs T cs w)) Q) n F wc)(hy:∀I w2,EO Q B g g3 g4 n m bs T cs w I w2→ @Cd I P y Q n F' w2):Cd P (.seq x y) Q n F wc:=Cd.EJ F' _ hx hy
theorem xD (N:Nat):∀(e:Ex) (B g:Nat) (bs:List Nat) (v:Value) (least:Int) (w:World),e.nodes≤N→e.nodes≤200→bB e=true→qs w B e v→Bw w B g bs→bt least→bs.length+100000*e.depth≤100000000→
  Calls Tryz.prog 138 #[.pointer (some ⟨g,0,none⟩),v, .int .i64 least] w (ij B g (bs++oc e least) w):=by
 induction N with
 |zero=>intro e B g bs v least w hN;have:=e.cO;omega
 |succ N ih=>
 intro e B g bs v least w hN h200 hbt hrep hbw hleast hbs;obtain⟨A,c,rfl,hv⟩:=hrep.open;have hbd:=fq e.nodes e (Nat.le_refl _) hbt;obtain⟨hh,hargs⟩:=l0 hbt;obtain⟨h1,h2,h3,h4,h5,h6⟩:=nH hh;obtain⟨o1,o2,o3,o4,o5,o6⟩:=pe h1;obtain⟨b1,b2,b3,b4⟩:=lg e.op;have hBW:=hbw.size;have hT:=pd e;unfold uf at hT
 have hrec:Dl B g (bs.length+60000) w e A:=fun i x hx=>by
  obtain⟨ad,A',c',e1,e2,e3,e4⟩:=hv.arg i x hx;have hmem:=List.mem_of_getElem? hx;have hnd:=Ex.fS hmem;have hdp:=Ex.rh hmem;have hbx:=hargs x hmem;exact⟨ad,A',c',e1,fun W hb j u hu=>(hb.cell (by rw[aw,aw];omega)).trans (e4 j u hu),fun W bs' least hb hwr hls hlen=>ih x B g bs' _ least W (by omega) (by omega) hbx (e3.below hb) hwr hls (by omega)⟩
 have hjl:(cA (e.args.map bR)).length≤20000:=by
  have:=ld e.args fun z hz=>(fq z.nodes z (Nat.le_refl _) (hargs z hz)).1;have hn:e.nodes=1+aM e.args:=by cases e;exact Ex.dI _ _ _ _
  have:e.args.length≤3:=by omega
  omega
 have hl3:e.args.length≤3:=by omega
 have wt:=Wt.refl B w;have wr:=hbw;refine Calls.BA 114 Tryz.func138 rfl rfl rfl ?_;refine ao ?_;refine Seq.box rfl rfl rfl rfl rfl ?_;intro g3 w1 n3;replace wt:=wt.step n3.below;replace wr:=wr.step n3.below;have k3:=n3.av;refine Seq.box rfl rfl rfl rfl rfl ?_;intro g4 w2 n4;have l4:=Nat.lt_of_lt_of_le k3.lt n4.ge;replace wt:=wt.step n4.below;replace wr:=wr.step n4.below;replace k3:=k3.step n4.below;have k4:=n4.av;refine aU 0 1 2 3 4 (aG ?_);refine Zf 0 Tryz.underlying105 ?_;refine Zv (aa.ag rfl rfl Tryz.underlying3 rfl k4 rfl) ?_;refine Zc (Ze Tryz.func181) (uS e.op _) ?_;rintro en w5 ⟨rfl,hb5⟩;refine⟨_,rfl,?_⟩;replace wt:=wt.step hb5;replace wr:=wr.step hb5;replace k3:=k3.step hb5;replace k4:=k4.step hb5;refine Zm ?_;refine Zv (aa.extract rfl rfl rfl) ?_;refine Zv (aa.extract rfl rfl rfl) ?_;refine Za ?_;refine Za ?_;refine bb 0 1 2 3 4 6 7 (Zt ?_);refine Cd.Ei [(3, .pointer (some ⟨g3,0,none⟩)),(4, .pointer (some ⟨g4,0,none⟩)),(6, .string (strOf (bu e.op).1)),(7, .int .i64 (bu e.op).2)] B g g3 g4 (bs.length+1) bs (bR e) #[.int .i64 e.op, .int .i64 e.n, .string (strOf e.name), .slice A e.args.length c] w ?_ ?_
 ·skip
  refine ao ?_;refine Zm ?_;refine Zm ?_;refine Zv (aa.lss rfl rfl rfl) ?_;refine cI 0 1 2 3 4 6 7 18 (Zt ?_);refine Cd.au rfl (fun hc=> ?_) (fun hc=> ?_)
  ·have hin:oc e least=[40]++bR e++[41]:=by
    unfold oc iJ;rw[if_pos (show(cJ e).1<least from hc)];rfl
   refine ao ?_;refine Zv (aa.ag rfl rfl Tryz.underlying192 rfl k3 rfl) ?_;refine Zv (aa.nilCheck rfl rfl) ?_;refine Zf 0 Tryz.underlying232 ?_;refine Zc (Ze Tryz.func174) ((bT B g [40] bs _ wr (by decide) (by simp only[List.length_cons,List.length_nil];omega)).1) ?_;clear wr;rintro e w3 ⟨⟨_,rfl⟩,fw3,wr⟩;refine⟨_,rfl,?_⟩;replace wt:=wt.wt fw3;replace k3:=k3.wt fw3;replace k4:=k4.wt fw3;refine cI 0 1 2 3 4 6 7 18 (ei ?_);refine Zv (aa.ag rfl rfl Tryz.underlying192 rfl k3 rfl) ?_;refine Zv (aa.nilCheck rfl rfl) ?_;refine Zf 0 Tryz.underlying232 ?_;refine Seq.Dd rfl rfl rfl rfl ?_;intro I hI;refine cI 0 1 2 3 4 6 7 18 ?_;refine ab.CX ⟨rfl,rfl,rfl,rfl,trivial⟩ ⟨wt,k3,k4,bs++[40],wr,by simp,fun wx ex hex wtx wrx=> ?_⟩;refine ab.DW hI rfl hex Bq ((bT B g [41] _ wx wrx (by decide) (by simp only[List.length_append,List.length_cons,List.length_nil];omega)).2 .returning) fun en w' hw=> ?_;refine⟨hw.1,⟨_,rfl⟩,wtx.wt hw.2.1,?_⟩;rw[hin]
   simpa only[List.append_assoc] using hw.2.2
  ·have hin:oc e least=bR e:=by
    unfold oc iJ;rw[if_neg (show¬(cJ e).1<least from hc)];rfl
   refine Cd.skip ?_;refine ab.CX ⟨rfl,rfl,rfl,rfl,trivial⟩ ⟨wt,k3,k4,bs,wr,by omega,fun wx ex hex wtx wrx=> ?_⟩;refine ab.DT rfl hex ?_;rw[hin];exact⟨⟨_,rfl⟩,wtx,wrx⟩
 clear wt wr k3 k4;rintro I w8 ⟨wt,k3,k4,bs0,wr,hb0,hend⟩;have hpre:B≤w8.heap.size:=wr.size;refine ao ?_;refine Zv (aa.makeFunc (v:= .func (.func 182) #[] #[.pointer (some ⟨g3,0,none⟩), .pointer (some ⟨g4,0,none⟩)]) rfl (show iG _ _=some [] from rfl) (show iG _ _=some [.pointer (some ⟨g3,0,none⟩), .pointer (some ⟨g4,0,none⟩)] from rfl) rfl) ?_;refine Za ?_;refine aU 3 4 6 7 8 (aG ?_);refine Zf 0 Tryz.underlying105 ?_;refine Zv (aa.ag rfl rfl Tryz.underlying3 rfl k4 rfl) ?_;refine bj 3 4 6 7 8 28 (Zt (Cd.block (ao ?_)));refine Zv (aa.aB rfl rfl rfl) ?_;refine Za ?_;refine bb 3 4 6 7 8 28 56 (Zt ?_);refine Cd.au rfl (fun c1=> ?_) (fun c1=> ?_)
 ·rw[if_pos c1] at hT
  refine Cd.draw 6 (by kernel_rfl) [] (.inl rfl) rfl Grow Grow.refl (fun _ _ _=>Grow.trans) ?_;intro w3 hw3 zw3;replace wt:=wt.step hw3;replace wr:=wr.step hw3;replace k3:=k3.step hw3;replace k4:=k4.step hw3;have zlt:=k4.lt;refine Zd (fun w hG=>aa.ag rfl rfl Tryz.underlying192 rfl (k3.step hG) rfl) ?_;refine Zd (fun w hG=>aa.nilCheck rfl rfl) ?_;refine Zd (fun w hG=>aa.an 0 rfl rfl Tryz.underlying232 rfl (by kernel_rfl)) ?_;refine Zd (fun w hG=>aa.an 1 rfl rfl Tryz.underlying105 rfl (by kernel_rfl)) ?_;refine Zd (fun w hG=>aa.ag rfl rfl Tryz.underlying2 rfl (k4.step hG) rfl) ?_;refine Dr.bP rfl (fun w=>Ze Tryz.func184) rfl (fun w hG=>xW e.n w hv.n) ?_;refine Dr.nil ?_;refine ba.done (F':=[(3,_),(4,_),(6,_),(7,_),(8,_),(28,_),(56,_),(60,_),(63,_)]) rfl ⟨rfl,rfl,rfl,rfl,rfl,rfl,rfl,rfl,rfl,trivial⟩ ?_;intro w4 hw4 fw4;replace wt:=wt.step hw4;replace wr:=wr.step hw4;replace k3:=k3.step hw4;replace k4:=k4.step hw4;refine Zc (Ze Tryz.func174) ((bT B g (qA e.n) bs0 _ wr (xk _) (by have:=s8 e.n;omega)).1) ?_;clear wr;rintro e w5 ⟨⟨_,rfl⟩,fw5,wr⟩;refine⟨_,rfl,?_⟩;replace wt:=wt.wt fw5;replace k3:=k3.wt fw5;replace k4:=k4.wt fw5;refine bb 3 4 6 7 8 28 56 (ab.aj ?_);refine ab.dV (F':=[]) trivial ?_;exact hend _ _ (.inr rfl) wt (by rw[hT];exact wr)
 rw[if_neg c1] at hT;refine ao ?_;refine Zv (aa.aB rfl rfl rfl) ?_;refine Za ?_;refine cI 3 4 6 7 8 28 56 65 (Zt ?_);refine Cd.au rfl (fun c2=> ?_) (fun c2=> ?_)
 ·rw[if_pos c2] at hT
  have hday:∀W,Calls Tryz.prog 185 #[.int .i64 e.n] W fun e1 w'=>e1= .returned (.string (strOf (qC e.n.toNat)))∧Grow W w':=fun W=>by
   have:=r7 e.n.toNat W (by have:=h5 c2;omega)
   rwa [Int.toNat_of_nonneg h4] at this
  refine Cd.draw 6 (by kernel_rfl) [] (.inl rfl) rfl Grow Grow.refl (fun _ _ _=>Grow.trans) ?_;intro w3 hw3 zw3;replace wt:=wt.step hw3;replace wr:=wr.step hw3;replace k3:=k3.step hw3;replace k4:=k4.step hw3;have zlt:=k4.lt;refine Zd (fun w hG=>aa.ag rfl rfl Tryz.underlying192 rfl (k3.step hG) rfl) ?_;refine Zd (fun w hG=>aa.nilCheck rfl rfl) ?_;refine Zd (fun w hG=>aa.an 0 rfl rfl Tryz.underlying232 rfl (by kernel_rfl)) ?_;refine Zd (fun w hG=>aa.an 1 rfl rfl Tryz.underlying105 rfl (by kernel_rfl)) ?_;refine Zd (fun w hG=>aa.ag rfl rfl Tryz.underlying2 rfl (k4.step hG) rfl) ?_;refine Dr.bP rfl (fun w=>Ze Tryz.func185) rfl (fun w hG=>hday w) ?_;refine Dr.nil ?_;refine ba.done (F':=[(3,_),(4,_),(6,_),(7,_),(8,_),(28,_),(56,_),(65,_),(69,_),(72,_)]) rfl ⟨rfl,rfl,rfl,rfl,rfl,rfl,rfl,rfl,rfl,rfl,trivial⟩ ?_;intro w4 hw4 fw4;replace wt:=wt.step hw4;replace wr:=wr.step hw4;replace k3:=k3.step hw4;replace k4:=k4.step hw4;refine Zc (Ze Tryz.func174) ((bT B g (qC e.n.toNat) bs0 _ wr (wY _) (by have:=uo e.n.toNat;omega)).1) ?_;clear wr;rintro e w5 ⟨⟨_,rfl⟩,fw5,wr⟩;refine⟨_,rfl,?_⟩;replace wt:=wt.wt fw5;replace k3:=k3.wt fw5;replace k4:=k4.wt fw5;refine cI 3 4 6 7 8 28 56 65 (ab.aj ?_);refine ab.dV (F':=[]) trivial ?_;exact hend _ _ (.inr rfl) wt (by rw[hT];exact wr)
 rw[if_neg c2] at hT;refine ao ?_;refine Zv (aa.aB rfl rfl rfl) ?_;refine Za ?_;refine dG 3 4 6 7 8 28 56 65 74 (Zt ?_);refine Cd.au rfl (fun c3=> ?_) (fun c3=> ?_)
 ·rw[if_pos c3] at hT
  refine Cd.draw 5 (by kernel_rfl) [] (.inl rfl) rfl Grow Grow.refl (fun _ _ _=>Grow.trans) ?_;intro w3 hw3 zw3;replace wt:=wt.step hw3;replace wr:=wr.step hw3;replace k3:=k3.step hw3;replace k4:=k4.step hw3;have zlt:=k4.lt;refine Zd (fun w hG=>aa.ag rfl rfl Tryz.underlying192 rfl (k3.step hG) rfl) ?_;refine Zd (fun w hG=>aa.nilCheck rfl rfl) ?_;refine Zd (fun w hG=>aa.an 0 rfl rfl Tryz.underlying232 rfl (by kernel_rfl)) ?_;refine Zd (fun w hG=>aa.an 2 rfl rfl Tryz.underlying105 rfl (by kernel_rfl)) ?_;refine Zd (fun w hG=>aa.ag rfl rfl Tryz.underlying9 rfl (k4.step hG) rfl) ?_;refine Dr.nil ?_;refine ba.done (F':=[(3,_),(4,_),(6,_),(7,_),(8,_),(28,_),(56,_),(65,_),(74,_),(78,_),(80,_)]) rfl ⟨rfl,rfl,rfl,rfl,rfl,rfl,rfl,rfl,rfl,rfl,rfl,trivial⟩ ?_;intro w4 hw4 fw4;replace wt:=wt.step hw4;replace wr:=wr.step hw4;replace k3:=k3.step hw4;replace k4:=k4.step hw4;refine Zc (Ze Tryz.func174) ((bT B g e.name bs0 _ wr (oH (h6 c3)) (by have:=mK (h6 c3);omega)).1) ?_;clear wr;rintro e w5 ⟨⟨_,rfl⟩,fw5,wr⟩;refine⟨_,rfl,?_⟩;replace wt:=wt.wt fw5;replace k3:=k3.wt fw5;replace k4:=k4.wt fw5;refine dG 3 4 6 7 8 28 56 65 74 (ab.aj ?_);refine ab.dV (F':=[]) trivial ?_;exact hend _ _ (.inr rfl) wt (by rw[hT];exact wr)
 rw[if_neg c3] at hT;refine ao ?_;refine Zv (aa.aB rfl rfl rfl) ?_;refine Za ?_;refine dg 3 4 6 7 8 28 56 65 74 82 (Zt ?_);refine Cd.au rfl (fun c4=> ?_) (fun c4=> ?_)
 ·rw[if_pos c4] at hT
  refine Zr ?_;refine Zv (aa.ag rfl rfl Tryz.underlying192 rfl k3 rfl) ?_;refine Zv (aa.nilCheck rfl rfl) ?_;refine Zf 0 Tryz.underlying232 ?_;refine Zc (Ze Tryz.func174) ((bT B g [100,97,121] bs0 _ wr (by decide) (by simp only[List.length_cons,List.length_nil];omega)).1) ?_;clear wr;rintro e w3 ⟨⟨_,rfl⟩,fw3,wr⟩;refine⟨_,rfl,?_⟩;replace wt:=wt.wt fw3;replace k3:=k3.wt fw3;replace k4:=k4.wt fw3;refine dg 3 4 6 7 8 28 56 65 74 82 (ab.aj ?_);refine ab.dV (F':=[]) trivial ?_;exact hend _ _ (.inr rfl) wt (by rw[hT];exact wr)
 rw[if_neg c4] at hT;refine ao ?_;refine Zv (aa.aB rfl rfl rfl) ?_;refine Za ?_;refine dr 3 4 6 7 8 28 56 65 74 82 88 (Zt ?_);refine Cd.au rfl (fun c9=> ?_) (fun c9=> ?_)
 ·have hb:bu e.op=([],7):=by rw[c9];rfl
  rw[if_neg (by rw[hb];decide),if_neg (by rw[hb];decide),if_neg (by rw[hb];decide),if_pos c9,iW] at hT;refine Zr ?_;refine Zm ?_;refine Seq.call (Enters.value (first:=[]) (cap:=[.pointer (some ⟨g3,0,none⟩), .pointer (some ⟨g4,0,none⟩)]) rfl rfl rfl sx) rfl rfl rfl (kD B g (bs.length+60000) g3 g4 c A e [109,105,110] bs0 w _ hrec (wt.to hBW) k3 k4 wr (by omega) (by omega) (by decide) (by decide) hargs (by omega) hjl) ?_;clear wr;rintro en w9 ⟨⟨_,rfl⟩,f9,wr⟩;refine⟨_,rfl,?_⟩;replace wt:=wt.wt f9;refine dr 3 4 6 7 8 28 56 65 74 82 88 (ab.aj ?_);refine ab.dV (F':=[]) trivial ?_;exact hend _ _ (.inr rfl) wt (by rw[hT];simpa only[List.append_assoc,List.cons_append,List.nil_append] using wr)
 refine ao ?_;refine Zv (aa.aB rfl rfl rfl) ?_;refine Za ?_;refine fG 3 4 6 7 8 28 56 65 74 82 88 92 (Zt ?_);refine Cd.au rfl (fun c10=> ?_) (fun c10=> ?_)
 ·have hb:bu e.op=([],7):=by rw[c10];rfl
  rw[if_neg (by rw[hb];decide),if_neg (by rw[hb];decide),if_neg (by rw[hb];decide),if_neg c9,if_pos c10,iW] at hT;refine Zr ?_;refine Zm ?_;refine Seq.call (Enters.value (first:=[]) (cap:=[.pointer (some ⟨g3,0,none⟩), .pointer (some ⟨g4,0,none⟩)]) rfl rfl rfl sx) rfl rfl rfl (kD B g (bs.length+60000) g3 g4 c A e [109,97,120] bs0 w _ hrec (wt.to hBW) k3 k4 wr (by omega) (by omega) (by decide) (by decide) hargs (by omega) hjl) ?_;clear wr;rintro en w9 ⟨⟨_,rfl⟩,f9,wr⟩;refine⟨_,rfl,?_⟩;replace wt:=wt.wt f9;refine fG 3 4 6 7 8 28 56 65 74 82 88 92 (ab.aj ?_);refine ab.dV (F':=[]) trivial ?_;exact hend _ _ (.inr rfl) wt (by rw[hT];simpa only[List.append_assoc,List.cons_append,List.nil_append] using wr)
 refine ao ?_;refine Zv (aa.aB rfl rfl rfl) ?_;refine Za ?_;refine gF 3 4 6 7 8 28 56 65 74 82 88 92 96 (Zt ?_);refine Cd.au rfl (fun c21=> ?_) (fun c21=> ?_)
 ·have hb:bu e.op=([],7):=by rw[c21];rfl
  rw[if_neg (by rw[hb];decide),if_neg (by rw[hb];decide),if_neg (by rw[hb];decide),if_neg c9,if_neg c10,iW] at hT;refine Zr ?_;refine Zm ?_;refine Seq.call (Enters.value (first:=[]) (cap:=[.pointer (some ⟨g3,0,none⟩), .pointer (some ⟨g4,0,none⟩)]) rfl rfl rfl sx) rfl rfl rfl (kD B g (bs.length+60000) g3 g4 c A e [105,102] bs0 w _ hrec (wt.to hBW) k3 k4 wr (by omega) (by omega) (by decide) (by decide) hargs (by omega) hjl) ?_;clear wr;rintro en w9 ⟨⟨_,rfl⟩,f9,wr⟩;refine⟨_,rfl,?_⟩;replace wt:=wt.wt f9;refine gF 3 4 6 7 8 28 56 65 74 82 88 92 96 (ab.aj ?_);refine ab.dV (F':=[]) trivial ?_;exact hend _ _ (.inr rfl) wt (by rw[hT];simpa only[List.append_assoc,List.cons_append,List.nil_append] using wr)
 refine Cd.seq (ao ?_);refine Zv (aa.aB rfl rfl rfl) ?_;refine Za ?_;refine jk 3 4 6 7 8 28 56 65 74 82 88 92 96 100 (Zt ?_);refine Cd.au rfl (fun c19=> ?_) (fun c19=> ?_)
 ·skip
  refine Cd.skip (Zt ?_);refine Cd.aX rfl (decide_eq_true c19) ?_;have hb:(bu e.op).2=6:=by rw[c19];rfl
  have hlen1:e.args.length=1:=o5 (by omega);obtain⟨x,hx⟩:∃x,e.args=[x]:=List.length_eq_one_iff.1 hlen1;obtain⟨ad,A0,A0',rfl,hcx,hcallx⟩:=hrec 0 x (by rw[hx];rfl);rw[if_pos hb,hx,show([x].map cJ).getD 0 (7,[])=cJ x from rfl] at hT;refine ao ?_;refine Zv (aa.ag rfl rfl Tryz.underlying192 rfl k3 rfl) ?_;refine Zv (aa.nilCheck rfl rfl) ?_;refine Zf 0 Tryz.underlying232 ?_;refine Zm ?_;refine Zc (Ze Tryz.func174) ((bT B g (bu e.op).1 bs0 _ wr b2 (by omega)).1) ?_;clear wr;rintro e w3 ⟨⟨_,rfl⟩,fw3,wr⟩;refine⟨_,rfl,?_⟩;replace wt:=wt.wt fw3;replace k3:=k3.wt fw3;replace k4:=k4.wt fw3;refine jk 3 4 6 7 8 28 56 65 74 82 88 92 96 100 (Zt ?_);refine Cd.draw 5 (by kernel_rfl) [] (.inl rfl) rfl Grow Grow.refl (fun _ _ _=>Grow.trans) ?_;intro w4 hw4 zw4;replace wt:=wt.step hw4;replace wr:=wr.step hw4;replace k3:=k3.step hw4;replace k4:=k4.step hw4;have zlt:=k4.lt;refine Zd (fun w hG=>aa.ag rfl rfl Tryz.underlying192 rfl (k3.step hG) rfl) ?_;refine Zd (fun w hG=>aa.an 3 rfl rfl Tryz.underlying105 rfl (by kernel_rfl)) ?_;refine Zd (fun w hG=>aa.ag rfl rfl Tryz.underlying68 rfl (k4.step hG) rfl) ?_;refine Zd (fun w hG=>aa.bI rfl rfl rfl Tryz.underlying68 (s:=4) (by kernel_rfl) (j:=0) rfl (by omega)) ?_;refine Zd (fun w hG=>aa.ef (ps:=[.int .i64 x.op, .int .i64 x.n, .string (strOf x.name), .slice A0 x.args.length A0']) rfl rfl Tryz.underlying105 rfl (m:=4) (by kernel_rfl) rfl (hcx _ ((wt.to hBW).trans (hG.mono wr.size)))) ?_;refine Dr.nil ?_;refine ba.done (F':=[(3,_),(4,_),(6,_),(7,_),(8,_),(28,_),(56,_),(65,_),(74,_),(82,_),(88,_),(92,_),(96,_),(100,_),(108,_),(112,_)]) rfl ⟨rfl,rfl,rfl,rfl,rfl,rfl,rfl,rfl,rfl,rfl,rfl,rfl,rfl,rfl,rfl,rfl,trivial⟩ ?_;intro w5 hw5 fw5;replace wt:=wt.step hw5;replace wr:=wr.step hw5;replace k3:=k3.step hw5;replace k4:=k4.step hw5;refine Zc (Ze Tryz.func138) (hcallx _ _ 6 (wt.to hBW) wr (by unfold bt;omega) (by rw[List.length_append];omega)) ?_;clear wr;rintro e w6 ⟨⟨_,rfl⟩,fw6,wr⟩;refine⟨_,rfl,?_⟩;replace wt:=wt.wt fw6;refine jk 3 4 6 7 8 28 56 65 74 82 88 92 96 100 (ab.aj ?_);refine ab.dV (F':=[]) trivial ?_;exact hend _ _ (.inr rfl) wt (by rw[hT];simpa only[List.append_assoc,oc] using wr)
 refine Zr ?_;refine Zv (aa.aB rfl rfl rfl) ?_;refine Za ?_;refine jk 3 4 6 7 8 28 56 65 74 82 88 92 96 100 (Zt ?_);refine Cd.au rfl (fun c20=> ?_) (fun c20=> ?_)
 ·skip
  have hb:(bu e.op).2=6:=by rw[c20];rfl
  have hlen1:e.args.length=1:=o5 (by omega);obtain⟨x,hx⟩:∃x,e.args=[x]:=List.length_eq_one_iff.1 hlen1;obtain⟨ad,A0,A0',rfl,hcx,hcallx⟩:=hrec 0 x (by rw[hx];rfl);rw[if_pos hb,hx,show([x].map cJ).getD 0 (7,[])=cJ x from rfl] at hT;refine ao ?_;refine Zv (aa.ag rfl rfl Tryz.underlying192 rfl k3 rfl) ?_;refine Zv (aa.nilCheck rfl rfl) ?_;refine Zf 0 Tryz.underlying232 ?_;refine Zm ?_;refine Zc (Ze Tryz.func174) ((bT B g (bu e.op).1 bs0 _ wr b2 (by omega)).1) ?_;clear wr;rintro e w3 ⟨⟨_,rfl⟩,fw3,wr⟩;refine⟨_,rfl,?_⟩;replace wt:=wt.wt fw3;replace k3:=k3.wt fw3;replace k4:=k4.wt fw3;refine jk 3 4 6 7 8 28 56 65 74 82 88 92 96 100 (Zt ?_);refine Cd.draw 5 (by kernel_rfl) [] (.inl rfl) rfl Grow Grow.refl (fun _ _ _=>Grow.trans) ?_;intro w4 hw4 zw4;replace wt:=wt.step hw4;replace wr:=wr.step hw4;replace k3:=k3.step hw4;replace k4:=k4.step hw4;have zlt:=k4.lt;refine Zd (fun w hG=>aa.ag rfl rfl Tryz.underlying192 rfl (k3.step hG) rfl) ?_;refine Zd (fun w hG=>aa.an 3 rfl rfl Tryz.underlying105 rfl (by kernel_rfl)) ?_;refine Zd (fun w hG=>aa.ag rfl rfl Tryz.underlying68 rfl (k4.step hG) rfl) ?_;refine Zd (fun w hG=>aa.bI rfl rfl rfl Tryz.underlying68 (s:=4) (by kernel_rfl) (j:=0) rfl (by omega)) ?_;refine Zd (fun w hG=>aa.ef (ps:=[.int .i64 x.op, .int .i64 x.n, .string (strOf x.name), .slice A0 x.args.length A0']) rfl rfl Tryz.underlying105 rfl (m:=4) (by kernel_rfl) rfl (hcx _ ((wt.to hBW).trans (hG.mono wr.size)))) ?_;refine Dr.nil ?_;refine ba.done (F':=[(3,_),(4,_),(6,_),(7,_),(8,_),(28,_),(56,_),(65,_),(74,_),(82,_),(88,_),(92,_),(96,_),(100,_),(108,_),(112,_)]) rfl ⟨rfl,rfl,rfl,rfl,rfl,rfl,rfl,rfl,rfl,rfl,rfl,rfl,rfl,rfl,rfl,rfl,trivial⟩ ?_;intro w5 hw5 fw5;replace wt:=wt.step hw5;replace wr:=wr.step hw5;replace k3:=k3.step hw5;replace k4:=k4.step hw5;refine Zc (Ze Tryz.func138) (hcallx _ _ 6 (wt.to hBW) wr (by unfold bt;omega) (by rw[List.length_append];omega)) ?_;clear wr;rintro e w6 ⟨⟨_,rfl⟩,fw6,wr⟩;refine⟨_,rfl,?_⟩;replace wt:=wt.wt fw6;refine jk 3 4 6 7 8 28 56 65 74 82 88 92 96 100 (ab.aj ?_);refine ab.dV (F':=[]) trivial ?_;exact hend _ _ (.inr rfl) wt (by rw[hT];simpa only[List.append_assoc,oc] using wr)
 have hop:e.op=5∨e.op=6∨e.op=7∨e.op=8∨e.op=11∨e.op=12∨e.op=13∨e.op=14∨e.op=15∨e.op=16∨e.op=17∨e.op=18:=by omega
 have hp:(bu e.op).2<6:=by rcases hop with h|h|h|h|h|h|h|h|h|h|h|h<;>rw[h]<;>decide
 have hlen2:e.args.length=2:=o4 (by omega) (by omega)
 obtain⟨x,y,hxy⟩:∃x y,e.args=[x,y]:=by
  cases h:e.args with
  |nil=>rw[h] at hlen2;simp at hlen2
  |cons x r=>cases r with
   |nil=>rw[h] at hlen2;simp at hlen2
   |cons y r=>cases r with
    |nil=>exact⟨x,y,rfl⟩
    |cons z r=>rw[h] at hlen2;simp at hlen2
 obtain⟨ad,A0,A0',rfl,hcx,hcallx⟩:=hrec 0 x (by rw[hxy];rfl);obtain⟨ad',A1,A1',had,hcy,hcally⟩:=hrec 1 y (by rw[hxy];rfl);injection had with had
 subst had
 have hil:∀l,(oc x l).length≤20000:=fun l=>by
  have h1:=(ku l (cJ x)).1;have e1:(cJ x).2=bR x:=rfl;have h2:=(fq x.nodes x (Nat.le_refl _) (hargs x (by rw[hxy];exact List.mem_cons_self))).1;have h3:x.nodes<e.nodes:=Ex.fS (by rw[hxy];exact List.mem_cons_self);rw[e1] at h1;unfold oc;omega
 rw[if_neg (by omega),hxy,show([x,y].map cJ).getD 0 (7,[])=cJ x from rfl,show([x,y].map cJ).getD 1 (7,[])=cJ y from rfl] at hT;refine ao ?_;refine Zm ?_;refine Za ?_;refine sd 3 4 6 7 8 9 28 56 65 74 82 88 92 96 100 (aJ (ao ?_));refine Zm ?_;refine Zv (aa.aB rfl rfl rfl) ?_;refine mN 3 4 6 7 8 9 28 31 56 65 74 82 88 92 96 100 (Zt ?_);refine Cd.au rfl (fun c3'=> ?_) (fun c3'=> ?_)
 ·rw[if_pos c3',show(4:Int)=(bu e.op).2+1 by omega] at hT
  refine Zr ?_;refine Zm ?_;refine cH ?_;refine Za ?_;refine mN 3 4 6 7 8 9 28 31 56 65 74 82 88 92 96 100 (aJ ?_);refine Cd.draw 6 (by kernel_rfl) [] (.inl rfl) rfl Grow Grow.refl (fun _ _ _=>Grow.trans) ?_;intro w3 hw3 zw3;replace wt:=wt.step hw3;replace wr:=wr.step hw3;replace k3:=k3.step hw3;replace k4:=k4.step hw3;have zlt:=k4.lt;refine Zd (fun w hG=>aa.ag rfl rfl Tryz.underlying192 rfl (k3.step hG) rfl) ?_;refine Zd (fun w hG=>aa.an 3 rfl rfl Tryz.underlying105 rfl (by kernel_rfl)) ?_;refine Zd (fun w hG=>aa.ag rfl rfl Tryz.underlying68 rfl (k4.step hG) rfl) ?_;refine Zd (fun w hG=>aa.bI rfl rfl rfl Tryz.underlying68 (s:=4) (by kernel_rfl) (j:=0) rfl (by omega)) ?_;refine Zd (fun w hG=>aa.ef (ps:=[.int .i64 x.op, .int .i64 x.n, .string (strOf x.name), .slice A0 x.args.length A0']) rfl rfl Tryz.underlying105 rfl (m:=4) (by kernel_rfl) rfl (hcx _ ((wt.to hBW).trans (hG.mono wr.size)))) ?_;refine cn ?_;refine Dr.nil ?_;refine ba.done (F':=[(3,_),(4,_),(6,_),(7,_),(8,_),(9,_),(28,_),(31,_),(34,_),(38,_),(39,_),(56,_),(65,_),(74,_),(82,_),(88,_),(92,_),(96,_),(100,_)]) rfl ⟨rfl,rfl,rfl,rfl,rfl,rfl,rfl,rfl,rfl,rfl,rfl,rfl,rfl,rfl,rfl,rfl,rfl,rfl,rfl,trivial⟩ ?_;intro w4 hw4 fw4;replace wt:=wt.step hw4;replace wr:=wr.step hw4;replace k3:=k3.step hw4;replace k4:=k4.step hw4;refine Zc (Ze Tryz.func138) (hcallx _ _ ((bu e.op).2+1) (wt.to hBW) wr (by unfold bt;omega) (by omega)) ?_;clear wr;rintro e w5 ⟨⟨_,rfl⟩,fw5,wr⟩;refine⟨_,rfl,?_⟩;replace wt:=wt.wt fw5;replace k3:=k3.wt fw5;replace k4:=k4.wt fw5;refine mN 3 4 6 7 8 9 28 31 56 65 74 82 88 92 96 100 (aG ?_);refine Zv (aa.ag rfl rfl Tryz.underlying192 rfl k3 rfl) ?_;refine Zv (aa.nilCheck rfl rfl) ?_;refine Zf 0 Tryz.underlying232 ?_;refine Zm ?_;refine Zv (aa.dv (a:=[32]) rfl rfl rfl (by simp only[List.length_cons,List.length_nil];omega)) ?_;refine Zv (aa.dv (b:=[32]) rfl rfl rfl (by simp only[List.length_append,List.length_cons,List.length_nil];omega)) ?_;have i0:=hil ((bu e.op).2+1);refine Zc (Ze Tryz.func174) ((bT B g ([32]++(bu e.op).1++[32]) _ _ wr (Cp (by decide) b2 (by decide)) (by simp only[List.length_append,List.length_cons,List.length_nil];omega)).1) ?_;clear wr;rintro e w6 ⟨⟨_,rfl⟩,fw6,wr⟩;refine⟨_,rfl,?_⟩;replace wt:=wt.wt fw6;replace k3:=k3.wt fw6;replace k4:=k4.wt fw6;refine mN 3 4 6 7 8 9 28 31 56 65 74 82 88 92 96 100 (Zt ?_);refine Cd.draw 7 (by kernel_rfl) [] (.inl rfl) rfl Grow Grow.refl (fun _ _ _=>Grow.trans) ?_;intro w7 hw7 zw7;replace wt:=wt.step hw7;replace wr:=wr.step hw7;replace k3:=k3.step hw7;replace k4:=k4.step hw7;have zlt:=k4.lt;refine Zd (fun w hG=>aa.ag rfl rfl Tryz.underlying192 rfl (k3.step hG) rfl) ?_;refine Zd (fun w hG=>aa.an 3 rfl rfl Tryz.underlying105 rfl (by kernel_rfl)) ?_;refine Zd (fun w hG=>aa.ag rfl rfl Tryz.underlying68 rfl (k4.step hG) rfl) ?_;refine Zd (fun w hG=>aa.bI rfl rfl rfl Tryz.underlying68 (s:=4) (by kernel_rfl) (j:=1) rfl (by omega)) ?_;refine Zd (fun w hG=>aa.ef (ps:=[.int .i64 y.op, .int .i64 y.n, .string (strOf y.name), .slice A1 y.args.length A1']) rfl rfl Tryz.underlying105 rfl (m:=4) (by kernel_rfl) rfl (hcy _ ((wt.to hBW).trans (hG.mono wr.size)))) ?_;refine cn ?_;refine Zd (fun w hG=>aa.jH rfl rfl rfl (by omega) (by omega)) ?_;refine Dr.nil ?_;refine ba.done (F':=[(3,_),(4,_),(6,_),(7,_),(8,_),(9,_),(28,_),(31,_),(48,_),(52,_),(54,_),(56,_),(65,_),(74,_),(82,_),(88,_),(92,_),(96,_),(100,_)]) rfl ⟨rfl,rfl,rfl,rfl,rfl,rfl,rfl,rfl,rfl,rfl,rfl,rfl,rfl,rfl,rfl,rfl,rfl,rfl,rfl,trivial⟩ ?_;intro w8 hw8 fw8;replace wt:=wt.step hw8;replace wr:=wr.step hw8;replace k3:=k3.step hw8;replace k4:=k4.step hw8;refine Zc (Ze Tryz.func138) (hcally _ _ ((bu e.op).2+1) (wt.to hBW) wr (by unfold bt;omega) (by simp only[List.length_append,List.length_cons,List.length_nil];omega)) ?_;clear wr;rintro e w9 ⟨⟨_,rfl⟩,fw9,wr⟩;refine⟨_,rfl,?_⟩;replace wt:=wt.wt fw9;refine mN 3 4 6 7 8 9 28 31 56 65 74 82 88 92 96 100 (ab.aj ?_);refine ab.dV (F':=[]) trivial ?_;exact hend _ _ (.inr rfl) wt (by rw[hT];simpa only[List.append_assoc,oc] using wr)
 ·rw[if_neg c3',if_pos hp] at hT
  refine Cd.skip (aJ ?_);refine Cd.draw 6 (by kernel_rfl) [] (.inl rfl) rfl Grow Grow.refl (fun _ _ _=>Grow.trans) ?_;intro w3 hw3 zw3;replace wt:=wt.step hw3;replace wr:=wr.step hw3;replace k3:=k3.step hw3;replace k4:=k4.step hw3;have zlt:=k4.lt;refine Zd (fun w hG=>aa.ag rfl rfl Tryz.underlying192 rfl (k3.step hG) rfl) ?_;refine Zd (fun w hG=>aa.an 3 rfl rfl Tryz.underlying105 rfl (by kernel_rfl)) ?_;refine Zd (fun w hG=>aa.ag rfl rfl Tryz.underlying68 rfl (k4.step hG) rfl) ?_;refine Zd (fun w hG=>aa.bI rfl rfl rfl Tryz.underlying68 (s:=4) (by kernel_rfl) (j:=0) rfl (by omega)) ?_;refine Zd (fun w hG=>aa.ef (ps:=[.int .i64 x.op, .int .i64 x.n, .string (strOf x.name), .slice A0 x.args.length A0']) rfl rfl Tryz.underlying105 rfl (m:=4) (by kernel_rfl) rfl (hcx _ ((wt.to hBW).trans (hG.mono wr.size)))) ?_;refine cn ?_;refine Dr.nil ?_;refine ba.done (F':=[(3,_),(4,_),(6,_),(7,_),(8,_),(9,_),(28,_),(31,_),(34,_),(38,_),(39,_),(56,_),(65,_),(74,_),(82,_),(88,_),(92,_),(96,_),(100,_)]) rfl ⟨rfl,rfl,rfl,rfl,rfl,rfl,rfl,rfl,rfl,rfl,rfl,rfl,rfl,rfl,rfl,rfl,rfl,rfl,rfl,trivial⟩ ?_;intro w4 hw4 fw4;replace wt:=wt.step hw4;replace wr:=wr.step hw4;replace k3:=k3.step hw4;replace k4:=k4.step hw4;refine Zc (Ze Tryz.func138) (hcallx _ _ (bu e.op).2 (wt.to hBW) wr (by unfold bt;omega) (by omega)) ?_;clear wr;rintro e w5 ⟨⟨_,rfl⟩,fw5,wr⟩;refine⟨_,rfl,?_⟩;replace wt:=wt.wt fw5;replace k3:=k3.wt fw5;replace k4:=k4.wt fw5;refine mN 3 4 6 7 8 9 28 31 56 65 74 82 88 92 96 100 (aG ?_);refine Zv (aa.ag rfl rfl Tryz.underlying192 rfl k3 rfl) ?_;refine Zv (aa.nilCheck rfl rfl) ?_;refine Zf 0 Tryz.underlying232 ?_;refine Zm ?_;refine Zv (aa.dv (a:=[32]) rfl rfl rfl (by simp only[List.length_cons,List.length_nil];omega)) ?_;refine Zv (aa.dv (b:=[32]) rfl rfl rfl (by simp only[List.length_append,List.length_cons,List.length_nil];omega)) ?_;have i0:=hil (bu e.op).2;refine Zc (Ze Tryz.func174) ((bT B g ([32]++(bu e.op).1++[32]) _ _ wr (Cp (by decide) b2 (by decide)) (by simp only[List.length_append,List.length_cons,List.length_nil];omega)).1) ?_;clear wr;rintro e w6 ⟨⟨_,rfl⟩,fw6,wr⟩;refine⟨_,rfl,?_⟩;replace wt:=wt.wt fw6;replace k3:=k3.wt fw6;replace k4:=k4.wt fw6;refine mN 3 4 6 7 8 9 28 31 56 65 74 82 88 92 96 100 (Zt ?_);refine Cd.draw 7 (by kernel_rfl) [] (.inl rfl) rfl Grow Grow.refl (fun _ _ _=>Grow.trans) ?_;intro w7 hw7 zw7;replace wt:=wt.step hw7;replace wr:=wr.step hw7;replace k3:=k3.step hw7;replace k4:=k4.step hw7;have zlt:=k4.lt;refine Zd (fun w hG=>aa.ag rfl rfl Tryz.underlying192 rfl (k3.step hG) rfl) ?_;refine Zd (fun w hG=>aa.an 3 rfl rfl Tryz.underlying105 rfl (by kernel_rfl)) ?_;refine Zd (fun w hG=>aa.ag rfl rfl Tryz.underlying68 rfl (k4.step hG) rfl) ?_;refine Zd (fun w hG=>aa.bI rfl rfl rfl Tryz.underlying68 (s:=4) (by kernel_rfl) (j:=1) rfl (by omega)) ?_;refine Zd (fun w hG=>aa.ef (ps:=[.int .i64 y.op, .int .i64 y.n, .string (strOf y.name), .slice A1 y.args.length A1']) rfl rfl Tryz.underlying105 rfl (m:=4) (by kernel_rfl) rfl (hcy _ ((wt.to hBW).trans (hG.mono wr.size)))) ?_;refine cn ?_;refine Zd (fun w hG=>aa.jH rfl rfl rfl (by omega) (by omega)) ?_;refine Dr.nil ?_;refine ba.done (F':=[(3,_),(4,_),(6,_),(7,_),(8,_),(9,_),(28,_),(31,_),(48,_),(52,_),(54,_),(56,_),(65,_),(74,_),(82,_),(88,_),(92,_),(96,_),(100,_)]) rfl ⟨rfl,rfl,rfl,rfl,rfl,rfl,rfl,rfl,rfl,rfl,rfl,rfl,rfl,rfl,rfl,rfl,rfl,rfl,rfl,trivial⟩ ?_;intro w8 hw8 fw8;replace wt:=wt.step hw8;replace wr:=wr.step hw8;replace k3:=k3.step hw8;replace k4:=k4.step hw8;refine Zc (Ze Tryz.func138) (hcally _ _ ((bu e.op).2+1) (wt.to hBW) wr (by unfold bt;omega) (by simp only[List.length_append,List.length_cons,List.length_nil];omega)) ?_;clear wr;rintro e w9 ⟨⟨_,rfl⟩,fw9,wr⟩;refine⟨_,rfl,?_⟩;replace wt:=wt.wt fw9;refine mN 3 4 6 7 8 9 28 31 56 65 74 82 88 92 96 100 (ab.aj ?_);refine ab.dV (F':=[]) trivial ?_;exact hend _ _ (.inr rfl) wt (by rw[hT];simpa only[List.append_assoc,oc] using wr)
def jw (right:Bool)(T:List Nat):List Nat × Int:=if right=false then([],1) else if 4000<T.length then([],4) else(T,0)
theorem nz (w:World):(Instr.build 232 #[]).run Tryz.prog w= .ok (.agg #[.pointer none, .slice none 0 0]) w:=by kernel_rfl
theorem uk (right:Bool)(T:List Nat)(f:Nat)(cp:List Value)(w:World)(eg:∀args w,(callFunc f args).run Tryz.prog w= .ok (.enter f args) w)(hTl:T.length≤1000000)
  (hw:right=true→∀W g,Below w.heap.size w W→Bw W w.heap.size g []→Calls Tryz.prog f ([]++[Value.pointer (some ⟨g,0,none⟩)]++cp).toArray W (ij w.heap.size g T W)):
  Calls Tryz.prog 129 #[.bool right, .func (.func f) #[] cp.toArray] w fun e w'=>e= .returned (.tuple #[.string (strOf (jw right T).1), .int .i64 (jw right T).2])∧Grow w w':=by
 have ae:=Below.refl w.heap.size w;unfold jw;refine Zs 23 Tryz.func129 ?_;refine ao ?_;refine Za ?_;refine Za ?_;refine aV 0 1 4 5 (aJ (ao ?_));refine Zm ?_;refine Zv (aa.not rfl rfl) ?_;refine aU 0 1 4 5 8 (Zt ?_);refine Cd.cond rfl (fun hc=> ?_) (fun hc=> ?_)
 ·obtain rfl:right=false:=by simpa using hc
  refine ao ?_;refine Za ?_;refine Za ?_;refine aU 0 1 4 5 8 (Zt (Cd.ret (ab.af ?_)));refine ab.bf rfl rfl rfl (.inl rfl) ?_;exact⟨rfl,ae⟩
 ·obtain rfl:right=true:=by simpa using hc
  have hw:=hw rfl;refine Cd.skip (aG ?_);refine Zv (aa.build rfl rfl (nz _)) ?_;refine Seq.box rfl rfl rfl rfl rfl ?_;intro g10 w1 n10;have e10:=Nat.le_trans ae.size n10.ge;replace ae:=ae.step n10.below;have k10:=n10.av;refine Za ?_;refine bj 0 1 4 5 6 8 (aG ?_);refine Zm ?_;refine Zm ?_;have wr:Bw _ w.heap.size g10 []:=⟨e10,fun d hd=>(by cases hd),_,_, .inl rfl,k10,Own.nil _ _ _ _,fun _=>rfl⟩;have wt:=Wt.grow (B:=w.heap.size) ae;refine Seq.call (Enters.value (first:=[]) rfl rfl rfl eg) rfl rfl rfl (hw _ g10 ae wr) ?_;clear wr;rintro en w9 ⟨⟨_,rfl⟩,f9,wr⟩;refine⟨_,rfl,?_⟩;replace wt:=wt.wt f9;refine bj 0 1 4 5 6 8 (aJ (ao ?_));refine Zm ?_;refine Zv (aa.nilCheck rfl rfl) ?_;refine Zf 0 Tryz.underlying232 ?_;have hBw:=wr.size;refine Zc (Ze Tryz.func172) (Ap w.heap.size g10 _ _ wr) ?_;rintro en w10 ⟨rfl,hb10⟩;refine⟨_,rfl,?_⟩;replace wt:=wt.step hb10;replace wr:=wr.step hb10;refine Zv (aa.gtr rfl rfl rfl) ?_;refine bb 0 1 4 5 6 8 18 (Zt ?_);refine Cd.au rfl (fun hc=> ?_) (fun hc=> ?_)
  ·skip
   refine ao ?_;refine Za ?_;refine Za ?_;refine bb 0 1 4 5 6 8 18 (Zt (Cd.ret (ab.af ?_)));refine ab.bf rfl rfl rfl (.inl rfl) ?_;rw[if_neg (by decide),if_pos (by omega)];exact⟨rfl,wt.to (Nat.le_refl _)⟩
  ·skip
   refine Cd.skip (aG ?_);refine Zm ?_;refine Zv (aa.nilCheck rfl rfl) ?_;refine Zf 0 Tryz.underlying232 ?_;refine Zc (Ze Tryz.func173) (ub w.heap.size g10 _ _ wr (by omega)) ?_;rintro en w11 ⟨rfl,hb11⟩;refine⟨_,rfl,?_⟩;have hfin:=(wt.to (Nat.le_refl _)).trans hb11;refine Za ?_;refine Za ?_;refine bb 0 1 4 5 6 8 18 (Zt (Cd.ret ?_));refine ab.bf rfl rfl rfl (.inl rfl) ?_;rw[if_neg (by decide),if_neg (by omega)];exact⟨by simp,hfin⟩
theorem kH (a b:Int)(w:World):(Instr.build 105 #[(0, .int .i64 a),(1, .int .i64 b)]).run Tryz.prog w= .ok (.agg #[.int .i64 a, .int .i64 b, .string (strOf []), .slice none 0 0]) w:=by
 have hu:=Tryz.underlying105
 go_simp
 rfl
theorem nT (a:Int)(g:Nat)(w:World):(Instr.build 105 #[(0, .int .i64 a),(3, .slice (some ⟨g,0,none⟩) 2 2)]).run Tryz.prog w= .ok (.agg #[.int .i64 a, .int .i64 0, .string (strOf []), .slice (some ⟨g,0,none⟩) 2 2]) w:=by
 have hu:=Tryz.underlying105
 go_simp
 rfl
inductive Tm where
 |mk (op:Int) (name:List Nat) (exprs:List Ex) (aH:List Tm)
def Tm.op:Tm→Int| .mk op _ _ _=>op
def Tm.name:Tm→List Nat| .mk _ nm _ _=>nm
def Tm.exprs:Tm→List Ex| .mk _ _ l _=>l
def Tm.aH:Tm→List Tm| .mk _ _ _ l=>l
mutual
def Tm.nodes:Tm→Nat
 | .mk _ _ es l=>1+aM es+ct l
def ct:List Tm→Nat
 | []=>0
 |e::r=>e.nodes+ct r
end
mutual
def Tm.depth:Tm→Nat
 | .mk _ _ es l=>1+max (aZ es) (cD l)
def cD:List Tm→Nat
 | []=>0
 |e::r=>max e.depth (cD r)
end
theorem Tm.dI (op:Int)(nm:List Nat)(es:List Ex)(l:List Tm):(Tm.mk op nm es l).nodes=1+aM es+ct l:=by rw[Tm.nodes]
theorem Tm.ft (op:Int)(nm:List Nat)(es:List Ex)(l:List Tm):(Tm.mk op nm es l).depth=1+max (aZ es) (cD l):=by rw[Tm.depth]
theorem Tm.kQ (t:Tm):t.nodes=1+aM t.exprs+ct t.aH:=by cases t;exact Tm.dI _ _ _ _
theorem Tm.kM (t:Tm):t.depth=1+max (aZ t.exprs) (cD t.aH):=by cases t;exact Tm.ft _ _ _ _
theorem vB {l:List Tm}{t:Tm}(h:t∈l):t.nodes≤ct l:=by
 induction l with
 |nil=>cases h
 |cons x r ih=>
  unfold ct;rcases List.mem_cons.1 h with rfl|h
  ·omega
  ·have:=ih h;omega
theorem vK {l:List Tm}{t:Tm}(h:t∈l):t.depth≤cD l:=by
 induction l with
 |nil=>cases h
 |cons x r ih=>
  unfold cD;rcases List.mem_cons.1 h with rfl|h
  ·omega
  ·have:=ih h;omega
theorem Tm.fE {t x:Tm}(h:x∈t.aH):x.nodes<t.nodes:=by have:=vB h;have:=t.kQ;omega
theorem Tm.oN {t x:Tm}(h:x∈t.aH):x.depth<t.depth:=by have:=vK h;have:=t.kM;omega
theorem Tm.qe {t:Tm}{x:Ex}(h:x∈t.exprs):x.nodes<t.nodes:=by have:=mg h;have:=t.kQ;omega
theorem Tm.wE {t:Tm}{x:Ex}(h:x∈t.exprs):x.depth<t.depth:=by have:=pc h;have:=t.kM;omega
theorem Tm.cO (t:Tm):0<t.nodes:=by have:=t.kQ;omega
mutual
theorem Tm.bV:∀t:Tm,t.depth≤t.nodes
 | .mk _ _ es l=>by unfold Tm.depth Tm.nodes;have:=iO l;have:=dL es;omega
theorem iO:∀l:List Tm,cD l≤ct l
 | []=>Nat.le_refl _
 |e::r=>by unfold cD ct;have:=Tm.bV e;have:=iO r;omega
end
inductive dm (w:World)(S:Nat→Prop):Tm→Value→Prop
 |mk {op:Int} {nm:List Nat} {es:List Ex} {ts:List Tm} {A A':Option Addr} {c c':Nat} {vs us:List Value} (hl:vs.length=es.length) (hl':us.length=ts.length) (jV:es.length≤1000) (mq:ts.length≤1000) (hop:bt op) (hnm:∀d∈nm,d<256) (hnl:nm.length≤9223372036854775807)
   (hr:∀(i:Nat) (e:Ex) (v:Value),es[i]? =some e→vs[i]? =some v→cw w S e v) (hr':∀(i:Nat) (t:Tm) (v:Value),ts[i]? =some t→us[i]? =some v→dm w S t v) (hA:Rows w S A (aP vs)) (hA':Rows w S A' (aP us)):dm w S (.mk op nm es ts) (.agg #[.int .i64 op, .string (strOf nm), .slice A es.length c, .slice A' ts.length c'])
theorem Rows.mono {w w':World}{S S':Nat→Prop}{A:Option Addr}{xs:List Value}(h:Rows w S A xs)(hS:∀b,S b→S' b)(hc:∀p:Addr,S p.block→w'.cell? p=w.cell? p):Rows w' S' A xs:=fun hne=>by
 obtain⟨ad,e1,e2,e3⟩:=h hne;exact⟨ad,e1,hS _ e2,fun j u hu=>(hc _ (by rw[aw];exact e2)).trans (e3 j u hu)⟩
theorem dm.mono {w w':World}{S S':Nat→Prop}{t:Tm}{v:Value}(h:dm w S t v)(hS:∀b,S b→S' b)(hc:∀p:Addr,S p.block→w'.cell? p=w.cell? p):dm w' S' t v:=by
 induction h with
 |mk hl hl' jV mq hop hnm hnl hr hr' hA hA' ih=>exact .mk hl hl' jV mq hop hnm hnl (fun i e v he hv=>(hr i e v he hv).mono hS hc) ih (hA.mono hS hc) (hA'.mono hS hc)
def fZ (w:World)(B:Nat)(t:Tm)(v:Value):Prop:=dm w (· <B) t v
theorem fZ.below {w w':World}{B:Nat}{t:Tm}{v:Value}(h:fZ w B t v)(hb:Below B w w'):fZ w' B t v:=dm.mono h (fun _ h=>h) (fun _ hp=>hb.cell hp)
theorem fZ.more {w:World}{B B':Nat}{t:Tm}{v:Value}(h:fZ w B t v)(hb:B≤B'):fZ w B' t v:=dm.mono h (fun _ h=>Nat.lt_of_lt_of_le h hb) (fun _ _=>rfl)
theorem dm.sm {w:World}{S:Nat→Prop}{t:Tm}{v:Value}(h:dm w S t v):v.cells.size=4:=by
 cases h;rfl
theorem dm.form {w:World}{S:Nat→Prop}{t:Tm}{v:Value}(h:dm w S t v):∃A c A' c',v= .agg #[.int .i64 t.op, .string (strOf t.name), .slice A t.exprs.length c, .slice A' t.aH.length c']:=by
 cases h;exact⟨_,_,_,_,rfl⟩
def z7 (w:World)(B:Nat)(es:List Ex)(A:Option Addr):Prop:=∀i x,es[i]? =some x→∃ad A' c',A=some ad∧ad.block<B∧qs w B x (.agg #[.int .i64 x.op, .int .i64 x.n, .string (strOf x.name), .slice A' x.args.length c'])∧∀(j:Nat) (u:Value),([.int .i64 x.op, .int .i64 x.n, .string (strOf x.name), .slice A' x.args.length c']:List Value)[j]? =some u→w.cell? ((ad.add (i*4)).add j)=some u
def DL (x:Tm)(A A':Option Addr)(c c':Nat):List Value:=[.int .i64 x.op, .string (strOf x.name), .slice A x.exprs.length c, .slice A' x.aH.length c']
def vx (w:World)(B:Nat)(ts:List Tm)(A:Option Addr):Prop:=∀i x,ts[i]? =some x→∃ad A1 A2 c1 c2,A=some ad∧ad.block<B∧fZ w B x (.agg #[.int .i64 x.op, .string (strOf x.name), .slice A1 x.exprs.length c1, .slice A2 x.aH.length c2])∧∀(j:Nat) (u:Value),(DL x A1 A2 c1 c2)[j]? =some u→w.cell? ((ad.add (i*4)).add j)=some u
theorem z7.below {w w':World}{B:Nat}{es:List Ex}{A:Option Addr}(h:z7 w B es A)(hb:Below B w w'):z7 w' B es A:=fun i x hx=>by
 obtain⟨ad,A',c',e1,e2,e3,e4⟩:=h i x hx;exact⟨ad,A',c',e1,e2,e3.below hb,fun j u hu=>(hb.cell (by rw[aw,aw];exact e2)).trans (e4 j u hu)⟩
theorem vx.below {w w':World}{B:Nat}{ts:List Tm}{A:Option Addr}(h:vx w B ts A)(hb:Below B w w'):vx w' B ts A:=fun i x hx=>by
 obtain⟨ad,A1,A2,c1,c2,e1,e2,e3,e4⟩:=h i x hx;exact⟨ad,A1,A2,c1,c2,e1,e2,e3.below hb,fun j u hu=>(hb.cell (by rw[aw,aw];exact e2)).trans (e4 j u hu)⟩
theorem Cn {w:World}{B:Nat}{es:List Ex}{vs:List Value}{A:Option Addr}(hl:vs.length=es.length)(hr:∀(i:Nat) (e:Ex) (v:Value),es[i]? =some e→vs[i]? =some v→cw w (· <B) e v)(hA:Rows w (· <B) A (aP vs)):z7 w B es A:=fun i x hx=>by
 have hi:=(List.getElem?_eq_some_iff.1 hx).1;obtain⟨v,hv⟩:∃v,vs[i]? =some v:=⟨_,List.getElem?_eq_getElem (by omega)⟩;have hrx:=hr i x v hx hv
 have h4:∀y∈vs,y.cells.size=4:=fun y hy=>by
  obtain⟨k,hk,rfl⟩:=List.getElem_of_mem hy;obtain⟨z,hz⟩:∃z,es[k]? =some z:=⟨_,List.getElem?_eq_getElem (by omega)⟩;exact(hr k z _ hz (List.getElem?_eq_getElem hk)).sm
 obtain⟨A',c',rfl⟩:=hrx.form;have hne:aP vs≠ []:=fun h0=>by have:=iX h4 hv 0 _ rfl;rw[h0] at this;cases this
 obtain⟨ad,rfl,hb,hc⟩:=hA hne;exact⟨ad,A',c',rfl,hb,hrx,fun j u hu=>by rw[fF];exact hc _ _ (iX h4 hv j u (by simpa[Value.cells] using hu))⟩
theorem CK {w:World}{B:Nat}{ts:List Tm}{vs:List Value}{A:Option Addr}(hl:vs.length=ts.length)(hr:∀(i:Nat) (e:Tm) (v:Value),ts[i]? =some e→vs[i]? =some v→dm w (· <B) e v)(hA:Rows w (· <B) A (aP vs)):vx w B ts A:=fun i x hx=>by
 have hi:=(List.getElem?_eq_some_iff.1 hx).1;obtain⟨v,hv⟩:∃v,vs[i]? =some v:=⟨_,List.getElem?_eq_getElem (by omega)⟩;have hrx:=hr i x v hx hv
 have h4:∀y∈vs,y.cells.size=4:=fun y hy=>by
  obtain⟨k,hk,rfl⟩:=List.getElem_of_mem hy;obtain⟨z,hz⟩:∃z,ts[k]? =some z:=⟨_,List.getElem?_eq_getElem (by omega)⟩;exact(hr k z _ hz (List.getElem?_eq_getElem hk)).sm
 obtain⟨A1,c1,A2,c2,rfl⟩:=hrx.form;have hne:aP vs≠ []:=fun h0=>by have:=iX h4 hv 0 _ rfl;rw[h0] at this;cases this
 obtain⟨ad,rfl,hb,hc⟩:=hA hne;exact⟨ad,A1,A2,c1,c2,rfl,hb,hrx,fun j u hu=>by rw[fF];exact hc _ _ (iX h4 hv j u (by simpa[Value.cells,DL] using hu))⟩
structure ra (w:World)(B:Nat)(t:Tm)(A A':Option Addr):Prop where
 jV:t.exprs.length≤1000
 mq:t.aH.length≤1000
 op:bt t.op
 name:∀d∈t.name,d<256
 Bg:t.name.length≤9223372036854775807
 expr:z7 w B t.exprs A
 term:vx w B t.aH A'
theorem fZ.open {w:World}{B:Nat}{t:Tm}{v:Value}(h:fZ w B t v):∃A c A' c',v= .agg #[.int .i64 t.op, .string (strOf t.name), .slice A t.exprs.length c, .slice A' t.aH.length c']∧ra w B t A A':=by
 have h':dm w (· <B) t v:=h
 cases h' with
 | @mk op nm es ts A A' c c' vs us hl hl' jV mq hop hnm hnl hr hr' hA hA'=>
  exact⟨A,c,A',c',rfl,jV,mq,hop,hnm,hnl,Cn hl hr hA,CK hl' hr' hA'⟩
theorem ra.below {w w':World}{B:Nat}{t:Tm}{A A':Option Addr}(h:ra w B t A A')(hb:Below B w w'):ra w' B t A A':=⟨h.jV,h.mq,h.op,h.name,h.Bg,h.expr.below hb,h.term.below hb⟩
def DR (s:Int × Int):List Ex→Int × Int
 | []=>s
 |e::r=>DR (dK s (zC e)) r
mutual
def wS:Tm→Int × Int
 | .mk _ _ es l=>zV (DR (1,1) es) l
def zV (s:Int × Int):List Tm→Int × Int
 | []=>s
 |t::r=>if 1000≤s.1 then(1000,1000) else zV (dK s (wS t)) r
end
theorem wD:∀(l:List Ex) (s:Int × Int),Sz s→Sz (DR s l)
 | [],_,h=>h
 |e::r,s,h=>wD r _ (eB h (si e))
mutual
theorem z6:∀t,Sz (wS t)
 | .mk op nm es l=>by rw[wS];exact BE _ (wD es _ ⟨by simp,by simp⟩) l
theorem BE:∀(s:Int × Int),Sz s→∀l,Sz (zV s l)
 |s,h,[]=>by rw[zV];exact h
 |s,h,e::r=>by
  rw[zV];split
  ·exact⟨by simp,by simp⟩
  ·exact BE _ (eB h (z6 e)) r
end
theorem rz {s t:Int × Int}{n d n' d':Nat}(h:uV s n d)(k:uV t n' d')(h2:d≤n)(h3:d'≤n'):uV (dK s t) (n+n') (max d (1+d'))∨(1000≤n+n'∧uV (dK s t) (n+n') (max d (1+d'))):=by
 obtain⟨a,b⟩:=h;obtain⟨a',b'⟩:=k
 left
 refine⟨by unfold dK;simp only;omega,fun h=> ?_⟩;unfold dK;simp only;rw[b (by omega),b' (by omega)];omega
theorem xg:∀(l:List Ex) (s:Int × Int) (n d:Nat),uV s n d→1≤d→d≤n→uV (DR s l) (n+aM l) (max d (1+aZ l))∧max d (1+aZ l)≤n+aM l
 | [],s,n,d,h,h1,h2=>by
  rw[aM,aZ,show max d (1+0)=d by omega];exact⟨h,by omega⟩
 |e::r,s,n,d,h,h1,h2=>by
  rw[aM,aZ];have he:=xw e;have hn:=Ex.bV e;have hp:=e.cO;have hw:=(rz h he h2 hn).elim id (fun h=>h.2);have:=xg r _ _ _ hw (by omega) (by omega);rw[show n+(e.nodes+aM r)=n+e.nodes+aM r by omega,show max d (1+max e.depth (aZ r))=max (max d (1+e.depth)) (1+aZ r) by omega];exact this
mutual
theorem rQ:∀t,uV (wS t) t.nodes t.depth
 | .mk op nm es l=>by
  rw[wS,Tm.dI,Tm.ft];have h0:uV (1,1) 1 1:=⟨(by show(1:Int)=min ((1:Nat):Int) 1000;omega),fun _=>rfl⟩;obtain⟨h1,h2⟩:=xg es (1,1) 1 1 h0 (Nat.le_refl _) (Nat.le_refl _);have:=xp _ _ _ h1 (by omega) h2 l
  rwa [show max (max 1 (1+aZ es)) (1+cD l)=1+max (aZ es) (cD l) by omega] at this
theorem xp:∀(s:Int × Int) (n d:Nat),uV s n d→1≤d→d≤n→∀l,uV (zV s l) (n+ct l) (max d (1+cD l))
 |s,n,d,h,h1,h2,[]=>by
  rw[zV,ct,cD,show max d (1+0)=d by omega];exact h
 |s,n,d,h,h1,h2,e::r=>by
  rw[zV,ct,cD];have he:=rQ e;have hn:=Tm.bV e;have hp:=e.cO;split
  ·obtain⟨a,b⟩:=h
   exact⟨by simp only;omega,fun h=>by omega⟩
  ·have hw:=(rz h he h2 hn).elim id (fun h=>h.2)
   have:=xp _ _ _ hw (by omega) (by omega) r;rw[show n+(e.nodes+ct r)=n+e.nodes+ct r by omega,show max d (1+max e.depth (cD r))=max (max d (1+e.depth)) (1+cD r) by omega];exact this
end
theorem aI:cf Tryz.prog 71=some (some (.agg #[.int .i64 0, .string {data:= #[]}, .slice none 0 0, .slice none 0 0])):=by kernel_rfl
def yY (at_:Nat)(s:Int × Int):List Ex→Int × Int
 | []=>s
 |e::r=>yY at_ (dK s (sS e (at_+1))) r
mutual
def sH:Tm→Nat→Int × Int
 | .mk _ _ es l,at_=>uA at_ (yY at_ (1,1) es) l
def uA (at_:Nat)(s:Int × Int):List Tm→Int × Int
 | []=>s
 |t::r=>if 1000≤at_∨1000≤s.1 then(1000,1000) else uA at_ (dK s (sH t (at_+1))) r
end
theorem DC (t:Tm)(at_:Nat):sH t at_=uA at_ (yY at_ (1,1) t.exprs) t.aH:=by cases t;rw[sH];rfl
theorem tY (at_:Nat)(s:Int × Int)(e:Tm)(r:List Tm):uA at_ s (e::r)=if 1000≤at_∨1000≤s.1 then(1000,1000) else uA at_ (dK s (sH e (at_+1))) r:=by rw[uA]
theorem wV (at_:Nat)(s:Int × Int):uA at_ s []=s:=by rw[uA]
theorem zD (at_:Nat):∀(l:List Ex) (s:Int × Int),Sz s→Sz (yY at_ s l)
 | [],_,h=>h
 |e::r,s,h=>zD at_ r _ (eB h (qj e _))
mutual
theorem Br:∀(t:Tm) (at_:Nat),Sz (sH t at_)
 | .mk op nm es l,at_=>by rw[sH];exact Bo at_ _ (zD at_ es _ ⟨by simp,by simp⟩) l
theorem Bo:∀(at_:Nat) (s:Int × Int),Sz s→∀l,Sz (uA at_ s l)
 |at_,s,h,[]=>by rw[uA];exact h
 |at_,s,h,e::r=>by
  rw[uA];split
  ·exact⟨by simp,by simp⟩
  ·exact Bo at_ _ (eB h (Br e _)) r
end
theorem yS {t:Int × Int}(h:Sz t):dK (1000,1000) t=(1000,1000):=by
 unfold Sz at h;unfold dK;simp only[Prod.mk.injEq];omega
theorem xq (at_:Nat):∀(l:List Ex),yY at_ (1000,1000) l=(1000,1000)
 | []=>rfl
 |e::r=>by rw[yY,yS (qj e _)];exact xq at_ r
theorem xi (at_:Nat)(l:List Tm):uA at_ (1000,1000) l=(1000,1000):=by
 cases l with
 |nil=>rw[wV]
 |cons e r=>rw[tY,if_pos (.inr (by decide))]
theorem zu (at_:Nat):∀(l:List Ex) (s:Int × Int),Sz s→yY at_ s l=DR s l∨(yY at_ s l=(1000,1000)∧1001≤aZ l+at_)
 | [],s,h=> .inl rfl
 |e::r,s,h=>by
  rw[yY,DR,aZ];rcases At e (at_+1) with h3|⟨h3,h4⟩
  ·rw[h3]
   rcases zu at_ r (dK s (zC e)) (eB h (si e)) with h5|⟨h5,h6⟩
   ·exact .inl h5
   ·exact .inr ⟨h5,by omega⟩
  ·rw[h3,ny h,xq]
   exact .inr ⟨rfl,by omega⟩
mutual
theorem vZ:∀(t:Tm) (at_:Nat),sH t at_=wS t∨(sH t at_=(1000,1000)∧1002≤t.depth+at_)
 | .mk op nm es l,at_=>by
  rw[sH,wS,Tm.ft];rcases zu at_ es (1,1) ⟨by simp,by simp⟩ with h0|⟨h0,h1⟩
  ·rw[h0]
   rcases Ay at_ _ (wD es (1,1) ⟨by simp,by simp⟩) l with h|⟨h1,h2⟩
   ·exact .inl h
   ·exact .inr ⟨h1,by omega⟩
  ·rw[h0,xi]
   exact .inr ⟨rfl,by omega⟩
theorem Ay:∀(at_:Nat) (s:Int × Int),Sz s→∀l,uA at_ s l=zV s l∨(uA at_ s l=(1000,1000)∧1001≤cD l+at_)
 |at_,s,h,[]=>by rw[uA,zV];exact .inl rfl
 |at_,s,h,e::r=>by
  rw[uA,zV,cD];have hd:0<e.depth:=by rw[e.kM];omega
  by_cases h1:1000≤s.1
  ·rw[if_pos (.inr h1),if_pos h1];exact .inl rfl
  ·by_cases h2:1000≤at_
   ·rw[if_pos (.inl h2)];exact .inr ⟨rfl,by omega⟩
   ·rw[if_neg (by omega),if_neg h1]
    rcases vZ e (at_+1) with h3|⟨h3,h4⟩
    ·rw[h3]
     rcases Ay at_ (dK s (wS e)) (eB h (z6 e)) r with h5|⟨h5,h6⟩
     ·exact .inl h5
     ·exact .inr ⟨h5,by omega⟩
    ·rw[h3,ny h,xi]
     exact .inr ⟨rfl,by omega⟩
end
theorem Cq (t:Tm):uV (sH t 0) t.nodes t.depth:=by
 rcases vZ t 0 with h|⟨h1,h2⟩
 ·rw[h];exact rQ t
 ·rw[h1]
  have:=t.bV;exact⟨by simp only;omega,fun h=>by omega⟩
theorem CA {t:Tm}{at_:Nat}(h:t.depth+at_≤900):sH t at_=wS t:=by
 rcases vZ t at_ with h1|⟨h1,h2⟩
 ·exact h1
 ·omega
theorem mF (N:Nat):∀(t:Tm) (at_:Nat) (B:Nat) (v:Value) (w:World),t.nodes≤N→at_≤1000→fZ w B t v→B≤w.heap.size→Calls Tryz.prog 140 #[v, .int .i64 (at_:Int)] w fun en w'=>en= .returned (.agg #[.int .i64 (sH t at_).1, .int .i64 (sH t at_).2])∧Grow w w':=by
 induction N with
 |zero=>intro t at_ B v w hN;have:=t.cO;omega
 |succ N ih=>
 intro t at_ B v w hN hdep hrep hB;obtain⟨A,c,A',c',rfl,hv⟩:=hrep.open;have ae:=Below.refl w.heap.size w;have hdp:0<t.depth:=by rw[t.kM];omega
 have jV:=hv.jV;have mq:=hv.mq;refine Zs 48 Tryz.func140 ?_;refine ao ?_;refine Seq.box rfl rfl rfl rfl rfl ?_;intro g2 w1 n2;have e2:=Nat.le_trans ae.size n2.ge;replace ae:=ae.step n2.below;have k2:=n2.av;refine Zl eP ?_;intro g4 w2 n4;have e4:=Nat.le_trans ae.size n4.ge;have l4:=Nat.lt_of_lt_of_le k2.lt n4.ge;replace ae:=ae.step n4.below;replace k2:=k2.step n4.below;have k4:=n4.av;refine aV 0 1 2 4 (aG ?_);refine Zv (aa.build rfl rfl (eR _ _ _)) ?_;refine Zl eP ?_;intro g5 w3 n5;have e5:=Nat.le_trans ae.size n5.ge;have l5:=Nat.lt_of_lt_of_le k4.lt n5.ge;have l5_k2:=Nat.lt_of_lt_of_le k2.lt n5.ge;replace ae:=ae.step n5.below;replace k2:=k2.step n5.below;replace k4:=k4.step n5.below;have k5:=n5.av;refine Zo 2 k5 ?_;intro w4 pw4;replace ae:=ae.put k5 pw4 e5;replace k2:=k2.put pw4 (by omega);replace k4:=k4.put pw4 (by omega);replace k5:=pw4.av;refine aU 0 1 2 4 5 (aJ (ao ?_));refine Zf 2 Tryz.underlying71 ?_;refine Zv (aa.ag rfl rfl Tryz.underlying68 rfl k2 rfl) ?_;refine Zv (aa.len rfl rfl Tryz.underlying68) ?_;refine Zm ?_;refine cI 0 1 2 4 5 12 13 14 (Zt (Cd.block ?_))
 refine Cd.loop (σ:=Nat × (Int × Int)) (fun s=>[(1, .int .i64 (at_:Int)),(2, .pointer (some ⟨g2,0,none⟩)),(4, .pointer (some ⟨g4,0,none⟩)),(5, .pointer (some ⟨g5,0,none⟩)),(12, .slice A t.exprs.length c),(13, .int .i64 (t.exprs.length:Int)),(14, .int .i64 (s.1:Int))])
  (fun s wr=>s.1≤t.exprs.length∧Sz s.2∧yY at_ s.2 (t.exprs.drop s.1)=yY at_ (1,1) t.exprs∧Below w.heap.size w wr∧aK wr g2 71 #[.int .i64 t.op, .string (strOf t.name), .slice A t.exprs.length c, .slice A' t.aH.length c']∧aK wr g4 200 #[.int .i64 0, .int .i64 0]∧aK wr g5 200 #[.int .i64 s.2.1, .int .i64 s.2.2]) (fun s=>t.exprs.length-s.1) (0,(1,1)) ⟨Nat.zero_le _,⟨by simp,by simp⟩,rfl,ae,k2,k4,k5⟩ ⟨rfl,rfl,rfl,rfl,rfl,rfl,rfl,trivial⟩ ?_
 clear ae k2 k4 k5;rintro⟨k,s⟩ wr ⟨hk,hs,hsz,ae,k2,k4,k5⟩;simp only at hk hs hsz k5;show Cd _ _ _ _ [(1, .int .i64 (at_:Int)),(2, .pointer (some ⟨g2,0,none⟩)),(4, .pointer (some ⟨g4,0,none⟩)),(5, .pointer (some ⟨g5,0,none⟩)),(12, .slice A t.exprs.length c),(13, .int .i64 (t.exprs.length:Int)),(14, .int .i64 (k:Int))] _;refine ao ?_;refine Zv (aa.lss rfl rfl rfl) ?_;refine cI 1 2 4 5 12 13 14 15 (aJ ?_);refine Cd.au rfl (fun hc=> ?_) (fun hc=> ?_)
 ·obtain⟨x,hx⟩:∃x,t.exprs[k]? =some x:=⟨_,List.getElem?_eq_getElem (show k<t.exprs.length by omega)⟩
  obtain⟨ad,Ax,cx,rfl,hbl,hrx,hc⟩:=hv.expr k x hx;have hxm:=List.mem_of_getElem? hx;have hxd:=Tm.wE hxm;have hc:=fun j u hj=>((ae.mono hB).cell (p:=(ad.add (k*4)).add j) (by rw[aw,aw];exact hbl)).trans (hc j u hj)
  have hdrop:t.exprs.drop k=x::t.exprs.drop (k+1):=by
   rw[List.drop_eq_getElem_cons (show k<t.exprs.length by omega)];congr 1;obtain⟨_,he⟩:=List.getElem?_eq_some_iff.1 hx;exact he
  rw[hdrop,yY] at hsz;have hrec:=fun W (hb:Below w.heap.size w W)=>sh x.nodes x (at_+1) B _ W (Nat.le_refl _) (by omega) (hrx.below (hb.mono hB)) (Nat.le_trans hB hb.size);have hxs:=qj x (at_+1);have hws:=eB hs hxs;refine Cd.skip (aJ (Cd.block (ao ?_)));refine Zv (aa.bI rfl rfl rfl Tryz.underlying68 (s:=4) (by kernel_rfl) (j:=k) rfl (by omega)) ?_;refine Zv (aa.ef (ps:=[.int .i64 x.op, .int .i64 x.n, .string (strOf x.name), .slice Ax x.args.length cx]) rfl rfl Tryz.underlying105 rfl (m:=4) (by kernel_rfl) rfl hc) ?_;refine Zl ay ?_;intro g7 w5 n7;have e7:=Nat.le_trans ae.size n7.ge;have l7:=Nat.lt_of_lt_of_le k5.lt n7.ge;have l7_k2:=Nat.lt_of_lt_of_le k2.lt n7.ge;have l7_k4:=Nat.lt_of_lt_of_le k4.lt n7.ge;replace ae:=ae.step n7.below;replace k2:=k2.step n7.below;replace k4:=k4.step n7.below;replace k5:=k5.step n7.below;have k7:=n7.av;refine Zo 4 k7 ?_;intro w6 pw6;replace ae:=ae.put k7 pw6 e7;replace k2:=k2.put pw6 (by omega);replace k4:=k4.put pw6 (by omega);replace k5:=k5.put pw6 (by omega);replace k7:=pw6.av;refine dG 1 2 4 5 7 12 13 14 15 (Zt ?_);refine Cd.draw 6 (by kernel_rfl) [] (.inl rfl) rfl Grow Grow.refl (fun _ _ _=>Grow.trans) ?_;intro w7 hw7 zw7;replace ae:=ae.step hw7;replace k2:=k2.step hw7;replace k4:=k4.step hw7;replace k5:=k5.step hw7;replace k7:=k7.step hw7;have zbel:=ae.size;have zlt:=k7.lt;refine Zd (fun w hG=>aa.aQ rfl rfl Tryz.underlying200 rfl (k5.step hG) (m:=2) (by kernel_rfl) rfl) ?_;refine Zd (fun w hG=>aa.aQ rfl rfl Tryz.underlying105 rfl (k7.step hG) (m:=4) (by kernel_rfl) rfl) ?_;refine cn ?_;refine Zd (fun w hG=>aa.jH rfl rfl rfl (by omega) (by omega)) ?_;refine Dr.bP rfl (fun w=>Ze Tryz.func179) rfl (fun w hG=>hrec w (ae.step hG)) ?_;refine Dr.bP rfl (fun w=>Ze Tryz.func186) rfl (fun w hG=>pH s (sS x (at_+1)) w hs.1 hs.2 hxs.1 hxs.2) ?_;refine Dr.nil ?_;refine ba.done (F':=[(1,_),(2,_),(4,_),(5,_),(7,_),(12,_),(13,_),(14,_),(15,_),(23,_)]) rfl ⟨rfl,rfl,rfl,rfl,rfl,rfl,rfl,rfl,rfl,rfl,trivial⟩ ?_;intro w8 hw8 fw8;replace ae:=ae.step hw8;replace k2:=k2.step hw8;replace k4:=k4.step hw8;replace k5:=k5.step hw8;replace k7:=k7.step hw8;refine Zo 2 k5 ?_;intro w9 pw9;replace ae:=ae.put k5 pw9 e5;replace k2:=k2.put pw9 (by omega);replace k4:=k4.put pw9 (by omega);replace k5:=pw9.av;refine dG 1 2 4 5 7 12 13 14 15 (ab.aj (ei ?_));refine cH ?_;refine Zm ?_;refine dG 1 2 4 5 7 12 13 14 15 ?_;exact ab.round (k+1,dK s (sS x (at_+1))) ⟨rfl,rfl,rfl,rfl,rfl,rfl,rfl,trivial⟩ ⟨by simp only;omega,hws,hsz,ae,k2,k4,k5⟩ (by simp only;omega)
 ·obtain rfl:k=t.exprs.length:=by omega
  rw[List.drop_of_length_le (Nat.le_refl _),yY] at hsz;have hT:=DC t at_;rw[←hsz] at hT;refine Cd.exit (ab.aD (ab.aA (ab.az (aJ (ao ?_)))));refine Zf 3 Tryz.underlying71 ?_;refine Zv (aa.ag rfl rfl Tryz.underlying69 rfl k2 rfl) ?_;refine Zv (aa.len rfl rfl Tryz.underlying69) ?_;refine Zm ?_;refine dr 1 2 4 5 12 13 14 15 26 27 28 (Zt (Cd.block ?_))
  refine Cd.loop (σ:=Nat × (Int × Int)) (fun s=>[(1, .int .i64 (at_:Int)),(4, .pointer (some ⟨g4,0,none⟩)),(5, .pointer (some ⟨g5,0,none⟩)),(26, .slice A' t.aH.length c'),(27, .int .i64 (t.aH.length:Int)),(28, .int .i64 (s.1:Int))])
   (fun s wr=>s.1≤t.aH.length∧Sz s.2∧uA at_ s.2 (t.aH.drop s.1)=sH t at_∧Below w.heap.size w wr∧aK wr g4 200 #[.int .i64 0, .int .i64 0]∧aK wr g5 200 #[.int .i64 s.2.1, .int .i64 s.2.2]) (fun s=>t.aH.length-s.1) (0,s) ⟨Nat.zero_le _,hs,hT.symm,ae,k4,k5⟩ ⟨rfl,rfl,rfl,rfl,rfl,rfl,trivial⟩ ?_
  clear ae k2 k4 k5;clear hs hsz hT;rintro⟨k,s⟩ wr ⟨hk,hs,hsz,ae,k4,k5⟩;simp only at hk hs hsz k5;show Cd _ _ _ _ [(1, .int .i64 (at_:Int)),(4, .pointer (some ⟨g4,0,none⟩)),(5, .pointer (some ⟨g5,0,none⟩)),(26, .slice A' t.aH.length c'),(27, .int .i64 (t.aH.length:Int)),(28, .int .i64 (k:Int))] _;refine ao ?_;refine Zv (aa.lss rfl rfl rfl) ?_;refine bb 1 4 5 26 27 28 29 (aJ ?_);refine Cd.au rfl (fun hc=> ?_) (fun hc=> ?_)
  ·obtain⟨x,hx⟩:∃x,t.aH[k]? =some x:=⟨_,List.getElem?_eq_getElem (show k<t.aH.length by omega)⟩
   obtain⟨ad,A1,A2,c1,c2,rfl,hbl,hrx,hc⟩:=hv.term k x hx;have hxm:=List.mem_of_getElem? hx;have hxd:=Tm.oN hxm;have hxn:=Tm.fE hxm;have hc:=fun j u hj=>((ae.mono hB).cell (p:=(ad.add (k*4)).add j) (by rw[aw,aw];exact hbl)).trans (hc j u hj)
   have hdrop:t.aH.drop k=x::t.aH.drop (k+1):=by
    rw[List.drop_eq_getElem_cons (show k<t.aH.length by omega)];congr 1;obtain⟨_,he⟩:=List.getElem?_eq_some_iff.1 hx;exact he
   rw[hdrop,tY] at hsz;refine Cd.skip (aJ (Cd.block (ao ?_)));refine Zv (aa.bI rfl rfl rfl Tryz.underlying69 (s:=4) (by kernel_rfl) (j:=k) rfl (by omega)) ?_;refine Zv (aa.ef (ps:=[.int .i64 x.op, .string (strOf x.name), .slice A1 x.exprs.length c1, .slice A2 x.aH.length c2]) rfl rfl Tryz.underlying71 rfl (m:=4) (by kernel_rfl) rfl hc) ?_;refine Zl aI ?_;intro g9 w5 n9;have e9:=Nat.le_trans ae.size n9.ge;have l9:=Nat.lt_of_lt_of_le k5.lt n9.ge;have l9_k4:=Nat.lt_of_lt_of_le k4.lt n9.ge;replace ae:=ae.step n9.below;replace k4:=k4.step n9.below;replace k5:=k5.step n9.below;have k9:=n9.av;refine Zo 4 k9 ?_;intro w6 pw6;replace ae:=ae.put k9 pw6 e9;replace k4:=k4.put pw6 (by omega);replace k5:=k5.put pw6 (by omega);replace k9:=pw6.av;refine cI 1 4 5 9 26 27 28 29 (aJ (ao ?_));refine Zm ?_;refine Zv (aa.geq rfl rfl rfl) ?_;refine Zm ?_;refine ah.start ?_;refine bM (fun hcx=>aa.an 0 rfl rfl Tryz.underlying200 rfl (by kernel_rfl)) ?_;refine ah.next rfl rfl rfl rfl rfl rfl rfl (fun hcx=>aa.ag rfl rfl Tryz.underlying3 rfl k5 rfl) ?_;refine ah.next rfl rfl rfl rfl rfl rfl rfl (fun hcx=>aa.geq rfl rfl rfl) ?_;refine ah.or rfl rfl rfl rfl rfl rfl rfl ?_;refine dG 1 4 5 9 26 27 28 29 38 (Zt ?_);refine Cd.cond rfl (fun h=> ?_) (fun h=> ?_)
   ·simp at h
    rw[if_pos (by omega)] at hsz;refine ao ?_;refine Zv (aa.build rfl rfl (eR _ _ _)) ?_;refine Zo 2 k4 ?_;intro w7 pw7;replace ae:=ae.put k4 pw7 e4;replace k5:=k5.put pw7 (by omega);replace k9:=k9.put pw7 (by omega);replace k4:=pw7.av;refine dG 1 4 5 9 26 27 28 29 38 (Zt (Cd.ret (ab.af (ab.ak (ab.af (ab.bF (ab.ak (ab.af ?_))))))));refine ab.cz rfl rfl k4 Tryz.underlying200 rfl (m:=2) (by kernel_rfl) rfl (.inl rfl) ?_;rw[←hsz];exact⟨rfl,ae⟩
   ·simp at h
    rw[if_neg (by omega)] at hsz;have hrec:=fun W (hb:Below w.heap.size w W)=>ih x (at_+1) B _ W (by omega) (by omega) (hrx.below (hb.mono hB)) (Nat.le_trans hB hb.size);have hxs:=Br x (at_+1);have hws:=eB hs hxs;refine Cd.skip (Zt ?_);refine Cd.draw 6 (by kernel_rfl) [] (.inl rfl) rfl Grow Grow.refl (fun _ _ _=>Grow.trans) ?_;intro w7 hw7 zw7;replace ae:=ae.step hw7;replace k4:=k4.step hw7;replace k5:=k5.step hw7;replace k9:=k9.step hw7;have zbel:=ae.size;have zlt:=k9.lt;refine Zd (fun w hG=>aa.aQ rfl rfl Tryz.underlying200 rfl (k5.step hG) (m:=2) (by kernel_rfl) rfl) ?_;refine Zd (fun w hG=>aa.aQ rfl rfl Tryz.underlying71 rfl (k9.step hG) (m:=4) (by kernel_rfl) rfl) ?_;refine cn ?_;refine Zd (fun w hG=>aa.jH rfl rfl rfl (by omega) (by omega)) ?_;refine Dr.bP rfl (fun w=>Ze Tryz.func140) rfl (fun w hG=>hrec w (ae.step hG)) ?_;refine Dr.bP rfl (fun w=>Ze Tryz.func186) rfl (fun w hG=>pH s (sH x (at_+1)) w hs.1 hs.2 hxs.1 hxs.2) ?_;refine Dr.nil ?_;refine ba.done (F':=[(1,_),(4,_),(5,_),(9,_),(26,_),(27,_),(28,_),(29,_),(38,_),(45,_)]) rfl ⟨rfl,rfl,rfl,rfl,rfl,rfl,rfl,rfl,rfl,rfl,trivial⟩ ?_;intro w8 hw8 fw8;replace ae:=ae.step hw8;replace k4:=k4.step hw8;replace k5:=k5.step hw8;replace k9:=k9.step hw8;refine Zo 2 k5 ?_;intro w9 pw9;replace ae:=ae.put k5 pw9 e5;replace k4:=k4.put pw9 (by omega);replace k5:=pw9.av;refine dG 1 4 5 9 26 27 28 29 38 (ab.aj (ei ?_));refine cH ?_;refine Zm ?_;refine dG 1 4 5 9 26 27 28 29 38 ?_;exact ab.round (k+1,dK s (sH x (at_+1))) ⟨rfl,rfl,rfl,rfl,rfl,rfl,trivial⟩ ⟨by simp only;omega,hws,hsz,ae,k4,k5⟩ (by simp only;omega)
  ·obtain rfl:k=t.aH.length:=by omega
   rw[List.drop_of_length_le (Nat.le_refl _),wV] at hsz;refine Cd.exit (ab.aD (ab.aA (ab.az (aG ?_))));refine Zv (aa.aQ rfl rfl Tryz.underlying200 rfl k5 (m:=2) (by kernel_rfl) rfl) ?_;refine Zo 2 k4 ?_;intro w5 pw5;replace ae:=ae.put k4 pw5 e4;replace k5:=k5.put pw5 (by omega);replace k4:=pw5.av;refine bb 1 4 5 26 27 28 29 (Zt (Cd.ret ?_));refine ab.cz rfl rfl k4 Tryz.underlying200 rfl (m:=2) (by kernel_rfl) rfl (.inl rfl) ?_;rw[←hsz];exact⟨rfl,ae⟩
theorem rS (N:Nat)(t:Tm)(at_:Nat)(B:Nat)(v:Value)(w:World)(hN:t.nodes≤N)(hd:t.depth+at_≤900)(hrep:fZ w B t v)(hB:B≤w.heap.size):Calls Tryz.prog 140 #[v, .int .i64 (at_:Int)] w fun en w'=>en= .returned (.agg #[.int .i64 (wS t).1, .int .i64 (wS t).2])∧Grow w w':=by
 rw[←CA hd];exact mF N t at_ B v w hN (by omega) hrep hB
theorem vM (g:Nat)(cp:List Value)(p:Tm→Bool)(B:Nat)(A:Option Addr)(c:Nat)(l:List Tm)(w:World)(jV:l.length≤1000)(hv:vx w B l A)(hB:B≤w.heap.size)
  (eg:∀args w,(callFunc g args).run Tryz.prog w= .ok (.enter g args) w) (hp:∀x∈l,∀v W,Below w.heap.size w W→fZ W B x v→Calls Tryz.prog g ([]++[v]++cp).toArray W fun en w'=>en= .returned (.bool (p x))∧Grow W w'):
  Calls Tryz.prog 220 #[.slice A l.length c, .func (.func g) #[] cp.toArray] w fun en w'=>en= .returned (.int .i64 (tI p l))∧Grow w w':=by
 have ae:=Below.refl w.heap.size w;obtain⟨n,hn⟩:∃n,n=l.length:=⟨_,rfl⟩;rw[←hn] at jV⊢;refine Zs 19 Tryz.func220 ?_;refine ao ?_;refine Za ?_;refine bD 0 1 4 (aJ (ao ?_));refine Zm ?_;refine Zv (aa.len rfl rfl Tryz.underlying69) ?_;refine Zm ?_;refine aU 0 1 4 7 8 (Zt (Cd.block ?_))
 refine Cd.loop (σ:=Nat) (fun k=>[(0, .slice A n c),(1, .func (.func g) #[] cp.toArray),(7, .int .i64 (n:Int)),(8, .int .i64 (k:Int))])
  (fun k wr=>k≤n∧(∀y∈l.take k,p y=false)∧Below w.heap.size w wr) (fun k=>n-k) 0 ⟨Nat.zero_le _,by simp,ae⟩ ⟨rfl,rfl,rfl,rfl,trivial⟩ ?_
 clear ae;rintro k wr ⟨hk,hno,ae⟩;refine ao ?_;refine Zv (aa.lss rfl rfl rfl) ?_;refine aU 0 1 7 8 9 (aJ ?_);refine Cd.au rfl (fun hc=> ?_) (fun hc=> ?_)
 ·obtain⟨x,hx⟩:∃x,l[k]? =some x:=⟨_,List.getElem?_eq_getElem (show k<l.length by omega)⟩
  obtain⟨ad,A1,A2,c1,c2,rfl,hbl,hrx,hc⟩:=hv k x hx;have hc:=fun j u hj=>((ae.mono hB).cell (p:=(ad.add (k*4)).add j) (by rw[aw,aw];exact hbl)).trans (hc j u hj);have htk:l.take (k+1)=l.take k++[x]:=by rw[List.take_add_one,hx];rfl
  refine Cd.skip (aJ (Cd.block (ao ?_)));refine Zm ?_;refine Za ?_;refine bj 0 1 5 7 8 9 (aG ?_);refine Zm ?_;refine Zm ?_;refine Zm ?_;refine Zv (aa.bI rfl rfl rfl Tryz.underlying69 (s:=4) (by kernel_rfl) (j:=k) rfl (by omega)) ?_;refine Zv (aa.ef (ps:=[.int .i64 x.op, .string (strOf x.name), .slice A1 x.exprs.length c1, .slice A2 x.aH.length c2]) rfl rfl Tryz.underlying71 rfl (m:=4) (by kernel_rfl) rfl hc) ?_;refine Seq.call (Enters.value (first:=[]) (cap:=cp) rfl rfl rfl eg) rfl rfl rfl (hp x (List.mem_of_getElem? hx) _ _ ae (hrx.below (ae.mono hB))) ?_;rintro en w5 ⟨rfl,hb5⟩;refine⟨_,rfl,?_⟩;replace ae:=ae.step hb5;refine bb 0 1 5 7 8 9 16 (Zt ?_);refine Cd.cond rfl (fun h=> ?_) (fun h=> ?_)
  ·skip
   refine ao ?_;refine Zm ?_;refine Za ?_;refine cI 0 1 4 5 7 8 9 16 (Zt (Cd.ret (ab.ak (ab.af (ab.bF (ab.ak (ab.af ?_)))))));refine ab.aE rfl rfl (.inl rfl) ?_;exact⟨bw (int_eq (rI hx h hno).symm),ae⟩
  ·skip
   refine Cd.skip (ab.aj (ei ?_));refine cH ?_;refine Zm ?_;refine bb 0 1 5 7 8 9 16 ?_;refine ab.round (k+1) ⟨rfl,rfl,rfl,rfl,trivial⟩ ⟨by omega,fun y hy=> ?_,ae⟩ (by omega);rw[htk] at hy;rcases List.mem_append.1 hy with hy|hy
   ·exact hno y hy
   ·simp at hy;subst hy;exact h
 ·obtain rfl:k=n:=by omega
  rw[List.take_of_length_le (by omega)] at hno;refine Cd.exit (ab.aD (ab.aA (ab.az (aG ?_))));refine Za ?_;refine bj 0 1 4 7 8 9 (Zt (Cd.ret ?_));refine ab.aE rfl rfl (.inl rfl) ?_;exact⟨bw (int_eq (rN hno).symm),ae⟩
theorem qH (g:Nat)(cp:List Value)(p:Tm→Bool)(B:Nat)(A:Option Addr)(c:Nat)(l:List Tm)(w:World)(jV:l.length≤1000)(hv:vx w B l A)(hB:B≤w.heap.size)
  (eg:∀args w,(callFunc g args).run Tryz.prog w= .ok (.enter g args) w) (hp:∀x∈l,∀v W,Below w.heap.size w W→fZ W B x v→Calls Tryz.prog g ([]++[v]++cp).toArray W fun en w'=>en= .returned (.bool (p x))∧Grow W w'):
  Calls Tryz.prog 190 #[.slice A l.length c, .func (.func g) #[] cp.toArray] w fun en w'=>en= .returned (.bool (l.any p))∧Grow w w':=by
 have ae:=Below.refl w.heap.size w;have hc:=fun W (hb:Below w.heap.size w W)=>vM g cp p B A c l W jV (hv.below (hb.mono hB)) (Nat.le_trans hB hb.size) eg (fun x hx v W2 hb2 hr=>hp x hx v W2 (hb.trans (hb2.mono hb.size)) hr);have hany:=td p l;obtain⟨n,hn⟩:∃n,n=l.length:=⟨_,rfl⟩;rw[←hn] at hc⊢;refine Zs 9 Tryz.func190 ?_;refine ao ?_;refine Za ?_;refine bD 0 1 4 (aG ?_);refine Zm ?_;refine Zm ?_;refine Zc (Ze Tryz.func220) (hc _ ae) ?_;rintro en w5 ⟨rfl,hb5⟩;refine⟨_,rfl,?_⟩;replace ae:=ae.step hb5;refine Zv (aa.geq rfl rfl rfl) ?_;refine Za ?_;refine bD 0 1 4 (Zt (Cd.ret ?_));refine ab.aE rfl rfl (.inl rfl) ?_;exact⟨bw (aL hany),ae⟩
def BF (op:Int):Int × Int:=if op=1∨op=2 then(0,0) else if op=3 then(0,1) else if op=4∨op=5 then(0,2) else if op=6∨op=7∨op=8∨op=9 then(1,1) else(-1,-1)
theorem sK (op:Int)(w:World):Calls Tryz.prog 187 #[.int .i64 op] w fun e w'=>e= .returned (.tuple #[.int .i64 (BF op).1, .int .i64 (BF op).2])∧Grow w w':=by
 have ae:=Below.refl w.heap.size w;refine Zs 18 Tryz.func187 ?_
 by_cases h1:op=1
 ·subst h1
  refine ao ?_;refine Za ?_;refine Za ?_;refine bD 0 2 3 (aJ (ao ?_));refine Zm ?_;refine aV 0 2 3 4 (Zt (Cd.block (Cd.seq (ao ?_))));refine Zv (aa.aB rfl rfl rfl) ?_;refine Za ?_;refine aU 0 2 3 4 5 (Zt ?_);refine Cd.aX rfl rfl ?_;refine Cd.skip (Zt ?_);refine Cd.aX rfl rfl ?_;refine ao ?_;refine Za ?_;refine Za ?_;refine aU 0 2 3 4 5 (Zt (Cd.ret (ab.ak (ab.af ?_))));refine ab.bf rfl rfl rfl (.inl rfl) ?_;exact⟨rfl,ae⟩
 ·skip
  by_cases h2:op=2
  ·subst h2
   refine ao ?_;refine Za ?_;refine Za ?_;refine bD 0 2 3 (aJ (ao ?_));refine Zm ?_;refine aV 0 2 3 4 (Zt (Cd.block (Cd.seq (ao ?_))));refine Zv (aa.aB rfl rfl rfl) ?_;refine Za ?_;refine aU 0 2 3 4 5 (Zt ?_);refine Cd.aN rfl rfl ?_;refine Zr ?_;refine Zv (aa.aB rfl rfl rfl) ?_;refine Za ?_;refine aU 0 2 3 4 5 (Zt ?_);refine Cd.aX rfl rfl ?_;refine ao ?_;refine Za ?_;refine Za ?_;refine aU 0 2 3 4 5 (Zt (Cd.ret (ab.ak (ab.af ?_))));refine ab.bf rfl rfl rfl (.inl rfl) ?_;exact⟨rfl,ae⟩
  ·skip
   by_cases h3:op=3
   ·subst h3
    refine ao ?_;refine Za ?_;refine Za ?_;refine bD 0 2 3 (aJ (ao ?_));refine Zm ?_;refine aV 0 2 3 4 (Zt (Cd.block (Cd.seq (ao ?_))));refine Zv (aa.aB rfl rfl rfl) ?_;refine Za ?_;refine aU 0 2 3 4 5 (Zt ?_);refine Cd.aN rfl rfl ?_;refine Zr ?_;refine Zv (aa.aB rfl rfl rfl) ?_;refine Za ?_;refine aU 0 2 3 4 5 (Zt ?_);refine Cd.aN rfl rfl ?_;refine ao ?_;refine Zv (aa.aB rfl rfl rfl) ?_;refine Za ?_;refine bj 0 2 3 4 5 8 (Zt ?_);refine Cd.aX rfl rfl ?_;refine ao ?_;refine Za ?_;refine Za ?_;refine bj 0 2 3 4 5 8 (Zt (Cd.ret (ab.ak (ab.af ?_))));refine ab.bf rfl rfl rfl (.inl rfl) ?_;exact⟨rfl,ae⟩
   ·skip
    by_cases h4:op=4
    ·subst h4
     refine ao ?_;refine Za ?_;refine Za ?_;refine bD 0 2 3 (aJ (ao ?_));refine Zm ?_;refine aV 0 2 3 4 (Zt (Cd.block (Cd.seq (ao ?_))));refine Zv (aa.aB rfl rfl rfl) ?_;refine Za ?_;refine aU 0 2 3 4 5 (Zt ?_);refine Cd.aN rfl rfl ?_;refine Zr ?_;refine Zv (aa.aB rfl rfl rfl) ?_;refine Za ?_;refine aU 0 2 3 4 5 (Zt ?_);refine Cd.aN rfl rfl ?_;refine ao ?_;refine Zv (aa.aB rfl rfl rfl) ?_;refine Za ?_;refine bj 0 2 3 4 5 8 (Zt ?_);refine Cd.aN rfl rfl ?_;refine Cd.seq (ao ?_);refine Zv (aa.aB rfl rfl rfl) ?_;refine Za ?_;refine bb 0 2 3 4 5 8 10 (Zt ?_);refine Cd.aX rfl rfl ?_;refine Cd.skip (Zt ?_);refine Cd.aX rfl rfl ?_;refine ao ?_;refine Za ?_;refine Za ?_;refine bb 0 2 3 4 5 8 10 (Zt (Cd.ret (ab.ak (ab.af ?_))));refine ab.bf rfl rfl rfl (.inl rfl) ?_;exact⟨rfl,ae⟩
    ·skip
     by_cases h5:op=5
     ·subst h5
      refine ao ?_;refine Za ?_;refine Za ?_;refine bD 0 2 3 (aJ (ao ?_));refine Zm ?_;refine aV 0 2 3 4 (Zt (Cd.block (Cd.seq (ao ?_))));refine Zv (aa.aB rfl rfl rfl) ?_;refine Za ?_;refine aU 0 2 3 4 5 (Zt ?_);refine Cd.aN rfl rfl ?_;refine Zr ?_;refine Zv (aa.aB rfl rfl rfl) ?_;refine Za ?_;refine aU 0 2 3 4 5 (Zt ?_);refine Cd.aN rfl rfl ?_;refine ao ?_;refine Zv (aa.aB rfl rfl rfl) ?_;refine Za ?_;refine bj 0 2 3 4 5 8 (Zt ?_);refine Cd.aN rfl rfl ?_;refine Cd.seq (ao ?_);refine Zv (aa.aB rfl rfl rfl) ?_;refine Za ?_;refine bb 0 2 3 4 5 8 10 (Zt ?_);refine Cd.aN rfl rfl ?_;refine Zr ?_;refine Zv (aa.aB rfl rfl rfl) ?_;refine Za ?_;refine bb 0 2 3 4 5 8 10 (Zt ?_);refine Cd.aX rfl rfl ?_;refine ao ?_;refine Za ?_;refine Za ?_;refine bb 0 2 3 4 5 8 10 (Zt (Cd.ret (ab.ak (ab.af ?_))));refine ab.bf rfl rfl rfl (.inl rfl) ?_;exact⟨rfl,ae⟩
     ·skip
      by_cases h6:op=6
      ·subst h6
       refine ao ?_;refine Za ?_;refine Za ?_;refine bD 0 2 3 (aJ (ao ?_));refine Zm ?_;refine aV 0 2 3 4 (Zt (Cd.block (Cd.seq (ao ?_))));refine Zv (aa.aB rfl rfl rfl) ?_;refine Za ?_;refine aU 0 2 3 4 5 (Zt ?_);refine Cd.aN rfl rfl ?_;refine Zr ?_;refine Zv (aa.aB rfl rfl rfl) ?_;refine Za ?_;refine aU 0 2 3 4 5 (Zt ?_);refine Cd.aN rfl rfl ?_;refine ao ?_;refine Zv (aa.aB rfl rfl rfl) ?_;refine Za ?_;refine bj 0 2 3 4 5 8 (Zt ?_);refine Cd.aN rfl rfl ?_;refine Cd.seq (ao ?_);refine Zv (aa.aB rfl rfl rfl) ?_;refine Za ?_;refine bb 0 2 3 4 5 8 10 (Zt ?_);refine Cd.aN rfl rfl ?_;refine Zr ?_;refine Zv (aa.aB rfl rfl rfl) ?_;refine Za ?_;refine bb 0 2 3 4 5 8 10 (Zt ?_);refine Cd.aN rfl rfl ?_;refine Cd.seq (ao ?_);refine Zv (aa.aB rfl rfl rfl) ?_;refine Za ?_;refine cI 0 2 3 4 5 8 10 13 (Zt ?_);refine Cd.aX rfl rfl ?_;refine Cd.skip (Zt ?_);refine Cd.aX rfl rfl ?_;refine ao ?_;refine Za ?_;refine Za ?_;refine cI 0 2 3 4 5 8 10 13 (Zt (Cd.ret (ab.ak (ab.af ?_))));refine ab.bf rfl rfl rfl (.inl rfl) ?_;exact⟨rfl,ae⟩
      ·skip
       by_cases h7:op=7
       ·subst h7
        refine ao ?_;refine Za ?_;refine Za ?_;refine bD 0 2 3 (aJ (ao ?_));refine Zm ?_;refine aV 0 2 3 4 (Zt (Cd.block (Cd.seq (ao ?_))));refine Zv (aa.aB rfl rfl rfl) ?_;refine Za ?_;refine aU 0 2 3 4 5 (Zt ?_);refine Cd.aN rfl rfl ?_;refine Zr ?_;refine Zv (aa.aB rfl rfl rfl) ?_;refine Za ?_;refine aU 0 2 3 4 5 (Zt ?_);refine Cd.aN rfl rfl ?_;refine ao ?_;refine Zv (aa.aB rfl rfl rfl) ?_;refine Za ?_;refine bj 0 2 3 4 5 8 (Zt ?_);refine Cd.aN rfl rfl ?_;refine Cd.seq (ao ?_);refine Zv (aa.aB rfl rfl rfl) ?_;refine Za ?_;refine bb 0 2 3 4 5 8 10 (Zt ?_);refine Cd.aN rfl rfl ?_;refine Zr ?_;refine Zv (aa.aB rfl rfl rfl) ?_;refine Za ?_;refine bb 0 2 3 4 5 8 10 (Zt ?_);refine Cd.aN rfl rfl ?_;refine Cd.seq (ao ?_);refine Zv (aa.aB rfl rfl rfl) ?_;refine Za ?_;refine cI 0 2 3 4 5 8 10 13 (Zt ?_);refine Cd.aN rfl rfl ?_;refine ao ?_;refine Zv (aa.aB rfl rfl rfl) ?_;refine Za ?_;refine cI 0 2 3 4 5 8 10 13 (Zt ?_);refine Cd.aX rfl rfl ?_;refine Cd.skip (Zt ?_);refine Cd.aX rfl rfl ?_;refine ao ?_;refine Za ?_;refine Za ?_;refine cI 0 2 3 4 5 8 10 13 (Zt (Cd.ret (ab.ak (ab.af ?_))));refine ab.bf rfl rfl rfl (.inl rfl) ?_;exact⟨rfl,ae⟩
       ·skip
        by_cases h8:op=8
        ·subst h8
         refine ao ?_;refine Za ?_;refine Za ?_;refine bD 0 2 3 (aJ (ao ?_));refine Zm ?_;refine aV 0 2 3 4 (Zt (Cd.block (Cd.seq (ao ?_))));refine Zv (aa.aB rfl rfl rfl) ?_;refine Za ?_;refine aU 0 2 3 4 5 (Zt ?_);refine Cd.aN rfl rfl ?_;refine Zr ?_;refine Zv (aa.aB rfl rfl rfl) ?_;refine Za ?_;refine aU 0 2 3 4 5 (Zt ?_);refine Cd.aN rfl rfl ?_;refine ao ?_;refine Zv (aa.aB rfl rfl rfl) ?_;refine Za ?_;refine bj 0 2 3 4 5 8 (Zt ?_);refine Cd.aN rfl rfl ?_;refine Cd.seq (ao ?_);refine Zv (aa.aB rfl rfl rfl) ?_;refine Za ?_;refine bb 0 2 3 4 5 8 10 (Zt ?_);refine Cd.aN rfl rfl ?_;refine Zr ?_;refine Zv (aa.aB rfl rfl rfl) ?_;refine Za ?_;refine bb 0 2 3 4 5 8 10 (Zt ?_);refine Cd.aN rfl rfl ?_;refine Cd.seq (ao ?_);refine Zv (aa.aB rfl rfl rfl) ?_;refine Za ?_;refine cI 0 2 3 4 5 8 10 13 (Zt ?_);refine Cd.aN rfl rfl ?_;refine ao ?_;refine Zv (aa.aB rfl rfl rfl) ?_;refine Za ?_;refine cI 0 2 3 4 5 8 10 13 (Zt ?_);refine Cd.aN rfl rfl ?_;refine ao ?_;refine Zv (aa.aB rfl rfl rfl) ?_;refine Za ?_;refine cI 0 2 3 4 5 8 10 13 (Zt ?_);refine Cd.aX rfl rfl ?_;refine Cd.skip (Zt ?_);refine Cd.aX rfl rfl ?_;refine ao ?_;refine Za ?_;refine Za ?_;refine cI 0 2 3 4 5 8 10 13 (Zt (Cd.ret (ab.ak (ab.af ?_))));refine ab.bf rfl rfl rfl (.inl rfl) ?_;exact⟨rfl,ae⟩
        ·skip
         by_cases h9:op=9
         ·subst h9
          refine ao ?_;refine Za ?_;refine Za ?_;refine bD 0 2 3 (aJ (ao ?_));refine Zm ?_;refine aV 0 2 3 4 (Zt (Cd.block (Cd.seq (ao ?_))));refine Zv (aa.aB rfl rfl rfl) ?_;refine Za ?_;refine aU 0 2 3 4 5 (Zt ?_);refine Cd.aN rfl rfl ?_;refine Zr ?_;refine Zv (aa.aB rfl rfl rfl) ?_;refine Za ?_;refine aU 0 2 3 4 5 (Zt ?_);refine Cd.aN rfl rfl ?_;refine ao ?_;refine Zv (aa.aB rfl rfl rfl) ?_;refine Za ?_;refine bj 0 2 3 4 5 8 (Zt ?_);refine Cd.aN rfl rfl ?_;refine Cd.seq (ao ?_);refine Zv (aa.aB rfl rfl rfl) ?_;refine Za ?_;refine bb 0 2 3 4 5 8 10 (Zt ?_);refine Cd.aN rfl rfl ?_;refine Zr ?_;refine Zv (aa.aB rfl rfl rfl) ?_;refine Za ?_;refine bb 0 2 3 4 5 8 10 (Zt ?_);refine Cd.aN rfl rfl ?_;refine Cd.seq (ao ?_);refine Zv (aa.aB rfl rfl rfl) ?_;refine Za ?_;refine cI 0 2 3 4 5 8 10 13 (Zt ?_);refine Cd.aN rfl rfl ?_;refine ao ?_;refine Zv (aa.aB rfl rfl rfl) ?_;refine Za ?_;refine cI 0 2 3 4 5 8 10 13 (Zt ?_);refine Cd.aN rfl rfl ?_;refine ao ?_;refine Zv (aa.aB rfl rfl rfl) ?_;refine Za ?_;refine cI 0 2 3 4 5 8 10 13 (Zt ?_);refine Cd.aN rfl rfl ?_;refine Zr ?_;refine Zv (aa.aB rfl rfl rfl) ?_;refine Za ?_;refine cI 0 2 3 4 5 8 10 13 (Zt ?_);refine Cd.aX rfl rfl ?_;refine ao ?_;refine Za ?_;refine Za ?_;refine cI 0 2 3 4 5 8 10 13 (Zt (Cd.ret (ab.ak (ab.af ?_))));refine ab.bf rfl rfl rfl (.inl rfl) ?_;exact⟨rfl,ae⟩
         ·skip
          refine ao ?_;refine Za ?_;refine Za ?_;refine bD 0 2 3 (aJ (ao ?_));refine Zm ?_;refine aV 0 2 3 4 (Zt (Cd.block (Cd.seq (ao ?_))));refine Zv (aa.aB rfl rfl rfl) ?_;refine Za ?_;refine aU 0 2 3 4 5 (Zt ?_);refine Cd.aN rfl (decide_eq_false h1) ?_;refine Zr ?_;refine Zv (aa.aB rfl rfl rfl) ?_;refine Za ?_;refine aU 0 2 3 4 5 (Zt ?_);refine Cd.aN rfl (decide_eq_false h2) ?_;refine ao ?_;refine Zv (aa.aB rfl rfl rfl) ?_;refine Za ?_;refine bj 0 2 3 4 5 8 (Zt ?_);refine Cd.aN rfl (decide_eq_false h3) ?_;refine Cd.seq (ao ?_);refine Zv (aa.aB rfl rfl rfl) ?_;refine Za ?_;refine bb 0 2 3 4 5 8 10 (Zt ?_);refine Cd.aN rfl (decide_eq_false h4) ?_;refine Zr ?_;refine Zv (aa.aB rfl rfl rfl) ?_;refine Za ?_;refine bb 0 2 3 4 5 8 10 (Zt ?_);refine Cd.aN rfl (decide_eq_false h5) ?_;refine Cd.seq (ao ?_);refine Zv (aa.aB rfl rfl rfl) ?_;refine Za ?_;refine cI 0 2 3 4 5 8 10 13 (Zt ?_);refine Cd.aN rfl (decide_eq_false h6) ?_;refine ao ?_;refine Zv (aa.aB rfl rfl rfl) ?_;refine Za ?_;refine cI 0 2 3 4 5 8 10 13 (Zt ?_);refine Cd.aN rfl (decide_eq_false h7) ?_;refine ao ?_;refine Zv (aa.aB rfl rfl rfl) ?_;refine Za ?_;refine cI 0 2 3 4 5 8 10 13 (Zt ?_);refine Cd.aN rfl (decide_eq_false h8) ?_;refine Zr ?_;refine Zv (aa.aB rfl rfl rfl) ?_;refine Za ?_;refine cI 0 2 3 4 5 8 10 13 (Zt ?_);refine Cd.aN rfl (decide_eq_false h9) ?_;refine Cd.skip (ab.aj (aG ?_));refine Za ?_;refine Za ?_;refine cI 0 2 3 4 5 8 10 13 (Zt (Cd.ret ?_));refine ab.bf rfl rfl rfl (.inl rfl) ?_;have hb:BF op=(-1,-1):=by unfold BF;rw[if_neg (by omega),if_neg h3,if_neg (by omega),if_neg (by omega)]
          rw[hb];exact⟨rfl,ae⟩
def fx (op:Int)(nm:List Nat)(n m:Nat):Bool:=decide (BF op=((n:Int),(m:Int)))&& !(decide (op=2)&& !gI nm)&& !(decide (op≠2)&&decide (nm≠ []))
mutual
def du:Tm→Bool
 | .mk op nm es l=>fx op nm es.length l.length&&es.all bB&&mL l
def mL:List Tm→Bool
 | []=>true
 |e::r=>du e&&mL r
end
theorem nV:∀l,mL l=l.all du
 | []=>by rw[mL];rfl
 |e::r=>by rw[mL,nV r];rfl
theorem na (t:Tm):du t=(fx t.op t.name t.exprs.length t.aH.length&&t.exprs.all bB&&t.aH.all du):=by
 cases t;rw[du,nV];rfl
theorem vN:∀args w,(callFunc 189 args).run Tryz.prog w= .ok (.enter 189 args) w:=fun args w=>bG Tryz.func189 (by kernel_rfl) rfl args w
theorem vG:∀args w,(callFunc 191 args).run Tryz.prog w= .ok (.enter 191 args) w:=fun args w=>bG Tryz.func191 (by kernel_rfl) rfl args w
theorem qV (N:Nat):∀(t:Tm) (B:Nat) (v:Value) (w:World),t.nodes≤N→fZ w B t v→B≤w.heap.size→Calls Tryz.prog 142 #[v] w fun en w'=>en= .returned (.bool (du t))∧Grow w w':=by
 induction N with
 |zero=>intro t B v w hN;have:=t.cO;omega
 |succ N ih=>
 intro t B v w hN hrep hB;obtain⟨A,c,A',c',rfl,hv⟩:=hrep.open;have ae:=Below.refl w.heap.size w;have hnm:=hv.name;have hnl:=hv.Bg;have jV:=hv.jV;have mq:=hv.mq;have hbt:=na t;have hdum:uR w B (.mk 1 0 [] t.exprs) A c:=⟨hv.jV,by show bt 1;unfold bt;omega,by show bt 0;unfold bt;omega,fun d hd=>(by cases hd),by show(0:Nat)≤_;omega,fun i x hx=>hv.expr i x hx⟩
 have hcl:=fun W (hb:Below w.heap.size w W)=>lL 189 [] (fun x=> !bB x) B A c (.mk 1 0 [] t.exprs) W (hdum.below (hb.mono hB)) (Nat.le_trans hB hb.size) vN (fun x hx v W2 hb2 hr=>by
  have hs2:=Nat.le_trans hB (Nat.le_trans hb.size hb2.size);have hrec:=fun W3 (hb3:Below W2.heap.size W2 W3)=>qE x.nodes x B v W3 (Nat.le_refl _) (hr.below (hb3.mono hs2)) (Nat.le_trans hs2 hb3.size);obtain⟨Ax,cx,rfl,-⟩:=hr.open;have ae:=Below.refl W2.heap.size W2
  generalize bB x=q at *
  refine Zs 6 Tryz.func189 ?_;refine ao ?_;refine Seq.box rfl rfl rfl rfl rfl ?_;intro g1 w1 n1;have e1:=Nat.le_trans ae.size n1.ge;replace ae:=ae.step n1.below;have k1:=n1.av;refine Za ?_;refine bD 0 1 2 (aG ?_);refine Zv (aa.aQ rfl rfl Tryz.underlying105 rfl k1 (m:=4) (by kernel_rfl) rfl) ?_;refine Zc (Ze Tryz.func180) (hrec _ ae) ?_;rintro en w5 ⟨rfl,hb5⟩;refine⟨_,rfl,?_⟩;replace ae:=ae.step hb5;replace k1:=k1.step hb5;refine Zv (aa.not rfl rfl) ?_;refine Za ?_;refine bD 0 1 2 (Zt (Cd.ret ?_));refine ab.aE rfl rfl (.inl rfl) ?_;exact⟨rfl,ae⟩)
 have hcl2:=fun W (hb:Below w.heap.size w W)=>qH 191 [] (fun x=> !du x) B A' c' t.aH W hv.mq (hv.term.below (hb.mono hB)) (Nat.le_trans hB hb.size) vG (fun x hx v W2 hb2 hr=>by
  have hxn:=Tm.fE hx;have hs2:=Nat.le_trans hB (Nat.le_trans hb.size hb2.size);have hrec:=fun W3 (hb3:Below W2.heap.size W2 W3)=>ih x B v W3 (by omega) (hr.below (hb3.mono hs2)) (Nat.le_trans hs2 hb3.size);obtain⟨A1,c1,A2,c2,rfl,-⟩:=hr.open;have ae:=Below.refl W2.heap.size W2
  generalize du x=q at *
  refine Zs 6 Tryz.func191 ?_;refine ao ?_;refine Seq.box rfl rfl rfl rfl rfl ?_;intro g1 w1 n1;have e1:=Nat.le_trans ae.size n1.ge;replace ae:=ae.step n1.below;have k1:=n1.av;refine Za ?_;refine bD 0 1 2 (aG ?_);refine Zv (aa.aQ rfl rfl Tryz.underlying71 rfl k1 (m:=4) (by kernel_rfl) rfl) ?_;refine Zc (Ze Tryz.func142) (hrec _ ae) ?_;rintro en w5 ⟨rfl,hb5⟩;refine⟨_,rfl,?_⟩;replace ae:=ae.step hb5;replace k1:=k1.step hb5;refine Zv (aa.not rfl rfl) ?_;refine Za ?_;refine bD 0 1 2 (Zt (Cd.ret ?_));refine ab.aE rfl rfl (.inl rfl) ?_;exact⟨rfl,ae⟩)
 replace hcl:∀W,Below w.heap.size w W→Calls Tryz.prog 107 #[.slice A t.exprs.length c, .func (.func 189) #[] #[]] W fun en w'=>en= .returned (.bool (t.exprs.any fun x=> !bB x))∧Grow W w':=hcl;refine Zs 54 Tryz.func142 ?_;refine ao ?_;refine Seq.box rfl rfl rfl rfl rfl ?_;intro g1 w1 n1;have e1:=Nat.le_trans ae.size n1.ge;replace ae:=ae.step n1.below;have k1:=n1.av;refine Za ?_;refine bD 0 1 2 (aG ?_);refine Zf 0 Tryz.underlying71 ?_;refine Zv (aa.ag rfl rfl Tryz.underlying3 rfl k1 rfl) ?_;refine Zc (Ze Tryz.func187) (sK t.op _) ?_;rintro en w5 ⟨rfl,hb5⟩;refine⟨_,rfl,?_⟩;replace ae:=ae.step hb5;replace k1:=k1.step hb5;refine Zm ?_;refine Zv (aa.extract rfl rfl rfl) ?_;refine Zv (aa.extract rfl rfl rfl) ?_;refine Za ?_;refine Za ?_;refine aU 0 1 2 3 4 (aJ (ao ?_));refine Zm ?_;refine Zf 2 Tryz.underlying71 ?_;refine Zv (aa.ag rfl rfl Tryz.underlying68 rfl k1 rfl) ?_;refine Zv (aa.len rfl rfl Tryz.underlying68) ?_;refine Zv (aa.bN rfl rfl rfl) ?_;refine Zm ?_;refine ah.start ?_;refine bM (fun hcx=>aa.move rfl rfl) ?_;refine ah.next rfl rfl rfl rfl rfl rfl rfl (fun hcx=>aa.an 3 rfl rfl Tryz.underlying71 rfl (by kernel_rfl)) ?_;refine ah.next rfl rfl rfl rfl rfl rfl rfl (fun hcx=>aa.ag rfl rfl Tryz.underlying69 rfl k1 rfl) ?_;refine ah.next rfl rfl rfl rfl rfl rfl rfl (fun hcx=>aa.len rfl rfl Tryz.underlying69) ?_;refine ah.next rfl rfl rfl rfl rfl rfl rfl (fun hcx=>aa.bN rfl rfl rfl) ?_;refine ah.or rfl rfl rfl rfl rfl rfl rfl ?_;refine Zm ?_;refine ah.start ?_;refine bM (fun hcx=>aa.an 0 rfl rfl Tryz.underlying71 rfl (by kernel_rfl)) ?_;refine ah.next rfl rfl rfl rfl rfl rfl rfl (fun hcx=>aa.ag rfl rfl Tryz.underlying3 rfl k1 rfl) ?_;refine ah.next rfl rfl rfl rfl rfl rfl rfl (fun hcx=>aa.aB rfl rfl rfl) ?_;refine ah.next rfl rfl rfl rfl rfl rfl rfl (fun hcx=>aa.move rfl rfl) ?_;refine bM (fun hcx=>aa.an 1 rfl rfl Tryz.underlying71 rfl (by kernel_rfl)) ?_;refine ah.next rfl rfl rfl rfl rfl rfl rfl (fun hcx=>aa.ag rfl rfl Tryz.underlying9 rfl k1 rfl) ?_;refine ah.bY rfl rfl rfl rfl rfl rfl rfl (fun hcx=>Ze Tryz.func188) (fun hcx=>tT t.name _ hnm hnl) ?_;intro w2 hw2;replace ae:=ae.step hw2;replace k1:=k1.step hw2;refine ah.next rfl rfl rfl rfl rfl rfl rfl (fun hcx=>aa.not rfl rfl) ?_;refine ah.mX rfl rfl rfl rfl rfl rfl rfl rfl rfl rfl rfl ?_;refine ah.or rfl rfl rfl rfl rfl rfl rfl ?_;refine Zm ?_;refine ah.start ?_;refine bM (fun hcx=>aa.an 0 rfl rfl Tryz.underlying71 rfl (by kernel_rfl)) ?_;refine ah.next rfl rfl rfl rfl rfl rfl rfl (fun hcx=>aa.ag rfl rfl Tryz.underlying3 rfl k1 rfl) ?_;refine ah.next rfl rfl rfl rfl rfl rfl rfl (fun hcx=>aa.bN rfl rfl rfl) ?_;refine ah.next rfl rfl rfl rfl rfl rfl rfl (fun hcx=>aa.move rfl rfl) ?_;refine bM (fun hcx=>aa.an 1 rfl rfl Tryz.underlying71 rfl (by kernel_rfl)) ?_;refine ah.next rfl rfl rfl rfl rfl rfl rfl (fun hcx=>aa.ag rfl rfl Tryz.underlying9 rfl k1 rfl) ?_;refine ah.next rfl rfl rfl rfl rfl rfl rfl (fun hcx=>aa.fH (a:=t.name) (b:=[]) rfl rfl rfl hnm (by decide)) ?_;refine ah.mX rfl rfl rfl rfl rfl rfl rfl rfl rfl rfl rfl ?_;refine ah.or rfl rfl rfl rfl rfl rfl rfl ?_;refine bj 0 1 2 3 4 43 (Zt ?_);refine Cd.cond rfl (fun h=> ?_) (fun h=> ?_)
 ·have hhead:fx t.op t.name t.exprs.length t.aH.length=false:=by
   cases hq:fx t.op t.name t.exprs.length t.aH.length with
   |false=>rfl
   |true=>
    exfalso;unfold fx at hq;simp at hq h;obtain⟨⟨a,b⟩,c⟩:=hq;rw[a] at h;simp at h;rcases h with ⟨x,y⟩|⟨x,y⟩
    ·rcases b with b|b
     ·exact b x
     ·rw[b] at y;cases y
    ·rcases c with c|c
     ·exact x c
     ·exact y c
  rw[hhead] at hbt;refine ao ?_;refine Za ?_;refine bj 0 1 2 3 4 43 (Zt (Cd.ret (ab.af ?_)));refine ab.aE rfl rfl (.inl rfl) ?_;rw[hbt];exact⟨rfl,ae⟩
 ·have hhead:fx t.op t.name t.exprs.length t.aH.length=true:=by
   unfold fx;simp at h⊢;obtain⟨⟨⟨a1,a2⟩,b⟩,c⟩:=h;refine⟨⟨Prod.ext a1 a2,?_⟩,?_⟩
   ·by_cases h2:t.op=2
    ·exact .inr (b h2)
    ·exact .inl h2
   ·by_cases h2:t.op=2
    ·exact .inl h2
    ·exact .inr (c h2)
  rw[hhead] at hbt;refine Cd.skip (aG ?_);refine Zf 2 Tryz.underlying71 ?_;refine Zv (aa.ag rfl rfl Tryz.underlying68 rfl k1 rfl) ?_;refine Zc (Ze Tryz.func107) (hcl _ ae) ?_;rintro en w6 ⟨rfl,hb6⟩;refine⟨_,rfl,?_⟩;replace ae:=ae.step hb6;replace k1:=k1.step hb6;refine Zv (aa.not rfl rfl) ?_;refine Zm ?_;refine ah.start ?_;refine bM (fun hcx=>aa.an 3 rfl rfl Tryz.underlying71 rfl (by kernel_rfl)) ?_;refine ah.next rfl rfl rfl rfl rfl rfl rfl (fun hcx=>aa.ag rfl rfl Tryz.underlying69 rfl k1 rfl) ?_;refine ah.bY rfl rfl rfl rfl rfl rfl rfl (fun hcx=>Ze Tryz.func190) (fun hcx=>hcl2 _ ae) ?_;intro w3 hw3;replace ae:=ae.step hw3;replace k1:=k1.step hw3;refine ah.next rfl rfl rfl rfl rfl rfl rfl (fun hcx=>aa.not rfl rfl) ?_;refine ah.and rfl rfl rfl rfl rfl rfl rfl ?_;refine Za ?_;refine bj 0 1 2 3 4 43 (Zt (Cd.ret ?_));refine ab.aE rfl rfl (.inl rfl) ?_;refine⟨bw (aL ?_),ae⟩;rw[hbt,List.all_eq_not_any_not,List.all_eq_not_any_not,Bool.true_and]
def dF (t:Tm):Bool:=decide (t.nodes≤200)&&decide (t.depth≤16)&&du t
theorem yz (t:Tm)(B:Nat)(v:Value)(w:World)(hd:t.depth≤900)(hrep:fZ w B t v)(hB:B≤w.heap.size):Calls Tryz.prog 99 #[v] w fun en w'=>en= .returned (.bool (dF t))∧Grow w w':=by
 have hs:=fun W (hb:Below w.heap.size w W)=>rS t.nodes t 0 B v W (Nat.le_refl _) (by omega) (hrep.below (hb.mono hB)) (Nat.le_trans hB hb.size);have hbt:=fun W (hb:Below w.heap.size w W)=>qV t.nodes t B v W (Nat.le_refl _) (hrep.below (hb.mono hB)) (Nat.le_trans hB hb.size);have hc:=rQ t;have hdn:=t.bV
 have hres:(decide (t.nodes≤200)&&decide (t.depth≤16))=(decide ((wS t).1≤200)&&decide ((wS t).2≤16)):=by
  obtain⟨c1,c2⟩:=hc;rw[Bool.eq_iff_iff];simp only[Bool.and_eq_true,decide_eq_true_eq]
  constructor
  ·rintro⟨h1,h2⟩
   rw[c2 (by omega)];omega
  ·rintro⟨h1,h2⟩
   have h3:t.nodes≤200:=by omega
   rw[c2 (by omega)] at h2;omega
 unfold dF;rw[hres];obtain⟨A,c,A',c',rfl,-⟩:=hrep.open;have ae:=Below.refl w.heap.size w
 generalize (wS t)=s at *
 refine Zs 10 Tryz.func99 ?_;refine ao ?_;refine Seq.box rfl rfl rfl rfl rfl ?_;intro g1 w1 n1;have e1:=Nat.le_trans ae.size n1.ge;replace ae:=ae.step n1.below;have k1:=n1.av;refine Za ?_;refine bD 0 1 2 (aG ?_);refine Zv (aa.aQ rfl rfl Tryz.underlying71 rfl k1 (m:=4) (by kernel_rfl) rfl) ?_;refine Zc (Ze Tryz.func140) (hs _ ae) ?_;rintro en w5 ⟨rfl,hb5⟩;refine⟨_,rfl,?_⟩;replace ae:=ae.step hb5;replace k1:=k1.step hb5;refine Zc (Ze Tryz.func141) (nR s.1 s.2 _) ?_;rintro en w6 ⟨rfl,hb6⟩;refine⟨_,rfl,?_⟩;replace ae:=ae.step hb6;replace k1:=k1.step hb6;refine Zm ?_;refine ah.start ?_;refine bM (fun hcx=>aa.aQ rfl rfl Tryz.underlying71 rfl k1 (m:=4) (by kernel_rfl) rfl) ?_;refine ah.bY rfl rfl rfl rfl rfl rfl rfl (fun hcx=>Ze Tryz.func142) (fun hcx=>hbt _ ae) ?_;intro w2 hw2;replace ae:=ae.step hw2;replace k1:=k1.step hw2;refine ah.and rfl rfl rfl rfl rfl rfl rfl ?_;refine Za ?_;refine bD 0 1 2 (Zt (Cd.ret ?_));refine ab.aE rfl rfl (.inl rfl) ?_;exact⟨bw (aL (by cases (decide (s.1≤200)&&decide (s.2≤16))<;>rfl)),ae⟩
theorem me (op:Int)(nm:List Nat)(n m:Nat):fx op nm n m=true↔BF op=((n:Int),(m:Int))∧(op=2→gI nm=true)∧(op≠2→nm=[]):=by
 unfold fx;simp
 constructor
 ·rintro⟨⟨a,b⟩,c⟩
  refine⟨a,fun h=> ?_,fun h=> ?_⟩
  ·rcases b with b|b
   ·exact absurd h b
   ·exact b
  ·rcases c with c|c
   ·exact absurd c h
   ·exact c
 ·rintro⟨a,b,c⟩
  refine⟨⟨a,?_⟩,?_⟩
  ·by_cases h2:op=2
   ·exact .inr (b h2)
   ·exact .inl h2
  ·by_cases h2:op=2
   ·exact .inl h2
   ·exact .inr (c h2)
theorem Af {op:Int}{n m:Nat}(h:BF op=((n:Int),(m:Int))):1≤op∧op≤9∧n≤1∧m≤2:=by
 unfold BF at h
 repeat' split at h
 all_goals (have h1:=congrArg Prod.fst h;have h2:=congrArg Prod.snd h;simp only at h1 h2;omega)
section
variable {w w':World} {T:List Nat} {ts:List Tm} {vs:List Value}
end
def jt:List (List Nat):=[[122,101,114,111],[111,110,101],[103,105,118,101],[97,110,100],[111,114],[115,99,97,108,101],[119,104,101,110],[117,110,116,105,108],[97,110,121,116,105,109,101]]
def kr (op:Int):List Nat:=jt.getD (op-1).toNat []
mutual
def dn:Tm→List Nat
 | .mk op nm es l=>if op=1 then [122,101,114,111] else kr op++[40]++cA ((if op=2 then [nm] else [])++es.map bR++oW l)++[41]
def oW:List Tm→List (List Nat)
 | []=>[]
 |t::r=>dn t::oW r
end
theorem po:∀l,oW l=l.map dn
 | []=>by rw[oW];rfl
 |e::r=>by rw[oW,po r];rfl
theorem oR (t:Tm):dn t=if t.op=1 then [122,101,114,111] else kr t.op++[40]++cA ((if t.op=2 then [t.name] else [])++t.exprs.map bR++t.aH.map dn)++[41]:=by
 cases t;rw[dn,po];rfl
theorem uw (op:Int)(w:World)(h1:1≤op)(h2:op≤9):Calls Tryz.prog 114 #[.int .i64 op] w fun e w'=>e= .returned (.string (strOf (kr op)))∧Grow w w':=by
 have ae:=Below.refl w.heap.size w;obtain⟨j,hj⟩:∃j,(op-1).toNat=j:=⟨_,rfl⟩;have hw:kr op=jt.getD j []:=by unfold kr;rw[hj]
 rw[hw];have hj9:j<9:=by omega
 have hs:(jt.map fun s=>Value.string (strOf s)).toArray[j]? =some (.string (strOf (jt.getD j []))):=by
  rw[List.getElem?_toArray,List.getElem?_map,List.getD_eq_getElem?_getD,List.getElem?_eq_getElem (show j<jt.length from hj9)];rfl
 refine Zs 10 Tryz.func114 ?_;refine ao ?_;refine Za ?_;refine eh 0 2 (aG ?_);refine Seq.slice (vs:=[_,_,_,_,_,_,_,_,_]) (s:=1) rfl rfl rfl Tryz.underlying66 (by kernel_rfl) (bl) (by omega) (by omega) ⟨rfl,rfl,rfl,rfl,rfl,rfl,rfl,rfl,rfl,trivial⟩ rfl rfl rfl ?_;intro g4 w1 n4;have e4:=Nat.le_trans ae.size n4.ge;replace ae:=ae.step n4.below;have k4:=n4.av;refine Za ?_;refine bD 0 2 3 (aG ?_);refine Zm ?_;refine Zm ?_;refine Zv (aa.eU rfl rfl rfl (by omega) (by omega)) ?_;have k4:aK _ g4 9 (jt.map fun s=>Value.string (strOf s)).toArray:=k4;refine Zv (aa.dN rfl rfl rfl Tryz.underlying66 (by kernel_rfl) (j:=j) (by omega) (by omega)) ?_;refine Zv (aa.ag rfl rfl Tryz.underlying9 rfl k4 hs) ?_;refine Za ?_;refine bD 0 2 3 (Zt (Cd.ret ?_));refine ab.aE rfl rfl (.inl rfl) ?_;exact⟨rfl,ae⟩
theorem qF (op:Int)(w:World)(h1:1≤op)(h2:op≤9):Calls Tryz.prog 176 #[.int .i64 op] w fun e w'=>e= .returned (.string (strOf (kr op)))∧Grow w w':=by
 have ae:=Below.refl w.heap.size w;refine Zs 20 Tryz.func176 ?_;refine ao ?_;refine Za ?_;refine eh 0 2 (aJ (ao ?_));refine Zm ?_;refine bD 0 2 3 (Zt (Cd.block (ao ?_)));refine Zv (aa.aB rfl rfl rfl) ?_;refine Za ?_;refine aV 0 2 3 4 (Zt ?_);refine Cd.au rfl (fun g1=> ?_) (fun g1=> ?_)
 ·skip
  refine ao ?_;refine Za ?_;refine aV 0 2 3 4 (Zt (Cd.ret (ab.ak (ab.af ?_))));refine ab.aE rfl rfl (.inl rfl) ?_;subst g1;exact⟨rfl,ae⟩
 refine ao ?_;refine Zv (aa.aB rfl rfl rfl) ?_;refine Za ?_;refine aU 0 2 3 4 6 (Zt ?_);refine Cd.au rfl (fun h3=> ?_) (fun h3=> ?_)
 ·skip
  refine ao ?_;refine Za ?_;refine aU 0 2 3 4 6 (Zt (Cd.ret (ab.ak (ab.af ?_))));refine ab.aE rfl rfl (.inl rfl) ?_;subst h3;exact⟨rfl,ae⟩
 refine ao ?_;refine Zv (aa.aB rfl rfl rfl) ?_;refine Za ?_;refine bj 0 2 3 4 6 8 (Zt ?_);refine Cd.au rfl (fun h4=> ?_) (fun h4=> ?_)
 ·skip
  refine ao ?_;refine Za ?_;refine bj 0 2 3 4 6 8 (Zt (Cd.ret (ab.ak (ab.af ?_))));refine ab.aE rfl rfl (.inl rfl) ?_;subst h4;exact⟨rfl,ae⟩
 refine ao ?_;refine Zv (aa.aB rfl rfl rfl) ?_;refine Za ?_;refine bb 0 2 3 4 6 8 10 (Zt ?_);refine Cd.au rfl (fun h5=> ?_) (fun h5=> ?_)
 ·skip
  refine ao ?_;refine Za ?_;refine bb 0 2 3 4 6 8 10 (Zt (Cd.ret (ab.ak (ab.af ?_))));refine ab.aE rfl rfl (.inl rfl) ?_;subst h5;exact⟨rfl,ae⟩
 refine ao ?_;refine Zv (aa.aB rfl rfl rfl) ?_;refine Za ?_;refine cI 0 2 3 4 6 8 10 12 (Zt ?_);refine Cd.au rfl (fun h6=> ?_) (fun h6=> ?_)
 ·skip
  refine ao ?_;refine Za ?_;refine cI 0 2 3 4 6 8 10 12 (Zt (Cd.ret (ab.ak (ab.af ?_))));refine ab.aE rfl rfl (.inl rfl) ?_;subst h6;exact⟨rfl,ae⟩
 refine ao ?_;refine Zv (aa.aB rfl rfl rfl) ?_;refine Za ?_;refine dG 0 2 3 4 6 8 10 12 14 (Zt ?_);refine Cd.au rfl (fun h7=> ?_) (fun h7=> ?_)
 ·skip
  refine ao ?_;refine Za ?_;refine dG 0 2 3 4 6 8 10 12 14 (Zt (Cd.ret (ab.ak (ab.af ?_))));refine ab.aE rfl rfl (.inl rfl) ?_;subst h7;exact⟨rfl,ae⟩
 refine ao ?_;refine Zv (aa.aB rfl rfl rfl) ?_;refine Za ?_;refine dg 0 2 3 4 6 8 10 12 14 16 (Zt ?_);refine Cd.au rfl (fun h8=> ?_) (fun h8=> ?_)
 ·skip
  refine ao ?_;refine Za ?_;refine dg 0 2 3 4 6 8 10 12 14 16 (Zt (Cd.ret (ab.ak (ab.af ?_))));refine ab.aE rfl rfl (.inl rfl) ?_;subst h8;exact⟨rfl,ae⟩
 refine ao ?_;refine Zv (aa.aB rfl rfl rfl) ?_;refine Za ?_;refine dr 0 2 3 4 6 8 10 12 14 16 18 (Zt ?_);refine Cd.au rfl (fun h9=> ?_) (fun h9=> ?_)
 ·skip
  refine ao ?_;refine Za ?_;refine dr 0 2 3 4 6 8 10 12 14 16 18 (Zt (Cd.ret (ab.ak (ab.af ?_))));refine ab.aE rfl rfl (.inl rfl) ?_;subst h9;exact⟨rfl,ae⟩
 refine Cd.skip (ab.aj (aG ?_));refine Za ?_;refine dr 0 2 3 4 6 8 10 12 14 16 18 (Zt (Cd.ret ?_));refine ab.aE rfl rfl (.inl rfl) ?_;obtain rfl:op=2:=by omega
 exact⟨rfl,ae⟩
theorem jL {t:Tm}(h:du t=true):fx t.op t.name t.exprs.length t.aH.length=true∧(∀x∈t.exprs,bB x=true)∧∀x∈t.aH,du x=true:=by
 rw[na,Bool.and_eq_true,Bool.and_eq_true,List.all_eq_true,List.all_eq_true] at h;exact⟨h.1.1,h.1.2,h.2⟩
theorem nA (op:Int):(kr op).length≤7∧∀x∈kr op,x<256:=by
 unfold kr
 generalize (op-1).toNat=j
 rcases Nat.lt_or_ge j 9 with h|h
 ·have key:∀j:Fin 9,(jt.getD j.val []).length≤7∧∀x∈jt.getD j.val [],x<256:=by decide
  exact key ⟨j,h⟩
 ·rw[List.getD_eq_getElem?_getD,List.getElem?_eq_none (show jt.length≤j from h)]
  simp
theorem tP:∀l:List (List Nat),(cA l).length≤(l.map fun t=>t.length+2).sum
 | []=>by simp[cA]
 | [x]=>by simp[cA]
 |x::y::r=>by
  have h2:=tP (y::r);rw[oa];simp only[List.length_append,List.length_cons,List.length_nil,List.map_cons,List.sum_cons] at h2⊢;omega
theorem ri:∀l:List Ex,(∀x∈l,(bR x).length≤50*x.nodes)→((l.map bR).map fun t=>t.length+2).sum≤60*aM l
 | [],_=>by simp
 |x::r,h=>by
  have h1:=h x List.mem_cons_self;have h2:=ri r fun z hz=>h z (List.mem_cons_of_mem _ hz);have hp:=x.cO;rw[aM,List.map_cons,List.map_cons,List.sum_cons];omega
theorem rP:∀l:List Tm,(∀x∈l,(dn x).length+2≤60*x.nodes)→((l.map dn).map fun t=>t.length+2).sum≤60*ct l
 | [],_=>by simp
 |x::r,h=>by
  have h1:=h x List.mem_cons_self;have h2:=rP r fun z hz=>h z (List.mem_cons_of_mem _ hz);rw[ct,List.map_cons,List.map_cons,List.sum_cons];omega
theorem ji (N:Nat):∀t:Tm,t.nodes≤N→du t=true→(dn t).length+2≤60*t.nodes∧∀d∈dn t,d<256:=by
 induction N with
 |zero=>intro t hN;have:=t.cO;omega
 |succ N ih=>
  intro t hN hb;obtain⟨hh,he,ht⟩:=jL hb;obtain⟨a1,a2,a3⟩:=(me _ _ _ _).1 hh;have hn:=t.kQ;have hE:=ri t.exprs fun x hx=>(fq x.nodes x (Nat.le_refl _) (he x hx)).1;have hT:=rP t.aH fun x hx=>(ih x (by have:=Tm.fE hx;omega) (ht x hx)).1;have hw:=nA t.op;rw[oR];split
  ·exact⟨by simp;omega,by decide⟩
  ·have hj:=tP ((if t.op=2 then [t.name] else [])++t.exprs.map bR++t.aH.map dn)
   rw[List.map_append,List.map_append,List.sum_append,List.sum_append] at hj
   have hnm:((if t.op=2 then [t.name] else []).map fun t=>t.length+2).sum≤18:=by
    split
    ·rename_i h
     have:=mK (a2 h);simp;omega
    ·simp
   refine⟨by simp only[List.length_append,List.length_cons,List.length_nil];omega,Cp (fun x hx=> ?_) (xn fun u hu=> ?_) (by decide)⟩
   ·rcases List.mem_append.1 hx with hx|hx
    ·exact hw.2 x hx
    ·simp at hx;omega
   ·rcases List.mem_append.1 hu with hu|hu
    ·rcases List.mem_append.1 hu with hu|hu
     ·split at hu
      ·rename_i h
       obtain rfl:=List.mem_singleton.1 hu;exact oH (a2 h)
      ·cases hu
     ·obtain⟨x,hx,rfl⟩:=List.mem_map.1 hu
      exact(fq x.nodes x (Nat.le_refl _) (he x hx)).2
    ·obtain⟨x,hx,rfl⟩:=List.mem_map.1 hu
     exact(ih x (by have:=Tm.fE hx;omega) (ht x hx)).2
def strs (l:List (List Nat)):List Value:=l.map fun s=> .string (strOf s)
theorem oe (a b:List (List Nat)):strs (a++b)=strs a++strs b:=by simp[strs]
theorem um (N:Nat):∀(t:Tm) (B:Nat) (v:Value) (w:World),t.nodes≤N→t.nodes≤200→du t=true→fZ w B t v→B≤w.heap.size→Calls Tryz.prog 65 #[v] w fun en w'=>en= .returned (.string (strOf (dn t)))∧Grow w w':=by
 induction N with
 |zero=>intro t B v w hN;have:=t.cO;omega
 |succ N ih=>
 intro t B v w hN h200 hbt hrep hB;obtain⟨A,c,A',c',rfl,hv⟩:=hrep.open;obtain⟨hh,hexp,hter⟩:=jL hbt;obtain⟨a1,a2,a3⟩:=(me _ _ _ _).1 hh;obtain⟨p1,p2,p3,p4⟩:=Af a1;have hT:=oR t;have ae:=Below.refl w.heap.size w;refine Zs 57 Tryz.func65 ?_;refine ao ?_;refine Seq.box rfl rfl rfl rfl rfl ?_;intro g1 w1 n1;have e1:=Nat.le_trans ae.size n1.ge;replace ae:=ae.step n1.below;have k1:=n1.av;refine Za ?_;refine bD 0 1 2 (aJ (ao ?_));refine Zf 0 Tryz.underlying71 ?_;refine Zv (aa.ag rfl rfl Tryz.underlying3 rfl k1 rfl) ?_;refine Zv (aa.aB rfl rfl rfl) ?_;refine aV 0 1 2 8 (Zt ?_);refine Cd.au rfl (fun h1=> ?_) (fun h1=> ?_)
 ·rw[if_pos h1] at hT
  refine ao ?_;refine Za ?_;refine aV 0 1 2 8 (Zt (Cd.ret (ab.af ?_)));refine ab.aE rfl rfl (.inl rfl) ?_;rw[hT];exact⟨rfl,ae⟩
 rw[if_neg h1] at hT;refine Cd.skip (aG ?_);refine Za ?_;refine aU 0 1 2 3 8 (Zt ?_);refine Cd.lz (σ:=Value) (fun v=>[(1, .pointer (some ⟨g1,0,none⟩)),(3,v)]) (fun v wr=>Below w.heap.size w wr∧aK wr g1 71 #[.int .i64 t.op, .string (strOf t.name), .slice A t.exprs.length c, .slice A' t.aH.length c']∧Own wr w.heap.size 9 1 v (if t.op=2 then [t.name] else []).length (strs (if t.op=2 then [t.name] else []))) ?_ ?_
 ·skip
  refine ao ?_;refine Zf 0 Tryz.underlying71 ?_;refine Zv (aa.ag rfl rfl Tryz.underlying3 rfl k1 rfl) ?_;refine Zv (aa.aB rfl rfl rfl) ?_;refine bj 0 1 2 3 8 11 (Zt ?_);refine Cd.au rfl (fun h2=> ?_) (fun h2=> ?_)
  ·rw[if_pos h2]
   have own:Own w1 w.heap.size 9 1 (.slice none 0 0) 0 []:=Own.nil _ _ _ _;refine Zr ?_;refine Zm ?_;refine Zf 1 Tryz.underlying71 ?_;refine Zv (aa.ag rfl rfl Tryz.underlying9 rfl k1 rfl) ?_;refine Seq.slice (vs:=[_]) (s:=1) rfl rfl rfl Tryz.underlying66 (by kernel_rfl) (bl) (by omega) (by omega) ⟨rfl,trivial⟩ rfl rfl rfl ?_;intro g15 w2 n15;have e15:=Nat.le_trans ae.size n15.ge;have l15:=Nat.lt_of_lt_of_le k1.lt n15.ge;replace ae:=ae.step n15.below;replace k1:=k1.step n15.below;replace own:=own.step n15.below;have k15:=n15.av;refine Seq.append rfl rfl rfl Tryz.underlying66 (by kernel_rfl) bl rfl (by decide) (b:=16) (by kernel_rfl) own (Reads.av k15 1 rfl) (by intro x hx;simp[aP,Value.cells] at hx;rw[hx];rfl) ae.size (by simp only[maxLen];omega) (by omega) rfl rfl rfl ?_;intro vw3 w3 ow3 haw3
   try replace k1:=k1.app own haw3
   try replace k15:=k15.app own haw3
   clear own;have own:=ow3;replace ae:=ae.trans haw3.below;refine Za ?_;refine bj 0 1 2 3 8 11 ?_;exact ab.join _ ⟨rfl,rfl,trivial⟩ ⟨ae,k1,own⟩
  ·rw[if_neg h2]
   refine Cd.skip ?_;exact ab.join _ ⟨rfl,rfl,trivial⟩ ⟨ae,k1,Own.nil _ _ _ _⟩
 clear ae k1;rintro v wj ⟨ae,k1,own⟩;obtain⟨pre,hpre⟩:∃pre,pre=if t.op=2 then [t.name] else []:=⟨_,rfl⟩;rw[←hpre] at own hT;have hpl:pre.length≤1:=by rw[hpre];split<;>simp
 refine Cd.seq (ao ?_);refine Za ?_;refine bD 1 3 4 (Zt (Cd.block ?_));refine Cd.loop (σ:=Nat × Value) (fun s=>[(1, .pointer (some ⟨g1,0,none⟩)),(3,s.2),(4, .int .i64 (s.1:Int))]) (fun s wr=>s.1≤t.exprs.length∧Below w.heap.size w wr∧aK wr g1 71 #[.int .i64 t.op, .string (strOf t.name), .slice A t.exprs.length c, .slice A' t.aH.length c']∧Own wr w.heap.size 9 1 s.2 (pre++(t.exprs.take s.1).map bR).length (strs (pre++(t.exprs.take s.1).map bR))) (fun s=>t.exprs.length-s.1) (0,v) ⟨Nat.zero_le _,ae,k1,by simpa using own⟩ ⟨rfl,rfl,rfl,trivial⟩ ?_;clear ae k1;clear own;rintro⟨k,v⟩ wr ⟨hk,ae,k1,own⟩;dsimp only at hk own⊢;refine Cd.seq (ao ?_);refine Zm ?_;refine Zf 2 Tryz.underlying71 ?_;refine Zv (aa.ag rfl rfl Tryz.underlying68 rfl k1 rfl) ?_;refine Zv (aa.len rfl rfl Tryz.underlying68) ?_;refine Zv (aa.lss rfl rfl rfl) ?_;refine aV 1 3 4 21 (Zt ?_);refine Cd.au rfl (fun hc=> ?_) (fun hc=> ?_)
 ·obtain⟨y,hy⟩:∃y,t.exprs[k]? =some y:=⟨_,List.getElem?_eq_getElem (by omega)⟩
  obtain⟨ad,Ax,cx,rfl,hbl,hrx,hc⟩:=hv.expr k y hy;have hxm:=List.mem_of_getElem? hy;have hxn:=Tm.qe hxm;have hc:=fun j u hj=>((ae.mono hB).cell (p:=(ad.add (k*4)).add j) (by rw[aw,aw];exact hbl)).trans (hc j u hj);have htk:t.exprs.take (k+1)=t.exprs.take k++[y]:=by rw[List.take_add_one,hy];rfl
  have hrec:=fun W (hb:Below w.heap.size w W)=>tU y.nodes y B _ W (Nat.le_refl _) (by omega) (hexp y hxm) (hrx.below (hb.mono hB)) (Nat.le_trans hB hb.size);have hlk:(pre++(t.exprs.take k).map bR).length≤10:=by rw[List.length_append,List.length_map,List.length_take];omega
  refine Cd.skip (aJ (Cd.block (Zr ?_)));refine Zm ?_;refine Zf 2 Tryz.underlying71 ?_;refine Zv (aa.ag rfl rfl Tryz.underlying68 rfl k1 rfl) ?_;refine Zm ?_;refine Zv (aa.bI rfl rfl rfl Tryz.underlying68 (s:=4) (by kernel_rfl) (j:=k) rfl (by omega)) ?_;refine Zv (aa.ef (ps:=[.int .i64 y.op, .int .i64 y.n, .string (strOf y.name), .slice Ax y.args.length cx]) rfl rfl Tryz.underlying105 rfl (m:=4) (by kernel_rfl) rfl hc) ?_;refine Zc (Ze Tryz.func64) (hrec _ ae) ?_;rintro en w6 ⟨rfl,hb6⟩;refine⟨_,rfl,?_⟩;replace ae:=ae.step hb6;replace k1:=k1.step hb6;replace own:=own.step hb6;refine Seq.slice (vs:=[_]) (s:=1) rfl rfl rfl Tryz.underlying66 (by kernel_rfl) (bl) (by omega) (by omega) ⟨rfl,trivial⟩ rfl rfl rfl ?_;intro g31 w2 n31;have e31:=Nat.le_trans ae.size n31.ge;have l31:=Nat.lt_of_lt_of_le k1.lt n31.ge;replace ae:=ae.step n31.below;replace k1:=k1.step n31.below;replace own:=own.step n31.below;have k31:=n31.av;refine Seq.append rfl rfl rfl Tryz.underlying66 (by kernel_rfl) bl rfl (by decide) (b:=16) (by kernel_rfl) own (Reads.av k31 1 rfl) (by intro x hx;simp[aP,Value.cells] at hx;rw[hx];rfl) ae.size (by simp only[maxLen];omega) (by omega) rfl rfl rfl ?_;intro vw3 w3 ow3 haw3
  try replace k1:=k1.app own haw3
  try replace k31:=k31.app own haw3
  clear own;have own:=ow3;replace ae:=ae.trans haw3.below;refine Za ?_;refine aV 1 3 4 21 (ab.aj (ei ?_));refine Zm ?_;refine cH ?_;refine Za ?_;refine aV 1 3 4 21 ?_;refine ab.round (k+1,_) ⟨rfl,rfl,rfl,trivial⟩ ⟨by dsimp only;omega,ae,k1,?_⟩ (by dsimp only;omega);dsimp only;rw[htk,List.map_append,←List.append_assoc,oe,List.length_append];exact own
 obtain rfl:k=t.exprs.length:=by omega
 rw[List.take_of_length_le (Nat.le_refl _)] at own;obtain⟨pre2,hpre2⟩:∃pre2,pre2=pre++t.exprs.map bR:=⟨_,rfl⟩;rw[←hpre2] at own hT;have hpl2:pre2.length≤10:=by rw[hpre2,List.length_append,List.length_map];omega
 refine Cd.exit (ab.aD (ab.aA (ab.az (aJ (ao ?_)))));refine Za ?_;refine aU 1 3 4 5 21 (Zt (Cd.block ?_));refine Cd.loop (σ:=Nat × Value) (fun s=>[(1, .pointer (some ⟨g1,0,none⟩)),(3,s.2),(5, .int .i64 (s.1:Int))]) (fun s wr=>s.1≤t.aH.length∧Below w.heap.size w wr∧aK wr g1 71 #[.int .i64 t.op, .string (strOf t.name), .slice A t.exprs.length c, .slice A' t.aH.length c']∧Own wr w.heap.size 9 1 s.2 (pre2++(t.aH.take s.1).map dn).length (strs (pre2++(t.aH.take s.1).map dn))) (fun s=>t.aH.length-s.1) (0,v) ⟨Nat.zero_le _,ae,k1,by simpa using own⟩ ⟨rfl,rfl,rfl,trivial⟩ ?_;clear ae k1;clear own;rintro⟨k,v⟩ wr ⟨hk,ae,k1,own⟩;dsimp only at hk own⊢;refine Cd.seq (ao ?_);refine Zm ?_;refine Zf 3 Tryz.underlying71 ?_;refine Zv (aa.ag rfl rfl Tryz.underlying69 rfl k1 rfl) ?_;refine Zv (aa.len rfl rfl Tryz.underlying69) ?_;refine Zv (aa.lss rfl rfl rfl) ?_;refine aV 1 3 5 37 (Zt ?_);refine Cd.au rfl (fun hc=> ?_) (fun hc=> ?_)
 ·obtain⟨y,hy⟩:∃y,t.aH[k]? =some y:=⟨_,List.getElem?_eq_getElem (by omega)⟩
  obtain⟨ad,A1,A2,d1,d2,rfl,hbl,hrx,hc⟩:=hv.term k y hy;have hxm:=List.mem_of_getElem? hy;have hxn:=Tm.fE hxm;have hc:=fun j u hj=>((ae.mono hB).cell (p:=(ad.add (k*4)).add j) (by rw[aw,aw];exact hbl)).trans (hc j u hj);have htk:t.aH.take (k+1)=t.aH.take k++[y]:=by rw[List.take_add_one,hy];rfl
  have hrec:=fun W (hb:Below w.heap.size w W)=>ih y B _ W (by omega) (by omega) (hter y hxm) (hrx.below (hb.mono hB)) (Nat.le_trans hB hb.size);have hlk:(pre2++(t.aH.take k).map dn).length≤20:=by rw[List.length_append,List.length_map,List.length_take];omega
  refine Cd.skip (aJ (Cd.block (Zr ?_)));refine Zm ?_;refine Zf 3 Tryz.underlying71 ?_;refine Zv (aa.ag rfl rfl Tryz.underlying69 rfl k1 rfl) ?_;refine Zm ?_;refine Zv (aa.bI rfl rfl rfl Tryz.underlying69 (s:=4) (by kernel_rfl) (j:=k) rfl (by omega)) ?_;refine Zv (aa.ef (ps:=[.int .i64 y.op, .string (strOf y.name), .slice A1 y.exprs.length d1, .slice A2 y.aH.length d2]) rfl rfl Tryz.underlying71 rfl (m:=4) (by kernel_rfl) rfl hc) ?_;refine Zc (Ze Tryz.func65) (hrec _ ae) ?_;rintro en w6 ⟨rfl,hb6⟩;refine⟨_,rfl,?_⟩;replace ae:=ae.step hb6;replace k1:=k1.step hb6;replace own:=own.step hb6;refine Seq.slice (vs:=[_]) (s:=1) rfl rfl rfl Tryz.underlying66 (by kernel_rfl) (bl) (by omega) (by omega) ⟨rfl,trivial⟩ rfl rfl rfl ?_;intro g47 w2 n47;have e47:=Nat.le_trans ae.size n47.ge;have l47:=Nat.lt_of_lt_of_le k1.lt n47.ge;replace ae:=ae.step n47.below;replace k1:=k1.step n47.below;replace own:=own.step n47.below;have k47:=n47.av;refine Seq.append rfl rfl rfl Tryz.underlying66 (by kernel_rfl) bl rfl (by decide) (b:=16) (by kernel_rfl) own (Reads.av k47 1 rfl) (by intro x hx;simp[aP,Value.cells] at hx;rw[hx];rfl) ae.size (by simp only[maxLen];omega) (by omega) rfl rfl rfl ?_;intro vw3 w3 ow3 haw3
  try replace k1:=k1.app own haw3
  try replace k47:=k47.app own haw3
  clear own;have own:=ow3;replace ae:=ae.trans haw3.below;refine Za ?_;refine aV 1 3 5 37 (ab.aj (ei ?_));refine Zm ?_;refine cH ?_;refine Za ?_;refine aV 1 3 5 37 ?_;refine ab.round (k+1,_) ⟨rfl,rfl,rfl,trivial⟩ ⟨by dsimp only;omega,ae,k1,?_⟩ (by dsimp only;omega);dsimp only;rw[htk,List.map_append,←List.append_assoc,oe,List.length_append];exact own
 ·obtain rfl:k=t.aH.length:=by omega
  rw[List.take_of_length_le (Nat.le_refl _)] at own;obtain⟨l,hl⟩:∃l,l=pre2++t.aH.map dn:=⟨_,rfl⟩;rw[←hl] at own hT;have hll:l.length≤20:=by rw[hl,List.length_append,List.length_map];omega
  have hbd:=(ji t.nodes t (Nat.le_refl _) hbt).1;have hwl:=(nA t.op).1;rw[hT] at hbd;simp only[List.length_append,List.length_cons,List.length_nil] at hbd;obtain⟨A9,c9,rfl,rd⟩:=own.reads;have hjoin:=fun W (hb:Below wr.heap.size wr W)=>sX l.length c9 A9 l W ((rd.below hb).more hb.size) (by omega) (by omega);have hloc:=Below.refl wr.heap.size wr;refine Cd.exit (ab.aD (ab.aA (ab.az (aG ?_))));refine Zf 0 Tryz.underlying71 ?_;refine Zv (aa.ag rfl rfl Tryz.underlying3 rfl k1 rfl) ?_;refine Zc (Ze Tryz.func114) (uw t.op _ p1 p2) ?_;rintro en w6 ⟨rfl,hb6⟩;refine⟨_,rfl,?_⟩;replace ae:=ae.step hb6;replace k1:=k1.step hb6;replace hloc:=hloc.step hb6;refine Zv (aa.dv (b:=[40]) rfl rfl rfl (by simp only[List.length_cons,List.length_nil];omega)) ?_;refine Zm ?_;refine Zc (Ze Tryz.func113) (hjoin _ hloc) ?_;rintro en w7 ⟨rfl,hb7⟩;refine⟨_,rfl,?_⟩;replace ae:=ae.step hb7;replace k1:=k1.step hb7;replace hloc:=hloc.step hb7;refine Zv (aa.dv rfl rfl rfl (by simp only[List.length_append,List.length_cons,List.length_nil];omega)) ?_;refine Zv (aa.dv (b:=[41]) rfl rfl rfl (by simp only[List.length_append,List.length_cons,List.length_nil];omega)) ?_;refine Za ?_;refine aU 1 2 3 5 37 (Zt (Cd.ret ?_));refine ab.aE rfl rfl (.inl rfl) ?_;rw[hT];exact⟨rfl,ae⟩
theorem xz (B g i:Nat)(t:Tm)(A A':Option Addr)(c c' f:Nat)(fst cp:List Value)(bs T:List Nat)(W:World)(hv:ra W B t A A')(h200:t.nodes≤200)(hbt:du t=true)(wr:Bw W B g bs)(hl:bs.length≤60000000)
  (eg:∀args w,(callFunc f args).run Tryz.prog w= .ok (.enter f args) w) (hi:i<t.exprs.length+t.aH.length)
  (hT:∀x,t.exprs[i]? =some x→T=bR x)
  (hS:∀k x A1 A2 c1 c2,t.aH[k]? =some x→i=t.exprs.length+k→∀W',Wt B W W'→fZ W' B x (.agg (DL x A1 A2 c1 c2).toArray)→Bw W' B g bs→Calls Tryz.prog f (fst++[Value.agg (DL x A1 A2 c1 c2).toArray]++cp).toArray W' (ij B g (bs++T) W')):
  Calls Tryz.prog 178 #[.pointer (some ⟨g,0,none⟩), .agg #[.int .i64 t.op, .string (strOf t.name), .slice A t.exprs.length c, .slice A' t.aH.length c'], .int .i64 (i:Int), .func (.func f) fst.toArray cp.toArray] W (ij B g (bs++T) W):=by
 obtain⟨hh,hexp,hter⟩:=jL hbt;have hBW:=wr.size;have jV:=hv.jV;have h61:=hv.mq;have wt:=Wt.refl B W;refine Zs 31 Tryz.func178 ?_;refine ao ?_;refine Seq.box rfl rfl rfl rfl rfl ?_;intro g5 w1 n5;replace wt:=wt.step n5.below;replace wr:=wr.step n5.below;have k5:=n5.av;refine aU 0 1 2 3 5 (aJ (ao ?_));refine Zm ?_;refine Zf 2 Tryz.underlying71 ?_;refine Zv (aa.ag rfl rfl Tryz.underlying68 rfl k5 rfl) ?_;refine Zv (aa.len rfl rfl Tryz.underlying68) ?_;refine Zv (aa.lss rfl rfl rfl) ?_;refine bj 0 1 2 3 5 12 (Zt ?_);refine Cd.au rfl (fun hc=> ?_) (fun hc=> ?_)
 ·obtain⟨y,hy⟩:∃y,t.exprs[i]? =some y:=⟨_,List.getElem?_eq_getElem (by omega)⟩
  obtain⟨ad,Ax,cx,rfl,hbl,hrx,hce⟩:=hv.expr i y hy;have hxm:=List.mem_of_getElem? hy;have hxn:=Tm.qe hxm;have hxd:=y.bV;have hce:=fun j u hj=>((wt.to hBW).cell (p:=(ad.add (i*4)).add j) (by rw[aw,aw];exact hbl)).trans (hce j u hj);have hex:=xD y.nodes y B g bs _ 1 _ (Nat.le_refl _) (by omega) (hexp y hxm) (hrx.below (wt.to hBW)) wr (by unfold bt;omega) (by omega);rw[wH,←hT y hy] at hex;refine ao ?_;refine Zm ?_;refine Zf 2 Tryz.underlying71 ?_;refine Zv (aa.ag rfl rfl Tryz.underlying68 rfl k5 rfl) ?_;refine Zm ?_;refine Zv (aa.bI rfl rfl rfl Tryz.underlying68 (s:=4) (by kernel_rfl) (j:=i) rfl (by omega)) ?_;refine Zv (aa.ef (ps:=[.int .i64 y.op, .int .i64 y.n, .string (strOf y.name), .slice Ax y.args.length cx]) rfl rfl Tryz.underlying105 rfl (m:=4) (by kernel_rfl) rfl hce) ?_;refine Zc (Ze Tryz.func138) (hex) ?_;clear wr;rintro e w2 ⟨⟨_,rfl⟩,fw2,wr⟩;refine⟨_,rfl,?_⟩;replace wt:=wt.wt fw2;refine bj 0 1 2 3 5 12 (Zt (Cd.ret (ab.af ?_)));refine ab.fP rfl (.inl rfl) ?_;exact⟨⟨_,rfl⟩,wt,wr⟩
 ·obtain⟨k,rfl⟩:∃k,i=t.exprs.length+k:=⟨i-t.exprs.length,by omega⟩
  obtain⟨y,hy⟩:∃y,t.aH[k]? =some y:=⟨_,List.getElem?_eq_getElem (by omega)⟩;obtain⟨ad,A1,A2,d1,d2,rfl,hbl,hrx,hce⟩:=hv.term k y hy;have hce:=fun j u hj=>((wt.to hBW).cell (p:=(ad.add (k*4)).add j) (by rw[aw,aw];exact hbl)).trans (hce j u hj);have hsub:=hS k y A1 A2 d1 d2 hy rfl _ wt (hrx.below (wt.to hBW)) wr;refine Cd.skip (ei ?_);refine Zm ?_;refine Zf 3 Tryz.underlying71 ?_;refine Zv (aa.ag rfl rfl Tryz.underlying69 rfl k5 rfl) ?_;refine Zm ?_;refine Zf 2 Tryz.underlying71 ?_;refine Zv (aa.ag rfl rfl Tryz.underlying68 rfl k5 rfl) ?_;refine Zv (aa.len rfl rfl Tryz.underlying68) ?_;refine Zv (aa.eU rfl rfl rfl (by omega) (by omega)) ?_;refine Zv (aa.bI rfl rfl rfl Tryz.underlying69 (s:=4) (by kernel_rfl) (j:=k) (by omega) (by omega)) ?_;refine Zv (aa.ef (ps:=[.int .i64 y.op, .string (strOf y.name), .slice A1 y.exprs.length d1, .slice A2 y.aH.length d2]) rfl rfl Tryz.underlying71 rfl (m:=4) (by kernel_rfl) rfl hce) ?_;refine Seq.call (Enters.value (first:=fst) (cap:=cp) rfl rfl rfl eg) rfl rfl rfl hsub ?_;clear wr;rintro e w9 ⟨⟨_,rfl⟩,f9,wr⟩;refine⟨_,rfl,?_⟩;replace wt:=wt.wt f9;refine bj 0 1 2 3 5 12 ?_;refine ab.fP rfl (.inr rfl) ?_;exact⟨⟨_,rfl⟩,wt,wr⟩
theorem B6:∀args w,(callFunc 131 args).run Tryz.prog w= .ok (.enter 131 args) w:=fun args w=>bG Tryz.func131 (by kernel_rfl) rfl args w
theorem zs:∀args w,(callFunc 177 args).run Tryz.prog w= .ok (.enter 177 args) w:=fun args w=>bG Tryz.func177 (by kernel_rfl) rfl args w
def D8 (B g L:Nat)(t:Tm):Prop:=∀(x:Tm) (A1 A2:Option Addr) (c1 c2:Nat),x∈t.aH→∀(W:World) (bs':List Nat),fZ W B x (.agg (DL x A1 A2 c1 c2).toArray)→Bw W B g bs'→bs'.length≤L→Calls Tryz.prog 131 #[.pointer (some ⟨g,0,none⟩), .agg (DL x A1 A2 c1 c2).toArray] W (ij B g (bs'++dn x) W)
def jl (t:Tm):List (List Nat):=t.exprs.map bR++t.aH.map dn
theorem wF {t:Tm}{i:Nat}{x:Ex}(h:t.exprs[i]? =some x):(jl t)[i]? =some (bR x):=by
 have:=(List.getElem?_eq_some_iff.1 h).1;unfold jl;rw[List.getElem?_append_left (by simp;omega),List.getElem?_map,h];rfl
theorem uZ {t:Tm}{k:Nat}{x:Tm}(h:t.aH[k]? =some x):(jl t)[t.exprs.length+k]? =some (dn x):=by
 unfold jl;rw[List.getElem?_append_right (by simp),List.length_map,Nat.add_sub_cancel_left,List.getElem?_map,h];rfl
theorem uH (B g L g2 g3 i c c':Nat)(A A':Option Addr)(t:Tm)(bs T:List Nat)(w W:World)(h:D8 B g L t)(hv:ra w B t A A')(h200:t.nodes≤200)(hbt:du t=true)(hb:Below B w W)(k2:aK W g2 192 #[.pointer (some ⟨g,0,none⟩)]) (k3:aK W g3 71 #[.int .i64 t.op, .string (strOf t.name), .slice A t.exprs.length c, .slice A' t.aH.length c']) (wr:Bw W B g bs) (hL:bs.length≤L) (hL2:L≤60000000) (hT:(jl t)[i]? =some T):
  Calls Tryz.prog 177 #[.int .i64 (i:Int), .pointer (some ⟨g2,0,none⟩), .pointer (some ⟨g3,0,none⟩)] W (ij B g (bs++T) W):=by
 have hBW:=wr.size;have hi:=(List.getElem?_eq_some_iff.1 hT).1;have hi:i<t.exprs.length+t.aH.length:=by unfold jl at hi;simpa using hi
 have hpart:=xz B g i t A A' c c' 131 [.pointer (some ⟨g,0,none⟩)] [] bs T W (hv.below hb) h200 hbt wr (by omega) B6 hi
  (fun x hx=>by rw[wF hx] at hT;injection hT with hT;exact hT.symm)
  (fun k x A1 A2 c1 c2 hx hik W' hb' hr hw=>by
   subst hik;rw[uZ hx] at hT;injection hT with hT
   subst hT;exact h x A1 A2 c1 c2 (List.mem_of_getElem? hx) W' bs hr hw hL)
 have wt:=Wt.refl B W;refine Zs 10 Tryz.func177 ?_;refine Zr ?_;refine Zv (aa.ag rfl rfl Tryz.underlying192 rfl k2 rfl) ?_;refine Zv (aa.aQ rfl rfl Tryz.underlying71 rfl k3 (m:=4) (by kernel_rfl) rfl) ?_;refine Zm ?_;refine Zv (aa.ag rfl rfl Tryz.underlying192 rfl k2 rfl) ?_;refine Zv (aa.makeFunc (v:= .func (.func 131) #[.pointer (some ⟨g,0,none⟩)] #[]) rfl (show iG _ _=some [.pointer (some ⟨g,0,none⟩)] from rfl) (show iG _ _=some [] from rfl) rfl) ?_;refine Zc (Ze Tryz.func178) (hpart) ?_;clear wr;rintro e w1 ⟨⟨_,rfl⟩,fw1,wr⟩;refine⟨_,rfl,?_⟩;replace wt:=wt.wt fw1;refine bD 0 1 2 ?_;refine ab.fP rfl (.inr rfl) ?_;exact⟨⟨_,rfl⟩,wt,wr⟩
theorem xQ (N:Nat):∀(t:Tm) (B g:Nat) (bs:List Nat) (v:Value) (w:World),t.nodes≤N→t.nodes≤200→du t=true→fZ w B t v→Bw w B g bs→bs.length+100000*t.depth≤50000000→
  Calls Tryz.prog 131 #[.pointer (some ⟨g,0,none⟩),v] w (ij B g (bs++dn t) w):=by
 induction N with
 |zero=>intro t B g bs v w hN;have:=t.cO;omega
 |succ N ih=>
 intro t B g bs v w hN h200 hbt hrep hbw hbs;obtain⟨A,c,A',c',rfl,hv⟩:=hrep.open;obtain⟨hh,hexp,hter⟩:=jL hbt;obtain⟨a1,a2,a3⟩:=(me _ _ _ _).1 hh;obtain⟨p1,p2,p3,p4⟩:=Af a1;have hBW:=hbw.size;have hT:=oR t;have hbd:=ji t.nodes t (Nat.le_refl _) hbt;have jV:=hv.jV;have h61:=hv.mq
 have hrec:D8 B g (bs.length+60000) t:=fun x A1 A2 c1 c2 hx W bs' hr hw hl=>by
  have hnd:=Tm.fE hx;have hdp:=Tm.oN hx;exact ih x B g bs' _ W (by omega) (by omega) (hter x hx) hr hw (by omega)
 have wt:=Wt.refl B w;have wr:=hbw;refine Zs 35 Tryz.func131 ?_;refine ao ?_;refine Seq.box rfl rfl rfl rfl rfl ?_;intro g2 w1 n2;replace wt:=wt.step n2.below;replace wr:=wr.step n2.below;have k2:=n2.av;refine Seq.box rfl rfl rfl rfl rfl ?_;intro g3 w2 n3;have l3:=Nat.lt_of_lt_of_le k2.lt n3.ge;replace wt:=wt.step n3.below;replace wr:=wr.step n3.below;replace k2:=k2.step n3.below;have k3:=n3.av;refine aV 0 1 2 3 (aG ?_);refine Zf 0 Tryz.underlying71 ?_;refine Zv (aa.ag rfl rfl Tryz.underlying3 rfl k3 rfl) ?_;refine aU 0 1 2 3 5 (Zt (Cd.block (ao ?_)));refine Zv (aa.aB rfl rfl rfl) ?_;refine Za ?_;refine bj 0 1 2 3 5 19 (Zt ?_);refine Cd.au rfl (fun h1=> ?_) (fun h1=> ?_)
 ·rw[if_pos h1] at hT
  refine Zr ?_;refine Zv (aa.ag rfl rfl Tryz.underlying192 rfl k2 rfl) ?_;refine Zv (aa.nilCheck rfl rfl) ?_;refine Zf 0 Tryz.underlying232 ?_;refine Zc (Ze Tryz.func174) ((bT B g [122,101,114,111] bs _ wr (by decide) (by simp only[List.length_cons,List.length_nil];omega)).1) ?_;clear wr;rintro e w3 ⟨⟨_,rfl⟩,fw3,wr⟩;refine⟨_,rfl,?_⟩;replace wt:=wt.wt fw3;refine bj 0 1 2 3 5 19 (ab.aj ?_);refine ab.fP rfl (.inr rfl) ?_;rw[hT];exact⟨⟨_,rfl⟩,wt,wr⟩
 rw[if_neg h1] at hT;refine ao ?_;refine Zv (aa.aB rfl rfl rfl) ?_;refine Za ?_;refine bb 0 1 2 3 5 19 25 (Zt ?_);refine Cd.au rfl (fun h2=> ?_) (fun h2=> ?_)
 ·have hnm:=mK (a2 h2)
  have hnl:=oH (a2 h2)
  have he0:t.exprs=[]∧t.aH=[]:=by
   rw[h2] at a1;have e1:BF 2=(0,0):=rfl;rw[e1] at a1;injection a1 with x1 x2
   exact⟨List.eq_nil_of_length_eq_zero (by omega),List.eq_nil_of_length_eq_zero (by omega)⟩
  have hT2:dn t=[111,110,101,40]++t.name++[41]:=by
   rw[hT,if_pos h2,he0.1,he0.2,h2];simp[cA];rfl
  refine Cd.draw 7 (by kernel_rfl) [] (.inl rfl) rfl Grow Grow.refl (fun _ _ _=>Grow.trans) ?_;intro w3 hw3 zw3;replace wt:=wt.step hw3;replace wr:=wr.step hw3;replace k2:=k2.step hw3;replace k3:=k3.step hw3;have zlt:=k3.lt;refine Zd (fun w hG=>aa.ag rfl rfl Tryz.underlying192 rfl (k2.step hG) rfl) ?_;refine Zd (fun w hG=>aa.nilCheck rfl rfl) ?_;refine Zd (fun w hG=>aa.an 0 rfl rfl Tryz.underlying232 rfl (by kernel_rfl)) ?_;refine Zd (fun w hG=>aa.an 1 rfl rfl Tryz.underlying71 rfl (by kernel_rfl)) ?_;refine Zd (fun w hG=>aa.ag rfl rfl Tryz.underlying9 rfl (k3.step hG) rfl) ?_;refine Zd (fun w hG=>aa.dv (a:=[111,110,101,40]) rfl rfl rfl (by simp only[List.length_cons,List.length_nil];omega)) ?_;refine Zd (fun w hG=>aa.dv (b:=[41]) rfl rfl rfl (by simp only[List.length_append,List.length_cons,List.length_nil];omega)) ?_;refine Dr.nil ?_;refine ba.done (F':=[(0,_),(1,_),(2,_),(3,_),(5,_),(19,_),(25,_),(29,_),(33,_)]) rfl ⟨rfl,rfl,rfl,rfl,rfl,rfl,rfl,rfl,rfl,trivial⟩ ?_;intro w4 hw4 fw4;replace wt:=wt.step hw4;replace wr:=wr.step hw4;replace k2:=k2.step hw4;replace k3:=k3.step hw4;refine Zc (Ze Tryz.func174) ((bT B g ([111,110,101,40]++t.name++[41]) bs _ wr (Cp (by decide) hnl (by decide)) (by simp only[List.length_append,List.length_cons,List.length_nil];omega)).1) ?_;clear wr;rintro e w5 ⟨⟨_,rfl⟩,fw5,wr⟩;refine⟨_,rfl,?_⟩;replace wt:=wt.wt fw5;refine bb 0 1 2 3 5 19 25 (ab.aj ?_);refine ab.fP rfl (.inr rfl) ?_;rw[hT2];exact⟨⟨_,rfl⟩,wt,wr⟩
 rw[if_neg h2,List.nil_append] at hT;have hjr:t.exprs.map bR++t.aH.map dn=jl t:=rfl;rw[hjr] at hT;have hrl:(jl t).length=t.exprs.length+t.aH.length:=by unfold jl;simp
 have hwl:=nA t.op
 have hjl:(cA (jl t)).length≤20000:=by
  have:=hbd.1;rw[hT] at this;simp only[List.length_append,List.length_cons,List.length_nil] at this;omega
 have hrows:∀u∈jl t,∀d∈u,d<256:=fun u hu=>by
  unfold jl at hu;rcases List.mem_append.1 hu with hu|hu
  ·obtain⟨z,hz,rfl⟩:=List.mem_map.1 hu
   exact(fq z.nodes z (Nat.le_refl _) (hexp z hz)).2
  ·obtain⟨z,hz,rfl⟩:=List.mem_map.1 hu
   exact(ji z.nodes z (Nat.le_refl _) (hter z hz)).2
 have hword:∀W,Calls Tryz.prog 176 #[.int .i64 t.op] W fun e w'=>e= .returned (.string (strOf (kr t.op)))∧Grow W w':=fun W=>qF t.op W p1 p2;refine Cd.draw 12 (by kernel_rfl) [] (.inl rfl) rfl Grow Grow.refl (fun _ _ _=>Grow.trans) ?_;intro w3 hw3 zw3;replace wt:=wt.step hw3;replace wr:=wr.step hw3;replace k2:=k2.step hw3;replace k3:=k3.step hw3;have zlt:=k3.lt;refine Zd (fun w hG=>aa.ag rfl rfl Tryz.underlying192 rfl (k2.step hG) rfl) ?_;refine Zd (fun w hG=>aa.an 0 rfl rfl Tryz.underlying71 rfl (by kernel_rfl)) ?_;refine Zd (fun w hG=>aa.ag rfl rfl Tryz.underlying3 rfl (k3.step hG) rfl) ?_;refine Dr.bP rfl (fun w=>Ze Tryz.func176) rfl (fun w hG=>hword w) ?_;refine Zd (fun w hG=>aa.an 2 rfl rfl Tryz.underlying71 rfl (by kernel_rfl)) ?_;refine Zd (fun w hG=>aa.ag rfl rfl Tryz.underlying68 rfl (k3.step hG) rfl) ?_;refine Zd (fun w hG=>aa.len rfl rfl Tryz.underlying68) ?_;refine Zd (fun w hG=>aa.an 3 rfl rfl Tryz.underlying71 rfl (by kernel_rfl)) ?_;refine Zd (fun w hG=>aa.ag rfl rfl Tryz.underlying69 rfl (k3.step hG) rfl) ?_;refine Zd (fun w hG=>aa.len rfl rfl Tryz.underlying69) ?_;refine Zd (fun w hG=>aa.jH rfl rfl rfl (by omega) (by omega)) ?_;refine Zd (fun w hG=>aa.makeFunc (v:= .func (.func 177) #[] #[.pointer (some ⟨g2,0,none⟩), .pointer (some ⟨g3,0,none⟩)]) rfl (show iG _ _=some [] from rfl) (show iG _ _=some [.pointer (some ⟨g2,0,none⟩), .pointer (some ⟨g3,0,none⟩)] from rfl) rfl) ?_;refine Dr.nil ?_;refine ba.done (F':=[(0,_),(1,_),(2,_),(3,_),(5,_),(6,_),(9,_),(16,_),(17,_),(19,_),(25,_)]) rfl ⟨rfl,rfl,rfl,rfl,rfl,rfl,rfl,rfl,rfl,rfl,rfl,trivial⟩ ?_;intro w4 hw4 fw4;replace wt:=wt.step hw4;replace wr:=wr.step hw4;replace k2:=k2.step hw4;replace k3:=k3.step hw4
 have hlist:=tC B g 177 (t.exprs.length+t.aH.length) [.pointer (some ⟨g2,0,none⟩), .pointer (some ⟨g3,0,none⟩)] (kr t.op) bs (jl t) _ wr hwl.2 (by omega) hrl (by omega) hrows hjl (by omega) zs
  (fun i u hu W' bs' hwt hwr hlen=>uH B g (bs.length+60000) g2 g3 i c c' A A' t bs' u w W' hrec hv h200 hbt ((wt.wt hwt).to hBW) (k2.wt hwt) (k3.wt hwt) hwr (by omega) (by omega) hu)
 refine Zc (Ze Tryz.func175) (hlist) ?_;clear wr;rintro e w5 ⟨⟨_,rfl⟩,fw5,wr⟩;refine⟨_,rfl,?_⟩;replace wt:=wt.wt fw5;refine bb 0 1 2 3 5 19 25 (ab.aj ?_);refine ab.fP rfl (.inr rfl) ?_;rw[hT];exact⟨⟨_,rfl⟩,wt,by simpa only[List.append_assoc] using wr⟩
theorem sM (t:Tm)(A A':Option Addr)(B g g1 c c':Nat)(w W:World)(hbt:du t=true)(h200:t.nodes≤200)(hrep:fZ w B t (.agg #[.int .i64 t.op, .string (strOf t.name), .slice A t.exprs.length c, .slice A' t.aH.length c'])) (hb:Below B w W) (k1:aK W g1 71 #[.int .i64 t.op, .string (strOf t.name), .slice A t.exprs.length c, .slice A' t.aH.length c']) (wr:Bw W B g []):
  Calls Tryz.prog 130 #[.pointer (some ⟨g,0,none⟩), .pointer (some ⟨g1,0,none⟩)] W (ij B g (dn t) W):=by
 have hdn:=t.bV;have hex:=xQ t.nodes t B g [] _ W (Nat.le_refl _) h200 hbt (hrep.below hb) wr (by simp only[List.length_nil];omega);rw[List.nil_append] at hex;have wt:=Wt.refl B W;refine Zs 6 Tryz.func130 ?_;refine Zr ?_;refine Zm ?_;refine Zv (aa.aQ rfl rfl Tryz.underlying71 rfl k1 (m:=4) (by kernel_rfl) rfl) ?_;refine Zc (Ze Tryz.func131) (hex) ?_;clear wr;rintro e w1 ⟨⟨_,rfl⟩,fw1,wr⟩;refine⟨_,rfl,?_⟩;replace wt:=wt.wt fw1;refine eh 0 1 ?_;refine ab.fP rfl (.inr rfl) ?_;exact⟨⟨_,rfl⟩,wt,wr⟩
theorem zB:∀args w,(callFunc 130 args).run Tryz.prog w= .ok (.enter 130 args) w:=fun args w=>bG Tryz.func130 (by kernel_rfl) rfl args w
theorem gw {t:Tm}(h:dF t=true):t.nodes≤200∧t.depth≤16∧du t=true:=by
 unfold dF at h;simp at h;exact⟨h.1.1,h.1.2,h.2⟩
def og (t:Tm):List Nat:=if dF t=true then dn t else []
theorem yw (t:Tm):(og t).length≤1000000:=by
 unfold og;split
 ·rename_i h
  obtain⟨h1,h2,h3⟩:=gw h;have:=(ji t.nodes t (Nat.le_refl _) h3).1;omega
 ·simp
theorem qz (t:Tm)(v:Value)(w:World)(hd:t.depth≤900)(hrep:fZ w w.heap.size t v):Calls Tryz.prog 82 #[v] w fun en w'=>en= .returned (.tuple #[.string (strOf (jw (dF t) (og t)).1), .int .i64 (jw (dF t) (og t)).2])∧Grow w w':=by
 obtain⟨A,c,A',c',rfl,hv⟩:=hrep.open;have ae:=Below.refl w.heap.size w;have hre:∀W,Below w.heap.size w W→Calls Tryz.prog 99 #[.agg #[.int .i64 t.op, .string (strOf t.name), .slice A t.exprs.length c, .slice A' t.aH.length c']] W fun en w'=>en= .returned (.bool (dF t))∧Grow W w':=fun W hb=>yz t w.heap.size _ W hd (hrep.below hb) hb.size;refine Zs 10 Tryz.func82 ?_;refine ao ?_;refine Seq.box rfl rfl rfl rfl rfl ?_;intro g1 w1 n1;have e1:=Nat.le_trans ae.size n1.ge;replace ae:=ae.step n1.below;have k1:=n1.av;refine Za ?_;refine Za ?_;refine aV 0 1 2 3 (aG ?_);refine Zv (aa.aQ rfl rfl Tryz.underlying71 rfl k1 (m:=4) (by kernel_rfl) rfl) ?_;refine Zc (Ze Tryz.func99) (hre _ ae) ?_;rintro en w5 ⟨rfl,hb5⟩;refine⟨_,rfl,?_⟩;replace ae:=ae.step hb5;replace k1:=k1.step hb5;refine Zv (aa.makeFunc (v:= .func (.func 130) #[] #[.pointer (some ⟨g1,0,none⟩)]) rfl (show iG _ _=some [] from rfl) (show iG _ _=some [.pointer (some ⟨g1,0,none⟩)] from rfl) rfl) ?_;refine Zc (Ze Tryz.func129) (uk (dF t) (og t) 130 [.pointer (some ⟨g1,0,none⟩)] _ zB (yw t) (fun hr W g hb hw=>by unfold og;rw[if_pos hr];obtain⟨h1,h2,h3⟩:=gw hr;exact sM t A A' _ g g1 c c' _ W h3 h1 ((hrep.below ae).more ae.size) hb (k1.step hb) hw)) ?_;rintro en w6 ⟨rfl,hb6⟩;refine⟨_,rfl,?_⟩;replace ae:=ae.step hb6;replace k1:=k1.step hb6;refine Zv (aa.extract rfl rfl rfl) ?_;refine Zv (aa.extract rfl rfl rfl) ?_;refine Za ?_;refine Za ?_;refine aV 0 1 2 3 (Zt (Cd.ret ?_));refine ab.bf rfl rfl rfl (.inl rfl) ?_;exact⟨rfl,ae⟩
inductive Rs (α:Type) where
 |out
 |bad (pos:Nat) (over:Bool)
 |ok (a:α) (pos:Nat)
def Rs.bind {α β:Type}(r:Rs α)(f:α→Nat→Rs β):Rs β:=match r with
 | .out=> .out
 | .bad p o=> .bad p o
 | .ok a p=>f a p
section
variable {α β:Type}
theorem Rs.ka (p:Nat)(o:Bool)(f:α→Nat→Rs β):(Rs.bad p o).bind f= .bad p o:=rfl
theorem Rs.bz (a:α)(p:Nat)(f:α→Nat→Rs β):(Rs.ok a p).bind f=f a p:=rfl
theorem Rs.bind_assoc {γ:Type}(r:Rs α)(f:α→Nat→Rs β)(g:β→Nat→Rs γ):(r.bind f).bind g=r.bind fun a p=>(f a p).bind g:=by cases r<;>rfl
theorem Rs.fa {r:Rs α}{f:α→Nat→Rs β}(h:r.bind f≠ .out):r≠ .out:=fun e=>h (by rw[e];rfl)
theorem Rs.dy {r:Rs α}(h:r≠ .out):(∃p o,r= .bad p o)∨∃a p,r= .ok a p:=by
 cases r with
 |out=>exact absurd rfl h
 |bad p o=>exact .inl ⟨p,o,rfl⟩
 |ok a p=>exact .inr ⟨a,p,rfl⟩
end
def de (ws:List Wd)(p:Nat):Wd:=ws.getD p ⟨-1,[],0,0⟩
def qO (ws:List Wd)(p:Nat)(s:List Nat):Bool:=decide ((de ws p).kind=0)&&decide ((de ws p).text=s)
def bE (ws:List Wd)(s:List Nat)(p:Nat):Rs Unit:=if qO ws p s=true then .ok () (p+1) else .bad p false
def cW (p d:Nat):Rs Unit:=if 64<d+1 then .bad p true else .ok () p
def cN:Nat→List (List Nat)
 |0=>[[124]]
 |1=>[[38]]
 |2=>[[60],[60,61],[61],[33,61],[62,61],[62]]
 |3=>[[43],[45]]
 |4=>[[42],[47]]
 |_=>[]
def gH:Nat→List Int
 |0=>[18]
 |1=>[17]
 |2=>[11,12,13,14,15,16]
 |3=>[5,6]
 |4=>[7,8]
 |_=>[]
def opAt (ws:List Wd)(lvl p:Nat):Option Int:=if(de ws p).kind≠0 then none else if(de ws p).text∈cN lvl then(gH lvl)[(cN lvl).idxOf (de ws p).text]? else none
def su (op:Int)(a b:Ex):Ex:= .mk op 0 [] [a,b]
def zP:List Nat:=[100,97,121]
def Au:List Nat:=[109,105,110]
def AI:List Nat:=[109,97,120]
def D7:List Nat:=[105,102]
def xm:List Nat:=[122,101,114,111]
def uG:List Nat:=[111,110,101]
def bn {α:Type}(ws:List Wd):List (Nat→Nat→Rs α)→Bool→Nat→Nat→Rs (List α)
 | [],_,p,_=> .ok [] p
 |one::r,first,p,d=>(if first=true then Rs.ok () p else bE ws [44] p).bind fun _ p=>(one p d).bind fun x p=>(bn ws r false p d).bind fun xs p=> .ok (x::xs) p
def aW {α:Type}(ws:List Wd)(aY:List (Nat→Nat→Rs α))(p d:Nat):Rs (List α):=(bE ws [40] p).bind fun _ p=>(cW p d).bind fun _ p=>(bn ws aY true p (d+1)).bind fun xs p=>(bE ws [41] p).bind fun _ p=> .ok xs p
def bX (ws:List Wd)(E0:Nat→Nat→Rs Ex)(op:Int)(k p d:Nat):Rs Ex:=(aW ws (List.replicate k E0) (p+1) d).bind fun xs p=> .ok (.mk op 0 [] xs) p
def dW (ws:List Wd)(p:Nat):Rs (List Nat):=if(de ws p).kind=3∧cq (de ws p).text=false then .ok (de ws p).text (p+1) else .bad p false
def eO (ws:List Wd)(E0:Nat→Nat→Rs Ex)(p d:Nat):Rs Ex:=
 if(de ws p).kind=1 then .ok (.mk 1 (de ws p).n [] []) (p+1)
 else if(de ws p).kind=2 then .ok (.mk 2 (de ws p).n [] []) (p+1)
 else if(de ws p).kind=3 then
  if(de ws p).text=zP then .ok (.mk 4 0 [] []) (p+1)
  else if(de ws p).text=Au then bX ws E0 9 2 p d
  else if(de ws p).text=AI then bX ws E0 10 2 p d
  else if(de ws p).text=D7 then bX ws E0 21 3 p d
  else(dW ws p).bind fun nm p=> .ok (.mk 3 0 nm []) p
 else if(de ws p).kind=0 then(aW ws [E0] p d).bind fun xs p=> .ok (xs.getD 0 (.mk 0 0 [] [])) p
 else .bad p false
def dw (S:Nat→Nat→Rs Ex)(op:Int)(p d:Nat):Rs Ex:=(cW p d).bind fun _ p=>(S (p+1) (d+1)).bind fun x p=> .ok (.mk op 0 [] [x]) p
def bC (ws:List Wd)(S:Nat→Nat→Rs Ex)(E0:Nat→Nat→Rs Ex)(p d:Nat):Rs Ex:=
 if qO ws p [33]=true then dw S 19 p d else if qO ws p [45]=true then dw S 20 p d else eO ws E0 p d
structure PF where
 E:Nat→Nat→Nat→Rs Ex
 L:Nat→Ex→Nat→Nat→Rs Ex
 S:Nat→Nat→Rs Ex
def kG (L:Nat→Ex→Nat→Nat→Rs Ex)(S:Nat→Nat→Rs Ex):Nat→Nat→Nat→Rs Ex
 |0,p,d=>S p d
 |j+1,p,d=>(kG L S j p d).bind fun x p=>L (4-j) x p d
def dC (ws:List Wd)(f:PF)(lvl:Nat)(left:Ex)(p d:Nat):Rs Ex:=match opAt ws lvl p with
 |none=> .ok left p
 |some op=>(f.E (lvl+1) (p+1) d).bind fun r p=>if lvl=2 then .ok (su op left r) p else f.L lvl (su op left r) p d
def DX (ws:List Wd)(f:PF):PF where
 E:=fun lvl p d=>kG (dC ws f) (bC ws f.S (f.E 0)) (5-lvl) p d
 L:=dC ws f
 S:=bC ws f.S (f.E 0)
def bH (ws:List Wd):Nat→PF
 |0=>⟨fun _ _ _=> .out,fun _ _ _ _=> .out,fun _ _=> .out⟩
 |n+1=>DX ws (bH ws n)
theorem wM (ws:List Wd)(n lvl p d:Nat)(h:lvl<5):(bH ws (n+1)).E lvl p d=((bH ws (n+1)).E (lvl+1) p d).bind fun x p=>(bH ws (n+1)).L lvl x p d:=by
 show kG (dC ws (bH ws n)) (bC ws (bH ws n).S ((bH ws n).E 0)) (5-lvl) p d=(kG (dC ws (bH ws n)) (bC ws (bH ws n).S ((bH ws n).E 0)) (5-(lvl+1)) p d).bind _;have e:5-lvl=(5-(lvl+1))+1:=by omega
 have e2:4-(5-(lvl+1))=lvl:=by omega
 rw[e,kG,e2];rfl
def cC (t:List Nat):Int × Nat × Nat:=
 if t=[103,105,118,101] then(3,0,1) else if t=[97,110,100] then(4,0,2) else if t=[111,114] then(5,0,2) else if t=[115,99,97,108,101] then(6,1,1)
 else if t=[119,104,101,110] then(7,1,1) else if t=[117,110,116,105,108] then(8,1,1) else if t=[97,110,121,116,105,109,101] then(9,1,1) else(0,0,0)
abbrev Part:=Ex ⊕ Tm
def Rs.map {α β:Type}(r:Rs α)(f:α→β):Rs β:=r.bind fun a p=> .ok (f a) p
def eu (E0:Nat→Nat→Rs Ex)(T:Nat→Nat→Rs Tm)(n m:Nat):List (Nat→Nat→Rs Part):=List.replicate n (fun p d=>(E0 p d).map .inl)++List.replicate m (fun p d=>(T p d).map .inr)
def cR (l:List Part):List Ex:=l.filterMap fun x=>match x with| .inl e=>some e| .inr _=>none
def bZ (l:List Part):List Tm:=l.filterMap fun x=>match x with| .inl _=>none| .inr t=>some t
def dR (ws:List Wd)(E0:Nat→Nat→Rs Ex)(T:Nat→Nat→Rs Tm)(p d:Nat):Rs Tm:=
 if(de ws p).kind≠3 then .bad p false
 else if(de ws p).text=xm then .ok (.mk 1 [] [] []) (p+1)
 else if(de ws p).text=uG then(aW ws [fun p _=>dW ws p] (p+1) d).bind fun xs p=> .ok (.mk 2 (xs.getD 0 []) [] []) p
 else if(cC (de ws p).text).1=0 then .bad p false
 else(aW ws (eu E0 T (cC (de ws p).text).2.1 (cC (de ws p).text).2.2) (p+1) d).bind fun xs q=> .ok (.mk (cC (de ws p).text).1 [] (cR xs) (bZ xs)) q
def ig (ws:List Wd):Nat→Nat→Nat→Rs Tm
 |0,_,_=> .out
 |n+1,p,d=>dR ws ((bH ws (n+1)).E 0) (ig ws n) p d
section
variable {P:Program} {ops:Array Oper} {Q:Exit→Act→World→Prop} {rest:List Oper} {o:Oper} {n d:Nat} {F F':List (Nat × Value)} {w w':World} {v:Value}
theorem Seq.cS {I:Inhabited (List Deferred)}{f:FuncId}{args:Array Value}{R:Ending→World→Prop}(he:Enters P (gg F) o w f args)(hg:o.guard=none)(hc:Calls P f args w R)
  (h:∀e w',R e w'→∃ch,e= .panicked ch∧ab Q (.panic ch) n F w'):Seq P ops Q (o::rest) n F w:=by
 intro a ha;refine wpList_plain hg fun K hK=> ?_;unfold Oper.wp;rw[he a.eval ha.ev,Oper.upon_enter];refine hc.mono fun e w' hR=> ?_;obtain⟨ch,rfl,hp⟩:=h e w' hR;exact hp _ ha
theorem Seq.Da {I:Inhabited (List Deferred)}{x:Operand}{u:Value}(ho:o.op= .panic x)(hx:gg F x=some v)(hg:o.guard=none)(hr:(Instr.panic v).run P w= .halt (.panic u) w)(h:ab Q (.panic [{v:=u,recovered:=false}]) n F w):Seq P ops Q (o::rest) n F w:=by
 intro a ha;refine wpList_plain hg fun K hK=> ?_;unfold Oper.wp
 have:(execOp a.eval o).run P w= .halt (.panic u) w:=by
  unfold execOp;simp only[ho];rw[ha.ev _ _ hx];simp only[Sem.run_bind,hr];rfl
 rw[this,Oper.upon_panic];exact h _ ha
end
structure Fz (h g:Nat)(w w':World):Prop where
 os:w'.os=w.os
 tape:w'.tape=w.tape
 output:w'.output=w.output
 size:w.heap.size≤w'.heap.size
 block:∀k,k<h→k≠g→w'.heap[k]? =w.heap[k]?
class PutAt (E:Prop) (h g g':Nat):Prop where
 ok:E→h≤g'∨g'=g
instance {h g g':Nat}:PutAt (h≤g') h g g':=⟨.inl⟩
instance {h g g':Nat}:PutAt (g'=g) h g g':=⟨.inr⟩
section
variable {h g:Nat} {w w' w'':World}
theorem Fz.refl (h g:Nat)(w:World):Fz h g w w:=⟨rfl,rfl,rfl,Nat.le_refl _,fun _ _ _=>rfl⟩
theorem Fz.trans (a:Fz h g w w')(b:Fz h g w' w''):Fz h g w w'':=⟨b.os.trans a.os,b.tape.trans a.tape,b.output.trans a.output,Nat.le_trans a.size b.size,fun k hk hne=>(b.block k hk hne).trans (a.block k hk hne)⟩
theorem Fz.less {h':Nat}(a:Fz h g w w')(hh:h'≤h):Fz h' g w w':=⟨a.os,a.tape,a.output,a.size,fun k hk=>a.block k (by omega)⟩
theorem Fz.of (hb:Below h w w'):Fz h g w w':=⟨hb.os,hb.tape,hb.output,hb.size,fun k hk _=>hb.block k hk⟩
theorem Fz.step (a:Fz h g w w')(hb:Below w'.heap.size w' w'')(hh:h≤w.heap.size:=by exact Nat.le_refl _):Fz h g w w'':=a.trans (Fz.of (hb.mono (Nat.le_trans hh a.size)))
theorem Fz.call (a:Fz h g w w')(b:Fz w'.heap.size g w' w'')(hh:h≤w.heap.size:=by exact Nat.le_refl _):Fz h g w w'':=a.trans (b.less (Nat.le_trans hh a.size))
theorem Fz.put {g':Nat}{T:TypeId}{cur cs:Array Value}{E:Prop}[at_:PutAt E h g g'](a:Fz h g w w')(_k:aK w' g' T cur)(p:lD w' w'' g' T cs)(e:E):Fz h g w w'':=
 a.trans ⟨p.grown.os,p.grown.tape,p.grown.output,p.grown.size,fun k hk hne=>by
  rcases Nat.lt_or_ge k w'.heap.size with hs|hs
  ·exact p.grown.block k hs (fun e'=>by injection e' with e';rcases at_.ok e with h1|h1<;>omega)
  ·have h1:w'.heap[k]? =none:=by simpa using hs
   have h2:w''.heap[k]? =none:=by have:=p.size;simp;omega
   rw[h1,h2]⟩
theorem Fz.below {B:Nat}(a:Fz h g w w')(h1:B≤h)(h2:B≤g):Below B w w':=⟨a.os,a.tape,a.output,a.size,fun k hk=>a.block k (by omega) (by omega)⟩
theorem aK.fz {k:Nat}{T:TypeId}{cs:Array Value}(b:aK w k T cs)(a:Fz w.heap.size g w w')(hne:k≠g:=by omega):aK w' k T cs:=by
 have h1:=a.block k b.lt hne;unfold aK at b⊢;rw[h1];exact b
end
structure Ctx where
 B:Nat
 g:Nat
 c:Nat
 en:Nat
 A:Option Addr
 ws:List Wd
structure Ctx.Ok (K:Ctx):Prop where
 le:K.B≤K.g
 len:K.ws.length≤4000
 en:K.en≤4000
 word:∀x∈K.ws,bt x.kind∧bt x.n∧(∀c∈x.text,c<256)∧x.text.length≤4000∧x.pos≤4000
def Ctx.at_ (K:Ctx)(p:Nat):Wd:=K.ws.getD p ⟨-1,[],0,K.en⟩
def DQ (x:Wd):Value:= .agg #[.int .i64 x.kind, .string (strOf x.text), .int .i64 x.n, .int .i64 (x.pos:Int)]
theorem Ctx.ju (K:Ctx)(p:Nat):(K.at_ p).kind=(de K.ws p).kind∧(K.at_ p).text=(de K.ws p).text∧(K.at_ p).n=(de K.ws p).n:=by
 unfold Ctx.at_ de;rw[List.getD_eq_getElem?_getD,List.getD_eq_getElem?_getD]
 cases K.ws[p]? <;>exact⟨rfl,rfl,rfl⟩
theorem Ctx.Ok.at_ {K:Ctx}(h:K.Ok)(p:Nat):bt (K.at_ p).kind∧bt (K.at_ p).n∧(∀c∈(K.at_ p).text,c<256)∧(K.at_ p).text.length≤4000∧(K.at_ p).pos≤4000:=by
 unfold Ctx.at_;rw[List.getD_eq_getElem?_getD]
 cases hp:K.ws[p]? with
 |none=>exact⟨show bt (-1) by unfold bt;decide,show bt 0 by unfold bt;decide,by simp,by simp,h.en⟩
 |some x=>exact h.word x (List.mem_of_getElem? hp)
structure PW (K:Ctx)(w:World)(p d:Nat)(ov:Bool):Prop where
 av:aK w K.g 219 #[.slice K.A K.ws.length K.c, .int .i64 (p:Int), .int .i64 (d:Int), .bool ov, .int .i64 (K.en:Int)]
 rd:Reads w K.B 4 K.A K.ws.length (da K.ws)
 bK:p≤K.ws.length
 dU:d≤64∨(ov=true∧d≤65)
theorem PW.step {K:Ctx}{w w':World}{p d:Nat}{ov:Bool}(h:PW K w p d ov)(hk:K.B≤K.g)(hb:Below w.heap.size w w'):PW K w' p d ov:=⟨h.av.step hb,h.rd.below (hb.mono (by have:=h.av.lt;omega)),h.bK,h.dU⟩
def m5:List PanicEntry:=[{v:= .iface 261 (.agg #[]),recovered:=false}]
def tX {α:Type}(K:Ctx)(h:Nat)(w:World)(d:Nat)(r:Rs α)(okv:α→Value→World→Prop)(e:Ending)(w':World):Prop:=
 Fz h K.g w w'∧match r with
 | .out=>False
 | .bad p ov=>e= .panicked m5∧∃d,PW K w' p d ov
 | .ok a p=>∃v,e= .returned v∧PW K w' p d false∧okv a v w'
abbrev PR {α:Type}(K:Ctx)(w:World)(d:Nat)(r:Rs α)(okv:α→Value→World→Prop)(e:Ending)(w':World):Prop:=tX K w.heap.size w d r okv e w'
theorem aa.B9 {P:Program}{E:Operand→Option Value}{o:Oper}{w:World}{x:Operand}{T:TypeId}{v u:Value}(ho:o.op= .makeInterface T x)(hx:E x=some v)(hr:(Instr.makeInterface T v).run P w= .ok u w):aa P E o w u w:=fun ρ h=>by
 unfold execOp;simp only[ho];rw[h _ _ hx];simp only[Sem.run_bind,hr,Result.andThen_ok];rfl
theorem pU (w:World):(Instr.build 261 #[]).run Tryz.prog w= .ok (.agg #[]) w:=by kernel_rfl
theorem jc (g:Nat)(w:World):Calls Tryz.prog 165 #[.pointer (some ⟨g,0,none⟩)] w fun e w'=>e= .panicked m5∧Grow w w':=by
 have ae:=Below.refl w.heap.size w;refine Zs 4 Tryz.func165 ?_;refine Zr ?_;refine Zv (aa.build rfl rfl (pU _)) ?_;refine Zv (aa.B9 (u:= .iface 261 (.agg #[])) rfl rfl (by kernel_rfl)) ?_;refine Seq.Da rfl rfl rfl (by rfl) ?_;exact fun a ha=>⟨ha.defers,rfl,ae⟩
theorem gB:∀(ws:List Wd) (p:Nat) (x:Wd),ws[p]? =some x→∀(q:Nat) (u:Value),([.int .i64 x.kind, .string (strOf x.text), .int .i64 x.n, .int .i64 (x.pos:Int)]:List Value)[q]? =some u→(da ws)[p*4+q]? =some u
 | [],p,x,h,_,_,_=>by simp at h
 |y::r,0,x,h,q,u,hu=>by
  simp at h;subst h;have hq:=(List.getElem?_eq_some_iff.1 hu).1;rw[Nat.zero_mul,Nat.zero_add];show(([.int .i64 y.kind, .string (strOf y.text), .int .i64 y.n, .int .i64 (y.pos:Int)]:List Value)++da r)[q]? =some u;rw[List.getElem?_append_left hq];exact hu
 |y::r,p+1,x,h,q,u,hu=>by
  have ih:=gB r p x (by simpa using h) q u hu;show(([.int .i64 y.kind, .string (strOf y.text), .int .i64 y.n, .int .i64 (y.pos:Int)]:List Value)++da r)[(p+1)*4+q]? =some u;rw[List.getElem?_append_right (by simp;omega),←ih];congr 1;simp;omega
theorem pP (a d:Int)(w:World):(Instr.build 221 #[(0, .int .i64 a),(3, .int .i64 d)]).run Tryz.prog w= .ok (.agg #[.int .i64 a, .string (strOf []), .int .i64 0, .int .i64 d]) w:=by
 have hu:=Tryz.underlying221
 go_simp
 rfl
theorem gA (K:Ctx)(hK:K.Ok)(p d:Nat)(ov:Bool)(w:World)(h:PW K w p d ov):Calls Tryz.prog 164 #[.pointer (some ⟨K.g,0,none⟩)] w fun e w'=>e= .returned (DQ (K.at_ p))∧Grow w w':=by
 have ae:=Below.refl w.heap.size w;have k99:=h.av;have hrd:=h.rd;have hlt:=h.av.lt;have hBg:=hK.le;refine Zs 28 Tryz.func164 ?_;refine ao ?_;refine Zl bJ ?_;intro g2 w1 n2;have e2:=Nat.le_trans ae.size n2.ge;have l2:=Nat.lt_of_lt_of_le k99.lt n2.ge;replace ae:=ae.step n2.below;replace k99:=k99.step n2.below;have k2:=n2.av;refine eh 0 2 (aJ (Cd.seq ?_));refine Cd.draw 9 (by kernel_rfl) [] (.inl rfl) rfl Grow Grow.refl (fun _ _ _=>Grow.trans) ?_;intro w2 hw2 zw2;replace ae:=ae.step hw2;replace k99:=k99.step hw2;replace k2:=k2.step hw2;have zbel:=ae.size;have zlt:=k2.lt;refine cn ?_;refine Zd (fun w hG=>aa.nilCheck rfl rfl) ?_;refine Zd (fun w hG=>aa.an 1 rfl rfl Tryz.underlying219 rfl (by kernel_rfl)) ?_;refine Zd (fun w hG=>aa.ag rfl rfl Tryz.underlying3 rfl (k99.step hG) rfl) ?_;refine cn ?_;refine Zd (fun w hG=>aa.nilCheck rfl rfl) ?_;refine Zd (fun w hG=>aa.an 0 rfl rfl Tryz.underlying219 rfl (by kernel_rfl)) ?_;refine Zd (fun w hG=>aa.ag rfl rfl Tryz.underlying215 rfl (k99.step hG) rfl) ?_;refine Zd (fun w hG=>aa.len rfl rfl Tryz.underlying215) ?_;refine Dr.nil ?_;refine ba.done (F':=[(0,_),(2,_),(6,_),(11,_)]) rfl ⟨rfl,rfl,rfl,rfl,trivial⟩ ?_;intro w3 hw3 fw3;replace ae:=ae.step hw3;replace k99:=k99.step hw3;replace k2:=k2.step hw3;refine Zv (aa.lss rfl rfl rfl) ?_;refine bD 0 2 12 (Zt ?_);refine Cd.au rfl (fun hc=> ?_) (fun hc=> ?_)
 ·obtain⟨ad,hA,hadb,hcell⟩:=hrd.2 (by omega)
  obtain⟨x,hx⟩:∃x,K.ws[p]? =some x:=⟨_,List.getElem?_eq_getElem (by omega)⟩;have hat:K.at_ p=x:=by unfold Ctx.at_;rw[List.getD_eq_getElem?_getD,hx];rfl
  have hce:∀W,Below w.heap.size w W→∀(q:Nat) (u:Value),([.int .i64 x.kind, .string (strOf x.text), .int .i64 x.n, .int .i64 (x.pos:Int)]:List Value)[q]? =some u→W.cell? ((ad.add (p*4)).add q)=some u:=fun W hb q u hu=>by
   rw[(hb.mono (show K.B≤w.heap.size by omega)).cell (by rw[aw,aw];exact hadb),fF];exact hcell _ _ (gB K.ws p x hx q u hu)
  rw[hA] at k99;refine Cd.seq ?_;refine Cd.draw 8 (by kernel_rfl) [] (.inl rfl) rfl Grow Grow.refl (fun _ _ _=>Grow.trans) ?_;intro w4 hw4 zw4;replace ae:=ae.step hw4;replace k99:=k99.step hw4;replace k2:=k2.step hw4;have zbel:=ae.size;have zlt:=k2.lt;refine cn ?_;refine Zd (fun w hG=>aa.nilCheck rfl rfl) ?_;refine Zd (fun w hG=>aa.an 0 rfl rfl Tryz.underlying219 rfl (by kernel_rfl)) ?_;refine Zd (fun w hG=>aa.ag rfl rfl Tryz.underlying215 rfl (k99.step hG) rfl) ?_;refine cn ?_;refine Zd (fun w hG=>aa.nilCheck rfl rfl) ?_;refine Zd (fun w hG=>aa.an 1 rfl rfl Tryz.underlying219 rfl (by kernel_rfl)) ?_;refine Zd (fun w hG=>aa.ag rfl rfl Tryz.underlying3 rfl (k99.step hG) rfl) ?_;refine Dr.nil ?_;refine ba.done (F':=[(0,_),(2,_),(12,_),(16,_),(20,_)]) rfl ⟨rfl,rfl,rfl,rfl,rfl,trivial⟩ ?_;intro w5 hw5 fw5;replace ae:=ae.step hw5;replace k99:=k99.step hw5;replace k2:=k2.step hw5;refine Zv (aa.bI rfl rfl rfl Tryz.underlying215 (s:=4) (by kernel_rfl) (j:=p) rfl (by omega)) ?_;refine Zv (aa.ef (ps:=[.int .i64 x.kind, .string (strOf x.text), .int .i64 x.n, .int .i64 (x.pos:Int)]) rfl rfl Tryz.underlying221 rfl (m:=4) (by kernel_rfl) rfl (hce _ ae)) ?_;refine Zo 4 k2 ?_;intro w6 pw6;replace ae:=ae.put k2 pw6 e2;replace k99:=k99.put pw6 (by omega);replace k2:=pw6.av;refine bD 0 2 12 (Zt (Cd.ret (ab.af ?_)));refine ab.cz rfl rfl k2 Tryz.underlying221 rfl (m:=4) (by kernel_rfl) rfl (.inl rfl) ?_;rw[hat];exact⟨rfl,ae⟩
 ·have hat:K.at_ p=⟨-1,[],0,K.en⟩:=by
   unfold Ctx.at_;rw[List.getD_eq_getElem?_getD,List.getElem?_eq_none (by omega)];rfl
  refine Cd.skip (aG ?_);refine Zm ?_;refine Zv (aa.nilCheck rfl rfl) ?_;refine Zf 4 Tryz.underlying219 ?_;refine Zv (aa.ag rfl rfl Tryz.underlying3 rfl k99 rfl) ?_;refine Zv (aa.build rfl rfl (pP (-1) _ _)) ?_;refine Zo 4 k2 ?_;intro w4 pw4;replace ae:=ae.put k2 pw4 e2;replace k99:=k99.put pw4 (by omega);replace k2:=pw4.av;refine bD 0 2 12 (Zt (Cd.ret ?_));refine ab.cz rfl rfl k2 Tryz.underlying221 rfl (m:=4) (by kernel_rfl) rfl (.inl rfl) ?_;rw[hat];exact⟨rfl,ae⟩
theorem As (K:Ctx)(hK:K.Ok)(p d:Nat)(ov:Bool)(k:Int)(s:List Nat)(w:World)(h:PW K w p d ov)(hs:∀x∈s,x<256):Calls Tryz.prog 221 #[.pointer (some ⟨K.g,0,none⟩), .int .i64 k, .string (strOf s)] w fun e w'=>e= .returned (.bool (decide ((de K.ws p).kind=k)&&decide ((de K.ws p).text=s)))∧Grow w w':=by
 have ae:=Below.refl w.heap.size w;obtain⟨a1,a2,a3,a4,a5⟩:=hK.at_ p;obtain⟨b1,b2,b3⟩:=K.ju p;rw[←b1,←b2];have hw:=fun W (hb:Below w.heap.size w W)=>gA K hK p d ov W (h.step hK.le hb);unfold DQ at hw;refine Zs 20 Tryz.func221 ?_;refine ao ?_;refine Za ?_;refine aV 0 1 2 6 (aG ?_);refine Zm ?_;refine Zc (Ze Tryz.func164) (hw _ ae) ?_;rintro e w5 ⟨rfl,hb5⟩;refine⟨_,rfl,?_⟩;replace ae:=ae.step hb5;refine Zl bJ ?_;intro g7 w1 n7;have e7:=Nat.le_trans ae.size n7.ge;replace ae:=ae.step n7.below;have k7:=n7.av;refine Zo 4 k7 ?_;intro w2 pw2;replace ae:=ae.put k7 pw2 e7;replace k7:=pw2.av;refine aU 0 1 2 6 7 (aG ?_);refine Zf 0 Tryz.underlying221 ?_;refine Zv (aa.ag rfl rfl Tryz.underlying3 rfl k7 rfl) ?_;refine Zm ?_;refine Zv (aa.aB rfl rfl rfl) ?_;refine Zm ?_;refine ah.start ?_;refine bM (fun hcx=>aa.an 1 rfl rfl Tryz.underlying221 rfl (by kernel_rfl)) ?_;refine ah.next rfl rfl rfl rfl rfl rfl rfl (fun hcx=>aa.ag rfl rfl Tryz.underlying9 rfl k7 rfl) ?_;refine ah.next rfl rfl rfl rfl rfl rfl rfl (fun hcx=>aa.move rfl rfl) ?_;refine ah.next rfl rfl rfl rfl rfl rfl rfl (fun hcx=>aa.cF rfl rfl rfl a3 hs) ?_;refine ah.and rfl rfl rfl rfl rfl rfl rfl ?_;refine Za ?_;refine aU 0 1 2 6 7 (Zt (Cd.ret ?_));refine ab.aE rfl rfl (.inl rfl) ?_;exact⟨rfl,ae⟩
theorem PW.next {K:Ctx}{w w':World}{p d:Nat}{ov:Bool}(h:PW K w p d ov)(hK:K.B≤K.g)(hp:p+1≤K.ws.length)(ae:Fz w.heap.size K.g w w')(hb:aK w' K.g 219 #[.slice K.A K.ws.length K.c, .int .i64 ((p:Int)+1), .int .i64 (d:Int), .bool ov, .int .i64 (K.en:Int)]):PW K w' (p+1) d ov:=
 ⟨by rw[Int.natCast_add];exact hb,h.rd.below (ae.below (by have:=h.av.lt;omega) hK),hp,h.dU⟩
theorem nv (K:Ctx)(hK:K.Ok)(p d:Nat)(s:List Nat)(w:World)(h:PW K w p d false)(hs:∀x∈s,x<256):Calls Tryz.prog 208 #[.pointer (some ⟨K.g,0,none⟩), .string (strOf s)] w (PR K w d (bE K.ws s p) fun _ _ _=>True):=by
 have ae:=Fz.refl w.heap.size K.g w;have k99:=h.av;have e99:K.g=K.g:=rfl;have hlt:=h.av.lt;have hlen:=hK.len;have hle:=h.bK;have hw:=As K hK p d false 0 s w h hs;have hq:bE K.ws s p=if(decide ((de K.ws p).kind=0)&&decide ((de K.ws p).text=s))=true then .ok () (p+1) else .bad p false:=rfl;refine Zs 17 Tryz.func208 ?_;refine Cd.seq (ao ?_);refine Zm ?_;refine Zm ?_;refine Zc (Ze Tryz.func221) (hw) ?_;rintro e w5 ⟨rfl,hb5⟩;refine⟨_,rfl,?_⟩;replace ae:=ae.step hb5;replace k99:=k99.step hb5;refine Zv (aa.not rfl rfl) ?_;refine bD 0 1 7 (Zt ?_);refine Cd.cond rfl (fun hc=> ?_) (fun hc=> ?_)
 ·have hc:¬(decide ((de K.ws p).kind=0)&&decide ((de K.ws p).text=s))=true:=by rw[Bool.not_eq_true];simpa only[Bool.not_eq_true'] using hc
  rw[if_neg hc] at hq;refine Zr ?_;refine Zm ?_;refine Seq.cS (Ze Tryz.func165) rfl (jc K.g _) ?_;rintro e w6 ⟨rfl,hb6⟩;refine⟨_,rfl,fun a ha=>⟨ha.defers,?_⟩⟩;rw[hq];exact⟨ae.step hb6,rfl,d,⟨k99.step hb6,h.rd.below ((ae.step hb6).below (by have:=hK.le;omega) hK.le),h.bK,h.dU⟩⟩
 ·have hc:(decide ((de K.ws p).kind=0)&&decide ((de K.ws p).text=s))=true:=by simpa only[Bool.not_eq_false'] using hc
  rw[if_pos hc] at hq
  have hp:p+1≤K.ws.length:=by
   rcases Nat.lt_or_ge p K.ws.length with hp|hp
   ·exact hp
   ·simp only[Bool.and_eq_true,decide_eq_true_eq] at hc
    have h1:de K.ws p=⟨-1,[],0,0⟩:=by unfold de;rw[List.getD_eq_getElem?_getD,List.getElem?_eq_none hp];rfl
    rw[h1] at hc;exact absurd hc.1 (by decide)
  refine Cd.skip (ei ?_);refine Zm ?_;refine Zv (aa.nilCheck rfl rfl) ?_;refine Zf 1 Tryz.underlying219 ?_;refine Zv (aa.ag rfl rfl Tryz.underlying3 rfl k99 rfl) ?_;refine cH ?_;refine Zv (aa.nilCheck rfl rfl) ?_;refine Zf 1 Tryz.underlying219 ?_;refine Zq k99 ?_;intro w1 pw1;replace ae:=ae.put k99 pw1 e99;replace k99:=pw1.av;refine bD 0 1 7 ?_;refine ab.fP rfl (.inr rfl) ?_;rw[hq];exact⟨ae,_,rfl,h.next hK.le hp ae k99,trivial⟩
theorem nk (K:Ctx)(hK:K.Ok)(p d:Nat)(w:World)(h:PW K w p d false):Calls Tryz.prog 209 #[.pointer (some ⟨K.g,0,none⟩)] w (PR K w (d+1) (cW p d) fun _ _ _=>True):=by
 have ae:=Fz.refl w.heap.size K.g w;have k99:=h.av;have e99:K.g=K.g:=rfl;have hlt:=h.av.lt;have hde:d≤64:=by rcases h.dU with h|⟨h,-⟩;exact h;cases h
 have hle:=hK.le;have hq:cW p d=if 64<d+1 then .bad p true else .ok () p:=rfl;refine Zs 19 Tryz.func209 ?_;refine ao ?_;refine Zm ?_;refine Zv (aa.nilCheck rfl rfl) ?_;refine Zf 2 Tryz.underlying219 ?_;refine Zv (aa.ag rfl rfl Tryz.underlying3 rfl k99 rfl) ?_;refine cH ?_;refine Zv (aa.nilCheck rfl rfl) ?_;refine Zf 2 Tryz.underlying219 ?_;refine Zq k99 ?_;intro w1 pw1;replace ae:=ae.put k99 pw1 e99;replace k99:=pw1.av;refine CW 0 (aG ?_);refine Zm ?_;refine Zv (aa.nilCheck rfl rfl) ?_;refine Zf 2 Tryz.underlying219 ?_;refine Zv (aa.ag rfl rfl Tryz.underlying3 rfl k99 rfl) ?_;refine Zv (aa.gtr rfl rfl rfl) ?_;refine eh 0 13 (Zt ?_);refine Cd.au rfl (fun hc=> ?_) (fun hc=> ?_)
 ·rw[if_pos (by omega)] at hq
  refine ao ?_;refine Zm ?_;refine Zv (aa.nilCheck rfl rfl) ?_;refine Zf 3 Tryz.underlying219 ?_;refine Zq k99 ?_;intro w2 pw2;replace ae:=ae.put k99 pw2 e99;replace k99:=pw2.av;refine eh 0 13 (ei ?_);refine Zm ?_;refine Seq.cS (Ze Tryz.func165) rfl (jc K.g _) ?_;rintro e w6 ⟨rfl,hb6⟩;refine⟨_,rfl,fun a ha=>⟨ha.defers,?_⟩⟩;rw[hq];exact⟨ae.step hb6,rfl,d+1,⟨by have:=k99.step hb6;rw[Int.natCast_add];exact this,h.rd.below ((ae.step hb6).below (by omega) hle),h.bK, .inr ⟨rfl,by omega⟩⟩⟩
 ·rw[if_neg (by omega)] at hq
  refine Cd.skip ?_;refine ab.fP rfl (.inr rfl) ?_;rw[hq];exact⟨ae,_,rfl,⟨by rw[Int.natCast_add];exact k99,h.rd.below (ae.below (by omega) hle),h.bK, .inl (by omega)⟩,trivial⟩
def sA (L:List (List Nat))(s:List Nat):Int:=if s∈L then(L.idxOf s:Int) else -1
theorem vr (L:List (List Nat))(s:List Nat)(A:Option Addr)(c B:Nat)(w:World)(hr:Reads w B 1 A L.length (r6 L))(hB:B≤w.heap.size)(hl:L.length≤1000)(hL:∀t∈L,∀x∈t,x<256)(hs:∀x∈s,x<256):
  Calls Tryz.prog 139 #[.slice A L.length c, .string (strOf s)] w fun e w'=>e= .returned (.int .i64 (sA L s))∧Grow w w':=by
 have ae:=Below.refl w.heap.size w;refine Zs 19 Tryz.func139 ?_;refine ao ?_;refine Za ?_;refine bD 0 1 4 (aJ (ao ?_));refine Zm ?_;refine Zv (aa.len rfl rfl Tryz.underlying66) ?_;refine Zm ?_;refine aU 0 1 4 7 8 (Zt (Cd.block ?_));refine Cd.loop (σ:=Nat) (fun k=>[(0, .slice A L.length c),(1, .string (strOf s)),(7, .int .i64 (L.length:Int)),(8, .int .i64 (k:Int))]) (fun k wr=>k≤L.length∧Below w.heap.size w wr∧∀t∈L.take k,t≠s) (fun k=>L.length-k) 0 ⟨Nat.zero_le _,ae,by simp⟩ ⟨rfl,rfl,rfl,rfl,trivial⟩ ?_;clear ae;rintro k wr ⟨hk,ae,hno⟩;refine ao ?_;refine Zv (aa.lss rfl rfl rfl) ?_;refine aU 0 1 7 8 9 (aJ ?_);refine Cd.au rfl (fun hc=> ?_) (fun hc=> ?_)
 ·obtain⟨t,ht⟩:∃t,L[k]? =some t:=⟨_,List.getElem?_eq_getElem (by omega)⟩
  have hr:=hr.below (ae.mono hB);obtain⟨ad,rfl,-,hc⟩:=hr.2 (by omega);have hc:=hc k (.string (strOf t)) (by simp[r6,ht]);have htk:L.take (k+1)=L.take k++[t]:=by rw[List.take_add_one,ht];rfl
  refine Cd.skip (aJ (Cd.block (ao ?_)));refine Zm ?_;refine Za ?_;refine bj 0 1 5 7 8 9 (aG ?_);refine Zm ?_;refine Zm ?_;refine Zm ?_;refine Zv (aa.iM rfl rfl rfl Tryz.underlying66 (by kernel_rfl) (j:=k) rfl (by omega)) ?_;refine Zv (aa.iu rfl rfl Tryz.underlying9 rfl hc) ?_;refine Zv (aa.cF rfl rfl rfl hs (hL t (List.mem_of_getElem? ht))) ?_;refine bb 0 1 5 7 8 9 16 (Zt ?_);refine Cd.au rfl (fun hc=> ?_) (fun hc=> ?_)
  ·skip
   refine ao ?_;refine Zm ?_;refine Za ?_;refine cI 0 1 4 5 7 8 9 16 (Zt (Cd.ret (ab.ak (ab.af (ab.bF (ab.ak (ab.af ?_)))))));refine ab.aE rfl rfl (.inl rfl) ?_
   have hi:L.idxOf s=k:=by
    have hlt:=(List.getElem?_eq_some_iff.1 ht).1
    have h1:L=L.take k++t::L.drop (k+1):=by
     rw[List.getElem?_eq_getElem hlt] at ht;injection ht with ht
     rw[←ht,List.getElem_cons_drop,List.take_append_drop]
    rw[h1,List.idxOf_append,if_neg (fun hm=>hno s hm rfl),hc,List.idxOf_cons_self,List.length_take];omega
   unfold sA;rw[if_pos (by rw[hc];exact List.mem_of_getElem? ht),hi];exact⟨rfl,ae⟩
  ·skip
   refine Cd.skip (ab.aj (ei ?_));refine cH ?_;refine Zm ?_;refine bb 0 1 5 7 8 9 16 ?_;refine ab.round (k+1) ⟨rfl,rfl,rfl,rfl,trivial⟩ ⟨by omega,ae,fun u hu=> ?_⟩ (by omega);rw[htk] at hu;rcases List.mem_append.1 hu with hu|hu
   ·exact hno u hu
   ·obtain rfl:=List.mem_singleton.1 hu
    exact fun e=>hc e.symm
 ·obtain rfl:k=L.length:=by omega
  rw[List.take_of_length_le (Nat.le_refl _)] at hno;refine Cd.exit (ab.aD (ab.aA (ab.az (aG ?_))));refine Za ?_;refine bj 0 1 4 7 8 9 (Zt (Cd.ret ?_));refine ab.aE rfl rfl (.inl rfl) ?_;unfold sA;rw[if_neg fun hm=>hno s hm rfl];exact⟨rfl,ae⟩
structure EV (w:World)(g lvl ga gb c d:Nat)(cs:Array Value):Prop where
 Eo:aK w g 248 cs
 s0:cs[lvl*3]? =some (.slice (some ⟨ga,0,none⟩) (cN lvl).length c)
 s1:cs[lvl*3+1]? =some (.slice (some ⟨gb,0,none⟩) (gH lvl).length d)
 s2:cs[lvl*3+2]? =some (.bool (decide (lvl=2)))
 sg:aK w ga 9 (r6 (cN lvl)).toArray
 op:aK w gb 3 (DI (gH lvl)).toArray
theorem nq:cf Tryz.prog 248=some (some (.agg #[.slice none 0 0, .slice none 0 0, .bool false])):=by kernel_rfl
theorem eD (a b:Addr)(n c m d:Nat)(x:Bool)(w:World):(Instr.build 248 #[(0, .slice (some a) n c),(1, .slice (some b) m d),(2, .bool x)]).run Tryz.prog w= .ok (.agg #[.slice (some a) n c, .slice (some b) m d, .bool x]) w:=by
 have hu:=Tryz.underlying248
 go_simp
theorem pZ (w:World):Calls Tryz.prog 195 #[] w fun e w'=>∃g,e= .returned (.slice (some ⟨g,0,none⟩) 5 5)∧Grow w w'∧∀lvl,lvl<5→∃ga gb c d cs,EV w' g lvl ga gb c d cs:=by
 have ae:=Below.refl w.heap.size w;refine Zs 17 Tryz.func195 ?_;refine ao ?_;refine Za ?_;refine CW 0 (aG ?_);refine Seq.slice (vs:=[_]) (s:=1) rfl rfl rfl Tryz.underlying66 (by kernel_rfl) (bl) (by omega) (by omega) ⟨rfl,trivial⟩ rfl rfl rfl ?_;intro g1 w1 n1;have e1:=Nat.le_trans ae.size n1.ge;replace ae:=ae.step n1.below;have k1:=n1.av;refine Seq.slice (vs:=[_]) (s:=1) rfl rfl rfl Tryz.underlying96 (by kernel_rfl) (gy) (by omega) (by omega) ⟨rfl,trivial⟩ rfl rfl rfl ?_;intro g2 w2 n2;have e2:=Nat.le_trans ae.size n2.ge;have l2:=Nat.lt_of_lt_of_le k1.lt n2.ge;replace ae:=ae.step n2.below;replace k1:=k1.step n2.below;have k2:=n2.av;refine Zv (aa.build rfl rfl (eD _ _ _ _ _ _ _ _)) ?_;refine Seq.slice (vs:=[_]) (s:=1) rfl rfl rfl Tryz.underlying66 (by kernel_rfl) (bl) (by omega) (by omega) ⟨rfl,trivial⟩ rfl rfl rfl ?_;intro g4 w3 n4;have e4:=Nat.le_trans ae.size n4.ge;have l4:=Nat.lt_of_lt_of_le k2.lt n4.ge;replace ae:=ae.step n4.below;replace k1:=k1.step n4.below;replace k2:=k2.step n4.below;have k4:=n4.av;refine Seq.slice (vs:=[_]) (s:=1) rfl rfl rfl Tryz.underlying96 (by kernel_rfl) (gy) (by omega) (by omega) ⟨rfl,trivial⟩ rfl rfl rfl ?_;intro g5 w4 n5;have e5:=Nat.le_trans ae.size n5.ge;have l5:=Nat.lt_of_lt_of_le k4.lt n5.ge;replace ae:=ae.step n5.below;replace k1:=k1.step n5.below;replace k2:=k2.step n5.below;replace k4:=k4.step n5.below;have k5:=n5.av;refine Zv (aa.build rfl rfl (eD _ _ _ _ _ _ _ _)) ?_;refine Seq.slice (vs:=[_,_,_,_,_,_]) (s:=1) rfl rfl rfl Tryz.underlying66 (by kernel_rfl) (bl) (by omega) (by omega) ⟨rfl,rfl,rfl,rfl,rfl,rfl,trivial⟩ rfl rfl rfl ?_;intro g7 w5 n7;have e7:=Nat.le_trans ae.size n7.ge;have l7:=Nat.lt_of_lt_of_le k5.lt n7.ge;replace ae:=ae.step n7.below;replace k1:=k1.step n7.below;replace k2:=k2.step n7.below;replace k4:=k4.step n7.below;replace k5:=k5.step n7.below;have k7:=n7.av;refine Seq.slice (vs:=[_,_,_,_,_,_]) (s:=1) rfl rfl rfl Tryz.underlying96 (by kernel_rfl) (gy) (by omega) (by omega) ⟨rfl,rfl,rfl,rfl,rfl,rfl,trivial⟩ rfl rfl rfl ?_;intro g8 w6 n8;have e8:=Nat.le_trans ae.size n8.ge;have l8:=Nat.lt_of_lt_of_le k7.lt n8.ge;replace ae:=ae.step n8.below;replace k1:=k1.step n8.below;replace k2:=k2.step n8.below;replace k4:=k4.step n8.below;replace k5:=k5.step n8.below;replace k7:=k7.step n8.below;have k8:=n8.av;refine Zv (aa.build rfl rfl (eD _ _ _ _ _ _ _ _)) ?_;refine Seq.slice (vs:=[_,_]) (s:=1) rfl rfl rfl Tryz.underlying66 (by kernel_rfl) (bl) (by omega) (by omega) ⟨rfl,rfl,trivial⟩ rfl rfl rfl ?_;intro g10 w7 n10;have e10:=Nat.le_trans ae.size n10.ge;have l10:=Nat.lt_of_lt_of_le k8.lt n10.ge;replace ae:=ae.step n10.below;replace k1:=k1.step n10.below;replace k2:=k2.step n10.below;replace k4:=k4.step n10.below;replace k5:=k5.step n10.below;replace k7:=k7.step n10.below;replace k8:=k8.step n10.below;have k10:=n10.av;refine Seq.slice (vs:=[_,_]) (s:=1) rfl rfl rfl Tryz.underlying96 (by kernel_rfl) (gy) (by omega) (by omega) ⟨rfl,rfl,trivial⟩ rfl rfl rfl ?_;intro g11 w8 n11;have e11:=Nat.le_trans ae.size n11.ge;have l11:=Nat.lt_of_lt_of_le k10.lt n11.ge;replace ae:=ae.step n11.below;replace k1:=k1.step n11.below;replace k2:=k2.step n11.below;replace k4:=k4.step n11.below;replace k5:=k5.step n11.below;replace k7:=k7.step n11.below;replace k8:=k8.step n11.below;replace k10:=k10.step n11.below;have k11:=n11.av;refine Zv (aa.build rfl rfl (eD _ _ _ _ _ _ _ _)) ?_;refine Seq.slice (vs:=[_,_]) (s:=1) rfl rfl rfl Tryz.underlying66 (by kernel_rfl) (bl) (by omega) (by omega) ⟨rfl,rfl,trivial⟩ rfl rfl rfl ?_;intro g13 w9 n13;have e13:=Nat.le_trans ae.size n13.ge;have l13:=Nat.lt_of_lt_of_le k11.lt n13.ge;replace ae:=ae.step n13.below;replace k1:=k1.step n13.below;replace k2:=k2.step n13.below;replace k4:=k4.step n13.below;replace k5:=k5.step n13.below;replace k7:=k7.step n13.below;replace k8:=k8.step n13.below;replace k10:=k10.step n13.below;replace k11:=k11.step n13.below;have k13:=n13.av;refine Seq.slice (vs:=[_,_]) (s:=1) rfl rfl rfl Tryz.underlying96 (by kernel_rfl) (gy) (by omega) (by omega) ⟨rfl,rfl,trivial⟩ rfl rfl rfl ?_;intro g14 w10 n14;have e14:=Nat.le_trans ae.size n14.ge;have l14:=Nat.lt_of_lt_of_le k13.lt n14.ge;replace ae:=ae.step n14.below;replace k1:=k1.step n14.below;replace k2:=k2.step n14.below;replace k4:=k4.step n14.below;replace k5:=k5.step n14.below;replace k7:=k7.step n14.below;replace k8:=k8.step n14.below;replace k10:=k10.step n14.below;replace k11:=k11.step n14.below;replace k13:=k13.step n14.below;have k14:=n14.av;refine Zv (aa.build rfl rfl (eD _ _ _ _ _ _ _ _)) ?_;refine Seq.slice (vs:=[_,_,_,_,_]) (s:=3) rfl rfl rfl Tryz.underlying244 (by kernel_rfl) (nq) (by omega) (by omega) ⟨rfl,rfl,rfl,rfl,rfl,trivial⟩ rfl rfl rfl ?_;intro g16 w11 n16;have e16:=Nat.le_trans ae.size n16.ge;have l16:=Nat.lt_of_lt_of_le k14.lt n16.ge;replace ae:=ae.step n16.below;replace k1:=k1.step n16.below;replace k2:=k2.step n16.below;replace k4:=k4.step n16.below;replace k5:=k5.step n16.below;replace k7:=k7.step n16.below;replace k8:=k8.step n16.below;replace k10:=k10.step n16.below;replace k11:=k11.step n16.below;replace k13:=k13.step n16.below;replace k14:=k14.step n16.below;have k16:=n16.av;refine Za ?_;refine CW 0 (Zt (Cd.ret ?_));refine ab.aE rfl rfl (.inl rfl) ?_;refine⟨_,rfl,ae,fun lvl hlvl=> ?_⟩
 match lvl,hlvl with
 |0,_=>exact⟨_,_,_,_,_,k16,rfl,rfl,rfl,k1,k2⟩
 |1,_=>exact⟨_,_,_,_,_,k16,rfl,rfl,rfl,k4,k5⟩
 |2,_=>exact⟨_,_,_,_,_,k16,rfl,rfl,rfl,k7,k8⟩
 |3,_=>exact⟨_,_,_,_,_,k16,rfl,rfl,rfl,k10,k11⟩
 |4,_=>exact⟨_,_,_,_,_,k16,rfl,rfl,rfl,k13,k14⟩
theorem yi (t:List Nat)(w:World)(ht:∀x∈t,x<256):Calls Tryz.prog 169 #[.string (strOf t)] w fun e w'=>e= .returned (.tuple #[.int .i64 (cC t).1, .int .i64 ((cC t).2.1:Int), .int .i64 ((cC t).2.2:Int)])∧Grow w w':=by
 have ae:=Below.refl w.heap.size w;unfold cC;refine Zs 20 Tryz.func169 ?_;refine ao ?_;refine Za ?_;refine Za ?_;refine Za ?_;refine aV 0 2 3 4 (aJ (ao ?_));refine Zm ?_;refine aU 0 2 3 4 5 (Zt (Cd.block (ao ?_)));refine Zv (aa.cF (b:=[103,105,118,101]) rfl rfl rfl ht (by decide)) ?_;refine Za ?_;refine bj 0 2 3 4 5 6 (Zt ?_);refine Cd.au rfl (fun hc=> ?_) (fun h0=> ?_)
 ·rw[if_pos hc]
  refine ao ?_;refine Za ?_;refine Za ?_;refine Za ?_;refine bj 0 2 3 4 5 6 (Zt (Cd.ret (ab.ak (ab.af ?_))));refine ab.lS rfl rfl rfl rfl (.inl rfl) ?_;exact⟨rfl,ae⟩
 refine ao ?_;refine Zv (aa.cF (b:=[97,110,100]) rfl rfl rfl ht (by decide)) ?_;refine Za ?_;refine bb 0 2 3 4 5 6 8 (Zt ?_);refine Cd.au rfl (fun hc=> ?_) (fun h1=> ?_)
 ·rw[if_neg h0,if_pos hc]
  refine ao ?_;refine Za ?_;refine Za ?_;refine Za ?_;refine bb 0 2 3 4 5 6 8 (Zt (Cd.ret (ab.ak (ab.af ?_))));refine ab.lS rfl rfl rfl rfl (.inl rfl) ?_;exact⟨rfl,ae⟩
 refine ao ?_;refine Zv (aa.cF (b:=[111,114]) rfl rfl rfl ht (by decide)) ?_;refine Za ?_;refine cI 0 2 3 4 5 6 8 10 (Zt ?_);refine Cd.au rfl (fun hc=> ?_) (fun h2=> ?_)
 ·rw[if_neg h0,if_neg h1,if_pos hc]
  refine ao ?_;refine Za ?_;refine Za ?_;refine Za ?_;refine cI 0 2 3 4 5 6 8 10 (Zt (Cd.ret (ab.ak (ab.af ?_))));refine ab.lS rfl rfl rfl rfl (.inl rfl) ?_;exact⟨rfl,ae⟩
 refine ao ?_;refine Zv (aa.cF (b:=[115,99,97,108,101]) rfl rfl rfl ht (by decide)) ?_;refine Za ?_;refine dG 0 2 3 4 5 6 8 10 12 (Zt ?_);refine Cd.au rfl (fun hc=> ?_) (fun h3=> ?_)
 ·rw[if_neg h0,if_neg h1,if_neg h2,if_pos hc]
  refine ao ?_;refine Za ?_;refine Za ?_;refine Za ?_;refine dG 0 2 3 4 5 6 8 10 12 (Zt (Cd.ret (ab.ak (ab.af ?_))));refine ab.lS rfl rfl rfl rfl (.inl rfl) ?_;exact⟨rfl,ae⟩
 refine ao ?_;refine Zv (aa.cF (b:=[119,104,101,110]) rfl rfl rfl ht (by decide)) ?_;refine Za ?_;refine dg 0 2 3 4 5 6 8 10 12 14 (Zt ?_);refine Cd.au rfl (fun hc=> ?_) (fun h4=> ?_)
 ·rw[if_neg h0,if_neg h1,if_neg h2,if_neg h3,if_pos hc]
  refine ao ?_;refine Za ?_;refine Za ?_;refine Za ?_;refine dg 0 2 3 4 5 6 8 10 12 14 (Zt (Cd.ret (ab.ak (ab.af ?_))));refine ab.lS rfl rfl rfl rfl (.inl rfl) ?_;exact⟨rfl,ae⟩
 refine ao ?_;refine Zv (aa.cF (b:=[117,110,116,105,108]) rfl rfl rfl ht (by decide)) ?_;refine Za ?_;refine dr 0 2 3 4 5 6 8 10 12 14 16 (Zt ?_);refine Cd.au rfl (fun hc=> ?_) (fun h5=> ?_)
 ·rw[if_neg h0,if_neg h1,if_neg h2,if_neg h3,if_neg h4,if_pos hc]
  refine ao ?_;refine Za ?_;refine Za ?_;refine Za ?_;refine dr 0 2 3 4 5 6 8 10 12 14 16 (Zt (Cd.ret (ab.ak (ab.af ?_))));refine ab.lS rfl rfl rfl rfl (.inl rfl) ?_;exact⟨rfl,ae⟩
 refine ao ?_;refine Zv (aa.cF (b:=[97,110,121,116,105,109,101]) rfl rfl rfl ht (by decide)) ?_;refine Za ?_;refine fG 0 2 3 4 5 6 8 10 12 14 16 18 (Zt ?_);refine Cd.au rfl (fun hc=> ?_) (fun h6=> ?_)
 ·rw[if_neg h0,if_neg h1,if_neg h2,if_neg h3,if_neg h4,if_neg h5,if_pos hc]
  refine ao ?_;refine Za ?_;refine Za ?_;refine Za ?_;refine fG 0 2 3 4 5 6 8 10 12 14 16 18 (Zt (Cd.ret (ab.ak (ab.af ?_))));refine ab.lS rfl rfl rfl rfl (.inl rfl) ?_;exact⟨rfl,ae⟩
 refine Cd.skip (ab.aj (aG ?_));refine Za ?_;refine Za ?_;refine Za ?_;refine fG 0 2 3 4 5 6 8 10 12 14 16 18 (Zt (Cd.ret ?_));refine ab.lS rfl rfl rfl rfl (.inl rfl) ?_;rw[if_neg h0,if_neg h1,if_neg h2,if_neg h3,if_neg h4,if_neg h5,if_neg h6];exact⟨rfl,ae⟩
theorem tt (K:Ctx)(hK:K.Ok)(p d:Nat)(w:World)(h:PW K w p d false):Calls Tryz.prog 168 #[.pointer (some ⟨K.g,0,none⟩)] w (PR K w d (dW K.ws p) fun nm v _=>v= .string (strOf nm)):=by
 have ae:=Fz.refl w.heap.size K.g w;have k99:=h.av;have e99:K.g=K.g:=rfl;have hlt:=h.av.lt;have hlen:=hK.len;have hle:=h.bK;obtain⟨a1,a2,a3,a4,a5⟩:=hK.at_ p;obtain⟨b1,b2,b3⟩:=K.ju p;have hw:=fun W (hb:Below w.heap.size w W)=>gA K hK p d false W (h.step hK.le hb);unfold DQ at hw;have hres:=fun W=>my (K.at_ p).text W a3;have hq:dW K.ws p=if(K.at_ p).kind=3∧cq (K.at_ p).text=false then .ok (K.at_ p).text (p+1) else .bad p false:=by rw[b1,b2];rfl
 refine Zs 25 Tryz.func168 ?_;refine ao ?_;refine Za ?_;refine eh 0 2 (aG ?_);refine Zm ?_;refine Zc (Ze Tryz.func164) (hw _ (Below.refl _ _)) ?_;rintro e w5 ⟨rfl,hb5⟩;refine⟨_,rfl,?_⟩;replace ae:=ae.step hb5;replace k99:=k99.step hb5;refine Zl bJ ?_;intro g3 w1 n3;have e3:=Nat.le_trans ae.size n3.ge;have l3:=Nat.lt_of_lt_of_le k99.lt n3.ge;replace ae:=ae.step n3.below;replace k99:=k99.step n3.below;have k3:=n3.av;refine Zo 4 k3 ?_;intro w2 pw2;replace ae:=ae.put k3 pw2 e3;replace k99:=k99.put pw2 (by omega);replace k3:=pw2.av;refine bD 0 2 3 (aJ (ao ?_));refine Zf 0 Tryz.underlying221 ?_;refine Zv (aa.ag rfl rfl Tryz.underlying3 rfl k3 rfl) ?_;refine Zv (aa.bN rfl rfl rfl) ?_;refine Zm ?_;refine ah.start ?_;refine bM (fun hcx=>aa.an 1 rfl rfl Tryz.underlying221 rfl (by kernel_rfl)) ?_;refine ah.next rfl rfl rfl rfl rfl rfl rfl (fun hcx=>aa.ag rfl rfl Tryz.underlying9 rfl k3 rfl) ?_;refine ah.bY rfl rfl rfl rfl rfl rfl rfl (fun hcx=>Ze Tryz.func210) (fun hcx=>hres _) ?_;intro w3 hw3;replace ae:=ae.step hw3;replace k99:=k99.step hw3;replace k3:=k3.step hw3;refine ah.or rfl rfl rfl rfl rfl rfl rfl ?_;refine aV 0 2 3 13 (Zt ?_);refine Cd.cond rfl (fun hc=> ?_) (fun hc=> ?_)
 ·have hc:¬((K.at_ p).kind=3∧cq (K.at_ p).text=false):=by
   rintro⟨c1,c2⟩;simp[c1,c2] at hc
  rw[if_neg hc] at hq;refine Zr ?_;refine Zm ?_;refine Seq.cS (Ze Tryz.func165) rfl (jc K.g _) ?_;rintro e w6 ⟨rfl,hb6⟩;refine⟨_,rfl,fun a ha=>⟨ha.defers,?_⟩⟩;rw[hq];exact⟨ae.step hb6,rfl,d,⟨k99.step hb6,h.rd.below ((ae.step hb6).below (by have:=hK.le;omega) hK.le),h.bK,h.dU⟩⟩
 ·have hc:(K.at_ p).kind=3∧cq (K.at_ p).text=false:=by
   simpa using hc
  rw[if_pos hc] at hq
  have hp:p+1≤K.ws.length:=by
   rcases Nat.lt_or_ge p K.ws.length with hp|hp
   ·exact hp
   ·have h1:(K.at_ p).kind= -1:=by unfold Ctx.at_;rw[List.getD_eq_getElem?_getD,List.getElem?_eq_none hp];rfl
    rw[h1] at hc;exact absurd hc.1 (by decide)
  refine Cd.skip (aG ?_);refine Zm ?_;refine Zv (aa.nilCheck rfl rfl) ?_;refine Zf 1 Tryz.underlying219 ?_;refine Zv (aa.ag rfl rfl Tryz.underlying3 rfl k99 rfl) ?_;refine cH ?_;refine Zv (aa.nilCheck rfl rfl) ?_;refine Zf 1 Tryz.underlying219 ?_;refine Zq k99 ?_;intro w4 pw4;replace ae:=ae.put k99 pw4 e99;replace k3:=k3.put pw4 (by omega);replace k99:=pw4.av;refine aV 0 2 3 13 (aG ?_);refine Zf 1 Tryz.underlying221 ?_;refine Zv (aa.ag rfl rfl Tryz.underlying9 rfl k3 rfl) ?_;refine Za ?_;refine aV 0 2 3 13 (Zt (Cd.ret ?_));refine ab.aE rfl rfl (.inl rfl) ?_;rw[hq];exact⟨ae,_,rfl,h.next hK.le hp ae k99,rfl⟩
end Go.Proofs.YtigoimhndlnhfaaGreat