/-
  Texts that were joined: TreE, TreF, TreG, TreH, TreI, DateA, DateB, CivA, DateC, BigA, BigB, BigC, BigD, BigE, BigF, BigG, BigH, BigI, TBigK, TNumR, TNumS, DateD, CivB, TNumH, TreJ, TreK, TreL, KN, TreM, TreN, TreO, TreP, TrmA, TrmB, TrmC, TrmD. Conditions: what each theorem names.
-/
import Derived.Test.YtigoimhndlnhfaaGreatJ1
set_option linter.unusedSectionVars false
namespace Go.Proofs.YtigoimhndlnhfaaGreat
open Go.RowKit
theorem Cf (op:Int)(w:World):Calls Tryz.prog 133 #[.int .i64 op] w fun e w'=>e= .returned (.int .i64 (dB op))∧Grow w w':=by
 have bel:=Below.refl w.heap.size w;refine Zs 23 Tryz.func133 ?_;refine aj ?_;refine Za ?_;refine dM 0 2 (aJ (aj ?_));refine Zm ?_;refine mz ?_;refine Zm ?_;refine av.start ?_;refine bk (fun hcx=>aa.move rfl rfl) ?_;refine Zn (fun hcx=>aa.leq rfl rfl rfl) ?_;refine ep ?_;refine bu 0 2 8 (Zt ?_);refine Cd.cond rfl (fun h=> ?_) (fun h=> ?_)
 ·simp at h
  refine aj ?_;refine Za ?_;refine bu 0 2 8 (Zt (Cd.ret (ab.af ?_)));refine aX ?_;exact⟨aW (int_eq (by unfold dB;rw[if_pos h])),bel⟩
 ·simp at h
  refine Cd.skip (aJ (aj ?_));refine Zm ?_;refine mz ?_;refine Zm ?_;refine av.start ?_;refine bk (fun hcx=>aa.move rfl rfl) ?_;refine Zn (fun hcx=>aa.leq rfl rfl rfl) ?_;refine ep ?_;refine aZ 0 2 8 14 (Zt ?_);refine Cd.cond rfl (fun h2=> ?_) (fun h2=> ?_)
  ·simp at h2
   refine aj ?_;refine Za ?_;refine aZ 0 2 8 14 (Zt (Cd.ret (ab.af ?_)));refine aX ?_;exact⟨aW (int_eq (by unfold dB;rw[if_neg (by omega),if_pos h2])),bel⟩
  ·simp at h2
   refine Cd.skip (aJ (aj ?_));refine Zm ?_;refine bq ?_;refine Zm ?_;refine av.start ?_;refine bk (fun hcx=>aa.move rfl rfl) ?_;refine Zn (fun hcx=>aa.fm rfl rfl rfl) ?_;refine eG ?_;refine aU 0 2 8 14 20 (Zt ?_);refine Cd.cond rfl (fun h3=> ?_) (fun h3=> ?_)
   ·simp at h3
    refine aj ?_;refine Za ?_;refine aU 0 2 8 14 20 (Zt (Cd.ret (ab.af ?_)));refine aX ?_;exact⟨aW (int_eq (by unfold dB;rw[if_neg (by omega),if_neg (by omega),if_pos h3])),bel⟩
   ·simp at h3
    refine Cd.skip (aJ (aj ?_));refine Zm ?_;refine bq ?_;refine bl 0 2 8 14 20 22 (Zt ?_);refine Cd.au rfl (fun hc=> ?_) (fun hc=> ?_)
    ·skip
     refine aj ?_;refine Za ?_;refine bl 0 2 8 14 20 22 (Zt (Cd.ret (ab.af ?_)));refine aX ?_;exact⟨aW (int_eq (by unfold dB;rw[if_neg (by omega),if_neg (by omega),if_neg (by omega),if_pos (by assumption)])),bel⟩
    ·skip
     refine Cd.skip (aB ?_);refine Za ?_;refine bl 0 2 8 14 20 22 (Zt (Cd.ret ?_));refine aX ?_;exact⟨aW (int_eq (by unfold dB;rw[if_neg (by omega),if_neg (by omega),if_neg (by omega),if_neg (by assumption)])),bel⟩
theorem sV:∀x∈ew,∀d∈x,d<256:=by decide
theorem oy (l:List Nat)(w:World)(hl:∀d∈l,d<256):Calls Tryz.prog 159 #[.string (strOf l)] w fun e w'=>e= .returned (.bool (dD l))∧Grow w w':=by
 have bel:=Below.refl w.heap.size w
 have hat:∀j x,ew[j]? =some x→(ax (ew.map fun x=>Value.string (strOf x))).toArray[j]? =some (Value.string (strOf x)):=fun j x h=>by
  have hj:=(List.getElem?_eq_some_iff.1 h).1;replace hj:j<13:=hj;rcases(show j=0∨j=1∨j=2∨j=3∨j=4∨j=5∨j=6∨j=7∨j=8∨j=9∨j=10∨j=11∨j=12 by omega) with rfl|rfl|rfl|rfl|rfl|rfl|rfl|rfl|rfl|rfl|rfl|rfl|rfl<;>(injection h with h;subst h;rfl)
 refine Zs 18 Tryz.func159 ?_;refine aj ?_;refine Za ?_;refine dM 0 2 (aB ?_);refine Seq.slice (vs:=[_,_,_,_,_,_,_,_,_,_,_,_,_]) (s:=1) rfl rfl rfl Tryz.underlying66 (by kernel_rfl) (cJ) (by omega) (by omega) ⟨rfl,rfl,rfl,rfl,rfl,rfl,rfl,rfl,rfl,rfl,rfl,rfl,rfl,trivial⟩ rfl rfl rfl ?_;intro g5 w1 n5;have e5:=Nat.le_trans bel.size n5.ge;replace bel:=bel.step n5.below;have k5:=n5.ao;refine Za ?_;refine bu 0 2 3 (aJ (aj ?_));refine Za ?_;refine aZ 0 2 3 4 (Zt (Cd.block ?_))
 refine Cd.loop (σ:=Nat) (fun k=>[(0, .string (strOf l)),(3, .slice (some ⟨g5,0,none⟩) 13 13),(4, .int .i64 (k:Int))])
  (fun k wr=>k≤13∧(∀x∈ew.take k,l≠x)∧Below w.heap.size w wr∧aH wr g5 9 (ax (ew.map fun x=>Value.string (strOf x))).toArray) (fun k=>13-k) 0 ⟨by omega,by simp,bel,k5⟩ ⟨rfl,rfl,rfl,trivial⟩ ?_
 clear bel k5;rintro k wr ⟨hk,hno,bel,k5⟩;refine Cd.seq (aj ?_);refine Zm ?_;refine Zm ?_;refine Zv (aa.len rfl rfl Tryz.underlying66) ?_;refine ff ?_;refine aZ 0 3 4 9 (Zt ?_);refine Cd.au rfl (fun hc=> ?_) (fun hc=> ?_)
 ·obtain⟨x,hx⟩:∃x,ew[k]? =some x:=⟨_,List.getElem?_eq_getElem (show k<ew.length by show k<13;omega)⟩
  have htk:ew.take (k+1)=ew.take k++[x]:=by rw[List.take_add_one,hx];rfl
  have hxb:∀d∈x,d<256:=sV x (List.mem_of_getElem? hx);refine Cd.skip (aJ (Cd.block (aj ?_)));refine Zm ?_;refine Zm ?_;refine Zv (aa.nE rfl rfl rfl Tryz.underlying66 (by kernel_rfl) (j:=k) rfl (by omega)) ?_;refine Zv (aa.an rfl rfl Tryz.underlying9 rfl k5 (hat k x hx)) ?_;refine Zm ?_;refine Zv (aa.dq (a:=x) (b:=l) rfl rfl rfl hxb hl) ?_;refine aU 0 3 4 9 17 (Zt ?_);refine Cd.au rfl (fun hq=> ?_) (fun hne=> ?_)
  ·skip
   refine aj ?_;refine Za ?_;refine bl 0 2 3 4 9 17 (Zt (Cd.ret (ab.ah (ab.af (ab.aL (ab.ah (ab.af ?_)))))));refine aX ?_;refine⟨aW (aF ?_),bel⟩;unfold dD;exact(List.any_eq_true.2 ⟨x,List.mem_of_getElem? hx,decide_eq_true hq.symm⟩).symm
  ·skip
   refine Cd.skip (ab.ai (dU ?_));refine Zm ?_;refine dt ?_;refine Za ?_;refine aU 0 3 4 9 17 ?_;refine ab.round (k+1) ⟨rfl,rfl,rfl,trivial⟩ ⟨by omega,fun y hy=> ?_,bel,k5⟩ (by omega);rw[htk] at hy;rcases List.mem_append.1 hy with hy|hy
   ·exact hno y hy
   ·simp at hy
    subst hy;exact fun h=>hne h.symm
 ·obtain rfl:k=13:=by omega
  rw[List.take_of_length_le (show ew.length≤13 from Nat.le_refl _)] at hno;refine Cd.exit (ab.aA (ab.ay (ab.az (aB ?_))));refine Za ?_;refine aU 0 2 3 4 9 (Zt (Cd.ret ?_));refine aX ?_;refine⟨aW (aF ?_),bel⟩;unfold dD
  symm
  rw[List.any_eq_false];exact fun x hx=>by simpa using hno x hx
theorem nV (l:List Nat)(w:World)(hl:∀d∈l,d<256)(hlen:l.length≤9223372036854775807):Calls Tryz.prog 132 #[.string (strOf l)] w fun e w'=>e= .returned (.bool (gQ l))∧Grow w w':=by
 have bel:=Below.refl w.heap.size w;refine Zs 10 Tryz.func132 ?_;refine aj ?_;refine Za ?_;refine dM 0 2 (aB ?_);refine Zm ?_;refine Zc (Ze Tryz.func28) (sP l _ hl hlen) ?_;rintro e w5 ⟨rfl,hb5⟩;refine⟨_,rfl,?_⟩;replace bel:=bel.step hb5;refine Zm ?_;refine av.start ?_;refine bk (fun hcx=>aa.move rfl rfl) ?_;refine av.bj rfl rfl rfl rfl rfl rfl rfl (fun hcx=>Ze Tryz.func159) (fun hcx=>oy l _ hl) ?_;intro w1 hw1;replace bel:=bel.step hw1;refine Zn (fun hcx=>aa.not rfl rfl) ?_;refine ep ?_;refine Za ?_;refine dM 0 2 (Zt (Cd.ret ?_));refine aX ?_;exact⟨aW (aF (by unfold gQ;cases cI l<;>rfl)),bel⟩
theorem m6 (N:Nat):∀(e:Ex) (B:Nat) (v:Value) (w:World),e.nodes≤N→lE w B e v→B≤w.heap.size→Calls Tryz.prog 92 #[v] w fun en w'=>en= .returned (.bool (bF e))∧Grow w w':=by
 induction N with
 |zero=>intro e B v w hN;have:=e.bU;omega
 |succ N ih=>
 intro e B v w hN hrep hB;obtain⟨A,c,rfl,hv⟩:=hrep.open;have bel:=Below.refl w.heap.size w;have HB1:=hv.name;have HB2:∀d∈([]:List Nat),d<256:=by simp
 have hnl:=hv.pU;have dX:=hv.dX;have hn1:=hv.n.1;have hn2:=hv.n.2;have hbt:=nw e;obtain⟨op,hop⟩:∃op,op=e.op:=⟨_,rfl⟩;obtain⟨n,hn⟩:∃n,n=e.n:=⟨_,rfl⟩;obtain⟨nm,hnm⟩:∃nm,nm=e.name:=⟨_,rfl⟩;obtain⟨k,hk⟩:∃k,k=e.args.length:=⟨_,rfl⟩;rw[←hop,←hn,←hnm,←hk] at hbt;rw[←hnm] at HB1 hnl;rw[←hn] at hn1 hn2;rw[←hk] at dX;rw[←hop,←hn,←hnm,←hk];have hbf:∀_:¬(dB op=(k:Int)∧(n=0∨op=1∨op=2)∧(nm=[]∨op=3)∧0≤n∧(op=2→n≤2932896)∧(op=3→gQ nm=true)),bF e=false:=fun h=>by rw[hbt,kI h];rfl
 refine Zs 71 Tryz.func92 ?_;refine aj ?_;refine Seq.box rfl rfl rfl rfl rfl ?_;intro g1 w1 n1;have e1:=Nat.le_trans bel.size n1.ge;replace bel:=bel.step n1.below;have k1:=n1.ao;refine Za ?_;refine bu 0 1 2 (aJ (Cd.seq ?_));refine fV 7 ?_;intro w2 hw2 zw2;replace bel:=bel.step hw2;replace k1:=k1.step hw2;have zbel:=bel.size;have zlt:=k1.lt;refine fp 3 Tryz.underlying105 ?_;refine eH Tryz.underlying68 k1 ?_;refine Zd (fun w hG=>aa.len rfl rfl Tryz.underlying68) ?_;refine fp 0 Tryz.underlying105 ?_;refine eH Tryz.underlying3 k1 ?_;refine Dr.dm rfl (fun w=>Ze Tryz.func133) rfl (fun w hG=>Cf op w) ?_;refine Zd (fun w hG=>aa.cz rfl rfl rfl) ?_;refine Dr.nil ?_;refine br.done (F':=[(0,_),(1,_),(2,_),(10,_)]) rfl ⟨rfl,rfl,rfl,rfl,trivial⟩ ?_;intro w3 hw3 fw3;replace bel:=bel.step hw3;replace k1:=k1.step hw3;refine aZ 0 1 2 10 (Zt ?_);refine Cd.au rfl (fun hc=> ?_) (fun hc=> ?_)
 ·skip
  refine aj ?_;refine Za ?_;refine aZ 0 1 2 10 (Zt (Cd.ret (ab.af ?_)));refine aX ?_;rw[hbf (by omega)];exact⟨rfl,bel⟩
 ·skip
  refine Cd.skip (Zt ?_);refine Cd.lC (σ:=Unit) (fun _=>[(1, .pointer (some ⟨g1,0,none⟩))]) (fun _ wr=>lO op n nm k=true∧Below w.heap.size w wr∧aH wr g1 105 #[.int .i64 op, .int .i64 n, .string (strOf nm), .slice A k c]) ?_ ?_
  ·skip
   refine aj ?_;refine Zf 0 Tryz.underlying105 ?_;refine ZL Tryz.underlying3 k1 ?_;refine aU 0 1 2 10 12 (Zt (Cd.block (aj ?_)));refine bq ?_;refine Za ?_;refine bl 0 1 2 10 12 21 (Zt ?_);refine Cd.au rfl (fun ho=> ?_) (fun ho=> ?_)
   ·skip
    refine aj ?_;refine Zf 1 Tryz.underlying105 ?_;refine ZL Tryz.underlying2 k1 ?_;refine ff ?_;refine Zm ?_;refine av.start ?_;refine bk (fun hcx=>aa.ak 2 rfl rfl Tryz.underlying105 rfl (by kernel_rfl)) ?_;refine Zn (fun hcx=>aa.an rfl rfl Tryz.underlying9 rfl k1 rfl) ?_;refine Zn (fun hcx=>aa.ku (b:=[]) rfl rfl rfl HB1 HB2) ?_;refine eG ?_;refine bp 0 1 2 10 12 21 30 (Zt ?_);refine Cd.cond rfl (fun h=> ?_) (fun h=> ?_)
    ·skip
     refine aj ?_;refine Za ?_;refine bp 0 1 2 10 12 21 30 (Zt (Cd.ret (ab.ah (ab.af ?_))));refine aX ?_;simp at h;rw[hbf (by rintro⟨-,-,h3,h4,-⟩;rcases h with h|h;omega;rcases h3 with h3|h3;exact h h3;omega)];exact⟨rfl,bel⟩
    ·simp at h
     refine Cd.skip (ab.ai ?_);exact ab.join () ⟨rfl,trivial⟩ ⟨iw (by omega) (by omega) (.inl h.2) (by omega) (by omega) (by omega),bel,k1⟩
   ·skip
    refine aj ?_;refine bq ?_;refine Za ?_;refine bp 0 1 2 10 12 21 31 (Zt ?_);refine Cd.au rfl (fun ho2=> ?_) (fun ho2=> ?_)
    ·skip
     refine aj ?_;refine Zf 1 Tryz.underlying105 ?_;refine ZL Tryz.underlying2 k1 ?_;refine ff ?_;refine Zm ?_;refine av.start ?_;refine bk (fun hcx=>aa.ak 1 rfl rfl Tryz.underlying105 rfl (by kernel_rfl)) ?_;refine Zn (fun hcx=>aa.an rfl rfl Tryz.underlying2 rfl k1 rfl) ?_;refine Zn (fun hcx=>aa.gtr rfl rfl rfl) ?_;refine eG ?_;refine Zm ?_;refine av.start ?_;refine bk (fun hcx=>aa.ak 2 rfl rfl Tryz.underlying105 rfl (by kernel_rfl)) ?_;refine Zn (fun hcx=>aa.an rfl rfl Tryz.underlying9 rfl k1 rfl) ?_;refine Zn (fun hcx=>aa.ku (b:=[]) rfl rfl rfl HB1 HB2) ?_;refine eG ?_;refine cn 0 1 2 10 12 21 31 45 (Zt ?_);refine Cd.cond rfl (fun h=> ?_) (fun h=> ?_)
     ·skip
      refine aj ?_;refine Za ?_;refine cn 0 1 2 10 12 21 31 45 (Zt (Cd.ret (ab.ah (ab.af ?_))));refine aX ?_;simp at h;rw[hbf (by rintro⟨-,-,h3,h4,h5,-⟩;rcases h with (h|h)|h;omega;(have:=h5 ho2;omega);(rcases h3 with h3|h3;exact h h3;omega))];exact⟨rfl,bel⟩
     ·simp at h
      refine Cd.skip (ab.ai ?_);exact ab.join () ⟨rfl,trivial⟩ ⟨iw (by omega) (by omega) (.inl h.2) (by omega) (by omega) (by omega),bel,k1⟩
    ·skip
     refine aj ?_;refine bq ?_;refine Za ?_;refine cn 0 1 2 10 12 21 31 46 (Zt ?_);refine Cd.au rfl (fun ho3=> ?_) (fun ho3=> ?_)
     ·skip
      refine aj ?_;refine Zf 1 Tryz.underlying105 ?_;refine ZL Tryz.underlying2 k1 ?_;refine kL ?_;refine Zm ?_;refine av.start ?_;refine bk (fun hcx=>aa.ak 2 rfl rfl Tryz.underlying105 rfl (by kernel_rfl)) ?_;refine Zn (fun hcx=>aa.an rfl rfl Tryz.underlying9 rfl k1 rfl) ?_;refine av.bj rfl rfl rfl rfl rfl rfl rfl (fun hcx=>Ze Tryz.func132) (fun hcx=>nV nm _ HB1 hnl) ?_;intro w4 hw4;replace bel:=bel.step hw4;replace k1:=k1.step hw4;refine Zn (fun hcx=>aa.not rfl rfl) ?_;refine eG ?_;refine du 0 1 2 10 12 21 31 46 56 (Zt ?_);refine Cd.cond rfl (fun h=> ?_) (fun h=> ?_)
      ·skip
       refine aj ?_;refine Za ?_;refine du 0 1 2 10 12 21 31 46 56 (Zt (Cd.ret (ab.ah (ab.af ?_))));refine aX ?_;simp at h;rw[hbf (by rintro⟨-,h2,-,-,-,h6⟩;rcases h with h|h;omega;(rw[h6 ho3] at h;cases h))];exact⟨rfl,bel⟩
      ·simp at h
       refine Cd.skip (ab.ai ?_);exact ab.join () ⟨rfl,trivial⟩ ⟨iw (by omega) (.inl (by omega)) (.inr ho3) (by omega) (by omega) (fun _=>h.2),bel,k1⟩
     ·skip
      refine aj ?_;refine Zf 1 Tryz.underlying105 ?_;refine ZL Tryz.underlying2 k1 ?_;refine kL ?_;refine Zm ?_;refine av.start ?_;refine bk (fun hcx=>aa.ak 2 rfl rfl Tryz.underlying105 rfl (by kernel_rfl)) ?_;refine Zn (fun hcx=>aa.an rfl rfl Tryz.underlying9 rfl k1 rfl) ?_;refine Zn (fun hcx=>aa.ku (b:=[]) rfl rfl rfl HB1 HB2) ?_;refine eG ?_;refine du 0 1 2 10 12 20 21 31 46 (Zt ?_);refine Cd.cond rfl (fun h=> ?_) (fun h=> ?_)
      ·skip
       refine aj ?_;refine Za ?_;refine du 0 1 2 10 12 20 21 31 46 (Zt (Cd.ret (ab.ah (ab.af ?_))));refine aX ?_;simp at h;rw[hbf (by rintro⟨-,h2,h3,-⟩;rcases h with h|h;omega;(rcases h3 with h3|h3;exact h h3;omega))];exact⟨rfl,bel⟩
      ·simp at h
       refine Cd.skip (ab.ai ?_);exact ab.join () ⟨rfl,trivial⟩ ⟨iw (by omega) (.inl (by omega)) (.inl h.2) (by omega) (by omega) (by omega),bel,k1⟩
  clear bel k1;rintro⟨⟩ wr ⟨hh,bel,k1⟩;rw[hh,Bool.true_and] at hbt;rw[hbt];clear hbf;refine Cd.seq (aj ?_);refine Za ?_;refine dM 1 3 (Zt (Cd.block ?_))
  refine Cd.loop (σ:=Nat) (fun j=>[(1, .pointer (some ⟨g1,0,none⟩)),(3, .int .i64 (j:Int))])
   (fun j wr=>j≤k∧(∀x∈e.args.take j,bF x=true)∧Below w.heap.size w wr∧aH wr g1 105 #[.int .i64 op, .int .i64 n, .string (strOf nm), .slice A k c]) (fun j=>k-j) 0 ⟨Nat.zero_le _,by simp,bel,k1⟩ ⟨rfl,rfl,trivial⟩ ?_
  clear bel k1;rintro j wr ⟨hj,hall,bel,k1⟩;refine Cd.seq (aj ?_);refine Zm ?_;refine Zf 3 Tryz.underlying105 ?_;refine ZL Tryz.underlying68 k1 ?_;refine Zv (aa.len rfl rfl Tryz.underlying68) ?_;refine ff ?_;refine bu 1 3 61 (Zt ?_);refine Cd.au rfl (fun hc=> ?_) (fun hc=> ?_)
  ·obtain⟨x,hx⟩:∃x,e.args[j]? =some x:=⟨_,List.getElem?_eq_getElem (show j<e.args.length by omega)⟩
   obtain⟨ad,A',c',rfl,hbl,hrx,hc⟩:=hv.arg j x hx;have hxm:=List.mem_of_getElem? hx;have hxn:=Ex.fK hxm;have hc:=fun i u hj=>((bel.mono hB).cell (p:=(ad.add (j*4)).add i) (by rw[ag,ag];exact hbl)).trans (hc i u hj);have htk:e.args.take (j+1)=e.args.take j++[x]:=by rw[List.take_add_one,hx];rfl
   have hrec:=ih x B _ wr (by omega) (hrx.below (bel.mono hB)) (Nat.le_trans hB bel.size);refine Cd.skip (aJ (Cd.block (aj ?_)));refine Zf 3 Tryz.underlying105 ?_;refine ZL Tryz.underlying68 k1 ?_;refine Zm ?_;refine Zv (aa.aR rfl rfl rfl Tryz.underlying68 (s:=4) (by kernel_rfl) (j:=j) rfl (by omega)) ?_;refine Zv (aa.bP (ps:=[.int .i64 x.op, .int .i64 x.n, .string (strOf x.name), .slice A' x.args.length c']) rfl rfl Tryz.underlying105 rfl (m:=4) (by kernel_rfl) rfl hc) ?_;refine Zc (Ze Tryz.func92) (hrec) ?_;rintro en w5 ⟨rfl,hb5⟩;refine⟨_,rfl,?_⟩;replace bel:=bel.step hb5;replace k1:=k1.step hb5;refine iC ?_;refine aZ 1 3 61 70 (Zt ?_);refine Cd.cond rfl (fun h=> ?_) (fun h=> ?_)
   ·skip
    refine aj ?_;refine Za ?_;refine aU 1 2 3 61 70 (Zt (Cd.ret (ab.ah (ab.af (ab.aL (ab.ah (ab.af ?_)))))));refine aX ?_;refine⟨aW (aF ?_),bel⟩
    symm
    rw[List.all_eq_false];exact⟨x,hxm,by simpa using h⟩
   ·skip
    refine Cd.skip (ab.ai (dU ?_));refine Zm ?_;refine dt ?_;refine Za ?_;refine aZ 1 3 61 70 ?_;refine ab.round (j+1) ⟨rfl,rfl,trivial⟩ ⟨by omega,fun y hy=> ?_,bel,k1⟩ (by omega);rw[htk] at hy;rcases List.mem_append.1 hy with hy|hy
    ·exact hall y hy
    ·simp at hy
     subst hy
     simpa using h
  ·obtain rfl:j=k:=by omega
   rw[List.take_of_length_le (by omega)] at hall;refine Cd.exit (ab.aA (ab.ay (ab.az (aB ?_))));refine Za ?_;refine aZ 1 2 3 61 (Zt (Cd.ret ?_));refine aX ?_;refine⟨aW (aF ?_),bel⟩
   symm
   rw[List.all_eq_true];exact hall
theorem aa.kV {P:Program}{E:Operand→Option Value}{o:Oper}{w:World}{x:Operand}{T T':TypeId}{p:Int}{r:Nat}(ho:o.op= .convert T T' x)(hx:E x=some (.int .i64 p))(hS:P.underlying T=some (.int .i64))(hT:P.underlying T'=some (.int .u64))(hr:p%18446744073709551616=(r:Int)):aa P E o w (.int .u64 (r:Int)) w:=
 .fJ ho hx hS hT (by rw[IntKind.wrap_u64,hr])
def km (k:Int)(at_:Nat):Nat:=at_-1-(k%18446744073709551616).toNat%at_
theorem tP (k:Int)(w:World):Calls Tryz.prog 89 #[.int .i64 k, .int .i64 0] w fun e w'=>e= .returned (.int .i64 (-1))∧Grow w w':=by
 have bel:=Below.refl w.heap.size w;refine Zs 16 Tryz.func89 ?_;refine aj ?_;refine Za ?_;refine bu 0 1 4 (aJ (aj ?_));refine Zm ?_;refine bq ?_;refine aZ 0 1 4 6 (Zt ?_);refine Cd.aY rfl rfl ?_;refine aj ?_;refine Za ?_;refine aZ 0 1 4 6 (Zt (Cd.ret (ab.af ?_)));refine aX ?_;exact⟨rfl,bel⟩
theorem ub (k:Int)(at_:Nat)(w:World)(h0:0<at_)(h1:at_≤1000):Calls Tryz.prog 89 #[.int .i64 k, .int .i64 (at_:Int)] w fun e w'=>e= .returned (.int .i64 (km k at_:Int))∧Grow w w':=by
 have bel:=Below.refl w.heap.size w;obtain⟨u,hu⟩:∃u:Nat,k%18446744073709551616=(u:Int):=⟨(k%18446744073709551616).toNat,by omega⟩;obtain⟨m,hm⟩:∃m,m=u%at_:=⟨_,rfl⟩;have hml:m<at_:=by rw[hm];exact Nat.mod_lt _ h0
 have he:km k at_=at_-1-m:=by unfold km;rw[hu,hm,Int.toNat_natCast]
 rw[he];refine Zs 16 Tryz.func89 ?_;refine aj ?_;refine Za ?_;refine bu 0 1 4 (aJ (aj ?_));refine Zm ?_;refine bq ?_;refine aZ 0 1 4 6 (Zt ?_);refine Cd.aS rfl (decide_eq_false (by omega)) ?_;refine Cd.skip (aB ?_);refine Zm ?_;refine rF ?_;refine Zm ?_;refine Zv (aa.kV (r:=u) rfl rfl Tryz.underlying3 Tryz.underlying37 hu) ?_;refine Zm ?_;refine Zv (aa.kV (r:=at_) rfl rfl Tryz.underlying3 Tryz.underlying37 (by omega)) ?_;refine Zv ((aa.mH rfl rfl rfl (by omega) (by omega)).cast (v':= .int .u64 (m:Int)) (int_eq (by rw[hm];exact(Int.natCast_emod _ _).symm))) ?_;refine Zv (aa.fJ rfl rfl Tryz.underlying37 Tryz.underlying3 (iR (by omega) (by omega))) ?_;refine rF ?_;refine Za ?_;refine aZ 0 1 4 6 (Zt (Cd.ret ?_));refine aX ?_;exact⟨aW (int_eq (by omega)),bel⟩
def eZ (n d:Int):Int × Int:=if 1000≤n∨1000≤d then(1000,1000) else(n,d)
theorem uo (n d:Int)(w:World):Calls Tryz.prog 90 #[.int .i64 n, .int .i64 d] w fun e w'=>e= .returned (.tuple #[.int .i64 (eZ n d).1, .int .i64 (eZ n d).2])∧Grow w w':=by
 have bel:=Below.refl w.heap.size w;refine Zs 14 Tryz.func90 ?_;refine aj ?_;refine Za ?_;refine Za ?_;refine aZ 0 1 4 5 (aJ (aj ?_));refine Zm ?_;refine mz ?_;refine Zm ?_;refine av.start ?_;refine bk (fun hcx=>aa.move rfl rfl) ?_;refine Zn (fun hcx=>aa.geq rfl rfl rfl) ?_;refine eG ?_;refine aU 0 1 4 5 11 (Zt ?_);refine Cd.cond rfl (fun h=> ?_) (fun h=> ?_)
 ·simp at h
  refine aj ?_;refine Za ?_;refine Za ?_;refine aU 0 1 4 5 11 (Zt (Cd.ret (ab.af ?_)));refine dO ?_;unfold eZ;rw[if_pos h];exact⟨rfl,bel⟩
 ·simp at h
  refine Cd.skip (aB ?_);refine Zm ?_;refine Zm ?_;refine Za ?_;refine Za ?_;refine aU 0 1 4 5 11 (Zt (Cd.ret ?_));refine dO ?_;unfold eZ;rw[if_neg (by omega)];exact⟨rfl,bel⟩
structure db (w:World)(T:List Nat)(es:List Ex)(vs:List Value):Prop where
 len:vs.length=es.length
 lt:∀b∈T,b<w.heap.size
 rep:∀(i:Nat) (e:Ex) (v:Value),es[i]? =some e→vs[i]? =some v→cr w (· ∈T) e v
section
variable {w w':World} {T:List Nat} {es:List Ex} {vs:List Value}
theorem db.bN (h:db w T es vs)(hs:w.heap.size≤w'.heap.size)(hb:∀b∈T,w'.heap[b]? =w.heap[b]?):db w' T es vs:=
 ⟨h.len,fun b hm=>Nat.lt_of_lt_of_le (h.lt b hm) hs,fun i e v he hv=>(h.rep i e v he hv).mono (fun _ h=>h) (fun p hp=>World.cell?_of_block (hb p.block hp))⟩
theorem db.step (h:db w T es vs)(hb:Below w.heap.size w w'):db w' T es vs:=h.bN hb.size (fun b hm=>hb.block b (h.lt b hm))
theorem db.grown {row:Option Nat}(h:db w T es vs)(hg:w.grownBy w' row)(hne:∀b,row=some b→b∉T):db w' T es vs:=h.bN hg.size (fun b hm=>hg.block b (h.lt b hm) (fun e=>hne b e.symm hm))
theorem db.nil (w:World):db w [] [] []:=⟨rfl,fun b h=>(by cases h),fun i e v h=>by cases h⟩
theorem db.cells (h:db w T es vs):nO 4 vs:=by
 have:∀v∈vs,v.cells.size=4:=fun v hv=>by
  obtain⟨k,hk,rfl⟩:=List.getElem_of_mem hv;obtain⟨z,hz⟩:∃z,es[k]? =some z:=⟨_,List.getElem?_eq_getElem (by have:=h.len;omega)⟩;exact(h.rep k z _ hz (List.getElem?_eq_getElem hk)).kN
 clear h
 induction vs with
 |nil=>trivial
 |cons v r ih=>exact⟨this v List.mem_cons_self,ih (fun u hu=>this u (List.mem_cons_of_mem _ hu))⟩
end
theorem Own.lQ {w w':World}{B size n:Nat}{e:TypeId}{v:Value}{xs:List Value}{row:Option Nat}(h:Own w B e size v n xs)(hg:w.grownBy w' row)(hne:∀b,v.ownBlock=some b→row≠some b):Own w' B e size v n xs:=by
 refine⟨h.row.kept hg ?_⟩
 cases hv:v.ownBlock with
 |none=>exact .inl rfl
 |some b=>exact .inr fun e'=>hne b hv e'.symm
theorem Own.aI {w:World}{B size n:Nat}{e:TypeId}{v:Value}{xs:List Value}(h:Own w B e size v n xs):∀b,v.ownBlock=some b→B≤b∧b<w.heap.size:=fun b hb=>by
 obtain⟨h1,h2⟩:=h.row;rcases h2 with ⟨rfl,-⟩|⟨g',cap,cur,rfl,e2,e3,e4⟩
 ·cases hb
 ·injection hb with hb
  subst hb;exact⟨e2,(show aH w g' e cur from e3).lt⟩
section
variable {P:Program} {ops:Array Oper} {Q:Exit→Act→World→Prop} {rest:List Oper} {o:Oper} {n d:Nat} {F:List (Nat × Value)} {w:World} {v:Value} {x y:Operand}
theorem Seq.eI {t e B B2 size b k m c:Nat}{A:Option Addr}{z:Value}{xs news:List Value}(ho:o.op= .call {callee:= .builtin .append,args:= #[x,y],argTypes:= #[t,t]}) (hx:eO F x=some v) (hy:eO F y=some (.slice A m c)) (ht:P.underlying t=some (.slice e)) (hs:dh P e size=true) (hz:bz P e=some (some z)) (hzs:z.cells.size=size) (hsz:0<size) (hby:(P.info? e).map (·.bytes)=some b)
  (hown:Own w B e size v k xs) (hr:Reads w B2 size A m news) (h1:∀u∈news,u.oneCell'=true) (hB:B≤w.heap.size) (h63:k+m≤maxLen) (hbytes:(k+m)*b≤140737488355328) (hg:o.guard=none) (hd:o.dst=some d) (hn:Nat.blt d n=true)
  (h:∀v' w',Own w' B e size v' (k+m) (xs++news)→App w w' B v→(v'.ownBlock=v.ownBlock∨v'.ownBlock=some w.heap.size)→Seq P ops Q rest n ((d,v')::F) w'):Seq P ops Q (o::rest) n F w:=by
 obtain⟨i,hi,hisz⟩:=bB hs;have hz':i.zero=some z:=by unfold bz at hz;rw[hi] at hz;injection hz
 have hb':i.bytes=b:=by rw[hi] at hby;injection hby
 obtain⟨v',w',hrun,h2,h3,h4⟩:=kK (P:=P) w B t o.type e i z size b ht hi hz' hisz hb' hzs hsz v k xs hown.row B2 A m c news hr h1 h63 hbytes hB;refine Seq.val (v:=v') (w':=w') (fun ρ hρ=> ?_) hg hd hn (h v' w' ⟨h2⟩ ⟨?_,h3⟩ h4)
 ·unfold execOp
  simp only[ho,resolve,invoke,builtin,Sem.run_bind,Sem.run_pure,Result.andThen_ok,List.map_toArray,List.map_cons,List.map_nil,hρ _ _ hx,hρ _ _ hy,hrun]
 ·refine⟨h3.os,h3.tape,h3.output,h3.size,fun j hj=>h3.block j (by omega) fun e'=> ?_⟩
  rcases hown.row.2 with ⟨rfl,_⟩|⟨g,cap,cur,rfl,hBg,_⟩
  ·cases e'
  ·injection e' with e'
   have:j=g:=e';omega
end
structure Lf where
 op:Int
 n:Int
 name:List Nat
 kids:List Int
structure Lf.kh (x:Lf):Prop where
 op:bw x.op
 n:bw x.n
 name:∀d∈x.name,d<256
 pU:x.name.length≤9223372036854775807
def cj (e:Ex):Int:=(eZ (e.nodes:Int) (e.depth:Int)).1
def cu (e:Ex):Int:=(eZ (e.nodes:Int) (e.depth:Int)).2
def jf:List Ex→Int
 | []=>0
 |e::r=>cj e+jf r
def maxD:List Ex→Int
 | []=>0
 |e::r=>max (cu e) (maxD r)
theorem sy (l:List Ex)(e:Ex):jf (l++[e])=jf l+cj e:=by
 induction l with
 |nil=>show cj e+0=0+cj e;omega
 |cons x r ih=>show cj x+jf (r++[e])=cj x+jf r+cj e;omega
theorem ju (e:Ex):0≤cj e∧cj e≤1000∧0≤cu e∧cu e≤1000:=by
 unfold cj cu eZ;split<;>omega
theorem gC (l:List Ex):0≤maxD l∧maxD l≤1000:=by
 induction l with
 |nil=>exact⟨Int.le_refl _,by decide⟩
 |cons x r ih=>have:=ju x;show 0≤max (cu x) (maxD r)∧max (cu x) (maxD r)≤1000;omega
theorem r5 (l:List Ex)(e:Ex):maxD (l++[e])=max (maxD l) (cu e):=by
 induction l with
 |nil=>have:=ju e;show max (cu e) 0=max 0 (cu e);omega
 |cons x r ih=>show max (cu x) (maxD (r++[e]))=max (max (cu x) (maxD r)) (cu e);omega
theorem gA (l:List Ex):0≤jf l∧jf l≤1000*(l.length:Int):=by
 induction l with
 |nil=>exact⟨Int.le_refl _,by decide⟩
 |cons x r ih=>
  have:=ju x;have h:jf (x::r)=cj x+jf r:=rfl;rw[h,List.length_cons];omega
theorem AZ (l:List Ex):(jf l=(bC l:Int)∧maxD l=(bD l:Int))∨(1000≤jf l∧1000≤bC l):=by
 induction l with
 |nil=>exact .inl ⟨rfl,rfl⟩
 |cons x r ih=>
  have hb:=gA r;have hz:=ju x;have h1:jf (x::r)=cj x+jf r:=rfl;have h2:maxD (x::r)=max (cu x) (maxD r):=rfl;have h3:bC (x::r)=x.nodes+bC r:=by rw[bC]
  have h4:bD (x::r)=max x.depth (bD r):=by rw[bD]
  have hd:=x.bh;rw[h1,h2,h3,h4];rcases ih with ⟨e1,e2⟩|⟨e1,e2⟩
  ·by_cases hbig:1000≤(x.nodes:Int)∨1000≤(x.depth:Int)
   ·have:cj x=1000:=by unfold cj eZ;rw[if_pos hbig]
    right
    omega
   ·have g1:cj x=x.nodes:=by unfold cj eZ;rw[if_neg hbig]
    have g2:cu x=x.depth:=by unfold cu eZ;rw[if_neg hbig]
    left
    omega
  ·right;omega
theorem CG (op n:Int)(nm:List Nat)(l:List Ex):eZ (1+jf l) (1+maxD l)=(cj (.mk op n nm l),cu (.mk op n nm l)):=by
 have hn:=Ex.fR op n nm l;have hd:=Ex.ei op n nm l;have hdn:=eD l;have hm:=gC l;unfold cj cu;rw[hn,hd];rcases AZ l with ⟨e1,e2⟩|⟨e1,e2⟩
 ·rw[e1,e2,Int.natCast_add,Int.natCast_add];rfl
 ·unfold eZ
  rw[if_pos (by omega),if_pos (by omega)]
def bL (es:List Ex)(ks:List Int):List Ex:=ks.filterMap fun k=>if es.length=0 then none else es[km k es.length]?
theorem tL (k:Int){n:Nat}(h:0<n):km k n<n:=by unfold km;omega
theorem qA (es:List Ex)(ks:List Int)(k:Int)(h:es.length=0):bL es (ks++[k])=bL es ks:=by
 unfold bL;rw[List.filterMap_append];simp[h]
theorem qm (es:List Ex)(ks:List Int)(k:Int)(e:Ex)(h:es[km k es.length]? =some e):bL es (ks++[k])=bL es ks++[e]:=by
 unfold bL;have h0:¬es.length=0:=fun h0=>by rw[List.eq_nil_of_length_eq_zero h0] at h;cases h
 rw[List.filterMap_append];simp only[h0,if_false];rw[List.filterMap_cons,h];rfl
theorem gZ (es:List Ex)(ks:List Int):(bL es ks).length≤ks.length:=List.length_filterMap_le _ _
theorem sk {es:List Ex}{ks:List Int}{e:Ex}(h:e∈bL es ks):e∈es:=by
 unfold bL at h;obtain⟨k,-,hk⟩:=List.mem_filterMap.1 h;split at hk
 ·cases hk
 ·exact List.mem_of_getElem? hk
def uC (es:List Ex)(x:Lf):Ex:= .mk x.op x.n x.name (bL es (x.kids.take 5))
def tM (es:List Ex)(x:Lf):List Ex:=es++[uC es x]
def cg (ls:List Lf):List Ex:=ls.foldl tM []
theorem tu (ls:List Lf)(x:Lf):cg (ls++[x])=cg ls++[uC (cg ls) x]:=by
 unfold cg;rw[List.foldl_append];rfl
theorem ib (ls:List Lf):(cg ls).length=ls.length:=by
 have:∀(r:List Lf) (es:List Ex),(r.foldl tM es).length=es.length+r.length:=by
  intro r
  induction r with
  |nil=>intro es;rfl
  |cons x r ih=>intro es;rw[List.foldl_cons,ih];simp[tM];omega
 have h:=this ls []
 simpa[cg] using h
theorem sw {l:List Ex}{m:Nat}(h:∀e∈l,e.depth≤m):bD l≤m:=by
 induction l with
 |nil=>exact Nat.zero_le _
 |cons x r ih=>
  rw[bD];have:=h x List.mem_cons_self;have:=ih fun e he=>h e (List.mem_cons_of_mem _ he);omega
theorem rn (ls:List Lf):∀e∈cg ls,e.depth≤ls.length:=by
 have key:∀(r:List Lf) (es:List Ex) (m:Nat),(∀e∈es,e.depth≤m)→∀e∈r.foldl tM es,e.depth≤m+r.length:=by
  intro r
  induction r with
  |nil=>intro es m h e he;exact h e he
  |cons x r ih=>
   intro es m h e he;rw[List.foldl_cons] at he
   have:=ih (tM es x) (m+1) (fun e he=>by
    rcases List.mem_append.1 he with he|he
    ·have:=h e he;omega
    ·obtain rfl:=List.mem_singleton.1 he
     have:=sw (fun e he=>h e (sk he):∀e∈bL es (x.kids.take 5),e.depth≤m);unfold uC;rw[Ex.ei];omega) e he
   rw[List.length_cons];omega
 intro e he;have:=key ls [] 0 (by simp) e he;omega
def DI (l:List Int):List Value:=l.map fun z=> .int .i64 z
theorem lx (l:List Int):(DI l).length=l.length:=by simp[DI]
theorem fF (l:List Int)(k:Nat):(DI l)[k]? =l[k]?.map (Value.int .i64):=by simp[DI]
theorem ln (a b:List Int):DI (a++b)=DI a++DI b:=by simp[DI]
theorem bO (a b:List Value):ax (a++b)=ax a++ax b:=by
 induction a with
 |nil=>rfl
 |cons v r ih=>show v.cells.toList++ax (r++b)=(v.cells.toList++ax r)++ax b;rw[ih,List.append_assoc]
def qW (w:World)(B:Nat)(A:Option Addr)(xs:List Lf):Prop:=∀i x,xs[i]? =some x→∃ad A' c,A=some ad∧ad.block<B∧Reads w B 1 A' x.kids.length (DI x.kids)∧∀(j:Nat) (u:Value),([.int .i64 x.op, .int .i64 x.n, .string (strOf x.name), .slice A' x.kids.length c]:List Value)[j]? =some u→w.cell? ((ad.add (i*4)).add j)=some u
theorem qW.below {w w':World}{B:Nat}{A:Option Addr}{xs:List Lf}(h:qW w B A xs)(hb:Below B w w'):qW w' B A xs:=fun i x hx=>by
 obtain⟨ad,A',c,e1,e2,e3,e4⟩:=h i x hx;exact⟨ad,A',c,e1,e2,e3.below hb,fun j u hu=>(hb.cell (by rw[ag,ag];exact e2)).trans (e4 j u hu)⟩
def dv (v:Value):List Nat:=v.ownBlock.toList
theorem ct {v:Value}{b:Nat}:b∈dv v↔v.ownBlock=some b:=by
 unfold dv;cases v.ownBlock<;>simp[eq_comm]
theorem db.more {w:World}{T:List Nat}{es args:List Ex}{vs avs:List Value}{B:Nat}{o n:Int}{nm:List Nat}{vA:Value}(h:db w T es vs)(hl:avs.length=args.length)(dX:args.length≤1000)(hop:bw o)(hn:bw n)(hnm:∀d∈nm,d<256)(hnl:nm.length≤9223372036854775807)
  (hr:∀(i:Nat) (e:Ex) (v:Value),args[i]? =some e→avs[i]? =some v→cr w (· ∈T) e v) (hA:Own w B 105 4 vA args.length (ax avs)):
  db w (dv vA++T) (es++[.mk o n nm args]) (vs++[.agg #[.int .i64 o, .int .i64 n, .string (strOf nm),vA]]):=by
 obtain⟨A,c,hv,hrd⟩:=hA.reads;have hbl:=hA.aI;refine⟨by rw[List.length_append,List.length_append,h.len];rfl,fun b hm=> ?_,fun i e v he hvi=> ?_⟩
 ·rcases List.mem_append.1 hm with hm|hm
  ·exact(hbl b (ct.1 hm)).2
  ·exact h.lt b hm
 ·rcases Nat.lt_or_ge i es.length with hi|hi
  ·rw[List.getElem?_append_left hi] at he
   rw[List.getElem?_append_left (by rw[h.len];exact hi)] at hvi;exact(h.rep i e v he hvi).mono (fun b hb=>List.mem_append_right _ hb) (fun _ _=>rfl)
  ·rw[List.getElem?_append_right hi] at he
   rw[List.getElem?_append_right (by rw[h.len];exact hi),h.len] at hvi
   have h0:i-es.length=0:=by
    have:=(List.getElem?_eq_some_iff.1 he).1;simp at this;exact this
   rw[h0] at he hvi;injection he with he
   injection hvi with hvi
   subst he hvi;subst hv;refine .mk hl dX hop hn hnm hnl (fun i e v he hv=>(hr i e v he hv).mono (fun b hb=>List.mem_append_right _ hb) (fun _ _=>rfl)) fun hne=> ?_
   have hpos:0<args.length:=by
    rcases Nat.eq_zero_or_pos args.length with h0|h0
    ·have:avs=[]:=List.eq_nil_of_length_eq_zero (by omega)
     rw[this] at hne;exact absurd rfl hne
    ·exact h0
   obtain⟨ad,rfl,-,hc⟩:=hrd.2 hpos;exact⟨ad,rfl,List.mem_append_left _ (ct.2 rfl),hc⟩
theorem pK (k:Int)(i:Nat)(w:World)(h:i≤1000):Calls Tryz.prog 89 #[.int .i64 k, .int .i64 (i:Int)] w fun e w'=>(∃z,e= .returned (.int .i64 z)∧((i=0∧z= -1)∨(0<i∧z=(km k i:Int))))∧Grow w w':=by
 rcases Nat.eq_zero_or_pos i with rfl|h0
 ·exact(tP k w).mono fun e w' h=>⟨⟨_,h.1, .inl ⟨rfl,rfl⟩⟩,h.2⟩
 ·exact(ub k i w h0 h).mono fun e w' h=>⟨⟨_,h.1, .inr ⟨h0,rfl⟩⟩,h.2⟩
theorem E7 (n d:Int)(l:List Ex)(op m:Int)(nm:List Nat)(w:World)(hn:n=1+jf l)(hd:d=1+maxD l):Calls Tryz.prog 90 #[.int .i64 n, .int .i64 d] w fun e w'=>e= .returned (.tuple #[.int .i64 (cj (.mk op m nm l)), .int .i64 (cu (.mk op m nm l))])∧Grow w w':=by
 have h:=uo n d w;subst hn hd;rw[CG op m nm l] at h;exact h
theorem qE (w:World):(Instr.build 98 #[]).run Tryz.prog w= .ok (.agg #[.slice none 0 0, .slice none 0 0, .slice none 0 0, .slice none 0 0, .slice none 0 0, .slice none 0 0]) w:=by kernel_rfl
theorem s6 (a b:Int)(s:List Nat)(w:World):(Instr.build 105 #[(0, .int .i64 a),(1, .int .i64 b),(2, .string (strOf s))]).run Tryz.prog w= .ok (.agg #[.int .i64 a, .int .i64 b, .string (strOf s), .slice none 0 0]) w:=by
 have hu:=Tryz.underlying105
 go_simp
theorem dH:bz Tryz.prog 98=some (some (.agg #[.slice none 0 0, .slice none 0 0, .slice none 0 0, .slice none 0 0, .slice none 0 0, .slice none 0 0])):=by kernel_rfl
theorem jk:bz Tryz.prog 150=some (some (.agg #[.int .i64 0, .int .i64 0, .string {data:= #[]}, .slice none 0 0])):=by kernel_rfl
theorem Own.app {B B2 B' n n2 size size2:Nat}{w w':World}{e e2:TypeId}{v v2:Value}{xs xs2:List Value}(h:Own w B e size v n xs)(o:Own w B2 e2 size2 v2 n2 xs2)(ha:App w w' B' v2)(hne:e2≠e:=by decide):Own w' B e size v n xs:=by
 refine⟨h.row.kept ha.grown ?_⟩;obtain⟨h1,h2⟩:=h.row;rcases h2 with ⟨rfl,-⟩|⟨g',cap,cur,rfl,e2,e3,e4⟩
 ·exact .inl rfl
 ·exact .inr fun e'=>bR o.row (show aH w g' e cur from e3) hne e'.symm
theorem aH.app {k n B B' size:Nat}{w w':World}{t e:TypeId}{cs:Array Value}{v:Value}{xs:List Value}(h:aH w k t cs)(o:Own w B e size v n xs)(ha:App w w' B' v)(hne:e≠t:=by decide):aH w' k t cs:=h.grown ha.grown (fun e'=>bR o.row h hne e'.symm)
theorem db.put {w w':World}{T:List Nat}{es:List Ex}{vs:List Value}{g B:Nat}{t:TypeId}{cur cs:Array Value}(h:db w T es vs)(_k:aH w g t cur)(p:hZ w w' g t cs)(_e:B≤g)(hne:g∉T:=by assumption):db w' T es vs:=
 h.grown p.grown fun b e=>by injection e with e;exact e▸hne
def iK (v:Value)(T:List Nat):Prop:=∀b,v.ownBlock=some b→b∉T
theorem iK.more {v vA:Value}{T:List Nat}{N:Nat}(h:iK v T)(hlt:∀b,v.ownBlock=some b→b<N)(hA:∀b,vA.ownBlock=some b→N≤b):iK v (dv vA++T):=fun b hb hm=>by
 rcases List.mem_append.1 hm with hm|hm
 ·have:=hlt b hb;have:=hA b (ct.1 hm);omega
 ·exact h b hb hm
theorem iK.app {v v':Value}{T:List Nat}{N:Nat}(h:iK v T)(hlt:∀b∈T,b<N)(hv:v'.ownBlock=v.ownBlock∨v'.ownBlock=some N):iK v' T:=fun b hb hm=>by
 rcases hv with hv|hv
 ·exact h b (hv▸hb) hm
 ·rw[hv] at hb;injection hb with hb;subst hb;exact Nat.lt_irrefl _ (hlt _ hm)
theorem db.app {w w':World}{T:List Nat}{es:List Ex}{vs:List Value}{B:Nat}{v:Value}(h:db w T es vs)(hv:iK v T)(ha:App w w' B v):db w' T es vs:=h.grown ha.grown fun b e=>hv b e
def AI (v u:Value):Prop:=∀b,v.ownBlock=some b→u.ownBlock≠some b
theorem AI.symm {v u:Value}(h:AI v u):AI u v:=fun b hb hv=>h b hv hb
theorem AI.app {v u u':Value}{N:Nat}(h:AI v u)(hlt:∀b,v.ownBlock=some b→b<N)(hu:u'.ownBlock=u.ownBlock∨u'.ownBlock=some N):AI v u':=fun b hb hm=>by
 rcases hu with hu|hu
 ·exact h b hb (hu▸hm)
 ·rw[hu] at hm;injection hm with hm;subst hm;exact Nat.lt_irrefl _ (hlt _ hb)
structure DH (w:World)(B:Nat)(es:List Ex)(AE AN AD:Option Addr):Prop where
 expr:∀i e,es[i]? =some e→∃ad A' c',AE=some ad∧ad.block<B∧lE w B e (.agg #[.int .i64 e.op, .int .i64 e.n, .string (strOf e.name), .slice A' e.args.length c'])∧∀(j:Nat) (u:Value),([.int .i64 e.op, .int .i64 e.n, .string (strOf e.name), .slice A' e.args.length c']:List Value)[j]? =some u→w.cell? ((ad.add (i*4)).add j)=some u
 nodes:Reads w B 1 AN es.length (DI (es.map cj))
 Cy:Reads w B 1 AD es.length (DI (es.map cu))
def dc (e:Ex):Bool:=decide (e.nodes≤200)&&decide (e.depth≤16)&&bF e
theorem CJ (e:Ex):((decide (cj e≤200)&&decide (cu e≤16))&&bF e)=dc e:=by
 have hdn:=e.bh;unfold dc;congr 1;rw[Bool.eq_iff_iff];simp only[Bool.and_eq_true,decide_eq_true_eq];unfold cj cu eZ;split<;>constructor<;>intro h<;>dsimp only at * <;>omega
def vK (y:Int):Int:=if lH y then 366 else 365
theorem uh:iT 1970 1 1=0:=by decide
theorem xE:iT 10000 1 1=2932897:=by decide
theorem nI (y:Int):lH y=true↔y%4=0∧(y%100≠0∨y%400=0):=by unfold lH;simp
theorem pF (y:Int):iT y 1 1=(y-1)/400*146097+((y-1)%400*365+(y-1)%400/4-(y-1)%400/100+306)-719468:=by
 unfold iT rR ofM;rw[if_pos (by omega),if_pos (by omega)];omega
theorem xR (y:Int):iT (y+1) 1 1=iT y 1 1+vK y:=by
 rw[pF,pF];have hl:=nI y;unfold vK;rw[Int.add_sub_cancel]
 generalize hr:(y-1)%400=r
 generalize hq:(y-1)/400=q
 obtain rfl:y=400*q+r+1:=by omega
 have hr1:0≤r∧r<400:=by omega
 split
 ·rename_i h
  have:=hl.1 h
  by_cases h4:r=399
  ·subst h4;omega
  ·rw[show(400*q+r+1)/400=q by omega,show(400*q+r+1)%400=r+1 by omega];omega
 ·rename_i h
  have:¬((400*q+r+1)%4=0∧((400*q+r+1)%100≠0∨(400*q+r+1)%400=0)):=fun h2=>h (hl.2 h2)
  by_cases h4:r=399
  ·subst h4;omega
  ·rw[show(400*q+r+1)/400=q by omega,show(400*q+r+1)%400=r+1 by omega];omega
theorem Aa (y m d:Int):iT y m d=iT y m 1+d-1:=by unfold iT;omega
theorem qo (y m:Int)(h1:1≤m)(h2:m≤11):iT y (m+1) 1=iT y m 1+cq y m:=by
 rcases(show m=1∨m=2∨m=3∨m=4∨m=5∨m=6∨m=7∨m=8∨m=9∨m=10∨m=11 by omega) with rfl|rfl|rfl|rfl|rfl|rfl|rfl|rfl|rfl|rfl|rfl
 case inr.inl=>
  have:=xR y;rw[pF,pF] at this;unfold vK at this;unfold iT rR ofM cq;split at this<;>rename_i h<;>simp[h] at this⊢ <;>omega
 all_goals
  unfold iT rR ofM cq;simp
  try omega
theorem wE (y:Int):iT (y+1) 1 1=iT y 12 1+31:=by
 rw[pF];unfold iT rR ofM;simp;omega
theorem yS (y m:Int):0≤cq y m:=by
 unfold cq;split
 ·split<;>omega
 ·split
  ·omega
  ·split<;>omega
theorem zC (y:Int):∀(k:Nat) (m:Int),1≤m→m+k≤12→iT y m 1≤iT y (m+k) 1:=by
 intro k
 induction k with
 |zero=>intro m _ _;simp
 |succ k ih=>
  intro m h1 h2;have h3:=ih m h1 (by omega);have h4:=qo y (m+k) (by omega) (by omega);have h5:=yS y (m+k);rw[show m+((k+1:Nat):Int)=m+k+1 by omega];omega
theorem oZ {y m m':Int}(h1:1≤m)(h2:m≤m')(h3:m'≤12):iT y m 1≤iT y m' 1:=by
 have:=zC y (m'-m).toNat m h1 (by omega)
 rwa [show m+((m'-m).toNat:Int)=m' by omega] at this
theorem zK (y:Int):365≤vK y:=by unfold vK;split<;>omega
theorem ze:∀(k:Nat) (y:Int),iT y 1 1≤iT (y+k) 1 1:=by
 intro k
 induction k with
 |zero=>intro y;simp
 |succ k ih=>
  intro y;have h1:=ih y;have h2:=xR (y+k);have h3:=zK (y+k);rw[show y+((k+1:Nat):Int)=y+k+1 by omega];omega
theorem oS {y y':Int}(h:y≤y'):iT y 1 1≤iT y' 1 1:=by
 have:=ze (y'-y).toNat y
 rwa [show y+((y'-y).toNat:Int)=y' by omega] at this
theorem Da {y m d:Int}(h:kT y m d=true):1970≤y∧y≤9999∧1≤m∧m≤12∧1≤d∧d≤cq y m∧iT y 1 1≤iT y m d∧iT y m d<iT (y+1) 1 1∧0≤iT y m d∧iT y m d≤2932896:=by
 unfold kT at h;simp at h;obtain⟨⟨⟨h1,h2⟩,h3⟩,h4⟩:=h;obtain⟨h5,h6,-⟩:=oV (y:=y) (m:=m) (by omega);have a1:=oZ (y:=y) (m:=1) (m':=m) (by omega) h5 h6;have a2:=Aa y m d
 have a3:iT y m 1+cq y m≤iT (y+1) 1 1:=by
  by_cases hm:m=12
  ·subst hm
   rw[wE];have:cq y 12=31:=by unfold cq;simp
   omega
  ·have b1:=qo y m h5 (by omega)
   have b2:=oZ (y:=y) (m:=m+1) (m':=12) (by omega) (by omega) (by omega);have b3:=wE y;omega
 have a4:=oS (y:=1970) (y':=y) h1;have a5:=oS (y:=y+1) (y':=10000) (by omega);rw[uh] at a4;rw[xE] at a5;exact⟨h1,h2,h5,h6,h3,h4,by omega,by omega,by omega,by omega⟩
def oC (v:Nat):Nat→List Nat
 |0=>[]
 |n+1=>(48+v/10^n%10)::oC v n
theorem Ck (v n:Nat):(oC v n).length=n:=by induction n with
 |zero=>rfl
 |succ n ih=>unfold oC;simp[ih]
theorem tF (v n:Nat):∀x∈oC v n,x<256:=by induction n with
 |zero=>intro x h;cases h
 |succ n ih=>
  intro x h;unfold oC at h;rcases List.mem_cons.1 h with rfl|h
  ·omega
  ·exact ih x h
def mq (y m d:Nat):List Nat:=oC y 4++[45]++oC m 2++[45]++oC d 2
theorem CT {y m d:Int}(h:kT y m d=true):1970≤y∧y≤9999∧1≤m∧m≤12∧1≤d∧d≤31:=by
 obtain⟨h1,h2,h3,h4,h5,h6,-⟩:=Da h;obtain⟨-,-,h7⟩:=oV (y:=y) (m:=m) (by omega);exact⟨h1,h2,h3,h4,h5,by omega⟩
def fE (y:Nat):Nat:=365*y+y/4-y/100+y/400
def gU (e:Nat):Nat:=(e-e/1460+e/36524-e/146096)/365
theorem yx (e:Nat)(h:e+1≤146096):e-e/1460+e/36524-e/146096≤(e+1)-(e+1)/1460+(e+1)/36524-(e+1)/146096:=by omega
theorem zJ (k:Nat):∀e,e+k≤146096→e-e/1460+e/36524-e/146096≤(e+k)-(e+k)/1460+(e+k)/36524-(e+k)/146096:=by
 induction k with
 |zero=>intro e _;exact Nat.le_refl _
 |succ k ih=>intro e h;exact Nat.le_trans (ih e (by omega)) (yx (e+k) (by omega))
theorem r4 {e e':Nat}(h:e≤e')(h1:e'≤146096):gU e≤gU e':=by
 obtain⟨k,rfl⟩:∃k,e'=e+k:=⟨e'-e,by omega⟩;exact Nat.div_le_div_right (zJ k e h1)
def ES (y:Nat):Bool:=Nat.beq (gU (fE y)) y&&Nat.beq (gU (fE (y+1)-1)) y&&Nat.blt (fE y) (fE (y+1))&&Nat.ble (fE (y+1)) 146097
theorem BU:((List.range 20).all fun a=>(List.range 20).all fun b=>ES (20*a+b))=true:=by decide+kernel
theorem xm (y:Nat)(h:y<400):gU (fE y)=y∧gU (fE (y+1)-1)=y∧fE y<fE (y+1)∧fE (y+1)≤146097:=by
 have h1:=List.all_eq_true.1 (List.all_eq_true.1 BU (y/20) (List.mem_range.2 (by omega))) (y%20) (List.mem_range.2 (by omega));rw[show 20*(y/20)+y%20=y by omega] at h1;unfold ES at h1;simp only[Bool.and_eq_true] at h1;obtain⟨⟨⟨a,b⟩,c⟩,d⟩:=h1;exact⟨Nat.eq_of_beq_eq_true a,Nat.eq_of_beq_eq_true b,Nat.le_of_ble_eq_true c,Nat.le_of_ble_eq_true d⟩
theorem zj:fE 400=146097:=by decide+kernel
theorem Ab (e:Nat)(h:e<146097):∃y,y<400∧fE y≤e∧e<fE (y+1):=by
 have key:∀k,k≤400→e<fE k→∃y,y<400∧fE y≤e∧e<fE (y+1):=by
  intro k
  induction k with
  |zero=>intro _ h;exact absurd h (Nat.not_lt_zero _)
  |succ k ih=>
   intro hk he;rcases Nat.lt_or_ge e (fE k) with h1|h1
   ·exact ih (by omega) h1
   ·exact⟨k,by omega,h1,he⟩
 exact key 400 (Nat.le_refl _) (by rw[zj];exact h)
theorem wh (e:Nat)(h:e<146097):gU e<400∧fE (gU e)≤e∧e<fE (gU e+1):=by
 obtain⟨y,h1,h2,h3⟩:=Ab e h;obtain⟨t1,t2,t3,t4⟩:=xm y h1;have a:=r4 h2 (by omega);have b:=r4 (e:=e) (e':=fE (y+1)-1) (by omega) (by omega);have:gU e=y:=by omega
 rw[this];exact⟨h1,h2,h3⟩
def DR (m:Nat):Nat:=[31,30,31,30,31,31,30,31,30,31,31,29].getD m 0
def EG (t:Nat):Bool:=Nat.ble ((5*t+2)/153) 11&&Nat.ble ((153*((5*t+2)/153)+2)/5) t&&Nat.blt (t-(153*((5*t+2)/153)+2)/5) (DR ((5*t+2)/153))&&(!(Nat.beq (t-(153*((5*t+2)/153)+2)/5) 28&&Nat.beq ((5*t+2)/153) 11)||Nat.beq t 365)
theorem By:((List.range 19).all fun a=>(List.range 20).all fun b=>Nat.ble 366 (20*a+b)||EG (20*a+b))=true:=by decide+kernel
theorem nR (t:Nat)(h:t<366):(5*t+2)/153≤11∧(153*((5*t+2)/153)+2)/5≤t∧t-(153*((5*t+2)/153)+2)/5<DR ((5*t+2)/153)∧(t-(153*((5*t+2)/153)+2)/5=28→(5*t+2)/153=11→t=365):=by
 have h1:=List.all_eq_true.1 (List.all_eq_true.1 By (t/20) (List.mem_range.2 (by omega))) (t%20) (List.mem_range.2 (by omega));rw[show 20*(t/20)+t%20=t by omega] at h1
 have h0:Nat.ble 366 t=false:=by
  cases hb:Nat.ble 366 t with
  |false=>rfl
  |true=>have:=Nat.le_of_ble_eq_true hb;omega
 rw[h0,Bool.false_or] at h1;unfold EG at h1;simp only[Bool.and_eq_true] at h1;obtain⟨⟨⟨a,b⟩,c⟩,d⟩:=h1;refine⟨Nat.le_of_ble_eq_true a,Nat.le_of_ble_eq_true b,Nat.le_of_ble_eq_true c,fun e1 e2=> ?_⟩;rw[e1,e2] at d;exact Nat.eq_of_beq_eq_true (by simpa using d)
theorem xq (q y:Nat)(h:lH ((y:Int)+1)=true):lH (((q*400+y:Nat):Int)+1)=true:=by
 rw[nI] at *;omega
theorem zX (q y:Nat)(h:y<400)(mm d:Int):(((q*400+y:Nat):Int))/400*146097+(((q*400+y:Nat):Int)%400*365+((q*400+y:Nat):Int)%400/4-((q*400+y:Nat):Int)%400/100+((153*mm+2)/5+d-1))-719468=q*146097+((y:Int)*365+y/4-y/100)+((153*mm+2)/5+d-1)-719468:=by
 have a1:(((q*400+y:Nat):Int))/400=q:=by omega
 have a2:((q*400+y:Nat):Int)%400=y:=by omega
 rw[a1,a2];omega
theorem sG (y:Nat):fE (y+1)-fE y≤366∧(fE (y+1)-fE y=366→lH ((y:Int)+1)=true):=by
 unfold fE;refine⟨by omega,fun h=> ?_⟩;rw[nI];omega
theorem ua (y:Nat)(h:y<400):(fE y:Int)=(y:Int)*365+y/4-y/100:=by unfold fE;omega
theorem Bd (n q e y t m d:Nat)(hn:n+719468=q*146097+e)(h1:y<400)(h2:fE y≤e)(h3:e<fE (y+1))(ht:t=e-fE y)(hm:m=(5*t+2)/153)(hd:d=t-(153*m+2)/5+1):
  iT (if 10≤m then q*400+y+1 else q*400+y:Nat) (if 10≤m then m-9 else m+3:Nat) d=n∧1≤(if 10≤m then m-9 else m+3)∧(if 10≤m then m-9 else m+3)≤12∧1≤d∧(d:Int)≤cq (if 10≤m then q*400+y+1 else q*400+y:Nat) (if 10≤m then m-9 else m+3:Nat):=by
 obtain⟨l1,l2⟩:=sG y;have hlp:t=365→lH (((q*400+y:Nat):Int)+1)=true:=fun h=>xq q y (l2 (by omega));have hi:=ua y h1;have hsh:=zX q y h1;obtain⟨m1,m2,m3,m4⟩:=nR t (by omega);rw[←hm] at m1 m2 m3 m4
 have hzz:∀mm:Int,mm=m→(q:Int)*146097+((y:Int)*365+y/4-y/100)+((153*mm+2)/5+(d:Int)-1)-719468=n:=by
  rintro mm rfl;rw[←hi];omega
 clear hi l1 l2 h2 h3 hn;obtain⟨yy,hyy⟩:∃yy,yy=q*400+y:=⟨_,rfl⟩;rw[←hyy] at hlp hsh⊢;clear hyy
 by_cases hm10:10≤m
 ·simp only[hm10,if_true]
  refine⟨?_,by omega,by omega,by omega,?_⟩
  ·unfold iT rR ofM
   rw[if_pos (by omega),if_pos (by omega),show(((yy+1:Nat):Int)-1)=(yy:Int) by omega,hsh];exact hzz _ (by omega)
  ·have:m=10∨m=11:=by omega
   rcases this with rfl|rfl
   ·replace m3:t-(153*10+2)/5<31:=m3
    unfold cq;simp;omega
   ·replace m3:t-(153*11+2)/5<29:=m3
    unfold cq;simp;split
    ·omega
    ·rename_i hl
     have:t≠365:=fun h=>hl (hlp h);omega
 ·simp only[hm10,if_false]
  refine⟨?_,by omega,by omega,by omega,?_⟩
  ·unfold iT rR ofM
   rw[if_neg (by omega),if_neg (by omega),hsh];exact hzz _ (by omega)
  ·have:m=0∨m=1∨m=2∨m=3∨m=4∨m=5∨m=6∨m=7∨m=8∨m=9:=by omega
   clear hzz hsh hlp hm10 m1 m4;rcases this with rfl|rfl|rfl|rfl|rfl|rfl|rfl|rfl|rfl|rfl<;>(simp[DR] at m3;unfold cq;simp;omega)
def yT (e:Nat):Nat:=e-fE (gU e)
def mT (e:Nat):Nat:=(5*yT e+2)/153
def dT (e:Nat):Nat:=yT e-(153*mT e+2)/5+1
def cY (q e:Nat):Nat:=if 10≤mT e then q*400+gU e+1 else q*400+gU e
def cM (e:Nat):Nat:=if 10≤mT e then mT e-9 else mT e+3
theorem Ef (n q e:Nat)(hn:n+719468=q*146097+e)(he:e<146097):iT (cY q e) (cM e) (dT e)=n∧1≤cM e∧cM e≤12∧1≤dT e∧(dT e:Int)≤cq (cY q e) (cM e):=by
 obtain⟨h1,h2,h3⟩:=wh _ he;have:=Bd n q e (gU e) (yT e) (mT e) (dT e) hn h1 h2 h3 rfl rfl rfl;unfold cY cM;exact this
theorem CI (n:Nat)(y m d:Nat)(h:n≤2932896)(hz:iT y m d=n)(h2:1≤m)(h3:m≤12)(h4:1≤d)(h5:(d:Int)≤cq y m):kT y m d=true:=by
 have hday:=Aa (y:Int) (m:Int) (d:Int)
 have hlo:(1970:Int)≤y:=by
  rcases Int.lt_or_le (y:Int) 1970 with hlt|hge
  ·exfalso
   have h6:=oS (y:=(y:Int)+1) (y':=1970) (by omega);have hs:=uh;have hdec:=wE (y:Int);rcases Nat.lt_or_ge m 12 with hm12|hm12
   ·have hmn:=qo (y:Int) (m:Int) (by omega) (by omega)
    have hm2:=oZ (y:=(y:Int)) (m:=(m:Int)+1) (m':=12) (by omega) (by omega) (by omega);omega
   ·have h12:(m:Int)=12:=by omega
    rw[h12] at hday h5 hz;have:cq (y:Int) 12=31:=by unfold cq;simp
    omega
  ·exact hge
 have hhi:(y:Int)≤9999:=by
  rcases Int.lt_or_le 9999 (y:Int) with hlt|hge
  ·exfalso
   have h6:=oS (y:=10000) (y':=(y:Int)) (by omega);have hs:=xE;have hm:=oZ (y:=(y:Int)) (m:=1) (m':=(m:Int)) (by omega) (by omega) (by omega);omega
  ·exact hge
 unfold kT;simp only[Bool.and_eq_true,decide_eq_true_eq];exact⟨⟨⟨hlo,hhi⟩,by omega⟩,h5⟩
def vr (n:Nat):List Nat:=mq (cY ((n+719468)/146097) ((n+719468)%146097)) (cM ((n+719468)%146097)) (dT ((n+719468)%146097))
theorem Dc (n q e:Nat)(hq:(n+719468)/146097=q)(he:(n+719468)%146097=e):vr n=mq (cY q e) (cM e) (dT e):=by subst hq he;rfl
theorem sH (y m d:Nat):∀x∈mq y m d,x<256:=by
 intro x hx;unfold mq at hx;simp only[List.mem_append] at hx;rcases hx with (((h|h)|h)|h)|h
 ·exact tF _ _ x h
 ·simp at h;omega
 ·exact tF _ _ x h
 ·simp at h;omega
 ·exact tF _ _ x h
section
variable {P:Program} {n:Nat} {F:List (Nat × Value)} {w:World} {v:Value}
theorem ab.E8 {fn:Func}{R:Ending→World→Prop}{t u s r:Nat}{v' v'' v3:Value}{e:Exit}(hr:fn.results= #[.tmp t, .tmp u, .tmp s, .tmp r]) (hl:look F t=some v) (hl':look F u=some v') (hl'':look F s=some v'') (hl3:look F r=some v3) (he:e= .ret∨e= .normal) (h:R (.returned (.tuple #[v,v',v'',v3])) w):ab (bodyPost P fn R) e n F w:=
 ab.end_ (fun a ha=>by simp[results,hr,ha.slot t v hl,ha.slot u v' hl',ha.slot s v'' hl'',ha.slot r v3 hl3]) he h
end
theorem EX {x x' y y' z z' u u':Value}(h:x=x')(h2:y=y')(h3:z=z')(h4:u=u'):Ending.returned (.tuple #[x,y,z,u])= .returned (.tuple #[x',y',z',u']):=by rw[h,h2,h3,h4]
theorem Own.lit {w:World}{B g n size:Nat}{e:TypeId}{cs:Array Value}(k:aH w g e cs)(hB:B≤g)(hs:cs.size=n*size)(hn:n≤maxLen):Own w B e size (.slice (some ⟨g,0,none⟩) n n) n cs.toList:=
 ⟨⟨by simpa using hs, .inr ⟨g,n,cs,rfl,hB,k,Nat.le_refl _,hn,hs,List.take_of_length_le (by simp[hs])⟩⟩⟩
theorem xr (l:List Nat):∀u∈Bt l,u.oneCell'=true:=by
 intro u hu;simp[Bt] at hu;obtain⟨d,-,rfl⟩:=hu;rfl
theorem Own.base {w:World}{B B' size n:Nat}{e:TypeId}{v:Value}{xs:List Value}(h:Own w B e size v n xs)(hb:B'≤B):Own w B' e size v n xs:=⟨⟨h.row.1,h.row.2.imp id fun⟨g,cap,cur,e1,e2,r⟩=>⟨g,cap,cur,e1,Nat.le_trans hb e2,r⟩⟩⟩
theorem wL (n:Nat)(w:World)(h:n≤2932896):Calls Tryz.prog 236 #[.int .i64 (n:Int)] w fun e w'=>e= .returned (.bool true)∧Grow w w':=by
 have bel:=Below.refl w.heap.size w;refine Zs 9 Tryz.func236 ?_;refine aj ?_;refine Za ?_;refine dM 0 2 (aB ?_);refine Zm ?_;refine mz ?_;refine Zm ?_;refine av.start ?_;refine bk (fun hcx=>aa.move rfl rfl) ?_;refine Zn (fun hcx=>aa.leq rfl rfl rfl) ?_;refine ep ?_;refine Za ?_;refine dM 0 2 (Zt (Cd.ret ?_));refine aX ?_;exact⟨aW (aF (by simp;omega)),bel⟩
theorem B4 (e:Nat)(he:e<146097):(yT e:Int)=e-(365*(gU e:Int)+(gU e:Int)/4-(gU e:Int)/100)∧yT e<366:=by
 obtain⟨h1,h2,h3⟩:=wh e he;obtain⟨l1,l2⟩:=sG (gU e);have:=ua (gU e) h1;unfold yT;omega
theorem DU (e:Nat)(he:e<146097):(mT e:Int)=(5*(yT e:Int)+2)/153∧mT e≤11∧(153*mT e+2)/5≤yT e:=by
 have h:=(B4 e he).2;obtain⟨m1,m2,-⟩:=nR (yT e) h;have hm:mT e=(5*yT e+2)/153:=rfl;rw[←hm] at m1 m2;omega
theorem zG (n q e:Nat)(w:World)(h:n≤2932896)(hq:(n+719468)/146097=q)(he:(n+719468)%146097=e):Calls Tryz.prog 218 #[.int .i64 (n:Int)] w fun en w'=>en= .returned (.tuple #[.int .i64 (cY q e:Int), .int .i64 (cM e:Int), .int .i64 (dT e:Int), .bool true])∧Grow w w':=by
 have bel:=Below.refl w.heap.size w;have hel:e<146097:=by rw[←he];exact Nat.mod_lt _ (by decide)
 have hq2:((n:Int)+719468)/146097=(q:Int):=by omega
 have he2:((n:Int)+719468)%146097=(e:Int):=by omega
 have hq3:q≤30:=by omega
 obtain⟨e1,e2,e3⟩:=wh e hel;obtain⟨y1,y2⟩:=B4 e hel;obtain⟨m1,m2,m3⟩:=DU e hel;have hd:dT e=yT e-(153*mT e+2)/5+1:=rfl;have hy:((e:Int)-(e:Int)/1460+(e:Int)/36524-(e:Int)/146096)/365=(gU e:Int):=by unfold gU;omega
 have hcY:cY q e=if 10≤mT e then q*400+gU e+1 else q*400+gU e:=rfl;have hcM:cM e=if 10≤mT e then mT e-9 else mT e+3:=rfl
 generalize cY q e=cy at *
 generalize cM e=cm at *
 generalize dT e=dd at *
 generalize mT e=m at *
 generalize yT e=t at *
 generalize gU e=y at *
 clear hq he e2 e3;refine Zs 68 Tryz.func218 ?_;refine aj ?_;refine Za ?_;refine Za ?_;refine Za ?_;refine Za ?_;refine aU 0 2 3 4 5 (aJ (aj ?_));refine Zm ?_;refine Zc (Ze Tryz.func236) (wL n _ h) ?_;rintro en w5 ⟨rfl,hb5⟩;refine⟨_,rfl,?_⟩;replace bel:=bel.step hb5;refine iC ?_;refine bl 0 2 3 4 5 15 (Zt ?_);refine Cd.aS rfl rfl ?_;refine Cd.skip (aB ?_);refine Zm ?_;refine dt ?_;refine Za ?_;refine bp 0 2 3 4 5 6 15 (aB ?_);refine Zm ?_;refine Zv ((aa.mH rfl rfl rfl (by omega) (by omega)).cast (v':= .int .i64 (e:Int)) (int_eq he2)) ?_;refine Za ?_;refine cn 0 2 3 4 5 6 7 15 (aB ?_);refine Zm ?_;refine Zm ?_;refine Zv (aa.mf rfl rfl rfl (by omega) (by omega) (by omega)) ?_;refine rF ?_;refine Zm ?_;refine Zv (aa.mf rfl rfl rfl (by omega) (by omega) (by omega)) ?_;refine dt ?_;refine Zm ?_;refine Zv (aa.mf rfl rfl rfl (by omega) (by omega) (by omega)) ?_;refine rF ?_;refine Zv ((aa.mf rfl rfl rfl (by omega) (by omega) (by omega)).cast (v':= .int .i64 (y:Int)) (int_eq hy)) ?_;refine Za ?_;refine du 0 2 3 4 5 6 7 8 15 (aB ?_);refine Zm ?_;refine Zm ?_;refine Zv (aa.tl rfl rfl rfl (by omega) (by omega)) ?_;refine Zm ?_;refine Zv (aa.mf rfl rfl rfl (by omega) (by omega) (by omega)) ?_;refine dt ?_;refine Zm ?_;refine Zv (aa.mf rfl rfl rfl (by omega) (by omega) (by omega)) ?_;refine rF ?_;refine Zv ((aa.zB rfl rfl rfl (by omega) (by omega)).cast (v':= .int .i64 (t:Int)) (int_eq (by omega))) ?_;refine Za ?_;refine ed 0 2 3 4 5 6 7 8 9 15 (aB ?_);refine Zm ?_;refine Zv (aa.tl rfl rfl rfl (by omega) (by omega)) ?_;refine dt ?_;refine Zv ((aa.mf rfl rfl rfl (by omega) (by omega) (by omega)).cast (v':= .int .i64 (m:Int)) (int_eq (by omega))) ?_;refine Za ?_;refine bT 0 2 3 4 5 6 7 8 9 10 15 (aB ?_);refine Zm ?_;refine Zm ?_;refine Zv (aa.tl rfl rfl rfl (by omega) (by omega)) ?_;refine dt ?_;refine Zv (aa.mf rfl rfl rfl (by omega) (by omega) (by omega)) ?_;refine rF ?_;refine Zv ((aa.qR rfl rfl rfl (by omega) (by omega)).cast (v':= .int .i64 (dd:Int)) (int_eq (by omega))) ?_;refine Za ?_;refine eS 0 2 3 4 5 6 7 8 9 10 11 15 (aB ?_);refine Zm ?_;refine Zv ((aa.mf rfl rfl rfl (by omega) (by omega) (by omega)).cast (v':= .int .i64 (q:Int)) (int_eq hq2)) ?_;refine Zv (aa.tl rfl rfl rfl (by omega) (by omega)) ?_;refine Zm ?_;refine dt ?_;refine Za ?_;refine eN 0 2 3 4 5 6 7 8 9 10 11 12 15 (aJ (aj ?_));refine Zm ?_;refine mz ?_;refine jc 0 2 3 4 5 6 7 8 9 10 11 12 15 58 (Zt ?_);refine Cd.au rfl (fun hc=> ?_) (fun hc=> ?_)
 ·rw[if_pos (by omega)] at hcY hcM
  subst hcY hcM;refine aj ?_;refine Zm ?_;refine dt ?_;refine Zm ?_;refine rF ?_;refine Zm ?_;refine Za ?_;refine Za ?_;refine Za ?_;refine Za ?_;refine jc 0 2 3 4 5 6 7 8 9 10 11 12 15 58 (Zt (Cd.ret (ab.af ?_)));refine ab.E8 rfl rfl rfl rfl rfl (.inl rfl) ?_;exact⟨EX (int_eq (by omega)) (int_eq (by omega)) rfl rfl,bel⟩
 ·rw[if_neg (by omega)] at hcY hcM
  subst hcY hcM;refine Cd.skip (aB ?_);refine Zm ?_;refine Zm ?_;refine dt ?_;refine Zm ?_;refine Za ?_;refine Za ?_;refine Za ?_;refine Za ?_;refine jc 0 2 3 4 5 6 7 8 9 10 11 12 15 58 (Zt (Cd.ret ?_));refine ab.E8 rfl rfl rfl rfl rfl (.inl rfl) ?_;exact⟨EX (int_eq (by omega)) (int_eq (by omega)) rfl rfl,bel⟩
theorem oR (v:Nat)(w:World)(h:v≤100000):Calls Tryz.prog 219 #[.int .i64 (v:Int)] w fun en w'=>(∃sv,en= .returned sv∧Own w' w.heap.size 5 1 sv 2 (Bt [48+v/10%10,48+v%10]))∧Grow w w':=by
 have bel:=Below.refl w.heap.size w;refine Zs 13 Tryz.func219 ?_;refine aj ?_;refine Za ?_;refine dM 0 2 (aB ?_);refine Zm ?_;refine Zv (aa.mf rfl rfl rfl (by omega) (by omega) (by omega)) ?_;refine Zv (aa.mH rfl rfl rfl (by omega) (by omega)) ?_;refine dt ?_;refine Zv (aa.fJ rfl rfl Tryz.underlying3 Tryz.underlying5 (qJ (by omega) (by omega))) ?_;refine Zm ?_;refine Zv (aa.mH rfl rfl rfl (by omega) (by omega)) ?_;refine dt ?_;refine Zv (aa.fJ rfl rfl Tryz.underlying3 Tryz.underlying5 (qJ (by omega) (by omega))) ?_;refine Seq.slice (vs:=[_,_]) (s:=1) rfl rfl rfl Tryz.underlying64 (by kernel_rfl) (bt) (by omega) (by omega) ⟨rfl,rfl,trivial⟩ rfl rfl rfl ?_;intro g12 w1 n12;have e12:=Nat.le_trans bel.size n12.ge;replace bel:=bel.step n12.below;have k12:=n12.ao;refine Za ?_;refine dM 0 2 (Zt (Cd.ret ?_));refine aX ?_
 have hc:(ax [.int .u8 (48+(v:Int)/10%10), .int .u8 (48+(v:Int)%10)]).toArray=(Bt [48+v/10%10,48+v%10]).toArray:=by
  simp[ax,Value.cells,Bt]
 rw[hc] at k12;exact⟨⟨_,rfl,Own.lit k12 e12 (by simp[Bt]) (by simp[maxLen])⟩,bel⟩
theorem tT:∀args w,(callFunc 219 args).run Tryz.prog w= .ok (.enter 219 args) w:=fun args w=>aO Tryz.func219 (by kernel_rfl) rfl args w
theorem uU (v:Nat):oC v 2=[48+v/10%10,48+v%10]:=by simp[oC]
theorem yX (v:Nat):oC v 4=[48+v/100/10%10,48+v/100%10]++[48+v/10%10,48+v%10]:=by
 simp[oC,Nat.div_div_eq_div_mul]
theorem tA (n:Nat)(w:World)(h:n≤2932896):Calls Tryz.prog 185 #[.int .i64 (n:Int)] w fun en w'=>en= .returned (.string (strOf (vr n)))∧Grow w w':=by
 have bel:=Below.refl w.heap.size w;obtain⟨q,hq⟩:∃q,(n+719468)/146097=q:=⟨_,rfl⟩;obtain⟨e,he⟩:∃e,(n+719468)%146097=e:=⟨_,rfl⟩;have hciv:=fun W=>zG n q e W h hq he;have hel:e<146097:=by rw[←he];exact Nat.mod_lt _ (by decide)
 obtain⟨z1,z2,z3,z4,z5⟩:=Ef n q e (by omega) hel;have hok:=CI n _ _ _ h z1 z2 z3 z4 z5;obtain⟨o1,o2,o3,o4,o5,o6⟩:=CT hok;rw[Dc n q e hq he]
 generalize cY q e=y at *
 generalize cM e=m at *
 generalize dT e=d at *
 clear hq he z1;refine Zs 42 Tryz.func185 ?_;refine aj ?_;refine Za ?_;refine dM 0 2 (aB ?_);refine Zm ?_;refine Zc (Ze Tryz.func218) (hciv _) ?_;rintro en w5 ⟨rfl,hb5⟩;refine⟨_,rfl,?_⟩;replace bel:=bel.step hb5;refine Zm ?_;refine Zx ?_;refine Zx ?_;refine Zx ?_;refine Zx ?_;refine Za ?_;refine Za ?_;refine Za ?_;refine Za ?_;refine bl 0 2 3 4 5 6 (aJ (aj ?_));refine Zm ?_;refine iC ?_;refine bp 0 2 3 4 5 6 17 (Zt ?_);refine Cd.aS rfl rfl ?_;refine Cd.skip (aB ?_);refine Za ?_;refine cn 0 2 3 4 5 6 7 17 (aB ?_);refine Zm ?_;refine Zm ?_;refine Zv ((aa.mf rfl rfl rfl (by omega) (by omega) (by omega)).cast (v':= .int .i64 ((y/100:Nat):Int)) (int_eq (show(y:Int)/100=((y/100:Nat):Int) by omega))) ?_;refine Seq.call (Enters.value (first:=[]) (cap:=[]) rfl rfl rfl tT) rfl rfl rfl (oR (y/100) _ (by omega)) ?_;rintro en w6 ⟨⟨s1,rfl,own⟩,hb6⟩;refine⟨_,rfl,?_⟩;replace own:=own.base bel.size;replace bel:=bel.step hb6;refine Zm ?_;refine Zm ?_;refine Seq.call (Enters.value (first:=[]) (cap:=[]) rfl rfl rfl tT) rfl rfl rfl (oR y _ (by omega)) ?_;rintro en w7 ⟨⟨s2,rfl,own2⟩,hb7⟩;refine⟨_,rfl,?_⟩;replace bel:=bel.step hb7;replace own:=own.step hb7;obtain⟨A2,c2,rfl,rd2⟩:=own2.reads;refine Seq.append rfl rfl rfl Tryz.underlying64 (by kernel_rfl) bt rfl (by decide) (b:=1) (by kernel_rfl) own (rd2) (xr _) bel.size (by simp only[maxLen];omega) (by omega) rfl rfl rfl ?_;clear own;intro vw1 w1 own haw1;replace bel:=bel.trans haw1.below;clear own2;refine Za ?_;refine du 0 2 3 4 5 6 7 8 17 (aB ?_);refine Zm ?_;refine Seq.slice (vs:=[_]) (s:=1) rfl rfl rfl Tryz.underlying64 (by kernel_rfl) (bt) (by omega) (by omega) ⟨rfl,trivial⟩ rfl rfl rfl ?_;intro g27 w2 n27;have e27:=Nat.le_trans bel.size n27.ge;replace bel:=bel.step n27.below;replace own:=own.step n27.below;have k27:=n27.ao;refine Seq.append rfl rfl rfl Tryz.underlying64 (by kernel_rfl) bt rfl (by decide) (b:=1) (by kernel_rfl) own (Reads.ao k27 1 rfl) (by intro x hx;simp[ax,Value.cells] at hx;rw[hx];rfl) bel.size (by simp only[maxLen];omega) (by omega) rfl rfl rfl ?_;clear own;intro vw3 w3 own haw3;replace bel:=bel.trans haw3.below;refine Zm ?_;refine Zm ?_;refine Seq.call (Enters.value (first:=[]) (cap:=[]) rfl rfl rfl tT) rfl rfl rfl (oR m _ (by omega)) ?_;rintro en w8 ⟨⟨s3,rfl,own3⟩,hb8⟩;refine⟨_,rfl,?_⟩;replace bel:=bel.step hb8;replace own:=own.step hb8;obtain⟨A3,c3,rfl,rd3⟩:=own3.reads;refine Seq.append rfl rfl rfl Tryz.underlying64 (by kernel_rfl) bt rfl (by decide) (b:=1) (by kernel_rfl) own (rd3) (xr _) bel.size (by simp only[maxLen];omega) (by omega) rfl rfl rfl ?_;clear own;intro vw4 w4 own haw4;replace bel:=bel.trans haw4.below;clear own3;refine Za ?_;refine du 0 2 3 4 5 6 7 8 17 (aB ?_);refine Zm ?_;refine Seq.slice (vs:=[_]) (s:=1) rfl rfl rfl Tryz.underlying64 (by kernel_rfl) (bt) (by omega) (by omega) ⟨rfl,trivial⟩ rfl rfl rfl ?_;intro g34 w5 n34;have e34:=Nat.le_trans bel.size n34.ge;replace bel:=bel.step n34.below;replace own:=own.step n34.below;have k34:=n34.ao;refine Seq.append rfl rfl rfl Tryz.underlying64 (by kernel_rfl) bt rfl (by decide) (b:=1) (by kernel_rfl) own (Reads.ao k34 1 rfl) (by intro x hx;simp[ax,Value.cells] at hx;rw[hx];rfl) bel.size (by simp only[maxLen];omega) (by omega) rfl rfl rfl ?_;clear own;intro vw6 w6 own haw6;replace bel:=bel.trans haw6.below;refine Zm ?_;refine Zm ?_;refine Seq.call (Enters.value (first:=[]) (cap:=[]) rfl rfl rfl tT) rfl rfl rfl (oR d _ (by omega)) ?_;rintro en w9 ⟨⟨s4,rfl,own4⟩,hb9⟩;refine⟨_,rfl,?_⟩;replace bel:=bel.step hb9;replace own:=own.step hb9;obtain⟨A4,c4,rfl,rd4⟩:=own4.reads;refine Seq.append rfl rfl rfl Tryz.underlying64 (by kernel_rfl) bt rfl (by decide) (b:=1) (by kernel_rfl) own (rd4) (xr _) bel.size (by simp only[maxLen];omega) (by omega) rfl rfl rfl ?_;clear own;intro vw7 w7 own haw7;replace bel:=bel.trans haw7.below;clear own4;refine Za ?_;refine du 0 2 3 4 5 6 7 8 17 (aB ?_);refine Zm ?_;obtain⟨A5,c5,rfl,rd5⟩:=own.reads
 have hbt:Bt [48+y/100/10%10,48+y/100%10]++Bt [48+y/10%10,48+y%10]++(ax [.int .u8 45]).toArray.toList++Bt [48+m/10%10,48+m%10]++(ax [.int .u8 45]).toArray.toList++Bt [48+d/10%10,48+d%10]=Bt (mq y m d):=by
  unfold mq;rw[yX,uU,uU];simp[Bt,ax,Value.cells]
 rw[hbt] at rd5;refine Zv (aa.tq rfl rfl Tryz.underlying64 Tryz.underlying5 Tryz.underlying9 rd5 (sH y m d)) ?_;refine Za ?_;refine du 0 2 3 4 5 6 7 8 17 (Zt (Cd.ret ?_));refine aX ?_;exact⟨rfl,bel⟩
structure oO (w0 w:World)(g:Nat):Prop where
 row:w0.grownBy w (some g)
theorem oO.step {w0 w w':World}{g:Nat}(h:oO w0 w g)(hb:Below w.heap.size w w'):oO w0 w' g:=⟨pZ h.row hb⟩
theorem oO.put {w0 w w':World}{g B:Nat}{T:TypeId}{cur cs:Array Value}(h:oO w0 w g)(_k:aH w g T cur)(p:hZ w w' g T cs)(_e:B≤g):oO w0 w' g:=⟨qi h.row p.grown⟩
def ba (xs:List Value)(n i j:Nat):Option Value:=if j<i∨n≤j+i then xs[n-1-j]? else xs[j]?
theorem u9 (g n cap:Nat)(cur:Array Value)(xs:List Value)(w:World)(hb:aH w g 5 cur)(hc:n≤cap)(hn:n≤1000000000)(hs:cur.size=cap)(hx:∀j,j<n→cur[j]? =xs[j]?)(hl:xs.length=n)(h1:∀u∈xs,∃z,u= .int .u8 z):
  Calls Tryz.prog 217 #[.slice (some ⟨g,0,none⟩) n cap] w fun e w'=>∃cur',e= .returned (.tuple #[])∧aH w' g 5 cur'∧cur'.size=cap∧(∀j,j<n→cur'[j]? =xs.reverse[j]?)∧oO w w' g:=by
 refine Zs 28 Tryz.func217 ?_;refine aj ?_;refine Zm ?_;refine Zv (aa.len rfl rfl Tryz.underlying64) ?_;refine rF ?_;refine Za ?_;refine Za ?_;refine bu 0 2 3 (Zt (Cd.block ?_))
 refine Cd.loop (σ:=Nat × Array Value) (fun s=>[(0, .slice (some ⟨g,0,none⟩) n cap),(2, .int .i64 (s.1:Int)),(3, .int .i64 ((n:Int)-1-s.1))])
  (fun s wr=>s.1≤n∧aH wr g 5 s.2∧s.2.size=cap∧(∀j,j<n→s.2[j]? =ba xs n s.1 j)∧oO w wr g) (fun s=>n-s.1) (0,cur) ⟨Nat.zero_le _,hb,hs,fun j hj=>by dsimp only;rw[hx j hj];unfold ba;rw[if_neg (by omega)],⟨World.grownBy.refl _ _⟩⟩
  ⟨rfl,rfl,congrArg (fun x=>some (Value.int .i64 x)) (show(n:Int)-1=(n:Int)-1-((0:Nat):Int) by omega),trivial⟩ ?_
 clear hb hs hx cur;rintro⟨i,cs⟩ wr ⟨hi,k0,hs,hx,hgr⟩;dsimp only at hi k0 hs hx hgr⊢;have e0:0≤g:=Nat.zero_le g;refine Cd.seq (aj ?_);refine Zm ?_;refine Zm ?_;refine ff ?_;refine aZ 0 2 3 9 (Zt ?_);refine Cd.au rfl (fun hc=> ?_) (fun hc=> ?_)
 ·have hlt:i<n-1-i:=by omega
  have get:∀j,j<n→∃z,xs[j]? =some (.int .u8 z):=fun j hj=>by
   obtain⟨z,hz⟩:=h1 xs[j] (List.getElem_mem (by omega));exact⟨z,by rw[List.getElem?_eq_getElem (by omega),hz]⟩
  obtain⟨za,ha⟩:=get (n-1-i) (by omega);obtain⟨zb,hb⟩:=get i (by omega);have ca:cs[n-1-i]? =some (.int .u8 za):=by rw[hx _ (by omega),ba,if_neg (by omega),ha]
  have cb:cs[i]? =some (.int .u8 zb):=by rw[hx _ (by omega),ba,if_neg (by omega),hb]
  refine Cd.skip (aJ (Cd.block ?_));refine Cd.draw 12 (by kernel_rfl) [2,3] (.inr (fun _ _ d _ _ h=>by cases d<;>exact h)) rfl Grow Grow.refl (fun _ _ _=>Grow.trans) ?_;intro w1 hw1 zw1;replace k0:=k0.step hw1;replace hgr:=hgr.step hw1;have zlt:=k0.lt;refine eJ ?_;refine eJ ?_;refine Dr.late rfl rfl (fun w=>aa.move rfl rfl) Grow.refl rfl ?_;refine Dr.late rfl rfl (fun w=>aa.move rfl rfl) Grow.refl rfl ?_;refine eJ ?_;refine eJ ?_;refine Zd (fun w hG=>aa.nE rfl rfl rfl Tryz.underlying64 (by kernel_rfl) (j:=n-1-i) (by omega) (by omega)) ?_;refine Zd (fun w hG=>aa.an rfl rfl Tryz.underlying5 rfl (k0.step hG) ca) ?_;refine eJ ?_;refine eJ ?_;refine Zd (fun w hG=>aa.nE rfl rfl rfl Tryz.underlying64 (by kernel_rfl) (j:=i) (by omega) (by omega)) ?_;refine Zd (fun w hG=>aa.an rfl rfl Tryz.underlying5 rfl (k0.step hG) cb) ?_;refine Dr.nil ?_;refine br.done (F':=[(0,_),(2,_),(3,_),(9,_),(14,_),(15,_),(16,_),(17,_),(21,_),(25,_)]) rfl ⟨rfl,rfl,rfl,rfl,rfl,rfl,rfl,rfl,rfl,rfl,trivial⟩ ?_;intro w2 hw2 fw2;replace k0:=k0.step hw2;replace hgr:=hgr.step hw2;refine Zv (aa.nE rfl rfl rfl Tryz.underlying64 (by kernel_rfl) (j:=i) (by omega) (by omega)) ?_;refine Seq.qT rfl rfl rfl (by kernel_rfl) rfl rfl k0 (cb) rfl rfl ?_;intro w3 pw3;replace hgr:=hgr.put k0 pw3 e0;replace k0:=pw3.ao;refine Zv (aa.nE rfl rfl rfl Tryz.underlying64 (by kernel_rfl) (j:=n-1-i) (by omega) (by omega)) ?_;have ca2:(cs.setIfInBounds i (.int .u8 za))[n-1-i]? =some (.int .u8 za):=by rw[Array.getElem?_setIfInBounds_ne (by omega)];exact ca
  refine Seq.qT rfl rfl rfl (by kernel_rfl) rfl rfl k0 (ca2) rfl rfl ?_;intro w4 pw4;replace hgr:=hgr.put k0 pw4 e0;replace k0:=pw4.ao;refine aZ 0 2 3 9 (ab.ai (dU ?_));refine Zm ?_;refine dt ?_;refine Zm ?_;refine rF ?_;refine Za ?_;refine Za ?_;refine aZ 0 2 3 9 ?_;rw[show(i:Int)+1=((i+1:Nat):Int) by omega,show(n:Int)-1-(i:Int)-1=(n:Int)-1-((i+1:Nat):Int) by omega];refine ab.round (i+1,(cs.setIfInBounds i (.int .u8 za)).setIfInBounds (n-1-i) (.int .u8 zb)) ⟨rfl,rfl,rfl,trivial⟩ ⟨by dsimp only;omega,k0,by simp[hs],fun j hj=> ?_,hgr⟩ (by dsimp only;omega);dsimp only;have hin:n-1-i<(cs.setIfInBounds i (.int .u8 za)).size:=by rw[Array.size_setIfInBounds];omega
  by_cases hj1:j=n-1-i
  ·subst hj1
   rw[Array.getElem?_setIfInBounds_self_of_lt hin,ba,if_pos (by omega),show n-1-(n-1-i)=i by omega,hb]
  ·rw[Array.getElem?_setIfInBounds_ne (by omega)]
   by_cases hj2:j=i
   ·subst hj2
    rw[Array.getElem?_setIfInBounds_self_of_lt (by omega),ba,if_pos (by omega),ha]
   ·rw[Array.getElem?_setIfInBounds_ne (by omega),hx j hj]
    unfold ba
    by_cases hc2:j<i∨n≤j+i
    ·rw[if_pos hc2,if_pos (by omega)]
    ·rw[if_neg hc2,if_neg (by omega)]
 ·skip
  refine Cd.exit (ab.aA (ab.ay (ab.az ?_)));refine ab.eP rfl (.inr rfl) ?_;refine⟨cs,rfl,k0,hs,fun j hj=> ?_,hgr⟩;rw[hx j hj,List.getElem?_reverse (by omega),hl];unfold ba
  by_cases hc2:j<i∨n≤j+i
  ·rw[if_pos hc2]
  ·rw[if_neg hc2]
   rw[show n-1-j=j by omega]
theorem Own.ao {w:World}{B n:Nat}{e:TypeId}{v:Value}{xs:List Value}(h:Own w B e 1 v n xs)(h0:0<n):∃g cap cur,v= .slice (some ⟨g,0,none⟩) n cap∧B≤g∧aH w g e cur∧n≤cap∧cap≤maxLen∧cur.size=cap∧xs.length=n∧∀j,j<n→cur[j]? =xs[j]? :=by
 obtain⟨hl,⟨_,h1⟩|⟨g,cap,cur,rfl,h1,h2,h3,h4,h5,h6⟩⟩:=h.row
 ·omega
 ·refine⟨g,cap,cur,rfl,h1,h2,h3,h4,by omega,by omega,fun j hj=> ?_⟩
  rw[←h6,List.getElem?_take_of_lt (by omega)];simp
set_option maxHeartbeats 1000000 in
theorem yU (n:Int)(d:Nat)(w:World)(hn:bw n)(hd:d≤9):
  Calls Tryz.prog 184 #[.int .i64 n, .int .i64 (d:Int)] w fun e w'=>(∃N,wC n.natAbs d N∧N≤20∧e= .returned (.string (strOf (printed n d N))))∧Grow w w':=by
 have bel:=Below.refl w.heap.size w;have hu:n.natAbs≤9223372036854775808:=by have:=hn.1;have:=hn.2;omega
 refine Zs 53 Tryz.func184 ?_;refine aj ?_;refine Za ?_;refine bu 0 1 4 (aJ (aj ?_));refine Zm ?_;refine ff ?_;refine Zm ?_;refine av.start ?_;refine bk (fun hcx=>aa.move rfl rfl) ?_;refine Zn (fun hcx=>aa.gtr rfl rfl rfl) ?_;refine eG ?_;refine aZ 0 1 4 13 (Zt ?_);refine Cd.cond rfl (fun h=> ?_) (fun h=> ?_)
 ·exfalso
  simp at h;omega
 clear h;refine Cd.skip (aB ?_);refine Za ?_;refine aU 0 1 4 5 13 (aJ (aj ?_));refine Zm ?_;refine Zc (Ze Tryz.func216) (rk _ _ hn) ?_;rintro e w3 ⟨rfl,rfl⟩;refine⟨_,rfl,?_⟩;refine Za ?_;refine Za ?_;refine bp 0 1 4 5 6 7 13 (Zt (Cd.block ?_))
 generalize hun:n.natAbs=u at *
 have own:=Own.nil w w.heap.size 5 1
 refine Cd.loop (σ:=Nat × Value) (fun s=>[(0, .int .i64 n),(1, .int .i64 (d:Int)),(5,s.2),(6, .int .u64 ((u/10^s.1:Nat):Int)),(7, .int .i64 (s.1:Int))])
  (fun s wr=>s.1≤20∧Below w.heap.size w wr∧Own wr w.heap.size 5 1 s.2 (o9 u d s.1).length (Bt (o9 u d s.1))∧∀j,j<s.1→0<u/10^j∨j≤d) (fun s=>20-s.1) (0, .slice none 0 0) ⟨by simp,bel,own,fun j hj=>absurd hj (by simp)⟩ ⟨rfl,rfl,rfl,congrArg (fun x:Nat=>some (Value.int .u64 (x:Int))) (show u=u/10^0 by simp),rfl,trivial⟩ ?_
 clear bel;clear own;rintro⟨k,v⟩ wr ⟨hk,bel,own,hgo⟩;dsimp only at hk own hgo⊢;refine Cd.seq (aj ?_);refine Zm ?_;refine tU ?_;refine Zm ?_;refine av.start ?_;refine bk (fun hcx=>aa.move rfl rfl) ?_;refine jl ?_;refine Zn (fun hcx=>aa.leq rfl rfl rfl) ?_;refine eG ?_;refine bl 0 1 5 6 7 22 (Zt ?_);have hlen:=tR u d k;have hdk:u/10^k≤u:=Nat.div_le_self _ _;have hdt:=Dg u k;have hpr:o9 u d (k+1)=o9 u d k++(if k=d∧0<d then [46] else [])++[48+u/10^k%10]:=rfl
 generalize hq:u/10^k=q at *
 refine Cd.cond rfl (fun hc=> ?_) (fun hc=> ?_)
 ·have hgo1:0<q∨k≤d:=by simp at hc;omega
  have hk20:k<20:=by
   rcases Nat.lt_or_ge k 20 with h|h
   ·exact h
   ·obtain rfl:k=20:=by omega
    have:u/10^20=0:=Nat.div_eq_of_lt (by omega);omega
  have hgo2:∀j,j<k+1→0<u/10^j∨j≤d:=fun j hj=>by
   rcases Nat.lt_or_ge j k with h|h
   ·exact hgo j h
   ·obtain rfl:j=k:=by omega
    rw[hq];exact hgo1
  refine Cd.skip (aJ (Cd.block ?_));refine Cd.lC (σ:=Value) (fun v=>[(0, .int .i64 n),(1, .int .i64 (d:Int)),(5,v),(6, .int .u64 (q:Int)),(7, .int .i64 (k:Int))]) (fun v wr=>Below w.heap.size w wr∧Own wr w.heap.size 5 1 v (o9 u d k++if k=d∧0<d then [46] else []).length (Bt (o9 u d k++if k=d∧0<d then [46] else []))) ?_ ?_
  ·skip
   refine aj ?_;refine Zm ?_;refine Zm ?_;refine bq ?_;refine Zm ?_;refine av.start ?_;refine bk (fun hcx=>aa.move rfl rfl) ?_;refine Zn (fun hcx=>aa.gtr rfl rfl rfl) ?_;refine ep ?_;refine bp 0 1 5 6 7 22 31 (Zt ?_);refine Cd.cond rfl (fun hp=> ?_) (fun hp=> ?_)
   ·rw[if_pos (by simp at hp;omega)]
    refine Zr ?_;refine Zm ?_;refine Seq.slice (vs:=[_]) (s:=1) rfl rfl rfl Tryz.underlying64 (by kernel_rfl) (bt) (by omega) (by omega) ⟨rfl,trivial⟩ rfl rfl rfl ?_;intro g33 w1 n33;have e33:=Nat.le_trans bel.size n33.ge;replace bel:=bel.step n33.below;replace own:=own.step n33.below;have k33:=n33.ao;refine Seq.append rfl rfl rfl Tryz.underlying64 (by kernel_rfl) bt rfl (by decide) (b:=1) (by kernel_rfl) own (Reads.ao k33 1 rfl) (by intro x hx;simp[ax,Value.cells] at hx;rw[hx];rfl) bel.size (by simp only[maxLen];omega) (by omega) rfl rfl rfl ?_;clear own;intro vw2 w2 own haw2;replace bel:=bel.trans haw2.below;refine Za ?_;refine bp 0 1 5 6 7 22 31 ?_;exact ab.join _ ⟨rfl,rfl,rfl,rfl,rfl,trivial⟩ ⟨bel,by rw[List.length_append,jz];exact own⟩
   ·rw[if_neg (by simp at hp;omega)]
    refine Cd.skip ?_;exact ab.join _ ⟨rfl,rfl,rfl,rfl,rfl,trivial⟩ ⟨bel,by rw[List.append_nil];exact own⟩
  clear own bel hc;rintro v wr ⟨bel,own⟩;have hl2:(o9 u d k++if k=d∧0<d then [46] else []).length≤2*k+1:=by rw[List.length_append];split<;>simp<;>omega
  generalize o9 u d k++(if k=d∧0<d then [46] else [])=pre at *
  refine aj ?_;refine Zm ?_;refine Zm ?_;refine Zv (aa.Fm 10 rfl rfl rfl rfl (by omega)) ?_;refine Zv (aa.FH rfl rfl rfl (by omega) (by omega)) ?_;refine Zv (aa.fJ rfl rfl Tryz.underlying94 Tryz.underlying5 (qJ (by omega) (by omega))) ?_;refine Seq.slice (vs:=[_]) (s:=1) rfl rfl rfl Tryz.underlying64 (by kernel_rfl) (bt) (by omega) (by omega) ⟨rfl,trivial⟩ rfl rfl rfl ?_;intro g40 w1 n40;have e40:=Nat.le_trans bel.size n40.ge;replace bel:=bel.step n40.below;replace own:=own.step n40.below;have k40:=n40.ao;refine Seq.append rfl rfl rfl Tryz.underlying64 (by kernel_rfl) bt rfl (by decide) (b:=1) (by kernel_rfl) own (Reads.ao k40 1 rfl) (by intro x hx;simp[ax,Value.cells] at hx;rw[hx];rfl) bel.size (by simp only[maxLen];omega) (by omega) rfl rfl rfl ?_;clear own;intro vw2 w2 own haw2;replace bel:=bel.trans haw2.below;refine Za ?_;refine aU 0 1 5 6 7 (dU ?_);refine Zm ?_;refine Zv (aa.EM 10 rfl rfl rfl rfl (by omega) (by omega)) ?_;refine Za ?_;refine aU 0 1 5 6 7 (ab.ai (dU ?_));refine Zm ?_;refine dt ?_;refine Za ?_;refine aU 0 1 5 6 7 ?_;refine ab.round (k+1,_) ⟨rfl,rfl,rfl,congrArg (fun x:Nat=>some (Value.int .u64 (x:Int))) hdt,rfl,trivial⟩ ⟨by dsimp only;omega,bel,?_,hgo2⟩ (by dsimp only;omega);dsimp only;rw[hpr,List.length_append,jz];exact own
 ·have hstop:wC u d k:=⟨hgo,by rw[hq];simp at hc;omega⟩
  have hk1:0<k:=by simp at hc;omega
  refine Cd.exit (ab.aA (ab.ay (ab.az (Zt ?_))));refine Cd.lC (σ:=Value) (fun v=>[(5,v)]) (fun v wr=>Below w.heap.size w wr∧Own wr w.heap.size 5 1 v (o9 u d k++if n<0 then [45] else []).length (Bt (o9 u d k++if n<0 then [45] else []))) ?_ ?_
  ·skip
   refine aj ?_;refine Zm ?_;refine ff ?_;refine bp 0 1 5 6 7 22 45 (Zt ?_);refine Cd.au rfl (fun hp=> ?_) (fun hp=> ?_)
   ·rw[if_pos hp]
    refine Zr ?_;refine Zm ?_;refine Seq.slice (vs:=[_]) (s:=1) rfl rfl rfl Tryz.underlying64 (by kernel_rfl) (bt) (by omega) (by omega) ⟨rfl,trivial⟩ rfl rfl rfl ?_;intro g47 w1 n47;have e47:=Nat.le_trans bel.size n47.ge;replace bel:=bel.step n47.below;replace own:=own.step n47.below;have k47:=n47.ao;refine Seq.append rfl rfl rfl Tryz.underlying64 (by kernel_rfl) bt rfl (by decide) (b:=1) (by kernel_rfl) own (Reads.ao k47 1 rfl) (by intro x hx;simp[ax,Value.cells] at hx;rw[hx];rfl) bel.size (by simp only[maxLen];omega) (by omega) rfl rfl rfl ?_;clear own;intro vw2 w2 own haw2;replace bel:=bel.trans haw2.below;refine Za ?_;refine bp 0 1 5 6 7 22 45 ?_;exact ab.join _ ⟨rfl,trivial⟩ ⟨bel,by rw[List.length_append,jz];exact own⟩
   ·rw[if_neg hp]
    refine Cd.skip ?_;exact ab.join _ ⟨rfl,trivial⟩ ⟨bel,by rw[List.append_nil];exact own⟩
  clear own bel hc;rintro v wr ⟨bel,own⟩;have hpos:0<(o9 u d k++if n<0 then [45] else []).length:=by rw[List.length_append];omega
  have hl3:(o9 u d k++if n<0 then [45] else []).length≤41:=by rw[List.length_append];split<;>simp<;>omega
  have hlt:∀x∈(o9 u d k++if n<0 then [45] else []),x<256:=fun x hx=>by
   rcases List.mem_append.1 hx with hx|hx
   ·exact xg u d k x hx
   ·split at hx
    ·simp at hx;omega
    ·simp at hx
  have hprd:printed n d k=(o9 u d k++if n<0 then [45] else []).reverse:=by unfold printed;rw[hun]
  obtain⟨g,cap,cur,rfl,hBg,kb,hnc,hcm,hsz,hxl,hcur⟩:=own.ao hpos
  generalize o9 u d k++(if n<0 then [45] else [])=l at *
  refine aj ?_;refine Zm ?_;refine Zc (Ze Tryz.func217) (u9 g l.length cap cur (Bt l) _ kb hnc (by omega) hsz hcur hxl (fun x hx=>by unfold Bt at hx;obtain⟨z,_,rfl⟩:=List.mem_map.1 hx;exact⟨_,rfl⟩)) ?_;rintro e w9 ⟨cur',rfl,kb',hsz',hcur',honly⟩;refine⟨_,rfl,?_⟩;replace bel:=bel.trans (gx honly.row hBg kb.lt)
  have hrd:Reads w9 w9.heap.size 1 (some ⟨g,0,none⟩) l.length (Bt l.reverse):=by
   refine⟨by rw[lA];simp,fun _=>⟨_,rfl,kb'.lt,fun j x hx=> ?_⟩⟩;have hplain:(⟨g,0,none⟩:Addr).add j=⟨g,j,none⟩:=by unfold Addr.add;split<;>simp_all
   rw[hplain,cell_of_row _ _ _ _ _ _ kb']
   have hj:j<l.length:=by
    rcases Nat.lt_or_ge j l.length with h|h
    ·exact h
    ·rw[nt,List.getElem?_eq_none (by simpa using h)] at hx;cases hx
   rw[hcur' j hj];unfold Bt at hx⊢;rw[←List.map_reverse];exact hx
  refine Es 5 (aB ?_);refine Zm ?_;refine Zv (aa.tq rfl rfl Tryz.underlying64 Tryz.underlying5 Tryz.underlying9 hrd (fun x hx=>hlt x (List.mem_reverse.1 hx))) ?_;refine Za ?_;refine dM 4 5 (Zt (Cd.ret ?_));refine aX ?_;exact⟨⟨k,hstop,by omega,by rw[hprd]⟩,bel⟩
def yg (u:Nat):Nat:=((List.range 21).find? fun N=> !(decide (0<u/10^N)||decide (N≤0))).getD 0
theorem C7 {u N:Nat}(h:wC u 0 N)(hN:N≤20):yg u=N:=by
 have hf:(List.range 21).find? (fun N=> !(decide (0<u/10^N)||decide (N≤0)))=some N:=by
  rw[List.find?_range_eq_some];refine⟨?_,List.mem_range.2 (by omega),fun j hj=> ?_⟩
  ·have:=h.2
   simp only[not_or] at this;simp only[Bool.not_eq_true',Bool.or_eq_false_iff,decide_eq_false_iff_not];exact this
  ·have:=h.1 j hj
   simp only[Bool.not_not,Bool.or_eq_true,decide_eq_true_eq];exact this
 unfold yg;rw[hf];rfl
def uY (n:Int):List Nat:=printed n 0 (yg n.natAbs)
theorem Cu (u:Nat):yg u≤20:=by
 unfold yg
 cases h:(List.range 21).find? (fun N=> !(decide (0<u/10^N)||decide (N≤0))) with
 |none=>exact Nat.zero_le _
 |some N=>have:=List.mem_range.1 (List.mem_of_find?_eq_some h);show N≤20;omega
theorem uK (n:Int):(uY n).length≤41:=by
 unfold uY printed;have h1:=Cu n.natAbs;have h2:=tR n.natAbs 0 (yg n.natAbs);rw[List.length_reverse,List.length_append];split<;>simp<;>omega
theorem xW (n:Int):∀x∈uY n,x<256:=by
 intro x hx;unfold uY printed at hx;rw[List.mem_reverse,List.mem_append] at hx;rcases hx with hx|hx
 ·exact xg _ _ _ x hx
 ·split at hx<;>simp at hx;omega
theorem zA (n:Int)(w:World)(hn:bw n):Calls Tryz.prog 184 #[.int .i64 n, .int .i64 0] w fun e w'=>e= .returned (.string (strOf (uY n)))∧Grow w w':=
 (yU n 0 w hn (by decide)).mono fun e w' ⟨⟨N,h1,h2,h3⟩,h4⟩=>⟨by rw[h3];unfold uY;rw[C7 h1 h2],h4⟩
theorem uq (n:Nat):(vr n).length=10:=by unfold vr mq;simp[Ck]
theorem xH (n:Nat):∀x∈vr n,x<256:=sH _ _ _
def Au:List (List Nat):=[[43],[45],[42],[47],[],[],[60],[60,61],[61],[33,61],[62,61],[62],[38],[124],[33],[45]]
def Cc:List Int:=[4,4,5,5,7,7,3,3,3,3,3,3,2,1,6,6]
def bS (op:Int):List Nat × Int:=if op<5∨20<op then([],7) else(Au.getD (op-5).toNat [],Cc.getD (op-5).toNat 7)
def jT (least:Int)(x:Int × List Nat):List Nat:=if x.1<least then [40]++x.2++[41] else x.2
def df:List (List Nat)→List Nat
 | []=>[]
 |s::r=>s++(r.flatMap fun t=>[44,32]++t)
theorem qn (l:List (List Nat))(x:List Nat):df (l++[x])=if l=[] then x else df l++[44,32]++x:=by
 cases l with
 |nil=>simp[df]
 |cons s r=>simp[df]
def xz (op n:Int)(nm:List Nat)(l:List (Int × List Nat)):List Nat:=
 if op=1 then uY n else if op=2 then vr n.toNat else if op=3 then nm else if op=4 then [100,97,121]
 else if(bS op).2=6 then(bS op).1++jT 6 (l.getD 0 (7,[]))
 else if(bS op).2=3 then jT 4 (l.getD 0 (7,[]))++[32]++(bS op).1++[32]++jT 4 (l.getD 1 (7,[]))
 else if(bS op).2<6 then jT (bS op).2 (l.getD 0 (7,[]))++[32]++(bS op).1++[32]++jT ((bS op).2+1) (l.getD 1 (7,[]))
 else(if op=9 then [109,105,110,40] else if op=10 then [109,97,120,40] else [105,102,40])++df (l.map (·.2))++[41]
mutual
def cC:Ex→List Nat
 | .mk op n nm l=>xz op n nm (pT l)
def pT:List Ex→List (Int × List Nat)
 | []=>[]
 |e::r=>((bS e.op).2,cC e)::pT r
end
def eA (e:Ex):Int × List Nat:=((bS e.op).2,cC e)
theorem ra:∀l,pT l=l.map eA
 | []=>by rw[pT];rfl
 |e::r=>by rw[pT,ra r];rfl
theorem vL (e:Ex):cC e=xz e.op e.n e.name (e.args.map eA):=by
 cases e;rw[cC,ra];rfl
def xV (e:Ex)(least:Int):List Nat:=jT least (eA e)
theorem nr {op n:Int}{nm:List Nat}{k:Nat}(h:lO op n nm k=true):dB op=(k:Int)∧(n=0∨op=1∨op=2)∧(nm=[]∨op=3)∧0≤n∧(op=2→n≤2932896)∧(op=3→gQ nm=true):=
 Classical.byContradiction fun hn=>by rw[kI hn] at h;cases h
theorem mg {e:Ex}(h:bF e=true):lO e.op e.n e.name e.args.length=true∧∀x∈e.args,bF x=true:=by
 rw[nw,Bool.and_eq_true,List.all_eq_true] at h;exact h
theorem rh {op:Int}{k:Nat}(h:dB op=(k:Int)):1≤op∧op≤21∧(op≤4→k=0)∧(5≤op→op≤18→k=2)∧(op=19∨op=20→k=1)∧(op=21→k=3):=by
 unfold dB at h
 repeat' split at h
 all_goals omega
theorem mM {nm:List Nat}(h:gQ nm=true):nm.length≤16:=by
 unfold gQ cI at h;simp at h;omega
theorem nd (op:Int):(bS op).1.length≤2∧(∀x∈(bS op).1,x<256)∧1≤(bS op).2∧(bS op).2≤7:=by
 unfold bS;split
 ·simp
 ·rename_i h
  have:(op-5).toNat<16:=by omega
  generalize (op-5).toNat=j at *
  have key:∀j:Fin 16,(Au.getD j.val []).length≤2∧(∀x∈Au.getD j.val [],x<256)∧1≤Cc.getD j.val 7∧Cc.getD j.val 7≤7:=by decide
  exact key ⟨j,this⟩
theorem vn (least:Int)(x:Int × List Nat):(jT least x).length≤x.2.length+2∧((∀d∈x.2,d<256)→∀d∈jT least x,d<256):=by
 unfold jT;split
 ·refine⟨by simp,fun h d hd=> ?_⟩
  simp only[List.mem_append,List.mem_singleton] at hd;rcases hd with (hd|hd)|hd
  ·omega
  ·exact h d hd
  ·omega
 ·exact⟨by omega,fun h=>h⟩
theorem Cw {l:List Nat}(h:runN bn l=l.length):∀x∈l,bn x=true:=by
 induction l with
 |nil=>intro x hx;cases hx
 |cons c r ih=>
  rw[gf] at h;intro x hx;split at h
  ·rename_i hc
   rcases List.mem_cons.1 hx with rfl|hx
   ·exact hc
   ·exact ih (by rw[List.length_cons] at h;omega) x hx
  ·simp at h
theorem o8 {nm:List Nat}(h:gQ nm=true):∀x∈nm,x<256:=by
 unfold gQ cI at h;simp at h;intro x hx;have:=Cw h.1.2 x hx;unfold bn ml ir at this;simp at this;omega
theorem Dn {P:Nat→Prop}{a b c:List Nat}(ha:∀x∈a,P x)(hb:∀x∈b,P x)(hc:∀x∈c,P x):∀x∈a++b++c,P x:=by
 intro x hx;simp only[List.mem_append] at hx;rcases hx with (h|h)|h
 ·exact ha x h
 ·exact hb x h
 ·exact hc x h
theorem xN {l:List (List Nat)}(h:∀t∈l,∀x∈t,x<256):∀x∈df l,x<256:=by
 cases l with
 |nil=>intro x hx;cases hx
 |cons s r=>
  intro x hx;unfold df at hx;simp only[List.mem_append,List.mem_flatMap,List.mem_cons,List.not_mem_nil,or_false] at hx;rcases hx with hx|⟨t,ht,hx|hx⟩
  ·exact h s List.mem_cons_self x hx
  ·omega
  ·exact h t (List.mem_cons_of_mem _ ht) x hx
theorem ld (l:List Ex):(l.map eA).map (·.2)=l.map cC:=by rw[List.map_map];rfl
theorem oc (s t:List Nat)(r:List (List Nat)):df (s::t::r)=s++[44,32]++df (t::r):=by simp[df]
theorem np:∀l:List Ex,(∀x∈l,(cC x).length≤50*x.nodes)→(df (l.map cC)).length≤50*bC l+2*l.length
 | [],_=>by simp[df]
 | [x],h=>by have:=h x List.mem_cons_self;simp[df,bC];omega
 |x::y::r,h=>by
  have h1:=h x List.mem_cons_self;have h2:=np (y::r) fun z hz=>h z (List.mem_cons_of_mem _ hz);rw[bC,List.map_cons,List.map_cons,oc,←List.map_cons];simp only[List.length_append,List.length_cons,List.length_nil] at h2⊢;omega
theorem fN (N:Nat):∀e:Ex,e.nodes≤N→bF e=true→(cC e).length≤50*e.nodes∧∀d∈cC e,d<256:=by
 induction N with
 |zero=>intro e hN;have:=e.bU;omega
 |succ N ih=>
  intro e hN hb;obtain⟨hh,ha⟩:=mg hb;obtain⟨h1,h2,h3,h4,h5,h6⟩:=nr hh;obtain⟨o1,o2,o3,o4,o5,o6⟩:=rh h1;obtain⟨b1,b2,b3,b4⟩:=nd e.op;have harg:∀x∈e.args,(cC x).length≤50*x.nodes∧∀d∈cC x,d<256:=fun x hx=>ih x (by have:=Ex.fK hx;omega) (ha x hx)
  have hpar:∀x∈e.args,∀least,(jT least (eA x)).length≤50*x.nodes+2∧∀d∈jT least (eA x),d<256:=fun x hx least=>by
   have h:=vn least (eA x);have h2:=harg x hx;exact⟨by have:=h.1;have e:(eA x).2=cC x:=rfl;rw[e] at this;omega,h.2 h2.2⟩
  have hn:e.nodes=1+bC e.args:=by cases e;exact Ex.fR _ _ _ _
  rw[vL];unfold xz;have k1:∀x∈([40]:List Nat),x<256:=by decide
  have k2:∀x∈([32]:List Nat),x<256:=by decide
  have k3:∀x∈([41]:List Nat),x<256:=by decide
  split
  ·exact⟨by have:=uK e.n;omega,xW _⟩
  ·split
   ·exact⟨by rw[uq];omega,xH _⟩
   ·split
    ·rename_i h
     exact⟨by have:=mM (h6 h);omega,o8 (h6 h)⟩
    ·split
     ·exact⟨by simp;omega,by decide⟩
     ·have hlen:1≤e.args.length∧e.args.length≤3:=by omega
      obtain⟨x,r,hx⟩:∃x r,e.args=x::r:=by
       cases hx:e.args with
       |nil=>rw[hx] at hlen;simp at hlen
       |cons x r=>exact⟨x,r,rfl⟩
      have px:=hpar x (by rw[hx];exact List.mem_cons_self);rw[hx] at hn;rw[bC] at hn;split
      ·rw[hx]
       obtain⟨p1,p2⟩:=px 6;refine⟨by rw[List.length_append];show _+(jT 6 (eA x)).length≤_;omega,fun d hd=> ?_⟩;rcases List.mem_append.1 hd with hd|hd
       ·exact b2 d hd
       ·exact p2 d hd
      ·rename_i hp6
       have hbin:(bS e.op).2<6→∃y r',r=y::r':=fun hlt=>by
        have hop:e.op≤18:=by
         rcases Int.lt_or_le 18 e.op with h|h
         ·exfalso
          have:e.op=19∨e.op=20∨e.op=21:=by omega
          rcases this with h|h|h<;>rw[h] at hlt<;>revert hlt<;>decide
         ·exact h
        have:=o4 (by omega) hop;rw[hx] at this
        cases r with
        |nil=>simp at this
        |cons y r'=>exact⟨y,r',rfl⟩
       split
       ·rename_i hp3
        obtain⟨y,r',rfl⟩:=hbin (by omega);have py:=hpar y (by rw[hx];exact List.mem_cons_of_mem _ List.mem_cons_self);rw[bC] at hn;rw[hx];obtain⟨p1,p2⟩:=px 4;obtain⟨q1,q2⟩:=py 4;refine⟨?_,Dn (Dn p2 k2 b2) k2 q2⟩;simp only[List.length_append,List.length_cons,List.length_nil];show(jT 4 (eA x)).length+_+_+_+(jT 4 (eA y)).length≤_;omega
       ·split
        ·rename_i hp5
         obtain⟨y,r',rfl⟩:=hbin hp5;have py:=hpar y (by rw[hx];exact List.mem_cons_of_mem _ List.mem_cons_self);rw[bC] at hn;rw[hx];obtain⟨p1,p2⟩:=px (bS e.op).2;obtain⟨q1,q2⟩:=py ((bS e.op).2+1);refine⟨?_,Dn (Dn p2 k2 b2) k2 q2⟩;simp only[List.length_append,List.length_cons,List.length_nil];show(jT (bS e.op).2 (eA x)).length+_+_+_+(jT ((bS e.op).2+1) (eA y)).length≤_;omega
        ·have hj:=np e.args fun z hz=>(harg z hz).1
         rw[ld];refine⟨?_,Dn ?_ (xN fun t ht=> ?_) k3⟩
         ·rw[hx,bC] at hj
          rw[hx] at hlen⊢;simp only[List.length_append,List.length_cons,List.length_nil] at hj hlen⊢;split
          ·simp only[List.length_cons,List.length_nil];omega
          ·split<;>simp only[List.length_cons,List.length_nil]<;>omega
         ·split
          ·decide
          ·split<;>decide
         ·simp only[List.mem_map] at ht
          obtain⟨z,hz,rfl⟩:=ht;exact(harg z hz).2
theorem pL (l:List (List Nat))(k:Nat):(df (l.take k)).length≤(df l).length:=by
 cases l with
 |nil=>simp[df]
 |cons s r=>
  cases k with
  |zero=>exact Nat.zero_le _
  |succ k=>
   rw[List.take_succ_cons]
   conv=>rhs;rw[←List.take_append_drop k r]
   simp only[df];rw[List.flatMap_append];simp only[List.length_append];omega
section
variable {P:Program} {Q:Exit→Act→World→Prop} {n:Nat} {F F':List (Nat × Value)} {w:World}
def Bs (n:Nat)(F:List (Nat × Value))(J:Inhabited (List Deferred)→World→Prop)(a:Act)(w:World):Prop:=∃I,@Fr I n F a∧J I w
theorem Cd.FD {x y:Code}(F':List (Nat × Value))(J:Inhabited (List Deferred)→World→Prop)(hx:Cd P x (Exit.then (Bs n F' J) Q) n F w)(hy:∀I w,J I w→ @Cd I P y Q n F' w):Cd P (.seq x y) Q n F w:=
 fun a ha=>wp_seq (Code.wp_mono (fun e a w q=>by
  cases e with
  |normal=>obtain⟨I,hF,hJ⟩:=q;exact hy I w hJ a hF
  |exit id=>exact q
  |goto l=>exact q
  |ret=>exact q
  |panic ch=>exact q
  |outgrown=>exact q) (hx a ha))
theorem ab.DN {I:Inhabited (List Deferred)}{J:Inhabited (List Deferred)→World→Prop}(hs:Sub F' F)(hJ:J I w): @ab I (Exit.then (Bs n F' J) Q) .normal n F w:=fun _ ha=>⟨I,ha.sub hs,hJ⟩
end
theorem wM (op:Int)(w:World):Calls Tryz.prog 181 #[.int .i64 op] w fun e w'=>e= .returned (.tuple #[.string (strOf (bS op).1), .int .i64 (bS op).2])∧Grow w w':=by
 have bel:=Below.refl w.heap.size w;refine Zs 33 Tryz.func181 ?_;refine aj ?_;refine Za ?_;refine Za ?_;refine bu 0 2 3 (aJ (aj ?_));refine Zm ?_;refine aZ 0 2 3 4 (Zt (Cd.block (aj ?_)));refine bq ?_;refine Za ?_;refine aU 0 2 3 4 5 (Zt ?_);refine Cd.au rfl (fun h18=> ?_) (fun h18=> ?_)
 ·skip
  refine aj ?_;refine Za ?_;refine Za ?_;refine aU 0 2 3 4 5 (Zt (Cd.ret (ab.ah (ab.af ?_))));refine dO ?_;subst h18;exact⟨rfl,bel⟩
 refine aj ?_;refine bq ?_;refine Za ?_;refine bl 0 2 3 4 5 7 (Zt ?_);refine Cd.au rfl (fun h17=> ?_) (fun h17=> ?_)
 ·skip
  refine aj ?_;refine Za ?_;refine Za ?_;refine bl 0 2 3 4 5 7 (Zt (Cd.ret (ab.ah (ab.af ?_))));refine dO ?_;subst h17;exact⟨rfl,bel⟩
 refine aj ?_;refine bq ?_;refine Za ?_;refine bp 0 2 3 4 5 7 9 (Zt ?_);refine Cd.au rfl (fun h11=> ?_) (fun h11=> ?_)
 ·skip
  refine aj ?_;refine Za ?_;refine Za ?_;refine bp 0 2 3 4 5 7 9 (Zt (Cd.ret (ab.ah (ab.af ?_))));refine dO ?_;subst h11;exact⟨rfl,bel⟩
 refine aj ?_;refine bq ?_;refine Za ?_;refine cn 0 2 3 4 5 7 9 11 (Zt ?_);refine Cd.au rfl (fun h12=> ?_) (fun h12=> ?_)
 ·skip
  refine aj ?_;refine Za ?_;refine Za ?_;refine cn 0 2 3 4 5 7 9 11 (Zt (Cd.ret (ab.ah (ab.af ?_))));refine dO ?_;subst h12;exact⟨rfl,bel⟩
 refine aj ?_;refine bq ?_;refine Za ?_;refine du 0 2 3 4 5 7 9 11 13 (Zt ?_);refine Cd.au rfl (fun h13=> ?_) (fun h13=> ?_)
 ·skip
  refine aj ?_;refine Za ?_;refine Za ?_;refine du 0 2 3 4 5 7 9 11 13 (Zt (Cd.ret (ab.ah (ab.af ?_))));refine dO ?_;subst h13;exact⟨rfl,bel⟩
 refine aj ?_;refine bq ?_;refine Za ?_;refine ed 0 2 3 4 5 7 9 11 13 15 (Zt ?_);refine Cd.au rfl (fun h14=> ?_) (fun h14=> ?_)
 ·skip
  refine aj ?_;refine Za ?_;refine Za ?_;refine ed 0 2 3 4 5 7 9 11 13 15 (Zt (Cd.ret (ab.ah (ab.af ?_))));refine dO ?_;subst h14;exact⟨rfl,bel⟩
 refine aj ?_;refine bq ?_;refine Za ?_;refine bT 0 2 3 4 5 7 9 11 13 15 17 (Zt ?_);refine Cd.au rfl (fun h15=> ?_) (fun h15=> ?_)
 ·skip
  refine aj ?_;refine Za ?_;refine Za ?_;refine bT 0 2 3 4 5 7 9 11 13 15 17 (Zt (Cd.ret (ab.ah (ab.af ?_))));refine dO ?_;subst h15;exact⟨rfl,bel⟩
 refine aj ?_;refine bq ?_;refine Za ?_;refine eS 0 2 3 4 5 7 9 11 13 15 17 19 (Zt ?_);refine Cd.au rfl (fun yL=> ?_) (fun yL=> ?_)
 ·skip
  refine aj ?_;refine Za ?_;refine Za ?_;refine eS 0 2 3 4 5 7 9 11 13 15 17 19 (Zt (Cd.ret (ab.ah (ab.af ?_))));refine dO ?_;subst yL;exact⟨rfl,bel⟩
 refine aj ?_;refine bq ?_;refine Za ?_;refine eN 0 2 3 4 5 7 9 11 13 15 17 19 21 (Zt ?_);refine Cd.au rfl (fun h5=> ?_) (fun h5=> ?_)
 ·skip
  refine aj ?_;refine Za ?_;refine Za ?_;refine eN 0 2 3 4 5 7 9 11 13 15 17 19 21 (Zt (Cd.ret (ab.ah (ab.af ?_))));refine dO ?_;subst h5;exact⟨rfl,bel⟩
 refine aj ?_;refine bq ?_;refine Za ?_;refine jc 0 2 3 4 5 7 9 11 13 15 17 19 21 23 (Zt ?_);refine Cd.au rfl (fun h6=> ?_) (fun h6=> ?_)
 ·skip
  refine aj ?_;refine Za ?_;refine Za ?_;refine jc 0 2 3 4 5 7 9 11 13 15 17 19 21 23 (Zt (Cd.ret (ab.ah (ab.af ?_))));refine dO ?_;subst h6;exact⟨rfl,bel⟩
 refine aj ?_;refine bq ?_;refine Za ?_;refine CX 0 2 3 4 5 7 9 11 13 15 17 19 21 23 25 (Zt ?_);refine Cd.au rfl (fun h7=> ?_) (fun h7=> ?_)
 ·skip
  refine aj ?_;refine Za ?_;refine Za ?_;refine CX 0 2 3 4 5 7 9 11 13 15 17 19 21 23 25 (Zt (Cd.ret (ab.ah (ab.af ?_))));refine dO ?_;subst h7;exact⟨rfl,bel⟩
 refine aj ?_;refine bq ?_;refine Za ?_;refine lB 0 2 3 4 5 7 9 11 13 15 17 19 21 23 25 27 (Zt ?_);refine Cd.au rfl (fun h8=> ?_) (fun h8=> ?_)
 ·skip
  refine aj ?_;refine Za ?_;refine Za ?_;refine lB 0 2 3 4 5 7 9 11 13 15 17 19 21 23 25 27 (Zt (Cd.ret (ab.ah (ab.af ?_))));refine dO ?_;subst h8;exact⟨rfl,bel⟩
 refine aj ?_;refine bq ?_;refine Za ?_;refine Fe 0 2 3 4 5 7 9 11 13 15 17 19 21 23 25 27 29 (Zt ?_);refine Cd.au rfl (fun h19=> ?_) (fun h19=> ?_)
 ·skip
  refine aj ?_;refine Za ?_;refine Za ?_;refine Fe 0 2 3 4 5 7 9 11 13 15 17 19 21 23 25 27 29 (Zt (Cd.ret (ab.ah (ab.af ?_))));refine dO ?_;subst h19;exact⟨rfl,bel⟩
 refine aj ?_;refine bq ?_;refine Za ?_;refine DT 0 2 3 4 5 7 9 11 13 15 17 19 21 23 25 27 29 31 (Zt ?_);refine Cd.au rfl (fun h20=> ?_) (fun h20=> ?_)
 ·skip
  refine aj ?_;refine Za ?_;refine Za ?_;refine DT 0 2 3 4 5 7 9 11 13 15 17 19 21 23 25 27 29 31 (Zt (Cd.ret (ab.ah (ab.af ?_))));refine dO ?_;subst h20;exact⟨rfl,bel⟩
 refine Cd.skip (ab.ai (aB ?_));refine Za ?_;refine Za ?_;refine DT 0 2 3 4 5 7 9 11 13 15 17 19 21 23 25 27 29 31 (Zt (Cd.ret ?_));refine dO ?_
 have hb:bS op=([],7):=by
  unfold bS
  by_cases h:op<5∨20<op
  ·rw[if_pos h]
  ·have:op=9∨op=10:=by omega
   rcases this with rfl|rfl<;>rfl
 rw[hb];exact⟨rfl,bel⟩
theorem vG (B g f n:Nat)(cp:List Value)(word bs:List Nat)(ts:List (List Nat))(w:World)(h:Bw w B g bs)(hw:∀d∈word,d<256)(hwl:word.length≤100)(hn:ts.length=n)(hn9:n≤1000)(hts:∀t∈ts,∀d∈t,d<256)(hj:(df ts).length≤20000)(hl:bs.length≤900000000)
  (eg:∀args w,(callFunc f args).run Tryz.prog w= .ok (.enter f args) w)
  (one:∀(i:Nat) (t:List Nat),ts[i]? =some t→∀W bs',Wt B w W→Bw W B g bs'→bs'.length≤bs.length+50000→Calls Tryz.prog f ([]++[Value.int .i64 (i:Int)]++cp).toArray W (gT B g (bs'++t) W)):
  Calls Tryz.prog 175 #[.pointer (some ⟨g,0,none⟩), .string (strOf word), .int .i64 (n:Int), .func (.func f) #[] cp.toArray] w (gT B g (bs++word++[40]++df ts++[41]) w):=by
 have wt:=Wt.refl B w;have wr:=h;refine Zs 33 Tryz.func175 ?_;refine aj ?_;refine Zm ?_;refine Zv (aa.nilCheck rfl rfl) ?_;refine Zf 0 Tryz.underlying232 ?_;refine Zm ?_;refine Zv (aa.rC (b:=[40]) rfl rfl rfl (by simp only[List.length_cons,List.length_nil];omega)) ?_
 have k40:∀d∈word++[40],d<256:=fun d hd=>by
  rcases List.mem_append.1 hd with hd|hd
  ·exact hw d hd
  ·simp at hd;omega
 refine Zc (Ze Tryz.func174) ((bH B g (word++[40]) bs _ wr k40 (by simp only[List.length_append,List.length_cons,List.length_nil];omega)).1) ?_;clear wr;rintro e w1 ⟨⟨_,rfl⟩,fw1,wr⟩;refine⟨_,rfl,?_⟩;replace wt:=wt.wt fw1;rw[←List.append_assoc] at wr;obtain⟨pre,hpre⟩:∃pre,pre=bs++word++[40]:=⟨_,rfl⟩;have hprel:pre.length≤bs.length+101:=by rw[hpre];simp only[List.length_append,List.length_cons,List.length_nil];omega
 rw[←hpre] at wr⊢;refine aZ 0 1 2 3 (aJ (aj ?_));refine Zm ?_;refine Zm ?_;refine bl 0 1 2 3 15 16 (Zt (Cd.block ?_));refine Cd.loop (σ:=Nat) (fun k=>[(0, .pointer (some ⟨g,0,none⟩)),(1, .string (strOf word)),(2, .int .i64 (n:Int)),(3, .func (.func f) #[] cp.toArray),(15, .int .i64 (n:Int)),(16, .int .i64 (k:Int))]) (fun k wr'=>k≤n∧Wt B w wr'∧Bw wr' B g (pre++df (ts.take k))) (fun k=>n-k) 0 ⟨Nat.zero_le _,wt,by simpa[df] using wr⟩ ⟨rfl,rfl,rfl,rfl,rfl,rfl,trivial⟩ ?_;clear wt wr;rintro k w9 ⟨hk,wt,wr⟩;have hbk:=pL ts k;refine aj ?_;refine ff ?_;refine bp 0 1 2 3 15 16 17 (aJ ?_);refine Cd.au rfl (fun hc=> ?_) (fun hc=> ?_)
 ·obtain⟨t,ht⟩:∃t,ts[k]? =some t:=⟨_,List.getElem?_eq_getElem (by omega)⟩
  have htk:ts.take (k+1)=ts.take k++[t]:=by rw[List.take_add_one,ht];rfl
  have hbk1:=pL ts (k+1);rw[htk,qn] at hbk1;refine Cd.skip (aJ (Cd.block (aj ?_)));refine Zm ?_;refine Za ?_;refine cn 0 1 2 3 8 15 16 17 (aJ (aj ?_));refine Zm ?_;refine tU ?_;refine du 0 1 2 3 8 15 16 17 20 (Zt ?_);refine Cd.au rfl (fun hc=> ?_) (fun hc=> ?_)
  ·have hne:ts.take k≠ []:=fun h0=>by have:=congrArg List.length h0;rw[List.length_take,List.length_nil] at this;omega
   rw[if_neg hne] at hbk1;refine Zr ?_;refine Zm ?_;refine Zv (aa.nilCheck rfl rfl) ?_;refine Zf 0 Tryz.underlying232 ?_;refine Zc (Ze Tryz.func174) ((bH B g [44,32] _ _ wr (by decide) (by simp only[List.length_append,List.length_cons,List.length_nil];omega)).1) ?_;clear wr;rintro e w2 ⟨⟨_,rfl⟩,fw2,wr⟩;refine⟨_,rfl,?_⟩;replace wt:=wt.wt fw2;refine du 0 1 2 3 8 15 16 17 20 (dU ?_);refine Zm ?_;refine Zm ?_;refine Seq.call (Enters.value (first:=[]) rfl rfl rfl eg) rfl rfl rfl (one k t ht _ _ wt wr (by simp only[List.length_append,List.length_cons,List.length_nil];omega)) ?_;clear wr;rintro e w10 ⟨⟨_,rfl⟩,f10,wr⟩;refine⟨_,rfl,?_⟩;replace wt:=wt.wt f10;refine du 0 1 2 3 8 15 16 17 20 (ab.ai (dU ?_));refine dt ?_;refine Zm ?_;refine du 0 1 2 3 8 15 16 17 20 ?_;refine ab.round (k+1) ⟨rfl,rfl,rfl,rfl,rfl,rfl,trivial⟩ ⟨by omega,wt,?_⟩ (by omega);rw[htk,qn,if_neg hne]
   simpa only[List.append_assoc] using wr
  ·obtain rfl:k=0:=by omega
   refine Cd.skip (dU ?_);refine Zm ?_;refine Zm ?_;refine Seq.call (Enters.value (first:=[]) rfl rfl rfl eg) rfl rfl rfl (one 0 t ht _ _ wt wr (by simp only[List.length_append,List.take_zero];simp only[df,List.length_nil];omega)) ?_;clear wr;rintro e w10 ⟨⟨_,rfl⟩,f10,wr⟩;refine⟨_,rfl,?_⟩;replace wt:=wt.wt f10;refine du 0 1 2 3 8 15 16 17 20 (ab.ai (dU ?_));refine dt ?_;refine Zm ?_;refine du 0 1 2 3 8 15 16 17 20 ?_;refine ab.round 1 ⟨rfl,rfl,rfl,rfl,rfl,rfl,trivial⟩ ⟨by omega,wt,?_⟩ (by omega);rw[htk]
   simpa[df] using wr
 ·obtain rfl:k=n:=by omega
  rw[List.take_of_length_le (by omega)] at wr;refine Cd.exit (ab.aA (ab.ay (ab.az (dU ?_))));refine Zm ?_;refine Zv (aa.nilCheck rfl rfl) ?_;refine Zf 0 Tryz.underlying232 ?_;refine Zc (Ze Tryz.func174) ((bH B g [41] _ _ wr (by decide) (by simp only[List.length_append,List.length_cons,List.length_nil];omega)).1) ?_;clear wr;rintro e w2 ⟨⟨_,rfl⟩,fw2,wr⟩;refine⟨_,rfl,?_⟩;replace wt:=wt.wt fw2;refine bp 0 1 2 3 15 16 17 ?_;refine ab.eP rfl (.inr rfl) ?_;exact⟨⟨_,rfl⟩,wt,wr⟩
def Ek (B g L:Nat)(w:World)(e:Ex)(A:Option Addr):Prop:=∀(i:Nat) (x:Ex),e.args[i]? =some x→∃ad A' c',A=some ad∧
 (∀W,Below B w W→∀(j:Nat) (u:Value),([.int .i64 x.op, .int .i64 x.n, .string (strOf x.name), .slice A' x.args.length c']:List Value)[j]? =some u→W.cell? ((ad.add (i*4)).add j)=some u)∧
 (∀W bs' least,Below B w W→Bw W B g bs'→bw least→bs'.length≤L→Calls Tryz.prog 138 #[.pointer (some ⟨g,0,none⟩), .agg #[.int .i64 x.op, .int .i64 x.n, .string (strOf x.name), .slice A' x.args.length c'], .int .i64 least] W (gT B g (bs'++xV x least) W))
theorem sT (x:Ex):xV x 1=cC x:=by
 unfold xV jT;rw[if_neg (by have:=(nd x.op).2.2.1;show¬(bS x.op).2<1;omega)];rfl
theorem xw (B g L g3 g4 c i:Nat)(A:Option Addr)(e x:Ex)(bs:List Nat)(w W:World)(h:Ek B g L w e A)(hb:Below B w W)(k3:aH W g3 192 #[.pointer (some ⟨g,0,none⟩)]) (k4:aH W g4 105 #[.int .i64 e.op, .int .i64 e.n, .string (strOf e.name), .slice A e.args.length c]) (wr:Bw W B g bs) (hL:bs.length≤L) (hx:e.args[i]? =some x):
  Calls Tryz.prog 183 #[.int .i64 (i:Int), .pointer (some ⟨g3,0,none⟩), .pointer (some ⟨g4,0,none⟩)] W (gT B g (bs++cC x) W):=by
 obtain⟨ad,A',c',rfl,hc,hcall⟩:=h i x hx;have hi:=(List.getElem?_eq_some_iff.1 hx).1;have hBW:=wr.size;have hcall:=fun W' (hb2:Below W.heap.size W W') (wr':Bw W' B g bs)=>hcall W' bs 1 (hb.trans (hb2.mono hBW)) wr' (by unfold bw;omega) hL;rw[sT] at hcall;have hc:=fun W' (hb2:Below W.heap.size W W')=>hc W' (hb.trans (hb2.mono hBW));have bel:=Below.refl W.heap.size W;have wt:=Wt.refl B W;refine Zs 11 Tryz.func183 ?_;refine fV 6 ?_;intro w1 hw1 zw1;replace bel:=bel.step hw1;replace wt:=wt.step hw1;replace wr:=wr.step hw1;replace k3:=k3.step hw1;replace k4:=k4.step hw1;have zbel:=bel.size;have zlt:=k4.lt;refine eH Tryz.underlying192 k3 ?_;refine fp 3 Tryz.underlying105 ?_;refine eH Tryz.underlying68 k4 ?_;refine eJ ?_;refine Zd (fun w hG=>aa.aR rfl rfl rfl Tryz.underlying68 (s:=4) (by kernel_rfl) (j:=i) rfl (by omega)) ?_;refine Zd (fun w hG=>aa.bP (ps:=[.int .i64 x.op, .int .i64 x.n, .string (strOf x.name), .slice A' x.args.length c']) rfl rfl Tryz.underlying105 rfl (m:=4) (by kernel_rfl) rfl (hc _ (bel.step hG))) ?_;refine Dr.nil ?_;refine br.done (F':=[(0,_),(1,_),(2,_),(4,_),(9,_)]) rfl ⟨rfl,rfl,rfl,rfl,rfl,trivial⟩ ?_;intro w2 hw2 fw2;replace bel:=bel.step hw2;replace wt:=wt.step hw2;replace wr:=wr.step hw2;replace k3:=k3.step hw2;replace k4:=k4.step hw2;have hcc:=hcall _ bel wr;clear bel;refine Zc (Ze Tryz.func138) (hcc) ?_;clear wr;rintro e w3 ⟨⟨_,rfl⟩,fw3,wr⟩;refine⟨_,rfl,?_⟩;replace wt:=wt.wt fw3;refine bu 0 1 2 ?_;refine ab.eP rfl (.inr rfl) ?_;exact⟨⟨_,rfl⟩,wt,wr⟩
theorem Ed:∀args w,(callFunc 183 args).run Tryz.prog w= .ok (.enter 183 args) w:=fun args w=>aO Tryz.func183 (by kernel_rfl) rfl args w
theorem kF (B g L g3 g4 c:Nat)(A:Option Addr)(e:Ex)(word bs:List Nat)(w W:World)(h:Ek B g L w e A)(hb:Below B w W)(k3:aH W g3 192 #[.pointer (some ⟨g,0,none⟩)]) (k4:aH W g4 105 #[.int .i64 e.op, .int .i64 e.n, .string (strOf e.name), .slice A e.args.length c]) (wr:Bw W B g bs) (hL:bs.length+50000≤L) (hL2:L≤900000000)
  (hw:∀d∈word,d<256) (hwl:word.length≤100) (hbt:∀x∈e.args,bF x=true) (hn:e.args.length≤1000) (hj:(df (e.args.map cC)).length≤20000):
  Calls Tryz.prog 182 #[.string (strOf word), .pointer (some ⟨g3,0,none⟩), .pointer (some ⟨g4,0,none⟩)] W (gT B g (bs++word++[40]++df (e.args.map cC)++[41]) W):=by
 have wt:=Wt.refl B W;have hBW:=wr.size;have hl:(e.args.map cC).length=e.args.length:=List.length_map _
 have hlist:=vG B g 183 e.args.length [.pointer (some ⟨g3,0,none⟩), .pointer (some ⟨g4,0,none⟩)] word bs (e.args.map cC) W wr hw hwl hl hn (fun t ht=>by obtain⟨x,hx,rfl⟩:=List.mem_map.1 ht;exact(fN x.nodes x (Nat.le_refl _) (hbt x hx)).2) hj (by omega) Ed
  (fun i t ht W' bs' hwt hwr hlen=>by
   rw[List.getElem?_map] at ht
   cases hx:e.args[i]? with
   |none=>rw[hx] at ht;cases ht
   |some x=>
    rw[hx] at ht;injection ht with ht
    subst ht;exact xw B g L g3 g4 c i A e x bs' w W' h (hb.trans (hwt.to hBW)) (k3.wt hwt) (k4.wt hwt) hwr (by omega) hx)
 refine Zs 11 Tryz.func182 ?_;refine Zr ?_;refine ZL Tryz.underlying192 k3 ?_;refine Zm ?_;refine Zf 3 Tryz.underlying105 ?_;refine ZL Tryz.underlying68 k4 ?_;refine Zv (aa.len rfl rfl Tryz.underlying68) ?_;refine Zv (aa.makeFunc (v:= .func (.func 183) #[] #[.pointer (some ⟨g3,0,none⟩), .pointer (some ⟨g4,0,none⟩)]) rfl (show gR _ _=some [] from rfl) (show gR _ _=some [.pointer (some ⟨g3,0,none⟩), .pointer (some ⟨g4,0,none⟩)] from rfl) rfl) ?_;refine Zc (Ze Tryz.func175) (hlist) ?_;clear wr;rintro e w1 ⟨⟨_,rfl⟩,fw1,wr⟩;refine⟨_,rfl,?_⟩;replace wt:=wt.wt fw1;refine bu 0 1 2 ?_;refine ab.eP rfl (.inr rfl) ?_;exact⟨⟨_,rfl⟩,wt,wr⟩
theorem sK:∀args w,(callFunc 182 args).run Tryz.prog w= .ok (.enter 182 args) w:=fun args w=>aO Tryz.func182 (by kernel_rfl) rfl args w
theorem AG:∀args w,(callFunc 174 args).run Tryz.prog w= .ok (.enter 174 args) w:=fun args w=>aO Tryz.func174 (by kernel_rfl) rfl args w
def FL (Q:Exit→Act→World→Prop)(B g g3 g4 n m:Nat)(bs T:List Nat)(cs:Array Value)(w:World)(I:Inhabited (List Deferred))(wc:World):Prop:=
 Wt B w wc∧aH wc g3 192 #[.pointer (some ⟨g,0,none⟩)]∧aH wc g4 105 cs∧∃bs0,Bw wc B g bs0∧bs0.length≤m∧∀wx ex,(ex=Exit.ret∨ex=Exit.normal)→Wt B w wx→Bw wx B g (bs0++T)→ @ab I Q ex n [] wx
theorem Cd.Fw {P:Program}{Q:Exit→Act→World→Prop}{n:Nat}{F:List (Nat × Value)}{wc:World}{x y:Code}(F':List (Nat × Value))(B g g3 g4 m:Nat)(bs T:List Nat)(cs:Array Value)(w:World)(hx:Cd P x (Exit.then (Bs n F' (FL Q B g g3 g4 n m bs T cs w)) Q) n F wc)(hy:∀I w2,FL Q B g g3 g4 n m bs T cs w I w2→ @Cd I P y Q n F' w2):Cd P (.seq x y) Q n F wc:=Cd.FD F' _ hx hy
theorem r8 (N:Nat):∀(e:Ex) (B g:Nat) (bs:List Nat) (v:Value) (least:Int) (w:World),e.nodes≤N→e.nodes≤200→bF e=true→lE w B e v→Bw w B g bs→bw least→bs.length+100000*e.depth≤100000000→
  Calls Tryz.prog 138 #[.pointer (some ⟨g,0,none⟩),v, .int .i64 least] w (gT B g (bs++xV e least) w):=by
 induction N with
 |zero=>intro e B g bs v least w hN;have:=e.bU;omega
 |succ N ih=>
 intro e B g bs v least w hN h200 hbt hrep hbw hleast hbs;obtain⟨A,c,rfl,hv⟩:=hrep.open;have hbd:=fN e.nodes e (Nat.le_refl _) hbt;obtain⟨hh,hargs⟩:=mg hbt;obtain⟨h1,h2,h3,h4,h5,h6⟩:=nr hh;obtain⟨o1,o2,o3,o4,o5,o6⟩:=rh h1;obtain⟨b1,b2,b3,b4⟩:=nd e.op;have hBW:=hbw.size;have hT:=vL e;unfold xz at hT
 have hrec:Ek B g (bs.length+60000) w e A:=fun i x hx=>by
  obtain⟨ad,A',c',e1,e2,e3,e4⟩:=hv.arg i x hx;have hmem:=List.mem_of_getElem? hx;have hnd:=Ex.fK hmem;have hdp:=Ex.sc hmem;have hbx:=hargs x hmem;exact⟨ad,A',c',e1,fun W hb j u hu=>(hb.cell (by rw[ag,ag];omega)).trans (e4 j u hu),fun W bs' least hb hwr hls hlen=>ih x B g bs' _ least W (by omega) (by omega) hbx (e3.below hb) hwr hls (by omega)⟩
 have hjl:(df (e.args.map cC)).length≤20000:=by
  have:=np e.args fun z hz=>(fN z.nodes z (Nat.le_refl _) (hargs z hz)).1;have hn:e.nodes=1+bC e.args:=by cases e;exact Ex.fR _ _ _ _
  have:e.args.length≤3:=by omega
  omega
 have hl3:e.args.length≤3:=by omega
 have wt:=Wt.refl B w;have wr:=hbw;refine Calls.zU 114 Tryz.func138 rfl rfl rfl ?_;refine aj ?_;refine Seq.box rfl rfl rfl rfl rfl ?_;intro g3 w1 n3;replace wt:=wt.step n3.below;replace wr:=wr.step n3.below;have k3:=n3.ao;refine Seq.box rfl rfl rfl rfl rfl ?_;intro g4 w2 n4;have l4:=Nat.lt_of_lt_of_le k3.lt n4.ge;replace wt:=wt.step n4.below;replace wr:=wr.step n4.below;replace k3:=k3.step n4.below;have k4:=n4.ao;refine aU 0 1 2 3 4 (aB ?_);refine Zf 0 Tryz.underlying105 ?_;refine ZL Tryz.underlying3 k4 ?_;refine Zc (Ze Tryz.func181) (wM e.op _) ?_;rintro en w5 ⟨rfl,hb5⟩;refine⟨_,rfl,?_⟩;replace wt:=wt.step hb5;replace wr:=wr.step hb5;replace k3:=k3.step hb5;replace k4:=k4.step hb5;refine Zm ?_;refine Zx ?_;refine Zx ?_;refine Za ?_;refine Za ?_;refine bp 0 1 2 3 4 6 7 (Zt ?_);refine Cd.Fw [(3, .pointer (some ⟨g3,0,none⟩)),(4, .pointer (some ⟨g4,0,none⟩)),(6, .string (strOf (bS e.op).1)),(7, .int .i64 (bS e.op).2)] B g g3 g4 (bs.length+1) bs (cC e) #[.int .i64 e.op, .int .i64 e.n, .string (strOf e.name), .slice A e.args.length c] w ?_ ?_
 ·skip
  refine aj ?_;refine Zm ?_;refine Zm ?_;refine ff ?_;refine cn 0 1 2 3 4 6 7 18 (Zt ?_);refine Cd.au rfl (fun hc=> ?_) (fun hc=> ?_)
  ·have hin:xV e least=[40]++cC e++[41]:=by
    unfold xV jT;rw[if_pos (show(eA e).1<least from hc)];rfl
   refine aj ?_;refine ZL Tryz.underlying192 k3 ?_;refine Zv (aa.nilCheck rfl rfl) ?_;refine Zf 0 Tryz.underlying232 ?_;refine Zc (Ze Tryz.func174) ((bH B g [40] bs _ wr (by decide) (by simp only[List.length_cons,List.length_nil];omega)).1) ?_;clear wr;rintro e w3 ⟨⟨_,rfl⟩,fw3,wr⟩;refine⟨_,rfl,?_⟩;replace wt:=wt.wt fw3;replace k3:=k3.wt fw3;replace k4:=k4.wt fw3;refine cn 0 1 2 3 4 6 7 18 (dU ?_);refine ZL Tryz.underlying192 k3 ?_;refine Zv (aa.nilCheck rfl rfl) ?_;refine Zf 0 Tryz.underlying232 ?_;refine Seq.D7 rfl rfl rfl rfl ?_;intro I hI;refine cn 0 1 2 3 4 6 7 18 ?_;refine ab.DN ⟨rfl,rfl,rfl,rfl,trivial⟩ ⟨wt,k3,k4,bs++[40],wr,by simp,fun wx ex hex wtx wrx=> ?_⟩;refine ab.E5 hI rfl hex AG ((bH B g [41] _ wx wrx (by decide) (by simp only[List.length_append,List.length_cons,List.length_nil];omega)).2 .returning) fun en w' hw=> ?_;refine⟨hw.1,⟨_,rfl⟩,wtx.wt hw.2.1,?_⟩;rw[hin]
   simpa only[List.append_assoc] using hw.2.2
  ·have hin:xV e least=cC e:=by
    unfold xV jT;rw[if_neg (show¬(eA e).1<least from hc)];rfl
   refine Cd.skip ?_;refine ab.DN ⟨rfl,rfl,rfl,rfl,trivial⟩ ⟨wt,k3,k4,bs,wr,by omega,fun wx ex hex wtx wrx=> ?_⟩;refine ab.EF rfl hex ?_;rw[hin];exact⟨⟨_,rfl⟩,wtx,wrx⟩
 clear wt wr k3 k4;rintro I w8 ⟨wt,k3,k4,bs0,wr,hb0,hend⟩;have hpre:B≤w8.heap.size:=wr.size;refine aj ?_;refine Zv (aa.makeFunc (v:= .func (.func 182) #[] #[.pointer (some ⟨g3,0,none⟩), .pointer (some ⟨g4,0,none⟩)]) rfl (show gR _ _=some [] from rfl) (show gR _ _=some [.pointer (some ⟨g3,0,none⟩), .pointer (some ⟨g4,0,none⟩)] from rfl) rfl) ?_;refine Za ?_;refine aU 3 4 6 7 8 (aB ?_);refine Zf 0 Tryz.underlying105 ?_;refine ZL Tryz.underlying3 k4 ?_;refine bl 3 4 6 7 8 28 (Zt (Cd.block (aj ?_)));refine bq ?_;refine Za ?_;refine bp 3 4 6 7 8 28 56 (Zt ?_);refine Cd.au rfl (fun c1=> ?_) (fun c1=> ?_)
 ·rw[if_pos c1] at hT
  refine fV 6 ?_;intro w3 hw3 zw3;replace wt:=wt.step hw3;replace wr:=wr.step hw3;replace k3:=k3.step hw3;replace k4:=k4.step hw3;have zlt:=k4.lt;refine eH Tryz.underlying192 k3 ?_;refine Zd (fun w hG=>aa.nilCheck rfl rfl) ?_;refine fp 0 Tryz.underlying232 ?_;refine fp 1 Tryz.underlying105 ?_;refine eH Tryz.underlying2 k4 ?_;refine Dr.dm rfl (fun w=>Ze Tryz.func184) rfl (fun w hG=>zA e.n w hv.n) ?_;refine Dr.nil ?_;refine br.done (F':=[(3,_),(4,_),(6,_),(7,_),(8,_),(28,_),(56,_),(60,_),(63,_)]) rfl ⟨rfl,rfl,rfl,rfl,rfl,rfl,rfl,rfl,rfl,trivial⟩ ?_;intro w4 hw4 fw4;replace wt:=wt.step hw4;replace wr:=wr.step hw4;replace k3:=k3.step hw4;replace k4:=k4.step hw4;refine Zc (Ze Tryz.func174) ((bH B g (uY e.n) bs0 _ wr (xW _) (by have:=uK e.n;omega)).1) ?_;clear wr;rintro e w5 ⟨⟨_,rfl⟩,fw5,wr⟩;refine⟨_,rfl,?_⟩;replace wt:=wt.wt fw5;replace k3:=k3.wt fw5;replace k4:=k4.wt fw5;refine bp 3 4 6 7 8 28 56 (ab.ai ?_);refine ab.ef (F':=[]) trivial ?_;exact hend _ _ (.inr rfl) wt (by rw[hT];exact wr)
 rw[if_neg c1] at hT;refine aj ?_;refine bq ?_;refine Za ?_;refine cn 3 4 6 7 8 28 56 65 (Zt ?_);refine Cd.au rfl (fun c2=> ?_) (fun c2=> ?_)
 ·rw[if_pos c2] at hT
  have hday:∀W,Calls Tryz.prog 185 #[.int .i64 e.n] W fun e1 w'=>e1= .returned (.string (strOf (vr e.n.toNat)))∧Grow W w':=fun W=>by
   have:=tA e.n.toNat W (by have:=h5 c2;omega)
   rwa [Int.toNat_of_nonneg h4] at this
  refine fV 6 ?_;intro w3 hw3 zw3;replace wt:=wt.step hw3;replace wr:=wr.step hw3;replace k3:=k3.step hw3;replace k4:=k4.step hw3;have zlt:=k4.lt;refine eH Tryz.underlying192 k3 ?_;refine Zd (fun w hG=>aa.nilCheck rfl rfl) ?_;refine fp 0 Tryz.underlying232 ?_;refine fp 1 Tryz.underlying105 ?_;refine eH Tryz.underlying2 k4 ?_;refine Dr.dm rfl (fun w=>Ze Tryz.func185) rfl (fun w hG=>hday w) ?_;refine Dr.nil ?_;refine br.done (F':=[(3,_),(4,_),(6,_),(7,_),(8,_),(28,_),(56,_),(65,_),(69,_),(72,_)]) rfl ⟨rfl,rfl,rfl,rfl,rfl,rfl,rfl,rfl,rfl,rfl,trivial⟩ ?_;intro w4 hw4 fw4;replace wt:=wt.step hw4;replace wr:=wr.step hw4;replace k3:=k3.step hw4;replace k4:=k4.step hw4;refine Zc (Ze Tryz.func174) ((bH B g (vr e.n.toNat) bs0 _ wr (xH _) (by have:=uq e.n.toNat;omega)).1) ?_;clear wr;rintro e w5 ⟨⟨_,rfl⟩,fw5,wr⟩;refine⟨_,rfl,?_⟩;replace wt:=wt.wt fw5;replace k3:=k3.wt fw5;replace k4:=k4.wt fw5;refine cn 3 4 6 7 8 28 56 65 (ab.ai ?_);refine ab.ef (F':=[]) trivial ?_;exact hend _ _ (.inr rfl) wt (by rw[hT];exact wr)
 rw[if_neg c2] at hT;refine aj ?_;refine bq ?_;refine Za ?_;refine du 3 4 6 7 8 28 56 65 74 (Zt ?_);refine Cd.au rfl (fun c3=> ?_) (fun c3=> ?_)
 ·rw[if_pos c3] at hT
  refine fV 5 ?_;intro w3 hw3 zw3;replace wt:=wt.step hw3;replace wr:=wr.step hw3;replace k3:=k3.step hw3;replace k4:=k4.step hw3;have zlt:=k4.lt;refine eH Tryz.underlying192 k3 ?_;refine Zd (fun w hG=>aa.nilCheck rfl rfl) ?_;refine fp 0 Tryz.underlying232 ?_;refine fp 2 Tryz.underlying105 ?_;refine eH Tryz.underlying9 k4 ?_;refine Dr.nil ?_;refine br.done (F':=[(3,_),(4,_),(6,_),(7,_),(8,_),(28,_),(56,_),(65,_),(74,_),(78,_),(80,_)]) rfl ⟨rfl,rfl,rfl,rfl,rfl,rfl,rfl,rfl,rfl,rfl,rfl,trivial⟩ ?_;intro w4 hw4 fw4;replace wt:=wt.step hw4;replace wr:=wr.step hw4;replace k3:=k3.step hw4;replace k4:=k4.step hw4;refine Zc (Ze Tryz.func174) ((bH B g e.name bs0 _ wr (o8 (h6 c3)) (by have:=mM (h6 c3);omega)).1) ?_;clear wr;rintro e w5 ⟨⟨_,rfl⟩,fw5,wr⟩;refine⟨_,rfl,?_⟩;replace wt:=wt.wt fw5;replace k3:=k3.wt fw5;replace k4:=k4.wt fw5;refine du 3 4 6 7 8 28 56 65 74 (ab.ai ?_);refine ab.ef (F':=[]) trivial ?_;exact hend _ _ (.inr rfl) wt (by rw[hT];exact wr)
 rw[if_neg c3] at hT;refine aj ?_;refine bq ?_;refine Za ?_;refine ed 3 4 6 7 8 28 56 65 74 82 (Zt ?_);refine Cd.au rfl (fun c4=> ?_) (fun c4=> ?_)
 ·rw[if_pos c4] at hT
  refine Zr ?_;refine ZL Tryz.underlying192 k3 ?_;refine Zv (aa.nilCheck rfl rfl) ?_;refine Zf 0 Tryz.underlying232 ?_;refine Zc (Ze Tryz.func174) ((bH B g [100,97,121] bs0 _ wr (by decide) (by simp only[List.length_cons,List.length_nil];omega)).1) ?_;clear wr;rintro e w3 ⟨⟨_,rfl⟩,fw3,wr⟩;refine⟨_,rfl,?_⟩;replace wt:=wt.wt fw3;replace k3:=k3.wt fw3;replace k4:=k4.wt fw3;refine ed 3 4 6 7 8 28 56 65 74 82 (ab.ai ?_);refine ab.ef (F':=[]) trivial ?_;exact hend _ _ (.inr rfl) wt (by rw[hT];exact wr)
 rw[if_neg c4] at hT;refine aj ?_;refine bq ?_;refine Za ?_;refine bT 3 4 6 7 8 28 56 65 74 82 88 (Zt ?_);refine Cd.au rfl (fun c9=> ?_) (fun c9=> ?_)
 ·have hb:bS e.op=([],7):=by rw[c9];rfl
  rw[if_neg (by rw[hb];decide),if_neg (by rw[hb];decide),if_neg (by rw[hb];decide),if_pos c9,ld] at hT;refine Zr ?_;refine Zm ?_;refine Seq.call (Enters.value (first:=[]) (cap:=[.pointer (some ⟨g3,0,none⟩), .pointer (some ⟨g4,0,none⟩)]) rfl rfl rfl sK) rfl rfl rfl (kF B g (bs.length+60000) g3 g4 c A e [109,105,110] bs0 w _ hrec (wt.to hBW) k3 k4 wr (by omega) (by omega) (by decide) (by decide) hargs (by omega) hjl) ?_;clear wr;rintro en w9 ⟨⟨_,rfl⟩,f9,wr⟩;refine⟨_,rfl,?_⟩;replace wt:=wt.wt f9;refine bT 3 4 6 7 8 28 56 65 74 82 88 (ab.ai ?_);refine ab.ef (F':=[]) trivial ?_;exact hend _ _ (.inr rfl) wt (by rw[hT];simpa only[List.append_assoc,List.cons_append,List.nil_append] using wr)
 refine aj ?_;refine bq ?_;refine Za ?_;refine eS 3 4 6 7 8 28 56 65 74 82 88 92 (Zt ?_);refine Cd.au rfl (fun c10=> ?_) (fun c10=> ?_)
 ·have hb:bS e.op=([],7):=by rw[c10];rfl
  rw[if_neg (by rw[hb];decide),if_neg (by rw[hb];decide),if_neg (by rw[hb];decide),if_neg c9,if_pos c10,ld] at hT;refine Zr ?_;refine Zm ?_;refine Seq.call (Enters.value (first:=[]) (cap:=[.pointer (some ⟨g3,0,none⟩), .pointer (some ⟨g4,0,none⟩)]) rfl rfl rfl sK) rfl rfl rfl (kF B g (bs.length+60000) g3 g4 c A e [109,97,120] bs0 w _ hrec (wt.to hBW) k3 k4 wr (by omega) (by omega) (by decide) (by decide) hargs (by omega) hjl) ?_;clear wr;rintro en w9 ⟨⟨_,rfl⟩,f9,wr⟩;refine⟨_,rfl,?_⟩;replace wt:=wt.wt f9;refine eS 3 4 6 7 8 28 56 65 74 82 88 92 (ab.ai ?_);refine ab.ef (F':=[]) trivial ?_;exact hend _ _ (.inr rfl) wt (by rw[hT];simpa only[List.append_assoc,List.cons_append,List.nil_append] using wr)
 refine aj ?_;refine bq ?_;refine Za ?_;refine eN 3 4 6 7 8 28 56 65 74 82 88 92 96 (Zt ?_);refine Cd.au rfl (fun c21=> ?_) (fun c21=> ?_)
 ·have hb:bS e.op=([],7):=by rw[c21];rfl
  rw[if_neg (by rw[hb];decide),if_neg (by rw[hb];decide),if_neg (by rw[hb];decide),if_neg c9,if_neg c10,ld] at hT;refine Zr ?_;refine Zm ?_;refine Seq.call (Enters.value (first:=[]) (cap:=[.pointer (some ⟨g3,0,none⟩), .pointer (some ⟨g4,0,none⟩)]) rfl rfl rfl sK) rfl rfl rfl (kF B g (bs.length+60000) g3 g4 c A e [105,102] bs0 w _ hrec (wt.to hBW) k3 k4 wr (by omega) (by omega) (by decide) (by decide) hargs (by omega) hjl) ?_;clear wr;rintro en w9 ⟨⟨_,rfl⟩,f9,wr⟩;refine⟨_,rfl,?_⟩;replace wt:=wt.wt f9;refine eN 3 4 6 7 8 28 56 65 74 82 88 92 96 (ab.ai ?_);refine ab.ef (F':=[]) trivial ?_;exact hend _ _ (.inr rfl) wt (by rw[hT];simpa only[List.append_assoc,List.cons_append,List.nil_append] using wr)
 refine Cd.seq (aj ?_);refine bq ?_;refine Za ?_;refine jc 3 4 6 7 8 28 56 65 74 82 88 92 96 100 (Zt ?_);refine Cd.au rfl (fun c19=> ?_) (fun c19=> ?_)
 ·skip
  refine Cd.skip (Zt ?_);refine Cd.aY rfl (decide_eq_true c19) ?_;have hb:(bS e.op).2=6:=by rw[c19];rfl
  have hlen1:e.args.length=1:=o5 (by omega);obtain⟨x,hx⟩:∃x,e.args=[x]:=List.length_eq_one_iff.1 hlen1;obtain⟨ad,A0,A0',rfl,hcx,hcallx⟩:=hrec 0 x (by rw[hx];rfl);rw[if_pos hb,hx,show([x].map eA).getD 0 (7,[])=eA x from rfl] at hT;refine aj ?_;refine ZL Tryz.underlying192 k3 ?_;refine Zv (aa.nilCheck rfl rfl) ?_;refine Zf 0 Tryz.underlying232 ?_;refine Zm ?_;refine Zc (Ze Tryz.func174) ((bH B g (bS e.op).1 bs0 _ wr b2 (by omega)).1) ?_;clear wr;rintro e w3 ⟨⟨_,rfl⟩,fw3,wr⟩;refine⟨_,rfl,?_⟩;replace wt:=wt.wt fw3;replace k3:=k3.wt fw3;replace k4:=k4.wt fw3;refine jc 3 4 6 7 8 28 56 65 74 82 88 92 96 100 (Zt ?_);refine fV 5 ?_;intro w4 hw4 zw4;replace wt:=wt.step hw4;replace wr:=wr.step hw4;replace k3:=k3.step hw4;replace k4:=k4.step hw4;have zlt:=k4.lt;refine eH Tryz.underlying192 k3 ?_;refine fp 3 Tryz.underlying105 ?_;refine eH Tryz.underlying68 k4 ?_;refine Zd (fun w hG=>aa.aR rfl rfl rfl Tryz.underlying68 (s:=4) (by kernel_rfl) (j:=0) rfl (by omega)) ?_;refine Zd (fun w hG=>aa.bP (ps:=[.int .i64 x.op, .int .i64 x.n, .string (strOf x.name), .slice A0 x.args.length A0']) rfl rfl Tryz.underlying105 rfl (m:=4) (by kernel_rfl) rfl (hcx _ ((wt.to hBW).trans (hG.mono wr.size)))) ?_;refine Dr.nil ?_;refine br.done (F':=[(3,_),(4,_),(6,_),(7,_),(8,_),(28,_),(56,_),(65,_),(74,_),(82,_),(88,_),(92,_),(96,_),(100,_),(108,_),(112,_)]) rfl ⟨rfl,rfl,rfl,rfl,rfl,rfl,rfl,rfl,rfl,rfl,rfl,rfl,rfl,rfl,rfl,rfl,trivial⟩ ?_;intro w5 hw5 fw5;replace wt:=wt.step hw5;replace wr:=wr.step hw5;replace k3:=k3.step hw5;replace k4:=k4.step hw5;refine Zc (Ze Tryz.func138) (hcallx _ _ 6 (wt.to hBW) wr (by unfold bw;omega) (by rw[List.length_append];omega)) ?_;clear wr;rintro e w6 ⟨⟨_,rfl⟩,fw6,wr⟩;refine⟨_,rfl,?_⟩;replace wt:=wt.wt fw6;refine jc 3 4 6 7 8 28 56 65 74 82 88 92 96 100 (ab.ai ?_);refine ab.ef (F':=[]) trivial ?_;exact hend _ _ (.inr rfl) wt (by rw[hT];simpa only[List.append_assoc,xV] using wr)
 refine Zr ?_;refine bq ?_;refine Za ?_;refine jc 3 4 6 7 8 28 56 65 74 82 88 92 96 100 (Zt ?_);refine Cd.au rfl (fun c20=> ?_) (fun c20=> ?_)
 ·skip
  have hb:(bS e.op).2=6:=by rw[c20];rfl
  have hlen1:e.args.length=1:=o5 (by omega);obtain⟨x,hx⟩:∃x,e.args=[x]:=List.length_eq_one_iff.1 hlen1;obtain⟨ad,A0,A0',rfl,hcx,hcallx⟩:=hrec 0 x (by rw[hx];rfl);rw[if_pos hb,hx,show([x].map eA).getD 0 (7,[])=eA x from rfl] at hT;refine aj ?_;refine ZL Tryz.underlying192 k3 ?_;refine Zv (aa.nilCheck rfl rfl) ?_;refine Zf 0 Tryz.underlying232 ?_;refine Zm ?_;refine Zc (Ze Tryz.func174) ((bH B g (bS e.op).1 bs0 _ wr b2 (by omega)).1) ?_;clear wr;rintro e w3 ⟨⟨_,rfl⟩,fw3,wr⟩;refine⟨_,rfl,?_⟩;replace wt:=wt.wt fw3;replace k3:=k3.wt fw3;replace k4:=k4.wt fw3;refine jc 3 4 6 7 8 28 56 65 74 82 88 92 96 100 (Zt ?_);refine fV 5 ?_;intro w4 hw4 zw4;replace wt:=wt.step hw4;replace wr:=wr.step hw4;replace k3:=k3.step hw4;replace k4:=k4.step hw4;have zlt:=k4.lt;refine eH Tryz.underlying192 k3 ?_;refine fp 3 Tryz.underlying105 ?_;refine eH Tryz.underlying68 k4 ?_;refine Zd (fun w hG=>aa.aR rfl rfl rfl Tryz.underlying68 (s:=4) (by kernel_rfl) (j:=0) rfl (by omega)) ?_;refine Zd (fun w hG=>aa.bP (ps:=[.int .i64 x.op, .int .i64 x.n, .string (strOf x.name), .slice A0 x.args.length A0']) rfl rfl Tryz.underlying105 rfl (m:=4) (by kernel_rfl) rfl (hcx _ ((wt.to hBW).trans (hG.mono wr.size)))) ?_;refine Dr.nil ?_;refine br.done (F':=[(3,_),(4,_),(6,_),(7,_),(8,_),(28,_),(56,_),(65,_),(74,_),(82,_),(88,_),(92,_),(96,_),(100,_),(108,_),(112,_)]) rfl ⟨rfl,rfl,rfl,rfl,rfl,rfl,rfl,rfl,rfl,rfl,rfl,rfl,rfl,rfl,rfl,rfl,trivial⟩ ?_;intro w5 hw5 fw5;replace wt:=wt.step hw5;replace wr:=wr.step hw5;replace k3:=k3.step hw5;replace k4:=k4.step hw5;refine Zc (Ze Tryz.func138) (hcallx _ _ 6 (wt.to hBW) wr (by unfold bw;omega) (by rw[List.length_append];omega)) ?_;clear wr;rintro e w6 ⟨⟨_,rfl⟩,fw6,wr⟩;refine⟨_,rfl,?_⟩;replace wt:=wt.wt fw6;refine jc 3 4 6 7 8 28 56 65 74 82 88 92 96 100 (ab.ai ?_);refine ab.ef (F':=[]) trivial ?_;exact hend _ _ (.inr rfl) wt (by rw[hT];simpa only[List.append_assoc,xV] using wr)
 have hop:e.op=5∨e.op=6∨e.op=7∨e.op=8∨e.op=11∨e.op=12∨e.op=13∨e.op=14∨e.op=15∨e.op=16∨e.op=17∨e.op=18:=by omega
 have hp:(bS e.op).2<6:=by rcases hop with h|h|h|h|h|h|h|h|h|h|h|h<;>rw[h]<;>decide
 have hlen2:e.args.length=2:=o4 (by omega) (by omega)
 obtain⟨x,y,hxy⟩:∃x y,e.args=[x,y]:=by
  cases h:e.args with
  |nil=>rw[h] at hlen2;simp at hlen2
  |cons x r=>cases r with
   |nil=>rw[h] at hlen2;simp at hlen2
   |cons y r=>cases r with
    |nil=>exact⟨x,y,rfl⟩
    |cons z r=>rw[h] at hlen2;simp at hlen2
 obtain⟨ad,A0,A0',rfl,hcx,hcallx⟩:=hrec 0 x (by rw[hxy];rfl);obtain⟨ad',A1,A1',had,hcy,hcally⟩:=hrec 1 y (by rw[hxy];rfl);injection had with had
 subst had
 have hil:∀l,(xV x l).length≤20000:=fun l=>by
  have h1:=(vn l (eA x)).1;have e1:(eA x).2=cC x:=rfl;have h2:=(fN x.nodes x (Nat.le_refl _) (hargs x (by rw[hxy];exact List.mem_cons_self))).1;have h3:x.nodes<e.nodes:=Ex.fK (by rw[hxy];exact List.mem_cons_self);rw[e1] at h1;unfold xV;omega
 rw[if_neg (by omega),hxy,show([x,y].map eA).getD 0 (7,[])=eA x from rfl,show([x,y].map eA).getD 1 (7,[])=eA y from rfl] at hT;refine aj ?_;refine Zm ?_;refine Za ?_;refine CX 3 4 6 7 8 9 28 56 65 74 82 88 92 96 100 (aJ (aj ?_));refine Zm ?_;refine bq ?_;refine lB 3 4 6 7 8 9 28 31 56 65 74 82 88 92 96 100 (Zt ?_);refine Cd.au rfl (fun c3'=> ?_) (fun c3'=> ?_)
 ·rw[if_pos c3',show(4:Int)=(bS e.op).2+1 by omega] at hT
  refine Zr ?_;refine Zm ?_;refine dt ?_;refine Za ?_;refine lB 3 4 6 7 8 9 28 31 56 65 74 82 88 92 96 100 (aJ ?_);refine fV 6 ?_;intro w3 hw3 zw3;replace wt:=wt.step hw3;replace wr:=wr.step hw3;replace k3:=k3.step hw3;replace k4:=k4.step hw3;have zlt:=k4.lt;refine eH Tryz.underlying192 k3 ?_;refine fp 3 Tryz.underlying105 ?_;refine eH Tryz.underlying68 k4 ?_;refine Zd (fun w hG=>aa.aR rfl rfl rfl Tryz.underlying68 (s:=4) (by kernel_rfl) (j:=0) rfl (by omega)) ?_;refine Zd (fun w hG=>aa.bP (ps:=[.int .i64 x.op, .int .i64 x.n, .string (strOf x.name), .slice A0 x.args.length A0']) rfl rfl Tryz.underlying105 rfl (m:=4) (by kernel_rfl) rfl (hcx _ ((wt.to hBW).trans (hG.mono wr.size)))) ?_;refine eJ ?_;refine Dr.nil ?_;refine br.done (F':=[(3,_),(4,_),(6,_),(7,_),(8,_),(9,_),(28,_),(31,_),(34,_),(38,_),(39,_),(56,_),(65,_),(74,_),(82,_),(88,_),(92,_),(96,_),(100,_)]) rfl ⟨rfl,rfl,rfl,rfl,rfl,rfl,rfl,rfl,rfl,rfl,rfl,rfl,rfl,rfl,rfl,rfl,rfl,rfl,rfl,trivial⟩ ?_;intro w4 hw4 fw4;replace wt:=wt.step hw4;replace wr:=wr.step hw4;replace k3:=k3.step hw4;replace k4:=k4.step hw4;refine Zc (Ze Tryz.func138) (hcallx _ _ ((bS e.op).2+1) (wt.to hBW) wr (by unfold bw;omega) (by omega)) ?_;clear wr;rintro e w5 ⟨⟨_,rfl⟩,fw5,wr⟩;refine⟨_,rfl,?_⟩;replace wt:=wt.wt fw5;replace k3:=k3.wt fw5;replace k4:=k4.wt fw5;refine lB 3 4 6 7 8 9 28 31 56 65 74 82 88 92 96 100 (aB ?_);refine ZL Tryz.underlying192 k3 ?_;refine Zv (aa.nilCheck rfl rfl) ?_;refine Zf 0 Tryz.underlying232 ?_;refine Zm ?_;refine Zv (aa.rC (a:=[32]) rfl rfl rfl (by simp only[List.length_cons,List.length_nil];omega)) ?_;refine Zv (aa.rC (b:=[32]) rfl rfl rfl (by simp only[List.length_append,List.length_cons,List.length_nil];omega)) ?_;have i0:=hil ((bS e.op).2+1);refine Zc (Ze Tryz.func174) ((bH B g ([32]++(bS e.op).1++[32]) _ _ wr (Dn (by decide) b2 (by decide)) (by simp only[List.length_append,List.length_cons,List.length_nil];omega)).1) ?_;clear wr;rintro e w6 ⟨⟨_,rfl⟩,fw6,wr⟩;refine⟨_,rfl,?_⟩;replace wt:=wt.wt fw6;replace k3:=k3.wt fw6;replace k4:=k4.wt fw6;refine lB 3 4 6 7 8 9 28 31 56 65 74 82 88 92 96 100 (Zt ?_);refine fV 7 ?_;intro w7 hw7 zw7;replace wt:=wt.step hw7;replace wr:=wr.step hw7;replace k3:=k3.step hw7;replace k4:=k4.step hw7;have zlt:=k4.lt;refine eH Tryz.underlying192 k3 ?_;refine fp 3 Tryz.underlying105 ?_;refine eH Tryz.underlying68 k4 ?_;refine Zd (fun w hG=>aa.aR rfl rfl rfl Tryz.underlying68 (s:=4) (by kernel_rfl) (j:=1) rfl (by omega)) ?_;refine Zd (fun w hG=>aa.bP (ps:=[.int .i64 y.op, .int .i64 y.n, .string (strOf y.name), .slice A1 y.args.length A1']) rfl rfl Tryz.underlying105 rfl (m:=4) (by kernel_rfl) rfl (hcy _ ((wt.to hBW).trans (hG.mono wr.size)))) ?_;refine eJ ?_;refine Zd (fun w hG=>aa.qR rfl rfl rfl (by omega) (by omega)) ?_;refine Dr.nil ?_;refine br.done (F':=[(3,_),(4,_),(6,_),(7,_),(8,_),(9,_),(28,_),(31,_),(48,_),(52,_),(54,_),(56,_),(65,_),(74,_),(82,_),(88,_),(92,_),(96,_),(100,_)]) rfl ⟨rfl,rfl,rfl,rfl,rfl,rfl,rfl,rfl,rfl,rfl,rfl,rfl,rfl,rfl,rfl,rfl,rfl,rfl,rfl,trivial⟩ ?_;intro w8 hw8 fw8;replace wt:=wt.step hw8;replace wr:=wr.step hw8;replace k3:=k3.step hw8;replace k4:=k4.step hw8;refine Zc (Ze Tryz.func138) (hcally _ _ ((bS e.op).2+1) (wt.to hBW) wr (by unfold bw;omega) (by simp only[List.length_append,List.length_cons,List.length_nil];omega)) ?_;clear wr;rintro e w9 ⟨⟨_,rfl⟩,fw9,wr⟩;refine⟨_,rfl,?_⟩;replace wt:=wt.wt fw9;refine lB 3 4 6 7 8 9 28 31 56 65 74 82 88 92 96 100 (ab.ai ?_);refine ab.ef (F':=[]) trivial ?_;exact hend _ _ (.inr rfl) wt (by rw[hT];simpa only[List.append_assoc,xV] using wr)
 ·rw[if_neg c3',if_pos hp] at hT
  refine Cd.skip (aJ ?_);refine fV 6 ?_;intro w3 hw3 zw3;replace wt:=wt.step hw3;replace wr:=wr.step hw3;replace k3:=k3.step hw3;replace k4:=k4.step hw3;have zlt:=k4.lt;refine eH Tryz.underlying192 k3 ?_;refine fp 3 Tryz.underlying105 ?_;refine eH Tryz.underlying68 k4 ?_;refine Zd (fun w hG=>aa.aR rfl rfl rfl Tryz.underlying68 (s:=4) (by kernel_rfl) (j:=0) rfl (by omega)) ?_;refine Zd (fun w hG=>aa.bP (ps:=[.int .i64 x.op, .int .i64 x.n, .string (strOf x.name), .slice A0 x.args.length A0']) rfl rfl Tryz.underlying105 rfl (m:=4) (by kernel_rfl) rfl (hcx _ ((wt.to hBW).trans (hG.mono wr.size)))) ?_;refine eJ ?_;refine Dr.nil ?_;refine br.done (F':=[(3,_),(4,_),(6,_),(7,_),(8,_),(9,_),(28,_),(31,_),(34,_),(38,_),(39,_),(56,_),(65,_),(74,_),(82,_),(88,_),(92,_),(96,_),(100,_)]) rfl ⟨rfl,rfl,rfl,rfl,rfl,rfl,rfl,rfl,rfl,rfl,rfl,rfl,rfl,rfl,rfl,rfl,rfl,rfl,rfl,trivial⟩ ?_;intro w4 hw4 fw4;replace wt:=wt.step hw4;replace wr:=wr.step hw4;replace k3:=k3.step hw4;replace k4:=k4.step hw4;refine Zc (Ze Tryz.func138) (hcallx _ _ (bS e.op).2 (wt.to hBW) wr (by unfold bw;omega) (by omega)) ?_;clear wr;rintro e w5 ⟨⟨_,rfl⟩,fw5,wr⟩;refine⟨_,rfl,?_⟩;replace wt:=wt.wt fw5;replace k3:=k3.wt fw5;replace k4:=k4.wt fw5;refine lB 3 4 6 7 8 9 28 31 56 65 74 82 88 92 96 100 (aB ?_);refine ZL Tryz.underlying192 k3 ?_;refine Zv (aa.nilCheck rfl rfl) ?_;refine Zf 0 Tryz.underlying232 ?_;refine Zm ?_;refine Zv (aa.rC (a:=[32]) rfl rfl rfl (by simp only[List.length_cons,List.length_nil];omega)) ?_;refine Zv (aa.rC (b:=[32]) rfl rfl rfl (by simp only[List.length_append,List.length_cons,List.length_nil];omega)) ?_;have i0:=hil (bS e.op).2;refine Zc (Ze Tryz.func174) ((bH B g ([32]++(bS e.op).1++[32]) _ _ wr (Dn (by decide) b2 (by decide)) (by simp only[List.length_append,List.length_cons,List.length_nil];omega)).1) ?_;clear wr;rintro e w6 ⟨⟨_,rfl⟩,fw6,wr⟩;refine⟨_,rfl,?_⟩;replace wt:=wt.wt fw6;replace k3:=k3.wt fw6;replace k4:=k4.wt fw6;refine lB 3 4 6 7 8 9 28 31 56 65 74 82 88 92 96 100 (Zt ?_);refine fV 7 ?_;intro w7 hw7 zw7;replace wt:=wt.step hw7;replace wr:=wr.step hw7;replace k3:=k3.step hw7;replace k4:=k4.step hw7;have zlt:=k4.lt;refine eH Tryz.underlying192 k3 ?_;refine fp 3 Tryz.underlying105 ?_;refine eH Tryz.underlying68 k4 ?_;refine Zd (fun w hG=>aa.aR rfl rfl rfl Tryz.underlying68 (s:=4) (by kernel_rfl) (j:=1) rfl (by omega)) ?_;refine Zd (fun w hG=>aa.bP (ps:=[.int .i64 y.op, .int .i64 y.n, .string (strOf y.name), .slice A1 y.args.length A1']) rfl rfl Tryz.underlying105 rfl (m:=4) (by kernel_rfl) rfl (hcy _ ((wt.to hBW).trans (hG.mono wr.size)))) ?_;refine eJ ?_;refine Zd (fun w hG=>aa.qR rfl rfl rfl (by omega) (by omega)) ?_;refine Dr.nil ?_;refine br.done (F':=[(3,_),(4,_),(6,_),(7,_),(8,_),(9,_),(28,_),(31,_),(48,_),(52,_),(54,_),(56,_),(65,_),(74,_),(82,_),(88,_),(92,_),(96,_),(100,_)]) rfl ⟨rfl,rfl,rfl,rfl,rfl,rfl,rfl,rfl,rfl,rfl,rfl,rfl,rfl,rfl,rfl,rfl,rfl,rfl,rfl,trivial⟩ ?_;intro w8 hw8 fw8;replace wt:=wt.step hw8;replace wr:=wr.step hw8;replace k3:=k3.step hw8;replace k4:=k4.step hw8;refine Zc (Ze Tryz.func138) (hcally _ _ ((bS e.op).2+1) (wt.to hBW) wr (by unfold bw;omega) (by simp only[List.length_append,List.length_cons,List.length_nil];omega)) ?_;clear wr;rintro e w9 ⟨⟨_,rfl⟩,fw9,wr⟩;refine⟨_,rfl,?_⟩;replace wt:=wt.wt fw9;refine lB 3 4 6 7 8 9 28 31 56 65 74 82 88 92 96 100 (ab.ai ?_);refine ab.ef (F':=[]) trivial ?_;exact hend _ _ (.inr rfl) wt (by rw[hT];simpa only[List.append_assoc,xV] using wr)
def eX (right:Bool)(T:List Nat):List Nat × Int:=if right=false then([],1) else if 4000<T.length then([],4) else(T,0)
theorem nc (w:World):(Instr.build 232 #[]).run Tryz.prog w= .ok (.agg #[.pointer none, .slice none 0 0]) w:=by kernel_rfl
theorem ou (right:Bool)(T:List Nat)(f:Nat)(cp:List Value)(w:World)(eg:∀args w,(callFunc f args).run Tryz.prog w= .ok (.enter f args) w)(hTl:T.length≤1000000)
  (hw:right=true→∀W g,Below w.heap.size w W→Bw W w.heap.size g []→Calls Tryz.prog f ([]++[Value.pointer (some ⟨g,0,none⟩)]++cp).toArray W (gT w.heap.size g T W)):
  Calls Tryz.prog 129 #[.bool right, .func (.func f) #[] cp.toArray] w fun e w'=>e= .returned (.tuple #[.string (strOf (eX right T).1), .int .i64 (eX right T).2])∧Grow w w':=by
 have bel:=Below.refl w.heap.size w;unfold eX;refine Zs 23 Tryz.func129 ?_;refine aj ?_;refine Za ?_;refine Za ?_;refine aZ 0 1 4 5 (aJ (aj ?_));refine Zm ?_;refine iC ?_;refine aU 0 1 4 5 8 (Zt ?_);refine Cd.cond rfl (fun hc=> ?_) (fun hc=> ?_)
 ·obtain rfl:right=false:=by simpa using hc
  refine aj ?_;refine Za ?_;refine Za ?_;refine aU 0 1 4 5 8 (Zt (Cd.ret (ab.af ?_)));refine dO ?_;exact⟨rfl,bel⟩
 ·obtain rfl:right=true:=by simpa using hc
  have hw:=hw rfl;refine Cd.skip (aB ?_);refine Zv (aa.build rfl rfl (nc _)) ?_;refine Seq.box rfl rfl rfl rfl rfl ?_;intro g10 w1 n10;have e10:=Nat.le_trans bel.size n10.ge;replace bel:=bel.step n10.below;have k10:=n10.ao;refine Za ?_;refine bl 0 1 4 5 6 8 (aB ?_);refine Zm ?_;refine Zm ?_;have wr:Bw _ w.heap.size g10 []:=⟨e10,fun d hd=>(by cases hd),_,_, .inl rfl,k10,Own.nil _ _ _ _,fun _=>rfl⟩;have wt:=Wt.grow (B:=w.heap.size) bel;refine Seq.call (Enters.value (first:=[]) rfl rfl rfl eg) rfl rfl rfl (hw _ g10 bel wr) ?_;clear wr;rintro en w9 ⟨⟨_,rfl⟩,f9,wr⟩;refine⟨_,rfl,?_⟩;replace wt:=wt.wt f9;refine bl 0 1 4 5 6 8 (aJ (aj ?_));refine Zm ?_;refine Zv (aa.nilCheck rfl rfl) ?_;refine Zf 0 Tryz.underlying232 ?_;have hBw:=wr.size;refine Zc (Ze Tryz.func172) (Ad w.heap.size g10 _ _ wr) ?_;rintro en w10 ⟨rfl,hb10⟩;refine⟨_,rfl,?_⟩;replace wt:=wt.step hb10;replace wr:=wr.step hb10;refine tU ?_;refine bp 0 1 4 5 6 8 18 (Zt ?_);refine Cd.au rfl (fun hc=> ?_) (fun hc=> ?_)
  ·skip
   refine aj ?_;refine Za ?_;refine Za ?_;refine bp 0 1 4 5 6 8 18 (Zt (Cd.ret (ab.af ?_)));refine dO ?_;rw[if_neg (by decide),if_pos (by omega)];exact⟨rfl,wt.to (Nat.le_refl _)⟩
  ·skip
   refine Cd.skip (aB ?_);refine Zm ?_;refine Zv (aa.nilCheck rfl rfl) ?_;refine Zf 0 Tryz.underlying232 ?_;refine Zc (Ze Tryz.func173) (va w.heap.size g10 _ _ wr (by omega)) ?_;rintro en w11 ⟨rfl,hb11⟩;refine⟨_,rfl,?_⟩;have hfin:=(wt.to (Nat.le_refl _)).trans hb11;refine Za ?_;refine Za ?_;refine bp 0 1 4 5 6 8 18 (Zt (Cd.ret ?_));refine dO ?_;rw[if_neg (by decide),if_neg (by omega)];exact⟨by simp,hfin⟩
theorem vz (e:Ex)(A:Option Addr)(B g g1 c:Nat)(w W:World)(hbt:bF e=true)(h200:e.nodes≤200)(hrep:lE w B (e) (.agg #[.int .i64 e.op, .int .i64 e.n, .string (strOf e.name), .slice A e.args.length c])) (hb:Below B w W) (k1:aH W g1 105 #[.int .i64 e.op, .int .i64 e.n, .string (strOf e.name), .slice A e.args.length c]) (wr:Bw W B g []):
  Calls Tryz.prog 137 #[.pointer (some ⟨g,0,none⟩), .pointer (some ⟨g1,0,none⟩)] W (gT B g (cC e) W):=by
 have hdn:=e.bh;have hex:=r8 e.nodes e B g [] _ 1 W (Nat.le_refl _) h200 hbt (hrep.below hb) wr (by unfold bw;omega) (by simp only[List.length_nil];omega);rw[sT,List.nil_append] at hex;have wt:=Wt.refl B W;refine Zs 6 Tryz.func137 ?_;refine Zr ?_;refine Zm ?_;refine ZW 4 Tryz.underlying105 k1 ?_;refine Zc (Ze Tryz.func138) (hex) ?_;clear wr;rintro e w1 ⟨⟨_,rfl⟩,fw1,wr⟩;refine⟨_,rfl,?_⟩;replace wt:=wt.wt fw1;refine dM 0 1 ?_;refine ab.eP rfl (.inr rfl) ?_;exact⟨⟨_,rfl⟩,wt,wr⟩
theorem zV:∀args w,(callFunc 137 args).run Tryz.prog w= .ok (.enter 137 args) w:=fun args w=>aO Tryz.func137 (by kernel_rfl) rfl args w
def ij (e:Ex):List Nat × Int:=eX (dc e) (cC e)
theorem rK (e:Ex)(v:Value)(w:World)(hd:e.depth≤900)(hrep:lE w w.heap.size e v):Calls Tryz.prog 95 #[v] w fun en w'=>en= .returned (.tuple #[.string (strOf (ij e).1), .int .i64 (ij e).2])∧Grow w w':=by
 obtain⟨A,c,rfl,hv⟩:=hrep.open;have bel:=Below.refl w.heap.size w
 have hpr:ij e=eX (dc e) (if dc e=true then cC e else []):=by
  unfold ij eX
  cases dc e<;>rfl
 rw[hpr];have hre:∀W,Below w.heap.size w W→Calls Tryz.prog 136 #[.agg #[.int .i64 e.op, .int .i64 e.n, .string (strOf e.name), .slice A e.args.length c]] W fun en w'=>en= .returned (.bool (dc e))∧Grow W w':=fun W hb=>lP e w.heap.size _ W hd (hrep.below hb) hb.size
 have hTl:(if dc e=true then cC e else []).length≤1000000:=by
  split
  ·rename_i h
   unfold dc at h;simp at h;have:=(fN e.nodes e (Nat.le_refl _) h.2).1;omega
  ·simp
 refine Zs 10 Tryz.func95 ?_;refine aj ?_;refine Seq.box rfl rfl rfl rfl rfl ?_;intro g1 w1 n1;have e1:=Nat.le_trans bel.size n1.ge;replace bel:=bel.step n1.below;have k1:=n1.ao;refine Za ?_;refine Za ?_;refine aZ 0 1 2 3 (aB ?_);refine ZW 4 Tryz.underlying105 k1 ?_;refine Zc (Ze Tryz.func136) (hre _ bel) ?_;rintro en w5 ⟨rfl,hb5⟩;refine⟨_,rfl,?_⟩;replace bel:=bel.step hb5;replace k1:=k1.step hb5;refine Zv (aa.makeFunc (v:= .func (.func 137) #[] #[.pointer (some ⟨g1,0,none⟩)]) rfl (show gR _ _=some [] from rfl) (show gR _ _=some [.pointer (some ⟨g1,0,none⟩)] from rfl) rfl) ?_;refine Zc (Ze Tryz.func129) (ou (dc e) (if dc e=true then cC e else []) 137 [.pointer (some ⟨g1,0,none⟩)] _ zV hTl (fun hr W g hb hw=>by rw[if_pos hr];unfold dc at hr;simp at hr;exact vz e A _ g g1 c _ W hr.2 hr.1.1 ((hrep.below bel).more bel.size) hb (k1.step hb) hw)) ?_;rintro en w6 ⟨rfl,hb6⟩;refine⟨_,rfl,?_⟩;replace bel:=bel.step hb6;replace k1:=k1.step hb6;refine Zx ?_;refine Zx ?_;refine Za ?_;refine Za ?_;refine aZ 0 1 2 3 (Zt (Cd.ret ?_));refine dO ?_;exact⟨rfl,bel⟩
theorem oo (a b:Int)(w:World):(Instr.build 105 #[(0, .int .i64 a),(1, .int .i64 b)]).run Tryz.prog w= .ok (.agg #[.int .i64 a, .int .i64 b, .string (strOf []), .slice none 0 0]) w:=by
 have hu:=Tryz.underlying105
 go_simp
 rfl
theorem vj (a:Int)(g:Nat)(w:World):(Instr.build 105 #[(0, .int .i64 a),(3, .slice (some ⟨g,0,none⟩) 2 2)]).run Tryz.prog w= .ok (.agg #[.int .i64 a, .int .i64 0, .string (strOf []), .slice (some ⟨g,0,none⟩) 2 2]) w:=by
 have hu:=Tryz.underlying105
 go_simp
 rfl
inductive Tm where
 |mk (op:Int) (name:List Nat) (exprs:List Ex) (ar:List Tm)
def Tm.op:Tm→Int| .mk op _ _ _=>op
def Tm.name:Tm→List Nat| .mk _ nm _ _=>nm
def Tm.exprs:Tm→List Ex| .mk _ _ l _=>l
def Tm.ar:Tm→List Tm| .mk _ _ _ l=>l
mutual
def Tm.nodes:Tm→Nat
 | .mk _ _ es l=>1+bC es+eh l
def eh:List Tm→Nat
 | []=>0
 |e::r=>e.nodes+eh r
end
mutual
def Tm.depth:Tm→Nat
 | .mk _ _ es l=>1+max (bD es) (da l)
def da:List Tm→Nat
 | []=>0
 |e::r=>max e.depth (da r)
end
theorem Tm.fR (op:Int)(nm:List Nat)(es:List Ex)(l:List Tm):(Tm.mk op nm es l).nodes=1+bC es+eh l:=by rw[Tm.nodes]
theorem Tm.ei (op:Int)(nm:List Nat)(es:List Ex)(l:List Tm):(Tm.mk op nm es l).depth=1+max (bD es) (da l):=by rw[Tm.depth]
theorem Tm.mP (t:Tm):t.nodes=1+bC t.exprs+eh t.ar:=by cases t;exact Tm.fR _ _ _ _
theorem Tm.mG (t:Tm):t.depth=1+max (bD t.exprs) (da t.ar):=by cases t;exact Tm.ei _ _ _ _
theorem wG {l:List Tm}{t:Tm}(h:t∈l):t.nodes≤eh l:=by
 induction l with
 |nil=>cases h
 |cons x r ih=>
  unfold eh;rcases List.mem_cons.1 h with rfl|h
  ·omega
  ·have:=ih h;omega
theorem xi {l:List Tm}{t:Tm}(h:t∈l):t.depth≤da l:=by
 induction l with
 |nil=>cases h
 |cons x r ih=>
  unfold da;rcases List.mem_cons.1 h with rfl|h
  ·omega
  ·have:=ih h;omega
theorem Tm.eW {t x:Tm}(h:x∈t.ar):x.nodes<t.nodes:=by have:=wG h;have:=t.mP;omega
theorem Tm.qO {t x:Tm}(h:x∈t.ar):x.depth<t.depth:=by have:=xi h;have:=t.mG;omega
theorem Tm.wQ {t:Tm}{x:Ex}(h:x∈t.exprs):x.nodes<t.nodes:=by have:=qx h;have:=t.mP;omega
theorem Tm.wy {t:Tm}{x:Ex}(h:x∈t.exprs):x.depth<t.depth:=by have:=rb h;have:=t.mG;omega
theorem Tm.bU (t:Tm):0<t.nodes:=by have:=t.mP;omega
mutual
theorem Tm.bh:∀t:Tm,t.depth≤t.nodes
 | .mk _ _ es l=>by unfold Tm.depth Tm.nodes;have:=jb l;have:=eD es;omega
theorem jb:∀l:List Tm,da l≤eh l
 | []=>Nat.le_refl _
 |e::r=>by unfold da eh;have:=Tm.bh e;have:=jb r;omega
end
inductive dR (w:World)(S:Nat→Prop):Tm→Value→Prop
 |mk {op:Int} {nm:List Nat} {es:List Ex} {ts:List Tm} {A A':Option Addr} {c c':Nat} {vs us:List Value} (hl:vs.length=es.length) (hl':us.length=ts.length) (dX:es.length≤1000) (iD:ts.length≤1000) (hop:bw op) (hnm:∀d∈nm,d<256) (hnl:nm.length≤9223372036854775807)
   (hr:∀(i:Nat) (e:Ex) (v:Value),es[i]? =some e→vs[i]? =some v→cr w S e v) (hr':∀(i:Nat) (t:Tm) (v:Value),ts[i]? =some t→us[i]? =some v→dR w S t v) (hA:Rows w S A (ax vs)) (hA':Rows w S A' (ax us)):dR w S (.mk op nm es ts) (.agg #[.int .i64 op, .string (strOf nm), .slice A es.length c, .slice A' ts.length c'])
theorem Rows.mono {w w':World}{S S':Nat→Prop}{A:Option Addr}{xs:List Value}(h:Rows w S A xs)(hS:∀b,S b→S' b)(hc:∀p:Addr,S p.block→w'.cell? p=w.cell? p):Rows w' S' A xs:=fun hne=>by
 obtain⟨ad,e1,e2,e3⟩:=h hne;exact⟨ad,e1,hS _ e2,fun j u hu=>(hc _ (by rw[ag];exact e2)).trans (e3 j u hu)⟩
theorem dR.mono {w w':World}{S S':Nat→Prop}{t:Tm}{v:Value}(h:dR w S t v)(hS:∀b,S b→S' b)(hc:∀p:Addr,S p.block→w'.cell? p=w.cell? p):dR w' S' t v:=by
 induction h with
 |mk hl hl' dX iD hop hnm hnl hr hr' hA hA' ih=>exact .mk hl hl' dX iD hop hnm hnl (fun i e v he hv=>(hr i e v he hv).mono hS hc) ih (hA.mono hS hc) (hA'.mono hS hc)
def fv (w:World)(B:Nat)(t:Tm)(v:Value):Prop:=dR w (· <B) t v
theorem fv.below {w w':World}{B:Nat}{t:Tm}{v:Value}(h:fv w B t v)(hb:Below B w w'):fv w' B t v:=dR.mono h (fun _ h=>h) (fun _ hp=>hb.cell hp)
theorem fv.more {w:World}{B B':Nat}{t:Tm}{v:Value}(h:fv w B t v)(hb:B≤B'):fv w B' t v:=dR.mono h (fun _ h=>Nat.lt_of_lt_of_le h hb) (fun _ _=>rfl)
theorem dR.kN {w:World}{S:Nat→Prop}{t:Tm}{v:Value}(h:dR w S t v):v.cells.size=4:=by
 cases h;rfl
theorem dR.form {w:World}{S:Nat→Prop}{t:Tm}{v:Value}(h:dR w S t v):∃A c A' c',v= .agg #[.int .i64 t.op, .string (strOf t.name), .slice A t.exprs.length c, .slice A' t.ar.length c']:=by
 cases h;exact⟨_,_,_,_,rfl⟩
def oJ (w:World)(B:Nat)(es:List Ex)(A:Option Addr):Prop:=∀i x,es[i]? =some x→∃ad A' c',A=some ad∧ad.block<B∧lE w B x (.agg #[.int .i64 x.op, .int .i64 x.n, .string (strOf x.name), .slice A' x.args.length c'])∧∀(j:Nat) (u:Value),([.int .i64 x.op, .int .i64 x.n, .string (strOf x.name), .slice A' x.args.length c']:List Value)[j]? =some u→w.cell? ((ad.add (i*4)).add j)=some u
def Dz (x:Tm)(A A':Option Addr)(c c':Nat):List Value:=[.int .i64 x.op, .string (strOf x.name), .slice A x.exprs.length c, .slice A' x.ar.length c']
def qF (w:World)(B:Nat)(ts:List Tm)(A:Option Addr):Prop:=∀i x,ts[i]? =some x→∃ad A1 A2 c1 c2,A=some ad∧ad.block<B∧fv w B x (.agg #[.int .i64 x.op, .string (strOf x.name), .slice A1 x.exprs.length c1, .slice A2 x.ar.length c2])∧∀(j:Nat) (u:Value),(Dz x A1 A2 c1 c2)[j]? =some u→w.cell? ((ad.add (i*4)).add j)=some u
theorem oJ.below {w w':World}{B:Nat}{es:List Ex}{A:Option Addr}(h:oJ w B es A)(hb:Below B w w'):oJ w' B es A:=fun i x hx=>by
 obtain⟨ad,A',c',e1,e2,e3,e4⟩:=h i x hx;exact⟨ad,A',c',e1,e2,e3.below hb,fun j u hu=>(hb.cell (by rw[ag,ag];exact e2)).trans (e4 j u hu)⟩
theorem qF.below {w w':World}{B:Nat}{ts:List Tm}{A:Option Addr}(h:qF w B ts A)(hb:Below B w w'):qF w' B ts A:=fun i x hx=>by
 obtain⟨ad,A1,A2,c1,c2,e1,e2,e3,e4⟩:=h i x hx;exact⟨ad,A1,A2,c1,c2,e1,e2,e3.below hb,fun j u hu=>(hb.cell (by rw[ag,ag];exact e2)).trans (e4 j u hu)⟩
theorem CP {w:World}{B:Nat}{es:List Ex}{vs:List Value}{A:Option Addr}(hl:vs.length=es.length)(hr:∀(i:Nat) (e:Ex) (v:Value),es[i]? =some e→vs[i]? =some v→cr w (· <B) e v)(hA:Rows w (· <B) A (ax vs)):oJ w B es A:=fun i x hx=>by
 have hi:=(List.getElem?_eq_some_iff.1 hx).1;obtain⟨v,hv⟩:∃v,vs[i]? =some v:=⟨_,List.getElem?_eq_getElem (by omega)⟩;have hrx:=hr i x v hx hv
 have h4:∀y∈vs,y.cells.size=4:=fun y hy=>by
  obtain⟨k,hk,rfl⟩:=List.getElem_of_mem hy;obtain⟨z,hz⟩:∃z,es[k]? =some z:=⟨_,List.getElem?_eq_getElem (by omega)⟩;exact(hr k z _ hz (List.getElem?_eq_getElem hk)).kN
 obtain⟨A',c',rfl⟩:=hrx.form;have hne:ax vs≠ []:=fun h0=>by have:=dV h4 hv 0 _ rfl;rw[h0] at this;cases this
 obtain⟨ad,rfl,hb,hc⟩:=hA hne;exact⟨ad,A',c',rfl,hb,hrx,fun j u hu=>by rw[bK];exact hc _ _ (dV h4 hv j u (by simpa[Value.cells] using hu))⟩
theorem Cz {w:World}{B:Nat}{ts:List Tm}{vs:List Value}{A:Option Addr}(hl:vs.length=ts.length)(hr:∀(i:Nat) (e:Tm) (v:Value),ts[i]? =some e→vs[i]? =some v→dR w (· <B) e v)(hA:Rows w (· <B) A (ax vs)):qF w B ts A:=fun i x hx=>by
 have hi:=(List.getElem?_eq_some_iff.1 hx).1;obtain⟨v,hv⟩:∃v,vs[i]? =some v:=⟨_,List.getElem?_eq_getElem (by omega)⟩;have hrx:=hr i x v hx hv
 have h4:∀y∈vs,y.cells.size=4:=fun y hy=>by
  obtain⟨k,hk,rfl⟩:=List.getElem_of_mem hy;obtain⟨z,hz⟩:∃z,ts[k]? =some z:=⟨_,List.getElem?_eq_getElem (by omega)⟩;exact(hr k z _ hz (List.getElem?_eq_getElem hk)).kN
 obtain⟨A1,c1,A2,c2,rfl⟩:=hrx.form;have hne:ax vs≠ []:=fun h0=>by have:=dV h4 hv 0 _ rfl;rw[h0] at this;cases this
 obtain⟨ad,rfl,hb,hc⟩:=hA hne;exact⟨ad,A1,A2,c1,c2,rfl,hb,hrx,fun j u hu=>by rw[bK];exact hc _ _ (dV h4 hv j u (by simpa[Value.cells,Dz] using hu))⟩
structure sx (w:World)(B:Nat)(t:Tm)(A A':Option Addr):Prop where
 dX:t.exprs.length≤1000
 iD:t.ar.length≤1000
 op:bw t.op
 name:∀d∈t.name,d<256
 pU:t.name.length≤9223372036854775807
 expr:oJ w B t.exprs A
 term:qF w B t.ar A'
theorem fv.open {w:World}{B:Nat}{t:Tm}{v:Value}(h:fv w B t v):∃A c A' c',v= .agg #[.int .i64 t.op, .string (strOf t.name), .slice A t.exprs.length c, .slice A' t.ar.length c']∧sx w B t A A':=by
 have h':dR w (· <B) t v:=h
 cases h' with
 | @mk op nm es ts A A' c c' vs us hl hl' dX iD hop hnm hnl hr hr' hA hA'=>
  exact⟨A,c,A',c',rfl,dX,iD,hop,hnm,hnl,CP hl hr hA,Cz hl' hr' hA'⟩
theorem sx.below {w w':World}{B:Nat}{t:Tm}{A A':Option Addr}(h:sx w B t A A')(hb:Below B w w'):sx w' B t A A':=⟨h.dX,h.iD,h.op,h.name,h.pU,h.expr.below hb,h.term.below hb⟩
def Ey (s:Int × Int):List Ex→Int × Int
 | []=>s
 |e::r=>Ey (dG s (ve e)) r
mutual
def xY:Tm→Int × Int
 | .mk _ _ es l=>AW (Ey (1,1) es) l
def AW (s:Int × Int):List Tm→Int × Int
 | []=>s
 |t::r=>if 1000≤s.1 then(1000,1000) else AW (dG s (xY t)) r
end
theorem wW:∀(l:List Ex) (s:Int × Int),Sz s→Sz (Ey s l)
 | [],_,h=>h
 |e::r,s,h=>wW r _ (ez h (qD e))
mutual
theorem Ch:∀t,Sz (xY t)
 | .mk op nm es l=>by rw[xY];exact Az _ (wW es _ ⟨by simp,by simp⟩) l
theorem Az:∀(s:Int × Int),Sz s→∀l,Sz (AW s l)
 |s,h,[]=>by rw[AW];exact h
 |s,h,e::r=>by
  rw[AW];split
  ·exact⟨by simp,by simp⟩
  ·exact Az _ (ez h (Ch e)) r
end
theorem r9 {s t:Int × Int}{n d n' d':Nat}(h:vS s n d)(k:vS t n' d')(h2:d≤n)(h3:d'≤n'):vS (dG s t) (n+n') (max d (1+d'))∨(1000≤n+n'∧vS (dG s t) (n+n') (max d (1+d'))):=by
 obtain⟨a,b⟩:=h;obtain⟨a',b'⟩:=k
 left
 refine⟨by unfold dG;simp only;omega,fun h=> ?_⟩;unfold dG;simp only;rw[b (by omega),b' (by omega)];omega
theorem xJ:∀(l:List Ex) (s:Int × Int) (n d:Nat),vS s n d→1≤d→d≤n→vS (Ey s l) (n+bC l) (max d (1+bD l))∧max d (1+bD l)≤n+bC l
 | [],s,n,d,h,h1,h2=>by
  rw[bC,bD,show max d (1+0)=d by omega];exact⟨h,by omega⟩
 |e::r,s,n,d,h,h1,h2=>by
  rw[bC,bD];have he:=oW e;have hn:=Ex.bh e;have hp:=e.bU;have hw:=(r9 h he h2 hn).elim id (fun h=>h.2);have:=xJ r _ _ _ hw (by omega) (by omega);rw[show n+(e.nodes+bC r)=n+e.nodes+bC r by omega,show max d (1+max e.depth (bD r))=max (max d (1+e.depth)) (1+bD r) by omega];exact this
mutual
theorem oY:∀t,vS (xY t) t.nodes t.depth
 | .mk op nm es l=>by
  rw[xY,Tm.fR,Tm.ei];have h0:vS (1,1) 1 1:=⟨(by show(1:Int)=min ((1:Nat):Int) 1000;omega),fun _=>rfl⟩;obtain⟨h1,h2⟩:=xJ es (1,1) 1 1 h0 (Nat.le_refl _) (Nat.le_refl _);have:=xF _ _ _ h1 (by omega) h2 l
  rwa [show max (max 1 (1+bD es)) (1+da l)=1+max (bD es) (da l) by omega] at this
theorem xF:∀(s:Int × Int) (n d:Nat),vS s n d→1≤d→d≤n→∀l,vS (AW s l) (n+eh l) (max d (1+da l))
 |s,n,d,h,h1,h2,[]=>by
  rw[AW,eh,da,show max d (1+0)=d by omega];exact h
 |s,n,d,h,h1,h2,e::r=>by
  rw[AW,eh,da];have he:=oY e;have hn:=Tm.bh e;have hp:=e.bU;split
  ·obtain⟨a,b⟩:=h
   exact⟨by simp only;omega,fun h=>by omega⟩
  ·have hw:=(r9 h he h2 hn).elim id (fun h=>h.2)
   have:=xF _ _ _ hw (by omega) (by omega) r;rw[show n+(e.nodes+eh r)=n+e.nodes+eh r by omega,show max d (1+max e.depth (da r))=max (max d (1+e.depth)) (1+da r) by omega];exact this
end
theorem aK:bz Tryz.prog 71=some (some (.agg #[.int .i64 0, .string {data:= #[]}, .slice none 0 0, .slice none 0 0])):=by kernel_rfl
def yB (at_:Nat)(s:Int × Int):List Ex→Int × Int
 | []=>s
 |e::r=>yB at_ (dG s (rl e (at_+1))) r
mutual
def sZ:Tm→Nat→Int × Int
 | .mk _ _ es l,at_=>uj at_ (yB at_ (1,1) es) l
def uj (at_:Nat)(s:Int × Int):List Tm→Int × Int
 | []=>s
 |t::r=>if 1000≤at_∨1000≤s.1 then(1000,1000) else uj at_ (dG s (sZ t (at_+1))) r
end
theorem Ec (t:Tm)(at_:Nat):sZ t at_=uj at_ (yB at_ (1,1) t.exprs) t.ar:=by cases t;rw[sZ];rfl
theorem uA (at_:Nat)(s:Int × Int)(e:Tm)(r:List Tm):uj at_ s (e::r)=if 1000≤at_∨1000≤s.1 then(1000,1000) else uj at_ (dG s (sZ e (at_+1))) r:=by rw[uj]
theorem yc (at_:Nat)(s:Int × Int):uj at_ s []=s:=by rw[uj]
theorem BP (at_:Nat):∀(l:List Ex) (s:Int × Int),Sz s→Sz (yB at_ s l)
 | [],_,h=>h
 |e::r,s,h=>BP at_ r _ (ez h (m8 e _))
mutual
theorem BK:∀(t:Tm) (at_:Nat),Sz (sZ t at_)
 | .mk op nm es l,at_=>by rw[sZ];exact Bm at_ _ (BP at_ es _ ⟨by simp,by simp⟩) l
theorem Bm:∀(at_:Nat) (s:Int × Int),Sz s→∀l,Sz (uj at_ s l)
 |at_,s,h,[]=>by rw[uj];exact h
 |at_,s,h,e::r=>by
  rw[uj];split
  ·exact⟨by simp,by simp⟩
  ·exact Bm at_ _ (ez h (BK e _)) r
end
theorem zQ {t:Int × Int}(h:Sz t):dG (1000,1000) t=(1000,1000):=by
 unfold Sz at h;unfold dG;simp only[Prod.mk.injEq];omega
theorem ye (at_:Nat):∀(l:List Ex),yB at_ (1000,1000) l=(1000,1000)
 | []=>rfl
 |e::r=>by rw[yB,zQ (m8 e _)];exact ye at_ r
theorem xD (at_:Nat)(l:List Tm):uj at_ (1000,1000) l=(1000,1000):=by
 cases l with
 |nil=>rw[yc]
 |cons e r=>rw[uA,if_pos (.inr (by decide))]
theorem Aj (at_:Nat):∀(l:List Ex) (s:Int × Int),Sz s→yB at_ s l=Ey s l∨(yB at_ s l=(1000,1000)∧1001≤bD l+at_)
 | [],s,h=> .inl rfl
 |e::r,s,h=>by
  rw[yB,Ey,bD];rcases tD e (at_+1) with h3|⟨h3,h4⟩
  ·rw[h3]
   rcases Aj at_ r (dG s (ve e)) (ez h (qD e)) with h5|⟨h5,h6⟩
   ·exact .inl h5
   ·exact .inr ⟨h5,by omega⟩
  ·rw[h3,nk h,ye]
   exact .inr ⟨rfl,by omega⟩
mutual
theorem wH:∀(t:Tm) (at_:Nat),sZ t at_=xY t∨(sZ t at_=(1000,1000)∧1002≤t.depth+at_)
 | .mk op nm es l,at_=>by
  rw[sZ,xY,Tm.ei];rcases Aj at_ es (1,1) ⟨by simp,by simp⟩ with h0|⟨h0,h1⟩
  ·rw[h0]
   rcases Bb at_ _ (wW es (1,1) ⟨by simp,by simp⟩) l with h|⟨h1,h2⟩
   ·exact .inl h
   ·exact .inr ⟨h1,by omega⟩
  ·rw[h0,xD]
   exact .inr ⟨rfl,by omega⟩
theorem Bb:∀(at_:Nat) (s:Int × Int),Sz s→∀l,uj at_ s l=AW s l∨(uj at_ s l=(1000,1000)∧1001≤da l+at_)
 |at_,s,h,[]=>by rw[uj,AW];exact .inl rfl
 |at_,s,h,e::r=>by
  rw[uj,AW,da];have hd:0<e.depth:=by rw[e.mG];omega
  by_cases h1:1000≤s.1
  ·rw[if_pos (.inr h1),if_pos h1];exact .inl rfl
  ·by_cases h2:1000≤at_
   ·rw[if_pos (.inl h2)];exact .inr ⟨rfl,by omega⟩
   ·rw[if_neg (by omega),if_neg h1]
    rcases wH e (at_+1) with h3|⟨h3,h4⟩
    ·rw[h3]
     rcases Bb at_ (dG s (xY e)) (ez h (Ch e)) r with h5|⟨h5,h6⟩
     ·exact .inl h5
     ·exact .inr ⟨h5,by omega⟩
    ·rw[h3,nk h,xD]
     exact .inr ⟨rfl,by omega⟩
end
theorem C5 (t:Tm):vS (sZ t 0) t.nodes t.depth:=by
 rcases wH t 0 with h|⟨h1,h2⟩
 ·rw[h];exact oY t
 ·rw[h1]
  have:=t.bh;exact⟨by simp only;omega,fun h=>by omega⟩
theorem Dd {t:Tm}{at_:Nat}(h:t.depth+at_≤900):sZ t at_=xY t:=by
 rcases wH t at_ with h1|⟨h1,h2⟩
 ·exact h1
 ·omega
theorem mY (N:Nat):∀(t:Tm) (at_:Nat) (B:Nat) (v:Value) (w:World),t.nodes≤N→at_≤1000→fv w B t v→B≤w.heap.size→Calls Tryz.prog 140 #[v, .int .i64 (at_:Int)] w fun en w'=>en= .returned (.agg #[.int .i64 (sZ t at_).1, .int .i64 (sZ t at_).2])∧Grow w w':=by
 induction N with
 |zero=>intro t at_ B v w hN;have:=t.bU;omega
 |succ N ih=>
 intro t at_ B v w hN hdep hrep hB;obtain⟨A,c,A',c',rfl,hv⟩:=hrep.open;have bel:=Below.refl w.heap.size w;have hdp:0<t.depth:=by rw[t.mG];omega
 have dX:=hv.dX;have iD:=hv.iD;refine Zs 48 Tryz.func140 ?_;refine aj ?_;refine Seq.box rfl rfl rfl rfl rfl ?_;intro g2 w1 n2;have e2:=Nat.le_trans bel.size n2.ge;replace bel:=bel.step n2.below;have k2:=n2.ao;refine Zl fb ?_;intro g4 w2 n4;have e4:=Nat.le_trans bel.size n4.ge;have l4:=Nat.lt_of_lt_of_le k2.lt n4.ge;replace bel:=bel.step n4.below;replace k2:=k2.step n4.below;have k4:=n4.ao;refine aZ 0 1 2 4 (aB ?_);refine Zv (aa.build rfl rfl (fa _ _ _)) ?_;refine Zl fb ?_;intro g5 w3 n5;have e5:=Nat.le_trans bel.size n5.ge;have l5:=Nat.lt_of_lt_of_le k4.lt n5.ge;have l5_k2:=Nat.lt_of_lt_of_le k2.lt n5.ge;replace bel:=bel.step n5.below;replace k2:=k2.step n5.below;replace k4:=k4.step n5.below;have k5:=n5.ao;refine Zo 2 k5 ?_;intro w4 pw4;replace bel:=bel.put k5 pw4 e5;replace k2:=k2.put pw4 (by omega);replace k4:=k4.put pw4 (by omega);replace k5:=pw4.ao;refine aU 0 1 2 4 5 (aJ (aj ?_));refine Zf 2 Tryz.underlying71 ?_;refine ZL Tryz.underlying68 k2 ?_;refine Zv (aa.len rfl rfl Tryz.underlying68) ?_;refine Zm ?_;refine cn 0 1 2 4 5 12 13 14 (Zt (Cd.block ?_))
 refine Cd.loop (σ:=Nat × (Int × Int)) (fun s=>[(1, .int .i64 (at_:Int)),(2, .pointer (some ⟨g2,0,none⟩)),(4, .pointer (some ⟨g4,0,none⟩)),(5, .pointer (some ⟨g5,0,none⟩)),(12, .slice A t.exprs.length c),(13, .int .i64 (t.exprs.length:Int)),(14, .int .i64 (s.1:Int))])
  (fun s wr=>s.1≤t.exprs.length∧Sz s.2∧yB at_ s.2 (t.exprs.drop s.1)=yB at_ (1,1) t.exprs∧Below w.heap.size w wr∧aH wr g2 71 #[.int .i64 t.op, .string (strOf t.name), .slice A t.exprs.length c, .slice A' t.ar.length c']∧aH wr g4 200 #[.int .i64 0, .int .i64 0]∧aH wr g5 200 #[.int .i64 s.2.1, .int .i64 s.2.2]) (fun s=>t.exprs.length-s.1) (0,(1,1)) ⟨Nat.zero_le _,⟨by simp,by simp⟩,rfl,bel,k2,k4,k5⟩ ⟨rfl,rfl,rfl,rfl,rfl,rfl,rfl,trivial⟩ ?_
 clear bel k2 k4 k5;rintro⟨k,s⟩ wr ⟨hk,hs,hsz,bel,k2,k4,k5⟩;simp only at hk hs hsz k5;show Cd _ _ _ _ [(1, .int .i64 (at_:Int)),(2, .pointer (some ⟨g2,0,none⟩)),(4, .pointer (some ⟨g4,0,none⟩)),(5, .pointer (some ⟨g5,0,none⟩)),(12, .slice A t.exprs.length c),(13, .int .i64 (t.exprs.length:Int)),(14, .int .i64 (k:Int))] _;refine aj ?_;refine ff ?_;refine cn 1 2 4 5 12 13 14 15 (aJ ?_);refine Cd.au rfl (fun hc=> ?_) (fun hc=> ?_)
 ·obtain⟨x,hx⟩:∃x,t.exprs[k]? =some x:=⟨_,List.getElem?_eq_getElem (show k<t.exprs.length by omega)⟩
  obtain⟨ad,Ax,cx,rfl,hbl,hrx,hc⟩:=hv.expr k x hx;have hxm:=List.mem_of_getElem? hx;have hxd:=Tm.wy hxm;have hc:=fun j u hj=>((bel.mono hB).cell (p:=(ad.add (k*4)).add j) (by rw[ag,ag];exact hbl)).trans (hc j u hj)
  have hdrop:t.exprs.drop k=x::t.exprs.drop (k+1):=by
   rw[List.drop_eq_getElem_cons (show k<t.exprs.length by omega)];congr 1;obtain⟨_,he⟩:=List.getElem?_eq_some_iff.1 hx;exact he
  rw[hdrop,yB] at hsz;have hrec:=fun W (hb:Below w.heap.size w W)=>jN x.nodes x (at_+1) B _ W (Nat.le_refl _) (by omega) (hrx.below (hb.mono hB)) (Nat.le_trans hB hb.size);have hxs:=m8 x (at_+1);have hws:=ez hs hxs;refine Cd.skip (aJ (Cd.block (aj ?_)));refine Zv (aa.aR rfl rfl rfl Tryz.underlying68 (s:=4) (by kernel_rfl) (j:=k) rfl (by omega)) ?_;refine Zv (aa.bP (ps:=[.int .i64 x.op, .int .i64 x.n, .string (strOf x.name), .slice Ax x.args.length cx]) rfl rfl Tryz.underlying105 rfl (m:=4) (by kernel_rfl) rfl hc) ?_;refine Zl aw ?_;intro g7 w5 n7;have e7:=Nat.le_trans bel.size n7.ge;have l7:=Nat.lt_of_lt_of_le k5.lt n7.ge;have l7_k2:=Nat.lt_of_lt_of_le k2.lt n7.ge;have l7_k4:=Nat.lt_of_lt_of_le k4.lt n7.ge;replace bel:=bel.step n7.below;replace k2:=k2.step n7.below;replace k4:=k4.step n7.below;replace k5:=k5.step n7.below;have k7:=n7.ao;refine Zo 4 k7 ?_;intro w6 pw6;replace bel:=bel.put k7 pw6 e7;replace k2:=k2.put pw6 (by omega);replace k4:=k4.put pw6 (by omega);replace k5:=k5.put pw6 (by omega);replace k7:=pw6.ao;refine du 1 2 4 5 7 12 13 14 15 (Zt ?_);refine fV 6 ?_;intro w7 hw7 zw7;replace bel:=bel.step hw7;replace k2:=k2.step hw7;replace k4:=k4.step hw7;replace k5:=k5.step hw7;replace k7:=k7.step hw7;have zbel:=bel.size;have zlt:=k7.lt;refine Zd (fun w hG=>aa.dr rfl rfl Tryz.underlying200 rfl (k5.step hG) (m:=2) (by kernel_rfl) rfl) ?_;refine Zd (fun w hG=>aa.dr rfl rfl Tryz.underlying105 rfl (k7.step hG) (m:=4) (by kernel_rfl) rfl) ?_;refine eJ ?_;refine Zd (fun w hG=>aa.qR rfl rfl rfl (by omega) (by omega)) ?_;refine Dr.dm rfl (fun w=>Ze Tryz.func179) rfl (fun w hG=>hrec w (bel.step hG)) ?_;refine Dr.dm rfl (fun w=>Ze Tryz.func186) rfl (fun w hG=>qZ s (rl x (at_+1)) w hs.1 hs.2 hxs.1 hxs.2) ?_;refine Dr.nil ?_;refine br.done (F':=[(1,_),(2,_),(4,_),(5,_),(7,_),(12,_),(13,_),(14,_),(15,_),(23,_)]) rfl ⟨rfl,rfl,rfl,rfl,rfl,rfl,rfl,rfl,rfl,rfl,trivial⟩ ?_;intro w8 hw8 fw8;replace bel:=bel.step hw8;replace k2:=k2.step hw8;replace k4:=k4.step hw8;replace k5:=k5.step hw8;replace k7:=k7.step hw8;refine Zo 2 k5 ?_;intro w9 pw9;replace bel:=bel.put k5 pw9 e5;replace k2:=k2.put pw9 (by omega);replace k4:=k4.put pw9 (by omega);replace k5:=pw9.ao;refine du 1 2 4 5 7 12 13 14 15 (ab.ai (dU ?_));refine dt ?_;refine Zm ?_;refine du 1 2 4 5 7 12 13 14 15 ?_;exact ab.round (k+1,dG s (rl x (at_+1))) ⟨rfl,rfl,rfl,rfl,rfl,rfl,rfl,trivial⟩ ⟨by simp only;omega,hws,hsz,bel,k2,k4,k5⟩ (by simp only;omega)
 ·obtain rfl:k=t.exprs.length:=by omega
  rw[List.drop_of_length_le (Nat.le_refl _),yB] at hsz;have hT:=Ec t at_;rw[←hsz] at hT;refine Cd.exit (ab.aA (ab.ay (ab.az (aJ (aj ?_)))));refine Zf 3 Tryz.underlying71 ?_;refine ZL Tryz.underlying69 k2 ?_;refine Zv (aa.len rfl rfl Tryz.underlying69) ?_;refine Zm ?_;refine bT 1 2 4 5 12 13 14 15 26 27 28 (Zt (Cd.block ?_))
  refine Cd.loop (σ:=Nat × (Int × Int)) (fun s=>[(1, .int .i64 (at_:Int)),(4, .pointer (some ⟨g4,0,none⟩)),(5, .pointer (some ⟨g5,0,none⟩)),(26, .slice A' t.ar.length c'),(27, .int .i64 (t.ar.length:Int)),(28, .int .i64 (s.1:Int))])
   (fun s wr=>s.1≤t.ar.length∧Sz s.2∧uj at_ s.2 (t.ar.drop s.1)=sZ t at_∧Below w.heap.size w wr∧aH wr g4 200 #[.int .i64 0, .int .i64 0]∧aH wr g5 200 #[.int .i64 s.2.1, .int .i64 s.2.2]) (fun s=>t.ar.length-s.1) (0,s) ⟨Nat.zero_le _,hs,hT.symm,bel,k4,k5⟩ ⟨rfl,rfl,rfl,rfl,rfl,rfl,trivial⟩ ?_
  clear bel k2 k4 k5;clear hs hsz hT;rintro⟨k,s⟩ wr ⟨hk,hs,hsz,bel,k4,k5⟩;simp only at hk hs hsz k5;show Cd _ _ _ _ [(1, .int .i64 (at_:Int)),(4, .pointer (some ⟨g4,0,none⟩)),(5, .pointer (some ⟨g5,0,none⟩)),(26, .slice A' t.ar.length c'),(27, .int .i64 (t.ar.length:Int)),(28, .int .i64 (k:Int))] _;refine aj ?_;refine ff ?_;refine bp 1 4 5 26 27 28 29 (aJ ?_);refine Cd.au rfl (fun hc=> ?_) (fun hc=> ?_)
  ·obtain⟨x,hx⟩:∃x,t.ar[k]? =some x:=⟨_,List.getElem?_eq_getElem (show k<t.ar.length by omega)⟩
   obtain⟨ad,A1,A2,c1,c2,rfl,hbl,hrx,hc⟩:=hv.term k x hx;have hxm:=List.mem_of_getElem? hx;have hxd:=Tm.qO hxm;have hxn:=Tm.eW hxm;have hc:=fun j u hj=>((bel.mono hB).cell (p:=(ad.add (k*4)).add j) (by rw[ag,ag];exact hbl)).trans (hc j u hj)
   have hdrop:t.ar.drop k=x::t.ar.drop (k+1):=by
    rw[List.drop_eq_getElem_cons (show k<t.ar.length by omega)];congr 1;obtain⟨_,he⟩:=List.getElem?_eq_some_iff.1 hx;exact he
   rw[hdrop,uA] at hsz;refine Cd.skip (aJ (Cd.block (aj ?_)));refine Zv (aa.aR rfl rfl rfl Tryz.underlying69 (s:=4) (by kernel_rfl) (j:=k) rfl (by omega)) ?_;refine Zv (aa.bP (ps:=[.int .i64 x.op, .string (strOf x.name), .slice A1 x.exprs.length c1, .slice A2 x.ar.length c2]) rfl rfl Tryz.underlying71 rfl (m:=4) (by kernel_rfl) rfl hc) ?_;refine Zl aK ?_;intro g9 w5 n9;have e9:=Nat.le_trans bel.size n9.ge;have l9:=Nat.lt_of_lt_of_le k5.lt n9.ge;have l9_k4:=Nat.lt_of_lt_of_le k4.lt n9.ge;replace bel:=bel.step n9.below;replace k4:=k4.step n9.below;replace k5:=k5.step n9.below;have k9:=n9.ao;refine Zo 4 k9 ?_;intro w6 pw6;replace bel:=bel.put k9 pw6 e9;replace k4:=k4.put pw6 (by omega);replace k5:=k5.put pw6 (by omega);replace k9:=pw6.ao;refine cn 1 4 5 9 26 27 28 29 (aJ (aj ?_));refine Zm ?_;refine mz ?_;refine Zm ?_;refine av.start ?_;refine bk (fun hcx=>aa.ak 0 rfl rfl Tryz.underlying200 rfl (by kernel_rfl)) ?_;refine Zn (fun hcx=>aa.an rfl rfl Tryz.underlying3 rfl k5 rfl) ?_;refine Zn (fun hcx=>aa.geq rfl rfl rfl) ?_;refine eG ?_;refine du 1 4 5 9 26 27 28 29 38 (Zt ?_);refine Cd.cond rfl (fun h=> ?_) (fun h=> ?_)
   ·simp at h
    rw[if_pos (by omega)] at hsz;refine aj ?_;refine Zv (aa.build rfl rfl (fa _ _ _)) ?_;refine Zo 2 k4 ?_;intro w7 pw7;replace bel:=bel.put k4 pw7 e4;replace k5:=k5.put pw7 (by omega);replace k9:=k9.put pw7 (by omega);replace k4:=pw7.ao;refine du 1 4 5 9 26 27 28 29 38 (Zt (Cd.ret (ab.af (ab.ah (ab.af (ab.aL (ab.ah (ab.af ?_))))))));refine jU 2 k4 Tryz.underlying200 ?_;rw[←hsz];exact⟨rfl,bel⟩
   ·simp at h
    rw[if_neg (by omega)] at hsz;have hrec:=fun W (hb:Below w.heap.size w W)=>ih x (at_+1) B _ W (by omega) (by omega) (hrx.below (hb.mono hB)) (Nat.le_trans hB hb.size);have hxs:=BK x (at_+1);have hws:=ez hs hxs;refine Cd.skip (Zt ?_);refine fV 6 ?_;intro w7 hw7 zw7;replace bel:=bel.step hw7;replace k4:=k4.step hw7;replace k5:=k5.step hw7;replace k9:=k9.step hw7;have zbel:=bel.size;have zlt:=k9.lt;refine Zd (fun w hG=>aa.dr rfl rfl Tryz.underlying200 rfl (k5.step hG) (m:=2) (by kernel_rfl) rfl) ?_;refine Zd (fun w hG=>aa.dr rfl rfl Tryz.underlying71 rfl (k9.step hG) (m:=4) (by kernel_rfl) rfl) ?_;refine eJ ?_;refine Zd (fun w hG=>aa.qR rfl rfl rfl (by omega) (by omega)) ?_;refine Dr.dm rfl (fun w=>Ze Tryz.func140) rfl (fun w hG=>hrec w (bel.step hG)) ?_;refine Dr.dm rfl (fun w=>Ze Tryz.func186) rfl (fun w hG=>qZ s (sZ x (at_+1)) w hs.1 hs.2 hxs.1 hxs.2) ?_;refine Dr.nil ?_;refine br.done (F':=[(1,_),(4,_),(5,_),(9,_),(26,_),(27,_),(28,_),(29,_),(38,_),(45,_)]) rfl ⟨rfl,rfl,rfl,rfl,rfl,rfl,rfl,rfl,rfl,rfl,trivial⟩ ?_;intro w8 hw8 fw8;replace bel:=bel.step hw8;replace k4:=k4.step hw8;replace k5:=k5.step hw8;replace k9:=k9.step hw8;refine Zo 2 k5 ?_;intro w9 pw9;replace bel:=bel.put k5 pw9 e5;replace k4:=k4.put pw9 (by omega);replace k5:=pw9.ao;refine du 1 4 5 9 26 27 28 29 38 (ab.ai (dU ?_));refine dt ?_;refine Zm ?_;refine du 1 4 5 9 26 27 28 29 38 ?_;exact ab.round (k+1,dG s (sZ x (at_+1))) ⟨rfl,rfl,rfl,rfl,rfl,rfl,trivial⟩ ⟨by simp only;omega,hws,hsz,bel,k4,k5⟩ (by simp only;omega)
  ·obtain rfl:k=t.ar.length:=by omega
   rw[List.drop_of_length_le (Nat.le_refl _),yc] at hsz;refine Cd.exit (ab.aA (ab.ay (ab.az (aB ?_))));refine ZW 2 Tryz.underlying200 k5 ?_;refine Zo 2 k4 ?_;intro w5 pw5;replace bel:=bel.put k4 pw5 e4;replace k5:=k5.put pw5 (by omega);replace k4:=pw5.ao;refine bp 1 4 5 26 27 28 29 (Zt (Cd.ret ?_));refine jU 2 k4 Tryz.underlying200 ?_;rw[←hsz];exact⟨rfl,bel⟩
theorem mZ (N:Nat)(t:Tm)(at_:Nat)(B:Nat)(v:Value)(w:World)(hN:t.nodes≤N)(hd:t.depth+at_≤900)(hrep:fv w B t v)(hB:B≤w.heap.size):Calls Tryz.prog 140 #[v, .int .i64 (at_:Int)] w fun en w'=>en= .returned (.agg #[.int .i64 (xY t).1, .int .i64 (xY t).2])∧Grow w w':=by
 rw[←Dd hd];exact mY N t at_ B v w hN (by omega) hrep hB
theorem wo (g:Nat)(cp:List Value)(p:Tm→Bool)(B:Nat)(A:Option Addr)(c:Nat)(l:List Tm)(w:World)(dX:l.length≤1000)(hv:qF w B l A)(hB:B≤w.heap.size)
  (eg:∀args w,(callFunc g args).run Tryz.prog w= .ok (.enter g args) w) (hp:∀x∈l,∀v W,Below w.heap.size w W→fv W B x v→Calls Tryz.prog g ([]++[v]++cp).toArray W fun en w'=>en= .returned (.bool (p x))∧Grow W w'):
  Calls Tryz.prog 220 #[.slice A l.length c, .func (.func g) #[] cp.toArray] w fun en w'=>en= .returned (.int .i64 (uL p l))∧Grow w w':=by
 have bel:=Below.refl w.heap.size w;obtain⟨n,hn⟩:∃n,n=l.length:=⟨_,rfl⟩;rw[←hn] at dX⊢;refine Zs 19 Tryz.func220 ?_;refine aj ?_;refine Za ?_;refine bu 0 1 4 (aJ (aj ?_));refine Zm ?_;refine Zv (aa.len rfl rfl Tryz.underlying69) ?_;refine Zm ?_;refine aU 0 1 4 7 8 (Zt (Cd.block ?_))
 refine Cd.loop (σ:=Nat) (fun k=>[(0, .slice A n c),(1, .func (.func g) #[] cp.toArray),(7, .int .i64 (n:Int)),(8, .int .i64 (k:Int))])
  (fun k wr=>k≤n∧(∀y∈l.take k,p y=false)∧Below w.heap.size w wr) (fun k=>n-k) 0 ⟨Nat.zero_le _,by simp,bel⟩ ⟨rfl,rfl,rfl,rfl,trivial⟩ ?_
 clear bel;rintro k wr ⟨hk,hno,bel⟩;refine aj ?_;refine ff ?_;refine aU 0 1 7 8 9 (aJ ?_);refine Cd.au rfl (fun hc=> ?_) (fun hc=> ?_)
 ·obtain⟨x,hx⟩:∃x,l[k]? =some x:=⟨_,List.getElem?_eq_getElem (show k<l.length by omega)⟩
  obtain⟨ad,A1,A2,c1,c2,rfl,hbl,hrx,hc⟩:=hv k x hx;have hc:=fun j u hj=>((bel.mono hB).cell (p:=(ad.add (k*4)).add j) (by rw[ag,ag];exact hbl)).trans (hc j u hj);have htk:l.take (k+1)=l.take k++[x]:=by rw[List.take_add_one,hx];rfl
  refine Cd.skip (aJ (Cd.block (aj ?_)));refine Zm ?_;refine Za ?_;refine bl 0 1 5 7 8 9 (aB ?_);refine Zm ?_;refine Zm ?_;refine Zm ?_;refine Zv (aa.aR rfl rfl rfl Tryz.underlying69 (s:=4) (by kernel_rfl) (j:=k) rfl (by omega)) ?_;refine Zv (aa.bP (ps:=[.int .i64 x.op, .string (strOf x.name), .slice A1 x.exprs.length c1, .slice A2 x.ar.length c2]) rfl rfl Tryz.underlying71 rfl (m:=4) (by kernel_rfl) rfl hc) ?_;refine Seq.call (Enters.value (first:=[]) (cap:=cp) rfl rfl rfl eg) rfl rfl rfl (hp x (List.mem_of_getElem? hx) _ _ bel (hrx.below (bel.mono hB))) ?_;rintro en w5 ⟨rfl,hb5⟩;refine⟨_,rfl,?_⟩;replace bel:=bel.step hb5;refine bp 0 1 5 7 8 9 16 (Zt ?_);refine Cd.cond rfl (fun h=> ?_) (fun h=> ?_)
  ·skip
   refine aj ?_;refine Zm ?_;refine Za ?_;refine cn 0 1 4 5 7 8 9 16 (Zt (Cd.ret (ab.ah (ab.af (ab.aL (ab.ah (ab.af ?_)))))));refine aX ?_;exact⟨aW (int_eq (sE hx h hno).symm),bel⟩
  ·skip
   refine Cd.skip (ab.ai (dU ?_));refine dt ?_;refine Zm ?_;refine bp 0 1 5 7 8 9 16 ?_;refine ab.round (k+1) ⟨rfl,rfl,rfl,rfl,trivial⟩ ⟨by omega,fun y hy=> ?_,bel⟩ (by omega);rw[htk] at hy;rcases List.mem_append.1 hy with hy|hy
   ·exact hno y hy
   ·simp at hy;subst hy;exact h
 ·obtain rfl:k=n:=by omega
  rw[List.take_of_length_le (by omega)] at hno;refine Cd.exit (ab.aA (ab.ay (ab.az (aB ?_))));refine Za ?_;refine bl 0 1 4 7 8 9 (Zt (Cd.ret ?_));refine aX ?_;exact⟨aW (int_eq (su hno).symm),bel⟩
theorem rJ (g:Nat)(cp:List Value)(p:Tm→Bool)(B:Nat)(A:Option Addr)(c:Nat)(l:List Tm)(w:World)(dX:l.length≤1000)(hv:qF w B l A)(hB:B≤w.heap.size)
  (eg:∀args w,(callFunc g args).run Tryz.prog w= .ok (.enter g args) w) (hp:∀x∈l,∀v W,Below w.heap.size w W→fv W B x v→Calls Tryz.prog g ([]++[v]++cp).toArray W fun en w'=>en= .returned (.bool (p x))∧Grow W w'):
  Calls Tryz.prog 190 #[.slice A l.length c, .func (.func g) #[] cp.toArray] w fun en w'=>en= .returned (.bool (l.any p))∧Grow w w':=by
 have bel:=Below.refl w.heap.size w;have hc:=fun W (hb:Below w.heap.size w W)=>wo g cp p B A c l W dX (hv.below (hb.mono hB)) (Nat.le_trans hB hb.size) eg (fun x hx v W2 hb2 hr=>hp x hx v W2 (hb.trans (hb2.mono hb.size)) hr);have hany:=uw p l;obtain⟨n,hn⟩:∃n,n=l.length:=⟨_,rfl⟩;rw[←hn] at hc⊢;refine Zs 9 Tryz.func190 ?_;refine aj ?_;refine Za ?_;refine bu 0 1 4 (aB ?_);refine Zm ?_;refine Zm ?_;refine Zc (Ze Tryz.func220) (hc _ bel) ?_;rintro en w5 ⟨rfl,hb5⟩;refine⟨_,rfl,?_⟩;replace bel:=bel.step hb5;refine mz ?_;refine Za ?_;refine bu 0 1 4 (Zt (Cd.ret ?_));refine aX ?_;exact⟨aW (aF hany),bel⟩
def xU (op:Int):Int × Int:=if op=1∨op=2 then(0,0) else if op=3 then(0,1) else if op=4∨op=5 then(0,2) else if op=6∨op=7∨op=8∨op=9 then(1,1) else(-1,-1)
theorem vI (op:Int)(w:World):Calls Tryz.prog 187 #[.int .i64 op] w fun e w'=>e= .returned (.tuple #[.int .i64 (xU op).1, .int .i64 (xU op).2])∧Grow w w':=by
 have bel:=Below.refl w.heap.size w;refine Zs 18 Tryz.func187 ?_
 by_cases h1:op=1
 ·subst h1
  refine aj ?_;refine Za ?_;refine Za ?_;refine bu 0 2 3 (aJ (aj ?_));refine Zm ?_;refine aZ 0 2 3 4 (Zt (Cd.block (Cd.seq (aj ?_))));refine bq ?_;refine Za ?_;refine aU 0 2 3 4 5 (Zt ?_);refine Cd.aY rfl rfl ?_;refine Cd.skip (Zt ?_);refine Cd.aY rfl rfl ?_;refine aj ?_;refine Za ?_;refine Za ?_;refine aU 0 2 3 4 5 (Zt (Cd.ret (ab.ah (ab.af ?_))));refine dO ?_;exact⟨rfl,bel⟩
 ·skip
  by_cases h2:op=2
  ·subst h2
   refine aj ?_;refine Za ?_;refine Za ?_;refine bu 0 2 3 (aJ (aj ?_));refine Zm ?_;refine aZ 0 2 3 4 (Zt (Cd.block (Cd.seq (aj ?_))));refine bq ?_;refine Za ?_;refine aU 0 2 3 4 5 (Zt ?_);refine Cd.aS rfl rfl ?_;refine Zr ?_;refine bq ?_;refine Za ?_;refine aU 0 2 3 4 5 (Zt ?_);refine Cd.aY rfl rfl ?_;refine aj ?_;refine Za ?_;refine Za ?_;refine aU 0 2 3 4 5 (Zt (Cd.ret (ab.ah (ab.af ?_))));refine dO ?_;exact⟨rfl,bel⟩
  ·skip
   by_cases h3:op=3
   ·subst h3
    refine aj ?_;refine Za ?_;refine Za ?_;refine bu 0 2 3 (aJ (aj ?_));refine Zm ?_;refine aZ 0 2 3 4 (Zt (Cd.block (Cd.seq (aj ?_))));refine bq ?_;refine Za ?_;refine aU 0 2 3 4 5 (Zt ?_);refine Cd.aS rfl rfl ?_;refine Zr ?_;refine bq ?_;refine Za ?_;refine aU 0 2 3 4 5 (Zt ?_);refine Cd.aS rfl rfl ?_;refine aj ?_;refine bq ?_;refine Za ?_;refine bl 0 2 3 4 5 8 (Zt ?_);refine Cd.aY rfl rfl ?_;refine aj ?_;refine Za ?_;refine Za ?_;refine bl 0 2 3 4 5 8 (Zt (Cd.ret (ab.ah (ab.af ?_))));refine dO ?_;exact⟨rfl,bel⟩
   ·skip
    by_cases h4:op=4
    ·subst h4
     refine aj ?_;refine Za ?_;refine Za ?_;refine bu 0 2 3 (aJ (aj ?_));refine Zm ?_;refine aZ 0 2 3 4 (Zt (Cd.block (Cd.seq (aj ?_))));refine bq ?_;refine Za ?_;refine aU 0 2 3 4 5 (Zt ?_);refine Cd.aS rfl rfl ?_;refine Zr ?_;refine bq ?_;refine Za ?_;refine aU 0 2 3 4 5 (Zt ?_);refine Cd.aS rfl rfl ?_;refine aj ?_;refine bq ?_;refine Za ?_;refine bl 0 2 3 4 5 8 (Zt ?_);refine Cd.aS rfl rfl ?_;refine Cd.seq (aj ?_);refine bq ?_;refine Za ?_;refine bp 0 2 3 4 5 8 10 (Zt ?_);refine Cd.aY rfl rfl ?_;refine Cd.skip (Zt ?_);refine Cd.aY rfl rfl ?_;refine aj ?_;refine Za ?_;refine Za ?_;refine bp 0 2 3 4 5 8 10 (Zt (Cd.ret (ab.ah (ab.af ?_))));refine dO ?_;exact⟨rfl,bel⟩
    ·skip
     by_cases h5:op=5
     ·subst h5
      refine aj ?_;refine Za ?_;refine Za ?_;refine bu 0 2 3 (aJ (aj ?_));refine Zm ?_;refine aZ 0 2 3 4 (Zt (Cd.block (Cd.seq (aj ?_))));refine bq ?_;refine Za ?_;refine aU 0 2 3 4 5 (Zt ?_);refine Cd.aS rfl rfl ?_;refine Zr ?_;refine bq ?_;refine Za ?_;refine aU 0 2 3 4 5 (Zt ?_);refine Cd.aS rfl rfl ?_;refine aj ?_;refine bq ?_;refine Za ?_;refine bl 0 2 3 4 5 8 (Zt ?_);refine Cd.aS rfl rfl ?_;refine Cd.seq (aj ?_);refine bq ?_;refine Za ?_;refine bp 0 2 3 4 5 8 10 (Zt ?_);refine Cd.aS rfl rfl ?_;refine Zr ?_;refine bq ?_;refine Za ?_;refine bp 0 2 3 4 5 8 10 (Zt ?_);refine Cd.aY rfl rfl ?_;refine aj ?_;refine Za ?_;refine Za ?_;refine bp 0 2 3 4 5 8 10 (Zt (Cd.ret (ab.ah (ab.af ?_))));refine dO ?_;exact⟨rfl,bel⟩
     ·skip
      by_cases h6:op=6
      ·subst h6
       refine aj ?_;refine Za ?_;refine Za ?_;refine bu 0 2 3 (aJ (aj ?_));refine Zm ?_;refine aZ 0 2 3 4 (Zt (Cd.block (Cd.seq (aj ?_))));refine bq ?_;refine Za ?_;refine aU 0 2 3 4 5 (Zt ?_);refine Cd.aS rfl rfl ?_;refine Zr ?_;refine bq ?_;refine Za ?_;refine aU 0 2 3 4 5 (Zt ?_);refine Cd.aS rfl rfl ?_;refine aj ?_;refine bq ?_;refine Za ?_;refine bl 0 2 3 4 5 8 (Zt ?_);refine Cd.aS rfl rfl ?_;refine Cd.seq (aj ?_);refine bq ?_;refine Za ?_;refine bp 0 2 3 4 5 8 10 (Zt ?_);refine Cd.aS rfl rfl ?_;refine Zr ?_;refine bq ?_;refine Za ?_;refine bp 0 2 3 4 5 8 10 (Zt ?_);refine Cd.aS rfl rfl ?_;refine Cd.seq (aj ?_);refine bq ?_;refine Za ?_;refine cn 0 2 3 4 5 8 10 13 (Zt ?_);refine Cd.aY rfl rfl ?_;refine Cd.skip (Zt ?_);refine Cd.aY rfl rfl ?_;refine aj ?_;refine Za ?_;refine Za ?_;refine cn 0 2 3 4 5 8 10 13 (Zt (Cd.ret (ab.ah (ab.af ?_))));refine dO ?_;exact⟨rfl,bel⟩
      ·skip
       by_cases h7:op=7
       ·subst h7
        refine aj ?_;refine Za ?_;refine Za ?_;refine bu 0 2 3 (aJ (aj ?_));refine Zm ?_;refine aZ 0 2 3 4 (Zt (Cd.block (Cd.seq (aj ?_))));refine bq ?_;refine Za ?_;refine aU 0 2 3 4 5 (Zt ?_);refine Cd.aS rfl rfl ?_;refine Zr ?_;refine bq ?_;refine Za ?_;refine aU 0 2 3 4 5 (Zt ?_);refine Cd.aS rfl rfl ?_;refine aj ?_;refine bq ?_;refine Za ?_;refine bl 0 2 3 4 5 8 (Zt ?_);refine Cd.aS rfl rfl ?_;refine Cd.seq (aj ?_);refine bq ?_;refine Za ?_;refine bp 0 2 3 4 5 8 10 (Zt ?_);refine Cd.aS rfl rfl ?_;refine Zr ?_;refine bq ?_;refine Za ?_;refine bp 0 2 3 4 5 8 10 (Zt ?_);refine Cd.aS rfl rfl ?_;refine Cd.seq (aj ?_);refine bq ?_;refine Za ?_;refine cn 0 2 3 4 5 8 10 13 (Zt ?_);refine Cd.aS rfl rfl ?_;refine aj ?_;refine bq ?_;refine Za ?_;refine cn 0 2 3 4 5 8 10 13 (Zt ?_);refine Cd.aY rfl rfl ?_;refine Cd.skip (Zt ?_);refine Cd.aY rfl rfl ?_;refine aj ?_;refine Za ?_;refine Za ?_;refine cn 0 2 3 4 5 8 10 13 (Zt (Cd.ret (ab.ah (ab.af ?_))));refine dO ?_;exact⟨rfl,bel⟩
       ·skip
        by_cases h8:op=8
        ·subst h8
         refine aj ?_;refine Za ?_;refine Za ?_;refine bu 0 2 3 (aJ (aj ?_));refine Zm ?_;refine aZ 0 2 3 4 (Zt (Cd.block (Cd.seq (aj ?_))));refine bq ?_;refine Za ?_;refine aU 0 2 3 4 5 (Zt ?_);refine Cd.aS rfl rfl ?_;refine Zr ?_;refine bq ?_;refine Za ?_;refine aU 0 2 3 4 5 (Zt ?_);refine Cd.aS rfl rfl ?_;refine aj ?_;refine bq ?_;refine Za ?_;refine bl 0 2 3 4 5 8 (Zt ?_);refine Cd.aS rfl rfl ?_;refine Cd.seq (aj ?_);refine bq ?_;refine Za ?_;refine bp 0 2 3 4 5 8 10 (Zt ?_);refine Cd.aS rfl rfl ?_;refine Zr ?_;refine bq ?_;refine Za ?_;refine bp 0 2 3 4 5 8 10 (Zt ?_);refine Cd.aS rfl rfl ?_;refine Cd.seq (aj ?_);refine bq ?_;refine Za ?_;refine cn 0 2 3 4 5 8 10 13 (Zt ?_);refine Cd.aS rfl rfl ?_;refine aj ?_;refine bq ?_;refine Za ?_;refine cn 0 2 3 4 5 8 10 13 (Zt ?_);refine Cd.aS rfl rfl ?_;refine aj ?_;refine bq ?_;refine Za ?_;refine cn 0 2 3 4 5 8 10 13 (Zt ?_);refine Cd.aY rfl rfl ?_;refine Cd.skip (Zt ?_);refine Cd.aY rfl rfl ?_;refine aj ?_;refine Za ?_;refine Za ?_;refine cn 0 2 3 4 5 8 10 13 (Zt (Cd.ret (ab.ah (ab.af ?_))));refine dO ?_;exact⟨rfl,bel⟩
        ·skip
         by_cases h9:op=9
         ·subst h9
          refine aj ?_;refine Za ?_;refine Za ?_;refine bu 0 2 3 (aJ (aj ?_));refine Zm ?_;refine aZ 0 2 3 4 (Zt (Cd.block (Cd.seq (aj ?_))));refine bq ?_;refine Za ?_;refine aU 0 2 3 4 5 (Zt ?_);refine Cd.aS rfl rfl ?_;refine Zr ?_;refine bq ?_;refine Za ?_;refine aU 0 2 3 4 5 (Zt ?_);refine Cd.aS rfl rfl ?_;refine aj ?_;refine bq ?_;refine Za ?_;refine bl 0 2 3 4 5 8 (Zt ?_);refine Cd.aS rfl rfl ?_;refine Cd.seq (aj ?_);refine bq ?_;refine Za ?_;refine bp 0 2 3 4 5 8 10 (Zt ?_);refine Cd.aS rfl rfl ?_;refine Zr ?_;refine bq ?_;refine Za ?_;refine bp 0 2 3 4 5 8 10 (Zt ?_);refine Cd.aS rfl rfl ?_;refine Cd.seq (aj ?_);refine bq ?_;refine Za ?_;refine cn 0 2 3 4 5 8 10 13 (Zt ?_);refine Cd.aS rfl rfl ?_;refine aj ?_;refine bq ?_;refine Za ?_;refine cn 0 2 3 4 5 8 10 13 (Zt ?_);refine Cd.aS rfl rfl ?_;refine aj ?_;refine bq ?_;refine Za ?_;refine cn 0 2 3 4 5 8 10 13 (Zt ?_);refine Cd.aS rfl rfl ?_;refine Zr ?_;refine bq ?_;refine Za ?_;refine cn 0 2 3 4 5 8 10 13 (Zt ?_);refine Cd.aY rfl rfl ?_;refine aj ?_;refine Za ?_;refine Za ?_;refine cn 0 2 3 4 5 8 10 13 (Zt (Cd.ret (ab.ah (ab.af ?_))));refine dO ?_;exact⟨rfl,bel⟩
         ·skip
          refine aj ?_;refine Za ?_;refine Za ?_;refine bu 0 2 3 (aJ (aj ?_));refine Zm ?_;refine aZ 0 2 3 4 (Zt (Cd.block (Cd.seq (aj ?_))));refine bq ?_;refine Za ?_;refine aU 0 2 3 4 5 (Zt ?_);refine Cd.aS rfl (decide_eq_false h1) ?_;refine Zr ?_;refine bq ?_;refine Za ?_;refine aU 0 2 3 4 5 (Zt ?_);refine Cd.aS rfl (decide_eq_false h2) ?_;refine aj ?_;refine bq ?_;refine Za ?_;refine bl 0 2 3 4 5 8 (Zt ?_);refine Cd.aS rfl (decide_eq_false h3) ?_;refine Cd.seq (aj ?_);refine bq ?_;refine Za ?_;refine bp 0 2 3 4 5 8 10 (Zt ?_);refine Cd.aS rfl (decide_eq_false h4) ?_;refine Zr ?_;refine bq ?_;refine Za ?_;refine bp 0 2 3 4 5 8 10 (Zt ?_);refine Cd.aS rfl (decide_eq_false h5) ?_;refine Cd.seq (aj ?_);refine bq ?_;refine Za ?_;refine cn 0 2 3 4 5 8 10 13 (Zt ?_);refine Cd.aS rfl (decide_eq_false h6) ?_;refine aj ?_;refine bq ?_;refine Za ?_;refine cn 0 2 3 4 5 8 10 13 (Zt ?_);refine Cd.aS rfl (decide_eq_false h7) ?_;refine aj ?_;refine bq ?_;refine Za ?_;refine cn 0 2 3 4 5 8 10 13 (Zt ?_);refine Cd.aS rfl (decide_eq_false h8) ?_;refine Zr ?_;refine bq ?_;refine Za ?_;refine cn 0 2 3 4 5 8 10 13 (Zt ?_);refine Cd.aS rfl (decide_eq_false h9) ?_;refine Cd.skip (ab.ai (aB ?_));refine Za ?_;refine Za ?_;refine cn 0 2 3 4 5 8 10 13 (Zt (Cd.ret ?_));refine dO ?_;have hb:xU op=(-1,-1):=by unfold xU;rw[if_neg (by omega),if_neg h3,if_neg (by omega),if_neg (by omega)]
          rw[hb];exact⟨rfl,bel⟩
def gm (op:Int)(nm:List Nat)(n m:Nat):Bool:=decide (xU op=((n:Int),(m:Int)))&& !(decide (op=2)&& !gQ nm)&& !(decide (op≠2)&&decide (nm≠ []))
mutual
def bW:Tm→Bool
 | .mk op nm es l=>gm op nm es.length l.length&&es.all bF&&mN l
def mN:List Tm→Bool
 | []=>true
 |e::r=>bW e&&mN r
end
theorem oq:∀l,mN l=l.all bW
 | []=>by rw[mN];rfl
 |e::r=>by rw[mN,oq r];rfl
theorem lr (t:Tm):bW t=(gm t.op t.name t.exprs.length t.ar.length&&t.exprs.all bF&&t.ar.all bW):=by
 cases t;rw[bW,oq];rfl
theorem wi:∀args w,(callFunc 189 args).run Tryz.prog w= .ok (.enter 189 args) w:=fun args w=>aO Tryz.func189 (by kernel_rfl) rfl args w
theorem wu:∀args w,(callFunc 191 args).run Tryz.prog w= .ok (.enter 191 args) w:=fun args w=>aO Tryz.func191 (by kernel_rfl) rfl args w
theorem rS (N:Nat):∀(t:Tm) (B:Nat) (v:Value) (w:World),t.nodes≤N→fv w B t v→B≤w.heap.size→Calls Tryz.prog 142 #[v] w fun en w'=>en= .returned (.bool (bW t))∧Grow w w':=by
 induction N with
 |zero=>intro t B v w hN;have:=t.bU;omega
 |succ N ih=>
 intro t B v w hN hrep hB;obtain⟨A,c,A',c',rfl,hv⟩:=hrep.open;have bel:=Below.refl w.heap.size w;have hnm:=hv.name;have hnl:=hv.pU;have dX:=hv.dX;have iD:=hv.iD;have hbt:=lr t;have hdum:wX w B (.mk 1 0 [] t.exprs) A c:=⟨hv.dX,by show bw 1;unfold bw;omega,by show bw 0;unfold bw;omega,fun d hd=>(by cases hd),by show(0:Nat)≤_;omega,fun i x hx=>hv.expr i x hx⟩
 have hcl:=fun W (hb:Below w.heap.size w W)=>iW 189 [] (fun x=> !bF x) B A c (.mk 1 0 [] t.exprs) W (hdum.below (hb.mono hB)) (Nat.le_trans hB hb.size) wi (fun x hx v W2 hb2 hr=>by
  have hs2:=Nat.le_trans hB (Nat.le_trans hb.size hb2.size);have hrec:=fun W3 (hb3:Below W2.heap.size W2 W3)=>jj x.nodes x B v W3 (Nat.le_refl _) (hr.below (hb3.mono hs2)) (Nat.le_trans hs2 hb3.size);obtain⟨Ax,cx,rfl,-⟩:=hr.open;have bel:=Below.refl W2.heap.size W2
  generalize bF x=q at *
  refine Zs 6 Tryz.func189 ?_;refine aj ?_;refine Seq.box rfl rfl rfl rfl rfl ?_;intro g1 w1 n1;have e1:=Nat.le_trans bel.size n1.ge;replace bel:=bel.step n1.below;have k1:=n1.ao;refine Za ?_;refine bu 0 1 2 (aB ?_);refine ZW 4 Tryz.underlying105 k1 ?_;refine Zc (Ze Tryz.func180) (hrec _ bel) ?_;rintro en w5 ⟨rfl,hb5⟩;refine⟨_,rfl,?_⟩;replace bel:=bel.step hb5;replace k1:=k1.step hb5;refine iC ?_;refine Za ?_;refine bu 0 1 2 (Zt (Cd.ret ?_));refine aX ?_;exact⟨rfl,bel⟩)
 have hcl2:=fun W (hb:Below w.heap.size w W)=>rJ 191 [] (fun x=> !bW x) B A' c' t.ar W hv.iD (hv.term.below (hb.mono hB)) (Nat.le_trans hB hb.size) wu (fun x hx v W2 hb2 hr=>by
  have hxn:=Tm.eW hx;have hs2:=Nat.le_trans hB (Nat.le_trans hb.size hb2.size);have hrec:=fun W3 (hb3:Below W2.heap.size W2 W3)=>ih x B v W3 (by omega) (hr.below (hb3.mono hs2)) (Nat.le_trans hs2 hb3.size);obtain⟨A1,c1,A2,c2,rfl,-⟩:=hr.open;have bel:=Below.refl W2.heap.size W2
  generalize bW x=q at *
  refine Zs 6 Tryz.func191 ?_;refine aj ?_;refine Seq.box rfl rfl rfl rfl rfl ?_;intro g1 w1 n1;have e1:=Nat.le_trans bel.size n1.ge;replace bel:=bel.step n1.below;have k1:=n1.ao;refine Za ?_;refine bu 0 1 2 (aB ?_);refine ZW 4 Tryz.underlying71 k1 ?_;refine Zc (Ze Tryz.func142) (hrec _ bel) ?_;rintro en w5 ⟨rfl,hb5⟩;refine⟨_,rfl,?_⟩;replace bel:=bel.step hb5;replace k1:=k1.step hb5;refine iC ?_;refine Za ?_;refine bu 0 1 2 (Zt (Cd.ret ?_));refine aX ?_;exact⟨rfl,bel⟩)
 replace hcl:∀W,Below w.heap.size w W→Calls Tryz.prog 107 #[.slice A t.exprs.length c, .func (.func 189) #[] #[]] W fun en w'=>en= .returned (.bool (t.exprs.any fun x=> !bF x))∧Grow W w':=hcl;refine Zs 54 Tryz.func142 ?_;refine aj ?_;refine Seq.box rfl rfl rfl rfl rfl ?_;intro g1 w1 n1;have e1:=Nat.le_trans bel.size n1.ge;replace bel:=bel.step n1.below;have k1:=n1.ao;refine Za ?_;refine bu 0 1 2 (aB ?_);refine Zf 0 Tryz.underlying71 ?_;refine ZL Tryz.underlying3 k1 ?_;refine Zc (Ze Tryz.func187) (vI t.op _) ?_;rintro en w5 ⟨rfl,hb5⟩;refine⟨_,rfl,?_⟩;replace bel:=bel.step hb5;replace k1:=k1.step hb5;refine Zm ?_;refine Zx ?_;refine Zx ?_;refine Za ?_;refine Za ?_;refine aU 0 1 2 3 4 (aJ (aj ?_));refine Zm ?_;refine Zf 2 Tryz.underlying71 ?_;refine ZL Tryz.underlying68 k1 ?_;refine Zv (aa.len rfl rfl Tryz.underlying68) ?_;refine kL ?_;refine Zm ?_;refine av.start ?_;refine bk (fun hcx=>aa.move rfl rfl) ?_;refine Zn (fun hcx=>aa.ak 3 rfl rfl Tryz.underlying71 rfl (by kernel_rfl)) ?_;refine Zn (fun hcx=>aa.an rfl rfl Tryz.underlying69 rfl k1 rfl) ?_;refine Zn (fun hcx=>aa.len rfl rfl Tryz.underlying69) ?_;refine Zn (fun hcx=>aa.cz rfl rfl rfl) ?_;refine eG ?_;refine Zm ?_;refine av.start ?_;refine bk (fun hcx=>aa.ak 0 rfl rfl Tryz.underlying71 rfl (by kernel_rfl)) ?_;refine Zn (fun hcx=>aa.an rfl rfl Tryz.underlying3 rfl k1 rfl) ?_;refine Zn (fun hcx=>aa.fm rfl rfl rfl) ?_;refine jl ?_;refine bk (fun hcx=>aa.ak 1 rfl rfl Tryz.underlying71 rfl (by kernel_rfl)) ?_;refine Zn (fun hcx=>aa.an rfl rfl Tryz.underlying9 rfl k1 rfl) ?_;refine av.bj rfl rfl rfl rfl rfl rfl rfl (fun hcx=>Ze Tryz.func188) (fun hcx=>uV t.name _ hnm hnl) ?_;intro w2 hw2;replace bel:=bel.step hw2;replace k1:=k1.step hw2;refine Zn (fun hcx=>aa.not rfl rfl) ?_;refine av.pN rfl rfl rfl rfl rfl rfl rfl rfl rfl rfl rfl ?_;refine eG ?_;refine Zm ?_;refine av.start ?_;refine bk (fun hcx=>aa.ak 0 rfl rfl Tryz.underlying71 rfl (by kernel_rfl)) ?_;refine Zn (fun hcx=>aa.an rfl rfl Tryz.underlying3 rfl k1 rfl) ?_;refine Zn (fun hcx=>aa.cz rfl rfl rfl) ?_;refine jl ?_;refine bk (fun hcx=>aa.ak 1 rfl rfl Tryz.underlying71 rfl (by kernel_rfl)) ?_;refine Zn (fun hcx=>aa.an rfl rfl Tryz.underlying9 rfl k1 rfl) ?_;refine Zn (fun hcx=>aa.ku (a:=t.name) (b:=[]) rfl rfl rfl hnm (by decide)) ?_;refine av.pN rfl rfl rfl rfl rfl rfl rfl rfl rfl rfl rfl ?_;refine eG ?_;refine bl 0 1 2 3 4 43 (Zt ?_);refine Cd.cond rfl (fun h=> ?_) (fun h=> ?_)
 ·have hhead:gm t.op t.name t.exprs.length t.ar.length=false:=by
   cases hq:gm t.op t.name t.exprs.length t.ar.length with
   |false=>rfl
   |true=>
    exfalso;unfold gm at hq;simp at hq h;obtain⟨⟨a,b⟩,c⟩:=hq;rw[a] at h;simp at h;rcases h with ⟨x,y⟩|⟨x,y⟩
    ·rcases b with b|b
     ·exact b x
     ·rw[b] at y;cases y
    ·rcases c with c|c
     ·exact x c
     ·exact y c
  rw[hhead] at hbt;refine aj ?_;refine Za ?_;refine bl 0 1 2 3 4 43 (Zt (Cd.ret (ab.af ?_)));refine aX ?_;rw[hbt];exact⟨rfl,bel⟩
 ·have hhead:gm t.op t.name t.exprs.length t.ar.length=true:=by
   unfold gm;simp at h⊢;obtain⟨⟨⟨a1,a2⟩,b⟩,c⟩:=h;refine⟨⟨Prod.ext a1 a2,?_⟩,?_⟩
   ·by_cases h2:t.op=2
    ·exact .inr (b h2)
    ·exact .inl h2
   ·by_cases h2:t.op=2
    ·exact .inl h2
    ·exact .inr (c h2)
  rw[hhead] at hbt;refine Cd.skip (aB ?_);refine Zf 2 Tryz.underlying71 ?_;refine ZL Tryz.underlying68 k1 ?_;refine Zc (Ze Tryz.func107) (hcl _ bel) ?_;rintro en w6 ⟨rfl,hb6⟩;refine⟨_,rfl,?_⟩;replace bel:=bel.step hb6;replace k1:=k1.step hb6;refine iC ?_;refine Zm ?_;refine av.start ?_;refine bk (fun hcx=>aa.ak 3 rfl rfl Tryz.underlying71 rfl (by kernel_rfl)) ?_;refine Zn (fun hcx=>aa.an rfl rfl Tryz.underlying69 rfl k1 rfl) ?_;refine av.bj rfl rfl rfl rfl rfl rfl rfl (fun hcx=>Ze Tryz.func190) (fun hcx=>hcl2 _ bel) ?_;intro w3 hw3;replace bel:=bel.step hw3;replace k1:=k1.step hw3;refine Zn (fun hcx=>aa.not rfl rfl) ?_;refine ep ?_;refine Za ?_;refine bl 0 1 2 3 4 43 (Zt (Cd.ret ?_));refine aX ?_;refine⟨aW (aF ?_),bel⟩;rw[hbt,List.all_eq_not_any_not,List.all_eq_not_any_not,Bool.true_and]
def bV (t:Tm):Bool:=decide (t.nodes≤200)&&decide (t.depth≤16)&&bW t
theorem rV (t:Tm)(B:Nat)(v:Value)(w:World)(hd:t.depth≤900)(hrep:fv w B t v)(hB:B≤w.heap.size):Calls Tryz.prog 99 #[v] w fun en w'=>en= .returned (.bool (bV t))∧Grow w w':=by
 have hs:=fun W (hb:Below w.heap.size w W)=>mZ t.nodes t 0 B v W (Nat.le_refl _) (by omega) (hrep.below (hb.mono hB)) (Nat.le_trans hB hb.size);have hbt:=fun W (hb:Below w.heap.size w W)=>rS t.nodes t B v W (Nat.le_refl _) (hrep.below (hb.mono hB)) (Nat.le_trans hB hb.size);have hc:=oY t;have hdn:=t.bh
 have hres:(decide (t.nodes≤200)&&decide (t.depth≤16))=(decide ((xY t).1≤200)&&decide ((xY t).2≤16)):=by
  obtain⟨c1,c2⟩:=hc;rw[Bool.eq_iff_iff];simp only[Bool.and_eq_true,decide_eq_true_eq]
  constructor
  ·rintro⟨h1,h2⟩
   rw[c2 (by omega)];omega
  ·rintro⟨h1,h2⟩
   have h3:t.nodes≤200:=by omega
   rw[c2 (by omega)] at h2;omega
 unfold bV;rw[hres];obtain⟨A,c,A',c',rfl,-⟩:=hrep.open;have bel:=Below.refl w.heap.size w
 generalize (xY t)=s at *
 refine Zs 10 Tryz.func99 ?_;refine aj ?_;refine Seq.box rfl rfl rfl rfl rfl ?_;intro g1 w1 n1;have e1:=Nat.le_trans bel.size n1.ge;replace bel:=bel.step n1.below;have k1:=n1.ao;refine Za ?_;refine bu 0 1 2 (aB ?_);refine ZW 4 Tryz.underlying71 k1 ?_;refine Zc (Ze Tryz.func140) (hs _ bel) ?_;rintro en w5 ⟨rfl,hb5⟩;refine⟨_,rfl,?_⟩;replace bel:=bel.step hb5;replace k1:=k1.step hb5;refine Zc (Ze Tryz.func141) (iN s.1 s.2 _) ?_;rintro en w6 ⟨rfl,hb6⟩;refine⟨_,rfl,?_⟩;replace bel:=bel.step hb6;replace k1:=k1.step hb6;refine Zm ?_;refine av.start ?_;refine bk (fun hcx=>aa.dr rfl rfl Tryz.underlying71 rfl k1 (m:=4) (by kernel_rfl) rfl) ?_;refine av.bj rfl rfl rfl rfl rfl rfl rfl (fun hcx=>Ze Tryz.func142) (fun hcx=>hbt _ bel) ?_;intro w2 hw2;replace bel:=bel.step hw2;replace k1:=k1.step hw2;refine ep ?_;refine Za ?_;refine bu 0 1 2 (Zt (Cd.ret ?_));refine aX ?_;exact⟨aW (aF (by cases (decide (s.1≤200)&&decide (s.2≤16))<;>rfl)),bel⟩
theorem jH {t:Tm}(h:¬(gm t.op t.name t.exprs.length t.ar.length=true∧(∀x∈t.exprs,bF x=true)∧∀x∈t.ar,bW x=true)):bW t=false:=by
 cases hq:bW t with
 |false=>rfl
 |true=>
  rw[lr,Bool.and_eq_true,Bool.and_eq_true,List.all_eq_true,List.all_eq_true] at hq;exact absurd ⟨hq.1.1,hq.1.2,hq.2⟩ h
theorem vm {t:Tm}(h:gm t.op t.name t.exprs.length t.ar.length=true)(h2:∀x∈t.exprs,bF x=true)(h3:∀x∈t.ar,bW x=true):bW t=true:=by
 rw[lr,h,List.all_eq_true.2 h2,List.all_eq_true.2 h3];rfl
theorem jG (op:Int)(nm:List Nat)(n m:Nat):gm op nm n m=true↔xU op=((n:Int),(m:Int))∧(op=2→gQ nm=true)∧(op≠2→nm=[]):=by
 unfold gm;simp
 constructor
 ·rintro⟨⟨a,b⟩,c⟩
  refine⟨a,fun h=> ?_,fun h=> ?_⟩
  ·rcases b with b|b
   ·exact absurd h b
   ·exact b
  ·rcases c with c|c
   ·exact absurd c h
   ·exact c
 ·rintro⟨a,b,c⟩
  refine⟨⟨a,?_⟩,?_⟩
  ·by_cases h2:op=2
   ·exact .inr (b h2)
   ·exact .inl h2
  ·by_cases h2:op=2
   ·exact .inl h2
   ·exact .inr (c h2)
theorem Cl {op:Int}{n m:Nat}(h:xU op=((n:Int),(m:Int))):1≤op∧op≤9∧n≤1∧m≤2:=by
 unfold xU at h
 repeat' split at h
 all_goals (have h1:=congrArg Prod.fst h;have h2:=congrArg Prod.snd h;simp only at h1 h2;omega)
theorem rM (N:Nat):∀(t:Tm) (B:Nat) (v:Value) (w:World),t.nodes≤N→fv w B t v→B≤w.heap.size→Calls Tryz.prog 91 #[v] w fun en w'=>en= .returned (.bool (bW t))∧Grow w w':=by
 induction N with
 |zero=>intro t B v w hN;have:=t.bU;omega
 |succ N ih=>
 intro t B v w hN hrep hB;obtain⟨A,c,A',c',rfl,hv⟩:=hrep.open;have bel:=Below.refl w.heap.size w;have hnm:=hv.name;have hnl:=hv.pU;have dX:=hv.dX;have iD:=hv.iD;refine Zs 96 Tryz.func91 ?_;refine aj ?_;refine Seq.box rfl rfl rfl rfl rfl ?_;intro g1 w1 n1;have e1:=Nat.le_trans bel.size n1.ge;replace bel:=bel.step n1.below;have k1:=n1.ao;refine Za ?_;refine bu 0 1 2 (aB ?_);refine Za ?_;refine Za ?_;refine aU 0 1 2 3 4 (Zt ?_);refine Cd.lC (σ:=Nat × Nat) (fun s=>[(1, .pointer (some ⟨g1,0,none⟩)),(3, .int .i64 (s.1:Int)),(4, .int .i64 (s.2:Int))]) (fun s wr=>(1≤t.op→t.op≤9→xU t.op=((s.1:Int),(s.2:Int)))∧s.1≤1∧s.2≤2∧Below w.heap.size w wr∧aH wr g1 71 #[.int .i64 t.op, .string (strOf t.name), .slice A t.exprs.length c, .slice A' t.ar.length c']) ?_ ?_
 ·skip
  refine Cd.block (aj ?_);refine Zf 0 Tryz.underlying71 ?_;refine ZL Tryz.underlying3 k1 ?_;refine bq ?_;refine Za ?_;refine bl 0 1 2 3 4 7 (Zt ?_);refine Cd.au rfl (fun h1=> ?_) (fun h1=> ?_)
  ·skip
   refine Zr ?_;refine Za ?_;refine bl 0 1 2 3 4 7 (ab.ai ?_);exact ab.join (0,1) ⟨rfl,rfl,rfl,trivial⟩ ⟨fun _ _=>by unfold xU;rw[if_neg (by omega),if_pos h1];rfl,by decide,by decide,bel,k1⟩
  ·skip
   refine aj ?_;refine Zf 0 Tryz.underlying71 ?_;refine ZL Tryz.underlying3 k1 ?_;refine bq ?_;refine Zm ?_;refine av.start ?_;refine bk (fun hcx=>aa.ak 0 rfl rfl Tryz.underlying71 rfl (by kernel_rfl)) ?_;refine Zn (fun hcx=>aa.an rfl rfl Tryz.underlying3 rfl k1 rfl) ?_;refine Zn (fun hcx=>aa.fm rfl rfl rfl) ?_;refine eG ?_;refine Za ?_;refine bp 0 1 2 3 4 7 11 (Zt ?_);refine Cd.cond rfl (fun h2=> ?_) (fun h2=> ?_)
   ·simp at h2
    refine Zr ?_;refine Za ?_;refine bp 0 1 2 3 4 7 11 (ab.ai ?_);exact ab.join (0,2) ⟨rfl,rfl,rfl,trivial⟩ ⟨fun _ _=>by unfold xU;rw[if_neg (by omega),if_neg (by omega),if_pos h2];rfl,by decide,by decide,bel,k1⟩
   ·simp at h2
    refine aj ?_;refine Zf 0 Tryz.underlying71 ?_;refine ZL Tryz.underlying3 k1 ?_;refine mz ?_;refine Zm ?_;refine av.start ?_;refine bk (fun hcx=>aa.ak 0 rfl rfl Tryz.underlying71 rfl (by kernel_rfl)) ?_;refine Zn (fun hcx=>aa.an rfl rfl Tryz.underlying3 rfl k1 rfl) ?_;refine Zn (fun hcx=>aa.leq rfl rfl rfl) ?_;refine ep ?_;refine Za ?_;refine cn 0 1 2 3 4 7 11 20 (Zt ?_);refine Cd.cond rfl (fun h3=> ?_) (fun h3=> ?_)
    ·simp at h3
     refine aj ?_;refine Za ?_;refine cn 0 1 2 3 4 7 11 20 (dU ?_);refine Za ?_;refine cn 0 1 2 3 4 7 11 20 (ab.ai ?_);exact ab.join (1,1) ⟨rfl,rfl,rfl,trivial⟩ ⟨fun _ _=>by unfold xU;rw[if_neg (by omega),if_neg (by omega),if_neg (by omega),if_pos (by omega)];rfl,by decide,by decide,bel,k1⟩
    ·simp at h3
     refine Cd.skip (ab.ai ?_);exact ab.join (0,0) ⟨rfl,rfl,rfl,trivial⟩ ⟨fun _ _=>by unfold xU;rw[if_pos (by omega)];rfl,by decide,by decide,bel,k1⟩
 clear bel k1;rintro⟨n,m⟩ wj ⟨har,hn1,hm2,bel,k1⟩;dsimp only at har hn1 hm2⊢;refine Cd.seq (aj ?_);refine Zf 0 Tryz.underlying71 ?_;refine ZL Tryz.underlying3 k1 ?_;refine ff ?_;refine Zm ?_;refine av.start ?_;refine bk (fun hcx=>aa.ak 0 rfl rfl Tryz.underlying71 rfl (by kernel_rfl)) ?_;refine Zn (fun hcx=>aa.an rfl rfl Tryz.underlying3 rfl k1 rfl) ?_;refine Zn (fun hcx=>aa.gtr rfl rfl rfl) ?_;refine eG ?_;refine Zm ?_;refine av.start ?_;refine bk (fun hcx=>aa.ak 2 rfl rfl Tryz.underlying71 rfl (by kernel_rfl)) ?_;refine Zn (fun hcx=>aa.an rfl rfl Tryz.underlying68 rfl k1 rfl) ?_;refine Zn (fun hcx=>aa.len rfl rfl Tryz.underlying68) ?_;refine jl ?_;refine Zn (fun hcx=>aa.cz rfl rfl rfl) ?_;refine eG ?_;refine Zm ?_;refine av.start ?_;refine bk (fun hcx=>aa.ak 3 rfl rfl Tryz.underlying71 rfl (by kernel_rfl)) ?_;refine Zn (fun hcx=>aa.an rfl rfl Tryz.underlying69 rfl k1 rfl) ?_;refine Zn (fun hcx=>aa.len rfl rfl Tryz.underlying69) ?_;refine jl ?_;refine Zn (fun hcx=>aa.cz rfl rfl rfl) ?_;refine eG ?_;refine Zm ?_;refine av.start ?_;refine bk (fun hcx=>aa.ak 0 rfl rfl Tryz.underlying71 rfl (by kernel_rfl)) ?_;refine Zn (fun hcx=>aa.an rfl rfl Tryz.underlying3 rfl k1 rfl) ?_;refine Zn (fun hcx=>aa.fm rfl rfl rfl) ?_;refine jl ?_;refine bk (fun hcx=>aa.ak 1 rfl rfl Tryz.underlying71 rfl (by kernel_rfl)) ?_;refine Zn (fun hcx=>aa.an rfl rfl Tryz.underlying9 rfl k1 rfl) ?_;refine av.bj rfl rfl rfl rfl rfl rfl rfl (fun hcx=>Ze Tryz.func132) (fun hcx=>nV t.name _ hnm hnl) ?_;intro w2 hw2;replace bel:=bel.step hw2;replace k1:=k1.step hw2;refine Zn (fun hcx=>aa.not rfl rfl) ?_;refine av.pN rfl rfl rfl rfl rfl rfl rfl rfl rfl rfl rfl ?_;refine eG ?_;refine Zm ?_;refine av.start ?_;refine bk (fun hcx=>aa.ak 0 rfl rfl Tryz.underlying71 rfl (by kernel_rfl)) ?_;refine Zn (fun hcx=>aa.an rfl rfl Tryz.underlying3 rfl k1 rfl) ?_;refine Zn (fun hcx=>aa.cz rfl rfl rfl) ?_;refine jl ?_;refine bk (fun hcx=>aa.ak 1 rfl rfl Tryz.underlying71 rfl (by kernel_rfl)) ?_;refine Zn (fun hcx=>aa.an rfl rfl Tryz.underlying9 rfl k1 rfl) ?_;refine Zn (fun hcx=>aa.ku (a:=t.name) (b:=[]) rfl rfl rfl hnm (by decide)) ?_;refine av.pN rfl rfl rfl rfl rfl rfl rfl rfl rfl rfl rfl ?_;refine eG ?_;refine aZ 1 3 4 71 (Zt ?_);refine Cd.cond rfl (fun h=> ?_) (fun h=> ?_)
 ·have hf:bW t=false:=jH fun⟨hh,_,_⟩=>by
   rw[jG] at hh;obtain⟨a,b,c⟩:=hh;have hop:=Cl a;rw[har hop.1 hop.2.1] at a;have a1:=congrArg Prod.fst a;have a2:=congrArg Prod.snd a;simp at h a1 a2;rcases h with (((h|h)|h)|⟨h,h'⟩)|⟨h,h'⟩
   ·omega
   ·omega
   ·omega
   ·rw[b h] at h';cases h'
   ·exact h' (c h)
  refine aj ?_;refine Za ?_;refine aU 1 2 3 4 71 (Zt (Cd.ret (ab.af ?_)));refine aX ?_;rw[hf];exact⟨rfl,bel⟩
 simp at h;obtain⟨⟨⟨⟨⟨ha,hb⟩,hc⟩,hd⟩,he⟩,hf⟩:=h;have hcn:t.exprs.length=n:=by omega
 have hdm:t.ar.length=m:=by omega
 have hhead:gm t.op t.name t.exprs.length t.ar.length=true:=by
  rw[jG,hcn,hdm];exact⟨har (by omega) (by omega),fun h=>by simpa using he h,fun h=>by simpa using hf h⟩
 refine Cd.skip (aJ (aj ?_));refine Za ?_;refine aU 1 3 4 5 71 (Zt (Cd.block ?_))
 refine Cd.loop (σ:=Nat) (fun k=>[(1, .pointer (some ⟨g1,0,none⟩)),(3, .int .i64 (n:Int)),(4, .int .i64 (m:Int)),(5, .int .i64 (k:Int))])
  (fun k wr=>k≤n∧(∀y∈t.exprs.take k,bF y=true)∧Below w.heap.size w wr∧aH wr g1 71 #[.int .i64 t.op, .string (strOf t.name), .slice A t.exprs.length c, .slice A' t.ar.length c']) (fun k=>n-k) 0 ⟨Nat.zero_le _,by simp,bel,k1⟩ ⟨rfl,rfl,rfl,rfl,trivial⟩ ?_
 clear bel k1;rintro k wr ⟨hk,hall,bel,k1⟩;refine Cd.seq (aj ?_);refine Zm ?_;refine Zm ?_;refine ff ?_;refine aU 1 3 4 5 74 (Zt ?_);refine Cd.au rfl (fun hc=> ?_) (fun hc=> ?_)
 ·obtain⟨x,hx⟩:∃x,t.exprs[k]? =some x:=⟨_,List.getElem?_eq_getElem (by omega)⟩
  obtain⟨ad,Ax,cx,rfl,hbl,hrx,hc2⟩:=hv.expr k x hx;have hxm:=List.mem_of_getElem? hx;have hc2:=fun j u hj=>((bel.mono hB).cell (p:=(ad.add (k*4)).add j) (by rw[ag,ag];exact hbl)).trans (hc2 j u hj);have htk:t.exprs.take (k+1)=t.exprs.take k++[x]:=by rw[List.take_add_one,hx];rfl
  have hrec:=fun W (hb:Below w.heap.size w W)=>m6 x.nodes x B _ W (Nat.le_refl _) (hrx.below (hb.mono hB)) (Nat.le_trans hB hb.size);refine Cd.skip (aJ (Cd.block (aj ?_)));refine Zf 2 Tryz.underlying71 ?_;refine ZL Tryz.underlying68 k1 ?_;refine Zm ?_;refine Zv (aa.aR rfl rfl rfl Tryz.underlying68 (s:=4) (by kernel_rfl) (j:=k) rfl (by omega)) ?_;refine Zv (aa.bP (ps:=[.int .i64 x.op, .int .i64 x.n, .string (strOf x.name), .slice Ax x.args.length cx]) rfl rfl Tryz.underlying105 rfl (m:=4) (by kernel_rfl) rfl hc2) ?_;refine Zc (Ze Tryz.func92) (hrec _ bel) ?_;rintro en w5 ⟨rfl,hb5⟩;refine⟨_,rfl,?_⟩;replace bel:=bel.step hb5;replace k1:=k1.step hb5;refine iC ?_;refine bl 1 3 4 5 74 83 (Zt ?_);refine Cd.cond rfl (fun hq=> ?_) (fun hq=> ?_)
  ·have hf:bW t=false:=jH fun⟨_,h2,_⟩=>by rw[h2 x hxm] at hq;cases hq
   refine aj ?_;refine Za ?_;refine bp 1 2 3 4 5 74 83 (Zt (Cd.ret (ab.ah (ab.af (ab.aL (ab.ah (ab.af ?_)))))));refine aX ?_;rw[hf];exact⟨rfl,bel⟩
  ·have hq2:bF x=true:=by simpa using hq
   refine Cd.skip (ab.ai (dU ?_));refine Zm ?_;refine dt ?_;refine Za ?_;refine bl 1 3 4 5 74 83 ?_;refine ab.round (k+1) ⟨rfl,rfl,rfl,rfl,trivial⟩ ⟨by omega,fun y hy=> ?_,bel,k1⟩ (by omega);rw[htk] at hy;rcases List.mem_append.1 hy with hy|hy
   ·exact hall y hy
   ·obtain rfl:=List.mem_singleton.1 hy;exact hq2
 have hallE:∀x∈t.exprs,bF x=true:=by
  rw[List.take_of_length_le (by omega)] at hall;exact hall
 refine Cd.exit (ab.aA (ab.ay (ab.az (aJ (aj ?_)))));refine Za ?_;refine bl 1 3 4 5 6 74 (Zt (Cd.block ?_))
 refine Cd.loop (σ:=Nat) (fun k=>[(1, .pointer (some ⟨g1,0,none⟩)),(4, .int .i64 (m:Int)),(6, .int .i64 (k:Int))])
  (fun k wr=>k≤m∧(∀y∈t.ar.take k,bW y=true)∧Below w.heap.size w wr∧aH wr g1 71 #[.int .i64 t.op, .string (strOf t.name), .slice A t.exprs.length c, .slice A' t.ar.length c']) (fun k=>m-k) 0 ⟨Nat.zero_le _,by simp,bel,k1⟩ ⟨rfl,rfl,rfl,trivial⟩ ?_
 clear bel k1;clear hall;rintro k wr ⟨hk,hall,bel,k1⟩;refine Cd.seq (aj ?_);refine Zm ?_;refine Zm ?_;refine ff ?_;refine aZ 1 4 6 86 (Zt ?_);refine Cd.au rfl (fun hc=> ?_) (fun hc=> ?_)
 ·obtain⟨x,hx⟩:∃x,t.ar[k]? =some x:=⟨_,List.getElem?_eq_getElem (by omega)⟩
  obtain⟨ad,A1,A2,c1,c2,rfl,hbl,hrx,hc2⟩:=hv.term k x hx;have hxm:=List.mem_of_getElem? hx;have hxn:=Tm.eW hxm;have hc2:=fun j u hj=>((bel.mono hB).cell (p:=(ad.add (k*4)).add j) (by rw[ag,ag];exact hbl)).trans (hc2 j u hj);have htk:t.ar.take (k+1)=t.ar.take k++[x]:=by rw[List.take_add_one,hx];rfl
  have hrec:=fun W (hb:Below w.heap.size w W)=>ih x B _ W (by omega) (hrx.below (hb.mono hB)) (Nat.le_trans hB hb.size);refine Cd.skip (aJ (Cd.block (aj ?_)));refine Zf 3 Tryz.underlying71 ?_;refine ZL Tryz.underlying69 k1 ?_;refine Zm ?_;refine Zv (aa.aR rfl rfl rfl Tryz.underlying69 (s:=4) (by kernel_rfl) (j:=k) rfl (by omega)) ?_;refine Zv (aa.bP (ps:=[.int .i64 x.op, .string (strOf x.name), .slice A1 x.exprs.length c1, .slice A2 x.ar.length c2]) rfl rfl Tryz.underlying71 rfl (m:=4) (by kernel_rfl) rfl hc2) ?_;refine Zc (Ze Tryz.func91) (hrec _ bel) ?_;rintro en w5 ⟨rfl,hb5⟩;refine⟨_,rfl,?_⟩;replace bel:=bel.step hb5;replace k1:=k1.step hb5;refine iC ?_;refine aU 1 4 6 86 95 (Zt ?_);refine Cd.cond rfl (fun hq=> ?_) (fun hq=> ?_)
  ·have hf:bW t=false:=jH fun⟨_,_,h2⟩=>by rw[h2 x hxm] at hq;cases hq
   refine aj ?_;refine Za ?_;refine bl 1 2 4 6 86 95 (Zt (Cd.ret (ab.ah (ab.af (ab.aL (ab.ah (ab.af ?_)))))));refine aX ?_;rw[hf];exact⟨rfl,bel⟩
  ·have hq2:bW x=true:=by simpa using hq
   refine Cd.skip (ab.ai (dU ?_));refine Zm ?_;refine dt ?_;refine Za ?_;refine aU 1 4 6 86 95 ?_;refine ab.round (k+1) ⟨rfl,rfl,rfl,trivial⟩ ⟨by omega,fun y hy=> ?_,bel,k1⟩ (by omega);rw[htk] at hy;rcases List.mem_append.1 hy with hy|hy
   ·exact hall y hy
   ·obtain rfl:=List.mem_singleton.1 hy;exact hq2
 ·have hallT:∀x∈t.ar,bW x=true:=by
   rw[List.take_of_length_le (by omega)] at hall;exact hall
  refine Cd.exit (ab.aA (ab.ay (ab.az (aB ?_))));refine Za ?_;refine aU 1 2 4 6 86 (Zt (Cd.ret ?_));refine aX ?_;rw[vm hhead hallE hallT];exact⟨rfl,bel⟩
end Go.Proofs.YtigoimhndlnhfaaGreat