/-
  Texts that were joined: TreE, TreF, TreG, TreH, TreI, DateA, DateB, CivA, DateC, BigA, BigB, BigC, BigD, BigE, BigF, BigG, BigH, BigI, TBigK, TNumR, TNumS, DateD, CivB, TNumH, TreJ, TreK, TreL, KN, TreM, TreN, TreO, TreP, TrmA, TrmB. Conditions: what each theorem names.
-/
import Derived.Test.YtaamkfajnpobfaaGreatB1
set_option linter.unusedSectionVars false
namespace Go.Proofs.YtaamkfajnpobfaaGreat
open Go.RowKit
theorem kids_any (op:Int)(w:World):Calls Tryz.prog 77 #[.int .i64 op] w fun e w'=>e= .returned (.int .i64 (arityZ op))∧Grow w w':=by
 have bel:=Below.refl w.heap.size w
 refine Zs 23 Tryz.func77 ?_
 refine Zsr ?_
 refine Za ?_
 refine Zk2 0 2 (Zts (Zsr ?_))
 refine Zm ?_
 refine Zv (Runs.geq rfl rfl rfl) ?_
 refine Zm ?_
 refine SeqC.start ?_
 refine Zco (fun hcx=>Runs.move rfl rfl) ?_
 refine SeqC.next rfl rfl rfl rfl rfl rfl rfl (fun hcx=>Runs.leq rfl rfl rfl) ?_
 refine SeqC.and rfl rfl rfl rfl rfl rfl rfl ?_
 refine Zk3 0 2 8 (Zt ?_)
 refine Cd.cond rfl (fun h=> ?_) (fun h=> ?_)
 ·simp at h
  refine Zsr ?_
  refine Za ?_
  refine Zk3 0 2 8 (Zt (Cd.ret (Post.then_ret ?_)))
  refine Post.end1 rfl rfl (.inl rfl) ?_
  exact⟨ret1 (int_eq (by unfold arityZ;rw[if_pos h])),bel⟩
 ·simp at h
  refine Cd.skip (Zts (Zsr ?_))
  refine Zm ?_
  refine Zv (Runs.geq rfl rfl rfl) ?_
  refine Zm ?_
  refine SeqC.start ?_
  refine Zco (fun hcx=>Runs.move rfl rfl) ?_
  refine SeqC.next rfl rfl rfl rfl rfl rfl rfl (fun hcx=>Runs.leq rfl rfl rfl) ?_
  refine SeqC.and rfl rfl rfl rfl rfl rfl rfl ?_
  refine Zk4 0 2 8 14 (Zt ?_)
  refine Cd.cond rfl (fun h2=> ?_) (fun h2=> ?_)
  ·simp at h2
   refine Zsr ?_
   refine Za ?_
   refine Zk4 0 2 8 14 (Zt (Cd.ret (Post.then_ret ?_)))
   refine Post.end1 rfl rfl (.inl rfl) ?_
   exact⟨ret1 (int_eq (by unfold arityZ;rw[if_neg (by omega),if_pos h2])),bel⟩
  ·simp at h2
   refine Cd.skip (Zts (Zsr ?_))
   refine Zm ?_
   refine Zv (Runs.eqlI rfl rfl rfl) ?_
   refine Zm ?_
   refine SeqC.start ?_
   refine Zco (fun hcx=>Runs.move rfl rfl) ?_
   refine SeqC.next rfl rfl rfl rfl rfl rfl rfl (fun hcx=>Runs.eqlI rfl rfl rfl) ?_
   refine SeqC.or rfl rfl rfl rfl rfl rfl rfl ?_
   refine Zk5 0 2 8 14 20 (Zt ?_)
   refine Cd.cond rfl (fun h3=> ?_) (fun h3=> ?_)
   ·simp at h3
    refine Zsr ?_
    refine Za ?_
    refine Zk5 0 2 8 14 20 (Zt (Cd.ret (Post.then_ret ?_)))
    refine Post.end1 rfl rfl (.inl rfl) ?_
    exact⟨ret1 (int_eq (by unfold arityZ;rw[if_neg (by omega),if_neg (by omega),if_pos h3])),bel⟩
   ·simp at h3
    refine Cd.skip (Zts (Zsr ?_))
    refine Zm ?_
    refine Zv (Runs.eqlI rfl rfl rfl) ?_
    refine Zk6 0 2 8 14 20 22 (Zt ?_)
    refine Cd.condD rfl (fun hc=> ?_) (fun hc=> ?_)
    ·skip
     refine Zsr ?_
     refine Za ?_
     refine Zk6 0 2 8 14 20 22 (Zt (Cd.ret (Post.then_ret ?_)))
     refine Post.end1 rfl rfl (.inl rfl) ?_
     exact⟨ret1 (int_eq (by unfold arityZ;rw[if_neg (by omega),if_neg (by omega),if_neg (by omega),if_pos (by assumption)])),bel⟩
    ·skip
     refine Cd.skip (Ztq ?_)
     refine Za ?_
     refine Zk6 0 2 8 14 20 22 (Zt (Cd.ret ?_))
     refine Post.end1 rfl rfl (.inl rfl) ?_
     exact⟨ret1 (int_eq (by unfold arityZ;rw[if_neg (by omega),if_neg (by omega),if_neg (by omega),if_neg (by assumption)])),bel⟩
theorem reserved_byt:∀x∈reserved,∀d∈x,d<256:=by decide
theorem refReserved_any (l:List Nat)(w:World)(hl:∀d∈l,d<256):Calls Tryz.prog 69 #[.string (strOf l)] w fun e w'=>e= .returned (.bool (reservedB l))∧Grow w w':=by
 have bel:=Below.refl w.heap.size w
 have hat:∀j x,reserved[j]? =some x→(flatC (reserved.map fun x=>Value.string (strOf x))).toArray[j]? =some (Value.string (strOf x)):=fun j x h=>by
  have hj:=(List.getElem?_eq_some_iff.1 h).1
  replace hj:j<13:=hj
  rcases(show j=0∨j=1∨j=2∨j=3∨j=4∨j=5∨j=6∨j=7∨j=8∨j=9∨j=10∨j=11∨j=12 by omega) with rfl|rfl|rfl|rfl|rfl|rfl|rfl|rfl|rfl|rfl|rfl|rfl|rfl<;>(injection h with h;subst h;rfl)
 refine Zs 18 Tryz.func69 ?_
 refine Zsr ?_
 refine Za ?_
 refine Zk2 0 2 (Ztq ?_)
 refine Seq.slice (vs:=[_,_,_,_,_,_,_,_,_,_,_,_,_]) (s:=1) rfl rfl rfl Tryz.underlying114 (by kernel_rfl) (zero_string) (by omega) (by omega) ⟨rfl,rfl,rfl,rfl,rfl,rfl,rfl,rfl,rfl,rfl,rfl,rfl,rfl,trivial⟩ rfl rfl rfl ?_
 intro g5 w1 n5
 have e5:=Nat.le_trans bel.size n5.ge
 replace bel:=bel.step n5.below
 have k5:=n5.blk
 refine Za ?_
 refine Zk3 0 2 3 (Zts (Zsr ?_))
 refine Za ?_
 refine Zk4 0 2 3 4 (Zt (Cd.block ?_))
 refine Cd.loop (σ:=Nat) (fun k=>[(0, .string (strOf l)),(3, .slice (some ⟨g5,0,none⟩) 13 13),(4, .int .i64 (k:Int))])
  (fun k wr=>k≤13∧(∀x∈reserved.take k,l≠x)∧Below w.heap.size w wr∧Blk wr g5 9 (flatC (reserved.map fun x=>Value.string (strOf x))).toArray) (fun k=>13-k) 0 ⟨by omega,by simp,bel,k5⟩ ⟨rfl,rfl,rfl,trivial⟩ ?_
 clear bel k5
 rintro k wr ⟨hk,hno,bel,k5⟩
 refine Cd.seq (Zsr ?_)
 refine Zm ?_
 refine Zm ?_
 refine Zv (Runs.len rfl rfl Tryz.underlying114) ?_
 refine Zv (Runs.lss rfl rfl rfl) ?_
 refine Zk4 0 3 4 9 (Zt ?_)
 refine Cd.condD rfl (fun hc=> ?_) (fun hc=> ?_)
 ·obtain⟨x,hx⟩:∃x,reserved[k]? =some x:=⟨_,List.getElem?_eq_getElem (show k<reserved.length by show k<13;omega)⟩
  have htk:reserved.take (k+1)=reserved.take k++[x]:=by rw[List.take_add_one,hx];rfl
  have hxb:∀d∈x,d<256:=reserved_byt x (List.mem_of_getElem? hx)
  refine Cd.skip (Zts (Cd.block (Zsr ?_)))
  refine Zm ?_
  refine Zm ?_
  refine Zv (Runs.indexB rfl rfl rfl Tryz.underlying114 (by kernel_rfl) (j:=k) rfl (by omega)) ?_
  refine Zv (Runs.loadB rfl rfl Tryz.underlying9 rfl k5 (hat k x hx)) ?_
  refine Zm ?_
  refine Zv (Runs.eqlL (a:=x) (b:=l) rfl rfl rfl hxb hl) ?_
  refine Zk5 0 3 4 9 17 (Zt ?_)
  refine Cd.condD rfl (fun hq=> ?_) (fun hne=> ?_)
  ·skip
   refine Zsr ?_
   refine Za ?_
   refine Zk6 0 2 3 4 9 17 (Zt (Cd.ret (Post.block_ret (Post.then_ret (Post.round_ret (Post.block_ret (Post.then_ret ?_)))))))
   refine Post.end1 rfl rfl (.inl rfl) ?_
   refine⟨ret1 (bool_eq ?_),bel⟩
   unfold reservedB
   exact(List.any_eq_true.2 ⟨x,List.mem_of_getElem? hx,decide_eq_true hq.symm⟩).symm
  ·skip
   refine Cd.skip (Post.block_normal (Ztr ?_))
   refine Zm ?_
   refine Za_ ?_
   refine Za ?_
   refine Zk5 0 3 4 9 17 ?_
   refine Post.round (k+1) ⟨rfl,rfl,rfl,trivial⟩ ⟨by omega,fun y hy=> ?_,bel,k5⟩ (by omega)
   rw[htk] at hy
   rcases List.mem_append.1 hy with hy|hy
   ·exact hno y hy
   ·simp at hy
    subst hy
    exact fun h=>hne h.symm
 ·obtain rfl:k=13:=by omega
  rw[List.take_of_length_le (show reserved.length≤13 from Nat.le_refl _)] at hno
  refine Cd.exit (Post.then_exit (Post.round_exit (Post.block_exit (Ztq ?_))))
  refine Za ?_
  refine Zk5 0 2 3 4 9 (Zt (Cd.ret ?_))
  refine Post.end1 rfl rfl (.inl rfl) ?_
  refine⟨ret1 (bool_eq ?_),bel⟩
  unfold reservedB
  symm
  rw[List.any_eq_false]
  exact fun x hx=>by simpa using hno x hx
theorem refFree_any (l:List Nat)(w:World)(hl:∀d∈l,d<256)(hlen:l.length≤9223372036854775807):Calls Tryz.prog 78 #[.string (strOf l)] w fun e w'=>e= .returned (.bool (freeB l))∧Grow w w':=by
 have bel:=Below.refl w.heap.size w
 refine Zs 10 Tryz.func78 ?_
 refine Zsr ?_
 refine Za ?_
 refine Zk2 0 2 (Ztq ?_)
 refine Zm ?_
 refine Zc (Ze Tryz.func64) (refNamed_any l _ hl hlen) ?_
 rintro e w5 ⟨rfl,hb5⟩
 refine⟨_,rfl,?_⟩
 replace bel:=bel.step hb5
 refine Zm ?_
 refine SeqC.start ?_
 refine Zco (fun hcx=>Runs.move rfl rfl) ?_
 refine SeqC.nextC rfl rfl rfl rfl rfl rfl rfl (fun hcx=>Ze Tryz.func69) (fun hcx=>refReserved_any l _ hl) ?_
 intro w1 hw1
 replace bel:=bel.step hw1
 refine SeqC.next rfl rfl rfl rfl rfl rfl rfl (fun hcx=>Runs.not rfl rfl) ?_
 refine SeqC.and rfl rfl rfl rfl rfl rfl rfl ?_
 refine Za ?_
 refine Zk2 0 2 (Zt (Cd.ret ?_))
 refine Post.end1 rfl rfl (.inl rfl) ?_
 exact⟨ret1 (bool_eq (by unfold freeB;cases namedB l<;>rfl)),bel⟩
theorem refBuilt_any (N:Nat):∀(e:Ex) (B:Nat) (v:Value) (w:World),e.nodes≤N→Rep w B e v→B≤w.heap.size→Calls Tryz.prog 37 #[v] w fun en w'=>en= .returned (.bool (builtB e))∧Grow w w':=by
 induction N with
 |zero=>intro e B v w hN;have:=e.nodes_pos;omega
 |succ N ih=>
 intro e B v w hN hrep hB
 obtain⟨A,c,rfl,hv⟩:=hrep.open
 have bel:=Below.refl w.heap.size w
 have HB1:=hv.name
 have HB2:∀d∈([]:List Nat),d<256:=by simp
 have hnl:=hv.nlen
 have h60:=hv.h60
 have hn1:=hv.n.1
 have hn2:=hv.n.2
 have hbt:=builtB_eq e
 obtain⟨op,hop⟩:∃op,op=e.op:=⟨_,rfl⟩
 obtain⟨n,hn⟩:∃n,n=e.n:=⟨_,rfl⟩
 obtain⟨nm,hnm⟩:∃nm,nm=e.name:=⟨_,rfl⟩
 obtain⟨k,hk⟩:∃k,k=e.args.length:=⟨_,rfl⟩
 rw[←hop,←hn,←hnm,←hk] at hbt
 rw[←hnm] at HB1 hnl
 rw[←hn] at hn1 hn2
 rw[←hk] at h60
 rw[←hop,←hn,←hnm,←hk]
 have hbf:∀_:¬(arityZ op=(k:Int)∧(n=0∨op=1∨op=2)∧(nm=[]∨op=3)∧0≤n∧(op=2→n≤2932896)∧(op=3→freeB nm=true)),builtB e=false:=fun h=>by rw[hbt,headB_false h];rfl
 refine Zs 71 Tryz.func37 ?_
 refine Zsr ?_
 refine Seq.box rfl rfl rfl rfl rfl ?_
 intro g1 w1 n1
 have e1:=Nat.le_trans bel.size n1.ge
 replace bel:=bel.step n1.below
 have k1:=n1.blk
 refine Za ?_
 refine Zk3 0 1 2 (Zts (Cd.seq ?_))
 refine Cd.draw 7 (by kernel_rfl) [] (.inl rfl) rfl Grow Grow.refl (fun _ _ _=>Grow.trans) ?_
 intro w2 hw2 zw2
 replace bel:=bel.step hw2
 replace k1:=k1.step hw2
 have zbel:=bel.size
 have zlt:=k1.lt
 refine Zd (fun w hG=>Runs.fieldB 3 rfl rfl Tryz.underlying35 rfl (by kernel_rfl)) ?_
 refine Zd (fun w hG=>Runs.loadB rfl rfl Tryz.underlying22 rfl (k1.step hG) rfl) ?_
 refine Zd (fun w hG=>Runs.len rfl rfl Tryz.underlying22) ?_
 refine Zd (fun w hG=>Runs.fieldB 0 rfl rfl Tryz.underlying35 rfl (by kernel_rfl)) ?_
 refine Zd (fun w hG=>Runs.loadB rfl rfl Tryz.underlying3 rfl (k1.step hG) rfl) ?_
 refine Dr.callV rfl (fun w=>Ze Tryz.func77) rfl (fun w hG=>kids_any op w) ?_
 refine Zd (fun w hG=>Runs.neqI rfl rfl rfl) ?_
 refine Dr.nil ?_
 refine FinX.done (F':=[(0,_),(1,_),(2,_),(10,_)]) rfl ⟨rfl,rfl,rfl,rfl,trivial⟩ ?_
 intro w3 hw3 fw3
 replace bel:=bel.step hw3
 replace k1:=k1.step hw3
 refine Zk4 0 1 2 10 (Zt ?_)
 refine Cd.condD rfl (fun hc=> ?_) (fun hc=> ?_)
 ·skip
  refine Zsr ?_
  refine Za ?_
  refine Zk4 0 1 2 10 (Zt (Cd.ret (Post.then_ret ?_)))
  refine Post.end1 rfl rfl (.inl rfl) ?_
  rw[hbf (by omega)]
  exact⟨rfl,bel⟩
 ·skip
  refine Cd.skip (Zt ?_)
  refine Cd.seqJ (σ:=Unit) (fun _=>[(1, .pointer (some ⟨g1,0,none⟩))]) (fun _ wr=>headB op n nm k=true∧Below w.heap.size w wr∧Blk wr g1 35 #[.int .i64 op, .int .i64 n, .string (strOf nm), .slice A k c]) ?_ ?_
  ·skip
   refine Zsr ?_
   refine Zf 0 Tryz.underlying35 ?_
   refine Zv (Runs.loadB rfl rfl Tryz.underlying3 rfl k1 rfl) ?_
   refine Zk5 0 1 2 10 12 (Zt (Cd.block (Zsr ?_)))
   refine Zv (Runs.eqlI rfl rfl rfl) ?_
   refine Za ?_
   refine Zk6 0 1 2 10 12 21 (Zt ?_)
   refine Cd.condD rfl (fun ho=> ?_) (fun ho=> ?_)
   ·skip
    refine Zsr ?_
    refine Zf 1 Tryz.underlying35 ?_
    refine Zv (Runs.loadB rfl rfl Tryz.underlying2 rfl k1 rfl) ?_
    refine Zv (Runs.lss rfl rfl rfl) ?_
    refine Zm ?_
    refine SeqC.start ?_
    refine Zco (fun hcx=>Runs.fieldB 2 rfl rfl Tryz.underlying35 rfl (by kernel_rfl)) ?_
    refine SeqC.next rfl rfl rfl rfl rfl rfl rfl (fun hcx=>Runs.loadB rfl rfl Tryz.underlying9 rfl k1 rfl) ?_
    refine SeqC.next rfl rfl rfl rfl rfl rfl rfl (fun hcx=>Runs.neqL (b:=[]) rfl rfl rfl HB1 HB2) ?_
    refine SeqC.or rfl rfl rfl rfl rfl rfl rfl ?_
    refine Zk7 0 1 2 10 12 21 30 (Zt ?_)
    refine Cd.cond rfl (fun h=> ?_) (fun h=> ?_)
    ·skip
     refine Zsr ?_
     refine Za ?_
     refine Zk7 0 1 2 10 12 21 30 (Zt (Cd.ret (Post.block_ret (Post.then_ret ?_))))
     refine Post.end1 rfl rfl (.inl rfl) ?_
     simp at h
     rw[hbf (by rintro⟨-,-,h3,h4,-⟩;rcases h with h|h;omega;rcases h3 with h3|h3;exact h h3;omega)]
     exact⟨rfl,bel⟩
    ·simp at h
     refine Cd.skip (Post.block_normal ?_)
     exact Post.join () ⟨rfl,trivial⟩ ⟨headB_true (by omega) (by omega) (.inl h.2) (by omega) (by omega) (by omega),bel,k1⟩
   ·skip
    refine Zsr ?_
    refine Zv (Runs.eqlI rfl rfl rfl) ?_
    refine Za ?_
    refine Zk7 0 1 2 10 12 21 31 (Zt ?_)
    refine Cd.condD rfl (fun ho2=> ?_) (fun ho2=> ?_)
    ·skip
     refine Zsr ?_
     refine Zf 1 Tryz.underlying35 ?_
     refine Zv (Runs.loadB rfl rfl Tryz.underlying2 rfl k1 rfl) ?_
     refine Zv (Runs.lss rfl rfl rfl) ?_
     refine Zm ?_
     refine SeqC.start ?_
     refine Zco (fun hcx=>Runs.fieldB 1 rfl rfl Tryz.underlying35 rfl (by kernel_rfl)) ?_
     refine SeqC.next rfl rfl rfl rfl rfl rfl rfl (fun hcx=>Runs.loadB rfl rfl Tryz.underlying2 rfl k1 rfl) ?_
     refine SeqC.next rfl rfl rfl rfl rfl rfl rfl (fun hcx=>Runs.gtr rfl rfl rfl) ?_
     refine SeqC.or rfl rfl rfl rfl rfl rfl rfl ?_
     refine Zm ?_
     refine SeqC.start ?_
     refine Zco (fun hcx=>Runs.fieldB 2 rfl rfl Tryz.underlying35 rfl (by kernel_rfl)) ?_
     refine SeqC.next rfl rfl rfl rfl rfl rfl rfl (fun hcx=>Runs.loadB rfl rfl Tryz.underlying9 rfl k1 rfl) ?_
     refine SeqC.next rfl rfl rfl rfl rfl rfl rfl (fun hcx=>Runs.neqL (b:=[]) rfl rfl rfl HB1 HB2) ?_
     refine SeqC.or rfl rfl rfl rfl rfl rfl rfl ?_
     refine Zk8 0 1 2 10 12 21 31 45 (Zt ?_)
     refine Cd.cond rfl (fun h=> ?_) (fun h=> ?_)
     ·skip
      refine Zsr ?_
      refine Za ?_
      refine Zk8 0 1 2 10 12 21 31 45 (Zt (Cd.ret (Post.block_ret (Post.then_ret ?_))))
      refine Post.end1 rfl rfl (.inl rfl) ?_
      simp at h
      rw[hbf (by rintro⟨-,-,h3,h4,h5,-⟩;rcases h with (h|h)|h;omega;(have:=h5 ho2;omega);(rcases h3 with h3|h3;exact h h3;omega))]
      exact⟨rfl,bel⟩
     ·simp at h
      refine Cd.skip (Post.block_normal ?_)
      exact Post.join () ⟨rfl,trivial⟩ ⟨headB_true (by omega) (by omega) (.inl h.2) (by omega) (by omega) (by omega),bel,k1⟩
    ·skip
     refine Zsr ?_
     refine Zv (Runs.eqlI rfl rfl rfl) ?_
     refine Za ?_
     refine Zk8 0 1 2 10 12 21 31 46 (Zt ?_)
     refine Cd.condD rfl (fun ho3=> ?_) (fun ho3=> ?_)
     ·skip
      refine Zsr ?_
      refine Zf 1 Tryz.underlying35 ?_
      refine Zv (Runs.loadB rfl rfl Tryz.underlying2 rfl k1 rfl) ?_
      refine Zv (Runs.neqI rfl rfl rfl) ?_
      refine Zm ?_
      refine SeqC.start ?_
      refine Zco (fun hcx=>Runs.fieldB 2 rfl rfl Tryz.underlying35 rfl (by kernel_rfl)) ?_
      refine SeqC.next rfl rfl rfl rfl rfl rfl rfl (fun hcx=>Runs.loadB rfl rfl Tryz.underlying9 rfl k1 rfl) ?_
      refine SeqC.nextC rfl rfl rfl rfl rfl rfl rfl (fun hcx=>Ze Tryz.func78) (fun hcx=>refFree_any nm _ HB1 hnl) ?_
      intro w4 hw4
      replace bel:=bel.step hw4
      replace k1:=k1.step hw4
      refine SeqC.next rfl rfl rfl rfl rfl rfl rfl (fun hcx=>Runs.not rfl rfl) ?_
      refine SeqC.or rfl rfl rfl rfl rfl rfl rfl ?_
      refine Zk9 0 1 2 10 12 21 31 46 56 (Zt ?_)
      refine Cd.cond rfl (fun h=> ?_) (fun h=> ?_)
      ·skip
       refine Zsr ?_
       refine Za ?_
       refine Zk9 0 1 2 10 12 21 31 46 56 (Zt (Cd.ret (Post.block_ret (Post.then_ret ?_))))
       refine Post.end1 rfl rfl (.inl rfl) ?_
       simp at h
       rw[hbf (by rintro⟨-,h2,-,-,-,h6⟩;rcases h with h|h;omega;(rw[h6 ho3] at h;cases h))]
       exact⟨rfl,bel⟩
      ·simp at h
       refine Cd.skip (Post.block_normal ?_)
       exact Post.join () ⟨rfl,trivial⟩ ⟨headB_true (by omega) (.inl (by omega)) (.inr ho3) (by omega) (by omega) (fun _=>h.2),bel,k1⟩
     ·skip
      refine Zsr ?_
      refine Zf 1 Tryz.underlying35 ?_
      refine Zv (Runs.loadB rfl rfl Tryz.underlying2 rfl k1 rfl) ?_
      refine Zv (Runs.neqI rfl rfl rfl) ?_
      refine Zm ?_
      refine SeqC.start ?_
      refine Zco (fun hcx=>Runs.fieldB 2 rfl rfl Tryz.underlying35 rfl (by kernel_rfl)) ?_
      refine SeqC.next rfl rfl rfl rfl rfl rfl rfl (fun hcx=>Runs.loadB rfl rfl Tryz.underlying9 rfl k1 rfl) ?_
      refine SeqC.next rfl rfl rfl rfl rfl rfl rfl (fun hcx=>Runs.neqL (b:=[]) rfl rfl rfl HB1 HB2) ?_
      refine SeqC.or rfl rfl rfl rfl rfl rfl rfl ?_
      refine Zk9 0 1 2 10 12 20 21 31 46 (Zt ?_)
      refine Cd.cond rfl (fun h=> ?_) (fun h=> ?_)
      ·skip
       refine Zsr ?_
       refine Za ?_
       refine Zk9 0 1 2 10 12 20 21 31 46 (Zt (Cd.ret (Post.block_ret (Post.then_ret ?_))))
       refine Post.end1 rfl rfl (.inl rfl) ?_
       simp at h
       rw[hbf (by rintro⟨-,h2,h3,-⟩;rcases h with h|h;omega;(rcases h3 with h3|h3;exact h h3;omega))]
       exact⟨rfl,bel⟩
      ·simp at h
       refine Cd.skip (Post.block_normal ?_)
       exact Post.join () ⟨rfl,trivial⟩ ⟨headB_true (by omega) (.inl (by omega)) (.inl h.2) (by omega) (by omega) (by omega),bel,k1⟩
  clear bel k1
  rintro⟨⟩ wr ⟨hh,bel,k1⟩
  rw[hh,Bool.true_and] at hbt
  rw[hbt]
  clear hbf
  refine Cd.seq (Zsr ?_)
  refine Za ?_
  refine Zk2 1 3 (Zt (Cd.block ?_))
  refine Cd.loop (σ:=Nat) (fun j=>[(1, .pointer (some ⟨g1,0,none⟩)),(3, .int .i64 (j:Int))])
   (fun j wr=>j≤k∧(∀x∈e.args.take j,builtB x=true)∧Below w.heap.size w wr∧Blk wr g1 35 #[.int .i64 op, .int .i64 n, .string (strOf nm), .slice A k c]) (fun j=>k-j) 0 ⟨Nat.zero_le _,by simp,bel,k1⟩ ⟨rfl,rfl,trivial⟩ ?_
  clear bel k1
  rintro j wr ⟨hj,hall,bel,k1⟩
  refine Cd.seq (Zsr ?_)
  refine Zm ?_
  refine Zf 3 Tryz.underlying35 ?_
  refine Zv (Runs.loadB rfl rfl Tryz.underlying22 rfl k1 rfl) ?_
  refine Zv (Runs.len rfl rfl Tryz.underlying22) ?_
  refine Zv (Runs.lss rfl rfl rfl) ?_
  refine Zk3 1 3 61 (Zt ?_)
  refine Cd.condD rfl (fun hc=> ?_) (fun hc=> ?_)
  ·obtain⟨x,hx⟩:∃x,e.args[j]? =some x:=⟨_,List.getElem?_eq_getElem (show j<e.args.length by omega)⟩
   obtain⟨ad,A',c',rfl,hbl,hrx,hc⟩:=hv.arg j x hx
   have hxm:=List.mem_of_getElem? hx
   have hxn:=Ex.arg_nodes hxm
   have hc:=fun i u hj=>((bel.mono hB).cell (p:=(ad.add (j*4)).add i) (by rw[block_of_add,block_of_add];exact hbl)).trans (hc i u hj)
   have htk:e.args.take (j+1)=e.args.take j++[x]:=by rw[List.take_add_one,hx];rfl
   have hrec:=ih x B _ wr (by omega) (hrx.below (bel.mono hB)) (Nat.le_trans hB bel.size)
   refine Cd.skip (Zts (Cd.block (Zsr ?_)))
   refine Zf 3 Tryz.underlying35 ?_
   refine Zv (Runs.loadB rfl rfl Tryz.underlying22 rfl k1 rfl) ?_
   refine Zm ?_
   refine Zv (Runs.indexN rfl rfl rfl Tryz.underlying22 (s:=4) (by kernel_rfl) (j:=j) rfl (by omega)) ?_
   refine Zv (Runs.loadF (ps:=[.int .i64 x.op, .int .i64 x.n, .string (strOf x.name), .slice A' x.args.length c']) rfl rfl Tryz.underlying35 rfl (m:=4) (by kernel_rfl) rfl hc) ?_
   refine Zc (Ze Tryz.func37) (hrec) ?_
   rintro en w5 ⟨rfl,hb5⟩
   refine⟨_,rfl,?_⟩
   replace bel:=bel.step hb5
   replace k1:=k1.step hb5
   refine Zv (Runs.not rfl rfl) ?_
   refine Zk4 1 3 61 70 (Zt ?_)
   refine Cd.cond rfl (fun h=> ?_) (fun h=> ?_)
   ·skip
    refine Zsr ?_
    refine Za ?_
    refine Zk5 1 2 3 61 70 (Zt (Cd.ret (Post.block_ret (Post.then_ret (Post.round_ret (Post.block_ret (Post.then_ret ?_)))))))
    refine Post.end1 rfl rfl (.inl rfl) ?_
    refine⟨ret1 (bool_eq ?_),bel⟩
    symm
    rw[List.all_eq_false]
    exact⟨x,hxm,by simpa using h⟩
   ·skip
    refine Cd.skip (Post.block_normal (Ztr ?_))
    refine Zm ?_
    refine Za_ ?_
    refine Za ?_
    refine Zk4 1 3 61 70 ?_
    refine Post.round (j+1) ⟨rfl,rfl,trivial⟩ ⟨by omega,fun y hy=> ?_,bel,k1⟩ (by omega)
    rw[htk] at hy
    rcases List.mem_append.1 hy with hy|hy
    ·exact hall y hy
    ·simp at hy
     subst hy
     simpa using h
  ·obtain rfl:j=k:=by omega
   rw[List.take_of_length_le (by omega)] at hall
   refine Cd.exit (Post.then_exit (Post.round_exit (Post.block_exit (Ztq ?_))))
   refine Za ?_
   refine Zk4 1 2 3 61 (Zt (Cd.ret ?_))
   refine Post.end1 rfl rfl (.inl rfl) ?_
   refine⟨ret1 (bool_eq ?_),bel⟩
   symm
   rw[List.all_eq_true]
   exact hall
end Go.Proofs.YtaamkfajnpobfaaGreat
namespace Go.Proofs.YtaamkfajnpobfaaGreat
open Go.RowKit
theorem Runs.convU {P:Program}{E:Operand→Option Value}{o:Oper}{w:World}{x:Operand}{T T':TypeId}{p:Int}{r:Nat}(ho:o.op= .convert T T' x)(hx:E x=some (.int .i64 p))(hS:P.underlying T=some (.int .i64))(hT:P.underlying T'=some (.int .u64))(hr:p%18446744073709551616=(r:Int)):Runs P E o w (.int .u64 (r:Int)) w:=
 .convI ho hx hS hT (by rw[IntKind.wrap_u64,hr])
def earl (k:Int)(at_:Nat):Nat:=at_-1-(k%18446744073709551616).toNat%at_
theorem earlier_zero (k:Int)(w:World):Calls Tryz.prog 35 #[.int .i64 k, .int .i64 0] w fun e w'=>e= .returned (.int .i64 (-1))∧Grow w w':=by
 have bel:=Below.refl w.heap.size w
 refine Zs 16 Tryz.func35 ?_
 refine Zsr ?_
 refine Za ?_
 refine Zk3 0 1 4 (Zts (Zsr ?_))
 refine Zm ?_
 refine Zv (Runs.eqlI rfl rfl rfl) ?_
 refine Zk4 0 1 4 6 (Zt ?_)
 refine Cd.condT rfl rfl ?_
 refine Zsr ?_
 refine Za ?_
 refine Zk4 0 1 4 6 (Zt (Cd.ret (Post.then_ret ?_)))
 refine Post.end1 rfl rfl (.inl rfl) ?_
 exact⟨rfl,bel⟩
theorem earlier_any (k:Int)(at_:Nat)(w:World)(h0:0<at_)(h1:at_≤1000):Calls Tryz.prog 35 #[.int .i64 k, .int .i64 (at_:Int)] w fun e w'=>e= .returned (.int .i64 (earl k at_:Int))∧Grow w w':=by
 have bel:=Below.refl w.heap.size w
 obtain⟨u,hu⟩:∃u:Nat,k%18446744073709551616=(u:Int):=⟨(k%18446744073709551616).toNat,by omega⟩
 obtain⟨m,hm⟩:∃m,m=u%at_:=⟨_,rfl⟩
 have hml:m<at_:=by rw[hm];exact Nat.mod_lt _ h0
 have he:earl k at_=at_-1-m:=by unfold earl;rw[hu,hm,Int.toNat_natCast]
 rw[he]
 refine Zs 16 Tryz.func35 ?_
 refine Zsr ?_
 refine Za ?_
 refine Zk3 0 1 4 (Zts (Zsr ?_))
 refine Zm ?_
 refine Zv (Runs.eqlI rfl rfl rfl) ?_
 refine Zk4 0 1 4 6 (Zt ?_)
 refine Cd.condF rfl (decide_eq_false (by omega)) ?_
 refine Cd.skip (Ztq ?_)
 refine Zm ?_
 refine Zv (Runs.subI rfl rfl rfl (by omega) (by omega)) ?_
 refine Zm ?_
 refine Zv (Runs.convU (r:=u) rfl rfl Tryz.underlying3 Tryz.underlying52 hu) ?_
 refine Zm ?_
 refine Zv (Runs.convU (r:=at_) rfl rfl Tryz.underlying3 Tryz.underlying52 (by omega)) ?_
 refine Zv ((Runs.remN rfl rfl rfl (by omega) (by omega)).cast (v':= .int .u64 (m:Int)) (int_eq (by rw[hm];exact(Int.natCast_emod _ _).symm))) ?_
 refine Zv (Runs.convI rfl rfl Tryz.underlying52 Tryz.underlying3 (wrapI (by omega) (by omega))) ?_
 refine Zv (Runs.subI rfl rfl rfl (by omega) (by omega)) ?_
 refine Za ?_
 refine Zk4 0 1 4 6 (Zt (Cd.ret ?_))
 refine Post.end1 rfl rfl (.inl rfl) ?_
 exact⟨ret1 (int_eq (by omega)),bel⟩
def toldZ (n d:Int):Int × Int:=if 1000≤n∨1000≤d then(1000,1000) else(n,d)
theorem told_any (n d:Int)(w:World):Calls Tryz.prog 36 #[.int .i64 n, .int .i64 d] w fun e w'=>e= .returned (.tuple #[.int .i64 (toldZ n d).1, .int .i64 (toldZ n d).2])∧Grow w w':=by
 have bel:=Below.refl w.heap.size w
 refine Zs 14 Tryz.func36 ?_
 refine Zsr ?_
 refine Za ?_
 refine Za ?_
 refine Zk4 0 1 4 5 (Zts (Zsr ?_))
 refine Zm ?_
 refine Zv (Runs.geq rfl rfl rfl) ?_
 refine Zm ?_
 refine SeqC.start ?_
 refine Zco (fun hcx=>Runs.move rfl rfl) ?_
 refine SeqC.next rfl rfl rfl rfl rfl rfl rfl (fun hcx=>Runs.geq rfl rfl rfl) ?_
 refine SeqC.or rfl rfl rfl rfl rfl rfl rfl ?_
 refine Zk5 0 1 4 5 11 (Zt ?_)
 refine Cd.cond rfl (fun h=> ?_) (fun h=> ?_)
 ·simp at h
  refine Zsr ?_
  refine Za ?_
  refine Za ?_
  refine Zk5 0 1 4 5 11 (Zt (Cd.ret (Post.then_ret ?_)))
  refine Post.end2 rfl rfl rfl (.inl rfl) ?_
  unfold toldZ
  rw[if_pos h]
  exact⟨rfl,bel⟩
 ·simp at h
  refine Cd.skip (Ztq ?_)
  refine Zm ?_
  refine Zm ?_
  refine Za ?_
  refine Za ?_
  refine Zk5 0 1 4 5 11 (Zt (Cd.ret ?_))
  refine Post.end2 rfl rfl rfl (.inl rfl) ?_
  unfold toldZ
  rw[if_neg (by omega)]
  exact⟨rfl,bel⟩
structure Forest (w:World)(T:List Nat)(es:List Ex)(vs:List Value):Prop where
 len:vs.length=es.length
 lt:∀b∈T,b<w.heap.size
 rep:∀(i:Nat) (e:Ex) (v:Value),es[i]? =some e→vs[i]? =some v→RepE w (· ∈T) e v
section
variable {w w':World} {T:List Nat} {es:List Ex} {vs:List Value}
theorem Forest.keep (h:Forest w T es vs)(hs:w.heap.size≤w'.heap.size)(hb:∀b∈T,w'.heap[b]? =w.heap[b]?):Forest w' T es vs:=
 ⟨h.len,fun b hm=>Nat.lt_of_lt_of_le (h.lt b hm) hs,fun i e v he hv=>(h.rep i e v he hv).mono (fun _ h=>h) (fun p hp=>World.cell?_of_block (hb p.block hp))⟩
theorem Forest.step (h:Forest w T es vs)(hb:Below w.heap.size w w'):Forest w' T es vs:=h.keep hb.size (fun b hm=>hb.block b (h.lt b hm))
theorem Forest.grown {row:Option Nat}(h:Forest w T es vs)(hg:w.grownBy w' row)(hne:∀b,row=some b→b∉T):Forest w' T es vs:=h.keep hg.size (fun b hm=>hg.block b (h.lt b hm) (fun e=>hne b e.symm hm))
theorem Forest.nil (w:World):Forest w [] [] []:=⟨rfl,fun b h=>(by cases h),fun i e v h=>by cases h⟩
theorem Forest.cells (h:Forest w T es vs):sizes 4 vs:=by
 have:∀v∈vs,v.cells.size=4:=fun v hv=>by
  obtain⟨k,hk,rfl⟩:=List.getElem_of_mem hv
  obtain⟨z,hz⟩:∃z,es[k]? =some z:=⟨_,List.getElem?_eq_getElem (by have:=h.len;omega)⟩
  exact(h.rep k z _ hz (List.getElem?_eq_getElem hk)).cells4
 clear h
 induction vs with
 |nil=>trivial
 |cons v r ih=>exact⟨this v List.mem_cons_self,ih (fun u hu=>this u (List.mem_cons_of_mem _ hu))⟩
end
theorem Own.kept' {w w':World}{B size n:Nat}{e:TypeId}{v:Value}{xs:List Value}{row:Option Nat}(h:Own w B e size v n xs)(hg:w.grownBy w' row)(hne:∀b,v.ownBlock=some b→row≠some b):Own w' B e size v n xs:=by
 refine⟨h.row.kept hg ?_⟩
 cases hv:v.ownBlock with
 |none=>exact .inl rfl
 |some b=>exact .inr fun e'=>hne b hv e'.symm
theorem Own.blockLt {w:World}{B size n:Nat}{e:TypeId}{v:Value}{xs:List Value}(h:Own w B e size v n xs):∀b,v.ownBlock=some b→B≤b∧b<w.heap.size:=fun b hb=>by
 obtain⟨h1,h2⟩:=h.row
 rcases h2 with ⟨rfl,-⟩|⟨g',cap,cur,rfl,e2,e3,e4⟩
 ·cases hb
 ·injection hb with hb
  subst hb
  exact⟨e2,(show Blk w g' e cur from e3).lt⟩
section
variable {P:Program} {ops:Array Oper} {Q:Exit→Act→World→Prop} {rest:List Oper} {o:Oper} {n d:Nat} {F:List (Nat × Value)} {w:World} {v:Value} {x y:Operand}
theorem Seq.append2 {t e B B2 size b k m c:Nat}{A:Option Addr}{z:Value}{xs news:List Value}(ho:o.op= .call {callee:= .builtin .append,args:= #[x,y],argTypes:= #[t,t]}) (hx:evF F x=some v) (hy:evF F y=some (.slice A m c)) (ht:P.underlying t=some (.slice e)) (hs:sizeIs P e size=true) (hz:zeroIs P e=some (some z)) (hzs:z.cells.size=size) (hsz:0<size) (hby:(P.info? e).map (·.bytes)=some b)
  (hown:Own w B e size v k xs) (hr:Reads w B2 size A m news) (h1:∀u∈news,u.oneCell'=true) (hB:B≤w.heap.size) (h63:k+m≤maxLen) (hbytes:(k+m)*b≤140737488355328) (hg:o.guard=none) (hd:o.dst=some d) (hn:Nat.blt d n=true)
  (h:∀v' w',Own w' B e size v' (k+m) (xs++news)→App w w' B v→(v'.ownBlock=v.ownBlock∨v'.ownBlock=some w.heap.size)→Seq P ops Q rest n ((d,v')::F) w'):Seq P ops Q (o::rest) n F w:=by
 obtain⟨i,hi,hisz⟩:=sizeIs_spec hs
 have hz':i.zero=some z:=by unfold zeroIs at hz;rw[hi] at hz;injection hz
 have hb':i.bytes=b:=by rw[hi] at hby;injection hby
 obtain⟨v',w',hrun,h2,h3,h4⟩:=run_append_any (P:=P) w B t o.type e i z size b ht hi hz' hisz hb' hzs hsz v k xs hown.row B2 A m c news hr h1 h63 hbytes hB
 refine Seq.val (v:=v') (w':=w') (fun ρ hρ=> ?_) hg hd hn (h v' w' ⟨h2⟩ ⟨?_,h3⟩ h4)
 ·unfold execOp
  simp only[ho,resolve,invoke,builtin,Sem.run_bind,Sem.run_pure,Result.andThen_ok,List.map_toArray,List.map_cons,List.map_nil,hρ _ _ hx,hρ _ _ hy,hrun]
 ·refine⟨h3.os,h3.tape,h3.output,h3.size,fun j hj=>h3.block j (by omega) fun e'=> ?_⟩
  rcases hown.row.2 with ⟨rfl,_⟩|⟨g,cap,cur,rfl,hBg,_⟩
  ·cases e'
  ·injection e' with e'
   have:j=g:=e'
   omega
end
end Go.Proofs.YtaamkfajnpobfaaGreat
namespace Go.Proofs.YtaamkfajnpobfaaGreat
open Go.RowKit
structure Lf where
 op:Int
 n:Int
 name:List Nat
 kids:List Int
structure Lf.rng (x:Lf):Prop where
 op:I64 x.op
 n:I64 x.n
 name:∀d∈x.name,d<256
 nlen:x.name.length≤9223372036854775807
def zNodes (e:Ex):Int:=(toldZ (e.nodes:Int) (e.depth:Int)).1
def zDepth (e:Ex):Int:=(toldZ (e.nodes:Int) (e.depth:Int)).2
def sumN:List Ex→Int
 | []=>0
 |e::r=>zNodes e+sumN r
def maxD:List Ex→Int
 | []=>0
 |e::r=>max (zDepth e) (maxD r)
theorem sumN_snoc (l:List Ex)(e:Ex):sumN (l++[e])=sumN l+zNodes e:=by
 induction l with
 |nil=>show zNodes e+0=0+zNodes e;omega
 |cons x r ih=>show zNodes x+sumN (r++[e])=zNodes x+sumN r+zNodes e;omega
theorem z_bounds (e:Ex):0≤zNodes e∧zNodes e≤1000∧0≤zDepth e∧zDepth e≤1000:=by
 unfold zNodes zDepth toldZ
 split<;>omega
theorem maxD_nonneg (l:List Ex):0≤maxD l∧maxD l≤1000:=by
 induction l with
 |nil=>exact⟨Int.le_refl _,by decide⟩
 |cons x r ih=>have:=z_bounds x;show 0≤max (zDepth x) (maxD r)∧max (zDepth x) (maxD r)≤1000;omega
theorem maxD_snoc (l:List Ex)(e:Ex):maxD (l++[e])=max (maxD l) (zDepth e):=by
 induction l with
 |nil=>have:=z_bounds e;show max (zDepth e) 0=max 0 (zDepth e);omega
 |cons x r ih=>show max (zDepth x) (maxD (r++[e]))=max (max (zDepth x) (maxD r)) (zDepth e);omega
theorem sumN_bounds (l:List Ex):0≤sumN l∧sumN l≤1000*(l.length:Int):=by
 induction l with
 |nil=>exact⟨Int.le_refl _,by decide⟩
 |cons x r ih=>
  have:=z_bounds x
  have h:sumN (x::r)=zNodes x+sumN r:=rfl
  rw[h,List.length_cons]
  omega
theorem sum_or (l:List Ex):(sumN l=(nodesL l:Int)∧maxD l=(depthL l:Int))∨(1000≤sumN l∧1000≤nodesL l):=by
 induction l with
 |nil=>exact .inl ⟨rfl,rfl⟩
 |cons x r ih=>
  have hb:=sumN_bounds r
  have hz:=z_bounds x
  have h1:sumN (x::r)=zNodes x+sumN r:=rfl
  have h2:maxD (x::r)=max (zDepth x) (maxD r):=rfl
  have h3:nodesL (x::r)=x.nodes+nodesL r:=by rw[nodesL]
  have h4:depthL (x::r)=max x.depth (depthL r):=by rw[depthL]
  have hd:=x.depth_nodes
  rw[h1,h2,h3,h4]
  rcases ih with ⟨e1,e2⟩|⟨e1,e2⟩
  ·by_cases hbig:1000≤(x.nodes:Int)∨1000≤(x.depth:Int)
   ·have:zNodes x=1000:=by unfold zNodes toldZ;rw[if_pos hbig]
    right
    omega
   ·have g1:zNodes x=x.nodes:=by unfold zNodes toldZ;rw[if_neg hbig]
    have g2:zDepth x=x.depth:=by unfold zDepth toldZ;rw[if_neg hbig]
    left
    omega
  ·right;omega
theorem told_mk (op n:Int)(nm:List Nat)(l:List Ex):toldZ (1+sumN l) (1+maxD l)=(zNodes (.mk op n nm l),zDepth (.mk op n nm l)):=by
 have hn:=Ex.nodes_mk op n nm l
 have hd:=Ex.depth_mk op n nm l
 have hdn:=depthL_nodesL l
 have hm:=maxD_nonneg l
 unfold zNodes zDepth
 rw[hn,hd]
 rcases sum_or l with ⟨e1,e2⟩|⟨e1,e2⟩
 ·rw[e1,e2,Int.natCast_add,Int.natCast_add];rfl
 ·unfold toldZ
  rw[if_pos (by omega),if_pos (by omega)]
def pickK (es:List Ex)(ks:List Int):List Ex:=ks.filterMap fun k=>if es.length=0 then none else es[earl k es.length]?
theorem earl_lt (k:Int){n:Nat}(h:0<n):earl k n<n:=by unfold earl;omega
theorem pickK_none (es:List Ex)(ks:List Int)(k:Int)(h:es.length=0):pickK es (ks++[k])=pickK es ks:=by
 unfold pickK;rw[List.filterMap_append];simp[h]
theorem pickK_some (es:List Ex)(ks:List Int)(k:Int)(e:Ex)(h:es[earl k es.length]? =some e):pickK es (ks++[k])=pickK es ks++[e]:=by
 unfold pickK
 have h0:¬es.length=0:=fun h0=>by rw[List.eq_nil_of_length_eq_zero h0] at h;cases h
 rw[List.filterMap_append]
 simp only[h0,if_false]
 rw[List.filterMap_cons,h]
 rfl
theorem pickK_length (es:List Ex)(ks:List Int):(pickK es ks).length≤ks.length:=List.length_filterMap_le _ _
theorem pickK_mem {es:List Ex}{ks:List Int}{e:Ex}(h:e∈pickK es ks):e∈es:=by
 unfold pickK at h
 obtain⟨k,-,hk⟩:=List.mem_filterMap.1 h
 split at hk
 ·cases hk
 ·exact List.mem_of_getElem? hk
def leafE (es:List Ex)(x:Lf):Ex:= .mk x.op x.n x.name (pickK es (x.kids.take 5))
def addE (es:List Ex)(x:Lf):List Ex:=es++[leafE es x]
def treesOf (ls:List Lf):List Ex:=ls.foldl addE []
theorem treesOf_snoc (ls:List Lf)(x:Lf):treesOf (ls++[x])=treesOf ls++[leafE (treesOf ls) x]:=by
 unfold treesOf;rw[List.foldl_append];rfl
theorem treesOf_length (ls:List Lf):(treesOf ls).length=ls.length:=by
 have:∀(r:List Lf) (es:List Ex),(r.foldl addE es).length=es.length+r.length:=by
  intro r
  induction r with
  |nil=>intro es;rfl
  |cons x r ih=>intro es;rw[List.foldl_cons,ih];simp[addE];omega
 have h:=this ls []
 simpa[treesOf] using h
theorem depthL_le {l:List Ex}{m:Nat}(h:∀e∈l,e.depth≤m):depthL l≤m:=by
 induction l with
 |nil=>exact Nat.zero_le _
 |cons x r ih=>
  rw[depthL]
  have:=h x List.mem_cons_self
  have:=ih fun e he=>h e (List.mem_cons_of_mem _ he)
  omega
theorem treesOf_depth (ls:List Lf):∀e∈treesOf ls,e.depth≤ls.length:=by
 have key:∀(r:List Lf) (es:List Ex) (m:Nat),(∀e∈es,e.depth≤m)→∀e∈r.foldl addE es,e.depth≤m+r.length:=by
  intro r
  induction r with
  |nil=>intro es m h e he;exact h e he
  |cons x r ih=>
   intro es m h e he
   rw[List.foldl_cons] at he
   have:=ih (addE es x) (m+1) (fun e he=>by
    rcases List.mem_append.1 he with he|he
    ·have:=h e he;omega
    ·obtain rfl:=List.mem_singleton.1 he
     have:=depthL_le (fun e he=>h e (pickK_mem he):∀e∈pickK es (x.kids.take 5),e.depth≤m)
     unfold leafE
     rw[Ex.depth_mk];omega) e he
   rw[List.length_cons];omega
 intro e he
 have:=key ls [] 0 (by simp) e he
 omega
def DI (l:List Int):List Value:=l.map fun z=> .int .i64 z
theorem length_DI (l:List Int):(DI l).length=l.length:=by simp[DI]
theorem get_DI (l:List Int)(k:Nat):(DI l)[k]? =l[k]?.map (Value.int .i64):=by simp[DI]
theorem DI_append (a b:List Int):DI (a++b)=DI a++DI b:=by simp[DI]
theorem flatC_append (a b:List Value):flatC (a++b)=flatC a++flatC b:=by
 induction a with
 |nil=>rfl
 |cons v r ih=>show v.cells.toList++flatC (r++b)=(v.cells.toList++flatC r)++flatC b;rw[ih,List.append_assoc]
def LfAt (w:World)(B:Nat)(A:Option Addr)(xs:List Lf):Prop:=∀i x,xs[i]? =some x→∃ad A' c,A=some ad∧ad.block<B∧Reads w B 1 A' x.kids.length (DI x.kids)∧∀(j:Nat) (u:Value),([.int .i64 x.op, .int .i64 x.n, .string (strOf x.name), .slice A' x.kids.length c]:List Value)[j]? =some u→w.cell? ((ad.add (i*4)).add j)=some u
theorem LfAt.below {w w':World}{B:Nat}{A:Option Addr}{xs:List Lf}(h:LfAt w B A xs)(hb:Below B w w'):LfAt w' B A xs:=fun i x hx=>by
 obtain⟨ad,A',c,e1,e2,e3,e4⟩:=h i x hx
 exact⟨ad,A',c,e1,e2,e3.below hb,fun j u hu=>(hb.cell (by rw[block_of_add,block_of_add];exact e2)).trans (e4 j u hu)⟩
def blocksOf (v:Value):List Nat:=v.ownBlock.toList
theorem mem_blocksOf {v:Value}{b:Nat}:b∈blocksOf v↔v.ownBlock=some b:=by
 unfold blocksOf;cases v.ownBlock<;>simp[eq_comm]
theorem Forest.more {w:World}{T:List Nat}{es args:List Ex}{vs avs:List Value}{B:Nat}{o n:Int}{nm:List Nat}{vA:Value}(h:Forest w T es vs)(hl:avs.length=args.length)(h60:args.length≤1000)(hop:I64 o)(hn:I64 n)(hnm:∀d∈nm,d<256)(hnl:nm.length≤9223372036854775807)
  (hr:∀(i:Nat) (e:Ex) (v:Value),args[i]? =some e→avs[i]? =some v→RepE w (· ∈T) e v) (hA:Own w B 35 4 vA args.length (flatC avs)):
  Forest w (blocksOf vA++T) (es++[.mk o n nm args]) (vs++[.agg #[.int .i64 o, .int .i64 n, .string (strOf nm),vA]]):=by
 obtain⟨A,c,hv,hrd⟩:=hA.reads
 have hbl:=hA.blockLt
 refine⟨by rw[List.length_append,List.length_append,h.len];rfl,fun b hm=> ?_,fun i e v he hvi=> ?_⟩
 ·rcases List.mem_append.1 hm with hm|hm
  ·exact(hbl b (mem_blocksOf.1 hm)).2
  ·exact h.lt b hm
 ·rcases Nat.lt_or_ge i es.length with hi|hi
  ·rw[List.getElem?_append_left hi] at he
   rw[List.getElem?_append_left (by rw[h.len];exact hi)] at hvi
   exact(h.rep i e v he hvi).mono (fun b hb=>List.mem_append_right _ hb) (fun _ _=>rfl)
  ·rw[List.getElem?_append_right hi] at he
   rw[List.getElem?_append_right (by rw[h.len];exact hi),h.len] at hvi
   have h0:i-es.length=0:=by
    have:=(List.getElem?_eq_some_iff.1 he).1
    simp at this
    exact this
   rw[h0] at he hvi
   injection he with he
   injection hvi with hvi
   subst he hvi
   subst hv
   refine .mk hl h60 hop hn hnm hnl (fun i e v he hv=>(hr i e v he hv).mono (fun b hb=>List.mem_append_right _ hb) (fun _ _=>rfl)) fun hne=> ?_
   have hpos:0<args.length:=by
    rcases Nat.eq_zero_or_pos args.length with h0|h0
    ·have:avs=[]:=List.eq_nil_of_length_eq_zero (by omega)
     rw[this] at hne
     exact absurd rfl hne
    ·exact h0
   obtain⟨ad,rfl,-,hc⟩:=hrd.2 hpos
   exact⟨ad,rfl,List.mem_append_left _ (mem_blocksOf.2 rfl),hc⟩
end Go.Proofs.YtaamkfajnpobfaaGreat
namespace Go.Proofs.YtaamkfajnpobfaaGreat
open Go.RowKit
theorem earlierC (k:Int)(i:Nat)(w:World)(h:i≤1000):Calls Tryz.prog 35 #[.int .i64 k, .int .i64 (i:Int)] w fun e w'=>(∃z,e= .returned (.int .i64 z)∧((i=0∧z= -1)∨(0<i∧z=(earl k i:Int))))∧Grow w w':=by
 rcases Nat.eq_zero_or_pos i with rfl|h0
 ·exact(earlier_zero k w).mono fun e w' h=>⟨⟨_,h.1, .inl ⟨rfl,rfl⟩⟩,h.2⟩
 ·exact(earlier_any k i w h0 h).mono fun e w' h=>⟨⟨_,h.1, .inr ⟨h0,rfl⟩⟩,h.2⟩
theorem toldC (n d:Int)(l:List Ex)(op m:Int)(nm:List Nat)(w:World)(hn:n=1+sumN l)(hd:d=1+maxD l):Calls Tryz.prog 36 #[.int .i64 n, .int .i64 d] w fun e w'=>e= .returned (.tuple #[.int .i64 (zNodes (.mk op m nm l)), .int .i64 (zDepth (.mk op m nm l))])∧Grow w w':=by
 have h:=told_any n d w
 subst hn hd
 rw[told_mk op m nm l] at h
 exact h
theorem run_build_Tree (w:World):(Instr.build 45 #[]).run Tryz.prog w= .ok (.agg #[.slice none 0 0, .slice none 0 0, .slice none 0 0, .slice none 0 0, .slice none 0 0, .slice none 0 0]) w:=by kernel_rfl
theorem run_build_Ex (a b:Int)(s:List Nat)(w:World):(Instr.build 35 #[(0, .int .i64 a),(1, .int .i64 b),(2, .string (strOf s))]).run Tryz.prog w= .ok (.agg #[.int .i64 a, .int .i64 b, .string (strOf s), .slice none 0 0]) w:=by
 have hu:=Tryz.underlying35
 go_simp
theorem zero_debentureref18_Tree:zeroIs Tryz.prog 45=some (some (.agg #[.slice none 0 0, .slice none 0 0, .slice none 0 0, .slice none 0 0, .slice none 0 0, .slice none 0 0])):=by kernel_rfl
theorem zero_debentureref18_Leaf:zeroIs Tryz.prog 77=some (some (.agg #[.int .i64 0, .int .i64 0, .string {data:= #[]}, .slice none 0 0])):=by kernel_rfl
theorem Own.app {B B2 B' n n2 size size2:Nat}{w w':World}{e e2:TypeId}{v v2:Value}{xs xs2:List Value}(h:Own w B e size v n xs)(o:Own w B2 e2 size2 v2 n2 xs2)(ha:App w w' B' v2)(hne:e2≠e:=by decide):Own w' B e size v n xs:=by
 refine⟨h.row.kept ha.grown ?_⟩
 obtain⟨h1,h2⟩:=h.row
 rcases h2 with ⟨rfl,-⟩|⟨g',cap,cur,rfl,e2,e3,e4⟩
 ·exact .inl rfl
 ·exact .inr fun e'=>own_blk_ne o.row (show Blk w g' e cur from e3) hne e'.symm
theorem Blk.app {k n B B' size:Nat}{w w':World}{t e:TypeId}{cs:Array Value}{v:Value}{xs:List Value}(h:Blk w k t cs)(o:Own w B e size v n xs)(ha:App w w' B' v)(hne:e≠t:=by decide):Blk w' k t cs:=h.grown ha.grown (fun e'=>own_blk_ne o.row h hne e'.symm)
theorem Forest.put {w w':World}{T:List Nat}{es:List Ex}{vs:List Value}{g B:Nat}{t:TypeId}{cur cs:Array Value}(h:Forest w T es vs)(_k:Blk w g t cur)(p:Put w w' g t cs)(_e:B≤g)(hne:g∉T:=by assumption):Forest w' T es vs:=
 h.grown p.grown fun b e=>by injection e with e;exact e▸hne
def Apart (v:Value)(T:List Nat):Prop:=∀b,v.ownBlock=some b→b∉T
theorem Apart.more {v vA:Value}{T:List Nat}{N:Nat}(h:Apart v T)(hlt:∀b,v.ownBlock=some b→b<N)(hA:∀b,vA.ownBlock=some b→N≤b):Apart v (blocksOf vA++T):=fun b hb hm=>by
 rcases List.mem_append.1 hm with hm|hm
 ·have:=hlt b hb;have:=hA b (mem_blocksOf.1 hm);omega
 ·exact h b hb hm
theorem Apart.app {v v':Value}{T:List Nat}{N:Nat}(h:Apart v T)(hlt:∀b∈T,b<N)(hv:v'.ownBlock=v.ownBlock∨v'.ownBlock=some N):Apart v' T:=fun b hb hm=>by
 rcases hv with hv|hv
 ·exact h b (hv▸hb) hm
 ·rw[hv] at hb;injection hb with hb;subst hb;exact Nat.lt_irrefl _ (hlt _ hm)
theorem Forest.app {w w':World}{T:List Nat}{es:List Ex}{vs:List Value}{B:Nat}{v:Value}(h:Forest w T es vs)(hv:Apart v T)(ha:App w w' B v):Forest w' T es vs:=h.grown ha.grown fun b e=>hv b e
def Two (v u:Value):Prop:=∀b,v.ownBlock=some b→u.ownBlock≠some b
theorem Two.symm {v u:Value}(h:Two v u):Two u v:=fun b hb hv=>h b hv hb
theorem Two.app {v u u':Value}{N:Nat}(h:Two v u)(hlt:∀b,v.ownBlock=some b→b<N)(hu:u'.ownBlock=u.ownBlock∨u'.ownBlock=some N):Two v u':=fun b hb hm=>by
 rcases hu with hu|hu
 ·exact h b hb (hu▸hm)
 ·rw[hu] at hm;injection hm with hm;subst hm;exact Nat.lt_irrefl _ (hlt _ hb)
def BuiltR (B:Nat)(es:List Ex)(v:Value)(w:World):Prop:=∃T vs vE vN vD,v= .agg #[vE,vN,vD, .slice none 0 0, .slice none 0 0, .slice none 0 0]∧Forest w T es vs∧Own w B 35 4 vE es.length (flatC vs)∧Own w B 3 1 vN es.length (DI (es.map zNodes))∧Own w B 3 1 vD es.length (DI (es.map zDepth))
end Go.Proofs.YtaamkfajnpobfaaGreat
namespace Go.Proofs.YtaamkfajnpobfaaGreat
open Go.RowKit
def treeV (n:Nat)(AE AN AD:Option Addr)(cE cN cD:Nat):Value:= .agg #[.slice AE n cE, .slice AN n cN, .slice AD n cD, .slice none 0 0, .slice none 0 0, .slice none 0 0]
structure TreeR (w:World)(B:Nat)(es:List Ex)(AE AN AD:Option Addr):Prop where
 expr:∀i e,es[i]? =some e→∃ad A' c',AE=some ad∧ad.block<B∧Rep w B e (.agg #[.int .i64 e.op, .int .i64 e.n, .string (strOf e.name), .slice A' e.args.length c'])∧∀(j:Nat) (u:Value),([.int .i64 e.op, .int .i64 e.n, .string (strOf e.name), .slice A' e.args.length c']:List Value)[j]? =some u→w.cell? ((ad.add (i*4)).add j)=some u
 nodes:Reads w B 1 AN es.length (DI (es.map zNodes))
 deps:Reads w B 1 AD es.length (DI (es.map zDepth))
theorem TreeR.below {w w':World}{B:Nat}{es:List Ex}{AE AN AD:Option Addr}(h:TreeR w B es AE AN AD)(hb:Below B w w'):TreeR w' B es AE AN AD:=
 ⟨fun i e he=>by
  obtain⟨ad,A',c',e1,e2,e3,e4⟩:=h.expr i e he
  exact⟨ad,A',c',e1,e2,e3.below hb,fun j u hu=>(hb.cell (by rw[block_of_add,block_of_add];exact e2)).trans (e4 j u hu)⟩,h.nodes.below hb,h.deps.below hb⟩
theorem BuiltR.tree {B:Nat}{es:List Ex}{v:Value}{w:World}(h:BuiltR B es v w):∃AE AN AD cE cN cD,v=treeV es.length AE AN AD cE cN cD∧TreeR w w.heap.size es AE AN AD:=by
 obtain⟨T,vs,vE,vN,vD,rfl,fo,oE,oN,oD⟩:=h
 have h4:∀y∈vs,y.cells.size=4:=sizes_spec fo.cells
 obtain⟨AE,cE,rfl,hE⟩:=oE.reads
 obtain⟨AN,cN,rfl,hN⟩:=oN.reads
 obtain⟨AD,cD,rfl,hD⟩:=oD.reads
 refine⟨AE,AN,AD,cE,cN,cD,rfl,fun i e he=> ?_,hN,hD⟩
 have hi:=(List.getElem?_eq_some_iff.1 he).1
 obtain⟨ev,hev⟩:∃ev,vs[i]? =some ev:=⟨_,List.getElem?_eq_getElem (by rw[fo.len];omega)⟩
 have hre:=fo.rep i e ev he hev
 obtain⟨A',c',rfl⟩:=hre.form
 obtain⟨ad,rfl,hb,hc⟩:=hE.2 (by omega)
 exact⟨ad,A',c',rfl,hb,hre.mono (fun b hm=>fo.lt b hm) (fun _ _=>rfl),fun j u hu=>by rw[add_of_add];exact hc _ _ (flatC_at h4 hev j u (by simpa[Value.cells] using hu))⟩
def rightB (e:Ex):Bool:=decide (e.nodes≤200)&&decide (e.depth≤16)&&builtB e
end Go.Proofs.YtaamkfajnpobfaaGreat
namespace Go.Proofs.YtaamkfajnpobfaaGreat
open Go.RowKit
def yearZ (y:Int):Int:=if leapB y then 366 else 365
theorem of_start:ofZ 1970 1 1=0:=by decide
theorem of_last:ofZ 10000 1 1=2932897:=by decide
theorem leapB_iff (y:Int):leapB y=true↔y%4=0∧(y%100≠0∨y%400=0):=by unfold leapB;simp
theorem of_one (y:Int):ofZ y 1 1=(y-1)/400*146097+((y-1)%400*365+(y-1)%400/4-(y-1)%400/100+306)-719468:=by
 unfold ofZ ofY ofM
 rw[if_pos (by omega),if_pos (by omega)]
 omega
theorem of_year (y:Int):ofZ (y+1) 1 1=ofZ y 1 1+yearZ y:=by
 rw[of_one,of_one]
 have hl:=leapB_iff y
 unfold yearZ
 rw[Int.add_sub_cancel]
 generalize hr:(y-1)%400=r
 generalize hq:(y-1)/400=q
 obtain rfl:y=400*q+r+1:=by omega
 have hr1:0≤r∧r<400:=by omega
 split
 ·rename_i h
  have:=hl.1 h
  by_cases h4:r=399
  ·subst h4;omega
  ·rw[show(400*q+r+1)/400=q by omega,show(400*q+r+1)%400=r+1 by omega];omega
 ·rename_i h
  have:¬((400*q+r+1)%4=0∧((400*q+r+1)%100≠0∨(400*q+r+1)%400=0)):=fun h2=>h (hl.2 h2)
  by_cases h4:r=399
  ·subst h4;omega
  ·rw[show(400*q+r+1)/400=q by omega,show(400*q+r+1)%400=r+1 by omega];omega
theorem of_day (y m d:Int):ofZ y m d=ofZ y m 1+d-1:=by unfold ofZ;omega
theorem of_month (y m:Int)(h1:1≤m)(h2:m≤11):ofZ y (m+1) 1=ofZ y m 1+daysZ y m:=by
 rcases(show m=1∨m=2∨m=3∨m=4∨m=5∨m=6∨m=7∨m=8∨m=9∨m=10∨m=11 by omega) with rfl|rfl|rfl|rfl|rfl|rfl|rfl|rfl|rfl|rfl|rfl
 case inr.inl=>
  have:=of_year y
  rw[of_one,of_one] at this
  unfold yearZ at this
  unfold ofZ ofY ofM daysZ
  split at this<;>rename_i h<;>simp[h] at this⊢ <;>omega
 all_goals
  unfold ofZ ofY ofM daysZ
  simp
  try omega
theorem of_dec (y:Int):ofZ (y+1) 1 1=ofZ y 12 1+31:=by
 rw[of_one]
 unfold ofZ ofY ofM
 simp
 omega
theorem daysZ_pos (y m:Int):0≤daysZ y m:=by
 unfold daysZ
 split
 ·split<;>omega
 ·split
  ·omega
  ·split<;>omega
theorem of_mono_m (y:Int):∀(k:Nat) (m:Int),1≤m→m+k≤12→ofZ y m 1≤ofZ y (m+k) 1:=by
 intro k
 induction k with
 |zero=>intro m _ _;simp
 |succ k ih=>
  intro m h1 h2
  have h3:=ih m h1 (by omega)
  have h4:=of_month y (m+k) (by omega) (by omega)
  have h5:=daysZ_pos y (m+k)
  rw[show m+((k+1:Nat):Int)=m+k+1 by omega]
  omega
theorem of_le_m {y m m':Int}(h1:1≤m)(h2:m≤m')(h3:m'≤12):ofZ y m 1≤ofZ y m' 1:=by
 have:=of_mono_m y (m'-m).toNat m h1 (by omega)
 rwa [show m+((m'-m).toNat:Int)=m' by omega] at this
theorem yearZ_pos (y:Int):365≤yearZ y:=by unfold yearZ;split<;>omega
theorem of_mono_y:∀(k:Nat) (y:Int),ofZ y 1 1≤ofZ (y+k) 1 1:=by
 intro k
 induction k with
 |zero=>intro y;simp
 |succ k ih=>
  intro y
  have h1:=ih y
  have h2:=of_year (y+k)
  have h3:=yearZ_pos (y+k)
  rw[show y+((k+1:Nat):Int)=y+k+1 by omega]
  omega
theorem of_le_y {y y':Int}(h:y≤y'):ofZ y 1 1≤ofZ y' 1 1:=by
 have:=of_mono_y (y'-y).toNat y
 rwa [show y+((y'-y).toNat:Int)=y' by omega] at this
theorem of_span {y m d:Int}(h:ofOk y m d=true):1970≤y∧y≤9999∧1≤m∧m≤12∧1≤d∧d≤daysZ y m∧ofZ y 1 1≤ofZ y m d∧ofZ y m d<ofZ (y+1) 1 1∧0≤ofZ y m d∧ofZ y m d≤2932896:=by
 unfold ofOk at h
 simp at h
 obtain⟨⟨⟨h1,h2⟩,h3⟩,h4⟩:=h
 obtain⟨h5,h6,-⟩:=daysZ_m (y:=y) (m:=m) (by omega)
 have a1:=of_le_m (y:=y) (m:=1) (m':=m) (by omega) h5 h6
 have a2:=of_day y m d
 have a3:ofZ y m 1+daysZ y m≤ofZ (y+1) 1 1:=by
  by_cases hm:m=12
  ·subst hm
   rw[of_dec]
   have:daysZ y 12=31:=by unfold daysZ;simp
   omega
  ·have b1:=of_month y m h5 (by omega)
   have b2:=of_le_m (y:=y) (m:=m+1) (m':=12) (by omega) (by omega) (by omega)
   have b3:=of_dec y
   omega
 have a4:=of_le_y (y:=1970) (y':=y) h1
 have a5:=of_le_y (y:=y+1) (y':=10000) (by omega)
 rw[of_start] at a4
 rw[of_last] at a5
 exact⟨h1,h2,h5,h6,h3,h4,by omega,by omega,by omega,by omega⟩
def digR (v:Nat):Nat→List Nat
 |0=>[]
 |n+1=>(48+v/10^n%10)::digR v n
theorem digR_len (v n:Nat):(digR v n).length=n:=by induction n with
 |zero=>rfl
 |succ n ih=>unfold digR;simp[ih]
theorem digR_lt (v n:Nat):∀x∈digR v n,x<256:=by induction n with
 |zero=>intro x h;cases h
 |succ n ih=>
  intro x h
  unfold digR at h
  rcases List.mem_cons.1 h with rfl|h
  ·omega
  ·exact ih x h
def printD (y m d:Nat):List Nat:=digR y 4++[45]++digR m 2++[45]++digR d 2
end Go.Proofs.YtaamkfajnpobfaaGreat
namespace Go.Proofs.YtaamkfajnpobfaaGreat
open Go.RowKit
def rawV (l:List Nat):Int:=l.foldl (fun(v:Int) (c:Nat)=>10*v+(c:Int)-48) 0
theorem num2_of (a b:Nat):numZ [a,b]=if(48≤a∧a≤57)∧(48≤b∧b≤57) then 10*((a:Int)-48)+((b:Int)-48) else -1:=by
 unfold numZ
 have e:([a,b].all digB=true)↔((48≤a∧a≤57)∧(48≤b∧b≤57)):=by simp[digB]
 by_cases h:(48≤a∧a≤57)∧(48≤b∧b≤57)
 ·rw[if_pos (e.2 h),if_pos h]
  simp[valD]
  omega
 ·rw[if_neg (fun x=>h (e.1 x)),if_neg h]
theorem num4_of (a b c d:Nat):numZ [a,b,c,d]=if(48≤a∧a≤57)∧(48≤b∧b≤57)∧(48≤c∧c≤57)∧(48≤d∧d≤57) then 1000*((a:Int)-48)+100*((b:Int)-48)+10*((c:Int)-48)+((d:Int)-48) else -1:=by
 unfold numZ
 have e:([a,b,c,d].all digB=true)↔((48≤a∧a≤57)∧(48≤b∧b≤57)∧(48≤c∧c≤57)∧(48≤d∧d≤57)):=by simp[digB]
 by_cases h:(48≤a∧a≤57)∧(48≤b∧b≤57)∧(48≤c∧c≤57)∧(48≤d∧d≤57)
 ·rw[if_pos (e.2 h),if_pos h]
  simp[valD]
  omega
 ·rw[if_neg (fun x=>h (e.1 x)),if_neg h]
theorem ten_of {l:List Nat}(h:l.length=10):∃c0 c1 c2 c3 c4 c5 c6 c7 c8 c9,l=[c0,c1,c2,c3,c4,c5,c6,c7,c8,c9]:=by
 rcases l with _|⟨c0,_|⟨c1,_|⟨c2,_|⟨c3,_|⟨c4,_|⟨c5,_|⟨c6,_|⟨c7,_|⟨c8,_|⟨c9,_|⟨x,l⟩⟩⟩⟩⟩⟩⟩⟩⟩⟩⟩<;>simp at h
 exact⟨_,_,_,_,_,_,_,_,_,_,rfl⟩
theorem ofOk_bd {y m d:Int}(h:ofOk y m d=true):1970≤y∧y≤9999∧1≤m∧m≤12∧1≤d∧d≤31:=by
 obtain⟨h1,h2,h3,h4,h5,h6,-⟩:=of_span h
 obtain⟨-,-,h7⟩:=daysZ_m (y:=y) (m:=m) (by omega)
 exact⟨h1,h2,h3,h4,h5,by omega⟩
theorem day_law (l:List Nat)(h:l.length=10):(dateOk l=true↔(ofOk (rawV (l.take 4)) (rawV ((l.take 7).drop 5)) (rawV ((l.take 10).drop 8))=true∧printD (rawV (l.take 4)).toNat (rawV ((l.take 7).drop 5)).toNat (rawV ((l.take 10).drop 8)).toNat=l))∧
  (dateOk l=true→dateZ l=ofZ (rawV (l.take 4)) (rawV ((l.take 7).drop 5)) (rawV ((l.take 10).drop 8))):=by
 obtain⟨c0,c1,c2,c3,c4,c5,c6,c7,c8,c9,rfl⟩:=ten_of h
 have r1:rawV [c0,c1,c2,c3]=1000*((c0:Int)-48)+100*((c1:Int)-48)+10*((c2:Int)-48)+((c3:Int)-48):=by simp[rawV];omega
 have r2:rawV [c5,c6]=10*((c5:Int)-48)+((c6:Int)-48):=by simp[rawV];omega
 have r3:rawV [c8,c9]=10*((c8:Int)-48)+((c9:Int)-48):=by simp[rawV];omega
 have hk:dateOk [c0,c1,c2,c3,c4,c5,c6,c7,c8,c9]=(decide (c4=45)&&decide (c7=45)&&ofOk (numZ [c0,c1,c2,c3]) (numZ [c5,c6]) (numZ [c8,c9])):=by
  unfold dateOk
  simp
 have hz:dateZ [c0,c1,c2,c3,c4,c5,c6,c7,c8,c9]=if dateOk [c0,c1,c2,c3,c4,c5,c6,c7,c8,c9]=true then ofZ (numZ [c0,c1,c2,c3]) (numZ [c5,c6]) (numZ [c8,c9]) else 0:=rfl
 show(_↔(ofOk (rawV [c0,c1,c2,c3]) (rawV [c5,c6]) (rawV [c8,c9])=true∧printD (rawV [c0,c1,c2,c3]).toNat (rawV [c5,c6]).toNat (rawV [c8,c9]).toNat=_))∧(_→_=ofZ (rawV [c0,c1,c2,c3]) (rawV [c5,c6]) (rawV [c8,c9]))
 rw[hz,hk]
 have key:(decide (c4=45)&&decide (c7=45)&&ofOk (numZ [c0,c1,c2,c3]) (numZ [c5,c6]) (numZ [c8,c9]))=true→numZ [c0,c1,c2,c3]=rawV [c0,c1,c2,c3]∧numZ [c5,c6]=rawV [c5,c6]∧numZ [c8,c9]=rawV [c8,c9]∧printD (rawV [c0,c1,c2,c3]).toNat (rawV [c5,c6]).toNat (rawV [c8,c9]).toNat=[c0,c1,c2,c3,c4,c5,c6,c7,c8,c9]:=by
  intro hd
  simp at hd
  obtain⟨⟨h4,h7⟩,ho⟩:=hd
  have hb:=ofOk_bd ho
  rw[num4_of,num2_of,num2_of] at hb⊢
  rw[r1,r2,r3]
  split at hb
  ·rename_i d1
   split at hb
   ·rename_i d2
    split at hb
    ·rename_i d3
     rw[if_pos d1,if_pos d2,if_pos d3]
     refine⟨rfl,rfl,rfl,?_⟩
     unfold printD digR digR digR digR digR
     simp
     refine⟨?_,?_,?_,?_,?_,?_,?_,?_,?_,?_⟩<;>omega
    ·omega
   ·omega
  ·omega
 refine⟨⟨fun hd=> ?_,fun hd=> ?_⟩,fun hd=> ?_⟩
 ·obtain⟨k1,k2,k3,k4⟩:=key hd
  simp at hd
  rw[k1,k2,k3] at hd
  exact⟨hd.2,k4⟩
 ·obtain⟨ho,hp⟩:=hd
  have hb:=ofOk_bd ho
  generalize rawV [c0,c1,c2,c3]=Y at *
  generalize rawV [c5,c6]=M at *
  generalize rawV [c8,c9]=D at *
  unfold printD digR digR digR digR digR at hp
  simp at hp
  obtain⟨p0,p1,p2,p3,p4,p5,p6,p7,p8,p9⟩:=hp
  have e1:numZ [c0,c1,c2,c3]=Y:=by rw[num4_of,if_pos (by omega)];omega
  have e2:numZ [c5,c6]=M:=by rw[num2_of,if_pos (by omega)];omega
  have e3:numZ [c8,c9]=D:=by rw[num2_of,if_pos (by omega)];omega
  rw[e1,e2,e3,ho]
  simp
  omega
 ·obtain⟨k1,k2,k3,-⟩:=key hd
  rw[if_pos hd,k1,k2,k3]
end Go.Proofs.YtaamkfajnpobfaaGreat
namespace Go.Proofs.YtaamkfajnpobfaaGreat
open Go.RowKit
def eraS (y:Nat):Nat:=365*y+y/4-y/100+y/400
def eraY (e:Nat):Nat:=(e-e/1460+e/36524-e/146096)/365
theorem eraG_step (e:Nat)(h:e+1≤146096):e-e/1460+e/36524-e/146096≤(e+1)-(e+1)/1460+(e+1)/36524-(e+1)/146096:=by omega
theorem eraG_mono (k:Nat):∀e,e+k≤146096→e-e/1460+e/36524-e/146096≤(e+k)-(e+k)/1460+(e+k)/36524-(e+k)/146096:=by
 induction k with
 |zero=>intro e _;exact Nat.le_refl _
 |succ k ih=>intro e h;exact Nat.le_trans (ih e (by omega)) (eraG_step (e+k) (by omega))
theorem eraY_mono {e e':Nat}(h:e≤e')(h1:e'≤146096):eraY e≤eraY e':=by
 obtain⟨k,rfl⟩:∃k,e'=e+k:=⟨e'-e,by omega⟩
 exact Nat.div_le_div_right (eraG_mono k e h1)
def tabY (y:Nat):Bool:=Nat.beq (eraY (eraS y)) y&&Nat.beq (eraY (eraS (y+1)-1)) y&&Nat.blt (eraS y) (eraS (y+1))&&Nat.ble (eraS (y+1)) 146097
theorem tabY_all:((List.range 20).all fun a=>(List.range 20).all fun b=>tabY (20*a+b))=true:=by decide+kernel
theorem eraY_table (y:Nat)(h:y<400):eraY (eraS y)=y∧eraY (eraS (y+1)-1)=y∧eraS y<eraS (y+1)∧eraS (y+1)≤146097:=by
 have h1:=List.all_eq_true.1 (List.all_eq_true.1 tabY_all (y/20) (List.mem_range.2 (by omega))) (y%20) (List.mem_range.2 (by omega))
 rw[show 20*(y/20)+y%20=y by omega] at h1
 unfold tabY at h1
 simp only[Bool.and_eq_true] at h1
 obtain⟨⟨⟨a,b⟩,c⟩,d⟩:=h1
 exact⟨Nat.eq_of_beq_eq_true a,Nat.eq_of_beq_eq_true b,Nat.le_of_ble_eq_true c,Nat.le_of_ble_eq_true d⟩
theorem eraS_last:eraS 400=146097:=by decide+kernel
theorem era_year (e:Nat)(h:e<146097):∃y,y<400∧eraS y≤e∧e<eraS (y+1):=by
 have key:∀k,k≤400→e<eraS k→∃y,y<400∧eraS y≤e∧e<eraS (y+1):=by
  intro k
  induction k with
  |zero=>intro _ h;exact absurd h (Nat.not_lt_zero _)
  |succ k ih=>
   intro hk he
   rcases Nat.lt_or_ge e (eraS k) with h1|h1
   ·exact ih (by omega) h1
   ·exact⟨k,by omega,h1,he⟩
 exact key 400 (Nat.le_refl _) (by rw[eraS_last];exact h)
theorem era_of (e:Nat)(h:e<146097):eraY e<400∧eraS (eraY e)≤e∧e<eraS (eraY e+1):=by
 obtain⟨y,h1,h2,h3⟩:=era_year e h
 obtain⟨t1,t2,t3,t4⟩:=eraY_table y h1
 have a:=eraY_mono h2 (by omega)
 have b:=eraY_mono (e:=e) (e':=eraS (y+1)-1) (by omega) (by omega)
 have:eraY e=y:=by omega
 rw[this]
 exact⟨h1,h2,h3⟩
def lenM (m:Nat):Nat:=[31,30,31,30,31,31,30,31,30,31,31,29].getD m 0
def tabM (t:Nat):Bool:=Nat.ble ((5*t+2)/153) 11&&Nat.ble ((153*((5*t+2)/153)+2)/5) t&&Nat.blt (t-(153*((5*t+2)/153)+2)/5) (lenM ((5*t+2)/153))&&(!(Nat.beq (t-(153*((5*t+2)/153)+2)/5) 28&&Nat.beq ((5*t+2)/153) 11)||Nat.beq t 365)
theorem tabM_all:((List.range 19).all fun a=>(List.range 20).all fun b=>Nat.ble 366 (20*a+b)||tabM (20*a+b))=true:=by decide+kernel
theorem month_table (t:Nat)(h:t<366):(5*t+2)/153≤11∧(153*((5*t+2)/153)+2)/5≤t∧t-(153*((5*t+2)/153)+2)/5<lenM ((5*t+2)/153)∧(t-(153*((5*t+2)/153)+2)/5=28→(5*t+2)/153=11→t=365):=by
 have h1:=List.all_eq_true.1 (List.all_eq_true.1 tabM_all (t/20) (List.mem_range.2 (by omega))) (t%20) (List.mem_range.2 (by omega))
 rw[show 20*(t/20)+t%20=t by omega] at h1
 have h0:Nat.ble 366 t=false:=by
  cases hb:Nat.ble 366 t with
  |false=>rfl
  |true=>have:=Nat.le_of_ble_eq_true hb;omega
 rw[h0,Bool.false_or] at h1
 unfold tabM at h1
 simp only[Bool.and_eq_true] at h1
 obtain⟨⟨⟨a,b⟩,c⟩,d⟩:=h1
 refine⟨Nat.le_of_ble_eq_true a,Nat.le_of_ble_eq_true b,Nat.le_of_ble_eq_true c,fun e1 e2=> ?_⟩
 rw[e1,e2] at d
 exact Nat.eq_of_beq_eq_true (by simpa using d)
theorem leap_shift (q y:Nat)(h:leapB ((y:Int)+1)=true):leapB (((q*400+y:Nat):Int)+1)=true:=by
 rw[leapB_iff] at *
 omega
theorem of_shift (q y:Nat)(h:y<400)(mm d:Int):(((q*400+y:Nat):Int))/400*146097+(((q*400+y:Nat):Int)%400*365+((q*400+y:Nat):Int)%400/4-((q*400+y:Nat):Int)%400/100+((153*mm+2)/5+d-1))-719468=q*146097+((y:Int)*365+y/4-y/100)+((153*mm+2)/5+d-1)-719468:=by
 have a1:(((q*400+y:Nat):Int))/400=q:=by omega
 have a2:((q*400+y:Nat):Int)%400=y:=by omega
 rw[a1,a2]
 omega
theorem eraS_leap (y:Nat):eraS (y+1)-eraS y≤366∧(eraS (y+1)-eraS y=366→leapB ((y:Int)+1)=true):=by
 unfold eraS
 refine⟨by omega,fun h=> ?_⟩
 rw[leapB_iff]
 omega
theorem eraS_int (y:Nat)(h:y<400):(eraS y:Int)=(y:Int)*365+y/4-y/100:=by unfold eraS;omega
theorem civ_core (n q e y t m d:Nat)(hn:n+719468=q*146097+e)(h1:y<400)(h2:eraS y≤e)(h3:e<eraS (y+1))(ht:t=e-eraS y)(hm:m=(5*t+2)/153)(hd:d=t-(153*m+2)/5+1):
  ofZ (if 10≤m then q*400+y+1 else q*400+y:Nat) (if 10≤m then m-9 else m+3:Nat) d=n∧1≤(if 10≤m then m-9 else m+3)∧(if 10≤m then m-9 else m+3)≤12∧1≤d∧(d:Int)≤daysZ (if 10≤m then q*400+y+1 else q*400+y:Nat) (if 10≤m then m-9 else m+3:Nat):=by
 obtain⟨l1,l2⟩:=eraS_leap y
 have hlp:t=365→leapB (((q*400+y:Nat):Int)+1)=true:=fun h=>leap_shift q y (l2 (by omega))
 have hi:=eraS_int y h1
 have hsh:=of_shift q y h1
 obtain⟨m1,m2,m3,m4⟩:=month_table t (by omega)
 rw[←hm] at m1 m2 m3 m4
 have hzz:∀mm:Int,mm=m→(q:Int)*146097+((y:Int)*365+y/4-y/100)+((153*mm+2)/5+(d:Int)-1)-719468=n:=by
  rintro mm rfl
  rw[←hi]
  omega
 clear hi l1 l2 h2 h3 hn
 obtain⟨yy,hyy⟩:∃yy,yy=q*400+y:=⟨_,rfl⟩
 rw[←hyy] at hlp hsh⊢
 clear hyy
 by_cases hm10:10≤m
 ·simp only[hm10,if_true]
  refine⟨?_,by omega,by omega,by omega,?_⟩
  ·unfold ofZ ofY ofM
   rw[if_pos (by omega),if_pos (by omega),show(((yy+1:Nat):Int)-1)=(yy:Int) by omega,hsh]
   exact hzz _ (by omega)
  ·have:m=10∨m=11:=by omega
   rcases this with rfl|rfl
   ·replace m3:t-(153*10+2)/5<31:=m3
    unfold daysZ
    simp
    omega
   ·replace m3:t-(153*11+2)/5<29:=m3
    unfold daysZ
    simp
    split
    ·omega
    ·rename_i hl
     have:t≠365:=fun h=>hl (hlp h)
     omega
 ·simp only[hm10,if_false]
  refine⟨?_,by omega,by omega,by omega,?_⟩
  ·unfold ofZ ofY ofM
   rw[if_neg (by omega),if_neg (by omega),hsh]
   exact hzz _ (by omega)
  ·have:m=0∨m=1∨m=2∨m=3∨m=4∨m=5∨m=6∨m=7∨m=8∨m=9:=by omega
   clear hzz hsh hlp hm10 m1 m4
   rcases this with rfl|rfl|rfl|rfl|rfl|rfl|rfl|rfl|rfl|rfl<;>(simp[lenM] at m3;unfold daysZ;simp;omega)
def yT (e:Nat):Nat:=e-eraS (eraY e)
def mT (e:Nat):Nat:=(5*yT e+2)/153
def dT (e:Nat):Nat:=yT e-(153*mT e+2)/5+1
def cY (q e:Nat):Nat:=if 10≤mT e then q*400+eraY e+1 else q*400+eraY e
def cM (e:Nat):Nat:=if 10≤mT e then mT e-9 else mT e+3
theorem civ_qe (n q e:Nat)(hn:n+719468=q*146097+e)(he:e<146097):ofZ (cY q e) (cM e) (dT e)=n∧1≤cM e∧cM e≤12∧1≤dT e∧(dT e:Int)≤daysZ (cY q e) (cM e):=by
 obtain⟨h1,h2,h3⟩:=era_of _ he
 have:=civ_core n q e (eraY e) (yT e) (mT e) (dT e) hn h1 h2 h3 rfl rfl rfl
 unfold cY cM
 exact this
theorem ofOk_of (n:Nat)(y m d:Nat)(h:n≤2932896)(hz:ofZ y m d=n)(h2:1≤m)(h3:m≤12)(h4:1≤d)(h5:(d:Int)≤daysZ y m):ofOk y m d=true:=by
 have hday:=of_day (y:Int) (m:Int) (d:Int)
 have hlo:(1970:Int)≤y:=by
  rcases Int.lt_or_le (y:Int) 1970 with hlt|hge
  ·exfalso
   have h6:=of_le_y (y:=(y:Int)+1) (y':=1970) (by omega)
   have hs:=of_start
   have hdec:=of_dec (y:Int)
   rcases Nat.lt_or_ge m 12 with hm12|hm12
   ·have hmn:=of_month (y:Int) (m:Int) (by omega) (by omega)
    have hm2:=of_le_m (y:=(y:Int)) (m:=(m:Int)+1) (m':=12) (by omega) (by omega) (by omega)
    omega
   ·have h12:(m:Int)=12:=by omega
    rw[h12] at hday h5 hz
    have:daysZ (y:Int) 12=31:=by unfold daysZ;simp
    omega
  ·exact hge
 have hhi:(y:Int)≤9999:=by
  rcases Int.lt_or_le 9999 (y:Int) with hlt|hge
  ·exfalso
   have h6:=of_le_y (y:=10000) (y':=(y:Int)) (by omega)
   have hs:=of_last
   have hm:=of_le_m (y:=(y:Int)) (m:=1) (m':=(m:Int)) (by omega) (by omega) (by omega)
   omega
  ·exact hge
 unfold ofOk
 simp only[Bool.and_eq_true,decide_eq_true_eq]
 exact⟨⟨⟨hlo,hhi⟩,by omega⟩,h5⟩
def dayT (n:Nat):List Nat:=printD (cY ((n+719468)/146097) ((n+719468)%146097)) (cM ((n+719468)%146097)) (dT ((n+719468)%146097))
theorem dayT_of (n q e:Nat)(hq:(n+719468)/146097=q)(he:(n+719468)%146097=e):dayT n=printD (cY q e) (cM e) (dT e):=by subst hq he;rfl
end Go.Proofs.YtaamkfajnpobfaaGreat
namespace Go.Proofs.YtaamkfajnpobfaaGreat
open Go.RowKit
end Go.Proofs.YtaamkfajnpobfaaGreat
namespace Go.Proofs.YtaamkfajnpobfaaGreat
open Go.RowKit
def val:List Nat→Nat
 | []=>0
 |d::l=>d+65536*val l
def digs (n:Nat):List Nat:=if n=0 then [] else n%65536::digs (n/65536)
termination_by n
decreasing_by omega
theorem digs_zero:digs 0=[]:=by rw[digs];simp
def U (l:List Nat):List Value:=l.map fun(d:Nat)=>Value.int .u64 (d:Int)
theorem get_U (l:List Nat)(k:Nat):(U l)[k]? =l[k]?.map fun(d:Nat)=>Value.int .u64 (d:Int):=by simp[U]
end Go.Proofs.YtaamkfajnpobfaaGreat
namespace Go.Proofs.YtaamkfajnpobfaaGreat
open Go.RowKit
def MagR (w:World)(v:Value)(n:Nat):Prop:=∃A c,v= .slice A (digs n).length c∧(digs n).length≤c∧c≤9223372036854775807∧Reads w w.heap.size 1 A (digs n).length (U (digs n))
def Fresh (base:Nat)(v:Value):Prop:=match v with
 | .slice (some A) _ _=>base≤A.block
 |_=>True
theorem Fresh.mono {b b':Nat}{v:Value}(h:Fresh b v)(hb:b'≤b):Fresh b' v:=by
 unfold Fresh at *
 split<;>first|trivial|(simp only at h;omega)
theorem MagR.step {w w':World}{v:Value}{n:Nat}(h:MagR w v n)(hb:Below w.heap.size w w'):MagR w' v n:=by
 obtain⟨A,c,e,h1,h2,h3⟩:=h
 exact⟨A,c,e,h1,h2,(h3.below hb).more hb.size⟩
theorem MagR.drewN {w:World}{v:Value}{n:Nat}(h:MagR w v n)(k:Nat):MagR (w.drewN k) v n:=h
theorem MagR.nil (w:World)(c:Nat)(hc:c≤9223372036854775807):MagR w (.slice none 0 c) 0:=⟨none,c,by rw[digs_zero];rfl,by rw[digs_zero];simp,hc,by rw[digs_zero];exact Reads.none_⟩
def cmpZ (a b:Int):Int:=if a<b then -1 else if a=b then 0 else 1
def cmpN (a b:Nat):Int:=if a<b then -1 else if a=b then 0 else 1
end Go.Proofs.YtaamkfajnpobfaaGreat
namespace Go.Proofs.YtaamkfajnpobfaaGreat
open Go.RowKit
end Go.Proofs.YtaamkfajnpobfaaGreat
namespace Go.Proofs.YtaamkfajnpobfaaGreat
open Go.RowKit
end Go.Proofs.YtaamkfajnpobfaaGreat
namespace Go.Proofs.YtaamkfajnpobfaaGreat
open Go.RowKit
def BigR (w:World)(v:Value)(z:Int):Prop:=∃m,v= .agg #[.bool (decide (z<0)),m]∧MagR w m z.natAbs
theorem BigR.step {w w':World}{v:Value}{z:Int}(h:BigR w v z)(hb:Below w.heap.size w w'):BigR w' v z:=by
 obtain⟨m,e,h⟩:=h
 exact⟨m,e,h.step hb⟩
theorem Reads.other {w w':World}{B n g:Nat}{A:Option Addr}{l:List Nat}{cs:Array Value}{t:TypeId}{fr:Nat × Nat}(h:Reads w B 1 A n (U l))(hg:w.heap[g]? =some (.cells cs t fr))(hcs:∀(k:IntKind) (z:Int),Value.int k z∉cs.toList)
  (hgr:w.grownBy w' (some g)):Reads w' B 1 A n (U l):=by
 refine⟨h.1,fun hn=> ?_⟩
 obtain⟨ad,hA,hb,hc⟩:=h.2 hn
 refine⟨ad,hA,hb,fun j u hu=> ?_⟩
 have h1:=hc j u hu
 have hne:(ad.add j).block≠g:=by
  intro he
  rw[get_U] at hu
  cases hl:l[j]? with
  |none=>rw[hl] at hu;cases hu
  |some d=>
   rw[hl] at hu
   injection hu with hu
   subst hu
   unfold World.cell? at h1
   rw[he,hg] at h1
   simp only at h1
   split at h1
   ·cases h1
   ·exact hcs _ _ (Array.mem_toList_iff.2 (Array.mem_of_getElem? h1))
 have hlt:(ad.add j).block<w.heap.size:=by
  unfold World.cell? at h1
  rcases Nat.lt_or_ge (ad.add j).block w.heap.size with h2|h2
  ·exact h2
  ·rw[Array.getElem?_eq_none h2] at h1;cases h1
 rw[←h1]
 unfold World.cell?
 rw[hgr.block _ hlt (by intro e;injection e with e;exact hne e)]
theorem MagR.other {w w':World}{n g:Nat}{v:Value}{cs:Array Value}{t:TypeId}{fr:Nat × Nat}(h:MagR w v n)(hg:w.heap[g]? =some (.cells cs t fr))(hcs:∀(k:IntKind) (z:Int),Value.int k z∉cs.toList)
  (hgr:w.grownBy w' (some g)):MagR w' v n:=by
 obtain⟨A,c,e,h1,h2,h3⟩:=h
 exact⟨A,c,e,h1,h2,(h3.other hg hcs hgr).more hgr.size⟩
end Go.Proofs.YtaamkfajnpobfaaGreat
namespace Go.Proofs.YtaamkfajnpobfaaGreat
open Go.RowKit
theorem MagR.put {w w':World}{v:Value}{n g:Nat}{T:TypeId}{cur cs:Array Value}{B:Nat}(h:MagR w v n)(k:Blk w g T cur)(p:Put w w' g T cs)(_e:B≤g)(hcs:∀(k:IntKind) (z:Int),Value.int k z∉cur.toList:=by simp[Value.cells, *]):MagR w' v n:=h.other k hcs p.grown
theorem MagR.one {w:World}{v:Value}{n:Nat}(h:MagR w v n):v.oneCell'=true:=by obtain⟨A,c,rfl,_⟩:=h;rfl
theorem BigR.stable (z:Int):∀v w w',Grow w w'→BigR w v z→BigR w' v z:=fun _ _ _ hG h=>h.step hG
theorem MagR.stable (z:Nat):∀v w w',Grow w w'→MagR w v z→MagR w' v z:=fun _ _ _ hG h=>h.step hG
def big:Nat:=65536^60
end Go.Proofs.YtaamkfajnpobfaaGreat
namespace Go.Proofs.YtaamkfajnpobfaaGreat
open Go.RowKit
theorem BigR.agg {w:World}{v:Value}{z:Int}(h:BigR w v z):∃m,v= .agg #[.bool (decide (z<0)),m]∧m.oneCell'=true∧MagR w m z.natAbs:=by
 obtain⟨m,e,hm⟩:=h
 exact⟨m,e,hm.one,hm⟩
theorem BigR.put {w w':World}{v:Value}{z:Int}{g B:Nat}{T:TypeId}{cur cs:Array Value}(h:BigR w v z)(k:Blk w g T cur)(p:Put w w' g T cs)(e:B≤g)(hcs:∀(k:IntKind) (z:Int),Value.int k z∉cur.toList:=by simp[Value.cells, *]):BigR w' v z:=by
 obtain⟨m,e1,hm⟩:=h
 exact⟨m,e1,hm.put k p e hcs⟩
end Go.Proofs.YtaamkfajnpobfaaGreat
namespace Go.Proofs.YtaamkfajnpobfaaGreat
open Go.RowKit
end Go.Proofs.YtaamkfajnpobfaaGreat
namespace Go.Proofs.YtaamkfajnpobfaaGreat
open Go.RowKit
def valFrom (l:List Nat)(k:Nat):Nat:=val (l.drop k)
end Go.Proofs.YtaamkfajnpobfaaGreat
namespace Go.Proofs.YtaamkfajnpobfaaGreat
open Go.RowKit
theorem digs_0:digs 0=[]:=by unfold digs;rfl
theorem MagR.zero (w:World):MagR w (.slice none 0 0) 0:=⟨none,0,by rw[digs_0];rfl,by rw[digs_0];simp,by omega,by rw[digs_0];exact Reads.none_⟩
theorem Reads.otherU {w w':World}{B n g:Nat}{A:Option Addr}{l:List Nat}{cs:Array Value}{t:TypeId}{fr:Nat × Nat}(h:Reads w B 1 A n (U l))(hg:w.heap[g]? =some (.cells cs t fr))(hcs:∀(z:Int),Value.int .u64 z∉cs.toList)
  (hgr:w.grownBy w' (some g)):Reads w' B 1 A n (U l):=by
 refine⟨h.1,fun hn=> ?_⟩
 obtain⟨ad,hA,hb,hc⟩:=h.2 hn
 refine⟨ad,hA,hb,fun j u hu=> ?_⟩
 have h1:=hc j u hu
 have hne:(ad.add j).block≠g:=by
  intro he
  rw[get_U] at hu
  cases hl:l[j]? with
  |none=>rw[hl] at hu;cases hu
  |some d=>
   rw[hl] at hu
   injection hu with hu
   subst hu
   unfold World.cell? at h1
   rw[he,hg] at h1
   simp only at h1
   split at h1
   ·cases h1
   ·exact hcs _ (Array.mem_toList_iff.2 (Array.mem_of_getElem? h1))
 have hlt:(ad.add j).block<w.heap.size:=by
  unfold World.cell? at h1
  rcases Nat.lt_or_ge (ad.add j).block w.heap.size with h2|h2
  ·exact h2
  ·rw[Array.getElem?_eq_none h2] at h1;cases h1
 rw[←h1]
 unfold World.cell?
 rw[hgr.block _ hlt (by intro e;injection e with e;exact hne e)]
structure MagU (w:World)(m:Value)(n:Nat):Prop where
 mag:MagR w m n
theorem MagU.step {w w':World}{m:Value}{n:Nat}(h:MagU w m n)(hb:Below w.heap.size w w'):MagU w' m n:=⟨h.mag.step hb⟩
theorem MagU.put {w w':World}{m:Value}{n g B:Nat}{T:TypeId}{cur cs:Array Value}(h:MagU w m n)(k:Blk w g T cur)(p:Put w w' g T cs)(_e:B≤g)(hcs:∀(z:Int),Value.int .u64 z∉cur.toList:=by simp[Value.cells, *]):MagU w' m n:=by
 obtain⟨A,c,e,h1,h2,h3⟩:=h.mag
 exact⟨A,c,e,h1,h2,(h3.otherU k hcs p.grown).more p.grown.size⟩
theorem MagU.big {w:World}{m:Value}{r:Nat}(h:MagU w m r):BigR w (.agg [Value.bool false,m].toArray) (r:Int):=⟨m,by rw[decide_eq_false (show¬(r:Int)<0 by omega)],by rw[Int.natAbs_natCast];exact h.mag⟩
end Go.Proofs.YtaamkfajnpobfaaGreat
namespace Go.Proofs.YtaamkfajnpobfaaGreat
open Go.RowKit
def prR (u d k:Nat):List Nat:=(prB u d k).reverse
end Go.Proofs.YtaamkfajnpobfaaGreat
namespace Go.Proofs.YtaamkfajnpobfaaGreat
open Go.RowKit
end Go.Proofs.YtaamkfajnpobfaaGreat
namespace Go.Proofs.YtaamkfajnpobfaaGreat
open Go.RowKit
theorem printD_lt (y m d:Nat):∀x∈printD y m d,x<256:=by
 intro x hx
 unfold printD at hx
 simp only[List.mem_append] at hx
 rcases hx with (((h|h)|h)|h)|h
 ·exact digR_lt _ _ x h
 ·simp at h;omega
 ·exact digR_lt _ _ x h
 ·simp at h;omega
 ·exact digR_lt _ _ x h
def idxD (k:Nat):Nat:=if 7<k then 2 else if 4<k then 1 else 0
def rawS (l:List Nat):Nat→List Int
 |0=>[0,0,0]
 |k+1=>if k=4∨k=7 then rawS l k else(rawS l k).set (idxD k) (10*(rawS l k).getD (idxD k) 0+(l.getD k 0:Int)-48)
end Go.Proofs.YtaamkfajnpobfaaGreat
namespace Go.Proofs.YtaamkfajnpobfaaGreat
open Go.RowKit
section
variable {P:Program} {n:Nat} {F:List (Nat × Value)} {w:World} {v:Value}
theorem Post.end4 {fn:Func}{R:Ending→World→Prop}{t u s r:Nat}{v' v'' v3:Value}{e:Exit}(hr:fn.results= #[.tmp t, .tmp u, .tmp s, .tmp r]) (hl:look F t=some v) (hl':look F u=some v') (hl'':look F s=some v'') (hl3:look F r=some v3) (he:e= .ret∨e= .normal) (h:R (.returned (.tuple #[v,v',v'',v3])) w):Post (bodyPost P fn R) e n F w:=
 Post.end_ (fun a ha=>by simp[results,hr,ha.slot t v hl,ha.slot u v' hl',ha.slot s v'' hl'',ha.slot r v3 hl3]) he h
end
theorem ret4 {x x' y y' z z' u u':Value}(h:x=x')(h2:y=y')(h3:z=z')(h4:u=u'):Ending.returned (.tuple #[x,y,z,u])= .returned (.tuple #[x',y',z',u']):=by rw[h,h2,h3,h4]
theorem Own.lit {w:World}{B g n size:Nat}{e:TypeId}{cs:Array Value}(k:Blk w g e cs)(hB:B≤g)(hs:cs.size=n*size)(hn:n≤maxLen):Own w B e size (.slice (some ⟨g,0,none⟩) n n) n cs.toList:=
 ⟨⟨by simpa using hs, .inr ⟨g,n,cs,rfl,hB,k,Nat.le_refl _,hn,hs,List.take_of_length_le (by simp[hs])⟩⟩⟩
theorem bt_one (l:List Nat):∀u∈Bt l,u.oneCell'=true:=by
 intro u hu
 simp[Bt] at hu
 obtain⟨d,-,rfl⟩:=hu
 rfl
theorem Own.base {w:World}{B B' size n:Nat}{e:TypeId}{v:Value}{xs:List Value}(h:Own w B e size v n xs)(hb:B'≤B):Own w B' e size v n xs:=⟨⟨h.row.1,h.row.2.imp id fun⟨g,cap,cur,e1,e2,r⟩=>⟨g,cap,cur,e1,Nat.le_trans hb e2,r⟩⟩⟩
theorem dateIs_any (n:Nat)(w:World)(h:n≤2932896):Calls Tryz.prog 155 #[.int .i64 (n:Int)] w fun e w'=>e= .returned (.bool true)∧Grow w w':=by
 have bel:=Below.refl w.heap.size w
 refine Zs 9 Tryz.func155 ?_
 refine Zsr ?_
 refine Za ?_
 refine Zk2 0 2 (Ztq ?_)
 refine Zm ?_
 refine Zv (Runs.geq rfl rfl rfl) ?_
 refine Zm ?_
 refine SeqC.start ?_
 refine Zco (fun hcx=>Runs.move rfl rfl) ?_
 refine SeqC.next rfl rfl rfl rfl rfl rfl rfl (fun hcx=>Runs.leq rfl rfl rfl) ?_
 refine SeqC.and rfl rfl rfl rfl rfl rfl rfl ?_
 refine Za ?_
 refine Zk2 0 2 (Zt (Cd.ret ?_))
 refine Post.end1 rfl rfl (.inl rfl) ?_
 exact⟨ret1 (bool_eq (by simp;omega)),bel⟩
theorem yT_int (e:Nat)(he:e<146097):(yT e:Int)=e-(365*(eraY e:Int)+(eraY e:Int)/4-(eraY e:Int)/100)∧yT e<366:=by
 obtain⟨h1,h2,h3⟩:=era_of e he
 obtain⟨l1,l2⟩:=eraS_leap (eraY e)
 have:=eraS_int (eraY e) h1
 unfold yT
 omega
theorem mT_int (e:Nat)(he:e<146097):(mT e:Int)=(5*(yT e:Int)+2)/153∧mT e≤11∧(153*mT e+2)/5≤yT e:=by
 have h:=(yT_int e he).2
 obtain⟨m1,m2,-⟩:=month_table (yT e) h
 have hm:mT e=(5*yT e+2)/153:=rfl
 rw[←hm] at m1 m2
 omega
theorem civil_any (n q e:Nat)(w:World)(h:n≤2932896)(hq:(n+719468)/146097=q)(he:(n+719468)%146097=e):Calls Tryz.prog 126 #[.int .i64 (n:Int)] w fun en w'=>en= .returned (.tuple #[.int .i64 (cY q e:Int), .int .i64 (cM e:Int), .int .i64 (dT e:Int), .bool true])∧Grow w w':=by
 have bel:=Below.refl w.heap.size w
 have hel:e<146097:=by rw[←he];exact Nat.mod_lt _ (by decide)
 have hq2:((n:Int)+719468)/146097=(q:Int):=by omega
 have he2:((n:Int)+719468)%146097=(e:Int):=by omega
 have hq3:q≤30:=by omega
 obtain⟨e1,e2,e3⟩:=era_of e hel
 obtain⟨y1,y2⟩:=yT_int e hel
 obtain⟨m1,m2,m3⟩:=mT_int e hel
 have hd:dT e=yT e-(153*mT e+2)/5+1:=rfl
 have hy:((e:Int)-(e:Int)/1460+(e:Int)/36524-(e:Int)/146096)/365=(eraY e:Int):=by unfold eraY;omega
 have hcY:cY q e=if 10≤mT e then q*400+eraY e+1 else q*400+eraY e:=rfl
 have hcM:cM e=if 10≤mT e then mT e-9 else mT e+3:=rfl
 generalize cY q e=cy at *
 generalize cM e=cm at *
 generalize dT e=dd at *
 generalize mT e=m at *
 generalize yT e=t at *
 generalize eraY e=y at *
 clear hq he e2 e3
 refine Zs 68 Tryz.func126 ?_
 refine Zsr ?_
 refine Za ?_
 refine Za ?_
 refine Za ?_
 refine Za ?_
 refine Zk5 0 2 3 4 5 (Zts (Zsr ?_))
 refine Zm ?_
 refine Zc (Ze Tryz.func155) (dateIs_any n _ h) ?_
 rintro en w5 ⟨rfl,hb5⟩
 refine⟨_,rfl,?_⟩
 replace bel:=bel.step hb5
 refine Zv (Runs.not rfl rfl) ?_
 refine Zk6 0 2 3 4 5 15 (Zt ?_)
 refine Cd.condF rfl rfl ?_
 refine Cd.skip (Ztq ?_)
 refine Zm ?_
 refine Za_ ?_
 refine Za ?_
 refine Zk7 0 2 3 4 5 6 15 (Ztq ?_)
 refine Zm ?_
 refine Zv ((Runs.remN rfl rfl rfl (by omega) (by omega)).cast (v':= .int .i64 (e:Int)) (int_eq he2)) ?_
 refine Za ?_
 refine Zk8 0 2 3 4 5 6 7 15 (Ztq ?_)
 refine Zm ?_
 refine Zm ?_
 refine Zv (Runs.quoI rfl rfl rfl (by omega) (by omega) (by omega)) ?_
 refine Zv (Runs.subI rfl rfl rfl (by omega) (by omega)) ?_
 refine Zm ?_
 refine Zv (Runs.quoI rfl rfl rfl (by omega) (by omega) (by omega)) ?_
 refine Za_ ?_
 refine Zm ?_
 refine Zv (Runs.quoI rfl rfl rfl (by omega) (by omega) (by omega)) ?_
 refine Zv (Runs.subI rfl rfl rfl (by omega) (by omega)) ?_
 refine Zv ((Runs.quoI rfl rfl rfl (by omega) (by omega) (by omega)).cast (v':= .int .i64 (y:Int)) (int_eq hy)) ?_
 refine Za ?_
 refine Zk9 0 2 3 4 5 6 7 8 15 (Ztq ?_)
 refine Zm ?_
 refine Zm ?_
 refine Zv (Runs.mulI rfl rfl rfl (by omega) (by omega)) ?_
 refine Zm ?_
 refine Zv (Runs.quoI rfl rfl rfl (by omega) (by omega) (by omega)) ?_
 refine Za_ ?_
 refine Zm ?_
 refine Zv (Runs.quoI rfl rfl rfl (by omega) (by omega) (by omega)) ?_
 refine Zv (Runs.subI rfl rfl rfl (by omega) (by omega)) ?_
 refine Zv ((Runs.subI rfl rfl rfl (by omega) (by omega)).cast (v':= .int .i64 (t:Int)) (int_eq (by omega))) ?_
 refine Za ?_
 refine Zk10 0 2 3 4 5 6 7 8 9 15 (Ztq ?_)
 refine Zm ?_
 refine Zv (Runs.mulI rfl rfl rfl (by omega) (by omega)) ?_
 refine Za_ ?_
 refine Zv ((Runs.quoI rfl rfl rfl (by omega) (by omega) (by omega)).cast (v':= .int .i64 (m:Int)) (int_eq (by omega))) ?_
 refine Za ?_
 refine Zk11 0 2 3 4 5 6 7 8 9 10 15 (Ztq ?_)
 refine Zm ?_
 refine Zm ?_
 refine Zv (Runs.mulI rfl rfl rfl (by omega) (by omega)) ?_
 refine Za_ ?_
 refine Zv (Runs.quoI rfl rfl rfl (by omega) (by omega) (by omega)) ?_
 refine Zv (Runs.subI rfl rfl rfl (by omega) (by omega)) ?_
 refine Zv ((Runs.addI rfl rfl rfl (by omega) (by omega)).cast (v':= .int .i64 (dd:Int)) (int_eq (by omega))) ?_
 refine Za ?_
 refine Zk12 0 2 3 4 5 6 7 8 9 10 11 15 (Ztq ?_)
 refine Zm ?_
 refine Zv ((Runs.quoI rfl rfl rfl (by omega) (by omega) (by omega)).cast (v':= .int .i64 (q:Int)) (int_eq hq2)) ?_
 refine Zv (Runs.mulI rfl rfl rfl (by omega) (by omega)) ?_
 refine Zm ?_
 refine Za_ ?_
 refine Za ?_
 refine Zk13 0 2 3 4 5 6 7 8 9 10 11 12 15 (Zts (Zsr ?_))
 refine Zm ?_
 refine Zv (Runs.geq rfl rfl rfl) ?_
 refine Zk14 0 2 3 4 5 6 7 8 9 10 11 12 15 58 (Zt ?_)
 refine Cd.condD rfl (fun hc=> ?_) (fun hc=> ?_)
 ·rw[if_pos (by omega)] at hcY hcM
  subst hcY hcM
  refine Zsr ?_
  refine Zm ?_
  refine Za_ ?_
  refine Zm ?_
  refine Zv (Runs.subI rfl rfl rfl (by omega) (by omega)) ?_
  refine Zm ?_
  refine Za ?_
  refine Za ?_
  refine Za ?_
  refine Za ?_
  refine Zk14 0 2 3 4 5 6 7 8 9 10 11 12 15 58 (Zt (Cd.ret (Post.then_ret ?_)))
  refine Post.end4 rfl rfl rfl rfl rfl (.inl rfl) ?_
  exact⟨ret4 (int_eq (by omega)) (int_eq (by omega)) rfl rfl,bel⟩
 ·rw[if_neg (by omega)] at hcY hcM
  subst hcY hcM
  refine Cd.skip (Ztq ?_)
  refine Zm ?_
  refine Zm ?_
  refine Za_ ?_
  refine Zm ?_
  refine Za ?_
  refine Za ?_
  refine Za ?_
  refine Za ?_
  refine Zk14 0 2 3 4 5 6 7 8 9 10 11 12 15 58 (Zt (Cd.ret ?_))
  refine Post.end4 rfl rfl rfl rfl rfl (.inl rfl) ?_
  exact⟨ret4 (int_eq (by omega)) (int_eq (by omega)) rfl rfl,bel⟩
theorem two_any (v:Nat)(w:World)(h:v≤100000):Calls Tryz.prog 127 #[.int .i64 (v:Int)] w fun en w'=>(∃sv,en= .returned sv∧Own w' w.heap.size 5 1 sv 2 (Bt [48+v/10%10,48+v%10]))∧Grow w w':=by
 have bel:=Below.refl w.heap.size w
 refine Zs 13 Tryz.func127 ?_
 refine Zsr ?_
 refine Za ?_
 refine Zk2 0 2 (Ztq ?_)
 refine Zm ?_
 refine Zv (Runs.quoI rfl rfl rfl (by omega) (by omega) (by omega)) ?_
 refine Zv (Runs.remN rfl rfl rfl (by omega) (by omega)) ?_
 refine Za_ ?_
 refine Zv (Runs.convI rfl rfl Tryz.underlying3 Tryz.underlying5 (wrapB (by omega) (by omega))) ?_
 refine Zm ?_
 refine Zv (Runs.remN rfl rfl rfl (by omega) (by omega)) ?_
 refine Za_ ?_
 refine Zv (Runs.convI rfl rfl Tryz.underlying3 Tryz.underlying5 (wrapB (by omega) (by omega))) ?_
 refine Seq.slice (vs:=[_,_]) (s:=1) rfl rfl rfl Tryz.underlying125 (by kernel_rfl) (zero_uint8) (by omega) (by omega) ⟨rfl,rfl,trivial⟩ rfl rfl rfl ?_
 intro g12 w1 n12
 have e12:=Nat.le_trans bel.size n12.ge
 replace bel:=bel.step n12.below
 have k12:=n12.blk
 refine Za ?_
 refine Zk2 0 2 (Zt (Cd.ret ?_))
 refine Post.end1 rfl rfl (.inl rfl) ?_
 have hc:(flatC [.int .u8 (48+(v:Int)/10%10), .int .u8 (48+(v:Int)%10)]).toArray=(Bt [48+v/10%10,48+v%10]).toArray:=by
  simp[flatC,Value.cells,Bt]
 rw[hc] at k12
 exact⟨⟨_,rfl,Own.lit k12 e12 (by simp[Bt]) (by simp[maxLen])⟩,bel⟩
theorem eg_two:∀args w,(callFunc 127 args).run Tryz.prog w= .ok (.enter 127 args) w:=fun args w=>run_enter Tryz.func127 (by kernel_rfl) rfl args w
theorem digR_two (v:Nat):digR v 2=[48+v/10%10,48+v%10]:=by simp[digR]
theorem digR_four (v:Nat):digR v 4=[48+v/100/10%10,48+v/100%10]++[48+v/10%10,48+v%10]:=by
 simp[digR,Nat.div_div_eq_div_mul]
theorem dayPrint_any (n:Nat)(w:World)(h:n≤2932896):Calls Tryz.prog 87 #[.int .i64 (n:Int)] w fun en w'=>en= .returned (.string (strOf (dayT n)))∧Grow w w':=by
 have bel:=Below.refl w.heap.size w
 obtain⟨q,hq⟩:∃q,(n+719468)/146097=q:=⟨_,rfl⟩
 obtain⟨e,he⟩:∃e,(n+719468)%146097=e:=⟨_,rfl⟩
 have hciv:=fun W=>civil_any n q e W h hq he
 have hel:e<146097:=by rw[←he];exact Nat.mod_lt _ (by decide)
 obtain⟨z1,z2,z3,z4,z5⟩:=civ_qe n q e (by omega) hel
 have hok:=ofOk_of n _ _ _ h z1 z2 z3 z4 z5
 obtain⟨o1,o2,o3,o4,o5,o6⟩:=ofOk_bd hok
 rw[dayT_of n q e hq he]
 generalize cY q e=y at *
 generalize cM e=m at *
 generalize dT e=d at *
 clear hq he z1
 refine Zs 42 Tryz.func87 ?_
 refine Zsr ?_
 refine Za ?_
 refine Zk2 0 2 (Ztq ?_)
 refine Zm ?_
 refine Zc (Ze Tryz.func126) (hciv _) ?_
 rintro en w5 ⟨rfl,hb5⟩
 refine⟨_,rfl,?_⟩
 replace bel:=bel.step hb5
 refine Zm ?_
 refine Zv (Runs.extract rfl rfl rfl) ?_
 refine Zv (Runs.extract rfl rfl rfl) ?_
 refine Zv (Runs.extract rfl rfl rfl) ?_
 refine Zv (Runs.extract rfl rfl rfl) ?_
 refine Za ?_
 refine Za ?_
 refine Za ?_
 refine Za ?_
 refine Zk6 0 2 3 4 5 6 (Zts (Zsr ?_))
 refine Zm ?_
 refine Zv (Runs.not rfl rfl) ?_
 refine Zk7 0 2 3 4 5 6 17 (Zt ?_)
 refine Cd.condF rfl rfl ?_
 refine Cd.skip (Ztq ?_)
 refine Za ?_
 refine Zk8 0 2 3 4 5 6 7 17 (Ztq ?_)
 refine Zm ?_
 refine Zm ?_
 refine Zv ((Runs.quoI rfl rfl rfl (by omega) (by omega) (by omega)).cast (v':= .int .i64 ((y/100:Nat):Int)) (int_eq (show(y:Int)/100=((y/100:Nat):Int) by omega))) ?_
 refine Seq.call (Enters.value (first:=[]) (cap:=[]) rfl rfl rfl eg_two) rfl rfl rfl (two_any (y/100) _ (by omega)) ?_
 rintro en w6 ⟨⟨s1,rfl,own⟩,hb6⟩
 refine⟨_,rfl,?_⟩
 replace own:=own.base bel.size
 replace bel:=bel.step hb6
 refine Zm ?_
 refine Zm ?_
 refine Seq.call (Enters.value (first:=[]) (cap:=[]) rfl rfl rfl eg_two) rfl rfl rfl (two_any y _ (by omega)) ?_
 rintro en w7 ⟨⟨s2,rfl,own2⟩,hb7⟩
 refine⟨_,rfl,?_⟩
 replace bel:=bel.step hb7
 replace own:=own.step hb7
 obtain⟨A2,c2,rfl,rd2⟩:=own2.reads
 refine Seq.append rfl rfl rfl Tryz.underlying125 (by kernel_rfl) zero_uint8 rfl (by decide) (b:=1) (by kernel_rfl) own (rd2) (bt_one _) bel.size (by simp only[maxLen];omega) (by omega) rfl rfl rfl ?_
 clear own
 intro vw1 w1 own haw1
 replace bel:=bel.trans haw1.below
 clear own2
 refine Za ?_
 refine Zk9 0 2 3 4 5 6 7 8 17 (Ztq ?_)
 refine Zm ?_
 refine Seq.slice (vs:=[_]) (s:=1) rfl rfl rfl Tryz.underlying125 (by kernel_rfl) (zero_uint8) (by omega) (by omega) ⟨rfl,trivial⟩ rfl rfl rfl ?_
 intro g27 w2 n27
 have e27:=Nat.le_trans bel.size n27.ge
 replace bel:=bel.step n27.below
 replace own:=own.step n27.below
 have k27:=n27.blk
 refine Seq.append rfl rfl rfl Tryz.underlying125 (by kernel_rfl) zero_uint8 rfl (by decide) (b:=1) (by kernel_rfl) own (Reads.blk k27 1 rfl) (by intro x hx;simp[flatC,Value.cells] at hx;rw[hx];rfl) bel.size (by simp only[maxLen];omega) (by omega) rfl rfl rfl ?_
 clear own
 intro vw3 w3 own haw3
 replace bel:=bel.trans haw3.below
 refine Zm ?_
 refine Zm ?_
 refine Seq.call (Enters.value (first:=[]) (cap:=[]) rfl rfl rfl eg_two) rfl rfl rfl (two_any m _ (by omega)) ?_
 rintro en w8 ⟨⟨s3,rfl,own3⟩,hb8⟩
 refine⟨_,rfl,?_⟩
 replace bel:=bel.step hb8
 replace own:=own.step hb8
 obtain⟨A3,c3,rfl,rd3⟩:=own3.reads
 refine Seq.append rfl rfl rfl Tryz.underlying125 (by kernel_rfl) zero_uint8 rfl (by decide) (b:=1) (by kernel_rfl) own (rd3) (bt_one _) bel.size (by simp only[maxLen];omega) (by omega) rfl rfl rfl ?_
 clear own
 intro vw4 w4 own haw4
 replace bel:=bel.trans haw4.below
 clear own3
 refine Za ?_
 refine Zk9 0 2 3 4 5 6 7 8 17 (Ztq ?_)
 refine Zm ?_
 refine Seq.slice (vs:=[_]) (s:=1) rfl rfl rfl Tryz.underlying125 (by kernel_rfl) (zero_uint8) (by omega) (by omega) ⟨rfl,trivial⟩ rfl rfl rfl ?_
 intro g34 w5 n34
 have e34:=Nat.le_trans bel.size n34.ge
 replace bel:=bel.step n34.below
 replace own:=own.step n34.below
 have k34:=n34.blk
 refine Seq.append rfl rfl rfl Tryz.underlying125 (by kernel_rfl) zero_uint8 rfl (by decide) (b:=1) (by kernel_rfl) own (Reads.blk k34 1 rfl) (by intro x hx;simp[flatC,Value.cells] at hx;rw[hx];rfl) bel.size (by simp only[maxLen];omega) (by omega) rfl rfl rfl ?_
 clear own
 intro vw6 w6 own haw6
 replace bel:=bel.trans haw6.below
 refine Zm ?_
 refine Zm ?_
 refine Seq.call (Enters.value (first:=[]) (cap:=[]) rfl rfl rfl eg_two) rfl rfl rfl (two_any d _ (by omega)) ?_
 rintro en w9 ⟨⟨s4,rfl,own4⟩,hb9⟩
 refine⟨_,rfl,?_⟩
 replace bel:=bel.step hb9
 replace own:=own.step hb9
 obtain⟨A4,c4,rfl,rd4⟩:=own4.reads
 refine Seq.append rfl rfl rfl Tryz.underlying125 (by kernel_rfl) zero_uint8 rfl (by decide) (b:=1) (by kernel_rfl) own (rd4) (bt_one _) bel.size (by simp only[maxLen];omega) (by omega) rfl rfl rfl ?_
 clear own
 intro vw7 w7 own haw7
 replace bel:=bel.trans haw7.below
 clear own4
 refine Za ?_
 refine Zk9 0 2 3 4 5 6 7 8 17 (Ztq ?_)
 refine Zm ?_
 obtain⟨A5,c5,rfl,rd5⟩:=own.reads
 have hbt:Bt [48+y/100/10%10,48+y/100%10]++Bt [48+y/10%10,48+y%10]++(flatC [.int .u8 45]).toArray.toList++Bt [48+m/10%10,48+m%10]++(flatC [.int .u8 45]).toArray.toList++Bt [48+d/10%10,48+d%10]=Bt (printD y m d):=by
  unfold printD
  rw[digR_four,digR_two,digR_two]
  simp[Bt,flatC,Value.cells]
 rw[hbt] at rd5
 refine Zv (Runs.convBS rfl rfl Tryz.underlying125 Tryz.underlying5 Tryz.underlying9 rd5 (printD_lt y m d)) ?_
 refine Za ?_
 refine Zk9 0 2 3 4 5 6 7 8 17 (Zt (Cd.ret ?_))
 refine Post.end1 rfl rfl (.inl rfl) ?_
 exact⟨rfl,bel⟩
end Go.Proofs.YtaamkfajnpobfaaGreat
namespace Go.Proofs.YtaamkfajnpobfaaGreat
open Go.RowKit
structure Only (w0 w:World)(g:Nat):Prop where
 row:w0.grownBy w (some g)
theorem Only.step {w0 w w':World}{g:Nat}(h:Only w0 w g)(hb:Below w.heap.size w w'):Only w0 w' g:=⟨only_below h.row hb⟩
theorem Only.put {w0 w w':World}{g B:Nat}{T:TypeId}{cur cs:Array Value}(h:Only w0 w g)(_k:Blk w g T cur)(p:Put w w' g T cs)(_e:B≤g):Only w0 w' g:=⟨only_trans h.row p.grown⟩
def turned (xs:List Value)(n i j:Nat):Option Value:=if j<i∨n≤j+i then xs[n-1-j]? else xs[j]?
theorem reverse_any (g n cap:Nat)(cur:Array Value)(xs:List Value)(w:World)(hb:Blk w g 5 cur)(hc:n≤cap)(hn:n≤1000000000)(hs:cur.size=cap)(hx:∀j,j<n→cur[j]? =xs[j]?)(hl:xs.length=n)(h1:∀u∈xs,∃z,u= .int .u8 z):
  Calls Tryz.prog 125 #[.slice (some ⟨g,0,none⟩) n cap] w fun e w'=>∃cur',e= .returned (.tuple #[])∧Blk w' g 5 cur'∧cur'.size=cap∧(∀j,j<n→cur'[j]? =xs.reverse[j]?)∧Only w w' g:=by
 refine Zs 28 Tryz.func125 ?_
 refine Zsr ?_
 refine Zm ?_
 refine Zv (Runs.len rfl rfl Tryz.underlying125) ?_
 refine Zv (Runs.subI rfl rfl rfl (by omega) (by omega)) ?_
 refine Za ?_
 refine Za ?_
 refine Zk3 0 2 3 (Zt (Cd.block ?_))
 refine Cd.loop (σ:=Nat × Array Value) (fun s=>[(0, .slice (some ⟨g,0,none⟩) n cap),(2, .int .i64 (s.1:Int)),(3, .int .i64 ((n:Int)-1-s.1))])
  (fun s wr=>s.1≤n∧Blk wr g 5 s.2∧s.2.size=cap∧(∀j,j<n→s.2[j]? =turned xs n s.1 j)∧Only w wr g) (fun s=>n-s.1) (0,cur) ⟨Nat.zero_le _,hb,hs,fun j hj=>by dsimp only;rw[hx j hj];unfold turned;rw[if_neg (by omega)],⟨World.grownBy.refl _ _⟩⟩
  ⟨rfl,rfl,congrArg (fun x=>some (Value.int .i64 x)) (show(n:Int)-1=(n:Int)-1-((0:Nat):Int) by omega),trivial⟩ ?_
 clear hb hs hx cur
 rintro⟨i,cs⟩ wr ⟨hi,k0,hs,hx,hgr⟩
 dsimp only at hi k0 hs hx hgr⊢
 have e0:0≤g:=Nat.zero_le g
 refine Cd.seq (Zsr ?_)
 refine Zm ?_
 refine Zm ?_
 refine Zv (Runs.lss rfl rfl rfl) ?_
 refine Zk4 0 2 3 9 (Zt ?_)
 refine Cd.condD rfl (fun hc=> ?_) (fun hc=> ?_)
 ·have hlt:i<n-1-i:=by omega
  have get:∀j,j<n→∃z,xs[j]? =some (.int .u8 z):=fun j hj=>by
   obtain⟨z,hz⟩:=h1 xs[j] (List.getElem_mem (by omega))
   exact⟨z,by rw[List.getElem?_eq_getElem (by omega),hz]⟩
  obtain⟨za,ha⟩:=get (n-1-i) (by omega)
  obtain⟨zb,hb⟩:=get i (by omega)
  have ca:cs[n-1-i]? =some (.int .u8 za):=by rw[hx _ (by omega),turned,if_neg (by omega),ha]
  have cb:cs[i]? =some (.int .u8 zb):=by rw[hx _ (by omega),turned,if_neg (by omega),hb]
  refine Cd.skip (Zts (Cd.block ?_))
  refine Cd.draw 12 (by kernel_rfl) [2,3] (.inr (fun _ _ d _ _ h=>by cases d<;>exact h)) rfl Grow Grow.refl (fun _ _ _=>Grow.trans) ?_
  intro w1 hw1 zw1
  replace k0:=k0.step hw1
  replace hgr:=hgr.step hw1
  have zlt:=k0.lt
  refine Zdm ?_
  refine Zdm ?_
  refine Dr.late rfl rfl (fun w=>Runs.move rfl rfl) Grow.refl rfl ?_
  refine Dr.late rfl rfl (fun w=>Runs.move rfl rfl) Grow.refl rfl ?_
  refine Zdm ?_
  refine Zdm ?_
  refine Zd (fun w hG=>Runs.indexB rfl rfl rfl Tryz.underlying125 (by kernel_rfl) (j:=n-1-i) (by omega) (by omega)) ?_
  refine Zd (fun w hG=>Runs.loadB rfl rfl Tryz.underlying5 rfl (k0.step hG) ca) ?_
  refine Zdm ?_
  refine Zdm ?_
  refine Zd (fun w hG=>Runs.indexB rfl rfl rfl Tryz.underlying125 (by kernel_rfl) (j:=i) (by omega) (by omega)) ?_
  refine Zd (fun w hG=>Runs.loadB rfl rfl Tryz.underlying5 rfl (k0.step hG) cb) ?_
  refine Dr.nil ?_
  refine FinX.done (F':=[(0,_),(2,_),(3,_),(9,_),(14,_),(15,_),(16,_),(17,_),(21,_),(25,_)]) rfl ⟨rfl,rfl,rfl,rfl,rfl,rfl,rfl,rfl,rfl,rfl,trivial⟩ ?_
  intro w2 hw2 fw2
  replace k0:=k0.step hw2
  replace hgr:=hgr.step hw2
  refine Zv (Runs.indexB rfl rfl rfl Tryz.underlying125 (by kernel_rfl) (j:=i) (by omega) (by omega)) ?_
  refine Seq.store1 rfl rfl rfl (by kernel_rfl) rfl rfl k0 (cb) rfl rfl ?_
  intro w3 pw3
  replace hgr:=hgr.put k0 pw3 e0
  replace k0:=pw3.blk
  refine Zv (Runs.indexB rfl rfl rfl Tryz.underlying125 (by kernel_rfl) (j:=n-1-i) (by omega) (by omega)) ?_
  have ca2:(cs.setIfInBounds i (.int .u8 za))[n-1-i]? =some (.int .u8 za):=by rw[Array.getElem?_setIfInBounds_ne (by omega)];exact ca
  refine Seq.store1 rfl rfl rfl (by kernel_rfl) rfl rfl k0 (ca2) rfl rfl ?_
  intro w4 pw4
  replace hgr:=hgr.put k0 pw4 e0
  replace k0:=pw4.blk
  refine Zk4 0 2 3 9 (Post.block_normal (Ztr ?_))
  refine Zm ?_
  refine Za_ ?_
  refine Zm ?_
  refine Zv (Runs.subI rfl rfl rfl (by omega) (by omega)) ?_
  refine Za ?_
  refine Za ?_
  refine Zk4 0 2 3 9 ?_
  rw[show(i:Int)+1=((i+1:Nat):Int) by omega,show(n:Int)-1-(i:Int)-1=(n:Int)-1-((i+1:Nat):Int) by omega]
  refine Post.round (i+1,(cs.setIfInBounds i (.int .u8 za)).setIfInBounds (n-1-i) (.int .u8 zb)) ⟨rfl,rfl,rfl,trivial⟩ ⟨by dsimp only;omega,k0,by simp[hs],fun j hj=> ?_,hgr⟩ (by dsimp only;omega)
  dsimp only
  have hin:n-1-i<(cs.setIfInBounds i (.int .u8 za)).size:=by rw[Array.size_setIfInBounds];omega
  by_cases hj1:j=n-1-i
  ·subst hj1
   rw[Array.getElem?_setIfInBounds_self_of_lt hin,turned,if_pos (by omega),show n-1-(n-1-i)=i by omega,hb]
  ·rw[Array.getElem?_setIfInBounds_ne (by omega)]
   by_cases hj2:j=i
   ·subst hj2
    rw[Array.getElem?_setIfInBounds_self_of_lt (by omega),turned,if_pos (by omega),ha]
   ·rw[Array.getElem?_setIfInBounds_ne (by omega),hx j hj]
    unfold turned
    by_cases hc2:j<i∨n≤j+i
    ·rw[if_pos hc2,if_pos (by omega)]
    ·rw[if_neg hc2,if_neg (by omega)]
 ·skip
  refine Cd.exit (Post.then_exit (Post.round_exit (Post.block_exit ?_)))
  refine Post.end0 rfl (.inr rfl) ?_
  refine⟨cs,rfl,k0,hs,fun j hj=> ?_,hgr⟩
  rw[hx j hj,List.getElem?_reverse (by omega),hl]
  unfold turned
  by_cases hc2:j<i∨n≤j+i
  ·rw[if_pos hc2]
  ·rw[if_neg hc2]
   rw[show n-1-j=j by omega]
theorem Own.blk {w:World}{B n:Nat}{e:TypeId}{v:Value}{xs:List Value}(h:Own w B e 1 v n xs)(h0:0<n):∃g cap cur,v= .slice (some ⟨g,0,none⟩) n cap∧B≤g∧Blk w g e cur∧n≤cap∧cap≤maxLen∧cur.size=cap∧xs.length=n∧∀j,j<n→cur[j]? =xs[j]? :=by
 obtain⟨hl,⟨_,h1⟩|⟨g,cap,cur,rfl,h1,h2,h3,h4,h5,h6⟩⟩:=h.row
 ·omega
 ·refine⟨g,cap,cur,rfl,h1,h2,h3,h4,by omega,by omega,fun j hj=> ?_⟩
  rw[←h6,List.getElem?_take_of_lt (by omega)]
  simp
set_option maxHeartbeats 1000000 in
theorem print_any (n:Int)(d:Nat)(w:World)(hn:I64 n)(hd:d≤9):
  Calls Tryz.prog 86 #[.int .i64 n, .int .i64 (d:Int)] w fun e w'=>(∃N,Rounds n.natAbs d N∧N≤20∧e= .returned (.string (strOf (printed n d N))))∧Grow w w':=by
 have bel:=Below.refl w.heap.size w
 have hu:n.natAbs≤9223372036854775808:=by have:=hn.1;have:=hn.2;omega
 refine Zs 53 Tryz.func86 ?_
 refine Zsr ?_
 refine Za ?_
 refine Zk3 0 1 4 (Zts (Zsr ?_))
 refine Zm ?_
 refine Zv (Runs.lss rfl rfl rfl) ?_
 refine Zm ?_
 refine SeqC.start ?_
 refine Zco (fun hcx=>Runs.move rfl rfl) ?_
 refine SeqC.next rfl rfl rfl rfl rfl rfl rfl (fun hcx=>Runs.gtr rfl rfl rfl) ?_
 refine SeqC.or rfl rfl rfl rfl rfl rfl rfl ?_
 refine Zk4 0 1 4 13 (Zt ?_)
 refine Cd.cond rfl (fun h=> ?_) (fun h=> ?_)
 ·exfalso
  simp at h
  omega
 clear h
 refine Cd.skip (Ztq ?_)
 refine Za ?_
 refine Zk5 0 1 4 5 13 (Zts (Zsr ?_))
 refine Zm ?_
 refine Zc (Ze Tryz.func124) (size_nat _ _ hn) ?_
 rintro e w3 ⟨rfl,rfl⟩
 refine⟨_,rfl,?_⟩
 refine Za ?_
 refine Za ?_
 refine Zk7 0 1 4 5 6 7 13 (Zt (Cd.block ?_))
 generalize hun:n.natAbs=u at *
 have own:=Own.nil w w.heap.size 5 1
 refine Cd.loop (σ:=Nat × Value) (fun s=>[(0, .int .i64 n),(1, .int .i64 (d:Int)),(5,s.2),(6, .int .u64 ((u/10^s.1:Nat):Int)),(7, .int .i64 (s.1:Int))])
  (fun s wr=>s.1≤20∧Below w.heap.size w wr∧Own wr w.heap.size 5 1 s.2 (prB u d s.1).length (Bt (prB u d s.1))∧∀j,j<s.1→0<u/10^j∨j≤d) (fun s=>20-s.1) (0, .slice none 0 0) ⟨by simp,bel,own,fun j hj=>absurd hj (by simp)⟩ ⟨rfl,rfl,rfl,congrArg (fun x:Nat=>some (Value.int .u64 (x:Int))) (show u=u/10^0 by simp),rfl,trivial⟩ ?_
 clear bel
 clear own
 rintro⟨k,v⟩ wr ⟨hk,bel,own,hgo⟩
 dsimp only at hk own hgo⊢
 refine Cd.seq (Zsr ?_)
 refine Zm ?_
 refine Zv (Runs.gtr rfl rfl rfl) ?_
 refine Zm ?_
 refine SeqC.start ?_
 refine Zco (fun hcx=>Runs.move rfl rfl) ?_
 refine SeqC.next rfl rfl rfl rfl rfl rfl rfl (fun hcx=>Runs.move rfl rfl) ?_
 refine SeqC.next rfl rfl rfl rfl rfl rfl rfl (fun hcx=>Runs.leq rfl rfl rfl) ?_
 refine SeqC.or rfl rfl rfl rfl rfl rfl rfl ?_
 refine Zk6 0 1 5 6 7 22 (Zt ?_)
 have hlen:=prB_len u d k
 have hdk:u/10^k≤u:=Nat.div_le_self _ _
 have hdt:=div_ten u k
 have hpr:prB u d (k+1)=prB u d k++(if k=d∧0<d then [46] else [])++[48+u/10^k%10]:=rfl
 generalize hq:u/10^k=q at *
 refine Cd.cond rfl (fun hc=> ?_) (fun hc=> ?_)
 ·have hgo1:0<q∨k≤d:=by simp at hc;omega
  have hk20:k<20:=by
   rcases Nat.lt_or_ge k 20 with h|h
   ·exact h
   ·obtain rfl:k=20:=by omega
    have:u/10^20=0:=Nat.div_eq_of_lt (by omega)
    omega
  have hgo2:∀j,j<k+1→0<u/10^j∨j≤d:=fun j hj=>by
   rcases Nat.lt_or_ge j k with h|h
   ·exact hgo j h
   ·obtain rfl:j=k:=by omega
    rw[hq];exact hgo1
  refine Cd.skip (Zts (Cd.block ?_))
  refine Cd.seqJ (σ:=Value) (fun v=>[(0, .int .i64 n),(1, .int .i64 (d:Int)),(5,v),(6, .int .u64 (q:Int)),(7, .int .i64 (k:Int))]) (fun v wr=>Below w.heap.size w wr∧Own wr w.heap.size 5 1 v (prB u d k++if k=d∧0<d then [46] else []).length (Bt (prB u d k++if k=d∧0<d then [46] else []))) ?_ ?_
  ·skip
   refine Zsr ?_
   refine Zm ?_
   refine Zm ?_
   refine Zv (Runs.eqlI rfl rfl rfl) ?_
   refine Zm ?_
   refine SeqC.start ?_
   refine Zco (fun hcx=>Runs.move rfl rfl) ?_
   refine SeqC.next rfl rfl rfl rfl rfl rfl rfl (fun hcx=>Runs.gtr rfl rfl rfl) ?_
   refine SeqC.and rfl rfl rfl rfl rfl rfl rfl ?_
   refine Zk7 0 1 5 6 7 22 31 (Zt ?_)
   refine Cd.cond rfl (fun hp=> ?_) (fun hp=> ?_)
   ·rw[if_pos (by simp at hp;omega)]
    refine Zr ?_
    refine Zm ?_
    refine Seq.slice (vs:=[_]) (s:=1) rfl rfl rfl Tryz.underlying125 (by kernel_rfl) (zero_uint8) (by omega) (by omega) ⟨rfl,trivial⟩ rfl rfl rfl ?_
    intro g33 w1 n33
    have e33:=Nat.le_trans bel.size n33.ge
    replace bel:=bel.step n33.below
    replace own:=own.step n33.below
    have k33:=n33.blk
    refine Seq.append rfl rfl rfl Tryz.underlying125 (by kernel_rfl) zero_uint8 rfl (by decide) (b:=1) (by kernel_rfl) own (Reads.blk k33 1 rfl) (by intro x hx;simp[flatC,Value.cells] at hx;rw[hx];rfl) bel.size (by simp only[maxLen];omega) (by omega) rfl rfl rfl ?_
    clear own
    intro vw2 w2 own haw2
    replace bel:=bel.trans haw2.below
    refine Za ?_
    refine Zk7 0 1 5 6 7 22 31 ?_
    exact Post.join _ ⟨rfl,rfl,rfl,rfl,rfl,trivial⟩ ⟨bel,by rw[List.length_append,Bt_append];exact own⟩
   ·rw[if_neg (by simp at hp;omega)]
    refine Cd.skip ?_
    exact Post.join _ ⟨rfl,rfl,rfl,rfl,rfl,trivial⟩ ⟨bel,by rw[List.append_nil];exact own⟩
  clear own bel hc
  rintro v wr ⟨bel,own⟩
  have hl2:(prB u d k++if k=d∧0<d then [46] else []).length≤2*k+1:=by rw[List.length_append];split<;>simp<;>omega
  generalize prB u d k++(if k=d∧0<d then [46] else [])=pre at *
  refine Zsr ?_
  refine Zm ?_
  refine Zm ?_
  refine Zv (Runs.remL 10 rfl rfl rfl rfl (by omega)) ?_
  refine Zv (Runs.addU rfl rfl rfl (by omega) (by omega)) ?_
  refine Zv (Runs.convI rfl rfl Tryz.underlying162 Tryz.underlying5 (wrapB (by omega) (by omega))) ?_
  refine Seq.slice (vs:=[_]) (s:=1) rfl rfl rfl Tryz.underlying125 (by kernel_rfl) (zero_uint8) (by omega) (by omega) ⟨rfl,trivial⟩ rfl rfl rfl ?_
  intro g40 w1 n40
  have e40:=Nat.le_trans bel.size n40.ge
  replace bel:=bel.step n40.below
  replace own:=own.step n40.below
  have k40:=n40.blk
  refine Seq.append rfl rfl rfl Tryz.underlying125 (by kernel_rfl) zero_uint8 rfl (by decide) (b:=1) (by kernel_rfl) own (Reads.blk k40 1 rfl) (by intro x hx;simp[flatC,Value.cells] at hx;rw[hx];rfl) bel.size (by simp only[maxLen];omega) (by omega) rfl rfl rfl ?_
  clear own
  intro vw2 w2 own haw2
  replace bel:=bel.trans haw2.below
  refine Za ?_
  refine Zk5 0 1 5 6 7 (Ztr ?_)
  refine Zm ?_
  refine Zv (Runs.quoLU 10 rfl rfl rfl rfl (by omega) (by omega)) ?_
  refine Za ?_
  refine Zk5 0 1 5 6 7 (Post.block_normal (Ztr ?_))
  refine Zm ?_
  refine Za_ ?_
  refine Za ?_
  refine Zk5 0 1 5 6 7 ?_
  refine Post.round (k+1,_) ⟨rfl,rfl,rfl,congrArg (fun x:Nat=>some (Value.int .u64 (x:Int))) hdt,rfl,trivial⟩ ⟨by dsimp only;omega,bel,?_,hgo2⟩ (by dsimp only;omega)
  dsimp only
  rw[hpr,List.length_append,Bt_append]
  exact own
 ·have hstop:Rounds u d k:=⟨hgo,by rw[hq];simp at hc;omega⟩
  have hk1:0<k:=by simp at hc;omega
  refine Cd.exit (Post.then_exit (Post.round_exit (Post.block_exit (Zt ?_))))
  refine Cd.seqJ (σ:=Value) (fun v=>[(5,v)]) (fun v wr=>Below w.heap.size w wr∧Own wr w.heap.size 5 1 v (prB u d k++if n<0 then [45] else []).length (Bt (prB u d k++if n<0 then [45] else []))) ?_ ?_
  ·skip
   refine Zsr ?_
   refine Zm ?_
   refine Zv (Runs.lss rfl rfl rfl) ?_
   refine Zk7 0 1 5 6 7 22 45 (Zt ?_)
   refine Cd.condD rfl (fun hp=> ?_) (fun hp=> ?_)
   ·rw[if_pos hp]
    refine Zr ?_
    refine Zm ?_
    refine Seq.slice (vs:=[_]) (s:=1) rfl rfl rfl Tryz.underlying125 (by kernel_rfl) (zero_uint8) (by omega) (by omega) ⟨rfl,trivial⟩ rfl rfl rfl ?_
    intro g47 w1 n47
    have e47:=Nat.le_trans bel.size n47.ge
    replace bel:=bel.step n47.below
    replace own:=own.step n47.below
    have k47:=n47.blk
    refine Seq.append rfl rfl rfl Tryz.underlying125 (by kernel_rfl) zero_uint8 rfl (by decide) (b:=1) (by kernel_rfl) own (Reads.blk k47 1 rfl) (by intro x hx;simp[flatC,Value.cells] at hx;rw[hx];rfl) bel.size (by simp only[maxLen];omega) (by omega) rfl rfl rfl ?_
    clear own
    intro vw2 w2 own haw2
    replace bel:=bel.trans haw2.below
    refine Za ?_
    refine Zk7 0 1 5 6 7 22 45 ?_
    exact Post.join _ ⟨rfl,trivial⟩ ⟨bel,by rw[List.length_append,Bt_append];exact own⟩
   ·rw[if_neg hp]
    refine Cd.skip ?_
    exact Post.join _ ⟨rfl,trivial⟩ ⟨bel,by rw[List.append_nil];exact own⟩
  clear own bel hc
  rintro v wr ⟨bel,own⟩
  have hpos:0<(prB u d k++if n<0 then [45] else []).length:=by rw[List.length_append];omega
  have hl3:(prB u d k++if n<0 then [45] else []).length≤41:=by rw[List.length_append];split<;>simp<;>omega
  have hlt:∀x∈(prB u d k++if n<0 then [45] else []),x<256:=fun x hx=>by
   rcases List.mem_append.1 hx with hx|hx
   ·exact prB_lt u d k x hx
   ·split at hx
    ·simp at hx;omega
    ·simp at hx
  have hprd:printed n d k=(prB u d k++if n<0 then [45] else []).reverse:=by unfold printed;rw[hun]
  obtain⟨g,cap,cur,rfl,hBg,kb,hnc,hcm,hsz,hxl,hcur⟩:=own.blk hpos
  generalize prB u d k++(if n<0 then [45] else [])=l at *
  refine Zsr ?_
  refine Zm ?_
  refine Zc (Ze Tryz.func125) (reverse_any g l.length cap cur (Bt l) _ kb hnc (by omega) hsz hcur hxl (fun x hx=>by unfold Bt at hx;obtain⟨z,_,rfl⟩:=List.mem_map.1 hx;exact⟨_,rfl⟩)) ?_
  rintro e w9 ⟨cur',rfl,kb',hsz',hcur',honly⟩
  refine⟨_,rfl,?_⟩
  replace bel:=bel.trans (only_to_below honly.row hBg kb.lt)
  have hrd:Reads w9 w9.heap.size 1 (some ⟨g,0,none⟩) l.length (Bt l.reverse):=by
   refine⟨by rw[length_Bt];simp,fun _=>⟨_,rfl,kb'.lt,fun j x hx=> ?_⟩⟩
   have hplain:(⟨g,0,none⟩:Addr).add j=⟨g,j,none⟩:=by unfold Addr.add;split<;>simp_all
   rw[hplain,cell_of_row _ _ _ _ _ _ kb']
   have hj:j<l.length:=by
    rcases Nat.lt_or_ge j l.length with h|h
    ·exact h
    ·rw[get_Bt,List.getElem?_eq_none (by simpa using h)] at hx;cases hx
   rw[hcur' j hj]
   unfold Bt at hx⊢
   rw[←List.map_reverse]
   exact hx
  refine Zk1 5 (Ztq ?_)
  refine Zm ?_
  refine Zv (Runs.convBS rfl rfl Tryz.underlying125 Tryz.underlying5 Tryz.underlying9 hrd (fun x hx=>hlt x (List.mem_reverse.1 hx))) ?_
  refine Za ?_
  refine Zk2 4 5 (Zt (Cd.ret ?_))
  refine Post.end1 rfl rfl (.inl rfl) ?_
  exact⟨⟨k,hstop,by omega,by rw[hprd]⟩,bel⟩
end Go.Proofs.YtaamkfajnpobfaaGreat
namespace Go.Proofs.YtaamkfajnpobfaaGreat
open Go.RowKit
def numN (u:Nat):Nat:=((List.range 21).find? fun N=> !(decide (0<u/10^N)||decide (N≤0))).getD 0
theorem numN_of {u N:Nat}(h:Rounds u 0 N)(hN:N≤20):numN u=N:=by
 have hf:(List.range 21).find? (fun N=> !(decide (0<u/10^N)||decide (N≤0)))=some N:=by
  rw[List.find?_range_eq_some]
  refine⟨?_,List.mem_range.2 (by omega),fun j hj=> ?_⟩
  ·have:=h.2
   simp only[not_or] at this
   simp only[Bool.not_eq_true',Bool.or_eq_false_iff,decide_eq_false_iff_not]
   exact this
  ·have:=h.1 j hj
   simp only[Bool.not_not,Bool.or_eq_true,decide_eq_true_eq]
   exact this
 unfold numN
 rw[hf];rfl
def numT (n:Int):List Nat:=printed n 0 (numN n.natAbs)
theorem numN_le (u:Nat):numN u≤20:=by
 unfold numN
 cases h:(List.range 21).find? (fun N=> !(decide (0<u/10^N)||decide (N≤0))) with
 |none=>exact Nat.zero_le _
 |some N=>have:=List.mem_range.1 (List.mem_of_find?_eq_some h);show N≤20;omega
theorem numT_len (n:Int):(numT n).length≤41:=by
 unfold numT printed
 have h1:=numN_le n.natAbs
 have h2:=prB_len n.natAbs 0 (numN n.natAbs)
 rw[List.length_reverse,List.length_append]
 split<;>simp<;>omega
theorem numT_lt (n:Int):∀x∈numT n,x<256:=by
 intro x hx
 unfold numT printed at hx
 rw[List.mem_reverse,List.mem_append] at hx
 rcases hx with hx|hx
 ·exact prB_lt _ _ _ x hx
 ·split at hx<;>simp at hx;omega
theorem numPrintC (n:Int)(w:World)(hn:I64 n):Calls Tryz.prog 86 #[.int .i64 n, .int .i64 0] w fun e w'=>e= .returned (.string (strOf (numT n)))∧Grow w w':=
 (print_any n 0 w hn (by decide)).mono fun e w' ⟨⟨N,h1,h2,h3⟩,h4⟩=>⟨by rw[h3];unfold numT;rw[numN_of h1 h2],h4⟩
theorem dayT_len (n:Nat):(dayT n).length=10:=by unfold dayT printD;simp[digR_len]
theorem dayT_lt (n:Nat):∀x∈dayT n,x<256:=printD_lt _ _ _
def signS:List (List Nat):=[[43],[45],[42],[47],[],[],[60],[60,61],[61],[33,61],[62,61],[62],[38],[124],[33],[45]]
def signP:List Int:=[4,4,5,5,7,7,3,3,3,3,3,3,2,1,6,6]
def bindT (op:Int):List Nat × Int:=if op<5∨20<op then([],7) else(signS.getD (op-5).toNat [],signP.getD (op-5).toNat 7)
def parT (least:Int)(x:Int × List Nat):List Nat:=if x.1<least then [40]++x.2++[41] else x.2
def joinT:List (List Nat)→List Nat
 | []=>[]
 |s::r=>s++(r.flatMap fun t=>[44,32]++t)
theorem joinT_snoc (l:List (List Nat))(x:List Nat):joinT (l++[x])=if l=[] then x else joinT l++[44,32]++x:=by
 cases l with
 |nil=>simp[joinT]
 |cons s r=>simp[joinT]
def headT (op n:Int)(nm:List Nat)(l:List (Int × List Nat)):List Nat:=
 if op=1 then numT n else if op=2 then dayT n.toNat else if op=3 then nm else if op=4 then [100,97,121]
 else if(bindT op).2=6 then(bindT op).1++parT 6 (l.getD 0 (7,[]))
 else if(bindT op).2=3 then parT 4 (l.getD 0 (7,[]))++[32]++(bindT op).1++[32]++parT 4 (l.getD 1 (7,[]))
 else if(bindT op).2<6 then parT (bindT op).2 (l.getD 0 (7,[]))++[32]++(bindT op).1++[32]++parT ((bindT op).2+1) (l.getD 1 (7,[]))
 else(if op=9 then [109,105,110,40] else if op=10 then [109,97,120,40] else [105,102,40])++joinT (l.map (·.2))++[41]
mutual
def exprT:Ex→List Nat
 | .mk op n nm l=>headT op n nm (exprTL l)
def exprTL:List Ex→List (Int × List Nat)
 | []=>[]
 |e::r=>((bindT e.op).2,exprT e)::exprTL r
end
def pairT (e:Ex):Int × List Nat:=((bindT e.op).2,exprT e)
theorem exprTL_map:∀l,exprTL l=l.map pairT
 | []=>by rw[exprTL];rfl
 |e::r=>by rw[exprTL,exprTL_map r];rfl
theorem exprT_eq (e:Ex):exprT e=headT e.op e.n e.name (e.args.map pairT):=by
 cases e;rw[exprT,exprTL_map];rfl
def inT (e:Ex)(least:Int):List Nat:=parT least (pairT e)
theorem headB_inv {op n:Int}{nm:List Nat}{k:Nat}(h:headB op n nm k=true):arityZ op=(k:Int)∧(n=0∨op=1∨op=2)∧(nm=[]∨op=3)∧0≤n∧(op=2→n≤2932896)∧(op=3→freeB nm=true):=
 Classical.byContradiction fun hn=>by rw[headB_false hn] at h;cases h
theorem builtB_inv {e:Ex}(h:builtB e=true):headB e.op e.n e.name e.args.length=true∧∀x∈e.args,builtB x=true:=by
 rw[builtB_eq,Bool.and_eq_true,List.all_eq_true] at h
 exact h
theorem arity_op {op:Int}{k:Nat}(h:arityZ op=(k:Int)):1≤op∧op≤21∧(op≤4→k=0)∧(5≤op→op≤18→k=2)∧(op=19∨op=20→k=1)∧(op=21→k=3):=by
 unfold arityZ at h
 repeat' split at h
 all_goals omega
theorem free_len {nm:List Nat}(h:freeB nm=true):nm.length≤16:=by
 unfold freeB namedB at h
 simp at h
 omega
theorem bindT_len (op:Int):(bindT op).1.length≤2∧(∀x∈(bindT op).1,x<256)∧1≤(bindT op).2∧(bindT op).2≤7:=by
 unfold bindT
 split
 ·simp
 ·rename_i h
  have:(op-5).toNat<16:=by omega
  generalize (op-5).toNat=j at *
  have key:∀j:Fin 16,(signS.getD j.val []).length≤2∧(∀x∈signS.getD j.val [],x<256)∧1≤signP.getD j.val 7∧signP.getD j.val 7≤7:=by decide
  exact key ⟨j,this⟩
theorem parT_len (least:Int)(x:Int × List Nat):(parT least x).length≤x.2.length+2∧((∀d∈x.2,d<256)→∀d∈parT least x,d<256):=by
 unfold parT
 split
 ·refine⟨by simp,fun h d hd=> ?_⟩
  simp only[List.mem_append,List.mem_singleton] at hd
  rcases hd with (hd|hd)|hd
  ·omega
  ·exact h d hd
  ·omega
 ·exact⟨by omega,fun h=>h⟩
theorem run_all {l:List Nat}(h:runN partB l=l.length):∀x∈l,partB x=true:=by
 induction l with
 |nil=>intro x hx;cases hx
 |cons c r ih=>
  rw[runN_cons] at h
  intro x hx
  split at h
  ·rename_i hc
   rcases List.mem_cons.1 hx with rfl|hx
   ·exact hc
   ·exact ih (by rw[List.length_cons] at h;omega) x hx
  ·simp at h
theorem free_lt {nm:List Nat}(h:freeB nm=true):∀x∈nm,x<256:=by
 unfold freeB namedB at h
 simp at h
 intro x hx
 have:=run_all h.1.2 x hx
 unfold partB letB digB at this
 simp at this
 omega
theorem bt3 {P:Nat→Prop}{a b c:List Nat}(ha:∀x∈a,P x)(hb:∀x∈b,P x)(hc:∀x∈c,P x):∀x∈a++b++c,P x:=by
 intro x hx
 simp only[List.mem_append] at hx
 rcases hx with (h|h)|h
 ·exact ha x h
 ·exact hb x h
 ·exact hc x h
theorem join_lt {l:List (List Nat)}(h:∀t∈l,∀x∈t,x<256):∀x∈joinT l,x<256:=by
 cases l with
 |nil=>intro x hx;cases hx
 |cons s r=>
  intro x hx
  unfold joinT at hx
  simp only[List.mem_append,List.mem_flatMap,List.mem_cons,List.not_mem_nil,or_false] at hx
  rcases hx with hx|⟨t,ht,hx|hx⟩
  ·exact h s List.mem_cons_self x hx
  ·omega
  ·exact h t (List.mem_cons_of_mem _ ht) x hx
theorem snd_pairT (l:List Ex):(l.map pairT).map (·.2)=l.map exprT:=by rw[List.map_map];rfl
theorem joinT_cons2 (s t:List Nat)(r:List (List Nat)):joinT (s::t::r)=s++[44,32]++joinT (t::r):=by simp[joinT]
theorem joinT_len:∀l:List Ex,(∀x∈l,(exprT x).length≤50*x.nodes)→(joinT (l.map exprT)).length≤50*nodesL l+2*l.length
 | [],_=>by simp[joinT]
 | [x],h=>by have:=h x List.mem_cons_self;simp[joinT,nodesL];omega
 |x::y::r,h=>by
  have h1:=h x List.mem_cons_self
  have h2:=joinT_len (y::r) fun z hz=>h z (List.mem_cons_of_mem _ hz)
  rw[nodesL,List.map_cons,List.map_cons,joinT_cons2,←List.map_cons]
  simp only[List.length_append,List.length_cons,List.length_nil] at h2⊢
  omega
theorem exprT_bd (N:Nat):∀e:Ex,e.nodes≤N→builtB e=true→(exprT e).length≤50*e.nodes∧∀d∈exprT e,d<256:=by
 induction N with
 |zero=>intro e hN;have:=e.nodes_pos;omega
 |succ N ih=>
  intro e hN hb
  obtain⟨hh,ha⟩:=builtB_inv hb
  obtain⟨h1,h2,h3,h4,h5,h6⟩:=headB_inv hh
  obtain⟨o1,o2,o3,o4,o5,o6⟩:=arity_op h1
  obtain⟨b1,b2,b3,b4⟩:=bindT_len e.op
  have harg:∀x∈e.args,(exprT x).length≤50*x.nodes∧∀d∈exprT x,d<256:=fun x hx=>ih x (by have:=Ex.arg_nodes hx;omega) (ha x hx)
  have hpar:∀x∈e.args,∀least,(parT least (pairT x)).length≤50*x.nodes+2∧∀d∈parT least (pairT x),d<256:=fun x hx least=>by
   have h:=parT_len least (pairT x)
   have h2:=harg x hx
   exact⟨by have:=h.1;have e:(pairT x).2=exprT x:=rfl;rw[e] at this;omega,h.2 h2.2⟩
  have hn:e.nodes=1+nodesL e.args:=by cases e;exact Ex.nodes_mk _ _ _ _
  rw[exprT_eq]
  unfold headT
  have k1:∀x∈([40]:List Nat),x<256:=by decide
  have k2:∀x∈([32]:List Nat),x<256:=by decide
  have k3:∀x∈([41]:List Nat),x<256:=by decide
  split
  ·exact⟨by have:=numT_len e.n;omega,numT_lt _⟩
  ·split
   ·exact⟨by rw[dayT_len];omega,dayT_lt _⟩
   ·split
    ·rename_i h
     exact⟨by have:=free_len (h6 h);omega,free_lt (h6 h)⟩
    ·split
     ·exact⟨by simp;omega,by decide⟩
     ·have hlen:1≤e.args.length∧e.args.length≤3:=by omega
      obtain⟨x,r,hx⟩:∃x r,e.args=x::r:=by
       cases hx:e.args with
       |nil=>rw[hx] at hlen;simp at hlen
       |cons x r=>exact⟨x,r,rfl⟩
      have px:=hpar x (by rw[hx];exact List.mem_cons_self)
      rw[hx] at hn
      rw[nodesL] at hn
      split
      ·rw[hx]
       obtain⟨p1,p2⟩:=px 6
       refine⟨by rw[List.length_append];show _+(parT 6 (pairT x)).length≤_;omega,fun d hd=> ?_⟩
       rcases List.mem_append.1 hd with hd|hd
       ·exact b2 d hd
       ·exact p2 d hd
      ·rename_i hp6
       have hbin:(bindT e.op).2<6→∃y r',r=y::r':=fun hlt=>by
        have hop:e.op≤18:=by
         rcases Int.lt_or_le 18 e.op with h|h
         ·exfalso
          have:e.op=19∨e.op=20∨e.op=21:=by omega
          rcases this with h|h|h<;>rw[h] at hlt<;>revert hlt<;>decide
         ·exact h
        have:=o4 (by omega) hop
        rw[hx] at this
        cases r with
        |nil=>simp at this
        |cons y r'=>exact⟨y,r',rfl⟩
       split
       ·rename_i hp3
        obtain⟨y,r',rfl⟩:=hbin (by omega)
        have py:=hpar y (by rw[hx];exact List.mem_cons_of_mem _ List.mem_cons_self)
        rw[nodesL] at hn
        rw[hx]
        obtain⟨p1,p2⟩:=px 4
        obtain⟨q1,q2⟩:=py 4
        refine⟨?_,bt3 (bt3 p2 k2 b2) k2 q2⟩
        simp only[List.length_append,List.length_cons,List.length_nil]
        show(parT 4 (pairT x)).length+_+_+_+(parT 4 (pairT y)).length≤_
        omega
       ·split
        ·rename_i hp5
         obtain⟨y,r',rfl⟩:=hbin hp5
         have py:=hpar y (by rw[hx];exact List.mem_cons_of_mem _ List.mem_cons_self)
         rw[nodesL] at hn
         rw[hx]
         obtain⟨p1,p2⟩:=px (bindT e.op).2
         obtain⟨q1,q2⟩:=py ((bindT e.op).2+1)
         refine⟨?_,bt3 (bt3 p2 k2 b2) k2 q2⟩
         simp only[List.length_append,List.length_cons,List.length_nil]
         show(parT (bindT e.op).2 (pairT x)).length+_+_+_+(parT ((bindT e.op).2+1) (pairT y)).length≤_
         omega
        ·have hj:=joinT_len e.args fun z hz=>(harg z hz).1
         rw[snd_pairT]
         refine⟨?_,bt3 ?_ (join_lt fun t ht=> ?_) k3⟩
         ·rw[hx,nodesL] at hj
          rw[hx] at hlen⊢
          simp only[List.length_append,List.length_cons,List.length_nil] at hj hlen⊢
          split
          ·simp only[List.length_cons,List.length_nil];omega
          ·split<;>simp only[List.length_cons,List.length_nil]<;>omega
         ·split
          ·decide
          ·split<;>decide
         ·simp only[List.mem_map] at ht
          obtain⟨z,hz,rfl⟩:=ht
          exact(harg z hz).2
end Go.Proofs.YtaamkfajnpobfaaGreat
namespace Go.Proofs.YtaamkfajnpobfaaGreat
open Go.RowKit
theorem joinT_take (l:List (List Nat))(k:Nat):(joinT (l.take k)).length≤(joinT l).length:=by
 cases l with
 |nil=>simp[joinT]
 |cons s r=>
  cases k with
  |zero=>exact Nat.zero_le _
  |succ k=>
   rw[List.take_succ_cons]
   conv=>rhs;rw[←List.take_append_drop k r]
   simp only[joinT]
   rw[List.flatMap_append]
   simp only[List.length_append]
   omega
end Go.Proofs.YtaamkfajnpobfaaGreat
namespace Go.Proofs.YtaamkfajnpobfaaGreat
open Go.RowKit
end Go.Proofs.YtaamkfajnpobfaaGreat
namespace Go.Proofs.YtaamkfajnpobfaaGreat
open Go.RowKit
section
variable {P:Program} {Q:Exit→Act→World→Prop} {n:Nat} {F F':List (Nat × Value)} {w:World}
def JoinD (n:Nat)(F:List (Nat × Value))(J:Inhabited (List Deferred)→World→Prop)(a:Act)(w:World):Prop:=∃I,@Fr I n F a∧J I w
theorem Cd.seqD {x y:Code}(F':List (Nat × Value))(J:Inhabited (List Deferred)→World→Prop)(hx:Cd P x (Exit.then (JoinD n F' J) Q) n F w)(hy:∀I w,J I w→ @Cd I P y Q n F' w):Cd P (.seq x y) Q n F w:=
 fun a ha=>wp_seq (Code.wp_mono (fun e a w q=>by
  cases e with
  |normal=>obtain⟨I,hF,hJ⟩:=q;exact hy I w hJ a hF
  |exit id=>exact q
  |goto l=>exact q
  |ret=>exact q
  |panic ch=>exact q
  |outgrown=>exact q) (hx a ha))
theorem Post.joinD {I:Inhabited (List Deferred)}{J:Inhabited (List Deferred)→World→Prop}(hs:Sub F' F)(hJ:J I w): @Post I (Exit.then (JoinD n F' J) Q) .normal n F w:=fun _ ha=>⟨I,ha.sub hs,hJ⟩
end
end Go.Proofs.YtaamkfajnpobfaaGreat
namespace Go.Proofs.YtaamkfajnpobfaaGreat
open Go.RowKit
theorem opSign_any (op:Int)(w:World):Calls Tryz.prog 81 #[.int .i64 op] w fun e w'=>e= .returned (.tuple #[.string (strOf (bindT op).1), .int .i64 (bindT op).2])∧Grow w w':=by
 have bel:=Below.refl w.heap.size w
 refine Zs 33 Tryz.func81 ?_
 refine Zsr ?_
 refine Za ?_
 refine Za ?_
 refine Zk3 0 2 3 (Zts (Zsr ?_))
 refine Zm ?_
 refine Zk4 0 2 3 4 (Zt (Cd.block (Zsr ?_)))
 refine Zv (Runs.eqlI rfl rfl rfl) ?_
 refine Za ?_
 refine Zk5 0 2 3 4 5 (Zt ?_)
 refine Cd.condD rfl (fun h18=> ?_) (fun h18=> ?_)
 ·skip
  refine Zsr ?_
  refine Za ?_
  refine Za ?_
  refine Zk5 0 2 3 4 5 (Zt (Cd.ret (Post.block_ret (Post.then_ret ?_))))
  refine Post.end2 rfl rfl rfl (.inl rfl) ?_
  subst h18
  exact⟨rfl,bel⟩
 refine Zsr ?_
 refine Zv (Runs.eqlI rfl rfl rfl) ?_
 refine Za ?_
 refine Zk6 0 2 3 4 5 7 (Zt ?_)
 refine Cd.condD rfl (fun h17=> ?_) (fun h17=> ?_)
 ·skip
  refine Zsr ?_
  refine Za ?_
  refine Za ?_
  refine Zk6 0 2 3 4 5 7 (Zt (Cd.ret (Post.block_ret (Post.then_ret ?_))))
  refine Post.end2 rfl rfl rfl (.inl rfl) ?_
  subst h17
  exact⟨rfl,bel⟩
 refine Zsr ?_
 refine Zv (Runs.eqlI rfl rfl rfl) ?_
 refine Za ?_
 refine Zk7 0 2 3 4 5 7 9 (Zt ?_)
 refine Cd.condD rfl (fun h11=> ?_) (fun h11=> ?_)
 ·skip
  refine Zsr ?_
  refine Za ?_
  refine Za ?_
  refine Zk7 0 2 3 4 5 7 9 (Zt (Cd.ret (Post.block_ret (Post.then_ret ?_))))
  refine Post.end2 rfl rfl rfl (.inl rfl) ?_
  subst h11
  exact⟨rfl,bel⟩
 refine Zsr ?_
 refine Zv (Runs.eqlI rfl rfl rfl) ?_
 refine Za ?_
 refine Zk8 0 2 3 4 5 7 9 11 (Zt ?_)
 refine Cd.condD rfl (fun h12=> ?_) (fun h12=> ?_)
 ·skip
  refine Zsr ?_
  refine Za ?_
  refine Za ?_
  refine Zk8 0 2 3 4 5 7 9 11 (Zt (Cd.ret (Post.block_ret (Post.then_ret ?_))))
  refine Post.end2 rfl rfl rfl (.inl rfl) ?_
  subst h12
  exact⟨rfl,bel⟩
 refine Zsr ?_
 refine Zv (Runs.eqlI rfl rfl rfl) ?_
 refine Za ?_
 refine Zk9 0 2 3 4 5 7 9 11 13 (Zt ?_)
 refine Cd.condD rfl (fun h13=> ?_) (fun h13=> ?_)
 ·skip
  refine Zsr ?_
  refine Za ?_
  refine Za ?_
  refine Zk9 0 2 3 4 5 7 9 11 13 (Zt (Cd.ret (Post.block_ret (Post.then_ret ?_))))
  refine Post.end2 rfl rfl rfl (.inl rfl) ?_
  subst h13
  exact⟨rfl,bel⟩
 refine Zsr ?_
 refine Zv (Runs.eqlI rfl rfl rfl) ?_
 refine Za ?_
 refine Zk10 0 2 3 4 5 7 9 11 13 15 (Zt ?_)
 refine Cd.condD rfl (fun h14=> ?_) (fun h14=> ?_)
 ·skip
  refine Zsr ?_
  refine Za ?_
  refine Za ?_
  refine Zk10 0 2 3 4 5 7 9 11 13 15 (Zt (Cd.ret (Post.block_ret (Post.then_ret ?_))))
  refine Post.end2 rfl rfl rfl (.inl rfl) ?_
  subst h14
  exact⟨rfl,bel⟩
 refine Zsr ?_
 refine Zv (Runs.eqlI rfl rfl rfl) ?_
 refine Za ?_
 refine Zk11 0 2 3 4 5 7 9 11 13 15 17 (Zt ?_)
 refine Cd.condD rfl (fun h15=> ?_) (fun h15=> ?_)
 ·skip
  refine Zsr ?_
  refine Za ?_
  refine Za ?_
  refine Zk11 0 2 3 4 5 7 9 11 13 15 17 (Zt (Cd.ret (Post.block_ret (Post.then_ret ?_))))
  refine Post.end2 rfl rfl rfl (.inl rfl) ?_
  subst h15
  exact⟨rfl,bel⟩
 refine Zsr ?_
 refine Zv (Runs.eqlI rfl rfl rfl) ?_
 refine Za ?_
 refine Zk12 0 2 3 4 5 7 9 11 13 15 17 19 (Zt ?_)
 refine Cd.condD rfl (fun h16=> ?_) (fun h16=> ?_)
 ·skip
  refine Zsr ?_
  refine Za ?_
  refine Za ?_
  refine Zk12 0 2 3 4 5 7 9 11 13 15 17 19 (Zt (Cd.ret (Post.block_ret (Post.then_ret ?_))))
  refine Post.end2 rfl rfl rfl (.inl rfl) ?_
  subst h16
  exact⟨rfl,bel⟩
 refine Zsr ?_
 refine Zv (Runs.eqlI rfl rfl rfl) ?_
 refine Za ?_
 refine Zk13 0 2 3 4 5 7 9 11 13 15 17 19 21 (Zt ?_)
 refine Cd.condD rfl (fun h5=> ?_) (fun h5=> ?_)
 ·skip
  refine Zsr ?_
  refine Za ?_
  refine Za ?_
  refine Zk13 0 2 3 4 5 7 9 11 13 15 17 19 21 (Zt (Cd.ret (Post.block_ret (Post.then_ret ?_))))
  refine Post.end2 rfl rfl rfl (.inl rfl) ?_
  subst h5
  exact⟨rfl,bel⟩
 refine Zsr ?_
 refine Zv (Runs.eqlI rfl rfl rfl) ?_
 refine Za ?_
 refine Zk14 0 2 3 4 5 7 9 11 13 15 17 19 21 23 (Zt ?_)
 refine Cd.condD rfl (fun h6=> ?_) (fun h6=> ?_)
 ·skip
  refine Zsr ?_
  refine Za ?_
  refine Za ?_
  refine Zk14 0 2 3 4 5 7 9 11 13 15 17 19 21 23 (Zt (Cd.ret (Post.block_ret (Post.then_ret ?_))))
  refine Post.end2 rfl rfl rfl (.inl rfl) ?_
  subst h6
  exact⟨rfl,bel⟩
 refine Zsr ?_
 refine Zv (Runs.eqlI rfl rfl rfl) ?_
 refine Za ?_
 refine Zk15 0 2 3 4 5 7 9 11 13 15 17 19 21 23 25 (Zt ?_)
 refine Cd.condD rfl (fun h7=> ?_) (fun h7=> ?_)
 ·skip
  refine Zsr ?_
  refine Za ?_
  refine Za ?_
  refine Zk15 0 2 3 4 5 7 9 11 13 15 17 19 21 23 25 (Zt (Cd.ret (Post.block_ret (Post.then_ret ?_))))
  refine Post.end2 rfl rfl rfl (.inl rfl) ?_
  subst h7
  exact⟨rfl,bel⟩
 refine Zsr ?_
 refine Zv (Runs.eqlI rfl rfl rfl) ?_
 refine Za ?_
 refine Zk16 0 2 3 4 5 7 9 11 13 15 17 19 21 23 25 27 (Zt ?_)
 refine Cd.condD rfl (fun h8=> ?_) (fun h8=> ?_)
 ·skip
  refine Zsr ?_
  refine Za ?_
  refine Za ?_
  refine Zk16 0 2 3 4 5 7 9 11 13 15 17 19 21 23 25 27 (Zt (Cd.ret (Post.block_ret (Post.then_ret ?_))))
  refine Post.end2 rfl rfl rfl (.inl rfl) ?_
  subst h8
  exact⟨rfl,bel⟩
 refine Zsr ?_
 refine Zv (Runs.eqlI rfl rfl rfl) ?_
 refine Za ?_
 refine Zk17 0 2 3 4 5 7 9 11 13 15 17 19 21 23 25 27 29 (Zt ?_)
 refine Cd.condD rfl (fun h19=> ?_) (fun h19=> ?_)
 ·skip
  refine Zsr ?_
  refine Za ?_
  refine Za ?_
  refine Zk17 0 2 3 4 5 7 9 11 13 15 17 19 21 23 25 27 29 (Zt (Cd.ret (Post.block_ret (Post.then_ret ?_))))
  refine Post.end2 rfl rfl rfl (.inl rfl) ?_
  subst h19
  exact⟨rfl,bel⟩
 refine Zsr ?_
 refine Zv (Runs.eqlI rfl rfl rfl) ?_
 refine Za ?_
 refine Zk18 0 2 3 4 5 7 9 11 13 15 17 19 21 23 25 27 29 31 (Zt ?_)
 refine Cd.condD rfl (fun h20=> ?_) (fun h20=> ?_)
 ·skip
  refine Zsr ?_
  refine Za ?_
  refine Za ?_
  refine Zk18 0 2 3 4 5 7 9 11 13 15 17 19 21 23 25 27 29 31 (Zt (Cd.ret (Post.block_ret (Post.then_ret ?_))))
  refine Post.end2 rfl rfl rfl (.inl rfl) ?_
  subst h20
  exact⟨rfl,bel⟩
 refine Cd.skip (Post.block_normal (Ztq ?_))
 refine Za ?_
 refine Za ?_
 refine Zk18 0 2 3 4 5 7 9 11 13 15 17 19 21 23 25 27 29 31 (Zt (Cd.ret ?_))
 refine Post.end2 rfl rfl rfl (.inl rfl) ?_
 have hb:bindT op=([],7):=by
  unfold bindT
  by_cases h:op<5∨20<op
  ·rw[if_pos h]
  ·have:op=9∨op=10:=by omega
   rcases this with rfl|rfl<;>rfl
 rw[hb]
 exact⟨rfl,bel⟩
theorem WrRet.trans {B g:Nat}{bs:List Nat}{w w1 w2:World}{e:Ending}(h:Wt B w w1)(k:WrRet B g bs w1 e w2):WrRet B g bs w e w2:=⟨k.1,h.wt k.2.1,k.2.2⟩
theorem list_any (B g f n:Nat)(cp:List Value)(word bs:List Nat)(ts:List (List Nat))(w:World)(h:Bw w B g bs)(hw:∀d∈word,d<256)(hwl:word.length≤100)(hn:ts.length=n)(hn9:n≤1000)(hts:∀t∈ts,∀d∈t,d<256)(hj:(joinT ts).length≤20000)(hl:bs.length≤900000000)
  (eg:∀args w,(callFunc f args).run Tryz.prog w= .ok (.enter f args) w)
  (one:∀(i:Nat) (t:List Nat),ts[i]? =some t→∀W bs',Wt B w W→Bw W B g bs'→bs'.length≤bs.length+50000→Calls Tryz.prog f ([]++[Value.int .i64 (i:Int)]++cp).toArray W (WrRet B g (bs'++t) W)):
  Calls Tryz.prog 84 #[.pointer (some ⟨g,0,none⟩), .string (strOf word), .int .i64 (n:Int), .func (.func f) #[] cp.toArray] w (WrRet B g (bs++word++[40]++joinT ts++[41]) w):=by
 have wt:=Wt.refl B w
 have wr:=h
 refine Zs 33 Tryz.func84 ?_
 refine Zsr ?_
 refine Zm ?_
 refine Zv (Runs.nilCheck rfl rfl) ?_
 refine Zf 0 Tryz.underlying129 ?_
 refine Zm ?_
 refine Zv (Runs.addL (b:=[40]) rfl rfl rfl (by simp only[List.length_cons,List.length_nil];omega)) ?_
 have k40:∀d∈word++[40],d<256:=fun d hd=>by
  rcases List.mem_append.1 hd with hd|hd
  ·exact hw d hd
  ·simp at hd;omega
 refine Zc (Ze Tryz.func82) ((writeS_both B g (word++[40]) bs _ wr k40 (by simp only[List.length_append,List.length_cons,List.length_nil];omega)).1) ?_
 clear wr
 rintro e w1 ⟨⟨_,rfl⟩,fw1,wr⟩
 refine⟨_,rfl,?_⟩
 replace wt:=wt.wt fw1
 rw[←List.append_assoc] at wr
 obtain⟨pre,hpre⟩:∃pre,pre=bs++word++[40]:=⟨_,rfl⟩
 have hprel:pre.length≤bs.length+101:=by rw[hpre];simp only[List.length_append,List.length_cons,List.length_nil];omega
 rw[←hpre] at wr⊢
 refine Zk4 0 1 2 3 (Zts (Zsr ?_))
 refine Zm ?_
 refine Zm ?_
 refine Zk6 0 1 2 3 15 16 (Zt (Cd.block ?_))
 refine Cd.loop (σ:=Nat) (fun k=>[(0, .pointer (some ⟨g,0,none⟩)),(1, .string (strOf word)),(2, .int .i64 (n:Int)),(3, .func (.func f) #[] cp.toArray),(15, .int .i64 (n:Int)),(16, .int .i64 (k:Int))]) (fun k wr'=>k≤n∧Wt B w wr'∧Bw wr' B g (pre++joinT (ts.take k))) (fun k=>n-k) 0 ⟨Nat.zero_le _,wt,by simpa[joinT] using wr⟩ ⟨rfl,rfl,rfl,rfl,rfl,rfl,trivial⟩ ?_
 clear wt wr
 rintro k w9 ⟨hk,wt,wr⟩
 have hbk:=joinT_take ts k
 refine Zsr ?_
 refine Zv (Runs.lss rfl rfl rfl) ?_
 refine Zk7 0 1 2 3 15 16 17 (Zts ?_)
 refine Cd.condD rfl (fun hc=> ?_) (fun hc=> ?_)
 ·obtain⟨t,ht⟩:∃t,ts[k]? =some t:=⟨_,List.getElem?_eq_getElem (by omega)⟩
  have htk:ts.take (k+1)=ts.take k++[t]:=by rw[List.take_add_one,ht];rfl
  have hbk1:=joinT_take ts (k+1)
  rw[htk,joinT_snoc] at hbk1
  refine Cd.skip (Zts (Cd.block (Zsr ?_)))
  refine Zm ?_
  refine Za ?_
  refine Zk8 0 1 2 3 8 15 16 17 (Zts (Zsr ?_))
  refine Zm ?_
  refine Zv (Runs.gtr rfl rfl rfl) ?_
  refine Zk9 0 1 2 3 8 15 16 17 20 (Zt ?_)
  refine Cd.condD rfl (fun hc=> ?_) (fun hc=> ?_)
  ·have hne:ts.take k≠ []:=fun h0=>by have:=congrArg List.length h0;rw[List.length_take,List.length_nil] at this;omega
   rw[if_neg hne] at hbk1
   refine Zr ?_
   refine Zm ?_
   refine Zv (Runs.nilCheck rfl rfl) ?_
   refine Zf 0 Tryz.underlying129 ?_
   refine Zc (Ze Tryz.func82) ((writeS_both B g [44,32] _ _ wr (by decide) (by simp only[List.length_append,List.length_cons,List.length_nil];omega)).1) ?_
   clear wr
   rintro e w2 ⟨⟨_,rfl⟩,fw2,wr⟩
   refine⟨_,rfl,?_⟩
   replace wt:=wt.wt fw2
   refine Zk9 0 1 2 3 8 15 16 17 20 (Ztr ?_)
   refine Zm ?_
   refine Zm ?_
   refine Seq.call (Enters.value (first:=[]) rfl rfl rfl eg) rfl rfl rfl (one k t ht _ _ wt wr (by simp only[List.length_append,List.length_cons,List.length_nil];omega)) ?_
   clear wr
   rintro e w10 ⟨⟨_,rfl⟩,f10,wr⟩
   refine⟨_,rfl,?_⟩
   replace wt:=wt.wt f10
   refine Zk9 0 1 2 3 8 15 16 17 20 (Post.block_normal (Ztr ?_))
   refine Za_ ?_
   refine Zm ?_
   refine Zk9 0 1 2 3 8 15 16 17 20 ?_
   refine Post.round (k+1) ⟨rfl,rfl,rfl,rfl,rfl,rfl,trivial⟩ ⟨by omega,wt,?_⟩ (by omega)
   rw[htk,joinT_snoc,if_neg hne]
   simpa only[List.append_assoc] using wr
  ·obtain rfl:k=0:=by omega
   refine Cd.skip (Ztr ?_)
   refine Zm ?_
   refine Zm ?_
   refine Seq.call (Enters.value (first:=[]) rfl rfl rfl eg) rfl rfl rfl (one 0 t ht _ _ wt wr (by simp only[List.length_append,List.take_zero];simp only[joinT,List.length_nil];omega)) ?_
   clear wr
   rintro e w10 ⟨⟨_,rfl⟩,f10,wr⟩
   refine⟨_,rfl,?_⟩
   replace wt:=wt.wt f10
   refine Zk9 0 1 2 3 8 15 16 17 20 (Post.block_normal (Ztr ?_))
   refine Za_ ?_
   refine Zm ?_
   refine Zk9 0 1 2 3 8 15 16 17 20 ?_
   refine Post.round 1 ⟨rfl,rfl,rfl,rfl,rfl,rfl,trivial⟩ ⟨by omega,wt,?_⟩ (by omega)
   rw[htk]
   simpa[joinT] using wr
 ·obtain rfl:k=n:=by omega
  rw[List.take_of_length_le (by omega)] at wr
  refine Cd.exit (Post.then_exit (Post.round_exit (Post.block_exit (Ztr ?_))))
  refine Zm ?_
  refine Zv (Runs.nilCheck rfl rfl) ?_
  refine Zf 0 Tryz.underlying129 ?_
  refine Zc (Ze Tryz.func82) ((writeS_both B g [41] _ _ wr (by decide) (by simp only[List.length_append,List.length_cons,List.length_nil];omega)).1) ?_
  clear wr
  rintro e w2 ⟨⟨_,rfl⟩,fw2,wr⟩
  refine⟨_,rfl,?_⟩
  replace wt:=wt.wt fw2
  refine Zk7 0 1 2 3 15 16 17 ?_
  refine Post.end0 rfl (.inr rfl) ?_
  exact⟨⟨_,rfl⟩,wt,wr⟩
end Go.Proofs.YtaamkfajnpobfaaGreat
namespace Go.Proofs.YtaamkfajnpobfaaGreat
open Go.RowKit
def RecW (B g L:Nat)(w:World)(e:Ex)(A:Option Addr):Prop:=∀(i:Nat) (x:Ex),e.args[i]? =some x→∃ad A' c',A=some ad∧
 (∀W,Below B w W→∀(j:Nat) (u:Value),([.int .i64 x.op, .int .i64 x.n, .string (strOf x.name), .slice A' x.args.length c']:List Value)[j]? =some u→W.cell? ((ad.add (i*4)).add j)=some u)∧
 (∀W bs' least,Below B w W→Bw W B g bs'→I64 least→bs'.length≤L→Calls Tryz.prog 40 #[.pointer (some ⟨g,0,none⟩), .agg #[.int .i64 x.op, .int .i64 x.n, .string (strOf x.name), .slice A' x.args.length c'], .int .i64 least] W (WrRet B g (bs'++inT x least) W))
theorem inT_one (x:Ex):inT x 1=exprT x:=by
 unfold inT parT
 rw[if_neg (by have:=(bindT_len x.op).2.2.1;show¬(bindT x.op).2<1;omega)]
 rfl
theorem exprArg_of (B g L g3 g4 c i:Nat)(A:Option Addr)(e x:Ex)(bs:List Nat)(w W:World)(h:RecW B g L w e A)(hb:Below B w W)(k3:Blk W g3 83 #[.pointer (some ⟨g,0,none⟩)]) (k4:Blk W g4 35 #[.int .i64 e.op, .int .i64 e.n, .string (strOf e.name), .slice A e.args.length c]) (wr:Bw W B g bs) (hL:bs.length≤L) (hx:e.args[i]? =some x):
  Calls Tryz.prog 85 #[.int .i64 (i:Int), .pointer (some ⟨g3,0,none⟩), .pointer (some ⟨g4,0,none⟩)] W (WrRet B g (bs++exprT x) W):=by
 obtain⟨ad,A',c',rfl,hc,hcall⟩:=h i x hx
 have hi:=(List.getElem?_eq_some_iff.1 hx).1
 have hBW:=wr.size
 have hcall:=fun W' (hb2:Below W.heap.size W W') (wr':Bw W' B g bs)=>hcall W' bs 1 (hb.trans (hb2.mono hBW)) wr' (by unfold I64;omega) hL
 rw[inT_one] at hcall
 have hc:=fun W' (hb2:Below W.heap.size W W')=>hc W' (hb.trans (hb2.mono hBW))
 have bel:=Below.refl W.heap.size W
 have wt:=Wt.refl B W
 refine Zs 11 Tryz.func85 ?_
 refine Cd.draw 6 (by kernel_rfl) [] (.inl rfl) rfl Grow Grow.refl (fun _ _ _=>Grow.trans) ?_
 intro w1 hw1 zw1
 replace bel:=bel.step hw1
 replace wt:=wt.step hw1
 replace wr:=wr.step hw1
 replace k3:=k3.step hw1
 replace k4:=k4.step hw1
 have zbel:=bel.size
 have zlt:=k4.lt
 refine Zd (fun w hG=>Runs.loadB rfl rfl Tryz.underlying83 rfl (k3.step hG) rfl) ?_
 refine Zd (fun w hG=>Runs.fieldB 3 rfl rfl Tryz.underlying35 rfl (by kernel_rfl)) ?_
 refine Zd (fun w hG=>Runs.loadB rfl rfl Tryz.underlying22 rfl (k4.step hG) rfl) ?_
 refine Zdm ?_
 refine Zd (fun w hG=>Runs.indexN rfl rfl rfl Tryz.underlying22 (s:=4) (by kernel_rfl) (j:=i) rfl (by omega)) ?_
 refine Zd (fun w hG=>Runs.loadF (ps:=[.int .i64 x.op, .int .i64 x.n, .string (strOf x.name), .slice A' x.args.length c']) rfl rfl Tryz.underlying35 rfl (m:=4) (by kernel_rfl) rfl (hc _ (bel.step hG))) ?_
 refine Dr.nil ?_
 refine FinX.done (F':=[(0,_),(1,_),(2,_),(4,_),(9,_)]) rfl ⟨rfl,rfl,rfl,rfl,rfl,trivial⟩ ?_
 intro w2 hw2 fw2
 replace bel:=bel.step hw2
 replace wt:=wt.step hw2
 replace wr:=wr.step hw2
 replace k3:=k3.step hw2
 replace k4:=k4.step hw2
 have hcc:=hcall _ bel wr
 clear bel
 refine Zc (Ze Tryz.func40) (hcc) ?_
 clear wr
 rintro e w3 ⟨⟨_,rfl⟩,fw3,wr⟩
 refine⟨_,rfl,?_⟩
 replace wt:=wt.wt fw3
 refine Zk3 0 1 2 ?_
 refine Post.end0 rfl (.inr rfl) ?_
 exact⟨⟨_,rfl⟩,wt,wr⟩
theorem eg_arg:∀args w,(callFunc 85 args).run Tryz.prog w= .ok (.enter 85 args) w:=fun args w=>run_enter Tryz.func85 (by kernel_rfl) rfl args w
theorem exprArgs_of (B g L g3 g4 c:Nat)(A:Option Addr)(e:Ex)(word bs:List Nat)(w W:World)(h:RecW B g L w e A)(hb:Below B w W)(k3:Blk W g3 83 #[.pointer (some ⟨g,0,none⟩)]) (k4:Blk W g4 35 #[.int .i64 e.op, .int .i64 e.n, .string (strOf e.name), .slice A e.args.length c]) (wr:Bw W B g bs) (hL:bs.length+50000≤L) (hL2:L≤900000000)
  (hw:∀d∈word,d<256) (hwl:word.length≤100) (hbt:∀x∈e.args,builtB x=true) (hn:e.args.length≤1000) (hj:(joinT (e.args.map exprT)).length≤20000):
  Calls Tryz.prog 83 #[.string (strOf word), .pointer (some ⟨g3,0,none⟩), .pointer (some ⟨g4,0,none⟩)] W (WrRet B g (bs++word++[40]++joinT (e.args.map exprT)++[41]) W):=by
 have wt:=Wt.refl B W
 have hBW:=wr.size
 have hl:(e.args.map exprT).length=e.args.length:=List.length_map _
 have hlist:=list_any B g 85 e.args.length [.pointer (some ⟨g3,0,none⟩), .pointer (some ⟨g4,0,none⟩)] word bs (e.args.map exprT) W wr hw hwl hl hn (fun t ht=>by obtain⟨x,hx,rfl⟩:=List.mem_map.1 ht;exact(exprT_bd x.nodes x (Nat.le_refl _) (hbt x hx)).2) hj (by omega) eg_arg
  (fun i t ht W' bs' hwt hwr hlen=>by
   rw[List.getElem?_map] at ht
   cases hx:e.args[i]? with
   |none=>rw[hx] at ht;cases ht
   |some x=>
    rw[hx] at ht
    injection ht with ht
    subst ht
    exact exprArg_of B g L g3 g4 c i A e x bs' w W' h (hb.trans (hwt.to hBW)) (k3.wt hwt) (k4.wt hwt) hwr (by omega) hx)
 refine Zs 11 Tryz.func83 ?_
 refine Zr ?_
 refine Zv (Runs.loadB rfl rfl Tryz.underlying83 rfl k3 rfl) ?_
 refine Zm ?_
 refine Zf 3 Tryz.underlying35 ?_
 refine Zv (Runs.loadB rfl rfl Tryz.underlying22 rfl k4 rfl) ?_
 refine Zv (Runs.len rfl rfl Tryz.underlying22) ?_
 refine Zv (Runs.makeFunc (v:= .func (.func 85) #[] #[.pointer (some ⟨g3,0,none⟩), .pointer (some ⟨g4,0,none⟩)]) rfl (show evL _ _=some [] from rfl) (show evL _ _=some [.pointer (some ⟨g3,0,none⟩), .pointer (some ⟨g4,0,none⟩)] from rfl) rfl) ?_
 refine Zc (Ze Tryz.func84) (hlist) ?_
 clear wr
 rintro e w1 ⟨⟨_,rfl⟩,fw1,wr⟩
 refine⟨_,rfl,?_⟩
 replace wt:=wt.wt fw1
 refine Zk3 0 1 2 ?_
 refine Post.end0 rfl (.inr rfl) ?_
 exact⟨⟨_,rfl⟩,wt,wr⟩
theorem eg_args:∀args w,(callFunc 83 args).run Tryz.prog w= .ok (.enter 83 args) w:=fun args w=>run_enter Tryz.func83 (by kernel_rfl) rfl args w
theorem eg_write:∀args w,(callFunc 82 args).run Tryz.prog w= .ok (.enter 82 args) w:=fun args w=>run_enter Tryz.func82 (by kernel_rfl) rfl args w
def ExJ (Q:Exit→Act→World→Prop)(B g g3 g4 n m:Nat)(bs T:List Nat)(cs:Array Value)(w:World)(I:Inhabited (List Deferred))(wc:World):Prop:=
 Wt B w wc∧Blk wc g3 83 #[.pointer (some ⟨g,0,none⟩)]∧Blk wc g4 35 cs∧∃bs0,Bw wc B g bs0∧bs0.length≤m∧∀wx ex,(ex=Exit.ret∨ex=Exit.normal)→Wt B w wx→Bw wx B g (bs0++T)→ @Post I Q ex n [] wx
theorem Cd.seqE {P:Program}{Q:Exit→Act→World→Prop}{n:Nat}{F:List (Nat × Value)}{wc:World}{x y:Code}(F':List (Nat × Value))(B g g3 g4 m:Nat)(bs T:List Nat)(cs:Array Value)(w:World)(hx:Cd P x (Exit.then (JoinD n F' (ExJ Q B g g3 g4 n m bs T cs w)) Q) n F wc)(hy:∀I w2,ExJ Q B g g3 g4 n m bs T cs w I w2→ @Cd I P y Q n F' w2):Cd P (.seq x y) Q n F wc:=Cd.seqD F' _ hx hy
theorem exprW_any (N:Nat):∀(e:Ex) (B g:Nat) (bs:List Nat) (v:Value) (least:Int) (w:World),e.nodes≤N→e.nodes≤200→builtB e=true→Rep w B e v→Bw w B g bs→I64 least→bs.length+100000*e.depth≤100000000→
  Calls Tryz.prog 40 #[.pointer (some ⟨g,0,none⟩),v, .int .i64 least] w (WrRet B g (bs++inT e least) w):=by
 induction N with
 |zero=>intro e B g bs v least w hN;have:=e.nodes_pos;omega
 |succ N ih=>
 intro e B g bs v least w hN h200 hbt hrep hbw hleast hbs
 obtain⟨A,c,rfl,hv⟩:=hrep.open
 have hbd:=exprT_bd e.nodes e (Nat.le_refl _) hbt
 obtain⟨hh,hargs⟩:=builtB_inv hbt
 obtain⟨h1,h2,h3,h4,h5,h6⟩:=headB_inv hh
 obtain⟨o1,o2,o3,o4,o5,o6⟩:=arity_op h1
 obtain⟨b1,b2,b3,b4⟩:=bindT_len e.op
 have hBW:=hbw.size
 have hT:=exprT_eq e
 unfold headT at hT
 have hrec:RecW B g (bs.length+60000) w e A:=fun i x hx=>by
  obtain⟨ad,A',c',e1,e2,e3,e4⟩:=hv.arg i x hx
  have hmem:=List.mem_of_getElem? hx
  have hnd:=Ex.arg_nodes hmem
  have hdp:=Ex.arg_depth hmem
  have hbx:=hargs x hmem
  exact⟨ad,A',c',e1,fun W hb j u hu=>(hb.cell (by rw[block_of_add,block_of_add];omega)).trans (e4 j u hu),fun W bs' least hb hwr hls hlen=>ih x B g bs' _ least W (by omega) (by omega) hbx (e3.below hb) hwr hls (by omega)⟩
 have hjl:(joinT (e.args.map exprT)).length≤20000:=by
  have:=joinT_len e.args fun z hz=>(exprT_bd z.nodes z (Nat.le_refl _) (hargs z hz)).1
  have hn:e.nodes=1+nodesL e.args:=by cases e;exact Ex.nodes_mk _ _ _ _
  have:e.args.length≤3:=by omega
  omega
 have hl3:e.args.length≤3:=by omega
 have wt:=Wt.refl B w
 have wr:=hbw
 refine Calls.startD 114 Tryz.func40 rfl rfl rfl ?_
 refine Zsr ?_
 refine Seq.box rfl rfl rfl rfl rfl ?_
 intro g3 w1 n3
 replace wt:=wt.step n3.below
 replace wr:=wr.step n3.below
 have k3:=n3.blk
 refine Seq.box rfl rfl rfl rfl rfl ?_
 intro g4 w2 n4
 have l4:=Nat.lt_of_lt_of_le k3.lt n4.ge
 replace wt:=wt.step n4.below
 replace wr:=wr.step n4.below
 replace k3:=k3.step n4.below
 have k4:=n4.blk
 refine Zk5 0 1 2 3 4 (Ztq ?_)
 refine Zf 0 Tryz.underlying35 ?_
 refine Zv (Runs.loadB rfl rfl Tryz.underlying3 rfl k4 rfl) ?_
 refine Zc (Ze Tryz.func81) (opSign_any e.op _) ?_
 rintro en w5 ⟨rfl,hb5⟩
 refine⟨_,rfl,?_⟩
 replace wt:=wt.step hb5
 replace wr:=wr.step hb5
 replace k3:=k3.step hb5
 replace k4:=k4.step hb5
 refine Zm ?_
 refine Zv (Runs.extract rfl rfl rfl) ?_
 refine Zv (Runs.extract rfl rfl rfl) ?_
 refine Za ?_
 refine Za ?_
 refine Zk7 0 1 2 3 4 6 7 (Zt ?_)
 refine Cd.seqE [(3, .pointer (some ⟨g3,0,none⟩)),(4, .pointer (some ⟨g4,0,none⟩)),(6, .string (strOf (bindT e.op).1)),(7, .int .i64 (bindT e.op).2)] B g g3 g4 (bs.length+1) bs (exprT e) #[.int .i64 e.op, .int .i64 e.n, .string (strOf e.name), .slice A e.args.length c] w ?_ ?_
 ·skip
  refine Zsr ?_
  refine Zm ?_
  refine Zm ?_
  refine Zv (Runs.lss rfl rfl rfl) ?_
  refine Zk8 0 1 2 3 4 6 7 18 (Zt ?_)
  refine Cd.condD rfl (fun hc=> ?_) (fun hc=> ?_)
  ·have hin:inT e least=[40]++exprT e++[41]:=by
    unfold inT parT
    rw[if_pos (show(pairT e).1<least from hc)]
    rfl
   refine Zsr ?_
   refine Zv (Runs.loadB rfl rfl Tryz.underlying83 rfl k3 rfl) ?_
   refine Zv (Runs.nilCheck rfl rfl) ?_
   refine Zf 0 Tryz.underlying129 ?_
   refine Zc (Ze Tryz.func82) ((writeS_both B g [40] bs _ wr (by decide) (by simp only[List.length_cons,List.length_nil];omega)).1) ?_
   clear wr
   rintro e w3 ⟨⟨_,rfl⟩,fw3,wr⟩
   refine⟨_,rfl,?_⟩
   replace wt:=wt.wt fw3
   replace k3:=k3.wt fw3
   replace k4:=k4.wt fw3
   refine Zk8 0 1 2 3 4 6 7 18 (Ztr ?_)
   refine Zv (Runs.loadB rfl rfl Tryz.underlying83 rfl k3 rfl) ?_
   refine Zv (Runs.nilCheck rfl rfl) ?_
   refine Zf 0 Tryz.underlying129 ?_
   refine Seq.defer_ rfl rfl rfl rfl ?_
   intro I hI
   refine Zk8 0 1 2 3 4 6 7 18 ?_
   refine Post.joinD ⟨rfl,rfl,rfl,rfl,trivial⟩ ⟨wt,k3,k4,bs++[40],wr,by simp,fun wx ex hex wtx wrx=> ?_⟩
   refine Post.endD1 hI rfl hex eg_write ((writeS_both B g [41] _ wx wrx (by decide) (by simp only[List.length_append,List.length_cons,List.length_nil];omega)).2 .returning) fun en w' hw=> ?_
   refine⟨hw.1,⟨_,rfl⟩,wtx.wt hw.2.1,?_⟩
   rw[hin]
   simpa only[List.append_assoc] using hw.2.2
  ·have hin:inT e least=exprT e:=by
    unfold inT parT
    rw[if_neg (show¬(pairT e).1<least from hc)]
    rfl
   refine Cd.skip ?_
   refine Post.joinD ⟨rfl,rfl,rfl,rfl,trivial⟩ ⟨wt,k3,k4,bs,wr,by omega,fun wx ex hex wtx wrx=> ?_⟩
   refine Post.endD0 rfl hex ?_
   rw[hin]
   exact⟨⟨_,rfl⟩,wtx,wrx⟩
 clear wt wr k3 k4
 rintro I w8 ⟨wt,k3,k4,bs0,wr,hb0,hend⟩
 have hpre:B≤w8.heap.size:=wr.size
 refine Zsr ?_
 refine Zv (Runs.makeFunc (v:= .func (.func 83) #[] #[.pointer (some ⟨g3,0,none⟩), .pointer (some ⟨g4,0,none⟩)]) rfl (show evL _ _=some [] from rfl) (show evL _ _=some [.pointer (some ⟨g3,0,none⟩), .pointer (some ⟨g4,0,none⟩)] from rfl) rfl) ?_
 refine Za ?_
 refine Zk5 3 4 6 7 8 (Ztq ?_)
 refine Zf 0 Tryz.underlying35 ?_
 refine Zv (Runs.loadB rfl rfl Tryz.underlying3 rfl k4 rfl) ?_
 refine Zk6 3 4 6 7 8 28 (Zt (Cd.block (Zsr ?_)))
 refine Zv (Runs.eqlI rfl rfl rfl) ?_
 refine Za ?_
 refine Zk7 3 4 6 7 8 28 56 (Zt ?_)
 refine Cd.condD rfl (fun c1=> ?_) (fun c1=> ?_)
 ·rw[if_pos c1] at hT
  refine Cd.draw 6 (by kernel_rfl) [] (.inl rfl) rfl Grow Grow.refl (fun _ _ _=>Grow.trans) ?_
  intro w3 hw3 zw3
  replace wt:=wt.step hw3
  replace wr:=wr.step hw3
  replace k3:=k3.step hw3
  replace k4:=k4.step hw3
  have zlt:=k4.lt
  refine Zd (fun w hG=>Runs.loadB rfl rfl Tryz.underlying83 rfl (k3.step hG) rfl) ?_
  refine Zd (fun w hG=>Runs.nilCheck rfl rfl) ?_
  refine Zd (fun w hG=>Runs.fieldB 0 rfl rfl Tryz.underlying129 rfl (by kernel_rfl)) ?_
  refine Zd (fun w hG=>Runs.fieldB 1 rfl rfl Tryz.underlying35 rfl (by kernel_rfl)) ?_
  refine Zd (fun w hG=>Runs.loadB rfl rfl Tryz.underlying2 rfl (k4.step hG) rfl) ?_
  refine Dr.callV rfl (fun w=>Ze Tryz.func86) rfl (fun w hG=>numPrintC e.n w hv.n) ?_
  refine Dr.nil ?_
  refine FinX.done (F':=[(3,_),(4,_),(6,_),(7,_),(8,_),(28,_),(56,_),(60,_),(63,_)]) rfl ⟨rfl,rfl,rfl,rfl,rfl,rfl,rfl,rfl,rfl,trivial⟩ ?_
  intro w4 hw4 fw4
  replace wt:=wt.step hw4
  replace wr:=wr.step hw4
  replace k3:=k3.step hw4
  replace k4:=k4.step hw4
  refine Zc (Ze Tryz.func82) ((writeS_both B g (numT e.n) bs0 _ wr (numT_lt _) (by have:=numT_len e.n;omega)).1) ?_
  clear wr
  rintro e w5 ⟨⟨_,rfl⟩,fw5,wr⟩
  refine⟨_,rfl,?_⟩
  replace wt:=wt.wt fw5
  replace k3:=k3.wt fw5
  replace k4:=k4.wt fw5
  refine Zk7 3 4 6 7 8 28 56 (Post.block_normal ?_)
  refine Post.weak (F':=[]) trivial ?_
  exact hend _ _ (.inr rfl) wt (by rw[hT];exact wr)
 rw[if_neg c1] at hT
 refine Zsr ?_
 refine Zv (Runs.eqlI rfl rfl rfl) ?_
 refine Za ?_
 refine Zk8 3 4 6 7 8 28 56 65 (Zt ?_)
 refine Cd.condD rfl (fun c2=> ?_) (fun c2=> ?_)
 ·rw[if_pos c2] at hT
  have hday:∀W,Calls Tryz.prog 87 #[.int .i64 e.n] W fun e1 w'=>e1= .returned (.string (strOf (dayT e.n.toNat)))∧Grow W w':=fun W=>by
   have:=dayPrint_any e.n.toNat W (by have:=h5 c2;omega)
   rwa [Int.toNat_of_nonneg h4] at this
  refine Cd.draw 6 (by kernel_rfl) [] (.inl rfl) rfl Grow Grow.refl (fun _ _ _=>Grow.trans) ?_
  intro w3 hw3 zw3
  replace wt:=wt.step hw3
  replace wr:=wr.step hw3
  replace k3:=k3.step hw3
  replace k4:=k4.step hw3
  have zlt:=k4.lt
  refine Zd (fun w hG=>Runs.loadB rfl rfl Tryz.underlying83 rfl (k3.step hG) rfl) ?_
  refine Zd (fun w hG=>Runs.nilCheck rfl rfl) ?_
  refine Zd (fun w hG=>Runs.fieldB 0 rfl rfl Tryz.underlying129 rfl (by kernel_rfl)) ?_
  refine Zd (fun w hG=>Runs.fieldB 1 rfl rfl Tryz.underlying35 rfl (by kernel_rfl)) ?_
  refine Zd (fun w hG=>Runs.loadB rfl rfl Tryz.underlying2 rfl (k4.step hG) rfl) ?_
  refine Dr.callV rfl (fun w=>Ze Tryz.func87) rfl (fun w hG=>hday w) ?_
  refine Dr.nil ?_
  refine FinX.done (F':=[(3,_),(4,_),(6,_),(7,_),(8,_),(28,_),(56,_),(65,_),(69,_),(72,_)]) rfl ⟨rfl,rfl,rfl,rfl,rfl,rfl,rfl,rfl,rfl,rfl,trivial⟩ ?_
  intro w4 hw4 fw4
  replace wt:=wt.step hw4
  replace wr:=wr.step hw4
  replace k3:=k3.step hw4
  replace k4:=k4.step hw4
  refine Zc (Ze Tryz.func82) ((writeS_both B g (dayT e.n.toNat) bs0 _ wr (dayT_lt _) (by have:=dayT_len e.n.toNat;omega)).1) ?_
  clear wr
  rintro e w5 ⟨⟨_,rfl⟩,fw5,wr⟩
  refine⟨_,rfl,?_⟩
  replace wt:=wt.wt fw5
  replace k3:=k3.wt fw5
  replace k4:=k4.wt fw5
  refine Zk8 3 4 6 7 8 28 56 65 (Post.block_normal ?_)
  refine Post.weak (F':=[]) trivial ?_
  exact hend _ _ (.inr rfl) wt (by rw[hT];exact wr)
 rw[if_neg c2] at hT
 refine Zsr ?_
 refine Zv (Runs.eqlI rfl rfl rfl) ?_
 refine Za ?_
 refine Zk9 3 4 6 7 8 28 56 65 74 (Zt ?_)
 refine Cd.condD rfl (fun c3=> ?_) (fun c3=> ?_)
 ·rw[if_pos c3] at hT
  refine Cd.draw 5 (by kernel_rfl) [] (.inl rfl) rfl Grow Grow.refl (fun _ _ _=>Grow.trans) ?_
  intro w3 hw3 zw3
  replace wt:=wt.step hw3
  replace wr:=wr.step hw3
  replace k3:=k3.step hw3
  replace k4:=k4.step hw3
  have zlt:=k4.lt
  refine Zd (fun w hG=>Runs.loadB rfl rfl Tryz.underlying83 rfl (k3.step hG) rfl) ?_
  refine Zd (fun w hG=>Runs.nilCheck rfl rfl) ?_
  refine Zd (fun w hG=>Runs.fieldB 0 rfl rfl Tryz.underlying129 rfl (by kernel_rfl)) ?_
  refine Zd (fun w hG=>Runs.fieldB 2 rfl rfl Tryz.underlying35 rfl (by kernel_rfl)) ?_
  refine Zd (fun w hG=>Runs.loadB rfl rfl Tryz.underlying9 rfl (k4.step hG) rfl) ?_
  refine Dr.nil ?_
  refine FinX.done (F':=[(3,_),(4,_),(6,_),(7,_),(8,_),(28,_),(56,_),(65,_),(74,_),(78,_),(80,_)]) rfl ⟨rfl,rfl,rfl,rfl,rfl,rfl,rfl,rfl,rfl,rfl,rfl,trivial⟩ ?_
  intro w4 hw4 fw4
  replace wt:=wt.step hw4
  replace wr:=wr.step hw4
  replace k3:=k3.step hw4
  replace k4:=k4.step hw4
  refine Zc (Ze Tryz.func82) ((writeS_both B g e.name bs0 _ wr (free_lt (h6 c3)) (by have:=free_len (h6 c3);omega)).1) ?_
  clear wr
  rintro e w5 ⟨⟨_,rfl⟩,fw5,wr⟩
  refine⟨_,rfl,?_⟩
  replace wt:=wt.wt fw5
  replace k3:=k3.wt fw5
  replace k4:=k4.wt fw5
  refine Zk9 3 4 6 7 8 28 56 65 74 (Post.block_normal ?_)
  refine Post.weak (F':=[]) trivial ?_
  exact hend _ _ (.inr rfl) wt (by rw[hT];exact wr)
 rw[if_neg c3] at hT
 refine Zsr ?_
 refine Zv (Runs.eqlI rfl rfl rfl) ?_
 refine Za ?_
 refine Zk10 3 4 6 7 8 28 56 65 74 82 (Zt ?_)
 refine Cd.condD rfl (fun c4=> ?_) (fun c4=> ?_)
 ·rw[if_pos c4] at hT
  refine Zr ?_
  refine Zv (Runs.loadB rfl rfl Tryz.underlying83 rfl k3 rfl) ?_
  refine Zv (Runs.nilCheck rfl rfl) ?_
  refine Zf 0 Tryz.underlying129 ?_
  refine Zc (Ze Tryz.func82) ((writeS_both B g [100,97,121] bs0 _ wr (by decide) (by simp only[List.length_cons,List.length_nil];omega)).1) ?_
  clear wr
  rintro e w3 ⟨⟨_,rfl⟩,fw3,wr⟩
  refine⟨_,rfl,?_⟩
  replace wt:=wt.wt fw3
  replace k3:=k3.wt fw3
  replace k4:=k4.wt fw3
  refine Zk10 3 4 6 7 8 28 56 65 74 82 (Post.block_normal ?_)
  refine Post.weak (F':=[]) trivial ?_
  exact hend _ _ (.inr rfl) wt (by rw[hT];exact wr)
 rw[if_neg c4] at hT
 refine Zsr ?_
 refine Zv (Runs.eqlI rfl rfl rfl) ?_
 refine Za ?_
 refine Zk11 3 4 6 7 8 28 56 65 74 82 88 (Zt ?_)
 refine Cd.condD rfl (fun c9=> ?_) (fun c9=> ?_)
 ·have hb:bindT e.op=([],7):=by rw[c9];rfl
  rw[if_neg (by rw[hb];decide),if_neg (by rw[hb];decide),if_neg (by rw[hb];decide),if_pos c9,snd_pairT] at hT
  refine Zr ?_
  refine Zm ?_
  refine Seq.call (Enters.value (first:=[]) (cap:=[.pointer (some ⟨g3,0,none⟩), .pointer (some ⟨g4,0,none⟩)]) rfl rfl rfl eg_args) rfl rfl rfl (exprArgs_of B g (bs.length+60000) g3 g4 c A e [109,105,110] bs0 w _ hrec (wt.to hBW) k3 k4 wr (by omega) (by omega) (by decide) (by decide) hargs (by omega) hjl) ?_
  clear wr
  rintro en w9 ⟨⟨_,rfl⟩,f9,wr⟩
  refine⟨_,rfl,?_⟩
  replace wt:=wt.wt f9
  refine Zk11 3 4 6 7 8 28 56 65 74 82 88 (Post.block_normal ?_)
  refine Post.weak (F':=[]) trivial ?_
  exact hend _ _ (.inr rfl) wt (by rw[hT];simpa only[List.append_assoc,List.cons_append,List.nil_append] using wr)
 refine Zsr ?_
 refine Zv (Runs.eqlI rfl rfl rfl) ?_
 refine Za ?_
 refine Zk12 3 4 6 7 8 28 56 65 74 82 88 92 (Zt ?_)
 refine Cd.condD rfl (fun c10=> ?_) (fun c10=> ?_)
 ·have hb:bindT e.op=([],7):=by rw[c10];rfl
  rw[if_neg (by rw[hb];decide),if_neg (by rw[hb];decide),if_neg (by rw[hb];decide),if_neg c9,if_pos c10,snd_pairT] at hT
  refine Zr ?_
  refine Zm ?_
  refine Seq.call (Enters.value (first:=[]) (cap:=[.pointer (some ⟨g3,0,none⟩), .pointer (some ⟨g4,0,none⟩)]) rfl rfl rfl eg_args) rfl rfl rfl (exprArgs_of B g (bs.length+60000) g3 g4 c A e [109,97,120] bs0 w _ hrec (wt.to hBW) k3 k4 wr (by omega) (by omega) (by decide) (by decide) hargs (by omega) hjl) ?_
  clear wr
  rintro en w9 ⟨⟨_,rfl⟩,f9,wr⟩
  refine⟨_,rfl,?_⟩
  replace wt:=wt.wt f9
  refine Zk12 3 4 6 7 8 28 56 65 74 82 88 92 (Post.block_normal ?_)
  refine Post.weak (F':=[]) trivial ?_
  exact hend _ _ (.inr rfl) wt (by rw[hT];simpa only[List.append_assoc,List.cons_append,List.nil_append] using wr)
 refine Zsr ?_
 refine Zv (Runs.eqlI rfl rfl rfl) ?_
 refine Za ?_
 refine Zk13 3 4 6 7 8 28 56 65 74 82 88 92 96 (Zt ?_)
 refine Cd.condD rfl (fun c21=> ?_) (fun c21=> ?_)
 ·have hb:bindT e.op=([],7):=by rw[c21];rfl
  rw[if_neg (by rw[hb];decide),if_neg (by rw[hb];decide),if_neg (by rw[hb];decide),if_neg c9,if_neg c10,snd_pairT] at hT
  refine Zr ?_
  refine Zm ?_
  refine Seq.call (Enters.value (first:=[]) (cap:=[.pointer (some ⟨g3,0,none⟩), .pointer (some ⟨g4,0,none⟩)]) rfl rfl rfl eg_args) rfl rfl rfl (exprArgs_of B g (bs.length+60000) g3 g4 c A e [105,102] bs0 w _ hrec (wt.to hBW) k3 k4 wr (by omega) (by omega) (by decide) (by decide) hargs (by omega) hjl) ?_
  clear wr
  rintro en w9 ⟨⟨_,rfl⟩,f9,wr⟩
  refine⟨_,rfl,?_⟩
  replace wt:=wt.wt f9
  refine Zk13 3 4 6 7 8 28 56 65 74 82 88 92 96 (Post.block_normal ?_)
  refine Post.weak (F':=[]) trivial ?_
  exact hend _ _ (.inr rfl) wt (by rw[hT];simpa only[List.append_assoc,List.cons_append,List.nil_append] using wr)
 refine Cd.seq (Zsr ?_)
 refine Zv (Runs.eqlI rfl rfl rfl) ?_
 refine Za ?_
 refine Zk14 3 4 6 7 8 28 56 65 74 82 88 92 96 100 (Zt ?_)
 refine Cd.condD rfl (fun c19=> ?_) (fun c19=> ?_)
 ·skip
  refine Cd.skip (Zt ?_)
  refine Cd.condT rfl (decide_eq_true c19) ?_
  have hb:(bindT e.op).2=6:=by rw[c19];rfl
  have hlen1:e.args.length=1:=o5 (by omega)
  obtain⟨x,hx⟩:∃x,e.args=[x]:=List.length_eq_one_iff.1 hlen1
  obtain⟨ad,A0,A0',rfl,hcx,hcallx⟩:=hrec 0 x (by rw[hx];rfl)
  rw[if_pos hb,hx,show([x].map pairT).getD 0 (7,[])=pairT x from rfl] at hT
  refine Zsr ?_
  refine Zv (Runs.loadB rfl rfl Tryz.underlying83 rfl k3 rfl) ?_
  refine Zv (Runs.nilCheck rfl rfl) ?_
  refine Zf 0 Tryz.underlying129 ?_
  refine Zm ?_
  refine Zc (Ze Tryz.func82) ((writeS_both B g (bindT e.op).1 bs0 _ wr b2 (by omega)).1) ?_
  clear wr
  rintro e w3 ⟨⟨_,rfl⟩,fw3,wr⟩
  refine⟨_,rfl,?_⟩
  replace wt:=wt.wt fw3
  replace k3:=k3.wt fw3
  replace k4:=k4.wt fw3
  refine Zk14 3 4 6 7 8 28 56 65 74 82 88 92 96 100 (Zt ?_)
  refine Cd.draw 5 (by kernel_rfl) [] (.inl rfl) rfl Grow Grow.refl (fun _ _ _=>Grow.trans) ?_
  intro w4 hw4 zw4
  replace wt:=wt.step hw4
  replace wr:=wr.step hw4
  replace k3:=k3.step hw4
  replace k4:=k4.step hw4
  have zlt:=k4.lt
  refine Zd (fun w hG=>Runs.loadB rfl rfl Tryz.underlying83 rfl (k3.step hG) rfl) ?_
  refine Zd (fun w hG=>Runs.fieldB 3 rfl rfl Tryz.underlying35 rfl (by kernel_rfl)) ?_
  refine Zd (fun w hG=>Runs.loadB rfl rfl Tryz.underlying22 rfl (k4.step hG) rfl) ?_
  refine Zd (fun w hG=>Runs.indexN rfl rfl rfl Tryz.underlying22 (s:=4) (by kernel_rfl) (j:=0) rfl (by omega)) ?_
  refine Zd (fun w hG=>Runs.loadF (ps:=[.int .i64 x.op, .int .i64 x.n, .string (strOf x.name), .slice A0 x.args.length A0']) rfl rfl Tryz.underlying35 rfl (m:=4) (by kernel_rfl) rfl (hcx _ ((wt.to hBW).trans (hG.mono wr.size)))) ?_
  refine Dr.nil ?_
  refine FinX.done (F':=[(3,_),(4,_),(6,_),(7,_),(8,_),(28,_),(56,_),(65,_),(74,_),(82,_),(88,_),(92,_),(96,_),(100,_),(108,_),(112,_)]) rfl ⟨rfl,rfl,rfl,rfl,rfl,rfl,rfl,rfl,rfl,rfl,rfl,rfl,rfl,rfl,rfl,rfl,trivial⟩ ?_
  intro w5 hw5 fw5
  replace wt:=wt.step hw5
  replace wr:=wr.step hw5
  replace k3:=k3.step hw5
  replace k4:=k4.step hw5
  refine Zc (Ze Tryz.func40) (hcallx _ _ 6 (wt.to hBW) wr (by unfold I64;omega) (by rw[List.length_append];omega)) ?_
  clear wr
  rintro e w6 ⟨⟨_,rfl⟩,fw6,wr⟩
  refine⟨_,rfl,?_⟩
  replace wt:=wt.wt fw6
  refine Zk14 3 4 6 7 8 28 56 65 74 82 88 92 96 100 (Post.block_normal ?_)
  refine Post.weak (F':=[]) trivial ?_
  exact hend _ _ (.inr rfl) wt (by rw[hT];simpa only[List.append_assoc,inT] using wr)
 refine Zr ?_
 refine Zv (Runs.eqlI rfl rfl rfl) ?_
 refine Za ?_
 refine Zk14 3 4 6 7 8 28 56 65 74 82 88 92 96 100 (Zt ?_)
 refine Cd.condD rfl (fun c20=> ?_) (fun c20=> ?_)
 ·skip
  have hb:(bindT e.op).2=6:=by rw[c20];rfl
  have hlen1:e.args.length=1:=o5 (by omega)
  obtain⟨x,hx⟩:∃x,e.args=[x]:=List.length_eq_one_iff.1 hlen1
  obtain⟨ad,A0,A0',rfl,hcx,hcallx⟩:=hrec 0 x (by rw[hx];rfl)
  rw[if_pos hb,hx,show([x].map pairT).getD 0 (7,[])=pairT x from rfl] at hT
  refine Zsr ?_
  refine Zv (Runs.loadB rfl rfl Tryz.underlying83 rfl k3 rfl) ?_
  refine Zv (Runs.nilCheck rfl rfl) ?_
  refine Zf 0 Tryz.underlying129 ?_
  refine Zm ?_
  refine Zc (Ze Tryz.func82) ((writeS_both B g (bindT e.op).1 bs0 _ wr b2 (by omega)).1) ?_
  clear wr
  rintro e w3 ⟨⟨_,rfl⟩,fw3,wr⟩
  refine⟨_,rfl,?_⟩
  replace wt:=wt.wt fw3
  replace k3:=k3.wt fw3
  replace k4:=k4.wt fw3
  refine Zk14 3 4 6 7 8 28 56 65 74 82 88 92 96 100 (Zt ?_)
  refine Cd.draw 5 (by kernel_rfl) [] (.inl rfl) rfl Grow Grow.refl (fun _ _ _=>Grow.trans) ?_
  intro w4 hw4 zw4
  replace wt:=wt.step hw4
  replace wr:=wr.step hw4
  replace k3:=k3.step hw4
  replace k4:=k4.step hw4
  have zlt:=k4.lt
  refine Zd (fun w hG=>Runs.loadB rfl rfl Tryz.underlying83 rfl (k3.step hG) rfl) ?_
  refine Zd (fun w hG=>Runs.fieldB 3 rfl rfl Tryz.underlying35 rfl (by kernel_rfl)) ?_
  refine Zd (fun w hG=>Runs.loadB rfl rfl Tryz.underlying22 rfl (k4.step hG) rfl) ?_
  refine Zd (fun w hG=>Runs.indexN rfl rfl rfl Tryz.underlying22 (s:=4) (by kernel_rfl) (j:=0) rfl (by omega)) ?_
  refine Zd (fun w hG=>Runs.loadF (ps:=[.int .i64 x.op, .int .i64 x.n, .string (strOf x.name), .slice A0 x.args.length A0']) rfl rfl Tryz.underlying35 rfl (m:=4) (by kernel_rfl) rfl (hcx _ ((wt.to hBW).trans (hG.mono wr.size)))) ?_
  refine Dr.nil ?_
  refine FinX.done (F':=[(3,_),(4,_),(6,_),(7,_),(8,_),(28,_),(56,_),(65,_),(74,_),(82,_),(88,_),(92,_),(96,_),(100,_),(108,_),(112,_)]) rfl ⟨rfl,rfl,rfl,rfl,rfl,rfl,rfl,rfl,rfl,rfl,rfl,rfl,rfl,rfl,rfl,rfl,trivial⟩ ?_
  intro w5 hw5 fw5
  replace wt:=wt.step hw5
  replace wr:=wr.step hw5
  replace k3:=k3.step hw5
  replace k4:=k4.step hw5
  refine Zc (Ze Tryz.func40) (hcallx _ _ 6 (wt.to hBW) wr (by unfold I64;omega) (by rw[List.length_append];omega)) ?_
  clear wr
  rintro e w6 ⟨⟨_,rfl⟩,fw6,wr⟩
  refine⟨_,rfl,?_⟩
  replace wt:=wt.wt fw6
  refine Zk14 3 4 6 7 8 28 56 65 74 82 88 92 96 100 (Post.block_normal ?_)
  refine Post.weak (F':=[]) trivial ?_
  exact hend _ _ (.inr rfl) wt (by rw[hT];simpa only[List.append_assoc,inT] using wr)
 have hop:e.op=5∨e.op=6∨e.op=7∨e.op=8∨e.op=11∨e.op=12∨e.op=13∨e.op=14∨e.op=15∨e.op=16∨e.op=17∨e.op=18:=by omega
 have hp:(bindT e.op).2<6:=by rcases hop with h|h|h|h|h|h|h|h|h|h|h|h<;>rw[h]<;>decide
 have hlen2:e.args.length=2:=o4 (by omega) (by omega)
 obtain⟨x,y,hxy⟩:∃x y,e.args=[x,y]:=by
  cases h:e.args with
  |nil=>rw[h] at hlen2;simp at hlen2
  |cons x r=>cases r with
   |nil=>rw[h] at hlen2;simp at hlen2
   |cons y r=>cases r with
    |nil=>exact⟨x,y,rfl⟩
    |cons z r=>rw[h] at hlen2;simp at hlen2
 obtain⟨ad,A0,A0',rfl,hcx,hcallx⟩:=hrec 0 x (by rw[hxy];rfl)
 obtain⟨ad',A1,A1',had,hcy,hcally⟩:=hrec 1 y (by rw[hxy];rfl)
 injection had with had
 subst had
 have hil:∀l,(inT x l).length≤20000:=fun l=>by
  have h1:=(parT_len l (pairT x)).1
  have e1:(pairT x).2=exprT x:=rfl
  have h2:=(exprT_bd x.nodes x (Nat.le_refl _) (hargs x (by rw[hxy];exact List.mem_cons_self))).1
  have h3:x.nodes<e.nodes:=Ex.arg_nodes (by rw[hxy];exact List.mem_cons_self)
  rw[e1] at h1
  unfold inT
  omega
 rw[if_neg (by omega),hxy,show([x,y].map pairT).getD 0 (7,[])=pairT x from rfl,show([x,y].map pairT).getD 1 (7,[])=pairT y from rfl] at hT
 refine Zsr ?_
 refine Zm ?_
 refine Za ?_
 refine Zk15 3 4 6 7 8 9 28 56 65 74 82 88 92 96 100 (Zts (Zsr ?_))
 refine Zm ?_
 refine Zv (Runs.eqlI rfl rfl rfl) ?_
 refine Zk16 3 4 6 7 8 9 28 31 56 65 74 82 88 92 96 100 (Zt ?_)
 refine Cd.condD rfl (fun c3'=> ?_) (fun c3'=> ?_)
 ·rw[if_pos c3',show(4:Int)=(bindT e.op).2+1 by omega] at hT
  refine Zr ?_
  refine Zm ?_
  refine Za_ ?_
  refine Za ?_
  refine Zk16 3 4 6 7 8 9 28 31 56 65 74 82 88 92 96 100 (Zts ?_)
  refine Cd.draw 6 (by kernel_rfl) [] (.inl rfl) rfl Grow Grow.refl (fun _ _ _=>Grow.trans) ?_
  intro w3 hw3 zw3
  replace wt:=wt.step hw3
  replace wr:=wr.step hw3
  replace k3:=k3.step hw3
  replace k4:=k4.step hw3
  have zlt:=k4.lt
  refine Zd (fun w hG=>Runs.loadB rfl rfl Tryz.underlying83 rfl (k3.step hG) rfl) ?_
  refine Zd (fun w hG=>Runs.fieldB 3 rfl rfl Tryz.underlying35 rfl (by kernel_rfl)) ?_
  refine Zd (fun w hG=>Runs.loadB rfl rfl Tryz.underlying22 rfl (k4.step hG) rfl) ?_
  refine Zd (fun w hG=>Runs.indexN rfl rfl rfl Tryz.underlying22 (s:=4) (by kernel_rfl) (j:=0) rfl (by omega)) ?_
  refine Zd (fun w hG=>Runs.loadF (ps:=[.int .i64 x.op, .int .i64 x.n, .string (strOf x.name), .slice A0 x.args.length A0']) rfl rfl Tryz.underlying35 rfl (m:=4) (by kernel_rfl) rfl (hcx _ ((wt.to hBW).trans (hG.mono wr.size)))) ?_
  refine Zdm ?_
  refine Dr.nil ?_
  refine FinX.done (F':=[(3,_),(4,_),(6,_),(7,_),(8,_),(9,_),(28,_),(31,_),(34,_),(38,_),(39,_),(56,_),(65,_),(74,_),(82,_),(88,_),(92,_),(96,_),(100,_)]) rfl ⟨rfl,rfl,rfl,rfl,rfl,rfl,rfl,rfl,rfl,rfl,rfl,rfl,rfl,rfl,rfl,rfl,rfl,rfl,rfl,trivial⟩ ?_
  intro w4 hw4 fw4
  replace wt:=wt.step hw4
  replace wr:=wr.step hw4
  replace k3:=k3.step hw4
  replace k4:=k4.step hw4
  refine Zc (Ze Tryz.func40) (hcallx _ _ ((bindT e.op).2+1) (wt.to hBW) wr (by unfold I64;omega) (by omega)) ?_
  clear wr
  rintro e w5 ⟨⟨_,rfl⟩,fw5,wr⟩
  refine⟨_,rfl,?_⟩
  replace wt:=wt.wt fw5
  replace k3:=k3.wt fw5
  replace k4:=k4.wt fw5
  refine Zk16 3 4 6 7 8 9 28 31 56 65 74 82 88 92 96 100 (Ztq ?_)
  refine Zv (Runs.loadB rfl rfl Tryz.underlying83 rfl k3 rfl) ?_
  refine Zv (Runs.nilCheck rfl rfl) ?_
  refine Zf 0 Tryz.underlying129 ?_
  refine Zm ?_
  refine Zv (Runs.addL (a:=[32]) rfl rfl rfl (by simp only[List.length_cons,List.length_nil];omega)) ?_
  refine Zv (Runs.addL (b:=[32]) rfl rfl rfl (by simp only[List.length_append,List.length_cons,List.length_nil];omega)) ?_
  have i0:=hil ((bindT e.op).2+1)
  refine Zc (Ze Tryz.func82) ((writeS_both B g ([32]++(bindT e.op).1++[32]) _ _ wr (bt3 (by decide) b2 (by decide)) (by simp only[List.length_append,List.length_cons,List.length_nil];omega)).1) ?_
  clear wr
  rintro e w6 ⟨⟨_,rfl⟩,fw6,wr⟩
  refine⟨_,rfl,?_⟩
  replace wt:=wt.wt fw6
  replace k3:=k3.wt fw6
  replace k4:=k4.wt fw6
  refine Zk16 3 4 6 7 8 9 28 31 56 65 74 82 88 92 96 100 (Zt ?_)
  refine Cd.draw 7 (by kernel_rfl) [] (.inl rfl) rfl Grow Grow.refl (fun _ _ _=>Grow.trans) ?_
  intro w7 hw7 zw7
  replace wt:=wt.step hw7
  replace wr:=wr.step hw7
  replace k3:=k3.step hw7
  replace k4:=k4.step hw7
  have zlt:=k4.lt
  refine Zd (fun w hG=>Runs.loadB rfl rfl Tryz.underlying83 rfl (k3.step hG) rfl) ?_
  refine Zd (fun w hG=>Runs.fieldB 3 rfl rfl Tryz.underlying35 rfl (by kernel_rfl)) ?_
  refine Zd (fun w hG=>Runs.loadB rfl rfl Tryz.underlying22 rfl (k4.step hG) rfl) ?_
  refine Zd (fun w hG=>Runs.indexN rfl rfl rfl Tryz.underlying22 (s:=4) (by kernel_rfl) (j:=1) rfl (by omega)) ?_
  refine Zd (fun w hG=>Runs.loadF (ps:=[.int .i64 y.op, .int .i64 y.n, .string (strOf y.name), .slice A1 y.args.length A1']) rfl rfl Tryz.underlying35 rfl (m:=4) (by kernel_rfl) rfl (hcy _ ((wt.to hBW).trans (hG.mono wr.size)))) ?_
  refine Zdm ?_
  refine Zd (fun w hG=>Runs.addI rfl rfl rfl (by omega) (by omega)) ?_
  refine Dr.nil ?_
  refine FinX.done (F':=[(3,_),(4,_),(6,_),(7,_),(8,_),(9,_),(28,_),(31,_),(48,_),(52,_),(54,_),(56,_),(65,_),(74,_),(82,_),(88,_),(92,_),(96,_),(100,_)]) rfl ⟨rfl,rfl,rfl,rfl,rfl,rfl,rfl,rfl,rfl,rfl,rfl,rfl,rfl,rfl,rfl,rfl,rfl,rfl,rfl,trivial⟩ ?_
  intro w8 hw8 fw8
  replace wt:=wt.step hw8
  replace wr:=wr.step hw8
  replace k3:=k3.step hw8
  replace k4:=k4.step hw8
  refine Zc (Ze Tryz.func40) (hcally _ _ ((bindT e.op).2+1) (wt.to hBW) wr (by unfold I64;omega) (by simp only[List.length_append,List.length_cons,List.length_nil];omega)) ?_
  clear wr
  rintro e w9 ⟨⟨_,rfl⟩,fw9,wr⟩
  refine⟨_,rfl,?_⟩
  replace wt:=wt.wt fw9
  refine Zk16 3 4 6 7 8 9 28 31 56 65 74 82 88 92 96 100 (Post.block_normal ?_)
  refine Post.weak (F':=[]) trivial ?_
  exact hend _ _ (.inr rfl) wt (by rw[hT];simpa only[List.append_assoc,inT] using wr)
 ·rw[if_neg c3',if_pos hp] at hT
  refine Cd.skip (Zts ?_)
  refine Cd.draw 6 (by kernel_rfl) [] (.inl rfl) rfl Grow Grow.refl (fun _ _ _=>Grow.trans) ?_
  intro w3 hw3 zw3
  replace wt:=wt.step hw3
  replace wr:=wr.step hw3
  replace k3:=k3.step hw3
  replace k4:=k4.step hw3
  have zlt:=k4.lt
  refine Zd (fun w hG=>Runs.loadB rfl rfl Tryz.underlying83 rfl (k3.step hG) rfl) ?_
  refine Zd (fun w hG=>Runs.fieldB 3 rfl rfl Tryz.underlying35 rfl (by kernel_rfl)) ?_
  refine Zd (fun w hG=>Runs.loadB rfl rfl Tryz.underlying22 rfl (k4.step hG) rfl) ?_
  refine Zd (fun w hG=>Runs.indexN rfl rfl rfl Tryz.underlying22 (s:=4) (by kernel_rfl) (j:=0) rfl (by omega)) ?_
  refine Zd (fun w hG=>Runs.loadF (ps:=[.int .i64 x.op, .int .i64 x.n, .string (strOf x.name), .slice A0 x.args.length A0']) rfl rfl Tryz.underlying35 rfl (m:=4) (by kernel_rfl) rfl (hcx _ ((wt.to hBW).trans (hG.mono wr.size)))) ?_
  refine Zdm ?_
  refine Dr.nil ?_
  refine FinX.done (F':=[(3,_),(4,_),(6,_),(7,_),(8,_),(9,_),(28,_),(31,_),(34,_),(38,_),(39,_),(56,_),(65,_),(74,_),(82,_),(88,_),(92,_),(96,_),(100,_)]) rfl ⟨rfl,rfl,rfl,rfl,rfl,rfl,rfl,rfl,rfl,rfl,rfl,rfl,rfl,rfl,rfl,rfl,rfl,rfl,rfl,trivial⟩ ?_
  intro w4 hw4 fw4
  replace wt:=wt.step hw4
  replace wr:=wr.step hw4
  replace k3:=k3.step hw4
  replace k4:=k4.step hw4
  refine Zc (Ze Tryz.func40) (hcallx _ _ (bindT e.op).2 (wt.to hBW) wr (by unfold I64;omega) (by omega)) ?_
  clear wr
  rintro e w5 ⟨⟨_,rfl⟩,fw5,wr⟩
  refine⟨_,rfl,?_⟩
  replace wt:=wt.wt fw5
  replace k3:=k3.wt fw5
  replace k4:=k4.wt fw5
  refine Zk16 3 4 6 7 8 9 28 31 56 65 74 82 88 92 96 100 (Ztq ?_)
  refine Zv (Runs.loadB rfl rfl Tryz.underlying83 rfl k3 rfl) ?_
  refine Zv (Runs.nilCheck rfl rfl) ?_
  refine Zf 0 Tryz.underlying129 ?_
  refine Zm ?_
  refine Zv (Runs.addL (a:=[32]) rfl rfl rfl (by simp only[List.length_cons,List.length_nil];omega)) ?_
  refine Zv (Runs.addL (b:=[32]) rfl rfl rfl (by simp only[List.length_append,List.length_cons,List.length_nil];omega)) ?_
  have i0:=hil (bindT e.op).2
  refine Zc (Ze Tryz.func82) ((writeS_both B g ([32]++(bindT e.op).1++[32]) _ _ wr (bt3 (by decide) b2 (by decide)) (by simp only[List.length_append,List.length_cons,List.length_nil];omega)).1) ?_
  clear wr
  rintro e w6 ⟨⟨_,rfl⟩,fw6,wr⟩
  refine⟨_,rfl,?_⟩
  replace wt:=wt.wt fw6
  replace k3:=k3.wt fw6
  replace k4:=k4.wt fw6
  refine Zk16 3 4 6 7 8 9 28 31 56 65 74 82 88 92 96 100 (Zt ?_)
  refine Cd.draw 7 (by kernel_rfl) [] (.inl rfl) rfl Grow Grow.refl (fun _ _ _=>Grow.trans) ?_
  intro w7 hw7 zw7
  replace wt:=wt.step hw7
  replace wr:=wr.step hw7
  replace k3:=k3.step hw7
  replace k4:=k4.step hw7
  have zlt:=k4.lt
  refine Zd (fun w hG=>Runs.loadB rfl rfl Tryz.underlying83 rfl (k3.step hG) rfl) ?_
  refine Zd (fun w hG=>Runs.fieldB 3 rfl rfl Tryz.underlying35 rfl (by kernel_rfl)) ?_
  refine Zd (fun w hG=>Runs.loadB rfl rfl Tryz.underlying22 rfl (k4.step hG) rfl) ?_
  refine Zd (fun w hG=>Runs.indexN rfl rfl rfl Tryz.underlying22 (s:=4) (by kernel_rfl) (j:=1) rfl (by omega)) ?_
  refine Zd (fun w hG=>Runs.loadF (ps:=[.int .i64 y.op, .int .i64 y.n, .string (strOf y.name), .slice A1 y.args.length A1']) rfl rfl Tryz.underlying35 rfl (m:=4) (by kernel_rfl) rfl (hcy _ ((wt.to hBW).trans (hG.mono wr.size)))) ?_
  refine Zdm ?_
  refine Zd (fun w hG=>Runs.addI rfl rfl rfl (by omega) (by omega)) ?_
  refine Dr.nil ?_
  refine FinX.done (F':=[(3,_),(4,_),(6,_),(7,_),(8,_),(9,_),(28,_),(31,_),(48,_),(52,_),(54,_),(56,_),(65,_),(74,_),(82,_),(88,_),(92,_),(96,_),(100,_)]) rfl ⟨rfl,rfl,rfl,rfl,rfl,rfl,rfl,rfl,rfl,rfl,rfl,rfl,rfl,rfl,rfl,rfl,rfl,rfl,rfl,trivial⟩ ?_
  intro w8 hw8 fw8
  replace wt:=wt.step hw8
  replace wr:=wr.step hw8
  replace k3:=k3.step hw8
  replace k4:=k4.step hw8
  refine Zc (Ze Tryz.func40) (hcally _ _ ((bindT e.op).2+1) (wt.to hBW) wr (by unfold I64;omega) (by simp only[List.length_append,List.length_cons,List.length_nil];omega)) ?_
  clear wr
  rintro e w9 ⟨⟨_,rfl⟩,fw9,wr⟩
  refine⟨_,rfl,?_⟩
  replace wt:=wt.wt fw9
  refine Zk16 3 4 6 7 8 9 28 31 56 65 74 82 88 92 96 100 (Post.block_normal ?_)
  refine Post.weak (F':=[]) trivial ?_
  exact hend _ _ (.inr rfl) wt (by rw[hT];simpa only[List.append_assoc,inT] using wr)
end Go.Proofs.YtaamkfajnpobfaaGreat
namespace Go.Proofs.YtaamkfajnpobfaaGreat
open Go.RowKit
def prText (right:Bool)(T:List Nat):List Nat × Int:=if right=false then([],1) else if 4000<T.length then([],4) else(T,0)
theorem run_build_writer (w:World):(Instr.build 129 #[]).run Tryz.prog w= .ok (.agg #[.pointer none, .slice none 0 0]) w:=by kernel_rfl
theorem printed_any (right:Bool)(T:List Nat)(f:Nat)(cp:List Value)(w:World)(eg:∀args w,(callFunc f args).run Tryz.prog w= .ok (.enter f args) w)(hTl:T.length≤1000000)
  (hw:right=true→∀W g,Below w.heap.size w W→Bw W w.heap.size g []→Calls Tryz.prog f ([]++[Value.pointer (some ⟨g,0,none⟩)]++cp).toArray W (WrRet w.heap.size g T W)):
  Calls Tryz.prog 38 #[.bool right, .func (.func f) #[] cp.toArray] w fun e w'=>e= .returned (.tuple #[.string (strOf (prText right T).1), .int .i64 (prText right T).2])∧Grow w w':=by
 have bel:=Below.refl w.heap.size w
 unfold prText
 refine Zs 23 Tryz.func38 ?_
 refine Zsr ?_
 refine Za ?_
 refine Za ?_
 refine Zk4 0 1 4 5 (Zts (Zsr ?_))
 refine Zm ?_
 refine Zv (Runs.not rfl rfl) ?_
 refine Zk5 0 1 4 5 8 (Zt ?_)
 refine Cd.cond rfl (fun hc=> ?_) (fun hc=> ?_)
 ·obtain rfl:right=false:=by simpa using hc
  refine Zsr ?_
  refine Za ?_
  refine Za ?_
  refine Zk5 0 1 4 5 8 (Zt (Cd.ret (Post.then_ret ?_)))
  refine Post.end2 rfl rfl rfl (.inl rfl) ?_
  exact⟨rfl,bel⟩
 ·obtain rfl:right=true:=by simpa using hc
  have hw:=hw rfl
  refine Cd.skip (Ztq ?_)
  refine Zv (Runs.build rfl rfl (run_build_writer _)) ?_
  refine Seq.box rfl rfl rfl rfl rfl ?_
  intro g10 w1 n10
  have e10:=Nat.le_trans bel.size n10.ge
  replace bel:=bel.step n10.below
  have k10:=n10.blk
  refine Za ?_
  refine Zk6 0 1 4 5 6 8 (Ztq ?_)
  refine Zm ?_
  refine Zm ?_
  have wr:Bw _ w.heap.size g10 []:=⟨e10,fun d hd=>(by cases hd),_,_, .inl rfl,k10,Own.nil _ _ _ _,fun _=>rfl⟩
  have wt:=Wt.grow (B:=w.heap.size) bel
  refine Seq.call (Enters.value (first:=[]) rfl rfl rfl eg) rfl rfl rfl (hw _ g10 bel wr) ?_
  clear wr
  rintro en w9 ⟨⟨_,rfl⟩,f9,wr⟩
  refine⟨_,rfl,?_⟩
  replace wt:=wt.wt f9
  refine Zk6 0 1 4 5 6 8 (Zts (Zsr ?_))
  refine Zm ?_
  refine Zv (Runs.nilCheck rfl rfl) ?_
  refine Zf 0 Tryz.underlying129 ?_
  have hBw:=wr.size
  refine Zc (Ze Tryz.func79) (blen_any w.heap.size g10 _ _ wr) ?_
  rintro en w10 ⟨rfl,hb10⟩
  refine⟨_,rfl,?_⟩
  replace wt:=wt.step hb10
  replace wr:=wr.step hb10
  refine Zv (Runs.gtr rfl rfl rfl) ?_
  refine Zk7 0 1 4 5 6 8 18 (Zt ?_)
  refine Cd.condD rfl (fun hc=> ?_) (fun hc=> ?_)
  ·skip
   refine Zsr ?_
   refine Za ?_
   refine Za ?_
   refine Zk7 0 1 4 5 6 8 18 (Zt (Cd.ret (Post.then_ret ?_)))
   refine Post.end2 rfl rfl rfl (.inl rfl) ?_
   rw[if_neg (by decide),if_pos (by omega)]
   exact⟨rfl,wt.to (Nat.le_refl _)⟩
  ·skip
   refine Cd.skip (Ztq ?_)
   refine Zm ?_
   refine Zv (Runs.nilCheck rfl rfl) ?_
   refine Zf 0 Tryz.underlying129 ?_
   refine Zc (Ze Tryz.func80) (bstring_any w.heap.size g10 _ _ wr (by omega)) ?_
   rintro en w11 ⟨rfl,hb11⟩
   refine⟨_,rfl,?_⟩
   have hfin:=(wt.to (Nat.le_refl _)).trans hb11
   refine Za ?_
   refine Za ?_
   refine Zk7 0 1 4 5 6 8 18 (Zt (Cd.ret ?_))
   refine Post.end2 rfl rfl rfl (.inl rfl) ?_
   rw[if_neg (by decide),if_neg (by omega)]
   exact⟨by simp,hfin⟩
theorem exprCall_of (e:Ex)(A:Option Addr)(B g g1 c:Nat)(w W:World)(hbt:builtB e=true)(h200:e.nodes≤200)(hrep:Rep w B (e) (.agg #[.int .i64 e.op, .int .i64 e.n, .string (strOf e.name), .slice A e.args.length c])) (hb:Below B w W) (k1:Blk W g1 35 #[.int .i64 e.op, .int .i64 e.n, .string (strOf e.name), .slice A e.args.length c]) (wr:Bw W B g []):
  Calls Tryz.prog 39 #[.pointer (some ⟨g,0,none⟩), .pointer (some ⟨g1,0,none⟩)] W (WrRet B g (exprT e) W):=by
 have hdn:=e.depth_nodes
 have hex:=exprW_any e.nodes e B g [] _ 1 W (Nat.le_refl _) h200 hbt (hrep.below hb) wr (by unfold I64;omega) (by simp only[List.length_nil];omega)
 rw[inT_one,List.nil_append] at hex
 have wt:=Wt.refl B W
 refine Zs 6 Tryz.func39 ?_
 refine Zr ?_
 refine Zm ?_
 refine Zv (Runs.loadW rfl rfl Tryz.underlying35 rfl k1 (m:=4) (by kernel_rfl) rfl) ?_
 refine Zc (Ze Tryz.func40) (hex) ?_
 clear wr
 rintro e w1 ⟨⟨_,rfl⟩,fw1,wr⟩
 refine⟨_,rfl,?_⟩
 replace wt:=wt.wt fw1
 refine Zk2 0 1 ?_
 refine Post.end0 rfl (.inr rfl) ?_
 exact⟨⟨_,rfl⟩,wt,wr⟩
theorem eg_expr1:∀args w,(callFunc 39 args).run Tryz.prog w= .ok (.enter 39 args) w:=fun args w=>run_enter Tryz.func39 (by kernel_rfl) rfl args w
def printE (e:Ex):List Nat × Int:=prText (rightB e) (exprT e)
theorem printExpr_any (e:Ex)(v:Value)(w:World)(hd:e.depth≤900)(hrep:Rep w w.heap.size e v):Calls Tryz.prog 18 #[v] w fun en w'=>en= .returned (.tuple #[.string (strOf (printE e).1), .int .i64 (printE e).2])∧Grow w w':=by
 obtain⟨A,c,rfl,hv⟩:=hrep.open
 have bel:=Below.refl w.heap.size w
 have hpr:printE e=prText (rightB e) (if rightB e=true then exprT e else []):=by
  unfold printE prText
  cases rightB e<;>rfl
 rw[hpr]
 have hre:∀W,Below w.heap.size w W→Calls Tryz.prog 32 #[.agg #[.int .i64 e.op, .int .i64 e.n, .string (strOf e.name), .slice A e.args.length c]] W fun en w'=>en= .returned (.bool (rightB e))∧Grow W w':=fun W hb=>rightExpr_any e w.heap.size _ W hd (hrep.below hb) hb.size
 have hTl:(if rightB e=true then exprT e else []).length≤1000000:=by
  split
  ·rename_i h
   unfold rightB at h
   simp at h
   have:=(exprT_bd e.nodes e (Nat.le_refl _) h.2).1
   omega
  ·simp
 refine Zs 10 Tryz.func18 ?_
 refine Zsr ?_
 refine Seq.box rfl rfl rfl rfl rfl ?_
 intro g1 w1 n1
 have e1:=Nat.le_trans bel.size n1.ge
 replace bel:=bel.step n1.below
 have k1:=n1.blk
 refine Za ?_
 refine Za ?_
 refine Zk4 0 1 2 3 (Ztq ?_)
 refine Zv (Runs.loadW rfl rfl Tryz.underlying35 rfl k1 (m:=4) (by kernel_rfl) rfl) ?_
 refine Zc (Ze Tryz.func32) (hre _ bel) ?_
 rintro en w5 ⟨rfl,hb5⟩
 refine⟨_,rfl,?_⟩
 replace bel:=bel.step hb5
 replace k1:=k1.step hb5
 refine Zv (Runs.makeFunc (v:= .func (.func 39) #[] #[.pointer (some ⟨g1,0,none⟩)]) rfl (show evL _ _=some [] from rfl) (show evL _ _=some [.pointer (some ⟨g1,0,none⟩)] from rfl) rfl) ?_
 refine Zc (Ze Tryz.func38) (printed_any (rightB e) (if rightB e=true then exprT e else []) 39 [.pointer (some ⟨g1,0,none⟩)] _ eg_expr1 hTl (fun hr W g hb hw=>by rw[if_pos hr];unfold rightB at hr;simp at hr;exact exprCall_of e A _ g g1 c _ W hr.2 hr.1.1 ((hrep.below bel).more bel.size) hb (k1.step hb) hw)) ?_
 rintro en w6 ⟨rfl,hb6⟩
 refine⟨_,rfl,?_⟩
 replace bel:=bel.step hb6
 replace k1:=k1.step hb6
 refine Zv (Runs.extract rfl rfl rfl) ?_
 refine Zv (Runs.extract rfl rfl rfl) ?_
 refine Za ?_
 refine Za ?_
 refine Zk4 0 1 2 3 (Zt (Cd.ret ?_))
 refine Post.end2 rfl rfl rfl (.inl rfl) ?_
 exact⟨rfl,bel⟩
end Go.Proofs.YtaamkfajnpobfaaGreat
namespace Go.Proofs.YtaamkfajnpobfaaGreat
open Go.RowKit
theorem Rep.two {w:World}{g:Nat}{o:Int}{a b:Ex}{va vb:Value}{cs:Array Value}(k:Blk w g 35 cs)(hcs:cs.toList=flatC [va,vb])(ho:I64 o)(ha:Rep w w.heap.size a va)(hb:Rep w w.heap.size b vb):
  Rep w w.heap.size (.mk o 0 [] [a,b]) (.agg #[.int .i64 o, .int .i64 0, .string (strOf []), .slice (some ⟨g,0,none⟩) 2 2]):=by
 refine RepE.mk (args:=[a,b]) (vs:=[va,vb]) rfl (by simp) ho (by unfold I64;omega) (by simp) (by simp) (fun i e v he hv=> ?_) fun _=> ?_
 ·match i,he,hv with
  |0,he,hv=>injection he with he;injection hv with hv;subst he hv;exact ha
  |1,he,hv=>injection he with he;injection hv with hv;subst he hv;exact hb
  |i+2,he,hv=>cases he
 ·refine⟨⟨g,0,none⟩,rfl,k.lt,fun j u hu=> ?_⟩
  rw[←hcs] at hu
  have hadd:(⟨g,0,none⟩:Addr).add j=⟨g,j,none⟩:=by unfold Addr.add;split<;>simp_all
  rw[hadd,k.cell j]
  simpa using hu
theorem Rep.const (w:World)(o z:Int)(B:Nat)(ho:I64 o)(hz:I64 z):Rep w B (.mk o z [] []) (.agg #[.int .i64 o, .int .i64 z, .string (strOf []), .slice none 0 0]):=
 RepE.mk (args:=[]) (vs:=[]) rfl (by decide) ho hz (by simp) (by simp) (fun i e v he=>by cases he) fun h=>absurd rfl h
def cE (z:Int):Ex:= .mk 1 z [] []
def sE (a b:Ex):Ex:= .mk 6 0 [] [a,b]
theorem print_a:printE (sE (sE (cE 1) (cE 2)) (cE 3))=([49,32,45,32,50,32,45,32,51],0):=by decide+kernel
theorem print_b:printE (sE (cE 3) (sE (cE 1) (cE 2)))=([51,32,45,32,40,49,32,45,32,50,41],0):=by decide+kernel
theorem depth_a:(sE (sE (cE 1) (cE 2)) (cE 3)).depth≤900:=by decide+kernel
theorem depth_b:(sE (cE 3) (sE (cE 1) (cE 2))).depth≤900:=by decide+kernel
theorem run_build_c (a b:Int)(w:World):(Instr.build 35 #[(0, .int .i64 a),(1, .int .i64 b)]).run Tryz.prog w= .ok (.agg #[.int .i64 a, .int .i64 b, .string (strOf []), .slice none 0 0]) w:=by
 have hu:=Tryz.underlying35
 go_simp
 rfl
theorem run_build_s (a:Int)(g:Nat)(w:World):(Instr.build 35 #[(0, .int .i64 a),(3, .slice (some ⟨g,0,none⟩) 2 2)]).run Tryz.prog w= .ok (.agg #[.int .i64 a, .int .i64 0, .string (strOf []), .slice (some ⟨g,0,none⟩) 2 2]) w:=by
 have hu:=Tryz.underlying35
 go_simp
 rfl
theorem Rep.step {w w':World}{e:Ex}{v:Value}(h:Rep w w.heap.size e v)(hb:Below w.heap.size w w'):Rep w' w'.heap.size e v:=(h.below hb).more hb.size
theorem awake20_any (w:World):Calls Tryz.prog 15 #[] w fun e w'=>e= .returned (.bool true)∧Grow w w':=by
 have bel:=Below.refl w.heap.size w
 refine Zs 41 Tryz.func15 ?_
 refine Zsr ?_
 refine Za ?_
 refine Zk1 0 (Ztq ?_)
 refine Zv (Runs.build rfl rfl (run_build_c 1 1 _)) ?_
 refine Zv (Runs.build rfl rfl (run_build_c 1 2 _)) ?_
 refine Seq.slice (vs:=[_,_]) (s:=4) rfl rfl rfl Tryz.underlying22 (by kernel_rfl) (zero_api_Expr) (by omega) (by omega) ⟨rfl,rfl,trivial⟩ rfl rfl rfl ?_
 intro g8 w1 n8
 have e8:=Nat.le_trans bel.size n8.ge
 replace bel:=bel.step n8.below
 have k8:=n8.blk
 refine Za ?_
 refine Zk2 0 1 (Ztq ?_)
 refine Zm ?_
 have r1:∀W z,I64 z→Rep W W.heap.size (cE z) (.agg #[.int .i64 1, .int .i64 z, .string (strOf []), .slice none 0 0]):=fun W z hz=>Rep.const W 1 z _ (by unfold I64;omega) hz
 have i1:I64 1:=by unfold I64;omega
 have i2:I64 2:=by unfold I64;omega
 have i3:I64 3:=by unfold I64;omega
 have i6:I64 6:=by unfold I64;omega
 have hab:Rep _ _ (sE (cE 1) (cE 2)) _:=Rep.two k8 rfl i6 (r1 _ 1 i1) (r1 _ 2 i2)
 refine Zv (Runs.build rfl rfl (run_build_s 6 g8 _)) ?_
 refine Zv (Runs.build rfl rfl (run_build_c 1 3 _)) ?_
 refine Seq.slice (vs:=[_,_]) (s:=4) rfl rfl rfl Tryz.underlying22 (by kernel_rfl) (zero_api_Expr) (by omega) (by omega) ⟨rfl,rfl,trivial⟩ rfl rfl rfl ?_
 intro g13 w2 n13
 have e13:=Nat.le_trans bel.size n13.ge
 replace bel:=bel.step n13.below
 replace hab:=hab.step n13.below
 have k13:=n13.blk
 refine Zv (Runs.build rfl rfl (run_build_s 6 g13 _)) ?_
 have ha:=printExpr_any _ _ _ depth_a (Rep.two k13 rfl i6 hab (r1 _ 3 i3))
 rw[print_a] at ha
 refine Zc (Ze Tryz.func18) (ha) ?_
 rintro en w5 ⟨rfl,hb5⟩
 refine⟨_,rfl,?_⟩
 replace bel:=bel.step hb5
 replace hab:=hab.step hb5
 refine Zm ?_
 refine Zv (Runs.extract rfl rfl rfl) ?_
 refine Zv (Runs.extract rfl rfl rfl) ?_
 refine Za ?_
 refine Za ?_
 refine Zk4 0 1 2 3 (Ztq ?_)
 refine Zv (Runs.build rfl rfl (run_build_c 1 3 _)) ?_
 refine Zm ?_
 refine Zv (Runs.build rfl rfl (run_build_s 6 g8 _)) ?_
 refine Seq.slice (vs:=[_,_]) (s:=4) rfl rfl rfl Tryz.underlying22 (by kernel_rfl) (zero_api_Expr) (by omega) (by omega) ⟨rfl,rfl,trivial⟩ rfl rfl rfl ?_
 intro g22 w3 n22
 have e22:=Nat.le_trans bel.size n22.ge
 replace bel:=bel.step n22.below
 replace hab:=hab.step n22.below
 have k22:=n22.blk
 refine Zv (Runs.build rfl rfl (run_build_s 6 g22 _)) ?_
 have hb:=printExpr_any _ _ _ depth_b (Rep.two k22 rfl i6 (r1 _ 3 i3) hab)
 rw[print_b] at hb
 refine Zc (Ze Tryz.func18) (hb) ?_
 rintro en w6 ⟨rfl,hb6⟩
 refine⟨_,rfl,?_⟩
 replace bel:=bel.step hb6
 replace hab:=hab.step hb6
 refine Zm ?_
 refine Zv (Runs.extract rfl rfl rfl) ?_
 refine Zv (Runs.extract rfl rfl rfl) ?_
 refine Za ?_
 refine Za ?_
 refine Zk6 0 1 2 3 4 5 (Ztq ?_)
 refine Zm ?_
 refine Zv (Runs.eqlI rfl rfl rfl) ?_
 refine Zm ?_
 refine SeqC.start ?_
 refine Zco (fun hcx=>Runs.move rfl rfl) ?_
 refine SeqC.next rfl rfl rfl rfl rfl rfl rfl (fun hcx=>Runs.eqlS rfl rfl rfl) ?_
 refine SeqC.and rfl rfl rfl rfl rfl rfl rfl ?_
 refine Zm ?_
 refine SeqC.start ?_
 refine Zco (fun hcx=>Runs.move rfl rfl) ?_
 refine SeqC.next rfl rfl rfl rfl rfl rfl rfl (fun hcx=>Runs.eqlI rfl rfl rfl) ?_
 refine SeqC.and rfl rfl rfl rfl rfl rfl rfl ?_
 refine Zm ?_
 refine SeqC.start ?_
 refine Zco (fun hcx=>Runs.move rfl rfl) ?_
 refine SeqC.next rfl rfl rfl rfl rfl rfl rfl (fun hcx=>Runs.eqlS rfl rfl rfl) ?_
 refine SeqC.and rfl rfl rfl rfl rfl rfl rfl ?_
 refine Za ?_
 refine Zk6 0 1 2 3 4 5 (Zt (Cd.ret ?_))
 refine Post.end1 rfl rfl (.inl rfl) ?_
 have e1:strOf [49,32,45,32,50,32,45,32,51]= {data:= #[49,32,45,32,50,32,45,32,51]}:=rfl
 have e2:strOf [51,32,45,32,40,49,32,45,32,50,41]= {data:= #[51,32,45,32,40,49,32,45,32,50,41]}:=rfl
 exact⟨ret1 (bool_eq (by simp[e1,e2])),bel⟩
end Go.Proofs.YtaamkfajnpobfaaGreat
namespace Go.Proofs.YtaamkfajnpobfaaGreat
open Go.RowKit
inductive Tm where
 |mk (op:Int) (name:List Nat) (exprs:List Ex) (terms:List Tm)
def Tm.op:Tm→Int| .mk op _ _ _=>op
def Tm.name:Tm→List Nat| .mk _ nm _ _=>nm
def Tm.exprs:Tm→List Ex| .mk _ _ l _=>l
def Tm.terms:Tm→List Tm| .mk _ _ _ l=>l
mutual
def Tm.nodes:Tm→Nat
 | .mk _ _ es l=>1+nodesL es+nodesM l
def nodesM:List Tm→Nat
 | []=>0
 |e::r=>e.nodes+nodesM r
end
mutual
def Tm.depth:Tm→Nat
 | .mk _ _ es l=>1+max (depthL es) (depthM l)
def depthM:List Tm→Nat
 | []=>0
 |e::r=>max e.depth (depthM r)
end
theorem Tm.nodes_mk (op:Int)(nm:List Nat)(es:List Ex)(l:List Tm):(Tm.mk op nm es l).nodes=1+nodesL es+nodesM l:=by rw[Tm.nodes]
theorem Tm.depth_mk (op:Int)(nm:List Nat)(es:List Ex)(l:List Tm):(Tm.mk op nm es l).depth=1+max (depthL es) (depthM l):=by rw[Tm.depth]
theorem Tm.nodes_eq (t:Tm):t.nodes=1+nodesL t.exprs+nodesM t.terms:=by cases t;exact Tm.nodes_mk _ _ _ _
theorem Tm.depth_eq (t:Tm):t.depth=1+max (depthL t.exprs) (depthM t.terms):=by cases t;exact Tm.depth_mk _ _ _ _
theorem nodesM_mem {l:List Tm}{t:Tm}(h:t∈l):t.nodes≤nodesM l:=by
 induction l with
 |nil=>cases h
 |cons x r ih=>
  unfold nodesM
  rcases List.mem_cons.1 h with rfl|h
  ·omega
  ·have:=ih h;omega
theorem depthM_mem {l:List Tm}{t:Tm}(h:t∈l):t.depth≤depthM l:=by
 induction l with
 |nil=>cases h
 |cons x r ih=>
  unfold depthM
  rcases List.mem_cons.1 h with rfl|h
  ·omega
  ·have:=ih h;omega
theorem Tm.term_nodes {t x:Tm}(h:x∈t.terms):x.nodes<t.nodes:=by have:=nodesM_mem h;have:=t.nodes_eq;omega
theorem Tm.term_depth {t x:Tm}(h:x∈t.terms):x.depth<t.depth:=by have:=depthM_mem h;have:=t.depth_eq;omega
theorem Tm.expr_nodes {t:Tm}{x:Ex}(h:x∈t.exprs):x.nodes<t.nodes:=by have:=nodesL_mem h;have:=t.nodes_eq;omega
theorem Tm.expr_depth {t:Tm}{x:Ex}(h:x∈t.exprs):x.depth<t.depth:=by have:=depthL_mem h;have:=t.depth_eq;omega
theorem Tm.nodes_pos (t:Tm):0<t.nodes:=by have:=t.nodes_eq;omega
mutual
theorem Tm.depth_nodes:∀t:Tm,t.depth≤t.nodes
 | .mk _ _ es l=>by unfold Tm.depth Tm.nodes;have:=depthM_nodesM l;have:=depthL_nodesL es;omega
theorem depthM_nodesM:∀l:List Tm,depthM l≤nodesM l
 | []=>Nat.le_refl _
 |e::r=>by unfold depthM nodesM;have:=Tm.depth_nodes e;have:=depthM_nodesM r;omega
end
inductive RepT (w:World)(S:Nat→Prop):Tm→Value→Prop
 |mk {op:Int} {nm:List Nat} {es:List Ex} {ts:List Tm} {A A':Option Addr} {c c':Nat} {vs us:List Value} (hl:vs.length=es.length) (hl':us.length=ts.length) (h60:es.length≤1000) (h60':ts.length≤1000) (hop:I64 op) (hnm:∀d∈nm,d<256) (hnl:nm.length≤9223372036854775807)
   (hr:∀(i:Nat) (e:Ex) (v:Value),es[i]? =some e→vs[i]? =some v→RepE w S e v) (hr':∀(i:Nat) (t:Tm) (v:Value),ts[i]? =some t→us[i]? =some v→RepT w S t v) (hA:Rows w S A (flatC vs)) (hA':Rows w S A' (flatC us)):RepT w S (.mk op nm es ts) (.agg #[.int .i64 op, .string (strOf nm), .slice A es.length c, .slice A' ts.length c'])
theorem Rows.mono {w w':World}{S S':Nat→Prop}{A:Option Addr}{xs:List Value}(h:Rows w S A xs)(hS:∀b,S b→S' b)(hc:∀p:Addr,S p.block→w'.cell? p=w.cell? p):Rows w' S' A xs:=fun hne=>by
 obtain⟨ad,e1,e2,e3⟩:=h hne
 exact⟨ad,e1,hS _ e2,fun j u hu=>(hc _ (by rw[block_of_add];exact e2)).trans (e3 j u hu)⟩
theorem RepT.mono {w w':World}{S S':Nat→Prop}{t:Tm}{v:Value}(h:RepT w S t v)(hS:∀b,S b→S' b)(hc:∀p:Addr,S p.block→w'.cell? p=w.cell? p):RepT w' S' t v:=by
 induction h with
 |mk hl hl' h60 h60' hop hnm hnl hr hr' hA hA' ih=>exact .mk hl hl' h60 h60' hop hnm hnl (fun i e v he hv=>(hr i e v he hv).mono hS hc) ih (hA.mono hS hc) (hA'.mono hS hc)
def RepB (w:World)(B:Nat)(t:Tm)(v:Value):Prop:=RepT w (· <B) t v
theorem RepB.below {w w':World}{B:Nat}{t:Tm}{v:Value}(h:RepB w B t v)(hb:Below B w w'):RepB w' B t v:=RepT.mono h (fun _ h=>h) (fun _ hp=>hb.cell hp)
theorem RepB.more {w:World}{B B':Nat}{t:Tm}{v:Value}(h:RepB w B t v)(hb:B≤B'):RepB w B' t v:=RepT.mono h (fun _ h=>Nat.lt_of_lt_of_le h hb) (fun _ _=>rfl)
theorem RepB.step {w w':World}{t:Tm}{v:Value}(h:RepB w w.heap.size t v)(hb:Below w.heap.size w w'):RepB w' w'.heap.size t v:=(h.below hb).more hb.size
theorem RepT.cells4 {w:World}{S:Nat→Prop}{t:Tm}{v:Value}(h:RepT w S t v):v.cells.size=4:=by
 cases h;rfl
theorem RepT.form {w:World}{S:Nat→Prop}{t:Tm}{v:Value}(h:RepT w S t v):∃A c A' c',v= .agg #[.int .i64 t.op, .string (strOf t.name), .slice A t.exprs.length c, .slice A' t.terms.length c']:=by
 cases h;exact⟨_,_,_,_,rfl⟩
def ExAt (w:World)(B:Nat)(es:List Ex)(A:Option Addr):Prop:=∀i x,es[i]? =some x→∃ad A' c',A=some ad∧ad.block<B∧Rep w B x (.agg #[.int .i64 x.op, .int .i64 x.n, .string (strOf x.name), .slice A' x.args.length c'])∧∀(j:Nat) (u:Value),([.int .i64 x.op, .int .i64 x.n, .string (strOf x.name), .slice A' x.args.length c']:List Value)[j]? =some u→w.cell? ((ad.add (i*4)).add j)=some u
def tmV (x:Tm)(A A':Option Addr)(c c':Nat):List Value:=[.int .i64 x.op, .string (strOf x.name), .slice A x.exprs.length c, .slice A' x.terms.length c']
def TmAt (w:World)(B:Nat)(ts:List Tm)(A:Option Addr):Prop:=∀i x,ts[i]? =some x→∃ad A1 A2 c1 c2,A=some ad∧ad.block<B∧RepB w B x (.agg #[.int .i64 x.op, .string (strOf x.name), .slice A1 x.exprs.length c1, .slice A2 x.terms.length c2])∧∀(j:Nat) (u:Value),(tmV x A1 A2 c1 c2)[j]? =some u→w.cell? ((ad.add (i*4)).add j)=some u
theorem ExAt.below {w w':World}{B:Nat}{es:List Ex}{A:Option Addr}(h:ExAt w B es A)(hb:Below B w w'):ExAt w' B es A:=fun i x hx=>by
 obtain⟨ad,A',c',e1,e2,e3,e4⟩:=h i x hx
 exact⟨ad,A',c',e1,e2,e3.below hb,fun j u hu=>(hb.cell (by rw[block_of_add,block_of_add];exact e2)).trans (e4 j u hu)⟩
theorem TmAt.below {w w':World}{B:Nat}{ts:List Tm}{A:Option Addr}(h:TmAt w B ts A)(hb:Below B w w'):TmAt w' B ts A:=fun i x hx=>by
 obtain⟨ad,A1,A2,c1,c2,e1,e2,e3,e4⟩:=h i x hx
 exact⟨ad,A1,A2,c1,c2,e1,e2,e3.below hb,fun j u hu=>(hb.cell (by rw[block_of_add,block_of_add];exact e2)).trans (e4 j u hu)⟩
theorem exAt_of {w:World}{B:Nat}{es:List Ex}{vs:List Value}{A:Option Addr}(hl:vs.length=es.length)(hr:∀(i:Nat) (e:Ex) (v:Value),es[i]? =some e→vs[i]? =some v→RepE w (· <B) e v)(hA:Rows w (· <B) A (flatC vs)):ExAt w B es A:=fun i x hx=>by
 have hi:=(List.getElem?_eq_some_iff.1 hx).1
 obtain⟨v,hv⟩:∃v,vs[i]? =some v:=⟨_,List.getElem?_eq_getElem (by omega)⟩
 have hrx:=hr i x v hx hv
 have h4:∀y∈vs,y.cells.size=4:=fun y hy=>by
  obtain⟨k,hk,rfl⟩:=List.getElem_of_mem hy
  obtain⟨z,hz⟩:∃z,es[k]? =some z:=⟨_,List.getElem?_eq_getElem (by omega)⟩
  exact(hr k z _ hz (List.getElem?_eq_getElem hk)).cells4
 obtain⟨A',c',rfl⟩:=hrx.form
 have hne:flatC vs≠ []:=fun h0=>by have:=flatC_at h4 hv 0 _ rfl;rw[h0] at this;cases this
 obtain⟨ad,rfl,hb,hc⟩:=hA hne
 exact⟨ad,A',c',rfl,hb,hrx,fun j u hu=>by rw[add_of_add];exact hc _ _ (flatC_at h4 hv j u (by simpa[Value.cells] using hu))⟩
theorem tmAt_of {w:World}{B:Nat}{ts:List Tm}{vs:List Value}{A:Option Addr}(hl:vs.length=ts.length)(hr:∀(i:Nat) (e:Tm) (v:Value),ts[i]? =some e→vs[i]? =some v→RepT w (· <B) e v)(hA:Rows w (· <B) A (flatC vs)):TmAt w B ts A:=fun i x hx=>by
 have hi:=(List.getElem?_eq_some_iff.1 hx).1
 obtain⟨v,hv⟩:∃v,vs[i]? =some v:=⟨_,List.getElem?_eq_getElem (by omega)⟩
 have hrx:=hr i x v hx hv
 have h4:∀y∈vs,y.cells.size=4:=fun y hy=>by
  obtain⟨k,hk,rfl⟩:=List.getElem_of_mem hy
  obtain⟨z,hz⟩:∃z,ts[k]? =some z:=⟨_,List.getElem?_eq_getElem (by omega)⟩
  exact(hr k z _ hz (List.getElem?_eq_getElem hk)).cells4
 obtain⟨A1,c1,A2,c2,rfl⟩:=hrx.form
 have hne:flatC vs≠ []:=fun h0=>by have:=flatC_at h4 hv 0 _ rfl;rw[h0] at this;cases this
 obtain⟨ad,rfl,hb,hc⟩:=hA hne
 exact⟨ad,A1,A2,c1,c2,rfl,hb,hrx,fun j u hu=>by rw[add_of_add];exact hc _ _ (flatC_at h4 hv j u (by simpa[Value.cells,tmV] using hu))⟩
structure RepTV (w:World)(B:Nat)(t:Tm)(A A':Option Addr):Prop where
 h60:t.exprs.length≤1000
 h60':t.terms.length≤1000
 op:I64 t.op
 name:∀d∈t.name,d<256
 nlen:t.name.length≤9223372036854775807
 expr:ExAt w B t.exprs A
 term:TmAt w B t.terms A'
theorem RepB.open {w:World}{B:Nat}{t:Tm}{v:Value}(h:RepB w B t v):∃A c A' c',v= .agg #[.int .i64 t.op, .string (strOf t.name), .slice A t.exprs.length c, .slice A' t.terms.length c']∧RepTV w B t A A':=by
 have h':RepT w (· <B) t v:=h
 cases h' with
 | @mk op nm es ts A A' c c' vs us hl hl' h60 h60' hop hnm hnl hr hr' hA hA'=>
  exact⟨A,c,A',c',rfl,h60,h60',hop,hnm,hnl,exAt_of hl hr hA,tmAt_of hl' hr' hA'⟩
theorem RepTV.below {w w':World}{B:Nat}{t:Tm}{A A':Option Addr}(h:RepTV w B t A A')(hb:Below B w w'):RepTV w' B t A A':=⟨h.h60,h.h60',h.op,h.name,h.nlen,h.expr.below hb,h.term.below hb⟩
end Go.Proofs.YtaamkfajnpobfaaGreat
namespace Go.Proofs.YtaamkfajnpobfaaGreat
open Go.RowKit
def szX (s:Int × Int):List Ex→Int × Int
 | []=>s
 |e::r=>szX (withS s (szE e)) r
mutual
def szT:Tm→Int × Int
 | .mk _ _ es l=>szM (szX (1,1) es) l
def szM (s:Int × Int):List Tm→Int × Int
 | []=>s
 |t::r=>if 1000≤s.1 then(1000,1000) else szM (withS s (szT t)) r
end
theorem szX_Sz:∀(l:List Ex) (s:Int × Int),Sz s→Sz (szX s l)
 | [],_,h=>h
 |e::r,s,h=>szX_Sz r _ (withS_Sz h (szE_Sz e))
mutual
theorem szT_Sz:∀t,Sz (szT t)
 | .mk op nm es l=>by rw[szT];exact szM_Sz _ (szX_Sz es _ ⟨by simp,by simp⟩) l
theorem szM_Sz:∀(s:Int × Int),Sz s→∀l,Sz (szM s l)
 |s,h,[]=>by rw[szM];exact h
 |s,h,e::r=>by
  rw[szM]
  split
  ·exact⟨by simp,by simp⟩
  ·exact szM_Sz _ (withS_Sz h (szT_Sz e)) r
end
theorem withS_cnt {s t:Int × Int}{n d n' d':Nat}(h:Cnt s n d)(k:Cnt t n' d')(h2:d≤n)(h3:d'≤n'):Cnt (withS s t) (n+n') (max d (1+d'))∨(1000≤n+n'∧Cnt (withS s t) (n+n') (max d (1+d'))):=by
 obtain⟨a,b⟩:=h
 obtain⟨a',b'⟩:=k
 left
 refine⟨by unfold withS;simp only;omega,fun h=> ?_⟩
 unfold withS
 simp only
 rw[b (by omega),b' (by omega)]
 omega
theorem szX_cnt:∀(l:List Ex) (s:Int × Int) (n d:Nat),Cnt s n d→1≤d→d≤n→Cnt (szX s l) (n+nodesL l) (max d (1+depthL l))∧max d (1+depthL l)≤n+nodesL l
 | [],s,n,d,h,h1,h2=>by
  rw[nodesL,depthL,show max d (1+0)=d by omega]
  exact⟨h,by omega⟩
 |e::r,s,n,d,h,h1,h2=>by
  rw[nodesL,depthL]
  have he:=szE_cnt e
  have hn:=Ex.depth_nodes e
  have hp:=e.nodes_pos
  have hw:=(withS_cnt h he h2 hn).elim id (fun h=>h.2)
  have:=szX_cnt r _ _ _ hw (by omega) (by omega)
  rw[show n+(e.nodes+nodesL r)=n+e.nodes+nodesL r by omega,show max d (1+max e.depth (depthL r))=max (max d (1+e.depth)) (1+depthL r) by omega]
  exact this
mutual
theorem szT_cnt:∀t,Cnt (szT t) t.nodes t.depth
 | .mk op nm es l=>by
  rw[szT,Tm.nodes_mk,Tm.depth_mk]
  have h0:Cnt (1,1) 1 1:=⟨(by show(1:Int)=min ((1:Nat):Int) 1000;omega),fun _=>rfl⟩
  obtain⟨h1,h2⟩:=szX_cnt es (1,1) 1 1 h0 (Nat.le_refl _) (Nat.le_refl _)
  have:=szM_cnt _ _ _ h1 (by omega) h2 l
  rwa [show max (max 1 (1+depthL es)) (1+depthM l)=1+max (depthL es) (depthM l) by omega] at this
theorem szM_cnt:∀(s:Int × Int) (n d:Nat),Cnt s n d→1≤d→d≤n→∀l,Cnt (szM s l) (n+nodesM l) (max d (1+depthM l))
 |s,n,d,h,h1,h2,[]=>by
  rw[szM,nodesM,depthM,show max d (1+0)=d by omega]
  exact h
 |s,n,d,h,h1,h2,e::r=>by
  rw[szM,nodesM,depthM]
  have he:=szT_cnt e
  have hn:=Tm.depth_nodes e
  have hp:=e.nodes_pos
  split
  ·obtain⟨a,b⟩:=h
   exact⟨by simp only;omega,fun h=>by omega⟩
  ·have hw:=(withS_cnt h he h2 hn).elim id (fun h=>h.2)
   have:=szM_cnt _ _ _ hw (by omega) (by omega) r
   rw[show n+(e.nodes+nodesM r)=n+e.nodes+nodesM r by omega,show max d (1+max e.depth (depthM r))=max (max d (1+e.depth)) (1+depthM r) by omega]
   exact this
end
theorem zero_api_Term:zeroIs Tryz.prog 25=some (some (.agg #[.int .i64 0, .string {data:= #[]}, .slice none 0 0, .slice none 0 0])):=by kernel_rfl
def szY (at_:Nat)(s:Int × Int):List Ex→Int × Int
 | []=>s
 |e::r=>szY at_ (withS s (szF e (at_+1))) r
mutual
def szU:Tm→Nat→Int × Int
 | .mk _ _ es l,at_=>szV at_ (szY at_ (1,1) es) l
def szV (at_:Nat)(s:Int × Int):List Tm→Int × Int
 | []=>s
 |t::r=>if 1000≤at_∨1000≤s.1 then(1000,1000) else szV at_ (withS s (szU t (at_+1))) r
end
theorem szU_eq (t:Tm)(at_:Nat):szU t at_=szV at_ (szY at_ (1,1) t.exprs) t.terms:=by cases t;rw[szU];rfl
theorem szV_cons (at_:Nat)(s:Int × Int)(e:Tm)(r:List Tm):szV at_ s (e::r)=if 1000≤at_∨1000≤s.1 then(1000,1000) else szV at_ (withS s (szU e (at_+1))) r:=by rw[szV]
theorem szV_nil (at_:Nat)(s:Int × Int):szV at_ s []=s:=by rw[szV]
theorem szY_Sz (at_:Nat):∀(l:List Ex) (s:Int × Int),Sz s→Sz (szY at_ s l)
 | [],_,h=>h
 |e::r,s,h=>szY_Sz at_ r _ (withS_Sz h (szF_Sz e _))
mutual
theorem szU_Sz:∀(t:Tm) (at_:Nat),Sz (szU t at_)
 | .mk op nm es l,at_=>by rw[szU];exact szV_Sz at_ _ (szY_Sz at_ es _ ⟨by simp,by simp⟩) l
theorem szV_Sz:∀(at_:Nat) (s:Int × Int),Sz s→∀l,Sz (szV at_ s l)
 |at_,s,h,[]=>by rw[szV];exact h
 |at_,s,h,e::r=>by
  rw[szV]
  split
  ·exact⟨by simp,by simp⟩
  ·exact szV_Sz at_ _ (withS_Sz h (szU_Sz e _)) r
end
theorem withS_top {t:Int × Int}(h:Sz t):withS (1000,1000) t=(1000,1000):=by
 unfold Sz at h
 unfold withS
 simp only[Prod.mk.injEq]
 omega
theorem szY_big (at_:Nat):∀(l:List Ex),szY at_ (1000,1000) l=(1000,1000)
 | []=>rfl
 |e::r=>by rw[szY,withS_top (szF_Sz e _)];exact szY_big at_ r
theorem szV_big (at_:Nat)(l:List Tm):szV at_ (1000,1000) l=(1000,1000):=by
 cases l with
 |nil=>rw[szV_nil]
 |cons e r=>rw[szV_cons,if_pos (.inr (by decide))]
theorem szY_or (at_:Nat):∀(l:List Ex) (s:Int × Int),Sz s→szY at_ s l=szX s l∨(szY at_ s l=(1000,1000)∧1001≤depthL l+at_)
 | [],s,h=> .inl rfl
 |e::r,s,h=>by
  rw[szY,szX,depthL]
  rcases szF_or e (at_+1) with h3|⟨h3,h4⟩
  ·rw[h3]
   rcases szY_or at_ r (withS s (szE e)) (withS_Sz h (szE_Sz e)) with h5|⟨h5,h6⟩
   ·exact .inl h5
   ·exact .inr ⟨h5,by omega⟩
  ·rw[h3,withS_big h,szY_big]
   exact .inr ⟨rfl,by omega⟩
mutual
theorem szU_or:∀(t:Tm) (at_:Nat),szU t at_=szT t∨(szU t at_=(1000,1000)∧1002≤t.depth+at_)
 | .mk op nm es l,at_=>by
  rw[szU,szT,Tm.depth_mk]
  rcases szY_or at_ es (1,1) ⟨by simp,by simp⟩ with h0|⟨h0,h1⟩
  ·rw[h0]
   rcases szV_or at_ _ (szX_Sz es (1,1) ⟨by simp,by simp⟩) l with h|⟨h1,h2⟩
   ·exact .inl h
   ·exact .inr ⟨h1,by omega⟩
  ·rw[h0,szV_big]
   exact .inr ⟨rfl,by omega⟩
theorem szV_or:∀(at_:Nat) (s:Int × Int),Sz s→∀l,szV at_ s l=szM s l∨(szV at_ s l=(1000,1000)∧1001≤depthM l+at_)
 |at_,s,h,[]=>by rw[szV,szM];exact .inl rfl
 |at_,s,h,e::r=>by
  rw[szV,szM,depthM]
  have hd:0<e.depth:=by rw[e.depth_eq];omega
  by_cases h1:1000≤s.1
  ·rw[if_pos (.inr h1),if_pos h1];exact .inl rfl
  ·by_cases h2:1000≤at_
   ·rw[if_pos (.inl h2)];exact .inr ⟨rfl,by omega⟩
   ·rw[if_neg (by omega),if_neg h1]
    rcases szU_or e (at_+1) with h3|⟨h3,h4⟩
    ·rw[h3]
     rcases szV_or at_ (withS s (szT e)) (withS_Sz h (szT_Sz e)) r with h5|⟨h5,h6⟩
     ·exact .inl h5
     ·exact .inr ⟨h5,by omega⟩
    ·rw[h3,withS_big h,szV_big]
     exact .inr ⟨rfl,by omega⟩
end
theorem szU_cnt (t:Tm):Cnt (szU t 0) t.nodes t.depth:=by
 rcases szU_or t 0 with h|⟨h1,h2⟩
 ·rw[h];exact szT_cnt t
 ·rw[h1]
  have:=t.depth_nodes
  exact⟨by simp only;omega,fun h=>by omega⟩
theorem szU_low {t:Tm}{at_:Nat}(h:t.depth+at_≤900):szU t at_=szT t:=by
 rcases szU_or t at_ with h1|⟨h1,h2⟩
 ·exact h1
 ·omega
theorem sizeTerm_all (N:Nat):∀(t:Tm) (at_:Nat) (B:Nat) (v:Value) (w:World),t.nodes≤N→at_≤1000→RepB w B t v→B≤w.heap.size→Calls Tryz.prog 57 #[v, .int .i64 (at_:Int)] w fun en w'=>en= .returned (.agg #[.int .i64 (szU t at_).1, .int .i64 (szU t at_).2])∧Grow w w':=by
 induction N with
 |zero=>intro t at_ B v w hN;have:=t.nodes_pos;omega
 |succ N ih=>
 intro t at_ B v w hN hdep hrep hB
 obtain⟨A,c,A',c',rfl,hv⟩:=hrep.open
 have bel:=Below.refl w.heap.size w
 have hdp:0<t.depth:=by rw[t.depth_eq];omega
 have h60:=hv.h60
 have h60':=hv.h60'
 refine Zs 48 Tryz.func57 ?_
 refine Zsr ?_
 refine Seq.box rfl rfl rfl rfl rfl ?_
 intro g2 w1 n2
 have e2:=Nat.le_trans bel.size n2.ge
 replace bel:=bel.step n2.below
 have k2:=n2.blk
 refine Zl zero_term_size ?_
 intro g4 w2 n4
 have e4:=Nat.le_trans bel.size n4.ge
 have l4:=Nat.lt_of_lt_of_le k2.lt n4.ge
 replace bel:=bel.step n4.below
 replace k2:=k2.step n4.below
 have k4:=n4.blk
 refine Zk4 0 1 2 4 (Ztq ?_)
 refine Zv (Runs.build rfl rfl (run_build_size _ _ _)) ?_
 refine Zl zero_term_size ?_
 intro g5 w3 n5
 have e5:=Nat.le_trans bel.size n5.ge
 have l5:=Nat.lt_of_lt_of_le k4.lt n5.ge
 have l5_k2:=Nat.lt_of_lt_of_le k2.lt n5.ge
 replace bel:=bel.step n5.below
 replace k2:=k2.step n5.below
 replace k4:=k4.step n5.below
 have k5:=n5.blk
 refine Zo 2 k5 ?_
 intro w4 pw4
 replace bel:=bel.put k5 pw4 e5
 replace k2:=k2.put pw4 (by omega)
 replace k4:=k4.put pw4 (by omega)
 replace k5:=pw4.blk
 refine Zk5 0 1 2 4 5 (Zts (Zsr ?_))
 refine Zf 2 Tryz.underlying25 ?_
 refine Zv (Runs.loadB rfl rfl Tryz.underlying22 rfl k2 rfl) ?_
 refine Zv (Runs.len rfl rfl Tryz.underlying22) ?_
 refine Zm ?_
 refine Zk8 0 1 2 4 5 12 13 14 (Zt (Cd.block ?_))
 refine Cd.loop (σ:=Nat × (Int × Int)) (fun s=>[(1, .int .i64 (at_:Int)),(2, .pointer (some ⟨g2,0,none⟩)),(4, .pointer (some ⟨g4,0,none⟩)),(5, .pointer (some ⟨g5,0,none⟩)),(12, .slice A t.exprs.length c),(13, .int .i64 (t.exprs.length:Int)),(14, .int .i64 (s.1:Int))])
  (fun s wr=>s.1≤t.exprs.length∧Sz s.2∧szY at_ s.2 (t.exprs.drop s.1)=szY at_ (1,1) t.exprs∧Below w.heap.size w wr∧Blk wr g2 25 #[.int .i64 t.op, .string (strOf t.name), .slice A t.exprs.length c, .slice A' t.terms.length c']∧Blk wr g4 105 #[.int .i64 0, .int .i64 0]∧Blk wr g5 105 #[.int .i64 s.2.1, .int .i64 s.2.2]) (fun s=>t.exprs.length-s.1) (0,(1,1)) ⟨Nat.zero_le _,⟨by simp,by simp⟩,rfl,bel,k2,k4,k5⟩ ⟨rfl,rfl,rfl,rfl,rfl,rfl,rfl,trivial⟩ ?_
 clear bel k2 k4 k5
 rintro⟨k,s⟩ wr ⟨hk,hs,hsz,bel,k2,k4,k5⟩
 simp only at hk hs hsz k5
 show Cd _ _ _ _ [(1, .int .i64 (at_:Int)),(2, .pointer (some ⟨g2,0,none⟩)),(4, .pointer (some ⟨g4,0,none⟩)),(5, .pointer (some ⟨g5,0,none⟩)),(12, .slice A t.exprs.length c),(13, .int .i64 (t.exprs.length:Int)),(14, .int .i64 (k:Int))] _
 refine Zsr ?_
 refine Zv (Runs.lss rfl rfl rfl) ?_
 refine Zk8 1 2 4 5 12 13 14 15 (Zts ?_)
 refine Cd.condD rfl (fun hc=> ?_) (fun hc=> ?_)
 ·obtain⟨x,hx⟩:∃x,t.exprs[k]? =some x:=⟨_,List.getElem?_eq_getElem (show k<t.exprs.length by omega)⟩
  obtain⟨ad,Ax,cx,rfl,hbl,hrx,hc⟩:=hv.expr k x hx
  have hxm:=List.mem_of_getElem? hx
  have hxd:=Tm.expr_depth hxm
  have hc:=fun j u hj=>((bel.mono hB).cell (p:=(ad.add (k*4)).add j) (by rw[block_of_add,block_of_add];exact hbl)).trans (hc j u hj)
  have hdrop:t.exprs.drop k=x::t.exprs.drop (k+1):=by
   rw[List.drop_eq_getElem_cons (show k<t.exprs.length by omega)]
   congr 1
   obtain⟨_,he⟩:=List.getElem?_eq_some_iff.1 hx
   exact he
  rw[hdrop,szY] at hsz
  have hrec:=fun W (hb:Below w.heap.size w W)=>sizeExpr_all x.nodes x (at_+1) B _ W (Nat.le_refl _) (by omega) (hrx.below (hb.mono hB)) (Nat.le_trans hB hb.size)
  have hxs:=szF_Sz x (at_+1)
  have hws:=withS_Sz hs hxs
  refine Cd.skip (Zts (Cd.block (Zsr ?_)))
  refine Zv (Runs.indexN rfl rfl rfl Tryz.underlying22 (s:=4) (by kernel_rfl) (j:=k) rfl (by omega)) ?_
  refine Zv (Runs.loadF (ps:=[.int .i64 x.op, .int .i64 x.n, .string (strOf x.name), .slice Ax x.args.length cx]) rfl rfl Tryz.underlying35 rfl (m:=4) (by kernel_rfl) rfl hc) ?_
  refine Zl zero_api_Expr ?_
  intro g7 w5 n7
  have e7:=Nat.le_trans bel.size n7.ge
  have l7:=Nat.lt_of_lt_of_le k5.lt n7.ge
  have l7_k2:=Nat.lt_of_lt_of_le k2.lt n7.ge
  have l7_k4:=Nat.lt_of_lt_of_le k4.lt n7.ge
  replace bel:=bel.step n7.below
  replace k2:=k2.step n7.below
  replace k4:=k4.step n7.below
  replace k5:=k5.step n7.below
  have k7:=n7.blk
  refine Zo 4 k7 ?_
  intro w6 pw6
  replace bel:=bel.put k7 pw6 e7
  replace k2:=k2.put pw6 (by omega)
  replace k4:=k4.put pw6 (by omega)
  replace k5:=k5.put pw6 (by omega)
  replace k7:=pw6.blk
  refine Zk9 1 2 4 5 7 12 13 14 15 (Zt ?_)
  refine Cd.draw 6 (by kernel_rfl) [] (.inl rfl) rfl Grow Grow.refl (fun _ _ _=>Grow.trans) ?_
  intro w7 hw7 zw7
  replace bel:=bel.step hw7
  replace k2:=k2.step hw7
  replace k4:=k4.step hw7
  replace k5:=k5.step hw7
  replace k7:=k7.step hw7
  have zbel:=bel.size
  have zlt:=k7.lt
  refine Zd (fun w hG=>Runs.loadW rfl rfl Tryz.underlying105 rfl (k5.step hG) (m:=2) (by kernel_rfl) rfl) ?_
  refine Zd (fun w hG=>Runs.loadW rfl rfl Tryz.underlying35 rfl (k7.step hG) (m:=4) (by kernel_rfl) rfl) ?_
  refine Zdm ?_
  refine Zd (fun w hG=>Runs.addI rfl rfl rfl (by omega) (by omega)) ?_
  refine Dr.callV rfl (fun w=>Ze Tryz.func73) rfl (fun w hG=>hrec w (bel.step hG)) ?_
  refine Dr.callV rfl (fun w=>Ze Tryz.func103) rfl (fun w hG=>with_any s (szF x (at_+1)) w hs.1 hs.2 hxs.1 hxs.2) ?_
  refine Dr.nil ?_
  refine FinX.done (F':=[(1,_),(2,_),(4,_),(5,_),(7,_),(12,_),(13,_),(14,_),(15,_),(23,_)]) rfl ⟨rfl,rfl,rfl,rfl,rfl,rfl,rfl,rfl,rfl,rfl,trivial⟩ ?_
  intro w8 hw8 fw8
  replace bel:=bel.step hw8
  replace k2:=k2.step hw8
  replace k4:=k4.step hw8
  replace k5:=k5.step hw8
  replace k7:=k7.step hw8
  refine Zo 2 k5 ?_
  intro w9 pw9
  replace bel:=bel.put k5 pw9 e5
  replace k2:=k2.put pw9 (by omega)
  replace k4:=k4.put pw9 (by omega)
  replace k5:=pw9.blk
  refine Zk9 1 2 4 5 7 12 13 14 15 (Post.block_normal (Ztr ?_))
  refine Za_ ?_
  refine Zm ?_
  refine Zk9 1 2 4 5 7 12 13 14 15 ?_
  exact Post.round (k+1,withS s (szF x (at_+1))) ⟨rfl,rfl,rfl,rfl,rfl,rfl,rfl,trivial⟩ ⟨by simp only;omega,hws,hsz,bel,k2,k4,k5⟩ (by simp only;omega)
 ·obtain rfl:k=t.exprs.length:=by omega
  rw[List.drop_of_length_le (Nat.le_refl _),szY] at hsz
  have hT:=szU_eq t at_
  rw[←hsz] at hT
  refine Cd.exit (Post.then_exit (Post.round_exit (Post.block_exit (Zts (Zsr ?_)))))
  refine Zf 3 Tryz.underlying25 ?_
  refine Zv (Runs.loadB rfl rfl Tryz.underlying23 rfl k2 rfl) ?_
  refine Zv (Runs.len rfl rfl Tryz.underlying23) ?_
  refine Zm ?_
  refine Zk11 1 2 4 5 12 13 14 15 26 27 28 (Zt (Cd.block ?_))
  refine Cd.loop (σ:=Nat × (Int × Int)) (fun s=>[(1, .int .i64 (at_:Int)),(4, .pointer (some ⟨g4,0,none⟩)),(5, .pointer (some ⟨g5,0,none⟩)),(26, .slice A' t.terms.length c'),(27, .int .i64 (t.terms.length:Int)),(28, .int .i64 (s.1:Int))])
   (fun s wr=>s.1≤t.terms.length∧Sz s.2∧szV at_ s.2 (t.terms.drop s.1)=szU t at_∧Below w.heap.size w wr∧Blk wr g4 105 #[.int .i64 0, .int .i64 0]∧Blk wr g5 105 #[.int .i64 s.2.1, .int .i64 s.2.2]) (fun s=>t.terms.length-s.1) (0,s) ⟨Nat.zero_le _,hs,hT.symm,bel,k4,k5⟩ ⟨rfl,rfl,rfl,rfl,rfl,rfl,trivial⟩ ?_
  clear bel k2 k4 k5
  clear hs hsz hT
  rintro⟨k,s⟩ wr ⟨hk,hs,hsz,bel,k4,k5⟩
  simp only at hk hs hsz k5
  show Cd _ _ _ _ [(1, .int .i64 (at_:Int)),(4, .pointer (some ⟨g4,0,none⟩)),(5, .pointer (some ⟨g5,0,none⟩)),(26, .slice A' t.terms.length c'),(27, .int .i64 (t.terms.length:Int)),(28, .int .i64 (k:Int))] _
  refine Zsr ?_
  refine Zv (Runs.lss rfl rfl rfl) ?_
  refine Zk7 1 4 5 26 27 28 29 (Zts ?_)
  refine Cd.condD rfl (fun hc=> ?_) (fun hc=> ?_)
  ·obtain⟨x,hx⟩:∃x,t.terms[k]? =some x:=⟨_,List.getElem?_eq_getElem (show k<t.terms.length by omega)⟩
   obtain⟨ad,A1,A2,c1,c2,rfl,hbl,hrx,hc⟩:=hv.term k x hx
   have hxm:=List.mem_of_getElem? hx
   have hxd:=Tm.term_depth hxm
   have hxn:=Tm.term_nodes hxm
   have hc:=fun j u hj=>((bel.mono hB).cell (p:=(ad.add (k*4)).add j) (by rw[block_of_add,block_of_add];exact hbl)).trans (hc j u hj)
   have hdrop:t.terms.drop k=x::t.terms.drop (k+1):=by
    rw[List.drop_eq_getElem_cons (show k<t.terms.length by omega)]
    congr 1
    obtain⟨_,he⟩:=List.getElem?_eq_some_iff.1 hx
    exact he
   rw[hdrop,szV_cons] at hsz
   refine Cd.skip (Zts (Cd.block (Zsr ?_)))
   refine Zv (Runs.indexN rfl rfl rfl Tryz.underlying23 (s:=4) (by kernel_rfl) (j:=k) rfl (by omega)) ?_
   refine Zv (Runs.loadF (ps:=[.int .i64 x.op, .string (strOf x.name), .slice A1 x.exprs.length c1, .slice A2 x.terms.length c2]) rfl rfl Tryz.underlying25 rfl (m:=4) (by kernel_rfl) rfl hc) ?_
   refine Zl zero_api_Term ?_
   intro g9 w5 n9
   have e9:=Nat.le_trans bel.size n9.ge
   have l9:=Nat.lt_of_lt_of_le k5.lt n9.ge
   have l9_k4:=Nat.lt_of_lt_of_le k4.lt n9.ge
   replace bel:=bel.step n9.below
   replace k4:=k4.step n9.below
   replace k5:=k5.step n9.below
   have k9:=n9.blk
   refine Zo 4 k9 ?_
   intro w6 pw6
   replace bel:=bel.put k9 pw6 e9
   replace k4:=k4.put pw6 (by omega)
   replace k5:=k5.put pw6 (by omega)
   replace k9:=pw6.blk
   refine Zk8 1 4 5 9 26 27 28 29 (Zts (Zsr ?_))
   refine Zm ?_
   refine Zv (Runs.geq rfl rfl rfl) ?_
   refine Zm ?_
   refine SeqC.start ?_
   refine Zco (fun hcx=>Runs.fieldB 0 rfl rfl Tryz.underlying105 rfl (by kernel_rfl)) ?_
   refine SeqC.next rfl rfl rfl rfl rfl rfl rfl (fun hcx=>Runs.loadB rfl rfl Tryz.underlying3 rfl k5 rfl) ?_
   refine SeqC.next rfl rfl rfl rfl rfl rfl rfl (fun hcx=>Runs.geq rfl rfl rfl) ?_
   refine SeqC.or rfl rfl rfl rfl rfl rfl rfl ?_
   refine Zk9 1 4 5 9 26 27 28 29 38 (Zt ?_)
   refine Cd.cond rfl (fun h=> ?_) (fun h=> ?_)
   ·simp at h
    rw[if_pos (by omega)] at hsz
    refine Zsr ?_
    refine Zv (Runs.build rfl rfl (run_build_size _ _ _)) ?_
    refine Zo 2 k4 ?_
    intro w7 pw7
    replace bel:=bel.put k4 pw7 e4
    replace k5:=k5.put pw7 (by omega)
    replace k9:=k9.put pw7 (by omega)
    replace k4:=pw7.blk
    refine Zk9 1 4 5 9 26 27 28 29 38 (Zt (Cd.ret (Post.then_ret (Post.block_ret (Post.then_ret (Post.round_ret (Post.block_ret (Post.then_ret ?_))))))))
    refine Post.endC rfl rfl k4 Tryz.underlying105 rfl (m:=2) (by kernel_rfl) rfl (.inl rfl) ?_
    rw[←hsz]
    exact⟨rfl,bel⟩
   ·simp at h
    rw[if_neg (by omega)] at hsz
    have hrec:=fun W (hb:Below w.heap.size w W)=>ih x (at_+1) B _ W (by omega) (by omega) (hrx.below (hb.mono hB)) (Nat.le_trans hB hb.size)
    have hxs:=szU_Sz x (at_+1)
    have hws:=withS_Sz hs hxs
    refine Cd.skip (Zt ?_)
    refine Cd.draw 6 (by kernel_rfl) [] (.inl rfl) rfl Grow Grow.refl (fun _ _ _=>Grow.trans) ?_
    intro w7 hw7 zw7
    replace bel:=bel.step hw7
    replace k4:=k4.step hw7
    replace k5:=k5.step hw7
    replace k9:=k9.step hw7
    have zbel:=bel.size
    have zlt:=k9.lt
    refine Zd (fun w hG=>Runs.loadW rfl rfl Tryz.underlying105 rfl (k5.step hG) (m:=2) (by kernel_rfl) rfl) ?_
    refine Zd (fun w hG=>Runs.loadW rfl rfl Tryz.underlying25 rfl (k9.step hG) (m:=4) (by kernel_rfl) rfl) ?_
    refine Zdm ?_
    refine Zd (fun w hG=>Runs.addI rfl rfl rfl (by omega) (by omega)) ?_
    refine Dr.callV rfl (fun w=>Ze Tryz.func57) rfl (fun w hG=>hrec w (bel.step hG)) ?_
    refine Dr.callV rfl (fun w=>Ze Tryz.func103) rfl (fun w hG=>with_any s (szU x (at_+1)) w hs.1 hs.2 hxs.1 hxs.2) ?_
    refine Dr.nil ?_
    refine FinX.done (F':=[(1,_),(4,_),(5,_),(9,_),(26,_),(27,_),(28,_),(29,_),(38,_),(45,_)]) rfl ⟨rfl,rfl,rfl,rfl,rfl,rfl,rfl,rfl,rfl,rfl,trivial⟩ ?_
    intro w8 hw8 fw8
    replace bel:=bel.step hw8
    replace k4:=k4.step hw8
    replace k5:=k5.step hw8
    replace k9:=k9.step hw8
    refine Zo 2 k5 ?_
    intro w9 pw9
    replace bel:=bel.put k5 pw9 e5
    replace k4:=k4.put pw9 (by omega)
    replace k5:=pw9.blk
    refine Zk9 1 4 5 9 26 27 28 29 38 (Post.block_normal (Ztr ?_))
    refine Za_ ?_
    refine Zm ?_
    refine Zk9 1 4 5 9 26 27 28 29 38 ?_
    exact Post.round (k+1,withS s (szU x (at_+1))) ⟨rfl,rfl,rfl,rfl,rfl,rfl,trivial⟩ ⟨by simp only;omega,hws,hsz,bel,k4,k5⟩ (by simp only;omega)
  ·obtain rfl:k=t.terms.length:=by omega
   rw[List.drop_of_length_le (Nat.le_refl _),szV_nil] at hsz
   refine Cd.exit (Post.then_exit (Post.round_exit (Post.block_exit (Ztq ?_))))
   refine Zv (Runs.loadW rfl rfl Tryz.underlying105 rfl k5 (m:=2) (by kernel_rfl) rfl) ?_
   refine Zo 2 k4 ?_
   intro w5 pw5
   replace bel:=bel.put k4 pw5 e4
   replace k5:=k5.put pw5 (by omega)
   replace k4:=pw5.blk
   refine Zk7 1 4 5 26 27 28 29 (Zt (Cd.ret ?_))
   refine Post.endC rfl rfl k4 Tryz.underlying105 rfl (m:=2) (by kernel_rfl) rfl (.inl rfl) ?_
   rw[←hsz]
   exact⟨rfl,bel⟩
theorem sizeTerm_any (N:Nat)(t:Tm)(at_:Nat)(B:Nat)(v:Value)(w:World)(hN:t.nodes≤N)(hd:t.depth+at_≤900)(hrep:RepB w B t v)(hB:B≤w.heap.size):Calls Tryz.prog 57 #[v, .int .i64 (at_:Int)] w fun en w'=>en= .returned (.agg #[.int .i64 (szT t).1, .int .i64 (szT t).2])∧Grow w w':=by
 rw[←szU_low hd]
 exact sizeTerm_all N t at_ B v w hN (by omega) hrep hB
end Go.Proofs.YtaamkfajnpobfaaGreat
