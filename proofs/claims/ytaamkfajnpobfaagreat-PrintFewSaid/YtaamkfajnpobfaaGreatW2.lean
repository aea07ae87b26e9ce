/-
  Texts that were joined: TreE, TreF, TreG, TreH, TreI, DateA, DateB, CivA, DateC, BigA, BigB, BigC, BigD, BigE, BigF, BigG, BigH, BigI, TBigK, TNumR, TNumS, DateD. Conditions: what each theorem names.
-/
import Derived.Test.YtaamkfajnpobfaaGreatW1
set_option linter.unusedSectionVars false
namespace Go.Proofs.YtaamkfajnpobfaaGreat
open Go.RowKit
theorem kids_any (op:Int)(w:World):Calls Tryz.prog 77 #[.int .i64 op] w fun e w'=>e= .returned (.int .i64 (arityZ op))∧Grow w w':=by
 have bel:=Below.refl w.heap.size w
 refine Zs 23 Tryz.func77 ?_
 refine Zsr ?_
 refine Za ?_
 refine Zk2 0 2 (Zts (Zsr ?_))
 refine Zm ?_
 refine Zv (Runs.geq rfl rfl rfl) ?_
 refine Zm ?_
 refine SeqC.start ?_
 refine Zco (fun hcx=>Runs.move rfl rfl) ?_
 refine SeqC.next rfl rfl rfl rfl rfl rfl rfl (fun hcx=>Runs.leq rfl rfl rfl) ?_
 refine SeqC.and rfl rfl rfl rfl rfl rfl rfl ?_
 refine Zk3 0 2 8 (Zt ?_)
 refine Cd.cond rfl (fun h=> ?_) (fun h=> ?_)
 ·simp at h
  refine Zsr ?_
  refine Za ?_
  refine Zk3 0 2 8 (Zt (Cd.ret (Post.then_ret ?_)))
  refine Post.end1 rfl rfl (.inl rfl) ?_
  exact⟨ret1 (int_eq (by unfold arityZ;rw[if_pos h])),bel⟩
 ·simp at h
  refine Cd.skip (Zts (Zsr ?_))
  refine Zm ?_
  refine Zv (Runs.geq rfl rfl rfl) ?_
  refine Zm ?_
  refine SeqC.start ?_
  refine Zco (fun hcx=>Runs.move rfl rfl) ?_
  refine SeqC.next rfl rfl rfl rfl rfl rfl rfl (fun hcx=>Runs.leq rfl rfl rfl) ?_
  refine SeqC.and rfl rfl rfl rfl rfl rfl rfl ?_
  refine Zk4 0 2 8 14 (Zt ?_)
  refine Cd.cond rfl (fun h2=> ?_) (fun h2=> ?_)
  ·simp at h2
   refine Zsr ?_
   refine Za ?_
   refine Zk4 0 2 8 14 (Zt (Cd.ret (Post.then_ret ?_)))
   refine Post.end1 rfl rfl (.inl rfl) ?_
   exact⟨ret1 (int_eq (by unfold arityZ;rw[if_neg (by omega),if_pos h2])),bel⟩
  ·simp at h2
   refine Cd.skip (Zts (Zsr ?_))
   refine Zm ?_
   refine Zv (Runs.eqlI rfl rfl rfl) ?_
   refine Zm ?_
   refine SeqC.start ?_
   refine Zco (fun hcx=>Runs.move rfl rfl) ?_
   refine SeqC.next rfl rfl rfl rfl rfl rfl rfl (fun hcx=>Runs.eqlI rfl rfl rfl) ?_
   refine SeqC.or rfl rfl rfl rfl rfl rfl rfl ?_
   refine Zk5 0 2 8 14 20 (Zt ?_)
   refine Cd.cond rfl (fun h3=> ?_) (fun h3=> ?_)
   ·simp at h3
    refine Zsr ?_
    refine Za ?_
    refine Zk5 0 2 8 14 20 (Zt (Cd.ret (Post.then_ret ?_)))
    refine Post.end1 rfl rfl (.inl rfl) ?_
    exact⟨ret1 (int_eq (by unfold arityZ;rw[if_neg (by omega),if_neg (by omega),if_pos h3])),bel⟩
   ·simp at h3
    refine Cd.skip (Zts (Zsr ?_))
    refine Zm ?_
    refine Zv (Runs.eqlI rfl rfl rfl) ?_
    refine Zk6 0 2 8 14 20 22 (Zt ?_)
    refine Cd.condD rfl (fun hc=> ?_) (fun hc=> ?_)
    ·skip
     refine Zsr ?_
     refine Za ?_
     refine Zk6 0 2 8 14 20 22 (Zt (Cd.ret (Post.then_ret ?_)))
     refine Post.end1 rfl rfl (.inl rfl) ?_
     exact⟨ret1 (int_eq (by unfold arityZ;rw[if_neg (by omega),if_neg (by omega),if_neg (by omega),if_pos (by assumption)])),bel⟩
    ·skip
     refine Cd.skip (Ztq ?_)
     refine Za ?_
     refine Zk6 0 2 8 14 20 22 (Zt (Cd.ret ?_))
     refine Post.end1 rfl rfl (.inl rfl) ?_
     exact⟨ret1 (int_eq (by unfold arityZ;rw[if_neg (by omega),if_neg (by omega),if_neg (by omega),if_neg (by assumption)])),bel⟩
theorem reserved_byt:∀x∈reserved,∀d∈x,d<256:=by decide
theorem refReserved_any (l:List Nat)(w:World)(hl:∀d∈l,d<256):Calls Tryz.prog 69 #[.string (strOf l)] w fun e w'=>e= .returned (.bool (reservedB l))∧Grow w w':=by
 have bel:=Below.refl w.heap.size w
 have hat:∀j x,reserved[j]? =some x→(flatC (reserved.map fun x=>Value.string (strOf x))).toArray[j]? =some (Value.string (strOf x)):=fun j x h=>by
  have hj:=(List.getElem?_eq_some_iff.1 h).1
  replace hj:j<13:=hj
  rcases(show j=0∨j=1∨j=2∨j=3∨j=4∨j=5∨j=6∨j=7∨j=8∨j=9∨j=10∨j=11∨j=12 by omega) with rfl|rfl|rfl|rfl|rfl|rfl|rfl|rfl|rfl|rfl|rfl|rfl|rfl<;>(injection h with h;subst h;rfl)
 refine Zs 18 Tryz.func69 ?_
 refine Zsr ?_
 refine Za ?_
 refine Zk2 0 2 (Ztq ?_)
 refine Seq.slice (vs:=[_,_,_,_,_,_,_,_,_,_,_,_,_]) (s:=1) rfl rfl rfl Tryz.underlying114 (by kernel_rfl) (zero_string) (by omega) (by omega) ⟨rfl,rfl,rfl,rfl,rfl,rfl,rfl,rfl,rfl,rfl,rfl,rfl,rfl,trivial⟩ rfl rfl rfl ?_
 intro g5 w1 n5
 have e5:=Nat.le_trans bel.size n5.ge
 replace bel:=bel.step n5.below
 have k5:=n5.blk
 refine Za ?_
 refine Zk3 0 2 3 (Zts (Zsr ?_))
 refine Za ?_
 refine Zk4 0 2 3 4 (Zt (Cd.block ?_))
 refine Cd.loop (σ:=Nat) (fun k=>[(0, .string (strOf l)),(3, .slice (some ⟨g5,0,none⟩) 13 13),(4, .int .i64 (k:Int))])
  (fun k wr=>k≤13∧(∀x∈reserved.take k,l≠x)∧Below w.heap.size w wr∧Blk wr g5 9 (flatC (reserved.map fun x=>Value.string (strOf x))).toArray) (fun k=>13-k) 0 ⟨by omega,by simp,bel,k5⟩ ⟨rfl,rfl,rfl,trivial⟩ ?_
 clear bel k5
 rintro k wr ⟨hk,hno,bel,k5⟩
 refine Cd.seq (Zsr ?_)
 refine Zm ?_
 refine Zm ?_
 refine Zv (Runs.len rfl rfl Tryz.underlying114) ?_
 refine Zv (Runs.lss rfl rfl rfl) ?_
 refine Zk4 0 3 4 9 (Zt ?_)
 refine Cd.condD rfl (fun hc=> ?_) (fun hc=> ?_)
 ·obtain⟨x,hx⟩:∃x,reserved[k]? =some x:=⟨_,List.getElem?_eq_getElem (show k<reserved.length by show k<13;omega)⟩
  have htk:reserved.take (k+1)=reserved.take k++[x]:=by rw[List.take_add_one,hx];rfl
  have hxb:∀d∈x,d<256:=reserved_byt x (List.mem_of_getElem? hx)
  refine Cd.skip (Zts (Cd.block (Zsr ?_)))
  refine Zm ?_
  refine Zm ?_
  refine Zv (Runs.indexB rfl rfl rfl Tryz.underlying114 (by kernel_rfl) (j:=k) rfl (by omega)) ?_
  refine Zv (Runs.loadB rfl rfl Tryz.underlying9 rfl k5 (hat k x hx)) ?_
  refine Zm ?_
  refine Zv (Runs.eqlL (a:=x) (b:=l) rfl rfl rfl hxb hl) ?_
  refine Zk5 0 3 4 9 17 (Zt ?_)
  refine Cd.condD rfl (fun hq=> ?_) (fun hne=> ?_)
  ·skip
   refine Zsr ?_
   refine Za ?_
   refine Zk6 0 2 3 4 9 17 (Zt (Cd.ret (Post.block_ret (Post.then_ret (Post.round_ret (Post.block_ret (Post.then_ret ?_)))))))
   refine Post.end1 rfl rfl (.inl rfl) ?_
   refine⟨ret1 (bool_eq ?_),bel⟩
   unfold reservedB
   exact(List.any_eq_true.2 ⟨x,List.mem_of_getElem? hx,decide_eq_true hq.symm⟩).symm
  ·skip
   refine Cd.skip (Post.block_normal (Ztr ?_))
   refine Zm ?_
   refine Za_ ?_
   refine Za ?_
   refine Zk5 0 3 4 9 17 ?_
   refine Post.round (k+1) ⟨rfl,rfl,rfl,trivial⟩ ⟨by omega,fun y hy=> ?_,bel,k5⟩ (by omega)
   rw[htk] at hy
   rcases List.mem_append.1 hy with hy|hy
   ·exact hno y hy
   ·simp at hy
    subst hy
    exact fun h=>hne h.symm
 ·obtain rfl:k=13:=by omega
  rw[List.take_of_length_le (show reserved.length≤13 from Nat.le_refl _)] at hno
  refine Cd.exit (Post.then_exit (Post.round_exit (Post.block_exit (Ztq ?_))))
  refine Za ?_
  refine Zk5 0 2 3 4 9 (Zt (Cd.ret ?_))
  refine Post.end1 rfl rfl (.inl rfl) ?_
  refine⟨ret1 (bool_eq ?_),bel⟩
  unfold reservedB
  symm
  rw[List.any_eq_false]
  exact fun x hx=>by simpa using hno x hx
theorem refFree_any (l:List Nat)(w:World)(hl:∀d∈l,d<256)(hlen:l.length≤9223372036854775807):Calls Tryz.prog 78 #[.string (strOf l)] w fun e w'=>e= .returned (.bool (freeB l))∧Grow w w':=by
 have bel:=Below.refl w.heap.size w
 refine Zs 10 Tryz.func78 ?_
 refine Zsr ?_
 refine Za ?_
 refine Zk2 0 2 (Ztq ?_)
 refine Zm ?_
 refine Zc (Ze Tryz.func64) (refNamed_any l _ hl hlen) ?_
 rintro e w5 ⟨rfl,hb5⟩
 refine⟨_,rfl,?_⟩
 replace bel:=bel.step hb5
 refine Zm ?_
 refine SeqC.start ?_
 refine Zco (fun hcx=>Runs.move rfl rfl) ?_
 refine SeqC.nextC rfl rfl rfl rfl rfl rfl rfl (fun hcx=>Ze Tryz.func69) (fun hcx=>refReserved_any l _ hl) ?_
 intro w1 hw1
 replace bel:=bel.step hw1
 refine SeqC.next rfl rfl rfl rfl rfl rfl rfl (fun hcx=>Runs.not rfl rfl) ?_
 refine SeqC.and rfl rfl rfl rfl rfl rfl rfl ?_
 refine Za ?_
 refine Zk2 0 2 (Zt (Cd.ret ?_))
 refine Post.end1 rfl rfl (.inl rfl) ?_
 exact⟨ret1 (bool_eq (by unfold freeB;cases namedB l<;>rfl)),bel⟩
theorem refBuilt_any (N:Nat):∀(e:Ex) (B:Nat) (v:Value) (w:World),e.nodes≤N→Rep w B e v→B≤w.heap.size→Calls Tryz.prog 37 #[v] w fun en w'=>en= .returned (.bool (builtB e))∧Grow w w':=by
 induction N with
 |zero=>intro e B v w hN;have:=e.nodes_pos;omega
 |succ N ih=>
 intro e B v w hN hrep hB
 obtain⟨A,c,rfl,hv⟩:=hrep.open
 have bel:=Below.refl w.heap.size w
 have HB1:=hv.name
 have HB2:∀d∈([]:List Nat),d<256:=by simp
 have hnl:=hv.nlen
 have h60:=hv.h60
 have hn1:=hv.n.1
 have hn2:=hv.n.2
 have hbt:=builtB_eq e
 obtain⟨op,hop⟩:∃op,op=e.op:=⟨_,rfl⟩
 obtain⟨n,hn⟩:∃n,n=e.n:=⟨_,rfl⟩
 obtain⟨nm,hnm⟩:∃nm,nm=e.name:=⟨_,rfl⟩
 obtain⟨k,hk⟩:∃k,k=e.args.length:=⟨_,rfl⟩
 rw[←hop,←hn,←hnm,←hk] at hbt
 rw[←hnm] at HB1 hnl
 rw[←hn] at hn1 hn2
 rw[←hk] at h60
 rw[←hop,←hn,←hnm,←hk]
 have hbf:∀_:¬(arityZ op=(k:Int)∧(n=0∨op=1∨op=2)∧(nm=[]∨op=3)∧0≤n∧(op=2→n≤2932896)∧(op=3→freeB nm=true)),builtB e=false:=fun h=>by rw[hbt,headB_false h];rfl
 refine Zs 71 Tryz.func37 ?_
 refine Zsr ?_
 refine Seq.box rfl rfl rfl rfl rfl ?_
 intro g1 w1 n1
 have e1:=Nat.le_trans bel.size n1.ge
 replace bel:=bel.step n1.below
 have k1:=n1.blk
 refine Za ?_
 refine Zk3 0 1 2 (Zts (Cd.seq ?_))
 refine Cd.draw 7 (by kernel_rfl) [] (.inl rfl) rfl Grow Grow.refl (fun _ _ _=>Grow.trans) ?_
 intro w2 hw2 zw2
 replace bel:=bel.step hw2
 replace k1:=k1.step hw2
 have zbel:=bel.size
 have zlt:=k1.lt
 refine Zd (fun w hG=>Runs.fieldB 3 rfl rfl Tryz.underlying35 rfl (by kernel_rfl)) ?_
 refine Zd (fun w hG=>Runs.loadB rfl rfl Tryz.underlying22 rfl (k1.step hG) rfl) ?_
 refine Zd (fun w hG=>Runs.len rfl rfl Tryz.underlying22) ?_
 refine Zd (fun w hG=>Runs.fieldB 0 rfl rfl Tryz.underlying35 rfl (by kernel_rfl)) ?_
 refine Zd (fun w hG=>Runs.loadB rfl rfl Tryz.underlying3 rfl (k1.step hG) rfl) ?_
 refine Dr.callV rfl (fun w=>Ze Tryz.func77) rfl (fun w hG=>kids_any op w) ?_
 refine Zd (fun w hG=>Runs.neqI rfl rfl rfl) ?_
 refine Dr.nil ?_
 refine FinX.done (F':=[(0,_),(1,_),(2,_),(10,_)]) rfl ⟨rfl,rfl,rfl,rfl,trivial⟩ ?_
 intro w3 hw3 fw3
 replace bel:=bel.step hw3
 replace k1:=k1.step hw3
 refine Zk4 0 1 2 10 (Zt ?_)
 refine Cd.condD rfl (fun hc=> ?_) (fun hc=> ?_)
 ·skip
  refine Zsr ?_
  refine Za ?_
  refine Zk4 0 1 2 10 (Zt (Cd.ret (Post.then_ret ?_)))
  refine Post.end1 rfl rfl (.inl rfl) ?_
  rw[hbf (by omega)]
  exact⟨rfl,bel⟩
 ·skip
  refine Cd.skip (Zt ?_)
  refine Cd.seqJ (σ:=Unit) (fun _=>[(1, .pointer (some ⟨g1,0,none⟩))]) (fun _ wr=>headB op n nm k=true∧Below w.heap.size w wr∧Blk wr g1 35 #[.int .i64 op, .int .i64 n, .string (strOf nm), .slice A k c]) ?_ ?_
  ·skip
   refine Zsr ?_
   refine Zf 0 Tryz.underlying35 ?_
   refine Zv (Runs.loadB rfl rfl Tryz.underlying3 rfl k1 rfl) ?_
   refine Zk5 0 1 2 10 12 (Zt (Cd.block (Zsr ?_)))
   refine Zv (Runs.eqlI rfl rfl rfl) ?_
   refine Za ?_
   refine Zk6 0 1 2 10 12 21 (Zt ?_)
   refine Cd.condD rfl (fun ho=> ?_) (fun ho=> ?_)
   ·skip
    refine Zsr ?_
    refine Zf 1 Tryz.underlying35 ?_
    refine Zv (Runs.loadB rfl rfl Tryz.underlying2 rfl k1 rfl) ?_
    refine Zv (Runs.lss rfl rfl rfl) ?_
    refine Zm ?_
    refine SeqC.start ?_
    refine Zco (fun hcx=>Runs.fieldB 2 rfl rfl Tryz.underlying35 rfl (by kernel_rfl)) ?_
    refine SeqC.next rfl rfl rfl rfl rfl rfl rfl (fun hcx=>Runs.loadB rfl rfl Tryz.underlying9 rfl k1 rfl) ?_
    refine SeqC.next rfl rfl rfl rfl rfl rfl rfl (fun hcx=>Runs.neqL (b:=[]) rfl rfl rfl HB1 HB2) ?_
    refine SeqC.or rfl rfl rfl rfl rfl rfl rfl ?_
    refine Zk7 0 1 2 10 12 21 30 (Zt ?_)
    refine Cd.cond rfl (fun h=> ?_) (fun h=> ?_)
    ·skip
     refine Zsr ?_
     refine Za ?_
     refine Zk7 0 1 2 10 12 21 30 (Zt (Cd.ret (Post.block_ret (Post.then_ret ?_))))
     refine Post.end1 rfl rfl (.inl rfl) ?_
     simp at h
     rw[hbf (by rintro⟨-,-,h3,h4,-⟩;rcases h with h|h;omega;rcases h3 with h3|h3;exact h h3;omega)]
     exact⟨rfl,bel⟩
    ·simp at h
     refine Cd.skip (Post.block_normal ?_)
     exact Post.join () ⟨rfl,trivial⟩ ⟨headB_true (by omega) (by omega) (.inl h.2) (by omega) (by omega) (by omega),bel,k1⟩
   ·skip
    refine Zsr ?_
    refine Zv (Runs.eqlI rfl rfl rfl) ?_
    refine Za ?_
    refine Zk7 0 1 2 10 12 21 31 (Zt ?_)
    refine Cd.condD rfl (fun ho2=> ?_) (fun ho2=> ?_)
    ·skip
     refine Zsr ?_
     refine Zf 1 Tryz.underlying35 ?_
     refine Zv (Runs.loadB rfl rfl Tryz.underlying2 rfl k1 rfl) ?_
     refine Zv (Runs.lss rfl rfl rfl) ?_
     refine Zm ?_
     refine SeqC.start ?_
     refine Zco (fun hcx=>Runs.fieldB 1 rfl rfl Tryz.underlying35 rfl (by kernel_rfl)) ?_
     refine SeqC.next rfl rfl rfl rfl rfl rfl rfl (fun hcx=>Runs.loadB rfl rfl Tryz.underlying2 rfl k1 rfl) ?_
     refine SeqC.next rfl rfl rfl rfl rfl rfl rfl (fun hcx=>Runs.gtr rfl rfl rfl) ?_
     refine SeqC.or rfl rfl rfl rfl rfl rfl rfl ?_
     refine Zm ?_
     refine SeqC.start ?_
     refine Zco (fun hcx=>Runs.fieldB 2 rfl rfl Tryz.underlying35 rfl (by kernel_rfl)) ?_
     refine SeqC.next rfl rfl rfl rfl rfl rfl rfl (fun hcx=>Runs.loadB rfl rfl Tryz.underlying9 rfl k1 rfl) ?_
     refine SeqC.next rfl rfl rfl rfl rfl rfl rfl (fun hcx=>Runs.neqL (b:=[]) rfl rfl rfl HB1 HB2) ?_
     refine SeqC.or rfl rfl rfl rfl rfl rfl rfl ?_
     refine Zk8 0 1 2 10 12 21 31 45 (Zt ?_)
     refine Cd.cond rfl (fun h=> ?_) (fun h=> ?_)
     ·skip
      refine Zsr ?_
      refine Za ?_
      refine Zk8 0 1 2 10 12 21 31 45 (Zt (Cd.ret (Post.block_ret (Post.then_ret ?_))))
      refine Post.end1 rfl rfl (.inl rfl) ?_
      simp at h
      rw[hbf (by rintro⟨-,-,h3,h4,h5,-⟩;rcases h with (h|h)|h;omega;(have:=h5 ho2;omega);(rcases h3 with h3|h3;exact h h3;omega))]
      exact⟨rfl,bel⟩
     ·simp at h
      refine Cd.skip (Post.block_normal ?_)
      exact Post.join () ⟨rfl,trivial⟩ ⟨headB_true (by omega) (by omega) (.inl h.2) (by omega) (by omega) (by omega),bel,k1⟩
    ·skip
     refine Zsr ?_
     refine Zv (Runs.eqlI rfl rfl rfl) ?_
     refine Za ?_
     refine Zk8 0 1 2 10 12 21 31 46 (Zt ?_)
     refine Cd.condD rfl (fun ho3=> ?_) (fun ho3=> ?_)
     ·skip
      refine Zsr ?_
      refine Zf 1 Tryz.underlying35 ?_
      refine Zv (Runs.loadB rfl rfl Tryz.underlying2 rfl k1 rfl) ?_
      refine Zv (Runs.neqI rfl rfl rfl) ?_
      refine Zm ?_
      refine SeqC.start ?_
      refine Zco (fun hcx=>Runs.fieldB 2 rfl rfl Tryz.underlying35 rfl (by kernel_rfl)) ?_
      refine SeqC.next rfl rfl rfl rfl rfl rfl rfl (fun hcx=>Runs.loadB rfl rfl Tryz.underlying9 rfl k1 rfl) ?_
      refine SeqC.nextC rfl rfl rfl rfl rfl rfl rfl (fun hcx=>Ze Tryz.func78) (fun hcx=>refFree_any nm _ HB1 hnl) ?_
      intro w4 hw4
      replace bel:=bel.step hw4
      replace k1:=k1.step hw4
      refine SeqC.next rfl rfl rfl rfl rfl rfl rfl (fun hcx=>Runs.not rfl rfl) ?_
      refine SeqC.or rfl rfl rfl rfl rfl rfl rfl ?_
      refine Zk9 0 1 2 10 12 21 31 46 56 (Zt ?_)
      refine Cd.cond rfl (fun h=> ?_) (fun h=> ?_)
      ·skip
       refine Zsr ?_
       refine Za ?_
       refine Zk9 0 1 2 10 12 21 31 46 56 (Zt (Cd.ret (Post.block_ret (Post.then_ret ?_))))
       refine Post.end1 rfl rfl (.inl rfl) ?_
       simp at h
       rw[hbf (by rintro⟨-,h2,-,-,-,h6⟩;rcases h with h|h;omega;(rw[h6 ho3] at h;cases h))]
       exact⟨rfl,bel⟩
      ·simp at h
       refine Cd.skip (Post.block_normal ?_)
       exact Post.join () ⟨rfl,trivial⟩ ⟨headB_true (by omega) (.inl (by omega)) (.inr ho3) (by omega) (by omega) (fun _=>h.2),bel,k1⟩
     ·skip
      refine Zsr ?_
      refine Zf 1 Tryz.underlying35 ?_
      refine Zv (Runs.loadB rfl rfl Tryz.underlying2 rfl k1 rfl) ?_
      refine Zv (Runs.neqI rfl rfl rfl) ?_
      refine Zm ?_
      refine SeqC.start ?_
      refine Zco (fun hcx=>Runs.fieldB 2 rfl rfl Tryz.underlying35 rfl (by kernel_rfl)) ?_
      refine SeqC.next rfl rfl rfl rfl rfl rfl rfl (fun hcx=>Runs.loadB rfl rfl Tryz.underlying9 rfl k1 rfl) ?_
      refine SeqC.next rfl rfl rfl rfl rfl rfl rfl (fun hcx=>Runs.neqL (b:=[]) rfl rfl rfl HB1 HB2) ?_
      refine SeqC.or rfl rfl rfl rfl rfl rfl rfl ?_
      refine Zk9 0 1 2 10 12 20 21 31 46 (Zt ?_)
      refine Cd.cond rfl (fun h=> ?_) (fun h=> ?_)
      ·skip
       refine Zsr ?_
       refine Za ?_
       refine Zk9 0 1 2 10 12 20 21 31 46 (Zt (Cd.ret (Post.block_ret (Post.then_ret ?_))))
       refine Post.end1 rfl rfl (.inl rfl) ?_
       simp at h
       rw[hbf (by rintro⟨-,h2,h3,-⟩;rcases h with h|h;omega;(rcases h3 with h3|h3;exact h h3;omega))]
       exact⟨rfl,bel⟩
      ·simp at h
       refine Cd.skip (Post.block_normal ?_)
       exact Post.join () ⟨rfl,trivial⟩ ⟨headB_true (by omega) (.inl (by omega)) (.inl h.2) (by omega) (by omega) (by omega),bel,k1⟩
  clear bel k1
  rintro⟨⟩ wr ⟨hh,bel,k1⟩
  rw[hh,Bool.true_and] at hbt
  rw[hbt]
  clear hbf
  refine Cd.seq (Zsr ?_)
  refine Za ?_
  refine Zk2 1 3 (Zt (Cd.block ?_))
  refine Cd.loop (σ:=Nat) (fun j=>[(1, .pointer (some ⟨g1,0,none⟩)),(3, .int .i64 (j:Int))])
   (fun j wr=>j≤k∧(∀x∈e.args.take j,builtB x=true)∧Below w.heap.size w wr∧Blk wr g1 35 #[.int .i64 op, .int .i64 n, .string (strOf nm), .slice A k c]) (fun j=>k-j) 0 ⟨Nat.zero_le _,by simp,bel,k1⟩ ⟨rfl,rfl,trivial⟩ ?_
  clear bel k1
  rintro j wr ⟨hj,hall,bel,k1⟩
  refine Cd.seq (Zsr ?_)
  refine Zm ?_
  refine Zf 3 Tryz.underlying35 ?_
  refine Zv (Runs.loadB rfl rfl Tryz.underlying22 rfl k1 rfl) ?_
  refine Zv (Runs.len rfl rfl Tryz.underlying22) ?_
  refine Zv (Runs.lss rfl rfl rfl) ?_
  refine Zk3 1 3 61 (Zt ?_)
  refine Cd.condD rfl (fun hc=> ?_) (fun hc=> ?_)
  ·obtain⟨x,hx⟩:∃x,e.args[j]? =some x:=⟨_,List.getElem?_eq_getElem (show j<e.args.length by omega)⟩
   obtain⟨ad,A',c',rfl,hbl,hrx,hc⟩:=hv.arg j x hx
   have hxm:=List.mem_of_getElem? hx
   have hxn:=Ex.arg_nodes hxm
   have hc:=fun i u hj=>((bel.mono hB).cell (p:=(ad.add (j*4)).add i) (by rw[block_of_add,block_of_add];exact hbl)).trans (hc i u hj)
   have htk:e.args.take (j+1)=e.args.take j++[x]:=by rw[List.take_add_one,hx];rfl
   have hrec:=ih x B _ wr (by omega) (hrx.below (bel.mono hB)) (Nat.le_trans hB bel.size)
   refine Cd.skip (Zts (Cd.block (Zsr ?_)))
   refine Zf 3 Tryz.underlying35 ?_
   refine Zv (Runs.loadB rfl rfl Tryz.underlying22 rfl k1 rfl) ?_
   refine Zm ?_
   refine Zv (Runs.indexN rfl rfl rfl Tryz.underlying22 (s:=4) (by kernel_rfl) (j:=j) rfl (by omega)) ?_
   refine Zv (Runs.loadF (ps:=[.int .i64 x.op, .int .i64 x.n, .string (strOf x.name), .slice A' x.args.length c']) rfl rfl Tryz.underlying35 rfl (m:=4) (by kernel_rfl) rfl hc) ?_
   refine Zc (Ze Tryz.func37) (hrec) ?_
   rintro en w5 ⟨rfl,hb5⟩
   refine⟨_,rfl,?_⟩
   replace bel:=bel.step hb5
   replace k1:=k1.step hb5
   refine Zv (Runs.not rfl rfl) ?_
   refine Zk4 1 3 61 70 (Zt ?_)
   refine Cd.cond rfl (fun h=> ?_) (fun h=> ?_)
   ·skip
    refine Zsr ?_
    refine Za ?_
    refine Zk5 1 2 3 61 70 (Zt (Cd.ret (Post.block_ret (Post.then_ret (Post.round_ret (Post.block_ret (Post.then_ret ?_)))))))
    refine Post.end1 rfl rfl (.inl rfl) ?_
    refine⟨ret1 (bool_eq ?_),bel⟩
    symm
    rw[List.all_eq_false]
    exact⟨x,hxm,by simpa using h⟩
   ·skip
    refine Cd.skip (Post.block_normal (Ztr ?_))
    refine Zm ?_
    refine Za_ ?_
    refine Za ?_
    refine Zk4 1 3 61 70 ?_
    refine Post.round (j+1) ⟨rfl,rfl,trivial⟩ ⟨by omega,fun y hy=> ?_,bel,k1⟩ (by omega)
    rw[htk] at hy
    rcases List.mem_append.1 hy with hy|hy
    ·exact hall y hy
    ·simp at hy
     subst hy
     simpa using h
  ·obtain rfl:j=k:=by omega
   rw[List.take_of_length_le (by omega)] at hall
   refine Cd.exit (Post.then_exit (Post.round_exit (Post.block_exit (Ztq ?_))))
   refine Za ?_
   refine Zk4 1 2 3 61 (Zt (Cd.ret ?_))
   refine Post.end1 rfl rfl (.inl rfl) ?_
   refine⟨ret1 (bool_eq ?_),bel⟩
   symm
   rw[List.all_eq_true]
   exact hall
end Go.Proofs.YtaamkfajnpobfaaGreat
namespace Go.Proofs.YtaamkfajnpobfaaGreat
open Go.RowKit
theorem Runs.convU {P:Program}{E:Operand→Option Value}{o:Oper}{w:World}{x:Operand}{T T':TypeId}{p:Int}{r:Nat}(ho:o.op= .convert T T' x)(hx:E x=some (.int .i64 p))(hS:P.underlying T=some (.int .i64))(hT:P.underlying T'=some (.int .u64))(hr:p%18446744073709551616=(r:Int)):Runs P E o w (.int .u64 (r:Int)) w:=
 .convI ho hx hS hT (by rw[IntKind.wrap_u64,hr])
def earl (k:Int)(at_:Nat):Nat:=at_-1-(k%18446744073709551616).toNat%at_
theorem earlier_zero (k:Int)(w:World):Calls Tryz.prog 35 #[.int .i64 k, .int .i64 0] w fun e w'=>e= .returned (.int .i64 (-1))∧Grow w w':=by
 have bel:=Below.refl w.heap.size w
 refine Zs 16 Tryz.func35 ?_
 refine Zsr ?_
 refine Za ?_
 refine Zk3 0 1 4 (Zts (Zsr ?_))
 refine Zm ?_
 refine Zv (Runs.eqlI rfl rfl rfl) ?_
 refine Zk4 0 1 4 6 (Zt ?_)
 refine Cd.condT rfl rfl ?_
 refine Zsr ?_
 refine Za ?_
 refine Zk4 0 1 4 6 (Zt (Cd.ret (Post.then_ret ?_)))
 refine Post.end1 rfl rfl (.inl rfl) ?_
 exact⟨rfl,bel⟩
theorem earlier_any (k:Int)(at_:Nat)(w:World)(h0:0<at_)(h1:at_≤1000):Calls Tryz.prog 35 #[.int .i64 k, .int .i64 (at_:Int)] w fun e w'=>e= .returned (.int .i64 (earl k at_:Int))∧Grow w w':=by
 have bel:=Below.refl w.heap.size w
 obtain⟨u,hu⟩:∃u:Nat,k%18446744073709551616=(u:Int):=⟨(k%18446744073709551616).toNat,by omega⟩
 obtain⟨m,hm⟩:∃m,m=u%at_:=⟨_,rfl⟩
 have hml:m<at_:=by rw[hm];exact Nat.mod_lt _ h0
 have he:earl k at_=at_-1-m:=by unfold earl;rw[hu,hm,Int.toNat_natCast]
 rw[he]
 refine Zs 16 Tryz.func35 ?_
 refine Zsr ?_
 refine Za ?_
 refine Zk3 0 1 4 (Zts (Zsr ?_))
 refine Zm ?_
 refine Zv (Runs.eqlI rfl rfl rfl) ?_
 refine Zk4 0 1 4 6 (Zt ?_)
 refine Cd.condF rfl (decide_eq_false (by omega)) ?_
 refine Cd.skip (Ztq ?_)
 refine Zm ?_
 refine Zv (Runs.subI rfl rfl rfl (by omega) (by omega)) ?_
 refine Zm ?_
 refine Zv (Runs.convU (r:=u) rfl rfl Tryz.underlying3 Tryz.underlying52 hu) ?_
 refine Zm ?_
 refine Zv (Runs.convU (r:=at_) rfl rfl Tryz.underlying3 Tryz.underlying52 (by omega)) ?_
 refine Zv ((Runs.remN rfl rfl rfl (by omega) (by omega)).cast (v':= .int .u64 (m:Int)) (int_eq (by rw[hm];exact(Int.natCast_emod _ _).symm))) ?_
 refine Zv (Runs.convI rfl rfl Tryz.underlying52 Tryz.underlying3 (wrapI (by omega) (by omega))) ?_
 refine Zv (Runs.subI rfl rfl rfl (by omega) (by omega)) ?_
 refine Za ?_
 refine Zk4 0 1 4 6 (Zt (Cd.ret ?_))
 refine Post.end1 rfl rfl (.inl rfl) ?_
 exact⟨ret1 (int_eq (by omega)),bel⟩
def toldZ (n d:Int):Int × Int:=if 1000≤n∨1000≤d then(1000,1000) else(n,d)
theorem told_any (n d:Int)(w:World):Calls Tryz.prog 36 #[.int .i64 n, .int .i64 d] w fun e w'=>e= .returned (.tuple #[.int .i64 (toldZ n d).1, .int .i64 (toldZ n d).2])∧Grow w w':=by
 have bel:=Below.refl w.heap.size w
 refine Zs 14 Tryz.func36 ?_
 refine Zsr ?_
 refine Za ?_
 refine Za ?_
 refine Zk4 0 1 4 5 (Zts (Zsr ?_))
 refine Zm ?_
 refine Zv (Runs.geq rfl rfl rfl) ?_
 refine Zm ?_
 refine SeqC.start ?_
 refine Zco (fun hcx=>Runs.move rfl rfl) ?_
 refine SeqC.next rfl rfl rfl rfl rfl rfl rfl (fun hcx=>Runs.geq rfl rfl rfl) ?_
 refine SeqC.or rfl rfl rfl rfl rfl rfl rfl ?_
 refine Zk5 0 1 4 5 11 (Zt ?_)
 refine Cd.cond rfl (fun h=> ?_) (fun h=> ?_)
 ·simp at h
  refine Zsr ?_
  refine Za ?_
  refine Za ?_
  refine Zk5 0 1 4 5 11 (Zt (Cd.ret (Post.then_ret ?_)))
  refine Post.end2 rfl rfl rfl (.inl rfl) ?_
  unfold toldZ
  rw[if_pos h]
  exact⟨rfl,bel⟩
 ·simp at h
  refine Cd.skip (Ztq ?_)
  refine Zm ?_
  refine Zm ?_
  refine Za ?_
  refine Za ?_
  refine Zk5 0 1 4 5 11 (Zt (Cd.ret ?_))
  refine Post.end2 rfl rfl rfl (.inl rfl) ?_
  unfold toldZ
  rw[if_neg (by omega)]
  exact⟨rfl,bel⟩
structure Forest (w:World)(T:List Nat)(es:List Ex)(vs:List Value):Prop where
 len:vs.length=es.length
 lt:∀b∈T,b<w.heap.size
 rep:∀(i:Nat) (e:Ex) (v:Value),es[i]? =some e→vs[i]? =some v→RepE w (· ∈T) e v
section
variable {w w':World} {T:List Nat} {es:List Ex} {vs:List Value}
theorem Forest.keep (h:Forest w T es vs)(hs:w.heap.size≤w'.heap.size)(hb:∀b∈T,w'.heap[b]? =w.heap[b]?):Forest w' T es vs:=
 ⟨h.len,fun b hm=>Nat.lt_of_lt_of_le (h.lt b hm) hs,fun i e v he hv=>(h.rep i e v he hv).mono (fun _ h=>h) (fun p hp=>World.cell?_of_block (hb p.block hp))⟩
theorem Forest.step (h:Forest w T es vs)(hb:Below w.heap.size w w'):Forest w' T es vs:=h.keep hb.size (fun b hm=>hb.block b (h.lt b hm))
theorem Forest.grown {row:Option Nat}(h:Forest w T es vs)(hg:w.grownBy w' row)(hne:∀b,row=some b→b∉T):Forest w' T es vs:=h.keep hg.size (fun b hm=>hg.block b (h.lt b hm) (fun e=>hne b e.symm hm))
theorem Forest.nil (w:World):Forest w [] [] []:=⟨rfl,fun b h=>(by cases h),fun i e v h=>by cases h⟩
theorem Forest.cells (h:Forest w T es vs):sizes 4 vs:=by
 have:∀v∈vs,v.cells.size=4:=fun v hv=>by
  obtain⟨k,hk,rfl⟩:=List.getElem_of_mem hv
  obtain⟨z,hz⟩:∃z,es[k]? =some z:=⟨_,List.getElem?_eq_getElem (by have:=h.len;omega)⟩
  exact(h.rep k z _ hz (List.getElem?_eq_getElem hk)).cells4
 clear h
 induction vs with
 |nil=>trivial
 |cons v r ih=>exact⟨this v List.mem_cons_self,ih (fun u hu=>this u (List.mem_cons_of_mem _ hu))⟩
end
theorem Own.kept' {w w':World}{B size n:Nat}{e:TypeId}{v:Value}{xs:List Value}{row:Option Nat}(h:Own w B e size v n xs)(hg:w.grownBy w' row)(hne:∀b,v.ownBlock=some b→row≠some b):Own w' B e size v n xs:=by
 refine⟨h.row.kept hg ?_⟩
 cases hv:v.ownBlock with
 |none=>exact .inl rfl
 |some b=>exact .inr fun e'=>hne b hv e'.symm
theorem Own.blockLt {w:World}{B size n:Nat}{e:TypeId}{v:Value}{xs:List Value}(h:Own w B e size v n xs):∀b,v.ownBlock=some b→B≤b∧b<w.heap.size:=fun b hb=>by
 obtain⟨h1,h2⟩:=h.row
 rcases h2 with ⟨rfl,-⟩|⟨g',cap,cur,rfl,e2,e3,e4⟩
 ·cases hb
 ·injection hb with hb
  subst hb
  exact⟨e2,(show Blk w g' e cur from e3).lt⟩
section
variable {P:Program} {ops:Array Oper} {Q:Exit→Act→World→Prop} {rest:List Oper} {o:Oper} {n d:Nat} {F:List (Nat × Value)} {w:World} {v:Value} {x y:Operand}
theorem Seq.append2 {t e B B2 size b k m c:Nat}{A:Option Addr}{z:Value}{xs news:List Value}(ho:o.op= .call {callee:= .builtin .append,args:= #[x,y],argTypes:= #[t,t]}) (hx:evF F x=some v) (hy:evF F y=some (.slice A m c)) (ht:P.underlying t=some (.slice e)) (hs:sizeIs P e size=true) (hz:zeroIs P e=some (some z)) (hzs:z.cells.size=size) (hsz:0<size) (hby:(P.info? e).map (·.bytes)=some b)
  (hown:Own w B e size v k xs) (hr:Reads w B2 size A m news) (h1:∀u∈news,u.oneCell'=true) (hB:B≤w.heap.size) (h63:k+m≤maxLen) (hbytes:(k+m)*b≤140737488355328) (hg:o.guard=none) (hd:o.dst=some d) (hn:Nat.blt d n=true)
  (h:∀v' w',Own w' B e size v' (k+m) (xs++news)→App w w' B v→(v'.ownBlock=v.ownBlock∨v'.ownBlock=some w.heap.size)→Seq P ops Q rest n ((d,v')::F) w'):Seq P ops Q (o::rest) n F w:=by
 obtain⟨i,hi,hisz⟩:=sizeIs_spec hs
 have hz':i.zero=some z:=by unfold zeroIs at hz;rw[hi] at hz;injection hz
 have hb':i.bytes=b:=by rw[hi] at hby;injection hby
 obtain⟨v',w',hrun,h2,h3,h4⟩:=run_append_any (P:=P) w B t o.type e i z size b ht hi hz' hisz hb' hzs hsz v k xs hown.row B2 A m c news hr h1 h63 hbytes hB
 refine Seq.val (v:=v') (w':=w') (fun ρ hρ=> ?_) hg hd hn (h v' w' ⟨h2⟩ ⟨?_,h3⟩ h4)
 ·unfold execOp
  simp only[ho,resolve,invoke,builtin,Sem.run_bind,Sem.run_pure,Result.andThen_ok,List.map_toArray,List.map_cons,List.map_nil,hρ _ _ hx,hρ _ _ hy,hrun]
 ·refine⟨h3.os,h3.tape,h3.output,h3.size,fun j hj=>h3.block j (by omega) fun e'=> ?_⟩
  rcases hown.row.2 with ⟨rfl,_⟩|⟨g,cap,cur,rfl,hBg,_⟩
  ·cases e'
  ·injection e' with e'
   have:j=g:=e'
   omega
end
end Go.Proofs.YtaamkfajnpobfaaGreat
namespace Go.Proofs.YtaamkfajnpobfaaGreat
open Go.RowKit
structure Lf where
 op:Int
 n:Int
 name:List Nat
 kids:List Int
structure Lf.rng (x:Lf):Prop where
 op:I64 x.op
 n:I64 x.n
 name:∀d∈x.name,d<256
 nlen:x.name.length≤9223372036854775807
def zNodes (e:Ex):Int:=(toldZ (e.nodes:Int) (e.depth:Int)).1
def zDepth (e:Ex):Int:=(toldZ (e.nodes:Int) (e.depth:Int)).2
def sumN:List Ex→Int
 | []=>0
 |e::r=>zNodes e+sumN r
def maxD:List Ex→Int
 | []=>0
 |e::r=>max (zDepth e) (maxD r)
theorem sumN_snoc (l:List Ex)(e:Ex):sumN (l++[e])=sumN l+zNodes e:=by
 induction l with
 |nil=>show zNodes e+0=0+zNodes e;omega
 |cons x r ih=>show zNodes x+sumN (r++[e])=zNodes x+sumN r+zNodes e;omega
theorem z_bounds (e:Ex):0≤zNodes e∧zNodes e≤1000∧0≤zDepth e∧zDepth e≤1000:=by
 unfold zNodes zDepth toldZ
 split<;>omega
theorem maxD_nonneg (l:List Ex):0≤maxD l∧maxD l≤1000:=by
 induction l with
 |nil=>exact⟨Int.le_refl _,by decide⟩
 |cons x r ih=>have:=z_bounds x;show 0≤max (zDepth x) (maxD r)∧max (zDepth x) (maxD r)≤1000;omega
theorem maxD_snoc (l:List Ex)(e:Ex):maxD (l++[e])=max (maxD l) (zDepth e):=by
 induction l with
 |nil=>have:=z_bounds e;show max (zDepth e) 0=max 0 (zDepth e);omega
 |cons x r ih=>show max (zDepth x) (maxD (r++[e]))=max (max (zDepth x) (maxD r)) (zDepth e);omega
theorem sumN_bounds (l:List Ex):0≤sumN l∧sumN l≤1000*(l.length:Int):=by
 induction l with
 |nil=>exact⟨Int.le_refl _,by decide⟩
 |cons x r ih=>
  have:=z_bounds x
  have h:sumN (x::r)=zNodes x+sumN r:=rfl
  rw[h,List.length_cons]
  omega
theorem sum_or (l:List Ex):(sumN l=(nodesL l:Int)∧maxD l=(depthL l:Int))∨(1000≤sumN l∧1000≤nodesL l):=by
 induction l with
 |nil=>exact .inl ⟨rfl,rfl⟩
 |cons x r ih=>
  have hb:=sumN_bounds r
  have hz:=z_bounds x
  have h1:sumN (x::r)=zNodes x+sumN r:=rfl
  have h2:maxD (x::r)=max (zDepth x) (maxD r):=rfl
  have h3:nodesL (x::r)=x.nodes+nodesL r:=by rw[nodesL]
  have h4:depthL (x::r)=max x.depth (depthL r):=by rw[depthL]
  have hd:=x.depth_nodes
  rw[h1,h2,h3,h4]
  rcases ih with ⟨e1,e2⟩|⟨e1,e2⟩
  ·by_cases hbig:1000≤(x.nodes:Int)∨1000≤(x.depth:Int)
   ·have:zNodes x=1000:=by unfold zNodes toldZ;rw[if_pos hbig]
    right
    omega
   ·have g1:zNodes x=x.nodes:=by unfold zNodes toldZ;rw[if_neg hbig]
    have g2:zDepth x=x.depth:=by unfold zDepth toldZ;rw[if_neg hbig]
    left
    omega
  ·right;omega
theorem told_mk (op n:Int)(nm:List Nat)(l:List Ex):toldZ (1+sumN l) (1+maxD l)=(zNodes (.mk op n nm l),zDepth (.mk op n nm l)):=by
 have hn:=Ex.nodes_mk op n nm l
 have hd:=Ex.depth_mk op n nm l
 have hdn:=depthL_nodesL l
 have hm:=maxD_nonneg l
 unfold zNodes zDepth
 rw[hn,hd]
 rcases sum_or l with ⟨e1,e2⟩|⟨e1,e2⟩
 ·rw[e1,e2,Int.natCast_add,Int.natCast_add];rfl
 ·unfold toldZ
  rw[if_pos (by omega),if_pos (by omega)]
def pickK (es:List Ex)(ks:List Int):List Ex:=ks.filterMap fun k=>if es.length=0 then none else es[earl k es.length]?
theorem earl_lt (k:Int){n:Nat}(h:0<n):earl k n<n:=by unfold earl;omega
theorem pickK_none (es:List Ex)(ks:List Int)(k:Int)(h:es.length=0):pickK es (ks++[k])=pickK es ks:=by
 unfold pickK;rw[List.filterMap_append];simp[h]
theorem pickK_some (es:List Ex)(ks:List Int)(k:Int)(e:Ex)(h:es[earl k es.length]? =some e):pickK es (ks++[k])=pickK es ks++[e]:=by
 unfold pickK
 have h0:¬es.length=0:=fun h0=>by rw[List.eq_nil_of_length_eq_zero h0] at h;cases h
 rw[List.filterMap_append]
 simp only[h0,if_false]
 rw[List.filterMap_cons,h]
 rfl
theorem pickK_length (es:List Ex)(ks:List Int):(pickK es ks).length≤ks.length:=List.length_filterMap_le _ _
theorem pickK_mem {es:List Ex}{ks:List Int}{e:Ex}(h:e∈pickK es ks):e∈es:=by
 unfold pickK at h
 obtain⟨k,-,hk⟩:=List.mem_filterMap.1 h
 split at hk
 ·cases hk
 ·exact List.mem_of_getElem? hk
def leafE (es:List Ex)(x:Lf):Ex:= .mk x.op x.n x.name (pickK es (x.kids.take 5))
def addE (es:List Ex)(x:Lf):List Ex:=es++[leafE es x]
def treesOf (ls:List Lf):List Ex:=ls.foldl addE []
theorem treesOf_snoc (ls:List Lf)(x:Lf):treesOf (ls++[x])=treesOf ls++[leafE (treesOf ls) x]:=by
 unfold treesOf;rw[List.foldl_append];rfl
theorem treesOf_length (ls:List Lf):(treesOf ls).length=ls.length:=by
 have:∀(r:List Lf) (es:List Ex),(r.foldl addE es).length=es.length+r.length:=by
  intro r
  induction r with
  |nil=>intro es;rfl
  |cons x r ih=>intro es;rw[List.foldl_cons,ih];simp[addE];omega
 have h:=this ls []
 simpa[treesOf] using h
theorem depthL_le {l:List Ex}{m:Nat}(h:∀e∈l,e.depth≤m):depthL l≤m:=by
 induction l with
 |nil=>exact Nat.zero_le _
 |cons x r ih=>
  rw[depthL]
  have:=h x List.mem_cons_self
  have:=ih fun e he=>h e (List.mem_cons_of_mem _ he)
  omega
theorem treesOf_depth (ls:List Lf):∀e∈treesOf ls,e.depth≤ls.length:=by
 have key:∀(r:List Lf) (es:List Ex) (m:Nat),(∀e∈es,e.depth≤m)→∀e∈r.foldl addE es,e.depth≤m+r.length:=by
  intro r
  induction r with
  |nil=>intro es m h e he;exact h e he
  |cons x r ih=>
   intro es m h e he
   rw[List.foldl_cons] at he
   have:=ih (addE es x) (m+1) (fun e he=>by
    rcases List.mem_append.1 he with he|he
    ·have:=h e he;omega
    ·obtain rfl:=List.mem_singleton.1 he
     have:=depthL_le (fun e he=>h e (pickK_mem he):∀e∈pickK es (x.kids.take 5),e.depth≤m)
     unfold leafE
     rw[Ex.depth_mk];omega) e he
   rw[List.length_cons];omega
 intro e he
 have:=key ls [] 0 (by simp) e he
 omega
def DI (l:List Int):List Value:=l.map fun z=> .int .i64 z
theorem length_DI (l:List Int):(DI l).length=l.length:=by simp[DI]
theorem get_DI (l:List Int)(k:Nat):(DI l)[k]? =l[k]?.map (Value.int .i64):=by simp[DI]
theorem DI_append (a b:List Int):DI (a++b)=DI a++DI b:=by simp[DI]
theorem flatC_append (a b:List Value):flatC (a++b)=flatC a++flatC b:=by
 induction a with
 |nil=>rfl
 |cons v r ih=>show v.cells.toList++flatC (r++b)=(v.cells.toList++flatC r)++flatC b;rw[ih,List.append_assoc]
def LfAt (w:World)(B:Nat)(A:Option Addr)(xs:List Lf):Prop:=∀i x,xs[i]? =some x→∃ad A' c,A=some ad∧ad.block<B∧Reads w B 1 A' x.kids.length (DI x.kids)∧∀(j:Nat) (u:Value),([.int .i64 x.op, .int .i64 x.n, .string (strOf x.name), .slice A' x.kids.length c]:List Value)[j]? =some u→w.cell? ((ad.add (i*4)).add j)=some u
theorem LfAt.below {w w':World}{B:Nat}{A:Option Addr}{xs:List Lf}(h:LfAt w B A xs)(hb:Below B w w'):LfAt w' B A xs:=fun i x hx=>by
 obtain⟨ad,A',c,e1,e2,e3,e4⟩:=h i x hx
 exact⟨ad,A',c,e1,e2,e3.below hb,fun j u hu=>(hb.cell (by rw[block_of_add,block_of_add];exact e2)).trans (e4 j u hu)⟩
def blocksOf (v:Value):List Nat:=v.ownBlock.toList
theorem mem_blocksOf {v:Value}{b:Nat}:b∈blocksOf v↔v.ownBlock=some b:=by
 unfold blocksOf;cases v.ownBlock<;>simp[eq_comm]
theorem Forest.more {w:World}{T:List Nat}{es args:List Ex}{vs avs:List Value}{B:Nat}{o n:Int}{nm:List Nat}{vA:Value}(h:Forest w T es vs)(hl:avs.length=args.length)(h60:args.length≤1000)(hop:I64 o)(hn:I64 n)(hnm:∀d∈nm,d<256)(hnl:nm.length≤9223372036854775807)
  (hr:∀(i:Nat) (e:Ex) (v:Value),args[i]? =some e→avs[i]? =some v→RepE w (· ∈T) e v) (hA:Own w B 35 4 vA args.length (flatC avs)):
  Forest w (blocksOf vA++T) (es++[.mk o n nm args]) (vs++[.agg #[.int .i64 o, .int .i64 n, .string (strOf nm),vA]]):=by
 obtain⟨A,c,hv,hrd⟩:=hA.reads
 have hbl:=hA.blockLt
 refine⟨by rw[List.length_append,List.length_append,h.len];rfl,fun b hm=> ?_,fun i e v he hvi=> ?_⟩
 ·rcases List.mem_append.1 hm with hm|hm
  ·exact(hbl b (mem_blocksOf.1 hm)).2
  ·exact h.lt b hm
 ·rcases Nat.lt_or_ge i es.length with hi|hi
  ·rw[List.getElem?_append_left hi] at he
   rw[List.getElem?_append_left (by rw[h.len];exact hi)] at hvi
   exact(h.rep i e v he hvi).mono (fun b hb=>List.mem_append_right _ hb) (fun _ _=>rfl)
  ·rw[List.getElem?_append_right hi] at he
   rw[List.getElem?_append_right (by rw[h.len];exact hi),h.len] at hvi
   have h0:i-es.length=0:=by
    have:=(List.getElem?_eq_some_iff.1 he).1
    simp at this
    exact this
   rw[h0] at he hvi
   injection he with he
   injection hvi with hvi
   subst he hvi
   subst hv
   refine .mk hl h60 hop hn hnm hnl (fun i e v he hv=>(hr i e v he hv).mono (fun b hb=>List.mem_append_right _ hb) (fun _ _=>rfl)) fun hne=> ?_
   have hpos:0<args.length:=by
    rcases Nat.eq_zero_or_pos args.length with h0|h0
    ·have:avs=[]:=List.eq_nil_of_length_eq_zero (by omega)
     rw[this] at hne
     exact absurd rfl hne
    ·exact h0
   obtain⟨ad,rfl,-,hc⟩:=hrd.2 hpos
   exact⟨ad,rfl,List.mem_append_left _ (mem_blocksOf.2 rfl),hc⟩
end Go.Proofs.YtaamkfajnpobfaaGreat
namespace Go.Proofs.YtaamkfajnpobfaaGreat
open Go.RowKit
theorem earlierC (k:Int)(i:Nat)(w:World)(h:i≤1000):Calls Tryz.prog 35 #[.int .i64 k, .int .i64 (i:Int)] w fun e w'=>(∃z,e= .returned (.int .i64 z)∧((i=0∧z= -1)∨(0<i∧z=(earl k i:Int))))∧Grow w w':=by
 rcases Nat.eq_zero_or_pos i with rfl|h0
 ·exact(earlier_zero k w).mono fun e w' h=>⟨⟨_,h.1, .inl ⟨rfl,rfl⟩⟩,h.2⟩
 ·exact(earlier_any k i w h0 h).mono fun e w' h=>⟨⟨_,h.1, .inr ⟨h0,rfl⟩⟩,h.2⟩
theorem toldC (n d:Int)(l:List Ex)(op m:Int)(nm:List Nat)(w:World)(hn:n=1+sumN l)(hd:d=1+maxD l):Calls Tryz.prog 36 #[.int .i64 n, .int .i64 d] w fun e w'=>e= .returned (.tuple #[.int .i64 (zNodes (.mk op m nm l)), .int .i64 (zDepth (.mk op m nm l))])∧Grow w w':=by
 have h:=told_any n d w
 subst hn hd
 rw[told_mk op m nm l] at h
 exact h
theorem run_build_Tree (w:World):(Instr.build 45 #[]).run Tryz.prog w= .ok (.agg #[.slice none 0 0, .slice none 0 0, .slice none 0 0, .slice none 0 0, .slice none 0 0, .slice none 0 0]) w:=by kernel_rfl
theorem run_build_Ex (a b:Int)(s:List Nat)(w:World):(Instr.build 35 #[(0, .int .i64 a),(1, .int .i64 b),(2, .string (strOf s))]).run Tryz.prog w= .ok (.agg #[.int .i64 a, .int .i64 b, .string (strOf s), .slice none 0 0]) w:=by
 have hu:=Tryz.underlying35
 go_simp
theorem zero_debentureref18_Tree:zeroIs Tryz.prog 45=some (some (.agg #[.slice none 0 0, .slice none 0 0, .slice none 0 0, .slice none 0 0, .slice none 0 0, .slice none 0 0])):=by kernel_rfl
theorem zero_debentureref18_Leaf:zeroIs Tryz.prog 77=some (some (.agg #[.int .i64 0, .int .i64 0, .string {data:= #[]}, .slice none 0 0])):=by kernel_rfl
theorem Own.app {B B2 B' n n2 size size2:Nat}{w w':World}{e e2:TypeId}{v v2:Value}{xs xs2:List Value}(h:Own w B e size v n xs)(o:Own w B2 e2 size2 v2 n2 xs2)(ha:App w w' B' v2)(hne:e2≠e:=by decide):Own w' B e size v n xs:=by
 refine⟨h.row.kept ha.grown ?_⟩
 obtain⟨h1,h2⟩:=h.row
 rcases h2 with ⟨rfl,-⟩|⟨g',cap,cur,rfl,e2,e3,e4⟩
 ·exact .inl rfl
 ·exact .inr fun e'=>own_blk_ne o.row (show Blk w g' e cur from e3) hne e'.symm
theorem Blk.app {k n B B' size:Nat}{w w':World}{t e:TypeId}{cs:Array Value}{v:Value}{xs:List Value}(h:Blk w k t cs)(o:Own w B e size v n xs)(ha:App w w' B' v)(hne:e≠t:=by decide):Blk w' k t cs:=h.grown ha.grown (fun e'=>own_blk_ne o.row h hne e'.symm)
theorem Forest.put {w w':World}{T:List Nat}{es:List Ex}{vs:List Value}{g B:Nat}{t:TypeId}{cur cs:Array Value}(h:Forest w T es vs)(_k:Blk w g t cur)(p:Put w w' g t cs)(_e:B≤g)(hne:g∉T:=by assumption):Forest w' T es vs:=
 h.grown p.grown fun b e=>by injection e with e;exact e▸hne
def Apart (v:Value)(T:List Nat):Prop:=∀b,v.ownBlock=some b→b∉T
theorem Apart.more {v vA:Value}{T:List Nat}{N:Nat}(h:Apart v T)(hlt:∀b,v.ownBlock=some b→b<N)(hA:∀b,vA.ownBlock=some b→N≤b):Apart v (blocksOf vA++T):=fun b hb hm=>by
 rcases List.mem_append.1 hm with hm|hm
 ·have:=hlt b hb;have:=hA b (mem_blocksOf.1 hm);omega
 ·exact h b hb hm
theorem Apart.app {v v':Value}{T:List Nat}{N:Nat}(h:Apart v T)(hlt:∀b∈T,b<N)(hv:v'.ownBlock=v.ownBlock∨v'.ownBlock=some N):Apart v' T:=fun b hb hm=>by
 rcases hv with hv|hv
 ·exact h b (hv▸hb) hm
 ·rw[hv] at hb;injection hb with hb;subst hb;exact Nat.lt_irrefl _ (hlt _ hm)
theorem Forest.app {w w':World}{T:List Nat}{es:List Ex}{vs:List Value}{B:Nat}{v:Value}(h:Forest w T es vs)(hv:Apart v T)(ha:App w w' B v):Forest w' T es vs:=h.grown ha.grown fun b e=>hv b e
def Two (v u:Value):Prop:=∀b,v.ownBlock=some b→u.ownBlock≠some b
theorem Two.symm {v u:Value}(h:Two v u):Two u v:=fun b hb hv=>h b hv hb
theorem Two.app {v u u':Value}{N:Nat}(h:Two v u)(hlt:∀b,v.ownBlock=some b→b<N)(hu:u'.ownBlock=u.ownBlock∨u'.ownBlock=some N):Two v u':=fun b hb hm=>by
 rcases hu with hu|hu
 ·exact h b hb (hu▸hm)
 ·rw[hu] at hm;injection hm with hm;subst hm;exact Nat.lt_irrefl _ (hlt _ hb)
def BuiltR (B:Nat)(es:List Ex)(v:Value)(w:World):Prop:=∃T vs vE vN vD,v= .agg #[vE,vN,vD, .slice none 0 0, .slice none 0 0, .slice none 0 0]∧Forest w T es vs∧Own w B 35 4 vE es.length (flatC vs)∧Own w B 3 1 vN es.length (DI (es.map zNodes))∧Own w B 3 1 vD es.length (DI (es.map zDepth))
theorem build_any (n c:Nat)(A:Option Addr)(xs:List Lf)(w:World)(hl:xs.length=n)(h60:n≤60)(hx:∀x∈xs,x.rng)(hA:LfAt w w.heap.size A xs):
  Calls Tryz.prog 16 #[.slice A n c, .slice none 0 0] w fun e w'=>(∃v,e= .returned v∧BuiltR w.heap.size (treesOf xs) v w')∧Grow w w':=by
 have bel:=Below.refl w.heap.size w
 refine Zs 249 Tryz.func16 ?_
 refine Zsr ?_
 refine Zl zero_debentureref18_Tree ?_
 intro g4 w1 n4
 have e4:=Nat.le_trans bel.size n4.ge
 replace bel:=bel.step n4.below
 have k4:=n4.blk
 refine Zk3 0 1 4 (Ztq ?_)
 refine Zv (Runs.build rfl rfl (run_build_Tree _)) ?_
 refine Zl zero_debentureref18_Tree ?_
 intro g5 w2 n5
 have e5:=Nat.le_trans bel.size n5.ge
 have l5:=Nat.lt_of_lt_of_le k4.lt n5.ge
 replace bel:=bel.step n5.below
 replace k4:=k4.step n5.below
 have k5:=n5.blk
 refine Zo 6 k5 ?_
 intro w3 pw3
 replace bel:=bel.put k5 pw3 e5
 replace k4:=k4.put pw3 (by omega)
 replace k5:=pw3.blk
 refine Zk4 0 1 4 5 (Zts (Zsr ?_))
 refine Za ?_
 refine Zk5 0 1 4 5 6 (Zt (Cd.block ?_))
 refine Cd.loop (σ:=Nat × List Nat × List Value × Value × Value × Value) (fun s=>[(0, .slice A n c),(1, .slice none 0 0),(4, .pointer (some ⟨g4,0,none⟩)),(5, .pointer (some ⟨g5,0,none⟩)),(6, .int .i64 (s.1:Int))])
  (fun s wr=>s.1≤n∧Below w.heap.size w wr∧Blk wr g4 45 #[.slice none 0 0, .slice none 0 0, .slice none 0 0, .slice none 0 0, .slice none 0 0, .slice none 0 0]∧Blk wr g5 45 #[s.2.2.2.1,s.2.2.2.2.1,s.2.2.2.2.2, .slice none 0 0, .slice none 0 0, .slice none 0 0]∧
   Forest wr s.2.1 (treesOf (xs.take s.1)) s.2.2.1∧(∀b∈s.2.1,g5<b)∧Own wr w.heap.size 35 4 s.2.2.2.1 (treesOf (xs.take s.1)).length (flatC s.2.2.1)∧Own wr w.heap.size 3 1 s.2.2.2.2.1 (treesOf (xs.take s.1)).length (DI ((treesOf (xs.take s.1)).map zNodes))∧Own wr w.heap.size 3 1 s.2.2.2.2.2 (treesOf (xs.take s.1)).length (DI ((treesOf (xs.take s.1)).map zDepth))∧
   Apart s.2.2.2.1 s.2.1∧Apart s.2.2.2.2.1 s.2.1∧Apart s.2.2.2.2.2 s.2.1∧Two s.2.2.2.2.1 s.2.2.2.2.2)
  (fun s=>n-s.1) (0,[],[], .slice none 0 0, .slice none 0 0, .slice none 0 0)
  ⟨Nat.zero_le _,bel,k4,k5,Forest.nil _,fun b h=>(by cases h),Own.nil _ _ _ _,Own.nil _ _ _ _,Own.nil _ _ _ _,fun b h=>(by cases h),fun b h=>(by cases h),fun b h=>(by cases h),fun b h=>(by cases h)⟩ ⟨rfl,rfl,rfl,rfl,rfl,trivial⟩ ?_
 clear bel k4 k5
 rintro⟨i,T,vs,vE,vN,vD⟩ wr ⟨hi,bel,k4,k5,fo,hfar,oE,oN,oD,aE,aN,aD,aND⟩
 dsimp only at hi k5 fo hfar oE oN oD aE aN aD aND⊢
 have hTl:(treesOf (xs.take i)).length=i:=by rw[treesOf_length,List.length_take];omega
 refine Cd.seq (Zsr ?_)
 refine Zm ?_
 refine Zm ?_
 refine Zv (Runs.len rfl rfl Tryz.underlying41) ?_
 refine Zv (Runs.lss rfl rfl rfl) ?_
 refine Zm ?_
 refine SeqC.start ?_
 refine Zco (fun hcx=>Runs.move rfl rfl) ?_
 refine SeqC.next rfl rfl rfl rfl rfl rfl rfl (fun hcx=>Runs.lss rfl rfl rfl) ?_
 refine SeqC.and rfl rfl rfl rfl rfl rfl rfl ?_
 refine Zk6 0 1 4 5 6 30 (Zt ?_)
 refine Cd.cond rfl (fun hc=> ?_) (fun hc=> ?_)
 ·simp only[Bool.and_eq_true,decide_eq_true_eq] at hc
  obtain⟨x,hxi⟩:∃x,xs[i]? =some x:=⟨_,List.getElem?_eq_getElem (show i<xs.length by omega)⟩
  have hrng:=hx x (List.mem_of_getElem? hxi)
  have htake:treesOf (xs.take (i+1))=treesOf (xs.take i)++[leafE (treesOf (xs.take i)) x]:=by rw[List.take_add_one,hxi];exact treesOf_snoc _ _
  obtain⟨ad,A',c',rfl,hadb,hrd,hcell⟩:=(hA.below bel) i x hxi
  generalize treesOf (xs.take i)=es at *
  have bel0:=bel
  replace bel:=Below.refl wr.heap.size wr
  have hg5:=k5.lt
  have oE0:=oE
  have oN0:=oN
  have oD0:=oD
  refine Cd.skip (Zts (Cd.block (Zsr ?_)))
  refine Zm ?_
  refine Zm ?_
  refine Zv (Runs.indexN rfl rfl rfl Tryz.underlying41 (s:=4) (by kernel_rfl) (j:=i) rfl (by omega)) ?_
  refine Zv (Runs.loadF (ps:=[.int .i64 x.op, .int .i64 x.n, .string (strOf x.name), .slice A' x.kids.length c']) rfl rfl Tryz.underlying77 rfl (m:=4) (by kernel_rfl) rfl hcell) ?_
  refine Zl zero_debentureref18_Leaf ?_
  intro g7 w4 n7
  have e7:=Nat.le_trans bel.size n7.ge
  have l7:=Nat.lt_of_lt_of_le k5.lt n7.ge
  replace bel:=bel.step n7.below
  replace k5:=k5.step n7.below
  have k7:=n7.blk
  refine Zo 4 k7 ?_
  intro w5 pw5
  replace bel:=bel.put k7 pw5 e7
  replace k5:=k5.put pw5 (by omega)
  replace k7:=pw5.blk
  refine Zk7 0 1 4 5 6 7 30 (Ztq ?_)
  refine Zf 0 Tryz.underlying77 ?_
  refine Zv (Runs.loadB rfl rfl Tryz.underlying3 rfl k7 rfl) ?_
  refine Zf 1 Tryz.underlying77 ?_
  refine Zv (Runs.loadB rfl rfl Tryz.underlying2 rfl k7 rfl) ?_
  refine Zf 2 Tryz.underlying77 ?_
  refine Zv (Runs.loadB rfl rfl Tryz.underlying9 rfl k7 rfl) ?_
  refine Zv (Runs.build rfl rfl (run_build_Ex _ _ _ _)) ?_
  refine Zl zero_api_Expr ?_
  intro g8 w6 n8
  have e8:=Nat.le_trans bel.size n8.ge
  have l8:=Nat.lt_of_lt_of_le k7.lt n8.ge
  have l8_k5:=Nat.lt_of_lt_of_le k5.lt n8.ge
  replace bel:=bel.step n8.below
  replace k5:=k5.step n8.below
  replace k7:=k7.step n8.below
  have k8:=n8.blk
  refine Zo 4 k8 ?_
  intro w7 pw7
  replace bel:=bel.put k8 pw7 e8
  replace k5:=k5.put pw7 (by omega)
  replace k7:=k7.put pw7 (by omega)
  replace k8:=pw7.blk
  refine Zk8 0 1 4 5 6 7 8 30 (Ztq ?_)
  refine Za ?_
  refine Za ?_
  refine Zk10 0 1 4 5 6 7 8 9 10 30 (Zts (Zsr ?_))
  refine Za ?_
  refine Zk11 0 1 4 5 6 7 8 9 10 11 30 (Zt (Cd.block ?_))
  refine Cd.loop (σ:=Nat × List Value × Value × Int × Int) (fun s=>[(0, .slice (some ad) n c),(1, .slice none 0 0),(4, .pointer (some ⟨g4,0,none⟩)),(5, .pointer (some ⟨g5,0,none⟩)),(6, .int .i64 (i:Int)),(7, .pointer (some ⟨g7,0,none⟩)),(8, .pointer (some ⟨g8,0,none⟩)),(9, .int .i64 s.2.2.2.1),(10, .int .i64 s.2.2.2.2),(11, .int .i64 (s.1:Int))])
   (fun s w2=>s.1≤x.kids.length∧s.1≤5∧Below wr.heap.size wr w2∧Blk w2 g5 45 #[vE,vN,vD, .slice none 0 0, .slice none 0 0, .slice none 0 0]∧Blk w2 g7 77 #[.int .i64 x.op, .int .i64 x.n, .string (strOf x.name), .slice A' x.kids.length c']∧Blk w2 g8 35 #[.int .i64 x.op, .int .i64 x.n, .string (strOf x.name),s.2.2.1]∧
    OwnA w2 (g8+1) 35 4 s.2.2.1 (pickK es (x.kids.take s.1)).length (flatC s.2.1)∧s.2.1.length=(pickK es (x.kids.take s.1)).length∧(∀j e v,(pickK es (x.kids.take s.1))[j]? =some e→s.2.1[j]? =some v→RepE wr (· ∈T) e v)∧s.2.2.2.1=1+sumN (pickK es (x.kids.take s.1))∧s.2.2.2.2=1+maxD (pickK es (x.kids.take s.1)))
   (fun s=>5-s.1) (0,[], .slice none 0 0,1,1)
   ⟨Nat.zero_le _,Nat.zero_le _,bel,k5,k7,k8,⟨Own.nil _ _ _ _⟩,rfl,(fun j e v h=>absurd ((List.getElem?_nil (α:=Ex) (i:=j)).symm.trans h) (fun h=>by cases h)),rfl,rfl⟩ ⟨rfl,rfl,rfl,rfl,rfl,rfl,rfl,rfl,rfl,rfl,trivial⟩ ?_
  clear bel k5 k7 k8
  rintro⟨k,avs,vA,nn,dd⟩ w2 ⟨hk,hk5,bel,k5,k7,k8,own,havl,hrep,hnn,hdd⟩
  dsimp only at hk hk5 k8 own havl hrep hnn hdd⊢
  have hlA:=own.own.blockLt
  have hpl:=pickK_length es (x.kids.take k)
  have hpl2:(x.kids.take k).length≤k:=by rw[List.length_take];omega
  have hsb:=sumN_bounds (pickK es (x.kids.take k))
  have hmb:=maxD_nonneg (pickK es (x.kids.take k))
  refine Cd.seq (Zsr ?_)
  refine Zm ?_
  refine Zf 3 Tryz.underlying77 ?_
  refine Zv (Runs.loadB rfl rfl Tryz.underlying43 rfl k7 rfl) ?_
  refine Zv (Runs.len rfl rfl Tryz.underlying43) ?_
  refine Zv (Runs.lss rfl rfl rfl) ?_
  refine Zm ?_
  refine SeqC.start ?_
  refine Zco (fun hcx=>Runs.move rfl rfl) ?_
  refine SeqC.next rfl rfl rfl rfl rfl rfl rfl (fun hcx=>Runs.lss rfl rfl rfl) ?_
  refine SeqC.and rfl rfl rfl rfl rfl rfl rfl ?_
  refine Zk11 0 1 4 5 6 7 8 9 10 11 52 (Zt ?_)
  refine Cd.cond rfl (fun hc=> ?_) (fun hc=> ?_)
  ·simp only[Bool.and_eq_true,decide_eq_true_eq] at hc
   obtain⟨z,hz⟩:∃z,x.kids[k]? =some z:=⟨_,List.getElem?_eq_getElem (by omega)⟩
   obtain⟨ad',rfl,hbl',hc'⟩:=hrd.2 (by omega)
   have hc':=fun W (hb:Below wr.heap.size wr W)=>(hb.cell (p:=ad'.add k) (by rw[block_of_add];have:=bel0.size;omega)).trans (hc' k (.int .i64 z) (by rw[get_DI,hz];rfl))
   have hks:x.kids.take (k+1)=x.kids.take k++[z]:=by rw[List.take_add_one,hz];rfl
   refine Cd.skip (Zts (Cd.block (Zsr ?_)))
   refine Zf 3 Tryz.underlying77 ?_
   refine Zv (Runs.loadB rfl rfl Tryz.underlying43 rfl k7 rfl) ?_
   refine Zm ?_
   refine Zv (Runs.index1 rfl rfl rfl Tryz.underlying43 (by kernel_rfl) (j:=k) rfl (by omega)) ?_
   refine Zv (Runs.load1 rfl rfl Tryz.underlying3 rfl (hc' _ bel)) ?_
   refine Zm ?_
   refine Zc (Ze Tryz.func35) (earlierC z i _ (by omega)) ?_
   rintro e w5 ⟨⟨z',rfl,hz'⟩,hb5⟩
   refine⟨_,rfl,?_⟩
   replace bel:=bel.step hb5
   replace k5:=k5.step hb5
   replace k7:=k7.step hb5
   replace k8:=k8.step hb5
   replace own:=own.step hb5
   refine Za ?_
   refine Zk12 0 1 4 5 6 7 8 9 10 11 12 52 (Ztq ?_)
   refine Zm ?_
   refine Zv (Runs.geq rfl rfl rfl) ?_
   refine Zk13 0 1 4 5 6 7 8 9 10 11 12 52 63 (Zt ?_)
   refine Cd.condD rfl (fun h=> ?_) (fun h=> ?_)
   ·obtain⟨h0i,rfl⟩:0<i∧z'=(earl z i:Int):=by rcases hz' with ⟨h1,h2⟩|h2;exact absurd h (by omega);exact h2
    clear hz'
    have hj:=earl_lt z h0i
    generalize hjj:earl z i=j at *
    obtain⟨e,he⟩:∃e,es[j]? =some e:=⟨_,List.getElem?_eq_getElem (by omega)⟩
    obtain⟨ev,hev⟩:∃ev,vs[j]? =some ev:=⟨_,List.getElem?_eq_getElem (by rw[fo.len];omega)⟩
    have hre:=fo.rep j e ev he hev
    obtain⟨AA,cc,rfl⟩:=hre.form
    have h4:∀y∈vs,y.cells.size=4:=sizes_spec fo.cells
    obtain⟨aE0,cE,rfl,hrE⟩:=oE.reads
    obtain⟨adE,rfl,hbE,hcE⟩:=hrE.2 (by omega)
    have hcE:∀W,Below wr.heap.size wr W→∀(q:Nat) (u:Value),([.int .i64 e.op, .int .i64 e.n, .string (strOf e.name), .slice AA e.args.length cc]:List Value)[q]? =some u→W.cell? ((adE.add (j*4)).add q)=some u:=fun W hb q u hq=>(hb.cell (p:=(adE.add (j*4)).add q) (by rw[block_of_add,block_of_add];exact hbE)).trans (by rw[add_of_add];exact hcE _ _ (flatC_at h4 hev q u (by simpa[Value.cells] using hq)))
    obtain⟨aN0,cN,rfl,hrN⟩:=oN.reads
    obtain⟨adN,rfl,hbN,hcN⟩:=hrN.2 (by omega)
    have hcN:=fun W (hb:Below wr.heap.size wr W)=>(hb.cell (p:=adN.add j) (by rw[block_of_add];exact hbN)).trans (hcN j (.int .i64 (zNodes e)) (by rw[get_DI,List.getElem?_map,he];rfl))
    obtain⟨aD0,cD,rfl,hrD⟩:=oD.reads
    obtain⟨adD,rfl,hbD,hcD⟩:=hrD.2 (by omega)
    have hcD:=fun W (hb:Below wr.heap.size wr W)=>(hb.cell (p:=adD.add j) (by rw[block_of_add];exact hbD)).trans (hcD j (.int .i64 (zDepth e)) (by rw[get_DI,List.getElem?_map,he];rfl))
    have hpk:pickK es (x.kids.take (k+1))=pickK es (x.kids.take k)++[e]:=by rw[hks];exact pickK_some _ _ _ _ (by rw[hTl,hjj];exact he)
    have hzb:=z_bounds e
    refine Cd.seq ?_
    refine Cd.draw 8 (by kernel_rfl) [] (.inl rfl) rfl Grow Grow.refl (fun _ _ _=>Grow.trans) ?_
    intro w8 hw8 zw8
    replace bel:=bel.step hw8
    replace k5:=k5.step hw8
    replace k7:=k7.step hw8
    replace k8:=k8.step hw8
    replace own:=own.step hw8
    have zbel:=bel.size
    have zlt:=k8.lt
    refine Zd (fun w hG=>Runs.fieldB 3 rfl rfl Tryz.underlying35 rfl (by kernel_rfl)) ?_
    refine Zd (fun w hG=>Runs.loadB rfl rfl Tryz.underlying22 rfl (k8.step hG) rfl) ?_
    refine Zd (fun w hG=>Runs.fieldB 0 rfl rfl Tryz.underlying45 rfl (by kernel_rfl)) ?_
    refine Zd (fun w hG=>Runs.loadB rfl rfl Tryz.underlying22 rfl (k5.step hG) rfl) ?_
    refine Zdm ?_
    refine Zd (fun w hG=>Runs.indexN rfl rfl rfl Tryz.underlying22 (s:=4) (by kernel_rfl) (j:=j) rfl (by omega)) ?_
    refine Zd (fun w hG=>Runs.loadF (ps:=[.int .i64 e.op, .int .i64 e.n, .string (strOf e.name), .slice AA e.args.length cc]) rfl rfl Tryz.underlying35 rfl (m:=4) (by kernel_rfl) rfl (hcE w (Below.step bel hG))) ?_
    refine Dr.slice (vs:=[_]) (s:=4) rfl rfl rfl rfl Tryz.underlying22 (by kernel_rfl) zero_api_Expr (by omega) (by omega) ⟨rfl,trivial⟩ rfl ?_
    refine Dr.nil ?_
    refine FinX.open (j:=7) rfl ?_
    intro u7
    refine FinX.done (F':=[(0,_),(1,_),(4,_),(5,_),(6,_),(7,_),(8,_),(9,_),(10,_),(11,_),(12,_),(52,_),(63,_),(65,_),(71,_)]) rfl ⟨rfl,rfl,rfl,rfl,rfl,rfl,rfl,rfl,rfl,rfl,rfl,rfl,rfl,rfl,rfl,trivial⟩ ?_
    intro w9 hw9 fw9
    replace bel:=bel.step hw9
    replace k5:=k5.step hw9
    replace k7:=k7.step hw9
    replace k8:=k8.step hw9
    replace own:=own.step hw9
    obtain⟨gS,rfl,kS,-⟩:=fw9.2
    have hne8:vA.ownBlock≠some g8:=fun e'=>by have:=(own.own.blockLt _ e').1;omega
    refine Seq.append rfl rfl rfl Tryz.underlying22 (by kernel_rfl) zero_api_Expr rfl (by decide) (b:=56) (by kernel_rfl) own.own (Reads.blk (size:=4) kS 1 rfl) (by intro x hx;simp[flatC,Value.cells] at hx;rcases hx with rfl|rfl|rfl|rfl<;>rfl) (Nat.succ_le_of_lt k8.lt) (by simp only[maxLen];omega) (by omega) rfl rfl rfl ?_
    intro vA' wa oA ha
    replace k7:=k7.app own.own ha
    replace k5:=k5.app own.own ha
    replace k8:=k8.grown ha.grown (fun e'=>hne8 e'.symm)
    replace bel:=bel.trans (ha.below.mono (by omega))
    clear own
    obtain⟨A2,c2,rfl,-⟩:=oA.reads
    have own:=OwnA.mk oA
    have hne9:(Value.slice A2 ((pickK es (x.kids.take k)).length+1) c2).ownBlock≠some g8:=fun e'=>by have:=(own.own.blockLt _ e').1;omega
    refine Zf 3 Tryz.underlying35 ?_
    refine Zq k8 ?_
    intro w10 pw10
    replace bel:=bel.put k8 pw10 e8
    replace k5:=k5.put pw10 (by omega)
    replace k7:=k7.put pw10 (by omega)
    replace own:=own.put k8 pw10 e8
    replace k8:=pw10.blk
    refine Zk13 0 1 4 5 6 7 8 9 10 11 12 52 63 (Ztq ?_)
    refine Zm ?_
    refine Zf 1 Tryz.underlying45 ?_
    refine Zv (Runs.loadB rfl rfl Tryz.underlying43 rfl k5 rfl) ?_
    refine Zm ?_
    refine Zv (Runs.index1 rfl rfl rfl Tryz.underlying43 (by kernel_rfl) (j:=j) rfl (by omega)) ?_
    refine Zv (Runs.load1 rfl rfl Tryz.underlying3 rfl (hcN _ bel)) ?_
    refine Za_ ?_
    refine Za ?_
    refine Zk13 0 1 4 5 6 7 8 9 10 11 12 52 63 (Ztr ?_)
    refine Zm ?_
    refine Zf 2 Tryz.underlying45 ?_
    refine Zv (Runs.loadB rfl rfl Tryz.underlying43 rfl k5 rfl) ?_
    refine Zm ?_
    refine Zv (Runs.index1 rfl rfl rfl Tryz.underlying43 (by kernel_rfl) (j:=j) rfl (by omega)) ?_
    refine Zv (Runs.load1 rfl rfl Tryz.underlying3 rfl (hcD _ bel)) ?_
    refine Za_ ?_
    refine Zv (Runs.max2 rfl rfl rfl) ?_
    refine Za ?_
    refine Zk13 0 1 4 5 6 7 8 9 10 11 12 52 63 (Post.block_normal (Ztr ?_))
    refine Zm ?_
    refine Za_ ?_
    refine Za ?_
    refine Zk13 0 1 4 5 6 7 8 9 10 11 12 52 63 ?_
    have hlen2:(pickK es (x.kids.take (k+1))).length=(pickK es (x.kids.take k)).length+1:=by rw[hpk];simp
    refine Post.round (k+1,avs++[.agg #[.int .i64 e.op, .int .i64 e.n, .string (strOf e.name), .slice AA e.args.length cc]], .slice A2 ((pickK es (x.kids.take k)).length+1) c2,nn+zNodes e,max dd (zDepth e+1)) ⟨rfl,rfl,rfl,rfl,rfl,rfl,rfl,rfl,rfl,rfl,trivial⟩ ⟨by dsimp only;omega,by dsimp only;omega,bel,k5,k7,k8,?_,?_,?_,?_,?_⟩ (by dsimp only;omega)
    ·dsimp only
     rw[hlen2,flatC_append]
     exact own
    ·dsimp only
     rw[hlen2,List.length_append,havl];rfl
    ·dsimp only
     rw[hpk]
     intro q y v hq hv
     rcases Nat.lt_or_ge q avs.length with hqi|hqi
     ·rw[List.getElem?_append_left hqi] at hv
      rw[List.getElem?_append_left (by omega)] at hq
      exact hrep q y v hq hv
     ·rw[List.getElem?_append_right hqi] at hv
      rw[List.getElem?_append_right (by omega),←havl] at hq
      have h0:q-avs.length=0:=by
       have:=(List.getElem?_eq_some_iff.1 hv).1
       simp at this
       exact this
      rw[h0] at hq hv
      injection hq with hq
      injection hv with hv
      subst hq hv
      exact hre
    ·dsimp only
     rw[hpk,sumN_snoc,hnn];omega
    ·dsimp only
     rw[hpk,maxD_snoc,hdd];omega
   ·obtain⟨h0i,rfl⟩:i=0∧z'= -1:=by rcases hz' with ⟨h1,h2⟩|⟨h1,h2⟩;exact⟨h1,h2⟩;exact absurd (by omega) h
    have hpk:pickK es (x.kids.take (k+1))=pickK es (x.kids.take k):=by rw[hks];exact pickK_none _ _ _ (by omega)
    refine Cd.skip (Post.block_normal (Ztr ?_))
    refine Zm ?_
    refine Za_ ?_
    refine Za ?_
    refine Zk13 0 1 4 5 6 7 8 9 10 11 12 52 63 ?_
    exact Post.round (k+1,avs,vA,nn,dd) ⟨rfl,rfl,rfl,rfl,rfl,rfl,rfl,rfl,rfl,rfl,trivial⟩ ⟨by dsimp only;omega,by dsimp only;omega,bel,k5,k7,k8,by dsimp only;rw[hpk];exact own,by dsimp only;rw[hpk];exact havl,by dsimp only;rw[hpk];exact hrep,by dsimp only;rw[hpk];exact hnn,by dsimp only;rw[hpk];exact hdd⟩ (by dsimp only;omega)
  ·have hfull:x.kids.take k=x.kids.take 5:=by
    have hc':¬((k:Int)<x.kids.length∧(k:Int)<5):=fun h=>by rw[decide_eq_true h.1,decide_eq_true h.2] at hc;cases hc
    rcases Nat.lt_or_ge k 5 with h5|h5
    ·rw[List.take_of_length_le (by omega),List.take_of_length_le (by omega)]
    ·rw[show k=5 by omega]
   have hpl5:=pickK_length es (x.kids.take 5)
   have hpl6:(x.kids.take 5).length≤5:=by rw[List.length_take];omega
   rw[hfull] at own havl hrep hnn hdd
   refine Cd.exit (Post.then_exit (Post.round_exit (Post.block_exit (Ztq ?_))))
   refine Zm ?_
   refine Zm ?_
   refine Zc (Ze Tryz.func36) (toldC nn dd (pickK es (x.kids.take 5)) x.op x.n x.name _ hnn hdd) ?_
   rintro e w6 ⟨rfl,hb6⟩
   refine⟨_,rfl,?_⟩
   replace bel:=bel.step hb6
   replace k5:=k5.step hb6
   replace k7:=k7.step hb6
   replace k8:=k8.step hb6
   replace own:=own.step hb6
   have hlA:=own.own.blockLt
   have oE:=oE.step bel
   have oN:=oN.step bel
   have oD:=oD.step bel
   have ltE:∀b,vE.ownBlock=some b→b<g8+1:=fun b hb=>by have:=(oE0.blockLt b hb).2;omega
   have ltN:∀b,vN.ownBlock=some b→b<g8+1:=fun b hb=>by have:=(oN0.blockLt b hb).2;omega
   have ltD:∀b,vD.ownBlock=some b→b<g8+1:=fun b hb=>by have:=(oD0.blockLt b hb).2;omega
   have aE:=aE.more ltE (fun b hb=>(hlA b hb).1)
   have aN:=aN.more ltN (fun b hb=>(hlA b hb).1)
   have aD:=aD.more ltD (fun b hb=>(hlA b hb).1)
   have fo2:=(fo.step bel).more (nm:=x.name) havl (by omega) hrng.op hrng.n hrng.name hrng.nlen (fun j e v he hv=>(hrep j e v he hv).mono (fun _ h=>h) (fun p hp=>bel.cell (fo.lt _ hp))) own.own
   have hg5T:g5∉blocksOf vA++T:=fun hm=>by
    rcases List.mem_append.1 hm with hm|hm
    ·have:=(hlA _ (mem_blocksOf.1 hm)).1;omega
    ·have:=hfar _ hm;omega
   have hfar2:∀b∈blocksOf vA++T,g5<b:=fun b hm=>by
    rcases List.mem_append.1 hm with hm|hm
    ·have:=(hlA _ (mem_blocksOf.1 hm)).1;omega
    ·exact hfar _ hm
   have k4:=k4.step bel
   have l54:g4≠g5:=by omega
   replace bel:=bel0.trans (bel.mono bel0.size)
   refine Zm ?_
   refine Zv (Runs.extract rfl rfl rfl) ?_
   refine Zv (Runs.extract rfl rfl rfl) ?_
   refine Za ?_
   refine Za ?_
   refine Zk11 0 1 4 5 6 7 8 9 10 11 52 (Ztq ?_)
   refine Zf 0 Tryz.underlying45 ?_
   refine Zv (Runs.loadB rfl rfl Tryz.underlying22 rfl k5 rfl) ?_
   refine Zv (Runs.loadW rfl rfl Tryz.underlying35 rfl k8 (m:=4) (by kernel_rfl) rfl) ?_
   refine Seq.slice (vs:=[_]) (s:=4) rfl rfl rfl Tryz.underlying22 (by kernel_rfl) (zero_api_Expr) (by omega) (by omega) ⟨rfl,trivial⟩ rfl rfl rfl ?_
   intro g98 w8 n98
   have e98:=Nat.le_trans bel.size n98.ge
   have l98:=Nat.lt_of_lt_of_le k4.lt n98.ge
   have l98_k5:=Nat.lt_of_lt_of_le k5.lt n98.ge
   have l98_k8:=Nat.lt_of_lt_of_le k8.lt n98.ge
   replace bel:=bel.step n98.below
   replace k5:=k5.step n98.below
   replace k8:=k8.step n98.below
   replace fo2:=fo2.step n98.below
   replace oE:=oE.step n98.below
   replace oN:=oN.step n98.below
   replace oD:=oD.step n98.below
   replace k4:=k4.step n98.below
   have k98:=n98.blk
   refine Seq.append2 rfl rfl rfl Tryz.underlying22 (by kernel_rfl) zero_api_Expr rfl (by decide) (b:=56) (by kernel_rfl) oE (Reads.blk (size:=4) k98 1 rfl) (by intro x hx;simp[flatC,Value.cells] at hx;rcases hx with rfl|rfl|rfl|rfl<;>first|rfl|exact own.own.reads.elim fun A h=>h.elim fun c h=>h.1▸rfl) bel.size (by simp only[maxLen];omega) (by omega) rfl rfl rfl ?_
   intro vE' wa oE' ha hvE
   have aE':=aE.app fo2.lt hvE
   replace k5:=k5.app oE ha
   replace k4:=k4.app oE ha
   replace fo2:=fo2.app aE ha
   replace oN:=oN.app oE ha
   replace oD:=oD.app oE ha
   replace bel:=bel.trans ha.below
   clear oE aE
   obtain⟨A2,c2,rfl,-⟩:=oE'.reads
   have oE:=oE'
   clear oE'
   refine Zf 0 Tryz.underlying45 ?_
   refine Zq k5 ?_
   intro w9 pw9
   replace bel:=bel.put k5 pw9 e5
   replace fo2:=fo2.put k5 pw9 e5
   replace oE:=oE.put k5 pw9 e5
   replace oN:=oN.put k5 pw9 e5
   replace oD:=oD.put k5 pw9 e5
   replace k4:=k4.put pw9 (by omega)
   replace k5:=pw9.blk
   refine Zk11 0 1 4 5 6 7 8 9 10 11 52 (Ztq ?_)
   refine Zf 1 Tryz.underlying45 ?_
   refine Zv (Runs.loadB rfl rfl Tryz.underlying43 rfl k5 rfl) ?_
   refine Zm ?_
   refine Seq.slice (vs:=[_]) (s:=1) rfl rfl rfl Tryz.underlying43 (by kernel_rfl) (zero_int) (by omega) (by omega) ⟨rfl,trivial⟩ rfl rfl rfl ?_
   intro g104 w10 n104
   have e104:=Nat.le_trans bel.size n104.ge
   have l104:=Nat.lt_of_lt_of_le k4.lt n104.ge
   have l104_k5:=Nat.lt_of_lt_of_le k5.lt n104.ge
   replace bel:=bel.step n104.below
   replace k5:=k5.step n104.below
   replace fo2:=fo2.step n104.below
   replace oE:=oE.step n104.below
   replace oN:=oN.step n104.below
   replace oD:=oD.step n104.below
   replace k4:=k4.step n104.below
   have k104:=n104.blk
   refine Seq.append2 rfl rfl rfl Tryz.underlying43 (by kernel_rfl) zero_int rfl (by decide) (b:=8) (by kernel_rfl) oN (Reads.blk (size:=1) k104 1 rfl) (by intro x hx;simp[flatC,Value.cells] at hx;rw[hx];rfl) bel.size (by simp only[maxLen];omega) (by omega) rfl rfl rfl ?_
   intro vN' wb oN' ha hvN
   have aN':=aN.app fo2.lt hvN
   have aND':=(aND.symm.app (fun b hb=>(oD.blockLt b hb).2) hvN).symm
   replace k5:=k5.app oN ha
   replace k4:=k4.app oN ha
   replace fo2:=fo2.app aN ha
   replace oE:=oE.app oN ha
   replace oD:=oD.kept' ha.grown (fun b hb e=>aND b e hb)
   replace bel:=bel.trans ha.below
   clear oN aN aND
   obtain⟨A3,c3,rfl,-⟩:=oN'.reads
   have oN:=oN'
   clear oN'
   refine Zf 1 Tryz.underlying45 ?_
   refine Zq k5 ?_
   intro w11 pw11
   replace bel:=bel.put k5 pw11 e5
   replace fo2:=fo2.put k5 pw11 e5
   replace oE:=oE.put k5 pw11 e5
   replace oN:=oN.put k5 pw11 e5
   replace oD:=oD.put k5 pw11 e5
   replace k4:=k4.put pw11 (by omega)
   replace k5:=pw11.blk
   refine Zk11 0 1 4 5 6 7 8 9 10 11 52 (Ztr ?_)
   refine Zf 2 Tryz.underlying45 ?_
   refine Zv (Runs.loadB rfl rfl Tryz.underlying43 rfl k5 rfl) ?_
   refine Zm ?_
   refine Seq.slice (vs:=[_]) (s:=1) rfl rfl rfl Tryz.underlying43 (by kernel_rfl) (zero_int) (by omega) (by omega) ⟨rfl,trivial⟩ rfl rfl rfl ?_
   intro g110 w12 n110
   have e110:=Nat.le_trans bel.size n110.ge
   have l110:=Nat.lt_of_lt_of_le k4.lt n110.ge
   have l110_k5:=Nat.lt_of_lt_of_le k5.lt n110.ge
   replace bel:=bel.step n110.below
   replace k5:=k5.step n110.below
   replace fo2:=fo2.step n110.below
   replace oE:=oE.step n110.below
   replace oN:=oN.step n110.below
   replace oD:=oD.step n110.below
   replace k4:=k4.step n110.below
   have k110:=n110.blk
   refine Seq.append2 rfl rfl rfl Tryz.underlying43 (by kernel_rfl) zero_int rfl (by decide) (b:=8) (by kernel_rfl) oD (Reads.blk (size:=1) k110 1 rfl) (by intro x hx;simp[flatC,Value.cells] at hx;rw[hx];rfl) bel.size (by simp only[maxLen];omega) (by omega) rfl rfl rfl ?_
   intro vD' wc oD' ha hvD
   have aD':=aD.app fo2.lt hvD
   have aND2:=aND'.app (fun b hb=>(oN.blockLt b hb).2) hvD
   replace k5:=k5.app oD ha
   replace k4:=k4.app oD ha
   replace fo2:=fo2.app aD ha
   replace oE:=oE.app oD ha
   replace oN:=oN.kept' ha.grown (fun b hb e=>aND' b hb e)
   replace bel:=bel.trans ha.below
   clear oD aD
   obtain⟨A4,c4,rfl,-⟩:=oD'.reads
   have oD:=oD'
   clear oD'
   refine Zf 2 Tryz.underlying45 ?_
   refine Zq k5 ?_
   intro w13 pw13
   replace bel:=bel.put k5 pw13 e5
   replace fo2:=fo2.put k5 pw13 e5
   replace oE:=oE.put k5 pw13 e5
   replace oN:=oN.put k5 pw13 e5
   replace oD:=oD.put k5 pw13 e5
   replace k4:=k4.put pw13 (by omega)
   replace k5:=pw13.blk
   refine Zk11 0 1 4 5 6 7 8 9 10 11 52 (Post.block_normal (Ztr ?_))
   refine Zm ?_
   refine Za_ ?_
   refine Za ?_
   refine Zk11 0 1 4 5 6 7 8 9 10 11 52 ?_
   have hlE:(es++[leafE es x]).length=es.length+1:=by simp
   refine Post.round (i+1,blocksOf vA++T,vs++[.agg #[.int .i64 x.op, .int .i64 x.n, .string (strOf x.name),vA]], .slice A2 (es.length+1) c2, .slice A3 (es.length+1) c3, .slice A4 (es.length+1) c4) ⟨rfl,rfl,rfl,rfl,rfl,trivial⟩ ?_ (by dsimp only;omega)
   dsimp only
   rw[htake,hlE,flatC_append,List.map_append,List.map_append,DI_append,DI_append]
   exact⟨by omega,bel,k4,k5,fo2,hfar2,oE,oN,oD,aE',aN',aD',aND2⟩
 ·have hin:i=n:=by
   have hc':¬((i:Int)<n∧(i:Int)<60):=fun h=>by rw[decide_eq_true h.1,decide_eq_true h.2] at hc;cases hc
   omega
  subst hin
  rw[show xs.take i=xs from List.take_of_length_le (by omega)] at fo oE oN oD
  refine Cd.exit (Post.then_exit (Post.round_exit (Post.block_exit (Zts (Zsr ?_)))))
  refine Za ?_
  refine Zk7 0 1 4 5 6 13 30 (Zt (Cd.block ?_))
  refine Cd.loop (σ:=Unit) (fun _=>[(0, .slice A i c),(1, .slice none 0 0),(4, .pointer (some ⟨g4,0,none⟩)),(5, .pointer (some ⟨g5,0,none⟩)),(13, .int .i64 0)])
   (fun _ w2=>Below w.heap.size w w2∧Blk w2 g4 45 #[.slice none 0 0, .slice none 0 0, .slice none 0 0, .slice none 0 0, .slice none 0 0, .slice none 0 0]∧Blk w2 g5 45 #[vE,vN,vD, .slice none 0 0, .slice none 0 0, .slice none 0 0]∧
    Forest w2 T (treesOf xs) vs∧(∀b∈T,g5<b)∧Own w2 w.heap.size 35 4 vE (treesOf xs).length (flatC vs)∧Own w2 w.heap.size 3 1 vN (treesOf xs).length (DI ((treesOf xs).map zNodes))∧Own w2 w.heap.size 3 1 vD (treesOf xs).length (DI ((treesOf xs).map zDepth)))
   (fun _=>0) () ⟨bel,k4,k5,fo,hfar,oE,oN,oD⟩ ⟨rfl,rfl,rfl,rfl,rfl,trivial⟩ ?_
  clear bel k4 k5
  clear fo oE oN oD
  rintro -w2 ⟨bel,k4,k5,fo,hfar,oE,oN,oD⟩
  refine Cd.seq (Zsr ?_)
  refine Zm ?_
  refine Zm ?_
  refine Zv (Runs.len rfl rfl Tryz.underlying54) ?_
  refine Zv (Runs.lss rfl rfl rfl) ?_
  refine Zm ?_
  refine SeqC.start ?_
  refine Zco (fun hcx=>Runs.move rfl rfl) ?_
  refine SeqC.next rfl rfl rfl rfl rfl rfl rfl (fun hcx=>Runs.lss rfl rfl rfl) ?_
  refine SeqC.and rfl rfl rfl rfl rfl rfl rfl ?_
  refine Zk6 0 1 4 5 13 120 (Zt ?_)
  refine Cd.cond rfl (fun hc=> ?_) (fun hc=> ?_)
  ·exact absurd hc (by decide)
  ·have hgT:g4∉T:=fun hm=>by have:=hfar _ hm;omega
   obtain⟨A2,c2,rfl,-⟩:=oE.reads
   obtain⟨A3,c3,rfl,-⟩:=oN.reads
   obtain⟨A4,c4,rfl,-⟩:=oD.reads
   refine Cd.exit (Post.then_exit (Post.round_exit (Post.block_exit (Ztq ?_))))
   refine Zv (Runs.loadW rfl rfl Tryz.underlying45 rfl k5 (m:=6) (by kernel_rfl) rfl) ?_
   refine Zo 6 k4 ?_
   intro w4 pw4
   replace bel:=bel.put k4 pw4 e4
   replace k5:=k5.put pw4 (by omega)
   replace fo:=fo.put k4 pw4 e4
   replace oE:=oE.put k4 pw4 e4
   replace oN:=oN.put k4 pw4 e4
   replace oD:=oD.put k4 pw4 e4
   replace k4:=pw4.blk
   refine Zk6 0 1 4 5 13 120 (Zt (Cd.ret ?_))
   refine Post.endC rfl rfl k4 Tryz.underlying45 rfl (m:=6) (by kernel_rfl) rfl (.inl rfl) ?_
   exact⟨⟨_,rfl,T,vs,_,_,_,rfl,fo,oE,oN,oD⟩,bel⟩
end Go.Proofs.YtaamkfajnpobfaaGreat
namespace Go.Proofs.YtaamkfajnpobfaaGreat
open Go.RowKit
def treeV (n:Nat)(AE AN AD:Option Addr)(cE cN cD:Nat):Value:= .agg #[.slice AE n cE, .slice AN n cN, .slice AD n cD, .slice none 0 0, .slice none 0 0, .slice none 0 0]
structure TreeR (w:World)(B:Nat)(es:List Ex)(AE AN AD:Option Addr):Prop where
 expr:∀i e,es[i]? =some e→∃ad A' c',AE=some ad∧ad.block<B∧Rep w B e (.agg #[.int .i64 e.op, .int .i64 e.n, .string (strOf e.name), .slice A' e.args.length c'])∧∀(j:Nat) (u:Value),([.int .i64 e.op, .int .i64 e.n, .string (strOf e.name), .slice A' e.args.length c']:List Value)[j]? =some u→w.cell? ((ad.add (i*4)).add j)=some u
 nodes:Reads w B 1 AN es.length (DI (es.map zNodes))
 deps:Reads w B 1 AD es.length (DI (es.map zDepth))
theorem TreeR.below {w w':World}{B:Nat}{es:List Ex}{AE AN AD:Option Addr}(h:TreeR w B es AE AN AD)(hb:Below B w w'):TreeR w' B es AE AN AD:=
 ⟨fun i e he=>by
  obtain⟨ad,A',c',e1,e2,e3,e4⟩:=h.expr i e he
  exact⟨ad,A',c',e1,e2,e3.below hb,fun j u hu=>(hb.cell (by rw[block_of_add,block_of_add];exact e2)).trans (e4 j u hu)⟩,h.nodes.below hb,h.deps.below hb⟩
theorem BuiltR.tree {B:Nat}{es:List Ex}{v:Value}{w:World}(h:BuiltR B es v w):∃AE AN AD cE cN cD,v=treeV es.length AE AN AD cE cN cD∧TreeR w w.heap.size es AE AN AD:=by
 obtain⟨T,vs,vE,vN,vD,rfl,fo,oE,oN,oD⟩:=h
 have h4:∀y∈vs,y.cells.size=4:=sizes_spec fo.cells
 obtain⟨AE,cE,rfl,hE⟩:=oE.reads
 obtain⟨AN,cN,rfl,hN⟩:=oN.reads
 obtain⟨AD,cD,rfl,hD⟩:=oD.reads
 refine⟨AE,AN,AD,cE,cN,cD,rfl,fun i e he=> ?_,hN,hD⟩
 have hi:=(List.getElem?_eq_some_iff.1 he).1
 obtain⟨ev,hev⟩:∃ev,vs[i]? =some ev:=⟨_,List.getElem?_eq_getElem (by rw[fo.len];omega)⟩
 have hre:=fo.rep i e ev he hev
 obtain⟨A',c',rfl⟩:=hre.form
 obtain⟨ad,rfl,hb,hc⟩:=hE.2 (by omega)
 exact⟨ad,A',c',rfl,hb,hre.mono (fun b hm=>fo.lt b hm) (fun _ _=>rfl),fun j u hu=>by rw[add_of_add];exact hc _ _ (flatC_at h4 hev j u (by simpa[Value.cells] using hu))⟩
def rightB (e:Ex):Bool:=decide (e.nodes≤200)&&decide (e.depth≤16)&&builtB e
theorem z_right (e:Ex):((decide (zNodes e≤200)&&decide (zDepth e≤16))&&builtB e)=rightB e:=by
 have hdn:=e.depth_nodes
 unfold rightB
 congr 1
 rw[Bool.eq_iff_iff]
 simp only[Bool.and_eq_true,decide_eq_true_eq]
 unfold zNodes zDepth toldZ
 split<;>constructor<;>intro h<;>dsimp only at * <;>omega
theorem treeRight_any (i cE cN cD:Nat)(AE AN AD:Option Addr)(es:List Ex)(e:Ex)(w:World)(hr:TreeR w w.heap.size es AE AN AD)(he:es[i]? =some e):
  Calls Tryz.prog 17 #[treeV es.length AE AN AD cE cN cD, .int .i64 (i:Int)] w fun en w'=>en= .returned (.bool (rightB e))∧Grow w w':=by
 have bel:=Below.refl w.heap.size w
 have hi:=(List.getElem?_eq_some_iff.1 he).1
 obtain⟨ad,A',c',rfl,hb,hrep,hcell⟩:=hr.expr i e he
 have hcE:∀W,Below w.heap.size w W→∀(q:Nat) (u:Value),([.int .i64 e.op, .int .i64 e.n, .string (strOf e.name), .slice A' e.args.length c']:List Value)[q]? =some u→W.cell? ((ad.add (i*4)).add q)=some u:=fun W hW q u hq=>(hW.cell (by rw[block_of_add,block_of_add];exact hb)).trans (hcell q u hq)
 obtain⟨adN,rfl,hbN,hcN⟩:=hr.nodes.2 (by omega)
 have hcN:=fun W (hb:Below w.heap.size w W)=>(hb.cell (p:=adN.add i) (by rw[block_of_add];exact hbN)).trans (hcN i (.int .i64 (zNodes e)) (by rw[get_DI,List.getElem?_map,he];rfl))
 obtain⟨adD,rfl,hbD,hcD⟩:=hr.deps.2 (by omega)
 have hcD:=fun W (hb:Below w.heap.size w W)=>(hb.cell (p:=adD.add i) (by rw[block_of_add];exact hbD)).trans (hcD i (.int .i64 (zDepth e)) (by rw[get_DI,List.getElem?_map,he];rfl))
 have hbt:=fun W (hb:Below w.heap.size w W)=>refBuilt_any e.nodes e w.heap.size _ W (Nat.le_refl _) (hrep.below hb) hb.size
 have hz:=z_right e
 unfold treeV
 refine Zs 27 Tryz.func17 ?_
 refine Zsr ?_
 refine Seq.box rfl rfl rfl rfl rfl ?_
 intro g2 w1 n2
 have e2:=Nat.le_trans bel.size n2.ge
 replace bel:=bel.step n2.below
 have k2:=n2.blk
 refine Za ?_
 refine Zk4 0 1 2 4 (Ztq ?_)
 refine Zf 1 Tryz.underlying45 ?_
 refine Zv (Runs.loadB rfl rfl Tryz.underlying43 rfl k2 rfl) ?_
 refine Zm ?_
 refine Zv (Runs.index1 rfl rfl rfl Tryz.underlying43 (by kernel_rfl) (j:=i) rfl (by omega)) ?_
 refine Zv (Runs.load1 rfl rfl Tryz.underlying3 rfl (hcN _ bel)) ?_
 refine Zv (Runs.leq rfl rfl rfl) ?_
 refine Zm ?_
 refine SeqC.start ?_
 refine Zco (fun hcx=>Runs.fieldB 2 rfl rfl Tryz.underlying45 rfl (by kernel_rfl)) ?_
 refine SeqC.next rfl rfl rfl rfl rfl rfl rfl (fun hcx=>Runs.loadB rfl rfl Tryz.underlying43 rfl k2 rfl) ?_
 refine SeqC.next rfl rfl rfl rfl rfl rfl rfl (fun hcx=>Runs.move rfl rfl) ?_
 refine SeqC.next rfl rfl rfl rfl rfl rfl rfl (fun hcx=>Runs.index1 rfl rfl rfl Tryz.underlying43 (by kernel_rfl) (j:=i) rfl (by omega)) ?_
 refine SeqC.next rfl rfl rfl rfl rfl rfl rfl (fun hcx=>Runs.load1 rfl rfl Tryz.underlying3 rfl (hcD _ bel)) ?_
 refine SeqC.next rfl rfl rfl rfl rfl rfl rfl (fun hcx=>Runs.leq rfl rfl rfl) ?_
 refine SeqC.and rfl rfl rfl rfl rfl rfl rfl ?_
 refine Zm ?_
 refine SeqC.start ?_
 refine Zco (fun hcx=>Runs.fieldB 0 rfl rfl Tryz.underlying45 rfl (by kernel_rfl)) ?_
 refine SeqC.next rfl rfl rfl rfl rfl rfl rfl (fun hcx=>Runs.loadB rfl rfl Tryz.underlying22 rfl k2 rfl) ?_
 refine SeqC.next rfl rfl rfl rfl rfl rfl rfl (fun hcx=>Runs.move rfl rfl) ?_
 refine SeqC.next rfl rfl rfl rfl rfl rfl rfl (fun hcx=>Runs.indexN rfl rfl rfl Tryz.underlying22 (s:=4) (by kernel_rfl) (j:=i) rfl (by omega)) ?_
 refine SeqC.next rfl rfl rfl rfl rfl rfl rfl (fun hcx=>Runs.loadF (ps:=[.int .i64 e.op, .int .i64 e.n, .string (strOf e.name), .slice A' e.args.length c']) rfl rfl Tryz.underlying35 rfl (m:=4) (by kernel_rfl) rfl (hcE _ bel)) ?_
 refine SeqC.nextC rfl rfl rfl rfl rfl rfl rfl (fun hcx=>Ze Tryz.func37) (fun hcx=>hbt _ bel) ?_
 intro w2 hw2
 replace bel:=bel.step hw2
 replace k2:=k2.step hw2
 refine SeqC.and rfl rfl rfl rfl rfl rfl rfl ?_
 refine Za ?_
 refine Zk4 0 1 2 4 (Zt (Cd.ret ?_))
 refine Post.end1 rfl rfl (.inl rfl) ?_
 exact⟨ret1 (bool_eq hz),bel⟩
end Go.Proofs.YtaamkfajnpobfaaGreat
namespace Go.Proofs.YtaamkfajnpobfaaGreat
open Go.RowKit
def yearZ (y:Int):Int:=if leapB y then 366 else 365
theorem of_start:ofZ 1970 1 1=0:=by decide
theorem of_last:ofZ 10000 1 1=2932897:=by decide
theorem leapB_iff (y:Int):leapB y=true↔y%4=0∧(y%100≠0∨y%400=0):=by unfold leapB;simp
theorem of_one (y:Int):ofZ y 1 1=(y-1)/400*146097+((y-1)%400*365+(y-1)%400/4-(y-1)%400/100+306)-719468:=by
 unfold ofZ ofY ofM
 rw[if_pos (by omega),if_pos (by omega)]
 omega
theorem of_year (y:Int):ofZ (y+1) 1 1=ofZ y 1 1+yearZ y:=by
 rw[of_one,of_one]
 have hl:=leapB_iff y
 unfold yearZ
 rw[Int.add_sub_cancel]
 generalize hr:(y-1)%400=r
 generalize hq:(y-1)/400=q
 obtain rfl:y=400*q+r+1:=by omega
 have hr1:0≤r∧r<400:=by omega
 split
 ·rename_i h
  have:=hl.1 h
  by_cases h4:r=399
  ·subst h4;omega
  ·rw[show(400*q+r+1)/400=q by omega,show(400*q+r+1)%400=r+1 by omega];omega
 ·rename_i h
  have:¬((400*q+r+1)%4=0∧((400*q+r+1)%100≠0∨(400*q+r+1)%400=0)):=fun h2=>h (hl.2 h2)
  by_cases h4:r=399
  ·subst h4;omega
  ·rw[show(400*q+r+1)/400=q by omega,show(400*q+r+1)%400=r+1 by omega];omega
theorem of_day (y m d:Int):ofZ y m d=ofZ y m 1+d-1:=by unfold ofZ;omega
theorem of_month (y m:Int)(h1:1≤m)(h2:m≤11):ofZ y (m+1) 1=ofZ y m 1+daysZ y m:=by
 rcases(show m=1∨m=2∨m=3∨m=4∨m=5∨m=6∨m=7∨m=8∨m=9∨m=10∨m=11 by omega) with rfl|rfl|rfl|rfl|rfl|rfl|rfl|rfl|rfl|rfl|rfl
 case inr.inl=>
  have:=of_year y
  rw[of_one,of_one] at this
  unfold yearZ at this
  unfold ofZ ofY ofM daysZ
  split at this<;>rename_i h<;>simp[h] at this⊢ <;>omega
 all_goals
  unfold ofZ ofY ofM daysZ
  simp
  try omega
theorem of_dec (y:Int):ofZ (y+1) 1 1=ofZ y 12 1+31:=by
 rw[of_one]
 unfold ofZ ofY ofM
 simp
 omega
theorem daysZ_pos (y m:Int):0≤daysZ y m:=by
 unfold daysZ
 split
 ·split<;>omega
 ·split
  ·omega
  ·split<;>omega
theorem of_mono_m (y:Int):∀(k:Nat) (m:Int),1≤m→m+k≤12→ofZ y m 1≤ofZ y (m+k) 1:=by
 intro k
 induction k with
 |zero=>intro m _ _;simp
 |succ k ih=>
  intro m h1 h2
  have h3:=ih m h1 (by omega)
  have h4:=of_month y (m+k) (by omega) (by omega)
  have h5:=daysZ_pos y (m+k)
  rw[show m+((k+1:Nat):Int)=m+k+1 by omega]
  omega
theorem of_le_m {y m m':Int}(h1:1≤m)(h2:m≤m')(h3:m'≤12):ofZ y m 1≤ofZ y m' 1:=by
 have:=of_mono_m y (m'-m).toNat m h1 (by omega)
 rwa [show m+((m'-m).toNat:Int)=m' by omega] at this
theorem yearZ_pos (y:Int):365≤yearZ y:=by unfold yearZ;split<;>omega
theorem of_mono_y:∀(k:Nat) (y:Int),ofZ y 1 1≤ofZ (y+k) 1 1:=by
 intro k
 induction k with
 |zero=>intro y;simp
 |succ k ih=>
  intro y
  have h1:=ih y
  have h2:=of_year (y+k)
  have h3:=yearZ_pos (y+k)
  rw[show y+((k+1:Nat):Int)=y+k+1 by omega]
  omega
theorem of_le_y {y y':Int}(h:y≤y'):ofZ y 1 1≤ofZ y' 1 1:=by
 have:=of_mono_y (y'-y).toNat y
 rwa [show y+((y'-y).toNat:Int)=y' by omega] at this
theorem of_span {y m d:Int}(h:ofOk y m d=true):1970≤y∧y≤9999∧1≤m∧m≤12∧1≤d∧d≤daysZ y m∧ofZ y 1 1≤ofZ y m d∧ofZ y m d<ofZ (y+1) 1 1∧0≤ofZ y m d∧ofZ y m d≤2932896:=by
 unfold ofOk at h
 simp at h
 obtain⟨⟨⟨h1,h2⟩,h3⟩,h4⟩:=h
 obtain⟨h5,h6,-⟩:=daysZ_m (y:=y) (m:=m) (by omega)
 have a1:=of_le_m (y:=y) (m:=1) (m':=m) (by omega) h5 h6
 have a2:=of_day y m d
 have a3:ofZ y m 1+daysZ y m≤ofZ (y+1) 1 1:=by
  by_cases hm:m=12
  ·subst hm
   rw[of_dec]
   have:daysZ y 12=31:=by unfold daysZ;simp
   omega
  ·have b1:=of_month y m h5 (by omega)
   have b2:=of_le_m (y:=y) (m:=m+1) (m':=12) (by omega) (by omega) (by omega)
   have b3:=of_dec y
   omega
 have a4:=of_le_y (y:=1970) (y':=y) h1
 have a5:=of_le_y (y:=y+1) (y':=10000) (by omega)
 rw[of_start] at a4
 rw[of_last] at a5
 exact⟨h1,h2,h5,h6,h3,h4,by omega,by omega,by omega,by omega⟩
def digR (v:Nat):Nat→List Nat
 |0=>[]
 |n+1=>(48+v/10^n%10)::digR v n
theorem digR_len (v n:Nat):(digR v n).length=n:=by induction n with
 |zero=>rfl
 |succ n ih=>unfold digR;simp[ih]
theorem digR_lt (v n:Nat):∀x∈digR v n,x<256:=by induction n with
 |zero=>intro x h;cases h
 |succ n ih=>
  intro x h
  unfold digR at h
  rcases List.mem_cons.1 h with rfl|h
  ·omega
  ·exact ih x h
def printD (y m d:Nat):List Nat:=digR y 4++[45]++digR m 2++[45]++digR d 2
end Go.Proofs.YtaamkfajnpobfaaGreat
namespace Go.Proofs.YtaamkfajnpobfaaGreat
open Go.RowKit
def rawV (l:List Nat):Int:=l.foldl (fun(v:Int) (c:Nat)=>10*v+(c:Int)-48) 0
theorem num2_of (a b:Nat):numZ [a,b]=if(48≤a∧a≤57)∧(48≤b∧b≤57) then 10*((a:Int)-48)+((b:Int)-48) else -1:=by
 unfold numZ
 have e:([a,b].all digB=true)↔((48≤a∧a≤57)∧(48≤b∧b≤57)):=by simp[digB]
 by_cases h:(48≤a∧a≤57)∧(48≤b∧b≤57)
 ·rw[if_pos (e.2 h),if_pos h]
  simp[valD]
  omega
 ·rw[if_neg (fun x=>h (e.1 x)),if_neg h]
theorem num4_of (a b c d:Nat):numZ [a,b,c,d]=if(48≤a∧a≤57)∧(48≤b∧b≤57)∧(48≤c∧c≤57)∧(48≤d∧d≤57) then 1000*((a:Int)-48)+100*((b:Int)-48)+10*((c:Int)-48)+((d:Int)-48) else -1:=by
 unfold numZ
 have e:([a,b,c,d].all digB=true)↔((48≤a∧a≤57)∧(48≤b∧b≤57)∧(48≤c∧c≤57)∧(48≤d∧d≤57)):=by simp[digB]
 by_cases h:(48≤a∧a≤57)∧(48≤b∧b≤57)∧(48≤c∧c≤57)∧(48≤d∧d≤57)
 ·rw[if_pos (e.2 h),if_pos h]
  simp[valD]
  omega
 ·rw[if_neg (fun x=>h (e.1 x)),if_neg h]
theorem ten_of {l:List Nat}(h:l.length=10):∃c0 c1 c2 c3 c4 c5 c6 c7 c8 c9,l=[c0,c1,c2,c3,c4,c5,c6,c7,c8,c9]:=by
 rcases l with _|⟨c0,_|⟨c1,_|⟨c2,_|⟨c3,_|⟨c4,_|⟨c5,_|⟨c6,_|⟨c7,_|⟨c8,_|⟨c9,_|⟨x,l⟩⟩⟩⟩⟩⟩⟩⟩⟩⟩⟩<;>simp at h
 exact⟨_,_,_,_,_,_,_,_,_,_,rfl⟩
theorem ofOk_bd {y m d:Int}(h:ofOk y m d=true):1970≤y∧y≤9999∧1≤m∧m≤12∧1≤d∧d≤31:=by
 obtain⟨h1,h2,h3,h4,h5,h6,-⟩:=of_span h
 obtain⟨-,-,h7⟩:=daysZ_m (y:=y) (m:=m) (by omega)
 exact⟨h1,h2,h3,h4,h5,by omega⟩
theorem day_law (l:List Nat)(h:l.length=10):(dateOk l=true↔(ofOk (rawV (l.take 4)) (rawV ((l.take 7).drop 5)) (rawV ((l.take 10).drop 8))=true∧printD (rawV (l.take 4)).toNat (rawV ((l.take 7).drop 5)).toNat (rawV ((l.take 10).drop 8)).toNat=l))∧
  (dateOk l=true→dateZ l=ofZ (rawV (l.take 4)) (rawV ((l.take 7).drop 5)) (rawV ((l.take 10).drop 8))):=by
 obtain⟨c0,c1,c2,c3,c4,c5,c6,c7,c8,c9,rfl⟩:=ten_of h
 have r1:rawV [c0,c1,c2,c3]=1000*((c0:Int)-48)+100*((c1:Int)-48)+10*((c2:Int)-48)+((c3:Int)-48):=by simp[rawV];omega
 have r2:rawV [c5,c6]=10*((c5:Int)-48)+((c6:Int)-48):=by simp[rawV];omega
 have r3:rawV [c8,c9]=10*((c8:Int)-48)+((c9:Int)-48):=by simp[rawV];omega
 have hk:dateOk [c0,c1,c2,c3,c4,c5,c6,c7,c8,c9]=(decide (c4=45)&&decide (c7=45)&&ofOk (numZ [c0,c1,c2,c3]) (numZ [c5,c6]) (numZ [c8,c9])):=by
  unfold dateOk
  simp
 have hz:dateZ [c0,c1,c2,c3,c4,c5,c6,c7,c8,c9]=if dateOk [c0,c1,c2,c3,c4,c5,c6,c7,c8,c9]=true then ofZ (numZ [c0,c1,c2,c3]) (numZ [c5,c6]) (numZ [c8,c9]) else 0:=rfl
 show(_↔(ofOk (rawV [c0,c1,c2,c3]) (rawV [c5,c6]) (rawV [c8,c9])=true∧printD (rawV [c0,c1,c2,c3]).toNat (rawV [c5,c6]).toNat (rawV [c8,c9]).toNat=_))∧(_→_=ofZ (rawV [c0,c1,c2,c3]) (rawV [c5,c6]) (rawV [c8,c9]))
 rw[hz,hk]
 have key:(decide (c4=45)&&decide (c7=45)&&ofOk (numZ [c0,c1,c2,c3]) (numZ [c5,c6]) (numZ [c8,c9]))=true→numZ [c0,c1,c2,c3]=rawV [c0,c1,c2,c3]∧numZ [c5,c6]=rawV [c5,c6]∧numZ [c8,c9]=rawV [c8,c9]∧printD (rawV [c0,c1,c2,c3]).toNat (rawV [c5,c6]).toNat (rawV [c8,c9]).toNat=[c0,c1,c2,c3,c4,c5,c6,c7,c8,c9]:=by
  intro hd
  simp at hd
  obtain⟨⟨h4,h7⟩,ho⟩:=hd
  have hb:=ofOk_bd ho
  rw[num4_of,num2_of,num2_of] at hb⊢
  rw[r1,r2,r3]
  split at hb
  ·rename_i d1
   split at hb
   ·rename_i d2
    split at hb
    ·rename_i d3
     rw[if_pos d1,if_pos d2,if_pos d3]
     refine⟨rfl,rfl,rfl,?_⟩
     unfold printD digR digR digR digR digR
     simp
     refine⟨?_,?_,?_,?_,?_,?_,?_,?_,?_,?_⟩<;>omega
    ·omega
   ·omega
  ·omega
 refine⟨⟨fun hd=> ?_,fun hd=> ?_⟩,fun hd=> ?_⟩
 ·obtain⟨k1,k2,k3,k4⟩:=key hd
  simp at hd
  rw[k1,k2,k3] at hd
  exact⟨hd.2,k4⟩
 ·obtain⟨ho,hp⟩:=hd
  have hb:=ofOk_bd ho
  generalize rawV [c0,c1,c2,c3]=Y at *
  generalize rawV [c5,c6]=M at *
  generalize rawV [c8,c9]=D at *
  unfold printD digR digR digR digR digR at hp
  simp at hp
  obtain⟨p0,p1,p2,p3,p4,p5,p6,p7,p8,p9⟩:=hp
  have e1:numZ [c0,c1,c2,c3]=Y:=by rw[num4_of,if_pos (by omega)];omega
  have e2:numZ [c5,c6]=M:=by rw[num2_of,if_pos (by omega)];omega
  have e3:numZ [c8,c9]=D:=by rw[num2_of,if_pos (by omega)];omega
  rw[e1,e2,e3,ho]
  simp
  omega
 ·obtain⟨k1,k2,k3,-⟩:=key hd
  rw[if_pos hd,k1,k2,k3]
end Go.Proofs.YtaamkfajnpobfaaGreat
namespace Go.Proofs.YtaamkfajnpobfaaGreat
open Go.RowKit
def eraS (y:Nat):Nat:=365*y+y/4-y/100+y/400
def eraY (e:Nat):Nat:=(e-e/1460+e/36524-e/146096)/365
theorem eraG_step (e:Nat)(h:e+1≤146096):e-e/1460+e/36524-e/146096≤(e+1)-(e+1)/1460+(e+1)/36524-(e+1)/146096:=by omega
theorem eraG_mono (k:Nat):∀e,e+k≤146096→e-e/1460+e/36524-e/146096≤(e+k)-(e+k)/1460+(e+k)/36524-(e+k)/146096:=by
 induction k with
 |zero=>intro e _;exact Nat.le_refl _
 |succ k ih=>intro e h;exact Nat.le_trans (ih e (by omega)) (eraG_step (e+k) (by omega))
theorem eraY_mono {e e':Nat}(h:e≤e')(h1:e'≤146096):eraY e≤eraY e':=by
 obtain⟨k,rfl⟩:∃k,e'=e+k:=⟨e'-e,by omega⟩
 exact Nat.div_le_div_right (eraG_mono k e h1)
def tabY (y:Nat):Bool:=Nat.beq (eraY (eraS y)) y&&Nat.beq (eraY (eraS (y+1)-1)) y&&Nat.blt (eraS y) (eraS (y+1))&&Nat.ble (eraS (y+1)) 146097
theorem tabY_all:((List.range 20).all fun a=>(List.range 20).all fun b=>tabY (20*a+b))=true:=by decide+kernel
theorem eraY_table (y:Nat)(h:y<400):eraY (eraS y)=y∧eraY (eraS (y+1)-1)=y∧eraS y<eraS (y+1)∧eraS (y+1)≤146097:=by
 have h1:=List.all_eq_true.1 (List.all_eq_true.1 tabY_all (y/20) (List.mem_range.2 (by omega))) (y%20) (List.mem_range.2 (by omega))
 rw[show 20*(y/20)+y%20=y by omega] at h1
 unfold tabY at h1
 simp only[Bool.and_eq_true] at h1
 obtain⟨⟨⟨a,b⟩,c⟩,d⟩:=h1
 exact⟨Nat.eq_of_beq_eq_true a,Nat.eq_of_beq_eq_true b,Nat.le_of_ble_eq_true c,Nat.le_of_ble_eq_true d⟩
theorem eraS_last:eraS 400=146097:=by decide+kernel
theorem era_year (e:Nat)(h:e<146097):∃y,y<400∧eraS y≤e∧e<eraS (y+1):=by
 have key:∀k,k≤400→e<eraS k→∃y,y<400∧eraS y≤e∧e<eraS (y+1):=by
  intro k
  induction k with
  |zero=>intro _ h;exact absurd h (Nat.not_lt_zero _)
  |succ k ih=>
   intro hk he
   rcases Nat.lt_or_ge e (eraS k) with h1|h1
   ·exact ih (by omega) h1
   ·exact⟨k,by omega,h1,he⟩
 exact key 400 (Nat.le_refl _) (by rw[eraS_last];exact h)
theorem era_of (e:Nat)(h:e<146097):eraY e<400∧eraS (eraY e)≤e∧e<eraS (eraY e+1):=by
 obtain⟨y,h1,h2,h3⟩:=era_year e h
 obtain⟨t1,t2,t3,t4⟩:=eraY_table y h1
 have a:=eraY_mono h2 (by omega)
 have b:=eraY_mono (e:=e) (e':=eraS (y+1)-1) (by omega) (by omega)
 have:eraY e=y:=by omega
 rw[this]
 exact⟨h1,h2,h3⟩
def lenM (m:Nat):Nat:=[31,30,31,30,31,31,30,31,30,31,31,29].getD m 0
def tabM (t:Nat):Bool:=Nat.ble ((5*t+2)/153) 11&&Nat.ble ((153*((5*t+2)/153)+2)/5) t&&Nat.blt (t-(153*((5*t+2)/153)+2)/5) (lenM ((5*t+2)/153))&&(!(Nat.beq (t-(153*((5*t+2)/153)+2)/5) 28&&Nat.beq ((5*t+2)/153) 11)||Nat.beq t 365)
theorem tabM_all:((List.range 19).all fun a=>(List.range 20).all fun b=>Nat.ble 366 (20*a+b)||tabM (20*a+b))=true:=by decide+kernel
theorem month_table (t:Nat)(h:t<366):(5*t+2)/153≤11∧(153*((5*t+2)/153)+2)/5≤t∧t-(153*((5*t+2)/153)+2)/5<lenM ((5*t+2)/153)∧(t-(153*((5*t+2)/153)+2)/5=28→(5*t+2)/153=11→t=365):=by
 have h1:=List.all_eq_true.1 (List.all_eq_true.1 tabM_all (t/20) (List.mem_range.2 (by omega))) (t%20) (List.mem_range.2 (by omega))
 rw[show 20*(t/20)+t%20=t by omega] at h1
 have h0:Nat.ble 366 t=false:=by
  cases hb:Nat.ble 366 t with
  |false=>rfl
  |true=>have:=Nat.le_of_ble_eq_true hb;omega
 rw[h0,Bool.false_or] at h1
 unfold tabM at h1
 simp only[Bool.and_eq_true] at h1
 obtain⟨⟨⟨a,b⟩,c⟩,d⟩:=h1
 refine⟨Nat.le_of_ble_eq_true a,Nat.le_of_ble_eq_true b,Nat.le_of_ble_eq_true c,fun e1 e2=> ?_⟩
 rw[e1,e2] at d
 exact Nat.eq_of_beq_eq_true (by simpa using d)
theorem leap_shift (q y:Nat)(h:leapB ((y:Int)+1)=true):leapB (((q*400+y:Nat):Int)+1)=true:=by
 rw[leapB_iff] at *
 omega
theorem of_shift (q y:Nat)(h:y<400)(mm d:Int):(((q*400+y:Nat):Int))/400*146097+(((q*400+y:Nat):Int)%400*365+((q*400+y:Nat):Int)%400/4-((q*400+y:Nat):Int)%400/100+((153*mm+2)/5+d-1))-719468=q*146097+((y:Int)*365+y/4-y/100)+((153*mm+2)/5+d-1)-719468:=by
 have a1:(((q*400+y:Nat):Int))/400=q:=by omega
 have a2:((q*400+y:Nat):Int)%400=y:=by omega
 rw[a1,a2]
 omega
theorem eraS_leap (y:Nat):eraS (y+1)-eraS y≤366∧(eraS (y+1)-eraS y=366→leapB ((y:Int)+1)=true):=by
 unfold eraS
 refine⟨by omega,fun h=> ?_⟩
 rw[leapB_iff]
 omega
theorem eraS_int (y:Nat)(h:y<400):(eraS y:Int)=(y:Int)*365+y/4-y/100:=by unfold eraS;omega
theorem civ_core (n q e y t m d:Nat)(hn:n+719468=q*146097+e)(h1:y<400)(h2:eraS y≤e)(h3:e<eraS (y+1))(ht:t=e-eraS y)(hm:m=(5*t+2)/153)(hd:d=t-(153*m+2)/5+1):
  ofZ (if 10≤m then q*400+y+1 else q*400+y:Nat) (if 10≤m then m-9 else m+3:Nat) d=n∧1≤(if 10≤m then m-9 else m+3)∧(if 10≤m then m-9 else m+3)≤12∧1≤d∧(d:Int)≤daysZ (if 10≤m then q*400+y+1 else q*400+y:Nat) (if 10≤m then m-9 else m+3:Nat):=by
 obtain⟨l1,l2⟩:=eraS_leap y
 have hlp:t=365→leapB (((q*400+y:Nat):Int)+1)=true:=fun h=>leap_shift q y (l2 (by omega))
 have hi:=eraS_int y h1
 have hsh:=of_shift q y h1
 obtain⟨m1,m2,m3,m4⟩:=month_table t (by omega)
 rw[←hm] at m1 m2 m3 m4
 have hzz:∀mm:Int,mm=m→(q:Int)*146097+((y:Int)*365+y/4-y/100)+((153*mm+2)/5+(d:Int)-1)-719468=n:=by
  rintro mm rfl
  rw[←hi]
  omega
 clear hi l1 l2 h2 h3 hn
 obtain⟨yy,hyy⟩:∃yy,yy=q*400+y:=⟨_,rfl⟩
 rw[←hyy] at hlp hsh⊢
 clear hyy
 by_cases hm10:10≤m
 ·simp only[hm10,if_true]
  refine⟨?_,by omega,by omega,by omega,?_⟩
  ·unfold ofZ ofY ofM
   rw[if_pos (by omega),if_pos (by omega),show(((yy+1:Nat):Int)-1)=(yy:Int) by omega,hsh]
   exact hzz _ (by omega)
  ·have:m=10∨m=11:=by omega
   rcases this with rfl|rfl
   ·replace m3:t-(153*10+2)/5<31:=m3
    unfold daysZ
    simp
    omega
   ·replace m3:t-(153*11+2)/5<29:=m3
    unfold daysZ
    simp
    split
    ·omega
    ·rename_i hl
     have:t≠365:=fun h=>hl (hlp h)
     omega
 ·simp only[hm10,if_false]
  refine⟨?_,by omega,by omega,by omega,?_⟩
  ·unfold ofZ ofY ofM
   rw[if_neg (by omega),if_neg (by omega),hsh]
   exact hzz _ (by omega)
  ·have:m=0∨m=1∨m=2∨m=3∨m=4∨m=5∨m=6∨m=7∨m=8∨m=9:=by omega
   clear hzz hsh hlp hm10 m1 m4
   rcases this with rfl|rfl|rfl|rfl|rfl|rfl|rfl|rfl|rfl|rfl<;>(simp[lenM] at m3;unfold daysZ;simp;omega)
def yT (e:Nat):Nat:=e-eraS (eraY e)
def mT (e:Nat):Nat:=(5*yT e+2)/153
def dT (e:Nat):Nat:=yT e-(153*mT e+2)/5+1
def cY (q e:Nat):Nat:=if 10≤mT e then q*400+eraY e+1 else q*400+eraY e
def cM (e:Nat):Nat:=if 10≤mT e then mT e-9 else mT e+3
theorem civ_qe (n q e:Nat)(hn:n+719468=q*146097+e)(he:e<146097):ofZ (cY q e) (cM e) (dT e)=n∧1≤cM e∧cM e≤12∧1≤dT e∧(dT e:Int)≤daysZ (cY q e) (cM e):=by
 obtain⟨h1,h2,h3⟩:=era_of _ he
 have:=civ_core n q e (eraY e) (yT e) (mT e) (dT e) hn h1 h2 h3 rfl rfl rfl
 unfold cY cM
 exact this
theorem ofOk_of (n:Nat)(y m d:Nat)(h:n≤2932896)(hz:ofZ y m d=n)(h2:1≤m)(h3:m≤12)(h4:1≤d)(h5:(d:Int)≤daysZ y m):ofOk y m d=true:=by
 have hday:=of_day (y:Int) (m:Int) (d:Int)
 have hlo:(1970:Int)≤y:=by
  rcases Int.lt_or_le (y:Int) 1970 with hlt|hge
  ·exfalso
   have h6:=of_le_y (y:=(y:Int)+1) (y':=1970) (by omega)
   have hs:=of_start
   have hdec:=of_dec (y:Int)
   rcases Nat.lt_or_ge m 12 with hm12|hm12
   ·have hmn:=of_month (y:Int) (m:Int) (by omega) (by omega)
    have hm2:=of_le_m (y:=(y:Int)) (m:=(m:Int)+1) (m':=12) (by omega) (by omega) (by omega)
    omega
   ·have h12:(m:Int)=12:=by omega
    rw[h12] at hday h5 hz
    have:daysZ (y:Int) 12=31:=by unfold daysZ;simp
    omega
  ·exact hge
 have hhi:(y:Int)≤9999:=by
  rcases Int.lt_or_le 9999 (y:Int) with hlt|hge
  ·exfalso
   have h6:=of_le_y (y:=10000) (y':=(y:Int)) (by omega)
   have hs:=of_last
   have hm:=of_le_m (y:=(y:Int)) (m:=1) (m':=(m:Int)) (by omega) (by omega) (by omega)
   omega
  ·exact hge
 unfold ofOk
 simp only[Bool.and_eq_true,decide_eq_true_eq]
 exact⟨⟨⟨hlo,hhi⟩,by omega⟩,h5⟩
def dayT (n:Nat):List Nat:=printD (cY ((n+719468)/146097) ((n+719468)%146097)) (cM ((n+719468)%146097)) (dT ((n+719468)%146097))
theorem dayT_of (n q e:Nat)(hq:(n+719468)/146097=q)(he:(n+719468)%146097=e):dayT n=printD (cY q e) (cM e) (dT e):=by subst hq he;rfl
end Go.Proofs.YtaamkfajnpobfaaGreat
namespace Go.Proofs.YtaamkfajnpobfaaGreat
open Go.RowKit
theorem refLeap_any (y:Int)(w:World)(h0:0≤y)(h1:y≤100000):Calls Tryz.prog 143 #[.int .i64 y] w fun e w'=>e= .returned (.bool (leapB y))∧Grow w w':=by
 have bel:=Below.refl w.heap.size w
 refine Zs 16 Tryz.func143 ?_
 refine Zsr ?_
 refine Za ?_
 refine Zk2 0 2 (Ztq ?_)
 refine Zm ?_
 refine Zv (Runs.remN rfl rfl rfl (by omega) (by omega)) ?_
 refine Zv (Runs.eqlI rfl rfl rfl) ?_
 refine Zm ?_
 refine SeqC.start ?_
 refine Zco (fun hcx=>Runs.move rfl rfl) ?_
 refine SeqC.next rfl rfl rfl rfl rfl rfl rfl (fun hcx=>Runs.remN rfl rfl rfl (by omega) (by omega)) ?_
 refine SeqC.next rfl rfl rfl rfl rfl rfl rfl (fun hcx=>Runs.eqlI rfl rfl rfl) ?_
 refine SeqC.next rfl rfl rfl rfl rfl rfl rfl (fun hcx=>Runs.move rfl rfl) ?_
 refine Zco (fun hcx=>Runs.move rfl rfl) ?_
 refine SeqC.next rfl rfl rfl rfl rfl rfl rfl (fun hcx=>Runs.remN rfl rfl rfl (by omega) (by omega)) ?_
 refine SeqC.next rfl rfl rfl rfl rfl rfl rfl (fun hcx=>Runs.neqI rfl rfl rfl) ?_
 refine SeqC.andG rfl rfl rfl rfl rfl rfl rfl rfl rfl rfl rfl ?_
 refine SeqC.or rfl rfl rfl rfl rfl rfl rfl ?_
 refine Za ?_
 refine Zk2 0 2 (Zt (Cd.ret ?_))
 refine Post.end1 rfl rfl (.inl rfl) ?_
 refine⟨ret1 (bool_eq ?_),bel⟩
 rw[Bool.eq_iff_iff,leapB_iff]
 simp
 omega
theorem refDays_any (y m:Int)(w:World)(h0:0≤y)(h1:y≤100000)(hm:I64 m):Calls Tryz.prog 142 #[.int .i64 y, .int .i64 m] w fun e w'=>e= .returned (.int .i64 (daysZ y m))∧Grow w w':=by
 have bel:=Below.refl w.heap.size w
 have hm1:=hm.1
 have hm2:=hm.2
 refine Zs 24 Tryz.func142 ?_
 refine Zsr ?_
 refine Za ?_
 refine Zk3 0 1 4 (Zts (Zsr ?_))
 refine Zm ?_
 refine Zv (Runs.lss rfl rfl rfl) ?_
 refine Zm ?_
 refine SeqC.start ?_
 refine Zco (fun hcx=>Runs.move rfl rfl) ?_
 refine SeqC.next rfl rfl rfl rfl rfl rfl rfl (fun hcx=>Runs.gtr rfl rfl rfl) ?_
 refine SeqC.or rfl rfl rfl rfl rfl rfl rfl ?_
 refine Zk4 0 1 4 11 (Zt ?_)
 refine Cd.cond rfl (fun h=> ?_) (fun h=> ?_)
 ·skip
  refine Zsr ?_
  refine Za ?_
  refine Zk4 0 1 4 11 (Zt (Cd.ret (Post.then_ret ?_)))
  refine Post.end1 rfl rfl (.inl rfl) ?_
  refine⟨ret1 (int_eq ?_),bel⟩
  simp at h
  unfold daysZ
  rw[if_neg (by omega),if_neg (by omega),if_neg (by omega)]
 ·have hm3:1≤m∧m≤12:=by simp at h;omega
  clear h
  refine Cd.skip (Ztq ?_)
  refine Seq.slice (vs:=[_,_,_,_,_,_,_,_,_,_,_,_]) (s:=1) rfl rfl rfl Tryz.underlying43 (by kernel_rfl) (zero_int) (by omega) (by omega) ⟨rfl,rfl,rfl,rfl,rfl,rfl,rfl,rfl,rfl,rfl,rfl,rfl,trivial⟩ rfl rfl rfl ?_
  intro g12 w1 n12
  have e12:=Nat.le_trans bel.size n12.ge
  replace bel:=bel.step n12.below
  have k12:=n12.blk
  refine Za ?_
  refine Zk5 0 1 4 5 11 (Zts (Zsr ?_))
  refine Zm ?_
  refine Zv (Runs.eqlI rfl rfl rfl) ?_
  refine Zm ?_
  refine SeqC.start ?_
  refine Zco (fun hcx=>Runs.move rfl rfl) ?_
  refine SeqC.nextC rfl rfl rfl rfl rfl rfl rfl (fun hcx=>Ze Tryz.func143) (fun hcx=>refLeap_any y _ h0 h1) ?_
  intro w2 hw2
  replace bel:=bel.step hw2
  replace k12:=k12.step hw2
  refine SeqC.and rfl rfl rfl rfl rfl rfl rfl ?_
  refine Zk6 0 1 4 5 11 18 (Zt ?_)
  refine Cd.cond rfl (fun h=> ?_) (fun h=> ?_)
  ·simp at h
   refine Zsr ?_
   refine Za ?_
   refine Zk6 0 1 4 5 11 18 (Zt (Cd.ret (Post.then_ret ?_)))
   refine Post.end1 rfl rfl (.inl rfl) ?_
   refine⟨ret1 (int_eq ?_),bel⟩
   unfold daysZ
   rw[if_pos h.1,if_pos h.2]
  ·simp at h
   refine Cd.skip (Ztq ?_)
   refine Zm ?_
   refine Zm ?_
   refine Zv (Runs.subI rfl rfl rfl (by omega) (by omega)) ?_
   have hj:0≤m-1∧m-1<12:=by omega
   have hv:(#[(.int .i64 31:Value), .int .i64 28, .int .i64 31, .int .i64 30, .int .i64 31, .int .i64 30, .int .i64 31, .int .i64 31, .int .i64 30, .int .i64 31, .int .i64 30, .int .i64 31]:Array Value)[(m-1).toNat]? =some (.int .i64 (daysZ y m)):=by
    rcases(show m=1∨m=2∨m=3∨m=4∨m=5∨m=6∨m=7∨m=8∨m=9∨m=10∨m=11∨m=12 by omega) with rfl|rfl|rfl|rfl|rfl|rfl|rfl|rfl|rfl|rfl|rfl|rfl
    case inr.inl=>unfold daysZ;rw[if_pos rfl,h rfl];rfl
    all_goals rfl
   refine Zv (Runs.indexB rfl rfl rfl Tryz.underlying43 (by kernel_rfl) (j:=(m-1).toNat) (by omega) (by omega)) ?_
   refine Zv (Runs.loadB rfl rfl Tryz.underlying3 rfl k12 hv) ?_
   refine Za ?_
   refine Zk6 0 1 4 5 11 18 (Zt (Cd.ret ?_))
   refine Post.end1 rfl rfl (.inl rfl) ?_
   exact⟨rfl,bel⟩
theorem refDayOf_any (y m d:Int)(w:World)(hy:I64 y)(hm:I64 m)(hd:I64 d):Calls Tryz.prog 110 #[.int .i64 y, .int .i64 m, .int .i64 d] w fun e w'=>e= .returned (.int .i64 (if ofOk y m d then ofZ y m d else -1))∧Grow w w':=by
 have bel:=Below.refl w.heap.size w
 have hy1:=hy.1
 have hy2:=hy.2
 have hm1:=hm.1
 have hm2:=hm.2
 have hd1:=hd.1
 have hd2:=hd.2
 have hok:= @of_span y m d
 have hdef:ofOk y m d=(decide (1970≤y)&&decide (y≤9999)&&decide (1≤d)&&decide (d≤daysZ y m)):=rfl
 have hdm:= @daysZ_m y m
 refine Zs 60 Tryz.func110 ?_
 refine Zsr ?_
 refine Za ?_
 refine Zk4 0 1 2 6 (Zts (Zsr ?_))
 refine Zm ?_
 refine Zv (Runs.lss rfl rfl rfl) ?_
 refine Zm ?_
 refine SeqC.start ?_
 refine Zco (fun hcx=>Runs.move rfl rfl) ?_
 refine SeqC.next rfl rfl rfl rfl rfl rfl rfl (fun hcx=>Runs.gtr rfl rfl rfl) ?_
 refine SeqC.or rfl rfl rfl rfl rfl rfl rfl ?_
 refine Zm ?_
 refine SeqC.start ?_
 refine Zco (fun hcx=>Runs.move rfl rfl) ?_
 refine SeqC.next rfl rfl rfl rfl rfl rfl rfl (fun hcx=>Runs.lss rfl rfl rfl) ?_
 refine SeqC.or rfl rfl rfl rfl rfl rfl rfl ?_
 refine Zm ?_
 refine SeqC.start ?_
 refine Zco (fun hcx=>Runs.move rfl rfl) ?_
 refine SeqC.next rfl rfl rfl rfl rfl rfl rfl (fun hcx=>Runs.gtr rfl rfl rfl) ?_
 refine SeqC.or rfl rfl rfl rfl rfl rfl rfl ?_
 refine Zm ?_
 refine SeqC.start ?_
 refine Zco (fun hcx=>Runs.move rfl rfl) ?_
 refine SeqC.next rfl rfl rfl rfl rfl rfl rfl (fun hcx=>Runs.lss rfl rfl rfl) ?_
 refine SeqC.or rfl rfl rfl rfl rfl rfl rfl ?_
 refine Zm ?_
 refine SeqC.start ?_
 refine Zco (fun hcx=>Runs.move rfl rfl) ?_
 refine SeqC.next rfl rfl rfl rfl rfl rfl rfl (fun hcx=>Runs.move rfl rfl) ?_
 refine SeqC.next rfl rfl rfl rfl rfl rfl rfl (fun hcx=>Runs.move rfl rfl) ?_
 refine SeqC.nextC rfl rfl rfl rfl rfl rfl rfl (fun hcx=>Ze Tryz.func142) (fun hcx=>refDays_any y m _ (by simp at hcx;omega) (by simp at hcx;omega) hm) ?_
 intro w1 hw1
 replace bel:=bel.step hw1
 refine SeqC.next rfl rfl rfl rfl rfl rfl rfl (fun hcx=>Runs.gtr rfl rfl rfl) ?_
 refine SeqC.or rfl rfl rfl rfl rfl rfl rfl ?_
 refine Zk5 0 1 2 6 34 (Zt ?_)
 refine Cd.cond rfl (fun h=> ?_) (fun h=> ?_)
 ·have hno:ofOk y m d=false:=by
   rw[hdef,Bool.eq_false_iff]
   intro h2
   simp at h2 h
   have:=hdm (by omega)
   omega
  refine Zsr ?_
  refine Za ?_
  refine Zk5 0 1 2 6 34 (Zt (Cd.ret (Post.then_ret ?_)))
  refine Post.end1 rfl rfl (.inl rfl) ?_
  exact⟨ret1 (int_eq (by rw[hno];rfl)),bel⟩
 have hyes:ofOk y m d=true:=by
  rw[hdef]
  simp at h⊢
  omega
 obtain⟨o1,o2,o3,o4,o5,o6,o7,o8,o9,o10⟩:=hok hyes
 clear h hok hdef hdm
 rw[hyes,if_pos rfl]
 refine Cd.skip (Ztq ?_)
 refine Za ?_
 refine Zk6 0 1 2 6 7 34 (Zts (Zsr ?_))
 refine Za ?_
 refine Zk7 0 1 2 6 7 8 34 (Zt (Cd.block ?_))
 refine Cd.loop (σ:=Nat) (fun k=>[(0, .int .i64 y),(1, .int .i64 m),(2, .int .i64 d),(7, .int .i64 (ofZ (1970+k) 1 1)),(8, .int .i64 (1970+k))])
  (fun k wr=>1970+(k:Int)≤y∧Below w.heap.size w wr) (fun k=>(y-1970-k).toNat) 0 ⟨by simp;omega,bel⟩ ⟨rfl,rfl,rfl,congrArg (fun x:Int=>some (Value.int .i64 x)) (show(0:Int)=ofZ (1970+((0:Nat):Int)) 1 1 by rfl),rfl,trivial⟩ ?_
 clear bel
 rintro k wr ⟨hk,bel⟩
 refine Cd.seq (Zsr ?_)
 refine Zm ?_
 refine Zm ?_
 refine Zv (Runs.lss rfl rfl rfl) ?_
 refine Zk6 0 1 2 7 8 37 (Zt ?_)
 refine Cd.condD rfl (fun hc=> ?_) (fun hc=> ?_)
 ·have h1:=of_year (1970+k)
  have h2:=of_le_y (y:=1970) (y':=1970+(k:Int)) (by omega)
  have h3:=of_le_y (y:=1970+(k:Int)+1) (y':=10000) (by omega)
  have h4:=yearZ_pos (1970+(k:Int))
  rw[of_start] at h2
  rw[of_last] at h3
  have h5:yearZ (1970+(k:Int))=if leapB (1970+(k:Int)) then 366 else 365:=rfl
  have hnx:(1970:Int)+((k+1:Nat):Int)=1970+(k:Int)+1:=by omega
  generalize hY:1970+(k:Int)=Y at *
  refine Cd.skip (Zts (Cd.block (Zsr ?_)))
  refine Zm ?_
  refine Za_ ?_
  refine Za ?_
  refine Zk6 0 1 2 7 8 37 (Ztq ?_)
  refine Zm ?_
  refine Zc (Ze Tryz.func143) (refLeap_any Y _ (by omega) (by omega)) ?_
  rintro e w5 ⟨rfl,hb5⟩
  refine⟨_,rfl,?_⟩
  replace bel:=bel.step hb5
  refine Zk7 0 1 2 7 8 37 43 (Zt ?_)
  refine Cd.cond rfl (fun h=> ?_) (fun h=> ?_)
  ·rw[h,if_pos rfl] at h5
   refine Zr ?_
   refine Zm ?_
   refine Za_ ?_
   refine Za ?_
   refine Zk7 0 1 2 7 8 37 43 (Post.block_normal (Ztr ?_))
   refine Zm ?_
   refine Za_ ?_
   refine Za ?_
   refine Zk7 0 1 2 7 8 37 43 ?_
   exact Post.round (k+1) ⟨rfl,rfl,rfl,congrArg (fun x:Int=>some (Value.int .i64 x)) (by rw[hnx];omega),congrArg (fun x:Int=>some (Value.int .i64 x)) hnx.symm,trivial⟩ ⟨by omega,bel⟩ (by omega)
  ·rw[h,if_neg (by simp)] at h5
   refine Cd.skip (Post.block_normal (Ztr ?_))
   refine Zm ?_
   refine Za_ ?_
   refine Za ?_
   refine Zk7 0 1 2 7 8 37 43 ?_
   exact Post.round (k+1) ⟨rfl,rfl,rfl,congrArg (fun x:Int=>some (Value.int .i64 x)) (by rw[hnx];omega),congrArg (fun x:Int=>some (Value.int .i64 x)) hnx.symm,trivial⟩ ⟨by omega,bel⟩ (by omega)
 have hke:1970+(k:Int)=y:=by omega
 rw[hke]
 clear hk
 refine Cd.exit (Post.then_exit (Post.round_exit (Post.block_exit (Zts (Zsr ?_)))))
 refine Za ?_
 refine Zk7 0 1 2 7 8 9 37 (Zt (Cd.block ?_))
 refine Cd.loop (σ:=Nat) (fun j=>[(0, .int .i64 y),(1, .int .i64 m),(2, .int .i64 d),(7, .int .i64 (ofZ y (1+j) 1)),(9, .int .i64 (1+j))])
  (fun j wr=>1+(j:Int)≤m∧Below w.heap.size w wr) (fun j=>(m-1-j).toNat) 0 ⟨by simp;omega,bel⟩ ⟨rfl,rfl,rfl,rfl,rfl,trivial⟩ ?_
 clear bel
 rintro j wr2 ⟨hj,bel⟩
 refine Cd.seq (Zsr ?_)
 refine Zm ?_
 refine Zm ?_
 refine Zv (Runs.lss rfl rfl rfl) ?_
 refine Zk6 0 1 2 7 9 48 (Zt ?_)
 have b1:=of_le_m (y:=y) (m:=1) (m':=1+(j:Int)) (by omega) (by omega) (by omega)
 have b2:=of_le_m (y:=y) (m:=1+(j:Int)) (m':=m) (by omega) (by omega) (by omega)
 have b3:=of_le_y (y:=1970) (y':=y) (by omega)
 have b4:=of_day y m d
 rw[of_start] at b3
 refine Cd.condD rfl (fun hc=> ?_) (fun hc=> ?_)
 ·have h1:=of_month y (1+(j:Int)) (by omega) (by omega)
  have h2:=of_le_m (y:=y) (m:=1+(j:Int)+1) (m':=m) (by omega) (by omega) (by omega)
  have h3:=daysZ_pos y (1+(j:Int))
  have hnx:(1:Int)+((j+1:Nat):Int)=1+(j:Int)+1:=by omega
  generalize hM:1+(j:Int)=M at *
  refine Cd.skip (Zts (Cd.block (Zr ?_)))
  refine Zm ?_
  refine Zm ?_
  refine Zm ?_
  refine Zc (Ze Tryz.func142) (refDays_any y M _ (by omega) (by omega) ⟨by omega,by omega⟩) ?_
  rintro e w5 ⟨rfl,hb5⟩
  refine⟨_,rfl,?_⟩
  replace bel:=bel.step hb5
  refine Za_ ?_
  refine Za ?_
  refine Zk6 0 1 2 7 9 48 (Post.block_normal (Ztr ?_))
  refine Zm ?_
  refine Za_ ?_
  refine Za ?_
  refine Zk6 0 1 2 7 9 48 ?_
  exact Post.round (j+1) ⟨rfl,rfl,rfl,congrArg (fun x:Int=>some (Value.int .i64 x)) (by rw[hnx];omega),congrArg (fun x:Int=>some (Value.int .i64 x)) hnx.symm,trivial⟩ ⟨by omega,bel⟩ (by omega)
 ·have hje:1+(j:Int)=m:=by omega
  rw[hje] at b1 b2⊢
  refine Cd.exit (Post.then_exit (Post.round_exit (Post.block_exit (Ztq ?_))))
  refine Zm ?_
  refine Zm ?_
  refine Za_ ?_
  refine Zv (Runs.subI rfl rfl rfl (by omega) (by omega)) ?_
  refine Za ?_
  refine Zk7 0 1 2 6 7 9 48 (Zt (Cd.ret ?_))
  refine Post.end1 rfl rfl (.inl rfl) ?_
  exact⟨ret1 (int_eq (by omega)),bel⟩
theorem refCivil_any (y m d:Int)(w:World)(hok:ofOk y m d=true):Calls Tryz.prog 144 #[.int .i64 (ofZ y m d)] w fun e w'=>e= .returned (.tuple #[.int .i64 y, .int .i64 m, .int .i64 d])∧Grow w w':=by
 have bel:=Below.refl w.heap.size w
 obtain⟨o1,o2,o3,o4,o5,o6,o7,o8,o9,o10⟩:=of_span hok
 obtain⟨-,-,o11⟩:=daysZ_m (y:=y) (m:=m) (by omega)
 have hst:=of_start
 have hda:=of_day y m d
 have ha1:=of_le_m (y:=y) (m:=1) (m':=m) (by omega) (by omega) (by omega)
 generalize hn:ofZ y m d=n at *
 refine Zs 48 Tryz.func144 ?_
 refine Zsr ?_
 refine Za ?_
 refine Za ?_
 refine Za ?_
 refine Zk4 0 2 3 4 (Zts (Zsr ?_))
 refine Zm ?_
 refine Zv (Runs.lss rfl rfl rfl) ?_
 refine Zm ?_
 refine SeqC.start ?_
 refine Zco (fun hcx=>Runs.move rfl rfl) ?_
 refine SeqC.next rfl rfl rfl rfl rfl rfl rfl (fun hcx=>Runs.gtr rfl rfl rfl) ?_
 refine SeqC.or rfl rfl rfl rfl rfl rfl rfl ?_
 refine Zk5 0 2 3 4 12 (Zt ?_)
 refine Cd.condF rfl (by simp;omega) ?_
 refine Cd.skip (Ztq ?_)
 refine Za ?_
 refine Zk6 0 2 3 4 5 12 (Zts (Cd.block ?_))
 refine Cd.loop (σ:=Nat) (fun k=>[(0, .int .i64 (n-ofZ (1970+k) 1 1)),(5, .int .i64 (1970+k))])
  (fun k wr=>1970+(k:Int)≤y∧Below w.heap.size w wr) (fun k=>(y-1970-k).toNat) 0 ⟨by simp;omega,bel⟩ ⟨congrArg (fun x:Int=>some (Value.int .i64 x)) (show n=n-ofZ (1970+((0:Nat):Int)) 1 1 by show n=n-ofZ 1970 1 1;omega),rfl,trivial⟩ ?_
 clear bel
 rintro k wr ⟨hk,bel⟩
 have h1:=of_year (1970+k)
 have h2:=of_le_y (y:=1970) (y':=1970+(k:Int)) (by omega)
 have h3:=of_le_y (y:=1970+(k:Int)) (y':=y) hk
 have h4:1970+(k:Int)<y→ofZ (1970+(k:Int)+1) 1 1≤ofZ y 1 1:=fun h=>of_le_y (y:=1970+(k:Int)+1) (y':=y) (by omega)
 have h5:yearZ (1970+(k:Int))=if leapB (1970+(k:Int)) then 366 else 365:=rfl
 have hnx:(1970:Int)+((k+1:Nat):Int)=1970+(k:Int)+1:=by omega
 have h6:(1970+(k:Int)<y)∨(1970+(k:Int)=y):=by omega
 rw[hst] at h2
 generalize hY:1970+(k:Int)=Y at *
 refine Cd.seq (Zsr ?_)
 refine Zm ?_
 refine Zv (Runs.geq rfl rfl rfl) ?_
 refine Zm ?_
 refine SeqC.start ?_
 refine Zco (fun hcx=>Runs.move rfl rfl) ?_
 refine SeqC.next rfl rfl rfl rfl rfl rfl rfl (fun hcx=>Runs.geq rfl rfl rfl) ?_
 refine SeqC.next rfl rfl rfl rfl rfl rfl rfl (fun hcx=>Runs.move rfl rfl) ?_
 refine Zco (fun hcx=>Runs.move rfl rfl) ?_
 refine SeqC.nextC rfl rfl rfl rfl rfl rfl rfl (fun hcx=>Ze Tryz.func143) (fun hcx=>refLeap_any Y _ (by omega) (by omega)) ?_
 intro w1 hw1
 replace bel:=bel.step hw1
 refine SeqC.next rfl rfl rfl rfl rfl rfl rfl (fun hcx=>Runs.not rfl rfl) ?_
 refine SeqC.orG rfl rfl rfl rfl rfl rfl rfl rfl rfl rfl rfl ?_
 refine SeqC.and rfl rfl rfl rfl rfl rfl rfl ?_
 refine Zk3 0 5 23 (Zt ?_)
 refine Cd.cond rfl (fun h=> ?_) (fun h=> ?_)
 ·have hlt:Y<y:=by
   rcases h6 with h6|h6
   ·exact h6
   ·exfalso
    subst h6
    simp at h
    cases hl:leapB Y<;>rw[hl] at h h5<;>simp at h h5<;>omega
  have h7:=h4 hlt
  refine Cd.skip (Zt (Cd.block (Zsr ?_)))
  refine Zm ?_
  refine Zv (Runs.subI rfl rfl rfl (by omega) (by omega)) ?_
  refine Za ?_
  refine Zk3 0 5 23 (Zts (Zsr ?_))
  refine Zm ?_
  refine Zc (Ze Tryz.func143) (refLeap_any Y _ (by omega) (by omega)) ?_
  rintro e w5 ⟨rfl,hb5⟩
  refine⟨_,rfl,?_⟩
  replace bel:=bel.step hb5
  refine Zk4 0 5 23 27 (Zt ?_)
  refine Cd.cond rfl (fun hl=> ?_) (fun hl=> ?_)
  ·rw[hl,if_pos rfl] at h5
   refine Zr ?_
   refine Zm ?_
   refine Zv (Runs.subI rfl rfl rfl (by omega) (by omega)) ?_
   refine Za ?_
   refine Zk4 0 5 23 27 (Ztr ?_)
   refine Zm ?_
   refine Za_ ?_
   refine Za ?_
   refine Zk4 0 5 23 27 (Post.block_normal ?_)
   exact Post.round (k+1) ⟨congrArg (fun x:Int=>some (Value.int .i64 x)) (by rw[hnx];omega),congrArg (fun x:Int=>some (Value.int .i64 x)) hnx.symm,trivial⟩ ⟨by omega,bel⟩ (by omega)
  ·rw[hl,if_neg (by simp)] at h5
   refine Cd.skip (Ztr ?_)
   refine Zm ?_
   refine Za_ ?_
   refine Za ?_
   refine Zk4 0 5 23 27 (Post.block_normal ?_)
   exact Post.round (k+1) ⟨congrArg (fun x:Int=>some (Value.int .i64 x)) (by rw[hnx];omega),congrArg (fun x:Int=>some (Value.int .i64 x)) hnx.symm,trivial⟩ ⟨by omega,bel⟩ (by omega)
 have hke:Y=y:=by
  rcases h6 with h6|h6
  ·exfalso
   have h7:=h4 h6
   simp at h
   cases hl:leapB Y<;>rw[hl] at h h5<;>simp at h h5<;>omega
  ·exact h6
 subst hke
 clear hk h6 h4
 refine Cd.exit (Post.then_exit (Post.round_exit (Post.block_exit (Ztq ?_))))
 refine Za ?_
 refine Zk4 0 5 6 23 (Zts (Cd.block ?_))
 refine Cd.loop (σ:=Nat) (fun j=>[(0, .int .i64 (n-ofZ Y (1+j) 1)),(5, .int .i64 Y),(6, .int .i64 (1+j))])
  (fun j wr=>1+(j:Int)≤m∧Below w.heap.size w wr) (fun j=>(m-1-j).toNat) 0 ⟨by simp;omega,bel⟩ ⟨rfl,rfl,rfl,trivial⟩ ?_
 clear bel
 rintro j wr2 ⟨hj,bel⟩
 have b1:=of_le_m (y:=Y) (m:=1) (m':=1+(j:Int)) (by omega) (by omega) (by omega)
 have b2:1+(j:Int)<m→ofZ Y (1+(j:Int)) 1+daysZ Y (1+(j:Int))≤ofZ Y m 1:=fun h=>by
  have e:=of_month Y (1+(j:Int)) (by omega) (by omega)
  have:=of_le_m (y:=Y) (m:=1+(j:Int)+1) (m':=m) (by omega) (by omega) (by omega)
  omega
 have b3:1+(j:Int)<m→ofZ Y (1+(j:Int)+1) 1=ofZ Y (1+(j:Int)) 1+daysZ Y (1+(j:Int)):=fun h=>of_month Y (1+(j:Int)) (by omega) (by omega)
 have b5:1+(j:Int)<m∨1+(j:Int)=m:=by omega
 have b4:=daysZ_pos Y (1+(j:Int))
 have hnx:(1:Int)+((j+1:Nat):Int)=1+(j:Int)+1:=by omega
 generalize hM:1+(j:Int)=M at *
 refine Cd.seq (Zsr ?_)
 refine Zm ?_
 refine Zm ?_
 refine Zm ?_
 refine Zc (Ze Tryz.func142) (refDays_any Y M _ (by omega) (by omega) ⟨by omega,by omega⟩) ?_
 rintro e w5 ⟨rfl,hb5⟩
 refine⟨_,rfl,?_⟩
 replace bel:=bel.step hb5
 refine Zv (Runs.geq rfl rfl rfl) ?_
 refine Zk4 0 5 6 36 (Zt ?_)
 refine Cd.condD rfl (fun hc=> ?_) (fun hc=> ?_)
 ·have hlt:M<m:=by
   rcases b5 with h|h
   ·exact h
   ·exfalso;subst h;omega
  have b6:=b2 hlt
  have b7:=b3 hlt
  refine Cd.skip (Zt (Cd.block (Zsr ?_)))
  refine Zm ?_
  refine Zm ?_
  refine Zm ?_
  refine Zc (Ze Tryz.func142) (refDays_any Y M _ (by omega) (by omega) ⟨by omega,by omega⟩) ?_
  rintro e w6 ⟨rfl,hb6⟩
  refine⟨_,rfl,?_⟩
  replace bel:=bel.step hb6
  refine Zv (Runs.subI rfl rfl rfl (by omega) (by omega)) ?_
  refine Za ?_
  refine Zk4 0 5 6 36 (Ztr ?_)
  refine Zm ?_
  refine Za_ ?_
  refine Za ?_
  refine Zk4 0 5 6 36 (Post.block_normal ?_)
  exact Post.round (j+1) ⟨congrArg (fun x:Int=>some (Value.int .i64 x)) (by rw[hnx,b7];omega),rfl,congrArg (fun x:Int=>some (Value.int .i64 x)) hnx.symm,trivial⟩ ⟨by omega,bel⟩ (by omega)
 ·obtain rfl:M=m:=by
   rcases b5 with h|h
   ·have:=b2 h;omega
   ·exact h
  refine Cd.exit (Post.then_exit (Post.round_exit (Post.block_exit (Ztq ?_))))
  refine Zm ?_
  refine Zm ?_
  refine Zm ?_
  refine Za_ ?_
  refine Za ?_
  refine Za ?_
  refine Za ?_
  refine Zk7 0 2 3 4 5 6 36 (Zt (Cd.ret ?_))
  refine Post.end3 rfl rfl rfl rfl (.inl rfl) ?_
  exact⟨ret3 rfl rfl (int_eq (by omega)),bel⟩
end Go.Proofs.YtaamkfajnpobfaaGreat
namespace Go.Proofs.YtaamkfajnpobfaaGreat
open Go.RowKit
def val:List Nat→Nat
 | []=>0
 |d::l=>d+65536*val l
def digs (n:Nat):List Nat:=if n=0 then [] else n%65536::digs (n/65536)
termination_by n
decreasing_by omega
theorem digs_zero:digs 0=[]:=by rw[digs];simp
theorem digs_pos (n:Nat)(h:n≠0):digs n=n%65536::digs (n/65536):=by rw[digs,if_neg h]
theorem val_digs (n:Nat):val (digs n)=n:=by
 induction n using Nat.strongRecOn with
 |_ n ih=>
  by_cases h:n=0
  ·subst h;rw[digs_zero];rfl
  ·rw[digs_pos n h,val,ih _ (by omega)];omega
theorem digs_lt (n:Nat):∀d∈digs n,d<65536:=by
 induction n using Nat.strongRecOn with
 |_ n ih=>
  by_cases h:n=0
  ·subst h;rw[digs_zero];simp
  ·rw[digs_pos n h]
   intro d hd
   rcases List.mem_cons.1 hd with rfl|hd
   ·omega
   ·exact ih _ (by omega) d hd
theorem digs_len_zero (n:Nat):(digs n).length=0↔n=0:=by
 by_cases h:n=0
 ·subst h;simp[digs_zero]
 ·rw[digs_pos n h];simp[h]
theorem digs_val (l:List Nat)(h:∀d∈l,d<65536)(hl:∀k,l.length=k+1→l[k]? ≠some 0):digs (val l)=l:=by
 induction l with
 |nil=>exact digs_zero
 |cons d l ih=>
  have hd:=h d (by simp)
  have ih:=ih (fun x hx=>h x (by simp[hx])) (fun k hk=>by have:=hl (k+1) (by simp[hk]);simpa using this)
  have hne:val (d::l)≠0:=by
   rw[val]
   intro h0
   have hv:val l=0:=by omega
   rw[hv,digs_zero] at ih
   subst ih
   have hd0:d=0:=by omega
   exact hl 0 rfl (by simp[hd0])
  rw[digs_pos _ hne,val]
  have e1:(d+65536*val l)%65536=d:=by omega
  have e2:(d+65536*val l)/65536=val l:=by omega
  rw[e1,e2,ih]
theorem val_append (a b:List Nat):val (a++b)=val a+65536^a.length*val b:=by
 induction a with
 |nil=>simp[val]
 |cons d a ih=>
  rw[List.cons_append,val,val,ih,List.length_cons,Nat.pow_succ,Nat.mul_add,Nat.add_assoc,Nat.mul_comm (65536^a.length) 65536,Nat.mul_assoc]
theorem val_snoc (a:List Nat)(d:Nat):val (a++[d])=val a+65536^a.length*d:=by rw[val_append];simp[val]
theorem val_take_zero (l:List Nat)(k:Nat)(h:l[k]? =some 0):val (l.take (k+1))=val (l.take k):=by
 rw[List.take_add_one,h]
 show val (_++[0])=_
 rw[val_snoc]
 simp
theorem val_lt (l:List Nat)(h:∀d∈l,d<65536):val l<65536^l.length:=by
 induction l with
 |nil=>simp[val]
 |cons d l ih=>
  have:=ih (fun x hx=>h x (by simp[hx]))
  have hd:=h d (by simp)
  rw[val,List.length_cons,Nat.pow_succ]
  omega
theorem digs_len_le (n k:Nat)(h:n<65536^k):(digs n).length≤k:=by
 induction k generalizing n with
 |zero=>obtain rfl:n=0:=by simpa using h
        simp[digs_zero]
 |succ k ih=>
  by_cases h0:n=0
  ·subst h0;simp[digs_zero]
  ·rw[digs_pos n h0,List.length_cons]
   have:=ih (n/65536) (by rw[Nat.pow_succ] at h;omega)
   omega
theorem lt_of_digs_len (n:Nat):n<65536^(digs n).length:=by
 have:=val_lt _ (digs_lt n)
 rwa [val_digs] at this
theorem digs_take (l:List Nat)(k:Nat)(hd:∀d∈l,d<65536)(hk:k≤l.length)(hv:val (l.take k)=val l)(hl:∀j,k=j+1→l[j]? ≠some 0):digs (val l)=l.take k:=by
 rw[←hv]
 refine digs_val _ (fun d h=>hd d (List.mem_of_mem_take h)) (fun j hj=> ?_)
 rw[List.length_take,Nat.min_eq_left hk] at hj
 subst hj
 have:=hl j rfl
 simpa[List.getElem?_take] using this
def U (l:List Nat):List Value:=l.map fun(d:Nat)=>Value.int .u64 (d:Int)
theorem length_U (l:List Nat):(U l).length=l.length:=by simp[U]
theorem get_U (l:List Nat)(k:Nat):(U l)[k]? =l[k]?.map fun(d:Nat)=>Value.int .u64 (d:Int):=by simp[U]
theorem U_append (a b:List Nat):U (a++b)=U a++U b:=by simp[U]
theorem U_take (l:List Nat)(k:Nat):(U l).take k=U (l.take k):=by simp[U]
theorem Reads.dig {w wr:World}{B B' n k:Nat}{A:Option Addr}{l:List Nat}(h:Reads w B 1 A n (U l))(hb:Below B' w wr)(hB:B≤B')(hk:k<n):
  ∃ad d,A=some ad∧ad.block<B∧l[k]? =some d∧wr.cell? (ad.add k)=some (.int .u64 (d:Int)):=by
 obtain⟨ad,u,e,hbl,hu,hc⟩:=h.at_ hk
 rw[get_U] at hu
 cases hl:l[k]? with
 |none=>rw[hl] at hu;cases hu
 |some d=>
  rw[hl] at hu
  injection hu with hu
  exact⟨ad,d,e,hbl,rfl,by rw[hb.cell (by rw[block_of_add];omega),hc,←hu]⟩
theorem Reads.len_U {w:World}{B n:Nat}{A:Option Addr}{l:List Nat}(h:Reads w B 1 A n (U l)):l.length=n:=by have:=h.1;rw[length_U] at this;omega
set_option maxHeartbeats 400000 in
theorem trim_any (B:Nat)(A:Option Addr)(n cap:Nat)(l:List Nat)(w:World)(hr:Reads w B 1 A n (U l))(hB:B≤w.heap.size)(hd:∀d∈l,d<65536)(hn:n≤1073741824)(hc:n≤cap):
  Calls Tryz.prog 150 #[.slice A n cap] w fun e w'=>e= .returned (.slice A (digs (val l)).length cap)∧w=w':=by
 go_enter Tryz.func150,Tryz.ntmps150
 go_wp2_with fail
 go_loopw [0] (fun u wr=>∃k:Nat,k≤n∧u= .slice A k cap∧val (l.take k)=val l∧w=wr) (fun u _=>match u with| .slice _ k _=>k|_=>0)
 case atStart=>exact⟨n,Nat.le_refl _,rfl,by rw[List.take_of_length_le (by rw[hr.len_U];omega)],rfl⟩
 case round=>
  obtain⟨k,hk,rfl,hv,rfl⟩:=hrel
  have hlen:=hr.len_U
  have Hd:=Lib.hid hd
  have Hv:=Lib.hid hv
  clear hd hv
  rcases Nat.eq_zero_or_pos k with h0|h0
  ·subst h0
   have e:=digs_take l 0 Hd.out (by omega) Hv.out (by omega)
   have e2:=Lib.hid (congrArg List.length e)
   clear e
   go_wp2_with fail
   go_ret
   rw[e2.out]
   exact⟨rfl,rfl⟩
  ·obtain⟨j,rfl⟩:∃j,k=j+1:=⟨k-1,by omega⟩
   obtain⟨ad,d,rfl,hbl,hg,hcell⟩:=hr.dig (Below.refl B w) (Nat.le_refl _) (show j<n by omega)
   have Hg:=Lib.hid hg
   have ej:((j+1:Nat):Int)-1=(j:Int):=by omega
   clear hg
   by_cases hz:d=0
   ·subst hz
    have Hv2:=Lib.hid ((val_take_zero l j Hg.out).symm.trans Hv.out)
    go_wp2_with fail
    go_roundw
    case rel=>exact⟨j,by omega,by go_num,Hv2.out,trivial⟩
    case measure=>simp
   ·have e:=digs_take l (j+1) Hd.out (by omega) Hv.out (fun i hi=>by obtain rfl:i=j:=by omega
                                                                     rw[Hg.out];simpa using hz)
    have e2:=Lib.hid (congrArg List.length e)
    clear e
    go_wp2_with fail
    go_ret
    rw[e2.out,List.length_take,Nat.min_eq_left (by omega)]
    exact⟨rfl,rfl⟩
end Go.Proofs.YtaamkfajnpobfaaGreat
namespace Go.Proofs.YtaamkfajnpobfaaGreat
open Go.RowKit
def MagR (w:World)(v:Value)(n:Nat):Prop:=∃A c,v= .slice A (digs n).length c∧(digs n).length≤c∧c≤9223372036854775807∧Reads w w.heap.size 1 A (digs n).length (U (digs n))
def Fresh (base:Nat)(v:Value):Prop:=match v with
 | .slice (some A) _ _=>base≤A.block
 |_=>True
theorem Fresh.mono {b b':Nat}{v:Value}(h:Fresh b v)(hb:b'≤b):Fresh b' v:=by
 unfold Fresh at *
 split<;>first|trivial|(simp only at h;omega)
theorem MagR.step {w w':World}{v:Value}{n:Nat}(h:MagR w v n)(hb:Below w.heap.size w w'):MagR w' v n:=by
 obtain⟨A,c,e,h1,h2,h3⟩:=h
 exact⟨A,c,e,h1,h2,(h3.below hb).more hb.size⟩
theorem MagR.drewN {w:World}{v:Value}{n:Nat}(h:MagR w v n)(k:Nat):MagR (w.drewN k) v n:=h
theorem MagR.nil (w:World)(c:Nat)(hc:c≤9223372036854775807):MagR w (.slice none 0 c) 0:=⟨none,c,by rw[digs_zero];rfl,by rw[digs_zero];simp,hc,by rw[digs_zero];exact Reads.none_⟩
theorem val_split (l:List Nat)(i d:Nat)(h:l[i]? =some d):val l=val (l.take i)+65536^i*(d+65536*val (l.drop (i+1))):=by
 obtain⟨hi,rfl⟩:=List.getElem?_eq_some_iff.1 h
 have e:=val_append (l.take i) (l.drop i)
 rw[List.take_append_drop,List.length_take,Nat.min_eq_left (by omega)] at e
 rw[List.drop_eq_getElem_cons hi,val] at e
 exact e
theorem val_lt_at (a b:List Nat)(i x y:Nat)(ha:∀d∈a,d<65536)(hx:a[i]? =some x)(hy:b[i]? =some y)(hlt:x<y)(hd:a.drop (i+1)=b.drop (i+1)):val a<val b:=by
 rw[val_split a i x hx,val_split b i y hy,hd]
 obtain⟨hi,-⟩:=List.getElem?_eq_some_iff.1 hx
 have h1:=val_lt (a.take i) (fun d h=>ha d (List.mem_of_mem_take h))
 rw[List.length_take,Nat.min_eq_left (by omega)] at h1
 have h2:65536^i*(x+65536*val (b.drop (i+1))+1)≤65536^i*(y+65536*val (b.drop (i+1))):=Nat.mul_le_mul_left _ (by omega)
 rw[Nat.mul_add _ _ 1] at h2
 omega
theorem lt_of_len (a b:Nat)(h:(digs a).length<(digs b).length):a<b:=by
 rcases Nat.lt_or_ge a b with h1|h1
 ·exact h1
 ·exfalso
  have h2:=lt_of_digs_len a
  have:=digs_len_le b _ (Nat.lt_of_le_of_lt h1 h2)
  omega
theorem drop_step {α:Type}(a b:List α)(i:Nat)(x:α)(hx:a[i]? =some x)(hy:b[i]? =some x)(h:a.drop (i+1)=b.drop (i+1)):a.drop i=b.drop i:=by
 obtain⟨h1,e1⟩:=List.getElem?_eq_some_iff.1 hx
 obtain⟨h2,e2⟩:=List.getElem?_eq_some_iff.1 hy
 rw[List.drop_eq_getElem_cons h1,List.drop_eq_getElem_cons h2,e1,e2,h]
def cmpZ (a b:Int):Int:=if a<b then -1 else if a=b then 0 else 1
def cmpN (a b:Nat):Int:=if a<b then -1 else if a=b then 0 else 1
set_option maxHeartbeats 400000 in
theorem cmp_any (x y:Value)(a b:Nat)(w:World)(hx:MagR w x a)(hy:MagR w y b)(ha:(digs a).length≤1073741824)(hb:(digs b).length≤1073741824):
  Calls Tryz.prog 148 #[x,y] w fun e w'=>e= .returned (.int .i64 (cmpN a b))∧Drawn w w':=by
 obtain⟨A,ca,rfl,hca,hca2,hra⟩:=hx
 obtain⟨B,cb,rfl,hcb,hcb2,hrb⟩:=hy
 go_enter Tryz.func148,Tryz.ntmps148
 have Hla:=Lib.hid (show(digs a).length=(digs a).length from rfl)
 rcases Nat.lt_trichotomy (digs a).length (digs b).length with hl|hl|hl
 ·have e:=Lib.hid (show cmpN a b= -1 by unfold cmpN;rw[if_pos (lt_of_len a b hl)])
  go_wp2_with fail
  go_ret
  rw[e.out]
  exact⟨rfl,Drawn.refl _⟩
 ·generalize hm:(digs a).length=m at *
  have hne:((m:Int) != ((digs b).length:Int))=false:=by simp;omega
  rw[←hl] at hrb hb hcb⊢
  have Ha:=Lib.hid hm
  have Hb:=Lib.hid hl
  clear hm hl hne
  go_wp2_with fail
  go_loopw [5] (fun i wr=>∃k:Nat,k≤m∧i= .int .i64 ((k:Int)-1)∧(digs a).drop k=(digs b).drop k∧Drawn w wr) (fun i _=>(intOf i+1).toNat)
  case atStart=>exact⟨m,Nat.le_refl _,rfl,by rw[List.drop_of_length_le (by rw[Ha.out];omega),List.drop_of_length_le (by rw[←Hb.out];omega)],Drawn.refl _⟩
  case round=>
   obtain⟨k,hk,rfl,hd,hdr⟩:=hrel
   have Hd:=Lib.hid hd
   clear hd
   rcases Nat.eq_zero_or_pos k with h0|h0
   ·subst h0
    have hab:a=b:=by have:=congrArg val Hd.out;simpa[val_digs] using this
    have e:=Lib.hid (show cmpN a b=0 by unfold cmpN;rw[if_neg (by omega),if_pos hab])
    go_wp2_with fail
    go_ret
    rw[e.out]
    exact⟨rfl,hdr⟩
   ·obtain⟨j,rfl⟩:∃j,k=j+1:=⟨k-1,by omega⟩
    obtain⟨ad,p,rfl,hbl,hp,hcp⟩:=hra.dig (hdr.below w.heap.size) (Nat.le_refl _) (show j<m by omega)
    obtain⟨bd,q,rfl,hbl2,hq,hcq⟩:=hrb.dig (hdr.below w.heap.size) (Nat.le_refl _) (show j<m by omega)
    have ej:((j+1:Nat):Int)-1=(j:Int):=by omega
    rw[ej]
    have Hp:=Lib.hid hp
    have Hq:=Lib.hid hq
    clear hp hq
    rcases Nat.lt_trichotomy p q with hl|hl|hl
    ·have e:=Lib.hid (show cmpN a b= -1 by
      have:=val_lt_at (digs a) (digs b) j p q (digs_lt a) Hp.out Hq.out hl Hd.out
      rw[val_digs,val_digs] at this
      unfold cmpN;rw[if_pos this])
     go_wp2_with fail
     go_quiet (fail)
     go_wp2_with fail
     go_ret
     rw[e.out]
     exact⟨rfl,hdr.drewN _⟩
    ·subst hl
     go_wp2_with fail
     go_quiet (fail)
     go_wp2_with fail
     go_quiet (fail)
     go_wp2_with fail
     go_roundw
     case rel=>exact⟨j,by omega,by go_num,drop_step _ _ j p Hp.out Hq.out Hd.out,hdr.drewN _⟩
     case measure=>simp[intOf]
    ·have e:=Lib.hid (show cmpN a b=1 by
      have:=val_lt_at (digs b) (digs a) j q p (digs_lt b) Hq.out Hp.out hl Hd.out.symm
      rw[val_digs,val_digs] at this
      unfold cmpN;rw[if_neg (by omega),if_neg (by omega)])
     go_wp2_with fail
     go_quiet (fail)
     go_wp2_with fail
     go_quiet (fail)
     go_wp2_with fail
     go_ret
     rw[e.out]
     exact⟨rfl,(hdr.drewN _).drewN _⟩
 ·have e:=Lib.hid (show cmpN a b=1 by unfold cmpN;have:=lt_of_len b a hl;rw[if_neg (by omega),if_neg (by omega)])
  go_wp2_with fail
  go_ret
  rw[e.out]
  exact⟨rfl,Drawn.refl _⟩
end Go.Proofs.YtaamkfajnpobfaaGreat
namespace Go.Proofs.YtaamkfajnpobfaaGreat
open Go.RowKit
theorem infoU:(Tryz.prog.info? 162).map (fun i=>(i.zero,i.size,i.bytes))=some (some (.int .u64 0),1,8):=by kernel_rfl
theorem U_snoc (l:List Nat)(d:Nat)(z:Int)(h:z=d):U l++(#[Value.int .u64 z]:Array Value).toList=U (l++[d]):=by rw[U_append,h];rfl
theorem own_snoc {w:World}{base:Nat}{e:TypeId}{n:Nat}{v:Value}{l:List Nat}{d:Nat}{z:Int}(h:w.ownsRow base e 1 v n (U l++(#[Value.int .u64 z]:Array Value).toList)) (hz:z=d):w.ownsRow base e 1 v n (U (l++[d])):=U_snoc l d z hz▸h
theorem val_take_succ (l:List Nat)(k:Nat):val (l.take (k+1))=val (l.take k)+65536^k*l.getD k 0:=by
 rcases Nat.lt_or_ge k l.length with h|h
 ·rw[List.take_add_one,List.getElem?_eq_getElem h]
  show val (_++[_])=_
  rw[val_snoc,List.length_take,Nat.min_eq_left (by omega)]
  simp[List.getD,List.getElem?_eq_getElem h]
 ·rw[List.take_of_length_le (by omega),List.take_of_length_le (by omega)]
  simp[List.getD,List.getElem?_eq_none h]
theorem getD_of (l:List Nat)(k d:Nat)(h:l[k]? =some d):l.getD k 0=d:=by simp[List.getD,h]
theorem getD_out (l:List Nat)(k:Nat)(h:l.length≤k):l.getD k 0=0:=by simp[List.getD,List.getElem?_eq_none h]
theorem reads_at_own {w:World}{base:Nat}{e:TypeId}{size n:Nat}{v:Value}{xs:List Value}(h:w.ownsRow base e size v n xs):∃A c,v= .slice A n c∧n≤c∧c≤9223372036854775807∧Reads w w.heap.size size A n xs∧∀k,Fresh base (.slice A k c):=by
 rcases h.2 with ⟨rfl,rfl⟩|⟨g,cap,cur,rfl,hb,_,hc,hc2,_⟩
 ·exact⟨none,0,rfl,Nat.le_refl _,by omega,Reads.of_own h,fun _=>trivial⟩
 ·exact⟨_,cap,rfl,hc,by unfold maxLen at hc2;omega,Reads.of_own h,fun _=>hb⟩
theorem mag_of_trim {w:World}{A:Option Addr}{n c m:Nat}{l:List Nat}(hr:Reads w w.heap.size 1 A n (U l))(hd:∀d∈l,d<65536)(hc:n≤c)(hc2:c≤9223372036854775807)(hv:val l=m):MagR w (.slice A (digs (val l)).length c) m:=by
 subst hv
 have hlen:=hr.len_U
 have hle:(digs (val l)).length≤n:=by rw[←hlen];exact digs_len_le _ _ (val_lt l hd)
 have e:digs (val l)=l.take (digs (val l)).length:=by
  -- the digits of a number are its list's first ones
  have h:∀(l:List Nat),(∀d∈l,d<65536)→digs (val l)=l.take (digs (val l)).length:=by
   intro l
   induction l with
   |nil=>intro _;simp[val,digs_zero]
   |cons d l ih=>
    intro hd
    have hd0:=hd d (by simp)
    by_cases h0:val (d::l)=0
    ·rw[h0,digs_zero];rfl
    ·rw[digs_pos _ h0]
     have e1:val (d::l)%65536=d:=by rw[val];omega
     have e2:val (d::l)/65536=val l:=by rw[val];omega
     rw[e1,e2,List.length_cons,List.take_succ_cons,←ih (fun x hx=>hd x (by simp[hx]))]
  exact h l hd
 refine⟨A,c,rfl,by omega,hc2,?_⟩
 refine⟨by rw[length_U];omega,fun hpos=> ?_⟩
 obtain⟨ad,hA,hb,hcell⟩:=hr.2 (by omega)
 refine⟨ad,hA,hb,fun j u hu=>hcell j u ?_⟩
 rw[e,←U_take] at hu
 rw[List.getElem?_take] at hu
 split at hu
 ·exact hu
 ·cases hu
theorem snoc_lt {l:List Nat}(h:∀d∈l,d<65536)(v:Nat):∀d∈l++[v%65536],d<65536:=by
 intro d hd
 rcases List.mem_append.1 hd with hd|hd
 ·exact h d hd
 ·obtain rfl:=List.mem_singleton.1 hd
  omega
theorem add_arith (P o t s c v x y:Nat)(h:o+P*c=t+s)(hv:v=c+x+y):o+P*(v%65536)+P*65536*(v/65536)=t+P*x+(s+P*y):=by
 have e1:P*(v%65536)+P*65536*(v/65536)=P*v:=by rw[Nat.mul_assoc,←Nat.mul_add,Nat.mod_add_div]
 have e2:P*v=P*c+P*x+P*y:=by rw[hv,Nat.mul_add,Nat.mul_add]
 omega
set_option maxHeartbeats 800000 in
set_option maxRecDepth 100000 in
theorem add_any (x y:Value)(a b:Nat)(w:World)(hx:MagR w x a)(hy:MagR w y b)(ha:(digs a).length≤1000000)(hb:(digs b).length≤1000000):
  Calls Tryz.prog 147 #[x,y] w fun e w'=>∃v,e= .returned v∧MagR w' v (a+b)∧Below w.heap.size w w'∧Fresh w.heap.size v:=by
 obtain⟨A,ca,rfl,hca,hca2,hra⟩:=hx
 obtain⟨B,cb,rfl,hcb,hcb2,hrb⟩:=hy
 obtain⟨i0,hi0,hz0,hz1,hz2⟩:=info_parts infoU
 generalize hma:(digs a).length=m at *
 generalize hmb:(digs b).length=n at *
 have Hma:=Lib.hid hma
 have Hmb:=Lib.hid hmb
 clear hma hmb
 go_enter Tryz.func147,Tryz.ntmps147
 go_wp2_with fail
 go_loopw [5,6,7] (fun v c i wr=>∃(k cr:Nat) (l:List Nat),k≤m+n+2∧cr≤1∧(m+n<k→cr=0)∧i= .int .i64 k∧c= .int .u64 cr∧l.length=k∧(∀d∈l,d<65536)∧val l+65536^k*cr=val ((digs a).take k)+val ((digs b).take k)∧
   wr.ownsRow w.heap.size 162 1 v k (U l)∧Below w.heap.size w wr) (fun _ _ i _=>m+n+2-(intOf i).toNat)
 case atStart=>exact⟨0,0,[],by omega,by omega,fun _=>rfl,rfl,rfl,rfl,by simp,by simp[val],World.ownsRow_nil _ _ _ _,Below.refl _ _⟩
 case round=>
  obtain⟨k,cr,l,hk,hcr,hk2,rfl,rfl,hl,hd,hv,hown,hbl⟩:=hrel
  have Hl:=Lib.hid hl
  have Hd:=Lib.hid hd
  have Hv:=Lib.hid hv
  have hz:=hbl.size
  clear hl hd hv
  by_cases h1:k<m
  ·obtain⟨ad,p,rfl,hbp,hp,hcp⟩:=hra.dig hbl (Nat.le_refl _) h1
   have Hp:=Lib.hid (getD_of _ _ _ hp)
   have hp2:p<65536:=digs_lt a p (List.mem_of_getElem? hp)
   clear hp
   by_cases h2:k<n
   ·obtain⟨bd,q,rfl,hbq,hq,hcq⟩:=hrb.dig hbl (Nat.le_refl _) h2
    have Hq:=Lib.hid (getD_of _ _ _ hq)
    have hq2:q<65536:=digs_lt b q (List.mem_of_getElem? hq)
    clear hq
    go_wp2_with (at_builtin;refine wpList_append_one rfl (.tmp 46) (.tmp 49) _ rfl w.heap.size _ i0 _ 1 8 Tryz.underlying152 hi0 hz0 hz1 hz2 rfl (by decide) wr _ _ _ _ rfl hown _ rfl rfl rfl (by simp[Value.oneCell']) (by simp only[maxLen];omega) (by omega) ?_;intro v' w' hown' hb' hz')
    go_roundw
    case rel=>
     refine⟨k+1,(cr+p+q)/65536,l++[(cr+p+q)%65536],by omega,by omega,fun _=>by omega,by go_num,int_eq (by omega),by rw[List.length_append,Hl.out];rfl,snoc_lt Hd.out _,?_,own_snoc hown' (by omega),hb' _ _ (Nat.le_refl _) hbl⟩
     rw[val_snoc,val_take_succ,val_take_succ,Hl.out,Nat.pow_succ,Hp.out,Hq.out]
     have:=add_arith (65536^k) _ _ _ _ (cr+p+q) p q Hv.out (by omega)
     omega
    case measure=>simp[intOf];omega
   ·have Hq:=Lib.hid (getD_out (digs b) k (by rw[Hmb.out];omega))
    go_wp2_with (at_builtin;refine wpList_append_one rfl (.tmp 46) (.tmp 49) _ rfl w.heap.size _ i0 _ 1 8 Tryz.underlying152 hi0 hz0 hz1 hz2 rfl (by decide) wr _ _ _ _ rfl hown _ rfl rfl rfl (by simp[Value.oneCell']) (by simp only[maxLen];omega) (by omega) ?_;intro v' w' hown' hb' hz')
    go_roundw
    case rel=>
     refine⟨k+1,(cr+p)/65536,l++[(cr+p)%65536],by omega,by omega,fun _=>by omega,by go_num,int_eq (by omega),by rw[List.length_append,Hl.out];rfl,snoc_lt Hd.out _,?_,own_snoc hown' (by omega),hb' _ _ (Nat.le_refl _) hbl⟩
     rw[val_snoc,val_take_succ,val_take_succ,Hl.out,Nat.pow_succ,Hp.out,Hq.out]
     have:=add_arith (65536^k) _ _ _ _ (cr+p) p 0 Hv.out (by omega)
     omega
    case measure=>simp[intOf];omega
  ·have Hp:=Lib.hid (getD_out (digs a) k (by rw[Hma.out];omega))
   by_cases h2:k<n
   ·obtain⟨bd,q,rfl,hbq,hq,hcq⟩:=hrb.dig hbl (Nat.le_refl _) h2
    have Hq:=Lib.hid (getD_of _ _ _ hq)
    have hq2:q<65536:=digs_lt b q (List.mem_of_getElem? hq)
    clear hq
    go_wp2_with (at_builtin;refine wpList_append_one rfl (.tmp 46) (.tmp 49) _ rfl w.heap.size _ i0 _ 1 8 Tryz.underlying152 hi0 hz0 hz1 hz2 rfl (by decide) wr _ _ _ _ rfl hown _ rfl rfl rfl (by simp[Value.oneCell']) (by simp only[maxLen];omega) (by omega) ?_;intro v' w' hown' hb' hz')
    go_roundw
    case rel=>
     refine⟨k+1,(cr+q)/65536,l++[(cr+q)%65536],by omega,by omega,fun _=>by omega,by go_num,int_eq (by omega),by rw[List.length_append,Hl.out];rfl,snoc_lt Hd.out _,?_,own_snoc hown' (by omega),hb' _ _ (Nat.le_refl _) hbl⟩
     rw[val_snoc,val_take_succ,val_take_succ,Hl.out,Nat.pow_succ,Hp.out,Hq.out]
     have:=add_arith (65536^k) _ _ _ _ (cr+q) 0 q Hv.out (by omega)
     omega
    case measure=>simp[intOf];omega
   ·have Hq:=Lib.hid (getD_out (digs b) k (by rw[Hmb.out];omega))
    by_cases h3:0<cr
    ·obtain rfl:cr=1:=by omega
     go_wp2_with (at_builtin;refine wpList_append_one rfl (.tmp 46) (.tmp 49) _ rfl w.heap.size _ i0 _ 1 8 Tryz.underlying152 hi0 hz0 hz1 hz2 rfl (by decide) wr _ _ _ _ rfl hown _ rfl rfl rfl (by simp[Value.oneCell']) (by simp only[maxLen];omega) (by omega) ?_;intro v' w' hown' hb' hz')
     go_roundw
     case rel=>
      refine⟨k+1,(1)/65536,l++[(1)%65536],by omega,by omega,fun _=>by omega,by go_num,int_eq (by omega),by rw[List.length_append,Hl.out];rfl,snoc_lt Hd.out _,?_,own_snoc hown' (by omega),hb' _ _ (Nat.le_refl _) hbl⟩
      rw[val_snoc,val_take_succ,val_take_succ,Hl.out,Nat.pow_succ,Hp.out,Hq.out]
      have:=add_arith (65536^k) _ _ _ _ (1) 0 0 Hv.out (by omega)
      omega
     case measure=>simp[intOf];omega
    ·obtain rfl:cr=0:=by omega
     have hval:=Hv.out
     rw[List.take_of_length_le (by rw[Hma.out];omega),List.take_of_length_le (by rw[Hmb.out];omega),val_digs,val_digs,Nat.mul_zero,Nat.add_zero] at hval
     have Hval:=Lib.hid hval
     clear hval
     obtain⟨A',c',rfl,hc1,hc2,hrd,hfr⟩:=reads_at_own hown
     go_wp2_with fail
     refine(trim_any wr.heap.size A' k c' l _ hrd (Nat.le_refl _) Hd.out (by omega) hc1).mono ?_
     rintro e w1 ⟨rfl,rfl⟩
     go_wp2_with fail
     go_ret
     exact⟨_,rfl,mag_of_trim hrd Hd.out hc1 hc2 Hval.out,hbl,hfr _⟩
end Go.Proofs.YtaamkfajnpobfaaGreat
namespace Go.Proofs.YtaamkfajnpobfaaGreat
open Go.RowKit
theorem sub_arith (P o t s b v x y b':Nat)(h:o+s=t+P*b+0)(hv:v+b+y=65536+x)(hb:b'=1-v/65536)(hv2:v<131072):
  o+P*(v%65536)+(s+P*y+P*b)=t+P*x+P*65536*b'+P*b:=by
 have e0:v%65536+65536*(v/65536)=v:=Nat.mod_add_div v 65536
 have e3:v%65536+b+y=x+65536*b':=by omega
 have e4:P*(v%65536)+P*b+P*y=P*x+P*(65536*b'):=by rw[←Nat.mul_add,←Nat.mul_add,←Nat.mul_add,e3]
 rw[←Nat.mul_assoc] at e4
 omega
set_option maxHeartbeats 800000 in
set_option maxRecDepth 100000 in
theorem sub_any (x y:Value)(a b:Nat)(w:World)(hx:MagR w x a)(hy:MagR w y b)(ha:(digs a).length≤1000000)(hle:b≤a):
  Calls Tryz.prog 149 #[x,y] w fun e w'=>∃v,e= .returned v∧MagR w' v (a-b)∧Below w.heap.size w w'∧Fresh w.heap.size v:=by
 obtain⟨A,ca,rfl,hca,hca2,hra⟩:=hx
 obtain⟨B,cb,rfl,hcb,hcb2,hrb⟩:=hy
 obtain⟨i0,hi0,hz0,hz1,hz2⟩:=info_parts infoU
 have hmn:(digs b).length≤(digs a).length:=by
  have:=lt_of_digs_len a
  exact digs_len_le b _ (by omega)
 generalize hma:(digs a).length=m at *
 generalize hmb:(digs b).length=n at *
 have Hma:=Lib.hid hma
 have Hmb:=Lib.hid hmb
 clear hma hmb
 go_enter Tryz.func149,Tryz.ntmps149
 go_wp2_with fail
 go_loopw [5,6,7] (fun v c i wr=>∃(k bo:Nat) (l:List Nat),k≤m∧bo≤1∧i= .int .i64 k∧c= .int .u64 bo∧l.length=k∧(∀d∈l,d<65536)∧val l+val ((digs b).take k)=val ((digs a).take k)+65536^k*bo∧
   wr.ownsRow w.heap.size 162 1 v k (U l)∧Below w.heap.size w wr) (fun _ _ i _=>m-(intOf i).toNat)
 case atStart=>exact⟨0,0,[],by omega,by omega,rfl,rfl,rfl,by simp,by simp[val],World.ownsRow_nil _ _ _ _,Below.refl _ _⟩
 case round=>
  obtain⟨k,bo,l,hk,hbo,rfl,rfl,hl,hd,hv,hown,hbl⟩:=hrel
  have Hl:=Lib.hid hl
  have Hd:=Lib.hid hd
  have Hv:=Lib.hid hv
  have hz:=hbl.size
  clear hl hd hv
  by_cases h1:k<m
  ·obtain⟨ad,p,rfl,hbp,hp,hcp⟩:=hra.dig hbl (Nat.le_refl _) h1
   have Hp:=Lib.hid (getD_of _ _ _ hp)
   have hp2:p<65536:=digs_lt a p (List.mem_of_getElem? hp)
   clear hp
   by_cases h2:k<n
   ·obtain⟨bd,q,rfl,hbq,hq,hcq⟩:=hrb.dig hbl (Nat.le_refl _) h2
    have Hq:=Lib.hid (getD_of _ _ _ hq)
    have hq2:q<65536:=digs_lt b q (List.mem_of_getElem? hq)
    clear hq
    go_wp2_with (at_builtin;refine wpList_append_one rfl (.tmp 32) (.tmp 35) _ rfl w.heap.size _ i0 _ 1 8 Tryz.underlying152 hi0 hz0 hz1 hz2 rfl (by decide) wr _ _ _ _ rfl hown _ rfl rfl rfl (by simp[Value.oneCell']) (by simp only[maxLen];omega) (by omega) ?_;intro v' w' hown' hb' hz')
    go_roundw
    case rel=>
     refine⟨k+1,1-(65536+p-bo-q)/65536,l++[(65536+p-bo-q)%65536],by omega,by omega,by go_num,int_eq (by omega),by rw[List.length_append,Hl.out];rfl,snoc_lt Hd.out _,?_,own_snoc hown' (by omega),hb' _ _ (Nat.le_refl _) hbl⟩
     rw[val_snoc,val_take_succ,val_take_succ,Hl.out,Nat.pow_succ,Hp.out,Hq.out]
     have:=sub_arith (65536^k) _ _ _ _ (65536+p-bo-q) p q _ Hv.out (by omega) rfl (by omega)
     omega
    case measure=>simp[intOf];omega
   ·have Hq:=Lib.hid (getD_out (digs b) k (by rw[Hmb.out];omega))
    go_wp2_with (at_builtin;refine wpList_append_one rfl (.tmp 32) (.tmp 35) _ rfl w.heap.size _ i0 _ 1 8 Tryz.underlying152 hi0 hz0 hz1 hz2 rfl (by decide) wr _ _ _ _ rfl hown _ rfl rfl rfl (by simp[Value.oneCell']) (by simp only[maxLen];omega) (by omega) ?_;intro v' w' hown' hb' hz')
    go_roundw
    case rel=>
     refine⟨k+1,1-(65536+p-bo)/65536,l++[(65536+p-bo)%65536],by omega,by omega,by go_num,int_eq (by omega),by rw[List.length_append,Hl.out];rfl,snoc_lt Hd.out _,?_,own_snoc hown' (by omega),hb' _ _ (Nat.le_refl _) hbl⟩
     rw[val_snoc,val_take_succ,val_take_succ,Hl.out,Nat.pow_succ,Hp.out,Hq.out]
     have:=sub_arith (65536^k) _ _ _ _ (65536+p-bo) p 0 _ Hv.out (by omega) rfl (by omega)
     omega
    case measure=>simp[intOf];omega
  ·obtain rfl:k=m:=by omega
   have hval:val l=a-b:=by
    have hval:=Hv.out
    rw[List.take_of_length_le (show(digs b).length≤k by rw[Hmb.out];omega),List.take_of_length_le (show(digs a).length≤k by rw[Hma.out];omega),val_digs,val_digs] at hval
    have hlt:=val_lt l Hd.out
    rw[Hl.out] at hlt
    rcases Nat.lt_or_ge 0 bo with h|h
    ·obtain rfl:bo=1:=by omega
     omega
    ·obtain rfl:bo=0:=by omega
     omega
   have Hval:=Lib.hid hval
   clear hval
   obtain⟨A',c',rfl,hc1,hc2,hrd,hfr⟩:=reads_at_own hown
   go_wp2_with fail
   refine(trim_any wr.heap.size A' k c' l _ hrd (Nat.le_refl _) Hd.out (by omega) hc1).mono ?_
   rintro e w1 ⟨rfl,rfl⟩
   go_wp2_with fail
   go_ret
   exact⟨_,rfl,mag_of_trim hrd Hd.out hc1 hc2 Hval.out,hbl,hfr _⟩
end Go.Proofs.YtaamkfajnpobfaaGreat
namespace Go.Proofs.YtaamkfajnpobfaaGreat
open Go.RowKit
def BigR (w:World)(v:Value)(z:Int):Prop:=∃m,v= .agg #[.bool (decide (z<0)),m]∧MagR w m z.natAbs
theorem BigR.step {w w':World}{v:Value}{z:Int}(h:BigR w v z)(hb:Below w.heap.size w w'):BigR w' v z:=by
 obtain⟨m,e,h⟩:=h
 exact⟨m,e,h.step hb⟩
theorem val4 (a b c d:Nat):val [a,b,c,d]=a+65536*(b+65536*(c+65536*d)):=by simp[val]
theorem infoBig:(Tryz.prog.info? 154).map (fun i=>(i.zero,i.size,i.bytes))=some (some (.agg #[.bool false, .slice none 0 0]),2,32):=by kernel_rfl
theorem Reads.other {w w':World}{B n g:Nat}{A:Option Addr}{l:List Nat}{cs:Array Value}{t:TypeId}{fr:Nat × Nat}(h:Reads w B 1 A n (U l))(hg:w.heap[g]? =some (.cells cs t fr))(hcs:∀(k:IntKind) (z:Int),Value.int k z∉cs.toList)
  (hgr:w.grownBy w' (some g)):Reads w' B 1 A n (U l):=by
 refine⟨h.1,fun hn=> ?_⟩
 obtain⟨ad,hA,hb,hc⟩:=h.2 hn
 refine⟨ad,hA,hb,fun j u hu=> ?_⟩
 have h1:=hc j u hu
 have hne:(ad.add j).block≠g:=by
  intro he
  rw[get_U] at hu
  cases hl:l[j]? with
  |none=>rw[hl] at hu;cases hu
  |some d=>
   rw[hl] at hu
   injection hu with hu
   subst hu
   unfold World.cell? at h1
   rw[he,hg] at h1
   simp only at h1
   split at h1
   ·cases h1
   ·exact hcs _ _ (Array.mem_toList_iff.2 (Array.mem_of_getElem? h1))
 have hlt:(ad.add j).block<w.heap.size:=by
  unfold World.cell? at h1
  rcases Nat.lt_or_ge (ad.add j).block w.heap.size with h2|h2
  ·exact h2
  ·rw[Array.getElem?_eq_none h2] at h1;cases h1
 rw[←h1]
 unfold World.cell?
 rw[hgr.block _ hlt (by intro e;injection e with e;exact hne e)]
theorem MagR.other {w w':World}{n g:Nat}{v:Value}{cs:Array Value}{t:TypeId}{fr:Nat × Nat}(h:MagR w v n)(hg:w.heap[g]? =some (.cells cs t fr))(hcs:∀(k:IntKind) (z:Int),Value.int k z∉cs.toList)
  (hgr:w.grownBy w' (some g)):MagR w' v n:=by
 obtain⟨A,c,e,h1,h2,h3⟩:=h
 exact⟨A,c,e,h1,h2,(h3.other hg hcs hgr).more hgr.size⟩
set_option maxHeartbeats 400000 in
set_option maxRecDepth 100000 in
theorem sign_any (neg:Bool)(m:Value)(n:Nat)(w:World)(hm:MagR w m n)(hn:(digs n).length≤1073741824):
  Calls Tryz.prog 146 #[.bool neg,m] w fun e w'=>e= .returned (.agg #[.bool (neg&&decide (0<n)),m])∧Below w.heap.size w w':=by
 obtain⟨A,c,rfl,hc,hc2,hr⟩:=hm
 obtain⟨i0,hi0,hz0,hz1,hz2⟩:=info_parts infoBig
 have e:decide (0<n)=decide (0<(digs n).length):=by
  have:=digs_len_zero n
  by_cases h:n=0
  ·simp[h,digs_zero]
  ·have h2:0<(digs n).length:=by rcases Nat.eq_zero_or_pos (digs n).length with h3|h3
                                 ·exact absurd (this.1 h3) h
                                 ·exact h3
   rw[decide_eq_true h2,decide_eq_true (by omega)]
 rw[e]
 generalize (digs n).length=l at *
 have hrow:(w.alloc (.cells #[.bool false, .slice none 0 0] 154)).heap[w.heap.size]? =some (.cells #[.bool false, .slice none 0 0] 154 (0,0)):=heap_alloc_new w _
 cases neg
 all_goals
  by_cases h:0<l
  all_goals
   go_enter Tryz.func146,Tryz.ntmps146
   go_wp2_with (refine wpList_store_row rfl _ (.tmp 4) (.tmp 12) rfl rfl w.heap.size 0 rfl #[_,_] rfl i0 hi0 hz1 (by simp[Value.oneCell']) _ _ hrow (by simp) ?_;intro w3 hg3 hgr3 hz3)
   refine bodyPost_ret (results_cell_row rfl _ _ w.heap.size 154 #[_,_] (0,0) _ rfl hg3 Tryz.underlying154 rfl (by rw[hi0];simp[hz1])) rfl ?_
   refine⟨?_,((Below.refl w.heap.size w).alloc (Nat.le_refl _) _).grown hgr3 (by simp) (fun k hk=>by injection hk with hk;omega)⟩
   simp[h]
end Go.Proofs.YtaamkfajnpobfaaGreat
namespace Go.Proofs.YtaamkfajnpobfaaGreat
open Go.RowKit
theorem zero_debentureref01_Big:zeroIs Tryz.prog 154=some (some (.agg #[.bool false, .slice none 0 0])):=by kernel_rfl
theorem zero_uint64:zeroIs Tryz.prog 162=some (some (.int .u64 0)):=by kernel_rfl
theorem cmpN_ge {a b:Nat}(h:0≤cmpN a b):b≤a:=by unfold cmpN at h;split at h<;>omega
theorem cmpN_lt {a b:Nat}(h:¬0≤cmpN a b):a<b:=by
 unfold cmpN at h
 split at h
 ·omega
 ·split at h<;>omega
theorem MagR.put {w w':World}{v:Value}{n g:Nat}{T:TypeId}{cur cs:Array Value}{B:Nat}(h:MagR w v n)(k:Blk w g T cur)(p:Put w w' g T cs)(_e:B≤g)(hcs:∀(k:IntKind) (z:Int),Value.int k z∉cur.toList:=by simp[Value.cells, *]):MagR w' v n:=h.other k hcs p.grown
theorem MagR.ni {w:World}{v:Value}{n:Nat}(h:MagR w v n):∀(k:IntKind) (z:Int),Value.int k z≠v:=by obtain⟨A,c,rfl,_⟩:=h;intro k z e;cases e
theorem MagR.one {w:World}{v:Value}{n:Nat}(h:MagR w v n):v.oneCell'=true:=by obtain⟨A,c,rfl,_⟩:=h;rfl
theorem minus_any (x:Value)(a:Int)(w:World)(hx:BigR w x a)(ha:(digs a.natAbs).length≤1073741824):
  Calls Tryz.prog 115 #[x] w fun e w'=>∃v,e= .returned v∧BigR w' v (-a)∧Below w.heap.size w w':=by
 obtain⟨m,rfl,hm⟩:=hx
 have bel:=Below.refl w.heap.size w
 have h1:=hm.one
 refine Zs 9 Tryz.func115 ?_
 refine Zsr ?_
 refine Seq.box rfl rfl rfl rfl rfl ?_
 intro g1 w1 n1
 have e1:=Nat.le_trans bel.size n1.ge
 replace bel:=bel.step n1.below
 replace hm:=hm.step n1.below
 have k1:=n1.blk
 refine Zl zero_debentureref01_Big ?_
 intro g2 w2 n2
 have e2:=Nat.le_trans bel.size n2.ge
 have l2:=Nat.lt_of_lt_of_le k1.lt n2.ge
 replace bel:=bel.step n2.below
 replace hm:=hm.step n2.below
 replace k1:=k1.step n2.below
 have k2:=n2.blk
 refine Zk3 0 1 2 (Ztq ?_)
 refine Zf 0 Tryz.underlying154 ?_
 refine Zv (Runs.loadB rfl rfl Tryz.underlying4 rfl k1 rfl) ?_
 refine Zv (Runs.not rfl rfl) ?_
 refine Zf 1 Tryz.underlying154 ?_
 refine Zv (Runs.loadB rfl rfl Tryz.underlying152 rfl k1 rfl) ?_
 refine Zc (Ze Tryz.func146) (sign_any _ _ _ _ hm (by omega)) ?_
 rintro e w3 ⟨rfl,hb⟩
 refine⟨_,rfl,?_⟩
 replace bel:=bel.step hb
 replace hm:=hm.step hb
 replace k1:=k1.step hb
 replace k2:=k2.step hb
 refine Zo 2 k2 ?_
 intro w3 pw3
 replace bel:=bel.put k2 pw3 e2
 replace hm:=hm.put k2 pw3 e2
 replace k1:=k1.put pw3 (by omega)
 replace k2:=pw3.blk
 refine Zk3 0 1 2 (Zt (Cd.ret ?_))
 refine Post.endC rfl rfl k2 Tryz.underlying154 rfl (m:=2) (by kernel_rfl) rfl (.inl rfl) ?_
 refine⟨_,rfl,⟨m,?_,by rw[Int.natAbs_neg];exact hm⟩,bel⟩
 show Value.agg #[_,m]=_
 have e:(!decide (a<0)&&decide (0<a.natAbs))=decide (-a<0):=by
  rw[Bool.eq_iff_iff];simp;omega
 rw[e]
theorem sign_big (neg:Bool)(m:Value)(n:Nat)(z:Int)(w:World)(hm:MagR w m n)(hn:(digs n).length≤1073741824)(hz:z.natAbs=n)(hs:(neg&&decide (0<n))=decide (z<0)):
  Calls Tryz.prog 146 #[.bool neg,m] w fun e w'=>∃v,e= .returned v∧Below w.heap.size w w'∧BigR w' v z:=
 (sign_any neg m n w hm hn).mono fun e w' ⟨he,hb⟩=>⟨_,he,hb,m,by rw[hs],by rw[hz];exact hm.step hb⟩
theorem add_mag (x y:Value)(a b c:Nat)(w:World)(hx:MagR w x a)(hy:MagR w y b)(hc:c=a+b)(ha:(digs a).length≤1000000)(hb:(digs b).length≤1000000):
  Calls Tryz.prog 147 #[x,y] w fun e w'=>∃v,e= .returned v∧Below w.heap.size w w'∧MagR w' v c:=
 (add_any x y a b w hx hy ha hb).mono fun e w' ⟨v,he,hm,hb,_⟩=>⟨v,he,hb,by rw[hc];exact hm⟩
theorem sub_mag (x y:Value)(a b c:Nat)(w:World)(hx:MagR w x a)(hy:MagR w y b)(hle:b≤a)(hc:c=a-b)(ha:(digs a).length≤1000000):
  Calls Tryz.prog 149 #[x,y] w fun e w'=>∃v,e= .returned v∧Below w.heap.size w w'∧MagR w' v c:=
 (sub_any x y a b w hx hy ha hle).mono fun e w' ⟨v,he,hm,hb,_⟩=>⟨v,he,hb,by rw[hc];exact hm⟩
theorem BigR.stable (z:Int):∀v w w',Grow w w'→BigR w v z→BigR w' v z:=fun _ _ _ hG h=>h.step hG
theorem MagR.stable (z:Nat):∀v w w',Grow w w'→MagR w v z→MagR w' v z:=fun _ _ _ hG h=>h.step hG
def big:Nat:=65536^60
theorem len_big {n:Nat}(h:n<65536*big):(digs n).length≤61:=digs_len_le n 61 (by unfold big at h;rw[Nat.pow_succ];omega)
theorem big_pos:1606938044258990275541962092341162602522202993782792835301376≤big:=by unfold big;decide
theorem plus_any (x y:Value)(a b:Int)(w:World)(hx:BigR w x a)(hy:BigR w y b)(ha:a.natAbs<big)(hb:b.natAbs<big):
  Calls Tryz.prog 112 #[x,y] w fun e w'=>∃v,e= .returned v∧BigR w' v (a+b)∧Below w.heap.size w w':=by
 obtain⟨m,rfl,hm⟩:=hx
 obtain⟨q,rfl,hq⟩:=hy
 have hla:=len_big (n:=a.natAbs) (by omega)
 have hlb:=len_big (n:=b.natAbs) (by omega)
 have bel:=Below.refl w.heap.size w
 refine Zs 40 Tryz.func112 ?_
 refine Zsr ?_
 refine Seq.box rfl rfl rfl rfl rfl ?_
 intro g2 w1 n2
 have e2:=Nat.le_trans bel.size n2.ge
 replace bel:=bel.step n2.below
 replace hm:=hm.step n2.below
 replace hq:=hq.step n2.below
 have k2:=n2.blk
 refine Seq.box rfl rfl rfl rfl rfl ?_
 intro g3 w2 n3
 have e3:=Nat.le_trans bel.size n3.ge
 have l3:=Nat.lt_of_lt_of_le k2.lt n3.ge
 replace bel:=bel.step n3.below
 replace hm:=hm.step n3.below
 replace hq:=hq.step n3.below
 replace k2:=k2.step n3.below
 have k3:=n3.blk
 refine Zl zero_debentureref01_Big ?_
 intro g4 w3 n4
 have e4:=Nat.le_trans bel.size n4.ge
 have l4:=Nat.lt_of_lt_of_le k3.lt n4.ge
 replace bel:=bel.step n4.below
 replace hm:=hm.step n4.below
 replace hq:=hq.step n4.below
 replace k2:=k2.step n4.below
 replace k3:=k3.step n4.below
 have k4:=n4.blk
 refine Zk5 0 1 2 3 4 (Zts (Zsr ?_))
 refine Zf 0 Tryz.underlying154 ?_
 refine Zv (Runs.loadB rfl rfl Tryz.underlying4 rfl k2 rfl) ?_
 refine Zf 0 Tryz.underlying154 ?_
 refine Zv (Runs.loadB rfl rfl Tryz.underlying4 rfl k3 rfl) ?_
 refine Zv (Runs.eqlB rfl rfl rfl Tryz.underlying4) ?_
 refine Zk6 0 1 2 3 4 9 (Zt ?_)
 refine Cd.condD rfl (fun hc=> ?_) (fun hc=> ?_)
 ·have hab:(a+b).natAbs=a.natAbs+b.natAbs:=by simp at hc;omega
  have hl:=len_big (n:=(a+b).natAbs) (by omega)
  refine Cd.seq ?_
  refine Cd.draw 8 (by kernel_rfl) [] (.inl rfl) rfl Grow Grow.refl (fun _ _ _=>Grow.trans) ?_
  intro w4 hw4 zw4
  replace bel:=bel.step hw4
  replace hm:=hm.step hw4
  replace hq:=hq.step hw4
  replace k2:=k2.step hw4
  replace k3:=k3.step hw4
  replace k4:=k4.step hw4
  have zbel:=bel.size
  have zlt:=k4.lt
  refine Zd (fun w hG=>Runs.fieldB 0 rfl rfl Tryz.underlying154 rfl (by kernel_rfl)) ?_
  refine Zd (fun w hG=>Runs.loadB rfl rfl Tryz.underlying4 rfl (k2.step hG) rfl) ?_
  refine Zd (fun w hG=>Runs.fieldB 1 rfl rfl Tryz.underlying154 rfl (by kernel_rfl)) ?_
  refine Zd (fun w hG=>Runs.loadB rfl rfl Tryz.underlying152 rfl (k2.step hG) rfl) ?_
  refine Zd (fun w hG=>Runs.fieldB 1 rfl rfl Tryz.underlying154 rfl (by kernel_rfl)) ?_
  refine Zd (fun w hG=>Runs.loadB rfl rfl Tryz.underlying152 rfl (k3.step hG) rfl) ?_
  refine Dr.call (Φ:=fun v w=>MagR w v (a+b).natAbs) rfl (fun w=>Ze Tryz.func147) rfl (MagR.stable _) (fun w hG=>add_mag _ _ _ _ _ _ (hm.step hG) (hq.step hG) hab (by omega) (by omega)) ?_
  refine Dr.call1 (j:=6) (Φ:=fun v w=>BigR w v (a+b)) rfl rfl rfl (fun u w=>Ze Tryz.func146) rfl (BigR.stable _) (fun u w hG hu=>sign_big _ u _ (a+b) _ hu (by omega) rfl (by simp at hc;rw[Bool.eq_iff_iff];simp;omega)) ?_
  refine Dr.nil ?_
  refine FinX.open (j:=7) rfl ?_
  intro u7
  refine FinX.done (F':=[(0,_),(1,_),(2,_),(3,_),(4,_),(9,_),(17,_)]) rfl ⟨rfl,rfl,rfl,rfl,rfl,rfl,rfl,trivial⟩ ?_
  intro w5 hw5 fw5
  replace bel:=bel.step hw5
  replace hm:=hm.step hw5
  replace hq:=hq.step hw5
  replace k2:=k2.step hw5
  replace k3:=k3.step hw5
  replace k4:=k4.step hw5
  obtain⟨m2,rfl,hm2⟩:=fw5.2
  have hm2o:=hm2.one
  refine Zo 2 k4 ?_
  intro w6 pw6
  replace bel:=bel.put k4 pw6 e4
  replace hm:=hm.put k4 pw6 e4
  replace hq:=hq.put k4 pw6 e4
  replace k2:=k2.put pw6 (by omega)
  replace k3:=k3.put pw6 (by omega)
  replace hm2:=hm2.put k4 pw6 e4
  replace k4:=pw6.blk
  refine Zk6 0 1 2 3 4 9 (Zt (Cd.ret (Post.then_ret ?_)))
  refine Post.endC rfl rfl k4 Tryz.underlying154 rfl (m:=2) (by kernel_rfl) rfl (.inl rfl) ?_
  exact⟨_,rfl,⟨m2,rfl,hm2⟩,bel⟩
 ·skip
  refine Cd.skip (Zts (Zsr ?_))
  refine Zf 1 Tryz.underlying154 ?_
  refine Zv (Runs.loadB rfl rfl Tryz.underlying152 rfl k2 rfl) ?_
  refine Zf 1 Tryz.underlying154 ?_
  refine Zv (Runs.loadB rfl rfl Tryz.underlying152 rfl k3 rfl) ?_
  refine Zc (Ze Tryz.func148) (cmp_any _ _ _ _ _ hm hq (by omega) (by omega)) ?_
  rintro e w7 ⟨rfl,hdr⟩
  have hb7:=hdr.below w3.heap.size
  replace bel:=bel.step hb7
  replace hm:=hm.step hb7
  replace hq:=hq.step hb7
  replace k2:=k2.step hb7
  replace k3:=k3.step hb7
  replace k4:=k4.step hb7
  refine⟨_,rfl,?_⟩
  refine Zv (Runs.geq rfl rfl rfl) ?_
  refine Zk7 0 1 2 3 4 9 23 (Zt ?_)
  refine Cd.condD rfl (fun hc2=> ?_) (fun hc2=> ?_)
  ·have hle:b.natAbs≤a.natAbs:=cmpN_ge hc2
   have hab:(a+b).natAbs=a.natAbs-b.natAbs:=by simp at hc;omega
   have hl:=len_big (n:=(a+b).natAbs) (by omega)
   refine Cd.seq ?_
   refine Cd.draw 8 (by kernel_rfl) [] (.inl rfl) rfl Grow Grow.refl (fun _ _ _=>Grow.trans) ?_
   intro w4 hw4 zw4
   replace bel:=bel.step hw4
   replace hm:=hm.step hw4
   replace hq:=hq.step hw4
   replace k2:=k2.step hw4
   replace k3:=k3.step hw4
   replace k4:=k4.step hw4
   have zbel:=bel.size
   have zlt:=k4.lt
   refine Zd (fun w hG=>Runs.fieldB 0 rfl rfl Tryz.underlying154 rfl (by kernel_rfl)) ?_
   refine Zd (fun w hG=>Runs.loadB rfl rfl Tryz.underlying4 rfl (k2.step hG) rfl) ?_
   refine Zd (fun w hG=>Runs.fieldB 1 rfl rfl Tryz.underlying154 rfl (by kernel_rfl)) ?_
   refine Zd (fun w hG=>Runs.loadB rfl rfl Tryz.underlying152 rfl (k2.step hG) rfl) ?_
   refine Zd (fun w hG=>Runs.fieldB 1 rfl rfl Tryz.underlying154 rfl (by kernel_rfl)) ?_
   refine Zd (fun w hG=>Runs.loadB rfl rfl Tryz.underlying152 rfl (k3.step hG) rfl) ?_
   refine Dr.call (Φ:=fun v w=>MagR w v (a+b).natAbs) rfl (fun w=>Ze Tryz.func149) rfl (MagR.stable _) (fun w hG=>sub_mag _ _ _ _ _ _ (hm.step hG) (hq.step hG) hle hab (by omega)) ?_
   refine Dr.call1 (j:=6) (Φ:=fun v w=>BigR w v (a+b)) rfl rfl rfl (fun u w=>Ze Tryz.func146) rfl (BigR.stable _) (fun u w hG hu=>sign_big _ u _ (a+b) _ hu (by omega) rfl (by simp at hc;rw[Bool.eq_iff_iff];simp;omega)) ?_
   refine Dr.nil ?_
   refine FinX.open (j:=7) rfl ?_
   intro u7
   refine FinX.done (F':=[(0,_),(1,_),(2,_),(3,_),(4,_),(9,_),(23,_),(31,_)]) rfl ⟨rfl,rfl,rfl,rfl,rfl,rfl,rfl,rfl,trivial⟩ ?_
   intro w5 hw5 fw5
   replace bel:=bel.step hw5
   replace hm:=hm.step hw5
   replace hq:=hq.step hw5
   replace k2:=k2.step hw5
   replace k3:=k3.step hw5
   replace k4:=k4.step hw5
   obtain⟨m2,rfl,hm2⟩:=(by assumption:True∧BigR _ _ _).2
   have hm2o:=hm2.one
   refine Zo 2 k4 ?_
   intro w6 pw6
   replace bel:=bel.put k4 pw6 e4
   replace hm:=hm.put k4 pw6 e4
   replace hq:=hq.put k4 pw6 e4
   replace k2:=k2.put pw6 (by omega)
   replace k3:=k3.put pw6 (by omega)
   replace hm2:=hm2.put k4 pw6 e4
   replace k4:=pw6.blk
   refine Zk7 0 1 2 3 4 9 23 (Zt (Cd.ret (Post.then_ret ?_)))
   refine Post.endC rfl rfl k4 Tryz.underlying154 rfl (m:=2) (by kernel_rfl) rfl (.inl rfl) ?_
   exact⟨_,rfl,⟨m2,rfl,hm2⟩,bel⟩
  ·have hle:a.natAbs≤b.natAbs:=Nat.le_of_lt (cmpN_lt hc2)
   have hab:(a+b).natAbs=b.natAbs-a.natAbs:=by simp at hc;omega
   have hl:=len_big (n:=(a+b).natAbs) (by omega)
   refine Cd.skip (Zts ?_)
   refine Cd.draw 8 (by kernel_rfl) [] (.inl rfl) rfl Grow Grow.refl (fun _ _ _=>Grow.trans) ?_
   intro w4 hw4 zw4
   replace bel:=bel.step hw4
   replace hm:=hm.step hw4
   replace hq:=hq.step hw4
   replace k2:=k2.step hw4
   replace k3:=k3.step hw4
   replace k4:=k4.step hw4
   have zbel:=bel.size
   have zlt:=k4.lt
   refine Zd (fun w hG=>Runs.fieldB 0 rfl rfl Tryz.underlying154 rfl (by kernel_rfl)) ?_
   refine Zd (fun w hG=>Runs.loadB rfl rfl Tryz.underlying4 rfl (k3.step hG) rfl) ?_
   refine Zd (fun w hG=>Runs.fieldB 1 rfl rfl Tryz.underlying154 rfl (by kernel_rfl)) ?_
   refine Zd (fun w hG=>Runs.loadB rfl rfl Tryz.underlying152 rfl (k3.step hG) rfl) ?_
   refine Zd (fun w hG=>Runs.fieldB 1 rfl rfl Tryz.underlying154 rfl (by kernel_rfl)) ?_
   refine Zd (fun w hG=>Runs.loadB rfl rfl Tryz.underlying152 rfl (k2.step hG) rfl) ?_
   refine Dr.call (Φ:=fun v w=>MagR w v (a+b).natAbs) rfl (fun w=>Ze Tryz.func149) rfl (MagR.stable _) (fun w hG=>sub_mag _ _ _ _ _ _ (hq.step hG) (hm.step hG) hle hab (by omega)) ?_
   refine Dr.call1 (j:=6) (Φ:=fun v w=>BigR w v (a+b)) rfl rfl rfl (fun u w=>Ze Tryz.func146) rfl (BigR.stable _) (fun u w hG hu=>sign_big _ u _ (a+b) _ hu (by omega) rfl (by simp at hc;rw[Bool.eq_iff_iff];simp;omega)) ?_
   refine Dr.nil ?_
   refine FinX.open (j:=7) rfl ?_
   intro u7
   refine FinX.done (F':=[(0,_),(1,_),(2,_),(3,_),(4,_),(9,_),(23,_),(39,_)]) rfl ⟨rfl,rfl,rfl,rfl,rfl,rfl,rfl,rfl,trivial⟩ ?_
   intro w5 hw5 fw5
   replace bel:=bel.step hw5
   replace hm:=hm.step hw5
   replace hq:=hq.step hw5
   replace k2:=k2.step hw5
   replace k3:=k3.step hw5
   replace k4:=k4.step hw5
   obtain⟨m2,rfl,hm2⟩:=(by assumption:True∧BigR _ _ _).2
   have hm2o:=hm2.one
   refine Zo 2 k4 ?_
   intro w6 pw6
   replace bel:=bel.put k4 pw6 e4
   replace hm:=hm.put k4 pw6 e4
   replace hq:=hq.put k4 pw6 e4
   replace k2:=k2.put pw6 (by omega)
   replace k3:=k3.put pw6 (by omega)
   replace hm2:=hm2.put k4 pw6 e4
   replace k4:=pw6.blk
   refine Zk7 0 1 2 3 4 9 23 (Zt (Cd.ret ?_))
   refine Post.endC rfl rfl k4 Tryz.underlying154 rfl (m:=2) (by kernel_rfl) rfl (.inl rfl) ?_
   exact⟨_,rfl,⟨m2,rfl,hm2⟩,bel⟩
theorem val_of (n:Nat)(h:n<18446744073709551616):val [n%65536,n/65536%65536,n/4294967296%65536,n/281474976710656]=n:=by
 rw[val4]
 omega
theorem of_digits (w:World)(g n:Nat)(x0 x1 x2 x3:Int)(t:TypeId)(cs:Array Value)(hcs:cs= #[.int .u64 x0, .int .u64 x1, .int .u64 x2, .int .u64 x3]) (hg:Blk w g t cs)
  (e0:x0=((n%65536:Nat):Int)) (e1:x1=((n/65536%65536:Nat):Int)) (e2:x2=((n/4294967296%65536:Nat):Int)) (e3:x3=((n/281474976710656:Nat):Int)):
  Reads w w.heap.size 1 (some ⟨g,0,none⟩) 4 (U [n%65536,n/65536%65536,n/4294967296%65536,n/281474976710656]):=by
 subst hcs e0 e1 e2 e3
 refine⟨rfl,fun _=>⟨_,rfl,hg.lt,fun j u hu=> ?_⟩⟩
 have hadd:(⟨g,0,none⟩:Addr).add j=⟨g,j,none⟩:=by unfold Addr.add;split<;>simp_all
 rw[hadd,hg.cell j]
 simpa[U] using hu
theorem run_build_Big (b:Bool)(m:Value)(h:m.oneCell'=true)(w:World):(Instr.build 154 #[(0, .bool b),(1,m)]).run Tryz.prog w= .ok (.agg #[.bool b,m]) w:=by
 have hu:=Tryz.underlying154
 cases m<;>first|(cases h;done)|go_simp
theorem of_any (a:Int)(w:World)(h0: -9223372036854775808≤a)(h1:a≤9223372036854775807):
  Calls Tryz.prog 114 #[.int .i64 a] w fun e w'=>∃v,e= .returned v∧BigR w' v a∧Below w.heap.size w w':=by
 have hv:=val_of a.natAbs (by omega)
 have hd:∀d∈ [a.natAbs%65536,a.natAbs/65536%65536,a.natAbs/4294967296%65536,a.natAbs/281474976710656],d<65536:=by
  intro d hd
  simp only[List.mem_cons,List.not_mem_nil,or_false] at hd
  omega
 have bel:=Below.refl w.heap.size w
 refine Zs 25 Tryz.func114 ?_
 refine Zsr ?_
 refine Zl zero_debentureref01_Big ?_
 intro g2 w1 n2
 have e2:=Nat.le_trans bel.size n2.ge
 replace bel:=bel.step n2.below
 have k2:=n2.blk
 refine Zk2 0 2 (Ztq ?_)
 refine Zm ?_
 refine Zv (Runs.convI rfl rfl Tryz.underlying2 Tryz.underlying162 (wrap_u64 a)) ?_
 refine Za ?_
 refine Zk3 0 2 3 (Zts (Zsr ?_))
 refine Zm ?_
 refine Zv (Runs.lss rfl rfl rfl) ?_
 refine Zk4 0 2 3 7 (Zt ?_)
 refine Cd.condD rfl (fun hc=> ?_) (fun hc=> ?_)
 ·skip
  refine Zr ?_
  refine Zm ?_
  refine Zv (Runs.neg rfl rfl (r:=(a.natAbs:Int)) (by rw[wrap_u64];omega)) ?_
  refine Za ?_
  refine Zk4 0 2 3 7 (Ztq ?_)
  refine Zm ?_
  refine Zv (Runs.lss rfl rfl rfl) ?_
  refine Zm ?_
  refine Zv (Runs.remN rfl rfl rfl (by omega) (by omega)) ?_
  refine Zm ?_
  refine Zv (Runs.quoU rfl rfl rfl (by omega) (by omega) (by omega)) ?_
  refine Zv (Runs.remN rfl rfl rfl (by omega) (by omega)) ?_
  refine Zm ?_
  refine Zv (Runs.quoU rfl rfl rfl (by omega) (by omega) (by omega)) ?_
  refine Zv (Runs.remN rfl rfl rfl (by omega) (by omega)) ?_
  refine Zm ?_
  refine Zv (Runs.quoU rfl rfl rfl (by omega) (by omega) (by omega)) ?_
  refine Seq.slice (vs:=[_,_,_,_]) (s:=1) rfl rfl rfl Tryz.underlying152 (by kernel_rfl) (zero_uint64) (by omega) (by omega) ⟨rfl,rfl,rfl,rfl,trivial⟩ rfl rfl rfl ?_
  intro g22 w2 n22
  have e22:=Nat.le_trans bel.size n22.ge
  have l22:=Nat.lt_of_lt_of_le k2.lt n22.ge
  replace bel:=bel.step n22.below
  replace k2:=k2.step n22.below
  have k22:=n22.blk
  have hr:=of_digits _ g22 a.natAbs _ _ _ _ _ _ rfl k22 (by omega) (by omega) (by omega) (by omega)
  refine Zc (Ze Tryz.func150) (trim_any _ _ 4 4 _ _ hr (Nat.le_refl _) hd (by omega) (by omega)) ?_
  rintro e w7 ⟨rfl,rfl⟩
  have hm:=mag_of_trim hr hd (Nat.le_refl 4) (by omega) hv
  have hm1:=hm.one
  refine⟨_,rfl,?_⟩
  rw[hv] at hm hm1⊢
  refine Zv (Runs.build rfl rfl (run_build_Big _ _ hm1 _)) ?_
  refine Zo 2 k2 ?_
  intro w3 pw3
  replace bel:=bel.put k2 pw3 e2
  replace k22:=k22.put pw3 (by omega)
  replace hm:=hm.put k2 pw3 e2
  replace k2:=pw3.blk
  refine Zk4 0 2 3 7 (Zt (Cd.ret ?_))
  refine Post.endC rfl rfl k2 Tryz.underlying154 rfl (m:=2) (by kernel_rfl) rfl (.inl rfl) ?_
  exact⟨_,rfl,⟨_,rfl,hm⟩,bel⟩
 ·skip
  refine Cd.skip (Ztq ?_)
  refine Zm ?_
  refine Zv (Runs.lss rfl rfl rfl) ?_
  refine Zm ?_
  refine Zv (Runs.remN rfl rfl rfl (by omega) (by omega)) ?_
  refine Zm ?_
  refine Zv (Runs.quoU rfl rfl rfl (by omega) (by omega) (by omega)) ?_
  refine Zv (Runs.remN rfl rfl rfl (by omega) (by omega)) ?_
  refine Zm ?_
  refine Zv (Runs.quoU rfl rfl rfl (by omega) (by omega) (by omega)) ?_
  refine Zv (Runs.remN rfl rfl rfl (by omega) (by omega)) ?_
  refine Zm ?_
  refine Zv (Runs.quoU rfl rfl rfl (by omega) (by omega) (by omega)) ?_
  refine Seq.slice (vs:=[_,_,_,_]) (s:=1) rfl rfl rfl Tryz.underlying152 (by kernel_rfl) (zero_uint64) (by omega) (by omega) ⟨rfl,rfl,rfl,rfl,trivial⟩ rfl rfl rfl ?_
  intro g22 w2 n22
  have e22:=Nat.le_trans bel.size n22.ge
  have l22:=Nat.lt_of_lt_of_le k2.lt n22.ge
  replace bel:=bel.step n22.below
  replace k2:=k2.step n22.below
  have k22:=n22.blk
  have hr:=of_digits _ g22 a.natAbs _ _ _ _ _ _ rfl k22 (by omega) (by omega) (by omega) (by omega)
  refine Zc (Ze Tryz.func150) (trim_any _ _ 4 4 _ _ hr (Nat.le_refl _) hd (by omega) (by omega)) ?_
  rintro e w7 ⟨rfl,rfl⟩
  have hm:=mag_of_trim hr hd (Nat.le_refl 4) (by omega) hv
  have hm1:=hm.one
  refine⟨_,rfl,?_⟩
  rw[hv] at hm hm1⊢
  refine Zv (Runs.build rfl rfl (run_build_Big _ _ hm1 _)) ?_
  refine Zo 2 k2 ?_
  intro w3 pw3
  replace bel:=bel.put k2 pw3 e2
  replace k22:=k22.put pw3 (by omega)
  replace hm:=hm.put k2 pw3 e2
  replace k2:=pw3.blk
  refine Zk4 0 2 3 7 (Zt (Cd.ret ?_))
  refine Post.endC rfl rfl k2 Tryz.underlying154 rfl (m:=2) (by kernel_rfl) rfl (.inl rfl) ?_
  exact⟨_,rfl,⟨_,rfl,hm⟩,bel⟩
end Go.Proofs.YtaamkfajnpobfaaGreat
namespace Go.Proofs.YtaamkfajnpobfaaGreat
open Go.RowKit
theorem cmpZ_gt {a b:Int}:(0<cmpZ a b)↔b<a:=by
 unfold cmpZ
 split
 ·constructor<;>intro h<;>omega
 ·split<;>constructor<;>intro h<;>omega
theorem cmpZ_lt {a b:Int}:(cmpZ a b<0)↔a<b:=by
 unfold cmpZ
 split
 ·constructor<;>intro h<;>omega
 ·split<;>constructor<;>intro h<;>omega
theorem big_of {n:Nat}(h:n<1606938044258990275541962092341162602522202993782792835301376):n<big:=Nat.lt_of_lt_of_le h big_pos
theorem BigR.agg {w:World}{v:Value}{z:Int}(h:BigR w v z):∃m,v= .agg #[.bool (decide (z<0)),m]∧m.oneCell'=true∧MagR w m z.natAbs:=by
 obtain⟨m,e,hm⟩:=h
 exact⟨m,e,hm.one,hm⟩
theorem BigR.put {w w':World}{v:Value}{z:Int}{g B:Nat}{T:TypeId}{cur cs:Array Value}(h:BigR w v z)(k:Blk w g T cur)(p:Put w w' g T cs)(e:B≤g)(hcs:∀(k:IntKind) (z:Int),Value.int k z∉cur.toList:=by simp[Value.cells, *]):BigR w' v z:=by
 obtain⟨m,e1,hm⟩:=h
 exact⟨m,e1,hm.put k p e hcs⟩
theorem minus_big (x:Value)(a:Int)(w:World)(hx:BigR w x a)(ha:a.natAbs<big):
  Calls Tryz.prog 115 #[x] w fun e w'=>∃v,e= .returned v∧Below w.heap.size w w'∧BigR w' v (-a):=
 (minus_any x a w hx (by have:=len_big (n:=a.natAbs) (by omega);omega)).mono fun e w' ⟨v,he,h1,h2⟩=>⟨v,he,h2,h1⟩
theorem plus_big (x y:Value)(a b:Int)(w:World)(hx:BigR w x a)(hy:BigR w y b)(ha:a.natAbs<big)(hb:b.natAbs<big):
  Calls Tryz.prog 112 #[x,y] w fun e w'=>∃v,e= .returned v∧Below w.heap.size w w'∧BigR w' v (a+b):=
 (plus_any x y a b w hx hy ha hb).mono fun e w' ⟨v,he,h1,h2⟩=>⟨v,he,h2,h1⟩
theorem of_big (a:Int)(w:World)(h0: -9223372036854775808≤a)(h1:a≤9223372036854775807):
  Calls Tryz.prog 114 #[.int .i64 a] w fun e w'=>∃v,e= .returned v∧Below w.heap.size w w'∧BigR w' v a:=
 (of_any a w h0 h1).mono fun e w' ⟨v,he,h1,h2⟩=>⟨v,he,h2,h1⟩
theorem cmpB_any (x y:Value)(a b:Int)(w:World)(hx:BigR w x a)(hy:BigR w y b)(ha:a.natAbs<big)(hb:b.natAbs<big):
  Calls Tryz.prog 151 #[x,y] w fun e w'=>e= .returned (.int .i64 (cmpZ a b))∧Below w.heap.size w w':=by
 have hx0:=hx
 have hy0:=hy
 obtain⟨m,rfl,-,-⟩:=hx.agg
 obtain⟨q,rfl,-,-⟩:=hy.agg
 have bel:=Below.refl w.heap.size w
 refine Zs 16 Tryz.func151 ?_
 refine Zsr ?_
 refine Seq.box rfl rfl rfl rfl rfl ?_
 intro g2 w1 n2
 have e2:=Nat.le_trans bel.size n2.ge
 replace bel:=bel.step n2.below
 replace hx:=hx.step n2.below
 replace hy:=hy.step n2.below
 have k2:=n2.blk
 refine Seq.box rfl rfl rfl rfl rfl ?_
 intro g3 w2 n3
 have e3:=Nat.le_trans bel.size n3.ge
 have l3:=Nat.lt_of_lt_of_le k2.lt n3.ge
 replace bel:=bel.step n3.below
 replace hx:=hx.step n3.below
 replace hy:=hy.step n3.below
 replace k2:=k2.step n3.below
 have k3:=n3.blk
 refine Za ?_
 refine Zk5 0 1 2 3 4 (Zts ?_)
 refine Cd.draw 5 (by kernel_rfl) [] (.inl rfl) rfl Grow Grow.refl (fun _ _ _=>Grow.trans) ?_
 intro w3 hw3 zw3
 replace bel:=bel.step hw3
 replace hx:=hx.step hw3
 replace hy:=hy.step hw3
 replace k2:=k2.step hw3
 replace k3:=k3.step hw3
 have zbel:=bel.size
 have zlt:=k3.lt
 refine Zd (fun w hG=>Runs.loadW rfl rfl Tryz.underlying154 rfl (k2.step hG) (m:=2) (by kernel_rfl) rfl) ?_
 refine Zd (fun w hG=>Runs.loadW rfl rfl Tryz.underlying154 rfl (k3.step hG) (m:=2) (by kernel_rfl) rfl) ?_
 refine Dr.call (Φ:=fun v w=>BigR w v (-b)) rfl (fun w=>Ze Tryz.func115) rfl (BigR.stable _) (fun w hG=>minus_big _ _ _ (hy.step hG) hb) ?_
 refine Dr.call1 (j:=2) (Φ:=fun v w=>BigR w v (a+ -b)) rfl rfl rfl (fun u w=>Ze Tryz.func112) rfl (BigR.stable _) (fun u w hG hu=>plus_big _ u a (-b) _ (hx.step hG) hu ha (by omega)) ?_
 refine Dr.alloc rfl rfl (run_zero zero_debentureref01_Big) rfl ?_
 refine Dr.nil ?_
 refine FinX.open (j:=3) rfl ?_
 intro u3
 refine FinX.open (j:=4) rfl ?_
 intro u4
 refine FinX.done (F':=[(0,_),(1,_),(2,_),(3,_),(4,_),(5,_),(9,_)]) rfl ⟨rfl,rfl,rfl,rfl,rfl,rfl,rfl,trivial⟩ ?_
 intro w4 hw4 fw4
 replace bel:=bel.step hw4
 replace hx:=hx.step hw4
 replace hy:=hy.step hw4
 replace k2:=k2.step hw4
 replace k3:=k3.step hw4
 obtain⟨⟨-,h9⟩,g5,rfl,k5,e5⟩:=fw4
 obtain⟨m9,rfl,o9,h9⟩:=h9.agg
 obtain⟨A9,c9,rfl,b9,c9',r9⟩:=id h9
 have l5:=Nat.lt_of_lt_of_le zlt e5
 replace e5:=Nat.le_trans zbel e5
 refine Zo 2 k5 ?_
 intro w5 pw5
 replace bel:=bel.put k5 pw5 e5
 replace hx:=hx.put k5 pw5 e5
 replace hy:=hy.put k5 pw5 e5
 replace k2:=k2.put pw5 (by omega)
 replace k3:=k3.put pw5 (by omega)
 replace h9:=h9.put k5 pw5 e5
 replace k5:=pw5.blk
 refine Zk6 0 1 2 3 4 5 (Zts (Zsr ?_))
 refine Zf 1 Tryz.underlying154 ?_
 refine Zv (Runs.loadB rfl rfl Tryz.underlying152 rfl k5 rfl) ?_
 refine Zv (Runs.len rfl rfl Tryz.underlying152) ?_
 refine Zv (Runs.eqlI rfl rfl rfl) ?_
 refine Zk7 0 1 2 3 4 5 13 (Zt ?_)
 refine Cd.condD rfl (fun hc=> ?_) (fun hc=> ?_)
 ·skip
  refine Zsr ?_
  refine Za ?_
  refine Zk7 0 1 2 3 4 5 13 (Zt (Cd.ret (Post.then_ret ?_)))
  refine Post.end1 rfl rfl (.inl rfl) ?_
  refine⟨ret1 (int_eq ?_),bel⟩
  have h0:=(digs_len_zero (a+ -b).natAbs).1 (by omega)
  unfold cmpZ
  rw[if_neg (by omega),if_pos (by omega)]
 ·skip
  refine Cd.skip (Zts (Zsr ?_))
  refine Zf 0 Tryz.underlying154 ?_
  refine Zv (Runs.loadB rfl rfl Tryz.underlying4 rfl k5 rfl) ?_
  refine Zk8 0 1 2 3 4 5 13 15 (Zt ?_)
  refine Cd.condD rfl (fun hc=> ?_) (fun hc=> ?_)
  ·skip
   refine Zsr ?_
   refine Za ?_
   refine Zk8 0 1 2 3 4 5 13 15 (Zt (Cd.ret (Post.then_ret ?_)))
   refine Post.end1 rfl rfl (.inl rfl) ?_
   refine⟨ret1 (int_eq ?_),bel⟩
   unfold cmpZ
   rw[if_pos (by omega)]
  ·have h0:=mt (digs_len_zero (a+ -b).natAbs).2 (by omega)
   refine Cd.skip (Ztq ?_)
   refine Za ?_
   refine Zk8 0 1 2 3 4 5 13 15 (Zt (Cd.ret ?_))
   refine Post.end1 rfl rfl (.inl rfl) ?_
   refine⟨ret1 (int_eq ?_),bel⟩
   unfold cmpZ
   rw[if_neg (by omega),if_neg (by omega)]
theorem cmpB_grow (x y:Value)(a b:Int)(w:World)(hx:BigR w x a)(hy:BigR w y b)(ha:a.natAbs<big)(hb:b.natAbs<big):
  Calls Tryz.prog 151 #[x,y] w fun e w'=>e= .returned (.int .i64 (cmpZ a b))∧Grow w w':=cmpB_any x y a b w hx hy ha hb
end Go.Proofs.YtaamkfajnpobfaaGreat
namespace Go.Proofs.YtaamkfajnpobfaaGreat
open Go.RowKit
theorem U_at {l:List Nat}{j d:Nat}(h:l[j]? =some d):(U l).toArray[j]? =some (.int .u64 (d:Int)):=by simp[U,h]
theorem U_set (l:List Nat)(j d:Nat):(U l).toArray.setIfInBounds j (.int .u64 (d:Int))=(U (l.set j d)).toArray:=by
 apply Array.ext'
 simp[U,List.map_set]
theorem U_zero (n:Nat):(List.replicate n (Value.int .u64 0)).toArray=(U (List.replicate n 0)).toArray:=by simp[U]
theorem val_set (l:List Nat):∀(j d x:Nat),l[j]? =some x→val (l.set j d)+65536^j*x=val l+65536^j*d:=by
 induction l with
 |nil=>intro j d x h;simp at h
 |cons a l ih=>
  intro j d x h
  cases j with
  |zero=>
   obtain rfl:a=x:=by simpa using h
   simp[val];omega
  |succ j=>
   have:=ih j d x (by simpa using h)
   rw[List.set_cons_succ,val,val,Nat.pow_succ,Nat.mul_right_comm,Nat.mul_right_comm _ _ d]
   omega
theorem set_lt {l:List Nat}(h:∀d∈l,d<65536)(j v:Nat)(hv:v<65536):∀d∈l.set j v,d<65536:=by
 intro d hd
 rcases List.mem_or_eq_of_mem_set hd with h1|rfl
 ·exact h d h1
 ·exact hv
theorem val_zero (n:Nat):val (List.replicate n 0)=0:=by
 induction n with
 |zero=>rfl
 |succ n ih=>rw[List.replicate_succ,val,ih]
theorem digit_above (l:List Nat)(j x:Nat)(h:val l<65536^j)(hx:l[j]? =some x):x=0:=by
 have e:=val_split l j x hx
 rcases Nat.eq_zero_or_pos x with h0|h0
 ·exact h0
 ·exfalso
  have h1:65536^j*1≤65536^j*(x+65536*val (l.drop (j+1))):=Nat.mul_le_mul_left _ (by omega)
  omega
theorem get_lt {l:List Nat}(h:∀d∈l,d<65536){j d:Nat}(hj:l[j]? =some d):d<65536:=h d (List.mem_of_getElem? hj)
theorem times_step (P vl vl' x c v ai bk S:Nat)(h:vl'+P*c=S)(hv:v=x+ai*bk+c)(h2:vl+P*x=vl'+P*(v%65536)):vl+P*65536*(v/65536)=S+P*(ai*bk):=by
 have e0:v%65536+65536*(v/65536)=v:=Nat.mod_add_div v 65536
 have e1:P*v=P*(v%65536)+P*65536*(v/65536):=by rw[Nat.mul_assoc,←Nat.mul_add,e0]
 have e2:P*v=P*x+P*(ai*bk)+P*c:=by rw[hv,Nat.mul_add,Nat.mul_add]
 omega
theorem trim_known (k:Nat)(A:Option Addr)(n cap:Nat)(l:List Nat)(w:World)(hr:Reads w w.heap.size 1 A n (U l))(hd:∀d∈l,d<65536)(hn:n≤1073741824)(hc:n≤cap)(hk:(digs (val l)).length=k):
  Calls Tryz.prog 150 #[.slice A n cap] w fun e w'=>e= .returned (.slice A k cap)∧Grow w w':=
 (trim_any _ A n cap l w hr (Nat.le_refl _) hd hn hc).mono fun e w' ⟨h1,h2⟩=>⟨by rw[h1,hk],by rw[←h2];exact Grow.refl _⟩
theorem sign_mul (a b:Int):(decide (decide (a<0)≠decide (b<0))&&decide (0<(a*b).natAbs))=decide (a*b<0):=by
 rcases Int.lt_trichotomy a 0 with h1|h1|h1<;>rcases Int.lt_trichotomy b 0 with h2|h2|h2
 ·have:=Int.mul_pos_of_neg_of_neg h1 h2
  simp[h1,h2];omega
 ·subst h2;simp
 ·have:=Int.mul_neg_of_neg_of_pos h1 h2
  have h3:¬b<0:=by omega
  simp[h1,h3,this];omega
 ·subst h1;simp
 ·subst h1;simp
 ·subst h1;simp
 ·have:=Int.mul_neg_of_pos_of_neg h1 h2
  have h3:¬a<0:=by omega
  simp[h2,h3,this];omega
 ·subst h2;simp
 ·have:=Int.mul_pos h1 h2
  have h3:¬a<0:=by omega
  have h4:¬b<0:=by omega
  simp[h3,h4];omega
theorem times_any (x y:Value)(a b:Int)(w:World)(hx:BigR w x a)(hy:BigR w y b)(ha:a.natAbs<big)(hb:b.natAbs<big):
  Calls Tryz.prog 113 #[x,y] w fun e w'=>∃v,e= .returned v∧Below w.heap.size w w'∧BigR w' v (a*b):=by
 obtain⟨m,rfl,om,hm⟩:=hx.agg
 obtain⟨q,rfl,oq,hq⟩:=hy.agg
 have hla:=len_big (n:=a.natAbs) (by omega)
 have hlb:=len_big (n:=b.natAbs) (by omega)
 obtain⟨A,ca,rfl,hca,hca2,hra⟩:=hm
 obtain⟨B,cb,rfl,hcb,hcb2,hrb⟩:=hq
 generalize hma:(digs a.natAbs).length=la at *
 generalize hmb:(digs b.natAbs).length=lb at *
 have bel:=Below.refl w.heap.size w
 refine Zs 87 Tryz.func113 ?_
 refine Zsr ?_
 refine Seq.box rfl rfl rfl rfl rfl ?_
 intro g2 w1 n2
 have e2:=Nat.le_trans bel.size n2.ge
 replace bel:=bel.step n2.below
 have k2:=n2.blk
 refine Seq.box rfl rfl rfl rfl rfl ?_
 intro g3 w2 n3
 have e3:=Nat.le_trans bel.size n3.ge
 have l3:=Nat.lt_of_lt_of_le k2.lt n3.ge
 replace bel:=bel.step n3.below
 replace k2:=k2.step n3.below
 have k3:=n3.blk
 refine Zl zero_debentureref01_Big ?_
 intro g4 w3 n4
 have e4:=Nat.le_trans bel.size n4.ge
 have l4:=Nat.lt_of_lt_of_le k3.lt n4.ge
 replace bel:=bel.step n4.below
 replace k2:=k2.step n4.below
 replace k3:=k3.step n4.below
 have k4:=n4.blk
 refine Zk5 0 1 2 3 4 (Ztq ?_)
 refine Zf 1 Tryz.underlying154 ?_
 refine Zv (Runs.loadB rfl rfl Tryz.underlying152 rfl k2 rfl) ?_
 refine Zv (Runs.len rfl rfl Tryz.underlying152) ?_
 refine Zf 1 Tryz.underlying154 ?_
 refine Zv (Runs.loadB rfl rfl Tryz.underlying152 rfl k3 rfl) ?_
 refine Zv (Runs.len rfl rfl Tryz.underlying152) ?_
 refine Za_ ?_
 refine Za_ ?_
 refine Seq.make rfl rfl rfl Tryz.underlying152 (by kernel_rfl) zero_uint64 rfl (b:=8) (by kernel_rfl) (m:=la+lb+1) (by omega) (by omega) (by omega) rfl rfl rfl ?_
 intro g18 w4 n18
 have e18:=Nat.le_trans bel.size n18.ge
 have l18:=Nat.lt_of_lt_of_le k4.lt n18.ge
 replace bel:=bel.step n18.below
 replace k2:=k2.step n18.below
 replace k3:=k3.step n18.below
 replace k4:=k4.step n18.below
 have k18:=n18.blk
 refine Za ?_
 refine Zk6 0 1 2 3 4 5 (Zts (Zsr ?_))
 refine Za ?_
 refine Zk7 0 1 2 3 4 5 6 (Zt (Cd.block ?_))
 rw[U_zero] at k18
 refine Cd.loop (σ:=Nat × List Nat) (fun s=>[(2, .pointer (some ⟨g2,0,none⟩)),(3, .pointer (some ⟨g3,0,none⟩)),(4, .pointer (some ⟨g4,0,none⟩)),(5, .slice (some ⟨g18,0,none⟩) (la+lb+1) (la+lb+1)),(6, .int .i64 (s.1:Int))])
  (fun s wr=>s.1≤la∧s.2.length=la+lb+1∧(∀d∈s.2,d<65536)∧val s.2=val ((digs a.natAbs).take s.1)*b.natAbs∧Below w.heap.size w wr∧Blk wr g2 154 #[.bool (decide (a<0)), .slice A la ca]∧Blk wr g3 154 #[.bool (decide (b<0)), .slice B lb cb]∧Blk wr g4 154 #[.bool false, .slice none 0 0]∧Blk wr g18 162 (U s.2).toArray)
  (fun s=>la-s.1) (0,List.replicate (la+lb+1) 0) ⟨by omega,by simp,by simp,by simp[val_zero,val],bel,k2,k3,k4,k18⟩ ⟨rfl,rfl,rfl,rfl,rfl,trivial⟩ ?_
 clear bel k2 k3 k4 k18
 rintro⟨i,l⟩ wr ⟨hi,hl,hd,hv,bel,k2,k3,k4,k18⟩
 dsimp only at hi hl hd hv bel k2 k3 k4 k18⊢
 refine Cd.seq (Zsr ?_)
 refine Zm ?_
 refine Zf 1 Tryz.underlying154 ?_
 refine Zv (Runs.loadB rfl rfl Tryz.underlying152 rfl k2 rfl) ?_
 refine Zv (Runs.len rfl rfl Tryz.underlying152) ?_
 refine Zv (Runs.lss rfl rfl rfl) ?_
 refine Zk6 2 3 4 5 6 23 (Zt ?_)
 refine Cd.condD rfl (fun hc=> ?_) (fun hc=> ?_)
 ·obtain⟨ad,p,rfl,hbp,hp,hcp⟩:=hra.dig bel (Nat.le_refl _) (show i<la by omega)
  have ci:Cell wr w.heap.size (ad.add i) (.int .u64 p):=⟨by rw[block_of_add];exact hbp,hcp⟩
  have hp2:=get_lt (digs_lt _) hp
  refine Cd.skip (Zts (Cd.block (Zsr ?_)))
  refine Za ?_
  refine Zk7 2 3 4 5 6 7 23 (Zts (Zsr ?_))
  refine Za ?_
  refine Zk8 2 3 4 5 6 7 8 23 (Zt (Cd.block ?_))
  refine Cd.loop (σ:=Nat × Nat × List Nat) (fun s=>[(2, .pointer (some ⟨g2,0,none⟩)),(3, .pointer (some ⟨g3,0,none⟩)),(4, .pointer (some ⟨g4,0,none⟩)),(5, .slice (some ⟨g18,0,none⟩) (la+lb+1) (la+lb+1)),(6, .int .i64 (i:Int)),(7, .int .u64 (s.2.1:Int)),(8, .int .i64 (s.1:Int))])
   (fun s wr=>s.1≤lb∧s.2.1<65536∧s.2.2.length=la+lb+1∧(∀d∈s.2.2,d<65536)∧val s.2.2+65536^(i+s.1)*s.2.1=val l+65536^i*(p*val ((digs b.natAbs).take s.1))∧(∀j,i+s.1≤j→s.2.2[j]? =l[j]?)∧
    Below w.heap.size w wr∧Blk wr g2 154 #[.bool (decide (a<0)), .slice (some ad) la ca]∧Blk wr g3 154 #[.bool (decide (b<0)), .slice B lb cb]∧Blk wr g4 154 #[.bool false, .slice none 0 0]∧Blk wr g18 162 (U s.2.2).toArray∧Cell wr w.heap.size (ad.add i) (.int .u64 p))
   (fun s=>lb-s.1) (0,0,l) ⟨by omega,by simp,hl,hd,by simp[val],fun j _=>rfl,bel,k2,k3,k4,k18,ci⟩ ⟨rfl,rfl,rfl,rfl,rfl,rfl,rfl,trivial⟩ ?_
  clear bel k2 k3 k4 k18 ci
  rintro⟨k,c,l'⟩ wr' ⟨hk,hc2,hl',hd',hv',hsame,bel,k2,k3,k4,k18,ci⟩
  dsimp only at hk hc2 hl' hd' hv' hsame bel k2 k3 k4 k18 ci⊢
  refine Cd.seq (Zsr ?_)
  refine Zm ?_
  refine Zf 1 Tryz.underlying154 ?_
  refine Zv (Runs.loadB rfl rfl Tryz.underlying152 rfl k3 rfl) ?_
  refine Zv (Runs.len rfl rfl Tryz.underlying152) ?_
  refine Zv (Runs.lss rfl rfl rfl) ?_
  refine Zk8 2 3 4 5 6 7 8 30 (Zt ?_)
  refine Cd.condD rfl (fun hc=> ?_) (fun hc=> ?_)
  ·obtain⟨bd,bk,rfl,hbb,hbk,hcb⟩:=hrb.dig bel (Nat.le_refl _) (show k<lb by omega)
   have cj:Cell wr' w.heap.size (bd.add k) (.int .u64 bk):=⟨by rw[block_of_add];exact hbb,hcb⟩
   have hbk2:=get_lt (digs_lt _) hbk
   obtain⟨x,hx⟩:∃x,l'[i+k]? =some x:=⟨_,List.getElem?_eq_getElem (show i+k<l'.length by omega)⟩
   have hx2:=get_lt hd' hx
   have hpb:p*bk≤65535*65535:=Nat.mul_le_mul (by omega) (by omega)
   refine Cd.skip (Zts (Cd.block (Cd.seq ?_)))
   refine Cd.draw 20 (by kernel_rfl) [] (.inl rfl) rfl Grow Grow.refl (fun _ _ _=>Grow.trans) ?_
   intro w5 hw5 zw5
   replace bel:=bel.step hw5
   replace k2:=k2.step hw5
   replace k3:=k3.step hw5
   replace k4:=k4.step hw5
   replace k18:=k18.step hw5
   replace ci:=ci.step hw5
   replace cj:=cj.step hw5
   have zbel:=bel.size
   have zlt:=k18.lt
   refine Zdm ?_
   refine Zdm ?_
   refine Zdm ?_
   refine Zd (fun w hG=>Runs.addI rfl rfl rfl (by omega) (by omega)) ?_
   refine Zd (fun w hG=>Runs.indexB rfl rfl rfl Tryz.underlying152 (by kernel_rfl) (j:=i+k) (by omega) (by omega)) ?_
   refine Zd (fun w hG=>Runs.loadB rfl rfl Tryz.underlying162 rfl (k18.step hG) (U_at hx)) ?_
   refine Zd (fun w hG=>Runs.fieldB 1 rfl rfl Tryz.underlying154 rfl (by kernel_rfl)) ?_
   refine Zd (fun w hG=>Runs.loadB rfl rfl Tryz.underlying152 rfl (k2.step hG) rfl) ?_
   refine Zdm ?_
   refine Zd (fun w hG=>Runs.index1 rfl rfl rfl Tryz.underlying152 (by kernel_rfl) (j:=i) rfl (by omega)) ?_
   refine Zd (fun w hG=>Runs.load1 rfl rfl Tryz.underlying162 rfl (ci.step hG).val) ?_
   refine Zd (fun w hG=>Runs.fieldB 1 rfl rfl Tryz.underlying154 rfl (by kernel_rfl)) ?_
   refine Zd (fun w hG=>Runs.loadB rfl rfl Tryz.underlying152 rfl (k3.step hG) rfl) ?_
   refine Zdm ?_
   refine Zd (fun w hG=>Runs.index1 rfl rfl rfl Tryz.underlying152 (by kernel_rfl) (j:=k) rfl (by omega)) ?_
   refine Zd (fun w hG=>Runs.load1 rfl rfl Tryz.underlying162 rfl (cj.step hG).val) ?_
   refine Zd (fun w hG=>Runs.mulW rfl rfl rfl (r:=((p*bk:Nat):Int)) (by rw[←Int.natCast_mul];exact wrapU (by omega) (by omega))) ?_
   refine Zd (fun w hG=>Runs.addW rfl rfl rfl (r:=((x+p*bk:Nat):Int)) (by rw[←Int.natCast_add];exact wrapU (by omega) (by omega))) ?_
   refine Zdm ?_
   refine Zd (fun w hG=>Runs.addW rfl rfl rfl (r:=((x+p*bk+c:Nat):Int)) (by rw[←Int.natCast_add];exact wrapU (by omega) (by omega))) ?_
   refine Dr.nil ?_
   refine FinX.done (F':=[(2,_),(3,_),(4,_),(5,_),(6,_),(7,_),(8,_),(30,_),(52,_)]) rfl ⟨rfl,rfl,rfl,rfl,rfl,rfl,rfl,rfl,rfl,trivial⟩ ?_
   intro w6 hw6 fw6
   replace bel:=bel.step hw6
   replace k2:=k2.step hw6
   replace k3:=k3.step hw6
   replace k4:=k4.step hw6
   replace k18:=k18.step hw6
   replace ci:=ci.step hw6
   replace cj:=cj.step hw6
   refine Za ?_
   refine Zk9 2 3 4 5 6 7 8 9 30 (Ztq ?_)
   refine Zm ?_
   refine Zm ?_
   refine Zm ?_
   refine Za_ ?_
   refine Zm ?_
   refine Zv (Runs.remL 65536 rfl rfl rfl rfl (by omega)) ?_
   refine Zv (Runs.indexB rfl rfl rfl Tryz.underlying152 (by kernel_rfl) (j:=i+k) (by omega) (by omega)) ?_
   refine Seq.store1 rfl rfl rfl (by kernel_rfl) rfl rfl k18 (U_at hx) rfl rfl ?_
   intro w7 pw7
   replace bel:=bel.put k18 pw7 e18
   replace k2:=k2.put pw7 (by omega)
   replace k3:=k3.put pw7 (by omega)
   replace k4:=k4.put pw7 (by omega)
   replace ci:=ci.put k18 pw7 e18
   replace cj:=cj.put k18 pw7 e18
   replace k18:=pw7.blk
   rw[U_set] at k18
   refine Zk9 2 3 4 5 6 7 8 9 30 (Ztr ?_)
   refine Zm ?_
   refine Zv (Runs.quoLU 65536 rfl rfl rfl rfl (by omega) (by omega)) ?_
   refine Za ?_
   refine Zk9 2 3 4 5 6 7 8 9 30 (Post.block_normal (Ztr ?_))
   refine Zm ?_
   refine Za_ ?_
   refine Za ?_
   refine Zk9 2 3 4 5 6 7 8 9 30 ?_
   refine Post.round (k+1,(x+p*bk+c)/65536,l'.set (i+k) ((x+p*bk+c)%65536)) ⟨rfl,rfl,rfl,rfl,rfl,rfl,rfl,trivial⟩ ?_ (by dsimp only;omega)
   have hval:=val_set l' (i+k) ((x+p*bk+c)%65536) x hx
   refine⟨by dsimp only;omega,by dsimp only;omega,by simp[hl'],set_lt hd' _ _ (by omega),?_,?_,bel,k2,k3,k4,k18,ci⟩
   ·dsimp only
    rw[val_take_succ,getD_of _ _ _ hbk,←Nat.add_assoc,Nat.pow_succ]
    have:=times_step (65536^(i+k)) _ _ x c _ p bk _ hv' rfl hval
    rw[this,Nat.pow_add]
    rw[Nat.mul_add p,Nat.mul_add (65536^i)]
    have e3:65536^i*65536^k*(p*bk)=65536^i*(p*(65536^k*bk)):=by rw[Nat.mul_assoc,Nat.mul_left_comm p (65536^k) bk]
    omega
   ·intro j hj
    dsimp only at hj⊢
    rw[List.getElem?_set_ne (by omega)]
    exact hsame j (by omega)
  ·obtain rfl:k=lb:=by omega
   have hlt:val l<65536^(i+k):=by
    rw[hv,Nat.pow_add]
    have h1:=val_lt ((digs a.natAbs).take i) (fun d hd=>digs_lt _ d (List.mem_of_mem_take hd))
    rw[List.length_take,hma,Nat.min_eq_left (by omega)] at h1
    have h2:=lt_of_digs_len b.natAbs
    rw[hmb] at h2
    exact Nat.mul_lt_mul_of_lt_of_lt h1 h2
   obtain⟨x,hx0⟩:∃x,l[i+k]? =some x:=⟨_,List.getElem?_eq_getElem (show i+k<l.length by omega)⟩
   obtain rfl:=digit_above l (i+k) x hlt hx0
   have hx:l'[i+k]? =some 0:=by rw[hsame _ (by omega),hx0]
   have hval:val (l'.set (i+k) (0+c))=val l'+65536^(i+k)*c:=by have:=val_set l' (i+k) (0+c) 0 hx;simpa using this
   refine Cd.exit (Post.then_exit (Post.round_exit (Post.block_exit (Zt ?_))))
   refine Cd.draw 17 (by kernel_rfl) [] (.inl rfl) rfl Grow Grow.refl (fun _ _ _=>Grow.trans) ?_
   intro w5 hw5 zw5
   replace bel:=bel.step hw5
   replace k2:=k2.step hw5
   replace k3:=k3.step hw5
   replace k4:=k4.step hw5
   replace k18:=k18.step hw5
   replace ci:=ci.step hw5
   have zbel:=bel.size
   have zlt:=k18.lt
   refine Zdm ?_
   refine Zdm ?_
   refine Zd (fun w hG=>Runs.fieldB 1 rfl rfl Tryz.underlying154 rfl (by kernel_rfl)) ?_
   refine Zd (fun w hG=>Runs.loadB rfl rfl Tryz.underlying152 rfl (k3.step hG) rfl) ?_
   refine Zd (fun w hG=>Runs.len rfl rfl Tryz.underlying152) ?_
   refine Zd (fun w hG=>Runs.addI rfl rfl rfl (by omega) (by omega)) ?_
   refine Zdm ?_
   refine Zdm ?_
   refine Zd (fun w hG=>Runs.fieldB 1 rfl rfl Tryz.underlying154 rfl (by kernel_rfl)) ?_
   refine Zd (fun w hG=>Runs.loadB rfl rfl Tryz.underlying152 rfl (k3.step hG) rfl) ?_
   refine Zd (fun w hG=>Runs.len rfl rfl Tryz.underlying152) ?_
   refine Zd (fun w hG=>Runs.addI rfl rfl rfl (by omega) (by omega)) ?_
   refine Zd (fun w hG=>Runs.indexB rfl rfl rfl Tryz.underlying152 (by kernel_rfl) (j:=i+k) (by omega) (by omega)) ?_
   refine Zd (fun w hG=>Runs.loadB rfl rfl Tryz.underlying162 rfl (k18.step hG) (U_at hx)) ?_
   refine Zdm ?_
   refine Zd (fun w hG=>Runs.addLU rfl rfl rfl (by omega)) ?_
   refine Zd (fun w hG=>Runs.indexB rfl rfl rfl Tryz.underlying152 (by kernel_rfl) (j:=i+k) (by omega) (by omega)) ?_
   refine Dr.nil ?_
   refine FinX.done (F':=[(2,_),(3,_),(4,_),(5,_),(6,_),(7,_),(8,_),(30,_),(77,_),(78,_)]) rfl ⟨rfl,rfl,rfl,rfl,rfl,rfl,rfl,rfl,rfl,rfl,trivial⟩ ?_
   intro w6 hw6 fw6
   replace bel:=bel.step hw6
   replace k2:=k2.step hw6
   replace k3:=k3.step hw6
   replace k4:=k4.step hw6
   replace k18:=k18.step hw6
   replace ci:=ci.step hw6
   refine Seq.store1 rfl rfl rfl (by kernel_rfl) rfl rfl k18 (U_at hx) rfl rfl ?_
   intro w7 pw7
   replace bel:=bel.put k18 pw7 e18
   replace k2:=k2.put pw7 (by omega)
   replace k3:=k3.put pw7 (by omega)
   replace k4:=k4.put pw7 (by omega)
   replace ci:=ci.put k18 pw7 e18
   replace k18:=pw7.blk
   rw[U_set] at k18
   refine Zk8 2 3 4 5 6 7 8 30 (Post.block_normal (Ztr ?_))
   refine Zm ?_
   refine Za_ ?_
   refine Za ?_
   refine Zk8 2 3 4 5 6 7 8 30 ?_
   refine Post.round (i+1,l'.set (i+k) (0+c)) ⟨rfl,rfl,rfl,rfl,rfl,trivial⟩ ?_ (by dsimp only;omega)
   refine⟨by dsimp only;omega,by simp[hl'],set_lt hd' _ _ (by omega),?_,bel,k2,k3,k4,k18⟩
   dsimp only
   rw[val_take_succ,getD_of _ _ _ hp,Nat.add_mul,←hv]
   rw[List.take_of_length_le (by omega),val_digs] at hv'
   rw[Nat.mul_assoc]
   omega
 ·obtain rfl:i=la:=by omega
  rw[List.take_of_length_le (by omega),val_digs] at hv
  refine Cd.exit (Post.then_exit (Post.round_exit (Post.block_exit (Zts ?_))))
  refine Cd.draw 8 (by kernel_rfl) [] (.inl rfl) rfl Grow Grow.refl (fun _ _ _=>Grow.trans) ?_
  intro w5 hw5 zw5
  replace bel:=bel.step hw5
  replace k2:=k2.step hw5
  replace k3:=k3.step hw5
  replace k4:=k4.step hw5
  replace k18:=k18.step hw5
  have zbel:=bel.size
  have zlt:=k18.lt
  refine Zd (fun w hG=>Runs.fieldB 0 rfl rfl Tryz.underlying154 rfl (by kernel_rfl)) ?_
  refine Zd (fun w hG=>Runs.loadB rfl rfl Tryz.underlying4 rfl (k2.step hG) rfl) ?_
  refine Zd (fun w hG=>Runs.fieldB 0 rfl rfl Tryz.underlying154 rfl (by kernel_rfl)) ?_
  refine Zd (fun w hG=>Runs.loadB rfl rfl Tryz.underlying4 rfl (k3.step hG) rfl) ?_
  refine Zd (fun w hG=>Runs.neqB rfl rfl rfl Tryz.underlying4) ?_
  refine Zdm ?_
  have hlen18:(digs (a*b).natAbs).length≤i+lb+1:=by
   rw[Int.natAbs_mul,←hv,←hl]
   exact digs_len_le _ _ (val_lt l hd)
  have hr18:Reads w5 w5.heap.size 1 (some ⟨g18,0,none⟩) (i+lb+1) (U l):=by
   refine⟨by rw[length_U];omega,fun _=>⟨_,rfl,k18.lt,fun j u hu=> ?_⟩⟩
   have hadd:(⟨g18,0,none⟩:Addr).add j=⟨g18,j,none⟩:=by unfold Addr.add;split<;>simp_all
   rw[hadd,k18.cell j]
   simpa using hu
  have hm18:MagR w5 (.slice (some ⟨g18,0,none⟩) (digs (a*b).natAbs).length (i+lb+1)) (a*b).natAbs:=by
   have:=mag_of_trim hr18 hd (Nat.le_refl _) (by omega) (show val l=(a*b).natAbs by rw[hv,Int.natAbs_mul])
   rwa [show val l=(a*b).natAbs by rw[hv,Int.natAbs_mul]] at this
  refine Dr.callV rfl (fun w=>Ze Tryz.func150) rfl (fun w hG=>trim_known _ _ _ _ l w ((hr18.below (show Below w5.heap.size w5 w from hG)).more hG.size) hd (by omega) (by omega) (show(digs (val l)).length=(digs (a*b).natAbs).length by rw[hv,Int.natAbs_mul])) ?_
  refine Dr.call (Φ:=fun v w=>BigR w v (a*b)) rfl (fun w=>Ze Tryz.func146) rfl (BigR.stable _) (fun w hG=>sign_big _ _ _ (a*b) _ (hm18.step hG) (by omega) rfl (sign_mul a b)) ?_
  refine Dr.nil ?_
  refine FinX.open (j:=7) rfl ?_
  intro u7
  refine FinX.done (F':=[(2,_),(3,_),(4,_),(5,_),(6,_),(23,_),(86,_)]) rfl ⟨rfl,rfl,rfl,rfl,rfl,rfl,rfl,trivial⟩ ?_
  intro w6 hw6 fw6
  replace bel:=bel.step hw6
  replace k2:=k2.step hw6
  replace k3:=k3.step hw6
  replace k4:=k4.step hw6
  replace k18:=k18.step hw6
  obtain⟨m9,rfl,o9,h9⟩:=(by assumption:True∧BigR _ _ _).2.agg
  refine Zo 2 k4 ?_
  intro w7 pw7
  replace bel:=bel.put k4 pw7 e4
  replace k2:=k2.put pw7 (by omega)
  replace k3:=k3.put pw7 (by omega)
  replace k18:=k18.put pw7 (by omega)
  replace h9:=h9.put k4 pw7 e4
  replace k4:=pw7.blk
  refine Zk6 2 3 4 5 6 23 (Zt (Cd.ret ?_))
  refine Post.endC rfl rfl k4 Tryz.underlying154 rfl (m:=2) (by kernel_rfl) rfl (.inl rfl) ?_
  exact⟨_,rfl,bel,_,rfl,h9⟩
theorem times_grow (x y:Value)(a b:Int)(w:World)(hx:BigR w x a)(hy:BigR w y b)(ha:a.natAbs<big)(hb:b.natAbs<big):
  Calls Tryz.prog 113 #[x,y] w fun e w'=>∃v,e= .returned v∧Grow w w'∧BigR w' v (a*b):=times_any x y a b w hx hy ha hb
end Go.Proofs.YtaamkfajnpobfaaGreat
namespace Go.Proofs.YtaamkfajnpobfaaGreat
open Go.RowKit
def valFrom (l:List Nat)(k:Nat):Nat:=val (l.drop k)
theorem valFrom_step (l:List Nat)(k d:Nat)(h:l[k]? =some d):valFrom l k=d+65536*valFrom l (k+1):=by
 obtain⟨hk,rfl⟩:=List.getElem?_eq_some_iff.1 h
 unfold valFrom
 rw[List.drop_eq_getElem_cons hk,val]
theorem valFrom_le (l:List Nat)(k:Nat):valFrom l k≤val l:=by
 have:=val_append (l.take k) (l.drop k)
 rw[List.take_append_drop] at this
 unfold valFrom
 have h1:1*val (l.drop k)≤65536^(l.take k).length*val (l.drop k):=Nat.mul_le_mul_right _ (Nat.pos_of_ne_zero (by simp))
 omega
theorem small_any (x:Value)(a:Int)(w:World)(hx:BigR w x a)(ha:a.natAbs<big):
  Calls Tryz.prog 116 #[x] w fun e w'=>e= .returned (.tuple #[.int .i64 (smallOf a), .bool (fits a)])∧Below w.heap.size w w':=by
 obtain⟨m,rfl,om,hm⟩:=hx.agg
 have bel:=Below.refl w.heap.size w
 by_cases hgt:9223372036854775807<a
 ·have hf:=fits_not (.inr hgt)
  have hs:smallOf a=0:=by unfold smallOf;rw[hf];rfl
  rw[hf,hs]
  refine Zs 38 Tryz.func116 ?_
  refine Zsr ?_
  refine Seq.box rfl rfl rfl rfl rfl ?_
  intro g1 w1 n1
  have e1:=Nat.le_trans bel.size n1.ge
  replace bel:=bel.step n1.below
  replace hx:=hx.step n1.below
  have k1:=n1.blk
  refine Za ?_
  refine Za ?_
  refine Zk4 0 1 2 3 (Zts (Cd.seq ?_))
  refine Cd.draw 10 (by kernel_rfl) [] (.inl rfl) rfl Grow Grow.refl (fun _ _ _=>Grow.trans) ?_
  intro w2 hw2 zw2
  replace bel:=bel.step hw2
  replace hx:=hx.step hw2
  replace k1:=k1.step hw2
  have zbel:=bel.size
  have zlt:=k1.lt
  refine Zd (fun w hG=>Runs.loadW rfl rfl Tryz.underlying154 rfl (k1.step hG) (m:=2) (by kernel_rfl) rfl) ?_
  refine Dr.call (Φ:=fun v w=>BigR w v 9223372036854775807) rfl (fun w=>Ze Tryz.func114) rfl (BigR.stable _) (fun w hG=>of_big _ _ (by omega) (by omega)) ?_
  refine Dr.call1V (j:=1) rfl rfl rfl (fun u w=>Ze Tryz.func151) rfl (fun u w hG hu=>cmpB_grow _ u a _ _ (hx.step hG) hu ha (big_of (by decide))) ?_
  refine Zd (fun w hG=>(Runs.gtr rfl rfl rfl).isT (cmpZ_gt.2 hgt)) ?_
  refine Zdm ?_
  refine Zds ?_
  refine Zds ?_
  refine Zds ?_
  refine Zds ?_
  refine Zd (fun w hG=>Runs.pickT rfl rfl rfl) ?_
  refine Dr.nil ?_
  refine FinX.done (F':=[(0,_),(1,_),(2,_),(3,_),(15,_)]) rfl ⟨rfl,rfl,rfl,rfl,rfl,trivial⟩ ?_
  intro w3 hw3 fw3
  replace bel:=bel.step hw3
  replace hx:=hx.step hw3
  replace k1:=k1.step hw3
  refine Zk5 0 1 2 3 15 (Zt ?_)
  refine Cd.condT rfl rfl ?_
  refine Zsr ?_
  refine Za ?_
  refine Za ?_
  refine Zk5 0 1 2 3 15 (Zt (Cd.ret (Post.then_ret ?_)))
  refine Post.end2 rfl rfl rfl (.inl rfl) ?_
  exact⟨rfl,bel⟩
 ·by_cases hlt:a< -9223372036854775808
  ·have hf:=fits_not (.inl hlt)
   have hs:smallOf a=0:=by unfold smallOf;rw[hf];rfl
   rw[hf,hs]
   refine Zs 38 Tryz.func116 ?_
   refine Zsr ?_
   refine Seq.box rfl rfl rfl rfl rfl ?_
   intro g1 w1 n1
   have e1:=Nat.le_trans bel.size n1.ge
   replace bel:=bel.step n1.below
   replace hx:=hx.step n1.below
   have k1:=n1.blk
   refine Za ?_
   refine Za ?_
   refine Zk4 0 1 2 3 (Zts (Cd.seq ?_))
   refine Cd.draw 10 (by kernel_rfl) [] (.inl rfl) rfl Grow Grow.refl (fun _ _ _=>Grow.trans) ?_
   intro w2 hw2 zw2
   replace bel:=bel.step hw2
   replace hx:=hx.step hw2
   replace k1:=k1.step hw2
   have zbel:=bel.size
   have zlt:=k1.lt
   refine Zd (fun w hG=>Runs.loadW rfl rfl Tryz.underlying154 rfl (k1.step hG) (m:=2) (by kernel_rfl) rfl) ?_
   refine Dr.call (Φ:=fun v w=>BigR w v 9223372036854775807) rfl (fun w=>Ze Tryz.func114) rfl (BigR.stable _) (fun w hG=>of_big _ _ (by omega) (by omega)) ?_
   refine Dr.call1V (j:=1) rfl rfl rfl (fun u w=>Ze Tryz.func151) rfl (fun u w hG hu=>cmpB_grow _ u a _ _ (hx.step hG) hu ha (big_of (by decide))) ?_
   refine Zd (fun w hG=>(Runs.gtr rfl rfl rfl).isF (mt cmpZ_gt.1 hgt)) ?_
   refine Zdm ?_
   refine Zdg (fun w hG=>Runs.loadW rfl rfl Tryz.underlying154 rfl (k1.step hG) (m:=2) (by kernel_rfl) rfl) ?_
   refine Dr.callG (Φ:=fun v w=>BigR w v (-9223372036854775808)) rfl (fun w=>Ze Tryz.func114) rfl rfl rfl (BigR.stable _) (fun w hG=>of_big _ _ (by omega) (by omega)) ?_
   refine Dr.call1VG (j:=6) rfl rfl rfl (fun u w=>Ze Tryz.func151) rfl rfl (fun _=>rfl) (fun u w hG hu=>cmpB_grow _ u a _ _ (hx.step hG) hu ha (big_of (by decide))) ?_
   refine Zdg (fun w hG=>(Runs.lss rfl rfl rfl).isT (cmpZ_lt.2 hlt)) ?_
   refine Zd (fun w hG=>Runs.pickF rfl rfl rfl) ?_
   refine Dr.nil ?_
   refine FinX.done (F':=[(0,_),(1,_),(2,_),(3,_),(15,_)]) rfl ⟨rfl,rfl,rfl,rfl,rfl,trivial⟩ ?_
   intro w3 hw3 fw3
   replace bel:=bel.step hw3
   replace hx:=hx.step hw3
   replace k1:=k1.step hw3
   refine Zk5 0 1 2 3 15 (Zt ?_)
   refine Cd.condT rfl rfl ?_
   refine Zsr ?_
   refine Za ?_
   refine Za ?_
   refine Zk5 0 1 2 3 15 (Zt (Cd.ret (Post.then_ret ?_)))
   refine Post.end2 rfl rfl rfl (.inl rfl) ?_
   exact⟨rfl,bel⟩
  ·have hf:=fits_of (a:=a) (by omega) (by omega)
   have hs:smallOf a=a:=by unfold smallOf;rw[if_pos hf]
   rw[hf,hs]
   obtain⟨A,cm,rfl,hcm,hcm2,hrm⟩:=id hm
   have hlen:(digs a.natAbs).length≤61:=len_big (by omega)
   have hba:a.natAbs<18446744073709551616:=by omega
   generalize hL:(digs a.natAbs).length=L at *
   refine Zs 38 Tryz.func116 ?_
   refine Zsr ?_
   refine Seq.box rfl rfl rfl rfl rfl ?_
   intro g1 w1 n1
   have e1:=Nat.le_trans bel.size n1.ge
   replace bel:=bel.step n1.below
   replace hx:=hx.step n1.below
   have k1:=n1.blk
   refine Za ?_
   refine Za ?_
   refine Zk4 0 1 2 3 (Zts (Cd.seq ?_))
   refine Cd.draw 10 (by kernel_rfl) [] (.inl rfl) rfl Grow Grow.refl (fun _ _ _=>Grow.trans) ?_
   intro w2 hw2 zw2
   replace bel:=bel.step hw2
   replace hx:=hx.step hw2
   replace k1:=k1.step hw2
   have zbel:=bel.size
   have zlt:=k1.lt
   refine Zd (fun w hG=>Runs.loadW rfl rfl Tryz.underlying154 rfl (k1.step hG) (m:=2) (by kernel_rfl) rfl) ?_
   refine Dr.call (Φ:=fun v w=>BigR w v 9223372036854775807) rfl (fun w=>Ze Tryz.func114) rfl (BigR.stable _) (fun w hG=>of_big _ _ (by omega) (by omega)) ?_
   refine Dr.call1V (j:=1) rfl rfl rfl (fun u w=>Ze Tryz.func151) rfl (fun u w hG hu=>cmpB_grow _ u a _ _ (hx.step hG) hu ha (big_of (by decide))) ?_
   refine Zd (fun w hG=>(Runs.gtr rfl rfl rfl).isF (mt cmpZ_gt.1 hgt)) ?_
   refine Zdm ?_
   refine Zdg (fun w hG=>Runs.loadW rfl rfl Tryz.underlying154 rfl (k1.step hG) (m:=2) (by kernel_rfl) rfl) ?_
   refine Dr.callG (Φ:=fun v w=>BigR w v (-9223372036854775808)) rfl (fun w=>Ze Tryz.func114) rfl rfl rfl (BigR.stable _) (fun w hG=>of_big _ _ (by omega) (by omega)) ?_
   refine Dr.call1VG (j:=6) rfl rfl rfl (fun u w=>Ze Tryz.func151) rfl rfl (fun _=>rfl) (fun u w hG hu=>cmpB_grow _ u a _ _ (hx.step hG) hu ha (big_of (by decide))) ?_
   refine Zdg (fun w hG=>(Runs.lss rfl rfl rfl).isF (mt cmpZ_lt.1 hlt)) ?_
   refine Zd (fun w hG=>Runs.pickF rfl rfl rfl) ?_
   refine Dr.nil ?_
   refine FinX.done (F':=[(0,_),(1,_),(2,_),(3,_),(15,_)]) rfl ⟨rfl,rfl,rfl,rfl,rfl,trivial⟩ ?_
   intro w3 hw3 fw3
   replace bel:=bel.step hw3
   replace hx:=hx.step hw3
   replace k1:=k1.step hw3
   refine Zk5 0 1 2 3 15 (Zt ?_)
   refine Cd.condF rfl rfl ?_
   refine Cd.skip (Ztq ?_)
   refine Za ?_
   refine Zk6 0 1 2 3 4 15 (Zts (Zsr ?_))
   refine Zf 1 Tryz.underlying154 ?_
   refine Zv (Runs.loadB rfl rfl Tryz.underlying152 rfl k1 rfl) ?_
   refine Zv (Runs.len rfl rfl Tryz.underlying152) ?_
   refine Zv (Runs.subI rfl rfl rfl (by omega) (by omega)) ?_
   refine Za ?_
   refine Zk7 0 1 2 3 4 5 15 (Zt (Cd.block ?_))
   refine Cd.loop (σ:=Nat) (fun k=>[(1, .pointer (some ⟨g1,0,none⟩)),(2, .int .i64 0),(3, .bool false),(4, .int .u64 (valFrom (digs a.natAbs) k:Int)),(5, .int .i64 ((k:Int)-1))])
    (fun k wr=>k≤L∧Below w.heap.size w wr∧Blk wr g1 154 #[.bool (decide (a<0)), .slice A L cm]) (fun k=>k) L ⟨Nat.le_refl _,bel,k1⟩ ⟨rfl,rfl,rfl,?_,rfl,trivial⟩ ?_
   ·show some (Value.int .u64 0)=_
    unfold valFrom
    rw[List.drop_of_length_le (by omega)];rfl
   clear bel hx k1
   rintro k wr ⟨hk,bel,k1⟩
   have hvl:=valFrom_le (digs a.natAbs) k
   rw[val_digs] at hvl
   refine Cd.seq (Zsr ?_)
   refine Zm ?_
   refine Zv (Runs.geq rfl rfl rfl) ?_
   refine Zk6 1 2 3 4 5 21 (Zt ?_)
   refine Cd.condD rfl (fun hc=> ?_) (fun hc=> ?_)
   ·obtain⟨j,rfl⟩:∃j,k=j+1:=⟨k-1,by omega⟩
    obtain⟨ad,p,rfl,hbp,hp,hcp⟩:=hrm.dig bel (Nat.le_refl _) (show j<L by omega)
    have hst:=valFrom_step _ _ _ hp
    have hvl2:=valFrom_le (digs a.natAbs) j
    rw[val_digs] at hvl2
    refine Cd.skip (Zts (Cd.block (Zr ?_)))
    refine Zm ?_
    refine Zv (Runs.mulU rfl rfl rfl (by omega) (by omega)) ?_
    refine Zf 1 Tryz.underlying154 ?_
    refine Zv (Runs.loadB rfl rfl Tryz.underlying152 rfl k1 rfl) ?_
    refine Zm ?_
    refine Zv (Runs.index1 rfl rfl rfl Tryz.underlying152 (by kernel_rfl) (j:=j) (by omega) (by omega)) ?_
    refine Zv (Runs.load1 rfl rfl Tryz.underlying162 rfl hcp) ?_
    refine Zv (Runs.addW rfl rfl rfl (r:=((valFrom (digs a.natAbs) j:Nat):Int)) (by rw[hst];exact(wrapU (by omega) (by omega)).trans (by omega))) ?_
    refine Za ?_
    refine Zk6 1 2 3 4 5 21 (Post.block_normal (Ztr ?_))
    refine Zm ?_
    refine Zv (Runs.subI rfl rfl rfl (by omega) (by omega)) ?_
    refine Za ?_
    refine Zk6 1 2 3 4 5 21 ?_
    refine Post.round j ⟨rfl,rfl,rfl,rfl,?_,trivial⟩ ⟨by omega,bel,k1⟩ (Nat.lt_succ_self _)
    show some (Value.int .i64 (((j+1:Nat):Int)-1-1))=_
    rw[show((j+1:Nat):Int)-1-1=(j:Int)-1 from by omega]
   ·obtain rfl:k=0:=by omega
    have hv0:valFrom (digs a.natAbs) 0=a.natAbs:=val_digs _
    rw[hv0]
    refine Cd.exit (Post.then_exit (Post.round_exit (Post.block_exit (Zts (Zsr ?_)))))
    refine Zf 0 Tryz.underlying154 ?_
    refine Zv (Runs.loadB rfl rfl Tryz.underlying4 rfl k1 rfl) ?_
    refine Zk7 1 2 3 4 5 21 33 (Zt ?_)
    refine Cd.condD rfl (fun hc=> ?_) (fun hc=> ?_)
    ·skip
     refine Zr ?_
     refine Zm ?_
     refine Zv (Runs.neg rfl rfl (r:=((a%18446744073709551616:Int))) (by rw[wrap_u64];omega)) ?_
     refine Za ?_
     refine Zk7 1 2 3 4 5 21 33 (Ztq ?_)
     refine Zm ?_
     refine Zv (Runs.convI rfl rfl Tryz.underlying162 Tryz.underlying2 (k':= .i64) (r:=a) (by rw[IntKind.wrap_i64];omega)) ?_
     refine Za ?_
     refine Za ?_
     refine Zk7 1 2 3 4 5 21 33 (Zt (Cd.ret ?_))
     refine Post.end2 rfl rfl rfl (.inl rfl) ?_
     exact⟨rfl,bel⟩
    ·skip
     refine Cd.skip (Ztq ?_)
     refine Zm ?_
     refine Zv (Runs.convI rfl rfl Tryz.underlying162 Tryz.underlying2 (k':= .i64) (r:=a) (by rw[IntKind.wrap_i64];omega)) ?_
     refine Za ?_
     refine Za ?_
     refine Zk7 1 2 3 4 5 21 33 (Zt (Cd.ret ?_))
     refine Post.end2 rfl rfl rfl (.inl rfl) ?_
     exact⟨rfl,bel⟩
end Go.Proofs.YtaamkfajnpobfaaGreat
namespace Go.Proofs.YtaamkfajnpobfaaGreat
open Go.RowKit
theorem small_big' (x:Value)(a:Int)(w:World)(hx:BigR w x a)(ha:a.natAbs<big):
  Calls Tryz.prog 116 #[x] w fun e w'=>e= .returned (.tuple #[.int .i64 (smallOf a), .bool (fits a)])∧Grow w w':=small_any x a w hx ha
theorem run_build_Big0 (w:World):(Instr.build 154 #[]).run Tryz.prog w= .ok (.agg #[.bool false, .slice none 0 0]) w:=by
 have hu:=Tryz.underlying154
 go_simp
theorem digs_0:digs 0=[]:=by unfold digs;rfl
theorem MagR.zero (w:World):MagR w (.slice none 0 0) 0:=⟨none,0,by rw[digs_0];rfl,by rw[digs_0];simp,by omega,by rw[digs_0];exact Reads.none_⟩
theorem Reads.otherU {w w':World}{B n g:Nat}{A:Option Addr}{l:List Nat}{cs:Array Value}{t:TypeId}{fr:Nat × Nat}(h:Reads w B 1 A n (U l))(hg:w.heap[g]? =some (.cells cs t fr))(hcs:∀(z:Int),Value.int .u64 z∉cs.toList)
  (hgr:w.grownBy w' (some g)):Reads w' B 1 A n (U l):=by
 refine⟨h.1,fun hn=> ?_⟩
 obtain⟨ad,hA,hb,hc⟩:=h.2 hn
 refine⟨ad,hA,hb,fun j u hu=> ?_⟩
 have h1:=hc j u hu
 have hne:(ad.add j).block≠g:=by
  intro he
  rw[get_U] at hu
  cases hl:l[j]? with
  |none=>rw[hl] at hu;cases hu
  |some d=>
   rw[hl] at hu
   injection hu with hu
   subst hu
   unfold World.cell? at h1
   rw[he,hg] at h1
   simp only at h1
   split at h1
   ·cases h1
   ·exact hcs _ (Array.mem_toList_iff.2 (Array.mem_of_getElem? h1))
 have hlt:(ad.add j).block<w.heap.size:=by
  unfold World.cell? at h1
  rcases Nat.lt_or_ge (ad.add j).block w.heap.size with h2|h2
  ·exact h2
  ·rw[Array.getElem?_eq_none h2] at h1;cases h1
 rw[←h1]
 unfold World.cell?
 rw[hgr.block _ hlt (by intro e;injection e with e;exact hne e)]
structure MagU (w:World)(m:Value)(n:Nat):Prop where
 mag:MagR w m n
theorem MagU.step {w w':World}{m:Value}{n:Nat}(h:MagU w m n)(hb:Below w.heap.size w w'):MagU w' m n:=⟨h.mag.step hb⟩
theorem MagU.put {w w':World}{m:Value}{n g B:Nat}{T:TypeId}{cur cs:Array Value}(h:MagU w m n)(k:Blk w g T cur)(p:Put w w' g T cs)(_e:B≤g)(hcs:∀(z:Int),Value.int .u64 z∉cur.toList:=by simp[Value.cells, *]):MagU w' m n:=by
 obtain⟨A,c,e,h1,h2,h3⟩:=h.mag
 exact⟨A,c,e,h1,h2,(h3.otherU k hcs p.grown).more p.grown.size⟩
theorem MagU.big {w:World}{m:Value}{r:Nat}(h:MagU w m r):BigR w (.agg [Value.bool false,m].toArray) (r:Int):=⟨m,by rw[decide_eq_false (show¬(r:Int)<0 by omega)],by rw[Int.natAbs_natCast];exact h.mag⟩
end Go.Proofs.YtaamkfajnpobfaaGreat
namespace Go.Proofs.YtaamkfajnpobfaaGreat
open Go.RowKit
def prR (u d k:Nat):List Nat:=(prB u d k).reverse
theorem refPrint_any (n:Int)(d:Nat)(w:World)(hn:I64 n)(hd:d≤9):
  Calls Tryz.prog 117 #[.int .i64 n, .int .i64 (d:Int)] w fun e w'=>(∃N,Rounds n.natAbs d N∧N≤20∧e= .returned (.string (strOf (printed n d N))))∧Grow w w':=by
 have bel:=Below.refl w.heap.size w
 have hu:n.natAbs≤9223372036854775808:=by have:=hn.1;have:=hn.2;omega
 have hn1:=hn.1
 have hn2:=hn.2
 refine Zs 47 Tryz.func117 ?_
 refine Zsr ?_
 refine Za ?_
 refine Zk3 0 1 4 (Ztq ?_)
 refine Zm ?_
 refine Zv (Runs.convI rfl rfl Tryz.underlying2 Tryz.underlying162 rfl) ?_
 refine Za ?_
 refine Zk4 0 1 4 5 (Zt ?_)
 refine Cd.seqJ (σ:=Unit) (fun _=>[(0, .int .i64 n),(1, .int .i64 (d:Int)),(5, .int .u64 (n.natAbs:Int))]) (fun _ wr=>Below w.heap.size w wr) ?_ ?_
 ·skip
  refine Zsr ?_
  refine Zm ?_
  refine Zv (Runs.lss rfl rfl rfl) ?_
  refine Zk5 0 1 4 5 11 (Zt ?_)
  refine Cd.condD rfl (fun hc=> ?_) (fun hc=> ?_)
  ·skip
   refine Zr ?_
   refine Zm ?_
   refine Zv (Runs.neg rfl rfl (r:=(n.natAbs:Int)) (by rw[wrap_u64,wrap_u64];omega)) ?_
   refine Za ?_
   refine Zk5 0 1 4 5 11 ?_
   exact Post.join () ⟨rfl,rfl,rfl,trivial⟩ bel
  ·skip
   refine Cd.skip ?_
   refine Post.join () ⟨rfl,rfl,?_,trivial⟩ bel
   refine congrArg (fun z=>some (Value.int .u64 z)) ?_
   rw[wrap_u64];omega
 clear bel
 rintro⟨⟩ wr bel
 refine Zsr ?_
 refine Za ?_
 refine Zk4 0 1 5 6 (Zts (Zsr ?_))
 refine Za ?_
 refine Zk5 0 1 5 6 7 (Zt (Cd.block ?_))
 generalize hun:n.natAbs=u at *
 refine Cd.loop (σ:=Nat) (fun k=>[(0, .int .i64 n),(1, .int .i64 (d:Int)),(5, .int .u64 ((u/10^k:Nat):Int)),(6, .string (strOf (prR u d k))),(7, .int .i64 (k:Int))])
  (fun k wr=>k≤20∧Below w.heap.size w wr∧∀j,j<k→0<u/10^j∨j≤d) (fun k=>20-k) 0 ⟨by omega,bel,fun j hj=>absurd hj (by simp)⟩ ⟨rfl,rfl,congrArg (fun x:Nat=>some (Value.int .u64 (x:Int))) (show u=u/10^0 by simp),rfl,rfl,trivial⟩ ?_
 clear bel
 rintro k wr ⟨hk,bel,hgo⟩
 refine Cd.seq (Zsr ?_)
 refine Zm ?_
 refine Zm ?_
 refine Zv (Runs.leq rfl rfl rfl) ?_
 refine Zm ?_
 refine SeqC.start ?_
 refine Zco (fun hcx=>Runs.move rfl rfl) ?_
 refine SeqC.next rfl rfl rfl rfl rfl rfl rfl (fun hcx=>Runs.gtr rfl rfl rfl) ?_
 refine SeqC.or rfl rfl rfl rfl rfl rfl rfl ?_
 refine Zk6 0 1 5 6 7 20 (Zt ?_)
 have hlen:=prB_len u d k
 have hdk:u/10^k≤u:=Nat.div_le_self _ _
 have hdt:=div_ten u k
 have hpr:prB u d (k+1)=prB u d k++(if k=d∧0<d then [46] else [])++[48+u/10^k%10]:=rfl
 generalize hq:u/10^k=q at *
 refine Cd.cond rfl (fun hc=> ?_) (fun hc=> ?_)
 ·have hgo1:0<q∨k≤d:=by simp at hc;omega
  have hk20:k<20:=by
   rcases Nat.lt_or_ge k 20 with h|h
   ·exact h
   ·obtain rfl:k=20:=by omega
    have:u/10^20=0:=Nat.div_eq_of_lt (by omega)
    omega
  have hgo2:∀j,j<k+1→0<u/10^j∨j≤d:=fun j hj=>by
   rcases Nat.lt_or_ge j k with h|h
   ·exact hgo j h
   ·obtain rfl:j=k:=by omega
    rw[hq];exact hgo1
  refine Cd.skip (Zts (Cd.block ?_))
  refine Cd.seqJ (σ:=Unit) (fun _=>[(0, .int .i64 n),(1, .int .i64 (d:Int)),(5, .int .u64 (q:Int)),(6, .string (strOf ((prB u d k++if k=d∧0<d then [46] else []).reverse))),(7, .int .i64 (k:Int))]) (fun _ wr=>Below w.heap.size w wr) ?_ ?_
  ·skip
   refine Zsr ?_
   refine Zm ?_
   refine Zm ?_
   refine Zv (Runs.eqlI rfl rfl rfl) ?_
   refine Zm ?_
   refine SeqC.start ?_
   refine Zco (fun hcx=>Runs.move rfl rfl) ?_
   refine SeqC.next rfl rfl rfl rfl rfl rfl rfl (fun hcx=>Runs.gtr rfl rfl rfl) ?_
   refine SeqC.and rfl rfl rfl rfl rfl rfl rfl ?_
   refine Zk7 0 1 5 6 7 20 29 (Zt ?_)
   refine Cd.cond rfl (fun hp=> ?_) (fun hp=> ?_)
   ·rw[if_pos (by simp at hp;omega)]
    have hl1: [46].length+(prR u d k).length≤9223372036854775807:=by unfold prR;rw[List.length_reverse];simp;omega
    refine Zr ?_
    refine Zm ?_
    refine Zv (Runs.addL (a:=[46]) (b:=prR u d k) rfl rfl rfl hl1) ?_
    refine Za ?_
    refine Zk7 0 1 5 6 7 20 29 ?_
    exact Post.join () ⟨rfl,rfl,rfl,by rw[List.reverse_append];rfl,rfl,trivial⟩ bel
   ·rw[if_neg (by simp at hp;omega)]
    refine Cd.skip ?_
    exact Post.join () ⟨rfl,rfl,rfl,by rw[List.append_nil];rfl,rfl,trivial⟩ bel
  clear bel hc
  rintro⟨⟩ wr bel
  have hl2:(prB u d k++if k=d∧0<d then [46] else []).length≤2*k+1:=by rw[List.length_append];split<;>simp<;>omega
  generalize prB u d k++(if k=d∧0<d then [46] else [])=pre at *
  have hl3: [48+q%10].length+pre.reverse.length≤9223372036854775807:=by rw[List.length_reverse];simp;omega
  have hpr2:prR u d (k+1)=[48+q%10]++pre.reverse:=by unfold prR;rw[hpr,List.reverse_append];rfl
  refine Zsr ?_
  refine Zm ?_
  refine Zv (Runs.remL 10 rfl rfl rfl rfl (by omega)) ?_
  refine Zv (Runs.addU rfl rfl rfl (by omega) (by omega)) ?_
  refine Zv (Runs.convI rfl rfl Tryz.underlying162 Tryz.underlying5 (wrapB (by omega) (by omega))) ?_
  refine Seq.slice (vs:=[_]) (s:=1) rfl rfl rfl Tryz.underlying125 (by kernel_rfl) (zero_uint8) (by omega) (by omega) ⟨rfl,trivial⟩ rfl rfl rfl ?_
  intro g36 w1 n36
  have e36:=Nat.le_trans bel.size n36.ge
  replace bel:=bel.step n36.below
  have k36:=n36.blk
  have hrd:=Reads.blk (size:=1) k36 1 rfl
  refine Zv (Runs.convBS (l:=[48+q%10]) rfl rfl Tryz.underlying125 Tryz.underlying5 Tryz.underlying9 hrd (fun x hx=>by simp at hx;omega)) ?_
  refine Zm ?_
  refine Zv (Runs.addL (a:=[48+q%10]) (b:=pre.reverse) rfl rfl rfl hl3) ?_
  refine Za ?_
  refine Zk5 0 1 5 6 7 (Ztr ?_)
  refine Zm ?_
  refine Zv (Runs.quoLU 10 rfl rfl rfl rfl (by omega) (by omega)) ?_
  refine Za ?_
  refine Zk5 0 1 5 6 7 (Post.block_normal (Ztr ?_))
  refine Zm ?_
  refine Za_ ?_
  refine Za ?_
  refine Zk5 0 1 5 6 7 ?_
  refine Post.round (k+1) ⟨rfl,rfl,congrArg (fun x:Nat=>some (Value.int .u64 (x:Int))) hdt,?_,rfl,trivial⟩ ⟨by omega,bel,hgo2⟩ (by omega)
  rw[hpr2];rfl
 ·have hstop:Rounds u d k:=⟨hgo,by rw[hq];simp at hc;omega⟩
  have hl1: [45].length+(prR u d k).length≤9223372036854775807:=by unfold prR;rw[List.length_reverse];simp;omega
  refine Cd.exit (Post.then_exit (Post.round_exit (Post.block_exit (Zts (Zsr ?_)))))
  refine Zm ?_
  refine Zv (Runs.lss rfl rfl rfl) ?_
  refine Zk7 0 1 5 6 7 20 43 (Zt ?_)
  refine Cd.condD rfl (fun hp=> ?_) (fun hp=> ?_)
  ·have hprd:printed n d k=[45]++prR u d k:=by unfold printed prR;rw[hun,if_pos hp,List.reverse_append];rfl
   refine Zsr ?_
   refine Zm ?_
   refine Zv (Runs.addL (a:=[45]) (b:=prR u d k) rfl rfl rfl hl1) ?_
   refine Za ?_
   refine Zk8 0 1 4 5 6 7 20 43 (Zt (Cd.ret (Post.then_ret ?_)))
   refine Post.end1 rfl rfl (.inl rfl) ?_
   exact⟨⟨k,hstop,by omega,by rw[hprd]⟩,bel⟩
  ·have hprd:printed n d k=prR u d k:=by unfold printed prR;rw[hun,if_neg hp,List.append_nil]
   refine Cd.skip (Ztq ?_)
   refine Zm ?_
   refine Za ?_
   refine Zk8 0 1 4 5 6 7 20 43 (Zt (Cd.ret ?_))
   refine Post.end1 rfl rfl (.inl rfl) ?_
   exact⟨⟨k,hstop,by omega,by rw[hprd]⟩,bel⟩
end Go.Proofs.YtaamkfajnpobfaaGreat
namespace Go.Proofs.YtaamkfajnpobfaaGreat
open Go.RowKit
theorem rounds_uniq {u d N M:Nat}(h:Rounds u d N)(k:Rounds u d M):N=M:=by
 rcases Nat.lt_trichotomy N M with h1|h1|h1
 ·exact absurd (k.1 N h1) h.2
 ·exact h1
 ·exact absurd (h.1 M h1) k.2
theorem rounds_least (u d:Nat):∀n,¬(0<u/10^n∨n≤d)→∃N,N≤n∧Rounds u d N:=by
 intro n
 induction n using Nat.strongRecOn with
 |_ n ih=>
  intro hn
  by_cases h:∀j,j<n→0<u/10^j∨j≤d
  ·exact⟨n,Nat.le_refl _,h,hn⟩
  ·have:∃j,j<n∧¬(0<u/10^j∨j≤d):=by
    apply Classical.byContradiction
    intro h2
    exact h fun j hj=>Classical.byContradiction fun h3=>h2 ⟨j,hj,h3⟩
   obtain⟨j,hj,hp⟩:=this
   obtain⟨N,h1,h2⟩:=ih j hj hp
   exact⟨N,by omega,h2⟩
theorem rounds_ex (u d:Nat)(hu:u≤9223372036854775808)(hd:d≤9):∃N,N≤19∧Rounds u d N:=
 rounds_least u d 19 (by rintro(h|h)
                         ·have:u/10^19=0:=Nat.div_eq_of_lt (by omega)
                          omega
                         ·omega)
theorem refPrint_N (n:Int)(d N:Nat)(w:World)(hn:I64 n)(hd:d≤9)(hN:Rounds n.natAbs d N):
  Calls Tryz.prog 117 #[.int .i64 n, .int .i64 (d:Int)] w fun e w'=>e= .returned (.string (strOf (printed n d N)))∧Grow w w':=
 (refPrint_any n d w hn hd).mono fun e w' ⟨⟨M,hM,_,he⟩,hb⟩=>⟨by rw[he,rounds_uniq hM hN],hb⟩
theorem printed_lt (n:Int)(d N:Nat):∀x∈printed n d N,x<256:=by
 intro x hx
 unfold printed at hx
 rw[List.mem_reverse] at hx
 rcases List.mem_append.1 hx with hx|hx
 ·exact prB_lt _ _ _ x hx
 ·split at hx
  ·simp at hx;omega
  ·simp at hx
theorem form_len {l:List Nat}{d:Nat}{y:Int}{F B:List Nat}(h:Form l d y F B)(hy:I64 y)(hd:d≤9):l.length≤30:=by
 obtain⟨N,hN,-,hN2⟩:=printed_of_form h
 unfold I64 at hy
 obtain⟨M,hM,hM2⟩:=rounds_ex y.natAbs d (by omega) hd
 have:=rounds_uniq hN hM2
 have hb:=h.len
 rw[h.eq]
 unfold FormL
 rw[List.length_append,List.length_append]
 have h1:(if y<0 then [45] else []:List Nat).length≤1:=by split<;>simp
 have h2:(if 0<d then 46::B else []:List Nat).length≤1+d:=by split<;>simp;omega
 omega
theorem valS_big (l:List Nat)(k:Nat)(hl:l.length≤30)(hk:k≤l.length):valS (l.take k)<1000000000000000000000000000000:=by
 have h1:=valS_lt l k
 have h2:10^k≤10^30:=Nat.pow_le_pow_right (by omega) (by omega)
 omega
theorem head_at (l:List Nat):(l.head? =some 45)↔(0<l.length∧l.getD 0 0=45):=by
 cases l with
 |nil=>simp
 |cons c l=>simp
set_option maxHeartbeats 1000000 in
theorem refAmount_any (l:List Nat)(d:Int)(w:World)(hl:∀x∈l,x<256)(hd:I64 d):
  Calls Tryz.prog 62 #[.string (strOf l), .int .i64 d] w fun e w'=>∃x b,e= .returned (.tuple #[.int .i64 x, .bool b])∧AmtA l d x b∧Grow w w':=by
 have bel:=Below.refl w.heap.size w
 refine Zs 73 Tryz.func62 ?_
 refine Zsr ?_
 refine Za ?_
 refine Za ?_
 refine Zk4 0 1 4 5 (Zts (Zsr ?_))
 refine Zm ?_
 refine Zv (Runs.lss rfl rfl rfl) ?_
 refine Zm ?_
 refine SeqC.start ?_
 refine Zco (fun hcx=>Runs.move rfl rfl) ?_
 refine SeqC.next rfl rfl rfl rfl rfl rfl rfl (fun hcx=>Runs.gtr rfl rfl rfl) ?_
 refine SeqC.or rfl rfl rfl rfl rfl rfl rfl ?_
 refine Zm ?_
 refine SeqC.start ?_
 refine Zco (fun hcx=>Runs.move rfl rfl) ?_
 refine SeqC.next rfl rfl rfl rfl rfl rfl rfl (fun hcx=>Runs.lenL rfl rfl Tryz.underlying9) ?_
 refine SeqC.next rfl rfl rfl rfl rfl rfl rfl (fun hcx=>Runs.gtr rfl rfl rfl) ?_
 refine SeqC.or rfl rfl rfl rfl rfl rfl rfl ?_
 refine Zk5 0 1 4 5 20 (Zt ?_)
 refine Cd.cond rfl (fun h=> ?_) (fun h=> ?_)
 ·skip
  refine Zsr ?_
  refine Za ?_
  refine Za ?_
  refine Zk5 0 1 4 5 20 (Zt (Cd.ret (Post.then_ret ?_)))
  refine Post.end2 rfl rfl rfl (.inl rfl) ?_
  refine⟨0,false,rfl,⟨fun h=>(by cases h),fun _=>⟨rfl,fun h1 h2 y hy F B hf=> ?_⟩⟩,bel⟩
  have:=form_len hf hy (by omega)
  simp at h
  omega
 obtain⟨D,rfl⟩:∃D:Nat,d=(D:Int):=⟨d.toNat,by simp at h;omega⟩
 have hD:D≤9:=by simp at h;omega
 have hlen:l.length≤30:=by simp at h;omega
 clear h
 have hno:(∀y,I64 y→∀F B,¬Form l D y F B)→AmtA l (D:Int) 0 false:=fun h=>⟨fun h=>(by cases h),fun _=>⟨rfl,fun _ _=>by rw[Int.toNat_natCast];exact h⟩⟩
 refine Cd.skip (Ztq ?_)
 refine Zv (Runs.build rfl rfl (run_build_Big0 _)) ?_
 refine Zl zero_debentureref01_Big ?_
 intro g6 w1 n6
 have e6:=Nat.le_trans bel.size n6.ge
 replace bel:=bel.step n6.below
 have k6:=n6.blk
 refine Zo 2 k6 ?_
 intro w2 pw2
 replace bel:=bel.put k6 pw2 e6
 replace k6:=pw2.blk
 refine Zk6 0 1 4 5 6 20 (Zts (Zsr ?_))
 refine Za ?_
 refine Zk7 0 1 4 5 6 7 20 (Zt (Cd.block ?_))
 have hm0:MagU w2 (.slice none 0 0) 0:=⟨MagR.zero _⟩
 refine Cd.loop (σ:=Nat × Value) (fun s=>[(0, .string (strOf l)),(1, .int .i64 (D:Int)),(6, .pointer (some ⟨g6,0,none⟩)),(7, .int .i64 (s.1:Int))])
  (fun s wr=>s.1≤l.length∧Below w.heap.size w wr∧MagU wr s.2 (valS (l.take s.1))∧Blk wr g6 154 #[.bool false,s.2]) (fun s=>l.length-s.1) (0, .slice none 0 0) ⟨Nat.zero_le _,bel,by simpa[valS] using hm0,k6⟩ ⟨rfl,rfl,rfl,rfl,trivial⟩ ?_
 clear bel k6
 rintro⟨k,m⟩ wr ⟨hk,bel,hm,k6⟩
 dsimp only at hk hm k6⊢
 have hbig:=valS_big l k hlen hk
 refine Cd.seq (Zsr ?_)
 refine Zm ?_
 refine Zm ?_
 refine Zv (Runs.lenL rfl rfl Tryz.underlying9) ?_
 refine Zv (Runs.lss rfl rfl rfl) ?_
 refine Zk5 0 1 6 7 25 (Zt ?_)
 refine Cd.condD rfl (fun hc=> ?_) (fun hc=> ?_)
 ·obtain⟨c,hc⟩:∃c,l[k]? =some c:=⟨_,List.getElem?_eq_getElem (show k<l.length by omega)⟩
  have hc256:=hl c (List.mem_of_getElem? hc)
  have htk:l.take (k+1)=l.take k++[c]:=by rw[List.take_add_one,hc];rfl
  have hvs:valS (l.take (k+1))=if 48≤c∧c≤57 then 10*valS (l.take k)+(c-48) else valS (l.take k):=by rw[htk,valS_snoc]
  generalize hV:valS (l.take k)=V at *
  refine Cd.skip (Zts (Cd.block (Zsr ?_)))
  refine Zm ?_
  refine Zm ?_
  refine Zv (Runs.indexL (l:=l) (j:=k) rfl rfl rfl Tryz.underlying9 rfl hc hc256) ?_
  refine Zv (Runs.geq rfl rfl rfl) ?_
  refine Zm ?_
  refine SeqC.start ?_
  refine Zco (fun hcx=>Runs.move rfl rfl) ?_
  refine SeqC.next rfl rfl rfl rfl rfl rfl rfl (fun hcx=>Runs.move rfl rfl) ?_
  refine SeqC.next rfl rfl rfl rfl rfl rfl rfl (fun hcx=>Runs.indexL (l:=l) (j:=k) rfl rfl rfl Tryz.underlying9 rfl hc hc256) ?_
  refine SeqC.next rfl rfl rfl rfl rfl rfl rfl (fun hcx=>Runs.leq rfl rfl rfl) ?_
  refine SeqC.and rfl rfl rfl rfl rfl rfl rfl ?_
  refine Zk6 0 1 6 7 25 37 (Zt ?_)
  refine Cd.cond rfl (fun h=> ?_) (fun h=> ?_)
  ·have hcd:48≤c∧c≤57:=by simp at h;omega
   rw[if_pos hcd] at hvs
   clear h
   refine Cd.draw 10 (by kernel_rfl) [] (.inl rfl) rfl Grow Grow.refl (fun _ _ _=>Grow.trans) ?_
   intro w3 hw3 zw3
   replace bel:=bel.step hw3
   replace k6:=k6.step hw3
   replace hm:=hm.step hw3
   have zbel:=bel.size
   have zlt:=k6.lt
   refine Zd (fun w hG=>Runs.loadW rfl rfl Tryz.underlying154 rfl (k6.step hG) (m:=2) (by kernel_rfl) rfl) ?_
   refine Dr.call (Φ:=fun u w=>BigR w u 10) rfl (fun w=>Ze Tryz.func114) rfl (BigR.stable _) (fun w hG=>of_big 10 _ (by omega) (by omega)) ?_
   refine Dr.call1 (j:=1) (Φ:=fun u w=>BigR w u ((V:Int)*10)) rfl rfl rfl (fun u w=>Ze Tryz.func113) rfl (BigR.stable _) (fun u w hG hu=>times_grow _ u (V:Int) 10 _ (hm.step hG).big hu (big_of (by omega)) (big_of (by omega))) ?_
   refine Zdm ?_
   refine Zdm ?_
   refine Zd (fun w hG=>Runs.indexL (l:=l) (j:=k) rfl rfl rfl Tryz.underlying9 rfl hc hc256) ?_
   refine Zd (fun w hG=>Runs.subW rfl rfl rfl (wrapB (by omega) (by omega))) ?_
   refine Zd (fun w hG=>Runs.convI rfl rfl Tryz.underlying5 Tryz.underlying2 (wrapI (by omega) (by omega))) ?_
   refine Dr.call (Φ:=fun u w=>BigR w u ((c:Int)-48)) rfl (fun w=>Ze Tryz.func114) rfl (BigR.stable _) (fun w hG=>of_big ((c:Int)-48) _ (by omega) (by omega)) ?_
   refine Dr.call2 (j:=2) (j':=8) (Φ:=fun u w=>BigR w u ((V:Int)*10+((c:Int)-48))) rfl rfl rfl rfl rfl (fun u u' w=>Ze Tryz.func112) rfl (BigR.stable _) (fun u u' w hG hu hu'=>plus_big _ _ ((V:Int)*10) ((c:Int)-48) _ hu hu' (big_of (by omega)) (big_of (by omega))) ?_
   refine Dr.nil ?_
   refine FinX.open (j:=9) rfl ?_
   intro u9
   refine FinX.done (F':=[(0,_),(1,_),(6,_),(7,_),(25,_),(37,_),(47,_)]) rfl ⟨rfl,rfl,rfl,rfl,rfl,rfl,rfl,trivial⟩ ?_
   intro w4 hw4 fw4
   replace bel:=bel.step hw4
   replace k6:=k6.step hw4
   replace hm:=hm.step hw4
   obtain⟨-,h9⟩:=(by assumption:True∧BigR _ _ ((V:Int)*10+((c:Int)-48)))
   rw[show((V:Int)*10+((c:Int)-48))=((valS (l.take (k+1)):Nat):Int) by omega] at h9
   obtain⟨mr,e9,omr,hmr⟩:=h9.agg
   rw[decide_eq_false (show¬((valS (l.take (k+1)):Nat):Int)<0 by omega)] at e9
   subst e9
   rw[Int.natAbs_natCast] at hmr
   have hmr:MagU _ mr (valS (l.take (k+1))):=⟨hmr⟩
   have hni:=hm.mag.ni
   refine Zo 2 k6 ?_
   intro w5 pw5
   replace bel:=bel.put k6 pw5 e6
   replace hmr:=hmr.put k6 pw5 e6
   replace k6:=pw5.blk
   refine Zk6 0 1 6 7 25 37 (Post.block_normal (Ztr ?_))
   refine Zm ?_
   refine Za_ ?_
   refine Za ?_
   refine Zk6 0 1 6 7 25 37 ?_
   exact Post.round (k+1,mr) ⟨rfl,rfl,rfl,rfl,trivial⟩ ⟨by dsimp only;omega,bel,hmr,k6⟩ (by dsimp only;omega)
  ·rw[if_neg (by simp at h;omega)] at hvs
   refine Cd.skip (Post.block_normal (Ztr ?_))
   refine Zm ?_
   refine Za_ ?_
   refine Za ?_
   refine Zk6 0 1 6 7 25 37 ?_
   exact Post.round (k+1,m) ⟨rfl,rfl,rfl,rfl,trivial⟩ ⟨by dsimp only;omega,bel,by dsimp only;rw[hvs];exact hm,k6⟩ (by dsimp only;omega)
 ·obtain rfl:k=l.length:=by omega
  rw[List.take_of_length_le (Nat.le_refl _)] at hm hbig
  have hni:=hm.mag.ni
  have hsz:(signZ l).natAbs=valS l:=by unfold signZ;split<;>omega
  have hh:=head_at l
  have hl0:0<l.length→l[0]? =some (l.getD 0 0):=by
   intro h
   cases l with
   |nil=>simp at h
   |cons c l=>rfl
  have hl1:l.getD 0 0<256:=by
   cases l with
   |nil=>simp
   |cons c l=>exact hl c (by simp)
  generalize l.getD 0 0=c0 at *
  refine Cd.exit (Post.then_exit (Post.round_exit (Post.block_exit (Zt ?_))))
  refine Cd.seqJ (σ:=Value) (fun _=>[(0, .string (strOf l)),(1, .int .i64 (D:Int)),(6, .pointer (some ⟨g6,0,none⟩))]) (fun m' wr=>Below w.heap.size w wr∧MagU wr m' (signZ l).natAbs∧Blk wr g6 154 #[.bool (decide (signZ l<0)),m']) ?_ ?_
  ·skip
   refine Zsr ?_
   refine Zm ?_
   refine Zv (Runs.lenL rfl rfl Tryz.underlying9) ?_
   refine Zv (Runs.gtr rfl rfl rfl) ?_
   refine Zm ?_
   refine SeqC.start ?_
   refine Zco (fun hcx=>Runs.move rfl rfl) ?_
   refine SeqC.next rfl rfl rfl rfl rfl rfl rfl (fun hcx=>Runs.indexL (l:=l) (j:=0) (c:=c0) rfl rfl rfl Tryz.underlying9 rfl (hl0 (by simp at hcx;omega)) hl1) ?_
   refine SeqC.next rfl rfl rfl rfl rfl rfl rfl (fun hcx=>Runs.eqlI rfl rfl rfl) ?_
   refine SeqC.and rfl rfl rfl rfl rfl rfl rfl ?_
   refine Zk6 0 1 6 7 25 55 (Zt ?_)
   refine Cd.cond rfl (fun h=> ?_) (fun h=> ?_)
   ·have hs:signZ l= -(valS l:Int):=by unfold signZ;rw[if_pos (hh.2 (by simp at h;exact⟨by omega,by omega⟩))]
    refine Zr ?_
    refine Zv (Runs.loadW rfl rfl Tryz.underlying154 rfl k6 (m:=2) (by kernel_rfl) rfl) ?_
    refine Zc (Ze Tryz.func115) (minus_big _ (valS l:Int) _ hm.big (big_of (by omega))) ?_
    rintro e w7 ⟨v7,rfl,hb7,hv7⟩
    refine⟨_,rfl,?_⟩
    rw[←hs] at hv7
    obtain⟨mr,rfl,omr,hmr⟩:=hv7.agg
    have hmr:MagU _ mr (signZ l).natAbs:=⟨hmr⟩
    replace bel:=bel.step hb7
    replace k6:=k6.step hb7
    replace hm:=hm.step hb7
    refine Zo 2 k6 ?_
    intro w3 pw3
    replace bel:=bel.put k6 pw3 e6
    replace hmr:=hmr.put k6 pw3 e6
    replace k6:=pw3.blk
    refine Zk6 0 1 6 7 25 55 ?_
    exact Post.join mr ⟨rfl,rfl,rfl,trivial⟩ ⟨bel,hmr,k6⟩
   ·have hs:signZ l=(valS l:Int):=by
     unfold signZ
     rw[if_neg]
     intro h2
     have:=hh.1 h2
     simp at h
     omega
    have hdf:decide (signZ l<0)=false:=decide_eq_false (by omega)
    refine Cd.skip ?_
    exact Post.join m ⟨rfl,rfl,rfl,trivial⟩ ⟨bel,by rw[hsz];exact hm,by rw[hdf];exact k6⟩
  clear bel k6 hm
  rintro m' wr' ⟨bel,hm,k6⟩
  have hzb:(signZ l).natAbs<big:=by rw[hsz];exact big_of (by omega)
  have hsbd:=smallOf_bd (signZ l)
  refine Zsr ?_
  refine Zv (Runs.loadW rfl rfl Tryz.underlying154 rfl k6 (m:=2) (by kernel_rfl) rfl) ?_
  refine Zc (Ze Tryz.func116) (small_big' _ (signZ l) _ ⟨_,rfl,hm.mag⟩ hzb) ?_
  rintro e w8 ⟨rfl,hb8⟩
  refine⟨_,rfl,?_⟩
  replace bel:=bel.step hb8
  replace k6:=k6.step hb8
  replace hm:=hm.step hb8
  obtain⟨N,hN19,hN⟩:=rounds_ex (smallOf (signZ l)).natAbs D (by omega) hD
  refine Zm ?_
  refine Zv (Runs.extract rfl rfl rfl) ?_
  refine Zv (Runs.extract rfl rfl rfl) ?_
  refine Za ?_
  refine Za ?_
  refine Zk5 0 1 6 8 9 (Zts (Zsr ?_))
  refine Zm ?_
  refine Zv (Runs.not rfl rfl) ?_
  refine Zm ?_
  refine SeqC.start ?_
  refine Zco (fun hcx=>Runs.move rfl rfl) ?_
  refine SeqC.next rfl rfl rfl rfl rfl rfl rfl (fun hcx=>Runs.move rfl rfl) ?_
  refine SeqC.nextC rfl rfl rfl rfl rfl rfl rfl (fun hcx=>Ze Tryz.func117) (fun hcx=>refPrint_N (smallOf (signZ l)) D N _ ⟨hsbd.1,hsbd.2⟩ hD hN) ?_
  intro w3 hw3
  replace bel:=bel.step hw3
  replace k6:=k6.step hw3
  replace hm:=hm.step hw3
  refine SeqC.next rfl rfl rfl rfl rfl rfl rfl (fun hcx=>Runs.move rfl rfl) ?_
  refine SeqC.next rfl rfl rfl rfl rfl rfl rfl (fun hcx=>Runs.neqL (a:=printed (smallOf (signZ l)) D N) (b:=l) rfl rfl rfl (printed_lt _ _ _) hl) ?_
  refine SeqC.or rfl rfl rfl rfl rfl rfl rfl ?_
  refine Zk6 0 1 6 8 9 71 (Zt ?_)
  refine Cd.cond rfl (fun h=> ?_) (fun h=> ?_)
  ·have hnf:∀y,I64 y→∀F B,¬Form l D y F B:=by
    intro y hy F B hf
    have h1:=signZ_form hf
    have h2:fits (signZ l)=true:=by rw[h1];exact fits_of hy.1 hy.2
    have h3:smallOf (signZ l)=y:=by unfold smallOf;rw[h2,if_pos rfl,h1]
    obtain⟨M,hM,hM2,-⟩:=printed_of_form hf
    rw[h3] at hN h
    rw[h2,←rounds_uniq hM hN,←hM2] at h
    simp at h
   refine Zsr ?_
   refine Za ?_
   refine Za ?_
   refine Zk8 0 1 4 5 6 8 9 71 (Zt (Cd.ret (Post.then_ret ?_)))
   refine Post.end2 rfl rfl rfl (.inl rfl) ?_
   exact⟨0,false,rfl,hno hnf,bel⟩
  ·have hy2:fits (signZ l)=true∧printed (smallOf (signZ l)) D N=l:=by
    cases hf:fits (signZ l) with
    |false=>rw[hf] at h;simp at h
    |true=>rw[hf] at h;simp at h;exact⟨rfl,h⟩
   obtain⟨F,B,hfm⟩:=form_of_printed (smallOf (signZ l)) D N hN
   rw[hy2.2] at hfm
   refine Cd.skip (Ztq ?_)
   refine Zm ?_
   refine Za ?_
   refine Za ?_
   refine Zk8 0 1 4 5 6 8 9 71 (Zt (Cd.ret ?_))
   refine Post.end2 rfl rfl rfl (.inl rfl) ?_
   exact⟨_,true,rfl,⟨fun _=>⟨by omega,by omega,⟨hsbd.1,hsbd.2⟩,F,B,by rw[Int.toNat_natCast];exact hfm⟩,fun h=>(by cases h)⟩,bel⟩
end Go.Proofs.YtaamkfajnpobfaaGreat
namespace Go.Proofs.YtaamkfajnpobfaaGreat
open Go.RowKit
theorem digits_any (v n:Nat)(w:World)(hv:v≤100000)(hn:n≤9):Calls Tryz.prog 145 #[.int .i64 (v:Int), .int .i64 (n:Int)] w fun e w'=>e= .returned (.string (strOf (digR v n)))∧Grow w w':=by
 have bel:=Below.refl w.heap.size w
 refine Zs 23 Tryz.func145 ?_
 refine Zsr ?_
 refine Za ?_
 refine Zk3 0 1 4 (Ztq ?_)
 refine Za ?_
 refine Zk4 0 1 4 5 (Zts (Zsr ?_))
 refine Za ?_
 refine Zk5 0 1 4 5 6 (Zt (Cd.block ?_))
 refine Cd.loop (σ:=Nat) (fun k=>[(0, .int .i64 ((v/10^k:Nat):Int)),(1, .int .i64 (n:Int)),(5, .string (strOf (digR v k))),(6, .int .i64 (k:Int))])
  (fun k wr=>k≤n∧Below w.heap.size w wr) (fun k=>n-k) 0 ⟨Nat.zero_le _,bel⟩ ⟨congrArg (fun x:Nat=>some (Value.int .i64 (x:Int))) (show v=v/10^0 by simp),rfl,rfl,rfl,trivial⟩ ?_
 clear bel
 rintro k wr ⟨hk,bel⟩
 have hdk:v/10^k≤v:=Nat.div_le_self _ _
 have hdt:v/10^k/10=v/10^(k+1):=by rw[Nat.div_div_eq_div_mul,Nat.pow_succ]
 have hdr:digR v (k+1)=(48+v/10^k%10)::digR v k:=rfl
 have hlen:=digR_len v k
 generalize hq:v/10^k=q at *
 refine Cd.seq (Zsr ?_)
 refine Zm ?_
 refine Zm ?_
 refine Zv (Runs.lss rfl rfl rfl) ?_
 refine Zk5 0 1 5 6 9 (Zt ?_)
 refine Cd.condD rfl (fun hc=> ?_) (fun hc=> ?_)
 ·have hl3: [48+q%10].length+(digR v k).length≤9223372036854775807:=by simp;omega
  have hqm:q%10<10:=Nat.mod_lt _ (by omega)
  refine Cd.skip (Zts (Cd.block (Zsr ?_)))
  refine Zm ?_
  refine Zv (Runs.remN rfl rfl rfl (by omega) (by omega)) ?_
  refine Za_ ?_
  refine Zv (Runs.convI rfl rfl Tryz.underlying3 Tryz.underlying5 (wrapB (by omega) (by omega))) ?_
  refine Seq.slice (vs:=[_]) (s:=1) rfl rfl rfl Tryz.underlying125 (by kernel_rfl) (zero_uint8) (by omega) (by omega) ⟨rfl,trivial⟩ rfl rfl rfl ?_
  intro g16 w1 n16
  have e16:=Nat.le_trans bel.size n16.ge
  replace bel:=bel.step n16.below
  have k16:=n16.blk
  rw[show(48+(q:Int)%10)=((48+q%10:Nat):Int) by omega] at k16
  have hrd:=Reads.blk (size:=1) k16 1 rfl
  refine Zv (Runs.convBS (l:=[48+q%10]) rfl rfl Tryz.underlying125 Tryz.underlying5 Tryz.underlying9 hrd (fun x hx=>by simp at hx;omega)) ?_
  refine Zm ?_
  refine Zv (Runs.addL (a:=[48+q%10]) (b:=digR v k) rfl rfl rfl hl3) ?_
  refine Za ?_
  refine Zk5 0 1 5 6 9 (Ztr ?_)
  refine Zm ?_
  refine Zv (Runs.quoI rfl rfl rfl (by omega) (by omega) (by omega)) ?_
  refine Za ?_
  refine Zk5 0 1 5 6 9 (Post.block_normal (Ztr ?_))
  refine Zm ?_
  refine Za_ ?_
  refine Za ?_
  refine Zk5 0 1 5 6 9 ?_
  refine Post.round (k+1) ⟨congrArg (fun x:Int=>some (Value.int .i64 x)) (by rw[←hdt];omega),rfl,by rw[hdr];rfl,rfl,trivial⟩ ⟨by omega,bel⟩ (by omega)
 ·obtain rfl:k=n:=by omega
  refine Cd.exit (Post.then_exit (Post.round_exit (Post.block_exit (Ztq ?_))))
  refine Zm ?_
  refine Za ?_
  refine Zk6 0 1 4 5 6 9 (Zt (Cd.ret ?_))
  refine Post.end1 rfl rfl (.inl rfl) ?_
  exact⟨rfl,bel⟩
theorem refDayPrint_any (y m d:Int)(w:World)(hok:ofOk y m d=true):Calls Tryz.prog 111 #[.int .i64 (ofZ y m d)] w fun e w'=>e= .returned (.string (strOf (printD y.toNat m.toNat d.toNat)))∧Grow w w':=by
 have bel:=Below.refl w.heap.size w
 obtain⟨o1,o2,o3,o4,o5,o6⟩:=ofOk_bd hok
 have ey:y=(y.toNat:Int):=by omega
 have em:m=(m.toNat:Int):=by omega
 have ed:d=(d.toNat:Int):=by omega
 have hciv:=fun W=>refCivil_any y m d W hok
 have hy2:y.toNat≤9999:=by omega
 have hm2:m.toNat≤12:=by omega
 have hd2:d.toNat≤31:=by omega
 have hy1:1970≤y.toNat:=by omega
 generalize ofZ y m d=n at *
 refine Zs 24 Tryz.func111 ?_
 refine Zsr ?_
 refine Za ?_
 refine Zk2 0 2 (Ztq ?_)
 refine Zm ?_
 refine Zc (Ze Tryz.func144) (hciv _) ?_
 rintro e w8 ⟨rfl,hb8⟩
 refine⟨_,rfl,?_⟩
 replace bel:=bel.step hb8
 rw[ey,em,ed]
 generalize y.toNat=Y at *
 generalize m.toNat=M at *
 generalize d.toNat=D at *
 simp only[Int.toNat_natCast]
 refine Zm ?_
 refine Zv (Runs.extract rfl rfl rfl) ?_
 refine Zv (Runs.extract rfl rfl rfl) ?_
 refine Zv (Runs.extract rfl rfl rfl) ?_
 refine Za ?_
 refine Za ?_
 refine Za ?_
 refine Zk5 0 2 3 4 5 (Zts (Zsr ?_))
 refine Zm ?_
 refine Zv (Runs.eqlI rfl rfl rfl) ?_
 refine Zk6 0 2 3 4 5 13 (Zt ?_)
 refine Cd.condF rfl (decide_eq_false (by omega)) ?_
 refine Cd.skip (Ztq ?_)
 refine Zm ?_
 refine Zc (Ze Tryz.func145) (digits_any Y 4 _ (by omega) (by omega)) ?_
 rintro e w9 ⟨rfl,hb9⟩
 refine⟨_,rfl,?_⟩
 replace bel:=bel.step hb9
 refine Zv (Runs.addL (a:=digR Y 4) (b:=[45]) rfl rfl rfl (by rw[digR_len];simp)) ?_
 refine Zm ?_
 refine Zc (Ze Tryz.func145) (digits_any M 2 _ (by omega) (by omega)) ?_
 rintro e w10 ⟨rfl,hb10⟩
 refine⟨_,rfl,?_⟩
 replace bel:=bel.step hb10
 refine Zv (Runs.addL (a:=digR Y 4++[45]) (b:=digR M 2) rfl rfl rfl (by rw[List.length_append,digR_len,digR_len];simp)) ?_
 refine Zv (Runs.addL (a:=digR Y 4++[45]++digR M 2) (b:=[45]) rfl rfl rfl (by rw[List.length_append,List.length_append,digR_len,digR_len];simp)) ?_
 refine Zm ?_
 refine Zc (Ze Tryz.func145) (digits_any D 2 _ (by omega) (by omega)) ?_
 rintro e w11 ⟨rfl,hb11⟩
 refine⟨_,rfl,?_⟩
 replace bel:=bel.step hb11
 refine Zv (Runs.addL (a:=digR Y 4++[45]++digR M 2++[45]) (b:=digR D 2) rfl rfl rfl (by rw[List.length_append,List.length_append,List.length_append,digR_len,digR_len,digR_len];simp)) ?_
 refine Za ?_
 refine Zk6 0 2 3 4 5 13 (Zt (Cd.ret ?_))
 refine Post.end1 rfl rfl (.inl rfl) ?_
 exact⟨rfl,bel⟩
theorem printD_lt (y m d:Nat):∀x∈printD y m d,x<256:=by
 intro x hx
 unfold printD at hx
 simp only[List.mem_append] at hx
 rcases hx with (((h|h)|h)|h)|h
 ·exact digR_lt _ _ x h
 ·simp at h;omega
 ·exact digR_lt _ _ x h
 ·simp at h;omega
 ·exact digR_lt _ _ x h
def idxD (k:Nat):Nat:=if 7<k then 2 else if 4<k then 1 else 0
def rawS (l:List Nat):Nat→List Int
 |0=>[0,0,0]
 |k+1=>if k=4∨k=7 then rawS l k else(rawS l k).set (idxD k) (10*(rawS l k).getD (idxD k) 0+(l.getD k 0:Int)-48)
theorem rawS_len (l:List Nat)(k:Nat):(rawS l k).length=3:=by
 induction k with
 |zero=>rfl
 |succ k ih=>unfold rawS;split;exact ih;simp[ih]
theorem rawS_bd (l:List Nat)(hl:∀x∈l,x<256):∀k,∀x∈rawS l k,250-(10^k*250:Int)≤x∧x≤10^k*250-250:=by
 intro k
 induction k with
 |zero=>intro x hx;simp[rawS] at hx;subst hx;decide
 |succ k ih=>
  have hp:(10:Int)^(k+1)=10*10^k:=by rw[Int.pow_succ];omega
  have hp0:(1:Int)≤10^k:=by
   have:0<(10:Nat)^k:=Nat.pow_pos (by omega)
   have:((10^k:Nat):Int)=(10:Int)^k:=by simp
   omega
  rw[hp]
  intro x hx
  unfold rawS at hx
  split at hx
  ·have:=ih x hx;omega
  ·rcases List.mem_or_eq_of_mem_set hx with h|h
   ·have:=ih x h;omega
   ·have h1:(rawS l k).getD (idxD k) 0∈rawS l k:=by
     have hi:idxD k<(rawS l k).length:=by rw[rawS_len];unfold idxD;split;omega;split<;>omega
     rw[List.getD_eq_getElem?_getD,List.getElem?_eq_getElem hi]
     exact List.getElem_mem hi
    have h2:=ih _ h1
    have h3:l.getD k 0<256:=by
     rcases Nat.lt_or_ge k l.length with h|h
     ·rw[List.getD_eq_getElem?_getD,List.getElem?_eq_getElem h];exact hl _ (List.getElem_mem h)
     ·rw[List.getD_eq_getElem?_getD,List.getElem?_eq_none h];simp
    omega
theorem rawS_ten (l:List Nat)(h:l.length=10):rawS l 10=[rawV (l.take 4),rawV ((l.take 7).drop 5),rawV ((l.take 10).drop 8)]:=by
 obtain⟨c0,c1,c2,c3,c4,c5,c6,c7,c8,c9,rfl⟩:=ten_of h
 rfl
end Go.Proofs.YtaamkfajnpobfaaGreat
