/-
  Texts that were joined: TrmC, TrmD, TrmE, TrmF, TrmG, TrmH, TrmI, TrmJ, TrmK, TrmL, TrmM, TrmN, TrmO, TrmP, ParA, PanA, PanB. Conditions: what each theorem names.
-/
import Derived.Test.YtaamkfajnpobfaaGreatB2
set_option linter.unusedSectionVars false
namespace Go.Proofs.YtaamkfajnpobfaaGreat
open Go.RowKit
theorem indexT_any (g:Nat)(cp:List Value)(p:Tm→Bool)(B:Nat)(A:Option Addr)(c:Nat)(l:List Tm)(w:World)(h60:l.length≤1000)(hv:TmAt w B l A)(hB:B≤w.heap.size)
  (eg:∀args w,(callFunc g args).run Tryz.prog w= .ok (.enter g args) w) (hp:∀x∈l,∀v W,Below w.heap.size w W→RepB W B x v→Calls Tryz.prog g ([]++[v]++cp).toArray W fun en w'=>en= .returned (.bool (p x))∧Grow W w'):
  Calls Tryz.prog 141 #[.slice A l.length c, .func (.func g) #[] cp.toArray] w fun en w'=>en= .returned (.int .i64 (idxP p l))∧Grow w w':=by
 have bel:=Below.refl w.heap.size w
 obtain⟨n,hn⟩:∃n,n=l.length:=⟨_,rfl⟩
 rw[←hn] at h60⊢
 refine Zs 19 Tryz.func141 ?_
 refine Zsr ?_
 refine Za ?_
 refine Zk3 0 1 4 (Zts (Zsr ?_))
 refine Zm ?_
 refine Zv (Runs.len rfl rfl Tryz.underlying23) ?_
 refine Zm ?_
 refine Zk5 0 1 4 7 8 (Zt (Cd.block ?_))
 refine Cd.loop (σ:=Nat) (fun k=>[(0, .slice A n c),(1, .func (.func g) #[] cp.toArray),(7, .int .i64 (n:Int)),(8, .int .i64 (k:Int))])
  (fun k wr=>k≤n∧(∀y∈l.take k,p y=false)∧Below w.heap.size w wr) (fun k=>n-k) 0 ⟨Nat.zero_le _,by simp,bel⟩ ⟨rfl,rfl,rfl,rfl,trivial⟩ ?_
 clear bel
 rintro k wr ⟨hk,hno,bel⟩
 refine Zsr ?_
 refine Zv (Runs.lss rfl rfl rfl) ?_
 refine Zk5 0 1 7 8 9 (Zts ?_)
 refine Cd.condD rfl (fun hc=> ?_) (fun hc=> ?_)
 ·obtain⟨x,hx⟩:∃x,l[k]? =some x:=⟨_,List.getElem?_eq_getElem (show k<l.length by omega)⟩
  obtain⟨ad,A1,A2,c1,c2,rfl,hbl,hrx,hc⟩:=hv k x hx
  have hc:=fun j u hj=>((bel.mono hB).cell (p:=(ad.add (k*4)).add j) (by rw[block_of_add,block_of_add];exact hbl)).trans (hc j u hj)
  have htk:l.take (k+1)=l.take k++[x]:=by rw[List.take_add_one,hx];rfl
  refine Cd.skip (Zts (Cd.block (Zsr ?_)))
  refine Zm ?_
  refine Za ?_
  refine Zk6 0 1 5 7 8 9 (Ztq ?_)
  refine Zm ?_
  refine Zm ?_
  refine Zm ?_
  refine Zv (Runs.indexN rfl rfl rfl Tryz.underlying23 (s:=4) (by kernel_rfl) (j:=k) rfl (by omega)) ?_
  refine Zv (Runs.loadF (ps:=[.int .i64 x.op, .string (strOf x.name), .slice A1 x.exprs.length c1, .slice A2 x.terms.length c2]) rfl rfl Tryz.underlying25 rfl (m:=4) (by kernel_rfl) rfl hc) ?_
  refine Seq.call (Enters.value (first:=[]) (cap:=cp) rfl rfl rfl eg) rfl rfl rfl (hp x (List.mem_of_getElem? hx) _ _ bel (hrx.below (bel.mono hB))) ?_
  rintro en w5 ⟨rfl,hb5⟩
  refine⟨_,rfl,?_⟩
  replace bel:=bel.step hb5
  refine Zk7 0 1 5 7 8 9 16 (Zt ?_)
  refine Cd.cond rfl (fun h=> ?_) (fun h=> ?_)
  ·skip
   refine Zsr ?_
   refine Zm ?_
   refine Za ?_
   refine Zk8 0 1 4 5 7 8 9 16 (Zt (Cd.ret (Post.block_ret (Post.then_ret (Post.round_ret (Post.block_ret (Post.then_ret ?_)))))))
   refine Post.end1 rfl rfl (.inl rfl) ?_
   exact⟨ret1 (int_eq (idxP_some hx h hno).symm),bel⟩
  ·skip
   refine Cd.skip (Post.block_normal (Ztr ?_))
   refine Za_ ?_
   refine Zm ?_
   refine Zk7 0 1 5 7 8 9 16 ?_
   refine Post.round (k+1) ⟨rfl,rfl,rfl,rfl,trivial⟩ ⟨by omega,fun y hy=> ?_,bel⟩ (by omega)
   rw[htk] at hy
   rcases List.mem_append.1 hy with hy|hy
   ·exact hno y hy
   ·simp at hy;subst hy;exact h
 ·obtain rfl:k=n:=by omega
  rw[List.take_of_length_le (by omega)] at hno
  refine Cd.exit (Post.then_exit (Post.round_exit (Post.block_exit (Ztq ?_))))
  refine Za ?_
  refine Zk6 0 1 4 7 8 9 (Zt (Cd.ret ?_))
  refine Post.end1 rfl rfl (.inl rfl) ?_
  exact⟨ret1 (int_eq (idxP_none hno).symm),bel⟩
theorem containsT_any (g:Nat)(cp:List Value)(p:Tm→Bool)(B:Nat)(A:Option Addr)(c:Nat)(l:List Tm)(w:World)(h60:l.length≤1000)(hv:TmAt w B l A)(hB:B≤w.heap.size)
  (eg:∀args w,(callFunc g args).run Tryz.prog w= .ok (.enter g args) w) (hp:∀x∈l,∀v W,Below w.heap.size w W→RepB W B x v→Calls Tryz.prog g ([]++[v]++cp).toArray W fun en w'=>en= .returned (.bool (p x))∧Grow W w'):
  Calls Tryz.prog 108 #[.slice A l.length c, .func (.func g) #[] cp.toArray] w fun en w'=>en= .returned (.bool (l.any p))∧Grow w w':=by
 have bel:=Below.refl w.heap.size w
 have hc:=fun W (hb:Below w.heap.size w W)=>indexT_any g cp p B A c l W h60 (hv.below (hb.mono hB)) (Nat.le_trans hB hb.size) eg (fun x hx v W2 hb2 hr=>hp x hx v W2 (hb.trans (hb2.mono hb.size)) hr)
 have hany:=idxP_any p l
 obtain⟨n,hn⟩:∃n,n=l.length:=⟨_,rfl⟩
 rw[←hn] at hc⊢
 refine Zs 9 Tryz.func108 ?_
 refine Zsr ?_
 refine Za ?_
 refine Zk3 0 1 4 (Ztq ?_)
 refine Zm ?_
 refine Zm ?_
 refine Zc (Ze Tryz.func141) (hc _ bel) ?_
 rintro en w5 ⟨rfl,hb5⟩
 refine⟨_,rfl,?_⟩
 replace bel:=bel.step hb5
 refine Zv (Runs.geq rfl rfl rfl) ?_
 refine Za ?_
 refine Zk3 0 1 4 (Zt (Cd.ret ?_))
 refine Post.end1 rfl rfl (.inl rfl) ?_
 exact⟨ret1 (bool_eq hany),bel⟩
def arT (op:Int):Int × Int:=if op=1∨op=2 then(0,0) else if op=3 then(0,1) else if op=4∨op=5 then(0,2) else if op=6∨op=7∨op=8∨op=9 then(1,1) else(-1,-1)
theorem arities_any (op:Int)(w:World):Calls Tryz.prog 104 #[.int .i64 op] w fun e w'=>e= .returned (.tuple #[.int .i64 (arT op).1, .int .i64 (arT op).2])∧Grow w w':=by
 have bel:=Below.refl w.heap.size w
 refine Zs 18 Tryz.func104 ?_
 by_cases h1:op=1
 ·subst h1
  refine Zsr ?_
  refine Za ?_
  refine Za ?_
  refine Zk3 0 2 3 (Zts (Zsr ?_))
  refine Zm ?_
  refine Zk4 0 2 3 4 (Zt (Cd.block (Cd.seq (Zsr ?_))))
  refine Zv (Runs.eqlI rfl rfl rfl) ?_
  refine Za ?_
  refine Zk5 0 2 3 4 5 (Zt ?_)
  refine Cd.condT rfl rfl ?_
  refine Cd.skip (Zt ?_)
  refine Cd.condT rfl rfl ?_
  refine Zsr ?_
  refine Za ?_
  refine Za ?_
  refine Zk5 0 2 3 4 5 (Zt (Cd.ret (Post.block_ret (Post.then_ret ?_))))
  refine Post.end2 rfl rfl rfl (.inl rfl) ?_
  exact⟨rfl,bel⟩
 ·skip
  by_cases h2:op=2
  ·subst h2
   refine Zsr ?_
   refine Za ?_
   refine Za ?_
   refine Zk3 0 2 3 (Zts (Zsr ?_))
   refine Zm ?_
   refine Zk4 0 2 3 4 (Zt (Cd.block (Cd.seq (Zsr ?_))))
   refine Zv (Runs.eqlI rfl rfl rfl) ?_
   refine Za ?_
   refine Zk5 0 2 3 4 5 (Zt ?_)
   refine Cd.condF rfl rfl ?_
   refine Zr ?_
   refine Zv (Runs.eqlI rfl rfl rfl) ?_
   refine Za ?_
   refine Zk5 0 2 3 4 5 (Zt ?_)
   refine Cd.condT rfl rfl ?_
   refine Zsr ?_
   refine Za ?_
   refine Za ?_
   refine Zk5 0 2 3 4 5 (Zt (Cd.ret (Post.block_ret (Post.then_ret ?_))))
   refine Post.end2 rfl rfl rfl (.inl rfl) ?_
   exact⟨rfl,bel⟩
  ·skip
   by_cases h3:op=3
   ·subst h3
    refine Zsr ?_
    refine Za ?_
    refine Za ?_
    refine Zk3 0 2 3 (Zts (Zsr ?_))
    refine Zm ?_
    refine Zk4 0 2 3 4 (Zt (Cd.block (Cd.seq (Zsr ?_))))
    refine Zv (Runs.eqlI rfl rfl rfl) ?_
    refine Za ?_
    refine Zk5 0 2 3 4 5 (Zt ?_)
    refine Cd.condF rfl rfl ?_
    refine Zr ?_
    refine Zv (Runs.eqlI rfl rfl rfl) ?_
    refine Za ?_
    refine Zk5 0 2 3 4 5 (Zt ?_)
    refine Cd.condF rfl rfl ?_
    refine Zsr ?_
    refine Zv (Runs.eqlI rfl rfl rfl) ?_
    refine Za ?_
    refine Zk6 0 2 3 4 5 8 (Zt ?_)
    refine Cd.condT rfl rfl ?_
    refine Zsr ?_
    refine Za ?_
    refine Za ?_
    refine Zk6 0 2 3 4 5 8 (Zt (Cd.ret (Post.block_ret (Post.then_ret ?_))))
    refine Post.end2 rfl rfl rfl (.inl rfl) ?_
    exact⟨rfl,bel⟩
   ·skip
    by_cases h4:op=4
    ·subst h4
     refine Zsr ?_
     refine Za ?_
     refine Za ?_
     refine Zk3 0 2 3 (Zts (Zsr ?_))
     refine Zm ?_
     refine Zk4 0 2 3 4 (Zt (Cd.block (Cd.seq (Zsr ?_))))
     refine Zv (Runs.eqlI rfl rfl rfl) ?_
     refine Za ?_
     refine Zk5 0 2 3 4 5 (Zt ?_)
     refine Cd.condF rfl rfl ?_
     refine Zr ?_
     refine Zv (Runs.eqlI rfl rfl rfl) ?_
     refine Za ?_
     refine Zk5 0 2 3 4 5 (Zt ?_)
     refine Cd.condF rfl rfl ?_
     refine Zsr ?_
     refine Zv (Runs.eqlI rfl rfl rfl) ?_
     refine Za ?_
     refine Zk6 0 2 3 4 5 8 (Zt ?_)
     refine Cd.condF rfl rfl ?_
     refine Cd.seq (Zsr ?_)
     refine Zv (Runs.eqlI rfl rfl rfl) ?_
     refine Za ?_
     refine Zk7 0 2 3 4 5 8 10 (Zt ?_)
     refine Cd.condT rfl rfl ?_
     refine Cd.skip (Zt ?_)
     refine Cd.condT rfl rfl ?_
     refine Zsr ?_
     refine Za ?_
     refine Za ?_
     refine Zk7 0 2 3 4 5 8 10 (Zt (Cd.ret (Post.block_ret (Post.then_ret ?_))))
     refine Post.end2 rfl rfl rfl (.inl rfl) ?_
     exact⟨rfl,bel⟩
    ·skip
     by_cases h5:op=5
     ·subst h5
      refine Zsr ?_
      refine Za ?_
      refine Za ?_
      refine Zk3 0 2 3 (Zts (Zsr ?_))
      refine Zm ?_
      refine Zk4 0 2 3 4 (Zt (Cd.block (Cd.seq (Zsr ?_))))
      refine Zv (Runs.eqlI rfl rfl rfl) ?_
      refine Za ?_
      refine Zk5 0 2 3 4 5 (Zt ?_)
      refine Cd.condF rfl rfl ?_
      refine Zr ?_
      refine Zv (Runs.eqlI rfl rfl rfl) ?_
      refine Za ?_
      refine Zk5 0 2 3 4 5 (Zt ?_)
      refine Cd.condF rfl rfl ?_
      refine Zsr ?_
      refine Zv (Runs.eqlI rfl rfl rfl) ?_
      refine Za ?_
      refine Zk6 0 2 3 4 5 8 (Zt ?_)
      refine Cd.condF rfl rfl ?_
      refine Cd.seq (Zsr ?_)
      refine Zv (Runs.eqlI rfl rfl rfl) ?_
      refine Za ?_
      refine Zk7 0 2 3 4 5 8 10 (Zt ?_)
      refine Cd.condF rfl rfl ?_
      refine Zr ?_
      refine Zv (Runs.eqlI rfl rfl rfl) ?_
      refine Za ?_
      refine Zk7 0 2 3 4 5 8 10 (Zt ?_)
      refine Cd.condT rfl rfl ?_
      refine Zsr ?_
      refine Za ?_
      refine Za ?_
      refine Zk7 0 2 3 4 5 8 10 (Zt (Cd.ret (Post.block_ret (Post.then_ret ?_))))
      refine Post.end2 rfl rfl rfl (.inl rfl) ?_
      exact⟨rfl,bel⟩
     ·skip
      by_cases h6:op=6
      ·subst h6
       refine Zsr ?_
       refine Za ?_
       refine Za ?_
       refine Zk3 0 2 3 (Zts (Zsr ?_))
       refine Zm ?_
       refine Zk4 0 2 3 4 (Zt (Cd.block (Cd.seq (Zsr ?_))))
       refine Zv (Runs.eqlI rfl rfl rfl) ?_
       refine Za ?_
       refine Zk5 0 2 3 4 5 (Zt ?_)
       refine Cd.condF rfl rfl ?_
       refine Zr ?_
       refine Zv (Runs.eqlI rfl rfl rfl) ?_
       refine Za ?_
       refine Zk5 0 2 3 4 5 (Zt ?_)
       refine Cd.condF rfl rfl ?_
       refine Zsr ?_
       refine Zv (Runs.eqlI rfl rfl rfl) ?_
       refine Za ?_
       refine Zk6 0 2 3 4 5 8 (Zt ?_)
       refine Cd.condF rfl rfl ?_
       refine Cd.seq (Zsr ?_)
       refine Zv (Runs.eqlI rfl rfl rfl) ?_
       refine Za ?_
       refine Zk7 0 2 3 4 5 8 10 (Zt ?_)
       refine Cd.condF rfl rfl ?_
       refine Zr ?_
       refine Zv (Runs.eqlI rfl rfl rfl) ?_
       refine Za ?_
       refine Zk7 0 2 3 4 5 8 10 (Zt ?_)
       refine Cd.condF rfl rfl ?_
       refine Cd.seq (Zsr ?_)
       refine Zv (Runs.eqlI rfl rfl rfl) ?_
       refine Za ?_
       refine Zk8 0 2 3 4 5 8 10 13 (Zt ?_)
       refine Cd.condT rfl rfl ?_
       refine Cd.skip (Zt ?_)
       refine Cd.condT rfl rfl ?_
       refine Zsr ?_
       refine Za ?_
       refine Za ?_
       refine Zk8 0 2 3 4 5 8 10 13 (Zt (Cd.ret (Post.block_ret (Post.then_ret ?_))))
       refine Post.end2 rfl rfl rfl (.inl rfl) ?_
       exact⟨rfl,bel⟩
      ·skip
       by_cases h7:op=7
       ·subst h7
        refine Zsr ?_
        refine Za ?_
        refine Za ?_
        refine Zk3 0 2 3 (Zts (Zsr ?_))
        refine Zm ?_
        refine Zk4 0 2 3 4 (Zt (Cd.block (Cd.seq (Zsr ?_))))
        refine Zv (Runs.eqlI rfl rfl rfl) ?_
        refine Za ?_
        refine Zk5 0 2 3 4 5 (Zt ?_)
        refine Cd.condF rfl rfl ?_
        refine Zr ?_
        refine Zv (Runs.eqlI rfl rfl rfl) ?_
        refine Za ?_
        refine Zk5 0 2 3 4 5 (Zt ?_)
        refine Cd.condF rfl rfl ?_
        refine Zsr ?_
        refine Zv (Runs.eqlI rfl rfl rfl) ?_
        refine Za ?_
        refine Zk6 0 2 3 4 5 8 (Zt ?_)
        refine Cd.condF rfl rfl ?_
        refine Cd.seq (Zsr ?_)
        refine Zv (Runs.eqlI rfl rfl rfl) ?_
        refine Za ?_
        refine Zk7 0 2 3 4 5 8 10 (Zt ?_)
        refine Cd.condF rfl rfl ?_
        refine Zr ?_
        refine Zv (Runs.eqlI rfl rfl rfl) ?_
        refine Za ?_
        refine Zk7 0 2 3 4 5 8 10 (Zt ?_)
        refine Cd.condF rfl rfl ?_
        refine Cd.seq (Zsr ?_)
        refine Zv (Runs.eqlI rfl rfl rfl) ?_
        refine Za ?_
        refine Zk8 0 2 3 4 5 8 10 13 (Zt ?_)
        refine Cd.condF rfl rfl ?_
        refine Zsr ?_
        refine Zv (Runs.eqlI rfl rfl rfl) ?_
        refine Za ?_
        refine Zk8 0 2 3 4 5 8 10 13 (Zt ?_)
        refine Cd.condT rfl rfl ?_
        refine Cd.skip (Zt ?_)
        refine Cd.condT rfl rfl ?_
        refine Zsr ?_
        refine Za ?_
        refine Za ?_
        refine Zk8 0 2 3 4 5 8 10 13 (Zt (Cd.ret (Post.block_ret (Post.then_ret ?_))))
        refine Post.end2 rfl rfl rfl (.inl rfl) ?_
        exact⟨rfl,bel⟩
       ·skip
        by_cases h8:op=8
        ·subst h8
         refine Zsr ?_
         refine Za ?_
         refine Za ?_
         refine Zk3 0 2 3 (Zts (Zsr ?_))
         refine Zm ?_
         refine Zk4 0 2 3 4 (Zt (Cd.block (Cd.seq (Zsr ?_))))
         refine Zv (Runs.eqlI rfl rfl rfl) ?_
         refine Za ?_
         refine Zk5 0 2 3 4 5 (Zt ?_)
         refine Cd.condF rfl rfl ?_
         refine Zr ?_
         refine Zv (Runs.eqlI rfl rfl rfl) ?_
         refine Za ?_
         refine Zk5 0 2 3 4 5 (Zt ?_)
         refine Cd.condF rfl rfl ?_
         refine Zsr ?_
         refine Zv (Runs.eqlI rfl rfl rfl) ?_
         refine Za ?_
         refine Zk6 0 2 3 4 5 8 (Zt ?_)
         refine Cd.condF rfl rfl ?_
         refine Cd.seq (Zsr ?_)
         refine Zv (Runs.eqlI rfl rfl rfl) ?_
         refine Za ?_
         refine Zk7 0 2 3 4 5 8 10 (Zt ?_)
         refine Cd.condF rfl rfl ?_
         refine Zr ?_
         refine Zv (Runs.eqlI rfl rfl rfl) ?_
         refine Za ?_
         refine Zk7 0 2 3 4 5 8 10 (Zt ?_)
         refine Cd.condF rfl rfl ?_
         refine Cd.seq (Zsr ?_)
         refine Zv (Runs.eqlI rfl rfl rfl) ?_
         refine Za ?_
         refine Zk8 0 2 3 4 5 8 10 13 (Zt ?_)
         refine Cd.condF rfl rfl ?_
         refine Zsr ?_
         refine Zv (Runs.eqlI rfl rfl rfl) ?_
         refine Za ?_
         refine Zk8 0 2 3 4 5 8 10 13 (Zt ?_)
         refine Cd.condF rfl rfl ?_
         refine Zsr ?_
         refine Zv (Runs.eqlI rfl rfl rfl) ?_
         refine Za ?_
         refine Zk8 0 2 3 4 5 8 10 13 (Zt ?_)
         refine Cd.condT rfl rfl ?_
         refine Cd.skip (Zt ?_)
         refine Cd.condT rfl rfl ?_
         refine Zsr ?_
         refine Za ?_
         refine Za ?_
         refine Zk8 0 2 3 4 5 8 10 13 (Zt (Cd.ret (Post.block_ret (Post.then_ret ?_))))
         refine Post.end2 rfl rfl rfl (.inl rfl) ?_
         exact⟨rfl,bel⟩
        ·skip
         by_cases h9:op=9
         ·subst h9
          refine Zsr ?_
          refine Za ?_
          refine Za ?_
          refine Zk3 0 2 3 (Zts (Zsr ?_))
          refine Zm ?_
          refine Zk4 0 2 3 4 (Zt (Cd.block (Cd.seq (Zsr ?_))))
          refine Zv (Runs.eqlI rfl rfl rfl) ?_
          refine Za ?_
          refine Zk5 0 2 3 4 5 (Zt ?_)
          refine Cd.condF rfl rfl ?_
          refine Zr ?_
          refine Zv (Runs.eqlI rfl rfl rfl) ?_
          refine Za ?_
          refine Zk5 0 2 3 4 5 (Zt ?_)
          refine Cd.condF rfl rfl ?_
          refine Zsr ?_
          refine Zv (Runs.eqlI rfl rfl rfl) ?_
          refine Za ?_
          refine Zk6 0 2 3 4 5 8 (Zt ?_)
          refine Cd.condF rfl rfl ?_
          refine Cd.seq (Zsr ?_)
          refine Zv (Runs.eqlI rfl rfl rfl) ?_
          refine Za ?_
          refine Zk7 0 2 3 4 5 8 10 (Zt ?_)
          refine Cd.condF rfl rfl ?_
          refine Zr ?_
          refine Zv (Runs.eqlI rfl rfl rfl) ?_
          refine Za ?_
          refine Zk7 0 2 3 4 5 8 10 (Zt ?_)
          refine Cd.condF rfl rfl ?_
          refine Cd.seq (Zsr ?_)
          refine Zv (Runs.eqlI rfl rfl rfl) ?_
          refine Za ?_
          refine Zk8 0 2 3 4 5 8 10 13 (Zt ?_)
          refine Cd.condF rfl rfl ?_
          refine Zsr ?_
          refine Zv (Runs.eqlI rfl rfl rfl) ?_
          refine Za ?_
          refine Zk8 0 2 3 4 5 8 10 13 (Zt ?_)
          refine Cd.condF rfl rfl ?_
          refine Zsr ?_
          refine Zv (Runs.eqlI rfl rfl rfl) ?_
          refine Za ?_
          refine Zk8 0 2 3 4 5 8 10 13 (Zt ?_)
          refine Cd.condF rfl rfl ?_
          refine Zr ?_
          refine Zv (Runs.eqlI rfl rfl rfl) ?_
          refine Za ?_
          refine Zk8 0 2 3 4 5 8 10 13 (Zt ?_)
          refine Cd.condT rfl rfl ?_
          refine Zsr ?_
          refine Za ?_
          refine Za ?_
          refine Zk8 0 2 3 4 5 8 10 13 (Zt (Cd.ret (Post.block_ret (Post.then_ret ?_))))
          refine Post.end2 rfl rfl rfl (.inl rfl) ?_
          exact⟨rfl,bel⟩
         ·skip
          refine Zsr ?_
          refine Za ?_
          refine Za ?_
          refine Zk3 0 2 3 (Zts (Zsr ?_))
          refine Zm ?_
          refine Zk4 0 2 3 4 (Zt (Cd.block (Cd.seq (Zsr ?_))))
          refine Zv (Runs.eqlI rfl rfl rfl) ?_
          refine Za ?_
          refine Zk5 0 2 3 4 5 (Zt ?_)
          refine Cd.condF rfl (decide_eq_false h1) ?_
          refine Zr ?_
          refine Zv (Runs.eqlI rfl rfl rfl) ?_
          refine Za ?_
          refine Zk5 0 2 3 4 5 (Zt ?_)
          refine Cd.condF rfl (decide_eq_false h2) ?_
          refine Zsr ?_
          refine Zv (Runs.eqlI rfl rfl rfl) ?_
          refine Za ?_
          refine Zk6 0 2 3 4 5 8 (Zt ?_)
          refine Cd.condF rfl (decide_eq_false h3) ?_
          refine Cd.seq (Zsr ?_)
          refine Zv (Runs.eqlI rfl rfl rfl) ?_
          refine Za ?_
          refine Zk7 0 2 3 4 5 8 10 (Zt ?_)
          refine Cd.condF rfl (decide_eq_false h4) ?_
          refine Zr ?_
          refine Zv (Runs.eqlI rfl rfl rfl) ?_
          refine Za ?_
          refine Zk7 0 2 3 4 5 8 10 (Zt ?_)
          refine Cd.condF rfl (decide_eq_false h5) ?_
          refine Cd.seq (Zsr ?_)
          refine Zv (Runs.eqlI rfl rfl rfl) ?_
          refine Za ?_
          refine Zk8 0 2 3 4 5 8 10 13 (Zt ?_)
          refine Cd.condF rfl (decide_eq_false h6) ?_
          refine Zsr ?_
          refine Zv (Runs.eqlI rfl rfl rfl) ?_
          refine Za ?_
          refine Zk8 0 2 3 4 5 8 10 13 (Zt ?_)
          refine Cd.condF rfl (decide_eq_false h7) ?_
          refine Zsr ?_
          refine Zv (Runs.eqlI rfl rfl rfl) ?_
          refine Za ?_
          refine Zk8 0 2 3 4 5 8 10 13 (Zt ?_)
          refine Cd.condF rfl (decide_eq_false h8) ?_
          refine Zr ?_
          refine Zv (Runs.eqlI rfl rfl rfl) ?_
          refine Za ?_
          refine Zk8 0 2 3 4 5 8 10 13 (Zt ?_)
          refine Cd.condF rfl (decide_eq_false h9) ?_
          refine Cd.skip (Post.block_normal (Ztq ?_))
          refine Za ?_
          refine Za ?_
          refine Zk8 0 2 3 4 5 8 10 13 (Zt (Cd.ret ?_))
          refine Post.end2 rfl rfl rfl (.inl rfl) ?_
          have hb:arT op=(-1,-1):=by unfold arT;rw[if_neg (by omega),if_neg h3,if_neg (by omega),if_neg (by omega)]
          rw[hb]
          exact⟨rfl,bel⟩
def headTB (op:Int)(nm:List Nat)(n m:Nat):Bool:=decide (arT op=((n:Int),(m:Int)))&& !(decide (op=2)&& !freeB nm)&& !(decide (op≠2)&&decide (nm≠ []))
mutual
def builtT:Tm→Bool
 | .mk op nm es l=>headTB op nm es.length l.length&&es.all builtB&&builtTL l
def builtTL:List Tm→Bool
 | []=>true
 |e::r=>builtT e&&builtTL r
end
theorem builtTL_all:∀l,builtTL l=l.all builtT
 | []=>by rw[builtTL];rfl
 |e::r=>by rw[builtTL,builtTL_all r];rfl
theorem builtT_eq (t:Tm):builtT t=(headTB t.op t.name t.exprs.length t.terms.length&&t.exprs.all builtB&&t.terms.all builtT):=by
 cases t;rw[builtT,builtTL_all];rfl
theorem eg_tbuilt1:∀args w,(callFunc 107 args).run Tryz.prog w= .ok (.enter 107 args) w:=fun args w=>run_enter Tryz.func107 (by kernel_rfl) rfl args w
theorem eg_tbuilt2:∀args w,(callFunc 109 args).run Tryz.prog w= .ok (.enter 109 args) w:=fun args w=>run_enter Tryz.func109 (by kernel_rfl) rfl args w
theorem built_any (N:Nat):∀(t:Tm) (B:Nat) (v:Value) (w:World),t.nodes≤N→RepB w B t v→B≤w.heap.size→Calls Tryz.prog 59 #[v] w fun en w'=>en= .returned (.bool (builtT t))∧Grow w w':=by
 induction N with
 |zero=>intro t B v w hN;have:=t.nodes_pos;omega
 |succ N ih=>
 intro t B v w hN hrep hB
 obtain⟨A,c,A',c',rfl,hv⟩:=hrep.open
 have bel:=Below.refl w.heap.size w
 have hnm:=hv.name
 have hnl:=hv.nlen
 have h60:=hv.h60
 have h60':=hv.h60'
 have hbt:=builtT_eq t
 have hdum:RepV w B (.mk 1 0 [] t.exprs) A c:=⟨hv.h60,by show I64 1;unfold I64;omega,by show I64 0;unfold I64;omega,fun d hd=>(by cases hd),by show(0:Nat)≤_;omega,fun i x hx=>hv.expr i x hx⟩
 have hcl:=fun W (hb:Below w.heap.size w W)=>containsE_any 107 [] (fun x=> !builtB x) B A c (.mk 1 0 [] t.exprs) W (hdum.below (hb.mono hB)) (Nat.le_trans hB hb.size) eg_tbuilt1 (fun x hx v W2 hb2 hr=>by
  have hs2:=Nat.le_trans hB (Nat.le_trans hb.size hb2.size)
  have hrec:=fun W3 (hb3:Below W2.heap.size W2 W3)=>builtExpr_any x.nodes x B v W3 (Nat.le_refl _) (hr.below (hb3.mono hs2)) (Nat.le_trans hs2 hb3.size)
  obtain⟨Ax,cx,rfl,-⟩:=hr.open
  have bel:=Below.refl W2.heap.size W2
  generalize builtB x=q at *
  refine Zs 6 Tryz.func107 ?_
  refine Zsr ?_
  refine Seq.box rfl rfl rfl rfl rfl ?_
  intro g1 w1 n1
  have e1:=Nat.le_trans bel.size n1.ge
  replace bel:=bel.step n1.below
  have k1:=n1.blk
  refine Za ?_
  refine Zk3 0 1 2 (Ztq ?_)
  refine Zv (Runs.loadW rfl rfl Tryz.underlying35 rfl k1 (m:=4) (by kernel_rfl) rfl) ?_
  refine Zc (Ze Tryz.func74) (hrec _ bel) ?_
  rintro en w5 ⟨rfl,hb5⟩
  refine⟨_,rfl,?_⟩
  replace bel:=bel.step hb5
  replace k1:=k1.step hb5
  refine Zv (Runs.not rfl rfl) ?_
  refine Za ?_
  refine Zk3 0 1 2 (Zt (Cd.ret ?_))
  refine Post.end1 rfl rfl (.inl rfl) ?_
  exact⟨rfl,bel⟩)
 have hcl2:=fun W (hb:Below w.heap.size w W)=>containsT_any 109 [] (fun x=> !builtT x) B A' c' t.terms W hv.h60' (hv.term.below (hb.mono hB)) (Nat.le_trans hB hb.size) eg_tbuilt2 (fun x hx v W2 hb2 hr=>by
  have hxn:=Tm.term_nodes hx
  have hs2:=Nat.le_trans hB (Nat.le_trans hb.size hb2.size)
  have hrec:=fun W3 (hb3:Below W2.heap.size W2 W3)=>ih x B v W3 (by omega) (hr.below (hb3.mono hs2)) (Nat.le_trans hs2 hb3.size)
  obtain⟨A1,c1,A2,c2,rfl,-⟩:=hr.open
  have bel:=Below.refl W2.heap.size W2
  generalize builtT x=q at *
  refine Zs 6 Tryz.func109 ?_
  refine Zsr ?_
  refine Seq.box rfl rfl rfl rfl rfl ?_
  intro g1 w1 n1
  have e1:=Nat.le_trans bel.size n1.ge
  replace bel:=bel.step n1.below
  have k1:=n1.blk
  refine Za ?_
  refine Zk3 0 1 2 (Ztq ?_)
  refine Zv (Runs.loadW rfl rfl Tryz.underlying25 rfl k1 (m:=4) (by kernel_rfl) rfl) ?_
  refine Zc (Ze Tryz.func59) (hrec _ bel) ?_
  rintro en w5 ⟨rfl,hb5⟩
  refine⟨_,rfl,?_⟩
  replace bel:=bel.step hb5
  replace k1:=k1.step hb5
  refine Zv (Runs.not rfl rfl) ?_
  refine Za ?_
  refine Zk3 0 1 2 (Zt (Cd.ret ?_))
  refine Post.end1 rfl rfl (.inl rfl) ?_
  exact⟨rfl,bel⟩)
 replace hcl:∀W,Below w.heap.size w W→Calls Tryz.prog 106 #[.slice A t.exprs.length c, .func (.func 107) #[] #[]] W fun en w'=>en= .returned (.bool (t.exprs.any fun x=> !builtB x))∧Grow W w':=hcl
 refine Zs 54 Tryz.func59 ?_
 refine Zsr ?_
 refine Seq.box rfl rfl rfl rfl rfl ?_
 intro g1 w1 n1
 have e1:=Nat.le_trans bel.size n1.ge
 replace bel:=bel.step n1.below
 have k1:=n1.blk
 refine Za ?_
 refine Zk3 0 1 2 (Ztq ?_)
 refine Zf 0 Tryz.underlying25 ?_
 refine Zv (Runs.loadB rfl rfl Tryz.underlying3 rfl k1 rfl) ?_
 refine Zc (Ze Tryz.func104) (arities_any t.op _) ?_
 rintro en w5 ⟨rfl,hb5⟩
 refine⟨_,rfl,?_⟩
 replace bel:=bel.step hb5
 replace k1:=k1.step hb5
 refine Zm ?_
 refine Zv (Runs.extract rfl rfl rfl) ?_
 refine Zv (Runs.extract rfl rfl rfl) ?_
 refine Za ?_
 refine Za ?_
 refine Zk5 0 1 2 3 4 (Zts (Zsr ?_))
 refine Zm ?_
 refine Zf 2 Tryz.underlying25 ?_
 refine Zv (Runs.loadB rfl rfl Tryz.underlying22 rfl k1 rfl) ?_
 refine Zv (Runs.len rfl rfl Tryz.underlying22) ?_
 refine Zv (Runs.neqI rfl rfl rfl) ?_
 refine Zm ?_
 refine SeqC.start ?_
 refine Zco (fun hcx=>Runs.move rfl rfl) ?_
 refine SeqC.next rfl rfl rfl rfl rfl rfl rfl (fun hcx=>Runs.fieldB 3 rfl rfl Tryz.underlying25 rfl (by kernel_rfl)) ?_
 refine SeqC.next rfl rfl rfl rfl rfl rfl rfl (fun hcx=>Runs.loadB rfl rfl Tryz.underlying23 rfl k1 rfl) ?_
 refine SeqC.next rfl rfl rfl rfl rfl rfl rfl (fun hcx=>Runs.len rfl rfl Tryz.underlying23) ?_
 refine SeqC.next rfl rfl rfl rfl rfl rfl rfl (fun hcx=>Runs.neqI rfl rfl rfl) ?_
 refine SeqC.or rfl rfl rfl rfl rfl rfl rfl ?_
 refine Zm ?_
 refine SeqC.start ?_
 refine Zco (fun hcx=>Runs.fieldB 0 rfl rfl Tryz.underlying25 rfl (by kernel_rfl)) ?_
 refine SeqC.next rfl rfl rfl rfl rfl rfl rfl (fun hcx=>Runs.loadB rfl rfl Tryz.underlying3 rfl k1 rfl) ?_
 refine SeqC.next rfl rfl rfl rfl rfl rfl rfl (fun hcx=>Runs.eqlI rfl rfl rfl) ?_
 refine SeqC.next rfl rfl rfl rfl rfl rfl rfl (fun hcx=>Runs.move rfl rfl) ?_
 refine Zco (fun hcx=>Runs.fieldB 1 rfl rfl Tryz.underlying25 rfl (by kernel_rfl)) ?_
 refine SeqC.next rfl rfl rfl rfl rfl rfl rfl (fun hcx=>Runs.loadB rfl rfl Tryz.underlying9 rfl k1 rfl) ?_
 refine SeqC.nextC rfl rfl rfl rfl rfl rfl rfl (fun hcx=>Ze Tryz.func105) (fun hcx=>free_any t.name _ hnm hnl) ?_
 intro w2 hw2
 replace bel:=bel.step hw2
 replace k1:=k1.step hw2
 refine SeqC.next rfl rfl rfl rfl rfl rfl rfl (fun hcx=>Runs.not rfl rfl) ?_
 refine SeqC.andG rfl rfl rfl rfl rfl rfl rfl rfl rfl rfl rfl ?_
 refine SeqC.or rfl rfl rfl rfl rfl rfl rfl ?_
 refine Zm ?_
 refine SeqC.start ?_
 refine Zco (fun hcx=>Runs.fieldB 0 rfl rfl Tryz.underlying25 rfl (by kernel_rfl)) ?_
 refine SeqC.next rfl rfl rfl rfl rfl rfl rfl (fun hcx=>Runs.loadB rfl rfl Tryz.underlying3 rfl k1 rfl) ?_
 refine SeqC.next rfl rfl rfl rfl rfl rfl rfl (fun hcx=>Runs.neqI rfl rfl rfl) ?_
 refine SeqC.next rfl rfl rfl rfl rfl rfl rfl (fun hcx=>Runs.move rfl rfl) ?_
 refine Zco (fun hcx=>Runs.fieldB 1 rfl rfl Tryz.underlying25 rfl (by kernel_rfl)) ?_
 refine SeqC.next rfl rfl rfl rfl rfl rfl rfl (fun hcx=>Runs.loadB rfl rfl Tryz.underlying9 rfl k1 rfl) ?_
 refine SeqC.next rfl rfl rfl rfl rfl rfl rfl (fun hcx=>Runs.neqL (a:=t.name) (b:=[]) rfl rfl rfl hnm (by decide)) ?_
 refine SeqC.andG rfl rfl rfl rfl rfl rfl rfl rfl rfl rfl rfl ?_
 refine SeqC.or rfl rfl rfl rfl rfl rfl rfl ?_
 refine Zk6 0 1 2 3 4 43 (Zt ?_)
 refine Cd.cond rfl (fun h=> ?_) (fun h=> ?_)
 ·have hhead:headTB t.op t.name t.exprs.length t.terms.length=false:=by
   cases hq:headTB t.op t.name t.exprs.length t.terms.length with
   |false=>rfl
   |true=>
    exfalso
    unfold headTB at hq
    simp at hq h
    obtain⟨⟨a,b⟩,c⟩:=hq
    rw[a] at h
    simp at h
    rcases h with ⟨x,y⟩|⟨x,y⟩
    ·rcases b with b|b
     ·exact b x
     ·rw[b] at y;cases y
    ·rcases c with c|c
     ·exact x c
     ·exact y c
  rw[hhead] at hbt
  refine Zsr ?_
  refine Za ?_
  refine Zk6 0 1 2 3 4 43 (Zt (Cd.ret (Post.then_ret ?_)))
  refine Post.end1 rfl rfl (.inl rfl) ?_
  rw[hbt]
  exact⟨rfl,bel⟩
 ·have hhead:headTB t.op t.name t.exprs.length t.terms.length=true:=by
   unfold headTB
   simp at h⊢
   obtain⟨⟨⟨a1,a2⟩,b⟩,c⟩:=h
   refine⟨⟨Prod.ext a1 a2,?_⟩,?_⟩
   ·by_cases h2:t.op=2
    ·exact .inr (b h2)
    ·exact .inl h2
   ·by_cases h2:t.op=2
    ·exact .inl h2
    ·exact .inr (c h2)
  rw[hhead] at hbt
  refine Cd.skip (Ztq ?_)
  refine Zf 2 Tryz.underlying25 ?_
  refine Zv (Runs.loadB rfl rfl Tryz.underlying22 rfl k1 rfl) ?_
  refine Zc (Ze Tryz.func106) (hcl _ bel) ?_
  rintro en w6 ⟨rfl,hb6⟩
  refine⟨_,rfl,?_⟩
  replace bel:=bel.step hb6
  replace k1:=k1.step hb6
  refine Zv (Runs.not rfl rfl) ?_
  refine Zm ?_
  refine SeqC.start ?_
  refine Zco (fun hcx=>Runs.fieldB 3 rfl rfl Tryz.underlying25 rfl (by kernel_rfl)) ?_
  refine SeqC.next rfl rfl rfl rfl rfl rfl rfl (fun hcx=>Runs.loadB rfl rfl Tryz.underlying23 rfl k1 rfl) ?_
  refine SeqC.nextC rfl rfl rfl rfl rfl rfl rfl (fun hcx=>Ze Tryz.func108) (fun hcx=>hcl2 _ bel) ?_
  intro w3 hw3
  replace bel:=bel.step hw3
  replace k1:=k1.step hw3
  refine SeqC.next rfl rfl rfl rfl rfl rfl rfl (fun hcx=>Runs.not rfl rfl) ?_
  refine SeqC.and rfl rfl rfl rfl rfl rfl rfl ?_
  refine Za ?_
  refine Zk6 0 1 2 3 4 43 (Zt (Cd.ret ?_))
  refine Post.end1 rfl rfl (.inl rfl) ?_
  refine⟨ret1 (bool_eq ?_),bel⟩
  rw[hbt,List.all_eq_not_any_not,List.all_eq_not_any_not,Bool.true_and]
def rightT (t:Tm):Bool:=decide (t.nodes≤200)&&decide (t.depth≤16)&&builtT t
theorem right_any (t:Tm)(B:Nat)(v:Value)(w:World)(hd:t.depth≤900)(hrep:RepB w B t v)(hB:B≤w.heap.size):Calls Tryz.prog 25 #[v] w fun en w'=>en= .returned (.bool (rightT t))∧Grow w w':=by
 have hs:=fun W (hb:Below w.heap.size w W)=>sizeTerm_any t.nodes t 0 B v W (Nat.le_refl _) (by omega) (hrep.below (hb.mono hB)) (Nat.le_trans hB hb.size)
 have hbt:=fun W (hb:Below w.heap.size w W)=>built_any t.nodes t B v W (Nat.le_refl _) (hrep.below (hb.mono hB)) (Nat.le_trans hB hb.size)
 have hc:=szT_cnt t
 have hdn:=t.depth_nodes
 have hres:(decide (t.nodes≤200)&&decide (t.depth≤16))=(decide ((szT t).1≤200)&&decide ((szT t).2≤16)):=by
  obtain⟨c1,c2⟩:=hc
  rw[Bool.eq_iff_iff]
  simp only[Bool.and_eq_true,decide_eq_true_eq]
  constructor
  ·rintro⟨h1,h2⟩
   rw[c2 (by omega)]
   omega
  ·rintro⟨h1,h2⟩
   have h3:t.nodes≤200:=by omega
   rw[c2 (by omega)] at h2
   omega
 unfold rightT
 rw[hres]
 obtain⟨A,c,A',c',rfl,-⟩:=hrep.open
 have bel:=Below.refl w.heap.size w
 generalize (szT t)=s at *
 refine Zs 10 Tryz.func25 ?_
 refine Zsr ?_
 refine Seq.box rfl rfl rfl rfl rfl ?_
 intro g1 w1 n1
 have e1:=Nat.le_trans bel.size n1.ge
 replace bel:=bel.step n1.below
 have k1:=n1.blk
 refine Za ?_
 refine Zk3 0 1 2 (Ztq ?_)
 refine Zv (Runs.loadW rfl rfl Tryz.underlying25 rfl k1 (m:=4) (by kernel_rfl) rfl) ?_
 refine Zc (Ze Tryz.func57) (hs _ bel) ?_
 rintro en w5 ⟨rfl,hb5⟩
 refine⟨_,rfl,?_⟩
 replace bel:=bel.step hb5
 replace k1:=k1.step hb5
 refine Zc (Ze Tryz.func58) (szSmall_any s.1 s.2 _) ?_
 rintro en w6 ⟨rfl,hb6⟩
 refine⟨_,rfl,?_⟩
 replace bel:=bel.step hb6
 replace k1:=k1.step hb6
 refine Zm ?_
 refine SeqC.start ?_
 refine Zco (fun hcx=>Runs.loadW rfl rfl Tryz.underlying25 rfl k1 (m:=4) (by kernel_rfl) rfl) ?_
 refine SeqC.nextC rfl rfl rfl rfl rfl rfl rfl (fun hcx=>Ze Tryz.func59) (fun hcx=>hbt _ bel) ?_
 intro w2 hw2
 replace bel:=bel.step hw2
 replace k1:=k1.step hw2
 refine SeqC.and rfl rfl rfl rfl rfl rfl rfl ?_
 refine Za ?_
 refine Zk3 0 1 2 (Zt (Cd.ret ?_))
 refine Post.end1 rfl rfl (.inl rfl) ?_
 exact⟨ret1 (bool_eq (by cases (decide (s.1≤200)&&decide (s.2≤16))<;>rfl)),bel⟩
end Go.Proofs.YtaamkfajnpobfaaGreat
namespace Go.Proofs.YtaamkfajnpobfaaGreat
open Go.RowKit
theorem builtT_false {t:Tm}(h:¬(headTB t.op t.name t.exprs.length t.terms.length=true∧(∀x∈t.exprs,builtB x=true)∧∀x∈t.terms,builtT x=true)):builtT t=false:=by
 cases hq:builtT t with
 |false=>rfl
 |true=>
  rw[builtT_eq,Bool.and_eq_true,Bool.and_eq_true,List.all_eq_true,List.all_eq_true] at hq
  exact absurd ⟨hq.1.1,hq.1.2,hq.2⟩ h
theorem builtT_true {t:Tm}(h:headTB t.op t.name t.exprs.length t.terms.length=true)(h2:∀x∈t.exprs,builtB x=true)(h3:∀x∈t.terms,builtT x=true):builtT t=true:=by
 rw[builtT_eq,h,List.all_eq_true.2 h2,List.all_eq_true.2 h3];rfl
theorem headTB_iff (op:Int)(nm:List Nat)(n m:Nat):headTB op nm n m=true↔arT op=((n:Int),(m:Int))∧(op=2→freeB nm=true)∧(op≠2→nm=[]):=by
 unfold headTB
 simp
 constructor
 ·rintro⟨⟨a,b⟩,c⟩
  refine⟨a,fun h=> ?_,fun h=> ?_⟩
  ·rcases b with b|b
   ·exact absurd h b
   ·exact b
  ·rcases c with c|c
   ·exact absurd c h
   ·exact c
 ·rintro⟨a,b,c⟩
  refine⟨⟨a,?_⟩,?_⟩
  ·by_cases h2:op=2
   ·exact .inr (b h2)
   ·exact .inl h2
  ·by_cases h2:op=2
   ·exact .inl h2
   ·exact .inr (c h2)
theorem arT_op {op:Int}{n m:Nat}(h:arT op=((n:Int),(m:Int))):1≤op∧op≤9∧n≤1∧m≤2:=by
 unfold arT at h
 repeat' split at h
 all_goals (have h1:=congrArg Prod.fst h;have h2:=congrArg Prod.snd h;simp only at h1 h2;omega)
theorem refTBuilt_any (N:Nat):∀(t:Tm) (B:Nat) (v:Value) (w:World),t.nodes≤N→RepB w B t v→B≤w.heap.size→Calls Tryz.prog 88 #[v] w fun en w'=>en= .returned (.bool (builtT t))∧Grow w w':=by
 induction N with
 |zero=>intro t B v w hN;have:=t.nodes_pos;omega
 |succ N ih=>
 intro t B v w hN hrep hB
 obtain⟨A,c,A',c',rfl,hv⟩:=hrep.open
 have bel:=Below.refl w.heap.size w
 have hnm:=hv.name
 have hnl:=hv.nlen
 have h60:=hv.h60
 have h60':=hv.h60'
 refine Zs 96 Tryz.func88 ?_
 refine Zsr ?_
 refine Seq.box rfl rfl rfl rfl rfl ?_
 intro g1 w1 n1
 have e1:=Nat.le_trans bel.size n1.ge
 replace bel:=bel.step n1.below
 have k1:=n1.blk
 refine Za ?_
 refine Zk3 0 1 2 (Ztq ?_)
 refine Za ?_
 refine Za ?_
 refine Zk5 0 1 2 3 4 (Zt ?_)
 refine Cd.seqJ (σ:=Nat × Nat) (fun s=>[(1, .pointer (some ⟨g1,0,none⟩)),(3, .int .i64 (s.1:Int)),(4, .int .i64 (s.2:Int))]) (fun s wr=>(1≤t.op→t.op≤9→arT t.op=((s.1:Int),(s.2:Int)))∧s.1≤1∧s.2≤2∧Below w.heap.size w wr∧Blk wr g1 25 #[.int .i64 t.op, .string (strOf t.name), .slice A t.exprs.length c, .slice A' t.terms.length c']) ?_ ?_
 ·skip
  refine Cd.block (Zsr ?_)
  refine Zf 0 Tryz.underlying25 ?_
  refine Zv (Runs.loadB rfl rfl Tryz.underlying3 rfl k1 rfl) ?_
  refine Zv (Runs.eqlI rfl rfl rfl) ?_
  refine Za ?_
  refine Zk6 0 1 2 3 4 7 (Zt ?_)
  refine Cd.condD rfl (fun h1=> ?_) (fun h1=> ?_)
  ·skip
   refine Zr ?_
   refine Za ?_
   refine Zk6 0 1 2 3 4 7 (Post.block_normal ?_)
   exact Post.join (0,1) ⟨rfl,rfl,rfl,trivial⟩ ⟨fun _ _=>by unfold arT;rw[if_neg (by omega),if_pos h1];rfl,by decide,by decide,bel,k1⟩
  ·skip
   refine Zsr ?_
   refine Zf 0 Tryz.underlying25 ?_
   refine Zv (Runs.loadB rfl rfl Tryz.underlying3 rfl k1 rfl) ?_
   refine Zv (Runs.eqlI rfl rfl rfl) ?_
   refine Zm ?_
   refine SeqC.start ?_
   refine Zco (fun hcx=>Runs.fieldB 0 rfl rfl Tryz.underlying25 rfl (by kernel_rfl)) ?_
   refine SeqC.next rfl rfl rfl rfl rfl rfl rfl (fun hcx=>Runs.loadB rfl rfl Tryz.underlying3 rfl k1 rfl) ?_
   refine SeqC.next rfl rfl rfl rfl rfl rfl rfl (fun hcx=>Runs.eqlI rfl rfl rfl) ?_
   refine SeqC.or rfl rfl rfl rfl rfl rfl rfl ?_
   refine Za ?_
   refine Zk7 0 1 2 3 4 7 11 (Zt ?_)
   refine Cd.cond rfl (fun h2=> ?_) (fun h2=> ?_)
   ·simp at h2
    refine Zr ?_
    refine Za ?_
    refine Zk7 0 1 2 3 4 7 11 (Post.block_normal ?_)
    exact Post.join (0,2) ⟨rfl,rfl,rfl,trivial⟩ ⟨fun _ _=>by unfold arT;rw[if_neg (by omega),if_neg (by omega),if_pos h2];rfl,by decide,by decide,bel,k1⟩
   ·simp at h2
    refine Zsr ?_
    refine Zf 0 Tryz.underlying25 ?_
    refine Zv (Runs.loadB rfl rfl Tryz.underlying3 rfl k1 rfl) ?_
    refine Zv (Runs.geq rfl rfl rfl) ?_
    refine Zm ?_
    refine SeqC.start ?_
    refine Zco (fun hcx=>Runs.fieldB 0 rfl rfl Tryz.underlying25 rfl (by kernel_rfl)) ?_
    refine SeqC.next rfl rfl rfl rfl rfl rfl rfl (fun hcx=>Runs.loadB rfl rfl Tryz.underlying3 rfl k1 rfl) ?_
    refine SeqC.next rfl rfl rfl rfl rfl rfl rfl (fun hcx=>Runs.leq rfl rfl rfl) ?_
    refine SeqC.and rfl rfl rfl rfl rfl rfl rfl ?_
    refine Za ?_
    refine Zk8 0 1 2 3 4 7 11 20 (Zt ?_)
    refine Cd.cond rfl (fun h3=> ?_) (fun h3=> ?_)
    ·simp at h3
     refine Zsr ?_
     refine Za ?_
     refine Zk8 0 1 2 3 4 7 11 20 (Ztr ?_)
     refine Za ?_
     refine Zk8 0 1 2 3 4 7 11 20 (Post.block_normal ?_)
     exact Post.join (1,1) ⟨rfl,rfl,rfl,trivial⟩ ⟨fun _ _=>by unfold arT;rw[if_neg (by omega),if_neg (by omega),if_neg (by omega),if_pos (by omega)];rfl,by decide,by decide,bel,k1⟩
    ·simp at h3
     refine Cd.skip (Post.block_normal ?_)
     exact Post.join (0,0) ⟨rfl,rfl,rfl,trivial⟩ ⟨fun _ _=>by unfold arT;rw[if_pos (by omega)];rfl,by decide,by decide,bel,k1⟩
 clear bel k1
 rintro⟨n,m⟩ wj ⟨har,hn1,hm2,bel,k1⟩
 dsimp only at har hn1 hm2⊢
 refine Cd.seq (Zsr ?_)
 refine Zf 0 Tryz.underlying25 ?_
 refine Zv (Runs.loadB rfl rfl Tryz.underlying3 rfl k1 rfl) ?_
 refine Zv (Runs.lss rfl rfl rfl) ?_
 refine Zm ?_
 refine SeqC.start ?_
 refine Zco (fun hcx=>Runs.fieldB 0 rfl rfl Tryz.underlying25 rfl (by kernel_rfl)) ?_
 refine SeqC.next rfl rfl rfl rfl rfl rfl rfl (fun hcx=>Runs.loadB rfl rfl Tryz.underlying3 rfl k1 rfl) ?_
 refine SeqC.next rfl rfl rfl rfl rfl rfl rfl (fun hcx=>Runs.gtr rfl rfl rfl) ?_
 refine SeqC.or rfl rfl rfl rfl rfl rfl rfl ?_
 refine Zm ?_
 refine SeqC.start ?_
 refine Zco (fun hcx=>Runs.fieldB 2 rfl rfl Tryz.underlying25 rfl (by kernel_rfl)) ?_
 refine SeqC.next rfl rfl rfl rfl rfl rfl rfl (fun hcx=>Runs.loadB rfl rfl Tryz.underlying22 rfl k1 rfl) ?_
 refine SeqC.next rfl rfl rfl rfl rfl rfl rfl (fun hcx=>Runs.len rfl rfl Tryz.underlying22) ?_
 refine SeqC.next rfl rfl rfl rfl rfl rfl rfl (fun hcx=>Runs.move rfl rfl) ?_
 refine SeqC.next rfl rfl rfl rfl rfl rfl rfl (fun hcx=>Runs.neqI rfl rfl rfl) ?_
 refine SeqC.or rfl rfl rfl rfl rfl rfl rfl ?_
 refine Zm ?_
 refine SeqC.start ?_
 refine Zco (fun hcx=>Runs.fieldB 3 rfl rfl Tryz.underlying25 rfl (by kernel_rfl)) ?_
 refine SeqC.next rfl rfl rfl rfl rfl rfl rfl (fun hcx=>Runs.loadB rfl rfl Tryz.underlying23 rfl k1 rfl) ?_
 refine SeqC.next rfl rfl rfl rfl rfl rfl rfl (fun hcx=>Runs.len rfl rfl Tryz.underlying23) ?_
 refine SeqC.next rfl rfl rfl rfl rfl rfl rfl (fun hcx=>Runs.move rfl rfl) ?_
 refine SeqC.next rfl rfl rfl rfl rfl rfl rfl (fun hcx=>Runs.neqI rfl rfl rfl) ?_
 refine SeqC.or rfl rfl rfl rfl rfl rfl rfl ?_
 refine Zm ?_
 refine SeqC.start ?_
 refine Zco (fun hcx=>Runs.fieldB 0 rfl rfl Tryz.underlying25 rfl (by kernel_rfl)) ?_
 refine SeqC.next rfl rfl rfl rfl rfl rfl rfl (fun hcx=>Runs.loadB rfl rfl Tryz.underlying3 rfl k1 rfl) ?_
 refine SeqC.next rfl rfl rfl rfl rfl rfl rfl (fun hcx=>Runs.eqlI rfl rfl rfl) ?_
 refine SeqC.next rfl rfl rfl rfl rfl rfl rfl (fun hcx=>Runs.move rfl rfl) ?_
 refine Zco (fun hcx=>Runs.fieldB 1 rfl rfl Tryz.underlying25 rfl (by kernel_rfl)) ?_
 refine SeqC.next rfl rfl rfl rfl rfl rfl rfl (fun hcx=>Runs.loadB rfl rfl Tryz.underlying9 rfl k1 rfl) ?_
 refine SeqC.nextC rfl rfl rfl rfl rfl rfl rfl (fun hcx=>Ze Tryz.func78) (fun hcx=>refFree_any t.name _ hnm hnl) ?_
 intro w2 hw2
 replace bel:=bel.step hw2
 replace k1:=k1.step hw2
 refine SeqC.next rfl rfl rfl rfl rfl rfl rfl (fun hcx=>Runs.not rfl rfl) ?_
 refine SeqC.andG rfl rfl rfl rfl rfl rfl rfl rfl rfl rfl rfl ?_
 refine SeqC.or rfl rfl rfl rfl rfl rfl rfl ?_
 refine Zm ?_
 refine SeqC.start ?_
 refine Zco (fun hcx=>Runs.fieldB 0 rfl rfl Tryz.underlying25 rfl (by kernel_rfl)) ?_
 refine SeqC.next rfl rfl rfl rfl rfl rfl rfl (fun hcx=>Runs.loadB rfl rfl Tryz.underlying3 rfl k1 rfl) ?_
 refine SeqC.next rfl rfl rfl rfl rfl rfl rfl (fun hcx=>Runs.neqI rfl rfl rfl) ?_
 refine SeqC.next rfl rfl rfl rfl rfl rfl rfl (fun hcx=>Runs.move rfl rfl) ?_
 refine Zco (fun hcx=>Runs.fieldB 1 rfl rfl Tryz.underlying25 rfl (by kernel_rfl)) ?_
 refine SeqC.next rfl rfl rfl rfl rfl rfl rfl (fun hcx=>Runs.loadB rfl rfl Tryz.underlying9 rfl k1 rfl) ?_
 refine SeqC.next rfl rfl rfl rfl rfl rfl rfl (fun hcx=>Runs.neqL (a:=t.name) (b:=[]) rfl rfl rfl hnm (by decide)) ?_
 refine SeqC.andG rfl rfl rfl rfl rfl rfl rfl rfl rfl rfl rfl ?_
 refine SeqC.or rfl rfl rfl rfl rfl rfl rfl ?_
 refine Zk4 1 3 4 71 (Zt ?_)
 refine Cd.cond rfl (fun h=> ?_) (fun h=> ?_)
 ·have hf:builtT t=false:=builtT_false fun⟨hh,_,_⟩=>by
   rw[headTB_iff] at hh
   obtain⟨a,b,c⟩:=hh
   have hop:=arT_op a
   rw[har hop.1 hop.2.1] at a
   have a1:=congrArg Prod.fst a
   have a2:=congrArg Prod.snd a
   simp at h a1 a2
   rcases h with (((h|h)|h)|⟨h,h'⟩)|⟨h,h'⟩
   ·omega
   ·omega
   ·omega
   ·rw[b h] at h';cases h'
   ·exact h' (c h)
  refine Zsr ?_
  refine Za ?_
  refine Zk5 1 2 3 4 71 (Zt (Cd.ret (Post.then_ret ?_)))
  refine Post.end1 rfl rfl (.inl rfl) ?_
  rw[hf]
  exact⟨rfl,bel⟩
 simp at h
 obtain⟨⟨⟨⟨⟨ha,hb⟩,hc⟩,hd⟩,he⟩,hf⟩:=h
 have hcn:t.exprs.length=n:=by omega
 have hdm:t.terms.length=m:=by omega
 have hhead:headTB t.op t.name t.exprs.length t.terms.length=true:=by
  rw[headTB_iff,hcn,hdm]
  exact⟨har (by omega) (by omega),fun h=>by simpa using he h,fun h=>by simpa using hf h⟩
 refine Cd.skip (Zts (Zsr ?_))
 refine Za ?_
 refine Zk5 1 3 4 5 71 (Zt (Cd.block ?_))
 refine Cd.loop (σ:=Nat) (fun k=>[(1, .pointer (some ⟨g1,0,none⟩)),(3, .int .i64 (n:Int)),(4, .int .i64 (m:Int)),(5, .int .i64 (k:Int))])
  (fun k wr=>k≤n∧(∀y∈t.exprs.take k,builtB y=true)∧Below w.heap.size w wr∧Blk wr g1 25 #[.int .i64 t.op, .string (strOf t.name), .slice A t.exprs.length c, .slice A' t.terms.length c']) (fun k=>n-k) 0 ⟨Nat.zero_le _,by simp,bel,k1⟩ ⟨rfl,rfl,rfl,rfl,trivial⟩ ?_
 clear bel k1
 rintro k wr ⟨hk,hall,bel,k1⟩
 refine Cd.seq (Zsr ?_)
 refine Zm ?_
 refine Zm ?_
 refine Zv (Runs.lss rfl rfl rfl) ?_
 refine Zk5 1 3 4 5 74 (Zt ?_)
 refine Cd.condD rfl (fun hc=> ?_) (fun hc=> ?_)
 ·obtain⟨x,hx⟩:∃x,t.exprs[k]? =some x:=⟨_,List.getElem?_eq_getElem (by omega)⟩
  obtain⟨ad,Ax,cx,rfl,hbl,hrx,hc2⟩:=hv.expr k x hx
  have hxm:=List.mem_of_getElem? hx
  have hc2:=fun j u hj=>((bel.mono hB).cell (p:=(ad.add (k*4)).add j) (by rw[block_of_add,block_of_add];exact hbl)).trans (hc2 j u hj)
  have htk:t.exprs.take (k+1)=t.exprs.take k++[x]:=by rw[List.take_add_one,hx];rfl
  have hrec:=fun W (hb:Below w.heap.size w W)=>refBuilt_any x.nodes x B _ W (Nat.le_refl _) (hrx.below (hb.mono hB)) (Nat.le_trans hB hb.size)
  refine Cd.skip (Zts (Cd.block (Zsr ?_)))
  refine Zf 2 Tryz.underlying25 ?_
  refine Zv (Runs.loadB rfl rfl Tryz.underlying22 rfl k1 rfl) ?_
  refine Zm ?_
  refine Zv (Runs.indexN rfl rfl rfl Tryz.underlying22 (s:=4) (by kernel_rfl) (j:=k) rfl (by omega)) ?_
  refine Zv (Runs.loadF (ps:=[.int .i64 x.op, .int .i64 x.n, .string (strOf x.name), .slice Ax x.args.length cx]) rfl rfl Tryz.underlying35 rfl (m:=4) (by kernel_rfl) rfl hc2) ?_
  refine Zc (Ze Tryz.func37) (hrec _ bel) ?_
  rintro en w5 ⟨rfl,hb5⟩
  refine⟨_,rfl,?_⟩
  replace bel:=bel.step hb5
  replace k1:=k1.step hb5
  refine Zv (Runs.not rfl rfl) ?_
  refine Zk6 1 3 4 5 74 83 (Zt ?_)
  refine Cd.cond rfl (fun hq=> ?_) (fun hq=> ?_)
  ·have hf:builtT t=false:=builtT_false fun⟨_,h2,_⟩=>by rw[h2 x hxm] at hq;cases hq
   refine Zsr ?_
   refine Za ?_
   refine Zk7 1 2 3 4 5 74 83 (Zt (Cd.ret (Post.block_ret (Post.then_ret (Post.round_ret (Post.block_ret (Post.then_ret ?_)))))))
   refine Post.end1 rfl rfl (.inl rfl) ?_
   rw[hf]
   exact⟨rfl,bel⟩
  ·have hq2:builtB x=true:=by simpa using hq
   refine Cd.skip (Post.block_normal (Ztr ?_))
   refine Zm ?_
   refine Za_ ?_
   refine Za ?_
   refine Zk6 1 3 4 5 74 83 ?_
   refine Post.round (k+1) ⟨rfl,rfl,rfl,rfl,trivial⟩ ⟨by omega,fun y hy=> ?_,bel,k1⟩ (by omega)
   rw[htk] at hy
   rcases List.mem_append.1 hy with hy|hy
   ·exact hall y hy
   ·obtain rfl:=List.mem_singleton.1 hy;exact hq2
 have hallE:∀x∈t.exprs,builtB x=true:=by
  rw[List.take_of_length_le (by omega)] at hall
  exact hall
 refine Cd.exit (Post.then_exit (Post.round_exit (Post.block_exit (Zts (Zsr ?_)))))
 refine Za ?_
 refine Zk6 1 3 4 5 6 74 (Zt (Cd.block ?_))
 refine Cd.loop (σ:=Nat) (fun k=>[(1, .pointer (some ⟨g1,0,none⟩)),(4, .int .i64 (m:Int)),(6, .int .i64 (k:Int))])
  (fun k wr=>k≤m∧(∀y∈t.terms.take k,builtT y=true)∧Below w.heap.size w wr∧Blk wr g1 25 #[.int .i64 t.op, .string (strOf t.name), .slice A t.exprs.length c, .slice A' t.terms.length c']) (fun k=>m-k) 0 ⟨Nat.zero_le _,by simp,bel,k1⟩ ⟨rfl,rfl,rfl,trivial⟩ ?_
 clear bel k1
 clear hall
 rintro k wr ⟨hk,hall,bel,k1⟩
 refine Cd.seq (Zsr ?_)
 refine Zm ?_
 refine Zm ?_
 refine Zv (Runs.lss rfl rfl rfl) ?_
 refine Zk4 1 4 6 86 (Zt ?_)
 refine Cd.condD rfl (fun hc=> ?_) (fun hc=> ?_)
 ·obtain⟨x,hx⟩:∃x,t.terms[k]? =some x:=⟨_,List.getElem?_eq_getElem (by omega)⟩
  obtain⟨ad,A1,A2,c1,c2,rfl,hbl,hrx,hc2⟩:=hv.term k x hx
  have hxm:=List.mem_of_getElem? hx
  have hxn:=Tm.term_nodes hxm
  have hc2:=fun j u hj=>((bel.mono hB).cell (p:=(ad.add (k*4)).add j) (by rw[block_of_add,block_of_add];exact hbl)).trans (hc2 j u hj)
  have htk:t.terms.take (k+1)=t.terms.take k++[x]:=by rw[List.take_add_one,hx];rfl
  have hrec:=fun W (hb:Below w.heap.size w W)=>ih x B _ W (by omega) (hrx.below (hb.mono hB)) (Nat.le_trans hB hb.size)
  refine Cd.skip (Zts (Cd.block (Zsr ?_)))
  refine Zf 3 Tryz.underlying25 ?_
  refine Zv (Runs.loadB rfl rfl Tryz.underlying23 rfl k1 rfl) ?_
  refine Zm ?_
  refine Zv (Runs.indexN rfl rfl rfl Tryz.underlying23 (s:=4) (by kernel_rfl) (j:=k) rfl (by omega)) ?_
  refine Zv (Runs.loadF (ps:=[.int .i64 x.op, .string (strOf x.name), .slice A1 x.exprs.length c1, .slice A2 x.terms.length c2]) rfl rfl Tryz.underlying25 rfl (m:=4) (by kernel_rfl) rfl hc2) ?_
  refine Zc (Ze Tryz.func88) (hrec _ bel) ?_
  rintro en w5 ⟨rfl,hb5⟩
  refine⟨_,rfl,?_⟩
  replace bel:=bel.step hb5
  replace k1:=k1.step hb5
  refine Zv (Runs.not rfl rfl) ?_
  refine Zk5 1 4 6 86 95 (Zt ?_)
  refine Cd.cond rfl (fun hq=> ?_) (fun hq=> ?_)
  ·have hf:builtT t=false:=builtT_false fun⟨_,_,h2⟩=>by rw[h2 x hxm] at hq;cases hq
   refine Zsr ?_
   refine Za ?_
   refine Zk6 1 2 4 6 86 95 (Zt (Cd.ret (Post.block_ret (Post.then_ret (Post.round_ret (Post.block_ret (Post.then_ret ?_)))))))
   refine Post.end1 rfl rfl (.inl rfl) ?_
   rw[hf]
   exact⟨rfl,bel⟩
  ·have hq2:builtT x=true:=by simpa using hq
   refine Cd.skip (Post.block_normal (Ztr ?_))
   refine Zm ?_
   refine Za_ ?_
   refine Za ?_
   refine Zk5 1 4 6 86 95 ?_
   refine Post.round (k+1) ⟨rfl,rfl,rfl,trivial⟩ ⟨by omega,fun y hy=> ?_,bel,k1⟩ (by omega)
   rw[htk] at hy
   rcases List.mem_append.1 hy with hy|hy
   ·exact hall y hy
   ·obtain rfl:=List.mem_singleton.1 hy;exact hq2
 ·have hallT:∀x∈t.terms,builtT x=true:=by
   rw[List.take_of_length_le (by omega)] at hall
   exact hall
  refine Cd.exit (Post.then_exit (Post.round_exit (Post.block_exit (Ztq ?_))))
  refine Za ?_
  refine Zk5 1 2 4 6 86 (Zt (Cd.ret ?_))
  refine Post.end1 rfl rfl (.inl rfl) ?_
  rw[builtT_true hhead hallE hallT]
  exact⟨rfl,bel⟩
end Go.Proofs.YtaamkfajnpobfaaGreat
namespace Go.Proofs.YtaamkfajnpobfaaGreat
open Go.RowKit
structure Kn where
 op:Int
 name:List Nat
 exprs:List Int
 terms:List Int
structure Kn.rng (x:Kn):Prop where
 op:I64 x.op
 name:∀d∈x.name,d<256
 nlen:x.name.length≤9223372036854775807
def zMuch (t:Tm):Int:=(toldZ (t.nodes:Int) (t.depth:Int)).1
def zDeep (t:Tm):Int:=(toldZ (t.nodes:Int) (t.depth:Int)).2
def sumM:List Tm→Int
 | []=>0
 |e::r=>zMuch e+sumM r
def maxM:List Tm→Int
 | []=>0
 |e::r=>max (zDeep e) (maxM r)
theorem sumM_snoc (l:List Tm)(e:Tm):sumM (l++[e])=sumM l+zMuch e:=by
 induction l with
 |nil=>show zMuch e+0=0+zMuch e;omega
 |cons x r ih=>show zMuch x+sumM (r++[e])=zMuch x+sumM r+zMuch e;omega
theorem zT_bounds (e:Tm):0≤zMuch e∧zMuch e≤1000∧0≤zDeep e∧zDeep e≤1000:=by
 unfold zMuch zDeep toldZ
 split<;>omega
theorem maxM_nonneg (l:List Tm):0≤maxM l∧maxM l≤1000:=by
 induction l with
 |nil=>exact⟨Int.le_refl _,by decide⟩
 |cons x r ih=>have:=zT_bounds x;show 0≤max (zDeep x) (maxM r)∧max (zDeep x) (maxM r)≤1000;omega
theorem maxM_snoc (l:List Tm)(e:Tm):maxM (l++[e])=max (maxM l) (zDeep e):=by
 induction l with
 |nil=>have:=zT_bounds e;show max (zDeep e) 0=max 0 (zDeep e);omega
 |cons x r ih=>show max (zDeep x) (maxM (r++[e]))=max (max (zDeep x) (maxM r)) (zDeep e);omega
theorem sumM_bounds (l:List Tm):0≤sumM l∧sumM l≤1000*(l.length:Int):=by
 induction l with
 |nil=>exact⟨Int.le_refl _,by decide⟩
 |cons x r ih=>
  have:=zT_bounds x
  have h:sumM (x::r)=zMuch x+sumM r:=rfl
  rw[h,List.length_cons]
  omega
theorem sumM_or (l:List Tm):(sumM l=(nodesM l:Int)∧maxM l=(depthM l:Int))∨(1000≤sumM l∧1000≤nodesM l):=by
 induction l with
 |nil=>exact .inl ⟨rfl,rfl⟩
 |cons x r ih=>
  have hb:=sumM_bounds r
  have hz:=zT_bounds x
  have h1:sumM (x::r)=zMuch x+sumM r:=rfl
  have h2:maxM (x::r)=max (zDeep x) (maxM r):=rfl
  have h3:nodesM (x::r)=x.nodes+nodesM r:=by rw[nodesM]
  have h4:depthM (x::r)=max x.depth (depthM r):=by rw[depthM]
  have hd:=x.depth_nodes
  rw[h1,h2,h3,h4]
  rcases ih with ⟨e1,e2⟩|⟨e1,e2⟩
  ·by_cases hbig:1000≤(x.nodes:Int)∨1000≤(x.depth:Int)
   ·have:zMuch x=1000:=by unfold zMuch toldZ;rw[if_pos hbig]
    right
    omega
   ·have g1:zMuch x=x.nodes:=by unfold zMuch toldZ;rw[if_neg hbig]
    have g2:zDeep x=x.depth:=by unfold zDeep toldZ;rw[if_neg hbig]
    left
    omega
  ·right;omega
theorem toldT_mk (op:Int)(nm:List Nat)(es:List Ex)(l:List Tm):toldZ (1+sumN es+sumM l) (1+max (maxD es) (maxM l))=(zMuch (.mk op nm es l),zDeep (.mk op nm es l)):=by
 have hn:=Tm.nodes_mk op nm es l
 have hd:=Tm.depth_mk op nm es l
 have hdn:=depthM_nodesM l
 have hdn2:=depthL_nodesL es
 have hm:=maxM_nonneg l
 have hs1:=sumN_bounds es
 have hs2:=sumM_bounds l
 have hm2:=maxD_nonneg es
 unfold zMuch zDeep
 rw[hn,hd]
 rcases sum_or es with ⟨e1,e2⟩|⟨e1,e2⟩
 ·rcases sumM_or l with ⟨f1,f2⟩|⟨f1,f2⟩
  ·rw[e1,e2,f1,f2,Int.natCast_add,Int.natCast_add,Int.natCast_add,show((max (depthL es) (depthM l):Nat):Int)=max (depthL es:Int) (depthM l:Int) by omega];rfl
  ·unfold toldZ
   rw[if_pos (by omega),if_pos (by omega)]
 ·unfold toldZ
  rw[if_pos (by omega),if_pos (by omega)]
def pickM (ts:List Tm)(ks:List Int):List Tm:=ks.filterMap fun k=>if ts.length=0 then none else ts[earl k ts.length]?
theorem pickM_none (es:List Tm)(ks:List Int)(k:Int)(h:es.length=0):pickM es (ks++[k])=pickM es ks:=by
 unfold pickM;rw[List.filterMap_append];simp[h]
theorem pickM_some (es:List Tm)(ks:List Int)(k:Int)(e:Tm)(h:es[earl k es.length]? =some e):pickM es (ks++[k])=pickM es ks++[e]:=by
 unfold pickM
 have h0:¬es.length=0:=fun h0=>by rw[List.eq_nil_of_length_eq_zero h0] at h;cases h
 rw[List.filterMap_append]
 simp only[h0,if_false]
 rw[List.filterMap_cons,h]
 rfl
theorem pickM_length (es:List Tm)(ks:List Int):(pickM es ks).length≤ks.length:=List.length_filterMap_le _ _
theorem pickM_mem {es:List Tm}{ks:List Int}{e:Tm}(h:e∈pickM es ks):e∈es:=by
 unfold pickM at h
 obtain⟨k,-,hk⟩:=List.mem_filterMap.1 h
 split at hk
 ·cases hk
 ·exact List.mem_of_getElem? hk
def knotT (es:List Ex)(ts:List Tm)(x:Kn):Tm:= .mk x.op x.name (pickK es (x.exprs.take 3)) (pickM ts (x.terms.take 4))
def addT (es:List Ex)(ts:List Tm)(x:Kn):List Tm:=ts++[knotT es ts x]
def termsOf (es:List Ex)(ks:List Kn):List Tm:=ks.foldl (addT es) []
theorem termsOf_snoc (es:List Ex)(ks:List Kn)(x:Kn):termsOf es (ks++[x])=termsOf es ks++[knotT es (termsOf es ks) x]:=by
 unfold termsOf;rw[List.foldl_append];rfl
theorem termsOf_length (es:List Ex)(ks:List Kn):(termsOf es ks).length=ks.length:=by
 have:∀(r:List Kn) (ts:List Tm),(r.foldl (addT es) ts).length=ts.length+r.length:=by
  intro r
  induction r with
  |nil=>intro ts;rfl
  |cons x r ih=>intro ts;rw[List.foldl_cons,ih];simp[addT];omega
 have h:=this ks []
 simpa[termsOf] using h
theorem depthM_le {l:List Tm}{m:Nat}(h:∀e∈l,e.depth≤m):depthM l≤m:=by
 induction l with
 |nil=>exact Nat.zero_le _
 |cons x r ih=>
  rw[depthM]
  have:=h x List.mem_cons_self
  have:=ih fun e he=>h e (List.mem_cons_of_mem _ he)
  omega
theorem termsOf_depth (es:List Ex)(D:Nat)(hD:∀e∈es,e.depth≤D)(ks:List Kn):∀e∈termsOf es ks,e.depth≤D+ks.length:=by
 have key:∀(r:List Kn) (ts:List Tm) (m:Nat),D≤m→(∀e∈ts,e.depth≤m)→∀e∈r.foldl (addT es) ts,e.depth≤m+r.length:=by
  intro r
  induction r with
  |nil=>intro ts m _ h e he;exact h e he
  |cons x r ih=>
   intro ts m hDm h e he
   rw[List.foldl_cons] at he
   have:=ih (addT es ts x) (m+1) (by omega) (fun e he=>by
    rcases List.mem_append.1 he with he|he
    ·have:=h e he;omega
    ·obtain rfl:=List.mem_singleton.1 he
     have h1:=depthM_le (fun e he=>h e (pickM_mem he):∀e∈pickM ts (x.terms.take 4),e.depth≤m)
     have h2:=depthL_le (fun e he=>Nat.le_trans (hD e (pickK_mem he)) hDm:∀e∈pickK es (x.exprs.take 3),e.depth≤m)
     unfold knotT
     rw[Tm.depth_mk];omega) e he
   rw[List.length_cons];omega
 intro e he
 exact key ks [] D (Nat.le_refl _) (by simp) e he
def KnAt (w:World)(B:Nat)(A:Option Addr)(xs:List Kn):Prop:=∀i x,xs[i]? =some x→∃ad A1 A2 c1 c2,A=some ad∧ad.block<B∧Reads w B 1 A1 x.exprs.length (DI x.exprs)∧Reads w B 1 A2 x.terms.length (DI x.terms)∧∀(j:Nat) (u:Value),([.int .i64 x.op, .string (strOf x.name), .slice A1 x.exprs.length c1, .slice A2 x.terms.length c2]:List Value)[j]? =some u→w.cell? ((ad.add (i*4)).add j)=some u
theorem KnAt.below {w w':World}{B:Nat}{A:Option Addr}{xs:List Kn}(h:KnAt w B A xs)(hb:Below B w w'):KnAt w' B A xs:=fun i x hx=>by
 obtain⟨ad,A1,A2,c1,c2,e1,e2,e3,e3',e4⟩:=h i x hx
 exact⟨ad,A1,A2,c1,c2,e1,e2,e3.below hb,e3'.below hb,fun j u hu=>(hb.cell (by rw[block_of_add,block_of_add];exact e2)).trans (e4 j u hu)⟩
structure ForestT (w:World)(T:List Nat)(ts:List Tm)(vs:List Value):Prop where
 len:vs.length=ts.length
 lt:∀b∈T,b<w.heap.size
 rep:∀(i:Nat) (e:Tm) (v:Value),ts[i]? =some e→vs[i]? =some v→RepT w (· ∈T) e v
section
variable {w w':World} {T:List Nat} {ts:List Tm} {vs:List Value}
theorem ForestT.keep (h:ForestT w T ts vs)(hs:w.heap.size≤w'.heap.size)(hb:∀b∈T,w'.heap[b]? =w.heap[b]?):ForestT w' T ts vs:=
 ⟨h.len,fun b hm=>Nat.lt_of_lt_of_le (h.lt b hm) hs,fun i e v he hv=>(h.rep i e v he hv).mono (fun _ h=>h) (fun p hp=>World.cell?_of_block (hb p.block hp))⟩
theorem ForestT.step (h:ForestT w T ts vs)(hb:Below w.heap.size w w'):ForestT w' T ts vs:=h.keep hb.size (fun b hm=>hb.block b (h.lt b hm))
theorem ForestT.grown {row:Option Nat}(h:ForestT w T ts vs)(hg:w.grownBy w' row)(hne:∀b,row=some b→b∉T):ForestT w' T ts vs:=h.keep hg.size (fun b hm=>hg.block b (h.lt b hm) (fun e=>hne b e.symm hm))
theorem ForestT.nil (w:World)(T:List Nat)(hlt:∀b∈T,b<w.heap.size):ForestT w T [] []:=⟨rfl,hlt,fun i e v h=>by cases h⟩
theorem ForestT.cells (h:ForestT w T ts vs):sizes 4 vs:=by
 have:∀v∈vs,v.cells.size=4:=fun v hv=>by
  obtain⟨k,hk,rfl⟩:=List.getElem_of_mem hv
  obtain⟨z,hz⟩:∃z,ts[k]? =some z:=⟨_,List.getElem?_eq_getElem (by have:=h.len;omega)⟩
  exact(h.rep k z _ hz (List.getElem?_eq_getElem hk)).cells4
 clear h
 induction vs with
 |nil=>trivial
 |cons v r ih=>exact⟨this v List.mem_cons_self,ih (fun u hu=>this u (List.mem_cons_of_mem _ hu))⟩
theorem ForestT.app {B:Nat}{v:Value}(h:ForestT w T ts vs)(hv:Apart v T)(ha:App w w' B v):ForestT w' T ts vs:=h.grown ha.grown fun b e=>hv b e
theorem ForestT.put {g B:Nat}{t:TypeId}{cur cs:Array Value}(h:ForestT w T ts vs)(_k:Blk w g t cur)(p:Put w w' g t cs)(_e:B≤g)(hne:g∉T:=by assumption):ForestT w' T ts vs:=
 h.grown p.grown fun b e=>by injection e with e;exact e▸hne
end
theorem rows_of {w:World}{B len:Nat}{ty:TypeId}{vA:Value}{avs:List Value}{S:Nat→Prop}(hA:Own w B ty 4 vA len (flatC avs))(hS:∀b,vA.ownBlock=some b→S b):∃A c,vA= .slice A len c∧(0<len→Rows w S A (flatC avs)):=by
 obtain⟨A,c,rfl,hrd⟩:=hA.reads
 refine⟨A,c,rfl,fun h0 hne=> ?_⟩
 obtain⟨ad,rfl,-,hc⟩:=hrd.2 h0
 exact⟨ad,rfl,hS _ rfl,hc⟩
theorem rows_nil {w:World}{S:Nat→Prop}{A:Option Addr}{avs:List Value}(h:avs.length=0):Rows w S A (flatC avs):=fun hne=>by
 rw[List.eq_nil_of_length_eq_zero h] at hne
 exact absurd rfl hne
theorem ForestT.more {w:World}{T:List Nat}{ts args:List Tm}{eargs:List Ex}{vs avs evs:List Value}{B B':Nat}{o:Int}{nm:List Nat}{vE vT:Value}(h:ForestT w T ts vs)(hle:evs.length=eargs.length)(hl:avs.length=args.length)(h60':eargs.length≤1000)(h60:args.length≤1000)(hop:I64 o)(hnm:∀d∈nm,d<256)(hnl:nm.length≤9223372036854775807)
  (hre:∀(i:Nat) (e:Ex) (v:Value),eargs[i]? =some e→evs[i]? =some v→RepE w (· ∈T) e v) (hr:∀(i:Nat) (e:Tm) (v:Value),args[i]? =some e→avs[i]? =some v→RepT w (· ∈T) e v) (hE:Own w B' 35 4 vE eargs.length (flatC evs)) (hA:Own w B 25 4 vT args.length (flatC avs)):
  ForestT w (blocksOf vE++(blocksOf vT++T)) (ts++[.mk o nm eargs args]) (vs++[.agg #[.int .i64 o, .string (strOf nm),vE,vT]]):=by
 have hbE:=hE.blockLt
 have hbT:=hA.blockLt
 obtain⟨AE,cE,rfl,hRE⟩:=rows_of (S:=(· ∈blocksOf vE++(blocksOf vT++T))) hE (fun b hb=>List.mem_append_left _ (mem_blocksOf.2 hb))
 obtain⟨AT,cT,rfl,hRT⟩:=rows_of (S:=(· ∈blocksOf (.slice AE eargs.length cE)++(blocksOf vT++T))) hA (fun b hb=>List.mem_append_right _ (List.mem_append_left _ (mem_blocksOf.2 hb)))
 refine⟨by rw[List.length_append,List.length_append,h.len];rfl,fun b hm=> ?_,fun i e v he hvi=> ?_⟩
 ·rcases List.mem_append.1 hm with hm|hm
  ·exact(hbE b (mem_blocksOf.1 hm)).2
  ·rcases List.mem_append.1 hm with hm|hm
   ·exact(hbT b (mem_blocksOf.1 hm)).2
   ·exact h.lt b hm
 ·rcases Nat.lt_or_ge i ts.length with hi|hi
  ·rw[List.getElem?_append_left hi] at he
   rw[List.getElem?_append_left (by rw[h.len];exact hi)] at hvi
   exact(h.rep i e v he hvi).mono (fun b hb=>List.mem_append_right _ (List.mem_append_right _ hb)) (fun _ _=>rfl)
  ·rw[List.getElem?_append_right hi] at he
   rw[List.getElem?_append_right (by rw[h.len];exact hi),h.len] at hvi
   have h0:i-ts.length=0:=by
    have:=(List.getElem?_eq_some_iff.1 he).1
    simp at this
    exact this
   rw[h0] at he hvi
   injection he with he
   injection hvi with hvi
   subst he hvi
   refine .mk hle hl h60' h60 hop hnm hnl (fun i e v he hv=>(hre i e v he hv).mono (fun b hb=>List.mem_append_right _ (List.mem_append_right _ hb)) (fun _ _=>rfl)) (fun i e v he hv=>(hr i e v he hv).mono (fun b hb=>List.mem_append_right _ (List.mem_append_right _ hb)) (fun _ _=>rfl)) ?_ ?_
   ·rcases Nat.eq_zero_or_pos eargs.length with h0|h0
    ·exact rows_nil (by omega)
    ·exact hRE h0
   ·rcases Nat.eq_zero_or_pos args.length with h0|h0
    ·exact rows_nil (by omega)
    ·exact hRT h0
end Go.Proofs.YtaamkfajnpobfaaGreat
namespace Go.Proofs.YtaamkfajnpobfaaGreat
open Go.RowKit
theorem run_build_Tm (a:Int)(s:List Nat)(w:World):(Instr.build 25 #[(0, .int .i64 a),(1, .string (strOf s))]).run Tryz.prog w= .ok (.agg #[.int .i64 a, .string (strOf s), .slice none 0 0, .slice none 0 0]) w:=by
 have hu:=Tryz.underlying25
 go_simp
theorem zero_debentureref18_Knot:zeroIs Tryz.prog 81=some (some (.agg #[.int .i64 0, .string {data:= #[]}, .slice none 0 0, .slice none 0 0])):=by kernel_rfl
theorem toldK (n d:Int)(es:List Ex)(l:List Tm)(op:Int)(nm:List Nat)(w:World)(hn:n=1+sumN es+sumM l)(hd:d=1+max (maxD es) (maxM l)):Calls Tryz.prog 36 #[.int .i64 n, .int .i64 d] w fun e w'=>e= .returned (.tuple #[.int .i64 (zMuch (.mk op nm es l)), .int .i64 (zDeep (.mk op nm es l))])∧Grow w w':=by
 have h:=told_any n d w
 subst hn hd
 rw[toldT_mk op nm es l] at h
 exact h
theorem Only.low {w0 w w':World}{g:Nat}(h:Only w0 w g)(hb:Below w0.heap.size w w'):Only w0 w' g:=
 ⟨⟨hb.os.trans h.row.os,hb.tape.trans h.row.tape,hb.output.trans h.row.output,Nat.le_trans h.row.size hb.size,fun i hi hne=>(hb.block i hi).trans (h.row.block i hi hne)⟩⟩
def BuiltK (es:List Ex)(ts:List Tm)(v:Value)(w:World):Prop:=∃T T' B B' vs us vE vN vD vT vM vP,v= .agg #[vE,vN,vD,vT,vM,vP]∧Forest w T es vs∧ForestT w T' ts us∧Own w B 35 4 vE es.length (flatC vs)∧Own w B 3 1 vN es.length (DI (es.map zNodes))∧Own w B 3 1 vD es.length (DI (es.map zDepth))∧
 Own w B' 25 4 vT ts.length (flatC us)∧Own w B' 3 1 vM ts.length (DI (ts.map zMuch))∧Own w B' 3 1 vP ts.length (DI (ts.map zDeep))
theorem buildK_any (n c nK cK:Nat)(A AK:Option Addr)(xs:List Lf)(ks:List Kn)(w:World)(hl:xs.length=n)(h60:n≤60)(hx:∀x∈xs,x.rng)(hA:LfAt w w.heap.size A xs)(hlK:ks.length=nK)(hK60:nK≤60)(hxK:∀x∈ks,x.rng)(hK:KnAt w w.heap.size AK ks):
  Calls Tryz.prog 16 #[.slice A n c, .slice AK nK cK] w fun e w'=>(∃v,e= .returned v∧BuiltK (treesOf xs) (termsOf (treesOf xs) ks) v w')∧Grow w w':=by
 have bel:=Below.refl w.heap.size w
 refine Zs 249 Tryz.func16 ?_
 refine Zsr ?_
 refine Zl zero_debentureref18_Tree ?_
 intro g4 w1 n4
 have e4:=Nat.le_trans bel.size n4.ge
 replace bel:=bel.step n4.below
 have k4:=n4.blk
 refine Zk3 0 1 4 (Ztq ?_)
 refine Zv (Runs.build rfl rfl (run_build_Tree _)) ?_
 refine Zl zero_debentureref18_Tree ?_
 intro g5 w2 n5
 have e5:=Nat.le_trans bel.size n5.ge
 have l5:=Nat.lt_of_lt_of_le k4.lt n5.ge
 replace bel:=bel.step n5.below
 replace k4:=k4.step n5.below
 have k5:=n5.blk
 refine Zo 6 k5 ?_
 intro w3 pw3
 replace bel:=bel.put k5 pw3 e5
 replace k4:=k4.put pw3 (by omega)
 replace k5:=pw3.blk
 refine Zk4 0 1 4 5 (Zts (Zsr ?_))
 refine Za ?_
 refine Zk5 0 1 4 5 6 (Zt (Cd.block ?_))
 refine Cd.loop (σ:=Nat × List Nat × List Value × Value × Value × Value) (fun s=>[(0, .slice A n c),(1, .slice AK nK cK),(4, .pointer (some ⟨g4,0,none⟩)),(5, .pointer (some ⟨g5,0,none⟩)),(6, .int .i64 (s.1:Int))])
  (fun s wr=>s.1≤n∧Below w.heap.size w wr∧Blk wr g4 45 #[.slice none 0 0, .slice none 0 0, .slice none 0 0, .slice none 0 0, .slice none 0 0, .slice none 0 0]∧Blk wr g5 45 #[s.2.2.2.1,s.2.2.2.2.1,s.2.2.2.2.2, .slice none 0 0, .slice none 0 0, .slice none 0 0]∧
   Forest wr s.2.1 (treesOf (xs.take s.1)) s.2.2.1∧(∀b∈s.2.1,g5<b)∧Own wr w.heap.size 35 4 s.2.2.2.1 (treesOf (xs.take s.1)).length (flatC s.2.2.1)∧Own wr w.heap.size 3 1 s.2.2.2.2.1 (treesOf (xs.take s.1)).length (DI ((treesOf (xs.take s.1)).map zNodes))∧Own wr w.heap.size 3 1 s.2.2.2.2.2 (treesOf (xs.take s.1)).length (DI ((treesOf (xs.take s.1)).map zDepth))∧
   Apart s.2.2.2.1 s.2.1∧Apart s.2.2.2.2.1 s.2.1∧Apart s.2.2.2.2.2 s.2.1∧Two s.2.2.2.2.1 s.2.2.2.2.2)
  (fun s=>n-s.1) (0,[],[], .slice none 0 0, .slice none 0 0, .slice none 0 0)
  ⟨Nat.zero_le _,bel,k4,k5,Forest.nil _,fun b h=>(by cases h),Own.nil _ _ _ _,Own.nil _ _ _ _,Own.nil _ _ _ _,fun b h=>(by cases h),fun b h=>(by cases h),fun b h=>(by cases h),fun b h=>(by cases h)⟩ ⟨rfl,rfl,rfl,rfl,rfl,trivial⟩ ?_
 clear bel k4 k5
 rintro⟨i,T,vs,vE,vN,vD⟩ wr ⟨hi,bel,k4,k5,fo,hfar,oE,oN,oD,aE,aN,aD,aND⟩
 dsimp only at hi k5 fo hfar oE oN oD aE aN aD aND⊢
 have hTl:(treesOf (xs.take i)).length=i:=by rw[treesOf_length,List.length_take];omega
 refine Cd.seq (Zsr ?_)
 refine Zm ?_
 refine Zm ?_
 refine Zv (Runs.len rfl rfl Tryz.underlying41) ?_
 refine Zv (Runs.lss rfl rfl rfl) ?_
 refine Zm ?_
 refine SeqC.start ?_
 refine Zco (fun hcx=>Runs.move rfl rfl) ?_
 refine SeqC.next rfl rfl rfl rfl rfl rfl rfl (fun hcx=>Runs.lss rfl rfl rfl) ?_
 refine SeqC.and rfl rfl rfl rfl rfl rfl rfl ?_
 refine Zk6 0 1 4 5 6 30 (Zt ?_)
 refine Cd.cond rfl (fun hc=> ?_) (fun hc=> ?_)
 ·simp only[Bool.and_eq_true,decide_eq_true_eq] at hc
  obtain⟨x,hxi⟩:∃x,xs[i]? =some x:=⟨_,List.getElem?_eq_getElem (show i<xs.length by omega)⟩
  have hrng:=hx x (List.mem_of_getElem? hxi)
  have htake:treesOf (xs.take (i+1))=treesOf (xs.take i)++[leafE (treesOf (xs.take i)) x]:=by rw[List.take_add_one,hxi];exact treesOf_snoc _ _
  obtain⟨ad,A',c',rfl,hadb,hrd,hcell⟩:=(hA.below bel) i x hxi
  generalize treesOf (xs.take i)=es at *
  have bel0:=bel
  replace bel:=Below.refl wr.heap.size wr
  have hg5:=k5.lt
  have oE0:=oE
  have oN0:=oN
  have oD0:=oD
  refine Cd.skip (Zts (Cd.block (Zsr ?_)))
  refine Zm ?_
  refine Zm ?_
  refine Zv (Runs.indexN rfl rfl rfl Tryz.underlying41 (s:=4) (by kernel_rfl) (j:=i) rfl (by omega)) ?_
  refine Zv (Runs.loadF (ps:=[.int .i64 x.op, .int .i64 x.n, .string (strOf x.name), .slice A' x.kids.length c']) rfl rfl Tryz.underlying77 rfl (m:=4) (by kernel_rfl) rfl hcell) ?_
  refine Zl zero_debentureref18_Leaf ?_
  intro g7 w4 n7
  have e7:=Nat.le_trans bel.size n7.ge
  have l7:=Nat.lt_of_lt_of_le k5.lt n7.ge
  replace bel:=bel.step n7.below
  replace k5:=k5.step n7.below
  have k7:=n7.blk
  refine Zo 4 k7 ?_
  intro w5 pw5
  replace bel:=bel.put k7 pw5 e7
  replace k5:=k5.put pw5 (by omega)
  replace k7:=pw5.blk
  refine Zk7 0 1 4 5 6 7 30 (Ztq ?_)
  refine Zf 0 Tryz.underlying77 ?_
  refine Zv (Runs.loadB rfl rfl Tryz.underlying3 rfl k7 rfl) ?_
  refine Zf 1 Tryz.underlying77 ?_
  refine Zv (Runs.loadB rfl rfl Tryz.underlying2 rfl k7 rfl) ?_
  refine Zf 2 Tryz.underlying77 ?_
  refine Zv (Runs.loadB rfl rfl Tryz.underlying9 rfl k7 rfl) ?_
  refine Zv (Runs.build rfl rfl (run_build_Ex _ _ _ _)) ?_
  refine Zl zero_api_Expr ?_
  intro g8 w6 n8
  have e8:=Nat.le_trans bel.size n8.ge
  have l8:=Nat.lt_of_lt_of_le k7.lt n8.ge
  have l8_k5:=Nat.lt_of_lt_of_le k5.lt n8.ge
  replace bel:=bel.step n8.below
  replace k5:=k5.step n8.below
  replace k7:=k7.step n8.below
  have k8:=n8.blk
  refine Zo 4 k8 ?_
  intro w7 pw7
  replace bel:=bel.put k8 pw7 e8
  replace k5:=k5.put pw7 (by omega)
  replace k7:=k7.put pw7 (by omega)
  replace k8:=pw7.blk
  refine Zk8 0 1 4 5 6 7 8 30 (Ztq ?_)
  refine Za ?_
  refine Za ?_
  refine Zk10 0 1 4 5 6 7 8 9 10 30 (Zts (Zsr ?_))
  refine Za ?_
  refine Zk11 0 1 4 5 6 7 8 9 10 11 30 (Zt (Cd.block ?_))
  refine Cd.loop (σ:=Nat × List Value × Value × Int × Int) (fun s=>[(0, .slice (some ad) n c),(1, .slice AK nK cK),(4, .pointer (some ⟨g4,0,none⟩)),(5, .pointer (some ⟨g5,0,none⟩)),(6, .int .i64 (i:Int)),(7, .pointer (some ⟨g7,0,none⟩)),(8, .pointer (some ⟨g8,0,none⟩)),(9, .int .i64 s.2.2.2.1),(10, .int .i64 s.2.2.2.2),(11, .int .i64 (s.1:Int))])
   (fun s w2=>s.1≤x.kids.length∧s.1≤5∧Below wr.heap.size wr w2∧Blk w2 g5 45 #[vE,vN,vD, .slice none 0 0, .slice none 0 0, .slice none 0 0]∧Blk w2 g7 77 #[.int .i64 x.op, .int .i64 x.n, .string (strOf x.name), .slice A' x.kids.length c']∧Blk w2 g8 35 #[.int .i64 x.op, .int .i64 x.n, .string (strOf x.name),s.2.2.1]∧
    OwnA w2 (g8+1) 35 4 s.2.2.1 (pickK es (x.kids.take s.1)).length (flatC s.2.1)∧s.2.1.length=(pickK es (x.kids.take s.1)).length∧(∀j e v,(pickK es (x.kids.take s.1))[j]? =some e→s.2.1[j]? =some v→RepE wr (· ∈T) e v)∧s.2.2.2.1=1+sumN (pickK es (x.kids.take s.1))∧s.2.2.2.2=1+maxD (pickK es (x.kids.take s.1)))
   (fun s=>5-s.1) (0,[], .slice none 0 0,1,1)
   ⟨Nat.zero_le _,Nat.zero_le _,bel,k5,k7,k8,⟨Own.nil _ _ _ _⟩,rfl,(fun j e v h=>absurd ((List.getElem?_nil (α:=Ex) (i:=j)).symm.trans h) (fun h=>by cases h)),rfl,rfl⟩ ⟨rfl,rfl,rfl,rfl,rfl,rfl,rfl,rfl,rfl,rfl,trivial⟩ ?_
  clear bel k5 k7 k8
  rintro⟨k,avs,vA,nn,dd⟩ w2 ⟨hk,hk5,bel,k5,k7,k8,own,havl,hrep,hnn,hdd⟩
  dsimp only at hk hk5 k8 own havl hrep hnn hdd⊢
  have hlA:=own.own.blockLt
  have hpl:=pickK_length es (x.kids.take k)
  have hpl2:(x.kids.take k).length≤k:=by rw[List.length_take];omega
  have hsb:=sumN_bounds (pickK es (x.kids.take k))
  have hmb:=maxD_nonneg (pickK es (x.kids.take k))
  refine Cd.seq (Zsr ?_)
  refine Zm ?_
  refine Zf 3 Tryz.underlying77 ?_
  refine Zv (Runs.loadB rfl rfl Tryz.underlying43 rfl k7 rfl) ?_
  refine Zv (Runs.len rfl rfl Tryz.underlying43) ?_
  refine Zv (Runs.lss rfl rfl rfl) ?_
  refine Zm ?_
  refine SeqC.start ?_
  refine Zco (fun hcx=>Runs.move rfl rfl) ?_
  refine SeqC.next rfl rfl rfl rfl rfl rfl rfl (fun hcx=>Runs.lss rfl rfl rfl) ?_
  refine SeqC.and rfl rfl rfl rfl rfl rfl rfl ?_
  refine Zk11 0 1 4 5 6 7 8 9 10 11 52 (Zt ?_)
  refine Cd.cond rfl (fun hc=> ?_) (fun hc=> ?_)
  ·simp only[Bool.and_eq_true,decide_eq_true_eq] at hc
   obtain⟨z,hz⟩:∃z,x.kids[k]? =some z:=⟨_,List.getElem?_eq_getElem (by omega)⟩
   obtain⟨ad',rfl,hbl',hc'⟩:=hrd.2 (by omega)
   have hc':=fun W (hb:Below wr.heap.size wr W)=>(hb.cell (p:=ad'.add k) (by rw[block_of_add];have:=bel0.size;omega)).trans (hc' k (.int .i64 z) (by rw[get_DI,hz];rfl))
   have hks:x.kids.take (k+1)=x.kids.take k++[z]:=by rw[List.take_add_one,hz];rfl
   refine Cd.skip (Zts (Cd.block (Zsr ?_)))
   refine Zf 3 Tryz.underlying77 ?_
   refine Zv (Runs.loadB rfl rfl Tryz.underlying43 rfl k7 rfl) ?_
   refine Zm ?_
   refine Zv (Runs.index1 rfl rfl rfl Tryz.underlying43 (by kernel_rfl) (j:=k) rfl (by omega)) ?_
   refine Zv (Runs.load1 rfl rfl Tryz.underlying3 rfl (hc' _ bel)) ?_
   refine Zm ?_
   refine Zc (Ze Tryz.func35) (earlierC z i _ (by omega)) ?_
   rintro e w5 ⟨⟨z',rfl,hz'⟩,hb5⟩
   refine⟨_,rfl,?_⟩
   replace bel:=bel.step hb5
   replace k5:=k5.step hb5
   replace k7:=k7.step hb5
   replace k8:=k8.step hb5
   replace own:=own.step hb5
   refine Za ?_
   refine Zk12 0 1 4 5 6 7 8 9 10 11 12 52 (Ztq ?_)
   refine Zm ?_
   refine Zv (Runs.geq rfl rfl rfl) ?_
   refine Zk13 0 1 4 5 6 7 8 9 10 11 12 52 63 (Zt ?_)
   refine Cd.condD rfl (fun h=> ?_) (fun h=> ?_)
   ·obtain⟨h0i,rfl⟩:0<i∧z'=(earl z i:Int):=by rcases hz' with ⟨h1,h2⟩|h2;exact absurd h (by omega);exact h2
    clear hz'
    have hj:=earl_lt z h0i
    generalize hjj:earl z i=j at *
    obtain⟨e,he⟩:∃e,es[j]? =some e:=⟨_,List.getElem?_eq_getElem (by omega)⟩
    obtain⟨ev,hev⟩:∃ev,vs[j]? =some ev:=⟨_,List.getElem?_eq_getElem (by rw[fo.len];omega)⟩
    have hre:=fo.rep j e ev he hev
    obtain⟨AA,cc,rfl⟩:=hre.form
    have h4:∀y∈vs,y.cells.size=4:=sizes_spec fo.cells
    obtain⟨aE0,cE,rfl,hrE⟩:=oE.reads
    obtain⟨adE,rfl,hbE,hcE⟩:=hrE.2 (by omega)
    have hcE:∀W,Below wr.heap.size wr W→∀(q:Nat) (u:Value),([.int .i64 e.op, .int .i64 e.n, .string (strOf e.name), .slice AA e.args.length cc]:List Value)[q]? =some u→W.cell? ((adE.add (j*4)).add q)=some u:=fun W hb q u hq=>(hb.cell (p:=(adE.add (j*4)).add q) (by rw[block_of_add,block_of_add];exact hbE)).trans (by rw[add_of_add];exact hcE _ _ (flatC_at h4 hev q u (by simpa[Value.cells] using hq)))
    obtain⟨aN0,cN,rfl,hrN⟩:=oN.reads
    obtain⟨adN,rfl,hbN,hcN⟩:=hrN.2 (by omega)
    have hcN:=fun W (hb:Below wr.heap.size wr W)=>(hb.cell (p:=adN.add j) (by rw[block_of_add];exact hbN)).trans (hcN j (.int .i64 (zNodes e)) (by rw[get_DI,List.getElem?_map,he];rfl))
    obtain⟨aD0,cD,rfl,hrD⟩:=oD.reads
    obtain⟨adD,rfl,hbD,hcD⟩:=hrD.2 (by omega)
    have hcD:=fun W (hb:Below wr.heap.size wr W)=>(hb.cell (p:=adD.add j) (by rw[block_of_add];exact hbD)).trans (hcD j (.int .i64 (zDepth e)) (by rw[get_DI,List.getElem?_map,he];rfl))
    have hpk:pickK es (x.kids.take (k+1))=pickK es (x.kids.take k)++[e]:=by rw[hks];exact pickK_some _ _ _ _ (by rw[hTl,hjj];exact he)
    have hzb:=z_bounds e
    refine Cd.seq ?_
    refine Cd.draw 8 (by kernel_rfl) [] (.inl rfl) rfl Grow Grow.refl (fun _ _ _=>Grow.trans) ?_
    intro w8 hw8 zw8
    replace bel:=bel.step hw8
    replace k5:=k5.step hw8
    replace k7:=k7.step hw8
    replace k8:=k8.step hw8
    replace own:=own.step hw8
    have zbel:=bel.size
    have zlt:=k8.lt
    refine Zd (fun w hG=>Runs.fieldB 3 rfl rfl Tryz.underlying35 rfl (by kernel_rfl)) ?_
    refine Zd (fun w hG=>Runs.loadB rfl rfl Tryz.underlying22 rfl (k8.step hG) rfl) ?_
    refine Zd (fun w hG=>Runs.fieldB 0 rfl rfl Tryz.underlying45 rfl (by kernel_rfl)) ?_
    refine Zd (fun w hG=>Runs.loadB rfl rfl Tryz.underlying22 rfl (k5.step hG) rfl) ?_
    refine Zdm ?_
    refine Zd (fun w hG=>Runs.indexN rfl rfl rfl Tryz.underlying22 (s:=4) (by kernel_rfl) (j:=j) rfl (by omega)) ?_
    refine Zd (fun w hG=>Runs.loadF (ps:=[.int .i64 e.op, .int .i64 e.n, .string (strOf e.name), .slice AA e.args.length cc]) rfl rfl Tryz.underlying35 rfl (m:=4) (by kernel_rfl) rfl (hcE w (Below.step bel hG))) ?_
    refine Dr.slice (vs:=[_]) (s:=4) rfl rfl rfl rfl Tryz.underlying22 (by kernel_rfl) zero_api_Expr (by omega) (by omega) ⟨rfl,trivial⟩ rfl ?_
    refine Dr.nil ?_
    refine FinX.open (j:=7) rfl ?_
    intro u7
    refine FinX.done (F':=[(0,_),(1,_),(4,_),(5,_),(6,_),(7,_),(8,_),(9,_),(10,_),(11,_),(12,_),(52,_),(63,_),(65,_),(71,_)]) rfl ⟨rfl,rfl,rfl,rfl,rfl,rfl,rfl,rfl,rfl,rfl,rfl,rfl,rfl,rfl,rfl,trivial⟩ ?_
    intro w9 hw9 fw9
    replace bel:=bel.step hw9
    replace k5:=k5.step hw9
    replace k7:=k7.step hw9
    replace k8:=k8.step hw9
    replace own:=own.step hw9
    obtain⟨gS,rfl,kS,-⟩:=fw9.2
    have hne8:vA.ownBlock≠some g8:=fun e'=>by have:=(own.own.blockLt _ e').1;omega
    refine Seq.append rfl rfl rfl Tryz.underlying22 (by kernel_rfl) zero_api_Expr rfl (by decide) (b:=56) (by kernel_rfl) own.own (Reads.blk (size:=4) kS 1 rfl) (by intro x hx;simp[flatC,Value.cells] at hx;rcases hx with rfl|rfl|rfl|rfl<;>rfl) (Nat.succ_le_of_lt k8.lt) (by simp only[maxLen];omega) (by omega) rfl rfl rfl ?_
    intro vA' wa oA ha
    replace k7:=k7.app own.own ha
    replace k5:=k5.app own.own ha
    replace k8:=k8.grown ha.grown (fun e'=>hne8 e'.symm)
    replace bel:=bel.trans (ha.below.mono (by omega))
    clear own
    obtain⟨A2,c2,rfl,-⟩:=oA.reads
    have own:=OwnA.mk oA
    have hne9:(Value.slice A2 ((pickK es (x.kids.take k)).length+1) c2).ownBlock≠some g8:=fun e'=>by have:=(own.own.blockLt _ e').1;omega
    refine Zf 3 Tryz.underlying35 ?_
    refine Zq k8 ?_
    intro w10 pw10
    replace bel:=bel.put k8 pw10 e8
    replace k5:=k5.put pw10 (by omega)
    replace k7:=k7.put pw10 (by omega)
    replace own:=own.put k8 pw10 e8
    replace k8:=pw10.blk
    refine Zk13 0 1 4 5 6 7 8 9 10 11 12 52 63 (Ztq ?_)
    refine Zm ?_
    refine Zf 1 Tryz.underlying45 ?_
    refine Zv (Runs.loadB rfl rfl Tryz.underlying43 rfl k5 rfl) ?_
    refine Zm ?_
    refine Zv (Runs.index1 rfl rfl rfl Tryz.underlying43 (by kernel_rfl) (j:=j) rfl (by omega)) ?_
    refine Zv (Runs.load1 rfl rfl Tryz.underlying3 rfl (hcN _ bel)) ?_
    refine Za_ ?_
    refine Za ?_
    refine Zk13 0 1 4 5 6 7 8 9 10 11 12 52 63 (Ztr ?_)
    refine Zm ?_
    refine Zf 2 Tryz.underlying45 ?_
    refine Zv (Runs.loadB rfl rfl Tryz.underlying43 rfl k5 rfl) ?_
    refine Zm ?_
    refine Zv (Runs.index1 rfl rfl rfl Tryz.underlying43 (by kernel_rfl) (j:=j) rfl (by omega)) ?_
    refine Zv (Runs.load1 rfl rfl Tryz.underlying3 rfl (hcD _ bel)) ?_
    refine Za_ ?_
    refine Zv (Runs.max2 rfl rfl rfl) ?_
    refine Za ?_
    refine Zk13 0 1 4 5 6 7 8 9 10 11 12 52 63 (Post.block_normal (Ztr ?_))
    refine Zm ?_
    refine Za_ ?_
    refine Za ?_
    refine Zk13 0 1 4 5 6 7 8 9 10 11 12 52 63 ?_
    have hlen2:(pickK es (x.kids.take (k+1))).length=(pickK es (x.kids.take k)).length+1:=by rw[hpk];simp
    refine Post.round (k+1,avs++[.agg #[.int .i64 e.op, .int .i64 e.n, .string (strOf e.name), .slice AA e.args.length cc]], .slice A2 ((pickK es (x.kids.take k)).length+1) c2,nn+zNodes e,max dd (zDepth e+1)) ⟨rfl,rfl,rfl,rfl,rfl,rfl,rfl,rfl,rfl,rfl,trivial⟩ ⟨by dsimp only;omega,by dsimp only;omega,bel,k5,k7,k8,?_,?_,?_,?_,?_⟩ (by dsimp only;omega)
    ·dsimp only
     rw[hlen2,flatC_append]
     exact own
    ·dsimp only
     rw[hlen2,List.length_append,havl];rfl
    ·dsimp only
     rw[hpk]
     intro q y v hq hv
     rcases Nat.lt_or_ge q avs.length with hqi|hqi
     ·rw[List.getElem?_append_left hqi] at hv
      rw[List.getElem?_append_left (by omega)] at hq
      exact hrep q y v hq hv
     ·rw[List.getElem?_append_right hqi] at hv
      rw[List.getElem?_append_right (by omega),←havl] at hq
      have h0:q-avs.length=0:=by
       have:=(List.getElem?_eq_some_iff.1 hv).1
       simp at this
       exact this
      rw[h0] at hq hv
      injection hq with hq
      injection hv with hv
      subst hq hv
      exact hre
    ·dsimp only
     rw[hpk,sumN_snoc,hnn];omega
    ·dsimp only
     rw[hpk,maxD_snoc,hdd];omega
   ·obtain⟨h0i,rfl⟩:i=0∧z'= -1:=by rcases hz' with ⟨h1,h2⟩|⟨h1,h2⟩;exact⟨h1,h2⟩;exact absurd (by omega) h
    have hpk:pickK es (x.kids.take (k+1))=pickK es (x.kids.take k):=by rw[hks];exact pickK_none _ _ _ (by omega)
    refine Cd.skip (Post.block_normal (Ztr ?_))
    refine Zm ?_
    refine Za_ ?_
    refine Za ?_
    refine Zk13 0 1 4 5 6 7 8 9 10 11 12 52 63 ?_
    exact Post.round (k+1,avs,vA,nn,dd) ⟨rfl,rfl,rfl,rfl,rfl,rfl,rfl,rfl,rfl,rfl,trivial⟩ ⟨by dsimp only;omega,by dsimp only;omega,bel,k5,k7,k8,by dsimp only;rw[hpk];exact own,by dsimp only;rw[hpk];exact havl,by dsimp only;rw[hpk];exact hrep,by dsimp only;rw[hpk];exact hnn,by dsimp only;rw[hpk];exact hdd⟩ (by dsimp only;omega)
  ·have hfull:x.kids.take k=x.kids.take 5:=by
    have hc':¬((k:Int)<x.kids.length∧(k:Int)<5):=fun h=>by rw[decide_eq_true h.1,decide_eq_true h.2] at hc;cases hc
    rcases Nat.lt_or_ge k 5 with h5|h5
    ·rw[List.take_of_length_le (by omega),List.take_of_length_le (by omega)]
    ·rw[show k=5 by omega]
   have hpl5:=pickK_length es (x.kids.take 5)
   have hpl6:(x.kids.take 5).length≤5:=by rw[List.length_take];omega
   rw[hfull] at own havl hrep hnn hdd
   refine Cd.exit (Post.then_exit (Post.round_exit (Post.block_exit (Ztq ?_))))
   refine Zm ?_
   refine Zm ?_
   refine Zc (Ze Tryz.func36) (toldC nn dd (pickK es (x.kids.take 5)) x.op x.n x.name _ hnn hdd) ?_
   rintro e w6 ⟨rfl,hb6⟩
   refine⟨_,rfl,?_⟩
   replace bel:=bel.step hb6
   replace k5:=k5.step hb6
   replace k7:=k7.step hb6
   replace k8:=k8.step hb6
   replace own:=own.step hb6
   have hlA:=own.own.blockLt
   have oE:=oE.step bel
   have oN:=oN.step bel
   have oD:=oD.step bel
   have ltE:∀b,vE.ownBlock=some b→b<g8+1:=fun b hb=>by have:=(oE0.blockLt b hb).2;omega
   have ltN:∀b,vN.ownBlock=some b→b<g8+1:=fun b hb=>by have:=(oN0.blockLt b hb).2;omega
   have ltD:∀b,vD.ownBlock=some b→b<g8+1:=fun b hb=>by have:=(oD0.blockLt b hb).2;omega
   have aE:=aE.more ltE (fun b hb=>(hlA b hb).1)
   have aN:=aN.more ltN (fun b hb=>(hlA b hb).1)
   have aD:=aD.more ltD (fun b hb=>(hlA b hb).1)
   have fo2:=(fo.step bel).more (nm:=x.name) havl (by omega) hrng.op hrng.n hrng.name hrng.nlen (fun j e v he hv=>(hrep j e v he hv).mono (fun _ h=>h) (fun p hp=>bel.cell (fo.lt _ hp))) own.own
   have hg5T:g5∉blocksOf vA++T:=fun hm=>by
    rcases List.mem_append.1 hm with hm|hm
    ·have:=(hlA _ (mem_blocksOf.1 hm)).1;omega
    ·have:=hfar _ hm;omega
   have hfar2:∀b∈blocksOf vA++T,g5<b:=fun b hm=>by
    rcases List.mem_append.1 hm with hm|hm
    ·have:=(hlA _ (mem_blocksOf.1 hm)).1;omega
    ·exact hfar _ hm
   have k4:=k4.step bel
   have l54:g4≠g5:=by omega
   replace bel:=bel0.trans (bel.mono bel0.size)
   refine Zm ?_
   refine Zv (Runs.extract rfl rfl rfl) ?_
   refine Zv (Runs.extract rfl rfl rfl) ?_
   refine Za ?_
   refine Za ?_
   refine Zk11 0 1 4 5 6 7 8 9 10 11 52 (Ztq ?_)
   refine Zf 0 Tryz.underlying45 ?_
   refine Zv (Runs.loadB rfl rfl Tryz.underlying22 rfl k5 rfl) ?_
   refine Zv (Runs.loadW rfl rfl Tryz.underlying35 rfl k8 (m:=4) (by kernel_rfl) rfl) ?_
   refine Seq.slice (vs:=[_]) (s:=4) rfl rfl rfl Tryz.underlying22 (by kernel_rfl) (zero_api_Expr) (by omega) (by omega) ⟨rfl,trivial⟩ rfl rfl rfl ?_
   intro g98 w8 n98
   have e98:=Nat.le_trans bel.size n98.ge
   have l98:=Nat.lt_of_lt_of_le k4.lt n98.ge
   have l98_k5:=Nat.lt_of_lt_of_le k5.lt n98.ge
   have l98_k8:=Nat.lt_of_lt_of_le k8.lt n98.ge
   replace bel:=bel.step n98.below
   replace k5:=k5.step n98.below
   replace k8:=k8.step n98.below
   replace fo2:=fo2.step n98.below
   replace oE:=oE.step n98.below
   replace oN:=oN.step n98.below
   replace oD:=oD.step n98.below
   replace k4:=k4.step n98.below
   have k98:=n98.blk
   refine Seq.append2 rfl rfl rfl Tryz.underlying22 (by kernel_rfl) zero_api_Expr rfl (by decide) (b:=56) (by kernel_rfl) oE (Reads.blk (size:=4) k98 1 rfl) (by intro x hx;simp[flatC,Value.cells] at hx;rcases hx with rfl|rfl|rfl|rfl<;>first|rfl|exact own.own.reads.elim fun A h=>h.elim fun c h=>h.1▸rfl) bel.size (by simp only[maxLen];omega) (by omega) rfl rfl rfl ?_
   intro vE' wa oE' ha hvE
   have aE':=aE.app fo2.lt hvE
   replace k5:=k5.app oE ha
   replace k4:=k4.app oE ha
   replace fo2:=fo2.app aE ha
   replace oN:=oN.app oE ha
   replace oD:=oD.app oE ha
   replace bel:=bel.trans ha.below
   clear oE aE
   obtain⟨A2,c2,rfl,-⟩:=oE'.reads
   have oE:=oE'
   clear oE'
   refine Zf 0 Tryz.underlying45 ?_
   refine Zq k5 ?_
   intro w9 pw9
   replace bel:=bel.put k5 pw9 e5
   replace fo2:=fo2.put k5 pw9 e5
   replace oE:=oE.put k5 pw9 e5
   replace oN:=oN.put k5 pw9 e5
   replace oD:=oD.put k5 pw9 e5
   replace k4:=k4.put pw9 (by omega)
   replace k5:=pw9.blk
   refine Zk11 0 1 4 5 6 7 8 9 10 11 52 (Ztq ?_)
   refine Zf 1 Tryz.underlying45 ?_
   refine Zv (Runs.loadB rfl rfl Tryz.underlying43 rfl k5 rfl) ?_
   refine Zm ?_
   refine Seq.slice (vs:=[_]) (s:=1) rfl rfl rfl Tryz.underlying43 (by kernel_rfl) (zero_int) (by omega) (by omega) ⟨rfl,trivial⟩ rfl rfl rfl ?_
   intro g104 w10 n104
   have e104:=Nat.le_trans bel.size n104.ge
   have l104:=Nat.lt_of_lt_of_le k4.lt n104.ge
   have l104_k5:=Nat.lt_of_lt_of_le k5.lt n104.ge
   replace bel:=bel.step n104.below
   replace k5:=k5.step n104.below
   replace fo2:=fo2.step n104.below
   replace oE:=oE.step n104.below
   replace oN:=oN.step n104.below
   replace oD:=oD.step n104.below
   replace k4:=k4.step n104.below
   have k104:=n104.blk
   refine Seq.append2 rfl rfl rfl Tryz.underlying43 (by kernel_rfl) zero_int rfl (by decide) (b:=8) (by kernel_rfl) oN (Reads.blk (size:=1) k104 1 rfl) (by intro x hx;simp[flatC,Value.cells] at hx;rw[hx];rfl) bel.size (by simp only[maxLen];omega) (by omega) rfl rfl rfl ?_
   intro vN' wb oN' ha hvN
   have aN':=aN.app fo2.lt hvN
   have aND':=(aND.symm.app (fun b hb=>(oD.blockLt b hb).2) hvN).symm
   replace k5:=k5.app oN ha
   replace k4:=k4.app oN ha
   replace fo2:=fo2.app aN ha
   replace oE:=oE.app oN ha
   replace oD:=oD.kept' ha.grown (fun b hb e=>aND b e hb)
   replace bel:=bel.trans ha.below
   clear oN aN aND
   obtain⟨A3,c3,rfl,-⟩:=oN'.reads
   have oN:=oN'
   clear oN'
   refine Zf 1 Tryz.underlying45 ?_
   refine Zq k5 ?_
   intro w11 pw11
   replace bel:=bel.put k5 pw11 e5
   replace fo2:=fo2.put k5 pw11 e5
   replace oE:=oE.put k5 pw11 e5
   replace oN:=oN.put k5 pw11 e5
   replace oD:=oD.put k5 pw11 e5
   replace k4:=k4.put pw11 (by omega)
   replace k5:=pw11.blk
   refine Zk11 0 1 4 5 6 7 8 9 10 11 52 (Ztr ?_)
   refine Zf 2 Tryz.underlying45 ?_
   refine Zv (Runs.loadB rfl rfl Tryz.underlying43 rfl k5 rfl) ?_
   refine Zm ?_
   refine Seq.slice (vs:=[_]) (s:=1) rfl rfl rfl Tryz.underlying43 (by kernel_rfl) (zero_int) (by omega) (by omega) ⟨rfl,trivial⟩ rfl rfl rfl ?_
   intro g110 w12 n110
   have e110:=Nat.le_trans bel.size n110.ge
   have l110:=Nat.lt_of_lt_of_le k4.lt n110.ge
   have l110_k5:=Nat.lt_of_lt_of_le k5.lt n110.ge
   replace bel:=bel.step n110.below
   replace k5:=k5.step n110.below
   replace fo2:=fo2.step n110.below
   replace oE:=oE.step n110.below
   replace oN:=oN.step n110.below
   replace oD:=oD.step n110.below
   replace k4:=k4.step n110.below
   have k110:=n110.blk
   refine Seq.append2 rfl rfl rfl Tryz.underlying43 (by kernel_rfl) zero_int rfl (by decide) (b:=8) (by kernel_rfl) oD (Reads.blk (size:=1) k110 1 rfl) (by intro x hx;simp[flatC,Value.cells] at hx;rw[hx];rfl) bel.size (by simp only[maxLen];omega) (by omega) rfl rfl rfl ?_
   intro vD' wc oD' ha hvD
   have aD':=aD.app fo2.lt hvD
   have aND2:=aND'.app (fun b hb=>(oN.blockLt b hb).2) hvD
   replace k5:=k5.app oD ha
   replace k4:=k4.app oD ha
   replace fo2:=fo2.app aD ha
   replace oE:=oE.app oD ha
   replace oN:=oN.kept' ha.grown (fun b hb e=>aND' b hb e)
   replace bel:=bel.trans ha.below
   clear oD aD
   obtain⟨A4,c4,rfl,-⟩:=oD'.reads
   have oD:=oD'
   clear oD'
   refine Zf 2 Tryz.underlying45 ?_
   refine Zq k5 ?_
   intro w13 pw13
   replace bel:=bel.put k5 pw13 e5
   replace fo2:=fo2.put k5 pw13 e5
   replace oE:=oE.put k5 pw13 e5
   replace oN:=oN.put k5 pw13 e5
   replace oD:=oD.put k5 pw13 e5
   replace k4:=k4.put pw13 (by omega)
   replace k5:=pw13.blk
   refine Zk11 0 1 4 5 6 7 8 9 10 11 52 (Post.block_normal (Ztr ?_))
   refine Zm ?_
   refine Za_ ?_
   refine Za ?_
   refine Zk11 0 1 4 5 6 7 8 9 10 11 52 ?_
   have hlE:(es++[leafE es x]).length=es.length+1:=by simp
   refine Post.round (i+1,blocksOf vA++T,vs++[.agg #[.int .i64 x.op, .int .i64 x.n, .string (strOf x.name),vA]], .slice A2 (es.length+1) c2, .slice A3 (es.length+1) c3, .slice A4 (es.length+1) c4) ⟨rfl,rfl,rfl,rfl,rfl,trivial⟩ ?_ (by dsimp only;omega)
   dsimp only
   rw[htake,hlE,flatC_append,List.map_append,List.map_append,DI_append,DI_append]
   exact⟨by omega,bel,k4,k5,fo2,hfar2,oE,oN,oD,aE',aN',aD',aND2⟩
 ·have hin:i=n:=by
   have hc':¬((i:Int)<n∧(i:Int)<60):=fun h=>by rw[decide_eq_true h.1,decide_eq_true h.2] at hc;cases hc
   omega
  subst hin
  rw[show xs.take i=xs from List.take_of_length_le (by omega)] at fo oE oN oD
  refine Cd.exit (Post.then_exit (Post.round_exit (Post.block_exit (Zts (Zsr ?_)))))
  refine Za ?_
  refine Zk7 0 1 4 5 6 13 30 (Zt (Cd.block ?_))
  have hlt5:=k5.lt
  have hesl:=treesOf_length xs
  generalize hes:treesOf xs=es at *
  have hgT:g5∉T:=fun hm=>by have:=hfar _ hm;omega
  refine Cd.loop (σ:=Nat × List Nat × List Value × Value × Value × Value) (fun s=>[(0, .slice A i c),(1, .slice AK nK cK),(4, .pointer (some ⟨g4,0,none⟩)),(5, .pointer (some ⟨g5,0,none⟩)),(13, .int .i64 (s.1:Int))])
   (fun s w3=>s.1≤nK∧Only wr w3 g5∧Blk w3 g4 45 #[.slice none 0 0, .slice none 0 0, .slice none 0 0, .slice none 0 0, .slice none 0 0, .slice none 0 0]∧Blk w3 g5 45 #[vE,vN,vD,s.2.2.2.1,s.2.2.2.2.1,s.2.2.2.2.2]∧
    ForestT w3 s.2.1 (termsOf es (ks.take s.1)) s.2.2.1∧(∀b∈s.2.1,g5<b)∧(∀b∈T,b∈s.2.1)∧Own w3 wr.heap.size 25 4 s.2.2.2.1 (termsOf es (ks.take s.1)).length (flatC s.2.2.1)∧Own w3 wr.heap.size 3 1 s.2.2.2.2.1 (termsOf es (ks.take s.1)).length (DI ((termsOf es (ks.take s.1)).map zMuch))∧Own w3 wr.heap.size 3 1 s.2.2.2.2.2 (termsOf es (ks.take s.1)).length (DI ((termsOf es (ks.take s.1)).map zDeep))∧
    Apart s.2.2.2.1 s.2.1∧Apart s.2.2.2.2.1 s.2.1∧Apart s.2.2.2.2.2 s.2.1∧Two s.2.2.2.2.1 s.2.2.2.2.2)
   (fun s=>nK-s.1) (0,T,[], .slice none 0 0, .slice none 0 0, .slice none 0 0)
   ⟨Nat.zero_le _,⟨only_of_below (Below.refl _ _) _⟩,k4,k5,ForestT.nil _ _ fo.lt,hfar,fun b h=>h,Own.nil _ _ _ _,Own.nil _ _ _ _,Own.nil _ _ _ _,fun b h=>(by cases h),fun b h=>(by cases h),fun b h=>(by cases h),fun b h=>(by cases h)⟩ ⟨rfl,rfl,rfl,rfl,rfl,trivial⟩ ?_
  have belR:=bel
  have k5R:=k5
  clear bel k4 k5
  rintro⟨k,T3,us,vT,vM,vP⟩ w3 ⟨hk,only,k4,k5,ft,hfar3,hsub,oT,oM,oP,aT,aM,aP,aMP⟩
  dsimp only at hk k5 ft hfar3 hsub oT oM oP aT aM aP aMP⊢
  have hb3:Below w.heap.size w w3:=belR.trans (only_to_below only.row e5 hlt5)
  have hTl:(termsOf es (ks.take k)).length=k:=by rw[termsOf_length,List.length_take];omega
  have bel:=Below.refl w3.heap.size w3
  refine Cd.seq (Zsr ?_)
  refine Zm ?_
  refine Zm ?_
  refine Zv (Runs.len rfl rfl Tryz.underlying54) ?_
  refine Zv (Runs.lss rfl rfl rfl) ?_
  refine Zm ?_
  refine SeqC.start ?_
  refine Zco (fun hcx=>Runs.move rfl rfl) ?_
  refine SeqC.next rfl rfl rfl rfl rfl rfl rfl (fun hcx=>Runs.lss rfl rfl rfl) ?_
  refine SeqC.and rfl rfl rfl rfl rfl rfl rfl ?_
  refine Zk6 0 1 4 5 13 120 (Zt ?_)
  refine Cd.cond rfl (fun hc=> ?_) (fun hc=> ?_)
  ·simp only[Bool.and_eq_true,decide_eq_true_eq] at hc
   obtain⟨x,hxi⟩:∃x,ks[k]? =some x:=⟨_,List.getElem?_eq_getElem (show k<ks.length by omega)⟩
   have hrng:=hxK x (List.mem_of_getElem? hxi)
   have htake:termsOf es (ks.take (k+1))=termsOf es (ks.take k)++[knotT es (termsOf es (ks.take k)) x]:=by rw[List.take_add_one,hxi];exact termsOf_snoc _ _ _
   obtain⟨ad,A1,A2,c1,c2,rfl,hadb,hrd1,hrd2,hcell⟩:=(hK.below hb3) k x hxi
   generalize termsOf es (ks.take k)=ts at *
   have fo3:=fo.grown only.row (fun b e=>by injection e with e;subst e;exact hgT)
   have kk:=own_blk_ne oE.row k5R (by decide)
   have oE3:=oE.kept' only.row (fun b hb e=>kk (by rw[hb,e]))
   have kk2:=own_blk_ne oN.row k5R (by decide)
   have oN3:=oN.kept' only.row (fun b hb e=>kk2 (by rw[hb,e]))
   have kk3:=own_blk_ne oD.row k5R (by decide)
   have oD3:=oD.kept' only.row (fun b hb e=>kk3 (by rw[hb,e]))
   have hg53:=k5.lt
   have hesl60:es.length≤60:=by omega
   refine Cd.skip (Zts (Cd.block (Zsr ?_)))
   refine Zm ?_
   refine Zm ?_
   refine Zv (Runs.indexN rfl rfl rfl Tryz.underlying54 (s:=4) (by kernel_rfl) (j:=k) rfl (by omega)) ?_
   refine Zv (Runs.loadF (ps:=[.int .i64 x.op, .string (strOf x.name), .slice A1 x.exprs.length c1, .slice A2 x.terms.length c2]) rfl rfl Tryz.underlying81 rfl (m:=4) (by kernel_rfl) rfl hcell) ?_
   refine Zl zero_debentureref18_Knot ?_
   intro g14 w4 n14
   have e14:=Nat.le_trans bel.size n14.ge
   have l14:=Nat.lt_of_lt_of_le k5.lt n14.ge
   replace bel:=bel.step n14.below
   replace k5:=k5.step n14.below
   have k14:=n14.blk
   refine Zo 4 k14 ?_
   intro w5 pw5
   replace bel:=bel.put k14 pw5 e14
   replace k5:=k5.put pw5 (by omega)
   replace k14:=pw5.blk
   refine Zk7 0 1 4 5 13 14 120 (Ztq ?_)
   refine Zf 0 Tryz.underlying81 ?_
   refine Zv (Runs.loadB rfl rfl Tryz.underlying3 rfl k14 rfl) ?_
   refine Zf 1 Tryz.underlying81 ?_
   refine Zv (Runs.loadB rfl rfl Tryz.underlying9 rfl k14 rfl) ?_
   refine Zv (Runs.build rfl rfl (run_build_Tm _ _ _)) ?_
   refine Zl zero_api_Term ?_
   intro g15 w6 n15
   have e15:=Nat.le_trans bel.size n15.ge
   have l15:=Nat.lt_of_lt_of_le k14.lt n15.ge
   have l15_k5:=Nat.lt_of_lt_of_le k5.lt n15.ge
   replace bel:=bel.step n15.below
   replace k5:=k5.step n15.below
   replace k14:=k14.step n15.below
   have k15:=n15.blk
   refine Zo 4 k15 ?_
   intro w7 pw7
   replace bel:=bel.put k15 pw7 e15
   replace k5:=k5.put pw7 (by omega)
   replace k14:=k14.put pw7 (by omega)
   replace k15:=pw7.blk
   refine Zk8 0 1 4 5 13 14 15 120 (Ztq ?_)
   refine Za ?_
   refine Za ?_
   refine Zk10 0 1 4 5 13 14 15 16 17 120 (Zts (Zsr ?_))
   refine Za ?_
   refine Zk11 0 1 4 5 13 14 15 16 17 18 120 (Zt (Cd.block ?_))
   refine Cd.loop (σ:=Nat × List Value × Value × Int × Int) (fun s=>[(0, .slice A i c),(1, .slice (some ad) nK cK),(4, .pointer (some ⟨g4,0,none⟩)),(5, .pointer (some ⟨g5,0,none⟩)),(13, .int .i64 (k:Int)),(14, .pointer (some ⟨g14,0,none⟩)),(15, .pointer (some ⟨g15,0,none⟩)),(16, .int .i64 s.2.2.2.1),(17, .int .i64 s.2.2.2.2),(18, .int .i64 (s.1:Int))])
    (fun s w2=>s.1≤x.exprs.length∧s.1≤3∧Below w3.heap.size w3 w2∧Blk w2 g5 45 #[vE,vN,vD,vT,vM,vP]∧Blk w2 g14 81 #[.int .i64 x.op, .string (strOf x.name), .slice A1 x.exprs.length c1, .slice A2 x.terms.length c2]∧Blk w2 g15 25 #[.int .i64 x.op, .string (strOf x.name),s.2.2.1, .slice none 0 0]∧
     Own w2 (g15+1) 35 4 s.2.2.1 (pickK es (x.exprs.take s.1)).length (flatC s.2.1)∧s.2.1.length=(pickK es (x.exprs.take s.1)).length∧(∀j e v,(pickK es (x.exprs.take s.1))[j]? =some e→s.2.1[j]? =some v→RepE w3 (· ∈T) e v)∧s.2.2.2.1=1+sumN (pickK es (x.exprs.take s.1))∧s.2.2.2.2=1+maxD (pickK es (x.exprs.take s.1)))
    (fun s=>3-s.1) (0,[], .slice none 0 0,1,1)
    ⟨Nat.zero_le _,Nat.zero_le _,bel,k5,k14,k15,Own.nil _ _ _ _,rfl,(fun j e v h=>absurd ((List.getElem?_nil (α:=Ex) (i:=j)).symm.trans h) (fun h=>by cases h)),rfl,rfl⟩ ⟨rfl,rfl,rfl,rfl,rfl,rfl,rfl,rfl,rfl,rfl,trivial⟩ ?_
   clear bel k5 k14 k15
   rintro⟨q,avs,vA,nn,dd⟩ w2 ⟨hq,hq3,bel,k5,k14,k15,own,havl,hrep,hnn,hdd⟩
   dsimp only at hq hq3 k15 own havl hrep hnn hdd⊢
   have hlA:=own.blockLt
   have hpl:=pickK_length es (x.exprs.take q)
   have hpl2:(x.exprs.take q).length≤q:=by rw[List.length_take];omega
   have hsb:=sumN_bounds (pickK es (x.exprs.take q))
   have hmb:=maxD_nonneg (pickK es (x.exprs.take q))
   refine Cd.seq (Zsr ?_)
   refine Zm ?_
   refine Zf 2 Tryz.underlying81 ?_
   refine Zv (Runs.loadB rfl rfl Tryz.underlying43 rfl k14 rfl) ?_
   refine Zv (Runs.len rfl rfl Tryz.underlying43) ?_
   refine Zv (Runs.lss rfl rfl rfl) ?_
   refine Zm ?_
   refine SeqC.start ?_
   refine Zco (fun hcx=>Runs.move rfl rfl) ?_
   refine SeqC.next rfl rfl rfl rfl rfl rfl rfl (fun hcx=>Runs.lss rfl rfl rfl) ?_
   refine SeqC.and rfl rfl rfl rfl rfl rfl rfl ?_
   refine Zk11 0 1 4 5 13 14 15 16 17 18 140 (Zt ?_)
   refine Cd.cond rfl (fun hc=> ?_) (fun hc=> ?_)
   ·simp only[Bool.and_eq_true,decide_eq_true_eq] at hc
    obtain⟨z,hz⟩:∃z,x.exprs[q]? =some z:=⟨_,List.getElem?_eq_getElem (by omega)⟩
    obtain⟨ad',rfl,hbl',hc'⟩:=hrd1.2 (by omega)
    have hc':=fun W (hb:Below w3.heap.size w3 W)=>(hb.cell (p:=ad'.add q) (by rw[block_of_add];have:=hb3.size;omega)).trans (hc' q (.int .i64 z) (by rw[get_DI,hz];rfl))
    have hks:x.exprs.take (q+1)=x.exprs.take q++[z]:=by rw[List.take_add_one,hz];rfl
    obtain⟨aE0,cE,rfl,hrE⟩:=oE3.reads
    refine Cd.skip (Zts (Cd.block (Cd.seq ?_)))
    refine Cd.draw 9 (by kernel_rfl) [] (.inl rfl) rfl Grow Grow.refl (fun _ _ _=>Grow.trans) ?_
    intro w8 hw8 zw8
    replace bel:=bel.step hw8
    replace k5:=k5.step hw8
    replace k14:=k14.step hw8
    replace k15:=k15.step hw8
    replace own:=own.step hw8
    have zbel:=bel.size
    have zlt:=k15.lt
    refine Zd (fun w hG=>Runs.fieldB 2 rfl rfl Tryz.underlying81 rfl (by kernel_rfl)) ?_
    refine Zd (fun w hG=>Runs.loadB rfl rfl Tryz.underlying43 rfl (k14.step hG) rfl) ?_
    refine Zdm ?_
    refine Zd (fun w hG=>Runs.index1 rfl rfl rfl Tryz.underlying43 (by kernel_rfl) (j:=q) rfl (by omega)) ?_
    refine Zd (fun w hG=>Runs.load1 rfl rfl Tryz.underlying3 rfl (hc' _ (Below.step bel hG))) ?_
    refine Zd (fun w hG=>Runs.fieldB 0 rfl rfl Tryz.underlying45 rfl (by kernel_rfl)) ?_
    refine Zd (fun w hG=>Runs.loadB rfl rfl Tryz.underlying22 rfl (k5.step hG) rfl) ?_
    refine Zd (fun w hG=>Runs.len rfl rfl Tryz.underlying22) ?_
    refine Dr.call (Φ:=(fun v _=>∃z',v= .int .i64 z'∧((es.length=0∧z'= -1)∨(0<es.length∧z'=(earl z es.length:Int))))) rfl (fun w=>Ze Tryz.func35) rfl (fun _ _ _ _ h=>h) (fun w hG=>(earlierC z es.length w (by omega)).mono fun e w' ⟨⟨z',h1,h2⟩,h3⟩=>⟨_,h1,h3,z',rfl,h2⟩) ?_
    refine Dr.nil ?_
    refine FinX.open (j:=8) rfl ?_
    intro u8
    refine FinX.done (F':=[(0,_),(1,_),(4,_),(5,_),(13,_),(14,_),(15,_),(16,_),(17,_),(18,_),(140,_),(151,_)]) rfl ⟨rfl,rfl,rfl,rfl,rfl,rfl,rfl,rfl,rfl,rfl,rfl,rfl,trivial⟩ ?_
    intro w9 hw9 fw9
    replace bel:=bel.step hw9
    replace k5:=k5.step hw9
    replace k14:=k14.step hw9
    replace k15:=k15.step hw9
    replace own:=own.step hw9
    obtain⟨z',rfl,hz'⟩:=fw9.2
    refine Za ?_
    refine Zk12 0 1 4 5 13 14 15 16 17 18 19 140 (Ztq ?_)
    refine Zm ?_
    refine Zv (Runs.geq rfl rfl rfl) ?_
    refine Zk13 0 1 4 5 13 14 15 16 17 18 19 140 153 (Zt ?_)
    refine Cd.condD rfl (fun h=> ?_) (fun h=> ?_)
    ·obtain⟨h0i,rfl⟩:0<es.length∧z'=(earl z es.length:Int):=by rcases hz' with ⟨h1,h2⟩|h2;exact absurd h (by omega);exact h2
     clear hz'
     have hj:=earl_lt z h0i
     generalize hjj:earl z es.length=j at *
     obtain⟨e,he⟩:∃e,es[j]? =some e:=⟨_,List.getElem?_eq_getElem (by omega)⟩
     obtain⟨ev,hev⟩:∃ev,vs[j]? =some ev:=⟨_,List.getElem?_eq_getElem (by rw[fo3.len];omega)⟩
     have hre:=fo3.rep j e ev he hev
     obtain⟨AA,cc,rfl⟩:=hre.form
     have h4:∀y∈vs,y.cells.size=4:=sizes_spec fo3.cells
     obtain⟨adE,rfl,hbE,hcE⟩:=hrE.2 (by omega)
     have hcE:∀W,Below w3.heap.size w3 W→∀(q:Nat) (u:Value),([.int .i64 e.op, .int .i64 e.n, .string (strOf e.name), .slice AA e.args.length cc]:List Value)[q]? =some u→W.cell? ((adE.add (j*4)).add q)=some u:=fun W hb q u hq=>(hb.cell (p:=(adE.add (j*4)).add q) (by rw[block_of_add,block_of_add];exact hbE)).trans (by rw[add_of_add];exact hcE _ _ (flatC_at h4 hev q u (by simpa[Value.cells] using hq)))
     obtain⟨aN0,cN,rfl,hrN⟩:=oN3.reads
     obtain⟨adN,rfl,hbN,hcN⟩:=hrN.2 (by omega)
     have hcN:=fun W (hb:Below w3.heap.size w3 W)=>(hb.cell (p:=adN.add j) (by rw[block_of_add];exact hbN)).trans (hcN j (.int .i64 (zNodes e)) (by rw[get_DI,List.getElem?_map,he];rfl))
     obtain⟨aD0,cD,rfl,hrD⟩:=oD3.reads
     obtain⟨adD,rfl,hbD,hcD⟩:=hrD.2 (by omega)
     have hcD:=fun W (hb:Below w3.heap.size w3 W)=>(hb.cell (p:=adD.add j) (by rw[block_of_add];exact hbD)).trans (hcD j (.int .i64 (zDepth e)) (by rw[get_DI,List.getElem?_map,he];rfl))
     have hpk:pickK es (x.exprs.take (q+1))=pickK es (x.exprs.take q)++[e]:=by rw[hks];exact pickK_some _ _ _ _ (by rw[hjj];exact he)
     have hzb:=z_bounds e
     refine Cd.seq ?_
     refine Cd.draw 8 (by kernel_rfl) [] (.inl rfl) rfl Grow Grow.refl (fun _ _ _=>Grow.trans) ?_
     intro w10 hw10 zw10
     replace bel:=bel.step hw10
     replace k5:=k5.step hw10
     replace k14:=k14.step hw10
     replace k15:=k15.step hw10
     replace own:=own.step hw10
     have zbel:=bel.size
     have zlt:=k15.lt
     refine Zd (fun w hG=>Runs.fieldB 2 rfl rfl Tryz.underlying25 rfl (by kernel_rfl)) ?_
     refine Zd (fun w hG=>Runs.loadB rfl rfl Tryz.underlying22 rfl (k15.step hG) rfl) ?_
     refine Zd (fun w hG=>Runs.fieldB 0 rfl rfl Tryz.underlying45 rfl (by kernel_rfl)) ?_
     refine Zd (fun w hG=>Runs.loadB rfl rfl Tryz.underlying22 rfl (k5.step hG) rfl) ?_
     refine Zdm ?_
     refine Zd (fun w hG=>Runs.indexN rfl rfl rfl Tryz.underlying22 (s:=4) (by kernel_rfl) (j:=j) rfl (by omega)) ?_
     refine Zd (fun w hG=>Runs.loadF (ps:=[.int .i64 e.op, .int .i64 e.n, .string (strOf e.name), .slice AA e.args.length cc]) rfl rfl Tryz.underlying35 rfl (m:=4) (by kernel_rfl) rfl (hcE w (Below.step bel hG))) ?_
     refine Dr.slice (vs:=[_]) (s:=4) rfl rfl rfl rfl Tryz.underlying22 (by kernel_rfl) zero_api_Expr (by omega) (by omega) ⟨rfl,trivial⟩ rfl ?_
     refine Dr.nil ?_
     refine FinX.open (j:=7) rfl ?_
     intro u7
     refine FinX.done (F':=[(0,_),(1,_),(4,_),(5,_),(13,_),(14,_),(15,_),(16,_),(17,_),(18,_),(19,_),(140,_),(153,_),(155,_),(161,_)]) rfl ⟨rfl,rfl,rfl,rfl,rfl,rfl,rfl,rfl,rfl,rfl,rfl,rfl,rfl,rfl,rfl,trivial⟩ ?_
     intro w11 hw11 fw11
     replace bel:=bel.step hw11
     replace k5:=k5.step hw11
     replace k14:=k14.step hw11
     replace k15:=k15.step hw11
     replace own:=own.step hw11
     obtain⟨gS,rfl,kS,-⟩:=fw11.2
     have hne8:vA.ownBlock≠some g15:=fun e'=>by have:=(own.blockLt _ e').1;omega
     refine Seq.append rfl rfl rfl Tryz.underlying22 (by kernel_rfl) zero_api_Expr rfl (by decide) (b:=56) (by kernel_rfl) own (Reads.blk (size:=4) kS 1 rfl) (by intro x hx;simp[flatC,Value.cells] at hx;rcases hx with rfl|rfl|rfl|rfl<;>rfl) (Nat.succ_le_of_lt k15.lt) (by simp only[maxLen];omega) (by omega) rfl rfl rfl ?_
     intro vA' wa oA ha
     replace k14:=k14.app own ha
     replace k5:=k5.app own ha
     replace k15:=k15.grown ha.grown (fun e'=>hne8 e'.symm)
     replace bel:=bel.trans (ha.below.mono (by omega))
     clear own
     obtain⟨A2,c2,rfl,-⟩:=oA.reads
     have own:=oA
     have hne9:(Value.slice A2 ((pickK es (x.exprs.take q)).length+1) c2).ownBlock≠some g15:=fun e'=>by have:=(own.blockLt _ e').1;omega
     refine Zf 2 Tryz.underlying25 ?_
     refine Zq k15 ?_
     intro w12 pw12
     replace bel:=bel.put k15 pw12 e15
     replace k5:=k5.put pw12 (by omega)
     replace k14:=k14.put pw12 (by omega)
     replace own:=own.put k15 pw12 e15
     replace k15:=pw12.blk
     refine Zk13 0 1 4 5 13 14 15 16 17 18 19 140 153 (Ztq ?_)
     refine Zm ?_
     refine Zf 1 Tryz.underlying45 ?_
     refine Zv (Runs.loadB rfl rfl Tryz.underlying43 rfl k5 rfl) ?_
     refine Zm ?_
     refine Zv (Runs.index1 rfl rfl rfl Tryz.underlying43 (by kernel_rfl) (j:=j) rfl (by omega)) ?_
     refine Zv (Runs.load1 rfl rfl Tryz.underlying3 rfl (hcN _ bel)) ?_
     refine Za_ ?_
     refine Za ?_
     refine Zk13 0 1 4 5 13 14 15 16 17 18 19 140 153 (Ztr ?_)
     refine Zm ?_
     refine Zf 2 Tryz.underlying45 ?_
     refine Zv (Runs.loadB rfl rfl Tryz.underlying43 rfl k5 rfl) ?_
     refine Zm ?_
     refine Zv (Runs.index1 rfl rfl rfl Tryz.underlying43 (by kernel_rfl) (j:=j) rfl (by omega)) ?_
     refine Zv (Runs.load1 rfl rfl Tryz.underlying3 rfl (hcD _ bel)) ?_
     refine Za_ ?_
     refine Zv (Runs.max2 rfl rfl rfl) ?_
     refine Za ?_
     refine Zk13 0 1 4 5 13 14 15 16 17 18 19 140 153 (Post.block_normal (Ztr ?_))
     refine Zm ?_
     refine Za_ ?_
     refine Za ?_
     refine Zk13 0 1 4 5 13 14 15 16 17 18 19 140 153 ?_
     have hlen2:(pickK es (x.exprs.take (q+1))).length=(pickK es (x.exprs.take q)).length+1:=by rw[hpk];simp
     refine Post.round (q+1,avs++[.agg #[.int .i64 e.op, .int .i64 e.n, .string (strOf e.name), .slice AA e.args.length cc]], .slice A2 ((pickK es (x.exprs.take q)).length+1) c2,nn+zNodes e,max dd (zDepth e+1)) ⟨rfl,rfl,rfl,rfl,rfl,rfl,rfl,rfl,rfl,rfl,trivial⟩ ⟨by dsimp only;omega,by dsimp only;omega,bel,k5,k14,k15,?_,?_,?_,?_,?_⟩ (by dsimp only;omega)
     ·dsimp only
      rw[hlen2,flatC_append]
      exact own
     ·dsimp only
      rw[hlen2,List.length_append,havl];rfl
     ·dsimp only
      rw[hpk]
      intro q y v hq hv
      rcases Nat.lt_or_ge q avs.length with hqi|hqi
      ·rw[List.getElem?_append_left hqi] at hv
       rw[List.getElem?_append_left (by omega)] at hq
       exact hrep q y v hq hv
      ·rw[List.getElem?_append_right hqi] at hv
       rw[List.getElem?_append_right (by omega),←havl] at hq
       have h0:q-avs.length=0:=by
        have:=(List.getElem?_eq_some_iff.1 hv).1
        simp at this
        exact this
       rw[h0] at hq hv
       injection hq with hq
       injection hv with hv
       subst hq hv
       exact hre
     ·dsimp only
      rw[hpk,sumN_snoc,hnn];omega
     ·dsimp only
      rw[hpk,maxD_snoc,hdd];omega
    ·obtain⟨h0i,rfl⟩:es.length=0∧z'= -1:=by rcases hz' with ⟨h1,h2⟩|⟨h1,h2⟩;exact⟨h1,h2⟩;exact absurd (by omega) h
     have hpk:pickK es (x.exprs.take (q+1))=pickK es (x.exprs.take q):=by rw[hks];exact pickK_none _ _ _ h0i
     refine Cd.skip (Post.block_normal (Ztr ?_))
     refine Zm ?_
     refine Za_ ?_
     refine Za ?_
     refine Zk13 0 1 4 5 13 14 15 16 17 18 19 140 153 ?_
     exact Post.round (q+1,avs,vA,nn,dd) ⟨rfl,rfl,rfl,rfl,rfl,rfl,rfl,rfl,rfl,rfl,trivial⟩ ⟨by dsimp only;omega,by dsimp only;omega,bel,k5,k14,k15,by dsimp only;rw[hpk];exact own,by dsimp only;rw[hpk];exact havl,by dsimp only;rw[hpk];exact hrep,by dsimp only;rw[hpk];exact hnn,by dsimp only;rw[hpk];exact hdd⟩ (by dsimp only;omega)
   ·have hfull:x.exprs.take q=x.exprs.take 3:=by
     have hc':¬((q:Int)<x.exprs.length∧(q:Int)<3):=fun h=>by rw[decide_eq_true h.1,decide_eq_true h.2] at hc;cases hc
     rcases Nat.lt_or_ge q 3 with h5|h5
     ·rw[List.take_of_length_le (by omega),List.take_of_length_le (by omega)]
     ·rw[show q=3 by omega]
    rw[hfull] at own havl hrep hnn hdd
    have hplE:=pickK_length es (x.exprs.take 3)
    have hplE2:(x.exprs.take 3).length≤3:=by rw[List.length_take];omega
    have hsbE:=sumN_bounds (pickK es (x.exprs.take 3))
    have hmbE:=maxD_nonneg (pickK es (x.exprs.take 3))
    generalize hae:pickK es (x.exprs.take 3)=ae at *
    clear hfull hpl hpl2 hsb hmb hlA
    have hltE:∀b,vA.ownBlock=some b→g15+1≤b:=fun b hb=>(own.blockLt b hb).1
    obtain⟨AV,cV,rfl,-⟩:=own.reads
    refine Cd.exit (Post.then_exit (Post.round_exit (Post.block_exit (Zts (Zsr ?_)))))
    refine Za ?_
    refine Zk12 0 1 4 5 13 14 15 16 17 18 20 140 (Zt (Cd.block ?_))
    refine Cd.loop (σ:=Nat × List Value × Value × Int × Int) (fun s=>[(0, .slice A i c),(1, .slice (some ad) nK cK),(4, .pointer (some ⟨g4,0,none⟩)),(5, .pointer (some ⟨g5,0,none⟩)),(13, .int .i64 (k:Int)),(14, .pointer (some ⟨g14,0,none⟩)),(15, .pointer (some ⟨g15,0,none⟩)),(16, .int .i64 s.2.2.2.1),(17, .int .i64 s.2.2.2.2),(20, .int .i64 (s.1:Int))])
     (fun s w2=>s.1≤x.terms.length∧s.1≤4∧Below w3.heap.size w3 w2∧Blk w2 g5 45 #[vE,vN,vD,vT,vM,vP]∧Blk w2 g14 81 #[.int .i64 x.op, .string (strOf x.name), .slice A1 x.exprs.length c1, .slice A2 x.terms.length c2]∧Blk w2 g15 25 #[.int .i64 x.op, .string (strOf x.name), .slice AV ae.length cV,s.2.2.1]∧
      Own w2 (g15+1) 35 4 (.slice AV ae.length cV) ae.length (flatC avs)∧OwnA w2 (g15+1) 25 4 s.2.2.1 (pickM ts (x.terms.take s.1)).length (flatC s.2.1)∧s.2.1.length=(pickM ts (x.terms.take s.1)).length∧(∀j e v,(pickM ts (x.terms.take s.1))[j]? =some e→s.2.1[j]? =some v→RepT w3 (· ∈T3) e v)∧s.2.2.2.1=1+sumN ae+sumM (pickM ts (x.terms.take s.1))∧s.2.2.2.2=1+max (maxD ae) (maxM (pickM ts (x.terms.take s.1))))
     (fun s=>4-s.1) (0,[], .slice none 0 0,nn,dd)
     ⟨Nat.zero_le _,Nat.zero_le _,bel,k5,k14,k15,own,⟨Own.nil _ _ _ _⟩,rfl,(fun j e v h=>absurd ((List.getElem?_nil (α:=Tm) (i:=j)).symm.trans h) (fun h=>by cases h)),by show nn=1+sumN ae+0;omega,by show dd=1+max (maxD ae) 0;omega⟩ ⟨rfl,rfl,rfl,rfl,rfl,rfl,rfl,rfl,rfl,rfl,trivial⟩ ?_
    clear bel k5 k14 k15 own
    clear hnn hdd
    rintro⟨q,tvs,vB,nn,dd⟩ w2 ⟨hq,hq3,bel,k5,k14,k15,own,ownT,htvl,hrepT,hnn,hdd⟩
    dsimp only at hq hq3 k15 ownT htvl hrepT hnn hdd⊢
    have hlB:=ownT.own.blockLt
    have hpl:=pickM_length ts (x.terms.take q)
    have hpl2:(x.terms.take q).length≤q:=by rw[List.length_take];omega
    have hsb:=sumM_bounds (pickM ts (x.terms.take q))
    have hmb:=maxM_nonneg (pickM ts (x.terms.take q))
    refine Cd.seq (Zsr ?_)
    refine Zm ?_
    refine Zf 3 Tryz.underlying81 ?_
    refine Zv (Runs.loadB rfl rfl Tryz.underlying43 rfl k14 rfl) ?_
    refine Zv (Runs.len rfl rfl Tryz.underlying43) ?_
    refine Zv (Runs.lss rfl rfl rfl) ?_
    refine Zm ?_
    refine SeqC.start ?_
    refine Zco (fun hcx=>Runs.move rfl rfl) ?_
    refine SeqC.next rfl rfl rfl rfl rfl rfl rfl (fun hcx=>Runs.lss rfl rfl rfl) ?_
    refine SeqC.and rfl rfl rfl rfl rfl rfl rfl ?_
    refine Zk11 0 1 4 5 13 14 15 16 17 20 187 (Zt ?_)
    refine Cd.cond rfl (fun hc=> ?_) (fun hc=> ?_)
    ·simp only[Bool.and_eq_true,decide_eq_true_eq] at hc
     obtain⟨z,hz⟩:∃z,x.terms[q]? =some z:=⟨_,List.getElem?_eq_getElem (by omega)⟩
     obtain⟨ad',rfl,hbl',hc'⟩:=hrd2.2 (by omega)
     have hc':=fun W (hb:Below w3.heap.size w3 W)=>(hb.cell (p:=ad'.add q) (by rw[block_of_add];have:=hb3.size;omega)).trans (hc' q (.int .i64 z) (by rw[get_DI,hz];rfl))
     have hks:x.terms.take (q+1)=x.terms.take q++[z]:=by rw[List.take_add_one,hz];rfl
     refine Cd.skip (Zts (Cd.block (Zsr ?_)))
     refine Zf 3 Tryz.underlying81 ?_
     refine Zv (Runs.loadB rfl rfl Tryz.underlying43 rfl k14 rfl) ?_
     refine Zm ?_
     refine Zv (Runs.index1 rfl rfl rfl Tryz.underlying43 (by kernel_rfl) (j:=q) rfl (by omega)) ?_
     refine Zv (Runs.load1 rfl rfl Tryz.underlying3 rfl (hc' _ bel)) ?_
     refine Zm ?_
     refine Zc (Ze Tryz.func35) (earlierC z k _ (by omega)) ?_
     rintro e w5 ⟨⟨z',rfl,hz'⟩,hb5⟩
     refine⟨_,rfl,?_⟩
     replace bel:=bel.step hb5
     replace k5:=k5.step hb5
     replace k14:=k14.step hb5
     replace k15:=k15.step hb5
     replace own:=own.step hb5
     replace ownT:=ownT.step hb5
     refine Za ?_
     refine Zk12 0 1 4 5 13 14 15 16 17 20 21 187 (Ztq ?_)
     refine Zm ?_
     refine Zv (Runs.geq rfl rfl rfl) ?_
     refine Zk13 0 1 4 5 13 14 15 16 17 20 21 187 198 (Zt ?_)
     refine Cd.condD rfl (fun h=> ?_) (fun h=> ?_)
     ·obtain⟨h0i,rfl⟩:0<k∧z'=(earl z k:Int):=by rcases hz' with ⟨h1,h2⟩|h2;exact absurd h (by omega);exact h2
      clear hz'
      have hj:=earl_lt z h0i
      generalize hjj:earl z k=j at *
      obtain⟨e,he⟩:∃e,ts[j]? =some e:=⟨_,List.getElem?_eq_getElem (by omega)⟩
      obtain⟨ev,hev⟩:∃ev,us[j]? =some ev:=⟨_,List.getElem?_eq_getElem (by rw[ft.len];omega)⟩
      have hre:=ft.rep j e ev he hev
      obtain⟨B1,d1,B2,d2,rfl⟩:=hre.form
      have h4:∀y∈us,y.cells.size=4:=sizes_spec ft.cells
      obtain⟨aT0,cT,rfl,hrT⟩:=oT.reads
      obtain⟨adT,rfl,hbT,hcT⟩:=hrT.2 (by omega)
      have hcT:∀W,Below w3.heap.size w3 W→∀(q:Nat) (u:Value),([.int .i64 e.op, .string (strOf e.name), .slice B1 e.exprs.length d1, .slice B2 e.terms.length d2]:List Value)[q]? =some u→W.cell? ((adT.add (j*4)).add q)=some u:=fun W hb q u hq=>(hb.cell (p:=(adT.add (j*4)).add q) (by rw[block_of_add,block_of_add];exact hbT)).trans (by rw[add_of_add];exact hcT _ _ (flatC_at h4 hev q u (by simpa[Value.cells] using hq)))
      obtain⟨aM0,cM,rfl,hrM⟩:=oM.reads
      obtain⟨adM,rfl,hbM,hcM⟩:=hrM.2 (by omega)
      have hcM:=fun W (hb:Below w3.heap.size w3 W)=>(hb.cell (p:=adM.add j) (by rw[block_of_add];exact hbM)).trans (hcM j (.int .i64 (zMuch e)) (by rw[get_DI,List.getElem?_map,he];rfl))
      obtain⟨aP0,cP,rfl,hrP⟩:=oP.reads
      obtain⟨adP,rfl,hbP,hcP⟩:=hrP.2 (by omega)
      have hcP:=fun W (hb:Below w3.heap.size w3 W)=>(hb.cell (p:=adP.add j) (by rw[block_of_add];exact hbP)).trans (hcP j (.int .i64 (zDeep e)) (by rw[get_DI,List.getElem?_map,he];rfl))
      have hpk:pickM ts (x.terms.take (q+1))=pickM ts (x.terms.take q)++[e]:=by rw[hks];exact pickM_some _ _ _ _ (by rw[hTl,hjj];exact he)
      have hzb:=zT_bounds e
      refine Cd.seq ?_
      refine Cd.draw 8 (by kernel_rfl) [] (.inl rfl) rfl Grow Grow.refl (fun _ _ _=>Grow.trans) ?_
      intro w8 hw8 zw8
      replace bel:=bel.step hw8
      replace k5:=k5.step hw8
      replace k14:=k14.step hw8
      replace k15:=k15.step hw8
      replace own:=own.step hw8
      replace ownT:=ownT.step hw8
      have zbel:=bel.size
      have zlt:=k15.lt
      refine Zd (fun w hG=>Runs.fieldB 3 rfl rfl Tryz.underlying25 rfl (by kernel_rfl)) ?_
      refine Zd (fun w hG=>Runs.loadB rfl rfl Tryz.underlying23 rfl (k15.step hG) rfl) ?_
      refine Zd (fun w hG=>Runs.fieldB 3 rfl rfl Tryz.underlying45 rfl (by kernel_rfl)) ?_
      refine Zd (fun w hG=>Runs.loadB rfl rfl Tryz.underlying23 rfl (k5.step hG) rfl) ?_
      refine Zdm ?_
      refine Zd (fun w hG=>Runs.indexN rfl rfl rfl Tryz.underlying23 (s:=4) (by kernel_rfl) (j:=j) rfl (by omega)) ?_
      refine Zd (fun w hG=>Runs.loadF (ps:=[.int .i64 e.op, .string (strOf e.name), .slice B1 e.exprs.length d1, .slice B2 e.terms.length d2]) rfl rfl Tryz.underlying25 rfl (m:=4) (by kernel_rfl) rfl (hcT w (Below.step bel hG))) ?_
      refine Dr.slice (vs:=[_]) (s:=4) rfl rfl rfl rfl Tryz.underlying23 (by kernel_rfl) zero_api_Term (by omega) (by omega) ⟨rfl,trivial⟩ rfl ?_
      refine Dr.nil ?_
      refine FinX.open (j:=7) rfl ?_
      intro u7
      refine FinX.done (F':=[(0,_),(1,_),(4,_),(5,_),(13,_),(14,_),(15,_),(16,_),(17,_),(20,_),(21,_),(187,_),(198,_),(200,_),(206,_)]) rfl ⟨rfl,rfl,rfl,rfl,rfl,rfl,rfl,rfl,rfl,rfl,rfl,rfl,rfl,rfl,rfl,trivial⟩ ?_
      intro w9 hw9 fw9
      replace bel:=bel.step hw9
      replace k5:=k5.step hw9
      replace k14:=k14.step hw9
      replace k15:=k15.step hw9
      replace own:=own.step hw9
      replace ownT:=ownT.step hw9
      obtain⟨gS,rfl,kS,-⟩:=fw9.2
      have hne8:vB.ownBlock≠some g15:=fun e'=>by have:=(ownT.own.blockLt _ e').1;omega
      refine Seq.append rfl rfl rfl Tryz.underlying23 (by kernel_rfl) zero_api_Term rfl (by decide) (b:=72) (by kernel_rfl) ownT.own (Reads.blk (size:=4) kS 1 rfl) (by intro x hx;simp[flatC,Value.cells] at hx;rcases hx with rfl|rfl|rfl|rfl<;>rfl) (Nat.succ_le_of_lt k15.lt) (by simp only[maxLen];omega) (by omega) rfl rfl rfl ?_
      intro vB' wa oA ha
      replace k14:=k14.app ownT.own ha
      replace k5:=k5.app ownT.own ha
      replace own:=own.app ownT.own ha
      replace k15:=k15.grown ha.grown (fun e'=>hne8 e'.symm)
      replace bel:=bel.trans (ha.below.mono (by omega))
      clear ownT
      obtain⟨A9,c9,rfl,-⟩:=oA.reads
      have ownT:=OwnA.mk oA
      have hne9:(Value.slice A9 ((pickM ts (x.terms.take q)).length+1) c9).ownBlock≠some g15:=fun e'=>by have:=(ownT.own.blockLt _ e').1;omega
      refine Zf 3 Tryz.underlying25 ?_
      refine Zq k15 ?_
      intro w10 pw10
      replace bel:=bel.put k15 pw10 e15
      replace k5:=k5.put pw10 (by omega)
      replace k14:=k14.put pw10 (by omega)
      replace own:=own.put k15 pw10 e15
      replace ownT:=ownT.put k15 pw10 e15
      replace k15:=pw10.blk
      refine Zk13 0 1 4 5 13 14 15 16 17 20 21 187 198 (Ztq ?_)
      refine Zm ?_
      refine Zf 4 Tryz.underlying45 ?_
      refine Zv (Runs.loadB rfl rfl Tryz.underlying43 rfl k5 rfl) ?_
      refine Zm ?_
      refine Zv (Runs.index1 rfl rfl rfl Tryz.underlying43 (by kernel_rfl) (j:=j) rfl (by omega)) ?_
      refine Zv (Runs.load1 rfl rfl Tryz.underlying3 rfl (hcM _ bel)) ?_
      refine Za_ ?_
      refine Za ?_
      refine Zk13 0 1 4 5 13 14 15 16 17 20 21 187 198 (Ztr ?_)
      refine Zm ?_
      refine Zf 5 Tryz.underlying45 ?_
      refine Zv (Runs.loadB rfl rfl Tryz.underlying43 rfl k5 rfl) ?_
      refine Zm ?_
      refine Zv (Runs.index1 rfl rfl rfl Tryz.underlying43 (by kernel_rfl) (j:=j) rfl (by omega)) ?_
      refine Zv (Runs.load1 rfl rfl Tryz.underlying3 rfl (hcP _ bel)) ?_
      refine Za_ ?_
      refine Zv (Runs.max2 rfl rfl rfl) ?_
      refine Za ?_
      refine Zk13 0 1 4 5 13 14 15 16 17 20 21 187 198 (Post.block_normal (Ztr ?_))
      refine Zm ?_
      refine Za_ ?_
      refine Za ?_
      refine Zk13 0 1 4 5 13 14 15 16 17 20 21 187 198 ?_
      have hlen2:(pickM ts (x.terms.take (q+1))).length=(pickM ts (x.terms.take q)).length+1:=by rw[hpk];simp
      refine Post.round (q+1,tvs++[.agg #[.int .i64 e.op, .string (strOf e.name), .slice B1 e.exprs.length d1, .slice B2 e.terms.length d2]], .slice A9 ((pickM ts (x.terms.take q)).length+1) c9,nn+zMuch e,max dd (zDeep e+1)) ⟨rfl,rfl,rfl,rfl,rfl,rfl,rfl,rfl,rfl,rfl,trivial⟩ ⟨by dsimp only;omega,by dsimp only;omega,bel,k5,k14,k15,own,?_,?_,?_,?_,?_⟩ (by dsimp only;omega)
      ·dsimp only
       rw[hlen2,flatC_append]
       exact ownT
      ·dsimp only
       rw[hlen2,List.length_append,htvl];rfl
      ·dsimp only
       rw[hpk]
       intro q y v hq hv
       rcases Nat.lt_or_ge q tvs.length with hqi|hqi
       ·rw[List.getElem?_append_left hqi] at hv
        rw[List.getElem?_append_left (by omega)] at hq
        exact hrepT q y v hq hv
       ·rw[List.getElem?_append_right hqi] at hv
        rw[List.getElem?_append_right (by omega),←htvl] at hq
        have h0:q-tvs.length=0:=by
         have:=(List.getElem?_eq_some_iff.1 hv).1
         simp at this
         exact this
        rw[h0] at hq hv
        injection hq with hq
        injection hv with hv
        subst hq hv
        exact hre
      ·dsimp only
       rw[hpk,sumM_snoc,hnn];omega
      ·dsimp only
       rw[hpk,maxM_snoc,hdd];omega
     ·obtain⟨h0i,rfl⟩:k=0∧z'= -1:=by rcases hz' with ⟨h1,h2⟩|⟨h1,h2⟩;exact⟨h1,h2⟩;exact absurd (by omega) h
      have hpk:pickM ts (x.terms.take (q+1))=pickM ts (x.terms.take q):=by rw[hks];exact pickM_none _ _ _ (by omega)
      refine Cd.skip (Post.block_normal (Ztr ?_))
      refine Zm ?_
      refine Za_ ?_
      refine Za ?_
      refine Zk13 0 1 4 5 13 14 15 16 17 20 21 187 198 ?_
      exact Post.round (q+1,tvs,vB,nn,dd) ⟨rfl,rfl,rfl,rfl,rfl,rfl,rfl,rfl,rfl,rfl,trivial⟩ ⟨by dsimp only;omega,by dsimp only;omega,bel,k5,k14,k15,own,by dsimp only;rw[hpk];exact ownT,by dsimp only;rw[hpk];exact htvl,by dsimp only;rw[hpk];exact hrepT,by dsimp only;rw[hpk];exact hnn,by dsimp only;rw[hpk];exact hdd⟩ (by dsimp only;omega)
    ·have hfullT:x.terms.take q=x.terms.take 4:=by
      have hc':¬((q:Int)<x.terms.length∧(q:Int)<4):=fun h=>by rw[decide_eq_true h.1,decide_eq_true h.2] at hc;cases hc
      rcases Nat.lt_or_ge q 4 with h5|h5
      ·rw[List.take_of_length_le (by omega),List.take_of_length_le (by omega)]
      ·rw[show q=4 by omega]
     rw[hfullT] at ownT htvl hrepT hnn hdd
     have hplT:=pickM_length ts (x.terms.take 4)
     have hplT2:(x.terms.take 4).length≤4:=by rw[List.length_take];omega
     have hkn:knotT es ts x= .mk x.op x.name ae (pickM ts (x.terms.take 4)):=by unfold knotT;rw[hae]
     generalize hat:pickM ts (x.terms.take 4)=am at *
     rw[hkn] at htake
     refine Cd.exit (Post.then_exit (Post.round_exit (Post.block_exit (Ztq ?_))))
     refine Zm ?_
     refine Zm ?_
     refine Zc (Ze Tryz.func36) (toldK nn dd ae am x.op x.name _ hnn hdd) ?_
     rintro e w6 ⟨rfl,hb6⟩
     refine⟨_,rfl,?_⟩
     replace bel:=bel.step hb6
     replace k5:=k5.step hb6
     replace k14:=k14.step hb6
     replace k15:=k15.step hb6
     replace own:=own.step hb6
     replace ownT:=ownT.step hb6
     have hlB:=ownT.own.blockLt
     have oT0:=oT
     have oM0:=oM
     have oP0:=oP
     have oT:=oT.step bel
     have oM:=oM.step bel
     have oP:=oP.step bel
     have ltT:∀b,vT.ownBlock=some b→b<g15+1:=fun b hb=>by have:=(oT0.blockLt b hb).2;omega
     have ltM:∀b,vM.ownBlock=some b→b<g15+1:=fun b hb=>by have:=(oM0.blockLt b hb).2;omega
     have ltP:∀b,vP.ownBlock=some b→b<g15+1:=fun b hb=>by have:=(oP0.blockLt b hb).2;omega
     have aT:=(aT.more ltT (fun b hb=>(hlB b hb).1)).more ltT hltE
     have aM:=(aM.more ltM (fun b hb=>(hlB b hb).1)).more ltM hltE
     have aP:=(aP.more ltP (fun b hb=>(hlB b hb).1)).more ltP hltE
     have ft2:=(ft.step bel).more (nm:=x.name) havl htvl (by omega) (by omega) hrng.op hrng.name hrng.nlen (fun j e v he hv=>(hrep j e v he hv).mono (fun b h=>hsub b h) (fun p hp=>bel.cell (fo3.lt _ hp))) (fun j e v he hv=>(hrepT j e v he hv).mono (fun _ h=>h) (fun p hp=>bel.cell (ft.lt _ hp))) own ownT.own
     generalize hT4:blocksOf (.slice AV ae.length cV)++(blocksOf vB++T3)=T4 at *
     have hmem4:∀b∈T4,g5<b:=fun b hm=>by
      rw[←hT4] at hm
      rcases List.mem_append.1 hm with hm|hm
      ·have:=hltE _ (mem_blocksOf.1 hm);omega
      ·rcases List.mem_append.1 hm with hm|hm
       ·have:=(hlB _ (mem_blocksOf.1 hm)).1;omega
       ·exact hfar3 _ hm
     have hg5T:g5∉T4:=fun hm=>by have:=hmem4 _ hm;omega
     have hsub4:∀b∈T,b∈T4:=fun b hb=>by rw[←hT4];exact List.mem_append_right _ (List.mem_append_right _ (hsub b hb))
     have k4:=k4.step bel
     have l54:g4≠g5:=by omega
     replace only:=only.step bel
     clear bel
     obtain⟨AB,cB,rfl,-⟩:=ownT.own.reads
     refine Zm ?_
     refine Zv (Runs.extract rfl rfl rfl) ?_
     refine Zv (Runs.extract rfl rfl rfl) ?_
     refine Za ?_
     refine Za ?_
     refine Zk11 0 1 4 5 13 14 15 16 17 20 187 (Ztq ?_)
     refine Zf 3 Tryz.underlying45 ?_
     refine Zv (Runs.loadB rfl rfl Tryz.underlying23 rfl k5 rfl) ?_
     refine Zv (Runs.loadW rfl rfl Tryz.underlying25 rfl k15 (m:=4) (by kernel_rfl) rfl) ?_
     refine Seq.slice (vs:=[_]) (s:=4) rfl rfl rfl Tryz.underlying23 (by kernel_rfl) (zero_api_Term) (by omega) (by omega) ⟨rfl,trivial⟩ rfl rfl rfl ?_
     intro g233 w8 n233
     have l233:=Nat.lt_of_lt_of_le k4.lt n233.ge
     have l233_k5:=Nat.lt_of_lt_of_le k5.lt n233.ge
     have l233_k15:=Nat.lt_of_lt_of_le k15.lt n233.ge
     replace k5:=k5.step n233.below
     replace k15:=k15.step n233.below
     replace only:=only.step n233.below
     replace ft2:=ft2.step n233.below
     replace oT:=oT.step n233.below
     replace oM:=oM.step n233.below
     replace oP:=oP.step n233.below
     replace k4:=k4.step n233.below
     have k233:=n233.blk
     refine Seq.append2 rfl rfl rfl Tryz.underlying23 (by kernel_rfl) zero_api_Term rfl (by decide) (b:=72) (by kernel_rfl) oT (Reads.blk (size:=4) k233 1 rfl) (by intro x hx;simp[flatC,Value.cells] at hx;rcases hx with rfl|rfl|rfl|rfl<;>rfl) only.row.size (by simp only[maxLen];omega) (by omega) rfl rfl rfl ?_
     intro vT' wa oT' ha hvT
     have aT':=aT.app ft2.lt hvT
     replace k5:=k5.app oT ha
     replace k4:=k4.app oT ha
     replace ft2:=ft2.app aT ha
     replace oM:=oM.app oT ha
     replace oP:=oP.app oT ha
     replace only:=only.low ha.below
     clear oT aT
     obtain⟨A5,c5,rfl,-⟩:=oT'.reads
     have oT:=oT'
     clear oT'
     refine Zf 3 Tryz.underlying45 ?_
     refine Zq k5 ?_
     intro w9 pw9
     replace only:=only.put k5 pw9 e5
     replace ft2:=ft2.put k5 pw9 e5
     replace oT:=oT.put k5 pw9 e5
     replace oM:=oM.put k5 pw9 e5
     replace oP:=oP.put k5 pw9 e5
     replace k4:=k4.put pw9 (by omega)
     replace k5:=pw9.blk
     refine Zk11 0 1 4 5 13 14 15 16 17 20 187 (Ztq ?_)
     refine Zf 4 Tryz.underlying45 ?_
     refine Zv (Runs.loadB rfl rfl Tryz.underlying43 rfl k5 rfl) ?_
     refine Zm ?_
     refine Seq.slice (vs:=[_]) (s:=1) rfl rfl rfl Tryz.underlying43 (by kernel_rfl) (zero_int) (by omega) (by omega) ⟨rfl,trivial⟩ rfl rfl rfl ?_
     intro g239 w10 n239
     have l239:=Nat.lt_of_lt_of_le k4.lt n239.ge
     have l239_k5:=Nat.lt_of_lt_of_le k5.lt n239.ge
     replace k5:=k5.step n239.below
     replace only:=only.step n239.below
     replace ft2:=ft2.step n239.below
     replace oT:=oT.step n239.below
     replace oM:=oM.step n239.below
     replace oP:=oP.step n239.below
     replace k4:=k4.step n239.below
     have k239:=n239.blk
     refine Seq.append2 rfl rfl rfl Tryz.underlying43 (by kernel_rfl) zero_int rfl (by decide) (b:=8) (by kernel_rfl) oM (Reads.blk (size:=1) k239 1 rfl) (by intro x hx;simp[flatC,Value.cells] at hx;rw[hx];rfl) only.row.size (by simp only[maxLen];omega) (by omega) rfl rfl rfl ?_
     intro vM' wb oM' ha hvM
     have aM':=aM.app ft2.lt hvM
     have aMP':=(aMP.symm.app (fun b hb=>(oP.blockLt b hb).2) hvM).symm
     replace k5:=k5.app oM ha
     replace k4:=k4.app oM ha
     replace ft2:=ft2.app aM ha
     replace oT:=oT.app oM ha
     replace oP:=oP.kept' ha.grown (fun b hb e=>aMP b e hb)
     replace only:=only.low ha.below
     clear oM aM aMP
     obtain⟨A6,c6,rfl,-⟩:=oM'.reads
     have oM:=oM'
     clear oM'
     refine Zf 4 Tryz.underlying45 ?_
     refine Zq k5 ?_
     intro w11 pw11
     replace only:=only.put k5 pw11 e5
     replace ft2:=ft2.put k5 pw11 e5
     replace oT:=oT.put k5 pw11 e5
     replace oM:=oM.put k5 pw11 e5
     replace oP:=oP.put k5 pw11 e5
     replace k4:=k4.put pw11 (by omega)
     replace k5:=pw11.blk
     refine Zk11 0 1 4 5 13 14 15 16 17 20 187 (Ztr ?_)
     refine Zf 5 Tryz.underlying45 ?_
     refine Zv (Runs.loadB rfl rfl Tryz.underlying43 rfl k5 rfl) ?_
     refine Zm ?_
     refine Seq.slice (vs:=[_]) (s:=1) rfl rfl rfl Tryz.underlying43 (by kernel_rfl) (zero_int) (by omega) (by omega) ⟨rfl,trivial⟩ rfl rfl rfl ?_
     intro g245 w12 n245
     have l245:=Nat.lt_of_lt_of_le k4.lt n245.ge
     have l245_k5:=Nat.lt_of_lt_of_le k5.lt n245.ge
     replace k5:=k5.step n245.below
     replace only:=only.step n245.below
     replace ft2:=ft2.step n245.below
     replace oT:=oT.step n245.below
     replace oM:=oM.step n245.below
     replace oP:=oP.step n245.below
     replace k4:=k4.step n245.below
     have k245:=n245.blk
     refine Seq.append2 rfl rfl rfl Tryz.underlying43 (by kernel_rfl) zero_int rfl (by decide) (b:=8) (by kernel_rfl) oP (Reads.blk (size:=1) k245 1 rfl) (by intro x hx;simp[flatC,Value.cells] at hx;rw[hx];rfl) only.row.size (by simp only[maxLen];omega) (by omega) rfl rfl rfl ?_
     intro vP' wc oP' ha hvP
     have aP':=aP.app ft2.lt hvP
     have aMP2:=aMP'.app (fun b hb=>(oM.blockLt b hb).2) hvP
     replace k5:=k5.app oP ha
     replace k4:=k4.app oP ha
     replace ft2:=ft2.app aP ha
     replace oT:=oT.app oP ha
     replace oM:=oM.kept' ha.grown (fun b hb e=>aMP' b hb e)
     replace only:=only.low ha.below
     clear oP aP
     obtain⟨A7,c7,rfl,-⟩:=oP'.reads
     have oP:=oP'
     clear oP'
     refine Zf 5 Tryz.underlying45 ?_
     refine Zq k5 ?_
     intro w13 pw13
     replace only:=only.put k5 pw13 e5
     replace ft2:=ft2.put k5 pw13 e5
     replace oT:=oT.put k5 pw13 e5
     replace oM:=oM.put k5 pw13 e5
     replace oP:=oP.put k5 pw13 e5
     replace k4:=k4.put pw13 (by omega)
     replace k5:=pw13.blk
     refine Zk11 0 1 4 5 13 14 15 16 17 20 187 (Post.block_normal (Ztr ?_))
     refine Zm ?_
     refine Za_ ?_
     refine Za ?_
     refine Zk11 0 1 4 5 13 14 15 16 17 20 187 ?_
     have hlE:(ts++[Tm.mk x.op x.name ae am]).length=ts.length+1:=by simp
     refine Post.round (k+1,T4,us++[.agg #[.int .i64 x.op, .string (strOf x.name), .slice AV ae.length cV, .slice AB am.length cB]], .slice A5 (ts.length+1) c5, .slice A6 (ts.length+1) c6, .slice A7 (ts.length+1) c7) ⟨rfl,rfl,rfl,rfl,rfl,trivial⟩ ?_ (by dsimp only;omega)
     dsimp only
     rw[htake,hlE,flatC_append,List.map_append,List.map_append,DI_append,DI_append]
     exact⟨by omega,only,k4,k5,ft2,hmem4,hsub4,oT,oM,oP,aT',aM',aP',aMP2⟩
  ·have hin:k=nK:=by
    have hc':¬((k:Int)<nK∧(k:Int)<60):=fun h=>by rw[decide_eq_true h.1,decide_eq_true h.2] at hc;cases hc
    omega
   subst hin
   rw[show ks.take k=ks from List.take_of_length_le (by omega)] at ft oT oM oP
   have fo3:=fo.grown only.row (fun b e=>by injection e with e;subst e;exact hgT)
   have kk:=own_blk_ne oE.row k5R (by decide)
   have oE3:=oE.kept' only.row (fun b hb e=>kk (by rw[hb,e]))
   have kk2:=own_blk_ne oN.row k5R (by decide)
   have oN3:=oN.kept' only.row (fun b hb e=>kk2 (by rw[hb,e]))
   have kk3:=own_blk_ne oD.row k5R (by decide)
   have oD3:=oD.kept' only.row (fun b hb e=>kk3 (by rw[hb,e]))
   obtain⟨A2,c2,rfl,-⟩:=oE.reads
   obtain⟨A3,c3,rfl,-⟩:=oN.reads
   obtain⟨A4,c4,rfl,-⟩:=oD.reads
   obtain⟨A5,c5,rfl,-⟩:=oT.reads
   obtain⟨A6,c6,rfl,-⟩:=oM.reads
   obtain⟨A7,c7,rfl,-⟩:=oP.reads
   have hgT4:g4∉T:=fun hm=>by have:=hfar _ hm;omega
   have hgT34:g4∉T3:=fun hm=>by have:=hfar3 _ hm;omega
   replace bel:=hb3
   refine Cd.exit (Post.then_exit (Post.round_exit (Post.block_exit (Ztq ?_))))
   refine Zv (Runs.loadW rfl rfl Tryz.underlying45 rfl k5 (m:=6) (by kernel_rfl) rfl) ?_
   refine Zo 6 k4 ?_
   intro w4 pw4
   replace bel:=bel.put k4 pw4 e4
   replace k5:=k5.put pw4 (by omega)
   replace fo3:=fo3.put k4 pw4 e4
   replace ft:=ft.put k4 pw4 e4
   replace oE3:=oE3.put k4 pw4 e4
   replace oN3:=oN3.put k4 pw4 e4
   replace oD3:=oD3.put k4 pw4 e4
   replace oT:=oT.put k4 pw4 e4
   replace oM:=oM.put k4 pw4 e4
   replace oP:=oP.put k4 pw4 e4
   replace k4:=pw4.blk
   refine Zk6 0 1 4 5 13 120 (Zt (Cd.ret ?_))
   refine Post.endC rfl rfl k4 Tryz.underlying45 rfl (m:=6) (by kernel_rfl) rfl (.inl rfl) ?_
   exact⟨⟨_,rfl,T,T3,_,_,vs,us,_,_,_,_,_,_,rfl,fo3,ft,oE3,oN3,oD3,oT,oM,oP⟩,bel⟩
end Go.Proofs.YtaamkfajnpobfaaGreat
namespace Go.Proofs.YtaamkfajnpobfaaGreat
open Go.RowKit
def treeK (n m:Nat)(AE AN AD AT AM AP:Option Addr)(cE cN cD cT cM cP:Nat):Value:= .agg #[.slice AE n cE, .slice AN n cN, .slice AD n cD, .slice AT m cT, .slice AM m cM, .slice AP m cP]
structure TreeT (w:World)(B:Nat)(ts:List Tm)(AT AM AP:Option Addr):Prop where
 term:TmAt w B ts AT
 much:Reads w B 1 AM ts.length (DI (ts.map zMuch))
 deep:Reads w B 1 AP ts.length (DI (ts.map zDeep))
theorem TreeT.below {w w':World}{B:Nat}{ts:List Tm}{AT AM AP:Option Addr}(h:TreeT w B ts AT AM AP)(hb:Below B w w'):TreeT w' B ts AT AM AP:=⟨h.term.below hb,h.much.below hb,h.deep.below hb⟩
theorem TmAt.more {w:World}{B B':Nat}{ts:List Tm}{A:Option Addr}(h:TmAt w B ts A)(hb:B≤B'):TmAt w B' ts A:=fun i x hx=>by
 obtain⟨ad,A1,A2,c1,c2,e1,e2,e3,e4⟩:=h i x hx
 exact⟨ad,A1,A2,c1,c2,e1,Nat.lt_of_lt_of_le e2 hb,e3.more hb,e4⟩
theorem TreeT.more {w:World}{B B':Nat}{ts:List Tm}{AT AM AP:Option Addr}(h:TreeT w B ts AT AM AP)(hb:B≤B'):TreeT w B' ts AT AM AP:=⟨h.term.more hb,h.much.more hb,h.deep.more hb⟩
theorem tmAt_own {w:World}{T:List Nat}{ts:List Tm}{vs:List Value}{B c:Nat}{A:Option Addr}(ft:ForestT w T ts vs)(hE:Own w B 25 4 (.slice A ts.length c) ts.length (flatC vs)):TmAt w w.heap.size ts A:=fun i e he=>by
 have h4:∀y∈vs,y.cells.size=4:=sizes_spec ft.cells
 obtain⟨A',c',hv,hr⟩:=hE.reads
 injection hv with e1 _ _
 subst e1
 have hi:=(List.getElem?_eq_some_iff.1 he).1
 obtain⟨ev,hev⟩:∃ev,vs[i]? =some ev:=⟨_,List.getElem?_eq_getElem (by rw[ft.len];omega)⟩
 have hre:=ft.rep i e ev he hev
 obtain⟨A1,c1,A2,c2,rfl⟩:=hre.form
 obtain⟨ad,rfl,hb,hc⟩:=hr.2 (by omega)
 exact⟨ad,A1,A2,c1,c2,rfl,hb,hre.mono (fun b hm=>ft.lt b hm) (fun _ _=>rfl),fun j u hu=>by rw[add_of_add];exact hc _ _ (flatC_at h4 hev j u (by simpa[Value.cells,tmV] using hu))⟩
theorem BuiltK.tree {es:List Ex}{ts:List Tm}{v:Value}{w:World}(h:BuiltK es ts v w):∃AE AN AD AT AM AP cE cN cD cT cM cP,v=treeK es.length ts.length AE AN AD AT AM AP cE cN cD cT cM cP∧TreeR w w.heap.size es AE AN AD∧TreeT w w.heap.size ts AT AM AP:=by
 obtain⟨T,T',B,B',vs,us,vE,vN,vD,vT,vM,vP,rfl,fo,ft,oE,oN,oD,oT,oM,oP⟩:=h
 have hb:BuiltR B es (.agg #[vE,vN,vD, .slice none 0 0, .slice none 0 0, .slice none 0 0]) w:=⟨T,vs,vE,vN,vD,rfl,fo,oE,oN,oD⟩
 obtain⟨AE,AN,AD,cE,cN,cD,hv,tr⟩:=hb.tree
 obtain⟨AT,cT,rfl,-⟩:=oT.reads
 obtain⟨AM,cM,rfl,hM⟩:=oM.reads
 obtain⟨AP,cP,rfl,hP⟩:=oP.reads
 unfold treeV at hv
 have e1:vE= .slice AE es.length cE∧vN= .slice AN es.length cN∧vD= .slice AD es.length cD:=by simpa using hv
 obtain⟨rfl,rfl,rfl⟩:=e1
 exact⟨AE,AN,AD,AT,AM,AP,cE,cN,cD,cT,cM,cP,rfl,tr,tmAt_own ft oT,hM,hP⟩
theorem zT_right (e:Tm):((decide (zMuch e≤200)&&decide (zDeep e≤16))&&builtT e)=rightT e:=by
 have hdn:=e.depth_nodes
 unfold rightT
 congr 1
 rw[Bool.eq_iff_iff]
 simp only[Bool.and_eq_true,decide_eq_true_eq]
 unfold zMuch zDeep toldZ
 split<;>constructor<;>intro h<;>dsimp only at * <;>omega
theorem treeRightT_any (i n cE cN cD cT cM cP:Nat)(AE AN AD AT AM AP:Option Addr)(ts:List Tm)(e:Tm)(w:World)(hr:TreeT w w.heap.size ts AT AM AP)(he:ts[i]? =some e):
  Calls Tryz.prog 41 #[treeK n ts.length AE AN AD AT AM AP cE cN cD cT cM cP, .int .i64 (i:Int)] w fun en w'=>en= .returned (.bool (rightT e))∧Grow w w':=by
 have bel:=Below.refl w.heap.size w
 have hi:=(List.getElem?_eq_some_iff.1 he).1
 obtain⟨ad,A1,A2,c1,c2,rfl,hb,hrep,hcell⟩:=hr.term i e he
 have hcE:∀W,Below w.heap.size w W→∀(q:Nat) (u:Value),([.int .i64 e.op, .string (strOf e.name), .slice A1 e.exprs.length c1, .slice A2 e.terms.length c2]:List Value)[q]? =some u→W.cell? ((ad.add (i*4)).add q)=some u:=fun W hW q u hq=>(hW.cell (by rw[block_of_add,block_of_add];exact hb)).trans (hcell q u hq)
 obtain⟨adN,rfl,hbN,hcN⟩:=hr.much.2 (by omega)
 have hcN:=fun W (hb:Below w.heap.size w W)=>(hb.cell (p:=adN.add i) (by rw[block_of_add];exact hbN)).trans (hcN i (.int .i64 (zMuch e)) (by rw[get_DI,List.getElem?_map,he];rfl))
 obtain⟨adD,rfl,hbD,hcD⟩:=hr.deep.2 (by omega)
 have hcD:=fun W (hb:Below w.heap.size w W)=>(hb.cell (p:=adD.add i) (by rw[block_of_add];exact hbD)).trans (hcD i (.int .i64 (zDeep e)) (by rw[get_DI,List.getElem?_map,he];rfl))
 have hbt:=fun W (hb:Below w.heap.size w W)=>refTBuilt_any e.nodes e w.heap.size _ W (Nat.le_refl _) (hrep.below hb) hb.size
 have hz:=zT_right e
 unfold treeK
 refine Zs 27 Tryz.func41 ?_
 refine Zsr ?_
 refine Seq.box rfl rfl rfl rfl rfl ?_
 intro g2 w1 n2
 have e2:=Nat.le_trans bel.size n2.ge
 replace bel:=bel.step n2.below
 have k2:=n2.blk
 refine Za ?_
 refine Zk4 0 1 2 4 (Ztq ?_)
 refine Zf 4 Tryz.underlying45 ?_
 refine Zv (Runs.loadB rfl rfl Tryz.underlying43 rfl k2 rfl) ?_
 refine Zm ?_
 refine Zv (Runs.index1 rfl rfl rfl Tryz.underlying43 (by kernel_rfl) (j:=i) rfl (by omega)) ?_
 refine Zv (Runs.load1 rfl rfl Tryz.underlying3 rfl (hcN _ bel)) ?_
 refine Zv (Runs.leq rfl rfl rfl) ?_
 refine Zm ?_
 refine SeqC.start ?_
 refine Zco (fun hcx=>Runs.fieldB 5 rfl rfl Tryz.underlying45 rfl (by kernel_rfl)) ?_
 refine SeqC.next rfl rfl rfl rfl rfl rfl rfl (fun hcx=>Runs.loadB rfl rfl Tryz.underlying43 rfl k2 rfl) ?_
 refine SeqC.next rfl rfl rfl rfl rfl rfl rfl (fun hcx=>Runs.move rfl rfl) ?_
 refine SeqC.next rfl rfl rfl rfl rfl rfl rfl (fun hcx=>Runs.index1 rfl rfl rfl Tryz.underlying43 (by kernel_rfl) (j:=i) rfl (by omega)) ?_
 refine SeqC.next rfl rfl rfl rfl rfl rfl rfl (fun hcx=>Runs.load1 rfl rfl Tryz.underlying3 rfl (hcD _ bel)) ?_
 refine SeqC.next rfl rfl rfl rfl rfl rfl rfl (fun hcx=>Runs.leq rfl rfl rfl) ?_
 refine SeqC.and rfl rfl rfl rfl rfl rfl rfl ?_
 refine Zm ?_
 refine SeqC.start ?_
 refine Zco (fun hcx=>Runs.fieldB 3 rfl rfl Tryz.underlying45 rfl (by kernel_rfl)) ?_
 refine SeqC.next rfl rfl rfl rfl rfl rfl rfl (fun hcx=>Runs.loadB rfl rfl Tryz.underlying23 rfl k2 rfl) ?_
 refine SeqC.next rfl rfl rfl rfl rfl rfl rfl (fun hcx=>Runs.move rfl rfl) ?_
 refine SeqC.next rfl rfl rfl rfl rfl rfl rfl (fun hcx=>Runs.indexN rfl rfl rfl Tryz.underlying23 (s:=4) (by kernel_rfl) (j:=i) rfl (by omega)) ?_
 refine SeqC.next rfl rfl rfl rfl rfl rfl rfl (fun hcx=>Runs.loadF (ps:=[.int .i64 e.op, .string (strOf e.name), .slice A1 e.exprs.length c1, .slice A2 e.terms.length c2]) rfl rfl Tryz.underlying25 rfl (m:=4) (by kernel_rfl) rfl (hcE _ bel)) ?_
 refine SeqC.nextC rfl rfl rfl rfl rfl rfl rfl (fun hcx=>Ze Tryz.func88) (fun hcx=>hbt _ bel) ?_
 intro w2 hw2
 replace bel:=bel.step hw2
 replace k2:=k2.step hw2
 refine SeqC.and rfl rfl rfl rfl rfl rfl rfl ?_
 refine Za ?_
 refine Zk4 0 1 2 4 (Zt (Cd.ret ?_))
 refine Post.end1 rfl rfl (.inl rfl) ?_
 exact⟨ret1 (bool_eq hz),bel⟩
end Go.Proofs.YtaamkfajnpobfaaGreat
namespace Go.Proofs.YtaamkfajnpobfaaGreat
open Go.RowKit
def wordsT:List (List Nat):=[[122,101,114,111],[111,110,101],[103,105,118,101],[97,110,100],[111,114],[115,99,97,108,101],[119,104,101,110],[117,110,116,105,108],[97,110,121,116,105,109,101]]
def wordT (op:Int):List Nat:=wordsT.getD (op-1).toNat []
mutual
def termT:Tm→List Nat
 | .mk op nm es l=>if op=1 then [122,101,114,111] else wordT op++[40]++joinT ((if op=2 then [nm] else [])++es.map exprT++termTL l)++[41]
def termTL:List Tm→List (List Nat)
 | []=>[]
 |t::r=>termT t::termTL r
end
theorem termTL_map:∀l,termTL l=l.map termT
 | []=>by rw[termTL];rfl
 |e::r=>by rw[termTL,termTL_map r];rfl
theorem termT_eq (t:Tm):termT t=if t.op=1 then [122,101,114,111] else wordT t.op++[40]++joinT ((if t.op=2 then [t.name] else [])++t.exprs.map exprT++t.terms.map termT)++[41]:=by
 cases t;rw[termT,termTL_map];rfl
theorem printWord_any (op:Int)(w:World)(h1:1≤op)(h2:op≤9):Calls Tryz.prog 89 #[.int .i64 op] w fun e w'=>e= .returned (.string (strOf (wordT op)))∧Grow w w':=by
 have bel:=Below.refl w.heap.size w
 refine Zs 20 Tryz.func89 ?_
 refine Zsr ?_
 refine Za ?_
 refine Zk2 0 2 (Zts (Zsr ?_))
 refine Zm ?_
 refine Zk3 0 2 3 (Zt (Cd.block (Zsr ?_)))
 refine Zv (Runs.eqlI rfl rfl rfl) ?_
 refine Za ?_
 refine Zk4 0 2 3 4 (Zt ?_)
 refine Cd.condD rfl (fun g1=> ?_) (fun g1=> ?_)
 ·skip
  refine Zsr ?_
  refine Za ?_
  refine Zk4 0 2 3 4 (Zt (Cd.ret (Post.block_ret (Post.then_ret ?_))))
  refine Post.end1 rfl rfl (.inl rfl) ?_
  subst g1
  exact⟨rfl,bel⟩
 refine Zsr ?_
 refine Zv (Runs.eqlI rfl rfl rfl) ?_
 refine Za ?_
 refine Zk5 0 2 3 4 6 (Zt ?_)
 refine Cd.condD rfl (fun h3=> ?_) (fun h3=> ?_)
 ·skip
  refine Zsr ?_
  refine Za ?_
  refine Zk5 0 2 3 4 6 (Zt (Cd.ret (Post.block_ret (Post.then_ret ?_))))
  refine Post.end1 rfl rfl (.inl rfl) ?_
  subst h3
  exact⟨rfl,bel⟩
 refine Zsr ?_
 refine Zv (Runs.eqlI rfl rfl rfl) ?_
 refine Za ?_
 refine Zk6 0 2 3 4 6 8 (Zt ?_)
 refine Cd.condD rfl (fun h4=> ?_) (fun h4=> ?_)
 ·skip
  refine Zsr ?_
  refine Za ?_
  refine Zk6 0 2 3 4 6 8 (Zt (Cd.ret (Post.block_ret (Post.then_ret ?_))))
  refine Post.end1 rfl rfl (.inl rfl) ?_
  subst h4
  exact⟨rfl,bel⟩
 refine Zsr ?_
 refine Zv (Runs.eqlI rfl rfl rfl) ?_
 refine Za ?_
 refine Zk7 0 2 3 4 6 8 10 (Zt ?_)
 refine Cd.condD rfl (fun h5=> ?_) (fun h5=> ?_)
 ·skip
  refine Zsr ?_
  refine Za ?_
  refine Zk7 0 2 3 4 6 8 10 (Zt (Cd.ret (Post.block_ret (Post.then_ret ?_))))
  refine Post.end1 rfl rfl (.inl rfl) ?_
  subst h5
  exact⟨rfl,bel⟩
 refine Zsr ?_
 refine Zv (Runs.eqlI rfl rfl rfl) ?_
 refine Za ?_
 refine Zk8 0 2 3 4 6 8 10 12 (Zt ?_)
 refine Cd.condD rfl (fun h6=> ?_) (fun h6=> ?_)
 ·skip
  refine Zsr ?_
  refine Za ?_
  refine Zk8 0 2 3 4 6 8 10 12 (Zt (Cd.ret (Post.block_ret (Post.then_ret ?_))))
  refine Post.end1 rfl rfl (.inl rfl) ?_
  subst h6
  exact⟨rfl,bel⟩
 refine Zsr ?_
 refine Zv (Runs.eqlI rfl rfl rfl) ?_
 refine Za ?_
 refine Zk9 0 2 3 4 6 8 10 12 14 (Zt ?_)
 refine Cd.condD rfl (fun h7=> ?_) (fun h7=> ?_)
 ·skip
  refine Zsr ?_
  refine Za ?_
  refine Zk9 0 2 3 4 6 8 10 12 14 (Zt (Cd.ret (Post.block_ret (Post.then_ret ?_))))
  refine Post.end1 rfl rfl (.inl rfl) ?_
  subst h7
  exact⟨rfl,bel⟩
 refine Zsr ?_
 refine Zv (Runs.eqlI rfl rfl rfl) ?_
 refine Za ?_
 refine Zk10 0 2 3 4 6 8 10 12 14 16 (Zt ?_)
 refine Cd.condD rfl (fun h8=> ?_) (fun h8=> ?_)
 ·skip
  refine Zsr ?_
  refine Za ?_
  refine Zk10 0 2 3 4 6 8 10 12 14 16 (Zt (Cd.ret (Post.block_ret (Post.then_ret ?_))))
  refine Post.end1 rfl rfl (.inl rfl) ?_
  subst h8
  exact⟨rfl,bel⟩
 refine Zsr ?_
 refine Zv (Runs.eqlI rfl rfl rfl) ?_
 refine Za ?_
 refine Zk11 0 2 3 4 6 8 10 12 14 16 18 (Zt ?_)
 refine Cd.condD rfl (fun h9=> ?_) (fun h9=> ?_)
 ·skip
  refine Zsr ?_
  refine Za ?_
  refine Zk11 0 2 3 4 6 8 10 12 14 16 18 (Zt (Cd.ret (Post.block_ret (Post.then_ret ?_))))
  refine Post.end1 rfl rfl (.inl rfl) ?_
  subst h9
  exact⟨rfl,bel⟩
 refine Cd.skip (Post.block_normal (Ztq ?_))
 refine Za ?_
 refine Zk11 0 2 3 4 6 8 10 12 14 16 18 (Zt (Cd.ret ?_))
 refine Post.end1 rfl rfl (.inl rfl) ?_
 obtain rfl:op=2:=by omega
 exact⟨rfl,bel⟩
end Go.Proofs.YtaamkfajnpobfaaGreat
namespace Go.Proofs.YtaamkfajnpobfaaGreat
open Go.RowKit
theorem builtT_inv {t:Tm}(h:builtT t=true):headTB t.op t.name t.exprs.length t.terms.length=true∧(∀x∈t.exprs,builtB x=true)∧∀x∈t.terms,builtT x=true:=by
 rw[builtT_eq,Bool.and_eq_true,Bool.and_eq_true,List.all_eq_true,List.all_eq_true] at h
 exact⟨h.1.1,h.1.2,h.2⟩
theorem wordT_len (op:Int):(wordT op).length≤7∧∀x∈wordT op,x<256:=by
 unfold wordT
 generalize (op-1).toNat=j
 rcases Nat.lt_or_ge j 9 with h|h
 ·have key:∀j:Fin 9,(wordsT.getD j.val []).length≤7∧∀x∈wordsT.getD j.val [],x<256:=by decide
  exact key ⟨j,h⟩
 ·rw[List.getD_eq_getElem?_getD,List.getElem?_eq_none (show wordsT.length≤j from h)]
  simp
theorem join_len:∀l:List (List Nat),(joinT l).length≤(l.map fun t=>t.length+2).sum
 | []=>by simp[joinT]
 | [x]=>by simp[joinT]
 |x::y::r=>by
  have h2:=join_len (y::r)
  rw[joinT_cons2]
  simp only[List.length_append,List.length_cons,List.length_nil,List.map_cons,List.sum_cons] at h2⊢
  omega
theorem sum_exprs:∀l:List Ex,(∀x∈l,(exprT x).length≤50*x.nodes)→((l.map exprT).map fun t=>t.length+2).sum≤60*nodesL l
 | [],_=>by simp
 |x::r,h=>by
  have h1:=h x List.mem_cons_self
  have h2:=sum_exprs r fun z hz=>h z (List.mem_cons_of_mem _ hz)
  have hp:=x.nodes_pos
  rw[nodesL,List.map_cons,List.map_cons,List.sum_cons]
  omega
theorem sum_terms:∀l:List Tm,(∀x∈l,(termT x).length+2≤60*x.nodes)→((l.map termT).map fun t=>t.length+2).sum≤60*nodesM l
 | [],_=>by simp
 |x::r,h=>by
  have h1:=h x List.mem_cons_self
  have h2:=sum_terms r fun z hz=>h z (List.mem_cons_of_mem _ hz)
  rw[nodesM,List.map_cons,List.map_cons,List.sum_cons]
  omega
theorem termT_bd (N:Nat):∀t:Tm,t.nodes≤N→builtT t=true→(termT t).length+2≤60*t.nodes∧∀d∈termT t,d<256:=by
 induction N with
 |zero=>intro t hN;have:=t.nodes_pos;omega
 |succ N ih=>
  intro t hN hb
  obtain⟨hh,he,ht⟩:=builtT_inv hb
  obtain⟨a1,a2,a3⟩:=(headTB_iff _ _ _ _).1 hh
  have hn:=t.nodes_eq
  have hE:=sum_exprs t.exprs fun x hx=>(exprT_bd x.nodes x (Nat.le_refl _) (he x hx)).1
  have hT:=sum_terms t.terms fun x hx=>(ih x (by have:=Tm.term_nodes hx;omega) (ht x hx)).1
  have hw:=wordT_len t.op
  rw[termT_eq]
  split
  ·exact⟨by simp;omega,by decide⟩
  ·have hj:=join_len ((if t.op=2 then [t.name] else [])++t.exprs.map exprT++t.terms.map termT)
   rw[List.map_append,List.map_append,List.sum_append,List.sum_append] at hj
   have hnm:((if t.op=2 then [t.name] else []).map fun t=>t.length+2).sum≤18:=by
    split
    ·rename_i h
     have:=free_len (a2 h)
     simp;omega
    ·simp
   refine⟨by simp only[List.length_append,List.length_cons,List.length_nil];omega,bt3 (fun x hx=> ?_) (join_lt fun u hu=> ?_) (by decide)⟩
   ·rcases List.mem_append.1 hx with hx|hx
    ·exact hw.2 x hx
    ·simp at hx;omega
   ·rcases List.mem_append.1 hu with hu|hu
    ·rcases List.mem_append.1 hu with hu|hu
     ·split at hu
      ·rename_i h
       obtain rfl:=List.mem_singleton.1 hu
       exact free_lt (a2 h)
      ·cases hu
     ·obtain⟨x,hx,rfl⟩:=List.mem_map.1 hu
      exact(exprT_bd x.nodes x (Nat.le_refl _) (he x hx)).2
    ·obtain⟨x,hx,rfl⟩:=List.mem_map.1 hu
     exact(ih x (by have:=Tm.term_nodes hx;omega) (ht x hx)).2
end Go.Proofs.YtaamkfajnpobfaaGreat
namespace Go.Proofs.YtaamkfajnpobfaaGreat
open Go.RowKit
def strs (l:List (List Nat)):List Value:=l.map fun s=> .string (strOf s)
end Go.Proofs.YtaamkfajnpobfaaGreat
namespace Go.Proofs.YtaamkfajnpobfaaGreat
open Go.RowKit
def blanksT (n:Nat):List Nat:=List.replicate (2*n) 32
def segs (m:List Nat):List (List Nat)→List Nat
 | []=>[]
 |x::r=>[10]++m++x++r.flatMap fun y=>[44,10]++m++y
mutual
def linesT (deep:Nat):Tm→List Nat
 | .mk op nm es l=>if l=[] then termT (.mk op nm es l) else wordT op++[40]++segs (blanksT (deep+1)) (es.map exprT++linesTL (deep+1) l)++[10]++blanksT deep++[41]
def linesTL (deep:Nat):List Tm→List (List Nat)
 | []=>[]
 |t::r=>linesT deep t::linesTL deep r
end
theorem linesTL_map (deep:Nat):∀l,linesTL deep l=l.map (linesT deep)
 | []=>by rw[linesTL];rfl
 |e::r=>by rw[linesTL,linesTL_map deep r];rfl
def rowsT (deep:Nat)(t:Tm):List (List Nat):=t.exprs.map exprT++t.terms.map (linesT (deep+1))
theorem linesT_eq (deep:Nat)(t:Tm):linesT deep t=if t.terms=[] then termT t else wordT t.op++[40]++segs (blanksT (deep+1)) (rowsT deep t)++[10]++blanksT deep++[41]:=by
 cases t;rw[linesT,linesTL_map];rfl
theorem segs_snoc (m:List Nat)(l:List (List Nat))(y:List Nat):segs m (l++[y])=segs m l++(if l=[] then [] else [44])++[10]++m++y:=by
 cases l with
 |nil=>simp[segs]
 |cons x r=>simp[segs,List.flatMap_append]
theorem blanksT_len (n:Nat):(blanksT n).length=2*n:=List.length_replicate
theorem blanksT_lt (n:Nat):∀x∈blanksT n,x<256:=fun x hx=>by rw[(List.mem_replicate.1 hx).2];decide
theorem segs_len (m:List Nat):∀l:List (List Nat),(segs m l).length≤(l.map fun t=>t.length+(m.length+2)).sum
 | []=>Nat.le_refl _
 |x::r=>by
  have h:∀r:List (List Nat),(r.flatMap fun y=>[44,10]++m++y).length≤(r.map fun t=>t.length+(m.length+2)).sum:=fun r=>by
   induction r with
   |nil=>simp
   |cons y r ih=>
    rw[List.flatMap_cons,List.map_cons,List.sum_cons]
    simp only[List.length_append,List.length_cons,List.length_nil] at ih⊢
    omega
  have:=h r
  rw[List.map_cons,List.sum_cons]
  simp only[segs,List.length_append,List.length_cons,List.length_nil] at this⊢
  omega
theorem segs_lt {m:List Nat}{l:List (List Nat)}(hm:∀x∈m,x<256)(hl:∀t∈l,∀x∈t,x<256):∀x∈segs m l,x<256:=by
 cases l with
 |nil=>intro x hx;cases hx
 |cons y r=>
  intro x hx
  simp only[segs,List.mem_append,List.mem_flatMap,List.mem_cons,List.not_mem_nil,or_false] at hx
  rcases hx with ((hx|hx)|hx)|⟨z,hz,(hx|hx)|hx⟩
  ·omega
  ·exact hm x hx
  ·exact hl y List.mem_cons_self x hx
  ·omega
  ·exact hm x hx
  ·exact hl z (List.mem_cons_of_mem _ hz) x hx
theorem sumE_bd (c:Nat):∀l:List Ex,(∀x∈l,(exprT x).length≤50*x.nodes)→((l.map exprT).map fun t=>t.length+c).sum≤(50+c)*nodesL l
 | [],_=>by simp
 |x::r,h=>by
  have h1:=h x List.mem_cons_self
  have h2:=sumE_bd c r fun z hz=>h z (List.mem_cons_of_mem _ hz)
  have hp:=x.nodes_pos
  have hc:c≤c*x.nodes:=Nat.le_mul_of_pos_right _ hp
  rw[nodesL,List.map_cons,List.map_cons,List.sum_cons,Nat.mul_add,Nat.add_mul 50 c x.nodes]
  omega
theorem sumL_bd (c k d:Nat):∀l:List Tm,(∀x∈l,(linesT d x).length+c≤k*x.nodes)→((l.map (linesT d)).map fun t=>t.length+c).sum≤k*nodesM l
 | [],_=>by simp
 |x::r,h=>by
  have h1:=h x List.mem_cons_self
  have h2:=sumL_bd c k d r fun z hz=>h z (List.mem_cons_of_mem _ hz)
  rw[nodesM,List.map_cons,List.map_cons,List.sum_cons,Nat.mul_add]
  omega
theorem linesT_bd (N:Nat):∀(t:Tm) (d:Nat),t.nodes≤N→builtT t=true→d+t.depth≤50→(linesT d t).length+110≤300*t.nodes∧∀x∈linesT d t,x<256:=by
 induction N with
 |zero=>intro t d hN;have:=t.nodes_pos;omega
 |succ N ih=>
  intro t d hN hb hd
  obtain⟨hh,he,ht⟩:=builtT_inv hb
  have hn:=t.nodes_eq
  have hp:=t.nodes_pos
  have hw:=wordT_len t.op
  have htt:=termT_bd t.nodes t (Nat.le_refl _) hb
  rw[linesT_eq]
  split
  ·exact⟨by omega,htt.2⟩
  ·have hs:=segs_len (blanksT (d+1)) (rowsT d t)
   unfold rowsT at hs
   rw[List.map_append,List.sum_append,blanksT_len] at hs
   have hE:=sumE_bd (2*(d+1)+2) t.exprs fun x hx=>(exprT_bd x.nodes x (Nat.le_refl _) (he x hx)).1
   have hT:=sumL_bd (2*(d+1)+2) 300 (d+1) t.terms fun x hx=>by
    have:=(ih x (d+1) (by have:=Tm.term_nodes hx;omega) (ht x hx) (by have:=Tm.term_depth hx;omega)).1
    omega
   have hE':(50+(2*(d+1)+2))*nodesL t.exprs≤300*nodesL t.exprs:=Nat.mul_le_mul_right _ (by omega)
   have hr:rowsT d t=t.exprs.map exprT++t.terms.map (linesT (d+1)):=rfl
   rw[←hr] at hs
   refine⟨by simp only[List.length_append,List.length_cons,List.length_nil,blanksT_len];omega,fun x hx=> ?_⟩
   simp only[List.mem_append,List.mem_cons,List.not_mem_nil,or_false] at hx
   rcases hx with ((((hx|hx)|hx)|hx)|hx)|hx
   ·exact hw.2 x hx
   ·omega
   ·refine segs_lt (blanksT_lt _) (fun u hu=> ?_) x hx
    unfold rowsT at hu
    rcases List.mem_append.1 hu with hu|hu
    ·obtain⟨z,hz,rfl⟩:=List.mem_map.1 hu
     exact(exprT_bd z.nodes z (Nat.le_refl _) (he z hz)).2
    ·obtain⟨z,hz,rfl⟩:=List.mem_map.1 hu
     exact(ih z (d+1) (by have:=Tm.term_nodes hz;omega) (ht z hz) (by have:=Tm.term_depth hz;omega)).2
   ·omega
   ·exact blanksT_lt _ x hx
   ·omega
end Go.Proofs.YtaamkfajnpobfaaGreat
namespace Go.Proofs.YtaamkfajnpobfaaGreat
open Go.RowKit
theorem segs_take (m:List Nat)(l:List (List Nat))(k:Nat):(segs m (l.take k)).length≤(segs m l).length:=by
 have h:∀a b:List (List Nat),(segs m a).length≤(segs m (a++b)).length:=fun a b=>by
  cases a with
  |nil=>simp[segs]
  |cons x r=>
   have e:segs m (x::r++b)=segs m (x::r)++b.flatMap fun y=>[44,10]++m++y:=by simp[segs,List.flatMap_append]
   rw[e,List.length_append]
   omega
 have:=h (l.take k) (l.drop k)
 rwa [List.take_append_drop] at this
def linesA (m word:List Nat)(rows:List (List Nat))(k:Nat):List Nat:=word++[40]++segs m (rows.take k)++(if k=0∨k=rows.length then [10] else [44,10])
end Go.Proofs.YtaamkfajnpobfaaGreat
namespace Go.Proofs.YtaamkfajnpobfaaGreat
open Go.RowKit
theorem mul2_any (d:Nat)(w:World)(hd:d≤60):Calls Tryz.prog 128 #[.int .u64 2, .int .u64 (d:Int)] w fun e w'=>e= .returned (.tuple #[.int .u64 0, .int .u64 ((2*d:Nat):Int)])∧w=w':=by
 have hm:=mul64_any 2 (d:Int) w (by omega) (by omega) (by omega) (by omega)
 have e1:hiW 2 (d:Int)=0:=by unfold hiW;omega
 have e2:loW 2 (d:Int)=((2*d:Nat):Int):=by unfold loW;omega
 rw[e1,e2] at hm
 refine Zs 30 Tryz.func128 ?_
 refine Zsr ?_
 refine Za ?_
 refine Za ?_
 refine Zk4 0 1 4 5 (Zts ?_)
 refine Cd.condF rfl rfl ?_
 refine Cd.skip (Ztq ?_)
 refine Zm ?_
 refine Zm ?_
 refine Zc (Ze Tryz.func157) (hm) ?_
 rintro e w2 ⟨rfl,rfl⟩
 refine⟨_,rfl,?_⟩
 refine Zm ?_
 refine Zv (Runs.extract rfl rfl rfl) ?_
 refine Zv (Runs.extract rfl rfl rfl) ?_
 refine Za ?_
 refine Za ?_
 refine Zk6 0 1 4 5 8 9 (Ztq ?_)
 refine Zm ?_
 refine Zm ?_
 refine Za ?_
 refine Za ?_
 refine Zk6 0 1 4 5 8 9 (Zt (Cd.ret ?_))
 refine Post.end2 rfl rfl rfl (.inl rfl) ?_
 exact⟨rfl,rfl⟩
def blanks128:List Nat:=List.replicate 128 32
theorem repeat_any (d:Nat)(w:World)(hd:d≤60):Calls Tryz.prog 93 #[.string (strOf [32,32]), .int .i64 (d:Int)] w fun e w'=>e= .returned (.string (strOf (blanksT d)))∧Grow w w':=by
 have bel:=Below.refl w.heap.size w
 have hpre:∀s:ByteArray,s=strOf blanks128→Calls Tryz.prog 129 #[.string s, .string (strOf [32,32])] w fun e w'=>e= .returned (.bool true)∧Grow w w':=fun s hs=>by
  have h:=hasPrefixL_any blanks128 [32,32] w (fun x hx=>by rw[(List.mem_replicate.1 hx).2];decide) (by decide)
  rw[decide_eq_true (by decide)] at h
  rw[hs]
  exact h.mono fun e w' hr=>⟨hr.1,hr.2▸Below.refl _ _⟩
 have htk:blanks128.take (2*d)=blanksT d:=by
  unfold blanks128 blanksT
  rw[List.take_replicate,Nat.min_eq_left (by omega)]
 refine Zs 125 Tryz.func93 ?_
 refine Zsr ?_
 refine Za ?_
 refine Zk3 0 1 4 (Zts (Zsr ?_))
 refine Zm ?_
 refine Zk4 0 1 4 11 (Zt (Cd.block (Zsr ?_)))
 refine Zv (Runs.eqlI rfl rfl rfl) ?_
 refine Za ?_
 refine Zk5 0 1 4 11 12 (Zt ?_)
 refine Cd.condD rfl (fun h0=> ?_) (fun h0=> ?_)
 ·obtain rfl:d=0:=by omega
  refine Zsr ?_
  refine Za ?_
  refine Zk5 0 1 4 11 12 (Zt (Cd.ret (Post.block_ret (Post.then_ret ?_))))
  refine Post.end1 rfl rfl (.inl rfl) ?_
  exact⟨rfl,bel⟩
 refine Zsr ?_
 refine Zv (Runs.eqlI rfl rfl rfl) ?_
 refine Za ?_
 refine Zk6 0 1 4 11 12 14 (Zt ?_)
 refine Cd.condD rfl (fun h1=> ?_) (fun h1=> ?_)
 ·obtain rfl:d=1:=by omega
  refine Zsr ?_
  refine Zm ?_
  refine Za ?_
  refine Zk6 0 1 4 11 12 14 (Zt (Cd.ret (Post.block_ret (Post.then_ret ?_))))
  refine Post.end1 rfl rfl (.inl rfl) ?_
  exact⟨rfl,bel⟩
 refine Cd.skip (Post.block_normal (Zts (Zsr ?_)))
 refine Zm ?_
 refine Zv (Runs.lss rfl rfl rfl) ?_
 refine Zk7 0 1 4 11 12 14 18 (Zt ?_)
 refine Cd.condF rfl (decide_eq_false (by omega)) ?_
 refine Cd.skip (Ztq ?_)
 refine Zm ?_
 refine Zv (Runs.lenL rfl rfl Tryz.underlying9) ?_
 refine Zv (Runs.convI (r:=2) rfl rfl Tryz.underlying3 Tryz.underlying52 (by decide)) ?_
 refine Zm ?_
 refine Zv (Runs.convI (r:=(d:Int)) rfl rfl Tryz.underlying3 Tryz.underlying52 (wrapU (by omega) (by omega))) ?_
 refine Zc (Ze Tryz.func128) (mul2_any d _ hd) ?_
 rintro e w2 ⟨rfl,rfl⟩
 refine⟨_,rfl,?_⟩
 refine Zm ?_
 refine Zv (Runs.extract rfl rfl rfl) ?_
 refine Zv (Runs.extract rfl rfl rfl) ?_
 refine Za ?_
 refine Za ?_
 refine Zk9 0 1 4 5 6 11 12 14 18 (Zts (Zsr ?_))
 refine Zm ?_
 refine Zv (Runs.gtr rfl rfl rfl) ?_
 refine Zm ?_
 refine SeqC.start ?_
 refine Zco (fun hcx=>Runs.move rfl rfl) ?_
 refine SeqC.next rfl rfl rfl rfl rfl rfl rfl (fun hcx=>Runs.gtr rfl rfl rfl) ?_
 refine SeqC.or rfl rfl rfl rfl rfl rfl rfl ?_
 refine Zk10 0 1 4 5 6 11 12 14 18 34 (Zt ?_)
 refine Cd.condF rfl (by simp;omega) ?_
 refine Cd.skip (Ztq ?_)
 refine Zm ?_
 refine Zv (Runs.convI (r:=((2*d:Nat):Int)) rfl rfl Tryz.underlying52 Tryz.underlying3 (wrapI (by omega) (by omega))) ?_
 refine Za ?_
 refine Zk11 0 1 4 5 6 7 11 12 14 18 34 (Zts (Zsr ?_))
 refine Zm ?_
 refine Zv (Runs.lenL rfl rfl Tryz.underlying9) ?_
 refine Zv (Runs.eqlI rfl rfl rfl) ?_
 refine Zk12 0 1 4 5 6 7 11 12 14 18 34 40 (Zt ?_)
 refine Cd.condF rfl (by decide) ?_
 refine Cd.skip (Zts (Zsr ?_))
 refine Zm ?_
 refine Zv (Runs.indexL (l:=[32,32]) (j:=0) (c:=32) rfl rfl rfl Tryz.underlying9 rfl rfl (by decide)) ?_
 refine Zk13 0 1 4 5 6 7 11 12 14 18 34 40 42 (Zt (Cd.block (Cd.seq (Zsr ?_))))
 refine Zv (Runs.eqlI rfl rfl rfl) ?_
 refine Za ?_
 refine Zk14 0 1 4 5 6 7 11 12 14 18 34 40 42 43 (Zt ?_)
 refine Cd.condT rfl (by decide) ?_
 refine Cd.skip (Zt ?_)
 refine Cd.condT rfl (by decide) ?_
 refine Cd.block (Zsr ?_)
 refine Zm ?_
 refine Zv (Runs.leq rfl rfl rfl) ?_
 refine Zm ?_
 refine SeqC.start ?_
 refine Zco (fun hcx=>Runs.move rfl rfl) ?_
 refine SeqC.nextC rfl rfl rfl rfl rfl rfl rfl (fun hcx=>Ze Tryz.func129) (fun hcx=>hpre _ (by kernel_rfl)) ?_
 intro w1 hw1
 replace bel:=bel.step hw1
 refine SeqC.and rfl rfl rfl rfl rfl rfl rfl ?_
 refine Za ?_
 refine Zk15 0 1 4 5 6 7 11 12 14 18 34 40 42 43 49 (Zt ?_)
 refine Cd.condT rfl (by simp;omega) ?_
 refine Zsr ?_
 refine Zm ?_
 refine Zv (Runs.sliceTo (l:=blanks128) (j:=2*d) rfl (by kernel_rfl) rfl Tryz.underlying9 rfl (by unfold blanks128;rw[List.length_replicate];omega)) ?_
 refine Za ?_
 refine Zk15 0 1 4 5 6 7 11 12 14 18 34 40 42 43 49 (Zt (Cd.ret (Post.block_ret (Post.block_ret (Post.then_ret ?_)))))
 refine Post.end1 rfl rfl (.inl rfl) ?_
 rw[htk]
 exact⟨rfl,bel⟩
end Go.Proofs.YtaamkfajnpobfaaGreat
namespace Go.Proofs.YtaamkfajnpobfaaGreat
open Go.RowKit
theorem part_term (B g i:Nat)(t:Tm)(A A':Option Addr)(c c' f:Nat)(fst cp:List Value)(bs T:List Nat)(W:World)(hv:RepTV W B t A A')(h200:t.nodes≤200)(hbt:builtT t=true)(wr:Bw W B g bs)(hl:bs.length≤60000000)
  (eg:∀args w,(callFunc f args).run Tryz.prog w= .ok (.enter f args) w) (hi:i<t.exprs.length+t.terms.length)
  (hT:∀x,t.exprs[i]? =some x→T=exprT x)
  (hS:∀k x A1 A2 c1 c2,t.terms[k]? =some x→i=t.exprs.length+k→∀W',Wt B W W'→RepB W' B x (.agg (tmV x A1 A2 c1 c2).toArray)→Bw W' B g bs→Calls Tryz.prog f (fst++[Value.agg (tmV x A1 A2 c1 c2).toArray]++cp).toArray W' (WrRet B g (bs++T) W')):
  Calls Tryz.prog 91 #[.pointer (some ⟨g,0,none⟩), .agg #[.int .i64 t.op, .string (strOf t.name), .slice A t.exprs.length c, .slice A' t.terms.length c'], .int .i64 (i:Int), .func (.func f) fst.toArray cp.toArray] W (WrRet B g (bs++T) W):=by
 obtain⟨hh,hexp,hter⟩:=builtT_inv hbt
 have hBW:=wr.size
 have h60:=hv.h60
 have h61:=hv.h60'
 have wt:=Wt.refl B W
 refine Zs 31 Tryz.func91 ?_
 refine Zsr ?_
 refine Seq.box rfl rfl rfl rfl rfl ?_
 intro g5 w1 n5
 replace wt:=wt.step n5.below
 replace wr:=wr.step n5.below
 have k5:=n5.blk
 refine Zk5 0 1 2 3 5 (Zts (Zsr ?_))
 refine Zm ?_
 refine Zf 2 Tryz.underlying25 ?_
 refine Zv (Runs.loadB rfl rfl Tryz.underlying22 rfl k5 rfl) ?_
 refine Zv (Runs.len rfl rfl Tryz.underlying22) ?_
 refine Zv (Runs.lss rfl rfl rfl) ?_
 refine Zk6 0 1 2 3 5 12 (Zt ?_)
 refine Cd.condD rfl (fun hc=> ?_) (fun hc=> ?_)
 ·obtain⟨y,hy⟩:∃y,t.exprs[i]? =some y:=⟨_,List.getElem?_eq_getElem (by omega)⟩
  obtain⟨ad,Ax,cx,rfl,hbl,hrx,hce⟩:=hv.expr i y hy
  have hxm:=List.mem_of_getElem? hy
  have hxn:=Tm.expr_nodes hxm
  have hxd:=y.depth_nodes
  have hce:=fun j u hj=>((wt.to hBW).cell (p:=(ad.add (i*4)).add j) (by rw[block_of_add,block_of_add];exact hbl)).trans (hce j u hj)
  have hex:=exprW_any y.nodes y B g bs _ 1 _ (Nat.le_refl _) (by omega) (hexp y hxm) (hrx.below (wt.to hBW)) wr (by unfold I64;omega) (by omega)
  rw[inT_one,←hT y hy] at hex
  refine Zsr ?_
  refine Zm ?_
  refine Zf 2 Tryz.underlying25 ?_
  refine Zv (Runs.loadB rfl rfl Tryz.underlying22 rfl k5 rfl) ?_
  refine Zm ?_
  refine Zv (Runs.indexN rfl rfl rfl Tryz.underlying22 (s:=4) (by kernel_rfl) (j:=i) rfl (by omega)) ?_
  refine Zv (Runs.loadF (ps:=[.int .i64 y.op, .int .i64 y.n, .string (strOf y.name), .slice Ax y.args.length cx]) rfl rfl Tryz.underlying35 rfl (m:=4) (by kernel_rfl) rfl hce) ?_
  refine Zc (Ze Tryz.func40) (hex) ?_
  clear wr
  rintro e w2 ⟨⟨_,rfl⟩,fw2,wr⟩
  refine⟨_,rfl,?_⟩
  replace wt:=wt.wt fw2
  refine Zk6 0 1 2 3 5 12 (Zt (Cd.ret (Post.then_ret ?_)))
  refine Post.end0 rfl (.inl rfl) ?_
  exact⟨⟨_,rfl⟩,wt,wr⟩
 ·obtain⟨k,rfl⟩:∃k,i=t.exprs.length+k:=⟨i-t.exprs.length,by omega⟩
  obtain⟨y,hy⟩:∃y,t.terms[k]? =some y:=⟨_,List.getElem?_eq_getElem (by omega)⟩
  obtain⟨ad,A1,A2,d1,d2,rfl,hbl,hrx,hce⟩:=hv.term k y hy
  have hce:=fun j u hj=>((wt.to hBW).cell (p:=(ad.add (k*4)).add j) (by rw[block_of_add,block_of_add];exact hbl)).trans (hce j u hj)
  have hsub:=hS k y A1 A2 d1 d2 hy rfl _ wt (hrx.below (wt.to hBW)) wr
  refine Cd.skip (Ztr ?_)
  refine Zm ?_
  refine Zf 3 Tryz.underlying25 ?_
  refine Zv (Runs.loadB rfl rfl Tryz.underlying23 rfl k5 rfl) ?_
  refine Zm ?_
  refine Zf 2 Tryz.underlying25 ?_
  refine Zv (Runs.loadB rfl rfl Tryz.underlying22 rfl k5 rfl) ?_
  refine Zv (Runs.len rfl rfl Tryz.underlying22) ?_
  refine Zv (Runs.subI rfl rfl rfl (by omega) (by omega)) ?_
  refine Zv (Runs.indexN rfl rfl rfl Tryz.underlying23 (s:=4) (by kernel_rfl) (j:=k) (by omega) (by omega)) ?_
  refine Zv (Runs.loadF (ps:=[.int .i64 y.op, .string (strOf y.name), .slice A1 y.exprs.length d1, .slice A2 y.terms.length d2]) rfl rfl Tryz.underlying25 rfl (m:=4) (by kernel_rfl) rfl hce) ?_
  refine Seq.call (Enters.value (first:=fst) (cap:=cp) rfl rfl rfl eg) rfl rfl rfl hsub ?_
  clear wr
  rintro e w9 ⟨⟨_,rfl⟩,f9,wr⟩
  refine⟨_,rfl,?_⟩
  replace wt:=wt.wt f9
  refine Zk6 0 1 2 3 5 12 ?_
  refine Post.end0 rfl (.inr rfl) ?_
  exact⟨⟨_,rfl⟩,wt,wr⟩
theorem eg_term:∀args w,(callFunc 43 args).run Tryz.prog w= .ok (.enter 43 args) w:=fun args w=>run_enter Tryz.func43 (by kernel_rfl) rfl args w
theorem eg_term1:∀args w,(callFunc 90 args).run Tryz.prog w= .ok (.enter 90 args) w:=fun args w=>run_enter Tryz.func90 (by kernel_rfl) rfl args w
def RecT (B g L:Nat)(t:Tm):Prop:=∀(x:Tm) (A1 A2:Option Addr) (c1 c2:Nat),x∈t.terms→∀(W:World) (bs':List Nat),RepB W B x (.agg (tmV x A1 A2 c1 c2).toArray)→Bw W B g bs'→bs'.length≤L→Calls Tryz.prog 43 #[.pointer (some ⟨g,0,none⟩), .agg (tmV x A1 A2 c1 c2).toArray] W (WrRet B g (bs'++termT x) W)
def rowsP (t:Tm):List (List Nat):=t.exprs.map exprT++t.terms.map termT
theorem rowsP_expr {t:Tm}{i:Nat}{x:Ex}(h:t.exprs[i]? =some x):(rowsP t)[i]? =some (exprT x):=by
 have:=(List.getElem?_eq_some_iff.1 h).1
 unfold rowsP
 rw[List.getElem?_append_left (by simp;omega),List.getElem?_map,h];rfl
theorem rowsP_term {t:Tm}{k:Nat}{x:Tm}(h:t.terms[k]? =some x):(rowsP t)[t.exprs.length+k]? =some (termT x):=by
 unfold rowsP
 rw[List.getElem?_append_right (by simp),List.length_map,Nat.add_sub_cancel_left,List.getElem?_map,h];rfl
theorem termArg_of (B g L g2 g3 i c c':Nat)(A A':Option Addr)(t:Tm)(bs T:List Nat)(w W:World)(h:RecT B g L t)(hv:RepTV w B t A A')(h200:t.nodes≤200)(hbt:builtT t=true)(hb:Below B w W)(k2:Blk W g2 83 #[.pointer (some ⟨g,0,none⟩)]) (k3:Blk W g3 25 #[.int .i64 t.op, .string (strOf t.name), .slice A t.exprs.length c, .slice A' t.terms.length c']) (wr:Bw W B g bs) (hL:bs.length≤L) (hL2:L≤60000000) (hT:(rowsP t)[i]? =some T):
  Calls Tryz.prog 90 #[.int .i64 (i:Int), .pointer (some ⟨g2,0,none⟩), .pointer (some ⟨g3,0,none⟩)] W (WrRet B g (bs++T) W):=by
 have hBW:=wr.size
 have hi:=(List.getElem?_eq_some_iff.1 hT).1
 have hi:i<t.exprs.length+t.terms.length:=by unfold rowsP at hi;simpa using hi
 have hpart:=part_term B g i t A A' c c' 43 [.pointer (some ⟨g,0,none⟩)] [] bs T W (hv.below hb) h200 hbt wr (by omega) eg_term hi
  (fun x hx=>by rw[rowsP_expr hx] at hT;injection hT with hT;exact hT.symm)
  (fun k x A1 A2 c1 c2 hx hik W' hb' hr hw=>by
   subst hik
   rw[rowsP_term hx] at hT
   injection hT with hT
   subst hT
   exact h x A1 A2 c1 c2 (List.mem_of_getElem? hx) W' bs hr hw hL)
 have wt:=Wt.refl B W
 refine Zs 10 Tryz.func90 ?_
 refine Zr ?_
 refine Zv (Runs.loadB rfl rfl Tryz.underlying83 rfl k2 rfl) ?_
 refine Zv (Runs.loadW rfl rfl Tryz.underlying25 rfl k3 (m:=4) (by kernel_rfl) rfl) ?_
 refine Zm ?_
 refine Zv (Runs.loadB rfl rfl Tryz.underlying83 rfl k2 rfl) ?_
 refine Zv (Runs.makeFunc (v:= .func (.func 43) #[.pointer (some ⟨g,0,none⟩)] #[]) rfl (show evL _ _=some [.pointer (some ⟨g,0,none⟩)] from rfl) (show evL _ _=some [] from rfl) rfl) ?_
 refine Zc (Ze Tryz.func91) (hpart) ?_
 clear wr
 rintro e w1 ⟨⟨_,rfl⟩,fw1,wr⟩
 refine⟨_,rfl,?_⟩
 replace wt:=wt.wt fw1
 refine Zk3 0 1 2 ?_
 refine Post.end0 rfl (.inr rfl) ?_
 exact⟨⟨_,rfl⟩,wt,wr⟩
theorem termW_any (N:Nat):∀(t:Tm) (B g:Nat) (bs:List Nat) (v:Value) (w:World),t.nodes≤N→t.nodes≤200→builtT t=true→RepB w B t v→Bw w B g bs→bs.length+100000*t.depth≤50000000→
  Calls Tryz.prog 43 #[.pointer (some ⟨g,0,none⟩),v] w (WrRet B g (bs++termT t) w):=by
 induction N with
 |zero=>intro t B g bs v w hN;have:=t.nodes_pos;omega
 |succ N ih=>
 intro t B g bs v w hN h200 hbt hrep hbw hbs
 obtain⟨A,c,A',c',rfl,hv⟩:=hrep.open
 obtain⟨hh,hexp,hter⟩:=builtT_inv hbt
 obtain⟨a1,a2,a3⟩:=(headTB_iff _ _ _ _).1 hh
 obtain⟨p1,p2,p3,p4⟩:=arT_op a1
 have hBW:=hbw.size
 have hT:=termT_eq t
 have hbd:=termT_bd t.nodes t (Nat.le_refl _) hbt
 have h60:=hv.h60
 have h61:=hv.h60'
 have hrec:RecT B g (bs.length+60000) t:=fun x A1 A2 c1 c2 hx W bs' hr hw hl=>by
  have hnd:=Tm.term_nodes hx
  have hdp:=Tm.term_depth hx
  exact ih x B g bs' _ W (by omega) (by omega) (hter x hx) hr hw (by omega)
 have wt:=Wt.refl B w
 have wr:=hbw
 refine Zs 35 Tryz.func43 ?_
 refine Zsr ?_
 refine Seq.box rfl rfl rfl rfl rfl ?_
 intro g2 w1 n2
 replace wt:=wt.step n2.below
 replace wr:=wr.step n2.below
 have k2:=n2.blk
 refine Seq.box rfl rfl rfl rfl rfl ?_
 intro g3 w2 n3
 have l3:=Nat.lt_of_lt_of_le k2.lt n3.ge
 replace wt:=wt.step n3.below
 replace wr:=wr.step n3.below
 replace k2:=k2.step n3.below
 have k3:=n3.blk
 refine Zk4 0 1 2 3 (Ztq ?_)
 refine Zf 0 Tryz.underlying25 ?_
 refine Zv (Runs.loadB rfl rfl Tryz.underlying3 rfl k3 rfl) ?_
 refine Zk5 0 1 2 3 5 (Zt (Cd.block (Zsr ?_)))
 refine Zv (Runs.eqlI rfl rfl rfl) ?_
 refine Za ?_
 refine Zk6 0 1 2 3 5 19 (Zt ?_)
 refine Cd.condD rfl (fun h1=> ?_) (fun h1=> ?_)
 ·rw[if_pos h1] at hT
  refine Zr ?_
  refine Zv (Runs.loadB rfl rfl Tryz.underlying83 rfl k2 rfl) ?_
  refine Zv (Runs.nilCheck rfl rfl) ?_
  refine Zf 0 Tryz.underlying129 ?_
  refine Zc (Ze Tryz.func82) ((writeS_both B g [122,101,114,111] bs _ wr (by decide) (by simp only[List.length_cons,List.length_nil];omega)).1) ?_
  clear wr
  rintro e w3 ⟨⟨_,rfl⟩,fw3,wr⟩
  refine⟨_,rfl,?_⟩
  replace wt:=wt.wt fw3
  refine Zk6 0 1 2 3 5 19 (Post.block_normal ?_)
  refine Post.end0 rfl (.inr rfl) ?_
  rw[hT]
  exact⟨⟨_,rfl⟩,wt,wr⟩
 rw[if_neg h1] at hT
 refine Zsr ?_
 refine Zv (Runs.eqlI rfl rfl rfl) ?_
 refine Za ?_
 refine Zk7 0 1 2 3 5 19 25 (Zt ?_)
 refine Cd.condD rfl (fun h2=> ?_) (fun h2=> ?_)
 ·have hnm:=free_len (a2 h2)
  have hnl:=free_lt (a2 h2)
  have he0:t.exprs=[]∧t.terms=[]:=by
   rw[h2] at a1
   have e1:arT 2=(0,0):=rfl
   rw[e1] at a1
   injection a1 with x1 x2
   exact⟨List.eq_nil_of_length_eq_zero (by omega),List.eq_nil_of_length_eq_zero (by omega)⟩
  have hT2:termT t=[111,110,101,40]++t.name++[41]:=by
   rw[hT,if_pos h2,he0.1,he0.2,h2]
   simp[joinT]
   rfl
  refine Cd.draw 7 (by kernel_rfl) [] (.inl rfl) rfl Grow Grow.refl (fun _ _ _=>Grow.trans) ?_
  intro w3 hw3 zw3
  replace wt:=wt.step hw3
  replace wr:=wr.step hw3
  replace k2:=k2.step hw3
  replace k3:=k3.step hw3
  have zlt:=k3.lt
  refine Zd (fun w hG=>Runs.loadB rfl rfl Tryz.underlying83 rfl (k2.step hG) rfl) ?_
  refine Zd (fun w hG=>Runs.nilCheck rfl rfl) ?_
  refine Zd (fun w hG=>Runs.fieldB 0 rfl rfl Tryz.underlying129 rfl (by kernel_rfl)) ?_
  refine Zd (fun w hG=>Runs.fieldB 1 rfl rfl Tryz.underlying25 rfl (by kernel_rfl)) ?_
  refine Zd (fun w hG=>Runs.loadB rfl rfl Tryz.underlying9 rfl (k3.step hG) rfl) ?_
  refine Zd (fun w hG=>Runs.addL (a:=[111,110,101,40]) rfl rfl rfl (by simp only[List.length_cons,List.length_nil];omega)) ?_
  refine Zd (fun w hG=>Runs.addL (b:=[41]) rfl rfl rfl (by simp only[List.length_append,List.length_cons,List.length_nil];omega)) ?_
  refine Dr.nil ?_
  refine FinX.done (F':=[(0,_),(1,_),(2,_),(3,_),(5,_),(19,_),(25,_),(29,_),(33,_)]) rfl ⟨rfl,rfl,rfl,rfl,rfl,rfl,rfl,rfl,rfl,trivial⟩ ?_
  intro w4 hw4 fw4
  replace wt:=wt.step hw4
  replace wr:=wr.step hw4
  replace k2:=k2.step hw4
  replace k3:=k3.step hw4
  refine Zc (Ze Tryz.func82) ((writeS_both B g ([111,110,101,40]++t.name++[41]) bs _ wr (bt3 (by decide) hnl (by decide)) (by simp only[List.length_append,List.length_cons,List.length_nil];omega)).1) ?_
  clear wr
  rintro e w5 ⟨⟨_,rfl⟩,fw5,wr⟩
  refine⟨_,rfl,?_⟩
  replace wt:=wt.wt fw5
  refine Zk7 0 1 2 3 5 19 25 (Post.block_normal ?_)
  refine Post.end0 rfl (.inr rfl) ?_
  rw[hT2]
  exact⟨⟨_,rfl⟩,wt,wr⟩
 rw[if_neg h2,List.nil_append] at hT
 have hjr:t.exprs.map exprT++t.terms.map termT=rowsP t:=rfl
 rw[hjr] at hT
 have hrl:(rowsP t).length=t.exprs.length+t.terms.length:=by unfold rowsP;simp
 have hwl:=wordT_len t.op
 have hjl:(joinT (rowsP t)).length≤20000:=by
  have:=hbd.1
  rw[hT] at this
  simp only[List.length_append,List.length_cons,List.length_nil] at this
  omega
 have hrows:∀u∈rowsP t,∀d∈u,d<256:=fun u hu=>by
  unfold rowsP at hu
  rcases List.mem_append.1 hu with hu|hu
  ·obtain⟨z,hz,rfl⟩:=List.mem_map.1 hu
   exact(exprT_bd z.nodes z (Nat.le_refl _) (hexp z hz)).2
  ·obtain⟨z,hz,rfl⟩:=List.mem_map.1 hu
   exact(termT_bd z.nodes z (Nat.le_refl _) (hter z hz)).2
 have hword:∀W,Calls Tryz.prog 89 #[.int .i64 t.op] W fun e w'=>e= .returned (.string (strOf (wordT t.op)))∧Grow W w':=fun W=>printWord_any t.op W p1 p2
 refine Cd.draw 12 (by kernel_rfl) [] (.inl rfl) rfl Grow Grow.refl (fun _ _ _=>Grow.trans) ?_
 intro w3 hw3 zw3
 replace wt:=wt.step hw3
 replace wr:=wr.step hw3
 replace k2:=k2.step hw3
 replace k3:=k3.step hw3
 have zlt:=k3.lt
 refine Zd (fun w hG=>Runs.loadB rfl rfl Tryz.underlying83 rfl (k2.step hG) rfl) ?_
 refine Zd (fun w hG=>Runs.fieldB 0 rfl rfl Tryz.underlying25 rfl (by kernel_rfl)) ?_
 refine Zd (fun w hG=>Runs.loadB rfl rfl Tryz.underlying3 rfl (k3.step hG) rfl) ?_
 refine Dr.callV rfl (fun w=>Ze Tryz.func89) rfl (fun w hG=>hword w) ?_
 refine Zd (fun w hG=>Runs.fieldB 2 rfl rfl Tryz.underlying25 rfl (by kernel_rfl)) ?_
 refine Zd (fun w hG=>Runs.loadB rfl rfl Tryz.underlying22 rfl (k3.step hG) rfl) ?_
 refine Zd (fun w hG=>Runs.len rfl rfl Tryz.underlying22) ?_
 refine Zd (fun w hG=>Runs.fieldB 3 rfl rfl Tryz.underlying25 rfl (by kernel_rfl)) ?_
 refine Zd (fun w hG=>Runs.loadB rfl rfl Tryz.underlying23 rfl (k3.step hG) rfl) ?_
 refine Zd (fun w hG=>Runs.len rfl rfl Tryz.underlying23) ?_
 refine Zd (fun w hG=>Runs.addI rfl rfl rfl (by omega) (by omega)) ?_
 refine Zd (fun w hG=>Runs.makeFunc (v:= .func (.func 90) #[] #[.pointer (some ⟨g2,0,none⟩), .pointer (some ⟨g3,0,none⟩)]) rfl (show evL _ _=some [] from rfl) (show evL _ _=some [.pointer (some ⟨g2,0,none⟩), .pointer (some ⟨g3,0,none⟩)] from rfl) rfl) ?_
 refine Dr.nil ?_
 refine FinX.done (F':=[(0,_),(1,_),(2,_),(3,_),(5,_),(6,_),(9,_),(16,_),(17,_),(19,_),(25,_)]) rfl ⟨rfl,rfl,rfl,rfl,rfl,rfl,rfl,rfl,rfl,rfl,rfl,trivial⟩ ?_
 intro w4 hw4 fw4
 replace wt:=wt.step hw4
 replace wr:=wr.step hw4
 replace k2:=k2.step hw4
 replace k3:=k3.step hw4
 have hlist:=list_any B g 90 (t.exprs.length+t.terms.length) [.pointer (some ⟨g2,0,none⟩), .pointer (some ⟨g3,0,none⟩)] (wordT t.op) bs (rowsP t) _ wr hwl.2 (by omega) hrl (by omega) hrows hjl (by omega) eg_term1
  (fun i u hu W' bs' hwt hwr hlen=>termArg_of B g (bs.length+60000) g2 g3 i c c' A A' t bs' u w W' hrec hv h200 hbt ((wt.wt hwt).to hBW) (k2.wt hwt) (k3.wt hwt) hwr (by omega) (by omega) hu)
 refine Zc (Ze Tryz.func84) (hlist) ?_
 clear wr
 rintro e w5 ⟨⟨_,rfl⟩,fw5,wr⟩
 refine⟨_,rfl,?_⟩
 replace wt:=wt.wt fw5
 refine Zk7 0 1 2 3 5 19 25 (Post.block_normal ?_)
 refine Post.end0 rfl (.inr rfl) ?_
 rw[hT]
 exact⟨⟨_,rfl⟩,wt,by simpa only[List.append_assoc] using wr⟩
end Go.Proofs.YtaamkfajnpobfaaGreat
namespace Go.Proofs.YtaamkfajnpobfaaGreat
open Go.RowKit
theorem line_any (B g g3 d:Nat)(bs:List Nat)(W:World)(hd:d≤60)(k3:Blk W g3 83 #[.pointer (some ⟨g,0,none⟩)]) (wr:Bw W B g bs) (hl:bs.length≤900000000):
  Calls Tryz.prog 92 #[.int .i64 (d:Int), .pointer (some ⟨g3,0,none⟩)] W (WrRet B g (bs++([10]++blanksT d)) W):=by
 have wt:=Wt.refl B W
 have hbl:=blanksT_len d
 have hrep:∀W',Calls Tryz.prog 93 #[.string (strOf [32,32]), .int .i64 (d:Int)] W' fun e w'=>e= .returned (.string (strOf (blanksT d)))∧Grow W' w':=fun W'=>repeat_any d W' hd
 refine Zs 10 Tryz.func92 ?_
 refine Cd.draw 6 (by kernel_rfl) [] (.inl rfl) rfl Grow Grow.refl (fun _ _ _=>Grow.trans) ?_
 intro w1 hw1 zw1
 replace wt:=wt.step hw1
 replace wr:=wr.step hw1
 replace k3:=k3.step hw1
 have zlt:=k3.lt
 refine Zd (fun w hG=>Runs.loadB rfl rfl Tryz.underlying83 rfl (k3.step hG) rfl) ?_
 refine Zd (fun w hG=>Runs.nilCheck rfl rfl) ?_
 refine Zd (fun w hG=>Runs.fieldB 0 rfl rfl Tryz.underlying129 rfl (by kernel_rfl)) ?_
 refine Zdm ?_
 refine Dr.callV rfl (fun w=>Ze Tryz.func93) rfl (fun w hG=>hrep w) ?_
 refine Zd (fun w hG=>Runs.addL (a:=[10]) rfl rfl rfl (by simp only[List.length_cons,List.length_nil];omega)) ?_
 refine Dr.nil ?_
 refine FinX.done (F':=[(0,_),(1,_),(5,_),(8,_)]) rfl ⟨rfl,rfl,rfl,rfl,trivial⟩ ?_
 intro w2 hw2 fw2
 replace wt:=wt.step hw2
 replace wr:=wr.step hw2
 replace k3:=k3.step hw2
 refine Zc (Ze Tryz.func82) ((writeS_both B g ([10]++blanksT d) bs _ wr (fun x hx=>by rcases List.mem_append.1 hx with hx|hx;exact(show∀x∈ [10],x<256 by decide) x hx;exact blanksT_lt d x hx) (by simp only[List.length_append,List.length_cons,List.length_nil];omega)).1) ?_
 clear wr
 rintro e w3 ⟨⟨_,rfl⟩,fw3,wr⟩
 refine⟨_,rfl,?_⟩
 replace wt:=wt.wt fw3
 refine Zk2 0 1 ?_
 refine Post.end0 rfl (.inr rfl) ?_
 exact⟨⟨_,rfl⟩,wt,wr⟩
theorem eg_line:∀args w,(callFunc 92 args).run Tryz.prog w= .ok (.enter 92 args) w:=fun args w=>run_enter Tryz.func92 (by kernel_rfl) rfl args w
theorem eg_lines2:∀args w,(callFunc 94 args).run Tryz.prog w= .ok (.enter 94 args) w:=fun args w=>run_enter Tryz.func94 (by kernel_rfl) rfl args w
theorem rowsT_expr {d:Nat}{t:Tm}{i:Nat}{x:Ex}(h:t.exprs[i]? =some x):(rowsT d t)[i]? =some (exprT x):=by
 have:=(List.getElem?_eq_some_iff.1 h).1
 unfold rowsT
 rw[List.getElem?_append_left (by simp;omega),List.getElem?_map,h];rfl
theorem rowsT_term {d:Nat}{t:Tm}{k:Nat}{x:Tm}(h:t.terms[k]? =some x):(rowsT d t)[t.exprs.length+k]? =some (linesT (d+1) x):=by
 unfold rowsT
 rw[List.getElem?_append_right (by simp),List.length_map,Nat.add_sub_cancel_left,List.getElem?_map,h];rfl
def RecS (B g L d:Nat)(t:Tm):Prop:=∀(x:Tm) (A1 A2:Option Addr) (c1 c2:Nat),x∈t.terms→∀(W:World) (bs':List Nat),RepB W B x (.agg (tmV x A1 A2 c1 c2).toArray)→Bw W B g bs'→bs'.length≤L→Calls Tryz.prog 45 #[.pointer (some ⟨g,0,none⟩), .agg (tmV x A1 A2 c1 c2).toArray, .int .i64 ((d+1:Nat):Int)] W (WrRet B g (bs'++linesT (d+1) x) W)
theorem linesArg_of (B g L g7 g8 d c1 c2:Nat)(A1 A2:Option Addr)(t x:Tm)(bs:List Nat)(W:World)(h:RecS B g L d t)(hx:x∈t.terms)(hd:d≤60)(hr:RepB W B x (.agg (tmV x A1 A2 c1 c2).toArray))(k7:Blk W g7 83 #[.pointer (some ⟨g,0,none⟩)]) (k8:Blk W g8 3 #[.int .i64 (d:Int)]) (wr:Bw W B g bs) (hL:bs.length≤L):
  Calls Tryz.prog 94 #[.agg #[.int .i64 x.op, .string (strOf x.name), .slice A1 x.exprs.length c1, .slice A2 x.terms.length c2], .pointer (some ⟨g7,0,none⟩), .pointer (some ⟨g8,0,none⟩)] W (WrRet B g (bs++linesT (d+1) x) W):=by
 have hBW:=wr.size
 have wt:=Wt.refl B W
 have hc:∀W',Below B W W'→Bw W' B g bs→Calls Tryz.prog 45 #[.pointer (some ⟨g,0,none⟩), .agg #[.int .i64 x.op, .string (strOf x.name), .slice A1 x.exprs.length c1, .slice A2 x.terms.length c2], .int .i64 ((d:Int)+1)] W' (WrRet B g (bs++linesT (d+1) x) W'):=fun W' hb hw=>h x A1 A2 c1 c2 hx W' bs (hr.below hb) hw hL
 refine Zs 9 Tryz.func94 ?_
 refine Zsr ?_
 refine Seq.box rfl rfl rfl rfl rfl ?_
 intro g3 w1 n3
 have l3:=Nat.lt_of_lt_of_le k8.lt n3.ge
 replace wt:=wt.step n3.below
 replace wr:=wr.step n3.below
 replace k7:=k7.step n3.below
 replace k8:=k8.step n3.below
 have k3:=n3.blk
 refine Zk4 0 1 2 3 (Ztr ?_)
 refine Zv (Runs.loadB rfl rfl Tryz.underlying83 rfl k7 rfl) ?_
 refine Zv (Runs.loadW rfl rfl Tryz.underlying25 rfl k3 (m:=4) (by kernel_rfl) rfl) ?_
 refine Zv (Runs.loadB rfl rfl Tryz.underlying3 rfl k8 rfl) ?_
 refine Za_ ?_
 refine Zc (Ze Tryz.func45) (hc _ (wt.to hBW) wr) ?_
 clear wr
 rintro e w2 ⟨⟨_,rfl⟩,fw2,wr⟩
 refine⟨_,rfl,?_⟩
 replace wt:=wt.wt fw2
 refine Zk4 0 1 2 3 ?_
 refine Post.end0 rfl (.inr rfl) ?_
 exact⟨⟨_,rfl⟩,wt,wr⟩
theorem linesW_any (N:Nat):∀(t:Tm) (B g d:Nat) (bs:List Nat) (v:Value) (w:World),t.nodes≤N→t.nodes≤200→builtT t=true→d+t.depth≤50→RepB w B t v→Bw w B g bs→bs.length+100000*t.depth≤50000000→
  Calls Tryz.prog 45 #[.pointer (some ⟨g,0,none⟩),v, .int .i64 (d:Int)] w (WrRet B g (bs++linesT d t) w):=by
 induction N with
 |zero=>intro t B g d bs v w hN;have:=t.nodes_pos;omega
 |succ N ih=>
 intro t B g d bs v w hN h200 hbt hdd hrep hbw hbs
 obtain⟨A,c,A',c',rfl,hv⟩:=hrep.open
 obtain⟨hh,hexp,hter⟩:=builtT_inv hbt
 obtain⟨a1,a2,a3⟩:=(headTB_iff _ _ _ _).1 hh
 obtain⟨p1,p2,p3,p4⟩:=arT_op a1
 have hBW:=hbw.size
 have hT:=linesT_eq d t
 have hbd:=linesT_bd t.nodes t d (Nat.le_refl _) hbt hdd
 have h60:=hv.h60
 have h61:=hv.h60'
 have hdp0:0<t.depth:=by have:=t.depth_eq;omega
 have hrec:RecS B g (bs.length+60000) d t:=fun x A1 A2 c1 c2 hx W bs' hr hw hl=>by
  have hnd:=Tm.term_nodes hx
  have hdp:=Tm.term_depth hx
  exact ih x B g (d+1) bs' _ W (by omega) (by omega) (hter x hx) (by omega) hr hw (by omega)
 have wt:=Wt.refl B w
 have wr:=hbw
 refine Zs 57 Tryz.func45 ?_
 refine Zsr ?_
 refine Seq.box rfl rfl rfl rfl rfl ?_
 intro g3 w1 n3
 replace wt:=wt.step n3.below
 replace wr:=wr.step n3.below
 have k3:=n3.blk
 refine Seq.box rfl rfl rfl rfl rfl ?_
 intro g4 w2 n4
 have l4:=Nat.lt_of_lt_of_le k3.lt n4.ge
 replace wt:=wt.step n4.below
 replace wr:=wr.step n4.below
 replace k3:=k3.step n4.below
 have k4:=n4.blk
 refine Seq.box rfl rfl rfl rfl rfl ?_
 intro g5 w3 n5
 have l5:=Nat.lt_of_lt_of_le k4.lt n5.ge
 replace wt:=wt.step n5.below
 replace wr:=wr.step n5.below
 replace k3:=k3.step n5.below
 replace k4:=k4.step n5.below
 have k5:=n5.blk
 refine Zk6 0 1 2 3 4 5 (Zts (Zsr ?_))
 refine Zf 3 Tryz.underlying25 ?_
 refine Zv (Runs.loadB rfl rfl Tryz.underlying23 rfl k4 rfl) ?_
 refine Zv (Runs.len rfl rfl Tryz.underlying23) ?_
 refine Zv (Runs.eqlI rfl rfl rfl) ?_
 refine Zk7 0 1 2 3 4 5 11 (Zt ?_)
 refine Cd.condD rfl (fun h0=> ?_) (fun h0=> ?_)
 ·have hnil:t.terms=[]:=List.eq_nil_of_length_eq_zero (by omega)
  rw[if_pos hnil] at hT
  have hterm:=termW_any t.nodes t B g bs _ _ (Nat.le_refl _) h200 hbt (hrep.below (wt.to hBW)) wr hbs
  refine Zsr ?_
  refine Zv (Runs.loadB rfl rfl Tryz.underlying83 rfl k3 rfl) ?_
  refine Zv (Runs.loadW rfl rfl Tryz.underlying25 rfl k4 (m:=4) (by kernel_rfl) rfl) ?_
  refine Zc (Ze Tryz.func43) (hterm) ?_
  clear wr
  rintro e w4 ⟨⟨_,rfl⟩,fw4,wr⟩
  refine⟨_,rfl,?_⟩
  replace wt:=wt.wt fw4
  refine Zk7 0 1 2 3 4 5 11 (Zt (Cd.ret (Post.then_ret ?_)))
  refine Post.end0 rfl (.inl rfl) ?_
  rw[hT]
  exact⟨⟨_,rfl⟩,wt,wr⟩
 have hne:t.terms≠ []:=fun h=>h0 (by rw[h];rfl)
 rw[if_neg hne] at hT
 have hbl:=hbd.1
 rw[hT] at hbl
 simp only[List.length_append,List.length_cons,List.length_nil,blanksT_len] at hbl
 have hrl:(rowsT d t).length=t.exprs.length+t.terms.length:=by unfold rowsT;simp
 have hwl:=wordT_len t.op
 have hword:∀W,Calls Tryz.prog 89 #[.int .i64 t.op] W fun e w'=>e= .returned (.string (strOf (wordT t.op)))∧Grow W w':=fun W=>printWord_any t.op W p1 p2
 obtain⟨n,hn⟩:∃n,n=t.exprs.length+t.terms.length:=⟨_,rfl⟩
 refine Cd.skip (Ztq ?_)
 refine Zv (Runs.makeFunc (v:= .func (.func 92) #[] #[.pointer (some ⟨g3,0,none⟩)]) rfl (show evL _ _=some [] from rfl) (show evL _ _=some [.pointer (some ⟨g3,0,none⟩)] from rfl) rfl) ?_
 refine Za ?_
 refine Zk8 0 1 2 3 4 5 6 11 (Zts ?_)
 refine Cd.draw 7 (by kernel_rfl) [] (.inl rfl) rfl Grow Grow.refl (fun _ _ _=>Grow.trans) ?_
 intro w4 hw4 zw4
 replace wt:=wt.step hw4
 replace wr:=wr.step hw4
 replace k3:=k3.step hw4
 replace k4:=k4.step hw4
 replace k5:=k5.step hw4
 have zlt:=k5.lt
 refine Zd (fun w hG=>Runs.loadB rfl rfl Tryz.underlying83 rfl (k3.step hG) rfl) ?_
 refine Zd (fun w hG=>Runs.nilCheck rfl rfl) ?_
 refine Zd (fun w hG=>Runs.fieldB 0 rfl rfl Tryz.underlying129 rfl (by kernel_rfl)) ?_
 refine Zd (fun w hG=>Runs.fieldB 0 rfl rfl Tryz.underlying25 rfl (by kernel_rfl)) ?_
 refine Zd (fun w hG=>Runs.loadB rfl rfl Tryz.underlying3 rfl (k4.step hG) rfl) ?_
 refine Dr.callV rfl (fun w=>Ze Tryz.func89) rfl (fun w hG=>hword w) ?_
 refine Zd (fun w hG=>Runs.addL (b:=[40]) rfl rfl rfl (by simp only[List.length_cons,List.length_nil];omega)) ?_
 refine Dr.nil ?_
 refine FinX.done (F':=[(0,_),(1,_),(2,_),(3,_),(4,_),(5,_),(6,_),(11,_),(18,_),(22,_)]) rfl ⟨rfl,rfl,rfl,rfl,rfl,rfl,rfl,rfl,rfl,rfl,trivial⟩ ?_
 intro w5 hw5 fw5
 replace wt:=wt.step hw5
 replace wr:=wr.step hw5
 replace k3:=k3.step hw5
 replace k4:=k4.step hw5
 replace k5:=k5.step hw5
 refine Zc (Ze Tryz.func82) ((writeS_both B g (wordT t.op++[40]) bs _ wr (fun x hx=>by rcases List.mem_append.1 hx with hx|hx;exact hwl.2 x hx;exact(show∀x∈ [40],x<256 by decide) x hx) (by simp only[List.length_append,List.length_cons,List.length_nil];omega)).1) ?_
 clear wr
 rintro e w6 ⟨⟨_,rfl⟩,fw6,wr⟩
 refine⟨_,rfl,?_⟩
 replace wt:=wt.wt fw6
 replace k3:=k3.wt fw6
 replace k4:=k4.wt fw6
 replace k5:=k5.wt fw6
 obtain⟨pre,hpre⟩:∃pre,pre=bs++(wordT t.op++[40]):=⟨_,rfl⟩
 have hprel:pre.length≤bs.length+8:=by rw[hpre];simp only[List.length_append,List.length_cons,List.length_nil];omega
 rw[←hpre] at wr
 refine Zk8 0 1 2 3 4 5 6 11 (Zts (Zsr ?_))
 refine Zf 2 Tryz.underlying25 ?_
 refine Zv (Runs.loadB rfl rfl Tryz.underlying22 rfl k4 rfl) ?_
 refine Zv (Runs.len rfl rfl Tryz.underlying22) ?_
 refine Zf 3 Tryz.underlying25 ?_
 refine Zv (Runs.loadB rfl rfl Tryz.underlying23 rfl k4 rfl) ?_
 refine Zv (Runs.len rfl rfl Tryz.underlying23) ?_
 refine Za_ ?_
 refine Zm ?_
 refine Zk10 0 1 2 3 4 5 6 11 30 31 (Zt (Cd.block ?_))
 refine Cd.loop (σ:=Nat) (fun k=>[(3, .pointer (some ⟨g3,0,none⟩)),(4, .pointer (some ⟨g4,0,none⟩)),(5, .pointer (some ⟨g5,0,none⟩)),(6, .func (.func 92) #[] #[.pointer (some ⟨g3,0,none⟩)]),(30, .int .i64 (n:Int)),(31, .int .i64 (k:Int))]) (fun k wr'=>k≤n∧Wt B w wr'∧Blk wr' g3 83 #[.pointer (some ⟨g,0,none⟩)]∧Blk wr' g4 25 #[.int .i64 t.op, .string (strOf t.name), .slice A t.exprs.length c, .slice A' t.terms.length c']∧Blk wr' g5 3 #[.int .i64 (d:Int)]∧Bw wr' B g (pre++segs (blanksT (d+1)) ((rowsT d t).take k))) (fun k=>n-k) 0 ⟨Nat.zero_le _,wt,k3,k4,k5,by simpa[segs] using wr⟩ ⟨rfl,rfl,rfl,rfl,congrArg (fun x:Int=>some (Value.int .i64 x)) (show((t.exprs.length:Int)+(t.terms.length:Int))=((n:Nat):Int) by omega),rfl,trivial⟩ ?_
 clear wt wr k3 k4 k5
 rintro k w9 ⟨hk,wt,k3,k4,k5,wr⟩
 have hbk:=segs_take (blanksT (d+1)) (rowsT d t) k
 refine Zsr ?_
 refine Zv (Runs.lss rfl rfl rfl) ?_
 refine Zk7 3 4 5 6 30 31 32 (Zts ?_)
 refine Cd.condD rfl (fun hc=> ?_) (fun hc=> ?_)
 ·obtain⟨u,hu⟩:∃u,(rowsT d t)[k]? =some u:=⟨_,List.getElem?_eq_getElem (by omega)⟩
  have htk:(rowsT d t).take (k+1)=(rowsT d t).take k++[u]:=by rw[List.take_add_one,hu];rfl
  have hbk1:=segs_take (blanksT (d+1)) (rowsT d t) (k+1)
  rw[htk,segs_snoc] at hbk1
  simp only[List.length_append,List.length_cons,List.length_nil,blanksT_len] at hbk1
  have hsl:=segs_snoc (blanksT (d+1)) ((rowsT d t).take k) u
  have hparts:∀(W:World) (bs':List Nat),Wt B w W→Blk W g3 83 #[.pointer (some ⟨g,0,none⟩)]→Blk W g5 3 #[.int .i64 (d:Int)]→Bw W B g bs'→bs'.length≤bs.length+60000→Calls Tryz.prog 91 #[.pointer (some ⟨g,0,none⟩), .agg #[.int .i64 t.op, .string (strOf t.name), .slice A t.exprs.length c, .slice A' t.terms.length c'], .int .i64 (k:Int), .func (.func 94) #[] #[.pointer (some ⟨g3,0,none⟩), .pointer (some ⟨g5,0,none⟩)]] W (WrRet B g (bs'++u) W):=fun W bs' hwt h3 h5 hwr hlen=>
   part_term B g k t A A' c c' 94 [] [.pointer (some ⟨g3,0,none⟩), .pointer (some ⟨g5,0,none⟩)] bs' u W (hv.below (hwt.to hBW)) h200 hbt hwr (by omega) eg_lines2 (by omega)
    (fun x hx=>by rw[rowsT_expr hx] at hu;injection hu with hu;exact hu.symm)
    (fun q x A1 A2 c1 c2 hx hik W' hwt' hr hw=>by
     rw[hik,rowsT_term hx] at hu
     injection hu with hu
     subst hu
     exact linesArg_of B g (bs.length+60000) g3 g5 d c1 c2 A1 A2 t x bs' W' hrec (List.mem_of_getElem? hx) (by omega) hr (h3.wt hwt') (h5.wt hwt') hw hlen)
  refine Cd.skip (Zts (Cd.block (Zsr ?_)))
  refine Zm ?_
  refine Za ?_
  refine Zk8 3 4 5 6 7 30 31 32 (Zts (Zsr ?_))
  refine Zm ?_
  refine Zv (Runs.gtr rfl rfl rfl) ?_
  refine Zk9 3 4 5 6 7 30 31 32 35 (Zt ?_)
  refine Cd.condD rfl (fun hc=> ?_) (fun hc=> ?_)
  ·have hne2:(rowsT d t).take k≠ []:=fun h0=>by have:=congrArg List.length h0;rw[List.length_take,List.length_nil] at this;omega
   rw[if_neg hne2] at hsl
   refine Zr ?_
   refine Zv (Runs.loadB rfl rfl Tryz.underlying83 rfl k3 rfl) ?_
   refine Zv (Runs.nilCheck rfl rfl) ?_
   refine Zf 0 Tryz.underlying129 ?_
   refine Zc (Ze Tryz.func82) ((writeS_both B g [44] _ _ wr (by decide) (by simp only[List.length_append,List.length_cons,List.length_nil];omega)).1) ?_
   clear wr
   rintro e w7 ⟨⟨_,rfl⟩,fw7,wr⟩
   refine⟨_,rfl,?_⟩
   replace wt:=wt.wt fw7
   replace k3:=k3.wt fw7
   replace k4:=k4.wt fw7
   replace k5:=k5.wt fw7
   refine Zk9 3 4 5 6 7 30 31 32 35 (Ztq ?_)
   refine Zm ?_
   refine Zv (Runs.loadB rfl rfl Tryz.underlying3 rfl k5 rfl) ?_
   refine Za_ ?_
   refine Seq.call (Enters.value (first:=[]) (cap:=[.pointer (some ⟨g3,0,none⟩)]) rfl rfl rfl eg_line) rfl rfl rfl (line_any B g g3 (d+1) _ _ (by omega) k3 wr (by simp only[List.length_append,List.length_cons,List.length_nil];omega)) ?_
   clear wr
   rintro e w10 ⟨⟨_,rfl⟩,f10,wr⟩
   refine⟨_,rfl,?_⟩
   replace k3:=k3.wt f10
   replace k4:=k4.wt f10
   replace k5:=k5.wt f10
   replace wt:=wt.wt f10
   refine Zk9 3 4 5 6 7 30 31 32 35 (Ztr ?_)
   refine Zv (Runs.loadB rfl rfl Tryz.underlying83 rfl k3 rfl) ?_
   refine Zv (Runs.loadW rfl rfl Tryz.underlying25 rfl k4 (m:=4) (by kernel_rfl) rfl) ?_
   refine Zm ?_
   refine Zv (Runs.makeFunc (v:= .func (.func 94) #[] #[.pointer (some ⟨g3,0,none⟩), .pointer (some ⟨g5,0,none⟩)]) rfl (show evL _ _=some [] from rfl) (show evL _ _=some [.pointer (some ⟨g3,0,none⟩), .pointer (some ⟨g5,0,none⟩)] from rfl) rfl) ?_
   refine Zc (Ze Tryz.func91) (hparts _ _ wt k3 k5 wr (by simp only[List.length_append,List.length_cons,List.length_nil,blanksT_len];omega)) ?_
   clear wr
   rintro e w8 ⟨⟨_,rfl⟩,fw8,wr⟩
   refine⟨_,rfl,?_⟩
   replace wt:=wt.wt fw8
   replace k3:=k3.wt fw8
   replace k4:=k4.wt fw8
   replace k5:=k5.wt fw8
   refine Zk9 3 4 5 6 7 30 31 32 35 (Post.block_normal (Ztr ?_))
   refine Za_ ?_
   refine Zm ?_
   refine Zk9 3 4 5 6 7 30 31 32 35 ?_
   refine Post.round (k+1) ⟨rfl,rfl,rfl,rfl,rfl,rfl,trivial⟩ ⟨by omega,wt,k3,k4,k5,?_⟩ (by omega)
   rw[htk,hsl]
   simpa only[List.append_assoc] using wr
  ·obtain rfl:k=0:=by omega
   rw[List.take_zero,if_pos rfl] at hsl
   rw[List.take_zero] at wr
   have hs0:segs (blanksT (d+1)) []=[]:=rfl
   rw[hs0] at hsl wr
   simp only[List.append_nil,List.nil_append] at hsl wr
   refine Cd.skip (Ztq ?_)
   refine Zm ?_
   refine Zv (Runs.loadB rfl rfl Tryz.underlying3 rfl k5 rfl) ?_
   refine Za_ ?_
   refine Seq.call (Enters.value (first:=[]) (cap:=[.pointer (some ⟨g3,0,none⟩)]) rfl rfl rfl eg_line) rfl rfl rfl (line_any B g g3 (d+1) _ _ (by omega) k3 wr (by omega)) ?_
   clear wr
   rintro e w10 ⟨⟨_,rfl⟩,f10,wr⟩
   refine⟨_,rfl,?_⟩
   replace k3:=k3.wt f10
   replace k4:=k4.wt f10
   replace k5:=k5.wt f10
   replace wt:=wt.wt f10
   refine Zk9 3 4 5 6 7 30 31 32 35 (Ztr ?_)
   refine Zv (Runs.loadB rfl rfl Tryz.underlying83 rfl k3 rfl) ?_
   refine Zv (Runs.loadW rfl rfl Tryz.underlying25 rfl k4 (m:=4) (by kernel_rfl) rfl) ?_
   refine Zm ?_
   refine Zv (Runs.makeFunc (v:= .func (.func 94) #[] #[.pointer (some ⟨g3,0,none⟩), .pointer (some ⟨g5,0,none⟩)]) rfl (show evL _ _=some [] from rfl) (show evL _ _=some [.pointer (some ⟨g3,0,none⟩), .pointer (some ⟨g5,0,none⟩)] from rfl) rfl) ?_
   refine Zc (Ze Tryz.func91) (hparts _ _ wt k3 k5 wr (by simp only[List.length_append,List.length_cons,List.length_nil,blanksT_len];omega)) ?_
   clear wr
   rintro e w7 ⟨⟨_,rfl⟩,fw7,wr⟩
   refine⟨_,rfl,?_⟩
   replace wt:=wt.wt fw7
   replace k3:=k3.wt fw7
   replace k4:=k4.wt fw7
   replace k5:=k5.wt fw7
   refine Zk9 3 4 5 6 7 30 31 32 35 (Post.block_normal (Ztr ?_))
   refine Za_ ?_
   refine Zm ?_
   refine Zk9 3 4 5 6 7 30 31 32 35 ?_
   refine Post.round 1 ⟨rfl,rfl,rfl,rfl,rfl,rfl,trivial⟩ ⟨by omega,wt,k3,k4,k5,?_⟩ (by omega)
   rw[htk,List.take_zero,List.nil_append,hsl]
   simpa only[List.append_assoc] using wr
 ·obtain rfl:k=n:=by omega
  rw[List.take_of_length_le (by omega)] at wr
  refine Cd.exit (Post.then_exit (Post.round_exit (Post.block_exit (Ztq ?_))))
  refine Zm ?_
  refine Zv (Runs.loadB rfl rfl Tryz.underlying3 rfl k5 rfl) ?_
  refine Seq.call (Enters.value (first:=[]) (cap:=[.pointer (some ⟨g3,0,none⟩)]) rfl rfl rfl eg_line) rfl rfl rfl (line_any B g g3 d _ _ (by omega) k3 wr (by simp only[List.length_append,List.length_cons,List.length_nil];omega)) ?_
  clear wr
  rintro e w10 ⟨⟨_,rfl⟩,f10,wr⟩
  refine⟨_,rfl,?_⟩
  replace k3:=k3.wt f10
  replace wt:=wt.wt f10
  refine Zk7 3 4 5 6 30 31 32 (Ztr ?_)
  refine Zv (Runs.loadB rfl rfl Tryz.underlying83 rfl k3 rfl) ?_
  refine Zv (Runs.nilCheck rfl rfl) ?_
  refine Zf 0 Tryz.underlying129 ?_
  refine Zc (Ze Tryz.func82) ((writeS_both B g [41] _ _ wr (by decide) (by simp only[List.length_append,List.length_cons,List.length_nil,blanksT_len];omega)).1) ?_
  clear wr
  rintro e w7 ⟨⟨_,rfl⟩,fw7,wr⟩
  refine⟨_,rfl,?_⟩
  replace wt:=wt.wt fw7
  refine Zk7 3 4 5 6 30 31 32 ?_
  refine Post.end0 rfl (.inr rfl) ?_
  rw[hT]
  rw[hpre] at wr
  exact⟨⟨_,rfl⟩,wt,by simpa only[List.append_assoc] using wr⟩
end Go.Proofs.YtaamkfajnpobfaaGreat
namespace Go.Proofs.YtaamkfajnpobfaaGreat
open Go.RowKit
theorem termCall_of (t:Tm)(A A':Option Addr)(B g g1 c c':Nat)(w W:World)(hbt:builtT t=true)(h200:t.nodes≤200)(hrep:RepB w B t (.agg #[.int .i64 t.op, .string (strOf t.name), .slice A t.exprs.length c, .slice A' t.terms.length c'])) (hb:Below B w W) (k1:Blk W g1 25 #[.int .i64 t.op, .string (strOf t.name), .slice A t.exprs.length c, .slice A' t.terms.length c']) (wr:Bw W B g []):
  Calls Tryz.prog 42 #[.pointer (some ⟨g,0,none⟩), .pointer (some ⟨g1,0,none⟩)] W (WrRet B g (termT t) W):=by
 have hdn:=t.depth_nodes
 have hex:=termW_any t.nodes t B g [] _ W (Nat.le_refl _) h200 hbt (hrep.below hb) wr (by simp only[List.length_nil];omega)
 rw[List.nil_append] at hex
 have wt:=Wt.refl B W
 refine Zs 6 Tryz.func42 ?_
 refine Zr ?_
 refine Zm ?_
 refine Zv (Runs.loadW rfl rfl Tryz.underlying25 rfl k1 (m:=4) (by kernel_rfl) rfl) ?_
 refine Zc (Ze Tryz.func43) (hex) ?_
 clear wr
 rintro e w1 ⟨⟨_,rfl⟩,fw1,wr⟩
 refine⟨_,rfl,?_⟩
 replace wt:=wt.wt fw1
 refine Zk2 0 1 ?_
 refine Post.end0 rfl (.inr rfl) ?_
 exact⟨⟨_,rfl⟩,wt,wr⟩
theorem linesCall_of (t:Tm)(A A':Option Addr)(B g g1 c c':Nat)(w W:World)(hbt:builtT t=true)(h200:t.nodes≤200)(hd:t.depth≤16)(hrep:RepB w B t (.agg #[.int .i64 t.op, .string (strOf t.name), .slice A t.exprs.length c, .slice A' t.terms.length c'])) (hb:Below B w W) (k1:Blk W g1 25 #[.int .i64 t.op, .string (strOf t.name), .slice A t.exprs.length c, .slice A' t.terms.length c']) (wr:Bw W B g []):
  Calls Tryz.prog 44 #[.pointer (some ⟨g,0,none⟩), .pointer (some ⟨g1,0,none⟩)] W (WrRet B g (linesT 0 t) W):=by
 have hex:=linesW_any t.nodes t B g 0 [] _ W (Nat.le_refl _) h200 hbt (by omega) (hrep.below hb) wr (by simp only[List.length_nil];omega)
 rw[List.nil_append] at hex
 have hex:Calls Tryz.prog 45 #[.pointer (some ⟨g,0,none⟩), .agg #[.int .i64 t.op, .string (strOf t.name), .slice A t.exprs.length c, .slice A' t.terms.length c'], .int .i64 0] W (WrRet B g (linesT 0 t) W):=hex
 have wt:=Wt.refl B W
 refine Zs 6 Tryz.func44 ?_
 refine Zr ?_
 refine Zm ?_
 refine Zv (Runs.loadW rfl rfl Tryz.underlying25 rfl k1 (m:=4) (by kernel_rfl) rfl) ?_
 refine Zc (Ze Tryz.func45) (hex) ?_
 clear wr
 rintro e w1 ⟨⟨_,rfl⟩,fw1,wr⟩
 refine⟨_,rfl,?_⟩
 replace wt:=wt.wt fw1
 refine Zk2 0 1 ?_
 refine Post.end0 rfl (.inr rfl) ?_
 exact⟨⟨_,rfl⟩,wt,wr⟩
theorem eg_termC:∀args w,(callFunc 42 args).run Tryz.prog w= .ok (.enter 42 args) w:=fun args w=>run_enter Tryz.func42 (by kernel_rfl) rfl args w
theorem eg_linesC:∀args w,(callFunc 44 args).run Tryz.prog w= .ok (.enter 44 args) w:=fun args w=>run_enter Tryz.func44 (by kernel_rfl) rfl args w
theorem rightT_spec {t:Tm}(h:rightT t=true):t.nodes≤200∧t.depth≤16∧builtT t=true:=by
 unfold rightT at h
 simp at h
 exact⟨h.1.1,h.1.2,h.2⟩
def textR (t:Tm):List Nat:=if rightT t=true then termT t else []
def linesR (t:Tm):List Nat:=if rightT t=true then linesT 0 t else []
theorem textR_len (t:Tm):(textR t).length≤1000000:=by
 unfold textR
 split
 ·rename_i h
  obtain⟨h1,h2,h3⟩:=rightT_spec h
  have:=(termT_bd t.nodes t (Nat.le_refl _) h3).1
  omega
 ·simp
theorem linesR_len (t:Tm):(linesR t).length≤1000000:=by
 unfold linesR
 split
 ·rename_i h
  obtain⟨h1,h2,h3⟩:=rightT_spec h
  have:=(linesT_bd t.nodes t 0 (Nat.le_refl _) h3 (by omega)).1
  omega
 ·simp
theorem printTerm_any (t:Tm)(v:Value)(w:World)(hd:t.depth≤900)(hrep:RepB w w.heap.size t v):Calls Tryz.prog 20 #[v] w fun en w'=>en= .returned (.tuple #[.string (strOf (prText (rightT t) (textR t)).1), .int .i64 (prText (rightT t) (textR t)).2])∧Grow w w':=by
 obtain⟨A,c,A',c',rfl,hv⟩:=hrep.open
 have bel:=Below.refl w.heap.size w
 have hre:∀W,Below w.heap.size w W→Calls Tryz.prog 25 #[.agg #[.int .i64 t.op, .string (strOf t.name), .slice A t.exprs.length c, .slice A' t.terms.length c']] W fun en w'=>en= .returned (.bool (rightT t))∧Grow W w':=fun W hb=>right_any t w.heap.size _ W hd (hrep.below hb) hb.size
 refine Zs 10 Tryz.func20 ?_
 refine Zsr ?_
 refine Seq.box rfl rfl rfl rfl rfl ?_
 intro g1 w1 n1
 have e1:=Nat.le_trans bel.size n1.ge
 replace bel:=bel.step n1.below
 have k1:=n1.blk
 refine Za ?_
 refine Za ?_
 refine Zk4 0 1 2 3 (Ztq ?_)
 refine Zv (Runs.loadW rfl rfl Tryz.underlying25 rfl k1 (m:=4) (by kernel_rfl) rfl) ?_
 refine Zc (Ze Tryz.func25) (hre _ bel) ?_
 rintro en w5 ⟨rfl,hb5⟩
 refine⟨_,rfl,?_⟩
 replace bel:=bel.step hb5
 replace k1:=k1.step hb5
 refine Zv (Runs.makeFunc (v:= .func (.func 42) #[] #[.pointer (some ⟨g1,0,none⟩)]) rfl (show evL _ _=some [] from rfl) (show evL _ _=some [.pointer (some ⟨g1,0,none⟩)] from rfl) rfl) ?_
 refine Zc (Ze Tryz.func38) (printed_any (rightT t) (textR t) 42 [.pointer (some ⟨g1,0,none⟩)] _ eg_termC (textR_len t) (fun hr W g hb hw=>by unfold textR;rw[if_pos hr];obtain⟨h1,h2,h3⟩:=rightT_spec hr;exact termCall_of t A A' _ g g1 c c' _ W h3 h1 ((hrep.below bel).more bel.size) hb (k1.step hb) hw)) ?_
 rintro en w6 ⟨rfl,hb6⟩
 refine⟨_,rfl,?_⟩
 replace bel:=bel.step hb6
 replace k1:=k1.step hb6
 refine Zv (Runs.extract rfl rfl rfl) ?_
 refine Zv (Runs.extract rfl rfl rfl) ?_
 refine Za ?_
 refine Za ?_
 refine Zk4 0 1 2 3 (Zt (Cd.ret ?_))
 refine Post.end2 rfl rfl rfl (.inl rfl) ?_
 exact⟨rfl,bel⟩
theorem printLines_any (t:Tm)(v:Value)(w:World)(hd:t.depth≤900)(hrep:RepB w w.heap.size t v):Calls Tryz.prog 21 #[v] w fun en w'=>en= .returned (.tuple #[.string (strOf (prText (rightT t) (linesR t)).1), .int .i64 (prText (rightT t) (linesR t)).2])∧Grow w w':=by
 obtain⟨A,c,A',c',rfl,hv⟩:=hrep.open
 have bel:=Below.refl w.heap.size w
 have hre:∀W,Below w.heap.size w W→Calls Tryz.prog 25 #[.agg #[.int .i64 t.op, .string (strOf t.name), .slice A t.exprs.length c, .slice A' t.terms.length c']] W fun en w'=>en= .returned (.bool (rightT t))∧Grow W w':=fun W hb=>right_any t w.heap.size _ W hd (hrep.below hb) hb.size
 refine Zs 10 Tryz.func21 ?_
 refine Zsr ?_
 refine Seq.box rfl rfl rfl rfl rfl ?_
 intro g1 w1 n1
 have e1:=Nat.le_trans bel.size n1.ge
 replace bel:=bel.step n1.below
 have k1:=n1.blk
 refine Za ?_
 refine Za ?_
 refine Zk4 0 1 2 3 (Ztq ?_)
 refine Zv (Runs.loadW rfl rfl Tryz.underlying25 rfl k1 (m:=4) (by kernel_rfl) rfl) ?_
 refine Zc (Ze Tryz.func25) (hre _ bel) ?_
 rintro en w5 ⟨rfl,hb5⟩
 refine⟨_,rfl,?_⟩
 replace bel:=bel.step hb5
 replace k1:=k1.step hb5
 refine Zv (Runs.makeFunc (v:= .func (.func 44) #[] #[.pointer (some ⟨g1,0,none⟩)]) rfl (show evL _ _=some [] from rfl) (show evL _ _=some [.pointer (some ⟨g1,0,none⟩)] from rfl) rfl) ?_
 refine Zc (Ze Tryz.func38) (printed_any (rightT t) (linesR t) 44 [.pointer (some ⟨g1,0,none⟩)] _ eg_linesC (linesR_len t) (fun hr W g hb hw=>by unfold linesR;rw[if_pos hr];obtain⟨h1,h2,h3⟩:=rightT_spec hr;exact linesCall_of t A A' _ g g1 c c' _ W h3 h1 h2 ((hrep.below bel).more bel.size) hb (k1.step hb) hw)) ?_
 rintro en w6 ⟨rfl,hb6⟩
 refine⟨_,rfl,?_⟩
 replace bel:=bel.step hb6
 replace k1:=k1.step hb6
 refine Zv (Runs.extract rfl rfl rfl) ?_
 refine Zv (Runs.extract rfl rfl rfl) ?_
 refine Za ?_
 refine Za ?_
 refine Zk4 0 1 2 3 (Zt (Cd.ret ?_))
 refine Post.end2 rfl rfl rfl (.inl rfl) ?_
 exact⟨rfl,bel⟩
theorem greatK_any (n c m d:Nat)(A A':Option Addr)(w:World):Calls Tryz.prog 14 #[.slice A n c, .slice A' m d] w fun e w'=>e= .returned (.bool (decide (60<n)||decide (60<m)))∧Grow w w':=by
 have bel:=Below.refl w.heap.size w
 refine Zs 13 Tryz.func14 ?_
 refine Zsr ?_
 refine Za ?_
 refine Zk3 0 1 4 (Ztq ?_)
 refine Zm ?_
 refine Zv (Runs.len rfl rfl Tryz.underlying41) ?_
 refine Zv (Runs.gtr rfl rfl rfl) ?_
 refine Zm ?_
 refine SeqC.start ?_
 refine Zco (fun hcx=>Runs.move rfl rfl) ?_
 refine SeqC.next rfl rfl rfl rfl rfl rfl rfl (fun hcx=>Runs.len rfl rfl Tryz.underlying54) ?_
 refine SeqC.next rfl rfl rfl rfl rfl rfl rfl (fun hcx=>Runs.gtr rfl rfl rfl) ?_
 refine SeqC.or rfl rfl rfl rfl rfl rfl rfl ?_
 refine Za ?_
 refine Zk3 0 1 4 (Zt (Cd.ret ?_))
 refine Post.end1 rfl rfl (.inl rfl) ?_
 have e1:decide ((60:Int)<(n:Int))=decide (60<n):=by rw[decide_eq_decide];omega
 have e2:decide ((60:Int)<(m:Int))=decide (60<m):=by rw[decide_eq_decide];omega
 exact⟨ret1 (bool_eq (by simp only[e1,e2])),bel⟩
end Go.Proofs.YtaamkfajnpobfaaGreat
namespace Go.Proofs.YtaamkfajnpobfaaGreat
inductive Rs (α:Type) where
 |out
 |bad (pos:Nat) (over:Bool)
 |ok (a:α) (pos:Nat)
def Rs.bind {α β:Type}(r:Rs α)(f:α→Nat→Rs β):Rs β:=match r with
 | .out=> .out
 | .bad p o=> .bad p o
 | .ok a p=>f a p
section
variable {α β:Type}
theorem Rs.bind_ok (a:α)(p:Nat)(f:α→Nat→Rs β):(Rs.ok a p).bind f=f a p:=rfl
theorem Rs.bind_assoc {γ:Type}(r:Rs α)(f:α→Nat→Rs β)(g:β→Nat→Rs γ):(r.bind f).bind g=r.bind fun a p=>(f a p).bind g:=by cases r<;>rfl
theorem Rs.bind_ne {r:Rs α}{f:α→Nat→Rs β}(h:r.bind f≠ .out):r≠ .out:=fun e=>h (by rw[e];rfl)
theorem Rs.ok_or {r:Rs α}(h:r≠ .out):(∃p o,r= .bad p o)∨∃a p,r= .ok a p:=by
 cases r with
 |out=>exact absurd rfl h
 |bad p o=>exact .inl ⟨p,o,rfl⟩
 |ok a p=>exact .inr ⟨a,p,rfl⟩
end
def wAt (ws:List Wd)(p:Nat):Wd:=ws.getD p ⟨-1,[],0,0⟩
def isS (ws:List Wd)(p:Nat)(s:List Nat):Bool:=decide ((wAt ws p).kind=0)&&decide ((wAt ws p).text=s)
def signQ (ws:List Wd)(s:List Nat)(p:Nat):Rs Unit:=if isS ws p s=true then .ok () (p+1) else .bad p false
def enterP (p d:Nat):Rs Unit:=if 64<d+1 then .bad p true else .ok () p
def signsAt:Nat→List (List Nat)
 |0=>[[124]]
 |1=>[[38]]
 |2=>[[60],[60,61],[61],[33,61],[62,61],[62]]
 |3=>[[43],[45]]
 |4=>[[42],[47]]
 |_=>[]
def opsAt:Nat→List Int
 |0=>[18]
 |1=>[17]
 |2=>[11,12,13,14,15,16]
 |3=>[5,6]
 |4=>[7,8]
 |_=>[]
def opAt (ws:List Wd)(lvl p:Nat):Option Int:=if(wAt ws p).kind≠0 then none else if(wAt ws p).text∈signsAt lvl then(opsAt lvl)[(signsAt lvl).idxOf (wAt ws p).text]? else none
def mk2 (op:Int)(a b:Ex):Ex:= .mk op 0 [] [a,b]
def dayW:List Nat:=[100,97,121]
def minW:List Nat:=[109,105,110]
def maxW:List Nat:=[109,97,120]
def ifW:List Nat:=[105,102]
def zeroW:List Nat:=[122,101,114,111]
def oneW:List Nat:=[111,110,101]
def partsP {α:Type}(ws:List Wd):List (Nat→Nat→Rs α)→Bool→Nat→Nat→Rs (List α)
 | [],_,p,_=> .ok [] p
 |one::r,first,p,d=>(if first=true then Rs.ok () p else signQ ws [44] p).bind fun _ p=>(one p d).bind fun x p=>(partsP ws r false p d).bind fun xs p=> .ok (x::xs) p
def withinP {α:Type}(ws:List Wd)(ones:List (Nat→Nat→Rs α))(p d:Nat):Rs (List α):=(signQ ws [40] p).bind fun _ p=>(enterP p d).bind fun _ p=>(partsP ws ones true p (d+1)).bind fun xs p=>(signQ ws [41] p).bind fun _ p=> .ok xs p
def calledP (ws:List Wd)(E0:Nat→Nat→Rs Ex)(op:Int)(k p d:Nat):Rs Ex:=(withinP ws (List.replicate k E0) (p+1) d).bind fun xs p=> .ok (.mk op 0 [] xs) p
def nameP (ws:List Wd)(p:Nat):Rs (List Nat):=if(wAt ws p).kind=3∧reservedB (wAt ws p).text=false then .ok (wAt ws p).text (p+1) else .bad p false
def atomP (ws:List Wd)(E0:Nat→Nat→Rs Ex)(p d:Nat):Rs Ex:=
 if(wAt ws p).kind=1 then .ok (.mk 1 (wAt ws p).n [] []) (p+1)
 else if(wAt ws p).kind=2 then .ok (.mk 2 (wAt ws p).n [] []) (p+1)
 else if(wAt ws p).kind=3 then
  if(wAt ws p).text=dayW then .ok (.mk 4 0 [] []) (p+1)
  else if(wAt ws p).text=minW then calledP ws E0 9 2 p d
  else if(wAt ws p).text=maxW then calledP ws E0 10 2 p d
  else if(wAt ws p).text=ifW then calledP ws E0 21 3 p d
  else(nameP ws p).bind fun nm p=> .ok (.mk 3 0 nm []) p
 else if(wAt ws p).kind=0 then(withinP ws [E0] p d).bind fun xs p=> .ok (xs.getD 0 (.mk 0 0 [] [])) p
 else .bad p false
def aheadP (S:Nat→Nat→Rs Ex)(op:Int)(p d:Nat):Rs Ex:=(enterP p d).bind fun _ p=>(S (p+1) (d+1)).bind fun x p=> .ok (.mk op 0 [] [x]) p
def unaryP (ws:List Wd)(S:Nat→Nat→Rs Ex)(E0:Nat→Nat→Rs Ex)(p d:Nat):Rs Ex:=
 if isS ws p [33]=true then aheadP S 19 p d else if isS ws p [45]=true then aheadP S 20 p d else atomP ws E0 p d
structure PF where
 E:Nat→Nat→Nat→Rs Ex
 L:Nat→Ex→Nat→Nat→Rs Ex
 S:Nat→Nat→Rs Ex
def levN (L:Nat→Ex→Nat→Nat→Rs Ex)(S:Nat→Nat→Rs Ex):Nat→Nat→Nat→Rs Ex
 |0,p,d=>S p d
 |j+1,p,d=>(levN L S j p d).bind fun x p=>L (4-j) x p d
def loopP (ws:List Wd)(f:PF)(lvl:Nat)(left:Ex)(p d:Nat):Rs Ex:=match opAt ws lvl p with
 |none=> .ok left p
 |some op=>(f.E (lvl+1) (p+1) d).bind fun r p=>if lvl=2 then .ok (mk2 op left r) p else f.L lvl (mk2 op left r) p d
def stepP (ws:List Wd)(f:PF):PF where
 E:=fun lvl p d=>levN (loopP ws f) (unaryP ws f.S (f.E 0)) (5-lvl) p d
 L:=loopP ws f
 S:=unaryP ws f.S (f.E 0)
def fuelP (ws:List Wd):Nat→PF
 |0=>⟨fun _ _ _=> .out,fun _ _ _ _=> .out,fun _ _=> .out⟩
 |n+1=>stepP ws (fuelP ws n)
theorem fuelP_E (ws:List Wd)(n lvl p d:Nat)(h:lvl<5):(fuelP ws (n+1)).E lvl p d=((fuelP ws (n+1)).E (lvl+1) p d).bind fun x p=>(fuelP ws (n+1)).L lvl x p d:=by
 show levN (loopP ws (fuelP ws n)) (unaryP ws (fuelP ws n).S ((fuelP ws n).E 0)) (5-lvl) p d=(levN (loopP ws (fuelP ws n)) (unaryP ws (fuelP ws n).S ((fuelP ws n).E 0)) (5-(lvl+1)) p d).bind _
 have e:5-lvl=(5-(lvl+1))+1:=by omega
 have e2:4-(5-(lvl+1))=lvl:=by omega
 rw[e,levN,e2]
 rfl
def termsW (t:List Nat):Int × Nat × Nat:=
 if t=[103,105,118,101] then(3,0,1) else if t=[97,110,100] then(4,0,2) else if t=[111,114] then(5,0,2) else if t=[115,99,97,108,101] then(6,1,1)
 else if t=[119,104,101,110] then(7,1,1) else if t=[117,110,116,105,108] then(8,1,1) else if t=[97,110,121,116,105,109,101] then(9,1,1) else(0,0,0)
abbrev Part:=Ex ⊕ Tm
def Rs.map {α β:Type}(r:Rs α)(f:α→β):Rs β:=r.bind fun a p=> .ok (f a) p
def onesP (E0:Nat→Nat→Rs Ex)(T:Nat→Nat→Rs Tm)(n m:Nat):List (Nat→Nat→Rs Part):=List.replicate n (fun p d=>(E0 p d).map .inl)++List.replicate m (fun p d=>(T p d).map .inr)
def exprsOf (l:List Part):List Ex:=l.filterMap fun x=>match x with| .inl e=>some e| .inr _=>none
def termsOf2 (l:List Part):List Tm:=l.filterMap fun x=>match x with| .inl _=>none| .inr t=>some t
def termP (ws:List Wd)(E0:Nat→Nat→Rs Ex)(T:Nat→Nat→Rs Tm)(p d:Nat):Rs Tm:=
 if(wAt ws p).kind≠3 then .bad p false
 else if(wAt ws p).text=zeroW then .ok (.mk 1 [] [] []) (p+1)
 else if(wAt ws p).text=oneW then(withinP ws [fun p _=>nameP ws p] (p+1) d).bind fun xs p=> .ok (.mk 2 (xs.getD 0 []) [] []) p
 else if(termsW (wAt ws p).text).1=0 then .bad p false
 else(withinP ws (onesP E0 T (termsW (wAt ws p).text).2.1 (termsW (wAt ws p).text).2.2) (p+1) d).bind fun xs q=> .ok (.mk (termsW (wAt ws p).text).1 [] (exprsOf xs) (termsOf2 xs)) q
def fuelT (ws:List Wd):Nat→Nat→Nat→Rs Tm
 |0,_,_=> .out
 |n+1,p,d=>termP ws ((fuelP ws (n+1)).E 0) (fuelT ws n) p d
def allP {α:Type}(ws:List Wd)(r:Rs α):Rs α:=match r with
 | .ok a p=>if p=ws.length then .ok a p else .bad p false
 |r=>r
end Go.Proofs.YtaamkfajnpobfaaGreat
namespace Go.Proofs.YtaamkfajnpobfaaGreat
open Go.RowKit
section
variable {P:Program} {ops:Array Oper} {Q:Exit→Act→World→Prop} {rest:List Oper} {o:Oper} {n d:Nat} {F F':List (Nat × Value)} {w w':World} {v:Value}
theorem Seq.callB {I:Inhabited (List Deferred)}{f:FuncId}{args:Array Value}{R:Ending→World→Prop}(he:Enters P (evF F) o w f args)(hg:o.guard=none)(hc:Calls P f args w R)
  (h:∀e w',R e w'→∃ch,e= .panicked ch∧Post Q (.panic ch) n F w'):Seq P ops Q (o::rest) n F w:=by
 intro a ha
 refine wpList_plain hg fun K hK=> ?_
 unfold Oper.wp
 rw[he a.eval ha.ev,Oper.upon_enter]
 refine hc.mono fun e w' hR=> ?_
 obtain⟨ch,rfl,hp⟩:=h e w' hR
 exact hp _ ha
theorem Seq.panic_ {I:Inhabited (List Deferred)}{x:Operand}{u:Value}(ho:o.op= .panic x)(hx:evF F x=some v)(hg:o.guard=none)(hr:(Instr.panic v).run P w= .halt (.panic u) w)(h:Post Q (.panic [{v:=u,recovered:=false}]) n F w):Seq P ops Q (o::rest) n F w:=by
 intro a ha
 refine wpList_plain hg fun K hK=> ?_
 unfold Oper.wp
 have:(execOp a.eval o).run P w= .halt (.panic u) w:=by
  unfold execOp
  simp only[ho]
  rw[ha.ev _ _ hx]
  simp only[Sem.run_bind,hr]
  rfl
 rw[this,Oper.upon_panic]
 exact h _ ha
end
structure Fz (h g:Nat)(w w':World):Prop where
 os:w'.os=w.os
 tape:w'.tape=w.tape
 output:w'.output=w.output
 size:w.heap.size≤w'.heap.size
 block:∀k,k<h→k≠g→w'.heap[k]? =w.heap[k]?
class PutAt (E:Prop) (h g g':Nat):Prop where
 ok:E→h≤g'∨g'=g
instance {h g g':Nat}:PutAt (h≤g') h g g':=⟨.inl⟩
instance {h g g':Nat}:PutAt (g'=g) h g g':=⟨.inr⟩
section
variable {h g:Nat} {w w' w'':World}
theorem Fz.refl (h g:Nat)(w:World):Fz h g w w:=⟨rfl,rfl,rfl,Nat.le_refl _,fun _ _ _=>rfl⟩
theorem Fz.trans (a:Fz h g w w')(b:Fz h g w' w''):Fz h g w w'':=⟨b.os.trans a.os,b.tape.trans a.tape,b.output.trans a.output,Nat.le_trans a.size b.size,fun k hk hne=>(b.block k hk hne).trans (a.block k hk hne)⟩
theorem Fz.less {h':Nat}(a:Fz h g w w')(hh:h'≤h):Fz h' g w w':=⟨a.os,a.tape,a.output,a.size,fun k hk=>a.block k (by omega)⟩
theorem Fz.of (hb:Below h w w'):Fz h g w w':=⟨hb.os,hb.tape,hb.output,hb.size,fun k hk _=>hb.block k hk⟩
theorem Fz.step (a:Fz h g w w')(hb:Below w'.heap.size w' w'')(hh:h≤w.heap.size:=by exact Nat.le_refl _):Fz h g w w'':=a.trans (Fz.of (hb.mono (Nat.le_trans hh a.size)))
theorem Fz.call (a:Fz h g w w')(b:Fz w'.heap.size g w' w'')(hh:h≤w.heap.size:=by exact Nat.le_refl _):Fz h g w w'':=a.trans (b.less (Nat.le_trans hh a.size))
theorem Fz.put {g':Nat}{T:TypeId}{cur cs:Array Value}{E:Prop}[at_:PutAt E h g g'](a:Fz h g w w')(_k:Blk w' g' T cur)(p:Put w' w'' g' T cs)(e:E):Fz h g w w'':=
 a.trans ⟨p.grown.os,p.grown.tape,p.grown.output,p.grown.size,fun k hk hne=>by
  rcases Nat.lt_or_ge k w'.heap.size with hs|hs
  ·exact p.grown.block k hs (fun e'=>by injection e' with e';rcases at_.ok e with h1|h1<;>omega)
  ·have h1:w'.heap[k]? =none:=by simpa using hs
   have h2:w''.heap[k]? =none:=by have:=p.size;simp;omega
   rw[h1,h2]⟩
theorem Fz.below {B:Nat}(a:Fz h g w w')(h1:B≤h)(h2:B≤g):Below B w w':=⟨a.os,a.tape,a.output,a.size,fun k hk=>a.block k (by omega) (by omega)⟩
theorem Blk.fz {k:Nat}{T:TypeId}{cs:Array Value}(b:Blk w k T cs)(a:Fz w.heap.size g w w')(hne:k≠g:=by omega):Blk w' k T cs:=by
 have h1:=a.block k b.lt hne
 unfold Blk at b⊢
 rw[h1]
 exact b
end
structure Ctx where
 B:Nat
 g:Nat
 c:Nat
 en:Nat
 A:Option Addr
 ws:List Wd
structure Ctx.Ok (K:Ctx):Prop where
 le:K.B≤K.g
 len:K.ws.length≤4000
 en:K.en≤4000
 word:∀x∈K.ws,I64 x.kind∧I64 x.n∧(∀c∈x.text,c<256)∧x.text.length≤4000∧x.pos≤4000
def Ctx.at_ (K:Ctx)(p:Nat):Wd:=K.ws.getD p ⟨-1,[],0,K.en⟩
def wdV (x:Wd):Value:= .agg #[.int .i64 x.kind, .string (strOf x.text), .int .i64 x.n, .int .i64 (x.pos:Int)]
theorem Ctx.at_kind (K:Ctx)(p:Nat):(K.at_ p).kind=(wAt K.ws p).kind∧(K.at_ p).text=(wAt K.ws p).text∧(K.at_ p).n=(wAt K.ws p).n:=by
 unfold Ctx.at_ wAt
 rw[List.getD_eq_getElem?_getD,List.getD_eq_getElem?_getD]
 cases K.ws[p]? <;>exact⟨rfl,rfl,rfl⟩
theorem Ctx.Ok.at_ {K:Ctx}(h:K.Ok)(p:Nat):I64 (K.at_ p).kind∧I64 (K.at_ p).n∧(∀c∈(K.at_ p).text,c<256)∧(K.at_ p).text.length≤4000∧(K.at_ p).pos≤4000:=by
 unfold Ctx.at_
 rw[List.getD_eq_getElem?_getD]
 cases hp:K.ws[p]? with
 |none=>exact⟨show I64 (-1) by unfold I64;decide,show I64 0 by unfold I64;decide,by simp,by simp,h.en⟩
 |some x=>exact h.word x (List.mem_of_getElem? hp)
structure PW (K:Ctx)(w:World)(p d:Nat)(ov:Bool):Prop where
 blk:Blk w K.g 92 #[.slice K.A K.ws.length K.c, .int .i64 (p:Int), .int .i64 (d:Int), .bool ov, .int .i64 (K.en:Int)]
 rd:Reads w K.B 4 K.A K.ws.length (wdCells K.ws)
 p_le:p≤K.ws.length
 d_le:d≤64∨(ov=true∧d≤65)
theorem Reads.fz {w w':World}{K:Ctx}{g h B size n:Nat}{A:Option Addr}{xs:List Value}(r:Reads w B size A n xs)(a:Fz h g w w')(h1:B≤h)(h2:B≤g):Reads w' B size A n xs:=r.below (a.below h1 h2)
theorem PW.step {K:Ctx}{w w':World}{p d:Nat}{ov:Bool}(h:PW K w p d ov)(hk:K.B≤K.g)(hb:Below w.heap.size w w'):PW K w' p d ov:=⟨h.blk.step hb,h.rd.below (hb.mono (by have:=h.blk.lt;omega)),h.p_le,h.d_le⟩
def stopCh:List PanicEntry:=[{v:= .iface 145 (.agg #[]),recovered:=false}]
def PRh {α:Type}(K:Ctx)(h:Nat)(w:World)(d:Nat)(r:Rs α)(okv:α→Value→World→Prop)(e:Ending)(w':World):Prop:=
 Fz h K.g w w'∧match r with
 | .out=>False
 | .bad p ov=>e= .panicked stopCh∧∃d,PW K w' p d ov
 | .ok a p=>∃v,e= .returned v∧PW K w' p d false∧okv a v w'
abbrev PR {α:Type}(K:Ctx)(w:World)(d:Nat)(r:Rs α)(okv:α→Value→World→Prop)(e:Ending)(w':World):Prop:=PRh K w.heap.size w d r okv e w'
theorem PRh.less {α:Type}{K:Ctx}{h h':Nat}{w w':World}{d:Nat}{r:Rs α}{okv:α→Value→World→Prop}{e:Ending}(hr:PRh K h w d r okv e w')(hh:h'≤h):PRh K h' w d r okv e w':=⟨hr.1.less hh,hr.2⟩
theorem Runs.mkIface {P:Program}{E:Operand→Option Value}{o:Oper}{w:World}{x:Operand}{T:TypeId}{v u:Value}(ho:o.op= .makeInterface T x)(hx:E x=some v)(hr:(Instr.makeInterface T v).run P w= .ok u w):Runs P E o w u w:=fun ρ h=>by
 unfold execOp;simp only[ho];rw[h _ _ hx];simp only[Sem.run_bind,hr,Result.andThen_ok];rfl
theorem run_build_stop (w:World):(Instr.build 145 #[]).run Tryz.prog w= .ok (.agg #[]) w:=by kernel_rfl
theorem fail_any (g:Nat)(w:World):Calls Tryz.prog 50 #[.pointer (some ⟨g,0,none⟩)] w fun e w'=>e= .panicked stopCh∧Grow w w':=by
 have bel:=Below.refl w.heap.size w
 refine Zs 4 Tryz.func50 ?_
 refine Zr ?_
 refine Zv (Runs.build rfl rfl (run_build_stop _)) ?_
 refine Zv (Runs.mkIface (u:= .iface 145 (.agg #[])) rfl rfl (by kernel_rfl)) ?_
 refine Seq.panic_ rfl rfl rfl (by rfl) ?_
 exact fun a ha=>⟨ha.defers,rfl,bel⟩
end Go.Proofs.YtaamkfajnpobfaaGreat
namespace Go.Proofs.YtaamkfajnpobfaaGreat
open Go.RowKit
theorem wdCells_row:∀(ws:List Wd) (p:Nat) (x:Wd),ws[p]? =some x→∀(q:Nat) (u:Value),([.int .i64 x.kind, .string (strOf x.text), .int .i64 x.n, .int .i64 (x.pos:Int)]:List Value)[q]? =some u→(wdCells ws)[p*4+q]? =some u
 | [],p,x,h,_,_,_=>by simp at h
 |y::r,0,x,h,q,u,hu=>by
  simp at h
  subst h
  have hq:=(List.getElem?_eq_some_iff.1 hu).1
  rw[Nat.zero_mul,Nat.zero_add]
  show(([.int .i64 y.kind, .string (strOf y.text), .int .i64 y.n, .int .i64 (y.pos:Int)]:List Value)++wdCells r)[q]? =some u
  rw[List.getElem?_append_left hq]
  exact hu
 |y::r,p+1,x,h,q,u,hu=>by
  have ih:=wdCells_row r p x (by simpa using h) q u hu
  show(([.int .i64 y.kind, .string (strOf y.text), .int .i64 y.n, .int .i64 (y.pos:Int)]:List Value)++wdCells r)[(p+1)*4+q]? =some u
  rw[List.getElem?_append_right (by simp;omega),←ih]
  congr 1
  simp
  omega
theorem run_build_word (a d:Int)(w:World):(Instr.build 95 #[(0, .int .i64 a),(3, .int .i64 d)]).run Tryz.prog w= .ok (.agg #[.int .i64 a, .string (strOf []), .int .i64 0, .int .i64 d]) w:=by
 have hu:=Tryz.underlying95
 go_simp
 rfl
theorem word_any (K:Ctx)(hK:K.Ok)(p d:Nat)(ov:Bool)(w:World)(h:PW K w p d ov):Calls Tryz.prog 49 #[.pointer (some ⟨K.g,0,none⟩)] w fun e w'=>e= .returned (wdV (K.at_ p))∧Grow w w':=by
 have bel:=Below.refl w.heap.size w
 have k99:=h.blk
 have hrd:=h.rd
 have hlt:=h.blk.lt
 have hBg:=hK.le
 refine Zs 28 Tryz.func49 ?_
 refine Zsr ?_
 refine Zl zero_lex_Word ?_
 intro g2 w1 n2
 have e2:=Nat.le_trans bel.size n2.ge
 have l2:=Nat.lt_of_lt_of_le k99.lt n2.ge
 replace bel:=bel.step n2.below
 replace k99:=k99.step n2.below
 have k2:=n2.blk
 refine Zk2 0 2 (Zts (Cd.seq ?_))
 refine Cd.draw 9 (by kernel_rfl) [] (.inl rfl) rfl Grow Grow.refl (fun _ _ _=>Grow.trans) ?_
 intro w2 hw2 zw2
 replace bel:=bel.step hw2
 replace k99:=k99.step hw2
 replace k2:=k2.step hw2
 have zbel:=bel.size
 have zlt:=k2.lt
 refine Zdm ?_
 refine Zd (fun w hG=>Runs.nilCheck rfl rfl) ?_
 refine Zd (fun w hG=>Runs.fieldB 1 rfl rfl Tryz.underlying92 rfl (by kernel_rfl)) ?_
 refine Zd (fun w hG=>Runs.loadB rfl rfl Tryz.underlying3 rfl (k99.step hG) rfl) ?_
 refine Zdm ?_
 refine Zd (fun w hG=>Runs.nilCheck rfl rfl) ?_
 refine Zd (fun w hG=>Runs.fieldB 0 rfl rfl Tryz.underlying92 rfl (by kernel_rfl)) ?_
 refine Zd (fun w hG=>Runs.loadB rfl rfl Tryz.underlying88 rfl (k99.step hG) rfl) ?_
 refine Zd (fun w hG=>Runs.len rfl rfl Tryz.underlying88) ?_
 refine Dr.nil ?_
 refine FinX.done (F':=[(0,_),(2,_),(6,_),(11,_)]) rfl ⟨rfl,rfl,rfl,rfl,trivial⟩ ?_
 intro w3 hw3 fw3
 replace bel:=bel.step hw3
 replace k99:=k99.step hw3
 replace k2:=k2.step hw3
 refine Zv (Runs.lss rfl rfl rfl) ?_
 refine Zk3 0 2 12 (Zt ?_)
 refine Cd.condD rfl (fun hc=> ?_) (fun hc=> ?_)
 ·obtain⟨ad,hA,hadb,hcell⟩:=hrd.2 (by omega)
  obtain⟨x,hx⟩:∃x,K.ws[p]? =some x:=⟨_,List.getElem?_eq_getElem (by omega)⟩
  have hat:K.at_ p=x:=by unfold Ctx.at_;rw[List.getD_eq_getElem?_getD,hx];rfl
  have hce:∀W,Below w.heap.size w W→∀(q:Nat) (u:Value),([.int .i64 x.kind, .string (strOf x.text), .int .i64 x.n, .int .i64 (x.pos:Int)]:List Value)[q]? =some u→W.cell? ((ad.add (p*4)).add q)=some u:=fun W hb q u hu=>by
   rw[(hb.mono (show K.B≤w.heap.size by omega)).cell (by rw[block_of_add,block_of_add];exact hadb),add_of_add]
   exact hcell _ _ (wdCells_row K.ws p x hx q u hu)
  rw[hA] at k99
  refine Cd.seq ?_
  refine Cd.draw 8 (by kernel_rfl) [] (.inl rfl) rfl Grow Grow.refl (fun _ _ _=>Grow.trans) ?_
  intro w4 hw4 zw4
  replace bel:=bel.step hw4
  replace k99:=k99.step hw4
  replace k2:=k2.step hw4
  have zbel:=bel.size
  have zlt:=k2.lt
  refine Zdm ?_
  refine Zd (fun w hG=>Runs.nilCheck rfl rfl) ?_
  refine Zd (fun w hG=>Runs.fieldB 0 rfl rfl Tryz.underlying92 rfl (by kernel_rfl)) ?_
  refine Zd (fun w hG=>Runs.loadB rfl rfl Tryz.underlying88 rfl (k99.step hG) rfl) ?_
  refine Zdm ?_
  refine Zd (fun w hG=>Runs.nilCheck rfl rfl) ?_
  refine Zd (fun w hG=>Runs.fieldB 1 rfl rfl Tryz.underlying92 rfl (by kernel_rfl)) ?_
  refine Zd (fun w hG=>Runs.loadB rfl rfl Tryz.underlying3 rfl (k99.step hG) rfl) ?_
  refine Dr.nil ?_
  refine FinX.done (F':=[(0,_),(2,_),(12,_),(16,_),(20,_)]) rfl ⟨rfl,rfl,rfl,rfl,rfl,trivial⟩ ?_
  intro w5 hw5 fw5
  replace bel:=bel.step hw5
  replace k99:=k99.step hw5
  replace k2:=k2.step hw5
  refine Zv (Runs.indexN rfl rfl rfl Tryz.underlying88 (s:=4) (by kernel_rfl) (j:=p) rfl (by omega)) ?_
  refine Zv (Runs.loadF (ps:=[.int .i64 x.kind, .string (strOf x.text), .int .i64 x.n, .int .i64 (x.pos:Int)]) rfl rfl Tryz.underlying95 rfl (m:=4) (by kernel_rfl) rfl (hce _ bel)) ?_
  refine Zo 4 k2 ?_
  intro w6 pw6
  replace bel:=bel.put k2 pw6 e2
  replace k99:=k99.put pw6 (by omega)
  replace k2:=pw6.blk
  refine Zk3 0 2 12 (Zt (Cd.ret (Post.then_ret ?_)))
  refine Post.endC rfl rfl k2 Tryz.underlying95 rfl (m:=4) (by kernel_rfl) rfl (.inl rfl) ?_
  rw[hat]
  exact⟨rfl,bel⟩
 ·have hat:K.at_ p=⟨-1,[],0,K.en⟩:=by
   unfold Ctx.at_
   rw[List.getD_eq_getElem?_getD,List.getElem?_eq_none (by omega)]
   rfl
  refine Cd.skip (Ztq ?_)
  refine Zm ?_
  refine Zv (Runs.nilCheck rfl rfl) ?_
  refine Zf 4 Tryz.underlying92 ?_
  refine Zv (Runs.loadB rfl rfl Tryz.underlying3 rfl k99 rfl) ?_
  refine Zv (Runs.build rfl rfl (run_build_word (-1) _ _)) ?_
  refine Zo 4 k2 ?_
  intro w4 pw4
  replace bel:=bel.put k2 pw4 e2
  replace k99:=k99.put pw4 (by omega)
  replace k2:=pw4.blk
  refine Zk3 0 2 12 (Zt (Cd.ret ?_))
  refine Post.endC rfl rfl k2 Tryz.underlying95 rfl (m:=4) (by kernel_rfl) rfl (.inl rfl) ?_
  rw[hat]
  exact⟨rfl,bel⟩
theorem is_any (K:Ctx)(hK:K.Ok)(p d:Nat)(ov:Bool)(k:Int)(s:List Nat)(w:World)(h:PW K w p d ov)(hs:∀x∈s,x<256):Calls Tryz.prog 118 #[.pointer (some ⟨K.g,0,none⟩), .int .i64 k, .string (strOf s)] w fun e w'=>e= .returned (.bool (decide ((wAt K.ws p).kind=k)&&decide ((wAt K.ws p).text=s)))∧Grow w w':=by
 have bel:=Below.refl w.heap.size w
 obtain⟨a1,a2,a3,a4,a5⟩:=hK.at_ p
 obtain⟨b1,b2,b3⟩:=K.at_kind p
 rw[←b1,←b2]
 have hw:=fun W (hb:Below w.heap.size w W)=>word_any K hK p d ov W (h.step hK.le hb)
 unfold wdV at hw
 refine Zs 20 Tryz.func118 ?_
 refine Zsr ?_
 refine Za ?_
 refine Zk4 0 1 2 6 (Ztq ?_)
 refine Zm ?_
 refine Zc (Ze Tryz.func49) (hw _ bel) ?_
 rintro e w5 ⟨rfl,hb5⟩
 refine⟨_,rfl,?_⟩
 replace bel:=bel.step hb5
 refine Zl zero_lex_Word ?_
 intro g7 w1 n7
 have e7:=Nat.le_trans bel.size n7.ge
 replace bel:=bel.step n7.below
 have k7:=n7.blk
 refine Zo 4 k7 ?_
 intro w2 pw2
 replace bel:=bel.put k7 pw2 e7
 replace k7:=pw2.blk
 refine Zk5 0 1 2 6 7 (Ztq ?_)
 refine Zf 0 Tryz.underlying95 ?_
 refine Zv (Runs.loadB rfl rfl Tryz.underlying3 rfl k7 rfl) ?_
 refine Zm ?_
 refine Zv (Runs.eqlI rfl rfl rfl) ?_
 refine Zm ?_
 refine SeqC.start ?_
 refine Zco (fun hcx=>Runs.fieldB 1 rfl rfl Tryz.underlying95 rfl (by kernel_rfl)) ?_
 refine SeqC.next rfl rfl rfl rfl rfl rfl rfl (fun hcx=>Runs.loadB rfl rfl Tryz.underlying9 rfl k7 rfl) ?_
 refine SeqC.next rfl rfl rfl rfl rfl rfl rfl (fun hcx=>Runs.move rfl rfl) ?_
 refine SeqC.next rfl rfl rfl rfl rfl rfl rfl (fun hcx=>Runs.eqlL rfl rfl rfl a3 hs) ?_
 refine SeqC.and rfl rfl rfl rfl rfl rfl rfl ?_
 refine Za ?_
 refine Zk5 0 1 2 6 7 (Zt (Cd.ret ?_))
 refine Post.end1 rfl rfl (.inl rfl) ?_
 exact⟨rfl,bel⟩
theorem PW.next {K:Ctx}{w w':World}{p d:Nat}{ov:Bool}(h:PW K w p d ov)(hK:K.B≤K.g)(hp:p+1≤K.ws.length)(bel:Fz w.heap.size K.g w w')(hb:Blk w' K.g 92 #[.slice K.A K.ws.length K.c, .int .i64 ((p:Int)+1), .int .i64 (d:Int), .bool ov, .int .i64 (K.en:Int)]):PW K w' (p+1) d ov:=
 ⟨by rw[Int.natCast_add];exact hb,h.rd.below (bel.below (by have:=h.blk.lt;omega) hK),hp,h.d_le⟩
theorem signQ_any (K:Ctx)(hK:K.Ok)(p d:Nat)(s:List Nat)(w:World)(h:PW K w p d false)(hs:∀x∈s,x<256):Calls Tryz.prog 98 #[.pointer (some ⟨K.g,0,none⟩), .string (strOf s)] w (PR K w d (signQ K.ws s p) fun _ _ _=>True):=by
 have bel:=Fz.refl w.heap.size K.g w
 have k99:=h.blk
 have e99:K.g=K.g:=rfl
 have hlt:=h.blk.lt
 have hlen:=hK.len
 have hle:=h.p_le
 have hw:=is_any K hK p d false 0 s w h hs
 have hq:signQ K.ws s p=if(decide ((wAt K.ws p).kind=0)&&decide ((wAt K.ws p).text=s))=true then .ok () (p+1) else .bad p false:=rfl
 refine Zs 17 Tryz.func98 ?_
 refine Cd.seq (Zsr ?_)
 refine Zm ?_
 refine Zm ?_
 refine Zc (Ze Tryz.func118) (hw) ?_
 rintro e w5 ⟨rfl,hb5⟩
 refine⟨_,rfl,?_⟩
 replace bel:=bel.step hb5
 replace k99:=k99.step hb5
 refine Zv (Runs.not rfl rfl) ?_
 refine Zk3 0 1 7 (Zt ?_)
 refine Cd.cond rfl (fun hc=> ?_) (fun hc=> ?_)
 ·have hc:¬(decide ((wAt K.ws p).kind=0)&&decide ((wAt K.ws p).text=s))=true:=by rw[Bool.not_eq_true];simpa only[Bool.not_eq_true'] using hc
  rw[if_neg hc] at hq
  refine Zr ?_
  refine Zm ?_
  refine Seq.callB (Ze Tryz.func50) rfl (fail_any K.g _) ?_
  rintro e w6 ⟨rfl,hb6⟩
  refine⟨_,rfl,fun a ha=>⟨ha.defers,?_⟩⟩
  rw[hq]
  exact⟨bel.step hb6,rfl,d,⟨k99.step hb6,h.rd.below ((bel.step hb6).below (by have:=hK.le;omega) hK.le),h.p_le,h.d_le⟩⟩
 ·have hc:(decide ((wAt K.ws p).kind=0)&&decide ((wAt K.ws p).text=s))=true:=by simpa only[Bool.not_eq_false'] using hc
  rw[if_pos hc] at hq
  have hp:p+1≤K.ws.length:=by
   rcases Nat.lt_or_ge p K.ws.length with hp|hp
   ·exact hp
   ·simp only[Bool.and_eq_true,decide_eq_true_eq] at hc
    have h1:wAt K.ws p=⟨-1,[],0,0⟩:=by unfold wAt;rw[List.getD_eq_getElem?_getD,List.getElem?_eq_none hp];rfl
    rw[h1] at hc
    exact absurd hc.1 (by decide)
  refine Cd.skip (Ztr ?_)
  refine Zm ?_
  refine Zv (Runs.nilCheck rfl rfl) ?_
  refine Zf 1 Tryz.underlying92 ?_
  refine Zv (Runs.loadB rfl rfl Tryz.underlying3 rfl k99 rfl) ?_
  refine Za_ ?_
  refine Zv (Runs.nilCheck rfl rfl) ?_
  refine Zf 1 Tryz.underlying92 ?_
  refine Zq k99 ?_
  intro w1 pw1
  replace bel:=bel.put k99 pw1 e99
  replace k99:=pw1.blk
  refine Zk3 0 1 7 ?_
  refine Post.end0 rfl (.inr rfl) ?_
  rw[hq]
  exact⟨bel,_,rfl,h.next hK.le hp bel k99,trivial⟩
theorem enter_any (K:Ctx)(hK:K.Ok)(p d:Nat)(w:World)(h:PW K w p d false):Calls Tryz.prog 99 #[.pointer (some ⟨K.g,0,none⟩)] w (PR K w (d+1) (enterP p d) fun _ _ _=>True):=by
 have bel:=Fz.refl w.heap.size K.g w
 have k99:=h.blk
 have e99:K.g=K.g:=rfl
 have hlt:=h.blk.lt
 have hde:d≤64:=by rcases h.d_le with h|⟨h,-⟩;exact h;cases h
 have hle:=hK.le
 have hq:enterP p d=if 64<d+1 then .bad p true else .ok () p:=rfl
 refine Zs 19 Tryz.func99 ?_
 refine Zsr ?_
 refine Zm ?_
 refine Zv (Runs.nilCheck rfl rfl) ?_
 refine Zf 2 Tryz.underlying92 ?_
 refine Zv (Runs.loadB rfl rfl Tryz.underlying3 rfl k99 rfl) ?_
 refine Za_ ?_
 refine Zv (Runs.nilCheck rfl rfl) ?_
 refine Zf 2 Tryz.underlying92 ?_
 refine Zq k99 ?_
 intro w1 pw1
 replace bel:=bel.put k99 pw1 e99
 replace k99:=pw1.blk
 refine Zk1 0 (Ztq ?_)
 refine Zm ?_
 refine Zv (Runs.nilCheck rfl rfl) ?_
 refine Zf 2 Tryz.underlying92 ?_
 refine Zv (Runs.loadB rfl rfl Tryz.underlying3 rfl k99 rfl) ?_
 refine Zv (Runs.gtr rfl rfl rfl) ?_
 refine Zk2 0 13 (Zt ?_)
 refine Cd.condD rfl (fun hc=> ?_) (fun hc=> ?_)
 ·rw[if_pos (by omega)] at hq
  refine Zsr ?_
  refine Zm ?_
  refine Zv (Runs.nilCheck rfl rfl) ?_
  refine Zf 3 Tryz.underlying92 ?_
  refine Zq k99 ?_
  intro w2 pw2
  replace bel:=bel.put k99 pw2 e99
  replace k99:=pw2.blk
  refine Zk2 0 13 (Ztr ?_)
  refine Zm ?_
  refine Seq.callB (Ze Tryz.func50) rfl (fail_any K.g _) ?_
  rintro e w6 ⟨rfl,hb6⟩
  refine⟨_,rfl,fun a ha=>⟨ha.defers,?_⟩⟩
  rw[hq]
  exact⟨bel.step hb6,rfl,d+1,⟨by have:=k99.step hb6;rw[Int.natCast_add];exact this,h.rd.below ((bel.step hb6).below (by omega) hle),h.p_le, .inr ⟨rfl,by omega⟩⟩⟩
 ·rw[if_neg (by omega)] at hq
  refine Cd.skip ?_
  refine Post.end0 rfl (.inr rfl) ?_
  rw[hq]
  exact⟨bel,_,rfl,⟨by rw[Int.natCast_add];exact k99,h.rd.below (bel.below (by omega) hle),h.p_le, .inl (by omega)⟩,trivial⟩
end Go.Proofs.YtaamkfajnpobfaaGreat
