/-
  Texts that were joined: WaV, WbA, WbB, WbC, WbD, WbF, WbG, WbH, WbI, WbJ, NsA, NgC, EditA, EditB, EditC, EditD, NcA, WbK, WbL, WbM, WcA. Conditions: what each theorem names.
-/
import Derived.Test.YtdpipgidpkmolaaGreatDoorZ1
import Derived.Sort.OwnSortedInts
import Derived.Shelf.Strconv.AtoiErr
set_option linter.unusedSectionVars false
namespace Go.Proofs.YtdpipgidpkmolaaGreatDoor
open Go.RowKit
def markN (n:Nat):List Nat:=beB 8 n++laidC (beB 8 n)
theorem markN_len (n:Nat):(markN n).length=12:=by unfold markN;rw[List.length_append,beB_len,laidC_len]
theorem markN_lt (n:Nat):Byt (markN n):=Byt.app (beB_lt 8 _) (laidC_lt _)
theorem marked_any (n:Nat)(w:World)(hN:Nib w)(hn:n≤9223372036854775807):Calls Tryz.prog 152 #[.int .i64 (n:Int)] w fun e w'=>e= .returned (.string (strOf (markN n)))∧Grow w w':=by
 have bel:=Below.refl w.heap.size w
 have nb:=hN
 refine Zs 16 Tryz.func152 ?_
 refine Zsr ?_
 refine Za ?_
 refine Zk2 0 2 (Ztq ?_)
 refine Zv (Runs.build rfl rfl (run_build_Wr0 _)) ?_
 refine Seq.box rfl rfl rfl rfl rfl ?_
 intro g5 w1 n5
 have e5:=Nat.le_trans bel.size n5.ge
 replace bel:=bel.step n5.below
 replace nb:=nb.step n5.below
 have k5:=n5.blk
 refine Za ?_
 refine Zk3 0 2 3 (Ztq ?_)
 refine Zm ?_
 refine Zm ?_
 have wr:Wr w1 g5 g5 []:=⟨Nat.le_refl _,fun d hd=>(by cases hd),_,k5,Own.nil _ _ _ _⟩
 have wf:=Wf.refl g5 w1
 have hg5:g5≤w1.heap.size:=Nat.le_of_lt n5.lt
 have h3: 2 <g5:=by have:=hN.lt;omega
 refine Zv (Runs.convU (r:=n) rfl rfl Tryz.underlying3 Tryz.underlying164 (by omega)) ?_
 refine Zc (Ze Tryz.func200) (fixed8_any g5 g5 n [] _ wr (by omega) (by simp)) ?_
 clear wr
 rintro e w2 ⟨rfl,fw2,wr⟩
 refine⟨_,rfl,?_⟩
 replace nb:=nb.wf fw2
 replace wf:=wf.wf fw2
 refine Zk3 0 2 3 (Ztq ?_)
 refine Zm ?_
 refine Zm ?_
 rw[List.nil_append] at wr
 refine Zc (Ze Tryz.func74) (wbytes_any g5 g5 _ _ wr) ?_
 rintro e w7 ⟨rfl,hb7⟩
 refine⟨_,rfl,?_⟩
 replace nb:=nb.step hb7
 replace wf:=wf.step hb7
 replace wr:=wr.step hb7
 refine Zc (Ze Tryz.func101) (laid_c_any _ _ nb (beB_lt 8 _) (by rw[beB_len];omega)) ?_
 rintro e w8 ⟨rfl,hb8⟩
 refine⟨_,rfl,?_⟩
 replace nb:=nb.step hb8
 replace wf:=wf.step hb8
 replace wr:=wr.step hb8
 refine Zc (Ze Tryz.func128) (raw_any g5 g5 (laidC (beB 8 n)) _ _ wr (laidC_lt _) (by rw[beB_len,laidC_len];omega)) ?_
 clear wr
 rintro e w3 ⟨rfl,fw3,wr⟩
 refine⟨_,rfl,?_⟩
 replace nb:=nb.wf fw3
 replace wf:=wf.wf fw3
 refine Zc (Ze Tryz.func74) (wbytes_any g5 g5 _ _ wr) ?_
 rintro e w10 ⟨rfl,hb10⟩
 refine⟨_,rfl,?_⟩
 replace nb:=nb.step hb10
 replace wf:=wf.step hb10
 replace wr:=wr.step hb10
 refine Za ?_
 refine Zk3 0 2 3 (Zt (Cd.ret ?_))
 refine Ze1 ?_
 exact⟨rfl,bel.trans ((wf.to hg5).mono e5)⟩
def cntStep (a:Nat × Bool)(x:List Nat):Nat × Bool:=
 if 4295098368<valB (x.take 8)∨x≠markN (valB (x.take 8)) then a
 else if 4294967296≤valB (x.take 8) then(if valB (x.take 8)-4294967296≤131072 then max a.1 (valB (x.take 8)-4294967296) else a.1,true)
 else(if valB (x.take 8)≤131072 then max a.1 (valB (x.take 8)) else a.1,a.2)
def cntGo:Nat→Nat × Bool→List Nat→Nat × Bool
 |0,a,_=>a
 |f+1,a,s=>if 12≤s.length then cntGo f (cntStep a (s.take 12)) (s.drop 12) else a
def countN (s:List Nat):Nat × Bool:=cntGo s.length (0,false) s
theorem cntStep_le {a:Nat × Bool}{x:List Nat}(h:a.1≤131072):(cntStep a x).1≤131072:=by
 unfold cntStep
 split
 ·exact h
 split
 ·simp only
  split<;>omega
 ·simp only
  split<;>omega
set_option maxHeartbeats 4000000 in
theorem counted_any (s:List Nat)(w:World)(hN:Nib w)(hs:Byt s)(hl:s.length≤10000000):Calls Tryz.prog 111 #[.string (strOf s)] w fun e w'=>e= .returned (.tuple #[.int .i64 ((countN s).1:Int), .bool (countN s).2])∧Grow w w':=by
 have bel:=Below.refl w.heap.size w
 refine Zs 45 Tryz.func111 ?_
 refine Zsr ?_
 refine Za ?_
 refine Za ?_
 refine Zk3 0 2 3 (Ztq ?_)
 refine Za ?_
 refine Za ?_
 refine Zk5 0 2 3 4 5 (Zts (Zsr ?_))
 refine Za ?_
 refine Zk6 0 2 3 4 5 6 (Zt (Cd.block ?_))
 refine Cd.loop (σ:=(Nat × Bool) × Nat × Nat) (fun q=>[(0, .string (strOf s)),(4, .int .i64 (q.1.1:Int)),(5, .bool q.1.2),(6, .int .i64 (q.2.1:Int))]) (fun q wr=>q.2.1≤s.length∧s.length-q.2.1≤q.2.2∧q.1.1≤131072∧countN s=cntGo q.2.2 q.1 (s.drop q.2.1)∧Below w.heap.size w wr) (fun q=>q.2.2) ((0,false),0,s.length) ⟨Nat.zero_le _,by simp,by simp,rfl,bel⟩ ⟨rfl,rfl,rfl,rfl,trivial⟩ ?_
 clear bel
 rintro⟨⟨m,b⟩,at_,f⟩ wr ⟨hat,hf,hm,hall,bel⟩
 simp only at hat hf hm hall
 show Cd _ _ _ _ [(0, .string (strOf s)),(4, .int .i64 (m:Int)),(5, .bool b),(6, .int .i64 (at_:Int))] _
 refine Cd.seq (Zsr ?_)
 refine Zm ?_
 refine Za_ ?_
 refine Zm ?_
 refine Zv (Runs.lenL rfl rfl Tryz.underlying9) ?_
 refine Zle ?_
 refine Zk5 0 4 5 6 12 (Zt ?_)
 refine Cd.condD rfl (fun hc=> ?_) (fun hc=> ?_)
 ·obtain⟨f,rfl⟩:∃k,f=k+1:=⟨f-1,by omega⟩
  obtain⟨S,hS⟩:∃S,S=s.drop at_:=⟨_,rfl⟩
  have hSl:S.length=s.length-at_:=by rw[hS,List.length_drop]
  have hSb:Byt S:=by rw[hS];exact hs.drop _
  rw[←hS] at hall
  have hgo:cntGo (f+1) (m,b) S=cntGo f (cntStep (m,b) (S.take 12)) (s.drop (at_+12)):=by rw[cntGo,if_pos (by omega),hS,List.drop_drop]
  rw[hgo] at hall
  have hX8:(S.take 12).take 8=S.take 8:=by rw[List.take_take];rfl
  obtain⟨n,hn⟩:∃n,n=valB (S.take 8):=⟨_,rfl⟩
  have hst:cntStep (m,b) (S.take 12)=if 4295098368<n∨S.take 12≠markN n then(m,b) else if 4294967296≤n then(if n-4294967296≤131072 then max m (n-4294967296) else m,true) else(if n≤131072 then max m n else m,b):=by unfold cntStep;rw[hX8,←hn]
  have hn64:n<18446744073709551616:=by
   have h1:=valB_lt (hSb.take 8)
   rw[List.length_take,Nat.min_eq_left (by omega),show(256:Nat)^8=18446744073709551616 by decide] at h1
   omega
  have nb:Nib wr:=hN.step bel
  have hle:=cntStep_le (a:=(m,b)) (x:=S.take 12) hm
  have hrv:=raw_val 8 S
  rw[show((8:Nat):Int)=8 from rfl,if_pos (by omega)] at hrv
  have hw0:=bel.size
  refine Cd.skip (Zts (Cd.block (Zsr ?_)))
  refine Zm ?_
  refine Zm ?_
  refine Zv (Runs.sliceFrom rfl rfl rfl Tryz.underlying9 (j:=at_) rfl (by omega)) ?_
  rw[←hS]
  refine Zc (Ze Tryz.func51) (read_any S _ hSb) ?_
  rintro e w1 ⟨g18,rfl,hb1,hg18,rd⟩
  refine⟨_,rfl,?_⟩
  replace bel:=bel.step hb1
  have kf:=Kf.refl g18 w1
  have hlt18:=rd.lt
  have bel1:=bel
  clear bel
  refine Zc (Ze Tryz.func151) (rfixed8_any g18 _ _ rd) ?_
  rintro e w1 ⟨⟨rfl,fWW,rd⟩,fw1,rd'⟩
  refine⟨_,rfl,?_⟩
  replace kf:=kf.kf fw1 rd
  replace rd:=rd'
  clear rd'
  rw[hrv,←hn]
  have bel:Below w.heap.size w _:=bel1.trans (kf.to (Nat.le_trans hw0 hg18) hlt18)
  clear kf rd
  refine Za ?_
  refine Zk6 0 4 5 6 7 12 (Zts (Cd.seq ?_))
  have hsl:(s.take (at_+12)).drop at_=S.take 12:=by rw[hS,List.drop_take];congr 1;omega
  have hdone:∀acc:Nat × Bool,acc.1≤131072→cntStep (m,b) (S.take 12)=acc→countN s=cntGo f acc (s.drop (at_+12)):=fun acc _ e=>by rw[hall,e]
  by_cases hgt:4295098368<n
  ·rw[if_pos (.inl hgt)] at hst
   refine Zdr 13 ?_
   intro w2 hw2 zw2
   replace bel:=bel.step hw2
   have zbel:=bel.size
   refine Zdm ?_
   refine Zd (fun w hG=>(Runs.gtr rfl rfl rfl).isT (by omega)) ?_
   refine Zdm ?_
   refine Zds ?_
   refine Zds ?_
   refine Zds ?_
   refine Zds ?_
   refine Zds ?_
   refine Zds ?_
   refine Zds ?_
   refine Zds ?_
   refine Zds ?_
   refine Zd (fun w hG=>Runs.pickT rfl rfl rfl) ?_
   refine Dr.nil ?_
   refine FinX.done (F':=[(0,_),(4,_),(5,_),(6,_),(7,_),(12,_),(32,_)]) rfl ⟨rfl,rfl,rfl,rfl,rfl,rfl,rfl,trivial⟩ ?_
   intro w3 hw3 fw3
   replace bel:=bel.step hw3
   refine Zk7 0 4 5 6 7 12 32 (Zt ?_)
   refine Cd.condT rfl rfl ?_
   refine Cd.exit (Post.then_exit (Post.block_exit (Ztr ?_)))
   refine Zm ?_
   refine Za_ ?_
   refine Za ?_
   refine Zk7 0 4 5 6 7 12 32 ?_
   exact Post.round ((m,b),at_+12,f) ⟨rfl,rfl,rfl,rfl,trivial⟩ ⟨by simp only;omega,by simp only;omega,hm,hdone _ hm hst,bel⟩ (by simp)
  by_cases hne:S.take 12≠markN n
  ·rw[if_pos (.inr hne)] at hst
   refine Zdr 13 ?_
   intro w2 hw2 zw2
   replace bel:=bel.step hw2
   have zbel:=bel.size
   refine Zdm ?_
   refine Zd (fun w hG=>(Runs.gtr rfl rfl rfl).isF (by omega)) ?_
   refine Zdm ?_
   refine Zdg (fun w hG=>Runs.move rfl rfl) ?_
   refine Zdg (fun w hG=>Runs.move rfl rfl) ?_
   refine Zdg (fun w hG=>Runs.move rfl rfl) ?_
   refine Zdg (fun w hG=>Runs.addI rfl rfl rfl (by omega) (by omega)) ?_
   refine Zdg (fun w hG=>(Runs.sliceAtL (i:=at_) (j:=at_+12) rfl rfl rfl rfl Tryz.underlying9 rfl (by omega) (by omega) (by omega)).cast (by rw[hsl])) ?_
   refine Zdg (fun w hG=>Runs.move rfl rfl) ?_
   refine Zdg (fun w hG=>Runs.convI rfl rfl Tryz.underlying164 Tryz.underlying3 (wrapI (by omega) (by omega))) ?_
   refine Dr.callVG rfl (fun w=>Ze Tryz.func152) rfl rfl rfl (fun w hG=>marked_any n _ (hN.step (Below.step bel hG)) (by omega)) ?_
   refine Zdg (fun w hG=>(Runs.neqL rfl rfl rfl (hSb.take 12) (markN_lt n)).isT hne) ?_
   refine Zd (fun w hG=>Runs.pickF rfl rfl rfl) ?_
   refine Dr.nil ?_
   refine FinX.done (F':=[(0,_),(4,_),(5,_),(6,_),(7,_),(12,_),(32,_)]) rfl ⟨rfl,rfl,rfl,rfl,rfl,rfl,rfl,trivial⟩ ?_
   intro w3 hw3 fw3
   replace bel:=bel.step hw3
   refine Zk7 0 4 5 6 7 12 32 (Zt ?_)
   refine Cd.condT rfl rfl ?_
   refine Cd.exit (Post.then_exit (Post.block_exit (Ztr ?_)))
   refine Zm ?_
   refine Za_ ?_
   refine Za ?_
   refine Zk7 0 4 5 6 7 12 32 ?_
   exact Post.round ((m,b),at_+12,f) ⟨rfl,rfl,rfl,rfl,trivial⟩ ⟨by simp only;omega,by simp only;omega,hm,hdone _ hm hst,bel⟩ (by simp)
  rw[if_neg (fun h=>h.elim hgt hne)] at hst
  refine Zdr 13 ?_
  intro w2 hw2 zw2
  replace bel:=bel.step hw2
  have zbel:=bel.size
  refine Zdm ?_
  refine Zd (fun w hG=>(Runs.gtr rfl rfl rfl).isF (by omega)) ?_
  refine Zdm ?_
  refine Zdg (fun w hG=>Runs.move rfl rfl) ?_
  refine Zdg (fun w hG=>Runs.move rfl rfl) ?_
  refine Zdg (fun w hG=>Runs.move rfl rfl) ?_
  refine Zdg (fun w hG=>Runs.addI rfl rfl rfl (by omega) (by omega)) ?_
  refine Zdg (fun w hG=>(Runs.sliceAtL (i:=at_) (j:=at_+12) rfl rfl rfl rfl Tryz.underlying9 rfl (by omega) (by omega) (by omega)).cast (by rw[hsl])) ?_
  refine Zdg (fun w hG=>Runs.move rfl rfl) ?_
  refine Zdg (fun w hG=>Runs.convI rfl rfl Tryz.underlying164 Tryz.underlying3 (wrapI (by omega) (by omega))) ?_
  refine Dr.callVG rfl (fun w=>Ze Tryz.func152) rfl rfl rfl (fun w hG=>marked_any n _ (hN.step (Below.step bel hG)) (by omega)) ?_
  refine Zdg (fun w hG=>(Runs.neqL rfl rfl rfl (hSb.take 12) (markN_lt n)).isF hne) ?_
  refine Zd (fun w hG=>Runs.pickF rfl rfl rfl) ?_
  refine Dr.nil ?_
  refine FinX.done (F':=[(0,_),(4,_),(5,_),(6,_),(7,_),(12,_),(32,_)]) rfl ⟨rfl,rfl,rfl,rfl,rfl,rfl,rfl,trivial⟩ ?_
  intro w3 hw3 fw3
  replace bel:=bel.step hw3
  refine Zk7 0 4 5 6 7 12 32 (Zt ?_)
  refine Cd.condF rfl rfl ?_
  refine Cd.skip (Zts (Zsr ?_))
  refine Zm ?_
  refine Zge ?_
  refine Zk8 0 4 5 6 7 12 32 34 (Zt ?_)
  refine Cd.cond rfl (fun h=> ?_) (fun h=> ?_)
  ·have hge:4294967296≤n:=by
    have:(4294967296:Int)≤(n:Int):=by simpa using h
    omega
   rw[if_pos hge,if_pos (by omega)] at hst
   refine Zsr ?_
   refine Za ?_
   refine Zk8 0 4 5 6 7 12 32 34 (Ztr ?_)
   refine Zm ?_
   refine Zv (Runs.subU rfl rfl rfl (by omega) (by omega)) ?_
   refine Za ?_
   refine Zk8 0 4 5 6 7 12 32 34 (Ztq ?_)
   refine Zm ?_
   refine Zle ?_
   refine Zk9 0 4 5 6 7 12 32 34 38 (Zt ?_)
   refine Cd.condT rfl (by simp;omega) ?_
   refine Zr ?_
   refine Zm ?_
   refine Zm ?_
   refine Zv (Runs.convI rfl rfl Tryz.underlying164 Tryz.underlying3 (wrapI (by omega) (by omega))) ?_
   refine Zv (Runs.max2 rfl rfl rfl) ?_
   refine Za ?_
   refine Zk9 0 4 5 6 7 12 32 34 38 (Post.block_normal (Ztr ?_))
   refine Zm ?_
   refine Za_ ?_
   refine Za ?_
   refine Zk9 0 4 5 6 7 12 32 34 38 ?_
   exact Post.round ((max m (n-4294967296),true),at_+12,f) ⟨rfl,int_at (by simp only;omega),rfl,rfl,trivial⟩ ⟨by simp only;omega,by simp only;omega,by rw[←hst];exact hle,hdone _ (by rw[←hst];exact hle) hst,bel⟩ (by simp)
  ·have hge:¬4294967296≤n:=by
    have:¬(4294967296:Int)≤(n:Int):=by simpa using h
    omega
   rw[if_neg hge] at hst
   refine Cd.skip (Ztq ?_)
   refine Zm ?_
   refine Zle ?_
   refine Zk9 0 4 5 6 7 12 32 34 38 (Zt ?_)
   refine Cd.cond rfl (fun h=> ?_) (fun h=> ?_)
   ·have hlt:n≤131072:=by
     have:(n:Int)≤131072:=by simpa using h
     omega
    rw[if_pos hlt] at hst
    refine Zr ?_
    refine Zm ?_
    refine Zm ?_
    refine Zv (Runs.convI rfl rfl Tryz.underlying164 Tryz.underlying3 (wrapI (by omega) (by omega))) ?_
    refine Zv (Runs.max2 rfl rfl rfl) ?_
    refine Za ?_
    refine Zk9 0 4 5 6 7 12 32 34 38 (Post.block_normal (Ztr ?_))
    refine Zm ?_
    refine Za_ ?_
    refine Za ?_
    refine Zk9 0 4 5 6 7 12 32 34 38 ?_
    exact Post.round ((max m n,b),at_+12,f) ⟨rfl,int_at (by simp only;omega),rfl,rfl,trivial⟩ ⟨by simp only;omega,by simp only;omega,by rw[←hst];exact hle,hdone _ (by rw[←hst];exact hle) hst,bel⟩ (by simp)
   ·have hlt:¬n≤131072:=by
     have:¬(n:Int)≤131072:=by simpa using h
     omega
    rw[if_neg hlt] at hst
    refine Cd.skip (Post.block_normal (Ztr ?_))
    refine Zm ?_
    refine Za_ ?_
    refine Za ?_
    refine Zk9 0 4 5 6 7 12 32 34 38 ?_
    exact Post.round ((m,b),at_+12,f) ⟨rfl,rfl,rfl,rfl,trivial⟩ ⟨by simp only;omega,by simp only;omega,hm,hdone _ hm hst,bel⟩ (by simp)
 ·skip
  refine Cd.exit (Post.then_exit (Post.round_exit (Post.block_exit (Ztq ?_))))
  refine Zm ?_
  refine Zm ?_
  refine Za ?_
  refine Za ?_
  refine Zk7 0 2 3 4 5 6 12 (Zt (Cd.ret ?_))
  refine Ze2 ?_
  have hgo:cntGo f (m,b) (s.drop at_)=(m,b):=by
   cases f with
   |zero=>rfl
   |succ f=>rw[cntGo,if_neg (by rw[List.length_drop];omega)]
  rw[hall,hgo]
  exact⟨rfl,bel⟩
end Go.Proofs.YtdpipgidpkmolaaGreatDoor
namespace Go.Proofs.YtdpipgidpkmolaaGreatDoor
open Go.RowKit Go.Maps Go.Sort
structure Gv (w:World):Prop where
 nib:Nib w
 pow:Lib.TabIs Tryz.prog w "internal/strconv.uint64pow10" .u64 Lib.pow10Tab
 mx:∃m:Int,w.cell? ⟨0,0,none⟩=some (.int .i64 m)
theorem glob_pow:Tryz.prog.globalNamed "internal/strconv.uint64pow10" =some 1 :=by kernel_rfl
theorem tab_keep {w w':World}(h:Lib.TabIs Tryz.prog w "internal/strconv.uint64pow10" .u64 Lib.pow10Tab)(e:w'.heap[1]? =w.heap[1]?):Lib.TabIs Tryz.prog w' "internal/strconv.uint64pow10" .u64 Lib.pow10Tab:=by
 unfold Lib.TabIs World.var? at h⊢
 rw[glob_pow] at h⊢
 simp only[Option.bind_some] at h⊢
 rw[e]
 exact h
theorem tab_lt {w:World}(h:Lib.TabIs Tryz.prog w "internal/strconv.uint64pow10" .u64 Lib.pow10Tab): 1 <w.heap.size:=by
 unfold Lib.TabIs World.var? at h
 rw[glob_pow] at h
 simp only[Option.bind_some] at h
 cases e:w.heap[1]? with
 |none=>rw[e] at h;cases h
 |some o=>exact(Array.getElem?_eq_some_iff.1 e).1
theorem Gv.top {w:World}(h:Gv w):max 2 1 <w.heap.size:=by
 have h1:=tab_lt h.pow
 have h2:=World.block_lt_of_cell? w _ (h.nib.cell 0 (by omega))
 have h3: 2 <w.heap.size:=h2
 omega
theorem Gv.below {w w':World}{B:Nat}(h:Gv w)(hb:Below B w w')(hB:max 2 1 <B):Gv w':=
 ⟨h.nib.below hb (by omega),tab_keep h.pow (hb.block _ (by omega)),by obtain⟨m,hm⟩:=h.mx;exact⟨m,(hb.cell (show 0 <B by omega)).trans hm⟩⟩
theorem Gv.step {w w':World}(h:Gv w)(hb:Below w.heap.size w w'):Gv w':=h.below hb (h.top)
theorem Gv.df {w w':World}{B:Nat}(h:Gv w)(f:Df B w w')(hB:max 2 1 <B:=by omega):Gv w':=h.below f.below (by have:=h.top;omega)
theorem Gv.put {w w':World}{B g:Nat}{T:TypeId}{cur cs:Array Value}(h:Gv w)(k:Blk w g T cur)(p:Put w w' g T cs)(e:B≤g)(hB:max 2 1 <B:=by omega):Gv w':=h.below (p.below e k.lt) hB
def decN (u:Nat):List Nat:=if h:u<10 then [48+u] else decN (u/10)++[48+u%10]
termination_by u
decreasing_by omega
theorem decN_u8 (u:Nat):u8s (decN u)=Lib.decDigits u:=by
 induction u using Nat.strongRecOn with
 |ind u ih=>
  rw[decN,Lib.decDigits]
  split
  ·rfl
  ·rename_i h
   rw[←ih (u/10) (by omega)]
   simp[u8s]
theorem decN_lt (u:Nat):∀c∈decN u,48≤c∧c<58:=by
 induction u using Nat.strongRecOn with
 |ind u ih=>
  rw[decN]
  split
  ·intro c hc;simp at hc;omega
  ·rename_i h
   intro c hc
   rcases List.mem_append.1 hc with hc|hc
   ·exact ih (u/10) (by omega) c hc
   ·simp at hc;omega
theorem decN_len:∀(k u:Nat),u<10^(k+1)→(decN u).length≤k+1
 |0,u,h=>by rw[decN,dif_pos (by simpa using h)];simp
 |k+1,u,h=>by
  rw[decN]
  split
  ·simp
  ·rw[List.length_append,List.length_singleton]
   have:=decN_len k (u/10) (by rw[Nat.pow_succ] at h;omega)
   omega
theorem str_u8 {s:List Nat}{l:List UInt8}(h:u8s s=l):(⟨l.toArray⟩:ByteArray)=strOf s:=by rw[←h];rfl
theorem below_growN (w:World)(k:Nat)(os:Array Obj):Below w.heap.size w (grow (w.drewN k) os):=⟨rfl,rfl,rfl,by simp[grow],fun j hj=>by simp only[grow];exact Array.getElem?_append_left hj⟩
theorem itoa_any (n:Nat)(w:World)(g:Gv w)(hn:n≤9223372036854775807):Calls Tryz.prog 44 #[.int .i64 (n:Int)] w fun e w'=>e= .returned (.string (strOf (decN n)))∧Grow w w':=by
 refine(Any.strconv_Itoa shItoa (n:Int) (by omega) (by omega) w g.pow).mono ?_
 rintro e w' ⟨rfl,k,os,rfl⟩
 refine⟨?_,below_growN _ _ _⟩
 rw[Lib.itoa_nonneg,str_u8 (decN_u8 n)]
theorem rep_u8 (c:Nat):u8s (List.replicate c 48)=Lib.repeatL [48] c:=by
 induction c with
 |zero=>rfl
 |succ c ih=>rw[List.replicate_succ,Lib.repeatL,←ih];rfl
theorem repeat0_any (c:Nat)(w:World)(hc:c≤1000):Calls Tryz.prog 45 #[.string {data:= #[48]}, .int .i64 (c:Int)] w fun e w'=>e= .returned (.string (strOf (List.replicate c 48)))∧Grow w w':=by
 refine(Any.strings_Repeat shRep shRepX {data:= #[48]} c w (by omega) (by show 1*c≤_;omega)).mono ?_
 rintro e w' ⟨rfl,hb⟩
 exact⟨by rw[←str_u8 (rep_u8 c)],hb⟩
theorem repeatZ_any (z:Int)(c:Nat)(w:World)(h:z=(c:Int))(hc:c≤1000):Calls Tryz.prog 45 #[.string {data:= #[48]}, .int .i64 z] w fun e w'=>e= .returned (.string (strOf (List.replicate c 48)))∧Grow w w':=by
 subst h
 exact repeat0_any c w hc
def dig6 (n:Nat):List Nat:=List.replicate (6-(decN n).length) 48++decN n
def fileN (nm:List Nat)(n:Nat)(kind:List Nat):List Nat:=nm++[46]++dig6 n++kind
def wlCs (gd:Nat)(nm:List Nat)(num count size:Int)(broken:Bool):Array Value:= #[.pointer (some ⟨gd,0,none⟩), .string (strOf nm), .int .i64 num, .int .i64 count, .int .i64 size, .bool broken]
theorem file_any (g0 gd n:Nat)(nm kind:List Nat)(num count size:Int)(broken:Bool)(w:World)(gv:Gv w)(k0:Blk w g0 111 (wlCs gd nm num count size broken))(hn:n≤999999)(hnl:nm.length≤1000)(hkl:kind.length≤1000):
  Calls Tryz.prog 106 #[.pointer (some ⟨g0,0,none⟩), .int .i64 (n:Int), .string (strOf kind)] w fun e w'=>e= .returned (.string (strOf (fileN nm n kind)))∧Grow w w':=by
 have bel:=Below.refl w.heap.size w
 have hdl:=decN_len 5 n (by omega)
 refine Zs 25 Tryz.func106 ?_
 refine Zsr ?_
 refine Za ?_
 refine Zk4 0 1 2 6 (Ztq ?_)
 refine Zm ?_
 refine Zc (Ze Tryz.func44) (itoa_any n _ gv (by omega)) ?_
 rintro e w5 ⟨rfl,hb5⟩
 refine⟨_,rfl,?_⟩
 replace bel:=bel.step hb5
 replace k0:=k0.step hb5
 refine Za ?_
 refine Zk5 0 1 2 6 7 (Zts ?_)
 refine Zdr 15 ?_
 intro w1 hw1 zw1
 replace bel:=bel.step hw1
 replace k0:=k0.step hw1
 have zbel:=bel.size
 have zlt:=k0.lt
 refine Zdm ?_
 refine Zd (fun w hG=>Runs.nilCheck rfl rfl) ?_
 refine Zdf 1 Tryz.underlying111 ?_
 refine ZdL Tryz.underlying9 k0 ?_
 refine Zd (fun w hG=>Runs.addL (b:=[46]) rfl rfl rfl (show nm.length+1≤_ by omega)) ?_
 refine Zdm ?_
 refine Zd (fun w hG=>Runs.lenL rfl rfl Tryz.underlying9) ?_
 refine Zd (fun w hG=>Runs.subI rfl rfl rfl (by omega) (by omega)) ?_
 refine Zd (fun w hG=>Runs.max2 rfl rfl rfl) ?_
 refine Dr.callV rfl (fun w=>Ze Tryz.func45) rfl (fun w hG=>repeatZ_any _ (6-(decN n).length) w (by omega) (by omega)) ?_
 refine Zd (fun w hG=>Runs.addL rfl rfl rfl (by simp only[List.length_append,List.length_replicate,List.length_singleton];omega)) ?_
 refine Zdm ?_
 refine Zd (fun w hG=>Runs.addL rfl rfl rfl (by simp only[List.length_append,List.length_replicate,List.length_singleton];omega)) ?_
 refine Zdm ?_
 refine Zd (fun w hG=>Runs.addL rfl rfl rfl (by simp only[List.length_append,List.length_replicate,List.length_singleton];omega)) ?_
 refine FinX.done (F':=[(0,_),(1,_),(2,_),(6,_),(7,_),(24,_)]) rfl ⟨rfl,rfl,rfl,rfl,rfl,rfl,trivial⟩ ?_
 intro w2 hw2 fw2
 replace bel:=bel.step hw2
 replace k0:=k0.step hw2
 refine Za ?_
 refine Zk5 0 1 2 6 7 (Zt (Cd.ret ?_))
 refine Ze1 ?_
 refine⟨?_,bel⟩
 have e:nm++[46]++List.replicate (6-(decN n).length) 48++decN n++kind=fileN nm n kind:=by unfold fileN dig6;simp
 rw[←e]
end Go.Proofs.YtdpipgidpkmolaaGreatDoor
namespace Go.Proofs.YtdpipgidpkmolaaGreatDoor
open Go.RowKit Go.Maps Go.Sort
theorem dig6_lt (n:Nat):∀c∈dig6 n,48≤c∧c<58:=by
 intro c hc
 unfold dig6 at hc
 rcases List.mem_append.1 hc with hc|hc
 ·have:=List.eq_of_mem_replicate hc;omega
 ·exact decN_lt n c hc
theorem dig6_len {n:Nat}(h:n≤999999):(dig6 n).length=6:=by
 have:=decN_len 5 n (by omega)
 unfold dig6
 rw[List.length_append,List.length_replicate]
 omega
theorem decFrom_app:∀(a b:List UInt8) (acc:Nat),Lib.decFrom acc (a++b)=(Lib.decFrom acc a).bind fun m=>Lib.decFrom m b
 | [],b,acc=>rfl
 |x::a,b,acc=>by
  rw[List.cons_append,Lib.decFrom,Lib.decFrom]
  cases Lib.digitVal x with
  |none=>rfl
  |some d=>exact decFrom_app a b _
theorem digitVal_ok {d:Nat}(h:d<10):Lib.digitVal (UInt8.ofNat (48+d))=some d:=by
 have e:(UInt8.ofNat (48+d)).toNat=48+d:=ofNat_toNat (by omega)
 unfold Lib.digitVal
 rw[e,if_pos (by omega)]
 congr 1
 omega
theorem decFrom_dec:∀n,Lib.decFrom 0 (u8s (decN n))=some n:=by
 intro n
 induction n using Nat.strongRecOn with
 |ind n ih=>
  rw[decN]
  split
  ·rename_i h
   show Lib.decFrom 0 [UInt8.ofNat (48+n)]=_
   rw[Lib.decFrom,digitVal_ok h]
   simp[Lib.decFrom]
  ·rename_i h
   have e:u8s (decN (n/10)++[48+n%10])=u8s (decN (n/10))++[UInt8.ofNat (48+n%10)]:=by simp[u8s]
   rw[e,decFrom_app,ih (n/10) (by omega)]
   simp only[Option.bind_some]
   rw[Lib.decFrom,digitVal_ok (by omega)]
   simp only[Lib.decFrom,Option.some.injEq]
   omega
theorem decFrom_zeros:∀(k:Nat) (l:List UInt8),Lib.decFrom 0 (u8s (List.replicate k 48)++l)=Lib.decFrom 0 l
 |0,l=>rfl
 |k+1,l=>by
  have e:u8s (List.replicate (k+1) 48)++l=UInt8.ofNat (48+0)::(u8s (List.replicate k 48)++l):=by rw[List.replicate_succ];rfl
  rw[e,Lib.decFrom,digitVal_ok (by omega)]
  exact decFrom_zeros k l
theorem atoi_dig6 {n:Nat}(h:n≤999999):Lib.atoi (u8s (dig6 n))=some (n:Int):=by
 have hl:=dig6_len h
 have hd:=dig6_lt n
 have hdec:Lib.decNat (u8s (dig6 n))=some n:=by
  unfold Lib.decNat
  have hne:(u8s (dig6 n)).isEmpty=false:=by
   cases e:dig6 n with
   |nil=>rw[e] at hl;cases hl
   |cons x r=>rfl
  rw[hne]
  simp only[Bool.false_eq_true,if_false]
  unfold dig6
  have e:u8s (List.replicate (6-(decN n).length) 48++decN n)=u8s (List.replicate (6-(decN n).length) 48)++u8s (decN n):=by simp[u8s]
  rw[e,decFrom_zeros,decFrom_dec]
 cases e:dig6 n with
 |nil=>rw[e] at hl;cases hl
 |cons x r=>
  have hx:=hd x (by rw[e];exact List.mem_cons_self)
  rw[e] at hdec
  have e2:u8s (x::r)=UInt8.ofNat x::u8s r:=rfl
  rw[e2] at hdec⊢
  have hx2:(UInt8.ofNat x).toNat=x:=ofNat_toNat (by omega)
  have n1:(UInt8.ofNat x==45)=false:=by
   rw[beq_eq_false_iff_ne]
   intro h3
   rw[h3] at hx2
   have:(45:UInt8).toNat=45:=rfl
   omega
  have n2:(UInt8.ofNat x==43)=false:=by
   rw[beq_eq_false_iff_ne]
   intro h3
   rw[h3] at hx2
   have:(43:UInt8).toNat=43:=rfl
   omega
  show(if(UInt8.ofNat x==45)=true then(Lib.decNat (u8s r)).map (fun(m:Nat)=> -(m:Int)) else if(UInt8.ofNat x==43)=true then(Lib.decNat (u8s r)).map (fun(m:Nat)=>(m:Int)) else(Lib.decNat (UInt8.ofNat x::u8s r)).map (fun(m:Nat)=>(m:Int)))=_
  rw[n1,n2,hdec]
  rfl
theorem strOf_u8 (s:List Nat):(strOf s).data.toList=u8s s:=strOf_data s
theorem below_bytesW (w:World)(e:TypeId)(s:ByteArray):Below w.heap.size w (Lib.bytesWorld w e s):=⟨rfl,rfl,rfl,by rw[Lib.bytesWorld_size];omega,fun j hj=>Lib.bytesWorld_at_old w e s j hj⟩
theorem atoi_any (n:Nat)(w:World)(h:n≤999999):Calls Tryz.prog 105 #[.string (strOf (dig6 n))] w fun e w'=>e= .returned (.tuple #[.int .i64 (n:Int), .nilIface])∧Grow w w':=by
 refine(Any.strconv_Atoi shAtoi (strOf (dig6 n)) (n:Int) (by rw[strOf_size,dig6_len h];omega) (by rw[strOf_u8];exact atoi_dig6 h) w).mono ?_
 rintro e w' ⟨rfl,t,rfl⟩
 exact⟨rfl,below_bytesW _ _ _⟩
theorem cutP_any (nm r:List Nat)(w:World):Calls Tryz.prog 104 #[.string (strOf (nm++r)), .string (strOf nm)] w fun e w'=>e= .returned (.tuple #[.string (strOf r), .bool true])∧Grow w w':=by
 refine(Any.strings_CutPrefix shCutP (strOf (nm++r)) (strOf nm) w).mono ?_
 rintro e w' ⟨rfl,rfl⟩
 have e1:u8s (nm++r)=u8s nm++u8s r:=by simp[u8s]
 have h1:Lib.hasPrefix (u8s nm++u8s r) (u8s nm)=true:=by
  unfold Lib.hasPrefix
  rw[List.isPrefixOf_iff_prefix]
  exact List.prefix_append _ _
 rw[strOf_u8,strOf_u8,e1,h1]
 refine⟨?_,Below.refl _ _⟩
 unfold Lib.trimPrefix
 rw[h1,if_pos rfl,List.drop_left]
 rfl
theorem cut_any (a b:List Nat)(w:World)(g:Gv w)(ha:∀c∈a,c<46∨46<c)(hb:Byt a)(hl:a.length+b.length≤1000000):Calls Tryz.prog 47 #[.string (strOf (a++46::b)), .string {data:= #[46]}] w fun e w'=>e= .returned (.tuple #[.string (strOf a), .string (strOf b), .bool true])∧Grow w w':=by
 obtain⟨m,hm⟩:=g.mx
 refine(Any.strings_Cut shCut (strOf (a++46::b)) {data:= #[46]} m w (by rw[strOf_size];simp only[List.length_append,List.length_cons];omega) hm).mono ?_
 rintro e w' ⟨rfl,k,rfl⟩
 have e1:u8s (a++46::b)=u8s a++46::u8s b:=by simp[u8s]
 have hi:Lib.index (u8s a++46::u8s b) [46]=((u8s a).length:Int):=by
  refine Lib.index_first (by simp) ?_ ?_
  ·unfold Lib.occAt
   rw[List.drop_left]
   rfl
  ·intro j hj
   unfold Lib.occAt
   have hja:j<a.length:=by simpa[u8s] using hj
   rw[List.drop_append_of_le_length (by omega)]
   have hc:(u8s a)[j]? =some (UInt8.ofNat a[j]):=by simp[u8s,hja]
   rw[drop_head hc,List.cons_append]
   have hne:(46:UInt8)≠UInt8.ofNat a[j]:=fun e=>by
    have h1:=ha a[j] (List.getElem_mem hja)
    have h2:(UInt8.ofNat a[j]).toNat=a[j]:=ofNat_toNat (hb _ (List.getElem_mem hja))
    rw[←e] at h2
    have:(46:UInt8).toNat=46:=rfl
    omega
   simp[List.isPrefixOf,hne]
 have hcut:Lib.cut (u8s a++46::u8s b) [46]=(u8s a,u8s b,true):=by
  unfold Lib.cut
  rw[hi,if_pos (by omega),Int.toNat_natCast,List.take_left]
  have:(u8s a++46::u8s b).drop ((u8s a).length+ [(46:UInt8)].length)=u8s b:=by
   rw[←List.drop_drop,List.drop_left]
   rfl
  rw[this]
 have e2:(({data:= #[46]}:ByteArray)).data.toList=[46]:=rfl
 rw[strOf_u8,e1,e2,hcut]
 exact⟨rfl,⟨rfl,rfl,rfl,Nat.le_refl _,fun _ _=>rfl⟩⟩
end Go.Proofs.YtdpipgidpkmolaaGreatDoor
namespace Go.Proofs.YtdpipgidpkmolaaGreatDoor
open Go.RowKit Go.Maps Go.Sort
def rightN (nm:List Nat):Bool:=nm.all (fun c=>decide (97≤c)&&decide (c≤122))&&(decide (nm≠ [])&&decide (nm.length≤8))
theorem right_w_any (nm:List Nat)(w:World)(hs:Byt nm)(hl:nm.length≤100000000):Calls Tryz.prog 54 #[.string (strOf nm)] w fun e w'=>e= .returned (.bool (rightN nm))∧Grow w w':=by
 have bel:=Below.refl w.heap.size w
 refine Zs 26 Tryz.func54 ?_
 refine Zsr ?_
 refine Za ?_
 refine Zk2 0 2 (Zts (Zsr ?_))
 refine Zm ?_
 refine Seq.convSB rfl rfl Tryz.underlying9 Tryz.underlying103 Tryz.underlying5 hs rfl rfl rfl ?_
 intro g6 c w2 hc hn
 replace bel:=bel.step hn.below
 have hrd:=hn.reads
 have hb2:=Below.refl w2.heap.size w2
 clear hn
 obtain⟨A,hA⟩:∃A,A=some (⟨g6,0,none⟩:Addr):=⟨_,rfl⟩
 rw[←hA] at hrd⊢
 clear hA
 have bel0:=bel
 clear bel
 have bel:=hb2
 refine Zv (Runs.len rfl rfl Tryz.underlying103) ?_
 refine Zm ?_
 refine Zk5 0 2 6 7 8 (Zt (Cd.block ?_))
 refine Cd.loop (σ:=Nat) (fun j=>[(0, .string (strOf nm)),(6, .slice A nm.length c),(7, .int .i64 (nm.length:Int)),(8, .int .i64 (j:Int))]) (fun j wr=>j≤nm.length∧(∀x∈nm.take j,97≤x∧x≤122)∧Below w2.heap.size w2 wr) (fun j=>nm.length-j) 0 ⟨Nat.zero_le _,by simp,bel⟩ ⟨rfl,rfl,rfl,rfl,trivial⟩ ?_
 clear bel
 rintro j wr ⟨hj,hall,bel⟩
 refine Zsr ?_
 refine Zls ?_
 refine Zk5 0 6 7 8 9 (Zts ?_)
 refine Cd.condD rfl (fun hc=> ?_) (fun hc=> ?_)
 ·obtain⟨b,hb⟩:∃b,nm[j]? =some b:=⟨_,List.getElem?_eq_getElem (by omega)⟩
  have hb256:=hs b (List.mem_of_getElem? hb)
  obtain⟨ad,rfl,hbd,hcl⟩:=hrd.2 (by omega)
  have hcd:=(bel.cell (p:=ad.add j) (by rw[block_of_add];exact hbd)).trans (hcl j (.int .u8 (b:Int)) (by rw[get_Bt,hb];rfl))
  refine Cd.skip (Zts (Cd.block (Zsr ?_)))
  refine Zv (Runs.index1 rfl rfl rfl Tryz.underlying103 (by kernel_rfl) (j:=j) rfl (by omega)) ?_
  refine Zv (Runs.load1 rfl rfl Tryz.underlying5 rfl hcd) ?_
  refine Za ?_
  refine Zk6 0 4 6 7 8 9 (Ztq ?_)
  refine Zm ?_
  refine Zls ?_
  refine Zm ?_
  refine SeqC.start ?_
  refine Zco (fun hcx=>Runs.move rfl rfl) ?_
  refine Zn (fun hcx=>Runs.gtr rfl rfl rfl) ?_
  refine Zor ?_
  refine Zk7 0 4 6 7 8 9 17 (Zt ?_)
  refine Cd.cond rfl (fun h=> ?_) (fun h=> ?_)
  ·have h1:b<97∨122<b:=by
    have h':(decide ((b:Int)<97)||decide ((122:Int)<(b:Int)))=true:=h
    rw[Bool.or_eq_true,decide_eq_true_eq,decide_eq_true_eq] at h'
    omega
   have hR:rightN nm=false:=by
    unfold rightN
    rw[Bool.and_eq_false_iff]
    left
    rw[List.all_eq_false]
    refine⟨b,List.mem_of_getElem? hb,?_⟩
    simp only[Bool.and_eq_true,decide_eq_true_eq]
    omega
   rw[hR]
   refine Zsr ?_
   refine Za ?_
   refine Zk8 0 2 4 6 7 8 9 17 (Zt (Cd.ret (Post.block_ret (Post.then_ret (Post.round_ret (Post.block_ret (Post.then_ret ?_)))))))
   refine Ze1 ?_
   exact⟨rfl,bel0.step bel⟩
  ·have h1:97≤b∧b≤122:=by
    have h':(decide ((b:Int)<97)||decide ((122:Int)<(b:Int)))=false:=h
    rw[Bool.or_eq_false_iff,decide_eq_false_iff_not,decide_eq_false_iff_not] at h'
    omega
   refine Cd.skip (Post.block_normal (Ztr ?_))
   refine Za_ ?_
   refine Zm ?_
   refine Zk7 0 4 6 7 8 9 17 ?_
   refine Post.round (j+1) ⟨rfl,rfl,rfl,int_at (by omega),trivial⟩ ⟨by omega,fun x hx=> ?_,bel⟩ (by omega)
   rw[take_last hb] at hx
   rcases List.mem_append.1 hx with hx|hx
   ·exact hall x hx
   ·simp at hx;subst hx;exact h1
 ·have hR:rightN nm=(decide (nm≠ [])&&decide ((nm.length:Int)≤8)):=by
   unfold rightN
   rw[List.take_of_length_le (by omega)] at hall
   have:nm.all (fun c=>decide (97≤c)&&decide (c≤122))=true:=by
    rw[List.all_eq_true]
    intro x hx
    have:=hall x hx
    simp[this]
   rw[this,Bool.true_and]
   congr 1
   by_cases h8:nm.length≤8
   ·rw[decide_eq_true h8,decide_eq_true (by omega)]
   ·rw[decide_eq_false h8,decide_eq_false (by omega)]
  rw[hR]
  refine Cd.exit (Post.then_exit (Post.round_exit (Post.block_exit (Ztq ?_))))
  refine Zm ?_
  refine Zv (Runs.neqL (b:=[]) rfl rfl rfl hs (by simp)) ?_
  refine Zm ?_
  refine SeqC.start ?_
  refine Zco (fun hcx=>Runs.move rfl rfl) ?_
  refine Zn (fun hcx=>Runs.lenL rfl rfl Tryz.underlying9) ?_
  refine Zn (fun hcx=>Runs.leq rfl rfl rfl) ?_
  refine Zan ?_
  refine Za ?_
  refine Zk6 0 2 6 7 8 9 (Zt (Cd.ret ?_))
  refine Ze1 ?_
  exact⟨rfl,bel0.step bel⟩
end Go.Proofs.YtdpipgidpkmolaaGreatDoor
namespace Go.Proofs.YtdpipgidpkmolaaGreatDoor
open Go.RowKit Go.Maps Go.Sort
def logB:List Nat:=[108,111,103]
def ackB:List Nat:=[97,99,107]
def newB:List Nat:=[110,101,119]
def OwnNm (nm:List Nat)(s:List Nat):Prop:=∃n k,n≤999999∧(k=logB∨k=ackB∨k=newB)∧s=fileN nm n (46::k)
theorem zero_int:zeroIs Tryz.prog 3=some (some (.int .i64 0)):=by kernel_rfl
def NumIn (nm:List Nat)(names:List (List Nat))(n:Nat):Prop:=n≤999999∧(fileN nm n (46::logB)∈names∨fileN nm n (46::ackB)∈names)
theorem ones_nat (l:List Nat):∀u∈l.map (fun(n:Nat)=>Value.int .i64 (n:Int)),u.oneCell'=true:=fun u hu=>by
 obtain⟨z,-,rfl⟩:=List.mem_map.1 hu
 rfl
theorem dig6_inj {m n:Nat}(hm:m≤999999)(hn:n≤999999)(h:dig6 m=dig6 n):m=n:=by
 have h1:=atoi_dig6 hm
 rw[h,atoi_dig6 hn] at h1
 injection h1 with h1
 omega
theorem fileN_inj {nm:List Nat}{m n:Nat}{a b:List Nat}(hm:m≤999999)(hn:n≤999999)(h:fileN nm m a=fileN nm n b):m=n∧a=b:=by
 unfold fileN at h
 rw[List.append_assoc,List.append_assoc,List.append_assoc,List.append_assoc] at h
 have h1:=List.append_cancel_left h
 have h2:=List.append_cancel_left h1
 have h3:=List.append_inj h2 (by rw[dig6_len hm,dig6_len hn])
 exact⟨dig6_inj hm hn h3.1,h3.2⟩
theorem numIn_more {nm:List Nat}{l:List (List Nat)}{n:Nat}{k:List Nat}(hn:n≤999999)(m:Nat):NumIn nm (l++[fileN nm n (46::k)]) m↔NumIn nm l m∨(m=n∧(k=logB∨k=ackB)):=by
 unfold NumIn
 simp only[List.mem_append,List.mem_singleton]
 constructor
 ·rintro⟨h1,(h2|h2)|(h2|h2)⟩
  ·exact .inl ⟨h1, .inl h2⟩
  ·obtain⟨e1,e2⟩:=fileN_inj h1 hn h2
   exact .inr ⟨e1, .inl (by injection e2 with _ e2;exact e2.symm)⟩
  ·exact .inl ⟨h1, .inr h2⟩
  ·obtain⟨e1,e2⟩:=fileN_inj h1 hn h2
   exact .inr ⟨e1, .inr (by injection e2 with _ e2;exact e2.symm)⟩
 ·rintro(⟨h1,h2|h2⟩|⟨rfl,rfl|rfl⟩)
  ·exact⟨h1, .inl (.inl h2)⟩
  ·exact⟨h1, .inr (.inl h2)⟩
  ·exact⟨hn, .inl (.inr rfl)⟩
  ·exact⟨hn, .inr (.inr rfl)⟩
theorem comp_inv (d:Array Int)(hs:∀i j,i≤j→j<d.size→d[i]! ≤d[j]!):∀m,m≤d.size→(Lib.compactUpTo d m).Pairwise (· < ·)∧∀z,z∈Lib.compactUpTo d m↔∃i,i<m∧d[i]! =z
 |0,_=>⟨by simp[Lib.compactUpTo],fun z=>by simp[Lib.compactUpTo]⟩
 |m+1,h=>by
  obtain⟨h1,h2⟩:=comp_inv d hs m (by omega)
  rw[Lib.compactUpTo_succ]
  by_cases hk:m=0∨d[m]! ≠d[m-1]!
  ·have hkk:Lib.keeps d m=true:=by unfold Lib.keeps;exact decide_eq_true hk
   rw[hkk,if_pos rfl]
   refine⟨?_,fun z=> ?_⟩
   ·rw[List.pairwise_append]
    refine⟨h1,by simp,?_⟩
    intro a ha b hb
    simp at hb
    subst hb
    obtain⟨i,hi,rfl⟩:=(h2 a).1 ha
    have e1:=hs i (m-1) (by omega) (by omega)
    have e2:=hs (m-1) m (by omega) (by omega)
    rcases hk with hk|hk<;>omega
   ·rw[List.mem_append,h2 z,List.mem_singleton]
    constructor
    ·rintro(⟨i,hi,e⟩|e)
     ·exact⟨i,by omega,e⟩
     ·exact⟨m,by omega,e.symm⟩
    ·rintro⟨i,hi,e⟩
     rcases Nat.lt_or_eq_of_le (Nat.le_of_lt_succ hi) with h3|h3
     ·exact .inl ⟨i,h3,e⟩
     ·subst h3;exact .inr e.symm
  ·have hkk:Lib.keeps d m=false:=by unfold Lib.keeps;exact decide_eq_false hk
   rw[hkk]
   simp only[Bool.false_eq_true,if_false,List.append_nil]
   refine⟨h1,fun z=> ?_⟩
   rw[h2 z]
   have hk1:m≠0:=fun e=>hk (.inl e)
   have hk2:d[m]! =d[m-1]! :=by
    by_cases e:d[m]! =d[m-1]!
    ·exact e
    ·exact absurd (.inr e) hk
   constructor
   ·rintro⟨i,hi,e⟩;exact⟨i,by omega,e⟩
   ·rintro⟨i,hi,e⟩
    rcases Nat.lt_or_eq_of_le (Nat.le_of_lt_succ hi) with h3|h3
    ·exact⟨i,h3,e⟩
    ·subst h3;exact⟨i-1,by omega,by rw[←hk2];exact e⟩
theorem press {zs:List Int}:(Lib.compact (zs.mergeSort fun x y=>decide (x≤y))).Pairwise (· < ·)∧∀z,z∈Lib.compact (zs.mergeSort fun x y=>decide (x≤y))↔z∈zs:=by
 obtain⟨S,hS⟩:∃S,S=zs.mergeSort (fun x y=>decide (x≤y)):=⟨_,rfl⟩
 have hsort:S.Pairwise (· ≤ ·):=by
  have h1:=List.pairwise_mergeSort (le:=fun(x y:Int)=>decide (x≤y)) (fun a b c h1 h2=>by rw[decide_eq_true_eq] at *;omega) (fun a b=>by rw[Bool.or_eq_true,decide_eq_true_eq,decide_eq_true_eq];omega) zs
  rw[←hS] at h1
  exact h1.imp fun h=>by simpa using h
 have hperm:S.Perm zs:=by rw[hS];exact List.mergeSort_perm _ _
 rw[←hS]
 have hs:∀i j,i≤j→j<S.toArray.size→S.toArray[i]! ≤S.toArray[j]! :=fun i j hij hj=>by
  have hj':j<S.length:=by simpa using hj
  rw[getElem!_pos S.toArray i (by simpa using (show i<S.length by omega)),getElem!_pos S.toArray j (by simpa using hj')]
  rcases Nat.lt_or_eq_of_le hij with h1|h1
  ·exact List.pairwise_iff_getElem.1 hsort i j (by omega) hj' h1
  ·subst h1;exact Int.le_refl _
 obtain⟨h1,h2⟩:=comp_inv S.toArray hs S.length (by simp)
 refine⟨h1,fun z=> ?_⟩
 rw[←hperm.mem_iff]
 show z∈Lib.compactUpTo S.toArray S.length↔_
 rw[h2 z]
 constructor
 ·rintro⟨i,hi,e⟩
  rw[getElem!_pos S.toArray i (by simpa using hi)] at e
  rw[←e]
  simp
 ·intro hz
  obtain⟨i,hi,e⟩:=List.getElem_of_mem hz
  exact⟨i,hi,by rw[getElem!_pos S.toArray i (by simpa using hi)];simpa using e⟩
theorem Own.mono {w:World}{B B' size n:Nat}{e:TypeId}{v:Value}{xs:List Value}(h:Own w B e size v n xs)(hB:B'≤B):Own w B' e size v n xs:=by
 obtain⟨⟨hl,h0|⟨g,cap,cur,hv,hb,r⟩⟩⟩:=h
 ·exact⟨⟨hl, .inl h0⟩⟩
 ·exact⟨⟨hl, .inr ⟨g,cap,cur,hv,Nat.le_trans hB hb,r⟩⟩⟩
theorem sortI_any (B c n:Nat)(A:Option Addr)(zs:List Int)(w:World)(own:Own w B 3 1 (.slice A n c) n (zs.map (Value.int .i64)))(hn:n≤1000000):Calls Tryz.prog 107 #[.slice A n c] w fun e w'=>e= .returned (.tuple #[])∧Own w' B 3 1 (.slice A n c) n ((zs.mergeSort fun x y=>decide (x≤y)).map (Value.int .i64))∧Below B w w':=by
 have hl:zs.length=n:=by have:=own.row.1;simpa using this
 rcases own.row.2 with ⟨hv,h0⟩|⟨g,cap,cur,hv,hb,hg,h1,h2,h3,h4⟩
 ·injection hv with e1 e2 e3
  subst e1 e2 e3
  obtain rfl:zs=[]:=List.eq_nil_of_length_eq_zero hl
  refine(Any.slices_Sort_int_none shSortI none 0 w).mono ?_
  rintro e w' ⟨rfl,rfl⟩
  exact⟨rfl,by simpa using own,Below.refl _ _⟩
 ·injection hv with e1 _ e3
  subst e1 e3 hl
  have hgl:g<w.heap.size:=(Array.getElem?_eq_some_iff.1 hg).1
  have hH:=holds_of_blockI (ss:=zs) hg (by simpa using h4)
  refine(Any.slices_Sort_int shSortI g 0 c zs w hH hgl (by omega)).mono ?_
  rintro e w' ⟨rfl,m,os,rfl⟩
  exact⟨rfl,⟨ownsRow_sortedI (by simp) hb hg h1 h2 h3⟩,only_to_below (grownBy_sortedI _) hb hgl⟩
theorem compI_any (B c n:Nat)(A:Option Addr)(zs:List Int)(w:World)(own:Own w B 3 1 (.slice A n c) n (zs.map (Value.int .i64)))(hn:n≤1000000):Calls Tryz.prog 108 #[.slice A n c] w fun e w'=>∃v,e= .returned v∧Own w' B 3 1 v (Lib.compact zs).length ((Lib.compact zs).map (Value.int .i64))∧Below B w w':=by
 have hl:zs.length=n:=by have:=own.row.1;simpa using this
 rcases own.row.2 with ⟨hv,h0⟩|⟨g,cap,cur,hv,hb,hg,h1,h2,h3,h4⟩
 ·injection hv with e1 e2 e3
  subst e1 e2 e3
  obtain rfl:zs=[]:=List.eq_nil_of_length_eq_zero hl
  refine(Any.slices_Compact_int_empty shComp none 0 w).mono ?_
  rintro e w' ⟨rfl,rfl⟩
  exact⟨_,rfl,own,Below.refl _ _⟩
 ·injection hv with e1 _ e3
  subst e1 e3 hl
  have hgl:g<w.heap.size:=(Array.getElem?_eq_some_iff.1 hg).1
  have hH:=holds_of_blockI (ss:=zs) hg (by simpa using h4)
  refine(Any.slices_Compact_int shComp g 0 c zs w hH (by omega) h1).mono ?_
  rintro e w' ⟨rfl,q,rfl⟩
  have hcl:(Lib.compact zs).length≤zs.length:=by
   show(((List.range zs.length).filter _).map _).length≤_
   rw[List.length_map]
   exact Nat.le_trans (List.length_filter_le _ _) (by simp)
  have hr:=ownsRow_sortedI (n:=q) (os:= #[]) (ss:=zs) (ts:=Lib.compact zs++List.replicate (zs.length-(Lib.compact zs).length) 0) (by rw[List.length_append,List.length_replicate];omega) hb hg h1 h2 h3
  rw[grow_empty] at hr
  have hbl:Below B w (putRow (Value.int .i64) (Sort.ahead w q) g 0 (Lib.compact zs++List.replicate (zs.length-(Lib.compact zs).length) 0).toArray):=by
   have:=grownBy_sortedI (w:=w) (g:=g) (n:=q) (os:= #[]) (Lib.compact zs++List.replicate (zs.length-(Lib.compact zs).length) 0).toArray
   rw[grow_empty] at this
   exact only_to_below this hb hgl
  refine⟨_,rfl,?_,hbl⟩
  obtain⟨hl2,⟨hv2,-⟩|⟨g2,cap2,cur2,hv2,hb2,hg2,h12,h22,h32,h42⟩⟩:=hr
  ·cases hv2
  ·injection hv2 with e1 _ e3
   subst e3
   refine⟨⟨by simp, .inr ⟨g2,c,cur2,by rw[e1],hb2,hg2,by omega,h22,h32,?_⟩⟩⟩
   rw[Nat.mul_one] at h42⊢
   have:cur2.toList.take (Lib.compact zs).length=(cur2.toList.take zs.length).take (Lib.compact zs).length:=by rw[List.take_take,Nat.min_eq_left hcl]
   have hlm:((Lib.compact zs).map (Value.int .i64)).length=(Lib.compact zs).length:=List.length_map _
   rw[this,h42,List.map_append,←hlm,List.take_left]
set_option maxHeartbeats 4000000 in
theorem numbers_any (B g0 gd:Nat)(D:Dk)(nm:List Nat)(num count size:Int)(broken:Bool)(w:World)(gv:Gv w)(k0:Blk w g0 111 (wlCs gd nm num count size broken))(dk:DkAt w B gd D)(hnm:Byt nm)(hnl:nm.length≤8)(hown:∀p∈D.files,OwnNm nm p.1):
  Calls Tryz.prog 56 #[.pointer (some ⟨g0,0,none⟩)] w fun e w'=>∃(v:Value) (ns:List Nat),e= .returned v∧ns.Pairwise (· < ·)∧(∀n,n∈ns↔NumIn nm (D.files.map (·.1)) n)∧Own w' w.heap.size 3 1 v ns.length (ns.map fun(n:Nat)=>Value.int .i64 (n:Int))∧Grow w w':=by
 have bel:=Below.refl w.heap.size w
 have own:=Own.nil w w.heap.size 3 1
 obtain⟨names,hnames⟩:∃names,names=sortN (D.files.map (·.1)):=⟨_,rfl⟩
 have hperm:names.Perm (D.files.map (·.1)):=by rw[hnames];exact List.mergeSort_perm _ _
 have hmost:D.files.length≤200:=by obtain⟨m,l,F,c1,c2,h⟩:=dk;exact h.ok.most
 have hnlen:names.length=D.files.length:=by rw[hperm.length_eq,List.length_map]
 have hgood:∀s∈names,OwnNm nm s:=fun s hs=>by
  obtain⟨p,hp,rfl⟩:=List.mem_map.1 (hperm.mem_iff.1 hs)
  exact hown p hp
 refine Zs 82 Tryz.func56 ?_
 refine Zsr ?_
 refine Za ?_
 refine Zk2 0 2 (Ztq ?_)
 refine Za ?_
 refine Zk3 0 2 3 (Zts (Zsr ?_))
 refine Zm ?_
 refine Zv (Runs.nilCheck rfl rfl) ?_
 refine Zf 0 Tryz.underlying111 ?_
 refine ZL Tryz.underlying26 k0 ?_
 refine Zc (Ze Tryz.func19) (names_any B gd D _ (dk.step bel)) ?_
 rintro e w5 ⟨v17,rfl,ownN,hb5⟩
 refine⟨_,rfl,?_⟩
 rw[←hnames] at ownN
 replace bel:=bel.step hb5
 replace k0:=k0.step hb5
 replace own:=own.step hb5
 obtain⟨A,c,rfl,hrd⟩:=ownN.reads
 refine Zv (Runs.len rfl rfl Tryz.underlying54) ?_
 refine Zm ?_
 refine Zk6 0 2 3 17 18 19 (Zt (Cd.block ?_))
 have hw5:=bel.size
 have bel0:=bel
 clear bel
 have bel:=Below.refl w5.heap.size w5
 clear own
 have own:=Own.nil w5 w5.heap.size 3 1
 refine Cd.loop (σ:=Nat × List Nat × Value) (fun q=>[(0, .pointer (some ⟨g0,0,none⟩)),(17, .slice A D.files.length c),(18, .int .i64 (D.files.length:Int)),(19, .int .i64 (q.1:Int)),(3,q.2.2)]) (fun q wr=>q.1≤D.files.length∧q.2.1.length≤q.1∧(∀n,n∈q.2.1↔NumIn nm (names.take q.1) n)∧Below w5.heap.size w5 wr∧Blk wr g0 111 (wlCs gd nm num count size broken)∧Own wr w5.heap.size 3 1 q.2.2 q.2.1.length (q.2.1.map fun(n:Nat)=>Value.int .i64 (n:Int))) (fun q=>D.files.length-q.1) (0,[], .slice none 0 0) ⟨Nat.zero_le _,Nat.le_refl _,fun n=>by simp[NumIn],bel,k0,own⟩ ⟨rfl,rfl,rfl,rfl,rfl,trivial⟩ ?_
 clear bel k0 own
 rintro⟨j,zs,v⟩ wr ⟨hj,hzl,hmem,bel,k0,own⟩
 simp only at hj hzl hmem own
 obtain⟨A3,c3,rfl,-⟩:=own.reads
 show Cd _ _ _ _ [(0, .pointer (some ⟨g0,0,none⟩)),(17, .slice A D.files.length c),(18, .int .i64 (D.files.length:Int)),(19, .int .i64 (j:Int)),(3, .slice A3 zs.length c3)] _
 refine Zsr ?_
 refine Zls ?_
 refine Zk6 0 3 17 18 19 20 (Zts ?_)
 refine Cd.condD rfl (fun hc=> ?_) (fun hc=> ?_)
 ·obtain⟨s,hs⟩:∃s,names[j]? =some s:=⟨_,List.getElem?_eq_getElem (by omega)⟩
  obtain⟨n,k,hn,hk,rfl⟩:=hgood s (List.mem_of_getElem? hs)
  have hsf:fileN nm n (46::k)=(nm++[46])++(dig6 n++46::k):=by unfold fileN;simp
  have hd6:=dig6_len hn
  have hd6l:=dig6_lt n
  have hk3:k.length=3:=by rcases hk with rfl|rfl|rfl<;>rfl
  have hkb:Byt k:=by rcases hk with rfl|rfl|rfl<;>(intro d hd;revert d;decide)
  obtain⟨ad,rfl,hbd,hcl⟩:=hrd.2 (by omega)
  have hcd:=(bel.cell (p:=ad.add j) (by rw[block_of_add];exact hbd)).trans (hcl j (.string (strOf (fileN nm n (46::k)))) (by rw[get_Ts,hs];rfl))
  have gv1:Gv wr:=gv.step (bel0.trans (bel.mono hw5))
  refine Cd.skip (Zts (Cd.block (Zsr ?_)))
  refine Zv (Runs.index1 rfl rfl rfl Tryz.underlying54 (by kernel_rfl) (j:=j) rfl (by omega)) ?_
  refine Zv (Runs.load1 rfl rfl Tryz.underlying9 rfl hcd) ?_
  refine Za ?_
  refine Zk7 0 3 5 17 18 19 20 (Ztq ?_)
  refine Zm ?_
  refine Zm ?_
  refine Zv (Runs.nilCheck rfl rfl) ?_
  refine Zf 1 Tryz.underlying111 ?_
  refine ZL Tryz.underlying9 k0 ?_
  refine Zv (Runs.addL (b:=[46]) rfl rfl rfl (show nm.length+1≤_ by omega)) ?_
  rw[hsf]
  refine Zc (Ze Tryz.func104) (cutP_any (nm++[46]) (dig6 n++46::k) _) ?_
  rintro e x6 ⟨rfl,hb6⟩
  refine⟨_,rfl,?_⟩
  replace bel:=bel.step hb6
  replace k0:=k0.step hb6
  replace own:=own.step hb6
  refine Zm ?_
  refine Zx ?_
  refine Zx ?_
  refine Za ?_
  refine Za ?_
  refine Zk9 0 3 5 6 7 17 18 19 20 (Ztq ?_)
  refine Zm ?_
  refine Zc (Ze Tryz.func47) (cut_any (dig6 n) k _ (gv.step (bel0.trans (bel.mono hw5))) (fun c hc=>by have:=hd6l c hc;omega) (fun c hc=>by have:=hd6l c hc;omega) (by omega)) ?_
  rintro e x7 ⟨rfl,hb7⟩
  refine⟨_,rfl,?_⟩
  replace bel:=bel.step hb7
  replace k0:=k0.step hb7
  replace own:=own.step hb7
  refine Zm ?_
  refine Zx ?_
  refine Zx ?_
  refine Zx ?_
  refine Za ?_
  refine Za ?_
  refine Za ?_
  refine Zk12 0 3 5 6 7 8 9 10 17 18 19 20 (Ztq ?_)
  refine Zm ?_
  refine Zc (Ze Tryz.func105) (atoi_any n _ hn) ?_
  rintro e x8 ⟨rfl,hb8⟩
  refine⟨_,rfl,?_⟩
  replace bel:=bel.step hb8
  replace k0:=k0.step hb8
  replace own:=own.step hb8
  refine Zm ?_
  refine Zx ?_
  refine Zx ?_
  refine Za ?_
  refine Za ?_
  refine Zk14 0 3 5 6 7 8 9 10 11 12 17 18 19 20 (Ztq ?_)
  refine Zm ?_
  refine Zm ?_
  refine SeqC.start ?_
  refine Zco (fun hcx=>Runs.move rfl rfl) ?_
  refine Zan ?_
  refine Zm ?_
  refine SeqC.start ?_
  refine Zco (fun hcx=>Runs.move rfl rfl) ?_
  refine Zn (fun hcx=>Runs.bin (v:= .bool true) rfl rfl rfl rfl (by kernel_rfl)) ?_
  refine Zan ?_
  refine Zm ?_
  refine SeqC.start ?_
  refine Zco (fun hcx=>Runs.move rfl rfl) ?_
  have hfb:Byt (fileN nm n (46::k)):=by
   unfold fileN
   refine Byt.app (Byt.app (Byt.app hnm (by intro d hd;simp at hd;omega)) (fun c hc=>by have:=hd6l c hc;omega)) ?_
   intro d hd
   rcases List.mem_cons.1 hd with rfl|hd
   ·omega
   ·exact hkb d hd
  refine Zn (fun hcx=>Runs.eqlL (b:=logB) rfl rfl rfl hkb (by decide)) ?_
  refine Znm ?_
  refine Zco (fun hcx=>Runs.move rfl rfl) ?_
  refine Zn (fun hcx=>Runs.eqlL (b:=ackB) rfl rfl rfl hkb (by decide)) ?_
  refine SeqC.orG rfl rfl rfl rfl rfl rfl rfl rfl rfl rfl rfl ?_
  refine Zan ?_
  refine Zm ?_
  refine SeqC.start ?_
  refine Zco (fun hcx=>Runs.move rfl rfl) ?_
  refine Znm ?_
  refine Znm ?_
  refine Zn (fun hcx=>Runs.addL (a:=[46]) (b:=k) rfl rfl rfl (by simp only[List.length_singleton];omega)) ?_
  refine SeqC.nextC rfl rfl rfl rfl rfl rfl rfl (fun hcx=>Ze Tryz.func106) (fun hcx=>file_any g0 gd n nm (46::k) num count size broken _ (gv.step (bel0.trans (bel.mono hw5))) k0 hn (by omega) (by simp only[List.length_cons];omega)) ?_
  intro w1 hw1
  replace bel:=bel.step hw1
  replace k0:=k0.step hw1
  replace own:=own.step hw1
  refine Znm ?_
  refine Zn (fun hcx=>Runs.eqlL rfl rfl rfl hfb (by rw[←hsf];exact hfb)) ?_
  refine Zan ?_
  refine Zm ?_
  refine SeqC.start ?_
  refine Zco (fun hcx=>Runs.move rfl rfl) ?_
  refine Zn (fun hcx=>Runs.geq rfl rfl rfl) ?_
  refine Zan ?_
  refine Zk15 0 3 5 6 7 8 9 10 11 12 17 18 19 20 72 (Zt ?_)
  have hval:(decide (k=logB)||decide (k=ackB))=true↔(k=logB∨k=ackB):=by rw[Bool.or_eq_true,decide_eq_true_eq,decide_eq_true_eq]
  have hnj:names.take (j+1)=names.take j++[fileN nm n (46::k)]:=take_last hs
  refine Cd.cond rfl (fun h=> ?_) (fun h=> ?_)
  ·have hkk:k=logB∨k=ackB:=by
    apply hval.1
    cases e:(decide (k=logB)||decide (k=ackB)) with
    |true=>rfl
    |false=>
     exfalso
     have h':(true&&true&&true&&(decide (k=logB)||decide (k=ackB))&&decide (fileN nm n (46::k)=nm++[46]++(dig6 n++46::k))&&decide ((0:Int)≤(n:Int)))=true:=h
     rw[e] at h'
     simp at h'
   refine Zr ?_
   refine Zm ?_
   refine Zm ?_
   refine Seq.slice (vs:=[_]) (s:=1) rfl rfl rfl Tryz.underlying40 (by kernel_rfl) (zero_int) (by omega) (by omega) ⟨rfl,trivial⟩ rfl rfl rfl ?_
   intro g75 w2 n75
   have e75:=Nat.le_trans bel.size n75.ge
   have l75:=Nat.lt_of_lt_of_le k0.lt n75.ge
   replace bel:=bel.step n75.below
   replace k0:=k0.step n75.below
   replace own:=own.step n75.below
   have k75:=n75.blk
   have hrx:=Reads.blk (size:=1) k75 1 rfl
   refine Seq.append rfl rfl rfl Tryz.underlying40 (by kernel_rfl) zero_int rfl (by decide) (b:=8) (by kernel_rfl) own hrx (ones_nat [n]) bel.size (by simp only[maxLen];omega) (by omega) rfl rfl rfl ?_
   intro v2 wb own2 ha
   have bel2:=bel.trans ha.below
   have k02:=k0.appNe own ha
   replace own2:Own wb w5.heap.size 3 1 v2 (zs.length+1) ((zs.map fun(n:Nat)=>Value.int .i64 (n:Int))++[n].map fun(n:Nat)=>Value.int .i64 (n:Int)):=own2
   rw[←List.map_append] at own2
   clear bel own k75 hrx ha k0
   have bel:=bel2
   have own:=own2
   have k0:=k02
   clear bel2 own2 k02
   refine Za ?_
   refine Zk15 0 3 5 6 7 8 9 10 11 12 17 18 19 20 72 (Post.block_normal (Ztr ?_))
   refine Za_ ?_
   refine Zm ?_
   refine Zk15 0 3 5 6 7 8 9 10 11 12 17 18 19 20 72 ?_
   exact Post.round (j+1,zs++[n],v2) ⟨rfl,rfl,rfl,int_at (by omega),rfl,trivial⟩ ⟨by simp only;omega,by simp only[List.length_append,List.length_singleton];omega,fun m=>by rw[hnj,numIn_more hn,←hmem m];simp[hkk],bel,k0,by simpa using own⟩ (by simp only;omega)
  ·have hkk:¬(k=logB∨k=ackB):=by
    intro hkk
    have h':(true&&true&&true&&(decide (k=logB)||decide (k=ackB))&&decide (fileN nm n (46::k)=nm++[46]++(dig6 n++46::k))&&decide ((0:Int)≤(n:Int)))=false:=h
    rw[hval.2 hkk,←hsf,decide_eq_true rfl,decide_eq_true (by omega)] at h'
    cases h'
   refine Cd.skip (Post.block_normal (Ztr ?_))
   refine Za_ ?_
   refine Zm ?_
   refine Zk15 0 3 5 6 7 8 9 10 11 12 17 18 19 20 72 ?_
   exact Post.round (j+1,zs, .slice A3 zs.length c3) ⟨rfl,rfl,rfl,int_at (by omega),rfl,trivial⟩ ⟨by simp only;omega,by simp only;omega,fun m=>by rw[hnj,numIn_more hn,hmem m];simp[hkk],bel,k0,own⟩ (by simp only;omega)
 ·have hall:∀n,n∈zs↔NumIn nm (D.files.map (·.1)) n:=fun n=>by
   rw[hmem n,List.take_of_length_le (by omega)]
   unfold NumIn
   rw[hperm.mem_iff,hperm.mem_iff]
  refine Cd.exit (Post.then_exit (Post.round_exit (Post.block_exit (Ztq ?_))))
  refine Zm ?_
  have hmap:∀l:List Nat,(l.map fun(n:Nat)=>Value.int .i64 (n:Int))=(l.map fun(n:Nat)=>(n:Int)).map (Value.int .i64):=fun l=>by rw[List.map_map];rfl
  rw[hmap] at own
  refine Zc (Ze Tryz.func107) (sortI_any w5.heap.size c3 zs.length A3 (zs.map fun(n:Nat)=>(n:Int)) _ own (by omega)) ?_
  clear own k0
  rintro e x1 ⟨rfl,own,hb1⟩
  refine⟨_,rfl,?_⟩
  replace bel:=bel.trans hb1
  have hpress:=press (zs:=zs.map fun(n:Nat)=>(n:Int))
  obtain⟨Z,hZ⟩:∃Z,Z=(zs.map fun(n:Nat)=>(n:Int)).mergeSort fun x y=>decide (x≤y):=⟨_,rfl⟩
  rw[←hZ] at own hpress
  refine Zk6 0 3 17 18 19 20 (Ztq ?_)
  refine Zm ?_
  refine Zc (Ze Tryz.func108) (compI_any w5.heap.size c3 zs.length A3 Z _ own (by omega)) ?_
  clear own
  rintro e x2 ⟨v2,rfl,own,hb2⟩
  refine⟨_,rfl,?_⟩
  replace bel:=bel.trans hb2
  refine Za ?_
  refine Zk7 0 2 3 17 18 19 20 (Zt (Cd.ret ?_))
  refine Ze1 ?_
  have hback:((Lib.compact Z).map Int.toNat).map (fun(n:Nat)=>(n:Int))=Lib.compact Z:=by
   rw[List.map_map]
   conv=>rhs;rw[←List.map_id (Lib.compact Z)]
   refine List.map_congr_left fun z hz=> ?_
   obtain⟨n,-,rfl⟩:=List.mem_map.1 ((hpress.2 z).1 hz)
   rfl
  refine⟨v2,(Lib.compact Z).map Int.toNat,rfl,?_,fun n=> ?_,?_,?_⟩
  ·have h1:=hpress.1
   rw[←hback] at h1
   exact(List.pairwise_map.1 h1).imp fun h=>by omega
  ·rw[←hall n]
   constructor
   ·intro hn
    have h1:(n:Int)∈Lib.compact Z:=by rw[←hback];exact List.mem_map.2 ⟨n,hn,rfl⟩
    obtain⟨m,hm,e⟩:=List.mem_map.1 ((hpress.2 _).1 h1)
    obtain rfl:m=n:=by omega
    exact hm
   ·intro hn
    exact List.mem_map.2 ⟨(n:Int),(hpress.2 _).2 (List.mem_map.2 ⟨n,hn,rfl⟩),by simp⟩
  ·rw[hmap,hback,List.length_map]
   exact own.mono hw5
  ·exact bel0.trans (bel.mono hw5)
end Go.Proofs.YtdpipgidpkmolaaGreatDoor
namespace Go.Proofs.YtdpipgidpkmolaaGreatDoor
open Go.RowKit
structure Lf (B:Nat)(w w':World):Prop where
 below:Below (min B w.heap.size) w w'
 keep:∀k t cs,Blk w k t cs→t≠65→t≠100→t≠111→Blk w' k t cs
section
variable {B:Nat} {w w' w'':World}
theorem Lf.refl (B:Nat)(w:World):Lf B w w:=⟨Below.refl _ _,fun _ _ _ h _ _ _=>h⟩
theorem Lf.trans (h:Lf B w w')(k:Lf B w' w''):Lf B w w'':=⟨h.below.trans (k.below.mono (by have:=h.below.size;omega)),fun i t cs hb h1 h2 h3=>k.keep i t cs (h.keep i t cs hb h1 h2 h3) h1 h2 h3⟩
theorem Lf.lf (h:Lf B w w')(k:Lf B w' w''):Lf B w w'':=h.trans k
theorem Lf.of (h:Df B w w'):Lf B w w':=⟨h.below,fun i t cs hb h1 h2 _=>h.keep i t cs hb h1 h2⟩
theorem Lf.df (h:Lf B w w')(k:Df B w' w''):Lf B w w'':=h.trans (Lf.of k)
theorem Lf.step (h:Lf B w w')(k:Below w'.heap.size w' w''):Lf B w w'':=h.df (Df.grow k)
theorem Lf.size (h:Lf B w w'):w.heap.size≤w'.heap.size:=h.below.size
theorem Lf.putX {g:Nat}{T:TypeId}{cur cs:Array Value}(h:Lf B w w')(k:Blk w' g T cur)(p:Put w' w'' g T cs)(ht:(B≤g∧T=111)∨w.heap.size≤g):Lf B w w'':=by
 refine⟨h.below.trans (p.below (by omega) k.lt),fun i t cs' hb h3 h4 h5=>(h.keep i t cs' hb h3 h4 h5).grown p.grown (fun e=> ?_)⟩
 injection e with e
 have hb1:=h.keep i t cs' hb h3 h4 h5
 have hb2:=hb.lt
 rcases ht with ⟨-,h2⟩|h1
 ·have h6:w'.heap[i]? =some (.cells cs' t):=hb1
  have h7:w'.heap[g]? =some (.cells cur T):=k
  rw[←e,h6] at h7
  injection h7 with h7
  injection h7 with _ h7
  exact h5 (h7.trans h2)
 ·omega
theorem Lf.put {B' g:Nat}{T:TypeId}{cur cs:Array Value}(h:Lf B w w')(k:Blk w' g T cur)(p:Put w' w'' g T cs)(e:B'≤g)(ht:(B≤B'∧T=111)∨w.heap.size≤B':=by first|exact .inl ⟨by omega,rfl⟩|exact .inr (by omega)):Lf B w w'':=
 h.putX k p (by rcases ht with ⟨h1,h2⟩|h1;exact .inl ⟨by omega,h2⟩;exact .inr (by omega))
theorem Blk.lf {k:Nat}{t:TypeId}{cs:Array Value}(h:Blk w k t cs)(f:Lf B w w')(h1:t≠65:=by decide)(h2:t≠100:=by decide)(h3:t≠111:=by decide):Blk w' k t cs:=f.keep k t cs h h1 h2 h3
theorem Own.lf {B' size n:Nat}{e:TypeId}{v:Value}{xs:List Value}(h:Own w B' e size v n xs)(f:Lf B w w')(h1:e≠65:=by decide)(h2:e≠100:=by decide)(h3:e≠111:=by decide):Own w' B' e size v n xs:=by
 obtain⟨⟨hl,h0|⟨g,cap,cur,rfl,hB,hg,r⟩⟩⟩:=h
 ·exact⟨⟨hl, .inl h0⟩⟩
 ·exact⟨⟨hl, .inr ⟨g,cap,cur,rfl,hB,f.keep g e cur hg h1 h2 h3,r⟩⟩⟩
theorem Gv.lf (h:Gv w)(f:Lf B w w')(hB:max 2 1 <B:=by omega):Gv w':=h.below f.below (by have:=h.top;omega)
theorem Own.appNe {B1 B2 B3 n1 n2 s1 s2:Nat}{e1 e2:TypeId}{v1 v2:Value}{xs1 xs2:List Value}(h:Own w B1 e1 s1 v1 n1 xs1)(o:Own w B2 e2 s2 v2 n2 xs2)(ha:App w w' B3 v2)(hne:e2≠e1:=by decide):Own w' B1 e1 s1 v1 n1 xs1:=by
 obtain⟨⟨hl,h0|⟨g,cap,cur,rfl,hB,hg,r⟩⟩⟩:=h
 ·exact⟨⟨hl, .inl h0⟩⟩
 ·have hg':Blk w g e1 cur:=hg
  exact⟨⟨hl, .inr ⟨g,cap,cur,rfl,hB,hg'.appNe o ha hne,r⟩⟩⟩
theorem Own.takeN {B1 size n c:Nat}{e:TypeId}{A:Option Addr}{xs:List Value}(h:Own w B1 e size (.slice A n c) n xs)(k:Nat)(hk:k≤n):Own w B1 e size (.slice A k c) k (xs.take (k*size)):=by
 obtain⟨⟨hl,⟨hv,h0⟩|⟨g,cap,cur,hv,hB,hg,h1,h2,h3,h4⟩⟩⟩:=h
 ·injection hv with e1 e2 e3
  subst e1 e2 e3
  obtain rfl:k=0:=by omega
  refine⟨⟨by simp, .inl ⟨rfl,rfl⟩⟩⟩
 ·injection hv with e1 e2 e3
  subst e1 e3
  have hks:k*size≤n*size:=Nat.mul_le_mul_right _ hk
  refine⟨⟨by rw[List.length_take,hl];omega, .inr ⟨g,c,cur,rfl,hB,hg,by omega,h2,h3,?_⟩⟩⟩
  have:=congrArg (List.take (k*size)) h4
  rw[List.take_take,Nat.min_eq_left hks] at this
  exact this
end
section
variable {P:Program} {E:Operand→Option Value} {o:Oper} {w:World} {x y:Operand} {T:TypeId}
theorem addr_zero (ad:Addr):ad.add 0=ad:=by unfold Addr.add;simp
theorem Runs.sliceN {k:IntKind}{A:Option Addr}{n c e s j:Nat}{p:Int}(ho:o.op= .slice T x none (some y) none)(hx:E x=some (.slice A n c))(hy:E y=some (.int k p))(hT:P.underlying T=some (.slice e))(hs:sizeIs P e s=true)(hp:p=(j:Int))(hj:j≤c):Runs P E o w (.slice A j c) w:=fun ρ h=>by
 subst hp
 have he:P.elem T=e:=by simp[Program.elem,hT]
 have hT':P.underlying T=some (.slice (P.elem T)):=by rw[he];exact hT
 obtain⟨i,hi,hsz⟩:=sizeIs_spec hs
 have h1:=run_slice_h (P:=P) (w:=w) T A n c hT' k (j:Int) (by omega) (by omega)
 rw[he,run_sizeOf (h:=hi)] at h1
 unfold execOp;simp only[ho,Option.map_some,Option.map_none];rw[h _ _ hx,h _ _ hy]
 simp only[Sem.run_bind,run_sliceAt_slice (h:=hT'),h1,Result.andThen_ok]
 have h2:sliced A 0 j c (P.cellsOf e)= .slice A j c:=by
  unfold sliced
  congr 1
  split
  ·rfl
  ·cases A<;>simp[addr_zero]
 rw[Int.toNat_natCast,h2]
 rfl
end
theorem Own.cap {w:World}{B1 size n c:Nat}{e:TypeId}{A:Option Addr}{xs:List Value}(h:Own w B1 e size (.slice A n c) n xs):n≤c:=by
 obtain⟨⟨hl,⟨hv,h0⟩|⟨g,cap,cur,hv,hB,hg,h1,h2,h3,h4⟩⟩⟩:=h
 ·injection hv with e1 e2 e3
  omega
 ·injection hv with e1 e2 e3
  omega
theorem DkR.size {w:World}{B g m:Nat}{D:Dk}{l:List (List Nat × Nat)}{F:Nat→Fil}{c1 c2:Int}(h:DkR w B g D m l F c1 c2):B≤w.heap.size:=Nat.le_trans h.hB (Nat.le_of_lt h.k.lt)
theorem DkAt.size {w:World}{B g:Nat}{D:Dk}(h:DkAt w B g D):B≤w.heap.size:=by
 obtain⟨m,l,F,c1,c2,h⟩:=h
 exact h.size
theorem DkAt.ok {w:World}{B g:Nat}{D:Dk}(h:DkAt w B g D):D.ok:=by
 obtain⟨m,l,F,c1,c2,h⟩:=h
 exact h.ok
end Go.Proofs.YtdpipgidpkmolaaGreatDoor
namespace Go.Proofs.YtdpipgidpkmolaaGreatDoor
open Go.RowKit
def logK:List Nat:=46::logB
def ackK:List Nat:=46::ackB
def newK:List Nat:=46::newB
def Dk.dropE (D:Dk)(nm:List Nat):Int:=if D.thereE [nm] nm=7 then 0 else D.thereE [nm] nm
def Dk.note (D:Dk)(ack:List Nat)(c:Nat):Dk × Int:=
 if D.appendE ack (markN c)≠0 then(D.append ack (markN c),D.appendE ack (markN c))
 else((D.append ack (markN c)).sync ack,(D.append ack (markN c)).thereE [ack] ack)
def Dk.fresh (D:Dk)(fresh ack:List Nat)(c:Nat):Dk × Int:=
 if D.appendE fresh (markN c)≠0 then(D.append fresh (markN c),D.appendE fresh (markN c))
 else if(D.append fresh (markN c)).thereE [fresh] fresh≠0 then((D.append fresh (markN c)).sync fresh,(D.append fresh (markN c)).thereE [fresh] fresh)
 else(((D.append fresh (markN c)).sync fresh).rename fresh ack,((D.append fresh (markN c)).sync fresh).thereE [fresh,ack] fresh)
def Dk.again (D:Dk)(nm:List Nat)(n cnt:Nat):Dk × Int:=
 if D.dropE (fileN nm n newK)≠0 then(D.delete (fileN nm n newK),D.dropE (fileN nm n newK))
 else if 200≤(D.delete (fileN nm n newK)).files.length then
  if(D.delete (fileN nm n newK)).dropE (fileN nm n ackK)≠0 then((D.delete (fileN nm n newK)).delete (fileN nm n ackK),(D.delete (fileN nm n newK)).dropE (fileN nm n ackK))
  else((D.delete (fileN nm n newK)).delete (fileN nm n ackK)).note (fileN nm n ackK) (4294967296+cnt)
 else(D.delete (fileN nm n newK)).fresh (fileN nm n newK) (fileN nm n ackK) (4294967296+cnt)
def Dk.datN (D:Dk)(nm:List Nat):List Nat:=((D.get nm).map (·.data)).getD []
def segN (D:Dk)(nm:List Nat)(n:Nat):Dk × Int × List (List Nat):=
 if(allN (D.datN (fileN nm n logK))).1.length<(countN (D.datN (fileN nm n ackK))).1 then(D,9,[])
 else if(countN (D.datN (fileN nm n ackK))).2=true then(D,0,(allN (D.datN (fileN nm n logK))).1.take (countN (D.datN (fileN nm n ackK))).1)
 else if(countN (D.datN (fileN nm n ackK))).1<(allN (D.datN (fileN nm n logK))).1.length∨(allN (D.datN (fileN nm n logK))).2.1<(D.datN (fileN nm n logK)).length then
  ((D.again nm n (allN (D.datN (fileN nm n logK))).1.length).1,(D.again nm n (allN (D.datN (fileN nm n logK))).1.length).2,(allN (D.datN (fileN nm n logK))).1)
 else(D,0,(allN (D.datN (fileN nm n logK))).1)
theorem numsL_ex (nm:List Nat)(names:List (List Nat)):∃l:List Nat,l.Pairwise (· < ·)∧l.length≤1000000∧∀n,n∈l↔NumIn nm names n:=by
 classical
 obtain⟨M,hM⟩:∃M,M=1000000:=⟨_,rfl⟩
 refine⟨(List.range M).filter fun n=>decide (NumIn nm names n),List.Pairwise.filter _ List.pairwise_lt_range,Nat.le_trans (List.length_filter_le _ _) (by rw[List.length_range];omega),fun n=> ?_⟩
 rw[List.mem_filter,List.mem_range,decide_eq_true_eq]
 exact⟨fun h=>h.2,fun h=>⟨by have:=h.1;omega,h⟩⟩
noncomputable def numsL (nm:List Nat) (names:List (List Nat)):List Nat:=Classical.choose (numsL_ex nm names)
theorem numsL_mem {nm:List Nat}{names:List (List Nat)}{n:Nat}:n∈numsL nm names↔NumIn nm names n:=(Classical.choose_spec (numsL_ex nm names)).2.2 n
theorem numsL_inc {nm:List Nat}{names:List (List Nat)}:(numsL nm names).Pairwise (· < ·):=(Classical.choose_spec (numsL_ex nm names)).1
theorem numsL_len {nm:List Nat}{names:List (List Nat)}:(numsL nm names).length≤1000000:=(Classical.choose_spec (numsL_ex nm names)).2.1
theorem inc_eq:∀ {a b:List Nat},a.Pairwise (· < ·)→b.Pairwise (· < ·)→(∀n,n∈a↔n∈b)→a=b
 | [],[],_,_,_=>rfl
 | [],y::b,_,_,h=>absurd ((h y).2 List.mem_cons_self) (by simp)
 |x::a,[],_,_,h=>absurd ((h x).1 List.mem_cons_self) (by simp)
 |x::a,y::b,ha,hb,h=>by
  rw[List.pairwise_cons] at ha hb
  have e:x=y:=by
   rcases List.mem_cons.1 ((h x).1 List.mem_cons_self) with h1|h1
   ·exact h1
   ·rcases List.mem_cons.1 ((h y).2 List.mem_cons_self) with h2|h2
    ·exact h2.symm
    ·have:=hb.1 x h1
     have:=ha.1 y h2
     omega
  subst e
  congr 1
  refine inc_eq ha.2 hb.2 fun n=>⟨fun hn=> ?_,fun hn=> ?_⟩
  ·rcases List.mem_cons.1 ((h n).1 (List.mem_cons_of_mem _ hn)) with h1|h1
   ·have:=ha.1 n hn;omega
   ·exact h1
  ·rcases List.mem_cons.1 ((h n).2 (List.mem_cons_of_mem _ hn)) with h1|h1
   ·have:=hb.1 n hn;omega
   ·exact h1
def openGo (nm:List Nat):List Nat→Dk→List (Nat × List Nat)→Nat→Dk × Int × List (Nat × List Nat) × Nat
 | [],D,acc,num=>(D,0,acc,num)
 |n::r,D,acc,_=>if(segN D nm n).2.1≠0 then((segN D nm n).1,(segN D nm n).2.1,[],0) else openGo nm r (segN D nm n).1 (acc++(segN D nm n).2.2.map fun s=>(n,s)) (n+1)
noncomputable def openW (D:Dk) (nm:List Nat):Dk × Int × List (Nat × List Nat) × Nat:=openGo nm (numsL nm (D.files.map (·.1))) D [] 0
theorem thereE_off {D:Dk}{ns:List (List Nat)}{nm:List Nat}(h:D.thereE ns nm=0∨D.thereE ns nm=7):D.tick.off=false:=by
 have hb:D.beginE ns=0:=by
  unfold Dk.thereE at h
  split at h
  ·rename_i h1
   unfold Dk.beginE at h h1
   split at h
   ·rcases h with h|h<;>cases h
   ·split at h
    ·rename_i h2 h3;rw[if_neg h2,if_pos h3] at h1;exact absurd rfl h1
    ·rcases h with h|h<;>cases h
  ·rename_i h1;omega
 exact(beginE_zero hb).1
theorem sync_off (D:Dk)(nm:List Nat):(D.sync nm).off=D.tick.off:=by
 unfold Dk.sync
 split
 ·split<;>rfl
 ·rfl
theorem rename_off (D:Dk)(a b:List Nat):(D.rename a b).off=D.tick.off:=by
 unfold Dk.rename
 split
 ·rfl
 ·split<;>rfl
theorem note_off {D:Dk}{ack:List Nat}{c:Nat}(h:(D.note ack c).2=0):(D.note ack c).1.off=false:=by
 unfold Dk.note at h⊢
 split at h
 ·rename_i h1;exact absurd h h1
 ·rename_i h1
  rw[if_neg h1,sync_off]
  exact thereE_off (.inl h)
theorem fresh_off {D:Dk}{a b:List Nat}{c:Nat}(h:(D.fresh a b c).2=0):(D.fresh a b c).1.off=false:=by
 unfold Dk.fresh at h⊢
 split at h
 ·rename_i h1;exact absurd h h1
 ·rename_i h1
  rw[if_neg h1]
  split at h
  ·rename_i h2;exact absurd h h2
  ·rename_i h2
   rw[if_neg h2,rename_off]
   exact thereE_off (.inl h)
theorem again_off {D:Dk}{nm:List Nat}{n c:Nat}(h:(D.again nm n c).2=0):(D.again nm n c).1.off=false:=by
 unfold Dk.again at h⊢
 split at h
 ·rename_i h1;exact absurd h h1
 ·rename_i h1
  rw[if_neg h1]
  split at h
  ·rename_i h2
   rw[if_pos h2]
   split at h
   ·rename_i h3;exact absurd h h3
   ·rename_i h3
    rw[if_neg h3]
    exact note_off h
  ·rename_i h2
   rw[if_neg h2]
   exact fresh_off h
theorem segN_off {D:Dk}{nm:List Nat}{n:Nat}(h0:D.off=false)(h:(segN D nm n).2.1=0):(segN D nm n).1.off=false:=by
 unfold segN at h⊢
 split at h
 ·cases h
 rename_i h1
 rw[if_neg h1]
 split at h
 ·rename_i h2
  rw[if_pos h2]
  exact h0
 rename_i h2
 rw[if_neg h2]
 split at h
 ·rename_i h3
  rw[if_pos h3]
  exact again_off h
 ·rename_i h3
  rw[if_neg h3]
  exact h0
end Go.Proofs.YtdpipgidpkmolaaGreatDoor
namespace Go.Proofs.YtdpipgidpkmolaaGreatDoor
open Go.RowKit
theorem fileN_byt {nm k:List Nat}(n:Nat)(hn:Byt nm)(hk:Byt k):Byt (fileN nm n k):=by
 unfold fileN
 refine Byt.app (Byt.app (Byt.app hn (by intro d hd;simp at hd;omega)) (fun c hc=> ?_)) hk
 have:=dig6_lt n c hc
 omega
theorem fileN_len {nm k:List Nat}{n:Nat}(hn:n≤999999):(fileN nm n k).length=nm.length+7+k.length:=by
 unfold fileN
 have:=dig6_len hn
 simp only[List.length_append,List.length_singleton]
 omega
theorem logK_byt:Byt logK:=by intro d hd;revert d;decide
theorem ackK_byt:Byt ackK:=by intro d hd;revert d;decide
theorem newK_byt:Byt newK:=by intro d hd;revert d;decide
theorem wread_any (B g0 gd:Nat)(D:Dk)(nm x:List Nat)(num count size:Int)(broken:Bool)(w:World)(k0:Blk w g0 111 (wlCs gd nm num count size broken))(dk:DkAt w B gd D)(hoff:D.off=false)(hx:Byt x):
  Calls Tryz.prog 109 #[.pointer (some ⟨g0,0,none⟩), .string (strOf x)] w fun e w'=>e= .returned (.tuple #[.string (strOf (D.datN x)), .int .i64 0])∧Grow w w':=by
 have bel:=Below.refl w.heap.size w
 have hs:D.readS x=D.datN x:=by unfold Dk.readS Dk.datN;rw[if_neg (by simp[hoff])]
 have he:D.readE x=if(D.get x).isSome then 0 else 7:=by unfold Dk.readE;rw[if_neg (by simp[hoff])]
 refine Zs 21 Tryz.func109 ?_
 refine Zsr ?_
 refine Za ?_
 refine Za ?_
 refine Zk4 0 1 4 5 (Ztq ?_)
 refine Zm ?_
 refine Zv (Runs.nilCheck rfl rfl) ?_
 refine Zf 0 Tryz.underlying111 ?_
 refine ZL Tryz.underlying26 k0 ?_
 refine Zm ?_
 refine Zc (Ze Tryz.func21) (read_d_any B gd D x _ dk hx) ?_
 rw[hs,he]
 rintro e w5 ⟨rfl,hb5⟩
 refine⟨_,rfl,?_⟩
 replace bel:=bel.step hb5
 replace k0:=k0.step hb5
 by_cases h0:(D.get x).isSome=true
 ·rw[if_pos h0]
  refine Zm ?_
  refine Zx ?_
  refine Zx ?_
  refine Za ?_
  refine Za ?_
  refine Zk6 0 1 4 5 6 7 (Zts (Zsr ?_))
  refine Zm ?_
  refine Zqi ?_
  refine Zk7 0 1 4 5 6 7 18 (Zt ?_)
  refine Cd.condF rfl rfl ?_
  refine Cd.skip (Ztq ?_)
  refine Zm ?_
  refine Zm ?_
  refine Za ?_
  refine Za ?_
  refine Zk7 0 1 4 5 6 7 18 (Zt (Cd.ret ?_))
  refine Ze2 ?_
  exact⟨rfl,bel⟩
 ·have h1:D.datN x=[]:=by
   unfold Dk.datN
   cases e:D.get x with
   |none=>rfl
   |some f=>rw[e] at h0;exact absurd rfl h0
  rw[if_neg h0,h1]
  refine Zm ?_
  refine Zx ?_
  refine Zx ?_
  refine Za ?_
  refine Za ?_
  refine Zk6 0 1 4 5 6 7 (Zts (Zsr ?_))
  refine Zm ?_
  refine Zqi ?_
  refine Zk7 0 1 4 5 6 7 18 (Zt ?_)
  refine Cd.condT rfl rfl ?_
  refine Zsr ?_
  refine Za ?_
  refine Za ?_
  refine Zk7 0 1 4 5 6 7 18 (Zt (Cd.ret (Post.then_ret ?_)))
  refine Ze2 ?_
  exact⟨rfl,bel⟩
theorem wdrop_any (B g0 gd:Nat)(D:Dk)(nm x:List Nat)(num count size:Int)(broken:Bool)(w:World)(k0:Blk w g0 111 (wlCs gd nm num count size broken))(dk:DkAt w B gd D)(hx:Byt x)(hxl:x.length≤1000):
  Calls Tryz.prog 153 #[.pointer (some ⟨g0,0,none⟩), .string (strOf x)] w fun e w'=>e= .returned (.int .i64 (D.dropE x))∧DkAt w' B gd (D.delete x)∧Df B w w':=by
 have df:=Df.refl B w
 refine Zs 15 Tryz.func153 ?_
 refine Zsr ?_
 refine Za ?_
 refine Zk3 0 1 4 (Ztq ?_)
 refine Zm ?_
 refine Zv (Runs.nilCheck rfl rfl) ?_
 refine Zf 0 Tryz.underlying111 ?_
 refine ZL Tryz.underlying26 k0 ?_
 refine Zm ?_
 refine Zc (Ze Tryz.func46) (delete_d_any B gd D x _ dk hx (by omega)) ?_
 clear dk
 rintro e w1 ⟨rfl,dk,fw1⟩
 refine⟨_,rfl,?_⟩
 replace df:=df.df fw1
 replace k0:=k0.df fw1
 refine Za ?_
 refine Zk4 0 1 4 5 (Zts (Zsr ?_))
 refine Zm ?_
 refine Zqi ?_
 refine Zk5 0 1 4 5 13 (Zt ?_)
 unfold Dk.dropE
 refine Cd.cond rfl (fun h=> ?_) (fun h=> ?_)
 ·have h:D.thereE [x] x=7:=by simpa using h
  rw[if_pos h]
  refine Zsr ?_
  refine Za ?_
  refine Zk5 0 1 4 5 13 (Zt (Cd.ret (Post.then_ret ?_)))
  refine Ze1 ?_
  exact⟨rfl,dk,df⟩
 ·have h:¬D.thereE [x] x=7:=by simpa using h
  rw[if_neg h]
  refine Cd.skip (Ztq ?_)
  refine Zm ?_
  refine Za ?_
  refine Zk5 0 1 4 5 13 (Zt (Cd.ret ?_))
  refine Ze1 ?_
  exact⟨rfl,dk,df⟩
theorem note_any (B g0 gd n c:Nat)(D:Dk)(nm:List Nat)(num count size:Int)(broken:Bool)(w:World)(gv:Gv w)(hgB:max 2 1 <B)(k0:Blk w g0 111 (wlCs gd nm num count size broken))(dk:DkAt w B gd D)(hn:n≤999999)(hnm:Byt nm)(hnl:nm.length≤8)(hc:c≤9000000000):
  Calls Tryz.prog 131 #[.pointer (some ⟨g0,0,none⟩), .int .i64 (n:Int), .int .i64 (c:Int)] w fun e w'=>e= .returned (.int .i64 (D.note (fileN nm n ackK) c).2)∧DkAt w' B gd (D.note (fileN nm n ackK) c).1∧Df B w w':=by
 have df:=Df.refl B w
 have hab:=fileN_byt n hnm ackK_byt
 have hal:(fileN nm n ackK).length≤1000:=by rw[fileN_len hn];show nm.length+7+4≤_;omega
 refine Zs 29 Tryz.func131 ?_
 refine Zsr ?_
 refine Za ?_
 refine Zk4 0 1 2 6 (Zts (Cd.seq ?_))
 refine Zdr 9 ?_
 intro w1 hw1 zw1
 replace df:=df.step hw1
 replace dk:=dk.step hw1
 replace k0:=k0.step hw1
 replace gv:=gv.step hw1
 have zlt:=k0.lt
 refine Zdm ?_
 refine Zd (fun w hG=>Runs.nilCheck rfl rfl) ?_
 refine Zdf 0 Tryz.underlying111 ?_
 refine ZdL Tryz.underlying26 k0 ?_
 refine Zdm ?_
 refine Zdm ?_
 refine Dr.callV rfl (fun w=>Ze Tryz.func106) rfl (fun w hG=>file_any g0 gd n nm ackK num count size broken w (gv.step hG) (k0.step hG) hn (by omega) (by decide)) ?_
 refine Zdm ?_
 refine Dr.callV rfl (fun w=>Ze Tryz.func152) rfl (fun w hG=>marked_any c w (gv.step hG).nib (by omega)) ?_
 refine FinX.done (F':=[(0,_),(1,_),(2,_),(6,_),(11,_),(14,_),(16,_)]) rfl ⟨rfl,rfl,rfl,rfl,rfl,rfl,rfl,trivial⟩ ?_
 intro w2 hw2 fw2
 replace df:=df.step hw2
 replace dk:=dk.step hw2
 replace k0:=k0.step hw2
 replace gv:=gv.step hw2
 obtain⟨ack,hack⟩:∃x,x=fileN nm n ackK:=⟨_,rfl⟩
 rw[←hack] at hab hal
 rw[←hack]
 refine Zc (Ze Tryz.func95) (append_d_any B gd D ack (markN c) _ dk hab (markN_lt c) (by omega) (by rw[markN_len];omega)) ?_
 clear dk
 rintro e w3 ⟨rfl,dk,fw3⟩
 refine⟨_,rfl,?_⟩
 replace df:=df.df fw3
 replace k0:=k0.df fw3
 replace gv:=gv.df fw3
 refine Za ?_
 refine Zk5 0 1 2 6 7 (Ztq ?_)
 refine Zm ?_
 refine Zni ?_
 refine Zk6 0 1 2 6 7 19 (Zt ?_)
 refine Cd.cond rfl (fun h=> ?_) (fun h=> ?_)
 ·have h:D.appendE ack (markN c)≠0:=by simpa using h
  have hN:D.note ack c=(D.append ack (markN c),D.appendE ack (markN c)):=by unfold Dk.note;rw[if_pos h]
  rw[hN]
  refine Zsr ?_
  refine Zm ?_
  refine Za ?_
  refine Zk6 0 1 2 6 7 19 (Zt (Cd.ret (Post.then_ret ?_)))
  refine Ze1 ?_
  exact⟨rfl,dk,df⟩
 have h:¬(D.appendE ack (markN c)≠0):=by simpa using h
 have hN:D.note ack c=((D.append ack (markN c)).sync ack,(D.append ack (markN c)).thereE [ack] ack):=by unfold Dk.note;rw[if_neg h]
 rw[hN]
 refine Cd.skip (Zts ?_)
 refine Zdr 7 ?_
 intro w4 hw4 zw4
 replace df:=df.step hw4
 replace dk:=dk.step hw4
 replace k0:=k0.step hw4
 replace gv:=gv.step hw4
 have zlt:=k0.lt
 refine Zdm ?_
 refine Zd (fun w hG=>Runs.nilCheck rfl rfl) ?_
 refine Zdf 0 Tryz.underlying111 ?_
 refine ZdL Tryz.underlying26 k0 ?_
 refine Zdm ?_
 refine Zdm ?_
 refine Dr.callV rfl (fun w=>Ze Tryz.func106) rfl (fun w hG=>file_any g0 gd n nm ackK num count size broken w (gv.step hG) (k0.step hG) hn (by omega) (by decide)) ?_
 refine FinX.done (F':=[(0,_),(1,_),(2,_),(6,_),(7,_),(19,_),(24,_),(27,_)]) rfl ⟨rfl,rfl,rfl,rfl,rfl,rfl,rfl,rfl,trivial⟩ ?_
 intro w5 hw5 fw5
 replace df:=df.step hw5
 replace dk:=dk.step hw5
 replace k0:=k0.step hw5
 replace gv:=gv.step hw5
 rw[←hack]
 refine Zc (Ze Tryz.func96) (sync_any B gd (D.append ack (markN c)) ack _ dk hab (by omega)) ?_
 clear dk
 rintro e w6 ⟨rfl,dk,fw6⟩
 refine⟨_,rfl,?_⟩
 replace df:=df.df fw6
 replace k0:=k0.df fw6
 replace gv:=gv.df fw6
 refine Za ?_
 refine Zk6 0 1 2 6 7 19 (Zt (Cd.ret ?_))
 refine Ze1 ?_
 exact⟨rfl,dk,df⟩
theorem again_any (B g0 gd n cnt:Nat)(D:Dk)(nm:List Nat)(num count size:Int)(broken:Bool)(w:World)(gv:Gv w)(hgB:max 2 1 <B)(k0:Blk w g0 111 (wlCs gd nm num count size broken))(dk:DkAt w B gd D)(hn:n≤999999)(hnm:Byt nm)(hnl:nm.length≤8)(hc:cnt≤1000000):
  Calls Tryz.prog 112 #[.pointer (some ⟨g0,0,none⟩), .int .i64 (n:Int), .int .i64 (cnt:Int)] w fun e w'=>e= .returned (.int .i64 (D.again nm n cnt).2)∧DkAt w' B gd (D.again nm n cnt).1∧Df B w w':=by
 have df:=Df.refl B w
 have hab:=fileN_byt n hnm ackK_byt
 have hal:(fileN nm n ackK).length≤1000:=by rw[fileN_len hn];show nm.length+7+4≤_;omega
 have hfb:=fileN_byt n hnm newK_byt
 have hfl:(fileN nm n newK).length≤1000:=by rw[fileN_len hn];show nm.length+7+4≤_;omega
 unfold Dk.again
 refine Zs 71 Tryz.func112 ?_
 refine Zsr ?_
 refine Za ?_
 refine Zk4 0 1 2 6 (Ztq ?_)
 refine Zm ?_
 refine Zm ?_
 refine Zc (Ze Tryz.func106) (file_any g0 gd n nm ackK num count size broken _ gv k0 hn (by omega) (by decide)) ?_
 rintro e w5 ⟨rfl,hb5⟩
 refine⟨_,rfl,?_⟩
 replace df:=df.step hb5
 replace dk:=dk.step hb5
 replace k0:=k0.step hb5
 replace gv:=gv.step hb5
 refine Zm ?_
 refine Zm ?_
 refine Zc (Ze Tryz.func106) (file_any g0 gd n nm newK num count size broken _ gv k0 hn (by omega) (by decide)) ?_
 rintro e w6 ⟨rfl,hb6⟩
 refine⟨_,rfl,?_⟩
 replace df:=df.step hb6
 replace dk:=dk.step hb6
 replace k0:=k0.step hb6
 replace gv:=gv.step hb6
 refine Za ?_
 refine Za ?_
 refine Zk6 0 1 2 6 7 8 (Zts (Zsr ?_))
 refine Zm ?_
 refine Zm ?_
 obtain⟨ack,hack⟩:∃x,x=fileN nm n ackK:=⟨_,rfl⟩
 obtain⟨fr,hfr⟩:∃x,x=fileN nm n newK:=⟨_,rfl⟩
 rw[←hack] at hab hal
 rw[←hfr] at hfb hfl
 rw[←hack,←hfr]
 refine Zc (Ze Tryz.func153) (wdrop_any B g0 gd D nm fr num count size broken _ k0 dk hfb hfl) ?_
 clear dk
 rintro e w1 ⟨rfl,dk,fw1⟩
 refine⟨_,rfl,?_⟩
 replace df:=df.df fw1
 replace k0:=k0.df fw1
 replace gv:=gv.df fw1
 refine Za ?_
 refine Zk7 0 1 2 6 7 8 9 (Ztq ?_)
 refine Zm ?_
 refine Zni ?_
 refine Zk8 0 1 2 6 7 8 9 23 (Zt ?_)
 refine Cd.cond rfl (fun h=> ?_) (fun h=> ?_)
 ·have h:D.dropE fr≠0:=by simpa using h
  rw[if_pos h]
  refine Zsr ?_
  refine Zm ?_
  refine Za ?_
  refine Zk8 0 1 2 6 7 8 9 23 (Zt (Cd.ret (Post.then_ret ?_)))
  refine Ze1 ?_
  exact⟨rfl,dk,df⟩
 have h:¬(D.dropE fr≠0):=by simpa using h
 rw[if_neg h]
 obtain⟨D1,hD1⟩:∃x,x=D.delete fr:=⟨_,rfl⟩
 rw[←hD1] at dk
 rw[←hD1]
 refine Cd.skip (Zts (Zsr ?_))
 refine Zm ?_
 refine Zv (Runs.nilCheck rfl rfl) ?_
 refine Zf 0 Tryz.underlying111 ?_
 refine ZL Tryz.underlying26 k0 ?_
 refine Zc (Ze Tryz.func19) (names_any B gd D1 _ dk) ?_
 rintro e w7 ⟨v,rfl,own,hb7⟩
 refine⟨_,rfl,?_⟩
 obtain⟨A,c,rfl,-⟩:=own.reads
 clear own
 replace df:=df.step hb7
 replace dk:=dk.step hb7
 replace k0:=k0.step hb7
 replace gv:=gv.step hb7
 refine Zv (Runs.len rfl rfl Tryz.underlying54) ?_
 refine Zge ?_
 refine Zk9 0 1 2 6 7 8 9 23 31 (Zt ?_)
 refine Cd.cond rfl (fun h=> ?_) (fun h=> ?_)
 ·have h:200≤D1.files.length:=by
   have h':(200:Int)≤(D1.files.length:Int):=by simpa using h
   omega
  rw[if_pos h]
  refine Cd.seq (Zsr ?_)
  refine Zm ?_
  refine Zm ?_
  refine Zc (Ze Tryz.func153) (wdrop_any B g0 gd D1 nm ack num count size broken _ k0 dk hab hal) ?_
  clear dk
  rintro e w2 ⟨rfl,dk,fw2⟩
  refine⟨_,rfl,?_⟩
  replace df:=df.df fw2
  replace k0:=k0.df fw2
  replace gv:=gv.df fw2
  refine Za ?_
  refine Zk10 0 1 2 6 7 8 9 10 23 31 (Ztq ?_)
  refine Zm ?_
  refine Zni ?_
  refine Zk11 0 1 2 6 7 8 9 10 23 31 36 (Zt ?_)
  refine Cd.cond rfl (fun h=> ?_) (fun h=> ?_)
  ·have h:D1.dropE ack≠0:=by simpa using h
   rw[if_pos h]
   refine Zsr ?_
   refine Zm ?_
   refine Za ?_
   refine Zk11 0 1 2 6 7 8 9 10 23 31 36 (Zt (Cd.ret (Post.then_ret (Post.then_ret ?_))))
   refine Ze1 ?_
   exact⟨rfl,dk,df⟩
  have h:¬(D1.dropE ack≠0):=by simpa using h
  rw[if_neg h]
  refine Cd.skip (Ztq ?_)
  refine Zm ?_
  refine Zm ?_
  refine Zm ?_
  refine Za_ ?_
  have e41:(4294967296:Int)+(cnt:Int)=((4294967296+cnt:Nat):Int):=by omega
  rw[e41]
  rw[hack]
  rw[hack] at dk
  refine Zc (Ze Tryz.func131) (note_any B g0 gd n (4294967296+cnt) (D1.delete (fileN nm n ackK)) nm num count size broken _ gv hgB k0 dk hn hnm hnl (by omega)) ?_
  clear dk
  rintro e w3 ⟨rfl,dk,fw3⟩
  refine⟨_,rfl,?_⟩
  replace df:=df.df fw3
  replace k0:=k0.df fw3
  replace gv:=gv.df fw3
  refine Za ?_
  refine Zk11 0 1 2 6 7 8 9 10 23 31 36 (Zt (Cd.ret (Post.then_ret ?_)))
  refine Ze1 ?_
  exact⟨rfl,dk,df⟩
 have h:¬(200≤D1.files.length):=by
  have h':¬((200:Int)≤(D1.files.length:Int)):=by simpa using h
  omega
 rw[if_neg h]
 unfold Dk.fresh
 have e41:(4294967296:Int)+(cnt:Int)=((4294967296+cnt:Nat):Int):=by omega
 obtain⟨M,hM⟩:∃x,x=4294967296+cnt:=⟨_,rfl⟩
 rw[←hM] at e41
 rw[←hM]
 refine Cd.skip (Zts (Cd.seq ?_))
 refine Zdr 8 ?_
 intro w2 hw2 zw2
 replace df:=df.step hw2
 replace dk:=dk.step hw2
 replace k0:=k0.step hw2
 replace gv:=gv.step hw2
 have zlt:=k0.lt
 refine Zdm ?_
 refine Zd (fun w hG=>Runs.nilCheck rfl rfl) ?_
 refine Zdf 0 Tryz.underlying111 ?_
 refine ZdL Tryz.underlying26 k0 ?_
 refine Zdm ?_
 refine Zdm ?_
 refine Zd (fun w hG=>Runs.addI rfl rfl rfl (by omega) (by omega)) ?_
 rw[e41]
 refine Dr.callV rfl (fun w=>Ze Tryz.func152) rfl (fun w hG=>marked_any M w (gv.step hG).nib (by omega)) ?_
 refine FinX.done (F':=[(0,_),(1,_),(2,_),(6,_),(7,_),(8,_),(9,_),(23,_),(31,_),(46,_),(47,_),(50,_)]) rfl ⟨rfl,rfl,rfl,rfl,rfl,rfl,rfl,rfl,rfl,rfl,rfl,rfl,trivial⟩ ?_
 intro w3 hw3 fw3
 replace df:=df.step hw3
 replace dk:=dk.step hw3
 replace k0:=k0.step hw3
 replace gv:=gv.step hw3
 refine Zc (Ze Tryz.func95) (append_d_any B gd D1 fr (markN M) _ dk hfb (markN_lt M) (by omega) (by rw[markN_len];omega)) ?_
 clear dk
 rintro e w4 ⟨rfl,dk,fw4⟩
 refine⟨_,rfl,?_⟩
 replace df:=df.df fw4
 replace k0:=k0.df fw4
 replace gv:=gv.df fw4
 refine Za ?_
 refine Zk10 0 1 2 6 7 8 9 11 23 31 (Ztq ?_)
 refine Zm ?_
 refine Zni ?_
 refine Zk11 0 1 2 6 7 8 9 11 23 31 53 (Zt ?_)
 refine Cd.cond rfl (fun h=> ?_) (fun h=> ?_)
 ·have h:D1.appendE fr (markN M)≠0:=by simpa using h
  rw[if_pos h]
  refine Zsr ?_
  refine Zm ?_
  refine Za ?_
  refine Zk11 0 1 2 6 7 8 9 11 23 31 53 (Zt (Cd.ret (Post.then_ret ?_)))
  refine Ze1 ?_
  exact⟨rfl,dk,df⟩
 have h:¬(D1.appendE fr (markN M)≠0):=by simpa using h
 rw[if_neg h]
 obtain⟨D2,hD2⟩:∃x,x=D1.append fr (markN M):=⟨_,rfl⟩
 rw[←hD2] at dk
 rw[←hD2]
 refine Cd.skip (Zts (Zsr ?_))
 refine Zm ?_
 refine Zv (Runs.nilCheck rfl rfl) ?_
 refine Zf 0 Tryz.underlying111 ?_
 refine ZL Tryz.underlying26 k0 ?_
 refine Zm ?_
 refine Zc (Ze Tryz.func96) (sync_any B gd D2 fr _ dk hfb (by omega)) ?_
 clear dk
 rintro e w5 ⟨rfl,dk,fw5⟩
 refine⟨_,rfl,?_⟩
 replace df:=df.df fw5
 replace k0:=k0.df fw5
 replace gv:=gv.df fw5
 refine Za ?_
 refine Zk12 0 1 2 6 7 8 9 11 12 23 31 53 (Ztq ?_)
 refine Zm ?_
 refine Zni ?_
 refine Zk13 0 1 2 6 7 8 9 11 12 23 31 53 62 (Zt ?_)
 refine Cd.cond rfl (fun h=> ?_) (fun h=> ?_)
 ·have h:D2.thereE [fr] fr≠0:=by simpa using h
  rw[if_pos h]
  refine Zsr ?_
  refine Zm ?_
  refine Za ?_
  refine Zk13 0 1 2 6 7 8 9 11 12 23 31 53 62 (Zt (Cd.ret (Post.then_ret ?_)))
  refine Ze1 ?_
  exact⟨rfl,dk,df⟩
 have h:¬(D2.thereE [fr] fr≠0):=by simpa using h
 rw[if_neg h]
 refine Cd.skip (Ztq ?_)
 refine Zm ?_
 refine Zv (Runs.nilCheck rfl rfl) ?_
 refine Zf 0 Tryz.underlying111 ?_
 refine ZL Tryz.underlying26 k0 ?_
 refine Zm ?_
 refine Zm ?_
 refine Zc (Ze Tryz.func97) (rename_d_any B gd (D2.sync fr) fr ack _ dk hfb hab (by omega) (by omega)) ?_
 clear dk
 rintro e w6 ⟨rfl,dk,fw6⟩
 refine⟨_,rfl,?_⟩
 replace df:=df.df fw6
 replace k0:=k0.df fw6
 replace gv:=gv.df fw6
 refine Za ?_
 refine Zk13 0 1 2 6 7 8 9 11 12 23 31 53 62 (Zt (Cd.ret ?_))
 refine Ze1 ?_
 exact⟨rfl,dk,df⟩
end Go.Proofs.YtdpipgidpkmolaaGreatDoor
namespace Go.Proofs.YtdpipgidpkmolaaGreatDoor
open Go.RowKit
theorem datN_ok {D:Dk}(h:D.ok)(x:List Nat):Byt (D.datN x)∧(D.datN x).length≤1048576:=by
 unfold Dk.datN
 cases e:D.get x with
 |none=>exact⟨(by intro d hd;cases hd),(by simp)⟩
 |some f=>exact⟨(h.fil _ (get_mem e)).1.1,(h.fil _ (get_mem e)).1.2.2⟩
set_option maxHeartbeats 2000000 in
theorem segment_any (B g0 gd n:Nat)(D:Dk)(nm:List Nat)(num count size:Int)(broken:Bool)(w:World)(gv:Gv w)(hgB:max 2 1 <B)(k0:Blk w g0 111 (wlCs gd nm num count size broken))(dk:DkAt w B gd D)(hoff:D.off=false)(hn:n≤999999)(hnm:Byt nm)(hnl:nm.length≤8):
  Calls Tryz.prog 57 #[.pointer (some ⟨g0,0,none⟩), .int .i64 (n:Int)] w fun e w'=>∃v,e= .returned (.tuple #[v, .int .i64 (segN D nm n).2.1])∧Own w' w.heap.size 9 1 v (segN D nm n).2.2.length (Ts (segN D nm n).2.2)∧DkAt w' B gd (segN D nm n).1∧Df B w w':=by
 have df:=Df.refl B w
 have hlb:=fileN_byt n hnm logK_byt
 have hab:=fileN_byt n hnm ackK_byt
 have hsl:=datN_ok dk.ok (fileN nm n logK)
 have htl:=datN_ok dk.ok (fileN nm n ackK)
 unfold segN
 refine Zs 75 Tryz.func57 ?_
 refine Zsr ?_
 refine Za ?_
 refine Za ?_
 refine Zk4 0 1 4 5 (Ztq ?_)
 refine Zm ?_
 refine Zm ?_
 refine Zm ?_
 refine Zc (Ze Tryz.func106) (file_any g0 gd n nm logK num count size broken _ gv k0 hn (by omega) (by decide)) ?_
 rintro e w5 ⟨rfl,hb5⟩
 refine⟨_,rfl,?_⟩
 replace df:=df.step hb5
 replace dk:=dk.step hb5
 replace k0:=k0.step hb5
 replace gv:=gv.step hb5
 refine Zc (Ze Tryz.func109) (wread_any B g0 gd D nm (fileN nm n logK) num count size broken _ k0 dk hoff hlb) ?_
 rintro e w6 ⟨rfl,hb6⟩
 refine⟨_,rfl,?_⟩
 replace df:=df.step hb6
 replace dk:=dk.step hb6
 replace k0:=k0.step hb6
 replace gv:=gv.step hb6
 refine Zm ?_
 refine Zx ?_
 refine Zx ?_
 refine Za ?_
 refine Za ?_
 refine Zk6 0 1 4 5 6 7 (Zts (Zsr ?_))
 refine Zm ?_
 refine Zni ?_
 refine Zk7 0 1 4 5 6 7 23 (Zt ?_)
 refine Cd.condF rfl rfl ?_
 refine Cd.skip (Ztq ?_)
 refine Zm ?_
 refine Zm ?_
 refine Zm ?_
 refine Zc (Ze Tryz.func106) (file_any g0 gd n nm ackK num count size broken _ gv k0 hn (by omega) (by decide)) ?_
 rintro e w7 ⟨rfl,hb7⟩
 refine⟨_,rfl,?_⟩
 replace df:=df.step hb7
 replace dk:=dk.step hb7
 replace k0:=k0.step hb7
 replace gv:=gv.step hb7
 refine Zc (Ze Tryz.func109) (wread_any B g0 gd D nm (fileN nm n ackK) num count size broken _ k0 dk hoff hab) ?_
 rintro e w8 ⟨rfl,hb8⟩
 refine⟨_,rfl,?_⟩
 replace df:=df.step hb8
 replace dk:=dk.step hb8
 replace k0:=k0.step hb8
 replace gv:=gv.step hb8
 obtain⟨s,hs⟩:∃x,x=D.datN (fileN nm n logK):=⟨_,rfl⟩
 obtain⟨t,ht⟩:∃x,x=D.datN (fileN nm n ackK):=⟨_,rfl⟩
 rw[←hs] at hsl
 rw[←ht] at htl
 rw[←hs,←ht]
 clear hs ht
 refine Zm ?_
 refine Zx ?_
 refine Zx ?_
 refine Za ?_
 refine Za ?_
 refine Zk8 0 1 4 5 6 7 8 23 (Zts (Zsr ?_))
 refine Zm ?_
 refine Zni ?_
 refine Zk9 0 1 4 5 6 7 8 23 34 (Zt ?_)
 refine Cd.condF rfl rfl ?_
 refine Cd.skip (Ztq ?_)
 refine Zm ?_
 refine Zc (Ze Tryz.func110) (all_any s _ gv.nib hsl.1 (by omega)) ?_
 rintro e w9 ⟨v,rfl,own,hb9⟩
 refine⟨_,rfl,?_⟩
 replace own:=own.mono df.size
 replace df:=df.step hb9
 replace dk:=dk.step hb9
 replace k0:=k0.step hb9
 replace gv:=gv.step hb9
 have hend:=allGo_len s.length s
 rw[show allGo s.length s=allN s from rfl] at hend
 obtain⟨L,hL⟩:∃x,x=(allN s).1:=⟨_,rfl⟩
 obtain⟨en,hen⟩:∃x,x=(allN s).2.1:=⟨_,rfl⟩
 rw[←hL,←hen] at hend
 rw[←hL] at own
 rw[←hL,←hen]
 obtain⟨A,c,rfl,-⟩:=own.reads
 have hcap:=own.cap
 refine Zm ?_
 refine Zx ?_
 refine Zx ?_
 refine Zx ?_
 refine Za ?_
 refine Za ?_
 refine Za ?_
 refine Zk11 0 1 4 5 6 7 8 9 10 23 34 (Ztq ?_)
 refine Zm ?_
 refine Zc (Ze Tryz.func111) (counted_any t _ gv.nib htl.1 (by omega)) ?_
 rintro e w10 ⟨rfl,hb10⟩
 refine⟨_,rfl,?_⟩
 replace df:=df.step hb10
 replace dk:=dk.step hb10
 replace k0:=k0.step hb10
 replace gv:=gv.step hb10
 replace own:=own.step hb10
 obtain⟨k,hk⟩:∃x,x=(countN t).1:=⟨_,rfl⟩
 obtain⟨sl,hsl2⟩:∃x,x=(countN t).2:=⟨_,rfl⟩
 rw[←hk,←hsl2]
 refine Zm ?_
 refine Zx ?_
 refine Zx ?_
 refine Za ?_
 refine Za ?_
 refine Zk13 0 1 4 5 6 7 8 9 10 12 13 23 34 (Zts (Cd.block (Zsr ?_)))
 refine Zm ?_
 refine Zv (Runs.len rfl rfl Tryz.underlying54) ?_
 refine Zm ?_
 refine Zls ?_
 refine Za ?_
 refine Zk14 0 1 4 5 6 7 8 9 10 12 13 23 34 47 (Zt ?_)
 refine Cd.cond rfl (fun h=> ?_) (fun h=> ?_)
 ·have h:L.length<k:=by
   have h':((L.length:Int)<(k:Int)):=by simpa using h
   omega
  rw[if_pos h]
  refine Zsr ?_
  refine Za ?_
  refine Za ?_
  refine Zk14 0 1 4 5 6 7 8 9 10 12 13 23 34 47 (Zt (Cd.ret (Post.block_ret (Post.then_ret ?_))))
  refine Ze2 ?_
  exact⟨_,rfl,Own.nil _ _ _ _,dk,df⟩
 have h:¬(L.length<k):=by
  have h':¬((L.length:Int)<(k:Int)):=by simpa using h
  omega
 rw[if_neg h]
 refine Zsr ?_
 refine Zm ?_
 refine Za ?_
 refine Zk15 0 1 4 5 6 7 8 9 10 12 13 23 34 47 52 (Zt ?_)
 refine Cd.cond rfl (fun h=> ?_) (fun h=> ?_)
 ·have h:sl=true:=h
  rw[if_pos h]
  refine Zsr ?_
  refine Zm ?_
  refine Zm ?_
  refine Zv (Runs.sliceN (s:=1) rfl rfl rfl Tryz.underlying54 (by kernel_rfl) rfl (by omega)) ?_
  refine Za ?_
  refine Za ?_
  refine Zk15 0 1 4 5 6 7 8 9 10 12 13 23 34 47 52 (Zt (Cd.ret (Post.block_ret (Post.then_ret ?_))))
  refine Ze2 ?_
  have hown:=own.takeN k (by omega)
  rw[Nat.mul_one] at hown
  refine⟨_,rfl,?_,dk,df⟩
  have e1:(L.take k).length=k:=by rw[List.length_take];omega
  have e2:Ts (L.take k)=(Ts L).take k:=by unfold Ts;rw[List.map_take]
  rw[e1,e2]
  exact hown
 have h:¬(sl=true):=by
  have h':sl=false:=h
  simp[h']
 rw[if_neg h]
 refine Zsr ?_
 refine Zm ?_
 refine Zv (Runs.len rfl rfl Tryz.underlying54) ?_
 refine Zm ?_
 refine Zgt ?_
 refine Zm ?_
 refine SeqC.start ?_
 refine Zco (fun hcx=>Runs.move rfl rfl) ?_
 refine Znm ?_
 refine Zn (fun hcx=>Runs.lenL rfl rfl Tryz.underlying9) ?_
 refine Zn (fun hcx=>Runs.lss rfl rfl rfl) ?_
 refine Zor ?_
 refine Za ?_
 refine Zk16 0 1 4 5 6 7 8 9 10 12 13 23 34 47 52 57 (Zt ?_)
 refine Cd.cond rfl (fun h=> ?_) (fun h=> ?_)
 ·have h:k<L.length∨en<s.length:=by
   have h':(k:Int)<(L.length:Int)∨(en:Int)<(s.length:Int):=by simpa using h
   omega
  rw[if_pos h]
  refine Zsr ?_
  refine Zm ?_
  refine Zm ?_
  refine Zm ?_
  refine Zm ?_
  refine Zv (Runs.len rfl rfl Tryz.underlying54) ?_
  refine Zc (Ze Tryz.func112) (again_any B g0 gd n L.length D nm num count size broken _ gv hgB k0 dk hn hnm hnl (by omega)) ?_
  clear dk
  rintro e w1 ⟨rfl,dk,fw1⟩
  refine⟨_,rfl,?_⟩
  replace df:=df.df fw1
  replace k0:=k0.df fw1
  replace gv:=gv.df fw1
  replace own:=own.df fw1
  refine Za ?_
  refine Za ?_
  refine Zk16 0 1 4 5 6 7 8 9 10 12 13 23 34 47 52 57 (Zt (Cd.ret (Post.block_ret (Post.then_ret ?_))))
  refine Ze2 ?_
  exact⟨_,rfl,own,dk,df⟩
 have h:¬(k<L.length∨en<s.length):=by
  have h':¬((k:Int)<(L.length:Int)∨(en:Int)<(s.length:Int)):=by simpa using h
  omega
 rw[if_neg h]
 refine Cd.skip (Post.block_normal (Ztq ?_))
 refine Zm ?_
 refine Za ?_
 refine Za ?_
 refine Zk16 0 1 4 5 6 7 8 9 10 12 13 23 34 47 52 57 (Zt (Cd.ret ?_))
 refine Ze2 ?_
 exact⟨_,rfl,own,dk,df⟩
end Go.Proofs.YtdpipgidpkmolaaGreatDoor
namespace Go.Proofs.YtdpipgidpkmolaaGreatDoor
open Go.RowKit
theorem zero_wal_Rec:zeroIs Tryz.prog 115=some (some (.agg #[.int .i64 0, .string {data:= #[]}])):=by kernel_rfl
theorem run_build_rec (a:Int)(s:List Nat)(w:World):(Instr.build 115 #[(0, .int .i64 a),(1, .string (strOf s))]).run Tryz.prog w= .ok (.agg #[.int .i64 a, .string (strOf s)]) w:=by
 have hu:=Tryz.underlying115
 go_simp
theorem run_build_wal (gd:Nat)(nm:List Nat)(w:World):(Instr.build 111 #[(0, .pointer (some ⟨gd,0,none⟩)),(1, .string (strOf nm))]).run Tryz.prog w= .ok (.agg (wlCs gd nm 0 0 0 false)) w:=by
 have hu:=Tryz.underlying111
 unfold wlCs
 go_simp
def recV (r:Nat × List Nat):List Value:=[.int .i64 (r.1:Int), .string (strOf r.2)]
def recsV (l:List (Nat × List Nat)):List Value:=l.flatMap recV
theorem recsV_app (a b:List (Nat × List Nat)):recsV (a++b)=recsV a++recsV b:=by simp[recsV]
theorem recsV_len (a:List (Nat × List Nat)):(recsV a).length=a.length*2:=by
 induction a with
 |nil=>rfl
 |cons x a ih=>simp only[recsV,List.flatMap_cons,List.length_append,List.length_cons] at ih⊢;rw[ih];simp[recV];omega
theorem ones_recV (r:Nat × List Nat):∀u∈recV r,u.oneCell'=true:=fun u hu=>by
 simp[recV] at hu
 rcases hu with rfl|rfl<;>rfl
def OpenR (w w':World)(gd:Nat)(nm:List Nat)(v1 v2:Value)(r:Dk × Int × List (Nat × List Nat) × Nat):Prop:=
 (r.2.1≠0∧v1= .pointer none∧v2= .slice none 0 0)∨
 (r.2.1=0∧∃g,v1= .pointer (some ⟨g,0,none⟩)∧w.heap.size≤g∧Blk w' g 111 (wlCs gd nm (r.2.2.2:Int) 0 0 false)∧Own w' w.heap.size 115 2 v2 r.2.2.1.length (recsV r.2.2.1))
theorem segN_len {D:Dk}(h:D.ok)(nm:List Nat)(n:Nat):(segN D nm n).2.2.length≤100000:=by
 have h1:=(datN_ok h (fileN nm n logK)).2
 have h2:=allGo_len (D.datN (fileN nm n logK)).length (D.datN (fileN nm n logK))
 rw[show allGo (D.datN (fileN nm n logK)).length (D.datN (fileN nm n logK))=allN (D.datN (fileN nm n logK)) from rfl] at h2
 unfold segN
 split
 ·simp
 split
 ·simp only[List.length_take];omega
 split
 ·simp only;omega
 ·simp only;omega
end Go.Proofs.YtdpipgidpkmolaaGreatDoor
namespace Go.Proofs.YtdpipgidpkmolaaGreatDoor
open Go.RowKit Go.Shelf
theorem shAtoiC:Go.Proofs.LaysC.n172 Tryz.prog shAtoi_ren:=
 {toM:= {shAtoi with
   t80:=Tryz.underlying136,
   a80:=Tryz.isAgg136,
   z80:=Tryz.sizeOf136,
   v80:=Tryz.zeroValue136,
   i0:=by kernel_rfl,
   i2:=by kernel_rfl,
   i3:=by kernel_rfl,
   i4:=by kernel_rfl,
   i5:=by kernel_rfl,
   i9:=by kernel_rfl,
   i20:=by kernel_rfl,
   i21:=by kernel_rfl,
   i37:=by kernel_rfl,
   i46:=by kernel_rfl,
   i51:=by kernel_rfl,
   i53:=by kernel_rfl,
   i75:=by kernel_rfl,
   i76:=by kernel_rfl,
   i80:=by kernel_rfl,
   i85:=by kernel_rfl,
   i127:=by kernel_rfl,
   i143:=by kernel_rfl,
   i145:=by kernel_rfl,
   i167:=by kernel_rfl,
   i168:=by kernel_rfl,
   i171:=by kernel_rfl,
   i173:=by kernel_rfl,
   i175:=by kernel_rfl,
   i210:=by kernel_rfl,
   i212:=by kernel_rfl,
   i232:=by kernel_rfl,
   i233:=by kernel_rfl,
   m15:=by kernel_rfl,
   m16:=by kernel_rfl,
   m17:=by kernel_rfl,
   m18:=by kernel_rfl,
   m19:=by kernel_rfl},
  c0:=by kernel_rfl,
  c2:=by kernel_rfl,
  c3:=by kernel_rfl,
  c4:=by kernel_rfl,
  c5:=by kernel_rfl,
  c9:=by kernel_rfl,
  c20:=by kernel_rfl,
  c21:=by kernel_rfl,
  c37:=by kernel_rfl,
  c46:=by kernel_rfl,
  c51:=by kernel_rfl,
  c53:=by kernel_rfl,
  c75:=by kernel_rfl,
  c76:=by kernel_rfl,
  c80:=by kernel_rfl,
  c85:=by kernel_rfl,
  c127:=by kernel_rfl,
  c143:=by kernel_rfl,
  c145:=by kernel_rfl,
  c167:=by kernel_rfl,
  c168:=by kernel_rfl,
  c171:=by kernel_rfl,
  c173:=by kernel_rfl,
  c175:=by kernel_rfl,
  c210:=by kernel_rfl,
  c212:=by kernel_rfl,
  c213:=by kernel_rfl,
  c232:=by kernel_rfl,
  c233:=by kernel_rfl}
end Go.Proofs.YtdpipgidpkmolaaGreatDoor
namespace Go.Proofs.YtdpipgidpkmolaaGreatDoor
open Go.RowKit
structure Es (w:World):Prop where
 ex:∃tp p,w.cell? ⟨3,0,none⟩=some (.iface tp p)
theorem Es.below {w w':World}{B:Nat}(h:Es w)(hb:Below B w w')(hB: 3 <B):Es w':=by
 obtain⟨tp,p,e⟩:=h.ex
 exact⟨tp,p,(hb.cell hB).trans e⟩
theorem Es.lt {w:World}(h:Es w): 3 <w.heap.size:=by
 obtain⟨tp,p,e⟩:=h.ex
 exact World.block_lt_of_cell? w _ e
theorem Es.step {w w':World}(h:Es w)(hb:Below w.heap.size w w'):Es w':=h.below hb h.lt
theorem Es.df {w w':World}{B:Nat}(h:Es w)(f:Df B w w')(hB: 3 <B:=by omega):Es w':=h.below f.below (by have:=h.lt;omega)
theorem Es.lf {w w':World}{B:Nat}(h:Es w)(f:Lf B w w')(hB: 3 <B:=by omega):Es w':=h.below f.below (by have:=h.lt;omega)
theorem Es.put {w w':World}{B g:Nat}{T:TypeId}{cur cs:Array Value}(h:Es w)(k:Blk w g T cur)(p:Put w w' g T cs)(e:B≤g)(hB: 3 <B:=by omega):Es w':=h.below (p.below e k.lt) hB
theorem atoiNo_any (s:List Nat)(w:World)(es:Es w)(hl:s.length≤18)(h:Lib.atoi (u8s s)=none):Calls Tryz.prog 105 #[.string (strOf s)] w fun e w'=>(∃v,e= .returned (.tuple #[.int .i64 0, .iface 230 v]))∧Grow w w':=by
 obtain⟨tp,p,hv⟩:=es.ex
 refine(Any.strconv_Atoi_err shAtoiC (strOf s) (by rw[strOf_size];exact hl) (by rw[strOf_u8];exact h) (.iface tp p) w hv (.inr ⟨tp,p,rfl⟩)).mono ?_
 rintro e w' ⟨N,rfl,-,-,hb⟩
 exact⟨⟨_,rfl⟩,hb⟩
theorem cutPno_any (s p:List Nat)(w:World)(h:Lib.hasPrefix (u8s s) (u8s p)=false):Calls Tryz.prog 104 #[.string (strOf s), .string (strOf p)] w fun e w'=>e= .returned (.tuple #[.string (strOf s), .bool false])∧Grow w w':=by
 refine(Any.strings_CutPrefix shCutP (strOf s) (strOf p) w).mono ?_
 rintro e w' ⟨rfl,rfl⟩
 rw[strOf_u8,strOf_u8,h]
 refine⟨?_,Below.refl _ _⟩
 unfold Lib.trimPrefix
 rw[h,if_neg (by simp)]
 rfl
theorem cutNo_any (a:List Nat)(w:World)(g:Gv w)(ha:∀c∈a,c<46∨46<c)(hb:Byt a)(hl:a.length≤1000000):Calls Tryz.prog 47 #[.string (strOf a), .string {data:= #[46]}] w fun e w'=>e= .returned (.tuple #[.string (strOf a), .string (strOf []), .bool false])∧Grow w w':=by
 obtain⟨m,hm⟩:=g.mx
 refine(Any.strings_Cut shCut (strOf a) {data:= #[46]} m w (by rw[strOf_size];omega) hm).mono ?_
 rintro e w' ⟨rfl,k,rfl⟩
 have hi:Lib.index (u8s a) [46]= -1:=by
  refine Lib.index_none fun j hj=> ?_
  unfold Lib.occAt
  rcases Nat.lt_or_ge j a.length with hja|hja
  ·have hc:(u8s a)[j]? =some (UInt8.ofNat a[j]):=by simp[u8s,hja]
   rw[drop_head hc]
   have hne:(46:UInt8)≠UInt8.ofNat a[j]:=fun e=>by
    have h1:=ha a[j] (List.getElem_mem hja)
    have h2:(UInt8.ofNat a[j]).toNat=a[j]:=ofNat_toNat (hb _ (List.getElem_mem hja))
    rw[←e] at h2
    have:(46:UInt8).toNat=46:=rfl
    omega
   simp[List.isPrefixOf,hne]
  ·rw[List.drop_eq_nil_of_le (by simp[u8s];omega)]
   rfl
 have hcut:Lib.cut (u8s a) [46]=(u8s a,[],false):=by
  unfold Lib.cut
  rw[hi,if_neg (by omega)]
 have e2:(({data:= #[46]}:ByteArray)).data.toList=[46]:=rfl
 rw[strOf_u8,e2,hcut]
 exact⟨rfl,⟨rfl,rfl,rfl,Nat.le_refl _,fun _ _=>rfl⟩⟩
def ForN (nm s:List Nat):Prop:=Lib.hasPrefix (u8s s) (u8s (nm++[46]))=false∧Byt s∧s.length≤24∧
 (((∀c∈s,c<46∨46<c)∧s.length≤18∧Lib.atoi (u8s s)=none)∨∃a b,s=a++46::b∧(∀c∈a,c<46∨46<c)∧Byt a∧a.length≤18∧Lib.atoi (u8s a)=none)
theorem for_ne {nm s k:List Nat}{n:Nat}(h:Lib.hasPrefix (u8s s) (u8s (nm++[46]))=false):s≠fileN nm n k:=fun e=>by
 have hf:fileN nm n k=(nm++[46])++(dig6 n++k):=by unfold fileN;simp
 rw[e,hf] at h
 have e1:u8s ((nm++[46])++(dig6 n++k))=u8s (nm++[46])++u8s (dig6 n++k):=by simp[u8s]
 have h1:Lib.hasPrefix (u8s ((nm++[46])++(dig6 n++k))) (u8s (nm++[46]))=true:=by
  rw[e1]
  unfold Lib.hasPrefix
  rw[List.isPrefixOf_iff_prefix]
  exact List.prefix_append _ _
 rw[h1] at h
 cases h
theorem numIn_for {nm s:List Nat}{names:List (List Nat)}{j m:Nat}(hnl:nm.length≤8)(h:Lib.hasPrefix (u8s s) (u8s (nm++[46]))=false)(hs:names[j]? =some s):NumIn nm (names.take j++[s]) m↔NumIn nm (names.take j) m:=by
 unfold NumIn
 have h1:fileN nm m (46::logB)≠s:=fun e=>for_ne h e.symm
 have h2:fileN nm m (46::ackB)≠s:=fun e=>for_ne h e.symm
 simp[h1,h2]
set_option maxHeartbeats 4000000 in
theorem numbers_all (B g0 gd:Nat)(D:Dk)(nm:List Nat)(num count size:Int)(broken:Bool)(w:World)(gv:Gv w)(es:Es w)(k0:Blk w g0 111 (wlCs gd nm num count size broken))(dk:DkAt w B gd D)(hnm:Byt nm)(hnl:nm.length≤8)(hown:∀p∈D.files,OwnNm nm p.1∨ForN nm p.1):
  Calls Tryz.prog 56 #[.pointer (some ⟨g0,0,none⟩)] w fun e w'=>∃(v:Value) (ns:List Nat),e= .returned v∧ns.Pairwise (· < ·)∧(∀n,n∈ns↔NumIn nm (D.files.map (·.1)) n)∧Own w' w.heap.size 3 1 v ns.length (ns.map fun(n:Nat)=>Value.int .i64 (n:Int))∧Grow w w':=by
 have bel:=Below.refl w.heap.size w
 have own:=Own.nil w w.heap.size 3 1
 obtain⟨names,hnames⟩:∃names,names=sortN (D.files.map (·.1)):=⟨_,rfl⟩
 have hperm:names.Perm (D.files.map (·.1)):=by rw[hnames];exact List.mergeSort_perm _ _
 have hmost:D.files.length≤200:=by obtain⟨m,l,F,c1,c2,h⟩:=dk;exact h.ok.most
 have hnlen:names.length=D.files.length:=by rw[hperm.length_eq,List.length_map]
 have hgood:∀s∈names,OwnNm nm s∨ForN nm s:=fun s hs=>by
  obtain⟨p,hp,rfl⟩:=List.mem_map.1 (hperm.mem_iff.1 hs)
  exact hown p hp
 refine Zs 82 Tryz.func56 ?_
 refine Zsr ?_
 refine Za ?_
 refine Zk2 0 2 (Ztq ?_)
 refine Za ?_
 refine Zk3 0 2 3 (Zts (Zsr ?_))
 refine Zm ?_
 refine Zv (Runs.nilCheck rfl rfl) ?_
 refine Zf 0 Tryz.underlying111 ?_
 refine ZL Tryz.underlying26 k0 ?_
 refine Zc (Ze Tryz.func19) (names_any B gd D _ (dk.step bel)) ?_
 rintro e w5 ⟨v17,rfl,ownN,hb5⟩
 refine⟨_,rfl,?_⟩
 rw[←hnames] at ownN
 replace bel:=bel.step hb5
 replace k0:=k0.step hb5
 replace own:=own.step hb5
 obtain⟨A,c,rfl,hrd⟩:=ownN.reads
 refine Zv (Runs.len rfl rfl Tryz.underlying54) ?_
 refine Zm ?_
 refine Zk6 0 2 3 17 18 19 (Zt (Cd.block ?_))
 have hw5:=bel.size
 have bel0:=bel
 clear bel
 have bel:=Below.refl w5.heap.size w5
 clear own
 have own:=Own.nil w5 w5.heap.size 3 1
 refine Cd.loop (σ:=Nat × List Nat × Value) (fun q=>[(0, .pointer (some ⟨g0,0,none⟩)),(17, .slice A D.files.length c),(18, .int .i64 (D.files.length:Int)),(19, .int .i64 (q.1:Int)),(3,q.2.2)]) (fun q wr=>q.1≤D.files.length∧q.2.1.length≤q.1∧(∀n,n∈q.2.1↔NumIn nm (names.take q.1) n)∧Below w5.heap.size w5 wr∧Blk wr g0 111 (wlCs gd nm num count size broken)∧Own wr w5.heap.size 3 1 q.2.2 q.2.1.length (q.2.1.map fun(n:Nat)=>Value.int .i64 (n:Int))) (fun q=>D.files.length-q.1) (0,[], .slice none 0 0) ⟨Nat.zero_le _,Nat.le_refl _,fun n=>by simp[NumIn],bel,k0,own⟩ ⟨rfl,rfl,rfl,rfl,rfl,trivial⟩ ?_
 clear bel k0 own
 rintro⟨j,zs,v⟩ wr ⟨hj,hzl,hmem,bel,k0,own⟩
 simp only at hj hzl hmem own
 obtain⟨A3,c3,rfl,-⟩:=own.reads
 show Cd _ _ _ _ [(0, .pointer (some ⟨g0,0,none⟩)),(17, .slice A D.files.length c),(18, .int .i64 (D.files.length:Int)),(19, .int .i64 (j:Int)),(3, .slice A3 zs.length c3)] _
 refine Zsr ?_
 refine Zls ?_
 refine Zk6 0 3 17 18 19 20 (Zts ?_)
 refine Cd.condD rfl (fun hc=> ?_) (fun hc=> ?_)
 ·obtain⟨s,hs⟩:∃s,names[j]? =some s:=⟨_,List.getElem?_eq_getElem (by omega)⟩
  obtain⟨ad,rfl,hbd,hcl⟩:=hrd.2 (by omega)
  have hcd:=(bel.cell (p:=ad.add j) (by rw[block_of_add];exact hbd)).trans (hcl j (.string (strOf s)) (by rw[get_Ts,hs];rfl))
  have gv1:Gv wr:=gv.step (bel0.trans (bel.mono hw5))
  refine Cd.skip (Zts (Cd.block (Zsr ?_)))
  refine Zv (Runs.index1 rfl rfl rfl Tryz.underlying54 (by kernel_rfl) (j:=j) rfl (by omega)) ?_
  refine Zv (Runs.load1 rfl rfl Tryz.underlying9 rfl hcd) ?_
  refine Za ?_
  refine Zk7 0 3 5 17 18 19 20 (Ztq ?_)
  refine Zm ?_
  refine Zm ?_
  refine Zv (Runs.nilCheck rfl rfl) ?_
  refine Zf 1 Tryz.underlying111 ?_
  refine ZL Tryz.underlying9 k0 ?_
  refine Zv (Runs.addL (b:=[46]) rfl rfl rfl (show nm.length+1≤_ by omega)) ?_
  rcases hgood s (List.mem_of_getElem? hs) with ⟨n,k,hn,hk,rfl⟩|hfor
  ·have hsf:fileN nm n (46::k)=(nm++[46])++(dig6 n++46::k):=by unfold fileN;simp
   have hd6:=dig6_len hn
   have hd6l:=dig6_lt n
   have hk3:k.length=3:=by rcases hk with rfl|rfl|rfl<;>rfl
   have hkb:Byt k:=by rcases hk with rfl|rfl|rfl<;>(intro d hd;revert d;decide)
   rw[hsf]
   refine Zc (Ze Tryz.func104) (cutP_any (nm++[46]) (dig6 n++46::k) _) ?_
   rintro e x6 ⟨rfl,hb6⟩
   refine⟨_,rfl,?_⟩
   replace bel:=bel.step hb6
   replace k0:=k0.step hb6
   replace own:=own.step hb6
   refine Zm ?_
   refine Zx ?_
   refine Zx ?_
   refine Za ?_
   refine Za ?_
   refine Zk9 0 3 5 6 7 17 18 19 20 (Ztq ?_)
   refine Zm ?_
   refine Zc (Ze Tryz.func47) (cut_any (dig6 n) k _ (gv.step (bel0.trans (bel.mono hw5))) (fun c hc=>by have:=hd6l c hc;omega) (fun c hc=>by have:=hd6l c hc;omega) (by omega)) ?_
   rintro e x7 ⟨rfl,hb7⟩
   refine⟨_,rfl,?_⟩
   replace bel:=bel.step hb7
   replace k0:=k0.step hb7
   replace own:=own.step hb7
   refine Zm ?_
   refine Zx ?_
   refine Zx ?_
   refine Zx ?_
   refine Za ?_
   refine Za ?_
   refine Za ?_
   refine Zk12 0 3 5 6 7 8 9 10 17 18 19 20 (Ztq ?_)
   refine Zm ?_
   refine Zc (Ze Tryz.func105) (atoi_any n _ hn) ?_
   rintro e x8 ⟨rfl,hb8⟩
   refine⟨_,rfl,?_⟩
   replace bel:=bel.step hb8
   replace k0:=k0.step hb8
   replace own:=own.step hb8
   refine Zm ?_
   refine Zx ?_
   refine Zx ?_
   refine Za ?_
   refine Za ?_
   refine Zk14 0 3 5 6 7 8 9 10 11 12 17 18 19 20 (Ztq ?_)
   refine Zm ?_
   refine Zm ?_
   refine SeqC.start ?_
   refine Zco (fun hcx=>Runs.move rfl rfl) ?_
   refine Zan ?_
   refine Zm ?_
   refine SeqC.start ?_
   refine Zco (fun hcx=>Runs.move rfl rfl) ?_
   refine Zn (fun hcx=>Runs.bin (v:= .bool true) rfl rfl rfl rfl (by kernel_rfl)) ?_
   refine Zan ?_
   refine Zm ?_
   refine SeqC.start ?_
   refine Zco (fun hcx=>Runs.move rfl rfl) ?_
   have hfb:Byt (fileN nm n (46::k)):=by
    unfold fileN
    refine Byt.app (Byt.app (Byt.app hnm (by intro d hd;simp at hd;omega)) (fun c hc=>by have:=hd6l c hc;omega)) ?_
    intro d hd
    rcases List.mem_cons.1 hd with rfl|hd
    ·omega
    ·exact hkb d hd
   refine Zn (fun hcx=>Runs.eqlL (b:=logB) rfl rfl rfl hkb (by decide)) ?_
   refine Znm ?_
   refine Zco (fun hcx=>Runs.move rfl rfl) ?_
   refine Zn (fun hcx=>Runs.eqlL (b:=ackB) rfl rfl rfl hkb (by decide)) ?_
   refine SeqC.orG rfl rfl rfl rfl rfl rfl rfl rfl rfl rfl rfl ?_
   refine Zan ?_
   refine Zm ?_
   refine SeqC.start ?_
   refine Zco (fun hcx=>Runs.move rfl rfl) ?_
   refine Znm ?_
   refine Znm ?_
   refine Zn (fun hcx=>Runs.addL (a:=[46]) (b:=k) rfl rfl rfl (by simp only[List.length_singleton];omega)) ?_
   refine SeqC.nextC rfl rfl rfl rfl rfl rfl rfl (fun hcx=>Ze Tryz.func106) (fun hcx=>file_any g0 gd n nm (46::k) num count size broken _ (gv.step (bel0.trans (bel.mono hw5))) k0 hn (by omega) (by simp only[List.length_cons];omega)) ?_
   intro w1 hw1
   replace bel:=bel.step hw1
   replace k0:=k0.step hw1
   replace own:=own.step hw1
   refine Znm ?_
   refine Zn (fun hcx=>Runs.eqlL rfl rfl rfl hfb (by rw[←hsf];exact hfb)) ?_
   refine Zan ?_
   refine Zm ?_
   refine SeqC.start ?_
   refine Zco (fun hcx=>Runs.move rfl rfl) ?_
   refine Zn (fun hcx=>Runs.geq rfl rfl rfl) ?_
   refine Zan ?_
   refine Zk15 0 3 5 6 7 8 9 10 11 12 17 18 19 20 72 (Zt ?_)
   have hval:(decide (k=logB)||decide (k=ackB))=true↔(k=logB∨k=ackB):=by rw[Bool.or_eq_true,decide_eq_true_eq,decide_eq_true_eq]
   have hnj:names.take (j+1)=names.take j++[fileN nm n (46::k)]:=take_last hs
   refine Cd.cond rfl (fun h=> ?_) (fun h=> ?_)
   ·have hkk:k=logB∨k=ackB:=by
     apply hval.1
     cases e:(decide (k=logB)||decide (k=ackB)) with
     |true=>rfl
     |false=>
      exfalso
      have h':(true&&true&&true&&(decide (k=logB)||decide (k=ackB))&&decide (fileN nm n (46::k)=nm++[46]++(dig6 n++46::k))&&decide ((0:Int)≤(n:Int)))=true:=h
      rw[e] at h'
      simp at h'
    refine Zr ?_
    refine Zm ?_
    refine Zm ?_
    refine Seq.slice (vs:=[_]) (s:=1) rfl rfl rfl Tryz.underlying40 (by kernel_rfl) (zero_int) (by omega) (by omega) ⟨rfl,trivial⟩ rfl rfl rfl ?_
    intro g75 w2 n75
    have e75:=Nat.le_trans bel.size n75.ge
    have l75:=Nat.lt_of_lt_of_le k0.lt n75.ge
    replace bel:=bel.step n75.below
    replace k0:=k0.step n75.below
    replace own:=own.step n75.below
    have k75:=n75.blk
    have hrx:=Reads.blk (size:=1) k75 1 rfl
    refine Seq.append rfl rfl rfl Tryz.underlying40 (by kernel_rfl) zero_int rfl (by decide) (b:=8) (by kernel_rfl) own hrx (ones_nat [n]) bel.size (by simp only[maxLen];omega) (by omega) rfl rfl rfl ?_
    intro v2 wb own2 ha
    have bel2:=bel.trans ha.below
    have k02:=k0.appNe own ha
    replace own2:Own wb w5.heap.size 3 1 v2 (zs.length+1) ((zs.map fun(n:Nat)=>Value.int .i64 (n:Int))++[n].map fun(n:Nat)=>Value.int .i64 (n:Int)):=own2
    rw[←List.map_append] at own2
    clear bel own k75 hrx ha k0
    have bel:=bel2
    have own:=own2
    have k0:=k02
    clear bel2 own2 k02
    refine Za ?_
    refine Zk15 0 3 5 6 7 8 9 10 11 12 17 18 19 20 72 (Post.block_normal (Ztr ?_))
    refine Za_ ?_
    refine Zm ?_
    refine Zk15 0 3 5 6 7 8 9 10 11 12 17 18 19 20 72 ?_
    exact Post.round (j+1,zs++[n],v2) ⟨rfl,rfl,rfl,int_at (by omega),rfl,trivial⟩ ⟨by simp only;omega,by simp only[List.length_append,List.length_singleton];omega,fun m=>by rw[hnj,numIn_more hn,←hmem m];simp[hkk],bel,k0,by simpa using own⟩ (by simp only;omega)
   ·have hkk:¬(k=logB∨k=ackB):=by
     intro hkk
     have h':(true&&true&&true&&(decide (k=logB)||decide (k=ackB))&&decide (fileN nm n (46::k)=nm++[46]++(dig6 n++46::k))&&decide ((0:Int)≤(n:Int)))=false:=h
     rw[hval.2 hkk,←hsf,decide_eq_true rfl,decide_eq_true (by omega)] at h'
     cases h'
    refine Cd.skip (Post.block_normal (Ztr ?_))
    refine Za_ ?_
    refine Zm ?_
    refine Zk15 0 3 5 6 7 8 9 10 11 12 17 18 19 20 72 ?_
    exact Post.round (j+1,zs, .slice A3 zs.length c3) ⟨rfl,rfl,rfl,int_at (by omega),rfl,trivial⟩ ⟨by simp only;omega,by simp only;omega,fun m=>by rw[hnj,numIn_more hn,hmem m];simp[hkk],bel,k0,own⟩ (by simp only;omega)
  ·obtain⟨hfp,hfs,hfl,hform⟩:=hfor
   have es1:Es wr:=es.step (bel0.trans (bel.mono hw5))
   have hfn:=fun m=>numIn_for (j:=j) (m:=m) hnl hfp hs
   refine Zc (Ze Tryz.func104) (cutPno_any s (nm++[46]) _ hfp) ?_
   rintro e x6 ⟨rfl,hb6⟩
   refine⟨_,rfl,?_⟩
   replace bel:=bel.step hb6
   replace k0:=k0.step hb6
   replace own:=own.step hb6
   refine Zm ?_
   refine Zx ?_
   refine Zx ?_
   refine Za ?_
   refine Za ?_
   refine Zk9 0 3 5 6 7 17 18 19 20 (Ztq ?_)
   refine Zm ?_
   rcases hform with ⟨f1,f2,f3⟩|⟨fa,fb,rfl,f1,f2,f3,f4⟩
   ·skip
    refine Zc (Ze Tryz.func47) (cutNo_any s _ (gv.step (bel0.trans (bel.mono hw5))) f1 hfs (by omega)) ?_
    rintro e x7 ⟨rfl,hb7⟩
    refine⟨_,rfl,?_⟩
    replace bel:=bel.step hb7
    replace k0:=k0.step hb7
    replace own:=own.step hb7
    refine Zm ?_
    refine Zx ?_
    refine Zx ?_
    refine Zx ?_
    refine Za ?_
    refine Za ?_
    refine Za ?_
    refine Zk12 0 3 5 6 7 8 9 10 17 18 19 20 (Ztq ?_)
    refine Zm ?_
    refine Zc (Ze Tryz.func105) (atoiNo_any s _ (es.step (bel0.trans (bel.mono hw5))) f2 f3) ?_
    rintro e x8 ⟨⟨tv,rfl⟩,hb8⟩
    refine⟨_,rfl,?_⟩
    replace bel:=bel.step hb8
    replace k0:=k0.step hb8
    replace own:=own.step hb8
    refine Zm ?_
    refine Zx ?_
    refine Zx ?_
    refine Za ?_
    refine Za ?_
    refine Zk14 0 3 5 6 7 8 9 10 11 12 17 18 19 20 (Ztq ?_)
    refine Zm ?_
    refine Zm ?_
    refine SeqC.start ?_
    refine Zco (fun hcx=>Runs.move rfl rfl) ?_
    refine Zan ?_
    refine Zm ?_
    refine SeqC.start ?_
    refine Zco (fun hcx=>Runs.move rfl rfl) ?_
    refine Zn (fun hcx=>(absurd hcx (by simp):Runs _ _ _ _ (.bool true) _)) ?_
    refine Zan ?_
    refine Zm ?_
    refine SeqC.start ?_
    refine Zco (fun hcx=>Runs.move rfl rfl) ?_
    refine Zn (fun hcx=>(absurd hcx (by simp):Runs _ _ _ _ (.bool true) _)) ?_
    refine Znm ?_
    refine Zco (fun hcx=>Runs.move rfl rfl) ?_
    refine Zn (fun hcx=>(absurd hcx (by simp):Runs _ _ _ _ (.bool true) _)) ?_
    refine SeqC.orG rfl rfl rfl rfl rfl rfl rfl rfl rfl rfl rfl ?_
    refine Zan ?_
    refine Zm ?_
    refine SeqC.start ?_
    refine Zco (fun hcx=>Runs.move rfl rfl) ?_
    refine Znm ?_
    refine Znm ?_
    refine Zn (fun hcx=>(absurd hcx (by simp):Runs _ _ _ _ (.string (strOf [])) _)) ?_
    refine SeqC.nextC rfl rfl rfl rfl rfl rfl rfl (fun hcx=>Ze Tryz.func106) (fun hcx=>(absurd hcx (by simp):Calls _ _ _ _ fun e w'=>e= .returned (.string (strOf []))∧Grow _ w')) ?_
    intro w1 hw1
    replace bel:=bel.step hw1
    replace k0:=k0.step hw1
    replace own:=own.step hw1
    refine Znm ?_
    refine Zn (fun hcx=>(absurd hcx (by simp):Runs _ _ _ _ (.bool true) _)) ?_
    refine Zan ?_
    refine Zm ?_
    refine SeqC.start ?_
    refine Zco (fun hcx=>Runs.move rfl rfl) ?_
    refine Zn (fun hcx=>Runs.geq rfl rfl rfl) ?_
    refine Zan ?_
    refine Zk15 0 3 5 6 7 8 9 10 11 12 17 18 19 20 72 (Zt ?_)
    refine Cd.condF rfl rfl ?_
    refine Cd.skip (Post.block_normal (Ztr ?_))
    refine Za_ ?_
    refine Zm ?_
    refine Zk15 0 3 5 6 7 8 9 10 11 12 17 18 19 20 72 ?_
    exact Post.round (j+1,zs, .slice A3 zs.length c3) ⟨rfl,rfl,rfl,int_at (by omega),rfl,trivial⟩ ⟨by simp only;omega,by simp only;omega,fun m=>by rw[take_last hs,hfn m,hmem m],bel,k0,own⟩ (by simp only;omega)
   ·skip
    rw[List.length_append,List.length_cons] at hfl
    refine Zc (Ze Tryz.func47) (cut_any fa fb _ (gv.step (bel0.trans (bel.mono hw5))) f1 f2 (by omega)) ?_
    rintro e x7 ⟨rfl,hb7⟩
    refine⟨_,rfl,?_⟩
    replace bel:=bel.step hb7
    replace k0:=k0.step hb7
    replace own:=own.step hb7
    refine Zm ?_
    refine Zx ?_
    refine Zx ?_
    refine Zx ?_
    refine Za ?_
    refine Za ?_
    refine Za ?_
    refine Zk12 0 3 5 6 7 8 9 10 17 18 19 20 (Ztq ?_)
    refine Zm ?_
    refine Zc (Ze Tryz.func105) (atoiNo_any fa _ (es.step (bel0.trans (bel.mono hw5))) f3 f4) ?_
    rintro e x8 ⟨⟨tv,rfl⟩,hb8⟩
    refine⟨_,rfl,?_⟩
    replace bel:=bel.step hb8
    replace k0:=k0.step hb8
    replace own:=own.step hb8
    refine Zm ?_
    refine Zx ?_
    refine Zx ?_
    refine Za ?_
    refine Za ?_
    refine Zk14 0 3 5 6 7 8 9 10 11 12 17 18 19 20 (Ztq ?_)
    refine Zm ?_
    refine Zm ?_
    refine SeqC.start ?_
    refine Zco (fun hcx=>Runs.move rfl rfl) ?_
    refine Zan ?_
    refine Zm ?_
    refine SeqC.start ?_
    refine Zco (fun hcx=>Runs.move rfl rfl) ?_
    refine Zn (fun hcx=>(absurd hcx (by simp):Runs _ _ _ _ (.bool true) _)) ?_
    refine Zan ?_
    refine Zm ?_
    refine SeqC.start ?_
    refine Zco (fun hcx=>Runs.move rfl rfl) ?_
    refine Zn (fun hcx=>(absurd hcx (by simp):Runs _ _ _ _ (.bool true) _)) ?_
    refine Znm ?_
    refine Zco (fun hcx=>Runs.move rfl rfl) ?_
    refine Zn (fun hcx=>(absurd hcx (by simp):Runs _ _ _ _ (.bool true) _)) ?_
    refine SeqC.orG rfl rfl rfl rfl rfl rfl rfl rfl rfl rfl rfl ?_
    refine Zan ?_
    refine Zm ?_
    refine SeqC.start ?_
    refine Zco (fun hcx=>Runs.move rfl rfl) ?_
    refine Znm ?_
    refine Znm ?_
    refine Zn (fun hcx=>(absurd hcx (by simp):Runs _ _ _ _ (.string (strOf [])) _)) ?_
    refine SeqC.nextC rfl rfl rfl rfl rfl rfl rfl (fun hcx=>Ze Tryz.func106) (fun hcx=>(absurd hcx (by simp):Calls _ _ _ _ fun e w'=>e= .returned (.string (strOf []))∧Grow _ w')) ?_
    intro w1 hw1
    replace bel:=bel.step hw1
    replace k0:=k0.step hw1
    replace own:=own.step hw1
    refine Znm ?_
    refine Zn (fun hcx=>(absurd hcx (by simp):Runs _ _ _ _ (.bool true) _)) ?_
    refine Zan ?_
    refine Zm ?_
    refine SeqC.start ?_
    refine Zco (fun hcx=>Runs.move rfl rfl) ?_
    refine Zn (fun hcx=>Runs.geq rfl rfl rfl) ?_
    refine Zan ?_
    refine Zk15 0 3 5 6 7 8 9 10 11 12 17 18 19 20 72 (Zt ?_)
    refine Cd.condF rfl rfl ?_
    refine Cd.skip (Post.block_normal (Ztr ?_))
    refine Za_ ?_
    refine Zm ?_
    refine Zk15 0 3 5 6 7 8 9 10 11 12 17 18 19 20 72 ?_
    exact Post.round (j+1,zs, .slice A3 zs.length c3) ⟨rfl,rfl,rfl,int_at (by omega),rfl,trivial⟩ ⟨by simp only;omega,by simp only;omega,fun m=>by rw[take_last hs,hfn m,hmem m],bel,k0,own⟩ (by simp only;omega)
 ·have hall:∀n,n∈zs↔NumIn nm (D.files.map (·.1)) n:=fun n=>by
   rw[hmem n,List.take_of_length_le (by omega)]
   unfold NumIn
   rw[hperm.mem_iff,hperm.mem_iff]
  refine Cd.exit (Post.then_exit (Post.round_exit (Post.block_exit (Ztq ?_))))
  refine Zm ?_
  have hmap:∀l:List Nat,(l.map fun(n:Nat)=>Value.int .i64 (n:Int))=(l.map fun(n:Nat)=>(n:Int)).map (Value.int .i64):=fun l=>by rw[List.map_map];rfl
  rw[hmap] at own
  refine Zc (Ze Tryz.func107) (sortI_any w5.heap.size c3 zs.length A3 (zs.map fun(n:Nat)=>(n:Int)) _ own (by omega)) ?_
  clear own k0
  rintro e x1 ⟨rfl,own,hb1⟩
  refine⟨_,rfl,?_⟩
  replace bel:=bel.trans hb1
  have hpress:=press (zs:=zs.map fun(n:Nat)=>(n:Int))
  obtain⟨Z,hZ⟩:∃Z,Z=(zs.map fun(n:Nat)=>(n:Int)).mergeSort fun x y=>decide (x≤y):=⟨_,rfl⟩
  rw[←hZ] at own hpress
  refine Zk6 0 3 17 18 19 20 (Ztq ?_)
  refine Zm ?_
  refine Zc (Ze Tryz.func108) (compI_any w5.heap.size c3 zs.length A3 Z _ own (by omega)) ?_
  clear own
  rintro e x2 ⟨v2,rfl,own,hb2⟩
  refine⟨_,rfl,?_⟩
  replace bel:=bel.trans hb2
  refine Za ?_
  refine Zk7 0 2 3 17 18 19 20 (Zt (Cd.ret ?_))
  refine Ze1 ?_
  have hback:((Lib.compact Z).map Int.toNat).map (fun(n:Nat)=>(n:Int))=Lib.compact Z:=by
   rw[List.map_map]
   conv=>rhs;rw[←List.map_id (Lib.compact Z)]
   refine List.map_congr_left fun z hz=> ?_
   obtain⟨n,-,rfl⟩:=List.mem_map.1 ((hpress.2 z).1 hz)
   rfl
  refine⟨v2,(Lib.compact Z).map Int.toNat,rfl,?_,fun n=> ?_,?_,?_⟩
  ·have h1:=hpress.1
   rw[←hback] at h1
   exact(List.pairwise_map.1 h1).imp fun h=>by omega
  ·rw[←hall n]
   constructor
   ·intro hn
    have h1:(n:Int)∈Lib.compact Z:=by rw[←hback];exact List.mem_map.2 ⟨n,hn,rfl⟩
    obtain⟨m,hm,e⟩:=List.mem_map.1 ((hpress.2 _).1 h1)
    obtain rfl:m=n:=by omega
    exact hm
   ·intro hn
    exact List.mem_map.2 ⟨(n:Int),(hpress.2 _).2 (List.mem_map.2 ⟨n,hn,rfl⟩),by simp⟩
  ·rw[hmap,hback,List.length_map]
   exact own.mono hw5
  ·exact bel0.trans (bel.mono hw5)
set_option maxHeartbeats 4000000 in
theorem open_all (B gd:Nat)(D:Dk)(nm:List Nat)(w:World)(gv:Gv w)(es:Es w)(hgB:max 2 1 <B)(dk:DkAt w B gd D)(hoff:D.off=false)(hr:rightN nm=true)(hnm:Byt nm)(hown:∀p∈D.files,OwnNm nm p.1∨ForN nm p.1):
  Calls Tryz.prog 27 #[.pointer (some ⟨gd,0,none⟩), .string (strOf nm)] w fun e w'=>∃v1 v2,e= .returned (.tuple #[v1,v2, .int .i64 (openW D nm).2.1])∧OpenR w w' gd nm v1 v2 (openW D nm)∧DkAt w' B gd (openW D nm).1∧Df B w w':=by
 have df:=Df.refl B w
 have hnl:nm.length≤8:=by
  unfold rightN at hr
  rw[Bool.and_eq_true,Bool.and_eq_true,decide_eq_true_eq,decide_eq_true_eq] at hr
  exact hr.2.2
 have hgw:=gv.top
 obtain⟨R,hR⟩:∃R,R=openW D nm:=⟨_,rfl⟩
 rw[←hR]
 refine Zs 68 Tryz.func27 ?_
 refine Zsr ?_
 refine Za ?_
 refine Za ?_
 refine Za ?_
 refine Zk5 0 1 4 5 6 (Zts (Cd.block (Zsr ?_)))
 refine Zm ?_
 refine Zv (Runs.eqlP rfl rfl rfl Tryz.underlying26) ?_
 refine Zm ?_
 refine SeqC.start ?_
 refine Zco (fun hcx=>Runs.move rfl rfl) ?_
 refine SeqC.nextC rfl rfl rfl rfl rfl rfl rfl (fun hcx=>Ze Tryz.func54) (fun hcx=>right_w_any nm _ hnm (by omega)) ?_
 intro w1 hw1
 replace df:=df.step hw1
 replace dk:=dk.step hw1
 replace gv:=gv.step hw1
 replace es:=es.step hw1
 rw[hr]
 refine Zn (fun hcx=>Runs.not rfl rfl) ?_
 refine Zor ?_
 refine Za ?_
 refine Zk6 0 1 4 5 6 15 (Zt ?_)
 refine Cd.condF rfl rfl ?_
 refine Zsr ?_
 refine Zm ?_
 refine Zc (Ze Tryz.func55) (on_any B gd D _ dk) ?_
 rw[hoff]
 rintro e w5 ⟨rfl,hb5⟩
 refine⟨_,rfl,?_⟩
 replace df:=df.step hb5
 replace dk:=dk.step hb5
 replace gv:=gv.step hb5
 replace es:=es.step hb5
 refine Zno ?_
 refine Za ?_
 refine Zk7 0 1 4 5 6 15 23 (Zt ?_)
 refine Cd.condF rfl rfl ?_
 refine Cd.skip (Post.block_normal (Ztq ?_))
 refine Zm ?_
 refine Zm ?_
 have hsz5:=df.size
 refine Zv (Runs.build rfl rfl (run_build_wal gd nm _)) ?_
 refine Seq.box rfl rfl rfl rfl rfl ?_
 intro g30 w2 n30
 replace df:=df.step n30.below
 replace dk:=dk.step n30.below
 replace gv:=gv.step n30.below
 replace es:=es.step n30.below
 have k30:=n30.blk
 refine Za ?_
 refine Zk8 0 1 4 5 6 7 15 23 (Ztq ?_)
 refine Za ?_
 refine Zk9 0 1 4 5 6 7 8 15 23 (Zts (Zsr ?_))
 refine Zm ?_
 have k30:Blk _ g30 111 (wlCs gd nm 0 0 0 false):=k30
 refine Zc (Ze Tryz.func56) (numbers_all B g30 gd D nm 0 0 0 false _ gv es k30 dk hnm hnl hown) ?_
 rintro e w7 ⟨v32,ns,rfl,hinc,hmem,ownN,hb7⟩
 refine⟨_,rfl,?_⟩
 have hns:ns=numsL nm (D.files.map (·.1)):=inc_eq hinc numsL_inc (fun n=>by rw[hmem,numsL_mem])
 clear hinc
 have hnsl:=numsL_len (nm:=nm) (names:=D.files.map (·.1))
 have hRR:R=openGo nm ns D [] 0:=by rw[hR,hns];rfl
 rw[←hns] at hnsl
 replace ownN:=ownN.mono df.size
 replace df:=df.step hb7
 replace dk:=dk.step hb7
 replace gv:=gv.step hb7
 replace es:=es.step hb7
 replace k30:=k30.step hb7
 obtain⟨A,c,rfl,-⟩:=ownN.reads
 refine Zv (Runs.len rfl rfl Tryz.underlying40) ?_
 refine Zm ?_
 refine Zk12 0 1 4 5 6 7 8 15 23 32 33 34 (Zt (Cd.block ?_))
 have own:=Own.nil w7 w.heap.size 115 2
 have e30:w.heap.size≤g30:=Nat.le_trans hsz5 n30.ge
 refine Cd.loop (σ:=Nat × Dk × List (Nat × List Nat) × Nat × Value) (fun q=>[(7, .pointer (some ⟨g30,0,none⟩)),(8,q.2.2.2.2),(32, .slice A ns.length c),(33, .int .i64 (ns.length:Int)),(34, .int .i64 (q.1:Int))]) (fun q wr=>q.1≤ns.length∧R=openGo nm (ns.drop q.1) q.2.1 q.2.2.1 q.2.2.2.1∧q.2.1.off=false∧q.2.2.1.length≤100000*q.1∧DkAt wr B gd q.2.1∧Df B w wr∧Gv wr∧Blk wr g30 111 (wlCs gd nm (q.2.2.2.1:Int) 0 0 false)∧Own wr w.heap.size 3 1 (.slice A ns.length c) ns.length (ns.map fun(n:Nat)=>Value.int .i64 (n:Int))∧Own wr w.heap.size 115 2 q.2.2.2.2 q.2.2.1.length (recsV q.2.2.1)) (fun q=>ns.length-q.1) (0,D,[],0, .slice none 0 0) ⟨Nat.zero_le _,hRR,hoff,Nat.le_refl _,dk,df,gv,k30,ownN,own⟩ ⟨rfl,rfl,rfl,rfl,rfl,trivial⟩ ?_
 clear dk df gv k30 ownN own hRR hoff es
 rintro⟨i,D',acc,num,v⟩ wr ⟨hi,hRR,hoff,hacc,dk,df,gv,k30,ownN,own⟩
 simp only at hi hRR hoff hacc dk k30 own
 show Cd _ _ _ _ [(7, .pointer (some ⟨g30,0,none⟩)),(8,v),(32, .slice A ns.length c),(33, .int .i64 (ns.length:Int)),(34, .int .i64 (i:Int))] _
 refine Zsr ?_
 refine Zls ?_
 refine Zk6 7 8 32 33 34 35 (Zts ?_)
 refine Cd.condD rfl (fun hc=> ?_) (fun hc=> ?_)
 ·obtain⟨n,hn⟩:∃n,ns[i]? =some n:=⟨_,List.getElem?_eq_getElem (by omega)⟩
  have hn6:n≤999999:=((hmem n).1 (List.mem_of_getElem? hn)).1
  rw[drop_head hn,openGo] at hRR
  obtain⟨A',c',hv,hrd⟩:=ownN.reads
  injection hv with e1 _ e2
  subst e1 e2
  obtain⟨ad,rfl,-,hcl⟩:=hrd.2 (by omega)
  have hcd:=hcl i (.int .i64 (n:Int)) (by rw[List.getElem?_map,hn];rfl)
  clear hrd hcl
  refine Cd.skip (Zts (Cd.block (Zsr ?_)))
  refine Zv (Runs.index1 rfl rfl rfl Tryz.underlying40 (by kernel_rfl) (j:=i) rfl (by omega)) ?_
  refine Zv (Runs.load1 rfl rfl Tryz.underlying3 rfl hcd) ?_
  refine Za ?_
  refine Zk7 7 8 10 32 33 34 35 (Ztq ?_)
  refine Zm ?_
  refine Zm ?_
  have hsz:=df.size
  have hsl:=segN_len dk.ok nm n
  refine Zc (Ze Tryz.func57) (segment_any B g30 gd n D' nm (num:Int) 0 0 false _ gv hgB k30 dk hoff hn6 hnm hnl) ?_
  clear dk
  rintro e w3 ⟨vs,rfl,ownS,dk,fw3⟩
  refine⟨_,rfl,?_⟩
  replace df:=df.df fw3
  replace gv:=gv.df fw3
  replace k30:=k30.df fw3
  replace ownN:=ownN.df fw3
  replace own:=own.df fw3
  have hoff':=segN_off (nm:=nm) (n:=n) hoff
  replace ownS:=ownS.mono hsz
  obtain⟨S,hS⟩:∃S,S=segN D' nm n:=⟨_,rfl⟩
  rw[←hS] at hRR ownS dk hoff' hsl
  rw[←hS]
  clear hS
  obtain⟨D2,e2,L⟩:=S
  simp only at hRR ownS dk hoff' hsl
  obtain⟨AL,cL,rfl,-⟩:=ownS.reads
  refine Zm ?_
  refine Zx ?_
  refine Zx ?_
  refine Za ?_
  refine Za ?_
  refine Zk9 7 8 10 11 12 32 33 34 35 (Zts (Zsr ?_))
  refine Zm ?_
  refine Zni ?_
  refine Zk10 7 8 10 11 12 32 33 34 35 45 (Zt ?_)
  refine Cd.cond rfl (fun h=> ?_) (fun h=> ?_)
  ·have h:e2≠0:=by simpa using h
   rw[if_pos h] at hRR
   subst hRR
   refine Zsr ?_
   refine Zm ?_
   refine Za ?_
   refine Za ?_
   refine Za ?_
   refine Zk13 4 5 6 7 8 10 11 12 32 33 34 35 45 (Zt (Cd.ret (Post.then_ret (Post.block_ret (Post.then_ret (Post.round_ret (Post.block_ret (Post.then_ret ?_))))))))
   refine Post.end3 rfl rfl rfl rfl (.inl rfl) ?_
   exact⟨_,_,rfl, .inl ⟨h,rfl,rfl⟩,dk,df⟩
  have h:e2=0:=by simpa using h
  rw[if_neg (by omega)] at hRR
  have hoff2:=hoff' h
  clear hoff hoff'
  refine Cd.skip (Zts (Zsr ?_))
  refine Zm ?_
  refine Zv (Runs.len rfl rfl Tryz.underlying54) ?_
  refine Zm ?_
  refine Zk13 7 8 10 11 12 32 33 34 35 45 47 48 49 (Zt (Cd.block ?_))
  refine Cd.loop (σ:=Nat × Value) (fun q=>[(7, .pointer (some ⟨g30,0,none⟩)),(8,q.2),(10, .int .i64 (n:Int)),(32, .slice (some ad) ns.length c),(33, .int .i64 (ns.length:Int)),(34, .int .i64 (i:Int)),(47, .slice AL L.length cL),(48, .int .i64 (L.length:Int)),(49, .int .i64 (q.1:Int))]) (fun q wr=>q.1≤L.length∧DkAt wr B gd D2∧Df B w wr∧Gv wr∧Blk wr g30 111 (wlCs gd nm (num:Int) 0 0 false)∧Own wr w.heap.size 3 1 (.slice (some ad) ns.length c) ns.length (ns.map fun(n:Nat)=>Value.int .i64 (n:Int))∧Own wr w.heap.size 9 1 (.slice AL L.length cL) L.length (Ts L)∧Own wr w.heap.size 115 2 q.2 (acc++(L.take q.1).map fun s=>(n,s)).length (recsV (acc++(L.take q.1).map fun s=>(n,s)))) (fun q=>L.length-q.1) (0,v) ⟨Nat.zero_le _,dk,df,gv,k30,ownN,ownS,by simpa using own⟩ ⟨rfl,rfl,rfl,rfl,rfl,rfl,rfl,rfl,rfl,trivial⟩ ?_
  clear dk df gv k30 ownN ownS own
  rintro⟨j,v'⟩ wr2 ⟨hj,dk,df,gv,k30,ownN,ownS,own⟩
  simp only at hj own
  obtain⟨A8,c8,rfl,-⟩:=own.reads
  show Cd _ _ _ _ [(7, .pointer (some ⟨g30,0,none⟩)),(8, .slice A8 (acc++(L.take j).map fun s=>(n,s)).length c8),(10, .int .i64 (n:Int)),(32, .slice (some ad) ns.length c),(33, .int .i64 (ns.length:Int)),(34, .int .i64 (i:Int)),(47, .slice AL L.length cL),(48, .int .i64 (L.length:Int)),(49, .int .i64 (j:Int))] _
  have hal:(acc++(L.take j).map fun s=>(n,s)).length=acc.length+j:=by rw[List.length_append,List.length_map,List.length_take];omega
  refine Zsr ?_
  refine Zls ?_
  refine Zk10 7 8 10 32 33 34 47 48 49 50 (Zts ?_)
  refine Cd.condD rfl (fun hc=> ?_) (fun hc=> ?_)
  ·obtain⟨s,hs⟩:∃s,L[j]? =some s:=⟨_,List.getElem?_eq_getElem (by omega)⟩
   obtain⟨A',c',hv,hrd⟩:=ownS.reads
   injection hv with e1 _ e2
   subst e1 e2
   obtain⟨ad2,rfl,-,hcl⟩:=hrd.2 (by omega)
   have hcd:=hcl j (.string (strOf s)) (by rw[get_Ts,hs];rfl)
   clear hrd hcl
   have hnj:L.take (j+1)=L.take j++[s]:=take_last hs
   refine Cd.skip (Zts (Cd.block (Zsr ?_)))
   refine Zv (Runs.index1 rfl rfl rfl Tryz.underlying54 (by kernel_rfl) (j:=j) rfl (by omega)) ?_
   refine Zv (Runs.load1 rfl rfl Tryz.underlying9 rfl hcd) ?_
   refine Za ?_
   refine Zk11 7 8 10 14 32 33 34 47 48 49 50 (Ztr ?_)
   refine Zm ?_
   refine Zm ?_
   refine Zm ?_
   refine Zv (Runs.build rfl rfl (run_build_rec (n:Int) s _)) ?_
   refine Seq.slice (vs:=[_]) (s:=2) rfl rfl rfl Tryz.underlying77 (by kernel_rfl) (zero_wal_Rec) (by omega) (by omega) ⟨rfl,trivial⟩ rfl rfl rfl ?_
   intro g57 w4 n57
   have l57:=Nat.lt_of_lt_of_le k30.lt n57.ge
   replace df:=df.step n57.below
   replace dk:=dk.step n57.below
   replace gv:=gv.step n57.below
   replace ownN:=ownN.step n57.below
   replace own:=own.step n57.below
   replace ownS:=ownS.step n57.below
   replace k30:=k30.step n57.below
   have k57:=n57.blk
   have hrx:=Reads.blk (size:=2) k57 1 rfl
   refine Seq.append rfl rfl rfl Tryz.underlying77 (by kernel_rfl) zero_wal_Rec rfl (by decide) (b:=24) (by kernel_rfl) own hrx (ones_recV (n,s)) df.size (by simp only[maxLen];omega) (by omega) rfl rfl rfl ?_
   intro v2 wb own2 ha
   replace dk:=dk.app own ha
   replace df:=df.app own ha (Nat.le_refl _)
   replace k30:=k30.appNe own ha
   replace gv:=gv.below ha.below hgw
   replace ownN:=ownN.appNe own ha
   replace ownS:=ownS.appNe own ha
   replace own2:Own wb w.heap.size 115 2 v2 ((acc++(L.take j).map fun s=>(n,s)).length+1) (recsV (acc++(L.take j).map fun s=>(n,s))++recsV [(n,s)]):=own2
   rw[←recsV_app,List.append_assoc,←List.map_singleton (f:=fun s=>(n,s)),←List.map_append,←hnj] at own2
   clear own k57 hrx ha
   refine Za ?_
   refine Zk11 7 8 10 14 32 33 34 47 48 49 50 (Post.block_normal (Ztr ?_))
   refine Za_ ?_
   refine Zm ?_
   refine Zk11 7 8 10 14 32 33 34 47 48 49 50 ?_
   refine Post.round (j+1,v2) ⟨rfl,rfl,rfl,rfl,rfl,rfl,rfl,rfl,int_at (by omega),trivial⟩ ⟨by simp only;omega,dk,df,gv,k30,ownN,ownS,?_⟩ (by simp only;omega)
   simp only
   have hl2:(acc++(L.take (j+1)).map fun s=>(n,s)).length=(acc++(L.take j).map fun s=>(n,s)).length+1:=by rw[hal,List.length_append,List.length_map,List.length_take];omega
   rw[hl2]
   exact own2
  ·obtain rfl:j=L.length:=by omega
   rw[List.take_length] at own hal
   rw[List.take_length]
   refine Cd.exit (Post.then_exit (Post.round_exit (Post.block_exit (Ztr ?_))))
   refine Zm ?_
   refine Zm ?_
   refine Za_ ?_
   refine Zv (Runs.nilCheck rfl rfl) ?_
   refine Zf 2 Tryz.underlying111 ?_
   refine Zq k30 ?_
   intro w4 pw4
   replace df:=df.put k30 pw4 e30
   replace dk:=dk.put k30 pw4 e30
   replace gv:=gv.put k30 pw4 e30
   replace ownN:=ownN.put k30 pw4 e30
   replace own:=own.put k30 pw4 e30
   replace ownS:=ownS.put k30 pw4 e30
   replace k30:=pw4.blk
   refine Zk10 7 8 10 32 33 34 47 48 49 50 (Post.block_normal (Ztr ?_))
   refine Za_ ?_
   refine Zm ?_
   refine Zk10 7 8 10 32 33 34 47 48 49 50 ?_
   replace k30:Blk _ g30 111 (wlCs gd nm ((n+1:Nat):Int) 0 0 false):=k30
   exact Post.round (i+1,D2,acc++L.map (fun s=>(n,s)),n+1, .slice A8 (acc++L.map fun s=>(n,s)).length c8) ⟨rfl,rfl,rfl,rfl,int_at (by omega),trivial⟩ ⟨by simp only;omega,hRR,hoff2,by simp only;omega,dk,df,gv,k30,ownN,own⟩ (by simp only;omega)
 ·obtain rfl:i=ns.length:=by omega
  rw[List.drop_length,openGo] at hRR
  subst hRR
  refine Cd.exit (Post.then_exit (Post.round_exit (Post.block_exit (Ztq ?_))))
  refine Zm ?_
  refine Zm ?_
  refine Za ?_
  refine Za ?_
  refine Za ?_
  refine Zk9 4 5 6 7 8 32 33 34 35 (Zt (Cd.ret ?_))
  refine Post.end3 rfl rfl rfl rfl (.inl rfl) ?_
  exact⟨_,_,rfl, .inr ⟨rfl,g30,rfl,e30,k30,own⟩,dk,df⟩
end Go.Proofs.YtdpipgidpkmolaaGreatDoor
namespace Go.Proofs.YtdpipgidpkmolaaGreatDoor
open Go.RowKit
structure Fl where
 num:Int
 level:Int
 first:List Nat
 last:List Nat
 count:Int
 size:Int
abbrev Fl.cs (f:Fl):Array Value:= #[.int .i64 f.num, .int .i64 f.level, .string (strOf f.first), .string (strOf f.last), .int .i64 f.count, .int .i64 f.size]
abbrev Fl.v (f:Fl):Value:= .agg f.cs
def ltB (a b:List Nat):Bool:=Op.bytesLess (strOf a).toList (strOf b).toList
def ovB (f g:Fl):Bool:= !(ltB f.last g.first)&& !(ltB g.last f.first)
theorem overlap_any (f g:Fl)(w:World):Calls Tryz.prog 119 #[f.v,g.v] w fun e w'=>e= .returned (.bool (ovB f g))∧Grow w w':=by
 have bel:=Below.refl w.heap.size w
 refine Zs 17 Tryz.func119 ?_
 refine Zsr ?_
 refine Seq.box rfl rfl rfl rfl rfl ?_
 intro g2 w1 n2
 have e2:=Nat.le_trans bel.size n2.ge
 replace bel:=bel.step n2.below
 have k2:=n2.blk
 refine Seq.box rfl rfl rfl rfl rfl ?_
 intro g3 w2 n3
 have e3:=Nat.le_trans bel.size n3.ge
 have l3:=Nat.lt_of_lt_of_le k2.lt n3.ge
 replace bel:=bel.step n3.below
 replace k2:=k2.step n3.below
 have k3:=n3.blk
 refine Za ?_
 refine Zk5 0 1 2 3 4 (Ztq ?_)
 refine Zf 3 Tryz.underlying81 ?_
 refine ZL Tryz.underlying9 k2 ?_
 refine Zf 2 Tryz.underlying81 ?_
 refine ZL Tryz.underlying9 k3 ?_
 refine Zv (Runs.geqS rfl rfl rfl) ?_
 refine Zm ?_
 refine SeqC.start ?_
 refine Zco (fun hcx=>Runs.fieldB 3 rfl rfl Tryz.underlying81 rfl (by kernel_rfl)) ?_
 refine Zn (fun hcx=>Runs.loadB rfl rfl Tryz.underlying9 rfl k3 rfl) ?_
 refine Zn (fun hcx=>Runs.fieldB 2 rfl rfl Tryz.underlying81 rfl (by kernel_rfl)) ?_
 refine Zn (fun hcx=>Runs.loadB rfl rfl Tryz.underlying9 rfl k2 rfl) ?_
 refine Zn (fun hcx=>Runs.geqS rfl rfl rfl) ?_
 refine Zan ?_
 refine Za ?_
 refine Zk5 0 1 2 3 4 (Zt (Cd.ret ?_))
 refine Ze1 ?_
 exact⟨ret1 (bool_eq rfl),bel⟩
theorem raise_any (a b:Int)(w:World):Calls Tryz.prog 59 #[.int .i64 a, .int .i64 b] w fun e w'=>e= .returned (.tuple #[.int .i64 (if b<0 then a else b), .bool (decide (b<0∨a≤b))])∧Grow w w':=by
 have bel:=Below.refl w.heap.size w
 refine Zs 13 Tryz.func59 ?_
 refine Zsr ?_
 refine Za ?_
 refine Za ?_
 refine Zk4 0 1 4 5 (Zts (Zsr ?_))
 refine Zm ?_
 refine Zls ?_
 refine Zk5 0 1 4 5 7 (Zt ?_)
 refine Cd.condD rfl (fun hc=> ?_) (fun hc=> ?_)
 ·skip
  refine Zsr ?_
  refine Zm ?_
  refine Za ?_
  refine Za ?_
  refine Zk5 0 1 4 5 7 (Zt (Cd.ret (Post.then_ret ?_)))
  refine Ze2 ?_
  exact⟨ret2 (int_eq (by rw[if_pos (by omega)])) (bool_eq (by rw[decide_eq_true (by omega)])),bel⟩
 ·skip
  refine Cd.skip (Ztq ?_)
  refine Zm ?_
  refine Zm ?_
  refine Zm ?_
  refine Zge ?_
  refine Za ?_
  refine Za ?_
  refine Zk5 0 1 4 5 7 (Zt (Cd.ret ?_))
  refine Ze2 ?_
  exact⟨ret2 (int_eq (by rw[if_neg (by omega)])) (bool_eq (by rw[Bool.eq_iff_iff];simp;omega)),bel⟩
theorem within_any (n most:Int)(w:World):Calls Tryz.prog 117 #[.int .i64 n, .int .i64 most] w fun e w'=>e= .returned (.bool (decide (0≤n)&&decide (n≤most)))∧Grow w w':=by
 have bel:=Below.refl w.heap.size w
 refine Zs 12 Tryz.func117 ?_
 refine Zsr ?_
 refine Za ?_
 refine Zk3 0 1 4 (Ztq ?_)
 refine Zm ?_
 refine Zge ?_
 refine Zm ?_
 refine SeqC.start ?_
 refine Zco (fun hcx=>Runs.move rfl rfl) ?_
 refine Znm ?_
 refine Zn (fun hcx=>Runs.leq rfl rfl rfl) ?_
 refine Zan ?_
 refine Za ?_
 refine Zk3 0 1 4 (Zt (Cd.ret ?_))
 refine Ze1 ?_
 exact⟨rfl,bel⟩
end Go.Proofs.YtdpipgidpkmolaaGreatDoor
namespace Go.Proofs.YtdpipgidpkmolaaGreatDoor
open Go.RowKit
def cmpI (a b:Int):Int:=if a<b then -1 else if b<a then 1 else 0
def eqS (a b:List Nat):Bool:=(strOf a).toList==(strOf b).toList
def cmpS (a b:List Nat):Int:=if ltB a b then -1 else if eqS a b then 0 else 1
theorem nanI_any (a:Int)(w:World):Calls Tryz.prog 159 #[.int .i64 a] w fun e w'=>e= .returned (.bool false)∧Grow w w':=by
 have bel:=Below.refl w.heap.size w
 refine Zs 6 Tryz.func159 ?_
 refine Zsr ?_
 refine Za ?_
 refine Zk2 0 2 (Ztq ?_)
 refine Zm ?_
 refine Zm ?_
 refine Zni ?_
 refine Za ?_
 refine Zk2 0 2 (Zt (Cd.ret ?_))
 refine Ze1 ?_
 exact⟨ret1 (bool_eq (by simp)),bel⟩
theorem nanS_any (a:List Nat)(w:World):Calls Tryz.prog 160 #[.string (strOf a)] w fun e w'=>e= .returned (.bool false)∧Grow w w':=by
 have bel:=Below.refl w.heap.size w
 refine Zs 6 Tryz.func160 ?_
 refine Zsr ?_
 refine Za ?_
 refine Zk2 0 2 (Ztq ?_)
 refine Zm ?_
 refine Zm ?_
 refine Zv (Runs.neqS rfl rfl rfl) ?_
 refine Za ?_
 refine Zk2 0 2 (Zt (Cd.ret ?_))
 refine Ze1 ?_
 exact⟨ret1 (bool_eq (by simp)),bel⟩
theorem compareI_any (a b:Int)(w:World):Calls Tryz.prog 125 #[.int .i64 a, .int .i64 b] w fun e w'=>e= .returned (.int .i64 (cmpI a b))∧Grow w w':=by
 have bel:=Below.refl w.heap.size w
 refine Zs 20 Tryz.func125 ?_
 refine Zsr ?_
 refine Za ?_
 refine Zk3 0 1 4 (Ztq ?_)
 refine Zm ?_
 refine Zc (Ze Tryz.func159) (nanI_any a _) ?_
 rintro e w2 ⟨rfl,hb2⟩
 refine⟨_,rfl,?_⟩
 replace bel:=bel.step hb2
 refine Za ?_
 refine Zk4 0 1 4 5 (Ztq ?_)
 refine Zm ?_
 refine Zc (Ze Tryz.func159) (nanI_any b _) ?_
 rintro e w3 ⟨rfl,hb3⟩
 refine⟨_,rfl,?_⟩
 replace bel:=bel.step hb3
 refine Za ?_
 refine Zk5 0 1 4 5 6 (Zts (Zsr ?_))
 refine Zm ?_
 refine Zk6 0 1 4 5 6 11 (Zt ?_)
 refine Cd.condF rfl rfl ?_
 refine Cd.skip (Zts (Zsr ?_))
 refine Zm ?_
 refine Zk7 0 1 4 5 6 11 13 (Zt ?_)
 refine Cd.condF rfl rfl ?_
 refine Cd.skip (Zts (Zsr ?_))
 refine Zm ?_
 refine Zm ?_
 refine Zls ?_
 refine Zk8 0 1 4 5 6 11 13 16 (Zt ?_)
 refine Cd.condD rfl (fun hc=> ?_) (fun hc=> ?_)
 ·skip
  refine Zsr ?_
  refine Za ?_
  refine Zk8 0 1 4 5 6 11 13 16 (Zt (Cd.ret (Post.then_ret ?_)))
  refine Ze1 ?_
  exact⟨ret1 (int_eq (by unfold cmpI;rw[if_pos (by omega)])),bel⟩
 ·have hn:¬a<b:=by omega
  refine Cd.skip (Zts (Zsr ?_))
  refine Zm ?_
  refine Zm ?_
  refine Zgt ?_
  refine Zk9 0 1 4 5 6 11 13 16 19 (Zt ?_)
  refine Cd.condD rfl (fun hc=> ?_) (fun hc=> ?_)
  ·skip
   refine Zsr ?_
   refine Za ?_
   refine Zk9 0 1 4 5 6 11 13 16 19 (Zt (Cd.ret (Post.then_ret ?_)))
   refine Ze1 ?_
   exact⟨ret1 (int_eq (by unfold cmpI;rw[if_neg hn,if_pos (by omega)])),bel⟩
  ·skip
   refine Cd.skip (Ztq ?_)
   refine Za ?_
   refine Zk9 0 1 4 5 6 11 13 16 19 (Zt (Cd.ret ?_))
   refine Ze1 ?_
   exact⟨ret1 (int_eq (by unfold cmpI;rw[if_neg hn,if_neg (by omega)])),bel⟩
theorem compareS_any (a b:List Nat)(w:World):Calls Tryz.prog 126 #[.string (strOf a), .string (strOf b)] w fun e w'=>e= .returned (.int .i64 (cmpS a b))∧Grow w w':=by
 have bel:=Below.refl w.heap.size w
 refine Zs 20 Tryz.func126 ?_
 refine Zsr ?_
 refine Za ?_
 refine Zk3 0 1 4 (Ztq ?_)
 refine Zm ?_
 refine Zc (Ze Tryz.func160) (nanS_any a _) ?_
 rintro e w2 ⟨rfl,hb2⟩
 refine⟨_,rfl,?_⟩
 replace bel:=bel.step hb2
 refine Za ?_
 refine Zk4 0 1 4 5 (Ztq ?_)
 refine Zm ?_
 refine Zc (Ze Tryz.func160) (nanS_any b _) ?_
 rintro e w3 ⟨rfl,hb3⟩
 refine⟨_,rfl,?_⟩
 replace bel:=bel.step hb3
 refine Za ?_
 refine Zk5 0 1 4 5 6 (Zts (Zsr ?_))
 refine Zm ?_
 refine Zk6 0 1 4 5 6 11 (Zt ?_)
 refine Cd.condF rfl rfl ?_
 refine Cd.skip (Zts (Zsr ?_))
 refine Zm ?_
 refine Zk7 0 1 4 5 6 11 13 (Zt ?_)
 refine Cd.condF rfl rfl ?_
 refine Cd.skip (Zts (Zsr ?_))
 refine Zm ?_
 refine Zm ?_
 refine Zv (Runs.lssS rfl rfl rfl) ?_
 refine Zk8 0 1 4 5 6 11 13 16 (Zt ?_)
 have e1:Op.bytesLess (strOf a).toList (strOf b).toList=ltB a b:=rfl
 have e2:((strOf a).toList==(strOf b).toList)=eqS a b:=rfl
 refine Cd.cond rfl (fun h=> ?_) (fun h=> ?_)
 ·skip
  refine Zsr ?_
  refine Za ?_
  refine Zk8 0 1 4 5 6 11 13 16 (Zt (Cd.ret (Post.then_ret ?_)))
  refine Ze1 ?_
  exact⟨ret1 (int_eq (by unfold cmpS;rw[←e1,h,if_pos rfl])),bel⟩
 ·rw[e1] at h
  refine Cd.skip (Zts (Zsr ?_))
  refine Zm ?_
  refine Zm ?_
  refine Zv (Runs.gtrS rfl rfl rfl) ?_
  refine Zk9 0 1 4 5 6 11 13 16 19 (Zt ?_)
  refine Cd.cond rfl (fun h2=> ?_) (fun h2=> ?_)
  ·rw[e1,e2,h] at h2
   refine Zsr ?_
   refine Za ?_
   refine Zk9 0 1 4 5 6 11 13 16 19 (Zt (Cd.ret (Post.then_ret ?_)))
   refine Ze1 ?_
   exact⟨ret1 (int_eq (by unfold cmpS;rw[h,if_neg (by simp),if_neg (by simp at h2;rw[h2];simp)])),bel⟩
  ·rw[e1,e2,h] at h2
   refine Cd.skip (Ztq ?_)
   refine Za ?_
   refine Zk9 0 1 4 5 6 11 13 16 19 (Zt (Cd.ret ?_))
   refine Ze1 ?_
   exact⟨ret1 (int_eq (by unfold cmpS;rw[h,if_neg (by simp),if_pos (by simpa using h2)])),bel⟩
def ordB (f g:Fl):Int:=if f.level≠g.level then cmpI f.level g.level else if f.level=0 then cmpI g.num f.num else cmpS f.first g.first
theorem order_any (f g:Fl)(w:World):Calls Tryz.prog 66 #[f.v,g.v] w fun e w'=>e= .returned (.int .i64 (ordB f g))∧Grow w w':=by
 have bel:=Below.refl w.heap.size w
 refine Zs 28 Tryz.func66 ?_
 refine Zsr ?_
 refine Seq.box rfl rfl rfl rfl rfl ?_
 intro g2 w1 n2
 have e2:=Nat.le_trans bel.size n2.ge
 replace bel:=bel.step n2.below
 have k2:=n2.blk
 refine Seq.box rfl rfl rfl rfl rfl ?_
 intro g3 w2 n3
 have e3:=Nat.le_trans bel.size n3.ge
 have l3:=Nat.lt_of_lt_of_le k2.lt n3.ge
 replace bel:=bel.step n3.below
 replace k2:=k2.step n3.below
 have k3:=n3.blk
 refine Za ?_
 refine Zk5 0 1 2 3 4 (Zts (Zsr ?_))
 refine Zf 1 Tryz.underlying81 ?_
 refine ZL Tryz.underlying3 k2 ?_
 refine Zf 1 Tryz.underlying81 ?_
 refine ZL Tryz.underlying3 k3 ?_
 refine Zni ?_
 refine Zk6 0 1 2 3 4 9 (Zt ?_)
 refine Cd.condD rfl (fun hc=> ?_) (fun hc=> ?_)
 ·have hne:f.level≠g.level:=by omega
  refine Zsr ?_
  refine Zf 1 Tryz.underlying81 ?_
  refine ZL Tryz.underlying3 k2 ?_
  refine Zf 1 Tryz.underlying81 ?_
  refine ZL Tryz.underlying3 k3 ?_
  refine Zc (Ze Tryz.func125) (compareI_any f.level g.level _) ?_
  rintro e w2 ⟨rfl,hb2⟩
  refine⟨_,rfl,?_⟩
  replace bel:=bel.step hb2
  replace k2:=k2.step hb2
  replace k3:=k3.step hb2
  refine Za ?_
  refine Zk6 0 1 2 3 4 9 (Zt (Cd.ret (Post.then_ret ?_)))
  refine Ze1 ?_
  exact⟨ret1 (int_eq (by unfold ordB;rw[if_pos hne])),bel⟩
 ·have hne:¬f.level≠g.level:=by omega
  refine Cd.skip (Zts (Zsr ?_))
  refine Zf 1 Tryz.underlying81 ?_
  refine ZL Tryz.underlying3 k2 ?_
  refine Zqi ?_
  refine Zk7 0 1 2 3 4 9 17 (Zt ?_)
  refine Cd.condD rfl (fun hc=> ?_) (fun hc=> ?_)
  ·have h0:f.level=0:=by omega
   refine Zsr ?_
   refine Zf 0 Tryz.underlying81 ?_
   refine ZL Tryz.underlying3 k3 ?_
   refine Zf 0 Tryz.underlying81 ?_
   refine ZL Tryz.underlying3 k2 ?_
   refine Zc (Ze Tryz.func125) (compareI_any g.num f.num _) ?_
   rintro e w2 ⟨rfl,hb2⟩
   refine⟨_,rfl,?_⟩
   replace bel:=bel.step hb2
   replace k2:=k2.step hb2
   replace k3:=k3.step hb2
   refine Za ?_
   refine Zk7 0 1 2 3 4 9 17 (Zt (Cd.ret (Post.then_ret ?_)))
   refine Ze1 ?_
   exact⟨ret1 (int_eq (by unfold ordB;rw[if_neg hne,if_pos h0])),bel⟩
  ·have h0:¬f.level=0:=by omega
   refine Cd.skip (Ztq ?_)
   refine Zf 2 Tryz.underlying81 ?_
   refine ZL Tryz.underlying9 k2 ?_
   refine Zf 2 Tryz.underlying81 ?_
   refine ZL Tryz.underlying9 k3 ?_
   refine Zc (Ze Tryz.func126) (compareS_any f.first g.first _) ?_
   rintro e w2 ⟨rfl,hb2⟩
   refine⟨_,rfl,?_⟩
   replace bel:=bel.step hb2
   replace k2:=k2.step hb2
   replace k3:=k3.step hb2
   refine Za ?_
   refine Zk7 0 1 2 3 4 9 17 (Zt (Cd.ret ?_))
   refine Ze1 ?_
   exact⟨ret1 (int_eq (by unfold ordB;rw[if_neg hne,if_neg h0])),bel⟩
theorem mayKey_any (a:List Nat)(w:World)(ha:∀x∈a,x<256):Calls Tryz.prog 155 #[.string (strOf a)] w fun e w'=>e= .returned (.bool (decide (1≤a.length)&&decide (a.length≤80)))∧Grow w w':=by
 have bel:=Below.refl w.heap.size w
 refine Zs 10 Tryz.func155 ?_
 refine Zsr ?_
 refine Za ?_
 refine Zk2 0 2 (Ztq ?_)
 refine Zm ?_
 refine Zv (Runs.neqL (a:=a) (b:=[]) rfl rfl rfl ha (by simp)) ?_
 refine Zm ?_
 refine SeqC.start ?_
 refine Zco (fun hcx=>Runs.move rfl rfl) ?_
 refine Zn (fun hcx=>Runs.lenL rfl rfl Tryz.underlying9) ?_
 refine Zn (fun hcx=>Runs.leq rfl rfl rfl) ?_
 refine Zan ?_
 refine Za ?_
 refine Zk2 0 2 (Zt (Cd.ret ?_))
 refine Ze1 ?_
 refine⟨ret1 (bool_eq ?_),bel⟩
 cases a<;>rw[Bool.eq_iff_iff]<;>simp
 omega
theorem eg_mayKey:∀args w,(callFunc 155 args).run Tryz.prog w= .ok (.enter 155 args) w:=fun args w=>run_enter Tryz.func155 (by kernel_rfl) rfl args w
def leB (a b:List Nat):Bool:=ltB a b||eqS a b
def mayB (f:Fl):Bool:=decide (1≤f.num)&&decide (f.num≤999999)&&decide (0≤f.level)&&decide (f.level≤4)&&(decide (1≤f.first.length)&&decide (f.first.length≤80))&&(decide (1≤f.last.length)&&decide (f.last.length≤80))&&leB f.first f.last&&decide (1≤f.count)&&decide (f.count≤1048576)&&decide (1≤f.size)&&decide (f.size≤1048576)
structure Fl.ok (f:Fl):Prop where
 first:∀x∈f.first,x<256
 last:∀x∈f.last,x<256
theorem may_any (f:Fl)(w:World)(hf:f.ok):Calls Tryz.prog 118 #[f.v] w fun e w'=>e= .returned (.bool (mayB f))∧Grow w w':=by
 have bel:=Below.refl w.heap.size w
 refine Zs 61 Tryz.func118 ?_
 refine Zsr ?_
 refine Seq.box rfl rfl rfl rfl rfl ?_
 intro g1 w1 n1
 have e1:=Nat.le_trans bel.size n1.ge
 replace bel:=bel.step n1.below
 have k1:=n1.blk
 refine Za ?_
 refine Zk3 0 1 2 (Ztq ?_)
 refine Za ?_
 refine Zk4 0 1 2 3 (Ztq ?_)
 refine Zf 0 Tryz.underlying81 ?_
 refine ZL Tryz.underlying3 k1 ?_
 refine Zge ?_
 refine Zm ?_
 refine SeqC.start ?_
 refine Zco (fun hcx=>Runs.fieldB 0 rfl rfl Tryz.underlying81 rfl (by kernel_rfl)) ?_
 refine Zn (fun hcx=>Runs.loadB rfl rfl Tryz.underlying3 rfl k1 rfl) ?_
 refine Zn (fun hcx=>Runs.leq rfl rfl rfl) ?_
 refine Zan ?_
 refine Zm ?_
 refine SeqC.start ?_
 refine Zco (fun hcx=>Runs.fieldB 1 rfl rfl Tryz.underlying81 rfl (by kernel_rfl)) ?_
 refine Zn (fun hcx=>Runs.loadB rfl rfl Tryz.underlying3 rfl k1 rfl) ?_
 refine Zn (fun hcx=>Runs.geq rfl rfl rfl) ?_
 refine Zan ?_
 refine Zm ?_
 refine SeqC.start ?_
 refine Zco (fun hcx=>Runs.fieldB 1 rfl rfl Tryz.underlying81 rfl (by kernel_rfl)) ?_
 refine Zn (fun hcx=>Runs.loadB rfl rfl Tryz.underlying3 rfl k1 rfl) ?_
 refine Zn (fun hcx=>Runs.leq rfl rfl rfl) ?_
 refine Zan ?_
 refine Zm ?_
 refine SeqC.start ?_
 refine Zco (fun hcx=>Runs.move rfl rfl) ?_
 refine Zn (fun hcx=>Runs.fieldB 2 rfl rfl Tryz.underlying81 rfl (by kernel_rfl)) ?_
 refine Zn (fun hcx=>Runs.loadB rfl rfl Tryz.underlying9 rfl k1 rfl) ?_
 refine SeqC.nextC rfl rfl rfl rfl rfl rfl rfl (fun hcx=>Enters.value (first:=[]) (cap:=[]) rfl rfl rfl eg_mayKey) (fun hcx=>mayKey_any f.first _ hf.first) ?_
 intro w2 hw2
 replace bel:=bel.step hw2
 replace k1:=k1.step hw2
 refine Zan ?_
 refine Zm ?_
 refine SeqC.start ?_
 refine Zco (fun hcx=>Runs.move rfl rfl) ?_
 refine Zn (fun hcx=>Runs.fieldB 3 rfl rfl Tryz.underlying81 rfl (by kernel_rfl)) ?_
 refine Zn (fun hcx=>Runs.loadB rfl rfl Tryz.underlying9 rfl k1 rfl) ?_
 refine SeqC.nextC rfl rfl rfl rfl rfl rfl rfl (fun hcx=>Enters.value (first:=[]) (cap:=[]) rfl rfl rfl eg_mayKey) (fun hcx=>mayKey_any f.last _ hf.last) ?_
 intro w3 hw3
 replace bel:=bel.step hw3
 replace k1:=k1.step hw3
 refine Zan ?_
 refine Zm ?_
 refine SeqC.start ?_
 refine Zco (fun hcx=>Runs.fieldB 2 rfl rfl Tryz.underlying81 rfl (by kernel_rfl)) ?_
 refine Zn (fun hcx=>Runs.loadB rfl rfl Tryz.underlying9 rfl k1 rfl) ?_
 refine Zn (fun hcx=>Runs.fieldB 3 rfl rfl Tryz.underlying81 rfl (by kernel_rfl)) ?_
 refine Zn (fun hcx=>Runs.loadB rfl rfl Tryz.underlying9 rfl k1 rfl) ?_
 refine Zn (fun hcx=>Runs.leqS rfl rfl rfl) ?_
 refine Zan ?_
 refine Zm ?_
 refine SeqC.start ?_
 refine Zco (fun hcx=>Runs.fieldB 4 rfl rfl Tryz.underlying81 rfl (by kernel_rfl)) ?_
 refine Zn (fun hcx=>Runs.loadB rfl rfl Tryz.underlying3 rfl k1 rfl) ?_
 refine Zn (fun hcx=>Runs.geq rfl rfl rfl) ?_
 refine Zan ?_
 refine Zm ?_
 refine SeqC.start ?_
 refine Zco (fun hcx=>Runs.fieldB 4 rfl rfl Tryz.underlying81 rfl (by kernel_rfl)) ?_
 refine Zn (fun hcx=>Runs.loadB rfl rfl Tryz.underlying3 rfl k1 rfl) ?_
 refine Zn (fun hcx=>Runs.leq rfl rfl rfl) ?_
 refine Zan ?_
 refine Zm ?_
 refine SeqC.start ?_
 refine Zco (fun hcx=>Runs.fieldB 5 rfl rfl Tryz.underlying81 rfl (by kernel_rfl)) ?_
 refine Zn (fun hcx=>Runs.loadB rfl rfl Tryz.underlying3 rfl k1 rfl) ?_
 refine Zn (fun hcx=>Runs.geq rfl rfl rfl) ?_
 refine Zan ?_
 refine Zm ?_
 refine SeqC.start ?_
 refine Zco (fun hcx=>Runs.fieldB 5 rfl rfl Tryz.underlying81 rfl (by kernel_rfl)) ?_
 refine Zn (fun hcx=>Runs.loadB rfl rfl Tryz.underlying3 rfl k1 rfl) ?_
 refine Zn (fun hcx=>Runs.leq rfl rfl rfl) ?_
 refine Zan ?_
 refine Za ?_
 refine Zk4 0 1 2 3 (Zt (Cd.ret ?_))
 refine Ze1 ?_
 exact⟨ret1 (bool_eq rfl),bel⟩
end Go.Proofs.YtdpipgidpkmolaaGreatDoor
namespace Go.Proofs.YtdpipgidpkmolaaGreatDoor
open Go.RowKit
def fcs (fs:List Fl):List Value:=fs.flatMap fun f=>[.int .i64 f.num, .int .i64 f.level, .string (strOf f.first), .string (strOf f.last), .int .i64 f.count, .int .i64 f.size]
theorem fcs_len (fs:List Fl):(fcs fs).length=fs.length*6:=by
 induction fs with
 |nil=>rfl
 |cons f r ih=>
  have:fcs (f::r)=[.int .i64 f.num, .int .i64 f.level, .string (strOf f.first), .string (strOf f.last), .int .i64 f.count, .int .i64 f.size]++fcs r:=rfl
  rw[this,List.length_append,ih]
  simp
  omega
theorem fcs_at {fs:List Fl}{i:Nat}{f:Fl}(h:fs[i]? =some f):∀(j:Nat) (v:Value),f.cs.toList[j]? =some v→(fcs fs)[i*6+j]? =some v:=by
 induction fs generalizing i with
 |nil=>cases h
 |cons x r ih=>
  have hc:fcs (x::r)=[.int .i64 x.num, .int .i64 x.level, .string (strOf x.first), .string (strOf x.last), .int .i64 x.count, .int .i64 x.size]++fcs r:=rfl
  intro j v hj
  have hj6:j<6:=by
   have:=(List.getElem?_eq_some_iff.1 hj).1
   simpa using this
  cases i with
  |zero=>
   injection h with h
   subst h
   rw[hc,Nat.zero_mul,Nat.zero_add,List.getElem?_append_left (by simp;omega)]
   exact hj
  |succ i=>
   rw[hc,List.getElem?_append_right (by simp;omega)]
   have:=ih (by simpa using h) j v hj
   rw[←this]
   congr 1
   simp
   omega
theorem addr_add (ad:Addr)(a b:Nat):(ad.add a).add b=ad.add (a+b):=by
 unfold Addr.add
 by_cases ha:a=0
 ·subst ha;simp
 ·by_cases hb:b=0
  ·subst hb;simp
  ·rw[if_neg ha,if_neg hb,if_neg (by omega),Nat.add_assoc]
section
variable {P:Program} {E:Operand→Option Value} {o:Oper} {w:World} {x:Operand} {T:TypeId}
theorem Runs.loadF {ad:Addr}{m:Nat}{ps:List Value}{d:TypeDesc}(ho:o.op= .load T x)(hx:E x=some (.pointer (some ad)))(hT:P.underlying T=some d)(hd:(match d with| .struct _| .array _ _=>true|_=>false)=true)(hs:sizeIs P T m=true)(hm:ps.length=m)(hc:∀(j:Nat) (v:Value),ps[j]? =some v→w.cell? (ad.add j)=some v):Runs P E o w (.agg ps.toArray) w:=by
 obtain⟨i,hi,hsz⟩:=sizeIs_spec hs
 exact .loadN (cs:=ps) ho hx hT hd hi (by omega) hc
end
theorem Reads.fl {w wr:World}{B n i:Nat}{A:Option Addr}{fs:List Fl}{f:Fl}(h:Reads w B 6 A n (fcs fs))(hb:Below B w wr)(hf:fs[i]? =some f):∃ad,A=some ad∧ad.block<B∧i<n∧∀(j:Nat) (v:Value),f.cs.toList[j]? =some v→wr.cell? ((ad.add (i*6)).add j)=some v:=by
 have hl:=h.1
 rw[fcs_len] at hl
 have hi:=(List.getElem?_eq_some_iff.1 hf).1
 have hin:i<n:=by omega
 obtain⟨ad,rfl,hbl,hc⟩:=h.2 (by omega)
 exact⟨ad,rfl,hbl,hin,fun j v hj=>by
  rw[addr_add]
  exact(hb.cell (by rw[block_of_add];exact hbl)).trans (hc _ _ (fcs_at hf j v hj))⟩
theorem Reads.fl_len {w:World}{B n:Nat}{A:Option Addr}{fs:List Fl}(h:Reads w B 6 A n (fcs fs)):fs.length=n:=by
 have hl:=h.1
 rw[fcs_len] at hl
 omega
def idxP {α:Type}(p:α→Bool)(l:List α):Int:=match l.findIdx? p with|some i=>(i:Int)|none=> -1
theorem idxP_some {α:Type}{p:α→Bool}{l:List α}{i:Nat}{x:α}(h:l[i]? =some x)(hp:p x=true)(hb:∀y∈l.take i,p y=false):idxP p l=(i:Int):=by
 unfold idxP
 have:l.findIdx? p=some i:=by
  rw[List.findIdx?_eq_some_iff_getElem]
  obtain⟨hi,he⟩:=List.getElem?_eq_some_iff.1 h
  refine⟨hi,by rw[he];exact hp,fun j hj=> ?_⟩
  have:=hb (l[j]) (by rw[List.mem_take_iff_getElem];exact⟨j,by omega,rfl⟩)
  rw[this];simp
 rw[this]
theorem idxP_none {α:Type}{p:α→Bool}{l:List α}(hb:∀y∈l,p y=false):idxP p l= -1:=by
 unfold idxP
 have:l.findIdx? p=none:=by rw[List.findIdx?_eq_none_iff];exact hb
 rw[this]
theorem idxP_any {α:Type}(p:α→Bool)(l:List α):decide (0≤idxP p l)=l.any p:=by
 unfold idxP
 cases h:l.findIdx? p with
 |none=>
  rw[List.findIdx?_eq_none_iff] at h
  have:l.any p=false:=by rw[List.any_eq_false];exact fun x hx=>by rw[h x hx];simp
  rw[this];rfl
 |some i=>
  obtain⟨hi,he,-⟩:=List.findIdx?_eq_some_iff_getElem.1 h
  have:l.any p=true:=by rw[List.any_eq_true];exact⟨_,List.getElem_mem hi,he⟩
  rw[this];simp
theorem indexF_any (g:Nat)(cp:List Value)(p:Fl→Bool)(B:Nat)(A:Option Addr)(n cap:Nat)(fs:List Fl)(w:World)(hr:Reads w B 6 A n (fcs fs))(hB:B≤w.heap.size)(hn:n≤1000000000)
  (eg:∀args w,(callFunc g args).run Tryz.prog w= .ok (.enter g args) w) (hp:∀f∈fs,∀W,Below w.heap.size w W→Calls Tryz.prog g ([]++[f.v]++cp).toArray W fun e w'=>e= .returned (.bool (p f))∧Grow W w'):
  Calls Tryz.prog 62 #[.slice A n cap, .func (.func g) #[] cp.toArray] w fun e w'=>e= .returned (.int .i64 (idxP p fs))∧Grow w w':=by
 have bel:=Below.refl w.heap.size w
 have hfl:=hr.fl_len
 refine Zs 19 Tryz.func62 ?_
 refine Zsr ?_
 refine Za ?_
 refine Zk3 0 1 4 (Zts (Zsr ?_))
 refine Zm ?_
 refine Zv (Runs.len rfl rfl Tryz.underlying36) ?_
 refine Zm ?_
 refine Zk5 0 1 4 7 8 (Zt (Cd.block ?_))
 refine Cd.loop (σ:=Nat) (fun k=>[(0, .slice A n cap),(1, .func (.func g) #[] cp.toArray),(7, .int .i64 (n:Int)),(8, .int .i64 (k:Int))])
  (fun k wr=>k≤n∧(∀y∈fs.take k,p y=false)∧Below w.heap.size w wr) (fun k=>n-k) 0 ⟨Nat.zero_le _,by simp,bel⟩ ⟨rfl,rfl,rfl,rfl,trivial⟩ ?_
 clear bel
 rintro k wr ⟨hk,hno,bel⟩
 refine Zsr ?_
 refine Zls ?_
 refine Zk5 0 1 7 8 9 (Zts ?_)
 refine Cd.condD rfl (fun hc=> ?_) (fun hc=> ?_)
 ·obtain⟨f,hf⟩:∃f,fs[k]? =some f:=⟨_,List.getElem?_eq_getElem (show k<fs.length by omega)⟩
  obtain⟨ad,rfl,hbl,hin,hc⟩:=hr.fl (bel.mono hB) hf
  have htk:fs.take (k+1)=fs.take k++[f]:=by rw[List.take_add_one,hf];rfl
  refine Cd.skip (Zts (Cd.block (Zsr ?_)))
  refine Zm ?_
  refine Za ?_
  refine Zk6 0 1 5 7 8 9 (Ztq ?_)
  refine Zm ?_
  refine Zm ?_
  refine Zm ?_
  refine Zv (Runs.indexN rfl rfl rfl Tryz.underlying36 (s:=6) (by kernel_rfl) (j:=k) rfl (by omega)) ?_
  refine Zv (Runs.loadF (ps:=[.int .i64 f.num, .int .i64 f.level, .string (strOf f.first), .string (strOf f.last), .int .i64 f.count, .int .i64 f.size]) rfl rfl Tryz.underlying81 rfl (m:=6) (by kernel_rfl) rfl hc) ?_
  refine Seq.call (Enters.value (first:=[]) (cap:=cp) rfl rfl rfl eg) rfl rfl rfl (hp f (List.mem_of_getElem? hf) _ bel) ?_
  rintro e w5 ⟨rfl,hb5⟩
  refine⟨_,rfl,?_⟩
  replace bel:=bel.step hb5
  refine Zk7 0 1 5 7 8 9 16 (Zt ?_)
  refine Cd.cond rfl (fun h=> ?_) (fun h=> ?_)
  ·skip
   refine Zsr ?_
   refine Zm ?_
   refine Za ?_
   refine Zk8 0 1 4 5 7 8 9 16 (Zt (Cd.ret (Post.block_ret (Post.then_ret (Post.round_ret (Post.block_ret (Post.then_ret ?_)))))))
   refine Ze1 ?_
   exact⟨ret1 (int_eq (idxP_some hf h hno).symm),bel⟩
  ·skip
   refine Cd.skip (Post.block_normal (Ztr ?_))
   refine Za_ ?_
   refine Zm ?_
   refine Zk7 0 1 5 7 8 9 16 ?_
   refine Post.round (k+1) ⟨rfl,rfl,rfl,rfl,trivial⟩ ⟨by omega,fun y hy=> ?_,bel⟩ (by omega)
   rw[htk] at hy
   rcases List.mem_append.1 hy with hy|hy
   ·exact hno y hy
   ·simp at hy;subst hy;exact h
 ·obtain rfl:k=n:=by omega
  rw[List.take_of_length_le (by omega)] at hno
  refine Cd.exit (Post.then_exit (Post.round_exit (Post.block_exit (Ztq ?_))))
  refine Za ?_
  refine Zk6 0 1 4 7 8 9 (Zt (Cd.ret ?_))
  refine Ze1 ?_
  exact⟨ret1 (int_eq (idxP_none hno).symm),bel⟩
theorem containsF_any (g:Nat)(cp:List Value)(p:Fl→Bool)(B:Nat)(A:Option Addr)(n cap:Nat)(fs:List Fl)(w:World)(hr:Reads w B 6 A n (fcs fs))(hB:B≤w.heap.size)(hn:n≤1000000000)
  (eg:∀args w,(callFunc g args).run Tryz.prog w= .ok (.enter g args) w) (hp:∀f∈fs,∀W,Below w.heap.size w W→Calls Tryz.prog g ([]++[f.v]++cp).toArray W fun e w'=>e= .returned (.bool (p f))∧Grow W w'):
  Calls Tryz.prog 122 #[.slice A n cap, .func (.func g) #[] cp.toArray] w fun e w'=>e= .returned (.bool (fs.any p))∧Grow w w':=by
 have bel:=Below.refl w.heap.size w
 have hc:=fun W (hb:Below w.heap.size w W)=>indexF_any g cp p B A n cap fs W (hr.below (hb.mono hB)) (Nat.le_trans hB hb.size) hn eg (fun f hf W2 hb2=>hp f hf W2 (hb.trans (hb2.mono hb.size)))
 have hany:=idxP_any p fs
 refine Zs 9 Tryz.func122 ?_
 refine Zsr ?_
 refine Za ?_
 refine Zk3 0 1 4 (Ztq ?_)
 refine Zm ?_
 refine Zm ?_
 refine Zc (Ze Tryz.func62) (hc _ bel) ?_
 rintro e w5 ⟨rfl,hb5⟩
 refine⟨_,rfl,?_⟩
 replace bel:=bel.step hb5
 refine Zge ?_
 refine Za ?_
 refine Zk3 0 1 4 (Zt (Cd.ret ?_))
 refine Ze1 ?_
 exact⟨ret1 (bool_eq hany),bel⟩
end Go.Proofs.YtdpipgidpkmolaaGreatDoor
namespace Go.Proofs.YtdpipgidpkmolaaGreatDoor
open Go.RowKit
section
variable {P:Program} {E:Operand→Option Value} {o:Oper} {w:World} {x y z u:Operand} {k:IntKind} {p q r s:Int}
theorem Runs.min3 {ts:Array TypeId}(ho:o.op= .call {callee:= .builtin .min,args:= #[x,y,z],argTypes:=ts}) (hx:E x=some (.int k p)) (hy:E y=some (.int k q)) (hz:E z=some (.int k r)):Runs P E o w (.int k (min (min p q) r)) w:=
 .of_call ho rfl (vs:=[.int k p, .int k q, .int k r]) (by simp only[evL,hx,hy,hz]) (fun cs=>by
  have h1:(if q<p then q else p)=min p q:=by omega
  have h2:(if r<min p q then r else min p q)=min (min p q) r:=by omega
  simp[builtin,Builtin.min_,Builtin.min2,h1,h2])
theorem Runs.min4 {ts:Array TypeId}(ho:o.op= .call {callee:= .builtin .min,args:= #[x,y,z,u],argTypes:=ts}) (hx:E x=some (.int k p)) (hy:E y=some (.int k q)) (hz:E z=some (.int k r)) (hu:E u=some (.int k s)):Runs P E o w (.int k (min (min (min p q) r) s)) w:=
 .of_call ho rfl (vs:=[.int k p, .int k q, .int k r, .int k s]) (by simp only[evL,hx,hy,hz,hu]) (fun cs=>by
  have h1:(if q<p then q else p)=min p q:=by omega
  have h2:(if r<min p q then r else min p q)=min (min p q) r:=by omega
  have h3:(if s<min (min p q) r then s else min (min p q) r)=min (min (min p q) r) s:=by omega
  simp[builtin,Builtin.min_,Builtin.min2,h1,h2,h3]
  split<;>omega)
end
def badF (f:Fl):Bool:=decide (min (min (min f.num f.level) f.count) f.size<0)||decide (80<max (f.first.length:Int) (f.last.length:Int))
theorem laidF_any (f:Fl)(w:World):Calls Tryz.prog 120 #[f.v] w fun e w'=>e= .returned (.bool (badF f))∧Grow w w':=by
 have bel:=Below.refl w.heap.size w
 refine Zs 23 Tryz.func120 ?_
 refine Zsr ?_
 refine Seq.box rfl rfl rfl rfl rfl ?_
 intro g1 w1 n1
 have e1:=Nat.le_trans bel.size n1.ge
 replace bel:=bel.step n1.below
 have k1:=n1.blk
 refine Za ?_
 refine Zk3 0 1 2 (Ztq ?_)
 refine Zf 0 Tryz.underlying81 ?_
 refine ZL Tryz.underlying3 k1 ?_
 refine Zf 1 Tryz.underlying81 ?_
 refine ZL Tryz.underlying3 k1 ?_
 refine Zf 4 Tryz.underlying81 ?_
 refine ZL Tryz.underlying3 k1 ?_
 refine Zf 5 Tryz.underlying81 ?_
 refine ZL Tryz.underlying3 k1 ?_
 refine Zv (Runs.min4 rfl rfl rfl rfl rfl) ?_
 refine Zls ?_
 refine Zm ?_
 refine SeqC.start ?_
 refine Zco (fun hcx=>Runs.fieldB 2 rfl rfl Tryz.underlying81 rfl (by kernel_rfl)) ?_
 refine Zn (fun hcx=>Runs.loadB rfl rfl Tryz.underlying9 rfl k1 rfl) ?_
 refine Zn (fun hcx=>Runs.lenL rfl rfl Tryz.underlying9) ?_
 refine Zn (fun hcx=>Runs.fieldB 3 rfl rfl Tryz.underlying81 rfl (by kernel_rfl)) ?_
 refine Zn (fun hcx=>Runs.loadB rfl rfl Tryz.underlying9 rfl k1 rfl) ?_
 refine Zn (fun hcx=>Runs.lenL rfl rfl Tryz.underlying9) ?_
 refine Zn (fun hcx=>Runs.max2 rfl rfl rfl) ?_
 refine Zn (fun hcx=>Runs.gtr rfl rfl rfl) ?_
 refine Zor ?_
 refine Za ?_
 refine Zk3 0 1 2 (Zt (Cd.ret ?_))
 refine Ze1 ?_
 exact⟨ret1 (bool_eq rfl),bel⟩
theorem laidN_any (n:Int)(w:World):Calls Tryz.prog 121 #[.int .i64 n] w fun e w'=>e= .returned (.bool (decide (n<0)))∧Grow w w':=by
 have bel:=Below.refl w.heap.size w
 refine Zs 5 Tryz.func121 ?_
 refine Zsr ?_
 refine Za ?_
 refine Zk2 0 2 (Ztq ?_)
 refine Zm ?_
 refine Zls ?_
 refine Za ?_
 refine Zk2 0 2 (Zt (Cd.ret ?_))
 refine Ze1 ?_
 exact⟨rfl,bel⟩
theorem eg_laidF:∀args w,(callFunc 120 args).run Tryz.prog w= .ok (.enter 120 args) w:=fun args w=>run_enter Tryz.func120 (by kernel_rfl) rfl args w
theorem eg_laidN:∀args w,(callFunc 121 args).run Tryz.prog w= .ok (.enter 121 args) w:=fun args w=>run_enter Tryz.func121 (by kernel_rfl) rfl args w
def DI (l:List Int):List Value:=l.map fun z=> .int .i64 z
theorem indexN_any (g:Nat)(cp:List Value)(p:Int→Bool)(B:Nat)(A:Option Addr)(n cap:Nat)(l:List Int)(w:World)(hr:Reads w B 1 A n (DI l))(hB:B≤w.heap.size)(hn:n≤1000000000)
  (eg:∀args w,(callFunc g args).run Tryz.prog w= .ok (.enter g args) w) (hp:∀z∈l,∀W,Below w.heap.size w W→Calls Tryz.prog g ([]++[Value.int .i64 z]++cp).toArray W fun e w'=>e= .returned (.bool (p z))∧Grow W w'):
  Calls Tryz.prog 156 #[.slice A n cap, .func (.func g) #[] cp.toArray] w fun e w'=>e= .returned (.int .i64 (idxP p l))∧Grow w w':=by
 have bel:=Below.refl w.heap.size w
 have hll:l.length=n:=by have:=hr.1;simpa[DI] using this
 refine Zs 19 Tryz.func156 ?_
 refine Zsr ?_
 refine Za ?_
 refine Zk3 0 1 4 (Zts (Zsr ?_))
 refine Zm ?_
 refine Zv (Runs.len rfl rfl Tryz.underlying40) ?_
 refine Zm ?_
 refine Zk5 0 1 4 7 8 (Zt (Cd.block ?_))
 refine Cd.loop (σ:=Nat) (fun k=>[(0, .slice A n cap),(1, .func (.func g) #[] cp.toArray),(7, .int .i64 (n:Int)),(8, .int .i64 (k:Int))])
  (fun k wr=>k≤n∧(∀y∈l.take k,p y=false)∧Below w.heap.size w wr) (fun k=>n-k) 0 ⟨Nat.zero_le _,by simp,bel⟩ ⟨rfl,rfl,rfl,rfl,trivial⟩ ?_
 clear bel
 rintro k wr ⟨hk,hno,bel⟩
 refine Zsr ?_
 refine Zls ?_
 refine Zk5 0 1 7 8 9 (Zts ?_)
 refine Cd.condD rfl (fun hc=> ?_) (fun hc=> ?_)
 ·obtain⟨f,hf⟩:∃f,l[k]? =some f:=⟨_,List.getElem?_eq_getElem (show k<l.length by omega)⟩
  obtain⟨ad,rfl,hbl,hc⟩:=hr.2 (by omega)
  have hc:=(bel.cell (p:=ad.add k) (by rw[block_of_add];omega)).trans (hc k (.int .i64 f) (by simp[DI,hf]))
  have htk:l.take (k+1)=l.take k++[f]:=by rw[List.take_add_one,hf];rfl
  refine Cd.skip (Zts (Cd.block (Zsr ?_)))
  refine Zm ?_
  refine Za ?_
  refine Zk6 0 1 5 7 8 9 (Ztq ?_)
  refine Zm ?_
  refine Zm ?_
  refine Zm ?_
  refine Zv (Runs.index1 rfl rfl rfl Tryz.underlying40 (by kernel_rfl) (j:=k) rfl (by omega)) ?_
  refine Zv (Runs.load1 rfl rfl Tryz.underlying3 rfl hc) ?_
  refine Seq.call (Enters.value (first:=[]) (cap:=cp) rfl rfl rfl eg) rfl rfl rfl (hp f (List.mem_of_getElem? hf) _ bel) ?_
  rintro e w5 ⟨rfl,hb5⟩
  refine⟨_,rfl,?_⟩
  replace bel:=bel.step hb5
  refine Zk7 0 1 5 7 8 9 16 (Zt ?_)
  refine Cd.cond rfl (fun h=> ?_) (fun h=> ?_)
  ·skip
   refine Zsr ?_
   refine Zm ?_
   refine Za ?_
   refine Zk8 0 1 4 5 7 8 9 16 (Zt (Cd.ret (Post.block_ret (Post.then_ret (Post.round_ret (Post.block_ret (Post.then_ret ?_)))))))
   refine Ze1 ?_
   exact⟨ret1 (int_eq (idxP_some hf h hno).symm),bel⟩
  ·skip
   refine Cd.skip (Post.block_normal (Ztr ?_))
   refine Za_ ?_
   refine Zm ?_
   refine Zk7 0 1 5 7 8 9 16 ?_
   refine Post.round (k+1) ⟨rfl,rfl,rfl,rfl,trivial⟩ ⟨by omega,fun y hy=> ?_,bel⟩ (by omega)
   rw[htk] at hy
   rcases List.mem_append.1 hy with hy|hy
   ·exact hno y hy
   ·simp at hy;subst hy;exact h
 ·obtain rfl:k=n:=by omega
  rw[List.take_of_length_le (by omega)] at hno
  refine Cd.exit (Post.then_exit (Post.round_exit (Post.block_exit (Ztq ?_))))
  refine Za ?_
  refine Zk6 0 1 4 7 8 9 (Zt (Cd.ret ?_))
  refine Ze1 ?_
  exact⟨ret1 (int_eq (idxP_none hno).symm),bel⟩
theorem containsN_any (g:Nat)(cp:List Value)(p:Int→Bool)(B:Nat)(A:Option Addr)(n cap:Nat)(l:List Int)(w:World)(hr:Reads w B 1 A n (DI l))(hB:B≤w.heap.size)(hn:n≤1000000000)
  (eg:∀args w,(callFunc g args).run Tryz.prog w= .ok (.enter g args) w) (hp:∀z∈l,∀W,Below w.heap.size w W→Calls Tryz.prog g ([]++[Value.int .i64 z]++cp).toArray W fun e w'=>e= .returned (.bool (p z))∧Grow W w'):
  Calls Tryz.prog 123 #[.slice A n cap, .func (.func g) #[] cp.toArray] w fun e w'=>e= .returned (.bool (l.any p))∧Grow w w':=by
 have bel:=Below.refl w.heap.size w
 have hc:=fun W (hb:Below w.heap.size w W)=>indexN_any g cp p B A n cap l W (hr.below (hb.mono hB)) (Nat.le_trans hB hb.size) hn eg (fun f hf W2 hb2=>hp f hf W2 (hb.trans (hb2.mono hb.size)))
 have hany:=idxP_any p l
 refine Zs 9 Tryz.func123 ?_
 refine Zsr ?_
 refine Za ?_
 refine Zk3 0 1 4 (Ztq ?_)
 refine Zm ?_
 refine Zm ?_
 refine Zc (Ze Tryz.func156) (hc _ bel) ?_
 rintro e w5 ⟨rfl,hb5⟩
 refine⟨_,rfl,?_⟩
 replace bel:=bel.step hb5
 refine Zge ?_
 refine Za ?_
 refine Zk3 0 1 4 (Zt (Cd.ret ?_))
 refine Ze1 ?_
 exact⟨ret1 (bool_eq hany),bel⟩
def laidB (lg nx sq:Int)(drop:List Int)(add:List Fl):Bool:=decide (-1≤min (min lg nx) sq)&&decide (max (drop.length:Int) (add.length:Int)≤100)&& !(add.any badF)&& !(drop.any fun n=>decide (n<0))
theorem laid_any (lg nx sq:Int)(B:Nat)(A A':Option Addr)(cap cap':Nat)(drop:List Int)(add:List Fl)(w:World)(hr:Reads w B 1 A drop.length (DI drop))(hr':Reads w B 6 A' add.length (fcs add))(hB:B≤w.heap.size):
  Calls Tryz.prog 61 #[.agg #[.int .i64 lg, .int .i64 nx, .int .i64 sq, .slice A drop.length cap, .slice A' add.length cap']] w fun e w'=>e= .returned (.bool (laidB lg nx sq drop add))∧Grow w w':=by
 have bel:=Below.refl w.heap.size w
 have hc:=fun W (hb:Below w.heap.size w W) (hn:add.length≤1000000000)=>containsF_any 120 [] badF B A' add.length cap' add W (hr'.below (hb.mono hB)) (Nat.le_trans hB hb.size) hn eg_laidF (fun f _ W2 _=>laidF_any f W2)
 have hc':=fun W (hb:Below w.heap.size w W) (hn:drop.length≤1000000000)=>containsN_any 121 [] (fun n=>decide (n<0)) B A drop.length cap drop W (hr.below (hb.mono hB)) (Nat.le_trans hB hb.size) hn eg_laidN (fun f _ W2 _=>laidN_any f W2)
 refine Zs 37 Tryz.func61 ?_
 refine Zsr ?_
 refine Seq.box rfl rfl rfl rfl rfl ?_
 intro g1 w1 n1
 have e1:=Nat.le_trans bel.size n1.ge
 replace bel:=bel.step n1.below
 have k1:=n1.blk
 refine Za ?_
 refine Zk3 0 1 2 (Ztq ?_)
 refine Za ?_
 refine Zk4 0 1 2 3 (Ztq ?_)
 refine Za ?_
 refine Zk5 0 1 2 3 4 (Ztq ?_)
 refine Zf 0 Tryz.underlying47 ?_
 refine ZL Tryz.underlying3 k1 ?_
 refine Zf 1 Tryz.underlying47 ?_
 refine ZL Tryz.underlying3 k1 ?_
 refine Zf 2 Tryz.underlying47 ?_
 refine ZL Tryz.underlying3 k1 ?_
 refine Zv (Runs.min3 rfl rfl rfl rfl) ?_
 refine Zge ?_
 refine Zm ?_
 refine SeqC.start ?_
 refine Zco (fun hcx=>Runs.fieldB 3 rfl rfl Tryz.underlying47 rfl (by kernel_rfl)) ?_
 refine Zn (fun hcx=>Runs.loadB rfl rfl Tryz.underlying40 rfl k1 rfl) ?_
 refine Zn (fun hcx=>Runs.len rfl rfl Tryz.underlying40) ?_
 refine Zn (fun hcx=>Runs.fieldB 4 rfl rfl Tryz.underlying47 rfl (by kernel_rfl)) ?_
 refine Zn (fun hcx=>Runs.loadB rfl rfl Tryz.underlying36 rfl k1 rfl) ?_
 refine Zn (fun hcx=>Runs.len rfl rfl Tryz.underlying36) ?_
 refine Zn (fun hcx=>Runs.max2 rfl rfl rfl) ?_
 refine Zn (fun hcx=>Runs.leq rfl rfl rfl) ?_
 refine Zan ?_
 refine Zm ?_
 refine SeqC.start ?_
 refine Zco (fun hcx=>Runs.fieldB 4 rfl rfl Tryz.underlying47 rfl (by kernel_rfl)) ?_
 refine Zn (fun hcx=>Runs.loadB rfl rfl Tryz.underlying36 rfl k1 rfl) ?_
 refine Znm ?_
 refine SeqC.nextC rfl rfl rfl rfl rfl rfl rfl (fun hcx=>Ze Tryz.func122) (fun hcx=>hc _ bel (by simp[topX] at hcx;omega)) ?_
 intro w2 hw2
 replace bel:=bel.step hw2
 replace k1:=k1.step hw2
 refine Zn (fun hcx=>Runs.not rfl rfl) ?_
 refine Zan ?_
 refine Zm ?_
 refine SeqC.start ?_
 refine Zco (fun hcx=>Runs.fieldB 3 rfl rfl Tryz.underlying47 rfl (by kernel_rfl)) ?_
 refine Zn (fun hcx=>Runs.loadB rfl rfl Tryz.underlying40 rfl k1 rfl) ?_
 refine Znm ?_
 refine SeqC.nextC rfl rfl rfl rfl rfl rfl rfl (fun hcx=>Ze Tryz.func123) (fun hcx=>hc' _ bel (by simp[topX] at hcx;omega)) ?_
 intro w3 hw3
 replace bel:=bel.step hw3
 replace k1:=k1.step hw3
 refine Zn (fun hcx=>Runs.not rfl rfl) ?_
 refine Zan ?_
 refine Za ?_
 refine Zk5 0 1 2 3 4 (Zt (Cd.ret ?_))
 refine Ze1 ?_
 exact⟨ret1 (bool_eq rfl),bel⟩
end Go.Proofs.YtdpipgidpkmolaaGreatDoor
namespace Go.Proofs.YtdpipgidpkmolaaGreatDoor
open Go.RowKit
def grpK:Nat→Nat→List Nat
 |0,n=>[n]
 |k+1,n=>if n<128 then [n] else(n%128+128)::grpK k (n/128)
def grp (n:Nat):List Nat:=grpK 9 n
theorem grpK_small {k n:Nat}(h:n<128):grpK k n=[n]:=by
 cases k with
 |zero=>rfl
 |succ k=>unfold grpK;rw[if_pos h]
theorem grpK_more {k n:Nat}(h:¬n<128):grpK (k+1) n=(n%128+128)::grpK k (n/128):=by
 show(if n<128 then [n] else(n%128+128)::grpK k (n/128))=_
 rw[if_neg h]
theorem grpK_len:∀k n,(grpK k n).length≤k+1
 |0,n=>by simp[grpK]
 |k+1,n=>by
  unfold grpK
  split
  ·simp
  ·have:=grpK_len k (n/128)
   simp;omega
theorem grp_len (n:Nat):(grp n).length≤10:=grpK_len 9 n
theorem grpK_lt:∀k n,n<2*128^k→∀d∈grpK k n,d<256
 |0,n,h,d,hd=>by simp[grpK] at hd;subst hd;simp at h;omega
 |k+1,n,h,d,hd=>by
  unfold grpK at hd
  split at hd
  ·simp at hd;omega
  ·rcases List.mem_cons.1 hd with rfl|hd
   ·omega
   ·refine grpK_lt k (n/128) ?_ d hd
    rw[Nat.pow_succ] at h
    rw[Nat.div_lt_iff_lt_mul (by omega)]
    omega
theorem grp_lt {n:Nat}(h:n<18446744073709551616):∀d∈grp n,d<256:=grpK_lt 9 n (by omega)
theorem groups_any (B g n:Nat)(bs:List Nat)(w:World)(h:Wr w B g bs)(hn:n<18446744073709551616)(hl:bs.length+10≤1000000000):
  Calls Tryz.prog 127 #[.pointer (some ⟨g,0,none⟩), .int .u64 (n:Int)] w fun e w'=>e= .returned (.pointer (some ⟨g,0,none⟩))∧Wf B w w'∧Wr w' B g (bs++grp n):=by
 have wf:=Wf.refl B w
 have hn9:n<2*128^9:=by omega
 refine Zs 20 Tryz.func127 ?_
 refine Zsr ?_
 refine Za ?_
 refine Zk3 0 1 4 (Zts (Cd.block ?_))
 refine Cd.loop (σ:=List Nat × Nat × Nat) (fun s=>[(0, .pointer (some ⟨g,0,none⟩)),(1, .int .u64 (s.2.2:Int))])
  (fun s wr=>s.1.length+s.2.1=9∧s.2.2<2*128^s.2.1∧s.1++grpK s.2.1 s.2.2=grp n∧Wf B w wr∧Wr wr B g (bs++s.1)) (fun s=>s.2.1) ([],9,n) ⟨rfl,hn9,List.nil_append _,wf,by rw[List.append_nil];exact h⟩ ⟨rfl,rfl,trivial⟩ ?_
 clear wf
 rintro⟨done,k,m⟩ wr0 ⟨hd,hm,he,wf,wr⟩
 simp only at hd hm he wr
 show Cd _ _ _ _ [(0, .pointer (some ⟨g,0,none⟩)),(1, .int .u64 (m:Int))] _
 have hm64:m<18446744073709551616:=Nat.lt_of_lt_of_le hm (by
  have:(128:Nat)^k≤128^9:=Nat.pow_le_pow_right (by omega) (by omega)
  omega)
 refine Cd.seq (Zsr ?_)
 refine Zm ?_
 refine Zge ?_
 refine Zk3 0 1 6 (Zt ?_)
 refine Cd.condD rfl (fun hc=> ?_) (fun hc=> ?_)
 ·obtain⟨k,rfl⟩:∃j,k=j+1:=⟨k-1,by
   rcases Nat.eq_zero_or_pos k with h0|h0
   ·subst h0;simp at hm;omega
   ·omega⟩
  refine Cd.skip (Zts (Cd.block (Zr ?_)))
  refine Zm ?_
  refine Zm ?_
  refine Zv (Runs.convI rfl rfl Tryz.underlying164 Tryz.underlying5 (wrap8 m)) ?_
  refine Zv ((Runs.or8 (b:=128) rfl rfl rfl (by omega) (by omega)).cast (by rw[or128 (m%256) (by omega),show m%256%128=m%128 by omega])) ?_
  refine Seq.slice (vs:=[_]) (s:=1) rfl rfl rfl Tryz.underlying103 (by kernel_rfl) (zero_uint8) (by omega) (by omega) ⟨rfl,trivial⟩ rfl rfl rfl ?_
  intro g13 w1 n13
  have e13:=Nat.le_trans wf.below.size n13.ge
  replace wf:=wf.step n13.below
  replace wr:=wr.step n13.below
  have k13:=n13.blk
  have hrd:Reads w1 w1.heap.size 1 (some ⟨g13,0,none⟩) 1 (Bt [m%128+128]):=Reads.blk (size:=1) k13 1 rfl
  refine Zc (Ze Tryz.func161) (put_any B g _ 1 1 _ _ [m%128+128] _ wr hrd (by simp;omega) (by simp;omega)) ?_
  clear wr
  rintro e w2 ⟨rfl,fw2,wr⟩
  refine⟨_,rfl,?_⟩
  replace wf:=wf.wf fw2
  refine Zk3 0 1 6 (Post.block_normal (Ztr ?_))
  refine Zm ?_
  refine Zv ((Runs.shrL rfl rfl rfl (s:=7) rfl (by omega)).cast (v':= .int .u64 ((m/128:Nat):Int)) (by rw[show(2:Nat)^7=128 from rfl])) ?_
  refine Za ?_
  refine Zk3 0 1 6 ?_
  rw[List.append_assoc] at wr
  refine Post.round (done++[m%128+128],k,m/128) ⟨rfl,rfl,trivial⟩ ⟨by simp;omega,?_,?_,wf,wr⟩ (by simp)
  ·simp only
   rw[Nat.pow_succ] at hm
   rw[Nat.div_lt_iff_lt_mul (by omega)]
   omega
  ·rw[←he,grpK_more (by omega),List.append_assoc];rfl
 ·skip
  refine Cd.exit (Post.then_exit (Post.round_exit (Post.block_exit (Ztq ?_))))
  refine Zm ?_
  refine Zm ?_
  refine Zv (Runs.convI rfl rfl Tryz.underlying164 Tryz.underlying5 (wrapB (by omega) (by omega))) ?_
  refine Seq.slice (vs:=[_]) (s:=1) rfl rfl rfl Tryz.underlying103 (by kernel_rfl) (zero_uint8) (by omega) (by omega) ⟨rfl,trivial⟩ rfl rfl rfl ?_
  intro g18 w1 n18
  have e18:=Nat.le_trans wf.below.size n18.ge
  replace wf:=wf.step n18.below
  replace wr:=wr.step n18.below
  have k18:=n18.blk
  have hrd:Reads w1 w1.heap.size 1 (some ⟨g18,0,none⟩) 1 (Bt [m]):=Reads.blk (size:=1) k18 1 rfl
  refine Zc (Ze Tryz.func161) (put_any B g _ 1 1 _ _ [m] _ wr hrd (by simp;omega) (by simp;omega)) ?_
  clear wr
  rintro e w2 ⟨rfl,fw2,wr⟩
  refine⟨_,rfl,?_⟩
  replace wf:=wf.wf fw2
  refine Za ?_
  refine Zk4 0 1 4 6 (Zt (Cd.ret ?_))
  refine Ze1 ?_
  rw[List.append_assoc,show done++[m]=grp n by rw[←he,grpK_small (by omega)]] at wr
  exact⟨rfl,wf,wr⟩
theorem size_any (B g n:Nat)(bs:List Nat)(w:World)(h:Wr w B g bs)(hn:n<9223372036854775808)(hl:bs.length+10≤1000000000):
  Calls Tryz.prog 70 #[.pointer (some ⟨g,0,none⟩), .int .i64 (n:Int)] w fun e w'=>e= .returned (.pointer (some ⟨g,0,none⟩))∧Wf B w w'∧Wr w' B g (bs++grp n):=by
 have wf:=Wf.refl B w
 have wr:=h
 refine Zs 10 Tryz.func70 ?_
 refine Zsr ?_
 refine Za ?_
 refine Zk3 0 1 4 (Ztq ?_)
 refine Zm ?_
 refine Zm ?_
 refine Zv ((Runs.max2 rfl rfl rfl).cast (v':= .int .i64 (n:Int)) (int_eq (by omega))) ?_
 refine Zv (Runs.convU (r:=n) rfl rfl Tryz.underlying3 Tryz.underlying164 (by omega)) ?_
 refine Zc (Ze Tryz.func127) (groups_any B g n _ _ wr (by omega) hl) ?_
 clear wr
 rintro e w1 ⟨rfl,fw1,wr⟩
 refine⟨_,rfl,?_⟩
 replace wf:=wf.wf fw1
 refine Za ?_
 refine Zk3 0 1 4 (Zt (Cd.ret ?_))
 refine Ze1 ?_
 exact⟨rfl,wf,wr⟩
def sgn (n:Int):Nat:=if 0≤n then(2*n).toNat else(-2*n-1).toNat
theorem sgn_lt {n:Int}(h:I64 n):sgn n<18446744073709551616:=by
 unfold sgn I64 at *
 split<;>omega
theorem xor_ones {a:Nat}(h:a<18446744073709551616):a^^^18446744073709551615=18446744073709551615-a:=by
 have:=congrArg BitVec.toNat (BitVec.xor_allOnes (x:=BitVec.ofNat 64 a))
 rw[BitVec.toNat_xor,BitVec.toNat_not,BitVec.toNat_allOnes,BitVec.toNat_ofNat,Nat.mod_eq_of_lt (by omega)] at this
 exact this
theorem signed_any (B g:Nat)(n:Int)(bs:List Nat)(w:World)(h:Wr w B g bs)(hn:I64 n)(hl:bs.length+10≤1000000000):
  Calls Tryz.prog 67 #[.pointer (some ⟨g,0,none⟩), .int .i64 n] w fun e w'=>e= .returned (.pointer (some ⟨g,0,none⟩))∧Wf B w w'∧Wr w' B g (bs++grp (sgn n)):=by
 have wf:=Wf.refl B w
 have wr:=h
 have hs:=sgn_lt hn
 unfold I64 at hn
 obtain⟨a,ha⟩:∃a:Nat,n%18446744073709551616=(a:Int):=⟨(n%18446744073709551616).toNat,by omega⟩
 obtain⟨a2,ha2⟩:∃a2:Nat,a2=a*2%18446744073709551616:=⟨_,rfl⟩
 obtain⟨z,hz⟩:∃z:Int,z=if 0≤n then 0 else -1:=⟨_,rfl⟩
 obtain⟨b,hb⟩:∃b:Nat,b=if 0≤n then 0 else 18446744073709551615:=⟨_,rfl⟩
 have hx:sgn n=a2^^^b:=by
  unfold sgn
  by_cases h0:0≤n
  ·rw[hb,if_pos h0,if_pos h0,Nat.xor_zero];omega
  ·rw[hb,if_neg h0,if_neg h0,xor_ones (by omega)];omega
 have hfd:n.fdiv 9223372036854775808=z:=by
  rw[Int.fdiv_eq_ediv_of_nonneg _ (by omega),hz]
  split<;>omega
 refine Zs 14 Tryz.func67 ?_
 refine Zsr ?_
 refine Za ?_
 refine Zk3 0 1 4 (Ztq ?_)
 refine Zm ?_
 refine Zm ?_
 refine Zv (Runs.convU (r:=a) rfl rfl Tryz.underlying2 Tryz.underlying164 ha) ?_
 refine Zv (Runs.shlW (r:=(a2:Int)) rfl rfl rfl (by omega) (by rw[IntKind.wrap_u64];show((a:Int)*2)%_=_;omega)) ?_
 refine Zm ?_
 refine Zv (Runs.shrW (r:=z) rfl rfl rfl (by omega) hfd) ?_
 refine Zv (Runs.convU (r:=b) rfl rfl Tryz.underlying2 Tryz.underlying164 (by rw[hz,hb];split<;>rfl)) ?_
 refine Zv (Runs.bitsU (a:=a2) (b:=b) rfl rfl rfl (by omega) (by rw[hb];split<;>omega) (.inr (.inr ⟨rfl,hx⟩))) ?_
 refine Zc (Ze Tryz.func127) (groups_any B g (sgn n) _ _ wr hs hl) ?_
 clear wr
 rintro e w1 ⟨rfl,fw1,wr⟩
 refine⟨_,rfl,?_⟩
 replace wf:=wf.wf fw1
 refine Za ?_
 refine Zk3 0 1 4 (Zt (Cd.ret ?_))
 refine Ze1 ?_
 exact⟨rfl,wf,wr⟩
theorem text_any (B g:Nat)(s bs:List Nat)(w:World)(h:Wr w B g bs)(hs:∀d∈s,d<256)(hl:bs.length+10+s.length≤1000000000):
  Calls Tryz.prog 73 #[.pointer (some ⟨g,0,none⟩), .string (strOf s)] w fun e w'=>e= .returned (.pointer (some ⟨g,0,none⟩))∧Wf B w w'∧Wr w' B g (bs++(grp s.length++s)):=by
 have wf:=Wf.refl B w
 have wr:=h
 have hg:=grp_len s.length
 refine Zs 11 Tryz.func73 ?_
 refine Zsr ?_
 refine Za ?_
 refine Zk3 0 1 4 (Ztq ?_)
 refine Zm ?_
 refine Zm ?_
 refine Zv (Runs.lenL rfl rfl Tryz.underlying9) ?_
 refine Zc (Ze Tryz.func70) (size_any B g s.length _ _ wr (by omega) (by omega)) ?_
 clear wr
 rintro e w1 ⟨rfl,fw1,wr⟩
 refine⟨_,rfl,?_⟩
 replace wf:=wf.wf fw1
 refine Zm ?_
 refine Zc (Ze Tryz.func128) (raw_any B g s _ _ wr hs (by rw[List.length_append];omega)) ?_
 clear wr
 rintro e w2 ⟨rfl,fw2,wr⟩
 refine⟨_,rfl,?_⟩
 replace wf:=wf.wf fw2
 rw[List.append_assoc] at wr
 refine Za ?_
 refine Zk3 0 1 4 (Zt (Cd.ret ?_))
 refine Ze1 ?_
 exact⟨rfl,wf,wr⟩
def nthL {α:Type}(d:α):List α→Nat→α
 | [],_=>d
 |x::_,0=>x
 |_::r,k+1=>nthL d r k
theorem enc1_any (B g n:Nat)(bs:List Nat)(w:World)(h:Wr w B g bs)(hn:n<9223372036854775808)(hl:bs.length+10≤1000000000):
  Calls Tryz.prog 69 #[.pointer (some ⟨g,0,none⟩), .int .i64 (n:Int)] w fun e w'=>e= .returned (.tuple #[])∧Wf B w w'∧Wr w' B g (bs++grp n):=by
 have wf:=Wf.refl B w
 have wr:=h
 refine Zs 7 Tryz.func69 ?_
 refine Zr ?_
 refine Zm ?_
 refine Zm ?_
 refine Zc (Ze Tryz.func70) (size_any B g n _ _ wr hn hl) ?_
 clear wr
 rintro e w1 ⟨rfl,fw1,wr⟩
 refine⟨_,rfl,?_⟩
 replace wf:=wf.wf fw1
 refine Zk2 0 1 ?_
 refine Post.end0 rfl (.inr rfl) ?_
 exact⟨rfl,wf,wr⟩
def DN (l:List Nat):List Int:=l.map fun(z:Nat)=>(z:Int)
structure Fn where
 num:Nat
 level:Nat
 first:List Nat
 last:List Nat
 count:Nat
 size:Nat
def Fn.fl (f:Fn):Fl:=⟨f.num,f.level,f.first,f.last,f.count,f.size⟩
def txt (s:List Nat):List Nat:=grp s.length++s
def Fn.bytes (f:Fn):List Nat:=grp f.num++(grp f.level++(txt f.first++(txt f.last++(grp f.count++grp f.size))))
structure Fn.ok (f:Fn):Prop where
 num:f.num<9223372036854775808
 level:f.level<9223372036854775808
 count:f.count<9223372036854775808
 size:f.size<9223372036854775808
 first:∀d∈f.first,d<256
 last:∀d∈f.last,d<256
 first80:f.first.length≤80
 last80:f.last.length≤80
theorem Fn.len {f:Fn}(h:f.ok):f.bytes.length≤220:=by
 have h1:=grp_len f.num
 have h2:=grp_len f.level
 have h3:=grp_len f.first.length
 have h4:=grp_len f.last.length
 have h5:=grp_len f.count
 have h6:=grp_len f.size
 have h7:=h.first80
 have h8:=h.last80
 simp only[Fn.bytes,txt,List.length_append]
 omega
theorem enc2_any (B g:Nat)(f:Fn)(bs:List Nat)(w:World)(h:Wr w B g bs)(hf:f.ok)(hl:bs.length+220≤1000000000):
  Calls Tryz.prog 72 #[.pointer (some ⟨g,0,none⟩),f.fl.v] w fun e w'=>e= .returned (.tuple #[])∧Wf B w w'∧Wr w' B g (bs++f.bytes):=by
 have wf:=Wf.refl B w
 have wr:=h
 have h1:=grp_len f.num
 have h2:=grp_len f.level
 have h3:=grp_len f.first.length
 have h4:=grp_len f.last.length
 have h5:=grp_len f.count
 have h6:=grp_len f.size
 have h7:=hf.first80
 have h8:=hf.last80
 refine Zs 23 Tryz.func72 ?_
 refine Zsr ?_
 refine Seq.box rfl rfl rfl rfl rfl ?_
 intro g3 w1 n3
 have e3:=Nat.le_trans wf.below.size n3.ge
 replace wf:=wf.step n3.below
 replace wr:=wr.step n3.below
 have k3:=n3.blk
 refine Zk3 0 1 3 (Zt ?_)
 refine Cd.drawJ 19 (by kernel_rfl) [] [3,6,9,12,15,18] (fun i h=>by cases h) rfl rfl (.inl rfl) rfl (Wf B) (Wf.refl B) (fun _ _ _=>Wf.trans) (fun c w=>Wr w B g (nthL [] [bs,bs++grp f.num,bs++grp f.num++grp f.level,bs++grp f.num++grp f.level++txt f.first,bs++grp f.num++grp f.level++txt f.first++txt f.last,bs++grp f.num++grp f.level++txt f.first++txt f.last++grp f.count,bs++grp f.num++grp f.level++txt f.first++txt f.last++grp f.count++grp f.size] c)) ?_
 intro w2 hw2 zw2
 replace wf:=wf.step hw2
 replace wr:=wr.step hw2
 replace k3:=k3.step hw2
 refine⟨wr,?_⟩
 have zlt:=k3.lt
 refine DJ.val rfl (Wf.refl B) rfl (fun w hG=>Runs.move rfl rfl) rfl ?_
 refine DJ.val rfl (Wf.refl B) rfl (fun w hG=>Runs.fieldB 0 rfl rfl Tryz.underlying81 rfl (by kernel_rfl)) rfl ?_
 refine DJ.val rfl (Wf.refl B) rfl (fun w hG=>Runs.loadB rfl rfl Tryz.underlying3 rfl (k3.wf hG) rfl) rfl ?_
 refine DJ.chain 0 rfl rfl (fun w=>Ze Tryz.func70) rfl (fun w hG wr=>size_any B g f.num _ _ wr hf.num (by omega)) ?_
 refine DJ.val rfl (Wf.refl B) rfl (fun w hG=>Runs.fieldB 1 rfl rfl Tryz.underlying81 rfl (by kernel_rfl)) rfl ?_
 refine DJ.val rfl (Wf.refl B) rfl (fun w hG=>Runs.loadB rfl rfl Tryz.underlying3 rfl (k3.wf hG) rfl) rfl ?_
 refine DJ.chain 1 rfl rfl (fun w=>Ze Tryz.func70) rfl (fun w hG wr=>size_any B g f.level _ _ wr hf.level (by simp only[nthL,List.length_append];omega)) ?_
 refine DJ.val rfl (Wf.refl B) rfl (fun w hG=>Runs.fieldB 2 rfl rfl Tryz.underlying81 rfl (by kernel_rfl)) rfl ?_
 refine DJ.val rfl (Wf.refl B) rfl (fun w hG=>Runs.loadB rfl rfl Tryz.underlying9 rfl (k3.wf hG) rfl) rfl ?_
 refine DJ.chain 2 rfl rfl (fun w=>Ze Tryz.func73) rfl (fun w hG wr=>text_any B g f.first _ _ wr hf.first (by simp only[nthL,List.length_append];omega)) ?_
 refine DJ.val rfl (Wf.refl B) rfl (fun w hG=>Runs.fieldB 3 rfl rfl Tryz.underlying81 rfl (by kernel_rfl)) rfl ?_
 refine DJ.val rfl (Wf.refl B) rfl (fun w hG=>Runs.loadB rfl rfl Tryz.underlying9 rfl (k3.wf hG) rfl) rfl ?_
 refine DJ.chain 3 rfl rfl (fun w=>Ze Tryz.func73) rfl (fun w hG wr=>text_any B g f.last _ _ wr hf.last (by simp only[nthL,txt,List.length_append];omega)) ?_
 refine DJ.val rfl (Wf.refl B) rfl (fun w hG=>Runs.fieldB 4 rfl rfl Tryz.underlying81 rfl (by kernel_rfl)) rfl ?_
 refine DJ.val rfl (Wf.refl B) rfl (fun w hG=>Runs.loadB rfl rfl Tryz.underlying3 rfl (k3.wf hG) rfl) rfl ?_
 refine DJ.chain 4 rfl rfl (fun w=>Ze Tryz.func70) rfl (fun w hG wr=>size_any B g f.count _ _ wr hf.count (by simp only[nthL,txt,List.length_append];omega)) ?_
 refine DJ.val rfl (Wf.refl B) rfl (fun w hG=>Runs.fieldB 5 rfl rfl Tryz.underlying81 rfl (by kernel_rfl)) rfl ?_
 refine DJ.val rfl (Wf.refl B) rfl (fun w hG=>Runs.loadB rfl rfl Tryz.underlying3 rfl (k3.wf hG) rfl) rfl ?_
 refine DJ.chain 5 rfl rfl (fun w=>Ze Tryz.func70) rfl (fun w hG wr=>size_any B g f.size _ _ wr hf.size (by simp only[nthL,txt,List.length_append];omega)) ?_
 refine DJ.nil ?_
 refine FinX.done (F':=[(0,_),(1,_),(3,_)]) rfl ⟨rfl,rfl,rfl,trivial⟩ ?_
 intro w3 hw3 fw3
 replace wf:=wf.wf hw3
 replace k3:=k3.wf hw3
 clear wr
 have wr:=fw3
 refine Zk3 0 1 3 ?_
 refine Post.end0 rfl (.inr rfl) ?_
 exact⟨rfl,wf,by have wr':Wr _ B g (bs++grp f.num++grp f.level++txt f.first++txt f.last++grp f.count++grp f.size):=wr;simpa only[Fn.bytes,List.append_assoc] using wr'⟩
theorem zero_edit_File:zeroIs Tryz.prog 81=some (some (.agg #[.int .i64 0, .int .i64 0, .string {data:= #[]}, .string {data:= #[]}, .int .i64 0, .int .i64 0])):=by kernel_rfl
theorem eg_enc1:∀args w,(callFunc 69 args).run Tryz.prog w= .ok (.enter 69 args) w:=fun args w=>run_enter Tryz.func69 (by kernel_rfl) rfl args w
theorem eg_enc2:∀args w,(callFunc 72 args).run Tryz.prog w= .ok (.enter 72 args) w:=fun args w=>run_enter Tryz.func72 (by kernel_rfl) rfl args w
theorem flat_take {α:Type}(f:α→List Nat){l:List α}{k:Nat}{x:α}(h:l[k]? =some x):(l.take (k+1)).flatMap f=(l.take k).flatMap f++f x:=by
 rw[List.take_add_one,h,List.flatMap_append]
 simp
theorem flat_len {α:Type}(f:α→List Nat)(m:Nat):∀ {l:List α},(∀x∈l,(f x).length≤m)→(l.flatMap f).length≤l.length*m
 | [],_=>by simp
 |x::r,h=>by
  have h1:=h x List.mem_cons_self
  have h2:=flat_len f m (l:=r) (fun y hy=>h y (List.mem_cons_of_mem _ hy))
  rw[List.flatMap_cons,List.length_append,List.length_cons,Nat.add_mul]
  omega
theorem putN_any (B g B2 cap:Nat)(A:Option Addr)(l:List Nat)(bs:List Nat)(w:World)(h:Wr w B g bs)(hr:Reads w B2 1 A l.length (DI (DN l)))(hB:B2≤B)(hn:∀n∈l,n<9223372036854775808)(hlen:l.length≤1000)(hl:bs.length≤900000000):
  Calls Tryz.prog 68 #[.pointer (some ⟨g,0,none⟩), .slice A l.length cap, .func (.func 69) #[] #[]] w fun e w'=>e= .returned (.tuple #[])∧Wf B w w'∧Wr w' B g (bs++(grp l.length++l.flatMap grp)):=by
 have wf:=Wf.refl B w
 have wr:=h
 have hBw:=h.size
 have hg:=grp_len l.length
 generalize hn0:l.length=n at *
 refine Zs 23 Tryz.func68 ?_
 refine Zsr ?_
 refine Zm ?_
 refine Zm ?_
 refine Zv (Runs.len rfl rfl Tryz.underlying40) ?_
 refine Zc (Ze Tryz.func70) (size_any B g n _ _ wr (by omega) (by omega)) ?_
 clear wr
 rintro e w1 ⟨rfl,fw1,wr⟩
 refine⟨_,rfl,?_⟩
 replace wf:=wf.wf fw1
 refine Zk3 0 1 2 (Ztq ?_)
 refine Zm ?_
 refine Zv (Runs.len rfl rfl Tryz.underlying40) ?_
 refine Zm ?_
 refine Zk6 0 1 2 12 13 14 (Zt (Cd.block ?_))
 refine Cd.loop (σ:=Nat) (fun k=>[(0, .pointer (some ⟨g,0,none⟩)),(2, .func (.func 69) #[] #[]),(12, .slice A n cap),(13, .int .i64 (n:Int)),(14, .int .i64 (k:Int))])
  (fun k wr=>k≤n∧Wf B w wr∧Wr wr B g (bs++grp n++(l.take k).flatMap grp)) (fun k=>n-k) 0 ⟨Nat.zero_le _,wf,by simpa using wr⟩ ⟨rfl,rfl,rfl,rfl,rfl,trivial⟩ ?_
 clear wf wr
 rintro k wr0 ⟨hk,wf,wr⟩
 have hlt:=flat_len grp 10 (l:=l.take k) (fun x _=>grp_len x)
 rw[List.length_take] at hlt
 refine Zsr ?_
 refine Zls ?_
 refine Zk6 0 2 12 13 14 15 (Zts ?_)
 refine Cd.condD rfl (fun hc=> ?_) (fun hc=> ?_)
 ·obtain⟨x,hx⟩:∃x,l[k]? =some x:=⟨_,List.getElem?_eq_getElem (show k<l.length by omega)⟩
  obtain⟨ad,rfl,hbl,hc⟩:=hr.2 (by omega)
  have hc:=((wf.to hBw).cell (p:=ad.add k) (by rw[block_of_add];omega)).trans (hc k (.int .i64 (x:Int)) (by simp[DI,DN,hx]))
  refine Cd.skip (Zts (Cd.block (Zsr ?_)))
  refine Zv (Runs.index1 rfl rfl rfl Tryz.underlying40 (by kernel_rfl) (j:=k) rfl (by omega)) ?_
  refine Zv (Runs.load1 rfl rfl Tryz.underlying3 rfl hc) ?_
  refine Za ?_
  refine Zk7 0 2 7 12 13 14 15 (Ztr ?_)
  refine Zm ?_
  refine Zm ?_
  refine Zm ?_
  refine Seq.call (Enters.value (first:=[]) (cap:=[]) rfl rfl rfl eg_enc1) rfl rfl rfl (enc1_any B g x _ _ wr (hn x (List.mem_of_getElem? hx)) (by simp only[List.length_append];omega)) ?_
  clear wr
  rintro e w5 ⟨rfl,f5,wr⟩
  refine⟨_,rfl,?_⟩
  replace wf:=wf.wf f5
  rw[List.append_assoc,←flat_take grp hx] at wr
  refine Zk7 0 2 7 12 13 14 15 (Post.block_normal (Ztr ?_))
  refine Za_ ?_
  refine Zm ?_
  refine Zk7 0 2 7 12 13 14 15 ?_
  exact Post.round (k+1) ⟨rfl,rfl,rfl,rfl,rfl,trivial⟩ ⟨by omega,wf,wr⟩ (by omega)
 ·obtain rfl:k=n:=by omega
  rw[List.take_of_length_le (by omega),List.append_assoc] at wr
  refine Cd.exit (Post.then_exit (Post.round_exit (Post.block_exit ?_)))
  refine Post.end0 rfl (.inr rfl) ?_
  exact⟨rfl,wf,wr⟩
theorem putF_any (B g B2 cap:Nat)(A:Option Addr)(l:List Fn)(bs:List Nat)(w:World)(h:Wr w B g bs)(hr:Reads w B2 6 A l.length (fcs (l.map Fn.fl)))(hB:B2≤B)(hn:∀f∈l,f.ok)(hlen:l.length≤1000)(hl:bs.length≤900000000):
  Calls Tryz.prog 71 #[.pointer (some ⟨g,0,none⟩), .slice A l.length cap, .func (.func 72) #[] #[]] w fun e w'=>e= .returned (.tuple #[])∧Wf B w w'∧Wr w' B g (bs++(grp l.length++l.flatMap Fn.bytes)):=by
 have wf:=Wf.refl B w
 have wr:=h
 have hBw:=h.size
 have hg:=grp_len l.length
 generalize hn0:l.length=n at *
 refine Zs 23 Tryz.func71 ?_
 refine Zsr ?_
 refine Zm ?_
 refine Zm ?_
 refine Zv (Runs.len rfl rfl Tryz.underlying36) ?_
 refine Zc (Ze Tryz.func70) (size_any B g n _ _ wr (by omega) (by omega)) ?_
 clear wr
 rintro e w1 ⟨rfl,fw1,wr⟩
 refine⟨_,rfl,?_⟩
 replace wf:=wf.wf fw1
 refine Zk3 0 1 2 (Ztq ?_)
 refine Zm ?_
 refine Zv (Runs.len rfl rfl Tryz.underlying36) ?_
 refine Zm ?_
 refine Zk6 0 1 2 12 13 14 (Zt (Cd.block ?_))
 refine Cd.loop (σ:=Nat) (fun k=>[(0, .pointer (some ⟨g,0,none⟩)),(2, .func (.func 72) #[] #[]),(12, .slice A n cap),(13, .int .i64 (n:Int)),(14, .int .i64 (k:Int))])
  (fun k wr=>k≤n∧Wf B w wr∧Wr wr B g (bs++grp n++(l.take k).flatMap Fn.bytes)) (fun k=>n-k) 0 ⟨Nat.zero_le _,wf,by simpa using wr⟩ ⟨rfl,rfl,rfl,rfl,rfl,trivial⟩ ?_
 clear wf wr
 rintro k wr0 ⟨hk,wf,wr⟩
 have hlt:=flat_len Fn.bytes 220 (l:=l.take k) (fun x hx=>Fn.len (hn x (List.mem_of_mem_take hx)))
 rw[List.length_take] at hlt
 refine Zsr ?_
 refine Zls ?_
 refine Zk6 0 2 12 13 14 15 (Zts ?_)
 refine Cd.condD rfl (fun hc=> ?_) (fun hc=> ?_)
 ·obtain⟨x,hx⟩:∃x,l[k]? =some x:=⟨_,List.getElem?_eq_getElem (show k<l.length by omega)⟩
  have hxm:(l.map Fn.fl)[k]? =some x.fl:=by rw[List.getElem?_map,hx];rfl
  obtain⟨ad,rfl,hbl,hin,hc⟩:=hr.fl ((wf.to hBw).mono hB) hxm
  refine Cd.skip (Zts (Cd.block (Zsr ?_)))
  refine Zv (Runs.indexN rfl rfl rfl Tryz.underlying36 (s:=6) (by kernel_rfl) (j:=k) rfl (by omega)) ?_
  refine Zv (Runs.loadF (ps:=[.int .i64 x.num, .int .i64 x.level, .string (strOf x.first), .string (strOf x.last), .int .i64 x.count, .int .i64 x.size]) rfl rfl Tryz.underlying81 rfl (m:=6) (by kernel_rfl) rfl hc) ?_
  refine Zl zero_edit_File ?_
  intro g7 w2 n7
  have e7:=Nat.le_trans wf.below.size n7.ge
  replace wf:=wf.step n7.below
  replace wr:=wr.step n7.below
  have k7:=n7.blk
  refine Zo 6 k7 ?_
  intro w3 pw3
  replace wf:=wf.put k7 pw3 e7
  replace wr:=wr.put k7 pw3 e7
  replace k7:=pw3.blk
  refine Zk7 0 2 7 12 13 14 15 (Ztr ?_)
  refine Zm ?_
  refine Zm ?_
  refine ZW 6 Tryz.underlying81 k7 ?_
  refine Seq.call (Enters.value (first:=[]) (cap:=[]) rfl rfl rfl eg_enc2) rfl rfl rfl (enc2_any B g x _ _ wr (hn x (List.mem_of_getElem? hx)) (by simp only[List.length_append];omega)) ?_
  clear wr
  rintro e w5 ⟨rfl,f5,wr⟩
  refine⟨_,rfl,?_⟩
  replace wf:=wf.wf f5
  rw[List.append_assoc,←flat_take Fn.bytes hx] at wr
  refine Zk7 0 2 7 12 13 14 15 (Post.block_normal (Ztr ?_))
  refine Za_ ?_
  refine Zm ?_
  refine Zk7 0 2 7 12 13 14 15 ?_
  exact Post.round (k+1) ⟨rfl,rfl,rfl,rfl,rfl,trivial⟩ ⟨by omega,wf,wr⟩ (by omega)
 ·obtain rfl:k=n:=by omega
  rw[List.take_of_length_le (by omega),List.append_assoc] at wr
  refine Cd.exit (Post.then_exit (Post.round_exit (Post.block_exit ?_)))
  refine Post.end0 rfl (.inr rfl) ?_
  exact⟨rfl,wf,wr⟩
theorem badF_iff (f:Fl):badF f=decide (f.num<0∨f.level<0∨f.count<0∨f.size<0∨80<f.first.length∨80<f.last.length):=by
 unfold badF
 rw[←Bool.decide_or]
 exact decide_eq_decide.2 (by omega)
theorem laidB_iff (lg nx sq:Int)(drop:List Int)(add:List Fl):laidB lg nx sq drop add=true↔(-1≤lg∧ -1≤nx∧ -1≤sq∧drop.length≤100∧add.length≤100∧(∀z∈drop,0≤z)∧∀f∈add,badF f=false):=by
 unfold laidB
 simp only[Bool.and_eq_true,decide_eq_true_eq,Bool.not_eq_true',List.any_eq_false]
 constructor
 ·rintro⟨⟨⟨h1,h2⟩,h3⟩,h4⟩
  exact⟨by omega,by omega,by omega,by omega,by omega,fun z hz=>by have:=h4 z hz;simpa using this,fun f hf=>by simpa using h3 f hf⟩
 ·rintro⟨h1,h2,h3,h4,h5,h6,h7⟩
  exact⟨⟨⟨by omega,by omega⟩,fun f hf=>by simp[h7 f hf]⟩,fun z hz=>by simpa using h6 z hz⟩
def encB (lg nx sq:Int)(drop:List Nat)(add:List Fn):List Nat:=grp (sgn lg)++(grp (sgn nx)++(grp (sgn sq)++(grp drop.length++(drop.flatMap grp++(grp add.length++add.flatMap Fn.bytes)))))
theorem encode_any (lg nx sq:Int)(B:Nat)(A A':Option Addr)(cap cap':Nat)(drop:List Nat)(add:List Fn)(w:World)(hr:Reads w B 1 A drop.length (DI (DN drop)))(hr':Reads w B 6 A' add.length (fcs (add.map Fn.fl)))(hB:B≤w.heap.size)
  (hlg:I64 lg) (hnx:I64 nx) (hsq:I64 sq) (hd:∀n∈drop,n<9223372036854775808) (hf:∀f∈add,f.ok) (hdl:drop.length≤1000) (hal:add.length≤1000) (hlaid:laidB lg nx sq (DN drop) (add.map Fn.fl)=true):
  Calls Tryz.prog 32 #[.agg #[.int .i64 lg, .int .i64 nx, .int .i64 sq, .slice A drop.length cap, .slice A' add.length cap']] w fun e w'=>e= .returned (.tuple #[.string (strOf (encB lg nx sq drop add)), .int .i64 0])∧Grow w w':=by
 have bel:=Below.refl w.heap.size w
 have h1:=grp_len (sgn lg)
 have h2:=grp_len (sgn nx)
 have h3:=grp_len (sgn sq)
 have h4:=grp_len drop.length
 have h5:=grp_len add.length
 have hlen:(drop.flatMap grp).length≤10000:=by
  have:=flat_len grp 10 (l:=drop) (fun x _=>grp_len x)
  omega
 have hl0:=fun W (hb:Below w.heap.size w W)=>laid_any lg nx sq B A A' cap cap' (DN drop) (add.map Fn.fl) W (by rw[DN,List.length_map];exact hr.below (hb.mono hB)) (by rw[List.length_map];exact hr'.below (hb.mono hB)) (Nat.le_trans hB hb.size)
 rw[hlaid] at hl0
 simp only[DN,List.length_map] at hl0
 refine Zs 30 Tryz.func32 ?_
 refine Zsr ?_
 refine Seq.box rfl rfl rfl rfl rfl ?_
 intro g1 w1 n1
 have e1:=Nat.le_trans bel.size n1.ge
 replace bel:=bel.step n1.below
 have k1:=n1.blk
 refine Za ?_
 refine Za ?_
 refine Zk4 0 1 2 3 (Zts (Zsr ?_))
 refine ZW 5 Tryz.underlying47 k1 ?_
 refine Zc (Ze Tryz.func61) (hl0 _ bel) ?_
 rintro e w5 ⟨rfl,hb5⟩
 refine⟨_,rfl,?_⟩
 replace bel:=bel.step hb5
 replace k1:=k1.step hb5
 refine Zno ?_
 refine Zk5 0 1 2 3 7 (Zt ?_)
 refine Cd.condF rfl rfl ?_
 refine Cd.skip (Ztq ?_)
 refine Zv (Runs.build rfl rfl (run_build_Wr0 _)) ?_
 refine Seq.box rfl rfl rfl rfl rfl ?_
 intro g9 w2 n9
 have e9:=Nat.le_trans bel.size n9.ge
 have l9:=Nat.lt_of_lt_of_le k1.lt n9.ge
 replace bel:=bel.step n9.below
 replace k1:=k1.step n9.below
 have k9:=n9.blk
 refine Za ?_
 refine Zk6 0 1 2 3 4 7 (Zts ?_)
 have wr:Wr w2 g9 g9 []:=⟨Nat.le_refl _,fun d hd=>(by cases hd),_,k9,Own.nil _ _ _ _⟩
 have wf:=Wf.refl g9 w2
 have hg9:g9≤w2.heap.size:=Nat.le_of_lt n9.lt
 refine Cd.drawJ 10 (by kernel_rfl) [] [3,6,9] (fun i h=>by cases h) rfl rfl (.inl rfl) rfl (Wf g9) (Wf.refl g9) (fun _ _ _=>Wf.trans) (fun c w=>Wr w g9 g9 (nthL [] [[],grp (sgn lg),grp (sgn lg)++grp (sgn nx),grp (sgn lg)++grp (sgn nx)++grp (sgn sq)] c)) ?_
 intro w3 hw3 zw3
 replace k1:=k1.step hw3
 replace wf:=wf.step hw3
 replace wr:=wr.step hw3
 refine⟨wr,?_⟩
 have zlt:=k1.lt
 refine DJ.val rfl (Wf.refl g9) rfl (fun w hG=>Runs.move rfl rfl) rfl ?_
 refine DJ.val rfl (Wf.refl g9) rfl (fun w hG=>Runs.fieldB 0 rfl rfl Tryz.underlying47 rfl (by kernel_rfl)) rfl ?_
 refine DJ.val rfl (Wf.refl g9) rfl (fun w hG=>Runs.loadB rfl rfl Tryz.underlying3 rfl (k1.wf hG) rfl) rfl ?_
 refine DJ.chain 0 rfl rfl (fun w=>Ze Tryz.func67) rfl (fun w hG wr=>signed_any g9 g9 lg [] _ wr hlg (by simp)) ?_
 refine DJ.val rfl (Wf.refl g9) rfl (fun w hG=>Runs.fieldB 1 rfl rfl Tryz.underlying47 rfl (by kernel_rfl)) rfl ?_
 refine DJ.val rfl (Wf.refl g9) rfl (fun w hG=>Runs.loadB rfl rfl Tryz.underlying3 rfl (k1.wf hG) rfl) rfl ?_
 refine DJ.chain 1 rfl rfl (fun w=>Ze Tryz.func67) rfl (fun w hG wr=>signed_any g9 g9 nx _ _ wr hnx (by omega)) ?_
 refine DJ.val rfl (Wf.refl g9) rfl (fun w hG=>Runs.fieldB 2 rfl rfl Tryz.underlying47 rfl (by kernel_rfl)) rfl ?_
 refine DJ.val rfl (Wf.refl g9) rfl (fun w hG=>Runs.loadB rfl rfl Tryz.underlying3 rfl (k1.wf hG) rfl) rfl ?_
 refine DJ.chain 2 rfl rfl (fun w=>Ze Tryz.func67) rfl (fun w hG wr=>signed_any g9 g9 sq _ _ wr hsq (by simp only[nthL,List.length_append];omega)) ?_
 refine DJ.nil ?_
 refine FinX.done (F':=[(0,_),(1,_),(2,_),(3,_),(4,_),(7,_)]) rfl ⟨rfl,rfl,rfl,rfl,rfl,rfl,trivial⟩ ?_
 intro w4 hw4 fw4
 replace k1:=k1.wf hw4
 replace wf:=wf.wf hw4
 clear wr
 have wr:=fw4
 refine Zk6 0 1 2 3 4 7 (Ztq ?_)
 refine Zm ?_
 refine Zf 3 Tryz.underlying47 ?_
 refine ZL Tryz.underlying40 k1 ?_
 replace wr:Wr _ g9 g9 (grp (sgn lg)++grp (sgn nx)++grp (sgn sq)):=wr
 have bel2:=bel.trans ((wf.to hg9).mono e9)
 refine Zc (Ze Tryz.func68) (putN_any g9 g9 B cap A drop _ _ wr (hr.below (bel2.mono hB)) (Nat.le_trans hB e9) hd hdl (by simp only[List.length_append];omega)) ?_
 clear wr
 rintro e w5 ⟨rfl,fw5,wr⟩
 refine⟨_,rfl,?_⟩
 replace k1:=k1.wf fw5
 replace wf:=wf.wf fw5
 refine Zk6 0 1 2 3 4 7 (Ztq ?_)
 refine Zm ?_
 refine Zf 4 Tryz.underlying47 ?_
 refine ZL Tryz.underlying36 k1 ?_
 have bel3:=bel.trans ((wf.to hg9).mono e9)
 refine Zc (Ze Tryz.func71) (putF_any g9 g9 B cap' A' add _ _ wr (hr'.below (bel3.mono hB)) (Nat.le_trans hB e9) hf hal (by simp only[List.length_append];omega)) ?_
 clear wr
 rintro e w6 ⟨rfl,fw6,wr⟩
 refine⟨_,rfl,?_⟩
 replace k1:=k1.wf fw6
 replace wf:=wf.wf fw6
 have bel4:=bel.trans ((wf.to hg9).mono e9)
 clear bel
 have bel:=bel4
 refine Zk6 0 1 2 3 4 7 (Ztq ?_)
 refine Zm ?_
 refine Zc (Ze Tryz.func74) (wbytes_any g9 g9 _ _ wr) ?_
 rintro e w15 ⟨rfl,hb15⟩
 refine⟨_,rfl,?_⟩
 replace k1:=k1.step hb15
 replace wr:=wr.step hb15
 replace bel:=bel.step hb15
 refine Za ?_
 refine Za ?_
 refine Zk6 0 1 2 3 4 7 (Zt (Cd.ret ?_))
 refine Ze2 ?_
 refine⟨?_,bel⟩
 simp only[encB,List.append_assoc]
theorem encode_not (lg nx sq:Int)(B:Nat)(A A':Option Addr)(cap cap':Nat)(drop:List Int)(add:List Fl)(w:World)(hr:Reads w B 1 A drop.length (DI drop))(hr':Reads w B 6 A' add.length (fcs add))(hB:B≤w.heap.size)(hlaid:laidB lg nx sq drop add=false):
  Calls Tryz.prog 32 #[.agg #[.int .i64 lg, .int .i64 nx, .int .i64 sq, .slice A drop.length cap, .slice A' add.length cap']] w fun e w'=>e= .returned (.tuple #[.string {data:= #[]}, .int .i64 1])∧Grow w w':=by
 have bel:=Below.refl w.heap.size w
 have hl0:=fun W (hb:Below w.heap.size w W)=>laid_any lg nx sq B A A' cap cap' drop add W (hr.below (hb.mono hB)) (hr'.below (hb.mono hB)) (Nat.le_trans hB hb.size)
 rw[hlaid] at hl0
 refine Zs 30 Tryz.func32 ?_
 refine Zsr ?_
 refine Seq.box rfl rfl rfl rfl rfl ?_
 intro g1 w1 n1
 have e1:=Nat.le_trans bel.size n1.ge
 replace bel:=bel.step n1.below
 have k1:=n1.blk
 refine Za ?_
 refine Za ?_
 refine Zk4 0 1 2 3 (Zts (Zsr ?_))
 refine ZW 5 Tryz.underlying47 k1 ?_
 refine Zc (Ze Tryz.func61) (hl0 _ bel) ?_
 rintro e w5 ⟨rfl,hb5⟩
 refine⟨_,rfl,?_⟩
 replace bel:=bel.step hb5
 replace k1:=k1.step hb5
 refine Zno ?_
 refine Zk5 0 1 2 3 7 (Zt ?_)
 refine Cd.condT rfl rfl ?_
 refine Zsr ?_
 refine Za ?_
 refine Za ?_
 refine Zk5 0 1 2 3 7 (Zt (Cd.ret (Post.then_ret ?_)))
 refine Ze2 ?_
 exact⟨rfl,bel⟩
end Go.Proofs.YtdpipgidpkmolaaGreatDoor
namespace Go.Proofs.YtdpipgidpkmolaaGreatDoor
open Go.RowKit
section
variable {P:Program} {ops:Array Oper} {Q:Exit→Act→World→Prop} {rest:List Oper} {o:Oper} {n d:Nat} {F:List (Nat × Value)} {C:Cxs} {w w':World} {v:Value} {c:Bool} {H:List (Nat × Value)}
theorem SeqC.nextCE {f:FuncId}{args:Array Value}{j t:Nat}{b want:Bool}{c0:Bool}{Φ:Value→World→Prop}(hg:o.guard=some (j,want))(ht:(ops[j]?).bind (·.dst)=some t)(hb:look (match C with| []=>F|(_,H)::_=>H) t=some (.bool b))(hc0:c0=(topX C&&(b==want)))(hd:o.dst=some d)(hn:Nat.blt d n=true)(hf:freeX d ((c0,H)::C) F=true)
  (hrun:c0=true→Enters P (evF (allX ((c0,H)::C) F)) o w f args) (hcall:c0=true→Calls P f args w fun e w'=>∃v,e= .returned v∧Φ v w'∧Grow w w') (h:∀v w',(c0=true→Φ v w')→Grow w w'→SeqC P ops Q rest n ((c0,(d,v)::H)::C) F w'):SeqC P ops Q (o::rest) n ((c0,H)::C) F w:=by
 intro a ha hC
 obtain⟨h1,h2,h3,h4⟩:=id hC
 refine wpList_step fun K hK=> ?_
 have hwant:Region.wanted o (yielded ops a.tmps)=c0:=by
  rw[hc0]
  have hy:yielded ops a.tmps j=if topX C=true then some b else none:=by
   unfold yielded
   simp only[ht,Option.bind_some]
   cases C with
   |nil=>simp[topX,ha.slot t _ hb]
   |cons x r=>
    obtain⟨c1,H1⟩:=x
    obtain⟨g1,g2,g3,g4⟩:=h4
    cases c1
    ·simp[topX,g3 rfl t _ hb,undef]
    ·simp[topX,g2 rfl t _ hb]
  unfold Region.wanted
  simp only[hg,hy]
  cases topX C<;>cases b<;>cases want<;>rfl
 rw[hwant]
 have hbase:=freeX_base hf
 have hne:∀t u,look H t=some u→d≠t:=fun t u ht e=>by
  subst e
  simp only[freeX,Bool.and_eq_true] at hf
  rw[ht] at hf;simp at hf
 have hf2:freeX d C F=true:=by simp only[freeX,Bool.and_eq_true] at hf;exact hf.2
 cases hc:c0 with
 |true=>
  rw[if_pos rfl]
  unfold Oper.wp
  rw[hrun hc a.eval (HoldX.fr ha hC hc).ev,Oper.upon_enter,hd]
  refine(hcall hc).mono fun e w' ⟨v,he',hΦ,hgr⟩=> ?_
  subst he'
  refine hK _ _ (h v _ (fun _=>hΦ) hgr _ (ha.keep hbase) ⟨h1,fun _ t' u hu=> ?_,fun e=>(by rw[hc] at e;cases e),h4.put hf2⟩)
  rcases look_put hu with ⟨rfl,rfl⟩|⟨-,hu⟩
  ·simp[Act.put,ha.size,Nat.blt_eq.mp hn]
  ·simp only[Act.put];rw[Array.getElem?_setIfInBounds_ne (hne t' u hu)];exact h2 hc t' u hu
 |false=>
  rw[if_neg (by simp),hd]
  refine hK _ _ (h undef _ (fun e=>by rw[hc] at e;cases e) (Grow.refl _) _ (ha.keep hbase) ⟨h1,fun e=>(by rw[hc] at e;cases e),fun _ t' u hu=> ?_,h4.put hf2⟩)
  rcases look_put hu with ⟨rfl,rfl⟩|⟨-,hu⟩
  ·simp[Act.put,ha.size,Nat.blt_eq.mp hn]
  ·simp only[Act.put];rw[Array.getElem?_setIfInBounds_ne (hne t' u hu)];exact h3 hc t' u hu
end
def roomW (D:Dk)(num count len:Nat):Bool:=decide ((len:Int)+24≤D.room-D.used)&&(!decide (count=0)||decide (D.files.length+2≤200))&&decide (num≤999999)
def Dk.lay (D:Dk)(nm:List Nat)(num count:Nat)(s:List Nat):Dk × Int:=
 if D.appendE (fileN nm num logK) s≠0 then(D.append (fileN nm num logK) s,D.appendE (fileN nm num logK) s)
 else if(D.append (fileN nm num logK) s).thereE [fileN nm num logK] (fileN nm num logK)≠0 then((D.append (fileN nm num logK) s).sync (fileN nm num logK),(D.append (fileN nm num logK) s).thereE [fileN nm num logK] (fileN nm num logK))
 else((D.append (fileN nm num logK) s).sync (fileN nm num logK)).note (fileN nm num ackK) (count+1)
structure Wl where
 num:Nat
 count:Nat
 size:Nat
 broken:Bool
def Wl.cs (W:Wl)(gd:Nat)(nm:List Nat):Array Value:=wlCs gd nm (W.num:Int) (W.count:Int) (W.size:Int) W.broken
def Wl.rotate (W:Wl):Wl:=if 0<W.count then⟨W.num+1,0,0,W.broken⟩ else W
def Wl.turned (W:Wl)(data:List Nat):Wl:=if 1048576-(W.size:Int)<((data.length+12:Nat):Int) then W.rotate else W
def appW (W:Wl)(D:Dk)(nm data:List Nat):Wl × Dk × Int:=
 if 131072<data.length then(W,D,4)
 else if W.broken=true then(W,D,6)
 else if roomW D (W.turned data).num (W.turned data).count (data.length+12)=false then(W.turned data,D,5)
 else if(D.lay nm (W.turned data).num (W.turned data).count (frameN data)).2≠0 then({W.turned data with broken:=true},(D.lay nm (W.turned data).num (W.turned data).count (frameN data)).1,(D.lay nm (W.turned data).num (W.turned data).count (frameN data)).2)
 else(⟨(W.turned data).num,(W.turned data).count+1,(W.turned data).size+(data.length+12),(W.turned data).broken⟩,(D.lay nm (W.turned data).num (W.turned data).count (frameN data)).1,0)
theorem room_any (B g0 gd:Nat)(D:Dk)(nm s:List Nat)(W:Wl)(w:World)(k0:Blk w g0 111 (W.cs gd nm))(dk:DkAt w B gd D)(hs:s.length≤1000000):
  Calls Tryz.prog 77 #[.pointer (some ⟨g0,0,none⟩), .string (strOf s)] w fun e w'=>e= .returned (.bool (roomW D W.num W.count s.length))∧Grow w w':=by
 have bel:=Below.refl w.heap.size w
 have hok:=dk.ok
 have hlen:=hok.most
 unfold Wl.cs at k0
 refine Zs 41 Tryz.func77 ?_
 refine Zsr ?_
 refine Za ?_
 refine Zk3 0 1 4 (Ztq ?_)
 refine Zm ?_
 refine Zv (Runs.nilCheck rfl rfl) ?_
 refine Zf 3 Tryz.underlying111 ?_
 refine ZL Tryz.underlying3 k0 ?_
 refine Zqi ?_
 refine Za ?_
 refine Zk4 0 1 4 5 (Ztq ?_)
 refine Zm ?_
 refine Zv (Runs.lenL rfl rfl Tryz.underlying9) ?_
 refine Za_ ?_
 refine Zm ?_
 refine Zv (Runs.nilCheck rfl rfl) ?_
 refine Zf 0 Tryz.underlying111 ?_
 refine ZL Tryz.underlying26 k0 ?_
 refine Zc (Ze Tryz.func130) (free_any B gd D _ dk) ?_
 rintro e w5 ⟨rfl,hb5⟩
 refine⟨_,rfl,?_⟩
 replace bel:=bel.step hb5
 replace k0:=k0.step hb5
 replace dk:=dk.step hb5
 refine Zle ?_
 refine Zm ?_
 refine SeqC.start ?_
 refine Zco (fun hcx=>Runs.move rfl rfl) ?_
 refine Zn (fun hcx=>Runs.not rfl rfl) ?_
 refine Znm ?_
 refine Zco (fun hcx=>Runs.move rfl rfl) ?_
 refine Zn (fun hcx=>Runs.nilCheck rfl rfl) ?_
 refine Zn (fun hcx=>Runs.fieldB 0 rfl rfl Tryz.underlying111 rfl (by kernel_rfl)) ?_
 refine Zn (fun hcx=>Runs.loadB rfl rfl Tryz.underlying26 rfl k0 rfl) ?_
 refine SeqC.nextCE (Φ:=fun v _=>∃A c,v= .slice A D.files.length c) rfl rfl rfl rfl rfl rfl rfl (fun hcx=>Ze Tryz.func19) (fun hcx=>(names_any B gd D _ dk).mono ?_) ?_
 ·rintro e w' ⟨v,rfl,own,hb⟩
  obtain⟨A,c,rfl,-⟩:=own.reads
  exact⟨_,rfl,⟨A,c,rfl⟩,hb⟩
 intro v28 w28 hv28 hb28
 replace bel:=bel.step hb28
 replace k0:=k0.step hb28
 replace dk:=dk.step hb28
 refine Zn (fun hcx=>(by obtain⟨A,c,rfl⟩:=hv28 hcx;exact Runs.len rfl rfl Tryz.underlying54)) ?_
 refine Zn (fun hcx=>Runs.addI rfl rfl rfl (by omega) (by omega)) ?_
 refine Zn (fun hcx=>Runs.leq rfl rfl rfl) ?_
 refine SeqC.orG rfl rfl rfl rfl rfl rfl rfl rfl rfl rfl rfl ?_
 refine Zan ?_
 refine Zm ?_
 refine SeqC.start ?_
 refine Zco (fun hcx=>Runs.move rfl rfl) ?_
 refine Zn (fun hcx=>Runs.nilCheck rfl rfl) ?_
 refine Zn (fun hcx=>Runs.fieldB 2 rfl rfl Tryz.underlying111 rfl (by kernel_rfl)) ?_
 refine Zn (fun hcx=>Runs.loadB rfl rfl Tryz.underlying3 rfl k0 rfl) ?_
 refine Zn (fun hcx=>Runs.leq rfl rfl rfl) ?_
 refine Zan ?_
 refine Za ?_
 refine Zk4 0 1 4 5 (Zt (Cd.ret ?_))
 refine Ze1 ?_
 refine⟨?_,bel⟩
 have e1:decide ((W.count:Int)=0)=decide (W.count=0):=decide_eq_decide.2 (by omega)
 have e2:decide ((D.files.length:Int)+2≤200)=decide (D.files.length+2≤200):=decide_eq_decide.2 (by omega)
 have e3:decide ((W.num:Int)≤999999)=decide (W.num≤999999):=decide_eq_decide.2 (by omega)
 unfold roomW
 rw[←e1,←e2,←e3]
theorem lay_any (B g0 gd:Nat)(D:Dk)(nm s:List Nat)(W:Wl)(w:World)(gv:Gv w)(hgB:max 2 1 <B)(k0:Blk w g0 111 (W.cs gd nm))(dk:DkAt w B gd D)(hnm:Byt nm)(hnl:nm.length≤8)(hn:W.num≤999999)(hc:W.count≤1000000)(hs:Byt s)(hsl:s.length≤1000000):
  Calls Tryz.prog 78 #[.pointer (some ⟨g0,0,none⟩), .string (strOf s)] w fun e w'=>e= .returned (.int .i64 (D.lay nm W.num W.count s).2)∧DkAt w' B gd (D.lay nm W.num W.count s).1∧Df B w w':=by
 have df:=Df.refl B w
 obtain⟨num,count,size,broken⟩:=W
 simp only at hn hc
 unfold Wl.cs at k0
 simp only at k0⊢
 have hlb:=fileN_byt num hnm logK_byt
 have hll:(fileN nm num logK).length≤1000:=by rw[fileN_len hn];show nm.length+7+4≤_;omega
 unfold Dk.lay
 refine Zs 44 Tryz.func78 ?_
 refine Zsr ?_
 refine Za ?_
 refine Zk3 0 1 4 (Ztq ?_)
 refine Zm ?_
 refine Zm ?_
 refine Zv (Runs.nilCheck rfl rfl) ?_
 refine Zf 2 Tryz.underlying111 ?_
 refine ZL Tryz.underlying3 k0 ?_
 refine Zc (Ze Tryz.func106) (file_any g0 gd num nm logK num count size broken _ gv k0 hn (by omega) (by decide)) ?_
 rintro e w5 ⟨rfl,hb5⟩
 refine⟨_,rfl,?_⟩
 replace df:=df.step hb5
 replace dk:=dk.step hb5
 replace k0:=k0.step hb5
 replace gv:=gv.step hb5
 obtain⟨lg,hlg⟩:∃x,x=fileN nm num logK:=⟨_,rfl⟩
 rw[←hlg] at hlb hll
 rw[←hlg]
 refine Za ?_
 refine Zk4 0 1 4 5 (Zts (Zsr ?_))
 refine Zm ?_
 refine Zv (Runs.nilCheck rfl rfl) ?_
 refine Zf 0 Tryz.underlying111 ?_
 refine ZL Tryz.underlying26 k0 ?_
 refine Zm ?_
 refine Zm ?_
 refine Zc (Ze Tryz.func95) (append_d_any B gd D lg s _ dk hlb hs (by omega) (by omega)) ?_
 clear dk
 rintro e w1 ⟨rfl,dk,fw1⟩
 refine⟨_,rfl,?_⟩
 replace df:=df.df fw1
 replace k0:=k0.df fw1
 replace gv:=gv.df fw1
 refine Za ?_
 refine Zk5 0 1 4 5 6 (Ztq ?_)
 refine Zm ?_
 refine Zni ?_
 refine Zk6 0 1 4 5 6 22 (Zt ?_)
 refine Cd.cond rfl (fun h=> ?_) (fun h=> ?_)
 ·have h:D.appendE lg s≠0:=by simpa using h
  rw[if_pos h]
  refine Zsr ?_
  refine Zm ?_
  refine Za ?_
  refine Zk6 0 1 4 5 6 22 (Zt (Cd.ret (Post.then_ret ?_)))
  refine Ze1 ?_
  exact⟨rfl,dk,df⟩
 have h:¬(D.appendE lg s≠0):=by simpa using h
 rw[if_neg h]
 obtain⟨D1,hD1⟩:∃x,x=D.append lg s:=⟨_,rfl⟩
 rw[←hD1] at dk
 rw[←hD1]
 refine Cd.skip (Zts (Zsr ?_))
 refine Zm ?_
 refine Zv (Runs.nilCheck rfl rfl) ?_
 refine Zf 0 Tryz.underlying111 ?_
 refine ZL Tryz.underlying26 k0 ?_
 refine Zm ?_
 refine Zc (Ze Tryz.func96) (sync_any B gd D1 lg _ dk hlb (by omega)) ?_
 clear dk
 rintro e w2 ⟨rfl,dk,fw2⟩
 refine⟨_,rfl,?_⟩
 replace df:=df.df fw2
 replace k0:=k0.df fw2
 replace gv:=gv.df fw2
 refine Za ?_
 refine Zk7 0 1 4 5 6 7 22 (Ztq ?_)
 refine Zm ?_
 refine Zni ?_
 refine Zk8 0 1 4 5 6 7 22 31 (Zt ?_)
 refine Cd.cond rfl (fun h=> ?_) (fun h=> ?_)
 ·have h:D1.thereE [lg] lg≠0:=by simpa using h
  rw[if_pos h]
  refine Zsr ?_
  refine Zm ?_
  refine Za ?_
  refine Zk8 0 1 4 5 6 7 22 31 (Zt (Cd.ret (Post.then_ret ?_)))
  refine Ze1 ?_
  exact⟨rfl,dk,df⟩
 have h:¬(D1.thereE [lg] lg≠0):=by simpa using h
 rw[if_neg h]
 refine Cd.skip (Zts ?_)
 refine Zdr 10 ?_
 intro w3 hw3 zw3
 replace df:=df.step hw3
 replace dk:=dk.step hw3
 replace k0:=k0.step hw3
 replace gv:=gv.step hw3
 have zlt:=k0.lt
 refine Zdm ?_
 refine Zdm ?_
 refine Zd (fun w hG=>Runs.nilCheck rfl rfl) ?_
 refine Zdf 2 Tryz.underlying111 ?_
 refine ZdL Tryz.underlying3 k0 ?_
 refine Zdm ?_
 refine Zd (fun w hG=>Runs.nilCheck rfl rfl) ?_
 refine Zdf 3 Tryz.underlying111 ?_
 refine ZdL Tryz.underlying3 k0 ?_
 refine Zd (fun w hG=>Runs.addI rfl rfl rfl (by omega) (by omega)) ?_
 refine Dr.nil ?_
 refine FinX.done (F':=[(0,_),(1,_),(4,_),(5,_),(6,_),(7,_),(22,_),(31,_),(33,_),(37,_),(42,_)]) rfl ⟨rfl,rfl,rfl,rfl,rfl,rfl,rfl,rfl,rfl,rfl,rfl,trivial⟩ ?_
 intro w4 hw4 fw4
 replace df:=df.step hw4
 replace dk:=dk.step hw4
 replace k0:=k0.step hw4
 replace gv:=gv.step hw4
 have e41:(count:Int)+1=((count+1:Nat):Int):=by omega
 rw[e41]
 refine Zc (Ze Tryz.func131) (note_any B g0 gd num (count+1) (D1.sync lg) nm num count size broken _ gv hgB k0 dk hn hnm hnl (by omega)) ?_
 clear dk
 rintro e w5 ⟨rfl,dk,fw5⟩
 refine⟨_,rfl,?_⟩
 replace df:=df.df fw5
 replace k0:=k0.df fw5
 replace gv:=gv.df fw5
 refine Za ?_
 refine Zk8 0 1 4 5 6 7 22 31 (Zt (Cd.ret ?_))
 refine Ze1 ?_
 exact⟨rfl,dk,df⟩
end Go.Proofs.YtdpipgidpkmolaaGreatDoor
namespace Go.Proofs.YtdpipgidpkmolaaGreatDoor
open Go.RowKit
theorem rotate_any (B g0 gd:Nat)(D:Dk)(nm:List Nat)(W:Wl)(w:World)(e0:B≤g0)(hB:B≤w.heap.size)(k0:Blk w g0 111 (W.cs gd nm))(dk:DkAt w B gd D)(hn:W.num≤1000000000):
  Calls Tryz.prog 76 #[.pointer (some ⟨g0,0,none⟩)] w fun e w'=>e= .returned (.int .i64 (W.rotate.num:Int))∧Blk w' g0 111 (W.rotate.cs gd nm)∧DkAt w' B gd D∧Lf B w w':=by
 have lf:=Lf.refl B w
 obtain⟨num,count,size,broken⟩:=W
 simp only at hn
 unfold Wl.cs at k0
 unfold Wl.rotate
 simp only at k0⊢
 refine Zs 28 Tryz.func76 ?_
 refine Zsr ?_
 refine Za ?_
 refine Zk2 0 2 (Zts (Zsr ?_))
 refine Zm ?_
 refine Zv (Runs.eqlP rfl rfl rfl Tryz.underlying68) ?_
 refine Zk3 0 2 4 (Zt ?_)
 refine Cd.condF rfl rfl ?_
 refine Cd.skip (Zts (Zsr ?_))
 refine Zm ?_
 refine Zv (Runs.nilCheck rfl rfl) ?_
 refine Zf 3 Tryz.underlying111 ?_
 refine ZL Tryz.underlying3 k0 ?_
 refine Zgt ?_
 refine Zk4 0 2 4 9 (Zt ?_)
 refine Cd.cond rfl (fun h=> ?_) (fun h=> ?_)
 ·have h:0<count:=by
   have h':(0:Int)<(count:Int):=by simpa using h
   omega
  rw[if_pos h]
  refine Zr ?_
  refine Zm ?_
  refine Zm ?_
  refine Zm ?_
  refine Zm ?_
  refine Zv (Runs.nilCheck rfl rfl) ?_
  refine Zf 2 Tryz.underlying111 ?_
  refine ZL Tryz.underlying3 k0 ?_
  refine Za_ ?_
  refine Zv (Runs.nilCheck rfl rfl) ?_
  refine Zf 2 Tryz.underlying111 ?_
  refine Zq k0 ?_
  intro w1 pw1
  replace lf:=lf.put k0 pw1 e0
  replace dk:=dk.put k0 pw1 e0
  replace k0:=pw1.blk
  refine Zv (Runs.nilCheck rfl rfl) ?_
  refine Zf 3 Tryz.underlying111 ?_
  refine Zq k0 ?_
  intro w2 pw2
  replace lf:=lf.put k0 pw2 e0
  replace dk:=dk.put k0 pw2 e0
  replace k0:=pw2.blk
  refine Zv (Runs.nilCheck rfl rfl) ?_
  refine Zf 4 Tryz.underlying111 ?_
  refine Zq k0 ?_
  intro w3 pw3
  replace lf:=lf.put k0 pw3 e0
  replace dk:=dk.put k0 pw3 e0
  replace k0:=pw3.blk
  refine Zk4 0 2 4 9 (Ztq ?_)
  refine Zm ?_
  refine Zv (Runs.nilCheck rfl rfl) ?_
  refine Zf 2 Tryz.underlying111 ?_
  refine ZL Tryz.underlying3 k0 ?_
  refine Za ?_
  refine Zk4 0 2 4 9 (Zt (Cd.ret ?_))
  refine Ze1 ?_
  exact⟨rfl,k0,dk,lf⟩
 ·have h:¬(0<count):=by
   have h':¬((0:Int)<(count:Int)):=by simpa using h
   omega
  rw[if_neg h]
  refine Cd.skip (Ztq ?_)
  refine Zm ?_
  refine Zv (Runs.nilCheck rfl rfl) ?_
  refine Zf 2 Tryz.underlying111 ?_
  refine ZL Tryz.underlying3 k0 ?_
  refine Za ?_
  refine Zk4 0 2 4 9 (Zt (Cd.ret ?_))
  refine Ze1 ?_
  exact⟨rfl,k0,dk,lf⟩
end Go.Proofs.YtdpipgidpkmolaaGreatDoor
namespace Go.Proofs.YtdpipgidpkmolaaGreatDoor
open Go.RowKit
theorem turned_le (W:Wl)(data:List Nat):(W.turned data).count≤W.count∧(W.turned data).num≤W.num+1∧(W.turned data).size≤W.size∧(W.turned data).broken=W.broken:=by
 unfold Wl.turned Wl.rotate
 split
 ·split
  ·exact⟨Nat.zero_le _,Nat.le_refl _,Nat.zero_le _,rfl⟩
  ·exact⟨Nat.le_refl _,Nat.le_succ _,Nat.le_refl _,rfl⟩
 ·exact⟨Nat.le_refl _,Nat.le_succ _,Nat.le_refl _,rfl⟩
set_option maxHeartbeats 2000000 in
theorem append_w_any (B g0 gd:Nat)(D:Dk)(nm data:List Nat)(W:Wl)(w:World)(gv:Gv w)(hgB:max 2 1 <B)(e0:B≤g0)(k0:Blk w g0 111 (W.cs gd nm))(dk:DkAt w B gd D)(hnm:Byt nm)(hnl:nm.length≤8)(hn:W.num≤1000000)(hc:W.count≤1000000)(hsz:W.size≤1000000000)(hd:Byt data)(hdl:data.length≤100000000):
  Calls Tryz.prog 33 #[.pointer (some ⟨g0,0,none⟩), .string (strOf data)] w fun e w'=>e= .returned (.int .i64 (appW W D nm data).2.2)∧Blk w' g0 111 ((appW W D nm data).1.cs gd nm)∧DkAt w' B gd (appW W D nm data).2.1∧Lf B w w':=by
 have lf:=Lf.refl B w
 have hB:=dk.size
 have hturn:=turned_le W data
 unfold appW
 refine Zs 62 Tryz.func33 ?_
 refine Zsr ?_
 refine Za ?_
 refine Zk3 0 1 4 (Zts (Zsr ?_))
 refine Zm ?_
 refine Zv (Runs.eqlP rfl rfl rfl Tryz.underlying68) ?_
 refine Zk4 0 1 4 9 (Zt ?_)
 refine Cd.condF rfl rfl ?_
 refine Cd.skip (Ztq ?_)
 refine Zm ?_
 refine Zc (Ze Tryz.func75) (frame_any data _ gv.nib hd hdl) ?_
 rintro e w5 ⟨rfl,hb5⟩
 refine⟨_,rfl,?_⟩
 replace lf:=lf.step hb5
 replace dk:=dk.step hb5
 replace k0:=k0.step hb5
 replace gv:=gv.step hb5
 refine Zm ?_
 refine Zx ?_
 refine Zx ?_
 refine Za ?_
 refine Za ?_
 refine Zk6 0 1 4 5 6 9 (Zts (Cd.block (Zsr ?_)))
 refine Zm ?_
 refine Zno ?_
 refine Za ?_
 refine Zk7 0 1 4 5 6 9 15 (Zt ?_)
 refine Cd.cond rfl (fun h=> ?_) (fun h=> ?_)
 ·have h:131072<data.length:=by
   have h':(!decide (data.length≤131072))=true:=h
   rw[Bool.not_eq_true',decide_eq_false_iff_not] at h'
   omega
  rw[if_pos h]
  refine Zsr ?_
  refine Za ?_
  refine Zk7 0 1 4 5 6 9 15 (Zt (Cd.ret (Post.block_ret (Post.then_ret ?_))))
  refine Ze1 ?_
  exact⟨rfl,k0,dk,lf⟩
 have hlen:data.length≤131072:=by
  have h':(!decide (data.length≤131072))=false:=h
  rw[Bool.not_eq_false',decide_eq_true_eq] at h'
  exact h'
 rw[if_neg (by omega),if_pos hlen]
 obtain⟨W0,hW0⟩:∃x,x=W:=⟨_,rfl⟩
 have k0':=k0
 rw[←hW0] at k0'
 obtain⟨num,count,size,broken⟩:=W0
 clear k0
 have k0:=k0'
 clear k0'
 unfold Wl.cs at k0
 simp only at k0
 have hbr:W.broken=broken:=by rw[←hW0]
 refine Zsr ?_
 refine Zm ?_
 refine Zv (Runs.nilCheck rfl rfl) ?_
 refine Zf 5 Tryz.underlying111 ?_
 refine ZL Tryz.underlying4 k0 ?_
 refine Za ?_
 refine Zk8 0 1 4 5 6 9 15 18 (Zt ?_)
 refine Cd.cond rfl (fun h=> ?_) (fun h=> ?_)
 ·have h:broken=true:=h
  rw[if_pos (by rw[hbr];exact h),←hW0]
  refine Zsr ?_
  refine Za ?_
  refine Zk8 0 1 4 5 6 9 15 18 (Zt (Cd.ret (Post.block_ret (Post.then_ret ?_))))
  refine Ze1 ?_
  exact⟨rfl,k0,dk,lf⟩
 have h:broken=false:=h
 subst h
 rw[if_neg (by rw[hbr];simp)]
 obtain⟨fr,hfr⟩:∃x,x=frameN data:=⟨_,rfl⟩
 have hfl:fr.length=data.length+12:=by rw[hfr,frameN_len]
 have hfb:Byt fr:=by rw[hfr];exact frameN_lt hd
 rw[←hfr]
 have hW'e:W.turned data=if 1048576-(size:Int)<(fr.length:Int) then(Wl.mk num count size false).rotate else⟨num,count,size,false⟩:=by rw[←hW0,hfl];rfl
 have hsz0:size≤1000000000:=by rw[←hW0] at hsz;exact hsz
 have hn0:num≤1000000:=by rw[←hW0] at hn;exact hn
 have hc0:W.count=count:=by rw[←hW0]
 have hs0:W.size=size:=by rw[←hW0]
 have hn1:W.num=num:=by rw[←hW0]
 obtain⟨W',hW'⟩:∃x,x=W.turned data:=⟨_,rfl⟩
 rw[←hW'] at hturn hW'e
 rw[←hW']
 refine Cd.skip (Post.block_normal (Zt ?_))
 refine Cd.seqJ (σ:=Unit) (fun _=>[(0, .pointer (some ⟨g0,0,none⟩)),(5, .string (strOf fr))]) (fun _ wr=>Blk wr g0 111 (W'.cs gd nm)∧DkAt wr B gd D∧Lf B w wr∧Gv wr) ?_ ?_
 ·skip
  refine Zsr ?_
  refine Zm ?_
  refine Zv (Runs.lenL rfl rfl Tryz.underlying9) ?_
  refine Zm ?_
  refine Zv (Runs.nilCheck rfl rfl) ?_
  refine Zf 4 Tryz.underlying111 ?_
  refine ZL Tryz.underlying3 k0 ?_
  refine Zsu ?_
  refine Zgt ?_
  refine Zk9 0 1 4 5 6 9 15 18 30 (Zt ?_)
  refine Cd.cond rfl (fun h=> ?_) (fun h=> ?_)
  ·have h:1048576-(size:Int)<(fr.length:Int):=by simpa using h
   rw[if_pos h] at hW'e
   rw[hW'e]
   refine Zr ?_
   refine Zm ?_
   refine Zc (Ze Tryz.func76) (rotate_any B g0 gd D nm ⟨num,count,size,false⟩ _ e0 (by have:=lf.size;omega) k0 dk (by show num≤_;omega)) ?_
   clear k0 dk
   rintro e w1 ⟨rfl,k0,dk,fw1⟩
   refine⟨_,rfl,?_⟩
   replace lf:=lf.lf fw1
   replace gv:=gv.lf fw1
   refine Zk9 0 1 4 5 6 9 15 18 30 ?_
   exact Post.join () ⟨rfl,rfl,trivial⟩ ⟨k0,dk,lf,gv⟩
  ·have h:¬(1048576-(size:Int)<(fr.length:Int)):=by simpa using h
   rw[if_neg h] at hW'e
   rw[hW'e]
   refine Cd.skip ?_
   exact Post.join () ⟨rfl,rfl,trivial⟩ ⟨k0,dk,lf,gv⟩
 clear lf dk k0 gv
 rintro⟨⟩ wj ⟨k0,dk,lf,gv⟩
 obtain⟨ht1,ht2,ht3,ht4⟩:=hturn
 clear hW'e hW'
 obtain⟨num',count',size',broken'⟩:=W'
 simp only at ht1 ht2 ht3 ht4
 simp only
 obtain rfl:broken'=false:=by rw[ht4,hbr]
 refine Cd.seq (Zsr ?_)
 refine Zm ?_
 refine Zm ?_
 refine Zc (Ze Tryz.func77) (room_any B g0 gd D nm fr ⟨num',count',size',false⟩ _ k0 dk (by omega)) ?_
 rintro e w6 ⟨rfl,hb6⟩
 refine⟨_,rfl,?_⟩
 rw[hfl]
 simp only
 replace lf:=lf.step hb6
 replace dk:=dk.step hb6
 replace k0:=k0.step hb6
 replace gv:=gv.step hb6
 refine Zno ?_
 refine Zk3 0 5 36 (Zt ?_)
 refine Cd.cond rfl (fun h=> ?_) (fun h=> ?_)
 ·have h:roomW D num' count' (data.length+12)=false:=by simpa using h
  rw[if_pos h]
  refine Zsr ?_
  refine Za ?_
  refine Zk4 0 4 5 36 (Zt (Cd.ret (Post.then_ret ?_)))
  refine Ze1 ?_
  exact⟨rfl,k0,dk,lf⟩
 have h:roomW D num' count' (data.length+12)=true:=by simpa using h
 rw[if_neg (by simp[h])]
 have hn6:num'≤999999:=by
  unfold roomW at h
  rw[Bool.and_eq_true,decide_eq_true_eq] at h
  exact h.2
 refine Cd.skip (Zts (Zsr ?_))
 refine Zm ?_
 refine Zm ?_
 refine Zc (Ze Tryz.func78) (lay_any B g0 gd D nm fr ⟨num',count',size',false⟩ _ gv hgB k0 dk hnm hnl hn6 (by show count'≤_;omega) hfb (by omega)) ?_
 clear dk
 rintro e w1 ⟨rfl,dk,fw1⟩
 refine⟨_,rfl,?_⟩
 replace lf:=lf.df fw1
 replace k0:=k0.df fw1
 replace gv:=gv.df fw1
 simp only at dk
 simp only
 unfold Wl.cs at k0
 simp only at k0
 refine Za ?_
 refine Zk4 0 5 7 36 (Ztq ?_)
 refine Zm ?_
 refine Zni ?_
 refine Zk5 0 5 7 36 41 (Zt ?_)
 refine Cd.cond rfl (fun h=> ?_) (fun h=> ?_)
 ·have h:(D.lay nm num' count' fr).2≠0:=by simpa using h
  rw[if_pos h]
  refine Zsr ?_
  refine Zm ?_
  refine Zv (Runs.nilCheck rfl rfl) ?_
  refine Zf 5 Tryz.underlying111 ?_
  refine Zq k0 ?_
  intro w2 pw2
  replace lf:=lf.put k0 pw2 e0
  replace dk:=dk.put k0 pw2 e0
  replace gv:=gv.put k0 pw2 e0
  replace k0:=pw2.blk
  refine Zk5 0 5 7 36 41 (Ztq ?_)
  refine Zm ?_
  refine Za ?_
  refine Zk6 0 4 5 7 36 41 (Zt (Cd.ret (Post.then_ret ?_)))
  refine Ze1 ?_
  exact⟨rfl,k0,dk,lf⟩
 have h:¬((D.lay nm num' count' fr).2≠0):=by simpa using h
 rw[if_neg h]
 refine Cd.skip (Ztq ?_)
 refine Zm ?_
 refine Zv (Runs.nilCheck rfl rfl) ?_
 refine Zf 3 Tryz.underlying111 ?_
 refine ZL Tryz.underlying3 k0 ?_
 refine Za_ ?_
 refine Zv (Runs.nilCheck rfl rfl) ?_
 refine Zf 3 Tryz.underlying111 ?_
 refine Zq k0 ?_
 intro w2 pw2
 replace lf:=lf.put k0 pw2 e0
 replace dk:=dk.put k0 pw2 e0
 replace gv:=gv.put k0 pw2 e0
 replace k0:=pw2.blk
 refine Zk5 0 5 7 36 41 (Ztq ?_)
 refine Zm ?_
 refine Zv (Runs.nilCheck rfl rfl) ?_
 refine Zf 4 Tryz.underlying111 ?_
 refine ZL Tryz.underlying3 k0 ?_
 refine Zm ?_
 refine Zv (Runs.lenL rfl rfl Tryz.underlying9) ?_
 refine Za_ ?_
 refine Zv (Runs.nilCheck rfl rfl) ?_
 refine Zf 4 Tryz.underlying111 ?_
 refine Zq k0 ?_
 intro w3 pw3
 replace lf:=lf.put k0 pw3 e0
 replace dk:=dk.put k0 pw3 e0
 replace gv:=gv.put k0 pw3 e0
 replace k0:=pw3.blk
 refine Zk5 0 5 7 36 41 (Ztq ?_)
 refine Za ?_
 refine Zk6 0 4 5 7 36 41 (Zt (Cd.ret ?_))
 refine Ze1 ?_
 refine⟨rfl,?_,dk,lf⟩
 unfold Wl.cs
 simp only
 rw[←hfl]
 exact k0
end Go.Proofs.YtdpipgidpkmolaaGreatDoor
namespace Go.Proofs.YtdpipgidpkmolaaGreatDoor
open Go.RowKit
theorem foldB (k n:Nat):∀a,(beB k n).foldl (fun n c=>n*256+c) a=a*256^k+n%256^k:=by
 induction k with
 |zero=>intro a;simp[beB,Nat.mod_one]
 |succ k ih=>
  intro a
  rw[beB,List.foldl_cons,ih,Nat.mod_pow_succ,Nat.pow_succ]
  generalize 256^k=p
  generalize n/p%256=d
  generalize n%p=r
  rw[Nat.add_mul,Nat.mul_assoc,Nat.mul_comm 256 p,Nat.mul_comm d p]
  omega
theorem valB_be {k n:Nat}(h:n<256^k):valB (beB k n)=n:=by
 unfold valB
 rw[foldB,Nat.mod_eq_of_lt h]
 omega
def framesN (l:List (List Nat)):List Nat:=l.flatMap frameN
def marksL (l:List Nat):List Nat:=l.flatMap markN
def marksN (k:Nat):List Nat:=marksL ((List.range k).map (· +1))
theorem framesN_app (a b:List (List Nat)):framesN (a++b)=framesN a++framesN b:=by simp[framesN]
theorem framesN_one (s:List Nat):framesN [s]=frameN s:=by simp[framesN]
theorem marksN_succ (k:Nat):marksN (k+1)=marksN k++markN (k+1):=by simp[marksN,marksL,List.range_succ]
theorem openN_frame {s:List Nat}(r:List Nat)(hl:s.length≤131072):openN (frameN s++r)=(s,s.length+12,0):=by
 have hv:valB (beB 4 s.length)=s.length:=valB_be (by rw[show(256:Nat)^4=4294967296 by decide];omega)
 obtain⟨X,hX⟩:∃X,X=beB 4 s.length:=⟨_,rfl⟩
 have hXl:X.length=4:=by rw[hX,beB_len]
 obtain⟨Y,hY⟩:∃Y,Y=laidC X:=⟨_,rfl⟩
 have hYl:Y.length=4:=by rw[hY,laidC_len]
 obtain⟨Z,hZ⟩:∃Z,Z=laidC s:=⟨_,rfl⟩
 have hZl:Z.length=4:=by rw[hZ,laidC_len]
 have hf:frameN s++r=X++(Y++(s++(Z++r))):=by
  unfold frameN
  rw[←hX,←hY,←hZ]
  simp
 rw[←hX] at hv
 rw[hf]
 have t4:(X++(Y++(s++(Z++r)))).take 4=X:=List.take_left' hXl
 have d4:(X++(Y++(s++(Z++r)))).drop 4=Y++(s++(Z++r)):=List.drop_left' hXl
 have d8:(X++(Y++(s++(Z++r)))).drop 8=s++(Z++r):=by
  rw[←List.append_assoc]
  exact List.drop_left' (by rw[List.length_append];omega)
 have d8n:(X++(Y++(s++(Z++r)))).drop (8+s.length)=Z++r:=by
  rw[←List.drop_drop,d8]
  exact List.drop_left' rfl
 have hlen:(X++(Y++(s++(Z++r)))).length=12+s.length+r.length:=by simp only[List.length_append];omega
 unfold openN
 rw[t4,d4,d8,hv,d8n,hlen,List.take_left' hYl,List.take_left' rfl,List.take_left' hZl,←hY,←hZ,if_neg (by omega),if_neg (by simp;omega),if_neg (by omega),if_neg (by simp)]
 congr 2
 omega
theorem allGo_frames:∀(l:List (List Nat)) (f:Nat),(∀s∈l,s.length≤131072)→(framesN l).length≤f→allGo f (framesN l)=(l,(framesN l).length,0)
 | [],f,_,_=>by
  cases f with
  |zero=>rfl
  |succ f=>simp[allGo,framesN]
 |s::l,f,h,hf=>by
  have hs:=h s List.mem_cons_self
  have e:framesN (s::l)=frameN s++framesN l:=by simp[framesN]
  have hl:=frameN_len s
  rw[e,List.length_append] at hf
  obtain⟨f,rfl⟩:∃k,f=k+1:=⟨f-1,by omega⟩
  have hne:frameN s++framesN l≠ []:=fun h0=>by
   have:0<(frameN s++framesN l).length:=by rw[List.length_append];omega
   rw[h0] at this
   exact absurd this (by simp)
  rw[e,allGo,if_neg hne,openN_frame _ hs]
  have hd:(frameN s++framesN l).drop (s.length+12)=framesN l:=List.drop_left' hl
  simp only[hd,ne_eq,not_true_eq_false,if_false]
  rw[allGo_frames l f (fun x hx=>h x (List.mem_cons_of_mem _ hx)) (by omega),List.length_append,hl]
theorem allN_frames {l:List (List Nat)}(h:∀s∈l,s.length≤131072):allN (framesN l)=(l,(framesN l).length,0):=allGo_frames l _ h (Nat.le_refl _)
theorem valB_mark {n:Nat}(h:n<18446744073709551616):valB ((markN n).take 8)=n:=by
 have:(markN n).take 8=beB 8 n:=List.take_left' (beB_len 8 n)
 rw[this]
 exact valB_be (by rw[show(256:Nat)^8=18446744073709551616 by decide];exact h)
theorem cntStep_mark {a:Nat × Bool}{n:Nat}(h:n≤131072):cntStep a (markN n)=(max a.1 n,a.2):=by
 unfold cntStep
 rw[valB_mark (by omega),if_neg (by simp;omega),if_neg (by omega),if_pos h]
theorem cntGo_marks:∀(ns:List Nat) (f:Nat) (a:Nat × Bool),(∀n∈ns,n≤131072)→(marksL ns).length≤f→cntGo f a (marksL ns)=(ns.foldl max a.1,a.2)
 | [],f,a,_,_=>by
  cases f with
  |zero=>rfl
  |succ f=>simp[cntGo,marksL]
 |n::ns,f,a,h,hf=>by
  have e:marksL (n::ns)=markN n++marksL ns:=by simp[marksL]
  have hl:=markN_len n
  rw[e,List.length_append] at hf
  obtain⟨f,rfl⟩:∃k,f=k+1:=⟨f-1,by omega⟩
  have t:(markN n++marksL ns).take 12=markN n:=List.take_left' hl
  have d:(markN n++marksL ns).drop 12=marksL ns:=List.drop_left' hl
  rw[e,cntGo,if_pos (by rw[List.length_append];omega),t,d,cntStep_mark (h n List.mem_cons_self),cntGo_marks ns f _ (fun x hx=>h x (List.mem_cons_of_mem _ hx)) (by omega),List.foldl_cons]
theorem fold_max (k:Nat):((List.range k).map (· +1)).foldl max 0=k:=by
 induction k with
 |zero=>rfl
 |succ k ih=>
  rw[List.range_succ,List.map_append,List.foldl_append,ih]
  simp
theorem countN_marks {k:Nat}(h:k≤131072):countN (marksN k)=(k,false):=by
 unfold countN marksN
 rw[cntGo_marks _ _ _ (fun n hn=>by
  obtain⟨i,hi,rfl⟩:=List.mem_map.1 hn
  have:=List.mem_range.1 hi
  omega) (Nat.le_refl _)]
 rw[fold_max]
theorem marksN_len (k:Nat):(marksN k).length=12*k:=by
 induction k with
 |zero=>rfl
 |succ k ih=>rw[marksN_succ,List.length_append,ih,markN_len];omega
end Go.Proofs.YtdpipgidpkmolaaGreatDoor
