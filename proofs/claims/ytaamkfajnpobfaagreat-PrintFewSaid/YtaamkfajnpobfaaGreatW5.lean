/-
  Texts that were joined: ClmC, ParE, LexK, DateE, LexL, ClmD, ClmE, ClmF, ParF, ClmG, ClmH, FewA, BakA, BakB. Conditions: what each theorem names.
-/
import Derived.Test.YtaamkfajnpobfaaGreatW4
set_option linter.unusedSectionVars false
namespace Go.Proofs.YtaamkfajnpobfaaGreat
open Go.RowKit
def CR {α:Type}(K:Ctx)(h:Nat)(w:World)(pf:α→Nat→Int→Bool→Bool→Prop)(okv:α→Value→World→Prop)(e:Ending)(w':World):Prop:=
 Fz h K.g w w'∧∃v x p o dp bd,e= .returned v∧okv x v w'∧SW K w' p o dp bd∧pf x p o dp bd
def resQ {α:Type}(r:Rs α)(d:Nat)(x:α)(p:Nat)(o:Int)(dp bd:Bool):Prop:=match r with
 | .out=>False
 | .bad q ov=>p=q∧dp=ov∧bd=true∧(d:Int)≤o∧o≤d+1
 | .ok a q=>x=a∧p=q∧o=d∧dp=false∧bd=false
def sameQ {α:Type}(p:Nat)(o:Int)(dp:Bool)(_x:α)(p':Nat)(o':Int)(dp' bd':Bool):Prop:=p'=p∧o'=o∧dp'=dp∧bd'=true
structure XC {α:Type}(Rep:World→(Nat→Prop)→α→Value→Prop)(K:Ctx)(w1:World)(p:Nat)(o:Int)(dp bd:Bool)(pf:α→Nat→Int→Bool→Bool→Prop)(done made:Bool)(x:α)(S':Nat→Prop)(v:Value)(g7:Nat)(zt:TypeId)(w:World):Prop where
 fz:Fz w1.heap.size K.g w1 w
 pre:done=false→SW K w p o dp bd
 post:done=true→(∃p' o' dp' bd',SW K w p' o' dp' bd'∧pf x p' o' dp' bd')∧Rep w S' x v∧∀b,S' b→w1.heap.size≤b∧b<w.heap.size
 new:made=true→w1.heap.size≤g7∧Blk w g7 zt v.cells∧¬S' g7
theorem notT {S:Nat→Bool}{k i:Nat}(h:S i=false)(hm:updC S k i=true)(hne:i≠k:=by decide):False:=by
 unfold updC at hm
 rw[if_neg hne,h] at hm
 cases hm
theorem notDone {l:List Oper}{S:Nat→Bool}(hdc:DownC l S){i k:Nat}{o:Oper}(ho:l[i]? =some o)(hS:S k=false)(hm:k∈direct o):S i=false:=by
 cases h:S i with
 |false=>rfl
 |true=>have:=hdc i o ho h k hm;rw[hS] at this;cases this
theorem keep3 {S:Nat→Bool}{a b c u u' y y' z z':Value}(h3:S 3=false)(h4:S 4=false)(h5:S 5=false):∀j,S j=true→([a,b,c,u,y,z]:List Value)[j]? =([a,b,c,u',y',z']:List Value)[j]?
 |0,_=>rfl
 |1,_=>rfl
 |2,_=>rfl
 |3,h=>by rw[h3] at h;cases h
 |4,h=>by rw[h4] at h;cases h
 |5,h=>by rw[h5] at h;cases h
 |j+6,_=>rfl
theorem keep4 {S:Nat→Bool}{a b c u y y' z z':Value}(h4:S 4=false)(h5:S 5=false):∀j,S j=true→([a,b,c,u,y,z]:List Value)[j]? =([a,b,c,u,y',z']:List Value)[j]?
 |0,_=>rfl
 |1,_=>rfl
 |2,_=>rfl
 |3,_=>rfl
 |4,h=>by rw[h4] at h;cases h
 |5,h=>by rw[h5] at h;cases h
 |j+6,_=>rfl
theorem keep5 {S:Nat→Bool}{a b c u y z z':Value}(h5:S 5=false):∀j,S j=true→([a,b,c,u,y,z]:List Value)[j]? =([a,b,c,u,y,z']:List Value)[j]?
 |0,_=>rfl
 |1,_=>rfl
 |2,_=>rfl
 |3,_=>rfl
 |4,_=>rfl
 |5,h=>by rw[h5] at h;cases h
 |j+6,_=>rfl
section
variable {α:Type} {Rep:World→(Nat→Prop)→α→Value→Prop} {K:Ctx} {w1 w w6:World} {p:Nat} {o:Int} {dp bd:Bool} {pf:α→Nat→Int→Bool→Bool→Prop} {S:Nat→Bool} {x x6:α} {S' S6:Nat→Prop} {v v6:Value} {g7:Nat} {zt:TypeId}
theorem XC.called {k:Nat}{done:Bool}(X:XC Rep K w1 p o dp bd pf done (S 4) x S' v g7 zt w)(h4:S 4=false)(hf:Fz w.heap.size K.g w w6){p6:Nat}{o6:Int}{dp6 bd6:Bool}(hsw:SW K w6 p6 o6 dp6 bd6)(hpf:pf x6 p6 o6 dp6 bd6)(hr:Rep w6 S6 x6 v6)(hb:∀b,S6 b→w.heap.size≤b∧b<w6.heap.size)(hk:3=k:=by rfl):
  XC Rep K w1 p o dp bd pf (updC S k 3) (updC S k 4) x6 S6 v6 g7 zt w6:=by
 subst hk
 have hsz:=X.fz.size
 exact⟨X.fz.call hf,(fun h=>by cases h),fun _=>⟨⟨p6,o6,dp6,bd6,hsw,hpf⟩,hr,fun b h=>⟨by have:=(hb b h).1;omega,(hb b h).2⟩⟩,fun hm=>(notT h4 hm).elim⟩
end
section
variable {K:Ctx} {w1 w w6:World} {p:Nat} {o:Int} {dp bd:Bool} {S:Nat→Bool} {S':Nat→Prop} {v:Value} {g7 g8:Nat} {zt:TypeId} {n:Nat}
theorem XC.slicedE {pf:Ex→Nat→Int→Bool→Bool→Prop}{x:Ex}{made:Bool}(X:XC RepE K w1 p o dp bd pf (S 3) made x S' v g7 zt w)(hd:S 3=true)(n8:New w w6 g8 zt (flatC [v]).toArray):
  XC RepE K w1 p o dp bd pf (updC S 4 3) (updC S 4 4) x S' v g8 zt w6:=by
 have hsz:=X.fz.size
 have hcells:(flatC [v]).toArray=v.cells:=by simp[flatC]
 have n7b:=n8.blk
 rw[hcells] at n7b
 obtain⟨⟨p',o',dp',bd',h1,h2⟩,h3,h4⟩:=X.post hd
 refine⟨X.fz.step n8.below,fun h=> ?_,fun _=>⟨⟨p',o',dp',bd',h1.step n8.below,h2⟩,h3.mono (fun _ h=>h) (fun a ha=>n8.below.cell (h4 _ ha).2),fun b hb=>⟨(h4 b hb).1,Nat.lt_of_lt_of_le (h4 b hb).2 n8.below.size⟩⟩,fun _=>⟨Nat.le_trans hsz n8.ge,n7b,fun hb=>Nat.lt_irrefl _ (Nat.lt_of_lt_of_le (h4 _ hb).2 n8.ge)⟩⟩
 have h:S 3=false:=h
 rw[hd] at h
 cases h
end
theorem Blk.fzl {k h g:Nat}{T:TypeId}{cs:Array Value}{w w':World}(b:Blk w k T cs)(a:Fz h g w w')(hk:k<h)(hne:k≠g):Blk w' k T cs:=by
 have h1:=a.block k hk hne
 unfold Blk at b⊢
 rw[h1]
 exact b
structure ArgI (K:Ctx)(R:Rs Ex)(E0:Nat→Nat→Rs Ex)(d k p0:Nat)(op:Int)(w:World)(g6 g7:Nat)(i q:Nat)(o:Int)(dp bd:Bool)(es:List Ex)(evs:List Value)(A:Option Addr)(c:Nat)(S:Nat→Prop)(wr:World):Prop where
 i_le:i≤k
 len:es.length=i
 sw:SW K wr q o dp bd
 bel:Fz w.heap.size K.g w wr
 k6:Blk wr g6 35 #[.int .i64 0, .int .i64 0, .string {data:= #[]}, .slice none 0 0]
 k7:Blk wr g7 35 #[.int .i64 op, .int .i64 0, .string (strOf []), .slice A es.length c]
 aq:ArgQ wr g7 g7 es [] evs [] (.slice A es.length c) (.slice none 0 0) S
 good:bd=false→o=d+1∧dp=false∧p0<q∧d+1≤64∧R=(partsP K.ws (List.replicate (k-i) E0) (decide (i=0)) q (d+1)).bind fun xs q=>(signQ K.ws [41] q).bind fun _ q=> .ok (.mk op 0 [] (es++xs)) q
 bad:bd=true→R= .bad q dp∧(d:Int)+1≤o∧o≤d+2
theorem takeQ_sign {ws:List Wd}{s:List Nat}{q:Nat}:(takeQ ws s q false=(q+1,false)∧signQ ws s q= .ok () (q+1))∨(takeQ ws s q false=(q,true)∧signQ ws s q= .bad q false):=by
 unfold takeQ signQ
 by_cases h:isS ws q s=true
 ·rw[if_pos ⟨rfl,h⟩,if_pos h];exact .inl ⟨rfl,rfl⟩
 ·rw[if_neg (fun h2=>h h2.2),if_neg h];exact .inr ⟨rfl,rfl⟩
theorem takeQ_bad {ws:List Wd}{s:List Nat}{q:Nat}:takeQ ws s q true=(q,true):=by
 unfold takeQ
 rw[if_neg (fun h=>by cases h.1)]
theorem args_any (K:Ctx)(hK:K.Ok)(op:Int)(k p d:Nat)(E0:Nat→Nat→Rs Ex)(hM:Mono E0)(w:World)(sw0:SW K w p d false false)(hp1:p+1≤K.ws.length)(hd:d≤64)(hk3:k≤3)(hop:I64 op)
  (hE:∀(q d:Nat) W,p<q→d≤64→SW K W q d false false→Calls Tryz.prog 33 #[.pointer (some ⟨K.g,0,none⟩), .int .i64 1] W (CR K W.heap.size W (resQ (E0 q d) d) (okE W))):
  Calls Tryz.prog 122 #[.pointer (some ⟨K.g,0,none⟩), .int .i64 op, .int .i64 (k:Int)] w (CR K w.heap.size w (resQ (calledP K.ws E0 op k p d) d) (okE w)):=by
 have bel:=Fz.refl w.heap.size K.g w
 have k99:=sw0.blk
 have e99:K.g=K.g:=rfl
 have hlt:=sw0.blk.lt
 have hle:=hK.le
 have hlen:=hK.len
 obtain⟨R,hR⟩:∃R,R=calledP K.ws E0 op k p d:=⟨_,rfl⟩
 rw[←hR]
 have hR1:R=(signQ K.ws [40] (p+1)).bind fun _ q=>(enterP q d).bind fun _ q=>(partsP K.ws (List.replicate k E0) true q (d+1)).bind fun xs q=>(signQ K.ws [41] q).bind fun _ q=> .ok (.mk op 0 [] xs) q:=by
  rw[hR]
  unfold calledP withinP
  simp only[Rs.bind_assoc]
  rfl
 clear hR
 refine Zs 55 Tryz.func122 ?_
 refine Zsr ?_
 refine Zl zero_api_Expr ?_
 intro g6 w1 n6
 have e6:=Nat.le_trans bel.size n6.ge
 have l6:=Nat.lt_of_lt_of_le k99.lt n6.ge
 replace bel:=bel.step n6.below
 replace k99:=k99.step n6.below
 have k6:=n6.blk
 refine Zk4 0 1 2 6 (Ztq ?_)
 refine Zm ?_
 refine Zv (Runs.nilCheck rfl rfl) ?_
 refine Zf 1 Tryz.underlying69 ?_
 refine Zv (Runs.loadB rfl rfl Tryz.underlying3 rfl k99 rfl) ?_
 refine Za_ ?_
 refine Zv (Runs.nilCheck rfl rfl) ?_
 refine Zf 1 Tryz.underlying69 ?_
 refine Zq k99 ?_
 intro w2 pw2
 replace bel:=bel.put k99 pw2 e99
 replace k6:=k6.put pw2 (by omega)
 replace k99:=pw2.blk
 refine Zk4 0 1 2 6 (Ztq ?_)
 refine Zm ?_
 have hta:=take_any K hK (p+1) d false false [40] _ (sw0.to hle bel (by rw[Int.natCast_add];exact k99) hp1 (by omega)) (by decide) (by decide)
 have hk6:=k6.lt
 refine Zc (Ze Tryz.func67) hta ?_
 rintro e w5 ⟨⟨v5,rfl⟩,hf5,sw5⟩
 refine⟨_,rfl,?_⟩
 replace bel:=bel.call hf5
 replace k6:=k6.fz hf5 (by omega)
 have hs5:=hf5.size
 clear k99
 refine Zk4 0 1 2 6 (Ztq ?_)
 refine Zm ?_
 have hen:=enterS_any K hK _ _ _ _ _ sw5 (by omega)
 refine Zc (Ze Tryz.func68) hen ?_
 rintro e we ⟨⟨ve,rfl⟩,hfe,swe⟩
 refine⟨_,rfl,?_⟩
 replace bel:=bel.call hfe
 replace k6:=k6.fz hfe (by omega)
 have hse:=hfe.size
 have hst:∃(q:Nat) (dp bd:Bool),SW K we q (d+1) dp bd∧(bd=false→dp=false∧p<q∧d+1≤64∧R=(partsP K.ws (List.replicate k E0) true q (d+1)).bind fun xs q=>(signQ K.ws [41] q).bind fun _ q=> .ok (.mk op 0 [] xs) q)∧(bd=true→R= .bad q dp):=by
  rcases takeQ_sign (ws:=K.ws) (s:=[40]) (q:=p+1) with ⟨h1,h2⟩|⟨h1,h2⟩
  ·rw[h1] at swe
   dsimp only at swe
   rw[h2,Rs.bind_ok] at hR1
   by_cases h64:64<(d:Int)+1
   ·rw[if_pos ⟨h64,rfl⟩] at swe
    refine⟨_,_,_,swe,fun h=>(by cases h),fun _=> ?_⟩
    rw[hR1]
    unfold enterP
    rw[if_pos (by omega)]
    rfl
   ·rw[if_neg (fun h=>h64 h.1)] at swe
    refine⟨_,_,_,swe,fun _=>⟨rfl,by omega,by omega,?_⟩,fun h=>by cases h⟩
    rw[hR1]
    unfold enterP
    rw[if_neg (by omega),Rs.bind_ok]
  ·rw[h1] at swe
   dsimp only at swe
   rw[h2,Rs.bind_bad] at hR1
   rw[if_neg (fun h=>by cases h.2),if_neg (fun h=>by cases h.2)] at swe
   exact⟨_,_,_,swe,fun h=>(by cases h),fun _=>hR1⟩
 clear swe hR1 sw5 sw0
 obtain⟨q0,dp0,bd0,sw,hgood,hbad⟩:=hst
 have k6lt:=k6.lt
 refine Zk4 0 1 2 6 (Ztq ?_)
 refine Zm ?_
 refine Zv (Runs.build rfl rfl (run_build_Eop op _)) ?_
 refine Zl zero_api_Expr ?_
 intro g7 w3 n7
 have e7:=Nat.le_trans bel.size n7.ge
 have l7:=Nat.lt_of_lt_of_le k6.lt n7.ge
 replace bel:=bel.step n7.below
 replace k6:=k6.step n7.below
 replace sw:=sw.step n7.below
 have k7:=n7.blk
 refine Zo 4 k7 ?_
 intro w4 pw4
 replace bel:=bel.put k7 pw4 e7
 replace k6:=k6.put pw4 (by omega)
 replace sw:=sw.put k7 pw4 e7
 replace k7:=pw4.blk
 refine Zk5 0 1 2 6 7 (Zts (Zsr ?_))
 refine Za ?_
 refine Zk6 0 1 2 6 7 8 (Zt (Cd.block ?_))
 refine Cd.loop (σ:=Nat × Nat × Int × Bool × Bool × List Ex × List Value × (Option Addr × Nat) × (Nat→Prop)) (fun s=>[(0, .pointer (some ⟨K.g,0,none⟩)),(2, .int .i64 (k:Int)),(6, .pointer (some ⟨g6,0,none⟩)),(7, .pointer (some ⟨g7,0,none⟩)),(8, .int .i64 (s.1:Int))])
  (fun s wr=>ArgI K R E0 d k p op w g6 g7 s.1 s.2.1 s.2.2.1 s.2.2.2.1 s.2.2.2.2.1 s.2.2.2.2.2.1 s.2.2.2.2.2.2.1 s.2.2.2.2.2.2.2.1.1 s.2.2.2.2.2.2.2.1.2 s.2.2.2.2.2.2.2.2 wr) (fun s=>k-s.1) (0,q0,d+1,dp0,bd0,[],[],(none,0),fun _=>False)
  ⟨Nat.zero_le _,rfl,sw,bel,k6,k7,ArgQ.nil _ _ _,fun h=>⟨rfl,(hgood h).1,(hgood h).2.1,(hgood h).2.2.1,(hgood h).2.2.2⟩,fun h=>⟨hbad h,Int.le_refl _,by dsimp only;omega⟩⟩ ⟨rfl,rfl,rfl,rfl,rfl,trivial⟩ ?_
 clear sw bel k6 k7 hgood hbad
 rintro⟨i,q,o,dp,bd,es,evs,⟨A,c⟩,S⟩ wr ⟨hi,hes,sw,bel,k6,k7,aq,hgood,hbad⟩
 dsimp only at hi hes sw k7 aq hgood hbad⊢
 have k99:=sw.blk
 have h67:g6<g7:=by omega
 have hg7:w.heap.size≤g7:=by omega
 have hgt:K.g<g7:=by omega
 have k7l:=k7.lt
 refine Cd.seq (Zsr ?_)
 refine Zm ?_
 refine Zm ?_
 refine Zv (Runs.lss rfl rfl rfl) ?_
 refine Zm ?_
 refine SeqC.start ?_
 refine Zco (fun hcx=>Runs.move rfl rfl) ?_
 refine SeqC.next rfl rfl rfl rfl rfl rfl rfl (fun hcx=>Runs.nilCheck rfl rfl) ?_
 refine SeqC.next rfl rfl rfl rfl rfl rfl rfl (fun hcx=>Runs.fieldB 4 rfl rfl Tryz.underlying69 rfl (by kernel_rfl)) ?_
 refine SeqC.next rfl rfl rfl rfl rfl rfl rfl (fun hcx=>Runs.loadB rfl rfl Tryz.underlying4 rfl k99 rfl) ?_
 refine SeqC.next rfl rfl rfl rfl rfl rfl rfl (fun hcx=>Runs.not rfl rfl) ?_
 refine SeqC.and rfl rfl rfl rfl rfl rfl rfl ?_
 refine Zk6 0 2 6 7 8 31 (Zt ?_)
 refine Cd.cond rfl (fun hc=> ?_) (fun hc=> ?_)
 ·obtain⟨hik,rfl⟩:i<k∧bd=false:=by simpa using hc
  obtain⟨rfl,rfl,hpq,hd1,hRg⟩:=hgood rfl
  obtain⟨m,hm⟩:∃m,k-i=m+1:=⟨k-i-1,by omega⟩
  have hm2:k-(i+1)=m:=by omega
  rw[hm,List.replicate_succ,partsP_cons] at hRg
  refine Cd.skip (Zts (Cd.block ?_))
  refine Cd.seqJ (σ:=Nat × Bool) (fun _=>[(0, .pointer (some ⟨K.g,0,none⟩)),(2, .int .i64 (k:Int)),(6, .pointer (some ⟨g6,0,none⟩)),(7, .pointer (some ⟨g7,0,none⟩)),(8, .int .i64 (i:Int))]) (fun s wj=>SW K wj s.1 ((d:Int)+1) false s.2∧Fz w.heap.size K.g w wj∧Blk wj g6 35 #[.int .i64 0, .int .i64 0, .string {data:= #[]}, .slice none 0 0]∧Blk wj g7 35 #[.int .i64 op, .int .i64 0, .string (strOf []), .slice A es.length c]∧ArgQ wj g7 g7 es [] evs [] (.slice A es.length c) (.slice none 0 0) S∧(s.2=false→p<s.1∧R=(E0 s.1 (d+1)).bind fun x q=>(partsP K.ws (List.replicate m E0) false q (d+1)).bind fun xs q=>(signQ K.ws [41] q).bind fun _ q=> .ok (.mk op 0 [] (es++x::xs)) q)∧(s.2=true→R= .bad s.1 false)) ?_ ?_
  ·skip
   refine Zsr ?_
   refine Zm ?_
   refine Zv (Runs.gtr rfl rfl rfl) ?_
   refine Zk7 0 2 6 7 8 31 35 (Zt ?_)
   refine Cd.condD rfl (fun hc=> ?_) (fun hc=> ?_)
   ·have hta:=take_any K hK q ((d:Int)+1) false false [44] _ sw (by decide) (by decide)
    rw[decide_eq_false (show¬i=0 by omega),if_neg (by decide)] at hRg
    refine Zr ?_
    refine Zm ?_
    refine Zc (Ze Tryz.func67) hta ?_
    rintro e w5 ⟨⟨v5,rfl⟩,hf5,sw5⟩
    refine⟨_,rfl,?_⟩
    clear hta
    refine Zk7 0 2 6 7 8 31 35 ?_
    refine Post.join (takeQ K.ws [44] q false) ⟨rfl,rfl,rfl,rfl,rfl,trivial⟩ ⟨sw5,bel.call hf5,k6.fz hf5 (by omega),k7.fz hf5 (by omega),aq.fz hf5 hgt,fun h=> ?_,fun h=> ?_⟩
    ·rcases takeQ_sign (ws:=K.ws) (s:=[44]) (q:=q) with ⟨h1,h2⟩|⟨h1,h2⟩
     ·rw[h1]
      rw[h2] at hRg
      refine⟨by show p<q+1;omega,?_⟩
      rw[hRg]
      simp only[Rs.bind_assoc,Rs.bind_ok]
     ·rw[h1] at h;cases h
    ·rcases takeQ_sign (ws:=K.ws) (s:=[44]) (q:=q) with ⟨h1,h2⟩|⟨h1,h2⟩
     ·rw[h1] at h;cases h
     ·rw[h1]
      rw[h2] at hRg
      exact hRg
   ·obtain rfl:i=0:=by omega
    rw[decide_eq_true rfl,if_pos rfl] at hRg
    refine Cd.skip ?_
    refine Post.join (q,false) ⟨rfl,rfl,rfl,rfl,rfl,trivial⟩ ⟨sw,bel,k6,k7,aq,fun _=>⟨hpq,?_⟩,fun h=>by cases h⟩
    rw[hRg]
    simp only[Rs.bind_assoc,Rs.bind_ok]
  clear sw bel k6 k7 k99 aq hgood hbad hRg hc
  rintro⟨q1,b1⟩ wj ⟨sw,bel,k6,k7,aq,hgood,hbad⟩
  dsimp only at sw hgood hbad
  have hcl:∀W,SW K W q1 ((d:Int)+1) false b1→Fz wj.heap.size K.g wj W→Calls Tryz.prog 33 #[.pointer (some ⟨K.g,0,none⟩), .int .i64 1] W (CR K W.heap.size W (fun x p o dp bd=>(b1=false→resQ (E0 q1 (d+1)) (d+1) x p o dp bd)∧(b1=true→sameQ q1 ((d:Int)+1) false x p o dp bd)) (okE W)):=fun W h1 _=>by
   cases b1 with
   |false=>
    refine(hE q1 (d+1) W (hgood rfl).1 hd1 (by rw[Int.natCast_add];exact h1)).mono fun e W' h=> ?_
    obtain⟨hf,v,x,p',o',dp',bd',rfl,h2,h3,h4⟩:=h
    exact⟨hf,v,x,p',o',dp',bd',rfl,h2,h3,fun _=>h4,fun h=>by cases h⟩
   |true=>
    refine(exprB_any K hK q1 _ false 1 W h1).mono fun e W' h=> ?_
    obtain⟨hb,rfl⟩:=h
    exact⟨Fz.of hb,_,zeroEx,q1,_,false,true,rfl,⟨fun _=>False,RepE.zero _ _,fun b hb=>hb.elim⟩,h1.step hb,fun h=>(by cases h),fun _=>⟨rfl,rfl,rfl,rfl⟩⟩
  have hlt7:=k7.lt
  have hsb:=bel.size
  refine Cd.drawG (σT:=Ex × Value × (Nat→Prop) × Nat × Value) 6 (by kernel_rfl) rfl rfl (fun σ=>[.pointer (some ⟨g7,3,none⟩), .slice A es.length c, .pointer (some ⟨K.g,0,none⟩),σ.2.1, .slice (some ⟨σ.2.2.2.1,0,none⟩) 1 1,σ.2.2.2.2]) (fun σ S W=>(S 5=false→XC RepE K wj q1 ((d:Int)+1) false b1 (fun x p o dp bd=>(b1=false→resQ (E0 q1 (d+1)) (d+1) x p o dp bd)∧(b1=true→sameQ q1 ((d:Int)+1) false x p o dp bd)) (S 3) (S 4) σ.1 σ.2.2.1 σ.2.1 σ.2.2.2.1 35 W)∧(S 5=true→(∃p9 o9 dp9 bd9,SW K W p9 o9 dp9 bd9∧(fun x p o dp bd=>(b1=false→resQ (E0 q1 (d+1)) (d+1) x p o dp bd)∧(b1=true→sameQ q1 ((d:Int)+1) false x p o dp bd)) σ.1 p9 o9 dp9 bd9)∧Fz g7 K.g wj W∧Blk W g7 35 #[.int .i64 op, .int .i64 0, .string (strOf []), .slice A es.length c]∧∃S',ArgQ W g7 g7 (es++[σ.1]) [] (evs++[σ.2.1]) [] (σ.2.2.2.2) (.slice none 0 0) S')) ((zeroEx,undef,fun _=>False,0,undef)) ?_ ?_ ?_
  ·intro w0 hb0 hs0
   exact⟨fun _=>⟨Fz.of hb0,fun _=>sw.step hb0,fun h=>(by cases h),fun h=>(by cases h)⟩,fun h=>(by cases h)⟩
  ·intro k o ho
   match k,ho with
   |0,ho=>
    injection ho with ho
    subst ho
    intro σ S w hS hpre hdc hX
    refine Seq.val (Runs.fieldB 3 rfl rfl Tryz.underlying35 rfl (by kernel_rfl)) rfl rfl rfl (Seq.nil ?_)
    exact Post.afterG rfl rfl rfl hpre rfl (fun _ _=>rfl) hX
   |1,ho=>
    injection ho with ho
    subst ho
    intro σ S w hS hpre hdc hX
    have h5:=notDone hdc (i:=5) rfl hS (memB_spec rfl)
    refine Seq.val (Runs.loadB (g:=g7) (i:=3) rfl rfl Tryz.underlying22 rfl (k7.fz (hX.1 h5).fz (by omega)) rfl) rfl rfl rfl (Seq.nil ?_)
    exact Post.afterG rfl rfl rfl hpre rfl (fun _ _=>rfl) hX
   |2,ho=>
    injection ho with ho
    subst ho
    intro σ S w hS hpre hdc hX
    refine Seq.val (Runs.move rfl rfl) rfl rfl rfl (Seq.nil ?_)
    exact Post.afterG rfl rfl rfl hpre rfl (fun _ _=>rfl) hX
   |3,ho=>
    injection ho with ho
    subst ho
    intro σ S w hS hpre hdc hX
    have h5:=notDone hdc (i:=5) rfl hS (memB_spec rfl)
    have h4:=notDone hdc (i:=4) rfl hS (memB_spec rfl)
    have hXa:=hX.1 h5
    refine Zc (Ze Tryz.func33) ((fun W h1 h2=>hcl W h1 h2) w (hXa.pre hS) hXa.fz) ?_
    rintro e w6 ⟨hf,v6,x6,p6,o6,dp6,bd6,rfl,⟨S6,hr6,hb6⟩,hsw6,hpf6⟩
    refine⟨_,rfl,Seq.nil ?_⟩
    exact Post.afterG (σ:=σ) (σ':=(x6,v6,S6,σ.2.2.2.1,σ.2.2.2.2)) rfl rfl rfl hpre rfl (fun j hj=>keep3 hS h4 h5 j hj) ⟨fun _=>hXa.called h4 hf hsw6 hpf6 hr6 hb6,fun hm=>(notT h5 hm).elim⟩
   |4,ho=>
    injection ho with ho
    subst ho
    intro σ S w hS hpre hdc hX
    have h5:=notDone hdc (i:=5) rfl hS (memB_spec rfl)
    have hXa:=hX.1 h5
    have hd:=hpre 3 (memB_spec rfl)
    have hones:=(hXa.post hd).2.1.ones
    refine Seq.slice (vs:=[σ.2.1]) (s:=4) rfl rfl rfl Tryz.underlying22 (by kernel_rfl) zero_api_Expr (by omega) (by omega) ⟨hones.1,trivial⟩ rfl rfl rfl ?_
    intro g7 w' n7
    refine Seq.nil ?_
    exact Post.afterG (σ:=σ) (σ':=(σ.1,σ.2.1,σ.2.2.1,g7,σ.2.2.2.2)) rfl rfl rfl hpre rfl (fun j hj=>keep4 hS h5 j hj) ⟨fun _=>hXa.slicedE hd n7,fun hm=>(notT h5 hm).elim⟩
   |5,ho=>
    injection ho with ho
    subst ho
    intro σ S w hS hpre hdc hX
    have hXa:=hX.1 hS
    have hd:=hpre 3 (memB_spec rfl)
    obtain⟨⟨p3,o3,dp3,bd3,sw3,hpf3⟩,hrep,haway⟩:=hXa.post hd
    obtain⟨ez,kz,hnz⟩:=hXa.new (hpre 4 (memB_spec rfl))
    have hones:=hrep.ones
    have hsz:=hXa.fz.size
    have aq3:=aq.fz hXa.fz hgt
    have hown:=aq3.ownE
    have k90:=k7.fz hXa.fz (by omega)
    have hlt90:=k7.lt
    refine Seq.append2 rfl rfl rfl Tryz.underlying22 (by kernel_rfl) zero_api_Expr rfl (by decide) (b:=56) (by kernel_rfl) hown (Reads.blk (size:=4) kz 1 hones.1) hones.2 (by omega) (by first|(simp only[maxLen];omega)|(simp only[maxLen,List.length_nil,List.length_cons];omega)|simp[maxLen]) (by first|omega|(simp only[List.length_nil,List.length_cons];omega)|simp) rfl rfl rfl ?_
    intro v' w4 hown' happ hv'
    refine Seq.nil ?_
    have hs4:=happ.below.size
    have aq6:=aq3.addE hrep (fun b hb=>⟨by have:=(haway b hb).1;omega,(haway b hb).2,by have:=(haway b hb).1;omega,fun e=>by have:=(aq.ownE.blockLt b e).2;have:=(haway b hb).1;omega,fun e=>by have:=(aq.ownT.blockLt b e).2;have:=(haway b hb).1;omega⟩) hown' hs4
     (fun b _ h2 h3 h4=>happ.grown.block b h2 (fun e=>h4 e.symm)) (hv'.elim .inl fun e=> .inr ⟨_,e,Nat.le_refl _⟩) (by omega)
    exact Post.afterG (σ:=σ) (σ':=(σ.1,σ.2.1,σ.2.2.1,σ.2.2.2.1,v')) rfl rfl rfl hpre rfl (fun j hj=>keep5 hS j hj) ⟨(fun h=>by cases h),fun _=>⟨⟨p3,o3,dp3,bd3,⟨sw3.blk.grown happ.grown (fun e=>by have:=(hown.blockLt _ e.symm).1;omega),sw3.rd.below (happ.below.mono (by omega)),sw3.p_le,sw3.o_le,sw3.le⟩,hpf3⟩,(hXa.fz.less (by omega)).trans (Fz.of happ.below),k90.grown happ.grown (fun e=>aq3.neE e.symm),_,aq6⟩⟩
   |k+6,ho=>simp at ho
  rintro⟨x,v6,S6,g9,vX⟩ S3 w3 hS hX
  obtain⟨⟨p3,o3,dp3,bd3,sw3,hpf1,hpf2⟩,fz3,k73,S7,aq3⟩:=hX.2 (hS 5 (by decide))
  clear hX
  dsimp only at hpf1 hpf2 aq3
  have hs3:=fz3.size
  have bel3:Fz w.heap.size K.g w w3:=bel.trans (fz3.less (by omega))
  have k63:=k6.fzl fz3 h67 (by omega)
  obtain⟨AX,cX,hvX,-⟩:=aq3.ownE.reads
  subst hvX
  clear bel k6 k7 aq sw
  have bel:=bel3
  have k6:=k63
  have k7:=k73
  have aq:=aq3
  have sw:=sw3
  have e7:w.heap.size≤g7:=hg7
  refine Zf 3 Tryz.underlying35 ?_
  refine Zq k7 ?_
  intro w5 pw5
  replace bel:=bel.put k7 pw5 e7
  replace k6:=k6.put pw5 (by omega)
  replace aq:=aq.put k7 pw5 e7
  replace sw:=sw.put k7 pw5 e7
  replace k7:=pw5.blk
  refine Zk5 0 2 6 7 8 (Post.block_normal (Ztr ?_))
  refine Zm ?_
  refine Za_ ?_
  refine Za ?_
  refine Zk5 0 2 6 7 8 ?_
  refine Post.round (i+1,p3,o3,dp3,bd3,es++[x],evs++[v6],(AX,cX),_) ⟨rfl,rfl,rfl,rfl,rfl,trivial⟩ ⟨by dsimp only;omega,by dsimp only;rw[List.length_append,hes];rfl,sw,bel,k6,k7,aq,fun hb=> ?_,fun hb=> ?_⟩ (by dsimp only;omega)
  ·dsimp only at hb⊢
   subst hb
   cases b1 with
   |true=>cases (hpf2 rfl).2.2.2
   |false=>
    obtain⟨hq1,hR⟩:=hgood rfl
    have hres:=hpf1 rfl
    unfold resQ at hres
    cases hr:E0 q1 (d+1) with
    |out=>rw[hr] at hres;exact hres.elim
    |bad a b=>rw[hr] at hres;cases hres.2.2.1
    |ok a b=>
     rw[hr] at hres hR
     obtain⟨rfl,rfl,rfl,rfl,-⟩:=hres
     have hmono:=hM _ _ _ _ hr
     refine⟨by omega,rfl,by omega,hd1,?_⟩
     rw[hR,Rs.bind_ok,hm2,decide_eq_false (show¬i+1=0 by omega)]
     simp only[List.append_assoc,List.cons_append,List.nil_append]
  ·dsimp only at hb⊢
   subst hb
   cases b1 with
   |true=>
    obtain⟨rfl,rfl,rfl,-⟩:=hpf2 rfl
    exact⟨hbad rfl,by omega,by omega⟩
   |false=>
    obtain⟨hq1,hR⟩:=hgood rfl
    have hres:=hpf1 rfl
    unfold resQ at hres
    cases hr:E0 q1 (d+1) with
    |out=>rw[hr] at hres;exact hres.elim
    |ok a b=>rw[hr] at hres;cases hres.2.2.2.2
    |bad a b=>
     rw[hr] at hres hR
     obtain⟨rfl,rfl,-,h1,h2⟩:=hres
     exact⟨hR,by omega,by omega⟩
 ·have hta:=take_any K hK q o dp bd [41] _ sw (by decide) (by decide)
  have hend:(bd=false∧i=k)∨bd=true:=by
   cases bd with
   |true=>exact .inr rfl
   |false=>refine .inl ⟨rfl,?_⟩;simp at hc;omega
  have hst:∃(q':Nat) (bd':Bool),takeQ K.ws [41] q bd=(q',bd')∧1≤o∧o≤66∧resQ R d (.mk op 0 [] es) q' (o-1) dp bd':=by
   rcases hend with ⟨rfl,rfl⟩|rfl
   ·obtain⟨rfl,rfl,hpq,hd1,hRg⟩:=hgood rfl
    rw[Nat.sub_self,List.replicate_zero,partsP,Rs.bind_ok,List.append_nil] at hRg
    rcases takeQ_sign (ws:=K.ws) (s:=[41]) (q:=q) with ⟨h1,h2⟩|⟨h1,h2⟩
    ·rw[h2,Rs.bind_ok] at hRg
     rw[hRg]
     exact⟨_,_,h1,by omega,by omega,rfl,rfl,by omega,rfl,rfl⟩
    ·rw[h2,Rs.bind_bad] at hRg
     rw[hRg]
     exact⟨_,_,h1,by omega,by omega,rfl,rfl,rfl,by omega,by omega⟩
   ·obtain⟨hRb,h1,h2⟩:=hbad rfl
    rw[hRb]
    exact⟨_,_,takeQ_bad,by omega,by omega,rfl,rfl,rfl,by omega,by omega⟩
  obtain⟨q',bd',htq,ho1,ho2,hres⟩:=hst
  rw[htq] at hta
  refine Cd.exit (Post.then_exit (Post.round_exit (Post.block_exit (Ztq ?_))))
  refine Zm ?_
  refine Zc (Ze Tryz.func67) hta ?_
  rintro e w5 ⟨⟨v5,rfl⟩,hf5,sw5⟩
  refine⟨_,rfl,?_⟩
  have bel5:=bel.call hf5
  have k65:=k6.fz hf5 (by omega)
  have k75:=k7.fz hf5 (by omega)
  have aq5:=aq.fz hf5 hgt
  clear hta bel k6 k7 k99 aq sw
  have bel:=bel5
  have k6:=k65
  have k7:=k75
  have k99:=sw5.blk
  have e6:w.heap.size≤g6:=by omega
  have hs5:=hf5.size
  have loc:=Fz.refl w5.heap.size K.g w5
  dsimp only at k99
  refine Zk6 0 2 6 7 8 31 (Ztq ?_)
  refine Zm ?_
  refine Zv (Runs.nilCheck rfl rfl) ?_
  refine Zf 2 Tryz.underlying69 ?_
  refine Zv (Runs.loadB rfl rfl Tryz.underlying3 rfl k99 rfl) ?_
  refine Zv (Runs.subI rfl rfl rfl (by omega) (by omega)) ?_
  refine Zv (Runs.nilCheck rfl rfl) ?_
  refine Zf 2 Tryz.underlying69 ?_
  refine Zq k99 ?_
  intro w5 pw5
  replace bel:=bel.put k99 pw5 e99
  replace k7:=k7.put pw5 (by omega)
  replace k6:=k6.put pw5 (by omega)
  replace loc:=loc.put k99 pw5 e99
  replace k99:=pw5.blk
  refine Zk6 0 2 6 7 8 31 (Ztq ?_)
  have sw6:=sw5.to hle loc k99 sw5.p_le (by omega)
  have aq6:=aq5.fz loc hgt
  clear sw5 aq5
  have k6b:=k6
  refine Zv (Runs.loadW rfl rfl Tryz.underlying35 rfl k7 (m:=4) (by kernel_rfl) rfl) ?_
  refine Zo 4 k6 ?_
  intro w6 pw6
  replace bel:=bel.put k6 pw6 e6
  replace k7:=k7.put pw6 (by omega)
  replace k99:=k99.put pw6 (by omega)
  replace k6:=pw6.blk
  refine Zk6 0 2 6 7 8 31 (Zt (Cd.ret ?_))
  refine Post.endC rfl rfl k6 Tryz.underlying35 rfl (m:=4) (by kernel_rfl) rfl (.inl rfl) ?_
  have hrep:=aq6.ex op 0 [] hop (by unfold I64;omega) (by simp) (by simp) (by omega)
  have hbn:=aq6.bounds
  have hsz:=pw6.size
  exact⟨bel,_,_,_,_,_,_,rfl,⟨_,hrep.mono (fun _ h=>h) (fun a ha=>World.cell?_of_block (pw6.grown.block _ (hbn _ ha).2.1 (fun e=>by injection e with e;have:=(hbn _ ha).1;omega))),fun b hb=>by have:=hbn b hb;omega⟩,sw6.put k6b pw6 trivial,hres⟩
end Go.Proofs.YtaamkfajnpobfaaGreat
namespace Go.Proofs.YtaamkfajnpobfaaGreat
def WsB (ws:List Wd):Prop:=∀x∈ws,WdB x
theorem wAt_bd {ws:List Wd}(h:WsB ws)(p:Nat):WdB (wAt ws p)∨(wAt ws p).kind= -1:=by
 unfold wAt
 rw[List.getD_eq_getElem?_getD]
 cases hp:ws[p]? with
 |none=>exact .inr rfl
 |some x=>exact .inl (h x (List.mem_of_getElem? hp))
theorem wAt_k1 {ws:List Wd}(h:WsB ws){p:Nat}(hk:(wAt ws p).kind=1):0≤(wAt ws p).n:=by
 rcases wAt_bd h p with (⟨h1,-⟩|⟨-,h2,-⟩|⟨h1,-⟩|⟨h1,-⟩)|h1
 all_goals first|exact h2|(rw[hk] at h1;exact absurd h1 (by decide))
theorem wAt_k2 {ws:List Wd}(h:WsB ws){p:Nat}(hk:(wAt ws p).kind=2):0≤(wAt ws p).n∧(wAt ws p).n≤2932896:=by
 rcases wAt_bd h p with (⟨h1,-⟩|⟨h1,-⟩|⟨-,h2⟩|⟨h1,-⟩)|h1
 all_goals first|exact h2|(rw[hk] at h1;exact absurd h1 (by decide))
theorem wAt_k3 {ws:List Wd}(h:WsB ws){p:Nat}(hk:(wAt ws p).kind=3):namedB (wAt ws p).text=true:=by
 rcases wAt_bd h p with (⟨h1,-⟩|⟨h1,-⟩|⟨h1,-⟩|⟨-,h2,-⟩)|h1
 all_goals first|exact h2|(rw[hk] at h1;exact absurd h1 (by decide))
section
variable {α:Type} {ws:List Wd}
theorem parts_all {Q:α→Prop}(ws:List Wd):∀(ones:List (Nat→Nat→Rs α)),(∀f∈ones,∀p d x q,f p d= .ok x q→Q x)→∀first p d xs q,partsP ws ones first p d= .ok xs q→∀x∈xs,Q x
 | [],_,first,p,d,xs,q,h=>by
  injection h with h _
  subst h
  exact fun x hx=>absurd hx (by simp)
 |f::r,hm,first,p,d,xs,q,h=>by
  rw[partsP] at h
  obtain⟨u,p1,h1,h⟩:=Rs.bind_eq_ok h
  obtain⟨x,p2,h2,h⟩:=Rs.bind_eq_ok h
  obtain⟨ys,p3,h3,h⟩:=Rs.bind_eq_ok h
  injection h with h _
  subst h
  intro y hy
  rcases List.mem_cons.1 hy with rfl|hy
  ·exact hm f (by simp) _ _ _ _ h2
  ·exact parts_all ws r (fun g hg=>hm g (by simp[hg])) _ _ _ _ _ h3 y hy
theorem within_all {Q:α→Prop}{ones:List (Nat→Nat→Rs α)}(hm:∀f∈ones,∀p d x q,f p d= .ok x q→Q x){p d q:Nat}{xs:List α}(h:withinP ws ones p d= .ok xs q):∀x∈xs,Q x:=by
 unfold withinP at h
 obtain⟨u,p1,h1,h⟩:=Rs.bind_eq_ok h
 obtain⟨u2,p2,h2,h⟩:=Rs.bind_eq_ok h
 obtain⟨ys,p3,h3,h⟩:=Rs.bind_eq_ok h
 obtain⟨u3,p4,h4,h⟩:=Rs.bind_eq_ok h
 injection h with h _
 subst h
 exact parts_all ws ones hm _ _ _ _ _ h3
end
theorem built_mk {op n:Int}{nm:List Nat}{l:List Ex}(h:headB op n nm l.length=true)(hl:∀x∈l,builtB x=true):builtB (.mk op n nm l)=true:=by
 rw[builtB_eq]
 show(headB op n nm l.length&&l.all builtB)=true
 rw[h,List.all_eq_true.2 hl]
 rfl
def BuE (f:Nat→Nat→Rs Ex):Prop:=∀p d x q,f p d= .ok x q→builtB x=true
theorem called_bu {ws:List Wd}{E0:Nat→Nat→Rs Ex}(hE:BuE E0){op:Int}{k p d q:Nat}{x:Ex}(hh:headB op 0 [] k=true)(h:calledP ws E0 op k p d= .ok x q):builtB x=true:=by
 unfold calledP at h
 obtain⟨xs,p1,h1,h⟩:=Rs.bind_eq_ok h
 injection h with h _
 subst h
 have hl:=withinP_len h1
 rw[List.length_replicate] at hl
 exact built_mk (by rw[hl];exact hh) (within_all (fun f hf=>(List.mem_replicate.1 hf).2▸hE) h1)
theorem head_name {nm:List Nat}(h:namedB nm=true)(h2:reservedB nm=false):headB 3 0 nm 0=true:=by
 unfold headB freeB
 rw[h,h2]
 simp[arityZ]
theorem atom_bu {ws:List Wd}(hw:WsB ws){E0:Nat→Nat→Rs Ex}(hE:BuE E0):BuE (atomP ws E0):=by
 intro p d x q h
 unfold atomP at h
 split at h
 ·rename_i hk
  injection h with h _
  subst h
  have:=wAt_k1 hw hk
  refine built_mk ?_ (by simp)
  unfold headB
  simp[arityZ]
  omega
 split at h
 ·rename_i hk
  injection h with h _
  subst h
  have:=wAt_k2 hw hk
  refine built_mk ?_ (by simp)
  unfold headB
  simp[arityZ]
  omega
 split at h
 ·rename_i hk
  split at h
  ·injection h with h _
   subst h
   exact built_mk (by decide) (by simp)
  split at h
  ·exact called_bu hE (by decide) h
  split at h
  ·exact called_bu hE (by decide) h
  split at h
  ·exact called_bu hE (by decide) h
  ·obtain⟨nm,p1,h1,h⟩:=Rs.bind_eq_ok h
   injection h with h _
   subst h
   obtain⟨-,rfl,h3,h4⟩:=nameP_eq h1
   exact built_mk (head_name (wAt_k3 hw h3) h4) (by simp)
 split at h
 ·obtain⟨xs,p1,h1,h⟩:=Rs.bind_eq_ok h
  injection h with h _
  have hl:=withinP_len h1
  have ha:=within_all (Q:=fun x=>builtB x=true) (fun f hf=>(List.mem_singleton.1 hf)▸hE) h1
  match xs,hl with
  | [y],_=>
   subst h
   exact ha y (by simp)
 ·cases h
theorem ahead_bu {S:Nat→Nat→Rs Ex}(hS:BuE S){op:Int}(hh:headB op 0 [] 1=true):BuE (aheadP S op):=by
 intro p d x q h
 unfold aheadP at h
 obtain⟨u,p1,h1,h⟩:=Rs.bind_eq_ok h
 obtain⟨y,p2,h2,h⟩:=Rs.bind_eq_ok h
 injection h with h _
 subst h
 exact built_mk hh (by intro z hz;rw[List.mem_singleton.1 hz];exact hS _ _ _ _ h2)
theorem unary_bu {ws:List Wd}(hw:WsB ws){S E0:Nat→Nat→Rs Ex}(hS:BuE S)(hE:BuE E0):BuE (unaryP ws S E0):=by
 intro p d x q h
 unfold unaryP at h
 split at h
 ·exact ahead_bu hS (by decide) _ _ _ _ h
 split at h
 ·exact ahead_bu hS (by decide) _ _ _ _ h
 ·exact atom_bu hw hE _ _ _ _ h
theorem opsAt_head:∀lvl,∀op∈opsAt lvl,headB op 0 [] 2=true:=fun lvl=>by
 unfold opsAt
 split<;>decide
theorem opAt_mem {ws:List Wd}{lvl p:Nat}{op:Int}(h:opAt ws lvl p=some op):op∈opsAt lvl:=by
 unfold opAt at h
 split at h
 ·cases h
 split at h
 ·exact List.mem_of_getElem? h
 ·cases h
structure BuF (f:PF):Prop where
 E:∀lvl,BuE (f.E lvl)
 L:∀lvl x p d y q,builtB x=true→f.L lvl x p d= .ok y q→builtB y=true
 S:BuE f.S
theorem loop_bu {ws:List Wd}{f:PF}(hf:BuF f){lvl p d q:Nat}{x y:Ex}(hx:builtB x=true)(h:loopP ws f lvl x p d= .ok y q):builtB y=true:=by
 unfold loopP at h
 cases ho:opAt ws lvl p with
 |none=>
  rw[ho] at h
  injection h with h _
  subst h
  exact hx
 |some op=>
  rw[ho] at h
  obtain⟨r,p1,h1,h⟩:=Rs.bind_eq_ok h
  have hm:builtB (mk2 op x r)=true:=built_mk (opsAt_head lvl op (opAt_mem ho)) (by
   intro z hz
   rcases List.mem_cons.1 hz with rfl|hz
   ·exact hx
   ·rw[List.mem_singleton.1 hz];exact hf.E _ _ _ _ _ h1)
  split at h
  ·injection h with h _
   subst h
   exact hm
  ·exact hf.L _ _ _ _ _ _ hm h
theorem lev_bu {L:Nat→Ex→Nat→Nat→Rs Ex}{S:Nat→Nat→Rs Ex}(hL:∀lvl x p d y q,builtB x=true→L lvl x p d= .ok y q→builtB y=true)(hS:BuE S):∀i,BuE (levN L S i)
 |0=>hS
 |i+1=>fun p d x q h=>by
  rw[levN] at h
  obtain⟨y,p1,h1,h⟩:=Rs.bind_eq_ok h
  exact hL _ _ _ _ _ _ (lev_bu hL hS i _ _ _ _ h1) h
theorem fuel_bu {ws:List Wd}(hw:WsB ws):∀n,BuF (fuelP ws n)
 |0=>⟨fun _ _ _ _ _ h=>by(cases h),fun _ _ _ _ _ _ _ h=>by(cases h),fun _ _ _ _ h=>by(cases h)⟩
 |n+1=>by
  have ih:=fuel_bu hw n
  have hL:∀lvl x p d y q,builtB x=true→loopP ws (fuelP ws n) lvl x p d= .ok y q→builtB y=true:=fun lvl x p d y q hx h=>loop_bu ih hx h
  have hS:=unary_bu hw ih.S (ih.E 0)
  exact⟨fun lvl=>lev_bu hL hS _,hL,hS⟩
def BuT (f:Nat→Nat→Rs Tm):Prop:=∀p d x q,f p d= .ok x q→builtT x=true
theorem lexAll_WsB (l:List Nat)(hl:∀x∈l,x<256):WsB (lexAll l).1:=fun x hx=>(lexW_bd l hl _ _ x hx).1
theorem exprQ_built {l:List Nat}(hl:∀x∈l,x<256){x:Ex}{q:Nat}(h:exprQ (lexAll l).1= .ok x q):builtB x=true:=(fuel_bu (lexAll_WsB l hl) _).E 0 _ _ _ _ h
end Go.Proofs.YtaamkfajnpobfaaGreat
namespace Go.Proofs.YtaamkfajnpobfaaGreat
open Go.RowKit
def sgB:List Nat:=[40,41,44,43,45,42,47,60,61,62,38,124,33]
theorem sgB_lt:∀x∈sgB,x<256:=by decide
theorem sign_nil:signW []=none:=by decide
theorem sign_two (c:Nat)(r:List Nat)(h:c=60∨c=62∨c=33):signW (c::61::r)=some [c,61]:=by
 rcases h with rfl|rfl|rfl<;>simp[signW,signsL]
theorem sign_one (c:Nat)(r:List Nat)(hc:c∈sgB)(h:¬(r.head? =some 61∧(c=60∨c=62∨c=33))):signW (c::r)=some [c]:=by
 cases r with
 |nil=>
  simp[sgB] at hc
  rcases hc with rfl|rfl|rfl|rfl|rfl|rfl|rfl|rfl|rfl|rfl|rfl|rfl|rfl<;>simp[signW,signsL]
 |cons d r=>
  simp at h
  simp[sgB] at hc
  rcases hc with rfl|rfl|rfl|rfl|rfl|rfl|rfl|rfl|rfl|rfl|rfl|rfl|rfl<;>simp[signW,signsL]<;>simp at h<;>simp[h]
theorem sign_no (c:Nat)(r:List Nat)(hc:c∉sgB):signW (c::r)=none:=by
 refine find_no _ _ ?_
 intro j s' hs
 have hm:=List.mem_of_getElem? hs
 rw[decide_eq_false_iff_not]
 intro he
 apply hc
 simp[signsL] at hm
 rcases hm with rfl|rfl|rfl|rfl|rfl|rfl|rfl|rfl|rfl|rfl|rfl|rfl|rfl|rfl|rfl|rfl<;>(simp at he;simp[sgB,he])
theorem sgB_len:sgB.length=13:=rfl
theorem refSign_any (l:List Nat)(w:World)(hl:∀x∈l,x<256)(hlen:l.length≤9223372036854775807):
  Calls Tryz.prog 65 #[.string (strOf l)] w fun e w'=>e= .returned (.string (strOf ((signW l).getD [])))∧Grow w w':=by
 have bel:=Below.refl w.heap.size w
 have h0:0<l.length→l[0]? =some (l.getD 0 0):=fun h=>by rw[List.getD_eq_getElem?_getD,List.getElem?_eq_getElem h];rfl
 have h1:1<l.length→l[1]? =some (l.getD 1 0):=fun h=>by rw[List.getD_eq_getElem?_getD,List.getElem?_eq_getElem h];rfl
 have hb:∀j,l.getD j 0<256:=fun j=>by
  rcases Nat.lt_or_ge j l.length with h|h
  ·rw[List.getD_eq_getElem?_getD,List.getElem?_eq_getElem h];exact hl _ (List.getElem_mem h)
  ·rw[List.getD_eq_getElem?_getD,List.getElem?_eq_none h];simp
 have b0:=hb 0
 have b1:=hb 1
 clear hb
 have hnil:l.length=0→signW l=none:=fun h=>by rw[List.eq_nil_of_length_eq_zero h];exact sign_nil
 have htwo:2≤l.length→l.getD 1 0=61→(l.getD 0 0=60∨l.getD 0 0=62∨l.getD 0 0=33)→(signW l).getD []=l.take 2:=fun h h1 h2=>by
  rcases l with _|⟨c,_|⟨d,r⟩⟩
  ·simp at h
  ·simp at h
  ·have h1:d=61:=h1
   subst h1
   rw[sign_two c r h2];rfl
 have hone:0<l.length→l.getD 0 0∈sgB→¬(2≤l.length∧l.getD 1 0=61∧(l.getD 0 0=60∨l.getD 0 0=62∨l.getD 0 0=33))→(signW l).getD []=l.take 1:=fun h h1 h2=>by
  rcases l with _|⟨c,r⟩
  ·simp at h
  ·rw[sign_one c r h1]
   ·rfl
   ·rintro⟨h3,h4⟩
    cases r with
    |nil=>cases h3
    |cons d r=>injection h3 with h3;subst h3;exact h2 ⟨by simp,rfl,h4⟩
 have hno:0<l.length→l.getD 0 0∉sgB→(signW l).getD []=[]:=fun h h1=>by
  rcases l with _|⟨c,r⟩
  ·simp at h
  ·rw[sign_no c r h1];rfl
 generalize l.getD 0 0=c0 at *
 generalize l.getD 1 0=c1 at *
 refine Zs 49 Tryz.func65 ?_
 refine Zsr ?_
 refine Za ?_
 refine Zk2 0 2 (Zts (Zsr ?_))
 refine Zm ?_
 refine Zv (Runs.lenL rfl rfl Tryz.underlying9) ?_
 refine Zv (Runs.geq rfl rfl rfl) ?_
 refine Zm ?_
 refine SeqC.start ?_
 refine Zco (fun hcx=>Runs.move rfl rfl) ?_
 refine SeqC.next rfl rfl rfl rfl rfl rfl rfl (fun hcx=>Runs.indexL (l:=l) (j:=1) (c:=c1) rfl rfl rfl Tryz.underlying9 rfl (h1 (by simp at hcx;omega)) b1) ?_
 refine SeqC.next rfl rfl rfl rfl rfl rfl rfl (fun hcx=>Runs.eqlI rfl rfl rfl) ?_
 refine SeqC.and rfl rfl rfl rfl rfl rfl rfl ?_
 refine Zm ?_
 refine SeqC.start ?_
 refine Zco (fun hcx=>Runs.move rfl rfl) ?_
 refine SeqC.next rfl rfl rfl rfl rfl rfl rfl (fun hcx=>Runs.indexL (l:=l) (j:=0) (c:=c0) rfl rfl rfl Tryz.underlying9 rfl (h0 (by simp[topX] at hcx;omega)) b0) ?_
 refine SeqC.next rfl rfl rfl rfl rfl rfl rfl (fun hcx=>Runs.eqlI rfl rfl rfl) ?_
 refine SeqC.next rfl rfl rfl rfl rfl rfl rfl (fun hcx=>Runs.move rfl rfl) ?_
 refine Zco (fun hcx=>Runs.move rfl rfl) ?_
 refine SeqC.next rfl rfl rfl rfl rfl rfl rfl (fun hcx=>Runs.indexL (l:=l) (j:=0) (c:=c0) rfl rfl rfl Tryz.underlying9 rfl (h0 (by simp[topX] at hcx;omega)) b0) ?_
 refine SeqC.next rfl rfl rfl rfl rfl rfl rfl (fun hcx=>Runs.eqlI rfl rfl rfl) ?_
 refine SeqC.orG rfl rfl rfl rfl rfl rfl rfl rfl rfl rfl rfl ?_
 refine SeqC.next rfl rfl rfl rfl rfl rfl rfl (fun hcx=>Runs.move rfl rfl) ?_
 refine Zco (fun hcx=>Runs.move rfl rfl) ?_
 refine SeqC.next rfl rfl rfl rfl rfl rfl rfl (fun hcx=>Runs.indexL (l:=l) (j:=0) (c:=c0) rfl rfl rfl Tryz.underlying9 rfl (h0 (by simp[topX] at hcx;omega)) b0) ?_
 refine SeqC.next rfl rfl rfl rfl rfl rfl rfl (fun hcx=>Runs.eqlI rfl rfl rfl) ?_
 refine SeqC.orG rfl rfl rfl rfl rfl rfl rfl rfl rfl rfl rfl ?_
 refine SeqC.and rfl rfl rfl rfl rfl rfl rfl ?_
 refine Zk3 0 2 27 (Zt ?_)
 refine Cd.cond rfl (fun h=> ?_) (fun h=> ?_)
 ·simp at h
  have e:=htwo (by omega) (by omega) (by omega)
  refine Zsr ?_
  refine Zm ?_
  refine Zv (Runs.sliceTo (j:=2) rfl rfl rfl Tryz.underlying9 rfl (by omega)) ?_
  refine Za ?_
  refine Zk3 0 2 27 (Zt (Cd.ret (Post.then_ret ?_)))
  refine Post.end1 rfl rfl (.inl rfl) ?_
  exact⟨by rw[e],bel⟩
 ·have hn2:¬(2≤l.length∧c1=61∧(c0=60∨c0=62∨c0=33)):=by
   simp at h
   omega
  have hone:=fun a b=>hone a b hn2
  clear h htwo hn2 h1
  refine Cd.skip (Ztq ?_)
  refine Za ?_
  refine Zk4 0 2 3 27 (Zts (Zsr ?_))
  refine Za ?_
  refine Zk5 0 2 3 4 27 (Zt (Cd.block ?_))
  refine Cd.loop (σ:=Nat) (fun k=>[(0, .string (strOf l)),(3, .string (strOf sgB)),(4, .int .i64 (k:Int))]) (fun k wr=>k≤13∧(∀j c,j<k→sgB[j]? =some c→0<l.length→c≠c0)∧Below w.heap.size w wr) (fun k=>13-k) 0 ⟨by omega,fun j c hj=>absurd hj (by omega),bel⟩ ⟨rfl,rfl,rfl,trivial⟩ ?_
  clear bel
  rintro k wr ⟨hk,hns,bel⟩
  have hsl:=sgB_len
  refine Cd.seq (Zsr ?_)
  refine Zm ?_
  refine Zm ?_
  refine Zv (Runs.lenL rfl rfl Tryz.underlying9) ?_
  refine Zv (Runs.lss rfl rfl rfl) ?_
  refine Zk4 0 3 4 33 (Zt ?_)
  refine Cd.condD rfl (fun hc=> ?_) (fun hc=> ?_)
  ·obtain⟨c,hcc⟩:∃c,sgB[k]? =some c:=⟨_,List.getElem?_eq_getElem (show k<sgB.length by omega)⟩
   have hc256:=sgB_lt c (List.mem_of_getElem? hcc)
   have hns2:∀j d,j<k+1→sgB[j]? =some d→(0<l.length→c≠c0)→0<l.length→d≠c0:=fun j d hj hd hcn h=>by
    rcases Nat.lt_or_ge j k with h2|h2
    ·exact hns j d h2 hd h
    ·obtain rfl:j=k:=by omega
     rw[hcc] at hd
     injection hd with hd
     subst hd
     exact hcn h
   by_cases hl0:0<l.length
   ·have h0:=h0 hl0
    have hone:=hone hl0
    refine Cd.skip (Zts (Cd.block (Cd.seq ?_)))
    refine Cd.draw 11 (by kernel_rfl) [] (.inl rfl) rfl Grow Grow.refl (fun _ _ _=>Grow.trans) ?_
    intro w1 hw1 zw1
    replace bel:=bel.step hw1
    have zbel:=bel.size
    refine Zdm ?_
    refine Zd (fun w hG=>Runs.lenL rfl rfl Tryz.underlying9) ?_
    refine Zd (fun w hG=>(Runs.gtr rfl rfl rfl).isT ((by omega))) ?_
    refine Zdm ?_
    refine Zdg (fun w hG=>Runs.move rfl rfl) ?_
    refine Zdg (fun w hG=>Runs.indexL (l:=l) (j:=0) (c:=c0) rfl rfl rfl Tryz.underlying9 rfl h0 b0) ?_
    refine Zdg (fun w hG=>Runs.move rfl rfl) ?_
    refine Zdg (fun w hG=>Runs.move rfl rfl) ?_
    refine Zdg (fun w hG=>Runs.indexL (l:=sgB) (j:=k) rfl rfl rfl Tryz.underlying9 rfl hcc hc256) ?_
    refine Zdg (fun w hG=>Runs.eqlI rfl rfl rfl) ?_
    refine Zd (fun w hG=>Runs.pickT rfl rfl rfl) ?_
    refine Dr.nil ?_
    refine FinX.done (F':=[(0,_),(3,_),(4,_),(33,_),(46,_)]) rfl ⟨rfl,rfl,rfl,rfl,rfl,trivial⟩ ?_
    intro w2 hw2 fw2
    replace bel:=bel.step hw2
    refine Zk5 0 3 4 33 46 (Zt ?_)
    refine Cd.condD rfl (fun hc=> ?_) (fun hc=> ?_)
    ·obtain rfl:c=c0:=by omega
     refine Zsr ?_
     refine Zm ?_
     refine Zv (Runs.sliceTo (j:=1) rfl rfl rfl Tryz.underlying9 rfl (by omega)) ?_
     refine Za ?_
     refine Zk6 0 2 3 4 33 46 (Zt (Cd.ret (Post.block_ret (Post.then_ret (Post.round_ret (Post.block_ret (Post.then_ret ?_)))))))
     refine Post.end1 rfl rfl (.inl rfl) ?_
     exact⟨by rw[hone (List.mem_of_getElem? hcc)],bel⟩
    ·have hne:c≠c0:=by omega
     refine Cd.skip (Post.block_normal (Ztr ?_))
     refine Zm ?_
     refine Za_ ?_
     refine Za ?_
     refine Zk5 0 3 4 33 46 ?_
     exact Post.round (k+1) ⟨rfl,rfl,rfl,trivial⟩ ⟨by omega,fun j d hj hd=>hns2 j d hj hd (fun _=>hne),bel⟩ (by omega)
   ·skip
    refine Cd.skip (Zts (Cd.block (Cd.seq ?_)))
    refine Cd.draw 11 (by kernel_rfl) [] (.inl rfl) rfl Grow Grow.refl (fun _ _ _=>Grow.trans) ?_
    intro w1 hw1 zw1
    replace bel:=bel.step hw1
    have zbel:=bel.size
    refine Zdm ?_
    refine Zd (fun w hG=>Runs.lenL rfl rfl Tryz.underlying9) ?_
    refine Zd (fun w hG=>(Runs.gtr rfl rfl rfl).isF ((by omega))) ?_
    refine Zdm ?_
    refine Zds ?_
    refine Zds ?_
    refine Zds ?_
    refine Zds ?_
    refine Zds ?_
    refine Zds ?_
    refine Zd (fun w hG=>Runs.pickF rfl rfl rfl) ?_
    refine Dr.nil ?_
    refine FinX.done (F':=[(0,_),(3,_),(4,_),(33,_),(46,_)]) rfl ⟨rfl,rfl,rfl,rfl,rfl,trivial⟩ ?_
    intro w2 hw2 fw2
    replace bel:=bel.step hw2
    refine Zk5 0 3 4 33 46 (Zt ?_)
    refine Cd.condF rfl rfl ?_
    refine Cd.skip (Post.block_normal (Ztr ?_))
    refine Zm ?_
    refine Za_ ?_
    refine Za ?_
    refine Zk5 0 3 4 33 46 ?_
    exact Post.round (k+1) ⟨rfl,rfl,rfl,trivial⟩ ⟨by omega,fun j d hj hd=>hns2 j d hj hd (fun h=>absurd h hl0),bel⟩ (by omega)
  ·have hnn:(signW l).getD []=[]:=by
    rcases Nat.eq_zero_or_pos l.length with h|h
    ·rw[hnil h];rfl
    ·refine hno h fun hm=> ?_
     obtain⟨j,hj,he⟩:=List.getElem_of_mem hm
     exact hns j c0 (by omega) (by rw[List.getElem?_eq_getElem hj,he]) h rfl
   refine Cd.exit (Post.then_exit (Post.round_exit (Post.block_exit (Ztq ?_))))
   refine Za ?_
   refine Zk5 0 2 3 4 33 (Zt (Cd.ret ?_))
   refine Post.end1 rfl rfl (.inl rfl) ?_
   exact⟨by rw[hnn];rfl,bel⟩
end Go.Proofs.YtaamkfajnpobfaaGreat
namespace Go.Proofs.YtaamkfajnpobfaaGreat
open Go.RowKit
def DIy (l:List Int):List Value:=l.map fun z=> .int .i64 z
theorem DI_at {l:List Int}{j:Nat}(h:j<l.length):(DIy l).toArray[j]? =some (.int .i64 (l.getD j 0)):=by simp[DIy,List.getD_eq_getElem?_getD,List.getElem?_eq_getElem h]
theorem DI_set (l:List Int)(j:Nat)(d:Int):(DIy l).toArray.setIfInBounds j (.int .i64 d)=(DIy (l.set j d)).toArray:=by
 apply Array.ext'
 simp[DIy,List.map_set]
theorem rawV_bd (l:List Nat)(hl:∀x∈l,x<256)(h:l.length≤4): -100000000≤rawV l∧rawV l≤100000000:=by
 rcases l with _|⟨c0,_|⟨c1,_|⟨c2,_|⟨c3,_|⟨x,l⟩⟩⟩⟩⟩<;>simp at h hl<;>simp[rawV]<;>omega
theorem refDayParse_any (l:List Nat)(w:World)(hl:∀x∈l,x<256)(hlen:l.length≤9223372036854775807):Calls Tryz.prog 60 #[.string (strOf l)] w fun e w'=>e= .returned (.int .i64 (if dateOk l then dateZ l else -1))∧Grow w w':=by
 have bel:=Below.refl w.heap.size w
 refine Zs 58 Tryz.func60 ?_
 refine Zsr ?_
 refine Za ?_
 refine Zk2 0 2 (Zts (Zsr ?_))
 refine Zm ?_
 refine Zv (Runs.lenL rfl rfl Tryz.underlying9) ?_
 refine Zv (Runs.neqI rfl rfl rfl) ?_
 refine Zk3 0 2 9 (Zt ?_)
 refine Cd.cond rfl (fun h=> ?_) (fun h=> ?_)
 ·have hno:dateOk l=false:=by
   unfold dateOk
   rw[decide_eq_false (by simp at h;omega)]
   rfl
  refine Zsr ?_
  refine Za ?_
  refine Zk3 0 2 9 (Zt (Cd.ret (Post.then_ret ?_)))
  refine Post.end1 rfl rfl (.inl rfl) ?_
  exact⟨ret1 (int_eq (by rw[hno];rfl)),bel⟩
 have h10:l.length=10:=by simp at h;omega
 clear h
 have hlaw:=day_law l h10
 have hten:=rawS_ten l h10
 refine Cd.skip (Ztq ?_)
 refine Seq.slice (vs:=[_,_,_]) (s:=1) rfl rfl rfl Tryz.underlying43 (by kernel_rfl) (zero_int) (by omega) (by omega) ⟨rfl,rfl,rfl,trivial⟩ rfl rfl rfl ?_
 intro g10 w1 n10
 have e10:=Nat.le_trans bel.size n10.ge
 replace bel:=bel.step n10.below
 have k10:=n10.blk
 refine Za ?_
 refine Zk4 0 2 3 9 (Zts (Zsr ?_))
 refine Za ?_
 refine Zk5 0 2 3 4 9 (Zt (Cd.block ?_))
 have hk0:Blk w1 g10 3 (DIy (rawS l 0)).toArray:=k10
 refine Cd.loop (σ:=Nat) (fun k=>[(0, .string (strOf l)),(3, .slice (some ⟨g10,0,none⟩) 3 3),(4, .int .i64 (k:Int))])
  (fun k wr=>k≤10∧Below w.heap.size w wr∧Blk wr g10 3 (DIy (rawS l k)).toArray) (fun k=>10-k) 0 ⟨by omega,bel,hk0⟩ ⟨rfl,rfl,rfl,trivial⟩ ?_
 clear hk0
 clear bel k10
 rintro k wr ⟨hk,bel,k10⟩
 have hrl:=rawS_len l k
 have hrb:=rawS_bd l hl k
 have hP:(10:Int)^k≤10^10:=by
  have:(10:Nat)^k≤10^10:=Nat.pow_le_pow_right (by omega) hk
  have e:((10^k:Nat):Int)=(10:Int)^k:=by simp
  omega
 have hi3:idxD k<3:=by unfold idxD;split;omega;split<;>omega
 refine Cd.seq (Zsr ?_)
 refine Zm ?_
 refine Zv (Runs.lss rfl rfl rfl) ?_
 refine Zk4 0 3 4 12 (Zt ?_)
 refine Cd.condD rfl (fun hc=> ?_) (fun hc=> ?_)
 ·obtain⟨c,hc⟩:∃c,l[k]? =some c:=⟨_,List.getElem?_eq_getElem (show k<l.length by omega)⟩
  have hc256:=hl c (List.mem_of_getElem? hc)
  have hst:rawS l (k+1)=if k=4∨k=7 then rawS l k else(rawS l k).set (idxD k) (10*(rawS l k).getD (idxD k) 0+(c:Int)-48):=by
   rw[rawS,List.getD_eq_getElem?_getD (l:=l),hc];rfl
  have hx:(DIy (rawS l k)).toArray[idxD k]? =some (.int .i64 ((rawS l k).getD (idxD k) 0)):=DI_at (by omega)
  have hxm:(rawS l k).getD (idxD k) 0∈rawS l k:=by
   rw[List.getD_eq_getElem?_getD,List.getElem?_eq_getElem (by omega)]
   exact List.getElem_mem (by omega)
  have hxb:=hrb _ hxm
  generalize (rawS l k).getD (idxD k) 0=x at *
  refine Cd.skip (Zts (Cd.block (Zsr ?_)))
  refine Za ?_
  refine Zk5 0 3 4 5 12 (Zt ?_)
  refine Cd.seqJ (σ:=Unit) (fun _=>[(0, .string (strOf l)),(3, .slice (some ⟨g10,0,none⟩) 3 3),(4, .int .i64 (k:Int)),(5, .int .i64 (if 4<k then 1 else 0))]) (fun _ wr'=>Below w.heap.size w wr'∧Blk wr' g10 3 (DIy (rawS l k)).toArray) ?_ ?_
  ·skip
   refine Zsr ?_
   refine Zm ?_
   refine Zv (Runs.gtr rfl rfl rfl) ?_
   refine Zk6 0 3 4 5 12 16 (Zt ?_)
   refine Cd.condD rfl (fun hc=> ?_) (fun hc=> ?_)
   ·skip
    refine Zr ?_
    refine Za ?_
    refine Zk6 0 3 4 5 12 16 ?_
    exact Post.join () ⟨rfl,rfl,rfl,congrArg (fun x:Int=>some (Value.int .i64 x)) (by rw[if_pos (by omega)]),trivial⟩ ⟨bel,k10⟩
   ·skip
    refine Cd.skip ?_
    exact Post.join () ⟨rfl,rfl,rfl,congrArg (fun x:Int=>some (Value.int .i64 x)) (by rw[if_neg (by omega)]),trivial⟩ ⟨bel,k10⟩
  clear bel k10
  rintro⟨⟩ wr ⟨bel,k10⟩
  refine Cd.seqJ (σ:=Unit) (fun _=>[(0, .string (strOf l)),(3, .slice (some ⟨g10,0,none⟩) 3 3),(4, .int .i64 (k:Int)),(5, .int .i64 (idxD k:Int))]) (fun _ wr'=>Below w.heap.size w wr'∧Blk wr' g10 3 (DIy (rawS l k)).toArray) ?_ ?_
  ·skip
   refine Zsr ?_
   refine Zm ?_
   refine Zv (Runs.gtr rfl rfl rfl) ?_
   refine Zk5 0 3 4 5 18 (Zt ?_)
   refine Cd.condD rfl (fun hc=> ?_) (fun hc=> ?_)
   ·skip
    refine Zr ?_
    refine Za ?_
    refine Zk5 0 3 4 5 18 ?_
    exact Post.join () ⟨rfl,rfl,rfl,congrArg (fun x:Int=>some (Value.int .i64 x)) (by unfold idxD;(repeat' split)<;>omega),trivial⟩ ⟨bel,k10⟩
   ·skip
    refine Cd.skip ?_
    exact Post.join () ⟨rfl,rfl,rfl,congrArg (fun x:Int=>some (Value.int .i64 x)) (by unfold idxD;(repeat' split)<;>omega),trivial⟩ ⟨bel,k10⟩
  clear bel k10
  rintro⟨⟩ wr ⟨bel,k10⟩
  generalize idxD k=J at *
  refine Zsr ?_
  refine Zm ?_
  refine Zv (Runs.neqI rfl rfl rfl) ?_
  refine Zm ?_
  refine SeqC.start ?_
  refine Zco (fun hcx=>Runs.move rfl rfl) ?_
  refine SeqC.next rfl rfl rfl rfl rfl rfl rfl (fun hcx=>Runs.neqI rfl rfl rfl) ?_
  refine SeqC.and rfl rfl rfl rfl rfl rfl rfl ?_
  refine Zk5 0 3 4 5 24 (Zt ?_)
  refine Cd.cond rfl (fun h=> ?_) (fun h=> ?_)
  ·rw[if_neg (by simp at h;omega)] at hst
   clear h
   refine Cd.draw 14 (by kernel_rfl) [] (.inl rfl) rfl Grow Grow.refl (fun _ _ _=>Grow.trans) ?_
   intro w2 hw2 zw2
   replace bel:=bel.step hw2
   replace k10:=k10.step hw2
   have zbel:=bel.size
   have zlt:=k10.lt
   refine Zdm ?_
   refine Zdm ?_
   refine Zdm ?_
   refine Zdm ?_
   refine Zd (fun w hG=>Runs.indexB rfl rfl rfl Tryz.underlying43 (by kernel_rfl) (j:=J) (by omega) (by omega)) ?_
   refine Zd (fun w hG=>Runs.loadB rfl rfl Tryz.underlying3 rfl (k10.step hG) hx) ?_
   refine Zd (fun w hG=>Runs.mulI rfl rfl rfl (by omega) (by omega)) ?_
   refine Zdm ?_
   refine Zdm ?_
   refine Zd (fun w hG=>Runs.indexL (l:=l) (j:=k) rfl rfl rfl Tryz.underlying9 rfl hc hc256) ?_
   refine Zd (fun w hG=>Runs.convI rfl rfl Tryz.underlying5 Tryz.underlying3 (wrapI (by omega) (by omega))) ?_
   refine Zd (fun w hG=>Runs.addI rfl rfl rfl (by omega) (by omega)) ?_
   refine Zd (fun w hG=>Runs.subI rfl rfl rfl (by omega) (by omega)) ?_
   refine Zd (fun w hG=>Runs.indexB rfl rfl rfl Tryz.underlying43 (by kernel_rfl) (j:=J) (by omega) (by omega)) ?_
   refine Dr.nil ?_
   refine FinX.done (F':=[(0,_),(3,_),(4,_),(5,_),(24,_),(37,_),(38,_)]) rfl ⟨rfl,rfl,rfl,rfl,rfl,rfl,rfl,trivial⟩ ?_
   intro w3 hw3 fw3
   replace bel:=bel.step hw3
   replace k10:=k10.step hw3
   refine Seq.store1 rfl rfl rfl (by kernel_rfl) rfl rfl k10 (hx) rfl rfl ?_
   intro w4 pw4
   replace bel:=bel.put k10 pw4 e10
   replace k10:=pw4.blk
   rw[DI_set] at k10
   refine Zk5 0 3 4 5 24 (Post.block_normal (Ztr ?_))
   refine Zm ?_
   refine Za_ ?_
   refine Za ?_
   refine Zk5 0 3 4 5 24 ?_
   exact Post.round (k+1) ⟨rfl,rfl,rfl,trivial⟩ ⟨by omega,bel,by rw[hst];exact k10⟩ (by omega)
  ·rw[if_pos (by simp at h;omega)] at hst
   refine Cd.skip (Post.block_normal (Ztr ?_))
   refine Zm ?_
   refine Za_ ?_
   refine Za ?_
   refine Zk5 0 3 4 5 24 ?_
   exact Post.round (k+1) ⟨rfl,rfl,rfl,trivial⟩ ⟨by omega,bel,by rw[hst];exact k10⟩ (by omega)
 ·obtain rfl:k=10:=by omega
  clear hP hrb
  rw[hten] at k10
  clear hten hrl
  have hY:=rawV_bd (l.take 4) (take_lt hl 4) (by rw[List.length_take];omega)
  have hM:=rawV_bd ((l.take 7).drop 5) (drop_lt (take_lt hl 7) 5) (by rw[List.length_drop,List.length_take];omega)
  have hD:=rawV_bd ((l.take 10).drop 8) (drop_lt (take_lt hl 10) 8) (by rw[List.length_drop,List.length_take];omega)
  generalize rawV (l.take 4)=Y at *
  generalize rawV ((l.take 7).drop 5)=M at *
  generalize rawV ((l.take 10).drop 8)=D at *
  refine Cd.exit (Post.then_exit (Post.round_exit (Post.block_exit (Zts ?_))))
  refine Cd.weak (F':=[(0,_),(3,_),(4,_),(12,_)]) ⟨rfl,rfl,rfl,rfl,trivial⟩ ?_
  refine Cd.draw 11 (by kernel_rfl) [] (.inl rfl) rfl Grow Grow.refl (fun _ _ _=>Grow.trans) ?_
  intro w2 hw2 zw2
  replace bel:=bel.step hw2
  replace k10:=k10.step hw2
  have zbel:=bel.size
  have zlt:=k10.lt
  refine Zdm ?_
  refine Zd (fun w hG=>Runs.indexB rfl rfl rfl Tryz.underlying43 (by kernel_rfl) (j:=0) rfl (by omega)) ?_
  refine Zd (fun w hG=>Runs.loadB rfl rfl Tryz.underlying3 rfl (k10.step hG) rfl) ?_
  refine Zdm ?_
  refine Zd (fun w hG=>Runs.indexB rfl rfl rfl Tryz.underlying43 (by kernel_rfl) (j:=1) rfl (by omega)) ?_
  refine Zd (fun w hG=>Runs.loadB rfl rfl Tryz.underlying3 rfl (k10.step hG) rfl) ?_
  refine Zdm ?_
  refine Zd (fun w hG=>Runs.indexB rfl rfl rfl Tryz.underlying43 (by kernel_rfl) (j:=2) rfl (by omega)) ?_
  refine Zd (fun w hG=>Runs.loadB rfl rfl Tryz.underlying3 rfl (k10.step hG) rfl) ?_
  refine Dr.callV rfl (fun w=>Ze Tryz.func110) rfl (fun w hG=>refDayOf_any Y M D _ ⟨by omega,by omega⟩ ⟨by omega,by omega⟩ ⟨by omega,by omega⟩) ?_
  refine Zd (fun w hG=>Runs.assign rfl rfl) ?_
  refine Dr.nil ?_
  refine FinX.done (F':=[(0,_),(3,_),(4,_),(6,_),(12,_)]) rfl ⟨rfl,rfl,rfl,rfl,rfl,trivial⟩ ?_
  intro w3 hw3 fw3
  replace bel:=bel.step hw3
  replace k10:=k10.step hw3
  have hzn:∃n:Int,(if ofOk Y M D=true then ofZ Y M D else -1)=n∧ -1≤n∧n≤2932896∧(ofOk Y M D=true∧n=ofZ Y M D∧0≤n∨ofOk Y M D=false∧n<0):=by
   cases ho:ofOk Y M D with
   |true=>
    obtain⟨-,-,-,-,-,-,-,-,a,b⟩:=of_span ho
    exact⟨_,rfl,by rw[if_pos rfl];omega,by rw[if_pos rfl];omega, .inl ⟨rfl,by rw[if_pos rfl],by rw[if_pos rfl];omega⟩⟩
   |false=>exact⟨-1,rfl,by omega,by omega, .inr ⟨rfl,by omega⟩⟩
  obtain⟨n,hn,hn1,hn2,hn3⟩:=hzn
  rw[hn]
  have hpr:∀W,0≤n→Calls Tryz.prog 111 #[.int .i64 n] W fun e w'=>e= .returned (.string (strOf (printD Y.toNat M.toNat D.toNat)))∧Grow W w':=by
   intro W h
   rcases hn3 with ⟨h1,h2,-⟩|⟨-,h2⟩
   ·rw[h2];exact refDayPrint_any Y M D W h1
   ·omega
  have hpl:=printD_lt Y.toNat M.toNat D.toNat
  generalize printD Y.toNat M.toNat D.toNat=T at *
  refine Zk5 0 3 4 6 12 (Zts (Zsr ?_))
  refine Zm ?_
  refine Zv (Runs.lss rfl rfl rfl) ?_
  refine Zm ?_
  refine SeqC.start ?_
  refine Zco (fun hcx=>Runs.move rfl rfl) ?_
  refine SeqC.nextC rfl rfl rfl rfl rfl rfl rfl (fun hcx=>Ze Tryz.func111) (fun hcx=>hpr _ (by simp at hcx;omega)) ?_
  intro w4 hw4
  replace bel:=bel.step hw4
  replace k10:=k10.step hw4
  refine SeqC.next rfl rfl rfl rfl rfl rfl rfl (fun hcx=>Runs.move rfl rfl) ?_
  refine SeqC.next rfl rfl rfl rfl rfl rfl rfl (fun hcx=>Runs.neqL (a:=T) (b:=l) rfl rfl rfl hpl hl) ?_
  refine SeqC.or rfl rfl rfl rfl rfl rfl rfl ?_
  refine Zk6 0 3 4 6 12 56 (Zt ?_)
  refine Cd.cond rfl (fun h=> ?_) (fun h=> ?_)
  ·have hno:dateOk l=false:=by
    rw[Bool.eq_false_iff]
    intro h2
    obtain⟨h3,h4⟩:=hlaw.1.1 h2
    simp at h
    rcases hn3 with ⟨-,-,h5⟩|⟨h5,-⟩
    ·rcases h with h|h
     ·omega
     ·exact h h4
    ·rw[h5] at h3;cases h3
   refine Zsr ?_
   refine Za ?_
   refine Zk7 0 2 3 4 6 12 56 (Zt (Cd.ret (Post.then_ret ?_)))
   refine Post.end1 rfl rfl (.inl rfl) ?_
   exact⟨ret1 (int_eq (by rw[hno];rfl)),bel⟩
  ·have hyes:dateOk l=true∧n=ofZ Y M D:=by
    simp at h
    rcases hn3 with ⟨h5,h6,-⟩|⟨h5,h6⟩
    ·exact⟨hlaw.1.2 ⟨h5,h.2⟩,h6⟩
    ·omega
   refine Cd.skip (Ztq ?_)
   refine Zm ?_
   refine Za ?_
   refine Zk7 0 2 3 4 6 12 56 (Zt (Cd.ret ?_))
   refine Post.end1 rfl rfl (.inl rfl) ?_
   exact⟨ret1 (int_eq (by rw[if_pos hyes.1,hlaw.2 hyes.1];exact hyes.2)),bel⟩
end Go.Proofs.YtaamkfajnpobfaaGreat
namespace Go.Proofs.YtaamkfajnpobfaaGreat
open Go.RowKit
theorem zero_debentureref17_Word:zeroIs Tryz.prog 109=some (some (.agg #[.int .i64 0, .string {data:= #[]}, .int .i64 0, .int .i64 0])):=by kernel_rfl
theorem run_build_RWord (a c d:Int)(s:ByteArray)(w:World):(Instr.build 109 #[(0, .int .i64 a),(1, .string s),(2, .int .i64 c),(3, .int .i64 d)]).run Tryz.prog w= .ok (.agg #[.int .i64 a, .string s, .int .i64 c, .int .i64 d]) w:=by
 have hu:=Tryz.underlying109
 go_simp
theorem runN_takeX (p:Nat→Bool):∀l:List Nat,runN p (l.take (runN p l))=runN p l
 | []=>rfl
 |c::l=>by
  rw[runN_cons]
  split
  ·rename_i h
   rw[List.take_succ_cons,runN_cons,if_pos h,runN_takeX p l]
  ·rfl
theorem named_run (c:Nat)(r:List Nat)(hc:letB c=true):namedB ((c::r).take (runN partB (c::r)))=decide (runN partB (c::r)≤16):=by
 have hp:partB c=true:=by unfold partB;rw[hc];rfl
 have h1:=runN_takeX partB (c::r)
 have h2:((c::r).take (runN partB (c::r))).length=runN partB (c::r):=by have:=runN_le partB (c::r);rw[List.length_take];omega
 have h3:0<runN partB (c::r):=run_pos rfl hp
 have h4:((c::r).take (runN partB (c::r))).getD 0 0=c:=by
  obtain⟨n,hn⟩:∃n,runN partB (c::r)=n+1:=⟨runN partB (c::r)-1,by omega⟩
  rw[hn];rfl
 have h5:(c::r).take (runN partB (c::r))≠ []:=fun h=>by rw[h] at h2;simp at h2;omega
 unfold namedB
 rw[h1,h2,h4,hc,decide_eq_true h5]
 simp
theorem day_dig (c:Nat)(r:List Nat)(h:dayOk (c::r)=true):digB c=true:=by
 unfold dayOk at h
 simp at h
 have h:=h.2
 unfold dateOk at h
 simp only[Bool.and_eq_true] at h
 have h:=(ofOk_bd h.2).1
 unfold numZ at h
 split at h
 ·rename_i ha
  exact List.all_eq_true.1 ha c (by simp)
 ·omega
theorem blank_one {l:List Nat}{p c:Nat}(hc:l[p]? =some c)(hb:blankB c=true):p+blankN (l.drop p)=p+1+blankN (l.drop (p+1)):=by
 have hp:p<l.length:=(List.getElem?_eq_some_iff.1 hc).1
 have e:l.drop p=c::l.drop (p+1):=by rw[List.drop_eq_getElem_cons hp];congr;rw[List.getElem?_eq_getElem hp] at hc;injection hc
 rw[e,blankN_step,if_pos hb]
 omega
theorem blank_rem {l:List Nat}{p:Nat}(hc:l[p]? =some 35):p+blankN (l.drop p)=p+runN noteB (l.drop p)+blankN (l.drop (p+runN noteB (l.drop p))):=by
 have hp:p<l.length:=(List.getElem?_eq_some_iff.1 hc).1
 have e:l.drop p=35::l.drop (p+1):=by rw[List.drop_eq_getElem_cons hp];congr;rw[List.getElem?_eq_getElem hp] at hc;injection hc
 have h:=blankN_step 35 (l.drop (p+1))
 rw[if_neg (by decide),if_pos rfl,←e,List.drop_drop] at h
 omega
theorem blank_no {l:List Nat}{p c:Nat}(hc:l[p]? =some c)(hb:blankB c=false)(h35:c≠35):blankN (l.drop p)=0:=by
 have hp:p<l.length:=(List.getElem?_eq_some_iff.1 hc).1
 have e:l.drop p=c::l.drop (p+1):=by rw[List.drop_eq_getElem_cons hp];congr;rw[List.getElem?_eq_getElem hp] at hc;injection hc
 rw[e,blankN_step,if_neg (by rw[hb];simp),if_neg h35]
theorem dropAt {l:List Nat}{p c:Nat}(hc:l[p]? =some c):l.drop p=c::l.drop (p+1):=by
 have hp:p<l.length:=(List.getElem?_eq_some_iff.1 hc).1
 rw[List.drop_eq_getElem_cons hp];congr;rw[List.getElem?_eq_getElem hp] at hc;injection hc
theorem lexW_none {f p:Nat}{l:List Nat}(h:p<l.length)(hn:nextW (l.drop p)=none):lexW (f+1) l p=([],some p):=by rw[lexW_step f l p h,hn]
theorem lexW_some {f p:Nat}{l t:List Nat}{k n:Int}(h:p<l.length)(hn:nextW (l.drop p)=some (k,t,n)):lexW (f+1) l p=(⟨k,t,n,p⟩::(lexW f l (p+t.length+blankN (l.drop (p+t.length)))).1,(lexW f l (p+t.length+blankN (l.drop (p+t.length)))).2):=by rw[lexW_step f l p h,hn]
theorem refWords_any (l:List Nat)(w:World)(hl:∀x∈l,x<256)(hlen:l.length≤4000):
  Calls Tryz.prog 26 #[.string (strOf l)] w fun e w'=>Grow w w'∧((∃p:Nat,(lexAll l).2=some p∧e= .returned (.tuple #[.slice none 0 0, .int .i64 (p:Int)]))∨
   ((lexAll l).2=none∧∃v,e= .returned (.tuple #[v, .int .i64 (-1)])∧Own w' w.heap.size 109 4 v (lexAll l).1.length (wdCells (lexAll l).1))):=by
 have bel:=Below.refl w.heap.size w
 refine Zs 161 Tryz.func26 ?_
 refine Zsr ?_
 refine Za ?_
 refine Za ?_
 refine Zk3 0 2 3 (Ztq ?_)
 refine Za ?_
 refine Zk4 0 2 3 4 (Ztq ?_)
 refine Za ?_
 refine Zk5 0 2 3 4 5 (Zts (Cd.block ?_))
 have own:OwnA w w.heap.size 109 4 (.slice none 0 0) 0 []:=⟨Own.nil _ _ _ _⟩
 refine Cd.loop (σ:=Nat × Value × List Wd) (fun s=>[(0, .string (strOf l)),(4,s.2.1),(5, .int .i64 (s.1:Int))])
  (fun s wr=>s.1≤l.length∧s.2.2.length≤s.1∧(∃f,l.length+1≤f+s.1∧lexAll l=(s.2.2++(lexW f l (s.1+blankN (l.drop s.1))).1,(lexW f l (s.1+blankN (l.drop s.1))).2))∧Below w.heap.size w wr∧OwnA wr w.heap.size 109 4 s.2.1 s.2.2.length (wdCells s.2.2)) (fun s=>l.length-s.1) (0, .slice none 0 0,[])
  ⟨Nat.zero_le _,by simp,⟨l.length+1,by dsimp only;omega,by dsimp only;rw[Nat.zero_add];rfl⟩,bel,own⟩ ⟨rfl,rfl,rfl,trivial⟩ ?_
 clear bel
 clear own
 rintro⟨p,v,ws⟩ wr ⟨hp,hwp,⟨f,hf,hall⟩,bel,own⟩
 dsimp only at hp hwp hf hall own⊢
 refine Cd.seq (Zsr ?_)
 refine Zm ?_
 refine Zm ?_
 refine Zv (Runs.lenL rfl rfl Tryz.underlying9) ?_
 refine Zv (Runs.lss rfl rfl rfl) ?_
 refine Zk4 0 4 5 14 (Zt ?_)
 refine Cd.condD rfl (fun hc=> ?_) (fun hc=> ?_)
 ·obtain⟨c,hcc⟩:∃c,l[p]? =some c:=⟨_,List.getElem?_eq_getElem (show p<l.length by omega)⟩
  have hc256:=hl c (List.mem_of_getElem? hcc)
  refine Cd.skip (Zt (Cd.block (Zsr ?_)))
  refine Zm ?_
  refine Zm ?_
  refine Zv (Runs.indexL (l:=l) (j:=p) rfl rfl rfl Tryz.underlying9 rfl hcc hc256) ?_
  refine Za ?_
  refine Zk5 0 4 5 6 14 (Zts (Zsr ?_))
  refine Zm ?_
  refine Zv (Runs.eqlI rfl rfl rfl) ?_
  refine Zm ?_
  refine SeqC.start ?_
  refine Zco (fun hcx=>Runs.move rfl rfl) ?_
  refine SeqC.next rfl rfl rfl rfl rfl rfl rfl (fun hcx=>Runs.eqlI rfl rfl rfl) ?_
  refine SeqC.or rfl rfl rfl rfl rfl rfl rfl ?_
  refine Zm ?_
  refine SeqC.start ?_
  refine Zco (fun hcx=>Runs.move rfl rfl) ?_
  refine SeqC.next rfl rfl rfl rfl rfl rfl rfl (fun hcx=>Runs.eqlI rfl rfl rfl) ?_
  refine SeqC.or rfl rfl rfl rfl rfl rfl rfl ?_
  refine Zk6 0 4 5 6 14 27 (Zt ?_)
  refine Cd.cond rfl (fun h=> ?_) (fun h=> ?_)
  ·have hbb:blankB c=true:=by unfold blankB;simp at h⊢;omega
   rw[blank_one hcc hbb] at hall
   refine Zsr ?_
   refine Zm ?_
   refine Za_ ?_
   refine Za ?_
   refine Zk6 0 4 5 6 14 27 (Zt (Cd.exit (Post.then_exit (Post.block_exit ?_))))
   exact Post.round (p+1,v,ws) ⟨rfl,rfl,rfl,trivial⟩ ⟨by dsimp only;omega,by dsimp only;omega,⟨f,by dsimp only;omega,hall⟩,bel,own⟩ (by dsimp only;omega)
  have hbb:blankB c=false:=by unfold blankB;simp at h⊢;omega
  clear h
  refine Cd.skip (Zts (Zsr ?_))
  refine Zm ?_
  refine Zv (Runs.eqlI rfl rfl rfl) ?_
  refine Zk7 0 4 5 6 14 27 31 (Zt ?_)
  refine Cd.condD rfl (fun hc=> ?_) (fun hc=> ?_)
  ·obtain rfl:c=35:=by omega
   have hrl:=runN_le noteB (l.drop p)
   rw[List.length_drop] at hrl
   have hr0:0<runN noteB (l.drop p):=by rw[dropAt hcc,runN_cons,if_pos (by decide)];omega
   rw[blank_rem hcc] at hall
   refine Cd.seq (Cd.block ?_)
   refine Cd.loop (σ:=Nat) (fun j=>[(0, .string (strOf l)),(4,v),(5, .int .i64 ((p+j:Nat):Int))])
    (fun j wr=>j≤runN noteB (l.drop p)∧Below w.heap.size w wr∧OwnA wr w.heap.size 109 4 v ws.length (wdCells ws)) (fun j=>l.length-j) 0 ⟨Nat.zero_le _,bel,own⟩ ⟨rfl,rfl,rfl,trivial⟩ ?_
   clear bel own
   rintro j wr2 ⟨hj,bel,own⟩
   have hcj:p+j<l.length→∃d,l[p+j]? =some d∧d<256∧(noteB d=true↔j<runN noteB (l.drop p)):=fun h=>by
    have hd:l[p+j]? =some l[p+j]:=List.getElem?_eq_getElem h
    exact⟨_,hd,hl _ (List.getElem_mem h),runN_upto noteB (l.drop p) j hj _ (by rw[List.getElem?_drop];exact hd)⟩
   generalize runN noteB (l.drop p)=R at *
   have hcd:∃d,(p+j<l.length→l[p+j]? =some d)∧d<256∧(p+j<l.length→(d≠10↔j<R)):=by
    rcases Nat.lt_or_ge (p+j) l.length with h|h
    ·obtain⟨d,h1,h2,h3⟩:=hcj h
     exact⟨d,fun _=>h1,h2,fun _=>by rw[←h3];unfold noteB;simp⟩
    ·exact⟨0,fun h2=>absurd h2 (by omega),by omega,fun h2=>absurd h2 (by omega)⟩
   obtain⟨d,hd1,hd2,hd3⟩:=hcd
   clear hcj
   refine Cd.seq (Zsr ?_)
   refine Zm ?_
   refine Zm ?_
   refine Zv (Runs.lenL rfl rfl Tryz.underlying9) ?_
   refine Zv (Runs.lss rfl rfl rfl) ?_
   refine Zm ?_
   refine SeqC.start ?_
   refine Zco (fun hcx=>Runs.move rfl rfl) ?_
   refine SeqC.next rfl rfl rfl rfl rfl rfl rfl (fun hcx=>Runs.move rfl rfl) ?_
   refine SeqC.next rfl rfl rfl rfl rfl rfl rfl (fun hcx=>Runs.indexL (l:=l) (j:=p+j) (c:=d) rfl rfl rfl Tryz.underlying9 rfl (hd1 (by simp at hcx;omega)) hd2) ?_
   refine SeqC.next rfl rfl rfl rfl rfl rfl rfl (fun hcx=>Runs.neqI rfl rfl rfl) ?_
   refine SeqC.and rfl rfl rfl rfl rfl rfl rfl ?_
   refine Zk4 0 4 5 41 (Zt ?_)
   refine Cd.cond rfl (fun h=> ?_) (fun h=> ?_)
   ·have hlt:p+j<l.length∧j<R:=by
     simp at h
     have:=hd3 (by omega)
     exact⟨by omega,this.1 (by omega)⟩
    refine Cd.skip (Zt (Cd.block (Zr ?_)))
    refine Zm ?_
    refine Za_ ?_
    refine Za ?_
    refine Zk4 0 4 5 41 (Post.block_normal ?_)
    exact Post.round (j+1) ⟨rfl,rfl,congrArg (fun x:Int=>some (Value.int .i64 x)) (show((p+j:Nat):Int)+1=((p+(j+1):Nat):Int) by omega),trivial⟩ ⟨by omega,bel,own⟩ (by omega)
   ·obtain rfl:j=R:=by
     simp at h
     rcases Nat.lt_or_ge (p+j) l.length with h2|h2
     ·have:=hd3 h2
      rcases Nat.lt_or_ge j R with h3|h3
      ·have:=this.2 h3
       omega
      ·omega
     ·omega
    refine Cd.exit (Post.then_exit (Post.round_exit (Post.block_exit (Zt (Cd.exit (Post.then_exit (Post.block_exit ?_)))))))
    exact Post.round (p+j,v,ws) ⟨rfl,rfl,rfl,trivial⟩ ⟨by dsimp only;omega,by dsimp only;omega,⟨f,by dsimp only;omega,hall⟩,bel,own⟩ (by dsimp only;omega)
  have hbn:=blank_no hcc hbb (by omega)
  rw[hbn,Nat.add_zero] at hall
  have hdrop:=dropAt hcc
  have hdn:(l.drop p).length=l.length-p:=List.length_drop
  have hdl:=drop_lt hl p
  have hD:(l.take (p+10)).drop p=(l.drop p).take 10:=by rw[List.drop_take,Nat.add_sub_cancel_left]
  have hDl:=take_lt hdl 10
  have hDn:((l.drop p).take 10).length≤9223372036854775807:=by rw[List.length_take];omega
  have hz0:dateOk ((l.drop p).take 10)=true→0≤dateZ ((l.drop p).take 10)∧dateZ ((l.drop p).take 10)≤2932896:=fun h=>by
   have h2:=h
   unfold dateOk at h2
   simp only[Bool.and_eq_true] at h2
   have h3:=of_span h2.2
   unfold dateZ
   rw[if_pos h]
   exact⟨h3.2.2.2.2.2.2.2.2.1,h3.2.2.2.2.2.2.2.2.2⟩
  have hday:dayOk (l.drop p)=(decide (10≤l.length-p)&& !(decide (10<l.length-p)&&partB ((l.drop p).getD 10 0))&&dateOk ((l.drop p).take 10)):=by unfold dayOk;rw[hdn]
  have h10:p+10<l.length→l[p+10]? =some ((l.drop p).getD 10 0):=fun h=>by
   rw[List.getD_eq_getElem?_getD,List.getElem?_drop,List.getElem?_eq_getElem h];rfl
  have h10b:(l.drop p).getD 10 0<256:=by
   rcases Nat.lt_or_ge 10 (l.drop p).length with h|h
   ·rw[List.getD_eq_getElem?_getD,List.getElem?_eq_getElem h];exact hdl _ (List.getElem_mem h)
   ·rw[List.getD_eq_getElem?_getD,List.getElem?_eq_none h];simp
  have hnx:nextW (l.drop p)=if digB c then(if dayOk (l.drop p) then some (2,(l.drop p).take 10,dateZ ((l.drop p).take 10)) else(amt0 ((l.drop p).take (runN partB (l.drop p)))).map fun v=>(1,(l.drop p).take (runN partB (l.drop p)),v))
   else if letB c then(if runN partB (l.drop p)≤16 then some (3,(l.drop p).take (runN partB (l.drop p)),0) else none)
   else(signW (l.drop p)).map fun s=>(0,s,0):=by rw[hdrop];rfl
  have hdd:dayOk (l.drop p)=true→digB c=true:=fun h=>by rw[hdrop] at h;exact day_dig _ _ h
  generalize (l.drop p).getD 10 0=c10 at *
  obtain⟨f',rfl⟩:∃f',f=f'+1:=⟨f-1,by omega⟩
  have hstep:=lexW_step f' l p (by omega)
  have hDlen:10≤l.length-p→((l.drop p).take 10).length=10:=fun h=>by rw[List.length_take];omega
  refine Cd.skip (Zts (Zsr ?_))
  refine Zm ?_
  refine Zv (Runs.lenL rfl rfl Tryz.underlying9) ?_
  refine Zm ?_
  refine Zv (Runs.subI rfl rfl rfl (by omega) (by omega)) ?_
  refine Zv (Runs.geq rfl rfl rfl) ?_
  refine Zm ?_
  refine SeqC.start ?_
  refine Zco (fun hcx=>Runs.move rfl rfl) ?_
  refine SeqC.next rfl rfl rfl rfl rfl rfl rfl (fun hcx=>Runs.move rfl rfl) ?_
  refine SeqC.next rfl rfl rfl rfl rfl rfl rfl (fun hcx=>Runs.move rfl rfl) ?_
  refine SeqC.next rfl rfl rfl rfl rfl rfl rfl (fun hcx=>Runs.addI rfl rfl rfl (by omega) (by omega)) ?_
  refine SeqC.next rfl rfl rfl rfl rfl rfl rfl (fun hcx=>Runs.sliceAtL (i:=p) (j:=p+10) rfl rfl rfl rfl Tryz.underlying9 rfl (by omega) (by omega) (by simp at hcx;omega)) ?_
  rw[hD]
  refine SeqC.nextC rfl rfl rfl rfl rfl rfl rfl (fun hcx=>Ze Tryz.func60) (fun hcx=>refDayParse_any ((l.drop p).take 10) _ hDl hDn) ?_
  intro w1 hw1
  replace bel:=bel.step hw1
  replace own:=own.step hw1
  refine SeqC.next rfl rfl rfl rfl rfl rfl rfl (fun hcx=>Runs.geq rfl rfl rfl) ?_
  refine SeqC.and rfl rfl rfl rfl rfl rfl rfl ?_
  refine Zm ?_
  refine SeqC.start ?_
  refine Zco (fun hcx=>Runs.move rfl rfl) ?_
  refine SeqC.next rfl rfl rfl rfl rfl rfl rfl (fun hcx=>Runs.lenL rfl rfl Tryz.underlying9) ?_
  refine SeqC.next rfl rfl rfl rfl rfl rfl rfl (fun hcx=>Runs.move rfl rfl) ?_
  refine SeqC.next rfl rfl rfl rfl rfl rfl rfl (fun hcx=>Runs.subI rfl rfl rfl (by omega) (by omega)) ?_
  refine SeqC.next rfl rfl rfl rfl rfl rfl rfl (fun hcx=>Runs.eqlI rfl rfl rfl) ?_
  refine SeqC.next rfl rfl rfl rfl rfl rfl rfl (fun hcx=>Runs.move rfl rfl) ?_
  refine Zco (fun hcx=>Runs.move rfl rfl) ?_
  refine SeqC.next rfl rfl rfl rfl rfl rfl rfl (fun hcx=>Runs.move rfl rfl) ?_
  refine SeqC.next rfl rfl rfl rfl rfl rfl rfl (fun hcx=>Runs.addI rfl rfl rfl (by omega) (by omega)) ?_
  refine SeqC.next rfl rfl rfl rfl rfl rfl rfl (fun hcx=>Runs.indexL (l:=l) (j:=p+10) (c:=c10) rfl rfl rfl Tryz.underlying9 rfl (h10 (by simp[topX] at hcx;omega)) h10b) ?_
  refine SeqC.nextC rfl rfl rfl rfl rfl rfl rfl (fun hcx=>Ze Tryz.func61) (fun hcx=>refPart_any c10 _) ?_
  intro w2 hw2
  replace bel:=bel.step hw2
  replace own:=own.step hw2
  refine SeqC.next rfl rfl rfl rfl rfl rfl rfl (fun hcx=>Runs.not rfl rfl) ?_
  refine SeqC.orG rfl rfl rfl rfl rfl rfl rfl rfl rfl rfl rfl ?_
  refine SeqC.and rfl rfl rfl rfl rfl rfl rfl ?_
  refine Zk8 0 4 5 6 14 27 31 72 (Zt ?_)
  refine Cd.cond rfl (fun h=> ?_) (fun h=> ?_)
  ·have hyes:dayOk (l.drop p)=true:=by
    cases hdo:dateOk ((l.drop p).take 10)<;>cases hpo:partB c10<;>rw[hdo,hpo] at h<;>rw[hday,hdo,hpo]<;>simp at h⊢ <;>omega
   have hdo:dateOk ((l.drop p).take 10)=true:=by rw[hday] at hyes;simp at hyes;exact hyes.2
   have h10p:10≤l.length-p:=by rw[hday] at hyes;simp at hyes;omega
   have hlT:=hDlen h10p
   rw[hnx,hdd hyes,if_pos rfl,if_pos hyes] at hstep
   clear h hnx hdd
   generalize hT:(l.drop p).take 10=T at *
   refine Cd.seq ?_
   refine Cd.draw 14 (by kernel_rfl) [0] (.inr (fun _ _ d _ _ h=>by cases d<;>exact h)) rfl Grow Grow.refl (fun _ _ _=>Grow.trans) ?_
   intro w3 hw3 zw3
   replace bel:=bel.step hw3
   replace own:=own.step hw3
   have zbel:=bel.size
   refine Dr.late rfl rfl (fun w=>Runs.move rfl rfl) Grow.refl rfl ?_
   refine Zdm ?_
   refine Zdm ?_
   refine Zdm ?_
   refine Zd (fun w hG=>Runs.addI rfl rfl rfl (by omega) (by omega)) ?_
   refine Zd (fun w hG=>Runs.sliceAtL (i:=p) (j:=p+10) rfl rfl rfl rfl Tryz.underlying9 rfl (by omega) (by omega) (by omega)) ?_
   refine Zdm ?_
   refine Zdm ?_
   refine Zdm ?_
   refine Zd (fun w hG=>Runs.addI rfl rfl rfl (by omega) (by omega)) ?_
   refine Zd (fun w hG=>Runs.sliceAtL (i:=p) (j:=p+10) rfl rfl rfl rfl Tryz.underlying9 rfl (by omega) (by omega) (by omega)) ?_
   rw[hD]
   refine Dr.callV rfl (fun w=>Ze Tryz.func60) rfl (fun w hG=>refDayParse_any T _ hDl hDn) ?_
   refine Zdm ?_
   rw[hdo,if_pos rfl]
   refine Zd (fun w hG=>Runs.build rfl rfl (run_build_RWord _ _ _ _ _)) ?_
   refine Dr.nil ?_
   refine FinX.done (F':=[(0,_),(4,_),(5,_),(6,_),(14,_),(27,_),(31,_),(72,_),(73,_),(86,_)]) rfl ⟨rfl,rfl,rfl,rfl,rfl,rfl,rfl,rfl,rfl,rfl,trivial⟩ ?_
   intro w4 hw4 fw4
   replace bel:=bel.step hw4
   replace own:=own.step hw4
   refine Seq.slice (vs:=[_]) (s:=4) rfl rfl rfl Tryz.underlying64 (by kernel_rfl) (zero_debentureref17_Word) (by omega) (by omega) ⟨rfl,trivial⟩ rfl rfl rfl ?_
   intro g87 w5 n87
   have e87:=Nat.le_trans bel.size n87.ge
   replace bel:=bel.step n87.below
   replace own:=own.step n87.below
   have k87:=n87.blk
   replace own:=own.own
   refine Seq.append rfl rfl rfl Tryz.underlying64 (by kernel_rfl) zero_debentureref17_Word rfl (by decide) (b:=40) (by kernel_rfl) own (Reads.blk (size:=4) k87 1 rfl) (by intro x hx;simp[flatC,Value.cells] at hx;rcases hx with rfl|rfl|rfl|rfl<;>rfl) bel.size (by simp only[maxLen];omega) (by omega) rfl rfl rfl ?_
   clear own
   intro vw6 w6 own haw6
   replace bel:=bel.trans haw6.below
   replace own:OwnA w6 w.heap.size 109 4 vw6 (ws++[(⟨2,T,dateZ T,p⟩:Wd)]).length (wdCells (ws++[⟨2,T,dateZ T,p⟩])):=⟨by rw[List.length_append,wdCells_snoc];exact own⟩
   rw[hstep] at hall
   dsimp only at hall
   rw[hlT] at hall
   refine Za ?_
   refine Zk8 0 4 5 6 14 27 31 72 (Ztq ?_)
   refine Zm ?_
   refine Za_ ?_
   refine Za ?_
   refine Zk8 0 4 5 6 14 27 31 72 (Zt (Cd.exit (Post.then_exit (Post.block_exit ?_))))
   refine Post.round (p+10,vw6,ws++[⟨2,T,dateZ T,p⟩]) ⟨rfl,rfl,rfl,trivial⟩ ⟨by dsimp only;omega,by dsimp only;rw[List.length_append];simp;omega,⟨f',by dsimp only;omega,?_⟩,bel,own⟩ (by dsimp only;omega)
   dsimp only
   rw[hall,List.append_assoc]
   rfl
  have hno:dayOk (l.drop p)=false:=by
   rw[hday]
   cases hdo:dateOk ((l.drop p).take 10)<;>cases hpo:partB c10<;>rw[hdo,hpo] at h<;>simp at h⊢ <;>first|(have:=(hz0 hdo).1;omega)|omega
  rw[hno] at hnx
  clear h hdd hD hDl hDn hz0 hday h10 h10b hDlen hno
  have hrl:=runN_le partB (l.drop p)
  rw[hdn] at hrl
  have hrn:=runN_upto partB (l.drop p)
  have hpos:partB c=true→0<runN partB (l.drop p):=fun h=>by rw[hdrop,runN_cons,if_pos h];omega
  have hnm:letB c=true→namedB ((l.drop p).take (runN partB (l.drop p)))=decide (runN partB (l.drop p)≤16):=fun h=>by rw[hdrop];exact named_run c _ h
  generalize hR:runN partB (l.drop p)=R at *
  refine Cd.skip (Ztq ?_)
  refine Zm ?_
  refine Za ?_
  refine Zk9 0 4 5 6 7 14 27 31 72 (Zts (Cd.block ?_))
  refine Cd.loop (σ:=Nat) (fun j=>[(0, .string (strOf l)),(4,v),(5, .int .i64 (p:Int)),(6, .int .u8 (c:Int)),(7, .int .i64 ((p+j:Nat):Int))])
   (fun j wr=>j≤R∧Below w.heap.size w wr∧OwnA wr w.heap.size 109 4 v ws.length (wdCells ws)) (fun j=>l.length-j) 0 ⟨Nat.zero_le _,bel,own⟩ ⟨rfl,rfl,rfl,rfl,rfl,trivial⟩ ?_
  clear bel own
  rintro j wr2 ⟨hj,bel,own⟩
  have hcd:∃d,(p+j<l.length→l[p+j]? =some d)∧d<256∧(p+j<l.length→(partB d=true↔j<R)):=by
   rcases Nat.lt_or_ge (p+j) l.length with h|h
   ·have hd:l[p+j]? =some l[p+j]:=List.getElem?_eq_getElem h
    exact⟨_,fun _=>hd,hl _ (List.getElem_mem h),fun _=>hrn j hj _ (by rw[List.getElem?_drop];exact hd)⟩
   ·exact⟨0,fun h2=>absurd h2 (by omega),by omega,fun h2=>absurd h2 (by omega)⟩
  obtain⟨d,hd1,hd2,hd3⟩:=hcd
  refine Cd.seq (Zsr ?_)
  refine Zm ?_
  refine Zm ?_
  refine Zv (Runs.lenL rfl rfl Tryz.underlying9) ?_
  refine Zv (Runs.lss rfl rfl rfl) ?_
  refine Zm ?_
  refine SeqC.start ?_
  refine Zco (fun hcx=>Runs.move rfl rfl) ?_
  refine SeqC.next rfl rfl rfl rfl rfl rfl rfl (fun hcx=>Runs.move rfl rfl) ?_
  refine SeqC.next rfl rfl rfl rfl rfl rfl rfl (fun hcx=>Runs.indexL (l:=l) (j:=p+j) (c:=d) rfl rfl rfl Tryz.underlying9 rfl (hd1 (by simp at hcx;omega)) hd2) ?_
  refine SeqC.nextC rfl rfl rfl rfl rfl rfl rfl (fun hcx=>Ze Tryz.func61) (fun hcx=>refPart_any d _) ?_
  intro w3 hw3
  replace bel:=bel.step hw3
  replace own:=own.step hw3
  refine SeqC.and rfl rfl rfl rfl rfl rfl rfl ?_
  refine Zk6 0 4 5 6 7 101 (Zt ?_)
  refine Cd.cond rfl (fun h=> ?_) (fun h=> ?_)
  ·have hlt:p+j<l.length∧j<R:=by
    simp at h
    exact⟨by omega,(hd3 (by omega)).1 h.2⟩
   refine Cd.skip (Zt (Cd.block (Zr ?_)))
   refine Zm ?_
   refine Za_ ?_
   refine Za ?_
   refine Zk6 0 4 5 6 7 101 (Post.block_normal ?_)
   exact Post.round (j+1) ⟨rfl,rfl,rfl,rfl,congrArg (fun x:Int=>some (Value.int .i64 x)) (show((p+j:Nat):Int)+1=((p+(j+1):Nat):Int) by omega),trivial⟩ ⟨by omega,bel,own⟩ (by omega)
  obtain rfl:j=R:=by
   simp at h
   rcases Nat.lt_or_ge (p+j) l.length with h2|h2
   ·have h4:=hd3 h2
    rcases Nat.lt_or_ge j R with h3|h3
    ·have h5:=h4.2 h3
     rw[h (by omega)] at h5
     cases h5
    ·omega
   ·omega
  clear h hd1 hd2 hd3 hrn
  have hT:(l.take (p+j)).drop p=(l.drop p).take j:=by rw[List.drop_take,Nat.add_sub_cancel_left]
  have hTl:=take_lt hdl j
  have hTn:((l.drop p).take j).length=j:=by rw[List.length_take];omega
  refine Cd.exit (Post.then_exit (Post.round_exit (Post.block_exit (Ztq ?_))))
  refine Zm ?_
  refine Zm ?_
  refine Zm ?_
  refine Zv (Runs.sliceAtL (i:=p) (j:=p+j) rfl rfl rfl rfl Tryz.underlying9 rfl (by omega) (by omega) (by omega)) ?_
  rw[hT]
  have hTc:0<j→∃r,(l.drop p).take j=c::r:=fun h=>by
   obtain⟨m,rfl⟩:∃m,j=m+1:=⟨j-1,by omega⟩
   exact⟨_,by rw[hdrop];rfl⟩
  generalize (l.drop p).take j=T at *
  refine Za ?_
  refine Zk7 0 4 5 6 7 8 101 (Zts (Cd.block (Zsr ?_)))
  refine Zm ?_
  refine Zv (Runs.geq rfl rfl rfl) ?_
  refine Zm ?_
  refine SeqC.start ?_
  refine Zco (fun hcx=>Runs.move rfl rfl) ?_
  refine SeqC.next rfl rfl rfl rfl rfl rfl rfl (fun hcx=>Runs.leq rfl rfl rfl) ?_
  refine SeqC.and rfl rfl rfl rfl rfl rfl rfl ?_
  refine Za ?_
  refine Zk8 0 4 5 6 7 8 101 121 (Zt ?_)
  refine Cd.cond rfl (fun h=> ?_) (fun h=> ?_)
  ·have hdg:digB c=true:=by unfold digB;simp at h⊢;omega
   have hj0:=hpos (by unfold partB;rw[hdg];simp)
   obtain⟨r,hr⟩:=hTc hj0
   rw[if_pos hdg,if_neg (by simp)] at hnx
   clear h
   refine Zsr ?_
   refine Zm ?_
   refine Zc (Ze Tryz.func62) (refAmount_any T 0 _ hTl ⟨by omega,by omega⟩) ?_
   rintro e w7 ⟨x,ok,rfl,hamt,hb7⟩
   refine⟨_,rfl,?_⟩
   rw[amt0_of hamt c r hr hdg] at hnx
   replace bel:=bel.step hb7
   replace own:=own.step hb7
   refine Zm ?_
   refine Zv (Runs.extract rfl rfl rfl) ?_
   refine Zv (Runs.extract rfl rfl rfl) ?_
   refine Za ?_
   refine Za ?_
   refine Zk10 0 4 5 6 7 8 9 10 101 121 (Zts (Zsr ?_))
   refine Zm ?_
   refine Zv (Runs.not rfl rfl) ?_
   refine Zk11 0 4 5 6 7 8 9 10 101 121 134 (Zt ?_)
   refine Cd.cond rfl (fun h=> ?_) (fun h=> ?_)
   ·obtain rfl:ok=false:=by cases ok<;>simp at h⊢
    rw[lexW_none (by omega) hnx] at hall
    refine Zsr ?_
    refine Zm ?_
    refine Za ?_
    refine Za ?_
    refine Zk13 0 2 3 4 5 6 7 8 9 10 101 121 134 (Zt (Cd.ret (Post.then_ret (Post.block_ret (Post.then_ret (Post.block_ret (Post.round_ret (Post.block_ret (Post.then_ret ?_)))))))))
    refine Post.end2 rfl rfl rfl (.inl rfl) ?_
    exact⟨bel, .inl ⟨p,by rw[hall],rfl⟩⟩
   ·obtain rfl:ok=true:=by cases ok<;>simp at h⊢
    rw[lexW_some (by omega) (show nextW (l.drop p)=some (1,T,x) from hnx),hTn] at hall
    refine Cd.skip (Ztr ?_)
    refine Zm ?_
    refine Zm ?_
    refine Zm ?_
    refine Zm ?_
    refine Zv (Runs.build rfl rfl (run_build_RWord _ _ _ _ _)) ?_
    refine Seq.slice (vs:=[_]) (s:=4) rfl rfl rfl Tryz.underlying64 (by kernel_rfl) (zero_debentureref17_Word) (by omega) (by omega) ⟨rfl,trivial⟩ rfl rfl rfl ?_
    intro g141 w4 n141
    have e141:=Nat.le_trans bel.size n141.ge
    replace bel:=bel.step n141.below
    replace own:=own.step n141.below
    have k141:=n141.blk
    replace own:=own.own
    refine Seq.append rfl rfl rfl Tryz.underlying64 (by kernel_rfl) zero_debentureref17_Word rfl (by decide) (b:=40) (by kernel_rfl) own (Reads.blk (size:=4) k141 1 rfl) (by intro x hx;simp[flatC,Value.cells] at hx;rcases hx with rfl|rfl|rfl|rfl<;>rfl) bel.size (by simp only[maxLen];omega) (by omega) rfl rfl rfl ?_
    clear own
    intro vw5 w5 own haw5
    replace bel:=bel.trans haw5.below
    replace own:OwnA w5 w.heap.size 109 4 vw5 (ws++[(⟨1,T,x,p⟩:Wd)]).length (wdCells (ws++[⟨1,T,x,p⟩])):=⟨by rw[List.length_append,wdCells_snoc];exact own⟩
    refine Za ?_
    refine Zk11 0 4 5 6 7 8 9 10 101 121 134 (Post.block_normal (Ztr ?_))
    refine Zm ?_
    refine Zm ?_
    refine Zv (Runs.lenL rfl rfl Tryz.underlying9) ?_
    refine Za_ ?_
    refine Za ?_
    refine Zk11 0 4 5 6 7 8 9 10 101 121 134 (Post.block_normal ?_)
    refine Post.round (p+j,vw5,ws++[⟨1,T,x,p⟩]) ⟨rfl,rfl,congrArg (fun x:Int=>some (Value.int .i64 x)) (by omega),trivial⟩ ⟨by dsimp only;omega,by dsimp only;rw[List.length_append];simp;omega,⟨f',by dsimp only;omega,?_⟩,bel,own⟩ (by dsimp only;omega)
    dsimp only
    rw[hall,List.append_assoc]
    rfl
  have hdg:digB c=false:=by unfold digB;simp at h⊢;omega
  rw[if_neg (by rw[hdg];simp)] at hnx
  clear h
  refine Zsr ?_
  refine Zm ?_
  refine Zc (Ze Tryz.func63) (refLetter_any c _) ?_
  rintro e w7 ⟨rfl,hb7⟩
  refine⟨_,rfl,?_⟩
  replace bel:=bel.step hb7
  replace own:=own.step hb7
  refine Za ?_
  refine Zk9 0 4 5 6 7 8 101 121 143 (Zt ?_)
  refine Cd.cond rfl (fun hlt=> ?_) (fun hlt=> ?_)
  ·have hj0:=hpos (by unfold partB;rw[hlt];simp)
   rw[if_pos hlt] at hnx
   have hnm:=hnm hlt
   refine Cd.seq (Zsr ?_)
   refine Zm ?_
   refine Zc (Ze Tryz.func64) (refNamed_any T _ hTl (by omega)) ?_
   rintro e w8 ⟨rfl,hb8⟩
   refine⟨_,rfl,?_⟩
   rw[hnm]
   replace bel:=bel.step hb8
   replace own:=own.step hb8
   refine Zv (Runs.not rfl rfl) ?_
   refine Zk10 0 4 5 6 7 8 101 121 143 148 (Zt ?_)
   refine Cd.cond rfl (fun h=> ?_) (fun h=> ?_)
   ·rw[if_neg (by simp at h;omega)] at hnx
    rw[lexW_none (by omega) hnx] at hall
    refine Zsr ?_
    refine Zm ?_
    refine Za ?_
    refine Za ?_
    refine Zk12 0 2 3 4 5 6 7 8 101 121 143 148 (Zt (Cd.ret (Post.then_ret (Post.block_ret (Post.then_ret (Post.block_ret (Post.round_ret (Post.block_ret (Post.then_ret ?_)))))))))
    refine Post.end2 rfl rfl rfl (.inl rfl) ?_
    exact⟨bel, .inl ⟨p,by rw[hall],rfl⟩⟩
   ·rw[if_pos (by simp at h;omega)] at hnx
    rw[lexW_some (by omega) hnx,hTn] at hall
    refine Cd.skip (Ztr ?_)
    refine Zm ?_
    refine Zm ?_
    refine Zm ?_
    refine Zv (Runs.build rfl rfl (run_build_RWord _ _ _ _ _)) ?_
    refine Seq.slice (vs:=[_]) (s:=4) rfl rfl rfl Tryz.underlying64 (by kernel_rfl) (zero_debentureref17_Word) (by omega) (by omega) ⟨rfl,trivial⟩ rfl rfl rfl ?_
    intro g154 w4 n154
    have e154:=Nat.le_trans bel.size n154.ge
    replace bel:=bel.step n154.below
    replace own:=own.step n154.below
    have k154:=n154.blk
    replace own:=own.own
    refine Seq.append rfl rfl rfl Tryz.underlying64 (by kernel_rfl) zero_debentureref17_Word rfl (by decide) (b:=40) (by kernel_rfl) own (Reads.blk (size:=4) k154 1 rfl) (by intro x hx;simp[flatC,Value.cells] at hx;rcases hx with rfl|rfl|rfl|rfl<;>rfl) bel.size (by simp only[maxLen];omega) (by omega) rfl rfl rfl ?_
    clear own
    intro vw5 w5 own haw5
    replace bel:=bel.trans haw5.below
    replace own:OwnA w5 w.heap.size 109 4 vw5 (ws++[(⟨3,T,0,p⟩:Wd)]).length (wdCells (ws++[⟨3,T,0,p⟩])):=⟨by rw[List.length_append,wdCells_snoc];exact own⟩
    refine Za ?_
    refine Zk10 0 4 5 6 7 8 101 121 143 148 (Post.block_normal (Ztr ?_))
    refine Zm ?_
    refine Zm ?_
    refine Zv (Runs.lenL rfl rfl Tryz.underlying9) ?_
    refine Za_ ?_
    refine Za ?_
    refine Zk10 0 4 5 6 7 8 101 121 143 148 (Post.block_normal ?_)
    refine Post.round (p+j,vw5,ws++[⟨3,T,0,p⟩]) ⟨rfl,rfl,congrArg (fun x:Int=>some (Value.int .i64 x)) (by omega),trivial⟩ ⟨by dsimp only;omega,by dsimp only;rw[List.length_append];simp;omega,⟨f',by dsimp only;omega,?_⟩,bel,own⟩ (by dsimp only;omega)
    dsimp only
    rw[hall,List.append_assoc]
    rfl
  rw[if_neg (by rw[hlt];simp)] at hnx
  have hslt:∀x∈(signW (l.drop p)).getD [],x<256:=by
   cases hs:signW (l.drop p) with
   |none=>simp
   |some s=>exact signs_lt s (List.mem_of_find?_eq_some hs)
  have hsp:∀s,signW (l.drop p)=some s→0<s.length∧p+s.length≤l.length:=fun s hs=>by
   rw[hs] at hnx
   have:=nextW_spec (show nextW (l.drop p)=some (0,s,0) from hnx)
   omega
  refine Zsr ?_
  refine Zm ?_
  refine Zm ?_
  refine Zv (Runs.sliceFrom (j:=p) rfl rfl rfl Tryz.underlying9 rfl hp) ?_
  refine Zc (Ze Tryz.func65) (refSign_any (l.drop p) _ hdl (by omega)) ?_
  rintro e w8 ⟨rfl,hb8⟩
  refine⟨_,rfl,?_⟩
  replace bel:=bel.step hb8
  replace own:=own.step hb8
  refine Za ?_
  refine Zk9 0 4 5 6 7 8 101 121 143 (Zts (Zsr ?_))
  refine Zm ?_
  refine Zv (Runs.eqlL (a:=(signW (l.drop p)).getD []) (b:=[]) rfl rfl rfl hslt (by simp)) ?_
  refine Zk10 0 4 5 6 7 8 101 113 121 143 (Zt ?_)
  refine Cd.cond rfl (fun h=> ?_) (fun h=> ?_)
  ·have hs:signW (l.drop p)=none:=by
    cases hs:signW (l.drop p) with
    |none=>rfl
    |some s=>
     rw[hs] at h
     simp at h
     have:=(hsp s hs).1
     rw[h] at this
     simp at this
   rw[hs] at hnx
   rw[lexW_none (by omega) hnx] at hall
   refine Zsr ?_
   refine Zm ?_
   refine Za ?_
   refine Za ?_
   refine Zk12 0 2 3 4 5 6 7 8 101 113 121 143 (Zt (Cd.ret (Post.then_ret (Post.block_ret (Post.then_ret (Post.block_ret (Post.round_ret (Post.block_ret (Post.then_ret ?_)))))))))
   refine Post.end2 rfl rfl rfl (.inl rfl) ?_
   exact⟨bel, .inl ⟨p,by rw[hall],rfl⟩⟩
  ·obtain⟨s,hs⟩:∃s,signW (l.drop p)=some s:=by
    cases hs:signW (l.drop p) with
    |none=>rw[hs] at h;simp at h
    |some s=>exact⟨s,rfl⟩
   obtain⟨hs1,hs2⟩:=hsp s hs
   rw[hs] at hnx⊢
   rw[lexW_some (by omega) (show nextW (l.drop p)=some (0,s,0) from hnx)] at hall
   simp only[Option.getD_some]
   refine Cd.skip (Ztr ?_)
   refine Zm ?_
   refine Zm ?_
   refine Zm ?_
   refine Zv (Runs.build rfl rfl (run_build_RWord _ _ _ _ _)) ?_
   refine Seq.slice (vs:=[_]) (s:=4) rfl rfl rfl Tryz.underlying64 (by kernel_rfl) (zero_debentureref17_Word) (by omega) (by omega) ⟨rfl,trivial⟩ rfl rfl rfl ?_
   intro g119 w4 n119
   have e119:=Nat.le_trans bel.size n119.ge
   replace bel:=bel.step n119.below
   replace own:=own.step n119.below
   have k119:=n119.blk
   replace own:=own.own
   refine Seq.append rfl rfl rfl Tryz.underlying64 (by kernel_rfl) zero_debentureref17_Word rfl (by decide) (b:=40) (by kernel_rfl) own (Reads.blk (size:=4) k119 1 rfl) (by intro x hx;simp[flatC,Value.cells] at hx;rcases hx with rfl|rfl|rfl|rfl<;>rfl) bel.size (by simp only[maxLen];omega) (by omega) rfl rfl rfl ?_
   clear own
   intro vw5 w5 own haw5
   replace bel:=bel.trans haw5.below
   replace own:OwnA w5 w.heap.size 109 4 vw5 (ws++[(⟨0,s,0,p⟩:Wd)]).length (wdCells (ws++[⟨0,s,0,p⟩])):=⟨by rw[List.length_append,wdCells_snoc];exact own⟩
   refine Za ?_
   refine Zk10 0 4 5 6 7 8 101 113 121 143 (Post.block_normal (Ztr ?_))
   refine Zm ?_
   refine Zm ?_
   refine Zv (Runs.lenL rfl rfl Tryz.underlying9) ?_
   refine Za_ ?_
   refine Za ?_
   refine Zk10 0 4 5 6 7 8 101 113 121 143 (Post.block_normal ?_)
   refine Post.round (p+s.length,vw5,ws++[⟨0,s,0,p⟩]) ⟨rfl,rfl,congrArg (fun x:Int=>some (Value.int .i64 x)) (by omega),trivial⟩ ⟨by dsimp only;omega,by dsimp only;rw[List.length_append];simp;omega,⟨f',by dsimp only;omega,?_⟩,bel,own⟩ (by dsimp only;omega)
   dsimp only
   rw[hall,List.append_assoc]
   rfl
 ·obtain rfl:p=l.length:=by omega
  have hb0:=blankN_le (l.drop l.length)
  rw[List.length_drop] at hb0
  rw[lexW_end f l _ (by omega)] at hall
  dsimp only at hall
  rw[List.append_nil] at hall
  refine Cd.exit (Post.then_exit (Post.round_exit (Post.block_exit (Ztq ?_))))
  refine Zm ?_
  refine Za ?_
  refine Za ?_
  refine Zk6 0 2 3 4 5 14 (Zt (Cd.ret ?_))
  refine Post.end2 rfl rfl rfl (.inl rfl) ?_
  exact⟨bel, .inr ⟨by rw[hall],v,rfl,by rw[hall];exact own.own⟩⟩
end Go.Proofs.YtaamkfajnpobfaaGreat
namespace Go.Proofs.YtaamkfajnpobfaaGreat
open Go.RowKit
section
variable {α β:Type} {r:Rs α} {d p:Nat} {x:α} {o:Int} {dp bd:Bool}
theorem resQ_o (h:resQ r d x p o dp bd):(d:Int)≤o∧o≤d+1:=by
 unfold resQ at h
 cases r with
 |out=>exact h.elim
 |bad a b=>exact h.2.2.2
 |ok a b=>obtain⟨-,-,h,-⟩:=h;omega
theorem resQ_up {f:α→β}(h:resQ r (d+1) x p o dp bd):resQ (r.bind fun a q=> .ok (f a) q) d (f x) p (o-1) dp bd:=by
 unfold resQ at h
 cases r with
 |out=>exact h.elim
 |bad a b=>obtain⟨h1,h2,h3,h4,h5⟩:=h;exact⟨h1,h2,h3,by omega,by omega⟩
 |ok a b=>obtain⟨h1,h2,h3,h4,h5⟩:=h;exact⟨by rw[h1],h2,by omega,h4,h5⟩
theorem resQ_close {ws:List Wd}{s:List Nat}{f:α→β}(h:resQ r (d+1) x p o dp bd):resQ (r.bind fun a q=>(signQ ws s q).bind fun _ q=> .ok (f a) q) d (f x) (takeQ ws s p bd).1 (o-1) dp (takeQ ws s p bd).2:=by
 unfold resQ at h
 cases r with
 |out=>exact h.elim
 |bad a b=>
  obtain⟨rfl,rfl,rfl,h4,h5⟩:=h
  rw[takeQ_bad]
  exact⟨rfl,rfl,rfl,by omega,by omega⟩
 |ok a b=>
  obtain⟨rfl,rfl,h3,rfl,rfl⟩:=h
  rw[Rs.bind_ok]
  rcases takeQ_sign (ws:=ws) (s:=s) (q:=p) with ⟨h1,h2⟩|⟨h1,h2⟩
  ·rw[h1,h2];exact⟨rfl,rfl,by omega,rfl,rfl⟩
  ·rw[h1,h2];exact⟨rfl,rfl,rfl,by omega,by omega⟩
end
theorem okE_put {w W W':World}{S:Nat→Prop}{x:Ex}{v:Value}{g:Nat}{T:TypeId}{cs:Array Value}(hr:RepE W S x v)(p:Put W W' g T cs)(hb:∀b,S b→w.heap.size≤b∧b<W.heap.size∧b≠g):okE w x v W':=
 ⟨S,hr.mono (fun _ h=>h) (fun a ha=>World.cell?_of_block (p.grown.block _ (hb _ ha).2.1 (fun e=>by injection e with e;exact(hb _ ha).2.2 e))),fun b h=>⟨(hb b h).1,by have:=(hb b h).2.1;have:=p.size;omega⟩⟩
theorem RepE.leaf {W:World}{S:Nat→Prop}{op n:Int}{nm:List Nat}(hop:I64 op)(hn:I64 n)(h1:∀c∈nm,c<256)(h2:nm.length≤9223372036854775807):RepE W S (.mk op n nm []) (.agg #[.int .i64 op, .int .i64 n, .string (strOf nm), .slice none 0 0]):=
 RepE.mk (args:=[]) (vs:=[]) rfl (by simp) hop hn h1 h2 (fun i e v h=>by simp at h) (fun h=>absurd rfl h)
theorem RepE.one {W:World}{S:Nat→Prop}{op:Int}{x:Ex}{v:Value}{g:Nat}(hop:I64 op)(hr:RepE W S x v)(hb:Blk W g 35 (flatC [v]).toArray):RepE W (fun b=>S b∨b=g) (.mk op 0 [] [x]) (.agg #[.int .i64 op, .int .i64 0, .string (strOf []), .slice (some ⟨g,0,none⟩) 1 1]):=by
 have hadd:(⟨g,0,none⟩:Addr).add=fun j=>⟨g,j,none⟩:=by funext j;unfold Addr.add;split<;>simp_all
 refine RepE.mk (args:=[x]) (vs:=[v]) rfl (by simp) hop (by unfold I64;omega) (by simp) (by simp) (fun i e u h1 h2=> ?_) (fun _=>⟨⟨g,0,none⟩,rfl, .inr rfl,fun j u hu=> ?_⟩)
 ·match i,h1,h2 with
  |0,h1,h2=>
   simp at h1 h2
   subst h1 h2
   exact hr.mono (fun _ h=> .inl h) (fun _ _=>rfl)
  |i+1,h1,_=>simp at h1
 ·rw[hadd,hb.cell j]
  have hu2:(flatC [v]).toArray[j]? =some u:=by simpa using hu
  exact hu2
theorem within_one (ws:List Wd)(E0:Nat→Nat→Rs Ex)(p d:Nat):((withinP ws [E0] p d).bind fun xs p=>Rs.ok (xs.getD 0 (.mk 0 0 [] [])) p)=(signQ ws [40] p).bind fun _ q=>(enterP q d).bind fun _ q=>(E0 q (d+1)).bind fun x q=>(signQ ws [41] q).bind fun _ q=> .ok x q:=by
 unfold withinP
 simp only[partsP,if_pos,Rs.bind_assoc,Rs.bind_ok]
 rfl
theorem isS_iff {ws:List Wd}{p:Nat}{s:List Nat}:isS ws p s=true↔(wAt ws p).kind=0∧(wAt ws p).text=s:=by
 unfold isS
 simp
structure RdB (K:Ctx)(w:World):Prop where
 rd:Reads w K.B 4 K.A K.ws.length (wdCells K.ws)
 le:K.B≤K.g
 lt:K.B≤w.heap.size
theorem RdB.step {K:Ctx}{w w':World}(h:RdB K w)(hb:Below w.heap.size w w'):RdB K w':=⟨h.rd.below (hb.mono h.lt),h.le,Nat.le_trans h.lt hb.size⟩
theorem RdB.put {K:Ctx}{w w':World}{g:Nat}{T:TypeId}{cur cs:Array Value}{E:Prop}(h:RdB K w)(k:Blk w g T cur)(p:Put w w' g T cs)(_e:E)(hg:K.B≤g:=by omega):RdB K w':=⟨h.rd.below (p.below hg k.lt),h.le,Nat.le_trans h.lt (Nat.le_of_eq p.size.symm)⟩
theorem SW.rdb {K:Ctx}{w:World}{p:Nat}{o:Int}{dp bd:Bool}(h:SW K w p o dp bd):RdB K w:=⟨h.rd,h.le,by have:=h.blk.lt;have:=h.le;omega⟩
theorem RdB.sw {K:Ctx}{w:World}(h:RdB K w){p:Nat}{o:Int}{dp bd:Bool}(hb:Blk w K.g 69 #[.slice K.A K.ws.length K.c, .int .i64 (p:Int), .int .i64 o, .bool dp, .bool bd]) (hp:p≤K.ws.length) (ho:0≤o∧o≤1000):SW K w p o dp bd:=⟨hb,h.rd,hp,ho,h.le⟩
theorem single_any (K:Ctx)(hK:K.Ok)(hW:WsB K.ws)(p d:Nat)(S0 E0:Nat→Nat→Rs Ex)(hM:Mono E0)(w:World)(sw0:SW K w p d false false)(hd:d≤64)
  (hS:∀(q d:Nat) W,p<q→d≤64→SW K W q d false false→Calls Tryz.prog 75 #[.pointer (some ⟨K.g,0,none⟩)] W (CR K W.heap.size W (resQ (S0 q d) d) (okE W)))
  (hE:∀(q d:Nat) W,p<q→d≤64→SW K W q d false false→Calls Tryz.prog 33 #[.pointer (some ⟨K.g,0,none⟩), .int .i64 1] W (CR K W.heap.size W (resQ (E0 q d) d) (okE W))):
  Calls Tryz.prog 75 #[.pointer (some ⟨K.g,0,none⟩)] w (CR K w.heap.size w (resQ (unaryP K.ws S0 E0 p d) d) (okE w)):=by
 have bel:=Fz.refl w.heap.size K.g w
 have k99:=sw0.blk
 have e99:K.g=K.g:=rfl
 have hrd:=sw0.rd
 have hlt:=sw0.blk.lt
 have hle:=hK.le
 have hlen:=hK.len
 have hpl:=sw0.p_le
 refine Zs 170 Tryz.func75 ?_
 refine Zsr ?_
 refine Zl zero_api_Expr ?_
 intro g2 w1 n2
 have e2:=Nat.le_trans bel.size n2.ge
 have l2:=Nat.lt_of_lt_of_le k99.lt n2.ge
 replace bel:=bel.step n2.below
 replace k99:=k99.step n2.below
 have k2:=n2.blk
 refine Zk2 0 2 (Zts (Zsr ?_))
 refine Zm ?_
 refine Zv (Runs.nilCheck rfl rfl) ?_
 refine Zf 4 Tryz.underlying69 ?_
 refine Zv (Runs.loadB rfl rfl Tryz.underlying4 rfl k99 rfl) ?_
 refine Zk3 0 2 9 (Zt ?_)
 refine Cd.condF rfl rfl ?_
 refine Cd.skip (Zts (Cd.seq ?_))
 refine Cd.draw 10 (by kernel_rfl) [] (.inl rfl) rfl Grow Grow.refl (fun _ _ _=>Grow.trans) ?_
 intro w2 hw2 zw2
 replace bel:=bel.step hw2
 replace k99:=k99.step hw2
 replace k2:=k2.step hw2
 have zbel:=bel.size
 have zlt:=k2.lt
 refine Zdm ?_
 refine Zd (fun w hG=>Runs.nilCheck rfl rfl) ?_
 refine Zd (fun w hG=>Runs.fieldB 1 rfl rfl Tryz.underlying69 rfl (by kernel_rfl)) ?_
 refine Zd (fun w hG=>Runs.loadB rfl rfl Tryz.underlying3 rfl (k99.step hG) rfl) ?_
 refine Zdm ?_
 refine Zd (fun w hG=>Runs.nilCheck rfl rfl) ?_
 refine Zd (fun w hG=>Runs.fieldB 0 rfl rfl Tryz.underlying69 rfl (by kernel_rfl)) ?_
 refine Zd (fun w hG=>Runs.loadB rfl rfl Tryz.underlying64 rfl (k99.step hG) rfl) ?_
 refine Zd (fun w hG=>Runs.len rfl rfl Tryz.underlying64) ?_
 refine Zd (fun w hG=>Runs.geq rfl rfl rfl) ?_
 refine Dr.nil ?_
 refine FinX.done (F':=[(0,_),(2,_),(9,_),(20,_)]) rfl ⟨rfl,rfl,rfl,rfl,trivial⟩ ?_
 intro w3 hw3 fw3
 replace bel:=bel.step hw3
 replace k99:=k99.step hw3
 replace k2:=k2.step hw3
 refine Zk4 0 2 9 20 (Zt ?_)
 refine Cd.condD rfl (fun hc=> ?_) (fun hc=> ?_)
 ·have hR:unaryP K.ws S0 E0 p d= .bad p false:=unaryP_end (by omega) _ _ _
  refine Zsr ?_
  refine Zm ?_
  refine Zv (Runs.nilCheck rfl rfl) ?_
  refine Zf 4 Tryz.underlying69 ?_
  refine Zq k99 ?_
  intro w4 pw4
  replace bel:=bel.put k99 pw4 e99
  replace k2:=k2.put pw4 (by omega)
  replace k99:=pw4.blk
  refine Zk4 0 2 9 20 (Ztq ?_)
  refine Zv (Runs.build rfl rfl (run_build_E0 _)) ?_
  have sw1:=sw0.to hle bel k99 hpl (by omega)
  have k2l:=k2.lt
  refine Zo 4 k2 ?_
  intro w5 pw5
  replace bel:=bel.put k2 pw5 e2
  replace k99:=k99.put pw5 (by omega)
  replace k2:=pw5.blk
  refine Zk4 0 2 9 20 (Zt (Cd.ret (Post.then_ret ?_)))
  refine Post.endC rfl rfl k2 Tryz.underlying35 rfl (m:=4) (by kernel_rfl) rfl (.inl rfl) ?_
  rw[hR]
  exact⟨bel,_,zeroEx,_,_,_,_,rfl,⟨fun _=>False,RepE.zero _ _,fun b hb=>hb.elim⟩,sw0.to hle bel k99 hpl (by omega),rfl,rfl,rfl,by omega,by omega⟩
 have hp:p<K.ws.length:=by omega
 obtain⟨ad,hA,hadb,hcell⟩:=hrd.2 (by omega)
 obtain⟨x,hx⟩:∃x,K.ws[p]? =some x:=⟨_,List.getElem?_eq_getElem (by omega)⟩
 have hat:=wAt_some hx
 obtain⟨a1,a2,a3,a4⟩:=hK.wAt p
 have hk03:0≤x.kind∧x.kind≤3:=by
  rcases hW x (List.mem_of_getElem? hx) with ⟨h1,-⟩|⟨h1,-⟩|⟨h1,-⟩|⟨h1,-⟩<;>rw[h1]<;>decide
 rw[hat] at a1 a2 a3 a4
 have hce:∀W,Below K.B w W→∀(q:Nat) (u:Value),([.int .i64 x.kind, .string (strOf x.text), .int .i64 x.n, .int .i64 (x.pos:Int)]:List Value)[q]? =some u→W.cell? ((ad.add (p*4)).add q)=some u:=fun W hb q u hu=>by
  rw[hb.cell (by rw[block_of_add,block_of_add];exact hadb),add_of_add]
  exact hcell _ _ (wdCells_row K.ws p x hx q u hu)
 have hU:unaryP K.ws S0 E0 p d=if x.kind=0∧x.text=[33] then aheadP S0 19 p d else if x.kind=0∧x.text=[45] then aheadP S0 20 p d else atomP K.ws E0 p d:=by
  unfold unaryP
  simp only[isS_iff,hat]
 have hAt:atomP K.ws E0 p d=if x.kind=1 then .ok (.mk 1 x.n [] []) (p+1) else if x.kind=2 then .ok (.mk 2 x.n [] []) (p+1) else if x.kind=3 then
   if x.text=dayW then .ok (.mk 4 0 [] []) (p+1) else if x.text=minW then calledP K.ws E0 9 2 p d else if x.text=maxW then calledP K.ws E0 10 2 p d else if x.text=ifW then calledP K.ws E0 21 3 p d else(nameP K.ws p).bind fun nm p=> .ok (.mk 3 0 nm []) p
  else if x.kind=0 then(withinP K.ws [E0] p d).bind fun xs p=> .ok (xs.getD 0 (.mk 0 0 [] [])) p else .bad p false:=by unfold atomP;rw[hat]
 have hNm:nameP K.ws p=if x.kind=3∧reservedB x.text=false then .ok x.text (p+1) else .bad p false:=by unfold nameP;rw[hat]
 have hsb:=bel.size
 rw[hA] at k99
 refine Cd.skip (Zts ?_)
 refine Cd.draw 11 (by kernel_rfl) [] (.inl rfl) rfl Grow Grow.refl (fun _ _ _=>Grow.trans) ?_
 intro w4 hw4 zw4
 replace bel:=bel.step hw4
 replace k99:=k99.step hw4
 replace k2:=k2.step hw4
 have zbel:=bel.size
 have zlt:=k2.lt
 refine Zdm ?_
 refine Zd (fun w hG=>Runs.nilCheck rfl rfl) ?_
 refine Zd (fun w hG=>Runs.fieldB 0 rfl rfl Tryz.underlying69 rfl (by kernel_rfl)) ?_
 refine Zd (fun w hG=>Runs.loadB rfl rfl Tryz.underlying64 rfl (k99.step hG) rfl) ?_
 refine Zdm ?_
 refine Zd (fun w hG=>Runs.nilCheck rfl rfl) ?_
 refine Zd (fun w hG=>Runs.fieldB 1 rfl rfl Tryz.underlying69 rfl (by kernel_rfl)) ?_
 refine Zd (fun w hG=>Runs.loadB rfl rfl Tryz.underlying3 rfl (k99.step hG) rfl) ?_
 refine Zd (fun w hG=>Runs.indexN rfl rfl rfl Tryz.underlying64 (s:=4) (by kernel_rfl) (j:=p) rfl (by omega)) ?_
 refine Zd (fun w hG=>Runs.loadF (ps:=[.int .i64 x.kind, .string (strOf x.text), .int .i64 x.n, .int .i64 (x.pos:Int)]) rfl rfl Tryz.underlying109 rfl (m:=4) (by kernel_rfl) rfl (hce _ ((bel.below (by omega) hle).trans (hG.mono (by omega))))) ?_
 refine Dr.alloc rfl rfl (run_zero zero_debentureref17_Word) rfl ?_
 refine Dr.nil ?_
 refine FinX.open (j:=10) rfl ?_
 intro u10
 refine FinX.done (F':=[(0,_),(2,_),(3,_),(9,_),(20,_),(34,_)]) rfl ⟨rfl,rfl,rfl,rfl,rfl,rfl,trivial⟩ ?_
 intro w5 hw5 fw5
 replace bel:=bel.step hw5
 replace k99:=k99.step hw5
 replace k2:=k2.step hw5
 obtain⟨-,g3,rfl,k3,e3⟩:=fw5
 have l3:=Nat.lt_of_lt_of_le zlt e3
 replace e3:=Nat.le_trans zbel e3
 refine Zo 4 k3 ?_
 intro w6 pw6
 replace bel:=bel.put k3 pw6 e3
 replace k99:=k99.put pw6 (by omega)
 replace k2:=k2.put pw6 (by omega)
 replace k3:=pw6.blk
 refine Zk5 0 2 3 9 20 (Zts (Cd.block (Zsr ?_)))
 refine Zf 0 Tryz.underlying109 ?_
 refine Zv (Runs.loadB rfl rfl Tryz.underlying3 rfl k3 rfl) ?_
 refine Zv (Runs.eqlI rfl rfl rfl) ?_
 refine Zm ?_
 refine SeqC.start ?_
 refine Zco (fun hcx=>Runs.fieldB 0 rfl rfl Tryz.underlying109 rfl (by kernel_rfl)) ?_
 refine SeqC.next rfl rfl rfl rfl rfl rfl rfl (fun hcx=>Runs.loadB rfl rfl Tryz.underlying3 rfl k3 rfl) ?_
 refine SeqC.next rfl rfl rfl rfl rfl rfl rfl (fun hcx=>Runs.eqlI rfl rfl rfl) ?_
 refine SeqC.or rfl rfl rfl rfl rfl rfl rfl ?_
 refine Za ?_
 refine Zk6 0 2 3 9 20 35 (Zt ?_)
 refine Cd.cond rfl (fun hc=> ?_) (fun hc=> ?_)
 ·have hc:x.kind=1∨x.kind=2:=by simpa using hc
  have hR:unaryP K.ws S0 E0 p d= .ok (.mk x.kind x.n [] []) (p+1):=by
   rw[hU,if_neg (by omega),if_neg (by omega),hAt]
   rcases hc with h|h
   ·rw[if_pos h,h]
   ·rw[if_neg (by omega),if_pos h,h]
  refine Zsr ?_
  refine Zm ?_
  refine Zv (Runs.nilCheck rfl rfl) ?_
  refine Zf 1 Tryz.underlying69 ?_
  refine Zv (Runs.loadB rfl rfl Tryz.underlying3 rfl k99 rfl) ?_
  refine Za_ ?_
  refine Zv (Runs.nilCheck rfl rfl) ?_
  refine Zf 1 Tryz.underlying69 ?_
  refine Zq k99 ?_
  intro w7 pw7
  replace bel:=bel.put k99 pw7 e99
  replace k2:=k2.put pw7 (by omega)
  replace k3:=k3.put pw7 (by omega)
  replace k99:=pw7.blk
  refine Zk6 0 2 3 9 20 35 (Ztq ?_)
  refine Zf 0 Tryz.underlying109 ?_
  refine Zv (Runs.loadB rfl rfl Tryz.underlying3 rfl k3 rfl) ?_
  refine Zf 2 Tryz.underlying109 ?_
  refine Zv (Runs.loadB rfl rfl Tryz.underlying2 rfl k3 rfl) ?_
  refine Zv (Runs.build rfl rfl (run_build_c _ _ _)) ?_
  refine Zo 4 k2 ?_
  intro w8 pw8
  replace bel:=bel.put k2 pw8 e2
  replace k99:=k99.put pw8 (by omega)
  replace k3:=k3.put pw8 (by omega)
  replace k2:=pw8.blk
  refine Zk6 0 2 3 9 20 35 (Zt (Cd.ret (Post.block_ret (Post.then_ret ?_))))
  refine Post.endC rfl rfl k2 Tryz.underlying35 rfl (m:=4) (by kernel_rfl) rfl (.inl rfl) ?_
  rw[hR]
  exact⟨bel,_,_,_,_,_,_,rfl,⟨fun _=>False,RepE.leaf a1 a2 (by simp) (by simp),fun b hb=>hb.elim⟩,sw0.to hle bel (by rw[hA,Int.natCast_add];exact k99) (by omega) (by omega),rfl,rfl,rfl,rfl,rfl⟩
 have hc12:¬x.kind=1∧¬x.kind=2:=by simpa using hc
 clear hc
 refine Zsr ?_
 refine Zf 0 Tryz.underlying109 ?_
 refine Zv (Runs.loadB rfl rfl Tryz.underlying3 rfl k3 rfl) ?_
 refine Zv (Runs.eqlI rfl rfl rfl) ?_
 refine Zm ?_
 refine SeqC.start ?_
 refine Zco (fun hcx=>Runs.fieldB 1 rfl rfl Tryz.underlying109 rfl (by kernel_rfl)) ?_
 refine SeqC.next rfl rfl rfl rfl rfl rfl rfl (fun hcx=>Runs.loadB rfl rfl Tryz.underlying9 rfl k3 rfl) ?_
 refine SeqC.next rfl rfl rfl rfl rfl rfl rfl (fun hcx=>Runs.eqlL (b:=[33]) rfl rfl rfl a3 (by decide)) ?_
 refine SeqC.next rfl rfl rfl rfl rfl rfl rfl (fun hcx=>Runs.move rfl rfl) ?_
 refine Zco (fun hcx=>Runs.fieldB 1 rfl rfl Tryz.underlying109 rfl (by kernel_rfl)) ?_
 refine SeqC.next rfl rfl rfl rfl rfl rfl rfl (fun hcx=>Runs.loadB rfl rfl Tryz.underlying9 rfl k3 rfl) ?_
 refine SeqC.next rfl rfl rfl rfl rfl rfl rfl (fun hcx=>Runs.eqlL (b:=[45]) rfl rfl rfl a3 (by decide)) ?_
 refine SeqC.orG rfl rfl rfl rfl rfl rfl rfl rfl rfl rfl rfl ?_
 refine SeqC.and rfl rfl rfl rfl rfl rfl rfl ?_
 refine Za ?_
 refine Zk7 0 2 3 9 20 35 56 (Zt ?_)
 refine Cd.cond rfl (fun hc=> ?_) (fun hc=> ?_)
 ·have hc:x.kind=0∧(x.text=[33]∨x.text=[45]):=by simpa using hc
  obtain⟨op,hop⟩:∃op:Int,op=if x.text=[33] then 19 else 20:=⟨_,rfl⟩
  have hop64:I64 op:=by rw[hop];unfold I64;split<;>omega
  have hR:unaryP K.ws S0 E0 p d=aheadP S0 op p d:=by
   rw[hU,hop]
   by_cases h1:x.text=[33]
   ·rw[if_pos ⟨hc.1,h1⟩,if_pos h1]
   ·rw[if_neg (fun h=>h1 h.2),if_neg h1]
    rcases hc.2 with h|h
    ·exact absurd h h1
    ·rw[if_pos ⟨hc.1,h⟩]
  have hen:=enterS_any K hK p d false false _ (sw0.to hle bel (by rw[hA];exact k99) hpl (by omega)) (by omega)
  have k2l:=k2.lt
  have k3l:=k3.lt
  refine Zsr ?_
  refine Zm ?_
  refine Zc (Ze Tryz.func68) hen ?_
  rintro e we ⟨⟨ve,rfl⟩,hfe,swe⟩
  refine⟨_,rfl,?_⟩
  have bele:=bel.call hfe
  have k2e:=k2.fz hfe (by omega)
  have k3e:=k3.fz hfe (by omega)
  have hse:=hfe.size
  clear bel k2 k3 k99 hen
  have bel:=bele
  have k2:=k2e
  have k3:=k3e
  by_cases h64:64<(d:Int)+1
  ·rw[if_pos ⟨h64,rfl⟩] at swe
   have hR2:unaryP K.ws S0 E0 p d= .bad p true:=by
    rw[hR]
    unfold aheadP enterP
    rw[if_pos (by omega)]
    rfl
   have k99:=swe.blk
   refine Zk7 0 2 3 9 20 35 56 (Zts (Zsr ?_))
   refine Zm ?_
   refine Zv (Runs.nilCheck rfl rfl) ?_
   refine Zf 4 Tryz.underlying69 ?_
   refine Zv (Runs.loadB rfl rfl Tryz.underlying4 rfl k99 rfl) ?_
   refine Zk8 0 2 3 9 20 35 56 75 (Zt ?_)
   refine Cd.condT rfl rfl ?_
   refine Zsr ?_
   refine Zv (Runs.build rfl rfl (run_build_E0 _)) ?_
   refine Zo 4 k2 ?_
   intro w7 pw7
   replace bel:=bel.put k2 pw7 e2
   replace k3:=k3.put pw7 (by omega)
   replace k99:=k99.put pw7 (by omega)
   replace k2:=pw7.blk
   refine Zk8 0 2 3 9 20 35 56 75 (Zt (Cd.ret (Post.then_ret (Post.block_ret (Post.then_ret ?_)))))
   refine Post.endC rfl rfl k2 Tryz.underlying35 rfl (m:=4) (by kernel_rfl) rfl (.inl rfl) ?_
   rw[hR2]
   exact⟨bel,_,zeroEx,_,_,_,_,rfl,⟨fun _=>False,RepE.zero _ _,fun b hb=>hb.elim⟩,sw0.to hle bel k99 hpl (by omega),rfl,rfl,rfl,by omega,by omega⟩
  rw[if_neg (fun h=>h64 h.1)] at swe
  have hR2:unaryP K.ws S0 E0 p d=(S0 (p+1) (d+1)).bind fun x q=> .ok (.mk op 0 [] [x]) q:=by
   rw[hR]
   unfold aheadP enterP
   rw[if_neg (by omega),Rs.bind_ok]
  have k99:=swe.blk
  have loc:=swe.rdb
  refine Zk7 0 2 3 9 20 35 56 (Zts (Zsr ?_))
  refine Zm ?_
  refine Zv (Runs.nilCheck rfl rfl) ?_
  refine Zf 4 Tryz.underlying69 ?_
  refine Zv (Runs.loadB rfl rfl Tryz.underlying4 rfl k99 rfl) ?_
  refine Zk8 0 2 3 9 20 35 56 75 (Zt ?_)
  refine Cd.condF rfl rfl ?_
  refine Cd.skip (Ztq ?_)
  refine Zm ?_
  refine Zv (Runs.nilCheck rfl rfl) ?_
  refine Zf 1 Tryz.underlying69 ?_
  refine Zv (Runs.loadB rfl rfl Tryz.underlying3 rfl k99 rfl) ?_
  refine Za_ ?_
  refine Zv (Runs.nilCheck rfl rfl) ?_
  refine Zf 1 Tryz.underlying69 ?_
  refine Zq k99 ?_
  intro w7 pw7
  replace bel:=bel.put k99 pw7 e99
  replace k2:=k2.put pw7 (by omega)
  replace k3:=k3.put pw7 (by omega)
  replace loc:=loc.put k99 pw7 e99
  replace k99:=pw7.blk
  refine Zk8 0 2 3 9 20 35 56 75 (Ztq ?_)
  refine Zm ?_
  have swn:SW K _ (p+1) ((d+1:Nat):Int) false false:=loc.sw (by rw[Int.natCast_add,Int.natCast_add];exact k99) (by omega) (by omega)
  have hcl:=hS (p+1) (d+1) _ (by omega) (by omega) swn
  clear loc k99
  have hsb:=bel.size
  have k2l:=k2.lt
  have k3l:=k3.lt
  refine Zc (Ze Tryz.func75) hcl ?_
  rintro e w6 ⟨hf6,v6,y,p6,o6,dp6,bd6,rfl,⟨S6,hr6,hb6⟩,sw6,hres⟩
  refine⟨_,rfl,?_⟩
  have bel6:=bel.call hf6
  have k26:=k2.fz hf6 (by omega)
  have k36:=k3.fz hf6 (by omega)
  have hs6:=hf6.size
  clear bel k2 k3 hcl
  have bel:=bel6
  have k2:=k26
  have k3:=k36
  have k99:=sw6.blk
  have loc:=sw6.rdb
  have rs:ReS _ w6.heap.size S6 y v6 w6:=⟨hr6,hb6,Nat.le_refl _⟩
  have hones:=hr6.ones
  have ho6:=resQ_o hres
  obtain⟨AX,cX,hvX⟩:=hr6.form
  subst hvX
  refine Zl zero_api_Expr ?_
  intro g4 w8 n4
  have q4:=n4.ge
  have e4:=Nat.le_trans bel.size n4.ge
  have l4:=Nat.lt_of_lt_of_le k99.lt n4.ge
  have l4_k2:=Nat.lt_of_lt_of_le k2.lt n4.ge
  have l4_k3:=Nat.lt_of_lt_of_le k3.lt n4.ge
  replace bel:=bel.step n4.below
  replace k2:=k2.step n4.below
  replace k3:=k3.step n4.below
  replace k99:=k99.step n4.below
  replace loc:=loc.step n4.below
  replace rs:=rs.step n4.below
  have k4:=n4.blk
  refine Zo 4 k4 ?_
  intro w9 pw9
  replace bel:=bel.put k4 pw9 e4
  replace k2:=k2.put pw9 (by omega)
  replace k3:=k3.put pw9 (by omega)
  replace k99:=k99.put pw9 (by omega)
  replace loc:=loc.put k4 pw9 e4
  replace rs:=rs.put k4 pw9 e4
  replace k4:=pw9.blk
  refine Zk9 0 2 3 4 9 20 35 56 75 (Ztq ?_)
  refine Zm ?_
  refine Zv (Runs.nilCheck rfl rfl) ?_
  refine Zf 2 Tryz.underlying69 ?_
  refine Zv (Runs.loadB rfl rfl Tryz.underlying3 rfl k99 rfl) ?_
  refine Zv (Runs.subI rfl rfl rfl (by omega) (by omega)) ?_
  refine Zv (Runs.nilCheck rfl rfl) ?_
  refine Zf 2 Tryz.underlying69 ?_
  refine Zq k99 ?_
  intro w10 pw10
  replace bel:=bel.put k99 pw10 e99
  replace k2:=k2.put pw10 (by omega)
  replace k3:=k3.put pw10 (by omega)
  replace loc:=loc.put k99 pw10 e99
  replace rs:=rs.put k99 pw10 e99
  replace k4:=k4.put pw10 (by omega)
  replace k99:=pw10.blk
  refine Zk9 0 2 3 4 9 20 35 56 75 (Zts (Zsr ?_))
  refine Zf 1 Tryz.underlying109 ?_
  refine Zv (Runs.loadB rfl rfl Tryz.underlying9 rfl k3 rfl) ?_
  refine Zv (Runs.eqlL (b:=[33]) rfl rfl rfl a3 (by decide)) ?_
  refine Zk10 0 2 3 4 9 20 35 56 75 95 (Zt ?_)
  refine Cd.condD rfl (fun hc2=> ?_) (fun hc2=> ?_)
  ·rw[if_pos hc2] at hop
   subst hop
   refine Zsr ?_
   refine Zv (Runs.loadW rfl rfl Tryz.underlying35 rfl k4 (m:=4) (by kernel_rfl) rfl) ?_
   refine Seq.slice (vs:=[_]) (s:=4) rfl rfl rfl Tryz.underlying22 (by kernel_rfl) (zero_api_Expr) (by omega) (by omega) ⟨rfl,trivial⟩ rfl rfl rfl ?_
   intro g97 w11 n97
   have q97:=n97.ge
   have e97:=Nat.le_trans bel.size n97.ge
   have l97:=Nat.lt_of_lt_of_le k4.lt n97.ge
   have l97_k2:=Nat.lt_of_lt_of_le k2.lt n97.ge
   have l97_k3:=Nat.lt_of_lt_of_le k3.lt n97.ge
   have l97_k99:=Nat.lt_of_lt_of_le k99.lt n97.ge
   replace bel:=bel.step n97.below
   replace k2:=k2.step n97.below
   replace k3:=k3.step n97.below
   replace k99:=k99.step n97.below
   replace loc:=loc.step n97.below
   replace rs:=rs.step n97.below
   replace k4:=k4.step n97.below
   have k97:=n97.blk
   refine Zv (Runs.build rfl rfl (run_build_s1 19 _ _)) ?_
   have k2b:=k2
   have rsb:=rs
   have k97b:=k97
   refine Zo 4 k2 ?_
   intro w12 pw12
   replace bel:=bel.put k2 pw12 e2
   replace k3:=k3.put pw12 (by omega)
   replace k99:=k99.put pw12 (by omega)
   replace loc:=loc.put k2 pw12 e2
   replace rs:=rs.put k2 pw12 e2
   replace k4:=k4.put pw12 (by omega)
   replace k97:=k97.put pw12 (by omega)
   replace k2:=pw12.blk
   refine Zk10 0 2 3 4 9 20 35 56 75 95 (Zt (Cd.ret (Post.then_ret (Post.block_ret (Post.then_ret ?_)))))
   refine Post.endC rfl rfl k2 Tryz.underlying35 rfl (m:=4) (by kernel_rfl) rfl (.inl rfl) ?_
   rw[hR2]
   exact⟨bel,_,_,_,_,_,_,rfl,okE_put (RepE.one hop64 rsb.rep k97b) pw12 (fun b hb=>by
    rcases hb with hb|rfl
    ·have:=rsb.bd b hb;have:=rsb.hi_le;omega
    ·have:=k97b.lt;omega),loc.sw k99 sw6.p_le (by omega),resQ_up (f:=fun y=>Ex.mk 19 0 [] [y]) hres⟩
  ·rw[if_neg hc2] at hop
   subst hop
   refine Cd.skip (Ztq ?_)
   refine Zv (Runs.loadW rfl rfl Tryz.underlying35 rfl k4 (m:=4) (by kernel_rfl) rfl) ?_
   refine Seq.slice (vs:=[_]) (s:=4) rfl rfl rfl Tryz.underlying22 (by kernel_rfl) (zero_api_Expr) (by omega) (by omega) ⟨rfl,trivial⟩ rfl rfl rfl ?_
   intro g100 w11 n100
   have q100:=n100.ge
   have e100:=Nat.le_trans bel.size n100.ge
   have l100:=Nat.lt_of_lt_of_le k4.lt n100.ge
   have l100_k2:=Nat.lt_of_lt_of_le k2.lt n100.ge
   have l100_k3:=Nat.lt_of_lt_of_le k3.lt n100.ge
   have l100_k99:=Nat.lt_of_lt_of_le k99.lt n100.ge
   replace bel:=bel.step n100.below
   replace k2:=k2.step n100.below
   replace k3:=k3.step n100.below
   replace k99:=k99.step n100.below
   replace loc:=loc.step n100.below
   replace rs:=rs.step n100.below
   replace k4:=k4.step n100.below
   have k100:=n100.blk
   refine Zv (Runs.build rfl rfl (run_build_s1 20 _ _)) ?_
   have k2b:=k2
   have rsb:=rs
   have k100b:=k100
   refine Zo 4 k2 ?_
   intro w12 pw12
   replace bel:=bel.put k2 pw12 e2
   replace k3:=k3.put pw12 (by omega)
   replace k99:=k99.put pw12 (by omega)
   replace loc:=loc.put k2 pw12 e2
   replace rs:=rs.put k2 pw12 e2
   replace k4:=k4.put pw12 (by omega)
   replace k100:=k100.put pw12 (by omega)
   replace k2:=pw12.blk
   refine Zk10 0 2 3 4 9 20 35 56 75 95 (Zt (Cd.ret (Post.block_ret (Post.then_ret ?_))))
   refine Post.endC rfl rfl k2 Tryz.underlying35 rfl (m:=4) (by kernel_rfl) rfl (.inl rfl) ?_
   rw[hR2]
   exact⟨bel,_,_,_,_,_,_,rfl,okE_put (RepE.one hop64 rsb.rep k100b) pw12 (fun b hb=>by
    rcases hb with hb|rfl
    ·have:=rsb.bd b hb;have:=rsb.hi_le;omega
    ·have:=k100b.lt;omega),loc.sw k99 sw6.p_le (by omega),resQ_up (f:=fun y=>Ex.mk 20 0 [] [y]) hres⟩
 have hcs:¬(x.kind=0∧(x.text=[33]∨x.text=[45])):=by simpa using hc
 have hR:unaryP K.ws S0 E0 p d=atomP K.ws E0 p d:=by
  rw[hU,if_neg (fun h=>hcs ⟨h.1, .inl h.2⟩),if_neg (fun h=>hcs ⟨h.1, .inr h.2⟩)]
 rw[hAt,if_neg hc12.1,if_neg hc12.2] at hR
 clear hc hU hAt hcs
 refine Zsr ?_
 refine Zf 0 Tryz.underlying109 ?_
 refine Zv (Runs.loadB rfl rfl Tryz.underlying3 rfl k3 rfl) ?_
 refine Zv (Runs.eqlI rfl rfl rfl) ?_
 refine Za ?_
 refine Zk8 0 2 3 9 20 35 56 102 (Zt ?_)
 refine Cd.condD rfl (fun h0=> ?_) (fun h0=> ?_)
 ·rw[if_neg (by omega),if_pos h0,within_one] at hR
  have hta:=take_any K hK p d false false [40] _ (sw0.to hle bel (by rw[hA];exact k99) hpl (by omega)) (by decide) (by decide)
  have k2l:=k2.lt
  refine Zsr ?_
  refine Zm ?_
  refine Zc (Ze Tryz.func67) hta ?_
  rintro e w5 ⟨⟨v5,rfl⟩,hf5,sw5⟩
  refine⟨_,rfl,?_⟩
  have bel5:=bel.call hf5
  have k25:=k2.fz hf5 (by omega)
  have hs5:=hf5.size
  clear bel k2 k3 k99 hta
  have bel:=bel5
  have k2:=k25
  have hen:=enterS_any K hK _ _ _ _ _ sw5 (by omega)
  refine Zk8 0 2 3 9 20 35 56 102 (Ztq ?_)
  refine Zm ?_
  refine Zc (Ze Tryz.func68) hen ?_
  rintro e we ⟨⟨ve,rfl⟩,hfe,swe⟩
  refine⟨_,rfl,?_⟩
  have bele:=bel.call hfe
  have k2e:=k2.fz hfe (by omega)
  have hse:=hfe.size
  clear bel k2
  have bel:=bele
  have k2:=k2e
  have hst:∃(q:Nat) (dp bd:Bool),SW K we q (d+1) dp bd∧(bd=false→dp=false∧p<q∧d+1≤64∧unaryP K.ws S0 E0 p d=(E0 q (d+1)).bind fun x q=>(signQ K.ws [41] q).bind fun _ q=> .ok x q)∧(bd=true→unaryP K.ws S0 E0 p d= .bad q dp):=by
   rcases takeQ_sign (ws:=K.ws) (s:=[40]) (q:=p) with ⟨h1,h2⟩|⟨h1,h2⟩
   ·rw[h1] at swe
    dsimp only at swe
    rw[h2,Rs.bind_ok] at hR
    by_cases h64:64<(d:Int)+1
    ·rw[if_pos ⟨h64,rfl⟩] at swe
     refine⟨_,_,_,swe,fun h=>(by cases h),fun _=> ?_⟩
     rw[hR]
     unfold enterP
     rw[if_pos (by omega)]
     rfl
    ·rw[if_neg (fun h=>h64 h.1)] at swe
     refine⟨_,_,_,swe,fun _=>⟨rfl,by omega,by omega,?_⟩,fun h=>by cases h⟩
     rw[hR]
     unfold enterP
     rw[if_neg (by omega),Rs.bind_ok]
   ·rw[h1] at swe
    dsimp only at swe
    rw[h2,Rs.bind_bad] at hR
    rw[if_neg (fun h=>by cases h.2),if_neg (fun h=>by cases h.2)] at swe
    exact⟨_,_,_,swe,fun h=>(by cases h),fun _=>hR⟩
  clear swe sw5 hen
  obtain⟨q,dp,bd,sw,hgood,hbad⟩:=hst
  have hcl:Calls Tryz.prog 33 #[.pointer (some ⟨K.g,0,none⟩), .int .i64 1] we (CR K we.heap.size we (fun x p o dp' bd'=>(bd=false→resQ (E0 q (d+1)) (d+1) x p o dp' bd')∧(bd=true→sameQ q ((d:Int)+1) dp x p o dp' bd')) (okE we)):=by
   cases bd with
   |false=>
    obtain⟨hg1,hg2,hg3,-⟩:=hgood rfl
    subst hg1
    refine(hE q (d+1) we hg2 hg3 (by rw[Int.natCast_add];exact sw)).mono fun e W' h=> ?_
    obtain⟨hf,v,x,p',o',dp',bd',rfl,h2,h3,h4⟩:=h
    exact⟨hf,v,x,p',o',dp',bd',rfl,h2,h3,fun _=>h4,fun h=>by cases h⟩
   |true=>
    refine(exprB_any K hK q _ dp 1 we sw).mono fun e W' h=> ?_
    obtain⟨hb,rfl⟩:=h
    exact⟨Fz.of hb,_,zeroEx,q,_,dp,true,rfl,⟨fun _=>False,RepE.zero _ _,fun b hb=>hb.elim⟩,sw.step hb,fun h=>(by cases h),fun _=>⟨rfl,rfl,rfl,rfl⟩⟩
  have k2l:=k2.lt
  have hsb:=bel.size
  refine Zk8 0 2 3 9 20 35 56 102 (Ztq ?_)
  refine Zm ?_
  refine Zc (Ze Tryz.func33) hcl ?_
  rintro e w6 ⟨hf6,v6,y,p6,o6,dp6,bd6,rfl,⟨S6,hr6,hb6⟩,sw6,hpf1,hpf2⟩
  refine⟨_,rfl,?_⟩
  have bel6:=bel.call hf6
  have k26:=k2.fz hf6 (by omega)
  have hs6:=hf6.size
  have hres:1≤o6∧o6≤66∧resQ (unaryP K.ws S0 E0 p d) d y (takeQ K.ws [41] p6 bd6).1 (o6-1) dp6 (takeQ K.ws [41] p6 bd6).2:=by
   cases bd with
   |false=>
    obtain⟨-,-,-,hR2⟩:=hgood rfl
    have hres:=hpf1 rfl
    have:=resQ_o hres
    rw[hR2]
    exact⟨by omega,by omega,resQ_close (f:=fun y=>y) hres⟩
   |true=>
    obtain⟨rfl,rfl,rfl,rfl⟩:=hpf2 rfl
    rw[hbad rfl,takeQ_bad]
    exact⟨by omega,by omega,rfl,rfl,rfl,by omega,by omega⟩
  clear bel k2 hcl hgood hbad hpf1 hpf2 hR sw
  obtain⟨ho1,ho2,hres⟩:=hres
  have bel:=bel6
  have k2:=k26
  have rs:ReS _ w6.heap.size S6 y v6 w6:=⟨hr6,hb6,Nat.le_refl _⟩
  have hones:=hr6.ones
  obtain⟨AX,cX,hvX⟩:=hr6.form
  subst hvX
  have sw7:=sw6
  clear sw6
  refine Zl zero_api_Expr ?_
  intro g5 w7 n5
  have q5:=n5.ge
  have e5:=Nat.le_trans bel.size n5.ge
  have l5:=Nat.lt_of_lt_of_le k2.lt n5.ge
  replace bel:=bel.step n5.below
  replace k2:=k2.step n5.below
  replace rs:=rs.step n5.below
  replace sw7:=sw7.step n5.below
  have k5:=n5.blk
  refine Zo 4 k5 ?_
  intro w8 pw8
  replace bel:=bel.put k5 pw8 e5
  replace k2:=k2.put pw8 (by omega)
  replace rs:=rs.put k5 pw8 e5
  replace sw7:=sw7.put k5 pw8 e5
  replace k5:=pw8.blk
  refine Zk9 0 2 3 5 9 20 35 56 102 (Ztq ?_)
  refine Zm ?_
  have hta:=take_any K hK p6 o6 dp6 bd6 [41] _ sw7 (by decide) (by decide)
  have k5l:=k5.lt
  refine Zc (Ze Tryz.func67) hta ?_
  rintro e w8 ⟨⟨v8,rfl⟩,hf8,sw8⟩
  refine⟨_,rfl,?_⟩
  have bel8:=bel.call hf8
  have k28:=k2.fz hf8 (by omega)
  have k58:=k5.fz hf8 (by omega)
  have hs8:=hf8.size
  have rs8:ReS we.heap.size w6.heap.size S6 y _ w8:=⟨rs.rep.mono (fun _ h=>h) (fun a ha=>World.cell?_of_block (hf8.block _ (Nat.lt_of_lt_of_le (rs.bd _ ha).2 rs.hi_le) (by have:=(rs.bd _ ha).1;omega))),rs.bd,Nat.le_trans rs.hi_le hs8⟩
  clear bel k2 k5 rs sw7 hta
  have bel:=bel8
  have k2:=k28
  have k5:=k58
  have rs:=rs8
  have k99:=sw8.blk
  have loc:=sw8.rdb
  refine Zk9 0 2 3 5 9 20 35 56 102 (Ztq ?_)
  refine Zm ?_
  refine Zv (Runs.nilCheck rfl rfl) ?_
  refine Zf 2 Tryz.underlying69 ?_
  refine Zv (Runs.loadB rfl rfl Tryz.underlying3 rfl k99 rfl) ?_
  refine Zv (Runs.subI rfl rfl rfl (by omega) (by omega)) ?_
  refine Zv (Runs.nilCheck rfl rfl) ?_
  refine Zf 2 Tryz.underlying69 ?_
  refine Zq k99 ?_
  intro w9 pw9
  replace bel:=bel.put k99 pw9 e99
  replace k2:=k2.put pw9 (by omega)
  replace rs:=rs.put k99 pw9 e99
  replace k5:=k5.put pw9 (by omega)
  replace loc:=loc.put k99 pw9 e99
  replace k99:=pw9.blk
  refine Zk9 0 2 3 5 9 20 35 56 102 (Ztq ?_)
  refine Zv (Runs.loadW rfl rfl Tryz.underlying35 rfl k5 (m:=4) (by kernel_rfl) rfl) ?_
  have rsb:=rs
  refine Zo 4 k2 ?_
  intro w10 pw10
  replace bel:=bel.put k2 pw10 e2
  replace rs:=rs.put k2 pw10 e2
  replace k5:=k5.put pw10 (by omega)
  replace k99:=k99.put pw10 (by omega)
  replace loc:=loc.put k2 pw10 e2
  replace k2:=pw10.blk
  refine Zk9 0 2 3 5 9 20 35 56 102 (Zt (Cd.ret (Post.block_ret (Post.then_ret ?_))))
  refine Post.endC rfl rfl k2 Tryz.underlying35 rfl (m:=4) (by kernel_rfl) rfl (.inl rfl) ?_
  exact⟨bel,_,_,_,_,_,_,rfl,okE_put rsb.rep pw10 (fun b hb=>by have:=rsb.bd b hb;have:=rsb.hi_le;omega),loc.sw k99 sw8.p_le (by omega),hres⟩
 have h3:x.kind=3:=by omega
 rw[if_pos h3] at hR
 refine Zsr ?_
 refine Zf 1 Tryz.underlying109 ?_
 refine Zv (Runs.loadB rfl rfl Tryz.underlying9 rfl k3 rfl) ?_
 refine Zv (Runs.eqlL (b:=dayW) rfl rfl rfl a3 (by decide)) ?_
 refine Za ?_
 refine Zk9 0 2 3 9 20 35 56 102 122 (Zt ?_)
 refine Cd.condD rfl (fun hc=> ?_) (fun hc=> ?_)
 ·rw[if_pos hc] at hR
  refine Zsr ?_
  refine Zm ?_
  refine Zv (Runs.nilCheck rfl rfl) ?_
  refine Zf 1 Tryz.underlying69 ?_
  refine Zv (Runs.loadB rfl rfl Tryz.underlying3 rfl k99 rfl) ?_
  refine Za_ ?_
  refine Zv (Runs.nilCheck rfl rfl) ?_
  refine Zf 1 Tryz.underlying69 ?_
  refine Zq k99 ?_
  intro w7 pw7
  replace bel:=bel.put k99 pw7 e99
  replace k2:=k2.put pw7 (by omega)
  replace k3:=k3.put pw7 (by omega)
  replace k99:=pw7.blk
  refine Zk9 0 2 3 9 20 35 56 102 122 (Ztq ?_)
  refine Zv (Runs.build rfl rfl (run_build_Eop 4 _)) ?_
  refine Zo 4 k2 ?_
  intro w8 pw8
  replace bel:=bel.put k2 pw8 e2
  replace k99:=k99.put pw8 (by omega)
  replace k3:=k3.put pw8 (by omega)
  replace k2:=pw8.blk
  refine Zk9 0 2 3 9 20 35 56 102 122 (Zt (Cd.ret (Post.block_ret (Post.then_ret ?_))))
  refine Post.endC rfl rfl k2 Tryz.underlying35 rfl (m:=4) (by kernel_rfl) rfl (.inl rfl) ?_
  rw[hR]
  exact⟨bel,_,_,_,_,_,_,rfl,⟨fun _=>False,RepE.leaf (by unfold I64;omega) (by unfold I64;omega) (by simp) (by simp),fun b hb=>hb.elim⟩,sw0.to hle bel (by rw[hA,Int.natCast_add];exact k99) (by omega) (by omega),rfl,rfl,rfl,rfl,rfl⟩
 rw[if_neg hc] at hR
 refine Zsr ?_
 refine Zf 1 Tryz.underlying109 ?_
 refine Zv (Runs.loadB rfl rfl Tryz.underlying9 rfl k3 rfl) ?_
 refine Zv (Runs.eqlL (b:=minW) rfl rfl rfl a3 (by decide)) ?_
 refine Za ?_
 refine Zk10 0 2 3 9 20 35 56 102 122 134 (Zt ?_)
 refine Cd.condD rfl (fun hc=> ?_) (fun hc=> ?_)
 ·rw[if_pos hc] at hR
  refine Zsr ?_
  refine Zm ?_
  have har:=args_any K hK 9 2 p d E0 hM _ (sw0.to hle bel (by rw[hA];exact k99) hpl (by omega)) (by omega) hd (by omega) (by unfold I64;omega) hE
  have k2l:=k2.lt
  have hsb:=bel.size
  refine Zc (Ze Tryz.func122) har ?_
  rintro e w6 ⟨hf6,v6,y,p6,o6,dp6,bd6,rfl,⟨S6,hr6,hb6⟩,sw6,hres⟩
  refine⟨_,rfl,?_⟩
  have bel6:=bel.call hf6
  have k26:=k2.fz hf6 (by omega)
  clear bel k2 k3 k99 har
  have bel:=bel6
  have k2:=k26
  have hones:=hr6.ones
  obtain⟨AX,cX,hvX⟩:=hr6.form
  subst hvX
  refine Zo 4 k2 ?_
  intro w7 pw7
  replace bel:=bel.put k2 pw7 e2
  replace k2:=pw7.blk
  refine Zk10 0 2 3 9 20 35 56 102 122 134 (Zt (Cd.ret (Post.block_ret (Post.then_ret ?_))))
  refine Post.endC rfl rfl k2 Tryz.underlying35 rfl (m:=4) (by kernel_rfl) rfl (.inl rfl) ?_
  rw[hR]
  exact⟨bel,_,_,_,_,_,_,rfl,okE_put hr6 pw7 (fun b hb=>by have:=hb6 b hb;omega),sw6.put k26 pw7 trivial,hres⟩
 rw[if_neg hc] at hR
 refine Zsr ?_
 refine Zf 1 Tryz.underlying109 ?_
 refine Zv (Runs.loadB rfl rfl Tryz.underlying9 rfl k3 rfl) ?_
 refine Zv (Runs.eqlL (b:=maxW) rfl rfl rfl a3 (by decide)) ?_
 refine Za ?_
 refine Zk11 0 2 3 9 20 35 56 102 122 134 140 (Zt ?_)
 refine Cd.condD rfl (fun hc=> ?_) (fun hc=> ?_)
 ·rw[if_pos hc] at hR
  refine Zsr ?_
  refine Zm ?_
  have har:=args_any K hK 10 2 p d E0 hM _ (sw0.to hle bel (by rw[hA];exact k99) hpl (by omega)) (by omega) hd (by omega) (by unfold I64;omega) hE
  have k2l:=k2.lt
  have hsb:=bel.size
  refine Zc (Ze Tryz.func122) har ?_
  rintro e w6 ⟨hf6,v6,y,p6,o6,dp6,bd6,rfl,⟨S6,hr6,hb6⟩,sw6,hres⟩
  refine⟨_,rfl,?_⟩
  have bel6:=bel.call hf6
  have k26:=k2.fz hf6 (by omega)
  clear bel k2 k3 k99 har
  have bel:=bel6
  have k2:=k26
  have hones:=hr6.ones
  obtain⟨AX,cX,hvX⟩:=hr6.form
  subst hvX
  refine Zo 4 k2 ?_
  intro w7 pw7
  replace bel:=bel.put k2 pw7 e2
  replace k2:=pw7.blk
  refine Zk11 0 2 3 9 20 35 56 102 122 134 140 (Zt (Cd.ret (Post.block_ret (Post.then_ret ?_))))
  refine Post.endC rfl rfl k2 Tryz.underlying35 rfl (m:=4) (by kernel_rfl) rfl (.inl rfl) ?_
  rw[hR]
  exact⟨bel,_,_,_,_,_,_,rfl,okE_put hr6 pw7 (fun b hb=>by have:=hb6 b hb;omega),sw6.put k26 pw7 trivial,hres⟩
 rw[if_neg hc] at hR
 refine Zsr ?_
 refine Zf 1 Tryz.underlying109 ?_
 refine Zv (Runs.loadB rfl rfl Tryz.underlying9 rfl k3 rfl) ?_
 refine Zv (Runs.eqlL (b:=ifW) rfl rfl rfl a3 (by decide)) ?_
 refine Za ?_
 refine Zk12 0 2 3 9 20 35 56 102 122 134 140 146 (Zt ?_)
 refine Cd.condD rfl (fun hc=> ?_) (fun hc=> ?_)
 ·rw[if_pos hc] at hR
  refine Zsr ?_
  refine Zm ?_
  have har:=args_any K hK 21 3 p d E0 hM _ (sw0.to hle bel (by rw[hA];exact k99) hpl (by omega)) (by omega) hd (by omega) (by unfold I64;omega) hE
  have k2l:=k2.lt
  have hsb:=bel.size
  refine Zc (Ze Tryz.func122) har ?_
  rintro e w6 ⟨hf6,v6,y,p6,o6,dp6,bd6,rfl,⟨S6,hr6,hb6⟩,sw6,hres⟩
  refine⟨_,rfl,?_⟩
  have bel6:=bel.call hf6
  have k26:=k2.fz hf6 (by omega)
  clear bel k2 k3 k99 har
  have bel:=bel6
  have k2:=k26
  have hones:=hr6.ones
  obtain⟨AX,cX,hvX⟩:=hr6.form
  subst hvX
  refine Zo 4 k2 ?_
  intro w7 pw7
  replace bel:=bel.put k2 pw7 e2
  replace k2:=pw7.blk
  refine Zk12 0 2 3 9 20 35 56 102 122 134 140 146 (Zt (Cd.ret (Post.block_ret (Post.then_ret ?_))))
  refine Post.endC rfl rfl k2 Tryz.underlying35 rfl (m:=4) (by kernel_rfl) rfl (.inl rfl) ?_
  rw[hR]
  exact⟨bel,_,_,_,_,_,_,rfl,okE_put hr6 pw7 (fun b hb=>by have:=hb6 b hb;omega),sw6.put k26 pw7 trivial,hres⟩
 rw[if_neg hc] at hR
 refine Zsr ?_
 refine Zf 1 Tryz.underlying109 ?_
 refine Zv (Runs.loadB rfl rfl Tryz.underlying9 rfl k3 rfl) ?_
 refine Zc (Ze Tryz.func69) (refReserved_any x.text _ a3) ?_
 rintro e w6 ⟨rfl,hb6⟩
 refine⟨_,rfl,?_⟩
 replace bel:=bel.step hb6
 replace k99:=k99.step hb6
 replace k2:=k2.step hb6
 replace k3:=k3.step hb6
 refine Za ?_
 refine Zk13 0 2 3 9 20 35 56 102 122 134 140 146 152 (Zt ?_)
 rw[hNm] at hR
 refine Cd.cond rfl (fun hc=> ?_) (fun hc=> ?_)
 ·rw[if_neg (by rw[hc];simp)] at hR
  refine Zsr ?_
  refine Zm ?_
  refine Zv (Runs.nilCheck rfl rfl) ?_
  refine Zf 4 Tryz.underlying69 ?_
  refine Zq k99 ?_
  intro w7 pw7
  replace bel:=bel.put k99 pw7 e99
  replace k2:=k2.put pw7 (by omega)
  replace k3:=k3.put pw7 (by omega)
  replace k99:=pw7.blk
  refine Zk13 0 2 3 9 20 35 56 102 122 134 140 146 152 (Ztq ?_)
  refine Zv (Runs.build rfl rfl (run_build_E0 _)) ?_
  refine Zo 4 k2 ?_
  intro w8 pw8
  replace bel:=bel.put k2 pw8 e2
  replace k99:=k99.put pw8 (by omega)
  replace k3:=k3.put pw8 (by omega)
  replace k2:=pw8.blk
  refine Zk13 0 2 3 9 20 35 56 102 122 134 140 146 152 (Zt (Cd.ret (Post.block_ret (Post.then_ret ?_))))
  refine Post.endC rfl rfl k2 Tryz.underlying35 rfl (m:=4) (by kernel_rfl) rfl (.inl rfl) ?_
  rw[hR]
  exact⟨bel,_,zeroEx,_,_,_,_,rfl,⟨fun _=>False,RepE.zero _ _,fun b hb=>hb.elim⟩,sw0.to hle bel (by rw[hA];exact k99) hpl (by omega),rfl,rfl,rfl,by omega,by omega⟩
 ·rw[if_pos ⟨h3,hc⟩,Rs.bind_ok] at hR
  refine Cd.skip (Post.block_normal (Ztq ?_))
  refine Zm ?_
  refine Zv (Runs.nilCheck rfl rfl) ?_
  refine Zf 1 Tryz.underlying69 ?_
  refine Zv (Runs.loadB rfl rfl Tryz.underlying3 rfl k99 rfl) ?_
  refine Za_ ?_
  refine Zv (Runs.nilCheck rfl rfl) ?_
  refine Zf 1 Tryz.underlying69 ?_
  refine Zq k99 ?_
  intro w7 pw7
  replace bel:=bel.put k99 pw7 e99
  replace k2:=k2.put pw7 (by omega)
  replace k3:=k3.put pw7 (by omega)
  replace k99:=pw7.blk
  refine Zk13 0 2 3 9 20 35 56 102 122 134 140 146 152 (Ztq ?_)
  refine Zf 1 Tryz.underlying109 ?_
  refine Zv (Runs.loadB rfl rfl Tryz.underlying9 rfl k3 rfl) ?_
  refine Zv (Runs.build rfl rfl (run_build_En 3 _ _)) ?_
  refine Zo 4 k2 ?_
  intro w8 pw8
  replace bel:=bel.put k2 pw8 e2
  replace k99:=k99.put pw8 (by omega)
  replace k3:=k3.put pw8 (by omega)
  replace k2:=pw8.blk
  refine Zk13 0 2 3 9 20 35 56 102 122 134 140 146 152 (Zt (Cd.ret ?_))
  refine Post.endC rfl rfl k2 Tryz.underlying35 rfl (m:=4) (by kernel_rfl) rfl (.inl rfl) ?_
  rw[hR]
  exact⟨bel,_,_,_,_,_,_,rfl,⟨fun _=>False,RepE.leaf (by unfold I64;omega) (by unfold I64;omega) a3 (by omega),fun b hb=>hb.elim⟩,sw0.to hle bel (by rw[hA,Int.natCast_add];exact k99) (by omega) (by omega),rfl,rfl,rfl,rfl,rfl⟩
end Go.Proofs.YtaamkfajnpobfaaGreat
namespace Go.Proofs.YtaamkfajnpobfaaGreat
open Go.RowKit
theorem powL_lt {t:List Nat}{i:Nat}{op:Int}(h:powL t=some (i,op)):i<5∧I64 op:=by
 unfold powL at h
 have st:∀(c:Prop) [Decidable c] (z:Nat × Int) (e:Option (Nat × Int)),(if c then some z else e)=some (i,op)→z=(i,op)∨e=some (i,op):=fun c _ z e h=>by
  split at h
  ·injection h with h;exact .inl h
  ·exact .inr h
 rcases st _ _ _ h with h|h
 ·injection h with h1 h2
  subst h1 h2
  exact⟨by omega,by unfold I64;omega⟩
 rcases st _ _ _ h with h|h
 ·injection h with h1 h2
  subst h1 h2
  exact⟨by omega,by unfold I64;omega⟩
 rcases st _ _ _ h with h|h
 ·injection h with h1 h2
  subst h1 h2
  exact⟨by omega,by unfold I64;omega⟩
 rcases st _ _ _ h with h|h
 ·injection h with h1 h2
  subst h1 h2
  exact⟨by omega,by unfold I64;omega⟩
 rcases st _ _ _ h with h|h
 ·injection h with h1 h2
  subst h1 h2
  exact⟨by omega,by unfold I64;omega⟩
 rcases st _ _ _ h with h|h
 ·injection h with h1 h2
  subst h1 h2
  exact⟨by omega,by unfold I64;omega⟩
 rcases st _ _ _ h with h|h
 ·injection h with h1 h2
  subst h1 h2
  exact⟨by omega,by unfold I64;omega⟩
 rcases st _ _ _ h with h|h
 ·injection h with h1 h2
  subst h1 h2
  exact⟨by omega,by unfold I64;omega⟩
 rcases st _ _ _ h with h|h
 ·injection h with h1 h2
  subst h1 h2
  exact⟨by omega,by unfold I64;omega⟩
 rcases st _ _ _ h with h|h
 ·injection h with h1 h2
  subst h1 h2
  exact⟨by omega,by unfold I64;omega⟩
 rcases st _ _ _ h with h|h
 ·injection h with h1 h2
  subst h1 h2
  exact⟨by omega,by unfold I64;omega⟩
 rcases st _ _ _ h with h|h
 ·injection h with h1 h2
  subst h1 h2
  exact⟨by omega,by unfold I64;omega⟩
 ·cases h
theorem powZ_at (ws:List Wd)(q:Nat):∃pz oz:Int,powZ (txtQ ws q false 0)=(pz,oz)∧((pz=0∧oz=0∧powAt ws q=none)∨∃i:Nat,pz=(i:Int)+1∧i<5∧powAt ws q=some (i,oz)∧I64 oz):=by
 have h1:txtQ ws q false 0=if(wAt ws q).kind=0 then(wAt ws q).text else []:=rfl
 rw[h1]
 unfold powAt
 by_cases hk:(wAt ws q).kind=0
 ·rw[if_pos hk,if_pos hk]
  unfold powZ
  cases hp:powL (wAt ws q).text with
  |none=>exact⟨0,0,rfl, .inl ⟨rfl,rfl,rfl⟩⟩
  |some z=>
   obtain⟨i,op⟩:=z
   obtain⟨h2,h3⟩:=powL_lt hp
   exact⟨_,_,rfl, .inr ⟨i,rfl,h2,rfl,h3⟩⟩
 ·rw[if_neg hk,if_neg hk]
  exact⟨0,0,by decide, .inl ⟨rfl,rfl,rfl⟩⟩
theorem powAt_lt {ws:List Wd}{q:Nat}{z:Nat × Int}(h:powAt ws q=some z):q<ws.length:=by
 rcases Nat.lt_or_ge q ws.length with hp|hp
 ·exact hp
 ·unfold powAt at h
  rw[wAt_none hp] at h
  cases h
structure ExI (K:Ctx)(R:Rs Ex)(d lvl p0:Nat)(w:World)(g4 g5:Nat)(q:Nat)(o:Int)(dp bd:Bool)(x:Ex)(A:Option Addr)(c:Nat)(m:Int)(wr:World):Prop where
 sw:SW K wr q o dp bd
 bel:Fz w.heap.size K.g w wr
 k4:Blk wr g4 35 #[.int .i64 0, .int .i64 0, .string {data:= #[]}, .slice none 0 0]
 k5:Blk wr g5 35 (exC x A c)
 rs:MadeE g4 wr.heap.size g5 x (.agg (exC x A c)) wr
 good:bd=false→o=d∧dp=false∧p0<q∧∃k:Nat,lvl+k≤5∧(m=(lvl+k:Nat)∨(m=9∧lvl+k=5))∧R=goP (fullP K.ws) lvl k x q d
 bad:bd=true→R= .bad q dp∧(d:Int)≤o∧o≤d+1
theorem exprC_any (K:Ctx)(hK:K.Ok)(lvl p d:Nat)(hlvl:lvl≤5)(w:World)(sw0:SW K w p d false false)(hd:d≤64)
  (hS:∀W,SW K W p d false false→Calls Tryz.prog 75 #[.pointer (some ⟨K.g,0,none⟩)] W (CR K W.heap.size W (resQ ((fullP K.ws).S p d) d) (okE W)))
  (hE:∀(l q d:Nat) W,p<q→l≤5→d≤64→SW K W q d false false→Calls Tryz.prog 33 #[.pointer (some ⟨K.g,0,none⟩), .int .i64 ((l:Int)+1)] W (CR K W.heap.size W (resQ ((fullP K.ws).E l q d) d) (okE W))):
  Calls Tryz.prog 33 #[.pointer (some ⟨K.g,0,none⟩), .int .i64 ((lvl:Int)+1)] w (CR K w.heap.size w (resQ ((fullP K.ws).E lvl p d) d) (okE w)):=by
 have bel:=Fz.refl w.heap.size K.g w
 have k99:=sw0.blk
 have e99:K.g=K.g:=rfl
 have hlt:=sw0.blk.lt
 have hle:=hK.le
 have hlen:=hK.len
 obtain⟨k0,hk0⟩:∃k0,lvl+k0=5:=⟨5-lvl,by omega⟩
 have hR0:=full_go K.ws p d k0 lvl hk0
 obtain⟨R,hR⟩:∃R,R=(fullP K.ws).E lvl p d:=⟨_,rfl⟩
 rw[←hR] at hR0⊢
 clear hR
 refine Zs 56 Tryz.func33 ?_
 refine Zsr ?_
 refine Zl zero_api_Expr ?_
 intro g4 w1 n4
 have e4:=Nat.le_trans bel.size n4.ge
 have l4:=Nat.lt_of_lt_of_le k99.lt n4.ge
 replace bel:=bel.step n4.below
 replace k99:=k99.step n4.below
 have k4:=n4.blk
 refine Zk3 0 1 4 (Ztq ?_)
 refine Zm ?_
 have hcl:=hS _ (sw0.to hle bel k99 sw0.p_le (by omega))
 have k4l:=k4.lt
 have hsb:=bel.size
 clear k99
 refine Zc (Ze Tryz.func75) hcl ?_
 rintro e w6 ⟨hf6,v6,y,p6,o6,dp6,bd6,rfl,⟨S6,hr6,hb6⟩,sw,hres⟩
 refine⟨_,rfl,?_⟩
 have bel6:=bel.call hf6
 have k46:=k4.fz hf6 (by omega)
 clear bel k4 hcl
 have bel:=bel6
 have k4:=k46
 have hs6:=hf6.size
 obtain⟨AX,cX,hvX⟩:=hr6.form
 subst hvX
 have rs:MadeE g4 w6.heap.size 0 y (.agg (exC y AX cX)) w6:=⟨Nat.le_refl _,S6,hr6,fun b h=>⟨by have:=(hb6 b h).1;omega,(hb6 b h).2,by have:=(hb6 b h).1;omega⟩⟩
 refine Zl zero_api_Expr ?_
 intro g5 w2 n5
 have q5:=n5.ge
 have e5:=Nat.le_trans bel.size n5.ge
 have l5:=Nat.lt_of_lt_of_le k4.lt n5.ge
 replace bel:=bel.step n5.below
 replace k4:=k4.step n5.below
 replace sw:=sw.step n5.below
 replace rs:=rs.step n5.below
 have k5:=n5.blk
 refine Zo 4 k5 ?_
 intro w3 pw3
 replace bel:=bel.put k5 pw3 e5
 replace k4:=k4.put pw3 (by omega)
 replace sw:=sw.put k5 pw3 e5
 replace rs:=rs.put k5 pw3 e5
 replace k5:=pw3.blk
 refine Zk4 0 1 4 5 (Ztq ?_)
 refine Za ?_
 refine Zk5 0 1 4 5 6 (Zts (Cd.block ?_))
 have h45:g4<g5:=by omega
 have hg4:w.heap.size≤g4:=by omega
 refine Cd.loop (σ:=Nat × Int × Bool × Bool × Ex × (Option Addr × Nat) × Int) (fun s=>[(0, .pointer (some ⟨K.g,0,none⟩)),(1, .int .i64 ((lvl:Int)+1)),(4, .pointer (some ⟨g4,0,none⟩)),(5, .pointer (some ⟨g5,0,none⟩)),(6, .int .i64 s.2.2.2.2.2.2)])
  (fun s wr=>ExI K R d lvl p w g4 g5 s.1 s.2.1 s.2.2.1 s.2.2.2.1 s.2.2.2.2.1 s.2.2.2.2.2.1.1 s.2.2.2.2.2.1.2 s.2.2.2.2.2.2 wr) (fun s=>if s.2.2.2.1=true then 0 else K.ws.length-s.1+1) (p6,o6,dp6,bd6,y,(AX,cX),9)
  ⟨sw,bel,k4,k5,(rs.but q5).up,fun hb=> ?_,fun hb=> ?_⟩ ⟨rfl,rfl,rfl,rfl,rfl,trivial⟩ ?_
 ·dsimp only at hb⊢
  subst hb
  unfold resQ at hres
  cases hr:(fullP K.ws).S p d with
  |out=>rw[hr] at hres;exact hres.elim
  |bad a b=>rw[hr] at hres;cases hres.2.2.1
  |ok a b=>
   rw[hr] at hres hR0
   obtain⟨rfl,rfl,rfl,rfl,-⟩:=hres
   exact⟨rfl,rfl,(full_mono K.ws).S _ _ _ _ hr,k0,by omega, .inr ⟨rfl,hk0⟩,hR0⟩
 ·dsimp only at hb⊢
  subst hb
  unfold resQ at hres
  cases hr:(fullP K.ws).S p d with
  |out=>rw[hr] at hres;exact hres.elim
  |ok a b=>rw[hr] at hres;cases hres.2.2.2.2
  |bad a b=>
   rw[hr] at hres hR0
   obtain⟨rfl,rfl,-,h1,h2⟩:=hres
   exact⟨hR0,h1,h2⟩
 clear sw bel k4 k5 rs hres hR0
 rintro⟨q,o,dp,bd,x,⟨A,c⟩,m⟩ wr ⟨sw,bel,k4,k5,rs,hgood,hbad⟩
 dsimp only at sw k5 rs hgood hbad⊢
 have k99:=sw.blk
 have rdw:=sw.rdb
 have hsb:=bel.size
 have k5l:=k5.lt
 refine Cd.seq (Zsr ?_)
 refine Zm ?_
 refine Zv (Runs.nilCheck rfl rfl) ?_
 refine Zf 4 Tryz.underlying69 ?_
 refine Zv (Runs.loadB rfl rfl Tryz.underlying4 rfl k99 rfl) ?_
 refine Zv (Runs.not rfl rfl) ?_
 refine Zk6 0 1 4 5 6 16 (Zt ?_)
 refine Cd.cond rfl (fun hc=> ?_) (fun hc=> ?_)
 ·obtain rfl:bd=false:=by simpa using hc
  obtain⟨rfl,rfl,hpq,k,hk5,hm,hRg⟩:=hgood rfl
  have hm9:0≤m∧m≤9:=by omega
  have htx:=text_any K hK q d false false 0 wr sw (by omega)
  have htl:=txtQ_lt hK q false 0
  obtain⟨pz,oz,hpz,hpo⟩:=powZ_at K.ws q
  refine Cd.skip (Zt (Cd.block (Zsr ?_)))
  refine Zm ?_
  refine Zc (Ze Tryz.func66) (htx) ?_
  rintro e w7 ⟨rfl,hb7⟩
  refine⟨_,rfl,?_⟩
  replace bel:=bel.step hb7
  replace k4:=k4.step hb7
  replace rs:=rs.step hb7
  replace k5:=k5.step hb7
  replace k99:=k99.step hb7
  replace rdw:=rdw.step hb7
  have hpw:=power_any (txtQ K.ws q false 0) w7 htl
  rw[hpz] at hpw
  refine Zc (Ze Tryz.func76) (hpw) ?_
  rintro e w8 ⟨rfl,hb8⟩
  refine⟨_,rfl,?_⟩
  replace bel:=bel.step hb8
  replace k4:=k4.step hb8
  replace rs:=rs.step hb8
  replace k5:=k5.step hb8
  replace k99:=k99.step hb8
  replace rdw:=rdw.step hb8
  have hpz5:0≤pz∧pz≤5:=by rcases hpo with h|⟨i,h1,h2,-⟩<;>omega
  refine Zm ?_
  refine Zv (Runs.extract rfl rfl rfl) ?_
  refine Zv (Runs.extract rfl rfl rfl) ?_
  refine Za ?_
  refine Za ?_
  refine Zk8 0 1 4 5 6 7 8 16 (Zts (Zsr ?_))
  refine Zm ?_
  refine Zm ?_
  refine Zv (Runs.lss rfl rfl rfl) ?_
  refine Zm ?_
  refine SeqC.start ?_
  refine Zco (fun hcx=>Runs.move rfl rfl) ?_
  refine SeqC.next rfl rfl rfl rfl rfl rfl rfl (fun hcx=>Runs.eqlI rfl rfl rfl) ?_
  refine SeqC.or rfl rfl rfl rfl rfl rfl rfl ?_
  refine Zm ?_
  refine SeqC.start ?_
  refine Zco (fun hcx=>Runs.move rfl rfl) ?_
  refine SeqC.next rfl rfl rfl rfl rfl rfl rfl (fun hcx=>Runs.move rfl rfl) ?_
  refine SeqC.next rfl rfl rfl rfl rfl rfl rfl (fun hcx=>Runs.gtr rfl rfl rfl) ?_
  refine SeqC.or rfl rfl rfl rfl rfl rfl rfl ?_
  refine Zk9 0 1 4 5 6 7 8 16 34 (Zt ?_)
  refine Cd.cond rfl (fun hc2=> ?_) (fun hc2=> ?_)
  ·have hc2:pz<(lvl:Int)+1∨pz=0∨m<pz:=by simpa[or_assoc,and_assoc] using hc2
   have hRn:R= .ok x q:=by
    rw[hRg]
    refine goP_none K.ws lvl k x d hk5 fun i op hi=> ?_
    rcases hpo with ⟨-,-,h⟩|⟨j,h1,h2,h3,-⟩
    ·rw[h] at hi;cases hi
    ·rw[h3] at hi
     injection hi with hi
     injection hi with hi _
     omega
   have k4b:=k4
   have k4l:=k4.lt
   refine Zsr ?_
   refine Zv (Runs.loadW rfl rfl Tryz.underlying35 rfl k5 (m:=4) (by kernel_rfl) rfl) ?_
   refine Zo 4 k4 ?_
   intro w4 pw4
   replace bel:=bel.put k4 pw4 e4
   replace rs:=rs.put k4 pw4 e4
   replace k5:=k5.put pw4 (by omega)
   replace k99:=k99.put pw4 (by omega)
   replace rdw:=rdw.put k4 pw4 e4
   replace k4:=pw4.blk
   refine Zk9 0 1 4 5 6 7 8 16 34 (Zt (Cd.ret (Post.then_ret (Post.block_ret (Post.round_ret (Post.block_ret (Post.then_ret ?_)))))))
   refine Post.endC rfl rfl k4 Tryz.underlying35 rfl (m:=4) (by kernel_rfl) rfl (.inl rfl) ?_
   obtain⟨hhi,S',hrep',hb'⟩:=rs
   rw[hRn]
   exact⟨bel,_,_,_,_,_,_,rfl,⟨S',hrep',fun b h=>⟨by have:=(hb' b h).1;omega,by have:=(hb' b h).2.1;omega⟩⟩,rdw.sw k99 sw.p_le sw.o_le,rfl,rfl,rfl,rfl,rfl⟩
  have hc2:¬(pz<(lvl:Int)+1∨pz=0∨m<pz):=by simpa[or_assoc,and_assoc] using hc2
  obtain⟨i,rfl,hi5,hpow,hoz⟩:∃i:Nat,pz=(i:Int)+1∧i<5∧powAt K.ws q=some (i,oz)∧I64 oz:=by
   rcases hpo with ⟨h,-,-⟩|h
   ·exact absurd (.inr (.inl h)) hc2
   ·exact h
  have hq1:=powAt_lt hpow
  have hR2:=goP_step K.ws lvl hpow k x d hk5 (by omega) (by omega)
  rw[←hRg] at hR2
  have k4l:=k4.lt
  refine Cd.skip (Ztq ?_)
  refine Zm ?_
  refine Zv (Runs.nilCheck rfl rfl) ?_
  refine Zf 1 Tryz.underlying69 ?_
  refine Zv (Runs.loadB rfl rfl Tryz.underlying3 rfl k99 rfl) ?_
  refine Za_ ?_
  refine Zv (Runs.nilCheck rfl rfl) ?_
  refine Zf 1 Tryz.underlying69 ?_
  refine Zq k99 ?_
  intro w4 pw4
  replace bel:=bel.put k99 pw4 e99
  replace k4:=k4.put pw4 (by omega)
  replace rs:=rs.put k99 pw4 e99
  replace k5:=k5.put pw4 (by omega)
  replace rdw:=rdw.put k99 pw4 e99
  replace k99:=pw4.blk
  refine Zk9 0 1 4 5 6 7 8 16 34 (Ztq ?_)
  refine Zm ?_
  refine Zm ?_
  refine Za_ ?_
  have swn:SW K _ (q+1) (d:Int) false false:=rdw.sw (by rw[Int.natCast_add];exact k99) (by omega) (by omega)
  have hcl:=hE (i+1) (q+1) d _ (by omega) (by omega) hd swn
  have hcast:((i+1:Nat):Int)+1=(i:Int)+1+1:=by omega
  rw[hcast] at hcl
  have hsb3:=bel.size
  have k5l3:=k5.lt
  clear rdw k99
  refine Zc (Ze Tryz.func33) hcl ?_
  rintro e wq ⟨hf6,v6,y,p6,o6,dp6,bd6,rfl,⟨S6,hr6,hb6⟩,swq,hres⟩
  refine⟨_,rfl,?_⟩
  have bel6:=bel.call hf6
  have k46:=k4.fz hf6 (by omega)
  have k56:=k5.fz hf6 (by omega)
  have rs6:=rs.fz hf6 (by omega)
  have hs6:=hf6.size
  have hhi6:=rs6.1
  clear bel k4 k5 rs hcl swn sw
  have bel:=bel6
  have k4:=k46
  have k5:=k56
  have rs:=rs6
  have sw:=swq
  have ry:ReS _ wq.heap.size S6 y v6 wq:=⟨hr6,hb6,Nat.le_refl _⟩
  have hones:=hr6.ones
  obtain⟨AY,cY,hvY⟩:=hr6.form
  subst hvY
  have k5l:=k5.lt
  refine Zl zero_api_Expr ?_
  intro g9 w5 n9
  have q9:=n9.ge
  have e9:=Nat.le_trans bel.size n9.ge
  have l9:=Nat.lt_of_lt_of_le k5.lt n9.ge
  have l9_k4:=Nat.lt_of_lt_of_le k4.lt n9.ge
  replace bel:=bel.step n9.below
  replace k4:=k4.step n9.below
  replace rs:=rs.step n9.below
  replace k5:=k5.step n9.below
  replace sw:=sw.step n9.below
  replace ry:=ry.step n9.below
  have k9:=n9.blk
  refine Zo 4 k9 ?_
  intro w6 pw6
  replace bel:=bel.put k9 pw6 e9
  replace k4:=k4.put pw6 (by omega)
  replace rs:=rs.put k9 pw6 e9
  replace k5:=k5.put pw6 (by omega)
  replace sw:=sw.put k9 pw6 e9
  replace ry:=ry.put k9 pw6 e9
  replace k9:=pw6.blk
  refine Zk10 0 1 4 5 6 7 8 9 16 34 (Ztq ?_)
  refine Zm ?_
  refine Zv (Runs.loadW rfl rfl Tryz.underlying35 rfl k5 (m:=4) (by kernel_rfl) rfl) ?_
  refine Zv (Runs.loadW rfl rfl Tryz.underlying35 rfl k9 (m:=4) (by kernel_rfl) rfl) ?_
  refine Seq.slice (vs:=[_,_]) (s:=4) rfl rfl rfl Tryz.underlying22 (by kernel_rfl) (zero_api_Expr) (by omega) (by omega) ⟨rfl,rfl,trivial⟩ rfl rfl rfl ?_
  intro g50 w7 n50
  have q50:=n50.ge
  have e50:=Nat.le_trans bel.size n50.ge
  have l50:=Nat.lt_of_lt_of_le k9.lt n50.ge
  have l50_k4:=Nat.lt_of_lt_of_le k4.lt n50.ge
  have l50_k5:=Nat.lt_of_lt_of_le k5.lt n50.ge
  replace bel:=bel.step n50.below
  replace k4:=k4.step n50.below
  replace rs:=rs.step n50.below
  replace k5:=k5.step n50.below
  replace sw:=sw.step n50.below
  replace ry:=ry.step n50.below
  replace k9:=k9.step n50.below
  have k50:=n50.blk
  refine Zv (Runs.build rfl rfl (run_build_s2 oz _ _)) ?_
  refine Zo 4 k5 ?_
  intro w8 pw8
  replace bel:=bel.put k5 pw8 e5
  replace k4:=k4.put pw8 (by omega)
  replace rs:=rs.put k5 pw8 e5
  replace sw:=sw.put k5 pw8 e5
  replace ry:=ry.put k5 pw8 e5
  replace k9:=k9.put pw8 (by omega)
  replace k50:=k50.put pw8 (by omega)
  replace k5:=pw8.blk
  refine Zk10 0 1 4 5 6 7 8 9 16 34 (Ztq ?_)
  have hadd50:(⟨g50,0,none⟩:Addr).add=fun j=>⟨g50,j,none⟩:=by funext j;unfold Addr.add;split<;>simp_all
  have k5x:Blk w8 g5 35 (exC (mk2 oz x y) (some ⟨g50,0,none⟩) 2):=k5
  have rs2:MadeE g4 w8.heap.size g5 (mk2 oz x y) (.agg (exC (mk2 oz x y) (some ⟨g50,0,none⟩) 2)) w8:=by
   obtain⟨hhi,Sl,hrepl,hbl⟩:=rs
   refine⟨Nat.le_refl _,fun b=>Sl b∨S6 b∨b=g50,RepE.mk (args:=[x,y]) (vs:=[.agg (exC x A c), .agg (exC y AY cY)]) rfl (by simp) hoz (by unfold I64;omega) (by simp) (by simp) (fun i e v h1 h2=> ?_) (fun _=>⟨⟨g50,0,none⟩,rfl, .inr (.inr rfl),fun j u hu=> ?_⟩),fun b hb=> ?_⟩
   ·match i,h1,h2 with
    |0,h1,h2=>
     simp at h1 h2
     subst h1 h2
     exact hrepl.mono (fun _ h=> .inl h) (fun _ _=>rfl)
    |1,h1,h2=>
     simp at h1 h2
     subst h1 h2
     exact ry.rep.mono (fun _ h=> .inr (.inl h)) (fun _ _=>rfl)
    |i+2,h1,_=>simp at h1
   ·rw[hadd50,k50.cell j]
    have hu2:(flatC [Value.agg (exC x A c),Value.agg (exC y AY cY)]).toArray[j]? =some u:=by simpa using hu
    exact hu2
   ·have hhiy:=ry.hi_le
    rcases hb with hb|hb|rfl
    ·obtain⟨h1,h2,h3⟩:=hbl b hb
     exact⟨h1,by omega,h3⟩
    ·obtain⟨h1,h2⟩:=hb6 b hb
     exact⟨by omega,by omega,by omega⟩
    ·exact⟨by omega,k50.lt,by omega⟩
  clear rs ry k5
  have rs:=rs2
  have k5:=k5x
  have hround:∀m':Int,(m'=if i=2 then 2 else(i:Int)+1)→ExI K R d lvl p w g4 g5 p6 o6 dp6 bd6 (mk2 oz x y) (some ⟨g50,0,none⟩) 2 m' w8∧(if bd6=true then 0 else K.ws.length-p6+1)<K.ws.length-q+1:=by
   intro m' hm'
   refine⟨⟨sw,bel,k4,k5,rs,fun hb=> ?_,fun hb=> ?_⟩,?_⟩
   ·subst hb
    unfold resQ at hres
    cases hr:(fullP K.ws).E (i+1) (q+1) d with
    |out=>rw[hr] at hres;exact hres.elim
    |bad a b=>rw[hr] at hres;cases hres.2.2.1
    |ok a b=>
     rw[hr] at hres hR2
     obtain⟨rfl,rfl,rfl,rfl,-⟩:=hres
     rw[Rs.bind_ok] at hR2
     have hmo:=(full_mono K.ws).E _ _ _ _ _ hr
     refine⟨rfl,rfl,by omega,_,?_,?_,hR2⟩
     ·split<;>omega
     ·rw[hm']
      by_cases h2:i=2
      ·rw[if_pos h2,if_pos h2];left;omega
      ·rw[if_neg h2,if_neg h2];left;omega
   ·subst hb
    unfold resQ at hres
    cases hr:(fullP K.ws).E (i+1) (q+1) d with
    |out=>rw[hr] at hres;exact hres.elim
    |ok a b=>rw[hr] at hres;cases hres.2.2.2.2
    |bad a b=>
     rw[hr] at hres hR2
     obtain⟨rfl,rfl,-,h1,h2⟩:=hres
     exact⟨hR2,h1,h2⟩
   ·unfold resQ at hres
    cases hr:(fullP K.ws).E (i+1) (q+1) d with
    |out=>rw[hr] at hres;exact hres.elim
    |bad a b=>
     rw[hr] at hres
     rw[hres.2.2.1,if_pos rfl]
     omega
    |ok a b=>
     rw[hr] at hres
     have hmo:=(full_mono K.ws).E _ _ _ _ _ hr
     obtain⟨-,h1,-,-,h2⟩:=hres
     rw[h2,if_neg (by simp)]
     have:=sw.p_le
     omega
  refine Zm ?_
  refine Za ?_
  refine Zk10 0 1 4 5 6 7 8 9 16 34 (Ztq ?_)
  refine Zm ?_
  refine Zv (Runs.eqlI rfl rfl rfl) ?_
  refine Zk11 0 1 4 5 6 7 8 9 16 34 54 (Zt ?_)
  refine Cd.condD rfl (fun h3=> ?_) (fun h3=> ?_)
  ·obtain⟨hI,hlt2⟩:=hround 2 (by rw[if_pos (by omega)])
   refine Zr ?_
   refine Za ?_
   refine Zk11 0 1 4 5 6 7 8 9 16 34 54 (Post.block_normal ?_)
   exact Post.round (p6,o6,dp6,bd6,mk2 oz x y,(some ⟨g50,0,none⟩,2),2) ⟨rfl,rfl,rfl,rfl,rfl,trivial⟩ hI hlt2
  ·obtain⟨hI,hlt2⟩:=hround ((i:Int)+1) (by rw[if_neg (by omega)])
   refine Cd.skip (Post.block_normal ?_)
   exact Post.round (p6,o6,dp6,bd6,mk2 oz x y,(some ⟨g50,0,none⟩,2),(i:Int)+1) ⟨rfl,rfl,rfl,rfl,rfl,trivial⟩ hI hlt2
 ·obtain rfl:bd=true:=by simpa using hc
  obtain⟨hRb,h1,h2⟩:=hbad rfl
  have k4l:=k4.lt
  refine Cd.exit (Post.then_exit (Post.round_exit (Post.block_exit (Ztq ?_))))
  refine Zv (Runs.loadW rfl rfl Tryz.underlying35 rfl k5 (m:=4) (by kernel_rfl) rfl) ?_
  refine Zo 4 k4 ?_
  intro w4 pw4
  replace bel:=bel.put k4 pw4 e4
  replace rs:=rs.put k4 pw4 e4
  replace k5:=k5.put pw4 (by omega)
  replace k99:=k99.put pw4 (by omega)
  replace rdw:=rdw.put k4 pw4 e4
  replace k4:=pw4.blk
  refine Zk6 0 1 4 5 6 16 (Zt (Cd.ret ?_))
  refine Post.endC rfl rfl k4 Tryz.underlying35 rfl (m:=4) (by kernel_rfl) rfl (.inl rfl) ?_
  obtain⟨hhi,S',hrep',hb'⟩:=rs
  rw[hRb]
  exact⟨bel,_,_,_,_,_,_,rfl,⟨S',hrep',fun b h=>⟨by have:=(hb' b h).1;omega,by have:=(hb' b h).2.1;omega⟩⟩,rdw.sw k99 sw.p_le sw.o_le,rfl,rfl,rfl,h1,h2⟩
theorem clm_all (K:Ctx)(hK:K.Ok)(hW:WsB K.ws):∀n p,K.ws.length-p<n→(∀(d:Nat) W,d≤64→SW K W p d false false→Calls Tryz.prog 75 #[.pointer (some ⟨K.g,0,none⟩)] W (CR K W.heap.size W (resQ ((fullP K.ws).S p d) d) (okE W)))∧
  (∀(l d:Nat) W,l≤5→d≤64→SW K W p d false false→Calls Tryz.prog 33 #[.pointer (some ⟨K.g,0,none⟩), .int .i64 ((l:Int)+1)] W (CR K W.heap.size W (resQ ((fullP K.ws).E l p d) d) (okE W)))
 |0,p,h=>by omega
 |n+1,p,h=>by
  have ih:=clm_all K hK hW n
  have hup:∀q,p<q→q≤K.ws.length→K.ws.length-q<n:=fun q h1 h2=>by omega
  have hS:∀(d:Nat) W,d≤64→SW K W p d false false→Calls Tryz.prog 75 #[.pointer (some ⟨K.g,0,none⟩)] W (CR K W.heap.size W (resQ ((fullP K.ws).S p d) d) (okE W)):=fun d W hd sw=>by
   rw[full_S]
   exact single_any K hK hW p d _ _ ((full_mono K.ws).E 0) W sw hd (fun q d W h1 h2 h3=>(ih q (hup q h1 h3.p_le)).1 d W h2 h3) (fun q d W h1 h2 h3=>(ih q (hup q h1 h3.p_le)).2 0 d W (by omega) h2 h3)
  exact⟨hS,fun l d W hl hd sw=>exprC_any K hK l p d hl W sw hd (fun W h=>hS d W hd h) (fun l q d W h1 h2 h3 h4=>(ih q (hup q h1 h4.p_le)).2 l d W h2 h3 h4)⟩
end Go.Proofs.YtaamkfajnpobfaaGreat
namespace Go.Proofs.YtaamkfajnpobfaaGreat
open Go.RowKit
def w8:List (List Nat):=[[111,110,101],[103,105,118,101],[97,110,100],[111,114],[115,99,97,108,101],[119,104,101,110],[117,110,116,105,108],[97,110,121,116,105,109,101]]
def opTo (t:List Nat)(i:Nat):Int:=if w8.idxOf t<i then(w8.idxOf t:Int)+2 else 0
section
variable {β:Type}
def Stt (p0:Nat)(R:Rs β)(d:Nat)(cont:Nat→Rs β)(q:Nat)(o:Int)(dp bd:Bool):Prop:=
 (bd=false→o=(d:Int)+1∧dp=false∧p0<q∧d+1≤64∧R=cont q)∧(bd=true→R= .bad q dp∧(d:Int)+1≤o∧o≤(d:Int)+2)
variable {p0 q d:Nat} {R:Rs β} {o:Int} {dp bd:Bool}
theorem Stt.o_le {cont:Nat→Rs β}(h:Stt p0 R d cont q o dp bd)(hd:d≤64):1≤o∧o≤66:=by
 cases bd with
 |false=>have:=(h.1 rfl).1;omega
 |true=>have:=(h.2 rfl).2;omega
theorem Stt.open_ {K:Ctx}{w:World}{cont:Nat→Rs β}{p:Nat}(hR:R=(signQ K.ws [40] (p+1)).bind fun _ q=>(enterP q d).bind fun _ q=>cont q)(sw:SW K w (takeQ K.ws [40] (p+1) false).1 ((d:Int)+1) (if 64<(d:Int)+1∧(takeQ K.ws [40] (p+1) false).2=false then true else false) (if 64<(d:Int)+1∧(takeQ K.ws [40] (p+1) false).2=false then true else(takeQ K.ws [40] (p+1) false).2)):
  ∃q dp bd,SW K w q ((d:Int)+1) dp bd∧Stt p R d cont q ((d:Int)+1) dp bd:=by
 rcases takeQ_sign (ws:=K.ws) (s:=[40]) (q:=p+1) with ⟨h1,h2⟩|⟨h1,h2⟩
 ·rw[h1] at sw
  dsimp only at sw
  rw[h2,Rs.bind_ok] at hR
  by_cases h64:64<(d:Int)+1
  ·rw[if_pos ⟨h64,rfl⟩] at sw
   refine⟨_,_,_,sw,fun h=>(by cases h),fun _=>⟨?_,by omega,by omega⟩⟩
   rw[hR]
   unfold enterP
   rw[if_pos (by omega)]
   rfl
  ·rw[if_neg (fun h=>h64 h.1)] at sw
   refine⟨_,_,_,sw,fun _=>⟨rfl,rfl,by omega,by omega,?_⟩,fun h=>by cases h⟩
   rw[hR]
   unfold enterP
   rw[if_neg (by omega),Rs.bind_ok]
 ·rw[h1] at sw
  dsimp only at sw
  rw[h2,Rs.bind_bad] at hR
  rw[if_neg (fun h=>by cases h.2),if_neg (fun h=>by cases h.2)] at sw
  exact⟨_,_,_,sw,fun h=>(by cases h),fun _=>⟨hR,by omega,by omega⟩⟩
def bothQ {α:Type}(r:Rs α)(d q:Nat)(o:Int)(dp bd:Bool)(x:α)(p':Nat)(o':Int)(dp' bd':Bool):Prop:=(bd=false→resQ r d x p' o' dp' bd')∧(bd=true→sameQ q o dp x p' o' dp' bd')
theorem Stt.part {α:Type}{E:Nat→Nat→Rs α}{g:α→Nat→Rs β}{x:α}{q':Nat}{o':Int}{dp' bd':Bool}(h:Stt p0 R d (fun q=>(E q (d+1)).bind g) q o dp bd)(hM:Mono E)(hb:bothQ (E q (d+1)) (d+1) q o dp bd x q' o' dp' bd'):Stt p0 R d (g x) q' o' dp' bd':=by
 cases bd with
 |true=>
  obtain⟨rfl,rfl,rfl,rfl⟩:=hb.2 rfl
  exact⟨fun h=>(by cases h),fun _=>h.2 rfl⟩
 |false=>
  obtain⟨rfl,rfl,h1,h2,hR⟩:=h.1 rfl
  have hres:=hb.1 rfl
  unfold resQ at hres
  cases hr:E q (d+1) with
  |out=>rw[hr] at hres;exact hres.elim
  |bad a b=>
   rw[hr] at hres
   dsimp only at hR
   rw[hr] at hR
   obtain⟨rfl,rfl,rfl,h3,h4⟩:=hres
   exact⟨fun h=>(by cases h),fun _=>⟨hR,by omega,by omega⟩⟩
  |ok a b=>
   rw[hr] at hres
   dsimp only at hR
   rw[hr] at hR
   have hm:=hM _ _ _ _ hr
   obtain⟨rfl,rfl,h3,rfl,rfl⟩:=hres
   exact⟨fun _=>⟨by omega,rfl,by omega,h2,hR⟩,fun h=>by cases h⟩
theorem Stt.sign {ws:List Wd}{s:List Nat}{g:Nat→Rs β}(h:Stt p0 R d (fun q=>(signQ ws s q).bind fun _ q=>g q) q o dp bd):Stt p0 R d g (takeQ ws s q bd).1 o dp (takeQ ws s q bd).2:=by
 cases bd with
 |true=>rw[takeQ_bad];exact⟨fun h=>(by cases h),fun _=>h.2 rfl⟩
 |false=>
  obtain⟨rfl,rfl,h1,h2,hR⟩:=h.1 rfl
  rcases takeQ_sign (ws:=ws) (s:=s) (q:=q) with ⟨h3,h4⟩|⟨h3,h4⟩
  ·rw[h3]
   dsimp only at hR⊢
   rw[h4,Rs.bind_ok] at hR
   exact⟨fun _=>⟨rfl,rfl,by omega,h2,hR⟩,fun h=>by cases h⟩
  ·rw[h3]
   dsimp only at hR⊢
   rw[h4,Rs.bind_bad] at hR
   exact⟨fun h=>(by cases h),fun _=>⟨hR,by omega,by omega⟩⟩
theorem Stt.close {x:β}(h:Stt p0 R d (fun q=> .ok x q) q o dp bd):resQ R d x q (o-1) dp bd:=by
 cases bd with
 |true=>
  obtain⟨h1,h2,h3⟩:=h.2 rfl
  rw[h1]
  exact⟨rfl,rfl,rfl,by omega,by omega⟩
 |false=>
  obtain⟨rfl,rfl,h1,h2,hR⟩:=h.1 rfl
  rw[hR]
  exact⟨rfl,rfl,by omega,rfl,rfl⟩
end
theorem exprS_any (K:Ctx)(hK:K.Ok)(hW:WsB K.ws)(q d:Nat)(o:Int)(dp bd:Bool)(hg:bd=false→o=(d:Int)∧dp=false∧d≤64)(W:World)(sw:SW K W q o dp bd):
  Calls Tryz.prog 33 #[.pointer (some ⟨K.g,0,none⟩), .int .i64 1] W (CR K W.heap.size W (bothQ ((fullP K.ws).E 0 q d) d q o dp bd) (okE W)):=by
 cases bd with
 |false=>
  obtain⟨rfl,rfl,hd⟩:=hg rfl
  refine((clm_all K hK hW (K.ws.length-q+1) q (by omega)).2 0 d W (by omega) hd sw).mono fun e W' h=> ?_
  obtain⟨hf,v,x,p',o',dp',bd',rfl,h2,h3,h4⟩:=h
  exact⟨hf,v,x,p',o',dp',bd',rfl,h2,h3,fun _=>h4,fun h=>by cases h⟩
 |true=>
  refine(exprB_any K hK q _ dp 1 W sw).mono fun e W' h=> ?_
  obtain⟨hb,rfl⟩:=h
  exact⟨Fz.of hb,_,zeroEx,q,_,dp,true,rfl,⟨fun _=>False,RepE.zero _ _,fun b hb=>hb.elim⟩,sw.step hb,fun h=>(by cases h),fun _=>⟨rfl,rfl,rfl,rfl⟩⟩
structure TmJ (K:Ctx)(R:Rs Tm)(d p0:Nat)(op:Int)(w:World)(g2 g5:Nat)(q:Nat)(o:Int)(dp bd:Bool)(nm:List Nat)(es:List Ex)(ts:List Tm)(evs tvs:List Value)(AE AT:Option Addr)(cE cT:Nat)(S:Nat→Prop)(wr:World):Prop where
 sw:SW K wr q o dp bd
 bel:Fz w.heap.size K.g w wr
 k2:Blk wr g2 25 #[.int .i64 0, .string {data:= #[]}, .slice none 0 0, .slice none 0 0]
 k5:Blk wr g5 25 #[.int .i64 op, .string (strOf nm), .slice AE es.length cE, .slice AT ts.length cT]
 aq:ArgQ wr g5 g5 es ts evs tvs (.slice AE es.length cE) (.slice AT ts.length cT) S
 nm_ok:(∀c∈nm,c<256)∧nm.length≤4000
 le:es.length≤10∧ts.length≤10
 stt:Stt p0 R d (fun q=>(signQ K.ws [41] q).bind fun _ q=> .ok (.mk op nm es ts) q) q o dp bd
end Go.Proofs.YtaamkfajnpobfaaGreat
namespace Go.Proofs.YtaamkfajnpobfaaGreat
theorem nodesL_append:∀(l r:List Ex),nodesL (l++r)=nodesL l+nodesL r
 | [],r=>by rw[List.nil_append,nodesL];omega
 |x::l,r=>by rw[List.cons_append,nodesL,nodesL,nodesL_append l r];omega
def NdE (f:Nat→Nat→Rs Ex):Prop:=∀p d x q,f p d= .ok x q→x.nodes+p≤q
theorem parts_nd {α:Type}(ws:List Wd)(m:α→Nat):∀(ones:List (Nat→Nat→Rs α)),(∀f∈ones,∀p d x q,f p d= .ok x q→m x+p≤q)→∀first p d xs q,partsP ws ones first p d= .ok xs q→(xs.map m).sum+p≤q
 | [],_,first,p,d,xs,q,h=>by
  injection h with h h2
  subst h
  simp
  omega
 |f::r,hm,first,p,d,xs,q,h=>by
  rw[partsP] at h
  obtain⟨u,p1,h1,h⟩:=Rs.bind_eq_ok h
  obtain⟨x,p2,h2,h⟩:=Rs.bind_eq_ok h
  obtain⟨ys,p3,h3,h⟩:=Rs.bind_eq_ok h
  injection h with h h4
  subst h
  have e1:p≤p1:=by
   split at h1
   ·injection h1 with _ h1;omega
   ·have:=(signQ_ok h1).1;omega
  have e2:=hm f (by simp) _ _ _ _ h2
  have e3:=parts_nd ws m r (fun g hg=>hm g (by simp[hg])) _ _ _ _ _ h3
  simp only[List.map_cons,List.sum_cons]
  omega
theorem within_nd {α:Type}{ws:List Wd}{m:α→Nat}{ones:List (Nat→Nat→Rs α)}(hm:∀f∈ones,∀p d x q,f p d= .ok x q→m x+p≤q){p d q:Nat}{xs:List α}(h:withinP ws ones p d= .ok xs q):(xs.map m).sum+p+2≤q:=by
 unfold withinP at h
 obtain⟨u,p1,h1,h⟩:=Rs.bind_eq_ok h
 obtain⟨u2,p2,h2,h⟩:=Rs.bind_eq_ok h
 obtain⟨ys,p3,h3,h⟩:=Rs.bind_eq_ok h
 obtain⟨u3,p4,h4,h⟩:=Rs.bind_eq_ok h
 injection h with h h5
 subst h
 have:=parts_nd ws m ones hm _ _ _ _ _ h3
 have:=(signQ_ok h1).1
 have:=(enterP_ok h2).1
 have:=(signQ_ok h4).1
 omega
theorem nodesL_sum:∀l:List Ex,nodesL l=(l.map Ex.nodes).sum
 | []=>by rw[nodesL];rfl
 |x::l=>by rw[nodesL,nodesL_sum l];rfl
theorem called_nd {ws:List Wd}{E0:Nat→Nat→Rs Ex}(hE:NdE E0){op:Int}{k p d q:Nat}{x:Ex}(h:calledP ws E0 op k p d= .ok x q):x.nodes+p≤q:=by
 unfold calledP at h
 obtain⟨xs,p1,h1,h⟩:=Rs.bind_eq_ok h
 injection h with h h2
 subst h
 have:=within_nd (m:=Ex.nodes) (fun f hf=>(List.mem_replicate.1 hf).2▸hE) h1
 rw[Ex.nodes_mk,nodesL_sum]
 omega
theorem atom_nd {ws:List Wd}{E0:Nat→Nat→Rs Ex}(hE:NdE E0):NdE (atomP ws E0):=by
 intro p d x q h
 unfold atomP at h
 have leaf:∀ {op n:Int} {nm:List Nat},(Ex.mk op n nm []).nodes=1:=fun {op n nm}=>by rw[Ex.nodes_mk,nodesL]
 split at h
 ·injection h with h h2
  subst h
  rw[leaf];omega
 split at h
 ·injection h with h h2
  subst h
  rw[leaf];omega
 split at h
 ·split at h
  ·injection h with h h2
   subst h
   rw[leaf];omega
  split at h
  ·exact called_nd hE h
  split at h
  ·exact called_nd hE h
  split at h
  ·exact called_nd hE h
  ·obtain⟨nm,p1,h1,h⟩:=Rs.bind_eq_ok h
   injection h with h h2
   subst h
   have:=(nameP_eq h1).1
   rw[leaf];omega
 split at h
 ·obtain⟨xs,p1,h1,h⟩:=Rs.bind_eq_ok h
  injection h with h h2
  have hl:=withinP_len h1
  have ha:=within_nd (m:=Ex.nodes) (fun f hf=>(List.mem_singleton.1 hf)▸hE) h1
  match xs,hl with
  | [y],_=>
   subst h
   simp at ha
   show y.nodes+p≤q
   omega
 ·cases h
theorem ahead_nd {S:Nat→Nat→Rs Ex}(hS:NdE S){op:Int}:NdE (aheadP S op):=by
 intro p d x q h
 unfold aheadP at h
 obtain⟨u,p1,h1,h⟩:=Rs.bind_eq_ok h
 obtain⟨y,p2,h2,h⟩:=Rs.bind_eq_ok h
 injection h with h h3
 subst h
 have:=(enterP_ok h1).1
 have:=hS _ _ _ _ h2
 rw[Ex.nodes_mk,nodesL,nodesL]
 omega
theorem unary_nd {ws:List Wd}{S E0:Nat→Nat→Rs Ex}(hS:NdE S)(hE:NdE E0):NdE (unaryP ws S E0):=by
 intro p d x q h
 unfold unaryP at h
 split at h
 ·exact ahead_nd hS _ _ _ _ h
 split at h
 ·exact ahead_nd hS _ _ _ _ h
 ·exact atom_nd hE _ _ _ _ h
structure NdF (f:PF):Prop where
 E:∀lvl,NdE (f.E lvl)
 L:∀lvl x p d y q,f.L lvl x p d= .ok y q→y.nodes+p≤q+x.nodes
 S:NdE f.S
theorem loop_nd {ws:List Wd}{f:PF}(hf:NdF f){lvl p d q:Nat}{x y:Ex}(h:loopP ws f lvl x p d= .ok y q):y.nodes+p≤q+x.nodes:=by
 unfold loopP at h
 cases ho:opAt ws lvl p with
 |none=>
  rw[ho] at h
  injection h with h h2
  subst h
  omega
 |some op=>
  rw[ho] at h
  obtain⟨r,p1,h1,h⟩:=Rs.bind_eq_ok h
  have h2:=hf.E _ _ _ _ _ h1
  have hm:(mk2 op x r).nodes=1+x.nodes+r.nodes:=by unfold mk2;rw[Ex.nodes_mk,nodesL,nodesL,nodesL];omega
  split at h
  ·injection h with h h3
   subst h
   omega
  ·have:=hf.L _ _ _ _ _ _ h
   omega
theorem lev_nd {L:Nat→Ex→Nat→Nat→Rs Ex}{S:Nat→Nat→Rs Ex}(hL:∀lvl x p d y q,L lvl x p d= .ok y q→y.nodes+p≤q+x.nodes)(hS:NdE S):∀i,NdE (levN L S i)
 |0=>hS
 |i+1=>fun p d x q h=>by
  rw[levN] at h
  obtain⟨y,p1,h1,h⟩:=Rs.bind_eq_ok h
  have:=hL _ _ _ _ _ _ h
  have:=lev_nd hL hS i _ _ _ _ h1
  omega
theorem fuel_nd (ws:List Wd):∀n,NdF (fuelP ws n)
 |0=>⟨fun _ _ _ _ _ h=>by(cases h),fun _ _ _ _ _ _ h=>by(cases h),fun _ _ _ _ h=>by(cases h)⟩
 |n+1=>by
  have ih:=fuel_nd ws n
  have hL:∀lvl x p d y q,loopP ws (fuelP ws n) lvl x p d= .ok y q→y.nodes+p≤q+x.nodes:=fun lvl x p d y q h=>loop_nd ih h
  have hS:=unary_nd (ws:=ws) ih.S (ih.E 0)
  exact⟨fun lvl=>lev_nd hL hS _,hL,hS⟩
def NdT (f:Nat→Nat→Rs Tm):Prop:=∀p d x q,f p d= .ok x q→x.nodes+p≤q
def Part.nodes:Part→Nat
 | .inl e=>e.nodes
 | .inr t=>t.nodes
end Go.Proofs.YtaamkfajnpobfaaGreat
namespace Go.Proofs.YtaamkfajnpobfaaGreat
open Go.RowKit
theorem ends_any (K:Ctx)(hK:K.Ok)(p:Nat)(o:Int)(dp bd:Bool)(w:World)(h:SW K w p o dp bd):Calls Tryz.prog 28 #[.pointer (some ⟨K.g,0,none⟩), .int .i64 (K.en:Int)] w fun e w'=>e= .returned (.int .i64 (if dp=true then -2 else if p<K.ws.length then((K.at_ p).pos:Int) else if bd=true then(K.en:Int) else -1))∧Grow w w':=by
 have bel:=Below.refl w.heap.size w
 have k99:=h.blk
 have hrd:=h.rd
 have hlt:=h.blk.lt
 have hBg:=hK.le
 have hpl:=h.p_le
 refine Zs 35 Tryz.func28 ?_
 refine Zsr ?_
 refine Za ?_
 refine Zk3 0 1 4 (Zts (Zsr ?_))
 refine Zm ?_
 refine Zv (Runs.nilCheck rfl rfl) ?_
 refine Zf 3 Tryz.underlying69 ?_
 refine Zv (Runs.loadB rfl rfl Tryz.underlying4 rfl k99 rfl) ?_
 refine Zk4 0 1 4 8 (Zt ?_)
 refine Cd.cond rfl (fun hc=> ?_) (fun hc=> ?_)
 ·rw[if_pos hc]
  refine Zsr ?_
  refine Za ?_
  refine Zk4 0 1 4 8 (Zt (Cd.ret (Post.then_ret ?_)))
  refine Post.end1 rfl rfl (.inl rfl) ?_
  exact⟨rfl,bel⟩
 rw[if_neg (by rw[hc];simp)]
 refine Cd.skip (Zts (Cd.seq ?_))
 refine Cd.draw 10 (by kernel_rfl) [] (.inl rfl) rfl Grow Grow.refl (fun _ _ _=>Grow.trans) ?_
 intro w1 hw1 zw1
 replace bel:=bel.step hw1
 replace k99:=k99.step hw1
 have zbel:=bel.size
 have zlt:=k99.lt
 refine Zdm ?_
 refine Zd (fun w hG=>Runs.nilCheck rfl rfl) ?_
 refine Zd (fun w hG=>Runs.fieldB 1 rfl rfl Tryz.underlying69 rfl (by kernel_rfl)) ?_
 refine Zd (fun w hG=>Runs.loadB rfl rfl Tryz.underlying3 rfl (k99.step hG) rfl) ?_
 refine Zdm ?_
 refine Zd (fun w hG=>Runs.nilCheck rfl rfl) ?_
 refine Zd (fun w hG=>Runs.fieldB 0 rfl rfl Tryz.underlying69 rfl (by kernel_rfl)) ?_
 refine Zd (fun w hG=>Runs.loadB rfl rfl Tryz.underlying64 rfl (k99.step hG) rfl) ?_
 refine Zd (fun w hG=>Runs.len rfl rfl Tryz.underlying64) ?_
 refine Zd (fun w hG=>Runs.lss rfl rfl rfl) ?_
 refine Dr.nil ?_
 refine FinX.done (F':=[(0,_),(1,_),(4,_),(8,_),(18,_)]) rfl ⟨rfl,rfl,rfl,rfl,rfl,trivial⟩ ?_
 intro w2 hw2 fw2
 replace bel:=bel.step hw2
 replace k99:=k99.step hw2
 refine Zk5 0 1 4 8 18 (Zt ?_)
 refine Cd.condD rfl (fun hc=> ?_) (fun hc=> ?_)
 ·have hp:p<K.ws.length:=by omega
  obtain⟨ad,hA,hadb,hcell⟩:=hrd.2 (by omega)
  obtain⟨x,hx⟩:∃x,K.ws[p]? =some x:=⟨_,List.getElem?_eq_getElem (by omega)⟩
  have hat:K.at_ p=x:=by unfold Ctx.at_;rw[List.getD_eq_getElem?_getD,hx];rfl
  have hce:∀W,Below w.heap.size w W→∀(q:Nat) (u:Value),([.int .i64 x.kind, .string (strOf x.text), .int .i64 x.n, .int .i64 (x.pos:Int)]:List Value)[q]? =some u→W.cell? ((ad.add (p*4)).add q)=some u:=fun W hb q u hu=>by
   rw[(hb.mono (show K.B≤w.heap.size by omega)).cell (by rw[block_of_add,block_of_add];exact hadb),add_of_add]
   exact hcell _ _ (wdCells_row K.ws p x hx q u hu)
  rw[hA] at k99
  rw[if_pos hp,hat]
  refine Cd.seq ?_
  refine Cd.weak (F':=[(0,_),(1,_),(8,_),(18,_)]) ⟨rfl,rfl,rfl,rfl,trivial⟩ ?_
  refine Cd.draw 12 (by kernel_rfl) [] (.inl rfl) rfl Grow Grow.refl (fun _ _ _=>Grow.trans) ?_
  intro w3 hw3 zw3
  replace bel:=bel.step hw3
  replace k99:=k99.step hw3
  have zbel:=bel.size
  have zlt:=k99.lt
  refine Zdm ?_
  refine Zd (fun w hG=>Runs.nilCheck rfl rfl) ?_
  refine Zd (fun w hG=>Runs.fieldB 0 rfl rfl Tryz.underlying69 rfl (by kernel_rfl)) ?_
  refine Zd (fun w hG=>Runs.loadB rfl rfl Tryz.underlying64 rfl (k99.step hG) rfl) ?_
  refine Zdm ?_
  refine Zd (fun w hG=>Runs.nilCheck rfl rfl) ?_
  refine Zd (fun w hG=>Runs.fieldB 1 rfl rfl Tryz.underlying69 rfl (by kernel_rfl)) ?_
  refine Zd (fun w hG=>Runs.loadB rfl rfl Tryz.underlying3 rfl (k99.step hG) rfl) ?_
  refine Zd (fun w hG=>Runs.indexN rfl rfl rfl Tryz.underlying64 (s:=4) (by kernel_rfl) (j:=p) rfl (by omega)) ?_
  refine Zd (fun w hG=>Runs.fieldA 3 rfl rfl Tryz.underlying109 rfl (by kernel_rfl)) ?_
  refine Zd (fun w hG=>Runs.load1 rfl rfl Tryz.underlying3 rfl (hce _ (bel.step hG) 3 _ rfl)) ?_
  refine Zd (fun w hG=>Runs.assign rfl rfl) ?_
  refine Dr.nil ?_
  refine FinX.done (F':=[(0,_),(1,_),(4,_),(8,_),(18,_)]) rfl ⟨rfl,rfl,rfl,rfl,rfl,trivial⟩ ?_
  intro w4 hw4 fw4
  replace bel:=bel.step hw4
  replace k99:=k99.step hw4
  refine Zk5 0 1 4 8 18 (Zt (Cd.ret (Post.then_ret ?_)))
  refine Post.end1 rfl rfl (.inl rfl) ?_
  exact⟨rfl,bel⟩
 rw[if_neg (by omega)]
 refine Cd.skip (Zts (Zsr ?_))
 refine Zm ?_
 refine Zv (Runs.nilCheck rfl rfl) ?_
 refine Zf 4 Tryz.underlying69 ?_
 refine Zv (Runs.loadB rfl rfl Tryz.underlying4 rfl k99 rfl) ?_
 refine Zk6 0 1 4 8 18 33 (Zt ?_)
 refine Cd.cond rfl (fun hb=> ?_) (fun hb=> ?_)
 ·rw[if_pos hb]
  refine Zsr ?_
  refine Zm ?_
  refine Za ?_
  refine Zk6 0 1 4 8 18 33 (Zt (Cd.ret (Post.then_ret ?_)))
  refine Post.end1 rfl rfl (.inl rfl) ?_
  exact⟨rfl,bel⟩
 ·rw[if_neg (by rw[hb];simp)]
  refine Cd.skip (Ztq ?_)
  refine Za ?_
  refine Zk6 0 1 4 8 18 33 (Zt (Cd.ret ?_))
  refine Post.end1 rfl rfl (.inl rfl) ?_
  exact⟨rfl,bel⟩
theorem depthL_append:∀(l r:List Ex),depthL (l++r)=max (depthL l) (depthL r)
 | [],r=>by rw[List.nil_append,depthL];omega
 |x::l,r=>by rw[List.cons_append,depthL,depthL,depthL_append l r];omega
theorem sizeR_any (n:Nat)(e:Ex)(B:Nat)(v:Value)(w:World)(hn:e.nodes≤n)(h9:e.nodes≤100000)(hrep:Rep w B e v)(hB:B≤w.heap.size):Calls Tryz.prog 34 #[v] w fun en w'=>en= .returned (.tuple #[.int .i64 (e.nodes:Int), .int .i64 (e.depth:Int)])∧Grow w w':=by
 induction n generalizing e B v w with
 |zero=>exact absurd e.nodes_pos (by omega)
 |succ n ih=>
  obtain⟨A,c,rfl,hv⟩:=hrep.open
  have bel:=Below.refl w.heap.size w
  have hne:e.nodes=1+nodesL e.args:=by rw[e.eta,Ex.nodes_mk];rfl
  have hde:e.depth=1+depthL e.args:=by rw[e.eta,Ex.depth_mk];rfl
  refine Zs 34 Tryz.func34 ?_
  refine Zsr ?_
  refine Seq.box rfl rfl rfl rfl rfl ?_
  intro g1 w1 n1
  have e1:=Nat.le_trans bel.size n1.ge
  replace bel:=bel.step n1.below
  have k1:=n1.blk
  refine Za ?_
  refine Za ?_
  refine Zk4 0 1 2 3 (Ztq ?_)
  refine Za ?_
  refine Za ?_
  refine Zk6 0 1 2 3 4 5 (Zts (Zsr ?_))
  refine Za ?_
  refine Zk7 0 1 2 3 4 5 6 (Zt (Cd.block ?_))
  refine Cd.loop (σ:=Nat) (fun i=>[(1, .pointer (some ⟨g1,0,none⟩)),(4, .int .i64 ((1+nodesL (e.args.take i):Nat):Int)),(5, .int .i64 ((1+depthL (e.args.take i):Nat):Int)),(6, .int .i64 (i:Int))])
   (fun i wr=>i≤e.args.length∧Below w.heap.size w wr∧Blk wr g1 35 #[.int .i64 e.op, .int .i64 e.n, .string (strOf e.name), .slice A e.args.length c]) (fun i=>e.args.length-i) 0 ⟨Nat.zero_le _,bel,k1⟩ ⟨rfl,rfl,rfl,rfl,trivial⟩ ?_
  clear bel k1
  rintro i wr ⟨hi,bel,k1⟩
  have h60:=hv.h60
  refine Cd.seq (Zsr ?_)
  refine Zm ?_
  refine Zf 3 Tryz.underlying35 ?_
  refine Zv (Runs.loadB rfl rfl Tryz.underlying22 rfl k1 rfl) ?_
  refine Zv (Runs.len rfl rfl Tryz.underlying22) ?_
  refine Zv (Runs.lss rfl rfl rfl) ?_
  refine Zk5 1 4 5 6 13 (Zt ?_)
  refine Cd.condD rfl (fun hc=> ?_) (fun hc=> ?_)
  ·obtain⟨x,hx⟩:∃x,e.args[i]? =some x:=⟨_,List.getElem?_eq_getElem (show i<e.args.length by omega)⟩
   obtain⟨ad,Ax,cx,rfl,hbl,hrx,hc⟩:=hv.arg i x hx
   have hxm:=List.mem_of_getElem? hx
   have hxn:=Ex.arg_nodes hxm
   have hc:=fun W (hb:Below w.heap.size w W) j u hj=>((hb.mono hB).cell (p:=(ad.add (i*4)).add j) (by rw[block_of_add,block_of_add];exact hbl)).trans (hc j u hj)
   have hrec:=fun W (hb:Below w.heap.size w W)=>ih x B _ W (by omega) (by omega) (hrx.below (hb.mono hB)) (Nat.le_trans hB hb.size)
   have htk:e.args.take (i+1)=e.args.take i++[x]:=by rw[List.take_add_one,hx];rfl
   have hnt:nodesL (e.args.take (i+1))=nodesL (e.args.take i)+x.nodes:=by rw[htk,nodesL_append];show _+(x.nodes+nodesL [])=_;rw[nodesL];omega
   have hdt:depthL (e.args.take (i+1))=max (depthL (e.args.take i)) x.depth:=by rw[htk,depthL_append];show max _ (max x.depth (depthL []))=_;rw[depthL];omega
   have hle:nodesL (e.args.take (i+1))≤nodesL e.args:=by
    have:=nodesL_append (e.args.take (i+1)) (e.args.drop (i+1))
    rw[List.take_append_drop] at this
    omega
   have hdn:=depthL_nodesL (e.args.take i)
   have hdx:=x.depth_nodes
   generalize nodesL (e.args.take i)=N0 at *
   generalize depthL (e.args.take i)=D0 at *
   refine Cd.skip (Zts (Cd.block (Zsr ?_)))
   refine Zf 3 Tryz.underlying35 ?_
   refine Zv (Runs.loadB rfl rfl Tryz.underlying22 rfl k1 rfl) ?_
   refine Zm ?_
   refine Zv (Runs.indexN rfl rfl rfl Tryz.underlying22 (s:=4) (by kernel_rfl) (j:=i) rfl (by omega)) ?_
   refine Zv (Runs.loadF (ps:=[.int .i64 x.op, .int .i64 x.n, .string (strOf x.name), .slice Ax x.args.length cx]) rfl rfl Tryz.underlying35 rfl (m:=4) (by kernel_rfl) rfl (hc _ bel)) ?_
   refine Zc (Ze Tryz.func34) (hrec _ bel) ?_
   rintro en w6 ⟨rfl,hb6⟩
   refine⟨_,rfl,?_⟩
   replace bel:=bel.step hb6
   replace k1:=k1.step hb6
   refine Zm ?_
   refine Zv (Runs.extract rfl rfl rfl) ?_
   refine Zv (Runs.extract rfl rfl rfl) ?_
   refine Za ?_
   refine Za ?_
   refine Zk7 1 4 5 6 7 8 13 (Ztq ?_)
   refine Zm ?_
   refine Zm ?_
   refine Za_ ?_
   refine Za ?_
   refine Zk7 1 4 5 6 7 8 13 (Ztr ?_)
   refine Zm ?_
   refine Zm ?_
   refine Za_ ?_
   refine Zv (Runs.max2 rfl rfl rfl) ?_
   refine Za ?_
   refine Zk7 1 4 5 6 7 8 13 (Post.block_normal (Ztr ?_))
   refine Zm ?_
   refine Za_ ?_
   refine Za ?_
   refine Zk7 1 4 5 6 7 8 13 ?_
   refine Post.round (i+1) ⟨rfl,?_,?_,rfl,trivial⟩ ⟨by omega,bel,k1⟩ (by omega)
   ·exact congrArg (fun x:Int=>some (Value.int .i64 x)) (by rw[hnt];omega)
   ·exact congrArg (fun x:Int=>some (Value.int .i64 x)) (by rw[hdt];omega)
  ·obtain rfl:i=e.args.length:=by omega
   refine Cd.exit (Post.then_exit (Post.round_exit (Post.block_exit (Ztq ?_))))
   refine Zm ?_
   refine Zm ?_
   refine Za ?_
   refine Za ?_
   refine Zk7 1 2 3 4 5 6 13 (Zt (Cd.ret ?_))
   refine Post.end2 rfl rfl rfl (.inl rfl) ?_
   rw[List.take_length,hne,hde]
   exact⟨rfl,bel⟩
end Go.Proofs.YtaamkfajnpobfaaGreat
namespace Go.Proofs.YtaamkfajnpobfaaGreat
open Go.RowKit
theorem run_build_state (A:Option Addr)(n c:Nat)(w:World):(Instr.build 69 #[(0, .slice A n c)]).run Tryz.prog w= .ok (.agg #[.slice A n c, .int .i64 0, .int .i64 0, .bool false, .bool false]) w:=by
 have hu:=Tryz.underlying69
 go_simp
structure RsT (lo hi:Nat)(S:Nat→Prop)(x:Tm)(v:Value)(W:World):Prop where
 rep:RepT W S x v
 bd:∀b,S b→lo≤b∧b<hi
 hi_le:hi≤W.heap.size
theorem RsT.step {lo hi:Nat}{S:Nat→Prop}{x:Tm}{v:Value}{W W':World}(r:RsT lo hi S x v W)(h:Below W.heap.size W W'):RsT lo hi S x v W':=
 ⟨r.rep.mono (fun _ h=>h) (fun a ha=>h.cell (Nat.lt_of_lt_of_le (r.bd _ ha).2 r.hi_le)),r.bd,Nat.le_trans r.hi_le h.size⟩
theorem RsT.put {lo hi g:Nat}{T:TypeId}{cur cs:Array Value}{S:Nat→Prop}{x:Tm}{v:Value}{W W':World}(r:RsT lo hi S x v W)(_k:Blk W g T cur)(p:Put W W' g T cs){E:Prop}(_e:E)(hne:g<lo∨hi≤g:=by omega):RsT lo hi S x v W':=
 ⟨r.rep.mono (fun _ h=>h) (fun a ha=>World.cell?_of_block (p.grown.block _ (Nat.lt_of_lt_of_le (r.bd _ ha).2 r.hi_le) (fun e=>by injection e with e;have:=r.bd _ ha;omega))),r.bd,Nat.le_trans r.hi_le (Nat.le_of_eq p.size.symm)⟩
theorem endPos_le (l:List Nat)(hl:∀x∈l,x<256)(p:Nat):endPos l p≤l.length:=by
 unfold endPos
 rw[List.getD_eq_getElem?_getD]
 cases hp:(lexAll l).1[p]? with
 |none=>exact Nat.le_refl _
 |some x=>exact Nat.le_of_lt (lexW_bd l hl _ _ x (List.mem_of_getElem? hp)).2.2.2
theorem refParseX_any (l:List Nat)(w:World)(hl:∀x∈l,x<256)(h4:l.length≤4000):
  Calls Tryz.prog 13 #[.string (strOf l)] w fun e w'=>Below w.heap.size w w'∧∃(v:Value) (S:Nat→Prop),e= .returned (.tuple #[v, .int .i64 ((parseX l).2.1:Int), .int .i64 (parseX l).2.2])∧RepE w' S (parseX l).1 v∧∀b,S b→w.heap.size≤b∧b<w'.heap.size:=by
 have bel:=Below.refl w.heap.size w
 have hpn:∀(q:Nat) (n:Int),parAt l (exprQ (lexAll l).1)=(q,n)→n≠0→parseX l=(zeroEx,q,n):=fun q n h hn=>by
  unfold parseX
  rw[h,if_pos hn]
 have hpo:∀x q,parAt l (exprQ (lexAll l).1)=(0,0)→exprQ (lexAll l).1= .ok x q→parseX l=if rightB x=true then(x,0,0) else(zeroEx,0,13):=fun x q h hx=>by
  unfold parseX
  rw[h,if_neg (fun h=>h rfl),hx]
 have hrw:=fun W=>refWords_any l W hl h4
 refine Zs 50 Tryz.func13 ?_
 refine Zsr ?_
 refine Zl zero_api_Expr ?_
 intro g2 w1 n2
 have e2:=Nat.le_trans bel.size n2.ge
 replace bel:=bel.step n2.below
 have k2:=n2.blk
 refine Za ?_
 refine Za ?_
 refine Zk4 0 2 3 4 (Ztq ?_)
 refine Zm ?_
 refine Zc (Ze Tryz.func26) (hrw _) ?_
 rintro e w5 ⟨hb5,⟨p,h2,rfl⟩|⟨h2,v,rfl,own⟩⟩
 ·have hpa:parAt l (exprQ (lexAll l).1)=(p,11):=by unfold parAt;rw[if_neg (by omega),h2]
  have hps:=hpn _ _ hpa (by omega)
  refine⟨_,rfl,?_⟩
  replace bel:=bel.step hb5
  replace k2:=k2.step hb5
  refine Zm ?_
  refine Zv (Runs.extract rfl rfl rfl) ?_
  refine Zv (Runs.extract rfl rfl rfl) ?_
  refine Za ?_
  refine Za ?_
  refine Zk6 0 2 3 4 5 6 (Zts (Zsr ?_))
  refine Zm ?_
  refine Zv (Runs.geq rfl rfl rfl) ?_
  refine Zk7 0 2 3 4 5 6 18 (Zt ?_)
  refine Cd.condT rfl (by simp) ?_
  refine Zsr ?_
  refine Zv (Runs.build rfl rfl (run_build_E0 _)) ?_
  refine Zm ?_
  refine Zo 4 k2 ?_
  intro w2 pw2
  replace bel:=bel.put k2 pw2 e2
  replace k2:=pw2.blk
  refine Za ?_
  refine Za ?_
  refine Zk7 0 2 3 4 5 6 18 (Zt (Cd.ret (Post.then_ret ?_)))
  refine Post.endC3 rfl rfl rfl rfl k2 Tryz.underlying35 rfl (m:=4) (by kernel_rfl) rfl (.inl rfl) ?_
  rw[hps]
  exact⟨bel,_,fun _=>False,rfl,RepE.zero _ _,fun b hb=>hb.elim⟩
 obtain⟨A,cap,rfl,hrd⟩:=own.reads
 refine⟨_,rfl,?_⟩
 replace bel:=bel.step hb5
 replace k2:=k2.step hb5
 refine Zm ?_
 refine Zv (Runs.extract rfl rfl rfl) ?_
 refine Zv (Runs.extract rfl rfl rfl) ?_
 refine Za ?_
 refine Za ?_
 refine Zk6 0 2 3 4 5 6 (Zts (Zsr ?_))
 refine Zm ?_
 refine Zv (Runs.geq rfl rfl rfl) ?_
 refine Zk7 0 2 3 4 5 6 18 (Zt ?_)
 refine Cd.condF rfl (by simp) ?_
 refine Cd.skip (Ztq ?_)
 refine Zm ?_
 refine Zv (Runs.build rfl rfl (run_build_state A (lexAll l).1.length cap _)) ?_
 refine Seq.box rfl rfl rfl rfl rfl ?_
 intro g23 w2 n23
 have e23:=Nat.le_trans bel.size n23.ge
 have l23:=Nat.lt_of_lt_of_le k2.lt n23.ge
 replace bel:=bel.step n23.below
 replace k2:=k2.step n23.below
 have k23:=n23.blk
 refine Za ?_
 refine Zk8 0 2 3 4 5 6 7 18 (Ztq ?_)
 refine Zm ?_
 have hKok:=ctx_ok l hl h4 (B:=w5.heap.size) (g:=g23) (c:=cap) (A:=A) n23.ge
 have hWs:=lexAll_WsB l hl
 have hg23:=k23.lt
 have hrd23:=hrd.below n23.below
 generalize hK:(Ctx.mk w5.heap.size g23 cap l.length A (lexAll l).1)=K at hKok
 have hKg:K.g=g23:=by rw[←hK]
 have hKw:K.ws=(lexAll l).1:=by rw[←hK]
 have hKe:K.en=l.length:=by rw[←hK]
 have sw:SW K w2 0 (0:Nat) false false:=by rw[←hK];exact⟨k23,hrd23,Nat.zero_le _,by omega,n23.ge⟩
 rw[←hKw] at hWs
 have hpos:∀q,(K.at_ q).pos=endPos l q:=fun q=>by unfold Ctx.at_ endPos;rw[hKw,hKe]
 have hposl:=endPos_le l hl
 subst hKg
 have htm:=exprS_any K hKok hWs 0 0 0 false false (fun _=>⟨rfl,rfl,by omega⟩) _ sw
 have hk2:=k2.lt
 have hg2:g2<K.g:=by omega
 have hsz0:=bel.size
 clear k23
 refine Zc (Ze Tryz.func33) htm ?_
 rintro e w6 ⟨hf6,v6,x,p6,o6,dp6,bd6,rfl,⟨S6,hr6,hb6⟩,sw6,hres,-⟩
 refine⟨_,rfl,?_⟩
 have hres:=hres rfl
 have bel6:Below w.heap.size w w6:=bel.trans (hf6.below (by omega) (by omega))
 have k26:=k2.fz hf6 (by omega)
 clear bel k2 sw htm
 have bel:=bel6
 have k2:=k26
 have hs6:=hf6.size
 obtain⟨A1,c1,hvX⟩:=hr6.form
 subst hvX
 have hfull:(fullP K.ws).E 0 0 0=exprQ (lexAll l).1:=by rw[hKw];rfl
 rw[hfull] at hres
 have hq6:=sw6.p_le
 have sw:=sw6
 have rs:ReS _ w6.heap.size S6 x (.agg #[.int .i64 x.op, .int .i64 x.n, .string (strOf x.name), .slice A1 x.args.length c1]) w6:=⟨hr6,hb6,Nat.le_refl _⟩
 refine Zl zero_api_Expr ?_
 intro g8 w3 n8
 have q8:=n8.ge
 have e8:=Nat.le_trans bel.size n8.ge
 have l8:=Nat.lt_of_lt_of_le k2.lt n8.ge
 replace bel:=bel.step n8.below
 replace k2:=k2.step n8.below
 replace sw:=sw.step n8.below
 replace rs:=rs.step n8.below
 have k8:=n8.blk
 refine Zo 4 k8 ?_
 intro w4 pw4
 replace bel:=bel.put k8 pw4 e8
 replace k2:=k2.put pw4 (by omega)
 replace sw:=sw.put k8 pw4 e8
 replace rs:=rs.put k8 pw4 e8
 replace k8:=pw4.blk
 refine Zk9 0 2 3 4 5 6 7 8 18 (Ztq ?_)
 refine Zm ?_
 refine Zm ?_
 refine Zv (Runs.lenL rfl rfl Tryz.underlying9) ?_
 have hen:=fun W h=>ends_any K hKok p6 o6 dp6 bd6 W h
 simp only[hpos,hKe,hKw] at hen
 refine Zc (Ze Tryz.func28) (hen _ sw) ?_
 rintro e w7 ⟨rfl,hb7⟩
 refine⟨_,rfl,?_⟩
 replace bel:=bel.step hb7
 replace k2:=k2.step hb7
 replace sw:=sw.step hb7
 replace rs:=rs.step hb7
 replace k8:=k8.step hb7
 obtain⟨R,hR⟩:∃R,R=exprQ (lexAll l).1:=⟨_,rfl⟩
 rw[←hR] at hres hpn hpo
 rw[hKw] at hq6
 have hlen:p6<(lexAll l).1.length→parAt l R=(endPos l p6,11)∨(dp6=true):=fun hp=>by
  unfold resQ at hres
  unfold parAt
  rw[if_neg (by omega),h2]
  cases R with
  |out=>exact hres.elim
  |bad a ov=>
   obtain⟨rfl,rfl,rfl,-⟩:=hres
   cases dp6 with
   |true=>exact .inr rfl
   |false=>exact .inl rfl
  |ok a b=>
   obtain⟨rfl,rfl,-,rfl,-⟩:=hres
   exact .inl (if_neg (by omega))
 cases dp6 with
 |true=>
  have hpa:parAt l R=(0,13):=by
   unfold resQ at hres
   unfold parAt
   rw[if_neg (by omega),h2]
   cases R with
   |out=>exact hres.elim
   |ok a b=>cases hres.2.2.2.1
   |bad a ov=>
    obtain⟨rfl,rfl,rfl,-⟩:=hres
    rfl
  have hps:=hpn _ _ hpa (by omega)
  refine Za ?_
  refine Zk10 0 2 3 4 5 6 7 8 9 18 (Zts (Zsr ?_))
  refine Zm ?_
  refine Zv (Runs.eqlI rfl rfl rfl) ?_
  refine Zk11 0 2 3 4 5 6 7 8 9 18 31 (Zt ?_)
  refine Cd.condT rfl (by rfl) ?_
  refine Zsr ?_
  refine Zv (Runs.build rfl rfl (run_build_E0 _)) ?_
  refine Zo 4 k2 ?_
  intro w5 pw5
  replace bel:=bel.put k2 pw5 e2
  replace rs:=rs.put k2 pw5 e2
  replace k8:=k8.put pw5 (by omega)
  replace k2:=pw5.blk
  refine Za ?_
  refine Za ?_
  refine Zk11 0 2 3 4 5 6 7 8 9 18 31 (Zt (Cd.ret (Post.then_ret ?_)))
  refine Post.endC3 rfl rfl rfl rfl k2 Tryz.underlying35 rfl (m:=4) (by kernel_rfl) rfl (.inl rfl) ?_
  rw[hps]
  exact⟨bel,_,fun _=>False,rfl,RepE.zero _ _,fun b hb=>hb.elim⟩
 |false=>
  have hlen:p6<(lexAll l).1.length→parAt l R=(endPos l p6,11):=fun hp=>(hlen hp).elim id (fun h=>by cases h)
  have hp6:=hposl p6
  rw[if_neg (by simp)]
  rcases Nat.lt_or_ge p6 (lexAll l).1.length with hp|hp
  ·have hps:=hpn _ _ (hlen hp) (by omega)
   rw[if_pos hp]
   refine Za ?_
   refine Zk10 0 2 3 4 5 6 7 8 9 18 (Zts (Zsr ?_))
   refine Zm ?_
   refine Zv (Runs.eqlI rfl rfl rfl) ?_
   refine Zk11 0 2 3 4 5 6 7 8 9 18 31 (Zt ?_)
   refine Cd.condF rfl (decide_eq_false (by omega)) ?_
   refine Cd.skip (Zts (Zsr ?_))
   refine Zm ?_
   refine Zv (Runs.geq rfl rfl rfl) ?_
   refine Zk12 0 2 3 4 5 6 7 8 9 18 31 34 (Zt ?_)
   refine Cd.condT rfl (decide_eq_true (by omega)) ?_
   refine Zsr ?_
   refine Zv (Runs.build rfl rfl (run_build_E0 _)) ?_
   refine Zm ?_
   refine Zo 4 k2 ?_
   intro w5 pw5
   replace bel:=bel.put k2 pw5 e2
   replace rs:=rs.put k2 pw5 e2
   replace k8:=k8.put pw5 (by omega)
   replace k2:=pw5.blk
   refine Za ?_
   refine Za ?_
   refine Zk12 0 2 3 4 5 6 7 8 9 18 31 34 (Zt (Cd.ret (Post.then_ret ?_)))
   refine Post.endC3 rfl rfl rfl rfl k2 Tryz.underlying35 rfl (m:=4) (by kernel_rfl) rfl (.inl rfl) ?_
   rw[hps]
   exact⟨bel,_,fun _=>False,rfl,RepE.zero _ _,fun b hb=>hb.elim⟩
  rw[if_neg (by omega)]
  have hpe:p6=(lexAll l).1.length:=by omega
  cases bd6 with
  |true=>
   have hpa:parAt l R=(endPos l p6,11):=by
    unfold resQ at hres
    unfold parAt
    rw[if_neg (by omega),h2]
    cases R with
    |out=>exact hres.elim
    |ok a b=>cases hres.2.2.2.2
    |bad a ov=>
     obtain⟨rfl,rfl,-⟩:=hres
     rfl
   have hel:endPos l p6=l.length:=by
    unfold endPos
    rw[List.getD_eq_getElem?_getD,List.getElem?_eq_none hp]
    rfl
   have hps:=hpn _ _ hpa (by omega)
   rw[hel] at hps
   rw[if_pos rfl]
   refine Za ?_
   refine Zk10 0 2 3 4 5 6 7 8 9 18 (Zts (Zsr ?_))
   refine Zm ?_
   refine Zv (Runs.eqlI rfl rfl rfl) ?_
   refine Zk11 0 2 3 4 5 6 7 8 9 18 31 (Zt ?_)
   refine Cd.condF rfl (decide_eq_false (by omega)) ?_
   refine Cd.skip (Zts (Zsr ?_))
   refine Zm ?_
   refine Zv (Runs.geq rfl rfl rfl) ?_
   refine Zk12 0 2 3 4 5 6 7 8 9 18 31 34 (Zt ?_)
   refine Cd.condT rfl (decide_eq_true (by omega)) ?_
   refine Zsr ?_
   refine Zv (Runs.build rfl rfl (run_build_E0 _)) ?_
   refine Zm ?_
   refine Zo 4 k2 ?_
   intro w5 pw5
   replace bel:=bel.put k2 pw5 e2
   replace rs:=rs.put k2 pw5 e2
   replace k8:=k8.put pw5 (by omega)
   replace k2:=pw5.blk
   refine Za ?_
   refine Za ?_
   refine Zk12 0 2 3 4 5 6 7 8 9 18 31 34 (Zt (Cd.ret (Post.then_ret ?_)))
   refine Post.endC3 rfl rfl rfl rfl k2 Tryz.underlying35 rfl (m:=4) (by kernel_rfl) rfl (.inl rfl) ?_
   rw[hps]
   exact⟨bel,_,fun _=>False,rfl,RepE.zero _ _,fun b hb=>hb.elim⟩
  |false=>
   have hok:R= .ok x p6:=by
    unfold resQ at hres
    cases R with
    |out=>exact hres.elim
    |bad a ov=>cases hres.2.2.1
    |ok a b=>
     obtain⟨rfl,rfl,-⟩:=hres
     rfl
   have hpa:parAt l R=(0,0):=by
    unfold parAt
    rw[if_neg (by omega),h2,hok]
    exact if_pos hpe
   have hps:=hpo _ _ hpa hok
   have hnd:=(fuel_nd _ _).E 0 _ _ _ _ (hR.symm.trans hok)
   have hbt:=exprQ_built hl (hR.symm.trans hok)
   have hwl:=ctx_ok l hl h4 (B:=0) (g:=0) (c:=0) (A:=none) (Nat.le_refl 0)
   have hwl:(lexAll l).1.length≤4000:=hwl.len
   have hdn:=x.depth_nodes
   have hri:rightB x=(decide (x.nodes≤200)&&decide (x.depth≤16)):=by unfold rightB;rw[hbt,Bool.and_true]
   rw[if_neg (by simp)]
   have k8:Blk _ g8 35 #[.int .i64 x.op, .int .i64 x.n, .string (strOf x.name), .slice A1 x.args.length c1]:=k8
   have hrb:Rep _ _ x (.agg #[.int .i64 x.op, .int .i64 x.n, .string (strOf x.name), .slice A1 x.args.length c1]):=rs.rep.mono (fun b hb=>Nat.lt_of_lt_of_le (rs.bd b hb).2 rs.hi_le) (fun _ _=>rfl)
   have hszc:=fun W (hb:Below w7.heap.size w7 W)=>sizeR_any x.nodes x w7.heap.size _ W (Nat.le_refl _) (by omega) (hrb.below hb) hb.size
   have hloc:=Below.refl w7.heap.size w7
   refine Za ?_
   refine Zk10 0 2 3 4 5 6 7 8 9 18 (Zts (Zsr ?_))
   refine Zm ?_
   refine Zv (Runs.eqlI rfl rfl rfl) ?_
   refine Zk11 0 2 3 4 5 6 7 8 9 18 31 (Zt ?_)
   refine Cd.condF rfl (decide_eq_false (by omega)) ?_
   refine Cd.skip (Zts (Zsr ?_))
   refine Zm ?_
   refine Zv (Runs.geq rfl rfl rfl) ?_
   refine Zk12 0 2 3 4 5 6 7 8 9 18 31 34 (Zt ?_)
   refine Cd.condF rfl (decide_eq_false (by omega)) ?_
   refine Cd.skip (Zts (Zsr ?_))
   refine Zv (Runs.loadW rfl rfl Tryz.underlying35 rfl k8 (m:=4) (by kernel_rfl) rfl) ?_
   refine Zc (Ze Tryz.func34) (hszc _ hloc) ?_
   rintro e w8 ⟨rfl,hb8⟩
   refine⟨_,rfl,?_⟩
   replace bel:=bel.step hb8
   replace k2:=k2.step hb8
   replace rs:=rs.step hb8
   replace k8:=k8.step hb8
   replace hloc:=hloc.step hb8
   refine Zm ?_
   refine Zv (Runs.extract rfl rfl rfl) ?_
   refine Zv (Runs.extract rfl rfl rfl) ?_
   refine Za ?_
   refine Za ?_
   refine Zk14 0 2 3 4 5 6 7 8 9 10 11 18 31 34 (Ztq ?_)
   refine Zm ?_
   refine Zv (Runs.gtr rfl rfl rfl) ?_
   refine Zm ?_
   refine SeqC.start ?_
   refine Zco (fun hcx=>Runs.move rfl rfl) ?_
   refine SeqC.next rfl rfl rfl rfl rfl rfl rfl (fun hcx=>Runs.gtr rfl rfl rfl) ?_
   refine SeqC.or rfl rfl rfl rfl rfl rfl rfl ?_
   refine Zk15 0 2 3 4 5 6 7 8 9 10 11 18 31 34 47 (Zt ?_)
   refine Cd.cond rfl (fun hc=> ?_) (fun hc=> ?_)
   ·have hc:¬(x.nodes≤200∧x.depth≤16):=by
     simp at hc
     omega
    have hr0:rightB x=false:=by
     rw[hri]
     rcases Nat.lt_or_ge 200 x.nodes with h|h
     ·rw[decide_eq_false (by omega)];rfl
     ·rw[decide_eq_false (show¬x.depth≤16 by omega),Bool.and_false]
    rw[hr0,if_neg (by simp)] at hps
    refine Zsr ?_
    refine Zv (Runs.build rfl rfl (run_build_E0 _)) ?_
    refine Zo 4 k2 ?_
    intro w5 pw5
    replace bel:=bel.put k2 pw5 e2
    replace rs:=rs.put k2 pw5 e2
    replace k8:=k8.put pw5 (by omega)
    replace k2:=pw5.blk
    refine Za ?_
    refine Za ?_
    refine Zk15 0 2 3 4 5 6 7 8 9 10 11 18 31 34 47 (Zt (Cd.ret (Post.then_ret ?_)))
    refine Post.endC3 rfl rfl rfl rfl k2 Tryz.underlying35 rfl (m:=4) (by kernel_rfl) rfl (.inl rfl) ?_
    rw[hps]
    exact⟨bel,_,fun _=>False,rfl,RepE.zero _ _,fun b hb=>hb.elim⟩
   ·have hc:x.nodes≤200∧x.depth≤16:=by
     simp at hc
     omega
    have hr0:rightB x=true:=by
     rw[hri,decide_eq_true hc.1,decide_eq_true hc.2]
     rfl
    rw[hr0,if_pos rfl] at hps
    have hwB:=rs.bd
    have hwl2:=rs.hi_le
    have k2l:=k2.lt
    refine Cd.skip (Ztq ?_)
    refine Zv (Runs.loadW rfl rfl Tryz.underlying35 rfl k8 (m:=4) (by kernel_rfl) rfl) ?_
    refine Zo 4 k2 ?_
    intro w5 pw5
    replace bel:=bel.put k2 pw5 e2
    replace rs:=rs.put k2 pw5 e2
    replace k8:=k8.put pw5 (by omega)
    replace k2:=pw5.blk
    refine Za ?_
    refine Za ?_
    refine Zk15 0 2 3 4 5 6 7 8 9 10 11 18 31 34 47 (Zt (Cd.ret ?_))
    refine Post.endC3 rfl rfl rfl rfl k2 Tryz.underlying35 rfl (m:=4) (by kernel_rfl) rfl (.inl rfl) ?_
    rw[hps]
    exact⟨bel,_,S6,rfl,rs.rep,fun b hb=>by have:=hwB b hb;have:=rs.hi_le;omega⟩
end Go.Proofs.YtaamkfajnpobfaaGreat
namespace Go.Proofs.YtaamkfajnpobfaaGreat
open Go.RowKit
def BoolV (p:Prop)(v:Value)(_w:World):Prop:=∃b,v= .bool b∧(b=false→p)
theorem BoolV.stable (p:Prop):∀v w w',Grow w w'→BoolV p v w→BoolV p v w':=fun _ _ _ _ h=>h
def BoolT (p:Prop)(v:Value)(_w:World):Prop:=∃b,v= .bool b∧(b=true→p)
theorem BoolT.stable (p:Prop):∀v w w',Grow w w'→BoolT p v w→BoolT p v w':=fun _ _ _ _ h=>h
theorem sameEx_any (N:Nat):∀(e e':Ex) (B:Nat) (v u:Value) (w:World),e.nodes≤N→Rep w B e v→Rep w B e' u→B≤w.heap.size→Calls Tryz.prog 12 #[v,u] w fun en w'=>(∃b,en= .returned (.bool b)∧(b=true→e=e'))∧Grow w w':=by
 induction N with
 |zero=>intro e e' B v u w hN;have:=e.nodes_pos;omega
 |succ N ih=>
 intro e e' B v u w hN hrep hrep' hB
 obtain⟨A,c,rfl,hv⟩:=hrep.open
 obtain⟨A',c',rfl,hv'⟩:=hrep'.open
 have bel:=Below.refl w.heap.size w
 have h60:=hv.h60
 have hnm:=hv.name
 have hnm':=hv'.name
 refine Zs 53 Tryz.func12 ?_
 refine Zsr ?_
 refine Seq.box rfl rfl rfl rfl rfl ?_
 intro g2 w1 n2
 have e2:=Nat.le_trans bel.size n2.ge
 replace bel:=bel.step n2.below
 have k2:=n2.blk
 refine Seq.box rfl rfl rfl rfl rfl ?_
 intro g3 w2 n3
 have e3:=Nat.le_trans bel.size n3.ge
 have l3:=Nat.lt_of_lt_of_le k2.lt n3.ge
 replace bel:=bel.step n3.below
 replace k2:=k2.step n3.below
 have k3:=n3.blk
 refine Za ?_
 refine Zk5 0 1 2 3 4 (Zts (Zsr ?_))
 refine Zf 0 Tryz.underlying35 ?_
 refine Zv (Runs.loadB rfl rfl Tryz.underlying3 rfl k2 rfl) ?_
 refine Zf 0 Tryz.underlying35 ?_
 refine Zv (Runs.loadB rfl rfl Tryz.underlying3 rfl k3 rfl) ?_
 refine Zv (Runs.neqI rfl rfl rfl) ?_
 refine Zm ?_
 refine SeqC.start ?_
 refine Zco (fun hcx=>Runs.fieldB 1 rfl rfl Tryz.underlying35 rfl (by kernel_rfl)) ?_
 refine SeqC.next rfl rfl rfl rfl rfl rfl rfl (fun hcx=>Runs.loadB rfl rfl Tryz.underlying2 rfl k2 rfl) ?_
 refine SeqC.next rfl rfl rfl rfl rfl rfl rfl (fun hcx=>Runs.fieldB 1 rfl rfl Tryz.underlying35 rfl (by kernel_rfl)) ?_
 refine SeqC.next rfl rfl rfl rfl rfl rfl rfl (fun hcx=>Runs.loadB rfl rfl Tryz.underlying2 rfl k3 rfl) ?_
 refine SeqC.next rfl rfl rfl rfl rfl rfl rfl (fun hcx=>Runs.neqI rfl rfl rfl) ?_
 refine SeqC.or rfl rfl rfl rfl rfl rfl rfl ?_
 refine Zm ?_
 refine SeqC.start ?_
 refine Zco (fun hcx=>Runs.fieldB 2 rfl rfl Tryz.underlying35 rfl (by kernel_rfl)) ?_
 refine SeqC.next rfl rfl rfl rfl rfl rfl rfl (fun hcx=>Runs.loadB rfl rfl Tryz.underlying9 rfl k2 rfl) ?_
 refine SeqC.next rfl rfl rfl rfl rfl rfl rfl (fun hcx=>Runs.fieldB 2 rfl rfl Tryz.underlying35 rfl (by kernel_rfl)) ?_
 refine SeqC.next rfl rfl rfl rfl rfl rfl rfl (fun hcx=>Runs.loadB rfl rfl Tryz.underlying9 rfl k3 rfl) ?_
 refine SeqC.next rfl rfl rfl rfl rfl rfl rfl (fun hcx=>Runs.neqL (a:=e.name) (b:=e'.name) rfl rfl rfl hnm hnm') ?_
 refine SeqC.or rfl rfl rfl rfl rfl rfl rfl ?_
 refine Zm ?_
 refine SeqC.start ?_
 refine Zco (fun hcx=>Runs.fieldB 3 rfl rfl Tryz.underlying35 rfl (by kernel_rfl)) ?_
 refine SeqC.next rfl rfl rfl rfl rfl rfl rfl (fun hcx=>Runs.loadB rfl rfl Tryz.underlying22 rfl k2 rfl) ?_
 refine SeqC.next rfl rfl rfl rfl rfl rfl rfl (fun hcx=>Runs.len rfl rfl Tryz.underlying22) ?_
 refine SeqC.next rfl rfl rfl rfl rfl rfl rfl (fun hcx=>Runs.fieldB 3 rfl rfl Tryz.underlying35 rfl (by kernel_rfl)) ?_
 refine SeqC.next rfl rfl rfl rfl rfl rfl rfl (fun hcx=>Runs.loadB rfl rfl Tryz.underlying22 rfl k3 rfl) ?_
 refine SeqC.next rfl rfl rfl rfl rfl rfl rfl (fun hcx=>Runs.len rfl rfl Tryz.underlying22) ?_
 refine SeqC.next rfl rfl rfl rfl rfl rfl rfl (fun hcx=>Runs.neqI rfl rfl rfl) ?_
 refine SeqC.or rfl rfl rfl rfl rfl rfl rfl ?_
 refine Zk6 0 1 2 3 4 33 (Zt ?_)
 refine Cd.cond rfl (fun hc=> ?_) (fun hc=> ?_)
 ·skip
  refine Zsr ?_
  refine Za ?_
  refine Zk6 0 1 2 3 4 33 (Zt (Cd.ret (Post.then_ret ?_)))
  refine Post.end1 rfl rfl (.inl rfl) ?_
  exact⟨⟨false,rfl,fun h=>by cases h⟩,bel⟩
 obtain⟨ho,hn,hna,hle⟩:e.op=e'.op∧e.n=e'.n∧e.name=e'.name∧e.args.length=e'.args.length:=by
  simp at hc
  exact⟨hc.1.1.1,hc.1.1.2,hc.1.2,by omega⟩
 refine Cd.skip (Zts (Zsr ?_))
 refine Za ?_
 refine Zk7 0 1 2 3 4 5 33 (Zt (Cd.block ?_))
 refine Cd.loop (σ:=Nat) (fun i=>[(2, .pointer (some ⟨g2,0,none⟩)),(3, .pointer (some ⟨g3,0,none⟩)),(5, .int .i64 (i:Int))])
  (fun i wr=>i≤e.args.length∧Below w.heap.size w wr∧(∀j,j<i→e.args[j]? =e'.args[j]?)∧Blk wr g2 35 #[.int .i64 e.op, .int .i64 e.n, .string (strOf e.name), .slice A e.args.length c]∧Blk wr g3 35 #[.int .i64 e'.op, .int .i64 e'.n, .string (strOf e'.name), .slice A' e'.args.length c']) (fun i=>e.args.length-i) 0 ⟨Nat.zero_le _,bel,fun j h=>absurd h (by omega),k2,k3⟩ ⟨rfl,rfl,rfl,trivial⟩ ?_
 clear bel k2 k3
 rintro i wr ⟨hi,bel,heq,k2,k3⟩
 refine Cd.seq (Zsr ?_)
 refine Zm ?_
 refine Zf 3 Tryz.underlying35 ?_
 refine Zv (Runs.loadB rfl rfl Tryz.underlying22 rfl k2 rfl) ?_
 refine Zv (Runs.len rfl rfl Tryz.underlying22) ?_
 refine Zv (Runs.lss rfl rfl rfl) ?_
 refine Zk4 2 3 5 38 (Zt ?_)
 refine Cd.condD rfl (fun hc=> ?_) (fun hc=> ?_)
 ·obtain⟨x,hx⟩:∃x,e.args[i]? =some x:=⟨_,List.getElem?_eq_getElem (show i<e.args.length by omega)⟩
  obtain⟨x',hx'⟩:∃x,e'.args[i]? =some x:=⟨_,List.getElem?_eq_getElem (show i<e'.args.length by omega)⟩
  obtain⟨ad,Ax,cx,rfl,hbl,hrx,hc⟩:=hv.arg i x hx
  obtain⟨ad',Ax',cx',rfl,hbl',hrx',hc'⟩:=hv'.arg i x' hx'
  have hxm:=List.mem_of_getElem? hx
  have hxn:=Ex.arg_nodes hxm
  have hc:=fun W (hb:Below w.heap.size w W) j u hj=>((hb.mono hB).cell (p:=(ad.add (i*4)).add j) (by rw[block_of_add,block_of_add];exact hbl)).trans (hc j u hj)
  have hc':=fun W (hb:Below w.heap.size w W) j u hj=>((hb.mono hB).cell (p:=(ad'.add (i*4)).add j) (by rw[block_of_add,block_of_add];exact hbl')).trans (hc' j u hj)
  have hrec:=fun W (hb:Below w.heap.size w W)=>(ih x x' B _ _ W (by omega) (hrx.below (hb.mono hB)) (hrx'.below (hb.mono hB)) (Nat.le_trans hB hb.size)).mono (R':=fun e w'=>∃v,e= .returned v∧Grow W w'∧BoolT (x=x') v w') fun e w' ⟨⟨b,h1,h2⟩,h3⟩=>⟨_,h1,h3,b,rfl,h2⟩
  refine Cd.skip (Zts (Cd.block (Cd.seq ?_)))
  refine Cd.draw 12 (by kernel_rfl) [] (.inl rfl) rfl Grow Grow.refl (fun _ _ _=>Grow.trans) ?_
  intro w3 hw3 zw3
  replace bel:=bel.step hw3
  replace k2:=k2.step hw3
  replace k3:=k3.step hw3
  have zbel:=bel.size
  have zlt:=k3.lt
  refine Zd (fun w hG=>Runs.fieldB 3 rfl rfl Tryz.underlying35 rfl (by kernel_rfl)) ?_
  refine Zd (fun w hG=>Runs.loadB rfl rfl Tryz.underlying22 rfl (k2.step hG) rfl) ?_
  refine Zdm ?_
  refine Zd (fun w hG=>Runs.indexN rfl rfl rfl Tryz.underlying22 (s:=4) (by kernel_rfl) (j:=i) rfl (by omega)) ?_
  refine Zd (fun w hG=>Runs.loadF (ps:=[.int .i64 x.op, .int .i64 x.n, .string (strOf x.name), .slice Ax x.args.length cx]) rfl rfl Tryz.underlying35 rfl (m:=4) (by kernel_rfl) rfl (hc _ (bel.step hG))) ?_
  refine Zd (fun w hG=>Runs.fieldB 3 rfl rfl Tryz.underlying35 rfl (by kernel_rfl)) ?_
  refine Zd (fun w hG=>Runs.loadB rfl rfl Tryz.underlying22 rfl (k3.step hG) rfl) ?_
  refine Zdm ?_
  refine Zd (fun w hG=>Runs.indexN rfl rfl rfl Tryz.underlying22 (s:=4) (by kernel_rfl) (j:=i) rfl (by omega)) ?_
  refine Zd (fun w hG=>Runs.loadF (ps:=[.int .i64 x'.op, .int .i64 x'.n, .string (strOf x'.name), .slice Ax' x'.args.length cx']) rfl rfl Tryz.underlying35 rfl (m:=4) (by kernel_rfl) rfl (hc' _ (bel.step hG))) ?_
  refine Dr.call (Φ:=BoolT (x=x')) rfl (fun w=>Ze Tryz.func12) rfl (BoolT.stable _) (fun w hG=>hrec w (bel.step hG)) ?_
  refine Dr.val1 (j:=10) (Φ:=BoolV (x=x')) Grow.refl rfl rfl rfl (BoolV.stable _) rfl (fun u w hG hu=>by obtain⟨b,rfl,hb⟩:=hu;exact⟨_,Runs.not rfl rfl,!b,rfl,fun h=>hb (by simpa using h)⟩) ?_
  refine Dr.nil ?_
  refine FinX.open (j:=11) rfl ?_
  intro u11
  refine FinX.done (F':=[(2,_),(3,_),(5,_),(38,_),(52,_)]) rfl ⟨rfl,rfl,rfl,rfl,rfl,trivial⟩ ?_
  intro w4 hw4 fw4
  replace bel:=bel.step hw4
  replace k2:=k2.step hw4
  replace k3:=k3.step hw4
  obtain⟨-,b,rfl,hb⟩:=fw4
  refine Zk5 2 3 5 38 52 (Zt ?_)
  refine Cd.cond rfl (fun hc2=> ?_) (fun hc2=> ?_)
  ·skip
   refine Zsr ?_
   refine Za ?_
   refine Zk6 2 3 4 5 38 52 (Zt (Cd.ret (Post.block_ret (Post.then_ret (Post.round_ret (Post.block_ret (Post.then_ret ?_)))))))
   refine Post.end1 rfl rfl (.inl rfl) ?_
   exact⟨⟨false,rfl,fun h=>by cases h⟩,bel⟩
  ·skip
   refine Cd.skip (Post.block_normal (Ztr ?_))
   refine Zm ?_
   refine Za_ ?_
   refine Za ?_
   refine Zk5 2 3 5 38 52 ?_
   refine Post.round (i+1) ⟨rfl,rfl,rfl,trivial⟩ ⟨by omega,bel,fun j hj=> ?_,k2,k3⟩ (by omega)
   rcases Nat.lt_or_ge j i with h|h
   ·exact heq j h
   ·obtain rfl:j=i:=by omega
    rw[hx,hx',hb hc2]
 ·obtain rfl:i=e.args.length:=by omega
  refine Cd.exit (Post.then_exit (Post.round_exit (Post.block_exit (Ztq ?_))))
  refine Za ?_
  refine Zk5 2 3 4 5 38 (Zt (Cd.ret ?_))
  refine Post.end1 rfl rfl (.inl rfl) ?_
  refine⟨⟨true,rfl,fun _=> ?_⟩,bel⟩
  have hargs:e.args=e'.args:=List.ext_getElem? fun j=>by
   rcases Nat.lt_or_ge j e.args.length with h|h
   ·exact heq j h
   ·rw[List.getElem?_eq_none h,List.getElem?_eq_none (by omega)]
  rw[e.eta,e'.eta,ho,hn,hna,hargs]
theorem Own.pop {w:World}{B n c:Nat}{e:TypeId}{A:Option Addr}{xs:List Value}(o:Own w B e 1 (.slice A (n+1) c) (n+1) xs):Own w B e 1 (.slice A n c) n (xs.take n):=by
 obtain⟨h1,⟨-,h3⟩|⟨g,cap,cur,hv,e2,e3,e4,e5,e6,e7⟩⟩:=o.row
 ·omega
 ·injection hv with hv1 _ hv3
  subst hv1 hv3
  refine⟨by rw[List.length_take];omega, .inr ⟨g,c,cur,rfl,e2,e3,by omega,e5,e6,?_⟩⟩
  rw[←e7,List.take_take]
  congr 1
  omega
theorem Own.cap {w:World}{B n c:Nat}{e:TypeId}{size:Nat}{A:Option Addr}{xs:List Value}(o:Own w B e size (.slice A n c) n xs):n≤c:=by
 obtain⟨h1,⟨hv,h3⟩|⟨g,cap,cur,hv,e2,e3,e4,e5,e6,e7⟩⟩:=o.row
 ·omega
 ·injection hv with hv1 _ hv3
  omega
section
variable {P:Program} {E:Operand→Option Value} {o:Oper} {w:World} {x y:Operand} {T:TypeId}
theorem Runs.indexP {k:IntKind}{g j len e s:Nat}{p:Int}(ho:o.op= .indexAddr T x y)(hx:E x=some (.pointer (some ⟨g,0,none⟩)))(hy:E y=some (.int k p))(hT:P.underlying T=some (.array len e))(hs:sizeIs P e s=true)(hp:p=(j:Int))(hlt:j<len):Runs P E o w (.pointer (some ⟨g,j*s,none⟩)) w:=fun ρ h=>by
 subst hp
 obtain⟨i,hi,hsz⟩:=sizeIs_spec hs
 unfold execOp;simp only[ho];rw[h _ _ hx,h _ _ hy]
 simp[Instr.indexAt,Instr.sureAddr,run_underlying hT,asIntOf,sizeOf,typeInfo,hi,hlt,hsz,Addr.add]
 exact fun h=>h.symm
theorem addr_zero (ad:Addr):ad.add 0=ad:=by unfold Addr.add;simp
theorem Runs.sliceN {k:IntKind}{A:Option Addr}{n c e s j:Nat}{p:Int}(ho:o.op= .slice T x none (some y) none)(hx:E x=some (.slice A n c))(hy:E y=some (.int k p))(hT:P.underlying T=some (.slice e))(hs:sizeIs P e s=true)(hp:p=(j:Int))(hj:j≤c):Runs P E o w (.slice A j c) w:=fun ρ h=>by
 subst hp
 have he:P.elem T=e:=by simp[Program.elem,hT]
 have hT':P.underlying T=some (.slice (P.elem T)):=by rw[he];exact hT
 obtain⟨i,hi,hsz⟩:=sizeIs_spec hs
 have h1:=run_slice_h (P:=P) (w:=w) T A n c hT' k (j:Int) (by omega) (by omega)
 rw[he,run_sizeOf (h:=hi)] at h1
 unfold execOp;simp only[ho,Option.map_some,Option.map_none];rw[h _ _ hx,h _ _ hy]
 simp only[Sem.run_bind,run_sliceAt_slice (h:=hT'),h1,Result.andThen_ok]
 have h2:sliced A 0 j c (P.cellsOf e)= .slice A j c:=by
  unfold sliced
  congr 1
  split
  ·rfl
  ·cases A<;>simp[addr_zero]
 rw[Int.toNat_natCast,h2]
 rfl
end
end Go.Proofs.YtaamkfajnpobfaaGreat
namespace Go.Proofs.YtaamkfajnpobfaaGreat
abbrev Tok:=Int × List Nat × Int
def Wd.tok (x:Wd):Tok:=(x.kind,x.text,x.n)
inductive Lex:List Nat→List Tok→Prop
 |nil {l:List Nat} (h:blankN l=l.length):Lex l []
 |cons {l t:List Nat} {k n:Int} {T:List Tok} (h:nextW (l.drop (blankN l))=some (k,t,n)) (hr:Lex ((l.drop (blankN l)).drop t.length) T):Lex l ((k,t,n)::T)
theorem Lex.words {l:List Nat}{T:List Tok}(h:Lex l T):∀(L:List Nat) (p f:Nat),L.drop p=l→p≤L.length→L.length+1≤f+p→∃ws,lexW f L (p+blankN l)=(ws,none)∧ws.map Wd.tok=T:=by
 induction h with
 | @nil l h=>
  intro L p f hd hp hf
  have hl:l.length=L.length-p:=by rw[←hd,List.length_drop]
  exact⟨[],lexW_end _ _ _ (by omega),rfl⟩
 | @cons l t k n T h hr ih=>
  intro L p f hd hp hf
  obtain⟨h1,h2,h3⟩:=nextW_spec h
  have hl:l.length=L.length-p:=by rw[←hd,List.length_drop]
  rw[List.length_drop] at h3
  have hb:=blankN_le l
  have hdd:L.drop (p+blankN l)=l.drop (blankN l):=by rw[←hd,List.drop_drop]
  obtain⟨f,rfl⟩:∃f',f=f'+1:=⟨f-1,by omega⟩
  have hdr:L.drop (p+blankN l+t.length)=(l.drop (blankN l)).drop t.length:=by rw[←hdd,List.drop_drop]
  obtain⟨ws,hw,hm⟩:=ih L (p+blankN l+t.length) f hdr (by omega) (by omega)
  refine⟨⟨k,t,n,p+blankN l⟩::ws,?_,?_⟩
  ·rw[lexW_step f L _ (by omega),hdd,h]
   dsimp only
   rw[hdr,hw]
  ·rw[List.map_cons,hm]
   rfl
theorem Lex.all {l:List Nat}{T:List Tok}(h:Lex l T):(lexAll l).2=none∧(lexAll l).1.map Wd.tok=T:=by
 obtain⟨ws,hw,hm⟩:=h.words l 0 (l.length+1) rfl (Nat.zero_le _) (by omega)
 rw[Nat.zero_add] at hw
 unfold lexAll
 rw[hw]
 exact⟨rfl,hm⟩
theorem blankN_b {c:Nat}(h:blankB c=true)(l:List Nat):blankN (c::l)=blankN l+1:=by rw[blankN_step,if_pos h]
theorem blankN_0 {c:Nat}(h:blankB c=false)(h2:c≠35)(l:List Nat):blankN (c::l)=0:=by rw[blankN_step,if_neg (by rw[h];simp),if_neg h2]
theorem lex_blank {c:Nat}{l:List Nat}{T:List Tok}(hb:blankB c=true)(h:Lex l T):Lex (c::l) T:=by
 cases h with
 |nil h=>exact .nil (by rw[blankN_b hb,h];rfl)
 |cons h hr=>exact .cons (by rw[blankN_b hb,List.drop_succ_cons];exact h) (by rw[blankN_b hb,List.drop_succ_cons];exact hr)
theorem lex_blanks {b l:List Nat}{T:List Tok}(hb:∀c∈b,blankB c=true)(h:Lex l T):Lex (b++l) T:=by
 induction b with
 |nil=>exact h
 |cons c b ih=>exact lex_blank (hb c (by simp)) (ih fun d hd=>hb d (by simp[hd]))
theorem lex_tok {t r:List Nat}{k n:Int}{T:List Tok}(hn:nextW (t++r)=some (k,t,n)∧blankN (t++r)=0)(h:Lex r T):Lex (t++r) ((k,t,n)::T):=by
 refine .cons (by rw[hn.2];exact hn.1) ?_
 rw[hn.2,List.drop_zero,List.drop_left]
 exact h
def Good (r:List Nat):Prop:=∀c q,r=c::q→c=32∨c=44∨c=41∨c=10∨c=40
theorem good_nil:Good []:=fun c q h=>by cases h
theorem good_c {c:Nat}{r:List Nat}(h:c=32∨c=44∨c=41∨c=10∨c=40):Good (c::r):=fun d q e=>by injection e with e1 _;subst e1;exact h
theorem Good.part {r:List Nat}(h:Good r):r=[]∨∃c q,r=c::q∧partB c=false∧digB c=false∧c≠45:=by
 cases r with
 |nil=>exact .inl rfl
 |cons c q=>refine .inr ⟨c,q,rfl,?_⟩;rcases h c q rfl with rfl|rfl|rfl|rfl|rfl<;>decide
theorem run_full {p:Nat→Bool}{t:List Nat}(ht:∀x∈t,p x=true){r:List Nat}(hr:r=[]∨∃c q,r=c::q∧p c=false):runN p (t++r)=t.length:=by
 rcases hr with rfl|⟨c,q,rfl,hc⟩
 ·rw[List.append_nil];exact runN_full p t ht
 ·exact runN_stop_at p t q c ht hc
theorem sign_next {s:List Nat}(hs:s∈signsL){r:List Nat}(hr:∀c q,r=c::q→c≠61):nextW (s++r)=some (0,s,0)∧blankN (s++r)=0:=by
 have hsw:signW (s++r)=some s:=by
  simp only[signsL,List.mem_cons,List.not_mem_nil,or_false] at hs
  cases r with
  |nil=>rcases hs with rfl|rfl|rfl|rfl|rfl|rfl|rfl|rfl|rfl|rfl|rfl|rfl|rfl|rfl|rfl|rfl<;>decide
  |cons c q=>
   have:=hr c q rfl
   rcases hs with rfl|rfl|rfl|rfl|rfl|rfl|rfl|rfl|rfl|rfl|rfl|rfl|rfl|rfl|rfl|rfl<;>simp[signW,signsL,this]
 obtain⟨-,c,q,rfl,h1,h2,h3,h4⟩:=sign_again s hs []
 refine⟨?_,?_⟩
 ·have e:(c::q)++r=c::(q++r):=rfl
  rw[e,nextW_cons,h1,if_neg (by simp),h2,if_neg (by simp),←e,hsw]
  rfl
 ·exact blankN_0 h3 h4 _
theorem name_next {t:List Nat}(h:namedB t=true){r:List Nat}(hr:Good r):nextW (t++r)=some (3,t,0)∧blankN (t++r)=0:=by
 unfold namedB at h
 simp only[Bool.and_eq_true,decide_eq_true_eq] at h
 cases t with
 |nil=>simp at h
 |cons c q=>
  have hc:letB c=true:=by first|exact h.1.2|exact h.2|exact h.1.1.2|simpa using h.1.2
  have hrun:runN partB (c::q)=(c::q).length:=by first|exact h.2|exact h.1.2|simpa using h.2
  have h16:(c::q).length≤16:=by first|exact h.1.1.2|exact h.1.2|exact h.1.1.1
  have hall:∀x∈c::q,partB x=true:=by have:=runN_all partB (c::q);rw[hrun,List.take_length] at this;exact this
  have hr2:runN partB ((c::q)++r)=(c::q).length:=run_full hall (by rcases hr.part with h|⟨d,p,h1,h2,-⟩;exact .inl h;exact .inr ⟨d,p,h1,h2⟩)
  have hd:digB c=false:=by
   unfold letB at hc
   unfold digB
   simp at hc⊢
   omega
  refine⟨?_,?_⟩
  ·have e:(c::q)++r=c::(q++r):=rfl
   rw[e,nextW_cons,hd,if_neg (by simp),if_pos hc,←e,hr2,if_pos h16,List.take_left]
  ·refine blankN_0 ?_ ?_ _
   ·unfold letB at hc
    unfold blankB
    simp at hc⊢
    omega
   ·rintro rfl
    revert hc
    decide
theorem rounds_numN (u:Nat)(h:u<10^20):Rounds u 0 (numN u):=by
 have hex:∃N,(List.range 21).find? (fun N=> !(decide (0<u/10^N)||decide (N≤0)))=some N:=by
  cases hf:(List.range 21).find? (fun N=> !(decide (0<u/10^N)||decide (N≤0))) with
  |some N=>exact⟨N,rfl⟩
  |none=>
   have:=List.find?_eq_none.1 hf 20 (by simp)
   rw[Nat.div_eq_of_lt h] at this
   simp at this
 obtain⟨N,hN⟩:=hex
 have hn:numN u=N:=by unfold numN;rw[hN];rfl
 rw[hn]
 rw[List.find?_range_eq_some] at hN
 obtain⟨h1,h2,h3⟩:=hN
 refine⟨fun k hk=> ?_,?_⟩
 ·have:=h3 k hk
  simp only[Bool.not_not,Bool.or_eq_true,decide_eq_true_eq] at this
  exact this
 ·simp only[Bool.not_eq_true',Bool.or_eq_false_iff,decide_eq_false_iff_not] at h1
  rintro(h|h)
  ·exact h1.1 h
  ·exact h1.2 h
theorem num_next {n:Int}(h0:0≤n)(h1:n≤9223372036854775807){r:List Nat}(hr:Good r):nextW (numT n++r)=some (1,numT n,n)∧blankN (numT n++r)=0:=by
 obtain⟨F,B,hf⟩:=form_of_printed n 0 _ (rounds_numN n.natAbs (by omega))
 have he:=hf.eq
 have hB:B=[]:=List.eq_nil_of_length_eq_zero hf.len
 subst hB
 have hT:numT n=F:=by
  unfold numT
  rw[he]
  unfold FormL
  rw[if_neg (by omega),if_neg (by omega),List.append_nil]
  rfl
 rw[hT]
 have hdg:∀x∈F,digB x=true:=fun x hx=>by have:=hf.f x hx;unfold isDg at this;unfold digB;simp;exact this
 have hpt:∀x∈F,partB x=true:=fun x hx=>by unfold partB;rw[hdg x hx];simp
 have hrun:runN partB (F++r)=F.length:=run_full hpt (by rcases hr.part with h|⟨d,p,h1,h2,-⟩;exact .inl h;exact .inr ⟨d,p,h1,h2⟩)
 have hval:valD F=n.natAbs:=by have:=hf.val;rwa [List.append_nil] at this
 obtain⟨c,q,hc⟩:∃c q,F=c::q:=by
  cases F with
  |nil=>have:=hf.pos;simp at this
  |cons c q=>exact⟨c,q,rfl⟩
 have hdc:digB c=true:=hdg c (by rw[hc];simp)
 have hno:dayOk (F++r)=false:=by
  rw[Bool.eq_false_iff]
  intro h
  unfold dayOk at h
  simp only[Bool.and_eq_true,decide_eq_true_eq] at h
  obtain⟨⟨h10,-⟩,hd⟩:=h
  unfold dateOk at hd
  simp only[Bool.and_eq_true,decide_eq_true_eq] at hd
  obtain⟨⟨⟨-,h4⟩,-⟩,hok⟩:=hd
  rw[List.getElem?_take_of_lt (by omega)] at h4
  rcases Nat.lt_or_ge 4 F.length with h5|h5
  ·rw[List.getElem?_append_left h5] at h4
   have:=hdg 45 (List.mem_of_getElem? h4)
   revert this;decide
  ·rcases hr.part with rfl|⟨d,p,rfl,g1,g2,g3⟩
   ·simp at h10;omega
   ·rcases Nat.eq_or_lt_of_le h5 with h6|h6
    ·rw[List.getElem?_append_right (by omega),h6,Nat.sub_self] at h4
     injection h4 with h4
     exact g3 h4
    ·have hm:d∈(((F++d::p).take 10).take 4).drop 0:=by
      rw[List.drop_zero,List.take_take,show min 4 10=4 from rfl]
      refine List.mem_of_getElem? (i:=F.length) ?_
      rw[List.getElem?_take_of_lt h6,List.getElem?_append_right (Nat.le_refl _),Nat.sub_self]
      rfl
     rw[numZ_none hm g2] at hok
     unfold ofOk at hok
     simp at hok
 refine⟨?_,?_⟩
 ·have e:F++r=c::(q++r):=by rw[hc];rfl
  rw[e,nextW_cons,if_pos hdc,←e,hno,if_neg (by simp),hrun,List.take_left]
  have ha:amt0 F=some n:=by
   unfold amt0
   rw[if_pos ⟨by rw[List.all_eq_true];exact hdg,hf.lead,by rw[hval];omega⟩,hval]
   congr 1
   omega
  rw[ha]
  rfl
 ·rw[hc]
  refine blankN_0 ?_ ?_ _
  ·unfold digB at hdc
   unfold blankB
   simp at hdc⊢
   omega
  ·rintro rfl
   revert hdc
   decide
theorem digR_raw4 (v:Nat)(h:v≤9999):rawV (digR v 4)=v:=by
 simp[digR,rawV]
 omega
theorem digR_raw2 (v:Nat)(h:v≤99):rawV (digR v 2)=v:=by
 simp[digR,rawV]
 omega
theorem day_next {n:Int}(h0:0≤n)(h1:n≤2932896){r:List Nat}(hr:Good r):nextW (dayT n.toNat++r)=some (2,dayT n.toNat,n)∧blankN (dayT n.toNat++r)=0:=by
 obtain⟨m,rfl⟩:∃m:Nat,n=m:=⟨n.toNat,by omega⟩
 rw[Int.toNat_natCast]
 obtain⟨q,hq⟩:∃q,(m+719468)/146097=q:=⟨_,rfl⟩
 obtain⟨e,he⟩:∃e,(m+719468)%146097=e:=⟨_,rfl⟩
 have hel:e<146097:=by rw[←he];exact Nat.mod_lt _ (by decide)
 have hqe:m+719468=q*146097+e:=by rw[←hq,←he];omega
 obtain⟨z1,z2,z3,z4,z5⟩:=civ_qe m q e hqe hel
 have hok:=ofOk_of m _ _ _ (by omega) z1 z2 z3 z4 z5
 have hbd:=ofOk_bd hok
 have hT:=dayT_of m q e hq he
 have hlen:(dayT m).length=10:=dayT_len m
 rw[hT] at hlen
 obtain⟨y,hy⟩:∃y,y=cY q e:=⟨_,rfl⟩
 obtain⟨mo,hmo⟩:∃y,y=cM e:=⟨_,rfl⟩
 obtain⟨d,hd⟩:∃y,y=dT e:=⟨_,rfl⟩
 rw[←hy,←hmo,←hd] at z1 hok hbd hT hlen
 have t1:(printD y mo d).take 4=digR y 4:=rfl
 have t2:((printD y mo d).take 7).drop 5=digR mo 2:=rfl
 have t3:((printD y mo d).take 10).drop 8=digR d 2:=rfl
 obtain⟨g1,g2⟩:=day_law (printD y mo d) hlen
 rw[t1,t2,t3,digR_raw4 y (by omega),digR_raw2 mo (by omega),digR_raw2 d (by omega)] at g1 g2
 have hdok:dateOk (printD y mo d)=true:=g1.2 ⟨hok,by rw[Int.toNat_natCast,Int.toNat_natCast,Int.toNat_natCast]⟩
 have hz:=g2 hdok
 rw[z1] at hz
 rw[hT]
 have htk:(printD y mo d++r).take 10=printD y mo d:=by rw[←hlen];exact List.take_left
 have hday:dayOk (printD y mo d++r)=true:=by
  unfold dayOk
  rw[htk,hdok]
  rcases hr.part with rfl|⟨c,p,rfl,k1,k2,k3⟩
  ·rw[List.append_nil,hlen]
   rfl
  ·have h32:(printD y mo d++c::p).getD 10 0=c:=by
    rw[List.getD_eq_getElem?_getD,←hlen,List.getElem?_append_right (Nat.le_refl _),Nat.sub_self]
    rfl
   have hl10:10≤(printD y mo d++c::p).length:=by
    rw[List.length_append,hlen]
    exact Nat.le_add_right 10 _
   rw[h32,k1,decide_eq_true hl10,Bool.and_false]
   rfl
 obtain⟨c,p,hc,hdc⟩:∃c p,printD y mo d=c::p∧digB c=true:=by
  refine⟨48+y/10^3%10,_,rfl,?_⟩
  have hm:=Nat.mod_lt (y/10^3) (show 0<10 by decide)
  unfold digB
  rw[decide_eq_true (Nat.le_add_right _ _),decide_eq_true (show 48+y/10^3%10≤57 from Nat.add_le_add_left (Nat.le_of_lt_succ hm) 48)]
  rfl
 refine⟨?_,?_⟩
 ·have e:printD y mo d++r=c::(p++r):=by rw[hc];rfl
  rw[e,nextW_cons,if_pos hdc,←e,if_pos hday,htk,hz]
 ·rw[hc]
  refine blankN_0 ?_ ?_ _
  ·unfold digB at hdc
   unfold blankB
   simp at hdc⊢
   omega
  ·rintro rfl
   revert hdc
   decide
end Go.Proofs.YtaamkfajnpobfaaGreat
namespace Go.Proofs.YtaamkfajnpobfaaGreat
def lpK:Tok:=(0,[40],0)
def rpK:Tok:=(0,[41],0)
def cmK:Tok:=(0,[44],0)
def parK (least:Int)(x:Int × List Tok):List Tok:=if x.1<least then lpK::(x.2++[rpK]) else x.2
def joinK:List (List Tok)→List Tok
 | []=>[]
 |s::r=>s++r.flatMap fun t=>cmK::t
def callW (op:Int):List Nat:=if op=9 then minW else if op=10 then maxW else ifW
def headK (op n:Int)(nm:List Nat)(l:List (Int × List Tok)):List Tok:=
 if op=1 then [(1,numT n,n)] else if op=2 then [(2,dayT n.toNat,n)] else if op=3 then [(3,nm,0)] else if op=4 then [(3,dayW,0)]
 else if(bindT op).2=6 then(0,(bindT op).1,0)::parK 6 (l.getD 0 (7,[]))
 else if(bindT op).2=3 then parK 4 (l.getD 0 (7,[]))++(0,(bindT op).1,0)::parK 4 (l.getD 1 (7,[]))
 else if(bindT op).2<6 then parK (bindT op).2 (l.getD 0 (7,[]))++(0,(bindT op).1,0)::parK ((bindT op).2+1) (l.getD 1 (7,[]))
 else(3,callW op,0)::lpK::(joinK (l.map (·.2))++[rpK])
mutual
def tokE:Ex→List Tok
 | .mk op n nm l=>headK op n nm (tokEL l)
def tokEL:List Ex→List (Int × List Tok)
 | []=>[]
 |e::r=>((bindT e.op).2,tokE e)::tokEL r
end
def pairK (e:Ex):Int × List Tok:=((bindT e.op).2,tokE e)
theorem tokEL_map:∀l,tokEL l=l.map pairK
 | []=>by rw[tokEL];rfl
 |e::r=>by rw[tokEL,tokEL_map r];rfl
theorem tokE_eq (e:Ex):tokE e=headK e.op e.n e.name (e.args.map pairK):=by
 cases e;rw[tokE,tokEL_map];rfl
mutual
def fitE:Ex→Bool
 | .mk _ n _ l=>decide (n≤9223372036854775807)&&fitL l
def fitL:List Ex→Bool
 | []=>true
 |e::r=>fitE e&&fitL r
end
theorem fitL_all:∀l,fitL l=l.all fitE
 | []=>by rw[fitL];rfl
 |e::r=>by rw[fitL,fitL_all r];rfl
theorem fitE_inv {e:Ex}(h:fitE e=true):e.n≤9223372036854775807∧∀x∈e.args,fitE x=true:=by
 cases e with
 |mk op n nm l=>
  rw[fitE,fitL_all,Bool.and_eq_true,decide_eq_true_eq,List.all_eq_true] at h
  exact h
structure Lx (l:List Nat)(T:List Tok):Prop where
 head:∃c q,l=c::q∧c≠61
 lex:∀r Tr,Good r→Lex r Tr→Lex (l++r) (T++Tr)
theorem Good.ne {r:List Nat}(h:Good r):∀c q,r=c::q→c≠61:=fun c q e=>by rcases h c q e with rfl|rfl|rfl|rfl|rfl<;>decide
theorem Lx.ne {l:List Nat}{T:List Tok}(h:Lx l T)(r:List Nat):∀c q,l++r=c::q→c≠61:=fun c q e=>by
 obtain⟨d,p,rfl,hd⟩:=h.head
 injection e with e _
 rw[←e]
 exact hd
theorem lex_sign {s r:List Nat}{T:List Tok}(hs:s∈signsL)(hr:∀c q,r=c::q→c≠61)(h:Lex r T):Lex (s++r) ((0,s,0)::T):=lex_tok (sign_next hs hr) h
theorem Lx.tok {t:List Nat}{k n:Int}(hh:∃c q,t=c::q∧c≠61)(h:∀r,Good r→nextW (t++r)=some (k,t,n)∧blankN (t++r)=0):Lx t [(k,t,n)]:=⟨hh,fun r _ hr hl=>lex_tok (h r hr) hl⟩
theorem Lx.par {l:List Nat}{T:List Tok}(h:Lx l T):Lx ([40]++l++[41]) (lpK::(T++[rpK])):=by
 refine⟨⟨40,_,rfl,by decide⟩,fun r Tr hr hl=> ?_⟩
 have h1:Lex ([41]++r) (rpK::Tr):=lex_sign (by decide) hr.ne hl
 have h2:=h.lex _ _ (good_c (r:=r) (by decide:(41:Nat)=32∨(41:Nat)=44∨(41:Nat)=41∨(41:Nat)=10∨(41:Nat)=40)) h1
 have h3:=lex_sign (s:=[40]) (by decide) (h.ne _) h2
 have e1: [40]++l++[41]++r=[40]++(l++([41]++r)):=by simp
 have e2:lpK::(T++[rpK])++Tr=lpK::(T++rpK::Tr):=by simp
 rw[e1,e2]
 exact h3
theorem Lx.bin {a b s:List Nat}{Ta Tb:List Tok}(ha:Lx a Ta)(hs:s∈signsL)(hb:Lx b Tb):Lx (a++[32]++s++[32]++b) (Ta++(0,s,0)::Tb):=by
 obtain⟨c,q,hc,hne⟩:=ha.head
 refine⟨⟨c,q++[32]++s++[32]++b,by rw[hc];rfl,hne⟩,fun r Tr hr hl=> ?_⟩
 have h1:=lex_blank (c:=32) (by decide) (hb.lex r Tr hr hl)
 have h2:Lex (s++32::(b++r)) ((0,s,0)::(Tb++Tr)):=lex_sign hs (fun c q e=>by injection e with e _;rw[←e];decide) h1
 have h3:=ha.lex _ _ (good_c (r:=s++32::(b++r)) (.inl rfl)) (lex_blank (c:=32) (by decide) h2)
 have e1:a++[32]++s++[32]++b++r=a++32::(s++32::(b++r)):=by simp
 have e2:Ta++(0,s,0)::Tb++Tr=Ta++(0,s,0)::(Tb++Tr):=by simp
 rw[e1,e2]
 exact h3
theorem Lx.un {b s:List Nat}{Tb:List Tok}(hs:s∈signsL)(hs1:∃c q,s=c::q∧c≠61)(hb:Lx b Tb):Lx (s++b) ((0,s,0)::Tb):=by
 obtain⟨c,q,hc,hne⟩:=hs1
 refine⟨⟨c,q++b,by rw[hc];rfl,hne⟩,fun r Tr hr hl=> ?_⟩
 rw[List.append_assoc]
 exact lex_sign hs (hb.ne r) (hb.lex r Tr hr hl)
theorem join_tail (sep:List Nat)(hsep:∀c∈sep,blankB c=true):∀(L:List (List Nat × List Tok)),(∀x∈L,Lx x.1 x.2)→∀r Tr,Good r→Lex r Tr→Good ((L.flatMap fun x=>[44]++sep++x.1)++r)∧Lex ((L.flatMap fun x=>[44]++sep++x.1)++r) ((L.flatMap fun x=>cmK::x.2)++Tr)
 | [],_,r,Tr,hr,hl=>⟨hr,hl⟩
 |x::L,h,r,Tr,hr,hl=>by
  obtain⟨h1,h2⟩:=join_tail sep hsep L (fun y hy=>h y (by simp[hy])) r Tr hr hl
  have hx:=h x (by simp)
  have h3:=lex_blanks hsep (hx.lex _ _ h1 h2)
  have h4:=lex_sign (s:=[44]) (by decide) (r:=sep++(x.1++((L.flatMap fun x=>[44]++sep++x.1)++r))) (fun c q e=>by
   cases sep with
   |nil=>exact hx.ne _ c q e
   |cons d p=>
    injection e with e _
    rw[←e]
    rintro rfl
    have:=hsep 61 (by simp)
    revert this;decide) h3
  have e1:(x::L).flatMap (fun x=>[44]++sep++x.1)++r=[44]++(sep++(x.1++((L.flatMap fun x=>[44]++sep++x.1)++r))):=by simp[List.flatMap_cons]
  have e2:(x::L).flatMap (fun x=>cmK::x.2)++Tr=cmK::(x.2++((L.flatMap fun x=>cmK::x.2)++Tr)):=by simp[List.flatMap_cons]
  rw[e1,e2]
  exact⟨good_c (.inr (.inl rfl)),h4⟩
theorem Lx.join:∀(L:List (List Nat × List Tok)),L≠ []→(∀x∈L,Lx x.1 x.2)→Lx (joinT (L.map Prod.fst)) (joinK (L.map Prod.snd))
 | [],h,_=>absurd rfl h
 |x::L,_,h=>by
  have hx:=h x (by simp)
  obtain⟨c,q,hc,hne⟩:=hx.head
  refine⟨⟨c,q++((L.map Prod.fst).flatMap fun t=>[44,32]++t),by rw[List.map_cons,joinT,hc];rfl,hne⟩,fun r Tr hr hl=> ?_⟩
  obtain⟨h1,h2⟩:=join_tail [32] (by decide) L (fun y hy=>h y (by simp[hy])) r Tr hr hl
  have h3:=hx.lex _ _ h1 h2
  have e1:joinT ((x::L).map Prod.fst)++r=x.1++((L.flatMap fun x=>[44]++[32]++x.1)++r):=by
   rw[List.map_cons,joinT,List.append_assoc,List.flatMap_map]
   rfl
  have e2:joinK ((x::L).map Prod.snd)++Tr=x.2++((L.flatMap fun x=>cmK::x.2)++Tr):=by
   rw[List.map_cons,joinK,List.append_assoc,List.flatMap_map]
  rw[e1,e2]
  exact h3
theorem Lx.call {w l:List Nat}{T:List Tok}(hw:namedB w=true)(h:Lx l T):Lx (w++[40]++l++[41]) ((3,w,0)::lpK::(T++[rpK])):=by
 have hp:=h.par
 obtain⟨c,q,hc⟩:∃c q,w=c::q:=by
  cases w with
  |nil=>exact absurd hw (by decide)
  |cons c q=>exact⟨c,q,rfl⟩
 have hne:c≠61:=by
  rintro rfl
  rw[hc] at hw
  unfold namedB at hw
  have:letB ((61::q).getD 0 0)=false:=by show letB 61=false;decide
  rw[this] at hw
  simp at hw
 refine⟨⟨c,q++[40]++l++[41],by rw[hc];rfl,hne⟩,fun r Tr hr hl=> ?_⟩
 have h1:=hp.lex r Tr hr hl
 have h2:=lex_tok (name_next hw (r:=[40]++l++[41]++r) (good_c (r:=l++[41]++r) (.inr (.inr (.inr (.inr rfl)))))) h1
 have e1:w++[40]++l++[41]++r=w++([40]++l++[41]++r):=by simp
 rw[e1]
 exact h2
theorem parT_lx {least b:Int}{l:List Nat}{T:List Tok}(h:Lx l T):Lx (parT least (b,l)) (parK least (b,T)):=by
 unfold parT parK
 dsimp only
 split
 ·exact h.par
 ·exact h
theorem bin_forms {op:Int}(h:(5≤op∧op≤8)∨(11≤op∧op≤18)):∃(i:Nat) (s:List Nat),i<5∧s∈signsL∧powL s=some (i,op)∧bindT op=(s,(i:Int)+1)∧
  (∀n nm x y,headT op n nm [x,y]=parT (if i=2 then 4 else(i:Int)+1) x++[32]++s++[32]++parT ((i:Int)+2) y)∧(∀n nm x y,headK op n nm [x,y]=parK (if i=2 then 4 else(i:Int)+1) x++(0,s,0)::parK ((i:Int)+2) y):=by
 have ho:op=5∨op=6∨op=7∨op=8∨op=11∨op=12∨op=13∨op=14∨op=15∨op=16∨op=17∨op=18:=by omega
 rcases ho with rfl|rfl|rfl|rfl|rfl|rfl|rfl|rfl|rfl|rfl|rfl|rfl
 ·exact⟨3,[43],by decide,by decide,by decide,by decide,fun _ _ _ _=>rfl,fun _ _ _ _=>rfl⟩
 ·exact⟨3,[45],by decide,by decide,by decide,by decide,fun _ _ _ _=>rfl,fun _ _ _ _=>rfl⟩
 ·exact⟨4,[42],by decide,by decide,by decide,by decide,fun _ _ _ _=>rfl,fun _ _ _ _=>rfl⟩
 ·exact⟨4,[47],by decide,by decide,by decide,by decide,fun _ _ _ _=>rfl,fun _ _ _ _=>rfl⟩
 ·exact⟨2,[60],by decide,by decide,by decide,by decide,fun _ _ _ _=>rfl,fun _ _ _ _=>rfl⟩
 ·exact⟨2,[60,61],by decide,by decide,by decide,by decide,fun _ _ _ _=>rfl,fun _ _ _ _=>rfl⟩
 ·exact⟨2,[61],by decide,by decide,by decide,by decide,fun _ _ _ _=>rfl,fun _ _ _ _=>rfl⟩
 ·exact⟨2,[33,61],by decide,by decide,by decide,by decide,fun _ _ _ _=>rfl,fun _ _ _ _=>rfl⟩
 ·exact⟨2,[62,61],by decide,by decide,by decide,by decide,fun _ _ _ _=>rfl,fun _ _ _ _=>rfl⟩
 ·exact⟨2,[62],by decide,by decide,by decide,by decide,fun _ _ _ _=>rfl,fun _ _ _ _=>rfl⟩
 ·exact⟨1,[38],by decide,by decide,by decide,by decide,fun _ _ _ _=>rfl,fun _ _ _ _=>rfl⟩
 ·exact⟨0,[124],by decide,by decide,by decide,by decide,fun _ _ _ _=>rfl,fun _ _ _ _=>rfl⟩
theorem un_forms {op:Int}(h:op=19∨op=20):∃s:List Nat,(s=[33]∨s=[45])∧bindT op=(s,6)∧(op=if s=[33] then 19 else 20)∧(∀n nm x,headT op n nm [x]=s++parT 6 x)∧(∀n nm x,headK op n nm [x]=(0,s,0)::parK 6 x):=by
 rcases h with rfl|rfl
 ·exact⟨[33], .inl rfl,by decide,by decide,fun _ _ _=>rfl,fun _ _ _=>rfl⟩
 ·exact⟨[45], .inr rfl,by decide,by decide,fun _ _ _=>rfl,fun _ _ _=>rfl⟩
theorem call_forms {op:Int}(h:op=9∨op=10∨op=21):namedB (callW op)=true∧(bindT op).2=7∧(∀n nm l,headT op n nm l=callW op++[40]++joinT (l.map (·.2))++[41])∧(∀n nm l,headK op n nm l=(3,callW op,0)::lpK::(joinK (l.map (·.2))++[rpK])):=by
 rcases h with rfl|rfl|rfl<;>exact⟨by decide,by decide,fun _ _ _=>rfl,fun _ _ _=>rfl⟩
theorem arity_ops {op:Int}{k:Nat}(h:arityZ op=(k:Int)):(k=0∧1≤op∧op≤4)∨(k=2∧((5≤op∧op≤8)∨(11≤op∧op≤18)))∨(k=2∧(op=9∨op=10))∨(k=1∧(op=19∨op=20))∨(k=3∧op=21):=by
 unfold arityZ at h
 split at h
 ·omega
 split at h
 ·omega
 split at h
 ·omega
 split at h<;>omega
theorem head_ne {t:List Nat}{k n:Int}(h:nextW t=some (k,t,n))(hk:k≠0):∃c q,t=c::q∧c≠61:=by
 cases t with
 |nil=>cases h
 |cons c q=>
  refine⟨c,q,rfl,?_⟩
  rintro rfl
  rw[nextW_cons,if_neg (by decide),if_neg (by decide)] at h
  cases hs:signW (61::q) with
  |none=>rw[hs] at h;cases h
  |some s=>
   rw[hs] at h
   injection h with h
   injection h with h _
   exact hk h.symm
theorem Lx.tok' {t:List Nat}{k n:Int}(hk:k≠0)(h:∀r,Good r→nextW (t++r)=some (k,t,n)∧blankN (t++r)=0):Lx t [(k,t,n)]:=
 Lx.tok (by have:=(h [] good_nil).1;rw[List.append_nil] at this;exact head_ne this hk) h
theorem exprT_lx (N:Nat):∀e:Ex,e.nodes≤N→builtB e=true→fitE e=true→Lx (exprT e) (tokE e):=by
 induction N with
 |zero=>intro e h;have:=e.nodes_pos;omega
 |succ N ih=>
  intro e hn hb hf
  obtain⟨hh,ha⟩:=builtB_inv hb
  obtain⟨h1,h2,h3,h4,h5,h6⟩:=headB_inv hh
  obtain⟨f1,f2⟩:=fitE_inv hf
  have hx:∀x∈e.args,Lx (exprT x) (tokE x):=fun x hx=>ih x (by have:=Ex.arg_nodes hx;omega) (ha x hx) (f2 x hx)
  rw[exprT_eq,tokE_eq]
  obtain⟨op,n,nm,l⟩:=e
  simp only[Ex.op,Ex.n,Ex.name,Ex.args] at *
  rcases arity_ops h1 with ⟨hk,ho⟩|⟨hk,ho⟩|⟨hk,ho⟩|⟨hk,ho⟩|⟨hk,ho⟩
  ·obtain rfl:=List.eq_nil_of_length_eq_zero hk
   have ho4:op=1∨op=2∨op=3∨op=4:=by omega
   rcases ho4 with rfl|rfl|rfl|rfl
   ·exact Lx.tok' (by decide) (fun r hr=>num_next h4 f1 hr)
   ·exact Lx.tok' (by decide) (fun r hr=>day_next h4 (h5 rfl) hr)
   ·have hfr:=h6 rfl
    unfold freeB at hfr
    rw[Bool.and_eq_true] at hfr
    exact Lx.tok' (by decide) (fun r hr=>name_next hfr.1 hr)
   ·exact(Lx.tok' (by decide) (fun r hr=>name_next (by decide) hr):Lx dayW [(3,dayW,0)])
  ·obtain⟨i,s,-,hs,-,-,g1,g2⟩:=bin_forms ho
   match l,hk with
   | [x,y],_=>
    show Lx (headT op n nm [pairT x,pairT y]) (headK op n nm [pairK x,pairK y])
    rw[g1,g2]
    exact(parT_lx (hx x (by simp))).bin hs (parT_lx (hx y (by simp)))
  ·obtain⟨g0,-,g1,g2⟩:=call_forms (op:=op) (by omega)
   rw[g1,g2,List.map_map,List.map_map]
   have:=Lx.join (l.map fun x=>(exprT x,tokE x)) (by intro h;rw[List.map_eq_nil_iff] at h;rw[h] at hk;cases hk) (fun y hy=>by obtain⟨x,hx',rfl⟩:=List.mem_map.1 hy;exact hx x hx')
   rw[List.map_map,List.map_map] at this
   exact this.call g0
  ·obtain⟨s,hs,-,-,g1,g2⟩:=un_forms ho
   match l,hk with
   | [x],_=>
    show Lx (headT op n nm [pairT x]) (headK op n nm [pairK x])
    rw[g1,g2]
    exact(parT_lx (hx x (by simp))).un (by rcases hs with rfl|rfl<;>decide) (by rcases hs with rfl|rfl<;>exact⟨_,_,rfl,by decide⟩)
  ·obtain⟨g0,-,g1,g2⟩:=call_forms (op:=op) (by omega)
   rw[g1,g2,List.map_map,List.map_map]
   have:=Lx.join (l.map fun x=>(exprT x,tokE x)) (by intro h;rw[List.map_eq_nil_iff] at h;rw[h] at hk;cases hk) (fun y hy=>by obtain⟨x,hx',rfl⟩:=List.mem_map.1 hy;exact hx x hx')
   rw[List.map_map,List.map_map] at this
   exact this.call g0
end Go.Proofs.YtaamkfajnpobfaaGreat
