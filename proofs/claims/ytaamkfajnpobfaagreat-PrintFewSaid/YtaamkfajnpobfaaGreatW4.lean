/-
  Texts that were joined: PanG, PanH, PanI, PanJ, PanK, PanL, PanM, LexI, LexJ, PanN, PanO, PanP, PanQ, ParB, PanR, PanS, PanT, PanU, PanV, CutA, CutB, CutC, ParC, ParD, ClmA, ClmB. Conditions: what each theorem names.
-/
import Derived.Test.YtaamkfajnpobfaaGreatW3
import Derived.Recover
set_option linter.unusedSectionVars false
namespace Go.Proofs.YtaamkfajnpobfaaGreat
open Go.RowKit
structure XB (K:Ctx)(h0 gt d q:Nat)(op z:Int)(nm:List Nat)(m:Nat)(base:List Value)(vE:Value)(gv cap:Nat)(v:Value)(set stored:Bool)(w2 W3 w:World):Prop where
 own:Own w h0 35 4 (.slice (some ⟨gv,0,none⟩) (m+1) cap) (m+1) (base++(bif set then v.cells.toList else [.int .i64 0, .int .i64 0, .string {data:= #[]}, .slice none 0 0]))
 box:Blk w gt 35 #[.int .i64 op, .int .i64 z, .string (strOf nm),bif stored then .slice (some ⟨gv,0,none⟩) (m+1) cap else vE]
 pw:PW K w q d false
 kp:Kp w2 w
 fz:Fz h0 K.g w2 w
 hs:W3.heap.size≤w.heap.size
 hb:∀b,b<W3.heap.size→b≠gt→vE.ownBlock≠some b→w.heap[b]? =W3.heap[b]?
 hv:some gv=vE.ownBlock∨gv=W3.heap.size
 ne:gv≠gt
theorem calledC_any (K:Ctx)(hK:K.Ok)(h0 gt b1 d p:Nat)(op z:Int)(nm:List Nat)(es:List Ex)(evs:List Value)(vE:Value)(S0:Nat→Prop)(T:Nat→Nat→Rs Ex)(wa:World)(pw:PW K wa p d false)(hg0:K.g<h0)(hgt:h0≤gt)(hh:h0≤wa.heap.size)
  (kt:Blk wa gt 35 #[.int .i64 op, .int .i64 z, .string (strOf nm),vE]) (kb1:Blk wa b1 60 #[.pointer (some ⟨K.g,0,none⟩)]) (aq:ArgQ wa h0 gt es [] evs [] vE (.slice none 0 0) S0) (hl:es.length≤10)
  (hc:∀W,PW K W p d false→Fz wa.heap.size K.g wa W→Calls Tryz.prog 31 #[.pointer (some ⟨K.g,0,none⟩), .int .i64 0] W (PR K W d (T p d) (okE W))) (hne:T p d≠ .out):
  Calls Tryz.prog 162 #[.pointer (some ⟨gt,0,none⟩), .pointer (some ⟨b1,0,none⟩)] wa (PRh K h0 wa d (T p d) fun x _ W'=>Kp wa W'∧∃evs vE S,Blk W' gt 35 #[.int .i64 op, .int .i64 z, .string (strOf nm),vE]∧ArgQ W' h0 gt (es++[x]) [] evs [] vE (.slice none 0 0) S):=by
 have hle:=hK.le
 have hgg:K.g<wa.heap.size:=pw.blk.lt
 have hgtl:gt<wa.heap.size:=kt.lt
 obtain⟨AE,cE,rfl,-⟩:=aq.ownE.reads
 refine Zs 11 Tryz.func162 ?_
 refine Cd.drawG (σT:=Value × (Nat→Prop) × Nat × Nat × Nat × World) 11 (by kernel_rfl) rfl rfl (fun σ=>[.pointer (some ⟨gt,3,none⟩), .slice AE es.length cE, .pointer (some ⟨K.g,0,none⟩),σ.1, .int .i64 (es.length:Int), .slice (some ⟨σ.2.2.1,0,none⟩) 1 1, .slice (some ⟨σ.2.2.2.1,0,none⟩) (es.length+1) σ.2.2.2.2.1, .pointer (some ((⟨σ.2.2.2.1,0,none⟩:Addr).add (es.length*4))),undef, .pointer (some ⟨gt,3,none⟩),undef]) (fun σ S W=>(S 6=false→XA RepE K wa p d (T p d) (S 3) (S 5) σ.2.1 σ.1 σ.2.2.1 35 #[.int .i64 0, .int .i64 0, .string {data:= #[]}, .slice none 0 0] W)∧(S 6=true→∃x q,T p d= .ok x q∧XA RepE K wa p d (T p d) true true σ.2.1 σ.1 σ.2.2.1 35 #[.int .i64 0, .int .i64 0, .string {data:= #[]}, .slice none 0 0] σ.2.2.2.2.2∧XB K h0 gt d q op z nm es.length (flatC evs) (.slice AE es.length cE) σ.2.2.2.1 σ.2.2.2.2.1 σ.1 (S 8) (S 10) wa σ.2.2.2.2.2 W)) ((undef,fun _=>False,0,0,0,wa)) ?_ ?_ ?_
 ·intro w0 hb0 hs0
  exact⟨fun _=>⟨Fz.of hb0,fun _=>pw.step hle hb0,fun h=>(by cases h),fun h=>(by cases h)⟩,fun h=>(by cases h)⟩
 ·intro k o ho
  match k,ho with
  |0,ho=>
   injection ho with ho
   subst ho
   intro σ S w hS hpre hdc hX
   refine Seq.val (Runs.fieldA 3 rfl rfl Tryz.underlying35 rfl (by kernel_rfl)) rfl rfl rfl (Seq.nil ?_)
   exact Post.afterG rfl rfl rfl hpre rfl (fun _ _=>rfl) hX
  |1,ho=>
   injection ho with ho
   subst ho
   intro σ S w hS hpre hdc hX
   have h6:S 6=false:=by
    cases h6:S 6 with
    |false=>rfl
    |true=>have:=hdc 6 _ rfl h6 1 (memB_spec rfl);rw[hS] at this;cases this
   refine Seq.val (Runs.loadB (g:=gt) (i:=3) rfl rfl Tryz.underlying22 rfl (kt.fz (hX.1 h6).fz (by omega)) rfl) rfl rfl rfl (Seq.nil ?_)
   exact Post.afterG rfl rfl rfl hpre rfl (fun _ _=>rfl) hX
  |2,ho=>
   injection ho with ho
   subst ho
   intro σ S w hS hpre hdc hX
   have hb:Blk w b1 60 #[.pointer (some ⟨K.g,0,none⟩)]:=by
    cases h6:S 6 with
    |false=>exact kb1.fzN pw.blk (hX.1 h6).fz (Nat.le_refl _)
    |true=>obtain⟨x,q,-,-,hB⟩:=hX.2 h6;exact hB.kp.blk kb1
   refine Seq.val (Runs.loadB (g:=b1) (i:=0) rfl rfl Tryz.underlying60 rfl hb rfl) rfl rfl rfl (Seq.nil ?_)
   exact Post.afterG rfl rfl rfl hpre rfl (fun _ _=>rfl) hX
  |3,ho=>
   injection ho with ho
   subst ho
   intro σ S w hS hpre hdc hX
   have h6:S 6=false:=by
    cases h6:S 6 with
    |false=>rfl
    |true=>have:=hdc 6 _ rfl h6 3 (memB_spec rfl);rw[hS] at this;cases this
   have hXa:=hX.1 h6
   have hcl:=hc w (hXa.pre hS) hXa.fz
   rcases Rs.ok_or hne with ⟨q,ov,hr⟩|⟨x,q,hr⟩
   ·rw[hr] at hcl
    refine Seq.callB (Ze Tryz.func31) rfl hcl ?_
    rintro e w6 ⟨hf,rfl,d6,hp6⟩
    refine⟨_,rfl,fun a ha=>⟨ha.defers,?_⟩⟩
    rw[hr]
    exact⟨(hXa.fz.call hf).less hh,rfl,d6,hp6⟩
   ·rw[hr] at hcl
    refine Zc (Ze Tryz.func31) hcl ?_
    rintro e w6 ⟨hf,v6,rfl,hp6,S6,hr6,hb6⟩
    refine⟨_,rfl,Seq.nil ?_⟩
    have hsz:=hXa.fz.size
    refine Post.afterG (σ:=σ) (σ':=(v6,S6,σ.2.2)) rfl rfl rfl hpre rfl (fun j hj=> ?_) ⟨fun _=>⟨hXa.fz.call hf,(fun h=>by cases h),fun _=>⟨x,q,hr,hp6,hr6,fun b hb=>⟨by have:=(hb6 b hb).1;omega,(hb6 b hb).2⟩⟩,fun hm=> ?_⟩,fun hm=> ?_⟩
    ·match j,hj with
     |0,_=>rfl
     |1,_=>rfl
     |2,_=>rfl
     |3,hj=>rw[hS] at hj;cases hj
     |4,_=>rfl
     |5,_=>rfl
     |6,_=>rfl
     |7,_=>rfl
     |8,_=>rfl
     |9,_=>rfl
     |10,_=>rfl
     |j+11,_=>rfl
    ·obtain⟨m1,m2,-⟩:=hXa.new hm
     exact⟨m1,m2.fz hf (by omega),fun _ hb=>Nat.lt_irrefl _ (Nat.lt_of_lt_of_le m2.lt (hb6 _ hb).1)⟩
    ·have hm:S 6=true:=hm
     rw[h6] at hm;cases hm
  |4,ho=>
   injection ho with ho
   subst ho
   intro σ S w hS hpre hdc hX
   refine Seq.val (Runs.len rfl rfl Tryz.underlying22) rfl rfl rfl (Seq.nil ?_)
   exact Post.afterG rfl rfl rfl hpre rfl (fun _ _=>rfl) hX
  |5,ho=>
   injection ho with ho
   subst ho
   intro σ S w hS hpre hdc hX
   have h6:S 6=false:=by
    cases h6:S 6 with
    |false=>rfl
    |true=>have:=hdc 6 _ rfl h6 5 (memB_spec rfl);rw[hS] at this;cases this
   have hXa:=hX.1 h6
   refine Seq.slice (vs:=[.agg #[.int .i64 0, .int .i64 0, .string {data:= #[]}, .slice none 0 0]]) (s:=4) rfl rfl rfl Tryz.underlying22 (by kernel_rfl) zero_api_Expr (by omega) (by omega) ⟨rfl,trivial⟩ rfl rfl rfl ?_
   intro g7 wa' n7
   refine Seq.nil ?_
   have hsz:=hXa.fz.size
   refine Post.afterG (σ:=σ) (σ':=(σ.1,σ.2.1,g7,σ.2.2.2)) rfl rfl rfl hpre rfl (fun j hj=> ?_) ⟨fun _=>⟨hXa.fz.step n7.below,fun h=>(hXa.pre h).step hle n7.below,fun h=> ?_,fun _=>⟨Nat.le_trans hsz n7.ge,n7.blk,fun h hb=> ?_⟩⟩,fun hm=> ?_⟩
   ·match j,hj with
    |0,_=>rfl
    |1,_=>rfl
    |2,_=>rfl
    |3,_=>rfl
    |4,_=>rfl
    |5,hj=>rw[hS] at hj;cases hj
    |6,_=>rfl
    |7,_=>rfl
    |8,_=>rfl
    |9,_=>rfl
    |10,_=>rfl
    |j+11,_=>rfl
   ·obtain⟨x,q,q1,q2,q3,q4⟩:=hXa.post h
    exact⟨x,q,q1,q2.step hle n7.below,q3.mono (fun _ h=>h) (fun a ha=>n7.below.cell (q4 _ ha).2),fun b hb=>⟨(q4 b hb).1,Nat.lt_of_lt_of_le (q4 b hb).2 n7.below.size⟩⟩
   ·obtain⟨x,q,q1,q2,q3,q4⟩:=hXa.post h
    exact Nat.lt_irrefl _ (Nat.lt_of_lt_of_le (q4 _ hb).2 n7.ge)
   ·have hm:S 6=true:=hm
    rw[h6] at hm;cases hm
  |6,ho=>
   injection ho with ho
   subst ho
   intro σ S w hS hpre hdc hX
   have hXa0:=hX.1 hS
   have d3:S 3=true:=hpre 3 (memB_spec rfl)
   have d5:S 5=true:=hpre 5 (memB_spec rfl)
   have hXa:XA RepE K wa p d (T p d) true true σ.2.1 σ.1 σ.2.2.1 35 #[.int .i64 0, .int .i64 0, .string {data:= #[]}, .slice none 0 0] w:=by rw[d3,d5] at hXa0;exact hXa0
   obtain⟨x,q,hr,pw3,hrep,haway⟩:=hXa.post rfl
   obtain⟨e7,k7,hn7⟩:=hXa.new rfl
   have hsz:=hXa.fz.size
   have aq3:=aq.fz hXa.fz hg0
   have hown:=aq3.ownE
   have k90:=kt.fz hXa.fz (by omega)
   refine Seq.append2 rfl rfl rfl Tryz.underlying22 (by kernel_rfl) zero_api_Expr rfl (by decide) (b:=56) (by kernel_rfl) hown (Reads.blk (size:=4) k7 1 rfl) (by intro z hz;simp at hz;rcases hz with rfl|rfl|rfl|rfl<;>rfl) (by omega) (by simp only[maxLen];omega) (by omega) rfl rfl rfl ?_
   intro v' w4 hown' happ hv'
   refine Seq.nil ?_
   have hs4:=happ.below.size
   have hlv:(flatC evs).length=es.length*4:=hown.row.1
   obtain⟨gv,cap,cur,rfl,-⟩:=Own.setLast (n:=es.length) (xs:=flatC evs) hown' hlv
   have hd8:S 8=false:=by
    cases h:S 8 with
    |false=>rfl
    |true=>have:=hdc 8 _ rfl h 6 (memB_spec rfl);rw[hS] at this;cases this
   have hd10:S 10=false:=by
    cases h:S 10 with
    |false=>rfl
    |true=>have:=hdc 10 _ rfl h 6 (memB_spec rfl);rw[hS] at this;cases this
   have hd7:S 7=false:=by
    cases h:S 7 with
    |false=>rfl
    |true=>have:=hdc 7 _ rfl h 6 (memB_spec rfl);rw[hS] at this;cases this
   have hgvne:gv≠gt:=fun e=>by
    subst e
    rcases hv' with e|e
    ·exact aq3.neE (by rw[←e];rfl)
    ·injection e with e
     have e:gv=w.heap.size:=e
     have:=k90.lt
     omega
   refine Post.afterG (σ:=σ) (σ':=(σ.1,σ.2.1,σ.2.2.1,gv,cap,w)) rfl rfl rfl hpre rfl (fun j hj=> ?_) ⟨(fun h=>by cases h),fun _=>⟨x,q,hr,hXa,?_⟩⟩
   ·match j,hj with
    |0,_=>rfl
    |1,_=>rfl
    |2,_=>rfl
    |3,_=>rfl
    |4,_=>rfl
    |5,_=>rfl
    |6,hj=>rw[hS] at hj;cases hj
    |7,hj=>rw[hd7] at hj;cases hj
    |8,_=>rfl
    |9,_=>rfl
    |10,_=>rfl
    |j+11,_=>rfl
   ·have e8:updC S 6 8=false:=hd8
    have e10:updC S 6 10=false:=hd10
    rw[e8,e10]
    exact⟨hown',k90.grown happ.grown (fun e=>aq3.neE e.symm),⟨pw3.blk.grown happ.grown (fun e=>by have:=hown.blockLt _ e.symm;omega),pw3.rd.below (happ.below.mono (by omega)),pw3.p_le,pw3.d_le⟩,((Kp.refl wa).fz pw.blk hXa.fz).app hown happ,(hXa.fz.less hh).trans (Fz.of happ.below),hs4,fun b h1 _ h3=>happ.grown.block b h1 (fun e=>h3 e.symm),hv'.elim (fun e=> .inl e) (fun e=> .inr (by injection e)),hgvne⟩
  |7,ho=>
   injection ho with ho
   subst ho
   intro σ S w hS hpre hdc hX
   refine Seq.val (Runs.indexN rfl rfl rfl Tryz.underlying22 (s:=4) (by kernel_rfl) (j:=es.length) rfl (by omega)) rfl rfl rfl (Seq.nil ?_)
   exact Post.afterG rfl rfl rfl hpre rfl (fun _ _=>rfl) hX
  |8,ho=>
   injection ho with ho
   subst ho
   intro σ S w hS hpre hdc hX
   obtain⟨x,q,hr,hXa,hB⟩:=hX.2 (hpre 6 (memB_spec rfl))
   obtain⟨x',q',hr',hp',hrep,haway'⟩:=hXa.post rfl
   have hones:=hrep.ones
   have hB8:Own w h0 35 4 (.slice (some ⟨σ.2.2.2.1,0,none⟩) (es.length+1) σ.2.2.2.2.1) (es.length+1) (flatC evs++[.int .i64 0, .int .i64 0, .string {data:= #[]}, .slice none 0 0]):=by
    have:=hB.own
    rw[hS] at this
    exact this
   have hlv:(flatC evs).length=es.length*4:=aq.ownE.row.1
   obtain⟨gv,cap,cur,hvv,hgv,hgvl,kv,hfit,hset⟩:=hB8.setLast hlv
   have hgv2:σ.2.2.2.1=gv:=by injection hvv with h1;injection h1 with h1;injection h1
   rw[←hgv2] at hgv hgvl kv hset
   have haddr:(⟨σ.2.2.2.1,0,none⟩:Addr).add (es.length*4)=⟨σ.2.2.2.1,es.length*4,none⟩:=by unfold Addr.add;split<;>simp_all
   refine Seq.storeN (g:=σ.2.2.2.1) (off:=es.length*4) rfl (congrArg (fun a=>some (Value.pointer (some a))) haddr) rfl rfl (m:=4) (by kernel_rfl) hones.1 (ones_of hones.2) kv (by rw[hones.1];exact hfit) rfl rfl ?_
   intro w6 p6
   refine Seq.nil ?_
   have hne:=hB.ne
   have hsz:=hXa.fz.size
   have hown6:=hset w6 σ.1.cells hones.1 p6
   have hcv:cap=σ.2.2.2.2.1:=by injection hvv with _ _ h3;exact h3.symm
   refine Post.afterG0 (σ:=σ) (σ':=σ) rfl rfl rfl (fun _ _=>rfl) ⟨(fun h=>by have h:S 6=false:=h;rw[hpre 6 (memB_spec rfl)] at h;cases h),fun _=>⟨x,q,hr,hXa,?_⟩⟩
   exact⟨by have:=hown6;exact this,hB.box.put p6 (fun e=>hne e.symm),⟨hB.pw.blk.put p6 (by omega),hB.pw.rd.below (p6.below (by omega) hgvl),hB.pw.p_le,hB.pw.d_le⟩,hB.kp.put kv p6 hgv,hB.fz.put kv p6 hgv,Nat.le_trans hB.hs (Nat.le_of_eq p6.size.symm),fun b h1 h2 h3=>(p6.grown.block b (Nat.lt_of_lt_of_le h1 hB.hs) (fun e=>by
    injection e with e
    rcases hB.hv with e'|e'
    ·exact h3 (by rw[←e',e])
    ·omega)).trans (hB.hb b h1 h2 h3),hB.hv,hne⟩
  |9,ho=>
   injection ho with ho
   subst ho
   intro σ S w hS hpre hdc hX
   refine Seq.val (Runs.fieldA 3 rfl rfl Tryz.underlying35 rfl (by kernel_rfl)) rfl rfl rfl (Seq.nil ?_)
   exact Post.afterG rfl rfl rfl hpre rfl (fun _ _=>rfl) hX
  |10,ho=>
   injection ho with ho
   subst ho
   intro σ S w hS hpre hdc hX
   obtain⟨x,q,hr,hXa,hB⟩:=hX.2 (hpre 6 (memB_spec rfl))
   have hbox:=hB.box
   refine Zq hbox ?_
   intro w6 p6
   refine Seq.nil ?_
   have hne:=hB.ne
   have hown:=hB.own
   refine Post.afterG0 (σ:=σ) (σ':=σ) rfl rfl rfl (fun _ _=>rfl) ⟨(fun h=>by have h:S 6=false:=h;rw[hpre 6 (memB_spec rfl)] at h;cases h),fun _=>⟨x,q,hr,hXa,?_⟩⟩
   exact⟨hown.keepRow (Nat.le_of_eq p6.size.symm) (fun b e=>p6.grown.block b (hown.blockLt b e).2 (fun e'=>by
    have e1:σ.2.2.2.1=b:=by injection e
    have e2:b=gt:=by injection e'
    exact hne (e1.trans e2))),p6.blk,⟨hB.pw.blk.put p6 (by omega),hB.pw.rd.below (p6.below (by omega) hbox.lt),hB.pw.p_le,hB.pw.d_le⟩,hB.kp.put hbox p6 hgt,hB.fz.put hbox p6 hgt,Nat.le_trans hB.hs (Nat.le_of_eq p6.size.symm),fun b h1 h2 h3=>(p6.grown.block b (Nat.lt_of_lt_of_le h1 hB.hs) (fun e=>h2 (by injection e))).trans (hB.hb b h1 h2 h3),hB.hv,hne⟩
  |k+11,ho=>simp at ho
 rintro⟨v5,S5,g7,gv,cap,W3⟩ S w9 hS hX
 obtain⟨x,q,hr,hXa,hB⟩:=hX.2 (hS 6 (by decide))
 obtain⟨x',q',hr',-,hrep,haway⟩:=hXa.post rfl
 rw[hr] at hr'
 injection hr' with e1 e2
 subst e1 e2
 dsimp only at hrep haway hXa hB
 rw[hS 8 (by decide),hS 10 (by decide)] at hB
 have aq3:=aq.fz hXa.fz hg0
 have hsz:=hXa.fz.size
 rw[hr]
 have hfin:=aq3.addE hrep (fun b hb=>⟨by have:=(haway b hb).1;omega,(haway b hb).2,by have:=(haway b hb).1;omega,fun e=>by have:=(aq.ownE.blockLt b e).2;have:=(haway b hb).1;omega,fun e=>by cases e⟩) hB.own hB.hs
  (fun b _ h2 h3 h4=>hB.hb b h2 h3 h4) (hB.hv.elim .inl fun e=> .inr ⟨_,rfl,Nat.le_of_eq e.symm⟩) (by omega)
 refine Zk2 0 1 ?_
 refine Post.end0 rfl (.inr rfl) ?_
 exact⟨hB.fz,_,rfl,hB.pw,hB.kp,_,_,_,hB.box,hfin⟩
end Go.Proofs.YtaamkfajnpobfaaGreat
namespace Go.Proofs.YtaamkfajnpobfaaGreat
open Go.RowKit
section
variable {W:World} {h gt:Nat} {es:List Ex} {ts:List Tm} {evs tvs:List Value} {vE vT:Value} {S:Nat→Prop}
theorem Own.rows {B n size:Nat}{e:TypeId}{v:Value}{xs:List Value}{S':Nat→Prop}(o:Own W B e size v n xs)(hS:∀b,v.ownBlock=some b→S' b):∃A c,v= .slice A n c∧Rows W S' A xs:=by
 obtain⟨h1,⟨rfl,rfl⟩|⟨g,cap,cur,rfl,e2,e3,e4,e5,e6,e7⟩⟩:=o.row
 ·refine⟨none,0,rfl,fun hne=> ?_⟩
  rw[Nat.zero_mul] at h1
  exact absurd (List.eq_nil_of_length_eq_zero h1) hne
 ·obtain⟨A,c,hv,hr⟩:=o.reads
  injection hv with e1 _ _
  subst e1
  refine⟨_,cap,rfl,fun hne=> ?_⟩
  rcases Nat.eq_zero_or_pos n with h0|h0
  ·subst h0
   rw[Nat.zero_mul] at h1
   exact absurd (List.eq_nil_of_length_eq_zero h1) hne
  ·obtain⟨ad,hA,hb,hc⟩:=hr.2 h0
   injection hA with hA
   subst hA
   exact⟨_,rfl,hS _ rfl,hc⟩
def blksQ (S:Nat→Prop)(vE vT:Value)(b:Nat):Prop:=S b∨vE.ownBlock=some b∨vT.ownBlock=some b
theorem ArgQ.bounds (a:ArgQ W h gt es ts evs tvs vE vT S):∀b,blksQ S vE vT b→h≤b∧b<W.heap.size∧b≠gt:=fun b hb=>by
 rcases hb with hb|hb|hb
 ·obtain⟨h1,h2,h3,-,-⟩:=a.away b hb
  exact⟨h1,h2,h3⟩
 ·obtain⟨h1,h2⟩:=a.ownE.blockLt b hb
  exact⟨h1,h2,fun e=>a.neE (by rw[hb,e])⟩
 ·obtain⟨h1,h2⟩:=a.ownT.blockLt b hb
  exact⟨h1,h2,fun e=>a.neT (by rw[hb,e])⟩
theorem ArgQ.ex (a:ArgQ W h gt es ts evs tvs vE vT S)(op z:Int)(nm:List Nat)(h1:I64 op)(h2:I64 z)(h3:∀d∈nm,d<256)(h4:nm.length≤9223372036854775807)(hl:es.length≤1000):RepE W (blksQ S vE vT) (.mk op z nm es) (.agg #[.int .i64 op, .int .i64 z, .string (strOf nm),vE]):=by
 obtain⟨A,c,hv,hr⟩:=a.ownE.rows (S':=blksQ S vE vT) (fun b hb=> .inr (.inl hb))
 rw[hv]
 rw[hv] at hr a
 exact RepE.mk a.lenE hl h1 h2 h3 h4 (fun i e v e1 e2=>(a.repE i e v e1 e2).mono (fun _ h=> .inl h) (fun _ _=>rfl)) hr
theorem ArgQ.tm (a:ArgQ W h gt es ts evs tvs vE vT S)(op:Int)(nm:List Nat)(h1:I64 op)(h3:∀d∈nm,d<256)(h4:nm.length≤9223372036854775807)(hl:es.length≤1000)(hl':ts.length≤1000):RepT W (blksQ S vE vT) (.mk op nm es ts) (.agg #[.int .i64 op, .string (strOf nm),vE,vT]):=by
 obtain⟨A,c,hv,hr⟩:=a.ownE.rows (S':=blksQ S vE vT) (fun b hb=> .inr (.inl hb))
 obtain⟨A',c',hv',hr'⟩:=a.ownT.rows (S':=blksQ S vE vT) (fun b hb=> .inr (.inr hb))
 rw[hv,hv']
 rw[hv,hv'] at hr hr' a
 exact RepT.mk a.lenE a.lenT hl hl' h1 h3 h4 (fun i e v e1 e2=>(a.repE i e v e1 e2).mono (fun _ h=> .inl h) (fun _ _=>rfl)) (fun i e v e1 e2=>(a.repT i e v e1 e2).mono (fun _ h=> .inl h) (fun _ _=>rfl)) hr hr'
end
theorem ArgQ.nil (W:World)(h gt:Nat):ArgQ W h gt [] [] [] [] (.slice none 0 0) (.slice none 0 0) (fun _=>False):=
 ⟨rfl,rfl,Own.nil _ _ _ _,Own.nil _ _ _ _,fun i e v h1=>by simp at h1,fun i e v h1=>by simp at h1,fun b h=>h.elim,(by intro h;cases h),(by intro h;cases h)⟩
theorem eg_called:∀args w,(callFunc 162 args).run Tryz.prog w= .ok (.enter 162 args) w:=fun args w=>run_enter Tryz.func162 (by kernel_rfl) rfl args w
theorem zero_func__:zeroIs Tryz.prog 1=some (some .nilFunc):=by kernel_rfl
theorem run_build_Eop (a:Int)(w:World):(Instr.build 35 #[(0, .int .i64 a)]).run Tryz.prog w= .ok (.agg #[.int .i64 a, .int .i64 0, .string (strOf []), .slice none 0 0]) w:=by
 have hu:=Tryz.underlying35
 go_simp
 rfl
theorem partsP_len {α:Type}(ws:List Wd):∀(ones:List (Nat→Nat→Rs α)) (first:Bool) (p d:Nat) (xs:List α) (q:Nat),partsP ws ones first p d= .ok xs q→xs.length=ones.length
 | [],_,p,d,xs,q,h=>by
  unfold partsP at h
  injection h with h
  rw[←h]
  rfl
 |one::r,first,p,d,xs,q,h=>by
  rw[partsP_cons] at h
  cases h1:(if first=true then Rs.ok () p else signQ ws [44] p) with
  |out=>rw[h1] at h;cases h
  |bad a b=>rw[h1] at h;cases h
  |ok u p1=>
   rw[h1,Rs.bind_ok] at h
   cases h2:one p1 d with
   |out=>rw[h2] at h;cases h
   |bad a b=>rw[h2] at h;cases h
   |ok x p2=>
    rw[h2,Rs.bind_ok] at h
    cases h3:partsP ws r false p2 d with
    |out=>rw[h3] at h;cases h
    |bad a b=>rw[h3] at h;cases h
    |ok ys p3=>
     rw[h3,Rs.bind_ok] at h
     injection h with h _
     rw[←h,List.length_cons,List.length_cons,partsP_len ws r false p2 d ys p3 h3]
theorem withinP_len {α:Type}{ws:List Wd}{ones:List (Nat→Nat→Rs α)}{p d:Nat}{xs:List α}{q:Nat}(h:withinP ws ones p d= .ok xs q):xs.length=ones.length:=by
 unfold withinP at h
 cases h1:signQ ws [40] p with
 |out=>rw[h1] at h;cases h
 |bad a b=>rw[h1] at h;cases h
 |ok u p1=>
  rw[h1,Rs.bind_ok] at h
  cases h2:enterP p1 d with
  |out=>rw[h2] at h;cases h
  |bad a b=>rw[h2] at h;cases h
  |ok u p2=>
   rw[h2,Rs.bind_ok] at h
   cases h3:partsP ws ones true p2 (d+1) with
   |out=>rw[h3] at h;cases h
   |bad a b=>rw[h3] at h;cases h
   |ok ys p3=>
    rw[h3,Rs.bind_ok] at h
    cases h4:signQ ws [41] p3 with
    |out=>rw[h4] at h;cases h
    |bad a b=>rw[h4] at h;cases h
    |ok u p4=>
     rw[h4,Rs.bind_ok] at h
     injection h with h _
     rw[←h]
     exact partsP_len ws ones true p2 (d+1) ys p3 h3
theorem Kp.own {w W:World}{B n size:Nat}{e:TypeId}{v:Value}{xs:List Value}(a:Kp w W)(o:Own w B e size v n xs)(h1:e≠25:=by decide)(h2:e≠35:=by decide)(h3:e≠92:=by decide):Own W B e size v n xs:=by
 obtain⟨r1,⟨r2,r3⟩|⟨g,cap,cur,rfl,e2,e3,e4⟩⟩:=o.row
 ·exact⟨r1, .inl ⟨r2,r3⟩⟩
 ·exact⟨r1, .inr ⟨g,cap,cur,rfl,e2,a.keep g e cur e3 h1 h2 h3,e4⟩⟩
def HasE (K:Ctx)(E0:Nat→Nat→Rs Ex):Prop:=∀p d W,PW K W p d false→E0 p d≠ .out→Calls Tryz.prog 31 #[.pointer (some ⟨K.g,0,none⟩), .int .i64 0] W (PR K W d (E0 p d) (okE W))
theorem called_any (K:Ctx)(hK:K.Ok)(E0:Nat→Nat→Rs Ex)(hE:HasE K E0)(op:Int)(k p d:Nat)(w:World)(pw:PW K w p d false)(hp:p+1≤K.ws.length)(hop:I64 op)(hk:k≤3)(hne:calledP K.ws E0 op k p d≠ .out):
  Calls Tryz.prog 152 #[.pointer (some ⟨K.g,0,none⟩), .int .i64 op, .int .i64 (k:Int)] w (PR K w d (calledP K.ws E0 op k p d) (okE w)):=by
 have bel:=Fz.refl w.heap.size K.g w
 have k99:=pw.blk
 have e99:K.g=K.g:=rfl
 have hlt:=pw.blk.lt
 have hlen:=hK.len
 have hle:=hK.le
 refine Zs 30 Tryz.func152 ?_
 refine Zsr ?_
 refine Seq.box rfl rfl rfl rfl rfl ?_
 intro g3 w1 n3
 have e3:=Nat.le_trans bel.size n3.ge
 have l3:=Nat.lt_of_lt_of_le k99.lt n3.ge
 replace bel:=bel.step n3.below
 replace k99:=k99.step n3.below
 have k3:=n3.blk
 refine Zl zero_api_Expr ?_
 intro g6 w2 n6
 have e6:=Nat.le_trans bel.size n6.ge
 have l6:=Nat.lt_of_lt_of_le k3.lt n6.ge
 replace bel:=bel.step n6.below
 replace k99:=k99.step n6.below
 replace k3:=k3.step n6.below
 have k6:=n6.blk
 refine Zk5 0 1 2 3 6 (Ztq ?_)
 refine Zv (Runs.loadB rfl rfl Tryz.underlying60 rfl k3 rfl) ?_
 refine Zv (Runs.nilCheck rfl rfl) ?_
 refine Zf 1 Tryz.underlying92 ?_
 refine Zv (Runs.loadB rfl rfl Tryz.underlying3 rfl k99 rfl) ?_
 refine Za_ ?_
 refine Zv (Runs.nilCheck rfl rfl) ?_
 refine Zf 1 Tryz.underlying92 ?_
 refine Zq k99 ?_
 intro w3 pw3
 replace bel:=bel.put k99 pw3 e99
 replace k3:=k3.put pw3 (by omega)
 replace k6:=k6.put pw3 (by omega)
 replace k99:=pw3.blk
 refine Zk5 0 1 2 3 6 (Ztq ?_)
 refine Zm ?_
 refine Zv (Runs.build rfl rfl (run_build_Eop op _)) ?_
 refine Zl zero_api_Expr ?_
 intro g7 w4 n7
 have e7:=Nat.le_trans bel.size n7.ge
 have l7:=Nat.lt_of_lt_of_le k6.lt n7.ge
 replace bel:=bel.step n7.below
 replace k99:=k99.step n7.below
 replace k3:=k3.step n7.below
 replace k6:=k6.step n7.below
 have k7:=n7.blk
 refine Zo 4 k7 ?_
 intro w5 pw5
 replace bel:=bel.put k7 pw5 e7
 replace k99:=k99.put pw5 (by omega)
 replace k3:=k3.put pw5 (by omega)
 replace k6:=k6.put pw5 (by omega)
 replace k7:=pw5.blk
 refine Zk6 0 1 2 3 6 7 (Ztq ?_)
 refine Za ?_
 refine Zk7 0 1 2 3 6 7 8 (Zts (Zsr ?_))
 refine Zm ?_
 refine Zm ?_
 refine Zk9 0 1 2 3 6 7 8 18 19 (Zt (Cd.block ?_))
 have pwl:=pw.next hle hp bel k99
 obtain⟨wl,hwl⟩:∃wl,wl=w5:=⟨_,rfl⟩
 rw[←hwl] at pwl bel k3 k6 k7 k99⊢
 have bel0:=bel
 have l37:g3<g7:=by omega
 have hgg7:K.g<g7:=by omega
 have hs0:=bel.size
 replace bel:=Below.refl wl.heap.size wl
 refine Cd.loop (σ:=Nat × Value) (fun s=>[(3, .pointer (some ⟨g3,0,none⟩)),(6, .pointer (some ⟨g6,0,none⟩)),(7, .pointer (some ⟨g7,0,none⟩)),(8,s.2),(18, .int .i64 (k:Int)),(19, .int .i64 (s.1:Int))]) (fun s wr=>s.1≤k∧Below wl.heap.size wl wr∧Own wr wl.heap.size 1 1 s.2 s.1 (List.replicate s.1 (.func (.func 162) #[] #[.pointer (some ⟨g7,0,none⟩), .pointer (some ⟨g3,0,none⟩)]))) (fun s=>k-s.1) (0, .slice none 0 0) ⟨Nat.zero_le _,bel,Own.nil _ _ _ _⟩ ⟨rfl,rfl,rfl,rfl,rfl,rfl,trivial⟩ ?_
 clear bel
 rintro⟨i,v⟩ wr ⟨hi,bel,own⟩
 dsimp only at hi own⊢
 refine Zsr ?_
 refine Zv (Runs.lss rfl rfl rfl) ?_
 refine Zk7 3 6 7 8 18 19 20 (Zts ?_)
 refine Cd.condD rfl (fun hc=> ?_) (fun hc=> ?_)
 ·skip
  refine Cd.skip (Zts (Cd.block (Zr ?_)))
  refine Zm ?_
  refine Zv (Runs.makeFunc (v:= .func (.func 162) #[] #[.pointer (some ⟨g7,0,none⟩), .pointer (some ⟨g3,0,none⟩)]) rfl (show evL _ _=some [] from rfl) (show evL _ _=some [.pointer (some ⟨g7,0,none⟩), .pointer (some ⟨g3,0,none⟩)] from rfl) rfl) ?_
  refine Seq.slice (vs:=[_]) (s:=1) rfl rfl rfl Tryz.underlying101 (by kernel_rfl) (zero_func__) (by omega) (by omega) ⟨rfl,trivial⟩ rfl rfl rfl ?_
  intro g23 w6 n23
  have e23:=Nat.le_trans bel.size n23.ge
  replace bel:=bel.step n23.below
  replace own:=own.step n23.below
  have k23:=n23.blk
  refine Seq.append rfl rfl rfl Tryz.underlying101 (by kernel_rfl) zero_func__ rfl (by decide) (b:=8) (by kernel_rfl) own (Reads.blk k23 1 rfl) (by intro x hx;simp[flatC,Value.cells] at hx;rw[hx];rfl) bel.size (by simp only[maxLen];omega) (by omega) rfl rfl rfl ?_
  clear own
  intro vw7 w7 own haw7
  replace bel:=bel.trans haw7.below
  refine Za ?_
  refine Zk7 3 6 7 8 18 19 20 (Post.block_normal (Ztr ?_))
  refine Za_ ?_
  refine Zm ?_
  refine Zk7 3 6 7 8 18 19 20 ?_
  refine Post.round (i+1,_) ⟨rfl,rfl,rfl,rfl,rfl,rfl,trivial⟩ ⟨by dsimp only;omega,bel,?_⟩ (by dsimp only;omega)
  dsimp only
  rw[List.replicate_succ']
  exact own
 obtain rfl:i=k:=by omega
 have pw9:=pwl.step hle bel
 replace k3:=k3.step bel
 replace k6:=k6.step bel
 replace k7:=k7.step bel
 obtain⟨AP,cP,rfl,-⟩:=own.reads
 have hsr:=bel.size
 obtain⟨R,hR⟩:∃R,R=withinP K.ws (List.replicate i E0) (p+1) d:=⟨_,rfl⟩
 have hcd:calledP K.ws E0 op i p d=R.bind fun xs p=> .ok (.mk op 0 [] xs) p:=by rw[hR];rfl
 have hneR:R≠ .out:=Rs.bind_ne (by rw[←hcd];exact hne)
 have hfl:(List.replicate i (162,[Value.pointer (some ⟨g7,0,none⟩),Value.pointer (some ⟨g3,0,none⟩)])).length=i:=List.length_replicate
 have hrepl:∀ {β:Type} {x y:β} {j:Nat},(List.replicate i x)[j]? =some y→y=x∧j<i:=fun {β x y j} h=>by
  have h1:=(List.getElem?_eq_some_iff.1 h).1
  rw[List.length_replicate] at h1
  rw[List.getElem?_replicate,if_pos h1] at h
  injection h with h
  exact⟨h.symm,h1⟩
 have hwi:=within_any K hK g7 (List.replicate i E0) (List.replicate i (162,[Value.pointer (some ⟨g7,0,none⟩),Value.pointer (some ⟨g3,0,none⟩)])) AP cP
  (fun xs W=>Kp wr W∧∃evs vE S,Blk W g7 35 #[.int .i64 op, .int .i64 0, .string (strOf []),vE]∧ArgQ W g7 g7 xs [] evs [] vE (.slice none 0 0) S) (p+1) d wr pw9 (by have:=k7.lt;omega) (by rw[List.length_replicate,List.length_replicate]) (by rw[List.length_replicate];omega)
  ⟨Kp.refl wr,[],_,_,k7,ArgQ.nil wr g7 g7⟩
  (fun xs W W' p d hM hp hf=>by
   obtain⟨kp,evs,vE,S,kt,aq⟩:=hM
   exact⟨kp.fz hp.blk hf,evs,vE,S,kt.fz hf (by omega),aq.fz hf hgg7⟩)
  (fun xs W j f cp hM hj=>by
   obtain⟨kp,-⟩:=hM
   obtain⟨e1,hji⟩:=hrepl hj
   injection e1 with e1 e2
   subst e1 e2
   obtain⟨A',c',hv,hr⟩:=(kp.own own).reads
   injection hv with hv _ _
   subst hv
   obtain⟨ad,hA,-,hc⟩:=hr.2 (by omega)
   exact⟨ad,hA,hc j _ (by rw[List.getElem?_replicate,if_pos hji])⟩)
  (fun j f cp hj=>by
   obtain⟨e1,-⟩:=hrepl hj
   injection e1 with e1 e2
   subst e1
   exact eg_called)
  (fun j f cp one hj ho xs W p' hxl hpw hW hM hne1=>by
   obtain⟨e1,hji⟩:=hrepl hj
   injection e1 with e1 e2
   subst e1 e2
   obtain⟨e3,-⟩:=hrepl ho
   subst e3
   obtain⟨kp,evs,vE,S,kt,aq⟩:=hM
   exact(calledC_any K hK g7 g7 g3 (d+1) p' op 0 [] xs evs vE S one W hpw hgg7 (Nat.le_refl _) hW kt (kp.blk k3) aq (by omega) (fun W' h1 _=>hE p' (d+1) W' h1 hne1) hne1).mono fun e W' hq=>hq.mono fun a v W' h=>⟨kp.trans h.1,h.2⟩)
  (by rw[←hR];exact hneR)
 rw[←hR,hfl] at hwi
 have e0:Fz w.heap.size K.g w wr:=bel0.step bel
 refine Cd.exit (Post.then_exit (Post.round_exit (Post.block_exit (Ztq ?_))))
 refine Zv (Runs.loadB rfl rfl Tryz.underlying60 rfl k3 rfl) ?_
 refine Zm ?_
 rcases Rs.ok_or hneR with ⟨q,ov,hr⟩|⟨xs,q,hr⟩
 ·rw[hr] at hwi hcd
  refine Seq.callB (Ze Tryz.func51) rfl hwi ?_
  rintro e w6 ⟨hf,rfl,d6,hp6⟩
  refine⟨_,rfl,fun a ha=>⟨ha.defers,?_⟩⟩
  rw[hcd]
  exact⟨e0.trans (hf.less (by omega)),rfl,d6,hp6⟩
 rw[hr] at hwi hcd
 replace hcd:calledP K.ws E0 op i p d= .ok (.mk op 0 [] xs) q:=hcd
 have k6lt:g6<g7:=by omega
 refine Zc (Ze Tryz.func51) (hwi) ?_
 rintro e wq ⟨hf,v6,rfl,pwq,kp6,evs,vE,S,kt6,aq6⟩
 refine⟨_,rfl,?_⟩
 have k66:Blk wq g6 35 #[.int .i64 0, .int .i64 0, .string {data:= #[]}, .slice none 0 0]:=by
  have k6:Blk wr g6 35 #[.int .i64 0, .int .i64 0, .string {data:= #[]}, .slice none 0 0]:=k6
  have h1:=hf.block g6 k6lt (by omega)
  unfold Blk at k6⊢
  rw[h1]
  exact k6
 have e1:Fz w.heap.size K.g w wq:=e0.trans (hf.less (by omega))
 clear hwi
 obtain⟨AX,cX,hvX,-⟩:=aq6.ownE.reads
 subst hvX
 clear k6 k7 bel bel0 k3
 have k6:=k66
 have k7:=kt6
 have bel:=e1
 have hxl:xs.length=i:=by
  have:=withinP_len (hR.symm.trans hr)
  rw[List.length_replicate] at this
  exact this
 have e6:w.heap.size≤g6:=by omega
 have hrx:=aq6.ex op 0 [] hop (by unfold I64;omega) (by simp) (by simp) (by omega)
 have hbn:=aq6.bounds
 have hlq:=k6.lt
 refine Zk7 3 6 7 8 18 19 20 (Ztq ?_)
 refine Zv (Runs.loadW rfl rfl Tryz.underlying35 rfl k7 (m:=4) (by kernel_rfl) rfl) ?_
 refine Zo 4 k6 ?_
 intro w6 pw6
 replace bel:=bel.put k6 pw6 e6
 replace k7:=k7.put pw6 (by omega)
 replace k6:=pw6.blk
 refine Zk7 3 6 7 8 18 19 20 (Zt (Cd.ret ?_))
 refine Post.endC rfl rfl k6 Tryz.underlying35 rfl (m:=4) (by kernel_rfl) rfl (.inl rfl) ?_
 rw[hcd]
 have hsz:=pw6.size
 refine⟨bel,_,rfl,⟨pwq.blk.put pw6 (by omega),pwq.rd.below (pw6.below (by omega) hlq),pwq.p_le,pwq.d_le⟩,_,hrx.mono (fun _ h=>h) (fun a ha=>World.cell?_of_block (pw6.grown.block _ (hbn _ ha).2.1 (fun e=>by injection e with e;have:=(hbn _ ha).1;omega))),fun b hb=> ?_⟩
 obtain⟨h1,h2,-⟩:=hbn b hb
 exact⟨by omega,by omega⟩
end Go.Proofs.YtaamkfajnpobfaaGreat
namespace Go.Proofs.YtaamkfajnpobfaaGreat
open Go.RowKit
theorem Put.all {w w':World}{g m:Nat}{T:TypeId}{cs vc:Array Value}(p:Put w w' g T (cs.toList.take 0++(vc.toList++cs.toList.drop (0+vc.size))).toArray)(h1:vc.size=m)(h2:cs.size=m):Blk w' g T vc:=by
 have hcells:(cs.toList.take 0++(vc.toList++cs.toList.drop (0+vc.size))).toArray=vc:=by
  have:cs.toList.drop (0+vc.size)=[]:=List.drop_of_length_le (by rw[h1];simp[h2])
  rw[this]
  simp
 have:=p.blk
 rwa [hcells] at this
theorem PW.to {K:Ctx}{w W:World}{p d:Nat}{ov:Bool}(h:PW K w p d ov)(hK:K.B≤K.g)(bel:Fz w.heap.size K.g w W)(hb:Blk W K.g 92 #[.slice K.A K.ws.length K.c, .int .i64 (p:Int), .int .i64 (d:Int), .bool ov, .int .i64 (K.en:Int)]):PW K W p d ov:=
 ⟨hb,h.rd.below (bel.below (by have:=h.blk.lt;omega) hK),h.p_le,h.d_le⟩
theorem eg_atom:∀args w,(callFunc 153 args).run Tryz.prog w= .ok (.enter 153 args) w:=fun args w=>run_enter Tryz.func153 (by kernel_rfl) rfl args w
theorem run_build_En (a:Int)(s:List Nat)(w:World):(Instr.build 35 #[(0, .int .i64 a),(2, .string (strOf s))]).run Tryz.prog w= .ok (.agg #[.int .i64 a, .int .i64 0, .string (strOf s), .slice none 0 0]) w:=by
 have hu:=Tryz.underlying35
 go_simp
def OneE (h g:Nat)(xs:List Ex)(W:World):Prop:=∃cs,Blk W g 35 cs∧cs.size=4∧∀x,xs[0]? =some x→∃(S:Nat→Prop) (v:Value),cs=v.cells∧RepE W S x v∧∀b,S b→h≤b∧b<W.heap.size∧b≠g
theorem OneE.fz {h g q:Nat}{xs:List Ex}{W W':World}(m:OneE h g xs W)(f:Fz W.heap.size q W W')(hq:q<h)(hg:h≤g):OneE h g xs W':=by
 obtain⟨cs,h1,h2,h3⟩:=m
 refine⟨cs,h1.fz f (by omega),h2,fun x hx=> ?_⟩
 obtain⟨S,v,e1,e2,e3⟩:=h3 x hx
 refine⟨S,v,e1,e2.mono (fun _ h=>h) (fun a ha=>World.cell?_of_block (f.block _ (e3 _ ha).2.1 (by have:=(e3 _ ha).1;omega))),fun b hb=> ?_⟩
 obtain⟨b1,b2,b3⟩:=e3 b hb
 exact⟨b1,Nat.lt_of_lt_of_le b2 f.size,b3⟩
theorem atomC_any (K:Ctx)(hK:K.Ok)(h0 b1 gt d p:Nat)(T:Nat→Nat→Rs Ex)(w:World)(pw:PW K w p d false)(hg0:K.g<h0)(hgt:h0≤gt)(hh:h0≤w.heap.size)(kb1:Blk w b1 60 #[.pointer (some ⟨K.g,0,none⟩)]) (kt:OneE h0 gt [] w)
  (hc:∀W,PW K W p d false→Fz w.heap.size K.g w W→Calls Tryz.prog 31 #[.pointer (some ⟨K.g,0,none⟩), .int .i64 0] W (PR K W d (T p d) (okE W))) (hne:T p d≠ .out):
  Calls Tryz.prog 153 #[.pointer (some ⟨b1,0,none⟩), .pointer (some ⟨gt,0,none⟩)] w (PRh K h0 w d (T p d) fun x _ W'=>Kp w W'∧OneE h0 gt [x] W'):=by
 have hle:=hK.le
 have bel:=Fz.refl w.heap.size K.g w
 have k1:=kb1
 have hcl:=hc w pw bel
 refine Zs 4 Tryz.func153 ?_
 refine Zr ?_
 refine Zv (Runs.loadB rfl rfl Tryz.underlying60 rfl k1 rfl) ?_
 rcases Rs.ok_or hne with ⟨q,ov,hr⟩|⟨x,q,hr⟩
 ·rw[hr] at hcl
  refine Seq.callB (Ze Tryz.func31) rfl hcl ?_
  rintro e w6 ⟨hf,rfl,d6,hp6⟩
  refine⟨_,rfl,fun a ha=>⟨ha.defers,?_⟩⟩
  rw[hr]
  exact⟨hf.less hh,rfl,d6,hp6⟩
 rw[hr] at hcl⊢
 refine Zc (Ze Tryz.func31) (hcl) ?_
 rintro e wq ⟨hf,v6,rfl,pwq,S,hrep,hb⟩
 refine⟨_,rfl,?_⟩
 obtain⟨cs,h1,h2,-⟩:=kt
 have kq:=h1.fz hf (by omega)
 have hones:=hrep.ones
 have hlt:=h1.lt
 refine Seq.storeN rfl rfl rfl rfl (m:=4) (by kernel_rfl) hones.1 (ones_of hones.2) kq (by rw[hones.1,h2];omega) rfl rfl ?_
 intro w7 p7
 refine Zk2 0 1 ?_
 refine Post.end0 rfl (.inr rfl) ?_
 have hs:=p7.size
 have hcells:(cs.toList.take 0++(v6.cells.toList++cs.toList.drop (0+v6.cells.size))).toArray=v6.cells:=by
  have:cs.toList.drop (0+v6.cells.size)=[]:=List.drop_of_length_le (by rw[hones.1];simp[h2])
  rw[this]
  simp
 have kb:=p7.blk
 rw[hcells] at kb
 refine⟨(hf.less hh).trans ((Fz.refl h0 K.g wq).put kq p7 hgt),_,rfl,⟨pwq.blk.put p7 (by omega),pwq.rd.below (p7.below (by omega) kq.lt),pwq.p_le,pwq.d_le⟩,((Kp.refl w).fz pw.blk hf).put kq p7 hgt,_,kb,hones.1,fun y hy=> ?_⟩
 simp at hy
 subst hy
 exact⟨S,v6,rfl,hrep.mono (fun _ h=>h) (fun a ha=>World.cell?_of_block (p7.grown.block _ (hb _ ha).2 (fun e=>by injection e with e;have:=(hb _ ha).1;omega))),fun b hb'=>⟨by have:=(hb b hb').1;omega,by have:=(hb b hb').2;omega,by have:=(hb b hb').1;omega⟩⟩
theorem atom_any (K:Ctx)(hK:K.Ok)(E0:Nat→Nat→Rs Ex)(hE:HasE K E0)(p d:Nat)(w:World)(pw:PW K w p d false)(hne:atomP K.ws E0 p d≠ .out):
  Calls Tryz.prog 119 #[.pointer (some ⟨K.g,0,none⟩)] w (PR K w d (atomP K.ws E0 p d) (okE w)):=by
 have bel:=Fz.refl w.heap.size K.g w
 have k99:=pw.blk
 have e99:K.g=K.g:=rfl
 have hlt:=pw.blk.lt
 have hlen:=hK.len
 have hle:=hK.le
 have hpl:=pw.p_le
 obtain⟨a1,a2,a3,a4,a5⟩:=hK.at_ p
 obtain⟨b1,b2,b3⟩:=K.at_kind p
 have hw:=fun W h=>word_any K hK p d false W h
 unfold wdV at hw
 have hq:atomP K.ws E0 p d=if(K.at_ p).kind=1 then .ok (.mk 1 (K.at_ p).n [] []) (p+1) else if(K.at_ p).kind=2 then .ok (.mk 2 (K.at_ p).n [] []) (p+1) else if(K.at_ p).kind=3 then
   if(K.at_ p).text=dayW then .ok (.mk 4 0 [] []) (p+1) else if(K.at_ p).text=minW then calledP K.ws E0 9 2 p d else if(K.at_ p).text=maxW then calledP K.ws E0 10 2 p d else if(K.at_ p).text=ifW then calledP K.ws E0 21 3 p d else(nameP K.ws p).bind fun nm p=> .ok (.mk 3 0 nm []) p
  else if(K.at_ p).kind=0 then(withinP K.ws [E0] p d).bind fun xs p=> .ok (xs.getD 0 (.mk 0 0 [] [])) p else .bad p false:=by rw[b1,b2,b3];rfl
 have hp:(K.at_ p).kind≠ -1→p+1≤K.ws.length:=fun hk=>by
  rcases Nat.lt_or_ge p K.ws.length with h|h
  ·exact h
  ·exact absurd (by unfold Ctx.at_;rw[List.getD_eq_getElem?_getD,List.getElem?_eq_none h];rfl) hk
 refine Zs 58 Tryz.func119 ?_
 refine Zsr ?_
 refine Seq.box rfl rfl rfl rfl rfl ?_
 intro g1 w1 n1
 have e1:=Nat.le_trans bel.size n1.ge
 have l1:=Nat.lt_of_lt_of_le k99.lt n1.ge
 replace bel:=bel.step n1.below
 replace k99:=k99.step n1.below
 have k1:=n1.blk
 refine Zl zero_api_Expr ?_
 intro g2 w2 n2
 have e2:=Nat.le_trans bel.size n2.ge
 have l2:=Nat.lt_of_lt_of_le k1.lt n2.ge
 replace bel:=bel.step n2.below
 replace k99:=k99.step n2.below
 replace k1:=k1.step n2.below
 have k2:=n2.blk
 refine Zk3 0 1 2 (Ztq ?_)
 refine Zv (Runs.loadB rfl rfl Tryz.underlying60 rfl k1 rfl) ?_
 refine Zc (Ze Tryz.func49) (hw _ (pw.to hle bel k99)) ?_
 rintro e w5 ⟨rfl,hb5⟩
 refine⟨_,rfl,?_⟩
 replace bel:=bel.step hb5
 replace k99:=k99.step hb5
 replace k1:=k1.step hb5
 replace k2:=k2.step hb5
 refine Zl zero_lex_Word ?_
 intro g3 w3 n3
 have e3:=Nat.le_trans bel.size n3.ge
 have l3:=Nat.lt_of_lt_of_le k2.lt n3.ge
 replace bel:=bel.step n3.below
 replace k99:=k99.step n3.below
 replace k1:=k1.step n3.below
 replace k2:=k2.step n3.below
 have k3:=n3.blk
 refine Zo 4 k3 ?_
 intro w4 pw4
 replace bel:=bel.put k3 pw4 e3
 replace k99:=k99.put pw4 (by omega)
 replace k1:=k1.put pw4 (by omega)
 replace k2:=k2.put pw4 (by omega)
 replace k3:=pw4.blk
 refine Zk4 0 1 2 3 (Ztq ?_)
 refine Zl zero_api_Expr ?_
 intro g4 w5 n4
 have e4:=Nat.le_trans bel.size n4.ge
 have l4:=Nat.lt_of_lt_of_le k3.lt n4.ge
 replace bel:=bel.step n4.below
 replace k99:=k99.step n4.below
 replace k1:=k1.step n4.below
 replace k2:=k2.step n4.below
 replace k3:=k3.step n4.below
 have k4:=n4.blk
 refine Zk5 0 1 2 3 4 (Zts (Zsr ?_))
 refine Zf 0 Tryz.underlying95 ?_
 refine Zv (Runs.loadB rfl rfl Tryz.underlying3 rfl k3 rfl) ?_
 refine Zk6 0 1 2 3 4 8 (Zt (Cd.block (Zsr ?_)))
 refine Zv (Runs.eqlI rfl rfl rfl) ?_
 refine Za ?_
 refine Zk7 0 1 2 3 4 8 11 (Zt ?_)
 refine Cd.condD rfl (fun c1=> ?_) (fun c1=> ?_)
 ·rw[if_pos c1] at hq
  have hp1:=hp (by omega)
  refine Zr ?_
  refine Zf 2 Tryz.underlying95 ?_
  refine Zv (Runs.loadB rfl rfl Tryz.underlying2 rfl k3 rfl) ?_
  refine Zv (Runs.build rfl rfl (run_build_c 1 _ _)) ?_
  refine Zo 4 k4 ?_
  intro w6 pw6
  replace bel:=bel.put k4 pw6 e4
  replace k99:=k99.put pw6 (by omega)
  replace k1:=k1.put pw6 (by omega)
  replace k2:=k2.put pw6 (by omega)
  replace k3:=k3.put pw6 (by omega)
  replace k4:=pw6.blk
  refine Zk7 0 1 2 3 4 8 11 (Post.block_normal (Ztq ?_))
  refine Zv (Runs.loadB rfl rfl Tryz.underlying60 rfl k1 rfl) ?_
  refine Zv (Runs.nilCheck rfl rfl) ?_
  refine Zf 1 Tryz.underlying92 ?_
  refine Zv (Runs.loadB rfl rfl Tryz.underlying3 rfl k99 rfl) ?_
  refine Za_ ?_
  refine Zv (Runs.nilCheck rfl rfl) ?_
  refine Zf 1 Tryz.underlying92 ?_
  refine Zq k99 ?_
  intro w7 pw7
  replace bel:=bel.put k99 pw7 e99
  replace k1:=k1.put pw7 (by omega)
  replace k2:=k2.put pw7 (by omega)
  replace k3:=k3.put pw7 (by omega)
  replace k4:=k4.put pw7 (by omega)
  replace k99:=pw7.blk
  refine Zk7 0 1 2 3 4 8 11 (Ztq ?_)
  refine Zv (Runs.loadW rfl rfl Tryz.underlying35 rfl k4 (m:=4) (by kernel_rfl) rfl) ?_
  refine Zo 4 k2 ?_
  intro w8 pw8
  replace bel:=bel.put k2 pw8 e2
  replace k99:=k99.put pw8 (by omega)
  replace k1:=k1.put pw8 (by omega)
  replace k3:=k3.put pw8 (by omega)
  replace k4:=k4.put pw8 (by omega)
  replace k2:=pw8.blk
  refine Zk7 0 1 2 3 4 8 11 (Zt (Cd.ret ?_))
  refine Post.endC rfl rfl k2 Tryz.underlying35 rfl (m:=4) (by kernel_rfl) rfl (.inl rfl) ?_
  rw[hq]
  exact⟨bel,_,rfl,pw.next hle hp1 bel k99,fun _=>False,RepE.mk (args:=[]) (vs:=[]) rfl (by simp) (by unfold I64;omega) a2 (by simp) (by simp) (fun i e v h=>by simp at h) (fun h=>absurd rfl h),fun b hb=>hb.elim⟩
 rw[if_neg c1] at hq
 refine Zsr ?_
 refine Zv (Runs.eqlI rfl rfl rfl) ?_
 refine Za ?_
 refine Zk8 0 1 2 3 4 8 11 16 (Zt ?_)
 refine Cd.condD rfl (fun c2=> ?_) (fun c2=> ?_)
 ·rw[if_pos c2] at hq
  have hp1:=hp (by omega)
  refine Zr ?_
  refine Zf 2 Tryz.underlying95 ?_
  refine Zv (Runs.loadB rfl rfl Tryz.underlying2 rfl k3 rfl) ?_
  refine Zv (Runs.build rfl rfl (run_build_c 2 _ _)) ?_
  refine Zo 4 k4 ?_
  intro w6 pw6
  replace bel:=bel.put k4 pw6 e4
  replace k99:=k99.put pw6 (by omega)
  replace k1:=k1.put pw6 (by omega)
  replace k2:=k2.put pw6 (by omega)
  replace k3:=k3.put pw6 (by omega)
  replace k4:=pw6.blk
  refine Zk8 0 1 2 3 4 8 11 16 (Post.block_normal (Ztq ?_))
  refine Zv (Runs.loadB rfl rfl Tryz.underlying60 rfl k1 rfl) ?_
  refine Zv (Runs.nilCheck rfl rfl) ?_
  refine Zf 1 Tryz.underlying92 ?_
  refine Zv (Runs.loadB rfl rfl Tryz.underlying3 rfl k99 rfl) ?_
  refine Za_ ?_
  refine Zv (Runs.nilCheck rfl rfl) ?_
  refine Zf 1 Tryz.underlying92 ?_
  refine Zq k99 ?_
  intro w7 pw7
  replace bel:=bel.put k99 pw7 e99
  replace k1:=k1.put pw7 (by omega)
  replace k2:=k2.put pw7 (by omega)
  replace k3:=k3.put pw7 (by omega)
  replace k4:=k4.put pw7 (by omega)
  replace k99:=pw7.blk
  refine Zk8 0 1 2 3 4 8 11 16 (Ztq ?_)
  refine Zv (Runs.loadW rfl rfl Tryz.underlying35 rfl k4 (m:=4) (by kernel_rfl) rfl) ?_
  refine Zo 4 k2 ?_
  intro w8 pw8
  replace bel:=bel.put k2 pw8 e2
  replace k99:=k99.put pw8 (by omega)
  replace k1:=k1.put pw8 (by omega)
  replace k3:=k3.put pw8 (by omega)
  replace k4:=k4.put pw8 (by omega)
  replace k2:=pw8.blk
  refine Zk8 0 1 2 3 4 8 11 16 (Zt (Cd.ret ?_))
  refine Post.endC rfl rfl k2 Tryz.underlying35 rfl (m:=4) (by kernel_rfl) rfl (.inl rfl) ?_
  rw[hq]
  exact⟨bel,_,rfl,pw.next hle hp1 bel k99,fun _=>False,RepE.mk (args:=[]) (vs:=[]) rfl (by simp) (by unfold I64;omega) a2 (by simp) (by simp) (fun i e v h=>by simp at h) (fun h=>absurd rfl h),fun b hb=>hb.elim⟩
 rw[if_neg c2] at hq
 refine Zsr ?_
 refine Zv (Runs.eqlI rfl rfl rfl) ?_
 refine Za ?_
 refine Zk9 0 1 2 3 4 8 11 16 21 (Zt ?_)
 refine Cd.condD rfl (fun c3=> ?_) (fun c3=> ?_)
 ·rw[if_pos c3] at hq
  have hp1:=hp (by omega)
  refine Zsr ?_
  refine Zf 1 Tryz.underlying95 ?_
  refine Zv (Runs.loadB rfl rfl Tryz.underlying9 rfl k3 rfl) ?_
  refine Zk10 0 1 2 3 4 8 11 16 21 24 (Zt (Cd.block (Zsr ?_)))
  refine Zv (Runs.eqlL (b:=dayW) rfl rfl rfl a3 (by decide)) ?_
  refine Za ?_
  refine Zk11 0 1 2 3 4 8 11 16 21 24 28 (Zt ?_)
  refine Cd.condD rfl (fun c4=> ?_) (fun c4=> ?_)
  ·rw[if_pos c4] at hq
   refine Zr ?_
   refine Zv (Runs.build rfl rfl (run_build_Eop 4 _)) ?_
   refine Zo 4 k4 ?_
   intro w6 pw6
   replace bel:=bel.put k4 pw6 e4
   replace k99:=k99.put pw6 (by omega)
   replace k1:=k1.put pw6 (by omega)
   replace k2:=k2.put pw6 (by omega)
   replace k3:=k3.put pw6 (by omega)
   replace k4:=pw6.blk
   refine Zk11 0 1 2 3 4 8 11 16 21 24 28 (Post.block_normal (Post.block_normal (Ztq ?_)))
   refine Zv (Runs.loadB rfl rfl Tryz.underlying60 rfl k1 rfl) ?_
   refine Zv (Runs.nilCheck rfl rfl) ?_
   refine Zf 1 Tryz.underlying92 ?_
   refine Zv (Runs.loadB rfl rfl Tryz.underlying3 rfl k99 rfl) ?_
   refine Za_ ?_
   refine Zv (Runs.nilCheck rfl rfl) ?_
   refine Zf 1 Tryz.underlying92 ?_
   refine Zq k99 ?_
   intro w7 pw7
   replace bel:=bel.put k99 pw7 e99
   replace k1:=k1.put pw7 (by omega)
   replace k2:=k2.put pw7 (by omega)
   replace k3:=k3.put pw7 (by omega)
   replace k4:=k4.put pw7 (by omega)
   replace k99:=pw7.blk
   refine Zk11 0 1 2 3 4 8 11 16 21 24 28 (Ztq ?_)
   refine Zv (Runs.loadW rfl rfl Tryz.underlying35 rfl k4 (m:=4) (by kernel_rfl) rfl) ?_
   refine Zo 4 k2 ?_
   intro w8 pw8
   replace bel:=bel.put k2 pw8 e2
   replace k99:=k99.put pw8 (by omega)
   replace k1:=k1.put pw8 (by omega)
   replace k3:=k3.put pw8 (by omega)
   replace k4:=k4.put pw8 (by omega)
   replace k2:=pw8.blk
   refine Zk11 0 1 2 3 4 8 11 16 21 24 28 (Zt (Cd.ret ?_))
   refine Post.endC rfl rfl k2 Tryz.underlying35 rfl (m:=4) (by kernel_rfl) rfl (.inl rfl) ?_
   rw[hq]
   exact⟨bel,_,rfl,pw.next hle hp1 bel k99,fun _=>False,RepE.mk (args:=[]) (vs:=[]) rfl (by simp) (by unfold I64;omega) (by unfold I64;omega) (by simp) (by simp) (fun i e v h=>by simp at h) (fun h=>absurd rfl h),fun b hb=>hb.elim⟩
  rw[if_neg c4] at hq
  refine Zsr ?_
  refine Zv (Runs.eqlL (b:=minW) rfl rfl rfl a3 (by decide)) ?_
  refine Za ?_
  refine Zk12 0 1 2 3 4 8 11 16 21 24 28 31 (Zt ?_)
  refine Cd.condD rfl (fun c5=> ?_) (fun c5=> ?_)
  ·rw[if_pos c5] at hq
   refine Zsr ?_
   refine Zv (Runs.loadB rfl rfl Tryz.underlying60 rfl k1 rfl) ?_
   have hcd:=called_any K hK E0 hE 9 2 p d _ (pw.to hle bel k99) hp1 (by unfold I64;omega) (by omega) (by rw[←hq];exact hne)
   rw[←hq] at hcd
   have hs0:=bel.size
   have hk2:=k2.lt
   rcases Rs.ok_or hne with ⟨q,ov,hr⟩|⟨x,q,hr⟩
   ·rw[hr] at hcd
    refine Seq.callB (Ze Tryz.func152) rfl hcd ?_
    rintro e w8 ⟨hf,rfl,d6,hp6⟩
    refine⟨_,rfl,fun a ha=>⟨ha.defers,?_⟩⟩
    rw[hr]
    exact⟨bel.call hf,rfl,d6,hp6⟩
   rw[hr] at hcd
   refine Zc (Ze Tryz.func152) (hcd) ?_
   rintro e wq ⟨hf,v6,rfl,pwq,S,hrep,hb⟩
   refine⟨_,rfl,?_⟩
   replace bel:=bel.call hf
   replace k2:=k2.fz hf (by omega)
   have hones:=hrep.ones
   refine Seq.storeN rfl rfl rfl rfl (m:=4) (by kernel_rfl) hones.1 (ones_of hones.2) k2 (by rw[hones.1];exact Nat.le_refl _) rfl rfl ?_
   intro w9 p9
   have pw9:=p9.all hones.1 rfl
   have pb9:=bel.put k2 p9 e2
   have hlt2:=k2.lt
   clear k2 bel
   have k2:=pw9
   have bel:=pb9
   obtain⟨AX,cX,hvX⟩:=hrep.form
   refine Zk12 0 1 2 3 4 8 11 16 21 24 28 31 (Zt (Cd.ret (Post.block_ret (Post.block_ret (Post.then_ret ?_)))))
   subst hvX
   refine Post.endC rfl rfl k2 Tryz.underlying35 rfl (m:=4) (by kernel_rfl) rfl (.inl rfl) ?_
   rw[hr]
   refine⟨bel,_,rfl,⟨pwq.blk.put p9 (by omega),pwq.rd.below (p9.below (by omega) hlt2),pwq.p_le,pwq.d_le⟩,S,hrep.mono (fun _ h=>h) (fun a ha=>World.cell?_of_block (p9.grown.block _ (hb _ ha).2 (fun e=>by injection e with e;have:=(hb _ ha).1;omega))),fun b hb'=> ?_⟩
   obtain⟨h1,h2⟩:=hb b hb'
   have:=p9.size
   exact⟨by omega,by omega⟩
  rw[if_neg c5] at hq
  refine Zsr ?_
  refine Zv (Runs.eqlL (b:=maxW) rfl rfl rfl a3 (by decide)) ?_
  refine Za ?_
  refine Zk13 0 1 2 3 4 8 11 16 21 24 28 31 35 (Zt ?_)
  refine Cd.condD rfl (fun c6=> ?_) (fun c6=> ?_)
  ·rw[if_pos c6] at hq
   refine Zsr ?_
   refine Zv (Runs.loadB rfl rfl Tryz.underlying60 rfl k1 rfl) ?_
   have hcd:=called_any K hK E0 hE 10 2 p d _ (pw.to hle bel k99) hp1 (by unfold I64;omega) (by omega) (by rw[←hq];exact hne)
   rw[←hq] at hcd
   have hs0:=bel.size
   have hk2:=k2.lt
   rcases Rs.ok_or hne with ⟨q,ov,hr⟩|⟨x,q,hr⟩
   ·rw[hr] at hcd
    refine Seq.callB (Ze Tryz.func152) rfl hcd ?_
    rintro e w8 ⟨hf,rfl,d6,hp6⟩
    refine⟨_,rfl,fun a ha=>⟨ha.defers,?_⟩⟩
    rw[hr]
    exact⟨bel.call hf,rfl,d6,hp6⟩
   rw[hr] at hcd
   refine Zc (Ze Tryz.func152) (hcd) ?_
   rintro e wq ⟨hf,v6,rfl,pwq,S,hrep,hb⟩
   refine⟨_,rfl,?_⟩
   replace bel:=bel.call hf
   replace k2:=k2.fz hf (by omega)
   have hones:=hrep.ones
   refine Seq.storeN rfl rfl rfl rfl (m:=4) (by kernel_rfl) hones.1 (ones_of hones.2) k2 (by rw[hones.1];exact Nat.le_refl _) rfl rfl ?_
   intro w9 p9
   have pw9:=p9.all hones.1 rfl
   have pb9:=bel.put k2 p9 e2
   have hlt2:=k2.lt
   clear k2 bel
   have k2:=pw9
   have bel:=pb9
   obtain⟨AX,cX,hvX⟩:=hrep.form
   refine Zk13 0 1 2 3 4 8 11 16 21 24 28 31 35 (Zt (Cd.ret (Post.block_ret (Post.block_ret (Post.then_ret ?_)))))
   subst hvX
   refine Post.endC rfl rfl k2 Tryz.underlying35 rfl (m:=4) (by kernel_rfl) rfl (.inl rfl) ?_
   rw[hr]
   refine⟨bel,_,rfl,⟨pwq.blk.put p9 (by omega),pwq.rd.below (p9.below (by omega) hlt2),pwq.p_le,pwq.d_le⟩,S,hrep.mono (fun _ h=>h) (fun a ha=>World.cell?_of_block (p9.grown.block _ (hb _ ha).2 (fun e=>by injection e with e;have:=(hb _ ha).1;omega))),fun b hb'=> ?_⟩
   obtain⟨h1,h2⟩:=hb b hb'
   have:=p9.size
   exact⟨by omega,by omega⟩
  rw[if_neg c6] at hq
  refine Zsr ?_
  refine Zv (Runs.eqlL (b:=ifW) rfl rfl rfl a3 (by decide)) ?_
  refine Za ?_
  refine Zk14 0 1 2 3 4 8 11 16 21 24 28 31 35 39 (Zt ?_)
  refine Cd.condD rfl (fun c7=> ?_) (fun c7=> ?_)
  ·rw[if_pos c7] at hq
   refine Zsr ?_
   refine Zv (Runs.loadB rfl rfl Tryz.underlying60 rfl k1 rfl) ?_
   have hcd:=called_any K hK E0 hE 21 3 p d _ (pw.to hle bel k99) hp1 (by unfold I64;omega) (by omega) (by rw[←hq];exact hne)
   rw[←hq] at hcd
   have hs0:=bel.size
   have hk2:=k2.lt
   rcases Rs.ok_or hne with ⟨q,ov,hr⟩|⟨x,q,hr⟩
   ·rw[hr] at hcd
    refine Seq.callB (Ze Tryz.func152) rfl hcd ?_
    rintro e w8 ⟨hf,rfl,d6,hp6⟩
    refine⟨_,rfl,fun a ha=>⟨ha.defers,?_⟩⟩
    rw[hr]
    exact⟨bel.call hf,rfl,d6,hp6⟩
   rw[hr] at hcd
   refine Zc (Ze Tryz.func152) (hcd) ?_
   rintro e wq ⟨hf,v6,rfl,pwq,S,hrep,hb⟩
   refine⟨_,rfl,?_⟩
   replace bel:=bel.call hf
   replace k2:=k2.fz hf (by omega)
   have hones:=hrep.ones
   refine Seq.storeN rfl rfl rfl rfl (m:=4) (by kernel_rfl) hones.1 (ones_of hones.2) k2 (by rw[hones.1];exact Nat.le_refl _) rfl rfl ?_
   intro w9 p9
   have pw9:=p9.all hones.1 rfl
   have pb9:=bel.put k2 p9 e2
   have hlt2:=k2.lt
   clear k2 bel
   have k2:=pw9
   have bel:=pb9
   obtain⟨AX,cX,hvX⟩:=hrep.form
   refine Zk14 0 1 2 3 4 8 11 16 21 24 28 31 35 39 (Zt (Cd.ret (Post.block_ret (Post.block_ret (Post.then_ret ?_)))))
   subst hvX
   refine Post.endC rfl rfl k2 Tryz.underlying35 rfl (m:=4) (by kernel_rfl) rfl (.inl rfl) ?_
   rw[hr]
   refine⟨bel,_,rfl,⟨pwq.blk.put p9 (by omega),pwq.rd.below (p9.below (by omega) hlt2),pwq.p_le,pwq.d_le⟩,S,hrep.mono (fun _ h=>h) (fun a ha=>World.cell?_of_block (p9.grown.block _ (hb _ ha).2 (fun e=>by injection e with e;have:=(hb _ ha).1;omega))),fun b hb'=> ?_⟩
   obtain⟨h1,h2⟩:=hb b hb'
   have:=p9.size
   exact⟨by omega,by omega⟩
  rw[if_neg c7] at hq
  have hnm:=name_any K hK p d _ (pw.to hle bel k99)
  refine Zsr ?_
  refine Zv (Runs.loadB rfl rfl Tryz.underlying60 rfl k1 rfl) ?_
  rcases Rs.ok_or (nameP_ne K.ws p) with ⟨q,ov,hr⟩|⟨x,q,hr⟩
  ·rw[hr] at hnm hq
   refine Seq.callB (Ze Tryz.func53) rfl hnm ?_
   rintro e w8 ⟨hf,rfl,d6,hp6⟩
   refine⟨_,rfl,fun a ha=>⟨ha.defers,?_⟩⟩
   rw[hq]
   exact⟨bel.call hf,rfl,d6,hp6⟩
  have hx:x=(K.at_ p).text:=by
   unfold nameP at hr
   split at hr
   ·injection hr with hr;rw[←hr,b2]
   ·cases hr
  rw[hr] at hnm hq
  replace hq:atomP K.ws E0 p d= .ok (.mk 3 0 x []) q:=hq
  refine Zc (Ze Tryz.func53) (hnm) ?_
  rintro e wq ⟨hf,v6,rfl,pwq,rfl⟩
  refine⟨_,rfl,?_⟩
  replace bel:=bel.call hf
  replace k2:=k2.fz hf (by omega)
  replace k99:=pwq.blk
  have loc:=Fz.refl wq.heap.size K.g wq
  have hlt2:=k2.lt
  refine Zv (Runs.build rfl rfl (run_build_En 3 _ _)) ?_
  refine Zo 4 k2 ?_
  intro w6 pw6
  replace bel:=bel.put k2 pw6 e2
  replace k99:=k99.put pw6 (by omega)
  replace k2:=pw6.blk
  refine Zk14 0 1 2 3 4 8 11 16 21 24 28 31 35 39 (Zt (Cd.ret (Post.block_ret (Post.block_ret (Post.then_ret ?_)))))
  refine Post.endC rfl rfl k2 Tryz.underlying35 rfl (m:=4) (by kernel_rfl) rfl (.inl rfl) ?_
  rw[hq]
  exact⟨bel,_,rfl,⟨k99,pwq.rd.below (pw6.below (by omega) hlt2),pwq.p_le,pwq.d_le⟩,fun _=>False,RepE.mk (args:=[]) (vs:=[]) rfl (by simp) (by unfold I64;omega) (by unfold I64;omega) (by rw[hx];exact a3) (by rw[hx];omega) (fun i e v h=>by simp at h) (fun h=>absurd rfl h),fun b hb=>hb.elim⟩
 rw[if_neg c3] at hq
 refine Zsr ?_
 refine Zv (Runs.eqlI rfl rfl rfl) ?_
 refine Za ?_
 refine Zk10 0 1 2 3 4 8 11 16 21 43 (Zt ?_)
 refine Cd.condD rfl (fun c8=> ?_) (fun c8=> ?_)
 ·rw[if_pos c8] at hq
  refine Zsr ?_
  refine Zv (Runs.loadB rfl rfl Tryz.underlying60 rfl k1 rfl) ?_
  refine Zv (Runs.makeFunc (v:= .func (.func 153) #[] #[.pointer (some ⟨g1,0,none⟩), .pointer (some ⟨g4,0,none⟩)]) rfl (show evL _ _=some [] from rfl) (show evL _ _=some [.pointer (some ⟨g1,0,none⟩), .pointer (some ⟨g4,0,none⟩)] from rfl) rfl) ?_
  refine Seq.slice (vs:=[_]) (s:=1) rfl rfl rfl Tryz.underlying101 (by kernel_rfl) (zero_func__) (by omega) (by omega) ⟨rfl,trivial⟩ rfl rfl rfl ?_
  intro g47 w6 n47
  have e47:=Nat.le_trans bel.size n47.ge
  have l47:=Nat.lt_of_lt_of_le k4.lt n47.ge
  replace bel:=bel.step n47.below
  replace k99:=k99.step n47.below
  replace k1:=k1.step n47.below
  replace k2:=k2.step n47.below
  replace k3:=k3.step n47.below
  replace k4:=k4.step n47.below
  have k47:=n47.blk
  have pw8:=pw.to hle bel k99
  obtain⟨wr,hwr⟩:∃wr,wr=w6:=⟨_,rfl⟩
  rw[←hwr] at pw8 bel k1 k2 k4 k47⊢
  obtain⟨R,hR⟩:∃R,R=withinP K.ws [E0] p d:=⟨_,rfl⟩
  rw[←hR] at hq
  have hneR:R≠ .out:=Rs.bind_ne (by rw[←hq];exact hne)
  have hgg4:K.g<g4:=by omega
  have hwi:=within_any K hK g4 [E0] [(153,[Value.pointer (some ⟨g1,0,none⟩),Value.pointer (some ⟨g4,0,none⟩)])] (some ⟨g47,0,none⟩) 1
   (fun xs W=>Kp wr W∧OneE g4 g4 xs W) p d wr pw8 (Nat.le_of_lt k4.lt) rfl (by simp)
   ⟨Kp.refl wr,_,k4,rfl,fun x hx=>by simp at hx⟩
   (fun xs W W' p d hM hp hf=>⟨hM.1.fz hp.blk hf,hM.2.fz hf hgg4 (Nat.le_refl _)⟩)
   (fun xs W j f cp hM hj=>by
    match j,hj with
    |0,hj=>
     simp at hj
     obtain⟨e1,e2⟩:=hj
     subst e1 e2
     refine⟨_,rfl,?_⟩
     have hb:=(hM.1.blk k47).cell 0
     exact hb
    |j+1,hj=>simp at hj)
   (fun j f cp hj=>by
    match j,hj with
    |0,hj=>
     simp at hj
     obtain⟨e1,e2⟩:=hj
     subst e1
     exact eg_atom
    |j+1,hj=>simp at hj)
   (fun j f cp one hj ho xs W p' hxl hpw hW hM hne1=>by
    match j,hj,ho,hxl with
    |0,hj,ho,hxl=>
     simp at hj ho
     obtain⟨e1,e2⟩:=hj
     subst e1 e2 ho
     have hx0:xs=[]:=List.eq_nil_of_length_eq_zero hxl
     subst hx0
     exact(atomC_any K hK g4 g1 g4 (d+1) p' E0 W hpw hgg4 (Nat.le_refl _) hW (hM.1.blk k1) hM.2 (fun W' h1 _=>hE p' (d+1) W' h1 hne1) hne1).mono fun e W' hq=>hq.mono fun a v W' h=>⟨hM.1.trans h.1,h.2⟩
    |j+1,hj,_,_=>simp at hj)
   (by rw[←hR];exact hneR)
  rw[←hR] at hwi
  rcases Rs.ok_or hneR with ⟨q,ov,hr⟩|⟨xs,q,hr⟩
  ·rw[hr] at hwi hq
   refine Seq.callB (Ze Tryz.func51) rfl hwi ?_
   rintro e w8 ⟨hf,rfl,d6,hp6⟩
   refine⟨_,rfl,fun a ha=>⟨ha.defers,?_⟩⟩
   rw[hq]
   exact⟨bel.trans (hf.less (by omega)),rfl,d6,hp6⟩
  have hxl:=withinP_len (hR.symm.trans hr)
  obtain⟨x,rfl⟩:∃x,xs=[x]:=by
   match xs,hxl with
   | [x],_=>exact⟨x,rfl⟩
  rw[hr] at hwi hq
  replace hq:atomP K.ws E0 p d= .ok x q:=hq
  refine Zc (Ze Tryz.func51) (hwi) ?_
  rintro e wq ⟨hf,v6,rfl,pwq,kpq,cs,k4q,hcs4,hx⟩
  refine⟨_,rfl,?_⟩
  obtain⟨S,v,rfl,hrep,hb⟩:=hx x rfl
  have k2q:Blk wq g2 35 #[.int .i64 0, .int .i64 0, .string {data:= #[]}, .slice none 0 0]:=by
   have h2:Blk wr g2 35 #[.int .i64 0, .int .i64 0, .string {data:= #[]}, .slice none 0 0]:=k2
   have h1:=hf.block g2 (by omega) (by omega)
   unfold Blk at h2⊢
   rw[h1]
   exact h2
  have belq:Fz w.heap.size K.g w wq:=bel.trans (hf.less (by omega))
  clear bel k1 k2 k3 k4 k47 k99
  have bel:=belq
  have k2:=k2q
  obtain⟨AX,cX,hvX⟩:=hrep.form
  subst hvX
  have k4:=k4q
  have hlt2:=k2.lt
  refine Zk10 0 1 2 3 4 8 11 16 21 43 (Ztq ?_)
  refine Zv (Runs.loadW rfl rfl Tryz.underlying35 rfl k4 (m:=4) (by kernel_rfl) rfl) ?_
  refine Zo 4 k2 ?_
  intro w7 pw7
  replace bel:=bel.put k2 pw7 e2
  replace k4:=k4.put pw7 (by omega)
  replace k2:=pw7.blk
  refine Zk10 0 1 2 3 4 8 11 16 21 43 (Zt (Cd.ret (Post.block_ret (Post.then_ret ?_))))
  refine Post.endC rfl rfl k2 Tryz.underlying35 rfl (m:=4) (by kernel_rfl) rfl (.inl rfl) ?_
  rw[hq]
  refine⟨bel,_,rfl,⟨pwq.blk.put pw7 (by omega),pwq.rd.below (pw7.below (by omega) hlt2),pwq.p_le,pwq.d_le⟩,S,hrep.mono (fun _ h=>h) (fun a ha=>World.cell?_of_block (pw7.grown.block _ (hb _ ha).2.1 (fun e=>by injection e with e;have:=(hb _ ha).1;omega))),fun b hb'=> ?_⟩
  obtain⟨h1,h2,h3⟩:=hb b hb'
  have:=pw7.size
  exact⟨by omega,by omega⟩
 rw[if_neg c8] at hq
 refine Zr ?_
 refine Zv (Runs.loadB rfl rfl Tryz.underlying60 rfl k1 rfl) ?_
 refine Seq.callB (Ze Tryz.func50) rfl (fail_any K.g _) ?_
 rintro e w6 ⟨rfl,hb6⟩
 refine⟨_,rfl,fun a ha=>⟨ha.defers,?_⟩⟩
 rw[hq]
 exact⟨bel.step hb6,rfl,d,pw.to hle (bel.step hb6) (k99.step hb6)⟩
theorem run_build_s1 (a:Int)(g:Nat)(w:World):(Instr.build 35 #[(0, .int .i64 a),(3, .slice (some ⟨g,0,none⟩) 1 1)]).run Tryz.prog w= .ok (.agg #[.int .i64 a, .int .i64 0, .string (strOf []), .slice (some ⟨g,0,none⟩) 1 1]) w:=by
 have hu:=Tryz.underlying35
 go_simp
 rfl
structure ReS (lo hi:Nat)(S:Nat→Prop)(x:Ex)(v:Value)(W:World):Prop where
 rep:RepE W S x v
 bd:∀b,S b→lo≤b∧b<hi
 hi_le:hi≤W.heap.size
theorem ReS.step {lo hi:Nat}{S:Nat→Prop}{x:Ex}{v:Value}{W W':World}(r:ReS lo hi S x v W)(h:Below W.heap.size W W'):ReS lo hi S x v W':=
 ⟨r.rep.mono (fun _ h=>h) (fun a ha=>h.cell (Nat.lt_of_lt_of_le (r.bd _ ha).2 r.hi_le)),r.bd,Nat.le_trans r.hi_le h.size⟩
theorem ReS.put {lo hi g:Nat}{T:TypeId}{cur cs:Array Value}{S:Nat→Prop}{x:Ex}{v:Value}{W W':World}(r:ReS lo hi S x v W)(_k:Blk W g T cur)(p:Put W W' g T cs){E:Prop}(_e:E)(hne:g<lo∨hi≤g:=by omega):ReS lo hi S x v W':=
 ⟨r.rep.mono (fun _ h=>h) (fun a ha=>World.cell?_of_block (p.grown.block _ (Nat.lt_of_lt_of_le (r.bd _ ha).2 r.hi_le) (fun e=>by injection e with e;have:=r.bd _ ha;omega))),r.bd,Nat.le_trans r.hi_le (Nat.le_of_eq p.size.symm)⟩
def HasS (K:Ctx)(S0:Nat→Nat→Rs Ex):Prop:=∀p d W,PW K W p d false→S0 p d≠ .out→Calls Tryz.prog 71 #[.pointer (some ⟨K.g,0,none⟩)] W (PR K W d (S0 p d) (okE W))
theorem unary_any (K:Ctx)(hK:K.Ok)(S0 E0:Nat→Nat→Rs Ex)(hS:HasS K S0)(hE:HasE K E0)(p d:Nat)(w:World)(pw:PW K w p d false)(hne:unaryP K.ws S0 E0 p d≠ .out):
  Calls Tryz.prog 71 #[.pointer (some ⟨K.g,0,none⟩)] w (PR K w d (unaryP K.ws S0 E0 p d) (okE w)):=by
 have bel:=Fz.refl w.heap.size K.g w
 have k99:=pw.blk
 have e99:K.g=K.g:=rfl
 have hlt:=pw.blk.lt
 have hlen:=hK.len
 have hle:=hK.le
 have hpl:=pw.p_le
 have his:=fun(s:List Nat) (hs:∀x∈s,x<256) W h=>is_any K hK p d false 0 s W h hs
 have hq:unaryP K.ws S0 E0 p d=if isS K.ws p [33]=true then aheadP S0 19 p d else if isS K.ws p [45]=true then aheadP S0 20 p d else atomP K.ws E0 p d:=rfl
 have hp:∀s,isS K.ws p s=true→p+1≤K.ws.length:=fun s hk=>by
  rcases Nat.lt_or_ge p K.ws.length with h|h
  ·exact h
  ·unfold isS at hk
   have h1:wAt K.ws p=⟨-1,[],0,0⟩:=by unfold wAt;rw[List.getD_eq_getElem?_getD,List.getElem?_eq_none h];rfl
   rw[h1] at hk
   simp at hk
 refine Zs 35 Tryz.func71 ?_
 refine Zsr ?_
 refine Zl zero_api_Expr ?_
 intro g2 w1 n2
 have e2:=Nat.le_trans bel.size n2.ge
 have l2:=Nat.lt_of_lt_of_le k99.lt n2.ge
 replace bel:=bel.step n2.below
 replace k99:=k99.step n2.below
 have k2:=n2.blk
 refine Zk2 0 2 (Ztq ?_)
 refine Za ?_
 refine Zk3 0 2 3 (Zts (Cd.block (Zsr ?_)))
 refine Zm ?_
 refine Zc (Ze Tryz.func118) (his [33] (by decide) _ (pw.to hle bel k99)) ?_
 rintro e w5 ⟨rfl,hb5⟩
 refine⟨_,rfl,?_⟩
 replace bel:=bel.step hb5
 replace k99:=k99.step hb5
 replace k2:=k2.step hb5
 refine Za ?_
 refine Zk4 0 2 3 7 (Zt ?_)
 refine Cd.cond rfl (fun c1=> ?_) (fun c1=> ?_)
 ·have c1:isS K.ws p [33]=true:=c1
  have hp1:=hp _ c1
  rw[if_pos c1] at hq
  have hen:=enter_any K hK p d _ (pw.to hle bel k99)
  refine Zr ?_
  refine Za ?_
  refine Zk4 0 2 3 7 (Post.block_normal (Ztq ?_))
  refine Zm ?_
  rcases Rs.ok_or (enterP_ne p d) with ⟨p2,o2,hr2⟩|⟨u2,p2,hr2⟩
  ·unfold aheadP at hq
   rw[hr2] at hen hq
   refine Seq.callB (Ze Tryz.func99) rfl hen ?_
   rintro e w6 ⟨hf,rfl,d6,hp6⟩
   refine⟨_,rfl,fun a ha=>⟨ha.defers,?_⟩⟩
   rw[hq]
   exact⟨bel.call hf,rfl,d6,hp6⟩
  have hp2:p2=p:=by
   unfold enterP at hr2
   split at hr2
   ·cases hr2
   ·injection hr2 with _ h;exact h.symm
  subst hp2
  unfold aheadP at hq
  rw[hr2] at hen hq
  replace hq:unaryP K.ws S0 E0 p2 d=(S0 (p2+1) (d+1)).bind fun x p=> .ok (.mk 19 0 [] [x]) p:=hq
  have hne1:S0 (p2+1) (d+1)≠ .out:=Rs.bind_ne (by rw[←hq];exact hne)
  refine Zc (Ze Tryz.func99) (hen) ?_
  rintro e we ⟨hfe,v6,rfl,pwe,-⟩
  refine⟨_,rfl,?_⟩
  replace bel:=bel.call hfe
  replace k2:=k2.fz hfe (by omega)
  replace k99:=pwe.blk
  have loc:=Fz.refl we.heap.size K.g we
  refine Zk4 0 2 3 7 (Ztq ?_)
  refine Zm ?_
  refine Zv (Runs.nilCheck rfl rfl) ?_
  refine Zf 1 Tryz.underlying92 ?_
  refine Zv (Runs.loadB rfl rfl Tryz.underlying3 rfl k99 rfl) ?_
  refine Za_ ?_
  refine Zv (Runs.nilCheck rfl rfl) ?_
  refine Zf 1 Tryz.underlying92 ?_
  refine Zq k99 ?_
  intro w2 pw2
  replace bel:=bel.put k99 pw2 e99
  replace k2:=k2.put pw2 (by omega)
  replace loc:=loc.put k99 pw2 e99
  replace k99:=pw2.blk
  refine Zk4 0 2 3 7 (Ztq ?_)
  refine Zm ?_
  have pwn:=pwe.next hle hp1 loc k99
  have hun:=hS (p2+1) (d+1) _ pwn hne1
  rcases Rs.ok_or hne1 with ⟨q,ov,hr⟩|⟨x,q,hr⟩
  ·rw[hr] at hun hq
   refine Seq.callB (Ze Tryz.func71) rfl hun ?_
   rintro e w6 ⟨hf,rfl,d6,hp6⟩
   refine⟨_,rfl,fun a ha=>⟨ha.defers,?_⟩⟩
   rw[hq]
   exact⟨bel.call hf,rfl,d6,hp6⟩
  rw[hr] at hun hq
  replace hq:unaryP K.ws S0 E0 p2 d= .ok (.mk 19 0 [] [x]) q:=hq
  have hk2:=k2.lt
  have hsb:=bel.size
  refine Zc (Ze Tryz.func71) (hun) ?_
  rintro e wq ⟨hf,v6,rfl,pwq,S,hrep,hb⟩
  refine⟨_,rfl,?_⟩
  replace bel:=bel.call hf
  replace k2:=k2.fz hf (by omega)
  replace k99:=pwq.blk
  have hones:=hrep.ones
  have hsf:=hf.size
  have rs:ReS _ wq.heap.size S x v6 wq:=⟨hrep,hb,Nat.le_refl _⟩
  clear loc
  obtain⟨AX,cX,hvX⟩:=hrep.form
  subst hvX
  have hd64:=pwq.deep
  refine Zl zero_api_Expr ?_
  intro g4 w3 n4
  have q4:=n4.ge
  have e4:=Nat.le_trans bel.size n4.ge
  have l4:=Nat.lt_of_lt_of_le k2.lt n4.ge
  replace bel:=bel.step n4.below
  replace k99:=k99.step n4.below
  replace k2:=k2.step n4.below
  replace rs:=rs.step n4.below
  have k4:=n4.blk
  refine Zo 4 k4 ?_
  intro w4 pw4
  replace bel:=bel.put k4 pw4 e4
  replace k99:=k99.put pw4 (by omega)
  replace k2:=k2.put pw4 (by omega)
  replace rs:=rs.put k4 pw4 e4
  replace k4:=pw4.blk
  refine Zk5 0 2 3 4 7 (Ztq ?_)
  refine Zm ?_
  refine Zv (Runs.nilCheck rfl rfl) ?_
  refine Zf 2 Tryz.underlying92 ?_
  refine Zv (Runs.loadB rfl rfl Tryz.underlying3 rfl k99 rfl) ?_
  refine Zv (Runs.subI rfl rfl rfl (by omega) (by omega)) ?_
  refine Zv (Runs.nilCheck rfl rfl) ?_
  refine Zf 2 Tryz.underlying92 ?_
  refine Zq k99 ?_
  intro w5 pw5
  replace bel:=bel.put k99 pw5 e99
  replace k2:=k2.put pw5 (by omega)
  replace rs:=rs.put k99 pw5 e99
  replace k4:=k4.put pw5 (by omega)
  replace k99:=pw5.blk
  refine Zk5 0 2 3 4 7 (Ztq ?_)
  refine Zm ?_
  refine Zv (Runs.loadW rfl rfl Tryz.underlying35 rfl k4 (m:=4) (by kernel_rfl) rfl) ?_
  refine Seq.slice (vs:=[_]) (s:=4) rfl rfl rfl Tryz.underlying22 (by kernel_rfl) (zero_api_Expr) (by omega) (by omega) ⟨rfl,trivial⟩ rfl rfl rfl ?_
  intro g33 w6 n33
  have q33:=n33.ge
  have e33:=Nat.le_trans bel.size n33.ge
  have l33:=Nat.lt_of_lt_of_le k4.lt n33.ge
  replace bel:=bel.step n33.below
  replace k99:=k99.step n33.below
  replace k2:=k2.step n33.below
  replace rs:=rs.step n33.below
  replace k4:=k4.step n33.below
  have k33:=n33.blk
  refine Zv (Runs.build rfl rfl (run_build_s1 19 _ _)) ?_
  refine Zo 4 k2 ?_
  intro w7 pw7
  replace bel:=bel.put k2 pw7 e2
  replace k99:=k99.put pw7 (by omega)
  replace rs:=rs.put k2 pw7 e2
  replace k4:=k4.put pw7 (by omega)
  replace k33:=k33.put pw7 (by omega)
  replace k2:=pw7.blk
  refine Zk5 0 2 3 4 7 (Zt (Cd.ret ?_))
  refine Post.endC rfl rfl k2 Tryz.underlying35 rfl (m:=4) (by kernel_rfl) rfl (.inl rfl) ?_
  have hcast:((d+1:Nat):Int)-1=(d:Int):=by omega
  rw[hcast] at k99
  rw[hq]
  have hadd:(⟨g33,0,none⟩:Addr).add=fun j=>⟨g33,j,none⟩:=by funext j;unfold Addr.add;split<;>simp_all
  refine⟨bel,_,rfl,⟨k99,pw.rd.below (bel.below (by omega) hle),pwq.p_le, .inl (by omega)⟩,(fun b=>S b∨b=g33),RepE.mk (args:=[x]) (vs:=[.agg #[.int .i64 x.op, .int .i64 x.n, .string (strOf x.name), .slice AX x.args.length cX]]) rfl (by simp) (by unfold I64;omega) (by unfold I64;omega) (by simp) (by simp) (fun i e v h1 h2=> ?_) (fun _=>⟨⟨g33,0,none⟩,rfl, .inr rfl,fun j u hu=> ?_⟩),fun b hb'=> ?_⟩
  ·match i,h1,h2 with
   |0,h1,h2=>
    simp at h1 h2
    subst h1 h2
    exact rs.rep.mono (fun _ h=> .inl h) (fun _ _=>rfl)
   |i+1,h1,_=>simp at h1
  ·rw[hadd,k33.cell j]
   have hu2:(flatC [Value.agg #[.int .i64 x.op, .int .i64 x.n, .string (strOf x.name), .slice AX x.args.length cX]]).toArray[j]? =some u:=by simpa using hu
   exact hu2
  ·rcases hb' with hb'|rfl
   ·obtain⟨h1,h2⟩:=hb b hb'
    have:=rs.hi_le
    exact⟨by omega,by omega⟩
   ·exact⟨by omega,k33.lt⟩
 have c1:isS K.ws p [33]=false:=c1
 rw[if_neg (by rw[c1];simp)] at hq
 refine Zsr ?_
 refine Zm ?_
 refine Zc (Ze Tryz.func118) (his [45] (by decide) _ (pw.to hle bel k99)) ?_
 rintro e w6 ⟨rfl,hb6⟩
 refine⟨_,rfl,?_⟩
 replace bel:=bel.step hb6
 replace k99:=k99.step hb6
 replace k2:=k2.step hb6
 refine Za ?_
 refine Zk5 0 2 3 7 10 (Zt ?_)
 refine Cd.cond rfl (fun c2=> ?_) (fun c2=> ?_)
 ·have c2:isS K.ws p [45]=true:=c2
  have hp1:=hp _ c2
  rw[if_pos c2] at hq
  have hen:=enter_any K hK p d _ (pw.to hle bel k99)
  refine Zr ?_
  refine Za ?_
  refine Zk5 0 2 3 7 10 (Post.block_normal (Ztq ?_))
  refine Zm ?_
  rcases Rs.ok_or (enterP_ne p d) with ⟨p2,o2,hr2⟩|⟨u2,p2,hr2⟩
  ·unfold aheadP at hq
   rw[hr2] at hen hq
   refine Seq.callB (Ze Tryz.func99) rfl hen ?_
   rintro e w6 ⟨hf,rfl,d6,hp6⟩
   refine⟨_,rfl,fun a ha=>⟨ha.defers,?_⟩⟩
   rw[hq]
   exact⟨bel.call hf,rfl,d6,hp6⟩
  have hp2:p2=p:=by
   unfold enterP at hr2
   split at hr2
   ·cases hr2
   ·injection hr2 with _ h;exact h.symm
  subst hp2
  unfold aheadP at hq
  rw[hr2] at hen hq
  replace hq:unaryP K.ws S0 E0 p2 d=(S0 (p2+1) (d+1)).bind fun x p=> .ok (.mk 20 0 [] [x]) p:=hq
  have hne1:S0 (p2+1) (d+1)≠ .out:=Rs.bind_ne (by rw[←hq];exact hne)
  refine Zc (Ze Tryz.func99) (hen) ?_
  rintro e we ⟨hfe,v6,rfl,pwe,-⟩
  refine⟨_,rfl,?_⟩
  replace bel:=bel.call hfe
  replace k2:=k2.fz hfe (by omega)
  replace k99:=pwe.blk
  have loc:=Fz.refl we.heap.size K.g we
  refine Zk5 0 2 3 7 10 (Ztq ?_)
  refine Zm ?_
  refine Zv (Runs.nilCheck rfl rfl) ?_
  refine Zf 1 Tryz.underlying92 ?_
  refine Zv (Runs.loadB rfl rfl Tryz.underlying3 rfl k99 rfl) ?_
  refine Za_ ?_
  refine Zv (Runs.nilCheck rfl rfl) ?_
  refine Zf 1 Tryz.underlying92 ?_
  refine Zq k99 ?_
  intro w2 pw2
  replace bel:=bel.put k99 pw2 e99
  replace k2:=k2.put pw2 (by omega)
  replace loc:=loc.put k99 pw2 e99
  replace k99:=pw2.blk
  refine Zk5 0 2 3 7 10 (Ztq ?_)
  refine Zm ?_
  have pwn:=pwe.next hle hp1 loc k99
  have hun:=hS (p2+1) (d+1) _ pwn hne1
  rcases Rs.ok_or hne1 with ⟨q,ov,hr⟩|⟨x,q,hr⟩
  ·rw[hr] at hun hq
   refine Seq.callB (Ze Tryz.func71) rfl hun ?_
   rintro e w6 ⟨hf,rfl,d6,hp6⟩
   refine⟨_,rfl,fun a ha=>⟨ha.defers,?_⟩⟩
   rw[hq]
   exact⟨bel.call hf,rfl,d6,hp6⟩
  rw[hr] at hun hq
  replace hq:unaryP K.ws S0 E0 p2 d= .ok (.mk 20 0 [] [x]) q:=hq
  have hk2:=k2.lt
  have hsb:=bel.size
  refine Zc (Ze Tryz.func71) (hun) ?_
  rintro e wq ⟨hf,v6,rfl,pwq,S,hrep,hb⟩
  refine⟨_,rfl,?_⟩
  replace bel:=bel.call hf
  replace k2:=k2.fz hf (by omega)
  replace k99:=pwq.blk
  have hones:=hrep.ones
  have hsf:=hf.size
  have rs:ReS _ wq.heap.size S x v6 wq:=⟨hrep,hb,Nat.le_refl _⟩
  clear loc
  obtain⟨AX,cX,hvX⟩:=hrep.form
  subst hvX
  have hd64:=pwq.deep
  refine Zl zero_api_Expr ?_
  intro g4 w3 n4
  have q4:=n4.ge
  have e4:=Nat.le_trans bel.size n4.ge
  have l4:=Nat.lt_of_lt_of_le k2.lt n4.ge
  replace bel:=bel.step n4.below
  replace k99:=k99.step n4.below
  replace k2:=k2.step n4.below
  replace rs:=rs.step n4.below
  have k4:=n4.blk
  refine Zo 4 k4 ?_
  intro w4 pw4
  replace bel:=bel.put k4 pw4 e4
  replace k99:=k99.put pw4 (by omega)
  replace k2:=k2.put pw4 (by omega)
  replace rs:=rs.put k4 pw4 e4
  replace k4:=pw4.blk
  refine Zk6 0 2 3 4 7 10 (Ztq ?_)
  refine Zm ?_
  refine Zv (Runs.nilCheck rfl rfl) ?_
  refine Zf 2 Tryz.underlying92 ?_
  refine Zv (Runs.loadB rfl rfl Tryz.underlying3 rfl k99 rfl) ?_
  refine Zv (Runs.subI rfl rfl rfl (by omega) (by omega)) ?_
  refine Zv (Runs.nilCheck rfl rfl) ?_
  refine Zf 2 Tryz.underlying92 ?_
  refine Zq k99 ?_
  intro w5 pw5
  replace bel:=bel.put k99 pw5 e99
  replace k2:=k2.put pw5 (by omega)
  replace rs:=rs.put k99 pw5 e99
  replace k4:=k4.put pw5 (by omega)
  replace k99:=pw5.blk
  refine Zk6 0 2 3 4 7 10 (Ztq ?_)
  refine Zm ?_
  refine Zv (Runs.loadW rfl rfl Tryz.underlying35 rfl k4 (m:=4) (by kernel_rfl) rfl) ?_
  refine Seq.slice (vs:=[_]) (s:=4) rfl rfl rfl Tryz.underlying22 (by kernel_rfl) (zero_api_Expr) (by omega) (by omega) ⟨rfl,trivial⟩ rfl rfl rfl ?_
  intro g33 w6 n33
  have q33:=n33.ge
  have e33:=Nat.le_trans bel.size n33.ge
  have l33:=Nat.lt_of_lt_of_le k4.lt n33.ge
  replace bel:=bel.step n33.below
  replace k99:=k99.step n33.below
  replace k2:=k2.step n33.below
  replace rs:=rs.step n33.below
  replace k4:=k4.step n33.below
  have k33:=n33.blk
  refine Zv (Runs.build rfl rfl (run_build_s1 20 _ _)) ?_
  refine Zo 4 k2 ?_
  intro w7 pw7
  replace bel:=bel.put k2 pw7 e2
  replace k99:=k99.put pw7 (by omega)
  replace rs:=rs.put k2 pw7 e2
  replace k4:=k4.put pw7 (by omega)
  replace k33:=k33.put pw7 (by omega)
  replace k2:=pw7.blk
  refine Zk6 0 2 3 4 7 10 (Zt (Cd.ret ?_))
  refine Post.endC rfl rfl k2 Tryz.underlying35 rfl (m:=4) (by kernel_rfl) rfl (.inl rfl) ?_
  have hcast:((d+1:Nat):Int)-1=(d:Int):=by omega
  rw[hcast] at k99
  rw[hq]
  have hadd:(⟨g33,0,none⟩:Addr).add=fun j=>⟨g33,j,none⟩:=by funext j;unfold Addr.add;split<;>simp_all
  refine⟨bel,_,rfl,⟨k99,pw.rd.below (bel.below (by omega) hle),pwq.p_le, .inl (by omega)⟩,(fun b=>S b∨b=g33),RepE.mk (args:=[x]) (vs:=[.agg #[.int .i64 x.op, .int .i64 x.n, .string (strOf x.name), .slice AX x.args.length cX]]) rfl (by simp) (by unfold I64;omega) (by unfold I64;omega) (by simp) (by simp) (fun i e v h1 h2=> ?_) (fun _=>⟨⟨g33,0,none⟩,rfl, .inr rfl,fun j u hu=> ?_⟩),fun b hb'=> ?_⟩
  ·match i,h1,h2 with
   |0,h1,h2=>
    simp at h1 h2
    subst h1 h2
    exact rs.rep.mono (fun _ h=> .inl h) (fun _ _=>rfl)
   |i+1,h1,_=>simp at h1
  ·rw[hadd,k33.cell j]
   have hu2:(flatC [Value.agg #[.int .i64 x.op, .int .i64 x.n, .string (strOf x.name), .slice AX x.args.length cX]]).toArray[j]? =some u:=by simpa using hu
   exact hu2
  ·rcases hb' with hb'|rfl
   ·obtain⟨h1,h2⟩:=hb b hb'
    have:=rs.hi_le
    exact⟨by omega,by omega⟩
   ·exact⟨by omega,k33.lt⟩
 have c2:isS K.ws p [45]=false:=c2
 rw[if_neg (by rw[c2];simp)] at hq
 rw[hq] at hne
 have hat:=atom_any K hK E0 hE p d _ (pw.to hle bel k99) hne
 refine Zsr ?_
 refine Zm ?_
 rcases Rs.ok_or hne with ⟨q,ov,hr⟩|⟨x,q,hr⟩
 ·rw[hr] at hat
  refine Seq.callB (Ze Tryz.func119) rfl hat ?_
  rintro e w8 ⟨hf,rfl,d6,hp6⟩
  refine⟨_,rfl,fun a ha=>⟨ha.defers,?_⟩⟩
  rw[hq,hr]
  exact⟨bel.call hf,rfl,d6,hp6⟩
 rw[hr] at hat
 have hk2:=k2.lt
 have hsb:=bel.size
 refine Zc (Ze Tryz.func119) (hat) ?_
 rintro e wq ⟨hf,v6,rfl,pwq,S,hrep,hb⟩
 refine⟨_,rfl,?_⟩
 replace bel:=bel.call hf
 replace k2:=k2.fz hf (by omega)
 obtain⟨AX,cX,hvX⟩:=hrep.form
 subst hvX
 have hlt2:=k2.lt
 refine Zo 4 k2 ?_
 intro w2 pw2
 replace bel:=bel.put k2 pw2 e2
 replace k2:=pw2.blk
 refine Zk5 0 2 3 7 10 (Zt (Cd.ret (Post.block_ret (Post.then_ret ?_))))
 refine Post.endC rfl rfl k2 Tryz.underlying35 rfl (m:=4) (by kernel_rfl) rfl (.inl rfl) ?_
 rw[hq,hr]
 refine⟨bel,_,rfl,⟨pwq.blk.put pw2 (by omega),pwq.rd.below (pw2.below (by omega) hlt2),pwq.p_le,pwq.d_le⟩,S,hrep.mono (fun _ h=>h) (fun a ha=>World.cell?_of_block (pw2.grown.block _ (hb _ ha).2 (fun e=>by injection e with e;have:=(hb _ ha).1;omega))),fun b hb'=> ?_⟩
 obtain⟨h1,h2⟩:=hb b hb'
 have:=pw2.size
 exact⟨by omega,by omega⟩
end Go.Proofs.YtaamkfajnpobfaaGreat
namespace Go.Proofs.YtaamkfajnpobfaaGreat
open Go.RowKit
def HasL (K:Ctx)(n lvl:Nat):Prop:=∀p d W,PW K W p d false→(fuelP K.ws n).E lvl p d≠ .out→Calls Tryz.prog 31 #[.pointer (some ⟨K.g,0,none⟩), .int .i64 (lvl:Int)] W (PR K W d ((fuelP K.ws n).E lvl p d) (okE W))
theorem expr_top (K:Ctx)(hK:K.Ok)(n:Nat)(hS:HasS K (fuelP K.ws (n+1)).S):HasL K (n+1) 5:=by
 intro p d w pw hne
 have he:(fuelP K.ws (n+1)).E 5 p d=(fuelP K.ws (n+1)).S p d:=rfl
 rw[he] at hne⊢
 have bel:=Fz.refl w.heap.size K.g w
 have k99:=pw.blk
 have e99:K.g=K.g:=rfl
 have hlt:=pw.blk.lt
 have hle:=hK.le
 refine Zs 66 Tryz.func31 ?_
 refine Zsr ?_
 refine Zl zero_api_Expr ?_
 intro g4 w1 n4
 have e4:=Nat.le_trans bel.size n4.ge
 have l4:=Nat.lt_of_lt_of_le k99.lt n4.ge
 replace bel:=bel.step n4.below
 replace k99:=k99.step n4.below
 have k4:=n4.blk
 refine Zk3 0 1 4 (Ztq ?_)
 refine Zc (Ze Tryz.func70) (levels_any _) ?_
 rintro e w5 ⟨gl,rfl,hb5,-⟩
 refine⟨_,rfl,?_⟩
 replace bel:=bel.step hb5
 replace k99:=k99.step hb5
 replace k4:=k4.step hb5
 refine Za ?_
 refine Zk4 0 1 4 5 (Zts (Zsr ?_))
 refine Zm ?_
 refine Zm ?_
 refine Zv (Runs.len rfl rfl Tryz.underlying116) ?_
 refine Zv (Runs.eqlI rfl rfl rfl) ?_
 refine Zk5 0 1 4 5 13 (Zt ?_)
 refine Cd.condT rfl (by decide) ?_
 have hun:=hS p d _ (pw.to hle bel k99) hne
 refine Zsr ?_
 refine Zm ?_
 rcases Rs.ok_or hne with ⟨q,ov,hr⟩|⟨x,q,hr⟩
 ·rw[hr] at hun
  refine Seq.callB (Ze Tryz.func71) rfl hun ?_
  rintro e w8 ⟨hf,rfl,d6,hp6⟩
  refine⟨_,rfl,fun a ha=>⟨ha.defers,?_⟩⟩
  rw[hr]
  exact⟨bel.call hf,rfl,d6,hp6⟩
 rw[hr] at hun⊢
 have hk4:=k4.lt
 have hsb:=bel.size
 refine Zc (Ze Tryz.func71) (hun) ?_
 rintro e wq ⟨hf,v6,rfl,pwq,S,hrep,hb⟩
 refine⟨_,rfl,?_⟩
 replace bel:=bel.call hf
 replace k4:=k4.fz hf (by omega)
 obtain⟨AX,cX,hvX⟩:=hrep.form
 subst hvX
 have hlt2:=k4.lt
 refine Zo 4 k4 ?_
 intro w2 pw2
 replace bel:=bel.put k4 pw2 e4
 replace k4:=pw2.blk
 refine Zk5 0 1 4 5 13 (Zt (Cd.ret (Post.then_ret ?_)))
 refine Post.endC rfl rfl k4 Tryz.underlying35 rfl (m:=4) (by kernel_rfl) rfl (.inl rfl) ?_
 refine⟨bel,_,rfl,⟨pwq.blk.put pw2 (by omega),pwq.rd.below (pw2.below (by omega) hlt2),pwq.p_le,pwq.d_le⟩,S,hrep.mono (fun _ h=>h) (fun a ha=>World.cell?_of_block (pw2.grown.block _ (hb _ ha).2 (fun e=>by injection e with e;have:=(hb _ ha).1;omega))),fun b hb'=> ?_⟩
 obtain⟨h1,h2⟩:=hb b hb'
 have:=pw2.size
 exact⟨by omega,by omega⟩
theorem opAt_none {ws:List Wd}{lvl p:Nat}(h:(wAt ws p).kind≠0∨idxZ (signsAt lvl) (wAt ws p).text<0):opAt ws lvl p=none:=by
 unfold opAt
 split
 ·rfl
 ·rename_i hk
  rcases h with h|h
  ·exact absurd h hk
  ·unfold idxZ at h
   split at h
   ·omega
   ·rename_i hm
    rw[if_neg hm]
theorem opAt_some {ws:List Wd}{lvl p:Nat}(h1:(wAt ws p).kind=0)(h2:¬idxZ (signsAt lvl) (wAt ws p).text<0):∃(i:Nat) (op:Int),idxZ (signsAt lvl) (wAt ws p).text=(i:Int)∧i<(opsAt lvl).length∧(opsAt lvl)[i]? =some op∧opAt ws lvl p=some op∧I64 op:=by
 have hlen:∀lvl,(signsAt lvl).length=(opsAt lvl).length:=fun lvl=>by
  unfold signsAt opsAt
  split<;>rfl
 unfold idxZ at h2⊢
 split at h2
 ·rename_i hm
  rw[if_pos hm]
  have hi:=List.idxOf_lt_length_of_mem hm
  rw[hlen] at hi
  obtain⟨op,hop⟩:∃op,(opsAt lvl)[(signsAt lvl).idxOf (wAt ws p).text]? =some op:=⟨_,List.getElem?_eq_getElem hi⟩
  refine⟨_,op,rfl,hi,hop,?_,?_⟩
  ·unfold opAt
   rw[if_neg (by simp[h1]),if_pos hm,hop]
  ·have hm2:=List.mem_of_getElem? hop
   have:∀lvl,∀x∈opsAt lvl,I64 x:=fun lvl=>by
    unfold opsAt
    split<;>simp[I64]
   exact this lvl op hm2
 ·omega
def MadeE (lo hi ex:Nat)(x:Ex)(v:Value)(W:World):Prop:=hi≤W.heap.size∧∃S:Nat→Prop,RepE W S x v∧∀b,S b→lo<b∧b<hi∧b≠ex
theorem MadeE.keep {lo hi ex:Nat}{x:Ex}{v:Value}{W W':World}(m:MadeE lo hi ex x v W)(hs:W.heap.size≤W'.heap.size)(hb:∀b,lo<b→b<hi→b≠ex→W'.heap[b]? =W.heap[b]?):MadeE lo hi ex x v W':=by
 obtain⟨h0,S,h1,h2⟩:=m
 exact⟨Nat.le_trans h0 hs,S,h1.mono (fun _ h=>h) (fun a ha=>World.cell?_of_block (hb _ (h2 _ ha).1 (h2 _ ha).2.1 (h2 _ ha).2.2)),h2⟩
theorem MadeE.step {lo hi ex:Nat}{x:Ex}{v:Value}{W W':World}(m:MadeE lo hi ex x v W)(h:Below W.heap.size W W'):MadeE lo hi ex x v W':=m.keep h.size fun b _ h2 _=>h.block b (Nat.lt_of_lt_of_le h2 m.1)
theorem MadeE.fz {lo hi ex g:Nat}{x:Ex}{v:Value}{W W':World}(m:MadeE lo hi ex x v W)(h:Fz W.heap.size g W W')(hg:g≤lo):MadeE lo hi ex x v W':=m.keep h.size fun b h1 h2 _=>h.block b (Nat.lt_of_lt_of_le h2 m.1) (by omega)
theorem MadeE.put {lo hi ex g:Nat}{x:Ex}{v:Value}{T:TypeId}{cur cs:Array Value}{W W':World}{E:Prop}(m:MadeE lo hi ex x v W)(_k:Blk W g T cur)(p:Put W W' g T cs)(_e:E)(hg:g≤lo∨g=ex∨hi≤g:=by omega):MadeE lo hi ex x v W':=
 m.keep (Nat.le_of_eq p.size.symm) fun b h1 h2 h3=>p.grown.block b (Nat.lt_of_lt_of_le h2 m.1) (fun e=>by injection e with e;omega)
theorem MadeE.but {lo hi ex g:Nat}{x:Ex}{v:Value}{W:World}(m:MadeE lo hi ex x v W)(hg:hi≤g):MadeE lo hi g x v W:=by
 obtain⟨h0,S,h1,h2⟩:=m
 exact⟨h0,S,h1,fun b h=>⟨(h2 b h).1,(h2 b h).2.1,fun e=>by have:=(h2 b h).2.1;omega⟩⟩
theorem MadeE.up {lo hi ex:Nat}{x:Ex}{v:Value}{W:World}(m:MadeE lo hi ex x v W):MadeE lo W.heap.size ex x v W:=by
 obtain⟨h0,S,h1,h2⟩:=m
 exact⟨Nat.le_refl _,S,h1,fun b h=>⟨(h2 b h).1,Nat.lt_of_lt_of_le (h2 b h).2.1 h0,(h2 b h).2.2⟩⟩
abbrev exC (x:Ex)(A:Option Addr)(c:Nat):Array Value:= #[.int .i64 x.op, .int .i64 x.n, .string (strOf x.name), .slice A x.args.length c]
theorem run_build_s2 (a:Int)(g:Nat)(w:World):(Instr.build 35 #[(0, .int .i64 a),(3, .slice (some ⟨g,0,none⟩) 2 2)]).run Tryz.prog w= .ok (.agg #[.int .i64 a, .int .i64 0, .string (strOf []), .slice (some ⟨g,0,none⟩) 2 2]) w:=run_build_s a g w
theorem expr_any (K:Ctx)(hK:K.Ok)(n lvl:Nat)(hlt5:lvl<5)(hup:HasL K (n+1) (lvl+1))(hall:∀m,m≤n→HasL K m (lvl+1)):HasL K (n+1) lvl:=by
 intro p d w pw hne
 have he:=fuelP_E K.ws n lvl p d hlt5
 obtain⟨R,hR⟩:∃R,R=(fuelP K.ws (n+1)).E lvl p d:=⟨_,rfl⟩
 rw[←hR] at hne⊢
 rw[←hR] at he
 have bel:=Fz.refl w.heap.size K.g w
 have k99:=pw.blk
 have e99:K.g=K.g:=rfl
 have hlt:=pw.blk.lt
 have hle:=hK.le
 have hlen:=hK.len
 have hne1:(fuelP K.ws (n+1)).E (lvl+1) p d≠ .out:=Rs.bind_ne (by rw[←he];exact hne)
 refine Zs 66 Tryz.func31 ?_
 refine Zsr ?_
 refine Zl zero_api_Expr ?_
 intro g4 w1 n4
 have e4:=Nat.le_trans bel.size n4.ge
 have l4:=Nat.lt_of_lt_of_le k99.lt n4.ge
 replace bel:=bel.step n4.below
 replace k99:=k99.step n4.below
 have k4:=n4.blk
 refine Zk3 0 1 4 (Ztq ?_)
 refine Zc (Ze Tryz.func70) (levels_any _) ?_
 rintro e wlv ⟨gl,rfl,hb5,hlv⟩
 refine⟨_,rfl,?_⟩
 obtain⟨ga,gb,cc,dd,csl,lv⟩:=hlv lvl hlt5
 replace bel:=bel.step hb5
 replace k99:=k99.step hb5
 replace k4:=k4.step hb5
 have kp:=Kp.refl wlv
 refine Za ?_
 refine Zk4 0 1 4 5 (Zts (Zsr ?_))
 refine Zm ?_
 refine Zm ?_
 refine Zv (Runs.len rfl rfl Tryz.underlying116) ?_
 refine Zv (Runs.eqlI rfl rfl rfl) ?_
 refine Zk5 0 1 4 5 13 (Zt ?_)
 refine Cd.condF rfl (decide_eq_false (by omega)) ?_
 refine Cd.skip (Ztq ?_)
 refine Zm ?_
 refine Zm ?_
 refine Za_ ?_
 have hcl:=hup p d _ (pw.to hle bel k99) hne1
 have hcast:((lvl+1:Nat):Int)=(lvl:Int)+1:=by omega
 rw[hcast] at hcl
 rcases Rs.ok_or hne1 with ⟨q,ov,hr⟩|⟨x,q,hr⟩
 ·rw[hr] at hcl he
  refine Seq.callB (Ze Tryz.func31) rfl hcl ?_
  rintro e w8 ⟨hf,rfl,d6,hp6⟩
  refine⟨_,rfl,fun a ha=>⟨ha.defers,?_⟩⟩
  rw[he]
  exact⟨bel.call hf,rfl,d6,hp6⟩
 rw[hr] at hcl he
 replace he:R=(fuelP K.ws (n+1)).L lvl x q d:=he
 have hk4:=k4.lt
 have hsb:=bel.size
 refine Zc (Ze Tryz.func31) (hcl) ?_
 rintro e wq ⟨hf,v6,rfl,pwq,S,hrep,hb⟩
 refine⟨_,rfl,?_⟩
 replace bel:=bel.call hf
 replace k4:=k4.fz hf (by omega)
 replace kp:=kp.fz k99 hf
 replace k99:=pwq.blk
 obtain⟨AX,cX,hvX⟩:=hrep.form
 subst hvX
 have rs:MadeE g4 wq.heap.size 0 x (.agg (exC x AX cX)) wq:=⟨Nat.le_refl _,S,hrep,fun b h=>⟨by have:=(hb b h).1;omega,(hb b h).2,by have:=(hb b h).1;omega⟩⟩
 refine Zl zero_api_Expr ?_
 intro g6 w2 n6
 have q6:=n6.ge
 have e6:=Nat.le_trans bel.size n6.ge
 have l6:=Nat.lt_of_lt_of_le k4.lt n6.ge
 replace bel:=bel.step n6.below
 replace k99:=k99.step n6.below
 replace k4:=k4.step n6.below
 replace kp:=kp.step n6.below
 replace rs:=rs.step n6.below
 have k6:=n6.blk
 refine Zo 4 k6 ?_
 intro w3 pw3
 replace bel:=bel.put k6 pw3 e6
 replace k99:=k99.put pw3 (by omega)
 replace k4:=k4.put pw3 (by omega)
 replace kp:=kp.put k6 pw3 e6
 replace rs:=rs.put k6 pw3 e6
 replace k6:=pw3.blk
 refine Zk6 0 1 4 5 6 13 (Zt (Cd.block ?_))
 have h46:g4<g6:=by have:=hf.size;omega
 have h96:K.g<g6:=by omega
 refine Cd.loop (σ:=Nat × Ex × (Option Addr × Nat) × Nat) (fun s=>[(0, .pointer (some ⟨K.g,0,none⟩)),(1, .int .i64 (lvl:Int)),(4, .pointer (some ⟨g4,0,none⟩)),(5, .slice (some ⟨gl,0,none⟩) 5 5),(6, .pointer (some ⟨g6,0,none⟩))])
  (fun s wr=>PW K wr s.2.2.2 d false∧Fz w.heap.size K.g w wr∧Blk wr g4 35 #[.int .i64 0, .int .i64 0, .string {data:= #[]}, .slice none 0 0]∧Blk wr g6 35 (exC s.2.1 s.2.2.1.1 s.2.2.1.2)∧Kp wlv wr∧MadeE g4 wr.heap.size g6 s.2.1 (.agg (exC s.2.1 s.2.2.1.1 s.2.2.1.2)) wr∧s.1≤n+1∧R=(fuelP K.ws s.1).L lvl s.2.1 s.2.2.2 d)
  (fun s=>s.1) (n+1,x,(AX,cX),q) ⟨⟨k99,pw.rd.below (bel.below (by omega) hle),pwq.p_le,pwq.d_le⟩,bel,k4,k6,kp,(rs.but q6).up,Nat.le_refl _,he⟩ ⟨rfl,rfl,rfl,rfl,rfl,trivial⟩ ?_
 clear bel k4 k6 kp rs k99 he hne1 hr hcl
 rintro⟨m,left,⟨AL,cL⟩,pl⟩ wr ⟨pw1,bel,k4,k6,kp,rs,hm,he⟩
 dsimp only at pw1 k6 rs hm he⊢
 have k99:=pw1.blk
 have h4r:=k4.lt
 have hkps:=kp.size
 obtain⟨m,rfl⟩:∃m',m=m'+1:=by
  cases m with
  |zero=>exact absurd he (by intro h;exact hne (by rw[h];rfl))
  |succ m=>exact⟨m,rfl⟩
 have hstep:R=loopP K.ws (fuelP K.ws m) lvl left pl d:=he
 clear he
 obtain⟨b1,b2,b3⟩:=K.at_kind pl
 obtain⟨a1,a2,a3,a4,a5⟩:=hK.at_ pl
 have hsig:∀t∈signsAt lvl,∀x∈t,x<256:=by
  have:∀lvl,∀t∈signsAt lvl,∀x∈t,x<256:=fun lvl=>by
   unfold signsAt
   split<;>decide
  exact this lvl
 have hw:=word_any K hK pl d false wr pw1
 unfold wdV at hw
 refine Cd.block (Zsr ?_)
 refine Zm ?_
 refine Zc (Ze Tryz.func49) (hw) ?_
 rintro e w8 ⟨rfl,hb8⟩
 refine⟨_,rfl,?_⟩
 have hs8:=hb8.size
 replace bel:=bel.step hb8
 replace k99:=k99.step hb8
 replace k4:=k4.step hb8
 replace kp:=kp.step hb8
 replace rs:=rs.step hb8
 replace k6:=k6.step hb8
 refine Zl zero_lex_Word ?_
 intro g7 w4 n7
 have q7:=n7.ge
 have e7:=Nat.le_trans bel.size n7.ge
 have l7:=Nat.lt_of_lt_of_le k6.lt n7.ge
 replace bel:=bel.step n7.below
 replace k99:=k99.step n7.below
 replace k4:=k4.step n7.below
 replace kp:=kp.step n7.below
 replace rs:=rs.step n7.below
 replace k6:=k6.step n7.below
 have k7:=n7.blk
 refine Zo 4 k7 ?_
 intro w5 pw5
 replace bel:=bel.put k7 pw5 e7
 replace k99:=k99.put pw5 (by omega)
 replace k4:=k4.put pw5 (by omega)
 replace kp:=kp.put k7 pw5 e7
 replace rs:=rs.put k7 pw5 e7
 replace k6:=k6.put pw5 (by omega)
 replace k7:=pw5.blk
 refine Zk6 0 1 4 5 6 7 (Zts ?_)
 have haddL:Value.pointer (some ((⟨gl,0,none⟩:Addr).add (lvl*3)))= .pointer (some ⟨gl,lvl*3,none⟩):=by
  have:(⟨gl,0,none⟩:Addr).add (lvl*3)=⟨gl,lvl*3,none⟩:=by unfold Addr.add;split<;>simp_all
  rw[this]
 have hsl:(signsAt lvl).length≤1000:=by
  have:∀lvl,(signsAt lvl).length≤1000:=fun lvl=>by
   unfold signsAt
   split<;>simp
  exact this lvl
 have hsv:(strV (signsAt lvl)).toArray.size=(signsAt lvl).length*1:=by simp[strV]
 refine Cd.draw 8 (by kernel_rfl) [] (.inl rfl) rfl Grow Grow.refl (fun _ _ _=>Grow.trans) ?_
 intro w6 hw6 zw6
 replace bel:=bel.step hw6
 replace k99:=k99.step hw6
 replace k4:=k4.step hw6
 replace kp:=kp.step hw6
 replace rs:=rs.step hw6
 replace k6:=k6.step hw6
 replace k7:=k7.step hw6
 have zbel:=bel.size
 have zlt:=k7.lt
 have kl:Blk _ gl 121 csl:=kp.blk lv.lev
 have ksg:=kp.blk lv.sg
 have kop:=kp.blk lv.op
 refine Zdm ?_
 refine Zdm ?_
 refine Zd (fun w hG=>(Runs.indexN rfl rfl rfl Tryz.underlying116 (s:=3) (by kernel_rfl) (j:=lvl) rfl (by omega)).cast haddL) ?_
 refine Zd (fun w hG=>Runs.fieldA 0 rfl rfl Tryz.underlying121 rfl (by kernel_rfl)) ?_
 refine Zd (fun w hG=>Runs.loadB (g:=gl) (i:=lvl*3) rfl rfl Tryz.underlying114 rfl (kl.step hG) lv.s0) ?_
 refine Zd (fun w hG=>Runs.fieldB 1 rfl rfl Tryz.underlying95 rfl (by kernel_rfl)) ?_
 refine Zd (fun w hG=>Runs.loadB rfl rfl Tryz.underlying9 rfl (k7.step hG) rfl) ?_
 refine Dr.callV rfl (fun w=>Ze Tryz.func72) rfl (fun w hG=>indexS_any (signsAt lvl) (K.at_ pl).text (some ⟨ga,0,none⟩) cc w.heap.size w (Reads.blk (ksg.step hG) _ hsv) (Nat.le_refl _) hsl hsig a3) ?_
 refine Dr.nil ?_
 refine FinX.done (F':=[(0,_),(1,_),(4,_),(5,_),(6,_),(7,_),(29,_)]) rfl ⟨rfl,rfl,rfl,rfl,rfl,rfl,rfl,trivial⟩ ?_
 intro w7 hw7 fw7
 replace bel:=bel.step hw7
 replace k99:=k99.step hw7
 replace k4:=k4.step hw7
 replace kp:=kp.step hw7
 replace rs:=rs.step hw7
 replace k6:=k6.step hw7
 replace k7:=k7.step hw7
 clear kl ksg kop
 refine Za ?_
 refine Zk7 0 1 4 5 6 7 8 (Zts (Zsr ?_))
 refine Zf 0 Tryz.underlying95 ?_
 refine Zv (Runs.loadB rfl rfl Tryz.underlying3 rfl k7 rfl) ?_
 refine Zv (Runs.neqI rfl rfl rfl) ?_
 refine Zm ?_
 refine SeqC.start ?_
 refine Zco (fun hcx=>Runs.move rfl rfl) ?_
 refine SeqC.next rfl rfl rfl rfl rfl rfl rfl (fun hcx=>Runs.lss rfl rfl rfl) ?_
 refine SeqC.or rfl rfl rfl rfl rfl rfl rfl ?_
 refine Zk8 0 1 4 5 6 7 8 36 (Zt ?_)
 have pwc:PW K _ pl d false:=⟨k99,pw.rd.below (bel.below (by omega) hle),pw1.p_le,pw1.d_le⟩
 refine Cd.cond rfl (fun hc=> ?_) (fun hc=> ?_)
 ·have hop:opAt K.ws lvl pl=none:=opAt_none (by
   rw[←b1,←b2]
   simpa using hc)
  have hres:R= .ok left pl:=by rw[hstep];unfold loopP;rw[hop]
  have hlt4:=k4.lt
  have hlt6:=k6.lt
  refine Zsr ?_
  refine Zv (Runs.loadW rfl rfl Tryz.underlying35 rfl k6 (m:=4) (by kernel_rfl) rfl) ?_
  refine Zo 4 k4 ?_
  intro w8 pw8
  replace bel:=bel.put k4 pw8 e4
  replace k99:=k99.put pw8 (by omega)
  replace kp:=kp.put k4 pw8 e4
  replace rs:=rs.put k4 pw8 e4
  replace k6:=k6.put pw8 (by omega)
  replace k7:=k7.put pw8 (by omega)
  replace k4:=pw8.blk
  refine Zk8 0 1 4 5 6 7 8 36 (Zt (Cd.ret (Post.then_ret (Post.block_ret (Post.round_ret (Post.block_ret ?_))))))
  refine Post.endC rfl rfl k4 Tryz.underlying35 rfl (m:=4) (by kernel_rfl) rfl (.inl rfl) ?_
  rw[hres]
  have kk:=k99
  obtain⟨hhi,S',hrep',hb'⟩:=rs
  exact⟨bel,_,rfl,⟨k99,pw.rd.below (bel.below (by omega) hle),pw1.p_le,pw1.d_le⟩,S',hrep',fun b h=>⟨by have:=(hb' b h).1;omega,by have:=(hb' b h).2.1;omega⟩⟩
 obtain⟨hk0,hix⟩:(wAt K.ws pl).kind=0∧¬idxZ (signsAt lvl) (wAt K.ws pl).text<0:=by
  rw[←b1,←b2]
  simpa using hc
 obtain⟨ix,op,hix1,hix2,hopi,hop,hop64⟩:=opAt_some hk0 hix
 rw[←b2] at hix1
 have hstep2:R=((fuelP K.ws m).E (lvl+1) (pl+1) d).bind fun r p=>if lvl=2 then .ok (mk2 op left r) p else(fuelP K.ws m).L lvl (mk2 op left r) p d:=by rw[hstep];unfold loopP;rw[hop]
 have hp1:pl+1≤K.ws.length:=by
  rcases Nat.lt_or_ge pl K.ws.length with h|h
  ·exact h
  ·have h1:wAt K.ws pl=⟨-1,[],0,0⟩:=by unfold wAt;rw[List.getD_eq_getElem?_getD,List.getElem?_eq_none h];rfl
   rw[h1] at hk0
   exact absurd hk0 (by decide)
 have hne2:(fuelP K.ws m).E (lvl+1) (pl+1) d≠ .out:=Rs.bind_ne (by rw[←hstep2];exact hne)
 rw[hix1]
 refine Cd.skip (Ztq ?_)
 refine Zm ?_
 refine Zv (Runs.nilCheck rfl rfl) ?_
 refine Zf 1 Tryz.underlying92 ?_
 refine Zv (Runs.loadB rfl rfl Tryz.underlying3 rfl k99 rfl) ?_
 refine Za_ ?_
 refine Zv (Runs.nilCheck rfl rfl) ?_
 refine Zf 1 Tryz.underlying92 ?_
 refine Zq k99 ?_
 intro w8 pw8
 replace bel:=bel.put k99 pw8 e99
 replace k4:=k4.put pw8 (by omega)
 replace kp:=kp.put k99 pw8 e99
 replace rs:=rs.put k99 pw8 e99
 replace k6:=k6.put pw8 (by omega)
 replace k7:=k7.put pw8 (by omega)
 replace k99:=pw8.blk
 refine Zk8 0 1 4 5 6 7 8 36 (Zts ?_)
 have kl:Blk _ gl 121 csl:=kp.blk lv.lev
 have kop:=kp.blk lv.op
 have haddI:Value.pointer (some ((⟨gb,0,none⟩:Addr).add ix))= .pointer (some ⟨gb,ix,none⟩):=by
  have:(⟨gb,0,none⟩:Addr).add ix=⟨gb,ix,none⟩:=by unfold Addr.add;split<;>simp_all
  rw[this]
 have hopc:(DI (opsAt lvl)).toArray[ix]? =some (.int .i64 op):=by
  rw[List.getElem?_toArray,get_DI,hopi];rfl
 have pwn:PW K w8 (pl+1) d false:=⟨by rw[Int.natCast_add];exact k99,pw.rd.below (bel.below (by omega) hle),hp1,pw1.d_le⟩
 have hw8g:K.g<w8.heap.size:=k99.lt
 have hxl:=hall m (by omega)
 refine Cd.drawG (σT:=Value × (Nat→Prop) × Nat) 15 (by kernel_rfl) rfl rfl (fun σ=>[.slice (some ⟨gl,0,none⟩) 5 5, .int .i64 (lvl:Int), .pointer (some ⟨gl,lvl*3,none⟩), .pointer (some ⟨gl,lvl*3+1,none⟩), .slice (some ⟨gb,0,none⟩) (opsAt lvl).length dd, .int .i64 (ix:Int), .pointer (some ⟨gb,ix,none⟩), .int .i64 op, .agg (exC left AL cL), .pointer (some ⟨K.g,0,none⟩), .int .i64 (lvl:Int), .int .i64 ((lvl:Int)+1),σ.1, .slice (some ⟨σ.2.2,0,none⟩) 2 2, .agg #[.int .i64 op, .int .i64 0, .string (strOf []), .slice (some ⟨σ.2.2,0,none⟩) 2 2]]) (fun σ S W=>XA RepE K w8 (pl+1) d ((fuelP K.ws m).E (lvl+1) (pl+1) d) (S 12) (S 13) σ.2.1 σ.1 σ.2.2 35 (flatC [.agg (exC left AL cL),σ.1]).toArray W) ((undef,fun _=>False,0)) ?_ ?_ ?_
 ·intro w0 hb0 hs0
  exact⟨Fz.of hb0,fun _=>pwn.step hle hb0,fun h=>(by cases h),fun h=>(by cases h)⟩
 ·intro k o ho
  match k,ho with
  |0,ho=>
   injection ho with ho
   subst ho
   intro σ S w hS hpre hdc hX
   refine Seq.val (Runs.move rfl rfl) rfl rfl rfl (Seq.nil ?_)
   exact Post.afterG rfl rfl rfl hpre rfl (fun _ _=>rfl) hX
  |1,ho=>
   injection ho with ho
   subst ho
   intro σ S w hS hpre hdc hX
   refine Seq.val (Runs.move rfl rfl) rfl rfl rfl (Seq.nil ?_)
   exact Post.afterG rfl rfl rfl hpre rfl (fun _ _=>rfl) hX
  |2,ho=>
   injection ho with ho
   subst ho
   intro σ S w hS hpre hdc hX
   refine Seq.val ((Runs.indexN rfl rfl rfl Tryz.underlying116 (s:=3) (by kernel_rfl) (j:=lvl) rfl (by omega)).cast haddL) rfl rfl rfl (Seq.nil ?_)
   exact Post.afterG rfl rfl rfl hpre rfl (fun _ _=>rfl) hX
  |3,ho=>
   injection ho with ho
   subst ho
   intro σ S w hS hpre hdc hX
   refine Seq.val (Runs.fieldA 1 rfl rfl Tryz.underlying121 rfl (by kernel_rfl)) rfl rfl rfl (Seq.nil ?_)
   exact Post.afterG rfl rfl rfl hpre rfl (fun _ _=>rfl) hX
  |4,ho=>
   injection ho with ho
   subst ho
   intro σ S w hS hpre hdc hX
   refine Seq.val (Runs.loadB (g:=gl) (i:=lvl*3+1) rfl rfl Tryz.underlying43 rfl (kl.fzN k99 hX.fz (Nat.le_refl _)) lv.s1) rfl rfl rfl (Seq.nil ?_)
   exact Post.afterG rfl rfl rfl hpre rfl (fun _ _=>rfl) hX
  |5,ho=>
   injection ho with ho
   subst ho
   intro σ S w hS hpre hdc hX
   refine Seq.val (Runs.move rfl rfl) rfl rfl rfl (Seq.nil ?_)
   exact Post.afterG rfl rfl rfl hpre rfl (fun _ _=>rfl) hX
  |6,ho=>
   injection ho with ho
   subst ho
   intro σ S w hS hpre hdc hX
   refine Seq.val ((Runs.index1 rfl rfl rfl Tryz.underlying43 (by kernel_rfl) (j:=ix) rfl hix2).cast haddI) rfl rfl rfl (Seq.nil ?_)
   exact Post.afterG rfl rfl rfl hpre rfl (fun _ _=>rfl) hX
  |7,ho=>
   injection ho with ho
   subst ho
   intro σ S w hS hpre hdc hX
   refine Seq.val (Runs.loadB (g:=gb) (i:=ix) rfl rfl Tryz.underlying3 rfl (kop.fzN k99 hX.fz (Nat.le_refl _)) hopc) rfl rfl rfl (Seq.nil ?_)
   exact Post.afterG rfl rfl rfl hpre rfl (fun _ _=>rfl) hX
  |8,ho=>
   injection ho with ho
   subst ho
   intro σ S w hS hpre hdc hX
   refine Seq.val (Runs.loadW rfl rfl Tryz.underlying35 rfl (k6.fz hX.fz (by omega)) (m:=4) (by kernel_rfl) rfl) rfl rfl rfl (Seq.nil ?_)
   exact Post.afterG rfl rfl rfl hpre rfl (fun _ _=>rfl) hX
  |9,ho=>
   injection ho with ho
   subst ho
   intro σ S w hS hpre hdc hX
   refine Seq.val (Runs.move rfl rfl) rfl rfl rfl (Seq.nil ?_)
   exact Post.afterG rfl rfl rfl hpre rfl (fun _ _=>rfl) hX
  |10,ho=>
   injection ho with ho
   subst ho
   intro σ S w hS hpre hdc hX
   refine Seq.val (Runs.move rfl rfl) rfl rfl rfl (Seq.nil ?_)
   exact Post.afterG rfl rfl rfl hpre rfl (fun _ _=>rfl) hX
  |11,ho=>
   injection ho with ho
   subst ho
   intro σ S w hS hpre hdc hX
   refine Seq.val (Runs.addI rfl rfl rfl (by omega) (by omega)) rfl rfl rfl (Seq.nil ?_)
   exact Post.afterG rfl rfl rfl hpre rfl (fun _ _=>rfl) hX
  |12,ho=>
   injection ho with ho
   subst ho
   intro σ S w hS hpre hdc hX
   have h13:S 13=false:=by
    cases h:S 13 with
    |false=>rfl
    |true=>have:=hdc 13 _ rfl h 12 (memB_spec rfl);rw[hS] at this;cases this
   have hcl:=hxl (pl+1) d w (hX.pre hS) hne2
   rw[hcast] at hcl
   rcases Rs.ok_or hne2 with ⟨q2,ov,hr⟩|⟨y,q2,hr⟩
   ·rw[hr] at hcl
    refine Seq.callB (Ze Tryz.func31) rfl hcl ?_
    rintro e w6 ⟨hf,rfl,d6,hp6⟩
    refine⟨_,rfl,fun a ha=>⟨ha.defers,?_⟩⟩
    rw[hstep2,hr]
    exact⟨bel.call (hX.fz.call hf),rfl,d6,hp6⟩
   ·rw[hr] at hcl
    refine Zc (Ze Tryz.func31) hcl ?_
    rintro e w6 ⟨hf,v6,rfl,hp6,S6,hr6,hb6⟩
    refine⟨_,rfl,Seq.nil ?_⟩
    have hsz:=hX.fz.size
    refine Post.afterG (σ:=σ) (σ':=(v6,S6,σ.2.2)) rfl rfl rfl hpre rfl (fun j hj=> ?_) ⟨hX.fz.call hf,(fun h=>by cases h),fun _=>⟨y,q2,hr,hp6,hr6,fun b hb=>⟨by have:=(hb6 b hb).1;omega,(hb6 b hb).2⟩⟩,fun hm=> ?_⟩
    ·match j,hj with
     |0,_=>rfl
     |1,_=>rfl
     |2,_=>rfl
     |3,_=>rfl
     |4,_=>rfl
     |5,_=>rfl
     |6,_=>rfl
     |7,_=>rfl
     |8,_=>rfl
     |9,_=>rfl
     |10,_=>rfl
     |11,_=>rfl
     |12,hj=>rw[hS] at hj;cases hj
     |13,_=>rfl
     |14,_=>rfl
     |j+15,_=>rfl
    ·have hm:S 13=true:=hm
     rw[h13] at hm;cases hm
  |13,ho=>
   injection ho with ho
   subst ho
   intro σ S w hS hpre hdc hX
   obtain⟨y,q2,q1,pz,q3,q4⟩:=hX.post (hpre 12 (memB_spec rfl))
   have hones:=q3.ones
   have h14:S 14=false:=by
    cases h:S 14 with
    |false=>rfl
    |true=>have:=hdc 14 _ rfl h 13 (memB_spec rfl);rw[hS] at this;cases this
   refine Seq.slice (vs:=[.agg (exC left AL cL),σ.1]) (s:=4) rfl rfl rfl Tryz.underlying22 (by kernel_rfl) zero_api_Expr (by omega) (by omega) ⟨rfl,hones.1,trivial⟩ rfl rfl rfl ?_
   intro g7 w' n7
   refine Seq.nil ?_
   have hsz:=hX.fz.size
   refine Post.afterG (σ:=σ) (σ':=(σ.1,σ.2.1,g7)) rfl rfl rfl hpre rfl (fun j hj=> ?_) ⟨hX.fz.step n7.below,fun h=>(hX.pre h).step hle n7.below,fun h=> ?_,fun _=>⟨Nat.le_trans hsz n7.ge,n7.blk,fun h hb=> ?_⟩⟩
   ·match j,hj with
    |0,_=>rfl
    |1,_=>rfl
    |2,_=>rfl
    |3,_=>rfl
    |4,_=>rfl
    |5,_=>rfl
    |6,_=>rfl
    |7,_=>rfl
    |8,_=>rfl
    |9,_=>rfl
    |10,_=>rfl
    |11,_=>rfl
    |12,_=>rfl
    |13,hj=>rw[hS] at hj;cases hj
    |14,hj=>rw[h14] at hj;cases hj
    |j+15,_=>rfl
   ·exact⟨y,q2,q1,pz.step hle n7.below,q3.mono (fun _ h=>h) (fun a ha=>n7.below.cell (q4 _ ha).2),fun b hb=>⟨(q4 b hb).1,Nat.lt_of_lt_of_le (q4 b hb).2 n7.below.size⟩⟩
   ·exact Nat.lt_irrefl _ (Nat.lt_of_lt_of_le (q4 _ hb).2 n7.ge)
  |14,ho=>
   injection ho with ho
   subst ho
   intro σ S w hS hpre hdc hX
   refine Seq.val (Runs.build rfl rfl (run_build_s _ _ _)) rfl rfl rfl (Seq.nil ?_)
   exact Post.afterG rfl rfl rfl hpre rfl (fun _ _=>rfl) hX
  |k+15,ho=>simp at ho
 rintro⟨vy,Sy,g58⟩ S2 wz hS2 hX
 obtain⟨y,q2,hr2,pwz,hrepy,hby⟩:=hX.post (hS2 12 (by decide))
 obtain⟨e58,k58,hn58⟩:=hX.new (hS2 13 (by decide))
 dsimp only at hrepy hby e58 k58 hn58
 have hn58:=hn58 (hS2 12 (by decide))
 have fzz:=hX.fz
 clear hX
 have hs8:=bel.size
 have hszz:=fzz.size
 have hl4:=k4.lt
 have hl6:=k6.lt
 have belz:=bel.call fzz
 have k4z:=k4.fz fzz (by omega)
 have k6z:=k6.fz fzz (by omega)
 have kpz:=kp.fz k99 fzz
 have rsz:=rs.fz fzz (by omega)
 obtain⟨AY,cY,hvY⟩:=hrepy.form
 subst hvY
 obtain⟨hhi,Sl,hrepl,hbl⟩:=rsz
 have hhi8:=rs.1
 have hadd58:(⟨g58,0,none⟩:Addr).add=fun j=>⟨g58,j,none⟩:=by funext j;unfold Addr.add;split<;>simp_all
 have rs2:MadeE g4 wz.heap.size g6 (mk2 op left y) (.agg (exC (mk2 op left y) (some ⟨g58,0,none⟩) 2)) wz:=by
  refine⟨Nat.le_refl _,fun b=>Sl b∨Sy b∨b=g58,RepE.mk (args:=[left,y]) (vs:=[.agg (exC left AL cL), .agg (exC y AY cY)]) rfl (by simp) hop64 (by unfold I64;omega) (by simp) (by simp) (fun i e v h1 h2=> ?_) (fun _=>⟨⟨g58,0,none⟩,rfl, .inr (.inr rfl),fun j u hu=> ?_⟩),fun b hb=> ?_⟩
  ·match i,h1,h2 with
   |0,h1,h2=>
    simp at h1 h2
    subst h1 h2
    exact hrepl.mono (fun _ h=> .inl h) (fun _ _=>rfl)
   |1,h1,h2=>
    simp at h1 h2
    subst h1 h2
    exact hrepy.mono (fun _ h=> .inr (.inl h)) (fun _ _=>rfl)
   |i+2,h1,_=>simp at h1
  ·rw[hadd58,k58.cell j]
   have hu2:(flatC [Value.agg (exC left AL cL),Value.agg (exC y AY cY)]).toArray[j]? =some u:=by simpa using hu
   exact hu2
  ·rcases hb with hb|hb|rfl
   ·obtain⟨h1,h2,h3⟩:=hbl b hb
    exact⟨h1,by omega,h3⟩
   ·obtain⟨h1,h2⟩:=hby b hb
    exact⟨by omega,h2,by omega⟩
   ·exact⟨by omega,k58.lt,by omega⟩
 have hstep3:R=if lvl=2 then .ok (mk2 op left y) q2 else(fuelP K.ws m).L lvl (mk2 op left y) q2 d:=by rw[hstep2,hr2];rfl
 clear bel k4 k6 kp rs k99 k7 kl kop
 have bel:=belz
 have k4:=k4z
 have k6:=k6z
 have kp:=kpz
 have rs:=rs2
 have k99:=pwz.blk
 refine Zo 4 k6 ?_
 intro w9 pw9
 replace bel:=bel.put k6 pw9 e6
 replace kp:=kp.put k6 pw9 e6
 replace rs:=rs.put k6 pw9 e6
 replace k99:=k99.put pw9 (by omega)
 replace k4:=k4.put pw9 (by omega)
 replace k6:=pw9.blk
 refine Zk8 0 1 4 5 6 7 8 36 (Ztq ?_)
 refine Zm ?_
 refine Zm ?_
 have kl:Blk _ gl 121 csl:=kp.blk lv.lev
 refine Zv ((Runs.indexN rfl rfl rfl Tryz.underlying116 (s:=3) (by kernel_rfl) (j:=lvl) rfl (by omega)).cast haddL) ?_
 refine Zv (Runs.fieldA 2 rfl rfl Tryz.underlying121 rfl (by kernel_rfl)) ?_
 refine Zv (Runs.loadB (g:=gl) (i:=lvl*3+2) rfl rfl Tryz.underlying4 rfl kl lv.s2) ?_
 refine Zk9 0 1 4 5 6 7 8 36 64 (Zt ?_)
 refine Cd.condD rfl (fun h2=> ?_) (fun h2=> ?_)
 ·rw[if_pos h2] at hstep3
  have hlt4:=k4.lt
  refine Zsr ?_
  refine Zv (Runs.loadW rfl rfl Tryz.underlying35 rfl k6 (m:=4) (by kernel_rfl) rfl) ?_
  refine Zo 4 k4 ?_
  intro w10 pw10
  replace bel:=bel.put k4 pw10 e4
  replace kp:=kp.put k4 pw10 e4
  replace rs:=rs.put k4 pw10 e4
  replace k99:=k99.put pw10 (by omega)
  replace k6:=k6.put pw10 (by omega)
  replace k4:=pw10.blk
  refine Zk9 0 1 4 5 6 7 8 36 64 (Zt (Cd.ret (Post.block_ret (Post.round_ret (Post.block_ret ?_)))))
  refine Post.endC rfl rfl k4 Tryz.underlying35 rfl (m:=4) (by kernel_rfl) rfl (.inl rfl) ?_
  rw[hstep3]
  obtain⟨hhi2,S',hrep',hb'⟩:=rs
  exact⟨bel,_,rfl,⟨k99,pw.rd.below (bel.below (by omega) hle),pwz.p_le,pwz.d_le⟩,S',hrep',fun b h=>⟨by have:=(hb' b h).1;omega,by have:=(hb' b h).2.1;omega⟩⟩
 ·rw[if_neg h2] at hstep3
  refine Cd.skip (Post.block_normal ?_)
  exact Post.round (m,mk2 op left y,(some ⟨g58,0,none⟩,2),q2) ⟨rfl,rfl,rfl,rfl,rfl,trivial⟩ ⟨⟨k99,pw.rd.below (bel.below (by omega) hle),pwz.p_le,pwz.d_le⟩,bel,k4,k6,kp,rs.up,by dsimp only;omega,hstep3⟩ (by dsimp only;omega)
theorem has_all (K:Ctx)(hK:K.Ok)(n:Nat):(∀m,m≤n→HasS K (fuelP K.ws m).S∧∀lvl,lvl≤5→HasL K m lvl):=by
 induction n with
 |zero=>
  intro m hm
  obtain rfl:m=0:=by omega
  exact⟨fun p d W _ h=>absurd rfl h,fun lvl _ p d W _ h=>absurd rfl h⟩
 |succ n ih=>
  intro m hm
  rcases Nat.lt_or_ge m (n+1) with h|h
  ·exact ih m (by omega)
  obtain rfl:m=n+1:=by omega
  obtain⟨i1,i2⟩:=ih n (Nat.le_refl _)
  have hS:HasS K (fuelP K.ws (n+1)).S:=fun p d W hp hne=>by
   have e:(fuelP K.ws (n+1)).S p d=unaryP K.ws (fuelP K.ws n).S ((fuelP K.ws n).E 0) p d:=rfl
   rw[e] at hne⊢
   exact unary_any K hK _ _ i1 (fun p d W hp hne=>i2 0 (by omega) p d W hp hne) p d W hp hne
  refine⟨hS,fun lvl hl=> ?_⟩
  have key:∀j lvl,lvl+j=5→HasL K (n+1) lvl:=by
   intro j
   induction j with
   |zero=>intro lvl h;obtain rfl:lvl=5:=(by omega);exact expr_top K hK n hS
   |succ j ihj=>intro lvl h;exact expr_any K hK n lvl (by omega) (ihj (lvl+1) (by omega)) (fun m hm=>(ih m hm).2 (lvl+1) (by omega))
  exact key (5-lvl) lvl (by omega)
end Go.Proofs.YtaamkfajnpobfaaGreat
namespace Go.Proofs.YtaamkfajnpobfaaGreat
open Go.RowKit
def partV (x:Nat × Nat × Nat):Value:= .func (.func x.1) #[] #[.pointer (some ⟨x.2.1,0,none⟩), .pointer (some ⟨x.2.2,0,none⟩)]
def BoxT (K:Ctx)(gt:Nat)(x:Nat × Nat × Nat)(W:World):Prop:=Blk W x.2.1 103 #[.pointer (some ⟨gt,0,none⟩)]∧Blk W x.2.2 60 #[.pointer (some ⟨K.g,0,none⟩)]
def BoxL (K:Ctx)(gt:Nat)(L:List (Nat × Nat × Nat))(W:World):Prop:=∀x∈L,BoxT K gt x W
theorem BoxL.step {K:Ctx}{gt:Nat}{L:List (Nat × Nat × Nat)}{W W':World}(h:BoxL K gt L W)(hb:Below W.heap.size W W'):BoxL K gt L W':=fun x hx=>⟨(h x hx).1.step hb,(h x hx).2.step hb⟩
theorem BoxL.app {K:Ctx}{gt B B' n size:Nat}{v:Value}{xs:List Value}{L:List (Nat × Nat × Nat)}{W W':World}(h:BoxL K gt L W)(o:Own W B 1 size v n xs)(ha:App W W' B' v):BoxL K gt L W':=fun x hx=>⟨(h x hx).1.app o ha,(h x hx).2.app o ha⟩
def HasT (K:Ctx)(T0:Nat→Nat→Rs Tm):Prop:=∀p d W,PW K W p d false→T0 p d≠ .out→Calls Tryz.prog 24 #[.pointer (some ⟨K.g,0,none⟩)] W (PR K W d (T0 p d) (okT W))
theorem PRh.map {α β:Type}{K:Ctx}{h d:Nat}{w w':World}{r:Rs α}{f:α→β}{ok1:α→Value→World→Prop}{ok2:β→Value→World→Prop}{e:Ending}(hr:PRh K h w d r ok1 e w')(hm:∀a v w',ok1 a v w'→ok2 (f a) v w'):PRh K h w d (r.map f) ok2 e w':=by
 refine⟨hr.1,?_⟩
 cases r with
 |out=>exact hr.2
 |bad p o=>exact hr.2
 |ok a p=>obtain⟨v,h1,h2,h3⟩:=hr.2;exact⟨v,h1,h2,hm _ _ _ h3⟩
end Go.Proofs.YtaamkfajnpobfaaGreat
namespace Go.Proofs.YtaamkfajnpobfaaGreat
open Go.RowKit
theorem catch_idle (g:Nat)(w:World):CallsD Tryz.prog 97 #[.pointer (some ⟨g,0,none⟩)] .returning w fun e u' w'=>e= .returned (.tuple #[])∧u'= .returning∧w'=w:=by
 refine callsD_of_wpS Tryz.func97 rfl fun c₀ cs hu=> ?_
 apply wpS_seq
 apply wpS_region
 simp[wpOpsS,go_sem,recoverD,hu,Tryz.ntmps97,Exit.thenS]
 apply wpS_seq
 apply wpS_region
 simp[wpOpsS,go_sem,recoverD,hu,Exit.thenS,Tryz.underlying20]
 refine wpS_cond (t:=false) (by simp[Act.eval,Array.replicate]) ?_
 simp only[Bool.false_eq_true,if_false]
 refine wpS_of_wp (wp_skip ?_)
 cases c₀
 simp_all [bodyPostS,results,Tryz.results97]
theorem zero_parse_stop:zeroIs Tryz.prog 145=some (some (.agg #[])):=by kernel_rfl
theorem Runs.typeAssert {P:Program}{E:Operand→Option Value}{o:Oper}{w:World}{x:Operand}{T T':TypeId}{b:Bool}{v u:Value}(ho:o.op= .typeAssert x T T' b)(hx:E x=some v)(hr:(Instr.typeAssert v T T' b).run P w= .ok u w):Runs P E o w u w:=fun ρ h=>by
 unfold execOp;simp only[ho];rw[h _ _ hx];simp only[Sem.run_bind,hr,Result.andThen_ok];rfl
theorem Cd.at_ {P:Program}{c:Code}{Q:Exit→Act→World→Prop}{n:Nat}{F:List (Nat × Value)}{w:World}{a:Act}(h:Cd P c Q n F w)(ha:Fr n F a):c.wp P Q a w:=h a ha
theorem catch_stop (g:Nat)(b:Bool)(w:World)(hb:Blk w g 4 #[.bool b]):CallsD Tryz.prog 97 #[.pointer (some ⟨g,0,none⟩)] (.panicking stopCh) w fun e u' w'=>
  e= .returned (.tuple #[])∧u'= .panicking [{v:= .iface 145 (.agg #[]),recovered:=true}]∧Blk w' g 4 #[.bool false]∧w.grownBy w' (some g):=by
 refine callsD_of_wpS Tryz.func97 rfl fun c₀ cs hu=> ?_
 unfold stopCh at hu
 apply wpS_seq
 apply wpS_region
 simp[wpOpsS,go_sem,recoverD,hu,Tryz.ntmps97,Exit.thenS]
 apply wpS_seq
 apply wpS_region
 simp[wpOpsS,go_sem,recoverD,hu,Exit.thenS,Tryz.underlying20]
 refine wpS_cond (t:=true) (by simp[Act.eval,Array.replicate]) ?_
 simp only[if_true]
 refine wpS_of_wp ?_
 refine Cd.at_ (n:=15) (F:=[(0, .pointer (some ⟨g,0,none⟩)),(1, .iface 145 (.agg #[]))]) ?_ ⟨by simp,rfl,fun t v ht=> ?_⟩
 ·refine Cd.seq ?_
  refine Zsr ?_
  refine Zm ?_
  refine Zv (Runs.typeAssert (u:= .tuple #[.agg #[], .bool true]) rfl rfl (by kernel_rfl)) ?_
  refine Zm ?_
  refine Zv (Runs.extract rfl rfl rfl) ?_
  refine Zv (Runs.extract rfl rfl rfl) ?_
  refine Zl zero_parse_stop ?_
  intro g2 w1 n2
  have hb1:=hb.step n2.below
  refine Seq.storeN (m:=0) rfl rfl rfl rfl (by kernel_rfl) rfl trivial n2.blk (by simp[Value.cells]) rfl rfl ?_
  intro w2 p2
  have hne:g≠g2:=by have:=hb.lt;have:=n2.ge;omega
  have hb2:=hb1.put p2 hne
  refine Za ?_
  refine Seq.nil (Ztq ?_)
  refine Zm ?_
  refine Zv (Runs.not rfl rfl) ?_
  refine Seq.nil (Zt ?_)
  refine Cd.condF rfl rfl ?_
  refine Cd.skip (Ztr ?_)
  refine Zq hb2 ?_
  intro w3 p3
  refine Seq.nil ?_
  intro a ha
  have hgr:w.grownBy w3 (some g):=by
   have h1:w.grownBy w1 (some g):=⟨n2.below.os,n2.below.tape,n2.below.output,n2.below.size,fun k hk _=>n2.below.block k hk⟩
   have h2:w1.heap.size=w2.heap.size:=p2.size.symm
   refine⟨p3.grown.os.trans (p2.grown.os.trans h1.os),p3.grown.tape.trans (p2.grown.tape.trans h1.tape),p3.grown.output.trans (p2.grown.output.trans h1.output),by have:=h1.size;have:=p2.size;have:=p3.size;omega,fun k hk hne2=> ?_⟩
   have hge:=n2.ge
   have hs1:=h1.size
   rw[p3.grown.block k (by omega) hne2,p2.grown.block k (by omega) (fun e=>by injection e with e;omega)]
   exact h1.block k hk hne2
  refine⟨ha.defers,_,?_, .tuple #[],?_,rfl,rfl,p3.blk,hgr⟩
  ·cases c₀
   simp_all
  ·exact results_none rfl _ _ _
 rcases look_put ht with ⟨rfl,rfl⟩|⟨-,ht⟩
 ·simp
 rcases look_put ht with ⟨rfl,rfl⟩|⟨-,ht⟩
 ·simp
 cases ht
end Go.Proofs.YtaamkfajnpobfaaGreat
namespace Go.Proofs.YtaamkfajnpobfaaGreat
open Go.RowKit
def dcallV (g:FuncId)(cap:List Value):Deferred:= {target:= .fn (.func g) cap.toArray,args:= #[]}
theorem Seq.deferV {P:Program}{ops:Array Oper}{Q:Exit→Act→World→Prop}{rest:List Oper}{o:Oper}{n t:Nat}{F:List (Nat × Value)}{w:World}{g:FuncId}{cap:List Value}{ts:Array TypeId}(ho:o.op= .defer {callee:= .value (.tmp t),args:= #[],argTypes:=ts}) (hx:evF F (.tmp t)=some (.func (.func g) #[] cap.toArray)) (hg:o.guard=none) (hd:o.dst=none)
  (h:∀I:Inhabited (List Deferred),I.default=[dcallV g cap]→ @Seq I P ops Q rest n F w):Seq P ops Q (o::rest) n F w:=by
 intro a ha
 refine wpList_plain hg fun K hK=> ?_
 have hr:(execOp a.eval o).run P w= .ok (.defer (dcallV g cap)) w:=by
  unfold execOp
  have hf:a.eval (.tmp t)= .func (.func g) #[] cap.toArray:=ha.ev _ _ hx
  simp only[ho,resolve,hf,Deferred.ofValue,Sem.run_bind,Sem.run_pure,Result.andThen_ok]
  simp[dcallV]
 unfold Oper.wp
 rw[hr,Oper.upon_defer,hd]
 have hD:dcallV g cap::a.defers=[dcallV g cap]:=by rw[ha.defers];rfl
 exact hK _ _ (h ⟨[dcallV g cap]⟩ rfl _ (@Fr.mk ⟨[dcallV g cap]⟩ n F _ ha.size hD ha.slot))
theorem results_bool {P:Program}{fn:Func}{p g:Nat}{ty t:TypeId}{b:Bool}{w:World}(h:fn.results= #[.cell p ty]) (tmps:Array Value) (hp:tmps[p]? =some (.pointer (some ⟨g,0,none⟩))) (hu:P.underlying ty=some .bool) (hb:Blk w g t #[.bool b]):(results fn tmps).run P w= .ok (.bool b) w:=by
 have hagg:(isAgg ty).run P w= .ok false w:=by
  unfold isAgg
  rw[Sem.run_bind,run_underlying hu w]
  rfl
 have hc:w.cell? ⟨g,0,none⟩=some (.bool b):=by rw[hb.cell 0];rfl
 simp[results,h,hp,asAddr,loadVar,Sem.run_bind,hagg,go_sem,hc]
def RunR {α:Type}(K:Ctx)(h:Nat)(w:World)(r:Rs α)(okv:α→World→Prop)(e:Ending)(w':World):Prop:=
 Fz h K.g w w'∧Kp w w'∧match r with
 | .out=>False
 | .bad p ov=>e= .returned (.bool false)∧∃d,PW K w' p d ov
 | .ok a p=>e= .returned (.bool (decide (p=K.ws.length)))∧(∃d,PW K w' p d false)∧okv a w'
def PRk {α:Type}(K:Ctx)(h:Nat)(W:World)(r:Rs α)(okv:α→World→Prop)(e:Ending)(W':World):Prop:=match r with
 | .out=>False
 | .bad p ov=>Fz W.heap.size K.g W W'∧e= .panicked stopCh∧∃d,PW K W' p d ov
 | .ok a p=>Fz h K.g W W'∧Kp W W'∧(∃v,e= .returned v)∧PW K W' p 0 false∧okv a W'
theorem runP_any {α:Type}(K:Ctx)(hK:K.Ok)(f:Nat)(cp:List Value)(h:Nat)(r:Rs α)(okv:World→α→World→Prop)(ok2:α→World→Prop)(w:World)(pw:PW K w 0 0 false)(hh:h≤w.heap.size)(hne:r≠ .out)(eg:∀args w,(callFunc f args).run Tryz.prog w= .ok (.enter f args) w)
  (hok:∀a W0 W W' g,okv W0 a W→w.heap.size≤g→g<W0.heap.size→W0.heap.size≤W.heap.size→W.heap.size≤W'.heap.size→(∀k,k<W.heap.size→k≠g→W'.heap[k]? =W.heap[k]?)→ok2 a W')
  (hc:∀W,Below w.heap.size w W→PW K W 0 0 false→Calls Tryz.prog f cp.toArray W (PRk K h W r (okv W))):
  Calls Tryz.prog 47 #[.pointer (some ⟨K.g,0,none⟩), .func (.func f) #[] cp.toArray] w (RunR K h w r ok2):=by
 have bel:=Below.refl w.heap.size w
 have hle:=hK.le
 have hlt:=pw.blk.lt
 have hen:∀args w,(callFunc 97 args).run Tryz.prog w= .ok (.enter 97 args) w:=fun args w=>run_enter Tryz.func97 (by kernel_rfl) rfl args w
 refine Calls.startD 18 Tryz.func47 rfl rfl rfl ?_
 refine Zsr ?_
 refine Zl zero_bool ?_
 intro g4 w1 n4
 have e4:=Nat.le_trans bel.size n4.ge
 replace bel:=bel.step n4.below
 have k4:=n4.blk
 refine Zk3 0 1 4 (Ztq ?_)
 refine Zv (Runs.makeFunc (v:= .func (.func 97) #[] #[.pointer (some ⟨g4,0,none⟩)]) rfl (show evL _ _=some [] from rfl) (show evL _ _=some [.pointer (some ⟨g4,0,none⟩)] from rfl) rfl) ?_
 refine Seq.deferV (cap:=[.pointer (some ⟨g4,0,none⟩)]) rfl rfl rfl rfl ?_
 intro I hI
 have hcl:=hc _ bel (pw.step hle bel)
 have hltc:=k4.lt
 have kp:Kp w w1:=(Kp.refl w).step bel
 have hs1:=bel.size
 refine Zk3 0 1 4 (Ztq ?_)
 refine Zm ?_
 rcases Rs.ok_or hne with ⟨q,ov,hr⟩|⟨x,q,hr⟩
 ·rw[hr] at hcl⊢
  refine Seq.callB (Enters.value (first:=[]) (cap:=cp) rfl rfl rfl eg) rfl hcl ?_
  rintro e w6 ⟨hf,rfl,d6,hp6⟩
  refine⟨_,rfl,fun a ha=> ?_⟩
  have k46:=k4.fz hf (by omega)
  show Leaves Tryz.prog _ a.tmps _ a.defers (.panicking stopCh) w6
  rw[ha.defers,hI]
  refine leaves_cons (by simp) (f:=97) (args:= #[.pointer (some ⟨g4,0,none⟩)]) (by simp[invoke,hen]) ((catch_stop g4 false w6 k46).mono fun e u' w' ⟨h1,h2,h3,h4⟩=> ?_)
  subst h1 h2
  have hfw:Fz h K.g w w6:=(Fz.of (bel.mono hh)).trans (hf.less (by omega))
  have hg4:Fz h K.g w6 w':=⟨h4.os,h4.tape,h4.output,h4.size,fun k hk _=>by
   have:=hf.size
   exact h4.block k (by omega) (fun e=>by injection e with e;omega)⟩
  have kp6:Kp w w6:=kp.fz (pw.step hle bel).blk hf
  refine⟨_,results_bool rfl a.tmps (ha.slot 4 _ rfl) Tryz.underlying4 h3,hfw.trans hg4,⟨Nat.le_trans kp6.size h4.size,fun k t cs hb h1 h2 h3'=>(kp6.keep k t cs hb h1 h2 h3').grown h4 (fun e=>by injection e with e;have:=hb.lt;omega)⟩,rfl,d6,hp6.blk.grown h4 (fun e=>by injection e with e;omega),hp6.rd.below ⟨h4.os,h4.tape,h4.output,h4.size,fun k hk=>h4.block k (by have:=hp6.blk.lt;omega) (fun e=>by injection e with e;omega)⟩,hp6.p_le,hp6.d_le⟩
 rw[hr] at hcl⊢
 refine Seq.call (Enters.value (first:=[]) (cap:=cp) rfl rfl rfl eg) rfl rfl rfl hcl ?_
 rintro e wq ⟨hf,kpq,⟨v,rfl⟩,pwq,hov⟩
 refine⟨_,rfl,?_⟩
 have hbel1:=bel
 clear bel
 have hfw:Fz h K.g w wq:=(Fz.of (hbel1.mono hh)).trans hf
 have kp6:=kp.trans kpq
 have k46:=kpq.blk k4
 have hg4:g4≠K.g:=by omega
 clear k4
 have k4:=k46
 have k99:=pwq.blk
 have bel:=Below.refl wq.heap.size wq
 have loc:=Fz.refl wq.heap.size g4 wq
 have e4':g4=g4:=rfl
 refine Zk3 0 1 4 (Zts ?_)
 refine Cd.draw 10 (by kernel_rfl) [] (.inl rfl) rfl Grow Grow.refl (fun _ _ _=>Grow.trans) ?_
 intro w2 hw2 zw2
 replace bel:=bel.step hw2
 replace k99:=k99.step hw2
 replace k4:=k4.step hw2
 have zbel:=bel.size
 have zlt:=k4.lt
 refine Zdm ?_
 refine Zd (fun w hG=>Runs.nilCheck rfl rfl) ?_
 refine Zd (fun w hG=>Runs.fieldB 1 rfl rfl Tryz.underlying92 rfl (by kernel_rfl)) ?_
 refine Zd (fun w hG=>Runs.loadB rfl rfl Tryz.underlying3 rfl (k99.step hG) rfl) ?_
 refine Zdm ?_
 refine Zd (fun w hG=>Runs.nilCheck rfl rfl) ?_
 refine Zd (fun w hG=>Runs.fieldB 0 rfl rfl Tryz.underlying92 rfl (by kernel_rfl)) ?_
 refine Zd (fun w hG=>Runs.loadB rfl rfl Tryz.underlying88 rfl (k99.step hG) rfl) ?_
 refine Zd (fun w hG=>Runs.len rfl rfl Tryz.underlying88) ?_
 refine Zd (fun w hG=>Runs.eqlI rfl rfl rfl) ?_
 refine Dr.nil ?_
 refine FinX.done (F':=[(0,_),(1,_),(4,_),(17,_)]) rfl ⟨rfl,rfl,rfl,rfl,trivial⟩ ?_
 intro w3 hw3 fw3
 replace bel:=bel.step hw3
 replace k99:=k99.step hw3
 replace k4:=k4.step hw3
 have hbw:=bel
 have hsw:=bel.size
 have hlt4:=k4.lt
 have k4q:=k46
 refine Zq k4 ?_
 intro w4 pw4
 replace k99:=k99.put pw4 (by omega)
 replace k4:=pw4.blk
 refine Zk3 0 1 4 (Zt (Cd.ret ?_))
 intro a ha
 show Leaves Tryz.prog _ a.tmps _ a.defers .returning _
 rw[ha.defers,hI]
 refine leaves_cons (by simp) (f:=97) (args:= #[.pointer (some ⟨g4,0,none⟩)]) (by simp[invoke,hen]) ((catch_idle g4 _).mono fun e u' w' ⟨h1,h2,h3⟩=> ?_)
 subst h1 h2 h3
 have hgr:=pw4.grown
 have hsz:=pw4.size
 have hblk:∀k,k<wq.heap.size→k≠g4→w'.heap[k]? =wq.heap[k]? :=fun k hk hne=>(hgr.block k (by omega) (fun e=>hne (by injection e))).trans (hbw.block k hk)
 have hfe:Fz h K.g wq w':=⟨hgr.os.trans hbw.os,hgr.tape.trans hbw.tape,hgr.output.trans hbw.output,by omega,fun k hk _=>hblk k (by have:=hfw.size;omega) (by omega)⟩
 have hdd:(decide ((q:Int)=(K.ws.length:Int)))=decide (q=K.ws.length):=by rw[decide_eq_decide];omega
 refine⟨_,results_bool rfl a.tmps (ha.slot 4 _ rfl) Tryz.underlying4 k4,hfw.trans hfe,⟨Nat.le_trans kp6.size (by omega),fun k t cs hb h1 h2 h3'=> ?_⟩,?_,⟨0,k99,pwq.rd.below (B:=K.B) ⟨hfe.os,hfe.tape,hfe.output,hfe.size,fun k hk=>hblk k (by omega) (by omega)⟩,pwq.p_le,pwq.d_le⟩,hok x _ wq _ g4 hov (by omega) hltc kpq.size (by omega) hblk⟩
 ·have hb2:=kp6.keep k t cs hb h1 h2 h3'
  have:=hb.lt
  have h9:=hblk k hb2.lt (by omega)
  unfold Blk at hb2⊢
  rw[h9]
  exact hb2
 ·show Ending.returned (.bool (decide ((q:Int)=(K.ws.length:Int))))=_
  rw[hdd]
end Go.Proofs.YtaamkfajnpobfaaGreat
namespace Go.Proofs.YtaamkfajnpobfaaGreat
open Go.RowKit
def stepB (b:Bool)(c:Nat):Bool:=if c=35 then true else if c=10 then false else b
def stK (l:List Nat)(b:Bool):Nat→Bool
 |0=>b
 |k+1=>stepB (stK l b k) (l.getD k 0)
def Chain (l:List Nat):List Wd→Nat→Prop
 | [],q=>q+blankN (l.drop q)=l.length
 |x::r,q=>x.pos=q+blankN (l.drop q)∧0<x.text.length∧x.pos+x.text.length≤l.length∧x.text=(l.drop x.pos).take x.text.length∧Chain l r (x.pos+x.text.length)
section
variable {P:Program} {E:Operand→Option Value} {o:Oper} {w:World} {x:Operand} {T:TypeId}
end
end Go.Proofs.YtaamkfajnpobfaaGreat
namespace Go.Proofs.YtaamkfajnpobfaaGreat
theorem runN_stop_at (p:Nat→Bool)(t r:List Nat)(c:Nat)(ht:∀x∈t,p x=true)(hc:p c=false):runN p (t++c::r)=t.length:=by
 induction t with
 |nil=>rw[List.nil_append,runN_cons,hc];rfl
 |cons x t ih=>rw[List.cons_append,runN_cons,if_pos (ht x (by simp)),ih (fun y hy=>ht y (by simp[hy]))];rfl
theorem numZ_none {l:List Nat}{c:Nat}(hc:c∈l)(h:digB c=false):numZ l= -1:=by
 unfold numZ
 rw[if_neg]
 intro ha
 have:=List.all_eq_true.1 ha c hc
 rw[h] at this;cases this
theorem sign_again:∀s∈signsL,∀r:List Nat,signW (s++32::r)=some s∧∃c q,s=c::q∧digB c=false∧letB c=false∧blankB c=false∧c≠35:=by
 intro s hs r
 simp only[signsL,List.mem_cons,List.not_mem_nil,or_false] at hs
 rcases hs with rfl|rfl|rfl|rfl|rfl|rfl|rfl|rfl|rfl|rfl|rfl|rfl|rfl|rfl|rfl|rfl<;>
  exact⟨by simp[signW,signsL],_,_,rfl,by decide,by decide,by decide,by decide⟩
theorem nextW_cons (c:Nat)(r:List Nat):nextW (c::r)=if digB c then(if dayOk (c::r) then some (2,(c::r).take 10,dateZ ((c::r).take 10)) else(amt0 ((c::r).take (runN partB (c::r)))).map fun v=>(1,(c::r).take (runN partB (c::r)),v))
  else if letB c then(if runN partB (c::r)≤16 then some (3,(c::r).take (runN partB (c::r)),0) else none)
  else(signW (c::r)).map fun s=>(0,s,0):=rfl
def sepL (b:Bool):List Nat:=if b then [32,35,32,40,10] else [32]
def joinL (b:Bool)(ws:List Wd):List Nat:=ws.flatMap fun x=>x.text++sepL b
def WdOk (x:Wd):Prop:=∃l,nextW l=some (x.kind,x.text,x.n)
end Go.Proofs.YtaamkfajnpobfaaGreat
namespace Go.Proofs.YtaamkfajnpobfaaGreat
open Go.RowKit
def WdB (x:Wd):Prop:=(x.kind=0∧x.text∈signsL∧x.n=0)∨(x.kind=1∧0≤x.n∧x.n≤9223372036854775807)∨(x.kind=2∧0≤x.n∧x.n≤2932896)∨(x.kind=3∧namedB x.text=true∧x.n=0)
theorem runN_full (p:Nat→Bool)(t:List Nat)(ht:∀x∈t,p x=true):runN p t=t.length:=by
 induction t with
 |nil=>rfl
 |cons x t ih=>rw[runN_cons,if_pos (ht x (by simp)),ih (fun y hy=>ht y (by simp[hy]))];rfl
theorem ofZ_bd {y m d:Int}(h:ofOk y m d=true):0≤ofZ y m d∧ofZ y m d≤2932896:=by
 unfold ofOk at h
 simp only[Bool.and_eq_true,decide_eq_true_eq] at h
 obtain⟨⟨⟨h1,h2⟩,h3⟩,h4⟩:=h
 obtain⟨h5,h6,h7⟩:=daysZ_m (y:=y) (m:=m) (by omega)
 unfold ofZ ofY ofM
 by_cases hm:m<3
 ·rw[if_pos hm,if_pos hm];omega
 ·rw[if_neg hm,if_neg hm];omega
theorem dateZ_bd (l:List Nat):0≤dateZ l∧dateZ l≤2932896:=by
 unfold dateZ
 split
 ·rename_i h
  unfold dateOk at h
  simp only[Bool.and_eq_true] at h
  exact ofZ_bd h.2
 ·omega
theorem nextW_bd {l:List Nat}{k:Int}{t:List Nat}{n:Int}{pos:Nat}(h:nextW l=some (k,t,n)):WdB ⟨k,t,n,pos⟩:=by
 obtain⟨h1,h2,h3⟩:=nextW_spec h
 cases l with
 |nil=>cases h
 |cons c l=>
  rw[nextW_cons] at h
  by_cases hd:digB c=true
  ·rw[if_pos hd] at h
   by_cases hday:dayOk (c::l)=true
   ·rw[if_pos hday] at h
    injection h with h
    injection h with e1 h
    injection h with e2 e3
    have:=dateZ_bd ((c::l).take 10)
    exact .inr (.inr (.inl ⟨e1.symm,by simp only;omega,by simp only;omega⟩))
   ·rw[if_neg hday] at h
    cases ha:amt0 ((c::l).take (runN partB (c::l))) with
    |none=>rw[ha] at h;cases h
    |some v=>
     rw[ha] at h
     injection h with h
     injection h with e1 h
     injection h with e2 e3
     unfold amt0 at ha
     split at ha
     ·rename_i h6
      injection ha with ha
      exact .inr (.inl ⟨e1.symm,by simp only;omega,by simp only;omega⟩)
     ·cases ha
  ·rw[if_neg hd] at h
   by_cases hle:letB c=true
   ·rw[if_pos hle] at h
    by_cases h16:runN partB (c::l)≤16
    ·rw[if_pos h16] at h
     injection h with h
     injection h with e1 h
     injection h with e2 e3
     have hall:∀x∈t,partB x=true:=by rw[←e2];exact runN_all partB _
     have htl:t.length≤16:=by rw[←e2,List.length_take];omega
     have ht0:t.getD 0 0=c:=by
      cases t with
      |nil=>simp at h1
      |cons d q=>
       rw[List.length_cons,List.take_succ_cons] at h2
       injection h2 with h2 _
     refine .inr (.inr (.inr ⟨e1.symm,?_,e3.symm⟩))
     show namedB t=true
     unfold namedB
     rw[runN_full partB t hall,ht0,hle]
     have hne:t≠ []:=fun e=>by rw[e] at h1;simp at h1
     simp[htl,hne]
    ·rw[if_neg h16] at h;cases h
   ·rw[if_neg hle] at h
    cases hs:signW (c::l) with
    |none=>rw[hs] at h;cases h
    |some s=>
     rw[hs] at h
     injection h with h
     injection h with e1 h
     injection h with e2 e3
     subst e2
     exact .inl ⟨e1.symm,List.mem_of_find?_eq_some hs,e3.symm⟩
theorem lexW_bd (l:List Nat)(hl:∀x∈l,x<256):∀f p,∀x∈(lexW f l p).1,WdB x∧(∀c∈x.text,c<256)∧x.text.length≤l.length∧x.pos<l.length
 |0,p,x,h=>by simp[lexW] at h
 |f+1,p,x,h=>by
  rcases Nat.lt_or_ge p l.length with hlt|hge
  ·rw[lexW_step f l p hlt] at h
   cases hn:nextW (l.drop p) with
   |none=>rw[hn] at h;simp at h
   |some z=>
    obtain⟨k,t,n⟩:=z
    rw[hn] at h
    rcases List.mem_cons.1 h with rfl|h
    ·obtain⟨s1,s2,s3⟩:=nextW_spec hn
     refine⟨nextW_bd hn,fun c hc=> ?_,by rw[List.length_drop] at s3;dsimp only;omega,hlt⟩
     dsimp only at hc
     rw[s2] at hc
     exact hl c (List.mem_of_mem_drop (List.mem_of_mem_take hc))
    ·exact lexW_bd l hl f _ x h
  ·rw[lexW_end _ _ _ hge] at h;simp at h
theorem lexW_cnt (l:List Nat):∀(f p:Nat),p≤l.length→(lexW f l p).1.length+p≤l.length
 |0,p,h=>by unfold lexW;simpa using h
 |f+1,p,h=>by
  rcases Nat.lt_or_ge p l.length with h2|h2
  ·rw[lexW_step f l p h2]
   cases hn:nextW (l.drop p) with
   |none=>simpa using h
   |some x=>
    obtain⟨k,t,n⟩:=x
    obtain⟨s1,-,s3⟩:=nextW_spec hn
    rw[List.length_drop] at s3
    have hb:=blankN_le (l.drop (p+t.length))
    rw[List.length_drop] at hb
    have:=lexW_cnt l f (p+t.length+blankN (l.drop (p+t.length))) (by omega)
    simp
    omega
  ·rw[lexW_end _ l p h2];simpa using h
theorem lexAll_cnt (l:List Nat):(lexAll l).1.length≤l.length:=by
 have:=lexW_cnt l (l.length+1) (blankN l) (blankN_le l)
 unfold lexAll
 omega
theorem WdB.i64 {x:Wd}(h:WdB x):I64 x.kind∧I64 x.n:=by
 unfold I64
 rcases h with ⟨h1,-,h2⟩|⟨h1,h2,h3⟩|⟨h1,h2,h3⟩|⟨h1,-,h2⟩<;>omega
theorem ctx_ok (l:List Nat)(hl:∀x∈l,x<256)(h4:l.length≤4000){B g c:Nat}{A:Option Addr}(hle:B≤g):(Ctx.mk B g c l.length A (lexAll l).1).Ok:=
 ⟨hle,by have:=lexAll_cnt l;show(lexAll l).1.length≤4000;omega,h4,fun x hx=>by
  obtain⟨h1,h2,h3,h4'⟩:=lexW_bd l hl _ _ x hx
  exact⟨h1.i64.1,h1.i64.2,h2,by omega,by omega⟩⟩
end Go.Proofs.YtaamkfajnpobfaaGreat
namespace Go.Proofs.YtaamkfajnpobfaaGreat
open Go.RowKit
theorem parsedC_any {α:Type}(K:Ctx)(h:Nat)(f:Nat)(cp:List Value)(b3 b9:Nat)(r:Rs α)(okv:α→World→Prop)(W:World)(eg:∀args w,(callFunc f args).run Tryz.prog w= .ok (.enter f args) w)
  (k3:Blk W b3 62 #[.func (.func f) #[] cp.toArray]) (k9:Blk W b9 60 #[.pointer (some ⟨K.g,0,none⟩)]) (hne:r≠ .out)
  (hc:Calls Tryz.prog f ([]++[Value.pointer (some ⟨K.g,0,none⟩)]++cp).toArray W (PRk K h W r okv)):
  Calls Tryz.prog 48 #[.pointer (some ⟨b3,0,none⟩), .pointer (some ⟨b9,0,none⟩)] W (PRk K h W r okv):=by
 have bel:=Below.refl W.heap.size W
 have k98:=k3
 have k99:=k9
 refine Zs 5 Tryz.func48 ?_
 refine Zr ?_
 refine Zv (Runs.loadB rfl rfl Tryz.underlying62 rfl k98 rfl) ?_
 refine Zv (Runs.loadB rfl rfl Tryz.underlying60 rfl k99 rfl) ?_
 rcases Rs.ok_or hne with ⟨q,ov,hr⟩|⟨x,q,hr⟩
 ·rw[hr] at hc⊢
  refine Seq.callB (Enters.value (first:=[]) (cap:=cp) rfl rfl rfl eg) rfl hc ?_
  rintro e w6 ⟨hf,rfl,d6,hp6⟩
  refine⟨_,rfl,fun a ha=>⟨ha.defers,?_⟩⟩
  exact⟨hf,rfl,d6,hp6⟩
 rw[hr] at hc⊢
 refine Seq.call (Enters.value (first:=[]) (cap:=cp) rfl rfl rfl eg) rfl rfl rfl hc ?_
 rintro e wq ⟨hf,kpq,⟨v,rfl⟩,pwq,hov⟩
 refine⟨_,rfl,?_⟩
 refine Zk2 0 1 ?_
 refine Post.end0 rfl (.inr rfl) ?_
 exact⟨hf,kpq,⟨_,rfl⟩,pwq,hov⟩
def endPos (l:List Nat)(p:Nat):Nat:=((lexAll l).1.getD p ⟨-1,[],0,l.length⟩).pos
def parAt {α:Type}(l:List Nat)(r:Rs α):Nat × Int:=if 4000<l.length then(0,4) else match (lexAll l).2 with
 |some p=>(p,11)
 |none=>match r with
  | .out=>(0,0)
  | .bad p ov=>if ov=true then(0,13) else(endPos l p,11)
  | .ok _ p=>if p=(lexAll l).1.length then(0,0) else(endPos l p,11)
def ParR {α:Type}(l:List Nat)(r:Rs α)(ok2:α→World→Prop)(h:Nat)(w:World)(e:Ending)(w':World):Prop:=
 Below h w w'∧Kp w w'∧e= .returned (.tuple #[.int .i64 ((parAt l r).1:Int), .int .i64 (parAt l r).2])∧((parAt l r).2=0→∃a p,r= .ok a p∧ok2 a w')
theorem run_build_parser (A:Option Addr)(n c:Nat)(z:Int)(w:World):(Instr.build 92 #[(0, .slice A n c),(4, .int .i64 z)]).run Tryz.prog w= .ok (.agg #[.slice A n c, .int .i64 0, .int .i64 0, .bool false, .int .i64 z]) w:=by
 have hu:=Tryz.underlying92
 go_simp
theorem run_field_Word (a b c:Int)(s:ByteArray)(w:World):(Instr.field 95 (.agg #[.int .i64 a, .string s, .int .i64 b, .int .i64 c]) 3).run Tryz.prog w= .ok (.int .i64 c) w:=by kernel_rfl
theorem zero__parse_parser:zeroIs Tryz.prog 60=some (some (.pointer none)):=by kernel_rfl
theorem parsed_any {α:Type}(l:List Nat)(hl:∀x∈l,x<256)(hlen:l.length≤9223372036854775807)(f:Nat)(cp:List Value)(h:Nat)(r:Rs α)(okv:World→α→World→Prop)(ok2:α→World→Prop)(w:World)(hh:h≤w.heap.size)(eg:∀args w,(callFunc f args).run Tryz.prog w= .ok (.enter f args) w)
  (hne:r≠ .out)
  (hok:∀a W0 W W' g,okv W0 a W→w.heap.size≤g→g<W0.heap.size→W0.heap.size≤W.heap.size→W.heap.size≤W'.heap.size→(∀k,k<W.heap.size→k≠g→W'.heap[k]? =W.heap[k]?)→ok2 a W')
  (hc:∀K:Ctx,K.Ok→K.ws=(lexAll l).1→(lexAll l).2=none→w.heap.size≤K.g→(∀ad,K.A=some ad→w.heap.size≤ad.block)→∀W,Below w.heap.size w W→PW K W 0 0 false→Calls Tryz.prog f ([]++[Value.pointer (some ⟨K.g,0,none⟩)]++cp).toArray W (PRk K h W r (okv W))):
  Calls Tryz.prog 22 #[.string (strOf l), .func (.func f) #[] cp.toArray] w (ParR l r ok2 h w):=by
 have bel:=Below.refl w.heap.size w
 refine Zs 40 Tryz.func22 ?_
 refine Zsr ?_
 refine Seq.box rfl rfl rfl rfl rfl ?_
 intro g3 w1 n3
 have e3:=Nat.le_trans bel.size n3.ge
 replace bel:=bel.step n3.below
 have k3:=n3.blk
 refine Za ?_
 refine Za ?_
 refine Zk5 0 1 3 4 5 (Ztq ?_)
 refine Zm ?_
 refine Zc (Ze Tryz.func46) (words_any l _ hl hlen) ?_
 rintro e wv ⟨hb2,⟨h1,rfl⟩|⟨h1,p,h2,rfl⟩|⟨h4,h2,v,rfl,own⟩⟩
 ·have hpa:parAt l r=(0,4):=by unfold parAt;rw[if_pos h1]
  refine⟨_,rfl,?_⟩
  replace bel:=bel.step hb2
  replace k3:=k3.step hb2
  refine Zm ?_
  refine Zv (Runs.extract rfl rfl rfl) ?_
  refine Zv (Runs.extract rfl rfl rfl) ?_
  refine Zv (Runs.extract rfl rfl rfl) ?_
  refine Za ?_
  refine Za ?_
  refine Za ?_
  refine Zk8 0 1 3 4 5 6 7 8 (Zts (Zsr ?_))
  refine Zm ?_
  refine Zv (Runs.neqI rfl rfl rfl) ?_
  refine Zk9 0 1 3 4 5 6 7 8 18 (Zt ?_)
  refine Cd.condT rfl (by simp) ?_
  refine Zsr ?_
  refine Zm ?_
  refine Zm ?_
  refine Za ?_
  refine Za ?_
  refine Zk9 0 1 3 4 5 6 7 8 18 (Zt (Cd.ret (Post.then_ret ?_)))
  refine Post.end2 rfl rfl rfl (.inl rfl) ?_
  unfold ParR
  rw[hpa]
  exact⟨bel.mono hh,(Kp.refl w).step bel,rfl,fun h=>by cases h⟩
 ·have hpa:parAt l r=(p,11):=by unfold parAt;rw[if_neg (by omega),h2]
  refine⟨_,rfl,?_⟩
  replace bel:=bel.step hb2
  replace k3:=k3.step hb2
  refine Zm ?_
  refine Zv (Runs.extract rfl rfl rfl) ?_
  refine Zv (Runs.extract rfl rfl rfl) ?_
  refine Zv (Runs.extract rfl rfl rfl) ?_
  refine Za ?_
  refine Za ?_
  refine Za ?_
  refine Zk8 0 1 3 4 5 6 7 8 (Zts (Zsr ?_))
  refine Zm ?_
  refine Zv (Runs.neqI rfl rfl rfl) ?_
  refine Zk9 0 1 3 4 5 6 7 8 18 (Zt ?_)
  refine Cd.condT rfl (by simp) ?_
  refine Zsr ?_
  refine Zm ?_
  refine Zm ?_
  refine Za ?_
  refine Za ?_
  refine Zk9 0 1 3 4 5 6 7 8 18 (Zt (Cd.ret (Post.then_ret ?_)))
  refine Post.end2 rfl rfl rfl (.inl rfl) ?_
  unfold ParR
  rw[hpa]
  exact⟨bel.mono hh,(Kp.refl w).step bel,rfl,fun h=>by cases h⟩
 obtain⟨A,cap,rfl,hrd⟩:=own.reads
 refine⟨_,rfl,?_⟩
 replace bel:=bel.step hb2
 replace k3:=k3.step hb2
 refine Zm ?_
 refine Zv (Runs.extract rfl rfl rfl) ?_
 refine Zv (Runs.extract rfl rfl rfl) ?_
 refine Zv (Runs.extract rfl rfl rfl) ?_
 refine Za ?_
 refine Za ?_
 refine Za ?_
 refine Zk8 0 1 3 4 5 6 7 8 (Zts (Zsr ?_))
 refine Zm ?_
 refine Zv (Runs.neqI rfl rfl rfl) ?_
 refine Zk9 0 1 3 4 5 6 7 8 18 (Zt ?_)
 refine Cd.condF rfl (by simp) ?_
 refine Cd.skip (Ztq ?_)
 refine Zm ?_
 refine Zm ?_
 refine Zv (Runs.lenL rfl rfl Tryz.underlying9) ?_
 refine Zv (Runs.build rfl rfl (run_build_parser _ _ _ _ _)) ?_
 refine Seq.box rfl rfl rfl rfl rfl ?_
 intro g25 w2 n25
 have e25:=Nat.le_trans bel.size n25.ge
 have l25:=Nat.lt_of_lt_of_le k3.lt n25.ge
 replace bel:=bel.step n25.below
 replace k3:=k3.step n25.below
 have k25:=n25.blk
 refine Zl zero__parse_parser ?_
 intro g9 w3 n9
 have e9:=Nat.le_trans bel.size n9.ge
 have l9:=Nat.lt_of_lt_of_le k25.lt n9.ge
 replace bel:=bel.step n9.below
 replace k3:=k3.step n9.below
 replace k25:=k25.step n9.below
 have k9:=n9.blk
 refine Zq k9 ?_
 intro w4 pw4
 replace bel:=bel.put k9 pw4 e9
 replace k3:=k3.put pw4 (by omega)
 replace k25:=k25.put pw4 (by omega)
 replace k9:=pw4.blk
 refine Zk10 0 1 3 4 5 6 7 8 9 18 (Zts (Zsr ?_))
 refine Zv (Runs.loadB rfl rfl Tryz.underlying60 rfl k9 rfl) ?_
 refine Zv (Runs.makeFunc (v:= .func (.func 48) #[] #[.pointer (some ⟨g3,0,none⟩), .pointer (some ⟨g9,0,none⟩)]) rfl (show evL _ _=some [] from rfl) (show evL _ _=some [.pointer (some ⟨g3,0,none⟩), .pointer (some ⟨g9,0,none⟩)] from rfl) rfl) ?_
 have hB4:Below wv.heap.size wv w4:=pw4.below_of (n25.below.step n9.below) (Nat.le_trans n25.below.size n9.ge) (by have:=n9.below.size;have:=k9.lt;have:=pw4.size;omega)
 have hKok:=ctx_ok l hl h4 (B:=wv.heap.size) (g:=g25) (c:=cap) (A:=A) n25.ge
 generalize hK:(Ctx.mk wv.heap.size g25 cap l.length A (lexAll l).1)=K at hKok
 have hKg:K.g=g25:=by rw[←hK]
 have hKw:K.ws=(lexAll l).1:=by rw[←hK]
 have hKe:K.en=l.length:=by rw[←hK]
 have pw:PW K w4 0 0 false:=by rw[←hK];exact⟨k25,hrd.below hB4,Nat.zero_le _, .inl (by omega)⟩
 have hKA:∀ad,K.A=some ad→w.heap.size≤ad.block:=fun ad h=>by
  rw[←hK] at h
  have h:A=some ad:=h
  have:=(own.blockLt ad.block (by rw[h];rfl)).1
  have:=n3.below.size
  omega
 subst hKg
 have hrun:=runP_any K hKok 48 [.pointer (some ⟨g3,0,none⟩), .pointer (some ⟨g9,0,none⟩)] h r okv ok2 w4 pw (Nat.le_trans hh bel.size) hne (fun args w=>run_enter Tryz.func48 (by kernel_rfl) rfl args w)
  (fun a W0 W W' g h1 h2 h3 h4 h5 h6=>hok a W0 W W' g h1 (Nat.le_trans bel.size h2) h3 h4 h5 h6)
  (fun W hb hp=>parsedC_any K h f cp g3 g9 r (okv W) W eg (k3.step hb) (k9.step hb) hne (hc K hKok hKw h2 e25 hKA W (bel.step hb) hp))
 refine Zc (Ze Tryz.func47) (hrun) ?_
 rcases Rs.ok_or hne with ⟨q,ov,hr⟩|⟨x,q,hr⟩
 ·rw[hr]
  rintro e w6 ⟨hf,kp,rfl,d6,hp6⟩
  refine⟨_,rfl,?_⟩
  have k9':=kp.blk k9
  have kfin:Kp w w6:=((Kp.refl w).step bel).trans kp
  have bfin:Below h w w6:=(bel.mono hh).trans (hf.below (Nat.le_refl _) (by omega))
  have hw6:=word_any K hKok q d6 ov w6 hp6
  have hpos:(K.at_ q).pos=endPos l q:=by unfold Ctx.at_ endPos;rw[hKw,hKe]
  have k99:=hp6.blk
  clear k9
  have k9:=k9'
  clear bel
  have bel:=Below.refl w6.heap.size w6
  cases ov with
  |true=>
   have hpa:parAt l (Rs.bad (α:=α) q true)=(0,13):=by unfold parAt;rw[if_neg (by omega),h2];rfl
   refine Za ?_
   refine Zk11 0 1 3 4 5 6 7 8 9 10 18 (Zt (Cd.block (Zsr ?_)))
   refine Zv (Runs.loadB rfl rfl Tryz.underlying60 rfl k9 rfl) ?_
   refine Zv (Runs.nilCheck rfl rfl) ?_
   refine Zf 3 Tryz.underlying92 ?_
   refine Zv (Runs.loadB rfl rfl Tryz.underlying4 rfl k99 rfl) ?_
   refine Za ?_
   refine Zk12 0 1 3 4 5 6 7 8 9 10 18 29 (Zt ?_)
   refine Cd.condT rfl rfl ?_
   refine Zsr ?_
   refine Za ?_
   refine Za ?_
   refine Zk12 0 1 3 4 5 6 7 8 9 10 18 29 (Zt (Cd.ret (Post.block_ret (Post.then_ret ?_))))
   refine Post.end2 rfl rfl rfl (.inl rfl) ?_
   unfold ParR
   rw[hpa]
   exact⟨bfin.trans (bel.mono (by have:=bfin.size;omega)),kfin.step bel,rfl,fun h=>by cases h⟩
  |false=>
   have hpa:parAt l (Rs.bad (α:=α) q false)=(endPos l q,11):=by unfold parAt;rw[if_neg (by omega),h2];rfl
   have hwf:=fun W (hb:Below w6.heap.size w6 W)=>word_any K hKok q d6 false W (hp6.step hKok.le hb)
   refine Za ?_
   refine Zk11 0 1 3 4 5 6 7 8 9 10 18 (Zt (Cd.block (Zsr ?_)))
   refine Zv (Runs.loadB rfl rfl Tryz.underlying60 rfl k9 rfl) ?_
   refine Zv (Runs.nilCheck rfl rfl) ?_
   refine Zf 3 Tryz.underlying92 ?_
   refine Zv (Runs.loadB rfl rfl Tryz.underlying4 rfl k99 rfl) ?_
   refine Za ?_
   refine Zk12 0 1 3 4 5 6 7 8 9 10 18 29 (Zt ?_)
   refine Cd.condF rfl rfl ?_
   refine Zsr ?_
   refine Zm ?_
   refine Zv (Runs.not rfl rfl) ?_
   refine Za ?_
   refine Zk13 0 1 3 4 5 6 7 8 9 10 18 29 34 (Zt ?_)
   refine Cd.condT rfl rfl ?_
   refine Zsr ?_
   refine Zv (Runs.loadB rfl rfl Tryz.underlying60 rfl k9 rfl) ?_
   refine Zc (Ze Tryz.func49) (hwf _ bel) ?_
   rintro e w7 ⟨rfl,hb7⟩
   refine⟨_,rfl,?_⟩
   replace bel:=bel.step hb7
   replace k9:=k9.step hb7
   replace k99:=k99.step hb7
   refine Zv (Runs.field rfl rfl (run_field_Word _ _ _ _ _)) ?_
   refine Za ?_
   refine Za ?_
   refine Zk13 0 1 3 4 5 6 7 8 9 10 18 29 34 (Zt (Cd.ret (Post.block_ret (Post.then_ret ?_))))
   refine Post.end2 rfl rfl rfl (.inl rfl) ?_
   unfold ParR
   rw[hpa]
   refine⟨bfin.trans (bel.mono (by have:=bfin.size;omega)),kfin.step bel,?_,fun h=>by cases h⟩
   rw[←hpos]
 ·rw[hr]
  rintro e w6 ⟨hf,kp,rfl,⟨d6,hp6⟩,hov⟩
  refine⟨_,rfl,?_⟩
  have k9':=kp.blk k9
  have kfin:Kp w w6:=((Kp.refl w).step bel).trans kp
  have bfin:Below h w w6:=(bel.mono hh).trans (hf.below (Nat.le_refl _) (by omega))
  have hpos:(K.at_ q).pos=endPos l q:=by unfold Ctx.at_ endPos;rw[hKw,hKe]
  have k99:=hp6.blk
  clear k9
  have k9:=k9'
  clear bel
  have bel:=Below.refl w6.heap.size w6
  rw[hKw] at *
  refine Za ?_
  refine Zk11 0 1 3 4 5 6 7 8 9 10 18 (Zt (Cd.block (Zsr ?_)))
  refine Zv (Runs.loadB rfl rfl Tryz.underlying60 rfl k9 rfl) ?_
  refine Zv (Runs.nilCheck rfl rfl) ?_
  refine Zf 3 Tryz.underlying92 ?_
  refine Zv (Runs.loadB rfl rfl Tryz.underlying4 rfl k99 rfl) ?_
  refine Za ?_
  refine Zk12 0 1 3 4 5 6 7 8 9 10 18 29 (Zt ?_)
  refine Cd.condF rfl rfl ?_
  refine Zsr ?_
  refine Zm ?_
  refine Zv (Runs.not rfl rfl) ?_
  refine Za ?_
  refine Zk13 0 1 3 4 5 6 7 8 9 10 18 29 34 (Zt ?_)
  refine Cd.cond rfl (fun h=> ?_) (fun h=> ?_)
  ·have hq:q≠(lexAll l).1.length:=by simpa using h
   have hpa:parAt l (Rs.ok x q)=(endPos l q,11):=by unfold parAt;rw[if_neg (by omega),h2];exact if_neg hq
   have hwf:=fun W (hb:Below w6.heap.size w6 W)=>word_any K hKok q d6 false W (hp6.step hKok.le hb)
   refine Zsr ?_
   refine Zv (Runs.loadB rfl rfl Tryz.underlying60 rfl k9 rfl) ?_
   refine Zc (Ze Tryz.func49) (hwf _ bel) ?_
   rintro e w7 ⟨rfl,hb7⟩
   refine⟨_,rfl,?_⟩
   replace bel:=bel.step hb7
   replace k9:=k9.step hb7
   replace k99:=k99.step hb7
   refine Zv (Runs.field rfl rfl (run_field_Word _ _ _ _ _)) ?_
   refine Za ?_
   refine Za ?_
   refine Zk13 0 1 3 4 5 6 7 8 9 10 18 29 34 (Zt (Cd.ret (Post.block_ret (Post.then_ret ?_))))
   refine Post.end2 rfl rfl rfl (.inl rfl) ?_
   unfold ParR
   rw[hpa]
   refine⟨bfin.trans (bel.mono (by have:=bfin.size;omega)),kfin.step bel,?_,fun h=>by cases h⟩
   rw[←hpos]
  ·have hq:q=(lexAll l).1.length:=by simpa using h
   have hpa:parAt l (Rs.ok x q)=(0,0):=by unfold parAt;rw[if_neg (by omega),h2];exact if_pos hq
   refine Cd.skip (Post.block_normal (Ztq ?_))
   refine Za ?_
   refine Za ?_
   refine Zk13 0 1 3 4 5 6 7 8 9 10 18 29 34 (Zt (Cd.ret ?_))
   refine Post.end2 rfl rfl rfl (.inl rfl) ?_
   unfold ParR
   rw[hpa]
   exact⟨bfin.trans (bel.mono (by have:=bfin.size;omega)),kfin.step bel,rfl,fun _=>⟨x,q,rfl,hov⟩⟩
end Go.Proofs.YtaamkfajnpobfaaGreat
namespace Go.Proofs.YtaamkfajnpobfaaGreat
open Go.RowKit
def InT (gt:Nat)(W0:World)(x:Tm)(W:World):Prop:=∃(S:Nat→Prop) (v:Value),Blk W gt 25 v.cells∧RepT W S x v∧∀b,S b→W0.heap.size≤b∧b<W.heap.size
end Go.Proofs.YtaamkfajnpobfaaGreat
namespace Go.Proofs.YtaamkfajnpobfaaGreat
open Go.RowKit
theorem rightExpr_all (e:Ex)(B:Nat)(v:Value)(w:World)(hrep:Rep w B e v)(hB:B≤w.heap.size):Calls Tryz.prog 32 #[v] w fun en w'=>en= .returned (.bool (decide (e.nodes≤200)&&decide (e.depth≤16)&&builtB e))∧Grow w w':=by
 have hs:=fun W (hb:Below w.heap.size w W)=>sizeExpr_all e.nodes e 0 B v W (Nat.le_refl _) (by omega) (hrep.below (hb.mono hB)) (Nat.le_trans hB hb.size)
 have hbt:=fun W (hb:Below w.heap.size w W)=>builtExpr_any e.nodes e B v W (Nat.le_refl _) (hrep.below (hb.mono hB)) (Nat.le_trans hB hb.size)
 have hc:=szF_cnt e
 have hdn:=e.depth_nodes
 have hsz:=szF_Sz e 0
 have hres:(decide (e.nodes≤200)&&decide (e.depth≤16))=(decide ((szF e 0).1≤200)&&decide ((szF e 0).2≤16)):=by
  obtain⟨c1,c2⟩:=hc
  rw[Bool.eq_iff_iff]
  simp only[Bool.and_eq_true,decide_eq_true_eq]
  constructor
  ·rintro⟨h1,h2⟩
   rw[c2 (by omega)]
   omega
  ·rintro⟨h1,h2⟩
   have h3:e.nodes≤200:=by omega
   rw[c2 (by omega)] at h2
   omega
 rw[hres]
 obtain⟨A,c,rfl,-⟩:=hrep.open
 have bel:=Below.refl w.heap.size w
 generalize (szF e 0)=s at *
 refine Zs 10 Tryz.func32 ?_
 refine Zsr ?_
 refine Seq.box rfl rfl rfl rfl rfl ?_
 intro g1 w1 n1
 have e1:=Nat.le_trans bel.size n1.ge
 replace bel:=bel.step n1.below
 have k1:=n1.blk
 refine Za ?_
 refine Zk3 0 1 2 (Ztq ?_)
 refine Zv (Runs.loadW rfl rfl Tryz.underlying35 rfl k1 (m:=4) (by kernel_rfl) rfl) ?_
 refine Zc (Ze Tryz.func73) (hs _ bel) ?_
 rintro en w5 ⟨rfl,hb5⟩
 refine⟨_,rfl,?_⟩
 replace bel:=bel.step hb5
 replace k1:=k1.step hb5
 refine Zc (Ze Tryz.func58) (szSmall_any s.1 s.2 _) ?_
 rintro en w6 ⟨rfl,hb6⟩
 refine⟨_,rfl,?_⟩
 replace bel:=bel.step hb6
 replace k1:=k1.step hb6
 refine Zm ?_
 refine SeqC.start ?_
 refine Zco (fun hcx=>Runs.loadW rfl rfl Tryz.underlying35 rfl k1 (m:=4) (by kernel_rfl) rfl) ?_
 refine SeqC.nextC rfl rfl rfl rfl rfl rfl rfl (fun hcx=>Ze Tryz.func74) (fun hcx=>hbt _ bel) ?_
 intro w2 hw2
 replace bel:=bel.step hw2
 replace k1:=k1.step hw2
 refine SeqC.and rfl rfl rfl rfl rfl rfl rfl ?_
 refine Za ?_
 refine Zk3 0 1 2 (Zt (Cd.ret ?_))
 refine Post.end1 rfl rfl (.inl rfl) ?_
 exact⟨ret1 (bool_eq (by cases (decide (s.1≤200)&&decide (s.2≤16))<;>rfl)),bel⟩
end Go.Proofs.YtaamkfajnpobfaaGreat
namespace Go.Proofs.YtaamkfajnpobfaaGreat
section
variable {α β:Type}
def Mono (f:Nat→Nat→Rs α):Prop:=∀p d a q,f p d= .ok a q→p<q
def Def (f:Nat→Nat→Rs α)(m:Nat):Prop:=∀p d,m≤p→f p d≠ .out
theorem Def.up {f:Nat→Nat→Rs α}{m m':Nat}(h:Def f m)(hm:m≤m'):Def f m':=fun p d hp=>h p d (by omega)
theorem Rs.bind_eq_ok {r:Rs α}{f:α→Nat→Rs β}{b:β}{q:Nat}(h:r.bind f= .ok b q):∃a p,r= .ok a p∧f a p= .ok b q:=by
 cases r with
 |out=>cases h
 |bad p o=>cases h
 |ok a p=>exact⟨a,p,rfl,h⟩
theorem Rs.bind_ne_out {r:Rs α}{f:α→Nat→Rs β}(h:r≠ .out)(hf:∀a p,r= .ok a p→f a p≠ .out):r.bind f≠ .out:=by
 cases r with
 |out=>exact absurd rfl h
 |bad p o=>exact fun h=>by cases h
 |ok a p=>exact hf a p rfl
theorem signQ_ok {ws:List Wd}{s:List Nat}{p q:Nat}{u:Unit}(h:signQ ws s p= .ok u q):q=p+1∧isS ws p s=true:=by
 unfold signQ at h
 split at h
 ·rename_i hs
  injection h with _ h
  exact⟨h.symm,hs⟩
 ·cases h
theorem signQ_def (ws:List Wd)(s:List Nat)(p:Nat):signQ ws s p≠ .out:=by
 unfold signQ
 split<;>exact fun h=>by cases h
theorem enterP_ok {p d q:Nat}{u:Unit}(h:enterP p d= .ok u q):q=p∧d<64:=by
 unfold enterP at h
 split at h
 ·cases h
 ·injection h with _ h
  exact⟨h.symm,by omega⟩
theorem enterP_def (p d:Nat):enterP p d≠ .out:=by
 unfold enterP
 split<;>exact fun h=>by cases h
theorem partsP_mono (ws:List Wd):∀(ones:List (Nat→Nat→Rs α)),(∀f∈ones,Mono f)→∀first p d xs q,partsP ws ones first p d= .ok xs q→p≤q
 | [],_,first,p,d,xs,q,h=>by injection h with _ h;omega
 |f::r,hm,first,p,d,xs,q,h=>by
  rw[partsP] at h
  obtain⟨u,p1,h1,h⟩:=Rs.bind_eq_ok h
  obtain⟨x,p2,h2,h⟩:=Rs.bind_eq_ok h
  obtain⟨ys,p3,h3,h⟩:=Rs.bind_eq_ok h
  injection h with _ h
  have e1:p≤p1:=by
   split at h1
   ·injection h1 with _ h1;omega
   ·have:=(signQ_ok h1).1;omega
  have e2:=hm f (by simp) _ _ _ _ h2
  have e3:=partsP_mono ws r (fun g hg=>hm g (by simp[hg])) _ _ _ _ _ h3
  omega
theorem partsP_def (ws:List Wd)(m:Nat):∀(ones:List (Nat→Nat→Rs α)),(∀f∈ones,Mono f∧Def f m)→∀first p d,m≤p→partsP ws ones first p d≠ .out
 | [],_,first,p,d,_=>fun h=>by cases h
 |f::r,hm,first,p,d,hp=>by
  rw[partsP]
  refine Rs.bind_ne_out ?_ fun u p1 h1=> ?_
  ·split
   ·exact fun h=>by cases h
   ·exact signQ_def _ _ _
  have e1:p≤p1:=by
   split at h1
   ·injection h1 with _ h1;omega
   ·have:=(signQ_ok h1).1;omega
  refine Rs.bind_ne_out ((hm f (by simp)).2 _ _ (by omega)) fun x p2 h2=> ?_
  have e2:=(hm f (by simp)).1 _ _ _ _ h2
  refine Rs.bind_ne_out (partsP_def ws m r (fun g hg=>hm g (by simp[hg])) _ _ _ (by omega)) fun ys p3 h3=> ?_
  exact fun h=>by cases h
theorem withinP_mono (ws:List Wd)(ones:List (Nat→Nat→Rs α))(hm:∀f∈ones,Mono f){p d:Nat}{xs:List α}{q:Nat}(h:withinP ws ones p d= .ok xs q):p+2≤q:=by
 unfold withinP at h
 obtain⟨u,p1,h1,h⟩:=Rs.bind_eq_ok h
 obtain⟨u2,p2,h2,h⟩:=Rs.bind_eq_ok h
 obtain⟨ys,p3,h3,h⟩:=Rs.bind_eq_ok h
 obtain⟨u3,p4,h4,h⟩:=Rs.bind_eq_ok h
 injection h with _ h
 have:=(signQ_ok h1).1
 have:=(enterP_ok h2).1
 have:=partsP_mono ws ones hm _ _ _ _ _ h3
 have:=(signQ_ok h4).1
 omega
theorem withinP_def (ws:List Wd)(ones:List (Nat→Nat→Rs α)){p:Nat}(d:Nat)(hm:∀f∈ones,Mono f∧Def f (p+1)):withinP ws ones p d≠ .out:=by
 unfold withinP
 refine Rs.bind_ne_out (signQ_def _ _ _) fun u p1 h1=> ?_
 refine Rs.bind_ne_out (enterP_def _ _) fun u2 p2 h2=> ?_
 have:=(signQ_ok h1).1
 have:=(enterP_ok h2).1
 refine Rs.bind_ne_out (partsP_def ws (p+1) ones hm _ _ _ (by omega)) fun xs p3 h3=> ?_
 refine Rs.bind_ne_out (signQ_def _ _ _) fun u3 p4 h4=> ?_
 exact fun h=>by cases h
theorem nameP_eq {ws:List Wd}{p q:Nat}{x:List Nat}(h:nameP ws p= .ok x q):q=p+1∧x=(wAt ws p).text∧(wAt ws p).kind=3∧reservedB (wAt ws p).text=false:=by
 unfold nameP at h
 split at h
 ·rename_i hs
  injection h with h1 h
  exact⟨h.symm,h1.symm,hs.1,hs.2⟩
 ·cases h
theorem nameP_def (ws:List Wd)(p:Nat):nameP ws p≠ .out:=by
 unfold nameP
 split<;>exact fun h=>by cases h
theorem calledP_mono {ws:List Wd}{E0:Nat→Nat→Rs Ex}(hE:Mono E0){op:Int}{k p d:Nat}{x:Ex}{q:Nat}(h:calledP ws E0 op k p d= .ok x q):p<q:=by
 unfold calledP at h
 obtain⟨xs,p1,h1,h⟩:=Rs.bind_eq_ok h
 injection h with _ h
 have:=withinP_mono ws _ (fun f hf=>(List.mem_replicate.1 hf).2▸hE) h1
 omega
theorem calledP_def {ws:List Wd}{E0:Nat→Nat→Rs Ex}(hE:Mono E0){op:Int}{k p d:Nat}(hd:Def E0 (p+1)):calledP ws E0 op k p d≠ .out:=by
 unfold calledP
 refine Rs.bind_ne_out (withinP_def ws _ d fun f hf=>(List.mem_replicate.1 hf).2▸⟨hE,hd.up (by omega)⟩) fun xs p1 h1=> ?_
 exact fun h=>by cases h
theorem atomP_mono {ws:List Wd}{E0:Nat→Nat→Rs Ex}(hE:Mono E0):Mono (atomP ws E0):=by
 intro p d x q h
 unfold atomP at h
 repeat' split at h
 all_goals first
  |exact calledP_mono hE h
  |(injection h with _ h;omega)
  |(obtain⟨nm,p1,h1,h⟩:=Rs.bind_eq_ok h;injection h with _ h;have:=(nameP_eq h1).1;omega)
  |(obtain⟨xs,p1,h1,h⟩:=Rs.bind_eq_ok h;injection h with _ h;have:=withinP_mono ws _ (fun f hf=>(List.mem_singleton.1 hf)▸hE) h1;omega)
  |cases h
theorem atomP_def {ws:List Wd}{E0:Nat→Nat→Rs Ex}(hE:Mono E0){p d:Nat}(hd:Def E0 (p+1)):atomP ws E0 p d≠ .out:=by
 unfold atomP
 repeat' split
 all_goals first
  |exact calledP_def hE hd
  |exact fun h=>by cases h
  |exact Rs.bind_ne_out (nameP_def _ _) fun nm p1 h1=>fun h=>by cases h
  |exact Rs.bind_ne_out (withinP_def ws _ d fun f hf=>(List.mem_singleton.1 hf)▸⟨hE,hd⟩) fun xs p1 h1=>fun h=>by cases h
theorem aheadP_mono {S:Nat→Nat→Rs Ex}(hS:Mono S)(op:Int):Mono (aheadP S op):=by
 intro p d x q h
 unfold aheadP at h
 obtain⟨u,p1,h1,h⟩:=Rs.bind_eq_ok h
 obtain⟨y,p2,h2,h⟩:=Rs.bind_eq_ok h
 injection h with _ h
 have:=(enterP_ok h1).1
 have:=hS _ _ _ _ h2
 omega
theorem aheadP_def {S:Nat→Nat→Rs Ex}(op:Int){p d:Nat}(hS:Def S (p+1)):aheadP S op p d≠ .out:=by
 unfold aheadP
 refine Rs.bind_ne_out (enterP_def _ _) fun u p1 h1=> ?_
 have:=(enterP_ok h1).1
 exact Rs.bind_ne_out (hS _ _ (by omega)) fun y p2 h2=>fun h=>by cases h
theorem unaryP_mono {ws:List Wd}{S E0:Nat→Nat→Rs Ex}(hS:Mono S)(hE:Mono E0):Mono (unaryP ws S E0):=by
 intro p d x q h
 unfold unaryP at h
 split at h
 ·exact aheadP_mono hS _ _ _ _ _ h
 ·split at h
  ·exact aheadP_mono hS _ _ _ _ _ h
  ·exact atomP_mono hE _ _ _ _ h
theorem unaryP_def {ws:List Wd}{S E0:Nat→Nat→Rs Ex}(hE:Mono E0){p d:Nat}(hS:Def S (p+1))(hd:Def E0 (p+1)):unaryP ws S E0 p d≠ .out:=by
 unfold unaryP
 split
 ·exact aheadP_def _ hS
 ·split
  ·exact aheadP_def _ hS
  ·exact atomP_def hE hd
end
structure PMono (f:PF):Prop where
 E:∀lvl,Mono (f.E lvl)
 L:∀lvl x p d a q,f.L lvl x p d= .ok a q→p≤q
 S:Mono f.S
theorem loopP_mono {ws:List Wd}{f:PF}(h:PMono f){lvl:Nat}{x:Ex}{p d:Nat}{a:Ex}{q:Nat}(hl:loopP ws f lvl x p d= .ok a q):p≤q:=by
 unfold loopP at hl
 cases ho:opAt ws lvl p with
 |none=>rw[ho] at hl;injection hl with _ hl;omega
 |some op=>
  rw[ho] at hl
  obtain⟨r,p1,h1,hl⟩:=Rs.bind_eq_ok hl
  have:=h.E _ _ _ _ _ h1
  split at hl
  ·injection hl with _ hl;omega
  ·have:=h.L _ _ _ _ _ _ hl;omega
theorem levN_mono {L:Nat→Ex→Nat→Nat→Rs Ex}{S:Nat→Nat→Rs Ex}(hL:∀lvl x p d a q,L lvl x p d= .ok a q→p≤q)(hS:Mono S):∀j,Mono (levN L S j)
 |0=>hS
 |j+1=>fun p d a q h=>by
  rw[levN] at h
  obtain⟨x,p1,h1,h⟩:=Rs.bind_eq_ok h
  have:=levN_mono hL hS j _ _ _ _ h1
  have:=hL _ _ _ _ _ _ h
  omega
theorem fuelP_mono (ws:List Wd):∀n,PMono (fuelP ws n)
 |0=>⟨fun _ _ _ _ _ h=>(by cases h),fun _ _ _ _ _ _ h=>(by cases h),fun _ _ _ _ h=>(by cases h)⟩
 |n+1=>by
  have ih:=fuelP_mono ws n
  have hL:∀lvl x p d a q,loopP ws (fuelP ws n) lvl x p d= .ok a q→p≤q:=fun lvl x p d a q h=>loopP_mono ih h
  have hS:=unaryP_mono (ws:=ws) ih.S (ih.E 0)
  exact⟨fun lvl=>levN_mono hL hS _,hL,hS⟩
theorem opAt_lt {ws:List Wd}{lvl p:Nat}{op:Int}(h:opAt ws lvl p=some op):p<ws.length:=by
 rcases Nat.lt_or_ge p ws.length with h1|h1
 ·exact h1
 ·unfold opAt wAt at h
  rw[List.getD_eq_getElem?_getD,List.getElem?_eq_none h1] at h
  simp at h
structure PDef (f:PF)(m:Nat):Prop where
 E:∀lvl,Def (f.E lvl) m
 L:∀lvl x p d,m≤p→f.L lvl x p d≠ .out
 S:Def f.S m
theorem loopP_def {ws:List Wd}{f:PF}(hm:PMono f){m:Nat}(h:PDef f (m+1)){lvl:Nat}{x:Ex}{p d:Nat}(hp:m≤p):loopP ws f lvl x p d≠ .out:=by
 unfold loopP
 cases ho:opAt ws lvl p with
 |none=>exact fun h=>by cases h
 |some op=>
  refine Rs.bind_ne_out (h.E _ _ _ (by omega)) fun r p1 h1=> ?_
  have:=hm.E _ _ _ _ _ h1
  split
  ·exact fun h=>by cases h
  ·exact h.L _ _ _ _ (by omega)
theorem levN_def {L:Nat→Ex→Nat→Nat→Rs Ex}{S:Nat→Nat→Rs Ex}{m:Nat}(hLm:∀lvl x p d a q,L lvl x p d= .ok a q→p≤q)(hSm:Mono S)(hL:∀lvl x p d,m≤p→L lvl x p d≠ .out)(hS:Def S m):∀j,Def (levN L S j) m
 |0=>hS
 |j+1=>fun p d hp=>by
  rw[levN]
  refine Rs.bind_ne_out (levN_def hLm hSm hL hS j _ _ hp) fun x p1 h1=> ?_
  have:=levN_mono hLm hSm j _ _ _ _ h1
  exact hL _ _ _ _ (by omega)
theorem wAt_end {ws:List Wd}{p:Nat}(h:ws.length≤p):wAt ws p=⟨-1,[],0,0⟩:=by
 unfold wAt
 rw[List.getD_eq_getElem?_getD,List.getElem?_eq_none h]
 rfl
theorem unaryP_end {ws:List Wd}{p:Nat}(h:ws.length≤p)(S E0:Nat→Nat→Rs Ex)(d:Nat):unaryP ws S E0 p d= .bad p false:=by
 unfold unaryP isS atomP
 rw[wAt_end h]
 rfl
theorem loopP_end {ws:List Wd}{p:Nat}(h:ws.length≤p)(f:PF)(lvl:Nat)(x:Ex)(d:Nat):loopP ws f lvl x p d= .ok x p:=by
 unfold loopP
 cases ho:opAt ws lvl p with
 |none=>rfl
 |some op=>have:=opAt_lt ho;omega
theorem fuelP_def (ws:List Wd):∀n m,ws.length<n+1+m→PDef (fuelP ws (n+1)) m
 |0,m,h=>by
  have im:=fuelP_mono ws 0
  have hLm:∀lvl x p d a q,loopP ws (fuelP ws 0) lvl x p d= .ok a q→p≤q:=fun lvl x p d a q h=>loopP_mono im h
  have hSm:=unaryP_mono (ws:=ws) im.S (im.E 0)
  have hL:∀lvl x p d,m≤p→loopP ws (fuelP ws 0) lvl x p d≠ .out:=fun lvl x p d hp=>by rw[loopP_end (by omega)];exact fun h=>by cases h
  have hS:Def (unaryP ws (fuelP ws 0).S ((fuelP ws 0).E 0)) m:=fun p d hp=>by rw[unaryP_end (by omega)];exact fun h=>by cases h
  exact⟨fun lvl=>levN_def hLm hSm hL hS _,hL,hS⟩
 |n+1,m,h=>by
  have ih:=fuelP_def ws n (m+1) (by omega)
  have im:=fuelP_mono ws (n+1)
  have hLm:∀lvl x p d a q,loopP ws (fuelP ws (n+1)) lvl x p d= .ok a q→p≤q:=fun lvl x p d a q h=>loopP_mono im h
  have hSm:=unaryP_mono (ws:=ws) im.S (im.E 0)
  have hL:∀lvl x p d,m≤p→loopP ws (fuelP ws (n+1)) lvl x p d≠ .out:=fun lvl x p d hp=>loopP_def im ih hp
  have hS:Def (unaryP ws (fuelP ws (n+1)).S ((fuelP ws (n+1)).E 0)) m:=fun p d hp=>unaryP_def (im.E 0) (ih.S.up (by omega)) ((ih.E 0).up (by omega))
  exact⟨fun lvl=>levN_def hLm hSm hL hS _,hL,hS⟩
def exprQ (ws:List Wd):Rs Ex:=(fuelP ws (ws.length+1)).E 0 0 0
def termQ (ws:List Wd):Rs Tm:=fuelT ws (ws.length+1) 0 0
theorem exprQ_ne (ws:List Wd):exprQ ws≠ .out:=(fuelP_def ws ws.length 0 (by omega)).E 0 0 0 (Nat.le_refl _)
end Go.Proofs.YtaamkfajnpobfaaGreat
namespace Go.Proofs.YtaamkfajnpobfaaGreat
open Go.RowKit
section
variable {P:Program} {n:Nat} {F:List (Nat × Value)} {w:World} {v v':Value}
theorem Post.endC3 {fn:Func}{R:Ending→World→Prop}{e:Exit}{p q s g:Nat}{ty t:TypeId}{cs:Array Value}{dsc:TypeDesc}(hr:fn.results= #[.cell p ty, .tmp q, .tmp s]) (hl:look F p=some (.pointer (some ⟨g,0,none⟩))) (hq:look F q=some v) (hq':look F s=some v') (hb:Blk w g t cs) (hu:P.underlying ty=some dsc)
  (hd:(match dsc with| .struct _| .array _ _=>true|_=>false)=true) {m:Nat} (hs:sizeIs P ty m=true) (hm:cs.size=m) (he:e= .ret∨e= .normal) (h:R (.returned (.tuple #[.agg cs,v,v'])) w):Post (bodyPost P fn R) e n F w:=by
 refine Post.end_ (fun a ha=> ?_) he h
 ·have hp':a.tmps[p]?.getD undef= .pointer (some ⟨g,0,none⟩):=by simp[ha.slot p _ hl]
  have e:=run_loadVar_row (P:=P) w g t ty cs (0,0) dsc hb hu (by cases dsc<;>first|rfl|(simp at hd)) (by obtain⟨inf,hi,hsz⟩:=sizeIs_spec hs;rw[hi,hm,←hsz];rfl)
  simp[results,hr,hp',asAddr,e,ha.slot q _ hq,ha.slot s _ hq']
end
def zeroTm:Tm:= .mk 0 [] [] []
def zeroEx:Ex:= .mk 0 0 [] []
theorem RepT.zero (W:World)(S:Nat→Prop):RepT W S zeroTm (.agg #[.int .i64 0, .string (strOf []), .slice none 0 0, .slice none 0 0]):=
 .mk (vs:=[]) (us:=[]) rfl rfl (by simp) (by simp) (by unfold I64;decide) (by simp) (by simp) (fun i e v h=>by simp at h) (fun i e v h=>by simp at h) (fun h=>absurd rfl h) (fun h=>absurd rfl h)
theorem RepE.zero (W:World)(S:Nat→Prop):RepE W S zeroEx (.agg #[.int .i64 0, .int .i64 0, .string (strOf []), .slice none 0 0]):=
 .mk (vs:=[]) rfl (by simp) (by unfold I64;decide) (by unfold I64;decide) (by simp) (by simp) (fun i e v h=>by simp at h) (fun h=>absurd rfl h)
def parseT (l:List Nat):Tm × Nat × Int:=if(parAt l (termQ (lexAll l).1)).2≠0 then(zeroTm,(parAt l (termQ (lexAll l).1)).1,(parAt l (termQ (lexAll l).1)).2) else match termQ (lexAll l).1 with
 | .ok x _=>if rightT x=true then(x,0,0) else(zeroTm,0,13)
 |_=>(zeroTm,0,0)
theorem parAt_zero {α:Type}{l:List Nat}{r:Rs α}(h:(parAt l r).2=0):(parAt l r).1=0:=by
 unfold parAt at h⊢
 by_cases h4:4000<l.length
 ·rw[if_pos h4]
 ·rw[if_neg h4] at h⊢
  cases h2:(lexAll l).2 with
  |some p=>rw[h2] at h;cases h
  |none=>
   rw[h2] at h
   cases r with
   |out=>rfl
   |bad p ov=>cases ov<;>cases h
   |ok a p=>
    dsimp only at h⊢
    split at h
    ·rename_i h3;rw[if_pos h3]
    ·cases h
theorem InT.kept {gt:Nat}{w W0 W W':World}{a:Tm}{g:Nat}(h:InT gt W0 a W)(hgt:gt<w.heap.size)(h2:w.heap.size≤g)(h3:g<W0.heap.size)(h4:W0.heap.size≤W.heap.size)(h5:W.heap.size≤W'.heap.size)(h6:∀k,k<W.heap.size→k≠g→W'.heap[k]? =W.heap[k]?):InT gt w a W':=by
 obtain⟨S,v,h7,h8,h9⟩:=h
 refine⟨S,v,?_,h8.mono (fun _ h=>h) (fun p hp=>World.cell?_of_block (h6 _ (h9 _ hp).2 (by have:=(h9 _ hp).1;omega))),fun b hb=>⟨by have:=(h9 b hb).1;omega,by have:=(h9 b hb).2;omega⟩⟩
 unfold Blk at h7⊢
 rw[h6 gt (by omega) (by omega)]
 exact h7
theorem run_build_E0 (w:World):(Instr.build 35 #[]).run Tryz.prog w= .ok (.agg #[.int .i64 0, .int .i64 0, .string (strOf []), .slice none 0 0]) w:=by kernel_rfl
end Go.Proofs.YtaamkfajnpobfaaGreat
namespace Go.Proofs.YtaamkfajnpobfaaGreat
open Go.RowKit
def InE (gt:Nat)(W0:World)(x:Ex)(W:World):Prop:=∃(S:Nat→Prop) (v:Value),Blk W gt 35 v.cells∧RepE W S x v∧∀b,S b→W0.heap.size≤b∧b<W.heap.size
theorem parseXC_any (K:Ctx)(hK:K.Ok)(n gt h:Nat)(W:World)(pw:PW K W 0 0 false)(kt:Blk W gt 35 #[.int .i64 0, .int .i64 0, .string {data:= #[]}, .slice none 0 0]) (hg:gt<K.g) (hh:h≤gt) (hKA:∀ad,K.A=some ad→ad.block≠gt) (hne:(fuelP K.ws n).E 0 0 0≠ .out):
  Calls Tryz.prog 30 #[.pointer (some ⟨K.g,0,none⟩), .pointer (some ⟨gt,0,none⟩)] W (PRk K h W ((fuelP K.ws n).E 0 0 0) (InE gt W)):=by
 have hcl:=(has_all K hK n n (Nat.le_refl _)).2 0 (by omega) 0 0 W pw hne
 have hlt:=pw.blk.lt
 have hle:=hK.le
 have bel:=Below.refl W.heap.size W
 refine Zs 5 Tryz.func30 ?_
 refine Zr ?_
 refine Zm ?_
 rcases Rs.ok_or hne with ⟨q,ov,hr⟩|⟨x,q,hr⟩
 ·rw[hr] at hcl⊢
  refine Seq.callB (Ze Tryz.func31) rfl hcl ?_
  rintro e w6 ⟨hf,rfl,d6,hp6⟩
  refine⟨_,rfl,fun a ha=>⟨ha.defers,?_⟩⟩
  exact⟨hf,rfl,d6,hp6⟩
 rw[hr] at hcl⊢
 refine Zc (Ze Tryz.func31) (hcl) ?_
 rintro e wq ⟨hf,v,rfl,pwq,S,hrep,hS⟩
 refine⟨_,rfl,?_⟩
 have kp0:=(Kp.refl W).fz pw.blk hf
 have k98:=kt.fz hf (by omega)
 have hs98:=k98.lt
 have k98':=k98
 obtain⟨A,c,rfl⟩:=hrep.form
 have hq:=pwq.blk.lt
 clear bel
 have bel:=Below.refl wq.heap.size wq
 refine Zo 4 k98 ?_
 intro w1 pw1
 replace k98:=pw1.blk
 refine Zk2 0 1 ?_
 refine Post.end0 rfl (.inr rfl) ?_
 have hsz:=pw1.size
 have hbl:∀k,k≠gt→k<wq.heap.size→w1.heap[k]? =wq.heap[k]? :=fun k hk hl=>pw1.grown.block k hl (fun e=>hk (by injection e))
 have hrd:Reads w1 K.B 4 K.A K.ws.length (wdCells K.ws):=⟨pwq.rd.1,fun h0=>by
  obtain⟨ad,e1,e2,e3⟩:=pwq.rd.2 h0
  exact⟨ad,e1,e2,fun j u hu=>(World.cell?_of_block (by rw[block_of_add];exact hbl _ (hKA ad e1) (by omega))).trans (e3 j u hu)⟩⟩
 have k98z:Blk w1 gt 35 (Value.agg #[Value.int .i64 x.op,Value.int .i64 x.n,Value.string (strOf x.name),Value.slice A x.args.length c]).cells:=k98
 have kgz:Blk w1 K.g 92 _:=pwq.blk.put pw1 (by omega)
 exact⟨⟨pw1.grown.os.trans hf.os,pw1.grown.tape.trans hf.tape,pw1.grown.output.trans hf.output,by have:=hf.size;omega,fun k hk hne=>(hbl k (by omega) (by omega)).trans (hf.block k (by omega) hne)⟩,kp0.put k98' pw1 trivial,⟨_,rfl⟩,⟨kgz,hrd,pwq.p_le,pwq.d_le⟩,S,_,k98z,hrep.mono (fun _ h=>h) (fun a ha=>World.cell?_of_block (hbl _ (by have:=(hS _ ha).1;have:=kt.lt;omega) (hS _ ha).2)),fun b hb=>⟨(hS b hb).1,by have:=(hS b hb).2;omega⟩⟩
def parseX (l:List Nat):Ex × Nat × Int:=if(parAt l (exprQ (lexAll l).1)).2≠0 then(zeroEx,(parAt l (exprQ (lexAll l).1)).1,(parAt l (exprQ (lexAll l).1)).2) else match exprQ (lexAll l).1 with
 | .ok x _=>if rightB x=true then(x,0,0) else(zeroEx,0,13)
 |_=>(zeroEx,0,0)
theorem InE.kept {gt:Nat}{w W0 W W':World}{a:Ex}{g:Nat}(h:InE gt W0 a W)(hgt:gt<w.heap.size)(h2:w.heap.size≤g)(h3:g<W0.heap.size)(h4:W0.heap.size≤W.heap.size)(h5:W.heap.size≤W'.heap.size)(h6:∀k,k<W.heap.size→k≠g→W'.heap[k]? =W.heap[k]?):InE gt w a W':=by
 obtain⟨S,v,h7,h8,h9⟩:=h
 refine⟨S,v,?_,h8.mono (fun _ h=>h) (fun p hp=>World.cell?_of_block (h6 _ (h9 _ hp).2 (by have:=(h9 _ hp).1;omega))),fun b hb=>⟨by have:=(h9 b hb).1;omega,by have:=(h9 b hb).2;omega⟩⟩
 unfold Blk at h7⊢
 rw[h6 gt (by omega) (by omega)]
 exact h7
theorem parseExpr_any (l:List Nat)(w:World)(hl:∀x∈l,x<256)(hlen:l.length≤9223372036854775807):
  Calls Tryz.prog 11 #[.string (strOf l)] w fun e w'=>Below w.heap.size w w'∧∃(v:Value) (S:Nat→Prop),e= .returned (.tuple #[v, .int .i64 ((parseX l).2.1:Int), .int .i64 (parseX l).2.2])∧RepE w' S (parseX l).1 v∧∀b,S b→w.heap.size≤b∧b<w'.heap.size:=by
 have bel:=Below.refl w.heap.size w
 refine Zs 27 Tryz.func11 ?_
 refine Zsr ?_
 refine Zl zero_api_Expr ?_
 intro g2 w1 n2
 have e2:=Nat.le_trans bel.size n2.ge
 replace bel:=bel.step n2.below
 have k2:=n2.blk
 refine Za ?_
 refine Za ?_
 refine Zk4 0 2 3 4 (Ztq ?_)
 refine Zl zero_api_Expr ?_
 intro g5 w2 n5
 have e5:=Nat.le_trans bel.size n5.ge
 have l5:=Nat.lt_of_lt_of_le k2.lt n5.ge
 replace bel:=bel.step n5.below
 replace k2:=k2.step n5.below
 have k5:=n5.blk
 refine Zk5 0 2 3 4 5 (Ztq ?_)
 refine Zm ?_
 refine Zv (Runs.makeFunc (v:= .func (.func 30) #[] #[.pointer (some ⟨g5,0,none⟩)]) rfl (show evL _ _=some [] from rfl) (show evL _ _=some [.pointer (some ⟨g5,0,none⟩)] from rfl) rfl) ?_
 have hg5:=k5.lt
 have hps:=parsed_any l hl hlen 30 [.pointer (some ⟨g5,0,none⟩)] g5 (exprQ (lexAll l).1) (InE g5) (InE g5 w2) w2 (Nat.le_of_lt hg5) (fun args w=>run_enter Tryz.func30 (by kernel_rfl) rfl args w) (exprQ_ne _)
  (fun a W0 W W' g h1 h2 h3 h4 h5 h6=>h1.kept hg5 h2 h3 h4 h5 h6)
  (fun K hK hw h2 hg hA W hb hp=>by
   have:=parseXC_any K hK ((lexAll l).1.length+1) g5 g5 W hp (k5.step hb) (by omega) (Nat.le_refl _) (fun ad ha=>by have:=hA ad ha;omega) (by rw[hw];exact exprQ_ne _)
   rw[hw] at this
   exact this)
 refine Zc (Ze Tryz.func22) (hps) ?_
 rintro e w6 ⟨hb6,kp6,rfl,hok⟩
 refine⟨_,rfl,?_⟩
 have bel6:Below w.heap.size w w6:=bel.trans (hb6.mono e5)
 have k2':Blk w6 g2 35 _:=(show w6.heap[g2]? =w2.heap[g2]? from hb6.block g2 l5).trans k2
 have hlt6:=bel6.size
 clear bel k5 k2
 have bel:=bel6
 have k2:=k2'
 have hA:=parAt_zero (l:=l) (r:=exprQ (lexAll l).1)
 obtain⟨z,hz⟩:∃z,(parAt l (exprQ (lexAll l).1)).2=z:=⟨_,rfl⟩
 obtain⟨y,hy⟩:∃y,(parAt l (exprQ (lexAll l).1)).1=y:=⟨_,rfl⟩
 rw[hz] at hok hA⊢
 rw[hy] at hA⊢
 by_cases hz0:z=0
 ·obtain⟨x,q,hx,S,v,k5,hrep,hS⟩:=hok hz0
  have hps2:parseX l=if rightB x=true then(x,0,0) else(zeroEx,0,13):=by unfold parseX;rw[if_neg (by rw[hz];exact fun h=>h hz0),hx]
  obtain rfl:=hA hz0
  subst hz0
  have hrb:Rep w6 w6.heap.size x v:=hrep.mono (fun b hb=>(hS b hb).2) (fun _ _=>rfl)
  obtain⟨A,c,rfl⟩:=hrep.form
  have hri:=rightExpr_all x w6.heap.size _ w6 hrb (Nat.le_refl _)
  have k5:Blk w6 g5 35 #[.int .i64 x.op, .int .i64 x.n, .string (strOf x.name), .slice A x.args.length c]:=k5
  have hri:Calls Tryz.prog 32 #[_] w6 fun en w'=>en= .returned (.bool (rightB x))∧Grow w6 w':=hri
  generalize rightB x=b at *
  refine Zm ?_
  refine Zv (Runs.extract rfl rfl rfl) ?_
  refine Zv (Runs.extract rfl rfl rfl) ?_
  refine Za ?_
  refine Za ?_
  refine Zk7 0 2 3 4 5 6 7 (Zts (Zsr ?_))
  refine Zm ?_
  refine Zv ((Runs.eqlI rfl rfl rfl).isT (rfl)) ?_
  refine Zm ?_
  refine Seq.valG (Runs.loadW rfl rfl Tryz.underlying35 rfl k5 (m:=4) (by kernel_rfl) rfl) rfl rfl rfl rfl rfl ?_
  refine Seq.callG (Ze Tryz.func32) rfl rfl rfl rfl rfl (hri) ?_
  rintro e w7 ⟨rfl,hb7⟩
  refine⟨_,rfl,?_⟩
  replace bel:=bel.step hb7
  replace k2:=k2.step hb7
  replace k5:=k5.step hb7
  refine Seq.valG (Runs.not rfl rfl) rfl rfl rfl rfl rfl ?_
  refine Zv (Runs.pickT rfl rfl rfl) ?_
  have hw67:=hb7.size
  cases b with
  |true=>
   refine Zk8 0 2 3 4 5 6 7 20 (Zt ?_)
   refine Cd.condF rfl rfl ?_
   refine Cd.skip (Zts (Zsr ?_))
   refine Zm ?_
   refine Zv (Runs.neqI rfl rfl rfl) ?_
   refine Zk9 0 2 3 4 5 6 7 20 22 (Zt ?_)
   refine Cd.condF rfl (by simp) ?_
   refine Cd.skip (Ztq ?_)
   refine Zv (Runs.loadW rfl rfl Tryz.underlying35 rfl k5 (m:=4) (by kernel_rfl) rfl) ?_
   refine Zo 4 k2 ?_
   intro w3 pw3
   replace bel:=bel.put k2 pw3 e2
   replace k5:=k5.put pw3 (by omega)
   replace k2:=pw3.blk
   refine Za ?_
   refine Za ?_
   refine Zk9 0 2 3 4 5 6 7 20 22 (Zt (Cd.ret ?_))
   refine Post.endC3 rfl rfl rfl rfl k2 Tryz.underlying35 rfl (m:=4) (by kernel_rfl) rfl (.inl rfl) ?_
   rw[hps2,if_pos rfl]
   have hsz:=pw3.size
   refine⟨bel, .agg #[.int .i64 x.op, .int .i64 x.n, .string (strOf x.name), .slice A x.args.length c],S,rfl,hrep.mono (fun _ h=>h) fun p hp=>World.cell?_of_block ?_,fun b hb=> ?_⟩
   ·have:=hS _ hp
    exact(pw3.grown.block _ (by omega) (fun e=>by injection e with e;omega)).trans (hb7.block _ this.2)
   ·have:=hS b hb
    have:=hb6.size
    omega
  |false=>
   refine Zk8 0 2 3 4 5 6 7 20 (Zt ?_)
   refine Cd.condT rfl rfl ?_
   refine Zr ?_
   refine Za ?_
   refine Zk8 0 2 3 4 5 6 7 20 (Zts (Zsr ?_))
   refine Zm ?_
   refine Zv (Runs.neqI rfl rfl rfl) ?_
   refine Zk9 0 2 3 4 5 6 7 20 22 (Zt ?_)
   refine Cd.condT rfl (by simp) ?_
   refine Zsr ?_
   refine Zv (Runs.build rfl rfl (run_build_E0 _)) ?_
   refine Zm ?_
   refine Zm ?_
   refine Zo 4 k2 ?_
   intro w3 pw3
   replace bel:=bel.put k2 pw3 e2
   replace k5:=k5.put pw3 (by omega)
   replace k2:=pw3.blk
   refine Za ?_
   refine Za ?_
   refine Zk9 0 2 3 4 5 6 7 20 22 (Zt (Cd.ret (Post.then_ret ?_)))
   refine Post.endC3 rfl rfl rfl rfl k2 Tryz.underlying35 rfl (m:=4) (by kernel_rfl) rfl (.inl rfl) ?_
   rw[hps2,if_neg (by simp)]
   exact⟨bel, .agg #[.int .i64 0, .int .i64 0, .string (strOf []), .slice none 0 0],fun _=>False,rfl,RepE.zero _ _,fun b h=>h.elim⟩
 ·have hps2:parseX l=(zeroEx,y,z):=by unfold parseX;rw[if_pos (by rw[hz];exact hz0),hy,hz]
  refine Zm ?_
  refine Zv (Runs.extract rfl rfl rfl) ?_
  refine Zv (Runs.extract rfl rfl rfl) ?_
  refine Za ?_
  refine Za ?_
  refine Zk7 0 2 3 4 5 6 7 (Zts (Zsr ?_))
  refine Zm ?_
  refine Zv ((Runs.eqlI rfl rfl rfl).isF (hz0)) ?_
  refine Zm ?_
  refine Seq.skipG rfl rfl rfl rfl rfl rfl ?_
  refine Seq.skipG rfl rfl rfl rfl rfl rfl ?_
  refine Seq.skipG rfl rfl rfl rfl rfl rfl ?_
  refine Zv (Runs.pickF rfl rfl rfl) ?_
  refine Zk8 0 2 3 4 5 6 7 20 (Zt ?_)
  refine Cd.condF rfl rfl ?_
  refine Cd.skip (Zts (Zsr ?_))
  refine Zm ?_
  refine Zv (Runs.neqI rfl rfl rfl) ?_
  refine Zk9 0 2 3 4 5 6 7 20 22 (Zt ?_)
  refine Cd.condT rfl (by simpa using hz0) ?_
  refine Zsr ?_
  refine Zv (Runs.build rfl rfl (run_build_E0 _)) ?_
  refine Zm ?_
  refine Zm ?_
  refine Zo 4 k2 ?_
  intro w3 pw3
  replace bel:=bel.put k2 pw3 e2
  replace k2:=pw3.blk
  refine Za ?_
  refine Za ?_
  refine Zk9 0 2 3 4 5 6 7 20 22 (Zt (Cd.ret (Post.then_ret ?_)))
  refine Post.endC3 rfl rfl rfl rfl k2 Tryz.underlying35 rfl (m:=4) (by kernel_rfl) rfl (.inl rfl) ?_
  rw[hps2]
  exact⟨bel, .agg #[.int .i64 0, .int .i64 0, .string (strOf []), .slice none 0 0],fun _=>False,rfl,RepE.zero _ _,fun b h=>h.elim⟩
end Go.Proofs.YtaamkfajnpobfaaGreat
namespace Go.Proofs.YtaamkfajnpobfaaGreat
open Go.RowKit
theorem sameExpr_any (N:Nat):∀(e:Ex) (B:Nat) (v u:Value) (w:World),e.nodes≤N→Rep w B e v→Rep w B e u→B≤w.heap.size→Calls Tryz.prog 12 #[v,u] w fun en w'=>en= .returned (.bool true)∧Grow w w':=by
 induction N with
 |zero=>intro e B v u w hN;have:=e.nodes_pos;omega
 |succ N ih=>
 intro e B v u w hN hrep hrep' hB
 obtain⟨A,c,rfl,hv⟩:=hrep.open
 obtain⟨A',c',rfl,hv'⟩:=hrep'.open
 have bel:=Below.refl w.heap.size w
 have h60:=hv.h60
 have hnm:=hv.name
 refine Zs 53 Tryz.func12 ?_
 refine Zsr ?_
 refine Seq.box rfl rfl rfl rfl rfl ?_
 intro g2 w1 n2
 have e2:=Nat.le_trans bel.size n2.ge
 replace bel:=bel.step n2.below
 have k2:=n2.blk
 refine Seq.box rfl rfl rfl rfl rfl ?_
 intro g3 w2 n3
 have e3:=Nat.le_trans bel.size n3.ge
 have l3:=Nat.lt_of_lt_of_le k2.lt n3.ge
 replace bel:=bel.step n3.below
 replace k2:=k2.step n3.below
 have k3:=n3.blk
 refine Za ?_
 refine Zk5 0 1 2 3 4 (Zts (Zsr ?_))
 refine Zf 0 Tryz.underlying35 ?_
 refine Zv (Runs.loadB rfl rfl Tryz.underlying3 rfl k2 rfl) ?_
 refine Zf 0 Tryz.underlying35 ?_
 refine Zv (Runs.loadB rfl rfl Tryz.underlying3 rfl k3 rfl) ?_
 refine Zv (Runs.neqI rfl rfl rfl) ?_
 refine Zm ?_
 refine SeqC.start ?_
 refine Zco (fun hcx=>Runs.fieldB 1 rfl rfl Tryz.underlying35 rfl (by kernel_rfl)) ?_
 refine SeqC.next rfl rfl rfl rfl rfl rfl rfl (fun hcx=>Runs.loadB rfl rfl Tryz.underlying2 rfl k2 rfl) ?_
 refine SeqC.next rfl rfl rfl rfl rfl rfl rfl (fun hcx=>Runs.fieldB 1 rfl rfl Tryz.underlying35 rfl (by kernel_rfl)) ?_
 refine SeqC.next rfl rfl rfl rfl rfl rfl rfl (fun hcx=>Runs.loadB rfl rfl Tryz.underlying2 rfl k3 rfl) ?_
 refine SeqC.next rfl rfl rfl rfl rfl rfl rfl (fun hcx=>Runs.neqI rfl rfl rfl) ?_
 refine SeqC.or rfl rfl rfl rfl rfl rfl rfl ?_
 refine Zm ?_
 refine SeqC.start ?_
 refine Zco (fun hcx=>Runs.fieldB 2 rfl rfl Tryz.underlying35 rfl (by kernel_rfl)) ?_
 refine SeqC.next rfl rfl rfl rfl rfl rfl rfl (fun hcx=>Runs.loadB rfl rfl Tryz.underlying9 rfl k2 rfl) ?_
 refine SeqC.next rfl rfl rfl rfl rfl rfl rfl (fun hcx=>Runs.fieldB 2 rfl rfl Tryz.underlying35 rfl (by kernel_rfl)) ?_
 refine SeqC.next rfl rfl rfl rfl rfl rfl rfl (fun hcx=>Runs.loadB rfl rfl Tryz.underlying9 rfl k3 rfl) ?_
 refine SeqC.next rfl rfl rfl rfl rfl rfl rfl (fun hcx=>Runs.neqL (a:=e.name) (b:=e.name) rfl rfl rfl hnm hnm) ?_
 refine SeqC.or rfl rfl rfl rfl rfl rfl rfl ?_
 refine Zm ?_
 refine SeqC.start ?_
 refine Zco (fun hcx=>Runs.fieldB 3 rfl rfl Tryz.underlying35 rfl (by kernel_rfl)) ?_
 refine SeqC.next rfl rfl rfl rfl rfl rfl rfl (fun hcx=>Runs.loadB rfl rfl Tryz.underlying22 rfl k2 rfl) ?_
 refine SeqC.next rfl rfl rfl rfl rfl rfl rfl (fun hcx=>Runs.len rfl rfl Tryz.underlying22) ?_
 refine SeqC.next rfl rfl rfl rfl rfl rfl rfl (fun hcx=>Runs.fieldB 3 rfl rfl Tryz.underlying35 rfl (by kernel_rfl)) ?_
 refine SeqC.next rfl rfl rfl rfl rfl rfl rfl (fun hcx=>Runs.loadB rfl rfl Tryz.underlying22 rfl k3 rfl) ?_
 refine SeqC.next rfl rfl rfl rfl rfl rfl rfl (fun hcx=>Runs.len rfl rfl Tryz.underlying22) ?_
 refine SeqC.next rfl rfl rfl rfl rfl rfl rfl (fun hcx=>Runs.neqI rfl rfl rfl) ?_
 refine SeqC.or rfl rfl rfl rfl rfl rfl rfl ?_
 refine Zk6 0 1 2 3 4 33 (Zt ?_)
 refine Cd.condF rfl (by simp) ?_
 refine Cd.skip (Zts (Zsr ?_))
 refine Za ?_
 refine Zk7 0 1 2 3 4 5 33 (Zt (Cd.block ?_))
 refine Cd.loop (σ:=Nat) (fun i=>[(2, .pointer (some ⟨g2,0,none⟩)),(3, .pointer (some ⟨g3,0,none⟩)),(5, .int .i64 (i:Int))])
  (fun i wr=>i≤e.args.length∧Below w.heap.size w wr∧Blk wr g2 35 #[.int .i64 e.op, .int .i64 e.n, .string (strOf e.name), .slice A e.args.length c]∧Blk wr g3 35 #[.int .i64 e.op, .int .i64 e.n, .string (strOf e.name), .slice A' e.args.length c']) (fun i=>e.args.length-i) 0 ⟨Nat.zero_le _,bel,k2,k3⟩ ⟨rfl,rfl,rfl,trivial⟩ ?_
 clear bel k2 k3
 rintro i wr ⟨hi,bel,k2,k3⟩
 refine Cd.seq (Zsr ?_)
 refine Zm ?_
 refine Zf 3 Tryz.underlying35 ?_
 refine Zv (Runs.loadB rfl rfl Tryz.underlying22 rfl k2 rfl) ?_
 refine Zv (Runs.len rfl rfl Tryz.underlying22) ?_
 refine Zv (Runs.lss rfl rfl rfl) ?_
 refine Zk4 2 3 5 38 (Zt ?_)
 refine Cd.condD rfl (fun hc=> ?_) (fun hc=> ?_)
 ·obtain⟨x,hx⟩:∃x,e.args[i]? =some x:=⟨_,List.getElem?_eq_getElem (show i<e.args.length by omega)⟩
  obtain⟨ad,Ax,cx,rfl,hbl,hrx,hc⟩:=hv.arg i x hx
  obtain⟨ad',Ax',cx',rfl,hbl',hrx',hc'⟩:=hv'.arg i x hx
  have hxm:=List.mem_of_getElem? hx
  have hxn:=Ex.arg_nodes hxm
  have hc:=fun W (hb:Below w.heap.size w W) j u hj=>((hb.mono hB).cell (p:=(ad.add (i*4)).add j) (by rw[block_of_add,block_of_add];exact hbl)).trans (hc j u hj)
  have hc':=fun W (hb:Below w.heap.size w W) j u hj=>((hb.mono hB).cell (p:=(ad'.add (i*4)).add j) (by rw[block_of_add,block_of_add];exact hbl')).trans (hc' j u hj)
  have hrec:=fun W (hb:Below w.heap.size w W)=>ih x B _ _ W (by omega) (hrx.below (hb.mono hB)) (hrx'.below (hb.mono hB)) (Nat.le_trans hB hb.size)
  refine Cd.skip (Zts (Cd.block (Cd.seq ?_)))
  refine Cd.draw 12 (by kernel_rfl) [] (.inl rfl) rfl Grow Grow.refl (fun _ _ _=>Grow.trans) ?_
  intro w3 hw3 zw3
  replace bel:=bel.step hw3
  replace k2:=k2.step hw3
  replace k3:=k3.step hw3
  have zbel:=bel.size
  have zlt:=k3.lt
  refine Zd (fun w hG=>Runs.fieldB 3 rfl rfl Tryz.underlying35 rfl (by kernel_rfl)) ?_
  refine Zd (fun w hG=>Runs.loadB rfl rfl Tryz.underlying22 rfl (k2.step hG) rfl) ?_
  refine Zdm ?_
  refine Zd (fun w hG=>Runs.indexN rfl rfl rfl Tryz.underlying22 (s:=4) (by kernel_rfl) (j:=i) rfl (by omega)) ?_
  refine Zd (fun w hG=>Runs.loadF (ps:=[.int .i64 x.op, .int .i64 x.n, .string (strOf x.name), .slice Ax x.args.length cx]) rfl rfl Tryz.underlying35 rfl (m:=4) (by kernel_rfl) rfl (hc _ (bel.step hG))) ?_
  refine Zd (fun w hG=>Runs.fieldB 3 rfl rfl Tryz.underlying35 rfl (by kernel_rfl)) ?_
  refine Zd (fun w hG=>Runs.loadB rfl rfl Tryz.underlying22 rfl (k3.step hG) rfl) ?_
  refine Zdm ?_
  refine Zd (fun w hG=>Runs.indexN rfl rfl rfl Tryz.underlying22 (s:=4) (by kernel_rfl) (j:=i) rfl (by omega)) ?_
  refine Zd (fun w hG=>Runs.loadF (ps:=[.int .i64 x.op, .int .i64 x.n, .string (strOf x.name), .slice Ax' x.args.length cx']) rfl rfl Tryz.underlying35 rfl (m:=4) (by kernel_rfl) rfl (hc' _ (bel.step hG))) ?_
  refine Dr.callV rfl (fun w=>Ze Tryz.func12) rfl (fun w hG=>hrec w (bel.step hG)) ?_
  refine Zd (fun w hG=>Runs.not rfl rfl) ?_
  refine Dr.nil ?_
  refine FinX.done (F':=[(2,_),(3,_),(5,_),(38,_),(52,_)]) rfl ⟨rfl,rfl,rfl,rfl,rfl,trivial⟩ ?_
  intro w4 hw4 fw4
  replace bel:=bel.step hw4
  replace k2:=k2.step hw4
  replace k3:=k3.step hw4
  refine Zk5 2 3 5 38 52 (Zt ?_)
  refine Cd.condF rfl rfl ?_
  refine Cd.skip (Post.block_normal (Ztr ?_))
  refine Zm ?_
  refine Za_ ?_
  refine Za ?_
  refine Zk5 2 3 5 38 52 ?_
  exact Post.round (i+1) ⟨rfl,rfl,rfl,trivial⟩ ⟨by omega,bel,k2,k3⟩ (by omega)
 ·skip
  refine Cd.exit (Post.then_exit (Post.round_exit (Post.block_exit (Ztq ?_))))
  refine Za ?_
  refine Zk5 2 3 4 5 38 (Zt (Cd.ret ?_))
  refine Post.end1 rfl rfl (.inl rfl) ?_
  exact⟨rfl,bel⟩
end Go.Proofs.YtaamkfajnpobfaaGreat
namespace Go.Proofs.YtaamkfajnpobfaaGreat
open Go.RowKit
def sampT:List Nat:=[119,104,101,110,40,100,97,121,32,62,61,32,50,48,50,52,45,48,49,45,51,49,44,32,111,110,101,40,85,83,68,41,41]
def wantE:Ex:= .mk 15 0 [] [.mk 4 0 [] [], .mk 2 19753 [] []]
def wantU:Tm:= .mk 2 [85,83,68] [] []
def wantT:Tm:= .mk 7 [] [wantE] [wantU]
theorem RepT.name (w:World)(S:Nat→Prop)(o:Int)(nm:List Nat)(ho:I64 o)(hn:∀d∈nm,d<256)(hl:nm.length≤9223372036854775807):RepT w S (.mk o nm [] []) (.agg #[.int .i64 o, .string (strOf nm), .slice none 0 0, .slice none 0 0]):=
 RepT.mk (es:=[]) (ts:=[]) (vs:=[]) (us:=[]) rfl rfl (by decide) (by decide) ho hn hl (fun i e v he=>by cases he) (fun i e v he=>by cases he) (fun h=>absurd rfl h) fun h=>absurd rfl h
end Go.Proofs.YtaamkfajnpobfaaGreat
namespace Go.Proofs.YtaamkfajnpobfaaGreat
open Go.RowKit
def Begin (c:Nat):Prop:=c≠32∧c≠9∧c≠10∧c≠35
end Go.Proofs.YtaamkfajnpobfaaGreat
namespace Go.Proofs.YtaamkfajnpobfaaGreat
open Go.RowKit
def Bnd (l:List Nat)(p:Nat):Prop:=∀c d,0<p→l[p-1]? =some c→l[p]? =some d→partB c=true→partB d=true→False
end Go.Proofs.YtaamkfajnpobfaaGreat
namespace Go.Proofs.YtaamkfajnpobfaaGreat
open Go.RowKit
theorem Bnd.drop {l:List Nat}{p m:Nat}(h:Bnd l (p+m))(hm:0<m):Bnd (l.drop p) m:=by
 intro c d h0 hc hd
 rw[List.getElem?_drop] at hc hd
 exact h c d (by omega) (by rw[←hc];congr 1;omega) hd
end Go.Proofs.YtaamkfajnpobfaaGreat
namespace Go.Proofs.YtaamkfajnpobfaaGreat
section
variable {α β:Type} {ws:List Wd} {j:Nat}
def Goes (j:Nat)(r r':Rs α):Prop:=∀a q,r= .ok a q→(q≤j∧r'= .ok a q)∨(j<q∧(r'= .bad j false∨∃a',r'= .ok a' j))
def Stops (j:Nat)(r r':Rs α):Prop:=∀a q,r= .ok a q→(q≤j∧r'= .ok a q)∨(j<q∧r'= .bad j false)
theorem Stops.goes {r r':Rs α}(h:Stops j r r'):Goes j r r':=fun a q e=>(h a q e).imp id fun h=>⟨h.1, .inl h.2⟩
def Cut (j:Nat)(f f':Nat→Nat→Rs α)(m:Nat):Prop:=∀p d,m≤p→p≤j→Goes j (f p d) (f' p d)
def CutS (j:Nat)(f f':Nat→Nat→Rs α)(m:Nat):Prop:=∀p d,m≤p→p≤j→Stops j (f p d) (f' p d)
theorem Cut.up {f f':Nat→Nat→Rs α}{m m':Nat}(h:Cut j f f' m)(hm:m≤m'):Cut j f f' m':=fun p d h1 h2=>h p d (by omega) h2
theorem Stops.bind {r r':Rs α}{f f':α→Nat→Rs β}(h:Stops j r r')(hq:∀a p b q,f a p= .ok b q→p≤q)(hf:∀a p,r= .ok a p→p≤j→Stops j (f a p) (f' a p)):Stops j (r.bind f) (r'.bind f'):=fun b q e=>by
 obtain⟨a,p,h1,e⟩:=Rs.bind_eq_ok e
 have:=hq _ _ _ _ e
 rcases h a p h1 with ⟨h2,h3⟩|⟨h2,h3⟩
 ·rw[h3];exact hf a p h1 h2 b q e
 ·rw[h3];exact .inr ⟨by omega,rfl⟩
theorem Stops.same {a:α}{p:Nat}(h:p≤j):Stops j (.ok a p) (.ok a p):=fun b q e=>by
 injection e with e1 e2
 subst e1 e2
 exact .inl ⟨h,rfl⟩
theorem Stops.bad {p:Nat}{o:Bool}{r':Rs α}:Stops j (.bad p o) r':=fun b q e=>by cases e
theorem map_fst (k:Nat)(f f':Nat→Nat→Rs α):(List.replicate k (f,f')).map Prod.fst=List.replicate k f:=by rw[List.map_replicate]
theorem map_snd (k:Nat)(f f':Nat→Nat→Rs α):(List.replicate k (f,f')).map Prod.snd=List.replicate k f':=by rw[List.map_replicate]
theorem Goes.bind {r r':Rs α}{f f':α→Nat→Rs β}(h:Goes j r r')(hq:∀a p b q,f a p= .ok b q→p≤q)(hf:∀a p,r= .ok a p→p≤j→Goes j (f a p) (f' a p))(he:∀a,∃b,f' a j= .ok b j):Goes j (r.bind f) (r'.bind f'):=fun b q e=>by
 obtain⟨a,p,h1,e⟩:=Rs.bind_eq_ok e
 have:=hq _ _ _ _ e
 rcases h a p h1 with ⟨h2,h3⟩|⟨h2,h3|⟨a',h3⟩⟩
 ·rw[h3];exact hf a p h1 h2 b q e
 ·rw[h3];exact .inr ⟨by omega, .inl rfl⟩
 ·rw[h3]
  obtain⟨b',hb⟩:=he a'
  exact .inr ⟨by omega, .inr ⟨b',hb⟩⟩
theorem Goes.same {a:α}{p:Nat}(h:p≤j):Goes j (.ok a p) (.ok a p):=(Stops.same h).goes
end
structure CutF (j:Nat)(f f':PF)(m:Nat):Prop where
 E:∀lvl,Cut j (f.E lvl) (f'.E lvl) m
 L:∀lvl x p d,m≤p→p≤j→Goes j (f.L lvl x p d) (f'.L lvl x p d)
 S:Cut j f.S f'.S m
 fin:m≤j→∀lvl x d,f'.L lvl x j d= .ok x j
theorem Goes.map {α β:Type}{j:Nat}{r r':Rs α}(h:Goes j r r')(f:α→β):Goes j (r.map f) (r'.map f):=h.bind (fun a p b q e=>by injection e with _ e;omega) (fun a p _ hp=>Goes.same hp) (fun a=>⟨_,rfl⟩)
end Go.Proofs.YtaamkfajnpobfaaGreat
namespace Go.Proofs.YtaamkfajnpobfaaGreat
section
variable {α β:Type} {ws:List Wd}
def Le (r r':Rs α):Prop:=r≠ .out→r'=r
theorem Le.refl (r:Rs α):Le r r:=fun _=>rfl
theorem Le.bind {r r':Rs α}{f f':α→Nat→Rs β}(h:Le r r')(hf:∀a p,Le (f a p) (f' a p)):Le (r.bind f) (r'.bind f'):=fun hne=>by
 have h1:=h (Rs.bind_ne hne)
 rw[h1]
 cases r with
 |out=>rfl
 |bad p o=>rfl
 |ok a p=>exact hf a p hne
def LeF (f f':Nat→Nat→Rs α):Prop:=∀p d,Le (f p d) (f' p d)
theorem parts_le:∀(M:List ((Nat→Nat→Rs α) × (Nat→Nat→Rs α))),(∀x∈M,LeF x.1 x.2)→∀first p d,Le (partsP ws (M.map Prod.fst) first p d) (partsP ws (M.map Prod.snd) first p d)
 | [],_,first,p,d=>Le.refl _
 |x::M,hM,first,p,d=>by
  rw[List.map_cons,List.map_cons,partsP,partsP]
  refine(Le.refl _).bind fun u p1=> ?_
  refine(hM x (by simp) p1 d).bind fun y p2=> ?_
  exact(parts_le M (fun z hz=>hM z (by simp[hz])) false p2 d).bind fun ys p3=>Le.refl _
theorem within_le (M:List ((Nat→Nat→Rs α) × (Nat→Nat→Rs α)))(hM:∀x∈M,LeF x.1 x.2):LeF (withinP ws (M.map Prod.fst)) (withinP ws (M.map Prod.snd)):=fun p d=>by
 unfold withinP
 refine(Le.refl _).bind fun u p1=> ?_
 refine(Le.refl _).bind fun u2 p2=> ?_
 refine(parts_le M hM true p2 (d+1)).bind fun xs p3=> ?_
 exact Le.refl _
theorem called_le {E0 E0':Nat→Nat→Rs Ex}(hE:LeF E0 E0')(op:Int)(k p d:Nat):Le (calledP ws E0 op k p d) (calledP ws E0' op k p d):=by
 unfold calledP
 have:=within_le (ws:=ws) (List.replicate k (E0,E0')) (fun x hx=>by rw[(List.mem_replicate.1 hx).2];exact hE) (p+1) d
 rw[map_fst,map_snd] at this
 exact this.bind fun xs q=>Le.refl _
theorem atom_le {E0 E0':Nat→Nat→Rs Ex}(hE:LeF E0 E0'):LeF (atomP ws E0) (atomP ws E0'):=fun p d=>by
 unfold atomP
 split
 ·exact Le.refl _
 split
 ·exact Le.refl _
 split
 ·split
  ·exact Le.refl _
  split
  ·exact called_le hE 9 2 p d
  split
  ·exact called_le hE 10 2 p d
  split
  ·exact called_le hE 21 3 p d
  exact Le.refl _
 split
 ·exact(within_le (ws:=ws) [(E0,E0')] (fun x hx=>by rw[List.mem_singleton.1 hx];exact hE) p d).bind fun xs q=>Le.refl _
 exact Le.refl _
theorem ahead_le {S S':Nat→Nat→Rs Ex}(hS:LeF S S')(op:Int):LeF (aheadP S op) (aheadP S' op):=fun p d=>by
 unfold aheadP
 refine(Le.refl _).bind fun u p1=> ?_
 exact(hS _ _).bind fun x q=>Le.refl _
theorem unary_le {S S' E0 E0':Nat→Nat→Rs Ex}(hS:LeF S S')(hE:LeF E0 E0'):LeF (unaryP ws S E0) (unaryP ws S' E0'):=fun p d=>by
 unfold unaryP
 split
 ·exact ahead_le hS 19 p d
 split
 ·exact ahead_le hS 20 p d
 exact atom_le hE p d
structure LeP (f f':PF):Prop where
 E:∀lvl,LeF (f.E lvl) (f'.E lvl)
 L:∀lvl x p d,Le (f.L lvl x p d) (f'.L lvl x p d)
 S:LeF f.S f'.S
theorem loop_le {f f':PF}(h:LeP f f')(lvl:Nat)(x:Ex)(p d:Nat):Le (loopP ws f lvl x p d) (loopP ws f' lvl x p d):=by
 unfold loopP
 cases opAt ws lvl p with
 |none=>exact Le.refl _
 |some op=>
  refine(h.E (lvl+1) (p+1) d).bind fun r q=> ?_
  split
  ·exact Le.refl _
  ·exact h.L _ _ _ _
theorem lev_le {L L':Nat→Ex→Nat→Nat→Rs Ex}{S S':Nat→Nat→Rs Ex}(hL:∀lvl x p d,Le (L lvl x p d) (L' lvl x p d))(hS:LeF S S'):∀i,LeF (levN L S i) (levN L' S' i)
 |0=>hS
 |i+1=>fun p d=>by
  rw[levN,levN]
  exact(lev_le hL hS i p d).bind fun x q=>hL _ _ _ _
theorem fuel_le (ws:List Wd):∀n,LeP (fuelP ws n) (fuelP ws (n+1))
 |0=>⟨fun lvl p d h=>absurd rfl h,fun lvl x p d h=>absurd rfl h,fun p d h=>absurd rfl h⟩
 |n+1=>by
  have ih:=fuel_le ws n
  have hL:=loop_le (ws:=ws) ih
  have hS:=unary_le (ws:=ws) ih.S (ih.E 0)
  exact⟨fun lvl=>lev_le hL hS _,hL,hS⟩
end
def fullP (ws:List Wd):PF:=fuelP ws (ws.length+1)
def fullT (ws:List Wd):Nat→Nat→Rs Tm:=fuelT ws (ws.length+1)
theorem full_def (ws:List Wd):PDef (fullP ws) 0:=fuelP_def ws ws.length 0 (by omega)
theorem full_mono (ws:List Wd):PMono (fullP ws):=fuelP_mono ws _
theorem full_L (ws:List Wd)(lvl:Nat)(x:Ex)(p d:Nat):(fullP ws).L lvl x p d=loopP ws (fullP ws) lvl x p d:=((fuel_le ws (ws.length+1)).L lvl x p d ((full_def ws).L lvl x p d (Nat.zero_le _))).symm
theorem full_S (ws:List Wd)(p d:Nat):(fullP ws).S p d=unaryP ws (fullP ws).S ((fullP ws).E 0) p d:=((fuel_le ws (ws.length+1)).S p d ((full_def ws).S p d (Nat.zero_le _))).symm
theorem full_E (ws:List Wd)(lvl p d:Nat)(h:lvl<5):(fullP ws).E lvl p d=((fullP ws).E (lvl+1) p d).bind fun x p=>(fullP ws).L lvl x p d:=fuelP_E ws ws.length lvl p d h
theorem full_E5 (ws:List Wd)(p d:Nat):(fullP ws).E 5 p d=(fullP ws).S p d:=rfl
theorem exprQ_full (ws:List Wd):exprQ ws=(fullP ws).E 0 0 0:=rfl
end Go.Proofs.YtaamkfajnpobfaaGreat
namespace Go.Proofs.YtaamkfajnpobfaaGreat
theorem Rs.bind_ret {α:Type}(r:Rs α):r.bind (fun x q=> .ok x q)=r:=by cases r<;>rfl
def goP (f:PF)(lvl:Nat):Nat→Ex→Nat→Nat→Rs Ex
 |0,x,p,_=> .ok x p
 |k+1,x,p,d=>(f.L (lvl+k) x p d).bind fun y q=>goP f lvl k y q d
theorem goP_snoc (f:PF)(lvl:Nat):∀k x p d,goP f lvl (k+1) x p d=(goP f (lvl+1) k x p d).bind fun y q=>f.L lvl y q d
 |0,x,p,d=>by
  show(f.L (lvl+0) x p d).bind (fun y q=>Rs.ok y q)=_
  rw[Rs.bind_ret]
  rfl
 |k+1,x,p,d=>by
  rw[goP]
  have:(fun y q=>goP f lvl (k+1) y q d)=fun y q=>(goP f (lvl+1) k y q d).bind fun y q=>f.L lvl y q d:=by
   funext y q
   exact goP_snoc f lvl k y q d
  rw[this,←Rs.bind_assoc,show lvl+(k+1)=lvl+1+k by omega]
  rfl
theorem full_go (ws:List Wd)(p d:Nat):∀k lvl,lvl+k=5→(fullP ws).E lvl p d=((fullP ws).S p d).bind fun x q=>goP (fullP ws) lvl k x q d
 |0,lvl,h=>by
  obtain rfl:lvl=5:=by omega
  rw[full_E5]
  exact(Rs.bind_ret _).symm
 |k+1,lvl,h=>by
  rw[full_E ws lvl p d (by omega),full_go ws p d k (lvl+1) (by omega),Rs.bind_assoc]
  congr 1
  funext x q
  exact(goP_snoc _ _ _ _ _ _).symm
def powL (t:List Nat):Option (Nat × Int):=
 if t=[124] then some (0,18) else if t=[38] then some (1,17) else if t=[60] then some (2,11) else if t=[60,61] then some (2,12) else if t=[61] then some (2,13) else if t=[33,61] then some (2,14)
 else if t=[62,61] then some (2,15) else if t=[62] then some (2,16) else if t=[43] then some (3,5) else if t=[45] then some (3,6) else if t=[42] then some (4,7) else if t=[47] then some (4,8) else none
def powAt (ws:List Wd)(p:Nat):Option (Nat × Int):=if(wAt ws p).kind=0 then powL (wAt ws p).text else none
def allS:List (List Nat):=[[124],[38],[60],[60,61],[61],[33,61],[62,61],[62],[43],[45],[42],[47]]
def atL (lvl:Nat)(t:List Nat):Option Int:=match powL t with
 |some (i,op)=>if i=lvl then some op else none
 |none=>none
theorem atL_in:∀lvl,lvl<5→∀t∈allS,(if t∈signsAt lvl then(opsAt lvl)[(signsAt lvl).idxOf t]? else none)=atL lvl t:=by decide+kernel
theorem signs_all:∀lvl,lvl<5→∀t∈signsAt lvl,t∈allS:=by decide+kernel
theorem powL_none {t:List Nat}(h:t∉allS):powL t=none:=by
 unfold allS at h
 simp only[List.mem_cons,List.not_mem_nil,or_false,not_or] at h
 unfold powL
 simp[h]
theorem opAt_pow (ws:List Wd)(lvl p:Nat)(h:lvl<5):opAt ws lvl p=match powAt ws p with
 |some (i,op)=>if i=lvl then some op else none
 |none=>none:=by
 unfold opAt powAt
 by_cases hk:(wAt ws p).kind=0
 ·rw[if_neg (by simp[hk]),if_pos hk]
  generalize (wAt ws p).text=t
  by_cases ht:t∈allS
  ·exact atL_in lvl h t ht
  ·rw[powL_none ht,if_neg (fun h2=>ht (signs_all lvl h t h2))]
 ·rw[if_pos (by simpa using hk),if_neg hk]
theorem goP_none (ws:List Wd)(lvl:Nat){p:Nat}:∀k x d,lvl+k≤5→(∀i op,powAt ws p=some (i,op)→i<lvl∨lvl+k≤i)→goP (fullP ws) lvl k x p d= .ok x p
 |0,x,d,_,_=>rfl
 |k+1,x,d,hk,h=>by
  rw[goP,full_L]
  have ho:opAt ws (lvl+k) p=none:=by
   rw[opAt_pow ws (lvl+k) p (by omega)]
   cases hp:powAt ws p with
   |none=>rfl
   |some z=>
    obtain⟨i,op⟩:=z
    have:=h i op hp
    dsimp only
    rw[if_neg (by omega)]
  unfold loopP
  rw[ho]
  exact goP_none ws lvl k x d (by omega) fun i op hp=>by have:=h i op hp;have h2:=opAt_pow ws (lvl+k) p (by omega);rw[ho,hp] at h2;dsimp only at h2;split at h2;cases h2;omega
theorem goP_step (ws:List Wd)(lvl:Nat){p i:Nat}{op:Int}(hp:powAt ws p=some (i,op)):∀k x d,lvl+k≤5→lvl≤i→i<lvl+k→goP (fullP ws) lvl k x p d=((fullP ws).E (i+1) (p+1) d).bind fun r q=>goP (fullP ws) lvl (if i=2 then 2-lvl else i-lvl+1) (mk2 op x r) q d
 |0,x,d,_,h1,h2=>by omega
 |k+1,x,d,hk,h1,h2=>by
  rw[goP,full_L]
  unfold loopP
  have ho:=opAt_pow ws (lvl+k) p (by omega)
  rw[hp] at ho
  dsimp only at ho
  by_cases hi:i=lvl+k
  ·rw[if_pos hi] at ho
   rw[ho]
   dsimp only
   rw[Rs.bind_assoc,←hi]
   congr 1
   funext r q
   by_cases h3:i=2
   ·rw[if_pos h3,if_pos h3,show k=2-lvl by omega]
    rfl
   ·rw[if_neg h3,if_neg h3,show i-lvl+1=k+1 by omega,goP,hi]
  ·rw[if_neg hi] at ho
   rw[ho]
   exact goP_step ws lvl hp k x d (by omega) h1 (by omega)
end Go.Proofs.YtaamkfajnpobfaaGreat
namespace Go.Proofs.YtaamkfajnpobfaaGreat
open Go.RowKit
structure SW (K:Ctx)(w:World)(p:Nat)(o:Int)(dp bd:Bool):Prop where
 blk:Blk w K.g 69 #[.slice K.A K.ws.length K.c, .int .i64 (p:Int), .int .i64 o, .bool dp, .bool bd]
 rd:Reads w K.B 4 K.A K.ws.length (wdCells K.ws)
 p_le:p≤K.ws.length
 o_le:0≤o∧o≤1000
 le:K.B≤K.g
theorem SW.step {K:Ctx}{w w':World}{p:Nat}{o:Int}{dp bd:Bool}(h:SW K w p o dp bd)(hb:Below w.heap.size w w'):SW K w' p o dp bd:=⟨h.blk.step hb,h.rd.below (hb.mono (by have:=h.blk.lt;have:=h.le;omega)),h.p_le,h.o_le,h.le⟩
theorem SW.put {K:Ctx}{w w':World}{p g:Nat}{o:Int}{dp bd:Bool}{T:TypeId}{cur cs:Array Value}{E:Prop}(h:SW K w p o dp bd)(k:Blk w g T cur)(pw:Put w w' g T cs)(_e:E)(hne:K.g<g:=by omega):SW K w' p o dp bd:=⟨h.blk.put pw (by omega),h.rd.below (pw.below (by have:=h.le;omega) k.lt),h.p_le,h.o_le,h.le⟩
theorem SW.to {K:Ctx}{w W:World}{h0 p:Nat}{o:Int}{dp bd:Bool}(h:SW K w p o dp bd)(hK:K.B≤K.g)(bel:Fz h0 K.g w W){p':Nat}{o':Int}{dp' bd':Bool}(hb:Blk W K.g 69 #[.slice K.A K.ws.length K.c, .int .i64 (p':Int), .int .i64 o', .bool dp', .bool bd']) (hp:p'≤K.ws.length) (ho:0≤o'∧o'≤1000) (hh:K.B≤h0:=by omega):SW K W p' o' dp' bd':=
 ⟨hb,h.rd.below (bel.below hh hK),hp,ho,hK⟩
def txtQ (ws:List Wd)(p:Nat)(bd:Bool)(k:Int):List Nat:=if bd=true then [] else if(wAt ws p).kind=k then(wAt ws p).text else []
theorem wAt_some {ws:List Wd}{p:Nat}{x:Wd}(h:ws[p]? =some x):wAt ws p=x:=by unfold wAt;rw[List.getD_eq_getElem?_getD,h];rfl
theorem wAt_none {ws:List Wd}{p:Nat}(h:ws.length≤p):wAt ws p=⟨-1,[],0,0⟩:=by unfold wAt;rw[List.getD_eq_getElem?_getD,List.getElem?_eq_none h];rfl
theorem Ctx.Ok.wAt {K:Ctx}(hK:K.Ok)(p:Nat):I64 (wAt K.ws p).kind∧I64 (wAt K.ws p).n∧(∀c∈(wAt K.ws p).text,c<256)∧(wAt K.ws p).text.length≤4000:=by
 obtain⟨a1,a2,a3,a4,a5⟩:=hK.at_ p
 obtain⟨b1,b2,b3⟩:=K.at_kind p
 rw[←b1,←b2,←b3]
 exact⟨a1,a2,a3,a4⟩
theorem txtQ_lt {K:Ctx}(hK:K.Ok)(p:Nat)(bd:Bool)(k:Int):∀c∈txtQ K.ws p bd k,c<256:=by
 unfold txtQ
 split
 ·simp
 split
 ·exact(hK.wAt p).2.2.1
 ·simp
theorem text_any (K:Ctx)(hK:K.Ok)(p:Nat)(o:Int)(dp bd:Bool)(k:Int)(w:World)(h:SW K w p o dp bd)(hk:0≤k):Calls Tryz.prog 66 #[.pointer (some ⟨K.g,0,none⟩), .int .i64 k] w fun e w'=>e= .returned (.string (strOf (txtQ K.ws p bd k)))∧Grow w w':=by
 have bel:=Below.refl w.heap.size w
 have k99:=h.blk
 have hrd:=h.rd
 have hlt:=h.blk.lt
 have hBg:=hK.le
 have hpl:=h.p_le
 refine Zs 47 Tryz.func66 ?_
 refine Zsr ?_
 refine Za ?_
 refine Zk3 0 1 4 (Zts (Cd.seq ?_))
 cases bd with
 |true=>
  refine Cd.draw 31 (by kernel_rfl) [] (.inl rfl) rfl Grow Grow.refl (fun _ _ _=>Grow.trans) ?_
  intro w1 hw1 zw1
  replace bel:=bel.step hw1
  replace k99:=k99.step hw1
  have zbel:=bel.size
  have zlt:=k99.lt
  refine Zdm ?_
  refine Zd (fun w hG=>Runs.nilCheck rfl rfl) ?_
  refine Zd (fun w hG=>Runs.fieldB 4 rfl rfl Tryz.underlying69 rfl (by kernel_rfl)) ?_
  refine Zd (fun w hG=>Runs.loadB rfl rfl Tryz.underlying4 rfl (k99.step hG) rfl) ?_
  refine Zdm ?_
  refine Zds ?_
  refine Zds ?_
  refine Zds ?_
  refine Zds ?_
  refine Zds ?_
  refine Zds ?_
  refine Zds ?_
  refine Zds ?_
  refine Zds ?_
  refine Zds ?_
  refine Zd (fun w hG=>Runs.pickT rfl rfl rfl) ?_
  refine Zdm ?_
  refine Zds ?_
  refine Zds ?_
  refine Zds ?_
  refine Zds ?_
  refine Zds ?_
  refine Zds ?_
  refine Zds ?_
  refine Zds ?_
  refine Zds ?_
  refine Zds ?_
  refine Zds ?_
  refine Zds ?_
  refine Zds ?_
  refine Zd (fun w hG=>Runs.pickT rfl rfl rfl) ?_
  refine Dr.nil ?_
  refine FinX.done (F':=[(0,_),(1,_),(4,_),(35,_)]) rfl ⟨rfl,rfl,rfl,rfl,trivial⟩ ?_
  intro w2 hw2 fw2
  replace bel:=bel.step hw2
  replace k99:=k99.step hw2
  refine Zk4 0 1 4 35 (Zt ?_)
  refine Cd.condT rfl rfl ?_
  refine Zsr ?_
  refine Za ?_
  refine Zk4 0 1 4 35 (Zt (Cd.ret (Post.then_ret ?_)))
  refine Post.end1 rfl rfl (.inl rfl) ?_
  exact⟨rfl,bel⟩
 |false=>
  have hq:txtQ K.ws p false k=if(wAt K.ws p).kind=k then(wAt K.ws p).text else []:=rfl
  rcases Nat.lt_or_ge p K.ws.length with hp|hp
  ·obtain⟨ad,hA,hadb,hcell⟩:=hrd.2 (by omega)
   obtain⟨x,hx⟩:∃x,K.ws[p]? =some x:=⟨_,List.getElem?_eq_getElem (by omega)⟩
   have hat:=wAt_some hx
   have hce:∀W,Below w.heap.size w W→∀(q:Nat) (u:Value),([.int .i64 x.kind, .string (strOf x.text), .int .i64 x.n, .int .i64 (x.pos:Int)]:List Value)[q]? =some u→W.cell? ((ad.add (p*4)).add q)=some u:=fun W hb q u hu=>by
    rw[(hb.mono (show K.B≤w.heap.size by omega)).cell (by rw[block_of_add,block_of_add];exact hadb),add_of_add]
    exact hcell _ _ (wdCells_row K.ws p x hx q u hu)
   rw[hA] at k99
   rw[hq,hat]
   by_cases hc:x.kind=k
   ·rw[if_pos hc]
    refine Cd.draw 31 (by kernel_rfl) [] (.inl rfl) rfl Grow Grow.refl (fun _ _ _=>Grow.trans) ?_
    intro w1 hw1 zw1
    replace bel:=bel.step hw1
    replace k99:=k99.step hw1
    have zbel:=bel.size
    have zlt:=k99.lt
    refine Zdm ?_
    refine Zd (fun w hG=>Runs.nilCheck rfl rfl) ?_
    refine Zd (fun w hG=>Runs.fieldB 4 rfl rfl Tryz.underlying69 rfl (by kernel_rfl)) ?_
    refine Zd (fun w hG=>Runs.loadB rfl rfl Tryz.underlying4 rfl (k99.step hG) rfl) ?_
    refine Zdm ?_
    refine Zdg (fun w hG=>Runs.move rfl rfl) ?_
    refine Zdg (fun w hG=>Runs.nilCheck rfl rfl) ?_
    refine Zdg (fun w hG=>Runs.fieldB 1 rfl rfl Tryz.underlying69 rfl (by kernel_rfl)) ?_
    refine Zdg (fun w hG=>Runs.loadB rfl rfl Tryz.underlying3 rfl (k99.step hG) rfl) ?_
    refine Zdg (fun w hG=>Runs.move rfl rfl) ?_
    refine Zdg (fun w hG=>Runs.nilCheck rfl rfl) ?_
    refine Zdg (fun w hG=>Runs.fieldB 0 rfl rfl Tryz.underlying69 rfl (by kernel_rfl)) ?_
    refine Zdg (fun w hG=>Runs.loadB rfl rfl Tryz.underlying64 rfl (k99.step hG) rfl) ?_
    refine Zdg (fun w hG=>Runs.len rfl rfl Tryz.underlying64) ?_
    refine Zdg (fun w hG=>(Runs.geq rfl rfl rfl).isF (by omega)) ?_
    refine Zd (fun w hG=>Runs.pickF rfl rfl rfl) ?_
    refine Zdm ?_
    refine Zdg (fun w hG=>Runs.move rfl rfl) ?_
    refine Zdg (fun w hG=>Runs.nilCheck rfl rfl) ?_
    refine Zdg (fun w hG=>Runs.fieldB 0 rfl rfl Tryz.underlying69 rfl (by kernel_rfl)) ?_
    refine Zdg (fun w hG=>Runs.loadB rfl rfl Tryz.underlying64 rfl (k99.step hG) rfl) ?_
    refine Zdg (fun w hG=>Runs.move rfl rfl) ?_
    refine Zdg (fun w hG=>Runs.nilCheck rfl rfl) ?_
    refine Zdg (fun w hG=>Runs.fieldB 1 rfl rfl Tryz.underlying69 rfl (by kernel_rfl)) ?_
    refine Zdg (fun w hG=>Runs.loadB rfl rfl Tryz.underlying3 rfl (k99.step hG) rfl) ?_
    refine Zdg (fun w hG=>Runs.indexN rfl rfl rfl Tryz.underlying64 (s:=4) (by kernel_rfl) (j:=p) rfl (by omega)) ?_
    refine Zdg (fun w hG=>Runs.fieldA 0 rfl rfl Tryz.underlying109 rfl (by kernel_rfl)) ?_
    refine Zdg (fun w hG=>Runs.load1 rfl rfl Tryz.underlying3 rfl (hce _ (bel.step hG) 0 _ rfl)) ?_
    refine Zdg (fun w hG=>Runs.move rfl rfl) ?_
    refine Zdg (fun w hG=>(Runs.neqI rfl rfl rfl).isF (fun h=>h hc)) ?_
    refine Zd (fun w hG=>Runs.pickF rfl rfl rfl) ?_
    refine Dr.nil ?_
    refine FinX.done (F':=[(0,_),(1,_),(4,_),(35,_)]) rfl ⟨rfl,rfl,rfl,rfl,trivial⟩ ?_
    intro w2 hw2 fw2
    replace bel:=bel.step hw2
    replace k99:=k99.step hw2
    refine Zk4 0 1 4 35 (Zt ?_)
    refine Cd.condF rfl rfl ?_
    refine Cd.skip (Zts ?_)
    refine Cd.weak (F':=[(0,_),(1,_),(35,_)]) ⟨rfl,rfl,rfl,trivial⟩ ?_
    refine Cd.draw 12 (by kernel_rfl) [] (.inl rfl) rfl Grow Grow.refl (fun _ _ _=>Grow.trans) ?_
    intro w3 hw3 zw3
    replace bel:=bel.step hw3
    replace k99:=k99.step hw3
    have zbel:=bel.size
    have zlt:=k99.lt
    refine Zdm ?_
    refine Zd (fun w hG=>Runs.nilCheck rfl rfl) ?_
    refine Zd (fun w hG=>Runs.fieldB 0 rfl rfl Tryz.underlying69 rfl (by kernel_rfl)) ?_
    refine Zd (fun w hG=>Runs.loadB rfl rfl Tryz.underlying64 rfl (k99.step hG) rfl) ?_
    refine Zdm ?_
    refine Zd (fun w hG=>Runs.nilCheck rfl rfl) ?_
    refine Zd (fun w hG=>Runs.fieldB 1 rfl rfl Tryz.underlying69 rfl (by kernel_rfl)) ?_
    refine Zd (fun w hG=>Runs.loadB rfl rfl Tryz.underlying3 rfl (k99.step hG) rfl) ?_
    refine Zd (fun w hG=>Runs.indexN rfl rfl rfl Tryz.underlying64 (s:=4) (by kernel_rfl) (j:=p) rfl (by omega)) ?_
    refine Zd (fun w hG=>Runs.fieldA 1 rfl rfl Tryz.underlying109 rfl (by kernel_rfl)) ?_
    refine Zd (fun w hG=>Runs.load1 rfl rfl Tryz.underlying9 rfl (hce _ (bel.step hG) 1 _ rfl)) ?_
    refine Zd (fun w hG=>Runs.assign rfl rfl) ?_
    refine Dr.nil ?_
    refine FinX.done (F':=[(0,_),(1,_),(4,_),(35,_)]) rfl ⟨rfl,rfl,rfl,rfl,trivial⟩ ?_
    intro w4 hw4 fw4
    replace bel:=bel.step hw4
    replace k99:=k99.step hw4
    refine Zk4 0 1 4 35 (Zt (Cd.ret ?_))
    refine Post.end1 rfl rfl (.inl rfl) ?_
    exact⟨rfl,bel⟩
   ·rw[if_neg hc]
    refine Cd.draw 31 (by kernel_rfl) [] (.inl rfl) rfl Grow Grow.refl (fun _ _ _=>Grow.trans) ?_
    intro w1 hw1 zw1
    replace bel:=bel.step hw1
    replace k99:=k99.step hw1
    have zbel:=bel.size
    have zlt:=k99.lt
    refine Zdm ?_
    refine Zd (fun w hG=>Runs.nilCheck rfl rfl) ?_
    refine Zd (fun w hG=>Runs.fieldB 4 rfl rfl Tryz.underlying69 rfl (by kernel_rfl)) ?_
    refine Zd (fun w hG=>Runs.loadB rfl rfl Tryz.underlying4 rfl (k99.step hG) rfl) ?_
    refine Zdm ?_
    refine Zdg (fun w hG=>Runs.move rfl rfl) ?_
    refine Zdg (fun w hG=>Runs.nilCheck rfl rfl) ?_
    refine Zdg (fun w hG=>Runs.fieldB 1 rfl rfl Tryz.underlying69 rfl (by kernel_rfl)) ?_
    refine Zdg (fun w hG=>Runs.loadB rfl rfl Tryz.underlying3 rfl (k99.step hG) rfl) ?_
    refine Zdg (fun w hG=>Runs.move rfl rfl) ?_
    refine Zdg (fun w hG=>Runs.nilCheck rfl rfl) ?_
    refine Zdg (fun w hG=>Runs.fieldB 0 rfl rfl Tryz.underlying69 rfl (by kernel_rfl)) ?_
    refine Zdg (fun w hG=>Runs.loadB rfl rfl Tryz.underlying64 rfl (k99.step hG) rfl) ?_
    refine Zdg (fun w hG=>Runs.len rfl rfl Tryz.underlying64) ?_
    refine Zdg (fun w hG=>(Runs.geq rfl rfl rfl).isF (by omega)) ?_
    refine Zd (fun w hG=>Runs.pickF rfl rfl rfl) ?_
    refine Zdm ?_
    refine Zdg (fun w hG=>Runs.move rfl rfl) ?_
    refine Zdg (fun w hG=>Runs.nilCheck rfl rfl) ?_
    refine Zdg (fun w hG=>Runs.fieldB 0 rfl rfl Tryz.underlying69 rfl (by kernel_rfl)) ?_
    refine Zdg (fun w hG=>Runs.loadB rfl rfl Tryz.underlying64 rfl (k99.step hG) rfl) ?_
    refine Zdg (fun w hG=>Runs.move rfl rfl) ?_
    refine Zdg (fun w hG=>Runs.nilCheck rfl rfl) ?_
    refine Zdg (fun w hG=>Runs.fieldB 1 rfl rfl Tryz.underlying69 rfl (by kernel_rfl)) ?_
    refine Zdg (fun w hG=>Runs.loadB rfl rfl Tryz.underlying3 rfl (k99.step hG) rfl) ?_
    refine Zdg (fun w hG=>Runs.indexN rfl rfl rfl Tryz.underlying64 (s:=4) (by kernel_rfl) (j:=p) rfl (by omega)) ?_
    refine Zdg (fun w hG=>Runs.fieldA 0 rfl rfl Tryz.underlying109 rfl (by kernel_rfl)) ?_
    refine Zdg (fun w hG=>Runs.load1 rfl rfl Tryz.underlying3 rfl (hce _ (bel.step hG) 0 _ rfl)) ?_
    refine Zdg (fun w hG=>Runs.move rfl rfl) ?_
    refine Zdg (fun w hG=>(Runs.neqI rfl rfl rfl).isT (hc)) ?_
    refine Zd (fun w hG=>Runs.pickF rfl rfl rfl) ?_
    refine Dr.nil ?_
    refine FinX.done (F':=[(0,_),(1,_),(4,_),(35,_)]) rfl ⟨rfl,rfl,rfl,rfl,trivial⟩ ?_
    intro w2 hw2 fw2
    replace bel:=bel.step hw2
    replace k99:=k99.step hw2
    refine Zk4 0 1 4 35 (Zt ?_)
    refine Cd.condT rfl rfl ?_
    refine Zsr ?_
    refine Za ?_
    refine Zk4 0 1 4 35 (Zt (Cd.ret (Post.then_ret ?_)))
    refine Post.end1 rfl rfl (.inl rfl) ?_
    exact⟨rfl,bel⟩
  ·rw[hq,wAt_none hp,if_neg (show¬(-1:Int)=k by omega)]
   refine Cd.draw 31 (by kernel_rfl) [] (.inl rfl) rfl Grow Grow.refl (fun _ _ _=>Grow.trans) ?_
   intro w1 hw1 zw1
   replace bel:=bel.step hw1
   replace k99:=k99.step hw1
   have zbel:=bel.size
   have zlt:=k99.lt
   refine Zdm ?_
   refine Zd (fun w hG=>Runs.nilCheck rfl rfl) ?_
   refine Zd (fun w hG=>Runs.fieldB 4 rfl rfl Tryz.underlying69 rfl (by kernel_rfl)) ?_
   refine Zd (fun w hG=>Runs.loadB rfl rfl Tryz.underlying4 rfl (k99.step hG) rfl) ?_
   refine Zdm ?_
   refine Zdg (fun w hG=>Runs.move rfl rfl) ?_
   refine Zdg (fun w hG=>Runs.nilCheck rfl rfl) ?_
   refine Zdg (fun w hG=>Runs.fieldB 1 rfl rfl Tryz.underlying69 rfl (by kernel_rfl)) ?_
   refine Zdg (fun w hG=>Runs.loadB rfl rfl Tryz.underlying3 rfl (k99.step hG) rfl) ?_
   refine Zdg (fun w hG=>Runs.move rfl rfl) ?_
   refine Zdg (fun w hG=>Runs.nilCheck rfl rfl) ?_
   refine Zdg (fun w hG=>Runs.fieldB 0 rfl rfl Tryz.underlying69 rfl (by kernel_rfl)) ?_
   refine Zdg (fun w hG=>Runs.loadB rfl rfl Tryz.underlying64 rfl (k99.step hG) rfl) ?_
   refine Zdg (fun w hG=>Runs.len rfl rfl Tryz.underlying64) ?_
   refine Zdg (fun w hG=>(Runs.geq rfl rfl rfl).isT (by omega)) ?_
   refine Zd (fun w hG=>Runs.pickF rfl rfl rfl) ?_
   refine Zdm ?_
   refine Zds ?_
   refine Zds ?_
   refine Zds ?_
   refine Zds ?_
   refine Zds ?_
   refine Zds ?_
   refine Zds ?_
   refine Zds ?_
   refine Zds ?_
   refine Zds ?_
   refine Zds ?_
   refine Zds ?_
   refine Zds ?_
   refine Zd (fun w hG=>Runs.pickT rfl rfl rfl) ?_
   refine Dr.nil ?_
   refine FinX.done (F':=[(0,_),(1,_),(4,_),(35,_)]) rfl ⟨rfl,rfl,rfl,rfl,trivial⟩ ?_
   intro w2 hw2 fw2
   replace bel:=bel.step hw2
   replace k99:=k99.step hw2
   refine Zk4 0 1 4 35 (Zt ?_)
   refine Cd.condT rfl rfl ?_
   refine Zsr ?_
   refine Za ?_
   refine Zk4 0 1 4 35 (Zt (Cd.ret (Post.then_ret ?_)))
   refine Post.end1 rfl rfl (.inl rfl) ?_
   exact⟨rfl,bel⟩
def takeQ (ws:List Wd)(s:List Nat)(p:Nat)(bd:Bool):Nat × Bool:=if bd=false∧isS ws p s=true then(p+1,false) else(p,true)
theorem txtQ_isS {ws:List Wd}{p:Nat}{bd:Bool}{s:List Nat}(hs:s≠ []):txtQ ws p bd 0=s↔bd=false∧isS ws p s=true:=by
 unfold txtQ isS
 cases bd with
 |true=>
  rw[if_pos rfl]
  exact⟨fun h=>absurd h.symm hs,fun h=>by cases h.1⟩
 |false=>
  rw[if_neg (by simp)]
  by_cases hk:(wAt ws p).kind=0
  ·rw[if_pos hk];simp[hk]
  ·rw[if_neg hk]
   exact⟨fun h=>absurd h.symm hs,fun h=>by simp[hk] at h⟩
theorem isS_lt {ws:List Wd}{p:Nat}{s:List Nat}(h:isS ws p s=true):p<ws.length:=by
 rcases Nat.lt_or_ge p ws.length with hp|hp
 ·exact hp
 ·unfold isS at h
  rw[wAt_none hp] at h
  simp at h
theorem take_any (K:Ctx)(hK:K.Ok)(p:Nat)(o:Int)(dp bd:Bool)(s:List Nat)(w:World)(h:SW K w p o dp bd)(hs:∀x∈s,x<256)(hne:s≠ []):Calls Tryz.prog 67 #[.pointer (some ⟨K.g,0,none⟩), .string (strOf s)] w fun e w'=>(∃v,e= .returned v)∧Fz w.heap.size K.g w w'∧SW K w' (takeQ K.ws s p bd).1 o dp (takeQ K.ws s p bd).2:=by
 have bel:=Fz.refl w.heap.size K.g w
 have k99:=h.blk
 have e99:K.g=K.g:=rfl
 have hlt:=h.blk.lt
 have hle:=hK.le
 have hpl:=h.p_le
 have hlen:=hK.len
 have htx:=text_any K hK p o dp bd 0 w h (by omega)
 have htl:=txtQ_lt hK p bd 0
 refine Zs 18 Tryz.func67 ?_
 refine Cd.seq (Zsr ?_)
 refine Zm ?_
 refine Zc (Ze Tryz.func66) (htx) ?_
 rintro e w5 ⟨rfl,hb5⟩
 refine⟨_,rfl,?_⟩
 replace bel:=bel.step hb5
 replace k99:=k99.step hb5
 refine Zm ?_
 refine Zv (Runs.neqL rfl rfl rfl htl hs) ?_
 refine Zk3 0 1 7 (Zt ?_)
 refine Cd.condD rfl (fun hc=> ?_) (fun hc=> ?_)
 ·have hq:takeQ K.ws s p bd=(p,true):=by unfold takeQ;rw[if_neg (fun h=>hc ((txtQ_isS hne).2 h))]
  refine Zsr ?_
  refine Zm ?_
  refine Zv (Runs.nilCheck rfl rfl) ?_
  refine Zf 4 Tryz.underlying69 ?_
  refine Zq k99 ?_
  intro w1 pw1
  replace bel:=bel.put k99 pw1 e99
  replace k99:=pw1.blk
  refine Zk3 0 1 7 (Zt (Cd.ret (Post.then_ret ?_)))
  refine Post.end0 rfl (.inl rfl) ?_
  rw[hq]
  exact⟨⟨_,rfl⟩,bel,h.to hle bel k99 hpl h.o_le⟩
 ·have hc:=(txtQ_isS hne).1 (Decidable.not_not.1 hc)
  have hq:takeQ K.ws s p bd=(p+1,false):=by unfold takeQ;rw[if_pos hc]
  have hp:=isS_lt hc.2
  obtain rfl:=hc.1
  refine Cd.skip (Ztr ?_)
  refine Zm ?_
  refine Zv (Runs.nilCheck rfl rfl) ?_
  refine Zf 1 Tryz.underlying69 ?_
  refine Zv (Runs.loadB rfl rfl Tryz.underlying3 rfl k99 rfl) ?_
  refine Za_ ?_
  refine Zv (Runs.nilCheck rfl rfl) ?_
  refine Zf 1 Tryz.underlying69 ?_
  refine Zq k99 ?_
  intro w1 pw1
  replace bel:=bel.put k99 pw1 e99
  replace k99:=pw1.blk
  refine Zk3 0 1 7 ?_
  refine Post.end0 rfl (.inr rfl) ?_
  rw[hq]
  exact⟨⟨_,rfl⟩,bel,h.to hle bel (by rw[Int.natCast_add];exact k99) (by show p+1≤_;omega) h.o_le⟩
theorem enterS_any (K:Ctx)(hK:K.Ok)(p:Nat)(o:Int)(dp bd:Bool)(w:World)(h:SW K w p o dp bd)(ho:o≤900):Calls Tryz.prog 68 #[.pointer (some ⟨K.g,0,none⟩)] w fun e w'=>(∃v,e= .returned v)∧Fz w.heap.size K.g w w'∧SW K w' p (o+1) (if 64<o+1∧bd=false then true else dp) (if 64<o+1∧bd=false then true else bd):=by
 have bel:=Fz.refl w.heap.size K.g w
 have k99:=h.blk
 have e99:K.g=K.g:=rfl
 have hlt:=h.blk.lt
 have hle:=hK.le
 have hpl:=h.p_le
 have hlen:=hK.len
 have hol:=h.o_le
 refine Zs 27 Tryz.func68 ?_
 refine Zsr ?_
 refine Zm ?_
 refine Zv (Runs.nilCheck rfl rfl) ?_
 refine Zf 2 Tryz.underlying69 ?_
 refine Zv (Runs.loadB rfl rfl Tryz.underlying3 rfl k99 rfl) ?_
 refine Za_ ?_
 refine Zv (Runs.nilCheck rfl rfl) ?_
 refine Zf 2 Tryz.underlying69 ?_
 refine Zq k99 ?_
 intro w1 pw1
 replace bel:=bel.put k99 pw1 e99
 replace k99:=pw1.blk
 refine Zk1 0 (Ztq ?_)
 refine Zm ?_
 refine Zv (Runs.nilCheck rfl rfl) ?_
 refine Zf 2 Tryz.underlying69 ?_
 refine Zv (Runs.loadB rfl rfl Tryz.underlying3 rfl k99 rfl) ?_
 refine Zv (Runs.gtr rfl rfl rfl) ?_
 refine Zm ?_
 refine SeqC.start ?_
 refine Zco (fun hcx=>Runs.move rfl rfl) ?_
 refine SeqC.next rfl rfl rfl rfl rfl rfl rfl (fun hcx=>Runs.nilCheck rfl rfl) ?_
 refine SeqC.next rfl rfl rfl rfl rfl rfl rfl (fun hcx=>Runs.fieldB 4 rfl rfl Tryz.underlying69 rfl (by kernel_rfl)) ?_
 refine SeqC.next rfl rfl rfl rfl rfl rfl rfl (fun hcx=>Runs.loadB rfl rfl Tryz.underlying4 rfl k99 rfl) ?_
 refine SeqC.next rfl rfl rfl rfl rfl rfl rfl (fun hcx=>Runs.not rfl rfl) ?_
 refine SeqC.and rfl rfl rfl rfl rfl rfl rfl ?_
 refine Zk2 0 20 (Zt ?_)
 refine Cd.cond rfl (fun hc=> ?_) (fun hc=> ?_)
 ·have hc:64<o+1∧bd=false:=by simpa using hc
  refine Zsr ?_
  refine Zm ?_
  refine Zv (Runs.nilCheck rfl rfl) ?_
  refine Zf 3 Tryz.underlying69 ?_
  refine Zq k99 ?_
  intro w2 pw2
  replace bel:=bel.put k99 pw2 e99
  replace k99:=pw2.blk
  refine Zk2 0 20 (Ztr ?_)
  refine Zm ?_
  refine Zv (Runs.nilCheck rfl rfl) ?_
  refine Zf 4 Tryz.underlying69 ?_
  refine Zq k99 ?_
  intro w3 pw3
  replace bel:=bel.put k99 pw3 e99
  replace k99:=pw3.blk
  refine Zk2 0 20 ?_
  refine Post.end0 rfl (.inr rfl) ?_
  rw[if_pos hc,if_pos hc]
  exact⟨⟨_,rfl⟩,bel,h.to hle bel k99 hpl (by omega)⟩
 ·have hc:¬(64<o+1∧bd=false):=by simpa using hc
  refine Cd.skip ?_
  refine Post.end0 rfl (.inr rfl) ?_
  rw[if_neg hc,if_neg hc]
  exact⟨⟨_,rfl⟩,bel,h.to hle bel k99 hpl (by omega)⟩
end Go.Proofs.YtaamkfajnpobfaaGreat
namespace Go.Proofs.YtaamkfajnpobfaaGreat
open Go.RowKit
def powZ (t:List Nat):Int × Int:=match powL t with
 |some (i,op)=>((i:Int)+1,op)
 |none=>(0,0)
theorem power_any (t:List Nat)(w:World)(ht:∀x∈t,x<256):Calls Tryz.prog 76 #[.string (strOf t)] w fun e w'=>e= .returned (.tuple #[.int .i64 (powZ t).1, .int .i64 (powZ t).2])∧Grow w w':=by
 have bel:=Below.refl w.heap.size w
 refine Zs 29 Tryz.func76 ?_
 refine Zsr ?_
 refine Za ?_
 refine Za ?_
 refine Zk3 0 2 3 (Zts (Zsr ?_))
 refine Zm ?_
 refine Zk4 0 2 3 4 (Zt (Cd.block (Zsr ?_)))
 refine Zv (Runs.eqlL (b:=[124]) rfl rfl rfl ht (by decide)) ?_
 refine Za ?_
 refine Zk5 0 2 3 4 5 (Zt ?_)
 refine Cd.condD rfl (fun c0=> ?_) (fun c0=> ?_)
 ·subst c0
  refine Zsr ?_
  refine Za ?_
  refine Za ?_
  refine Zk5 0 2 3 4 5 (Zt (Cd.ret (Post.block_ret (Post.then_ret ?_))))
  refine Post.end2 rfl rfl rfl (.inl rfl) ?_
  exact⟨rfl,bel⟩
 refine Zsr ?_
 refine Zv (Runs.eqlL (b:=[38]) rfl rfl rfl ht (by decide)) ?_
 refine Za ?_
 refine Zk6 0 2 3 4 5 7 (Zt ?_)
 refine Cd.condD rfl (fun c1=> ?_) (fun c1=> ?_)
 ·subst c1
  refine Zsr ?_
  refine Za ?_
  refine Za ?_
  refine Zk6 0 2 3 4 5 7 (Zt (Cd.ret (Post.block_ret (Post.then_ret ?_))))
  refine Post.end2 rfl rfl rfl (.inl rfl) ?_
  exact⟨rfl,bel⟩
 refine Zsr ?_
 refine Zv (Runs.eqlL (b:=[60]) rfl rfl rfl ht (by decide)) ?_
 refine Za ?_
 refine Zk7 0 2 3 4 5 7 9 (Zt ?_)
 refine Cd.condD rfl (fun c2=> ?_) (fun c2=> ?_)
 ·subst c2
  refine Zsr ?_
  refine Za ?_
  refine Za ?_
  refine Zk7 0 2 3 4 5 7 9 (Zt (Cd.ret (Post.block_ret (Post.then_ret ?_))))
  refine Post.end2 rfl rfl rfl (.inl rfl) ?_
  exact⟨rfl,bel⟩
 refine Zsr ?_
 refine Zv (Runs.eqlL (b:=[60,61]) rfl rfl rfl ht (by decide)) ?_
 refine Za ?_
 refine Zk8 0 2 3 4 5 7 9 11 (Zt ?_)
 refine Cd.condD rfl (fun c3=> ?_) (fun c3=> ?_)
 ·subst c3
  refine Zsr ?_
  refine Za ?_
  refine Za ?_
  refine Zk8 0 2 3 4 5 7 9 11 (Zt (Cd.ret (Post.block_ret (Post.then_ret ?_))))
  refine Post.end2 rfl rfl rfl (.inl rfl) ?_
  exact⟨rfl,bel⟩
 refine Zsr ?_
 refine Zv (Runs.eqlL (b:=[61]) rfl rfl rfl ht (by decide)) ?_
 refine Za ?_
 refine Zk9 0 2 3 4 5 7 9 11 13 (Zt ?_)
 refine Cd.condD rfl (fun c4=> ?_) (fun c4=> ?_)
 ·subst c4
  refine Zsr ?_
  refine Za ?_
  refine Za ?_
  refine Zk9 0 2 3 4 5 7 9 11 13 (Zt (Cd.ret (Post.block_ret (Post.then_ret ?_))))
  refine Post.end2 rfl rfl rfl (.inl rfl) ?_
  exact⟨rfl,bel⟩
 refine Zsr ?_
 refine Zv (Runs.eqlL (b:=[33,61]) rfl rfl rfl ht (by decide)) ?_
 refine Za ?_
 refine Zk10 0 2 3 4 5 7 9 11 13 15 (Zt ?_)
 refine Cd.condD rfl (fun c5=> ?_) (fun c5=> ?_)
 ·subst c5
  refine Zsr ?_
  refine Za ?_
  refine Za ?_
  refine Zk10 0 2 3 4 5 7 9 11 13 15 (Zt (Cd.ret (Post.block_ret (Post.then_ret ?_))))
  refine Post.end2 rfl rfl rfl (.inl rfl) ?_
  exact⟨rfl,bel⟩
 refine Zsr ?_
 refine Zv (Runs.eqlL (b:=[62,61]) rfl rfl rfl ht (by decide)) ?_
 refine Za ?_
 refine Zk11 0 2 3 4 5 7 9 11 13 15 17 (Zt ?_)
 refine Cd.condD rfl (fun c6=> ?_) (fun c6=> ?_)
 ·subst c6
  refine Zsr ?_
  refine Za ?_
  refine Za ?_
  refine Zk11 0 2 3 4 5 7 9 11 13 15 17 (Zt (Cd.ret (Post.block_ret (Post.then_ret ?_))))
  refine Post.end2 rfl rfl rfl (.inl rfl) ?_
  exact⟨rfl,bel⟩
 refine Zsr ?_
 refine Zv (Runs.eqlL (b:=[62]) rfl rfl rfl ht (by decide)) ?_
 refine Za ?_
 refine Zk12 0 2 3 4 5 7 9 11 13 15 17 19 (Zt ?_)
 refine Cd.condD rfl (fun c7=> ?_) (fun c7=> ?_)
 ·subst c7
  refine Zsr ?_
  refine Za ?_
  refine Za ?_
  refine Zk12 0 2 3 4 5 7 9 11 13 15 17 19 (Zt (Cd.ret (Post.block_ret (Post.then_ret ?_))))
  refine Post.end2 rfl rfl rfl (.inl rfl) ?_
  exact⟨rfl,bel⟩
 refine Zsr ?_
 refine Zv (Runs.eqlL (b:=[43]) rfl rfl rfl ht (by decide)) ?_
 refine Za ?_
 refine Zk13 0 2 3 4 5 7 9 11 13 15 17 19 21 (Zt ?_)
 refine Cd.condD rfl (fun c8=> ?_) (fun c8=> ?_)
 ·subst c8
  refine Zsr ?_
  refine Za ?_
  refine Za ?_
  refine Zk13 0 2 3 4 5 7 9 11 13 15 17 19 21 (Zt (Cd.ret (Post.block_ret (Post.then_ret ?_))))
  refine Post.end2 rfl rfl rfl (.inl rfl) ?_
  exact⟨rfl,bel⟩
 refine Zsr ?_
 refine Zv (Runs.eqlL (b:=[45]) rfl rfl rfl ht (by decide)) ?_
 refine Za ?_
 refine Zk14 0 2 3 4 5 7 9 11 13 15 17 19 21 23 (Zt ?_)
 refine Cd.condD rfl (fun c9=> ?_) (fun c9=> ?_)
 ·subst c9
  refine Zsr ?_
  refine Za ?_
  refine Za ?_
  refine Zk14 0 2 3 4 5 7 9 11 13 15 17 19 21 23 (Zt (Cd.ret (Post.block_ret (Post.then_ret ?_))))
  refine Post.end2 rfl rfl rfl (.inl rfl) ?_
  exact⟨rfl,bel⟩
 refine Zsr ?_
 refine Zv (Runs.eqlL (b:=[42]) rfl rfl rfl ht (by decide)) ?_
 refine Za ?_
 refine Zk15 0 2 3 4 5 7 9 11 13 15 17 19 21 23 25 (Zt ?_)
 refine Cd.condD rfl (fun c10=> ?_) (fun c10=> ?_)
 ·subst c10
  refine Zsr ?_
  refine Za ?_
  refine Za ?_
  refine Zk15 0 2 3 4 5 7 9 11 13 15 17 19 21 23 25 (Zt (Cd.ret (Post.block_ret (Post.then_ret ?_))))
  refine Post.end2 rfl rfl rfl (.inl rfl) ?_
  exact⟨rfl,bel⟩
 refine Zsr ?_
 refine Zv (Runs.eqlL (b:=[47]) rfl rfl rfl ht (by decide)) ?_
 refine Za ?_
 refine Zk16 0 2 3 4 5 7 9 11 13 15 17 19 21 23 25 27 (Zt ?_)
 refine Cd.condD rfl (fun c11=> ?_) (fun c11=> ?_)
 ·subst c11
  refine Zsr ?_
  refine Za ?_
  refine Za ?_
  refine Zk16 0 2 3 4 5 7 9 11 13 15 17 19 21 23 25 27 (Zt (Cd.ret (Post.block_ret (Post.then_ret ?_))))
  refine Post.end2 rfl rfl rfl (.inl rfl) ?_
  exact⟨rfl,bel⟩
 refine Cd.skip (Post.block_normal (Ztq ?_))
 refine Za ?_
 refine Za ?_
 refine Zk16 0 2 3 4 5 7 9 11 13 15 17 19 21 23 25 27 (Zt (Cd.ret ?_))
 refine Post.end2 rfl rfl rfl (.inl rfl) ?_
 have hz:powZ t=(0,0):=by unfold powZ powL;simp only[if_neg c0,if_neg c1,if_neg c2,if_neg c3,if_neg c4,if_neg c5,if_neg c6,if_neg c7,if_neg c8,if_neg c9,if_neg c10,if_neg c11]
 rw[hz]
 exact⟨rfl,bel⟩
theorem singleB_any (K:Ctx)(hK:K.Ok)(p:Nat)(o:Int)(dp:Bool)(w:World)(h:SW K w p o dp true):Calls Tryz.prog 75 #[.pointer (some ⟨K.g,0,none⟩)] w fun e w'=>Grow w w'∧e= .returned (.agg #[.int .i64 0, .int .i64 0, .string (strOf []), .slice none 0 0]):=by
 have bel:=Below.refl w.heap.size w
 have k99:=h.blk
 have hlt:=h.blk.lt
 have hle:=hK.le
 refine Zs 170 Tryz.func75 ?_
 refine Zsr ?_
 refine Zl zero_api_Expr ?_
 intro g2 w1 n2
 have e2:=Nat.le_trans bel.size n2.ge
 have l2:=Nat.lt_of_lt_of_le k99.lt n2.ge
 replace bel:=bel.step n2.below
 replace k99:=k99.step n2.below
 have k2:=n2.blk
 refine Zk2 0 2 (Zts (Zsr ?_))
 refine Zm ?_
 refine Zv (Runs.nilCheck rfl rfl) ?_
 refine Zf 4 Tryz.underlying69 ?_
 refine Zv (Runs.loadB rfl rfl Tryz.underlying4 rfl k99 rfl) ?_
 refine Zk3 0 2 9 (Zt ?_)
 refine Cd.condT rfl rfl ?_
 refine Zsr ?_
 refine Zv (Runs.build rfl rfl (run_build_E0 _)) ?_
 refine Zo 4 k2 ?_
 intro w2 pw2
 replace bel:=bel.put k2 pw2 e2
 replace k99:=k99.put pw2 (by omega)
 replace k2:=pw2.blk
 refine Zk3 0 2 9 (Zt (Cd.ret (Post.then_ret ?_)))
 refine Post.endC rfl rfl k2 Tryz.underlying35 rfl (m:=4) (by kernel_rfl) rfl (.inl rfl) ?_
 exact⟨bel,rfl⟩
theorem exprB_any (K:Ctx)(hK:K.Ok)(p:Nat)(o:Int)(dp:Bool)(least:Int)(w:World)(h:SW K w p o dp true):Calls Tryz.prog 33 #[.pointer (some ⟨K.g,0,none⟩), .int .i64 least] w fun e w'=>Grow w w'∧e= .returned (.agg #[.int .i64 0, .int .i64 0, .string (strOf []), .slice none 0 0]):=by
 have bel:=Below.refl w.heap.size w
 have k99:=h.blk
 have hlt:=h.blk.lt
 have hle:=hK.le
 have hs:=fun W (hb:Below w.heap.size w W)=>singleB_any K hK p o dp W (h.to hle (Fz.of hb) (h.blk.step hb) h.p_le h.o_le)
 refine Zs 56 Tryz.func33 ?_
 refine Zsr ?_
 refine Zl zero_api_Expr ?_
 intro g4 w1 n4
 have e4:=Nat.le_trans bel.size n4.ge
 have l4:=Nat.lt_of_lt_of_le k99.lt n4.ge
 replace bel:=bel.step n4.below
 replace k99:=k99.step n4.below
 have k4:=n4.blk
 refine Zk3 0 1 4 (Ztq ?_)
 refine Zm ?_
 refine Zc (Ze Tryz.func75) (hs _ bel) ?_
 rintro e w9 ⟨hb9,rfl⟩
 refine⟨_,rfl,?_⟩
 replace bel:=bel.step hb9
 replace k99:=k99.step hb9
 replace k4:=k4.step hb9
 refine Zl zero_api_Expr ?_
 intro g5 w2 n5
 have e5:=Nat.le_trans bel.size n5.ge
 have l5:=Nat.lt_of_lt_of_le k4.lt n5.ge
 have l5_k99:=Nat.lt_of_lt_of_le k99.lt n5.ge
 replace bel:=bel.step n5.below
 replace k99:=k99.step n5.below
 replace k4:=k4.step n5.below
 have k5:=n5.blk
 refine Zo 4 k5 ?_
 intro w3 pw3
 replace bel:=bel.put k5 pw3 e5
 replace k99:=k99.put pw3 (by omega)
 replace k4:=k4.put pw3 (by omega)
 replace k5:=pw3.blk
 refine Zk4 0 1 4 5 (Ztq ?_)
 refine Za ?_
 refine Zk5 0 1 4 5 6 (Zts (Cd.block ?_))
 refine Cd.loop (σ:=Unit) (fun _=>[(0, .pointer (some ⟨K.g,0,none⟩)),(4, .pointer (some ⟨g4,0,none⟩)),(5, .pointer (some ⟨g5,0,none⟩))]) (fun _ wr=>Below w.heap.size w wr∧Blk wr K.g 69 #[.slice K.A K.ws.length K.c, .int .i64 (p:Int), .int .i64 o, .bool dp, .bool true]∧Blk wr g4 35 #[.int .i64 0, .int .i64 0, .string {data:= #[]}, .slice none 0 0]∧Blk wr g5 35 #[.int .i64 0, .int .i64 0, .string (strOf []), .slice none 0 0]) (fun _=>0) () ⟨bel,k99,k4,k5⟩ ⟨rfl,rfl,rfl,trivial⟩ ?_
 clear bel k99 k4 k5
 rintro⟨⟩ wr ⟨bel,k99,k4,k5⟩
 refine Cd.seq (Zsr ?_)
 refine Zm ?_
 refine Zv (Runs.nilCheck rfl rfl) ?_
 refine Zf 4 Tryz.underlying69 ?_
 refine Zv (Runs.loadB rfl rfl Tryz.underlying4 rfl k99 rfl) ?_
 refine Zv (Runs.not rfl rfl) ?_
 refine Zk4 0 4 5 16 (Zt ?_)
 refine Cd.condF rfl rfl ?_
 refine Cd.exit (Post.then_exit (Post.round_exit (Post.block_exit (Ztq ?_))))
 refine Zv (Runs.loadW rfl rfl Tryz.underlying35 rfl k5 (m:=4) (by kernel_rfl) rfl) ?_
 refine Zo 4 k4 ?_
 intro w4 pw4
 replace bel:=bel.put k4 pw4 e4
 replace k99:=k99.put pw4 (by omega)
 replace k5:=k5.put pw4 (by omega)
 replace k4:=pw4.blk
 refine Zk4 0 4 5 16 (Zt (Cd.ret ?_))
 refine Post.endC rfl rfl k4 Tryz.underlying35 rfl (m:=4) (by kernel_rfl) rfl (.inl rfl) ?_
 exact⟨bel,rfl⟩
end Go.Proofs.YtaamkfajnpobfaaGreat
