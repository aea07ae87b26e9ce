/-
  Texts that were joined: ClmF, ParF, ClmG, ClmH, TOpen, EvA, EvB, EvC, EvD, EvE, VodA, EvF, EvG. Conditions: what each theorem names.
-/
import Derived.Test.YtigoimhndlnhfaaGreatF5
import Derived.ProofKit
import Derived.OpenShut
import Derived.Lib.SmallJoins
import Derived.Deep.Slices
import Derived.Deep.Fields
import Derived.ChangeSame
set_option linter.unusedSectionVars false
namespace Go.Proofs.YtigoimhndlnhfaaGreat
open Go.RowKit
theorem Dv {ws:List Wd}{E0 E0':Nat→Nat→Rs Ex}{T T':Nat→Nat→Rs Tm}(hE:sL E0 E0')(hT:sL T T'):sL (ee ws E0 T) (ee ws E0' T'):=fun p d=>by
 have hm:∀(n m:Nat),sL (aT ws (eO E0 T n m)) (aT ws (eO E0' T' n m)):=fun n m=>by
  have h:=oB (ws:=ws) (List.replicate n ((fun p d=>(E0 p d).map Sum.inl:Nat→Nat→Rs Part),(fun p d=>(E0' p d).map Sum.inl:Nat→Nat→Rs Part))++List.replicate m ((fun p d=>(T p d).map Sum.inr:Nat→Nat→Rs Part),(fun p d=>(T' p d).map Sum.inr:Nat→Nat→Rs Part))) (fun x hx=>by
   rcases List.mem_append.1 hx with hx|hx
   ·rw[(List.mem_replicate.1 hx).2]
    exact fun p d=>(hE p d).bind fun a q=>Le.refl _
   ·rw[(List.mem_replicate.1 hx).2]
    exact fun p d=>(hT p d).bind fun a q=>Le.refl _)
  rw[List.map_append,List.map_append,List.map_replicate,List.map_replicate,List.map_replicate,List.map_replicate] at h;exact h
 unfold ee;split
 ·exact Le.refl _
 split
 ·exact Le.refl _
 split
 ·exact Le.refl _
 split
 ·exact Le.refl _
 ·exact(hm _ _ _ _).bind fun xs q=>Le.refl _
theorem uG (ws:List Wd):∀n,sL (ja ws n) (ja ws (n+1))
 |0=>fun p d h=>absurd rfl h
 |n+1=>Dv ((nE ws (n+1)).E 0) (uG ws n)
theorem vF (ws:List Wd)(p d:Nat):nF ws p d=ee ws ((cg ws).E 0) (nF ws) p d:=by
 have h1:nF ws p d≠ .out:=oH ws ws.length 0 (by omega) p d (Nat.zero_le _);have h2:=uG ws (ws.length+1) p d h1
 have h3:(bH ws (ws.length+2)).E 0=(cg ws).E 0:=by
  funext p d
  exact(nE ws (ws.length+1)).E 0 p d ((qz ws).E 0 p d (Nat.zero_le _))
 have h4:ja ws (ws.length+1+1) p d=ee ws ((bH ws (ws.length+2)).E 0) (ja ws (ws.length+1)) p d:=rfl;rw[h4,h3] at h2;exact h2.symm
def w8:List (List Nat):=[[111,110,101],[103,105,118,101],[97,110,100],[111,114],[115,99,97,108,101],[119,104,101,110],[117,110,116,105,108],[97,110,121,116,105,109,101]]
def kY (t:List Nat)(i:Nat):Int:=if w8.idxOf t<i then(w8.idxOf t:Int)+2 else 0
theorem Fh:∀i,i<8→w8.idxOf (w8.getD i [])=i:=by decide
theorem Au {t s:List Nat}{i:Nat}(hi:i<8)(hs:w8[i]? =some s):kY t (i+1)=if s=t then(i:Int)+2 else kY t i:=by
 have hg:w8.getD i []=s:=by rw[List.getD_eq_getElem?_getD,hs];rfl
 unfold kY
 by_cases h:s=t
 ·have:=Fh i hi
  rw[hg,h] at this;rw[if_pos h,this,if_pos (by omega)]
 ·have hne:w8.idxOf t≠i:=fun e=>by
   have hlt:w8.idxOf t<w8.length:=by rw[e];exact hi
   have h2:=List.getElem_idxOf hlt;have h3:w8[w8.idxOf t]? =some t:=by rw[List.getElem?_eq_getElem hlt,h2]
   rw[e,hs] at h3;injection h3 with h3
   exact h h3
  rw[if_neg h]
  by_cases h2:w8.idxOf t<i
  ·rw[if_pos h2,if_pos (by omega)]
  ·rw[if_neg h2,if_neg (by omega)]
theorem zq (t:List Nat):(t=xQ∧kY t 8=2)∨(t≠xQ∧(cF t).1=kY t 8∧(kY t 8=0∨(kY t 8=3∧(cF t).2=(0,1))∨((kY t 8=4∨kY t 8=5)∧(cF t).2=(0,2))∨((6≤kY t 8∧kY t 8≤9)∧(cF t).2=(1,1)))):=by
 by_cases hm:t∈w8
 ·unfold w8 at hm
  simp only[List.mem_cons,List.not_mem_nil,or_false] at hm;rcases hm with rfl|rfl|rfl|rfl|rfl|rfl|rfl|rfl<;>decide
 ·have h0:kY t 8=0:=by
   unfold kY;rw[List.idxOf_eq_length hm,if_neg (by decide)]
  unfold w8 at hm;simp only[List.mem_cons,List.not_mem_nil,or_false,not_or] at hm;obtain⟨h1,h2,h3,h4,h5,h6,h7,h8⟩:=hm;refine .inr ⟨h1,?_, .inl h0⟩;unfold cF;rw[if_neg h2,if_neg h3,if_neg h4,if_neg h5,if_neg h6,if_neg h7,if_neg h8,h0]
section
variable {β:Type}
def xV (p0:Nat)(R:Rs β)(d:Nat)(cont:Nat→Rs β)(q:Nat)(o:Int)(dp bd:Bool):Prop:=
 (bd=false→o=(d:Int)+1∧dp=false∧p0<q∧d+1≤64∧R=cont q)∧(bd=true→R= .bad q dp∧(d:Int)+1≤o∧o≤(d:Int)+2)
variable {p0 q d:Nat} {R:Rs β} {o:Int} {dp bd:Bool}
theorem xV.ko {cont:Nat→Rs β}(h:xV p0 R d cont q o dp bd)(hd:d≤64):1≤o∧o≤66:=by
 cases bd with
 |false=>have:=(h.1 rfl).1;omega
 |true=>have:=(h.2 rfl).2;omega
theorem xV.open_ {K:Ctx}{w:World}{cont:Nat→Rs β}{p:Nat}(hR:R=(bF K.ws [40] (p+1)).bind fun _ q=>(db q d).bind fun _ q=>cont q)(sw:SW K w (et K.ws [40] (p+1) false).1 ((d:Int)+1) (if 64<(d:Int)+1∧(et K.ws [40] (p+1) false).2=false then true else false) (if 64<(d:Int)+1∧(et K.ws [40] (p+1) false).2=false then true else(et K.ws [40] (p+1) false).2)):
  ∃q dp bd,SW K w q ((d:Int)+1) dp bd∧xV p R d cont q ((d:Int)+1) dp bd:=by
 rcases fq (ws:=K.ws) (s:=[40]) (q:=p+1) with ⟨h1,h2⟩|⟨h1,h2⟩
 ·rw[h1] at sw
  dsimp only at sw;rw[h2,Rs.bB] at hR
  by_cases h64:64<(d:Int)+1
  ·rw[if_pos ⟨h64,rfl⟩] at sw
   refine⟨_,_,_,sw,fun h=>(by cases h),fun _=>⟨?_,by omega,by omega⟩⟩;rw[hR];unfold db;rw[if_pos (by omega)];rfl
  ·rw[if_neg (fun h=>h64 h.1)] at sw
   refine⟨_,_,_,sw,fun _=>⟨rfl,rfl,by omega,by omega,?_⟩,fun h=>by cases h⟩;rw[hR];unfold db;rw[if_neg (by omega),Rs.bB]
 ·rw[h1] at sw
  dsimp only at sw;rw[h2,Rs.lM] at hR;rw[if_neg (fun h=>by cases h.2),if_neg (fun h=>by cases h.2)] at sw;exact⟨_,_,_,sw,fun h=>(by cases h),fun _=>⟨hR,by omega,by omega⟩⟩
def fL {α:Type}(r:Rs α)(d q:Nat)(o:Int)(dp bd:Bool)(x:α)(p':Nat)(o':Int)(dp' bd':Bool):Prop:=(bd=false→eC r d x p' o' dp' bd')∧(bd=true→uP q o dp x p' o' dp' bd')
theorem xV.part {α:Type}{E:Nat→Nat→Rs α}{g:α→Nat→Rs β}{x:α}{q':Nat}{o':Int}{dp' bd':Bool}(h:xV p0 R d (fun q=>(E q (d+1)).bind g) q o dp bd)(hM:fE E)(hb:fL (E q (d+1)) (d+1) q o dp bd x q' o' dp' bd'):xV p0 R d (g x) q' o' dp' bd':=by
 cases bd with
 |true=>
  obtain⟨rfl,rfl,rfl,rfl⟩:=hb.2 rfl;exact⟨fun h=>(by cases h),fun _=>h.2 rfl⟩
 |false=>
  obtain⟨rfl,rfl,h1,h2,hR⟩:=h.1 rfl;have hres:=hb.1 rfl;unfold eC at hres
  cases hr:E q (d+1) with
  |out=>rw[hr] at hres;exact hres.elim
  |bad a b=>
   rw[hr] at hres;dsimp only at hR;rw[hr] at hR;obtain⟨rfl,rfl,rfl,h3,h4⟩:=hres;exact⟨fun h=>(by cases h),fun _=>⟨hR,by omega,by omega⟩⟩
  |ok a b=>
   rw[hr] at hres;dsimp only at hR;rw[hr] at hR;have hm:=hM _ _ _ _ hr;obtain⟨rfl,rfl,h3,rfl,rfl⟩:=hres;exact⟨fun _=>⟨by omega,rfl,by omega,h2,hR⟩,fun h=>by cases h⟩
theorem xV.sign {ws:List Wd}{s:List Nat}{g:Nat→Rs β}(h:xV p0 R d (fun q=>(bF ws s q).bind fun _ q=>g q) q o dp bd):xV p0 R d g (et ws s q bd).1 o dp (et ws s q bd).2:=by
 cases bd with
 |true=>rw[mb];exact⟨fun h=>(by cases h),fun _=>h.2 rfl⟩
 |false=>
  obtain⟨rfl,rfl,h1,h2,hR⟩:=h.1 rfl;rcases fq (ws:=ws) (s:=s) (q:=q) with ⟨h3,h4⟩|⟨h3,h4⟩
  ·rw[h3]
   dsimp only at hR⊢;rw[h4,Rs.bB] at hR;exact⟨fun _=>⟨rfl,rfl,by omega,h2,hR⟩,fun h=>by cases h⟩
  ·rw[h3]
   dsimp only at hR⊢;rw[h4,Rs.lM] at hR;exact⟨fun h=>(by cases h),fun _=>⟨hR,by omega,by omega⟩⟩
theorem xV.close {x:β}(h:xV p0 R d (fun q=> .ok x q) q o dp bd):eC R d x q (o-1) dp bd:=by
 cases bd with
 |true=>
  obtain⟨h1,h2,h3⟩:=h.2 rfl;rw[h1];exact⟨rfl,rfl,rfl,by omega,by omega⟩
 |false=>
  obtain⟨rfl,rfl,h1,h2,hR⟩:=h.1 rfl;rw[hR];exact⟨rfl,rfl,by omega,rfl,rfl⟩
end
theorem AF (K:Ctx)(hK:K.Ok)(hW:wm K.ws)(q d:Nat)(o:Int)(dp bd:Bool)(hg:bd=false→o=(d:Int)∧dp=false∧d≤64)(W:World)(sw:SW K W q o dp bd):
  Calls Tryz.prog 160 #[.pointer (some ⟨K.g,0,none⟩), .int .i64 1] W (CR K W.heap.size W (fL ((cg K.ws).E 0 q d) d q o dp bd) (pb W)):=by
 cases bd with
 |false=>
  obtain⟨rfl,rfl,hd⟩:=hg rfl;refine((yR K hK hW (K.ws.length-q+1) q (by omega)).2 0 d W (by omega) hd sw).mono fun e W' h=> ?_;obtain⟨hf,v,x,p',o',dp',bd',rfl,h2,h3,h4⟩:=h;exact⟨hf,v,x,p',o',dp',bd',rfl,h2,h3,fun _=>h4,fun h=>by cases h⟩
 |true=>
  refine(oo K hK q _ dp 1 W sw).mono fun e W' h=> ?_;obtain⟨hb,rfl⟩:=h;exact⟨Fz.of hb,_,j0,q,_,dp,true,rfl,⟨fun _=>False,cw.zero _ _,fun b hb=>hb.elim⟩,sw.step hb,fun h=>(by cases h),fun _=>⟨rfl,rfl,rfl,rfl⟩⟩
structure GW (K:Ctx)(R:Rs Tm)(d p0:Nat)(op:Int)(w:World)(g2 g5:Nat)(q:Nat)(o:Int)(dp bd:Bool)(nm:List Nat)(es:List Ex)(ts:List Tm)(evs tvs:List Value)(AE AT:Option Addr)(cE cT:Nat)(S:Nat→Prop)(wr:World):Prop where
 sw:SW K wr q o dp bd
 ab:Fz w.heap.size K.g w wr
 k2:aH wr g2 71 #[.int .i64 0, .string {data:= #[]}, .slice none 0 0, .slice none 0 0]
 k5:aH wr g5 71 #[.int .i64 op, .string (strOf nm), .slice AE es.length cE, .slice AT ts.length cT]
 aq:dw wr g5 g5 es ts evs tvs (.slice AE es.length cE) (.slice AT ts.length cT) S
 GO:(∀c∈nm,c<256)∧nm.length≤4000
 le:es.length≤10∧ts.length≤10
 pr:xV p0 R d (fun q=>(bF K.ws [41] q).bind fun _ q=> .ok (.mk op nm es ts) q) q o dp bd
theorem sr (K:Ctx)(hK:K.Ok)(hW:wm K.ws)(p d:Nat)(o0:Int)(dp0 bd0:Bool)(T0:Nat→Nat→Rs Tm)(hMT:fE T0)(w:World)(sw0:SW K w p o0 dp0 bd0)(hg0:bd0=false→o0=(d:Int)∧dp0=false∧d≤64)
  (hT:bd0=false→∀(q d:Nat) (o:Int) (dp bd:Bool) W,p<q∨bd=true→(bd=false→o=(d:Int)∧dp=false∧d≤64)→SW K W q o dp bd→Calls Tryz.prog 123 #[.pointer (some ⟨K.g,0,none⟩)] W (CR K W.heap.size W (fL (T0 q d) d q o dp bd) (AW W))):
  Calls Tryz.prog 123 #[.pointer (some ⟨K.g,0,none⟩)] w (CR K w.heap.size w (fL (ee K.ws ((cg K.ws).E 0) T0 p d) d p o0 dp0 bd0) (AW w)):=by
 have ab:=Fz.refl w.heap.size K.g w;have k99:=sw0.an;have rdw:=sw0.Ft;have e99:K.g=K.g:=rfl;have hlt:=sw0.an.lt;have hle:=hK.le;have hlen:=hK.len;have hpl:=sw0.bJ;have hol:=sw0.ko;have htl:=pY hK p bd0 3;have hME:=(jT K.ws).E 0;obtain⟨t,ht⟩:∃t,t=gX K.ws p bd0 3:=⟨_,rfl⟩;have htx:=fun W h=>nT K hK p o0 dp0 bd0 3 W h (by omega);rw[←ht] at htl;simp only[←ht] at htx
 have htq:t≠ []→bd0=false∧(dn K.ws p).kind=3∧(dn K.ws p).text=t∧p<K.ws.length:=fun hne=>by
  rw[ht] at hne⊢;unfold gX at hne⊢
  cases bd0 with
  |true=>exact absurd rfl hne
  |false=>
   rw[if_neg (by simp)] at hne⊢
   by_cases hk:(dn K.ws p).kind=3
   ·rw[if_pos hk]
    refine⟨rfl,hk,rfl,?_⟩;rcases Nat.lt_or_ge p K.ws.length with h|h
    ·exact h
    ·rw[lI h] at hk;exact absurd hk (by decide)
   ·rw[if_neg hk] at hne
    exact absurd rfl hne
 obtain⟨R,hR⟩:∃R,R=ee K.ws ((cg K.ws).E 0) T0 p d:=⟨_,rfl⟩;rw[←hR];refine Zs 137 Tryz.func123 ?_;refine aj ?_;refine Zl aG ?_;intro g2 w1 n2;have e2:=Nat.le_trans ab.size n2.ge;have l2:=Nat.lt_of_lt_of_le k99.lt n2.ge;replace ab:=ab.step n2.below;replace k99:=k99.step n2.below;replace rdw:=rdw.step n2.below;have k2:=n2.an;refine dF 0 2 (aB ?_);refine Zm ?_;refine Zc (Ze Tryz.func156) (htx _ (rdw.sw k99 hpl hol)) ?_;rintro e w5 ⟨rfl,hb5⟩;refine⟨_,rfl,?_⟩;replace ab:=ab.step hb5;replace k99:=k99.step hb5;replace rdw:=rdw.step hb5;replace k2:=k2.step hb5;refine Za ?_;refine bn 0 2 3 (aI (aj ?_));refine Zm ?_;refine Zv (aa.cI (b:=yn) rfl rfl rfl htl (by decide)) ?_;refine aQ 0 2 3 10 (Zt ?_);refine Cd.ak rfl (fun c0=> ?_) (fun c0=> ?_)
 ·obtain⟨rfl,hk3,htt,hp⟩:=htq (by rw[c0];decide)
  obtain⟨rfl,rfl,hd⟩:=hg0 rfl
  have hR1:R= .ok (.mk 1 [] [] []) (p+1):=by
   rw[hR];unfold ee;rw[if_neg (by simp[hk3]),htt,c0,if_pos rfl]
  refine aj ?_;refine Zm ?_;refine Zv (aa.nilCheck rfl rfl) ?_;refine Zf 1 Tryz.underlying183 ?_;refine ZL Tryz.underlying3 k99 ?_;refine cG ?_;refine Zv (aa.nilCheck rfl rfl) ?_;refine Zf 1 Tryz.underlying183 ?_;refine Zq k99 ?_;intro w2 pw2;replace ab:=ab.put k99 pw2 e99;replace rdw:=rdw.put k99 pw2 e99;replace k2:=k2.put pw2 (by omega);replace k99:=pw2.an;refine aQ 0 2 3 10 (aB ?_);refine Zv (aa.build rfl rfl (nx _)) ?_;refine Zo 4 k2 ?_;intro w3 pw3;replace ab:=ab.put k2 pw3 e2;replace k99:=k99.put pw3 (by omega);replace rdw:=rdw.put k2 pw3 e2;replace k2:=pw3.an;refine aQ 0 2 3 10 (Zt (Cd.ret (ae.af ?_)));refine gp 4 k2 Tryz.underlying71 ?_;rw[hR1];exact⟨ab,_,_,_,_,_,_,rfl,⟨fun _=>False,dr.mk (es:=[]) (ts:=[]) (vs:=[]) (us:=[]) rfl rfl (by simp) (by simp) (by unfold bm;omega) (by simp) (by simp) (fun i e v h=>by simp at h) (fun i e v h=>by simp at h) (fun h=>absurd rfl h) (fun h=>absurd rfl h),fun b hb=>hb.elim⟩,rdw.sw (by rw[Int.natCast_add];exact k99) (by omega) (by omega),fun _=>⟨rfl,rfl,rfl,rfl,rfl⟩,fun h=>by cases h⟩
 refine Cd.skip (aB ?_);refine Seq.slice (vs:=[_,_,_,_,_,_,_,_]) (s:=1) rfl rfl rfl Tryz.underlying66 (by kernel_rfl) (bh) (by omega) (by omega) ⟨rfl,rfl,rfl,rfl,rfl,rfl,rfl,rfl,trivial⟩ rfl rfl rfl ?_;intro g19 w2 n19;have e19:=Nat.le_trans ab.size n19.ge;have l19:=Nat.lt_of_lt_of_le k2.lt n19.ge;have l19_k99:=Nat.lt_of_lt_of_le k99.lt n19.ge;replace ab:=ab.step n19.below;replace k99:=k99.step n19.below;replace rdw:=rdw.step n19.below;replace k2:=k2.step n19.below;have k19:=n19.an;refine Za ?_;refine aO 0 2 3 4 10 (aB ?_);refine Zv (aa.build rfl rfl (dP _)) ?_;refine Zl aG ?_;intro g5 w3 n5;have e5:=Nat.le_trans ab.size n5.ge;have l5:=Nat.lt_of_lt_of_le k19.lt n5.ge;have l5_k99:=Nat.lt_of_lt_of_le k99.lt n5.ge;have l5_k2:=Nat.lt_of_lt_of_le k2.lt n5.ge;replace ab:=ab.step n5.below;replace k99:=k99.step n5.below;replace rdw:=rdw.step n5.below;replace k2:=k2.step n5.below;replace k19:=k19.step n5.below;have k5:=n5.an;refine Zo 4 k5 ?_;intro w4 pw4;replace ab:=ab.put k5 pw4 e5;replace k99:=k99.put pw4 (by omega);replace rdw:=rdw.put k5 pw4 e5;replace k2:=k2.put pw4 (by omega);replace k19:=k19.put pw4 (by omega);replace k5:=pw4.an;refine aY 0 2 3 4 5 10 (aI (aj ?_));refine Za ?_;refine ba 0 2 3 4 5 6 10 (Zt (Cd.block ?_));have k19:aH _ g19 9 (w8.map fun s=>Value.string (strOf s)).toArray:=k19;have h25:g2<g5:=by omega
 have hg5:w.heap.size≤g5:=by omega
 have hg2:w.heap.size≤g2:=by omega
 refine Cd.loop (σ:=Nat) (fun i=>[(0, .pointer (some ⟨K.g,0,none⟩)),(2, .pointer (some ⟨g2,0,none⟩)),(3, .string (strOf t)),(4, .slice (some ⟨g19,0,none⟩) 8 8),(5, .pointer (some ⟨g5,0,none⟩)),(6, .int .i64 (i:Int))])
  (fun i wr=>i≤8∧Fz w.heap.size K.g w wr∧Dc K wr∧aH wr K.g 183 #[.slice K.A K.ws.length K.c, .int .i64 (p:Int), .int .i64 o0, .bool dp0, .bool bd0]∧aH wr g2 71 #[.int .i64 0, .string {data:= #[]}, .slice none 0 0, .slice none 0 0]∧aH wr g19 9 (w8.map fun s=>Value.string (strOf s)).toArray∧aH wr g5 71 #[.int .i64 (kY t i), .string (strOf []), .slice none 0 0, .slice none 0 0]) (fun i=>8-i) 0 ⟨Nat.zero_le _,ab,rdw,k99,k2,k19,k5⟩ ⟨rfl,rfl,rfl,rfl,rfl,rfl,trivial⟩ ?_
 clear ab rdw k99 k2 k19 k5;rintro i wr ⟨hi,ab,rdw,k99,k2,k19,k5⟩;have k2l:=k2.lt;have k5l:=k5.lt;have hsb:=ab.size;refine Cd.seq (aj ?_);refine Zm ?_;refine Zm ?_;refine Zv (aa.len rfl rfl Tryz.underlying66) ?_;refine eI ?_;refine ba 0 2 3 4 5 6 24 (Zt ?_);refine Cd.ak rfl (fun hc=> ?_) (fun hc=> ?_)
 ·obtain⟨s,hs⟩:∃s,w8[i]? =some s:=⟨_,List.getElem?_eq_getElem (show i<8 by omega)⟩
  have hs256:∀c∈s,c<256:=by
   have:∀s∈w8,∀c∈s,c<256:=by decide
   exact this s (List.mem_of_getElem? hs)
  have hst:=Au (t:=t) (show i<8 by omega) hs;refine Cd.skip (aI (Cd.block (aj ?_)));refine Zm ?_;refine Zm ?_;refine Zv (aa.dS rfl rfl rfl Tryz.underlying66 (by kernel_rfl) (j:=i) (by omega) (by omega)) ?_;refine Zv (aa.au rfl rfl Tryz.underlying9 rfl k19 (by rw[List.getElem?_toArray,List.getElem?_map,hs];rfl)) ?_;refine Zm ?_;refine Zv (aa.cI rfl rfl rfl hs256 htl) ?_;refine cB 0 2 3 4 5 6 24 32 (Zt ?_);refine Cd.ak rfl (fun hc2=> ?_) (fun hc2=> ?_)
  ·rw[if_pos hc2] at hst
   have e5:w.heap.size≤g5:=hg5;refine Zr ?_;refine Zm ?_;refine cG ?_;refine Zf 0 Tryz.underlying71 ?_;refine Zq k5 ?_;intro w5 pw5;replace ab:=ab.put k5 pw5 e5;replace k99:=k99.put pw5 (by omega);replace rdw:=rdw.put k5 pw5 e5;replace k2:=k2.put pw5 (by omega);replace k19:=k19.put pw5 (by omega);replace k5:=pw5.an;refine cB 0 2 3 4 5 6 24 32 (ae.ah (eh ?_));refine Zm ?_;refine cG ?_;refine Za ?_;refine cB 0 2 3 4 5 6 24 32 ?_;exact ae.round (i+1) ⟨rfl,rfl,rfl,rfl,rfl,rfl,trivial⟩ ⟨by omega,ab,rdw,k99,k2,k19,by rw[hst];exact k5⟩ (by omega)
  ·rw[if_neg hc2] at hst
   refine Cd.skip (ae.ah (eh ?_));refine Zm ?_;refine cG ?_;refine Za ?_;refine cB 0 2 3 4 5 6 24 32 ?_;exact ae.round (i+1) ⟨rfl,rfl,rfl,rfl,rfl,rfl,trivial⟩ ⟨by omega,ab,rdw,k99,k2,k19,by rw[hst];exact k5⟩ (by omega)
 obtain rfl:i=8:=by omega
 have hsp:=zq t;have hop64:bm (kY t 8):=by unfold bm;rcases hsp with ⟨-,h⟩|⟨-,-,h|⟨h,-⟩|⟨h,-⟩|⟨h,-⟩⟩<;>omega
 have hnil:kY [] 8=0:=by decide
 have hopn:kY t 8≠0→t≠ []:=fun h e=>h (by rw[e,hnil]);obtain⟨op,hop⟩:∃op,op=kY t 8:=⟨_,rfl⟩;rw[←hop] at hsp hop64 k5 hopn;refine Cd.exit (ae.aC (ae.aA (ae.ay (aI (aj ?_)))));refine Zf 0 Tryz.underlying71 ?_;refine ZL Tryz.underlying3 k5 ?_;refine bC ?_;refine cB 0 2 3 4 5 6 24 38 (Zt ?_);refine Cd.ak rfl (fun c1=> ?_) (fun c1=> ?_)
 ·have hb:bd0=false→R= .bad p false:=fun hb=>by
   rw[hR];unfold ee
   by_cases hk:(dn K.ws p).kind=3
   ·have htt:(dn K.ws p).text=t:=by rw[ht];unfold gX;rw[hb,if_neg (by simp),if_pos hk]
    rw[if_neg (by simp[hk]),htt,if_neg c0];rcases hsp with ⟨-,h⟩|⟨h1,h2,-⟩
    ·omega
    ·rw[if_neg h1,h2,if_pos c1]
   ·rw[if_pos hk]
  have k5l:=k5.lt;refine aj ?_;refine Zm ?_;refine Zv (aa.nilCheck rfl rfl) ?_;refine Zf 4 Tryz.underlying183 ?_;refine Zq k99 ?_;intro w5 pw5;replace ab:=ab.put k99 pw5 e99;replace rdw:=rdw.put k99 pw5 e99;replace k2:=k2.put pw5 (by omega);replace k5:=k5.put pw5 (by omega);replace k99:=pw5.an;refine cB 0 2 3 4 5 6 24 38 (aB ?_);refine ZW 4 Tryz.underlying71 k5 ?_;refine Zo 4 k2 ?_;intro w6 pw6;replace ab:=ab.put k2 pw6 e2;replace k99:=k99.put pw6 (by omega);replace rdw:=rdw.put k2 pw6 e2;replace k5:=k5.put pw6 (by omega);replace k2:=pw6.an;refine cB 0 2 3 4 5 6 24 38 (Zt (Cd.ret (ae.af ?_)));refine gp 4 k2 Tryz.underlying71 ?_;refine⟨ab,_, .mk op [] [] [],_,_,_,_,rfl,⟨fun _=>False,dr.mk (es:=[]) (ts:=[]) (vs:=[]) (us:=[]) rfl rfl (by simp) (by simp) hop64 (by simp) (by simp) (fun i e v h=>by simp at h) (fun i e v h=>by simp at h) (fun h=>absurd rfl h) (fun h=>absurd rfl h),fun b hb=>hb.elim⟩,rdw.sw k99 hpl hol,fun h=> ?_,fun h=>⟨rfl,rfl,rfl,rfl⟩⟩;obtain⟨h1,h2,h3⟩:=hg0 h;rw[hb h];exact⟨rfl,h2,rfl,by omega,by omega⟩
 obtain⟨rfl,hk3,htt,hp⟩:=htq (hopn c1);replace hT:=hT rfl;obtain⟨rfl,rfl,hd⟩:=hg0 rfl
 have hRt:R=if t=xQ then(aT K.ws [fun p _=>eA K.ws p] (p+1) d).bind fun xs p=> .ok (.mk 2 (xs.getD 0 []) [] []) p
   else(aT K.ws (eO ((cg K.ws).E 0) T0 (cF t).2.1 (cF t).2.2) (p+1) d).bind fun xs q=> .ok (.mk (cF t).1 [] (cU xs) (bY xs)) q:=by
  rw[hR];unfold ee;rw[if_neg (by simp[hk3]),htt,if_neg c0]
  by_cases h1:t=xQ
  ·rw[if_pos h1,if_pos h1]
  ·rw[if_neg h1,if_neg h1]
   rcases hsp with ⟨h,-⟩|⟨-,h2,-⟩
   ·exact absurd h h1
   ·rw[if_neg (by rw[h2];exact c1)]
 obtain⟨cont,hRc,hcont⟩:∃cont:Nat→Rs Tm,(R=(bF K.ws [40] (p+1)).bind fun _ q=>(db q d).bind fun _ q=>cont q)∧
   ((op=2∧cont=fun q=>(eA K.ws q).bind fun nm q=>(bF K.ws [41] q).bind fun _ q=> .ok (.mk 2 nm [] []) q)∨
    (op=3∧cont=fun q=>(T0 q (d+1)).bind fun a q=>(bF K.ws [41] q).bind fun _ q=> .ok (.mk op [] [] [a]) q)∨
    ((op=4∨op=5)∧cont=fun q=>(T0 q (d+1)).bind fun a q=>(bF K.ws [44] q).bind fun _ q=>(T0 q (d+1)).bind fun b q=>(bF K.ws [41] q).bind fun _ q=> .ok (.mk op [] [] [a,b]) q)∨
    ((6≤op∧op≤9)∧cont=fun q=>((cg K.ws).E 0 q (d+1)).bind fun a q=>(bF K.ws [44] q).bind fun _ q=>(T0 q (d+1)).bind fun b q=>(bF K.ws [41] q).bind fun _ q=> .ok (.mk op [] [a] [b]) q)):=by
  rcases hsp with ⟨h1,h2⟩|⟨h1,h2,h|⟨h3,h4⟩|⟨h3,h4⟩|⟨h3,h4⟩⟩
  ·rw[if_pos h1] at hRt
   refine⟨_,?_, .inl ⟨h2,rfl⟩⟩;rw[hRt];unfold aT;simp only[bl,if_pos,Rs.bind_assoc,Rs.bB,List.getD_cons_zero]
  ·exact absurd h c1
  ·rw[if_neg h1,h2,h4] at hRt
   refine⟨_,?_, .inr (.inl ⟨h3,rfl⟩)⟩;rw[hRt];unfold aT eO Rs.map;simp only[List.replicate,List.nil_append,bl,if_pos,Rs.bind_assoc,Rs.bB];rfl
  ·rw[if_neg h1,h2,h4] at hRt
   refine⟨_,?_, .inr (.inr (.inl ⟨h3,rfl⟩))⟩;rw[hRt];unfold aT eO Rs.map;simp only[List.replicate,List.nil_append,bl,if_pos,Rs.bind_assoc,Rs.bB];rfl
  ·rw[if_neg h1,h2,h4] at hRt
   refine⟨_,?_, .inr (.inr (.inr ⟨h3,rfl⟩))⟩;rw[hRt];unfold aT eO Rs.map;simp only[List.replicate,List.nil_append,List.cons_append,bl,if_pos,Rs.bind_assoc,Rs.bB];rfl
 refine Cd.skip (aB ?_);refine Zm ?_;refine Zv (aa.nilCheck rfl rfl) ?_;refine Zf 1 Tryz.underlying183 ?_;refine ZL Tryz.underlying3 k99 ?_;refine cG ?_;refine Zv (aa.nilCheck rfl rfl) ?_;refine Zf 1 Tryz.underlying183 ?_;refine Zq k99 ?_;intro w5 pw5;replace ab:=ab.put k99 pw5 e99;replace rdw:=rdw.put k99 pw5 e99;replace k2:=k2.put pw5 (by omega);replace k5:=k5.put pw5 (by omega);replace k99:=pw5.an;refine cB 0 2 3 4 5 6 24 38 (aB ?_);refine Zm ?_;have hta:=gE K hK (p+1) d false false [40] _ (rdw.sw (by rw[Int.natCast_add];exact k99) (by omega) (by omega)) (by decide) (by decide);have k2l3:=k2.lt;have k5l3:=k5.lt;have hsb3:=ab.size;refine Zc (Ze Tryz.func157) hta ?_;rintro e wt ⟨⟨vt,rfl⟩,hft,swt⟩;refine⟨_,rfl,?_⟩;have belt:=ab.call hft;have k2t:=k2.fz hft (by omega);have k5t:=k5.fz hft (by omega);have hst:=hft.size;clear ab k2 k5 k99 rdw hta;have ab:=belt;have k2:=k2t;have k5:=k5t;have hen:=ku K hK _ _ _ _ _ swt (by omega);refine cB 0 2 3 4 5 6 24 38 (aB ?_);refine Zm ?_;refine Zc (Ze Tryz.func158) hen ?_;rintro e we ⟨⟨ve,rfl⟩,hfe,swe⟩;refine⟨_,rfl,?_⟩;have bele:=ab.call hfe;have k2e:=k2.fz hfe (by omega);have k5e:=k5.fz hfe (by omega);have hse:=hfe.size;clear ab k2 k5 hen;have ab:=bele;have k2:=k2e;have k5:=k5e;obtain⟨q,dp,bd,sw,pr⟩:=xV.open_ hRc swe;clear swe swt hRc hRt;have aq:=dw.nil we g5 g5;refine cB 0 2 3 4 5 6 24 38 (Zt ?_)
 refine Cd.lB (σ:=Nat × Int × Bool × Bool × List Nat × List Ex × List Tm × List Value × List Value × (Option Addr × Nat) × (Option Addr × Nat) × (Nat→Prop)) (fun _=>[(0, .pointer (some ⟨K.g,0,none⟩)),(2, .pointer (some ⟨g2,0,none⟩)),(5, .pointer (some ⟨g5,0,none⟩))])
  (fun s wr=>GW K R d p op w g2 g5 s.1 s.2.1 s.2.2.1 s.2.2.2.1 s.2.2.2.2.1 s.2.2.2.2.2.1 s.2.2.2.2.2.2.1 s.2.2.2.2.2.2.2.1 s.2.2.2.2.2.2.2.2.1 s.2.2.2.2.2.2.2.2.2.1.1 s.2.2.2.2.2.2.2.2.2.2.1.1 s.2.2.2.2.2.2.2.2.2.1.2 s.2.2.2.2.2.2.2.2.2.2.1.2 s.2.2.2.2.2.2.2.2.2.2.2 wr) ?_ ?_
 ·skip
  refine Cd.block (aj ?_);refine Zf 0 Tryz.underlying71 ?_;refine ZL Tryz.underlying3 k5 ?_;refine bC ?_;refine Za ?_;refine dY 0 2 3 4 5 6 24 38 70 (Zt ?_);refine Cd.ak rfl (fun h2=> ?_) (fun h2=> ?_)
  ·have hgt:K.g<g5:=by omega
   have k5l4:=k5.lt;have k2l4:=k2.lt;have hsb4:=ab.size;rcases hcont with ⟨-,hcq⟩|⟨h,-⟩|⟨h,-⟩|⟨h,-⟩
   ·subst hcq
    have htx2:=nT K hK q ((d:Int)+1) dp bd 3 _ sw (by omega);have htl2:=pY hK q bd 3
    have htn2:(gX K.ws q bd 3).length≤4000:=by
     unfold gX;split
     ·simp
     split
     ·exact(hK.dn q).2.2.2
     ·simp
    have hnm:(gX K.ws q bd 3=[]∨cl (gX K.ws q bd 3)=true)→eC R d (.mk op (gX K.ws q bd 3) [] []) q ((d:Int)+1) dp true:=fun h=>by
     cases bd with
     |true=>
      rw[(pr.2 rfl).1];exact⟨rfl,rfl,rfl,by omega,by omega⟩
     |false=>
      obtain⟨-,rfl,-,-,hRn⟩:=pr.1 rfl
      have:eA K.ws q= .bad q false:=by
       unfold eA;rw[if_neg];rintro⟨h1,h2⟩;have e:gX K.ws q false 3=(dn K.ws q).text:=by unfold gX;rw[if_neg (by simp),if_pos h1]
       rw[e] at h;rcases h with h|h
       ·have:=xH hW h1
        rw[h] at this;exact absurd this (by decide)
       ·rw[h2] at h;cases h
      rw[hRn];dsimp only;rw[this];exact⟨rfl,rfl,rfl,by omega,by omega⟩
    have hnm2:¬(gX K.ws q bd 3=[]∨cl (gX K.ws q bd 3)=true)→q+1≤K.ws.length∧xV p R d (fun q'=>(bF K.ws [41] q').bind fun _ q'=> .ok (.mk op (gX K.ws q bd 3) [] []) q') (q+1) ((d:Int)+1) dp bd:=fun h=>by
     cases bd with
     |true=>exact absurd (.inl rfl) h
     |false=>
      obtain⟨-,rfl,h1,h3,hRn⟩:=pr.1 rfl
      have hk:(dn K.ws q).kind=3:=by
       rcases Decidable.em ((dn K.ws q).kind=3) with hk|hk
       ·exact hk
       ·exact absurd (.inl (by unfold gX;rw[if_neg (by simp),if_neg hk])) h
      have e:gX K.ws q false 3=(dn K.ws q).text:=by unfold gX;rw[if_neg (by simp),if_pos hk]
      rw[e] at h⊢
      have hn:eA K.ws q= .ok (dn K.ws q).text (q+1):=by
       unfold eA;rw[if_pos ⟨hk,by rw[←Bool.not_eq_true];exact fun h2=>h (.inr h2)⟩]
      have hlt:q<K.ws.length:=by
       rcases Nat.lt_or_ge q K.ws.length with h|h
       ·exact h
       ·rw[lI h] at hk;exact absurd hk (by decide)
      refine⟨hlt,fun _=>⟨rfl,rfl,by omega,h3,?_⟩,fun h=>by cases h⟩;rw[hRn];dsimp only;rw[hn,Rs.bB,h2]
    obtain⟨tx,htxe⟩:∃tx,tx=gX K.ws q bd 3:=⟨_,rfl⟩;rw[←htxe] at htx2 htl2 htn2 hnm hnm2;have k99:=sw.an;have rdw:=sw.Ft;have e99:K.g=K.g:=rfl;have e5:w.heap.size≤g5:=hg5;refine aj ?_;refine Zm ?_;refine Zc (Ze Tryz.func156) (htx2) ?_;rintro e w5 ⟨rfl,hb5⟩;refine⟨_,rfl,?_⟩;clear htx2;replace ab:=ab.step hb5;replace k2:=k2.step hb5;replace k5:=k5.step hb5;replace k99:=k99.step hb5;replace rdw:=rdw.step hb5;refine Zf 1 Tryz.underlying71 ?_;refine Zq k5 ?_;intro w6 pw6;replace ab:=ab.put k5 pw6 e5;replace k2:=k2.put pw6 (by omega);replace k99:=k99.put pw6 (by omega);replace rdw:=rdw.put k5 pw6 e5;replace k5:=pw6.an;refine dY 0 2 3 4 5 6 24 38 70 (aI (aj ?_));refine Zf 1 Tryz.underlying71 ?_;refine ZL Tryz.underlying9 k5 ?_;refine Zv (aa.cI (b:=[]) rfl rfl rfl htl2 (by decide)) ?_;refine Zm ?_;refine aw.start ?_;refine bw (fun hcx=>aa.ar 1 rfl rfl Tryz.underlying71 rfl (by kernel_rfl)) ?_;refine Zn (fun hcx=>aa.au rfl rfl Tryz.underlying9 rfl k5 rfl) ?_;refine aw.bU rfl rfl rfl rfl rfl rfl rfl (fun hcx=>Ze Tryz.func159) (fun hcx=>kR tx _ htl2) ?_;intro w7 hw7;replace ab:=ab.step hw7;replace k2:=k2.step hw7;replace k5:=k5.step hw7;replace k99:=k99.step hw7;replace rdw:=rdw.step hw7;refine fg ?_;refine dq 0 2 3 4 5 6 24 38 70 84 (Zt ?_);refine Cd.cond rfl (fun hc=> ?_) (fun hc=> ?_)
    ·have hc:tx=[]∨cl tx=true:=by simpa using hc
     have hres:=hnm hc;refine aj ?_;refine Zm ?_;refine Zv (aa.nilCheck rfl rfl) ?_;refine Zf 4 Tryz.underlying183 ?_;refine Zq k99 ?_;intro w8 pw8;replace ab:=ab.put k99 pw8 e99;replace k2:=k2.put pw8 (by omega);replace k5:=k5.put pw8 (by omega);replace rdw:=rdw.put k99 pw8 e99;replace k99:=pw8.an;refine dq 0 2 3 4 5 6 24 38 70 84 (aB ?_);refine ZW 4 Tryz.underlying71 k5 ?_;refine Zo 4 k2 ?_;intro w9 pw9;replace ab:=ab.put k2 pw9 e2;replace k5:=k5.put pw9 (by omega);replace k99:=k99.put pw9 (by omega);replace rdw:=rdw.put k2 pw9 e2;replace k2:=pw9.an;refine dq 0 2 3 4 5 6 24 38 70 84 (Zt (Cd.ret (ae.af (ae.ag (ae.af ?_)))));refine gp 4 k2 Tryz.underlying71 ?_;refine⟨ab,_, .mk op tx [] [],_,_,_,_,rfl,⟨fun _=>False,dr.mk (es:=[]) (ts:=[]) (vs:=[]) (us:=[]) rfl rfl (by simp) (by simp) hop64 htl2 (by omega) (fun i e v h=>by simp at h) (fun i e v h=>by simp at h) (fun h=>absurd rfl h) (fun h=>absurd rfl h),fun b hb=>hb.elim⟩,rdw.sw k99 sw.bJ sw.ko,fun _=>hres,fun h=>by cases h⟩
    ·have hc:¬(tx=[]∨cl tx=true):=by simpa using hc
     obtain⟨hq1,hstt⟩:=hnm2 hc;refine Cd.skip (eh ?_);refine Zm ?_;refine Zv (aa.nilCheck rfl rfl) ?_;refine Zf 1 Tryz.underlying183 ?_;refine ZL Tryz.underlying3 k99 ?_;refine cG ?_;refine Zv (aa.nilCheck rfl rfl) ?_;refine Zf 1 Tryz.underlying183 ?_;refine Zq k99 ?_;intro w8 pw8;replace ab:=ab.put k99 pw8 e99;replace k2:=k2.put pw8 (by omega);replace k5:=k5.put pw8 (by omega);replace rdw:=rdw.put k99 pw8 e99;replace k99:=pw8.an;refine dq 0 2 3 4 5 6 24 38 70 84 (ae.ah ?_);exact ae.join (q+1,(d:Int)+1,dp,bd,tx,[],[],[],[],(none,0),(none,0),fun _=>False) ⟨rfl,rfl,rfl,trivial⟩ ⟨rdw.sw (by rw[Int.natCast_add];exact k99) hq1 sw.ko,ab,k2,k5,dw.nil _ _ _,⟨htl2,htn2⟩,⟨by simp,by simp⟩,hstt⟩
   all_goals omega
  have hgt:K.g<g5:=by omega
  have k5l4:=k5.lt;have k2l4:=k2.lt;have hsb4:=ab.size
  have hcont:(op=3∧cont=fun q=>(T0 q (d+1)).bind fun a q=>(bF K.ws [41] q).bind fun _ q=> .ok (.mk op [] [] [a]) q)∨
   ((op=4∨op=5)∧cont=fun q=>(T0 q (d+1)).bind fun a q=>(bF K.ws [44] q).bind fun _ q=>(T0 q (d+1)).bind fun b q=>(bF K.ws [41] q).bind fun _ q=> .ok (.mk op [] [] [a,b]) q)∨
   ((6≤op∧op≤9)∧cont=fun q=>((cg K.ws).E 0 q (d+1)).bind fun a q=>(bF K.ws [44] q).bind fun _ q=>(T0 q (d+1)).bind fun b q=>(bF K.ws [41] q).bind fun _ q=> .ok (.mk op [] [a] [b]) q):=by
   rcases hcont with ⟨h,-⟩|h
   ·exact absurd h h2
   ·exact h
  refine aj ?_;refine Zf 0 Tryz.underlying71 ?_;refine ZL Tryz.underlying3 k5 ?_;refine bC ?_;refine Za ?_;refine dq 0 2 3 4 5 6 24 38 70 96 (Zt ?_);refine Cd.ak rfl (fun h3=> ?_) (fun h3=> ?_)
  ·obtain⟨-,rfl⟩:op=3∧_:=by
    rcases hcont with h|⟨h,-⟩|⟨h,-⟩
    ·exact h
    all_goals omega
   have hcl:∀W,SW K W q ((d:Int)+1) dp bd→Fz we.heap.size K.g we W→Calls Tryz.prog 123 #[.pointer (some ⟨K.g,0,none⟩)] W (CR K W.heap.size W (fL (T0 q (d+1)) (d+1) q ((d:Int)+1) dp bd) (AW W)):=fun W h1 _=>
    hT q (d+1) _ _ _ W (by cases hb:bd with|false=>exact .inl (pr.1 hb).2.2.1|true=>exact .inr rfl) (fun hb=>⟨by have:=(pr.1 hb).1;omega,(pr.1 hb).2.1,(pr.1 hb).2.2.2.1⟩) h1
   refine Cd.jo (σT:=Tm × Value × (Nat→Prop) × Nat × Value) 6 (by kernel_rfl) rfl rfl (fun σ=>[.pointer (some ⟨g5,3,none⟩), .slice none 0 0, .pointer (some ⟨K.g,0,none⟩),σ.2.1, .slice (some ⟨σ.2.2.2.1,0,none⟩) 1 1,σ.2.2.2.2]) (fun σ S W=>(S 5=false→XC dr K we q ((d:Int)+1) dp bd (fL (T0 q (d+1)) (d+1) q ((d:Int)+1) dp bd) (S 3) (S 4) σ.1 σ.2.2.1 σ.2.1 σ.2.2.2.1 71 W)∧(S 5=true→(∃p9 o9 dp9 bd9,SW K W p9 o9 dp9 bd9∧(fL (T0 q (d+1)) (d+1) q ((d:Int)+1) dp bd) σ.1 p9 o9 dp9 bd9)∧Fz g5 K.g we W∧aH W g5 71 #[.int .i64 op, .string (strOf []), .slice none 0 0, .slice none 0 0]∧∃S',dw W g5 g5 [] ([]++[σ.1]) [] ([]++[σ.2.1]) (.slice none 0 0) (σ.2.2.2.2) S')) ((ft,undef,fun _=>False,0,undef)) ?_ ?_ ?_
   ·intro w0 hb0 hs0
    exact⟨fun _=>⟨Fz.of hb0,fun _=>sw.step hb0,fun h=>(by cases h),fun h=>(by cases h)⟩,fun h=>(by cases h)⟩
   ·intro k o ho
    match k,ho with
    |0,ho=>
     injection ho with ho
     subst ho;intro σ S w hS hpre hdc hX;refine Seq.val (aa.ar 3 rfl rfl Tryz.underlying71 rfl (by kernel_rfl)) rfl rfl rfl (Seq.nil ?_);exact ae.aD rfl rfl rfl hpre rfl (fun _ _=>rfl) hX
    |1,ho=>
     injection ho with ho
     subst ho;intro σ S w hS hpre hdc hX;have h5:=cC hdc (i:=5) rfl hS (ao rfl);refine Seq.val (aa.au (g:=g5) (i:=3) rfl rfl Tryz.underlying69 rfl (k5.fz (hX.1 h5).fz (by omega)) rfl) rfl rfl rfl (Seq.nil ?_);exact ae.aD rfl rfl rfl hpre rfl (fun _ _=>rfl) hX
    |2,ho=>
     injection ho with ho
     subst ho;intro σ S w hS hpre hdc hX;refine Seq.val (aa.move rfl rfl) rfl rfl rfl (Seq.nil ?_);exact ae.aD rfl rfl rfl hpre rfl (fun _ _=>rfl) hX
    |3,ho=>
     injection ho with ho
     subst ho;intro σ S w hS hpre hdc hX;have h5:=cC hdc (i:=5) rfl hS (ao rfl);have h4:=cC hdc (i:=4) rfl hS (ao rfl);have hXa:=hX.1 h5;refine Zc (Ze Tryz.func123) ((fun W h1 h2=>hcl W h1 h2) w (hXa.pre hS) hXa.fz) ?_;rintro e w6 ⟨hf,v6,x6,p6,o6,dp6,bd6,rfl,⟨S6,hr6,hb6⟩,hsw6,hpf6⟩;refine⟨_,rfl,Seq.nil ?_⟩;exact ae.aD (σ:=σ) (σ':=(x6,v6,S6,σ.2.2.2.1,σ.2.2.2.2)) rfl rfl rfl hpre rfl (fun j hj=>sP hS h4 h5 j hj) ⟨fun _=>hXa.called h4 hf hsw6 hpf6 hr6 hb6,fun hm=>(oy h5 hm).elim⟩
    |4,ho=>
     injection ho with ho
     subst ho;intro σ S w hS hpre hdc hX;have h5:=cC hdc (i:=5) rfl hS (ao rfl);have hXa:=hX.1 h5;have hd:=hpre 3 (ao rfl);have hones:=(hXa.post hd).2.1.aV;refine Seq.slice (vs:=[σ.2.1]) (s:=4) rfl rfl rfl Tryz.underlying69 (by kernel_rfl) aG (by omega) (by omega) ⟨hones.1,trivial⟩ rfl rfl rfl ?_;intro g7 w' n7;refine Seq.nil ?_;exact ae.aD (σ:=σ) (σ':=(σ.1,σ.2.1,σ.2.2.1,g7,σ.2.2.2.2)) rfl rfl rfl hpre rfl (fun j hj=>sH hS h5 j hj) ⟨fun _=>hXa.pM hd n7,fun hm=>(oy h5 hm).elim⟩
    |5,ho=>
     injection ho with ho
     subst ho;intro σ S w hS hpre hdc hX;have hXa:=hX.1 hS;have hd:=hpre 3 (ao rfl);obtain⟨⟨p3,o3,dp3,bd3,sw3,hpf3⟩,hrep,haway⟩:=hXa.post hd;obtain⟨ez,kz,hnz⟩:=hXa.new (hpre 4 (ao rfl));have hones:=hrep.aV;have hsz:=hXa.fz.size;have aq3:=aq.fz hXa.fz hgt;have hown:=aq3.fO;have k90:=k5.fz hXa.fz (by omega);have hlt90:=k5.lt;refine Seq.gC rfl rfl rfl Tryz.underlying69 (by kernel_rfl) aG rfl (by decide) (b:=72) (by kernel_rfl) hown (Reads.an (size:=4) kz 1 hones.1) hones.2 (by omega) (by first|(simp only[maxLen];omega)|(simp only[maxLen,List.length_nil,List.length_cons];omega)|simp[maxLen]) (by first|omega|(simp only[List.length_nil,List.length_cons];omega)|simp) rfl rfl rfl ?_;intro v' w4 hown' happ hv';refine Seq.nil ?_;have hs4:=happ.below.size
     have aq6:=aq3.AI hrep (fun b hb=>⟨by have:=(haway b hb).1;omega,(haway b hb).2,by have:=(haway b hb).1;omega,fun e=>by have:=(aq.fB.aS b e).2;have:=(haway b hb).1;omega,fun e=>by have:=(aq.fO.aS b e).2;have:=(haway b hb).1;omega⟩) hown' hs4
      (fun b _ h2 h3 h4=>happ.grown.block b h2 (fun e=>h4 e.symm)) (hv'.elim .inl fun e=> .inr ⟨_,e,Nat.le_refl _⟩) (by omega)
     exact ae.aD (σ:=σ) (σ':=(σ.1,σ.2.1,σ.2.2.1,σ.2.2.2.1,v')) rfl rfl rfl hpre rfl (fun j hj=>sZ hS j hj) ⟨(fun h=>by cases h),fun _=>⟨⟨p3,o3,dp3,bd3,⟨sw3.an.grown happ.grown (fun e=>by have:=(hown.aS _ e.symm).1;omega),sw3.rd.below (happ.below.mono (by omega)),sw3.bJ,sw3.ko,sw3.le⟩,hpf3⟩,(hXa.fz.less (by omega)).trans (Fz.of happ.below),k90.grown happ.grown (fun e=>aq3.zK e.symm),_,aq6⟩⟩
    |k+6,ho=>simp at ho
   rintro⟨x1,v1,S1,g1x,vX⟩ S3 wr1 hS hX;obtain⟨⟨q1,o1,dp1,bd1,sw1,hpf⟩,fz3,k53,S7,aq3⟩:=hX.2 (hS 5 (by decide));clear hX;dsimp only at hpf aq3;have stt1:=pr.part hMT hpf;have hs1:=fz3.size;have bel3:Fz w.heap.size K.g w wr1:=ab.trans (fz3.less (by omega));have k23:=k2.FC fz3 h25 (by omega);obtain⟨AX,cX,hvX,-⟩:=aq3.fO.reads;subst hvX;clear ab k2 k5 aq sw pr;have ab:=bel3;have k2:=k23;have k5:=k53;have aq:=aq3;have sw:=sw1;have e5:w.heap.size≤g5:=hg5;refine Zf 3 Tryz.underlying71 ?_;refine Zq k5 ?_;intro w6 pw6;replace ab:=ab.put k5 pw6 e5;replace k2:=k2.put pw6 (by omega);replace aq:=aq.put k5 pw6 e5;replace sw:=sw.put k5 pw6 e5;replace k5:=pw6.an;refine dq 0 2 3 4 5 6 24 38 70 96 (ae.ah ?_);exact ae.join (q1,o1,dp1,bd1,[],[],[x1],[],[v1],(none,0),(AX,cX),_) ⟨rfl,rfl,rfl,trivial⟩ ⟨sw,ab,k2,k5,aq,⟨by simp,by simp⟩,⟨by simp,by simp⟩,stt1⟩
  have hcont:((op=4∨op=5)∧cont=fun q=>(T0 q (d+1)).bind fun a q=>(bF K.ws [44] q).bind fun _ q=>(T0 q (d+1)).bind fun b q=>(bF K.ws [41] q).bind fun _ q=> .ok (.mk op [] [] [a,b]) q)∨
   ((6≤op∧op≤9)∧cont=fun q=>((cg K.ws).E 0 q (d+1)).bind fun a q=>(bF K.ws [44] q).bind fun _ q=>(T0 q (d+1)).bind fun b q=>(bF K.ws [41] q).bind fun _ q=> .ok (.mk op [] [a] [b]) q):=by
   rcases hcont with ⟨h,-⟩|h
   ·exact absurd h h3
   ·exact h
  refine aj ?_;refine Zf 0 Tryz.underlying71 ?_;refine ZL Tryz.underlying3 k5 ?_;refine FI ?_;refine Za ?_;refine dv 0 2 3 4 5 6 24 38 70 96 107 (Zt ?_);refine Cd.ak rfl (fun h4=> ?_) (fun h4=> ?_)
  ·obtain⟨-,rfl⟩:(op=4∨op=5)∧_:=by
    rcases hcont with h|⟨h,-⟩
    ·exact h
    ·omega
   have hcl:∀W,SW K W q ((d:Int)+1) dp bd→Fz we.heap.size K.g we W→Calls Tryz.prog 123 #[.pointer (some ⟨K.g,0,none⟩)] W (CR K W.heap.size W (fL (T0 q (d+1)) (d+1) q ((d:Int)+1) dp bd) (AW W)):=fun W h1 _=>
    hT q (d+1) _ _ _ W (by cases hb:bd with|false=>exact .inl (pr.1 hb).2.2.1|true=>exact .inr rfl) (fun hb=>⟨by have:=(pr.1 hb).1;omega,(pr.1 hb).2.1,(pr.1 hb).2.2.2.1⟩) h1
   refine Cd.seq ?_;refine Cd.jo (σT:=Tm × Value × (Nat→Prop) × Nat × Value) 6 (by kernel_rfl) rfl rfl (fun σ=>[.pointer (some ⟨g5,3,none⟩), .slice none 0 0, .pointer (some ⟨K.g,0,none⟩),σ.2.1, .slice (some ⟨σ.2.2.2.1,0,none⟩) 1 1,σ.2.2.2.2]) (fun σ S W=>(S 5=false→XC dr K we q ((d:Int)+1) dp bd (fL (T0 q (d+1)) (d+1) q ((d:Int)+1) dp bd) (S 3) (S 4) σ.1 σ.2.2.1 σ.2.1 σ.2.2.2.1 71 W)∧(S 5=true→(∃p9 o9 dp9 bd9,SW K W p9 o9 dp9 bd9∧(fL (T0 q (d+1)) (d+1) q ((d:Int)+1) dp bd) σ.1 p9 o9 dp9 bd9)∧Fz g5 K.g we W∧aH W g5 71 #[.int .i64 op, .string (strOf []), .slice none 0 0, .slice none 0 0]∧∃S',dw W g5 g5 [] ([]++[σ.1]) [] ([]++[σ.2.1]) (.slice none 0 0) (σ.2.2.2.2) S')) ((ft,undef,fun _=>False,0,undef)) ?_ ?_ ?_
   ·intro w0 hb0 hs0
    exact⟨fun _=>⟨Fz.of hb0,fun _=>sw.step hb0,fun h=>(by cases h),fun h=>(by cases h)⟩,fun h=>(by cases h)⟩
   ·intro k o ho
    match k,ho with
    |0,ho=>
     injection ho with ho
     subst ho;intro σ S w hS hpre hdc hX;refine Seq.val (aa.ar 3 rfl rfl Tryz.underlying71 rfl (by kernel_rfl)) rfl rfl rfl (Seq.nil ?_);exact ae.aD rfl rfl rfl hpre rfl (fun _ _=>rfl) hX
    |1,ho=>
     injection ho with ho
     subst ho;intro σ S w hS hpre hdc hX;have h5:=cC hdc (i:=5) rfl hS (ao rfl);refine Seq.val (aa.au (g:=g5) (i:=3) rfl rfl Tryz.underlying69 rfl (k5.fz (hX.1 h5).fz (by omega)) rfl) rfl rfl rfl (Seq.nil ?_);exact ae.aD rfl rfl rfl hpre rfl (fun _ _=>rfl) hX
    |2,ho=>
     injection ho with ho
     subst ho;intro σ S w hS hpre hdc hX;refine Seq.val (aa.move rfl rfl) rfl rfl rfl (Seq.nil ?_);exact ae.aD rfl rfl rfl hpre rfl (fun _ _=>rfl) hX
    |3,ho=>
     injection ho with ho
     subst ho;intro σ S w hS hpre hdc hX;have h5:=cC hdc (i:=5) rfl hS (ao rfl);have h4:=cC hdc (i:=4) rfl hS (ao rfl);have hXa:=hX.1 h5;refine Zc (Ze Tryz.func123) ((fun W h1 h2=>hcl W h1 h2) w (hXa.pre hS) hXa.fz) ?_;rintro e w6 ⟨hf,v6,x6,p6,o6,dp6,bd6,rfl,⟨S6,hr6,hb6⟩,hsw6,hpf6⟩;refine⟨_,rfl,Seq.nil ?_⟩;exact ae.aD (σ:=σ) (σ':=(x6,v6,S6,σ.2.2.2.1,σ.2.2.2.2)) rfl rfl rfl hpre rfl (fun j hj=>sP hS h4 h5 j hj) ⟨fun _=>hXa.called h4 hf hsw6 hpf6 hr6 hb6,fun hm=>(oy h5 hm).elim⟩
    |4,ho=>
     injection ho with ho
     subst ho;intro σ S w hS hpre hdc hX;have h5:=cC hdc (i:=5) rfl hS (ao rfl);have hXa:=hX.1 h5;have hd:=hpre 3 (ao rfl);have hones:=(hXa.post hd).2.1.aV;refine Seq.slice (vs:=[σ.2.1]) (s:=4) rfl rfl rfl Tryz.underlying69 (by kernel_rfl) aG (by omega) (by omega) ⟨hones.1,trivial⟩ rfl rfl rfl ?_;intro g7 w' n7;refine Seq.nil ?_;exact ae.aD (σ:=σ) (σ':=(σ.1,σ.2.1,σ.2.2.1,g7,σ.2.2.2.2)) rfl rfl rfl hpre rfl (fun j hj=>sH hS h5 j hj) ⟨fun _=>hXa.pM hd n7,fun hm=>(oy h5 hm).elim⟩
    |5,ho=>
     injection ho with ho
     subst ho;intro σ S w hS hpre hdc hX;have hXa:=hX.1 hS;have hd:=hpre 3 (ao rfl);obtain⟨⟨p3,o3,dp3,bd3,sw3,hpf3⟩,hrep,haway⟩:=hXa.post hd;obtain⟨ez,kz,hnz⟩:=hXa.new (hpre 4 (ao rfl));have hones:=hrep.aV;have hsz:=hXa.fz.size;have aq3:=aq.fz hXa.fz hgt;have hown:=aq3.fO;have k90:=k5.fz hXa.fz (by omega);have hlt90:=k5.lt;refine Seq.gC rfl rfl rfl Tryz.underlying69 (by kernel_rfl) aG rfl (by decide) (b:=72) (by kernel_rfl) hown (Reads.an (size:=4) kz 1 hones.1) hones.2 (by omega) (by first|(simp only[maxLen];omega)|(simp only[maxLen,List.length_nil,List.length_cons];omega)|simp[maxLen]) (by first|omega|(simp only[List.length_nil,List.length_cons];omega)|simp) rfl rfl rfl ?_;intro v' w4 hown' happ hv';refine Seq.nil ?_;have hs4:=happ.below.size
     have aq6:=aq3.AI hrep (fun b hb=>⟨by have:=(haway b hb).1;omega,(haway b hb).2,by have:=(haway b hb).1;omega,fun e=>by have:=(aq.fB.aS b e).2;have:=(haway b hb).1;omega,fun e=>by have:=(aq.fO.aS b e).2;have:=(haway b hb).1;omega⟩) hown' hs4
      (fun b _ h2 h3 h4=>happ.grown.block b h2 (fun e=>h4 e.symm)) (hv'.elim .inl fun e=> .inr ⟨_,e,Nat.le_refl _⟩) (by omega)
     exact ae.aD (σ:=σ) (σ':=(σ.1,σ.2.1,σ.2.2.1,σ.2.2.2.1,v')) rfl rfl rfl hpre rfl (fun j hj=>sZ hS j hj) ⟨(fun h=>by cases h),fun _=>⟨⟨p3,o3,dp3,bd3,⟨sw3.an.grown happ.grown (fun e=>by have:=(hown.aS _ e.symm).1;omega),sw3.rd.below (happ.below.mono (by omega)),sw3.bJ,sw3.ko,sw3.le⟩,hpf3⟩,(hXa.fz.less (by omega)).trans (Fz.of happ.below),k90.grown happ.grown (fun e=>aq3.zK e.symm),_,aq6⟩⟩
    |k+6,ho=>simp at ho
   rintro⟨x1,v1,S1,g1x,vX⟩ S3 wr1 hS hX;obtain⟨⟨q1,o1,dp1,bd1,sw1,hpf⟩,fz3,k53,S7,aq3⟩:=hX.2 (hS 5 (by decide));clear hX;dsimp only at hpf aq3;have stt1:=pr.part hMT hpf;have hs1:=fz3.size;have bel3:Fz w.heap.size K.g w wr1:=ab.trans (fz3.less (by omega));have k23:=k2.FC fz3 h25 (by omega);obtain⟨AX,cX,hvX,-⟩:=aq3.fO.reads;subst hvX;clear ab k2 k5 aq sw pr;have ab:=bel3;have k2:=k23;have k5:=k53;have aq:=aq3;have sw:=sw1;have e5:w.heap.size≤g5:=hg5;refine Zf 3 Tryz.underlying71 ?_;refine Zq k5 ?_;intro w6 pw6;replace ab:=ab.put k5 pw6 e5;replace k2:=k2.put pw6 (by omega);replace aq:=aq.put k5 pw6 e5;replace sw:=sw.put k5 pw6 e5;replace k5:=pw6.an;refine dv 0 2 3 4 5 6 24 38 70 96 107 (aB ?_);refine Zm ?_;have hta:=gE K hK q1 o1 dp1 bd1 [44] _ sw (by decide) (by decide);have k2l5:=k2.lt;have k5l5:=k5.lt;have hsb5:=ab.size;refine Zc (Ze Tryz.func157) hta ?_;rintro e w8 ⟨⟨vq,rfl⟩,hfq,swq⟩;refine⟨_,rfl,?_⟩;have belq:=ab.call hfq;have k2q:=k2.fz hfq (by omega);have k5q:=k5.fz hfq (by omega);have aqq:=aq.fz hfq hgt;have hsq:=hfq.size;have sttq:=stt1.sign;clear ab k2 k5 hta aq sw stt1;have ab:=belq;have k2:=k2q;have k5:=k5q;have aq:=aqq;have sw:=swq;obtain⟨q8,hq8⟩:∃z,z=(et K.ws [44] q1 bd1).1:=⟨_,rfl⟩;obtain⟨bd8,hbd8⟩:∃z,z=(et K.ws [44] q1 bd1).2:=⟨_,rfl⟩;rw[←hq8,←hbd8] at sw sttq;have k5l6:=k5.lt;have hsb6:=ab.size;refine dv 0 2 3 4 5 6 24 38 70 96 107 (Zt ?_)
   have hcl:∀W,SW K W q8 o1 dp1 bd8→Fz w8.heap.size K.g w8 W→Calls Tryz.prog 123 #[.pointer (some ⟨K.g,0,none⟩)] W (CR K W.heap.size W (fL (T0 q8 (d+1)) (d+1) q8 o1 dp1 bd8) (AW W)):=fun W h1 _=>
    hT q8 (d+1) _ _ _ W (by cases hb:bd8 with|false=>exact .inl (sttq.1 hb).2.2.1|true=>exact .inr rfl) (fun hb=>⟨by have:=(sttq.1 hb).1;omega,(sttq.1 hb).2.1,(sttq.1 hb).2.2.2.1⟩) h1
   refine Cd.jo (σT:=Tm × Value × (Nat→Prop) × Nat × Value) 6 (by kernel_rfl) rfl rfl (fun σ=>[.pointer (some ⟨g5,3,none⟩), .slice AX [x1].length cX, .pointer (some ⟨K.g,0,none⟩),σ.2.1, .slice (some ⟨σ.2.2.2.1,0,none⟩) 1 1,σ.2.2.2.2]) (fun σ S W=>(S 5=false→XC dr K w8 q8 o1 dp1 bd8 (fL (T0 q8 (d+1)) (d+1) q8 o1 dp1 bd8) (S 3) (S 4) σ.1 σ.2.2.1 σ.2.1 σ.2.2.2.1 71 W)∧(S 5=true→(∃p9 o9 dp9 bd9,SW K W p9 o9 dp9 bd9∧(fL (T0 q8 (d+1)) (d+1) q8 o1 dp1 bd8) σ.1 p9 o9 dp9 bd9)∧Fz g5 K.g w8 W∧aH W g5 71 #[.int .i64 op, .string (strOf []), .slice none 0 0, .slice AX [x1].length cX]∧∃S',dw W g5 g5 [] ([x1]++[σ.1]) [] ([v1]++[σ.2.1]) (.slice none 0 0) (σ.2.2.2.2) S')) ((ft,undef,fun _=>False,0,undef)) ?_ ?_ ?_
   ·intro w0 hb0 hs0
    exact⟨fun _=>⟨Fz.of hb0,fun _=>sw.step hb0,fun h=>(by cases h),fun h=>(by cases h)⟩,fun h=>(by cases h)⟩
   ·intro k o ho
    match k,ho with
    |0,ho=>
     injection ho with ho
     subst ho;intro σ S w hS hpre hdc hX;refine Seq.val (aa.ar 3 rfl rfl Tryz.underlying71 rfl (by kernel_rfl)) rfl rfl rfl (Seq.nil ?_);exact ae.aD rfl rfl rfl hpre rfl (fun _ _=>rfl) hX
    |1,ho=>
     injection ho with ho
     subst ho;intro σ S w hS hpre hdc hX;have h5:=cC hdc (i:=5) rfl hS (ao rfl);refine Seq.val (aa.au (g:=g5) (i:=3) rfl rfl Tryz.underlying69 rfl (k5.fz (hX.1 h5).fz (by omega)) rfl) rfl rfl rfl (Seq.nil ?_);exact ae.aD rfl rfl rfl hpre rfl (fun _ _=>rfl) hX
    |2,ho=>
     injection ho with ho
     subst ho;intro σ S w hS hpre hdc hX;refine Seq.val (aa.move rfl rfl) rfl rfl rfl (Seq.nil ?_);exact ae.aD rfl rfl rfl hpre rfl (fun _ _=>rfl) hX
    |3,ho=>
     injection ho with ho
     subst ho;intro σ S w hS hpre hdc hX;have h5:=cC hdc (i:=5) rfl hS (ao rfl);have h4:=cC hdc (i:=4) rfl hS (ao rfl);have hXa:=hX.1 h5;refine Zc (Ze Tryz.func123) ((fun W h1 h2=>hcl W h1 h2) w (hXa.pre hS) hXa.fz) ?_;rintro e w6 ⟨hf,v6,x6,p6,o6,dp6,bd6,rfl,⟨S6,hr6,hb6⟩,hsw6,hpf6⟩;refine⟨_,rfl,Seq.nil ?_⟩;exact ae.aD (σ:=σ) (σ':=(x6,v6,S6,σ.2.2.2.1,σ.2.2.2.2)) rfl rfl rfl hpre rfl (fun j hj=>sP hS h4 h5 j hj) ⟨fun _=>hXa.called h4 hf hsw6 hpf6 hr6 hb6,fun hm=>(oy h5 hm).elim⟩
    |4,ho=>
     injection ho with ho
     subst ho;intro σ S w hS hpre hdc hX;have h5:=cC hdc (i:=5) rfl hS (ao rfl);have hXa:=hX.1 h5;have hd:=hpre 3 (ao rfl);have hones:=(hXa.post hd).2.1.aV;refine Seq.slice (vs:=[σ.2.1]) (s:=4) rfl rfl rfl Tryz.underlying69 (by kernel_rfl) aG (by omega) (by omega) ⟨hones.1,trivial⟩ rfl rfl rfl ?_;intro g7 w' n7;refine Seq.nil ?_;exact ae.aD (σ:=σ) (σ':=(σ.1,σ.2.1,σ.2.2.1,g7,σ.2.2.2.2)) rfl rfl rfl hpre rfl (fun j hj=>sH hS h5 j hj) ⟨fun _=>hXa.pM hd n7,fun hm=>(oy h5 hm).elim⟩
    |5,ho=>
     injection ho with ho
     subst ho;intro σ S w hS hpre hdc hX;have hXa:=hX.1 hS;have hd:=hpre 3 (ao rfl);obtain⟨⟨p3,o3,dp3,bd3,sw3,hpf3⟩,hrep,haway⟩:=hXa.post hd;obtain⟨ez,kz,hnz⟩:=hXa.new (hpre 4 (ao rfl));have hones:=hrep.aV;have hsz:=hXa.fz.size;have aq3:=aq.fz hXa.fz hgt;have hown:=aq3.fO;have k90:=k5.fz hXa.fz (by omega);have hlt90:=k5.lt;refine Seq.gC rfl rfl rfl Tryz.underlying69 (by kernel_rfl) aG rfl (by decide) (b:=72) (by kernel_rfl) hown (Reads.an (size:=4) kz 1 hones.1) hones.2 (by omega) (by first|(simp only[maxLen];omega)|(simp only[maxLen,List.length_nil,List.length_cons];omega)|simp[maxLen]) (by first|omega|(simp only[List.length_nil,List.length_cons];omega)|simp) rfl rfl rfl ?_;intro v' w4 hown' happ hv';refine Seq.nil ?_;have hs4:=happ.below.size
     have aq6:=aq3.AI hrep (fun b hb=>⟨by have:=(haway b hb).1;omega,(haway b hb).2,by have:=(haway b hb).1;omega,fun e=>by have:=(aq.fB.aS b e).2;have:=(haway b hb).1;omega,fun e=>by have:=(aq.fO.aS b e).2;have:=(haway b hb).1;omega⟩) hown' hs4
      (fun b _ h2 h3 h4=>happ.grown.block b h2 (fun e=>h4 e.symm)) (hv'.elim .inl fun e=> .inr ⟨_,e,Nat.le_refl _⟩) (by omega)
     exact ae.aD (σ:=σ) (σ':=(σ.1,σ.2.1,σ.2.2.1,σ.2.2.2.1,v')) rfl rfl rfl hpre rfl (fun j hj=>sZ hS j hj) ⟨(fun h=>by cases h),fun _=>⟨⟨p3,o3,dp3,bd3,⟨sw3.an.grown happ.grown (fun e=>by have:=(hown.aS _ e.symm).1;omega),sw3.rd.below (happ.below.mono (by omega)),sw3.bJ,sw3.ko,sw3.le⟩,hpf3⟩,(hXa.fz.less (by omega)).trans (Fz.of happ.below),k90.grown happ.grown (fun e=>aq3.zK e.symm),_,aq6⟩⟩
    |k+6,ho=>simp at ho
   rintro⟨x2,v2,S2,g2x,vX⟩ S3 wr2 hS hX;obtain⟨⟨q2,o2,dp2,bd2,sw2,hpf⟩,fz3,k53,S7,aq3⟩:=hX.2 (hS 5 (by decide));clear hX;dsimp only at hpf aq3;have stt2:=sttq.part hMT hpf;have hs2:=fz3.size;have bel3:Fz w.heap.size K.g w wr2:=ab.trans (fz3.less (by omega));have k23:=k2.FC fz3 h25 (by omega);obtain⟨AX2,cX2,hvX,-⟩:=aq3.fO.reads;subst hvX;clear ab k2 k5 aq sw sttq;have ab:=bel3;have k2:=k23;have k5:=k53;have aq:=aq3;have sw:=sw2;have e5:w.heap.size≤g5:=hg5;refine Zf 3 Tryz.underlying71 ?_;refine Zq k5 ?_;intro w7 pw7;replace ab:=ab.put k5 pw7 e5;replace k2:=k2.put pw7 (by omega);replace aq:=aq.put k5 pw7 e5;replace sw:=sw.put k5 pw7 e5;replace k5:=pw7.an;refine dv 0 2 3 4 5 6 24 38 70 96 107 (ae.ah ?_);exact ae.join (q2,o2,dp2,bd2,[],[],[x1,x2],[],[v1,v2],(none,0),(AX2,cX2),_) ⟨rfl,rfl,rfl,trivial⟩ ⟨sw,ab,k2,k5,aq,⟨by simp,by simp⟩,⟨by simp,by simp⟩,stt2⟩
  ·obtain⟨-,rfl⟩:(6≤op∧op≤9)∧_:=by
    rcases hcont with ⟨h,-⟩|h
    ·omega
    ·exact h
   have hcl:∀W,SW K W q ((d:Int)+1) dp bd→Fz we.heap.size K.g we W→Calls Tryz.prog 160 #[.pointer (some ⟨K.g,0,none⟩), .int .i64 1] W (CR K W.heap.size W (fL ((cg K.ws).E 0 q (d+1)) (d+1) q ((d:Int)+1) dp bd) (pb W)):=fun W h1 _=>
    AF K hK hW q (d+1) _ _ _ (fun hb=>⟨by have:=(pr.1 hb).1;omega,(pr.1 hb).2.1,(pr.1 hb).2.2.2.1⟩) W h1
   refine Cd.seq ?_;refine Cd.jo (σT:=Ex × Value × (Nat→Prop) × Nat × Value) 6 (by kernel_rfl) rfl rfl (fun σ=>[.pointer (some ⟨g5,2,none⟩), .slice none 0 0, .pointer (some ⟨K.g,0,none⟩),σ.2.1, .slice (some ⟨σ.2.2.2.1,0,none⟩) 1 1,σ.2.2.2.2]) (fun σ S W=>(S 5=false→XC cw K we q ((d:Int)+1) dp bd (fL ((cg K.ws).E 0 q (d+1)) (d+1) q ((d:Int)+1) dp bd) (S 3) (S 4) σ.1 σ.2.2.1 σ.2.1 σ.2.2.2.1 105 W)∧(S 5=true→(∃p9 o9 dp9 bd9,SW K W p9 o9 dp9 bd9∧(fL ((cg K.ws).E 0 q (d+1)) (d+1) q ((d:Int)+1) dp bd) σ.1 p9 o9 dp9 bd9)∧Fz g5 K.g we W∧aH W g5 71 #[.int .i64 op, .string (strOf []), .slice none 0 0, .slice none 0 0]∧∃S',dw W g5 g5 ([]++[σ.1]) [] ([]++[σ.2.1]) [] (σ.2.2.2.2) (.slice none 0 0) S')) ((j0,undef,fun _=>False,0,undef)) ?_ ?_ ?_
   ·intro w0 hb0 hs0
    exact⟨fun _=>⟨Fz.of hb0,fun _=>sw.step hb0,fun h=>(by cases h),fun h=>(by cases h)⟩,fun h=>(by cases h)⟩
   ·intro k o ho
    match k,ho with
    |0,ho=>
     injection ho with ho
     subst ho;intro σ S w hS hpre hdc hX;refine Seq.val (aa.ar 2 rfl rfl Tryz.underlying71 rfl (by kernel_rfl)) rfl rfl rfl (Seq.nil ?_);exact ae.aD rfl rfl rfl hpre rfl (fun _ _=>rfl) hX
    |1,ho=>
     injection ho with ho
     subst ho;intro σ S w hS hpre hdc hX;have h5:=cC hdc (i:=5) rfl hS (ao rfl);refine Seq.val (aa.au (g:=g5) (i:=2) rfl rfl Tryz.underlying68 rfl (k5.fz (hX.1 h5).fz (by omega)) rfl) rfl rfl rfl (Seq.nil ?_);exact ae.aD rfl rfl rfl hpre rfl (fun _ _=>rfl) hX
    |2,ho=>
     injection ho with ho
     subst ho;intro σ S w hS hpre hdc hX;refine Seq.val (aa.move rfl rfl) rfl rfl rfl (Seq.nil ?_);exact ae.aD rfl rfl rfl hpre rfl (fun _ _=>rfl) hX
    |3,ho=>
     injection ho with ho
     subst ho;intro σ S w hS hpre hdc hX;have h5:=cC hdc (i:=5) rfl hS (ao rfl);have h4:=cC hdc (i:=4) rfl hS (ao rfl);have hXa:=hX.1 h5;refine Zc (Ze Tryz.func160) ((fun W h1 h2=>hcl W h1 h2) w (hXa.pre hS) hXa.fz) ?_;rintro e w6 ⟨hf,v6,x6,p6,o6,dp6,bd6,rfl,⟨S6,hr6,hb6⟩,hsw6,hpf6⟩;refine⟨_,rfl,Seq.nil ?_⟩;exact ae.aD (σ:=σ) (σ':=(x6,v6,S6,σ.2.2.2.1,σ.2.2.2.2)) rfl rfl rfl hpre rfl (fun j hj=>sP hS h4 h5 j hj) ⟨fun _=>hXa.called h4 hf hsw6 hpf6 hr6 hb6,fun hm=>(oy h5 hm).elim⟩
    |4,ho=>
     injection ho with ho
     subst ho;intro σ S w hS hpre hdc hX;have h5:=cC hdc (i:=5) rfl hS (ao rfl);have hXa:=hX.1 h5;have hd:=hpre 3 (ao rfl);have hones:=(hXa.post hd).2.1.aV;refine Seq.slice (vs:=[σ.2.1]) (s:=4) rfl rfl rfl Tryz.underlying68 (by kernel_rfl) az (by omega) (by omega) ⟨hones.1,trivial⟩ rfl rfl rfl ?_;intro g7 w' n7;refine Seq.nil ?_;exact ae.aD (σ:=σ) (σ':=(σ.1,σ.2.1,σ.2.2.1,g7,σ.2.2.2.2)) rfl rfl rfl hpre rfl (fun j hj=>sH hS h5 j hj) ⟨fun _=>hXa.yl hd n7,fun hm=>(oy h5 hm).elim⟩
    |5,ho=>
     injection ho with ho
     subst ho;intro σ S w hS hpre hdc hX;have hXa:=hX.1 hS;have hd:=hpre 3 (ao rfl);obtain⟨⟨p3,o3,dp3,bd3,sw3,hpf3⟩,hrep,haway⟩:=hXa.post hd;obtain⟨ez,kz,hnz⟩:=hXa.new (hpre 4 (ao rfl));have hones:=hrep.aV;have hsz:=hXa.fz.size;have aq3:=aq.fz hXa.fz hgt;have hown:=aq3.fB;have k90:=k5.fz hXa.fz (by omega);have hlt90:=k5.lt;refine Seq.gC rfl rfl rfl Tryz.underlying68 (by kernel_rfl) az rfl (by decide) (b:=56) (by kernel_rfl) hown (Reads.an (size:=4) kz 1 hones.1) hones.2 (by omega) (by first|(simp only[maxLen];omega)|(simp only[maxLen,List.length_nil,List.length_cons];omega)|simp[maxLen]) (by first|omega|(simp only[List.length_nil,List.length_cons];omega)|simp) rfl rfl rfl ?_;intro v' w4 hown' happ hv';refine Seq.nil ?_;have hs4:=happ.below.size
     have aq6:=aq3.Cc hrep (fun b hb=>⟨by have:=(haway b hb).1;omega,(haway b hb).2,by have:=(haway b hb).1;omega,fun e=>by have:=(aq.fB.aS b e).2;have:=(haway b hb).1;omega,fun e=>by have:=(aq.fO.aS b e).2;have:=(haway b hb).1;omega⟩) hown' hs4
      (fun b _ h2 h3 h4=>happ.grown.block b h2 (fun e=>h4 e.symm)) (hv'.elim .inl fun e=> .inr ⟨_,e,Nat.le_refl _⟩) (by omega)
     exact ae.aD (σ:=σ) (σ':=(σ.1,σ.2.1,σ.2.2.1,σ.2.2.2.1,v')) rfl rfl rfl hpre rfl (fun j hj=>sZ hS j hj) ⟨(fun h=>by cases h),fun _=>⟨⟨p3,o3,dp3,bd3,⟨sw3.an.grown happ.grown (fun e=>by have:=(hown.aS _ e.symm).1;omega),sw3.rd.below (happ.below.mono (by omega)),sw3.bJ,sw3.ko,sw3.le⟩,hpf3⟩,(hXa.fz.less (by omega)).trans (Fz.of happ.below),k90.grown happ.grown (fun e=>aq3.zL e.symm),_,aq6⟩⟩
    |k+6,ho=>simp at ho
   rintro⟨x1,v1,S1,g1x,vX⟩ S3 wr1 hS hX;obtain⟨⟨q1,o1,dp1,bd1,sw1,hpf⟩,fz3,k53,S7,aq3⟩:=hX.2 (hS 5 (by decide));clear hX;dsimp only at hpf aq3;have stt1:=pr.part hME hpf;have hs1:=fz3.size;have bel3:Fz w.heap.size K.g w wr1:=ab.trans (fz3.less (by omega));have k23:=k2.FC fz3 h25 (by omega);obtain⟨AX,cX,hvX,-⟩:=aq3.fB.reads;subst hvX;clear ab k2 k5 aq sw pr;have ab:=bel3;have k2:=k23;have k5:=k53;have aq:=aq3;have sw:=sw1;have e5:w.heap.size≤g5:=hg5;refine Zf 2 Tryz.underlying71 ?_;refine Zq k5 ?_;intro w6 pw6;replace ab:=ab.put k5 pw6 e5;replace k2:=k2.put pw6 (by omega);replace aq:=aq.put k5 pw6 e5;replace sw:=sw.put k5 pw6 e5;replace k5:=pw6.an;refine dv 0 2 3 4 5 6 24 38 70 96 107 (aB ?_);refine Zm ?_;have hta:=gE K hK q1 o1 dp1 bd1 [44] _ sw (by decide) (by decide);have k2l5:=k2.lt;have k5l5:=k5.lt;have hsb5:=ab.size;refine Zc (Ze Tryz.func157) hta ?_;rintro e w8 ⟨⟨vq,rfl⟩,hfq,swq⟩;refine⟨_,rfl,?_⟩;have belq:=ab.call hfq;have k2q:=k2.fz hfq (by omega);have k5q:=k5.fz hfq (by omega);have aqq:=aq.fz hfq hgt;have hsq:=hfq.size;have sttq:=stt1.sign;clear ab k2 k5 hta aq sw stt1;have ab:=belq;have k2:=k2q;have k5:=k5q;have aq:=aqq;have sw:=swq;obtain⟨q8,hq8⟩:∃z,z=(et K.ws [44] q1 bd1).1:=⟨_,rfl⟩;obtain⟨bd8,hbd8⟩:∃z,z=(et K.ws [44] q1 bd1).2:=⟨_,rfl⟩;rw[←hq8,←hbd8] at sw sttq;have k5l6:=k5.lt;have hsb6:=ab.size;refine dv 0 2 3 4 5 6 24 38 70 96 107 (Zt ?_)
   have hcl:∀W,SW K W q8 o1 dp1 bd8→Fz w8.heap.size K.g w8 W→Calls Tryz.prog 123 #[.pointer (some ⟨K.g,0,none⟩)] W (CR K W.heap.size W (fL (T0 q8 (d+1)) (d+1) q8 o1 dp1 bd8) (AW W)):=fun W h1 _=>
    hT q8 (d+1) _ _ _ W (by cases hb:bd8 with|false=>exact .inl (sttq.1 hb).2.2.1|true=>exact .inr rfl) (fun hb=>⟨by have:=(sttq.1 hb).1;omega,(sttq.1 hb).2.1,(sttq.1 hb).2.2.2.1⟩) h1
   refine Cd.jo (σT:=Tm × Value × (Nat→Prop) × Nat × Value) 6 (by kernel_rfl) rfl rfl (fun σ=>[.pointer (some ⟨g5,3,none⟩), .slice none 0 0, .pointer (some ⟨K.g,0,none⟩),σ.2.1, .slice (some ⟨σ.2.2.2.1,0,none⟩) 1 1,σ.2.2.2.2]) (fun σ S W=>(S 5=false→XC dr K w8 q8 o1 dp1 bd8 (fL (T0 q8 (d+1)) (d+1) q8 o1 dp1 bd8) (S 3) (S 4) σ.1 σ.2.2.1 σ.2.1 σ.2.2.2.1 71 W)∧(S 5=true→(∃p9 o9 dp9 bd9,SW K W p9 o9 dp9 bd9∧(fL (T0 q8 (d+1)) (d+1) q8 o1 dp1 bd8) σ.1 p9 o9 dp9 bd9)∧Fz g5 K.g w8 W∧aH W g5 71 #[.int .i64 op, .string (strOf []), .slice AX [x1].length cX, .slice none 0 0]∧∃S',dw W g5 g5 [x1] ([]++[σ.1]) [v1] ([]++[σ.2.1]) (.slice AX [x1].length cX) (σ.2.2.2.2) S')) ((ft,undef,fun _=>False,0,undef)) ?_ ?_ ?_
   ·intro w0 hb0 hs0
    exact⟨fun _=>⟨Fz.of hb0,fun _=>sw.step hb0,fun h=>(by cases h),fun h=>(by cases h)⟩,fun h=>(by cases h)⟩
   ·intro k o ho
    match k,ho with
    |0,ho=>
     injection ho with ho
     subst ho;intro σ S w hS hpre hdc hX;refine Seq.val (aa.ar 3 rfl rfl Tryz.underlying71 rfl (by kernel_rfl)) rfl rfl rfl (Seq.nil ?_);exact ae.aD rfl rfl rfl hpre rfl (fun _ _=>rfl) hX
    |1,ho=>
     injection ho with ho
     subst ho;intro σ S w hS hpre hdc hX;have h5:=cC hdc (i:=5) rfl hS (ao rfl);refine Seq.val (aa.au (g:=g5) (i:=3) rfl rfl Tryz.underlying69 rfl (k5.fz (hX.1 h5).fz (by omega)) rfl) rfl rfl rfl (Seq.nil ?_);exact ae.aD rfl rfl rfl hpre rfl (fun _ _=>rfl) hX
    |2,ho=>
     injection ho with ho
     subst ho;intro σ S w hS hpre hdc hX;refine Seq.val (aa.move rfl rfl) rfl rfl rfl (Seq.nil ?_);exact ae.aD rfl rfl rfl hpre rfl (fun _ _=>rfl) hX
    |3,ho=>
     injection ho with ho
     subst ho;intro σ S w hS hpre hdc hX;have h5:=cC hdc (i:=5) rfl hS (ao rfl);have h4:=cC hdc (i:=4) rfl hS (ao rfl);have hXa:=hX.1 h5;refine Zc (Ze Tryz.func123) ((fun W h1 h2=>hcl W h1 h2) w (hXa.pre hS) hXa.fz) ?_;rintro e w6 ⟨hf,v6,x6,p6,o6,dp6,bd6,rfl,⟨S6,hr6,hb6⟩,hsw6,hpf6⟩;refine⟨_,rfl,Seq.nil ?_⟩;exact ae.aD (σ:=σ) (σ':=(x6,v6,S6,σ.2.2.2.1,σ.2.2.2.2)) rfl rfl rfl hpre rfl (fun j hj=>sP hS h4 h5 j hj) ⟨fun _=>hXa.called h4 hf hsw6 hpf6 hr6 hb6,fun hm=>(oy h5 hm).elim⟩
    |4,ho=>
     injection ho with ho
     subst ho;intro σ S w hS hpre hdc hX;have h5:=cC hdc (i:=5) rfl hS (ao rfl);have hXa:=hX.1 h5;have hd:=hpre 3 (ao rfl);have hones:=(hXa.post hd).2.1.aV;refine Seq.slice (vs:=[σ.2.1]) (s:=4) rfl rfl rfl Tryz.underlying69 (by kernel_rfl) aG (by omega) (by omega) ⟨hones.1,trivial⟩ rfl rfl rfl ?_;intro g7 w' n7;refine Seq.nil ?_;exact ae.aD (σ:=σ) (σ':=(σ.1,σ.2.1,σ.2.2.1,g7,σ.2.2.2.2)) rfl rfl rfl hpre rfl (fun j hj=>sH hS h5 j hj) ⟨fun _=>hXa.pM hd n7,fun hm=>(oy h5 hm).elim⟩
    |5,ho=>
     injection ho with ho
     subst ho;intro σ S w hS hpre hdc hX;have hXa:=hX.1 hS;have hd:=hpre 3 (ao rfl);obtain⟨⟨p3,o3,dp3,bd3,sw3,hpf3⟩,hrep,haway⟩:=hXa.post hd;obtain⟨ez,kz,hnz⟩:=hXa.new (hpre 4 (ao rfl));have hones:=hrep.aV;have hsz:=hXa.fz.size;have aq3:=aq.fz hXa.fz hgt;have hown:=aq3.fO;have k90:=k5.fz hXa.fz (by omega);have hlt90:=k5.lt;refine Seq.gC rfl rfl rfl Tryz.underlying69 (by kernel_rfl) aG rfl (by decide) (b:=72) (by kernel_rfl) hown (Reads.an (size:=4) kz 1 hones.1) hones.2 (by omega) (by first|(simp only[maxLen];omega)|(simp only[maxLen,List.length_nil,List.length_cons];omega)|simp[maxLen]) (by first|omega|(simp only[List.length_nil,List.length_cons];omega)|simp) rfl rfl rfl ?_;intro v' w4 hown' happ hv';refine Seq.nil ?_;have hs4:=happ.below.size
     have aq6:=aq3.AI hrep (fun b hb=>⟨by have:=(haway b hb).1;omega,(haway b hb).2,by have:=(haway b hb).1;omega,fun e=>by have:=(aq.fB.aS b e).2;have:=(haway b hb).1;omega,fun e=>by have:=(aq.fO.aS b e).2;have:=(haway b hb).1;omega⟩) hown' hs4
      (fun b _ h2 h3 h4=>happ.grown.block b h2 (fun e=>h4 e.symm)) (hv'.elim .inl fun e=> .inr ⟨_,e,Nat.le_refl _⟩) (by omega)
     exact ae.aD (σ:=σ) (σ':=(σ.1,σ.2.1,σ.2.2.1,σ.2.2.2.1,v')) rfl rfl rfl hpre rfl (fun j hj=>sZ hS j hj) ⟨(fun h=>by cases h),fun _=>⟨⟨p3,o3,dp3,bd3,⟨sw3.an.grown happ.grown (fun e=>by have:=(hown.aS _ e.symm).1;omega),sw3.rd.below (happ.below.mono (by omega)),sw3.bJ,sw3.ko,sw3.le⟩,hpf3⟩,(hXa.fz.less (by omega)).trans (Fz.of happ.below),k90.grown happ.grown (fun e=>aq3.zK e.symm),_,aq6⟩⟩
    |k+6,ho=>simp at ho
   rintro⟨x2,v2,S2,g2x,vX⟩ S3 wr2 hS hX;obtain⟨⟨q2,o2,dp2,bd2,sw2,hpf⟩,fz3,k53,S7,aq3⟩:=hX.2 (hS 5 (by decide));clear hX;dsimp only at hpf aq3;have stt2:=sttq.part hMT hpf;have hs2:=fz3.size;have bel3:Fz w.heap.size K.g w wr2:=ab.trans (fz3.less (by omega));have k23:=k2.FC fz3 h25 (by omega);obtain⟨AX2,cX2,hvX,-⟩:=aq3.fO.reads;subst hvX;clear ab k2 k5 aq sw sttq;have ab:=bel3;have k2:=k23;have k5:=k53;have aq:=aq3;have sw:=sw2;have e5:w.heap.size≤g5:=hg5;refine Zf 3 Tryz.underlying71 ?_;refine Zq k5 ?_;intro w7 pw7;replace ab:=ab.put k5 pw7 e5;replace k2:=k2.put pw7 (by omega);replace aq:=aq.put k5 pw7 e5;replace sw:=sw.put k5 pw7 e5;replace k5:=pw7.an;refine dv 0 2 3 4 5 6 24 38 70 96 107 (ae.ah ?_);exact ae.join (q2,o2,dp2,bd2,[],[x1],[x2],[v1],[v2],(AX,cX),(AX2,cX2),_) ⟨rfl,rfl,rfl,trivial⟩ ⟨sw,ab,k2,k5,aq,⟨by simp,by simp⟩,⟨by simp,by simp⟩,stt2⟩
 clear sw pr aq ab k2 k5;rintro⟨q1,o1,dp1,bd1,nm,es,ts,evs,tvs,⟨AE,cE⟩,⟨AT,cT⟩,S⟩ wr ⟨sw,ab,k2,k5,aq,hnm,hle10,pr⟩;dsimp only at sw k5 aq hnm hle10 pr;have hob:=pr.ko hd;have hta:=gE K hK q1 o1 dp1 bd1 [41] _ sw (by decide) (by decide);have k2l4:=k2.lt;have hsb4:=ab.size;have k5l4:=k5.lt;have hgt:K.g<g5:=by omega
 refine aj ?_;refine Zm ?_;refine Zc (Ze Tryz.func157) hta ?_;rintro e wq ⟨⟨vq,rfl⟩,hfq,swq⟩;refine⟨_,rfl,?_⟩;have belq:=ab.call hfq;have k2q:=k2.fz hfq (by omega);have k5q:=k5.fz hfq (by omega);have aqq:=aq.fz hfq hgt;have hsq:=hfq.size;clear ab k2 k5 hta aq sw;have ab:=belq;have k2:=k2q;have k5:=k5q;have k99:=swq.an;have rdw:=swq.Ft;have loc:=Fz.refl wq.heap.size K.g wq;have e2:w.heap.size≤g2:=hg2;refine bn 0 2 5 (aB ?_);refine Zm ?_;refine Zv (aa.nilCheck rfl rfl) ?_;refine Zf 2 Tryz.underlying183 ?_;refine ZL Tryz.underlying3 k99 ?_;refine mC ?_;refine Zv (aa.nilCheck rfl rfl) ?_;refine Zf 2 Tryz.underlying183 ?_;refine Zq k99 ?_;intro w6 pw6;replace ab:=ab.put k99 pw6 e99;replace k2:=k2.put pw6 (by omega);replace k5:=k5.put pw6 (by omega);replace rdw:=rdw.put k99 pw6 e99;replace loc:=loc.put k99 pw6 e99;replace k99:=pw6.an;refine bn 0 2 5 (aB ?_);have aq6:=aqq.fz loc hgt;have k2b:=k2;refine ZW 4 Tryz.underlying71 k5 ?_;refine Zo 4 k2 ?_;intro w7 pw7;replace ab:=ab.put k2 pw7 e2;replace k5:=k5.put pw7 (by omega);replace k99:=k99.put pw7 (by omega);replace rdw:=rdw.put k2 pw7 e2;replace k2:=pw7.an;refine bn 0 2 5 (Zt (Cd.ret ?_));refine gp 4 k2 Tryz.underlying71 ?_;have hrep:=aq6.tm op nm hop64 hnm.1 (by have:=hnm.2;omega) (by omega) (by omega);have hbn:=aq6.bounds;have hsz:=pw7.size;refine⟨ab,_,_,_,_,_,_,rfl,⟨_,hrep.mono (fun _ h=>h) (fun a ha=>World.cell?_of_block (pw7.grown.block _ (hbn _ ha).2.1 (fun e=>by injection e with e;have:=(hbn _ ha).1;omega))),fun b hb=>by have:=hbn b hb;omega⟩,rdw.sw k99 swq.bJ (by omega),fun _=>pr.sign.close,fun h=>by cases h⟩
theorem qY (ws:List Wd):fE (nF ws):=na ws _
theorem As (K:Ctx)(hK:K.Ok)(hW:wm K.ws)(q d:Nat)(o:Int)(dp:Bool)(W:World)(sw:SW K W q o dp true):
  Calls Tryz.prog 123 #[.pointer (some ⟨K.g,0,none⟩)] W (CR K W.heap.size W (fL (nF K.ws q d) d q o dp true) (AW W)):=by
 rw[vF];exact sr K hK hW q d o dp true (nF K.ws) (qY _) W sw (fun h=>by cases h) (fun h=>by cases h)
theorem um (K:Ctx)(hK:K.Ok)(hW:wm K.ws):∀n q (d:Nat) W,K.ws.length-q<n→d≤64→SW K W q d false false→
  Calls Tryz.prog 123 #[.pointer (some ⟨K.g,0,none⟩)] W (CR K W.heap.size W (fL (nF K.ws q d) d q d false false) (AW W))
 |0,q,d,W,h,_,_=>by omega
 |n+1,q,d,W,h,hd,sw=>by
  rw[vF];refine sr K hK hW q d d false false (nF K.ws) (qY _) W sw (fun _=>⟨rfl,rfl,hd⟩) fun _ q' d' o' dp' bd' W' h1 h2 h3=> ?_
  cases bd' with
  |true=>exact As K hK hW q' d' o' dp' W' h3
  |false=>
   obtain⟨rfl,rfl,h4⟩:=h2 rfl;have hq:q<q':=by rcases h1 with h1|h1<;>first|exact h1|cases h1
   have:=h3.bJ;exact um K hK hW n q' d' W' (by omega) h4 h3
theorem fH:∀(l r:List Ex),aK (l++r)=aK l+aK r
 | [],r=>by rw[List.nil_append,aK];omega
 |x::l,r=>by rw[List.cons_append,aK,aK,fH l r];omega
def zy (f:Nat→Nat→Rs Ex):Prop:=∀p d x q,f p d= .ok x q→x.nodes+p≤q
theorem vO {α:Type}(ws:List Wd)(m:α→Nat):∀(aV:List (Nat→Nat→Rs α)),(∀f∈aV,∀p d x q,f p d= .ok x q→m x+p≤q)→∀first p d xs q,bl ws aV first p d= .ok xs q→(xs.map m).sum+p≤q
 | [],_,first,p,d,xs,q,h=>by
  injection h with h h2
  subst h;simp;omega
 |f::r,hm,first,p,d,xs,q,h=>by
  rw[bl] at h;obtain⟨u,p1,h1,h⟩:=Rs.ax h;obtain⟨x,p2,h2,h⟩:=Rs.ax h;obtain⟨ys,p3,h3,h⟩:=Rs.ax h;injection h with h h4
  subst h
  have e1:p≤p1:=by
   split at h1
   ·injection h1 with _ h1;omega
   ·have:=(ic h1).1;omega
  have e2:=hm f (by simp) _ _ _ _ h2;have e3:=vO ws m r (fun g hg=>hm g (by simp[hg])) _ _ _ _ _ h3;simp only[List.map_cons,List.sum_cons];omega
theorem lZ {α:Type}{ws:List Wd}{m:α→Nat}{aV:List (Nat→Nat→Rs α)}(hm:∀f∈aV,∀p d x q,f p d= .ok x q→m x+p≤q){p d q:Nat}{xs:List α}(h:aT ws aV p d= .ok xs q):(xs.map m).sum+p+2≤q:=by
 unfold aT at h;obtain⟨u,p1,h1,h⟩:=Rs.ax h;obtain⟨u2,p2,h2,h⟩:=Rs.ax h;obtain⟨ys,p3,h3,h⟩:=Rs.ax h;obtain⟨u3,p4,h4,h⟩:=Rs.ax h;injection h with h h5
 subst h;have:=vO ws m aV hm _ _ _ _ _ h3;have:=(ic h1).1;have:=(iJ h2).1;have:=(ic h4).1;omega
theorem nd:∀l:List Ex,aK l=(l.map Ex.nodes).sum
 | []=>by rw[aK];rfl
 |x::l=>by rw[aK,nd l];rfl
theorem oL {ws:List Wd}{E0:Nat→Nat→Rs Ex}(hE:zy E0){op:Int}{k p d q:Nat}{x:Ex}(h:bV ws E0 op k p d= .ok x q):x.nodes+p≤q:=by
 unfold bV at h;obtain⟨xs,p1,h1,h⟩:=Rs.ax h;injection h with h h2
 subst h;have:=lZ (m:=Ex.nodes) (fun f hf=>(List.mem_replicate.1 hf).2▸hE) h1;rw[Ex.dQ,nd];omega
theorem DQ {ws:List Wd}{E0:Nat→Nat→Rs Ex}(hE:zy E0):zy (fm ws E0):=by
 intro p d x q h;unfold fm at h;have leaf:∀ {op n:Int} {nm:List Nat},(Ex.mk op n nm []).nodes=1:=fun {op n nm}=>by rw[Ex.dQ,aK]
 split at h
 ·injection h with h h2
  subst h;rw[leaf];omega
 split at h
 ·injection h with h h2
  subst h;rw[leaf];omega
 split at h
 ·split at h
  ·injection h with h h2
   subst h;rw[leaf];omega
  split at h
  ·exact oL hE h
  split at h
  ·exact oL hE h
  split at h
  ·exact oL hE h
  ·obtain⟨nm,p1,h1,h⟩:=Rs.ax h
   injection h with h h2
   subst h;have:=(jb h1).1;rw[leaf];omega
 split at h
 ·obtain⟨xs,p1,h1,h⟩:=Rs.ax h
  injection h with h h2
  have hl:=eE h1;have ha:=lZ (m:=Ex.nodes) (fun f hf=>(List.mem_singleton.1 hf)▸hE) h1
  match xs,hl with
  | [y],_=>
   subst h;simp at ha;show y.nodes+p≤q;omega
 ·cases h
theorem vY {S:Nat→Nat→Rs Ex}(hS:zy S){op:Int}:zy (dz S op):=by
 intro p d x q h;unfold dz at h;obtain⟨u,p1,h1,h⟩:=Rs.ax h;obtain⟨y,p2,h2,h⟩:=Rs.ax h;injection h with h h3
 subst h;have:=(iJ h1).1;have:=hS _ _ _ _ h2;rw[Ex.dQ,aK,aK];omega
theorem Bi {ws:List Wd}{S E0:Nat→Nat→Rs Ex}(hS:zy S)(hE:zy E0):zy (bD ws S E0):=by
 intro p d x q h;unfold bD at h;split at h
 ·exact vY hS _ _ _ _ h
 split at h
 ·exact vY hS _ _ _ _ h
 ·exact DQ hE _ _ _ _ h
structure GN (f:PF):Prop where
 E:∀lvl,zy (f.E lvl)
 L:∀lvl x p d y q,f.L lvl x p d= .ok y q→y.nodes+p≤q+x.nodes
 S:zy f.S
theorem DR {ws:List Wd}{f:PF}(hf:GN f){lvl p d q:Nat}{x y:Ex}(h:dI ws f lvl x p d= .ok y q):y.nodes+p≤q+x.nodes:=by
 unfold dI at h
 cases ho:opAt ws lvl p with
 |none=>
  rw[ho] at h;injection h with h h2
  subst h;omega
 |some op=>
  rw[ho] at h;obtain⟨r,p1,h1,h⟩:=Rs.ax h;have h2:=hf.E _ _ _ _ _ h1;have hm:(tZ op x r).nodes=1+x.nodes+r.nodes:=by unfold tZ;rw[Ex.dQ,aK,aK,aK];omega
  split at h
  ·injection h with h h3
   subst h;omega
  ·have:=hf.L _ _ _ _ _ _ h
   omega
theorem Cr {L:Nat→Ex→Nat→Nat→Rs Ex}{S:Nat→Nat→Rs Ex}(hL:∀lvl x p d y q,L lvl x p d= .ok y q→y.nodes+p≤q+x.nodes)(hS:zy S):∀i,zy (lH L S i)
 |0=>hS
 |i+1=>fun p d x q h=>by
  rw[lH] at h;obtain⟨y,p1,h1,h⟩:=Rs.ax h;have:=hL _ _ _ _ _ _ h;have:=Cr hL hS i _ _ _ _ h1;omega
theorem yQ (ws:List Wd):∀n,GN (bH ws n)
 |0=>⟨fun _ _ _ _ _ h=>by(cases h),fun _ _ _ _ _ _ h=>by(cases h),fun _ _ _ _ h=>by(cases h)⟩
 |n+1=>by
  have ih:=yQ ws n;have hL:∀lvl x p d y q,dI ws (bH ws n) lvl x p d= .ok y q→y.nodes+p≤q+x.nodes:=fun lvl x p d y q h=>DR ih h;have hS:=Bi (ws:=ws) ih.S (ih.E 0);exact⟨fun lvl=>Cr hL hS _,hL,hS⟩
theorem qM:∀l:List Tm,cu l=(l.map Tm.nodes).sum
 | []=>by rw[cu];rfl
 |x::l=>by rw[cu,qM l];rfl
theorem lN (op:Int)(nm:List Nat)(es:List Ex)(l:List Tm):(Tm.mk op nm es l).nodes=1+(es.map Ex.nodes).sum+(l.map Tm.nodes).sum:=by rw[Tm.dQ,nd,qM]
def GF (f:Nat→Nat→Rs Tm):Prop:=∀p d x q,f p d= .ok x q→x.nodes+p≤q
def Part.nodes:Part→Nat
 | .inl e=>e.nodes
 | .inr t=>t.nodes
theorem oa:∀xs:List Part,(xs.map Part.nodes).sum=((cU xs).map Ex.nodes).sum+((bY xs).map Tm.nodes).sum
 | []=>rfl
 | .inl e::xs=>by
  have:=oa xs;show e.nodes+(xs.map Part.nodes).sum=(e.nodes+((cU xs).map Ex.nodes).sum)+((bY xs).map Tm.nodes).sum;omega
 | .inr t::xs=>by
  have:=oa xs;show t.nodes+(xs.map Part.nodes).sum=((cU xs).map Ex.nodes).sum+(t.nodes+((bY xs).map Tm.nodes).sum);omega
theorem Eg {ws:List Wd}{E0:Nat→Nat→Rs Ex}{T:Nat→Nat→Rs Tm}(hE:zy E0)(hT:GF T):GF (ee ws E0 T):=by
 intro p d x q h;unfold ee at h;split at h
 ·cases h
 split at h
 ·injection h with h h2
  subst h;rw[lN];simp;omega
 split at h
 ·obtain⟨xs,p1,h1,h⟩:=Rs.ax h
  injection h with h h2
  subst h;have:=lZ (m:=fun _=>0) (fun f hf=>(List.mem_singleton.1 hf)▸fun p d x q hx=>by have:=(jb hx).1;omega) h1;rw[lN];simp;omega
 split at h
 ·cases h
 ·obtain⟨xs,p1,h1,h⟩:=Rs.ax h
  injection h with h h2
  subst h
  have hq:=lZ (m:=Part.nodes) (fun f hf p d x q hx=>by
   rcases ml hf with rfl|rfl
   ·obtain⟨a,h2,rfl⟩:=Rs.lj hx
    exact hE _ _ _ _ h2
   ·obtain⟨a,h2,rfl⟩:=Rs.lj hx
    exact hT _ _ _ _ h2) h1
  rw[oa] at hq;rw[lN];omega
theorem wg (ws:List Wd):∀n,GF (ja ws n)
 |0=>fun _ _ _ _ h=>by(cases h)
 |n+1=>fun p d x q h=>Eg ((yQ ws (n+1)).E 0) (wg ws n) p d x q h
theorem Cb (K:Ctx)(hK:K.Ok)(p:Nat)(o:Int)(dp bd:Bool)(w:World)(h:SW K w p o dp bd):Calls Tryz.prog 124 #[.pointer (some ⟨K.g,0,none⟩), .int .i64 (K.en:Int)] w fun e w'=>e= .returned (.int .i64 (if dp=true then -2 else if p<K.ws.length then((K.at_ p).pos:Int) else if bd=true then(K.en:Int) else -1))∧Grow w w':=by
 have ab:=Below.refl w.heap.size w;have k99:=h.an;have hrd:=h.rd;have hlt:=h.an.lt;have hBg:=hK.le;have hpl:=h.bJ;refine Zs 35 Tryz.func124 ?_;refine aj ?_;refine Za ?_;refine bn 0 1 4 (aI (aj ?_));refine Zm ?_;refine Zv (aa.nilCheck rfl rfl) ?_;refine Zf 3 Tryz.underlying183 ?_;refine ZL Tryz.underlying4 k99 ?_;refine aQ 0 1 4 8 (Zt ?_);refine Cd.cond rfl (fun hc=> ?_) (fun hc=> ?_)
 ·rw[if_pos hc]
  refine aj ?_;refine Za ?_;refine aQ 0 1 4 8 (Zt (Cd.ret (ae.af ?_)));refine aZ ?_;exact⟨rfl,ab⟩
 rw[if_neg (by rw[hc];simp)];refine Cd.skip (aI (Cd.seq ?_));refine ff 10 ?_;intro w1 hw1 zw1;replace ab:=ab.step hw1;replace k99:=k99.step hw1;have zbel:=ab.size;have zlt:=k99.lt;refine cf ?_;refine Zd (fun w hG=>aa.nilCheck rfl rfl) ?_;refine eV 1 Tryz.underlying183 ?_;refine dZ Tryz.underlying3 k99 ?_;refine cf ?_;refine Zd (fun w hG=>aa.nilCheck rfl rfl) ?_;refine eV 0 Tryz.underlying183 ?_;refine dZ Tryz.underlying178 k99 ?_;refine Zd (fun w hG=>aa.len rfl rfl Tryz.underlying178) ?_;refine Zd (fun w hG=>aa.lss rfl rfl rfl) ?_;refine Dr.nil ?_;refine bb.done (F':=[(0,_),(1,_),(4,_),(8,_),(18,_)]) rfl ⟨rfl,rfl,rfl,rfl,rfl,trivial⟩ ?_;intro w2 hw2 fw2;replace ab:=ab.step hw2;replace k99:=k99.step hw2;refine aO 0 1 4 8 18 (Zt ?_);refine Cd.ak rfl (fun hc=> ?_) (fun hc=> ?_)
 ·have hp:p<K.ws.length:=by omega
  obtain⟨ad,hA,hadb,hcell⟩:=hrd.2 (by omega);obtain⟨x,hx⟩:∃x,K.ws[p]? =some x:=⟨_,List.getElem?_eq_getElem (by omega)⟩;have hat:K.at_ p=x:=by unfold Ctx.at_;rw[List.getD_eq_getElem?_getD,hx];rfl
  have hce:∀W,Below w.heap.size w W→∀(q:Nat) (u:Value),([.int .i64 x.kind, .string (strOf x.text), .int .i64 x.n, .int .i64 (x.pos:Int)]:List Value)[q]? =some u→W.cell? ((ad.add (p*4)).add q)=some u:=fun W hb q u hu=>by
   rw[(hb.mono (show K.B≤w.heap.size by omega)).cell (by rw[av,av];exact hadb),gd];exact hcell _ _ (ia K.ws p x hx q u hu)
  rw[hA] at k99;rw[if_pos hp,hat];refine Cd.seq ?_;refine Cd.eB (F':=[(0,_),(1,_),(8,_),(18,_)]) ⟨rfl,rfl,rfl,rfl,trivial⟩ ?_;refine ff 12 ?_;intro w3 hw3 zw3;replace ab:=ab.step hw3;replace k99:=k99.step hw3;have zbel:=ab.size;have zlt:=k99.lt;refine cf ?_;refine Zd (fun w hG=>aa.nilCheck rfl rfl) ?_;refine eV 0 Tryz.underlying183 ?_;refine dZ Tryz.underlying178 k99 ?_;refine cf ?_;refine Zd (fun w hG=>aa.nilCheck rfl rfl) ?_;refine eV 1 Tryz.underlying183 ?_;refine dZ Tryz.underlying3 k99 ?_;refine Zd (fun w hG=>aa.bI rfl rfl rfl Tryz.underlying178 (s:=4) (by kernel_rfl) (j:=p) rfl (by omega)) ?_;refine Zd (fun w hG=>aa.gx 3 rfl rfl Tryz.underlying211 rfl (by kernel_rfl)) ?_;refine Zd (fun w hG=>aa.jh rfl rfl Tryz.underlying3 rfl (hce _ (ab.step hG) 3 _ rfl)) ?_;refine Zd (fun w hG=>aa.assign rfl rfl) ?_;refine Dr.nil ?_;refine bb.done (F':=[(0,_),(1,_),(4,_),(8,_),(18,_)]) rfl ⟨rfl,rfl,rfl,rfl,rfl,trivial⟩ ?_;intro w4 hw4 fw4;replace ab:=ab.step hw4;replace k99:=k99.step hw4;refine aO 0 1 4 8 18 (Zt (Cd.ret (ae.af ?_)));refine aZ ?_;exact⟨rfl,ab⟩
 rw[if_neg (by omega)];refine Cd.skip (aI (aj ?_));refine Zm ?_;refine Zv (aa.nilCheck rfl rfl) ?_;refine Zf 4 Tryz.underlying183 ?_;refine ZL Tryz.underlying4 k99 ?_;refine aY 0 1 4 8 18 33 (Zt ?_);refine Cd.cond rfl (fun hb=> ?_) (fun hb=> ?_)
 ·rw[if_pos hb]
  refine aj ?_;refine Zm ?_;refine Za ?_;refine aY 0 1 4 8 18 33 (Zt (Cd.ret (ae.af ?_)));refine aZ ?_;exact⟨rfl,ab⟩
 ·rw[if_neg (by rw[hb];simp)]
  refine Cd.skip (aB ?_);refine Za ?_;refine aY 0 1 4 8 18 33 (Zt (Cd.ret ?_));refine aZ ?_;exact⟨rfl,ab⟩
theorem jw:∀(l r:List Ex),aW (l++r)=max (aW l) (aW r)
 | [],r=>by rw[List.nil_append,aW];omega
 |x::l,r=>by rw[List.cons_append,aW,aW,jw l r];omega
theorem jz:∀(l r:List Tm),cu (l++r)=cu l+cu r
 | [],r=>by rw[List.nil_append,cu];omega
 |x::l,r=>by rw[List.cons_append,cu,cu,jz l r];omega
theorem mL:∀(l r:List Tm),cD (l++r)=max (cD l) (cD r)
 | [],r=>by rw[List.nil_append,cD];omega
 |x::l,r=>by rw[List.cons_append,cD,cD,mL l r];omega
theorem AJ (n:Nat)(e:Ex)(B:Nat)(v:Value)(w:World)(hn:e.nodes≤n)(h9:e.nodes≤100000)(hrep:rE w B e v)(hB:B≤w.heap.size):Calls Tryz.prog 135 #[v] w fun en w'=>en= .returned (.tuple #[.int .i64 (e.nodes:Int), .int .i64 (e.depth:Int)])∧Grow w w':=by
 induction n generalizing e B v w with
 |zero=>exact absurd e.cR (by omega)
 |succ n ih=>
  obtain⟨A,c,rfl,hv⟩:=hrep.open;have ab:=Below.refl w.heap.size w;have hne:e.nodes=1+aK e.args:=by rw[e.eta,Ex.dQ];rfl
  have hde:e.depth=1+aW e.args:=by rw[e.eta,Ex.fI];rfl
  refine Zs 34 Tryz.func135 ?_;refine aj ?_;refine Seq.box rfl rfl rfl rfl rfl ?_;intro g1 w1 n1;have e1:=Nat.le_trans ab.size n1.ge;replace ab:=ab.step n1.below;have k1:=n1.an;refine Za ?_;refine Za ?_;refine aQ 0 1 2 3 (aB ?_);refine Za ?_;refine Za ?_;refine aY 0 1 2 3 4 5 (aI (aj ?_));refine Za ?_;refine ba 0 1 2 3 4 5 6 (Zt (Cd.block ?_))
  refine Cd.loop (σ:=Nat) (fun i=>[(1, .pointer (some ⟨g1,0,none⟩)),(4, .int .i64 ((1+aK (e.args.take i):Nat):Int)),(5, .int .i64 ((1+aW (e.args.take i):Nat):Int)),(6, .int .i64 (i:Int))])
   (fun i wr=>i≤e.args.length∧Below w.heap.size w wr∧aH wr g1 105 #[.int .i64 e.op, .int .i64 e.n, .string (strOf e.name), .slice A e.args.length c]) (fun i=>e.args.length-i) 0 ⟨Nat.zero_le _,ab,k1⟩ ⟨rfl,rfl,rfl,rfl,trivial⟩ ?_
  clear ab k1;rintro i wr ⟨hi,ab,k1⟩;have kO:=hv.kO;refine Cd.seq (aj ?_);refine Zm ?_;refine Zf 3 Tryz.underlying105 ?_;refine ZL Tryz.underlying68 k1 ?_;refine Zv (aa.len rfl rfl Tryz.underlying68) ?_;refine eI ?_;refine aO 1 4 5 6 13 (Zt ?_);refine Cd.ak rfl (fun hc=> ?_) (fun hc=> ?_)
  ·obtain⟨x,hx⟩:∃x,e.args[i]? =some x:=⟨_,List.getElem?_eq_getElem (show i<e.args.length by omega)⟩
   obtain⟨ad,Ax,cx,rfl,hbl,hrx,hc⟩:=hv.arg i x hx;have hxm:=List.mem_of_getElem? hx;have hxn:=Ex.gL hxm;have hc:=fun W (hb:Below w.heap.size w W) j u hj=>((hb.mono hB).cell (p:=(ad.add (i*4)).add j) (by rw[av,av];exact hbl)).trans (hc j u hj);have hrec:=fun W (hb:Below w.heap.size w W)=>ih x B _ W (by omega) (by omega) (hrx.below (hb.mono hB)) (Nat.le_trans hB hb.size);have htk:e.args.take (i+1)=e.args.take i++[x]:=by rw[List.take_add_one,hx];rfl
   have hnt:aK (e.args.take (i+1))=aK (e.args.take i)+x.nodes:=by rw[htk,fH];show _+(x.nodes+aK [])=_;rw[aK];omega
   have hdt:aW (e.args.take (i+1))=max (aW (e.args.take i)) x.depth:=by rw[htk,jw];show max _ (max x.depth (aW []))=_;rw[aW];omega
   have hle:aK (e.args.take (i+1))≤aK e.args:=by
    have:=fH (e.args.take (i+1)) (e.args.drop (i+1));rw[List.take_append_drop] at this;omega
   have hdn:=dV (e.args.take i);have hdx:=x.bR
   generalize aK (e.args.take i)=N0 at *
   generalize aW (e.args.take i)=D0 at *
   refine Cd.skip (aI (Cd.block (aj ?_)));refine Zf 3 Tryz.underlying105 ?_;refine ZL Tryz.underlying68 k1 ?_;refine Zm ?_;refine Zv (aa.bI rfl rfl rfl Tryz.underlying68 (s:=4) (by kernel_rfl) (j:=i) rfl (by omega)) ?_;refine Zv (aa.ep (ps:=[.int .i64 x.op, .int .i64 x.n, .string (strOf x.name), .slice Ax x.args.length cx]) rfl rfl Tryz.underlying105 rfl (m:=4) (by kernel_rfl) rfl (hc _ ab)) ?_;refine Zc (Ze Tryz.func135) (hrec _ ab) ?_;rintro en w6 ⟨rfl,hb6⟩;refine⟨_,rfl,?_⟩;replace ab:=ab.step hb6;replace k1:=k1.step hb6;refine Zm ?_;refine Zx ?_;refine Zx ?_;refine Za ?_;refine Za ?_;refine ba 1 4 5 6 7 8 13 (aB ?_);refine Zm ?_;refine Zm ?_;refine cG ?_;refine Za ?_;refine ba 1 4 5 6 7 8 13 (eh ?_);refine Zm ?_;refine Zm ?_;refine cG ?_;refine Zv (aa.max2 rfl rfl rfl) ?_;refine Za ?_;refine ba 1 4 5 6 7 8 13 (ae.ah (eh ?_));refine Zm ?_;refine cG ?_;refine Za ?_;refine ba 1 4 5 6 7 8 13 ?_;refine ae.round (i+1) ⟨rfl,?_,?_,rfl,trivial⟩ ⟨by omega,ab,k1⟩ (by omega)
   ·exact congrArg (fun x:Int=>some (Value.int .i64 x)) (by rw[hnt];omega)
   ·exact congrArg (fun x:Int=>some (Value.int .i64 x)) (by rw[hdt];omega)
  ·obtain rfl:i=e.args.length:=by omega
   refine Cd.exit (ae.aC (ae.aA (ae.ay (aB ?_))));refine Zm ?_;refine Zm ?_;refine Za ?_;refine Za ?_;refine ba 1 2 3 4 5 6 13 (Zt (Cd.ret ?_));refine dH ?_;rw[List.take_length,hne,hde];exact⟨rfl,ab⟩
theorem y6 (n:Nat)(t:Tm)(B:Nat)(v:Value)(w:World)(hn:t.nodes≤n)(h9:t.nodes≤100000)(hrep:gJ w B t v)(hB:B≤w.heap.size):Calls Tryz.prog 94 #[v] w fun en w'=>en= .returned (.tuple #[.int .i64 (t.nodes:Int), .int .i64 (t.depth:Int)])∧Grow w w':=by
 induction n generalizing t B v w with
 |zero=>exact absurd t.cR (by omega)
 |succ n ih=>
  obtain⟨A,c,D,d,rfl,hv⟩:=hrep.open;have ab:=Below.refl w.heap.size w;have hne:=t.lJ;have hde:=t.lx;refine Zs 60 Tryz.func94 ?_;refine aj ?_;refine Seq.box rfl rfl rfl rfl rfl ?_;intro g1 w1 n1;have e1:=Nat.le_trans ab.size n1.ge;replace ab:=ab.step n1.below;have k1:=n1.an;refine Za ?_;refine Za ?_;refine aQ 0 1 2 3 (aB ?_);refine Za ?_;refine Za ?_;refine aY 0 1 2 3 4 5 (aI (aj ?_));refine Za ?_;refine ba 0 1 2 3 4 5 6 (Zt (Cd.block ?_))
  refine Cd.loop (σ:=Nat) (fun i=>[(1, .pointer (some ⟨g1,0,none⟩)),(4, .int .i64 ((1+aK (t.exprs.take i):Nat):Int)),(5, .int .i64 ((1+aW (t.exprs.take i):Nat):Int)),(6, .int .i64 (i:Int))])
   (fun i wr=>i≤t.exprs.length∧Below w.heap.size w wr∧aH wr g1 71 #[.int .i64 t.op, .string (strOf t.name), .slice A t.exprs.length c, .slice D t.aF.length d]) (fun i=>t.exprs.length-i) 0 ⟨Nat.zero_le _,ab,k1⟩ ⟨rfl,rfl,rfl,rfl,trivial⟩ ?_
  clear ab k1;rintro i wr ⟨hi,ab,k1⟩;have kO:=hv.kO;have h61:=hv.nq;refine Cd.seq (aj ?_);refine Zm ?_;refine Zf 2 Tryz.underlying71 ?_;refine ZL Tryz.underlying68 k1 ?_;refine Zv (aa.len rfl rfl Tryz.underlying68) ?_;refine eI ?_;refine aO 1 4 5 6 16 (Zt ?_);refine Cd.ak rfl (fun hc=> ?_) (fun hc=> ?_)
  ·obtain⟨x,hx⟩:∃x,t.exprs[i]? =some x:=⟨_,List.getElem?_eq_getElem (show i<t.exprs.length by omega)⟩
   obtain⟨ad,Ax,cx,rfl,hbl,hrx,hc⟩:=hv.expr i x hx;have hxm:=List.mem_of_getElem? hx;have hxn:=mW hxm;have hc:=fun W (hb:Below w.heap.size w W) j u hj=>((hb.mono hB).cell (p:=(ad.add (i*4)).add j) (by rw[av,av];exact hbl)).trans (hc j u hj);have hrec:=fun W (hb:Below w.heap.size w W)=>AJ x.nodes x B _ W (Nat.le_refl _) (by omega) (hrx.below (hb.mono hB)) (Nat.le_trans hB hb.size);have htk:t.exprs.take (i+1)=t.exprs.take i++[x]:=by rw[List.take_add_one,hx];rfl
   have hnt:aK (t.exprs.take (i+1))=aK (t.exprs.take i)+x.nodes:=by rw[htk,fH];show _+(x.nodes+aK [])=_;rw[aK];omega
   have hdt:aW (t.exprs.take (i+1))=max (aW (t.exprs.take i)) x.depth:=by rw[htk,jw];show max _ (max x.depth (aW []))=_;rw[aW];omega
   have hle:aK (t.exprs.take (i+1))≤aK t.exprs:=by
    have:=fH (t.exprs.take (i+1)) (t.exprs.drop (i+1));rw[List.take_append_drop] at this;omega
   have hdn:=dV (t.exprs.take i);have hdx:=x.bR
   generalize aK (t.exprs.take i)=N0 at *
   generalize aW (t.exprs.take i)=D0 at *
   refine Cd.skip (aI (Cd.block (aj ?_)));refine Zf 2 Tryz.underlying71 ?_;refine ZL Tryz.underlying68 k1 ?_;refine Zm ?_;refine Zv (aa.bI rfl rfl rfl Tryz.underlying68 (s:=4) (by kernel_rfl) (j:=i) rfl (by omega)) ?_;refine Zv (aa.ep (ps:=[.int .i64 x.op, .int .i64 x.n, .string (strOf x.name), .slice Ax x.args.length cx]) rfl rfl Tryz.underlying105 rfl (m:=4) (by kernel_rfl) rfl (hc _ ab)) ?_;refine Zc (Ze Tryz.func135) (hrec _ ab) ?_;rintro en w6 ⟨rfl,hb6⟩;refine⟨_,rfl,?_⟩;replace ab:=ab.step hb6;replace k1:=k1.step hb6;refine Zm ?_;refine Zx ?_;refine Zx ?_;refine Za ?_;refine Za ?_;refine ba 1 4 5 6 7 8 16 (aB ?_);refine Zm ?_;refine Zm ?_;refine cG ?_;refine Za ?_;refine ba 1 4 5 6 7 8 16 (eh ?_);refine Zm ?_;refine Zm ?_;refine cG ?_;refine Zv (aa.max2 rfl rfl rfl) ?_;refine Za ?_;refine ba 1 4 5 6 7 8 16 (ae.ah (eh ?_));refine Zm ?_;refine cG ?_;refine Za ?_;refine ba 1 4 5 6 7 8 16 ?_;refine ae.round (i+1) ⟨rfl,?_,?_,rfl,trivial⟩ ⟨by omega,ab,k1⟩ (by omega)
   ·exact congrArg (fun x:Int=>some (Value.int .i64 x)) (by rw[hnt];omega)
   ·exact congrArg (fun x:Int=>some (Value.int .i64 x)) (by rw[hdt];omega)
  obtain rfl:i=t.exprs.length:=by omega
  rw[List.take_length];have hdn0:=dV t.exprs;refine Cd.exit (ae.aC (ae.aA (ae.ay (aI (aj ?_)))));refine Za ?_;refine aY 1 4 5 6 9 16 (Zt (Cd.block ?_))
  refine Cd.loop (σ:=Nat) (fun i=>[(1, .pointer (some ⟨g1,0,none⟩)),(4, .int .i64 ((1+aK t.exprs+cu (t.aF.take i):Nat):Int)),(5, .int .i64 ((1+max (aW t.exprs) (cD (t.aF.take i)):Nat):Int)),(9, .int .i64 (i:Int))])
   (fun i wr=>i≤t.aF.length∧Below w.heap.size w wr∧aH wr g1 71 #[.int .i64 t.op, .string (strOf t.name), .slice A t.exprs.length c, .slice D t.aF.length d]) (fun i=>t.aF.length-i) 0 ⟨Nat.zero_le _,ab,k1⟩ ⟨rfl,rfl,?_,rfl,trivial⟩ ?_
  ·exact congrArg (fun x:Int=>some (Value.int .i64 x)) (by rw[List.take_zero,cD];omega)
  clear ab k1;rintro i wr ⟨hi,ab,k1⟩;refine Cd.seq (aj ?_);refine Zm ?_;refine Zf 3 Tryz.underlying71 ?_;refine ZL Tryz.underlying69 k1 ?_;refine Zv (aa.len rfl rfl Tryz.underlying69) ?_;refine eI ?_;refine aO 1 4 5 9 39 (Zt ?_);refine Cd.ak rfl (fun hc=> ?_) (fun hc=> ?_)
  ·obtain⟨x,hx⟩:∃x,t.aF[i]? =some x:=⟨_,List.getElem?_eq_getElem (show i<t.aF.length by omega)⟩
   obtain⟨ad,A1,A2,c1,c2,rfl,hbl,hrx,hc⟩:=hv.term i x hx;have hxm:=List.mem_of_getElem? hx;have hxn:=Tm.fU hxm;have hc:=fun W (hb:Below w.heap.size w W) j u hj=>((hb.mono hB).cell (p:=(ad.add (i*4)).add j) (by rw[av,av];exact hbl)).trans (hc j u hj);have hrec:=fun W (hb:Below w.heap.size w W)=>ih x B _ W (by omega) (by omega) (hrx.below (hb.mono hB)) (Nat.le_trans hB hb.size);have htk:t.aF.take (i+1)=t.aF.take i++[x]:=by rw[List.take_add_one,hx];rfl
   have hnt:cu (t.aF.take (i+1))=cu (t.aF.take i)+x.nodes:=by rw[htk,jz];show _+(x.nodes+cu [])=_;rw[cu];omega
   have hdt:cD (t.aF.take (i+1))=max (cD (t.aF.take i)) x.depth:=by rw[htk,mL];show max _ (max x.depth (cD []))=_;rw[cD];omega
   have hle:cu (t.aF.take (i+1))≤cu t.aF:=by
    have:=jz (t.aF.take (i+1)) (t.aF.drop (i+1));rw[List.take_append_drop] at this;omega
   have hdn:=jx (t.aF.take i);have hdx:=x.bR
   generalize cu (t.aF.take i)=N0 at *
   generalize cD (t.aF.take i)=D0 at *
   refine Cd.skip (aI (Cd.block (aj ?_)));refine Zf 3 Tryz.underlying71 ?_;refine ZL Tryz.underlying69 k1 ?_;refine Zm ?_;refine Zv (aa.bI rfl rfl rfl Tryz.underlying69 (s:=4) (by kernel_rfl) (j:=i) rfl (by omega)) ?_;refine Zv (aa.ep (ps:=[.int .i64 x.op, .string (strOf x.name), .slice A1 x.exprs.length c1, .slice A2 x.aF.length c2]) rfl rfl Tryz.underlying71 rfl (m:=4) (by kernel_rfl) rfl (hc _ ab)) ?_;refine Zc (Ze Tryz.func94) (hrec _ ab) ?_;rintro en w6 ⟨rfl,hb6⟩;refine⟨_,rfl,?_⟩;replace ab:=ab.step hb6;replace k1:=k1.step hb6;refine Zm ?_;refine Zx ?_;refine Zx ?_;refine Za ?_;refine Za ?_;refine ba 1 4 5 9 10 11 39 (aB ?_);refine Zm ?_;refine Zm ?_;refine cG ?_;refine Za ?_;refine ba 1 4 5 9 10 11 39 (eh ?_);refine Zm ?_;refine Zm ?_;refine cG ?_;refine Zv (aa.max2 rfl rfl rfl) ?_;refine Za ?_;refine ba 1 4 5 9 10 11 39 (ae.ah (eh ?_));refine Zm ?_;refine cG ?_;refine Za ?_;refine ba 1 4 5 9 10 11 39 ?_;refine ae.round (i+1) ⟨rfl,?_,?_,rfl,trivial⟩ ⟨by omega,ab,k1⟩ (by omega)
   ·exact congrArg (fun x:Int=>some (Value.int .i64 x)) (by rw[hnt];omega)
   ·exact congrArg (fun x:Int=>some (Value.int .i64 x)) (by rw[hdt];omega)
  ·obtain rfl:i=t.aF.length:=by omega
   refine Cd.exit (ae.aC (ae.aA (ae.ay (aB ?_))));refine Zm ?_;refine Zm ?_;refine Za ?_;refine Za ?_;refine ba 1 2 3 4 5 9 39 (Zt (Cd.ret ?_));refine dH ?_;rw[List.take_length,hne,hde];exact⟨rfl,ab⟩
theorem pH (A:Option Addr)(n c:Nat)(w:World):(Instr.build 183 #[(0, .slice A n c)]).run Tryz.prog w= .ok (.agg #[.slice A n c, .int .i64 0, .int .i64 0, .bool false, .bool false]) w:=by
 have hu:=Tryz.underlying183
 go_simp
structure Dx (lo hi:Nat)(S:Nat→Prop)(x:Tm)(v:Value)(W:World):Prop where
 rep:dr W S x v
 bd:∀b,S b→lo≤b∧b<hi
 eX:hi≤W.heap.size
theorem Dx.step {lo hi:Nat}{S:Nat→Prop}{x:Tm}{v:Value}{W W':World}(r:Dx lo hi S x v W)(h:Below W.heap.size W W'):Dx lo hi S x v W':=
 ⟨r.rep.mono (fun _ h=>h) (fun a ha=>h.cell (Nat.lt_of_lt_of_le (r.bd _ ha).2 r.eX)),r.bd,Nat.le_trans r.eX h.size⟩
theorem Dx.put {lo hi g:Nat}{T:TypeId}{cur cs:Array Value}{S:Nat→Prop}{x:Tm}{v:Value}{W W':World}(r:Dx lo hi S x v W)(_k:aH W g T cur)(p:lu W W' g T cs){E:Prop}(_e:E)(hne:g<lo∨hi≤g:=by omega):Dx lo hi S x v W':=
 ⟨r.rep.mono (fun _ h=>h) (fun a ha=>World.cell?_of_block (p.grown.block _ (Nat.lt_of_lt_of_le (r.bd _ ha).2 r.eX) (fun e=>by injection e with e;have:=r.bd _ ha;omega))),r.bd,Nat.le_trans r.eX (Nat.le_of_eq p.size.symm)⟩
theorem endPos_le (l:List Nat)(hl:∀x∈l,x<256)(p:Nat):endPos l p≤l.length:=by
 unfold endPos;rw[List.getD_eq_getElem?_getD]
 cases hp:(aP l).1[p]? with
 |none=>exact Nat.le_refl _
 |some x=>exact Nat.le_of_lt (pU l hl _ _ x (List.mem_of_getElem? hp)).2.2.2
theorem ua (l:List Nat)(w:World)(hl:∀x∈l,x<256)(h4:l.length≤4000):
  Calls Tryz.prog 78 #[.string (strOf l)] w fun e w'=>Below w.heap.size w w'∧∃(v:Value) (S:Nat→Prop),e= .returned (.tuple #[v, .int .i64 ((cq l).2.1:Int), .int .i64 (cq l).2.2])∧dr w' S (cq l).1 v∧∀b,S b→w.heap.size≤b∧b<w'.heap.size:=by
 have ab:=Below.refl w.heap.size w
 have hpn:∀(q:Nat) (n:Int),cv l (gF (aP l).1)=(q,n)→n≠0→cq l=(ft,q,n):=fun q n h hn=>by
  unfold cq;rw[h,if_pos hn]
 have hpo:∀x q,cv l (gF (aP l).1)=(0,0)→gF (aP l).1= .ok x q→cq l=if dK x=true then(x,0,0) else(ft,0,13):=fun x q h hx=>by
  unfold cq;rw[h,if_neg (fun h=>h rfl),hx]
 have hrw:=fun W=>tK l W hl h4;refine Zs 50 Tryz.func78 ?_;refine aj ?_;refine Zl aG ?_;intro g2 w1 n2;have e2:=Nat.le_trans ab.size n2.ge;replace ab:=ab.step n2.below;have k2:=n2.an;refine Za ?_;refine Za ?_;refine aQ 0 2 3 4 (aB ?_);refine Zm ?_;refine Zc (Ze Tryz.func122) (hrw _) ?_;rintro e w5 ⟨hb5,⟨p,h2,rfl⟩|⟨h2,v,rfl,own⟩⟩
 ·have hpa:cv l (gF (aP l).1)=(p,11):=by unfold cv;rw[if_neg (by omega),h2]
  have hps:=hpn _ _ hpa (by omega);refine⟨_,rfl,?_⟩;replace ab:=ab.step hb5;replace k2:=k2.step hb5;refine Zm ?_;refine Zx ?_;refine Zx ?_;refine Za ?_;refine Za ?_;refine aY 0 2 3 4 5 6 (aI (aj ?_));refine Zm ?_;refine kZ ?_;refine ba 0 2 3 4 5 6 18 (Zt ?_);refine Cd.aU rfl (by simp) ?_;refine aj ?_;refine Zv (aa.build rfl rfl (dP _)) ?_;refine Zm ?_;refine Zo 4 k2 ?_;intro w2 pw2;replace ab:=ab.put k2 pw2 e2;replace k2:=pw2.an;refine Za ?_;refine Za ?_;refine ba 0 2 3 4 5 6 18 (Zt (Cd.ret (ae.af ?_)));refine ae.nB rfl rfl rfl rfl k2 Tryz.underlying71 rfl (m:=4) (by kernel_rfl) rfl (.inl rfl) ?_;rw[hps];exact⟨ab,_,fun _=>False,rfl,dr.zero _ _,fun b hb=>hb.elim⟩
 obtain⟨A,cap,rfl,hrd⟩:=own.reads;refine⟨_,rfl,?_⟩;replace ab:=ab.step hb5;replace k2:=k2.step hb5;refine Zm ?_;refine Zx ?_;refine Zx ?_;refine Za ?_;refine Za ?_;refine aY 0 2 3 4 5 6 (aI (aj ?_));refine Zm ?_;refine kZ ?_;refine ba 0 2 3 4 5 6 18 (Zt ?_);refine Cd.aM rfl (by simp) ?_;refine Cd.skip (aB ?_);refine Zm ?_;refine Zv (aa.build rfl rfl (pH A (aP l).1.length cap _)) ?_;refine Seq.box rfl rfl rfl rfl rfl ?_;intro g23 w2 n23;have e23:=Nat.le_trans ab.size n23.ge;have l23:=Nat.lt_of_lt_of_le k2.lt n23.ge;replace ab:=ab.step n23.below;replace k2:=k2.step n23.below;have k23:=n23.an;refine Za ?_;refine cB 0 2 3 4 5 6 7 18 (aB ?_);refine Zm ?_;have hKok:=wO l hl h4 (B:=w5.heap.size) (g:=g23) (c:=cap) (A:=A) n23.ge;have hWs:=qV l hl;have hg23:=k23.lt;have hrd23:=hrd.below n23.below
 generalize hK:(Ctx.mk w5.heap.size g23 cap l.length A (aP l).1)=K at hKok
 have hKg:K.g=g23:=by rw[←hK]
 have hKw:K.ws=(aP l).1:=by rw[←hK]
 have hKe:K.en=l.length:=by rw[←hK]
 have sw:SW K w2 0 (0:Nat) false false:=by rw[←hK];exact⟨k23,hrd23,Nat.zero_le _,by omega,n23.ge⟩
 rw[←hKw] at hWs;have hpos:∀q,(K.at_ q).pos=endPos l q:=fun q=>by unfold Ctx.at_ endPos;rw[hKw,hKe]
 have hposl:=endPos_le l hl;subst hKg;have htm:=um K hKok hWs (K.ws.length-0+1) 0 0 _ (by omega) (by omega) sw;have hk2:=k2.lt;have hg2:g2<K.g:=by omega
 have hsz0:=ab.size;clear k23;refine Zc (Ze Tryz.func123) htm ?_;rintro e w6 ⟨hf6,v6,x,p6,o6,dp6,bd6,rfl,⟨S6,hr6,hb6⟩,sw6,hres,-⟩;refine⟨_,rfl,?_⟩;have hres:=hres rfl;have bel6:Below w.heap.size w w6:=ab.trans (hf6.below (by omega) (by omega));have k26:=k2.fz hf6 (by omega);clear ab k2 sw htm;have ab:=bel6;have k2:=k26;have hs6:=hf6.size;obtain⟨A1,c1,A2,c2,hvX⟩:=hr6.form;subst hvX;have hfull:nF K.ws 0 0=gF (aP l).1:=by rw[hKw];rfl
 rw[hfull] at hres;have hq6:=sw6.bJ;have sw:=sw6;have rs:Dx _ w6.heap.size S6 x (.agg #[.int .i64 x.op, .string (strOf x.name), .slice A1 x.exprs.length c1, .slice A2 x.aF.length c2]) w6:=⟨hr6,hb6,Nat.le_refl _⟩;refine Zl aG ?_;intro g8 w3 n8;have q8:=n8.ge;have e8:=Nat.le_trans ab.size n8.ge;have l8:=Nat.lt_of_lt_of_le k2.lt n8.ge;replace ab:=ab.step n8.below;replace k2:=k2.step n8.below;replace sw:=sw.step n8.below;replace rs:=rs.step n8.below;have k8:=n8.an;refine Zo 4 k8 ?_;intro w4 pw4;replace ab:=ab.put k8 pw4 e8;replace k2:=k2.put pw4 (by omega);replace sw:=sw.put k8 pw4 e8;replace rs:=rs.put k8 pw4 e8;replace k8:=pw4.an;refine dY 0 2 3 4 5 6 7 8 18 (aB ?_);refine Zm ?_;refine Zm ?_;refine Zv (aa.dh rfl rfl Tryz.underlying9) ?_;have hen:=fun W h=>Cb K hKok p6 o6 dp6 bd6 W h;simp only[hpos,hKe,hKw] at hen;refine Zc (Ze Tryz.func124) (hen _ sw) ?_;rintro e w7 ⟨rfl,hb7⟩;refine⟨_,rfl,?_⟩;replace ab:=ab.step hb7;replace k2:=k2.step hb7;replace sw:=sw.step hb7;replace rs:=rs.step hb7;replace k8:=k8.step hb7;obtain⟨R,hR⟩:∃R,R=gF (aP l).1:=⟨_,rfl⟩;rw[←hR] at hres hpn hpo;rw[hKw] at hq6
 have hlen:p6<(aP l).1.length→cv l R=(endPos l p6,11)∨(dp6=true):=fun hp=>by
  unfold eC at hres;unfold cv;rw[if_neg (by omega),h2]
  cases R with
  |out=>exact hres.elim
  |bad a ov=>
   obtain⟨rfl,rfl,rfl,-⟩:=hres
   cases dp6 with
   |true=>exact .inr rfl
   |false=>exact .inl rfl
  |ok a b=>
   obtain⟨rfl,rfl,-,rfl,-⟩:=hres;exact .inl (if_neg (by omega))
 cases dp6 with
 |true=>
  have hpa:cv l R=(0,13):=by
   unfold eC at hres;unfold cv;rw[if_neg (by omega),h2]
   cases R with
   |out=>exact hres.elim
   |ok a b=>cases hres.2.2.2.1
   |bad a ov=>
    obtain⟨rfl,rfl,rfl,-⟩:=hres;rfl
  have hps:=hpn _ _ hpa (by omega);refine Za ?_;refine dq 0 2 3 4 5 6 7 8 9 18 (aI (aj ?_));refine Zm ?_;refine bC ?_;refine dv 0 2 3 4 5 6 7 8 9 18 31 (Zt ?_);refine Cd.aU rfl (by rfl) ?_;refine aj ?_;refine Zv (aa.build rfl rfl (dP _)) ?_;refine Zo 4 k2 ?_;intro w5 pw5;replace ab:=ab.put k2 pw5 e2;replace rs:=rs.put k2 pw5 e2;replace k8:=k8.put pw5 (by omega);replace k2:=pw5.an;refine Za ?_;refine Za ?_;refine dv 0 2 3 4 5 6 7 8 9 18 31 (Zt (Cd.ret (ae.af ?_)));refine ae.nB rfl rfl rfl rfl k2 Tryz.underlying71 rfl (m:=4) (by kernel_rfl) rfl (.inl rfl) ?_;rw[hps];exact⟨ab,_,fun _=>False,rfl,dr.zero _ _,fun b hb=>hb.elim⟩
 |false=>
  have hlen:p6<(aP l).1.length→cv l R=(endPos l p6,11):=fun hp=>(hlen hp).elim id (fun h=>by cases h);have hp6:=hposl p6;rw[if_neg (by simp)];rcases Nat.lt_or_ge p6 (aP l).1.length with hp|hp
  ·have hps:=hpn _ _ (hlen hp) (by omega)
   rw[if_pos hp];refine Za ?_;refine dq 0 2 3 4 5 6 7 8 9 18 (aI (aj ?_));refine Zm ?_;refine bC ?_;refine dv 0 2 3 4 5 6 7 8 9 18 31 (Zt ?_);refine Cd.aM rfl (decide_eq_false (by omega)) ?_;refine Cd.skip (aI (aj ?_));refine Zm ?_;refine kZ ?_;refine fY 0 2 3 4 5 6 7 8 9 18 31 34 (Zt ?_);refine Cd.aU rfl (decide_eq_true (by omega)) ?_;refine aj ?_;refine Zv (aa.build rfl rfl (dP _)) ?_;refine Zm ?_;refine Zo 4 k2 ?_;intro w5 pw5;replace ab:=ab.put k2 pw5 e2;replace rs:=rs.put k2 pw5 e2;replace k8:=k8.put pw5 (by omega);replace k2:=pw5.an;refine Za ?_;refine Za ?_;refine fY 0 2 3 4 5 6 7 8 9 18 31 34 (Zt (Cd.ret (ae.af ?_)));refine ae.nB rfl rfl rfl rfl k2 Tryz.underlying71 rfl (m:=4) (by kernel_rfl) rfl (.inl rfl) ?_;rw[hps];exact⟨ab,_,fun _=>False,rfl,dr.zero _ _,fun b hb=>hb.elim⟩
  rw[if_neg (by omega)];have hpe:p6=(aP l).1.length:=by omega
  cases bd6 with
  |true=>
   have hpa:cv l R=(endPos l p6,11):=by
    unfold eC at hres;unfold cv;rw[if_neg (by omega),h2]
    cases R with
    |out=>exact hres.elim
    |ok a b=>cases hres.2.2.2.2
    |bad a ov=>
     obtain⟨rfl,rfl,-⟩:=hres;rfl
   have hel:endPos l p6=l.length:=by
    unfold endPos;rw[List.getD_eq_getElem?_getD,List.getElem?_eq_none hp];rfl
   have hps:=hpn _ _ hpa (by omega);rw[hel] at hps;rw[if_pos rfl];refine Za ?_;refine dq 0 2 3 4 5 6 7 8 9 18 (aI (aj ?_));refine Zm ?_;refine bC ?_;refine dv 0 2 3 4 5 6 7 8 9 18 31 (Zt ?_);refine Cd.aM rfl (decide_eq_false (by omega)) ?_;refine Cd.skip (aI (aj ?_));refine Zm ?_;refine kZ ?_;refine fY 0 2 3 4 5 6 7 8 9 18 31 34 (Zt ?_);refine Cd.aU rfl (decide_eq_true (by omega)) ?_;refine aj ?_;refine Zv (aa.build rfl rfl (dP _)) ?_;refine Zm ?_;refine Zo 4 k2 ?_;intro w5 pw5;replace ab:=ab.put k2 pw5 e2;replace rs:=rs.put k2 pw5 e2;replace k8:=k8.put pw5 (by omega);replace k2:=pw5.an;refine Za ?_;refine Za ?_;refine fY 0 2 3 4 5 6 7 8 9 18 31 34 (Zt (Cd.ret (ae.af ?_)));refine ae.nB rfl rfl rfl rfl k2 Tryz.underlying71 rfl (m:=4) (by kernel_rfl) rfl (.inl rfl) ?_;rw[hps];exact⟨ab,_,fun _=>False,rfl,dr.zero _ _,fun b hb=>hb.elim⟩
  |false=>
   have hok:R= .ok x p6:=by
    unfold eC at hres
    cases R with
    |out=>exact hres.elim
    |bad a ov=>cases hres.2.2.1
    |ok a b=>
     obtain⟨rfl,rfl,-⟩:=hres;rfl
   have hpa:cv l R=(0,0):=by
    unfold cv;rw[if_neg (by omega),h2,hok];exact if_pos hpe
   have hps:=hpo _ _ hpa hok;have hnd:=wg _ _ _ _ _ _ (hR.symm.trans hok);have hbt:=uM hl (hR.symm.trans hok);have hwl:=wO l hl h4 (B:=0) (g:=0) (c:=0) (A:=none) (Nat.le_refl 0);have hwl:(aP l).1.length≤4000:=hwl.len;have hdn:=x.bR;have hri:dK x=(decide (x.nodes≤200)&&decide (x.depth≤16)):=by unfold dK;rw[hbt,Bool.and_true]
   rw[if_neg (by simp)];have k8:aH _ g8 71 #[.int .i64 x.op, .string (strOf x.name), .slice A1 x.exprs.length c1, .slice A2 x.aF.length c2]:=k8;have hrb:gJ _ _ x (.agg #[.int .i64 x.op, .string (strOf x.name), .slice A1 x.exprs.length c1, .slice A2 x.aF.length c2]):=rs.rep.mono (fun b hb=>Nat.lt_of_lt_of_le (rs.bd b hb).2 rs.eX) (fun _ _=>rfl);have hszc:=fun W (hb:Below w7.heap.size w7 W)=>y6 x.nodes x w7.heap.size _ W (Nat.le_refl _) (by omega) (hrb.below hb) hb.size;have hloc:=Below.refl w7.heap.size w7;refine Za ?_;refine dq 0 2 3 4 5 6 7 8 9 18 (aI (aj ?_));refine Zm ?_;refine bC ?_;refine dv 0 2 3 4 5 6 7 8 9 18 31 (Zt ?_);refine Cd.aM rfl (decide_eq_false (by omega)) ?_;refine Cd.skip (aI (aj ?_));refine Zm ?_;refine kZ ?_;refine fY 0 2 3 4 5 6 7 8 9 18 31 34 (Zt ?_);refine Cd.aM rfl (decide_eq_false (by omega)) ?_;refine Cd.skip (aI (aj ?_));refine ZW 4 Tryz.underlying71 k8 ?_;refine Zc (Ze Tryz.func94) (hszc _ hloc) ?_;rintro e w8 ⟨rfl,hb8⟩;refine⟨_,rfl,?_⟩;replace ab:=ab.step hb8;replace k2:=k2.step hb8;replace rs:=rs.step hb8;replace k8:=k8.step hb8;replace hloc:=hloc.step hb8;refine Zm ?_;refine Zx ?_;refine Zx ?_;refine Za ?_;refine Za ?_;refine jO 0 2 3 4 5 6 7 8 9 10 11 18 31 34 (aB ?_);refine Zm ?_;refine uV ?_;refine Zm ?_;refine aw.start ?_;refine bw (fun hcx=>aa.move rfl rfl) ?_;refine Zn (fun hcx=>aa.gtr rfl rfl rfl) ?_;refine fg ?_;refine tS 0 2 3 4 5 6 7 8 9 10 11 18 31 34 47 (Zt ?_);refine Cd.cond rfl (fun hc=> ?_) (fun hc=> ?_)
   ·have hc:¬(x.nodes≤200∧x.depth≤16):=by
     simp at hc;omega
    have hr0:dK x=false:=by
     rw[hri];rcases Nat.lt_or_ge 200 x.nodes with h|h
     ·rw[decide_eq_false (by omega)];rfl
     ·rw[decide_eq_false (show¬x.depth≤16 by omega),Bool.and_false]
    rw[hr0,if_neg (by simp)] at hps;refine aj ?_;refine Zv (aa.build rfl rfl (dP _)) ?_;refine Zo 4 k2 ?_;intro w5 pw5;replace ab:=ab.put k2 pw5 e2;replace rs:=rs.put k2 pw5 e2;replace k8:=k8.put pw5 (by omega);replace k2:=pw5.an;refine Za ?_;refine Za ?_;refine tS 0 2 3 4 5 6 7 8 9 10 11 18 31 34 47 (Zt (Cd.ret (ae.af ?_)));refine ae.nB rfl rfl rfl rfl k2 Tryz.underlying71 rfl (m:=4) (by kernel_rfl) rfl (.inl rfl) ?_;rw[hps];exact⟨ab,_,fun _=>False,rfl,dr.zero _ _,fun b hb=>hb.elim⟩
   ·have hc:x.nodes≤200∧x.depth≤16:=by
     simp at hc;omega
    have hr0:dK x=true:=by
     rw[hri,decide_eq_true hc.1,decide_eq_true hc.2];rfl
    rw[hr0,if_pos rfl] at hps;have hwB:=rs.bd;have hwl2:=rs.eX;have k2l:=k2.lt;refine Cd.skip (aB ?_);refine ZW 4 Tryz.underlying71 k8 ?_;refine Zo 4 k2 ?_;intro w5 pw5;replace ab:=ab.put k2 pw5 e2;replace rs:=rs.put k2 pw5 e2;replace k8:=k8.put pw5 (by omega);replace k2:=pw5.an;refine Za ?_;refine Za ?_;refine tS 0 2 3 4 5 6 7 8 9 10 11 18 31 34 47 (Zt (Cd.ret ?_));refine ae.nB rfl rfl rfl rfl k2 Tryz.underlying71 rfl (m:=4) (by kernel_rfl) rfl (.inl rfl) ?_;rw[hps];exact⟨ab,_,S6,rfl,rs.rep,fun b hb=>by have:=hwB b hb;have:=rs.eX;omega⟩
open Go.ChangeShapes Go.WideShapes Go.Deep Go.RowKit
set_option maxRecDepth 100000 in
theorem Bb {W:World}{base t:Nat}{v:Value}(hu:Tryz.prog.underlying t=some .string)(hv:Value.okWide Tryz.prog W .any base t v):∃l:List Nat,v= .string (strOf l)∧(∀x∈l,x<256)∧l.length≤9223372036854775807:=by
 obtain⟨s,rfl⟩:=okWide_string hu hv;simp only[Value.okWide,hu,Cell.okWide] at hv;have hs:(s.size:Int)≤9223372036854775807:=by simpa[Cell.ok,hu] using hv
 refine⟨bytesOf s,by rw[mJ],xM s,?_⟩;have:(bytesOf s).length=s.size:=by rw[←cd,mJ]
 omega
structure Ev where
 kind:Int
 id:List Nat
 a:List Nat
 b:List Nat
 text:List Nat
 day:Int
 at_:Int
 ec:Int
 n:Int
deriving DecidableEq
def Ev.v (e:Ev):Value:= .agg #[.int .i64 e.kind, .string (strOf e.id), .string (strOf e.a), .string (strOf e.b), .string (strOf e.text), .int .i64 e.day, .int .i64 e.at_, .int .i64 e.ec, .int .i64 e.n]
structure Ev.AS (e:Ev):Prop where
 kind:bm e.kind
 id:∀x∈e.id,x<256
 a:∀x∈e.a,x<256
 b:∀x∈e.b,x<256
 text:∀x∈e.text,x<256
 day:bm e.day
 at_:bm e.at_
 ec:bm e.ec
 n:bm e.n
 Gf:e.id.length≤9223372036854775807
 la:e.a.length≤9223372036854775807
 lb:e.b.length≤9223372036854775807
 yC:e.text.length≤9223372036854775807
theorem fx:bW Tryz.prog 29=some (some (.agg #[.int .i64 0, .string {data:= #[]}, .string {data:= #[]}, .string {data:= #[]}, .string {data:= #[]}, .int .i64 0, .int .i64 0, .int .i64 0, .int .i64 0])):=by kernel_rfl
def Ev.same (a b:Ev):Bool:=a.kind==b.kind&&((strOf a.id).toList==(strOf b.id).toList&&((strOf a.a).toList==(strOf b.a).toList&&((strOf a.b).toList==(strOf b.b).toList&&((strOf a.text).toList==(strOf b.text).toList&&(a.day==b.day&&(a.at_==b.at_&&(a.ec==b.ec&&a.n==b.n)))))))
set_option maxRecDepth 100000 in
theorem wH (a b:Ev)(w:World):(binOp .neq 29 a.v b.v).run Tryz.prog w= .ok (.bool (!(a.same b))) w:=by
 have hu:=Tryz.underlying29;unfold Ev.same Ev.v
 go_simp
 repeat' split
 all_goals simp_all
theorem DB {a b:Ev}(ha:a.AS)(hb:b.AS):a.same b=decide (a=b):=by
 unfold Ev.same;rw[iL ha.id hb.id,iL ha.a hb.a,iL ha.b hb.b,iL ha.text hb.text,Bool.eq_iff_iff]
 cases a
 cases b
 simp
theorem uR (op:BinOp)(x y:Operand)(a b:Array Value)(w:World):(eqGuard op 29 x y (.agg a) (.agg b)).run Tryz.prog w= .ok () w:=by
 have h:Tryz.prog.eqGuardType Tryz.prog.depth 29=false:=by kernel_rfl
 cases op<;>simp[eqGuard,program,h,Sem.run_bind,Sem.run]
def iY (e:Ev):Ev:=
 if e.kind=1 then {e with id:=[],a:=[],b:=[],text:=[],day:=0}
 else if e.kind=2 then {e with day:=0}
 else if e.kind=3 then {e with a:=[],day:=0,n:=0}
 else if e.kind=4 then {e with id:=[],a:=[],at_:=0,ec:=0}
 else if e.kind=5 then {e with id:=[],a:=[],b:=[]}
 else if e.kind=6 then {e with id:=[],a:=[]}
 else if e.kind=7 then {e with id:=[]}
 else e
set_option maxHeartbeats 2000000 in
theorem CO (e:Ev)(w:World):Calls Tryz.prog 34 #[e.v] w fun en w'=>en= .returned (iY e).v∧Grow w w':=by
 have ab:=Below.refl w.heap.size w;unfold Ev.v iY;refine Zs 39 Tryz.func34 ?_;refine aj ?_;refine Seq.box rfl rfl rfl rfl rfl ?_;intro g1 w1 n1;have e1:=Nat.le_trans ab.size n1.ge;replace ab:=ab.step n1.below;have k1:=n1.an;refine Zl fx ?_;intro g2 w2 n2;have e2:=Nat.le_trans ab.size n2.ge;have l2:=Nat.lt_of_lt_of_le k1.lt n2.ge;replace ab:=ab.step n2.below;replace k1:=k1.step n2.below;have k2:=n2.an;refine bn 0 1 2 (aI (aj ?_));refine Zf 0 Tryz.underlying29 ?_;refine ZL Tryz.underlying3 k1 ?_;refine aQ 0 1 2 4 (Zt (Cd.block (aj ?_)));refine bC ?_;refine Za ?_;refine aO 0 1 2 4 5 (Zt ?_);refine Cd.ak rfl (fun h1=> ?_) (fun h1=> ?_)
 ·skip
  refine Zr ?_;refine Zf 1 Tryz.underlying29 ?_;refine Zq k1 ?_;intro w3 pw3;replace ab:=ab.put k1 pw3 e1;replace k2:=k2.put pw3 (by omega);replace k1:=pw3.an;refine Zf 2 Tryz.underlying29 ?_;refine Zq k1 ?_;intro w4 pw4;replace ab:=ab.put k1 pw4 e1;replace k2:=k2.put pw4 (by omega);replace k1:=pw4.an;refine Zf 3 Tryz.underlying29 ?_;refine Zq k1 ?_;intro w5 pw5;replace ab:=ab.put k1 pw5 e1;replace k2:=k2.put pw5 (by omega);replace k1:=pw5.an;refine Zf 4 Tryz.underlying29 ?_;refine Zq k1 ?_;intro w6 pw6;replace ab:=ab.put k1 pw6 e1;replace k2:=k2.put pw6 (by omega);replace k1:=pw6.an;refine Zf 5 Tryz.underlying29 ?_;refine Zq k1 ?_;intro w7 pw7;replace ab:=ab.put k1 pw7 e1;replace k2:=k2.put pw7 (by omega);replace k1:=pw7.an;refine aO 0 1 2 4 5 (ae.ah (aB ?_));refine ZW 9 Tryz.underlying29 k1 ?_;refine Zo 9 k2 ?_;intro w8 pw8;replace ab:=ab.put k2 pw8 e2;replace k1:=k1.put pw8 (by omega);replace k2:=pw8.an;refine aO 0 1 2 4 5 (Zt (Cd.ret ?_));refine gp 9 k2 Tryz.underlying29 ?_;rw[if_pos h1];exact⟨rfl,ab⟩
 refine aj ?_;refine bC ?_;refine Za ?_;refine aY 0 1 2 4 5 12 (Zt ?_);refine Cd.ak rfl (fun h2=> ?_) (fun h2=> ?_)
 ·skip
  refine Zr ?_;refine Zf 5 Tryz.underlying29 ?_;refine Zq k1 ?_;intro w3 pw3;replace ab:=ab.put k1 pw3 e1;replace k2:=k2.put pw3 (by omega);replace k1:=pw3.an;refine aY 0 1 2 4 5 12 (ae.ah (aB ?_));refine ZW 9 Tryz.underlying29 k1 ?_;refine Zo 9 k2 ?_;intro w4 pw4;replace ab:=ab.put k2 pw4 e2;replace k1:=k1.put pw4 (by omega);replace k2:=pw4.an;refine aY 0 1 2 4 5 12 (Zt (Cd.ret ?_));refine gp 9 k2 Tryz.underlying29 ?_;rw[if_neg h1];rw[if_pos h2];exact⟨rfl,ab⟩
 refine aj ?_;refine bC ?_;refine Za ?_;refine ba 0 1 2 4 5 12 15 (Zt ?_);refine Cd.ak rfl (fun h3=> ?_) (fun h3=> ?_)
 ·skip
  refine Zr ?_;refine Zf 2 Tryz.underlying29 ?_;refine Zq k1 ?_;intro w3 pw3;replace ab:=ab.put k1 pw3 e1;replace k2:=k2.put pw3 (by omega);replace k1:=pw3.an;refine Zf 5 Tryz.underlying29 ?_;refine Zq k1 ?_;intro w4 pw4;replace ab:=ab.put k1 pw4 e1;replace k2:=k2.put pw4 (by omega);replace k1:=pw4.an;refine Zf 8 Tryz.underlying29 ?_;refine Zq k1 ?_;intro w5 pw5;replace ab:=ab.put k1 pw5 e1;replace k2:=k2.put pw5 (by omega);replace k1:=pw5.an;refine ba 0 1 2 4 5 12 15 (ae.ah (aB ?_));refine ZW 9 Tryz.underlying29 k1 ?_;refine Zo 9 k2 ?_;intro w6 pw6;replace ab:=ab.put k2 pw6 e2;replace k1:=k1.put pw6 (by omega);replace k2:=pw6.an;refine ba 0 1 2 4 5 12 15 (Zt (Cd.ret ?_));refine gp 9 k2 Tryz.underlying29 ?_;rw[if_neg h1];rw[if_neg h2];rw[if_pos h3];exact⟨rfl,ab⟩
 refine aj ?_;refine bC ?_;refine Za ?_;refine cB 0 1 2 4 5 12 15 20 (Zt ?_);refine Cd.ak rfl (fun h4=> ?_) (fun h4=> ?_)
 ·skip
  refine Zr ?_;refine Zf 1 Tryz.underlying29 ?_;refine Zq k1 ?_;intro w3 pw3;replace ab:=ab.put k1 pw3 e1;replace k2:=k2.put pw3 (by omega);replace k1:=pw3.an;refine Zf 2 Tryz.underlying29 ?_;refine Zq k1 ?_;intro w4 pw4;replace ab:=ab.put k1 pw4 e1;replace k2:=k2.put pw4 (by omega);replace k1:=pw4.an;refine Zf 6 Tryz.underlying29 ?_;refine Zq k1 ?_;intro w5 pw5;replace ab:=ab.put k1 pw5 e1;replace k2:=k2.put pw5 (by omega);replace k1:=pw5.an;refine Zf 7 Tryz.underlying29 ?_;refine Zq k1 ?_;intro w6 pw6;replace ab:=ab.put k1 pw6 e1;replace k2:=k2.put pw6 (by omega);replace k1:=pw6.an;refine cB 0 1 2 4 5 12 15 20 (ae.ah (aB ?_));refine ZW 9 Tryz.underlying29 k1 ?_;refine Zo 9 k2 ?_;intro w7 pw7;replace ab:=ab.put k2 pw7 e2;replace k1:=k1.put pw7 (by omega);replace k2:=pw7.an;refine cB 0 1 2 4 5 12 15 20 (Zt (Cd.ret ?_));refine gp 9 k2 Tryz.underlying29 ?_;rw[if_neg h1];rw[if_neg h2];rw[if_neg h3];rw[if_pos h4];exact⟨rfl,ab⟩
 refine aj ?_;refine bC ?_;refine Za ?_;refine dY 0 1 2 4 5 12 15 20 26 (Zt ?_);refine Cd.ak rfl (fun h5=> ?_) (fun h5=> ?_)
 ·skip
  refine Zr ?_;refine Zf 1 Tryz.underlying29 ?_;refine Zq k1 ?_;intro w3 pw3;replace ab:=ab.put k1 pw3 e1;replace k2:=k2.put pw3 (by omega);replace k1:=pw3.an;refine Zf 2 Tryz.underlying29 ?_;refine Zq k1 ?_;intro w4 pw4;replace ab:=ab.put k1 pw4 e1;replace k2:=k2.put pw4 (by omega);replace k1:=pw4.an;refine Zf 3 Tryz.underlying29 ?_;refine Zq k1 ?_;intro w5 pw5;replace ab:=ab.put k1 pw5 e1;replace k2:=k2.put pw5 (by omega);replace k1:=pw5.an;refine dY 0 1 2 4 5 12 15 20 26 (ae.ah (aB ?_));refine ZW 9 Tryz.underlying29 k1 ?_;refine Zo 9 k2 ?_;intro w6 pw6;replace ab:=ab.put k2 pw6 e2;replace k1:=k1.put pw6 (by omega);replace k2:=pw6.an;refine dY 0 1 2 4 5 12 15 20 26 (Zt (Cd.ret ?_));refine gp 9 k2 Tryz.underlying29 ?_;rw[if_neg h1];rw[if_neg h2];rw[if_neg h3];rw[if_neg h4];rw[if_pos h5];exact⟨rfl,ab⟩
 refine aj ?_;refine bC ?_;refine Za ?_;refine dq 0 1 2 4 5 12 15 20 26 31 (Zt ?_);refine Cd.ak rfl (fun h6=> ?_) (fun h6=> ?_)
 ·skip
  refine Zr ?_;refine Zf 1 Tryz.underlying29 ?_;refine Zq k1 ?_;intro w3 pw3;replace ab:=ab.put k1 pw3 e1;replace k2:=k2.put pw3 (by omega);replace k1:=pw3.an;refine Zf 2 Tryz.underlying29 ?_;refine Zq k1 ?_;intro w4 pw4;replace ab:=ab.put k1 pw4 e1;replace k2:=k2.put pw4 (by omega);replace k1:=pw4.an;refine dq 0 1 2 4 5 12 15 20 26 31 (ae.ah (aB ?_));refine ZW 9 Tryz.underlying29 k1 ?_;refine Zo 9 k2 ?_;intro w5 pw5;replace ab:=ab.put k2 pw5 e2;replace k1:=k1.put pw5 (by omega);replace k2:=pw5.an;refine dq 0 1 2 4 5 12 15 20 26 31 (Zt (Cd.ret ?_));refine gp 9 k2 Tryz.underlying29 ?_;rw[if_neg h1];rw[if_neg h2];rw[if_neg h3];rw[if_neg h4];rw[if_neg h5];rw[if_pos h6];exact⟨rfl,ab⟩
 refine aj ?_;refine bC ?_;refine Za ?_;refine dv 0 1 2 4 5 12 15 20 26 31 35 (Zt ?_);refine Cd.ak rfl (fun h7=> ?_) (fun h7=> ?_)
 ·skip
  refine Zr ?_;refine Zf 1 Tryz.underlying29 ?_;refine Zq k1 ?_;intro w3 pw3;replace ab:=ab.put k1 pw3 e1;replace k2:=k2.put pw3 (by omega);replace k1:=pw3.an;refine dv 0 1 2 4 5 12 15 20 26 31 35 (ae.ah (aB ?_));refine ZW 9 Tryz.underlying29 k1 ?_;refine Zo 9 k2 ?_;intro w4 pw4;replace ab:=ab.put k2 pw4 e2;replace k1:=k1.put pw4 (by omega);replace k2:=pw4.an;refine dv 0 1 2 4 5 12 15 20 26 31 35 (Zt (Cd.ret ?_));refine gp 9 k2 Tryz.underlying29 ?_;rw[if_neg h1];rw[if_neg h2];rw[if_neg h3];rw[if_neg h4];rw[if_neg h5];rw[if_neg h6];rw[if_pos h7];exact⟨rfl,ab⟩
 refine Cd.skip (ae.ah (aB ?_));refine ZW 9 Tryz.underlying29 k1 ?_;refine Zo 9 k2 ?_;intro w3 pw3;replace ab:=ab.put k2 pw3 e2;replace k1:=k1.put pw3 (by omega);replace k2:=pw3.an;refine dv 0 1 2 4 5 12 15 20 26 31 35 (Zt (Cd.ret ?_));refine gp 9 k2 Tryz.underlying29 ?_;rw[if_neg h1,if_neg h2,if_neg h3,if_neg h4,if_neg h5,if_neg h6,if_neg h7];exact⟨rfl,ab⟩
theorem Fk (n:Int)(w:World):Calls Tryz.prog 37 #[.int .i64 n] w fun en w'=>en= .returned (.bool (decide (0≤n)&&decide (n≤2932896)))∧Grow w w':=by
 have ab:=Below.refl w.heap.size w;refine Zs 9 Tryz.func37 ?_;refine aj ?_;refine Za ?_;refine dF 0 2 (aB ?_);refine Zm ?_;refine kZ ?_;refine Zm ?_;refine aw.start ?_;refine bw (fun hcx=>aa.move rfl rfl) ?_;refine Zn (fun hcx=>aa.leq rfl rfl rfl) ?_;refine fQ ?_;refine Za ?_;refine dF 0 2 (Zt (Cd.ret ?_));refine aZ ?_;exact⟨rfl,ab⟩
def m7 (e:Ev):Bool:=(!(decide (e.kind≠2)&&decide (e.kind≠3))||cS e.id)&&(!(decide (e.kind≠2)&&decide (e.kind≠7))||cS e.a)&&(!(decide (e.kind=1)||decide (e.kind=5))||(cS e.b&&decide (e.a≠e.b)))
set_option maxHeartbeats 1000000 in
theorem Cm (e:Ev)(he:e.AS)(w:World):Calls Tryz.prog 35 #[e.v] w fun en w'=>en= .returned (.bool (m7 e))∧Grow w w':=by
 have ab:=Below.refl w.heap.size w;have ha:=he.a;have hb:=he.b;have h1:=fun W=>mi e.id W he.id he.Gf;have h2:=fun W=>mi e.a W he.a he.la;have h3:=fun W=>mi e.b W he.b he.lb;unfold Ev.v m7;refine Zs 62 Tryz.func35 ?_;refine aj ?_;refine Seq.box rfl rfl rfl rfl rfl ?_;intro g1 w1 n1;have e1:=Nat.le_trans ab.size n1.ge;replace ab:=ab.step n1.below;have k1:=n1.an;refine Za ?_;refine bn 0 1 2 (aB ?_);refine Zf 0 Tryz.underlying29 ?_;refine ZL Tryz.underlying3 k1 ?_;refine sJ ?_;refine Zm ?_;refine aw.start ?_;refine bw (fun hcx=>aa.ar 0 rfl rfl Tryz.underlying29 rfl (by kernel_rfl)) ?_;refine Zn (fun hcx=>aa.au rfl rfl Tryz.underlying3 rfl k1 rfl) ?_;refine Zn (fun hcx=>aa.cW rfl rfl rfl) ?_;refine fQ ?_;refine Za ?_;refine aQ 0 1 2 3 (aB ?_);refine Zf 0 Tryz.underlying29 ?_;refine ZL Tryz.underlying3 k1 ?_;refine sJ ?_;refine Zm ?_;refine aw.start ?_;refine bw (fun hcx=>aa.ar 0 rfl rfl Tryz.underlying29 rfl (by kernel_rfl)) ?_;refine Zn (fun hcx=>aa.au rfl rfl Tryz.underlying3 rfl k1 rfl) ?_;refine Zn (fun hcx=>aa.cW rfl rfl rfl) ?_;refine fQ ?_;refine Za ?_;refine aO 0 1 2 3 4 (aB ?_);refine Zf 0 Tryz.underlying29 ?_;refine ZL Tryz.underlying3 k1 ?_;refine bC ?_;refine Zm ?_;refine aw.start ?_;refine bw (fun hcx=>aa.ar 0 rfl rfl Tryz.underlying29 rfl (by kernel_rfl)) ?_;refine Zn (fun hcx=>aa.au rfl rfl Tryz.underlying3 rfl k1 rfl) ?_;refine Zn (fun hcx=>aa.fh rfl rfl rfl) ?_;refine fg ?_;refine Za ?_;refine aY 0 1 2 3 4 5 (aB ?_);refine Zm ?_;refine mD ?_;refine Zm ?_;refine aw.start ?_;refine bw (fun hcx=>aa.ar 1 rfl rfl Tryz.underlying29 rfl (by kernel_rfl)) ?_;refine Zn (fun hcx=>aa.au rfl rfl Tryz.underlying9 rfl k1 rfl) ?_;refine aw.bU rfl rfl rfl rfl rfl rfl rfl (fun hcx=>Ze Tryz.func62) (fun hcx=>h1 _) ?_;intro w2 hw2;replace ab:=ab.step hw2;replace k1:=k1.step hw2;refine fg ?_;refine Zm ?_;refine aw.start ?_;refine bw (fun hcx=>aa.move rfl rfl) ?_;refine Zn (fun hcx=>aa.not rfl rfl) ?_;refine gq ?_;refine bw (fun hcx=>aa.ar 2 rfl rfl Tryz.underlying29 rfl (by kernel_rfl)) ?_;refine Zn (fun hcx=>aa.au rfl rfl Tryz.underlying9 rfl k1 rfl) ?_;refine aw.bU rfl rfl rfl rfl rfl rfl rfl (fun hcx=>Ze Tryz.func62) (fun hcx=>h2 _) ?_;intro w3 hw3;replace ab:=ab.step hw3;replace k1:=k1.step hw3;refine aw.zm rfl rfl rfl rfl rfl rfl rfl rfl rfl rfl rfl ?_;refine fQ ?_;refine Zm ?_;refine aw.start ?_;refine bw (fun hcx=>aa.move rfl rfl) ?_;refine Zn (fun hcx=>aa.not rfl rfl) ?_;refine gq ?_;refine bw (fun hcx=>aa.ar 3 rfl rfl Tryz.underlying29 rfl (by kernel_rfl)) ?_;refine Zn (fun hcx=>aa.au rfl rfl Tryz.underlying9 rfl k1 rfl) ?_;refine aw.bU rfl rfl rfl rfl rfl rfl rfl (fun hcx=>Ze Tryz.func62) (fun hcx=>h3 _) ?_;intro w4 hw4;replace ab:=ab.step hw4;replace k1:=k1.step hw4;refine gq ?_;refine bw (fun hcx=>aa.ar 2 rfl rfl Tryz.underlying29 rfl (by kernel_rfl)) ?_;refine Zn (fun hcx=>aa.au rfl rfl Tryz.underlying9 rfl k1 rfl) ?_;refine Zn (fun hcx=>aa.ar 3 rfl rfl Tryz.underlying29 rfl (by kernel_rfl)) ?_;refine Zn (fun hcx=>aa.au rfl rfl Tryz.underlying9 rfl k1 rfl) ?_;refine Zn (fun hcx=>aa.fT (a:=e.a) (b:=e.b) rfl rfl rfl ha hb) ?_;refine aw.mF rfl rfl rfl rfl rfl rfl rfl rfl rfl rfl rfl ?_;refine aw.zm rfl rfl rfl rfl rfl rfl rfl rfl rfl rfl rfl ?_;refine fQ ?_;refine Za ?_;refine aY 0 1 2 3 4 5 (Zt (Cd.ret ?_));refine aZ ?_;exact⟨bt (aJ (by simp)),ab⟩
def cN (s:List Nat):Bool:=decide ((cq s).2.2=0)&&decide (dt (cq s).1=s)
theorem mg {l:List Nat}(h:(cq l).2.2=0):dK (cq l).1=true∧l.length≤4000:=by
 rcases Ag l with ⟨t,h1,h2,h3⟩|⟨h1,-⟩|⟨h1,-⟩|⟨p,h1,-⟩
 ·rw[h1];exact⟨h2,h3⟩
 ·rw[h1] at h;cases h
 ·rw[h1] at h;cases h
 ·rw[h1] at h;cases h
theorem sm {l:List Nat}(h:(cq l).2.2≠0):(cq l).1=ft:=by
 unfold cq at h⊢;split
 ·rfl
 ·rename_i h0
  rw[if_neg h0] at h
  cases hq:gF (aP l).1 with
  |ok x q=>
   rw[hq] at h;dsimp only at h⊢;split
   ·rename_i hx
    rw[if_pos hx] at h;exact absurd rfl h
   ·rfl
  |bad p o=>rfl
  |out=>rfl
theorem j1 (w:World):(Instr.build 71 #[]).run Tryz.prog w= .ok (.agg #[.int .i64 0, .string (strOf []), .slice none 0 0, .slice none 0 0]) w:=by kernel_rfl
theorem xd (s:List Nat)(w:World)(hs:∀x∈s,x<256)(hlen:s.length≤9223372036854775807):
  Calls Tryz.prog 36 #[.string (strOf s)] w fun en w'=>Below w.heap.size w w'∧∃(v:Value) (S:Nat→Prop),en= .returned (.tuple #[v, .bool (cN s)])∧dr w' S (cq s).1 v∧∀b,S b→w.heap.size≤b∧b<w'.heap.size:=by
 have ab:=Below.refl w.heap.size w;have hps:=fun W=>zI s W hs hlen;have hok:= @mg s;have hno:= @sm s;unfold cN;obtain⟨t,q,z,hP⟩:∃t q z,cq s=(t,q,z):=⟨_,_,_,rfl⟩;rw[hP] at hok hno⊢;simp only[hP] at hps;dsimp only at hok hno⊢;refine Zs 30 Tryz.func36 ?_;refine aj ?_;refine Zl aG ?_;intro g2 w1 n2;have e2:=Nat.le_trans ab.size n2.ge;replace ab:=ab.step n2.below;have k2:=n2.an;refine Za ?_;refine bn 0 2 3 (aB ?_);refine Zm ?_;have q1:=ab.size;have q2:=k2.lt;refine Zc (Ze Tryz.func81) (hps _) ?_;rintro en w5 ⟨hb5,v,S,rfl,hrep,hS⟩;obtain⟨A1,c1,A2,c2,hvX⟩:=hrep.form;subst hvX;refine⟨_,rfl,?_⟩;replace ab:=ab.step hb5;replace k2:=k2.step hb5;have rs:Dx _ w5.heap.size S t (.agg #[.int .i64 t.op, .string (strOf t.name), .slice A1 t.exprs.length c1, .slice A2 t.aF.length c2]) w5:=⟨hrep,hS,Nat.le_refl _⟩;refine Zm ?_;refine Zx ?_;refine Zx ?_;refine Zx ?_;refine Zl aG ?_;intro g4 w2 n4;have q4:=n4.ge;have e4:=Nat.le_trans ab.size n4.ge;have l4:=Nat.lt_of_lt_of_le k2.lt n4.ge;replace ab:=ab.step n4.below;replace k2:=k2.step n4.below;replace rs:=rs.step n4.below;have k4:=n4.an;refine Zo 4 k4 ?_;intro w3 pw3;replace ab:=ab.put k4 pw3 e4;replace k2:=k2.put pw3 (by omega);replace rs:=rs.put k4 pw3 e4;replace k4:=pw3.an;refine Za ?_;refine Za ?_;refine aO 0 2 3 4 6 (aI (aj ?_));have k4:aH _ g4 71 #[.int .i64 t.op, .string (strOf t.name), .slice A1 t.exprs.length c1, .slice A2 t.aF.length c2]:=k4;refine Zm ?_;refine sJ ?_;refine aY 0 2 3 4 6 15 (Zt ?_);refine Cd.ak rfl (fun hz=> ?_) (fun hz=> ?_)
 ·skip
  refine aj ?_;refine Zv (aa.build rfl rfl (j1 _)) ?_;refine Zo 4 k2 ?_;intro w4 pw4;replace ab:=ab.put k2 pw4 e2;replace rs:=rs.put k2 pw4 e2;replace k4:=k4.put pw4 (by omega);replace k2:=pw4.an;refine Za ?_;refine aY 0 2 3 4 6 15 (Zt (Cd.ret (ae.af ?_)));refine ae.hO rfl rfl rfl k2 Tryz.underlying71 rfl (m:=4) (by kernel_rfl) rfl (.inl rfl) ?_;obtain rfl:=hno hz;exact⟨ab,_,fun _=>False,xJ rfl (aJ (by rw[decide_eq_false hz];rfl)),dr.zero _ _,fun b hb=>hb.elim⟩
 have hz:z=0:=Decidable.not_not.1 hz;obtain⟨hrt,h4⟩:=hok hz;obtain⟨hn2,hd2,hbt⟩:=gY hrt;have hpt:=fun W (hr:gJ W W.heap.size t (.agg #[.int .i64 t.op, .string (strOf t.name), .slice A1 t.exprs.length c1, .slice A2 t.aF.length c2]))=>rL t _ W (by omega) hr;have hbd:=(jU t.nodes t (Nat.le_refl _) hbt).2;have e1:pB t=dt t:=by unfold pB;rw[if_pos hrt]
 rw[hrt,e1] at hpt
 have hor:(ki true (dt t)=([],4)∧dt t≠s)∨ki true (dt t)=(dt t,0):=by
  unfold ki;rw[if_neg (by decide)];split
  ·rename_i hl4
   exact .inl ⟨rfl,fun h=>by rw[h] at hl4;omega⟩
  ·exact .inr rfl
 obtain⟨⟨s1,n1⟩,hs1⟩:∃z,ki true (dt t)=z:=⟨_,rfl⟩;rw[hs1] at hor hpt
 have hs256:∀x∈s1,x<256:=by
  rcases hor with ⟨h,-⟩|h
  ·injection h with h _;rw[h];simp
  ·injection h with h _;rw[h];exact hbd
 have hfin:(decide (n1=0)&&decide (s1=s))=(decide (z=0)&&decide (dt t=s)):=by
  rcases hor with ⟨h,h2⟩|h
  ·injection h with h h3
   rw[h3,decide_eq_false h2];simp
  ·injection h with h h3
   rw[h,h3,decide_eq_true hz];rfl
 refine Cd.skip (aB ?_);refine ZW 4 Tryz.underlying71 k4 ?_;refine Zc (Ze Tryz.func82) (hpt _ (rs.rep.mono (fun b hb=>Nat.lt_of_lt_of_le (rs.bd b hb).2 rs.eX) (fun _ _=>rfl))) ?_;rintro en w6 ⟨rfl,hb6⟩;refine⟨_,rfl,?_⟩;replace ab:=ab.step hb6;replace k2:=k2.step hb6;replace rs:=rs.step hb6;replace k4:=k4.step hb6;refine Zm ?_;refine Zx ?_;refine Zx ?_;refine Za ?_;refine Za ?_;refine ba 0 2 3 4 6 7 15 (aB ?_);refine ZW 4 Tryz.underlying71 k4 ?_;refine Zm ?_;refine bC ?_;refine Zm ?_;refine aw.start ?_;refine bw (fun hcx=>aa.move rfl rfl) ?_;refine gq ?_;refine Zn (fun hcx=>aa.cI (a:=s1) (b:=s) rfl rfl rfl hs256 hs) ?_;refine fQ ?_;refine Zo 4 k2 ?_;intro w4 pw4;replace ab:=ab.put k2 pw4 e2;replace rs:=rs.put k2 pw4 e2;replace k4:=k4.put pw4 (by omega);replace k2:=pw4.an;refine Za ?_;refine ba 0 2 3 4 6 7 15 (Zt (Cd.ret ?_));refine ae.hO rfl rfl rfl k2 Tryz.underlying71 rfl (m:=4) (by kernel_rfl) rfl (.inl rfl) ?_;rw[←hfin];exact⟨ab,_,S,rfl,rs.rep,fun b hb=>⟨by have:=(rs.bd b hb).1;omega,Nat.lt_of_lt_of_le (rs.bd b hb).2 rs.eX⟩⟩
theorem rP (s:List Nat)(w:World)(hs:∀x∈s,x<256)(hlen:s.length≤9223372036854775807):
  Calls Tryz.prog 29 #[.string (strOf s)] w fun en w'=>Below w.heap.size w w'∧∃(v:Value) (S:Nat→Prop),en= .returned (.tuple #[v, .bool (cN s)])∧dr w' S (if cN s=true then(cq s).1 else ft) v∧∀b,S b→w.heap.size≤b∧b<w'.heap.size:=by
 have ab:=Below.refl w.heap.size w
 have h4k:4000<s.length→cN s=false:=fun h=>by
  unfold cN;rw[decide_eq_false]
  ·rfl
  ·intro h0;have:=(mg h0).2;omega
 have hps:=fun W h4=>ua s W hs h4;have hok:= @mg s;have hno:= @sm s;have hpb:cN s=(decide ((cq s).2.2=0)&&decide (dt (cq s).1=s)):=rfl;obtain⟨t,q,z,hP⟩:∃t q z,cq s=(t,q,z):=⟨_,_,_,rfl⟩;rw[hP] at hok hno hpb⊢;simp only[hP] at hps;dsimp only at hok hno hpb⊢;refine Zs 27 Tryz.func29 ?_;refine aj ?_;refine Zl aG ?_;intro g2 w1 n2;have e2:=Nat.le_trans ab.size n2.ge;replace ab:=ab.step n2.below;have k2:=n2.an;refine Za ?_;refine bn 0 2 3 (aI (aj ?_));refine Zm ?_;refine Zv (aa.dh rfl rfl Tryz.underlying9) ?_;refine uV ?_;refine aQ 0 2 3 9 (Zt ?_);refine Cd.ak rfl (fun hc=> ?_) (fun hc=> ?_)
 ·skip
  refine aj ?_;refine Zv (aa.build rfl rfl (j1 _)) ?_;refine Zo 4 k2 ?_;intro w2 pw2;replace ab:=ab.put k2 pw2 e2;replace k2:=pw2.an;refine Za ?_;refine aQ 0 2 3 9 (Zt (Cd.ret (ae.af ?_)));refine ae.hO rfl rfl rfl k2 Tryz.underlying71 rfl (m:=4) (by kernel_rfl) rfl (.inl rfl) ?_;have hf:=h4k (by omega);exact⟨ab,_,fun _=>False,xJ rfl (aJ hf.symm),by rw[hf];exact dr.zero _ _,fun b hb=>hb.elim⟩
 refine Cd.skip (aB ?_);refine Zm ?_;have q1:=ab.size;have q2:=k2.lt;refine Zc (Ze Tryz.func78) (hps _ (by omega)) ?_;rintro en w5 ⟨hb5,v,S,rfl,hrep,hS⟩;obtain⟨A1,c1,A2,c2,hvX⟩:=hrep.form;subst hvX;refine⟨_,rfl,?_⟩;replace ab:=ab.step hb5;replace k2:=k2.step hb5;have rs:Dx _ w5.heap.size S t (.agg #[.int .i64 t.op, .string (strOf t.name), .slice A1 t.exprs.length c1, .slice A2 t.aF.length c2]) w5:=⟨hrep,hS,Nat.le_refl _⟩;refine Zm ?_;refine Zx ?_;refine Zx ?_;refine Zx ?_;refine Zl aG ?_;intro g4 w2 n4;have q4:=n4.ge;have e4:=Nat.le_trans ab.size n4.ge;have l4:=Nat.lt_of_lt_of_le k2.lt n4.ge;replace ab:=ab.step n4.below;replace k2:=k2.step n4.below;replace rs:=rs.step n4.below;have k4:=n4.an;refine Zo 4 k4 ?_;intro w3 pw3;replace ab:=ab.put k4 pw3 e4;replace k2:=k2.put pw3 (by omega);replace rs:=rs.put k4 pw3 e4;replace k4:=pw3.an;refine Za ?_;refine Za ?_;refine aY 0 2 3 4 6 9 (aI (aj ?_));have k4:aH _ g4 71 #[.int .i64 t.op, .string (strOf t.name), .slice A1 t.exprs.length c1, .slice A2 t.aF.length c2]:=k4
 have hpt:=fun W (hz:z=0) (hr:gJ W W.heap.size t (.agg #[.int .i64 t.op, .string (strOf t.name), .slice A1 t.exprs.length c1, .slice A2 t.aF.length c2]))=>by
  obtain⟨hn2,hd2,hbt⟩:=gY (hok hz).1;exact u6 t.nodes t _ _ W (Nat.le_refl _) hn2 hbt hr (Nat.le_refl _)
 have hbd:z=0→∀x∈dt t,x<256:=fun hz=>by
  obtain⟨hn2,hd2,hbt⟩:=gY (hok hz).1;exact(jU t.nodes t (Nat.le_refl _) hbt).2
 refine Zm ?_;refine sJ ?_;refine Zm ?_;refine aw.start ?_;refine bw (fun hcx=>aa.eK rfl rfl Tryz.underlying71 rfl k4 (m:=4) (by kernel_rfl) rfl) ?_;refine aw.bU rfl rfl rfl rfl rfl rfl rfl (fun hcx=>Ze Tryz.func65) (fun hcx=>hpt _ (by simpa[ct] using hcx) (rs.rep.mono (fun b hb=>Nat.lt_of_lt_of_le (rs.bd b hb).2 rs.eX) (fun _ _=>rfl))) ?_;intro w4 hw4;replace ab:=ab.step hw4;replace k2:=k2.step hw4;replace rs:=rs.step hw4;replace k4:=k4.step hw4;refine gq ?_;refine Zn (fun hcx=>aa.fT (a:=dt t) (b:=s) rfl rfl rfl (hbd (by simpa[ct] using hcx)) hs) ?_;refine fg ?_;refine ba 0 2 3 4 6 9 24 (Zt ?_);refine Cd.cond rfl (fun hc=> ?_) (fun hc=> ?_)
 ·skip
  refine aj ?_;refine Zv (aa.build rfl rfl (j1 _)) ?_;refine Zo 4 k2 ?_;intro w5 pw5;replace ab:=ab.put k2 pw5 e2;replace rs:=rs.put k2 pw5 e2;replace k4:=k4.put pw5 (by omega);replace k2:=pw5.an;refine Za ?_;refine ba 0 2 3 4 6 9 24 (Zt (Cd.ret (ae.af ?_)));refine ae.hO rfl rfl rfl k2 Tryz.underlying71 rfl (m:=4) (by kernel_rfl) rfl (.inl rfl) ?_
  have hf:cN s=false:=by
   rw[hpb]
   by_cases hz:z=0
   ·simp[hz] at hc
    simp[hc]
   ·rw[decide_eq_false hz];rfl
  exact⟨ab,_,fun _=>False,xJ rfl (aJ hf.symm),by rw[hf];exact dr.zero _ _,fun b hb=>hb.elim⟩
 ·skip
  refine Cd.skip (aB ?_);refine ZW 4 Tryz.underlying71 k4 ?_;refine Zo 4 k2 ?_;intro w5 pw5;replace ab:=ab.put k2 pw5 e2;replace rs:=rs.put k2 pw5 e2;replace k4:=k4.put pw5 (by omega);replace k2:=pw5.an;refine Za ?_;refine ba 0 2 3 4 6 9 24 (Zt (Cd.ret ?_));refine ae.hO rfl rfl rfl k2 Tryz.underlying71 rfl (m:=4) (by kernel_rfl) rfl (.inl rfl) ?_
  have hf:cN s=true:=by
   rw[hpb];simp at hc;simp[hc.1,hc.2]
  exact⟨ab,_,S,xJ rfl (aJ hf.symm),by rw[hf];exact rs.rep,fun b hb=>⟨by have:=(rs.bd b hb).1;omega,Nat.lt_of_lt_of_le (rs.bd b hb).2 rs.eX⟩⟩
theorem CJ (l:List Nat)(c:Nat)(w:World)(hl:∀x∈l,x<256)(h1:l.length≤1000)(hc:c<256):Calls Tryz.prog 27 #[.string (strOf l), .int .u8 (c:Int)] w fun en w'=>en= .returned (.bool (decide (c∈l)))∧Grow w w':=by
 have ab:=Below.refl w.heap.size w;refine Zs 17 Tryz.func27 ?_;refine aj ?_;refine Za ?_;refine bn 0 1 4 (aI (aj ?_));refine Za ?_;refine aQ 0 1 4 5 (Zt (Cd.block ?_));refine Cd.loop (σ:=Nat) (fun i=>[(0, .string (strOf l)),(1, .int .u8 (c:Int)),(5, .int .i64 (i:Int))]) (fun i wr=>i≤l.length∧Below w.heap.size w wr∧∀j,j<i→l[j]? ≠some c) (fun i=>l.length-i) 0 ⟨Nat.zero_le _,ab,fun j h=>by omega⟩ ⟨rfl,rfl,rfl,trivial⟩ ?_;clear ab;rintro i wr ⟨hi,ab,hno⟩;refine Cd.seq (aj ?_);refine Zm ?_;refine Zm ?_;refine Zv (aa.dh rfl rfl Tryz.underlying9) ?_;refine eI ?_;refine aQ 0 1 5 9 (Zt ?_);refine Cd.ak rfl (fun hc=> ?_) (fun hc=> ?_)
 ·obtain⟨d,hd⟩:∃d,l[i]? =some d:=⟨_,List.getElem?_eq_getElem (by omega)⟩
  have hd2:=hl d (List.mem_of_getElem? hd);refine Cd.skip (aI (Cd.block (aj ?_)));refine Zm ?_;refine Zm ?_;refine Zv (aa.cz (l:=l) (j:=i) rfl rfl rfl Tryz.underlying9 rfl hd hd2) ?_;refine Zm ?_;refine bC ?_;refine aO 0 1 5 9 16 (Zt ?_);refine Cd.ak rfl (fun hc=> ?_) (fun hc=> ?_)
  ·skip
   refine aj ?_;refine Za ?_;refine aY 0 1 4 5 9 16 (Zt (Cd.ret (ae.ag (ae.af (ae.aX (ae.ag (ae.af ?_)))))));refine aZ ?_;obtain rfl:d=c:=by omega
   exact⟨bt (aJ (decide_eq_true (List.mem_of_getElem? hd)).symm),ab⟩
  ·skip
   refine Cd.skip (ae.ah (eh ?_));refine Zm ?_;refine cG ?_;refine Za ?_;refine aO 0 1 5 9 16 ?_;refine ae.round (i+1) ⟨rfl,rfl,rfl,trivial⟩ ⟨by omega,ab,fun j hj=> ?_⟩ (by omega);rcases Nat.lt_or_ge j i with h|h
   ·exact hno j h
   ·obtain rfl:j=i:=by omega
    rw[hd];intro h;injection h with h
    omega
 ·obtain rfl:i=l.length:=by omega
  refine Cd.exit (ae.aC (ae.aA (ae.ay (aB ?_))));refine Za ?_;refine aO 0 1 4 5 9 (Zt (Cd.ret ?_));refine aZ ?_;refine⟨bt (aJ (decide_eq_false fun h=> ?_).symm),ab⟩;obtain⟨j,hj,hjc⟩:=List.getElem_of_mem h;exact hno j hj (by rw[List.getElem?_eq_getElem hj,hjc])
def lY (k:Int):Ev:=⟨k,[],[],[],[],0,0,0,0⟩
theorem nN (a:Int)(w:World):(Instr.build 29 #[(0, .int .i64 a)]).run Tryz.prog w= .ok (lY a).v w:=by kernel_rfl
theorem wJ {e:Ev}(h:e.AS):(iY e).AS:=by
 have hn:∀x∈([]:List Nat),x<256:=fun x h=>by cases h
 have h0:bm 0:=by unfold bm;omega
 have hl:([]:List Nat).length≤9223372036854775807:=Nat.zero_le _;obtain⟨a1,a2,a3,a4,a5,a6,a7,a8,a9,b1,b2,b3,b4⟩:=h;unfold iY
 repeat' split
 all_goals constructor<;>first|assumption
theorem zP {k:Int}(h:bm k):(lY k).AS:=by
 have h0:bm 0:=by unfold bm;omega
 have hn:∀x∈([]:List Nat),x<256:=fun x h=>by cases h
 exact⟨h,hn,hn,hn,hn,h0,h0,h0,h0,Nat.zero_le _,Nat.zero_le _,Nat.zero_le _,Nat.zero_le _⟩
def cH (e:Ev):Bool:=(decide (1≤e.kind)&&decide (e.kind≤7))&&decide (iY e=lY e.kind)&&m7 e&&(decide (e.kind≠1)||cN e.text)&&(decide (0≤e.day)&&decide (e.day≤2932896))&&(decide (0≤e.at_)&&decide (e.at_<200)&&(decide (e.ec=0)||decide (e.ec=1)))
set_option maxHeartbeats 1000000 in
theorem qs (e:Ev)(he:e.AS)(w:World):Calls Tryz.prog 13 #[e.v] w fun en w'=>en= .returned (.bool (cH e))∧Grow w w':=by
 have ab:=Below.refl w.heap.size w;have hneq:=fun W=>wH (iY e) (lY e.kind) W;rw[DB (wJ he) (zP he.kind)] at hneq;have hbl:=fun W=>CO e W;have hnm:=fun W=>Cm e he W;have hpr:=fun W=>xd e.text W he.text he.yC;have hday:=fun W=>Fk e.day W;unfold Ev.v at hbl hnm⊢;have hF:∀ {b:Bool},b=false→∀c d,(b&&c&&d)=false:=fun h c d=>by rw[h];rfl
 refine Zs 60 Tryz.func13 ?_;refine aj ?_;refine Seq.box rfl rfl rfl rfl rfl ?_;intro g1 w1 n1;have e1:=Nat.le_trans ab.size n1.ge;replace ab:=ab.step n1.below;have k1:=n1.an;refine Za ?_;refine bn 0 1 2 (aI (Cd.seq ?_))
 by_cases c1:e.kind<1
 ·skip
  refine ff 21 ?_;intro w2 hw2 zw2;replace ab:=ab.step hw2;replace k1:=k1.step hw2;have zbel:=ab.size;have zlt:=k1.lt;refine eV 0 Tryz.underlying29 ?_;refine dZ Tryz.underlying3 k1 ?_;refine Zd (fun w hG=>(aa.lss rfl rfl rfl).lK (by omega)) ?_;refine cf ?_;refine dm ?_;refine dm ?_;refine dm ?_;refine Zd (fun w hG=>aa.cQ rfl rfl rfl) ?_;refine cf ?_;refine dm ?_;refine dm ?_;refine dm ?_;refine dm ?_;refine dm ?_;refine dm ?_;refine Zd (fun w hG=>aa.cQ rfl rfl rfl) ?_;refine cf ?_;refine dm ?_;refine dm ?_;refine dm ?_;refine Zd (fun w hG=>aa.cQ rfl rfl rfl) ?_;refine Dr.nil ?_;refine bb.done (F':=[(0,_),(1,_),(2,_),(25,_)]) rfl ⟨rfl,rfl,rfl,rfl,trivial⟩ ?_;intro w3 hw3 fw3;replace ab:=ab.step hw3;replace k1:=k1.step hw3;refine aQ 0 1 2 25 (Zt ?_);refine Cd.aU rfl rfl ?_;refine aj ?_;refine Za ?_;refine aQ 0 1 2 25 (Zt (Cd.ret (ae.af ?_)));refine aZ ?_;exact⟨bt (aJ (by unfold cH;rw[decide_eq_false (by omega)];rfl)),ab⟩
 by_cases c2:7<e.kind
 ·skip
  refine ff 21 ?_;intro w2 hw2 zw2;replace ab:=ab.step hw2;replace k1:=k1.step hw2;have zbel:=ab.size;have zlt:=k1.lt;refine eV 0 Tryz.underlying29 ?_;refine dZ Tryz.underlying3 k1 ?_;refine Zd (fun w hG=>(aa.lss rfl rfl rfl).iC (by omega)) ?_;refine cf ?_;refine cn (fun w hG=>aa.ar 0 rfl rfl Tryz.underlying29 rfl (by kernel_rfl)) ?_;refine cn (fun w hG=>aa.au rfl rfl Tryz.underlying3 rfl (k1.step hG) rfl) ?_;refine cn (fun w hG=>(aa.gtr rfl rfl rfl).lK (by omega)) ?_;refine Zd (fun w hG=>aa.bq rfl rfl rfl) ?_;refine cf ?_;refine dm ?_;refine dm ?_;refine dm ?_;refine dm ?_;refine dm ?_;refine dm ?_;refine Zd (fun w hG=>aa.cQ rfl rfl rfl) ?_;refine cf ?_;refine dm ?_;refine dm ?_;refine dm ?_;refine Zd (fun w hG=>aa.cQ rfl rfl rfl) ?_;refine Dr.nil ?_;refine bb.done (F':=[(0,_),(1,_),(2,_),(25,_)]) rfl ⟨rfl,rfl,rfl,rfl,trivial⟩ ?_;intro w3 hw3 fw3;replace ab:=ab.step hw3;replace k1:=k1.step hw3;refine aQ 0 1 2 25 (Zt ?_);refine Cd.aU rfl rfl ?_;refine aj ?_;refine Za ?_;refine aQ 0 1 2 25 (Zt (Cd.ret (ae.af ?_)));refine aZ ?_;exact⟨bt (aJ (by unfold cH;rw[decide_eq_false (show¬e.kind≤7 by omega),Bool.and_false];rfl)),ab⟩
 have hk:decide (1≤e.kind)=true∧decide (e.kind≤7)=true:=⟨decide_eq_true (by omega),decide_eq_true (by omega)⟩
 by_cases c3:iY e=lY e.kind
 ·have hne:(!decide (iY e=lY e.kind))=false:=by rw[decide_eq_true c3];rfl
  rw[hne] at hneq;refine ff 21 ?_;intro w2 hw2 zw2;replace ab:=ab.step hw2;replace k1:=k1.step hw2;have zbel:=ab.size;have zlt:=k1.lt;refine eV 0 Tryz.underlying29 ?_;refine dZ Tryz.underlying3 k1 ?_;refine Zd (fun w hG=>(aa.lss rfl rfl rfl).iC (by omega)) ?_;refine cf ?_;refine cn (fun w hG=>aa.ar 0 rfl rfl Tryz.underlying29 rfl (by kernel_rfl)) ?_;refine cn (fun w hG=>aa.au rfl rfl Tryz.underlying3 rfl (k1.step hG) rfl) ?_;refine cn (fun w hG=>(aa.gtr rfl rfl rfl).iC (by omega)) ?_;refine Zd (fun w hG=>aa.bq rfl rfl rfl) ?_;refine cf ?_;refine cn (fun w hG=>aa.eK rfl rfl Tryz.underlying29 rfl (k1.step hG) (m:=9) (by kernel_rfl) rfl) ?_;refine Dr.il rfl (fun w=>Ze Tryz.func34) rfl rfl rfl (fun w hG=>hbl w) ?_;refine cn (fun w hG=>aa.ar 0 rfl rfl Tryz.underlying29 rfl (by kernel_rfl)) ?_;refine cn (fun w hG=>aa.au rfl rfl Tryz.underlying3 rfl (k1.step hG) rfl) ?_;refine cn (fun w hG=>aa.build rfl rfl (nN _ w)) ?_;refine cn (fun w hG=>aa.bin rfl rfl rfl (uR _ _ _ _ _ w) (hneq w)) ?_;refine Zd (fun w hG=>aa.bq rfl rfl rfl) ?_;refine cf ?_;refine cn (fun w hG=>aa.eK rfl rfl Tryz.underlying29 rfl (k1.step hG) (m:=9) (by kernel_rfl) rfl) ?_;refine Dr.il rfl (fun w=>Ze Tryz.func35) rfl rfl rfl (fun w hG=>hnm w) ?_;refine cn (fun w hG=>aa.not rfl rfl) ?_;refine Zd (fun w hG=>aa.bq rfl rfl rfl) ?_;refine Dr.nil ?_;refine bb.done (F':=[(0,_),(1,_),(2,_),(25,_)]) rfl ⟨rfl,rfl,rfl,rfl,trivial⟩ ?_;intro w3 hw3 fw3;replace ab:=ab.step hw3;replace k1:=k1.step hw3;refine aQ 0 1 2 25 (Zt ?_);refine Cd.cond rfl (fun h4=> ?_) (fun h4=> ?_)
  ·skip
   refine aj ?_;refine Za ?_;refine aQ 0 1 2 25 (Zt (Cd.ret (ae.af ?_)));refine aZ ?_;have h4:m7 e=false:=by simpa using h4
   exact⟨bt (aJ (by unfold cH;rw[h4];simp)),ab⟩
  have h4:m7 e=true:=by simpa using h4
  refine Cd.skip (aI (aj ?_));refine Zf 0 Tryz.underlying29 ?_;refine ZL Tryz.underlying3 k1 ?_;refine bC ?_;refine aO 0 1 2 25 28 (Zt ?_);refine Cd.ak rfl (fun h5=> ?_) (fun h5=> ?_)
  ·skip
   refine aj ?_;refine Zf 4 Tryz.underlying29 ?_;refine ZL Tryz.underlying9 k1 ?_;refine Zc (Ze Tryz.func36) (hpr _) ?_;rintro en w8 ⟨hb8,v,S,rfl,hrep,hS⟩;obtain⟨A1,d1,A2,d2,hvX⟩:=hrep.form;subst hvX;refine⟨_,rfl,?_⟩;replace ab:=ab.step hb8;replace k1:=k1.step hb8;refine Zm ?_;refine Zx ?_;refine Zx ?_;refine Zl aG ?_;intro g3 w4 n3;have e3:=Nat.le_trans ab.size n3.ge;have l3:=Nat.lt_of_lt_of_le k1.lt n3.ge;replace ab:=ab.step n3.below;replace k1:=k1.step n3.below;have k3:=n3.an;refine Zo 4 k3 ?_;intro w5 pw5;replace ab:=ab.put k3 pw5 e3;replace k1:=k1.put pw5 (by omega);replace k3:=pw5.an;refine Za ?_;refine aY 0 1 2 4 25 28 (aB ?_);refine Zm ?_;refine mD ?_;refine ba 0 1 2 4 25 28 36 (Zt ?_);refine Cd.cond rfl (fun h6=> ?_) (fun h6=> ?_)
   ·skip
    refine aj ?_;refine Za ?_;refine ba 0 1 2 4 25 28 36 (Zt (Cd.ret (ae.af ?_)));refine aZ ?_;have h6:cN e.text=false:=by simpa using h6
    exact⟨bt (aJ (by unfold cH;rw[h6,decide_eq_false (show¬e.kind≠1 from fun h=>h h5)];simp)),ab⟩
   have h6:cN e.text=true:=by simpa using h6
   refine Cd.skip (aB ?_);refine Zf 5 Tryz.underlying29 ?_;refine ZL Tryz.underlying3 k1 ?_;refine Zc (Ze Tryz.func37) (hday _) ?_;rintro en w9 ⟨rfl,hb9⟩;refine⟨_,rfl,?_⟩;replace ab:=ab.step hb9;replace k1:=k1.step hb9;replace k3:=k3.step hb9;refine Zm ?_;refine aw.start ?_;refine bw (fun hcx=>aa.ar 6 rfl rfl Tryz.underlying29 rfl (by kernel_rfl)) ?_;refine Zn (fun hcx=>aa.au rfl rfl Tryz.underlying3 rfl k1 rfl) ?_;refine Zn (fun hcx=>aa.geq rfl rfl rfl) ?_;refine fQ ?_;refine Zm ?_;refine aw.start ?_;refine bw (fun hcx=>aa.ar 6 rfl rfl Tryz.underlying29 rfl (by kernel_rfl)) ?_;refine Zn (fun hcx=>aa.au rfl rfl Tryz.underlying3 rfl k1 rfl) ?_;refine Zn (fun hcx=>aa.lss rfl rfl rfl) ?_;refine fQ ?_;refine Zm ?_;refine aw.start ?_;refine bw (fun hcx=>aa.ar 7 rfl rfl Tryz.underlying29 rfl (by kernel_rfl)) ?_;refine Zn (fun hcx=>aa.au rfl rfl Tryz.underlying3 rfl k1 rfl) ?_;refine Zn (fun hcx=>aa.fh rfl rfl rfl) ?_;refine gq ?_;refine bw (fun hcx=>aa.ar 7 rfl rfl Tryz.underlying29 rfl (by kernel_rfl)) ?_;refine Zn (fun hcx=>aa.au rfl rfl Tryz.underlying3 rfl k1 rfl) ?_;refine Zn (fun hcx=>aa.fh rfl rfl rfl) ?_;refine aw.zm rfl rfl rfl rfl rfl rfl rfl rfl rfl rfl rfl ?_;refine fQ ?_;refine Za ?_;refine ba 0 1 2 4 25 28 36 (Zt (Cd.ret ?_));refine aZ ?_;refine⟨bt (aJ ?_),ab⟩;unfold cH;rw[hk.1,hk.2,decide_eq_true c3,h4,h6,Bool.or_true];simp[Bool.and_assoc]
  ·skip
   refine Cd.skip (aB ?_);refine Zf 5 Tryz.underlying29 ?_;refine ZL Tryz.underlying3 k1 ?_;refine Zc (Ze Tryz.func37) (hday _) ?_;rintro en w9 ⟨rfl,hb9⟩;refine⟨_,rfl,?_⟩;replace ab:=ab.step hb9;replace k1:=k1.step hb9;refine Zm ?_;refine aw.start ?_;refine bw (fun hcx=>aa.ar 6 rfl rfl Tryz.underlying29 rfl (by kernel_rfl)) ?_;refine Zn (fun hcx=>aa.au rfl rfl Tryz.underlying3 rfl k1 rfl) ?_;refine Zn (fun hcx=>aa.geq rfl rfl rfl) ?_;refine fQ ?_;refine Zm ?_;refine aw.start ?_;refine bw (fun hcx=>aa.ar 6 rfl rfl Tryz.underlying29 rfl (by kernel_rfl)) ?_;refine Zn (fun hcx=>aa.au rfl rfl Tryz.underlying3 rfl k1 rfl) ?_;refine Zn (fun hcx=>aa.lss rfl rfl rfl) ?_;refine fQ ?_;refine Zm ?_;refine aw.start ?_;refine bw (fun hcx=>aa.ar 7 rfl rfl Tryz.underlying29 rfl (by kernel_rfl)) ?_;refine Zn (fun hcx=>aa.au rfl rfl Tryz.underlying3 rfl k1 rfl) ?_;refine Zn (fun hcx=>aa.fh rfl rfl rfl) ?_;refine gq ?_;refine bw (fun hcx=>aa.ar 7 rfl rfl Tryz.underlying29 rfl (by kernel_rfl)) ?_;refine Zn (fun hcx=>aa.au rfl rfl Tryz.underlying3 rfl k1 rfl) ?_;refine Zn (fun hcx=>aa.fh rfl rfl rfl) ?_;refine aw.zm rfl rfl rfl rfl rfl rfl rfl rfl rfl rfl rfl ?_;refine fQ ?_;refine Za ?_;refine aO 0 1 2 25 28 (Zt (Cd.ret ?_));refine aZ ?_;refine⟨bt (aJ ?_),ab⟩;unfold cH;rw[hk.1,hk.2,decide_eq_true c3,h4,decide_eq_true h5,Bool.true_or];simp[Bool.and_assoc]
 ·have hne:(!decide (iY e=lY e.kind))=true:=by rw[decide_eq_false c3];rfl
  rw[hne] at hneq;refine ff 21 ?_;intro w2 hw2 zw2;replace ab:=ab.step hw2;replace k1:=k1.step hw2;have zbel:=ab.size;have zlt:=k1.lt;refine eV 0 Tryz.underlying29 ?_;refine dZ Tryz.underlying3 k1 ?_;refine Zd (fun w hG=>(aa.lss rfl rfl rfl).iC (by omega)) ?_;refine cf ?_;refine cn (fun w hG=>aa.ar 0 rfl rfl Tryz.underlying29 rfl (by kernel_rfl)) ?_;refine cn (fun w hG=>aa.au rfl rfl Tryz.underlying3 rfl (k1.step hG) rfl) ?_;refine cn (fun w hG=>(aa.gtr rfl rfl rfl).iC (by omega)) ?_;refine Zd (fun w hG=>aa.bq rfl rfl rfl) ?_;refine cf ?_;refine cn (fun w hG=>aa.eK rfl rfl Tryz.underlying29 rfl (k1.step hG) (m:=9) (by kernel_rfl) rfl) ?_;refine Dr.il rfl (fun w=>Ze Tryz.func34) rfl rfl rfl (fun w hG=>hbl w) ?_;refine cn (fun w hG=>aa.ar 0 rfl rfl Tryz.underlying29 rfl (by kernel_rfl)) ?_;refine cn (fun w hG=>aa.au rfl rfl Tryz.underlying3 rfl (k1.step hG) rfl) ?_;refine cn (fun w hG=>aa.build rfl rfl (nN _ w)) ?_;refine cn (fun w hG=>aa.bin rfl rfl rfl (uR _ _ _ _ _ w) (hneq w)) ?_;refine Zd (fun w hG=>aa.bq rfl rfl rfl) ?_;refine cf ?_;refine dm ?_;refine dm ?_;refine dm ?_;refine Zd (fun w hG=>aa.cQ rfl rfl rfl) ?_;refine Dr.nil ?_;refine bb.done (F':=[(0,_),(1,_),(2,_),(25,_)]) rfl ⟨rfl,rfl,rfl,rfl,trivial⟩ ?_;intro w3 hw3 fw3;replace ab:=ab.step hw3;replace k1:=k1.step hw3;refine aQ 0 1 2 25 (Zt ?_);refine Cd.aU rfl rfl ?_;refine aj ?_;refine Za ?_;refine aQ 0 1 2 25 (Zt (Cd.ret (ae.af ?_)));refine aZ ?_;exact⟨bt (aJ (by unfold cH;rw[decide_eq_false c3];simp)),ab⟩
def xU:Nat→List Nat
 |1=>[105,97,98,116,100]
 |2=>[100]
 |3=>[97,100,110]
 |4=>[105,97,119]
 |5=>[105,97,98]
 |6=>[105,97]
 |7=>[105]
 |_=>[]
def uz (e:Ev)(s:List Nat):Bool:=
 !((decide (decide (105∈s)≠decide (e.id≠ []))||decide (decide (97∈s)≠decide (e.a≠ []))||decide (decide (98∈s)≠decide (e.b≠ []))||decide (decide (116∈s)≠decide (e.text≠ []))))&&
 (!((decide (105∈s)&& !cS e.id)||(decide (97∈s)&& !cS e.a)||(decide (98∈s)&&(!cS e.b||decide (e.a=e.b))))&&
 (!(decide (116∈s)&& !cN e.text)&&
 (!((decide (e.day<0)||decide (2932896<e.day))||(!decide (100∈s)&&decide (e.day≠0))||(!decide (110∈s)&&decide (e.n≠0)))&&
 (if decide (119∈s)=true then decide (0≤e.at_)&&decide (e.at_≤199)&&(decide (e.ec=0)||decide (e.ec=1)) else decide (e.at_=0)&&decide (e.ec=0)))))
theorem rn {l:List Nat}(h:cS l=true):l≠ []:=fun h0=>by rw[h0] at h;exact absurd h (by decide)
theorem wI {l:List Nat}(h:cN l=true):l≠ []:=fun h0=>by
 rw[h0] at h;exact absurd h (by decide+kernel)
theorem Dl (e:Ev){k:Nat}(hk:e.kind=(k:Int))(h1:1≤k)(h7:k≤7):uz e (xU k)=cH e:=by
 have hid:=fun h=>rn (l:=e.id) h;have ha:=fun h=>rn (l:=e.a) h;have hb:=fun h=>rn (l:=e.b) h;have ht:=fun h=>wI (l:=e.text) h;obtain⟨kd,id,a,b,text,day,at_,ec,n⟩:=e;dsimp only at *;subst hk;have hk:k=1∨k=2∨k=3∨k=4∨k=5∨k=6∨k=7:=by omega
 rw[Bool.eq_iff_iff];rcases hk with rfl|rfl|rfl|rfl|rfl|rfl|rfl<;>simp[uz,cH,iY,lY,m7,xU]<;>grind
theorem B5 (k:Nat):(∀x∈xU k,x<256)∧(xU k).length≤1000:=by
 unfold xU;split<;>exact⟨by decide,by decide⟩
theorem zO {k:Nat}(h1:1≤k)(h7:k≤7):(#[.string {data:= #[]}, .string {data:= #[105,97,98,116,100]}, .string {data:= #[100]}, .string {data:= #[97,100,110]}, .string {data:= #[105,97,119]}, .string {data:= #[105,97,98]}, .string {data:= #[105,97]}, .string {data:= #[105]}]:Array Value)[k]? =some (.string (strOf (xU k))):=by
 have hk:k=1∨k=2∨k=3∨k=4∨k=5∨k=6∨k=7:=by omega
 rcases hk with rfl|rfl|rfl|rfl|rfl|rfl|rfl<;>rfl
set_option maxHeartbeats 2000000 in
theorem u5 (e:Ev)(he:e.AS)(w:World):Calls Tryz.prog 11 #[e.v] w fun en w'=>en= .returned (.bool (cH e))∧Grow w w':=by
 have ab:=Below.refl w.heap.size w;have hn0:∀x∈([]:List Nat),x<256:=fun x h=>by cases h
 have nm1:=fun W=>iI e.id W he.id he.Gf;have nm2:=fun W=>iI e.a W he.a he.la;have nm3:=fun W=>iI e.b W he.b he.lb;have hpr:=fun W=>rP e.text W he.text he.yC;have a1:=he.id;have a2:=he.a;have a3:=he.b;have a4:=he.text;have hkI:=he.kind;have hdom:1≤e.kind→e.kind≤7→∃k:Nat,e.kind=(k:Int)∧1≤k∧k≤7:=fun h1 h2=>⟨e.kind.toNat,by omega,by omega,by omega⟩
 have hout:¬(1≤e.kind∧e.kind≤7)→cH e=false:=fun h=>by
  unfold cH
  by_cases h1:1≤e.kind
  ·rw[decide_eq_false (show¬e.kind≤7 from fun h2=>h ⟨h1,h2⟩)];simp
  ·rw[decide_eq_false h1];simp
 have hres:= @Dl e;obtain⟨R,hR⟩:∃R,cH e=R:=⟨_,rfl⟩;rw[hR] at hout hres⊢;unfold Ev.v;refine Zs 153 Tryz.func11 ?_;refine aj ?_;refine Seq.box rfl rfl rfl rfl rfl ?_;intro g1 w1 n1;have e1:=Nat.le_trans ab.size n1.ge;replace ab:=ab.step n1.below;have k1:=n1.an;refine Za ?_;refine bn 0 1 2 (aB ?_);refine Seq.slice (vs:=[_,_,_,_,_,_,_,_]) (s:=1) rfl rfl rfl Tryz.underlying66 (by kernel_rfl) (bh) (by omega) (by omega) ⟨rfl,rfl,rfl,rfl,rfl,rfl,rfl,rfl,trivial⟩ rfl rfl rfl ?_;intro g7 w2 n7;have e7:=Nat.le_trans ab.size n7.ge;have l7:=Nat.lt_of_lt_of_le k1.lt n7.ge;replace ab:=ab.step n7.below;replace k1:=k1.step n7.below;have k7:=n7.an;refine Za ?_;refine aQ 0 1 2 3 (aI (aj ?_));refine Zf 0 Tryz.underlying23 ?_;refine ZL Tryz.underlying3 k1 ?_;refine eI ?_;refine Zm ?_;refine aw.start ?_;refine bw (fun hcx=>aa.ar 0 rfl rfl Tryz.underlying23 rfl (by kernel_rfl)) ?_;refine Zn (fun hcx=>aa.au rfl rfl Tryz.underlying3 rfl k1 rfl) ?_;refine Zn (fun hcx=>aa.gtr rfl rfl rfl) ?_;refine fg ?_;refine aO 0 1 2 3 15 (Zt ?_);refine Cd.cond rfl (fun h=> ?_) (fun h=> ?_)
 ·skip
  refine aj ?_;refine Za ?_;refine aO 0 1 2 3 15 (Zt (Cd.ret (ae.af ?_)));refine aZ ?_;exact⟨bt (aJ (hout (by simp at h;omega)).symm),ab⟩
 obtain⟨k,hk,hk1,hk7⟩:=hdom (by simp at h;omega) (by simp at h;omega);have hres:=hres hk hk1 hk7;have hcell:=zO hk1 hk7;obtain⟨hsb,hsl⟩:=B5 k;obtain⟨s,hs⟩:∃s,xU k=s:=⟨_,rfl⟩;rw[hs] at hres hcell hsb hsl;have hin:=fun(c:Nat) (hc:c<256) W=>CJ s c W hsb hsl hc;have h105:=hin 105 (by decide);have h97:=hin 97 (by decide);have h98:=hin 98 (by decide);have h116:=hin 116 (by decide);have h100:=hin 100 (by decide);have h110:=hin 110 (by decide);have h119:=hin 119 (by decide);clear hin hout hdom;refine Cd.skip (aB ?_);refine Zm ?_;refine Zf 0 Tryz.underlying23 ?_;refine ZL Tryz.underlying3 k1 ?_;refine Zv (aa.dS rfl rfl rfl Tryz.underlying66 (by kernel_rfl) (j:=k) hk (by omega)) ?_;refine Zv (aa.au rfl rfl Tryz.underlying9 rfl k7 hcell) ?_;refine Za ?_;refine aY 0 1 2 3 4 15 (aI (Cd.seq ?_))
 by_cases x1:decide (105∈s)≠decide (e.id≠ [])
 ·skip
  refine ff 30 ?_;intro w3 hw3 zw3;replace ab:=ab.step hw3;replace k1:=k1.step hw3;have zbel:=ab.size;have zlt:=k1.lt;refine cf ?_;refine Dr.cJ rfl (fun w=>Ze Tryz.func27) rfl (fun w hG=>h105 w) ?_;refine eV 1 Tryz.underlying23 ?_;refine dZ Tryz.underlying9 k1 ?_;refine Zd (fun w hG=>aa.fT (a:=e.id) (b:=[]) rfl rfl rfl a1 hn0) ?_;refine Zd (fun w hG=>(aa.j7 rfl rfl rfl Tryz.underlying4).lK (x1)) ?_;refine cf ?_;refine dm ?_;refine dm ?_;refine dm ?_;refine dm ?_;refine dm ?_;refine dm ?_;refine Zd (fun w hG=>aa.cQ rfl rfl rfl) ?_;refine cf ?_;refine dm ?_;refine dm ?_;refine dm ?_;refine dm ?_;refine dm ?_;refine dm ?_;refine Zd (fun w hG=>aa.cQ rfl rfl rfl) ?_;refine cf ?_;refine dm ?_;refine dm ?_;refine dm ?_;refine dm ?_;refine dm ?_;refine dm ?_;refine Zd (fun w hG=>aa.cQ rfl rfl rfl) ?_;refine Dr.nil ?_;refine bb.done (F':=[(0,_),(1,_),(2,_),(3,_),(4,_),(15,_),(50,_)]) rfl ⟨rfl,rfl,rfl,rfl,rfl,rfl,rfl,trivial⟩ ?_;intro w4 hw4 fw4;replace ab:=ab.step hw4;replace k1:=k1.step hw4;refine ba 0 1 2 3 4 15 50 (Zt ?_);refine Cd.aU rfl rfl ?_;refine aj ?_;refine Za ?_;refine ba 0 1 2 3 4 15 50 (Zt (Cd.ret (ae.af ?_)));refine aZ ?_;exact⟨bt (aJ (by rw[←hres];unfold uz;rw[decide_eq_true x1];simp)),ab⟩
 by_cases x2:decide (97∈s)≠decide (e.a≠ [])
 ·skip
  refine ff 30 ?_;intro w3 hw3 zw3;replace ab:=ab.step hw3;replace k1:=k1.step hw3;have zbel:=ab.size;have zlt:=k1.lt;refine cf ?_;refine Dr.cJ rfl (fun w=>Ze Tryz.func27) rfl (fun w hG=>h105 w) ?_;refine eV 1 Tryz.underlying23 ?_;refine dZ Tryz.underlying9 k1 ?_;refine Zd (fun w hG=>aa.fT (a:=e.id) (b:=[]) rfl rfl rfl a1 hn0) ?_;refine Zd (fun w hG=>(aa.j7 rfl rfl rfl Tryz.underlying4).iC (x1)) ?_;refine cf ?_;refine cn (fun w hG=>aa.move rfl rfl) ?_;refine Dr.il rfl (fun w=>Ze Tryz.func27) rfl rfl rfl (fun w hG=>h97 w) ?_;refine cn (fun w hG=>aa.ar 2 rfl rfl Tryz.underlying23 rfl (by kernel_rfl)) ?_;refine cn (fun w hG=>aa.au rfl rfl Tryz.underlying9 rfl (k1.step hG) rfl) ?_;refine cn (fun w hG=>aa.fT (a:=e.a) (b:=[]) rfl rfl rfl a2 hn0) ?_;refine cn (fun w hG=>(aa.j7 rfl rfl rfl Tryz.underlying4).lK (x2)) ?_;refine Zd (fun w hG=>aa.bq rfl rfl rfl) ?_;refine cf ?_;refine dm ?_;refine dm ?_;refine dm ?_;refine dm ?_;refine dm ?_;refine dm ?_;refine Zd (fun w hG=>aa.cQ rfl rfl rfl) ?_;refine cf ?_;refine dm ?_;refine dm ?_;refine dm ?_;refine dm ?_;refine dm ?_;refine dm ?_;refine Zd (fun w hG=>aa.cQ rfl rfl rfl) ?_;refine Dr.nil ?_;refine bb.done (F':=[(0,_),(1,_),(2,_),(3,_),(4,_),(15,_),(50,_)]) rfl ⟨rfl,rfl,rfl,rfl,rfl,rfl,rfl,trivial⟩ ?_;intro w4 hw4 fw4;replace ab:=ab.step hw4;replace k1:=k1.step hw4;refine ba 0 1 2 3 4 15 50 (Zt ?_);refine Cd.aU rfl rfl ?_;refine aj ?_;refine Za ?_;refine ba 0 1 2 3 4 15 50 (Zt (Cd.ret (ae.af ?_)));refine aZ ?_;exact⟨bt (aJ (by rw[←hres];unfold uz;rw[decide_eq_true x2];simp)),ab⟩
 by_cases x3:decide (98∈s)≠decide (e.b≠ [])
 ·skip
  refine ff 30 ?_;intro w3 hw3 zw3;replace ab:=ab.step hw3;replace k1:=k1.step hw3;have zbel:=ab.size;have zlt:=k1.lt;refine cf ?_;refine Dr.cJ rfl (fun w=>Ze Tryz.func27) rfl (fun w hG=>h105 w) ?_;refine eV 1 Tryz.underlying23 ?_;refine dZ Tryz.underlying9 k1 ?_;refine Zd (fun w hG=>aa.fT (a:=e.id) (b:=[]) rfl rfl rfl a1 hn0) ?_;refine Zd (fun w hG=>(aa.j7 rfl rfl rfl Tryz.underlying4).iC (x1)) ?_;refine cf ?_;refine cn (fun w hG=>aa.move rfl rfl) ?_;refine Dr.il rfl (fun w=>Ze Tryz.func27) rfl rfl rfl (fun w hG=>h97 w) ?_;refine cn (fun w hG=>aa.ar 2 rfl rfl Tryz.underlying23 rfl (by kernel_rfl)) ?_;refine cn (fun w hG=>aa.au rfl rfl Tryz.underlying9 rfl (k1.step hG) rfl) ?_;refine cn (fun w hG=>aa.fT (a:=e.a) (b:=[]) rfl rfl rfl a2 hn0) ?_;refine cn (fun w hG=>(aa.j7 rfl rfl rfl Tryz.underlying4).iC (x2)) ?_;refine Zd (fun w hG=>aa.bq rfl rfl rfl) ?_;refine cf ?_;refine cn (fun w hG=>aa.move rfl rfl) ?_;refine Dr.il rfl (fun w=>Ze Tryz.func27) rfl rfl rfl (fun w hG=>h98 w) ?_;refine cn (fun w hG=>aa.ar 3 rfl rfl Tryz.underlying23 rfl (by kernel_rfl)) ?_;refine cn (fun w hG=>aa.au rfl rfl Tryz.underlying9 rfl (k1.step hG) rfl) ?_;refine cn (fun w hG=>aa.fT (a:=e.b) (b:=[]) rfl rfl rfl a3 hn0) ?_;refine cn (fun w hG=>(aa.j7 rfl rfl rfl Tryz.underlying4).lK (x3)) ?_;refine Zd (fun w hG=>aa.bq rfl rfl rfl) ?_;refine cf ?_;refine dm ?_;refine dm ?_;refine dm ?_;refine dm ?_;refine dm ?_;refine dm ?_;refine Zd (fun w hG=>aa.cQ rfl rfl rfl) ?_;refine Dr.nil ?_;refine bb.done (F':=[(0,_),(1,_),(2,_),(3,_),(4,_),(15,_),(50,_)]) rfl ⟨rfl,rfl,rfl,rfl,rfl,rfl,rfl,trivial⟩ ?_;intro w4 hw4 fw4;replace ab:=ab.step hw4;replace k1:=k1.step hw4;refine ba 0 1 2 3 4 15 50 (Zt ?_);refine Cd.aU rfl rfl ?_;refine aj ?_;refine Za ?_;refine ba 0 1 2 3 4 15 50 (Zt (Cd.ret (ae.af ?_)));refine aZ ?_;exact⟨bt (aJ (by rw[←hres];unfold uz;rw[decide_eq_true x3];simp)),ab⟩
 by_cases x4:decide (116∈s)≠decide (e.text≠ [])
 ·skip
  refine ff 30 ?_;intro w3 hw3 zw3;replace ab:=ab.step hw3;replace k1:=k1.step hw3;have zbel:=ab.size;have zlt:=k1.lt;refine cf ?_;refine Dr.cJ rfl (fun w=>Ze Tryz.func27) rfl (fun w hG=>h105 w) ?_;refine eV 1 Tryz.underlying23 ?_;refine dZ Tryz.underlying9 k1 ?_;refine Zd (fun w hG=>aa.fT (a:=e.id) (b:=[]) rfl rfl rfl a1 hn0) ?_;refine Zd (fun w hG=>(aa.j7 rfl rfl rfl Tryz.underlying4).iC (x1)) ?_;refine cf ?_;refine cn (fun w hG=>aa.move rfl rfl) ?_;refine Dr.il rfl (fun w=>Ze Tryz.func27) rfl rfl rfl (fun w hG=>h97 w) ?_;refine cn (fun w hG=>aa.ar 2 rfl rfl Tryz.underlying23 rfl (by kernel_rfl)) ?_;refine cn (fun w hG=>aa.au rfl rfl Tryz.underlying9 rfl (k1.step hG) rfl) ?_;refine cn (fun w hG=>aa.fT (a:=e.a) (b:=[]) rfl rfl rfl a2 hn0) ?_;refine cn (fun w hG=>(aa.j7 rfl rfl rfl Tryz.underlying4).iC (x2)) ?_;refine Zd (fun w hG=>aa.bq rfl rfl rfl) ?_;refine cf ?_;refine cn (fun w hG=>aa.move rfl rfl) ?_;refine Dr.il rfl (fun w=>Ze Tryz.func27) rfl rfl rfl (fun w hG=>h98 w) ?_;refine cn (fun w hG=>aa.ar 3 rfl rfl Tryz.underlying23 rfl (by kernel_rfl)) ?_;refine cn (fun w hG=>aa.au rfl rfl Tryz.underlying9 rfl (k1.step hG) rfl) ?_;refine cn (fun w hG=>aa.fT (a:=e.b) (b:=[]) rfl rfl rfl a3 hn0) ?_;refine cn (fun w hG=>(aa.j7 rfl rfl rfl Tryz.underlying4).iC (x3)) ?_;refine Zd (fun w hG=>aa.bq rfl rfl rfl) ?_;refine cf ?_;refine cn (fun w hG=>aa.move rfl rfl) ?_;refine Dr.il rfl (fun w=>Ze Tryz.func27) rfl rfl rfl (fun w hG=>h116 w) ?_;refine cn (fun w hG=>aa.ar 4 rfl rfl Tryz.underlying23 rfl (by kernel_rfl)) ?_;refine cn (fun w hG=>aa.au rfl rfl Tryz.underlying9 rfl (k1.step hG) rfl) ?_;refine cn (fun w hG=>aa.fT (a:=e.text) (b:=[]) rfl rfl rfl a4 hn0) ?_;refine cn (fun w hG=>(aa.j7 rfl rfl rfl Tryz.underlying4).lK (x4)) ?_;refine Zd (fun w hG=>aa.bq rfl rfl rfl) ?_;refine Dr.nil ?_;refine bb.done (F':=[(0,_),(1,_),(2,_),(3,_),(4,_),(15,_),(50,_)]) rfl ⟨rfl,rfl,rfl,rfl,rfl,rfl,rfl,trivial⟩ ?_;intro w4 hw4 fw4;replace ab:=ab.step hw4;replace k1:=k1.step hw4;refine ba 0 1 2 3 4 15 50 (Zt ?_);refine Cd.aU rfl rfl ?_;refine aj ?_;refine Za ?_;refine ba 0 1 2 3 4 15 50 (Zt (Cd.ret (ae.af ?_)));refine aZ ?_;exact⟨bt (aJ (by rw[←hres];unfold uz;rw[decide_eq_true x4];simp)),ab⟩
 refine ff 30 ?_;intro w3 hw3 zw3;replace ab:=ab.step hw3;replace k1:=k1.step hw3;have zbel:=ab.size;have zlt:=k1.lt;refine cf ?_;refine Dr.cJ rfl (fun w=>Ze Tryz.func27) rfl (fun w hG=>h105 w) ?_;refine eV 1 Tryz.underlying23 ?_;refine dZ Tryz.underlying9 k1 ?_;refine Zd (fun w hG=>aa.fT (a:=e.id) (b:=[]) rfl rfl rfl a1 hn0) ?_;refine Zd (fun w hG=>(aa.j7 rfl rfl rfl Tryz.underlying4).iC (x1)) ?_;refine cf ?_;refine cn (fun w hG=>aa.move rfl rfl) ?_;refine Dr.il rfl (fun w=>Ze Tryz.func27) rfl rfl rfl (fun w hG=>h97 w) ?_;refine cn (fun w hG=>aa.ar 2 rfl rfl Tryz.underlying23 rfl (by kernel_rfl)) ?_;refine cn (fun w hG=>aa.au rfl rfl Tryz.underlying9 rfl (k1.step hG) rfl) ?_;refine cn (fun w hG=>aa.fT (a:=e.a) (b:=[]) rfl rfl rfl a2 hn0) ?_;refine cn (fun w hG=>(aa.j7 rfl rfl rfl Tryz.underlying4).iC (x2)) ?_;refine Zd (fun w hG=>aa.bq rfl rfl rfl) ?_;refine cf ?_;refine cn (fun w hG=>aa.move rfl rfl) ?_;refine Dr.il rfl (fun w=>Ze Tryz.func27) rfl rfl rfl (fun w hG=>h98 w) ?_;refine cn (fun w hG=>aa.ar 3 rfl rfl Tryz.underlying23 rfl (by kernel_rfl)) ?_;refine cn (fun w hG=>aa.au rfl rfl Tryz.underlying9 rfl (k1.step hG) rfl) ?_;refine cn (fun w hG=>aa.fT (a:=e.b) (b:=[]) rfl rfl rfl a3 hn0) ?_;refine cn (fun w hG=>(aa.j7 rfl rfl rfl Tryz.underlying4).iC (x3)) ?_;refine Zd (fun w hG=>aa.bq rfl rfl rfl) ?_;refine cf ?_;refine cn (fun w hG=>aa.move rfl rfl) ?_;refine Dr.il rfl (fun w=>Ze Tryz.func27) rfl rfl rfl (fun w hG=>h116 w) ?_;refine cn (fun w hG=>aa.ar 4 rfl rfl Tryz.underlying23 rfl (by kernel_rfl)) ?_;refine cn (fun w hG=>aa.au rfl rfl Tryz.underlying9 rfl (k1.step hG) rfl) ?_;refine cn (fun w hG=>aa.fT (a:=e.text) (b:=[]) rfl rfl rfl a4 hn0) ?_;refine cn (fun w hG=>(aa.j7 rfl rfl rfl Tryz.underlying4).iC (x4)) ?_;refine Zd (fun w hG=>aa.bq rfl rfl rfl) ?_;refine Dr.nil ?_;refine bb.done (F':=[(0,_),(1,_),(2,_),(3,_),(4,_),(15,_),(50,_)]) rfl ⟨rfl,rfl,rfl,rfl,rfl,rfl,rfl,trivial⟩ ?_;intro w4 hw4 fw4;replace ab:=ab.step hw4;replace k1:=k1.step hw4;refine ba 0 1 2 3 4 15 50 (Zt ?_);refine Cd.aM rfl rfl ?_;rw[show uz e s=_ from by unfold uz;rw[decide_eq_false x1,decide_eq_false x2,decide_eq_false x3,decide_eq_false x4]] at hres;clear x1 x2 x3 x4;refine Cd.skip (aI (aj ?_));refine Zm ?_;refine Zc (Ze Tryz.func27) (h105 _) ?_;rintro en w9 ⟨rfl,hb9⟩;refine⟨_,rfl,?_⟩;replace ab:=ab.step hb9;replace k1:=k1.step hb9;refine Zm ?_;refine aw.start ?_;refine bw (fun hcx=>aa.ar 1 rfl rfl Tryz.underlying23 rfl (by kernel_rfl)) ?_;refine Zn (fun hcx=>aa.au rfl rfl Tryz.underlying9 rfl k1 rfl) ?_;refine aw.bU rfl rfl rfl rfl rfl rfl rfl (fun hcx=>Ze Tryz.func28) (fun hcx=>nm1 _) ?_;intro w5 hw5;replace ab:=ab.step hw5;replace k1:=k1.step hw5;refine Zn (fun hcx=>aa.not rfl rfl) ?_;refine fQ ?_;refine Zm ?_;refine aw.start ?_;refine bw (fun hcx=>aa.move rfl rfl) ?_;refine aw.bU rfl rfl rfl rfl rfl rfl rfl (fun hcx=>Ze Tryz.func27) (fun hcx=>h97 _) ?_;intro w6 hw6;replace ab:=ab.step hw6;replace k1:=k1.step hw6;refine gq ?_;refine bw (fun hcx=>aa.ar 2 rfl rfl Tryz.underlying23 rfl (by kernel_rfl)) ?_;refine Zn (fun hcx=>aa.au rfl rfl Tryz.underlying9 rfl k1 rfl) ?_;refine aw.bU rfl rfl rfl rfl rfl rfl rfl (fun hcx=>Ze Tryz.func28) (fun hcx=>nm2 _) ?_;intro w7 hw7;replace ab:=ab.step hw7;replace k1:=k1.step hw7;refine Zn (fun hcx=>aa.not rfl rfl) ?_;refine aw.mF rfl rfl rfl rfl rfl rfl rfl rfl rfl rfl rfl ?_;refine fg ?_;refine Zm ?_;refine aw.start ?_;refine bw (fun hcx=>aa.move rfl rfl) ?_;refine aw.bU rfl rfl rfl rfl rfl rfl rfl (fun hcx=>Ze Tryz.func27) (fun hcx=>h98 _) ?_;intro w8 hw8;replace ab:=ab.step hw8;replace k1:=k1.step hw8;refine gq ?_;refine bw (fun hcx=>aa.ar 3 rfl rfl Tryz.underlying23 rfl (by kernel_rfl)) ?_;refine Zn (fun hcx=>aa.au rfl rfl Tryz.underlying9 rfl k1 rfl) ?_;refine aw.bU rfl rfl rfl rfl rfl rfl rfl (fun hcx=>Ze Tryz.func28) (fun hcx=>nm3 _) ?_;intro w9 hw9;replace ab:=ab.step hw9;replace k1:=k1.step hw9;refine Zn (fun hcx=>aa.not rfl rfl) ?_;refine gq ?_;refine bw (fun hcx=>aa.ar 2 rfl rfl Tryz.underlying23 rfl (by kernel_rfl)) ?_;refine Zn (fun hcx=>aa.au rfl rfl Tryz.underlying9 rfl k1 rfl) ?_;refine Zn (fun hcx=>aa.ar 3 rfl rfl Tryz.underlying23 rfl (by kernel_rfl)) ?_;refine Zn (fun hcx=>aa.au rfl rfl Tryz.underlying9 rfl k1 rfl) ?_;refine Zn (fun hcx=>aa.cI (a:=e.a) (b:=e.b) rfl rfl rfl a2 a3) ?_;refine aw.zm rfl rfl rfl rfl rfl rfl rfl rfl rfl rfl rfl ?_;refine aw.mF rfl rfl rfl rfl rfl rfl rfl rfl rfl rfl rfl ?_;refine fg ?_;refine cB 0 1 2 3 4 15 50 85 (Zt ?_);obtain⟨B1,hB1⟩:∃B1,((decide (105∈s)&& !cS e.id)||(decide (97∈s)&& !cS e.a)||(decide (98∈s)&&(!cS e.b||decide (e.a=e.b))))=B1:=⟨_,rfl⟩;rw[hB1] at hres;refine Cd.cond rfl (fun c1=> ?_) (fun c1=> ?_)
 ·skip
  refine aj ?_;refine Za ?_;refine cB 0 1 2 3 4 15 50 85 (Zt (Cd.ret (ae.af ?_)));refine aZ ?_;have c1:B1=true:=by rw[←hB1];simpa using c1
  exact⟨bt (aJ (by rw[←hres,c1];simp)),ab⟩
 have c1:B1=false:=by rw[←hB1];simpa using c1
 rw[c1] at hres;refine Cd.skip (Zt ?_);refine Cd.lB (σ:=Unit) (fun _=>[(1, .pointer (some ⟨g1,0,none⟩)),(4, .string (strOf s))]) (fun _ wr=>Below w.heap.size w wr∧aH wr g1 23 #[.int .i64 e.kind, .string (strOf e.id), .string (strOf e.a), .string (strOf e.b), .string (strOf e.text), .int .i64 e.day, .int .i64 e.at_, .int .i64 e.ec, .int .i64 e.n]∧(decide (116∈s)&& !cN e.text)=false) ?_ ?_
 ·skip
  refine aj ?_;refine Zm ?_;refine Zc (Ze Tryz.func27) (h116 _) ?_;rintro en w10 ⟨rfl,hb10⟩;refine⟨_,rfl,?_⟩;replace ab:=ab.step hb10;replace k1:=k1.step hb10;refine dY 0 1 2 3 4 15 50 85 87 (Zt ?_);refine Cd.cond rfl (fun c2=> ?_) (fun c2=> ?_)
  ·skip
   refine aj ?_;refine Zf 4 Tryz.underlying23 ?_;refine ZL Tryz.underlying9 k1 ?_;refine Zc (Ze Tryz.func29) (hpr _) ?_;rintro en w11 ⟨hb11,v,S,rfl,hrep,hS⟩;obtain⟨A1,d1,A2,d2,hvX⟩:=hrep.form;refine⟨_,rfl,?_⟩;replace ab:=ab.step hb11;replace k1:=k1.step hb11;rw[hvX];refine Zm ?_;refine Zx ?_;refine Zx ?_;refine Zl aG ?_;intro g5 w10 n5;have e5:=Nat.le_trans ab.size n5.ge;have l5:=Nat.lt_of_lt_of_le k1.lt n5.ge;replace ab:=ab.step n5.below;replace k1:=k1.step n5.below;have k5:=n5.an;refine Zo 4 k5 ?_;intro w11 pw11;replace ab:=ab.put k5 pw11 e5;replace k1:=k1.put pw11 (by omega);replace k5:=pw11.an;refine Za ?_;refine dq 0 1 2 3 4 6 15 50 85 87 (aB ?_);refine Zm ?_;refine mD ?_;refine dv 0 1 2 3 4 6 15 50 85 87 95 (Zt ?_);refine Cd.cond rfl (fun c3=> ?_) (fun c3=> ?_)
   ·skip
    refine aj ?_;refine Za ?_;refine dv 0 1 2 3 4 6 15 50 85 87 95 (Zt (Cd.ret (ae.af ?_)));refine aZ ?_;have c3:cN e.text=false:=by simpa using c3
    exact⟨bt (aJ (by rw[←hres,c2,c3];simp)),ab⟩
   ·skip
    refine Cd.skip ?_;have c3:cN e.text=true:=by simpa using c3
    exact ae.join () ⟨rfl,rfl,trivial⟩ ⟨ab,k1,by rw[c3];simp⟩
  ·skip
   refine Cd.skip ?_;exact ae.join () ⟨rfl,rfl,trivial⟩ ⟨ab,k1,by rw[c2];rfl⟩
 clear ab k1;rintro u wj ⟨ab,k1,c3⟩;rw[c3] at hres;refine Cd.seq (aj ?_);refine Zf 5 Tryz.underlying23 ?_;refine ZL Tryz.underlying3 k1 ?_;refine eI ?_;refine Zm ?_;refine aw.start ?_;refine bw (fun hcx=>aa.ar 5 rfl rfl Tryz.underlying23 rfl (by kernel_rfl)) ?_;refine Zn (fun hcx=>aa.au rfl rfl Tryz.underlying3 rfl k1 rfl) ?_;refine Zn (fun hcx=>aa.gtr rfl rfl rfl) ?_;refine fg ?_;refine Zm ?_;refine aw.start ?_;refine bw (fun hcx=>aa.move rfl rfl) ?_;refine aw.bU rfl rfl rfl rfl rfl rfl rfl (fun hcx=>Ze Tryz.func27) (fun hcx=>h100 _) ?_;intro w10 hw10;replace ab:=ab.step hw10;replace k1:=k1.step hw10;refine Zn (fun hcx=>aa.not rfl rfl) ?_;refine gq ?_;refine bw (fun hcx=>aa.ar 5 rfl rfl Tryz.underlying23 rfl (by kernel_rfl)) ?_;refine Zn (fun hcx=>aa.au rfl rfl Tryz.underlying3 rfl k1 rfl) ?_;refine Zn (fun hcx=>aa.cW rfl rfl rfl) ?_;refine aw.mF rfl rfl rfl rfl rfl rfl rfl rfl rfl rfl rfl ?_;refine fg ?_;refine Zm ?_;refine aw.start ?_;refine bw (fun hcx=>aa.move rfl rfl) ?_;refine aw.bU rfl rfl rfl rfl rfl rfl rfl (fun hcx=>Ze Tryz.func27) (fun hcx=>h110 _) ?_;intro w11 hw11;replace ab:=ab.step hw11;replace k1:=k1.step hw11;refine Zn (fun hcx=>aa.not rfl rfl) ?_;refine gq ?_;refine bw (fun hcx=>aa.ar 8 rfl rfl Tryz.underlying23 rfl (by kernel_rfl)) ?_;refine Zn (fun hcx=>aa.au rfl rfl Tryz.underlying2 rfl k1 rfl) ?_;refine Zn (fun hcx=>aa.cW rfl rfl rfl) ?_;refine aw.mF rfl rfl rfl rfl rfl rfl rfl rfl rfl rfl rfl ?_;refine fg ?_;refine bn 1 4 123 (Zt ?_);obtain⟨B2,hB2⟩:∃B2,((decide (e.day<0)||decide (2932896<e.day))||(!decide (100∈s)&&decide (e.day≠0))||(!decide (110∈s)&&decide (e.n≠0)))=B2:=⟨_,rfl⟩;rw[hB2] at hres;refine Cd.cond rfl (fun c4=> ?_) (fun c4=> ?_)
 ·skip
  refine aj ?_;refine Za ?_;refine aQ 1 2 4 123 (Zt (Cd.ret (ae.af ?_)));refine aZ ?_;have c4:B2=true:=by rw[←hB2];simpa using c4
  exact⟨bt (aJ (by rw[←hres,c4];simp)),ab⟩
 have c4:B2=false:=by rw[←hB2];simpa using c4
 rw[c4] at hres;refine Cd.skip (aI (aj ?_));refine Zm ?_;refine Zc (Ze Tryz.func27) (h119 _) ?_;rintro en w12 ⟨rfl,hb12⟩;refine⟨_,rfl,?_⟩;replace ab:=ab.step hb12;replace k1:=k1.step hb12;refine mD ?_;refine aQ 1 4 123 126 (Zt ?_);refine Cd.cond rfl (fun c5=> ?_) (fun c5=> ?_)
 ·skip
  refine aj ?_;refine Zf 6 Tryz.underlying23 ?_;refine ZL Tryz.underlying3 k1 ?_;refine bC ?_;refine Zm ?_;refine aw.start ?_;refine bw (fun hcx=>aa.ar 7 rfl rfl Tryz.underlying23 rfl (by kernel_rfl)) ?_;refine Zn (fun hcx=>aa.au rfl rfl Tryz.underlying3 rfl k1 rfl) ?_;refine Zn (fun hcx=>aa.fh rfl rfl rfl) ?_;refine fQ ?_;refine Za ?_;refine aO 1 2 4 123 126 (Zt (Cd.ret (ae.af ?_)));refine aZ ?_;have c5:decide (119∈s)=false:=by simpa using c5
  exact⟨bt (aJ (by rw[←hres,c5];simp)),ab⟩
 ·skip
  refine Cd.skip (aB ?_);refine Zf 6 Tryz.underlying23 ?_;refine ZL Tryz.underlying3 k1 ?_;refine kZ ?_;refine Zm ?_;refine aw.start ?_;refine bw (fun hcx=>aa.ar 6 rfl rfl Tryz.underlying23 rfl (by kernel_rfl)) ?_;refine Zn (fun hcx=>aa.au rfl rfl Tryz.underlying3 rfl k1 rfl) ?_;refine Zn (fun hcx=>aa.leq rfl rfl rfl) ?_;refine fQ ?_;refine Zm ?_;refine aw.start ?_;refine bw (fun hcx=>aa.ar 7 rfl rfl Tryz.underlying23 rfl (by kernel_rfl)) ?_;refine Zn (fun hcx=>aa.au rfl rfl Tryz.underlying3 rfl k1 rfl) ?_;refine Zn (fun hcx=>aa.fh rfl rfl rfl) ?_;refine gq ?_;refine bw (fun hcx=>aa.ar 7 rfl rfl Tryz.underlying23 rfl (by kernel_rfl)) ?_;refine Zn (fun hcx=>aa.au rfl rfl Tryz.underlying3 rfl k1 rfl) ?_;refine Zn (fun hcx=>aa.fh rfl rfl rfl) ?_;refine aw.zm rfl rfl rfl rfl rfl rfl rfl rfl rfl rfl rfl ?_;refine fQ ?_;refine Za ?_;refine aO 1 2 4 123 126 (Zt (Cd.ret ?_));refine aZ ?_;have c5:decide (119∈s)=true:=by simpa using c5
  exact⟨bt (aJ (by rw[←hres,c5];simp)),ab⟩
section
variable {P:Program} {E:Operand→Option Value} {o:Oper} {w:World} {x y:Operand} {T:TypeId}
end
section
variable {P:Program} {E:Operand→Option Value} {o:Oper} {w:World} {x:Operand} {T:TypeId}
end
structure Wf (B:Nat)(w w':World):Prop where
 below:Below (min B w.heap.size) w w'
 eQ:∀k t cs,aH w k t cs→t≠76→t≠5→aH w' k t cs
section
variable {B:Nat} {w w' w'':World}
theorem Wf.refl (B:Nat)(w:World):Wf B w w:=⟨Below.refl _ _,fun _ _ _ h _ _=>h⟩
theorem Wf.trans (h:Wf B w w')(k:Wf B w' w''):Wf B w w'':=⟨h.below.trans (k.below.mono (by have:=h.below.size;omega)),fun i t cs hb h1 h2=>k.eQ i t cs (h.eQ i t cs hb h1 h2) h1 h2⟩
theorem Wf.grow (h:Below w.heap.size w w'):Wf B w w':=⟨h.mono (Nat.min_le_right _ _),fun _ _ _ hb _ _=>hb.step h⟩
theorem Wf.step (h:Wf B w w')(k:Below w'.heap.size w' w''):Wf B w w'':=h.trans (Wf.grow k)
theorem Wf.wf (h:Wf B w w')(k:Wf B w' w''):Wf B w w'':=h.trans k
theorem Wf.to (h:Wf B w w')(hB:B≤w.heap.size):Below B w w':=by have:=h.below;rwa [Nat.min_eq_left hB] at this
theorem Wf.DA {g B':Nat}{T:TypeId}{cur cs:Array Value}(h:Wf B w w')(k:aH w' g T cur)(p:lu w' w'' g T cs)(e:B'≤g)(hB:B≤g)(hT:T=76∨T=5):Wf B w w'':=
 h.trans ⟨(p.below hB k.lt).mono (Nat.min_le_left _ _),fun i t cs hb h1 h2=>hb.put p (hb.ne k (by rcases hT with rfl|rfl<;>assumption))⟩
end
theorem aH.wf {B:Nat}{w w':World}{k:Nat}{t:TypeId}{cs:Array Value}(h:aH w k t cs)(f:Wf B w w')(h1:t≠76:=by decide)(h2:t≠5:=by decide):aH w' k t cs:=f.eQ k t cs h h1 h2
structure Wr (w:World)(B g:Nat)(bs:List Nat):Prop where
 ge:B≤g
 bytes:∀d∈bs,d<256
 cell:∃v,aH w g 76 #[v]∧Own w B 5 1 v bs.length (Bt bs)
theorem Wr.size {w:World}{B g:Nat}{bs:List Nat}(h:Wr w B g bs):B≤w.heap.size:=by
 obtain⟨v,hb,-⟩:=h.cell;have:=hb.lt;have:=h.ge;omega
theorem Wr.step {w w':World}{B g:Nat}{bs:List Nat}(h:Wr w B g bs)(k:Below w.heap.size w w'):Wr w' B g bs:=by
 obtain⟨v,hb,ho⟩:=h.cell;exact⟨h.ge,h.bytes,v,hb.step k,ho.step k⟩
theorem App.wf {w w':World}{B n:Nat}{v:Value}{xs:List Value}(h:App w w' B v)(o:Own w B 5 1 v n xs):Wf B w w':=
 ⟨h.below.mono (Nat.min_le_left _ _),fun i t cs hb _ h2=>hb.grown h.grown (fun e=>gf o.row hb (fun e=>h2 e.symm) e.symm)⟩
theorem tc (B g B2 m c:Nat)(A:Option Addr)(bs new:List Nat)(w:World)(h:Wr w B g bs)(hr:Reads w B2 1 A m (Bt new))(hn:∀d∈new,d<256)(hl:bs.length+new.length≤1000000000):
  Calls Tryz.prog 125 #[.pointer (some ⟨g,0,none⟩), .slice A m c] w fun e w'=>e= .returned (.pointer (some ⟨g,0,none⟩))∧Wf B w w'∧Wr w' B g (bs++new):=by
 obtain⟨v,k0,own⟩:=h.cell;have hB:=h.size;have hge:=h.ge;have hm:new.length=m:=by have:=hr.1;rw[mf] at this;omega
 refine Zs 17 Tryz.func125 ?_;refine aj ?_;refine Za ?_;refine bn 0 1 4 (aI (aj ?_));refine Zm ?_;refine Zv (aa.E8 rfl rfl rfl Tryz.underlying74) ?_;refine aQ 0 1 4 6 (Zt ?_);refine Cd.aU rfl rfl ?_;refine Zr ?_;refine Zm ?_;refine Zm ?_;refine Zv (aa.nilCheck rfl rfl) ?_;refine Zf 0 Tryz.underlying76 ?_;refine ZL Tryz.underlying64 k0 ?_;refine Zm ?_;refine Seq.append rfl rfl rfl Tryz.underlying64 (by kernel_rfl) bf rfl (by decide) (b:=1) (by kernel_rfl) own hr (by intro u hu;obtain⟨d,-,rfl⟩:=List.mem_map.1 hu;rfl) hB (by simp only[maxLen];omega) (by omega) rfl rfl rfl ?_;intro v1 w1 own1 ha;have k1:=k0.grown ha.grown (fun e=>gf own.row k0 (by decide) e.symm);have f1:=ha.wf own;clear k0;have k0:=k1;obtain⟨A1,c1,rfl,-⟩:=own1.reads;have e0:B≤g:=hge;have wf:Wf B w w1:=f1;refine Zv (aa.nilCheck rfl rfl) ?_;refine Zf 0 Tryz.underlying76 ?_;refine Zq k0 ?_;intro w1 pw1;replace k0:=pw1.an;refine aQ 0 1 4 6 (aB ?_);refine Zm ?_;refine Za ?_;refine aQ 0 1 4 6 (Zt (Cd.ret ?_));have own2:=own1.put k1 pw1 hge;have f2:=wf.DA k1 pw1 hge hge (.inl rfl);refine aZ ?_;refine⟨rfl,f2,hge,fun d hd=> ?_,_,k0,?_⟩
 ·rcases List.mem_append.1 hd with hd|hd
  ·exact h.bytes d hd
  ·exact hn d hd
 ·rw[jJ,List.length_append,hm]
  exact own2
def iU:Nat→Nat→List Nat
 |0,n=>[n]
 |k+1,n=>if n<128 then [n] else(n%128+128)::iU k (n/128)
def gA (n:Nat):List Nat:=iU 9 n
theorem dU {k n:Nat}(h:n<128):iU k n=[n]:=by
 cases k with
 |zero=>rfl
 |succ k=>unfold iU;rw[if_pos h]
theorem gg {k n:Nat}(h:¬n<128):iU (k+1) n=(n%128+128)::iU k (n/128):=by
 show(if n<128 then [n] else(n%128+128)::iU k (n/128))=_;rw[if_neg h]
theorem uF:∀k n,(iU k n).length≤k+1
 |0,n=>by simp[iU]
 |k+1,n=>by
  unfold iU;split
  ·simp
  ·have:=uF k (n/128)
   simp;omega
theorem gT (n:Nat):(gA n).length≤10:=uF 9 n
theorem yB:∀k n,n<2*128^k→∀d∈iU k n,d<256
 |0,n,h,d,hd=>by simp[iU] at hd;subst hd;simp at h;omega
 |k+1,n,h,d,hd=>by
  unfold iU at hd;split at hd
  ·simp at hd;omega
  ·rcases List.mem_cons.1 hd with rfl|hd
   ·omega
   ·refine yB k (n/128) ?_ d hd
    rw[Nat.pow_succ] at h;rw[Nat.div_lt_iff_lt_mul (by omega)];omega
theorem Fs {n:Nat}(h:n<18446744073709551616):∀d∈gA n,d<256:=yB 9 n (by omega)
set_option maxRecDepth 100000 in
theorem Ge:∀x,x<256→x|||128=x%128+128:=by decide
theorem aa.GS {P:Program}{E:Operand→Option Value}{o:Oper}{w:World}{x y:Operand}{T T':TypeId}{a b:Nat}(ho:o.op= .binOp .or T x y T')(hx:E x=some (.int .u8 (a:Int)))(hy:E y=some (.int .u8 (b:Int)))(ha:a<256)(hb:b<256):aa P E o w (.int .u8 ((a|||b:Nat):Int)) w:=by
 have e1:(BitVec.ofInt IntKind.u8.bits (a:Int)).toNat=a:=by simp[IntKind.bits];omega
 have e2:(BitVec.ofInt IntKind.u8.bits (b:Int)).toNat=b:=by simp[IntKind.bits];omega
 have hr:a|||b<256:=Nat.or_lt_two_pow (n:=8) ha hb;refine .bin ho hx hy rfl ?_;show(Op.intBits .or .u8 a b).run P w=_;simp only[Op.intBits,BitVec.toNat_or,e1,e2,jW (Int.natCast_nonneg _) (Int.ofNat_lt.2 hr)];rfl
theorem Gc (m:Nat):IntKind.u8.wrap (m:Int)=((m%256:Nat):Int):=by rw[IntKind.wrap_u8];omega
theorem rD (B g n:Nat)(bs:List Nat)(w:World)(h:Wr w B g bs)(hn:n<18446744073709551616)(hl:bs.length+10≤1000000000):
  Calls Tryz.prog 79 #[.pointer (some ⟨g,0,none⟩), .int .u64 (n:Int)] w fun e w'=>e= .returned (.pointer (some ⟨g,0,none⟩))∧Wf B w w'∧Wr w' B g (bs++gA n):=by
 have wf:=Wf.refl B w;have hn9:n<2*128^9:=by omega
 refine Zs 20 Tryz.func79 ?_;refine aj ?_;refine Za ?_;refine bn 0 1 4 (aI (Cd.block ?_))
 refine Cd.loop (σ:=List Nat × Nat × Nat) (fun s=>[(0, .pointer (some ⟨g,0,none⟩)),(1, .int .u64 (s.2.2:Int))])
  (fun s wr=>s.1.length+s.2.1=9∧s.2.2<2*128^s.2.1∧s.1++iU s.2.1 s.2.2=gA n∧Wf B w wr∧Wr wr B g (bs++s.1)) (fun s=>s.2.1) ([],9,n) ⟨rfl,hn9,List.nil_append _,wf,by rw[List.append_nil];exact h⟩ ⟨rfl,rfl,trivial⟩ ?_
 clear wf;rintro⟨done,k,m⟩ wr0 ⟨hd,hm,he,wf,wr⟩;simp only at hd hm he wr;show Cd _ _ _ _ [(0, .pointer (some ⟨g,0,none⟩)),(1, .int .u64 (m:Int))] _
 have hm64:m<18446744073709551616:=Nat.lt_of_lt_of_le hm (by
  have:(128:Nat)^k≤128^9:=Nat.pow_le_pow_right (by omega) (by omega);omega)
 refine Cd.seq (aj ?_);refine Zm ?_;refine kZ ?_;refine bn 0 1 6 (Zt ?_);refine Cd.ak rfl (fun hc=> ?_) (fun hc=> ?_)
 ·obtain⟨k,rfl⟩:∃j,k=j+1:=⟨k-1,by
   rcases Nat.eq_zero_or_pos k with h0|h0
   ·subst h0;simp at hm;omega
   ·omega⟩
  refine Cd.skip (aI (Cd.block (Zr ?_)));refine Zm ?_;refine Zm ?_;refine Zv (aa.dJ rfl rfl Tryz.underlying94 Tryz.underlying5 (Gc m)) ?_;refine Zv ((aa.GS (b:=128) rfl rfl rfl (by omega) (by omega)).cast (by rw[Ge (m%256) (by omega),show m%256%128=m%128 by omega])) ?_;refine Seq.slice (vs:=[_]) (s:=1) rfl rfl rfl Tryz.underlying64 (by kernel_rfl) (bf) (by omega) (by omega) ⟨rfl,trivial⟩ rfl rfl rfl ?_;intro g13 w1 n13;have e13:=Nat.le_trans wf.below.size n13.ge;replace wf:=wf.step n13.below;replace wr:=wr.step n13.below;have k13:=n13.an;have hrd:Reads w1 w1.heap.size 1 (some ⟨g13,0,none⟩) 1 (Bt [m%128+128]):=Reads.an (size:=1) k13 1 rfl;refine Zc (Ze Tryz.func125) (tc B g _ 1 1 _ _ [m%128+128] _ wr hrd (by simp;omega) (by simp;omega)) ?_;clear wr;rintro e w2 ⟨rfl,fw2,wr⟩;refine⟨_,rfl,?_⟩;replace wf:=wf.wf fw2;refine bn 0 1 6 (ae.ah (eh ?_));refine Zm ?_;refine Zv ((aa.Gd rfl rfl rfl (s:=7) rfl (by omega)).cast (v':= .int .u64 ((m/128:Nat):Int)) (by rw[show(2:Nat)^7=128 from rfl])) ?_;refine Za ?_;refine bn 0 1 6 ?_;rw[List.append_assoc] at wr;refine ae.round (done++[m%128+128],k,m/128) ⟨rfl,rfl,trivial⟩ ⟨by simp;omega,?_,?_,wf,wr⟩ (by simp)
  ·simp only
   rw[Nat.pow_succ] at hm;rw[Nat.div_lt_iff_lt_mul (by omega)];omega
  ·rw[←he,gg (by omega),List.append_assoc];rfl
 ·skip
  refine Cd.exit (ae.aC (ae.aA (ae.ay (aB ?_))));refine Zm ?_;refine Zm ?_;refine Zv (aa.dJ rfl rfl Tryz.underlying94 Tryz.underlying5 (jW (by omega) (by omega))) ?_;refine Seq.slice (vs:=[_]) (s:=1) rfl rfl rfl Tryz.underlying64 (by kernel_rfl) (bf) (by omega) (by omega) ⟨rfl,trivial⟩ rfl rfl rfl ?_;intro g18 w1 n18;have e18:=Nat.le_trans wf.below.size n18.ge;replace wf:=wf.step n18.below;replace wr:=wr.step n18.below;have k18:=n18.an;have hrd:Reads w1 w1.heap.size 1 (some ⟨g18,0,none⟩) 1 (Bt [m]):=Reads.an (size:=1) k18 1 rfl;refine Zc (Ze Tryz.func125) (tc B g _ 1 1 _ _ [m] _ wr hrd (by simp;omega) (by simp;omega)) ?_;clear wr;rintro e w2 ⟨rfl,fw2,wr⟩;refine⟨_,rfl,?_⟩;replace wf:=wf.wf fw2;refine Za ?_;refine aQ 0 1 4 6 (Zt (Cd.ret ?_));refine aZ ?_;rw[List.append_assoc,show done++[m]=gA n by rw[←he,dU (by omega)]] at wr;exact⟨rfl,wf,wr⟩
theorem jR (B g n:Nat)(bs:List Nat)(w:World)(h:Wr w B g bs)(hn:n<9223372036854775808)(hl:bs.length+10≤1000000000):
  Calls Tryz.prog 30 #[.pointer (some ⟨g,0,none⟩), .int .i64 (n:Int)] w fun e w'=>e= .returned (.pointer (some ⟨g,0,none⟩))∧Wf B w w'∧Wr w' B g (bs++gA n):=by
 have wf:=Wf.refl B w;have wr:=h;refine Zs 10 Tryz.func30 ?_;refine aj ?_;refine Za ?_;refine bn 0 1 4 (aB ?_);refine Zm ?_;refine Zm ?_;refine Zv ((aa.max2 rfl rfl rfl).cast (v':= .int .i64 (n:Int)) (int_eq (by omega))) ?_;refine Zv (aa.Bm (r:=n) rfl rfl Tryz.underlying3 Tryz.underlying94 (by omega)) ?_;refine Zc (Ze Tryz.func79) (rD B g n _ _ wr (by omega) hl) ?_;clear wr;rintro e w1 ⟨rfl,fw1,wr⟩;refine⟨_,rfl,?_⟩;replace wf:=wf.wf fw1;refine Za ?_;refine bn 0 1 4 (Zt (Cd.ret ?_));refine aZ ?_;exact⟨rfl,wf,wr⟩
def nh (n:Int):Nat:=if 0≤n then(2*n).toNat else(-2*n-1).toNat
theorem C9 {n:Int}(h:bm n):nh n<18446744073709551616:=by
 unfold nh bm at *;split<;>omega
theorem Bz {a:Nat}(h:a<18446744073709551616):a^^^18446744073709551615=18446744073709551615-a:=by
 have:=congrArg BitVec.toNat (BitVec.xor_allOnes (x:=BitVec.ofNat 64 a));rw[BitVec.toNat_xor,BitVec.toNat_not,BitVec.toNat_allOnes,BitVec.toNat_ofNat,Nat.mod_eq_of_lt (by omega)] at this;exact this
theorem xe (B g:Nat)(n:Int)(bs:List Nat)(w:World)(h:Wr w B g bs)(hn:bm n)(hl:bs.length+10≤1000000000):
  Calls Tryz.prog 32 #[.pointer (some ⟨g,0,none⟩), .int .i64 n] w fun e w'=>e= .returned (.pointer (some ⟨g,0,none⟩))∧Wf B w w'∧Wr w' B g (bs++gA (nh n)):=by
 have wf:=Wf.refl B w;have wr:=h;have hs:=C9 hn;unfold bm at hn;obtain⟨a,ha⟩:∃a:Nat,n%18446744073709551616=(a:Int):=⟨(n%18446744073709551616).toNat,by omega⟩;obtain⟨a2,ha2⟩:∃a2:Nat,a2=a*2%18446744073709551616:=⟨_,rfl⟩;obtain⟨z,hz⟩:∃z:Int,z=if 0≤n then 0 else -1:=⟨_,rfl⟩;obtain⟨b,hb⟩:∃b:Nat,b=if 0≤n then 0 else 18446744073709551615:=⟨_,rfl⟩
 have hx:nh n=a2^^^b:=by
  unfold nh
  by_cases h0:0≤n
  ·rw[hb,if_pos h0,if_pos h0,Nat.xor_zero];omega
  ·rw[hb,if_neg h0,if_neg h0,Bz (by omega)];omega
 have hfd:n.fdiv 9223372036854775808=z:=by
  rw[Int.fdiv_eq_ediv_of_nonneg _ (by omega),hz];split<;>omega
 refine Zs 14 Tryz.func32 ?_;refine aj ?_;refine Za ?_;refine bn 0 1 4 (aB ?_);refine Zm ?_;refine Zm ?_;refine Zv (aa.Bm (r:=a) rfl rfl Tryz.underlying2 Tryz.underlying94 ha) ?_;refine Zv (aa.F9 (r:=(a2:Int)) rfl rfl rfl (by omega) (by rw[IntKind.wrap_u64];show((a:Int)*2)%_=_;omega)) ?_;refine Zm ?_;refine Zv (aa.FH (r:=z) rfl rfl rfl (by omega) hfd) ?_;refine Zv (aa.Bm (r:=b) rfl rfl Tryz.underlying2 Tryz.underlying94 (by rw[hz,hb];split<;>rfl)) ?_;refine Zv (aa.BE (a:=a2) (b:=b) rfl rfl rfl (by omega) (by rw[hb];split<;>omega) (.inr (.inr ⟨rfl,hx⟩))) ?_;refine Zc (Ze Tryz.func79) (rD B g (nh n) _ _ wr hs hl) ?_;clear wr;rintro e w1 ⟨rfl,fw1,wr⟩;refine⟨_,rfl,?_⟩;replace wf:=wf.wf fw1;refine Za ?_;refine bn 0 1 4 (Zt (Cd.ret ?_));refine aZ ?_;exact⟨rfl,wf,wr⟩
theorem Du (B g:Nat)(s bs:List Nat)(w:World)(h:Wr w B g bs)(hs:∀d∈s,d<256)(hl:bs.length+s.length≤1000000000):
  Calls Tryz.prog 80 #[.pointer (some ⟨g,0,none⟩), .string (strOf s)] w fun e w'=>e= .returned (.pointer (some ⟨g,0,none⟩))∧Wf B w w'∧Wr w' B g (bs++s):=by
 have wf:=Wf.refl B w;have wr:=h;refine Zs 9 Tryz.func80 ?_;refine aj ?_;refine Za ?_;refine bn 0 1 4 (aB ?_);refine Zm ?_;refine Zm ?_;refine Seq.wN rfl rfl Tryz.underlying9 Tryz.underlying64 Tryz.underlying5 hs rfl rfl rfl ?_;intro g7 c7 w1 hc7 n7;replace wf:=wf.step n7.below;replace wr:=wr.step n7.below;have hrd:=n7.reads;refine Zc (Ze Tryz.func125) (tc B g _ _ c7 _ _ s _ wr hrd hs hl) ?_;clear wr;rintro e w1 ⟨rfl,fw1,wr⟩;refine⟨_,rfl,?_⟩;replace wf:=wf.wf fw1;refine Za ?_;refine bn 0 1 4 (Zt (Cd.ret ?_));refine aZ ?_;exact⟨rfl,wf,wr⟩
theorem mB (B g:Nat)(s bs:List Nat)(w:World)(h:Wr w B g bs)(hs:∀d∈s,d<256)(hl:bs.length+10+s.length≤1000000000):
  Calls Tryz.prog 31 #[.pointer (some ⟨g,0,none⟩), .string (strOf s)] w fun e w'=>e= .returned (.pointer (some ⟨g,0,none⟩))∧Wf B w w'∧Wr w' B g (bs++(gA s.length++s)):=by
 have wf:=Wf.refl B w;have wr:=h;have hg:=gT s.length;refine Zs 11 Tryz.func31 ?_;refine aj ?_;refine Za ?_;refine bn 0 1 4 (aB ?_);refine Zm ?_;refine Zm ?_;refine Zv (aa.dh rfl rfl Tryz.underlying9) ?_;refine Zc (Ze Tryz.func30) (jR B g s.length _ _ wr (by omega) (by omega)) ?_;clear wr;rintro e w1 ⟨rfl,fw1,wr⟩;refine⟨_,rfl,?_⟩;replace wf:=wf.wf fw1;refine Zm ?_;refine Zc (Ze Tryz.func80) (Du B g s _ _ wr hs (by rw[List.length_append];omega)) ?_;clear wr;rintro e w2 ⟨rfl,fw2,wr⟩;refine⟨_,rfl,?_⟩;replace wf:=wf.wf fw2;rw[List.append_assoc] at wr;refine Za ?_;refine bn 0 1 4 (Zt (Cd.ret ?_));refine aZ ?_;exact⟨rfl,wf,wr⟩
theorem xA (B g:Nat)(bs:List Nat)(w:World)(h:Wr w B g bs):
  Calls Tryz.prog 33 #[.pointer (some ⟨g,0,none⟩)] w fun e w'=>e= .returned (.string (strOf bs))∧Grow w w':=by
 have ab:=Below.refl w.heap.size w;obtain⟨v,k0,own⟩:=h.cell;obtain⟨A,c,rfl,hr⟩:=own.reads;refine Zs 10 Tryz.func33 ?_;refine aj ?_;refine Za ?_;refine dF 0 2 (aI (aj ?_));refine Zm ?_;refine Zv (aa.EP rfl rfl rfl Tryz.underlying74) ?_;refine bn 0 2 4 (Zt ?_);refine Cd.aM rfl rfl ?_;refine Cd.skip (aB ?_);refine Zm ?_;refine Zv (aa.nilCheck rfl rfl) ?_;refine Zf 0 Tryz.underlying76 ?_;refine ZL Tryz.underlying64 k0 ?_;refine Zv (aa.mV rfl rfl Tryz.underlying64 Tryz.underlying5 Tryz.underlying9 hr h.bytes) ?_;refine Za ?_;refine bn 0 2 4 (Zt (Cd.ret ?_));refine aZ ?_;exact⟨rfl,ab⟩
def qj {α:Type}(d:α):List α→Nat→α
 | [],_=>d
 |x::_,0=>x
 |_::r,k+1=>qj d r k
def iB (s:List Nat):List Nat:=gA s.length++s
theorem si:∀k n,n<2*128^k→iU k n=iU (k+1) n
 |0,n,h=>by
  have h1:n<2:=by simpa using h
  rw[dU (by omega),dU (by omega)]
 |k+1,n,h=>by
  by_cases hn:n<128
  ·rw[dU hn,dU hn]
  ·rw[gg hn,gg hn,si k (n/128) (by
    rw[Nat.pow_succ] at h;rw[Nat.div_lt_iff_lt_mul (by omega)];omega)]
theorem BV {n:Nat}(hn:¬n<128)(h:n<18446744073709551616):gA n=(n%128+128)::gA (n/128):=by
 have h2:n/128<2*128^8:=by rw[Nat.div_lt_iff_lt_mul (by omega)];omega
 unfold gA;rw[gg hn,si 8 _ h2]
theorem r5 (n:Nat):∀(w:World),n<18446744073709551616→Calls Tryz.prog 83 #[.int .u64 (n:Int)] w fun e w'=>e= .returned (.string (strOf (gA n)))∧Grow w w':=by
 induction n using Nat.strongRecOn with
 |_ n ih=>
 intro w hn;have ab:=Below.refl w.heap.size w;refine Zs 19 Tryz.func83 ?_;refine aj ?_;refine Za ?_;refine dF 0 2 (aI (aj ?_));refine Zm ?_;refine eI ?_;refine bn 0 2 4 (Zt ?_);refine Cd.ak rfl (fun hc=> ?_) (fun hc=> ?_)
 ·have hgs:gA n=[n]:=dU (by omega)
  refine aj ?_;refine Zm ?_;refine Zv (aa.dJ rfl rfl Tryz.underlying94 Tryz.underlying5 (jW (by omega) (by omega))) ?_;refine Seq.slice (vs:=[_]) (s:=1) rfl rfl rfl Tryz.underlying64 (by kernel_rfl) (bf) (by omega) (by omega) ⟨rfl,trivial⟩ rfl rfl rfl ?_;intro g7 w1 n7;have e7:=Nat.le_trans ab.size n7.ge;replace ab:=ab.step n7.below;have k7:=n7.an;have hrd:=Reads.an (size:=1) k7 1 rfl;refine Zv (aa.mV (l:=[n]) rfl rfl Tryz.underlying64 Tryz.underlying5 Tryz.underlying9 hrd (fun x hx=>by simp at hx;omega)) ?_;refine Za ?_;refine bn 0 2 4 (Zt (Cd.ret (ae.af ?_)));refine aZ ?_;rw[hgs];exact⟨rfl,ab⟩
 ·have hgm:=BV (n:=n) (by omega) hn
  have hlen:=gT (n/128);have hsm: [n%128+128].length+(gA (n/128)).length≤9223372036854775807:=by simp;omega
  have hq:n/128<n:=Nat.div_lt_self (by omega) (by omega);have hm:n%128<128:=Nat.mod_lt _ (by omega);have h1:((n:Int)%128)=((n%128:Nat):Int):=by omega
  have h2:((n:Int)/128)=((n/128:Nat):Int):=by omega
  have hrec:=fun W=>ih (n/128) hq W (by omega)
  generalize n/128=q at *
  generalize n%128=m at *
  refine Cd.skip (aI ?_);refine Cd.eB (F':=[(0,_),(4,_)]) ⟨rfl,rfl,trivial⟩ ?_;refine ff 11 ?_;intro w1 hw1 zw1;replace ab:=ab.step hw1;have zbel:=ab.size;refine cf ?_;refine Zd (fun w hG=>(aa.iR rfl rfl rfl (by omega) (by omega)).cast (v':= .int .u64 (m:Int)) (int_eq h1)) ?_;refine Zd (fun w hG=>aa.dJ rfl rfl Tryz.underlying94 Tryz.underlying5 (jW (by omega) (by omega))) ?_;refine Zd (fun w hG=>aa.zj rfl rfl rfl (jW (by omega) (by omega))) ?_;refine Dr.slice (vs:=[_]) (s:=1) rfl rfl rfl rfl Tryz.underlying64 (by kernel_rfl) bf (by omega) (by omega) ⟨rfl,trivial⟩ rfl ?_;refine Dr.FX (j:=4) Grow.refl rfl rfl rfl rfl (fun u w hG hu=>by obtain⟨g,rfl,hb,-⟩:=hu;exact aa.mV (l:=[m+128]) rfl rfl Tryz.underlying64 Tryz.underlying5 Tryz.underlying9 (Reads.an (size:=1) hb 1 rfl) (fun x hx=>by simp at hx;omega)) ?_;refine cf ?_;refine Zd (fun w hG=>(aa.r8 rfl rfl rfl (by omega) (by omega) (by omega)).cast (v':= .int .u64 (q:Int)) (int_eq h2)) ?_;refine Dr.cJ rfl (fun w=>Ze Tryz.func83) rfl (fun w hG=>hrec _) ?_;refine Zd (fun w hG=>aa.eD (a:=[m+128]) (b:=gA q) rfl rfl rfl hsm) ?_;refine Zd (fun w hG=>aa.assign rfl rfl) ?_;refine Dr.nil ?_;refine bb.done (F':=[(0,_),(2,_),(4,_)]) rfl ⟨rfl,rfl,rfl,trivial⟩ ?_;intro w2 hw2 fw2;replace ab:=ab.step hw2;refine bn 0 2 4 (Zt (Cd.ret ?_));refine aZ ?_;rw[hgm];exact⟨rfl,ab⟩
theorem rR (w:World):(Instr.build 76 #[]).run Tryz.prog w= .ok (.agg #[.slice none 0 0]) w:=by kernel_rfl
structure kU where
 kind:Nat
 id:List Nat
 a:List Nat
 b:List Nat
 text:List Nat
 day:Nat
 at_:Nat
 ec:Nat
 n:Int
def kU.ev (e:kU):Ev:=⟨e.kind,e.id,e.a,e.b,e.text,e.day,e.at_,e.ec,e.n⟩
def kU.bytes (e:kU):List Nat:=gA e.kind++iB e.id++iB e.a++iB e.b++iB e.text++gA e.day++gA e.at_++gA e.ec++gA (nh e.n)
structure kU.fit (e:kU):Prop where
 kind:e.kind<9223372036854775808
 day:e.day<9223372036854775808
 at_:e.at_<9223372036854775808
 ec:e.ec<9223372036854775808
 n:bm e.n
 Gf:e.id.length≤10000
 la:e.a.length≤10000
 lb:e.b.length≤10000
 yC:e.text.length≤10000
theorem pQ (s:List Nat):(iB s).length≤10+s.length:=by unfold iB;rw[List.length_append];have:=gT s.length;omega
set_option maxHeartbeats 1000000 in
theorem zr (e:kU)(hf:e.fit)(he:e.ev.AS)(hr:cH e.ev=true)(w:World):Calls Tryz.prog 12 #[e.ev.v] w fun en w'=>en= .returned (.tuple #[.string (strOf e.bytes), .int .i64 0])∧Grow w w':=by
 have ab:=Below.refl w.heap.size w;have hri:=fun W=>qs e.ev he W;rw[hr] at hri;have q1:=gT e.kind;have q2:=pQ e.id;have q3:=pQ e.a;have q4:=pQ e.b;have q5:=pQ e.text;have q6:=gT e.day;have q7:=gT e.at_;have q8:=gT e.ec;have q9:=gT (nh e.n);obtain⟨h1,h2,h3,h4,h5,l1,l2,l3,l4⟩:=hf;have b1:∀d∈e.id,d<256:=he.id;have b2:∀d∈e.a,d<256:=he.a;have b3:∀d∈e.b,d<256:=he.b;have b4:∀d∈e.text,d<256:=he.text;unfold kU.ev Ev.v at hri⊢;dsimp only at hri⊢;refine Zs 40 Tryz.func12 ?_;refine aj ?_;refine Seq.box rfl rfl rfl rfl rfl ?_;intro g1 w1 n1;have e1:=Nat.le_trans ab.size n1.ge;replace ab:=ab.step n1.below;have k1:=n1.an;refine Za ?_;refine Za ?_;refine aQ 0 1 2 3 (aI (aj ?_));refine ZW 9 Tryz.underlying29 k1 ?_;refine Zc (Ze Tryz.func13) (hri _) ?_;rintro en w5 ⟨rfl,hb5⟩;refine⟨_,rfl,?_⟩;replace ab:=ab.step hb5;replace k1:=k1.step hb5;refine mD ?_;refine aO 0 1 2 3 7 (Zt ?_);refine Cd.aM rfl rfl ?_;refine Cd.skip (aB ?_);refine Zv (aa.build rfl rfl (rR _)) ?_;refine Seq.box rfl rfl rfl rfl rfl ?_;intro g9 w2 n9;have e9:=Nat.le_trans ab.size n9.ge;have l9:=Nat.lt_of_lt_of_le k1.lt n9.ge;replace ab:=ab.step n9.below;replace k1:=k1.step n9.below;have k9:=n9.an;refine Za ?_;refine aY 0 1 2 3 4 7 (aI ?_);have wr:Wr _ g9 g9 []:=⟨Nat.le_refl _,fun d hd=>(by cases hd),_,k9,Own.nil _ _ _ _⟩;have wf:=Wf.refl g9 w2;have hg9:g9≤w2.heap.size:=Nat.le_of_lt n9.lt;refine Cd.EC 16 (by kernel_rfl) [] [3,6,9,12,15] (fun i h=>by cases h) rfl rfl (.inl rfl) rfl (Wf g9) (Wf.refl g9) (fun _ _ _=>Wf.trans) (fun c w=>Wr w g9 g9 (qj [] [[],gA e.kind,gA e.kind++iB e.id,gA e.kind++iB e.id++iB e.a,gA e.kind++iB e.id++iB e.a++iB e.b,gA e.kind++iB e.id++iB e.a++iB e.b++iB e.text] c)) ?_;intro w3 hw3 zw3;replace k1:=k1.step hw3;replace wf:=wf.step hw3;replace wr:=wr.step hw3;refine⟨wr,?_⟩;have zlt:=k1.lt;refine DJ.val rfl (Wf.refl g9) rfl (fun w hG=>aa.move rfl rfl) rfl ?_;refine DJ.val rfl (Wf.refl g9) rfl (fun w hG=>aa.ar 0 rfl rfl Tryz.underlying29 rfl (by kernel_rfl)) rfl ?_;refine DJ.val rfl (Wf.refl g9) rfl (fun w hG=>aa.au rfl rfl Tryz.underlying3 rfl (k1.wf hG) rfl) rfl ?_;refine DJ.chain 0 rfl rfl (fun w=>Ze Tryz.func30) rfl (fun w hG wr=>jR g9 g9 e.kind [] _ wr h1 (by simp)) ?_;refine DJ.val rfl (Wf.refl g9) rfl (fun w hG=>aa.ar 1 rfl rfl Tryz.underlying29 rfl (by kernel_rfl)) rfl ?_;refine DJ.val rfl (Wf.refl g9) rfl (fun w hG=>aa.au rfl rfl Tryz.underlying9 rfl (k1.wf hG) rfl) rfl ?_;refine DJ.chain 1 rfl rfl (fun w=>Ze Tryz.func31) rfl (fun w hG wr=>mB g9 g9 e.id _ _ wr b1 (by first|omega|(simp only[qj];omega))) ?_;refine DJ.val rfl (Wf.refl g9) rfl (fun w hG=>aa.ar 2 rfl rfl Tryz.underlying29 rfl (by kernel_rfl)) rfl ?_;refine DJ.val rfl (Wf.refl g9) rfl (fun w hG=>aa.au rfl rfl Tryz.underlying9 rfl (k1.wf hG) rfl) rfl ?_;refine DJ.chain 2 rfl rfl (fun w=>Ze Tryz.func31) rfl (fun w hG wr=>mB g9 g9 e.a _ _ wr b2 (by simp only[qj,List.length_append];omega)) ?_;refine DJ.val rfl (Wf.refl g9) rfl (fun w hG=>aa.ar 3 rfl rfl Tryz.underlying29 rfl (by kernel_rfl)) rfl ?_;refine DJ.val rfl (Wf.refl g9) rfl (fun w hG=>aa.au rfl rfl Tryz.underlying9 rfl (k1.wf hG) rfl) rfl ?_;refine DJ.chain 3 rfl rfl (fun w=>Ze Tryz.func31) rfl (fun w hG wr=>mB g9 g9 e.b _ _ wr b3 (by simp only[qj,List.length_append];omega)) ?_;refine DJ.val rfl (Wf.refl g9) rfl (fun w hG=>aa.ar 4 rfl rfl Tryz.underlying29 rfl (by kernel_rfl)) rfl ?_;refine DJ.val rfl (Wf.refl g9) rfl (fun w hG=>aa.au rfl rfl Tryz.underlying9 rfl (k1.wf hG) rfl) rfl ?_;refine DJ.chain 4 rfl rfl (fun w=>Ze Tryz.func31) rfl (fun w hG wr=>mB g9 g9 e.text _ _ wr b4 (by simp only[qj,List.length_append];omega)) ?_;refine DJ.nil ?_;refine bb.done (F':=[(0,_),(1,_),(2,_),(3,_),(4,_),(7,_)]) rfl ⟨rfl,rfl,rfl,rfl,rfl,rfl,trivial⟩ ?_;intro w4 hw4 fw4;replace k1:=k1.wf hw4;replace wf:=wf.wf hw4;clear wr;have wr:=fw4;refine aY 0 1 2 3 4 7 (aI ?_);replace wr:Wr _ g9 g9 (gA e.kind++iB e.id++iB e.a++iB e.b++iB e.text):=wr;refine Cd.EC 13 (by kernel_rfl) [] [3,6,9,12] (fun i h=>by cases h) rfl rfl (.inl rfl) rfl (Wf g9) (Wf.refl g9) (fun _ _ _=>Wf.trans) (fun c w=>Wr w g9 g9 (qj [] [gA e.kind++iB e.id++iB e.a++iB e.b++iB e.text,gA e.kind++iB e.id++iB e.a++iB e.b++iB e.text++gA e.day,gA e.kind++iB e.id++iB e.a++iB e.b++iB e.text++gA e.day++gA e.at_,gA e.kind++iB e.id++iB e.a++iB e.b++iB e.text++gA e.day++gA e.at_++gA e.ec,gA e.kind++iB e.id++iB e.a++iB e.b++iB e.text++gA e.day++gA e.at_++gA e.ec++gA (nh e.n)] c)) ?_;intro w5 hw5 zw5;replace k1:=k1.step hw5;replace wf:=wf.step hw5;replace wr:=wr.step hw5;refine⟨wr,?_⟩;have zlt:=k1.lt;refine DJ.val rfl (Wf.refl g9) rfl (fun w hG=>aa.move rfl rfl) rfl ?_;refine DJ.val rfl (Wf.refl g9) rfl (fun w hG=>aa.ar 5 rfl rfl Tryz.underlying29 rfl (by kernel_rfl)) rfl ?_;refine DJ.val rfl (Wf.refl g9) rfl (fun w hG=>aa.au rfl rfl Tryz.underlying3 rfl (k1.wf hG) rfl) rfl ?_;refine DJ.chain 0 rfl rfl (fun w=>Ze Tryz.func30) rfl (fun w hG wr=>jR g9 g9 e.day _ _ wr h2 (by simp only[qj,List.length_append];omega)) ?_;refine DJ.val rfl (Wf.refl g9) rfl (fun w hG=>aa.ar 6 rfl rfl Tryz.underlying29 rfl (by kernel_rfl)) rfl ?_;refine DJ.val rfl (Wf.refl g9) rfl (fun w hG=>aa.au rfl rfl Tryz.underlying3 rfl (k1.wf hG) rfl) rfl ?_;refine DJ.chain 1 rfl rfl (fun w=>Ze Tryz.func30) rfl (fun w hG wr=>jR g9 g9 e.at_ _ _ wr h3 (by simp only[qj,List.length_append];omega)) ?_;refine DJ.val rfl (Wf.refl g9) rfl (fun w hG=>aa.ar 7 rfl rfl Tryz.underlying29 rfl (by kernel_rfl)) rfl ?_;refine DJ.val rfl (Wf.refl g9) rfl (fun w hG=>aa.au rfl rfl Tryz.underlying3 rfl (k1.wf hG) rfl) rfl ?_;refine DJ.chain 2 rfl rfl (fun w=>Ze Tryz.func30) rfl (fun w hG wr=>jR g9 g9 e.ec _ _ wr h4 (by simp only[qj,List.length_append];omega)) ?_;refine DJ.val rfl (Wf.refl g9) rfl (fun w hG=>aa.ar 8 rfl rfl Tryz.underlying29 rfl (by kernel_rfl)) rfl ?_;refine DJ.val rfl (Wf.refl g9) rfl (fun w hG=>aa.au rfl rfl Tryz.underlying2 rfl (k1.wf hG) rfl) rfl ?_;refine DJ.chain 3 rfl rfl (fun w=>Ze Tryz.func32) rfl (fun w hG wr=>xe g9 g9 e.n _ _ wr h5 (by simp only[qj,List.length_append];omega)) ?_;refine DJ.nil ?_;refine bb.done (F':=[(0,_),(1,_),(2,_),(3,_),(4,_),(7,_),(38,_)]) rfl ⟨rfl,rfl,rfl,rfl,rfl,rfl,rfl,trivial⟩ ?_;intro w6 hw6 fw6;replace k1:=k1.wf hw6;replace wf:=wf.wf hw6;clear wr;have wr:=fw6;replace wr:Wr _ g9 g9 e.bytes:=wr;have bel2:=ab.trans ((wf.to hg9).mono e9);clear ab;have ab:=bel2;refine Zc (Ze Tryz.func33) (xA g9 g9 _ _ wr) ?_;rintro en w15 ⟨rfl,hb15⟩;refine⟨_,rfl,?_⟩;replace wr:=wr.step hb15;replace ab:=ab.step hb15;refine Za ?_;refine Za ?_;refine aY 0 1 2 3 4 7 (Zt (Cd.ret ?_));refine dH ?_;exact⟨rfl,ab⟩
end Go.Proofs.YtigoimhndlnhfaaGreat