/-
  Texts that were joined: ClmD, ClmE, ClmF, ParF, ClmG, ClmH, TOpen, EvA, EvB, EvC, EvD. Conditions: what each theorem names.
-/
import Derived.Test.YtigoimhndlnhfaaGreatE5
import Derived.ProofKit
import Derived.OpenShut
import Derived.Lib.SmallJoins
import Derived.Deep.Slices
import Derived.Deep.Fields
import Derived.ChangeSame
set_option linter.unusedSectionVars false
namespace Go.Proofs.YtigoimhndlnhfaaGreat
open Go.RowKit
section
variable {α β:Type} {r:Rs α} {d p:Nat} {x:α} {o:Int} {dp bd:Bool}
theorem AU (h:eo r d x p o dp bd):(d:Int)≤o∧o≤d+1:=by
 unfold eo at h
 cases r with
 |out=>exact h.elim
 |bad a b=>exact h.2.2.2
 |ok a b=>obtain⟨-,-,h,-⟩:=h;omega
theorem xu {f:α→β}(h:eo r (d+1) x p o dp bd):eo (r.bind fun a q=> .ok (f a) q) d (f x) p (o-1) dp bd:=by
 unfold eo at h
 cases r with
 |out=>exact h.elim
 |bad a b=>obtain⟨h1,h2,h3,h4,h5⟩:=h;exact⟨h1,h2,h3,by omega,by omega⟩
 |ok a b=>obtain⟨h1,h2,h3,h4,h5⟩:=h;exact⟨by rw[h1],h2,by omega,h4,h5⟩
theorem vi {ws:List Wd}{s:List Nat}{f:α→β}(h:eo r (d+1) x p o dp bd):eo (r.bind fun a q=>(bE ws s q).bind fun _ q=> .ok (f a) q) d (f x) (dY ws s p bd).1 (o-1) dp (dY ws s p bd).2:=by
 unfold eo at h
 cases r with
 |out=>exact h.elim
 |bad a b=>
  obtain⟨rfl,rfl,rfl,h4,h5⟩:=h;rw[ll];exact⟨rfl,rfl,rfl,by omega,by omega⟩
 |ok a b=>
  obtain⟨rfl,rfl,h3,rfl,rfl⟩:=h;rw[Rs.bz];rcases eS (ws:=ws) (s:=s) (q:=p) with ⟨h1,h2⟩|⟨h1,h2⟩
  ·rw[h1,h2];exact⟨rfl,rfl,by omega,rfl,rfl⟩
  ·rw[h1,h2];exact⟨rfl,rfl,rfl,by omega,by omega⟩
end
theorem lp {w W W':World}{S:Nat→Prop}{x:Ex}{v:Value}{g:Nat}{T:TypeId}{cs:Array Value}(hr:cw W S x v)(p:lD W W' g T cs)(hb:∀b,S b→w.heap.size≤b∧b<W.heap.size∧b≠g):nN w x v W':=
 ⟨S,hr.mono (fun _ h=>h) (fun a ha=>World.cell?_of_block (p.grown.block _ (hb _ ha).2.1 (fun e=>by injection e with e;exact(hb _ ha).2.2 e))),fun b h=>⟨(hb b h).1,by have:=(hb b h).2.1;have:=p.size;omega⟩⟩
theorem cw.leaf {W:World}{S:Nat→Prop}{op n:Int}{nm:List Nat}(hop:bt op)(hn:bt n)(h1:∀c∈nm,c<256)(h2:nm.length≤9223372036854775807):cw W S (.mk op n nm []) (.agg #[.int .i64 op, .int .i64 n, .string (strOf nm), .slice none 0 0]):=
 cw.mk (args:=[]) (vs:=[]) rfl (by simp) hop hn h1 h2 (fun i e v h=>by simp at h) (fun h=>absurd rfl h)
theorem cw.one {W:World}{S:Nat→Prop}{op:Int}{x:Ex}{v:Value}{g:Nat}(hop:bt op)(hr:cw W S x v)(hb:aK W g 105 (aP [v]).toArray):cw W (fun b=>S b∨b=g) (.mk op 0 [] [x]) (.agg #[.int .i64 op, .int .i64 0, .string (strOf []), .slice (some ⟨g,0,none⟩) 1 1]):=by
 have hadd:(⟨g,0,none⟩:Addr).add=fun j=>⟨g,j,none⟩:=by funext j;unfold Addr.add;split<;>simp_all
 refine cw.mk (args:=[x]) (vs:=[v]) rfl (by simp) hop (by unfold bt;omega) (by simp) (by simp) (fun i e u h1 h2=> ?_) (fun _=>⟨⟨g,0,none⟩,rfl, .inr rfl,fun j u hu=> ?_⟩)
 ·match i,h1,h2 with
  |0,h1,h2=>
   simp at h1 h2;subst h1 h2;exact hr.mono (fun _ h=> .inl h) (fun _ _=>rfl)
  |i+1,h1,_=>simp at h1
 ·rw[hadd,hb.cell j]
  have hu2:(aP [v]).toArray[j]? =some u:=by simpa using hu
  exact hu2
theorem wA (ws:List Wd)(E0:Nat→Nat→Rs Ex)(p d:Nat):((aW ws [E0] p d).bind fun xs p=>Rs.ok (xs.getD 0 (.mk 0 0 [] [])) p)=(bE ws [40] p).bind fun _ q=>(cW q d).bind fun _ q=>(E0 q (d+1)).bind fun x q=>(bE ws [41] q).bind fun _ q=> .ok x q:=by
 unfold aW;simp only[bn,if_pos,Rs.bind_assoc,Rs.bz];rfl
theorem BP {ws:List Wd}{p:Nat}{s:List Nat}:qO ws p s=true↔(de ws p).kind=0∧(de ws p).text=s:=by
 unfold qO;simp
structure BG (K:Ctx)(w:World):Prop where
 rd:Reads w K.B 4 K.A K.ws.length (da K.ws)
 le:K.B≤K.g
 lt:K.B≤w.heap.size
theorem BG.step {K:Ctx}{w w':World}(h:BG K w)(hb:Below w.heap.size w w'):BG K w':=⟨h.rd.below (hb.mono h.lt),h.le,Nat.le_trans h.lt hb.size⟩
theorem BG.put {K:Ctx}{w w':World}{g:Nat}{T:TypeId}{cur cs:Array Value}{E:Prop}(h:BG K w)(k:aK w g T cur)(p:lD w w' g T cs)(_e:E)(hg:K.B≤g:=by omega):BG K w':=⟨h.rd.below (p.below hg k.lt),h.le,Nat.le_trans h.lt (Nat.le_of_eq p.size.symm)⟩
theorem SW.Dx {K:Ctx}{w:World}{p:Nat}{o:Int}{dp bd:Bool}(h:SW K w p o dp bd):BG K w:=⟨h.rd,h.le,by have:=h.av.lt;have:=h.le;omega⟩
theorem BG.sw {K:Ctx}{w:World}(h:BG K w){p:Nat}{o:Int}{dp bd:Bool}(hb:aK w K.g 183 #[.slice K.A K.ws.length K.c, .int .i64 (p:Int), .int .i64 o, .bool dp, .bool bd]) (hp:p≤K.ws.length) (ho:0≤o∧o≤1000):SW K w p o dp bd:=⟨hb,h.rd,hp,ho,h.le⟩
theorem uP (K:Ctx)(hK:K.Ok)(hW:uD K.ws)(p d:Nat)(S0 E0:Nat→Nat→Rs Ex)(hM:eV E0)(w:World)(sw0:SW K w p d false false)(hd:d≤64)
  (hS:∀(q d:Nat) W,p<q→d≤64→SW K W q d false false→Calls Tryz.prog 203 #[.pointer (some ⟨K.g,0,none⟩)] W (CR K W.heap.size W (eo (S0 q d) d) (nN W)))
  (hE:∀(q d:Nat) W,p<q→d≤64→SW K W q d false false→Calls Tryz.prog 160 #[.pointer (some ⟨K.g,0,none⟩), .int .i64 1] W (CR K W.heap.size W (eo (E0 q d) d) (nN W))):
  Calls Tryz.prog 203 #[.pointer (some ⟨K.g,0,none⟩)] w (CR K w.heap.size w (eo (bC K.ws S0 E0 p d) d) (nN w)):=by
 have ae:=Fz.refl w.heap.size K.g w;have k99:=sw0.av;have e99:K.g=K.g:=rfl;have hrd:=sw0.rd;have hlt:=sw0.av.lt;have hle:=hK.le;have hlen:=hK.len;have hpl:=sw0.bK;refine Zs 170 Tryz.func203 ?_;refine ao ?_;refine Zl ay ?_;intro g2 w1 n2;have e2:=Nat.le_trans ae.size n2.ge;have l2:=Nat.lt_of_lt_of_le k99.lt n2.ge;replace ae:=ae.step n2.below;replace k99:=k99.step n2.below;have k2:=n2.av;refine eh 0 2 (aJ (ao ?_));refine Zm ?_;refine Zv (aa.nilCheck rfl rfl) ?_;refine Zf 4 Tryz.underlying183 ?_;refine Zv (aa.ag rfl rfl Tryz.underlying4 rfl k99 rfl) ?_;refine bD 0 2 9 (Zt ?_);refine Cd.aN rfl rfl ?_;refine Cd.skip (aJ (Cd.seq ?_));refine Cd.draw 10 (by kernel_rfl) [] (.inl rfl) rfl Grow Grow.refl (fun _ _ _=>Grow.trans) ?_;intro w2 hw2 zw2;replace ae:=ae.step hw2;replace k99:=k99.step hw2;replace k2:=k2.step hw2;have zbel:=ae.size;have zlt:=k2.lt;refine cn ?_;refine Zd (fun w hG=>aa.nilCheck rfl rfl) ?_;refine Zd (fun w hG=>aa.an 1 rfl rfl Tryz.underlying183 rfl (by kernel_rfl)) ?_;refine Zd (fun w hG=>aa.ag rfl rfl Tryz.underlying3 rfl (k99.step hG) rfl) ?_;refine cn ?_;refine Zd (fun w hG=>aa.nilCheck rfl rfl) ?_;refine Zd (fun w hG=>aa.an 0 rfl rfl Tryz.underlying183 rfl (by kernel_rfl)) ?_;refine Zd (fun w hG=>aa.ag rfl rfl Tryz.underlying178 rfl (k99.step hG) rfl) ?_;refine Zd (fun w hG=>aa.len rfl rfl Tryz.underlying178) ?_;refine Zd (fun w hG=>aa.geq rfl rfl rfl) ?_;refine Dr.nil ?_;refine ba.done (F':=[(0,_),(2,_),(9,_),(20,_)]) rfl ⟨rfl,rfl,rfl,rfl,trivial⟩ ?_;intro w3 hw3 fw3;replace ae:=ae.step hw3;replace k99:=k99.step hw3;replace k2:=k2.step hw3;refine aV 0 2 9 20 (Zt ?_);refine Cd.au rfl (fun hc=> ?_) (fun hc=> ?_)
 ·have hR:bC K.ws S0 E0 p d= .bad p false:=qk (by omega) _ _ _
  refine ao ?_;refine Zm ?_;refine Zv (aa.nilCheck rfl rfl) ?_;refine Zf 4 Tryz.underlying183 ?_;refine Zq k99 ?_;intro w4 pw4;replace ae:=ae.put k99 pw4 e99;replace k2:=k2.put pw4 (by omega);replace k99:=pw4.av;refine aV 0 2 9 20 (aG ?_);refine Zv (aa.build rfl rfl (gT _)) ?_;have sw1:=sw0.to hle ae k99 hpl (by omega);have k2l:=k2.lt;refine Zo 4 k2 ?_;intro w5 pw5;replace ae:=ae.put k2 pw5 e2;replace k99:=k99.put pw5 (by omega);replace k2:=pw5.av;refine aV 0 2 9 20 (Zt (Cd.ret (ab.af ?_)));refine ab.cz rfl rfl k2 Tryz.underlying105 rfl (m:=4) (by kernel_rfl) rfl (.inl rfl) ?_;rw[hR];exact⟨ae,_,jJ,_,_,_,_,rfl,⟨fun _=>False,cw.zero _ _,fun b hb=>hb.elim⟩,sw0.to hle ae k99 hpl (by omega),rfl,rfl,rfl,by omega,by omega⟩
 have hp:p<K.ws.length:=by omega
 obtain⟨ad,hA,hadb,hcell⟩:=hrd.2 (by omega);obtain⟨x,hx⟩:∃x,K.ws[p]? =some x:=⟨_,List.getElem?_eq_getElem (by omega)⟩;have hat:=tS hx;obtain⟨a1,a2,a3,a4⟩:=hK.de p
 have hk03:0≤x.kind∧x.kind≤3:=by
  rcases hW x (List.mem_of_getElem? hx) with ⟨h1,-⟩|⟨h1,-⟩|⟨h1,-⟩|⟨h1,-⟩<;>rw[h1]<;>decide
 rw[hat] at a1 a2 a3 a4
 have hce:∀W,Below K.B w W→∀(q:Nat) (u:Value),([.int .i64 x.kind, .string (strOf x.text), .int .i64 x.n, .int .i64 (x.pos:Int)]:List Value)[q]? =some u→W.cell? ((ad.add (p*4)).add q)=some u:=fun W hb q u hu=>by
  rw[hb.cell (by rw[aw,aw];exact hadb),fF];exact hcell _ _ (gB K.ws p x hx q u hu)
 have hU:bC K.ws S0 E0 p d=if x.kind=0∧x.text=[33] then dw S0 19 p d else if x.kind=0∧x.text=[45] then dw S0 20 p d else eO K.ws E0 p d:=by
  unfold bC;simp only[BP,hat]
 have hAt:eO K.ws E0 p d=if x.kind=1 then .ok (.mk 1 x.n [] []) (p+1) else if x.kind=2 then .ok (.mk 2 x.n [] []) (p+1) else if x.kind=3 then
   if x.text=zP then .ok (.mk 4 0 [] []) (p+1) else if x.text=Au then bX K.ws E0 9 2 p d else if x.text=AI then bX K.ws E0 10 2 p d else if x.text=D7 then bX K.ws E0 21 3 p d else(dW K.ws p).bind fun nm p=> .ok (.mk 3 0 nm []) p
  else if x.kind=0 then(aW K.ws [E0] p d).bind fun xs p=> .ok (xs.getD 0 (.mk 0 0 [] [])) p else .bad p false:=by unfold eO;rw[hat]
 have hNm:dW K.ws p=if x.kind=3∧cq x.text=false then .ok x.text (p+1) else .bad p false:=by unfold dW;rw[hat]
 have hsb:=ae.size;rw[hA] at k99;refine Cd.skip (aJ ?_);refine Cd.draw 11 (by kernel_rfl) [] (.inl rfl) rfl Grow Grow.refl (fun _ _ _=>Grow.trans) ?_;intro w4 hw4 zw4;replace ae:=ae.step hw4;replace k99:=k99.step hw4;replace k2:=k2.step hw4;have zbel:=ae.size;have zlt:=k2.lt;refine cn ?_;refine Zd (fun w hG=>aa.nilCheck rfl rfl) ?_;refine Zd (fun w hG=>aa.an 0 rfl rfl Tryz.underlying183 rfl (by kernel_rfl)) ?_;refine Zd (fun w hG=>aa.ag rfl rfl Tryz.underlying178 rfl (k99.step hG) rfl) ?_;refine cn ?_;refine Zd (fun w hG=>aa.nilCheck rfl rfl) ?_;refine Zd (fun w hG=>aa.an 1 rfl rfl Tryz.underlying183 rfl (by kernel_rfl)) ?_;refine Zd (fun w hG=>aa.ag rfl rfl Tryz.underlying3 rfl (k99.step hG) rfl) ?_;refine Zd (fun w hG=>aa.bI rfl rfl rfl Tryz.underlying178 (s:=4) (by kernel_rfl) (j:=p) rfl (by omega)) ?_;refine Zd (fun w hG=>aa.ef (ps:=[.int .i64 x.kind, .string (strOf x.text), .int .i64 x.n, .int .i64 (x.pos:Int)]) rfl rfl Tryz.underlying211 rfl (m:=4) (by kernel_rfl) rfl (hce _ ((ae.below (by omega) hle).trans (hG.mono (by omega))))) ?_;refine Dr.alloc rfl rfl (pE aS) rfl ?_;refine Dr.nil ?_;refine ba.open (j:=10) rfl ?_;intro u10;refine ba.done (F':=[(0,_),(2,_),(3,_),(9,_),(20,_),(34,_)]) rfl ⟨rfl,rfl,rfl,rfl,rfl,rfl,trivial⟩ ?_;intro w5 hw5 fw5;replace ae:=ae.step hw5;replace k99:=k99.step hw5;replace k2:=k2.step hw5;obtain⟨-,g3,rfl,k3,e3⟩:=fw5;have l3:=Nat.lt_of_lt_of_le zlt e3;replace e3:=Nat.le_trans zbel e3;refine Zo 4 k3 ?_;intro w6 pw6;replace ae:=ae.put k3 pw6 e3;replace k99:=k99.put pw6 (by omega);replace k2:=k2.put pw6 (by omega);replace k3:=pw6.av;refine aU 0 2 3 9 20 (aJ (Cd.block (ao ?_)));refine Zf 0 Tryz.underlying211 ?_;refine Zv (aa.ag rfl rfl Tryz.underlying3 rfl k3 rfl) ?_;refine Zv (aa.aB rfl rfl rfl) ?_;refine Zm ?_;refine ah.start ?_;refine bM (fun hcx=>aa.an 0 rfl rfl Tryz.underlying211 rfl (by kernel_rfl)) ?_;refine ah.next rfl rfl rfl rfl rfl rfl rfl (fun hcx=>aa.ag rfl rfl Tryz.underlying3 rfl k3 rfl) ?_;refine ah.next rfl rfl rfl rfl rfl rfl rfl (fun hcx=>aa.aB rfl rfl rfl) ?_;refine ah.or rfl rfl rfl rfl rfl rfl rfl ?_;refine Za ?_;refine bj 0 2 3 9 20 35 (Zt ?_);refine Cd.cond rfl (fun hc=> ?_) (fun hc=> ?_)
 ·have hc:x.kind=1∨x.kind=2:=by simpa using hc
  have hR:bC K.ws S0 E0 p d= .ok (.mk x.kind x.n [] []) (p+1):=by
   rw[hU,if_neg (by omega),if_neg (by omega),hAt];rcases hc with h|h
   ·rw[if_pos h,h]
   ·rw[if_neg (by omega),if_pos h,h]
  refine ao ?_;refine Zm ?_;refine Zv (aa.nilCheck rfl rfl) ?_;refine Zf 1 Tryz.underlying183 ?_;refine Zv (aa.ag rfl rfl Tryz.underlying3 rfl k99 rfl) ?_;refine cH ?_;refine Zv (aa.nilCheck rfl rfl) ?_;refine Zf 1 Tryz.underlying183 ?_;refine Zq k99 ?_;intro w7 pw7;replace ae:=ae.put k99 pw7 e99;replace k2:=k2.put pw7 (by omega);replace k3:=k3.put pw7 (by omega);replace k99:=pw7.av;refine bj 0 2 3 9 20 35 (aG ?_);refine Zf 0 Tryz.underlying211 ?_;refine Zv (aa.ag rfl rfl Tryz.underlying3 rfl k3 rfl) ?_;refine Zf 2 Tryz.underlying211 ?_;refine Zv (aa.ag rfl rfl Tryz.underlying2 rfl k3 rfl) ?_;refine Zv (aa.build rfl rfl (kH _ _ _)) ?_;refine Zo 4 k2 ?_;intro w8 pw8;replace ae:=ae.put k2 pw8 e2;replace k99:=k99.put pw8 (by omega);replace k3:=k3.put pw8 (by omega);replace k2:=pw8.av;refine bj 0 2 3 9 20 35 (Zt (Cd.ret (ab.ak (ab.af ?_))));refine ab.cz rfl rfl k2 Tryz.underlying105 rfl (m:=4) (by kernel_rfl) rfl (.inl rfl) ?_;rw[hR];exact⟨ae,_,_,_,_,_,_,rfl,⟨fun _=>False,cw.leaf a1 a2 (by simp) (by simp),fun b hb=>hb.elim⟩,sw0.to hle ae (by rw[hA,Int.natCast_add];exact k99) (by omega) (by omega),rfl,rfl,rfl,rfl,rfl⟩
 have hc12:¬x.kind=1∧¬x.kind=2:=by simpa using hc
 clear hc;refine ao ?_;refine Zf 0 Tryz.underlying211 ?_;refine Zv (aa.ag rfl rfl Tryz.underlying3 rfl k3 rfl) ?_;refine Zv (aa.aB rfl rfl rfl) ?_;refine Zm ?_;refine ah.start ?_;refine bM (fun hcx=>aa.an 1 rfl rfl Tryz.underlying211 rfl (by kernel_rfl)) ?_;refine ah.next rfl rfl rfl rfl rfl rfl rfl (fun hcx=>aa.ag rfl rfl Tryz.underlying9 rfl k3 rfl) ?_;refine ah.next rfl rfl rfl rfl rfl rfl rfl (fun hcx=>aa.cF (b:=[33]) rfl rfl rfl a3 (by decide)) ?_;refine ah.next rfl rfl rfl rfl rfl rfl rfl (fun hcx=>aa.move rfl rfl) ?_;refine bM (fun hcx=>aa.an 1 rfl rfl Tryz.underlying211 rfl (by kernel_rfl)) ?_;refine ah.next rfl rfl rfl rfl rfl rfl rfl (fun hcx=>aa.ag rfl rfl Tryz.underlying9 rfl k3 rfl) ?_;refine ah.next rfl rfl rfl rfl rfl rfl rfl (fun hcx=>aa.cF (b:=[45]) rfl rfl rfl a3 (by decide)) ?_;refine ah.zo rfl rfl rfl rfl rfl rfl rfl rfl rfl rfl rfl ?_;refine ah.and rfl rfl rfl rfl rfl rfl rfl ?_;refine Za ?_;refine bb 0 2 3 9 20 35 56 (Zt ?_);refine Cd.cond rfl (fun hc=> ?_) (fun hc=> ?_)
 ·have hc:x.kind=0∧(x.text=[33]∨x.text=[45]):=by simpa using hc
  obtain⟨op,hop⟩:∃op:Int,op=if x.text=[33] then 19 else 20:=⟨_,rfl⟩;have hop64:bt op:=by rw[hop];unfold bt;split<;>omega
  have hR:bC K.ws S0 E0 p d=dw S0 op p d:=by
   rw[hU,hop]
   by_cases h1:x.text=[33]
   ·rw[if_pos ⟨hc.1,h1⟩,if_pos h1]
   ·rw[if_neg (fun h=>h1 h.2),if_neg h1]
    rcases hc.2 with h|h
    ·exact absurd h h1
    ·rw[if_pos ⟨hc.1,h⟩]
  have hen:=jr K hK p d false false _ (sw0.to hle ae (by rw[hA];exact k99) hpl (by omega)) (by omega);have k2l:=k2.lt;have k3l:=k3.lt;refine ao ?_;refine Zm ?_;refine Zc (Ze Tryz.func158) hen ?_;rintro e we ⟨⟨ve,rfl⟩,hfe,swe⟩;refine⟨_,rfl,?_⟩;have bele:=ae.call hfe;have k2e:=k2.fz hfe (by omega);have k3e:=k3.fz hfe (by omega);have hse:=hfe.size;clear ae k2 k3 k99 hen;have ae:=bele;have k2:=k2e;have k3:=k3e
  by_cases h64:64<(d:Int)+1
  ·rw[if_pos ⟨h64,rfl⟩] at swe
   have hR2:bC K.ws S0 E0 p d= .bad p true:=by
    rw[hR];unfold dw cW;rw[if_pos (by omega)];rfl
   have k99:=swe.av;refine bb 0 2 3 9 20 35 56 (aJ (ao ?_));refine Zm ?_;refine Zv (aa.nilCheck rfl rfl) ?_;refine Zf 4 Tryz.underlying183 ?_;refine Zv (aa.ag rfl rfl Tryz.underlying4 rfl k99 rfl) ?_;refine cI 0 2 3 9 20 35 56 75 (Zt ?_);refine Cd.aX rfl rfl ?_;refine ao ?_;refine Zv (aa.build rfl rfl (gT _)) ?_;refine Zo 4 k2 ?_;intro w7 pw7;replace ae:=ae.put k2 pw7 e2;replace k3:=k3.put pw7 (by omega);replace k99:=k99.put pw7 (by omega);replace k2:=pw7.av;refine cI 0 2 3 9 20 35 56 75 (Zt (Cd.ret (ab.af (ab.ak (ab.af ?_)))));refine ab.cz rfl rfl k2 Tryz.underlying105 rfl (m:=4) (by kernel_rfl) rfl (.inl rfl) ?_;rw[hR2];exact⟨ae,_,jJ,_,_,_,_,rfl,⟨fun _=>False,cw.zero _ _,fun b hb=>hb.elim⟩,sw0.to hle ae k99 hpl (by omega),rfl,rfl,rfl,by omega,by omega⟩
  rw[if_neg (fun h=>h64 h.1)] at swe
  have hR2:bC K.ws S0 E0 p d=(S0 (p+1) (d+1)).bind fun x q=> .ok (.mk op 0 [] [x]) q:=by
   rw[hR];unfold dw cW;rw[if_neg (by omega),Rs.bz]
  have k99:=swe.av;have loc:=swe.Dx;refine bb 0 2 3 9 20 35 56 (aJ (ao ?_));refine Zm ?_;refine Zv (aa.nilCheck rfl rfl) ?_;refine Zf 4 Tryz.underlying183 ?_;refine Zv (aa.ag rfl rfl Tryz.underlying4 rfl k99 rfl) ?_;refine cI 0 2 3 9 20 35 56 75 (Zt ?_);refine Cd.aN rfl rfl ?_;refine Cd.skip (aG ?_);refine Zm ?_;refine Zv (aa.nilCheck rfl rfl) ?_;refine Zf 1 Tryz.underlying183 ?_;refine Zv (aa.ag rfl rfl Tryz.underlying3 rfl k99 rfl) ?_;refine cH ?_;refine Zv (aa.nilCheck rfl rfl) ?_;refine Zf 1 Tryz.underlying183 ?_;refine Zq k99 ?_;intro w7 pw7;replace ae:=ae.put k99 pw7 e99;replace k2:=k2.put pw7 (by omega);replace k3:=k3.put pw7 (by omega);replace loc:=loc.put k99 pw7 e99;replace k99:=pw7.av;refine cI 0 2 3 9 20 35 56 75 (aG ?_);refine Zm ?_;have swn:SW K _ (p+1) ((d+1:Nat):Int) false false:=loc.sw (by rw[Int.natCast_add,Int.natCast_add];exact k99) (by omega) (by omega);have hcl:=hS (p+1) (d+1) _ (by omega) (by omega) swn;clear loc k99;have hsb:=ae.size;have k2l:=k2.lt;have k3l:=k3.lt;refine Zc (Ze Tryz.func203) hcl ?_;rintro e w6 ⟨hf6,v6,y,p6,o6,dp6,bd6,rfl,⟨S6,hr6,hb6⟩,sw6,hres⟩;refine⟨_,rfl,?_⟩;have bel6:=ae.call hf6;have k26:=k2.fz hf6 (by omega);have k36:=k3.fz hf6 (by omega);have hs6:=hf6.size;clear ae k2 k3 hcl;have ae:=bel6;have k2:=k26;have k3:=k36;have k99:=sw6.av;have loc:=sw6.Dx;have rs:zn _ w6.heap.size S6 y v6 w6:=⟨hr6,hb6,Nat.le_refl _⟩;have hones:=hr6.aY;have ho6:=AU hres;obtain⟨AX,cX,hvX⟩:=hr6.form;subst hvX;refine Zl ay ?_;intro g4 w8 n4;have q4:=n4.ge;have e4:=Nat.le_trans ae.size n4.ge;have l4:=Nat.lt_of_lt_of_le k99.lt n4.ge;have l4_k2:=Nat.lt_of_lt_of_le k2.lt n4.ge;have l4_k3:=Nat.lt_of_lt_of_le k3.lt n4.ge;replace ae:=ae.step n4.below;replace k2:=k2.step n4.below;replace k3:=k3.step n4.below;replace k99:=k99.step n4.below;replace loc:=loc.step n4.below;replace rs:=rs.step n4.below;have k4:=n4.av;refine Zo 4 k4 ?_;intro w9 pw9;replace ae:=ae.put k4 pw9 e4;replace k2:=k2.put pw9 (by omega);replace k3:=k3.put pw9 (by omega);replace k99:=k99.put pw9 (by omega);replace loc:=loc.put k4 pw9 e4;replace rs:=rs.put k4 pw9 e4;replace k4:=pw9.av;refine dG 0 2 3 4 9 20 35 56 75 (aG ?_);refine Zm ?_;refine Zv (aa.nilCheck rfl rfl) ?_;refine Zf 2 Tryz.underlying183 ?_;refine Zv (aa.ag rfl rfl Tryz.underlying3 rfl k99 rfl) ?_;refine Zv (aa.eU rfl rfl rfl (by omega) (by omega)) ?_;refine Zv (aa.nilCheck rfl rfl) ?_;refine Zf 2 Tryz.underlying183 ?_;refine Zq k99 ?_;intro w10 pw10;replace ae:=ae.put k99 pw10 e99;replace k2:=k2.put pw10 (by omega);replace k3:=k3.put pw10 (by omega);replace loc:=loc.put k99 pw10 e99;replace rs:=rs.put k99 pw10 e99;replace k4:=k4.put pw10 (by omega);replace k99:=pw10.av;refine dG 0 2 3 4 9 20 35 56 75 (aJ (ao ?_));refine Zf 1 Tryz.underlying211 ?_;refine Zv (aa.ag rfl rfl Tryz.underlying9 rfl k3 rfl) ?_;refine Zv (aa.cF (b:=[33]) rfl rfl rfl a3 (by decide)) ?_;refine dg 0 2 3 4 9 20 35 56 75 95 (Zt ?_);refine Cd.au rfl (fun hc2=> ?_) (fun hc2=> ?_)
  ·rw[if_pos hc2] at hop
   subst hop;refine ao ?_;refine Zv (aa.aQ rfl rfl Tryz.underlying105 rfl k4 (m:=4) (by kernel_rfl) rfl) ?_;refine Seq.slice (vs:=[_]) (s:=4) rfl rfl rfl Tryz.underlying68 (by kernel_rfl) (ay) (by omega) (by omega) ⟨rfl,trivial⟩ rfl rfl rfl ?_;intro g97 w11 n97;have q97:=n97.ge;have e97:=Nat.le_trans ae.size n97.ge;have l97:=Nat.lt_of_lt_of_le k4.lt n97.ge;have l97_k2:=Nat.lt_of_lt_of_le k2.lt n97.ge;have l97_k3:=Nat.lt_of_lt_of_le k3.lt n97.ge;have l97_k99:=Nat.lt_of_lt_of_le k99.lt n97.ge;replace ae:=ae.step n97.below;replace k2:=k2.step n97.below;replace k3:=k3.step n97.below;replace k99:=k99.step n97.below;replace loc:=loc.step n97.below;replace rs:=rs.step n97.below;replace k4:=k4.step n97.below;have k97:=n97.av;refine Zv (aa.build rfl rfl (gR 19 _ _)) ?_;have k2b:=k2;have rsb:=rs;have k97b:=k97;refine Zo 4 k2 ?_;intro w12 pw12;replace ae:=ae.put k2 pw12 e2;replace k3:=k3.put pw12 (by omega);replace k99:=k99.put pw12 (by omega);replace loc:=loc.put k2 pw12 e2;replace rs:=rs.put k2 pw12 e2;replace k4:=k4.put pw12 (by omega);replace k97:=k97.put pw12 (by omega);replace k2:=pw12.av;refine dg 0 2 3 4 9 20 35 56 75 95 (Zt (Cd.ret (ab.af (ab.ak (ab.af ?_)))));refine ab.cz rfl rfl k2 Tryz.underlying105 rfl (m:=4) (by kernel_rfl) rfl (.inl rfl) ?_;rw[hR2]
   exact⟨ae,_,_,_,_,_,_,rfl,lp (cw.one hop64 rsb.rep k97b) pw12 (fun b hb=>by
    rcases hb with hb|rfl
    ·have:=rsb.bd b hb;have:=rsb.eH;omega
    ·have:=k97b.lt;omega),loc.sw k99 sw6.bK (by omega),xu (f:=fun y=>Ex.mk 19 0 [] [y]) hres⟩
  ·rw[if_neg hc2] at hop
   subst hop;refine Cd.skip (aG ?_);refine Zv (aa.aQ rfl rfl Tryz.underlying105 rfl k4 (m:=4) (by kernel_rfl) rfl) ?_;refine Seq.slice (vs:=[_]) (s:=4) rfl rfl rfl Tryz.underlying68 (by kernel_rfl) (ay) (by omega) (by omega) ⟨rfl,trivial⟩ rfl rfl rfl ?_;intro g100 w11 n100;have q100:=n100.ge;have e100:=Nat.le_trans ae.size n100.ge;have l100:=Nat.lt_of_lt_of_le k4.lt n100.ge;have l100_k2:=Nat.lt_of_lt_of_le k2.lt n100.ge;have l100_k3:=Nat.lt_of_lt_of_le k3.lt n100.ge;have l100_k99:=Nat.lt_of_lt_of_le k99.lt n100.ge;replace ae:=ae.step n100.below;replace k2:=k2.step n100.below;replace k3:=k3.step n100.below;replace k99:=k99.step n100.below;replace loc:=loc.step n100.below;replace rs:=rs.step n100.below;replace k4:=k4.step n100.below;have k100:=n100.av;refine Zv (aa.build rfl rfl (gR 20 _ _)) ?_;have k2b:=k2;have rsb:=rs;have k100b:=k100;refine Zo 4 k2 ?_;intro w12 pw12;replace ae:=ae.put k2 pw12 e2;replace k3:=k3.put pw12 (by omega);replace k99:=k99.put pw12 (by omega);replace loc:=loc.put k2 pw12 e2;replace rs:=rs.put k2 pw12 e2;replace k4:=k4.put pw12 (by omega);replace k100:=k100.put pw12 (by omega);replace k2:=pw12.av;refine dg 0 2 3 4 9 20 35 56 75 95 (Zt (Cd.ret (ab.ak (ab.af ?_))));refine ab.cz rfl rfl k2 Tryz.underlying105 rfl (m:=4) (by kernel_rfl) rfl (.inl rfl) ?_;rw[hR2]
   exact⟨ae,_,_,_,_,_,_,rfl,lp (cw.one hop64 rsb.rep k100b) pw12 (fun b hb=>by
    rcases hb with hb|rfl
    ·have:=rsb.bd b hb;have:=rsb.eH;omega
    ·have:=k100b.lt;omega),loc.sw k99 sw6.bK (by omega),xu (f:=fun y=>Ex.mk 20 0 [] [y]) hres⟩
 have hcs:¬(x.kind=0∧(x.text=[33]∨x.text=[45])):=by simpa using hc
 have hR:bC K.ws S0 E0 p d=eO K.ws E0 p d:=by
  rw[hU,if_neg (fun h=>hcs ⟨h.1, .inl h.2⟩),if_neg (fun h=>hcs ⟨h.1, .inr h.2⟩)]
 rw[hAt,if_neg hc12.1,if_neg hc12.2] at hR;clear hc hU hAt hcs;refine ao ?_;refine Zf 0 Tryz.underlying211 ?_;refine Zv (aa.ag rfl rfl Tryz.underlying3 rfl k3 rfl) ?_;refine Zv (aa.aB rfl rfl rfl) ?_;refine Za ?_;refine cI 0 2 3 9 20 35 56 102 (Zt ?_);refine Cd.au rfl (fun h0=> ?_) (fun h0=> ?_)
 ·rw[if_neg (by omega),if_pos h0,wA] at hR
  have hta:=fQ K hK p d false false [40] _ (sw0.to hle ae (by rw[hA];exact k99) hpl (by omega)) (by decide) (by decide);have k2l:=k2.lt;refine ao ?_;refine Zm ?_;refine Zc (Ze Tryz.func157) hta ?_;rintro e w5 ⟨⟨v5,rfl⟩,hf5,sw5⟩;refine⟨_,rfl,?_⟩;have bel5:=ae.call hf5;have k25:=k2.fz hf5 (by omega);have hs5:=hf5.size;clear ae k2 k3 k99 hta;have ae:=bel5;have k2:=k25;have hen:=jr K hK _ _ _ _ _ sw5 (by omega);refine cI 0 2 3 9 20 35 56 102 (aG ?_);refine Zm ?_;refine Zc (Ze Tryz.func158) hen ?_;rintro e we ⟨⟨ve,rfl⟩,hfe,swe⟩;refine⟨_,rfl,?_⟩;have bele:=ae.call hfe;have k2e:=k2.fz hfe (by omega);have hse:=hfe.size;clear ae k2;have ae:=bele;have k2:=k2e
  have hst:∃(q:Nat) (dp bd:Bool),SW K we q (d+1) dp bd∧(bd=false→dp=false∧p<q∧d+1≤64∧bC K.ws S0 E0 p d=(E0 q (d+1)).bind fun x q=>(bE K.ws [41] q).bind fun _ q=> .ok x q)∧(bd=true→bC K.ws S0 E0 p d= .bad q dp):=by
   rcases eS (ws:=K.ws) (s:=[40]) (q:=p) with ⟨h1,h2⟩|⟨h1,h2⟩
   ·rw[h1] at swe
    dsimp only at swe;rw[h2,Rs.bz] at hR
    by_cases h64:64<(d:Int)+1
    ·rw[if_pos ⟨h64,rfl⟩] at swe
     refine⟨_,_,_,swe,fun h=>(by cases h),fun _=> ?_⟩;rw[hR];unfold cW;rw[if_pos (by omega)];rfl
    ·rw[if_neg (fun h=>h64 h.1)] at swe
     refine⟨_,_,_,swe,fun _=>⟨rfl,by omega,by omega,?_⟩,fun h=>by cases h⟩;rw[hR];unfold cW;rw[if_neg (by omega),Rs.bz]
   ·rw[h1] at swe
    dsimp only at swe;rw[h2,Rs.ka] at hR;rw[if_neg (fun h=>by cases h.2),if_neg (fun h=>by cases h.2)] at swe;exact⟨_,_,_,swe,fun h=>(by cases h),fun _=>hR⟩
  clear swe sw5 hen;obtain⟨q,dp,bd,sw,hgood,hbad⟩:=hst
  have hcl:Calls Tryz.prog 160 #[.pointer (some ⟨K.g,0,none⟩), .int .i64 1] we (CR K we.heap.size we (fun x p o dp' bd'=>(bd=false→eo (E0 q (d+1)) (d+1) x p o dp' bd')∧(bd=true→uj q ((d:Int)+1) dp x p o dp' bd')) (nN we)):=by
   cases bd with
   |false=>
    obtain⟨hg1,hg2,hg3,-⟩:=hgood rfl;subst hg1;refine(hE q (d+1) we hg2 hg3 (by rw[Int.natCast_add];exact sw)).mono fun e W' h=> ?_;obtain⟨hf,v,x,p',o',dp',bd',rfl,h2,h3,h4⟩:=h;exact⟨hf,v,x,p',o',dp',bd',rfl,h2,h3,fun _=>h4,fun h=>by cases h⟩
   |true=>
    refine(nF K hK q _ dp 1 we sw).mono fun e W' h=> ?_;obtain⟨hb,rfl⟩:=h;exact⟨Fz.of hb,_,jJ,q,_,dp,true,rfl,⟨fun _=>False,cw.zero _ _,fun b hb=>hb.elim⟩,sw.step hb,fun h=>(by cases h),fun _=>⟨rfl,rfl,rfl,rfl⟩⟩
  have k2l:=k2.lt;have hsb:=ae.size;refine cI 0 2 3 9 20 35 56 102 (aG ?_);refine Zm ?_;refine Zc (Ze Tryz.func160) hcl ?_;rintro e w6 ⟨hf6,v6,y,p6,o6,dp6,bd6,rfl,⟨S6,hr6,hb6⟩,sw6,hpf1,hpf2⟩;refine⟨_,rfl,?_⟩;have bel6:=ae.call hf6;have k26:=k2.fz hf6 (by omega);have hs6:=hf6.size
  have hres:1≤o6∧o6≤66∧eo (bC K.ws S0 E0 p d) d y (dY K.ws [41] p6 bd6).1 (o6-1) dp6 (dY K.ws [41] p6 bd6).2:=by
   cases bd with
   |false=>
    obtain⟨-,-,-,hR2⟩:=hgood rfl;have hres:=hpf1 rfl;have:=AU hres;rw[hR2];exact⟨by omega,by omega,vi (f:=fun y=>y) hres⟩
   |true=>
    obtain⟨rfl,rfl,rfl,rfl⟩:=hpf2 rfl;rw[hbad rfl,ll];exact⟨by omega,by omega,rfl,rfl,rfl,by omega,by omega⟩
  clear ae k2 hcl hgood hbad hpf1 hpf2 hR sw;obtain⟨ho1,ho2,hres⟩:=hres;have ae:=bel6;have k2:=k26;have rs:zn _ w6.heap.size S6 y v6 w6:=⟨hr6,hb6,Nat.le_refl _⟩;have hones:=hr6.aY;obtain⟨AX,cX,hvX⟩:=hr6.form;subst hvX;have sw7:=sw6;clear sw6;refine Zl ay ?_;intro g5 w7 n5;have q5:=n5.ge;have e5:=Nat.le_trans ae.size n5.ge;have l5:=Nat.lt_of_lt_of_le k2.lt n5.ge;replace ae:=ae.step n5.below;replace k2:=k2.step n5.below;replace rs:=rs.step n5.below;replace sw7:=sw7.step n5.below;have k5:=n5.av;refine Zo 4 k5 ?_;intro w8 pw8;replace ae:=ae.put k5 pw8 e5;replace k2:=k2.put pw8 (by omega);replace rs:=rs.put k5 pw8 e5;replace sw7:=sw7.put k5 pw8 e5;replace k5:=pw8.av;refine dG 0 2 3 5 9 20 35 56 102 (aG ?_);refine Zm ?_;have hta:=fQ K hK p6 o6 dp6 bd6 [41] _ sw7 (by decide) (by decide);have k5l:=k5.lt;refine Zc (Ze Tryz.func157) hta ?_;rintro e w8 ⟨⟨v8,rfl⟩,hf8,sw8⟩;refine⟨_,rfl,?_⟩;have bel8:=ae.call hf8;have k28:=k2.fz hf8 (by omega);have k58:=k5.fz hf8 (by omega);have hs8:=hf8.size;have rs8:zn we.heap.size w6.heap.size S6 y _ w8:=⟨rs.rep.mono (fun _ h=>h) (fun a ha=>World.cell?_of_block (hf8.block _ (Nat.lt_of_lt_of_le (rs.bd _ ha).2 rs.eH) (by have:=(rs.bd _ ha).1;omega))),rs.bd,Nat.le_trans rs.eH hs8⟩;clear ae k2 k5 rs sw7 hta;have ae:=bel8;have k2:=k28;have k5:=k58;have rs:=rs8;have k99:=sw8.av;have loc:=sw8.Dx;refine dG 0 2 3 5 9 20 35 56 102 (aG ?_);refine Zm ?_;refine Zv (aa.nilCheck rfl rfl) ?_;refine Zf 2 Tryz.underlying183 ?_;refine Zv (aa.ag rfl rfl Tryz.underlying3 rfl k99 rfl) ?_;refine Zv (aa.eU rfl rfl rfl (by omega) (by omega)) ?_;refine Zv (aa.nilCheck rfl rfl) ?_;refine Zf 2 Tryz.underlying183 ?_;refine Zq k99 ?_;intro w9 pw9;replace ae:=ae.put k99 pw9 e99;replace k2:=k2.put pw9 (by omega);replace rs:=rs.put k99 pw9 e99;replace k5:=k5.put pw9 (by omega);replace loc:=loc.put k99 pw9 e99;replace k99:=pw9.av;refine dG 0 2 3 5 9 20 35 56 102 (aG ?_);refine Zv (aa.aQ rfl rfl Tryz.underlying105 rfl k5 (m:=4) (by kernel_rfl) rfl) ?_;have rsb:=rs;refine Zo 4 k2 ?_;intro w10 pw10;replace ae:=ae.put k2 pw10 e2;replace rs:=rs.put k2 pw10 e2;replace k5:=k5.put pw10 (by omega);replace k99:=k99.put pw10 (by omega);replace loc:=loc.put k2 pw10 e2;replace k2:=pw10.av;refine dG 0 2 3 5 9 20 35 56 102 (Zt (Cd.ret (ab.ak (ab.af ?_))));refine ab.cz rfl rfl k2 Tryz.underlying105 rfl (m:=4) (by kernel_rfl) rfl (.inl rfl) ?_;exact⟨ae,_,_,_,_,_,_,rfl,lp rsb.rep pw10 (fun b hb=>by have:=rsb.bd b hb;have:=rsb.eH;omega),loc.sw k99 sw8.bK (by omega),hres⟩
 have h3:x.kind=3:=by omega
 rw[if_pos h3] at hR;refine ao ?_;refine Zf 1 Tryz.underlying211 ?_;refine Zv (aa.ag rfl rfl Tryz.underlying9 rfl k3 rfl) ?_;refine Zv (aa.cF (b:=zP) rfl rfl rfl a3 (by decide)) ?_;refine Za ?_;refine dG 0 2 3 9 20 35 56 102 122 (Zt ?_);refine Cd.au rfl (fun hc=> ?_) (fun hc=> ?_)
 ·rw[if_pos hc] at hR
  refine ao ?_;refine Zm ?_;refine Zv (aa.nilCheck rfl rfl) ?_;refine Zf 1 Tryz.underlying183 ?_;refine Zv (aa.ag rfl rfl Tryz.underlying3 rfl k99 rfl) ?_;refine cH ?_;refine Zv (aa.nilCheck rfl rfl) ?_;refine Zf 1 Tryz.underlying183 ?_;refine Zq k99 ?_;intro w7 pw7;replace ae:=ae.put k99 pw7 e99;replace k2:=k2.put pw7 (by omega);replace k3:=k3.put pw7 (by omega);replace k99:=pw7.av;refine dG 0 2 3 9 20 35 56 102 122 (aG ?_);refine Zv (aa.build rfl rfl (gh 4 _)) ?_;refine Zo 4 k2 ?_;intro w8 pw8;replace ae:=ae.put k2 pw8 e2;replace k99:=k99.put pw8 (by omega);replace k3:=k3.put pw8 (by omega);replace k2:=pw8.av;refine dG 0 2 3 9 20 35 56 102 122 (Zt (Cd.ret (ab.ak (ab.af ?_))));refine ab.cz rfl rfl k2 Tryz.underlying105 rfl (m:=4) (by kernel_rfl) rfl (.inl rfl) ?_;rw[hR];exact⟨ae,_,_,_,_,_,_,rfl,⟨fun _=>False,cw.leaf (by unfold bt;omega) (by unfold bt;omega) (by simp) (by simp),fun b hb=>hb.elim⟩,sw0.to hle ae (by rw[hA,Int.natCast_add];exact k99) (by omega) (by omega),rfl,rfl,rfl,rfl,rfl⟩
 rw[if_neg hc] at hR;refine ao ?_;refine Zf 1 Tryz.underlying211 ?_;refine Zv (aa.ag rfl rfl Tryz.underlying9 rfl k3 rfl) ?_;refine Zv (aa.cF (b:=Au) rfl rfl rfl a3 (by decide)) ?_;refine Za ?_;refine dg 0 2 3 9 20 35 56 102 122 134 (Zt ?_);refine Cd.au rfl (fun hc=> ?_) (fun hc=> ?_)
 ·rw[if_pos hc] at hR
  refine ao ?_;refine Zm ?_;have har:=qd K hK 9 2 p d E0 hM _ (sw0.to hle ae (by rw[hA];exact k99) hpl (by omega)) (by omega) hd (by omega) (by unfold bt;omega) hE;have k2l:=k2.lt;have hsb:=ae.size;refine Zc (Ze Tryz.func229) har ?_;rintro e w6 ⟨hf6,v6,y,p6,o6,dp6,bd6,rfl,⟨S6,hr6,hb6⟩,sw6,hres⟩;refine⟨_,rfl,?_⟩;have bel6:=ae.call hf6;have k26:=k2.fz hf6 (by omega);clear ae k2 k3 k99 har;have ae:=bel6;have k2:=k26;have hones:=hr6.aY;obtain⟨AX,cX,hvX⟩:=hr6.form;subst hvX;refine Zo 4 k2 ?_;intro w7 pw7;replace ae:=ae.put k2 pw7 e2;replace k2:=pw7.av;refine dg 0 2 3 9 20 35 56 102 122 134 (Zt (Cd.ret (ab.ak (ab.af ?_))));refine ab.cz rfl rfl k2 Tryz.underlying105 rfl (m:=4) (by kernel_rfl) rfl (.inl rfl) ?_;rw[hR];exact⟨ae,_,_,_,_,_,_,rfl,lp hr6 pw7 (fun b hb=>by have:=hb6 b hb;omega),sw6.put k26 pw7 trivial,hres⟩
 rw[if_neg hc] at hR;refine ao ?_;refine Zf 1 Tryz.underlying211 ?_;refine Zv (aa.ag rfl rfl Tryz.underlying9 rfl k3 rfl) ?_;refine Zv (aa.cF (b:=AI) rfl rfl rfl a3 (by decide)) ?_;refine Za ?_;refine dr 0 2 3 9 20 35 56 102 122 134 140 (Zt ?_);refine Cd.au rfl (fun hc=> ?_) (fun hc=> ?_)
 ·rw[if_pos hc] at hR
  refine ao ?_;refine Zm ?_;have har:=qd K hK 10 2 p d E0 hM _ (sw0.to hle ae (by rw[hA];exact k99) hpl (by omega)) (by omega) hd (by omega) (by unfold bt;omega) hE;have k2l:=k2.lt;have hsb:=ae.size;refine Zc (Ze Tryz.func229) har ?_;rintro e w6 ⟨hf6,v6,y,p6,o6,dp6,bd6,rfl,⟨S6,hr6,hb6⟩,sw6,hres⟩;refine⟨_,rfl,?_⟩;have bel6:=ae.call hf6;have k26:=k2.fz hf6 (by omega);clear ae k2 k3 k99 har;have ae:=bel6;have k2:=k26;have hones:=hr6.aY;obtain⟨AX,cX,hvX⟩:=hr6.form;subst hvX;refine Zo 4 k2 ?_;intro w7 pw7;replace ae:=ae.put k2 pw7 e2;replace k2:=pw7.av;refine dr 0 2 3 9 20 35 56 102 122 134 140 (Zt (Cd.ret (ab.ak (ab.af ?_))));refine ab.cz rfl rfl k2 Tryz.underlying105 rfl (m:=4) (by kernel_rfl) rfl (.inl rfl) ?_;rw[hR];exact⟨ae,_,_,_,_,_,_,rfl,lp hr6 pw7 (fun b hb=>by have:=hb6 b hb;omega),sw6.put k26 pw7 trivial,hres⟩
 rw[if_neg hc] at hR;refine ao ?_;refine Zf 1 Tryz.underlying211 ?_;refine Zv (aa.ag rfl rfl Tryz.underlying9 rfl k3 rfl) ?_;refine Zv (aa.cF (b:=D7) rfl rfl rfl a3 (by decide)) ?_;refine Za ?_;refine fG 0 2 3 9 20 35 56 102 122 134 140 146 (Zt ?_);refine Cd.au rfl (fun hc=> ?_) (fun hc=> ?_)
 ·rw[if_pos hc] at hR
  refine ao ?_;refine Zm ?_;have har:=qd K hK 21 3 p d E0 hM _ (sw0.to hle ae (by rw[hA];exact k99) hpl (by omega)) (by omega) hd (by omega) (by unfold bt;omega) hE;have k2l:=k2.lt;have hsb:=ae.size;refine Zc (Ze Tryz.func229) har ?_;rintro e w6 ⟨hf6,v6,y,p6,o6,dp6,bd6,rfl,⟨S6,hr6,hb6⟩,sw6,hres⟩;refine⟨_,rfl,?_⟩;have bel6:=ae.call hf6;have k26:=k2.fz hf6 (by omega);clear ae k2 k3 k99 har;have ae:=bel6;have k2:=k26;have hones:=hr6.aY;obtain⟨AX,cX,hvX⟩:=hr6.form;subst hvX;refine Zo 4 k2 ?_;intro w7 pw7;replace ae:=ae.put k2 pw7 e2;replace k2:=pw7.av;refine fG 0 2 3 9 20 35 56 102 122 134 140 146 (Zt (Cd.ret (ab.ak (ab.af ?_))));refine ab.cz rfl rfl k2 Tryz.underlying105 rfl (m:=4) (by kernel_rfl) rfl (.inl rfl) ?_;rw[hR];exact⟨ae,_,_,_,_,_,_,rfl,lp hr6 pw7 (fun b hb=>by have:=hb6 b hb;omega),sw6.put k26 pw7 trivial,hres⟩
 rw[if_neg hc] at hR;refine ao ?_;refine Zf 1 Tryz.underlying211 ?_;refine Zv (aa.ag rfl rfl Tryz.underlying9 rfl k3 rfl) ?_;refine Zc (Ze Tryz.func159) (jU x.text _ a3) ?_;rintro e w6 ⟨rfl,hb6⟩;refine⟨_,rfl,?_⟩;replace ae:=ae.step hb6;replace k99:=k99.step hb6;replace k2:=k2.step hb6;replace k3:=k3.step hb6;refine Za ?_;refine gF 0 2 3 9 20 35 56 102 122 134 140 146 152 (Zt ?_);rw[hNm] at hR;refine Cd.cond rfl (fun hc=> ?_) (fun hc=> ?_)
 ·rw[if_neg (by rw[hc];simp)] at hR
  refine ao ?_;refine Zm ?_;refine Zv (aa.nilCheck rfl rfl) ?_;refine Zf 4 Tryz.underlying183 ?_;refine Zq k99 ?_;intro w7 pw7;replace ae:=ae.put k99 pw7 e99;replace k2:=k2.put pw7 (by omega);replace k3:=k3.put pw7 (by omega);replace k99:=pw7.av;refine gF 0 2 3 9 20 35 56 102 122 134 140 146 152 (aG ?_);refine Zv (aa.build rfl rfl (gT _)) ?_;refine Zo 4 k2 ?_;intro w8 pw8;replace ae:=ae.put k2 pw8 e2;replace k99:=k99.put pw8 (by omega);replace k3:=k3.put pw8 (by omega);replace k2:=pw8.av;refine gF 0 2 3 9 20 35 56 102 122 134 140 146 152 (Zt (Cd.ret (ab.ak (ab.af ?_))));refine ab.cz rfl rfl k2 Tryz.underlying105 rfl (m:=4) (by kernel_rfl) rfl (.inl rfl) ?_;rw[hR];exact⟨ae,_,jJ,_,_,_,_,rfl,⟨fun _=>False,cw.zero _ _,fun b hb=>hb.elim⟩,sw0.to hle ae (by rw[hA];exact k99) hpl (by omega),rfl,rfl,rfl,by omega,by omega⟩
 ·rw[if_pos ⟨h3,hc⟩,Rs.bz] at hR
  refine Cd.skip (ab.aj (aG ?_));refine Zm ?_;refine Zv (aa.nilCheck rfl rfl) ?_;refine Zf 1 Tryz.underlying183 ?_;refine Zv (aa.ag rfl rfl Tryz.underlying3 rfl k99 rfl) ?_;refine cH ?_;refine Zv (aa.nilCheck rfl rfl) ?_;refine Zf 1 Tryz.underlying183 ?_;refine Zq k99 ?_;intro w7 pw7;replace ae:=ae.put k99 pw7 e99;replace k2:=k2.put pw7 (by omega);replace k3:=k3.put pw7 (by omega);replace k99:=pw7.av;refine gF 0 2 3 9 20 35 56 102 122 134 140 146 152 (aG ?_);refine Zf 1 Tryz.underlying211 ?_;refine Zv (aa.ag rfl rfl Tryz.underlying9 rfl k3 rfl) ?_;refine Zv (aa.build rfl rfl (mC 3 _ _)) ?_;refine Zo 4 k2 ?_;intro w8 pw8;replace ae:=ae.put k2 pw8 e2;replace k99:=k99.put pw8 (by omega);replace k3:=k3.put pw8 (by omega);replace k2:=pw8.av;refine gF 0 2 3 9 20 35 56 102 122 134 140 146 152 (Zt (Cd.ret ?_));refine ab.cz rfl rfl k2 Tryz.underlying105 rfl (m:=4) (by kernel_rfl) rfl (.inl rfl) ?_;rw[hR];exact⟨ae,_,_,_,_,_,_,rfl,⟨fun _=>False,cw.leaf (by unfold bt;omega) (by unfold bt;omega) a3 (by omega),fun b hb=>hb.elim⟩,sw0.to hle ae (by rw[hA,Int.natCast_add];exact k99) (by omega) (by omega),rfl,rfl,rfl,rfl,rfl⟩
theorem CD {t:List Nat}{i:Nat}{op:Int}(h:so t=some (i,op)):i<5∧bt op:=by
 unfold so at h
 have st:∀(c:Prop) [Decidable c] (z:Nat × Int) (e:Option (Nat × Int)),(if c then some z else e)=some (i,op)→z=(i,op)∨e=some (i,op):=fun c _ z e h=>by
  split at h
  ·injection h with h;exact .inl h
  ·exact .inr h
 rcases st _ _ _ h with h|h
 ·injection h with h1 h2
  subst h1 h2;exact⟨by omega,by unfold bt;omega⟩
 rcases st _ _ _ h with h|h
 ·injection h with h1 h2
  subst h1 h2;exact⟨by omega,by unfold bt;omega⟩
 rcases st _ _ _ h with h|h
 ·injection h with h1 h2
  subst h1 h2;exact⟨by omega,by unfold bt;omega⟩
 rcases st _ _ _ h with h|h
 ·injection h with h1 h2
  subst h1 h2;exact⟨by omega,by unfold bt;omega⟩
 rcases st _ _ _ h with h|h
 ·injection h with h1 h2
  subst h1 h2;exact⟨by omega,by unfold bt;omega⟩
 rcases st _ _ _ h with h|h
 ·injection h with h1 h2
  subst h1 h2;exact⟨by omega,by unfold bt;omega⟩
 rcases st _ _ _ h with h|h
 ·injection h with h1 h2
  subst h1 h2;exact⟨by omega,by unfold bt;omega⟩
 rcases st _ _ _ h with h|h
 ·injection h with h1 h2
  subst h1 h2;exact⟨by omega,by unfold bt;omega⟩
 rcases st _ _ _ h with h|h
 ·injection h with h1 h2
  subst h1 h2;exact⟨by omega,by unfold bt;omega⟩
 rcases st _ _ _ h with h|h
 ·injection h with h1 h2
  subst h1 h2;exact⟨by omega,by unfold bt;omega⟩
 rcases st _ _ _ h with h|h
 ·injection h with h1 h2
  subst h1 h2;exact⟨by omega,by unfold bt;omega⟩
 rcases st _ _ _ h with h|h
 ·injection h with h1 h2
  subst h1 h2;exact⟨by omega,by unfold bt;omega⟩
 ·cases h
theorem B0 (ws:List Wd)(q:Nat):∃pz oz:Int,yP (gx ws q false 0)=(pz,oz)∧((pz=0∧oz=0∧kT ws q=none)∨∃i:Nat,pz=(i:Int)+1∧i<5∧kT ws q=some (i,oz)∧bt oz):=by
 have h1:gx ws q false 0=if(de ws q).kind=0 then(de ws q).text else []:=rfl;rw[h1];unfold kT
 by_cases hk:(de ws q).kind=0
 ·rw[if_pos hk,if_pos hk]
  unfold yP
  cases hp:so (de ws q).text with
  |none=>exact⟨0,0,rfl, .inl ⟨rfl,rfl,rfl⟩⟩
  |some z=>
   obtain⟨i,op⟩:=z;obtain⟨h2,h3⟩:=CD hp;exact⟨_,_,rfl, .inr ⟨i,rfl,h2,rfl,h3⟩⟩
 ·rw[if_neg hk,if_neg hk]
  exact⟨0,0,by decide, .inl ⟨rfl,rfl,rfl⟩⟩
theorem Am {ws:List Wd}{q:Nat}{z:Nat × Int}(h:kT ws q=some z):q<ws.length:=by
 rcases Nat.lt_or_ge q ws.length with hp|hp
 ·exact hp
 ·unfold kT at h
  rw[ki hp] at h
  cases h
structure ER (K:Ctx)(R:Rs Ex)(d lvl p0:Nat)(w:World)(g4 g5:Nat)(q:Nat)(o:Int)(dp bd:Bool)(x:Ex)(A:Option Addr)(c:Nat)(m:Int)(wr:World):Prop where
 sw:SW K wr q o dp bd
 ae:Fz w.heap.size K.g w wr
 k4:aK wr g4 105 #[.int .i64 0, .int .i64 0, .string {data:= #[]}, .slice none 0 0]
 k5:aK wr g5 105 (rj x A c)
 rs:eJ g4 wr.heap.size g5 x (.agg (rj x A c)) wr
 Ey:bd=false→o=d∧dp=false∧p0<q∧∃k:Nat,lvl+k≤5∧(m=(lvl+k:Nat)∨(m=9∧lvl+k=5))∧R=wX (cg K.ws) lvl k x q d
 bad:bd=true→R= .bad q dp∧(d:Int)≤o∧o≤d+1
theorem yv (K:Ctx)(hK:K.Ok)(lvl p d:Nat)(hlvl:lvl≤5)(w:World)(sw0:SW K w p d false false)(hd:d≤64)
  (hS:∀W,SW K W p d false false→Calls Tryz.prog 203 #[.pointer (some ⟨K.g,0,none⟩)] W (CR K W.heap.size W (eo ((cg K.ws).S p d) d) (nN W)))
  (hE:∀(l q d:Nat) W,p<q→l≤5→d≤64→SW K W q d false false→Calls Tryz.prog 160 #[.pointer (some ⟨K.g,0,none⟩), .int .i64 ((l:Int)+1)] W (CR K W.heap.size W (eo ((cg K.ws).E l q d) d) (nN W))):
  Calls Tryz.prog 160 #[.pointer (some ⟨K.g,0,none⟩), .int .i64 ((lvl:Int)+1)] w (CR K w.heap.size w (eo ((cg K.ws).E lvl p d) d) (nN w)):=by
 have ae:=Fz.refl w.heap.size K.g w;have k99:=sw0.av;have e99:K.g=K.g:=rfl;have hlt:=sw0.av.lt;have hle:=hK.le;have hlen:=hK.len;obtain⟨k0,hk0⟩:∃k0,lvl+k0=5:=⟨5-lvl,by omega⟩;have hR0:=xb K.ws p d k0 lvl hk0;obtain⟨R,hR⟩:∃R,R=(cg K.ws).E lvl p d:=⟨_,rfl⟩;rw[←hR] at hR0⊢;clear hR;refine Zs 56 Tryz.func160 ?_;refine ao ?_;refine Zl ay ?_;intro g4 w1 n4;have e4:=Nat.le_trans ae.size n4.ge;have l4:=Nat.lt_of_lt_of_le k99.lt n4.ge;replace ae:=ae.step n4.below;replace k99:=k99.step n4.below;have k4:=n4.av;refine bD 0 1 4 (aG ?_);refine Zm ?_;have hcl:=hS _ (sw0.to hle ae k99 sw0.bK (by omega));have k4l:=k4.lt;have hsb:=ae.size;clear k99;refine Zc (Ze Tryz.func203) hcl ?_;rintro e w6 ⟨hf6,v6,y,p6,o6,dp6,bd6,rfl,⟨S6,hr6,hb6⟩,sw,hres⟩;refine⟨_,rfl,?_⟩;have bel6:=ae.call hf6;have k46:=k4.fz hf6 (by omega);clear ae k4 hcl;have ae:=bel6;have k4:=k46;have hs6:=hf6.size;obtain⟨AX,cX,hvX⟩:=hr6.form;subst hvX;have rs:eJ g4 w6.heap.size 0 y (.agg (rj y AX cX)) w6:=⟨Nat.le_refl _,S6,hr6,fun b h=>⟨by have:=(hb6 b h).1;omega,(hb6 b h).2,by have:=(hb6 b h).1;omega⟩⟩;refine Zl ay ?_;intro g5 w2 n5;have q5:=n5.ge;have e5:=Nat.le_trans ae.size n5.ge;have l5:=Nat.lt_of_lt_of_le k4.lt n5.ge;replace ae:=ae.step n5.below;replace k4:=k4.step n5.below;replace sw:=sw.step n5.below;replace rs:=rs.step n5.below;have k5:=n5.av;refine Zo 4 k5 ?_;intro w3 pw3;replace ae:=ae.put k5 pw3 e5;replace k4:=k4.put pw3 (by omega);replace sw:=sw.put k5 pw3 e5;replace rs:=rs.put k5 pw3 e5;replace k5:=pw3.av;refine aV 0 1 4 5 (aG ?_);refine Za ?_;refine aU 0 1 4 5 6 (aJ (Cd.block ?_));have h45:g4<g5:=by omega
 have hg4:w.heap.size≤g4:=by omega
 refine Cd.loop (σ:=Nat × Int × Bool × Bool × Ex × (Option Addr × Nat) × Int) (fun s=>[(0, .pointer (some ⟨K.g,0,none⟩)),(1, .int .i64 ((lvl:Int)+1)),(4, .pointer (some ⟨g4,0,none⟩)),(5, .pointer (some ⟨g5,0,none⟩)),(6, .int .i64 s.2.2.2.2.2.2)])
  (fun s wr=>ER K R d lvl p w g4 g5 s.1 s.2.1 s.2.2.1 s.2.2.2.1 s.2.2.2.2.1 s.2.2.2.2.2.1.1 s.2.2.2.2.2.1.2 s.2.2.2.2.2.2 wr) (fun s=>if s.2.2.2.1=true then 0 else K.ws.length-s.1+1) (p6,o6,dp6,bd6,y,(AX,cX),9)
  ⟨sw,ae,k4,k5,(rs.but q5).up,fun hb=> ?_,fun hb=> ?_⟩ ⟨rfl,rfl,rfl,rfl,rfl,trivial⟩ ?_
 ·dsimp only at hb⊢
  subst hb;unfold eo at hres
  cases hr:(cg K.ws).S p d with
  |out=>rw[hr] at hres;exact hres.elim
  |bad a b=>rw[hr] at hres;cases hres.2.2.1
  |ok a b=>
   rw[hr] at hres hR0;obtain⟨rfl,rfl,rfl,rfl,-⟩:=hres;exact⟨rfl,rfl,(iY K.ws).S _ _ _ _ hr,k0,by omega, .inr ⟨rfl,hk0⟩,hR0⟩
 ·dsimp only at hb⊢
  subst hb;unfold eo at hres
  cases hr:(cg K.ws).S p d with
  |out=>rw[hr] at hres;exact hres.elim
  |ok a b=>rw[hr] at hres;cases hres.2.2.2.2
  |bad a b=>
   rw[hr] at hres hR0;obtain⟨rfl,rfl,-,h1,h2⟩:=hres;exact⟨hR0,h1,h2⟩
 clear sw ae k4 k5 rs hres hR0;rintro⟨q,o,dp,bd,x,⟨A,c⟩,m⟩ wr ⟨sw,ae,k4,k5,rs,hgood,hbad⟩;dsimp only at sw k5 rs hgood hbad⊢;have k99:=sw.av;have rdw:=sw.Dx;have hsb:=ae.size;have k5l:=k5.lt;refine Cd.seq (ao ?_);refine Zm ?_;refine Zv (aa.nilCheck rfl rfl) ?_;refine Zf 4 Tryz.underlying183 ?_;refine Zv (aa.ag rfl rfl Tryz.underlying4 rfl k99 rfl) ?_;refine Zv (aa.not rfl rfl) ?_;refine bj 0 1 4 5 6 16 (Zt ?_);refine Cd.cond rfl (fun hc=> ?_) (fun hc=> ?_)
 ·obtain rfl:bd=false:=by simpa using hc
  obtain⟨rfl,rfl,hpq,k,hk5,hm,hRg⟩:=hgood rfl;have hm9:0≤m∧m≤9:=by omega
  have htx:=mG K hK q d false false 0 wr sw (by omega);have htl:=oy hK q false 0;obtain⟨pz,oz,hpz,hpo⟩:=B0 K.ws q;refine Cd.skip (Zt (Cd.block (ao ?_)));refine Zm ?_;refine Zc (Ze Tryz.func156) (htx) ?_;rintro e w7 ⟨rfl,hb7⟩;refine⟨_,rfl,?_⟩;replace ae:=ae.step hb7;replace k4:=k4.step hb7;replace rs:=rs.step hb7;replace k5:=k5.step hb7;replace k99:=k99.step hb7;replace rdw:=rdw.step hb7;have hpw:=yX (gx K.ws q false 0) w7 htl;rw[hpz] at hpw;refine Zc (Ze Tryz.func204) (hpw) ?_;rintro e w8 ⟨rfl,hb8⟩;refine⟨_,rfl,?_⟩;replace ae:=ae.step hb8;replace k4:=k4.step hb8;replace rs:=rs.step hb8;replace k5:=k5.step hb8;replace k99:=k99.step hb8;replace rdw:=rdw.step hb8;have hpz5:0≤pz∧pz≤5:=by rcases hpo with h|⟨i,h1,h2,-⟩<;>omega
  refine Zm ?_;refine Zv (aa.extract rfl rfl rfl) ?_;refine Zv (aa.extract rfl rfl rfl) ?_;refine Za ?_;refine Za ?_;refine cI 0 1 4 5 6 7 8 16 (aJ (ao ?_));refine Zm ?_;refine Zm ?_;refine Zv (aa.lss rfl rfl rfl) ?_;refine Zm ?_;refine ah.start ?_;refine bM (fun hcx=>aa.move rfl rfl) ?_;refine ah.next rfl rfl rfl rfl rfl rfl rfl (fun hcx=>aa.aB rfl rfl rfl) ?_;refine ah.or rfl rfl rfl rfl rfl rfl rfl ?_;refine Zm ?_;refine ah.start ?_;refine bM (fun hcx=>aa.move rfl rfl) ?_;refine ah.next rfl rfl rfl rfl rfl rfl rfl (fun hcx=>aa.move rfl rfl) ?_;refine ah.next rfl rfl rfl rfl rfl rfl rfl (fun hcx=>aa.gtr rfl rfl rfl) ?_;refine ah.or rfl rfl rfl rfl rfl rfl rfl ?_;refine dG 0 1 4 5 6 7 8 16 34 (Zt ?_);refine Cd.cond rfl (fun hc2=> ?_) (fun hc2=> ?_)
  ·have hc2:pz<(lvl:Int)+1∨pz=0∨m<pz:=by simpa[or_assoc,and_assoc] using hc2
   have hRn:R= .ok x q:=by
    rw[hRg];refine tR K.ws lvl k x d hk5 fun i op hi=> ?_;rcases hpo with ⟨-,-,h⟩|⟨j,h1,h2,h3,-⟩
    ·rw[h] at hi;cases hi
    ·rw[h3] at hi
     injection hi with hi
     injection hi with hi _
     omega
   have k4b:=k4;have k4l:=k4.lt;refine ao ?_;refine Zv (aa.aQ rfl rfl Tryz.underlying105 rfl k5 (m:=4) (by kernel_rfl) rfl) ?_;refine Zo 4 k4 ?_;intro w4 pw4;replace ae:=ae.put k4 pw4 e4;replace rs:=rs.put k4 pw4 e4;replace k5:=k5.put pw4 (by omega);replace k99:=k99.put pw4 (by omega);replace rdw:=rdw.put k4 pw4 e4;replace k4:=pw4.av;refine dG 0 1 4 5 6 7 8 16 34 (Zt (Cd.ret (ab.af (ab.ak (ab.bF (ab.ak (ab.af ?_)))))));refine ab.cz rfl rfl k4 Tryz.underlying105 rfl (m:=4) (by kernel_rfl) rfl (.inl rfl) ?_;obtain⟨hhi,S',hrep',hb'⟩:=rs;rw[hRn];exact⟨ae,_,_,_,_,_,_,rfl,⟨S',hrep',fun b h=>⟨by have:=(hb' b h).1;omega,by have:=(hb' b h).2.1;omega⟩⟩,rdw.sw k99 sw.bK sw.jQ,rfl,rfl,rfl,rfl,rfl⟩
  have hc2:¬(pz<(lvl:Int)+1∨pz=0∨m<pz):=by simpa[or_assoc,and_assoc] using hc2
  obtain⟨i,rfl,hi5,hpow,hoz⟩:∃i:Nat,pz=(i:Int)+1∧i<5∧kT K.ws q=some (i,oz)∧bt oz:=by
   rcases hpo with ⟨h,-,-⟩|h
   ·exact absurd (.inr (.inl h)) hc2
   ·exact h
  have hq1:=Am hpow;have hR2:=sY K.ws lvl hpow k x d hk5 (by omega) (by omega);rw[←hRg] at hR2;have k4l:=k4.lt;refine Cd.skip (aG ?_);refine Zm ?_;refine Zv (aa.nilCheck rfl rfl) ?_;refine Zf 1 Tryz.underlying183 ?_;refine Zv (aa.ag rfl rfl Tryz.underlying3 rfl k99 rfl) ?_;refine cH ?_;refine Zv (aa.nilCheck rfl rfl) ?_;refine Zf 1 Tryz.underlying183 ?_;refine Zq k99 ?_;intro w4 pw4;replace ae:=ae.put k99 pw4 e99;replace k4:=k4.put pw4 (by omega);replace rs:=rs.put k99 pw4 e99;replace k5:=k5.put pw4 (by omega);replace rdw:=rdw.put k99 pw4 e99;replace k99:=pw4.av;refine dG 0 1 4 5 6 7 8 16 34 (aG ?_);refine Zm ?_;refine Zm ?_;refine cH ?_;have swn:SW K _ (q+1) (d:Int) false false:=rdw.sw (by rw[Int.natCast_add];exact k99) (by omega) (by omega);have hcl:=hE (i+1) (q+1) d _ (by omega) (by omega) hd swn;have hcast:((i+1:Nat):Int)+1=(i:Int)+1+1:=by omega
  rw[hcast] at hcl;have hsb3:=ae.size;have k5l3:=k5.lt;clear rdw k99;refine Zc (Ze Tryz.func160) hcl ?_;rintro e wq ⟨hf6,v6,y,p6,o6,dp6,bd6,rfl,⟨S6,hr6,hb6⟩,swq,hres⟩;refine⟨_,rfl,?_⟩;have bel6:=ae.call hf6;have k46:=k4.fz hf6 (by omega);have k56:=k5.fz hf6 (by omega);have rs6:=rs.fz hf6 (by omega);have hs6:=hf6.size;have hhi6:=rs6.1;clear ae k4 k5 rs hcl swn sw;have ae:=bel6;have k4:=k46;have k5:=k56;have rs:=rs6;have sw:=swq;have ry:zn _ wq.heap.size S6 y v6 wq:=⟨hr6,hb6,Nat.le_refl _⟩;have hones:=hr6.aY;obtain⟨AY,cY,hvY⟩:=hr6.form;subst hvY;have k5l:=k5.lt;refine Zl ay ?_;intro g9 w5 n9;have q9:=n9.ge;have e9:=Nat.le_trans ae.size n9.ge;have l9:=Nat.lt_of_lt_of_le k5.lt n9.ge;have l9_k4:=Nat.lt_of_lt_of_le k4.lt n9.ge;replace ae:=ae.step n9.below;replace k4:=k4.step n9.below;replace rs:=rs.step n9.below;replace k5:=k5.step n9.below;replace sw:=sw.step n9.below;replace ry:=ry.step n9.below;have k9:=n9.av;refine Zo 4 k9 ?_;intro w6 pw6;replace ae:=ae.put k9 pw6 e9;replace k4:=k4.put pw6 (by omega);replace rs:=rs.put k9 pw6 e9;replace k5:=k5.put pw6 (by omega);replace sw:=sw.put k9 pw6 e9;replace ry:=ry.put k9 pw6 e9;replace k9:=pw6.av;refine dg 0 1 4 5 6 7 8 9 16 34 (aG ?_);refine Zm ?_;refine Zv (aa.aQ rfl rfl Tryz.underlying105 rfl k5 (m:=4) (by kernel_rfl) rfl) ?_;refine Zv (aa.aQ rfl rfl Tryz.underlying105 rfl k9 (m:=4) (by kernel_rfl) rfl) ?_;refine Seq.slice (vs:=[_,_]) (s:=4) rfl rfl rfl Tryz.underlying68 (by kernel_rfl) (ay) (by omega) (by omega) ⟨rfl,rfl,trivial⟩ rfl rfl rfl ?_;intro g50 w7 n50;have q50:=n50.ge;have e50:=Nat.le_trans ae.size n50.ge;have l50:=Nat.lt_of_lt_of_le k9.lt n50.ge;have l50_k4:=Nat.lt_of_lt_of_le k4.lt n50.ge;have l50_k5:=Nat.lt_of_lt_of_le k5.lt n50.ge;replace ae:=ae.step n50.below;replace k4:=k4.step n50.below;replace rs:=rs.step n50.below;replace k5:=k5.step n50.below;replace sw:=sw.step n50.below;replace ry:=ry.step n50.below;replace k9:=k9.step n50.below;have k50:=n50.av;refine Zv (aa.build rfl rfl (sb oz _ _)) ?_;refine Zo 4 k5 ?_;intro w8 pw8;replace ae:=ae.put k5 pw8 e5;replace k4:=k4.put pw8 (by omega);replace rs:=rs.put k5 pw8 e5;replace sw:=sw.put k5 pw8 e5;replace ry:=ry.put k5 pw8 e5;replace k9:=k9.put pw8 (by omega);replace k50:=k50.put pw8 (by omega);replace k5:=pw8.av;refine dg 0 1 4 5 6 7 8 9 16 34 (aG ?_);have hadd50:(⟨g50,0,none⟩:Addr).add=fun j=>⟨g50,j,none⟩:=by funext j;unfold Addr.add;split<;>simp_all
  have k5x:aK w8 g5 105 (rj (su oz x y) (some ⟨g50,0,none⟩) 2):=k5
  have rs2:eJ g4 w8.heap.size g5 (su oz x y) (.agg (rj (su oz x y) (some ⟨g50,0,none⟩) 2)) w8:=by
   obtain⟨hhi,Sl,hrepl,hbl⟩:=rs;refine⟨Nat.le_refl _,fun b=>Sl b∨S6 b∨b=g50,cw.mk (args:=[x,y]) (vs:=[.agg (rj x A c), .agg (rj y AY cY)]) rfl (by simp) hoz (by unfold bt;omega) (by simp) (by simp) (fun i e v h1 h2=> ?_) (fun _=>⟨⟨g50,0,none⟩,rfl, .inr (.inr rfl),fun j u hu=> ?_⟩),fun b hb=> ?_⟩
   ·match i,h1,h2 with
    |0,h1,h2=>
     simp at h1 h2;subst h1 h2;exact hrepl.mono (fun _ h=> .inl h) (fun _ _=>rfl)
    |1,h1,h2=>
     simp at h1 h2;subst h1 h2;exact ry.rep.mono (fun _ h=> .inr (.inl h)) (fun _ _=>rfl)
    |i+2,h1,_=>simp at h1
   ·rw[hadd50,k50.cell j]
    have hu2:(aP [Value.agg (rj x A c),Value.agg (rj y AY cY)]).toArray[j]? =some u:=by simpa using hu
    exact hu2
   ·have hhiy:=ry.eH
    rcases hb with hb|hb|rfl
    ·obtain⟨h1,h2,h3⟩:=hbl b hb
     exact⟨h1,by omega,h3⟩
    ·obtain⟨h1,h2⟩:=hb6 b hb
     exact⟨by omega,by omega,by omega⟩
    ·exact⟨by omega,k50.lt,by omega⟩
  clear rs ry k5;have rs:=rs2;have k5:=k5x
  have hround:∀m':Int,(m'=if i=2 then 2 else(i:Int)+1)→ER K R d lvl p w g4 g5 p6 o6 dp6 bd6 (su oz x y) (some ⟨g50,0,none⟩) 2 m' w8∧(if bd6=true then 0 else K.ws.length-p6+1)<K.ws.length-q+1:=by
   intro m' hm';refine⟨⟨sw,ae,k4,k5,rs,fun hb=> ?_,fun hb=> ?_⟩,?_⟩
   ·subst hb
    unfold eo at hres
    cases hr:(cg K.ws).E (i+1) (q+1) d with
    |out=>rw[hr] at hres;exact hres.elim
    |bad a b=>rw[hr] at hres;cases hres.2.2.1
    |ok a b=>
     rw[hr] at hres hR2;obtain⟨rfl,rfl,rfl,rfl,-⟩:=hres;rw[Rs.bz] at hR2;have hmo:=(iY K.ws).E _ _ _ _ _ hr;refine⟨rfl,rfl,by omega,_,?_,?_,hR2⟩
     ·split<;>omega
     ·rw[hm']
      by_cases h2:i=2
      ·rw[if_pos h2,if_pos h2];left;omega
      ·rw[if_neg h2,if_neg h2];left;omega
   ·subst hb
    unfold eo at hres
    cases hr:(cg K.ws).E (i+1) (q+1) d with
    |out=>rw[hr] at hres;exact hres.elim
    |ok a b=>rw[hr] at hres;cases hres.2.2.2.2
    |bad a b=>
     rw[hr] at hres hR2;obtain⟨rfl,rfl,-,h1,h2⟩:=hres;exact⟨hR2,h1,h2⟩
   ·unfold eo at hres
    cases hr:(cg K.ws).E (i+1) (q+1) d with
    |out=>rw[hr] at hres;exact hres.elim
    |bad a b=>
     rw[hr] at hres;rw[hres.2.2.1,if_pos rfl];omega
    |ok a b=>
     rw[hr] at hres;have hmo:=(iY K.ws).E _ _ _ _ _ hr;obtain⟨-,h1,-,-,h2⟩:=hres;rw[h2,if_neg (by simp)];have:=sw.bK;omega
  refine Zm ?_;refine Za ?_;refine dg 0 1 4 5 6 7 8 9 16 34 (aG ?_);refine Zm ?_;refine Zv (aa.aB rfl rfl rfl) ?_;refine dr 0 1 4 5 6 7 8 9 16 34 54 (Zt ?_);refine Cd.au rfl (fun h3=> ?_) (fun h3=> ?_)
  ·obtain⟨hI,hlt2⟩:=hround 2 (by rw[if_pos (by omega)])
   refine Zr ?_;refine Za ?_;refine dr 0 1 4 5 6 7 8 9 16 34 54 (ab.aj ?_);exact ab.round (p6,o6,dp6,bd6,su oz x y,(some ⟨g50,0,none⟩,2),2) ⟨rfl,rfl,rfl,rfl,rfl,trivial⟩ hI hlt2
  ·obtain⟨hI,hlt2⟩:=hround ((i:Int)+1) (by rw[if_neg (by omega)])
   refine Cd.skip (ab.aj ?_);exact ab.round (p6,o6,dp6,bd6,su oz x y,(some ⟨g50,0,none⟩,2),(i:Int)+1) ⟨rfl,rfl,rfl,rfl,rfl,trivial⟩ hI hlt2
 ·obtain rfl:bd=true:=by simpa using hc
  obtain⟨hRb,h1,h2⟩:=hbad rfl;have k4l:=k4.lt;refine Cd.exit (ab.aD (ab.aA (ab.az (aG ?_))));refine Zv (aa.aQ rfl rfl Tryz.underlying105 rfl k5 (m:=4) (by kernel_rfl) rfl) ?_;refine Zo 4 k4 ?_;intro w4 pw4;replace ae:=ae.put k4 pw4 e4;replace rs:=rs.put k4 pw4 e4;replace k5:=k5.put pw4 (by omega);replace k99:=k99.put pw4 (by omega);replace rdw:=rdw.put k4 pw4 e4;replace k4:=pw4.av;refine bj 0 1 4 5 6 16 (Zt (Cd.ret ?_));refine ab.cz rfl rfl k4 Tryz.underlying105 rfl (m:=4) (by kernel_rfl) rfl (.inl rfl) ?_;obtain⟨hhi,S',hrep',hb'⟩:=rs;rw[hRb];exact⟨ae,_,_,_,_,_,_,rfl,⟨S',hrep',fun b h=>⟨by have:=(hb' b h).1;omega,by have:=(hb' b h).2.1;omega⟩⟩,rdw.sw k99 sw.bK sw.jQ,rfl,rfl,rfl,h1,h2⟩
theorem wO (K:Ctx)(hK:K.Ok)(hW:uD K.ws):∀n p,K.ws.length-p<n→(∀(d:Nat) W,d≤64→SW K W p d false false→Calls Tryz.prog 203 #[.pointer (some ⟨K.g,0,none⟩)] W (CR K W.heap.size W (eo ((cg K.ws).S p d) d) (nN W)))∧
  (∀(l d:Nat) W,l≤5→d≤64→SW K W p d false false→Calls Tryz.prog 160 #[.pointer (some ⟨K.g,0,none⟩), .int .i64 ((l:Int)+1)] W (CR K W.heap.size W (eo ((cg K.ws).E l p d) d) (nN W)))
 |0,p,h=>by omega
 |n+1,p,h=>by
  have ih:=wO K hK hW n;have hup:∀q,p<q→q≤K.ws.length→K.ws.length-q<n:=fun q h1 h2=>by omega
  have hS:∀(d:Nat) W,d≤64→SW K W p d false false→Calls Tryz.prog 203 #[.pointer (some ⟨K.g,0,none⟩)] W (CR K W.heap.size W (eo ((cg K.ws).S p d) d) (nN W)):=fun d W hd sw=>by
   rw[DK];exact uP K hK hW p d _ _ ((iY K.ws).E 0) W sw hd (fun q d W h1 h2 h3=>(ih q (hup q h1 h3.bK)).1 d W h2 h3) (fun q d W h1 h2 h3=>(ih q (hup q h1 h3.bK)).2 0 d W (by omega) h2 h3)
  exact⟨hS,fun l d W hl hd sw=>yv K hK l p d hl W sw hd (fun W h=>hS d W hd h) (fun l q d W h1 h2 h3 h4=>(ih q (hup q h1 h4.bK)).2 l d W h2 h3 h4)⟩
theorem B4 {ws:List Wd}{E0 E0':Nat→Nat→Rs Ex}{T T':Nat→Nat→Rs Tm}(hE:qU E0 E0')(hT:qU T T'):qU (dR ws E0 T) (dR ws E0' T'):=fun p d=>by
 have hm:∀(n m:Nat),qU (aW ws (eu E0 T n m)) (aW ws (eu E0' T' n m)):=fun n m=>by
  have h:=nu (ws:=ws) (List.replicate n ((fun p d=>(E0 p d).map Sum.inl:Nat→Nat→Rs Part),(fun p d=>(E0' p d).map Sum.inl:Nat→Nat→Rs Part))++List.replicate m ((fun p d=>(T p d).map Sum.inr:Nat→Nat→Rs Part),(fun p d=>(T' p d).map Sum.inr:Nat→Nat→Rs Part))) (fun x hx=>by
   rcases List.mem_append.1 hx with hx|hx
   ·rw[(List.mem_replicate.1 hx).2]
    exact fun p d=>(hE p d).bind fun a q=>Le.refl _
   ·rw[(List.mem_replicate.1 hx).2]
    exact fun p d=>(hT p d).bind fun a q=>Le.refl _)
  rw[List.map_append,List.map_append,List.map_replicate,List.map_replicate,List.map_replicate,List.map_replicate] at h;exact h
 unfold dR;split
 ·exact Le.refl _
 split
 ·exact Le.refl _
 split
 ·exact Le.refl _
 split
 ·exact Le.refl _
 ·exact(hm _ _ _ _).bind fun xs q=>Le.refl _
theorem sQ (ws:List Wd):∀n,qU (ig ws n) (ig ws (n+1))
 |0=>fun p d h=>absurd rfl h
 |n+1=>B4 ((mS ws (n+1)).E 0) (sQ ws n)
theorem uy (ws:List Wd)(p d:Nat):mx ws p d=dR ws ((cg ws).E 0) (mx ws) p d:=by
 have h1:mx ws p d≠ .out:=mY ws ws.length 0 (by omega) p d (Nat.zero_le _);have h2:=sQ ws (ws.length+1) p d h1
 have h3:(bH ws (ws.length+2)).E 0=(cg ws).E 0:=by
  funext p d
  exact(mS ws (ws.length+1)).E 0 p d ((pr ws).E 0 p d (Nat.zero_le _))
 have h4:ig ws (ws.length+1+1) p d=dR ws ((bH ws (ws.length+2)).E 0) (ig ws (ws.length+1)) p d:=rfl;rw[h4,h3] at h2;exact h2.symm
def w8:List (List Nat):=[[111,110,101],[103,105,118,101],[97,110,100],[111,114],[115,99,97,108,101],[119,104,101,110],[117,110,116,105,108],[97,110,121,116,105,109,101]]
def j6 (t:List Nat)(i:Nat):Int:=if w8.idxOf t<i then(w8.idxOf t:Int)+2 else 0
theorem Df:∀i,i<8→w8.idxOf (w8.getD i [])=i:=by decide
theorem yk {t s:List Nat}{i:Nat}(hi:i<8)(hs:w8[i]? =some s):j6 t (i+1)=if s=t then(i:Int)+2 else j6 t i:=by
 have hg:w8.getD i []=s:=by rw[List.getD_eq_getElem?_getD,hs];rfl
 unfold j6
 by_cases h:s=t
 ·have:=Df i hi
  rw[hg,h] at this;rw[if_pos h,this,if_pos (by omega)]
 ·have hne:w8.idxOf t≠i:=fun e=>by
   have hlt:w8.idxOf t<w8.length:=by rw[e];exact hi
   have h2:=List.getElem_idxOf hlt;have h3:w8[w8.idxOf t]? =some t:=by rw[List.getElem?_eq_getElem hlt,h2]
   rw[e,hs] at h3;injection h3 with h3
   exact h h3
  rw[if_neg h]
  by_cases h2:w8.idxOf t<i
  ·rw[if_pos h2,if_pos (by omega)]
  ·rw[if_neg h2,if_neg (by omega)]
theorem xI (t:List Nat):(t=uG∧j6 t 8=2)∨(t≠uG∧(cC t).1=j6 t 8∧(j6 t 8=0∨(j6 t 8=3∧(cC t).2=(0,1))∨((j6 t 8=4∨j6 t 8=5)∧(cC t).2=(0,2))∨((6≤j6 t 8∧j6 t 8≤9)∧(cC t).2=(1,1)))):=by
 by_cases hm:t∈w8
 ·unfold w8 at hm
  simp only[List.mem_cons,List.not_mem_nil,or_false] at hm;rcases hm with rfl|rfl|rfl|rfl|rfl|rfl|rfl|rfl<;>decide
 ·have h0:j6 t 8=0:=by
   unfold j6;rw[List.idxOf_eq_length hm,if_neg (by decide)]
  unfold w8 at hm;simp only[List.mem_cons,List.not_mem_nil,or_false,not_or] at hm;obtain⟨h1,h2,h3,h4,h5,h6,h7,h8⟩:=hm;refine .inr ⟨h1,?_, .inl h0⟩;unfold cC;rw[if_neg h2,if_neg h3,if_neg h4,if_neg h5,if_neg h6,if_neg h7,if_neg h8,h0]
section
variable {β:Type}
def wC (p0:Nat)(R:Rs β)(d:Nat)(cont:Nat→Rs β)(q:Nat)(o:Int)(dp bd:Bool):Prop:=
 (bd=false→o=(d:Int)+1∧dp=false∧p0<q∧d+1≤64∧R=cont q)∧(bd=true→R= .bad q dp∧(d:Int)+1≤o∧o≤(d:Int)+2)
variable {p0 q d:Nat} {R:Rs β} {o:Int} {dp bd:Bool}
theorem wC.jQ {cont:Nat→Rs β}(h:wC p0 R d cont q o dp bd)(hd:d≤64):1≤o∧o≤66:=by
 cases bd with
 |false=>have:=(h.1 rfl).1;omega
 |true=>have:=(h.2 rfl).2;omega
theorem wC.open_ {K:Ctx}{w:World}{cont:Nat→Rs β}{p:Nat}(hR:R=(bE K.ws [40] (p+1)).bind fun _ q=>(cW q d).bind fun _ q=>cont q)(sw:SW K w (dY K.ws [40] (p+1) false).1 ((d:Int)+1) (if 64<(d:Int)+1∧(dY K.ws [40] (p+1) false).2=false then true else false) (if 64<(d:Int)+1∧(dY K.ws [40] (p+1) false).2=false then true else(dY K.ws [40] (p+1) false).2)):
  ∃q dp bd,SW K w q ((d:Int)+1) dp bd∧wC p R d cont q ((d:Int)+1) dp bd:=by
 rcases eS (ws:=K.ws) (s:=[40]) (q:=p+1) with ⟨h1,h2⟩|⟨h1,h2⟩
 ·rw[h1] at sw
  dsimp only at sw;rw[h2,Rs.bz] at hR
  by_cases h64:64<(d:Int)+1
  ·rw[if_pos ⟨h64,rfl⟩] at sw
   refine⟨_,_,_,sw,fun h=>(by cases h),fun _=>⟨?_,by omega,by omega⟩⟩;rw[hR];unfold cW;rw[if_pos (by omega)];rfl
  ·rw[if_neg (fun h=>h64 h.1)] at sw
   refine⟨_,_,_,sw,fun _=>⟨rfl,rfl,by omega,by omega,?_⟩,fun h=>by cases h⟩;rw[hR];unfold cW;rw[if_neg (by omega),Rs.bz]
 ·rw[h1] at sw
  dsimp only at sw;rw[h2,Rs.ka] at hR;rw[if_neg (fun h=>by cases h.2),if_neg (fun h=>by cases h.2)] at sw;exact⟨_,_,_,sw,fun h=>(by cases h),fun _=>⟨hR,by omega,by omega⟩⟩
def fm {α:Type}(r:Rs α)(d q:Nat)(o:Int)(dp bd:Bool)(x:α)(p':Nat)(o':Int)(dp' bd':Bool):Prop:=(bd=false→eo r d x p' o' dp' bd')∧(bd=true→uj q o dp x p' o' dp' bd')
theorem wC.part {α:Type}{E:Nat→Nat→Rs α}{g:α→Nat→Rs β}{x:α}{q':Nat}{o':Int}{dp' bd':Bool}(h:wC p0 R d (fun q=>(E q (d+1)).bind g) q o dp bd)(hM:eV E)(hb:fm (E q (d+1)) (d+1) q o dp bd x q' o' dp' bd'):wC p0 R d (g x) q' o' dp' bd':=by
 cases bd with
 |true=>
  obtain⟨rfl,rfl,rfl,rfl⟩:=hb.2 rfl;exact⟨fun h=>(by cases h),fun _=>h.2 rfl⟩
 |false=>
  obtain⟨rfl,rfl,h1,h2,hR⟩:=h.1 rfl;have hres:=hb.1 rfl;unfold eo at hres
  cases hr:E q (d+1) with
  |out=>rw[hr] at hres;exact hres.elim
  |bad a b=>
   rw[hr] at hres;dsimp only at hR;rw[hr] at hR;obtain⟨rfl,rfl,rfl,h3,h4⟩:=hres;exact⟨fun h=>(by cases h),fun _=>⟨hR,by omega,by omega⟩⟩
  |ok a b=>
   rw[hr] at hres;dsimp only at hR;rw[hr] at hR;have hm:=hM _ _ _ _ hr;obtain⟨rfl,rfl,h3,rfl,rfl⟩:=hres;exact⟨fun _=>⟨by omega,rfl,by omega,h2,hR⟩,fun h=>by cases h⟩
theorem wC.sign {ws:List Wd}{s:List Nat}{g:Nat→Rs β}(h:wC p0 R d (fun q=>(bE ws s q).bind fun _ q=>g q) q o dp bd):wC p0 R d g (dY ws s q bd).1 o dp (dY ws s q bd).2:=by
 cases bd with
 |true=>rw[ll];exact⟨fun h=>(by cases h),fun _=>h.2 rfl⟩
 |false=>
  obtain⟨rfl,rfl,h1,h2,hR⟩:=h.1 rfl;rcases eS (ws:=ws) (s:=s) (q:=q) with ⟨h3,h4⟩|⟨h3,h4⟩
  ·rw[h3]
   dsimp only at hR⊢;rw[h4,Rs.bz] at hR;exact⟨fun _=>⟨rfl,rfl,by omega,h2,hR⟩,fun h=>by cases h⟩
  ·rw[h3]
   dsimp only at hR⊢;rw[h4,Rs.ka] at hR;exact⟨fun h=>(by cases h),fun _=>⟨hR,by omega,by omega⟩⟩
theorem wC.close {x:β}(h:wC p0 R d (fun q=> .ok x q) q o dp bd):eo R d x q (o-1) dp bd:=by
 cases bd with
 |true=>
  obtain⟨h1,h2,h3⟩:=h.2 rfl;rw[h1];exact⟨rfl,rfl,rfl,by omega,by omega⟩
 |false=>
  obtain⟨rfl,rfl,h1,h2,hR⟩:=h.1 rfl;rw[hR];exact⟨rfl,rfl,by omega,rfl,rfl⟩
end
theorem yI (K:Ctx)(hK:K.Ok)(hW:uD K.ws)(q d:Nat)(o:Int)(dp bd:Bool)(hg:bd=false→o=(d:Int)∧dp=false∧d≤64)(W:World)(sw:SW K W q o dp bd):
  Calls Tryz.prog 160 #[.pointer (some ⟨K.g,0,none⟩), .int .i64 1] W (CR K W.heap.size W (fm ((cg K.ws).E 0 q d) d q o dp bd) (nN W)):=by
 cases bd with
 |false=>
  obtain⟨rfl,rfl,hd⟩:=hg rfl;refine((wO K hK hW (K.ws.length-q+1) q (by omega)).2 0 d W (by omega) hd sw).mono fun e W' h=> ?_;obtain⟨hf,v,x,p',o',dp',bd',rfl,h2,h3,h4⟩:=h;exact⟨hf,v,x,p',o',dp',bd',rfl,h2,h3,fun _=>h4,fun h=>by cases h⟩
 |true=>
  refine(nF K hK q _ dp 1 W sw).mono fun e W' h=> ?_;obtain⟨hb,rfl⟩:=h;exact⟨Fz.of hb,_,jJ,q,_,dp,true,rfl,⟨fun _=>False,cw.zero _ _,fun b hb=>hb.elim⟩,sw.step hb,fun h=>(by cases h),fun _=>⟨rfl,rfl,rfl,rfl⟩⟩
structure EY (K:Ctx)(R:Rs Tm)(d p0:Nat)(op:Int)(w:World)(g2 g5:Nat)(q:Nat)(o:Int)(dp bd:Bool)(nm:List Nat)(es:List Ex)(ts:List Tm)(evs tvs:List Value)(AE AT:Option Addr)(cE cT:Nat)(S:Nat→Prop)(wr:World):Prop where
 sw:SW K wr q o dp bd
 ae:Fz w.heap.size K.g w wr
 k2:aK wr g2 71 #[.int .i64 0, .string {data:= #[]}, .slice none 0 0, .slice none 0 0]
 k5:aK wr g5 71 #[.int .i64 op, .string (strOf nm), .slice AE es.length cE, .slice AT ts.length cT]
 aq:dt wr g5 g5 es ts evs tvs (.slice AE es.length cE) (.slice AT ts.length cT) S
 EK:(∀c∈nm,c<256)∧nm.length≤4000
 le:es.length≤10∧ts.length≤10
 nO:wC p0 R d (fun q=>(bE K.ws [41] q).bind fun _ q=> .ok (.mk op nm es ts) q) q o dp bd
theorem rD (K:Ctx)(hK:K.Ok)(hW:uD K.ws)(p d:Nat)(o0:Int)(dp0 bd0:Bool)(T0:Nat→Nat→Rs Tm)(hMT:eV T0)(w:World)(sw0:SW K w p o0 dp0 bd0)(hg0:bd0=false→o0=(d:Int)∧dp0=false∧d≤64)
  (hT:bd0=false→∀(q d:Nat) (o:Int) (dp bd:Bool) W,p<q∨bd=true→(bd=false→o=(d:Int)∧dp=false∧d≤64)→SW K W q o dp bd→Calls Tryz.prog 123 #[.pointer (some ⟨K.g,0,none⟩)] W (CR K W.heap.size W (fm (T0 q d) d q o dp bd) (zl W))):
  Calls Tryz.prog 123 #[.pointer (some ⟨K.g,0,none⟩)] w (CR K w.heap.size w (fm (dR K.ws ((cg K.ws).E 0) T0 p d) d p o0 dp0 bd0) (zl w)):=by
 have ae:=Fz.refl w.heap.size K.g w;have k99:=sw0.av;have rdw:=sw0.Dx;have e99:K.g=K.g:=rfl;have hlt:=sw0.av.lt;have hle:=hK.le;have hlen:=hK.len;have hpl:=sw0.bK;have hol:=sw0.jQ;have htl:=oy hK p bd0 3;have hME:=(iY K.ws).E 0;obtain⟨t,ht⟩:∃t,t=gx K.ws p bd0 3:=⟨_,rfl⟩;have htx:=fun W h=>mG K hK p o0 dp0 bd0 3 W h (by omega);rw[←ht] at htl;simp only[←ht] at htx
 have htq:t≠ []→bd0=false∧(de K.ws p).kind=3∧(de K.ws p).text=t∧p<K.ws.length:=fun hne=>by
  rw[ht] at hne⊢;unfold gx at hne⊢
  cases bd0 with
  |true=>exact absurd rfl hne
  |false=>
   rw[if_neg (by simp)] at hne⊢
   by_cases hk:(de K.ws p).kind=3
   ·rw[if_pos hk]
    refine⟨rfl,hk,rfl,?_⟩;rcases Nat.lt_or_ge p K.ws.length with h|h
    ·exact h
    ·rw[ki h] at hk;exact absurd hk (by decide)
   ·rw[if_neg hk] at hne
    exact absurd rfl hne
 obtain⟨R,hR⟩:∃R,R=dR K.ws ((cg K.ws).E 0) T0 p d:=⟨_,rfl⟩;rw[←hR];refine Zs 137 Tryz.func123 ?_;refine ao ?_;refine Zl aI ?_;intro g2 w1 n2;have e2:=Nat.le_trans ae.size n2.ge;have l2:=Nat.lt_of_lt_of_le k99.lt n2.ge;replace ae:=ae.step n2.below;replace k99:=k99.step n2.below;replace rdw:=rdw.step n2.below;have k2:=n2.av;refine eh 0 2 (aG ?_);refine Zm ?_;refine Zc (Ze Tryz.func156) (htx _ (rdw.sw k99 hpl hol)) ?_;rintro e w5 ⟨rfl,hb5⟩;refine⟨_,rfl,?_⟩;replace ae:=ae.step hb5;replace k99:=k99.step hb5;replace rdw:=rdw.step hb5;replace k2:=k2.step hb5;refine Za ?_;refine bD 0 2 3 (aJ (ao ?_));refine Zm ?_;refine Zv (aa.cF (b:=xm) rfl rfl rfl htl (by decide)) ?_;refine aV 0 2 3 10 (Zt ?_);refine Cd.au rfl (fun c0=> ?_) (fun c0=> ?_)
 ·obtain⟨rfl,hk3,htt,hp⟩:=htq (by rw[c0];decide)
  obtain⟨rfl,rfl,hd⟩:=hg0 rfl
  have hR1:R= .ok (.mk 1 [] [] []) (p+1):=by
   rw[hR];unfold dR;rw[if_neg (by simp[hk3]),htt,c0,if_pos rfl]
  refine ao ?_;refine Zm ?_;refine Zv (aa.nilCheck rfl rfl) ?_;refine Zf 1 Tryz.underlying183 ?_;refine Zv (aa.ag rfl rfl Tryz.underlying3 rfl k99 rfl) ?_;refine cH ?_;refine Zv (aa.nilCheck rfl rfl) ?_;refine Zf 1 Tryz.underlying183 ?_;refine Zq k99 ?_;intro w2 pw2;replace ae:=ae.put k99 pw2 e99;replace rdw:=rdw.put k99 pw2 e99;replace k2:=k2.put pw2 (by omega);replace k99:=pw2.av;refine aV 0 2 3 10 (aG ?_);refine Zv (aa.build rfl rfl (mI _)) ?_;refine Zo 4 k2 ?_;intro w3 pw3;replace ae:=ae.put k2 pw3 e2;replace k99:=k99.put pw3 (by omega);replace rdw:=rdw.put k2 pw3 e2;replace k2:=pw3.av;refine aV 0 2 3 10 (Zt (Cd.ret (ab.af ?_)));refine ab.cz rfl rfl k2 Tryz.underlying71 rfl (m:=4) (by kernel_rfl) rfl (.inl rfl) ?_;rw[hR1];exact⟨ae,_,_,_,_,_,_,rfl,⟨fun _=>False,dm.mk (es:=[]) (ts:=[]) (vs:=[]) (us:=[]) rfl rfl (by simp) (by simp) (by unfold bt;omega) (by simp) (by simp) (fun i e v h=>by simp at h) (fun i e v h=>by simp at h) (fun h=>absurd rfl h) (fun h=>absurd rfl h),fun b hb=>hb.elim⟩,rdw.sw (by rw[Int.natCast_add];exact k99) (by omega) (by omega),fun _=>⟨rfl,rfl,rfl,rfl,rfl⟩,fun h=>by cases h⟩
 refine Cd.skip (aG ?_);refine Seq.slice (vs:=[_,_,_,_,_,_,_,_]) (s:=1) rfl rfl rfl Tryz.underlying66 (by kernel_rfl) (bl) (by omega) (by omega) ⟨rfl,rfl,rfl,rfl,rfl,rfl,rfl,rfl,trivial⟩ rfl rfl rfl ?_;intro g19 w2 n19;have e19:=Nat.le_trans ae.size n19.ge;have l19:=Nat.lt_of_lt_of_le k2.lt n19.ge;have l19_k99:=Nat.lt_of_lt_of_le k99.lt n19.ge;replace ae:=ae.step n19.below;replace k99:=k99.step n19.below;replace rdw:=rdw.step n19.below;replace k2:=k2.step n19.below;have k19:=n19.av;refine Za ?_;refine aU 0 2 3 4 10 (aG ?_);refine Zv (aa.build rfl rfl (dJ _)) ?_;refine Zl aI ?_;intro g5 w3 n5;have e5:=Nat.le_trans ae.size n5.ge;have l5:=Nat.lt_of_lt_of_le k19.lt n5.ge;have l5_k99:=Nat.lt_of_lt_of_le k99.lt n5.ge;have l5_k2:=Nat.lt_of_lt_of_le k2.lt n5.ge;replace ae:=ae.step n5.below;replace k99:=k99.step n5.below;replace rdw:=rdw.step n5.below;replace k2:=k2.step n5.below;replace k19:=k19.step n5.below;have k5:=n5.av;refine Zo 4 k5 ?_;intro w4 pw4;replace ae:=ae.put k5 pw4 e5;replace k99:=k99.put pw4 (by omega);replace rdw:=rdw.put k5 pw4 e5;replace k2:=k2.put pw4 (by omega);replace k19:=k19.put pw4 (by omega);replace k5:=pw4.av;refine bj 0 2 3 4 5 10 (aJ (ao ?_));refine Za ?_;refine bb 0 2 3 4 5 6 10 (Zt (Cd.block ?_));have k19:aK _ g19 9 (w8.map fun s=>Value.string (strOf s)).toArray:=k19;have h25:g2<g5:=by omega
 have hg5:w.heap.size≤g5:=by omega
 have hg2:w.heap.size≤g2:=by omega
 refine Cd.loop (σ:=Nat) (fun i=>[(0, .pointer (some ⟨K.g,0,none⟩)),(2, .pointer (some ⟨g2,0,none⟩)),(3, .string (strOf t)),(4, .slice (some ⟨g19,0,none⟩) 8 8),(5, .pointer (some ⟨g5,0,none⟩)),(6, .int .i64 (i:Int))])
  (fun i wr=>i≤8∧Fz w.heap.size K.g w wr∧BG K wr∧aK wr K.g 183 #[.slice K.A K.ws.length K.c, .int .i64 (p:Int), .int .i64 o0, .bool dp0, .bool bd0]∧aK wr g2 71 #[.int .i64 0, .string {data:= #[]}, .slice none 0 0, .slice none 0 0]∧aK wr g19 9 (w8.map fun s=>Value.string (strOf s)).toArray∧aK wr g5 71 #[.int .i64 (j6 t i), .string (strOf []), .slice none 0 0, .slice none 0 0]) (fun i=>8-i) 0 ⟨Nat.zero_le _,ae,rdw,k99,k2,k19,k5⟩ ⟨rfl,rfl,rfl,rfl,rfl,rfl,trivial⟩ ?_
 clear ae rdw k99 k2 k19 k5;rintro i wr ⟨hi,ae,rdw,k99,k2,k19,k5⟩;have k2l:=k2.lt;have k5l:=k5.lt;have hsb:=ae.size;refine Cd.seq (ao ?_);refine Zm ?_;refine Zm ?_;refine Zv (aa.len rfl rfl Tryz.underlying66) ?_;refine Zv (aa.lss rfl rfl rfl) ?_;refine bb 0 2 3 4 5 6 24 (Zt ?_);refine Cd.au rfl (fun hc=> ?_) (fun hc=> ?_)
 ·obtain⟨s,hs⟩:∃s,w8[i]? =some s:=⟨_,List.getElem?_eq_getElem (show i<8 by omega)⟩
  have hs256:∀c∈s,c<256:=by
   have:∀s∈w8,∀c∈s,c<256:=by decide
   exact this s (List.mem_of_getElem? hs)
  have hst:=yk (t:=t) (show i<8 by omega) hs;refine Cd.skip (aJ (Cd.block (ao ?_)));refine Zm ?_;refine Zm ?_;refine Zv (aa.dN rfl rfl rfl Tryz.underlying66 (by kernel_rfl) (j:=i) (by omega) (by omega)) ?_;refine Zv (aa.ag rfl rfl Tryz.underlying9 rfl k19 (by rw[List.getElem?_toArray,List.getElem?_map,hs];rfl)) ?_;refine Zm ?_;refine Zv (aa.cF rfl rfl rfl hs256 htl) ?_;refine cI 0 2 3 4 5 6 24 32 (Zt ?_);refine Cd.au rfl (fun hc2=> ?_) (fun hc2=> ?_)
  ·rw[if_pos hc2] at hst
   have e5:w.heap.size≤g5:=hg5;refine Zr ?_;refine Zm ?_;refine cH ?_;refine Zf 0 Tryz.underlying71 ?_;refine Zq k5 ?_;intro w5 pw5;replace ae:=ae.put k5 pw5 e5;replace k99:=k99.put pw5 (by omega);replace rdw:=rdw.put k5 pw5 e5;replace k2:=k2.put pw5 (by omega);replace k19:=k19.put pw5 (by omega);replace k5:=pw5.av;refine cI 0 2 3 4 5 6 24 32 (ab.aj (ei ?_));refine Zm ?_;refine cH ?_;refine Za ?_;refine cI 0 2 3 4 5 6 24 32 ?_;exact ab.round (i+1) ⟨rfl,rfl,rfl,rfl,rfl,rfl,trivial⟩ ⟨by omega,ae,rdw,k99,k2,k19,by rw[hst];exact k5⟩ (by omega)
  ·rw[if_neg hc2] at hst
   refine Cd.skip (ab.aj (ei ?_));refine Zm ?_;refine cH ?_;refine Za ?_;refine cI 0 2 3 4 5 6 24 32 ?_;exact ab.round (i+1) ⟨rfl,rfl,rfl,rfl,rfl,rfl,trivial⟩ ⟨by omega,ae,rdw,k99,k2,k19,by rw[hst];exact k5⟩ (by omega)
 obtain rfl:i=8:=by omega
 have hsp:=xI t;have hop64:bt (j6 t 8):=by unfold bt;rcases hsp with ⟨-,h⟩|⟨-,-,h|⟨h,-⟩|⟨h,-⟩|⟨h,-⟩⟩<;>omega
 have hnil:j6 [] 8=0:=by decide
 have hopn:j6 t 8≠0→t≠ []:=fun h e=>h (by rw[e,hnil]);obtain⟨op,hop⟩:∃op,op=j6 t 8:=⟨_,rfl⟩;rw[←hop] at hsp hop64 k5 hopn;refine Cd.exit (ab.aD (ab.aA (ab.az (aJ (ao ?_)))));refine Zf 0 Tryz.underlying71 ?_;refine Zv (aa.ag rfl rfl Tryz.underlying3 rfl k5 rfl) ?_;refine Zv (aa.aB rfl rfl rfl) ?_;refine cI 0 2 3 4 5 6 24 38 (Zt ?_);refine Cd.au rfl (fun c1=> ?_) (fun c1=> ?_)
 ·have hb:bd0=false→R= .bad p false:=fun hb=>by
   rw[hR];unfold dR
   by_cases hk:(de K.ws p).kind=3
   ·have htt:(de K.ws p).text=t:=by rw[ht];unfold gx;rw[hb,if_neg (by simp),if_pos hk]
    rw[if_neg (by simp[hk]),htt,if_neg c0];rcases hsp with ⟨-,h⟩|⟨h1,h2,-⟩
    ·omega
    ·rw[if_neg h1,h2,if_pos c1]
   ·rw[if_pos hk]
  have k5l:=k5.lt;refine ao ?_;refine Zm ?_;refine Zv (aa.nilCheck rfl rfl) ?_;refine Zf 4 Tryz.underlying183 ?_;refine Zq k99 ?_;intro w5 pw5;replace ae:=ae.put k99 pw5 e99;replace rdw:=rdw.put k99 pw5 e99;replace k2:=k2.put pw5 (by omega);replace k5:=k5.put pw5 (by omega);replace k99:=pw5.av;refine cI 0 2 3 4 5 6 24 38 (aG ?_);refine Zv (aa.aQ rfl rfl Tryz.underlying71 rfl k5 (m:=4) (by kernel_rfl) rfl) ?_;refine Zo 4 k2 ?_;intro w6 pw6;replace ae:=ae.put k2 pw6 e2;replace k99:=k99.put pw6 (by omega);replace rdw:=rdw.put k2 pw6 e2;replace k5:=k5.put pw6 (by omega);replace k2:=pw6.av;refine cI 0 2 3 4 5 6 24 38 (Zt (Cd.ret (ab.af ?_)));refine ab.cz rfl rfl k2 Tryz.underlying71 rfl (m:=4) (by kernel_rfl) rfl (.inl rfl) ?_;refine⟨ae,_, .mk op [] [] [],_,_,_,_,rfl,⟨fun _=>False,dm.mk (es:=[]) (ts:=[]) (vs:=[]) (us:=[]) rfl rfl (by simp) (by simp) hop64 (by simp) (by simp) (fun i e v h=>by simp at h) (fun i e v h=>by simp at h) (fun h=>absurd rfl h) (fun h=>absurd rfl h),fun b hb=>hb.elim⟩,rdw.sw k99 hpl hol,fun h=> ?_,fun h=>⟨rfl,rfl,rfl,rfl⟩⟩;obtain⟨h1,h2,h3⟩:=hg0 h;rw[hb h];exact⟨rfl,h2,rfl,by omega,by omega⟩
 obtain⟨rfl,hk3,htt,hp⟩:=htq (hopn c1);replace hT:=hT rfl;obtain⟨rfl,rfl,hd⟩:=hg0 rfl
 have hRt:R=if t=uG then(aW K.ws [fun p _=>dW K.ws p] (p+1) d).bind fun xs p=> .ok (.mk 2 (xs.getD 0 []) [] []) p
   else(aW K.ws (eu ((cg K.ws).E 0) T0 (cC t).2.1 (cC t).2.2) (p+1) d).bind fun xs q=> .ok (.mk (cC t).1 [] (cR xs) (bZ xs)) q:=by
  rw[hR];unfold dR;rw[if_neg (by simp[hk3]),htt,if_neg c0]
  by_cases h1:t=uG
  ·rw[if_pos h1,if_pos h1]
  ·rw[if_neg h1,if_neg h1]
   rcases hsp with ⟨h,-⟩|⟨-,h2,-⟩
   ·exact absurd h h1
   ·rw[if_neg (by rw[h2];exact c1)]
 obtain⟨cont,hRc,hcont⟩:∃cont:Nat→Rs Tm,(R=(bE K.ws [40] (p+1)).bind fun _ q=>(cW q d).bind fun _ q=>cont q)∧
   ((op=2∧cont=fun q=>(dW K.ws q).bind fun nm q=>(bE K.ws [41] q).bind fun _ q=> .ok (.mk 2 nm [] []) q)∨
    (op=3∧cont=fun q=>(T0 q (d+1)).bind fun a q=>(bE K.ws [41] q).bind fun _ q=> .ok (.mk op [] [] [a]) q)∨
    ((op=4∨op=5)∧cont=fun q=>(T0 q (d+1)).bind fun a q=>(bE K.ws [44] q).bind fun _ q=>(T0 q (d+1)).bind fun b q=>(bE K.ws [41] q).bind fun _ q=> .ok (.mk op [] [] [a,b]) q)∨
    ((6≤op∧op≤9)∧cont=fun q=>((cg K.ws).E 0 q (d+1)).bind fun a q=>(bE K.ws [44] q).bind fun _ q=>(T0 q (d+1)).bind fun b q=>(bE K.ws [41] q).bind fun _ q=> .ok (.mk op [] [a] [b]) q)):=by
  rcases hsp with ⟨h1,h2⟩|⟨h1,h2,h|⟨h3,h4⟩|⟨h3,h4⟩|⟨h3,h4⟩⟩
  ·rw[if_pos h1] at hRt
   refine⟨_,?_, .inl ⟨h2,rfl⟩⟩;rw[hRt];unfold aW;simp only[bn,if_pos,Rs.bind_assoc,Rs.bz,List.getD_cons_zero]
  ·exact absurd h c1
  ·rw[if_neg h1,h2,h4] at hRt
   refine⟨_,?_, .inr (.inl ⟨h3,rfl⟩)⟩;rw[hRt];unfold aW eu Rs.map;simp only[List.replicate,List.nil_append,bn,if_pos,Rs.bind_assoc,Rs.bz];rfl
  ·rw[if_neg h1,h2,h4] at hRt
   refine⟨_,?_, .inr (.inr (.inl ⟨h3,rfl⟩))⟩;rw[hRt];unfold aW eu Rs.map;simp only[List.replicate,List.nil_append,bn,if_pos,Rs.bind_assoc,Rs.bz];rfl
  ·rw[if_neg h1,h2,h4] at hRt
   refine⟨_,?_, .inr (.inr (.inr ⟨h3,rfl⟩))⟩;rw[hRt];unfold aW eu Rs.map;simp only[List.replicate,List.nil_append,List.cons_append,bn,if_pos,Rs.bind_assoc,Rs.bz];rfl
 refine Cd.skip (aG ?_);refine Zm ?_;refine Zv (aa.nilCheck rfl rfl) ?_;refine Zf 1 Tryz.underlying183 ?_;refine Zv (aa.ag rfl rfl Tryz.underlying3 rfl k99 rfl) ?_;refine cH ?_;refine Zv (aa.nilCheck rfl rfl) ?_;refine Zf 1 Tryz.underlying183 ?_;refine Zq k99 ?_;intro w5 pw5;replace ae:=ae.put k99 pw5 e99;replace rdw:=rdw.put k99 pw5 e99;replace k2:=k2.put pw5 (by omega);replace k5:=k5.put pw5 (by omega);replace k99:=pw5.av;refine cI 0 2 3 4 5 6 24 38 (aG ?_);refine Zm ?_;have hta:=fQ K hK (p+1) d false false [40] _ (rdw.sw (by rw[Int.natCast_add];exact k99) (by omega) (by omega)) (by decide) (by decide);have k2l3:=k2.lt;have k5l3:=k5.lt;have hsb3:=ae.size;refine Zc (Ze Tryz.func157) hta ?_;rintro e wt ⟨⟨vt,rfl⟩,hft,swt⟩;refine⟨_,rfl,?_⟩;have belt:=ae.call hft;have k2t:=k2.fz hft (by omega);have k5t:=k5.fz hft (by omega);have hst:=hft.size;clear ae k2 k5 k99 rdw hta;have ae:=belt;have k2:=k2t;have k5:=k5t;have hen:=jr K hK _ _ _ _ _ swt (by omega);refine cI 0 2 3 4 5 6 24 38 (aG ?_);refine Zm ?_;refine Zc (Ze Tryz.func158) hen ?_;rintro e we ⟨⟨ve,rfl⟩,hfe,swe⟩;refine⟨_,rfl,?_⟩;have bele:=ae.call hfe;have k2e:=k2.fz hfe (by omega);have k5e:=k5.fz hfe (by omega);have hse:=hfe.size;clear ae k2 k5 hen;have ae:=bele;have k2:=k2e;have k5:=k5e;obtain⟨q,dp,bd,sw,nO⟩:=wC.open_ hRc swe;clear swe swt hRc hRt;have aq:=dt.nil we g5 g5;refine cI 0 2 3 4 5 6 24 38 (Zt ?_)
 refine Cd.lz (σ:=Nat × Int × Bool × Bool × List Nat × List Ex × List Tm × List Value × List Value × (Option Addr × Nat) × (Option Addr × Nat) × (Nat→Prop)) (fun _=>[(0, .pointer (some ⟨K.g,0,none⟩)),(2, .pointer (some ⟨g2,0,none⟩)),(5, .pointer (some ⟨g5,0,none⟩))])
  (fun s wr=>EY K R d p op w g2 g5 s.1 s.2.1 s.2.2.1 s.2.2.2.1 s.2.2.2.2.1 s.2.2.2.2.2.1 s.2.2.2.2.2.2.1 s.2.2.2.2.2.2.2.1 s.2.2.2.2.2.2.2.2.1 s.2.2.2.2.2.2.2.2.2.1.1 s.2.2.2.2.2.2.2.2.2.2.1.1 s.2.2.2.2.2.2.2.2.2.1.2 s.2.2.2.2.2.2.2.2.2.2.1.2 s.2.2.2.2.2.2.2.2.2.2.2 wr) ?_ ?_
 ·skip
  refine Cd.block (ao ?_);refine Zf 0 Tryz.underlying71 ?_;refine Zv (aa.ag rfl rfl Tryz.underlying3 rfl k5 rfl) ?_;refine Zv (aa.aB rfl rfl rfl) ?_;refine Za ?_;refine dG 0 2 3 4 5 6 24 38 70 (Zt ?_);refine Cd.au rfl (fun h2=> ?_) (fun h2=> ?_)
  ·have hgt:K.g<g5:=by omega
   have k5l4:=k5.lt;have k2l4:=k2.lt;have hsb4:=ae.size;rcases hcont with ⟨-,hcq⟩|⟨h,-⟩|⟨h,-⟩|⟨h,-⟩
   ·subst hcq
    have htx2:=mG K hK q ((d:Int)+1) dp bd 3 _ sw (by omega);have htl2:=oy hK q bd 3
    have htn2:(gx K.ws q bd 3).length≤4000:=by
     unfold gx;split
     ·simp
     split
     ·exact(hK.de q).2.2.2
     ·simp
    have hnm:(gx K.ws q bd 3=[]∨cq (gx K.ws q bd 3)=true)→eo R d (.mk op (gx K.ws q bd 3) [] []) q ((d:Int)+1) dp true:=fun h=>by
     cases bd with
     |true=>
      rw[(nO.2 rfl).1];exact⟨rfl,rfl,rfl,by omega,by omega⟩
     |false=>
      obtain⟨-,rfl,-,-,hRn⟩:=nO.1 rfl
      have:dW K.ws q= .bad q false:=by
       unfold dW;rw[if_neg];rintro⟨h1,h2⟩;have e:gx K.ws q false 3=(de K.ws q).text:=by unfold gx;rw[if_neg (by simp),if_pos h1]
       rw[e] at h;rcases h with h|h
       ·have:=u6 hW h1
        rw[h] at this;exact absurd this (by decide)
       ·rw[h2] at h;cases h
      rw[hRn];dsimp only;rw[this];exact⟨rfl,rfl,rfl,by omega,by omega⟩
    have hnm2:¬(gx K.ws q bd 3=[]∨cq (gx K.ws q bd 3)=true)→q+1≤K.ws.length∧wC p R d (fun q'=>(bE K.ws [41] q').bind fun _ q'=> .ok (.mk op (gx K.ws q bd 3) [] []) q') (q+1) ((d:Int)+1) dp bd:=fun h=>by
     cases bd with
     |true=>exact absurd (.inl rfl) h
     |false=>
      obtain⟨-,rfl,h1,h3,hRn⟩:=nO.1 rfl
      have hk:(de K.ws q).kind=3:=by
       rcases Decidable.em ((de K.ws q).kind=3) with hk|hk
       ·exact hk
       ·exact absurd (.inl (by unfold gx;rw[if_neg (by simp),if_neg hk])) h
      have e:gx K.ws q false 3=(de K.ws q).text:=by unfold gx;rw[if_neg (by simp),if_pos hk]
      rw[e] at h⊢
      have hn:dW K.ws q= .ok (de K.ws q).text (q+1):=by
       unfold dW;rw[if_pos ⟨hk,by rw[←Bool.not_eq_true];exact fun h2=>h (.inr h2)⟩]
      have hlt:q<K.ws.length:=by
       rcases Nat.lt_or_ge q K.ws.length with h|h
       ·exact h
       ·rw[ki h] at hk;exact absurd hk (by decide)
      refine⟨hlt,fun _=>⟨rfl,rfl,by omega,h3,?_⟩,fun h=>by cases h⟩;rw[hRn];dsimp only;rw[hn,Rs.bz,h2]
    obtain⟨tx,htxe⟩:∃tx,tx=gx K.ws q bd 3:=⟨_,rfl⟩;rw[←htxe] at htx2 htl2 htn2 hnm hnm2;have k99:=sw.av;have rdw:=sw.Dx;have e99:K.g=K.g:=rfl;have e5:w.heap.size≤g5:=hg5;refine ao ?_;refine Zm ?_;refine Zc (Ze Tryz.func156) (htx2) ?_;rintro e w5 ⟨rfl,hb5⟩;refine⟨_,rfl,?_⟩;clear htx2;replace ae:=ae.step hb5;replace k2:=k2.step hb5;replace k5:=k5.step hb5;replace k99:=k99.step hb5;replace rdw:=rdw.step hb5;refine Zf 1 Tryz.underlying71 ?_;refine Zq k5 ?_;intro w6 pw6;replace ae:=ae.put k5 pw6 e5;replace k2:=k2.put pw6 (by omega);replace k99:=k99.put pw6 (by omega);replace rdw:=rdw.put k5 pw6 e5;replace k5:=pw6.av;refine dG 0 2 3 4 5 6 24 38 70 (aJ (ao ?_));refine Zf 1 Tryz.underlying71 ?_;refine Zv (aa.ag rfl rfl Tryz.underlying9 rfl k5 rfl) ?_;refine Zv (aa.cF (b:=[]) rfl rfl rfl htl2 (by decide)) ?_;refine Zm ?_;refine ah.start ?_;refine bM (fun hcx=>aa.an 1 rfl rfl Tryz.underlying71 rfl (by kernel_rfl)) ?_;refine ah.next rfl rfl rfl rfl rfl rfl rfl (fun hcx=>aa.ag rfl rfl Tryz.underlying9 rfl k5 rfl) ?_;refine ah.bY rfl rfl rfl rfl rfl rfl rfl (fun hcx=>Ze Tryz.func159) (fun hcx=>jU tx _ htl2) ?_;intro w7 hw7;replace ae:=ae.step hw7;replace k2:=k2.step hw7;replace k5:=k5.step hw7;replace k99:=k99.step hw7;replace rdw:=rdw.step hw7;refine ah.or rfl rfl rfl rfl rfl rfl rfl ?_;refine dg 0 2 3 4 5 6 24 38 70 84 (Zt ?_);refine Cd.cond rfl (fun hc=> ?_) (fun hc=> ?_)
    ·have hc:tx=[]∨cq tx=true:=by simpa using hc
     have hres:=hnm hc;refine ao ?_;refine Zm ?_;refine Zv (aa.nilCheck rfl rfl) ?_;refine Zf 4 Tryz.underlying183 ?_;refine Zq k99 ?_;intro w8 pw8;replace ae:=ae.put k99 pw8 e99;replace k2:=k2.put pw8 (by omega);replace k5:=k5.put pw8 (by omega);replace rdw:=rdw.put k99 pw8 e99;replace k99:=pw8.av;refine dg 0 2 3 4 5 6 24 38 70 84 (aG ?_);refine Zv (aa.aQ rfl rfl Tryz.underlying71 rfl k5 (m:=4) (by kernel_rfl) rfl) ?_;refine Zo 4 k2 ?_;intro w9 pw9;replace ae:=ae.put k2 pw9 e2;replace k5:=k5.put pw9 (by omega);replace k99:=k99.put pw9 (by omega);replace rdw:=rdw.put k2 pw9 e2;replace k2:=pw9.av;refine dg 0 2 3 4 5 6 24 38 70 84 (Zt (Cd.ret (ab.af (ab.ak (ab.af ?_)))));refine ab.cz rfl rfl k2 Tryz.underlying71 rfl (m:=4) (by kernel_rfl) rfl (.inl rfl) ?_;refine⟨ae,_, .mk op tx [] [],_,_,_,_,rfl,⟨fun _=>False,dm.mk (es:=[]) (ts:=[]) (vs:=[]) (us:=[]) rfl rfl (by simp) (by simp) hop64 htl2 (by omega) (fun i e v h=>by simp at h) (fun i e v h=>by simp at h) (fun h=>absurd rfl h) (fun h=>absurd rfl h),fun b hb=>hb.elim⟩,rdw.sw k99 sw.bK sw.jQ,fun _=>hres,fun h=>by cases h⟩
    ·have hc:¬(tx=[]∨cq tx=true):=by simpa using hc
     obtain⟨hq1,hstt⟩:=hnm2 hc;refine Cd.skip (ei ?_);refine Zm ?_;refine Zv (aa.nilCheck rfl rfl) ?_;refine Zf 1 Tryz.underlying183 ?_;refine Zv (aa.ag rfl rfl Tryz.underlying3 rfl k99 rfl) ?_;refine cH ?_;refine Zv (aa.nilCheck rfl rfl) ?_;refine Zf 1 Tryz.underlying183 ?_;refine Zq k99 ?_;intro w8 pw8;replace ae:=ae.put k99 pw8 e99;replace k2:=k2.put pw8 (by omega);replace k5:=k5.put pw8 (by omega);replace rdw:=rdw.put k99 pw8 e99;replace k99:=pw8.av;refine dg 0 2 3 4 5 6 24 38 70 84 (ab.aj ?_);exact ab.join (q+1,(d:Int)+1,dp,bd,tx,[],[],[],[],(none,0),(none,0),fun _=>False) ⟨rfl,rfl,rfl,trivial⟩ ⟨rdw.sw (by rw[Int.natCast_add];exact k99) hq1 sw.jQ,ae,k2,k5,dt.nil _ _ _,⟨htl2,htn2⟩,⟨by simp,by simp⟩,hstt⟩
   all_goals omega
  have hgt:K.g<g5:=by omega
  have k5l4:=k5.lt;have k2l4:=k2.lt;have hsb4:=ae.size
  have hcont:(op=3∧cont=fun q=>(T0 q (d+1)).bind fun a q=>(bE K.ws [41] q).bind fun _ q=> .ok (.mk op [] [] [a]) q)∨
   ((op=4∨op=5)∧cont=fun q=>(T0 q (d+1)).bind fun a q=>(bE K.ws [44] q).bind fun _ q=>(T0 q (d+1)).bind fun b q=>(bE K.ws [41] q).bind fun _ q=> .ok (.mk op [] [] [a,b]) q)∨
   ((6≤op∧op≤9)∧cont=fun q=>((cg K.ws).E 0 q (d+1)).bind fun a q=>(bE K.ws [44] q).bind fun _ q=>(T0 q (d+1)).bind fun b q=>(bE K.ws [41] q).bind fun _ q=> .ok (.mk op [] [a] [b]) q):=by
   rcases hcont with ⟨h,-⟩|h
   ·exact absurd h h2
   ·exact h
  refine ao ?_;refine Zf 0 Tryz.underlying71 ?_;refine Zv (aa.ag rfl rfl Tryz.underlying3 rfl k5 rfl) ?_;refine Zv (aa.aB rfl rfl rfl) ?_;refine Za ?_;refine dg 0 2 3 4 5 6 24 38 70 96 (Zt ?_);refine Cd.au rfl (fun h3=> ?_) (fun h3=> ?_)
  ·obtain⟨-,rfl⟩:op=3∧_:=by
    rcases hcont with h|⟨h,-⟩|⟨h,-⟩
    ·exact h
    all_goals omega
   have hcl:∀W,SW K W q ((d:Int)+1) dp bd→Fz we.heap.size K.g we W→Calls Tryz.prog 123 #[.pointer (some ⟨K.g,0,none⟩)] W (CR K W.heap.size W (fm (T0 q (d+1)) (d+1) q ((d:Int)+1) dp bd) (zl W)):=fun W h1 _=>
    hT q (d+1) _ _ _ W (by cases hb:bd with|false=>exact .inl (nO.1 hb).2.2.1|true=>exact .inr rfl) (fun hb=>⟨by have:=(nO.1 hb).1;omega,(nO.1 hb).2.1,(nO.1 hb).2.2.2.1⟩) h1
   refine Cd.iC (σT:=Tm × Value × (Nat→Prop) × Nat × Value) 6 (by kernel_rfl) rfl rfl (fun σ=>[.pointer (some ⟨g5,3,none⟩), .slice none 0 0, .pointer (some ⟨K.g,0,none⟩),σ.2.1, .slice (some ⟨σ.2.2.2.1,0,none⟩) 1 1,σ.2.2.2.2]) (fun σ S W=>(S 5=false→XC dm K we q ((d:Int)+1) dp bd (fm (T0 q (d+1)) (d+1) q ((d:Int)+1) dp bd) (S 3) (S 4) σ.1 σ.2.2.1 σ.2.1 σ.2.2.2.1 71 W)∧(S 5=true→(∃p9 o9 dp9 bd9,SW K W p9 o9 dp9 bd9∧(fm (T0 q (d+1)) (d+1) q ((d:Int)+1) dp bd) σ.1 p9 o9 dp9 bd9)∧Fz g5 K.g we W∧aK W g5 71 #[.int .i64 op, .string (strOf []), .slice none 0 0, .slice none 0 0]∧∃S',dt W g5 g5 [] ([]++[σ.1]) [] ([]++[σ.2.1]) (.slice none 0 0) (σ.2.2.2.2) S')) ((eT,undef,fun _=>False,0,undef)) ?_ ?_ ?_
   ·intro w0 hb0 hs0
    exact⟨fun _=>⟨Fz.of hb0,fun _=>sw.step hb0,fun h=>(by cases h),fun h=>(by cases h)⟩,fun h=>(by cases h)⟩
   ·intro k o ho
    match k,ho with
    |0,ho=>
     injection ho with ho
     subst ho;intro σ S w hS hpre hdc hX;refine Seq.val (aa.an 3 rfl rfl Tryz.underlying71 rfl (by kernel_rfl)) rfl rfl rfl (Seq.nil ?_);exact ab.aC rfl rfl rfl hpre rfl (fun _ _=>rfl) hX
    |1,ho=>
     injection ho with ho
     subst ho;intro σ S w hS hpre hdc hX;have h5:=cB hdc (i:=5) rfl hS (ar rfl);refine Seq.val (aa.ag (g:=g5) (i:=3) rfl rfl Tryz.underlying69 rfl (k5.fz (hX.1 h5).fz (by omega)) rfl) rfl rfl rfl (Seq.nil ?_);exact ab.aC rfl rfl rfl hpre rfl (fun _ _=>rfl) hX
    |2,ho=>
     injection ho with ho
     subst ho;intro σ S w hS hpre hdc hX;refine Seq.val (aa.move rfl rfl) rfl rfl rfl (Seq.nil ?_);exact ab.aC rfl rfl rfl hpre rfl (fun _ _=>rfl) hX
    |3,ho=>
     injection ho with ho
     subst ho;intro σ S w hS hpre hdc hX;have h5:=cB hdc (i:=5) rfl hS (ar rfl);have h4:=cB hdc (i:=4) rfl hS (ar rfl);have hXa:=hX.1 h5;refine Zc (Ze Tryz.func123) ((fun W h1 h2=>hcl W h1 h2) w (hXa.pre hS) hXa.fz) ?_;rintro e w6 ⟨hf,v6,x6,p6,o6,dp6,bd6,rfl,⟨S6,hr6,hb6⟩,hsw6,hpf6⟩;refine⟨_,rfl,Seq.nil ?_⟩;exact ab.aC (σ:=σ) (σ':=(x6,v6,S6,σ.2.2.2.1,σ.2.2.2.2)) rfl rfl rfl hpre rfl (fun j hj=>qT hS h4 h5 j hj) ⟨fun _=>hXa.called h4 hf hsw6 hpf6 hr6 hb6,fun hm=>(nt h5 hm).elim⟩
    |4,ho=>
     injection ho with ho
     subst ho;intro σ S w hS hpre hdc hX;have h5:=cB hdc (i:=5) rfl hS (ar rfl);have hXa:=hX.1 h5;have hd:=hpre 3 (ar rfl);have hones:=(hXa.post hd).2.1.aY;refine Seq.slice (vs:=[σ.2.1]) (s:=4) rfl rfl rfl Tryz.underlying69 (by kernel_rfl) aI (by omega) (by omega) ⟨hones.1,trivial⟩ rfl rfl rfl ?_;intro g7 w' n7;refine Seq.nil ?_;exact ab.aC (σ:=σ) (σ':=(σ.1,σ.2.1,σ.2.2.1,g7,σ.2.2.2.2)) rfl rfl rfl hpre rfl (fun j hj=>rq hS h5 j hj) ⟨fun _=>hXa.oG hd n7,fun hm=>(nt h5 hm).elim⟩
    |5,ho=>
     injection ho with ho
     subst ho;intro σ S w hS hpre hdc hX;have hXa:=hX.1 hS;have hd:=hpre 3 (ar rfl);obtain⟨⟨p3,o3,dp3,bd3,sw3,hpf3⟩,hrep,haway⟩:=hXa.post hd;obtain⟨ez,kz,hnz⟩:=hXa.new (hpre 4 (ar rfl));have hones:=hrep.aY;have hsz:=hXa.fz.size;have aq3:=aq.fz hXa.fz hgt;have hown:=aq3.fh;have k90:=k5.fz hXa.fz (by omega);have hlt90:=k5.lt;refine Seq.fN rfl rfl rfl Tryz.underlying69 (by kernel_rfl) aI rfl (by decide) (b:=72) (by kernel_rfl) hown (Reads.av (size:=4) kz 1 hones.1) hones.2 (by omega) (by first|(simp only[maxLen];omega)|(simp only[maxLen,List.length_nil,List.length_cons];omega)|simp[maxLen]) (by first|omega|(simp only[List.length_nil,List.length_cons];omega)|simp) rfl rfl rfl ?_;intro v' w4 hown' happ hv';refine Seq.nil ?_;have hs4:=happ.below.size
     have aq6:=aq3.yK hrep (fun b hb=>⟨by have:=(haway b hb).1;omega,(haway b hb).2,by have:=(haway b hb).1;omega,fun e=>by have:=(aq.eW.aT b e).2;have:=(haway b hb).1;omega,fun e=>by have:=(aq.fh.aT b e).2;have:=(haway b hb).1;omega⟩) hown' hs4
      (fun b _ h2 h3 h4=>happ.grown.block b h2 (fun e=>h4 e.symm)) (hv'.elim .inl fun e=> .inr ⟨_,e,Nat.le_refl _⟩) (by omega)
     exact ab.aC (σ:=σ) (σ':=(σ.1,σ.2.1,σ.2.2.1,σ.2.2.2.1,v')) rfl rfl rfl hpre rfl (fun j hj=>rk hS j hj) ⟨(fun h=>by cases h),fun _=>⟨⟨p3,o3,dp3,bd3,⟨sw3.av.grown happ.grown (fun e=>by have:=(hown.aT _ e.symm).1;omega),sw3.rd.below (happ.below.mono (by omega)),sw3.bK,sw3.jQ,sw3.le⟩,hpf3⟩,(hXa.fz.less (by omega)).trans (Fz.of happ.below),k90.grown happ.grown (fun e=>aq3.xS e.symm),_,aq6⟩⟩
    |k+6,ho=>simp at ho
   rintro⟨x1,v1,S1,g1x,vX⟩ S3 wr1 hS hX;obtain⟨⟨q1,o1,dp1,bd1,sw1,hpf⟩,fz3,k53,S7,aq3⟩:=hX.2 (hS 5 (by decide));clear hX;dsimp only at hpf aq3;have stt1:=nO.part hMT hpf;have hs1:=fz3.size;have bel3:Fz w.heap.size K.g w wr1:=ae.trans (fz3.less (by omega));have k23:=k2.DP fz3 h25 (by omega);obtain⟨AX,cX,hvX,-⟩:=aq3.fh.reads;subst hvX;clear ae k2 k5 aq sw nO;have ae:=bel3;have k2:=k23;have k5:=k53;have aq:=aq3;have sw:=sw1;have e5:w.heap.size≤g5:=hg5;refine Zf 3 Tryz.underlying71 ?_;refine Zq k5 ?_;intro w6 pw6;replace ae:=ae.put k5 pw6 e5;replace k2:=k2.put pw6 (by omega);replace aq:=aq.put k5 pw6 e5;replace sw:=sw.put k5 pw6 e5;replace k5:=pw6.av;refine dg 0 2 3 4 5 6 24 38 70 96 (ab.aj ?_);exact ab.join (q1,o1,dp1,bd1,[],[],[x1],[],[v1],(none,0),(AX,cX),_) ⟨rfl,rfl,rfl,trivial⟩ ⟨sw,ae,k2,k5,aq,⟨by simp,by simp⟩,⟨by simp,by simp⟩,stt1⟩
  have hcont:((op=4∨op=5)∧cont=fun q=>(T0 q (d+1)).bind fun a q=>(bE K.ws [44] q).bind fun _ q=>(T0 q (d+1)).bind fun b q=>(bE K.ws [41] q).bind fun _ q=> .ok (.mk op [] [] [a,b]) q)∨
   ((6≤op∧op≤9)∧cont=fun q=>((cg K.ws).E 0 q (d+1)).bind fun a q=>(bE K.ws [44] q).bind fun _ q=>(T0 q (d+1)).bind fun b q=>(bE K.ws [41] q).bind fun _ q=> .ok (.mk op [] [a] [b]) q):=by
   rcases hcont with ⟨h,-⟩|h
   ·exact absurd h h3
   ·exact h
  refine ao ?_;refine Zf 0 Tryz.underlying71 ?_;refine Zv (aa.ag rfl rfl Tryz.underlying3 rfl k5 rfl) ?_;refine Zv (aa.leq rfl rfl rfl) ?_;refine Za ?_;refine dr 0 2 3 4 5 6 24 38 70 96 107 (Zt ?_);refine Cd.au rfl (fun h4=> ?_) (fun h4=> ?_)
  ·obtain⟨-,rfl⟩:(op=4∨op=5)∧_:=by
    rcases hcont with h|⟨h,-⟩
    ·exact h
    ·omega
   have hcl:∀W,SW K W q ((d:Int)+1) dp bd→Fz we.heap.size K.g we W→Calls Tryz.prog 123 #[.pointer (some ⟨K.g,0,none⟩)] W (CR K W.heap.size W (fm (T0 q (d+1)) (d+1) q ((d:Int)+1) dp bd) (zl W)):=fun W h1 _=>
    hT q (d+1) _ _ _ W (by cases hb:bd with|false=>exact .inl (nO.1 hb).2.2.1|true=>exact .inr rfl) (fun hb=>⟨by have:=(nO.1 hb).1;omega,(nO.1 hb).2.1,(nO.1 hb).2.2.2.1⟩) h1
   refine Cd.seq ?_;refine Cd.iC (σT:=Tm × Value × (Nat→Prop) × Nat × Value) 6 (by kernel_rfl) rfl rfl (fun σ=>[.pointer (some ⟨g5,3,none⟩), .slice none 0 0, .pointer (some ⟨K.g,0,none⟩),σ.2.1, .slice (some ⟨σ.2.2.2.1,0,none⟩) 1 1,σ.2.2.2.2]) (fun σ S W=>(S 5=false→XC dm K we q ((d:Int)+1) dp bd (fm (T0 q (d+1)) (d+1) q ((d:Int)+1) dp bd) (S 3) (S 4) σ.1 σ.2.2.1 σ.2.1 σ.2.2.2.1 71 W)∧(S 5=true→(∃p9 o9 dp9 bd9,SW K W p9 o9 dp9 bd9∧(fm (T0 q (d+1)) (d+1) q ((d:Int)+1) dp bd) σ.1 p9 o9 dp9 bd9)∧Fz g5 K.g we W∧aK W g5 71 #[.int .i64 op, .string (strOf []), .slice none 0 0, .slice none 0 0]∧∃S',dt W g5 g5 [] ([]++[σ.1]) [] ([]++[σ.2.1]) (.slice none 0 0) (σ.2.2.2.2) S')) ((eT,undef,fun _=>False,0,undef)) ?_ ?_ ?_
   ·intro w0 hb0 hs0
    exact⟨fun _=>⟨Fz.of hb0,fun _=>sw.step hb0,fun h=>(by cases h),fun h=>(by cases h)⟩,fun h=>(by cases h)⟩
   ·intro k o ho
    match k,ho with
    |0,ho=>
     injection ho with ho
     subst ho;intro σ S w hS hpre hdc hX;refine Seq.val (aa.an 3 rfl rfl Tryz.underlying71 rfl (by kernel_rfl)) rfl rfl rfl (Seq.nil ?_);exact ab.aC rfl rfl rfl hpre rfl (fun _ _=>rfl) hX
    |1,ho=>
     injection ho with ho
     subst ho;intro σ S w hS hpre hdc hX;have h5:=cB hdc (i:=5) rfl hS (ar rfl);refine Seq.val (aa.ag (g:=g5) (i:=3) rfl rfl Tryz.underlying69 rfl (k5.fz (hX.1 h5).fz (by omega)) rfl) rfl rfl rfl (Seq.nil ?_);exact ab.aC rfl rfl rfl hpre rfl (fun _ _=>rfl) hX
    |2,ho=>
     injection ho with ho
     subst ho;intro σ S w hS hpre hdc hX;refine Seq.val (aa.move rfl rfl) rfl rfl rfl (Seq.nil ?_);exact ab.aC rfl rfl rfl hpre rfl (fun _ _=>rfl) hX
    |3,ho=>
     injection ho with ho
     subst ho;intro σ S w hS hpre hdc hX;have h5:=cB hdc (i:=5) rfl hS (ar rfl);have h4:=cB hdc (i:=4) rfl hS (ar rfl);have hXa:=hX.1 h5;refine Zc (Ze Tryz.func123) ((fun W h1 h2=>hcl W h1 h2) w (hXa.pre hS) hXa.fz) ?_;rintro e w6 ⟨hf,v6,x6,p6,o6,dp6,bd6,rfl,⟨S6,hr6,hb6⟩,hsw6,hpf6⟩;refine⟨_,rfl,Seq.nil ?_⟩;exact ab.aC (σ:=σ) (σ':=(x6,v6,S6,σ.2.2.2.1,σ.2.2.2.2)) rfl rfl rfl hpre rfl (fun j hj=>qT hS h4 h5 j hj) ⟨fun _=>hXa.called h4 hf hsw6 hpf6 hr6 hb6,fun hm=>(nt h5 hm).elim⟩
    |4,ho=>
     injection ho with ho
     subst ho;intro σ S w hS hpre hdc hX;have h5:=cB hdc (i:=5) rfl hS (ar rfl);have hXa:=hX.1 h5;have hd:=hpre 3 (ar rfl);have hones:=(hXa.post hd).2.1.aY;refine Seq.slice (vs:=[σ.2.1]) (s:=4) rfl rfl rfl Tryz.underlying69 (by kernel_rfl) aI (by omega) (by omega) ⟨hones.1,trivial⟩ rfl rfl rfl ?_;intro g7 w' n7;refine Seq.nil ?_;exact ab.aC (σ:=σ) (σ':=(σ.1,σ.2.1,σ.2.2.1,g7,σ.2.2.2.2)) rfl rfl rfl hpre rfl (fun j hj=>rq hS h5 j hj) ⟨fun _=>hXa.oG hd n7,fun hm=>(nt h5 hm).elim⟩
    |5,ho=>
     injection ho with ho
     subst ho;intro σ S w hS hpre hdc hX;have hXa:=hX.1 hS;have hd:=hpre 3 (ar rfl);obtain⟨⟨p3,o3,dp3,bd3,sw3,hpf3⟩,hrep,haway⟩:=hXa.post hd;obtain⟨ez,kz,hnz⟩:=hXa.new (hpre 4 (ar rfl));have hones:=hrep.aY;have hsz:=hXa.fz.size;have aq3:=aq.fz hXa.fz hgt;have hown:=aq3.fh;have k90:=k5.fz hXa.fz (by omega);have hlt90:=k5.lt;refine Seq.fN rfl rfl rfl Tryz.underlying69 (by kernel_rfl) aI rfl (by decide) (b:=72) (by kernel_rfl) hown (Reads.av (size:=4) kz 1 hones.1) hones.2 (by omega) (by first|(simp only[maxLen];omega)|(simp only[maxLen,List.length_nil,List.length_cons];omega)|simp[maxLen]) (by first|omega|(simp only[List.length_nil,List.length_cons];omega)|simp) rfl rfl rfl ?_;intro v' w4 hown' happ hv';refine Seq.nil ?_;have hs4:=happ.below.size
     have aq6:=aq3.yK hrep (fun b hb=>⟨by have:=(haway b hb).1;omega,(haway b hb).2,by have:=(haway b hb).1;omega,fun e=>by have:=(aq.eW.aT b e).2;have:=(haway b hb).1;omega,fun e=>by have:=(aq.fh.aT b e).2;have:=(haway b hb).1;omega⟩) hown' hs4
      (fun b _ h2 h3 h4=>happ.grown.block b h2 (fun e=>h4 e.symm)) (hv'.elim .inl fun e=> .inr ⟨_,e,Nat.le_refl _⟩) (by omega)
     exact ab.aC (σ:=σ) (σ':=(σ.1,σ.2.1,σ.2.2.1,σ.2.2.2.1,v')) rfl rfl rfl hpre rfl (fun j hj=>rk hS j hj) ⟨(fun h=>by cases h),fun _=>⟨⟨p3,o3,dp3,bd3,⟨sw3.av.grown happ.grown (fun e=>by have:=(hown.aT _ e.symm).1;omega),sw3.rd.below (happ.below.mono (by omega)),sw3.bK,sw3.jQ,sw3.le⟩,hpf3⟩,(hXa.fz.less (by omega)).trans (Fz.of happ.below),k90.grown happ.grown (fun e=>aq3.xS e.symm),_,aq6⟩⟩
    |k+6,ho=>simp at ho
   rintro⟨x1,v1,S1,g1x,vX⟩ S3 wr1 hS hX;obtain⟨⟨q1,o1,dp1,bd1,sw1,hpf⟩,fz3,k53,S7,aq3⟩:=hX.2 (hS 5 (by decide));clear hX;dsimp only at hpf aq3;have stt1:=nO.part hMT hpf;have hs1:=fz3.size;have bel3:Fz w.heap.size K.g w wr1:=ae.trans (fz3.less (by omega));have k23:=k2.DP fz3 h25 (by omega);obtain⟨AX,cX,hvX,-⟩:=aq3.fh.reads;subst hvX;clear ae k2 k5 aq sw nO;have ae:=bel3;have k2:=k23;have k5:=k53;have aq:=aq3;have sw:=sw1;have e5:w.heap.size≤g5:=hg5;refine Zf 3 Tryz.underlying71 ?_;refine Zq k5 ?_;intro w6 pw6;replace ae:=ae.put k5 pw6 e5;replace k2:=k2.put pw6 (by omega);replace aq:=aq.put k5 pw6 e5;replace sw:=sw.put k5 pw6 e5;replace k5:=pw6.av;refine dr 0 2 3 4 5 6 24 38 70 96 107 (aG ?_);refine Zm ?_;have hta:=fQ K hK q1 o1 dp1 bd1 [44] _ sw (by decide) (by decide);have k2l5:=k2.lt;have k5l5:=k5.lt;have hsb5:=ae.size;refine Zc (Ze Tryz.func157) hta ?_;rintro e w8 ⟨⟨vq,rfl⟩,hfq,swq⟩;refine⟨_,rfl,?_⟩;have belq:=ae.call hfq;have k2q:=k2.fz hfq (by omega);have k5q:=k5.fz hfq (by omega);have aqq:=aq.fz hfq hgt;have hsq:=hfq.size;have sttq:=stt1.sign;clear ae k2 k5 hta aq sw stt1;have ae:=belq;have k2:=k2q;have k5:=k5q;have aq:=aqq;have sw:=swq;obtain⟨q8,hq8⟩:∃z,z=(dY K.ws [44] q1 bd1).1:=⟨_,rfl⟩;obtain⟨bd8,hbd8⟩:∃z,z=(dY K.ws [44] q1 bd1).2:=⟨_,rfl⟩;rw[←hq8,←hbd8] at sw sttq;have k5l6:=k5.lt;have hsb6:=ae.size;refine dr 0 2 3 4 5 6 24 38 70 96 107 (Zt ?_)
   have hcl:∀W,SW K W q8 o1 dp1 bd8→Fz w8.heap.size K.g w8 W→Calls Tryz.prog 123 #[.pointer (some ⟨K.g,0,none⟩)] W (CR K W.heap.size W (fm (T0 q8 (d+1)) (d+1) q8 o1 dp1 bd8) (zl W)):=fun W h1 _=>
    hT q8 (d+1) _ _ _ W (by cases hb:bd8 with|false=>exact .inl (sttq.1 hb).2.2.1|true=>exact .inr rfl) (fun hb=>⟨by have:=(sttq.1 hb).1;omega,(sttq.1 hb).2.1,(sttq.1 hb).2.2.2.1⟩) h1
   refine Cd.iC (σT:=Tm × Value × (Nat→Prop) × Nat × Value) 6 (by kernel_rfl) rfl rfl (fun σ=>[.pointer (some ⟨g5,3,none⟩), .slice AX [x1].length cX, .pointer (some ⟨K.g,0,none⟩),σ.2.1, .slice (some ⟨σ.2.2.2.1,0,none⟩) 1 1,σ.2.2.2.2]) (fun σ S W=>(S 5=false→XC dm K w8 q8 o1 dp1 bd8 (fm (T0 q8 (d+1)) (d+1) q8 o1 dp1 bd8) (S 3) (S 4) σ.1 σ.2.2.1 σ.2.1 σ.2.2.2.1 71 W)∧(S 5=true→(∃p9 o9 dp9 bd9,SW K W p9 o9 dp9 bd9∧(fm (T0 q8 (d+1)) (d+1) q8 o1 dp1 bd8) σ.1 p9 o9 dp9 bd9)∧Fz g5 K.g w8 W∧aK W g5 71 #[.int .i64 op, .string (strOf []), .slice none 0 0, .slice AX [x1].length cX]∧∃S',dt W g5 g5 [] ([x1]++[σ.1]) [] ([v1]++[σ.2.1]) (.slice none 0 0) (σ.2.2.2.2) S')) ((eT,undef,fun _=>False,0,undef)) ?_ ?_ ?_
   ·intro w0 hb0 hs0
    exact⟨fun _=>⟨Fz.of hb0,fun _=>sw.step hb0,fun h=>(by cases h),fun h=>(by cases h)⟩,fun h=>(by cases h)⟩
   ·intro k o ho
    match k,ho with
    |0,ho=>
     injection ho with ho
     subst ho;intro σ S w hS hpre hdc hX;refine Seq.val (aa.an 3 rfl rfl Tryz.underlying71 rfl (by kernel_rfl)) rfl rfl rfl (Seq.nil ?_);exact ab.aC rfl rfl rfl hpre rfl (fun _ _=>rfl) hX
    |1,ho=>
     injection ho with ho
     subst ho;intro σ S w hS hpre hdc hX;have h5:=cB hdc (i:=5) rfl hS (ar rfl);refine Seq.val (aa.ag (g:=g5) (i:=3) rfl rfl Tryz.underlying69 rfl (k5.fz (hX.1 h5).fz (by omega)) rfl) rfl rfl rfl (Seq.nil ?_);exact ab.aC rfl rfl rfl hpre rfl (fun _ _=>rfl) hX
    |2,ho=>
     injection ho with ho
     subst ho;intro σ S w hS hpre hdc hX;refine Seq.val (aa.move rfl rfl) rfl rfl rfl (Seq.nil ?_);exact ab.aC rfl rfl rfl hpre rfl (fun _ _=>rfl) hX
    |3,ho=>
     injection ho with ho
     subst ho;intro σ S w hS hpre hdc hX;have h5:=cB hdc (i:=5) rfl hS (ar rfl);have h4:=cB hdc (i:=4) rfl hS (ar rfl);have hXa:=hX.1 h5;refine Zc (Ze Tryz.func123) ((fun W h1 h2=>hcl W h1 h2) w (hXa.pre hS) hXa.fz) ?_;rintro e w6 ⟨hf,v6,x6,p6,o6,dp6,bd6,rfl,⟨S6,hr6,hb6⟩,hsw6,hpf6⟩;refine⟨_,rfl,Seq.nil ?_⟩;exact ab.aC (σ:=σ) (σ':=(x6,v6,S6,σ.2.2.2.1,σ.2.2.2.2)) rfl rfl rfl hpre rfl (fun j hj=>qT hS h4 h5 j hj) ⟨fun _=>hXa.called h4 hf hsw6 hpf6 hr6 hb6,fun hm=>(nt h5 hm).elim⟩
    |4,ho=>
     injection ho with ho
     subst ho;intro σ S w hS hpre hdc hX;have h5:=cB hdc (i:=5) rfl hS (ar rfl);have hXa:=hX.1 h5;have hd:=hpre 3 (ar rfl);have hones:=(hXa.post hd).2.1.aY;refine Seq.slice (vs:=[σ.2.1]) (s:=4) rfl rfl rfl Tryz.underlying69 (by kernel_rfl) aI (by omega) (by omega) ⟨hones.1,trivial⟩ rfl rfl rfl ?_;intro g7 w' n7;refine Seq.nil ?_;exact ab.aC (σ:=σ) (σ':=(σ.1,σ.2.1,σ.2.2.1,g7,σ.2.2.2.2)) rfl rfl rfl hpre rfl (fun j hj=>rq hS h5 j hj) ⟨fun _=>hXa.oG hd n7,fun hm=>(nt h5 hm).elim⟩
    |5,ho=>
     injection ho with ho
     subst ho;intro σ S w hS hpre hdc hX;have hXa:=hX.1 hS;have hd:=hpre 3 (ar rfl);obtain⟨⟨p3,o3,dp3,bd3,sw3,hpf3⟩,hrep,haway⟩:=hXa.post hd;obtain⟨ez,kz,hnz⟩:=hXa.new (hpre 4 (ar rfl));have hones:=hrep.aY;have hsz:=hXa.fz.size;have aq3:=aq.fz hXa.fz hgt;have hown:=aq3.fh;have k90:=k5.fz hXa.fz (by omega);have hlt90:=k5.lt;refine Seq.fN rfl rfl rfl Tryz.underlying69 (by kernel_rfl) aI rfl (by decide) (b:=72) (by kernel_rfl) hown (Reads.av (size:=4) kz 1 hones.1) hones.2 (by omega) (by first|(simp only[maxLen];omega)|(simp only[maxLen,List.length_nil,List.length_cons];omega)|simp[maxLen]) (by first|omega|(simp only[List.length_nil,List.length_cons];omega)|simp) rfl rfl rfl ?_;intro v' w4 hown' happ hv';refine Seq.nil ?_;have hs4:=happ.below.size
     have aq6:=aq3.yK hrep (fun b hb=>⟨by have:=(haway b hb).1;omega,(haway b hb).2,by have:=(haway b hb).1;omega,fun e=>by have:=(aq.eW.aT b e).2;have:=(haway b hb).1;omega,fun e=>by have:=(aq.fh.aT b e).2;have:=(haway b hb).1;omega⟩) hown' hs4
      (fun b _ h2 h3 h4=>happ.grown.block b h2 (fun e=>h4 e.symm)) (hv'.elim .inl fun e=> .inr ⟨_,e,Nat.le_refl _⟩) (by omega)
     exact ab.aC (σ:=σ) (σ':=(σ.1,σ.2.1,σ.2.2.1,σ.2.2.2.1,v')) rfl rfl rfl hpre rfl (fun j hj=>rk hS j hj) ⟨(fun h=>by cases h),fun _=>⟨⟨p3,o3,dp3,bd3,⟨sw3.av.grown happ.grown (fun e=>by have:=(hown.aT _ e.symm).1;omega),sw3.rd.below (happ.below.mono (by omega)),sw3.bK,sw3.jQ,sw3.le⟩,hpf3⟩,(hXa.fz.less (by omega)).trans (Fz.of happ.below),k90.grown happ.grown (fun e=>aq3.xS e.symm),_,aq6⟩⟩
    |k+6,ho=>simp at ho
   rintro⟨x2,v2,S2,g2x,vX⟩ S3 wr2 hS hX;obtain⟨⟨q2,o2,dp2,bd2,sw2,hpf⟩,fz3,k53,S7,aq3⟩:=hX.2 (hS 5 (by decide));clear hX;dsimp only at hpf aq3;have stt2:=sttq.part hMT hpf;have hs2:=fz3.size;have bel3:Fz w.heap.size K.g w wr2:=ae.trans (fz3.less (by omega));have k23:=k2.DP fz3 h25 (by omega);obtain⟨AX2,cX2,hvX,-⟩:=aq3.fh.reads;subst hvX;clear ae k2 k5 aq sw sttq;have ae:=bel3;have k2:=k23;have k5:=k53;have aq:=aq3;have sw:=sw2;have e5:w.heap.size≤g5:=hg5;refine Zf 3 Tryz.underlying71 ?_;refine Zq k5 ?_;intro w7 pw7;replace ae:=ae.put k5 pw7 e5;replace k2:=k2.put pw7 (by omega);replace aq:=aq.put k5 pw7 e5;replace sw:=sw.put k5 pw7 e5;replace k5:=pw7.av;refine dr 0 2 3 4 5 6 24 38 70 96 107 (ab.aj ?_);exact ab.join (q2,o2,dp2,bd2,[],[],[x1,x2],[],[v1,v2],(none,0),(AX2,cX2),_) ⟨rfl,rfl,rfl,trivial⟩ ⟨sw,ae,k2,k5,aq,⟨by simp,by simp⟩,⟨by simp,by simp⟩,stt2⟩
  ·obtain⟨-,rfl⟩:(6≤op∧op≤9)∧_:=by
    rcases hcont with ⟨h,-⟩|h
    ·omega
    ·exact h
   have hcl:∀W,SW K W q ((d:Int)+1) dp bd→Fz we.heap.size K.g we W→Calls Tryz.prog 160 #[.pointer (some ⟨K.g,0,none⟩), .int .i64 1] W (CR K W.heap.size W (fm ((cg K.ws).E 0 q (d+1)) (d+1) q ((d:Int)+1) dp bd) (nN W)):=fun W h1 _=>
    yI K hK hW q (d+1) _ _ _ (fun hb=>⟨by have:=(nO.1 hb).1;omega,(nO.1 hb).2.1,(nO.1 hb).2.2.2.1⟩) W h1
   refine Cd.seq ?_;refine Cd.iC (σT:=Ex × Value × (Nat→Prop) × Nat × Value) 6 (by kernel_rfl) rfl rfl (fun σ=>[.pointer (some ⟨g5,2,none⟩), .slice none 0 0, .pointer (some ⟨K.g,0,none⟩),σ.2.1, .slice (some ⟨σ.2.2.2.1,0,none⟩) 1 1,σ.2.2.2.2]) (fun σ S W=>(S 5=false→XC cw K we q ((d:Int)+1) dp bd (fm ((cg K.ws).E 0 q (d+1)) (d+1) q ((d:Int)+1) dp bd) (S 3) (S 4) σ.1 σ.2.2.1 σ.2.1 σ.2.2.2.1 105 W)∧(S 5=true→(∃p9 o9 dp9 bd9,SW K W p9 o9 dp9 bd9∧(fm ((cg K.ws).E 0 q (d+1)) (d+1) q ((d:Int)+1) dp bd) σ.1 p9 o9 dp9 bd9)∧Fz g5 K.g we W∧aK W g5 71 #[.int .i64 op, .string (strOf []), .slice none 0 0, .slice none 0 0]∧∃S',dt W g5 g5 ([]++[σ.1]) [] ([]++[σ.2.1]) [] (σ.2.2.2.2) (.slice none 0 0) S')) ((jJ,undef,fun _=>False,0,undef)) ?_ ?_ ?_
   ·intro w0 hb0 hs0
    exact⟨fun _=>⟨Fz.of hb0,fun _=>sw.step hb0,fun h=>(by cases h),fun h=>(by cases h)⟩,fun h=>(by cases h)⟩
   ·intro k o ho
    match k,ho with
    |0,ho=>
     injection ho with ho
     subst ho;intro σ S w hS hpre hdc hX;refine Seq.val (aa.an 2 rfl rfl Tryz.underlying71 rfl (by kernel_rfl)) rfl rfl rfl (Seq.nil ?_);exact ab.aC rfl rfl rfl hpre rfl (fun _ _=>rfl) hX
    |1,ho=>
     injection ho with ho
     subst ho;intro σ S w hS hpre hdc hX;have h5:=cB hdc (i:=5) rfl hS (ar rfl);refine Seq.val (aa.ag (g:=g5) (i:=2) rfl rfl Tryz.underlying68 rfl (k5.fz (hX.1 h5).fz (by omega)) rfl) rfl rfl rfl (Seq.nil ?_);exact ab.aC rfl rfl rfl hpre rfl (fun _ _=>rfl) hX
    |2,ho=>
     injection ho with ho
     subst ho;intro σ S w hS hpre hdc hX;refine Seq.val (aa.move rfl rfl) rfl rfl rfl (Seq.nil ?_);exact ab.aC rfl rfl rfl hpre rfl (fun _ _=>rfl) hX
    |3,ho=>
     injection ho with ho
     subst ho;intro σ S w hS hpre hdc hX;have h5:=cB hdc (i:=5) rfl hS (ar rfl);have h4:=cB hdc (i:=4) rfl hS (ar rfl);have hXa:=hX.1 h5;refine Zc (Ze Tryz.func160) ((fun W h1 h2=>hcl W h1 h2) w (hXa.pre hS) hXa.fz) ?_;rintro e w6 ⟨hf,v6,x6,p6,o6,dp6,bd6,rfl,⟨S6,hr6,hb6⟩,hsw6,hpf6⟩;refine⟨_,rfl,Seq.nil ?_⟩;exact ab.aC (σ:=σ) (σ':=(x6,v6,S6,σ.2.2.2.1,σ.2.2.2.2)) rfl rfl rfl hpre rfl (fun j hj=>qT hS h4 h5 j hj) ⟨fun _=>hXa.called h4 hf hsw6 hpf6 hr6 hb6,fun hm=>(nt h5 hm).elim⟩
    |4,ho=>
     injection ho with ho
     subst ho;intro σ S w hS hpre hdc hX;have h5:=cB hdc (i:=5) rfl hS (ar rfl);have hXa:=hX.1 h5;have hd:=hpre 3 (ar rfl);have hones:=(hXa.post hd).2.1.aY;refine Seq.slice (vs:=[σ.2.1]) (s:=4) rfl rfl rfl Tryz.underlying68 (by kernel_rfl) ay (by omega) (by omega) ⟨hones.1,trivial⟩ rfl rfl rfl ?_;intro g7 w' n7;refine Seq.nil ?_;exact ab.aC (σ:=σ) (σ':=(σ.1,σ.2.1,σ.2.2.1,g7,σ.2.2.2.2)) rfl rfl rfl hpre rfl (fun j hj=>rq hS h5 j hj) ⟨fun _=>hXa.xf hd n7,fun hm=>(nt h5 hm).elim⟩
    |5,ho=>
     injection ho with ho
     subst ho;intro σ S w hS hpre hdc hX;have hXa:=hX.1 hS;have hd:=hpre 3 (ar rfl);obtain⟨⟨p3,o3,dp3,bd3,sw3,hpf3⟩,hrep,haway⟩:=hXa.post hd;obtain⟨ez,kz,hnz⟩:=hXa.new (hpre 4 (ar rfl));have hones:=hrep.aY;have hsz:=hXa.fz.size;have aq3:=aq.fz hXa.fz hgt;have hown:=aq3.eW;have k90:=k5.fz hXa.fz (by omega);have hlt90:=k5.lt;refine Seq.fN rfl rfl rfl Tryz.underlying68 (by kernel_rfl) ay rfl (by decide) (b:=56) (by kernel_rfl) hown (Reads.av (size:=4) kz 1 hones.1) hones.2 (by omega) (by first|(simp only[maxLen];omega)|(simp only[maxLen,List.length_nil,List.length_cons];omega)|simp[maxLen]) (by first|omega|(simp only[List.length_nil,List.length_cons];omega)|simp) rfl rfl rfl ?_;intro v' w4 hown' happ hv';refine Seq.nil ?_;have hs4:=happ.below.size
     have aq6:=aq3.Bz hrep (fun b hb=>⟨by have:=(haway b hb).1;omega,(haway b hb).2,by have:=(haway b hb).1;omega,fun e=>by have:=(aq.eW.aT b e).2;have:=(haway b hb).1;omega,fun e=>by have:=(aq.fh.aT b e).2;have:=(haway b hb).1;omega⟩) hown' hs4
      (fun b _ h2 h3 h4=>happ.grown.block b h2 (fun e=>h4 e.symm)) (hv'.elim .inl fun e=> .inr ⟨_,e,Nat.le_refl _⟩) (by omega)
     exact ab.aC (σ:=σ) (σ':=(σ.1,σ.2.1,σ.2.2.1,σ.2.2.2.1,v')) rfl rfl rfl hpre rfl (fun j hj=>rk hS j hj) ⟨(fun h=>by cases h),fun _=>⟨⟨p3,o3,dp3,bd3,⟨sw3.av.grown happ.grown (fun e=>by have:=(hown.aT _ e.symm).1;omega),sw3.rd.below (happ.below.mono (by omega)),sw3.bK,sw3.jQ,sw3.le⟩,hpf3⟩,(hXa.fz.less (by omega)).trans (Fz.of happ.below),k90.grown happ.grown (fun e=>aq3.zi e.symm),_,aq6⟩⟩
    |k+6,ho=>simp at ho
   rintro⟨x1,v1,S1,g1x,vX⟩ S3 wr1 hS hX;obtain⟨⟨q1,o1,dp1,bd1,sw1,hpf⟩,fz3,k53,S7,aq3⟩:=hX.2 (hS 5 (by decide));clear hX;dsimp only at hpf aq3;have stt1:=nO.part hME hpf;have hs1:=fz3.size;have bel3:Fz w.heap.size K.g w wr1:=ae.trans (fz3.less (by omega));have k23:=k2.DP fz3 h25 (by omega);obtain⟨AX,cX,hvX,-⟩:=aq3.eW.reads;subst hvX;clear ae k2 k5 aq sw nO;have ae:=bel3;have k2:=k23;have k5:=k53;have aq:=aq3;have sw:=sw1;have e5:w.heap.size≤g5:=hg5;refine Zf 2 Tryz.underlying71 ?_;refine Zq k5 ?_;intro w6 pw6;replace ae:=ae.put k5 pw6 e5;replace k2:=k2.put pw6 (by omega);replace aq:=aq.put k5 pw6 e5;replace sw:=sw.put k5 pw6 e5;replace k5:=pw6.av;refine dr 0 2 3 4 5 6 24 38 70 96 107 (aG ?_);refine Zm ?_;have hta:=fQ K hK q1 o1 dp1 bd1 [44] _ sw (by decide) (by decide);have k2l5:=k2.lt;have k5l5:=k5.lt;have hsb5:=ae.size;refine Zc (Ze Tryz.func157) hta ?_;rintro e w8 ⟨⟨vq,rfl⟩,hfq,swq⟩;refine⟨_,rfl,?_⟩;have belq:=ae.call hfq;have k2q:=k2.fz hfq (by omega);have k5q:=k5.fz hfq (by omega);have aqq:=aq.fz hfq hgt;have hsq:=hfq.size;have sttq:=stt1.sign;clear ae k2 k5 hta aq sw stt1;have ae:=belq;have k2:=k2q;have k5:=k5q;have aq:=aqq;have sw:=swq;obtain⟨q8,hq8⟩:∃z,z=(dY K.ws [44] q1 bd1).1:=⟨_,rfl⟩;obtain⟨bd8,hbd8⟩:∃z,z=(dY K.ws [44] q1 bd1).2:=⟨_,rfl⟩;rw[←hq8,←hbd8] at sw sttq;have k5l6:=k5.lt;have hsb6:=ae.size;refine dr 0 2 3 4 5 6 24 38 70 96 107 (Zt ?_)
   have hcl:∀W,SW K W q8 o1 dp1 bd8→Fz w8.heap.size K.g w8 W→Calls Tryz.prog 123 #[.pointer (some ⟨K.g,0,none⟩)] W (CR K W.heap.size W (fm (T0 q8 (d+1)) (d+1) q8 o1 dp1 bd8) (zl W)):=fun W h1 _=>
    hT q8 (d+1) _ _ _ W (by cases hb:bd8 with|false=>exact .inl (sttq.1 hb).2.2.1|true=>exact .inr rfl) (fun hb=>⟨by have:=(sttq.1 hb).1;omega,(sttq.1 hb).2.1,(sttq.1 hb).2.2.2.1⟩) h1
   refine Cd.iC (σT:=Tm × Value × (Nat→Prop) × Nat × Value) 6 (by kernel_rfl) rfl rfl (fun σ=>[.pointer (some ⟨g5,3,none⟩), .slice none 0 0, .pointer (some ⟨K.g,0,none⟩),σ.2.1, .slice (some ⟨σ.2.2.2.1,0,none⟩) 1 1,σ.2.2.2.2]) (fun σ S W=>(S 5=false→XC dm K w8 q8 o1 dp1 bd8 (fm (T0 q8 (d+1)) (d+1) q8 o1 dp1 bd8) (S 3) (S 4) σ.1 σ.2.2.1 σ.2.1 σ.2.2.2.1 71 W)∧(S 5=true→(∃p9 o9 dp9 bd9,SW K W p9 o9 dp9 bd9∧(fm (T0 q8 (d+1)) (d+1) q8 o1 dp1 bd8) σ.1 p9 o9 dp9 bd9)∧Fz g5 K.g w8 W∧aK W g5 71 #[.int .i64 op, .string (strOf []), .slice AX [x1].length cX, .slice none 0 0]∧∃S',dt W g5 g5 [x1] ([]++[σ.1]) [v1] ([]++[σ.2.1]) (.slice AX [x1].length cX) (σ.2.2.2.2) S')) ((eT,undef,fun _=>False,0,undef)) ?_ ?_ ?_
   ·intro w0 hb0 hs0
    exact⟨fun _=>⟨Fz.of hb0,fun _=>sw.step hb0,fun h=>(by cases h),fun h=>(by cases h)⟩,fun h=>(by cases h)⟩
   ·intro k o ho
    match k,ho with
    |0,ho=>
     injection ho with ho
     subst ho;intro σ S w hS hpre hdc hX;refine Seq.val (aa.an 3 rfl rfl Tryz.underlying71 rfl (by kernel_rfl)) rfl rfl rfl (Seq.nil ?_);exact ab.aC rfl rfl rfl hpre rfl (fun _ _=>rfl) hX
    |1,ho=>
     injection ho with ho
     subst ho;intro σ S w hS hpre hdc hX;have h5:=cB hdc (i:=5) rfl hS (ar rfl);refine Seq.val (aa.ag (g:=g5) (i:=3) rfl rfl Tryz.underlying69 rfl (k5.fz (hX.1 h5).fz (by omega)) rfl) rfl rfl rfl (Seq.nil ?_);exact ab.aC rfl rfl rfl hpre rfl (fun _ _=>rfl) hX
    |2,ho=>
     injection ho with ho
     subst ho;intro σ S w hS hpre hdc hX;refine Seq.val (aa.move rfl rfl) rfl rfl rfl (Seq.nil ?_);exact ab.aC rfl rfl rfl hpre rfl (fun _ _=>rfl) hX
    |3,ho=>
     injection ho with ho
     subst ho;intro σ S w hS hpre hdc hX;have h5:=cB hdc (i:=5) rfl hS (ar rfl);have h4:=cB hdc (i:=4) rfl hS (ar rfl);have hXa:=hX.1 h5;refine Zc (Ze Tryz.func123) ((fun W h1 h2=>hcl W h1 h2) w (hXa.pre hS) hXa.fz) ?_;rintro e w6 ⟨hf,v6,x6,p6,o6,dp6,bd6,rfl,⟨S6,hr6,hb6⟩,hsw6,hpf6⟩;refine⟨_,rfl,Seq.nil ?_⟩;exact ab.aC (σ:=σ) (σ':=(x6,v6,S6,σ.2.2.2.1,σ.2.2.2.2)) rfl rfl rfl hpre rfl (fun j hj=>qT hS h4 h5 j hj) ⟨fun _=>hXa.called h4 hf hsw6 hpf6 hr6 hb6,fun hm=>(nt h5 hm).elim⟩
    |4,ho=>
     injection ho with ho
     subst ho;intro σ S w hS hpre hdc hX;have h5:=cB hdc (i:=5) rfl hS (ar rfl);have hXa:=hX.1 h5;have hd:=hpre 3 (ar rfl);have hones:=(hXa.post hd).2.1.aY;refine Seq.slice (vs:=[σ.2.1]) (s:=4) rfl rfl rfl Tryz.underlying69 (by kernel_rfl) aI (by omega) (by omega) ⟨hones.1,trivial⟩ rfl rfl rfl ?_;intro g7 w' n7;refine Seq.nil ?_;exact ab.aC (σ:=σ) (σ':=(σ.1,σ.2.1,σ.2.2.1,g7,σ.2.2.2.2)) rfl rfl rfl hpre rfl (fun j hj=>rq hS h5 j hj) ⟨fun _=>hXa.oG hd n7,fun hm=>(nt h5 hm).elim⟩
    |5,ho=>
     injection ho with ho
     subst ho;intro σ S w hS hpre hdc hX;have hXa:=hX.1 hS;have hd:=hpre 3 (ar rfl);obtain⟨⟨p3,o3,dp3,bd3,sw3,hpf3⟩,hrep,haway⟩:=hXa.post hd;obtain⟨ez,kz,hnz⟩:=hXa.new (hpre 4 (ar rfl));have hones:=hrep.aY;have hsz:=hXa.fz.size;have aq3:=aq.fz hXa.fz hgt;have hown:=aq3.fh;have k90:=k5.fz hXa.fz (by omega);have hlt90:=k5.lt;refine Seq.fN rfl rfl rfl Tryz.underlying69 (by kernel_rfl) aI rfl (by decide) (b:=72) (by kernel_rfl) hown (Reads.av (size:=4) kz 1 hones.1) hones.2 (by omega) (by first|(simp only[maxLen];omega)|(simp only[maxLen,List.length_nil,List.length_cons];omega)|simp[maxLen]) (by first|omega|(simp only[List.length_nil,List.length_cons];omega)|simp) rfl rfl rfl ?_;intro v' w4 hown' happ hv';refine Seq.nil ?_;have hs4:=happ.below.size
     have aq6:=aq3.yK hrep (fun b hb=>⟨by have:=(haway b hb).1;omega,(haway b hb).2,by have:=(haway b hb).1;omega,fun e=>by have:=(aq.eW.aT b e).2;have:=(haway b hb).1;omega,fun e=>by have:=(aq.fh.aT b e).2;have:=(haway b hb).1;omega⟩) hown' hs4
      (fun b _ h2 h3 h4=>happ.grown.block b h2 (fun e=>h4 e.symm)) (hv'.elim .inl fun e=> .inr ⟨_,e,Nat.le_refl _⟩) (by omega)
     exact ab.aC (σ:=σ) (σ':=(σ.1,σ.2.1,σ.2.2.1,σ.2.2.2.1,v')) rfl rfl rfl hpre rfl (fun j hj=>rk hS j hj) ⟨(fun h=>by cases h),fun _=>⟨⟨p3,o3,dp3,bd3,⟨sw3.av.grown happ.grown (fun e=>by have:=(hown.aT _ e.symm).1;omega),sw3.rd.below (happ.below.mono (by omega)),sw3.bK,sw3.jQ,sw3.le⟩,hpf3⟩,(hXa.fz.less (by omega)).trans (Fz.of happ.below),k90.grown happ.grown (fun e=>aq3.xS e.symm),_,aq6⟩⟩
    |k+6,ho=>simp at ho
   rintro⟨x2,v2,S2,g2x,vX⟩ S3 wr2 hS hX;obtain⟨⟨q2,o2,dp2,bd2,sw2,hpf⟩,fz3,k53,S7,aq3⟩:=hX.2 (hS 5 (by decide));clear hX;dsimp only at hpf aq3;have stt2:=sttq.part hMT hpf;have hs2:=fz3.size;have bel3:Fz w.heap.size K.g w wr2:=ae.trans (fz3.less (by omega));have k23:=k2.DP fz3 h25 (by omega);obtain⟨AX2,cX2,hvX,-⟩:=aq3.fh.reads;subst hvX;clear ae k2 k5 aq sw sttq;have ae:=bel3;have k2:=k23;have k5:=k53;have aq:=aq3;have sw:=sw2;have e5:w.heap.size≤g5:=hg5;refine Zf 3 Tryz.underlying71 ?_;refine Zq k5 ?_;intro w7 pw7;replace ae:=ae.put k5 pw7 e5;replace k2:=k2.put pw7 (by omega);replace aq:=aq.put k5 pw7 e5;replace sw:=sw.put k5 pw7 e5;replace k5:=pw7.av;refine dr 0 2 3 4 5 6 24 38 70 96 107 (ab.aj ?_);exact ab.join (q2,o2,dp2,bd2,[],[x1],[x2],[v1],[v2],(AX,cX),(AX2,cX2),_) ⟨rfl,rfl,rfl,trivial⟩ ⟨sw,ae,k2,k5,aq,⟨by simp,by simp⟩,⟨by simp,by simp⟩,stt2⟩
 clear sw nO aq ae k2 k5;rintro⟨q1,o1,dp1,bd1,nm,es,ts,evs,tvs,⟨AE,cE⟩,⟨AT,cT⟩,S⟩ wr ⟨sw,ae,k2,k5,aq,hnm,hle10,nO⟩;dsimp only at sw k5 aq hnm hle10 nO;have hob:=nO.jQ hd;have hta:=fQ K hK q1 o1 dp1 bd1 [41] _ sw (by decide) (by decide);have k2l4:=k2.lt;have hsb4:=ae.size;have k5l4:=k5.lt;have hgt:K.g<g5:=by omega
 refine ao ?_;refine Zm ?_;refine Zc (Ze Tryz.func157) hta ?_;rintro e wq ⟨⟨vq,rfl⟩,hfq,swq⟩;refine⟨_,rfl,?_⟩;have belq:=ae.call hfq;have k2q:=k2.fz hfq (by omega);have k5q:=k5.fz hfq (by omega);have aqq:=aq.fz hfq hgt;have hsq:=hfq.size;clear ae k2 k5 hta aq sw;have ae:=belq;have k2:=k2q;have k5:=k5q;have k99:=swq.av;have rdw:=swq.Dx;have loc:=Fz.refl wq.heap.size K.g wq;have e2:w.heap.size≤g2:=hg2;refine bD 0 2 5 (aG ?_);refine Zm ?_;refine Zv (aa.nilCheck rfl rfl) ?_;refine Zf 2 Tryz.underlying183 ?_;refine Zv (aa.ag rfl rfl Tryz.underlying3 rfl k99 rfl) ?_;refine Zv (aa.eU rfl rfl rfl (by omega) (by omega)) ?_;refine Zv (aa.nilCheck rfl rfl) ?_;refine Zf 2 Tryz.underlying183 ?_;refine Zq k99 ?_;intro w6 pw6;replace ae:=ae.put k99 pw6 e99;replace k2:=k2.put pw6 (by omega);replace k5:=k5.put pw6 (by omega);replace rdw:=rdw.put k99 pw6 e99;replace loc:=loc.put k99 pw6 e99;replace k99:=pw6.av;refine bD 0 2 5 (aG ?_);have aq6:=aqq.fz loc hgt;have k2b:=k2;refine Zv (aa.aQ rfl rfl Tryz.underlying71 rfl k5 (m:=4) (by kernel_rfl) rfl) ?_;refine Zo 4 k2 ?_;intro w7 pw7;replace ae:=ae.put k2 pw7 e2;replace k5:=k5.put pw7 (by omega);replace k99:=k99.put pw7 (by omega);replace rdw:=rdw.put k2 pw7 e2;replace k2:=pw7.av;refine bD 0 2 5 (Zt (Cd.ret ?_));refine ab.cz rfl rfl k2 Tryz.underlying71 rfl (m:=4) (by kernel_rfl) rfl (.inl rfl) ?_;have hrep:=aq6.tm op nm hop64 hnm.1 (by have:=hnm.2;omega) (by omega) (by omega);have hbn:=aq6.bounds;have hsz:=pw7.size;refine⟨ae,_,_,_,_,_,_,rfl,⟨_,hrep.mono (fun _ h=>h) (fun a ha=>World.cell?_of_block (pw7.grown.block _ (hbn _ ha).2.1 (fun e=>by injection e with e;have:=(hbn _ ha).1;omega))),fun b hb=>by have:=hbn b hb;omega⟩,rdw.sw k99 swq.bK (by omega),fun _=>nO.sign.close,fun h=>by cases h⟩
theorem pb (ws:List Wd):eV (mx ws):=lX ws _
theorem yg (K:Ctx)(hK:K.Ok)(hW:uD K.ws)(q d:Nat)(o:Int)(dp:Bool)(W:World)(sw:SW K W q o dp true):
  Calls Tryz.prog 123 #[.pointer (some ⟨K.g,0,none⟩)] W (CR K W.heap.size W (fm (mx K.ws q d) d q o dp true) (zl W)):=by
 rw[uy];exact rD K hK hW q d o dp true (mx K.ws) (pb _) W sw (fun h=>by cases h) (fun h=>by cases h)
theorem sU (K:Ctx)(hK:K.Ok)(hW:uD K.ws):∀n q (d:Nat) W,K.ws.length-q<n→d≤64→SW K W q d false false→
  Calls Tryz.prog 123 #[.pointer (some ⟨K.g,0,none⟩)] W (CR K W.heap.size W (fm (mx K.ws q d) d q d false false) (zl W))
 |0,q,d,W,h,_,_=>by omega
 |n+1,q,d,W,h,hd,sw=>by
  rw[uy];refine rD K hK hW q d d false false (mx K.ws) (pb _) W sw (fun _=>⟨rfl,rfl,hd⟩) fun _ q' d' o' dp' bd' W' h1 h2 h3=> ?_
  cases bd' with
  |true=>exact yg K hK hW q' d' o' dp' W' h3
  |false=>
   obtain⟨rfl,rfl,h4⟩:=h2 rfl;have hq:q<q':=by rcases h1 with h1|h1<;>first|exact h1|cases h1
   have:=h3.bK;exact sU K hK hW n q' d' W' (by omega) h4 h3
theorem ff:∀(l r:List Ex),aM (l++r)=aM l+aM r
 | [],r=>by rw[List.nil_append,aM];omega
 |x::l,r=>by rw[List.cons_append,aM,aM,ff l r];omega
def ym (f:Nat→Nat→Rs Ex):Prop:=∀p d x q,f p d= .ok x q→x.nodes+p≤q
theorem tu {α:Type}(ws:List Wd)(m:α→Nat):∀(aY:List (Nat→Nat→Rs α)),(∀f∈aY,∀p d x q,f p d= .ok x q→m x+p≤q)→∀first p d xs q,bn ws aY first p d= .ok xs q→(xs.map m).sum+p≤q
 | [],_,first,p,d,xs,q,h=>by
  injection h with h h2
  subst h;simp;omega
 |f::r,hm,first,p,d,xs,q,h=>by
  rw[bn] at h;obtain⟨u,p1,h1,h⟩:=Rs.ax h;obtain⟨x,p2,h2,h⟩:=Rs.ax h;obtain⟨ys,p3,h3,h⟩:=Rs.ax h;injection h with h h4
  subst h
  have e1:p≤p1:=by
   split at h1
   ·injection h1 with _ h1;omega
   ·have:=(gu h1).1;omega
  have e2:=hm f (by simp) _ _ _ _ h2;have e3:=tu ws m r (fun g hg=>hm g (by simp[hg])) _ _ _ _ _ h3;simp only[List.map_cons,List.sum_cons];omega
theorem lh {α:Type}{ws:List Wd}{m:α→Nat}{aY:List (Nat→Nat→Rs α)}(hm:∀f∈aY,∀p d x q,f p d= .ok x q→m x+p≤q){p d q:Nat}{xs:List α}(h:aW ws aY p d= .ok xs q):(xs.map m).sum+p+2≤q:=by
 unfold aW at h;obtain⟨u,p1,h1,h⟩:=Rs.ax h;obtain⟨u2,p2,h2,h⟩:=Rs.ax h;obtain⟨ys,p3,h3,h⟩:=Rs.ax h;obtain⟨u3,p4,h4,h⟩:=Rs.ax h;injection h with h h5
 subst h;have:=tu ws m aY hm _ _ _ _ _ h3;have:=(gu h1).1;have:=(gW h2).1;have:=(gu h4).1;omega
theorem mc:∀l:List Ex,aM l=(l.map Ex.nodes).sum
 | []=>by rw[aM];rfl
 |x::l=>by rw[aM,mc l];rfl
theorem m7 {ws:List Wd}{E0:Nat→Nat→Rs Ex}(hE:ym E0){op:Int}{k p d q:Nat}{x:Ex}(h:bX ws E0 op k p d= .ok x q):x.nodes+p≤q:=by
 unfold bX at h;obtain⟨xs,p1,h1,h⟩:=Rs.ax h;injection h with h h2
 subst h;have:=lh (m:=Ex.nodes) (fun f hf=>(List.mem_replicate.1 hf).2▸hE) h1;rw[Ex.dI,mc];omega
theorem CL {ws:List Wd}{E0:Nat→Nat→Rs Ex}(hE:ym E0):ym (eO ws E0):=by
 intro p d x q h;unfold eO at h;have leaf:∀ {op n:Int} {nm:List Nat},(Ex.mk op n nm []).nodes=1:=fun {op n nm}=>by rw[Ex.dI,aM]
 split at h
 ·injection h with h h2
  subst h;rw[leaf];omega
 split at h
 ·injection h with h h2
  subst h;rw[leaf];omega
 split at h
 ·split at h
  ·injection h with h h2
   subst h;rw[leaf];omega
  split at h
  ·exact m7 hE h
  split at h
  ·exact m7 hE h
  split at h
  ·exact m7 hE h
  ·obtain⟨nm,p1,h1,h⟩:=Rs.ax h
   injection h with h h2
   subst h;have:=(gY h1).1;rw[leaf];omega
 split at h
 ·obtain⟨xs,p1,h1,h⟩:=Rs.ax h
  injection h with h h2
  have hl:=et h1;have ha:=lh (m:=Ex.nodes) (fun f hf=>(List.mem_singleton.1 hf)▸hE) h1
  match xs,hl with
  | [y],_=>
   subst h;simp at ha;show y.nodes+p≤q;omega
 ·cases h
theorem s6 {S:Nat→Nat→Rs Ex}(hS:ym S){op:Int}:ym (dw S op):=by
 intro p d x q h;unfold dw at h;obtain⟨u,p1,h1,h⟩:=Rs.ax h;obtain⟨y,p2,h2,h⟩:=Rs.ax h;injection h with h h3
 subst h;have:=(gW h1).1;have:=hS _ _ _ _ h2;rw[Ex.dI,aM,aM];omega
theorem Bm {ws:List Wd}{S E0:Nat→Nat→Rs Ex}(hS:ym S)(hE:ym E0):ym (bC ws S E0):=by
 intro p d x q h;unfold bC at h;split at h
 ·exact s6 hS _ _ _ _ h
 split at h
 ·exact s6 hS _ _ _ _ h
 ·exact CL hE _ _ _ _ h
structure EN (f:PF):Prop where
 E:∀lvl,ym (f.E lvl)
 L:∀lvl x p d y q,f.L lvl x p d= .ok y q→y.nodes+p≤q+x.nodes
 S:ym f.S
theorem BS {ws:List Wd}{f:PF}(hf:EN f){lvl p d q:Nat}{x y:Ex}(h:dC ws f lvl x p d= .ok y q):y.nodes+p≤q+x.nodes:=by
 unfold dC at h
 cases ho:opAt ws lvl p with
 |none=>
  rw[ho] at h;injection h with h h2
  subst h;omega
 |some op=>
  rw[ho] at h;obtain⟨r,p1,h1,h⟩:=Rs.ax h;have h2:=hf.E _ _ _ _ _ h1;have hm:(su op x r).nodes=1+x.nodes+r.nodes:=by unfold su;rw[Ex.dI,aM,aM,aM];omega
  split at h
  ·injection h with h h3
   subst h;omega
  ·have:=hf.L _ _ _ _ _ _ h
   omega
theorem By {L:Nat→Ex→Nat→Nat→Rs Ex}{S:Nat→Nat→Rs Ex}(hL:∀lvl x p d y q,L lvl x p d= .ok y q→y.nodes+p≤q+x.nodes)(hS:ym S):∀i,ym (kG L S i)
 |0=>hS
 |i+1=>fun p d x q h=>by
  rw[kG] at h;obtain⟨y,p1,h1,h⟩:=Rs.ax h;have:=hL _ _ _ _ _ _ h;have:=By hL hS i _ _ _ _ h1;omega
theorem wK (ws:List Wd):∀n,EN (bH ws n)
 |0=>⟨fun _ _ _ _ _ h=>by(cases h),fun _ _ _ _ _ _ h=>by(cases h),fun _ _ _ _ h=>by(cases h)⟩
 |n+1=>by
  have ih:=wK ws n;have hL:∀lvl x p d y q,dC ws (bH ws n) lvl x p d= .ok y q→y.nodes+p≤q+x.nodes:=fun lvl x p d y q h=>BS ih h;have hS:=Bm (ws:=ws) ih.S (ih.E 0);exact⟨fun lvl=>By hL hS _,hL,hS⟩
theorem pA:∀l:List Tm,ct l=(l.map Tm.nodes).sum
 | []=>by rw[ct];rfl
 |x::l=>by rw[ct,pA l];rfl
theorem kn (op:Int)(nm:List Nat)(es:List Ex)(l:List Tm):(Tm.mk op nm es l).nodes=1+(es.map Ex.nodes).sum+(l.map Tm.nodes).sum:=by rw[Tm.dI,mc,pA]
def En (f:Nat→Nat→Rs Tm):Prop:=∀p d x q,f p d= .ok x q→x.nodes+p≤q
def Part.nodes:Part→Nat
 | .inl e=>e.nodes
 | .inr t=>t.nodes
theorem nG:∀xs:List Part,(xs.map Part.nodes).sum=((cR xs).map Ex.nodes).sum+((bZ xs).map Tm.nodes).sum
 | []=>rfl
 | .inl e::xs=>by
  have:=nG xs;show e.nodes+(xs.map Part.nodes).sum=(e.nodes+((cR xs).map Ex.nodes).sum)+((bZ xs).map Tm.nodes).sum;omega
 | .inr t::xs=>by
  have:=nG xs;show t.nodes+(xs.map Part.nodes).sum=((cR xs).map Ex.nodes).sum+(t.nodes+((bZ xs).map Tm.nodes).sum);omega
theorem Cg {ws:List Wd}{E0:Nat→Nat→Rs Ex}{T:Nat→Nat→Rs Tm}(hE:ym E0)(hT:En T):En (dR ws E0 T):=by
 intro p d x q h;unfold dR at h;split at h
 ·cases h
 split at h
 ·injection h with h h2
  subst h;rw[kn];simp;omega
 split at h
 ·obtain⟨xs,p1,h1,h⟩:=Rs.ax h
  injection h with h h2
  subst h;have:=lh (m:=fun _=>0) (fun f hf=>(List.mem_singleton.1 hf)▸fun p d x q hx=>by have:=(gY hx).1;omega) h1;rw[kn];simp;omega
 split at h
 ·cases h
 ·obtain⟨xs,p1,h1,h⟩:=Rs.ax h
  injection h with h h2
  subst h
  have hq:=lh (m:=Part.nodes) (fun f hf p d x q hx=>by
   rcases kY hf with rfl|rfl
   ·obtain⟨a,h2,rfl⟩:=Rs.ky hx
    exact hE _ _ _ _ h2
   ·obtain⟨a,h2,rfl⟩:=Rs.ky hx
    exact hT _ _ _ _ h2) h1
  rw[nG] at hq;rw[kn];omega
theorem ti (ws:List Wd):∀n,En (ig ws n)
 |0=>fun _ _ _ _ h=>by(cases h)
 |n+1=>fun p d x q h=>Cg ((wK ws (n+1)).E 0) (ti ws n) p d x q h
theorem Bk (K:Ctx)(hK:K.Ok)(p:Nat)(o:Int)(dp bd:Bool)(w:World)(h:SW K w p o dp bd):Calls Tryz.prog 124 #[.pointer (some ⟨K.g,0,none⟩), .int .i64 (K.en:Int)] w fun e w'=>e= .returned (.int .i64 (if dp=true then -2 else if p<K.ws.length then((K.at_ p).pos:Int) else if bd=true then(K.en:Int) else -1))∧Grow w w':=by
 have ae:=Below.refl w.heap.size w;have k99:=h.av;have hrd:=h.rd;have hlt:=h.av.lt;have hBg:=hK.le;have hpl:=h.bK;refine Zs 35 Tryz.func124 ?_;refine ao ?_;refine Za ?_;refine bD 0 1 4 (aJ (ao ?_));refine Zm ?_;refine Zv (aa.nilCheck rfl rfl) ?_;refine Zf 3 Tryz.underlying183 ?_;refine Zv (aa.ag rfl rfl Tryz.underlying4 rfl k99 rfl) ?_;refine aV 0 1 4 8 (Zt ?_);refine Cd.cond rfl (fun hc=> ?_) (fun hc=> ?_)
 ·rw[if_pos hc]
  refine ao ?_;refine Za ?_;refine aV 0 1 4 8 (Zt (Cd.ret (ab.af ?_)));refine ab.aE rfl rfl (.inl rfl) ?_;exact⟨rfl,ae⟩
 rw[if_neg (by rw[hc];simp)];refine Cd.skip (aJ (Cd.seq ?_));refine Cd.draw 10 (by kernel_rfl) [] (.inl rfl) rfl Grow Grow.refl (fun _ _ _=>Grow.trans) ?_;intro w1 hw1 zw1;replace ae:=ae.step hw1;replace k99:=k99.step hw1;have zbel:=ae.size;have zlt:=k99.lt;refine cn ?_;refine Zd (fun w hG=>aa.nilCheck rfl rfl) ?_;refine Zd (fun w hG=>aa.an 1 rfl rfl Tryz.underlying183 rfl (by kernel_rfl)) ?_;refine Zd (fun w hG=>aa.ag rfl rfl Tryz.underlying3 rfl (k99.step hG) rfl) ?_;refine cn ?_;refine Zd (fun w hG=>aa.nilCheck rfl rfl) ?_;refine Zd (fun w hG=>aa.an 0 rfl rfl Tryz.underlying183 rfl (by kernel_rfl)) ?_;refine Zd (fun w hG=>aa.ag rfl rfl Tryz.underlying178 rfl (k99.step hG) rfl) ?_;refine Zd (fun w hG=>aa.len rfl rfl Tryz.underlying178) ?_;refine Zd (fun w hG=>aa.lss rfl rfl rfl) ?_;refine Dr.nil ?_;refine ba.done (F':=[(0,_),(1,_),(4,_),(8,_),(18,_)]) rfl ⟨rfl,rfl,rfl,rfl,rfl,trivial⟩ ?_;intro w2 hw2 fw2;replace ae:=ae.step hw2;replace k99:=k99.step hw2;refine aU 0 1 4 8 18 (Zt ?_);refine Cd.au rfl (fun hc=> ?_) (fun hc=> ?_)
 ·have hp:p<K.ws.length:=by omega
  obtain⟨ad,hA,hadb,hcell⟩:=hrd.2 (by omega);obtain⟨x,hx⟩:∃x,K.ws[p]? =some x:=⟨_,List.getElem?_eq_getElem (by omega)⟩;have hat:K.at_ p=x:=by unfold Ctx.at_;rw[List.getD_eq_getElem?_getD,hx];rfl
  have hce:∀W,Below w.heap.size w W→∀(q:Nat) (u:Value),([.int .i64 x.kind, .string (strOf x.text), .int .i64 x.n, .int .i64 (x.pos:Int)]:List Value)[q]? =some u→W.cell? ((ad.add (p*4)).add q)=some u:=fun W hb q u hu=>by
   rw[(hb.mono (show K.B≤w.heap.size by omega)).cell (by rw[aw,aw];exact hadb),fF];exact hcell _ _ (gB K.ws p x hx q u hu)
  rw[hA] at k99;rw[if_pos hp,hat];refine Cd.seq ?_;refine Cd.dV (F':=[(0,_),(1,_),(8,_),(18,_)]) ⟨rfl,rfl,rfl,rfl,trivial⟩ ?_;refine Cd.draw 12 (by kernel_rfl) [] (.inl rfl) rfl Grow Grow.refl (fun _ _ _=>Grow.trans) ?_;intro w3 hw3 zw3;replace ae:=ae.step hw3;replace k99:=k99.step hw3;have zbel:=ae.size;have zlt:=k99.lt;refine cn ?_;refine Zd (fun w hG=>aa.nilCheck rfl rfl) ?_;refine Zd (fun w hG=>aa.an 0 rfl rfl Tryz.underlying183 rfl (by kernel_rfl)) ?_;refine Zd (fun w hG=>aa.ag rfl rfl Tryz.underlying178 rfl (k99.step hG) rfl) ?_;refine cn ?_;refine Zd (fun w hG=>aa.nilCheck rfl rfl) ?_;refine Zd (fun w hG=>aa.an 1 rfl rfl Tryz.underlying183 rfl (by kernel_rfl)) ?_;refine Zd (fun w hG=>aa.ag rfl rfl Tryz.underlying3 rfl (k99.step hG) rfl) ?_;refine Zd (fun w hG=>aa.bI rfl rfl rfl Tryz.underlying178 (s:=4) (by kernel_rfl) (j:=p) rfl (by omega)) ?_;refine Zd (fun w hG=>aa.fL 3 rfl rfl Tryz.underlying211 rfl (by kernel_rfl)) ?_;refine Zd (fun w hG=>aa.iu rfl rfl Tryz.underlying3 rfl (hce _ (ae.step hG) 3 _ rfl)) ?_;refine Zd (fun w hG=>aa.assign rfl rfl) ?_;refine Dr.nil ?_;refine ba.done (F':=[(0,_),(1,_),(4,_),(8,_),(18,_)]) rfl ⟨rfl,rfl,rfl,rfl,rfl,trivial⟩ ?_;intro w4 hw4 fw4;replace ae:=ae.step hw4;replace k99:=k99.step hw4;refine aU 0 1 4 8 18 (Zt (Cd.ret (ab.af ?_)));refine ab.aE rfl rfl (.inl rfl) ?_;exact⟨rfl,ae⟩
 rw[if_neg (by omega)];refine Cd.skip (aJ (ao ?_));refine Zm ?_;refine Zv (aa.nilCheck rfl rfl) ?_;refine Zf 4 Tryz.underlying183 ?_;refine Zv (aa.ag rfl rfl Tryz.underlying4 rfl k99 rfl) ?_;refine bj 0 1 4 8 18 33 (Zt ?_);refine Cd.cond rfl (fun hb=> ?_) (fun hb=> ?_)
 ·rw[if_pos hb]
  refine ao ?_;refine Zm ?_;refine Za ?_;refine bj 0 1 4 8 18 33 (Zt (Cd.ret (ab.af ?_)));refine ab.aE rfl rfl (.inl rfl) ?_;exact⟨rfl,ae⟩
 ·rw[if_neg (by rw[hb];simp)]
  refine Cd.skip (aG ?_);refine Za ?_;refine bj 0 1 4 8 18 33 (Zt (Cd.ret ?_));refine ab.aE rfl rfl (.inl rfl) ?_;exact⟨rfl,ae⟩
theorem iR:∀(l r:List Ex),aZ (l++r)=max (aZ l) (aZ r)
 | [],r=>by rw[List.nil_append,aZ];omega
 |x::l,r=>by rw[List.cons_append,aZ,aZ,iR l r];omega
theorem iU:∀(l r:List Tm),ct (l++r)=ct l+ct r
 | [],r=>by rw[List.nil_append,ct];omega
 |x::l,r=>by rw[List.cons_append,ct,ct,iU l r];omega
theorem lF:∀(l r:List Tm),cD (l++r)=max (cD l) (cD r)
 | [],r=>by rw[List.nil_append,cD];omega
 |x::l,r=>by rw[List.cons_append,cD,cD,lF l r];omega
theorem yd (n:Nat)(e:Ex)(B:Nat)(v:Value)(w:World)(hn:e.nodes≤n)(h9:e.nodes≤100000)(hrep:qs w B e v)(hB:B≤w.heap.size):Calls Tryz.prog 135 #[v] w fun en w'=>en= .returned (.tuple #[.int .i64 (e.nodes:Int), .int .i64 (e.depth:Int)])∧Grow w w':=by
 induction n generalizing e B v w with
 |zero=>exact absurd e.cO (by omega)
 |succ n ih=>
  obtain⟨A,c,rfl,hv⟩:=hrep.open;have ae:=Below.refl w.heap.size w;have hne:e.nodes=1+aM e.args:=by rw[e.eta,Ex.dI];rfl
  have hde:e.depth=1+aZ e.args:=by rw[e.eta,Ex.ft];rfl
  refine Zs 34 Tryz.func135 ?_;refine ao ?_;refine Seq.box rfl rfl rfl rfl rfl ?_;intro g1 w1 n1;have e1:=Nat.le_trans ae.size n1.ge;replace ae:=ae.step n1.below;have k1:=n1.av;refine Za ?_;refine Za ?_;refine aV 0 1 2 3 (aG ?_);refine Za ?_;refine Za ?_;refine bj 0 1 2 3 4 5 (aJ (ao ?_));refine Za ?_;refine bb 0 1 2 3 4 5 6 (Zt (Cd.block ?_))
  refine Cd.loop (σ:=Nat) (fun i=>[(1, .pointer (some ⟨g1,0,none⟩)),(4, .int .i64 ((1+aM (e.args.take i):Nat):Int)),(5, .int .i64 ((1+aZ (e.args.take i):Nat):Int)),(6, .int .i64 (i:Int))])
   (fun i wr=>i≤e.args.length∧Below w.heap.size w wr∧aK wr g1 105 #[.int .i64 e.op, .int .i64 e.n, .string (strOf e.name), .slice A e.args.length c]) (fun i=>e.args.length-i) 0 ⟨Nat.zero_le _,ae,k1⟩ ⟨rfl,rfl,rfl,rfl,trivial⟩ ?_
  clear ae k1;rintro i wr ⟨hi,ae,k1⟩;have jV:=hv.jV;refine Cd.seq (ao ?_);refine Zm ?_;refine Zf 3 Tryz.underlying105 ?_;refine Zv (aa.ag rfl rfl Tryz.underlying68 rfl k1 rfl) ?_;refine Zv (aa.len rfl rfl Tryz.underlying68) ?_;refine Zv (aa.lss rfl rfl rfl) ?_;refine aU 1 4 5 6 13 (Zt ?_);refine Cd.au rfl (fun hc=> ?_) (fun hc=> ?_)
  ·obtain⟨x,hx⟩:∃x,e.args[i]? =some x:=⟨_,List.getElem?_eq_getElem (show i<e.args.length by omega)⟩
   obtain⟨ad,Ax,cx,rfl,hbl,hrx,hc⟩:=hv.arg i x hx;have hxm:=List.mem_of_getElem? hx;have hxn:=Ex.fS hxm;have hc:=fun W (hb:Below w.heap.size w W) j u hj=>((hb.mono hB).cell (p:=(ad.add (i*4)).add j) (by rw[aw,aw];exact hbl)).trans (hc j u hj);have hrec:=fun W (hb:Below w.heap.size w W)=>ih x B _ W (by omega) (by omega) (hrx.below (hb.mono hB)) (Nat.le_trans hB hb.size);have htk:e.args.take (i+1)=e.args.take i++[x]:=by rw[List.take_add_one,hx];rfl
   have hnt:aM (e.args.take (i+1))=aM (e.args.take i)+x.nodes:=by rw[htk,ff];show _+(x.nodes+aM [])=_;rw[aM];omega
   have hdt:aZ (e.args.take (i+1))=max (aZ (e.args.take i)) x.depth:=by rw[htk,iR];show max _ (max x.depth (aZ []))=_;rw[aZ];omega
   have hle:aM (e.args.take (i+1))≤aM e.args:=by
    have:=ff (e.args.take (i+1)) (e.args.drop (i+1));rw[List.take_append_drop] at this;omega
   have hdn:=dL (e.args.take i);have hdx:=x.bV
   generalize aM (e.args.take i)=N0 at *
   generalize aZ (e.args.take i)=D0 at *
   refine Cd.skip (aJ (Cd.block (ao ?_)));refine Zf 3 Tryz.underlying105 ?_;refine Zv (aa.ag rfl rfl Tryz.underlying68 rfl k1 rfl) ?_;refine Zm ?_;refine Zv (aa.bI rfl rfl rfl Tryz.underlying68 (s:=4) (by kernel_rfl) (j:=i) rfl (by omega)) ?_;refine Zv (aa.ef (ps:=[.int .i64 x.op, .int .i64 x.n, .string (strOf x.name), .slice Ax x.args.length cx]) rfl rfl Tryz.underlying105 rfl (m:=4) (by kernel_rfl) rfl (hc _ ae)) ?_;refine Zc (Ze Tryz.func135) (hrec _ ae) ?_;rintro en w6 ⟨rfl,hb6⟩;refine⟨_,rfl,?_⟩;replace ae:=ae.step hb6;replace k1:=k1.step hb6;refine Zm ?_;refine Zv (aa.extract rfl rfl rfl) ?_;refine Zv (aa.extract rfl rfl rfl) ?_;refine Za ?_;refine Za ?_;refine bb 1 4 5 6 7 8 13 (aG ?_);refine Zm ?_;refine Zm ?_;refine cH ?_;refine Za ?_;refine bb 1 4 5 6 7 8 13 (ei ?_);refine Zm ?_;refine Zm ?_;refine cH ?_;refine Zv (aa.max2 rfl rfl rfl) ?_;refine Za ?_;refine bb 1 4 5 6 7 8 13 (ab.aj (ei ?_));refine Zm ?_;refine cH ?_;refine Za ?_;refine bb 1 4 5 6 7 8 13 ?_;refine ab.round (i+1) ⟨rfl,?_,?_,rfl,trivial⟩ ⟨by omega,ae,k1⟩ (by omega)
   ·exact congrArg (fun x:Int=>some (Value.int .i64 x)) (by rw[hnt];omega)
   ·exact congrArg (fun x:Int=>some (Value.int .i64 x)) (by rw[hdt];omega)
  ·obtain rfl:i=e.args.length:=by omega
   refine Cd.exit (ab.aD (ab.aA (ab.az (aG ?_))));refine Zm ?_;refine Zm ?_;refine Za ?_;refine Za ?_;refine bb 1 2 3 4 5 6 13 (Zt (Cd.ret ?_));refine ab.bf rfl rfl rfl (.inl rfl) ?_;rw[List.take_length,hne,hde];exact⟨rfl,ae⟩
theorem yM (n:Nat)(t:Tm)(B:Nat)(v:Value)(w:World)(hn:t.nodes≤n)(h9:t.nodes≤100000)(hrep:fZ w B t v)(hB:B≤w.heap.size):Calls Tryz.prog 94 #[v] w fun en w'=>en= .returned (.tuple #[.int .i64 (t.nodes:Int), .int .i64 (t.depth:Int)])∧Grow w w':=by
 induction n generalizing t B v w with
 |zero=>exact absurd t.cO (by omega)
 |succ n ih=>
  obtain⟨A,c,D,d,rfl,hv⟩:=hrep.open;have ae:=Below.refl w.heap.size w;have hne:=t.kQ;have hde:=t.kM;refine Zs 60 Tryz.func94 ?_;refine ao ?_;refine Seq.box rfl rfl rfl rfl rfl ?_;intro g1 w1 n1;have e1:=Nat.le_trans ae.size n1.ge;replace ae:=ae.step n1.below;have k1:=n1.av;refine Za ?_;refine Za ?_;refine aV 0 1 2 3 (aG ?_);refine Za ?_;refine Za ?_;refine bj 0 1 2 3 4 5 (aJ (ao ?_));refine Za ?_;refine bb 0 1 2 3 4 5 6 (Zt (Cd.block ?_))
  refine Cd.loop (σ:=Nat) (fun i=>[(1, .pointer (some ⟨g1,0,none⟩)),(4, .int .i64 ((1+aM (t.exprs.take i):Nat):Int)),(5, .int .i64 ((1+aZ (t.exprs.take i):Nat):Int)),(6, .int .i64 (i:Int))])
   (fun i wr=>i≤t.exprs.length∧Below w.heap.size w wr∧aK wr g1 71 #[.int .i64 t.op, .string (strOf t.name), .slice A t.exprs.length c, .slice D t.aH.length d]) (fun i=>t.exprs.length-i) 0 ⟨Nat.zero_le _,ae,k1⟩ ⟨rfl,rfl,rfl,rfl,trivial⟩ ?_
  clear ae k1;rintro i wr ⟨hi,ae,k1⟩;have jV:=hv.jV;have h61:=hv.mq;refine Cd.seq (ao ?_);refine Zm ?_;refine Zf 2 Tryz.underlying71 ?_;refine Zv (aa.ag rfl rfl Tryz.underlying68 rfl k1 rfl) ?_;refine Zv (aa.len rfl rfl Tryz.underlying68) ?_;refine Zv (aa.lss rfl rfl rfl) ?_;refine aU 1 4 5 6 16 (Zt ?_);refine Cd.au rfl (fun hc=> ?_) (fun hc=> ?_)
  ·obtain⟨x,hx⟩:∃x,t.exprs[i]? =some x:=⟨_,List.getElem?_eq_getElem (show i<t.exprs.length by omega)⟩
   obtain⟨ad,Ax,cx,rfl,hbl,hrx,hc⟩:=hv.expr i x hx;have hxm:=List.mem_of_getElem? hx;have hxn:=mg hxm;have hc:=fun W (hb:Below w.heap.size w W) j u hj=>((hb.mono hB).cell (p:=(ad.add (i*4)).add j) (by rw[aw,aw];exact hbl)).trans (hc j u hj);have hrec:=fun W (hb:Below w.heap.size w W)=>yd x.nodes x B _ W (Nat.le_refl _) (by omega) (hrx.below (hb.mono hB)) (Nat.le_trans hB hb.size);have htk:t.exprs.take (i+1)=t.exprs.take i++[x]:=by rw[List.take_add_one,hx];rfl
   have hnt:aM (t.exprs.take (i+1))=aM (t.exprs.take i)+x.nodes:=by rw[htk,ff];show _+(x.nodes+aM [])=_;rw[aM];omega
   have hdt:aZ (t.exprs.take (i+1))=max (aZ (t.exprs.take i)) x.depth:=by rw[htk,iR];show max _ (max x.depth (aZ []))=_;rw[aZ];omega
   have hle:aM (t.exprs.take (i+1))≤aM t.exprs:=by
    have:=ff (t.exprs.take (i+1)) (t.exprs.drop (i+1));rw[List.take_append_drop] at this;omega
   have hdn:=dL (t.exprs.take i);have hdx:=x.bV
   generalize aM (t.exprs.take i)=N0 at *
   generalize aZ (t.exprs.take i)=D0 at *
   refine Cd.skip (aJ (Cd.block (ao ?_)));refine Zf 2 Tryz.underlying71 ?_;refine Zv (aa.ag rfl rfl Tryz.underlying68 rfl k1 rfl) ?_;refine Zm ?_;refine Zv (aa.bI rfl rfl rfl Tryz.underlying68 (s:=4) (by kernel_rfl) (j:=i) rfl (by omega)) ?_;refine Zv (aa.ef (ps:=[.int .i64 x.op, .int .i64 x.n, .string (strOf x.name), .slice Ax x.args.length cx]) rfl rfl Tryz.underlying105 rfl (m:=4) (by kernel_rfl) rfl (hc _ ae)) ?_;refine Zc (Ze Tryz.func135) (hrec _ ae) ?_;rintro en w6 ⟨rfl,hb6⟩;refine⟨_,rfl,?_⟩;replace ae:=ae.step hb6;replace k1:=k1.step hb6;refine Zm ?_;refine Zv (aa.extract rfl rfl rfl) ?_;refine Zv (aa.extract rfl rfl rfl) ?_;refine Za ?_;refine Za ?_;refine bb 1 4 5 6 7 8 16 (aG ?_);refine Zm ?_;refine Zm ?_;refine cH ?_;refine Za ?_;refine bb 1 4 5 6 7 8 16 (ei ?_);refine Zm ?_;refine Zm ?_;refine cH ?_;refine Zv (aa.max2 rfl rfl rfl) ?_;refine Za ?_;refine bb 1 4 5 6 7 8 16 (ab.aj (ei ?_));refine Zm ?_;refine cH ?_;refine Za ?_;refine bb 1 4 5 6 7 8 16 ?_;refine ab.round (i+1) ⟨rfl,?_,?_,rfl,trivial⟩ ⟨by omega,ae,k1⟩ (by omega)
   ·exact congrArg (fun x:Int=>some (Value.int .i64 x)) (by rw[hnt];omega)
   ·exact congrArg (fun x:Int=>some (Value.int .i64 x)) (by rw[hdt];omega)
  obtain rfl:i=t.exprs.length:=by omega
  rw[List.take_length];have hdn0:=dL t.exprs;refine Cd.exit (ab.aD (ab.aA (ab.az (aJ (ao ?_)))));refine Za ?_;refine bj 1 4 5 6 9 16 (Zt (Cd.block ?_))
  refine Cd.loop (σ:=Nat) (fun i=>[(1, .pointer (some ⟨g1,0,none⟩)),(4, .int .i64 ((1+aM t.exprs+ct (t.aH.take i):Nat):Int)),(5, .int .i64 ((1+max (aZ t.exprs) (cD (t.aH.take i)):Nat):Int)),(9, .int .i64 (i:Int))])
   (fun i wr=>i≤t.aH.length∧Below w.heap.size w wr∧aK wr g1 71 #[.int .i64 t.op, .string (strOf t.name), .slice A t.exprs.length c, .slice D t.aH.length d]) (fun i=>t.aH.length-i) 0 ⟨Nat.zero_le _,ae,k1⟩ ⟨rfl,rfl,?_,rfl,trivial⟩ ?_
  ·exact congrArg (fun x:Int=>some (Value.int .i64 x)) (by rw[List.take_zero,cD];omega)
  clear ae k1;rintro i wr ⟨hi,ae,k1⟩;refine Cd.seq (ao ?_);refine Zm ?_;refine Zf 3 Tryz.underlying71 ?_;refine Zv (aa.ag rfl rfl Tryz.underlying69 rfl k1 rfl) ?_;refine Zv (aa.len rfl rfl Tryz.underlying69) ?_;refine Zv (aa.lss rfl rfl rfl) ?_;refine aU 1 4 5 9 39 (Zt ?_);refine Cd.au rfl (fun hc=> ?_) (fun hc=> ?_)
  ·obtain⟨x,hx⟩:∃x,t.aH[i]? =some x:=⟨_,List.getElem?_eq_getElem (show i<t.aH.length by omega)⟩
   obtain⟨ad,A1,A2,c1,c2,rfl,hbl,hrx,hc⟩:=hv.term i x hx;have hxm:=List.mem_of_getElem? hx;have hxn:=Tm.fE hxm;have hc:=fun W (hb:Below w.heap.size w W) j u hj=>((hb.mono hB).cell (p:=(ad.add (i*4)).add j) (by rw[aw,aw];exact hbl)).trans (hc j u hj);have hrec:=fun W (hb:Below w.heap.size w W)=>ih x B _ W (by omega) (by omega) (hrx.below (hb.mono hB)) (Nat.le_trans hB hb.size);have htk:t.aH.take (i+1)=t.aH.take i++[x]:=by rw[List.take_add_one,hx];rfl
   have hnt:ct (t.aH.take (i+1))=ct (t.aH.take i)+x.nodes:=by rw[htk,iU];show _+(x.nodes+ct [])=_;rw[ct];omega
   have hdt:cD (t.aH.take (i+1))=max (cD (t.aH.take i)) x.depth:=by rw[htk,lF];show max _ (max x.depth (cD []))=_;rw[cD];omega
   have hle:ct (t.aH.take (i+1))≤ct t.aH:=by
    have:=iU (t.aH.take (i+1)) (t.aH.drop (i+1));rw[List.take_append_drop] at this;omega
   have hdn:=iO (t.aH.take i);have hdx:=x.bV
   generalize ct (t.aH.take i)=N0 at *
   generalize cD (t.aH.take i)=D0 at *
   refine Cd.skip (aJ (Cd.block (ao ?_)));refine Zf 3 Tryz.underlying71 ?_;refine Zv (aa.ag rfl rfl Tryz.underlying69 rfl k1 rfl) ?_;refine Zm ?_;refine Zv (aa.bI rfl rfl rfl Tryz.underlying69 (s:=4) (by kernel_rfl) (j:=i) rfl (by omega)) ?_;refine Zv (aa.ef (ps:=[.int .i64 x.op, .string (strOf x.name), .slice A1 x.exprs.length c1, .slice A2 x.aH.length c2]) rfl rfl Tryz.underlying71 rfl (m:=4) (by kernel_rfl) rfl (hc _ ae)) ?_;refine Zc (Ze Tryz.func94) (hrec _ ae) ?_;rintro en w6 ⟨rfl,hb6⟩;refine⟨_,rfl,?_⟩;replace ae:=ae.step hb6;replace k1:=k1.step hb6;refine Zm ?_;refine Zv (aa.extract rfl rfl rfl) ?_;refine Zv (aa.extract rfl rfl rfl) ?_;refine Za ?_;refine Za ?_;refine bb 1 4 5 9 10 11 39 (aG ?_);refine Zm ?_;refine Zm ?_;refine cH ?_;refine Za ?_;refine bb 1 4 5 9 10 11 39 (ei ?_);refine Zm ?_;refine Zm ?_;refine cH ?_;refine Zv (aa.max2 rfl rfl rfl) ?_;refine Za ?_;refine bb 1 4 5 9 10 11 39 (ab.aj (ei ?_));refine Zm ?_;refine cH ?_;refine Za ?_;refine bb 1 4 5 9 10 11 39 ?_;refine ab.round (i+1) ⟨rfl,?_,?_,rfl,trivial⟩ ⟨by omega,ae,k1⟩ (by omega)
   ·exact congrArg (fun x:Int=>some (Value.int .i64 x)) (by rw[hnt];omega)
   ·exact congrArg (fun x:Int=>some (Value.int .i64 x)) (by rw[hdt];omega)
  ·obtain rfl:i=t.aH.length:=by omega
   refine Cd.exit (ab.aD (ab.aA (ab.az (aG ?_))));refine Zm ?_;refine Zm ?_;refine Za ?_;refine Za ?_;refine bb 1 2 3 4 5 9 39 (Zt (Cd.ret ?_));refine ab.bf rfl rfl rfl (.inl rfl) ?_;rw[List.take_length,hne,hde];exact⟨rfl,ae⟩
theorem ox (A:Option Addr)(n c:Nat)(w:World):(Instr.build 183 #[(0, .slice A n c)]).run Tryz.prog w= .ok (.agg #[.slice A n c, .int .i64 0, .int .i64 0, .bool false, .bool false]) w:=by
 have hu:=Tryz.underlying183
 go_simp
structure CG (lo hi:Nat)(S:Nat→Prop)(x:Tm)(v:Value)(W:World):Prop where
 rep:dm W S x v
 bd:∀b,S b→lo≤b∧b<hi
 eH:hi≤W.heap.size
theorem CG.step {lo hi:Nat}{S:Nat→Prop}{x:Tm}{v:Value}{W W':World}(r:CG lo hi S x v W)(h:Below W.heap.size W W'):CG lo hi S x v W':=
 ⟨r.rep.mono (fun _ h=>h) (fun a ha=>h.cell (Nat.lt_of_lt_of_le (r.bd _ ha).2 r.eH)),r.bd,Nat.le_trans r.eH h.size⟩
theorem CG.put {lo hi g:Nat}{T:TypeId}{cur cs:Array Value}{S:Nat→Prop}{x:Tm}{v:Value}{W W':World}(r:CG lo hi S x v W)(_k:aK W g T cur)(p:lD W W' g T cs){E:Prop}(_e:E)(hne:g<lo∨hi≤g:=by omega):CG lo hi S x v W':=
 ⟨r.rep.mono (fun _ h=>h) (fun a ha=>World.cell?_of_block (p.grown.block _ (Nat.lt_of_lt_of_le (r.bd _ ha).2 r.eH) (fun e=>by injection e with e;have:=r.bd _ ha;omega))),r.bd,Nat.le_trans r.eH (Nat.le_of_eq p.size.symm)⟩
theorem endPos_le (l:List Nat)(hl:∀x∈l,x<256)(p:Nat):endPos l p≤l.length:=by
 unfold endPos;rw[List.getD_eq_getElem?_getD]
 cases hp:(aR l).1[p]? with
 |none=>exact Nat.le_refl _
 |some x=>exact Nat.le_of_lt (oE l hl _ _ x (List.mem_of_getElem? hp)).2.2.2
theorem r4 (l:List Nat)(w:World)(hl:∀x∈l,x<256)(h4:l.length≤4000):
  Calls Tryz.prog 78 #[.string (strOf l)] w fun e w'=>Below w.heap.size w w'∧∃(v:Value) (S:Nat→Prop),e= .returned (.tuple #[v, .int .i64 ((cu l).2.1:Int), .int .i64 (cu l).2.2])∧dm w' S (cu l).1 v∧∀b,S b→w.heap.size≤b∧b<w'.heap.size:=by
 have ae:=Below.refl w.heap.size w
 have hpn:∀(q:Nat) (n:Int),cv l (fK (aR l).1)=(q,n)→n≠0→cu l=(eT,q,n):=fun q n h hn=>by
  unfold cu;rw[h,if_pos hn]
 have hpo:∀x q,cv l (fK (aR l).1)=(0,0)→fK (aR l).1= .ok x q→cu l=if dF x=true then(x,0,0) else(eT,0,13):=fun x q h hx=>by
  unfold cu;rw[h,if_neg (fun h=>h rfl),hx]
 have hrw:=fun W=>sz l W hl h4;refine Zs 50 Tryz.func78 ?_;refine ao ?_;refine Zl aI ?_;intro g2 w1 n2;have e2:=Nat.le_trans ae.size n2.ge;replace ae:=ae.step n2.below;have k2:=n2.av;refine Za ?_;refine Za ?_;refine aV 0 2 3 4 (aG ?_);refine Zm ?_;refine Zc (Ze Tryz.func122) (hrw _) ?_;rintro e w5 ⟨hb5,⟨p,h2,rfl⟩|⟨h2,v,rfl,own⟩⟩
 ·have hpa:cv l (fK (aR l).1)=(p,11):=by unfold cv;rw[if_neg (by omega),h2]
  have hps:=hpn _ _ hpa (by omega);refine⟨_,rfl,?_⟩;replace ae:=ae.step hb5;replace k2:=k2.step hb5;refine Zm ?_;refine Zv (aa.extract rfl rfl rfl) ?_;refine Zv (aa.extract rfl rfl rfl) ?_;refine Za ?_;refine Za ?_;refine bj 0 2 3 4 5 6 (aJ (ao ?_));refine Zm ?_;refine Zv (aa.geq rfl rfl rfl) ?_;refine bb 0 2 3 4 5 6 18 (Zt ?_);refine Cd.aX rfl (by simp) ?_;refine ao ?_;refine Zv (aa.build rfl rfl (dJ _)) ?_;refine Zm ?_;refine Zo 4 k2 ?_;intro w2 pw2;replace ae:=ae.put k2 pw2 e2;replace k2:=pw2.av;refine Za ?_;refine Za ?_;refine bb 0 2 3 4 5 6 18 (Zt (Cd.ret (ab.af ?_)));refine ab.mw rfl rfl rfl rfl k2 Tryz.underlying71 rfl (m:=4) (by kernel_rfl) rfl (.inl rfl) ?_;rw[hps];exact⟨ae,_,fun _=>False,rfl,dm.zero _ _,fun b hb=>hb.elim⟩
 obtain⟨A,cap,rfl,hrd⟩:=own.reads;refine⟨_,rfl,?_⟩;replace ae:=ae.step hb5;replace k2:=k2.step hb5;refine Zm ?_;refine Zv (aa.extract rfl rfl rfl) ?_;refine Zv (aa.extract rfl rfl rfl) ?_;refine Za ?_;refine Za ?_;refine bj 0 2 3 4 5 6 (aJ (ao ?_));refine Zm ?_;refine Zv (aa.geq rfl rfl rfl) ?_;refine bb 0 2 3 4 5 6 18 (Zt ?_);refine Cd.aN rfl (by simp) ?_;refine Cd.skip (aG ?_);refine Zm ?_;refine Zv (aa.build rfl rfl (ox A (aR l).1.length cap _)) ?_;refine Seq.box rfl rfl rfl rfl rfl ?_;intro g23 w2 n23;have e23:=Nat.le_trans ae.size n23.ge;have l23:=Nat.lt_of_lt_of_le k2.lt n23.ge;replace ae:=ae.step n23.below;replace k2:=k2.step n23.below;have k23:=n23.av;refine Za ?_;refine cI 0 2 3 4 5 6 7 18 (aG ?_);refine Zm ?_;have hKok:=vI l hl h4 (B:=w5.heap.size) (g:=g23) (c:=cap) (A:=A) n23.ge;have hWs:=pC l hl;have hg23:=k23.lt;have hrd23:=hrd.below n23.below
 generalize hK:(Ctx.mk w5.heap.size g23 cap l.length A (aR l).1)=K at hKok
 have hKg:K.g=g23:=by rw[←hK]
 have hKw:K.ws=(aR l).1:=by rw[←hK]
 have hKe:K.en=l.length:=by rw[←hK]
 have sw:SW K w2 0 (0:Nat) false false:=by rw[←hK];exact⟨k23,hrd23,Nat.zero_le _,by omega,n23.ge⟩
 rw[←hKw] at hWs;have hpos:∀q,(K.at_ q).pos=endPos l q:=fun q=>by unfold Ctx.at_ endPos;rw[hKw,hKe]
 have hposl:=endPos_le l hl;subst hKg;have htm:=sU K hKok hWs (K.ws.length-0+1) 0 0 _ (by omega) (by omega) sw;have hk2:=k2.lt;have hg2:g2<K.g:=by omega
 have hsz0:=ae.size;clear k23;refine Zc (Ze Tryz.func123) htm ?_;rintro e w6 ⟨hf6,v6,x,p6,o6,dp6,bd6,rfl,⟨S6,hr6,hb6⟩,sw6,hres,-⟩;refine⟨_,rfl,?_⟩;have hres:=hres rfl;have bel6:Below w.heap.size w w6:=ae.trans (hf6.below (by omega) (by omega));have k26:=k2.fz hf6 (by omega);clear ae k2 sw htm;have ae:=bel6;have k2:=k26;have hs6:=hf6.size;obtain⟨A1,c1,A2,c2,hvX⟩:=hr6.form;subst hvX;have hfull:mx K.ws 0 0=fK (aR l).1:=by rw[hKw];rfl
 rw[hfull] at hres;have hq6:=sw6.bK;have sw:=sw6;have rs:CG _ w6.heap.size S6 x (.agg #[.int .i64 x.op, .string (strOf x.name), .slice A1 x.exprs.length c1, .slice A2 x.aH.length c2]) w6:=⟨hr6,hb6,Nat.le_refl _⟩;refine Zl aI ?_;intro g8 w3 n8;have q8:=n8.ge;have e8:=Nat.le_trans ae.size n8.ge;have l8:=Nat.lt_of_lt_of_le k2.lt n8.ge;replace ae:=ae.step n8.below;replace k2:=k2.step n8.below;replace sw:=sw.step n8.below;replace rs:=rs.step n8.below;have k8:=n8.av;refine Zo 4 k8 ?_;intro w4 pw4;replace ae:=ae.put k8 pw4 e8;replace k2:=k2.put pw4 (by omega);replace sw:=sw.put k8 pw4 e8;replace rs:=rs.put k8 pw4 e8;replace k8:=pw4.av;refine dG 0 2 3 4 5 6 7 8 18 (aG ?_);refine Zm ?_;refine Zm ?_;refine Zv (aa.dh rfl rfl Tryz.underlying9) ?_;have hen:=fun W h=>Bk K hKok p6 o6 dp6 bd6 W h;simp only[hpos,hKe,hKw] at hen;refine Zc (Ze Tryz.func124) (hen _ sw) ?_;rintro e w7 ⟨rfl,hb7⟩;refine⟨_,rfl,?_⟩;replace ae:=ae.step hb7;replace k2:=k2.step hb7;replace sw:=sw.step hb7;replace rs:=rs.step hb7;replace k8:=k8.step hb7;obtain⟨R,hR⟩:∃R,R=fK (aR l).1:=⟨_,rfl⟩;rw[←hR] at hres hpn hpo;rw[hKw] at hq6
 have hlen:p6<(aR l).1.length→cv l R=(endPos l p6,11)∨(dp6=true):=fun hp=>by
  unfold eo at hres;unfold cv;rw[if_neg (by omega),h2]
  cases R with
  |out=>exact hres.elim
  |bad a ov=>
   obtain⟨rfl,rfl,rfl,-⟩:=hres
   cases dp6 with
   |true=>exact .inr rfl
   |false=>exact .inl rfl
  |ok a b=>
   obtain⟨rfl,rfl,-,rfl,-⟩:=hres;exact .inl (if_neg (by omega))
 cases dp6 with
 |true=>
  have hpa:cv l R=(0,13):=by
   unfold eo at hres;unfold cv;rw[if_neg (by omega),h2]
   cases R with
   |out=>exact hres.elim
   |ok a b=>cases hres.2.2.2.1
   |bad a ov=>
    obtain⟨rfl,rfl,rfl,-⟩:=hres;rfl
  have hps:=hpn _ _ hpa (by omega);refine Za ?_;refine dg 0 2 3 4 5 6 7 8 9 18 (aJ (ao ?_));refine Zm ?_;refine Zv (aa.aB rfl rfl rfl) ?_;refine dr 0 2 3 4 5 6 7 8 9 18 31 (Zt ?_);refine Cd.aX rfl (by rfl) ?_;refine ao ?_;refine Zv (aa.build rfl rfl (dJ _)) ?_;refine Zo 4 k2 ?_;intro w5 pw5;replace ae:=ae.put k2 pw5 e2;replace rs:=rs.put k2 pw5 e2;replace k8:=k8.put pw5 (by omega);replace k2:=pw5.av;refine Za ?_;refine Za ?_;refine dr 0 2 3 4 5 6 7 8 9 18 31 (Zt (Cd.ret (ab.af ?_)));refine ab.mw rfl rfl rfl rfl k2 Tryz.underlying71 rfl (m:=4) (by kernel_rfl) rfl (.inl rfl) ?_;rw[hps];exact⟨ae,_,fun _=>False,rfl,dm.zero _ _,fun b hb=>hb.elim⟩
 |false=>
  have hlen:p6<(aR l).1.length→cv l R=(endPos l p6,11):=fun hp=>(hlen hp).elim id (fun h=>by cases h);have hp6:=hposl p6;rw[if_neg (by simp)];rcases Nat.lt_or_ge p6 (aR l).1.length with hp|hp
  ·have hps:=hpn _ _ (hlen hp) (by omega)
   rw[if_pos hp];refine Za ?_;refine dg 0 2 3 4 5 6 7 8 9 18 (aJ (ao ?_));refine Zm ?_;refine Zv (aa.aB rfl rfl rfl) ?_;refine dr 0 2 3 4 5 6 7 8 9 18 31 (Zt ?_);refine Cd.aN rfl (decide_eq_false (by omega)) ?_;refine Cd.skip (aJ (ao ?_));refine Zm ?_;refine Zv (aa.geq rfl rfl rfl) ?_;refine fG 0 2 3 4 5 6 7 8 9 18 31 34 (Zt ?_);refine Cd.aX rfl (decide_eq_true (by omega)) ?_;refine ao ?_;refine Zv (aa.build rfl rfl (dJ _)) ?_;refine Zm ?_;refine Zo 4 k2 ?_;intro w5 pw5;replace ae:=ae.put k2 pw5 e2;replace rs:=rs.put k2 pw5 e2;replace k8:=k8.put pw5 (by omega);replace k2:=pw5.av;refine Za ?_;refine Za ?_;refine fG 0 2 3 4 5 6 7 8 9 18 31 34 (Zt (Cd.ret (ab.af ?_)));refine ab.mw rfl rfl rfl rfl k2 Tryz.underlying71 rfl (m:=4) (by kernel_rfl) rfl (.inl rfl) ?_;rw[hps];exact⟨ae,_,fun _=>False,rfl,dm.zero _ _,fun b hb=>hb.elim⟩
  rw[if_neg (by omega)];have hpe:p6=(aR l).1.length:=by omega
  cases bd6 with
  |true=>
   have hpa:cv l R=(endPos l p6,11):=by
    unfold eo at hres;unfold cv;rw[if_neg (by omega),h2]
    cases R with
    |out=>exact hres.elim
    |ok a b=>cases hres.2.2.2.2
    |bad a ov=>
     obtain⟨rfl,rfl,-⟩:=hres;rfl
   have hel:endPos l p6=l.length:=by
    unfold endPos;rw[List.getD_eq_getElem?_getD,List.getElem?_eq_none hp];rfl
   have hps:=hpn _ _ hpa (by omega);rw[hel] at hps;rw[if_pos rfl];refine Za ?_;refine dg 0 2 3 4 5 6 7 8 9 18 (aJ (ao ?_));refine Zm ?_;refine Zv (aa.aB rfl rfl rfl) ?_;refine dr 0 2 3 4 5 6 7 8 9 18 31 (Zt ?_);refine Cd.aN rfl (decide_eq_false (by omega)) ?_;refine Cd.skip (aJ (ao ?_));refine Zm ?_;refine Zv (aa.geq rfl rfl rfl) ?_;refine fG 0 2 3 4 5 6 7 8 9 18 31 34 (Zt ?_);refine Cd.aX rfl (decide_eq_true (by omega)) ?_;refine ao ?_;refine Zv (aa.build rfl rfl (dJ _)) ?_;refine Zm ?_;refine Zo 4 k2 ?_;intro w5 pw5;replace ae:=ae.put k2 pw5 e2;replace rs:=rs.put k2 pw5 e2;replace k8:=k8.put pw5 (by omega);replace k2:=pw5.av;refine Za ?_;refine Za ?_;refine fG 0 2 3 4 5 6 7 8 9 18 31 34 (Zt (Cd.ret (ab.af ?_)));refine ab.mw rfl rfl rfl rfl k2 Tryz.underlying71 rfl (m:=4) (by kernel_rfl) rfl (.inl rfl) ?_;rw[hps];exact⟨ae,_,fun _=>False,rfl,dm.zero _ _,fun b hb=>hb.elim⟩
  |false=>
   have hok:R= .ok x p6:=by
    unfold eo at hres
    cases R with
    |out=>exact hres.elim
    |bad a ov=>cases hres.2.2.1
    |ok a b=>
     obtain⟨rfl,rfl,-⟩:=hres;rfl
   have hpa:cv l R=(0,0):=by
    unfold cv;rw[if_neg (by omega),h2,hok];exact if_pos hpe
   have hps:=hpo _ _ hpa hok;have hnd:=ti _ _ _ _ _ _ (hR.symm.trans hok);have hbt:=ux hl (hR.symm.trans hok);have hwl:=vI l hl h4 (B:=0) (g:=0) (c:=0) (A:=none) (Nat.le_refl 0);have hwl:(aR l).1.length≤4000:=hwl.len;have hdn:=x.bV;have hri:dF x=(decide (x.nodes≤200)&&decide (x.depth≤16)):=by unfold dF;rw[hbt,Bool.and_true]
   rw[if_neg (by simp)];have k8:aK _ g8 71 #[.int .i64 x.op, .string (strOf x.name), .slice A1 x.exprs.length c1, .slice A2 x.aH.length c2]:=k8;have hrb:fZ _ _ x (.agg #[.int .i64 x.op, .string (strOf x.name), .slice A1 x.exprs.length c1, .slice A2 x.aH.length c2]):=rs.rep.mono (fun b hb=>Nat.lt_of_lt_of_le (rs.bd b hb).2 rs.eH) (fun _ _=>rfl);have hszc:=fun W (hb:Below w7.heap.size w7 W)=>yM x.nodes x w7.heap.size _ W (Nat.le_refl _) (by omega) (hrb.below hb) hb.size;have hloc:=Below.refl w7.heap.size w7;refine Za ?_;refine dg 0 2 3 4 5 6 7 8 9 18 (aJ (ao ?_));refine Zm ?_;refine Zv (aa.aB rfl rfl rfl) ?_;refine dr 0 2 3 4 5 6 7 8 9 18 31 (Zt ?_);refine Cd.aN rfl (decide_eq_false (by omega)) ?_;refine Cd.skip (aJ (ao ?_));refine Zm ?_;refine Zv (aa.geq rfl rfl rfl) ?_;refine fG 0 2 3 4 5 6 7 8 9 18 31 34 (Zt ?_);refine Cd.aN rfl (decide_eq_false (by omega)) ?_;refine Cd.skip (aJ (ao ?_));refine Zv (aa.aQ rfl rfl Tryz.underlying71 rfl k8 (m:=4) (by kernel_rfl) rfl) ?_;refine Zc (Ze Tryz.func94) (hszc _ hloc) ?_;rintro e w8 ⟨rfl,hb8⟩;refine⟨_,rfl,?_⟩;replace ae:=ae.step hb8;replace k2:=k2.step hb8;replace rs:=rs.step hb8;replace k8:=k8.step hb8;replace hloc:=hloc.step hb8;refine Zm ?_;refine Zv (aa.extract rfl rfl rfl) ?_;refine Zv (aa.extract rfl rfl rfl) ?_;refine Za ?_;refine Za ?_;refine jk 0 2 3 4 5 6 7 8 9 10 11 18 31 34 (aG ?_);refine Zm ?_;refine Zv (aa.gtr rfl rfl rfl) ?_;refine Zm ?_;refine ah.start ?_;refine bM (fun hcx=>aa.move rfl rfl) ?_;refine ah.next rfl rfl rfl rfl rfl rfl rfl (fun hcx=>aa.gtr rfl rfl rfl) ?_;refine ah.or rfl rfl rfl rfl rfl rfl rfl ?_;refine sd 0 2 3 4 5 6 7 8 9 10 11 18 31 34 47 (Zt ?_);refine Cd.cond rfl (fun hc=> ?_) (fun hc=> ?_)
   ·have hc:¬(x.nodes≤200∧x.depth≤16):=by
     simp at hc;omega
    have hr0:dF x=false:=by
     rw[hri];rcases Nat.lt_or_ge 200 x.nodes with h|h
     ·rw[decide_eq_false (by omega)];rfl
     ·rw[decide_eq_false (show¬x.depth≤16 by omega),Bool.and_false]
    rw[hr0,if_neg (by simp)] at hps;refine ao ?_;refine Zv (aa.build rfl rfl (dJ _)) ?_;refine Zo 4 k2 ?_;intro w5 pw5;replace ae:=ae.put k2 pw5 e2;replace rs:=rs.put k2 pw5 e2;replace k8:=k8.put pw5 (by omega);replace k2:=pw5.av;refine Za ?_;refine Za ?_;refine sd 0 2 3 4 5 6 7 8 9 10 11 18 31 34 47 (Zt (Cd.ret (ab.af ?_)));refine ab.mw rfl rfl rfl rfl k2 Tryz.underlying71 rfl (m:=4) (by kernel_rfl) rfl (.inl rfl) ?_;rw[hps];exact⟨ae,_,fun _=>False,rfl,dm.zero _ _,fun b hb=>hb.elim⟩
   ·have hc:x.nodes≤200∧x.depth≤16:=by
     simp at hc;omega
    have hr0:dF x=true:=by
     rw[hri,decide_eq_true hc.1,decide_eq_true hc.2];rfl
    rw[hr0,if_pos rfl] at hps;have hwB:=rs.bd;have hwl2:=rs.eH;have k2l:=k2.lt;refine Cd.skip (aG ?_);refine Zv (aa.aQ rfl rfl Tryz.underlying71 rfl k8 (m:=4) (by kernel_rfl) rfl) ?_;refine Zo 4 k2 ?_;intro w5 pw5;replace ae:=ae.put k2 pw5 e2;replace rs:=rs.put k2 pw5 e2;replace k8:=k8.put pw5 (by omega);replace k2:=pw5.av;refine Za ?_;refine Za ?_;refine sd 0 2 3 4 5 6 7 8 9 10 11 18 31 34 47 (Zt (Cd.ret ?_));refine ab.mw rfl rfl rfl rfl k2 Tryz.underlying71 rfl (m:=4) (by kernel_rfl) rfl (.inl rfl) ?_;rw[hps];exact⟨ae,_,S6,rfl,rs.rep,fun b hb=>by have:=hwB b hb;have:=rs.eH;omega⟩
open Go.ChangeShapes Go.WideShapes Go.Deep Go.RowKit
structure Ev where
 kind:Int
 id:List Nat
 a:List Nat
 b:List Nat
 text:List Nat
 day:Int
 at_:Int
 ep:Int
 n:Int
deriving DecidableEq
def Ev.v (e:Ev):Value:= .agg #[.int .i64 e.kind, .string (strOf e.id), .string (strOf e.a), .string (strOf e.b), .string (strOf e.text), .int .i64 e.day, .int .i64 e.at_, .int .i64 e.ep, .int .i64 e.n]
structure Ev.uC (e:Ev):Prop where
 kind:bt e.kind
 id:∀x∈e.id,x<256
 a:∀x∈e.a,x<256
 b:∀x∈e.b,x<256
 text:∀x∈e.text,x<256
 day:bt e.day
 at_:bt e.at_
 ep:bt e.ep
 n:bt e.n
 EH:e.id.length≤9223372036854775807
 la:e.a.length≤9223372036854775807
 lb:e.b.length≤9223372036854775807
 Bj:e.text.length≤9223372036854775807
theorem ng:cf Tryz.prog 29=some (some (.agg #[.int .i64 0, .string {data:= #[]}, .string {data:= #[]}, .string {data:= #[]}, .string {data:= #[]}, .int .i64 0, .int .i64 0, .int .i64 0, .int .i64 0])):=by kernel_rfl
def Ev.same (a b:Ev):Bool:=a.kind==b.kind&&((strOf a.id).toList==(strOf b.id).toList&&((strOf a.a).toList==(strOf b.a).toList&&((strOf a.b).toList==(strOf b.b).toList&&((strOf a.text).toList==(strOf b.text).toList&&(a.day==b.day&&(a.at_==b.at_&&(a.ep==b.ep&&a.n==b.n)))))))
set_option maxRecDepth 100000 in
theorem vu (a b:Ev)(w:World):(binOp .neq 29 a.v b.v).run Tryz.prog w= .ok (.bool (!(a.same b))) w:=by
 have hu:=Tryz.underlying29;unfold Ev.same Ev.v
 go_simp
 repeat' split
 all_goals simp_all
theorem Cu {a b:Ev}(ha:a.uC)(hb:b.uC):a.same b=decide (a=b):=by
 unfold Ev.same;rw[gX ha.id hb.id,gX ha.a hb.a,gX ha.b hb.b,gX ha.text hb.text,Bool.eq_iff_iff]
 cases a
 cases b
 simp
theorem tN (op:BinOp)(x y:Operand)(a b:Array Value)(w:World):(eqGuard op 29 x y (.agg a) (.agg b)).run Tryz.prog w= .ok () w:=by
 have h:Tryz.prog.eqGuardType Tryz.prog.depth 29=false:=by kernel_rfl
 cases op<;>simp[eqGuard,program,h,Sem.run_bind,Sem.run]
def iT (e:Ev):Ev:=
 if e.kind=1 then {e with id:=[],a:=[],b:=[],text:=[],day:=0}
 else if e.kind=2 then {e with day:=0}
 else if e.kind=3 then {e with a:=[],day:=0,n:=0}
 else if e.kind=4 then {e with id:=[],a:=[],at_:=0,ep:=0}
 else if e.kind=5 then {e with id:=[],a:=[],b:=[]}
 else if e.kind=6 then {e with id:=[],a:=[]}
 else if e.kind=7 then {e with id:=[]}
 else e
set_option maxHeartbeats 2000000 in
theorem zT (e:Ev)(w:World):Calls Tryz.prog 34 #[e.v] w fun en w'=>en= .returned (iT e).v∧Grow w w':=by
 have ae:=Below.refl w.heap.size w;unfold Ev.v iT;refine Zs 39 Tryz.func34 ?_;refine ao ?_;refine Seq.box rfl rfl rfl rfl rfl ?_;intro g1 w1 n1;have e1:=Nat.le_trans ae.size n1.ge;replace ae:=ae.step n1.below;have k1:=n1.av;refine Zl ng ?_;intro g2 w2 n2;have e2:=Nat.le_trans ae.size n2.ge;have l2:=Nat.lt_of_lt_of_le k1.lt n2.ge;replace ae:=ae.step n2.below;replace k1:=k1.step n2.below;have k2:=n2.av;refine bD 0 1 2 (aJ (ao ?_));refine Zf 0 Tryz.underlying29 ?_;refine Zv (aa.ag rfl rfl Tryz.underlying3 rfl k1 rfl) ?_;refine aV 0 1 2 4 (Zt (Cd.block (ao ?_)));refine Zv (aa.aB rfl rfl rfl) ?_;refine Za ?_;refine aU 0 1 2 4 5 (Zt ?_);refine Cd.au rfl (fun h1=> ?_) (fun h1=> ?_)
 ·skip
  refine Zr ?_;refine Zf 1 Tryz.underlying29 ?_;refine Zq k1 ?_;intro w3 pw3;replace ae:=ae.put k1 pw3 e1;replace k2:=k2.put pw3 (by omega);replace k1:=pw3.av;refine Zf 2 Tryz.underlying29 ?_;refine Zq k1 ?_;intro w4 pw4;replace ae:=ae.put k1 pw4 e1;replace k2:=k2.put pw4 (by omega);replace k1:=pw4.av;refine Zf 3 Tryz.underlying29 ?_;refine Zq k1 ?_;intro w5 pw5;replace ae:=ae.put k1 pw5 e1;replace k2:=k2.put pw5 (by omega);replace k1:=pw5.av;refine Zf 4 Tryz.underlying29 ?_;refine Zq k1 ?_;intro w6 pw6;replace ae:=ae.put k1 pw6 e1;replace k2:=k2.put pw6 (by omega);replace k1:=pw6.av;refine Zf 5 Tryz.underlying29 ?_;refine Zq k1 ?_;intro w7 pw7;replace ae:=ae.put k1 pw7 e1;replace k2:=k2.put pw7 (by omega);replace k1:=pw7.av;refine aU 0 1 2 4 5 (ab.aj (aG ?_));refine Zv (aa.aQ rfl rfl Tryz.underlying29 rfl k1 (m:=9) (by kernel_rfl) rfl) ?_;refine Zo 9 k2 ?_;intro w8 pw8;replace ae:=ae.put k2 pw8 e2;replace k1:=k1.put pw8 (by omega);replace k2:=pw8.av;refine aU 0 1 2 4 5 (Zt (Cd.ret ?_));refine ab.cz rfl rfl k2 Tryz.underlying29 rfl (m:=9) (by kernel_rfl) rfl (.inl rfl) ?_;rw[if_pos h1];exact⟨rfl,ae⟩
 refine ao ?_;refine Zv (aa.aB rfl rfl rfl) ?_;refine Za ?_;refine bj 0 1 2 4 5 12 (Zt ?_);refine Cd.au rfl (fun h2=> ?_) (fun h2=> ?_)
 ·skip
  refine Zr ?_;refine Zf 5 Tryz.underlying29 ?_;refine Zq k1 ?_;intro w3 pw3;replace ae:=ae.put k1 pw3 e1;replace k2:=k2.put pw3 (by omega);replace k1:=pw3.av;refine bj 0 1 2 4 5 12 (ab.aj (aG ?_));refine Zv (aa.aQ rfl rfl Tryz.underlying29 rfl k1 (m:=9) (by kernel_rfl) rfl) ?_;refine Zo 9 k2 ?_;intro w4 pw4;replace ae:=ae.put k2 pw4 e2;replace k1:=k1.put pw4 (by omega);replace k2:=pw4.av;refine bj 0 1 2 4 5 12 (Zt (Cd.ret ?_));refine ab.cz rfl rfl k2 Tryz.underlying29 rfl (m:=9) (by kernel_rfl) rfl (.inl rfl) ?_;rw[if_neg h1];rw[if_pos h2];exact⟨rfl,ae⟩
 refine ao ?_;refine Zv (aa.aB rfl rfl rfl) ?_;refine Za ?_;refine bb 0 1 2 4 5 12 15 (Zt ?_);refine Cd.au rfl (fun h3=> ?_) (fun h3=> ?_)
 ·skip
  refine Zr ?_;refine Zf 2 Tryz.underlying29 ?_;refine Zq k1 ?_;intro w3 pw3;replace ae:=ae.put k1 pw3 e1;replace k2:=k2.put pw3 (by omega);replace k1:=pw3.av;refine Zf 5 Tryz.underlying29 ?_;refine Zq k1 ?_;intro w4 pw4;replace ae:=ae.put k1 pw4 e1;replace k2:=k2.put pw4 (by omega);replace k1:=pw4.av;refine Zf 8 Tryz.underlying29 ?_;refine Zq k1 ?_;intro w5 pw5;replace ae:=ae.put k1 pw5 e1;replace k2:=k2.put pw5 (by omega);replace k1:=pw5.av;refine bb 0 1 2 4 5 12 15 (ab.aj (aG ?_));refine Zv (aa.aQ rfl rfl Tryz.underlying29 rfl k1 (m:=9) (by kernel_rfl) rfl) ?_;refine Zo 9 k2 ?_;intro w6 pw6;replace ae:=ae.put k2 pw6 e2;replace k1:=k1.put pw6 (by omega);replace k2:=pw6.av;refine bb 0 1 2 4 5 12 15 (Zt (Cd.ret ?_));refine ab.cz rfl rfl k2 Tryz.underlying29 rfl (m:=9) (by kernel_rfl) rfl (.inl rfl) ?_;rw[if_neg h1];rw[if_neg h2];rw[if_pos h3];exact⟨rfl,ae⟩
 refine ao ?_;refine Zv (aa.aB rfl rfl rfl) ?_;refine Za ?_;refine cI 0 1 2 4 5 12 15 20 (Zt ?_);refine Cd.au rfl (fun h4=> ?_) (fun h4=> ?_)
 ·skip
  refine Zr ?_;refine Zf 1 Tryz.underlying29 ?_;refine Zq k1 ?_;intro w3 pw3;replace ae:=ae.put k1 pw3 e1;replace k2:=k2.put pw3 (by omega);replace k1:=pw3.av;refine Zf 2 Tryz.underlying29 ?_;refine Zq k1 ?_;intro w4 pw4;replace ae:=ae.put k1 pw4 e1;replace k2:=k2.put pw4 (by omega);replace k1:=pw4.av;refine Zf 6 Tryz.underlying29 ?_;refine Zq k1 ?_;intro w5 pw5;replace ae:=ae.put k1 pw5 e1;replace k2:=k2.put pw5 (by omega);replace k1:=pw5.av;refine Zf 7 Tryz.underlying29 ?_;refine Zq k1 ?_;intro w6 pw6;replace ae:=ae.put k1 pw6 e1;replace k2:=k2.put pw6 (by omega);replace k1:=pw6.av;refine cI 0 1 2 4 5 12 15 20 (ab.aj (aG ?_));refine Zv (aa.aQ rfl rfl Tryz.underlying29 rfl k1 (m:=9) (by kernel_rfl) rfl) ?_;refine Zo 9 k2 ?_;intro w7 pw7;replace ae:=ae.put k2 pw7 e2;replace k1:=k1.put pw7 (by omega);replace k2:=pw7.av;refine cI 0 1 2 4 5 12 15 20 (Zt (Cd.ret ?_));refine ab.cz rfl rfl k2 Tryz.underlying29 rfl (m:=9) (by kernel_rfl) rfl (.inl rfl) ?_;rw[if_neg h1];rw[if_neg h2];rw[if_neg h3];rw[if_pos h4];exact⟨rfl,ae⟩
 refine ao ?_;refine Zv (aa.aB rfl rfl rfl) ?_;refine Za ?_;refine dG 0 1 2 4 5 12 15 20 26 (Zt ?_);refine Cd.au rfl (fun h5=> ?_) (fun h5=> ?_)
 ·skip
  refine Zr ?_;refine Zf 1 Tryz.underlying29 ?_;refine Zq k1 ?_;intro w3 pw3;replace ae:=ae.put k1 pw3 e1;replace k2:=k2.put pw3 (by omega);replace k1:=pw3.av;refine Zf 2 Tryz.underlying29 ?_;refine Zq k1 ?_;intro w4 pw4;replace ae:=ae.put k1 pw4 e1;replace k2:=k2.put pw4 (by omega);replace k1:=pw4.av;refine Zf 3 Tryz.underlying29 ?_;refine Zq k1 ?_;intro w5 pw5;replace ae:=ae.put k1 pw5 e1;replace k2:=k2.put pw5 (by omega);replace k1:=pw5.av;refine dG 0 1 2 4 5 12 15 20 26 (ab.aj (aG ?_));refine Zv (aa.aQ rfl rfl Tryz.underlying29 rfl k1 (m:=9) (by kernel_rfl) rfl) ?_;refine Zo 9 k2 ?_;intro w6 pw6;replace ae:=ae.put k2 pw6 e2;replace k1:=k1.put pw6 (by omega);replace k2:=pw6.av;refine dG 0 1 2 4 5 12 15 20 26 (Zt (Cd.ret ?_));refine ab.cz rfl rfl k2 Tryz.underlying29 rfl (m:=9) (by kernel_rfl) rfl (.inl rfl) ?_;rw[if_neg h1];rw[if_neg h2];rw[if_neg h3];rw[if_neg h4];rw[if_pos h5];exact⟨rfl,ae⟩
 refine ao ?_;refine Zv (aa.aB rfl rfl rfl) ?_;refine Za ?_;refine dg 0 1 2 4 5 12 15 20 26 31 (Zt ?_);refine Cd.au rfl (fun h6=> ?_) (fun h6=> ?_)
 ·skip
  refine Zr ?_;refine Zf 1 Tryz.underlying29 ?_;refine Zq k1 ?_;intro w3 pw3;replace ae:=ae.put k1 pw3 e1;replace k2:=k2.put pw3 (by omega);replace k1:=pw3.av;refine Zf 2 Tryz.underlying29 ?_;refine Zq k1 ?_;intro w4 pw4;replace ae:=ae.put k1 pw4 e1;replace k2:=k2.put pw4 (by omega);replace k1:=pw4.av;refine dg 0 1 2 4 5 12 15 20 26 31 (ab.aj (aG ?_));refine Zv (aa.aQ rfl rfl Tryz.underlying29 rfl k1 (m:=9) (by kernel_rfl) rfl) ?_;refine Zo 9 k2 ?_;intro w5 pw5;replace ae:=ae.put k2 pw5 e2;replace k1:=k1.put pw5 (by omega);replace k2:=pw5.av;refine dg 0 1 2 4 5 12 15 20 26 31 (Zt (Cd.ret ?_));refine ab.cz rfl rfl k2 Tryz.underlying29 rfl (m:=9) (by kernel_rfl) rfl (.inl rfl) ?_;rw[if_neg h1];rw[if_neg h2];rw[if_neg h3];rw[if_neg h4];rw[if_neg h5];rw[if_pos h6];exact⟨rfl,ae⟩
 refine ao ?_;refine Zv (aa.aB rfl rfl rfl) ?_;refine Za ?_;refine dr 0 1 2 4 5 12 15 20 26 31 35 (Zt ?_);refine Cd.au rfl (fun h7=> ?_) (fun h7=> ?_)
 ·skip
  refine Zr ?_;refine Zf 1 Tryz.underlying29 ?_;refine Zq k1 ?_;intro w3 pw3;replace ae:=ae.put k1 pw3 e1;replace k2:=k2.put pw3 (by omega);replace k1:=pw3.av;refine dr 0 1 2 4 5 12 15 20 26 31 35 (ab.aj (aG ?_));refine Zv (aa.aQ rfl rfl Tryz.underlying29 rfl k1 (m:=9) (by kernel_rfl) rfl) ?_;refine Zo 9 k2 ?_;intro w4 pw4;replace ae:=ae.put k2 pw4 e2;replace k1:=k1.put pw4 (by omega);replace k2:=pw4.av;refine dr 0 1 2 4 5 12 15 20 26 31 35 (Zt (Cd.ret ?_));refine ab.cz rfl rfl k2 Tryz.underlying29 rfl (m:=9) (by kernel_rfl) rfl (.inl rfl) ?_;rw[if_neg h1];rw[if_neg h2];rw[if_neg h3];rw[if_neg h4];rw[if_neg h5];rw[if_neg h6];rw[if_pos h7];exact⟨rfl,ae⟩
 refine Cd.skip (ab.aj (aG ?_));refine Zv (aa.aQ rfl rfl Tryz.underlying29 rfl k1 (m:=9) (by kernel_rfl) rfl) ?_;refine Zo 9 k2 ?_;intro w3 pw3;replace ae:=ae.put k2 pw3 e2;replace k1:=k1.put pw3 (by omega);replace k2:=pw3.av;refine dr 0 1 2 4 5 12 15 20 26 31 35 (Zt (Cd.ret ?_));refine ab.cz rfl rfl k2 Tryz.underlying29 rfl (m:=9) (by kernel_rfl) rfl (.inl rfl) ?_;rw[if_neg h1,if_neg h2,if_neg h3,if_neg h4,if_neg h5,if_neg h6,if_neg h7];exact⟨rfl,ae⟩
theorem DF (n:Int)(w:World):Calls Tryz.prog 37 #[.int .i64 n] w fun en w'=>en= .returned (.bool (decide (0≤n)&&decide (n≤2932896)))∧Grow w w':=by
 have ae:=Below.refl w.heap.size w;refine Zs 9 Tryz.func37 ?_;refine ao ?_;refine Za ?_;refine eh 0 2 (aG ?_);refine Zm ?_;refine Zv (aa.geq rfl rfl rfl) ?_;refine Zm ?_;refine ah.start ?_;refine bM (fun hcx=>aa.move rfl rfl) ?_;refine ah.next rfl rfl rfl rfl rfl rfl rfl (fun hcx=>aa.leq rfl rfl rfl) ?_;refine ah.and rfl rfl rfl rfl rfl rfl rfl ?_;refine Za ?_;refine eh 0 2 (Zt (Cd.ret ?_));refine ab.aE rfl rfl (.inl rfl) ?_;exact⟨rfl,ae⟩
def nb (e:Ev):Bool:=(!(decide (e.kind≠2)&&decide (e.kind≠3))||db e.id)&&(!(decide (e.kind≠2)&&decide (e.kind≠7))||db e.a)&&(!(decide (e.kind=1)||decide (e.kind=5))||(db e.b&&decide (e.a≠e.b)))
set_option maxHeartbeats 1000000 in
theorem zr (e:Ev)(he:e.uC)(w:World):Calls Tryz.prog 35 #[e.v] w fun en w'=>en= .returned (.bool (nb e))∧Grow w w':=by
 have ae:=Below.refl w.heap.size w;have ha:=he.a;have hb:=he.b;have h1:=fun W=>ln e.id W he.id he.EH;have h2:=fun W=>ln e.a W he.a he.la;have h3:=fun W=>ln e.b W he.b he.lb;unfold Ev.v nb;refine Zs 62 Tryz.func35 ?_;refine ao ?_;refine Seq.box rfl rfl rfl rfl rfl ?_;intro g1 w1 n1;have e1:=Nat.le_trans ae.size n1.ge;replace ae:=ae.step n1.below;have k1:=n1.av;refine Za ?_;refine bD 0 1 2 (aG ?_);refine Zf 0 Tryz.underlying29 ?_;refine Zv (aa.ag rfl rfl Tryz.underlying3 rfl k1 rfl) ?_;refine Zv (aa.bN rfl rfl rfl) ?_;refine Zm ?_;refine ah.start ?_;refine bM (fun hcx=>aa.an 0 rfl rfl Tryz.underlying29 rfl (by kernel_rfl)) ?_;refine ah.next rfl rfl rfl rfl rfl rfl rfl (fun hcx=>aa.ag rfl rfl Tryz.underlying3 rfl k1 rfl) ?_;refine ah.next rfl rfl rfl rfl rfl rfl rfl (fun hcx=>aa.bN rfl rfl rfl) ?_;refine ah.and rfl rfl rfl rfl rfl rfl rfl ?_;refine Za ?_;refine aV 0 1 2 3 (aG ?_);refine Zf 0 Tryz.underlying29 ?_;refine Zv (aa.ag rfl rfl Tryz.underlying3 rfl k1 rfl) ?_;refine Zv (aa.bN rfl rfl rfl) ?_;refine Zm ?_;refine ah.start ?_;refine bM (fun hcx=>aa.an 0 rfl rfl Tryz.underlying29 rfl (by kernel_rfl)) ?_;refine ah.next rfl rfl rfl rfl rfl rfl rfl (fun hcx=>aa.ag rfl rfl Tryz.underlying3 rfl k1 rfl) ?_;refine ah.next rfl rfl rfl rfl rfl rfl rfl (fun hcx=>aa.bN rfl rfl rfl) ?_;refine ah.and rfl rfl rfl rfl rfl rfl rfl ?_;refine Za ?_;refine aU 0 1 2 3 4 (aG ?_);refine Zf 0 Tryz.underlying29 ?_;refine Zv (aa.ag rfl rfl Tryz.underlying3 rfl k1 rfl) ?_;refine Zv (aa.aB rfl rfl rfl) ?_;refine Zm ?_;refine ah.start ?_;refine bM (fun hcx=>aa.an 0 rfl rfl Tryz.underlying29 rfl (by kernel_rfl)) ?_;refine ah.next rfl rfl rfl rfl rfl rfl rfl (fun hcx=>aa.ag rfl rfl Tryz.underlying3 rfl k1 rfl) ?_;refine ah.next rfl rfl rfl rfl rfl rfl rfl (fun hcx=>aa.aB rfl rfl rfl) ?_;refine ah.or rfl rfl rfl rfl rfl rfl rfl ?_;refine Za ?_;refine bj 0 1 2 3 4 5 (aG ?_);refine Zm ?_;refine Zv (aa.not rfl rfl) ?_;refine Zm ?_;refine ah.start ?_;refine bM (fun hcx=>aa.an 1 rfl rfl Tryz.underlying29 rfl (by kernel_rfl)) ?_;refine ah.next rfl rfl rfl rfl rfl rfl rfl (fun hcx=>aa.ag rfl rfl Tryz.underlying9 rfl k1 rfl) ?_;refine ah.bY rfl rfl rfl rfl rfl rfl rfl (fun hcx=>Ze Tryz.func62) (fun hcx=>h1 _) ?_;intro w2 hw2;replace ae:=ae.step hw2;replace k1:=k1.step hw2;refine ah.or rfl rfl rfl rfl rfl rfl rfl ?_;refine Zm ?_;refine ah.start ?_;refine bM (fun hcx=>aa.move rfl rfl) ?_;refine ah.next rfl rfl rfl rfl rfl rfl rfl (fun hcx=>aa.not rfl rfl) ?_;refine ah.next rfl rfl rfl rfl rfl rfl rfl (fun hcx=>aa.move rfl rfl) ?_;refine bM (fun hcx=>aa.an 2 rfl rfl Tryz.underlying29 rfl (by kernel_rfl)) ?_;refine ah.next rfl rfl rfl rfl rfl rfl rfl (fun hcx=>aa.ag rfl rfl Tryz.underlying9 rfl k1 rfl) ?_;refine ah.bY rfl rfl rfl rfl rfl rfl rfl (fun hcx=>Ze Tryz.func62) (fun hcx=>h2 _) ?_;intro w3 hw3;replace ae:=ae.step hw3;replace k1:=k1.step hw3;refine ah.zo rfl rfl rfl rfl rfl rfl rfl rfl rfl rfl rfl ?_;refine ah.and rfl rfl rfl rfl rfl rfl rfl ?_;refine Zm ?_;refine ah.start ?_;refine bM (fun hcx=>aa.move rfl rfl) ?_;refine ah.next rfl rfl rfl rfl rfl rfl rfl (fun hcx=>aa.not rfl rfl) ?_;refine ah.next rfl rfl rfl rfl rfl rfl rfl (fun hcx=>aa.move rfl rfl) ?_;refine bM (fun hcx=>aa.an 3 rfl rfl Tryz.underlying29 rfl (by kernel_rfl)) ?_;refine ah.next rfl rfl rfl rfl rfl rfl rfl (fun hcx=>aa.ag rfl rfl Tryz.underlying9 rfl k1 rfl) ?_;refine ah.bY rfl rfl rfl rfl rfl rfl rfl (fun hcx=>Ze Tryz.func62) (fun hcx=>h3 _) ?_;intro w4 hw4;replace ae:=ae.step hw4;replace k1:=k1.step hw4;refine ah.next rfl rfl rfl rfl rfl rfl rfl (fun hcx=>aa.move rfl rfl) ?_;refine bM (fun hcx=>aa.an 2 rfl rfl Tryz.underlying29 rfl (by kernel_rfl)) ?_;refine ah.next rfl rfl rfl rfl rfl rfl rfl (fun hcx=>aa.ag rfl rfl Tryz.underlying9 rfl k1 rfl) ?_;refine ah.next rfl rfl rfl rfl rfl rfl rfl (fun hcx=>aa.an 3 rfl rfl Tryz.underlying29 rfl (by kernel_rfl)) ?_;refine ah.next rfl rfl rfl rfl rfl rfl rfl (fun hcx=>aa.ag rfl rfl Tryz.underlying9 rfl k1 rfl) ?_;refine ah.next rfl rfl rfl rfl rfl rfl rfl (fun hcx=>aa.fH (a:=e.a) (b:=e.b) rfl rfl rfl ha hb) ?_;refine ah.mX rfl rfl rfl rfl rfl rfl rfl rfl rfl rfl rfl ?_;refine ah.zo rfl rfl rfl rfl rfl rfl rfl rfl rfl rfl rfl ?_;refine ah.and rfl rfl rfl rfl rfl rfl rfl ?_;refine Za ?_;refine bj 0 1 2 3 4 5 (Zt (Cd.ret ?_));refine ab.aE rfl rfl (.inl rfl) ?_;exact⟨bw (aL (by simp)),ae⟩
def dc (s:List Nat):Bool:=decide ((cu s).2.2=0)&&decide (dn (cu s).1=s)
theorem nJ {l:List Nat}(h:(cu l).2.2=0):dF (cu l).1=true∧l.length≤4000:=by
 rcases yu l with ⟨t,h1,h2,h3⟩|⟨h1,-⟩|⟨h1,-⟩|⟨p,h1,-⟩
 ·rw[h1];exact⟨h2,h3⟩
 ·rw[h1] at h;cases h
 ·rw[h1] at h;cases h
 ·rw[h1] at h;cases h
theorem rn {l:List Nat}(h:(cu l).2.2≠0):(cu l).1=eT:=by
 unfold cu at h⊢;split
 ·rfl
 ·rename_i h0
  rw[if_neg h0] at h
  cases hq:fK (aR l).1 with
  |ok x q=>
   rw[hq] at h;dsimp only at h⊢;split
   ·rename_i hx
    rw[if_pos hx] at h;exact absurd rfl h
   ·rfl
  |bad p o=>rfl
  |out=>rfl
theorem js (w:World):(Instr.build 71 #[]).run Tryz.prog w= .ok (.agg #[.int .i64 0, .string (strOf []), .slice none 0 0, .slice none 0 0]) w:=by kernel_rfl
theorem vC (s:List Nat)(w:World)(hs:∀x∈s,x<256)(hlen:s.length≤9223372036854775807):
  Calls Tryz.prog 36 #[.string (strOf s)] w fun en w'=>Below w.heap.size w w'∧∃(v:Value) (S:Nat→Prop),en= .returned (.tuple #[v, .bool (dc s)])∧dm w' S (cu s).1 v∧∀b,S b→w.heap.size≤b∧b<w'.heap.size:=by
 have ae:=Below.refl w.heap.size w;have hps:=fun W=>xH s W hs hlen;have hok:= @nJ s;have hno:= @rn s;unfold dc;obtain⟨t,q,z,hP⟩:∃t q z,cu s=(t,q,z):=⟨_,_,_,rfl⟩;rw[hP] at hok hno⊢;simp only[hP] at hps;dsimp only at hok hno⊢;refine Zs 30 Tryz.func36 ?_;refine ao ?_;refine Zl aI ?_;intro g2 w1 n2;have e2:=Nat.le_trans ae.size n2.ge;replace ae:=ae.step n2.below;have k2:=n2.av;refine Za ?_;refine bD 0 2 3 (aG ?_);refine Zm ?_;have q1:=ae.size;have q2:=k2.lt;refine Zc (Ze Tryz.func81) (hps _) ?_;rintro en w5 ⟨hb5,v,S,rfl,hrep,hS⟩;obtain⟨A1,c1,A2,c2,hvX⟩:=hrep.form;subst hvX;refine⟨_,rfl,?_⟩;replace ae:=ae.step hb5;replace k2:=k2.step hb5;have rs:CG _ w5.heap.size S t (.agg #[.int .i64 t.op, .string (strOf t.name), .slice A1 t.exprs.length c1, .slice A2 t.aH.length c2]) w5:=⟨hrep,hS,Nat.le_refl _⟩;refine Zm ?_;refine Zv (aa.extract rfl rfl rfl) ?_;refine Zv (aa.extract rfl rfl rfl) ?_;refine Zv (aa.extract rfl rfl rfl) ?_;refine Zl aI ?_;intro g4 w2 n4;have q4:=n4.ge;have e4:=Nat.le_trans ae.size n4.ge;have l4:=Nat.lt_of_lt_of_le k2.lt n4.ge;replace ae:=ae.step n4.below;replace k2:=k2.step n4.below;replace rs:=rs.step n4.below;have k4:=n4.av;refine Zo 4 k4 ?_;intro w3 pw3;replace ae:=ae.put k4 pw3 e4;replace k2:=k2.put pw3 (by omega);replace rs:=rs.put k4 pw3 e4;replace k4:=pw3.av;refine Za ?_;refine Za ?_;refine aU 0 2 3 4 6 (aJ (ao ?_));have k4:aK _ g4 71 #[.int .i64 t.op, .string (strOf t.name), .slice A1 t.exprs.length c1, .slice A2 t.aH.length c2]:=k4;refine Zm ?_;refine Zv (aa.bN rfl rfl rfl) ?_;refine bj 0 2 3 4 6 15 (Zt ?_);refine Cd.au rfl (fun hz=> ?_) (fun hz=> ?_)
 ·skip
  refine ao ?_;refine Zv (aa.build rfl rfl (js _)) ?_;refine Zo 4 k2 ?_;intro w4 pw4;replace ae:=ae.put k2 pw4 e2;replace rs:=rs.put k2 pw4 e2;replace k4:=k4.put pw4 (by omega);replace k2:=pw4.av;refine Za ?_;refine bj 0 2 3 4 6 15 (Zt (Cd.ret (ab.af ?_)));refine ab.jh rfl rfl rfl k2 Tryz.underlying71 rfl (m:=4) (by kernel_rfl) rfl (.inl rfl) ?_;obtain rfl:=hno hz;exact⟨ae,_,fun _=>False,wu rfl (aL (by rw[decide_eq_false hz];rfl)),dm.zero _ _,fun b hb=>hb.elim⟩
 have hz:z=0:=Decidable.not_not.1 hz;obtain⟨hrt,h4⟩:=hok hz;obtain⟨hn2,hd2,hbt⟩:=gw hrt;have hpt:=fun W (hr:fZ W W.heap.size t (.agg #[.int .i64 t.op, .string (strOf t.name), .slice A1 t.exprs.length c1, .slice A2 t.aH.length c2]))=>qz t _ W (by omega) hr;have hbd:=(ji t.nodes t (Nat.le_refl _) hbt).2;have e1:og t=dn t:=by unfold og;rw[if_pos hrt]
 rw[hrt,e1] at hpt
 have hor:(jw true (dn t)=([],4)∧dn t≠s)∨jw true (dn t)=(dn t,0):=by
  unfold jw;rw[if_neg (by decide)];split
  ·rename_i hl4
   exact .inl ⟨rfl,fun h=>by rw[h] at hl4;omega⟩
  ·exact .inr rfl
 obtain⟨⟨s1,n1⟩,hs1⟩:∃z,jw true (dn t)=z:=⟨_,rfl⟩;rw[hs1] at hor hpt
 have hs256:∀x∈s1,x<256:=by
  rcases hor with ⟨h,-⟩|h
  ·injection h with h _;rw[h];simp
  ·injection h with h _;rw[h];exact hbd
 have hfin:(decide (n1=0)&&decide (s1=s))=(decide (z=0)&&decide (dn t=s)):=by
  rcases hor with ⟨h,h2⟩|h
  ·injection h with h h3
   rw[h3,decide_eq_false h2];simp
  ·injection h with h h3
   rw[h,h3,decide_eq_true hz];rfl
 refine Cd.skip (aG ?_);refine Zv (aa.aQ rfl rfl Tryz.underlying71 rfl k4 (m:=4) (by kernel_rfl) rfl) ?_;refine Zc (Ze Tryz.func82) (hpt _ (rs.rep.mono (fun b hb=>Nat.lt_of_lt_of_le (rs.bd b hb).2 rs.eH) (fun _ _=>rfl))) ?_;rintro en w6 ⟨rfl,hb6⟩;refine⟨_,rfl,?_⟩;replace ae:=ae.step hb6;replace k2:=k2.step hb6;replace rs:=rs.step hb6;replace k4:=k4.step hb6;refine Zm ?_;refine Zv (aa.extract rfl rfl rfl) ?_;refine Zv (aa.extract rfl rfl rfl) ?_;refine Za ?_;refine Za ?_;refine bb 0 2 3 4 6 7 15 (aG ?_);refine Zv (aa.aQ rfl rfl Tryz.underlying71 rfl k4 (m:=4) (by kernel_rfl) rfl) ?_;refine Zm ?_;refine Zv (aa.aB rfl rfl rfl) ?_;refine Zm ?_;refine ah.start ?_;refine bM (fun hcx=>aa.move rfl rfl) ?_;refine ah.next rfl rfl rfl rfl rfl rfl rfl (fun hcx=>aa.move rfl rfl) ?_;refine ah.next rfl rfl rfl rfl rfl rfl rfl (fun hcx=>aa.cF (a:=s1) (b:=s) rfl rfl rfl hs256 hs) ?_;refine ah.and rfl rfl rfl rfl rfl rfl rfl ?_;refine Zo 4 k2 ?_;intro w4 pw4;replace ae:=ae.put k2 pw4 e2;replace rs:=rs.put k2 pw4 e2;replace k4:=k4.put pw4 (by omega);replace k2:=pw4.av;refine Za ?_;refine bb 0 2 3 4 6 7 15 (Zt (Cd.ret ?_));refine ab.jh rfl rfl rfl k2 Tryz.underlying71 rfl (m:=4) (by kernel_rfl) rfl (.inl rfl) ?_;rw[←hfin];exact⟨ae,_,S,rfl,rs.rep,fun b hb=>⟨by have:=(rs.bd b hb).1;omega,Nat.lt_of_lt_of_le (rs.bd b hb).2 rs.eH⟩⟩
theorem qJ (s:List Nat)(w:World)(hs:∀x∈s,x<256)(hlen:s.length≤9223372036854775807):
  Calls Tryz.prog 29 #[.string (strOf s)] w fun en w'=>Below w.heap.size w w'∧∃(v:Value) (S:Nat→Prop),en= .returned (.tuple #[v, .bool (dc s)])∧dm w' S (if dc s=true then(cu s).1 else eT) v∧∀b,S b→w.heap.size≤b∧b<w'.heap.size:=by
 have ae:=Below.refl w.heap.size w
 have h4k:4000<s.length→dc s=false:=fun h=>by
  unfold dc;rw[decide_eq_false]
  ·rfl
  ·intro h0;have:=(nJ h0).2;omega
 have hps:=fun W h4=>r4 s W hs h4;have hok:= @nJ s;have hno:= @rn s;have hpb:dc s=(decide ((cu s).2.2=0)&&decide (dn (cu s).1=s)):=rfl;obtain⟨t,q,z,hP⟩:∃t q z,cu s=(t,q,z):=⟨_,_,_,rfl⟩;rw[hP] at hok hno hpb⊢;simp only[hP] at hps;dsimp only at hok hno hpb⊢;refine Zs 27 Tryz.func29 ?_;refine ao ?_;refine Zl aI ?_;intro g2 w1 n2;have e2:=Nat.le_trans ae.size n2.ge;replace ae:=ae.step n2.below;have k2:=n2.av;refine Za ?_;refine bD 0 2 3 (aJ (ao ?_));refine Zm ?_;refine Zv (aa.dh rfl rfl Tryz.underlying9) ?_;refine Zv (aa.gtr rfl rfl rfl) ?_;refine aV 0 2 3 9 (Zt ?_);refine Cd.au rfl (fun hc=> ?_) (fun hc=> ?_)
 ·skip
  refine ao ?_;refine Zv (aa.build rfl rfl (js _)) ?_;refine Zo 4 k2 ?_;intro w2 pw2;replace ae:=ae.put k2 pw2 e2;replace k2:=pw2.av;refine Za ?_;refine aV 0 2 3 9 (Zt (Cd.ret (ab.af ?_)));refine ab.jh rfl rfl rfl k2 Tryz.underlying71 rfl (m:=4) (by kernel_rfl) rfl (.inl rfl) ?_;have hf:=h4k (by omega);exact⟨ae,_,fun _=>False,wu rfl (aL hf.symm),by rw[hf];exact dm.zero _ _,fun b hb=>hb.elim⟩
 refine Cd.skip (aG ?_);refine Zm ?_;have q1:=ae.size;have q2:=k2.lt;refine Zc (Ze Tryz.func78) (hps _ (by omega)) ?_;rintro en w5 ⟨hb5,v,S,rfl,hrep,hS⟩;obtain⟨A1,c1,A2,c2,hvX⟩:=hrep.form;subst hvX;refine⟨_,rfl,?_⟩;replace ae:=ae.step hb5;replace k2:=k2.step hb5;have rs:CG _ w5.heap.size S t (.agg #[.int .i64 t.op, .string (strOf t.name), .slice A1 t.exprs.length c1, .slice A2 t.aH.length c2]) w5:=⟨hrep,hS,Nat.le_refl _⟩;refine Zm ?_;refine Zv (aa.extract rfl rfl rfl) ?_;refine Zv (aa.extract rfl rfl rfl) ?_;refine Zv (aa.extract rfl rfl rfl) ?_;refine Zl aI ?_;intro g4 w2 n4;have q4:=n4.ge;have e4:=Nat.le_trans ae.size n4.ge;have l4:=Nat.lt_of_lt_of_le k2.lt n4.ge;replace ae:=ae.step n4.below;replace k2:=k2.step n4.below;replace rs:=rs.step n4.below;have k4:=n4.av;refine Zo 4 k4 ?_;intro w3 pw3;replace ae:=ae.put k4 pw3 e4;replace k2:=k2.put pw3 (by omega);replace rs:=rs.put k4 pw3 e4;replace k4:=pw3.av;refine Za ?_;refine Za ?_;refine bj 0 2 3 4 6 9 (aJ (ao ?_));have k4:aK _ g4 71 #[.int .i64 t.op, .string (strOf t.name), .slice A1 t.exprs.length c1, .slice A2 t.aH.length c2]:=k4
 have hpt:=fun W (hz:z=0) (hr:fZ W W.heap.size t (.agg #[.int .i64 t.op, .string (strOf t.name), .slice A1 t.exprs.length c1, .slice A2 t.aH.length c2]))=>by
  obtain⟨hn2,hd2,hbt⟩:=gw (hok hz).1;exact um t.nodes t _ _ W (Nat.le_refl _) hn2 hbt hr (Nat.le_refl _)
 have hbd:z=0→∀x∈dn t,x<256:=fun hz=>by
  obtain⟨hn2,hd2,hbt⟩:=gw (hok hz).1;exact(ji t.nodes t (Nat.le_refl _) hbt).2
 refine Zm ?_;refine Zv (aa.bN rfl rfl rfl) ?_;refine Zm ?_;refine ah.start ?_;refine bM (fun hcx=>aa.aQ rfl rfl Tryz.underlying71 rfl k4 (m:=4) (by kernel_rfl) rfl) ?_;refine ah.bY rfl rfl rfl rfl rfl rfl rfl (fun hcx=>Ze Tryz.func65) (fun hcx=>hpt _ (by simpa[cG] using hcx) (rs.rep.mono (fun b hb=>Nat.lt_of_lt_of_le (rs.bd b hb).2 rs.eH) (fun _ _=>rfl))) ?_;intro w4 hw4;replace ae:=ae.step hw4;replace k2:=k2.step hw4;replace rs:=rs.step hw4;replace k4:=k4.step hw4;refine ah.next rfl rfl rfl rfl rfl rfl rfl (fun hcx=>aa.move rfl rfl) ?_;refine ah.next rfl rfl rfl rfl rfl rfl rfl (fun hcx=>aa.fH (a:=dn t) (b:=s) rfl rfl rfl (hbd (by simpa[cG] using hcx)) hs) ?_;refine ah.or rfl rfl rfl rfl rfl rfl rfl ?_;refine bb 0 2 3 4 6 9 24 (Zt ?_);refine Cd.cond rfl (fun hc=> ?_) (fun hc=> ?_)
 ·skip
  refine ao ?_;refine Zv (aa.build rfl rfl (js _)) ?_;refine Zo 4 k2 ?_;intro w5 pw5;replace ae:=ae.put k2 pw5 e2;replace rs:=rs.put k2 pw5 e2;replace k4:=k4.put pw5 (by omega);replace k2:=pw5.av;refine Za ?_;refine bb 0 2 3 4 6 9 24 (Zt (Cd.ret (ab.af ?_)));refine ab.jh rfl rfl rfl k2 Tryz.underlying71 rfl (m:=4) (by kernel_rfl) rfl (.inl rfl) ?_
  have hf:dc s=false:=by
   rw[hpb]
   by_cases hz:z=0
   ·simp[hz] at hc
    simp[hc]
   ·rw[decide_eq_false hz];rfl
  exact⟨ae,_,fun _=>False,wu rfl (aL hf.symm),by rw[hf];exact dm.zero _ _,fun b hb=>hb.elim⟩
 ·skip
  refine Cd.skip (aG ?_);refine Zv (aa.aQ rfl rfl Tryz.underlying71 rfl k4 (m:=4) (by kernel_rfl) rfl) ?_;refine Zo 4 k2 ?_;intro w5 pw5;replace ae:=ae.put k2 pw5 e2;replace rs:=rs.put k2 pw5 e2;replace k4:=k4.put pw5 (by omega);replace k2:=pw5.av;refine Za ?_;refine bb 0 2 3 4 6 9 24 (Zt (Cd.ret ?_));refine ab.jh rfl rfl rfl k2 Tryz.underlying71 rfl (m:=4) (by kernel_rfl) rfl (.inl rfl) ?_
  have hf:dc s=true:=by
   rw[hpb];simp at hc;simp[hc.1,hc.2]
  exact⟨ae,_,S,wu rfl (aL hf.symm),by rw[hf];exact rs.rep,fun b hb=>⟨by have:=(rs.bd b hb).1;omega,Nat.lt_of_lt_of_le (rs.bd b hb).2 rs.eH⟩⟩
theorem AZ (l:List Nat)(c:Nat)(w:World)(hl:∀x∈l,x<256)(h1:l.length≤1000)(hc:c<256):Calls Tryz.prog 27 #[.string (strOf l), .int .u8 (c:Int)] w fun en w'=>en= .returned (.bool (decide (c∈l)))∧Grow w w':=by
 have ae:=Below.refl w.heap.size w;refine Zs 17 Tryz.func27 ?_;refine ao ?_;refine Za ?_;refine bD 0 1 4 (aJ (ao ?_));refine Za ?_;refine aV 0 1 4 5 (Zt (Cd.block ?_));refine Cd.loop (σ:=Nat) (fun i=>[(0, .string (strOf l)),(1, .int .u8 (c:Int)),(5, .int .i64 (i:Int))]) (fun i wr=>i≤l.length∧Below w.heap.size w wr∧∀j,j<i→l[j]? ≠some c) (fun i=>l.length-i) 0 ⟨Nat.zero_le _,ae,fun j h=>by omega⟩ ⟨rfl,rfl,rfl,trivial⟩ ?_;clear ae;rintro i wr ⟨hi,ae,hno⟩;refine Cd.seq (ao ?_);refine Zm ?_;refine Zm ?_;refine Zv (aa.dh rfl rfl Tryz.underlying9) ?_;refine Zv (aa.lss rfl rfl rfl) ?_;refine aV 0 1 5 9 (Zt ?_);refine Cd.au rfl (fun hc=> ?_) (fun hc=> ?_)
 ·obtain⟨d,hd⟩:∃d,l[i]? =some d:=⟨_,List.getElem?_eq_getElem (by omega)⟩
  have hd2:=hl d (List.mem_of_getElem? hd);refine Cd.skip (aJ (Cd.block (ao ?_)));refine Zm ?_;refine Zm ?_;refine Zv (aa.cQ (l:=l) (j:=i) rfl rfl rfl Tryz.underlying9 rfl hd hd2) ?_;refine Zm ?_;refine Zv (aa.aB rfl rfl rfl) ?_;refine aU 0 1 5 9 16 (Zt ?_);refine Cd.au rfl (fun hc=> ?_) (fun hc=> ?_)
  ·skip
   refine ao ?_;refine Za ?_;refine bj 0 1 4 5 9 16 (Zt (Cd.ret (ab.ak (ab.af (ab.bF (ab.ak (ab.af ?_)))))));refine ab.aE rfl rfl (.inl rfl) ?_;obtain rfl:d=c:=by omega
   exact⟨bw (aL (decide_eq_true (List.mem_of_getElem? hd)).symm),ae⟩
  ·skip
   refine Cd.skip (ab.aj (ei ?_));refine Zm ?_;refine cH ?_;refine Za ?_;refine aU 0 1 5 9 16 ?_;refine ab.round (i+1) ⟨rfl,rfl,rfl,trivial⟩ ⟨by omega,ae,fun j hj=> ?_⟩ (by omega);rcases Nat.lt_or_ge j i with h|h
   ·exact hno j h
   ·obtain rfl:j=i:=by omega
    rw[hd];intro h;injection h with h
    omega
 ·obtain rfl:i=l.length:=by omega
  refine Cd.exit (ab.aD (ab.aA (ab.az (aG ?_))));refine Za ?_;refine aU 0 1 4 5 9 (Zt (Cd.ret ?_));refine ab.aE rfl rfl (.inl rfl) ?_;refine⟨bw (aL (decide_eq_false fun h=> ?_).symm),ae⟩;obtain⟨j,hj,hjc⟩:=List.getElem_of_mem h;exact hno j hj (by rw[List.getElem?_eq_getElem hj,hjc])
def nX (k:Int):Ev:=⟨k,[],[],[],[],0,0,0,0⟩
theorem mP (a:Int)(w:World):(Instr.build 29 #[(0, .int .i64 a)]).run Tryz.prog w= .ok (nX a).v w:=by kernel_rfl
theorem vg {e:Ev}(h:e.uC):(iT e).uC:=by
 have hn:∀x∈([]:List Nat),x<256:=fun x h=>by cases h
 have h0:bt 0:=by unfold bt;omega
 have hl:([]:List Nat).length≤9223372036854775807:=Nat.zero_le _;obtain⟨a1,a2,a3,a4,a5,a6,a7,a8,a9,b1,b2,b3,b4⟩:=h;unfold iT
 repeat' split
 all_goals constructor<;>first|assumption
theorem zg {k:Int}(h:bt k):(nX k).uC:=by
 have h0:bt 0:=by unfold bt;omega
 have hn:∀x∈([]:List Nat),x<256:=fun x h=>by cases h
 exact⟨h,hn,hn,hn,hn,h0,h0,h0,h0,Nat.zero_le _,Nat.zero_le _,Nat.zero_le _,Nat.zero_le _⟩
def dP (e:Ev):Bool:=(decide (1≤e.kind)&&decide (e.kind≤7))&&decide (iT e=nX e.kind)&&nb e&&(decide (e.kind≠1)||dc e.text)&&(decide (0≤e.day)&&decide (e.day≤2932896))&&(decide (0≤e.at_)&&decide (e.at_<200)&&(decide (e.ep=0)||decide (e.ep=1)))
set_option maxHeartbeats 1000000 in
theorem mj (e:Ev)(he:e.uC)(w:World):Calls Tryz.prog 13 #[e.v] w fun en w'=>en= .returned (.bool (dP e))∧Grow w w':=by
 have ae:=Below.refl w.heap.size w;have hneq:=fun W=>vu (iT e) (nX e.kind) W;rw[Cu (vg he) (zg he.kind)] at hneq;have hbl:=fun W=>zT e W;have hnm:=fun W=>zr e he W;have hpr:=fun W=>vC e.text W he.text he.Bj;have hday:=fun W=>DF e.day W;unfold Ev.v at hbl hnm⊢;have hF:∀ {b:Bool},b=false→∀c d,(b&&c&&d)=false:=fun h c d=>by rw[h];rfl
 refine Zs 60 Tryz.func13 ?_;refine ao ?_;refine Seq.box rfl rfl rfl rfl rfl ?_;intro g1 w1 n1;have e1:=Nat.le_trans ae.size n1.ge;replace ae:=ae.step n1.below;have k1:=n1.av;refine Za ?_;refine bD 0 1 2 (aJ (Cd.seq ?_))
 by_cases c1:e.kind<1
 ·skip
  refine Cd.draw 21 (by kernel_rfl) [] (.inl rfl) rfl Grow Grow.refl (fun _ _ _=>Grow.trans) ?_;intro w2 hw2 zw2;replace ae:=ae.step hw2;replace k1:=k1.step hw2;have zbel:=ae.size;have zlt:=k1.lt;refine Zd (fun w hG=>aa.an 0 rfl rfl Tryz.underlying29 rfl (by kernel_rfl)) ?_;refine Zd (fun w hG=>aa.ag rfl rfl Tryz.underlying3 rfl (k1.step hG) rfl) ?_;refine Zd (fun w hG=>(aa.lss rfl rfl rfl).kE (by omega)) ?_;refine cn ?_;refine df ?_;refine df ?_;refine df ?_;refine Zd (fun w hG=>aa.cK rfl rfl rfl) ?_;refine cn ?_;refine df ?_;refine df ?_;refine df ?_;refine df ?_;refine df ?_;refine df ?_;refine Zd (fun w hG=>aa.cK rfl rfl rfl) ?_;refine cn ?_;refine df ?_;refine df ?_;refine df ?_;refine Zd (fun w hG=>aa.cK rfl rfl rfl) ?_;refine Dr.nil ?_;refine ba.done (F':=[(0,_),(1,_),(2,_),(25,_)]) rfl ⟨rfl,rfl,rfl,rfl,trivial⟩ ?_;intro w3 hw3 fw3;replace ae:=ae.step hw3;replace k1:=k1.step hw3;refine aV 0 1 2 25 (Zt ?_);refine Cd.aX rfl rfl ?_;refine ao ?_;refine Za ?_;refine aV 0 1 2 25 (Zt (Cd.ret (ab.af ?_)));refine ab.aE rfl rfl (.inl rfl) ?_;exact⟨bw (aL (by unfold dP;rw[decide_eq_false (by omega)];rfl)),ae⟩
 by_cases c2:7<e.kind
 ·skip
  refine Cd.draw 21 (by kernel_rfl) [] (.inl rfl) rfl Grow Grow.refl (fun _ _ _=>Grow.trans) ?_;intro w2 hw2 zw2;replace ae:=ae.step hw2;replace k1:=k1.step hw2;have zbel:=ae.size;have zlt:=k1.lt;refine Zd (fun w hG=>aa.an 0 rfl rfl Tryz.underlying29 rfl (by kernel_rfl)) ?_;refine Zd (fun w hG=>aa.ag rfl rfl Tryz.underlying3 rfl (k1.step hG) rfl) ?_;refine Zd (fun w hG=>(aa.lss rfl rfl rfl).gN (by omega)) ?_;refine cn ?_;refine ck (fun w hG=>aa.an 0 rfl rfl Tryz.underlying29 rfl (by kernel_rfl)) ?_;refine ck (fun w hG=>aa.ag rfl rfl Tryz.underlying3 rfl (k1.step hG) rfl) ?_;refine ck (fun w hG=>(aa.gtr rfl rfl rfl).kE (by omega)) ?_;refine Zd (fun w hG=>aa.bp rfl rfl rfl) ?_;refine cn ?_;refine df ?_;refine df ?_;refine df ?_;refine df ?_;refine df ?_;refine df ?_;refine Zd (fun w hG=>aa.cK rfl rfl rfl) ?_;refine cn ?_;refine df ?_;refine df ?_;refine df ?_;refine Zd (fun w hG=>aa.cK rfl rfl rfl) ?_;refine Dr.nil ?_;refine ba.done (F':=[(0,_),(1,_),(2,_),(25,_)]) rfl ⟨rfl,rfl,rfl,rfl,trivial⟩ ?_;intro w3 hw3 fw3;replace ae:=ae.step hw3;replace k1:=k1.step hw3;refine aV 0 1 2 25 (Zt ?_);refine Cd.aX rfl rfl ?_;refine ao ?_;refine Za ?_;refine aV 0 1 2 25 (Zt (Cd.ret (ab.af ?_)));refine ab.aE rfl rfl (.inl rfl) ?_;exact⟨bw (aL (by unfold dP;rw[decide_eq_false (show¬e.kind≤7 by omega),Bool.and_false];rfl)),ae⟩
 have hk:decide (1≤e.kind)=true∧decide (e.kind≤7)=true:=⟨decide_eq_true (by omega),decide_eq_true (by omega)⟩
 by_cases c3:iT e=nX e.kind
 ·have hne:(!decide (iT e=nX e.kind))=false:=by rw[decide_eq_true c3];rfl
  rw[hne] at hneq;refine Cd.draw 21 (by kernel_rfl) [] (.inl rfl) rfl Grow Grow.refl (fun _ _ _=>Grow.trans) ?_;intro w2 hw2 zw2;replace ae:=ae.step hw2;replace k1:=k1.step hw2;have zbel:=ae.size;have zlt:=k1.lt;refine Zd (fun w hG=>aa.an 0 rfl rfl Tryz.underlying29 rfl (by kernel_rfl)) ?_;refine Zd (fun w hG=>aa.ag rfl rfl Tryz.underlying3 rfl (k1.step hG) rfl) ?_;refine Zd (fun w hG=>(aa.lss rfl rfl rfl).gN (by omega)) ?_;refine cn ?_;refine ck (fun w hG=>aa.an 0 rfl rfl Tryz.underlying29 rfl (by kernel_rfl)) ?_;refine ck (fun w hG=>aa.ag rfl rfl Tryz.underlying3 rfl (k1.step hG) rfl) ?_;refine ck (fun w hG=>(aa.gtr rfl rfl rfl).gN (by omega)) ?_;refine Zd (fun w hG=>aa.bp rfl rfl rfl) ?_;refine cn ?_;refine ck (fun w hG=>aa.aQ rfl rfl Tryz.underlying29 rfl (k1.step hG) (m:=9) (by kernel_rfl) rfl) ?_;refine Dr.gG rfl (fun w=>Ze Tryz.func34) rfl rfl rfl (fun w hG=>hbl w) ?_;refine ck (fun w hG=>aa.an 0 rfl rfl Tryz.underlying29 rfl (by kernel_rfl)) ?_;refine ck (fun w hG=>aa.ag rfl rfl Tryz.underlying3 rfl (k1.step hG) rfl) ?_;refine ck (fun w hG=>aa.build rfl rfl (mP _ w)) ?_;refine ck (fun w hG=>aa.bin rfl rfl rfl (tN _ _ _ _ _ w) (hneq w)) ?_;refine Zd (fun w hG=>aa.bp rfl rfl rfl) ?_;refine cn ?_;refine ck (fun w hG=>aa.aQ rfl rfl Tryz.underlying29 rfl (k1.step hG) (m:=9) (by kernel_rfl) rfl) ?_;refine Dr.gG rfl (fun w=>Ze Tryz.func35) rfl rfl rfl (fun w hG=>hnm w) ?_;refine ck (fun w hG=>aa.not rfl rfl) ?_;refine Zd (fun w hG=>aa.bp rfl rfl rfl) ?_;refine Dr.nil ?_;refine ba.done (F':=[(0,_),(1,_),(2,_),(25,_)]) rfl ⟨rfl,rfl,rfl,rfl,trivial⟩ ?_;intro w3 hw3 fw3;replace ae:=ae.step hw3;replace k1:=k1.step hw3;refine aV 0 1 2 25 (Zt ?_);refine Cd.cond rfl (fun h4=> ?_) (fun h4=> ?_)
  ·skip
   refine ao ?_;refine Za ?_;refine aV 0 1 2 25 (Zt (Cd.ret (ab.af ?_)));refine ab.aE rfl rfl (.inl rfl) ?_;have h4:nb e=false:=by simpa using h4
   exact⟨bw (aL (by unfold dP;rw[h4];simp)),ae⟩
  have h4:nb e=true:=by simpa using h4
  refine Cd.skip (aJ (ao ?_));refine Zf 0 Tryz.underlying29 ?_;refine Zv (aa.ag rfl rfl Tryz.underlying3 rfl k1 rfl) ?_;refine Zv (aa.aB rfl rfl rfl) ?_;refine aU 0 1 2 25 28 (Zt ?_);refine Cd.au rfl (fun h5=> ?_) (fun h5=> ?_)
  ·skip
   refine ao ?_;refine Zf 4 Tryz.underlying29 ?_;refine Zv (aa.ag rfl rfl Tryz.underlying9 rfl k1 rfl) ?_;refine Zc (Ze Tryz.func36) (hpr _) ?_;rintro en w8 ⟨hb8,v,S,rfl,hrep,hS⟩;obtain⟨A1,d1,A2,d2,hvX⟩:=hrep.form;subst hvX;refine⟨_,rfl,?_⟩;replace ae:=ae.step hb8;replace k1:=k1.step hb8;refine Zm ?_;refine Zv (aa.extract rfl rfl rfl) ?_;refine Zv (aa.extract rfl rfl rfl) ?_;refine Zl aI ?_;intro g3 w4 n3;have e3:=Nat.le_trans ae.size n3.ge;have l3:=Nat.lt_of_lt_of_le k1.lt n3.ge;replace ae:=ae.step n3.below;replace k1:=k1.step n3.below;have k3:=n3.av;refine Zo 4 k3 ?_;intro w5 pw5;replace ae:=ae.put k3 pw5 e3;replace k1:=k1.put pw5 (by omega);replace k3:=pw5.av;refine Za ?_;refine bj 0 1 2 4 25 28 (aG ?_);refine Zm ?_;refine Zv (aa.not rfl rfl) ?_;refine bb 0 1 2 4 25 28 36 (Zt ?_);refine Cd.cond rfl (fun h6=> ?_) (fun h6=> ?_)
   ·skip
    refine ao ?_;refine Za ?_;refine bb 0 1 2 4 25 28 36 (Zt (Cd.ret (ab.af ?_)));refine ab.aE rfl rfl (.inl rfl) ?_;have h6:dc e.text=false:=by simpa using h6
    exact⟨bw (aL (by unfold dP;rw[h6,decide_eq_false (show¬e.kind≠1 from fun h=>h h5)];simp)),ae⟩
   have h6:dc e.text=true:=by simpa using h6
   refine Cd.skip (aG ?_);refine Zf 5 Tryz.underlying29 ?_;refine Zv (aa.ag rfl rfl Tryz.underlying3 rfl k1 rfl) ?_;refine Zc (Ze Tryz.func37) (hday _) ?_;rintro en w9 ⟨rfl,hb9⟩;refine⟨_,rfl,?_⟩;replace ae:=ae.step hb9;replace k1:=k1.step hb9;replace k3:=k3.step hb9;refine Zm ?_;refine ah.start ?_;refine bM (fun hcx=>aa.an 6 rfl rfl Tryz.underlying29 rfl (by kernel_rfl)) ?_;refine ah.next rfl rfl rfl rfl rfl rfl rfl (fun hcx=>aa.ag rfl rfl Tryz.underlying3 rfl k1 rfl) ?_;refine ah.next rfl rfl rfl rfl rfl rfl rfl (fun hcx=>aa.geq rfl rfl rfl) ?_;refine ah.and rfl rfl rfl rfl rfl rfl rfl ?_;refine Zm ?_;refine ah.start ?_;refine bM (fun hcx=>aa.an 6 rfl rfl Tryz.underlying29 rfl (by kernel_rfl)) ?_;refine ah.next rfl rfl rfl rfl rfl rfl rfl (fun hcx=>aa.ag rfl rfl Tryz.underlying3 rfl k1 rfl) ?_;refine ah.next rfl rfl rfl rfl rfl rfl rfl (fun hcx=>aa.lss rfl rfl rfl) ?_;refine ah.and rfl rfl rfl rfl rfl rfl rfl ?_;refine Zm ?_;refine ah.start ?_;refine bM (fun hcx=>aa.an 7 rfl rfl Tryz.underlying29 rfl (by kernel_rfl)) ?_;refine ah.next rfl rfl rfl rfl rfl rfl rfl (fun hcx=>aa.ag rfl rfl Tryz.underlying3 rfl k1 rfl) ?_;refine ah.next rfl rfl rfl rfl rfl rfl rfl (fun hcx=>aa.aB rfl rfl rfl) ?_;refine ah.next rfl rfl rfl rfl rfl rfl rfl (fun hcx=>aa.move rfl rfl) ?_;refine bM (fun hcx=>aa.an 7 rfl rfl Tryz.underlying29 rfl (by kernel_rfl)) ?_;refine ah.next rfl rfl rfl rfl rfl rfl rfl (fun hcx=>aa.ag rfl rfl Tryz.underlying3 rfl k1 rfl) ?_;refine ah.next rfl rfl rfl rfl rfl rfl rfl (fun hcx=>aa.aB rfl rfl rfl) ?_;refine ah.zo rfl rfl rfl rfl rfl rfl rfl rfl rfl rfl rfl ?_;refine ah.and rfl rfl rfl rfl rfl rfl rfl ?_;refine Za ?_;refine bb 0 1 2 4 25 28 36 (Zt (Cd.ret ?_));refine ab.aE rfl rfl (.inl rfl) ?_;refine⟨bw (aL ?_),ae⟩;unfold dP;rw[hk.1,hk.2,decide_eq_true c3,h4,h6,Bool.or_true];simp[Bool.and_assoc]
  ·skip
   refine Cd.skip (aG ?_);refine Zf 5 Tryz.underlying29 ?_;refine Zv (aa.ag rfl rfl Tryz.underlying3 rfl k1 rfl) ?_;refine Zc (Ze Tryz.func37) (hday _) ?_;rintro en w9 ⟨rfl,hb9⟩;refine⟨_,rfl,?_⟩;replace ae:=ae.step hb9;replace k1:=k1.step hb9;refine Zm ?_;refine ah.start ?_;refine bM (fun hcx=>aa.an 6 rfl rfl Tryz.underlying29 rfl (by kernel_rfl)) ?_;refine ah.next rfl rfl rfl rfl rfl rfl rfl (fun hcx=>aa.ag rfl rfl Tryz.underlying3 rfl k1 rfl) ?_;refine ah.next rfl rfl rfl rfl rfl rfl rfl (fun hcx=>aa.geq rfl rfl rfl) ?_;refine ah.and rfl rfl rfl rfl rfl rfl rfl ?_;refine Zm ?_;refine ah.start ?_;refine bM (fun hcx=>aa.an 6 rfl rfl Tryz.underlying29 rfl (by kernel_rfl)) ?_;refine ah.next rfl rfl rfl rfl rfl rfl rfl (fun hcx=>aa.ag rfl rfl Tryz.underlying3 rfl k1 rfl) ?_;refine ah.next rfl rfl rfl rfl rfl rfl rfl (fun hcx=>aa.lss rfl rfl rfl) ?_;refine ah.and rfl rfl rfl rfl rfl rfl rfl ?_;refine Zm ?_;refine ah.start ?_;refine bM (fun hcx=>aa.an 7 rfl rfl Tryz.underlying29 rfl (by kernel_rfl)) ?_;refine ah.next rfl rfl rfl rfl rfl rfl rfl (fun hcx=>aa.ag rfl rfl Tryz.underlying3 rfl k1 rfl) ?_;refine ah.next rfl rfl rfl rfl rfl rfl rfl (fun hcx=>aa.aB rfl rfl rfl) ?_;refine ah.next rfl rfl rfl rfl rfl rfl rfl (fun hcx=>aa.move rfl rfl) ?_;refine bM (fun hcx=>aa.an 7 rfl rfl Tryz.underlying29 rfl (by kernel_rfl)) ?_;refine ah.next rfl rfl rfl rfl rfl rfl rfl (fun hcx=>aa.ag rfl rfl Tryz.underlying3 rfl k1 rfl) ?_;refine ah.next rfl rfl rfl rfl rfl rfl rfl (fun hcx=>aa.aB rfl rfl rfl) ?_;refine ah.zo rfl rfl rfl rfl rfl rfl rfl rfl rfl rfl rfl ?_;refine ah.and rfl rfl rfl rfl rfl rfl rfl ?_;refine Za ?_;refine aU 0 1 2 25 28 (Zt (Cd.ret ?_));refine ab.aE rfl rfl (.inl rfl) ?_;refine⟨bw (aL ?_),ae⟩;unfold dP;rw[hk.1,hk.2,decide_eq_true c3,h4,decide_eq_true h5,Bool.true_or];simp[Bool.and_assoc]
 ·have hne:(!decide (iT e=nX e.kind))=true:=by rw[decide_eq_false c3];rfl
  rw[hne] at hneq;refine Cd.draw 21 (by kernel_rfl) [] (.inl rfl) rfl Grow Grow.refl (fun _ _ _=>Grow.trans) ?_;intro w2 hw2 zw2;replace ae:=ae.step hw2;replace k1:=k1.step hw2;have zbel:=ae.size;have zlt:=k1.lt;refine Zd (fun w hG=>aa.an 0 rfl rfl Tryz.underlying29 rfl (by kernel_rfl)) ?_;refine Zd (fun w hG=>aa.ag rfl rfl Tryz.underlying3 rfl (k1.step hG) rfl) ?_;refine Zd (fun w hG=>(aa.lss rfl rfl rfl).gN (by omega)) ?_;refine cn ?_;refine ck (fun w hG=>aa.an 0 rfl rfl Tryz.underlying29 rfl (by kernel_rfl)) ?_;refine ck (fun w hG=>aa.ag rfl rfl Tryz.underlying3 rfl (k1.step hG) rfl) ?_;refine ck (fun w hG=>(aa.gtr rfl rfl rfl).gN (by omega)) ?_;refine Zd (fun w hG=>aa.bp rfl rfl rfl) ?_;refine cn ?_;refine ck (fun w hG=>aa.aQ rfl rfl Tryz.underlying29 rfl (k1.step hG) (m:=9) (by kernel_rfl) rfl) ?_;refine Dr.gG rfl (fun w=>Ze Tryz.func34) rfl rfl rfl (fun w hG=>hbl w) ?_;refine ck (fun w hG=>aa.an 0 rfl rfl Tryz.underlying29 rfl (by kernel_rfl)) ?_;refine ck (fun w hG=>aa.ag rfl rfl Tryz.underlying3 rfl (k1.step hG) rfl) ?_;refine ck (fun w hG=>aa.build rfl rfl (mP _ w)) ?_;refine ck (fun w hG=>aa.bin rfl rfl rfl (tN _ _ _ _ _ w) (hneq w)) ?_;refine Zd (fun w hG=>aa.bp rfl rfl rfl) ?_;refine cn ?_;refine df ?_;refine df ?_;refine df ?_;refine Zd (fun w hG=>aa.cK rfl rfl rfl) ?_;refine Dr.nil ?_;refine ba.done (F':=[(0,_),(1,_),(2,_),(25,_)]) rfl ⟨rfl,rfl,rfl,rfl,trivial⟩ ?_;intro w3 hw3 fw3;replace ae:=ae.step hw3;replace k1:=k1.step hw3;refine aV 0 1 2 25 (Zt ?_);refine Cd.aX rfl rfl ?_;refine ao ?_;refine Za ?_;refine aV 0 1 2 25 (Zt (Cd.ret (ab.af ?_)));refine ab.aE rfl rfl (.inl rfl) ?_;exact⟨bw (aL (by unfold dP;rw[decide_eq_false c3];simp)),ae⟩
def vw:Nat→List Nat
 |1=>[105,97,98,116,100]
 |2=>[100]
 |3=>[97,100,110]
 |4=>[105,97,119]
 |5=>[105,97,98]
 |6=>[105,97]
 |7=>[105]
 |_=>[]
def tZ (e:Ev)(s:List Nat):Bool:=
 !((decide (decide (105∈s)≠decide (e.id≠ []))||decide (decide (97∈s)≠decide (e.a≠ []))||decide (decide (98∈s)≠decide (e.b≠ []))||decide (decide (116∈s)≠decide (e.text≠ []))))&&
 (!((decide (105∈s)&& !db e.id)||(decide (97∈s)&& !db e.a)||(decide (98∈s)&&(!db e.b||decide (e.a=e.b))))&&
 (!(decide (116∈s)&& !dc e.text)&&
 (!((decide (e.day<0)||decide (2932896<e.day))||(!decide (100∈s)&&decide (e.day≠0))||(!decide (110∈s)&&decide (e.n≠0)))&&
 (if decide (119∈s)=true then decide (0≤e.at_)&&decide (e.at_≤199)&&(decide (e.ep=0)||decide (e.ep=1)) else decide (e.at_=0)&&decide (e.ep=0)))))
theorem oV {l:List Nat}(h:db l=true):l≠ []:=fun h0=>by rw[h0] at h;exact absurd h (by decide)
theorem uX {l:List Nat}(h:dc l=true):l≠ []:=fun h0=>by
 rw[h0] at h;exact absurd h (by decide+kernel)
theorem BZ (e:Ev){k:Nat}(hk:e.kind=(k:Int))(h1:1≤k)(h7:k≤7):tZ e (vw k)=dP e:=by
 have hid:=fun h=>oV (l:=e.id) h;have ha:=fun h=>oV (l:=e.a) h;have hb:=fun h=>oV (l:=e.b) h;have ht:=fun h=>uX (l:=e.text) h;obtain⟨kd,id,a,b,text,day,at_,ep,n⟩:=e;dsimp only at *;subst hk;have hk:k=1∨k=2∨k=3∨k=4∨k=5∨k=6∨k=7:=by omega
 rw[Bool.eq_iff_iff];rcases hk with rfl|rfl|rfl|rfl|rfl|rfl|rfl<;>simp[tZ,dP,iT,nX,nb,vw]<;>grind
end Go.Proofs.YtigoimhndlnhfaaGreat