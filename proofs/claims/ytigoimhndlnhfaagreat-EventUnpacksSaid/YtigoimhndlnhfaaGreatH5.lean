/-
  Texts that were joined: EvS, EvT, EvU, EvV, VodB, EvW, EvY, EwA, EwB, EwC, EwD, EwE, EwQ, EvF, EvG, EvH, EwT. Conditions: what each theorem names.
-/
import Derived.Test.YtigoimhndlnhfaaGreatH4
set_option linter.unusedSectionVars false
namespace Go.Proofs.YtigoimhndlnhfaaGreat
open Go.RowKit
theorem Pf.pf {B:Nat}{w w' w'':World}(h:Pf B w w')(k:Pf B w' w''):Pf B w w'':=h.trans k
theorem Pf.app {B B2 B' n2 size2:Nat}{w w' w'':World}{e2:TypeId}{v2:Value}{xs2:List Value}(h:Pf B w w')(_o:Own w' B2 e2 size2 v2 n2 xs2)(ha:App w' w'' B' v2)(hB:w.heap.size≤B'):Pf B w w'':=
 ⟨h.below.trans (ha.below.mono (by omega)),fun i t cs hb h1 h2=>(h.bL i t cs hb h1 h2).below ha.below (by have:=hb.lt;omega)⟩
theorem Pl.app {B B2 B' n2 size2 g:Nat}{L:List (List Nat)}{w w':World}{e2:TypeId}{v2:Value}{xs2:List Value}(h:Pl w B g L)(o:Own w B2 e2 size2 v2 n2 xs2)(ha:App w w' B' v2)(h1:e2≠111:=by decide)(h2:e2≠9:=by decide):Pl w' B g L:=by
 obtain⟨v,hb,ho⟩:=h.cell;exact⟨h.ge,h.zJ,v,hb.app o ha h1,ho.app o ha h2⟩
def yt:List (List Nat)→List Nat→List Ex→Option (List Nat × List (List Nat))
 |L,acc,[]=>some (acc,L)
 |L,acc,u::r=>if(fB u).2≠0 then none else yt (ju L (fB u).1) (acc++[L.idxOf (fB u).1]) r
def AQ (t:Tm):List Nat × Int:=dy (bK t) (iZ t)
def vX:List (List Nat)→List Pk→List Pt→Option (List Pk × List (List Nat))
 |L,acc,[]=>some (acc,L)
 |L,acc,p::r=>if(AQ p.term).2≠0 then none else match yt L [] p.fv with
  |none=>none
  |some x=>vX x.2 (acc++[⟨p.bc,p.bj,x.1,(AQ p.term).1⟩]) r
theorem oM {b:Bool}{T:List Nat}(h:b=true→∀d∈T,d<256):(∀d∈(dy b T).1,d<256)∧(dy b T).1.length≤4000:=by
 unfold dy
 cases b with
 |false=>exact⟨by simp,by simp⟩
 |true=>
  rw[if_neg (by decide)];split
  ·exact⟨by simp,by simp⟩
  ·exact⟨h rfl,by simp only;omega⟩
theorem pd (e:Ex):(∀d∈(fB e).1,d<256)∧(fB e).1.length≤4000:=oM fun h=>by
 unfold cz at h;simp only[Bool.and_eq_true] at h;exact(eo e.nodes e (Nat.le_refl _) h.2).2
theorem xr (t:Tm):(∀d∈(AQ t).1,d<256)∧(AQ t).1.length≤4000:=oM fun h=>by
 unfold iZ;rw[if_pos h];exact(iJ t.nodes t (Nat.le_refl _) (ew h).1).2
structure ka (w:World)(B H:Nat)(out:List Pk)(xs:List Value):Prop where
 hi:H≤w.heap.size
 el:∀i x,out[i]? =some x→∃u2 u3 u4 u5 u6 A' c,(∀(j:Nat) (u:Value),([.int .i64 x.bc, .bool x.bj,u2,u3,u4,u5,u6, .string (strOf x.text), .slice A' x.places.length c]:List Value)[j]? =some u→xs[i*9+j]? =some u)∧(u2.oneCell'=true∧u3.oneCell'=true∧u4.oneCell'=true∧u5.oneCell'=true∧u6.oneCell'=true)∧Own w B 3 1 (.slice A' x.places.length c) x.places.length (DJ x.places)∧∀ad,A'=some ad→ad.block<H
theorem ka.map {w w':World}{B H:Nat}{out:List Pk}{xs:List Value}(h:ka w B H out xs)(hs:w.heap.size≤w'.heap.size)(hk:∀A n c ys,Own w B 3 1 (.slice A n c) n ys→(∀ad,A=some ad→ad.block<H)→Own w' B 3 1 (.slice A n c) n ys):ka w' B H out xs:=
 ⟨Nat.le_trans h.hi hs,fun i x hx=>by
  obtain⟨u2,u3,u4,u5,u6,A',c,h1,h2,h3,h4⟩:=h.el i x hx;exact⟨u2,u3,u4,u5,u6,A',c,h1,h2,hk _ _ _ _ h3 h4,h4⟩⟩
theorem ka.step {w w':World}{B H:Nat}{out:List Pk}{xs:List Value}(h:ka w B H out xs)(hb:Below w.heap.size w w'):ka w' B H out xs:=h.map hb.size fun _ _ _ _ ho _=>ho.step hb
theorem ka.put {w w':World}{B B' H g:Nat}{T:TypeId}{cur cs:Array Value}{out:List Pk}{xs:List Value}(h:ka w B H out xs)(k:aE w g T cur)(p:gI w w' g T cs)(_e:B'≤g)(hne:3≠T:=by decide):ka w' B H out xs:=h.map (Nat.le_of_eq p.size.symm) fun _ _ _ _ ho _=>ho.put k p _e hne
theorem ka.pf {w w':World}{B B1 H:Nat}{out:List Pk}{xs:List Value}(h:ka w B H out xs)(f:Pf B1 w w'):ka w' B H out xs:=h.map f.below.size fun _ _ _ _ ho _=>ho.pf f
theorem ka.app {w w':World}{B B2 B' H n2 size2:Nat}{e2:TypeId}{v2:Value}{xs2:List Value}{out:List Pk}{xs:List Value}(h:ka w B H out xs)(o:Own w B2 e2 size2 v2 n2 xs2)(ha:App w w' B' v2)(hne:e2≠3:=by decide):ka w' B H out xs:=h.map ha.below.size fun _ _ _ _ ho _=>ho.app o ha hne
theorem ka.low {w w':World}{B H:Nat}{out:List Pk}{xs:List Value}(h:ka w B H out xs)(hb:Below H w w'):ka w' B H out xs:=h.map hb.size fun A n c ys ho hA=>by
 obtain⟨hl,h1|⟨g,cap,cur,e,hg,hc,h3⟩⟩:=ho.row
 ·exact⟨hl, .inl h1⟩
 ·injection e with e1 e2 e3
  have:=hA _ e1;exact⟨hl, .inr ⟨g,cap,cur,by rw[e1,e3],hg,(show aE w g _ cur from hc).below hb this,h3⟩⟩
structure jw (w:World)(B H:Nat)(e:TypeId)(size:Nat)(v:Value)(n:Nat)(xs:List Value):Prop where
 own:Own w B e size v n xs
 hi:H≤w.heap.size
 bd:∀ad m c,v= .slice (some ad) m c→ad.block<H
section
variable {w w':World} {B H size n:Nat} {e:TypeId} {v:Value} {xs:List Value}
theorem jw.step (h:jw w B H e size v n xs)(hb:Below w.heap.size w w'):jw w' B H e size v n xs:=⟨h.own.step hb,Nat.le_trans h.hi hb.size,h.bd⟩
theorem jw.put {g B':Nat}{T:TypeId}{cur cs:Array Value}(h:jw w B H e size v n xs)(k:aE w g T cur)(p:gI w w' g T cs)(_e:B'≤g)(hne:e≠T∨H≤g:=by first|exact .inl (by decide)|exact .inr (by omega)):jw w' B H e size v n xs:=by
 refine⟨?_,Nat.le_trans h.hi (Nat.le_of_eq p.size.symm),h.bd⟩;rcases hne with h1|h1
 ·exact h.own.put k p _e h1
 ·obtain⟨hl,h2|⟨g',cap,cur',e',hg,hc,h3⟩⟩:=h.own.row
  ·exact⟨hl, .inl h2⟩
  ·have:=h.bd _ _ _ e'
   exact⟨hl, .inr ⟨g',cap,cur',e',hg,(show aE w g' _ cur' from hc).put p (by simp only at this;omega),h3⟩⟩
theorem jw.pf {B1:Nat}(h:jw w B H e size v n xs)(f:Pf B1 w w')(h1:e≠111:=by decide)(h2:e≠9:=by decide):jw w' B H e size v n xs:=⟨h.own.pf f h1 h2,Nat.le_trans h.hi f.below.size,h.bd⟩
theorem jw.app {B2 B' n2 size2:Nat}{e2:TypeId}{v2:Value}{xs2:List Value}(h:jw w B H e size v n xs)(o:Own w B2 e2 size2 v2 n2 xs2)(ha:App w w' B' v2)(hne:e2≠e:=by decide):jw w' B H e size v n xs:=⟨h.own.app o ha hne,Nat.le_trans h.hi ha.below.size,h.bd⟩
end
structure lZ (w:World)(B:Nat)(e:TypeId)(size:Nat)(v:Value)(n:Nat)(xs:List Value):Prop where
 own:Own w B e size v n xs
 hi:B≤w.heap.size
section
variable {w w':World} {B size n:Nat} {e:TypeId} {v:Value} {xs:List Value}
theorem lZ.step (h:lZ w B e size v n xs)(hb:Below w.heap.size w w'):lZ w' B e size v n xs:=⟨h.own.step hb,Nat.le_trans h.hi hb.size⟩
theorem lZ.put {g B':Nat}{T:TypeId}{cur cs:Array Value}(h:lZ w B e size v n xs)(k:aE w g T cur)(p:gI w w' g T cs)(_e:B'≤g)(hne:e≠T:=by decide):lZ w' B e size v n xs:=⟨h.own.put k p _e hne,Nat.le_trans h.hi (Nat.le_of_eq p.size.symm)⟩
theorem lZ.pf {B1:Nat}(h:lZ w B e size v n xs)(f:Pf B1 w w')(h1:e≠111:=by decide)(h2:e≠9:=by decide):lZ w' B e size v n xs:=⟨h.own.pf f h1 h2,Nat.le_trans h.hi f.below.size⟩
end
theorem Own.top {w:World}{B size n:Nat}{e:TypeId}{v:Value}{xs:List Value}(h:Own w B e size v n xs):jw w B w.heap.size e size v n xs:=⟨h,Nat.le_refl _,fun ad m c hv=>by
 obtain⟨hl,⟨h1,-⟩|⟨g,cap,cur,h1,hg,hc,h3⟩⟩:=h.row
 ·rw[h1] at hv;cases hv
 ·rw[h1] at hv
  injection hv with e1 _ _
  injection e1 with e1
  rw[←e1];exact(show aE w g e cur from hc).lt⟩
theorem Own.Bu {w:World}{B B' size n:Nat}{e:TypeId}{v:Value}{xs:List Value}(h:Own w B e size v n xs)(hB:B'≤B):Own w B' e size v n xs:=by
 obtain⟨hl,h1|⟨g,cap,cur,h1,hg,h3⟩⟩:=h.row
 ·exact⟨hl, .inl h1⟩
 ·exact⟨hl, .inr ⟨g,cap,cur,h1,Nat.le_trans hB hg,h3⟩⟩
theorem ka.add {w:World}{B B1 H c:Nat}{out:List Pk}{xs:List Value}{q:Pk}{u2 u3 u4 u5 u6:Value}{A':Option Addr}(h:ka w B H out xs)(hl:xs.length=out.length*9)(h1:u2.oneCell'=true∧u3.oneCell'=true∧u4.oneCell'=true∧u5.oneCell'=true∧u6.oneCell'=true)(ho:Own w B1 3 1 (.slice A' q.places.length c) q.places.length (DJ q.places))(hB:B≤B1):
  ka w B w.heap.size (out++[q]) (xs++[.int .i64 q.bc, .bool q.bj,u2,u3,u4,u5,u6, .string (strOf q.text), .slice A' q.places.length c]):=by
 refine⟨Nat.le_refl _,fun i x hx=> ?_⟩;rcases Nat.lt_or_ge i out.length with hi|hi
 ·rw[List.getElem?_append_left hi] at hx
  obtain⟨a2,a3,a4,a5,a6,A,c,e1,e2,e3,e4⟩:=h.el i x hx;refine⟨a2,a3,a4,a5,a6,A,c,fun j u hj=> ?_,e2,e3,fun ad ha=>Nat.lt_of_lt_of_le (e4 ad ha) h.hi⟩;have:=e1 j u hj;have hlt:=(List.getElem?_eq_some_iff.1 this).1;rw[List.getElem?_append_left hlt];exact this
 ·rw[List.getElem?_append_right hi] at hx
  have hi0:i=out.length:=by
   have:=(List.getElem?_eq_some_iff.1 hx).1;simp at this;omega
  subst hi0;simp at hx;subst hx;refine⟨u2,u3,u4,u5,u6,A',c,fun j u hj=> ?_,h1,ho.Bu hB,fun ad ha=>ho.top.bd ad _ _ (by rw[ha])⟩;rw[←hl,List.getElem?_append_right (by omega),Nat.add_sub_cancel_left];exact hj
theorem ka.top {w:World}{B H:Nat}{out:List Pk}{xs:List Value}(h:ka w B H out xs):ka w B w.heap.size out xs:=⟨Nat.le_refl _,fun i x hx=>by
 obtain⟨a2,a3,a4,a5,a6,A,c,e1,e2,e3,e4⟩:=h.el i x hx;exact⟨a2,a3,a4,a5,a6,A,c,e1,e2,e3,fun ad ha=>Nat.lt_of_lt_of_le (e4 ad ha) h.hi⟩⟩
theorem gd.pf {B B0 m:Nat}{t:TypeId}{cs:Array Value}(h1:t≠111)(h2:t≠9):∀v w w',Pf B w w'→gd B0 m t cs v w→gd B0 m t cs v w':=fun _ _ _ f ⟨g',e,h,hB⟩=>⟨g',e,f.bL g' t cs h h1 h2,hB⟩
theorem qs (a op:Int)(b:Bool)(nm tx:List Nat)(A0 A1 A2:Option Addr)(n0 c0 n1 c1 n2 c2:Nat)(w:World):(Instr.build 118 #[(0, .agg #[.int .i64 a, .bool b, .slice A0 n0 c0, .int .i64 op, .string (strOf nm), .slice A1 n1 c1, .slice A2 n2 c2]),(1, .string (strOf tx))]).run Tryz.prog w= .ok (.agg #[.int .i64 a, .bool b, .slice A0 n0 c0, .int .i64 op, .string (strOf nm), .slice A1 n1 c1, .slice A2 n2 c2, .string (strOf tx), .slice none 0 0]) w:=by kernel_rfl
theorem wZ (B g c B2:Nat)(A:Option Addr)(ps:List Pt)(w:World)(h:Pl w B g [])(hv:jx w B2 ps A)(hB:B2≤B)(dK:ps.length≤1000)(hu:∀p∈ps,p.fv.length≤16)(hfl:∀p∈ps,p.flat):
  Calls Tryz.prog 55 #[.pointer (some ⟨g,0,none⟩), .slice A ps.length c] w fun e w'=>∃v,e= .returned (.tuple #[v, .bool (vX [] [] ps).isSome])∧Pf B w w'∧∀out L,vX [] [] ps=some (out,L)→Pl w' B g L∧∃A' c' xs,v= .slice A' out.length c'∧Own w' w.heap.size 118 9 v out.length xs∧ka w' w.heap.size w'.heap.size out xs:=by
 have wf:=Pf.refl B w;have pl:=h;have hBw:=h.size;have hBB:=Nat.le_trans hB hBw;obtain⟨R,hR⟩:∃R,vX [] [] ps=R:=⟨_,rfl⟩;rw[hR];obtain⟨n,hn⟩:∃n,ps.length=n:=⟨_,rfl⟩;rw[hn] at dK⊢;have own:jw w w.heap.size w.heap.size 118 9 (.slice none 0 0) 0 []:=⟨Own.nil _ _ _ _,Nat.le_refl _,fun _ _ _ h=>by cases h⟩;have pks:ka w w.heap.size w.heap.size [] []:=⟨Nat.le_refl _,fun i x hx=>by cases hx⟩;refine Zs 62 Tryz.func55 ?_;refine ah ?_;refine Za ?_;refine Za ?_;refine aS 0 1 4 5 (az ?_);refine Za ?_;refine aL 0 1 4 5 6 (aH (ah ?_));refine Zm ?_;refine Zv (aa.len rfl rfl Tryz.underlying50) ?_;refine Zm ?_;refine bO 0 1 4 5 6 16 17 18 (Zt (Cd.block ?_))
 refine Cd.loop (σ:=Nat × List Pk × List (List Nat) × Value × List Value × Nat) (fun s=>[(0, .pointer (some ⟨g,0,none⟩)),(6,s.2.2.2.1),(16, .slice A n c),(17, .int .i64 (n:Int)),(18, .int .i64 (s.1:Int))])
  (fun s wr=>s.1≤n∧s.2.1.length=s.1∧s.2.2.1.length≤16*s.1∧vX s.2.2.1 s.2.1 (ps.drop s.1)=R∧Pf B w wr∧Pl wr B g s.2.2.1∧jw wr w.heap.size s.2.2.2.2.2 118 9 s.2.2.2.1 s.2.1.length s.2.2.2.2.1∧ka wr w.heap.size s.2.2.2.2.2 s.2.1 s.2.2.2.2.1) (fun s=>n-s.1) (0,[],[], .slice none 0 0,[],w.heap.size) ⟨Nat.zero_le _,rfl,Nat.zero_le _,hR,wf,pl,own,pks⟩ ⟨rfl,rfl,rfl,rfl,rfl,trivial⟩ ?_
 clear wf pl own pks;clear hR;rintro⟨k,out,L,vo,xs,H⟩ wr ⟨hk,hol,hLl,hR,wf,pl,own,pks⟩;simp only at hk hol hLl hR pl own pks;obtain⟨Ao,co,rfl,-⟩:=own.own.reads;show Cd _ _ _ _ [(0, .pointer (some ⟨g,0,none⟩)),(6, .slice Ao out.length co),(16, .slice A n c),(17, .int .i64 (n:Int)),(18, .int .i64 (k:Int))] _;refine ah ?_;refine eU ?_;refine aV 0 6 16 17 18 19 (aH ?_);refine Cd.ao rfl (fun hc=> ?_) (fun hc=> ?_)
 ·obtain⟨x,hx⟩:∃x,ps[k]? =some x:=⟨_,List.getElem?_eq_getElem (show k<ps.length by omega)⟩
  obtain⟨ad,A0,A1,A2,c0,c1,c2,rfl,hbl,hrx,hc⟩:=hv k x hx;have hxm:=List.mem_of_getElem? hx;obtain⟨hdt,hde⟩:=hfl x hxm;have hu16:=hu x hxm;have hc:=fun j u hj=>((wf.to hBw).cell (p:=(ad.add (k*7)).add j) (by rw[ai,ai];omega)).trans (hc j u hj)
  have hdrop:ps.drop k=x::ps.drop (k+1):=by
   rw[List.drop_eq_getElem_cons (show k<ps.length by omega)];congr 1;obtain⟨_,he⟩:=List.getElem?_eq_some_iff.1 hx;exact he
  rw[hdrop,vX] at hR;unfold vJ at hc;have hpt:=fun W (hb:Below B2 w W) (hs:B2≤W.heap.size)=>jH x.term _ W hdt ((hrx.term.below hb).more hs);have hprt:dy (bK x.term) (iZ x.term)=AQ x.term:=rfl;rw[hprt] at hpt;have htx:=xr x.term
  generalize AQ x.term=pt at hpt hR htx
  obtain⟨tx,te⟩:=pt;simp only at hpt hR htx;have hsz0:=wf.below.size;have hHr:=pks.hi;refine Cd.skip (aH (Cd.block (ah ?_)));refine Zv (aa.aU rfl rfl rfl Tryz.underlying50 (s:=7) (by kernel_rfl) (j:=k) rfl (by omega)) ?_;refine Zv (aa.b7 (ps:=[.int .i64 x.bc, .bool x.bj, .slice A0 x.fv.length c0, .int .i64 x.term.op, .string (strOf x.term.name), .slice A1 x.term.exprs.length c1, .slice A2 x.term.aw.length c2]) rfl rfl Tryz.underlying108 rfl (m:=7) (by kernel_rfl) rfl hc) ?_;refine Zl bF ?_;intro g8 w1 n8;have e8:=Nat.le_trans wf.below.size n8.ge;replace wf:=wf.step n8.below;replace pl:=pl.step n8.below;replace own:=own.step n8.below;replace pks:=pks.step n8.below;have k8:=n8.an;refine Zo 7 k8 ?_;intro w2 pw2;replace wf:=wf.put k8 pw2 e8;replace pl:=pl.put k8 pw2 e8;replace own:=own.put k8 pw2 e8;replace pks:=pks.put k8 pw2 e8;replace k8:=pw2.an;refine ba 0 6 8 16 17 18 19 (az ?_);refine Zf 3 Tryz.underlying108 ?_;refine Zv (aa.o8 (off:=3) (ps:=[.int .i64 x.term.op, .string (strOf x.term.name), .slice A1 x.term.exprs.length c1, .slice A2 x.term.aw.length c2]) rfl rfl Tryz.underlying71 rfl k8 (m:=4) (by kernel_rfl) rfl jo) ?_;refine Zc (Ze Tryz.func82) (hpt _ ((wf.to hBw).mono hB) (Nat.le_trans hBB wf.below.size)) ?_;rintro en w6 ⟨rfl,hb6⟩;refine⟨_,rfl,?_⟩;replace wf:=wf.step hb6;replace pl:=pl.step hb6;replace own:=own.step hb6;replace pks:=pks.step hb6;replace k8:=k8.step hb6;refine Zm ?_;refine Zx ?_;refine Zx ?_;refine Za ?_;refine Za ?_;refine cw 0 6 8 9 10 16 17 18 19 (aH (ah ?_));refine Zm ?_;refine jq ?_;refine dr 0 6 8 9 10 16 17 18 19 29 (Zt ?_);refine Cd.ao rfl (fun hc=> ?_) (fun hc=> ?_)
  ·rw[if_pos hc] at hR
   refine ah ?_;refine Za ?_;refine Za ?_;refine eZ 0 4 5 6 8 9 10 16 17 18 19 29 (Zt (Cd.ret (ab.ae (ab.af (ab.ae (ab.aJ (ab.af (ab.ae ?_))))))));refine cG ?_;subst hR;exact⟨_,rfl,wf,fun _ _ h=>by cases h⟩
  ·rw[if_neg hc] at hR
   have hg8:=n8.ge;have hH0:H≤wr.heap.size:=hHr;have k8:aE _ g8 108 #[.int .i64 x.bc, .bool x.bj, .slice A0 x.fv.length c0, .int .i64 x.term.op, .string (strOf x.term.name), .slice A1 x.term.exprs.length c1, .slice A2 x.term.aw.length c2]:=k8;have hu60:=hrx.dK;obtain⟨m,hm⟩:∃m,x.fv.length=m:=⟨_,rfl⟩;rw[hm] at k8 hu16 hu60;refine Cd.skip (az ?_);refine ZW 7 Tryz.underlying108 k8 ?_;refine Zm ?_;refine Zv (aa.build rfl rfl (qs _ _ _ _ _ _ _ _ _ _ _ _ _ _ _)) ?_;refine Zl dh ?_;intro g11 w3 n11;have e11:=Nat.le_trans wf.below.size n11.ge;have l11:=Nat.lt_of_lt_of_le k8.lt n11.ge;replace wf:=wf.step n11.below;replace pl:=pl.step n11.below;replace own:=own.step n11.below;replace pks:=pks.step n11.below;replace k8:=k8.step n11.below;have k11:=n11.an;refine Zo 9 k11 ?_;intro w4 pw4;replace wf:=wf.put k11 pw4 e11;replace pl:=pl.put k11 pw4 e11;replace own:=own.put k11 pw4 e11;replace pks:=pks.put k11 pw4 e11;replace k8:=k8.put pw4 (by omega);replace k11:=pw4.an;refine ct 0 6 8 9 10 11 16 17 18 19 29 (aH (ah ?_));have k11:aE _ g11 118 #[.int .i64 x.bc, .bool x.bj, .slice A0 m c0, .int .i64 x.term.op, .string (strOf x.term.name), .slice A1 x.term.exprs.length c1, .slice A2 x.term.aw.length c2, .string (strOf tx), .slice none 0 0]:=k11;refine Zf 2 Tryz.underlying108 ?_;refine ZL Tryz.underlying68 k8 ?_;refine Zv (aa.len rfl rfl Tryz.underlying68) ?_;refine Zm ?_;refine gM 0 6 8 9 10 11 16 17 18 19 29 34 35 36 (Zt (Cd.block ?_));obtain⟨H1,hH1⟩:∃H1,H1=w4.heap.size:=⟨_,rfl⟩;have hH1w:w.heap.size≤H1:=by rw[hH1];exact wf.below.size
   have hHH:H≤H1:=by rw[hH1];exact pks.hi
   have ownI:lZ _ H1 3 1 (.slice none 0 0) ([]:List Nat).length (DJ []):=⟨Own.nil _ _ _ _,by rw[hH1];exact Nat.le_refl _⟩;obtain⟨Q,hQ⟩:∃Q,yt L [] x.fv=Q:=⟨_,rfl⟩;rw[hQ] at hR
   refine Cd.loop (σ:=Nat × List Nat × List (List Nat) × Value) (fun s=>[(0, .pointer (some ⟨g,0,none⟩)),(6, .slice Ao out.length co),(11, .pointer (some ⟨g11,0,none⟩)),(16, .slice (some ad) n c),(17, .int .i64 (n:Int)),(18, .int .i64 (k:Int)),(34, .slice A0 m c0),(35, .int .i64 (m:Int)),(36, .int .i64 (s.1:Int))])
    (fun s wr=>s.1≤m∧s.2.1.length=s.1∧s.2.2.1.length≤16*k+s.1∧yt s.2.2.1 s.2.1 (x.fv.drop s.1)=Q∧Pf B w wr∧Pl wr B g s.2.2.1∧jw wr w.heap.size H 118 9 (.slice Ao out.length co) out.length xs∧ka wr w.heap.size H out xs∧lZ wr H1 3 1 s.2.2.2 s.2.1.length (DJ s.2.1)∧aE wr g11 118 #[.int .i64 x.bc, .bool x.bj, .slice A0 m c0, .int .i64 x.term.op, .string (strOf x.term.name), .slice A1 x.term.exprs.length c1, .slice A2 x.term.aw.length c2, .string (strOf tx),s.2.2.2]) (fun s=>m-s.1) (0,[],L, .slice none 0 0) ⟨Nat.zero_le _,rfl,by simp only;omega,hQ,wf,pl,own,pks,ownI,k11⟩ ⟨rfl,rfl,rfl,rfl,rfl,rfl,rfl,rfl,rfl,trivial⟩ ?_
   clear wf pl own pks k11;clear hQ ownI;rintro⟨j,acc,L',vi⟩ w20 ⟨hj,hal,hLl',hQ,wf,pl,own,pks,ownI,k11⟩;simp only at hj hal hLl' hQ pl ownI k11;obtain⟨Ai,ci,rfl,-⟩:=ownI.own.reads;show Cd _ _ _ _ [(0, .pointer (some ⟨g,0,none⟩)),(6, .slice Ao out.length co),(11, .pointer (some ⟨g11,0,none⟩)),(16, .slice (some ad) n c),(17, .int .i64 (n:Int)),(18, .int .i64 (k:Int)),(34, .slice A0 m c0),(35, .int .i64 (m:Int)),(36, .int .i64 (j:Int))] _;refine ah ?_;refine eU ?_;refine dr 0 6 11 16 17 18 34 35 36 37 (aH ?_);refine Cd.ao rfl (fun hc=> ?_) (fun hc=> ?_)
   ·obtain⟨y,hy⟩:∃y,x.fv[j]? =some y:=⟨_,List.getElem?_eq_getElem (show j<x.fv.length by omega)⟩
    obtain⟨ad2,A3,c3,rfl,hbl3,hry,hcy⟩:=hrx.fv j y hy;have hcy:=fun i u hi=>((wf.to hBw).cell (p:=(ad2.add (j*4)).add i) (by rw[ai,ai];omega)).trans (hcy i u hi)
    have hdropy:x.fv.drop j=y::x.fv.drop (j+1):=by
     rw[List.drop_eq_getElem_cons (show j<x.fv.length by omega)];congr 1;obtain⟨_,he⟩:=List.getElem?_eq_some_iff.1 hy;exact he
    rw[hdropy,yt] at hQ;have hpe:=fun W (hb:Below B2 w W) (hs:B2≤W.heap.size)=>ot y _ W (hde y (List.mem_of_getElem? hy)) ((hry.below hb).more hs);have hey:=pd y
    generalize fB y=pe at hpe hQ hey
    obtain⟨te2,ee⟩:=pe;simp only at hpe hQ hey;refine Cd.skip (aH (Cd.block (ah ?_)));refine Zv (aa.aU rfl rfl rfl Tryz.underlying68 (s:=4) (by kernel_rfl) (j:=j) rfl (by omega)) ?_;refine Zv (aa.b7 (ps:=[.int .i64 y.op, .int .i64 y.n, .string (strOf y.name), .slice A3 y.args.length c3]) rfl rfl Tryz.underlying105 rfl (m:=4) (by kernel_rfl) rfl hcy) ?_;refine Zl au ?_;intro g13 w5 n13;have e13:=Nat.le_trans wf.below.size n13.ge;have l13:=Nat.lt_of_lt_of_le k11.lt n13.ge;replace wf:=wf.step n13.below;replace pl:=pl.step n13.below;replace own:=own.step n13.below;replace pks:=pks.step n13.below;replace k11:=k11.step n13.below;replace ownI:=ownI.step n13.below;have k13:=n13.an;refine Zo 4 k13 ?_;intro w6 pw6;replace wf:=wf.put k13 pw6 e13;replace pl:=pl.put k13 pw6 e13;replace own:=own.put k13 pw6 e13;replace pks:=pks.put k13 pw6 e13;replace k11:=k11.put pw6 (by omega);replace ownI:=ownI.put k13 pw6 e13;replace k13:=pw6.an;refine ct 0 6 11 13 16 17 18 34 35 36 37 (az ?_);refine ZW 4 Tryz.underlying105 k13 ?_;refine Zc (Ze Tryz.func95) (hpe _ ((wf.to hBw).mono hB) (Nat.le_trans hBB wf.below.size)) ?_;rintro en w21 ⟨rfl,hb21⟩;refine⟨_,rfl,?_⟩;replace wf:=wf.step hb21;replace pl:=pl.step hb21;replace own:=own.step hb21;replace pks:=pks.step hb21;replace k11:=k11.step hb21;replace ownI:=ownI.step hb21;replace k13:=k13.step hb21;refine Zm ?_;refine Zx ?_;refine Zx ?_;refine Za ?_;refine Za ?_;refine iW 0 6 11 13 14 15 16 17 18 34 35 36 37 (aH (ah ?_));refine Zm ?_;refine jq ?_;refine gM 0 6 11 13 14 15 16 17 18 34 35 36 37 46 (Zt ?_);refine Cd.ao rfl (fun hc=> ?_) (fun hc=> ?_)
    ·rw[if_pos hc] at hQ
     refine ah ?_;refine Za ?_;refine Za ?_;refine mc 0 4 5 6 11 13 14 15 16 17 18 34 35 36 37 46 (Zt (Cd.ret (ab.ae (ab.af (ab.ae (ab.aJ (ab.af (ab.ae (ab.af (ab.ae (ab.aJ (ab.af (ab.ae ?_)))))))))))));refine cG ?_;subst hQ;rw[←hR];exact⟨_,rfl,wf,fun _ _ h=>by cases h⟩
    ·rw[if_neg hc] at hQ
     have hlL:L'.length≤20000:=by omega
     refine Cd.skip (Zt ?_);refine Cd.ue 6 (by kernel_rfl) [] [4] (fun i h=>by cases h) rfl rfl (.inl rfl) rfl (Pf B) (Pf.refl _) (fun _ _ _=>Pf.trans) (fun c w=>Pl w B g (eW [] [L',ju L' te2] c)) ?_;intro w7 hw7 zw7;replace wf:=wf.step hw7;replace pl:=pl.step hw7;replace own:=own.step hw7;replace pks:=pks.step hw7;replace k11:=k11.step hw7;replace ownI:=ownI.step hw7;refine⟨pl,?_⟩;have zlt:=k11.lt;refine DJ.val rfl (Pf.refl _) rfl (fun w hG=>aa.aj 8 rfl rfl Tryz.underlying118 rfl (by kernel_rfl)) rfl ?_;refine DJ.val rfl (Pf.refl _) rfl (fun w hG=>aa.ak rfl rfl Tryz.underlying96 rfl (k11.pf hG) rfl) rfl ?_;refine DJ.val rfl (Pf.refl _) rfl (fun w hG=>aa.move rfl rfl) rfl ?_;refine DJ.val rfl (Pf.refl _) rfl (fun w hG=>aa.move rfl rfl) rfl ?_;refine DJ.chain 0 rfl rfl (fun w=>Ze Tryz.func96) rfl (fun w hG pl=>vN B g L' te2 _ pl hey.1 hlL) ?_;refine DJ.slice 0 (vs:=[_]) (s:=1) rfl (fun _ _ h=>Pf.grow h) (fun _ _=>Nat.zero_le _) (fun c w w' hg h=>Pl.step h hg) (gd.pf (by decide) (by decide)) rfl rfl rfl rfl Tryz.underlying96 (by kernel_rfl) eu (by omega) (by omega) ⟨rfl,trivial⟩ rfl ?_;refine DJ.nil ?_;refine bH.open (j:=5) rfl ?_;intro u5;refine bH.done (F':=[(0,_),(6,_),(11,_),(13,_),(14,_),(15,_),(16,_),(17,_),(18,_),(34,_),(35,_),(36,_),(37,_),(46,_),(48,_),(52,_)]) rfl ⟨rfl,rfl,rfl,rfl,rfl,rfl,rfl,rfl,rfl,rfl,rfl,rfl,rfl,rfl,rfl,rfl,trivial⟩ ?_;intro w8 hw8 fw8;replace wf:=wf.pf hw8;replace own:=own.pf hw8;replace pks:=pks.pf hw8;replace k11:=k11.pf hw8;replace ownI:=ownI.pf hw8;clear pl;have pl:=fw8;obtain⟨gz,rfl,kz,-⟩:=fw8.2;have hrd:=Reads.an (size:=1) kz 1 rfl;replace pl:Pl w8 B g (ju L' te2):=fw8.1;clear fw8;refine Seq.append rfl rfl rfl Tryz.underlying96 (by kernel_rfl) eu rfl (by decide) (b:=8) (by kernel_rfl) ownI.own hrd (by intro x hx;simp[aC,Value.cells] at hx;rw[hx];rfl) ownI.hi (by simp only[maxLen];omega) (by omega) rfl rfl rfl ?_;intro v9 wa own9 ha;replace wf:=wf.app ownI.own ha hH1w;replace pl:=pl.app ownI.own ha;replace own:=own.app ownI.own ha;replace pks:=pks.low (ha.below.mono hHH);replace k11:=k11.app ownI.own ha;have hH1a:H1≤wa.heap.size:=Nat.le_trans ownI.hi ha.below.size;clear ownI;have ownI:lZ wa H1 3 1 v9 _ _:=⟨own9,hH1a⟩;obtain⟨Ai2,ci2,rfl,-⟩:=ownI.own.reads;clear own9 kz hrd ha;refine Zf 8 Tryz.underlying118 ?_;refine Zq k11 ?_;intro w9 pw9;replace wf:=wf.put k11 pw9 e11;replace pl:=pl.put k11 pw9 e11;replace own:=own.put k11 pw9 e11;replace pks:=pks.put k11 pw9 e11;replace ownI:=ownI.put k11 pw9 e11;replace k11:=pw9.an;refine gM 0 6 11 13 14 15 16 17 18 34 35 36 37 46 (ab.ag (et ?_));refine dq ?_;refine Zm ?_;refine gM 0 6 11 13 14 15 16 17 18 34 35 36 37 46 ?_;have k11:aE _ g11 118 #[.int .i64 x.bc, .bool x.bj, .slice (some ad2) m c0, .int .i64 x.term.op, .string (strOf x.term.name), .slice A1 x.term.exprs.length c1, .slice A2 x.term.aw.length c2, .string (strOf tx), .slice Ai2 (acc.length+1) ci2]:=k11;have hDJ:DJ acc++(aC [Value.int IntKind.i64 ((L'.idxOf te2:Nat):Int)]).toArray.toList=DJ (acc++[L'.idxOf te2]):=by simp[DJ,aC,Value.cells]
     have hlen1:(acc++[L'.idxOf te2]).length=acc.length+1:=by simp
     have haS:(ju L' te2).length≤L'.length+1:=by unfold ju;split<;>simp
     refine ab.round (j+1,acc++[L'.idxOf te2],ju L' te2, .slice Ai2 (acc.length+1) ci2) ⟨rfl,rfl,rfl,rfl,rfl,rfl,rfl,rfl,rfl,trivial⟩ ⟨by simp only;omega,by simp only;omega,by simp only;omega,hQ,wf,pl,own,pks,?_,k11⟩ (by simp only;omega);simp only;rw[hlen1,←hDJ];exact ownI
   ·obtain rfl:j=m:=by omega
    rw[←hm,List.drop_length,yt] at hQ;subst hQ;refine Cd.exit (ab.aD (ab.ay (ab.aA (et ?_))));refine Zm ?_;refine ZW 9 Tryz.underlying118 k11 ?_;refine Seq.slice (vs:=[_]) (s:=9) rfl rfl rfl Tryz.underlying112 (by kernel_rfl) (dh) (by omega) (by omega) ⟨rfl,trivial⟩ rfl rfl rfl ?_;intro g58 w5 n58;have e58:=Nat.le_trans wf.below.size n58.ge;have l58:=Nat.lt_of_lt_of_le k11.lt n58.ge;replace wf:=wf.step n58.below;replace pl:=pl.step n58.below;replace own:=own.step n58.below;replace pks:=pks.step n58.below;replace k11:=k11.step n58.below;replace ownI:=ownI.step n58.below;have k58:=n58.an;have hrd:=Reads.an (size:=9) k58 1 rfl;have hxl:xs.length=out.length*9:=own.own.row.1;refine Seq.append rfl rfl rfl Tryz.underlying112 (by kernel_rfl) dh rfl (by decide) (b:=152) (by kernel_rfl) own.own hrd (by intro x hx;simp[aC,Value.cells] at hx;rcases hx with rfl|rfl|rfl|rfl|rfl|rfl|rfl|rfl|rfl<;>rfl) wf.below.size (by simp only[maxLen];omega) (by omega) rfl rfl rfl ?_;intro v9 wa own9 ha;replace wf:=wf.app own.own ha (Nat.le_refl _);replace pl:=pl.app own.own ha;have ownJ:=ownI.own.app own.own ha;replace pks:=(pks.app own.own ha).add (q:=⟨x.bc,x.bj,acc,tx⟩) (u2:= .slice A0 j c0) (u3:= .int .i64 x.term.op) (u4:= .string (strOf x.term.name)) (u5:= .slice A1 x.term.exprs.length c1) (u6:= .slice A2 x.term.aw.length c2) hxl ⟨rfl,rfl,rfl,rfl,rfl⟩ ownJ hH1w;clear own ownI;have own:=own9.top;obtain⟨Ao2,co2,rfl,-⟩:=own.own.reads;clear own9 ha hrd;refine Za ?_;refine dr 0 6 11 16 17 18 34 35 36 37 (ab.ag (et ?_));refine dq ?_;refine Zm ?_;refine dr 0 6 11 16 17 18 34 35 36 37 ?_;refine ab.round (k+1,out++[⟨x.bc,x.bj,acc,tx⟩],L', .slice Ao2 (out.length+1) co2,_,wa.heap.size) ⟨rfl,rfl,rfl,rfl,rfl,trivial⟩ ⟨by simp only;omega,by simp only[List.length_append,List.length_cons,List.length_nil];omega,by simp only;omega,hR,wf,pl,?_,pks⟩ (by simp only;omega);simp only[List.length_append,List.length_cons,List.length_nil];exact own
 ·obtain rfl:k=n:=by omega
  rw[←hn,List.drop_length,vX] at hR;subst hR;refine Cd.exit (ab.aD (ab.ay (ab.aA (az ?_))));refine Zm ?_;refine Za ?_;refine Za ?_;refine bO 0 4 5 6 16 17 18 19 (Zt (Cd.ret ?_));refine cG ?_;exact⟨_,rfl,wf,fun _ _ h=>by cases h;exact⟨pl,Ao,co,xs,rfl,own.own,pks.top⟩⟩
def AA (L:List (List Nat)):Prop:=∀t∈L,(∀d∈t,d<256)∧t.length≤4000
theorem AA.add {L:List (List Nat)}{s:List Nat}(h:AA L)(hs:(∀d∈s,d<256)∧s.length≤4000):AA (ju L s)∧(ju L s).length≤L.length+1:=by
 unfold ju;split
 ·exact⟨h,by omega⟩
 ·refine⟨fun t ht=> ?_,by simp⟩
  rcases List.mem_append.1 ht with ht|ht
  ·exact h t ht
  ·simp at ht;subst ht;exact hs
theorem xT:∀(us:List Ex) (L:List (List Nat)) (acc pl:List Nat) (L':List (List Nat)),AA L→(∀n∈acc,n≤20000)→L.length+us.length≤20000→yt L acc us=some (pl,L')→AA L'∧L'.length≤L.length+us.length∧pl.length=acc.length+us.length∧∀n∈pl,n≤20000
 | [],L,acc,pl,L',h,ha,hl,e=>by
  rw[yt] at e
  cases e
  exact⟨h,by simp,by simp,ha⟩
 |u::r,L,acc,pl,L',h,ha,hl,e=>by
  rw[yt] at e;split at e
  ·cases e
  ·rw[List.length_cons] at hl
   obtain⟨h1,h2⟩:=h.add (pd u);have hx:L.idxOf (fB u).1≤L.length:=List.idxOf_le_length
   obtain⟨a,b,c,d⟩:=xT r _ _ pl L' h1 (fun n hn=>by
    rcases List.mem_append.1 hn with hn|hn
    ·exact ha n hn
    ·simp at hn;omega) (by omega) e
   exact⟨a,by simp only[List.length_cons];omega,by simp only[List.length_append,List.length_cons,List.length_nil] at c⊢;omega,d⟩
theorem sq:∀(ps:List Pt) (L:List (List Nat)) (acc out:List Pk) (L':List (List Nat)),AA L→(∀q∈acc,q.ok)→(∀p∈ps,p.fv.length≤16∧bu p.bc)→L.length+16*ps.length≤20000→vX L acc ps=some (out,L')→AA L'∧L'.length≤L.length+16*ps.length∧out.length=acc.length+ps.length∧∀q∈out,q.ok
 | [],L,acc,out,L',h,ha,hp,hl,e=>by
  rw[vX] at e
  cases e
  exact⟨h,by simp,by simp,ha⟩
 |p::r,L,acc,out,L',h,ha,hp,hl,e=>by
  rw[vX] at e;rw[List.length_cons] at hl;obtain⟨hp1,hp2⟩:=hp p List.mem_cons_self;split at e
  ·cases e
  ·split at e
   ·cases e
   ·rename_i x hx
    obtain⟨pl,L1⟩:=x;obtain⟨h1,h2,h3,h4⟩:=xT p.fv L [] pl L1 h (by simp) (by omega) hx;have htx:=xr p.term
    obtain⟨a,b,c,d⟩:=sq r L1 _ out L' h1 (fun q hq=>by
     rcases List.mem_append.1 hq with hq|hq
     ·exact ha q hq
     ·simp at hq
      subst hq;exact⟨hp2,fun n hn=>by have:=h4 n hn;omega,by simp only[List.length_nil] at h3;show pl.length≤1000;omega,htx.1,htx.2⟩) (fun q hq=>hp q (List.mem_cons_of_mem _ hq)) (by omega) e
    exact⟨a,by simp only[List.length_cons];omega,by simp only[List.length_append,List.length_cons,List.length_nil] at c⊢;omega,d⟩
theorem ka.at {w:World}{B H n c:Nat}{A:Option Addr}{out:List Pk}{xs:List Value}(h:ka w B H out xs)(ho:Own w B 118 9 (.slice A n c) out.length xs):wg w w.heap.size out A:=fun i x hx=>by
 obtain⟨u2,u3,u4,u5,u6,A',c',e1,e2,e3,e4⟩:=h.el i x hx;obtain⟨A0,c0,hv,hrd⟩:=ho.reads;injection hv with hv1 _ _
 subst hv1;have hi:=(List.getElem?_eq_some_iff.1 hx).1;obtain⟨ad,rfl,hb,hc⟩:=hrd.2 (by omega);obtain⟨A1,c1,hv,hrp⟩:=e3.reads;injection hv with hv1 _ _
 subst hv1;exact⟨ad,u2,u3,u4,u5,u6,_,c',rfl,hb,hrp,e2,fun j u hj=>by rw[dY];exact hc _ _ (e1 j u hj)⟩
theorem wg.below {w w':World}{B:Nat}{l:List Pk}{A:Option Addr}(h:wg w B l A)(hb:Below B w w'):wg w' B l A:=fun i x hx=>by
 obtain⟨ad,u2,u3,u4,u5,u6,A',c,e1,e2,e3,e4,e5⟩:=h i x hx;exact⟨ad,u2,u3,u4,u5,u6,A',c,e1,e2,e3.below hb,e4,fun j u hu=>(hb.cell (by rw[ai,ai];exact e2)).trans (e5 j u hu)⟩
theorem oS:∀(ps:List Pt) (s:Nat),iT s ps=true→∀p∈ps,p.fv.length≤16
 | [],_,_,p,hp=>by cases hp
 |q::r,s,h,p,hp=>by
  rw[iT,Bool.and_eq_true,Bool.and_eq_true] at h;rcases List.mem_cons.1 hp with rfl|hp
  ·have:=h.1.1
   unfold yE at this;simp only[Bool.and_eq_true,decide_eq_true_eq] at this;exact this.1.2
  ·exact oS r _ h.2 p hp
theorem nQ {k:Ct}(h:gV k=true):k.id.length≤16∧k.aY.length≤16∧k.writer.length≤16∧k.text.length≤4000∧(0≤k.born∧k.born≤2932896)∧(0≤k.ended∧k.ended≤2932896)∧(1≤k.state∧k.state≤3)∧∀p∈k.parts,p.fv.length≤16:=by
 have hn:∀ {l:List Nat},cg l=true→l.length≤16:=fun h=>by
  unfold cg at h;simp only[Bool.and_eq_true,decide_eq_true_eq] at h;exact h.1.1.2
 unfold gV uT at h;simp only[Bool.and_eq_true,decide_eq_true_eq] at h;obtain⟨⟨⟨⟨⟨⟨⟨⟨h1,h2⟩,h3⟩,h4⟩,h5⟩,h6⟩,h7⟩,h8⟩,h9⟩:=h;have h1':=h1;unfold eh at h1';simp only[Bool.and_eq_true,decide_eq_true_eq] at h1';refine⟨hn h3,hn h4,hn h5,(lh h1'.1).2,h7,h8,?_⟩;split at h9
 ·simp only[Bool.and_eq_true] at h9
  exact⟨by omega,oS _ _ h9.2⟩
 ·split at h9
  ·refine⟨by omega,fun p hp=> ?_⟩
   simp only[decide_eq_true_eq,List.length_eq_zero_iff] at h9;rw[h9] at hp
   cases hp
  ·cases h9
def u7 (k:Ct)(out:List Pk)(L:List (List Nat)):List Nat:=cq k.id++cq k.aY++cq k.writer++cq k.text++de k.born.toNat++de k.ended.toNat++de k.state.toNat++(de L.length++L.flatMap cq)++(de out.length++out.flatMap Pk.bytes)
def nV (k:Ct):List Nat × Int:=
 if gV k then match vX [] [] k.parts with
  |none=>([],4)
  |some x=>if 15000<(u7 k x.1 x.2).length then([],4) else(u7 k x.1 x.2,0)
 else([],1)
theorem mY (w:World):(Instr.build 111 #[]).run Tryz.prog w= .ok (.agg #[.slice none 0 0]) w:=by kernel_rfl
theorem nk (k:Ct)(B:Nat)(A:Option Addr)(c:Nat)(w:World)(hk:k.qk)(hv:jx w B k.parts A)(hB:B≤w.heap.size):Calls Tryz.prog 20 #[k.v A c] w fun en w'=>en= .returned (.tuple #[.string (strOf (nV k).1), .int .i64 (nV k).2])∧Grow w w':=by
 have bel:=Below.refl w.heap.size w;have hso:=fun W (hb:Below w.heap.size w W)=>lk k B A c W hk (hv.below (hb.mono hB)) (Nat.le_trans hB hb.size);have hsays:= @nQ k;unfold nV;obtain⟨R,hR⟩:∃R,vX [] [] k.parts=R:=⟨_,rfl⟩;rw[hR]
 generalize gV k=so at hso hsays⊢
 unfold Ct.v at hso⊢;refine Zs 61 Tryz.func20 ?_;refine ah ?_;refine Seq.box rfl rfl rfl rfl rfl ?_;intro g1 w1 n1;have e1:=Nat.le_trans bel.size n1.ge;replace bel:=bel.step n1.below;have k1:=n1.an;refine Za ?_;refine Za ?_;refine aS 0 1 2 3 (aH (ah ?_));refine ZW 8 Tryz.underlying52 k1 ?_;refine Zc (Ze Tryz.func21) (hso _ bel) ?_;rintro en w5 ⟨rfl,hb5⟩;refine⟨_,rfl,?_⟩;replace bel:=bel.step hb5;replace k1:=k1.step hb5;refine gU ?_;refine aL 0 1 2 3 10 (Zt ?_);refine Cd.cond rfl (fun hc=> ?_) (fun hc=> ?_)
 ·simp at hc
  subst hc;refine ah ?_;refine Za ?_;refine Za ?_;refine aL 0 1 2 3 10 (Zt (Cd.ret (ab.ae ?_)));refine cG ?_;exact⟨rfl,bel⟩
 ·simp at hc
  subst hc;obtain⟨l1,l2,l3,l4,hbo,hen,hst,htil⟩:=hsays rfl;refine Cd.skip (az ?_);refine Zv (aa.build rfl rfl (mY _)) ?_;refine Seq.box rfl rfl rfl rfl rfl ?_;intro g12 w2 n12;have e12:=Nat.le_trans bel.size n12.ge;have l12:=Nat.lt_of_lt_of_le k1.lt n12.ge;replace bel:=bel.step n12.below;replace k1:=k1.step n12.below;have k12:=n12.an;refine Za ?_;refine aV 0 1 2 3 4 10 (az ?_);refine Zm ?_;refine Zf 7 Tryz.underlying52 ?_;refine ZL Tryz.underlying50 k1 ?_;have hg12:g12≤w2.heap.size:=Nat.le_of_lt k12.lt;have k1:aE w2 g1 52 #[.string (strOf k.id), .string (strOf k.aY), .string (strOf k.writer), .string (strOf k.text), .int .i64 k.born, .int .i64 k.ended, .int .i64 k.state, .slice A k.parts.length c]:=k1;have pl0:Pl w2 g12 g12 []:=⟨Nat.le_refl _,(fun t ht=>by cases ht),_,k12,Own.nil _ _ _ _⟩;refine Zc (Ze Tryz.func55) (wZ g12 g12 c B A k.parts _ pl0 (hv.below (bel.mono hB)) (by omega) hk.parts htil hk.flat) ?_;rw[hR];rintro en w6 ⟨v,rfl,pf6,hpk⟩;refine⟨_,rfl,?_⟩;replace k1:=k1.pf pf6;have bel6:=bel.trans ((pf6.to hg12).mono e12);clear bel k12 pl0;have bel:=bel6
  have hfac:∀p∈k.parts,p.fv.length≤16∧bu p.bc:=fun p hp=>by
   obtain⟨i,hi⟩:=List.getElem?_of_mem hp;obtain⟨_,_,_,_,_,_,_,_,_,hrx,_⟩:=hv i p hi;exact⟨htil p hp,hrx.tL⟩
  have hparts:=hk.parts;rcases R with _|⟨out,L⟩
  ·skip
   refine Zm ?_;refine Zx ?_;refine Zx ?_;refine Za ?_;refine Za ?_;refine bO 0 1 2 3 4 5 6 10 (aH (ah ?_));refine Zm ?_;refine gU ?_;refine cw 0 1 2 3 4 5 6 10 21 (Zt ?_);refine Cd.aM rfl rfl ?_;refine ah ?_;refine Za ?_;refine Za ?_;refine cw 0 1 2 3 4 5 6 10 21 (Zt (Cd.ret (ab.ae ?_)));refine cG ?_;exact⟨rfl,bel⟩
  obtain⟨hL,hLl,hol,hok⟩:=sq k.parts [] [] out L (by intro t ht;cases ht) (by simp) hfac (by simp only[List.length_nil];omega) hR;obtain⟨pl,A',c',xs,rfl,own,pks⟩:=hpk out L rfl;have pkat:=pks.at own;obtain⟨vl,k12,ownL⟩:=pl.cell;obtain⟨AL,cL,rfl,hrdL⟩:=ownL.reads;refine Zm ?_;refine Zx ?_;refine Zx ?_;refine Za ?_;refine Za ?_;refine bO 0 1 2 3 4 5 6 10 (aH (ah ?_));refine Zm ?_;refine gU ?_;refine cw 0 1 2 3 4 5 6 10 21 (Zt ?_);refine Cd.aI rfl rfl ?_;refine Cd.skip (az ?_);refine Zv (aa.build rfl rfl (jC _)) ?_;refine Seq.box rfl rfl rfl rfl rfl ?_;intro g23 w3 n23;have e23:=Nat.le_trans bel.size n23.ge;have l23:=Nat.lt_of_lt_of_le k12.lt n23.ge;have l23_k1:=Nat.lt_of_lt_of_le k1.lt n23.ge;replace bel:=bel.step n23.below;replace k1:=k1.step n23.below;replace k12:=k12.step n23.below;have k23:=n23.an;refine Za ?_;refine dr 0 1 2 3 4 5 6 7 10 21 (aH ?_);obtain⟨nb,hnb⟩:∃nb:Nat,k.born=(nb:Int):=⟨k.born.toNat,by omega⟩;obtain⟨ne,hne⟩:∃ne:Nat,k.ended=(ne:Int):=⟨k.ended.toNat,by omega⟩;obtain⟨ns,hns⟩:∃ns:Nat,k.state=(ns:Int):=⟨k.state.toNat,by omega⟩;have hct:u7 k out L=cq k.id++cq k.aY++cq k.writer++cq k.text++de nb++de ne++de ns++(de L.length++L.flatMap cq)++(de out.length++out.flatMap Pk.bytes):=by unfold u7;rw[hnb,hne,hns];rfl
  rw[hnb,hne,hns] at k1;have z1:=eP k.id;have z2:=eP k.aY;have z3:=eP k.writer;have z4:=eP k.text;have z5:=bC nb;have z6:=bC ne;have z7:=bC ns;have z8:=bC L.length;have z9:=fL cq 4010 (l:=L) (fun t ht=>by have:=eP t;have:=(hL t ht).2;omega);simp only[List.length_nil,Nat.zero_add] at hLl hol;have hg23:g23≤w3.heap.size:=Nat.le_of_lt n23.lt;have h6:w6.heap.size≤g23:=n23.ge;have hrd3:=hrdL.below n23.below;have pk3:=pkat.below n23.below;have wr:Wr _ g23 g23 []:=⟨Nat.le_refl _,fun d hd=>(by cases hd),_,k23,Own.nil _ _ _ _⟩;have wf:=Wf.refl g23 w3;refine Cd.ue 22 (by kernel_rfl) [] [3,6,9,12,15,18,21] (fun i h=>by cases h) rfl rfl (.inl rfl) rfl (Wf g23) (Wf.refl g23) (fun _ _ _=>Wf.trans) (fun c w=>Wr w g23 g23 (eW [] [[],cq k.id,cq k.id++cq k.aY,cq k.id++cq k.aY++cq k.writer,cq k.id++cq k.aY++cq k.writer++cq k.text,cq k.id++cq k.aY++cq k.writer++cq k.text++de nb,cq k.id++cq k.aY++cq k.writer++cq k.text++de nb++de ne,cq k.id++cq k.aY++cq k.writer++cq k.text++de nb++de ne++de ns] c)) ?_;intro w4 hw4 zw4;replace k1:=k1.step hw4;replace k12:=k12.step hw4;replace wf:=wf.step hw4;replace wr:=wr.step hw4;refine⟨wr,?_⟩;have zlt:=k12.lt;refine DJ.val rfl (Wf.refl g23) rfl (fun w hG=>aa.move rfl rfl) rfl ?_;refine DJ.val rfl (Wf.refl g23) rfl (fun w hG=>aa.aj 0 rfl rfl Tryz.underlying52 rfl (by kernel_rfl)) rfl ?_;refine DJ.val rfl (Wf.refl g23) rfl (fun w hG=>aa.ak rfl rfl Tryz.underlying9 rfl (k1.wf hG) rfl) rfl ?_;refine DJ.chain 0 rfl rfl (fun w=>Ze Tryz.func31) rfl (fun w hG wr=>dc g23 g23 k.id [] _ wr hk.id (by show 0+10+k.id.length≤1000000000;omega)) ?_;refine DJ.val rfl (Wf.refl g23) rfl (fun w hG=>aa.aj 1 rfl rfl Tryz.underlying52 rfl (by kernel_rfl)) rfl ?_;refine DJ.val rfl (Wf.refl g23) rfl (fun w hG=>aa.ak rfl rfl Tryz.underlying9 rfl (k1.wf hG) rfl) rfl ?_;refine DJ.chain 1 rfl rfl (fun w=>Ze Tryz.func31) rfl (fun w hG wr=>dc g23 g23 k.aY _ _ wr hk.aY (by first|omega|(simp only[eW,List.length_append];omega)|(simp only[eW];omega))) ?_;refine DJ.val rfl (Wf.refl g23) rfl (fun w hG=>aa.aj 2 rfl rfl Tryz.underlying52 rfl (by kernel_rfl)) rfl ?_;refine DJ.val rfl (Wf.refl g23) rfl (fun w hG=>aa.ak rfl rfl Tryz.underlying9 rfl (k1.wf hG) rfl) rfl ?_;refine DJ.chain 2 rfl rfl (fun w=>Ze Tryz.func31) rfl (fun w hG wr=>dc g23 g23 k.writer _ _ wr hk.writer (by first|omega|(simp only[eW,List.length_append];omega)|(simp only[eW];omega))) ?_;refine DJ.val rfl (Wf.refl g23) rfl (fun w hG=>aa.aj 3 rfl rfl Tryz.underlying52 rfl (by kernel_rfl)) rfl ?_;refine DJ.val rfl (Wf.refl g23) rfl (fun w hG=>aa.ak rfl rfl Tryz.underlying9 rfl (k1.wf hG) rfl) rfl ?_;refine DJ.chain 3 rfl rfl (fun w=>Ze Tryz.func31) rfl (fun w hG wr=>dc g23 g23 k.text _ _ wr hk.text (by first|omega|(simp only[eW,List.length_append];omega)|(simp only[eW];omega))) ?_;refine DJ.val rfl (Wf.refl g23) rfl (fun w hG=>aa.aj 4 rfl rfl Tryz.underlying52 rfl (by kernel_rfl)) rfl ?_;refine DJ.val rfl (Wf.refl g23) rfl (fun w hG=>aa.ak rfl rfl Tryz.underlying3 rfl (k1.wf hG) rfl) rfl ?_;refine DJ.chain 4 rfl rfl (fun w=>Ze Tryz.func30) rfl (fun w hG wr=>cf g23 g23 nb _ _ wr (by omega) (by first|omega|(simp only[eW,List.length_append];omega)|(simp only[eW];omega))) ?_;refine DJ.val rfl (Wf.refl g23) rfl (fun w hG=>aa.aj 5 rfl rfl Tryz.underlying52 rfl (by kernel_rfl)) rfl ?_;refine DJ.val rfl (Wf.refl g23) rfl (fun w hG=>aa.ak rfl rfl Tryz.underlying3 rfl (k1.wf hG) rfl) rfl ?_;refine DJ.chain 5 rfl rfl (fun w=>Ze Tryz.func30) rfl (fun w hG wr=>cf g23 g23 ne _ _ wr (by omega) (by first|omega|(simp only[eW,List.length_append];omega)|(simp only[eW];omega))) ?_;refine DJ.val rfl (Wf.refl g23) rfl (fun w hG=>aa.aj 6 rfl rfl Tryz.underlying52 rfl (by kernel_rfl)) rfl ?_;refine DJ.val rfl (Wf.refl g23) rfl (fun w hG=>aa.ak rfl rfl Tryz.underlying3 rfl (k1.wf hG) rfl) rfl ?_;refine DJ.chain 6 rfl rfl (fun w=>Ze Tryz.func30) rfl (fun w hG wr=>cf g23 g23 ns _ _ wr (by omega) (by first|omega|(simp only[eW,List.length_append];omega)|(simp only[eW];omega))) ?_;refine DJ.nil ?_;refine bH.done (F':=[(0,_),(1,_),(2,_),(3,_),(4,_),(5,_),(6,_),(7,_),(10,_),(21,_)]) rfl ⟨rfl,rfl,rfl,rfl,rfl,rfl,rfl,rfl,rfl,rfl,trivial⟩ ?_;intro w5 hw5 fw5;replace k1:=k1.wf hw5;replace k12:=k12.wf hw5;replace wf:=wf.wf hw5;clear wr;have wr:=fw5;refine dr 0 1 2 3 4 5 6 7 10 21 (az ?_);refine Zm ?_;refine Zm ?_;refine Zv (aa.nilCheck rfl rfl) ?_;refine Zf 0 Tryz.underlying111 ?_;refine ZL Tryz.underlying66 k12 ?_;replace wr:Wr _ g23 g23 (cq k.id++cq k.aY++cq k.writer++cq k.text++de nb++de ne++de ns):=wr;refine Zc (Ze Tryz.func56) (qG g23 g23 _ cL AL L _ _ wr (hrd3.below ((wf.to hg23).mono h6)) h6 hL (by omega) (by simp only[List.length_append];omega)) ?_;clear wr;rintro e w6 ⟨rfl,fw6,wr⟩;refine⟨_,rfl,?_⟩;replace k1:=k1.wf fw6;replace k12:=k12.wf fw6;replace wf:=wf.wf fw6;refine dr 0 1 2 3 4 5 6 7 10 21 (az ?_);refine Zm ?_;refine Zm ?_;refine Zc (Ze Tryz.func57) (xM g23 g23 _ c' A' out _ _ wr (pk3.below ((wf.to hg23).mono h6)) h6 hok (by omega) (by simp only[List.length_append];omega)) ?_;clear wr;rintro e w7 ⟨rfl,fw7,wr⟩;refine⟨_,rfl,?_⟩;replace k1:=k1.wf fw7;replace k12:=k12.wf fw7;replace wf:=wf.wf fw7;rw[←hct] at wr;have bel2:=bel.trans ((wf.to hg23).mono e23);clear bel;have bel:=bel2;refine dr 0 1 2 3 4 5 6 7 10 21 (aH (ah ?_));refine Zm ?_;refine Zc (Ze Tryz.func33) (jS g23 g23 _ _ wr) ?_;rintro en w15 ⟨rfl,hb15⟩;refine⟨_,rfl,?_⟩;replace wr:=wr.step hb15;replace bel:=bel.step hb15;refine Zv (aa.ed rfl rfl Tryz.underlying9) ?_;refine qK ?_;refine ct 0 1 2 3 4 5 6 7 10 21 58 (Zt ?_);refine Cd.ao rfl (fun hc=> ?_) (fun hc=> ?_)
  ·skip
   refine ah ?_;refine Za ?_;refine Za ?_;refine ct 0 1 2 3 4 5 6 7 10 21 58 (Zt (Cd.ret (ab.ae ?_)));refine cG ?_
   have hr:(if true=true then(match some (out,L) with|none=>(([],4):List Nat × Int)|some x=>if 15000<(u7 k x.1 x.2).length then([],4) else(u7 k x.1 x.2,0)) else([],1))=([],4):=by
    rw[if_pos rfl];exact if_pos (show 15000<(u7 k out L).length by omega)
   refine⟨uu (Eq.trans ?_ (congrArg (fun z:List Nat × Int=>Value.string (strOf z.1)) hr.symm)) (congrArg (fun z:List Nat × Int=>Value.int .i64 z.2) hr.symm),bel⟩;rfl
  ·skip
   refine Cd.skip (az ?_);refine Zm ?_;refine Zc (Ze Tryz.func33) (jS g23 g23 _ _ wr) ?_;rintro en w16 ⟨rfl,hb16⟩;refine⟨_,rfl,?_⟩;replace wr:=wr.step hb16;replace bel:=bel.step hb16;refine Za ?_;refine Za ?_;refine ct 0 1 2 3 4 5 6 7 10 21 58 (Zt (Cd.ret ?_));refine cG ?_
   have hr:(if true=true then(match some (out,L) with|none=>(([],4):List Nat × Int)|some x=>if 15000<(u7 k x.1 x.2).length then([],4) else(u7 k x.1 x.2,0)) else([],1))=(u7 k out L,0):=by
    rw[if_pos rfl];exact if_neg (show¬15000<(u7 k out L).length by omega)
   refine⟨uu (Eq.trans ?_ (congrArg (fun z:List Nat × Int=>Value.string (strOf z.1)) hr.symm)) (congrArg (fun z:List Nat × Int=>Value.int .i64 z.2) hr.symm),bel⟩;rfl
theorem rN (l:List Nat):(eG l).1.depth≤900:=by
 have hz:j6.depth≤900:=by decide
 unfold eG;split
 ·exact hz
 ·cases jJ (aN l).1 with
  |ok x q=>
   dsimp only;split
   ·rename_i hx
    unfold cz at hx;simp only[Bool.and_eq_true,decide_eq_true_eq] at hx;show x.depth≤900;omega
   ·exact hz
  |bad p o=>exact hz
  |out=>exact hz
structure zD (lo hi:Nat)(S:Nat→Prop)(x:Ex)(v:Value)(W:World):Prop where
 rep:bX W S x v
 bd:∀b,S b→lo≤b∧b<hi
 dA:hi≤W.heap.size
theorem zD.step {lo hi:Nat}{S:Nat→Prop}{x:Ex}{v:Value}{W W':World}(r:zD lo hi S x v W)(h:Below W.heap.size W W'):zD lo hi S x v W':=
 ⟨r.rep.mono (fun _ h=>h) (fun a ha=>h.cell (Nat.lt_of_lt_of_le (r.bd _ ha).2 r.dA)),r.bd,Nat.le_trans r.dA h.size⟩
theorem zD.put {lo hi g:Nat}{T:TypeId}{cur cs:Array Value}{S:Nat→Prop}{x:Ex}{v:Value}{W W':World}(r:zD lo hi S x v W)(_k:aE W g T cur)(p:gI W W' g T cs){E:Prop}(_e:E)(hne:g<lo∨hi≤g:=by omega):zD lo hi S x v W':=
 ⟨r.rep.mono (fun _ h=>h) (fun a ha=>World.cell?_of_block (p.grown.block _ (Nat.lt_of_lt_of_le (r.bd _ ha).2 r.dA) (fun e=>by injection e with e;have:=r.bd _ ha;omega))),r.bd,Nat.le_trans r.dA (Nat.le_of_eq p.size.symm)⟩
structure sf (w:World)(B H:Nat)(es:List Ex)(vs:List Value)(v:Value)(S:Nat→Prop):Prop where
 len:vs.length=es.length
 own:Own w B 105 4 v es.length (aC vs)
 rep:∀(i:Nat) (e:Ex) (u:Value),es[i]? =some e→vs[i]? =some u→bX w S e u
 iD:∀b,S b→B≤b∧b<H∧v.ownBlock≠some b
 bd:∀b,v.ownBlock=some b→b<H
 hi:H≤w.heap.size
theorem sf.bL {w w':World}{B H:Nat}{es:List Ex}{vs:List Value}{v:Value}{S:Nat→Prop}(h:sf w B H es vs v S)(hs:w.heap.size≤w'.heap.size)(hb:∀b,B≤b→b<H→w'.heap[b]? =w.heap[b]?):sf w' B H es vs v S:=
 ⟨h.len,h.own.eO hs fun b e=>hb b (h.own.aQ b e).1 (h.bd b e),fun i e u h1 h2=>(h.rep i e u h1 h2).mono (fun _ h=>h) (fun p hp=>World.cell?_of_block (hb _ (h.iD _ hp).1 (h.iD _ hp).2.1)),h.iD,h.bd,Nat.le_trans h.hi hs⟩
theorem sf.step {w w':World}{B H:Nat}{es:List Ex}{vs:List Value}{v:Value}{S:Nat→Prop}(h:sf w B H es vs v S)(hb:Below w.heap.size w w'):sf w' B H es vs v S:=h.bL hb.size fun b _ h2=>hb.block b (Nat.lt_of_lt_of_le h2 h.hi)
theorem sf.put {w w':World}{B H g B':Nat}{T:TypeId}{cur cs:Array Value}{es:List Ex}{vs:List Value}{v:Value}{S:Nat→Prop}(h:sf w B H es vs v S)(_k:aE w g T cur)(p:gI w w' g T cs)(_e:B'≤g)(hne:H≤g:=by omega):sf w' B H es vs v S:=h.bL (Nat.le_of_eq p.size.symm) fun b _ h2=>p.grown.block b (Nat.lt_of_lt_of_le h2 h.hi) (fun e=>by injection e with e;omega)
theorem sf.add {w w':World}{B H lo hi:Nat}{es:List Ex}{vs:List Value}{v v' u:Value}{S S':Nat→Prop}{x:Ex}(h:sf w B H es vs v S)(r:zD lo hi S' x u w)(hlo:H≤lo)(hBH:B≤H)(ho:Own w' B 105 4 v' (es.length+1) (aC vs++u.cells.toList))(ha:App w w' B v)(hv:v'.ownBlock=v.ownBlock∨v'.ownBlock=some w.heap.size):sf w' B w'.heap.size (es++[x]) (vs++[u]) v' (fun b=>S b∨S' b):=by
 have hne:∀b,S b∨S' b→B≤b∧b<w.heap.size∧v.ownBlock≠some b:=fun b hb=>by
  rcases hb with hb|hb
  ·have:=h.iD b hb
   exact⟨this.1,Nat.lt_of_lt_of_le this.2.1 h.hi,this.2.2⟩
  ·have:=r.bd b hb
   exact⟨by omega,Nat.lt_of_lt_of_le this.2 r.dA,fun e=>by have:=h.bd b e;omega⟩
 have hc:∀p:Addr,(S p.block∨S' p.block)→w'.cell? p=w.cell? p:=fun p hp=>World.cell?_of_block (ha.grown.block _ (hne _ hp).2.1 (fun e=>(hne _ hp).2.2 e.symm));have hsz:=ha.below.size;refine⟨by simp[h.len],?_,fun i e u' h1 h2=> ?_,fun b hb=>⟨(hne b hb).1,Nat.lt_of_lt_of_le (hne b hb).2.1 hsz,fun e=> ?_⟩,fun b e=>(ho.aQ b e).2,Nat.le_refl _⟩
 ·have hf:aC (vs++[u])=aC vs++u.cells.toList:=by rw[ei];simp[aC]
  rw[hf,List.length_append];exact ho
 ·rcases Nat.lt_or_ge i es.length with hi|hi
  ·rw[List.getElem?_append_left hi] at h1
   rw[List.getElem?_append_left (by rw[h.len];exact hi)] at h2;exact(h.rep i e u' h1 h2).mono (fun _ h=> .inl h) (fun p hp=>hc p (.inl hp))
  ·rw[List.getElem?_append_right hi] at h1
   rw[List.getElem?_append_right (by rw[h.len];exact hi),h.len] at h2
   have h0:i-es.length=0:=by
    have:=(List.getElem?_eq_some_iff.1 h1).1;simp at this;exact this
   rw[h0] at h1 h2;injection h1 with h1
   injection h2 with h2
   subst h1 h2;exact r.rep.mono (fun _ h=> .inr h) (fun p hp=>hc p (.inr hp))
 ·rcases hv with e'|e'
  ·exact(hne b hb).2.2 (by rw[←e',e])
  ·rw[e'] at e
   injection e with e
   have:=(hne b hb).2.1;omega
def sU (w:World)(S:Nat→Prop)(es:List Ex)(A:Option Addr):Prop:=∀i x,es[i]? =some x→∃ad A' c',A=some ad∧S ad.block∧bX w S x (.agg #[.int .i64 x.op, .int .i64 x.n, .string (strOf x.name), .slice A' x.args.length c'])∧∀(j:Nat) (u:Value),([.int .i64 x.op, .int .i64 x.n, .string (strOf x.name), .slice A' x.args.length c']:List Value)[j]? =some u→w.cell? ((ad.add (i*4)).add j)=some u
theorem sU.mono {w w':World}{S S':Nat→Prop}{es:List Ex}{A:Option Addr}(h:sU w S es A)(hS:∀b,S b→S' b)(hc:∀p:Addr,S p.block→w'.cell? p=w.cell? p):sU w' S' es A:=fun i x hx=>by
 obtain⟨ad,A',c',e1,e2,e3,e4⟩:=h i x hx;exact⟨ad,A',c',e1,hS _ e2,e3.mono hS hc,fun j u hu=>(hc _ (by rw[ai,ai];exact e2)).trans (e4 j u hu)⟩
theorem sU.at {w:World}{S:Nat→Prop}{B:Nat}{es:List Ex}{A:Option Addr}(h:sU w S es A)(hS:∀b,S b→b<B):ma w B es A:=h.mono (S':=(· <B)) hS (fun _ _=>rfl)
theorem xN {w:World}{S:Nat→Prop}{es:List Ex}{vs:List Value}{A:Option Addr}(hl:vs.length=es.length)(hr:∀(i:Nat) (e:Ex) (v:Value),es[i]? =some e→vs[i]? =some v→bX w S e v)(hA:Rows w S A (aC vs)):sU w S es A:=fun i x hx=>by
 have hi:=(List.getElem?_eq_some_iff.1 hx).1;obtain⟨v,hv⟩:∃v,vs[i]? =some v:=⟨_,List.getElem?_eq_getElem (by omega)⟩;have hrx:=hr i x v hx hv
 have h4:∀y∈vs,y.cells.size=4:=fun y hy=>by
  obtain⟨k,hk,rfl⟩:=List.getElem_of_mem hy;obtain⟨z,hz⟩:∃z,es[k]? =some z:=⟨_,List.getElem?_eq_getElem (by omega)⟩;exact(hr k z _ hz (List.getElem?_eq_getElem hk)).oa
 obtain⟨A',c',rfl⟩:=hrx.form;have hne:aC vs≠ []:=fun h0=>by have:=eS h4 hv 0 _ rfl;rw[h0] at this;cases this
 obtain⟨ad,rfl,hb,hc⟩:=hA hne;exact⟨ad,A',c',rfl,hb,hrx,fun j u hu=>by rw[dY];exact hc _ _ (eS h4 hv j u (by simpa[Value.cells] using hu))⟩
theorem sf.at {w:World}{B H n c:Nat}{es:List Ex}{vs:List Value}{A:Option Addr}{S:Nat→Prop}(h:sf w B H es vs (.slice A n c) S):sU w (fun b=>B≤b∧b<w.heap.size) es A:=by
 refine xN h.len (fun i e u h1 h2=>(h.rep i e u h1 h2).mono (fun b hb=>⟨(h.iD b hb).1,Nat.lt_of_lt_of_le (h.iD b hb).2.1 h.hi⟩) (fun _ _=>rfl)) fun hne=> ?_;obtain⟨A0,c0,hv,hrd⟩:=h.own.reads;injection hv with hv1 _ _
 subst hv1
 have h0:0<es.length:=by
  rcases Nat.eq_zero_or_pos es.length with h0|h0
  ·have:=h.len
   rw[h0,List.length_eq_zero_iff] at this;rw[this] at hne;exact absurd rfl hne
  ·exact h0
 obtain⟨ad,e1,e2,e3⟩:=hrd.2 h0;exact⟨ad,e1,⟨(h.own.aQ ad.block (by rw[e1];rfl)).1,e2⟩,e3⟩
def jY:List Ex→List (List Nat)→Option (List Ex)
 |acc,[]=>some acc
 |acc,s::r=>if(eG s).2.2≠0 then none else jY (acc++[(eG s).1]) r
theorem sR (B c:Nat)(A:Option Addr)(l:List (List Nat))(w:World)(hr:Reads w B 1 A l.length (DS l))(hB:B≤w.heap.size)(hl:∀s∈l,(∀d∈s,d<256)∧s.length≤9223372036854775807)(dK:l.length≤20000):
  Calls Tryz.prog 67 #[.slice A l.length c] w fun en w'=>Below w.heap.size w w'∧∃A' c',en= .returned (.tuple #[.slice A' ((jY [] l).getD []).length c', .bool (jY [] l).isSome])∧sU w' (fun b=>w.heap.size≤b∧b<w'.heap.size) ((jY [] l).getD []) A':=by
 have bel:=Below.refl w.heap.size w;obtain⟨R,hR⟩:∃R,jY [] l=R:=⟨_,rfl⟩;rw[hR];obtain⟨n,hn⟩:∃n,l.length=n:=⟨_,rfl⟩;rw[hn] at dK hr⊢;have ex:sf w w.heap.size w.heap.size [] [] (.slice none 0 0) (fun _=>False):=⟨rfl,Own.nil _ _ _ _,(fun i e u h=>by cases h),(fun b h=>h.elim),(fun b h=>by cases h),Nat.le_refl _⟩;refine Zs 30 Tryz.func67 ?_;refine ah ?_;refine Za ?_;refine Za ?_;refine bk 0 2 3 (az ?_);refine Za ?_;refine aS 0 2 3 4 (aH (ah ?_));refine Zm ?_;refine Zv (aa.len rfl rfl Tryz.underlying66) ?_;refine Zm ?_;refine ba 0 2 3 4 10 11 12 (Zt (Cd.block ?_))
 refine Cd.loop (σ:=Nat × List Ex × List Value × Value × (Nat→Prop) × Nat) (fun s=>[(4,s.2.2.2.1),(10, .slice A n c),(11, .int .i64 (n:Int)),(12, .int .i64 (s.1:Int))])
  (fun s wr=>s.1≤n∧s.2.1.length=s.1∧jY s.2.1 (l.drop s.1)=R∧Below w.heap.size w wr∧sf wr w.heap.size s.2.2.2.2.2 s.2.1 s.2.2.1 s.2.2.2.1 s.2.2.2.2.1∧w.heap.size≤s.2.2.2.2.2) (fun s=>n-s.1) (0,[],[], .slice none 0 0,(fun _=>False),w.heap.size) ⟨Nat.zero_le _,rfl,hR,bel,ex,Nat.le_refl _⟩ ⟨rfl,rfl,rfl,rfl,trivial⟩ ?_
 clear bel ex;clear hR;rintro⟨k,es,vs,vo,S,H⟩ wr ⟨hk,hel,hR,bel,ex,hwH⟩;simp only at hk hel hR ex hwH;obtain⟨Ao,co,rfl,-⟩:=ex.own.reads;show Cd _ _ _ _ [(4, .slice Ao es.length co),(10, .slice A n c),(11, .int .i64 (n:Int)),(12, .int .i64 (k:Int))] _;refine ah ?_;refine eU ?_;refine aL 4 10 11 12 13 (aH ?_);refine Cd.ao rfl (fun hc=> ?_) (fun hc=> ?_)
 ·obtain⟨s,hs⟩:∃s,l[k]? =some s:=⟨_,List.getElem?_eq_getElem (show k<l.length by omega)⟩
  obtain⟨ad,rfl,hbl,hcl⟩:=hr.2 (by omega);have hcl:=((bel.mono hB).cell (p:=ad.add k) (by rw[ai];exact hbl)).trans (hcl k (.string (strOf s)) (by simp[DS,hs]));obtain⟨hs1,hs2⟩:=hl s (List.mem_of_getElem? hs)
  have hdrop:l.drop k=s::l.drop (k+1):=by
   rw[List.drop_eq_getElem_cons (show k<l.length by omega)];congr 1;obtain⟨_,he⟩:=List.getElem?_eq_some_iff.1 hs;exact he
  rw[hdrop,jY] at hR;have hps:=fun W=>oq s W hs1 (by omega)
  generalize eG s=px at hps hR
  obtain⟨x,pq,pz⟩:=px;simp only at hps hR;have hH:=ex.hi;refine Cd.skip (aH (Cd.block (ah ?_)));refine Zv (aa.gA rfl rfl rfl Tryz.underlying66 (by kernel_rfl) (j:=k) rfl (by omega)) ?_;refine Zv (aa.jN rfl rfl Tryz.underlying9 rfl hcl) ?_;refine Za ?_;refine aV 4 6 10 11 12 13 (az ?_);refine Zm ?_;refine Zc (Ze Tryz.func115) (hps _) ?_;rintro en w5 ⟨hb5,v,S5,rfl,hrep,hS⟩;obtain⟨A1,c1,hvX⟩:=hrep.form;subst hvX;refine⟨_,rfl,?_⟩;replace bel:=bel.step hb5;replace ex:=ex.step hb5;have rs:zD _ w5.heap.size S5 x (.agg #[.int .i64 x.op, .int .i64 x.n, .string (strOf x.name), .slice A1 x.args.length c1]) w5:=⟨hrep,hS,Nat.le_refl _⟩;have h5:=hb5.size;refine Zm ?_;refine Zx ?_;refine Zx ?_;refine Zx ?_;refine Zl au ?_;intro g7 w1 n7;have q7:=n7.ge;have e7:=Nat.le_trans bel.size n7.ge;replace bel:=bel.step n7.below;replace ex:=ex.step n7.below;replace rs:=rs.step n7.below;have k7:=n7.an;refine Zo 4 k7 ?_;intro w2 pw2;replace bel:=bel.put k7 pw2 e7;replace ex:=ex.put k7 pw2 e7;replace rs:=rs.put k7 pw2 e7;replace k7:=pw2.an;have k7:aE _ g7 105 #[.int .i64 x.op, .int .i64 x.n, .string (strOf x.name), .slice A1 x.args.length c1]:=k7;refine Za ?_;refine Za ?_;refine bO 4 6 7 9 10 11 12 13 (aH (ah ?_));refine Zm ?_;refine jq ?_;refine cw 4 6 7 9 10 11 12 13 23 (Zt ?_);refine Cd.ao rfl (fun hc=> ?_) (fun hc=> ?_)
  ·rw[if_pos hc] at hR
   subst hR;refine ah ?_;refine Za ?_;refine Za ?_;refine ct 2 3 4 6 7 9 10 11 12 13 23 (Zt (Cd.ret (ab.ae (ab.af (ab.ae (ab.aJ (ab.af (ab.ae ?_))))))));refine cG ?_;exact⟨bel,none,0,rfl,fun i x hx=>by cases hx⟩
  ·rw[if_neg hc] at hR
   refine Cd.skip (et ?_);refine Zm ?_;refine ZW 4 Tryz.underlying105 k7 ?_;refine Seq.slice (vs:=[_]) (s:=4) rfl rfl rfl Tryz.underlying68 (by kernel_rfl) (au) (by omega) (by omega) ⟨rfl,trivial⟩ rfl rfl rfl ?_;intro g26 w3 n26;have q26:=n26.ge;have e26:=Nat.le_trans bel.size n26.ge;have l26:=Nat.lt_of_lt_of_le k7.lt n26.ge;replace bel:=bel.step n26.below;replace ex:=ex.step n26.below;replace rs:=rs.step n26.below;replace k7:=k7.step n26.below;have k26:=n26.an;have hrd:=Reads.an (size:=4) k26 1 rfl;refine Seq.hZ rfl rfl rfl Tryz.underlying68 (by kernel_rfl) au rfl (by decide) (b:=56) (by kernel_rfl) ex.own hrd (by intro x hx;simp[aC,Value.cells] at hx;rcases hx with rfl|rfl|rfl|rfl<;>rfl) bel.size (by simp only[maxLen];omega) (by omega) rfl rfl rfl ?_;intro v9 wa own9 ha hv9;have ex2:=ex.add rs (Nat.le_trans hH (Nat.le_refl _)) hwH own9 ha hv9;replace bel:=bel.trans ha.below;clear ex;obtain⟨Ao2,co2,rfl,-⟩:=own9.reads;clear own9 ha hrd hv9;refine Za ?_;refine cw 4 6 7 9 10 11 12 13 23 (ab.ag (et ?_));refine dq ?_;refine Zm ?_;refine cw 4 6 7 9 10 11 12 13 23 ?_;refine ab.round (k+1,es++[x],_, .slice Ao2 (es.length+1) co2,_,wa.heap.size) ⟨rfl,rfl,rfl,rfl,trivial⟩ ⟨by simp only;omega,by simp only[List.length_append,List.length_cons,List.length_nil];omega,hR,bel,ex2,bel.size⟩ (by simp only;omega)
 ·obtain rfl:k=n:=by omega
  rw[←hn,List.drop_length,jY] at hR;subst hR;refine Cd.exit (ab.aD (ab.ay (ab.aA (az ?_))));refine Zm ?_;refine Za ?_;refine Za ?_;refine ba 2 3 4 10 11 12 13 (Zt (Cd.ret ?_));refine cG ?_;exact⟨bel,Ao,co,rfl,ex.at⟩
theorem su {a b:Int}(h:a=b):some (Value.int .i64 a)=some (Value.int .i64 b):=by rw[h]
def oL (s:List Nat):Prop:=∀d∈s,d<256
theorem oL.drop {s:List Nat}(h:oL s)(k:Nat):oL (s.drop k):=fun d hd=>h d (List.mem_of_mem_drop hd)
theorem oL.take {s:List Nat}(h:oL s)(k:Nat):oL (s.take k):=fun d hd=>h d (List.mem_of_mem_take hd)
def gr:Nat→Nat→List Nat→Option (Nat × List Nat)
 |_,_,[]=>none
 |i,n,c::r=>if(i=9∧1<c)∨(0<i∧c=0) then none else if c<128 then some (n+c%128*2^(7*i),r) else gr (i+1) (n+c%128*2^(7*i)) r
def gP (s:List Nat):Option (Nat × List Nat):=gr 0 0 s
theorem BP (i:Nat):2^(7*(i+1))=2^(7*i)*128:=by rw[Nat.mul_add,Nat.pow_add]
def ja (s:List Nat):Option (Nat × List Nat):=(gP s).bind fun x=>if x.1<9223372036854775808 then some x else none
def eV (n:Int)(s:List Nat):Option (List Nat × List Nat):=if 0≤n∧n≤(s.length:Int) then some (s.take n.toNat,s.drop n.toNat) else none
def jB (n:Nat):Int:=if n%2=0 then((n/2:Nat):Int) else -((n/2:Nat):Int)-1
def sS (s:List Nat):Option (Int × List Nat):=(gP s).map fun x=>(jB x.1,x.2)
theorem vW {n:Nat}(h:n<18446744073709551616):j9 (jB n)=n∧bu (jB n):=by
 unfold jB j9 bu;split
 ·rw[if_pos (by omega)];omega
 ·rw[if_neg (by omega)];omega
section
variable {α:Type} {one:List Nat→Option (α × List Nat)} {enc:α→List Nat} {ok:α→Prop}
end
structure Kf (g:Nat)(w w':World):Prop where
 only:w.grownBy w' (some g)
section
variable {g:Nat} {w w' w'':World}
theorem Kf.refl (g:Nat)(w:World):Kf g w w:=⟨jK (Below.refl _ _) _⟩
theorem Kf.trans (h:Kf g w w')(k:Kf g w' w''):Kf g w w'':=⟨mJ h.only k.only⟩
theorem Kf.step (h:Kf g w w')(k:Below w'.heap.size w' w''):Kf g w w'':=⟨mV h.only k⟩
theorem Kf.size (h:Kf g w w'):w.heap.size≤w'.heap.size:=h.only.size
theorem Kf.put {g':Nat}{T:TypeId}{cur cs:Array Value}(h:Kf g w w')(_k:aE w' g' T cur)(p:gI w' w'' g' T cs)(e:w.heap.size≤g'):Kf g w w'':=
 ⟨p.grown.os.trans h.only.os,p.grown.tape.trans h.only.tape,p.grown.output.trans h.only.output,by have:=p.size;have:=h.size;omega,fun k hk hne=>(p.grown.block k (by have:=h.size;omega) (fun e'=>by injection e' with e';omega)).trans (h.only.block k hk hne)⟩
theorem Kf.own {T:TypeId}{cs:Array Value}(h:Kf g w w')(p:gI w' w'' g T cs):Kf g w w'':=h.trans ⟨p.grown⟩
theorem Kf.to {B:Nat}(h:Kf g w w')(hB:B≤g)(hg:g<w.heap.size):Below B w w':=gh h.only hB hg
end
def Rd (T:TypeId)(w:World)(g:Nat)(o:Option (List Nat)):Prop:=∃s b,aE w g T #[.string (strOf s), .bool b]∧oL s∧o=if b=true then none else some s
section
variable {T:TypeId} {w w' w'':World} {g:Nat} {o:Option (List Nat)}
theorem Rd.step (h:Rd T w g o)(k:Below w.heap.size w w'):Rd T w' g o:=by
 obtain⟨s,b,h1,h2,h3⟩:=h;exact⟨s,b,h1.step k,h2,h3⟩
theorem Rd.put {g' B:Nat}{T':TypeId}{cur cs:Array Value}(h:Rd T w g o)(k:aE w g' T' cur)(p:gI w w' g' T' cs)(_e:B≤g')(hne:T≠T':=by decide):Rd T w' g o:=by
 obtain⟨s,b,h1,h2,h3⟩:=h;exact⟨s,b,h1.put p (h1.ne k hne),h2,h3⟩
theorem Rd.lt (h:Rd T w g o):g<w.heap.size:=by
 obtain⟨s,b,h1,-⟩:=h;exact h1.lt
theorem Kf.kf (h:Kf g w w')(f:Kf g w' w'')(_rd:Rd T w' g o):Kf g w w'':=h.trans f
theorem aE.kf {k:Nat}{t:TypeId}{cs:Array Value}(h:aE w k t cs)(f:Kf g w w')(rd:Rd T w g o)(hne:t≠T:=by decide):aE w' k t cs:=by
 obtain⟨s,b,h1,-⟩:=rd;exact h.grown f.only (fun e=>h.ne h1 hne (by injection e))
theorem Own.kf {B size n:Nat}{e:TypeId}{v:Value}{xs:List Value}(h:Own w B e size v n xs)(f:Kf g w w')(rd:Rd T w g o)(hne:e≠T:=by decide):Own w' B e size v n xs:=by
 obtain⟨s,b,h1,-⟩:=rd;exact⟨h.row.kept f.only (mO h.row h1 hne)⟩
theorem Rd.bad {s:List Nat}(k:aE w g T #[.string (strOf s), .bool true]) (hs:oL s):Rd T w g none:=⟨s,true,k,hs,rfl⟩
theorem Rd.Be {s:List Nat}(k:aE w g T #[.string (strOf s), .bool false]) (hs:oL s):Rd T w g (some s):=⟨s,false,k,hs,rfl⟩
end
def rest {α:Type}(p:List Nat→Option (α × List Nat))(o:Option (List Nat)):Option (List Nat):=(o.bind p).map Prod.snd
def tz {α:Type}(p:List Nat→Option (α × List Nat))(o:Option (List Nat))(z:α):Prop:=∀a r,o.bind p=some (a,r)→z=a
theorem gK {α:Type}{p:List Nat→Option (α × List Nat)}{o:Option (List Nat)}{z:α}(h:o.bind p=none):tz p o z:=fun a r e=>by rw[h] at e;cases e
theorem lG {α:Type}{p:List Nat→Option (α × List Nat)}{o:Option (List Nat)}{z:α}{r:List Nat}(h:o.bind p=some (z,r)):tz p o z:=fun a r' e=>by rw[h] at e;injection e with e;injection e
def m0 (n:Int)(o:Option (List Nat)):List Nat:=((o.bind (eV n)).map Prod.fst).getD []
theorem ec (g:Nat)(o:Option (List Nat))(w:World)(h:Rd 146 w g o):Calls Tryz.prog 87 #[.pointer (some ⟨g,0,none⟩)] w fun e w'=>e= .returned (.bool o.isSome)∧Grow w w':=by
 obtain⟨s,b,k0,hs,rfl⟩:=h;have bel:=Below.refl w.heap.size w;refine Zs 12 Tryz.func87 ?_;refine ah ?_;refine Za ?_;refine cZ 0 2 (az ?_);refine Zm ?_;refine Zv (aa.zP rfl rfl rfl Tryz.underlying86) ?_;refine Zm ?_;refine ar.start ?_;refine bB (fun hcx=>aa.move rfl rfl) ?_;refine Zn (fun hcx=>aa.nilCheck rfl rfl) ?_;refine Zn (fun hcx=>aa.aj 1 rfl rfl Tryz.underlying146 rfl (by kernel_rfl)) ?_;refine Zn (fun hcx=>aa.ak rfl rfl Tryz.underlying4 rfl k0 rfl) ?_;refine Zn (fun hcx=>aa.not rfl rfl) ?_;refine dL ?_;refine Za ?_;refine cZ 0 2 (Zt (Cd.ret ?_));refine aP ?_;exact⟨aO (aB (by cases b<;>rfl)),bel⟩
theorem gL (g:Nat)(o:Option (List Nat))(w:World)(h:Rd 146 w g o):Calls Tryz.prog 85 #[.pointer (some ⟨g,0,none⟩)] w fun e w'=>e= .returned (.tuple #[])∧Kf g w w'∧Rd 146 w' g none:=by
 obtain⟨s,b,k0,hs,rfl⟩:=h;refine Zs 7 Tryz.func85 ?_;refine ah ?_;refine Zm ?_;refine Zv (aa.zP rfl rfl rfl Tryz.underlying86) ?_;refine cZ 0 3 (Zt ?_);refine Cd.aM rfl rfl ?_;refine Zr ?_;refine Zm ?_;refine Zv (aa.nilCheck rfl rfl) ?_;refine Zf 1 Tryz.underlying146 ?_;refine Zq k0 ?_;intro w1 pw1;replace k0:=pw1.an;refine cZ 0 3 ?_;refine ab.du rfl (.inr rfl) ?_;exact⟨rfl,⟨pw1.grown⟩,Rd.bad k0 hs⟩
theorem gE (g:Nat)(n:Int)(o:Option (List Nat))(w:World)(h:Rd 146 w g o):Calls Tryz.prog 86 #[.pointer (some ⟨g,0,none⟩), .int .i64 n] w fun e w'=>e= .returned (.string (strOf (m0 n o)))∧Kf g w w'∧Rd 146 w' g (rest (eV n) o):=by
 have rd:=h;obtain⟨s,b,k0,hs,ho⟩:=h;have kf:=Kf.refl g w;refine Zs 40 Tryz.func86 ?_;refine ah ?_;refine Za ?_;refine bk 0 1 4 (aH (ah ?_));refine Zm ?_;refine Zc (Ze Tryz.func87) (ec g o _ rd) ?_;rintro e w5 ⟨rfl,hb5⟩;refine⟨_,rfl,?_⟩;replace kf:=kf.step hb5;replace rd:=rd.step hb5;replace k0:=k0.step hb5;refine gU ?_;refine Zm ?_;refine ar.start ?_;refine bB (fun hcx=>aa.move rfl rfl) ?_;refine Zn (fun hcx=>aa.lss rfl rfl rfl) ?_;refine fh ?_;refine Zm ?_;refine ar.start ?_;refine bB (fun hcx=>aa.move rfl rfl) ?_;refine jL ?_;refine Zn (fun hcx=>aa.nilCheck rfl rfl) ?_;refine Zn (fun hcx=>aa.aj 0 rfl rfl Tryz.underlying146 rfl (by kernel_rfl)) ?_;refine Zn (fun hcx=>aa.ak rfl rfl Tryz.underlying9 rfl k0 rfl) ?_;refine Zn (fun hcx=>aa.ed rfl rfl Tryz.underlying9) ?_;refine Zn (fun hcx=>aa.gtr rfl rfl rfl) ?_;refine fh ?_;refine aS 0 1 4 21 (Zt ?_);refine Cd.cond rfl (fun h=> ?_) (fun h=> ?_)
 ·have hr:o.bind (eV n)=none:=by
   rw[ho]
   cases b with
   |true=>rfl
   |false=>
    rw[ho] at h;simp at h;show eV n s=none;unfold eV;rw[if_neg (by omega)]
  refine ah ?_;refine Zm ?_;refine Zc (Ze Tryz.func85) (gL g o _ rd) ?_;rintro e w1 ⟨rfl,fw1,rd'⟩;refine⟨_,rfl,?_⟩;replace kf:=kf.kf fw1 rd;replace rd:=rd';clear rd';refine aS 0 1 4 21 (az ?_);refine Za ?_;refine aS 0 1 4 21 (Zt (Cd.ret (ab.ae ?_)));refine aP ?_;unfold rest m0;rw[hr];exact⟨rfl,kf,rd⟩
 ·have hb:b=false:=by
   cases b with
   |false=>rfl
   |true=>rw[ho] at h;simp at h
  subst hb;have ho':o=some s:=ho;rw[ho'] at h;simp at h
  have hr:o.bind (eV n)=some (s.take n.toNat,s.drop n.toNat):=by
   rw[ho'];show eV n s=_;unfold eV;rw[if_pos (by omega)]
  refine Cd.skip (az ?_);refine Zm ?_;refine Zv (aa.nilCheck rfl rfl) ?_;refine Zf 0 Tryz.underlying146 ?_;refine ZL Tryz.underlying9 k0 ?_;refine Zm ?_;refine Zv (aa.sliceTo rfl rfl rfl Tryz.underlying9 (j:=n.toNat) (by omega) (by omega)) ?_;refine Za ?_;refine aL 0 1 4 5 21 (az ?_);refine Zm ?_;refine Zm ?_;refine Zv (aa.nilCheck rfl rfl) ?_;refine Zf 0 Tryz.underlying146 ?_;refine ZL Tryz.underlying9 k0 ?_;refine Zm ?_;refine Zv (aa.sliceFrom rfl rfl rfl Tryz.underlying9 (j:=n.toNat) (by omega) (by omega)) ?_;refine Zv (aa.nilCheck rfl rfl) ?_;refine Zf 0 Tryz.underlying146 ?_;refine Zq k0 ?_;intro w1 pw1;replace k0:=pw1.an;refine aL 0 1 4 5 21 (az ?_);refine Zm ?_;have kf2:=kf.own pw1;refine Za ?_;refine aL 0 1 4 5 21 (Zt (Cd.ret ?_));refine aP ?_;unfold rest m0;rw[hr];exact⟨rfl,kf2,Rd.Be k0 (hs.drop _)⟩
theorem df {α:Type}{p:List Nat→Option (α × List Nat)}{o:Option (List Nat)}(h:o.bind p=none):rest p o=none:=by unfold rest;rw[h];rfl
theorem fu {α:Type}{p:List Nat→Option (α × List Nat)}{o:Option (List Nat)}{z:α}{r:List Nat}(h:o.bind p=some (z,r)):rest p o=some r:=by unfold rest;rw[h];rfl
theorem xn {i:Nat}(hi:i≤9):2^(7*i)≤9223372036854775808:=by
 have:2^(7*i)≤2^63:=Nat.pow_le_pow_right (by omega) (by omega);exact this
theorem yw {i c:Nat}(hi:i≤9)(hc:i=9→c≤1):c%128*2^(7*i)≤18446744073709551616-2^(7*i):=by
 have hm:c%128≤127:=by omega
 rcases Nat.lt_or_ge i 9 with h|h
 ·have h1:2^(7*i)≤2^56:=Nat.pow_le_pow_right (by omega) (by omega)
  have h2:c%128*2^(7*i)≤127*2^56:=Nat.mul_le_mul hm h1;omega
 ·obtain rfl:i=9:=by omega
  have:=hc rfl;have h3:(2:Nat)^(7*9)=9223372036854775808:=rfl;rw[h3];omega
theorem zk {i n c:Nat}(hi:i≤9)(hc:i=9→c≤1)(hn:n<2^(7*i)):c%128*2^(7*i)<18446744073709551616∧n+c%128*2^(7*i)<18446744073709551616∧n<18446744073709551616:=by
 have h1:=xn hi;have h2:=yw hi hc;have h3:0<2^(7*i):=Nat.two_pow_pos _
 generalize c%128*2^(7*i)=T at *
 generalize 2^(7*i)=p at *
 omega
theorem xv {c i:Nat}(h:c%128*2^(7*i)<18446744073709551616):IntKind.u64.wrap (((c%2^7:Nat):Int)*2^(7*i))=((c%128*2^(7*i):Nat):Int):=by
 have e:((c%2^7:Nat):Int)*2^(7*i)=((c%128*2^(7*i):Nat):Int):=by rw[Int.natCast_mul,Int.natCast_pow];rfl
 rw[e];exact m8 (Int.natCast_nonneg _) (Int.ofNat_lt.2 h)
theorem lY (g:Nat)(o:Option (List Nat))(w:World)(h:Rd 146 w g o):Calls Tryz.prog 84 #[.pointer (some ⟨g,0,none⟩)] w fun e w'=>∃z:Nat,(z<18446744073709551616∧tz gP o z∧e= .returned (.int .u64 (z:Int)))∧Kf g w w'∧Rd 146 w' g (rest gP o):=by
 have rd:=h;have kf:=Kf.refl g w;refine Zs 42 Tryz.func84 ?_;refine ah ?_;refine Za ?_;refine cZ 0 2 (az ?_);refine Za ?_;refine bk 0 2 3 (az ?_);refine Za ?_;refine aS 0 2 3 4 (Zt (Cd.block ?_))
 refine Cd.loop (σ:=Nat × Nat × Option (List Nat)) (fun s=>[(0, .pointer (some ⟨g,0,none⟩)),(3, .int .u64 (s.2.1:Int)),(4, .int .i64 (s.1:Int))])
  (fun s wr=>s.1≤9∧s.2.1<2^(7*s.1)∧s.2.2.bind (gr s.1 s.2.1)=o.bind gP∧Kf g w wr∧Rd 146 wr g s.2.2) (fun s=>10-s.1) (0,0,o) ⟨Nat.zero_le _,(show 0<2^(7*0) by decide),rfl,kf,rd⟩ ⟨rfl,rfl,rfl,trivial⟩ ?_
 clear kf rd;rintro⟨i,n,q⟩ wr ⟨hi,hn,hq,kf,rd⟩;simp only at hi hn hq rd;show Cd _ _ _ _ [(0, .pointer (some ⟨g,0,none⟩)),(3, .int .u64 (n:Int)),(4, .int .i64 (i:Int))] _;have hlow:=xn hi;refine Cd.seq (Cd.block (ah ?_));refine Zm ?_;have hbyt0:=rd;refine Zc (Ze Tryz.func86) (gE g 1 q _ rd) ?_;rintro e w1 ⟨rfl,fw1,rd'⟩;refine⟨_,rfl,?_⟩;replace kf:=kf.kf fw1 rd;replace rd:=rd';clear rd'
 cases hqq:q.bind (eV 1) with
 |none=>
  have hnone:o.bind gP=none:=by
   rw[←hq]
   cases q with
   |none=>rfl
   |some s=>
    cases s with
    |nil=>rfl
    |cons c r=>
     exfalso;have:eV 1 (c::r)=none:=hqq;unfold eV at this;rw[if_pos (by simp;omega)] at this
     cases this
  rw[df hqq] at rd;rw[show m0 1 q=[] by unfold m0;rw[hqq];rfl];refine Za ?_;refine aS 0 3 4 5 (aH (ah ?_));refine Zm ?_;refine Zv (aa.ck (a:=[]) (b:=[]) rfl rfl rfl (by simp) (by simp)) ?_;refine aL 0 3 4 5 12 (Zt ?_);refine Cd.aM rfl rfl ?_;refine ah ?_;refine Za ?_;refine aV 0 2 3 4 5 12 (Zt (Cd.ret (ab.ae (ab.af (ab.ae (ab.aJ (ab.af ?_)))))));refine aP ?_;refine⟨0,⟨by decide,gK hnone,rfl⟩,kf,?_⟩;rw[df hnone];exact rd
 |some x=>
  obtain⟨c,r,rfl⟩:∃c r,q=some (c::r):=by
   cases q with
   |none=>cases hqq
   |some s=>
    cases s with
    |nil=>exact absurd (show eV 1 []=some x from hqq) (by simp[eV])
    |cons c r=>exact⟨c,r,rfl⟩
  have hx:x=([c],r):=by
   have:eV 1 (c::r)=some x:=hqq;unfold eV at this;rw[if_pos (by simp;omega)] at this;injection this with this
   rw[←this];rfl
  subst hx;have rdc:=hbyt0;rw[fu hqq] at rd;rw[show m0 1 (some (c::r))=[c] by unfold m0;rw[hqq];rfl]
  have hbr:oL (c::r):=by
   obtain⟨s',b',-,hs',ho'⟩:=rdc
   cases b' with
   |true=>cases ho'
   |false=>injection ho' with ho';rw[ho'];exact hs'
  have hc:=hbr c List.mem_cons_self;have hgr:gr i n (c::r)=if(i=9∧1<c)∨(0<i∧c=0) then none else if c<128 then some (n+c%128*2^(7*i),r) else gr (i+1) (n+c%128*2^(7*i)) r:=rfl;replace hq:gr i n (c::r)=o.bind gP:=hq;rw[hgr] at hq;refine Za ?_;refine aS 0 3 4 5 (aH (ah ?_));refine Zm ?_;refine Zv (aa.ck (a:=[c]) (b:=[]) rfl rfl rfl (by intro x hx;simp at hx;omega) (by simp)) ?_;refine aL 0 3 4 5 12 (Zt ?_);refine Cd.aI rfl (decide_eq_false (by simp)) ?_;refine Cd.skip (az ?_);refine Zm ?_;refine Zv (aa.fM (j:=0) (c:=c) rfl rfl rfl Tryz.underlying9 rfl rfl hc) ?_;refine Zv (aa.fe rfl rfl Tryz.underlying5 Tryz.underlying94 (m8 (by omega) (by omega))) ?_;refine Za ?_;refine aV 0 3 4 5 6 12 (aH (ah ?_));refine Zm ?_;refine aX ?_;refine Zm ?_;refine ar.start ?_;refine bB (fun hcx=>aa.move rfl rfl) ?_;refine Zn (fun hcx=>aa.gtr rfl rfl rfl) ?_;refine dL ?_;refine Zm ?_;refine ar.start ?_;refine bB (fun hcx=>aa.move rfl rfl) ?_;refine Zn (fun hcx=>aa.gtr rfl rfl rfl) ?_;refine jL ?_;refine bB (fun hcx=>aa.move rfl rfl) ?_;refine Zn (fun hcx=>aa.fK rfl rfl rfl) ?_;refine ar.tv rfl rfl rfl rfl rfl rfl rfl rfl rfl rfl rfl ?_;refine fh ?_;refine ba 0 3 4 5 6 12 29 (Zt ?_);refine Cd.cond rfl (fun h=> ?_) (fun h=> ?_)
  ·rw[if_pos (by simp at h;omega)] at hq
   refine ah ?_;refine Zm ?_;refine Zc (Ze Tryz.func85) (gL g _ _ rd) ?_;rintro e w2 ⟨rfl,fw2,rd'⟩;refine⟨_,rfl,?_⟩;replace kf:=kf.kf fw2 rd;replace rd:=rd';clear rd';refine ba 0 3 4 5 6 12 29 (az ?_);refine Za ?_;refine bO 0 2 3 4 5 6 12 29 (Zt (Cd.ret (ab.ae (ab.af (ab.ae (ab.aJ (ab.af ?_)))))));refine aP ?_;refine⟨0,⟨by decide,gK hq.symm,rfl⟩,kf,?_⟩;rw[df hq.symm];exact rd
  ·rw[if_neg (by simp at h;omega)] at hq
   have h9:i=9→c≤1:=by simp at h;omega
   obtain⟨b1,b2,b3⟩:=zk hi h9 hn;have hmin:min (7*(i:Int)).toNat IntKind.u64.bits=7*i:=by simp[IntKind.bits];omega
   refine Cd.skip (az ?_);refine Zm ?_;refine Zm ?_;refine Zv (aa.zF (m:=127) 7 rfl rfl rfl rfl (by omega) (by omega)) ?_;refine Zm ?_;refine Zv (aa.qD rfl rfl rfl (by omega) (by omega)) ?_;refine Zv (aa.Bp (r:=((c%128*2^(7*i):Nat):Int)) rfl rfl rfl (by omega) (by rw[hmin];exact xv b1)) ?_;refine Zv (aa.xl (a:=n) (b:=c%128*2^(7*i)) (r:=n+c%128*2^(7*i)) rfl rfl rfl b3 b1 (.inr (.inl ⟨rfl,by rw[Nat.or_comm,Nat.mul_comm (c%128),←Nat.two_pow_add_eq_or_of_lt hn,Nat.add_comm]⟩))) ?_;refine Za ?_;refine ba 0 3 4 5 6 12 29 (az ?_);refine Zm ?_;refine eU ?_;refine bO 0 3 4 5 6 12 29 40 (Zt ?_);refine Cd.ao rfl (fun hc=> ?_) (fun hc=> ?_)
   ·rw[if_pos (by omega)] at hq
    refine ah ?_;refine Zm ?_;refine Za ?_;refine cw 0 2 3 4 5 6 12 29 40 (Zt (Cd.ret (ab.af (ab.ae (ab.aJ (ab.af ?_))))));refine aP ?_;refine⟨_,⟨b2,lG hq.symm,rfl⟩,kf,?_⟩;rw[fu hq.symm];exact rd
   ·rw[if_neg (by omega)] at hq
    have hi8:i<9:=by omega
    refine Cd.skip (ab.ag (et ?_));refine Zm ?_;refine dq ?_;refine Za ?_;refine bO 0 3 4 5 6 12 29 40 ?_;refine ab.round (i+1,n+c%128*2^(7*i),some r) ⟨rfl,rfl,rfl,trivial⟩ ⟨by simp only;omega,?_,hq,kf,rd⟩ (by simp only;omega);simp only;rw[BP];have hm:c%128≤127:=by omega
    have:=Nat.mul_le_mul_right (2^(7*i)) hm;omega
theorem dJ (g:Nat)(o:Option (List Nat))(w:World)(h:Rd 146 w g o):Calls Tryz.prog 42 #[.pointer (some ⟨g,0,none⟩)] w fun e w'=>∃z:Nat,(z<9223372036854775808∧tz ja o z∧e= .returned (.int .i64 (z:Int)))∧Kf g w w'∧Rd 146 w' g (rest ja o):=by
 have rd:=h;have kf:=Kf.refl g w;have hsz:o.bind ja=(o.bind gP).bind fun x=>if x.1<9223372036854775808 then some x else none:=by cases o<;>rfl
 refine Zs 12 Tryz.func42 ?_;refine ah ?_;refine Za ?_;refine cZ 0 2 (az ?_);refine Zm ?_;refine Zc (Ze Tryz.func84) (lY g o _ rd) ?_;rintro e w1 ⟨z,⟨hz,hv,rfl⟩,fw1,rd'⟩;refine⟨_,rfl,?_⟩;replace kf:=kf.kf fw1 rd;replace rd:=rd';clear rd';refine Za ?_;refine bk 0 2 3 (aH (ah ?_));refine Zm ?_;refine oo ?_;refine aS 0 2 3 7 (Zt ?_);refine Cd.ao rfl (fun hc=> ?_) (fun hc=> ?_)
 ·have hn:o.bind ja=none:=by
   rw[hsz]
   cases hx:o.bind gP with
   |none=>rfl
   |some x=>
    have:=hv x.1 x.2 hx;show(if x.1<_ then _ else _)=_;rw[if_neg (by omega)]
  refine ah ?_;refine Zm ?_;refine Zc (Ze Tryz.func85) (gL g _ _ rd) ?_;rintro e w2 ⟨rfl,fw2,rd'⟩;refine⟨_,rfl,?_⟩;replace kf:=kf.kf fw2 rd;replace rd:=rd';clear rd';refine aS 0 2 3 7 (az ?_);refine Za ?_;refine aS 0 2 3 7 (Zt (Cd.ret (ab.ae ?_)));refine aP ?_;refine⟨0,⟨by decide,gK hn,rfl⟩,kf,?_⟩;rw[df hn];exact rd
 ·have hr:rest ja o=rest gP o∧tz ja o z:=by
   cases hx:o.bind gP with
   |none=>rw[hx] at hsz;exact⟨by rw[df hx,df hsz],gK hsz⟩
   |some x=>
    obtain⟨m,r⟩:=x;have e:=hv m r hx;subst e;rw[hx] at hsz
    have hs2:o.bind ja=some (z,r):=by
     rw[hsz];show(if z<_ then _ else _)=_;rw[if_pos (by omega)]
    exact⟨by rw[fu hx,fu hs2],lG hs2⟩
  refine Cd.skip (az ?_);refine Zm ?_;refine Zv (aa.fe rfl rfl Tryz.underlying94 Tryz.underlying3 (jA (by omega) (by omega))) ?_;refine Za ?_;refine aS 0 2 3 7 (Zt (Cd.ret ?_));refine aP ?_;refine⟨z,⟨by omega,hr.2,rfl⟩,kf,?_⟩;rw[hr.1];exact rd
theorem mj (p q:Int)(w:World){P:Program}(hp:0≤p)(hp2:p<9223372036854775808)(hq:q=0∨q= -1):(Op.intBits .xor .i64 p q).run P w= .ok (.int .i64 (if q=0 then p else -p-1)) w:=by
 have e1:(BitVec.ofInt IntKind.i64.bits p).toNat=p.toNat:=by simp[IntKind.bits];omega
 have hx:IntKind.i64.wrap (((BitVec.ofInt IntKind.i64.bits p)^^^(BitVec.ofInt IntKind.i64.bits q)).toNat:Int)=if q=0 then p else -p-1:=by
  rcases hq with rfl|rfl
  ·have:BitVec.ofInt IntKind.i64.bits p^^^BitVec.ofInt IntKind.i64.bits 0=BitVec.ofInt IntKind.i64.bits p:=by simp
   rw[this,e1,if_pos rfl,IntKind.wrap_i64];omega
  ·have h1:BitVec.ofInt 64 (-1)=BitVec.allOnes 64:=by decide
   have e2:(BitVec.ofInt 64 p).toNat=p.toNat:=e1;show IntKind.i64.wrap (((BitVec.ofInt 64 p)^^^(BitVec.ofInt 64 (-1))).toNat:Int)=_;rw[h1,BitVec.xor_allOnes,BitVec.toNat_not,e2,if_neg (by decide),IntKind.wrap_i64];have:(2:Nat)^64=18446744073709551616:=rfl;rw[this];omega
 unfold Op.intBits;simp only[hx];rfl
theorem rW (g:Nat)(o:Option (List Nat))(w:World)(h:Rd 146 w g o):Calls Tryz.prog 44 #[.pointer (some ⟨g,0,none⟩)] w fun e w'=>∃z:Int,(bu z∧tz sS o z∧e= .returned (.int .i64 z))∧Kf g w w'∧Rd 146 w' g (rest sS o):=by
 have rd:=h;have kf:=Kf.refl g w;have hsz:o.bind sS=(o.bind gP).map fun x=>(jB x.1,x.2):=by cases o<;>rfl
 refine Zs 14 Tryz.func44 ?_;refine ah ?_;refine Za ?_;refine cZ 0 2 (az ?_);refine Zm ?_;refine Zc (Ze Tryz.func84) (lY g o _ rd) ?_;rintro e w1 ⟨z,⟨hz,hv,rfl⟩,fw1,rd'⟩;refine⟨_,rfl,?_⟩;replace kf:=kf.kf fw1 rd;replace rd:=rd';clear rd'
 have hr:rest sS o=rest gP o∧tz sS o (jB z):=by
  cases hx:o.bind gP with
  |none=>
   rw[hx] at hsz;have hsz:o.bind sS=none:=hsz;exact⟨by rw[df hx,df hsz],gK hsz⟩
  |some x=>
   obtain⟨m,r⟩:=x;have e:=hv m r hx;subst e;rw[hx] at hsz;have hs2:o.bind sS=some (jB z,r):=hsz;exact⟨by rw[fu hx,fu hs2],lG hs2⟩
 have hm:z%2^1=z%2:=rfl
 have hun:jB z=if -((z%2:Nat):Int)=0 then((z/2:Nat):Int) else -((z/2:Nat):Int)-1:=by
  unfold jB
  by_cases h2:z%2=0
  ·rw[if_pos h2,if_pos (by omega)]
  ·rw[if_neg h2,if_neg (by omega)]
 refine Za ?_;refine bk 0 2 3 (az ?_);refine Zm ?_;refine Zv (aa.Bm rfl rfl rfl (s:=1) rfl (by omega)) ?_;refine Zv ((aa.fe rfl rfl Tryz.underlying94 Tryz.underlying2 (jA (by omega) (by omega))).cast (v':= .int .i64 ((z/2:Nat):Int)) rfl) ?_;refine Zm ?_;refine Zv (aa.zF (m:=1) 1 rfl rfl rfl rfl (by omega) (by omega)) ?_;refine Zv ((aa.fe rfl rfl Tryz.underlying94 Tryz.underlying2 (jA (by omega) (by omega))).cast (v':= .int .i64 ((z%2:Nat):Int)) rfl) ?_;refine Zv (aa.neg rfl rfl (r:= -((z%2:Nat):Int)) (by rw[IntKind.wrap_i64];omega)) ?_;refine Zv (aa.bin rfl rfl rfl rfl (mj _ _ _ (by omega) (by omega) (by omega))) ?_;rw[←hun];refine Za ?_;refine bk 0 2 3 (Zt (Cd.ret ?_));refine aP ?_;refine⟨jB z,⟨(vW hz).2,hr.2,rfl⟩,kf,?_⟩;rw[hr.1];exact rd
theorem wM (g:Nat)(o:Option (List Nat))(w:World)(h:Rd 146 w g o):Calls Tryz.prog 45 #[.pointer (some ⟨g,0,none⟩)] w fun e w'=>e= .returned (.bool (decide (o=some [])))∧Grow w w':=by
 have rd:=h;obtain⟨s,b,k0,hs,ho⟩:=h;have bel:=Below.refl w.heap.size w;refine Zs 13 Tryz.func45 ?_;refine ah ?_;refine Za ?_;refine cZ 0 2 (az ?_);refine Zm ?_;refine Zc (Ze Tryz.func87) (ec g o _ rd) ?_;rintro e w5 ⟨rfl,hb5⟩;refine⟨_,rfl,?_⟩;replace bel:=bel.step hb5;replace k0:=k0.step hb5;refine Zm ?_;refine ar.start ?_;refine bB (fun hcx=>aa.move rfl rfl) ?_;refine Zn (fun hcx=>aa.nilCheck rfl rfl) ?_;refine Zn (fun hcx=>aa.aj 0 rfl rfl Tryz.underlying146 rfl (by kernel_rfl)) ?_;refine Zn (fun hcx=>aa.ak rfl rfl Tryz.underlying9 rfl k0 rfl) ?_;refine Zn (fun hcx=>aa.ed rfl rfl Tryz.underlying9) ?_;refine Zn (fun hcx=>aa.fK rfl rfl rfl) ?_;refine dL ?_;refine Za ?_;refine cZ 0 2 (Zt (Cd.ret ?_));refine aP ?_;refine⟨aO (aB ?_),bel⟩;subst ho
 cases b with
 |true=>rfl
 |false=>
  cases s with
  |nil=>rfl
  |cons c r=>simp;omega
theorem xR (s:List Nat)(w:World)(hs:oL s):Calls Tryz.prog 41 #[.string (strOf s)] w fun e w'=>∃g,e= .returned (.pointer (some ⟨g,0,none⟩))∧Grow w w'∧w.heap.size≤g∧Rd 146 w' g (some s):=by
 have bel:=Below.refl w.heap.size w
 have hb:∀W,(Instr.build 146 #[(0, .string (strOf s))]).run Tryz.prog W= .ok (.agg #[.string (strOf s), .bool false]) W:=fun W=>by
  have hu:=Tryz.underlying146
  go_simp
 refine Zs 6 Tryz.func41 ?_;refine ah ?_;refine Za ?_;refine cZ 0 2 (az ?_);refine Zm ?_;refine Zv (aa.build rfl rfl (hb _)) ?_;refine Seq.box rfl rfl rfl rfl rfl ?_;intro g5 w1 n5;have e5:=Nat.le_trans bel.size n5.ge;replace bel:=bel.step n5.below;have k5:=n5.an;refine Za ?_;refine cZ 0 2 (Zt (Cd.ret ?_));refine aP ?_;exact⟨_,rfl,bel,e5,Rd.Be k5 hs⟩
theorem Rd.zJ {T:TypeId}{w:World}{g:Nat}{s:List Nat}(h:Rd T w g (some s)):oL s:=by
 obtain⟨s',b',-,hs',ho'⟩:=h
 cases b' with
 |true=>cases ho'
 |false=>injection ho' with ho';rw[ho'];exact hs'
section
variable {T:TypeId} {g:Nat} {w w' w'':World} {o:Option (List Nat)}
end
theorem Kf.app {g n:Nat}{w0 w w':World}{v:Value}{B size:Nat}{e:TypeId}{xs:List Value}(h:Kf g w0 w)(_o:Own w B e size v n xs)(ha:App w w' w0.heap.size v):Kf g w0 w':=
 ⟨ha.below.os.trans h.only.os,ha.below.tape.trans h.only.tape,ha.below.output.trans h.only.output,Nat.le_trans h.only.size ha.below.size,fun k hk hne=>(ha.below.block k hk).trans (h.only.block k hk hne)⟩
theorem Rd.app {g n B B' size:Nat}{w w':World}{T e:TypeId}{q:Option (List Nat)}{v:Value}{xs:List Value}(h:Rd T w g q)(o:Own w B e size v n xs)(ha:App w w' B' v)(hne:e≠T:=by decide):Rd T w' g q:=by
 obtain⟨s,b,h1,h2,h3⟩:=h;exact⟨s,b,h1.app o ha hne,h2,h3⟩
theorem yn {T:TypeId}{w:World}{g:Nat}{q:Option (List Nat)}(h:Rd T w g q)(n:Int)(m:Nat)(hm:q≠none→n≤m):oL (m0 n q)∧(m0 n q).length≤m:=by
 have h0:oL ([]:List Nat)∧([]:List Nat).length≤m:=⟨(fun d hd=>by cases hd),Nat.zero_le _⟩
 cases q with
 |none=>exact h0
 |some s=>
  have hb:=h.zJ;have hn:=hm (by simp)
  by_cases hc:0≤n∧n≤(s.length:Int)
  ·have e:m0 n (some s)=s.take n.toNat:=by
    show(((eV n s).map Prod.fst).getD [])=_;unfold eV;rw[if_pos hc];rfl
   rw[e];exact⟨hb.take _,by rw[List.length_take];omega⟩
  ·have e:m0 n (some s)=[]:=by
    show(((eV n s).map Prod.fst).getD [])=_;unfold eV;rw[if_neg hc];rfl
   rw[e];exact h0
theorem eI (g most:Nat)(o:Option (List Nat))(w:World)(h:Rd 146 w g o):Calls Tryz.prog 43 #[.pointer (some ⟨g,0,none⟩), .int .i64 (most:Int)] w fun e w'=>∃(z:List Nat) (q:Option (List Nat)),(oL z∧z.length≤most∧e= .returned (.string (strOf z)))∧Kf g w w'∧Rd 146 w' g q:=by
 have rd:=h;have kf:=Kf.refl g w;refine Zs 16 Tryz.func43 ?_;refine ah ?_;refine Za ?_;refine bk 0 1 4 (az ?_);refine Zm ?_;refine Zc (Ze Tryz.func42) (dJ g o _ rd) ?_;rintro e w1 ⟨z,⟨hz,hv,rfl⟩,fw1,rd'⟩;refine⟨_,rfl,?_⟩;replace kf:=kf.kf fw1 rd;replace rd:=rd';clear rd';refine Za ?_;refine aS 0 1 4 5 (Zt ?_);refine Cd.kH (σ:=Unit) (fun _=>[(0, .pointer (some ⟨g,0,none⟩)),(5, .int .i64 (z:Int))]) (fun _ wr=>Kf g w wr∧Rd 146 wr g (if z≤most then rest ja o else none)) ?_ ?_
 ·skip
  refine ah ?_;refine Zm ?_;refine Zm ?_;refine qK ?_;refine aL 0 1 4 5 10 (Zt ?_);refine Cd.ao rfl (fun hc=> ?_) (fun hc=> ?_)
  ·skip
   refine Zr ?_;refine Zm ?_;refine Zc (Ze Tryz.func85) (gL g _ _ rd) ?_;rintro e w2 ⟨rfl,fw2,rd'⟩;refine⟨_,rfl,?_⟩;replace kf:=kf.kf fw2 rd;replace rd:=rd';clear rd';refine aL 0 1 4 5 10 ?_;exact ab.join () ⟨rfl,rfl,trivial⟩ ⟨kf,by rw[if_neg (by omega)];exact rd⟩
  ·skip
   refine Cd.skip ?_;exact ab.join () ⟨rfl,rfl,trivial⟩ ⟨kf,by rw[if_pos (by omega)];exact rd⟩
 clear kf rd;rintro⟨⟩ wr ⟨kf,rd⟩
 have hr:=yn rd z most (fun hne=>by
  by_cases hz3:z≤most
  ·omega
  ·rw[if_neg hz3] at hne;exact absurd rfl hne)
 refine ah ?_;refine Zm ?_;refine Zm ?_;refine Zc (Ze Tryz.func86) (gE g z _ _ rd) ?_;rintro e w2 ⟨rfl,fw2,rd'⟩;refine⟨_,rfl,?_⟩;replace kf:=kf.kf fw2 rd;replace rd:=rd';clear rd';refine Za ?_;refine bk 0 4 5 (Zt (Cd.ret ?_));refine aP ?_;exact⟨_,_,⟨hr.1,hr.2,rfl⟩,kf,rd⟩
theorem Ap (g:Nat)(o:Option (List Nat))(w:World)(h:Rd 146 w g o):Calls Tryz.prog 117 #[.pointer (some ⟨g,0,none⟩)] w fun e w'=>∃(z:List Nat) (q:Option (List Nat)),(oL z∧z.length≤16000∧e= .returned (.string (strOf z)))∧Kf g w w'∧Rd 146 w' g q:=by
 have rd:=h;have kf:=Kf.refl g w;refine Zs 5 Tryz.func117 ?_;refine ah ?_;refine Za ?_;refine cZ 0 2 (az ?_);refine Zm ?_;refine Zc (Ze Tryz.func43) (eI g 16000 o _ rd) ?_;rintro e w1 ⟨z,q,⟨hz,hv,rfl⟩,fw1,rd'⟩;refine⟨_,rfl,?_⟩;replace kf:=kf.kf fw1 rd;replace rd:=rd';clear rd';refine Za ?_;refine cZ 0 2 (Zt (Cd.ret ?_));refine aP ?_;exact⟨_,_,⟨hz,hv,rfl⟩,kf,rd⟩
theorem xD:∀args w,(callFunc 42 args).run Tryz.prog w= .ok (.enter 42 args) w:=fun args w=>aF Tryz.func42 (by kernel_rfl) rfl args w
theorem AW:∀args w,(callFunc 117 args).run Tryz.prog w= .ok (.enter 117 args) w:=fun args w=>aF Tryz.func117 (by kernel_rfl) rfl args w
theorem yR (l:List Nat)(x:Nat):DJ (l++[x])=DJ l++[.int .i64 (x:Int)]:=by simp[DJ]
theorem yJ (l:List (List Nat))(x:List Nat):DS (l++[x])=DS l++[.string (strOf x)]:=by simp[DS]
theorem uN (g most:Nat)(o:Option (List Nat))(w:World)(h:Rd 146 w g o)(hm:most≤20000):Calls Tryz.prog 118 #[.pointer (some ⟨g,0,none⟩), .int .i64 (most:Int), .func (.func 42) #[] #[]] w fun e w'=>∃(l:List Nat) (q:Option (List Nat)),(l.length≤most∧(∀x∈l,x<9223372036854775808)∧∃A c,e= .returned (.slice A l.length c)∧Own w' w.heap.size 3 1 (.slice A l.length c) l.length (DJ l))∧Kf g w w'∧Rd 146 w' g q:=by
 have rd:=h;have kf:=Kf.refl g w;refine Zs 34 Tryz.func118 ?_;refine ah ?_;refine Za ?_;refine aS 0 1 2 6 (az ?_);refine Zm ?_;refine Zc (Ze Tryz.func42) (dJ g o _ rd) ?_;rintro e w1 ⟨n,⟨hn,hv,rfl⟩,fw1,rd'⟩;refine⟨_,rfl,?_⟩;replace kf:=kf.kf fw1 rd;replace rd:=rd';clear rd';refine Za ?_;refine aL 0 1 2 6 7 (Zt ?_);refine Cd.kH (σ:=Option (List Nat)) (fun _=>[(0, .pointer (some ⟨g,0,none⟩)),(2, .func (.func 42) #[] #[]),(7, .int .i64 (n:Int))]) (fun q wr=>Kf g w wr∧Rd 146 wr g q∧(q.isSome=true→n≤most)) ?_ ?_
 ·skip
  refine ah ?_;refine Zm ?_;refine Zm ?_;refine qK ?_;refine aV 0 1 2 6 7 13 (Zt ?_);refine Cd.ao rfl (fun hc=> ?_) (fun hc=> ?_)
  ·skip
   refine Zr ?_;refine Zm ?_;refine Zc (Ze Tryz.func86) (gE g (-1) _ _ rd) ?_;rintro e w2 ⟨rfl,fw2,rd'⟩;refine⟨_,rfl,?_⟩;replace kf:=kf.kf fw2 rd;replace rd:=rd';clear rd'
   have hb:∀q:Option (List Nat),q.bind (eV (-1))=none:=fun q=>by
    cases q with
    |none=>rfl
    |some s=>show eV (-1) s=none;unfold eV;rw[if_neg (by omega)]
   rw[df (hb _)] at rd;refine aV 0 1 2 6 7 13 ?_;exact ab.join none ⟨rfl,rfl,rfl,trivial⟩ ⟨kf,rd,by simp⟩
  ·skip
   refine Cd.skip ?_;exact ab.join (rest ja o) ⟨rfl,rfl,rfl,trivial⟩ ⟨kf,rd,fun _=>by omega⟩
 clear kf rd;rintro q0 wr ⟨kf,rd,hq1⟩;refine ah ?_;refine Za ?_;refine aS 0 2 7 8 (aH (Cd.block ?_));have own:Own wr w.heap.size 3 1 (.slice none 0 0) 0 []:=Own.nil _ _ _ _
 refine Cd.loop (σ:=Nat × List Nat × Value × Option (List Nat)) (fun s=>[(0, .pointer (some ⟨g,0,none⟩)),(2, .func (.func 42) #[] #[]),(7, .int .i64 (s.1:Int)),(8,s.2.2.1)])
  (fun s wr=>s.1<9223372036854775808∧s.2.1.length≤most∧(s.2.2.2.isSome=true→s.2.1.length+s.1≤most)∧(∀x∈s.2.1,x<9223372036854775808)∧Kf g w wr∧Rd 146 wr g s.2.2.2∧Own wr w.heap.size 3 1 s.2.2.1 s.2.1.length (DJ s.2.1)) (fun s=>s.1) (n,[], .slice none 0 0,q0) ⟨hn,Nat.zero_le _,fun h=>by simpa using hq1 h,by simp,kf,rd,own⟩ ⟨rfl,rfl,rfl,rfl,trivial⟩ ?_
 clear kf rd;clear own;rintro⟨k,acc,v,q⟩ wr ⟨hk,hacc,hsome,hall,kf,rd,own⟩;simp only at hk hacc hsome hall rd own;show Cd _ _ _ _ [(0, .pointer (some ⟨g,0,none⟩)),(2, .func (.func 42) #[] #[]),(7, .int .i64 (k:Int)),(8,v)] _;refine Cd.seq (ah ?_);refine Zm ?_;refine qK ?_;refine Zm ?_;refine ar.start ?_;refine bB (fun hcx=>aa.move rfl rfl) ?_;refine ar.aW rfl rfl rfl rfl rfl rfl rfl (fun hcx=>Ze Tryz.func87) (fun hcx=>ec g q _ rd) ?_;intro w2 hw2;replace kf:=kf.step hw2;replace rd:=rd.step hw2;replace own:=own.step hw2;refine dL ?_;refine aL 0 2 7 8 21 (Zt ?_);refine Cd.cond rfl (fun h=> ?_) (fun h=> ?_)
 ·obtain⟨k,rfl⟩:∃j,k=j+1:=⟨k-1,by simp at h;omega⟩
  obtain⟨s,rfl⟩:∃s,q=some s:=by
   cases q with
   |none=>simp at h
   |some s=>exact⟨s,rfl⟩
  have hsm:=hsome rfl;refine Cd.skip (aH (Cd.block (Zr ?_)));refine Zm ?_;refine Zm ?_;refine Zm ?_;refine Seq.call (Enters.value (first:=[]) (cap:=[]) rfl rfl rfl xD) rfl rfl rfl (dJ g _ _ rd) ?_;rintro e w3 ⟨z,⟨hz,hv1,rfl⟩,fw3,rd'⟩;refine⟨_,rfl,?_⟩;replace kf:=kf.kf fw3 rd;replace own:=own.kf fw3 rd;replace rd:=rd';clear rd';refine Seq.slice (vs:=[_]) (s:=1) rfl rfl rfl Tryz.underlying96 (by kernel_rfl) (eu) (by omega) (by omega) ⟨rfl,trivial⟩ rfl rfl rfl ?_;intro g28 w4 n28;have e28:=Nat.le_trans kf.size n28.ge;replace kf:=kf.step n28.below;replace rd:=rd.step n28.below;replace own:=own.step n28.below;have k28:=n28.an;have hrd:=Reads.an (size:=1) k28 1 rfl;refine Seq.append rfl rfl rfl Tryz.underlying96 (by kernel_rfl) eu rfl (by decide) (b:=8) (by kernel_rfl) own (hrd) (by intro x hx;simp[aC,Value.cells] at hx;rw[hx];rfl) kf.size (by simp only[maxLen];omega) (by omega) rfl rfl rfl ?_;intro vw5 w5 ow5 haw5;replace kf:=kf.app own haw5;replace rd:=rd.app own haw5;clear own;have own:=ow5;refine Za ?_;refine aL 0 2 7 8 21 (ab.ag (et ?_));refine Zm ?_;refine qq ?_;refine Za ?_;refine aL 0 2 7 8 21 ?_;refine ab.round (k,acc++[z],_,_) ⟨rfl,rfl,su (by omega),rfl,trivial⟩ ⟨by simp only;omega,by simp;omega,fun hh=>by simp;omega,fun x hx=> ?_,kf,rd,by simp only;rw[List.length_append,yR];exact own⟩ (by simp);rcases List.mem_append.1 hx with hx|hx
  ·exact hall x hx
  ·simp at hx;subst hx;exact hz
 ·obtain⟨A,c,rfl,-⟩:=own.reads
  refine Cd.exit (ab.aD (ab.ay (ab.aA (aH (ah ?_)))));refine Zm ?_;refine Zc (Ze Tryz.func87) (ec g q _ rd) ?_;rintro e w5 ⟨rfl,hb5⟩;refine⟨_,rfl,?_⟩;replace kf:=kf.step hb5;replace rd:=rd.step hb5;replace own:=own.step hb5;refine gU ?_;refine aV 0 2 7 8 21 32 (Zt ?_);refine Cd.cond rfl (fun h2=> ?_) (fun h2=> ?_)
  ·skip
   refine ah ?_;refine Za ?_;refine ba 0 2 6 7 8 21 32 (Zt (Cd.ret (ab.ae ?_)));refine aP ?_;exact⟨[],_,⟨by simp,by simp,none,0,rfl,Own.nil _ _ _ _⟩,kf,rd⟩
  ·skip
   refine Cd.skip (az ?_);refine Zm ?_;refine Za ?_;refine ba 0 2 6 7 8 21 32 (Zt (Cd.ret ?_));refine aP ?_;exact⟨acc,_,⟨by omega,hall,A,c,rfl,own⟩,kf,rd⟩
theorem vM (g most:Nat)(o:Option (List Nat))(w:World)(h:Rd 146 w g o)(hm:most≤20000):Calls Tryz.prog 116 #[.pointer (some ⟨g,0,none⟩), .int .i64 (most:Int), .func (.func 117) #[] #[]] w fun e w'=>∃(l:List (List Nat)) (q:Option (List Nat)),(l.length≤most∧(∀x∈l,oL x∧x.length≤16000)∧∃A c,e= .returned (.slice A l.length c)∧Own w' w.heap.size 9 1 (.slice A l.length c) l.length (DS l))∧Kf g w w'∧Rd 146 w' g q:=by
 have rd:=h;have kf:=Kf.refl g w;refine Zs 34 Tryz.func116 ?_;refine ah ?_;refine Za ?_;refine aS 0 1 2 6 (az ?_);refine Zm ?_;refine Zc (Ze Tryz.func42) (dJ g o _ rd) ?_;rintro e w1 ⟨n,⟨hn,hv,rfl⟩,fw1,rd'⟩;refine⟨_,rfl,?_⟩;replace kf:=kf.kf fw1 rd;replace rd:=rd';clear rd';refine Za ?_;refine aL 0 1 2 6 7 (Zt ?_);refine Cd.kH (σ:=Option (List Nat)) (fun _=>[(0, .pointer (some ⟨g,0,none⟩)),(2, .func (.func 117) #[] #[]),(7, .int .i64 (n:Int))]) (fun q wr=>Kf g w wr∧Rd 146 wr g q∧(q.isSome=true→n≤most)) ?_ ?_
 ·skip
  refine ah ?_;refine Zm ?_;refine Zm ?_;refine qK ?_;refine aV 0 1 2 6 7 13 (Zt ?_);refine Cd.ao rfl (fun hc=> ?_) (fun hc=> ?_)
  ·skip
   refine Zr ?_;refine Zm ?_;refine Zc (Ze Tryz.func85) (gL g _ _ rd) ?_;rintro e w2 ⟨rfl,fw2,rd'⟩;refine⟨_,rfl,?_⟩;replace kf:=kf.kf fw2 rd;replace rd:=rd';clear rd';refine aV 0 1 2 6 7 13 ?_;exact ab.join none ⟨rfl,rfl,rfl,trivial⟩ ⟨kf,rd,by simp⟩
  ·skip
   refine Cd.skip ?_;exact ab.join (rest ja o) ⟨rfl,rfl,rfl,trivial⟩ ⟨kf,rd,fun _=>by omega⟩
 clear kf rd;rintro q0 wr ⟨kf,rd,hq1⟩;refine ah ?_;refine Za ?_;refine aS 0 2 7 8 (aH (Cd.block ?_));have own:Own wr w.heap.size 9 1 (.slice none 0 0) 0 []:=Own.nil _ _ _ _
 refine Cd.loop (σ:=Nat × List (List Nat) × Value × Option (List Nat)) (fun s=>[(0, .pointer (some ⟨g,0,none⟩)),(2, .func (.func 117) #[] #[]),(7, .int .i64 (s.1:Int)),(8,s.2.2.1)])
  (fun s wr=>s.1<9223372036854775808∧s.2.1.length≤most∧(s.2.2.2.isSome=true→s.2.1.length+s.1≤most)∧(∀x∈s.2.1,oL x∧x.length≤16000)∧Kf g w wr∧Rd 146 wr g s.2.2.2∧Own wr w.heap.size 9 1 s.2.2.1 s.2.1.length (DS s.2.1)) (fun s=>s.1) (n,[], .slice none 0 0,q0) ⟨hn,Nat.zero_le _,fun h=>by simpa using hq1 h,by simp,kf,rd,own⟩ ⟨rfl,rfl,rfl,rfl,trivial⟩ ?_
 clear kf rd;clear own;rintro⟨k,acc,v,q⟩ wr ⟨hk,hacc,hsome,hall,kf,rd,own⟩;simp only at hk hacc hsome hall rd own;show Cd _ _ _ _ [(0, .pointer (some ⟨g,0,none⟩)),(2, .func (.func 117) #[] #[]),(7, .int .i64 (k:Int)),(8,v)] _;refine Cd.seq (ah ?_);refine Zm ?_;refine qK ?_;refine Zm ?_;refine ar.start ?_;refine bB (fun hcx=>aa.move rfl rfl) ?_;refine ar.aW rfl rfl rfl rfl rfl rfl rfl (fun hcx=>Ze Tryz.func87) (fun hcx=>ec g q _ rd) ?_;intro w2 hw2;replace kf:=kf.step hw2;replace rd:=rd.step hw2;replace own:=own.step hw2;refine dL ?_;refine aL 0 2 7 8 21 (Zt ?_);refine Cd.cond rfl (fun h=> ?_) (fun h=> ?_)
 ·obtain⟨k,rfl⟩:∃j,k=j+1:=⟨k-1,by simp at h;omega⟩
  obtain⟨s,rfl⟩:∃s,q=some s:=by
   cases q with
   |none=>simp at h
   |some s=>exact⟨s,rfl⟩
  have hsm:=hsome rfl;refine Cd.skip (aH (Cd.block (Zr ?_)));refine Zm ?_;refine Zm ?_;refine Zm ?_;refine Seq.call (Enters.value (first:=[]) (cap:=[]) rfl rfl rfl AW) rfl rfl rfl (Ap g _ _ rd) ?_;rintro e w3 ⟨z,q2,⟨hz1,hz2,rfl⟩,fw3,rd'⟩;refine⟨_,rfl,?_⟩;replace kf:=kf.kf fw3 rd;replace own:=own.kf fw3 rd;replace rd:=rd';clear rd';have hz:=And.intro hz1 hz2;refine Seq.slice (vs:=[_]) (s:=1) rfl rfl rfl Tryz.underlying66 (by kernel_rfl) (cd) (by omega) (by omega) ⟨rfl,trivial⟩ rfl rfl rfl ?_;intro g28 w4 n28;have e28:=Nat.le_trans kf.size n28.ge;replace kf:=kf.step n28.below;replace rd:=rd.step n28.below;replace own:=own.step n28.below;have k28:=n28.an;have hrd:=Reads.an (size:=1) k28 1 rfl;refine Seq.append rfl rfl rfl Tryz.underlying66 (by kernel_rfl) cd rfl (by decide) (b:=16) (by kernel_rfl) own (hrd) (by intro x hx;simp[aC,Value.cells] at hx;rw[hx];rfl) kf.size (by simp only[maxLen];omega) (by omega) rfl rfl rfl ?_;intro vw5 w5 ow5 haw5;replace kf:=kf.app own haw5;replace rd:=rd.app own haw5;clear own;have own:=ow5;refine Za ?_;refine aL 0 2 7 8 21 (ab.ag (et ?_));refine Zm ?_;refine qq ?_;refine Za ?_;refine aL 0 2 7 8 21 ?_;refine ab.round (k,acc++[z],_,_) ⟨rfl,rfl,su (by omega),rfl,trivial⟩ ⟨by simp only;omega,by simp;omega,fun hh=>by simp;omega,fun x hx=> ?_,kf,rd,by simp only;rw[List.length_append,yJ];exact own⟩ (by simp);rcases List.mem_append.1 hx with hx|hx
  ·exact hall x hx
  ·simp at hx;subst hx;exact hz
 ·obtain⟨A,c,rfl,-⟩:=own.reads
  refine Cd.exit (ab.aD (ab.ay (ab.aA (aH (ah ?_)))));refine Zm ?_;refine Zc (Ze Tryz.func87) (ec g q _ rd) ?_;rintro e w5 ⟨rfl,hb5⟩;refine⟨_,rfl,?_⟩;replace kf:=kf.step hb5;replace rd:=rd.step hb5;replace own:=own.step hb5;refine gU ?_;refine aV 0 2 7 8 21 32 (Zt ?_);refine Cd.cond rfl (fun h2=> ?_) (fun h2=> ?_)
  ·skip
   refine ah ?_;refine Za ?_;refine ba 0 2 6 7 8 21 32 (Zt (Cd.ret (ab.ae ?_)));refine aP ?_;exact⟨[],_,⟨by simp,by simp,none,0,rfl,Own.nil _ _ _ _⟩,kf,rd⟩
  ·skip
   refine Cd.skip (az ?_);refine Zm ?_;refine Za ?_;refine ba 0 2 6 7 8 21 32 (Zt (Cd.ret ?_));refine aP ?_;exact⟨acc,_,⟨by omega,hall,A,c,rfl,own⟩,kf,rd⟩
theorem oG (g most:Nat)(o:Option (List Nat))(w:World)(h:Rd 146 w g o)(hm:most≤20000):Calls Tryz.prog 68 #[.pointer (some ⟨g,0,none⟩), .int .i64 (most:Int)] w fun e w'=>∃(l:List (List Nat)) (q:Option (List Nat)),(l.length≤most∧(∀x∈l,oL x∧x.length≤16000)∧∃A c,e= .returned (.slice A l.length c)∧Own w' w.heap.size 9 1 (.slice A l.length c) l.length (DS l))∧Kf g w w'∧Rd 146 w' g q:=by
 have rd:=h;have kf:=Kf.refl g w;refine Zs 8 Tryz.func68 ?_;refine ah ?_;refine Za ?_;refine bk 0 1 4 (az ?_);refine Zm ?_;refine Zm ?_;refine Zc (Ze Tryz.func116) (vM g most o _ rd hm) ?_;rintro e w1 ⟨l,q,⟨h1,h2,A,c,rfl,own⟩,fw1,rd'⟩;refine⟨_,rfl,?_⟩;replace kf:=kf.kf fw1 rd;replace rd:=rd';clear rd';refine Za ?_;refine bk 0 1 4 (Zt (Cd.ret ?_));refine aP ?_;exact⟨l,q,⟨h1,h2,A,c,rfl,own⟩,kf,rd⟩
theorem pG:∀(l:List (List Nat)) (acc:List Ex),(∀e∈acc,e.depth≤900)→∀e∈(jY acc l).getD [],e.depth≤900
 | [],acc,h,e,he=>h e he
 |s::r,acc,h,e,he=>by
  rw[jY] at he;split at he
  ·cases he
  ·exact pG r _ (fun e he=>by
    rcases List.mem_append.1 he with he|he
    ·exact h e he
    ·simp at he;subst he;exact rN s) e he
structure zV (w:World)(S:Nat→Prop)(p:Pt)(A A1 A2:Option Addr)(c1 c2:Nat):Prop where
 tL:bu p.bc
 uB:p.fv.length≤16
 flat:p.flat
 fv:sU w S p.fv A
 term:dC w S p.term (.agg #[.int .i64 p.term.op, .string (strOf p.term.name), .slice A1 p.term.exprs.length c1, .slice A2 p.term.aw.length c2])
theorem zV.mono {w w':World}{S S':Nat→Prop}{p:Pt}{A A1 A2:Option Addr}{c1 c2:Nat}(h:zV w S p A A1 A2 c1 c2)(hS:∀b,S b→S' b)(hc:∀p:Addr,S p.block→w'.cell? p=w.cell? p):zV w' S' p A A1 A2 c1 c2:=⟨h.tL,h.uB,h.flat,h.fv.mono hS hc,h.term.mono hS hc⟩
structure me (w:World)(B hi g:Nat)(S:Nat→Prop)(all:List Ex)(A:Option Addr)(es:List Ex)(vs:List Value)(v:Value):Prop where
 all:sU w S all A
 lt:∀b,S b→b<hi∧b≠g
 xi:hi≤B
 le:B≤w.heap.size
 gB:g<B
 len:vs.length=es.length
 own:Own w B 105 4 v es.length (aC vs)
 rep:∀(i:Nat) (e:Ex) (u:Value),es[i]? =some e→vs[i]? =some u→bX w S e u
theorem me.bL {w w':World}{B hi g:Nat}{S:Nat→Prop}{all:List Ex}{A:Option Addr}{es:List Ex}{vs:List Value}{v:Value}(h:me w B hi g S all A es vs v)(hs:w.heap.size≤w'.heap.size)(hb:∀b,b<hi→b≠g→w'.heap[b]? =w.heap[b]?)(ho:∀b,B≤b→v.ownBlock=some b→w'.heap[b]? =w.heap[b]?):me w' B hi g S all A es vs v:=
 have hc:∀p:Addr,S p.block→w'.cell? p=w.cell? p:=fun p hp=>World.cell?_of_block (hb _ (h.lt _ hp).1 (h.lt _ hp).2)
 ⟨h.all.mono (fun _ h=>h) hc,h.lt,h.xi,Nat.le_trans h.le hs,h.gB,h.len,h.own.eO hs fun b e=>ho b (h.own.aQ b e).1 e,fun i e u h1 h2=>(h.rep i e u h1 h2).mono (fun _ h=>h) hc⟩
section
variable {w w':World} {B hi g:Nat} {S:Nat→Prop} {all:List Ex} {A:Option Addr} {es:List Ex} {vs:List Value} {v:Value}
theorem me.step (h:me w B hi g S all A es vs v)(hb:Below w.heap.size w w'):me w' B hi g S all A es vs v:=
 h.bL hb.size (fun b h1 _=>hb.block b (by have:=h.xi;have:=h.le;omega)) (fun b _ e=>hb.block b (h.own.aQ b e).2)
theorem me.kf {o:Option (List Nat)}{T:TypeId}(h:me w B hi g S all A es vs v)(f:Kf g w w')(_rd:Rd T w g o):me w' B hi g S all A es vs v:=
 h.bL f.size (fun b h1 h2=>f.only.block b (by have:=h.xi;have:=h.le;omega) (fun e=>h2 (by injection e))) (fun b h1 e=>f.only.block b (h.own.aQ b e).2 (fun e2=>by injection e2 with e2;have:=h.gB;omega))
theorem me.put {g':Nat}{T:TypeId}{cur cs:Array Value}(h:me w B hi g S all A es vs v)(k:aE w g' T cur)(p:gI w w' g' T cs)(hB:B≤g')(hne:105≠T:=by decide):me w' B hi g S all A es vs v:=by
 have ho:=h.own.put k p hB hne;exact⟨h.all.mono (fun _ h=>h) (fun q hq=>World.cell?_of_block (p.grown.block _ (by have:=(h.lt _ hq).1;have:=h.xi;have:=h.le;omega) (fun e=>by injection e with e;have:=(h.lt _ hq).1;have:=h.xi;omega))),h.lt,h.xi,Nat.le_trans h.le (Nat.le_of_eq p.size.symm),h.gB,h.len,ho,fun i e u h1 h2=>(h.rep i e u h1 h2).mono (fun _ h=>h) (fun q hq=>World.cell?_of_block (p.grown.block _ (by have:=(h.lt _ hq).1;have:=h.xi;have:=h.le;omega) (fun e=>by injection e with e;have:=(h.lt _ hq).1;have:=h.xi;omega)))⟩
end
theorem me.add {w w':World}{B hi g:Nat}{S:Nat→Prop}{all:List Ex}{A:Option Addr}{es:List Ex}{vs:List Value}{v v' u:Value}{x:Ex}(h:me w B hi g S all A es vs v)(hx:bX w S x u)(ho:Own w' B 105 4 v' (es.length+1) (aC vs++u.cells.toList))(ha:App w w' B v):me w' B hi g S all A (es++[x]) (vs++[u]) v':=by
 have hc:∀p:Addr,S p.block→w'.cell? p=w.cell? p:=fun p hp=>ha.below.cell (by have:=(h.lt _ hp).1;have:=h.xi;omega);refine⟨h.all.mono (fun _ h=>h) hc,h.lt,h.xi,Nat.le_trans h.le ha.below.size,h.gB,by simp[h.len],?_,fun i e u' h1 h2=> ?_⟩
 ·have hf:aC (vs++[u])=aC vs++u.cells.toList:=by rw[ei];simp[aC]
  rw[hf,List.length_append];exact ho
 ·rcases Nat.lt_or_ge i es.length with hi|hi
  ·rw[List.getElem?_append_left hi] at h1
   rw[List.getElem?_append_left (by rw[h.len];exact hi)] at h2;exact(h.rep i e u' h1 h2).mono (fun _ h=>h) hc
  ·rw[List.getElem?_append_right hi] at h1
   rw[List.getElem?_append_right (by rw[h.len];exact hi),h.len] at h2
   have h0:i-es.length=0:=by
    have:=(List.getElem?_eq_some_iff.1 h1).1;simp at this;exact this
   rw[h0] at h1 h2;injection h1 with h1
   injection h2 with h2
   subst h1 h2;exact hx.mono (fun _ h=>h) hc
theorem mh (a:Int)(w:World):(Instr.build 108 #[(0, .int .i64 a)]).run Tryz.prog w= .ok (.agg #[.int .i64 a, .bool false, .slice none 0 0, .int .i64 0, .string (strOf []), .slice none 0 0, .slice none 0 0]) w:=by kernel_rfl
theorem uv.kf {lo hi g:Nat}{S:Nat→Prop}{x:Tm}{v:Value}{W W':World}{T:TypeId}{o:Option (List Nat)}(r:uv lo hi S x v W)(f:Kf g W W')(_rd:Rd T W g o)(hg:g<lo:=by omega):uv lo hi S x v W':=
 ⟨r.rep.mono (fun _ h=>h) (fun a ha=>World.cell?_of_block (f.only.block _ (Nat.lt_of_lt_of_le (r.bd _ ha).2 r.dA) (fun e=>by injection e with e;have:=(r.bd _ ha).1;omega))),r.bd,Nat.le_trans r.dA f.size⟩
theorem me.fv {w:World}{B hi g n c:Nat}{S:Nat→Prop}{all:List Ex}{A A0:Option Addr}{es:List Ex}{vs:List Value}(h:me w B hi g S all A es vs (.slice A0 n c)):sU w (fun b=>S b∨(B≤b∧b<w.heap.size)) es A0:=by
 refine xN h.len (fun i e u h1 h2=>(h.rep i e u h1 h2).mono (fun b hb=> .inl hb) (fun _ _=>rfl)) fun hne=> ?_;obtain⟨A1,c1,hv,hrd⟩:=h.own.reads;injection hv with hv1 _ _
 subst hv1
 have h0:0<es.length:=by
  rcases Nat.eq_zero_or_pos es.length with h0|h0
  ·have:=h.len
   rw[h0,List.length_eq_zero_iff] at this;rw[this] at hne;exact absurd rfl hne
  ·exact h0
 obtain⟨ad,e1,e2,e3⟩:=hrd.2 h0;exact⟨ad,e1, .inr ⟨(h.own.aQ ad.block (by rw[e1];rfl)).1,e2⟩,e3⟩
theorem sx (g c hi:Nat)(o:Option (List Nat))(all:List Ex)(A:Option Addr)(S:Nat→Prop)(w:World)(h:Rd 146 w g o)(ha:sU w S all A)(hS:∀b,S b→b<hi∧b≠g)(hhi:hi≤w.heap.size)(hfl:∀e∈all,e.depth≤900)(hl:all.length≤20000):
  Calls Tryz.prog 71 #[.pointer (some ⟨g,0,none⟩), .slice A all.length c] w fun en w'=>∃(p:Pt) (A0 A1 A2:Option Addr) (c0 c1 c2:Nat) (q:Option (List Nat)),en= .returned (.agg (vJ p A0 A1 A2 c0 c1 c2).toArray)∧Kf g w w'∧Rd 146 w' g q∧zV w' (fun b=>S b∨(w.heap.size≤b∧b<w'.heap.size)) p A0 A1 A2 c1 c2:=by
 have rd:=h;have kf:=Kf.refl g w;have px:me w w.heap.size hi g S all A [] [] (.slice none 0 0):=⟨ha,hS,hhi,Nat.le_refl _,h.lt,rfl,Own.nil _ _ _ _,fun i e u h=>by cases h⟩;obtain⟨n,hn⟩:∃n,all.length=n:=⟨_,rfl⟩;rw[hn] at hl⊢;refine Zs 61 Tryz.func71 ?_;refine ah ?_;refine Zl bF ?_;intro g4 w1 n4;have e4:=Nat.le_trans kf.size n4.ge;replace kf:=kf.step n4.below;replace rd:=rd.step n4.below;replace px:=px.step n4.below;have k4:=n4.an;refine bk 0 1 4 (az ?_);refine Zm ?_;refine Zc (Ze Tryz.func44) (rW g o _ rd) ?_;rintro e w2 ⟨tL,⟨hfac,hv1,rfl⟩,fw2,rd'⟩;refine⟨_,rfl,?_⟩;replace kf:=kf.kf fw2 rd;replace px:=px.kf fw2 rd;replace k4:=k4.kf fw2 rd;replace rd:=rd';clear rd';refine Zv (aa.build rfl rfl (mh _ _)) ?_;refine Zl bF ?_;intro g5 w3 n5;have e5:=Nat.le_trans kf.size n5.ge;have l5:=Nat.lt_of_lt_of_le k4.lt n5.ge;replace kf:=kf.step n5.below;replace rd:=rd.step n5.below;replace px:=px.step n5.below;replace k4:=k4.step n5.below;have k5:=n5.an;refine Zo 7 k5 ?_;intro w4 pw4;replace kf:=kf.put k5 pw4 e5;replace rd:=rd.put k5 pw4 e5;replace px:=px.put k5 pw4 e5;replace k4:=k4.put pw4 (by omega);replace k5:=pw4.an;refine aS 0 1 4 5 (az ?_);refine Zm ?_;refine Zc (Ze Tryz.func42) (dJ g _ _ rd) ?_;rintro e w5 ⟨tn,⟨htn,hv2,rfl⟩,fw5,rd'⟩;refine⟨_,rfl,?_⟩;replace kf:=kf.kf fw5 rd;replace px:=px.kf fw5 rd;replace k4:=k4.kf fw5 rd;replace k5:=k5.kf fw5 rd;replace rd:=rd';clear rd';refine Za ?_;refine aL 0 1 4 5 6 (az ?_);refine Zm ?_;refine aX ?_;refine Zf 1 Tryz.underlying108 ?_;refine Zq k5 ?_;intro w6 pw6;replace kf:=kf.put k5 pw6 e5;replace rd:=rd.put k5 pw6 e5;replace px:=px.put k5 pw6 e5;replace k4:=k4.put pw6 (by omega);replace k5:=pw6.an;refine aL 0 1 4 5 6 (Zt ?_);have k5:aE _ g5 108 #[.int .i64 tL, .bool (decide ((tn:Int)=1)), .slice none 0 0, .int .i64 0, .string (strOf []), .slice none 0 0, .slice none 0 0]:=k5;refine Cd.kH (σ:=List Ex × List Value × Value × Option (List Nat)) (fun s=>[(0, .pointer (some ⟨g,0,none⟩)),(4, .pointer (some ⟨g4,0,none⟩)),(5, .pointer (some ⟨g5,0,none⟩)),(6, .int .i64 (tn:Int))]) (fun s wr=>s.1.length≤16∧(∀e∈s.1,e.depth≤900)∧Kf g w wr∧Rd 146 wr g s.2.2.2∧me wr w.heap.size hi g S all A s.1 s.2.1 s.2.2.1∧aE wr g4 108 #[.int .i64 0, .bool false, .slice none 0 0, .int .i64 0, .string {data:= #[]}, .slice none 0 0, .slice none 0 0]∧aE wr g5 108 #[.int .i64 tL, .bool (decide ((tn:Int)=1)),s.2.2.1, .int .i64 0, .string (strOf []), .slice none 0 0, .slice none 0 0]) ?_ ?_
 ·skip
  refine ah ?_;refine Zm ?_;refine Zc (Ze Tryz.func118) (uN g 16 _ _ rd (by omega)) ?_;rintro e w7 ⟨ls,q4,⟨hl1,hl2,A4,c4,rfl,own4⟩,fw7,rd'⟩;refine⟨_,rfl,?_⟩;replace kf:=kf.kf fw7 rd;replace px:=px.kf fw7 rd;replace k4:=k4.kf fw7 rd;replace k5:=k5.kf fw7 rd;replace rd:=rd';clear rd';refine Zv (aa.len rfl rfl Tryz.underlying96) ?_;refine Zm ?_;refine bO 0 1 4 5 6 21 22 23 (Zt (Cd.block ?_));obtain⟨m,hm⟩:∃m,ls.length=m:=⟨_,rfl⟩;obtain⟨HI,hHI⟩:∃HI,HI=w6.heap.size:=⟨_,rfl⟩
  try rw[←hHI] at own4
  rw[hm] at own4 hl1⊢
  refine Cd.loop (σ:=Nat × List Ex × List Value × Value × Option (List Nat)) (fun s=>[(0, .pointer (some ⟨g,0,none⟩)),(1, .slice A n c),(4, .pointer (some ⟨g4,0,none⟩)),(5, .pointer (some ⟨g5,0,none⟩)),(6, .int .i64 (tn:Int)),(21, .slice A4 m c4),(22, .int .i64 (m:Int)),(23, .int .i64 (s.1:Int))])
   (fun s wr=>s.1≤m∧s.2.1.length=s.1∧(∀e∈s.2.1,e.depth≤900)∧Kf g w wr∧Rd 146 wr g s.2.2.2.2∧me wr w.heap.size hi g S all A s.2.1 s.2.2.1 s.2.2.2.1∧aE wr g4 108 #[.int .i64 0, .bool false, .slice none 0 0, .int .i64 0, .string {data:= #[]}, .slice none 0 0, .slice none 0 0]∧aE wr g5 108 #[.int .i64 tL, .bool (decide ((tn:Int)=1)),s.2.2.2.1, .int .i64 0, .string (strOf []), .slice none 0 0, .slice none 0 0]∧Own wr HI 3 1 (.slice A4 m c4) m (DJ ls)) (fun s=>m-s.1) (0,[],[], .slice none 0 0,q4) ⟨Nat.zero_le _,rfl,by simp,kf,rd,px,k4,k5,own4⟩ ⟨rfl,rfl,rfl,rfl,rfl,rfl,rfl,rfl,trivial⟩ ?_
  clear kf rd px k4 k5;clear own4;rintro⟨j,es,vs,v,q⟩ wr ⟨hj,hjl,hfe,kf,rd,px,k4,k5,own4⟩;simp only at hj hjl hfe rd px k5;show Cd _ _ _ _ [(0, .pointer (some ⟨g,0,none⟩)),(1, .slice A n c),(4, .pointer (some ⟨g4,0,none⟩)),(5, .pointer (some ⟨g5,0,none⟩)),(6, .int .i64 (tn:Int)),(21, .slice A4 m c4),(22, .int .i64 (m:Int)),(23, .int .i64 (j:Int))] _;refine ah ?_;refine eU ?_;refine cw 0 1 4 5 6 21 22 23 24 (aH ?_);refine Cd.ao rfl (fun hc=> ?_) (fun hc=> ?_)
  ·obtain⟨z,hz⟩:∃z,ls[j]? =some z:=⟨_,List.getElem?_eq_getElem (show j<ls.length by omega)⟩
   obtain⟨A5,c5,hv4,hr4⟩:=own4.reads;injection hv4 with hv4 _ _
   subst hv4;obtain⟨ad,rfl,-,hc4⟩:=hr4.2 (by omega);have hc4:=hc4 j (.int .i64 (z:Int)) (by simp[DJ,hz]);refine Cd.skip (aH (Cd.block (ah ?_)));refine Zv (aa.gA rfl rfl rfl Tryz.underlying96 (by kernel_rfl) (j:=j) rfl (by omega)) ?_;refine Zv (aa.jN rfl rfl Tryz.underlying3 rfl hc4) ?_;refine Za ?_;refine dr 0 1 4 5 6 8 21 22 23 24 (aH (ah ?_));refine Zm ?_;refine Zm ?_;refine Zv (aa.len rfl rfl Tryz.underlying68) ?_;refine oo ?_;refine ct 0 1 4 5 6 8 21 22 23 24 30 (Zt ?_);refine Cd.ao rfl (fun hc=> ?_) (fun hc=> ?_)
   ·skip
    refine ah ?_;refine Zm ?_;refine Zc (Ze Tryz.func86) (gE g (-1) _ _ rd) ?_;rintro e w8 ⟨rfl,fw8,rd'⟩;refine⟨_,rfl,?_⟩;replace kf:=kf.kf fw8 rd;replace px:=px.kf fw8 rd;replace k4:=k4.kf fw8 rd;replace k5:=k5.kf fw8 rd;replace own4:=own4.kf fw8 rd;replace rd:=rd';clear rd';refine ct 0 1 4 5 6 8 21 22 23 24 30 (Zt (Cd.exit (ab.aD ?_)));refine ab.sd rfl ?_;refine ab.aD (ab.ay (ab.aA ?_));exact ab.join (es,vs,v,_) ⟨rfl,rfl,rfl,rfl,trivial⟩ ⟨by simp only;omega,hfe,kf,rd,px,k4,k5⟩
   ·obtain⟨x,hx⟩:∃x,all[z]? =some x:=⟨_,List.getElem?_eq_getElem (show z<all.length by omega)⟩
    refine Cd.skip (Zt ?_);refine gm 7 ?_;intro w8 hw8 zw8;replace kf:=kf.step hw8;replace rd:=rd.step hw8;replace px:=px.step hw8;replace k4:=k4.step hw8;replace k5:=k5.step hw8;replace own4:=own4.step hw8;have zlt:=k5.lt;obtain⟨ad2,A6,c6,rfl,hS6,hr6,hc6⟩:=px.all z x hx;have hlt6:=px.lt _ hS6;have hle6:=px.le;have hhB:=px.xi;have hdx:=hfl x (List.mem_of_getElem? hx);refine gw 2 Tryz.underlying108 ?_;refine fb Tryz.underlying68 k5 ?_;refine fN ?_;refine fN ?_;refine Zd (fun w hG=>aa.aU rfl rfl rfl Tryz.underlying68 (s:=4) (by kernel_rfl) (j:=z) rfl (by omega)) ?_;refine Zd (fun w hG=>aa.b7 (ps:=[.int .i64 x.op, .int .i64 x.n, .string (strOf x.name), .slice A6 x.args.length c6]) rfl rfl Tryz.underlying105 rfl (m:=4) (by kernel_rfl) rfl (fun j u hj=>(Below.cell hG (by rw[ai,ai];omega)).trans (hc6 j u hj))) ?_;refine Dr.slice (vs:=[_]) (s:=4) rfl rfl rfl rfl Tryz.underlying68 (by kernel_rfl) au (by omega) (by omega) ⟨rfl,trivial⟩ rfl ?_;refine Dr.nil ?_;refine bH.open (j:=6) rfl ?_;intro u6;refine bH.done (F':=[(0,_),(1,_),(4,_),(5,_),(6,_),(8,_),(21,_),(22,_),(23,_),(24,_),(30,_),(34,_),(39,_)]) rfl ⟨rfl,rfl,rfl,rfl,rfl,rfl,rfl,rfl,rfl,rfl,rfl,rfl,rfl,trivial⟩ ?_;intro w9 hw9 fw9;replace kf:=kf.step hw9;replace rd:=rd.step hw9;replace px:=px.step hw9;replace k4:=k4.step hw9;replace k5:=k5.step hw9;replace own4:=own4.step hw9;obtain⟨gz,rfl,kz,-⟩:=fw9.2;have hrd:=Reads.an (size:=4) kz 1 rfl;have hr9:bX w9 S x (.agg #[.int .i64 x.op, .int .i64 x.n, .string (strOf x.name), .slice A6 x.args.length c6]):=hr6.mono (fun _ h=>h) (fun p hp=>Below.cell hw9 (by have:=(px.lt _ hp).1;omega));refine Seq.append rfl rfl rfl Tryz.underlying68 (by kernel_rfl) au rfl (by decide) (b:=56) (by kernel_rfl) px.own hrd (by intro x hx;simp[aC,Value.cells] at hx;rcases hx with rfl|rfl|rfl|rfl<;>rfl) px.le (by simp only[maxLen];omega) (by omega) rfl rfl rfl ?_;intro v9 wa own9 ha;replace kf:=kf.app px.own ha;replace rd:=rd.app px.own ha;replace k4:=k4.app px.own ha;replace k5:=k5.app px.own ha;replace own4:=own4.app px.own ha;have px2:=px.add hr9 own9 ha;clear px own9 ha hrd kz hr9;have px:=px2;clear px2;obtain⟨A9,c9,rfl,-⟩:=px.own.reads;refine Zf 2 Tryz.underlying108 ?_;refine Zq k5 ?_;intro w10 pw10;replace kf:=kf.put k5 pw10 e5;replace rd:=rd.put k5 pw10 e5;replace px:=px.put k5 pw10 e5;replace k4:=k4.put pw10 (by omega);replace own4:=own4.put k5 pw10 e5;replace k5:=pw10.an;refine ct 0 1 4 5 6 8 21 22 23 24 30 (ab.ag (et ?_));refine dq ?_;refine Zm ?_;refine ct 0 1 4 5 6 8 21 22 23 24 30 ?_;have k5:aE _ g5 108 #[.int .i64 tL, .bool (decide ((tn:Int)=1)), .slice A9 (es++[x]).length c9, .int .i64 0, .string (strOf []), .slice none 0 0, .slice none 0 0]:=k5;refine ab.round (j+1,es++[x],_, .slice A9 (es++[x]).length c9,q) ⟨rfl,rfl,rfl,rfl,rfl,rfl,rfl,rfl,trivial⟩ ⟨by simp only;omega,by simp only[List.length_append,List.length_cons,List.length_nil];omega,fun e he=> ?_,kf,rd,px,k4,k5,own4⟩ (by simp only;omega);rcases List.mem_append.1 he with he|he
    ·exact hfe e he
    ·simp at he;subst he;exact hdx
  ·skip
   refine Cd.exit (ab.aD (ab.ay (ab.aA ?_)));exact ab.join (es,vs,v,q) ⟨rfl,rfl,rfl,rfl,trivial⟩ ⟨by simp only;omega,hfe,kf,rd,px,k4,k5⟩
 clear kf rd px k4 k5;rintro⟨es,vs,v,q⟩ wr ⟨hel,hfe,kf,rd,px,k4,k5⟩;simp only at hel hfe rd px k5;obtain⟨A0,c0,rfl,-⟩:=px.own.reads;have hgw:g<w.heap.size:=h.lt;refine ah ?_;refine Zm ?_;refine Zc (Ze Tryz.func43) (eI g 4000 _ _ rd) ?_;rintro e w7 ⟨z,q2,⟨hz1,hz2,rfl⟩,fw7,rd'⟩;refine⟨_,rfl,?_⟩;replace kf:=kf.kf fw7 rd;replace px:=px.kf fw7 rd;replace k4:=k4.kf fw7 rd;replace k5:=k5.kf fw7 rd;replace rd:=rd';clear rd';have hflT:=lQ z;have hps:=fun W=>oW z W hz1 (by omega)
 generalize bM z=pz at hps hflT
 obtain⟨t,pq,pn⟩:=pz;simp only at hps hflT;have hks:=kf.size;have hg5:=k5.lt;have hg4:=k4.lt;refine Zc (Ze Tryz.func81) (hps _) ?_;rintro en w25 ⟨hb5,v2,S2,rfl,hrep,hS2⟩;obtain⟨A1,c1,A2,c2,hvX⟩:=hrep.form;subst hvX;refine⟨_,rfl,?_⟩;replace kf:=kf.step hb5;replace rd:=rd.step hb5;replace px:=px.step hb5;replace k4:=k4.step hb5;replace k5:=k5.step hb5;have h25:=hb5.size;have rs:uv _ w25.heap.size S2 t (.agg #[.int .i64 t.op, .string (strOf t.name), .slice A1 t.exprs.length c1, .slice A2 t.aw.length c2]) w25:=⟨hrep,hS2,Nat.le_refl _⟩;refine Zm ?_;refine Zx ?_;refine Zx ?_;refine Zx ?_;refine Zl aK ?_;intro g9 w8 n9;have q9:=n9.ge;have e9:=Nat.le_trans kf.size n9.ge;have l9:=Nat.lt_of_lt_of_le k5.lt n9.ge;replace kf:=kf.step n9.below;replace rd:=rd.step n9.below;replace px:=px.step n9.below;replace k4:=k4.step n9.below;replace k5:=k5.step n9.below;replace rs:=rs.step n9.below;have k9:=n9.an;refine Zo 4 k9 ?_;intro w9 pw9;replace kf:=kf.put k9 pw9 e9;replace rd:=rd.put k9 pw9 e9;replace px:=px.put k9 pw9 e9;replace k4:=k4.put pw9 (by omega);replace k5:=k5.put pw9 (by omega);replace rs:=rs.put k9 pw9 e9;replace k9:=pw9.an;have k9:aE _ g9 71 #[.int .i64 t.op, .string (strOf t.name), .slice A1 t.exprs.length c1, .slice A2 t.aw.length c2]:=k9;refine Za ?_;refine Za ?_;refine aV 0 4 5 6 9 11 (Zt ?_);have hgl:g<w7.heap.size:=by omega
 refine Cd.kH (σ:=Option (List Nat)) (fun _=>[(4, .pointer (some ⟨g4,0,none⟩)),(5, .pointer (some ⟨g5,0,none⟩)),(9, .pointer (some ⟨g9,0,none⟩))]) (fun q wr=>Kf g w wr∧Rd 146 wr g q∧me wr w.heap.size hi g S all A es vs (.slice A0 es.length c0)∧uv w7.heap.size w25.heap.size S2 t (.agg #[.int .i64 t.op, .string (strOf t.name), .slice A1 t.exprs.length c1, .slice A2 t.aw.length c2]) wr∧aE wr g4 108 #[.int .i64 0, .bool false, .slice none 0 0, .int .i64 0, .string {data:= #[]}, .slice none 0 0, .slice none 0 0]∧aE wr g5 108 #[.int .i64 tL, .bool (decide ((tn:Int)=1)), .slice A0 es.length c0, .int .i64 0, .string (strOf []), .slice none 0 0, .slice none 0 0]∧aE wr g9 71 #[.int .i64 t.op, .string (strOf t.name), .slice A1 t.exprs.length c1, .slice A2 t.aw.length c2]) ?_ ?_
 ·skip
  refine ah ?_;refine Zm ?_;refine jq ?_;refine Zm ?_;refine ar.start ?_;refine bB (fun hcx=>aa.move rfl rfl) ?_;refine Zn (fun hcx=>aa.gtr rfl rfl rfl) ?_;refine fh ?_;refine ba 0 4 5 6 9 11 55 (Zt ?_);refine Cd.cond rfl (fun hq=> ?_) (fun hq=> ?_)
  ·skip
   refine Zr ?_;refine Zm ?_;refine Zc (Ze Tryz.func86) (gE g (-1) _ _ rd) ?_;rintro e w10 ⟨rfl,fw10,rd'⟩;refine⟨_,rfl,?_⟩;replace kf:=kf.kf fw10 rd;replace px:=px.kf fw10 rd;replace k4:=k4.kf fw10 rd;replace k5:=k5.kf fw10 rd;replace rs:=rs.kf fw10 rd;replace k9:=k9.kf fw10 rd;replace rd:=rd';clear rd';refine ba 0 4 5 6 9 11 55 ?_;exact ab.join _ ⟨rfl,rfl,rfl,trivial⟩ ⟨kf,rd,px,rs,k4,k5,k9⟩
  ·skip
   refine Cd.skip ?_;exact ab.join _ ⟨rfl,rfl,rfl,trivial⟩ ⟨kf,rd,px,rs,k4,k5,k9⟩
 clear kf rd px k4 k5 rs k9;rintro q3 wr3 ⟨kf,rd,px,rs,k4,k5,k9⟩;refine ah ?_;refine ZW 4 Tryz.underlying71 k9 ?_;refine Zf 3 Tryz.underlying108 ?_;refine Zo 4 k5 ?_;intro w10 pw10;replace kf:=kf.put k5 pw10 e5;replace rd:=rd.put k5 pw10 e5;replace px:=px.put k5 pw10 e5;replace k4:=k4.put pw10 (by omega);replace rs:=rs.put k5 pw10 e5;replace k9:=k9.put pw10 (by omega);replace k5:=pw10.an;refine bk 4 5 9 (az ?_);have k5:aE _ g5 108 #[.int .i64 tL, .bool (decide ((tn:Int)=1)), .slice A0 es.length c0, .int .i64 t.op, .string (strOf t.name), .slice A1 t.exprs.length c1, .slice A2 t.aw.length c2]:=k5;refine ZW 7 Tryz.underlying108 k5 ?_;refine Zo 7 k4 ?_;intro w11 pw11;replace kf:=kf.put k4 pw11 e4;replace rd:=rd.put k4 pw11 e4;replace px:=px.put k4 pw11 e4;replace k5:=k5.put pw11 (by omega);replace rs:=rs.put k4 pw11 e4;replace k4:=pw11.an;refine bk 4 5 9 (Zt (Cd.ret ?_));refine iH 7 k4 Tryz.underlying108 ?_;refine⟨⟨tL,decide ((tn:Int)=1),es,t⟩,A0,A1,A2,c0,c1,c2,q3,rfl,kf,rd,hfac,hel,⟨hflT,hfe⟩,px.fv,rs.rep.mono (fun b hb=> .inr ⟨?_,Nat.lt_of_lt_of_le (rs.bd b hb).2 rs.dA⟩) (fun _ _=>rfl)⟩;have:=(rs.bd b hb).1;omega
theorem xY (g g1 c hi:Nat)(o:Option (List Nat))(all:List Ex)(A:Option Addr)(S:Nat→Prop)(w:World)(h:Rd 146 w g o)(k1:aE w g1 68 #[.slice A all.length c]) (ha:sU w S all A) (hS:∀b,S b→b<hi∧b≠g) (hhi:hi≤w.heap.size) (hfl:∀e∈all,e.depth≤900) (hl:all.length≤20000):
  Calls Tryz.prog 70 #[.pointer (some ⟨g,0,none⟩), .pointer (some ⟨g1,0,none⟩)] w fun en w'=>∃(p:Pt) (A0 A1 A2:Option Addr) (c0 c1 c2:Nat) (q:Option (List Nat)),en= .returned (.agg (vJ p A0 A1 A2 c0 c1 c2).toArray)∧Kf g w w'∧Rd 146 w' g q∧zV w' (fun b=>S b∨(w.heap.size≤b∧b<w'.heap.size)) p A0 A1 A2 c1 c2:=by
 have rd:=h;have kf:=Kf.refl g w;have px:me w w.heap.size hi g S all A [] [] (.slice none 0 0):=⟨ha,hS,hhi,Nat.le_refl _,h.lt,rfl,Own.nil _ _ _ _,(fun i e u h=>by cases h)⟩;obtain⟨n,hn⟩:∃n,all.length=n:=⟨_,rfl⟩;rw[hn] at hl k1;refine Zs 7 Tryz.func70 ?_;refine ah ?_;refine Zl bF ?_;intro g3 w1 n3;have e3:=Nat.le_trans kf.size n3.ge;have l3:=Nat.lt_of_lt_of_le k1.lt n3.ge;replace kf:=kf.step n3.below;replace rd:=rd.step n3.below;replace px:=px.step n3.below;replace k1:=k1.step n3.below;have k3:=n3.an;refine bk 0 1 3 (az ?_);refine Zm ?_;refine ZL Tryz.underlying68 k1 ?_;rw[←hn] at hl;rw[←hn];refine Zc (Ze Tryz.func71) (sx g c hi _ all A S _ rd px.all hS (Nat.le_trans hhi kf.size) hfl hl) ?_;rintro en w5 ⟨p,A0,A1,A2,c0,c1,c2,q,rfl,f5,rd5,ps⟩;refine⟨_,rfl,?_⟩;have k3':=k3.kf f5 rd;have kf5:=kf.trans f5;have hk1:=k3.lt;have hkf:=kf.size;clear k3 kf rd;have k3:=k3';have kf:=kf5;have rd:=rd5;clear k3' kf5 rd5;have e3:w.heap.size≤g3:=n3.ge;unfold vJ;refine Zo 7 k3 ?_;intro w2 pw2;replace kf:=kf.put k3 pw2 e3;replace rd:=rd.put k3 pw2 e3;replace k3:=pw2.an;refine bk 0 1 3 (Zt (Cd.ret ?_));refine iH 7 k3 Tryz.underlying108 ?_;refine⟨p,A0,A1,A2,c0,c1,c2,q,rfl,kf,rd,ps.mono (fun b hb=> ?_) (fun a ha=>World.cell?_of_block (pw2.grown.block _ ?_ (fun e=> ?_)))⟩
 ·rcases hb with hb|hb
  ·exact .inl hb
  ·exact .inr ⟨by omega,by have:=pw2.size;omega⟩
 ·rcases ha with ha|ha
  ·have:=(hS _ ha).1
   have:=f5.size;omega
  ·exact ha.2
 ·injection e with e
  rcases ha with ha|ha
  ·have:=(hS _ ha).1
   omega
  ·omega
def zK (w:World)(S:Nat→Prop)(p:Pt)(u:Value):Prop:=∃(A0 A1 A2:Option Addr) (c0 c1 c2:Nat),u= .agg (vJ p A0 A1 A2 c0 c1 c2).toArray∧zV w S p A0 A1 A2 c1 c2
theorem zK.mono {w w':World}{S S':Nat→Prop}{p:Pt}{u:Value}(h:zK w S p u)(hS:∀b,S b→S' b)(hc:∀p:Addr,S p.block→w'.cell? p=w.cell? p):zK w' S' p u:=by
 obtain⟨A0,A1,A2,c0,c1,c2,e,h⟩:=h;exact⟨A0,A1,A2,c0,c1,c2,e,h.mono hS hc⟩
theorem zK.AD {w:World}{S:Nat→Prop}{p:Pt}{u:Value}(h:zK w S p u):u.cells.size=7:=by
 obtain⟨A0,A1,A2,c0,c1,c2,rfl,-⟩:=h;rfl
structure sj (w:World)(B H g:Nat)(ps:List Pt)(vs:List Value)(v:Value)(S:Nat→Prop):Prop where
 len:vs.length=ps.length
 own:Own w B 108 7 v ps.length (aC vs)
 rep:∀(i:Nat) (p:Pt) (u:Value),ps[i]? =some p→vs[i]? =some u→zK w S p u
 iD:∀b,S b→b<H∧b≠g∧v.ownBlock≠some b
 bd:∀b,v.ownBlock=some b→b<H∧b≠g
 hi:H≤w.heap.size
theorem sj.bL {w w':World}{B H g:Nat}{ps:List Pt}{vs:List Value}{v:Value}{S:Nat→Prop}(h:sj w B H g ps vs v S)(hs:w.heap.size≤w'.heap.size)(hb:∀b,b<H→b≠g→w'.heap[b]? =w.heap[b]?):sj w' B H g ps vs v S:=
 ⟨h.len,h.own.eO hs fun b e=>hb b (h.bd b e).1 (h.bd b e).2,fun i e u h1 h2=>(h.rep i e u h1 h2).mono (fun _ h=>h) (fun p hp=>World.cell?_of_block (hb _ (h.iD _ hp).1 (h.iD _ hp).2.1)),h.iD,h.bd,Nat.le_trans h.hi hs⟩
theorem sj.step {w w':World}{B H g:Nat}{ps:List Pt}{vs:List Value}{v:Value}{S:Nat→Prop}(h:sj w B H g ps vs v S)(hb:Below w.heap.size w w'):sj w' B H g ps vs v S:=h.bL hb.size fun b h2 _=>hb.block b (Nat.lt_of_lt_of_le h2 h.hi)
theorem sj.kf {w w':World}{B H g:Nat}{T:TypeId}{o:Option (List Nat)}{ps:List Pt}{vs:List Value}{v:Value}{S:Nat→Prop}(h:sj w B H g ps vs v S)(f:Kf g w w')(_rd:Rd T w g o):sj w' B H g ps vs v S:=h.bL f.size fun b h2 h3=>f.only.block b (Nat.lt_of_lt_of_le h2 h.hi) (fun e=>h3 (by injection e))
theorem sj.add {w w':World}{B H g lo:Nat}{ps:List Pt}{vs:List Value}{v v' u:Value}{S S':Nat→Prop}{x:Pt}(h:sj w B H g ps vs v S)(r:zK w S' x u)(hS':∀b,S' b→S b∨(lo≤b∧b<w.heap.size))(hlo:H≤lo)(hg:g<H)(hgB:g<B)(ho:Own w' B 108 7 v' (ps.length+1) (aC vs++u.cells.toList))(ha:App w w' B v)(hv:v'.ownBlock=v.ownBlock∨v'.ownBlock=some w.heap.size):sj w' B w'.heap.size g (ps++[x]) (vs++[u]) v' (fun b=>S b∨S' b):=by
 have hne:∀b,S b∨S' b→b<w.heap.size∧b≠g∧v.ownBlock≠some b:=fun b hb=>by
  have h1:S b∨(lo≤b∧b<w.heap.size):=hb.elim .inl (hS' b);rcases h1 with hb|hb
  ·have:=h.iD b hb
   exact⟨Nat.lt_of_lt_of_le this.1 h.hi,this.2⟩
  ·exact⟨hb.2,by omega,fun e=>by have:=(h.bd b e).1;omega⟩
 have hc:∀p:Addr,(S p.block∨S' p.block)→w'.cell? p=w.cell? p:=fun p hp=>World.cell?_of_block (ha.grown.block _ (hne _ hp).1 (fun e=>(hne _ hp).2.2 e.symm));have hsz:=ha.below.size;refine⟨by simp[h.len],?_,fun i e u' h1 h2=> ?_,fun b hb=>⟨Nat.lt_of_lt_of_le (hne b hb).1 hsz,(hne b hb).2.1,fun e=> ?_⟩,fun b e=>⟨(ho.aQ b e).2,by have:=(ho.aQ b e).1;omega⟩,Nat.le_refl _⟩
 ·have hf:aC (vs++[u])=aC vs++u.cells.toList:=by rw[ei];simp[aC]
  rw[hf,List.length_append];exact ho
 ·rcases Nat.lt_or_ge i ps.length with hi|hi
  ·rw[List.getElem?_append_left hi] at h1
   rw[List.getElem?_append_left (by rw[h.len];exact hi)] at h2;exact(h.rep i e u' h1 h2).mono (fun _ h=> .inl h) (fun p hp=>hc p (.inl hp))
  ·rw[List.getElem?_append_right hi] at h1
   rw[List.getElem?_append_right (by rw[h.len];exact hi),h.len] at h2
   have h0:i-ps.length=0:=by
    have:=(List.getElem?_eq_some_iff.1 h1).1;simp at this;exact this
   rw[h0] at h1 h2;injection h1 with h1
   injection h2 with h2
   subst h1 h2;exact r.mono (fun _ h=> .inr h) (fun p hp=>hc p (.inr hp))
 ·rcases hv with e'|e'
  ·exact(hne b hb).2.2 (by rw[←e',e])
  ·rw[e'] at e
   injection e with e
   have:=(hne b hb).1;omega
theorem pB:∀ {vs:List Value},(∀y∈vs,y.cells.size=7)→∀ {i:Nat} {v:Value},vs[i]? =some v→∀(j:Nat) (u:Value),v.cells.toList[j]? =some u→(aC vs)[i*7+j]? =some u
 | [],_,i,v,h,_,_,_=>by cases h
 |x::r,h7,i,v,h,j,u,hu=>by
  have hx:x.cells.toList.length=7:=by have:=h7 x List.mem_cons_self;simpa using this
  have hf:aC (x::r)=x.cells.toList++aC r:=by simp[aC]
  rw[hf]
  cases i with
  |zero=>
   injection h with h
   subst h;have hj:=(List.getElem?_eq_some_iff.1 hu).1;rw[Nat.zero_mul,Nat.zero_add,List.getElem?_append_left hj];exact hu
  |succ i=>
   rw[List.getElem?_append_right (by omega),hx,show(i+1)*7+j-7=i*7+j by omega];exact pB (fun y hy=>h7 y (List.mem_cons_of_mem _ hy)) h j u hu
def nt (w:World)(S:Nat→Prop)(ps:List Pt)(A:Option Addr):Prop:=∀i x,ps[i]? =some x→∃ad A0 A1 A2 c c1 c2,A=some ad∧S ad.block∧zV w S x A0 A1 A2 c1 c2∧∀(j:Nat) (u:Value),(vJ x A0 A1 A2 c c1 c2)[j]? =some u→w.cell? ((ad.add (i*7)).add j)=some u
theorem nt.mono {w w':World}{S S':Nat→Prop}{ps:List Pt}{A:Option Addr}(h:nt w S ps A)(hS:∀b,S b→S' b)(hc:∀p:Addr,S p.block→w'.cell? p=w.cell? p):nt w' S' ps A:=fun i x hx=>by
 obtain⟨ad,A0,A1,A2,c,c1,c2,e1,e2,e3,e4⟩:=h i x hx;exact⟨ad,A0,A1,A2,c,c1,c2,e1,hS _ e2,e3.mono hS hc,fun j u hu=>(hc _ (by rw[ai,ai];exact e2)).trans (e4 j u hu)⟩
theorem nt.at {w:World}{S:Nat→Prop}{B:Nat}{ps:List Pt}{A:Option Addr}(h:nt w S ps A)(hS:∀b,S b→b<B):jx w B ps A:=fun i x hx=>by
 obtain⟨ad,A0,A1,A2,c,c1,c2,e1,e2,hp,e4⟩:=h i x hx;exact⟨ad,A0,A1,A2,c,c1,c2,e1,hS _ e2,⟨hp.tL,by have:=hp.uB;omega,hp.fv.at hS,hp.term.mono hS (fun _ _=>rfl)⟩,e4⟩
theorem sj.at {w:World}{B H g n c:Nat}{ps:List Pt}{vs:List Value}{A:Option Addr}{S T:Nat→Prop}(h:sj w B H g ps vs (.slice A n c) S)(hS:∀b,S b→T b)(hT:∀b,B≤b→b<w.heap.size→T b):nt w T ps A:=fun i x hx=>by
 have hi:=(List.getElem?_eq_some_iff.1 hx).1;obtain⟨v,hv⟩:∃v,vs[i]? =some v:=⟨_,List.getElem?_eq_getElem (by rw[h.len];exact hi)⟩
 have h7:∀y∈vs,y.cells.size=7:=fun y hy=>by
  obtain⟨k,hk,rfl⟩:=List.getElem_of_mem hy;obtain⟨z,hz⟩:∃z,ps[k]? =some z:=⟨_,List.getElem?_eq_getElem (by rw[←h.len];exact hk)⟩;exact(h.rep k z _ hz (List.getElem?_eq_getElem hk)).AD
 obtain⟨A0,A1,A2,c0,c1,c2,rfl,hp⟩:=h.rep i x v hx hv;obtain⟨A9,c9,hv9,hrd⟩:=h.own.reads;injection hv9 with hv1 _ _
 subst hv1;obtain⟨ad,rfl,hb,hc⟩:=hrd.2 (by omega);have hlo:=(h.own.aQ ad.block rfl).1;refine⟨ad,A0,A1,A2,c0,c1,c2,rfl,hT _ hlo hb,hp.mono hS (fun _ _=>rfl),fun j u hu=> ?_⟩;rw[dY];exact hc _ _ (pB h7 hv j u (by simpa[Value.cells] using hu))
structure yK (w:World)(lo hi:Nat)(ps:List Pt)(A:Option Addr):Prop where
 at_:nt w (fun b=>lo≤b∧b<hi) ps A
 hi:hi≤w.heap.size
theorem yK.step {w w':World}{lo hi:Nat}{ps:List Pt}{A:Option Addr}(h:yK w lo hi ps A)(hb:Below w.heap.size w w'):yK w' lo hi ps A:=⟨h.at_.mono (fun _ h=>h) (fun p hp=>hb.cell (Nat.lt_of_lt_of_le hp.2 h.hi)),Nat.le_trans h.hi hb.size⟩
theorem yK.put {w w':World}{lo hi g:Nat}{T:TypeId}{cur cs:Array Value}{ps:List Pt}{A:Option Addr}(h:yK w lo hi ps A)(_k:aE w g T cur)(p:gI w w' g T cs){E:Prop}(_e:E)(hne:g<lo∨hi≤g:=by omega):yK w' lo hi ps A:=
 ⟨h.at_.mono (fun _ h=>h) (fun a ha=>World.cell?_of_block (p.grown.block _ (Nat.lt_of_lt_of_le ha.2 h.hi) (fun e=>by injection e with e;have:=ha.1;have:=ha.2;omega))),Nat.le_trans h.hi (Nat.le_of_eq p.size.symm)⟩
theorem yK.pt {w:World}{lo hi:Nat}{ps:List Pt}{A:Option Addr}(h:yK w lo hi ps A):jx w w.heap.size ps A:=h.at_.at fun _ hb=>Nat.lt_of_lt_of_le hb.2 h.hi
theorem zv:∀args w,(callFunc 70 args).run Tryz.prog w= .ok (.enter 70 args) w:=fun args w=>aF Tryz.func70 (by kernel_rfl) rfl args w
structure BG (w:World)(S:Nat→Prop)(hi:Nat)(p:Pt)(u:Value):Prop where
 rep:zK w S p u
 lt:∀b,S b→b<hi
 hi:hi≤w.heap.size
theorem BG.step {w w':World}{S:Nat→Prop}{hi:Nat}{p:Pt}{u:Value}(h:BG w S hi p u)(hb:Below w.heap.size w w'):BG w' S hi p u:=⟨h.rep.mono (fun _ h=>h) (fun a ha=>hb.cell (Nat.lt_of_lt_of_le (h.lt _ ha) h.hi)),h.lt,Nat.le_trans h.hi hb.size⟩
theorem vm (g g1 c hi most lo:Nat)(o:Option (List Nat))(all:List Ex)(A:Option Addr)(S:Nat→Prop)(w:World)(h:Rd 146 w g o)(hm:most≤1000)(k1:aE w g1 68 #[.slice A all.length c]) (ha:sU w S all A) (hS:∀b,S b→b<hi∧b≠g) (hhi:hi≤w.heap.size) (hlo:∀b,S b→lo≤b) (hlw:lo≤w.heap.size) (hfl:∀e∈all,e.depth≤900) (hl:all.length≤20000):
  Calls Tryz.prog 69 #[.pointer (some ⟨g,0,none⟩), .int .i64 (most:Int), .func (.func 70) #[] #[.pointer (some ⟨g1,0,none⟩)]] w fun e w'=>∃(ps:List Pt) (q:Option (List Nat)) (A':Option Addr) (c':Nat),e= .returned (.slice A' ps.length c')∧ps.length≤most∧(∀p∈ps,p.flat)∧yK w' lo w'.heap.size ps A'∧Kf g w w'∧Rd 146 w' g q:=by
 have rd:=h;have kf:=Kf.refl g w;have px:me w w.heap.size hi g S all A [] [] (.slice none 0 0):=⟨ha,hS,hhi,Nat.le_refl _,h.lt,rfl,Own.nil _ _ _ _,(fun i e u h=>by cases h)⟩;obtain⟨n0,hn0⟩:∃n,all.length=n:=⟨_,rfl⟩;rw[hn0] at k1;have hgw:g<w.heap.size:=h.lt;refine Zs 34 Tryz.func69 ?_;refine ah ?_;refine Za ?_;refine aS 0 1 2 6 (az ?_);refine Zm ?_;refine Zc (Ze Tryz.func42) (dJ g o _ rd) ?_;rintro e w1 ⟨n,⟨hn,hv,rfl⟩,fw1,rd'⟩;refine⟨_,rfl,?_⟩;replace kf:=kf.kf fw1 rd;replace px:=px.kf fw1 rd;replace k1:=k1.kf fw1 rd;replace rd:=rd';clear rd';refine Za ?_;refine aL 0 1 2 6 7 (Zt ?_);refine Cd.kH (σ:=Option (List Nat)) (fun _=>[(0, .pointer (some ⟨g,0,none⟩)),(2, .func (.func 70) #[] #[.pointer (some ⟨g1,0,none⟩)]),(7, .int .i64 (n:Int))]) (fun q wr=>Kf g w wr∧Rd 146 wr g q∧me wr w.heap.size hi g S all A [] [] (.slice none 0 0)∧aE wr g1 68 #[.slice A n0 c]∧(q.isSome=true→n≤most)) ?_ ?_
 ·skip
  refine ah ?_;refine Zm ?_;refine Zm ?_;refine qK ?_;refine aV 0 1 2 6 7 13 (Zt ?_);refine Cd.ao rfl (fun hc=> ?_) (fun hc=> ?_)
  ·skip
   refine Zr ?_;refine Zm ?_;refine Zc (Ze Tryz.func86) (gE g (-1) _ _ rd) ?_;rintro e w2 ⟨rfl,fw2,rd'⟩;refine⟨_,rfl,?_⟩;replace kf:=kf.kf fw2 rd;replace px:=px.kf fw2 rd;replace k1:=k1.kf fw2 rd;replace rd:=rd';clear rd'
   have hb:∀q:Option (List Nat),q.bind (eV (-1))=none:=fun q=>by
    cases q with
    |none=>rfl
    |some s=>show eV (-1) s=none;unfold eV;rw[if_neg (by omega)]
   rw[df (hb _)] at rd;refine aV 0 1 2 6 7 13 ?_;exact ab.join none ⟨rfl,rfl,rfl,trivial⟩ ⟨kf,rd,px,k1,by simp⟩
  ·skip
   refine Cd.skip ?_;exact ab.join (rest ja o) ⟨rfl,rfl,rfl,trivial⟩ ⟨kf,rd,px,k1,fun _=>by omega⟩
 clear kf rd px k1;rintro q0 wr ⟨kf,rd,px,k1,hq1⟩;refine ah ?_;refine Za ?_;refine aS 0 2 7 8 (aH (Cd.block ?_));have po:sj wr w.heap.size w.heap.size g [] [] (.slice none 0 0) S:=⟨rfl,Own.nil _ _ _ _,(fun i p u h=>by cases h),(fun b hb=>⟨by have:=(hS b hb).1;omega,(hS b hb).2,(fun e=>by cases e)⟩),(fun b e=>by cases e),kf.size⟩
 refine Cd.loop (σ:=Nat × List Pt × List Value × Value × Option (List Nat) × (Nat→Prop) × Nat) (fun s=>[(0, .pointer (some ⟨g,0,none⟩)),(2, .func (.func 70) #[] #[.pointer (some ⟨g1,0,none⟩)]),(7, .int .i64 (s.1:Int)),(8,s.2.2.2.1)])
  (fun s wr=>s.1<9223372036854775808∧s.2.1.length≤most∧(s.2.2.2.2.1.isSome=true→s.2.1.length+s.1≤most)∧(∀p∈s.2.1,p.flat)∧(∀b,S b→s.2.2.2.2.2.1 b)∧(∀b,s.2.2.2.2.2.1 b→lo≤b)∧w.heap.size≤s.2.2.2.2.2.2∧Kf g w wr∧Rd 146 wr g s.2.2.2.2.1∧me wr w.heap.size hi g S all A [] [] (.slice none 0 0)∧aE wr g1 68 #[.slice A n0 c]∧sj wr w.heap.size s.2.2.2.2.2.2 g s.2.1 s.2.2.1 s.2.2.2.1 s.2.2.2.2.2.1) (fun s=>s.1) (n,[],[], .slice none 0 0,q0,S,w.heap.size) ⟨hn,Nat.zero_le _,fun h=>by simpa using hq1 h,by simp,fun _ h=>h,hlo,Nat.le_refl _,kf,rd,px,k1,po⟩ ⟨rfl,rfl,rfl,rfl,trivial⟩ ?_
 clear kf rd px k1;clear po;rintro⟨k,acc,vs,v,q,Sa,H⟩ wr ⟨hk,hacc,hsome,hall,hSa,hSl,hwH,kf,rd,px,k1,po⟩;simp only at hk hacc hsome hall hSa hSl hwH rd po;obtain⟨A8,c8,rfl,-⟩:=po.own.reads;show Cd _ _ _ _ [(0, .pointer (some ⟨g,0,none⟩)),(2, .func (.func 70) #[] #[.pointer (some ⟨g1,0,none⟩)]),(7, .int .i64 (k:Int)),(8, .slice A8 acc.length c8)] _;refine Cd.seq (ah ?_);refine Zm ?_;refine qK ?_;refine Zm ?_;refine ar.start ?_;refine bB (fun hcx=>aa.move rfl rfl) ?_;refine ar.aW rfl rfl rfl rfl rfl rfl rfl (fun hcx=>Ze Tryz.func87) (fun hcx=>ec g q _ rd) ?_;intro w2 hw2;replace kf:=kf.step hw2;replace rd:=rd.step hw2;replace px:=px.step hw2;replace k1:=k1.step hw2;replace po:=po.step hw2;refine dL ?_;refine aL 0 2 7 8 21 (Zt ?_);refine Cd.cond rfl (fun h=> ?_) (fun h=> ?_)
 ·obtain⟨k,rfl⟩:∃j,k=j+1:=⟨k-1,by simp at h;omega⟩
  obtain⟨s,rfl⟩:∃s,q=some s:=by
   cases q with
   |none=>simp at h
   |some s=>exact⟨s,rfl⟩
  have hsm:=hsome rfl;refine Cd.skip (aH (Cd.block (Zr ?_)));refine Zm ?_;refine Zm ?_;refine Zm ?_;have hHi:=po.hi;have hwl:=kf.size;refine Seq.call (Enters.value (first:=[]) (cap:=[.pointer (some ⟨g1,0,none⟩)]) rfl rfl rfl zv) rfl rfl rfl (xY g g1 c hi _ all A S _ rd (by rw[hn0];exact k1) px.all hS (Nat.le_trans hhi kf.size) hfl hl) ?_;rintro en w5 ⟨p,A0,A1,A2,c0,c1,c2,q5,rfl,f5,rd5,pp⟩;refine⟨_,rfl,?_⟩;have pv:BG _ _ w5.heap.size p (.agg (vJ p A0 A1 A2 c0 c1 c2).toArray):=⟨⟨A0,A1,A2,c0,c1,c2,rfl,pp⟩,(fun b hb=>hb.elim (fun hb=>by have:=(hS b hb).1;have:=kf.size;have:=f5.size;omega) (fun hb=>hb.2)),Nat.le_refl _⟩;have pflat:=pp.flat;have kf5:=kf.trans f5;have px5:=px.kf f5 rd;have k15:=k1.kf f5 rd;have po5:=po.kf f5 rd;clear kf px k1 po rd pp;have kf:=kf5;have px:=px5;have k1:=k15;have po:=po5;have rd:=rd5;clear kf5 px5 k15 po5 rd5;unfold vJ at pv;unfold vJ;refine Seq.slice (vs:=[_]) (s:=7) rfl rfl rfl Tryz.underlying50 (by kernel_rfl) (bF) (by omega) (by omega) ⟨rfl,trivial⟩ rfl rfl rfl ?_;intro g28 w3 n28;have e28:=Nat.le_trans kf.size n28.ge;have l28:=Nat.lt_of_lt_of_le k1.lt n28.ge;replace kf:=kf.step n28.below;replace rd:=rd.step n28.below;replace px:=px.step n28.below;replace k1:=k1.step n28.below;replace po:=po.step n28.below;replace pv:=pv.step n28.below;have k28:=n28.an;have hrd:=Reads.an (size:=7) k28 1 rfl;have hszk:=kf.size;refine Seq.hZ rfl rfl rfl Tryz.underlying50 (by kernel_rfl) bF rfl (by decide) (b:=112) (by kernel_rfl) po.own hrd (by intro x hx;simp[aC,Value.cells] at hx;rcases hx with rfl|rfl|rfl|rfl|rfl|rfl|rfl<;>rfl) hszk (by simp only[maxLen];omega) (by omega) rfl rfl rfl ?_;intro v9 wa own9 ha hv9;have po2:=po.add (lo:=w2.heap.size) pv.rep (fun b hb=> ?_) hHi (by omega) hgw own9 ha hv9
  ·replace kf:=kf.app po.own ha
   replace rd:=rd.app po.own ha;replace k1:=k1.app po.own ha;replace px:=px.bL ha.below.size (fun b h1 _=>ha.below.block b (by omega)) (fun b _ e=>by cases e);clear po;have po:=po2;clear po2;obtain⟨A9,c9,rfl,-⟩:=own9.reads;clear own9 ha hrd hv9;refine Za ?_;refine aL 0 2 7 8 21 (ab.ag (et ?_));refine Zm ?_;refine qq ?_;refine Za ?_;refine aL 0 2 7 8 21 ?_;refine ab.round (k,acc++[p],_, .slice A9 (acc.length+1) c9,q5,_,wa.heap.size) ⟨rfl,rfl,su (by omega),rfl,trivial⟩ ⟨by simp only;omega,by simp;omega,fun hh=>by simp;omega,fun x hx=> ?_,fun b hb=> .inl (hSa b hb),fun b hb=>hb.elim (hSl b) (fun hb=>hb.elim (hlo b) (fun hb=>Nat.le_trans (Nat.le_trans hlw hwl) hb.1)),kf.size,kf,rd,px,k1,po⟩ (by simp);rcases List.mem_append.1 hx with hx|hx
   ·exact hall x hx
   ·simp at hx;subst hx;exact pflat
  ·rcases hb with hb|hb
   ·exact .inl (hSa b hb)
   ·exact .inr ⟨hb.1,by have:=pv.hi;omega⟩
 ·skip
  refine Cd.exit (ab.aD (ab.ay (ab.aA (aH (ah ?_)))));refine Zm ?_;refine Zc (Ze Tryz.func87) (ec g q _ rd) ?_;rintro e w5 ⟨rfl,hb5⟩;refine⟨_,rfl,?_⟩;replace kf:=kf.step hb5;replace rd:=rd.step hb5;replace px:=px.step hb5;replace k1:=k1.step hb5;replace po:=po.step hb5;refine gU ?_;refine aV 0 2 7 8 21 32 (Zt ?_);refine Cd.cond rfl (fun h2=> ?_) (fun h2=> ?_)
  ·skip
   refine ah ?_;refine Za ?_;refine ba 0 2 6 7 8 21 32 (Zt (Cd.ret (ab.ae ?_)));refine aP ?_;exact⟨[],q,none,0,rfl,Nat.zero_le _,(fun p hp=>by cases hp),⟨(fun i x hx=>by cases hx),Nat.le_refl _⟩,kf,rd⟩
  ·skip
   refine Cd.skip (az ?_);refine Zm ?_;refine Za ?_;refine ba 0 2 6 7 8 21 32 (Zt (Cd.ret ?_));refine aP ?_;exact⟨acc,q,A8,c8,rfl,hacc,hall,⟨po.at (fun b hb=>⟨hSl b hb,Nat.lt_of_lt_of_le (po.iD b hb).1 po.hi⟩) (fun b h1 h2=>⟨by omega,h2⟩),Nat.le_refl _⟩,kf,rd⟩
theorem rR:∀(l:List (List Nat)) (acc:List Ex),((jY acc l).getD []).length≤acc.length+l.length
 | [],acc=>by rw[jY];simp
 |s::r,acc=>by
  rw[jY];split
  ·simp
  ·have:=rR r (acc++[(eG s).1])
   simp only[List.length_append,List.length_cons,List.length_nil] at this⊢;omega
theorem vK {k:Ct}(hr:k.qk)(hf:∀p∈k.parts,bu p.bc):∀d∈(nV k).1,d<256:=by
 unfold nV;split
 ·rename_i hs
  obtain⟨a1,a2,a3,a4,a5,a6,a7,ht⟩:=nQ hs;have dK:=hr.parts;split
  ·intro d hd;cases hd
  ·rename_i x hx
   obtain⟨out,L⟩:=x;split
   ·intro d hd;cases hd
   ·obtain⟨c1,c2,c3,c4⟩:=sq k.parts [] [] out L (by intro t ht;cases ht) (by simp) (fun p hp=>⟨ht p hp,hf p hp⟩) (by simp only[List.length_nil];omega) hx
    simp only[List.length_nil,Nat.zero_add] at c2 c3
    have tx:∀ {l:List Nat},(∀d∈l,d<256)→l.length≤100000→∀d∈cq l,d<256:=fun {l} h hl d hd=>by
     unfold cq at hd;rcases List.mem_append.1 hd with hd|hd
     ·exact gf (by omega) d hd
     ·exact h d hd
    intro d hd;have hd:d∈u7 k out L:=hd;unfold u7 at hd;simp only[List.mem_append,List.mem_flatMap] at hd;rcases hd with (((((((hd|hd)|hd)|hd)|hd)|hd)|hd)|(hd|⟨t,ht,hd⟩))|(hd|⟨q,hq,hd⟩)
    ·exact tx hr.id (by omega) d hd
    ·exact tx hr.aY (by omega) d hd
    ·exact tx hr.writer (by omega) d hd
    ·exact tx hr.text (by omega) d hd
    ·exact gf (by omega) d hd
    ·exact gf (by omega) d hd
    ·exact gf (by omega) d hd
    ·exact gf (by omega) d hd
    ·exact tx (c1 t ht).1 (by have:=(c1 t ht).2;omega) d hd
    ·exact gf (by omega) d hd
    ·obtain⟨q1,q2,q3,q4,q5⟩:=c4 q hq
     unfold Pk.bytes at hd;simp only[List.mem_append,List.mem_flatMap] at hd;rcases hd with ((hd|hd)|(hd|⟨n,hn,hd⟩))|hd
     ·exact gf (xE q1) d hd
     ·exact gf (by split<;>omega) d hd
     ·exact gf (by omega) d hd
     ·exact gf (by have:=q2 n hn;omega) d hd
     ·exact tx q4 (by omega) d hd
 ·intro d hd;cases hd
def gZ:Ct:=⟨[],[],[],[],0,0,0,[]⟩
theorem cF:br Tryz.prog 52=some (some (.agg #[.string {data:= #[]}, .string {data:= #[]}, .string {data:= #[]}, .string {data:= #[]}, .int .i64 0, .int .i64 0, .int .i64 0, .slice none 0 0])):=by kernel_rfl
theorem mi:br Tryz.prog 68=some (some (.slice none 0 0)):=by kernel_rfl
structure AG (w:World)(lo hi:Nat)(es:List Ex)(A:Option Addr):Prop where
 at_:sU w (fun b=>lo≤b∧b<hi) es A
 hi:hi≤w.heap.size
theorem AG.step {w w':World}{lo hi:Nat}{es:List Ex}{A:Option Addr}(h:AG w lo hi es A)(hb:Below w.heap.size w w'):AG w' lo hi es A:=⟨h.at_.mono (fun _ h=>h) (fun p hp=>hb.cell (Nat.lt_of_lt_of_le hp.2 h.hi)),Nat.le_trans h.hi hb.size⟩
theorem AG.put {w w':World}{lo hi g:Nat}{T:TypeId}{cur cs:Array Value}{es:List Ex}{A:Option Addr}(h:AG w lo hi es A)(_k:aE w g T cur)(p:gI w w' g T cs){E:Prop}(_e:E)(hne:g<lo∨hi≤g:=by omega):AG w' lo hi es A:=
 ⟨h.at_.mono (fun _ h=>h) (fun a ha=>World.cell?_of_block (p.grown.block _ (Nat.lt_of_lt_of_le ha.2 h.hi) (fun e=>by injection e with e;have:=ha.1;have:=ha.2;omega))),Nat.le_trans h.hi (Nat.le_of_eq p.size.symm)⟩
theorem oH (a:List Nat)(w:World):(Instr.build 52 #[(0, .string (strOf a))]).run Tryz.prog w= .ok (.agg #[.string (strOf a), .string (strOf []), .string (strOf []), .string (strOf []), .int .i64 0, .int .i64 0, .int .i64 0, .slice none 0 0]) w:=by kernel_rfl
theorem eK (w:World):(Instr.build 52 #[]).run Tryz.prog w= .ok (.agg #[.string (strOf []), .string (strOf []), .string (strOf []), .string (strOf []), .int .i64 0, .int .i64 0, .int .i64 0, .slice none 0 0]) w:=by kernel_rfl
set_option maxHeartbeats 4000000 in
theorem tE (s:List Nat)(w:World)(hs:oL s)(hsl:s.length≤9223372036854775807):Calls Tryz.prog 23 #[.string (strOf s)] w fun en w'=>Grow w w'∧∃(k:Ct) (A:Option Addr) (c:Nat) (e:Int),en= .returned (.tuple #[k.v A c, .int .i64 e])∧((k=gZ∧A=none∧c=0∧e=3)∨(e=0∧k.qk∧jx w' w'.heap.size k.parts A∧gV k=true∧nV k=(s,0))):=by
 have bel:=Below.refl w.heap.size w;refine Zs 74 Tryz.func23 ?_;refine ah ?_;refine Zl cF ?_;intro g2 w1 n2;have e2:=Nat.le_trans bel.size n2.ge;replace bel:=bel.step n2.below;have k2:=n2.an;refine Za ?_;refine bk 0 2 3 (aH (ah ?_));refine Zm ?_;refine Zv (aa.ed rfl rfl Tryz.underlying9) ?_;refine qK ?_;refine aS 0 2 3 12 (Zt ?_);refine Cd.ao rfl (fun hc=> ?_) (fun hc=> ?_)
 ·skip
  refine ah ?_;refine Zv (aa.build rfl rfl (eK _)) ?_;refine Zo 8 k2 ?_;intro w2 pw2;replace bel:=bel.put k2 pw2 e2;replace k2:=pw2.an;refine Za ?_;refine aS 0 2 3 12 (Zt (Cd.ret (ab.ae ?_)));refine ab.fW rfl rfl rfl k2 Tryz.underlying52 rfl (m:=8) (by kernel_rfl) rfl (.inl rfl) ?_;exact⟨bel,gZ,none,0,3,rfl, .inl ⟨rfl,rfl,rfl,rfl⟩⟩
 refine Cd.skip (az ?_);refine Zm ?_;refine Zc (Ze Tryz.func41) (xR s _ hs) ?_;rintro en w5 ⟨g,rfl,hb5,hg,rd⟩;refine⟨_,rfl,?_⟩;replace bel:=bel.step hb5;replace k2:=k2.step hb5;have hgB:w.heap.size≤g:=by have:=e2;have:=k2.lt;have:=n2.below.size;omega
 have belr:=bel;have hgl:=rd.lt;have kf:=Kf.refl g w5;refine Za ?_;refine aL 0 2 3 4 12 (az ?_);refine Zm ?_;refine Zc (Ze Tryz.func43) (eI g 16 _ _ rd) ?_;rintro e w2 ⟨z1,q1,⟨hz1,lz1,rfl⟩,fw2,rd'⟩;refine⟨_,rfl,?_⟩;replace k2:=k2.kf fw2 rd;replace kf:=kf.kf fw2 rd;replace rd:=rd';clear rd';refine Zv (aa.build rfl rfl (oH _ _)) ?_;refine Zl cF ?_;intro g5 w3 n5;have e5:=Nat.le_trans kf.size n5.ge;have l5:=Nat.lt_of_lt_of_le k2.lt n5.ge;replace k2:=k2.step n5.below;replace kf:=kf.step n5.below;replace rd:=rd.step n5.below;have k5:=n5.an;refine Zo 8 k5 ?_;intro w4 pw4;replace k2:=k2.put pw4 (by omega);replace kf:=kf.put k5 pw4 e5;replace rd:=rd.put k5 pw4 e5;replace k5:=pw4.an;refine aV 0 2 3 4 5 12 (az ?_);refine Zm ?_;replace k5:aE _ g5 52 #[.string (strOf z1), .string (strOf []), .string (strOf []), .string (strOf []), .int .i64 0, .int .i64 0, .int .i64 0, .slice none 0 0]:=k5;refine Zc (Ze Tryz.func43) (eI g 16 _ _ rd) ?_;rintro e w5 ⟨z2,q2,⟨hz2,lz2,rfl⟩,fw5,rd'⟩;refine⟨_,rfl,?_⟩;replace k2:=k2.kf fw5 rd;replace kf:=kf.kf fw5 rd;replace k5:=k5.kf fw5 rd;replace rd:=rd';clear rd';refine Zf 1 Tryz.underlying52 ?_;refine Zq k5 ?_;intro w6 pw6;replace k2:=k2.put pw6 (by omega);replace kf:=kf.put k5 pw6 e5;replace rd:=rd.put k5 pw6 e5;replace k5:=pw6.an;refine aV 0 2 3 4 5 12 (az ?_);refine Zm ?_;replace k5:aE _ g5 52 #[.string (strOf z1), .string (strOf z2), .string (strOf []), .string (strOf []), .int .i64 0, .int .i64 0, .int .i64 0, .slice none 0 0]:=k5;refine Zc (Ze Tryz.func43) (eI g 16 _ _ rd) ?_;rintro e w7 ⟨z3,q3,⟨hz3,lz3,rfl⟩,fw7,rd'⟩;refine⟨_,rfl,?_⟩;replace k2:=k2.kf fw7 rd;replace kf:=kf.kf fw7 rd;replace k5:=k5.kf fw7 rd;replace rd:=rd';clear rd';refine Zf 2 Tryz.underlying52 ?_;refine Zq k5 ?_;intro w8 pw8;replace k2:=k2.put pw8 (by omega);replace kf:=kf.put k5 pw8 e5;replace rd:=rd.put k5 pw8 e5;replace k5:=pw8.an;refine aV 0 2 3 4 5 12 (az ?_);refine Zm ?_;replace k5:aE _ g5 52 #[.string (strOf z1), .string (strOf z2), .string (strOf z3), .string (strOf []), .int .i64 0, .int .i64 0, .int .i64 0, .slice none 0 0]:=k5;refine Zc (Ze Tryz.func43) (eI g 4000 _ _ rd) ?_;rintro e w9 ⟨z4,q4,⟨hz4,lz4,rfl⟩,fw9,rd'⟩;refine⟨_,rfl,?_⟩;replace k2:=k2.kf fw9 rd;replace kf:=kf.kf fw9 rd;replace k5:=k5.kf fw9 rd;replace rd:=rd';clear rd';refine Zf 3 Tryz.underlying52 ?_;refine Zq k5 ?_;intro w10 pw10;replace k2:=k2.put pw10 (by omega);replace kf:=kf.put k5 pw10 e5;replace rd:=rd.put k5 pw10 e5;replace k5:=pw10.an;refine aV 0 2 3 4 5 12 (az ?_);refine Zm ?_;replace k5:aE _ g5 52 #[.string (strOf z1), .string (strOf z2), .string (strOf z3), .string (strOf z4), .int .i64 0, .int .i64 0, .int .i64 0, .slice none 0 0]:=k5;refine Zc (Ze Tryz.func42) (dJ g _ _ rd) ?_;rintro e w11 ⟨z5,⟨hz5,hv5,rfl⟩,fw11,rd'⟩;refine⟨_,rfl,?_⟩;replace k2:=k2.kf fw11 rd;replace kf:=kf.kf fw11 rd;replace k5:=k5.kf fw11 rd;replace rd:=rd';clear rd';refine Zf 4 Tryz.underlying52 ?_;refine Zq k5 ?_;intro w12 pw12;replace k2:=k2.put pw12 (by omega);replace kf:=kf.put k5 pw12 e5;replace rd:=rd.put k5 pw12 e5;replace k5:=pw12.an;refine aV 0 2 3 4 5 12 (az ?_);refine Zm ?_;replace k5:aE _ g5 52 #[.string (strOf z1), .string (strOf z2), .string (strOf z3), .string (strOf z4), .int .i64 (z5:Int), .int .i64 0, .int .i64 0, .slice none 0 0]:=k5;refine Zc (Ze Tryz.func42) (dJ g _ _ rd) ?_;rintro e w13 ⟨z6,⟨hz6,hv6,rfl⟩,fw13,rd'⟩;refine⟨_,rfl,?_⟩;replace k2:=k2.kf fw13 rd;replace kf:=kf.kf fw13 rd;replace k5:=k5.kf fw13 rd;replace rd:=rd';clear rd';refine Zf 5 Tryz.underlying52 ?_;refine Zq k5 ?_;intro w14 pw14;replace k2:=k2.put pw14 (by omega);replace kf:=kf.put k5 pw14 e5;replace rd:=rd.put k5 pw14 e5;replace k5:=pw14.an;refine aV 0 2 3 4 5 12 (az ?_);refine Zm ?_;replace k5:aE _ g5 52 #[.string (strOf z1), .string (strOf z2), .string (strOf z3), .string (strOf z4), .int .i64 (z5:Int), .int .i64 (z6:Int), .int .i64 0, .slice none 0 0]:=k5;refine Zc (Ze Tryz.func42) (dJ g _ _ rd) ?_;rintro e w15 ⟨z7,⟨hz7,hv7,rfl⟩,fw15,rd'⟩;refine⟨_,rfl,?_⟩;replace k2:=k2.kf fw15 rd;replace kf:=kf.kf fw15 rd;replace k5:=k5.kf fw15 rd;replace rd:=rd';clear rd';refine Zf 6 Tryz.underlying52 ?_;refine Zq k5 ?_;intro w16 pw16;replace k2:=k2.put pw16 (by omega);replace kf:=kf.put k5 pw16 e5;replace rd:=rd.put k5 pw16 e5;replace k5:=pw16.an;refine aV 0 2 3 4 5 12 (az ?_);refine Zm ?_;replace k5:aE _ g5 52 #[.string (strOf z1), .string (strOf z2), .string (strOf z3), .string (strOf z4), .int .i64 (z5:Int), .int .i64 (z6:Int), .int .i64 (z7:Int), .slice none 0 0]:=k5;refine Zc (Ze Tryz.func68) (oG g 4000 _ _ rd (by omega)) ?_;rintro e w17 ⟨ls,q8,⟨ll,hls,A4,c4,rfl,own4⟩,fw17,rd'⟩;refine⟨_,rfl,?_⟩;replace k2:=k2.kf fw17 rd;replace kf:=kf.kf fw17 rd;replace k5:=k5.kf fw17 rd;replace rd:=rd';clear rd';obtain⟨A4',c4',hv4,hr4⟩:=own4.reads;injection hv4 with hv4 _ _
 subst hv4;have hg17:=rd.lt;have h517:=k5.lt;have hflat:=pG ls [] (by simp);have hlen:=rR ls [];simp only[List.length_nil,Nat.zero_add] at hlen;refine Zc (Ze Tryz.func67) (sR _ c4 A4 ls _ hr4 (Nat.le_refl _) (fun s hs=>⟨(hls s hs).1,by have:=(hls s hs).2;omega⟩) (by omega)) ?_;rintro en wt ⟨hb18,A6,c6,rfl,ex⟩;refine⟨_,rfl,?_⟩
 generalize (jY [] ls).getD []=all at hflat hlen ex⊢
 generalize (jY [] ls).isSome=ok at ex⊢
 have hs18:=hb18.size;replace k2:=k2.step hb18;replace kf:=kf.step hb18;replace rd:=rd.step hb18;replace k5:=k5.step hb18;have px:AG wt w17.heap.size wt.heap.size all A6:=⟨ex,Nat.le_refl _⟩;clear ex own4 hr4;refine Zm ?_;refine Zx ?_;refine Zx ?_;refine Zl mi ?_;intro g6 w18 n6;have e6:=Nat.le_trans kf.size n6.ge;have l6:=Nat.lt_of_lt_of_le k5.lt n6.ge;have l6_k2:=Nat.lt_of_lt_of_le k2.lt n6.ge;replace k2:=k2.step n6.below;replace kf:=kf.step n6.below;replace rd:=rd.step n6.below;replace k5:=k5.step n6.below;replace px:=px.step n6.below;have k6:=n6.an;have hg6:wt.heap.size≤g6:=n6.ge;refine Zq k6 ?_;intro w19 pw19;replace k2:=k2.put pw19 (by omega);replace kf:=kf.put k6 pw19 e6;replace rd:=rd.put k6 pw19 e6;replace k5:=k5.put pw19 (by omega);replace px:=px.put k6 pw19 e6;replace k6:=pw19.an;refine Za ?_;refine bO 0 2 3 4 5 6 7 12 (az ?_);refine Zm ?_;replace k6:aE _ g6 68 #[.slice A6 all.length c6]:=k6;refine Zv (aa.makeFunc (v:= .func (.func 70) #[] #[.pointer (some ⟨g6,0,none⟩)]) rfl (show fc _ _=some [] from rfl) (show fc _ _=some [.pointer (some ⟨g6,0,none⟩)] from rfl) rfl) ?_;have hpl:=px.hi;refine Zc (Ze Tryz.func69) (vm g g6 c6 wt.heap.size 200 w17.heap.size _ all A6 _ _ rd (by omega) k6 px.at_ (fun b hb=>⟨hb.2,by have:=hb.1;omega⟩) px.hi (fun b hb=>hb.1) (by omega) hflat (by omega)) ?_;rintro en w20 ⟨ps,q9,A7,c7,rfl,lps,pflat,pl,f20,rd20⟩;refine⟨_,rfl,?_⟩;have kf20:=kf.trans f20;have k520:=k5.kf f20 rd;have k220:=k2.kf f20 rd;clear kf rd k5 k2 px k6;have kf:=kf20;have rd:=rd20;have k5:=k520;have k2:=k220;clear kf20 rd20 k520 k220 f20;have hpt:=pl.pt
 have hfac:∀p∈ps,bu p.bc:=fun p hp=>by
  obtain⟨i,hi⟩:=List.getElem?_of_mem hp;obtain⟨_,_,_,_,_,_,_,_,_,hrx,_⟩:=hpt i p hi;exact hrx.tL
 clear hpt;refine Zf 7 Tryz.underlying52 ?_;refine Zq k5 ?_;intro w20 pw20;replace k2:=k2.put pw20 (by omega);replace kf:=kf.put k5 pw20 e5;replace rd:=rd.put k5 pw20 e5;replace pl:=pl.put k5 pw20 e5;replace k5:=pw20.an;refine bO 0 2 3 4 5 6 7 12 (aH (ah ?_));refine Zm ?_;refine gU ?_;refine Zm ?_;refine ar.start ?_;refine bB (fun hcx=>aa.move rfl rfl) ?_;replace k5:aE _ g5 52 #[.string (strOf z1), .string (strOf z2), .string (strOf z3), .string (strOf z4), .int .i64 (z5:Int), .int .i64 (z6:Int), .int .i64 (z7:Int), .slice A7 ps.length c7]:=k5;obtain⟨k,hk⟩:∃k:Ct,k=⟨z1,z2,z3,z4,z5,z6,z7,ps⟩:=⟨_,rfl⟩
 have hrng:k.qk:=by
  rw[hk];exact⟨hz1,by show z1.length≤_;omega,hz2,by show z2.length≤_;omega,hz3,by show z3.length≤_;omega,hz4,by show z4.length≤_;omega,by show bu (z5:Int);unfold bu;omega,by show bu (z6:Int);unfold bu;omega,by show bu (z7:Int);unfold bu;omega,by show ps.length≤_;omega,pflat⟩
 have hkp:k.parts=ps:=by rw[hk]
 have hkv:k.v A7 c7= .agg #[.string (strOf z1), .string (strOf z2), .string (strOf z3), .string (strOf z4), .int .i64 (z5:Int), .int .i64 (z6:Int), .int .i64 (z7:Int), .slice A7 ps.length c7]:=by rw[hk];rfl
 have hsc:=fun W (h:jx W W.heap.size ps A7)=>lk k W.heap.size A7 c7 W hrng (by rw[hkp];exact h) (Nat.le_refl _);have hpc:=fun W (h:jx W W.heap.size ps A7)=>nk k W.heap.size A7 c7 W hrng (by rw[hkp];exact h) (Nat.le_refl _);have hpb:=vK hrng (by rw[hkp];exact hfac);rw[hkv] at hsc hpc;refine ar.aW rfl rfl rfl rfl rfl rfl rfl (fun hcx=>Ze Tryz.func45) (fun hcx=>wM g _ _ rd) ?_;intro w21 hw21;replace k2:=k2.step hw21;replace kf:=kf.step hw21;replace rd:=rd.step hw21;replace k5:=k5.step hw21;replace pl:=pl.step hw21;refine Zn (fun hcx=>aa.not rfl rfl) ?_;refine fh ?_;refine Zm ?_;refine ar.start ?_;refine bB (fun hcx=>aa.dx rfl rfl Tryz.underlying52 rfl k5 (m:=8) (by kernel_rfl) rfl) ?_;refine ar.aW rfl rfl rfl rfl rfl rfl rfl (fun hcx=>Ze Tryz.func21) (fun hcx=>hsc _ pl.pt) ?_;intro w22 hw22;replace k2:=k2.step hw22;replace kf:=kf.step hw22;replace rd:=rd.step hw22;replace k5:=k5.step hw22;replace pl:=pl.step hw22;refine Zn (fun hcx=>aa.not rfl rfl) ?_;refine fh ?_;refine cw 0 2 3 4 5 6 7 12 58 (Zt ?_);have bel:=belr.trans (kf.to hgB (by have:=hgl;omega));have e2':w.heap.size≤g2:=e2;refine Cd.cond rfl (fun h=> ?_) (fun h=> ?_)
 ·skip
  refine ah ?_;refine Zv (aa.build rfl rfl (eK _)) ?_;refine Zo 8 k2 ?_;intro w23 pw23;replace k5:=k5.put pw23 (by omega);replace bel:=bel.put k2 pw23 e2;replace k2:=pw23.an;refine Za ?_;refine cw 0 2 3 4 5 6 7 12 58 (Zt (Cd.ret (ab.ae ?_)));refine ab.fW rfl rfl rfl k2 Tryz.underlying52 rfl (m:=8) (by kernel_rfl) rfl (.inl rfl) ?_;exact⟨bel,gZ,none,0,3,rfl, .inl ⟨rfl,rfl,rfl,rfl⟩⟩
 have hso:gV k=true:=by simp at h;exact h.2
 refine Cd.skip (aH (ah ?_));refine ZW 8 Tryz.underlying52 k5 ?_;refine Zc (Ze Tryz.func20) (hpc _ pl.pt) ?_;rintro en w30 ⟨rfl,hb30⟩;refine⟨_,rfl,?_⟩;obtain⟨P,hP⟩:∃P,nV k=P:=⟨_,rfl⟩;rw[hP] at hpb⊢;replace k2:=k2.step hb30;replace k5:=k5.step hb30;replace pl:=pl.step hb30;replace bel:=bel.step hb30;refine Zm ?_;refine Zx ?_;refine Zx ?_;refine Za ?_;refine Za ?_;refine ct 0 2 3 4 5 6 7 8 9 12 58 (az ?_);refine Zm ?_;refine jq ?_;refine Zm ?_;refine ar.start ?_;refine bB (fun hcx=>aa.move rfl rfl) ?_;refine jL ?_;refine Zn (fun hcx=>aa.kW (a:=P.1) (b:=s) rfl rfl rfl hpb hs) ?_;refine fh ?_;refine eZ 0 2 3 4 5 6 7 8 9 12 58 71 (Zt ?_);refine Cd.cond rfl (fun h2=> ?_) (fun h2=> ?_)
 ·skip
  refine ah ?_;refine Zv (aa.build rfl rfl (eK _)) ?_;refine Zo 8 k2 ?_;intro w23 pw23;replace k5:=k5.put pw23 (by omega);replace bel:=bel.put k2 pw23 e2;replace k2:=pw23.an;refine Za ?_;refine eZ 0 2 3 4 5 6 7 8 9 12 58 71 (Zt (Cd.ret (ab.ae ?_)));refine ab.fW rfl rfl rfl k2 Tryz.underlying52 rfl (m:=8) (by kernel_rfl) rfl (.inl rfl) ?_;exact⟨bel,gZ,none,0,3,rfl, .inl ⟨rfl,rfl,rfl,rfl⟩⟩
 ·skip
  refine Cd.skip (az ?_);refine ZW 8 Tryz.underlying52 k5 ?_;refine Zo 8 k2 ?_;intro w23 pw23;replace k5:=k5.put pw23 (by omega);replace pl:=pl.put k2 pw23 e2;replace bel:=bel.put k2 pw23 e2;replace k2:=pw23.an;refine Za ?_;refine eZ 0 2 3 4 5 6 7 8 9 12 58 71 (Zt (Cd.ret ?_));refine ab.fW rfl rfl rfl k2 Tryz.underlying52 rfl (m:=8) (by kernel_rfl) rfl (.inl rfl) ?_;refine⟨bel,k,A7,c7,0,?_, .inr ⟨rfl,hrng,by rw[hkp];exact pl.pt,hso,?_⟩⟩
  ·rw[hkv];rfl
  ·rw[hP]
   simp at h2;exact Prod.ext h2.2 h2.1
noncomputable def eqB {α:Type} (a b:α):Bool:= @decide (a=b) (Classical.propDecidable _)
theorem dH {α:Type}{a b:α}:eqB a b=true↔a=b:=by unfold eqB;exact @decide_eq_true_iff (a=b) (Classical.propDecidable _)
theorem qc {α:Type}{a b:α}(h:a≠b):eqB a b=false:=by
 cases hh:eqB a b with
 |false=>rfl
 |true=>exact absurd (dH.1 hh) h
theorem kM {α:Type}{a b:α}(h:a=b):eqB a b=true:=dH.2 h
theorem sw {α:Type}{l m:List α}{i:Nat}{x y:α}(h1:l[i]? =some x)(h2:m[i]? =some y)(h:eqB x y=false):eqB l m=false:=qc fun e=>by
 rw[e,h2] at h1;injection h1 with h1
 rw[kM h1.symm] at h
 cases h
def yG (w:World)(B:Nat)(x:Pt)(v:Value):Prop:=∃A0 A1 A2 c0 c1 c2,v= .agg (vJ x A0 A1 A2 c0 c1 c2).toArray∧r9 w B x A0 A1 A2 c1 c2
set_option maxHeartbeats 1000000 in
theorem jZ (g:Nat)(eg:∀args w,(callFunc g args).run Tryz.prog w= .ok (.enter g args) w)(B:Nat)(A A':Option Addr)(c c':Nat)(es fs:List Ex)(w:World)(hv:ma w B es A)(hv':ma w B fs A')(hB:B≤w.heap.size)(dK:es.length≤1000)(h61:fs.length≤1000)
  (hp:∀x∈es,∀y∈fs,∀v v' W,Below w.heap.size w W→jQ W B x v→jQ W B y v'→Calls Tryz.prog g #[v,v'] W fun en w'=>en= .returned (.bool (eqB x y))∧Grow W w'):
  Calls Tryz.prog 119 #[.slice A es.length c, .slice A' fs.length c', .func (.func g) #[] #[]] w fun en w'=>en= .returned (.bool (eqB es fs))∧Grow w w':=by
 have bel:=Below.refl w.heap.size w;obtain⟨n,hn⟩:∃n,n=es.length:=⟨_,rfl⟩;obtain⟨m,hm⟩:∃n,n=fs.length:=⟨_,rfl⟩;rw[←hn] at dK⊢;rw[←hm] at h61⊢;refine Zs 32 Tryz.func119 ?_;refine ah ?_;refine Za ?_;refine aS 0 1 2 6 (aH (ah ?_));refine Zm ?_;refine Zv (aa.len rfl rfl Tryz.underlying68) ?_;refine Zm ?_;refine Zv (aa.len rfl rfl Tryz.underlying68) ?_;refine jq ?_;refine aL 0 1 2 6 14 (Zt ?_);refine Cd.ao rfl (fun hc=> ?_) (fun hc=> ?_)
 ·skip
  refine ah ?_;refine Za ?_;refine aL 0 1 2 6 14 (Zt (Cd.ret (ab.ae ?_)));refine aP ?_;exact⟨aO (aB (qc (fun e=>by rw[e] at hn;omega)).symm),bel⟩
 refine Cd.skip (aH (ah ?_));refine Zm ?_;refine Zv (aa.len rfl rfl Tryz.underlying68) ?_;refine Zm ?_;refine bO 0 1 2 6 14 15 16 17 (Zt (Cd.block ?_));obtain rfl:n=m:=by omega
 refine Cd.loop (σ:=Nat) (fun k=>[(0, .slice A n c),(1, .slice A' n c'),(2, .func (.func g) #[] #[]),(15, .slice A n c),(16, .int .i64 (n:Int)),(17, .int .i64 (k:Int))])
  (fun k wr=>k≤n∧es.take k=fs.take k∧Below w.heap.size w wr) (fun k=>n-k) 0 ⟨Nat.zero_le _,by simp,bel⟩ ⟨rfl,rfl,rfl,rfl,rfl,rfl,trivial⟩ ?_
 clear bel;rintro k wr ⟨hk,hno,bel⟩;refine ah ?_;refine eU ?_;refine ba 0 1 2 15 16 17 18 (aH ?_);refine Cd.ao rfl (fun hc=> ?_) (fun hc=> ?_)
 ·obtain⟨x,hx⟩:∃x,es[k]? =some x:=⟨_,List.getElem?_eq_getElem (show k<es.length by omega)⟩
  obtain⟨y,hy⟩:∃x,fs[k]? =some x:=⟨_,List.getElem?_eq_getElem (show k<fs.length by omega)⟩;have htk:es.take (k+1)=es.take k++[x]:=by rw[List.take_add_one,hx];rfl
  have htk':fs.take (k+1)=fs.take k++[y]:=by rw[List.take_add_one,hy];rfl
  obtain⟨ad,A1,c1,rfl,hbl,hrx,hc⟩:=hv k x hx;obtain⟨ad',A2,c2,rfl,hbl',hry,hc'⟩:=hv' k y hy;refine Cd.skip (aH (Cd.block (ah ?_)));refine Zm ?_;refine Zv (aa.aU rfl rfl rfl Tryz.underlying68 (s:=4) (by kernel_rfl) (j:=k) rfl (by omega)) ?_;refine Zv (aa.b7 (ps:=[.int .i64 x.op, .int .i64 x.n, .string (strOf x.name), .slice A1 x.args.length c1]) rfl rfl Tryz.underlying105 rfl (m:=4) (by kernel_rfl) rfl (fun j u hj=>((bel.mono hB).cell (p:=(ad.add (k*4)).add j) (by rw[ai,ai];exact hbl)).trans (hc j u hj))) ?_;refine Zl au ?_;intro g8 w1 n8;have e8:=Nat.le_trans bel.size n8.ge;replace bel:=bel.step n8.below;have k8:=n8.an;refine Za ?_;refine Zo 4 k8 ?_;intro w2 pw2;replace bel:=bel.put k8 pw2 e8;replace k8:=pw2.an;refine cw 0 1 2 7 8 15 16 17 18 (az ?_);refine Zm ?_;refine Zm ?_;replace k8:aE _ g8 105 #[.int .i64 x.op, .int .i64 x.n, .string (strOf x.name), .slice A1 x.args.length c1]:=k8;refine Zv (aa.aU rfl rfl rfl Tryz.underlying68 (s:=4) (by kernel_rfl) (j:=k) rfl (by omega)) ?_;refine Zv (aa.b7 (ps:=[.int .i64 y.op, .int .i64 y.n, .string (strOf y.name), .slice A2 y.args.length c2]) rfl rfl Tryz.underlying105 rfl (m:=4) (by kernel_rfl) rfl (fun j u hj=>((bel.mono hB).cell (p:=(ad'.add (k*4)).add j) (by rw[ai,ai];exact hbl')).trans (hc' j u hj))) ?_;refine Zl au ?_;intro g9 w3 n9;have e9:=Nat.le_trans bel.size n9.ge;have l9:=Nat.lt_of_lt_of_le k8.lt n9.ge;replace bel:=bel.step n9.below;replace k8:=k8.step n9.below;have k9:=n9.an;refine Zo 4 k9 ?_;intro w4 pw4;replace bel:=bel.put k9 pw4 e9;replace k8:=k8.put pw4 (by omega);replace k9:=pw4.an;refine dr 0 1 2 7 8 9 15 16 17 18 (az ?_);refine Zm ?_;refine ZW 4 Tryz.underlying105 k8 ?_;refine ZW 4 Tryz.underlying105 k9 ?_;replace k9:aE _ g9 105 #[.int .i64 y.op, .int .i64 y.n, .string (strOf y.name), .slice A2 y.args.length c2]:=k9;refine Seq.call (Enters.value (first:=[]) (cap:=[]) rfl rfl rfl eg) rfl rfl rfl (hp x (List.mem_of_getElem? hx) y (List.mem_of_getElem? hy) _ _ _ bel (hrx.below (bel.mono hB)) (hry.below (bel.mono hB))) ?_;rintro en w5 ⟨rfl,hb5⟩;refine⟨_,rfl,?_⟩;replace bel:=bel.step hb5;replace k8:=k8.step hb5;replace k9:=k9.step hb5;refine gU ?_;refine ct 0 1 2 7 8 9 15 16 17 18 30 (Zt ?_);refine Cd.cond rfl (fun h=> ?_) (fun h=> ?_)
  ·skip
   refine ah ?_;refine Za ?_;refine eZ 0 1 2 6 7 8 9 15 16 17 18 30 (Zt (Cd.ret (ab.af (ab.ae (ab.aJ (ab.af (ab.ae ?_)))))));refine aP ?_;exact⟨aO (aB (sw hx hy (by simpa using h)).symm),bel⟩
  ·skip
   refine Cd.skip (ab.ag (et ?_));refine dq ?_;refine Zm ?_;refine ct 0 1 2 7 8 9 15 16 17 18 30 ?_;refine ab.round (k+1) ⟨rfl,rfl,rfl,rfl,rfl,rfl,trivial⟩ ⟨by omega,?_,bel⟩ (by omega);have hxy:x=y:=dH.1 (by simpa using h);rw[htk,htk',hno,hxy]
 ·obtain rfl:k=n:=by omega
  rw[List.take_of_length_le (by omega),List.take_of_length_le (by omega)] at hno;refine Cd.exit (ab.aD (ab.ay (ab.aA (az ?_))));refine Za ?_;refine bO 0 1 2 6 15 16 17 18 (Zt (Cd.ret ?_));refine aP ?_;exact⟨aO (aB (kM hno).symm),bel⟩
theorem nK:∀args w,(callFunc 120 args).run Tryz.prog w= .ok (.enter 120 args) w:=fun args w=>aF Tryz.func120 (by kernel_rfl) rfl args w
theorem As (e f:Ex):eqB e f=(decide (e.op=f.op)&&decide (e.n=f.n)&&decide (e.name=f.name)&&eqB e.args f.args):=by
 cases e with
 |mk a b d l=>
 cases f with
 |mk a' b' d' l'=>
 show eqB (Ex.mk a b d l) (Ex.mk a' b' d' l')=(decide (a=a')&&decide (b=b')&&decide (d=d')&&eqB l l');rw[Bool.eq_iff_iff,dH];simp[dH,and_assoc]
theorem tP (N:Nat):∀(e f:Ex) (B:Nat) (v v':Value) (w:World),e.nodes≤N→jQ w B e v→jQ w B f v'→B≤w.heap.size→Calls Tryz.prog 120 #[v,v'] w fun en w'=>en= .returned (.bool (eqB e f))∧Grow w w':=by
 induction N with
 |zero=>intro e f B v v' w hN;have:=e.bI;omega
 |succ N ih=>
 intro e f B v v' w hN hrep hrep' hB;obtain⟨A,c,rfl,hv⟩:=hrep.open;obtain⟨A',c',rfl,hv'⟩:=hrep'.open;have bel:=Below.refl w.heap.size w;have HB1:=hv.name;have HB2:=hv'.name;have hcl:=fun W (hb:Below w.heap.size w W)=>jZ 120 nK B A A' c c' e.args f.args W (ma.below hv.arg (hb.mono hB)) (ma.below hv'.arg (hb.mono hB)) (Nat.le_trans hB hb.size) hv.dK hv'.dK (fun x hx y hy v v' W2 hb2 h1 h2=>ih x y B v v' W2 (by have:=Ex.eD hx;omega) h1 h2 (Nat.le_trans hB (Nat.le_trans hb.size hb2.size)));have heq:=As e f
 generalize eqB e.args f.args=q at hcl heq
 refine Zs 31 Tryz.func120 ?_;refine ah ?_;refine Seq.box rfl rfl rfl rfl rfl ?_;intro g2 w1 n2;have e2:=Nat.le_trans bel.size n2.ge;replace bel:=bel.step n2.below;have k2:=n2.an;refine Seq.box rfl rfl rfl rfl rfl ?_;intro g3 w2 n3;have e3:=Nat.le_trans bel.size n3.ge;have l3:=Nat.lt_of_lt_of_le k2.lt n3.ge;replace bel:=bel.step n3.below;replace k2:=k2.step n3.below;have k3:=n3.an;refine Za ?_;refine aL 0 1 2 3 4 (az ?_);refine Zf 0 Tryz.underlying105 ?_;refine ZL Tryz.underlying3 k2 ?_;refine Zf 0 Tryz.underlying105 ?_;refine ZL Tryz.underlying3 k3 ?_;refine aX ?_;refine Zm ?_;refine ar.start ?_;refine bB (fun hcx=>aa.aj 1 rfl rfl Tryz.underlying105 rfl (by kernel_rfl)) ?_;refine Zn (fun hcx=>aa.ak rfl rfl Tryz.underlying2 rfl k2 rfl) ?_;refine Zn (fun hcx=>aa.aj 1 rfl rfl Tryz.underlying105 rfl (by kernel_rfl)) ?_;refine Zn (fun hcx=>aa.ak rfl rfl Tryz.underlying2 rfl k3 rfl) ?_;refine Zn (fun hcx=>aa.fK rfl rfl rfl) ?_;refine dL ?_;refine Zm ?_;refine ar.start ?_;refine bB (fun hcx=>aa.aj 2 rfl rfl Tryz.underlying105 rfl (by kernel_rfl)) ?_;refine Zn (fun hcx=>aa.ak rfl rfl Tryz.underlying9 rfl k2 rfl) ?_;refine Zn (fun hcx=>aa.aj 2 rfl rfl Tryz.underlying105 rfl (by kernel_rfl)) ?_;refine Zn (fun hcx=>aa.ak rfl rfl Tryz.underlying9 rfl k3 rfl) ?_;refine Zn (fun hcx=>aa.ck (a:=e.name) (b:=f.name) rfl rfl rfl HB1 HB2) ?_;refine dL ?_;refine Zm ?_;refine ar.start ?_;refine bB (fun hcx=>aa.aj 3 rfl rfl Tryz.underlying105 rfl (by kernel_rfl)) ?_;refine Zn (fun hcx=>aa.ak rfl rfl Tryz.underlying68 rfl k2 rfl) ?_;refine Zn (fun hcx=>aa.aj 3 rfl rfl Tryz.underlying105 rfl (by kernel_rfl)) ?_;refine Zn (fun hcx=>aa.ak rfl rfl Tryz.underlying68 rfl k3 rfl) ?_;refine ar.aW rfl rfl rfl rfl rfl rfl rfl (fun hcx=>Ze Tryz.func119) (fun hcx=>hcl _ bel) ?_;intro w3 hw3;replace bel:=bel.step hw3;replace k2:=k2.step hw3;replace k3:=k3.step hw3;refine dL ?_;refine Za ?_;refine aL 0 1 2 3 4 (Zt (Cd.ret ?_));refine aP ?_;exact⟨aO (aB heq.symm),bel⟩
set_option maxHeartbeats 1000000 in
theorem sJ (g:Nat)(eg:∀args w,(callFunc g args).run Tryz.prog w= .ok (.enter g args) w)(B:Nat)(A A':Option Addr)(c c':Nat)(es fs:List Tm)(w:World)(hv:qE w B es A)(hv':qE w B fs A')(hB:B≤w.heap.size)(dK:es.length≤1000)(h61:fs.length≤1000)
  (hp:∀x∈es,∀y∈fs,∀v v' W,Below w.heap.size w W→dR W B x v→dR W B y v'→Calls Tryz.prog g #[v,v'] W fun en w'=>en= .returned (.bool (eqB x y))∧Grow W w'):
  Calls Tryz.prog 152 #[.slice A es.length c, .slice A' fs.length c', .func (.func g) #[] #[]] w fun en w'=>en= .returned (.bool (eqB es fs))∧Grow w w':=by
 have bel:=Below.refl w.heap.size w;obtain⟨n,hn⟩:∃n,n=es.length:=⟨_,rfl⟩;obtain⟨m,hm⟩:∃n,n=fs.length:=⟨_,rfl⟩;rw[←hn] at dK⊢;rw[←hm] at h61⊢;refine Zs 32 Tryz.func152 ?_;refine ah ?_;refine Za ?_;refine aS 0 1 2 6 (aH (ah ?_));refine Zm ?_;refine Zv (aa.len rfl rfl Tryz.underlying69) ?_;refine Zm ?_;refine Zv (aa.len rfl rfl Tryz.underlying69) ?_;refine jq ?_;refine aL 0 1 2 6 14 (Zt ?_);refine Cd.ao rfl (fun hc=> ?_) (fun hc=> ?_)
 ·skip
  refine ah ?_;refine Za ?_;refine aL 0 1 2 6 14 (Zt (Cd.ret (ab.ae ?_)));refine aP ?_;exact⟨aO (aB (qc (fun e=>by rw[e] at hn;omega)).symm),bel⟩
 refine Cd.skip (aH (ah ?_));refine Zm ?_;refine Zv (aa.len rfl rfl Tryz.underlying69) ?_;refine Zm ?_;refine bO 0 1 2 6 14 15 16 17 (Zt (Cd.block ?_));obtain rfl:n=m:=by omega
 refine Cd.loop (σ:=Nat) (fun k=>[(0, .slice A n c),(1, .slice A' n c'),(2, .func (.func g) #[] #[]),(15, .slice A n c),(16, .int .i64 (n:Int)),(17, .int .i64 (k:Int))])
  (fun k wr=>k≤n∧es.take k=fs.take k∧Below w.heap.size w wr) (fun k=>n-k) 0 ⟨Nat.zero_le _,by simp,bel⟩ ⟨rfl,rfl,rfl,rfl,rfl,rfl,trivial⟩ ?_
 clear bel;rintro k wr ⟨hk,hno,bel⟩;refine ah ?_;refine eU ?_;refine ba 0 1 2 15 16 17 18 (aH ?_);refine Cd.ao rfl (fun hc=> ?_) (fun hc=> ?_)
 ·obtain⟨x,hx⟩:∃x,es[k]? =some x:=⟨_,List.getElem?_eq_getElem (show k<es.length by omega)⟩
  obtain⟨y,hy⟩:∃x,fs[k]? =some x:=⟨_,List.getElem?_eq_getElem (show k<fs.length by omega)⟩;have htk:es.take (k+1)=es.take k++[x]:=by rw[List.take_add_one,hx];rfl
  have htk':fs.take (k+1)=fs.take k++[y]:=by rw[List.take_add_one,hy];rfl
  obtain⟨ad,A1,A3,c1,c3,rfl,hbl,hrx,hc⟩:=hv k x hx;obtain⟨ad',A2,A4,c2,c4,rfl,hbl',hry,hc'⟩:=hv' k y hy;refine Cd.skip (aH (Cd.block (ah ?_)));refine Zm ?_;refine Zv (aa.aU rfl rfl rfl Tryz.underlying69 (s:=4) (by kernel_rfl) (j:=k) rfl (by omega)) ?_;refine Zv (aa.b7 (ps:=[.int .i64 x.op, .string (strOf x.name), .slice A1 x.exprs.length c1, .slice A3 x.aw.length c3]) rfl rfl Tryz.underlying71 rfl (m:=4) (by kernel_rfl) rfl (fun j u hj=>((bel.mono hB).cell (p:=(ad.add (k*4)).add j) (by rw[ai,ai];exact hbl)).trans (hc j u hj))) ?_;refine Zl aK ?_;intro g8 w1 n8;have e8:=Nat.le_trans bel.size n8.ge;replace bel:=bel.step n8.below;have k8:=n8.an;refine Za ?_;refine Zo 4 k8 ?_;intro w2 pw2;replace bel:=bel.put k8 pw2 e8;replace k8:=pw2.an;refine cw 0 1 2 7 8 15 16 17 18 (az ?_);refine Zm ?_;refine Zm ?_;replace k8:aE _ g8 71 #[.int .i64 x.op, .string (strOf x.name), .slice A1 x.exprs.length c1, .slice A3 x.aw.length c3]:=k8;refine Zv (aa.aU rfl rfl rfl Tryz.underlying69 (s:=4) (by kernel_rfl) (j:=k) rfl (by omega)) ?_;refine Zv (aa.b7 (ps:=[.int .i64 y.op, .string (strOf y.name), .slice A2 y.exprs.length c2, .slice A4 y.aw.length c4]) rfl rfl Tryz.underlying71 rfl (m:=4) (by kernel_rfl) rfl (fun j u hj=>((bel.mono hB).cell (p:=(ad'.add (k*4)).add j) (by rw[ai,ai];exact hbl')).trans (hc' j u hj))) ?_;refine Zl aK ?_;intro g9 w3 n9;have e9:=Nat.le_trans bel.size n9.ge;have l9:=Nat.lt_of_lt_of_le k8.lt n9.ge;replace bel:=bel.step n9.below;replace k8:=k8.step n9.below;have k9:=n9.an;refine Zo 4 k9 ?_;intro w4 pw4;replace bel:=bel.put k9 pw4 e9;replace k8:=k8.put pw4 (by omega);replace k9:=pw4.an;refine dr 0 1 2 7 8 9 15 16 17 18 (az ?_);refine Zm ?_;refine ZW 4 Tryz.underlying71 k8 ?_;refine ZW 4 Tryz.underlying71 k9 ?_;replace k9:aE _ g9 71 #[.int .i64 y.op, .string (strOf y.name), .slice A2 y.exprs.length c2, .slice A4 y.aw.length c4]:=k9;refine Seq.call (Enters.value (first:=[]) (cap:=[]) rfl rfl rfl eg) rfl rfl rfl (hp x (List.mem_of_getElem? hx) y (List.mem_of_getElem? hy) _ _ _ bel (hrx.below (bel.mono hB)) (hry.below (bel.mono hB))) ?_;rintro en w5 ⟨rfl,hb5⟩;refine⟨_,rfl,?_⟩;replace bel:=bel.step hb5;replace k8:=k8.step hb5;replace k9:=k9.step hb5;refine gU ?_;refine ct 0 1 2 7 8 9 15 16 17 18 30 (Zt ?_);refine Cd.cond rfl (fun h=> ?_) (fun h=> ?_)
  ·skip
   refine ah ?_;refine Za ?_;refine eZ 0 1 2 6 7 8 9 15 16 17 18 30 (Zt (Cd.ret (ab.af (ab.ae (ab.aJ (ab.af (ab.ae ?_)))))));refine aP ?_;exact⟨aO (aB (sw hx hy (by simpa using h)).symm),bel⟩
  ·skip
   refine Cd.skip (ab.ag (et ?_));refine dq ?_;refine Zm ?_;refine ct 0 1 2 7 8 9 15 16 17 18 30 ?_;refine ab.round (k+1) ⟨rfl,rfl,rfl,rfl,rfl,rfl,trivial⟩ ⟨by omega,?_,bel⟩ (by omega);have hxy:x=y:=dH.1 (by simpa using h);rw[htk,htk',hno,hxy]
 ·obtain rfl:k=n:=by omega
  rw[List.take_of_length_le (by omega),List.take_of_length_le (by omega)] at hno;refine Cd.exit (ab.aD (ab.ay (ab.aA (az ?_))));refine Za ?_;refine bO 0 1 2 6 15 16 17 18 (Zt (Cd.ret ?_));refine aP ?_;exact⟨aO (aB (kM hno).symm),bel⟩
theorem xF:∀args w,(callFunc 121 args).run Tryz.prog w= .ok (.enter 121 args) w:=fun args w=>aF Tryz.func121 (by kernel_rfl) rfl args w
theorem zU (e f:Tm):eqB e f=(decide (e.op=f.op)&&decide (e.name=f.name)&&eqB e.exprs f.exprs&&eqB e.aw f.aw):=by
 cases e with
 |mk a b d l=>
 cases f with
 |mk a' b' d' l'=>
 show eqB (Tm.mk a b d l) (Tm.mk a' b' d' l')=(decide (a=a')&&decide (b=b')&&eqB d d'&&eqB l l');rw[Bool.eq_iff_iff,dH];simp[dH,and_assoc]
theorem yW (N:Nat):∀(e f:Tm) (B:Nat) (v v':Value) (w:World),e.nodes≤N→dR w B e v→dR w B f v'→B≤w.heap.size→Calls Tryz.prog 121 #[v,v'] w fun en w'=>en= .returned (.bool (eqB e f))∧Grow w w':=by
 induction N with
 |zero=>intro e f B v v' w hN;have:=e.bI;omega
 |succ N ih=>
 intro e f B v v' w hN hrep hrep' hB;obtain⟨A,c,A1,c1,rfl,hv⟩:=hrep.open;obtain⟨A',c',A1',c1',rfl,hv'⟩:=hrep'.open;have bel:=Below.refl w.heap.size w;have HB1:=hv.name;have HB2:=hv'.name;have hcl:=fun W (hb:Below w.heap.size w W)=>jZ 120 nK B A A' c c' e.exprs f.exprs W (hv.expr.below (hb.mono hB)) (hv'.expr.below (hb.mono hB)) (Nat.le_trans hB hb.size) hv.dK hv'.dK (fun x hx y hy v v' W2 hb2 h1 h2=>tP x.nodes x y B v v' W2 (Nat.le_refl _) h1 h2 (Nat.le_trans hB (Nat.le_trans hb.size hb2.size)));have hct:=fun W (hb:Below w.heap.size w W)=>sJ 121 xF B A1 A1' c1 c1' e.aw f.aw W (hv.term.below (hb.mono hB)) (hv'.term.below (hb.mono hB)) (Nat.le_trans hB hb.size) hv.iG hv'.iG (fun x hx y hy v v' W2 hb2 h1 h2=>ih x y B v v' W2 (by have:=Tm.dS hx;omega) h1 h2 (Nat.le_trans hB (Nat.le_trans hb.size hb2.size)));have heq:=zU e f
 generalize eqB e.exprs f.exprs=q at hcl heq
 generalize eqB e.aw f.aw=r at hct heq
 refine Zs 31 Tryz.func121 ?_;refine ah ?_;refine Seq.box rfl rfl rfl rfl rfl ?_;intro g2 w1 n2;have e2:=Nat.le_trans bel.size n2.ge;replace bel:=bel.step n2.below;have k2:=n2.an;refine Seq.box rfl rfl rfl rfl rfl ?_;intro g3 w2 n3;have e3:=Nat.le_trans bel.size n3.ge;have l3:=Nat.lt_of_lt_of_le k2.lt n3.ge;replace bel:=bel.step n3.below;replace k2:=k2.step n3.below;have k3:=n3.an;refine Za ?_;refine aL 0 1 2 3 4 (az ?_);refine Zf 0 Tryz.underlying71 ?_;refine ZL Tryz.underlying3 k2 ?_;refine Zf 0 Tryz.underlying71 ?_;refine ZL Tryz.underlying3 k3 ?_;refine aX ?_;refine Zm ?_;refine ar.start ?_;refine bB (fun hcx=>aa.aj 1 rfl rfl Tryz.underlying71 rfl (by kernel_rfl)) ?_;refine Zn (fun hcx=>aa.ak rfl rfl Tryz.underlying9 rfl k2 rfl) ?_;refine Zn (fun hcx=>aa.aj 1 rfl rfl Tryz.underlying71 rfl (by kernel_rfl)) ?_;refine Zn (fun hcx=>aa.ak rfl rfl Tryz.underlying9 rfl k3 rfl) ?_;refine Zn (fun hcx=>aa.ck (a:=e.name) (b:=f.name) rfl rfl rfl HB1 HB2) ?_;refine dL ?_;refine Zm ?_;refine ar.start ?_;refine bB (fun hcx=>aa.aj 2 rfl rfl Tryz.underlying71 rfl (by kernel_rfl)) ?_;refine Zn (fun hcx=>aa.ak rfl rfl Tryz.underlying68 rfl k2 rfl) ?_;refine Zn (fun hcx=>aa.aj 2 rfl rfl Tryz.underlying71 rfl (by kernel_rfl)) ?_;refine Zn (fun hcx=>aa.ak rfl rfl Tryz.underlying68 rfl k3 rfl) ?_;refine ar.aW rfl rfl rfl rfl rfl rfl rfl (fun hcx=>Ze Tryz.func119) (fun hcx=>hcl _ bel) ?_;intro w3 hw3;replace bel:=bel.step hw3;replace k2:=k2.step hw3;replace k3:=k3.step hw3;refine dL ?_;refine Zm ?_;refine ar.start ?_;refine bB (fun hcx=>aa.aj 3 rfl rfl Tryz.underlying71 rfl (by kernel_rfl)) ?_;refine Zn (fun hcx=>aa.ak rfl rfl Tryz.underlying69 rfl k2 rfl) ?_;refine Zn (fun hcx=>aa.aj 3 rfl rfl Tryz.underlying71 rfl (by kernel_rfl)) ?_;refine Zn (fun hcx=>aa.ak rfl rfl Tryz.underlying69 rfl k3 rfl) ?_;refine ar.aW rfl rfl rfl rfl rfl rfl rfl (fun hcx=>Ze Tryz.func152) (fun hcx=>hct _ bel) ?_;intro w4 hw4;replace bel:=bel.step hw4;replace k2:=k2.step hw4;replace k3:=k3.step hw4;refine dL ?_;refine Za ?_;refine aL 0 1 2 3 4 (Zt (Cd.ret ?_));refine aP ?_;exact⟨aO (aB heq.symm),bel⟩
set_option maxHeartbeats 1000000 in
theorem tc (g:Nat)(eg:∀args w,(callFunc g args).run Tryz.prog w= .ok (.enter g args) w)(B:Nat)(A A':Option Addr)(c c':Nat)(es fs:List Pt)(w:World)(hv:jx w B es A)(hv':jx w B fs A')(hB:B≤w.heap.size)(dK:es.length≤1000)(h61:fs.length≤1000)
  (hp:∀x∈es,∀y∈fs,∀v v' W,Below w.heap.size w W→yG W B x v→yG W B y v'→Calls Tryz.prog g #[v,v'] W fun en w'=>en= .returned (.bool (eqB x y))∧Grow W w'):
  Calls Tryz.prog 74 #[.slice A es.length c, .slice A' fs.length c', .func (.func g) #[] #[]] w fun en w'=>en= .returned (.bool (eqB es fs))∧Grow w w':=by
 have bel:=Below.refl w.heap.size w;obtain⟨n,hn⟩:∃n,n=es.length:=⟨_,rfl⟩;obtain⟨m,hm⟩:∃n,n=fs.length:=⟨_,rfl⟩;rw[←hn] at dK⊢;rw[←hm] at h61⊢;refine Zs 32 Tryz.func74 ?_;refine ah ?_;refine Za ?_;refine aS 0 1 2 6 (aH (ah ?_));refine Zm ?_;refine Zv (aa.len rfl rfl Tryz.underlying50) ?_;refine Zm ?_;refine Zv (aa.len rfl rfl Tryz.underlying50) ?_;refine jq ?_;refine aL 0 1 2 6 14 (Zt ?_);refine Cd.ao rfl (fun hc=> ?_) (fun hc=> ?_)
 ·skip
  refine ah ?_;refine Za ?_;refine aL 0 1 2 6 14 (Zt (Cd.ret (ab.ae ?_)));refine aP ?_;exact⟨aO (aB (qc (fun e=>by rw[e] at hn;omega)).symm),bel⟩
 refine Cd.skip (aH (ah ?_));refine Zm ?_;refine Zv (aa.len rfl rfl Tryz.underlying50) ?_;refine Zm ?_;refine bO 0 1 2 6 14 15 16 17 (Zt (Cd.block ?_));obtain rfl:n=m:=by omega
 refine Cd.loop (σ:=Nat) (fun k=>[(0, .slice A n c),(1, .slice A' n c'),(2, .func (.func g) #[] #[]),(15, .slice A n c),(16, .int .i64 (n:Int)),(17, .int .i64 (k:Int))])
  (fun k wr=>k≤n∧es.take k=fs.take k∧Below w.heap.size w wr) (fun k=>n-k) 0 ⟨Nat.zero_le _,by simp,bel⟩ ⟨rfl,rfl,rfl,rfl,rfl,rfl,trivial⟩ ?_
 clear bel;rintro k wr ⟨hk,hno,bel⟩;refine ah ?_;refine eU ?_;refine ba 0 1 2 15 16 17 18 (aH ?_);refine Cd.ao rfl (fun hc=> ?_) (fun hc=> ?_)
 ·obtain⟨x,hx⟩:∃x,es[k]? =some x:=⟨_,List.getElem?_eq_getElem (show k<es.length by omega)⟩
  obtain⟨y,hy⟩:∃x,fs[k]? =some x:=⟨_,List.getElem?_eq_getElem (show k<fs.length by omega)⟩;have htk:es.take (k+1)=es.take k++[x]:=by rw[List.take_add_one,hx];rfl
  have htk':fs.take (k+1)=fs.take k++[y]:=by rw[List.take_add_one,hy];rfl
  obtain⟨ad,A1,A3,A5,c1,c3,c5,rfl,hbl,hrx,hc⟩:=hv k x hx;obtain⟨ad',A2,A4,A6,c2,c4,c6,rfl,hbl',hry,hc'⟩:=hv' k y hy;refine Cd.skip (aH (Cd.block (ah ?_)));refine Zm ?_;refine Zv (aa.aU rfl rfl rfl Tryz.underlying50 (s:=7) (by kernel_rfl) (j:=k) rfl (by omega)) ?_;refine Zv (aa.b7 (ps:=[.int .i64 x.bc, .bool x.bj, .slice A1 x.fv.length c1, .int .i64 x.term.op, .string (strOf x.term.name), .slice A3 x.term.exprs.length c3, .slice A5 x.term.aw.length c5]) rfl rfl Tryz.underlying108 rfl (m:=7) (by kernel_rfl) rfl (fun j u hj=>((bel.mono hB).cell (p:=(ad.add (k*7)).add j) (by rw[ai,ai];exact hbl)).trans (hc j u hj))) ?_;refine Zl bF ?_;intro g8 w1 n8;have e8:=Nat.le_trans bel.size n8.ge;replace bel:=bel.step n8.below;have k8:=n8.an;refine Za ?_;refine Zo 7 k8 ?_;intro w2 pw2;replace bel:=bel.put k8 pw2 e8;replace k8:=pw2.an;refine cw 0 1 2 7 8 15 16 17 18 (az ?_);refine Zm ?_;refine Zm ?_;replace k8:aE _ g8 108 #[.int .i64 x.bc, .bool x.bj, .slice A1 x.fv.length c1, .int .i64 x.term.op, .string (strOf x.term.name), .slice A3 x.term.exprs.length c3, .slice A5 x.term.aw.length c5]:=k8;refine Zv (aa.aU rfl rfl rfl Tryz.underlying50 (s:=7) (by kernel_rfl) (j:=k) rfl (by omega)) ?_;refine Zv (aa.b7 (ps:=[.int .i64 y.bc, .bool y.bj, .slice A2 y.fv.length c2, .int .i64 y.term.op, .string (strOf y.term.name), .slice A4 y.term.exprs.length c4, .slice A6 y.term.aw.length c6]) rfl rfl Tryz.underlying108 rfl (m:=7) (by kernel_rfl) rfl (fun j u hj=>((bel.mono hB).cell (p:=(ad'.add (k*7)).add j) (by rw[ai,ai];exact hbl')).trans (hc' j u hj))) ?_;refine Zl bF ?_;intro g9 w3 n9;have e9:=Nat.le_trans bel.size n9.ge;have l9:=Nat.lt_of_lt_of_le k8.lt n9.ge;replace bel:=bel.step n9.below;replace k8:=k8.step n9.below;have k9:=n9.an;refine Zo 7 k9 ?_;intro w4 pw4;replace bel:=bel.put k9 pw4 e9;replace k8:=k8.put pw4 (by omega);replace k9:=pw4.an;refine dr 0 1 2 7 8 9 15 16 17 18 (az ?_);refine Zm ?_;refine ZW 7 Tryz.underlying108 k8 ?_;refine ZW 7 Tryz.underlying108 k9 ?_;replace k9:aE _ g9 108 #[.int .i64 y.bc, .bool y.bj, .slice A2 y.fv.length c2, .int .i64 y.term.op, .string (strOf y.term.name), .slice A4 y.term.exprs.length c4, .slice A6 y.term.aw.length c6]:=k9;refine Seq.call (Enters.value (first:=[]) (cap:=[]) rfl rfl rfl eg) rfl rfl rfl (hp x (List.mem_of_getElem? hx) y (List.mem_of_getElem? hy) _ _ _ bel ⟨_,_,_,_,_,_,rfl,hrx.below (bel.mono hB)⟩ ⟨_,_,_,_,_,_,rfl,hry.below (bel.mono hB)⟩) ?_;rintro en w5 ⟨rfl,hb5⟩;refine⟨_,rfl,?_⟩;replace bel:=bel.step hb5;replace k8:=k8.step hb5;replace k9:=k9.step hb5;refine gU ?_;refine ct 0 1 2 7 8 9 15 16 17 18 30 (Zt ?_);refine Cd.cond rfl (fun h=> ?_) (fun h=> ?_)
  ·skip
   refine ah ?_;refine Za ?_;refine eZ 0 1 2 6 7 8 9 15 16 17 18 30 (Zt (Cd.ret (ab.af (ab.ae (ab.aJ (ab.af (ab.ae ?_)))))));refine aP ?_;exact⟨aO (aB (sw hx hy (by simpa using h)).symm),bel⟩
  ·skip
   refine Cd.skip (ab.ag (et ?_));refine dq ?_;refine Zm ?_;refine ct 0 1 2 7 8 9 15 16 17 18 30 ?_;refine ab.round (k+1) ⟨rfl,rfl,rfl,rfl,rfl,rfl,trivial⟩ ⟨by omega,?_,bel⟩ (by omega);have hxy:x=y:=dH.1 (by simpa using h);rw[htk,htk',hno,hxy]
 ·obtain rfl:k=n:=by omega
  rw[List.take_of_length_le (by omega),List.take_of_length_le (by omega)] at hno;refine Cd.exit (ab.aD (ab.ay (ab.aA (az ?_))));refine Za ?_;refine bO 0 1 2 6 15 16 17 18 (Zt (Cd.ret ?_));refine aP ?_;exact⟨aO (aB (kM hno).symm),bel⟩
theorem xo:∀args w,(callFunc 75 args).run Tryz.prog w= .ok (.enter 75 args) w:=fun args w=>aF Tryz.func75 (by kernel_rfl) rfl args w
theorem Ar (e f:Pt):eqB e f=(decide (e.bc=f.bc)&&decide (e.bj=f.bj)&&eqB e.fv f.fv&&eqB e.term f.term):=by
 cases e with
 |mk a b d l=>
 cases f with
 |mk a' b' d' l'=>
 rw[Bool.eq_iff_iff,dH];simp[dH,and_assoc]
theorem qt (e f:Pt)(B:Nat)(v v':Value)(w:World)(h:yG w B e v)(h':yG w B f v')(hB:B≤w.heap.size):Calls Tryz.prog 75 #[v,v'] w fun en w'=>en= .returned (.bool (eqB e f))∧Grow w w':=by
 obtain⟨A,A1,A2,c,c1,c2,rfl,hv⟩:=h;obtain⟨A',A1',A2',c',c1',c2',rfl,hv'⟩:=h';unfold vJ;have bel:=Below.refl w.heap.size w;have hcl:=fun W (hb:Below w.heap.size w W)=>jZ 120 nK B A A' c c' e.fv f.fv W (hv.fv.below (hb.mono hB)) (hv'.fv.below (hb.mono hB)) (Nat.le_trans hB hb.size) hv.dK hv'.dK (fun x hx y hy v v' W2 hb2 h1 h2=>tP x.nodes x y B v v' W2 (Nat.le_refl _) h1 h2 (Nat.le_trans hB (Nat.le_trans hb.size hb2.size)));have hct:=fun W (hb:Below w.heap.size w W)=>yW e.term.nodes e.term f.term B _ _ W (Nat.le_refl _) (hv.term.below (hb.mono hB)) (hv'.term.below (hb.mono hB)) (Nat.le_trans hB hb.size);have heq:=Ar e f
 generalize eqB e.fv f.fv=q at hcl heq
 generalize eqB e.term f.term=r at hct heq
 refine Zs 31 Tryz.func75 ?_;refine ah ?_;refine Seq.box rfl rfl rfl rfl rfl ?_;intro g2 w1 n2;have e2:=Nat.le_trans bel.size n2.ge;replace bel:=bel.step n2.below;have k2:=n2.an;refine Seq.box rfl rfl rfl rfl rfl ?_;intro g3 w2 n3;have e3:=Nat.le_trans bel.size n3.ge;have l3:=Nat.lt_of_lt_of_le k2.lt n3.ge;replace bel:=bel.step n3.below;replace k2:=k2.step n3.below;have k3:=n3.an;refine Za ?_;refine aL 0 1 2 3 4 (az ?_);refine Zf 0 Tryz.underlying108 ?_;refine ZL Tryz.underlying2 k2 ?_;refine Zf 0 Tryz.underlying108 ?_;refine ZL Tryz.underlying2 k3 ?_;refine aX ?_;refine Zm ?_;refine ar.start ?_;refine bB (fun hcx=>aa.aj 1 rfl rfl Tryz.underlying108 rfl (by kernel_rfl)) ?_;refine Zn (fun hcx=>aa.ak rfl rfl Tryz.underlying4 rfl k2 rfl) ?_;refine Zn (fun hcx=>aa.aj 1 rfl rfl Tryz.underlying108 rfl (by kernel_rfl)) ?_;refine Zn (fun hcx=>aa.ak rfl rfl Tryz.underlying4 rfl k3 rfl) ?_;refine Zn (fun hcx=>aa.BS rfl rfl rfl Tryz.underlying4) ?_;refine dL ?_;refine Zm ?_;refine ar.start ?_;refine bB (fun hcx=>aa.aj 2 rfl rfl Tryz.underlying108 rfl (by kernel_rfl)) ?_;refine Zn (fun hcx=>aa.ak rfl rfl Tryz.underlying68 rfl k2 rfl) ?_;refine Zn (fun hcx=>aa.aj 2 rfl rfl Tryz.underlying108 rfl (by kernel_rfl)) ?_;refine Zn (fun hcx=>aa.ak rfl rfl Tryz.underlying68 rfl k3 rfl) ?_;refine ar.aW rfl rfl rfl rfl rfl rfl rfl (fun hcx=>Ze Tryz.func119) (fun hcx=>hcl _ bel) ?_;intro w3 hw3;replace bel:=bel.step hw3;replace k2:=k2.step hw3;replace k3:=k3.step hw3;refine dL ?_;refine Zm ?_;refine ar.start ?_;refine bB (fun hcx=>aa.aj 3 rfl rfl Tryz.underlying108 rfl (by kernel_rfl)) ?_;refine Zn (fun hcx=>aa.o8 (off:=3) (ps:=[.int .i64 e.term.op, .string (strOf e.term.name), .slice A1 e.term.exprs.length c1, .slice A2 e.term.aw.length c2]) rfl rfl Tryz.underlying71 rfl k2 (m:=4) (by kernel_rfl) rfl jo) ?_;refine Zn (fun hcx=>aa.aj 3 rfl rfl Tryz.underlying108 rfl (by kernel_rfl)) ?_;refine Zn (fun hcx=>aa.o8 (off:=3) (ps:=[.int .i64 f.term.op, .string (strOf f.term.name), .slice A1' f.term.exprs.length c1', .slice A2' f.term.aw.length c2']) rfl rfl Tryz.underlying71 rfl k3 (m:=4) (by kernel_rfl) rfl jo) ?_;refine ar.aW rfl rfl rfl rfl rfl rfl rfl (fun hcx=>Ze Tryz.func121) (fun hcx=>hct _ bel) ?_;intro w4 hw4;replace bel:=bel.step hw4;replace k2:=k2.step hw4;replace k3:=k3.step hw4;refine dL ?_;refine Za ?_;refine aL 0 1 2 3 4 (Zt (Cd.ret ?_));refine aP ?_;exact⟨aO (aB heq.symm),bel⟩
theorem zR (e f:Ct):eqB e f=(eqB e.parts f.parts&&(decide (e.id=f.id)&&decide (e.aY=f.aY)&&decide (e.writer=f.writer)&&decide (e.text=f.text)&&decide (e.born=f.born)&&decide (e.ended=f.ended)&&decide (e.state=f.state))):=by
 cases e
 cases f
 rw[Bool.eq_iff_iff,dH];simp[dH]
 grind
theorem tB (e f:Ct)(B:Nat)(A A':Option Addr)(c c':Nat)(w:World)(he:e.qk)(hf:f.qk)(h:jx w B e.parts A)(h':jx w B f.parts A')(hB:B≤w.heap.size):Calls Tryz.prog 26 #[e.v A c,f.v A' c'] w fun en w'=>en= .returned (.bool (eqB e f))∧Grow w w':=by
 have bel:=Below.refl w.heap.size w;have hcl:=fun W (hb:Below w.heap.size w W)=>tc 75 xo B A A' c c' e.parts f.parts W (h.below (hb.mono hB)) (h'.below (hb.mono hB)) (Nat.le_trans hB hb.size) he.parts hf.parts (fun x hx y hy v v' W2 hb2 h1 h2=>qt x y B v v' W2 h1 h2 (Nat.le_trans hB (Nat.le_trans hb.size hb2.size)));have heq:=zR e f
 generalize eqB e.parts f.parts=q at hcl heq
 obtain⟨u1,u2,u3,u4⟩:(∀x∈e.id,x<256)∧(∀x∈e.aY,x<256)∧(∀x∈e.writer,x<256)∧(∀x∈e.text,x<256):=⟨he.id,he.aY,he.writer,he.text⟩;obtain⟨t1,t2,t3,t4⟩:(∀x∈f.id,x<256)∧(∀x∈f.aY,x<256)∧(∀x∈f.writer,x<256)∧(∀x∈f.text,x<256):=⟨hf.id,hf.aY,hf.writer,hf.text⟩;unfold Ct.v;refine Zs 58 Tryz.func26 ?_;refine ah ?_;refine Seq.box rfl rfl rfl rfl rfl ?_;intro g2 w1 n2;have e2:=Nat.le_trans bel.size n2.ge;replace bel:=bel.step n2.below;have k2:=n2.an;refine Seq.box rfl rfl rfl rfl rfl ?_;intro g3 w2 n3;have e3:=Nat.le_trans bel.size n3.ge;have l3:=Nat.lt_of_lt_of_le k2.lt n3.ge;replace bel:=bel.step n3.below;replace k2:=k2.step n3.below;have k3:=n3.an;refine Za ?_;refine aL 0 1 2 3 4 (aH (ah ?_));refine Zf 7 Tryz.underlying52 ?_;refine ZL Tryz.underlying50 k2 ?_;refine Zf 7 Tryz.underlying52 ?_;refine ZL Tryz.underlying50 k3 ?_;refine Zc (Ze Tryz.func74) (hcl _ bel) ?_;rintro en w5 ⟨rfl,hb5⟩;refine⟨_,rfl,?_⟩;replace bel:=bel.step hb5;replace k2:=k2.step hb5;replace k3:=k3.step hb5;refine gU ?_;refine aV 0 1 2 3 4 10 (Zt ?_);refine Cd.cond rfl (fun h0=> ?_) (fun h0=> ?_)
 ·simp at h0
  subst h0;refine ah ?_;refine Za ?_;refine aV 0 1 2 3 4 10 (Zt (Cd.ret (ab.ae ?_)));refine aP ?_;exact⟨aO (aB heq.symm),bel⟩
 ·simp at h0
  subst h0;rw[Bool.true_and] at heq;refine Cd.skip (az ?_);refine Zf 0 Tryz.underlying52 ?_;refine ZL Tryz.underlying9 k2 ?_;refine Zf 0 Tryz.underlying52 ?_;refine ZL Tryz.underlying9 k3 ?_;refine Zv (aa.ck (a:=e.id) (b:=f.id) rfl rfl rfl u1 t1) ?_;refine Zm ?_;refine ar.start ?_;refine bB (fun hcx=>aa.aj 1 rfl rfl Tryz.underlying52 rfl (by kernel_rfl)) ?_;refine Zn (fun hcx=>aa.ak rfl rfl Tryz.underlying9 rfl k2 rfl) ?_;refine Zn (fun hcx=>aa.aj 1 rfl rfl Tryz.underlying52 rfl (by kernel_rfl)) ?_;refine Zn (fun hcx=>aa.ak rfl rfl Tryz.underlying9 rfl k3 rfl) ?_;refine Zn (fun hcx=>aa.ck (a:=e.aY) (b:=f.aY) rfl rfl rfl u2 t2) ?_;refine dL ?_;refine Zm ?_;refine ar.start ?_;refine bB (fun hcx=>aa.aj 2 rfl rfl Tryz.underlying52 rfl (by kernel_rfl)) ?_;refine Zn (fun hcx=>aa.ak rfl rfl Tryz.underlying9 rfl k2 rfl) ?_;refine Zn (fun hcx=>aa.aj 2 rfl rfl Tryz.underlying52 rfl (by kernel_rfl)) ?_;refine Zn (fun hcx=>aa.ak rfl rfl Tryz.underlying9 rfl k3 rfl) ?_;refine Zn (fun hcx=>aa.ck (a:=e.writer) (b:=f.writer) rfl rfl rfl u3 t3) ?_;refine dL ?_;refine Zm ?_;refine ar.start ?_;refine bB (fun hcx=>aa.aj 3 rfl rfl Tryz.underlying52 rfl (by kernel_rfl)) ?_;refine Zn (fun hcx=>aa.ak rfl rfl Tryz.underlying9 rfl k2 rfl) ?_;refine Zn (fun hcx=>aa.aj 3 rfl rfl Tryz.underlying52 rfl (by kernel_rfl)) ?_;refine Zn (fun hcx=>aa.ak rfl rfl Tryz.underlying9 rfl k3 rfl) ?_;refine Zn (fun hcx=>aa.ck (a:=e.text) (b:=f.text) rfl rfl rfl u4 t4) ?_;refine dL ?_;refine Zm ?_;refine ar.start ?_;refine bB (fun hcx=>aa.aj 4 rfl rfl Tryz.underlying52 rfl (by kernel_rfl)) ?_;refine Zn (fun hcx=>aa.ak rfl rfl Tryz.underlying3 rfl k2 rfl) ?_;refine Zn (fun hcx=>aa.aj 4 rfl rfl Tryz.underlying52 rfl (by kernel_rfl)) ?_;refine Zn (fun hcx=>aa.ak rfl rfl Tryz.underlying3 rfl k3 rfl) ?_;refine Zn (fun hcx=>aa.fK rfl rfl rfl) ?_;refine dL ?_;refine Zm ?_;refine ar.start ?_;refine bB (fun hcx=>aa.aj 5 rfl rfl Tryz.underlying52 rfl (by kernel_rfl)) ?_;refine Zn (fun hcx=>aa.ak rfl rfl Tryz.underlying3 rfl k2 rfl) ?_;refine Zn (fun hcx=>aa.aj 5 rfl rfl Tryz.underlying52 rfl (by kernel_rfl)) ?_;refine Zn (fun hcx=>aa.ak rfl rfl Tryz.underlying3 rfl k3 rfl) ?_;refine Zn (fun hcx=>aa.fK rfl rfl rfl) ?_;refine dL ?_;refine Zm ?_;refine ar.start ?_;refine bB (fun hcx=>aa.aj 6 rfl rfl Tryz.underlying52 rfl (by kernel_rfl)) ?_;refine Zn (fun hcx=>aa.ak rfl rfl Tryz.underlying3 rfl k2 rfl) ?_;refine Zn (fun hcx=>aa.aj 6 rfl rfl Tryz.underlying52 rfl (by kernel_rfl)) ?_;refine Zn (fun hcx=>aa.ak rfl rfl Tryz.underlying3 rfl k3 rfl) ?_;refine Zn (fun hcx=>aa.fK rfl rfl rfl) ?_;refine dL ?_;refine Za ?_;refine aV 0 1 2 3 4 10 (Zt (Cd.ret ?_));refine aP ?_;exact⟨aO (aB heq.symm),bel⟩
structure yF where
 kind:Nat
 id:List Nat
 a:List Nat
 b:List Nat
 text:List Nat
 day:Nat
 at_:Nat
 eQ:Nat
 n:Int
def yF.ev (e:yF):Ev:=⟨e.kind,e.id,e.a,e.b,e.text,e.day,e.at_,e.eQ,e.n⟩
def yF.bytes (e:yF):List Nat:=de e.kind++cq e.id++cq e.a++cq e.b++cq e.text++de e.day++de e.at_++de e.eQ++de (j9 e.n)
structure yF.fit (e:yF):Prop where
 kind:e.kind<9223372036854775808
 day:e.day<9223372036854775808
 at_:e.at_<9223372036854775808
 eQ:e.eQ<9223372036854775808
 n:bu e.n
 BE:e.id.length≤10000
 la:e.a.length≤10000
 lb:e.b.length≤10000
 oe:e.text.length≤10000
theorem mz (s:List Nat):(cq s).length≤10+s.length:=by unfold cq;rw[List.length_append];have:=bC s.length;omega
set_option maxHeartbeats 1000000 in
theorem uH (e:yF)(hf:e.fit)(he:e.ev.qk)(hr:fD e.ev=true)(w:World):Calls Tryz.prog 12 #[e.ev.v] w fun en w'=>en= .returned (.tuple #[.string (strOf e.bytes), .int .i64 0])∧Grow w w':=by
 have bel:=Below.refl w.heap.size w;have hri:=fun W=>rX e.ev he W;rw[hr] at hri;have q1:=bC e.kind;have q2:=mz e.id;have q3:=mz e.a;have q4:=mz e.b;have q5:=mz e.text;have q6:=bC e.day;have q7:=bC e.at_;have q8:=bC e.eQ;have q9:=bC (j9 e.n);obtain⟨h1,h2,h3,h4,h5,l1,l2,l3,l4⟩:=hf;have b1:∀d∈e.id,d<256:=he.id;have b2:∀d∈e.a,d<256:=he.a;have b3:∀d∈e.b,d<256:=he.b;have b4:∀d∈e.text,d<256:=he.text;unfold yF.ev Ev.v at hri⊢;dsimp only at hri⊢;refine Zs 40 Tryz.func12 ?_;refine ah ?_;refine Seq.box rfl rfl rfl rfl rfl ?_;intro g1 w1 n1;have e1:=Nat.le_trans bel.size n1.ge;replace bel:=bel.step n1.below;have k1:=n1.an;refine Za ?_;refine Za ?_;refine aS 0 1 2 3 (aH (ah ?_));refine ZW 9 Tryz.underlying29 k1 ?_;refine Zc (Ze Tryz.func13) (hri _) ?_;rintro en w5 ⟨rfl,hb5⟩;refine⟨_,rfl,?_⟩;replace bel:=bel.step hb5;replace k1:=k1.step hb5;refine gU ?_;refine aL 0 1 2 3 7 (Zt ?_);refine Cd.aI rfl rfl ?_;refine Cd.skip (az ?_);refine Zv (aa.build rfl rfl (jC _)) ?_;refine Seq.box rfl rfl rfl rfl rfl ?_;intro g9 w2 n9;have e9:=Nat.le_trans bel.size n9.ge;have l9:=Nat.lt_of_lt_of_le k1.lt n9.ge;replace bel:=bel.step n9.below;replace k1:=k1.step n9.below;have k9:=n9.an;refine Za ?_;refine aV 0 1 2 3 4 7 (aH ?_);have wr:Wr _ g9 g9 []:=⟨Nat.le_refl _,fun d hd=>(by cases hd),_,k9,Own.nil _ _ _ _⟩;have wf:=Wf.refl g9 w2;have hg9:g9≤w2.heap.size:=Nat.le_of_lt n9.lt;refine Cd.ue 16 (by kernel_rfl) [] [3,6,9,12,15] (fun i h=>by cases h) rfl rfl (.inl rfl) rfl (Wf g9) (Wf.refl g9) (fun _ _ _=>Wf.trans) (fun c w=>Wr w g9 g9 (eW [] [[],de e.kind,de e.kind++cq e.id,de e.kind++cq e.id++cq e.a,de e.kind++cq e.id++cq e.a++cq e.b,de e.kind++cq e.id++cq e.a++cq e.b++cq e.text] c)) ?_;intro w3 hw3 zw3;replace k1:=k1.step hw3;replace wf:=wf.step hw3;replace wr:=wr.step hw3;refine⟨wr,?_⟩;have zlt:=k1.lt;refine DJ.val rfl (Wf.refl g9) rfl (fun w hG=>aa.move rfl rfl) rfl ?_;refine DJ.val rfl (Wf.refl g9) rfl (fun w hG=>aa.aj 0 rfl rfl Tryz.underlying29 rfl (by kernel_rfl)) rfl ?_;refine DJ.val rfl (Wf.refl g9) rfl (fun w hG=>aa.ak rfl rfl Tryz.underlying3 rfl (k1.wf hG) rfl) rfl ?_;refine DJ.chain 0 rfl rfl (fun w=>Ze Tryz.func30) rfl (fun w hG wr=>cf g9 g9 e.kind [] _ wr h1 (by simp)) ?_;refine DJ.val rfl (Wf.refl g9) rfl (fun w hG=>aa.aj 1 rfl rfl Tryz.underlying29 rfl (by kernel_rfl)) rfl ?_;refine DJ.val rfl (Wf.refl g9) rfl (fun w hG=>aa.ak rfl rfl Tryz.underlying9 rfl (k1.wf hG) rfl) rfl ?_;refine DJ.chain 1 rfl rfl (fun w=>Ze Tryz.func31) rfl (fun w hG wr=>dc g9 g9 e.id _ _ wr b1 (by first|omega|(simp only[eW];omega))) ?_;refine DJ.val rfl (Wf.refl g9) rfl (fun w hG=>aa.aj 2 rfl rfl Tryz.underlying29 rfl (by kernel_rfl)) rfl ?_;refine DJ.val rfl (Wf.refl g9) rfl (fun w hG=>aa.ak rfl rfl Tryz.underlying9 rfl (k1.wf hG) rfl) rfl ?_;refine DJ.chain 2 rfl rfl (fun w=>Ze Tryz.func31) rfl (fun w hG wr=>dc g9 g9 e.a _ _ wr b2 (by simp only[eW,List.length_append];omega)) ?_;refine DJ.val rfl (Wf.refl g9) rfl (fun w hG=>aa.aj 3 rfl rfl Tryz.underlying29 rfl (by kernel_rfl)) rfl ?_;refine DJ.val rfl (Wf.refl g9) rfl (fun w hG=>aa.ak rfl rfl Tryz.underlying9 rfl (k1.wf hG) rfl) rfl ?_;refine DJ.chain 3 rfl rfl (fun w=>Ze Tryz.func31) rfl (fun w hG wr=>dc g9 g9 e.b _ _ wr b3 (by simp only[eW,List.length_append];omega)) ?_;refine DJ.val rfl (Wf.refl g9) rfl (fun w hG=>aa.aj 4 rfl rfl Tryz.underlying29 rfl (by kernel_rfl)) rfl ?_;refine DJ.val rfl (Wf.refl g9) rfl (fun w hG=>aa.ak rfl rfl Tryz.underlying9 rfl (k1.wf hG) rfl) rfl ?_;refine DJ.chain 4 rfl rfl (fun w=>Ze Tryz.func31) rfl (fun w hG wr=>dc g9 g9 e.text _ _ wr b4 (by simp only[eW,List.length_append];omega)) ?_;refine DJ.nil ?_;refine bH.done (F':=[(0,_),(1,_),(2,_),(3,_),(4,_),(7,_)]) rfl ⟨rfl,rfl,rfl,rfl,rfl,rfl,trivial⟩ ?_;intro w4 hw4 fw4;replace k1:=k1.wf hw4;replace wf:=wf.wf hw4;clear wr;have wr:=fw4;refine aV 0 1 2 3 4 7 (aH ?_);replace wr:Wr _ g9 g9 (de e.kind++cq e.id++cq e.a++cq e.b++cq e.text):=wr;refine Cd.ue 13 (by kernel_rfl) [] [3,6,9,12] (fun i h=>by cases h) rfl rfl (.inl rfl) rfl (Wf g9) (Wf.refl g9) (fun _ _ _=>Wf.trans) (fun c w=>Wr w g9 g9 (eW [] [de e.kind++cq e.id++cq e.a++cq e.b++cq e.text,de e.kind++cq e.id++cq e.a++cq e.b++cq e.text++de e.day,de e.kind++cq e.id++cq e.a++cq e.b++cq e.text++de e.day++de e.at_,de e.kind++cq e.id++cq e.a++cq e.b++cq e.text++de e.day++de e.at_++de e.eQ,de e.kind++cq e.id++cq e.a++cq e.b++cq e.text++de e.day++de e.at_++de e.eQ++de (j9 e.n)] c)) ?_;intro w5 hw5 zw5;replace k1:=k1.step hw5;replace wf:=wf.step hw5;replace wr:=wr.step hw5;refine⟨wr,?_⟩;have zlt:=k1.lt;refine DJ.val rfl (Wf.refl g9) rfl (fun w hG=>aa.move rfl rfl) rfl ?_;refine DJ.val rfl (Wf.refl g9) rfl (fun w hG=>aa.aj 5 rfl rfl Tryz.underlying29 rfl (by kernel_rfl)) rfl ?_;refine DJ.val rfl (Wf.refl g9) rfl (fun w hG=>aa.ak rfl rfl Tryz.underlying3 rfl (k1.wf hG) rfl) rfl ?_;refine DJ.chain 0 rfl rfl (fun w=>Ze Tryz.func30) rfl (fun w hG wr=>cf g9 g9 e.day _ _ wr h2 (by simp only[eW,List.length_append];omega)) ?_;refine DJ.val rfl (Wf.refl g9) rfl (fun w hG=>aa.aj 6 rfl rfl Tryz.underlying29 rfl (by kernel_rfl)) rfl ?_;refine DJ.val rfl (Wf.refl g9) rfl (fun w hG=>aa.ak rfl rfl Tryz.underlying3 rfl (k1.wf hG) rfl) rfl ?_;refine DJ.chain 1 rfl rfl (fun w=>Ze Tryz.func30) rfl (fun w hG wr=>cf g9 g9 e.at_ _ _ wr h3 (by simp only[eW,List.length_append];omega)) ?_;refine DJ.val rfl (Wf.refl g9) rfl (fun w hG=>aa.aj 7 rfl rfl Tryz.underlying29 rfl (by kernel_rfl)) rfl ?_;refine DJ.val rfl (Wf.refl g9) rfl (fun w hG=>aa.ak rfl rfl Tryz.underlying3 rfl (k1.wf hG) rfl) rfl ?_;refine DJ.chain 2 rfl rfl (fun w=>Ze Tryz.func30) rfl (fun w hG wr=>cf g9 g9 e.eQ _ _ wr h4 (by simp only[eW,List.length_append];omega)) ?_;refine DJ.val rfl (Wf.refl g9) rfl (fun w hG=>aa.aj 8 rfl rfl Tryz.underlying29 rfl (by kernel_rfl)) rfl ?_;refine DJ.val rfl (Wf.refl g9) rfl (fun w hG=>aa.ak rfl rfl Tryz.underlying2 rfl (k1.wf hG) rfl) rfl ?_;refine DJ.chain 3 rfl rfl (fun w=>Ze Tryz.func32) rfl (fun w hG wr=>nX g9 g9 e.n _ _ wr h5 (by simp only[eW,List.length_append];omega)) ?_;refine DJ.nil ?_;refine bH.done (F':=[(0,_),(1,_),(2,_),(3,_),(4,_),(7,_),(38,_)]) rfl ⟨rfl,rfl,rfl,rfl,rfl,rfl,rfl,trivial⟩ ?_;intro w6 hw6 fw6;replace k1:=k1.wf hw6;replace wf:=wf.wf hw6;clear wr;have wr:=fw6;replace wr:Wr _ g9 g9 e.bytes:=wr;have bel2:=bel.trans ((wf.to hg9).mono e9);clear bel;have bel:=bel2;refine Zc (Ze Tryz.func33) (jS g9 g9 _ _ wr) ?_;rintro en w15 ⟨rfl,hb15⟩;refine⟨_,rfl,?_⟩;replace wr:=wr.step hb15;replace bel:=bel.step hb15;refine Za ?_;refine Za ?_;refine aV 0 1 2 3 4 7 (Zt (Cd.ret ?_));refine cG ?_;exact⟨rfl,bel⟩
def vA:yF:=⟨2,[],[],[],[],5,0,0,0⟩
def zw:Ev:=⟨7,[99],[],[],[],0,0,0,0⟩
theorem wI:vA.ev.qk:=by
 have hn:∀x∈([]:List Nat),x<256:=fun x h=>by cases h
 constructor<;>first|exact hn|(unfold bu;decide)|decide
theorem wP:zw.qk:=by
 have hn:∀x∈([]:List Nat),x<256:=fun x h=>by cases h
 constructor<;>first|exact hn|(unfold bu;decide)|decide
theorem x9:vA.fit:=by
 constructor<;>first|(unfold bu;decide)|decide
theorem ss:fD vA.ev=true:=by decide+kernel
theorem sN:fD zw=true:=by decide+kernel
theorem sk:vA.bytes=[2,0,0,0,0,5,0,0,0]:=by decide+kernel
theorem mC (w:World):(Instr.build 29 #[(0, .int .i64 2),(5, .int .i64 5)]).run Tryz.prog w= .ok vA.ev.v w:=by kernel_rfl
theorem mW (w:World):(Instr.build 29 #[(0, .int .i64 7),(1, .string {data:= #[99]})]).run Tryz.prog w= .ok zw.v w:=by kernel_rfl
theorem iR (w:World):Calls Tryz.prog 10 #[] w fun e w'=>e= .returned (.bool true)∧Grow w w':=by
 have bel:=Below.refl w.heap.size w;have h1:=fun W=>uH vA x9 wI ss W;have h2:=fun W=>rX zw wP W;rw[sk] at h1;rw[sN] at h2;refine Zs 18 Tryz.func10 ?_;refine ah ?_;refine Za ?_;refine Am 0 (az ?_);refine Zv (aa.build rfl rfl (mC _)) ?_;refine Zc (Ze Tryz.func12) (h1 _) ?_;rintro en w5 ⟨rfl,hb5⟩;refine⟨_,rfl,?_⟩;replace bel:=bel.step hb5;refine Zm ?_;refine Zx ?_;refine Zx ?_;refine Za ?_;refine Za ?_;refine bk 0 1 2 (az ?_);refine Zm ?_;refine aX ?_;refine Zm ?_;refine ar.start ?_;refine bB (fun hcx=>aa.move rfl rfl) ?_;refine Zn (fun hcx=>aa.ck (a:=[2,0,0,0,0,5,0,0,0]) (b:=[2,0,0,0,0,5,0,0,0]) rfl rfl rfl (by decide) (by decide)) ?_;refine dL ?_;refine Zm ?_;refine ar.start ?_;refine bB (fun hcx=>aa.build rfl rfl (mW _)) ?_;refine ar.aW rfl rfl rfl rfl rfl rfl rfl (fun hcx=>Ze Tryz.func13) (fun hcx=>h2 _) ?_;intro w1 hw1;replace bel:=bel.step hw1;refine dL ?_;refine Za ?_;refine bk 0 1 2 (Zt (Cd.ret ?_));refine aP ?_;exact⟨aO (aB (by decide)),bel⟩
theorem mI:gZ.qk:=by
 constructor<;>simp[gZ,bu]
theorem qu (s:List Nat)(w:World)(hs:∀x∈s,x<256)(hlen:s.length≤9223372036854775807):Calls Tryz.prog 7 #[.string (strOf s)] w fun en w'=>en= .returned (.bool true)∧Below w.heap.size w w':=by
 have bel:=Below.refl w.heap.size w
 have hz:∀W,Calls Tryz.prog 26 #[.agg #[.string (strOf []), .string (strOf []), .string (strOf []), .string (strOf []), .int .i64 0, .int .i64 0, .int .i64 0, .slice none 0 0], .agg #[.string (strOf []), .string (strOf []), .string (strOf []), .string (strOf []), .int .i64 0, .int .i64 0, .int .i64 0, .slice none 0 0]] W fun en w'=>en= .returned (.bool true)∧Grow W w':=fun W=>by
  have:=tB gZ gZ 0 none none 0 0 W mI mI (fun i x h=>by cases h) (fun i x h=>by cases h) (Nat.zero_le _);rw[kM rfl] at this;exact this
 refine Zs 47 Tryz.func7 ?_;refine ah ?_;refine Za ?_;refine cZ 0 2 (aH (ah ?_));refine Zm ?_;refine Zv (aa.ed rfl rfl Tryz.underlying9) ?_;refine qK ?_;refine bk 0 2 9 (Zt ?_);refine Cd.ao rfl (fun hc=> ?_) (fun hc=> ?_)
 ·skip
  refine ah ?_;refine Zc (Ze Tryz.func10) (iR _) ?_;rintro en w6 ⟨rfl,hb6⟩;refine⟨_,rfl,?_⟩;replace bel:=bel.step hb6;refine Za ?_;refine bk 0 2 9 (Zt (Cd.ret (ab.ae ?_)));refine aP ?_;exact⟨rfl,bel⟩
 refine Cd.skip (az ?_);refine Zm ?_;refine Zc (Ze Tryz.func23) (tE s _ hs hlen) ?_;rintro en w7 ⟨hb7,k,A,c,e,rfl,hk⟩;refine⟨_,rfl,?_⟩;replace bel:=bel.step hb7;have bel0:=bel;clear bel;have bel:=Below.refl w7.heap.size w7;have hsz:=bel0.size;rcases hk with ⟨rfl,rfl,rfl,rfl⟩|⟨rfl,hr,pa,hso,hpk⟩
 ·skip
  rw[show gZ.v none 0= .agg #[.string (strOf []), .string (strOf []), .string (strOf []), .string (strOf []), .int .i64 0, .int .i64 0, .int .i64 0, .slice none 0 0] from rfl];refine Zm ?_;refine Zx ?_;refine Zx ?_;refine Zl cF ?_;intro g3 w1 n3;have e3:=Nat.le_trans bel.size n3.ge;replace bel:=bel.step n3.below;have k3:=n3.an;refine Zo 8 k3 ?_;intro w2 pw2;replace bel:=bel.put k3 pw2 e3;replace k3:=pw2.an;refine Za ?_;refine aL 0 2 3 4 9 (aH (ah ?_));have k3:aE _ g3 52 #[.string (strOf []), .string (strOf []), .string (strOf []), .string (strOf []), .int .i64 0, .int .i64 0, .int .i64 0, .slice none 0 0]:=k3;refine Zm ?_;refine jq ?_;refine aV 0 2 3 4 9 17 (Zt ?_);refine Cd.aM rfl rfl ?_;refine ah ?_;refine Zm ?_;refine aX ?_;refine Zm ?_;refine ar.start ?_;refine bB (fun hcx=>aa.dx rfl rfl Tryz.underlying52 rfl k3 (m:=8) (by kernel_rfl) rfl) ?_;refine Zn (fun hcx=>aa.build rfl rfl (eK _)) ?_;refine ar.aW rfl rfl rfl rfl rfl rfl rfl (fun hcx=>Ze Tryz.func26) (fun hcx=>hz _) ?_;intro w3 hw3;replace bel:=bel.step hw3;replace k3:=k3.step hw3;refine dL ?_;refine Zm ?_;refine ar.start ?_;refine ar.zE rfl rfl rfl rfl rfl rfl rfl (fun hcx=>Ze Tryz.func10) (fun hcx=>iR _) ?_;intro w4 hw4;replace bel:=bel.step hw4;replace k3:=k3.step hw4;refine dL ?_;refine Za ?_;refine aV 0 2 3 4 9 17 (Zt (Cd.ret (ab.ae ?_)));refine aP ?_;exact⟨aO (aB rfl),bel0.trans (bel.mono hsz)⟩
 ·skip
  have hpc:=fun W (hb:Below w7.heap.size w7 W)=>nk k w7.heap.size A c W hr (pa.below hb) hb.size;have hsc:=fun W (hb:Below w7.heap.size w7 W)=>lk k w7.heap.size A c W hr (pa.below hb) hb.size;rw[hso] at hsc;rw[hpk] at hpc;unfold Ct.v at hsc hpc;unfold Ct.v;refine Zm ?_;refine Zx ?_;refine Zx ?_;refine Zl cF ?_;intro g3 w1 n3;have e3:=Nat.le_trans bel.size n3.ge;replace bel:=bel.step n3.below;have k3:=n3.an;refine Zo 8 k3 ?_;intro w2 pw2;replace bel:=bel.put k3 pw2 e3;replace k3:=pw2.an;refine Za ?_;refine aL 0 2 3 4 9 (aH (ah ?_));have k3:aE _ g3 52 #[.string (strOf k.id), .string (strOf k.aY), .string (strOf k.writer), .string (strOf k.text), .int .i64 k.born, .int .i64 k.ended, .int .i64 k.state, .slice A k.parts.length c]:=k3;refine Zm ?_;refine jq ?_;refine aV 0 2 3 4 9 17 (Zt ?_);refine Cd.aI rfl rfl ?_;refine Cd.skip (az ?_);refine ZW 8 Tryz.underlying52 k3 ?_;refine Zc (Ze Tryz.func20) (hpc _ bel) ?_;rintro en w8 ⟨rfl,hb8⟩;refine⟨_,rfl,?_⟩;replace bel:=bel.step hb8;replace k3:=k3.step hb8;refine Zm ?_;refine Zx ?_;refine Zx ?_;refine Za ?_;refine Za ?_;refine bO 0 2 3 4 5 6 9 17 (az ?_);refine Zm ?_;refine aX ?_;refine Zm ?_;refine ar.start ?_;refine bB (fun hcx=>aa.move rfl rfl) ?_;refine jL ?_;refine Zn (fun hcx=>aa.ck (a:=s) (b:=s) rfl rfl rfl hs hs) ?_;refine dL ?_;refine Zm ?_;refine ar.start ?_;refine bB (fun hcx=>aa.dx rfl rfl Tryz.underlying52 rfl k3 (m:=8) (by kernel_rfl) rfl) ?_;refine ar.aW rfl rfl rfl rfl rfl rfl rfl (fun hcx=>Ze Tryz.func21) (fun hcx=>hsc _ bel) ?_;intro w3 hw3;replace bel:=bel.step hw3;replace k3:=k3.step hw3;refine dL ?_;refine Zm ?_;refine ar.start ?_;refine ar.zE rfl rfl rfl rfl rfl rfl rfl (fun hcx=>Ze Tryz.func10) (fun hcx=>iR _) ?_;intro w4 hw4;replace bel:=bel.step hw4;replace k3:=k3.step hw4;refine dL ?_;refine Za ?_;refine bO 0 2 3 4 5 6 9 17 (Zt (Cd.ret ?_));refine aP ?_;exact⟨aO (aB (by simp)),bel0.trans (bel.mono hsz)⟩
end Go.Proofs.YtigoimhndlnhfaaGreat