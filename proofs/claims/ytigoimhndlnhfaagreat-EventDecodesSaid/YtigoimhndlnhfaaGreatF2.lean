/-
  Texts that were joined: LexG, LexH, TreE, TreF, TreG, TreH, TreI, DateA, DateB, CivA, DateC, BigA, BigB, BigC, BigD, BigE, BigF, BigG, BigH, BigI, TBigK, TNumR, TNumS, DateD, CivB, TNumH, TreJ, TreK. Conditions: what each theorem names.
-/
import Derived.Test.YtigoimhndlnhfaaGreatF1
set_option linter.unusedSectionVars false
namespace Go.Proofs.YtigoimhndlnhfaaGreat
open Go.RowKit
structure Wd where
 kind:Int
 text:List Nat
 n:Int
 pos:Nat
def gD:Nat→List Nat→Nat→List Wd × Option Nat
 |0,_,_=>([],none)
 |f+1,l,p=>if l.length≤p then([],none) else match gZ (l.drop p) with
  |none=>([],some p)
  |some (k,t,n)=>(⟨k,t,n,p⟩::(gD f l (p+t.length+bT (l.drop (p+t.length)))).1,(gD f l (p+t.length+bT (l.drop (p+t.length)))).2)
def aP (l:List Nat):List Wd × Option Nat:=gD (l.length+1) l (bT l)
def dg (ws:List Wd):List Value:=ws.flatMap fun x=>[.int .i64 x.kind, .string (strOf x.text), .int .i64 x.n, .int .i64 (x.pos:Int)]
theorem gy (ws:List Wd)(x:Wd):dg (ws++[x])=dg ws++[.int .i64 x.kind, .string (strOf x.text), .int .i64 x.n, .int .i64 (x.pos:Int)]:=by simp[dg]
theorem lQ (f:Nat)(l:List Nat)(p:Nat)(h:l.length≤p):gD f l p=([],none):=by
 cases f with
 |zero=>rfl
 |succ f=>unfold gD;rw[if_pos h]
theorem gN (f:Nat)(l:List Nat)(p:Nat)(h:p<l.length):gD (f+1) l p=match gZ (l.drop p) with
  |none=>([],some p)
  |some (k,t,n)=>(⟨k,t,n,p⟩::(gD f l (p+t.length+bT (l.drop (p+t.length)))).1,(gD f l (p+t.length+bT (l.drop (p+t.length)))).2):=by
 rw[gD,if_neg (by omega)]
theorem tl {l:List Nat}{c:Nat}{r:List Nat}(h:l=c::r)(hp:aL c=true):0<runN aL l:=by rw[h,eu,if_pos hp];omega
theorem iT {l:List Nat}{k:Int}{t:List Nat}{n:Int}(h:gZ l=some (k,t,n)):0<t.length∧t=l.take t.length∧t.length≤l.length:=by
 cases l with
 |nil=>cases h
 |cons c r=>
  have hrl:=gR aL (c::r)
  have htk:∀j,j≤(c::r).length→0<j→0<((c::r).take j).length∧(c::r).take j=(c::r).take ((c::r).take j).length∧((c::r).take j).length≤(c::r).length:=by
   intro j hj h0;have:((c::r).take j).length=j:=by rw[List.length_take];omega
   rw[this];exact⟨h0,rfl,hj⟩
  unfold gZ at h;simp only at h
  generalize hl:c::r=l at *
  split at h
  ·rename_i hd
   have hp:aL c=true:=by unfold aL;rw[hd];simp
   have h0:=tl hl.symm hp;split at h
   ·rename_i hday
    injection h with h
    injection h with h1 h
    injection h with h2 h
    subst h2;refine htk 10 ?_ (by omega);unfold iv at hday;simp at hday;exact hday.1.1
   ·cases ha:rI (l.take (runN aL l)) with
    |none=>rw[ha] at h;cases h
    |some v=>
     rw[ha] at h;injection h with h
     injection h with h1 h
     injection h with h2 h
     subst h2;exact htk _ hrl h0
  ·split at h
   ·rename_i hd
    have hp:aL c=true:=by unfold aL;rw[hd];simp
    have h0:=tl hl.symm hp;split at h
    ·injection h with h
     injection h with h1 h
     injection h with h2 h
     subst h2;exact htk _ hrl h0
    ·cases h
   ·cases hs:dO l with
    |none=>rw[hs] at h;cases h
    |some s=>
     rw[hs] at h;injection h with h
     injection h with h1 h
     injection h with h2 h
     subst h2;have hm:=List.mem_of_find?_eq_some hs;have hp:=List.find?_some hs;simp at hp
     have h0:0<s.length:=by
      have:∀s∈eW,0<s.length:=by decide
      exact this s hm
     refine⟨h0,hp.symm,?_⟩;have:=congrArg List.length hp;rw[List.length_take] at this;omega
structure ka (w:World)(B:Nat)(e:TypeId)(size:Nat)(v:Value)(n:Nat)(xs:List Value):Prop where
 own:Own w B e size v n xs
section
variable {w w':World} {B size n:Nat} {e:TypeId} {v:Value} {xs:List Value}
theorem ka.step (h:ka w B e size v n xs)(hb:Below w.heap.size w w'):ka w' B e size v n xs:=⟨h.own.step hb⟩
theorem ka.put {g B':Nat}{T:TypeId}{cur cs:Array Value}(h:ka w B e size v n xs)(_k:aH w g T cur)(p:lu w w' g T cs)(_e:B'≤g)(hne:v.ownBlock≠some g:=by assumption):ka w' B e size v n xs:=⟨⟨h.own.row.kept p.grown (.inr hne)⟩⟩
theorem ka.ne (h:ka w B e size v n xs){g:Nat}(hg:w.heap.size≤g):v.ownBlock≠some g:=by
 intro hv;obtain⟨hl,⟨h0,h1⟩|⟨g',cap,cur,h0,h1,h2,h3,h4,h5,h6⟩⟩:=h.own.row
 ·rw[h0] at hv;cases hv
 ·rw[h0] at hv
  injection hv with hv
  have hv:g'=g:=hv;have hlt:g'<w.heap.size:=aH.lt (cs:=cur) (t:=e) h2;omega
end
theorem Aa (l:List Nat)(w:World)(hl:∀x∈l,x<256)(hlen:l.length≤9223372036854775807):
  Calls Tryz.prog 161 #[.string (strOf l)] w fun e w'=>Grow w w'∧((4000<l.length∧e= .returned (.tuple #[.slice none 0 0, .int .i64 0, .int .i64 4]))∨
   (l.length≤4000∧∃p:Nat,(aP l).2=some p∧e= .returned (.tuple #[.slice none 0 0, .int .i64 (p:Int), .int .i64 11]))∨
   (l.length≤4000∧(aP l).2=none∧∃v,e= .returned (.tuple #[v, .int .i64 0, .int .i64 0])∧Own w' w.heap.size 221 4 v (aP l).1.length (dg (aP l).1))):=by
 have ab:=Below.refl w.heap.size w;refine Zs 46 Tryz.func161 ?_;refine aj ?_;refine Za ?_;refine Za ?_;refine Za ?_;refine aQ 0 2 3 4 (aI (aj ?_));refine Zm ?_;refine Zv (aa.dh rfl rfl Tryz.underlying9) ?_;refine uV ?_;refine aO 0 2 3 4 11 (Zt ?_);refine Cd.ak rfl (fun h=> ?_) (fun h=> ?_)
 ·skip
  refine aj ?_;refine Za ?_;refine Za ?_;refine Za ?_;refine aO 0 2 3 4 11 (Zt (Cd.ret (ae.af ?_)));refine ae.nn rfl rfl rfl rfl (.inl rfl) ?_;exact⟨ab, .inl ⟨by omega,rfl⟩⟩
 have h4:l.length≤4000:=by omega
 clear h;have hb0:=jQ l;refine Cd.skip (aB ?_);refine Za ?_;refine aY 0 2 3 4 5 11 (aI (aj ?_));refine Zm ?_;refine Zc (Ze Tryz.func205) (sS l _ hl hlen) ?_;rintro e w4 ⟨rfl,hb4⟩;refine⟨_,rfl,?_⟩;replace ab:=ab.step hb4;have own:ka w4 w.heap.size 221 4 (.slice none 0 0) 0 []:=⟨Own.nil _ _ _ _⟩;refine Za ?_;refine ba 0 2 3 4 5 6 11 (Zt (Cd.block ?_))
 refine Cd.loop (σ:=Nat × Value × List Wd) (fun s=>[(0, .string (strOf l)),(5,s.2.1),(6, .int .i64 (s.1:Int))])
  (fun s wr=>s.1≤l.length∧s.2.2.length≤s.1∧(∃f,l.length+1≤f+s.1∧aP l=(s.2.2++(gD f l s.1).1,(gD f l s.1).2))∧Below w.heap.size w wr∧ka wr w.heap.size 221 4 s.2.1 s.2.2.length (dg s.2.2)) (fun s=>l.length-s.1) (bT l, .slice none 0 0,[])
  ⟨hb0,by simp,⟨l.length+1,by dsimp only;omega,rfl⟩,ab,own⟩ ⟨rfl,rfl,rfl,trivial⟩ ?_
 clear ab;clear own;rintro⟨p,v,ws⟩ wr ⟨hp,hwp,⟨f,hf,hall⟩,ab,own⟩;dsimp only at hp hwp hf hall own⊢;refine Cd.seq (aj ?_);refine Zm ?_;refine Zm ?_;refine Zv (aa.dh rfl rfl Tryz.underlying9) ?_;refine eI ?_;refine aQ 0 5 6 17 (Zt ?_);refine Cd.ak rfl (fun hc=> ?_) (fun hc=> ?_)
 ·obtain⟨f',rfl⟩:∃f',f=f'+1:=⟨f-1,by omega⟩
  have hdl:=j3 hl p;have hdn:(l.drop p).length≤9223372036854775807:=by rw[List.length_drop];omega
  have hstep:=gN f' l p (by omega);refine Cd.skip (aI (Cd.block (aj ?_)));refine Zm ?_;refine Zm ?_;refine Zv (aa.sliceFrom (j:=p) rfl rfl rfl Tryz.underlying9 rfl hp) ?_;refine Zc (Ze Tryz.func206) (BG (l.drop p) _ hdl hdn (by intro h0;have:=congrArg List.length h0;rw[List.length_drop] at this;simp at this;omega)) ?_;rintro e w6 ⟨a,b,c,ok,rfl,hnx,hb6⟩;refine⟨_,rfl,?_⟩;replace ab:=ab.step hb6;replace own:=own.step hb6;have hneg:∀g,w6.heap.size≤g→v.ownBlock≠some g:=fun g hg=>own.ne hg;have hstep1:ok=false→gD (f'+1) l p=([],some p):=fun h=>by rw[hstep,hnx,h];rfl
  have hstep2:ok=true→gD (f'+1) l p=(⟨a,b,c,p⟩::(gD f' l (p+b.length+bT (l.drop (p+b.length)))).1,(gD f' l (p+b.length+bT (l.drop (p+b.length)))).2):=fun h=>by rw[hstep,hnx,h];rfl
  have hspec:ok=true→0<b.length∧b=(l.drop p).take b.length∧b.length≤(l.drop p).length:=fun h=>iT (by rw[hnx,h];rfl);clear hstep hnx;refine Zm ?_;refine Zx ?_;refine Zx ?_;refine Zl bK ?_;intro g7 w1 n7;have e7:=Nat.le_trans ab.size n7.ge;replace ab:=ab.step n7.below;replace own:=own.step n7.below;have k7:=n7.an;have hne7:v.ownBlock≠some g7:=hneg g7 n7.ge;refine Zo 4 k7 ?_;intro w2 pw2;replace ab:=ab.put k7 pw2 e7;replace own:=own.put k7 pw2 e7;replace k7:=pw2.an;refine Za ?_;refine aY 0 5 6 7 8 17 (aI (aj ?_));refine Zm ?_;refine mD ?_;refine ba 0 5 6 7 8 17 32 (Zt ?_);refine Cd.cond rfl (fun h=> ?_) (fun h=> ?_)
  ·have hok:ok=false:=by cases ok<;>simp at h⊢
   rw[hstep1 hok] at hall;refine aj ?_;refine Zm ?_;refine Za ?_;refine Za ?_;refine Za ?_;refine dq 0 2 3 4 5 6 7 8 17 32 (Zt (Cd.ret (ae.af (ae.ag (ae.af (ae.aX (ae.ag (ae.af ?_))))))));refine ae.nn rfl rfl rfl rfl (.inl rfl) ?_;exact⟨ab, .inr (.inl ⟨h4,p,by rw[hall],rfl⟩)⟩
  ·have hok:ok=true:=by cases ok<;>simp at h⊢
   obtain⟨s1,s2,s3⟩:=hspec hok;rw[List.length_drop] at s3;rw[hstep2 hok] at hall;clear hstep1 hstep2 hspec;have hbl:=jQ (l.drop (p+b.length));rw[List.length_drop] at hbl;refine Cd.skip (aB ?_);refine Zm ?_;refine Zf 3 Tryz.underlying221 ?_;refine Zq k7 ?_;intro w3 pw3;replace ab:=ab.put k7 pw3 e7;replace own:=own.put k7 pw3 e7;replace k7:=pw3.an;refine ba 0 5 6 7 8 17 32 (aB ?_);refine Zm ?_;refine ZW 4 Tryz.underlying221 k7 ?_;refine Seq.slice (vs:=[_]) (s:=4) rfl rfl rfl Tryz.underlying215 (by kernel_rfl) (bK) (by omega) (by omega) ⟨rfl,trivial⟩ rfl rfl rfl ?_;intro g38 w4 n38;have e38:=Nat.le_trans ab.size n38.ge;have l38:=Nat.lt_of_lt_of_le k7.lt n38.ge;replace ab:=ab.step n38.below;replace own:=own.step n38.below;replace k7:=k7.step n38.below;have k38:=n38.an;replace own:=own.own;refine Seq.append rfl rfl rfl Tryz.underlying215 (by kernel_rfl) bK rfl (by decide) (b:=40) (by kernel_rfl) own (Reads.an (size:=4) k38 1 rfl) (by intro x hx;simp[aN,Value.cells] at hx;rcases hx with rfl|rfl|rfl|rfl<;>rfl) ab.size (by simp only[maxLen];omega) (by omega) rfl rfl rfl ?_;clear own;intro vw5 w5 own haw5;replace ab:=ab.trans haw5.below;replace k7:=k7.grown haw5.grown (fun e=>hne7 e.symm);replace own:ka w5 w.heap.size 221 4 vw5 (ws++[(⟨a,b,c,p⟩:Wd)]).length (dg (ws++[⟨a,b,c,p⟩])):=⟨by rw[List.length_append,gy];exact own⟩;refine Za ?_;refine ba 0 5 6 7 8 17 32 (eh ?_);refine Zm ?_;refine Zf 1 Tryz.underlying221 ?_;refine ZL Tryz.underlying9 k7 ?_;refine Zv (aa.dh rfl rfl Tryz.underlying9) ?_;refine cG ?_;refine Za ?_;refine ba 0 5 6 7 8 17 32 (ae.ah (eh ?_));refine Zm ?_;refine Zm ?_;refine Zm ?_;refine Zv (aa.sliceFrom (j:=p+b.length) rfl rfl rfl Tryz.underlying9 rfl (by omega)) ?_;refine Zc (Ze Tryz.func205) (sS (l.drop (p+b.length)) _ (j3 hl _) (by rw[List.length_drop];omega)) ?_;rintro e w8 ⟨rfl,hb8⟩;refine⟨_,rfl,?_⟩;replace ab:=ab.step hb8;replace own:=own.step hb8;replace k7:=k7.step hb8
   generalize hq:p+b.length+bT (l.drop (p+b.length))=q at *
   refine cG ?_;refine Za ?_;refine ba 0 5 6 7 8 17 32 ?_;refine ae.round (q,vw5,ws++[⟨a,b,c,p⟩]) ⟨rfl,rfl,congrArg (fun x:Int=>some (Value.int .i64 x)) (show((p:Int)+(b.length:Int)+(bT (l.drop (p+b.length)):Int))=((q:Nat):Int) by omega),trivial⟩ ⟨by dsimp only;omega,by dsimp only;rw[List.length_append];simp;omega,⟨f',by dsimp only;omega,?_⟩,ab,own⟩ (by dsimp only;omega);dsimp only;rw[hall,List.append_assoc];rfl
 ·have hpe:p=l.length:=by omega
  rw[lQ f l p (by omega)] at hall;dsimp only at hall;rw[List.append_nil] at hall;refine Cd.exit (ae.aC (ae.aA (ae.ay (aB ?_))));refine Zm ?_;refine Za ?_;refine Za ?_;refine Za ?_;refine ba 0 2 3 4 5 6 17 (Zt (Cd.ret ?_));refine ae.nn rfl rfl rfl rfl (.inl rfl) ?_;exact⟨ab, .inr (.inr ⟨h4,by rw[hall],v,rfl,by rw[hall];exact own.own⟩)⟩
theorem js (c:Nat)(w:World):Calls Tryz.prog 76 #[.int .u8 (c:Int)] w fun e w'=>e= .returned (.bool (kT c))∧Grow w w':=by
 have ab:=Below.refl w.heap.size w;refine Zs 17 Tryz.func76 ?_;refine aj ?_;refine Za ?_;refine dF 0 2 (aB ?_);refine Zm ?_;refine kZ ?_;refine Zm ?_;refine aw.start ?_;refine bw (fun hcx=>aa.move rfl rfl) ?_;refine Zn (fun hcx=>aa.leq rfl rfl rfl) ?_;refine fQ ?_;refine Zm ?_;refine aw.start ?_;refine bw (fun hcx=>aa.move rfl rfl) ?_;refine Zn (fun hcx=>aa.geq rfl rfl rfl) ?_;refine gq ?_;refine bw (fun hcx=>aa.move rfl rfl) ?_;refine Zn (fun hcx=>aa.leq rfl rfl rfl) ?_;refine aw.mF rfl rfl rfl rfl rfl rfl rfl rfl rfl rfl rfl ?_;refine fg ?_;refine Za ?_;refine dF 0 2 (Zt (Cd.ret ?_));refine aZ ?_;refine⟨bt (aJ ?_),ab⟩;unfold kT;rw[Bool.eq_iff_iff];simp;omega
theorem ll (c:Nat)(w:World):Calls Tryz.prog 77 #[.int .u8 (c:Int)] w fun e w'=>e= .returned (.bool (aL c))∧Grow w w':=by
 have ab:=Below.refl w.heap.size w;refine Zs 17 Tryz.func77 ?_;refine aj ?_;refine Za ?_;refine dF 0 2 (aB ?_);refine Zm ?_;refine Zc (Ze Tryz.func76) (js c _) ?_;rintro e w2 ⟨rfl,hb2⟩;refine⟨_,rfl,?_⟩;replace ab:=ab.step hb2;refine Zm ?_;refine aw.start ?_;refine bw (fun hcx=>aa.move rfl rfl) ?_;refine Zn (fun hcx=>aa.geq rfl rfl rfl) ?_;refine gq ?_;refine bw (fun hcx=>aa.move rfl rfl) ?_;refine Zn (fun hcx=>aa.leq rfl rfl rfl) ?_;refine aw.mF rfl rfl rfl rfl rfl rfl rfl rfl rfl rfl rfl ?_;refine fg ?_;refine Zm ?_;refine aw.start ?_;refine bw (fun hcx=>aa.move rfl rfl) ?_;refine Zn (fun hcx=>aa.fh rfl rfl rfl) ?_;refine fg ?_;refine Za ?_;refine dF 0 2 (Zt (Cd.ret ?_));refine aZ ?_;refine⟨bt (aJ ?_),ab⟩;unfold aL fy
 cases kT c<;>rw[Bool.eq_iff_iff]<;>simp<;>omega
theorem iI (l:List Nat)(w:World)(hl:∀x∈l,x<256)(hlen:l.length≤9223372036854775807):
  Calls Tryz.prog 28 #[.string (strOf l)] w fun e w'=>e= .returned (.bool (cS l))∧Grow w w':=by
 have ab:=Below.refl w.heap.size w
 have h0:l≠ []→l[0]? =some (l.getD 0 0):=by
  intro h
  cases l with
  |nil=>exact absurd rfl h
  |cons c l=>rfl
 have h1:l.getD 0 0<256:=by
  cases l with
  |nil=>simp
  |cons c l=>exact hl c (by simp)
 have hnil:l≠ []↔0<l.length:=by cases l<;>simp
 unfold cS
 generalize l.getD 0 0=c0 at *
 refine Zs 29 Tryz.func28 ?_;refine aj ?_;refine Za ?_;refine dF 0 2 (aI (aj ?_));refine Zm ?_;refine Zv (aa.dh rfl rfl Tryz.underlying9) ?_;refine eI ?_;refine Zm ?_;refine aw.start ?_;refine bw (fun hcx=>aa.move rfl rfl) ?_;refine Zn (fun hcx=>aa.dh rfl rfl Tryz.underlying9) ?_;refine Zn (fun hcx=>aa.gtr rfl rfl rfl) ?_;refine fg ?_;refine Zm ?_;refine aw.start ?_;refine bw (fun hcx=>aa.move rfl rfl) ?_;refine Zn (fun hcx=>aa.cz (l:=l) (j:=0) (c:=c0) rfl rfl rfl Tryz.underlying9 rfl (h0 (hnil.2 (by simp[ct] at hcx;omega))) h1) ?_;refine aw.bU rfl rfl rfl rfl rfl rfl rfl (fun hcx=>Ze Tryz.func76) (fun hcx=>js _ _) ?_;intro w1 hw1;replace ab:=ab.step hw1;refine Zn (fun hcx=>aa.not rfl rfl) ?_;refine fg ?_;refine bn 0 2 17 (Zt ?_);refine Cd.cond rfl (fun h=> ?_) (fun h=> ?_)
 ·have hf:(decide (l≠ [])&&decide (l.length≤16)&&kT c0&&decide (runN aL l=l.length))=false:=by
   rw[Bool.eq_false_iff];intro h2;simp only[Bool.and_eq_true,decide_eq_true_eq] at h2;have h3:=hnil.1 h2.1.1.1;rw[h2.1.2] at h;simp at h;omega
  rw[hf];refine aj ?_;refine Za ?_;refine bn 0 2 17 (Zt (Cd.ret (ae.af ?_)));refine aZ ?_;exact⟨rfl,ab⟩
 have hok:l≠ []∧l.length≤16∧kT c0=true:=by
  cases hle:kT c0 with
  |false=>rw[hle] at h;simp at h
  |true=>rw[hle] at h;simp at h;exact⟨hnil.2 (by omega),by omega,rfl⟩
 have hrl:=gR aL l;rw[decide_eq_true hok.1,decide_eq_true hok.2.1,hok.2.2];refine Cd.skip (aI (aj ?_));refine Za ?_;refine aQ 0 2 3 17 (Zt (Cd.block ?_));refine Cd.loop (σ:=Nat) (fun k=>[(0, .string (strOf l)),(3, .int .i64 (k:Int))]) (fun k wr=>k≤runN aL l∧Below w.heap.size w wr) (fun k=>l.length-k) 0 ⟨Nat.zero_le _,ab⟩ ⟨rfl,rfl,trivial⟩ ?_;clear ab;rintro k wr ⟨hk,ab⟩;refine Cd.seq (aj ?_);refine Zm ?_;refine Zm ?_;refine Zv (aa.dh rfl rfl Tryz.underlying9) ?_;refine eI ?_;refine bn 0 3 21 (Zt ?_);refine Cd.ak rfl (fun hc=> ?_) (fun hc=> ?_)
 ·obtain⟨c,hcc⟩:∃c,l[k]? =some c:=⟨_,List.getElem?_eq_getElem (show k<l.length by omega)⟩
  have hc256:=hl c (List.mem_of_getElem? hcc);have hup:=mu aL l k hk c hcc;refine Cd.skip (aI (Cd.block (aj ?_)));refine Zm ?_;refine Zm ?_;refine Zv (aa.cz (l:=l) (j:=k) rfl rfl rfl Tryz.underlying9 rfl hcc hc256) ?_;refine Zc (Ze Tryz.func77) (ll c _) ?_;rintro e w5 ⟨rfl,hb5⟩;refine⟨_,rfl,?_⟩;replace ab:=ab.step hb5;refine mD ?_;refine aQ 0 3 21 28 (Zt ?_);refine Cd.cond rfl (fun h2=> ?_) (fun h2=> ?_)
  ·have hne:¬runN aL l=l.length:=by
    intro he;have:=hup.2 (by omega);rw[this] at h2
    cases h2
   rw[decide_eq_false hne];refine aj ?_;refine Za ?_;refine aO 0 2 3 21 28 (Zt (Cd.ret (ae.ag (ae.af (ae.aX (ae.ag (ae.af ?_)))))));refine aZ ?_;exact⟨rfl,ab⟩
  ·have hlt:=hup.1 (by simpa using h2)
   refine Cd.skip (ae.ah (eh ?_));refine Zm ?_;refine cG ?_;refine Za ?_;refine aQ 0 3 21 28 ?_;exact ae.round (k+1) ⟨rfl,rfl,trivial⟩ ⟨by omega,ab⟩ (by omega)
 ·rw[decide_eq_true (show runN aL l=l.length by omega)]
  refine Cd.exit (ae.aC (ae.aA (ae.ay (aB ?_))));refine Za ?_;refine aQ 0 2 3 21 (Zt (Cd.ret ?_));refine aZ ?_;exact⟨rfl,ab⟩
section
variable {P:Program} {E:Operand→Option Value} {o:Oper} {w:World} {x y:Operand} {T:TypeId}
end
theorem th:∀x∈eL,∀d∈x,d<256:=by decide
theorem kR (l:List Nat)(w:World)(hl:∀d∈l,d<256):Calls Tryz.prog 159 #[.string (strOf l)] w fun e w'=>e= .returned (.bool (cl l))∧Grow w w':=by
 have ab:=Below.refl w.heap.size w
 have hat:∀j x,eL[j]? =some x→(aN (eL.map fun x=>Value.string (strOf x))).toArray[j]? =some (Value.string (strOf x)):=fun j x h=>by
  have hj:=(List.getElem?_eq_some_iff.1 h).1;replace hj:j<13:=hj;rcases(show j=0∨j=1∨j=2∨j=3∨j=4∨j=5∨j=6∨j=7∨j=8∨j=9∨j=10∨j=11∨j=12 by omega) with rfl|rfl|rfl|rfl|rfl|rfl|rfl|rfl|rfl|rfl|rfl|rfl|rfl<;>(injection h with h;subst h;rfl)
 refine Zs 18 Tryz.func159 ?_;refine aj ?_;refine Za ?_;refine dF 0 2 (aB ?_);refine Seq.slice (vs:=[_,_,_,_,_,_,_,_,_,_,_,_,_]) (s:=1) rfl rfl rfl Tryz.underlying66 (by kernel_rfl) (bh) (by omega) (by omega) ⟨rfl,rfl,rfl,rfl,rfl,rfl,rfl,rfl,rfl,rfl,rfl,rfl,rfl,trivial⟩ rfl rfl rfl ?_;intro g5 w1 n5;have e5:=Nat.le_trans ab.size n5.ge;replace ab:=ab.step n5.below;have k5:=n5.an;refine Za ?_;refine bn 0 2 3 (aI (aj ?_));refine Za ?_;refine aQ 0 2 3 4 (Zt (Cd.block ?_))
 refine Cd.loop (σ:=Nat) (fun k=>[(0, .string (strOf l)),(3, .slice (some ⟨g5,0,none⟩) 13 13),(4, .int .i64 (k:Int))])
  (fun k wr=>k≤13∧(∀x∈eL.take k,l≠x)∧Below w.heap.size w wr∧aH wr g5 9 (aN (eL.map fun x=>Value.string (strOf x))).toArray) (fun k=>13-k) 0 ⟨by omega,by simp,ab,k5⟩ ⟨rfl,rfl,rfl,trivial⟩ ?_
 clear ab k5;rintro k wr ⟨hk,hno,ab,k5⟩;refine Cd.seq (aj ?_);refine Zm ?_;refine Zm ?_;refine Zv (aa.len rfl rfl Tryz.underlying66) ?_;refine eI ?_;refine aQ 0 3 4 9 (Zt ?_);refine Cd.ak rfl (fun hc=> ?_) (fun hc=> ?_)
 ·obtain⟨x,hx⟩:∃x,eL[k]? =some x:=⟨_,List.getElem?_eq_getElem (show k<eL.length by show k<13;omega)⟩
  have htk:eL.take (k+1)=eL.take k++[x]:=by rw[List.take_add_one,hx];rfl
  have hxb:∀d∈x,d<256:=th x (List.mem_of_getElem? hx);refine Cd.skip (aI (Cd.block (aj ?_)));refine Zm ?_;refine Zm ?_;refine Zv (aa.dS rfl rfl rfl Tryz.underlying66 (by kernel_rfl) (j:=k) rfl (by omega)) ?_;refine Zv (aa.au rfl rfl Tryz.underlying9 rfl k5 (hat k x hx)) ?_;refine Zm ?_;refine Zv (aa.cI (a:=x) (b:=l) rfl rfl rfl hxb hl) ?_;refine aO 0 3 4 9 17 (Zt ?_);refine Cd.ak rfl (fun hq=> ?_) (fun hne=> ?_)
  ·skip
   refine aj ?_;refine Za ?_;refine aY 0 2 3 4 9 17 (Zt (Cd.ret (ae.ag (ae.af (ae.aX (ae.ag (ae.af ?_)))))));refine aZ ?_;refine⟨bt (aJ ?_),ab⟩;unfold cl;exact(List.any_eq_true.2 ⟨x,List.mem_of_getElem? hx,decide_eq_true hq.symm⟩).symm
  ·skip
   refine Cd.skip (ae.ah (eh ?_));refine Zm ?_;refine cG ?_;refine Za ?_;refine aO 0 3 4 9 17 ?_;refine ae.round (k+1) ⟨rfl,rfl,rfl,trivial⟩ ⟨by omega,fun y hy=> ?_,ab,k5⟩ (by omega);rw[htk] at hy;rcases List.mem_append.1 hy with hy|hy
   ·exact hno y hy
   ·simp at hy
    subst hy;exact fun h=>hne h.symm
 ·obtain rfl:k=13:=by omega
  rw[List.take_of_length_le (show eL.length≤13 from Nat.le_refl _)] at hno;refine Cd.exit (ae.aC (ae.aA (ae.ay (aB ?_))));refine Za ?_;refine aO 0 2 3 4 9 (Zt (Cd.ret ?_));refine aZ ?_;refine⟨bt (aJ ?_),ab⟩;unfold cl
  symm
  rw[List.any_eq_false];exact fun x hx=>by simpa using hno x hx
theorem aa.Bm {P:Program}{E:Operand→Option Value}{o:Oper}{w:World}{x:Operand}{T T':TypeId}{p:Int}{r:Nat}(ho:o.op= .convert T T' x)(hx:E x=some (.int .i64 p))(hS:P.underlying T=some (.int .i64))(hT:P.underlying T'=some (.int .u64))(hr:p%18446744073709551616=(r:Int)):aa P E o w (.int .u64 (r:Int)) w:=
 .dJ ho hx hS hT (by rw[IntKind.wrap_u64,hr])
section
variable {w w':World} {T:List Nat} {es:List Ex} {vs:List Value}
end
theorem Own.aS {w:World}{B size n:Nat}{e:TypeId}{v:Value}{xs:List Value}(h:Own w B e size v n xs):∀b,v.ownBlock=some b→B≤b∧b<w.heap.size:=fun b hb=>by
 obtain⟨h1,h2⟩:=h.row;rcases h2 with ⟨rfl,-⟩|⟨g',cap,cur,rfl,e2,e3,e4⟩
 ·cases hb
 ·injection hb with hb
  subst hb;exact⟨e2,(show aH w g' e cur from e3).lt⟩
section
variable {P:Program} {ops:Array Oper} {Q:Exit→Act→World→Prop} {rest:List Oper} {o:Oper} {n d:Nat} {F:List (Nat × Value)} {w:World} {v:Value} {x y:Operand}
theorem Seq.gC {t e B B2 size b k m c:Nat}{A:Option Addr}{z:Value}{xs news:List Value}(ho:o.op= .call {callee:= .builtin .append,args:= #[x,y],argTypes:= #[t,t]}) (hx:eT F x=some v) (hy:eT F y=some (.slice A m c)) (ht:P.underlying t=some (.slice e)) (hs:dB P e size=true) (hz:bW P e=some (some z)) (hzs:z.cells.size=size) (hsz:0<size) (hby:(P.info? e).map (·.bytes)=some b)
  (hown:Own w B e size v k xs) (hr:Reads w B2 size A m news) (h1:∀u∈news,u.oneCell'=true) (hB:B≤w.heap.size) (h63:k+m≤maxLen) (hbytes:(k+m)*b≤140737488355328) (hg:o.guard=none) (hd:o.dst=some d) (hn:Nat.blt d n=true)
  (h:∀v' w',Own w' B e size v' (k+m) (xs++news)→App w w' B v→(v'.ownBlock=v.ownBlock∨v'.ownBlock=some w.heap.size)→Seq P ops Q rest n ((d,v')::F) w'):Seq P ops Q (o::rest) n F w:=by
 obtain⟨i,hi,hisz⟩:=bL hs;have hz':i.zero=some z:=by unfold bW at hz;rw[hi] at hz;injection hz
 have hb':i.bytes=b:=by rw[hi] at hby;injection hby
 obtain⟨v',w',hrun,h2,h3,h4⟩:=lz (P:=P) w B t o.type e i z size b ht hi hz' hisz hb' hzs hsz v k xs hown.row B2 A m c news hr h1 h63 hbytes hB;refine Seq.val (v:=v') (w':=w') (fun ρ hρ=> ?_) hg hd hn (h v' w' ⟨h2⟩ ⟨?_,h3⟩ h4)
 ·unfold execOp
  simp only[ho,resolve,invoke,builtin,Sem.run_bind,Sem.run_pure,Result.andThen_ok,List.map_toArray,List.map_cons,List.map_nil,hρ _ _ hx,hρ _ _ hy,hrun]
 ·refine⟨h3.os,h3.tape,h3.output,h3.size,fun j hj=>h3.block j (by omega) fun e'=> ?_⟩
  rcases hown.row.2 with ⟨rfl,_⟩|⟨g,cap,cur,rfl,hBg,_⟩
  ·cases e'
  ·injection e' with e'
   have:j=g:=e';omega
end
def DI (l:List Int):List Value:=l.map fun z=> .int .i64 z
theorem E1 (l:List Int)(k:Nat):(DI l)[k]? =l[k]?.map (Value.int .i64):=by simp[DI]
theorem nA (a b:List Value):aN (a++b)=aN a++aN b:=by
 induction a with
 |nil=>rfl
 |cons v r ih=>show v.cells.toList++aN (r++b)=(v.cells.toList++aN r)++aN b;rw[ih,List.append_assoc]
theorem aH.app {k n B B' size:Nat}{w w':World}{t e:TypeId}{cs:Array Value}{v:Value}{xs:List Value}(h:aH w k t cs)(o:Own w B e size v n xs)(ha:App w w' B' v)(hne:e≠t:=by decide):aH w' k t cs:=h.grown ha.grown (fun e'=>gf o.row h hne e'.symm)
def Gv (v u:Value):Prop:=∀b,v.ownBlock=some b→u.ownBlock≠some b
def qk (y:Int):Int:=if iZ y then 366 else 365
theorem lF:fF 1970 1 1=0:=by decide
theorem tQ:fF 10000 1 1=2932897:=by decide
theorem me (y:Int):iZ y=true↔y%4=0∧(y%100≠0∨y%400=0):=by unfold iZ;simp
theorem qT (y:Int):fF y 1 1=(y-1)/400*146097+((y-1)%400*365+(y-1)%400/4-(y-1)%400/100+306)-719468:=by
 unfold fF so ofM;rw[if_pos (by omega),if_pos (by omega)];omega
theorem pW (y:Int):fF (y+1) 1 1=fF y 1 1+qk y:=by
 rw[qT,qT];have hl:=me y;unfold qk;rw[Int.add_sub_cancel]
 generalize hr:(y-1)%400=r
 generalize hq:(y-1)/400=q
 obtain rfl:y=400*q+r+1:=by omega
 have hr1:0≤r∧r<400:=by omega
 split
 ·rename_i h
  have:=hl.1 h
  by_cases h4:r=399
  ·subst h4;omega
  ·rw[show(400*q+r+1)/400=q by omega,show(400*q+r+1)%400=r+1 by omega];omega
 ·rename_i h
  have:¬((400*q+r+1)%4=0∧((400*q+r+1)%100≠0∨(400*q+r+1)%400=0)):=fun h2=>h (hl.2 h2)
  by_cases h4:r=399
  ·subst h4;omega
  ·rw[show(400*q+r+1)/400=q by omega,show(400*q+r+1)%400=r+1 by omega];omega
theorem tH (y m d:Int):fF y m d=fF y m 1+d-1:=by unfold fF;omega
theorem jZ (y m:Int)(h1:1≤m)(h2:m≤11):fF y (m+1) 1=fF y m 1+bP y m:=by
 rcases(show m=1∨m=2∨m=3∨m=4∨m=5∨m=6∨m=7∨m=8∨m=9∨m=10∨m=11 by omega) with rfl|rfl|rfl|rfl|rfl|rfl|rfl|rfl|rfl|rfl|rfl
 case inr.inl=>
  have:=pW y;rw[qT,qT] at this;unfold qk at this;unfold fF so ofM bP;split at this<;>rename_i h<;>simp[h] at this⊢ <;>omega
 all_goals
  unfold fF so ofM bP;simp
  try omega
theorem xu (y:Int):fF (y+1) 1 1=fF y 12 1+31:=by
 rw[qT];unfold fF so ofM;simp;omega
theorem oe (y m:Int):0≤bP y m:=by
 unfold bP;split
 ·split<;>omega
 ·split
  ·omega
  ·split<;>omega
theorem zY (y:Int):∀(k:Nat) (m:Int),1≤m→m+k≤12→fF y m 1≤fF y (m+k) 1:=by
 intro k
 induction k with
 |zero=>intro m _ _;simp
 |succ k ih=>
  intro m h1 h2;have h3:=ih m h1 (by omega);have h4:=jZ y (m+k) (by omega) (by omega);have h5:=oe y (m+k);rw[show m+((k+1:Nat):Int)=m+k+1 by omega];omega
theorem gQ {y m m':Int}(h1:1≤m)(h2:m≤m')(h3:m'≤12):fF y m 1≤fF y m' 1:=by
 have:=zY y (m'-m).toNat m h1 (by omega)
 rwa [show m+((m'-m).toNat:Int)=m' by omega] at this
theorem ta (y:Int):365≤qk y:=by unfold qk;split<;>omega
theorem zA:∀(k:Nat) (y:Int),fF y 1 1≤fF (y+k) 1 1:=by
 intro k
 induction k with
 |zero=>intro y;simp
 |succ k ih=>
  intro y;have h1:=ih y;have h2:=pW (y+k);have h3:=ta (y+k);rw[show y+((k+1:Nat):Int)=y+k+1 by omega];omega
theorem gS {y y':Int}(h:y≤y'):fF y 1 1≤fF y' 1 1:=by
 have:=zA (y'-y).toNat y
 rwa [show y+((y'-y).toNat:Int)=y' by omega] at this
theorem nv {y m d:Int}(h:fZ y m d=true):1970≤y∧y≤9999∧1≤m∧m≤12∧1≤d∧d≤bP y m∧fF y 1 1≤fF y m d∧fF y m d<fF (y+1) 1 1∧0≤fF y m d∧fF y m d≤2932896:=by
 unfold fZ at h;simp at h;obtain⟨⟨⟨h1,h2⟩,h3⟩,h4⟩:=h;obtain⟨h5,h6,-⟩:=ma (y:=y) (m:=m) (by omega);have a1:=gQ (y:=y) (m:=1) (m':=m) (by omega) h5 h6;have a2:=tH y m d
 have a3:fF y m 1+bP y m≤fF (y+1) 1 1:=by
  by_cases hm:m=12
  ·subst hm
   rw[xu];have:bP y 12=31:=by unfold bP;simp
   omega
  ·have b1:=jZ y m h5 (by omega)
   have b2:=gQ (y:=y) (m:=m+1) (m':=12) (by omega) (by omega) (by omega);have b3:=xu y;omega
 have a4:=gS (y:=1970) (y':=y) h1;have a5:=gS (y:=y+1) (y':=10000) (by omega);rw[lF] at a4;rw[tQ] at a5;exact⟨h1,h2,h5,h6,h3,h4,by omega,by omega,by omega,by omega⟩
def fe (v:Nat):Nat→List Nat
 |0=>[]
 |n+1=>(48+v/10^n%10)::fe v n
theorem fN (v n:Nat):(fe v n).length=n:=by induction n with
 |zero=>rfl
 |succ n ih=>unfold fe;simp[ih]
theorem tq (v n:Nat):∀x∈fe v n,x<256:=by induction n with
 |zero=>intro x h;cases h
 |succ n ih=>
  intro x h;unfold fe at h;rcases List.mem_cons.1 h with rfl|h
  ·omega
  ·exact ih x h
def fW (y m d:Nat):List Nat:=fe y 4++[45]++fe m 2++[45]++fe d 2
def ef (l:List Nat):Int:=l.foldl (fun(v:Int) (c:Nat)=>10*v+(c:Int)-48) 0
theorem pK (a b:Nat):er [a,b]=if(48≤a∧a≤57)∧(48≤b∧b≤57) then 10*((a:Int)-48)+((b:Int)-48) else -1:=by
 unfold er;have e:([a,b].all fy=true)↔((48≤a∧a≤57)∧(48≤b∧b≤57)):=by simp[fy]
 by_cases h:(48≤a∧a≤57)∧(48≤b∧b≤57)
 ·rw[if_pos (e.2 h),if_pos h]
  simp[dx];omega
 ·rw[if_neg (fun x=>h (e.1 x)),if_neg h]
theorem yp (a b c d:Nat):er [a,b,c,d]=if(48≤a∧a≤57)∧(48≤b∧b≤57)∧(48≤c∧c≤57)∧(48≤d∧d≤57) then 1000*((a:Int)-48)+100*((b:Int)-48)+10*((c:Int)-48)+((d:Int)-48) else -1:=by
 unfold er;have e:([a,b,c,d].all fy=true)↔((48≤a∧a≤57)∧(48≤b∧b≤57)∧(48≤c∧c≤57)∧(48≤d∧d≤57)):=by simp[fy]
 by_cases h:(48≤a∧a≤57)∧(48≤b∧b≤57)∧(48≤c∧c≤57)∧(48≤d∧d≤57)
 ·rw[if_pos (e.2 h),if_pos h]
  simp[dx];omega
 ·rw[if_neg (fun x=>h (e.1 x)),if_neg h]
theorem BO {l:List Nat}(h:l.length=10):∃c0 c1 c2 c3 c4 c5 c6 c7 c8 c9,l=[c0,c1,c2,c3,c4,c5,c6,c7,c8,c9]:=by
 rcases l with _|⟨c0,_|⟨c1,_|⟨c2,_|⟨c3,_|⟨c4,_|⟨c5,_|⟨c6,_|⟨c7,_|⟨c8,_|⟨c9,_|⟨x,l⟩⟩⟩⟩⟩⟩⟩⟩⟩⟩⟩<;>simp at h
 exact⟨_,_,_,_,_,_,_,_,_,_,rfl⟩
theorem nU {y m d:Int}(h:fZ y m d=true):1970≤y∧y≤9999∧1≤m∧m≤12∧1≤d∧d≤31:=by
 obtain⟨h1,h2,h3,h4,h5,h6,-⟩:=nv h;obtain⟨-,-,h7⟩:=ma (y:=y) (m:=m) (by omega);exact⟨h1,h2,h3,h4,h5,by omega⟩
theorem D2 (l:List Nat)(h:l.length=10):(df l=true↔(fZ (ef (l.take 4)) (ef ((l.take 7).drop 5)) (ef ((l.take 10).drop 8))=true∧fW (ef (l.take 4)).toNat (ef ((l.take 7).drop 5)).toNat (ef ((l.take 10).drop 8)).toNat=l))∧
  (df l=true→eZ l=fF (ef (l.take 4)) (ef ((l.take 7).drop 5)) (ef ((l.take 10).drop 8))):=by
 obtain⟨c0,c1,c2,c3,c4,c5,c6,c7,c8,c9,rfl⟩:=BO h;have r1:ef [c0,c1,c2,c3]=1000*((c0:Int)-48)+100*((c1:Int)-48)+10*((c2:Int)-48)+((c3:Int)-48):=by simp[ef];omega
 have r2:ef [c5,c6]=10*((c5:Int)-48)+((c6:Int)-48):=by simp[ef];omega
 have r3:ef [c8,c9]=10*((c8:Int)-48)+((c9:Int)-48):=by simp[ef];omega
 have hk:df [c0,c1,c2,c3,c4,c5,c6,c7,c8,c9]=(decide (c4=45)&&decide (c7=45)&&fZ (er [c0,c1,c2,c3]) (er [c5,c6]) (er [c8,c9])):=by
  unfold df;simp
 have hz:eZ [c0,c1,c2,c3,c4,c5,c6,c7,c8,c9]=if df [c0,c1,c2,c3,c4,c5,c6,c7,c8,c9]=true then fF (er [c0,c1,c2,c3]) (er [c5,c6]) (er [c8,c9]) else 0:=rfl;show(_↔(fZ (ef [c0,c1,c2,c3]) (ef [c5,c6]) (ef [c8,c9])=true∧fW (ef [c0,c1,c2,c3]).toNat (ef [c5,c6]).toNat (ef [c8,c9]).toNat=_))∧(_→_=fF (ef [c0,c1,c2,c3]) (ef [c5,c6]) (ef [c8,c9]));rw[hz,hk]
 have key:(decide (c4=45)&&decide (c7=45)&&fZ (er [c0,c1,c2,c3]) (er [c5,c6]) (er [c8,c9]))=true→er [c0,c1,c2,c3]=ef [c0,c1,c2,c3]∧er [c5,c6]=ef [c5,c6]∧er [c8,c9]=ef [c8,c9]∧fW (ef [c0,c1,c2,c3]).toNat (ef [c5,c6]).toNat (ef [c8,c9]).toNat=[c0,c1,c2,c3,c4,c5,c6,c7,c8,c9]:=by
  intro hd;simp at hd;obtain⟨⟨h4,h7⟩,ho⟩:=hd;have hb:=nU ho;rw[yp,pK,pK] at hb⊢;rw[r1,r2,r3];split at hb
  ·rename_i d1
   split at hb
   ·rename_i d2
    split at hb
    ·rename_i d3
     rw[if_pos d1,if_pos d2,if_pos d3];refine⟨rfl,rfl,rfl,?_⟩;unfold fW fe fe fe fe fe;simp;refine⟨?_,?_,?_,?_,?_,?_,?_,?_,?_,?_⟩<;>omega
    ·omega
   ·omega
  ·omega
 refine⟨⟨fun hd=> ?_,fun hd=> ?_⟩,fun hd=> ?_⟩
 ·obtain⟨k1,k2,k3,k4⟩:=key hd
  simp at hd;rw[k1,k2,k3] at hd;exact⟨hd.2,k4⟩
 ·obtain⟨ho,hp⟩:=hd
  have hb:=nU ho
  generalize ef [c0,c1,c2,c3]=Y at *
  generalize ef [c5,c6]=M at *
  generalize ef [c8,c9]=D at *
  unfold fW fe fe fe fe fe at hp;simp at hp;obtain⟨p0,p1,p2,p3,p4,p5,p6,p7,p8,p9⟩:=hp;have e1:er [c0,c1,c2,c3]=Y:=by rw[yp,if_pos (by omega)];omega
  have e2:er [c5,c6]=M:=by rw[pK,if_pos (by omega)];omega
  have e3:er [c8,c9]=D:=by rw[pK,if_pos (by omega)];omega
  rw[e1,e2,e3,ho];simp;omega
 ·obtain⟨k1,k2,k3,-⟩:=key hd
  rw[if_pos hd,k1,k2,k3]
def fX (y:Nat):Nat:=365*y+y/4-y/100+y/400
def iA (e:Nat):Nat:=(e-e/1460+e/36524-e/146096)/365
theorem zV (e:Nat)(h:e+1≤146096):e-e/1460+e/36524-e/146096≤(e+1)-(e+1)/1460+(e+1)/36524-(e+1)/146096:=by omega
theorem zR (k:Nat):∀e,e+k≤146096→e-e/1460+e/36524-e/146096≤(e+k)-(e+k)/1460+(e+k)/36524-(e+k)/146096:=by
 induction k with
 |zero=>intro e _;exact Nat.le_refl _
 |succ k ih=>intro e h;exact Nat.le_trans (ih e (by omega)) (zV (e+k) (by omega))
theorem tb {e e':Nat}(h:e≤e')(h1:e'≤146096):iA e≤iA e':=by
 obtain⟨k,rfl⟩:∃k,e'=e+k:=⟨e'-e,by omega⟩;exact Nat.div_le_div_right (zR k e h1)
def FU (y:Nat):Bool:=Nat.beq (iA (fX y)) y&&Nat.beq (iA (fX (y+1)-1)) y&&Nat.blt (fX y) (fX (y+1))&&Nat.ble (fX (y+1)) 146097
theorem BU:((List.range 20).all fun a=>(List.range 20).all fun b=>FU (20*a+b))=true:=by decide+kernel
theorem xW (y:Nat)(h:y<400):iA (fX y)=y∧iA (fX (y+1)-1)=y∧fX y<fX (y+1)∧fX (y+1)≤146097:=by
 have h1:=List.all_eq_true.1 (List.all_eq_true.1 BU (y/20) (List.mem_range.2 (by omega))) (y%20) (List.mem_range.2 (by omega));rw[show 20*(y/20)+y%20=y by omega] at h1;unfold FU at h1;simp only[Bool.and_eq_true] at h1;obtain⟨⟨⟨a,b⟩,c⟩,d⟩:=h1;exact⟨Nat.eq_of_beq_eq_true a,Nat.eq_of_beq_eq_true b,Nat.le_of_ble_eq_true c,Nat.le_of_ble_eq_true d⟩
theorem zH:fX 400=146097:=by decide+kernel
theorem BP (e:Nat)(h:e<146097):∃y,y<400∧fX y≤e∧e<fX (y+1):=by
 have key:∀k,k≤400→e<fX k→∃y,y<400∧fX y≤e∧e<fX (y+1):=by
  intro k
  induction k with
  |zero=>intro _ h;exact absurd h (Nat.not_lt_zero _)
  |succ k ih=>
   intro hk he;rcases Nat.lt_or_ge e (fX k) with h1|h1
   ·exact ih (by omega) h1
   ·exact⟨k,by omega,h1,he⟩
 exact key 400 (Nat.le_refl _) (by rw[zH];exact h)
theorem wu (e:Nat)(h:e<146097):iA e<400∧fX (iA e)≤e∧e<fX (iA e+1):=by
 obtain⟨y,h1,h2,h3⟩:=BP e h;obtain⟨t1,t2,t3,t4⟩:=xW y h1;have a:=tb h2 (by omega);have b:=tb (e:=e) (e':=fX (y+1)-1) (by omega) (by omega);have:iA e=y:=by omega
 rw[this];exact⟨h1,h2,h3⟩
def ER (m:Nat):Nat:=[31,30,31,30,31,31,30,31,30,31,31,29].getD m 0
def FG (t:Nat):Bool:=Nat.ble ((5*t+2)/153) 11&&Nat.ble ((153*((5*t+2)/153)+2)/5) t&&Nat.blt (t-(153*((5*t+2)/153)+2)/5) (ER ((5*t+2)/153))&&(!(Nat.beq (t-(153*((5*t+2)/153)+2)/5) 28&&Nat.beq ((5*t+2)/153) 11)||Nat.beq t 365)
theorem BN:((List.range 19).all fun a=>(List.range 20).all fun b=>Nat.ble 366 (20*a+b)||FG (20*a+b))=true:=by decide+kernel
theorem oX (t:Nat)(h:t<366):(5*t+2)/153≤11∧(153*((5*t+2)/153)+2)/5≤t∧t-(153*((5*t+2)/153)+2)/5<ER ((5*t+2)/153)∧(t-(153*((5*t+2)/153)+2)/5=28→(5*t+2)/153=11→t=365):=by
 have h1:=List.all_eq_true.1 (List.all_eq_true.1 BN (t/20) (List.mem_range.2 (by omega))) (t%20) (List.mem_range.2 (by omega));rw[show 20*(t/20)+t%20=t by omega] at h1
 have h0:Nat.ble 366 t=false:=by
  cases hb:Nat.ble 366 t with
  |false=>rfl
  |true=>have:=Nat.le_of_ble_eq_true hb;omega
 rw[h0,Bool.false_or] at h1;unfold FG at h1;simp only[Bool.and_eq_true] at h1;obtain⟨⟨⟨a,b⟩,c⟩,d⟩:=h1;refine⟨Nat.le_of_ble_eq_true a,Nat.le_of_ble_eq_true b,Nat.le_of_ble_eq_true c,fun e1 e2=> ?_⟩;rw[e1,e2] at d;exact Nat.eq_of_beq_eq_true (by simpa using d)
theorem wT (q y:Nat)(h:iZ ((y:Int)+1)=true):iZ (((q*400+y:Nat):Int)+1)=true:=by
 rw[me] at *;omega
theorem Cg (q y:Nat)(h:y<400)(mm d:Int):(((q*400+y:Nat):Int))/400*146097+(((q*400+y:Nat):Int)%400*365+((q*400+y:Nat):Int)%400/4-((q*400+y:Nat):Int)%400/100+((153*mm+2)/5+d-1))-719468=q*146097+((y:Int)*365+y/4-y/100)+((153*mm+2)/5+d-1)-719468:=by
 have a1:(((q*400+y:Nat):Int))/400=q:=by omega
 have a2:((q*400+y:Nat):Int)%400=y:=by omega
 rw[a1,a2];omega
theorem sV (y:Nat):fX (y+1)-fX y≤366∧(fX (y+1)-fX y=366→iZ ((y:Int)+1)=true):=by
 unfold fX;refine⟨by omega,fun h=> ?_⟩;rw[me];omega
theorem uN (y:Nat)(h:y<400):(fX y:Int)=(y:Int)*365+y/4-y/100:=by unfold fX;omega
theorem Be (n q e y t m d:Nat)(hn:n+719468=q*146097+e)(h1:y<400)(h2:fX y≤e)(h3:e<fX (y+1))(ht:t=e-fX y)(hm:m=(5*t+2)/153)(hd:d=t-(153*m+2)/5+1):
  fF (if 10≤m then q*400+y+1 else q*400+y:Nat) (if 10≤m then m-9 else m+3:Nat) d=n∧1≤(if 10≤m then m-9 else m+3)∧(if 10≤m then m-9 else m+3)≤12∧1≤d∧(d:Int)≤bP (if 10≤m then q*400+y+1 else q*400+y:Nat) (if 10≤m then m-9 else m+3:Nat):=by
 obtain⟨l1,l2⟩:=sV y;have hlp:t=365→iZ (((q*400+y:Nat):Int)+1)=true:=fun h=>wT q y (l2 (by omega));have hi:=uN y h1;have hsh:=Cg q y h1;obtain⟨m1,m2,m3,m4⟩:=oX t (by omega);rw[←hm] at m1 m2 m3 m4
 have hzz:∀mm:Int,mm=m→(q:Int)*146097+((y:Int)*365+y/4-y/100)+((153*mm+2)/5+(d:Int)-1)-719468=n:=by
  rintro mm rfl;rw[←hi];omega
 clear hi l1 l2 h2 h3 hn;obtain⟨yy,hyy⟩:∃yy,yy=q*400+y:=⟨_,rfl⟩;rw[←hyy] at hlp hsh⊢;clear hyy
 by_cases hm10:10≤m
 ·simp only[hm10,if_true]
  refine⟨?_,by omega,by omega,by omega,?_⟩
  ·unfold fF so ofM
   rw[if_pos (by omega),if_pos (by omega),show(((yy+1:Nat):Int)-1)=(yy:Int) by omega,hsh];exact hzz _ (by omega)
  ·have:m=10∨m=11:=by omega
   rcases this with rfl|rfl
   ·replace m3:t-(153*10+2)/5<31:=m3
    unfold bP;simp;omega
   ·replace m3:t-(153*11+2)/5<29:=m3
    unfold bP;simp;split
    ·omega
    ·rename_i hl
     have:t≠365:=fun h=>hl (hlp h);omega
 ·simp only[hm10,if_false]
  refine⟨?_,by omega,by omega,by omega,?_⟩
  ·unfold fF so ofM
   rw[if_neg (by omega),if_neg (by omega),hsh];exact hzz _ (by omega)
  ·have:m=0∨m=1∨m=2∨m=3∨m=4∨m=5∨m=6∨m=7∨m=8∨m=9:=by omega
   clear hzz hsh hlp hm10 m1 m4;rcases this with rfl|rfl|rfl|rfl|rfl|rfl|rfl|rfl|rfl|rfl<;>(simp[ER] at m3;unfold bP;simp;omega)
def yT (e:Nat):Nat:=e-fX (iA e)
def mT (e:Nat):Nat:=(5*yT e+2)/153
def dT (e:Nat):Nat:=yT e-(153*mT e+2)/5+1
def cY (q e:Nat):Nat:=if 10≤mT e then q*400+iA e+1 else q*400+iA e
def cM (e:Nat):Nat:=if 10≤mT e then mT e-9 else mT e+3
theorem B8 (n q e:Nat)(hn:n+719468=q*146097+e)(he:e<146097):fF (cY q e) (cM e) (dT e)=n∧1≤cM e∧cM e≤12∧1≤dT e∧(dT e:Int)≤bP (cY q e) (cM e):=by
 obtain⟨h1,h2,h3⟩:=wu _ he;have:=Be n q e (iA e) (yT e) (mT e) (dT e) hn h1 h2 h3 rfl rfl rfl;unfold cY cM;exact this
theorem yq (n:Nat)(y m d:Nat)(h:n≤2932896)(hz:fF y m d=n)(h2:1≤m)(h3:m≤12)(h4:1≤d)(h5:(d:Int)≤bP y m):fZ y m d=true:=by
 have hday:=tH (y:Int) (m:Int) (d:Int)
 have hlo:(1970:Int)≤y:=by
  rcases Int.lt_or_le (y:Int) 1970 with hlt|hge
  ·exfalso
   have h6:=gS (y:=(y:Int)+1) (y':=1970) (by omega);have hs:=lF;have hdec:=xu (y:Int);rcases Nat.lt_or_ge m 12 with hm12|hm12
   ·have hmn:=jZ (y:Int) (m:Int) (by omega) (by omega)
    have hm2:=gQ (y:=(y:Int)) (m:=(m:Int)+1) (m':=12) (by omega) (by omega) (by omega);omega
   ·have h12:(m:Int)=12:=by omega
    rw[h12] at hday h5 hz;have:bP (y:Int) 12=31:=by unfold bP;simp
    omega
  ·exact hge
 have hhi:(y:Int)≤9999:=by
  rcases Int.lt_or_le 9999 (y:Int) with hlt|hge
  ·exfalso
   have h6:=gS (y:=10000) (y':=(y:Int)) (by omega);have hs:=tQ;have hm:=gQ (y:=(y:Int)) (m:=1) (m':=(m:Int)) (by omega) (by omega) (by omega);omega
  ·exact hge
 unfold fZ;simp only[Bool.and_eq_true,decide_eq_true_eq];exact⟨⟨⟨hlo,hhi⟩,by omega⟩,h5⟩
def r7 (n:Nat):List Nat:=fW (cY ((n+719468)/146097) ((n+719468)%146097)) (cM ((n+719468)%146097)) (dT ((n+719468)%146097))
theorem yf (n q e:Nat)(hq:(n+719468)/146097=q)(he:(n+719468)%146097=e):r7 n=fW (cY q e) (cM e) (dT e):=by subst hq he;rfl
theorem jq (y:Int)(w:World)(h0:0≤y)(h1:y≤100000):Calls Tryz.prog 193 #[.int .i64 y] w fun e w'=>e= .returned (.bool (iZ y))∧Grow w w':=by
 have ab:=Below.refl w.heap.size w;refine Zs 16 Tryz.func193 ?_;refine aj ?_;refine Za ?_;refine dF 0 2 (aB ?_);refine Zm ?_;refine Zv (aa.iR rfl rfl rfl (by omega) (by omega)) ?_;refine bC ?_;refine Zm ?_;refine aw.start ?_;refine bw (fun hcx=>aa.move rfl rfl) ?_;refine Zn (fun hcx=>aa.iR rfl rfl rfl (by omega) (by omega)) ?_;refine Zn (fun hcx=>aa.fh rfl rfl rfl) ?_;refine gq ?_;refine bw (fun hcx=>aa.move rfl rfl) ?_;refine Zn (fun hcx=>aa.iR rfl rfl rfl (by omega) (by omega)) ?_;refine Zn (fun hcx=>aa.cW rfl rfl rfl) ?_;refine aw.mF rfl rfl rfl rfl rfl rfl rfl rfl rfl rfl rfl ?_;refine fg ?_;refine Za ?_;refine dF 0 2 (Zt (Cd.ret ?_));refine aZ ?_;refine⟨bt (aJ ?_),ab⟩;rw[Bool.eq_iff_iff,me];simp;omega
theorem jm (y m:Int)(w:World)(h0:0≤y)(h1:y≤100000)(hm:bm m):Calls Tryz.prog 194 #[.int .i64 y, .int .i64 m] w fun e w'=>e= .returned (.int .i64 (bP y m))∧Grow w w':=by
 have ab:=Below.refl w.heap.size w;have hm1:=hm.1;have hm2:=hm.2;refine Zs 24 Tryz.func194 ?_;refine aj ?_;refine Za ?_;refine bn 0 1 4 (aI (aj ?_));refine Zm ?_;refine eI ?_;refine Zm ?_;refine aw.start ?_;refine bw (fun hcx=>aa.move rfl rfl) ?_;refine Zn (fun hcx=>aa.gtr rfl rfl rfl) ?_;refine fg ?_;refine aQ 0 1 4 11 (Zt ?_);refine Cd.cond rfl (fun h=> ?_) (fun h=> ?_)
 ·skip
  refine aj ?_;refine Za ?_;refine aQ 0 1 4 11 (Zt (Cd.ret (ae.af ?_)));refine aZ ?_;refine⟨bt (int_eq ?_),ab⟩;simp at h;unfold bP;rw[if_neg (by omega),if_neg (by omega),if_neg (by omega)]
 ·have hm3:1≤m∧m≤12:=by simp at h;omega
  clear h;refine Cd.skip (aB ?_);refine Seq.slice (vs:=[_,_,_,_,_,_,_,_,_,_,_,_]) (s:=1) rfl rfl rfl Tryz.underlying96 (by kernel_rfl) (hH) (by omega) (by omega) ⟨rfl,rfl,rfl,rfl,rfl,rfl,rfl,rfl,rfl,rfl,rfl,rfl,trivial⟩ rfl rfl rfl ?_;intro g12 w1 n12;have e12:=Nat.le_trans ab.size n12.ge;replace ab:=ab.step n12.below;have k12:=n12.an;refine Za ?_;refine aO 0 1 4 5 11 (aI (aj ?_));refine Zm ?_;refine bC ?_;refine Zm ?_;refine aw.start ?_;refine bw (fun hcx=>aa.move rfl rfl) ?_;refine aw.bU rfl rfl rfl rfl rfl rfl rfl (fun hcx=>Ze Tryz.func193) (fun hcx=>jq y _ h0 h1) ?_;intro w2 hw2;replace ab:=ab.step hw2;replace k12:=k12.step hw2;refine fQ ?_;refine aY 0 1 4 5 11 18 (Zt ?_);refine Cd.cond rfl (fun h=> ?_) (fun h=> ?_)
  ·simp at h
   refine aj ?_;refine Za ?_;refine aY 0 1 4 5 11 18 (Zt (Cd.ret (ae.af ?_)));refine aZ ?_;refine⟨bt (int_eq ?_),ab⟩;unfold bP;rw[if_pos h.1,if_pos h.2]
  ·simp at h
   refine Cd.skip (aB ?_);refine Zm ?_;refine Zm ?_;refine mC ?_;have hj:0≤m-1∧m-1<12:=by omega
   have hv:(#[(.int .i64 31:Value), .int .i64 28, .int .i64 31, .int .i64 30, .int .i64 31, .int .i64 30, .int .i64 31, .int .i64 31, .int .i64 30, .int .i64 31, .int .i64 30, .int .i64 31]:Array Value)[(m-1).toNat]? =some (.int .i64 (bP y m)):=by
    rcases(show m=1∨m=2∨m=3∨m=4∨m=5∨m=6∨m=7∨m=8∨m=9∨m=10∨m=11∨m=12 by omega) with rfl|rfl|rfl|rfl|rfl|rfl|rfl|rfl|rfl|rfl|rfl|rfl
    case inr.inl=>unfold bP;rw[if_pos rfl,h rfl];rfl
    all_goals rfl
   refine Zv (aa.dS rfl rfl rfl Tryz.underlying96 (by kernel_rfl) (j:=(m-1).toNat) (by omega) (by omega)) ?_;refine Zv (aa.au rfl rfl Tryz.underlying3 rfl k12 hv) ?_;refine Za ?_;refine aY 0 1 4 5 11 18 (Zt (Cd.ret ?_));refine aZ ?_;exact⟨rfl,ab⟩
theorem tG (y m d:Int)(w:World)(hy:bm y)(hm:bm m)(hd:bm d):Calls Tryz.prog 197 #[.int .i64 y, .int .i64 m, .int .i64 d] w fun e w'=>e= .returned (.int .i64 (if fZ y m d then fF y m d else -1))∧Grow w w':=by
 have ab:=Below.refl w.heap.size w;have hy1:=hy.1;have hy2:=hy.2;have hm1:=hm.1;have hm2:=hm.2;have hd1:=hd.1;have hd2:=hd.2;have hok:= @nv y m d;have hdef:fZ y m d=(decide (1970≤y)&&decide (y≤9999)&&decide (1≤d)&&decide (d≤bP y m)):=rfl;have hdm:= @ma y m;refine Zs 60 Tryz.func197 ?_;refine aj ?_;refine Za ?_;refine aQ 0 1 2 6 (aI (aj ?_));refine Zm ?_;refine eI ?_;refine Zm ?_;refine aw.start ?_;refine bw (fun hcx=>aa.move rfl rfl) ?_;refine Zn (fun hcx=>aa.gtr rfl rfl rfl) ?_;refine fg ?_;refine Zm ?_;refine aw.start ?_;refine bw (fun hcx=>aa.move rfl rfl) ?_;refine Zn (fun hcx=>aa.lss rfl rfl rfl) ?_;refine fg ?_;refine Zm ?_;refine aw.start ?_;refine bw (fun hcx=>aa.move rfl rfl) ?_;refine Zn (fun hcx=>aa.gtr rfl rfl rfl) ?_;refine fg ?_;refine Zm ?_;refine aw.start ?_;refine bw (fun hcx=>aa.move rfl rfl) ?_;refine Zn (fun hcx=>aa.lss rfl rfl rfl) ?_;refine fg ?_;refine Zm ?_;refine aw.start ?_;refine bw (fun hcx=>aa.move rfl rfl) ?_;refine gq ?_;refine gq ?_;refine aw.bU rfl rfl rfl rfl rfl rfl rfl (fun hcx=>Ze Tryz.func194) (fun hcx=>jm y m _ (by simp at hcx;omega) (by simp at hcx;omega) hm) ?_;intro w1 hw1;replace ab:=ab.step hw1;refine Zn (fun hcx=>aa.gtr rfl rfl rfl) ?_;refine fg ?_;refine aO 0 1 2 6 34 (Zt ?_);refine Cd.cond rfl (fun h=> ?_) (fun h=> ?_)
 ·have hno:fZ y m d=false:=by
   rw[hdef,Bool.eq_false_iff];intro h2;simp at h2 h;have:=hdm (by omega);omega
  refine aj ?_;refine Za ?_;refine aO 0 1 2 6 34 (Zt (Cd.ret (ae.af ?_)));refine aZ ?_;exact⟨bt (int_eq (by rw[hno];rfl)),ab⟩
 have hyes:fZ y m d=true:=by
  rw[hdef];simp at h⊢;omega
 obtain⟨o1,o2,o3,o4,o5,o6,o7,o8,o9,o10⟩:=hok hyes;clear h hok hdef hdm;rw[hyes,if_pos rfl];refine Cd.skip (aB ?_);refine Za ?_;refine aY 0 1 2 6 7 34 (aI (aj ?_));refine Za ?_;refine ba 0 1 2 6 7 8 34 (Zt (Cd.block ?_))
 refine Cd.loop (σ:=Nat) (fun k=>[(0, .int .i64 y),(1, .int .i64 m),(2, .int .i64 d),(7, .int .i64 (fF (1970+k) 1 1)),(8, .int .i64 (1970+k))])
  (fun k wr=>1970+(k:Int)≤y∧Below w.heap.size w wr) (fun k=>(y-1970-k).toNat) 0 ⟨by simp;omega,ab⟩ ⟨rfl,rfl,rfl,congrArg (fun x:Int=>some (Value.int .i64 x)) (show(0:Int)=fF (1970+((0:Nat):Int)) 1 1 by rfl),rfl,trivial⟩ ?_
 clear ab;rintro k wr ⟨hk,ab⟩;refine Cd.seq (aj ?_);refine Zm ?_;refine Zm ?_;refine eI ?_;refine aY 0 1 2 7 8 37 (Zt ?_);refine Cd.ak rfl (fun hc=> ?_) (fun hc=> ?_)
 ·have h1:=pW (1970+k)
  have h2:=gS (y:=1970) (y':=1970+(k:Int)) (by omega);have h3:=gS (y:=1970+(k:Int)+1) (y':=10000) (by omega);have h4:=ta (1970+(k:Int));rw[lF] at h2;rw[tQ] at h3;have h5:qk (1970+(k:Int))=if iZ (1970+(k:Int)) then 366 else 365:=rfl;have hnx:(1970:Int)+((k+1:Nat):Int)=1970+(k:Int)+1:=by omega
  generalize hY:1970+(k:Int)=Y at *
  refine Cd.skip (aI (Cd.block (aj ?_)));refine Zm ?_;refine cG ?_;refine Za ?_;refine aY 0 1 2 7 8 37 (aB ?_);refine Zm ?_;refine Zc (Ze Tryz.func193) (jq Y _ (by omega) (by omega)) ?_;rintro e w5 ⟨rfl,hb5⟩;refine⟨_,rfl,?_⟩;replace ab:=ab.step hb5;refine ba 0 1 2 7 8 37 43 (Zt ?_);refine Cd.cond rfl (fun h=> ?_) (fun h=> ?_)
  ·rw[h,if_pos rfl] at h5
   refine Zr ?_;refine Zm ?_;refine cG ?_;refine Za ?_;refine ba 0 1 2 7 8 37 43 (ae.ah (eh ?_));refine Zm ?_;refine cG ?_;refine Za ?_;refine ba 0 1 2 7 8 37 43 ?_;exact ae.round (k+1) ⟨rfl,rfl,rfl,congrArg (fun x:Int=>some (Value.int .i64 x)) (by rw[hnx];omega),congrArg (fun x:Int=>some (Value.int .i64 x)) hnx.symm,trivial⟩ ⟨by omega,ab⟩ (by omega)
  ·rw[h,if_neg (by simp)] at h5
   refine Cd.skip (ae.ah (eh ?_));refine Zm ?_;refine cG ?_;refine Za ?_;refine ba 0 1 2 7 8 37 43 ?_;exact ae.round (k+1) ⟨rfl,rfl,rfl,congrArg (fun x:Int=>some (Value.int .i64 x)) (by rw[hnx];omega),congrArg (fun x:Int=>some (Value.int .i64 x)) hnx.symm,trivial⟩ ⟨by omega,ab⟩ (by omega)
 have hke:1970+(k:Int)=y:=by omega
 rw[hke];clear hk;refine Cd.exit (ae.aC (ae.aA (ae.ay (aI (aj ?_)))));refine Za ?_;refine ba 0 1 2 7 8 9 37 (Zt (Cd.block ?_))
 refine Cd.loop (σ:=Nat) (fun j=>[(0, .int .i64 y),(1, .int .i64 m),(2, .int .i64 d),(7, .int .i64 (fF y (1+j) 1)),(9, .int .i64 (1+j))])
  (fun j wr=>1+(j:Int)≤m∧Below w.heap.size w wr) (fun j=>(m-1-j).toNat) 0 ⟨by simp;omega,ab⟩ ⟨rfl,rfl,rfl,rfl,rfl,trivial⟩ ?_
 clear ab;rintro j wr2 ⟨hj,ab⟩;refine Cd.seq (aj ?_);refine Zm ?_;refine Zm ?_;refine eI ?_;refine aY 0 1 2 7 9 48 (Zt ?_);have b1:=gQ (y:=y) (m:=1) (m':=1+(j:Int)) (by omega) (by omega) (by omega);have b2:=gQ (y:=y) (m:=1+(j:Int)) (m':=m) (by omega) (by omega) (by omega);have b3:=gS (y:=1970) (y':=y) (by omega);have b4:=tH y m d;rw[lF] at b3;refine Cd.ak rfl (fun hc=> ?_) (fun hc=> ?_)
 ·have h1:=jZ y (1+(j:Int)) (by omega) (by omega)
  have h2:=gQ (y:=y) (m:=1+(j:Int)+1) (m':=m) (by omega) (by omega) (by omega);have h3:=oe y (1+(j:Int));have hnx:(1:Int)+((j+1:Nat):Int)=1+(j:Int)+1:=by omega
  generalize hM:1+(j:Int)=M at *
  refine Cd.skip (aI (Cd.block (Zr ?_)));refine Zm ?_;refine Zm ?_;refine Zm ?_;refine Zc (Ze Tryz.func194) (jm y M _ (by omega) (by omega) ⟨by omega,by omega⟩) ?_;rintro e w5 ⟨rfl,hb5⟩;refine⟨_,rfl,?_⟩;replace ab:=ab.step hb5;refine cG ?_;refine Za ?_;refine aY 0 1 2 7 9 48 (ae.ah (eh ?_));refine Zm ?_;refine cG ?_;refine Za ?_;refine aY 0 1 2 7 9 48 ?_;exact ae.round (j+1) ⟨rfl,rfl,rfl,congrArg (fun x:Int=>some (Value.int .i64 x)) (by rw[hnx];omega),congrArg (fun x:Int=>some (Value.int .i64 x)) hnx.symm,trivial⟩ ⟨by omega,ab⟩ (by omega)
 ·have hje:1+(j:Int)=m:=by omega
  rw[hje] at b1 b2⊢;refine Cd.exit (ae.aC (ae.aA (ae.ay (aB ?_))));refine Zm ?_;refine Zm ?_;refine cG ?_;refine mC ?_;refine Za ?_;refine ba 0 1 2 6 7 9 48 (Zt (Cd.ret ?_));refine aZ ?_;exact⟨bt (int_eq (by omega)),ab⟩
theorem tT (y m d:Int)(w:World)(hok:fZ y m d=true):Calls Tryz.prog 148 #[.int .i64 (fF y m d)] w fun e w'=>e= .returned (.tuple #[.int .i64 y, .int .i64 m, .int .i64 d])∧Grow w w':=by
 have ab:=Below.refl w.heap.size w;obtain⟨o1,o2,o3,o4,o5,o6,o7,o8,o9,o10⟩:=nv hok;obtain⟨-,-,o11⟩:=ma (y:=y) (m:=m) (by omega);have hst:=lF;have hda:=tH y m d;have ha1:=gQ (y:=y) (m:=1) (m':=m) (by omega) (by omega) (by omega)
 generalize hn:fF y m d=n at *
 refine Zs 48 Tryz.func148 ?_;refine aj ?_;refine Za ?_;refine Za ?_;refine Za ?_;refine aQ 0 2 3 4 (aI (aj ?_));refine Zm ?_;refine eI ?_;refine Zm ?_;refine aw.start ?_;refine bw (fun hcx=>aa.move rfl rfl) ?_;refine Zn (fun hcx=>aa.gtr rfl rfl rfl) ?_;refine fg ?_;refine aO 0 2 3 4 12 (Zt ?_);refine Cd.aM rfl (by simp;omega) ?_;refine Cd.skip (aB ?_);refine Za ?_;refine aY 0 2 3 4 5 12 (aI (Cd.block ?_))
 refine Cd.loop (σ:=Nat) (fun k=>[(0, .int .i64 (n-fF (1970+k) 1 1)),(5, .int .i64 (1970+k))])
  (fun k wr=>1970+(k:Int)≤y∧Below w.heap.size w wr) (fun k=>(y-1970-k).toNat) 0 ⟨by simp;omega,ab⟩ ⟨congrArg (fun x:Int=>some (Value.int .i64 x)) (show n=n-fF (1970+((0:Nat):Int)) 1 1 by show n=n-fF 1970 1 1;omega),rfl,trivial⟩ ?_
 clear ab;rintro k wr ⟨hk,ab⟩;have h1:=pW (1970+k);have h2:=gS (y:=1970) (y':=1970+(k:Int)) (by omega);have h3:=gS (y:=1970+(k:Int)) (y':=y) hk;have h4:1970+(k:Int)<y→fF (1970+(k:Int)+1) 1 1≤fF y 1 1:=fun h=>gS (y:=1970+(k:Int)+1) (y':=y) (by omega);have h5:qk (1970+(k:Int))=if iZ (1970+(k:Int)) then 366 else 365:=rfl;have hnx:(1970:Int)+((k+1:Nat):Int)=1970+(k:Int)+1:=by omega
 have h6:(1970+(k:Int)<y)∨(1970+(k:Int)=y):=by omega
 rw[hst] at h2
 generalize hY:1970+(k:Int)=Y at *
 refine Cd.seq (aj ?_);refine Zm ?_;refine kZ ?_;refine Zm ?_;refine aw.start ?_;refine bw (fun hcx=>aa.move rfl rfl) ?_;refine Zn (fun hcx=>aa.geq rfl rfl rfl) ?_;refine gq ?_;refine bw (fun hcx=>aa.move rfl rfl) ?_;refine aw.bU rfl rfl rfl rfl rfl rfl rfl (fun hcx=>Ze Tryz.func193) (fun hcx=>jq Y _ (by omega) (by omega)) ?_;intro w1 hw1;replace ab:=ab.step hw1;refine Zn (fun hcx=>aa.not rfl rfl) ?_;refine aw.zm rfl rfl rfl rfl rfl rfl rfl rfl rfl rfl rfl ?_;refine fQ ?_;refine bn 0 5 23 (Zt ?_);refine Cd.cond rfl (fun h=> ?_) (fun h=> ?_)
 ·have hlt:Y<y:=by
   rcases h6 with h6|h6
   ·exact h6
   ·exfalso
    subst h6;simp at h
    cases hl:iZ Y<;>rw[hl] at h h5<;>simp at h h5<;>omega
  have h7:=h4 hlt;refine Cd.skip (Zt (Cd.block (aj ?_)));refine Zm ?_;refine mC ?_;refine Za ?_;refine bn 0 5 23 (aI (aj ?_));refine Zm ?_;refine Zc (Ze Tryz.func193) (jq Y _ (by omega) (by omega)) ?_;rintro e w5 ⟨rfl,hb5⟩;refine⟨_,rfl,?_⟩;replace ab:=ab.step hb5;refine aQ 0 5 23 27 (Zt ?_);refine Cd.cond rfl (fun hl=> ?_) (fun hl=> ?_)
  ·rw[hl,if_pos rfl] at h5
   refine Zr ?_;refine Zm ?_;refine mC ?_;refine Za ?_;refine aQ 0 5 23 27 (eh ?_);refine Zm ?_;refine cG ?_;refine Za ?_;refine aQ 0 5 23 27 (ae.ah ?_);exact ae.round (k+1) ⟨congrArg (fun x:Int=>some (Value.int .i64 x)) (by rw[hnx];omega),congrArg (fun x:Int=>some (Value.int .i64 x)) hnx.symm,trivial⟩ ⟨by omega,ab⟩ (by omega)
  ·rw[hl,if_neg (by simp)] at h5
   refine Cd.skip (eh ?_);refine Zm ?_;refine cG ?_;refine Za ?_;refine aQ 0 5 23 27 (ae.ah ?_);exact ae.round (k+1) ⟨congrArg (fun x:Int=>some (Value.int .i64 x)) (by rw[hnx];omega),congrArg (fun x:Int=>some (Value.int .i64 x)) hnx.symm,trivial⟩ ⟨by omega,ab⟩ (by omega)
 have hke:Y=y:=by
  rcases h6 with h6|h6
  ·exfalso
   have h7:=h4 h6;simp at h
   cases hl:iZ Y<;>rw[hl] at h h5<;>simp at h h5<;>omega
  ·exact h6
 subst hke;clear hk h6 h4;refine Cd.exit (ae.aC (ae.aA (ae.ay (aB ?_))));refine Za ?_;refine aQ 0 5 6 23 (aI (Cd.block ?_))
 refine Cd.loop (σ:=Nat) (fun j=>[(0, .int .i64 (n-fF Y (1+j) 1)),(5, .int .i64 Y),(6, .int .i64 (1+j))])
  (fun j wr=>1+(j:Int)≤m∧Below w.heap.size w wr) (fun j=>(m-1-j).toNat) 0 ⟨by simp;omega,ab⟩ ⟨rfl,rfl,rfl,trivial⟩ ?_
 clear ab;rintro j wr2 ⟨hj,ab⟩;have b1:=gQ (y:=Y) (m:=1) (m':=1+(j:Int)) (by omega) (by omega) (by omega)
 have b2:1+(j:Int)<m→fF Y (1+(j:Int)) 1+bP Y (1+(j:Int))≤fF Y m 1:=fun h=>by
  have e:=jZ Y (1+(j:Int)) (by omega) (by omega);have:=gQ (y:=Y) (m:=1+(j:Int)+1) (m':=m) (by omega) (by omega) (by omega);omega
 have b3:1+(j:Int)<m→fF Y (1+(j:Int)+1) 1=fF Y (1+(j:Int)) 1+bP Y (1+(j:Int)):=fun h=>jZ Y (1+(j:Int)) (by omega) (by omega);have b5:1+(j:Int)<m∨1+(j:Int)=m:=by omega
 have b4:=oe Y (1+(j:Int));have hnx:(1:Int)+((j+1:Nat):Int)=1+(j:Int)+1:=by omega
 generalize hM:1+(j:Int)=M at *
 refine Cd.seq (aj ?_);refine Zm ?_;refine Zm ?_;refine Zm ?_;refine Zc (Ze Tryz.func194) (jm Y M _ (by omega) (by omega) ⟨by omega,by omega⟩) ?_;rintro e w5 ⟨rfl,hb5⟩;refine⟨_,rfl,?_⟩;replace ab:=ab.step hb5;refine kZ ?_;refine aQ 0 5 6 36 (Zt ?_);refine Cd.ak rfl (fun hc=> ?_) (fun hc=> ?_)
 ·have hlt:M<m:=by
   rcases b5 with h|h
   ·exact h
   ·exfalso;subst h;omega
  have b6:=b2 hlt;have b7:=b3 hlt;refine Cd.skip (Zt (Cd.block (aj ?_)));refine Zm ?_;refine Zm ?_;refine Zm ?_;refine Zc (Ze Tryz.func194) (jm Y M _ (by omega) (by omega) ⟨by omega,by omega⟩) ?_;rintro e w6 ⟨rfl,hb6⟩;refine⟨_,rfl,?_⟩;replace ab:=ab.step hb6;refine mC ?_;refine Za ?_;refine aQ 0 5 6 36 (eh ?_);refine Zm ?_;refine cG ?_;refine Za ?_;refine aQ 0 5 6 36 (ae.ah ?_);exact ae.round (j+1) ⟨congrArg (fun x:Int=>some (Value.int .i64 x)) (by rw[hnx,b7];omega),rfl,congrArg (fun x:Int=>some (Value.int .i64 x)) hnx.symm,trivial⟩ ⟨by omega,ab⟩ (by omega)
 ·obtain rfl:M=m:=by
   rcases b5 with h|h
   ·have:=b2 h;omega
   ·exact h
  refine Cd.exit (ae.aC (ae.aA (ae.ay (aB ?_))));refine Zm ?_;refine Zm ?_;refine Zm ?_;refine cG ?_;refine Za ?_;refine Za ?_;refine Za ?_;refine ba 0 2 3 4 5 6 36 (Zt (Cd.ret ?_));refine ae.nn rfl rfl rfl rfl (.inl rfl) ?_;exact⟨Gi rfl rfl (int_eq (by omega)),ab⟩
def val:List Nat→Nat
 | []=>0
 |d::l=>d+65536*val l
def bj (n:Nat):List Nat:=if n=0 then [] else n%65536::bj (n/65536)
termination_by n
decreasing_by omega
theorem eS:bj 0=[]:=by rw[bj];simp
theorem jI (n:Nat)(h:n≠0):bj n=n%65536::bj (n/65536):=by rw[bj,if_neg h]
theorem dC (n:Nat):val (bj n)=n:=by
 induction n using Nat.strongRecOn with
 |_ n ih=>
  by_cases h:n=0
  ·subst h;rw[eS];rfl
  ·rw[jI n h,val,ih _ (by omega)];omega
theorem gB (n:Nat):∀d∈bj n,d<65536:=by
 induction n using Nat.strongRecOn with
 |_ n ih=>
  by_cases h:n=0
  ·subst h;rw[eS];simp
  ·rw[jI n h]
   intro d hd;rcases List.mem_cons.1 hd with rfl|hd
   ·omega
   ·exact ih _ (by omega) d hd
theorem jv (n:Nat):(bj n).length=0↔n=0:=by
 by_cases h:n=0
 ·subst h;simp[eS]
 ·rw[jI n h];simp[h]
theorem Cj (l:List Nat)(h:∀d∈l,d<65536)(hl:∀k,l.length=k+1→l[k]? ≠some 0):bj (val l)=l:=by
 induction l with
 |nil=>exact eS
 |cons d l ih=>
  have hd:=h d (by simp);have ih:=ih (fun x hx=>h x (by simp[hx])) (fun k hk=>by have:=hl (k+1) (by simp[hk]);simpa using this)
  have hne:val (d::l)≠0:=by
   rw[val];intro h0;have hv:val l=0:=by omega
   rw[hv,eS] at ih;subst ih;have hd0:d=0:=by omega
   exact hl 0 rfl (by simp[hd0])
  rw[jI _ hne,val];have e1:(d+65536*val l)%65536=d:=by omega
  have e2:(d+65536*val l)/65536=val l:=by omega
  rw[e1,e2,ih]
theorem m5 (a b:List Nat):val (a++b)=val a+65536^a.length*val b:=by
 induction a with
 |nil=>simp[val]
 |cons d a ih=>
  rw[List.cons_append,val,val,ih,List.length_cons,Nat.pow_succ,Nat.mul_add,Nat.add_assoc,Nat.mul_comm (65536^a.length) 65536,Nat.mul_assoc]
theorem ib (a:List Nat)(d:Nat):val (a++[d])=val a+65536^a.length*d:=by rw[m5];simp[val]
theorem rJ (l:List Nat)(k:Nat)(h:l[k]? =some 0):val (l.take (k+1))=val (l.take k):=by
 rw[List.take_add_one,h];show val (_++[0])=_;rw[ib];simp
theorem oV (l:List Nat)(h:∀d∈l,d<65536):val l<65536^l.length:=by
 induction l with
 |nil=>simp[val]
 |cons d l ih=>
  have:=ih (fun x hx=>h x (by simp[hx]));have hd:=h d (by simp);rw[val,List.length_cons,Nat.pow_succ];omega
theorem ij (n k:Nat)(h:n<65536^k):(bj n).length≤k:=by
 induction k generalizing n with
 |zero=>obtain rfl:n=0:=by simpa using h
        simp[eS]
 |succ k ih=>
  by_cases h0:n=0
  ·subst h0;simp[eS]
  ·rw[jI n h0,List.length_cons]
   have:=ih (n/65536) (by rw[Nat.pow_succ] at h;omega);omega
theorem iP (n:Nat):n<65536^(bj n).length:=by
 have:=oV _ (gB n)
 rwa [dC] at this
theorem sD (l:List Nat)(k:Nat)(hd:∀d∈l,d<65536)(hk:k≤l.length)(hv:val (l.take k)=val l)(hl:∀j,k=j+1→l[j]? ≠some 0):bj (val l)=l.take k:=by
 rw[←hv];refine Cj _ (fun d h=>hd d (List.mem_of_mem_take h)) (fun j hj=> ?_);rw[List.length_take,Nat.min_eq_left hk] at hj;subst hj;have:=hl j rfl
 simpa[List.getElem?_take] using this
def U (l:List Nat):List Value:=l.map fun(d:Nat)=>Value.int .u64 (d:Int)
theorem qU (l:List Nat):(U l).length=l.length:=by simp[U]
theorem A6 (l:List Nat)(k:Nat):(U l)[k]? =l[k]?.map fun(d:Nat)=>Value.int .u64 (d:Int):=by simp[U]
theorem CM (a b:List Nat):U (a++b)=U a++U b:=by simp[U]
theorem EK (l:List Nat)(k:Nat):(U l).take k=U (l.take k):=by simp[U]
theorem Reads.B4 {w wr:World}{B B' n k:Nat}{A:Option Addr}{l:List Nat}(h:Reads w B 1 A n (U l))(hb:Below B' w wr)(hB:B≤B')(hk:k<n):
  ∃ad d,A=some ad∧ad.block<B∧l[k]? =some d∧wr.cell? (ad.add k)=some (.int .u64 (d:Int)):=by
 obtain⟨ad,u,e,hbl,hu,hc⟩:=h.at_ hk;rw[A6] at hu
 cases hl:l[k]? with
 |none=>rw[hl] at hu;cases hu
 |some d=>
  rw[hl] at hu;injection hu with hu
  exact⟨ad,d,e,hbl,rfl,by rw[hb.cell (by rw[av];omega),hc,←hu]⟩
theorem Reads.B3 {w:World}{B n:Nat}{A:Option Addr}{l:List Nat}(h:Reads w B 1 A n (U l)):l.length=n:=by have:=h.1;rw[qU] at this;omega
set_option maxHeartbeats 400000 in
theorem lA (B:Nat)(A:Option Addr)(n cap:Nat)(l:List Nat)(w:World)(hr:Reads w B 1 A n (U l))(hB:B≤w.heap.size)(hd:∀d∈l,d<65536)(hn:n≤1073741824)(hc:n≤cap):
  Calls Tryz.prog 227 #[.slice A n cap] w fun e w'=>e= .returned (.slice A (bj (val l)).length cap)∧w=w':=by
 go_enter Tryz.func227,Tryz.ntmps227
 go_wp2_with fail
 go_loopw [0] (fun u wr=>∃k:Nat,k≤n∧u= .slice A k cap∧val (l.take k)=val l∧w=wr) (fun u _=>match u with| .slice _ k _=>k|_=>0)
 case atStart=>exact⟨n,Nat.le_refl _,rfl,by rw[List.take_of_length_le (by rw[hr.B3];omega)],rfl⟩
 case round=>
  obtain⟨k,hk,rfl,hv,rfl⟩:=hrel;have hlen:=hr.B3;have Hd:=Lib.hid hd;have Hv:=Lib.hid hv;clear hd hv;rcases Nat.eq_zero_or_pos k with h0|h0
  ·subst h0
   have e:=sD l 0 Hd.out (by omega) Hv.out (by omega);have e2:=Lib.hid (congrArg List.length e);clear e
   go_wp2_with fail
   go_ret
   rw[e2.out];exact⟨rfl,rfl⟩
  ·obtain⟨j,rfl⟩:∃j,k=j+1:=⟨k-1,by omega⟩
   obtain⟨ad,d,rfl,hbl,hg,hcell⟩:=hr.B4 (Below.refl B w) (Nat.le_refl _) (show j<n by omega);have Hg:=Lib.hid hg;have ej:((j+1:Nat):Int)-1=(j:Int):=by omega
   clear hg
   by_cases hz:d=0
   ·subst hz
    have Hv2:=Lib.hid ((rJ l j Hg.out).symm.trans Hv.out)
    go_wp2_with fail
    go_roundw
    case rel=>exact⟨j,by omega,by go_num,Hv2.out,trivial⟩
    case measure=>simp
   ·have e:=sD l (j+1) Hd.out (by omega) Hv.out (fun i hi=>by obtain rfl:i=j:=by omega
                                                              rw[Hg.out];simpa using hz)
    have e2:=Lib.hid (congrArg List.length e);clear e
    go_wp2_with fail
    go_ret
    rw[e2.out,List.length_take,Nat.min_eq_left (by omega)];exact⟨rfl,rfl⟩
def dG (w:World)(v:Value)(n:Nat):Prop:=∃A c,v= .slice A (bj n).length c∧(bj n).length≤c∧c≤9223372036854775807∧Reads w w.heap.size 1 A (bj n).length (U (bj n))
def Ce (base:Nat)(v:Value):Prop:=match v with
 | .slice (some A) _ _=>base≤A.block
 |_=>True
theorem dG.step {w w':World}{v:Value}{n:Nat}(h:dG w v n)(hb:Below w.heap.size w w'):dG w' v n:=by
 obtain⟨A,c,e,h1,h2,h3⟩:=h;exact⟨A,c,e,h1,h2,(h3.below hb).more hb.size⟩
theorem oR (l:List Nat)(i d:Nat)(h:l[i]? =some d):val l=val (l.take i)+65536^i*(d+65536*val (l.drop (i+1))):=by
 obtain⟨hi,rfl⟩:=List.getElem?_eq_some_iff.1 h;have e:=m5 (l.take i) (l.drop i);rw[List.take_append_drop,List.length_take,Nat.min_eq_left (by omega)] at e;rw[List.drop_eq_getElem_cons hi,val] at e;exact e
theorem su (a b:List Nat)(i x y:Nat)(ha:∀d∈a,d<65536)(hx:a[i]? =some x)(hy:b[i]? =some y)(hlt:x<y)(hd:a.drop (i+1)=b.drop (i+1)):val a<val b:=by
 rw[oR a i x hx,oR b i y hy,hd];obtain⟨hi,-⟩:=List.getElem?_eq_some_iff.1 hx;have h1:=oV (a.take i) (fun d h=>ha d (List.mem_of_mem_take h));rw[List.length_take,Nat.min_eq_left (by omega)] at h1;have h2:65536^i*(x+65536*val (b.drop (i+1))+1)≤65536^i*(y+65536*val (b.drop (i+1))):=Nat.mul_le_mul_left _ (by omega);rw[Nat.mul_add _ _ 1] at h2;omega
theorem sh (a b:Nat)(h:(bj a).length<(bj b).length):a<b:=by
 rcases Nat.lt_or_ge a b with h1|h1
 ·exact h1
 ·exfalso
  have h2:=iP a;have:=ij b _ (Nat.lt_of_le_of_lt h1 h2);omega
theorem zS {α:Type}(a b:List α)(i:Nat)(x:α)(hx:a[i]? =some x)(hy:b[i]? =some x)(h:a.drop (i+1)=b.drop (i+1)):a.drop i=b.drop i:=by
 obtain⟨h1,e1⟩:=List.getElem?_eq_some_iff.1 hx;obtain⟨h2,e2⟩:=List.getElem?_eq_some_iff.1 hy;rw[List.drop_eq_getElem_cons h1,List.drop_eq_getElem_cons h2,e1,e2,h]
def tw (a b:Int):Int:=if a<b then -1 else if a=b then 0 else 1
def ng (a b:Nat):Int:=if a<b then -1 else if a=b then 0 else 1
set_option maxHeartbeats 400000 in
theorem DU (x y:Value)(a b:Nat)(w:World)(hx:dG w x a)(hy:dG w y b)(ha:(bj a).length≤1073741824)(hb:(bj b).length≤1073741824):
  Calls Tryz.prog 225 #[x,y] w fun e w'=>e= .returned (.int .i64 (ng a b))∧kI w w':=by
 obtain⟨A,ca,rfl,hca,hca2,hra⟩:=hx;obtain⟨B,cb,rfl,hcb,hcb2,hrb⟩:=hy
 go_enter Tryz.func225,Tryz.ntmps225
 have Hla:=Lib.hid (show(bj a).length=(bj a).length from rfl);rcases Nat.lt_trichotomy (bj a).length (bj b).length with hl|hl|hl
 ·have e:=Lib.hid (show ng a b= -1 by unfold ng;rw[if_pos (sh a b hl)])
  go_wp2_with fail
  go_ret
  rw[e.out];exact⟨rfl,kI.refl _⟩
 ·generalize hm:(bj a).length=m at *
  have hne:((m:Int) != ((bj b).length:Int))=false:=by simp;omega
  rw[←hl] at hrb hb hcb⊢;have Ha:=Lib.hid hm;have Hb:=Lib.hid hl;clear hm hl hne
  go_wp2_with fail
  go_loopw [5] (fun i wr=>∃k:Nat,k≤m∧i= .int .i64 ((k:Int)-1)∧(bj a).drop k=(bj b).drop k∧kI w wr) (fun i _=>(intOf i+1).toNat)
  case atStart=>exact⟨m,Nat.le_refl _,rfl,by rw[List.drop_of_length_le (by rw[Ha.out];omega),List.drop_of_length_le (by rw[←Hb.out];omega)],kI.refl _⟩
  case round=>
   obtain⟨k,hk,rfl,hd,hdr⟩:=hrel;have Hd:=Lib.hid hd;clear hd;rcases Nat.eq_zero_or_pos k with h0|h0
   ·subst h0
    have hab:a=b:=by have:=congrArg val Hd.out;simpa[dC] using this
    have e:=Lib.hid (show ng a b=0 by unfold ng;rw[if_neg (by omega),if_pos hab])
    go_wp2_with fail
    go_ret
    rw[e.out];exact⟨rfl,hdr⟩
   ·obtain⟨j,rfl⟩:∃j,k=j+1:=⟨k-1,by omega⟩
    obtain⟨ad,p,rfl,hbl,hp,hcp⟩:=hra.B4 (hdr.below w.heap.size) (Nat.le_refl _) (show j<m by omega);obtain⟨bd,q,rfl,hbl2,hq,hcq⟩:=hrb.B4 (hdr.below w.heap.size) (Nat.le_refl _) (show j<m by omega);have ej:((j+1:Nat):Int)-1=(j:Int):=by omega
    rw[ej];have Hp:=Lib.hid hp;have Hq:=Lib.hid hq;clear hp hq;rcases Nat.lt_trichotomy p q with hl|hl|hl
    ·have e:=Lib.hid (show ng a b= -1 by
      have:=su (bj a) (bj b) j p q (gB a) Hp.out Hq.out hl Hd.out;rw[dC,dC] at this;unfold ng;rw[if_pos this])
     go_wp2_with fail
     go_quiet (fail)
     go_wp2_with fail
     go_ret
     rw[e.out];exact⟨rfl,hdr.drewN _⟩
    ·subst hl
     go_wp2_with fail
     go_quiet (fail)
     go_wp2_with fail
     go_quiet (fail)
     go_wp2_with fail
     go_roundw
     case rel=>exact⟨j,by omega,by go_num,zS _ _ j p Hp.out Hq.out Hd.out,hdr.drewN _⟩
     case measure=>simp[intOf]
    ·have e:=Lib.hid (show ng a b=1 by
      have:=su (bj b) (bj a) j q p (gB b) Hq.out Hp.out hl Hd.out.symm;rw[dC,dC] at this;unfold ng;rw[if_neg (by omega),if_neg (by omega)])
     go_wp2_with fail
     go_quiet (fail)
     go_wp2_with fail
     go_quiet (fail)
     go_wp2_with fail
     go_ret
     rw[e.out];exact⟨rfl,(hdr.drewN _).drewN _⟩
 ·have e:=Lib.hid (show ng a b=1 by unfold ng;have:=sh b a hl;rw[if_neg (by omega),if_neg (by omega)])
  go_wp2_with fail
  go_ret
  rw[e.out];exact⟨rfl,kI.refl _⟩
theorem ED:(Tryz.prog.info? 94).map (fun i=>(i.zero,i.size,i.bytes))=some (some (.int .u64 0),1,8):=by kernel_rfl
theorem EZ (l:List Nat)(d:Nat)(z:Int)(h:z=d):U l++(#[Value.int .u64 z]:Array Value).toList=U (l++[d]):=by rw[CM,h];rfl
theorem jV {w:World}{base:Nat}{e:TypeId}{n:Nat}{v:Value}{l:List Nat}{d:Nat}{z:Int}(h:w.ownsRow base e 1 v n (U l++(#[Value.int .u64 z]:Array Value).toList)) (hz:z=d):w.ownsRow base e 1 v n (U (l++[d])):=EZ l d z hz▸h
theorem bz (l:List Nat)(k:Nat):val (l.take (k+1))=val (l.take k)+65536^k*l.getD k 0:=by
 rcases Nat.lt_or_ge k l.length with h|h
 ·rw[List.take_add_one,List.getElem?_eq_getElem h]
  show val (_++[_])=_;rw[ib,List.length_take,Nat.min_eq_left (by omega)];simp[List.getD,List.getElem?_eq_getElem h]
 ·rw[List.take_of_length_le (by omega),List.take_of_length_le (by omega)]
  simp[List.getD,List.getElem?_eq_none h]
theorem kx (l:List Nat)(k d:Nat)(h:l[k]? =some d):l.getD k 0=d:=by simp[List.getD,h]
theorem nw (l:List Nat)(k:Nat)(h:l.length≤k):l.getD k 0=0:=by simp[List.getD,List.getElem?_eq_none h]
theorem nG {w:World}{base:Nat}{e:TypeId}{size n:Nat}{v:Value}{xs:List Value}(h:w.ownsRow base e size v n xs):∃A c,v= .slice A n c∧n≤c∧c≤9223372036854775807∧Reads w w.heap.size size A n xs∧∀k,Ce base (.slice A k c):=by
 rcases h.2 with ⟨rfl,rfl⟩|⟨g,cap,cur,rfl,hb,_,hc,hc2,_⟩
 ·exact⟨none,0,rfl,Nat.le_refl _,by omega,Reads.tY h,fun _=>trivial⟩
 ·exact⟨_,cap,rfl,hc,by unfold maxLen at hc2;omega,Reads.tY h,fun _=>hb⟩
theorem gW {w:World}{A:Option Addr}{n c m:Nat}{l:List Nat}(hr:Reads w w.heap.size 1 A n (U l))(hd:∀d∈l,d<65536)(hc:n≤c)(hc2:c≤9223372036854775807)(hv:val l=m):dG w (.slice A (bj (val l)).length c) m:=by
 subst hv;have hlen:=hr.B3;have hle:(bj (val l)).length≤n:=by rw[←hlen];exact ij _ _ (oV l hd)
 have e:bj (val l)=l.take (bj (val l)).length:=by
  -- the digits of a number are its list's first aV
  have h:∀(l:List Nat),(∀d∈l,d<65536)→bj (val l)=l.take (bj (val l)).length:=by
   intro l
   induction l with
   |nil=>intro _;simp[val,eS]
   |cons d l ih=>
    intro hd;have hd0:=hd d (by simp)
    by_cases h0:val (d::l)=0
    ·rw[h0,eS];rfl
    ·rw[jI _ h0]
     have e1:val (d::l)%65536=d:=by rw[val];omega
     have e2:val (d::l)/65536=val l:=by rw[val];omega
     rw[e1,e2,List.length_cons,List.take_succ_cons,←ih (fun x hx=>hd x (by simp[hx]))]
  exact h l hd
 refine⟨A,c,rfl,by omega,hc2,?_⟩;refine⟨by rw[qU];omega,fun hpos=> ?_⟩;obtain⟨ad,hA,hb,hcell⟩:=hr.2 (by omega);refine⟨ad,hA,hb,fun j u hu=>hcell j u ?_⟩;rw[e,←EK] at hu;rw[List.getElem?_take] at hu;split at hu
 ·exact hu
 ·cases hu
theorem mw {l:List Nat}(h:∀d∈l,d<65536)(v:Nat):∀d∈l++[v%65536],d<65536:=by
 intro d hd;rcases List.mem_append.1 hd with hd|hd
 ·exact h d hd
 ·obtain rfl:=List.mem_singleton.1 hd
  omega
theorem l0 (P o t s c v x y:Nat)(h:o+P*c=t+s)(hv:v=c+x+y):o+P*(v%65536)+P*65536*(v/65536)=t+P*x+(s+P*y):=by
 have e1:P*(v%65536)+P*65536*(v/65536)=P*v:=by rw[Nat.mul_assoc,←Nat.mul_add,Nat.mod_add_div]
 have e2:P*v=P*c+P*x+P*y:=by rw[hv,Nat.mul_add,Nat.mul_add]
 omega
set_option maxHeartbeats 800000 in
set_option maxRecDepth 100000 in
theorem DG (x y:Value)(a b:Nat)(w:World)(hx:dG w x a)(hy:dG w y b)(ha:(bj a).length≤1000000)(hb:(bj b).length≤1000000):
  Calls Tryz.prog 224 #[x,y] w fun e w'=>∃v,e= .returned v∧dG w' v (a+b)∧Below w.heap.size w w'∧Ce w.heap.size v:=by
 obtain⟨A,ca,rfl,hca,hca2,hra⟩:=hx;obtain⟨B,cb,rfl,hcb,hcb2,hrb⟩:=hy;obtain⟨i0,hi0,hz0,hz1,hz2⟩:=info_parts ED
 generalize hma:(bj a).length=m at *
 generalize hmb:(bj b).length=n at *
 have Hma:=Lib.hid hma;have Hmb:=Lib.hid hmb;clear hma hmb
 go_enter Tryz.func224,Tryz.ntmps224
 go_wp2_with fail
 go_loopw [5,6,7] (fun v c i wr=>∃(k cr:Nat) (l:List Nat),k≤m+n+2∧cr≤1∧(m+n<k→cr=0)∧i= .int .i64 k∧c= .int .u64 cr∧l.length=k∧(∀d∈l,d<65536)∧val l+65536^k*cr=val ((bj a).take k)+val ((bj b).take k)∧
   wr.ownsRow w.heap.size 94 1 v k (U l)∧Below w.heap.size w wr) (fun _ _ i _=>m+n+2-(intOf i).toNat)
 case atStart=>exact⟨0,0,[],by omega,by omega,fun _=>rfl,rfl,rfl,rfl,by simp,by simp[val],World.ownsRow_nil _ _ _ _,Below.refl _ _⟩
 case round=>
  obtain⟨k,cr,l,hk,hcr,hk2,rfl,rfl,hl,hd,hv,hown,hbl⟩:=hrel;have Hl:=Lib.hid hl;have Hd:=Lib.hid hd;have Hv:=Lib.hid hv;have hz:=hbl.size;clear hl hd hv
  by_cases h1:k<m
  ·obtain⟨ad,p,rfl,hbp,hp,hcp⟩:=hra.B4 hbl (Nat.le_refl _) h1
   have Hp:=Lib.hid (kx _ _ _ hp);have hp2:p<65536:=gB a p (List.mem_of_getElem? hp);clear hp
   by_cases h2:k<n
   ·obtain⟨bd,q,rfl,hbq,hq,hcq⟩:=hrb.B4 hbl (Nat.le_refl _) h2
    have Hq:=Lib.hid (kx _ _ _ hq);have hq2:q<65536:=gB b q (List.mem_of_getElem? hq);clear hq
    go_wp2_with (at_builtin;refine du rfl (.tmp 46) (.tmp 49) _ rfl w.heap.size _ i0 _ 1 8 Tryz.underlying250 hi0 hz0 hz1 hz2 rfl (by decide) wr _ _ _ _ rfl hown _ rfl rfl rfl (by simp[Value.oneCell']) (by simp only[maxLen];omega) (by omega) ?_;intro v' w' hown' hb' hz')
    go_roundw
    case rel=>
     refine⟨k+1,(cr+p+q)/65536,l++[(cr+p+q)%65536],by omega,by omega,fun _=>by omega,by go_num,int_eq (by omega),by rw[List.length_append,Hl.out];rfl,mw Hd.out _,?_,jV hown' (by omega),hb' _ _ (Nat.le_refl _) hbl⟩;rw[ib,bz,bz,Hl.out,Nat.pow_succ,Hp.out,Hq.out];have:=l0 (65536^k) _ _ _ _ (cr+p+q) p q Hv.out (by omega);omega
    case measure=>simp[intOf];omega
   ·have Hq:=Lib.hid (nw (bj b) k (by rw[Hmb.out];omega))
    go_wp2_with (at_builtin;refine du rfl (.tmp 46) (.tmp 49) _ rfl w.heap.size _ i0 _ 1 8 Tryz.underlying250 hi0 hz0 hz1 hz2 rfl (by decide) wr _ _ _ _ rfl hown _ rfl rfl rfl (by simp[Value.oneCell']) (by simp only[maxLen];omega) (by omega) ?_;intro v' w' hown' hb' hz')
    go_roundw
    case rel=>
     refine⟨k+1,(cr+p)/65536,l++[(cr+p)%65536],by omega,by omega,fun _=>by omega,by go_num,int_eq (by omega),by rw[List.length_append,Hl.out];rfl,mw Hd.out _,?_,jV hown' (by omega),hb' _ _ (Nat.le_refl _) hbl⟩;rw[ib,bz,bz,Hl.out,Nat.pow_succ,Hp.out,Hq.out];have:=l0 (65536^k) _ _ _ _ (cr+p) p 0 Hv.out (by omega);omega
    case measure=>simp[intOf];omega
  ·have Hp:=Lib.hid (nw (bj a) k (by rw[Hma.out];omega))
   by_cases h2:k<n
   ·obtain⟨bd,q,rfl,hbq,hq,hcq⟩:=hrb.B4 hbl (Nat.le_refl _) h2
    have Hq:=Lib.hid (kx _ _ _ hq);have hq2:q<65536:=gB b q (List.mem_of_getElem? hq);clear hq
    go_wp2_with (at_builtin;refine du rfl (.tmp 46) (.tmp 49) _ rfl w.heap.size _ i0 _ 1 8 Tryz.underlying250 hi0 hz0 hz1 hz2 rfl (by decide) wr _ _ _ _ rfl hown _ rfl rfl rfl (by simp[Value.oneCell']) (by simp only[maxLen];omega) (by omega) ?_;intro v' w' hown' hb' hz')
    go_roundw
    case rel=>
     refine⟨k+1,(cr+q)/65536,l++[(cr+q)%65536],by omega,by omega,fun _=>by omega,by go_num,int_eq (by omega),by rw[List.length_append,Hl.out];rfl,mw Hd.out _,?_,jV hown' (by omega),hb' _ _ (Nat.le_refl _) hbl⟩;rw[ib,bz,bz,Hl.out,Nat.pow_succ,Hp.out,Hq.out];have:=l0 (65536^k) _ _ _ _ (cr+q) 0 q Hv.out (by omega);omega
    case measure=>simp[intOf];omega
   ·have Hq:=Lib.hid (nw (bj b) k (by rw[Hmb.out];omega))
    by_cases h3:0<cr
    ·obtain rfl:cr=1:=by omega
     go_wp2_with (at_builtin;refine du rfl (.tmp 46) (.tmp 49) _ rfl w.heap.size _ i0 _ 1 8 Tryz.underlying250 hi0 hz0 hz1 hz2 rfl (by decide) wr _ _ _ _ rfl hown _ rfl rfl rfl (by simp[Value.oneCell']) (by simp only[maxLen];omega) (by omega) ?_;intro v' w' hown' hb' hz')
     go_roundw
     case rel=>
      refine⟨k+1,(1)/65536,l++[(1)%65536],by omega,by omega,fun _=>by omega,by go_num,int_eq (by omega),by rw[List.length_append,Hl.out];rfl,mw Hd.out _,?_,jV hown' (by omega),hb' _ _ (Nat.le_refl _) hbl⟩;rw[ib,bz,bz,Hl.out,Nat.pow_succ,Hp.out,Hq.out];have:=l0 (65536^k) _ _ _ _ (1) 0 0 Hv.out (by omega);omega
     case measure=>simp[intOf];omega
    ·obtain rfl:cr=0:=by omega
     have hval:=Hv.out;rw[List.take_of_length_le (by rw[Hma.out];omega),List.take_of_length_le (by rw[Hmb.out];omega),dC,dC,Nat.mul_zero,Nat.add_zero] at hval;have Hval:=Lib.hid hval;clear hval;obtain⟨A',c',rfl,hc1,hc2,hrd,hfr⟩:=nG hown
     go_wp2_with fail
     refine(lA wr.heap.size A' k c' l _ hrd (Nat.le_refl _) Hd.out (by omega) hc1).mono ?_;rintro e w1 ⟨rfl,rfl⟩
     go_wp2_with fail
     go_ret
     exact⟨_,rfl,gW hrd Hd.out hc1 hc2 Hval.out,hbl,hfr _⟩
theorem sx (P o t s b v x y b':Nat)(h:o+s=t+P*b+0)(hv:v+b+y=65536+x)(hb:b'=1-v/65536)(hv2:v<131072):
  o+P*(v%65536)+(s+P*y+P*b)=t+P*x+P*65536*b'+P*b:=by
 have e0:v%65536+65536*(v/65536)=v:=Nat.mod_add_div v 65536;have e3:v%65536+b+y=x+65536*b':=by omega
 have e4:P*(v%65536)+P*b+P*y=P*x+P*(65536*b'):=by rw[←Nat.mul_add,←Nat.mul_add,←Nat.mul_add,e3]
 rw[←Nat.mul_assoc] at e4;omega
set_option maxHeartbeats 800000 in
set_option maxRecDepth 100000 in
theorem Ep (x y:Value)(a b:Nat)(w:World)(hx:dG w x a)(hy:dG w y b)(ha:(bj a).length≤1000000)(hle:b≤a):
  Calls Tryz.prog 226 #[x,y] w fun e w'=>∃v,e= .returned v∧dG w' v (a-b)∧Below w.heap.size w w'∧Ce w.heap.size v:=by
 obtain⟨A,ca,rfl,hca,hca2,hra⟩:=hx;obtain⟨B,cb,rfl,hcb,hcb2,hrb⟩:=hy;obtain⟨i0,hi0,hz0,hz1,hz2⟩:=info_parts ED
 have hmn:(bj b).length≤(bj a).length:=by
  have:=iP a;exact ij b _ (by omega)
 generalize hma:(bj a).length=m at *
 generalize hmb:(bj b).length=n at *
 have Hma:=Lib.hid hma;have Hmb:=Lib.hid hmb;clear hma hmb
 go_enter Tryz.func226,Tryz.ntmps226
 go_wp2_with fail
 go_loopw [5,6,7] (fun v c i wr=>∃(k bo:Nat) (l:List Nat),k≤m∧bo≤1∧i= .int .i64 k∧c= .int .u64 bo∧l.length=k∧(∀d∈l,d<65536)∧val l+val ((bj b).take k)=val ((bj a).take k)+65536^k*bo∧
   wr.ownsRow w.heap.size 94 1 v k (U l)∧Below w.heap.size w wr) (fun _ _ i _=>m-(intOf i).toNat)
 case atStart=>exact⟨0,0,[],by omega,by omega,rfl,rfl,rfl,by simp,by simp[val],World.ownsRow_nil _ _ _ _,Below.refl _ _⟩
 case round=>
  obtain⟨k,bo,l,hk,hbo,rfl,rfl,hl,hd,hv,hown,hbl⟩:=hrel;have Hl:=Lib.hid hl;have Hd:=Lib.hid hd;have Hv:=Lib.hid hv;have hz:=hbl.size;clear hl hd hv
  by_cases h1:k<m
  ·obtain⟨ad,p,rfl,hbp,hp,hcp⟩:=hra.B4 hbl (Nat.le_refl _) h1
   have Hp:=Lib.hid (kx _ _ _ hp);have hp2:p<65536:=gB a p (List.mem_of_getElem? hp);clear hp
   by_cases h2:k<n
   ·obtain⟨bd,q,rfl,hbq,hq,hcq⟩:=hrb.B4 hbl (Nat.le_refl _) h2
    have Hq:=Lib.hid (kx _ _ _ hq);have hq2:q<65536:=gB b q (List.mem_of_getElem? hq);clear hq
    go_wp2_with (at_builtin;refine du rfl (.tmp 32) (.tmp 35) _ rfl w.heap.size _ i0 _ 1 8 Tryz.underlying250 hi0 hz0 hz1 hz2 rfl (by decide) wr _ _ _ _ rfl hown _ rfl rfl rfl (by simp[Value.oneCell']) (by simp only[maxLen];omega) (by omega) ?_;intro v' w' hown' hb' hz')
    go_roundw
    case rel=>
     refine⟨k+1,1-(65536+p-bo-q)/65536,l++[(65536+p-bo-q)%65536],by omega,by omega,by go_num,int_eq (by omega),by rw[List.length_append,Hl.out];rfl,mw Hd.out _,?_,jV hown' (by omega),hb' _ _ (Nat.le_refl _) hbl⟩;rw[ib,bz,bz,Hl.out,Nat.pow_succ,Hp.out,Hq.out];have:=sx (65536^k) _ _ _ _ (65536+p-bo-q) p q _ Hv.out (by omega) rfl (by omega);omega
    case measure=>simp[intOf];omega
   ·have Hq:=Lib.hid (nw (bj b) k (by rw[Hmb.out];omega))
    go_wp2_with (at_builtin;refine du rfl (.tmp 32) (.tmp 35) _ rfl w.heap.size _ i0 _ 1 8 Tryz.underlying250 hi0 hz0 hz1 hz2 rfl (by decide) wr _ _ _ _ rfl hown _ rfl rfl rfl (by simp[Value.oneCell']) (by simp only[maxLen];omega) (by omega) ?_;intro v' w' hown' hb' hz')
    go_roundw
    case rel=>
     refine⟨k+1,1-(65536+p-bo)/65536,l++[(65536+p-bo)%65536],by omega,by omega,by go_num,int_eq (by omega),by rw[List.length_append,Hl.out];rfl,mw Hd.out _,?_,jV hown' (by omega),hb' _ _ (Nat.le_refl _) hbl⟩;rw[ib,bz,bz,Hl.out,Nat.pow_succ,Hp.out,Hq.out];have:=sx (65536^k) _ _ _ _ (65536+p-bo) p 0 _ Hv.out (by omega) rfl (by omega);omega
    case measure=>simp[intOf];omega
  ·obtain rfl:k=m:=by omega
   have hval:val l=a-b:=by
    have hval:=Hv.out;rw[List.take_of_length_le (show(bj b).length≤k by rw[Hmb.out];omega),List.take_of_length_le (show(bj a).length≤k by rw[Hma.out];omega),dC,dC] at hval;have hlt:=oV l Hd.out;rw[Hl.out] at hlt;rcases Nat.lt_or_ge 0 bo with h|h
    ·obtain rfl:bo=1:=by omega
     omega
    ·obtain rfl:bo=0:=by omega
     omega
   have Hval:=Lib.hid hval;clear hval;obtain⟨A',c',rfl,hc1,hc2,hrd,hfr⟩:=nG hown
   go_wp2_with fail
   refine(lA wr.heap.size A' k c' l _ hrd (Nat.le_refl _) Hd.out (by omega) hc1).mono ?_;rintro e w1 ⟨rfl,rfl⟩
   go_wp2_with fail
   go_ret
   exact⟨_,rfl,gW hrd Hd.out hc1 hc2 Hval.out,hbl,hfr _⟩
def bQ (w:World)(v:Value)(z:Int):Prop:=∃m,v= .agg #[.bool (decide (z<0)),m]∧dG w m z.natAbs
theorem bQ.step {w w':World}{v:Value}{z:Int}(h:bQ w v z)(hb:Below w.heap.size w w'):bQ w' v z:=by
 obtain⟨m,e,h⟩:=h;exact⟨m,e,h.step hb⟩
theorem GI (a b c d:Nat):val [a,b,c,d]=a+65536*(b+65536*(c+65536*d)):=by simp[val]
theorem Ey:(Tryz.prog.info? 252).map (fun i=>(i.zero,i.size,i.bytes))=some (some (.agg #[.bool false, .slice none 0 0]),2,32):=by kernel_rfl
theorem Reads.other {w w':World}{B n g:Nat}{A:Option Addr}{l:List Nat}{cs:Array Value}{t:TypeId}{fr:Nat × Nat}(h:Reads w B 1 A n (U l))(hg:w.heap[g]? =some (.cells cs t fr))(hcs:∀(k:IntKind) (z:Int),Value.int k z∉cs.toList)
  (hgr:w.grownBy w' (some g)):Reads w' B 1 A n (U l):=by
 refine⟨h.1,fun hn=> ?_⟩;obtain⟨ad,hA,hb,hc⟩:=h.2 hn;refine⟨ad,hA,hb,fun j u hu=> ?_⟩;have h1:=hc j u hu
 have hne:(ad.add j).block≠g:=by
  intro he;rw[A6] at hu
  cases hl:l[j]? with
  |none=>rw[hl] at hu;cases hu
  |some d=>
   rw[hl] at hu;injection hu with hu
   subst hu;unfold World.cell? at h1;rw[he,hg] at h1;simp only at h1;split at h1
   ·cases h1
   ·exact hcs _ _ (Array.mem_toList_iff.2 (Array.mem_of_getElem? h1))
 have hlt:(ad.add j).block<w.heap.size:=by
  unfold World.cell? at h1;rcases Nat.lt_or_ge (ad.add j).block w.heap.size with h2|h2
  ·exact h2
  ·rw[Array.getElem?_eq_none h2] at h1;cases h1
 rw[←h1];unfold World.cell?;rw[hgr.block _ hlt (by intro e;injection e with e;exact hne e)]
theorem dG.other {w w':World}{n g:Nat}{v:Value}{cs:Array Value}{t:TypeId}{fr:Nat × Nat}(h:dG w v n)(hg:w.heap[g]? =some (.cells cs t fr))(hcs:∀(k:IntKind) (z:Int),Value.int k z∉cs.toList)
  (hgr:w.grownBy w' (some g)):dG w' v n:=by
 obtain⟨A,c,e,h1,h2,h3⟩:=h;exact⟨A,c,e,h1,h2,(h3.other hg hcs hgr).more hgr.size⟩
set_option maxHeartbeats 400000 in
set_option maxRecDepth 100000 in
theorem wk (neg:Bool)(m:Value)(n:Nat)(w:World)(hm:dG w m n)(hn:(bj n).length≤1073741824):
  Calls Tryz.prog 223 #[.bool neg,m] w fun e w'=>e= .returned (.agg #[.bool (neg&&decide (0<n)),m])∧Below w.heap.size w w':=by
 obtain⟨A,c,rfl,hc,hc2,hr⟩:=hm;obtain⟨i0,hi0,hz0,hz1,hz2⟩:=info_parts Ey
 have e:decide (0<n)=decide (0<(bj n).length):=by
  have:=jv n
  by_cases h:n=0
  ·simp[h,eS]
  ·have h2:0<(bj n).length:=by rcases Nat.eq_zero_or_pos (bj n).length with h3|h3
                               ·exact absurd (this.1 h3) h
                               ·exact h3
   rw[decide_eq_true h2,decide_eq_true (by omega)]
 rw[e]
 generalize (bj n).length=l at *
 have hrow:(w.alloc (.cells #[.bool false, .slice none 0 0] 252)).heap[w.heap.size]? =some (.cells #[.bool false, .slice none 0 0] 252 (0,0)):=heap_alloc_new w _
 cases neg
 all_goals
  by_cases h:0<l
  all_goals
   go_enter Tryz.func223,Tryz.ntmps223
   go_wp2_with (refine wpList_store_row rfl _ (.tmp 4) (.tmp 12) rfl rfl w.heap.size 0 rfl #[_,_] rfl i0 hi0 hz1 (by simp[Value.oneCell']) _ _ hrow (by simp) ?_;intro w3 hg3 hgr3 hz3)
   refine bodyPost_ret (results_cell_row rfl _ _ w.heap.size 252 #[_,_] (0,0) _ rfl hg3 Tryz.underlying252 rfl (by rw[hi0];simp[hz1])) rfl ?_;refine⟨?_,((Below.refl w.heap.size w).alloc (Nat.le_refl _) _).grown hgr3 (by simp) (fun k hk=>by injection hk with hk;omega)⟩;simp[h]
theorem bN:bW Tryz.prog 252=some (some (.agg #[.bool false, .slice none 0 0])):=by kernel_rfl
theorem ln:bW Tryz.prog 94=some (some (.int .u64 0)):=by kernel_rfl
theorem D8 {a b:Nat}(h:0≤ng a b):b≤a:=by unfold ng at h;split at h<;>omega
theorem D1 {a b:Nat}(h:¬0≤ng a b):a<b:=by
 unfold ng at h;split at h
 ·omega
 ·split at h<;>omega
theorem dG.put {w w':World}{v:Value}{n g:Nat}{T:TypeId}{cur cs:Array Value}{B:Nat}(h:dG w v n)(k:aH w g T cur)(p:lu w w' g T cs)(_e:B≤g)(hcs:∀(k:IntKind) (z:Int),Value.int k z∉cur.toList:=by simp[Value.cells, *]):dG w' v n:=h.other k hcs p.grown
theorem dG.ni {w:World}{v:Value}{n:Nat}(h:dG w v n):∀(k:IntKind) (z:Int),Value.int k z≠v:=by obtain⟨A,c,rfl,_⟩:=h;intro k z e;cases e
theorem dG.one {w:World}{v:Value}{n:Nat}(h:dG w v n):v.oneCell'=true:=by obtain⟨A,c,rfl,_⟩:=h;rfl
theorem Ar (x:Value)(a:Int)(w:World)(hx:bQ w x a)(ha:(bj a.natAbs).length≤1073741824):
  Calls Tryz.prog 201 #[x] w fun e w'=>∃v,e= .returned v∧bQ w' v (-a)∧Below w.heap.size w w':=by
 obtain⟨m,rfl,hm⟩:=hx;have ab:=Below.refl w.heap.size w;have h1:=hm.one;refine Zs 9 Tryz.func201 ?_;refine aj ?_;refine Seq.box rfl rfl rfl rfl rfl ?_;intro g1 w1 n1;have e1:=Nat.le_trans ab.size n1.ge;replace ab:=ab.step n1.below;replace hm:=hm.step n1.below;have k1:=n1.an;refine Zl bN ?_;intro g2 w2 n2;have e2:=Nat.le_trans ab.size n2.ge;have l2:=Nat.lt_of_lt_of_le k1.lt n2.ge;replace ab:=ab.step n2.below;replace hm:=hm.step n2.below;replace k1:=k1.step n2.below;have k2:=n2.an;refine bn 0 1 2 (aB ?_);refine Zf 0 Tryz.underlying252 ?_;refine ZL Tryz.underlying4 k1 ?_;refine mD ?_;refine Zf 1 Tryz.underlying252 ?_;refine ZL Tryz.underlying250 k1 ?_;refine Zc (Ze Tryz.func223) (wk _ _ _ _ hm (by omega)) ?_;rintro e w3 ⟨rfl,hb⟩;refine⟨_,rfl,?_⟩;replace ab:=ab.step hb;replace hm:=hm.step hb;replace k1:=k1.step hb;replace k2:=k2.step hb;refine Zo 2 k2 ?_;intro w3 pw3;replace ab:=ab.put k2 pw3 e2;replace hm:=hm.put k2 pw3 e2;replace k1:=k1.put pw3 (by omega);replace k2:=pw3.an;refine bn 0 1 2 (Zt (Cd.ret ?_));refine gp 2 k2 Tryz.underlying252 ?_;refine⟨_,rfl,⟨m,?_,by rw[Int.natAbs_neg];exact hm⟩,ab⟩;show Value.agg #[_,m]=_
 have e:(!decide (a<0)&&decide (0<a.natAbs))=decide (-a<0):=by
  rw[Bool.eq_iff_iff];simp;omega
 rw[e]
theorem nt (neg:Bool)(m:Value)(n:Nat)(z:Int)(w:World)(hm:dG w m n)(hn:(bj n).length≤1073741824)(hz:z.natAbs=n)(hs:(neg&&decide (0<n))=decide (z<0)):
  Calls Tryz.prog 223 #[.bool neg,m] w fun e w'=>∃v,e= .returned v∧Below w.heap.size w w'∧bQ w' v z:=
 (wk neg m n w hm hn).mono fun e w' ⟨he,hb⟩=>⟨_,he,hb,m,by rw[hs],by rw[hz];exact hm.step hb⟩
theorem Ec (x y:Value)(a b c:Nat)(w:World)(hx:dG w x a)(hy:dG w y b)(hc:c=a+b)(ha:(bj a).length≤1000000)(hb:(bj b).length≤1000000):
  Calls Tryz.prog 224 #[x,y] w fun e w'=>∃v,e= .returned v∧Below w.heap.size w w'∧dG w' v c:=
 (DG x y a b w hx hy ha hb).mono fun e w' ⟨v,he,hm,hb,_⟩=>⟨v,he,hb,by rw[hc];exact hm⟩
theorem yb (x y:Value)(a b c:Nat)(w:World)(hx:dG w x a)(hy:dG w y b)(hle:b≤a)(hc:c=a-b)(ha:(bj a).length≤1000000):
  Calls Tryz.prog 226 #[x,y] w fun e w'=>∃v,e= .returned v∧Below w.heap.size w w'∧dG w' v c:=
 (Ep x y a b w hx hy ha hle).mono fun e w' ⟨v,he,hm,hb,_⟩=>⟨v,he,hb,by rw[hc];exact hm⟩
theorem bQ.dD (z:Int):∀v w w',Grow w w'→bQ w v z→bQ w' v z:=fun _ _ _ hG h=>h.step hG
theorem dG.dD (z:Nat):∀v w w',Grow w w'→dG w v z→dG w' v z:=fun _ _ _ hG h=>h.step hG
def pN:Nat:=65536^60
theorem iE {n:Nat}(h:n<65536*pN):(bj n).length≤61:=ij n 61 (by unfold pN at h;rw[Nat.pow_succ];omega)
theorem Ej:1606938044258990275541962092341162602522202993782792835301376≤pN:=by unfold pN;decide
theorem BR (x y:Value)(a b:Int)(w:World)(hx:bQ w x a)(hy:bQ w y b)(ha:a.natAbs<pN)(hb:b.natAbs<pN):
  Calls Tryz.prog 198 #[x,y] w fun e w'=>∃v,e= .returned v∧bQ w' v (a+b)∧Below w.heap.size w w':=by
 obtain⟨m,rfl,hm⟩:=hx;obtain⟨q,rfl,hq⟩:=hy;have hla:=iE (n:=a.natAbs) (by omega);have hlb:=iE (n:=b.natAbs) (by omega);have ab:=Below.refl w.heap.size w;refine Zs 40 Tryz.func198 ?_;refine aj ?_;refine Seq.box rfl rfl rfl rfl rfl ?_;intro g2 w1 n2;have e2:=Nat.le_trans ab.size n2.ge;replace ab:=ab.step n2.below;replace hm:=hm.step n2.below;replace hq:=hq.step n2.below;have k2:=n2.an;refine Seq.box rfl rfl rfl rfl rfl ?_;intro g3 w2 n3;have e3:=Nat.le_trans ab.size n3.ge;have l3:=Nat.lt_of_lt_of_le k2.lt n3.ge;replace ab:=ab.step n3.below;replace hm:=hm.step n3.below;replace hq:=hq.step n3.below;replace k2:=k2.step n3.below;have k3:=n3.an;refine Zl bN ?_;intro g4 w3 n4;have e4:=Nat.le_trans ab.size n4.ge;have l4:=Nat.lt_of_lt_of_le k3.lt n4.ge;replace ab:=ab.step n4.below;replace hm:=hm.step n4.below;replace hq:=hq.step n4.below;replace k2:=k2.step n4.below;replace k3:=k3.step n4.below;have k4:=n4.an;refine aO 0 1 2 3 4 (aI (aj ?_));refine Zf 0 Tryz.underlying252 ?_;refine ZL Tryz.underlying4 k2 ?_;refine Zf 0 Tryz.underlying252 ?_;refine ZL Tryz.underlying4 k3 ?_;refine Zv (aa.Gy rfl rfl rfl Tryz.underlying4) ?_;refine aY 0 1 2 3 4 9 (Zt ?_);refine Cd.ak rfl (fun hc=> ?_) (fun hc=> ?_)
 ·have hab:(a+b).natAbs=a.natAbs+b.natAbs:=by simp at hc;omega
  have hl:=iE (n:=(a+b).natAbs) (by omega);refine Cd.seq ?_;refine ff 8 ?_;intro w4 hw4 zw4;replace ab:=ab.step hw4;replace hm:=hm.step hw4;replace hq:=hq.step hw4;replace k2:=k2.step hw4;replace k3:=k3.step hw4;replace k4:=k4.step hw4;have zbel:=ab.size;have zlt:=k4.lt;refine eV 0 Tryz.underlying252 ?_;refine dZ Tryz.underlying4 k2 ?_;refine eV 1 Tryz.underlying252 ?_;refine dZ Tryz.underlying250 k2 ?_;refine eV 1 Tryz.underlying252 ?_;refine dZ Tryz.underlying250 k3 ?_;refine Dr.call (Φ:=fun v w=>dG w v (a+b).natAbs) rfl (fun w=>Ze Tryz.func224) rfl (dG.dD _) (fun w hG=>Ec _ _ _ _ _ _ (hm.step hG) (hq.step hG) hab (by omega) (by omega)) ?_;refine Dr.vS (j:=6) (Φ:=fun v w=>bQ w v (a+b)) rfl rfl rfl (fun u w=>Ze Tryz.func223) rfl (bQ.dD _) (fun u w hG hu=>nt _ u _ (a+b) _ hu (by omega) rfl (by simp at hc;rw[Bool.eq_iff_iff];simp;omega)) ?_;refine Dr.nil ?_;refine bb.open (j:=7) rfl ?_;intro u7;refine bb.done (F':=[(0,_),(1,_),(2,_),(3,_),(4,_),(9,_),(17,_)]) rfl ⟨rfl,rfl,rfl,rfl,rfl,rfl,rfl,trivial⟩ ?_;intro w5 hw5 fw5;replace ab:=ab.step hw5;replace hm:=hm.step hw5;replace hq:=hq.step hw5;replace k2:=k2.step hw5;replace k3:=k3.step hw5;replace k4:=k4.step hw5;obtain⟨m2,rfl,hm2⟩:=fw5.2;have hm2o:=hm2.one;refine Zo 2 k4 ?_;intro w6 pw6;replace ab:=ab.put k4 pw6 e4;replace hm:=hm.put k4 pw6 e4;replace hq:=hq.put k4 pw6 e4;replace k2:=k2.put pw6 (by omega);replace k3:=k3.put pw6 (by omega);replace hm2:=hm2.put k4 pw6 e4;replace k4:=pw6.an;refine aY 0 1 2 3 4 9 (Zt (Cd.ret (ae.af ?_)));refine gp 2 k4 Tryz.underlying252 ?_;exact⟨_,rfl,⟨m2,rfl,hm2⟩,ab⟩
 ·skip
  refine Cd.skip (aI (aj ?_));refine Zf 1 Tryz.underlying252 ?_;refine ZL Tryz.underlying250 k2 ?_;refine Zf 1 Tryz.underlying252 ?_;refine ZL Tryz.underlying250 k3 ?_;refine Zc (Ze Tryz.func225) (DU _ _ _ _ _ hm hq (by omega) (by omega)) ?_;rintro e w7 ⟨rfl,hdr⟩;have hb7:=hdr.below w3.heap.size;replace ab:=ab.step hb7;replace hm:=hm.step hb7;replace hq:=hq.step hb7;replace k2:=k2.step hb7;replace k3:=k3.step hb7;replace k4:=k4.step hb7;refine⟨_,rfl,?_⟩;refine kZ ?_;refine ba 0 1 2 3 4 9 23 (Zt ?_);refine Cd.ak rfl (fun hc2=> ?_) (fun hc2=> ?_)
  ·have hle:b.natAbs≤a.natAbs:=D8 hc2
   have hab:(a+b).natAbs=a.natAbs-b.natAbs:=by simp at hc;omega
   have hl:=iE (n:=(a+b).natAbs) (by omega);refine Cd.seq ?_;refine ff 8 ?_;intro w4 hw4 zw4;replace ab:=ab.step hw4;replace hm:=hm.step hw4;replace hq:=hq.step hw4;replace k2:=k2.step hw4;replace k3:=k3.step hw4;replace k4:=k4.step hw4;have zbel:=ab.size;have zlt:=k4.lt;refine eV 0 Tryz.underlying252 ?_;refine dZ Tryz.underlying4 k2 ?_;refine eV 1 Tryz.underlying252 ?_;refine dZ Tryz.underlying250 k2 ?_;refine eV 1 Tryz.underlying252 ?_;refine dZ Tryz.underlying250 k3 ?_;refine Dr.call (Φ:=fun v w=>dG w v (a+b).natAbs) rfl (fun w=>Ze Tryz.func226) rfl (dG.dD _) (fun w hG=>yb _ _ _ _ _ _ (hm.step hG) (hq.step hG) hle hab (by omega)) ?_;refine Dr.vS (j:=6) (Φ:=fun v w=>bQ w v (a+b)) rfl rfl rfl (fun u w=>Ze Tryz.func223) rfl (bQ.dD _) (fun u w hG hu=>nt _ u _ (a+b) _ hu (by omega) rfl (by simp at hc;rw[Bool.eq_iff_iff];simp;omega)) ?_;refine Dr.nil ?_;refine bb.open (j:=7) rfl ?_;intro u7;refine bb.done (F':=[(0,_),(1,_),(2,_),(3,_),(4,_),(9,_),(23,_),(31,_)]) rfl ⟨rfl,rfl,rfl,rfl,rfl,rfl,rfl,rfl,trivial⟩ ?_;intro w5 hw5 fw5;replace ab:=ab.step hw5;replace hm:=hm.step hw5;replace hq:=hq.step hw5;replace k2:=k2.step hw5;replace k3:=k3.step hw5;replace k4:=k4.step hw5;obtain⟨m2,rfl,hm2⟩:=(by assumption:True∧bQ _ _ _).2;have hm2o:=hm2.one;refine Zo 2 k4 ?_;intro w6 pw6;replace ab:=ab.put k4 pw6 e4;replace hm:=hm.put k4 pw6 e4;replace hq:=hq.put k4 pw6 e4;replace k2:=k2.put pw6 (by omega);replace k3:=k3.put pw6 (by omega);replace hm2:=hm2.put k4 pw6 e4;replace k4:=pw6.an;refine ba 0 1 2 3 4 9 23 (Zt (Cd.ret (ae.af ?_)));refine gp 2 k4 Tryz.underlying252 ?_;exact⟨_,rfl,⟨m2,rfl,hm2⟩,ab⟩
  ·have hle:a.natAbs≤b.natAbs:=Nat.le_of_lt (D1 hc2)
   have hab:(a+b).natAbs=b.natAbs-a.natAbs:=by simp at hc;omega
   have hl:=iE (n:=(a+b).natAbs) (by omega);refine Cd.skip (aI ?_);refine ff 8 ?_;intro w4 hw4 zw4;replace ab:=ab.step hw4;replace hm:=hm.step hw4;replace hq:=hq.step hw4;replace k2:=k2.step hw4;replace k3:=k3.step hw4;replace k4:=k4.step hw4;have zbel:=ab.size;have zlt:=k4.lt;refine eV 0 Tryz.underlying252 ?_;refine dZ Tryz.underlying4 k3 ?_;refine eV 1 Tryz.underlying252 ?_;refine dZ Tryz.underlying250 k3 ?_;refine eV 1 Tryz.underlying252 ?_;refine dZ Tryz.underlying250 k2 ?_;refine Dr.call (Φ:=fun v w=>dG w v (a+b).natAbs) rfl (fun w=>Ze Tryz.func226) rfl (dG.dD _) (fun w hG=>yb _ _ _ _ _ _ (hq.step hG) (hm.step hG) hle hab (by omega)) ?_;refine Dr.vS (j:=6) (Φ:=fun v w=>bQ w v (a+b)) rfl rfl rfl (fun u w=>Ze Tryz.func223) rfl (bQ.dD _) (fun u w hG hu=>nt _ u _ (a+b) _ hu (by omega) rfl (by simp at hc;rw[Bool.eq_iff_iff];simp;omega)) ?_;refine Dr.nil ?_;refine bb.open (j:=7) rfl ?_;intro u7;refine bb.done (F':=[(0,_),(1,_),(2,_),(3,_),(4,_),(9,_),(23,_),(39,_)]) rfl ⟨rfl,rfl,rfl,rfl,rfl,rfl,rfl,rfl,trivial⟩ ?_;intro w5 hw5 fw5;replace ab:=ab.step hw5;replace hm:=hm.step hw5;replace hq:=hq.step hw5;replace k2:=k2.step hw5;replace k3:=k3.step hw5;replace k4:=k4.step hw5;obtain⟨m2,rfl,hm2⟩:=(by assumption:True∧bQ _ _ _).2;have hm2o:=hm2.one;refine Zo 2 k4 ?_;intro w6 pw6;replace ab:=ab.put k4 pw6 e4;replace hm:=hm.put k4 pw6 e4;replace hq:=hq.put k4 pw6 e4;replace k2:=k2.put pw6 (by omega);replace k3:=k3.put pw6 (by omega);replace hm2:=hm2.put k4 pw6 e4;replace k4:=pw6.an;refine ba 0 1 2 3 4 9 23 (Zt (Cd.ret ?_));refine gp 2 k4 Tryz.underlying252 ?_;exact⟨_,rfl,⟨m2,rfl,hm2⟩,ab⟩
theorem E3 (n:Nat)(h:n<18446744073709551616):val [n%65536,n/65536%65536,n/4294967296%65536,n/281474976710656]=n:=by
 rw[GI];omega
theorem sz (w:World)(g n:Nat)(x0 x1 x2 x3:Int)(t:TypeId)(cs:Array Value)(hcs:cs= #[.int .u64 x0, .int .u64 x1, .int .u64 x2, .int .u64 x3]) (hg:aH w g t cs)
  (e0:x0=((n%65536:Nat):Int)) (e1:x1=((n/65536%65536:Nat):Int)) (e2:x2=((n/4294967296%65536:Nat):Int)) (e3:x3=((n/281474976710656:Nat):Int)):
  Reads w w.heap.size 1 (some ⟨g,0,none⟩) 4 (U [n%65536,n/65536%65536,n/4294967296%65536,n/281474976710656]):=by
 subst hcs e0 e1 e2 e3;refine⟨rfl,fun _=>⟨_,rfl,hg.lt,fun j u hu=> ?_⟩⟩;have hadd:(⟨g,0,none⟩:Addr).add j=⟨g,j,none⟩:=by unfold Addr.add;split<;>simp_all
 rw[hadd,hg.cell j]
 simpa[U] using hu
theorem mH (b:Bool)(m:Value)(h:m.oneCell'=true)(w:World):(Instr.build 252 #[(0, .bool b),(1,m)]).run Tryz.prog w= .ok (.agg #[.bool b,m]) w:=by
 have hu:=Tryz.underlying252
 cases m<;>first|(cases h;done)|go_simp
theorem EU (a:Int)(w:World)(h0: -9223372036854775808≤a)(h1:a≤9223372036854775807):
  Calls Tryz.prog 200 #[.int .i64 a] w fun e w'=>∃v,e= .returned v∧bQ w' v a∧Below w.heap.size w w':=by
 have hv:=E3 a.natAbs (by omega)
 have hd:∀d∈ [a.natAbs%65536,a.natAbs/65536%65536,a.natAbs/4294967296%65536,a.natAbs/281474976710656],d<65536:=by
  intro d hd;simp only[List.mem_cons,List.not_mem_nil,or_false] at hd;omega
 have ab:=Below.refl w.heap.size w;refine Zs 25 Tryz.func200 ?_;refine aj ?_;refine Zl bN ?_;intro g2 w1 n2;have e2:=Nat.le_trans ab.size n2.ge;replace ab:=ab.step n2.below;have k2:=n2.an;refine dF 0 2 (aB ?_);refine Zm ?_;refine Zv (aa.dJ rfl rfl Tryz.underlying2 Tryz.underlying94 (wrap_u64 a)) ?_;refine Za ?_;refine bn 0 2 3 (aI (aj ?_));refine Zm ?_;refine eI ?_;refine aQ 0 2 3 7 (Zt ?_);refine Cd.ak rfl (fun hc=> ?_) (fun hc=> ?_)
 ·skip
  refine Zr ?_;refine Zm ?_;refine Zv (aa.neg rfl rfl (r:=(a.natAbs:Int)) (by rw[wrap_u64];omega)) ?_;refine Za ?_;refine aQ 0 2 3 7 (aB ?_);refine Zm ?_;refine eI ?_;refine Zm ?_;refine Zv (aa.iR rfl rfl rfl (by omega) (by omega)) ?_;refine Zm ?_;refine Zv (aa.r8 rfl rfl rfl (by omega) (by omega) (by omega)) ?_;refine Zv (aa.iR rfl rfl rfl (by omega) (by omega)) ?_;refine Zm ?_;refine Zv (aa.r8 rfl rfl rfl (by omega) (by omega) (by omega)) ?_;refine Zv (aa.iR rfl rfl rfl (by omega) (by omega)) ?_;refine Zm ?_;refine Zv (aa.r8 rfl rfl rfl (by omega) (by omega) (by omega)) ?_;refine Seq.slice (vs:=[_,_,_,_]) (s:=1) rfl rfl rfl Tryz.underlying250 (by kernel_rfl) (ln) (by omega) (by omega) ⟨rfl,rfl,rfl,rfl,trivial⟩ rfl rfl rfl ?_;intro g22 w2 n22;have e22:=Nat.le_trans ab.size n22.ge;have l22:=Nat.lt_of_lt_of_le k2.lt n22.ge;replace ab:=ab.step n22.below;replace k2:=k2.step n22.below;have k22:=n22.an;have hr:=sz _ g22 a.natAbs _ _ _ _ _ _ rfl k22 (by omega) (by omega) (by omega) (by omega);refine Zc (Ze Tryz.func227) (lA _ _ 4 4 _ _ hr (Nat.le_refl _) hd (by omega) (by omega)) ?_;rintro e w7 ⟨rfl,rfl⟩;have hm:=gW hr hd (Nat.le_refl 4) (by omega) hv;have hm1:=hm.one;refine⟨_,rfl,?_⟩;rw[hv] at hm hm1⊢;refine Zv (aa.build rfl rfl (mH _ _ hm1 _)) ?_;refine Zo 2 k2 ?_;intro w3 pw3;replace ab:=ab.put k2 pw3 e2;replace k22:=k22.put pw3 (by omega);replace hm:=hm.put k2 pw3 e2;replace k2:=pw3.an;refine aQ 0 2 3 7 (Zt (Cd.ret ?_));refine gp 2 k2 Tryz.underlying252 ?_;exact⟨_,rfl,⟨_,rfl,hm⟩,ab⟩
 ·skip
  refine Cd.skip (aB ?_);refine Zm ?_;refine eI ?_;refine Zm ?_;refine Zv (aa.iR rfl rfl rfl (by omega) (by omega)) ?_;refine Zm ?_;refine Zv (aa.r8 rfl rfl rfl (by omega) (by omega) (by omega)) ?_;refine Zv (aa.iR rfl rfl rfl (by omega) (by omega)) ?_;refine Zm ?_;refine Zv (aa.r8 rfl rfl rfl (by omega) (by omega) (by omega)) ?_;refine Zv (aa.iR rfl rfl rfl (by omega) (by omega)) ?_;refine Zm ?_;refine Zv (aa.r8 rfl rfl rfl (by omega) (by omega) (by omega)) ?_;refine Seq.slice (vs:=[_,_,_,_]) (s:=1) rfl rfl rfl Tryz.underlying250 (by kernel_rfl) (ln) (by omega) (by omega) ⟨rfl,rfl,rfl,rfl,trivial⟩ rfl rfl rfl ?_;intro g22 w2 n22;have e22:=Nat.le_trans ab.size n22.ge;have l22:=Nat.lt_of_lt_of_le k2.lt n22.ge;replace ab:=ab.step n22.below;replace k2:=k2.step n22.below;have k22:=n22.an;have hr:=sz _ g22 a.natAbs _ _ _ _ _ _ rfl k22 (by omega) (by omega) (by omega) (by omega);refine Zc (Ze Tryz.func227) (lA _ _ 4 4 _ _ hr (Nat.le_refl _) hd (by omega) (by omega)) ?_;rintro e w7 ⟨rfl,rfl⟩;have hm:=gW hr hd (Nat.le_refl 4) (by omega) hv;have hm1:=hm.one;refine⟨_,rfl,?_⟩;rw[hv] at hm hm1⊢;refine Zv (aa.build rfl rfl (mH _ _ hm1 _)) ?_;refine Zo 2 k2 ?_;intro w3 pw3;replace ab:=ab.put k2 pw3 e2;replace k22:=k22.put pw3 (by omega);replace hm:=hm.put k2 pw3 e2;replace k2:=pw3.an;refine aQ 0 2 3 7 (Zt (Cd.ret ?_));refine gp 2 k2 Tryz.underlying252 ?_;exact⟨_,rfl,⟨_,rfl,hm⟩,ab⟩
theorem tA {a b:Int}:(0<tw a b)↔b<a:=by
 unfold tw;split
 ·constructor<;>intro h<;>omega
 ·split<;>constructor<;>intro h<;>omega
theorem yx {a b:Int}:(tw a b<0)↔a<b:=by
 unfold tw;split
 ·constructor<;>intro h<;>omega
 ·split<;>constructor<;>intro h<;>omega
theorem iW {n:Nat}(h:n<1606938044258990275541962092341162602522202993782792835301376):n<pN:=Nat.lt_of_lt_of_le h Ej
theorem bQ.agg {w:World}{v:Value}{z:Int}(h:bQ w v z):∃m,v= .agg #[.bool (decide (z<0)),m]∧m.oneCell'=true∧dG w m z.natAbs:=by
 obtain⟨m,e,hm⟩:=h;exact⟨m,e,hm.one,hm⟩
theorem bQ.put {w w':World}{v:Value}{z:Int}{g B:Nat}{T:TypeId}{cur cs:Array Value}(h:bQ w v z)(k:aH w g T cur)(p:lu w w' g T cs)(e:B≤g)(hcs:∀(k:IntKind) (z:Int),Value.int k z∉cur.toList:=by simp[Value.cells, *]):bQ w' v z:=by
 obtain⟨m,e1,hm⟩:=h;exact⟨m,e1,hm.put k p e hcs⟩
theorem sj (x:Value)(a:Int)(w:World)(hx:bQ w x a)(ha:a.natAbs<pN):
  Calls Tryz.prog 201 #[x] w fun e w'=>∃v,e= .returned v∧Below w.heap.size w w'∧bQ w' v (-a):=
 (Ar x a w hx (by have:=iE (n:=a.natAbs) (by omega);omega)).mono fun e w' ⟨v,he,h1,h2⟩=>⟨v,he,h2,h1⟩
theorem vV (x y:Value)(a b:Int)(w:World)(hx:bQ w x a)(hy:bQ w y b)(ha:a.natAbs<pN)(hb:b.natAbs<pN):
  Calls Tryz.prog 198 #[x,y] w fun e w'=>∃v,e= .returned v∧Below w.heap.size w w'∧bQ w' v (a+b):=
 (BR x y a b w hx hy ha hb).mono fun e w' ⟨v,he,h1,h2⟩=>⟨v,he,h2,h1⟩
theorem mU (a:Int)(w:World)(h0: -9223372036854775808≤a)(h1:a≤9223372036854775807):
  Calls Tryz.prog 200 #[.int .i64 a] w fun e w'=>∃v,e= .returned v∧Below w.heap.size w w'∧bQ w' v a:=
 (EU a w h0 h1).mono fun e w' ⟨v,he,h1,h2⟩=>⟨v,he,h2,h1⟩
theorem Ck (x y:Value)(a b:Int)(w:World)(hx:bQ w x a)(hy:bQ w y b)(ha:a.natAbs<pN)(hb:b.natAbs<pN):
  Calls Tryz.prog 228 #[x,y] w fun e w'=>e= .returned (.int .i64 (tw a b))∧Below w.heap.size w w':=by
 have hx0:=hx;have hy0:=hy;obtain⟨m,rfl,-,-⟩:=hx.agg;obtain⟨q,rfl,-,-⟩:=hy.agg;have ab:=Below.refl w.heap.size w;refine Zs 16 Tryz.func228 ?_;refine aj ?_;refine Seq.box rfl rfl rfl rfl rfl ?_;intro g2 w1 n2;have e2:=Nat.le_trans ab.size n2.ge;replace ab:=ab.step n2.below;replace hx:=hx.step n2.below;replace hy:=hy.step n2.below;have k2:=n2.an;refine Seq.box rfl rfl rfl rfl rfl ?_;intro g3 w2 n3;have e3:=Nat.le_trans ab.size n3.ge;have l3:=Nat.lt_of_lt_of_le k2.lt n3.ge;replace ab:=ab.step n3.below;replace hx:=hx.step n3.below;replace hy:=hy.step n3.below;replace k2:=k2.step n3.below;have k3:=n3.an;refine Za ?_;refine aO 0 1 2 3 4 (aI ?_);refine ff 5 ?_;intro w3 hw3 zw3;replace ab:=ab.step hw3;replace hx:=hx.step hw3;replace hy:=hy.step hw3;replace k2:=k2.step hw3;replace k3:=k3.step hw3;have zbel:=ab.size;have zlt:=k3.lt;refine Zd (fun w hG=>aa.eK rfl rfl Tryz.underlying252 rfl (k2.step hG) (m:=2) (by kernel_rfl) rfl) ?_;refine Zd (fun w hG=>aa.eK rfl rfl Tryz.underlying252 rfl (k3.step hG) (m:=2) (by kernel_rfl) rfl) ?_;refine Dr.call (Φ:=fun v w=>bQ w v (-b)) rfl (fun w=>Ze Tryz.func201) rfl (bQ.dD _) (fun w hG=>sj _ _ _ (hy.step hG) hb) ?_;refine Dr.vS (j:=2) (Φ:=fun v w=>bQ w v (a+ -b)) rfl rfl rfl (fun u w=>Ze Tryz.func198) rfl (bQ.dD _) (fun u w hG hu=>vV _ u a (-b) _ (hx.step hG) hu ha (by omega)) ?_;refine Dr.alloc rfl rfl (qK bN) rfl ?_;refine Dr.nil ?_;refine bb.open (j:=3) rfl ?_;intro u3;refine bb.open (j:=4) rfl ?_;intro u4;refine bb.done (F':=[(0,_),(1,_),(2,_),(3,_),(4,_),(5,_),(9,_)]) rfl ⟨rfl,rfl,rfl,rfl,rfl,rfl,rfl,trivial⟩ ?_;intro w4 hw4 fw4;replace ab:=ab.step hw4;replace hx:=hx.step hw4;replace hy:=hy.step hw4;replace k2:=k2.step hw4;replace k3:=k3.step hw4;obtain⟨⟨-,h9⟩,g5,rfl,k5,e5⟩:=fw4;obtain⟨m9,rfl,o9,h9⟩:=h9.agg;obtain⟨A9,c9,rfl,b9,c9',r9⟩:=id h9;have l5:=Nat.lt_of_lt_of_le zlt e5;replace e5:=Nat.le_trans zbel e5;refine Zo 2 k5 ?_;intro w5 pw5;replace ab:=ab.put k5 pw5 e5;replace hx:=hx.put k5 pw5 e5;replace hy:=hy.put k5 pw5 e5;replace k2:=k2.put pw5 (by omega);replace k3:=k3.put pw5 (by omega);replace h9:=h9.put k5 pw5 e5;replace k5:=pw5.an;refine aY 0 1 2 3 4 5 (aI (aj ?_));refine Zf 1 Tryz.underlying252 ?_;refine ZL Tryz.underlying250 k5 ?_;refine Zv (aa.len rfl rfl Tryz.underlying250) ?_;refine bC ?_;refine ba 0 1 2 3 4 5 13 (Zt ?_);refine Cd.ak rfl (fun hc=> ?_) (fun hc=> ?_)
 ·skip
  refine aj ?_;refine Za ?_;refine ba 0 1 2 3 4 5 13 (Zt (Cd.ret (ae.af ?_)));refine aZ ?_;refine⟨bt (int_eq ?_),ab⟩;have h0:=(jv (a+ -b).natAbs).1 (by omega);unfold tw;rw[if_neg (by omega),if_pos (by omega)]
 ·skip
  refine Cd.skip (aI (aj ?_));refine Zf 0 Tryz.underlying252 ?_;refine ZL Tryz.underlying4 k5 ?_;refine cB 0 1 2 3 4 5 13 15 (Zt ?_);refine Cd.ak rfl (fun hc=> ?_) (fun hc=> ?_)
  ·skip
   refine aj ?_;refine Za ?_;refine cB 0 1 2 3 4 5 13 15 (Zt (Cd.ret (ae.af ?_)));refine aZ ?_;refine⟨bt (int_eq ?_),ab⟩;unfold tw;rw[if_pos (by omega)]
  ·have h0:=mt (jv (a+ -b).natAbs).2 (by omega)
   refine Cd.skip (aB ?_);refine Za ?_;refine cB 0 1 2 3 4 5 13 15 (Zt (Cd.ret ?_));refine aZ ?_;refine⟨bt (int_eq ?_),ab⟩;unfold tw;rw[if_neg (by omega),if_neg (by omega)]
theorem jS (x y:Value)(a b:Int)(w:World)(hx:bQ w x a)(hy:bQ w y b)(ha:a.natAbs<pN)(hb:b.natAbs<pN):
  Calls Tryz.prog 228 #[x,y] w fun e w'=>e= .returned (.int .i64 (tw a b))∧Grow w w':=Ck x y a b w hx hy ha hb
theorem Eb {l:List Nat}{j d:Nat}(h:l[j]? =some d):(U l).toArray[j]? =some (.int .u64 (d:Int)):=by simp[U,h]
theorem EG (l:List Nat)(j d:Nat):(U l).toArray.setIfInBounds j (.int .u64 (d:Int))=(U (l.set j d)).toArray:=by
 apply Array.ext';simp[U,List.map_set]
theorem Fq (n:Nat):(List.replicate n (Value.int .u64 0)).toArray=(U (List.replicate n 0)).toArray:=by simp[U]
theorem yF (l:List Nat):∀(j d x:Nat),l[j]? =some x→val (l.set j d)+65536^j*x=val l+65536^j*d:=by
 induction l with
 |nil=>intro j d x h;simp at h
 |cons a l ih=>
  intro j d x h
  cases j with
  |zero=>
   obtain rfl:a=x:=by simpa using h
   simp[val];omega
  |succ j=>
   have:=ih j d x (by simpa using h);rw[List.set_cons_succ,val,val,Nat.pow_succ,Nat.mul_right_comm,Nat.mul_right_comm _ _ d];omega
theorem Bj {l:List Nat}(h:∀d∈l,d<65536)(j v:Nat)(hv:v<65536):∀d∈l.set j v,d<65536:=by
 intro d hd;rcases List.mem_or_eq_of_mem_set hd with h1|rfl
 ·exact h d h1
 ·exact hv
theorem val_zero (n:Nat):val (List.replicate n 0)=0:=by
 induction n with
 |zero=>rfl
 |succ n ih=>rw[List.replicate_succ,val,ih]
theorem uf (l:List Nat)(j x:Nat)(h:val l<65536^j)(hx:l[j]? =some x):x=0:=by
 have e:=oR l j x hx;rcases Nat.eq_zero_or_pos x with h0|h0
 ·exact h0
 ·exfalso
  have h1:65536^j*1≤65536^j*(x+65536*val (l.drop (j+1))):=Nat.mul_le_mul_left _ (by omega);omega
theorem xm {l:List Nat}(h:∀d∈l,d<65536){j d:Nat}(hj:l[j]? =some d):d<65536:=h d (List.mem_of_getElem? hj)
theorem xq (P vl vl' x c v ai bk S:Nat)(h:vl'+P*c=S)(hv:v=x+ai*bk+c)(h2:vl+P*x=vl'+P*(v%65536)):vl+P*65536*(v/65536)=S+P*(ai*bk):=by
 have e0:v%65536+65536*(v/65536)=v:=Nat.mod_add_div v 65536;have e1:P*v=P*(v%65536)+P*65536*(v/65536):=by rw[Nat.mul_assoc,←Nat.mul_add,e0]
 have e2:P*v=P*x+P*(ai*bk)+P*c:=by rw[hv,Nat.mul_add,Nat.mul_add]
 omega
theorem xP (k:Nat)(A:Option Addr)(n cap:Nat)(l:List Nat)(w:World)(hr:Reads w w.heap.size 1 A n (U l))(hd:∀d∈l,d<65536)(hn:n≤1073741824)(hc:n≤cap)(hk:(bj (val l)).length=k):
  Calls Tryz.prog 227 #[.slice A n cap] w fun e w'=>e= .returned (.slice A k cap)∧Grow w w':=
 (lA _ A n cap l w hr (Nat.le_refl _) hd hn hc).mono fun e w' ⟨h1,h2⟩=>⟨by rw[h1,hk],by rw[←h2];exact Grow.refl _⟩
theorem sign_mul (a b:Int):(decide (decide (a<0)≠decide (b<0))&&decide (0<(a*b).natAbs))=decide (a*b<0):=by
 rcases Int.lt_trichotomy a 0 with h1|h1|h1<;>rcases Int.lt_trichotomy b 0 with h2|h2|h2
 ·have:=Int.mul_pos_of_neg_of_neg h1 h2
  simp[h1,h2];omega
 ·subst h2;simp
 ·have:=Int.mul_neg_of_neg_of_pos h1 h2
  have h3:¬b<0:=by omega
  simp[h1,h3,this];omega
 ·subst h1;simp
 ·subst h1;simp
 ·subst h1;simp
 ·have:=Int.mul_neg_of_pos_of_neg h1 h2
  have h3:¬a<0:=by omega
  simp[h2,h3,this];omega
 ·subst h2;simp
 ·have:=Int.mul_pos h1 h2
  have h3:¬a<0:=by omega
  have h4:¬b<0:=by omega
  simp[h3,h4];omega
theorem yX (x y:Value)(a b:Int)(w:World)(hx:bQ w x a)(hy:bQ w y b)(ha:a.natAbs<pN)(hb:b.natAbs<pN):
  Calls Tryz.prog 199 #[x,y] w fun e w'=>∃v,e= .returned v∧Below w.heap.size w w'∧bQ w' v (a*b):=by
 obtain⟨m,rfl,om,hm⟩:=hx.agg;obtain⟨q,rfl,oq,hq⟩:=hy.agg;have hla:=iE (n:=a.natAbs) (by omega);have hlb:=iE (n:=b.natAbs) (by omega);obtain⟨A,ca,rfl,hca,hca2,hra⟩:=hm;obtain⟨B,cb,rfl,hcb,hcb2,hrb⟩:=hq
 generalize hma:(bj a.natAbs).length=la at *
 generalize hmb:(bj b.natAbs).length=lb at *
 have ab:=Below.refl w.heap.size w;refine Zs 87 Tryz.func199 ?_;refine aj ?_;refine Seq.box rfl rfl rfl rfl rfl ?_;intro g2 w1 n2;have e2:=Nat.le_trans ab.size n2.ge;replace ab:=ab.step n2.below;have k2:=n2.an;refine Seq.box rfl rfl rfl rfl rfl ?_;intro g3 w2 n3;have e3:=Nat.le_trans ab.size n3.ge;have l3:=Nat.lt_of_lt_of_le k2.lt n3.ge;replace ab:=ab.step n3.below;replace k2:=k2.step n3.below;have k3:=n3.an;refine Zl bN ?_;intro g4 w3 n4;have e4:=Nat.le_trans ab.size n4.ge;have l4:=Nat.lt_of_lt_of_le k3.lt n4.ge;replace ab:=ab.step n4.below;replace k2:=k2.step n4.below;replace k3:=k3.step n4.below;have k4:=n4.an;refine aO 0 1 2 3 4 (aB ?_);refine Zf 1 Tryz.underlying252 ?_;refine ZL Tryz.underlying250 k2 ?_;refine Zv (aa.len rfl rfl Tryz.underlying250) ?_;refine Zf 1 Tryz.underlying252 ?_;refine ZL Tryz.underlying250 k3 ?_;refine Zv (aa.len rfl rfl Tryz.underlying250) ?_;refine cG ?_;refine cG ?_;refine Seq.make rfl rfl rfl Tryz.underlying250 (by kernel_rfl) ln rfl (b:=8) (by kernel_rfl) (m:=la+lb+1) (by omega) (by omega) (by omega) rfl rfl rfl ?_;intro g18 w4 n18;have e18:=Nat.le_trans ab.size n18.ge;have l18:=Nat.lt_of_lt_of_le k4.lt n18.ge;replace ab:=ab.step n18.below;replace k2:=k2.step n18.below;replace k3:=k3.step n18.below;replace k4:=k4.step n18.below;have k18:=n18.an;refine Za ?_;refine aY 0 1 2 3 4 5 (aI (aj ?_));refine Za ?_;refine ba 0 1 2 3 4 5 6 (Zt (Cd.block ?_));rw[Fq] at k18
 refine Cd.loop (σ:=Nat × List Nat) (fun s=>[(2, .pointer (some ⟨g2,0,none⟩)),(3, .pointer (some ⟨g3,0,none⟩)),(4, .pointer (some ⟨g4,0,none⟩)),(5, .slice (some ⟨g18,0,none⟩) (la+lb+1) (la+lb+1)),(6, .int .i64 (s.1:Int))])
  (fun s wr=>s.1≤la∧s.2.length=la+lb+1∧(∀d∈s.2,d<65536)∧val s.2=val ((bj a.natAbs).take s.1)*b.natAbs∧Below w.heap.size w wr∧aH wr g2 252 #[.bool (decide (a<0)), .slice A la ca]∧aH wr g3 252 #[.bool (decide (b<0)), .slice B lb cb]∧aH wr g4 252 #[.bool false, .slice none 0 0]∧aH wr g18 94 (U s.2).toArray)
  (fun s=>la-s.1) (0,List.replicate (la+lb+1) 0) ⟨by omega,by simp,by simp,by simp[val_zero,val],ab,k2,k3,k4,k18⟩ ⟨rfl,rfl,rfl,rfl,rfl,trivial⟩ ?_
 clear ab k2 k3 k4 k18;rintro⟨i,l⟩ wr ⟨hi,hl,hd,hv,ab,k2,k3,k4,k18⟩;dsimp only at hi hl hd hv ab k2 k3 k4 k18⊢;refine Cd.seq (aj ?_);refine Zm ?_;refine Zf 1 Tryz.underlying252 ?_;refine ZL Tryz.underlying250 k2 ?_;refine Zv (aa.len rfl rfl Tryz.underlying250) ?_;refine eI ?_;refine aY 2 3 4 5 6 23 (Zt ?_);refine Cd.ak rfl (fun hc=> ?_) (fun hc=> ?_)
 ·obtain⟨ad,p,rfl,hbp,hp,hcp⟩:=hra.B4 ab (Nat.le_refl _) (show i<la by omega)
  have ci:Cell wr w.heap.size (ad.add i) (.int .u64 p):=⟨by rw[av];exact hbp,hcp⟩;have hp2:=xm (gB _) hp;refine Cd.skip (aI (Cd.block (aj ?_)));refine Za ?_;refine ba 2 3 4 5 6 7 23 (aI (aj ?_));refine Za ?_;refine cB 2 3 4 5 6 7 8 23 (Zt (Cd.block ?_))
  refine Cd.loop (σ:=Nat × Nat × List Nat) (fun s=>[(2, .pointer (some ⟨g2,0,none⟩)),(3, .pointer (some ⟨g3,0,none⟩)),(4, .pointer (some ⟨g4,0,none⟩)),(5, .slice (some ⟨g18,0,none⟩) (la+lb+1) (la+lb+1)),(6, .int .i64 (i:Int)),(7, .int .u64 (s.2.1:Int)),(8, .int .i64 (s.1:Int))])
   (fun s wr=>s.1≤lb∧s.2.1<65536∧s.2.2.length=la+lb+1∧(∀d∈s.2.2,d<65536)∧val s.2.2+65536^(i+s.1)*s.2.1=val l+65536^i*(p*val ((bj b.natAbs).take s.1))∧(∀j,i+s.1≤j→s.2.2[j]? =l[j]?)∧
    Below w.heap.size w wr∧aH wr g2 252 #[.bool (decide (a<0)), .slice (some ad) la ca]∧aH wr g3 252 #[.bool (decide (b<0)), .slice B lb cb]∧aH wr g4 252 #[.bool false, .slice none 0 0]∧aH wr g18 94 (U s.2.2).toArray∧Cell wr w.heap.size (ad.add i) (.int .u64 p))
   (fun s=>lb-s.1) (0,0,l) ⟨by omega,by simp,hl,hd,by simp[val],fun j _=>rfl,ab,k2,k3,k4,k18,ci⟩ ⟨rfl,rfl,rfl,rfl,rfl,rfl,rfl,trivial⟩ ?_
  clear ab k2 k3 k4 k18 ci;rintro⟨k,c,l'⟩ wr' ⟨hk,hc2,hl',hd',hv',hsame,ab,k2,k3,k4,k18,ci⟩;dsimp only at hk hc2 hl' hd' hv' hsame ab k2 k3 k4 k18 ci⊢;refine Cd.seq (aj ?_);refine Zm ?_;refine Zf 1 Tryz.underlying252 ?_;refine ZL Tryz.underlying250 k3 ?_;refine Zv (aa.len rfl rfl Tryz.underlying250) ?_;refine eI ?_;refine cB 2 3 4 5 6 7 8 30 (Zt ?_);refine Cd.ak rfl (fun hc=> ?_) (fun hc=> ?_)
  ·obtain⟨bd,bk,rfl,hbb,hbk,hcb⟩:=hrb.B4 ab (Nat.le_refl _) (show k<lb by omega)
   have cj:Cell wr' w.heap.size (bd.add k) (.int .u64 bk):=⟨by rw[av];exact hbb,hcb⟩;have hbk2:=xm (gB _) hbk;obtain⟨x,hx⟩:∃x,l'[i+k]? =some x:=⟨_,List.getElem?_eq_getElem (show i+k<l'.length by omega)⟩;have hx2:=xm hd' hx;have hpb:p*bk≤65535*65535:=Nat.mul_le_mul (by omega) (by omega);refine Cd.skip (aI (Cd.block (Cd.seq ?_)));refine ff 20 ?_;intro w5 hw5 zw5;replace ab:=ab.step hw5;replace k2:=k2.step hw5;replace k3:=k3.step hw5;replace k4:=k4.step hw5;replace k18:=k18.step hw5;replace ci:=ci.step hw5;replace cj:=cj.step hw5;have zbel:=ab.size;have zlt:=k18.lt;refine cf ?_;refine cf ?_;refine cf ?_;refine Zd (fun w hG=>aa.kA rfl rfl rfl (by omega) (by omega)) ?_;refine Zd (fun w hG=>aa.dS rfl rfl rfl Tryz.underlying250 (by kernel_rfl) (j:=i+k) (by omega) (by omega)) ?_;refine Zd (fun w hG=>aa.au rfl rfl Tryz.underlying94 rfl (k18.step hG) (Eb hx)) ?_;refine eV 1 Tryz.underlying252 ?_;refine dZ Tryz.underlying250 k2 ?_;refine cf ?_;refine Zd (fun w hG=>aa.jy rfl rfl rfl Tryz.underlying250 (by kernel_rfl) (j:=i) rfl (by omega)) ?_;refine Zd (fun w hG=>aa.jh rfl rfl Tryz.underlying94 rfl (ci.step hG).val) ?_;refine eV 1 Tryz.underlying252 ?_;refine dZ Tryz.underlying250 k3 ?_;refine cf ?_;refine Zd (fun w hG=>aa.jy rfl rfl rfl Tryz.underlying250 (by kernel_rfl) (j:=k) rfl (by omega)) ?_;refine Zd (fun w hG=>aa.jh rfl rfl Tryz.underlying94 rfl (cj.step hG).val) ?_;refine Zd (fun w hG=>aa.Dy rfl rfl rfl (r:=((p*bk:Nat):Int)) (by rw[←Int.natCast_mul];exact jK (by omega) (by omega))) ?_;refine Zd (fun w hG=>aa.zj rfl rfl rfl (r:=((x+p*bk:Nat):Int)) (by rw[←Int.natCast_add];exact jK (by omega) (by omega))) ?_;refine cf ?_;refine Zd (fun w hG=>aa.zj rfl rfl rfl (r:=((x+p*bk+c:Nat):Int)) (by rw[←Int.natCast_add];exact jK (by omega) (by omega))) ?_;refine Dr.nil ?_;refine bb.done (F':=[(2,_),(3,_),(4,_),(5,_),(6,_),(7,_),(8,_),(30,_),(52,_)]) rfl ⟨rfl,rfl,rfl,rfl,rfl,rfl,rfl,rfl,rfl,trivial⟩ ?_;intro w6 hw6 fw6;replace ab:=ab.step hw6;replace k2:=k2.step hw6;replace k3:=k3.step hw6;replace k4:=k4.step hw6;replace k18:=k18.step hw6;replace ci:=ci.step hw6;replace cj:=cj.step hw6;refine Za ?_;refine dY 2 3 4 5 6 7 8 9 30 (aB ?_);refine Zm ?_;refine Zm ?_;refine Zm ?_;refine cG ?_;refine Zm ?_;refine Zv (aa.Fc 65536 rfl rfl rfl rfl (by omega)) ?_;refine Zv (aa.dS rfl rfl rfl Tryz.underlying250 (by kernel_rfl) (j:=i+k) (by omega) (by omega)) ?_;refine Seq.ly rfl rfl rfl (by kernel_rfl) rfl rfl k18 (Eb hx) rfl rfl ?_;intro w7 pw7;replace ab:=ab.put k18 pw7 e18;replace k2:=k2.put pw7 (by omega);replace k3:=k3.put pw7 (by omega);replace k4:=k4.put pw7 (by omega);replace ci:=ci.put k18 pw7 e18;replace cj:=cj.put k18 pw7 e18;replace k18:=pw7.an;rw[EG] at k18;refine dY 2 3 4 5 6 7 8 9 30 (eh ?_);refine Zm ?_;refine Zv (aa.CD 65536 rfl rfl rfl rfl (by omega) (by omega)) ?_;refine Za ?_;refine dY 2 3 4 5 6 7 8 9 30 (ae.ah (eh ?_));refine Zm ?_;refine cG ?_;refine Za ?_;refine dY 2 3 4 5 6 7 8 9 30 ?_;refine ae.round (k+1,(x+p*bk+c)/65536,l'.set (i+k) ((x+p*bk+c)%65536)) ⟨rfl,rfl,rfl,rfl,rfl,rfl,rfl,trivial⟩ ?_ (by dsimp only;omega);have hval:=yF l' (i+k) ((x+p*bk+c)%65536) x hx;refine⟨by dsimp only;omega,by dsimp only;omega,by simp[hl'],Bj hd' _ _ (by omega),?_,?_,ab,k2,k3,k4,k18,ci⟩
   ·dsimp only
    rw[bz,kx _ _ _ hbk,←Nat.add_assoc,Nat.pow_succ];have:=xq (65536^(i+k)) _ _ x c _ p bk _ hv' rfl hval;rw[this,Nat.pow_add];rw[Nat.mul_add p,Nat.mul_add (65536^i)];have e3:65536^i*65536^k*(p*bk)=65536^i*(p*(65536^k*bk)):=by rw[Nat.mul_assoc,Nat.mul_left_comm p (65536^k) bk]
    omega
   ·intro j hj
    dsimp only at hj⊢;rw[List.getElem?_set_ne (by omega)];exact hsame j (by omega)
  ·obtain rfl:k=lb:=by omega
   have hlt:val l<65536^(i+k):=by
    rw[hv,Nat.pow_add];have h1:=oV ((bj a.natAbs).take i) (fun d hd=>gB _ d (List.mem_of_mem_take hd));rw[List.length_take,hma,Nat.min_eq_left (by omega)] at h1;have h2:=iP b.natAbs;rw[hmb] at h2;exact Nat.mul_lt_mul_of_lt_of_lt h1 h2
   obtain⟨x,hx0⟩:∃x,l[i+k]? =some x:=⟨_,List.getElem?_eq_getElem (show i+k<l.length by omega)⟩;obtain rfl:=uf l (i+k) x hlt hx0;have hx:l'[i+k]? =some 0:=by rw[hsame _ (by omega),hx0]
   have hval:val (l'.set (i+k) (0+c))=val l'+65536^(i+k)*c:=by have:=yF l' (i+k) (0+c) 0 hx;simpa using this
   refine Cd.exit (ae.aC (ae.aA (ae.ay (Zt ?_))));refine ff 17 ?_;intro w5 hw5 zw5;replace ab:=ab.step hw5;replace k2:=k2.step hw5;replace k3:=k3.step hw5;replace k4:=k4.step hw5;replace k18:=k18.step hw5;replace ci:=ci.step hw5;have zbel:=ab.size;have zlt:=k18.lt;refine cf ?_;refine cf ?_;refine eV 1 Tryz.underlying252 ?_;refine dZ Tryz.underlying250 k3 ?_;refine Zd (fun w hG=>aa.len rfl rfl Tryz.underlying250) ?_;refine Zd (fun w hG=>aa.kA rfl rfl rfl (by omega) (by omega)) ?_;refine cf ?_;refine cf ?_;refine eV 1 Tryz.underlying252 ?_;refine dZ Tryz.underlying250 k3 ?_;refine Zd (fun w hG=>aa.len rfl rfl Tryz.underlying250) ?_;refine Zd (fun w hG=>aa.kA rfl rfl rfl (by omega) (by omega)) ?_;refine Zd (fun w hG=>aa.dS rfl rfl rfl Tryz.underlying250 (by kernel_rfl) (j:=i+k) (by omega) (by omega)) ?_;refine Zd (fun w hG=>aa.au rfl rfl Tryz.underlying94 rfl (k18.step hG) (Eb hx)) ?_;refine cf ?_;refine Zd (fun w hG=>aa.Gb rfl rfl rfl (by omega)) ?_;refine Zd (fun w hG=>aa.dS rfl rfl rfl Tryz.underlying250 (by kernel_rfl) (j:=i+k) (by omega) (by omega)) ?_;refine Dr.nil ?_;refine bb.done (F':=[(2,_),(3,_),(4,_),(5,_),(6,_),(7,_),(8,_),(30,_),(77,_),(78,_)]) rfl ⟨rfl,rfl,rfl,rfl,rfl,rfl,rfl,rfl,rfl,rfl,trivial⟩ ?_;intro w6 hw6 fw6;replace ab:=ab.step hw6;replace k2:=k2.step hw6;replace k3:=k3.step hw6;replace k4:=k4.step hw6;replace k18:=k18.step hw6;replace ci:=ci.step hw6;refine Seq.ly rfl rfl rfl (by kernel_rfl) rfl rfl k18 (Eb hx) rfl rfl ?_;intro w7 pw7;replace ab:=ab.put k18 pw7 e18;replace k2:=k2.put pw7 (by omega);replace k3:=k3.put pw7 (by omega);replace k4:=k4.put pw7 (by omega);replace ci:=ci.put k18 pw7 e18;replace k18:=pw7.an;rw[EG] at k18;refine cB 2 3 4 5 6 7 8 30 (ae.ah (eh ?_));refine Zm ?_;refine cG ?_;refine Za ?_;refine cB 2 3 4 5 6 7 8 30 ?_;refine ae.round (i+1,l'.set (i+k) (0+c)) ⟨rfl,rfl,rfl,rfl,rfl,trivial⟩ ?_ (by dsimp only;omega);refine⟨by dsimp only;omega,by simp[hl'],Bj hd' _ _ (by omega),?_,ab,k2,k3,k4,k18⟩;dsimp only;rw[bz,kx _ _ _ hp,Nat.add_mul,←hv];rw[List.take_of_length_le (by omega),dC] at hv';rw[Nat.mul_assoc];omega
 ·obtain rfl:i=la:=by omega
  rw[List.take_of_length_le (by omega),dC] at hv;refine Cd.exit (ae.aC (ae.aA (ae.ay (aI ?_))));refine ff 8 ?_;intro w5 hw5 zw5;replace ab:=ab.step hw5;replace k2:=k2.step hw5;replace k3:=k3.step hw5;replace k4:=k4.step hw5;replace k18:=k18.step hw5;have zbel:=ab.size;have zlt:=k18.lt;refine eV 0 Tryz.underlying252 ?_;refine dZ Tryz.underlying4 k2 ?_;refine eV 0 Tryz.underlying252 ?_;refine dZ Tryz.underlying4 k3 ?_;refine Zd (fun w hG=>aa.j7 rfl rfl rfl Tryz.underlying4) ?_;refine cf ?_
  have hlen18:(bj (a*b).natAbs).length≤i+lb+1:=by
   rw[Int.natAbs_mul,←hv,←hl];exact ij _ _ (oV l hd)
  have hr18:Reads w5 w5.heap.size 1 (some ⟨g18,0,none⟩) (i+lb+1) (U l):=by
   refine⟨by rw[qU];omega,fun _=>⟨_,rfl,k18.lt,fun j u hu=> ?_⟩⟩;have hadd:(⟨g18,0,none⟩:Addr).add j=⟨g18,j,none⟩:=by unfold Addr.add;split<;>simp_all
   rw[hadd,k18.cell j]
   simpa using hu
  have hm18:dG w5 (.slice (some ⟨g18,0,none⟩) (bj (a*b).natAbs).length (i+lb+1)) (a*b).natAbs:=by
   have:=gW hr18 hd (Nat.le_refl _) (by omega) (show val l=(a*b).natAbs by rw[hv,Int.natAbs_mul])
   rwa [show val l=(a*b).natAbs by rw[hv,Int.natAbs_mul]] at this
  refine Dr.cJ rfl (fun w=>Ze Tryz.func227) rfl (fun w hG=>xP _ _ _ _ l w ((hr18.below (show Below w5.heap.size w5 w from hG)).more hG.size) hd (by omega) (by omega) (show(bj (val l)).length=(bj (a*b).natAbs).length by rw[hv,Int.natAbs_mul])) ?_;refine Dr.call (Φ:=fun v w=>bQ w v (a*b)) rfl (fun w=>Ze Tryz.func223) rfl (bQ.dD _) (fun w hG=>nt _ _ _ (a*b) _ (hm18.step hG) (by omega) rfl (sign_mul a b)) ?_;refine Dr.nil ?_;refine bb.open (j:=7) rfl ?_;intro u7;refine bb.done (F':=[(2,_),(3,_),(4,_),(5,_),(6,_),(23,_),(86,_)]) rfl ⟨rfl,rfl,rfl,rfl,rfl,rfl,rfl,trivial⟩ ?_;intro w6 hw6 fw6;replace ab:=ab.step hw6;replace k2:=k2.step hw6;replace k3:=k3.step hw6;replace k4:=k4.step hw6;replace k18:=k18.step hw6;obtain⟨m9,rfl,o9,h9⟩:=(by assumption:True∧bQ _ _ _).2.agg;refine Zo 2 k4 ?_;intro w7 pw7;replace ab:=ab.put k4 pw7 e4;replace k2:=k2.put pw7 (by omega);replace k3:=k3.put pw7 (by omega);replace k18:=k18.put pw7 (by omega);replace h9:=h9.put k4 pw7 e4;replace k4:=pw7.an;refine aY 2 3 4 5 6 23 (Zt (Cd.ret ?_));refine gp 2 k4 Tryz.underlying252 ?_;exact⟨_,rfl,ab,_,rfl,h9⟩
theorem wY (x y:Value)(a b:Int)(w:World)(hx:bQ w x a)(hy:bQ w y b)(ha:a.natAbs<pN)(hb:b.natAbs<pN):
  Calls Tryz.prog 199 #[x,y] w fun e w'=>∃v,e= .returned v∧Grow w w'∧bQ w' v (a*b):=yX x y a b w hx hy ha hb
def iF (l:List Nat)(k:Nat):Nat:=val (l.drop k)
theorem tV (l:List Nat)(k d:Nat)(h:l[k]? =some d):iF l k=d+65536*iF l (k+1):=by
 obtain⟨hk,rfl⟩:=List.getElem?_eq_some_iff.1 h;unfold iF;rw[List.drop_eq_getElem_cons hk,val]
theorem pZ (l:List Nat)(k:Nat):iF l k≤val l:=by
 have:=m5 (l.take k) (l.drop k);rw[List.take_append_drop] at this;unfold iF;have h1:1*val (l.drop k)≤65536^(l.take k).length*val (l.drop k):=Nat.mul_le_mul_right _ (Nat.pos_of_ne_zero (by simp));omega
theorem Ak (x:Value)(a:Int)(w:World)(hx:bQ w x a)(ha:a.natAbs<pN):
  Calls Tryz.prog 202 #[x] w fun e w'=>e= .returned (.tuple #[.int .i64 (br a), .bool (fits a)])∧Below w.heap.size w w':=by
 obtain⟨m,rfl,om,hm⟩:=hx.agg;have ab:=Below.refl w.heap.size w
 by_cases hgt:9223372036854775807<a
 ·have hf:=lq (.inr hgt)
  have hs:br a=0:=by unfold br;rw[hf];rfl
  rw[hf,hs];refine Zs 38 Tryz.func202 ?_;refine aj ?_;refine Seq.box rfl rfl rfl rfl rfl ?_;intro g1 w1 n1;have e1:=Nat.le_trans ab.size n1.ge;replace ab:=ab.step n1.below;replace hx:=hx.step n1.below;have k1:=n1.an;refine Za ?_;refine Za ?_;refine aQ 0 1 2 3 (aI (Cd.seq ?_));refine ff 10 ?_;intro w2 hw2 zw2;replace ab:=ab.step hw2;replace hx:=hx.step hw2;replace k1:=k1.step hw2;have zbel:=ab.size;have zlt:=k1.lt;refine Zd (fun w hG=>aa.eK rfl rfl Tryz.underlying252 rfl (k1.step hG) (m:=2) (by kernel_rfl) rfl) ?_;refine Dr.call (Φ:=fun v w=>bQ w v 9223372036854775807) rfl (fun w=>Ze Tryz.func200) rfl (bQ.dD _) (fun w hG=>mU _ _ (by omega) (by omega)) ?_;refine Dr.xk (j:=1) rfl rfl rfl (fun u w=>Ze Tryz.func228) rfl (fun u w hG hu=>jS _ u a _ _ (hx.step hG) hu ha (iW (by decide))) ?_;refine Zd (fun w hG=>(aa.gtr rfl rfl rfl).lK (tA.2 hgt)) ?_;refine cf ?_;refine dm ?_;refine dm ?_;refine dm ?_;refine dm ?_;refine Zd (fun w hG=>aa.cQ rfl rfl rfl) ?_;refine Dr.nil ?_;refine bb.done (F':=[(0,_),(1,_),(2,_),(3,_),(15,_)]) rfl ⟨rfl,rfl,rfl,rfl,rfl,trivial⟩ ?_;intro w3 hw3 fw3;replace ab:=ab.step hw3;replace hx:=hx.step hw3;replace k1:=k1.step hw3;refine aO 0 1 2 3 15 (Zt ?_);refine Cd.aU rfl rfl ?_;refine aj ?_;refine Za ?_;refine Za ?_;refine aO 0 1 2 3 15 (Zt (Cd.ret (ae.af ?_)));refine dH ?_;exact⟨rfl,ab⟩
 ·by_cases hlt:a< -9223372036854775808
  ·have hf:=lq (.inl hlt)
   have hs:br a=0:=by unfold br;rw[hf];rfl
   rw[hf,hs];refine Zs 38 Tryz.func202 ?_;refine aj ?_;refine Seq.box rfl rfl rfl rfl rfl ?_;intro g1 w1 n1;have e1:=Nat.le_trans ab.size n1.ge;replace ab:=ab.step n1.below;replace hx:=hx.step n1.below;have k1:=n1.an;refine Za ?_;refine Za ?_;refine aQ 0 1 2 3 (aI (Cd.seq ?_));refine ff 10 ?_;intro w2 hw2 zw2;replace ab:=ab.step hw2;replace hx:=hx.step hw2;replace k1:=k1.step hw2;have zbel:=ab.size;have zlt:=k1.lt;refine Zd (fun w hG=>aa.eK rfl rfl Tryz.underlying252 rfl (k1.step hG) (m:=2) (by kernel_rfl) rfl) ?_;refine Dr.call (Φ:=fun v w=>bQ w v 9223372036854775807) rfl (fun w=>Ze Tryz.func200) rfl (bQ.dD _) (fun w hG=>mU _ _ (by omega) (by omega)) ?_;refine Dr.xk (j:=1) rfl rfl rfl (fun u w=>Ze Tryz.func228) rfl (fun u w hG hu=>jS _ u a _ _ (hx.step hG) hu ha (iW (by decide))) ?_;refine Zd (fun w hG=>(aa.gtr rfl rfl rfl).iC (mt tA.1 hgt)) ?_;refine cf ?_;refine cn (fun w hG=>aa.eK rfl rfl Tryz.underlying252 rfl (k1.step hG) (m:=2) (by kernel_rfl) rfl) ?_;refine Dr.ue (Φ:=fun v w=>bQ w v (-9223372036854775808)) rfl (fun w=>Ze Tryz.func200) rfl rfl rfl (bQ.dD _) (fun w hG=>mU _ _ (by omega) (by omega)) ?_;refine Dr.yW (j:=6) rfl rfl rfl (fun u w=>Ze Tryz.func228) rfl rfl (fun _=>rfl) (fun u w hG hu=>jS _ u a _ _ (hx.step hG) hu ha (iW (by decide))) ?_;refine cn (fun w hG=>(aa.lss rfl rfl rfl).lK (yx.2 hlt)) ?_;refine Zd (fun w hG=>aa.bq rfl rfl rfl) ?_;refine Dr.nil ?_;refine bb.done (F':=[(0,_),(1,_),(2,_),(3,_),(15,_)]) rfl ⟨rfl,rfl,rfl,rfl,rfl,trivial⟩ ?_;intro w3 hw3 fw3;replace ab:=ab.step hw3;replace hx:=hx.step hw3;replace k1:=k1.step hw3;refine aO 0 1 2 3 15 (Zt ?_);refine Cd.aU rfl rfl ?_;refine aj ?_;refine Za ?_;refine Za ?_;refine aO 0 1 2 3 15 (Zt (Cd.ret (ae.af ?_)));refine dH ?_;exact⟨rfl,ab⟩
  ·have hf:=pV (a:=a) (by omega) (by omega)
   have hs:br a=a:=by unfold br;rw[if_pos hf]
   rw[hf,hs];obtain⟨A,cm,rfl,hcm,hcm2,hrm⟩:=id hm;have hlen:(bj a.natAbs).length≤61:=iE (by omega);have hba:a.natAbs<18446744073709551616:=by omega
   generalize hL:(bj a.natAbs).length=L at *
   refine Zs 38 Tryz.func202 ?_;refine aj ?_;refine Seq.box rfl rfl rfl rfl rfl ?_;intro g1 w1 n1;have e1:=Nat.le_trans ab.size n1.ge;replace ab:=ab.step n1.below;replace hx:=hx.step n1.below;have k1:=n1.an;refine Za ?_;refine Za ?_;refine aQ 0 1 2 3 (aI (Cd.seq ?_));refine ff 10 ?_;intro w2 hw2 zw2;replace ab:=ab.step hw2;replace hx:=hx.step hw2;replace k1:=k1.step hw2;have zbel:=ab.size;have zlt:=k1.lt;refine Zd (fun w hG=>aa.eK rfl rfl Tryz.underlying252 rfl (k1.step hG) (m:=2) (by kernel_rfl) rfl) ?_;refine Dr.call (Φ:=fun v w=>bQ w v 9223372036854775807) rfl (fun w=>Ze Tryz.func200) rfl (bQ.dD _) (fun w hG=>mU _ _ (by omega) (by omega)) ?_;refine Dr.xk (j:=1) rfl rfl rfl (fun u w=>Ze Tryz.func228) rfl (fun u w hG hu=>jS _ u a _ _ (hx.step hG) hu ha (iW (by decide))) ?_;refine Zd (fun w hG=>(aa.gtr rfl rfl rfl).iC (mt tA.1 hgt)) ?_;refine cf ?_;refine cn (fun w hG=>aa.eK rfl rfl Tryz.underlying252 rfl (k1.step hG) (m:=2) (by kernel_rfl) rfl) ?_;refine Dr.ue (Φ:=fun v w=>bQ w v (-9223372036854775808)) rfl (fun w=>Ze Tryz.func200) rfl rfl rfl (bQ.dD _) (fun w hG=>mU _ _ (by omega) (by omega)) ?_;refine Dr.yW (j:=6) rfl rfl rfl (fun u w=>Ze Tryz.func228) rfl rfl (fun _=>rfl) (fun u w hG hu=>jS _ u a _ _ (hx.step hG) hu ha (iW (by decide))) ?_;refine cn (fun w hG=>(aa.lss rfl rfl rfl).iC (mt yx.1 hlt)) ?_;refine Zd (fun w hG=>aa.bq rfl rfl rfl) ?_;refine Dr.nil ?_;refine bb.done (F':=[(0,_),(1,_),(2,_),(3,_),(15,_)]) rfl ⟨rfl,rfl,rfl,rfl,rfl,trivial⟩ ?_;intro w3 hw3 fw3;replace ab:=ab.step hw3;replace hx:=hx.step hw3;replace k1:=k1.step hw3;refine aO 0 1 2 3 15 (Zt ?_);refine Cd.aM rfl rfl ?_;refine Cd.skip (aB ?_);refine Za ?_;refine aY 0 1 2 3 4 15 (aI (aj ?_));refine Zf 1 Tryz.underlying252 ?_;refine ZL Tryz.underlying250 k1 ?_;refine Zv (aa.len rfl rfl Tryz.underlying250) ?_;refine mC ?_;refine Za ?_;refine ba 0 1 2 3 4 5 15 (Zt (Cd.block ?_))
   refine Cd.loop (σ:=Nat) (fun k=>[(1, .pointer (some ⟨g1,0,none⟩)),(2, .int .i64 0),(3, .bool false),(4, .int .u64 (iF (bj a.natAbs) k:Int)),(5, .int .i64 ((k:Int)-1))])
    (fun k wr=>k≤L∧Below w.heap.size w wr∧aH wr g1 252 #[.bool (decide (a<0)), .slice A L cm]) (fun k=>k) L ⟨Nat.le_refl _,ab,k1⟩ ⟨rfl,rfl,rfl,?_,rfl,trivial⟩ ?_
   ·show some (Value.int .u64 0)=_
    unfold iF;rw[List.drop_of_length_le (by omega)];rfl
   clear ab hx k1;rintro k wr ⟨hk,ab,k1⟩;have hvl:=pZ (bj a.natAbs) k;rw[dC] at hvl;refine Cd.seq (aj ?_);refine Zm ?_;refine kZ ?_;refine aY 1 2 3 4 5 21 (Zt ?_);refine Cd.ak rfl (fun hc=> ?_) (fun hc=> ?_)
   ·obtain⟨j,rfl⟩:∃j,k=j+1:=⟨k-1,by omega⟩
    obtain⟨ad,p,rfl,hbp,hp,hcp⟩:=hrm.B4 ab (Nat.le_refl _) (show j<L by omega);have hst:=tV _ _ _ hp;have hvl2:=pZ (bj a.natAbs) j;rw[dC] at hvl2;refine Cd.skip (aI (Cd.block (Zr ?_)));refine Zm ?_;refine Zv (aa.Gm rfl rfl rfl (by omega) (by omega)) ?_;refine Zf 1 Tryz.underlying252 ?_;refine ZL Tryz.underlying250 k1 ?_;refine Zm ?_;refine Zv (aa.jy rfl rfl rfl Tryz.underlying250 (by kernel_rfl) (j:=j) (by omega) (by omega)) ?_;refine Zv (aa.jh rfl rfl Tryz.underlying94 rfl hcp) ?_;refine Zv (aa.zj rfl rfl rfl (r:=((iF (bj a.natAbs) j:Nat):Int)) (by rw[hst];exact(jK (by omega) (by omega)).trans (by omega))) ?_;refine Za ?_;refine aY 1 2 3 4 5 21 (ae.ah (eh ?_));refine Zm ?_;refine mC ?_;refine Za ?_;refine aY 1 2 3 4 5 21 ?_;refine ae.round j ⟨rfl,rfl,rfl,rfl,?_,trivial⟩ ⟨by omega,ab,k1⟩ (Nat.lt_succ_self _);show some (Value.int .i64 (((j+1:Nat):Int)-1-1))=_;rw[show((j+1:Nat):Int)-1-1=(j:Int)-1 from by omega]
   ·obtain rfl:k=0:=by omega
    have hv0:iF (bj a.natAbs) 0=a.natAbs:=dC _;rw[hv0];refine Cd.exit (ae.aC (ae.aA (ae.ay (aI (aj ?_)))));refine Zf 0 Tryz.underlying252 ?_;refine ZL Tryz.underlying4 k1 ?_;refine ba 1 2 3 4 5 21 33 (Zt ?_);refine Cd.ak rfl (fun hc=> ?_) (fun hc=> ?_)
    ·skip
     refine Zr ?_;refine Zm ?_;refine Zv (aa.neg rfl rfl (r:=((a%18446744073709551616:Int))) (by rw[wrap_u64];omega)) ?_;refine Za ?_;refine ba 1 2 3 4 5 21 33 (aB ?_);refine Zm ?_;refine Zv (aa.dJ rfl rfl Tryz.underlying94 Tryz.underlying2 (k':= .i64) (r:=a) (by rw[IntKind.wrap_i64];omega)) ?_;refine Za ?_;refine Za ?_;refine ba 1 2 3 4 5 21 33 (Zt (Cd.ret ?_));refine dH ?_;exact⟨rfl,ab⟩
    ·skip
     refine Cd.skip (aB ?_);refine Zm ?_;refine Zv (aa.dJ rfl rfl Tryz.underlying94 Tryz.underlying2 (k':= .i64) (r:=a) (by rw[IntKind.wrap_i64];omega)) ?_;refine Za ?_;refine Za ?_;refine ba 1 2 3 4 5 21 33 (Zt (Cd.ret ?_));refine dH ?_;exact⟨rfl,ab⟩
theorem wW (x:Value)(a:Int)(w:World)(hx:bQ w x a)(ha:a.natAbs<pN):
  Calls Tryz.prog 202 #[x] w fun e w'=>e= .returned (.tuple #[.int .i64 (br a), .bool (fits a)])∧Grow w w':=Ak x a w hx ha
theorem ql (w:World):(Instr.build 252 #[]).run Tryz.prog w= .ok (.agg #[.bool false, .slice none 0 0]) w:=by
 have hu:=Tryz.underlying252
 go_simp
theorem xB:bj 0=[]:=by unfold bj;rfl
theorem dG.zero (w:World):dG w (.slice none 0 0) 0:=⟨none,0,by rw[xB];rfl,by rw[xB];simp,by omega,by rw[xB];exact Reads.none_⟩
theorem Reads.Fe {w w':World}{B n g:Nat}{A:Option Addr}{l:List Nat}{cs:Array Value}{t:TypeId}{fr:Nat × Nat}(h:Reads w B 1 A n (U l))(hg:w.heap[g]? =some (.cells cs t fr))(hcs:∀(z:Int),Value.int .u64 z∉cs.toList)
  (hgr:w.grownBy w' (some g)):Reads w' B 1 A n (U l):=by
 refine⟨h.1,fun hn=> ?_⟩;obtain⟨ad,hA,hb,hc⟩:=h.2 hn;refine⟨ad,hA,hb,fun j u hu=> ?_⟩;have h1:=hc j u hu
 have hne:(ad.add j).block≠g:=by
  intro he;rw[A6] at hu
  cases hl:l[j]? with
  |none=>rw[hl] at hu;cases hu
  |some d=>
   rw[hl] at hu;injection hu with hu
   subst hu;unfold World.cell? at h1;rw[he,hg] at h1;simp only at h1;split at h1
   ·cases h1
   ·exact hcs _ (Array.mem_toList_iff.2 (Array.mem_of_getElem? h1))
 have hlt:(ad.add j).block<w.heap.size:=by
  unfold World.cell? at h1;rcases Nat.lt_or_ge (ad.add j).block w.heap.size with h2|h2
  ·exact h2
  ·rw[Array.getElem?_eq_none h2] at h1;cases h1
 rw[←h1];unfold World.cell?;rw[hgr.block _ hlt (by intro e;injection e with e;exact hne e)]
structure oP (w:World)(m:Value)(n:Nat):Prop where
 FD:dG w m n
theorem oP.step {w w':World}{m:Value}{n:Nat}(h:oP w m n)(hb:Below w.heap.size w w'):oP w' m n:=⟨h.FD.step hb⟩
theorem oP.put {w w':World}{m:Value}{n g B:Nat}{T:TypeId}{cur cs:Array Value}(h:oP w m n)(k:aH w g T cur)(p:lu w w' g T cs)(_e:B≤g)(hcs:∀(z:Int),Value.int .u64 z∉cur.toList:=by simp[Value.cells, *]):oP w' m n:=by
 obtain⟨A,c,e,h1,h2,h3⟩:=h.FD;exact⟨A,c,e,h1,h2,(h3.Fe k hcs p.grown).more p.grown.size⟩
theorem oP.pN {w:World}{m:Value}{r:Nat}(h:oP w m r):bQ w (.agg [Value.bool false,m].toArray) (r:Int):=⟨m,by rw[decide_eq_false (show¬(r:Int)<0 by omega)],by rw[Int.natAbs_natCast];exact h.FD⟩
def Ay (u d k:Nat):List Nat:=(lf u d k).reverse
theorem nV (n:Int)(d:Nat)(w:World)(hn:bm n)(hd:d≤9):
  Calls Tryz.prog 110 #[.int .i64 n, .int .i64 (d:Int)] w fun e w'=>(∃N,gI n.natAbs d N∧N≤20∧e= .returned (.string (strOf (printed n d N))))∧Grow w w':=by
 have ab:=Below.refl w.heap.size w;have hu:n.natAbs≤9223372036854775808:=by have:=hn.1;have:=hn.2;omega
 have hn1:=hn.1;have hn2:=hn.2;refine Zs 47 Tryz.func110 ?_;refine aj ?_;refine Za ?_;refine bn 0 1 4 (aB ?_);refine Zm ?_;refine Zv (aa.dJ rfl rfl Tryz.underlying2 Tryz.underlying94 rfl) ?_;refine Za ?_;refine aQ 0 1 4 5 (Zt ?_);refine Cd.lB (σ:=Unit) (fun _=>[(0, .int .i64 n),(1, .int .i64 (d:Int)),(5, .int .u64 (n.natAbs:Int))]) (fun _ wr=>Below w.heap.size w wr) ?_ ?_
 ·skip
  refine aj ?_;refine Zm ?_;refine eI ?_;refine aO 0 1 4 5 11 (Zt ?_);refine Cd.ak rfl (fun hc=> ?_) (fun hc=> ?_)
  ·skip
   refine Zr ?_;refine Zm ?_;refine Zv (aa.neg rfl rfl (r:=(n.natAbs:Int)) (by rw[wrap_u64,wrap_u64];omega)) ?_;refine Za ?_;refine aO 0 1 4 5 11 ?_;exact ae.join () ⟨rfl,rfl,rfl,trivial⟩ ab
  ·skip
   refine Cd.skip ?_;refine ae.join () ⟨rfl,rfl,?_,trivial⟩ ab;refine congrArg (fun z=>some (Value.int .u64 z)) ?_;rw[wrap_u64];omega
 clear ab;rintro⟨⟩ wr ab;refine aj ?_;refine Za ?_;refine aQ 0 1 5 6 (aI (aj ?_));refine Za ?_;refine aO 0 1 5 6 7 (Zt (Cd.block ?_))
 generalize hun:n.natAbs=u at *
 refine Cd.loop (σ:=Nat) (fun k=>[(0, .int .i64 n),(1, .int .i64 (d:Int)),(5, .int .u64 ((u/10^k:Nat):Int)),(6, .string (strOf (Ay u d k))),(7, .int .i64 (k:Int))])
  (fun k wr=>k≤20∧Below w.heap.size w wr∧∀j,j<k→0<u/10^j∨j≤d) (fun k=>20-k) 0 ⟨by omega,ab,fun j hj=>absurd hj (by simp)⟩ ⟨rfl,rfl,congrArg (fun x:Nat=>some (Value.int .u64 (x:Int))) (show u=u/10^0 by simp),rfl,rfl,trivial⟩ ?_
 clear ab;rintro k wr ⟨hk,ab,hgo⟩;refine Cd.seq (aj ?_);refine Zm ?_;refine Zm ?_;refine FI ?_;refine Zm ?_;refine aw.start ?_;refine bw (fun hcx=>aa.move rfl rfl) ?_;refine Zn (fun hcx=>aa.gtr rfl rfl rfl) ?_;refine fg ?_;refine aY 0 1 5 6 7 20 (Zt ?_);have hlen:=pO u d k;have hdk:u/10^k≤u:=Nat.div_le_self _ _;have hdt:=yd u k;have hpr:lf u d (k+1)=lf u d k++(if k=d∧0<d then [46] else [])++[48+u/10^k%10]:=rfl
 generalize hq:u/10^k=q at *
 refine Cd.cond rfl (fun hc=> ?_) (fun hc=> ?_)
 ·have hgo1:0<q∨k≤d:=by simp at hc;omega
  have hk20:k<20:=by
   rcases Nat.lt_or_ge k 20 with h|h
   ·exact h
   ·obtain rfl:k=20:=by omega
    have:u/10^20=0:=Nat.div_eq_of_lt (by omega);omega
  have hgo2:∀j,j<k+1→0<u/10^j∨j≤d:=fun j hj=>by
   rcases Nat.lt_or_ge j k with h|h
   ·exact hgo j h
   ·obtain rfl:j=k:=by omega
    rw[hq];exact hgo1
  refine Cd.skip (aI (Cd.block ?_));refine Cd.lB (σ:=Unit) (fun _=>[(0, .int .i64 n),(1, .int .i64 (d:Int)),(5, .int .u64 (q:Int)),(6, .string (strOf ((lf u d k++if k=d∧0<d then [46] else []).reverse))),(7, .int .i64 (k:Int))]) (fun _ wr=>Below w.heap.size w wr) ?_ ?_
  ·skip
   refine aj ?_;refine Zm ?_;refine Zm ?_;refine bC ?_;refine Zm ?_;refine aw.start ?_;refine bw (fun hcx=>aa.move rfl rfl) ?_;refine Zn (fun hcx=>aa.gtr rfl rfl rfl) ?_;refine fQ ?_;refine ba 0 1 5 6 7 20 29 (Zt ?_);refine Cd.cond rfl (fun hp=> ?_) (fun hp=> ?_)
   ·rw[if_pos (by simp at hp;omega)]
    have hl1: [46].length+(Ay u d k).length≤9223372036854775807:=by unfold Ay;rw[List.length_reverse];simp;omega
    refine Zr ?_;refine Zm ?_;refine Zv (aa.eD (a:=[46]) (b:=Ay u d k) rfl rfl rfl hl1) ?_;refine Za ?_;refine ba 0 1 5 6 7 20 29 ?_;exact ae.join () ⟨rfl,rfl,rfl,by rw[List.reverse_append];rfl,rfl,trivial⟩ ab
   ·rw[if_neg (by simp at hp;omega)]
    refine Cd.skip ?_;exact ae.join () ⟨rfl,rfl,rfl,by rw[List.append_nil];rfl,rfl,trivial⟩ ab
  clear ab hc;rintro⟨⟩ wr ab;have hl2:(lf u d k++if k=d∧0<d then [46] else []).length≤2*k+1:=by rw[List.length_append];split<;>simp<;>omega
  generalize lf u d k++(if k=d∧0<d then [46] else [])=pre at *
  have hl3: [48+q%10].length+pre.reverse.length≤9223372036854775807:=by rw[List.length_reverse];simp;omega
  have hpr2:Ay u d (k+1)=[48+q%10]++pre.reverse:=by unfold Ay;rw[hpr,List.reverse_append];rfl
  refine aj ?_;refine Zm ?_;refine Zv (aa.Fc 10 rfl rfl rfl rfl (by omega)) ?_;refine Zv (aa.DF rfl rfl rfl (by omega) (by omega)) ?_;refine Zv (aa.dJ rfl rfl Tryz.underlying94 Tryz.underlying5 (jW (by omega) (by omega))) ?_;refine Seq.slice (vs:=[_]) (s:=1) rfl rfl rfl Tryz.underlying64 (by kernel_rfl) (bf) (by omega) (by omega) ⟨rfl,trivial⟩ rfl rfl rfl ?_;intro g36 w1 n36;have e36:=Nat.le_trans ab.size n36.ge;replace ab:=ab.step n36.below;have k36:=n36.an;have hrd:=Reads.an (size:=1) k36 1 rfl;refine Zv (aa.mV (l:=[48+q%10]) rfl rfl Tryz.underlying64 Tryz.underlying5 Tryz.underlying9 hrd (fun x hx=>by simp at hx;omega)) ?_;refine Zm ?_;refine Zv (aa.eD (a:=[48+q%10]) (b:=pre.reverse) rfl rfl rfl hl3) ?_;refine Za ?_;refine aO 0 1 5 6 7 (eh ?_);refine Zm ?_;refine Zv (aa.CD 10 rfl rfl rfl rfl (by omega) (by omega)) ?_;refine Za ?_;refine aO 0 1 5 6 7 (ae.ah (eh ?_));refine Zm ?_;refine cG ?_;refine Za ?_;refine aO 0 1 5 6 7 ?_;refine ae.round (k+1) ⟨rfl,rfl,congrArg (fun x:Nat=>some (Value.int .u64 (x:Int))) hdt,?_,rfl,trivial⟩ ⟨by omega,ab,hgo2⟩ (by omega);rw[hpr2];rfl
 ·have hstop:gI u d k:=⟨hgo,by rw[hq];simp at hc;omega⟩
  have hl1: [45].length+(Ay u d k).length≤9223372036854775807:=by unfold Ay;rw[List.length_reverse];simp;omega
  refine Cd.exit (ae.aC (ae.aA (ae.ay (aI (aj ?_)))));refine Zm ?_;refine eI ?_;refine ba 0 1 5 6 7 20 43 (Zt ?_);refine Cd.ak rfl (fun hp=> ?_) (fun hp=> ?_)
  ·have hprd:printed n d k=[45]++Ay u d k:=by unfold printed Ay;rw[hun,if_pos hp,List.reverse_append];rfl
   refine aj ?_;refine Zm ?_;refine Zv (aa.eD (a:=[45]) (b:=Ay u d k) rfl rfl rfl hl1) ?_;refine Za ?_;refine cB 0 1 4 5 6 7 20 43 (Zt (Cd.ret (ae.af ?_)));refine aZ ?_;exact⟨⟨k,hstop,by omega,by rw[hprd]⟩,ab⟩
  ·have hprd:printed n d k=Ay u d k:=by unfold printed Ay;rw[hun,if_neg hp,List.append_nil]
   refine Cd.skip (aB ?_);refine Zm ?_;refine Za ?_;refine cB 0 1 4 5 6 7 20 43 (Zt (Cd.ret ?_));refine aZ ?_;exact⟨⟨k,hstop,by omega,by rw[hprd]⟩,ab⟩
theorem lk {u d N M:Nat}(h:gI u d N)(k:gI u d M):N=M:=by
 rcases Nat.lt_trichotomy N M with h1|h1|h1
 ·exact absurd (k.1 N h1) h.2
 ·exact h1
 ·exact absurd (h.1 M h1) k.2
theorem tW (u d:Nat):∀n,¬(0<u/10^n∨n≤d)→∃N,N≤n∧gI u d N:=by
 intro n
 induction n using Nat.strongRecOn with
 |_ n ih=>
  intro hn
  by_cases h:∀j,j<n→0<u/10^j∨j≤d
  ·exact⟨n,Nat.le_refl _,h,hn⟩
  ·have:∃j,j<n∧¬(0<u/10^j∨j≤d):=by
    apply Classical.byContradiction;intro h2;exact h fun j hj=>Classical.byContradiction fun h3=>h2 ⟨j,hj,h3⟩
   obtain⟨j,hj,hp⟩:=this;obtain⟨N,h1,h2⟩:=ih j hj hp;exact⟨N,by omega,h2⟩
theorem sC (u d:Nat)(hu:u≤9223372036854775808)(hd:d≤9):∃N,N≤19∧gI u d N:=
 tW u d 19 (by rintro(h|h)
               ·have:u/10^19=0:=Nat.div_eq_of_lt (by omega)
                omega
               ·omega)
theorem xK (n:Int)(d N:Nat)(w:World)(hn:bm n)(hd:d≤9)(hN:gI n.natAbs d N):
  Calls Tryz.prog 110 #[.int .i64 n, .int .i64 (d:Int)] w fun e w'=>e= .returned (.string (strOf (printed n d N)))∧Grow w w':=
 (nV n d w hn hd).mono fun e w' ⟨⟨M,hM,_,he⟩,hb⟩=>⟨by rw[he,lk hM hN],hb⟩
theorem wZ (n:Int)(d N:Nat):∀x∈printed n d N,x<256:=by
 intro x hx;unfold printed at hx;rw[List.mem_reverse] at hx;rcases List.mem_append.1 hx with hx|hx
 ·exact tE _ _ _ x hx
 ·split at hx
  ·simp at hx;omega
  ·simp at hx
theorem CF {l:List Nat}{d:Nat}{y:Int}{F B:List Nat}(h:Form l d y F B)(hy:bm y)(hd:d≤9):l.length≤30:=by
 obtain⟨N,hN,-,hN2⟩:=kQ h;unfold bm at hy;obtain⟨M,hM,hM2⟩:=sC y.natAbs d (by omega) hd;have:=lk hN hM2;have hb:=h.len;rw[h.eq];unfold kP;rw[List.length_append,List.length_append];have h1:(if y<0 then [45] else []:List Nat).length≤1:=by split<;>simp
 have h2:(if 0<d then 46::B else []:List Nat).length≤1+d:=by split<;>simp;omega
 omega
theorem BD (l:List Nat)(k:Nat)(hl:l.length≤30)(hk:k≤l.length):iG (l.take k)<1000000000000000000000000000000:=by
 have h1:=yI l k;have h2:10^k≤10^30:=Nat.pow_le_pow_right (by omega) (by omega);omega
theorem DY (l:List Nat):(l.head? =some 45)↔(0<l.length∧l.getD 0 0=45):=by
 cases l with
 |nil=>simp
 |cons c l=>simp
set_option maxHeartbeats 1000000 in
theorem rM (l:List Nat)(d:Int)(w:World)(hl:∀x∈l,x<256)(hd:bm d):
  Calls Tryz.prog 154 #[.string (strOf l), .int .i64 d] w fun e w'=>∃x b,e= .returned (.tuple #[.int .i64 x, .bool b])∧zf l d x b∧Grow w w':=by
 have ab:=Below.refl w.heap.size w;refine Zs 73 Tryz.func154 ?_;refine aj ?_;refine Za ?_;refine Za ?_;refine aQ 0 1 4 5 (aI (aj ?_));refine Zm ?_;refine eI ?_;refine Zm ?_;refine aw.start ?_;refine bw (fun hcx=>aa.move rfl rfl) ?_;refine Zn (fun hcx=>aa.gtr rfl rfl rfl) ?_;refine fg ?_;refine Zm ?_;refine aw.start ?_;refine bw (fun hcx=>aa.move rfl rfl) ?_;refine Zn (fun hcx=>aa.dh rfl rfl Tryz.underlying9) ?_;refine Zn (fun hcx=>aa.gtr rfl rfl rfl) ?_;refine fg ?_;refine aO 0 1 4 5 20 (Zt ?_);refine Cd.cond rfl (fun h=> ?_) (fun h=> ?_)
 ·skip
  refine aj ?_;refine Za ?_;refine Za ?_;refine aO 0 1 4 5 20 (Zt (Cd.ret (ae.af ?_)));refine dH ?_;refine⟨0,false,rfl,⟨fun h=>(by cases h),fun _=>⟨rfl,fun h1 h2 y hy F B hf=> ?_⟩⟩,ab⟩;have:=CF hf hy (by omega);simp at h;omega
 obtain⟨D,rfl⟩:∃D:Nat,d=(D:Int):=⟨d.toNat,by simp at h;omega⟩;have hD:D≤9:=by simp at h;omega
 have hlen:l.length≤30:=by simp at h;omega
 clear h;have hno:(∀y,bm y→∀F B,¬Form l D y F B)→zf l (D:Int) 0 false:=fun h=>⟨fun h=>(by cases h),fun _=>⟨rfl,fun _ _=>by rw[Int.toNat_natCast];exact h⟩⟩;refine Cd.skip (aB ?_);refine Zv (aa.build rfl rfl (ql _)) ?_;refine Zl bN ?_;intro g6 w1 n6;have e6:=Nat.le_trans ab.size n6.ge;replace ab:=ab.step n6.below;have k6:=n6.an;refine Zo 2 k6 ?_;intro w2 pw2;replace ab:=ab.put k6 pw2 e6;replace k6:=pw2.an;refine aY 0 1 4 5 6 20 (aI (aj ?_));refine Za ?_;refine ba 0 1 4 5 6 7 20 (Zt (Cd.block ?_));have hm0:oP w2 (.slice none 0 0) 0:=⟨dG.zero _⟩
 refine Cd.loop (σ:=Nat × Value) (fun s=>[(0, .string (strOf l)),(1, .int .i64 (D:Int)),(6, .pointer (some ⟨g6,0,none⟩)),(7, .int .i64 (s.1:Int))])
  (fun s wr=>s.1≤l.length∧Below w.heap.size w wr∧oP wr s.2 (iG (l.take s.1))∧aH wr g6 252 #[.bool false,s.2]) (fun s=>l.length-s.1) (0, .slice none 0 0) ⟨Nat.zero_le _,ab,by simpa[iG] using hm0,k6⟩ ⟨rfl,rfl,rfl,rfl,trivial⟩ ?_
 clear ab k6;rintro⟨k,m⟩ wr ⟨hk,ab,hm,k6⟩;dsimp only at hk hm k6⊢;have hbig:=BD l k hlen hk;refine Cd.seq (aj ?_);refine Zm ?_;refine Zm ?_;refine Zv (aa.dh rfl rfl Tryz.underlying9) ?_;refine eI ?_;refine aO 0 1 6 7 25 (Zt ?_);refine Cd.ak rfl (fun hc=> ?_) (fun hc=> ?_)
 ·obtain⟨c,hc⟩:∃c,l[k]? =some c:=⟨_,List.getElem?_eq_getElem (show k<l.length by omega)⟩
  have hc256:=hl c (List.mem_of_getElem? hc);have htk:l.take (k+1)=l.take k++[c]:=by rw[List.take_add_one,hc];rfl
  have hvs:iG (l.take (k+1))=if 48≤c∧c≤57 then 10*iG (l.take k)+(c-48) else iG (l.take k):=by rw[htk,sk]
  generalize hV:iG (l.take k)=V at *
  refine Cd.skip (aI (Cd.block (aj ?_)));refine Zm ?_;refine Zm ?_;refine Zv (aa.cz (l:=l) (j:=k) rfl rfl rfl Tryz.underlying9 rfl hc hc256) ?_;refine kZ ?_;refine Zm ?_;refine aw.start ?_;refine bw (fun hcx=>aa.move rfl rfl) ?_;refine gq ?_;refine Zn (fun hcx=>aa.cz (l:=l) (j:=k) rfl rfl rfl Tryz.underlying9 rfl hc hc256) ?_;refine Zn (fun hcx=>aa.leq rfl rfl rfl) ?_;refine fQ ?_;refine aY 0 1 6 7 25 37 (Zt ?_);refine Cd.cond rfl (fun h=> ?_) (fun h=> ?_)
  ·have hcd:48≤c∧c≤57:=by simp at h;omega
   rw[if_pos hcd] at hvs;clear h;refine ff 10 ?_;intro w3 hw3 zw3;replace ab:=ab.step hw3;replace k6:=k6.step hw3;replace hm:=hm.step hw3;have zbel:=ab.size;have zlt:=k6.lt;refine Zd (fun w hG=>aa.eK rfl rfl Tryz.underlying252 rfl (k6.step hG) (m:=2) (by kernel_rfl) rfl) ?_;refine Dr.call (Φ:=fun u w=>bQ w u 10) rfl (fun w=>Ze Tryz.func200) rfl (bQ.dD _) (fun w hG=>mU 10 _ (by omega) (by omega)) ?_;refine Dr.vS (j:=1) (Φ:=fun u w=>bQ w u ((V:Int)*10)) rfl rfl rfl (fun u w=>Ze Tryz.func199) rfl (bQ.dD _) (fun u w hG hu=>wY _ u (V:Int) 10 _ (hm.step hG).pN hu (iW (by omega)) (iW (by omega))) ?_;refine cf ?_;refine cf ?_;refine Zd (fun w hG=>aa.cz (l:=l) (j:=k) rfl rfl rfl Tryz.underlying9 rfl hc hc256) ?_;refine Zd (fun w hG=>aa.BW rfl rfl rfl (jW (by omega) (by omega))) ?_;refine Zd (fun w hG=>aa.dJ rfl rfl Tryz.underlying5 Tryz.underlying2 (iO (by omega) (by omega))) ?_;refine Dr.call (Φ:=fun u w=>bQ w u ((c:Int)-48)) rfl (fun w=>Ze Tryz.func200) rfl (bQ.dD _) (fun w hG=>mU ((c:Int)-48) _ (by omega) (by omega)) ?_;refine Dr.call2 (j:=2) (j':=8) (Φ:=fun u w=>bQ w u ((V:Int)*10+((c:Int)-48))) rfl rfl rfl rfl rfl (fun u u' w=>Ze Tryz.func198) rfl (bQ.dD _) (fun u u' w hG hu hu'=>vV _ _ ((V:Int)*10) ((c:Int)-48) _ hu hu' (iW (by omega)) (iW (by omega))) ?_;refine Dr.nil ?_;refine bb.open (j:=9) rfl ?_;intro u9;refine bb.done (F':=[(0,_),(1,_),(6,_),(7,_),(25,_),(37,_),(47,_)]) rfl ⟨rfl,rfl,rfl,rfl,rfl,rfl,rfl,trivial⟩ ?_;intro w4 hw4 fw4;replace ab:=ab.step hw4;replace k6:=k6.step hw4;replace hm:=hm.step hw4;obtain⟨-,h9⟩:=(by assumption:True∧bQ _ _ ((V:Int)*10+((c:Int)-48)));rw[show((V:Int)*10+((c:Int)-48))=((iG (l.take (k+1)):Nat):Int) by omega] at h9;obtain⟨mr,e9,omr,hmr⟩:=h9.agg;rw[decide_eq_false (show¬((iG (l.take (k+1)):Nat):Int)<0 by omega)] at e9;subst e9;rw[Int.natAbs_natCast] at hmr;have hmr:oP _ mr (iG (l.take (k+1))):=⟨hmr⟩;have hni:=hm.FD.ni;refine Zo 2 k6 ?_;intro w5 pw5;replace ab:=ab.put k6 pw5 e6;replace hmr:=hmr.put k6 pw5 e6;replace k6:=pw5.an;refine aY 0 1 6 7 25 37 (ae.ah (eh ?_));refine Zm ?_;refine cG ?_;refine Za ?_;refine aY 0 1 6 7 25 37 ?_;exact ae.round (k+1,mr) ⟨rfl,rfl,rfl,rfl,trivial⟩ ⟨by dsimp only;omega,ab,hmr,k6⟩ (by dsimp only;omega)
  ·rw[if_neg (by simp at h;omega)] at hvs
   refine Cd.skip (ae.ah (eh ?_));refine Zm ?_;refine cG ?_;refine Za ?_;refine aY 0 1 6 7 25 37 ?_;exact ae.round (k+1,m) ⟨rfl,rfl,rfl,rfl,trivial⟩ ⟨by dsimp only;omega,ab,by dsimp only;rw[hvs];exact hm,k6⟩ (by dsimp only;omega)
 ·obtain rfl:k=l.length:=by omega
  rw[List.take_of_length_le (Nat.le_refl _)] at hm hbig;have hni:=hm.FD.ni;have hsz:(fc l).natAbs=iG l:=by unfold fc;split<;>omega
  have hh:=DY l
  have hl0:0<l.length→l[0]? =some (l.getD 0 0):=by
   intro h
   cases l with
   |nil=>simp at h
   |cons c l=>rfl
  have hl1:l.getD 0 0<256:=by
   cases l with
   |nil=>simp
   |cons c l=>exact hl c (by simp)
  generalize l.getD 0 0=c0 at *
  refine Cd.exit (ae.aC (ae.aA (ae.ay (Zt ?_))));refine Cd.lB (σ:=Value) (fun _=>[(0, .string (strOf l)),(1, .int .i64 (D:Int)),(6, .pointer (some ⟨g6,0,none⟩))]) (fun m' wr=>Below w.heap.size w wr∧oP wr m' (fc l).natAbs∧aH wr g6 252 #[.bool (decide (fc l<0)),m']) ?_ ?_
  ·skip
   refine aj ?_;refine Zm ?_;refine Zv (aa.dh rfl rfl Tryz.underlying9) ?_;refine uV ?_;refine Zm ?_;refine aw.start ?_;refine bw (fun hcx=>aa.move rfl rfl) ?_;refine Zn (fun hcx=>aa.cz (l:=l) (j:=0) (c:=c0) rfl rfl rfl Tryz.underlying9 rfl (hl0 (by simp at hcx;omega)) hl1) ?_;refine Zn (fun hcx=>aa.fh rfl rfl rfl) ?_;refine fQ ?_;refine aY 0 1 6 7 25 55 (Zt ?_);refine Cd.cond rfl (fun h=> ?_) (fun h=> ?_)
   ·have hs:fc l= -(iG l:Int):=by unfold fc;rw[if_pos (hh.2 (by simp at h;exact⟨by omega,by omega⟩))]
    refine Zr ?_;refine ZW 2 Tryz.underlying252 k6 ?_;refine Zc (Ze Tryz.func201) (sj _ (iG l:Int) _ hm.pN (iW (by omega))) ?_;rintro e w7 ⟨v7,rfl,hb7,hv7⟩;refine⟨_,rfl,?_⟩;rw[←hs] at hv7;obtain⟨mr,rfl,omr,hmr⟩:=hv7.agg;have hmr:oP _ mr (fc l).natAbs:=⟨hmr⟩;replace ab:=ab.step hb7;replace k6:=k6.step hb7;replace hm:=hm.step hb7;refine Zo 2 k6 ?_;intro w3 pw3;replace ab:=ab.put k6 pw3 e6;replace hmr:=hmr.put k6 pw3 e6;replace k6:=pw3.an;refine aY 0 1 6 7 25 55 ?_;exact ae.join mr ⟨rfl,rfl,rfl,trivial⟩ ⟨ab,hmr,k6⟩
   ·have hs:fc l=(iG l:Int):=by
     unfold fc;rw[if_neg];intro h2;have:=hh.1 h2;simp at h;omega
    have hdf:decide (fc l<0)=false:=decide_eq_false (by omega);refine Cd.skip ?_;exact ae.join m ⟨rfl,rfl,rfl,trivial⟩ ⟨ab,by rw[hsz];exact hm,by rw[hdf];exact k6⟩
  clear ab k6 hm;rintro m' wr' ⟨ab,hm,k6⟩;have hzb:(fc l).natAbs<pN:=by rw[hsz];exact iW (by omega)
  have hsbd:=xZ (fc l);refine aj ?_;refine ZW 2 Tryz.underlying252 k6 ?_;refine Zc (Ze Tryz.func202) (wW _ (fc l) _ ⟨_,rfl,hm.FD⟩ hzb) ?_;rintro e w8 ⟨rfl,hb8⟩;refine⟨_,rfl,?_⟩;replace ab:=ab.step hb8;replace k6:=k6.step hb8;replace hm:=hm.step hb8;obtain⟨N,hN19,hN⟩:=sC (br (fc l)).natAbs D (by omega) hD;refine Zm ?_;refine Zx ?_;refine Zx ?_;refine Za ?_;refine Za ?_;refine aO 0 1 6 8 9 (aI (aj ?_));refine Zm ?_;refine mD ?_;refine Zm ?_;refine aw.start ?_;refine bw (fun hcx=>aa.move rfl rfl) ?_;refine gq ?_;refine aw.bU rfl rfl rfl rfl rfl rfl rfl (fun hcx=>Ze Tryz.func110) (fun hcx=>xK (br (fc l)) D N _ ⟨hsbd.1,hsbd.2⟩ hD hN) ?_;intro w3 hw3;replace ab:=ab.step hw3;replace k6:=k6.step hw3;replace hm:=hm.step hw3;refine gq ?_;refine Zn (fun hcx=>aa.fT (a:=printed (br (fc l)) D N) (b:=l) rfl rfl rfl (wZ _ _ _) hl) ?_;refine fg ?_;refine aY 0 1 6 8 9 71 (Zt ?_);refine Cd.cond rfl (fun h=> ?_) (fun h=> ?_)
  ·have hnf:∀y,bm y→∀F B,¬Form l D y F B:=by
    intro y hy F B hf;have h1:=wS hf;have h2:fits (fc l)=true:=by rw[h1];exact pV hy.1 hy.2
    have h3:br (fc l)=y:=by unfold br;rw[h2,if_pos rfl,h1]
    obtain⟨M,hM,hM2,-⟩:=kQ hf;rw[h3] at hN h;rw[h2,←lk hM hN,←hM2] at h;simp at h
   refine aj ?_;refine Za ?_;refine Za ?_;refine cB 0 1 4 5 6 8 9 71 (Zt (Cd.ret (ae.af ?_)));refine dH ?_;exact⟨0,false,rfl,hno hnf,ab⟩
  ·have hy2:fits (fc l)=true∧printed (br (fc l)) D N=l:=by
    cases hf:fits (fc l) with
    |false=>rw[hf] at h;simp at h
    |true=>rw[hf] at h;simp at h;exact⟨rfl,h⟩
   obtain⟨F,B,hfm⟩:=pJ (br (fc l)) D N hN;rw[hy2.2] at hfm;refine Cd.skip (aB ?_);refine Zm ?_;refine Za ?_;refine Za ?_;refine cB 0 1 4 5 6 8 9 71 (Zt (Cd.ret ?_));refine dH ?_;exact⟨_,true,rfl,⟨fun _=>⟨by omega,by omega,⟨hsbd.1,hsbd.2⟩,F,B,by rw[Int.toNat_natCast];exact hfm⟩,fun h=>(by cases h)⟩,ab⟩
theorem nf (v n:Nat)(w:World)(hv:v≤100000)(hn:n≤9):Calls Tryz.prog 149 #[.int .i64 (v:Int), .int .i64 (n:Int)] w fun e w'=>e= .returned (.string (strOf (fe v n)))∧Grow w w':=by
 have ab:=Below.refl w.heap.size w;refine Zs 23 Tryz.func149 ?_;refine aj ?_;refine Za ?_;refine bn 0 1 4 (aB ?_);refine Za ?_;refine aQ 0 1 4 5 (aI (aj ?_));refine Za ?_;refine aO 0 1 4 5 6 (Zt (Cd.block ?_))
 refine Cd.loop (σ:=Nat) (fun k=>[(0, .int .i64 ((v/10^k:Nat):Int)),(1, .int .i64 (n:Int)),(5, .string (strOf (fe v k))),(6, .int .i64 (k:Int))])
  (fun k wr=>k≤n∧Below w.heap.size w wr) (fun k=>n-k) 0 ⟨Nat.zero_le _,ab⟩ ⟨congrArg (fun x:Nat=>some (Value.int .i64 (x:Int))) (show v=v/10^0 by simp),rfl,rfl,rfl,trivial⟩ ?_
 clear ab;rintro k wr ⟨hk,ab⟩;have hdk:v/10^k≤v:=Nat.div_le_self _ _;have hdt:v/10^k/10=v/10^(k+1):=by rw[Nat.div_div_eq_div_mul,Nat.pow_succ]
 have hdr:fe v (k+1)=(48+v/10^k%10)::fe v k:=rfl;have hlen:=fN v k
 generalize hq:v/10^k=q at *
 refine Cd.seq (aj ?_);refine Zm ?_;refine Zm ?_;refine eI ?_;refine aO 0 1 5 6 9 (Zt ?_);refine Cd.ak rfl (fun hc=> ?_) (fun hc=> ?_)
 ·have hl3: [48+q%10].length+(fe v k).length≤9223372036854775807:=by simp;omega
  have hqm:q%10<10:=Nat.mod_lt _ (by omega);refine Cd.skip (aI (Cd.block (aj ?_)));refine Zm ?_;refine Zv (aa.iR rfl rfl rfl (by omega) (by omega)) ?_;refine cG ?_;refine Zv (aa.dJ rfl rfl Tryz.underlying3 Tryz.underlying5 (jW (by omega) (by omega))) ?_;refine Seq.slice (vs:=[_]) (s:=1) rfl rfl rfl Tryz.underlying64 (by kernel_rfl) (bf) (by omega) (by omega) ⟨rfl,trivial⟩ rfl rfl rfl ?_;intro g16 w1 n16;have e16:=Nat.le_trans ab.size n16.ge;replace ab:=ab.step n16.below;have k16:=n16.an;rw[show(48+(q:Int)%10)=((48+q%10:Nat):Int) by omega] at k16;have hrd:=Reads.an (size:=1) k16 1 rfl;refine Zv (aa.mV (l:=[48+q%10]) rfl rfl Tryz.underlying64 Tryz.underlying5 Tryz.underlying9 hrd (fun x hx=>by simp at hx;omega)) ?_;refine Zm ?_;refine Zv (aa.eD (a:=[48+q%10]) (b:=fe v k) rfl rfl rfl hl3) ?_;refine Za ?_;refine aO 0 1 5 6 9 (eh ?_);refine Zm ?_;refine Zv (aa.mG rfl rfl rfl (by omega) (by omega) (by omega)) ?_;refine Za ?_;refine aO 0 1 5 6 9 (ae.ah (eh ?_));refine Zm ?_;refine cG ?_;refine Za ?_;refine aO 0 1 5 6 9 ?_;refine ae.round (k+1) ⟨congrArg (fun x:Int=>some (Value.int .i64 x)) (by rw[←hdt];omega),rfl,by rw[hdr];rfl,rfl,trivial⟩ ⟨by omega,ab⟩ (by omega)
 ·obtain rfl:k=n:=by omega
  refine Cd.exit (ae.aC (ae.aA (ae.ay (aB ?_))));refine Zm ?_;refine Za ?_;refine aY 0 1 4 5 6 9 (Zt (Cd.ret ?_));refine aZ ?_;exact⟨rfl,ab⟩
theorem kK (y m d:Int)(w:World)(hok:fZ y m d=true):Calls Tryz.prog 111 #[.int .i64 (fF y m d)] w fun e w'=>e= .returned (.string (strOf (fW y.toNat m.toNat d.toNat)))∧Grow w w':=by
 have ab:=Below.refl w.heap.size w;obtain⟨o1,o2,o3,o4,o5,o6⟩:=nU hok;have ey:y=(y.toNat:Int):=by omega
 have em:m=(m.toNat:Int):=by omega
 have ed:d=(d.toNat:Int):=by omega
 have hciv:=fun W=>tT y m d W hok;have hy2:y.toNat≤9999:=by omega
 have hm2:m.toNat≤12:=by omega
 have hd2:d.toNat≤31:=by omega
 have hy1:1970≤y.toNat:=by omega
 generalize fF y m d=n at *
 refine Zs 24 Tryz.func111 ?_;refine aj ?_;refine Za ?_;refine dF 0 2 (aB ?_);refine Zm ?_;refine Zc (Ze Tryz.func148) (hciv _) ?_;rintro e w8 ⟨rfl,hb8⟩;refine⟨_,rfl,?_⟩;replace ab:=ab.step hb8;rw[ey,em,ed]
 generalize y.toNat=Y at *
 generalize m.toNat=M at *
 generalize d.toNat=D at *
 simp only[Int.toNat_natCast];refine Zm ?_;refine Zx ?_;refine Zx ?_;refine Zx ?_;refine Za ?_;refine Za ?_;refine Za ?_;refine aO 0 2 3 4 5 (aI (aj ?_));refine Zm ?_;refine bC ?_;refine aY 0 2 3 4 5 13 (Zt ?_);refine Cd.aM rfl (decide_eq_false (by omega)) ?_;refine Cd.skip (aB ?_);refine Zm ?_;refine Zc (Ze Tryz.func149) (nf Y 4 _ (by omega) (by omega)) ?_;rintro e w9 ⟨rfl,hb9⟩;refine⟨_,rfl,?_⟩;replace ab:=ab.step hb9;refine Zv (aa.eD (a:=fe Y 4) (b:=[45]) rfl rfl rfl (by rw[fN];simp)) ?_;refine Zm ?_;refine Zc (Ze Tryz.func149) (nf M 2 _ (by omega) (by omega)) ?_;rintro e w10 ⟨rfl,hb10⟩;refine⟨_,rfl,?_⟩;replace ab:=ab.step hb10;refine Zv (aa.eD (a:=fe Y 4++[45]) (b:=fe M 2) rfl rfl rfl (by rw[List.length_append,fN,fN];simp)) ?_;refine Zv (aa.eD (a:=fe Y 4++[45]++fe M 2) (b:=[45]) rfl rfl rfl (by rw[List.length_append,List.length_append,fN,fN];simp)) ?_;refine Zm ?_;refine Zc (Ze Tryz.func149) (nf D 2 _ (by omega) (by omega)) ?_;rintro e w11 ⟨rfl,hb11⟩;refine⟨_,rfl,?_⟩;replace ab:=ab.step hb11;refine Zv (aa.eD (a:=fe Y 4++[45]++fe M 2++[45]) (b:=fe D 2) rfl rfl rfl (by rw[List.length_append,List.length_append,List.length_append,fN,fN,fN];simp)) ?_;refine Za ?_;refine aY 0 2 3 4 5 13 (Zt (Cd.ret ?_));refine aZ ?_;exact⟨rfl,ab⟩
theorem oA (y m d:Nat):∀x∈fW y m d,x<256:=by
 intro x hx;unfold fW at hx;simp only[List.mem_append] at hx;rcases hx with (((h|h)|h)|h)|h
 ·exact tq _ _ x h
 ·simp at h;omega
 ·exact tq _ _ x h
 ·simp at h;omega
 ·exact tq _ _ x h
def lR (k:Nat):Nat:=if 7<k then 2 else if 4<k then 1 else 0
def ig (l:List Nat):Nat→List Int
 |0=>[0,0,0]
 |k+1=>if k=4∨k=7 then ig l k else(ig l k).set (lR k) (10*(ig l k).getD (lR k) 0+(l.getD k 0:Int)-48)
theorem vI (l:List Nat)(k:Nat):(ig l k).length=3:=by
 induction k with
 |zero=>rfl
 |succ k ih=>unfold ig;split;exact ih;simp[ih]
theorem Dz (l:List Nat)(hl:∀x∈l,x<256):∀k,∀x∈ig l k,250-(10^k*250:Int)≤x∧x≤10^k*250-250:=by
 intro k
 induction k with
 |zero=>intro x hx;simp[ig] at hx;subst hx;decide
 |succ k ih=>
  have hp:(10:Int)^(k+1)=10*10^k:=by rw[Int.pow_succ];omega
  have hp0:(1:Int)≤10^k:=by
   have:0<(10:Nat)^k:=Nat.pow_pos (by omega);have:((10^k:Nat):Int)=(10:Int)^k:=by simp
   omega
  rw[hp];intro x hx;unfold ig at hx;split at hx
  ·have:=ih x hx;omega
  ·rcases List.mem_or_eq_of_mem_set hx with h|h
   ·have:=ih x h;omega
   ·have h1:(ig l k).getD (lR k) 0∈ig l k:=by
     have hi:lR k<(ig l k).length:=by rw[vI];unfold lR;split;omega;split<;>omega
     rw[List.getD_eq_getElem?_getD,List.getElem?_eq_getElem hi];exact List.getElem_mem hi
    have h2:=ih _ h1
    have h3:l.getD k 0<256:=by
     rcases Nat.lt_or_ge k l.length with h|h
     ·rw[List.getD_eq_getElem?_getD,List.getElem?_eq_getElem h];exact hl _ (List.getElem_mem h)
     ·rw[List.getD_eq_getElem?_getD,List.getElem?_eq_none h];simp
    omega
theorem BL (l:List Nat)(h:l.length=10):ig l 10=[ef (l.take 4),ef ((l.take 7).drop 5),ef ((l.take 10).drop 8)]:=by
 obtain⟨c0,c1,c2,c3,c4,c5,c6,c7,c8,c9,rfl⟩:=BO h;rfl
section
variable {P:Program} {n:Nat} {F:List (Nat × Value)} {w:World} {v:Value}
theorem ae.FJ {fn:Func}{R:Ending→World→Prop}{t u s r:Nat}{v' v'' v3:Value}{e:Exit}(hr:fn.results= #[.tmp t, .tmp u, .tmp s, .tmp r]) (hl:look F t=some v) (hl':look F u=some v') (hl'':look F s=some v'') (hl3:look F r=some v3) (he:e= .ret∨e= .normal) (h:R (.returned (.tuple #[v,v',v'',v3])) w):ae (bodyPost P fn R) e n F w:=
 ae.end_ (fun a ha=>by simp[results,hr,ha.slot t v hl,ha.slot u v' hl',ha.slot s v'' hl'',ha.slot r v3 hl3]) he h
end
theorem FO {x x' y y' z z' u u':Value}(h:x=x')(h2:y=y')(h3:z=z')(h4:u=u'):Ending.returned (.tuple #[x,y,z,u])= .returned (.tuple #[x',y',z',u']):=by rw[h,h2,h3,h4]
theorem Own.lit {w:World}{B g n size:Nat}{e:TypeId}{cs:Array Value}(k:aH w g e cs)(hB:B≤g)(hs:cs.size=n*size)(hn:n≤maxLen):Own w B e size (.slice (some ⟨g,0,none⟩) n n) n cs.toList:=
 ⟨⟨by simpa using hs, .inr ⟨g,n,cs,rfl,hB,k,Nat.le_refl _,hn,hs,List.take_of_length_le (by simp[hs])⟩⟩⟩
theorem wM (l:List Nat):∀u∈Bt l,u.oneCell'=true:=by
 intro u hu;simp[Bt] at hu;obtain⟨d,-,rfl⟩:=hu;rfl
theorem Own.base {w:World}{B B' size n:Nat}{e:TypeId}{v:Value}{xs:List Value}(h:Own w B e size v n xs)(hb:B'≤B):Own w B' e size v n xs:=⟨⟨h.row.1,h.row.2.imp id fun⟨g,cap,cur,e1,e2,r⟩=>⟨g,cap,cur,e1,Nat.le_trans hb e2,r⟩⟩⟩
theorem wF (n:Nat)(w:World)(h:n≤2932896):Calls Tryz.prog 236 #[.int .i64 (n:Int)] w fun e w'=>e= .returned (.bool true)∧Grow w w':=by
 have ab:=Below.refl w.heap.size w;refine Zs 9 Tryz.func236 ?_;refine aj ?_;refine Za ?_;refine dF 0 2 (aB ?_);refine Zm ?_;refine kZ ?_;refine Zm ?_;refine aw.start ?_;refine bw (fun hcx=>aa.move rfl rfl) ?_;refine Zn (fun hcx=>aa.leq rfl rfl rfl) ?_;refine fQ ?_;refine Za ?_;refine dF 0 2 (Zt (Cd.ret ?_));refine aZ ?_;exact⟨bt (aJ (by simp;omega)),ab⟩
theorem C5 (e:Nat)(he:e<146097):(yT e:Int)=e-(365*(iA e:Int)+(iA e:Int)/4-(iA e:Int)/100)∧yT e<366:=by
 obtain⟨h1,h2,h3⟩:=wu e he;obtain⟨l1,l2⟩:=sV (iA e);have:=uN (iA e) h1;unfold yT;omega
theorem Fo (e:Nat)(he:e<146097):(mT e:Int)=(5*(yT e:Int)+2)/153∧mT e≤11∧(153*mT e+2)/5≤yT e:=by
 have h:=(C5 e he).2;obtain⟨m1,m2,-⟩:=oX (yT e) h;have hm:mT e=(5*yT e+2)/153:=rfl;rw[←hm] at m1 m2;omega
theorem AN (n q e:Nat)(w:World)(h:n≤2932896)(hq:(n+719468)/146097=q)(he:(n+719468)%146097=e):Calls Tryz.prog 218 #[.int .i64 (n:Int)] w fun en w'=>en= .returned (.tuple #[.int .i64 (cY q e:Int), .int .i64 (cM e:Int), .int .i64 (dT e:Int), .bool true])∧Grow w w':=by
 have ab:=Below.refl w.heap.size w;have hel:e<146097:=by rw[←he];exact Nat.mod_lt _ (by decide)
 have hq2:((n:Int)+719468)/146097=(q:Int):=by omega
 have he2:((n:Int)+719468)%146097=(e:Int):=by omega
 have hq3:q≤30:=by omega
 obtain⟨e1,e2,e3⟩:=wu e hel;obtain⟨y1,y2⟩:=C5 e hel;obtain⟨m1,m2,m3⟩:=Fo e hel;have hd:dT e=yT e-(153*mT e+2)/5+1:=rfl;have hy:((e:Int)-(e:Int)/1460+(e:Int)/36524-(e:Int)/146096)/365=(iA e:Int):=by unfold iA;omega
 have hcY:cY q e=if 10≤mT e then q*400+iA e+1 else q*400+iA e:=rfl;have hcM:cM e=if 10≤mT e then mT e-9 else mT e+3:=rfl
 generalize cY q e=cy at *
 generalize cM e=cm at *
 generalize dT e=dd at *
 generalize mT e=m at *
 generalize yT e=t at *
 generalize iA e=y at *
 clear hq he e2 e3;refine Zs 68 Tryz.func218 ?_;refine aj ?_;refine Za ?_;refine Za ?_;refine Za ?_;refine Za ?_;refine aO 0 2 3 4 5 (aI (aj ?_));refine Zm ?_;refine Zc (Ze Tryz.func236) (wF n _ h) ?_;rintro en w5 ⟨rfl,hb5⟩;refine⟨_,rfl,?_⟩;replace ab:=ab.step hb5;refine mD ?_;refine aY 0 2 3 4 5 15 (Zt ?_);refine Cd.aM rfl rfl ?_;refine Cd.skip (aB ?_);refine Zm ?_;refine cG ?_;refine Za ?_;refine ba 0 2 3 4 5 6 15 (aB ?_);refine Zm ?_;refine Zv ((aa.iR rfl rfl rfl (by omega) (by omega)).cast (v':= .int .i64 (e:Int)) (int_eq he2)) ?_;refine Za ?_;refine cB 0 2 3 4 5 6 7 15 (aB ?_);refine Zm ?_;refine Zm ?_;refine Zv (aa.mG rfl rfl rfl (by omega) (by omega) (by omega)) ?_;refine mC ?_;refine Zm ?_;refine Zv (aa.mG rfl rfl rfl (by omega) (by omega) (by omega)) ?_;refine cG ?_;refine Zm ?_;refine Zv (aa.mG rfl rfl rfl (by omega) (by omega) (by omega)) ?_;refine mC ?_;refine Zv ((aa.mG rfl rfl rfl (by omega) (by omega) (by omega)).cast (v':= .int .i64 (y:Int)) (int_eq hy)) ?_;refine Za ?_;refine dY 0 2 3 4 5 6 7 8 15 (aB ?_);refine Zm ?_;refine Zm ?_;refine Zv (aa.rF rfl rfl rfl (by omega) (by omega)) ?_;refine Zm ?_;refine Zv (aa.mG rfl rfl rfl (by omega) (by omega) (by omega)) ?_;refine cG ?_;refine Zm ?_;refine Zv (aa.mG rfl rfl rfl (by omega) (by omega) (by omega)) ?_;refine mC ?_;refine Zv ((aa.Ai rfl rfl rfl (by omega) (by omega)).cast (v':= .int .i64 (t:Int)) (int_eq (by omega))) ?_;refine Za ?_;refine dq 0 2 3 4 5 6 7 8 9 15 (aB ?_);refine Zm ?_;refine Zv (aa.rF rfl rfl rfl (by omega) (by omega)) ?_;refine cG ?_;refine Zv ((aa.mG rfl rfl rfl (by omega) (by omega) (by omega)).cast (v':= .int .i64 (m:Int)) (int_eq (by omega))) ?_;refine Za ?_;refine dv 0 2 3 4 5 6 7 8 9 10 15 (aB ?_);refine Zm ?_;refine Zm ?_;refine Zv (aa.rF rfl rfl rfl (by omega) (by omega)) ?_;refine cG ?_;refine Zv (aa.mG rfl rfl rfl (by omega) (by omega) (by omega)) ?_;refine mC ?_;refine Zv ((aa.kA rfl rfl rfl (by omega) (by omega)).cast (v':= .int .i64 (dd:Int)) (int_eq (by omega))) ?_;refine Za ?_;refine fY 0 2 3 4 5 6 7 8 9 10 11 15 (aB ?_);refine Zm ?_;refine Zv ((aa.mG rfl rfl rfl (by omega) (by omega) (by omega)).cast (v':= .int .i64 (q:Int)) (int_eq hq2)) ?_;refine Zv (aa.rF rfl rfl rfl (by omega) (by omega)) ?_;refine Zm ?_;refine cG ?_;refine Za ?_;refine iq 0 2 3 4 5 6 7 8 9 10 11 12 15 (aI (aj ?_));refine Zm ?_;refine kZ ?_;refine jO 0 2 3 4 5 6 7 8 9 10 11 12 15 58 (Zt ?_);refine Cd.ak rfl (fun hc=> ?_) (fun hc=> ?_)
 ·rw[if_pos (by omega)] at hcY hcM
  subst hcY hcM;refine aj ?_;refine Zm ?_;refine cG ?_;refine Zm ?_;refine mC ?_;refine Zm ?_;refine Za ?_;refine Za ?_;refine Za ?_;refine Za ?_;refine jO 0 2 3 4 5 6 7 8 9 10 11 12 15 58 (Zt (Cd.ret (ae.af ?_)));refine ae.FJ rfl rfl rfl rfl rfl (.inl rfl) ?_;exact⟨FO (int_eq (by omega)) (int_eq (by omega)) rfl rfl,ab⟩
 ·rw[if_neg (by omega)] at hcY hcM
  subst hcY hcM;refine Cd.skip (aB ?_);refine Zm ?_;refine Zm ?_;refine cG ?_;refine Zm ?_;refine Za ?_;refine Za ?_;refine Za ?_;refine Za ?_;refine jO 0 2 3 4 5 6 7 8 9 10 11 12 15 58 (Zt (Cd.ret ?_));refine ae.FJ rfl rfl rfl rfl rfl (.inl rfl) ?_;exact⟨FO (int_eq (by omega)) (int_eq (by omega)) rfl rfl,ab⟩
theorem pT (v:Nat)(w:World)(h:v≤100000):Calls Tryz.prog 219 #[.int .i64 (v:Int)] w fun en w'=>(∃sv,en= .returned sv∧Own w' w.heap.size 5 1 sv 2 (Bt [48+v/10%10,48+v%10]))∧Grow w w':=by
 have ab:=Below.refl w.heap.size w;refine Zs 13 Tryz.func219 ?_;refine aj ?_;refine Za ?_;refine dF 0 2 (aB ?_);refine Zm ?_;refine Zv (aa.mG rfl rfl rfl (by omega) (by omega) (by omega)) ?_;refine Zv (aa.iR rfl rfl rfl (by omega) (by omega)) ?_;refine cG ?_;refine Zv (aa.dJ rfl rfl Tryz.underlying3 Tryz.underlying5 (jW (by omega) (by omega))) ?_;refine Zm ?_;refine Zv (aa.iR rfl rfl rfl (by omega) (by omega)) ?_;refine cG ?_;refine Zv (aa.dJ rfl rfl Tryz.underlying3 Tryz.underlying5 (jW (by omega) (by omega))) ?_;refine Seq.slice (vs:=[_,_]) (s:=1) rfl rfl rfl Tryz.underlying64 (by kernel_rfl) (bf) (by omega) (by omega) ⟨rfl,rfl,trivial⟩ rfl rfl rfl ?_;intro g12 w1 n12;have e12:=Nat.le_trans ab.size n12.ge;replace ab:=ab.step n12.below;have k12:=n12.an;refine Za ?_;refine dF 0 2 (Zt (Cd.ret ?_));refine aZ ?_
 have hc:(aN [.int .u8 (48+(v:Int)/10%10), .int .u8 (48+(v:Int)%10)]).toArray=(Bt [48+v/10%10,48+v%10]).toArray:=by
  simp[aN,Value.cells,Bt]
 rw[hc] at k12;exact⟨⟨_,rfl,Own.lit k12 e12 (by simp[Bt]) (by simp[maxLen])⟩,ab⟩
theorem tX:∀args w,(callFunc 219 args).run Tryz.prog w= .ok (.enter 219 args) w:=fun args w=>bG Tryz.func219 (by kernel_rfl) rfl args w
theorem uo (v:Nat):fe v 2=[48+v/10%10,48+v%10]:=by simp[fe]
theorem zM (v:Nat):fe v 4=[48+v/100/10%10,48+v/100%10]++[48+v/10%10,48+v%10]:=by
 simp[fe,Nat.div_div_eq_div_mul]
theorem tI (n:Nat)(w:World)(h:n≤2932896):Calls Tryz.prog 185 #[.int .i64 (n:Int)] w fun en w'=>en= .returned (.string (strOf (r7 n)))∧Grow w w':=by
 have ab:=Below.refl w.heap.size w;obtain⟨q,hq⟩:∃q,(n+719468)/146097=q:=⟨_,rfl⟩;obtain⟨e,he⟩:∃e,(n+719468)%146097=e:=⟨_,rfl⟩;have hciv:=fun W=>AN n q e W h hq he;have hel:e<146097:=by rw[←he];exact Nat.mod_lt _ (by decide)
 obtain⟨z1,z2,z3,z4,z5⟩:=B8 n q e (by omega) hel;have hok:=yq n _ _ _ h z1 z2 z3 z4 z5;obtain⟨o1,o2,o3,o4,o5,o6⟩:=nU hok;rw[yf n q e hq he]
 generalize cY q e=y at *
 generalize cM e=m at *
 generalize dT e=d at *
 clear hq he z1;refine Zs 42 Tryz.func185 ?_;refine aj ?_;refine Za ?_;refine dF 0 2 (aB ?_);refine Zm ?_;refine Zc (Ze Tryz.func218) (hciv _) ?_;rintro en w5 ⟨rfl,hb5⟩;refine⟨_,rfl,?_⟩;replace ab:=ab.step hb5;refine Zm ?_;refine Zx ?_;refine Zx ?_;refine Zx ?_;refine Zx ?_;refine Za ?_;refine Za ?_;refine Za ?_;refine Za ?_;refine aY 0 2 3 4 5 6 (aI (aj ?_));refine Zm ?_;refine mD ?_;refine ba 0 2 3 4 5 6 17 (Zt ?_);refine Cd.aM rfl rfl ?_;refine Cd.skip (aB ?_);refine Za ?_;refine cB 0 2 3 4 5 6 7 17 (aB ?_);refine Zm ?_;refine Zm ?_;refine Zv ((aa.mG rfl rfl rfl (by omega) (by omega) (by omega)).cast (v':= .int .i64 ((y/100:Nat):Int)) (int_eq (show(y:Int)/100=((y/100:Nat):Int) by omega))) ?_;refine Seq.call (Enters.value (first:=[]) (cap:=[]) rfl rfl rfl tX) rfl rfl rfl (pT (y/100) _ (by omega)) ?_;rintro en w6 ⟨⟨s1,rfl,own⟩,hb6⟩;refine⟨_,rfl,?_⟩;replace own:=own.base ab.size;replace ab:=ab.step hb6;refine Zm ?_;refine Zm ?_;refine Seq.call (Enters.value (first:=[]) (cap:=[]) rfl rfl rfl tX) rfl rfl rfl (pT y _ (by omega)) ?_;rintro en w7 ⟨⟨s2,rfl,own2⟩,hb7⟩;refine⟨_,rfl,?_⟩;replace ab:=ab.step hb7;replace own:=own.step hb7;obtain⟨A2,c2,rfl,rd2⟩:=own2.reads;refine Seq.append rfl rfl rfl Tryz.underlying64 (by kernel_rfl) bf rfl (by decide) (b:=1) (by kernel_rfl) own (rd2) (wM _) ab.size (by simp only[maxLen];omega) (by omega) rfl rfl rfl ?_;clear own;intro vw1 w1 own haw1;replace ab:=ab.trans haw1.below;clear own2;refine Za ?_;refine dY 0 2 3 4 5 6 7 8 17 (aB ?_);refine Zm ?_;refine Seq.slice (vs:=[_]) (s:=1) rfl rfl rfl Tryz.underlying64 (by kernel_rfl) (bf) (by omega) (by omega) ⟨rfl,trivial⟩ rfl rfl rfl ?_;intro g27 w2 n27;have e27:=Nat.le_trans ab.size n27.ge;replace ab:=ab.step n27.below;replace own:=own.step n27.below;have k27:=n27.an;refine Seq.append rfl rfl rfl Tryz.underlying64 (by kernel_rfl) bf rfl (by decide) (b:=1) (by kernel_rfl) own (Reads.an k27 1 rfl) (by intro x hx;simp[aN,Value.cells] at hx;rw[hx];rfl) ab.size (by simp only[maxLen];omega) (by omega) rfl rfl rfl ?_;clear own;intro vw3 w3 own haw3;replace ab:=ab.trans haw3.below;refine Zm ?_;refine Zm ?_;refine Seq.call (Enters.value (first:=[]) (cap:=[]) rfl rfl rfl tX) rfl rfl rfl (pT m _ (by omega)) ?_;rintro en w8 ⟨⟨s3,rfl,own3⟩,hb8⟩;refine⟨_,rfl,?_⟩;replace ab:=ab.step hb8;replace own:=own.step hb8;obtain⟨A3,c3,rfl,rd3⟩:=own3.reads;refine Seq.append rfl rfl rfl Tryz.underlying64 (by kernel_rfl) bf rfl (by decide) (b:=1) (by kernel_rfl) own (rd3) (wM _) ab.size (by simp only[maxLen];omega) (by omega) rfl rfl rfl ?_;clear own;intro vw4 w4 own haw4;replace ab:=ab.trans haw4.below;clear own3;refine Za ?_;refine dY 0 2 3 4 5 6 7 8 17 (aB ?_);refine Zm ?_;refine Seq.slice (vs:=[_]) (s:=1) rfl rfl rfl Tryz.underlying64 (by kernel_rfl) (bf) (by omega) (by omega) ⟨rfl,trivial⟩ rfl rfl rfl ?_;intro g34 w5 n34;have e34:=Nat.le_trans ab.size n34.ge;replace ab:=ab.step n34.below;replace own:=own.step n34.below;have k34:=n34.an;refine Seq.append rfl rfl rfl Tryz.underlying64 (by kernel_rfl) bf rfl (by decide) (b:=1) (by kernel_rfl) own (Reads.an k34 1 rfl) (by intro x hx;simp[aN,Value.cells] at hx;rw[hx];rfl) ab.size (by simp only[maxLen];omega) (by omega) rfl rfl rfl ?_;clear own;intro vw6 w6 own haw6;replace ab:=ab.trans haw6.below;refine Zm ?_;refine Zm ?_;refine Seq.call (Enters.value (first:=[]) (cap:=[]) rfl rfl rfl tX) rfl rfl rfl (pT d _ (by omega)) ?_;rintro en w9 ⟨⟨s4,rfl,own4⟩,hb9⟩;refine⟨_,rfl,?_⟩;replace ab:=ab.step hb9;replace own:=own.step hb9;obtain⟨A4,c4,rfl,rd4⟩:=own4.reads;refine Seq.append rfl rfl rfl Tryz.underlying64 (by kernel_rfl) bf rfl (by decide) (b:=1) (by kernel_rfl) own (rd4) (wM _) ab.size (by simp only[maxLen];omega) (by omega) rfl rfl rfl ?_;clear own;intro vw7 w7 own haw7;replace ab:=ab.trans haw7.below;clear own4;refine Za ?_;refine dY 0 2 3 4 5 6 7 8 17 (aB ?_);refine Zm ?_;obtain⟨A5,c5,rfl,rd5⟩:=own.reads
 have hbt:Bt [48+y/100/10%10,48+y/100%10]++Bt [48+y/10%10,48+y%10]++(aN [.int .u8 45]).toArray.toList++Bt [48+m/10%10,48+m%10]++(aN [.int .u8 45]).toArray.toList++Bt [48+d/10%10,48+d%10]=Bt (fW y m d):=by
  unfold fW;rw[zM,uo,uo];simp[Bt,aN,Value.cells]
 rw[hbt] at rd5;refine Zv (aa.mV rfl rfl Tryz.underlying64 Tryz.underlying5 Tryz.underlying9 rd5 (oA y m d)) ?_;refine Za ?_;refine dY 0 2 3 4 5 6 7 8 17 (Zt (Cd.ret ?_));refine aZ ?_;exact⟨rfl,ab⟩
structure uA (w0 w:World)(g:Nat):Prop where
 row:w0.grownBy w (some g)
theorem uA.step {w0 w w':World}{g:Nat}(h:uA w0 w g)(hb:Below w.heap.size w w'):uA w0 w' g:=⟨qy h.row hb⟩
theorem uA.put {w0 w w':World}{g B:Nat}{T:TypeId}{cur cs:Array Value}(h:uA w0 w g)(_k:aH w g T cur)(p:lu w w' g T cs)(_e:B≤g):uA w0 w' g:=⟨qp h.row p.grown⟩
def lr (xs:List Value)(n i j:Nat):Option Value:=if j<i∨n≤j+i then xs[n-1-j]? else xs[j]?
theorem vP (g n cap:Nat)(cur:Array Value)(xs:List Value)(w:World)(hb:aH w g 5 cur)(hc:n≤cap)(hn:n≤1000000000)(hs:cur.size=cap)(hx:∀j,j<n→cur[j]? =xs[j]?)(hl:xs.length=n)(h1:∀u∈xs,∃z,u= .int .u8 z):
  Calls Tryz.prog 217 #[.slice (some ⟨g,0,none⟩) n cap] w fun e w'=>∃cur',e= .returned (.tuple #[])∧aH w' g 5 cur'∧cur'.size=cap∧(∀j,j<n→cur'[j]? =xs.reverse[j]?)∧uA w w' g:=by
 refine Zs 28 Tryz.func217 ?_;refine aj ?_;refine Zm ?_;refine Zv (aa.len rfl rfl Tryz.underlying64) ?_;refine mC ?_;refine Za ?_;refine Za ?_;refine bn 0 2 3 (Zt (Cd.block ?_))
 refine Cd.loop (σ:=Nat × Array Value) (fun s=>[(0, .slice (some ⟨g,0,none⟩) n cap),(2, .int .i64 (s.1:Int)),(3, .int .i64 ((n:Int)-1-s.1))])
  (fun s wr=>s.1≤n∧aH wr g 5 s.2∧s.2.size=cap∧(∀j,j<n→s.2[j]? =lr xs n s.1 j)∧uA w wr g) (fun s=>n-s.1) (0,cur) ⟨Nat.zero_le _,hb,hs,fun j hj=>by dsimp only;rw[hx j hj];unfold lr;rw[if_neg (by omega)],⟨World.grownBy.refl _ _⟩⟩
  ⟨rfl,rfl,congrArg (fun x=>some (Value.int .i64 x)) (show(n:Int)-1=(n:Int)-1-((0:Nat):Int) by omega),trivial⟩ ?_
 clear hb hs hx cur;rintro⟨i,cs⟩ wr ⟨hi,k0,hs,hx,hgr⟩;dsimp only at hi k0 hs hx hgr⊢;have e0:0≤g:=Nat.zero_le g;refine Cd.seq (aj ?_);refine Zm ?_;refine Zm ?_;refine eI ?_;refine aQ 0 2 3 9 (Zt ?_);refine Cd.ak rfl (fun hc=> ?_) (fun hc=> ?_)
 ·have hlt:i<n-1-i:=by omega
  have get:∀j,j<n→∃z,xs[j]? =some (.int .u8 z):=fun j hj=>by
   obtain⟨z,hz⟩:=h1 xs[j] (List.getElem_mem (by omega));exact⟨z,by rw[List.getElem?_eq_getElem (by omega),hz]⟩
  obtain⟨za,ha⟩:=get (n-1-i) (by omega);obtain⟨zb,hb⟩:=get i (by omega);have ca:cs[n-1-i]? =some (.int .u8 za):=by rw[hx _ (by omega),lr,if_neg (by omega),ha]
  have cb:cs[i]? =some (.int .u8 zb):=by rw[hx _ (by omega),lr,if_neg (by omega),hb]
  refine Cd.skip (aI (Cd.block ?_));refine Cd.draw 12 (by kernel_rfl) [2,3] (.inr (fun _ _ d _ _ h=>by cases d<;>exact h)) rfl Grow Grow.refl (fun _ _ _=>Grow.trans) ?_;intro w1 hw1 zw1;replace k0:=k0.step hw1;replace hgr:=hgr.step hw1;have zlt:=k0.lt;refine cf ?_;refine cf ?_;refine Dr.late rfl rfl (fun w=>aa.move rfl rfl) Grow.refl rfl ?_;refine Dr.late rfl rfl (fun w=>aa.move rfl rfl) Grow.refl rfl ?_;refine cf ?_;refine cf ?_;refine Zd (fun w hG=>aa.dS rfl rfl rfl Tryz.underlying64 (by kernel_rfl) (j:=n-1-i) (by omega) (by omega)) ?_;refine Zd (fun w hG=>aa.au rfl rfl Tryz.underlying5 rfl (k0.step hG) ca) ?_;refine cf ?_;refine cf ?_;refine Zd (fun w hG=>aa.dS rfl rfl rfl Tryz.underlying64 (by kernel_rfl) (j:=i) (by omega) (by omega)) ?_;refine Zd (fun w hG=>aa.au rfl rfl Tryz.underlying5 rfl (k0.step hG) cb) ?_;refine Dr.nil ?_;refine bb.done (F':=[(0,_),(2,_),(3,_),(9,_),(14,_),(15,_),(16,_),(17,_),(21,_),(25,_)]) rfl ⟨rfl,rfl,rfl,rfl,rfl,rfl,rfl,rfl,rfl,rfl,trivial⟩ ?_;intro w2 hw2 fw2;replace k0:=k0.step hw2;replace hgr:=hgr.step hw2;refine Zv (aa.dS rfl rfl rfl Tryz.underlying64 (by kernel_rfl) (j:=i) (by omega) (by omega)) ?_;refine Seq.ly rfl rfl rfl (by kernel_rfl) rfl rfl k0 (cb) rfl rfl ?_;intro w3 pw3;replace hgr:=hgr.put k0 pw3 e0;replace k0:=pw3.an;refine Zv (aa.dS rfl rfl rfl Tryz.underlying64 (by kernel_rfl) (j:=n-1-i) (by omega) (by omega)) ?_;have ca2:(cs.setIfInBounds i (.int .u8 za))[n-1-i]? =some (.int .u8 za):=by rw[Array.getElem?_setIfInBounds_ne (by omega)];exact ca
  refine Seq.ly rfl rfl rfl (by kernel_rfl) rfl rfl k0 (ca2) rfl rfl ?_;intro w4 pw4;replace hgr:=hgr.put k0 pw4 e0;replace k0:=pw4.an;refine aQ 0 2 3 9 (ae.ah (eh ?_));refine Zm ?_;refine cG ?_;refine Zm ?_;refine mC ?_;refine Za ?_;refine Za ?_;refine aQ 0 2 3 9 ?_;rw[show(i:Int)+1=((i+1:Nat):Int) by omega,show(n:Int)-1-(i:Int)-1=(n:Int)-1-((i+1:Nat):Int) by omega];refine ae.round (i+1,(cs.setIfInBounds i (.int .u8 za)).setIfInBounds (n-1-i) (.int .u8 zb)) ⟨rfl,rfl,rfl,trivial⟩ ⟨by dsimp only;omega,k0,by simp[hs],fun j hj=> ?_,hgr⟩ (by dsimp only;omega);dsimp only;have hin:n-1-i<(cs.setIfInBounds i (.int .u8 za)).size:=by rw[Array.size_setIfInBounds];omega
  by_cases hj1:j=n-1-i
  ·subst hj1
   rw[Array.getElem?_setIfInBounds_self_of_lt hin,lr,if_pos (by omega),show n-1-(n-1-i)=i by omega,hb]
  ·rw[Array.getElem?_setIfInBounds_ne (by omega)]
   by_cases hj2:j=i
   ·subst hj2
    rw[Array.getElem?_setIfInBounds_self_of_lt (by omega),lr,if_pos (by omega),ha]
   ·rw[Array.getElem?_setIfInBounds_ne (by omega),hx j hj]
    unfold lr
    by_cases hc2:j<i∨n≤j+i
    ·rw[if_pos hc2,if_pos (by omega)]
    ·rw[if_neg hc2,if_neg (by omega)]
 ·skip
  refine Cd.exit (ae.aC (ae.aA (ae.ay ?_)));refine ae.gu rfl (.inr rfl) ?_;refine⟨cs,rfl,k0,hs,fun j hj=> ?_,hgr⟩;rw[hx j hj,List.getElem?_reverse (by omega),hl];unfold lr
  by_cases hc2:j<i∨n≤j+i
  ·rw[if_pos hc2]
  ·rw[if_neg hc2]
   rw[show n-1-j=j by omega]
theorem Own.an {w:World}{B n:Nat}{e:TypeId}{v:Value}{xs:List Value}(h:Own w B e 1 v n xs)(h0:0<n):∃g cap cur,v= .slice (some ⟨g,0,none⟩) n cap∧B≤g∧aH w g e cur∧n≤cap∧cap≤maxLen∧cur.size=cap∧xs.length=n∧∀j,j<n→cur[j]? =xs[j]? :=by
 obtain⟨hl,⟨_,h1⟩|⟨g,cap,cur,rfl,h1,h2,h3,h4,h5,h6⟩⟩:=h.row
 ·omega
 ·refine⟨g,cap,cur,rfl,h1,h2,h3,h4,by omega,by omega,fun j hj=> ?_⟩
  rw[←h6,List.getElem?_take_of_lt (by omega)];simp
set_option maxHeartbeats 1000000 in
theorem ze (n:Int)(d:Nat)(w:World)(hn:bm n)(hd:d≤9):
  Calls Tryz.prog 184 #[.int .i64 n, .int .i64 (d:Int)] w fun e w'=>(∃N,gI n.natAbs d N∧N≤20∧e= .returned (.string (strOf (printed n d N))))∧Grow w w':=by
 have ab:=Below.refl w.heap.size w;have hu:n.natAbs≤9223372036854775808:=by have:=hn.1;have:=hn.2;omega
 refine Zs 53 Tryz.func184 ?_;refine aj ?_;refine Za ?_;refine bn 0 1 4 (aI (aj ?_));refine Zm ?_;refine eI ?_;refine Zm ?_;refine aw.start ?_;refine bw (fun hcx=>aa.move rfl rfl) ?_;refine Zn (fun hcx=>aa.gtr rfl rfl rfl) ?_;refine fg ?_;refine aQ 0 1 4 13 (Zt ?_);refine Cd.cond rfl (fun h=> ?_) (fun h=> ?_)
 ·exfalso
  simp at h;omega
 clear h;refine Cd.skip (aB ?_);refine Za ?_;refine aO 0 1 4 5 13 (aI (aj ?_));refine Zm ?_;refine Zc (Ze Tryz.func216) (qG _ _ hn) ?_;rintro e w3 ⟨rfl,rfl⟩;refine⟨_,rfl,?_⟩;refine Za ?_;refine Za ?_;refine ba 0 1 4 5 6 7 13 (Zt (Cd.block ?_))
 generalize hun:n.natAbs=u at *
 have own:=Own.nil w w.heap.size 5 1
 refine Cd.loop (σ:=Nat × Value) (fun s=>[(0, .int .i64 n),(1, .int .i64 (d:Int)),(5,s.2),(6, .int .u64 ((u/10^s.1:Nat):Int)),(7, .int .i64 (s.1:Int))])
  (fun s wr=>s.1≤20∧Below w.heap.size w wr∧Own wr w.heap.size 5 1 s.2 (lf u d s.1).length (Bt (lf u d s.1))∧∀j,j<s.1→0<u/10^j∨j≤d) (fun s=>20-s.1) (0, .slice none 0 0) ⟨by simp,ab,own,fun j hj=>absurd hj (by simp)⟩ ⟨rfl,rfl,rfl,congrArg (fun x:Nat=>some (Value.int .u64 (x:Int))) (show u=u/10^0 by simp),rfl,trivial⟩ ?_
 clear ab;clear own;rintro⟨k,v⟩ wr ⟨hk,ab,own,hgo⟩;dsimp only at hk own hgo⊢;refine Cd.seq (aj ?_);refine Zm ?_;refine uV ?_;refine Zm ?_;refine aw.start ?_;refine bw (fun hcx=>aa.move rfl rfl) ?_;refine gq ?_;refine Zn (fun hcx=>aa.leq rfl rfl rfl) ?_;refine fg ?_;refine aY 0 1 5 6 7 22 (Zt ?_);have hlen:=pO u d k;have hdk:u/10^k≤u:=Nat.div_le_self _ _;have hdt:=yd u k;have hpr:lf u d (k+1)=lf u d k++(if k=d∧0<d then [46] else [])++[48+u/10^k%10]:=rfl
 generalize hq:u/10^k=q at *
 refine Cd.cond rfl (fun hc=> ?_) (fun hc=> ?_)
 ·have hgo1:0<q∨k≤d:=by simp at hc;omega
  have hk20:k<20:=by
   rcases Nat.lt_or_ge k 20 with h|h
   ·exact h
   ·obtain rfl:k=20:=by omega
    have:u/10^20=0:=Nat.div_eq_of_lt (by omega);omega
  have hgo2:∀j,j<k+1→0<u/10^j∨j≤d:=fun j hj=>by
   rcases Nat.lt_or_ge j k with h|h
   ·exact hgo j h
   ·obtain rfl:j=k:=by omega
    rw[hq];exact hgo1
  refine Cd.skip (aI (Cd.block ?_));refine Cd.lB (σ:=Value) (fun v=>[(0, .int .i64 n),(1, .int .i64 (d:Int)),(5,v),(6, .int .u64 (q:Int)),(7, .int .i64 (k:Int))]) (fun v wr=>Below w.heap.size w wr∧Own wr w.heap.size 5 1 v (lf u d k++if k=d∧0<d then [46] else []).length (Bt (lf u d k++if k=d∧0<d then [46] else []))) ?_ ?_
  ·skip
   refine aj ?_;refine Zm ?_;refine Zm ?_;refine bC ?_;refine Zm ?_;refine aw.start ?_;refine bw (fun hcx=>aa.move rfl rfl) ?_;refine Zn (fun hcx=>aa.gtr rfl rfl rfl) ?_;refine fQ ?_;refine ba 0 1 5 6 7 22 31 (Zt ?_);refine Cd.cond rfl (fun hp=> ?_) (fun hp=> ?_)
   ·rw[if_pos (by simp at hp;omega)]
    refine Zr ?_;refine Zm ?_;refine Seq.slice (vs:=[_]) (s:=1) rfl rfl rfl Tryz.underlying64 (by kernel_rfl) (bf) (by omega) (by omega) ⟨rfl,trivial⟩ rfl rfl rfl ?_;intro g33 w1 n33;have e33:=Nat.le_trans ab.size n33.ge;replace ab:=ab.step n33.below;replace own:=own.step n33.below;have k33:=n33.an;refine Seq.append rfl rfl rfl Tryz.underlying64 (by kernel_rfl) bf rfl (by decide) (b:=1) (by kernel_rfl) own (Reads.an k33 1 rfl) (by intro x hx;simp[aN,Value.cells] at hx;rw[hx];rfl) ab.size (by simp only[maxLen];omega) (by omega) rfl rfl rfl ?_;clear own;intro vw2 w2 own haw2;replace ab:=ab.trans haw2.below;refine Za ?_;refine ba 0 1 5 6 7 22 31 ?_;exact ae.join _ ⟨rfl,rfl,rfl,rfl,rfl,trivial⟩ ⟨ab,by rw[List.length_append,jJ];exact own⟩
   ·rw[if_neg (by simp at hp;omega)]
    refine Cd.skip ?_;exact ae.join _ ⟨rfl,rfl,rfl,rfl,rfl,trivial⟩ ⟨ab,by rw[List.append_nil];exact own⟩
  clear own ab hc;rintro v wr ⟨ab,own⟩;have hl2:(lf u d k++if k=d∧0<d then [46] else []).length≤2*k+1:=by rw[List.length_append];split<;>simp<;>omega
  generalize lf u d k++(if k=d∧0<d then [46] else [])=pre at *
  refine aj ?_;refine Zm ?_;refine Zm ?_;refine Zv (aa.Fc 10 rfl rfl rfl rfl (by omega)) ?_;refine Zv (aa.DF rfl rfl rfl (by omega) (by omega)) ?_;refine Zv (aa.dJ rfl rfl Tryz.underlying94 Tryz.underlying5 (jW (by omega) (by omega))) ?_;refine Seq.slice (vs:=[_]) (s:=1) rfl rfl rfl Tryz.underlying64 (by kernel_rfl) (bf) (by omega) (by omega) ⟨rfl,trivial⟩ rfl rfl rfl ?_;intro g40 w1 n40;have e40:=Nat.le_trans ab.size n40.ge;replace ab:=ab.step n40.below;replace own:=own.step n40.below;have k40:=n40.an;refine Seq.append rfl rfl rfl Tryz.underlying64 (by kernel_rfl) bf rfl (by decide) (b:=1) (by kernel_rfl) own (Reads.an k40 1 rfl) (by intro x hx;simp[aN,Value.cells] at hx;rw[hx];rfl) ab.size (by simp only[maxLen];omega) (by omega) rfl rfl rfl ?_;clear own;intro vw2 w2 own haw2;replace ab:=ab.trans haw2.below;refine Za ?_;refine aO 0 1 5 6 7 (eh ?_);refine Zm ?_;refine Zv (aa.CD 10 rfl rfl rfl rfl (by omega) (by omega)) ?_;refine Za ?_;refine aO 0 1 5 6 7 (ae.ah (eh ?_));refine Zm ?_;refine cG ?_;refine Za ?_;refine aO 0 1 5 6 7 ?_;refine ae.round (k+1,_) ⟨rfl,rfl,rfl,congrArg (fun x:Nat=>some (Value.int .u64 (x:Int))) hdt,rfl,trivial⟩ ⟨by dsimp only;omega,ab,?_,hgo2⟩ (by dsimp only;omega);dsimp only;rw[hpr,List.length_append,jJ];exact own
 ·have hstop:gI u d k:=⟨hgo,by rw[hq];simp at hc;omega⟩
  have hk1:0<k:=by simp at hc;omega
  refine Cd.exit (ae.aC (ae.aA (ae.ay (Zt ?_))));refine Cd.lB (σ:=Value) (fun v=>[(5,v)]) (fun v wr=>Below w.heap.size w wr∧Own wr w.heap.size 5 1 v (lf u d k++if n<0 then [45] else []).length (Bt (lf u d k++if n<0 then [45] else []))) ?_ ?_
  ·skip
   refine aj ?_;refine Zm ?_;refine eI ?_;refine ba 0 1 5 6 7 22 45 (Zt ?_);refine Cd.ak rfl (fun hp=> ?_) (fun hp=> ?_)
   ·rw[if_pos hp]
    refine Zr ?_;refine Zm ?_;refine Seq.slice (vs:=[_]) (s:=1) rfl rfl rfl Tryz.underlying64 (by kernel_rfl) (bf) (by omega) (by omega) ⟨rfl,trivial⟩ rfl rfl rfl ?_;intro g47 w1 n47;have e47:=Nat.le_trans ab.size n47.ge;replace ab:=ab.step n47.below;replace own:=own.step n47.below;have k47:=n47.an;refine Seq.append rfl rfl rfl Tryz.underlying64 (by kernel_rfl) bf rfl (by decide) (b:=1) (by kernel_rfl) own (Reads.an k47 1 rfl) (by intro x hx;simp[aN,Value.cells] at hx;rw[hx];rfl) ab.size (by simp only[maxLen];omega) (by omega) rfl rfl rfl ?_;clear own;intro vw2 w2 own haw2;replace ab:=ab.trans haw2.below;refine Za ?_;refine ba 0 1 5 6 7 22 45 ?_;exact ae.join _ ⟨rfl,trivial⟩ ⟨ab,by rw[List.length_append,jJ];exact own⟩
   ·rw[if_neg hp]
    refine Cd.skip ?_;exact ae.join _ ⟨rfl,trivial⟩ ⟨ab,by rw[List.append_nil];exact own⟩
  clear own ab hc;rintro v wr ⟨ab,own⟩;have hpos:0<(lf u d k++if n<0 then [45] else []).length:=by rw[List.length_append];omega
  have hl3:(lf u d k++if n<0 then [45] else []).length≤41:=by rw[List.length_append];split<;>simp<;>omega
  have hlt:∀x∈(lf u d k++if n<0 then [45] else []),x<256:=fun x hx=>by
   rcases List.mem_append.1 hx with hx|hx
   ·exact tE u d k x hx
   ·split at hx
    ·simp at hx;omega
    ·simp at hx
  have hprd:printed n d k=(lf u d k++if n<0 then [45] else []).reverse:=by unfold printed;rw[hun]
  obtain⟨g,cap,cur,rfl,hBg,kb,hnc,hcm,hsz,hxl,hcur⟩:=own.an hpos
  generalize lf u d k++(if n<0 then [45] else [])=l at *
  refine aj ?_;refine Zm ?_;refine Zc (Ze Tryz.func217) (vP g l.length cap cur (Bt l) _ kb hnc (by omega) hsz hcur hxl (fun x hx=>by unfold Bt at hx;obtain⟨z,_,rfl⟩:=List.mem_map.1 hx;exact⟨_,rfl⟩)) ?_;rintro e w9 ⟨cur',rfl,kb',hsz',hcur',honly⟩;refine⟨_,rfl,?_⟩;replace ab:=ab.trans (jA honly.row hBg kb.lt)
  have hrd:Reads w9 w9.heap.size 1 (some ⟨g,0,none⟩) l.length (Bt l.reverse):=by
   refine⟨by rw[mf];simp,fun _=>⟨_,rfl,kb'.lt,fun j x hx=> ?_⟩⟩;have hplain:(⟨g,0,none⟩:Addr).add j=⟨g,j,none⟩:=by unfold Addr.add;split<;>simp_all
   rw[hplain,cell_of_row _ _ _ _ _ _ kb']
   have hj:j<l.length:=by
    rcases Nat.lt_or_ge j l.length with h|h
    ·exact h
    ·rw[ou,List.getElem?_eq_none (by simpa using h)] at hx;cases hx
   rw[hcur' j hj];unfold Bt at hx⊢;rw[←List.map_reverse];exact hx
  refine EF 5 (aB ?_);refine Zm ?_;refine Zv (aa.mV rfl rfl Tryz.underlying64 Tryz.underlying5 Tryz.underlying9 hrd (fun x hx=>hlt x (List.mem_reverse.1 hx))) ?_;refine Za ?_;refine dF 4 5 (Zt (Cd.ret ?_));refine aZ ?_;exact⟨⟨k,hstop,by omega,by rw[hprd]⟩,ab⟩
def Aq (u:Nat):Nat:=((List.range 21).find? fun N=> !(decide (0<u/10^N)||decide (N≤0))).getD 0
theorem yv {u N:Nat}(h:gI u 0 N)(hN:N≤20):Aq u=N:=by
 have hf:(List.range 21).find? (fun N=> !(decide (0<u/10^N)||decide (N≤0)))=some N:=by
  rw[List.find?_range_eq_some];refine⟨?_,List.mem_range.2 (by omega),fun j hj=> ?_⟩
  ·have:=h.2
   simp only[not_or] at this;simp only[Bool.not_eq_true',Bool.or_eq_false_iff,decide_eq_false_iff_not];exact this
  ·have:=h.1 j hj
   simp only[Bool.not_not,Bool.or_eq_true,decide_eq_true_eq];exact this
 unfold Aq;rw[hf];rfl
def rK (n:Int):List Nat:=printed n 0 (Aq n.natAbs)
theorem Eu (u:Nat):Aq u≤20:=by
 unfold Aq
 cases h:(List.range 21).find? (fun N=> !(decide (0<u/10^N)||decide (N≤0))) with
 |none=>exact Nat.zero_le _
 |some N=>have:=List.mem_range.1 (List.mem_of_find?_eq_some h);show N≤20;omega
theorem uw (n:Int):(rK n).length≤41:=by
 unfold rK printed;have h1:=Eu n.natAbs;have h2:=pO n.natAbs 0 (Aq n.natAbs);rw[List.length_reverse,List.length_append];split<;>simp<;>omega
theorem yo (n:Int):∀x∈rK n,x<256:=by
 intro x hx;unfold rK printed at hx;rw[List.mem_reverse,List.mem_append] at hx;rcases hx with hx|hx
 ·exact tE _ _ _ x hx
 ·split at hx<;>simp at hx;omega
theorem zG (n:Int)(w:World)(hn:bm n):Calls Tryz.prog 184 #[.int .i64 n, .int .i64 0] w fun e w'=>e= .returned (.string (strOf (rK n)))∧Grow w w':=
 (ze n 0 w hn (by decide)).mono fun e w' ⟨⟨N,h1,h2,h3⟩,h4⟩=>⟨by rw[h3];unfold rK;rw[yv h1 h2],h4⟩
theorem tB (n:Int)(w:World)(hn:bm n):Calls Tryz.prog 110 #[.int .i64 n, .int .i64 0] w fun e w'=>e= .returned (.string (strOf (rK n)))∧Grow w w':=
 (nV n 0 w hn (by decide)).mono fun e w' ⟨⟨N,h1,h2,h3⟩,h4⟩=>⟨by rw[h3];unfold rK;rw[yv h1 h2],h4⟩
theorem ui (n:Nat):(r7 n).length=10:=by unfold r7 fW;simp[fN]
theorem yw (n:Nat):∀x∈r7 n,x<256:=oA _ _ _
theorem Er (n:Nat)(w:World)(h:n≤2932896):Calls Tryz.prog 111 #[.int .i64 (n:Int)] w fun e w'=>e= .returned (.string (strOf (r7 n)))∧Grow w w':=by
 obtain⟨q,hq⟩:∃q,(n+719468)/146097=q:=⟨_,rfl⟩;obtain⟨e,he⟩:∃e,(n+719468)%146097=e:=⟨_,rfl⟩;have hel:e<146097:=by rw[←he];exact Nat.mod_lt _ (by decide)
 obtain⟨z1,z2,z3,z4,z5⟩:=B8 n q e (by omega) hel;have hok:=yq n _ _ _ h z1 z2 z3 z4 z5;have hp:=kK _ _ _ w hok;rw[z1,Int.toNat_natCast,Int.toNat_natCast,Int.toNat_natCast] at hp;rw[yf n q e hq he];exact hp
def pt:List (List Nat):=[[43],[45],[42],[47],[],[],[60],[60,61],[61],[33,61],[62,61],[62],[38],[124],[33],[45]]
def pv:List Int:=[4,4,5,5,7,7,3,3,3,3,3,3,2,1,6,6]
def bu (op:Int):List Nat × Int:=if op<5∨20<op then([],7) else(pt.getD (op-5).toNat [],pv.getD (op-5).toNat 7)
def jC (least:Int)(x:Int × List Nat):List Nat:=if x.1<least then [40]++x.2++[41] else x.2
def cA:List (List Nat)→List Nat
 | []=>[]
 |s::r=>s++(r.flatMap fun t=>[44,32]++t)
theorem kC (l:List (List Nat))(x:List Nat):cA (l++[x])=if l=[] then x else cA l++[44,32]++x:=by
 cases l with
 |nil=>simp[cA]
 |cons s r=>simp[cA]
def ud (op n:Int)(nm:List Nat)(l:List (Int × List Nat)):List Nat:=
 if op=1 then rK n else if op=2 then r7 n.toNat else if op=3 then nm else if op=4 then [100,97,121]
 else if(bu op).2=6 then(bu op).1++jC 6 (l.getD 0 (7,[]))
 else if(bu op).2=3 then jC 4 (l.getD 0 (7,[]))++[32]++(bu op).1++[32]++jC 4 (l.getD 1 (7,[]))
 else if(bu op).2<6 then jC (bu op).2 (l.getD 0 (7,[]))++[32]++(bu op).1++[32]++jC ((bu op).2+1) (l.getD 1 (7,[]))
 else(if op=9 then [109,105,110,40] else if op=10 then [109,97,120,40] else [105,102,40])++cA (l.map (·.2))++[41]
mutual
def bO:Ex→List Nat
 | .mk op n nm l=>ud op n nm (rh l)
def rh:List Ex→List (Int × List Nat)
 | []=>[]
 |e::r=>((bu e.op).2,bO e)::rh r
end
def cO (e:Ex):Int × List Nat:=((bu e.op).2,bO e)
theorem rk:∀l,rh l=l.map cO
 | []=>by rw[rh];rfl
 |e::r=>by rw[rh,rk r];rfl
theorem qQ (e:Ex):bO e=ud e.op e.n e.name (e.args.map cO):=by
 cases e;rw[bO,rk];rfl
def pg (e:Ex)(least:Int):List Nat:=jC least (cO e)
theorem oM {op n:Int}{nm:List Nat}{k:Nat}(h:gH op n nm k=true):eU op=(k:Int)∧(n=0∨op=1∨op=2)∧(nm=[]∨op=3)∧0≤n∧(op=2→n≤2932896)∧(op=3→ir nm=true):=
 Classical.byContradiction fun hn=>by rw[oW hn] at h;cases h
theorem mS {e:Ex}(h:bE e=true):gH e.op e.n e.name e.args.length=true∧∀x∈e.args,bE x=true:=by
 rw[oE,Bool.and_eq_true,List.all_eq_true] at h;exact h
theorem qn {op:Int}{k:Nat}(h:eU op=(k:Int)):1≤op∧op≤21∧(op≤4→k=0)∧(5≤op→op≤18→k=2)∧(op=19∨op=20→k=1)∧(op=21→k=3):=by
 unfold eU at h
 repeat' split at h
 all_goals omega
theorem nu {nm:List Nat}(h:ir nm=true):nm.length≤16:=by
 unfold ir cS at h;simp at h;omega
theorem mx (op:Int):(bu op).1.length≤2∧(∀x∈(bu op).1,x<256)∧1≤(bu op).2∧(bu op).2≤7:=by
 unfold bu;split
 ·simp
 ·rename_i h
  have:(op-5).toNat<16:=by omega
  generalize (op-5).toNat=j at *
  have key:∀j:Fin 16,(pt.getD j.val []).length≤2∧(∀x∈pt.getD j.val [],x<256)∧1≤pv.getD j.val 7∧pv.getD j.val 7≤7:=by decide
  exact key ⟨j,this⟩
theorem lT (least:Int)(x:Int × List Nat):(jC least x).length≤x.2.length+2∧((∀d∈x.2,d<256)→∀d∈jC least x,d<256):=by
 unfold jC;split
 ·refine⟨by simp,fun h d hd=> ?_⟩
  simp only[List.mem_append,List.mem_singleton] at hd;rcases hd with (hd|hd)|hd
  ·omega
  ·exact h d hd
  ·omega
 ·exact⟨by omega,fun h=>h⟩
theorem Dj {l:List Nat}(h:runN aL l=l.length):∀x∈l,aL x=true:=by
 induction l with
 |nil=>intro x hx;cases hx
 |cons c r ih=>
  rw[eu] at h;intro x hx;split at h
  ·rename_i hc
   rcases List.mem_cons.1 hx with rfl|hx
   ·exact hc
   ·exact ih (by rw[List.length_cons] at h;omega) x hx
  ·simp at h
theorem pR {nm:List Nat}(h:ir nm=true):∀x∈nm,x<256:=by
 unfold ir cS at h;simp at h;intro x hx;have:=Dj h.1.2 x hx;unfold aL kT fy at this;simp at this;omega
theorem DT {P:Nat→Prop}{a b c:List Nat}(ha:∀x∈a,P x)(hb:∀x∈b,P x)(hc:∀x∈c,P x):∀x∈a++b++c,P x:=by
 intro x hx;simp only[List.mem_append] at hx;rcases hx with (h|h)|h
 ·exact ha x h
 ·exact hb x h
 ·exact hc x h
theorem yi {l:List (List Nat)}(h:∀t∈l,∀x∈t,x<256):∀x∈cA l,x<256:=by
 cases l with
 |nil=>intro x hx;cases hx
 |cons s r=>
  intro x hx;unfold cA at hx;simp only[List.mem_append,List.mem_flatMap,List.mem_cons,List.not_mem_nil,or_false] at hx;rcases hx with hx|⟨t,ht,hx|hx⟩
  ·exact h s List.mem_cons_self x hx
  ·omega
  ·exact h t (List.mem_cons_of_mem _ ht) x hx
theorem jG (l:List Ex):(l.map cO).map (·.2)=l.map bO:=by rw[List.map_map];rfl
theorem ph (s t:List Nat)(r:List (List Nat)):cA (s::t::r)=s++[44,32]++cA (t::r):=by simp[cA]
theorem mz:∀l:List Ex,(∀x∈l,(bO x).length≤50*x.nodes)→(cA (l.map bO)).length≤50*aK l+2*l.length
 | [],_=>by simp[cA]
 | [x],h=>by have:=h x List.mem_cons_self;simp[cA,aK];omega
 |x::y::r,h=>by
  have h1:=h x List.mem_cons_self;have h2:=mz (y::r) fun z hz=>h z (List.mem_cons_of_mem _ hz);rw[aK,List.map_cons,List.map_cons,ph,←List.map_cons];simp only[List.length_append,List.length_cons,List.length_nil] at h2⊢;omega
theorem fM (N:Nat):∀e:Ex,e.nodes≤N→bE e=true→(bO e).length≤50*e.nodes∧∀d∈bO e,d<256:=by
 induction N with
 |zero=>intro e hN;have:=e.cR;omega
 |succ N ih=>
  intro e hN hb;obtain⟨hh,ha⟩:=mS hb;obtain⟨h1,h2,h3,h4,h5,h6⟩:=oM hh;obtain⟨o1,o2,o3,o4,o5,o6⟩:=qn h1;obtain⟨b1,b2,b3,b4⟩:=mx e.op;have harg:∀x∈e.args,(bO x).length≤50*x.nodes∧∀d∈bO x,d<256:=fun x hx=>ih x (by have:=Ex.gL hx;omega) (ha x hx)
  have hpar:∀x∈e.args,∀least,(jC least (cO x)).length≤50*x.nodes+2∧∀d∈jC least (cO x),d<256:=fun x hx least=>by
   have h:=lT least (cO x);have h2:=harg x hx;exact⟨by have:=h.1;have e:(cO x).2=bO x:=rfl;rw[e] at this;omega,h.2 h2.2⟩
  have hn:e.nodes=1+aK e.args:=by cases e;exact Ex.dQ _ _ _ _
  rw[qQ];unfold ud;have k1:∀x∈([40]:List Nat),x<256:=by decide
  have k2:∀x∈([32]:List Nat),x<256:=by decide
  have k3:∀x∈([41]:List Nat),x<256:=by decide
  split
  ·exact⟨by have:=uw e.n;omega,yo _⟩
  ·split
   ·exact⟨by rw[ui];omega,yw _⟩
   ·split
    ·rename_i h
     exact⟨by have:=nu (h6 h);omega,pR (h6 h)⟩
    ·split
     ·exact⟨by simp;omega,by decide⟩
     ·have hlen:1≤e.args.length∧e.args.length≤3:=by omega
      obtain⟨x,r,hx⟩:∃x r,e.args=x::r:=by
       cases hx:e.args with
       |nil=>rw[hx] at hlen;simp at hlen
       |cons x r=>exact⟨x,r,rfl⟩
      have px:=hpar x (by rw[hx];exact List.mem_cons_self);rw[hx] at hn;rw[aK] at hn;split
      ·rw[hx]
       obtain⟨p1,p2⟩:=px 6;refine⟨by rw[List.length_append];show _+(jC 6 (cO x)).length≤_;omega,fun d hd=> ?_⟩;rcases List.mem_append.1 hd with hd|hd
       ·exact b2 d hd
       ·exact p2 d hd
      ·rename_i hp6
       have hbin:(bu e.op).2<6→∃y r',r=y::r':=fun hlt=>by
        have hop:e.op≤18:=by
         rcases Int.lt_or_le 18 e.op with h|h
         ·exfalso
          have:e.op=19∨e.op=20∨e.op=21:=by omega
          rcases this with h|h|h<;>rw[h] at hlt<;>revert hlt<;>decide
         ·exact h
        have:=o4 (by omega) hop;rw[hx] at this
        cases r with
        |nil=>simp at this
        |cons y r'=>exact⟨y,r',rfl⟩
       split
       ·rename_i hp3
        obtain⟨y,r',rfl⟩:=hbin (by omega);have py:=hpar y (by rw[hx];exact List.mem_cons_of_mem _ List.mem_cons_self);rw[aK] at hn;rw[hx];obtain⟨p1,p2⟩:=px 4;obtain⟨q1,q2⟩:=py 4;refine⟨?_,DT (DT p2 k2 b2) k2 q2⟩;simp only[List.length_append,List.length_cons,List.length_nil];show(jC 4 (cO x)).length+_+_+_+(jC 4 (cO y)).length≤_;omega
       ·split
        ·rename_i hp5
         obtain⟨y,r',rfl⟩:=hbin hp5;have py:=hpar y (by rw[hx];exact List.mem_cons_of_mem _ List.mem_cons_self);rw[aK] at hn;rw[hx];obtain⟨p1,p2⟩:=px (bu e.op).2;obtain⟨q1,q2⟩:=py ((bu e.op).2+1);refine⟨?_,DT (DT p2 k2 b2) k2 q2⟩;simp only[List.length_append,List.length_cons,List.length_nil];show(jC (bu e.op).2 (cO x)).length+_+_+_+(jC ((bu e.op).2+1) (cO y)).length≤_;omega
        ·have hj:=mz e.args fun z hz=>(harg z hz).1
         rw[jG];refine⟨?_,DT ?_ (yi fun t ht=> ?_) k3⟩
         ·rw[hx,aK] at hj
          rw[hx] at hlen⊢;simp only[List.length_append,List.length_cons,List.length_nil] at hj hlen⊢;split
          ·simp only[List.length_cons,List.length_nil];omega
          ·split<;>simp only[List.length_cons,List.length_nil]<;>omega
         ·split
          ·decide
          ·split<;>decide
         ·simp only[List.mem_map] at ht
          obtain⟨z,hz,rfl⟩:=ht;exact(harg z hz).2
theorem uW (op:Int)(w:World)(ho:bm op):Calls Tryz.prog 109 #[.int .i64 op] w fun e w'=>e= .returned (.tuple #[.string (strOf (bu op).1), .int .i64 (bu op).2])∧Grow w w':=by
 have ab:=Below.refl w.heap.size w;refine Zs 24 Tryz.func109 ?_;refine aj ?_;refine Za ?_;refine Za ?_;refine bn 0 2 3 (aB ?_);refine Seq.slice (vs:=[_,_,_,_,_,_,_,_,_,_,_,_,_,_,_,_]) (s:=1) rfl rfl rfl Tryz.underlying66 (by kernel_rfl) (bh) (by omega) (by omega) ⟨rfl,rfl,rfl,rfl,rfl,rfl,rfl,rfl,rfl,rfl,rfl,rfl,rfl,rfl,rfl,rfl,trivial⟩ rfl rfl rfl ?_;intro g6 w1 n6;have e6:=Nat.le_trans ab.size n6.ge;replace ab:=ab.step n6.below;have k6:=n6.an;refine Za ?_;refine aQ 0 2 3 4 (aB ?_);refine Seq.slice (vs:=[_,_,_,_,_,_,_,_,_,_,_,_,_,_,_,_]) (s:=1) rfl rfl rfl Tryz.underlying96 (by kernel_rfl) (hH) (by omega) (by omega) ⟨rfl,rfl,rfl,rfl,rfl,rfl,rfl,rfl,rfl,rfl,rfl,rfl,rfl,rfl,rfl,rfl,trivial⟩ rfl rfl rfl ?_;intro g7 w2 n7;have e7:=Nat.le_trans ab.size n7.ge;have l7:=Nat.lt_of_lt_of_le k6.lt n7.ge;replace ab:=ab.step n7.below;replace k6:=k6.step n7.below;have k7:=n7.an;refine Za ?_;refine aO 0 2 3 4 5 (aI (aj ?_));refine Zm ?_;refine eI ?_;refine Zm ?_;refine aw.start ?_;refine bw (fun hcx=>aa.move rfl rfl) ?_;refine Zn (fun hcx=>aa.gtr rfl rfl rfl) ?_;refine fg ?_;refine aY 0 2 3 4 5 13 (Zt ?_);have k6:aH w2 g6 9 (pt.map fun s=>Value.string (strOf s)).toArray:=k6;have k7:aH w2 g7 3 (pv.map fun z=>Value.int .i64 z).toArray:=k7;refine Cd.cond rfl (fun hc=> ?_) (fun hc=> ?_)
 ·have hb:bu op=([],7):=by
   unfold bu;rw[if_pos]
   simpa using hc
  refine aj ?_;refine Za ?_;refine Za ?_;refine aY 0 2 3 4 5 13 (Zt (Cd.ret (ae.af ?_)));refine dH ?_;rw[hb];exact⟨rfl,ab⟩
 ·have hn:¬(op<5∨20<op):=by simpa using hc
  have hb:bu op=(pt.getD (op-5).toNat [],pv.getD (op-5).toNat 7):=by unfold bu;rw[if_neg hn]
  obtain⟨j,hj⟩:∃j,(op-5).toNat=j:=⟨_,rfl⟩;rw[hj] at hb;have hj16:j<16:=by omega
  have hs:(pt.map fun s=>Value.string (strOf s)).toArray[j]? =some (.string (strOf (pt.getD j []))):=by
   rw[List.getElem?_toArray,List.getElem?_map,List.getD_eq_getElem?_getD,List.getElem?_eq_getElem (show j<pt.length from hj16)];rfl
  have hp:(pv.map fun z=>Value.int .i64 z).toArray[j]? =some (.int .i64 (pv.getD j 7)):=by
   rw[List.getElem?_toArray,List.getElem?_map,List.getD_eq_getElem?_getD,List.getElem?_eq_getElem (show j<pv.length from hj16)];rfl
  refine Cd.skip (aI ?_);refine Cd.eB (F':=[(0,_),(4,_),(5,_),(13,_)]) ⟨rfl,rfl,rfl,rfl,trivial⟩ ?_;refine ff 12 ?_;intro w3 hw3 zw3;replace ab:=ab.step hw3;replace k6:=k6.step hw3;replace k7:=k7.step hw3;have zbel:=ab.size;have zlt:=k7.lt;refine cf ?_;refine cf ?_;refine Zd (fun w hG=>aa.Ai rfl rfl rfl (by omega) (by omega)) ?_;refine Zd (fun w hG=>aa.dS rfl rfl rfl Tryz.underlying66 (by kernel_rfl) (j:=j) (by omega) (by omega)) ?_;refine Zd (fun w hG=>aa.au rfl rfl Tryz.underlying9 rfl (k6.step hG) hs) ?_;refine cf ?_;refine cf ?_;refine Zd (fun w hG=>aa.Ai rfl rfl rfl (by omega) (by omega)) ?_;refine Zd (fun w hG=>aa.dS rfl rfl rfl Tryz.underlying96 (by kernel_rfl) (j:=j) (by omega) (by omega)) ?_;refine Zd (fun w hG=>aa.au rfl rfl Tryz.underlying3 rfl (k7.step hG) hp) ?_;refine Zd (fun w hG=>aa.assign rfl rfl) ?_;refine Zd (fun w hG=>aa.assign rfl rfl) ?_;refine Dr.nil ?_;refine bb.done (F':=[(0,_),(2,_),(3,_),(4,_),(5,_),(13,_)]) rfl ⟨rfl,rfl,rfl,rfl,rfl,rfl,trivial⟩ ?_;intro w4 hw4 fw4;replace ab:=ab.step hw4;replace k6:=k6.step hw4;replace k7:=k7.step hw4;refine aY 0 2 3 4 5 13 (Zt (Cd.ret ?_));refine dH ?_;rw[hb];exact⟨rfl,ab⟩
theorem j4 (l:List (List Nat))(k:Nat):(cA (l.take k)).length≤(cA l).length:=by
 cases l with
 |nil=>simp[cA]
 |cons s r=>
  cases k with
  |zero=>exact Nat.zero_le _
  |succ k=>
   rw[List.take_succ_cons]
   conv=>rhs;rw[←List.take_append_drop k r]
   simp only[cA];rw[List.flatMap_append];simp only[List.length_append];omega
theorem uB (n c:Nat)(A:Option Addr)(l:List (List Nat))(w:World)(hr:Reads w w.heap.size 1 A n (l.map fun s=> .string (strOf s)))(hn:n≤1000000)(hb:(cA l).length≤1000000):Calls Tryz.prog 113 #[.slice A n c] w fun e w'=>e= .returned (.string (strOf (cA l)))∧Grow w w':=by
 have ab:=Below.refl w.heap.size w;have hl:l.length=n:=by have:=hr.1;simpa using this
 refine Zs 22 Tryz.func113 ?_;refine aj ?_;refine Za ?_;refine dF 0 2 (aB ?_);refine Za ?_;refine bn 0 2 3 (aI (aj ?_));refine Za ?_;refine aQ 0 2 3 4 (Zt (Cd.block ?_));refine Cd.loop (σ:=Nat) (fun k=>[(0, .slice A n c),(3, .string (strOf (cA (l.take k)))),(4, .int .i64 (k:Int))]) (fun k wr=>k≤n∧Below w.heap.size w wr) (fun k=>n-k) 0 ⟨Nat.zero_le _,ab⟩ ⟨rfl,rfl,rfl,trivial⟩ ?_;clear ab;rintro k wr ⟨hk,ab⟩;have hbk:=j4 l k;have hbk1:=j4 l (k+1);refine Cd.seq (aj ?_);refine Zm ?_;refine Zm ?_;refine Zv (aa.len rfl rfl Tryz.underlying66) ?_;refine eI ?_;refine aQ 0 3 4 8 (Zt ?_);refine Cd.ak rfl (fun hc=> ?_) (fun hc=> ?_)
 ·obtain⟨x,hx⟩:∃x,l[k]? =some x:=⟨_,List.getElem?_eq_getElem (by omega)⟩
  have htk:l.take (k+1)=l.take k++[x]:=by rw[List.take_add_one,hx];rfl
  obtain⟨ad,rfl,hbl,hcl⟩:=hr.2 (by omega);have hcl:=(ab.cell (p:=ad.add k) (by rw[av];exact hbl)).trans (hcl k (.string (strOf x)) (by rw[List.getElem?_map,hx];rfl));rw[htk,kC] at hbk1;refine Cd.skip (aI (Cd.block (Cd.seq (aj ?_))));refine Zm ?_;refine uV ?_;refine aO 0 3 4 8 12 (Zt ?_);refine Cd.ak rfl (fun hc=> ?_) (fun hc=> ?_)
  ·have hne:l.take k≠ []:=fun h0=>by have:=congrArg List.length h0;rw[List.length_take,List.length_nil] at this;omega
   rw[if_neg hne] at hbk1;simp only[List.length_append,List.length_cons,List.length_nil] at hbk1;refine Zr ?_;refine Zm ?_;refine Zv (aa.eD (b:=[44,32]) rfl rfl rfl (by simp only[List.length_cons,List.length_nil];omega)) ?_;refine Za ?_;refine aO 0 3 4 8 12 (eh ?_);refine Zm ?_;refine Zm ?_;refine Zm ?_;refine Zv (aa.jy rfl rfl rfl Tryz.underlying66 (by kernel_rfl) (j:=k) rfl (by omega)) ?_;refine Zv (aa.jh rfl rfl Tryz.underlying9 rfl hcl) ?_;refine Zv ((aa.eD rfl rfl rfl (by simp only[List.length_append,List.length_cons,List.length_nil];omega)).cast (v':= .string (strOf (cA (l.take (k+1))))) (by rw[htk,kC,if_neg hne])) ?_;refine Za ?_;refine aO 0 3 4 8 12 (ae.ah (eh ?_));refine Zm ?_;refine cG ?_;refine Za ?_;refine aO 0 3 4 8 12 ?_;exact ae.round (k+1) ⟨rfl,rfl,rfl,trivial⟩ ⟨by omega,ab⟩ (by omega)
  ·obtain rfl:k=0:=by omega
   simp only[List.take_zero,if_true] at hbk1;refine Cd.skip (eh ?_);refine Zm ?_;refine Zm ?_;refine Zm ?_;refine Zv (aa.jy rfl rfl rfl Tryz.underlying66 (by kernel_rfl) (j:=0) rfl (by omega)) ?_;refine Zv (aa.jh rfl rfl Tryz.underlying9 rfl hcl) ?_;refine Zv ((aa.eD (a:=[]) (b:=x) rfl rfl rfl (by simp only[List.length_nil];omega)).cast (v':= .string (strOf (cA (l.take (0+1))))) (by rw[htk];simp[cA])) ?_;refine Za ?_;refine aO 0 3 4 8 12 (ae.ah (eh ?_));refine Zm ?_;refine cG ?_;refine Za ?_;refine aO 0 3 4 8 12 ?_;exact ae.round 1 ⟨rfl,rfl,rfl,trivial⟩ ⟨by omega,ab⟩ (by omega)
 ·obtain rfl:k=n:=by omega
  refine Cd.exit (ae.aC (ae.aA (ae.ay (aB ?_))));refine Zm ?_;refine Za ?_;refine aO 0 2 3 4 8 (Zt (Cd.ret ?_));refine aZ ?_;rw[List.take_of_length_le (by omega)];exact⟨rfl,ab⟩
end Go.Proofs.YtigoimhndlnhfaaGreat