/-
  Texts that were joined: LexG, LexH, TreE, TreF, TreG, TreH, TreI, DateA, DateB, CivA, DateC, BigA, BigB, BigC, BigD, BigE, BigF, BigG, BigH, BigI, TBigK, TNumR, TNumS, DateD, CivB, TNumH, TreJ. Conditions: what each theorem names.
-/
import Derived.Test.YtigoimhndlnhfaaGreatE1
set_option linter.unusedSectionVars false
namespace Go.Proofs.YtigoimhndlnhfaaGreat
open Go.RowKit
structure Wd where
 kind:Int
 text:List Nat
 n:Int
 pos:Nat
def fI:Nat→List Nat→Nat→List Wd × Option Nat
 |0,_,_=>([],none)
 |f+1,l,p=>if l.length≤p then([],none) else match gq (l.drop p) with
  |none=>([],some p)
  |some (k,t,n)=>(⟨k,t,n,p⟩::(fI f l (p+t.length+bW (l.drop (p+t.length)))).1,(fI f l (p+t.length+bW (l.drop (p+t.length)))).2)
def aR (l:List Nat):List Wd × Option Nat:=fI (l.length+1) l (bW l)
def da (ws:List Wd):List Value:=ws.flatMap fun x=>[.int .i64 x.kind, .string (strOf x.text), .int .i64 x.n, .int .i64 (x.pos:Int)]
theorem fO (ws:List Wd)(x:Wd):da (ws++[x])=da ws++[.int .i64 x.kind, .string (strOf x.text), .int .i64 x.n, .int .i64 (x.pos:Int)]:=by simp[da]
theorem kx (f:Nat)(l:List Nat)(p:Nat)(h:l.length≤p):fI f l p=([],none):=by
 cases f with
 |zero=>rfl
 |succ f=>unfold fI;rw[if_pos h]
theorem fT (f:Nat)(l:List Nat)(p:Nat)(h:p<l.length):fI (f+1) l p=match gq (l.drop p) with
  |none=>([],some p)
  |some (k,t,n)=>(⟨k,t,n,p⟩::(fI f l (p+t.length+bW (l.drop (p+t.length)))).1,(fI f l (p+t.length+bW (l.drop (p+t.length)))).2):=by
 rw[fI,if_neg (by omega)]
theorem sG {l:List Nat}{c:Nat}{r:List Nat}(h:l=c::r)(hp:aO c=true):0<runN aO l:=by rw[h,ec,if_pos hp];omega
theorem hZ {l:List Nat}{k:Int}{t:List Nat}{n:Int}(h:gq l=some (k,t,n)):0<t.length∧t=l.take t.length∧t.length≤l.length:=by
 cases l with
 |nil=>cases h
 |cons c r=>
  have hrl:=gp aO (c::r)
  have htk:∀j,j≤(c::r).length→0<j→0<((c::r).take j).length∧(c::r).take j=(c::r).take ((c::r).take j).length∧((c::r).take j).length≤(c::r).length:=by
   intro j hj h0;have:((c::r).take j).length=j:=by rw[List.length_take];omega
   rw[this];exact⟨h0,rfl,hj⟩
  unfold gq at h;simp only at h
  generalize hl:c::r=l at *
  split at h
  ·rename_i hd
   have hp:aO c=true:=by unfold aO;rw[hd];simp
   have h0:=sG hl.symm hp;split at h
   ·rename_i hday
    injection h with h
    injection h with h1 h
    injection h with h2 h
    subst h2;refine htk 10 ?_ (by omega);unfold gJ at hday;simp at hday;exact hday.1.1
   ·cases ha:qB (l.take (runN aO l)) with
    |none=>rw[ha] at h;cases h
    |some v=>
     rw[ha] at h;injection h with h
     injection h with h1 h
     injection h with h2 h
     subst h2;exact htk _ hrl h0
  ·split at h
   ·rename_i hd
    have hp:aO c=true:=by unfold aO;rw[hd];simp
    have h0:=sG hl.symm hp;split at h
    ·injection h with h
     injection h with h1 h
     injection h with h2 h
     subst h2;exact htk _ hrl h0
    ·cases h
   ·cases hs:dH l with
    |none=>rw[hs] at h;cases h
    |some s=>
     rw[hs] at h;injection h with h
     injection h with h1 h
     injection h with h2 h
     subst h2;have hm:=List.mem_of_find?_eq_some hs;have hp:=List.find?_some hs;simp at hp
     have h0:0<s.length:=by
      have:∀s∈eF,0<s.length:=by decide
      exact this s hm
     refine⟨h0,hp.symm,?_⟩;have:=congrArg List.length hp;rw[List.length_take] at this;omega
structure jD (w:World)(B:Nat)(e:TypeId)(size:Nat)(v:Value)(n:Nat)(xs:List Value):Prop where
 own:Own w B e size v n xs
section
variable {w w':World} {B size n:Nat} {e:TypeId} {v:Value} {xs:List Value}
theorem jD.step (h:jD w B e size v n xs)(hb:Below w.heap.size w w'):jD w' B e size v n xs:=⟨h.own.step hb⟩
theorem jD.put {g B':Nat}{T:TypeId}{cur cs:Array Value}(h:jD w B e size v n xs)(_k:aK w g T cur)(p:lD w w' g T cs)(_e:B'≤g)(hne:v.ownBlock≠some g:=by assumption):jD w' B e size v n xs:=⟨⟨h.own.row.kept p.grown (.inr hne)⟩⟩
theorem jD.ne (h:jD w B e size v n xs){g:Nat}(hg:w.heap.size≤g):v.ownBlock≠some g:=by
 intro hv;obtain⟨hl,⟨h0,h1⟩|⟨g',cap,cur,h0,h1,h2,h3,h4,h5,h6⟩⟩:=h.own.row
 ·rw[h0] at hv;cases hv
 ·rw[h0] at hv
  injection hv with hv
  have hv:g'=g:=hv;have hlt:g'<w.heap.size:=aK.lt (cs:=cur) (t:=e) h2;omega
end
theorem xE (l:List Nat)(w:World)(hl:∀x∈l,x<256)(hlen:l.length≤9223372036854775807):
  Calls Tryz.prog 161 #[.string (strOf l)] w fun e w'=>Grow w w'∧((4000<l.length∧e= .returned (.tuple #[.slice none 0 0, .int .i64 0, .int .i64 4]))∨
   (l.length≤4000∧∃p:Nat,(aR l).2=some p∧e= .returned (.tuple #[.slice none 0 0, .int .i64 (p:Int), .int .i64 11]))∨
   (l.length≤4000∧(aR l).2=none∧∃v,e= .returned (.tuple #[v, .int .i64 0, .int .i64 0])∧Own w' w.heap.size 221 4 v (aR l).1.length (da (aR l).1))):=by
 have ae:=Below.refl w.heap.size w;refine Zs 46 Tryz.func161 ?_;refine ao ?_;refine Za ?_;refine Za ?_;refine Za ?_;refine aV 0 2 3 4 (aJ (ao ?_));refine Zm ?_;refine Zv (aa.dh rfl rfl Tryz.underlying9) ?_;refine Zv (aa.gtr rfl rfl rfl) ?_;refine aU 0 2 3 4 11 (Zt ?_);refine Cd.au rfl (fun h=> ?_) (fun h=> ?_)
 ·skip
  refine ao ?_;refine Za ?_;refine Za ?_;refine Za ?_;refine aU 0 2 3 4 11 (Zt (Cd.ret (ab.af ?_)));refine ab.lS rfl rfl rfl rfl (.inl rfl) ?_;exact⟨ae, .inl ⟨by omega,rfl⟩⟩
 have h4:l.length≤4000:=by omega
 clear h;have hb0:=jj l;refine Cd.skip (aG ?_);refine Za ?_;refine bj 0 2 3 4 5 11 (aJ (ao ?_));refine Zm ?_;refine Zc (Ze Tryz.func205) (rl l _ hl hlen) ?_;rintro e w4 ⟨rfl,hb4⟩;refine⟨_,rfl,?_⟩;replace ae:=ae.step hb4;have own:jD w4 w.heap.size 221 4 (.slice none 0 0) 0 []:=⟨Own.nil _ _ _ _⟩;refine Za ?_;refine bb 0 2 3 4 5 6 11 (Zt (Cd.block ?_))
 refine Cd.loop (σ:=Nat × Value × List Wd) (fun s=>[(0, .string (strOf l)),(5,s.2.1),(6, .int .i64 (s.1:Int))])
  (fun s wr=>s.1≤l.length∧s.2.2.length≤s.1∧(∃f,l.length+1≤f+s.1∧aR l=(s.2.2++(fI f l s.1).1,(fI f l s.1).2))∧Below w.heap.size w wr∧jD wr w.heap.size 221 4 s.2.1 s.2.2.length (da s.2.2)) (fun s=>l.length-s.1) (bW l, .slice none 0 0,[])
  ⟨hb0,by simp,⟨l.length+1,by dsimp only;omega,rfl⟩,ae,own⟩ ⟨rfl,rfl,rfl,trivial⟩ ?_
 clear ae;clear own;rintro⟨p,v,ws⟩ wr ⟨hp,hwp,⟨f,hf,hall⟩,ae,own⟩;dsimp only at hp hwp hf hall own⊢;refine Cd.seq (ao ?_);refine Zm ?_;refine Zm ?_;refine Zv (aa.dh rfl rfl Tryz.underlying9) ?_;refine Zv (aa.lss rfl rfl rfl) ?_;refine aV 0 5 6 17 (Zt ?_);refine Cd.au rfl (fun hc=> ?_) (fun hc=> ?_)
 ·obtain⟨f',rfl⟩:∃f',f=f'+1:=⟨f-1,by omega⟩
  have hdl:=jP hl p;have hdn:(l.drop p).length≤9223372036854775807:=by rw[List.length_drop];omega
  have hstep:=fT f' l p (by omega);refine Cd.skip (aJ (Cd.block (ao ?_)));refine Zm ?_;refine Zm ?_;refine Zv (aa.sliceFrom (j:=p) rfl rfl rfl Tryz.underlying9 rfl hp) ?_;refine Zc (Ze Tryz.func206) (A6 (l.drop p) _ hdl hdn (by intro h0;have:=congrArg List.length h0;rw[List.length_drop] at this;simp at this;omega)) ?_;rintro e w6 ⟨a,b,c,ok,rfl,hnx,hb6⟩;refine⟨_,rfl,?_⟩;replace ae:=ae.step hb6;replace own:=own.step hb6;have hneg:∀g,w6.heap.size≤g→v.ownBlock≠some g:=fun g hg=>own.ne hg;have hstep1:ok=false→fI (f'+1) l p=([],some p):=fun h=>by rw[hstep,hnx,h];rfl
  have hstep2:ok=true→fI (f'+1) l p=(⟨a,b,c,p⟩::(fI f' l (p+b.length+bW (l.drop (p+b.length)))).1,(fI f' l (p+b.length+bW (l.drop (p+b.length)))).2):=fun h=>by rw[hstep,hnx,h];rfl
  have hspec:ok=true→0<b.length∧b=(l.drop p).take b.length∧b.length≤(l.drop p).length:=fun h=>hZ (by rw[hnx,h];rfl);clear hstep hnx;refine Zm ?_;refine Zv (aa.extract rfl rfl rfl) ?_;refine Zv (aa.extract rfl rfl rfl) ?_;refine Zl bJ ?_;intro g7 w1 n7;have e7:=Nat.le_trans ae.size n7.ge;replace ae:=ae.step n7.below;replace own:=own.step n7.below;have k7:=n7.av;have hne7:v.ownBlock≠some g7:=hneg g7 n7.ge;refine Zo 4 k7 ?_;intro w2 pw2;replace ae:=ae.put k7 pw2 e7;replace own:=own.put k7 pw2 e7;replace k7:=pw2.av;refine Za ?_;refine bj 0 5 6 7 8 17 (aJ (ao ?_));refine Zm ?_;refine Zv (aa.not rfl rfl) ?_;refine bb 0 5 6 7 8 17 32 (Zt ?_);refine Cd.cond rfl (fun h=> ?_) (fun h=> ?_)
  ·have hok:ok=false:=by cases ok<;>simp at h⊢
   rw[hstep1 hok] at hall;refine ao ?_;refine Zm ?_;refine Za ?_;refine Za ?_;refine Za ?_;refine dg 0 2 3 4 5 6 7 8 17 32 (Zt (Cd.ret (ab.af (ab.ak (ab.af (ab.bF (ab.ak (ab.af ?_))))))));refine ab.lS rfl rfl rfl rfl (.inl rfl) ?_;exact⟨ae, .inr (.inl ⟨h4,p,by rw[hall],rfl⟩)⟩
  ·have hok:ok=true:=by cases ok<;>simp at h⊢
   obtain⟨s1,s2,s3⟩:=hspec hok;rw[List.length_drop] at s3;rw[hstep2 hok] at hall;clear hstep1 hstep2 hspec;have hbl:=jj (l.drop (p+b.length));rw[List.length_drop] at hbl;refine Cd.skip (aG ?_);refine Zm ?_;refine Zf 3 Tryz.underlying221 ?_;refine Zq k7 ?_;intro w3 pw3;replace ae:=ae.put k7 pw3 e7;replace own:=own.put k7 pw3 e7;replace k7:=pw3.av;refine bb 0 5 6 7 8 17 32 (aG ?_);refine Zm ?_;refine Zv (aa.aQ rfl rfl Tryz.underlying221 rfl k7 (m:=4) (by kernel_rfl) rfl) ?_;refine Seq.slice (vs:=[_]) (s:=4) rfl rfl rfl Tryz.underlying215 (by kernel_rfl) (bJ) (by omega) (by omega) ⟨rfl,trivial⟩ rfl rfl rfl ?_;intro g38 w4 n38;have e38:=Nat.le_trans ae.size n38.ge;have l38:=Nat.lt_of_lt_of_le k7.lt n38.ge;replace ae:=ae.step n38.below;replace own:=own.step n38.below;replace k7:=k7.step n38.below;have k38:=n38.av;replace own:=own.own;refine Seq.append rfl rfl rfl Tryz.underlying215 (by kernel_rfl) bJ rfl (by decide) (b:=40) (by kernel_rfl) own (Reads.av (size:=4) k38 1 rfl) (by intro x hx;simp[aP,Value.cells] at hx;rcases hx with rfl|rfl|rfl|rfl<;>rfl) ae.size (by simp only[maxLen];omega) (by omega) rfl rfl rfl ?_;clear own;intro vw5 w5 own haw5;replace ae:=ae.trans haw5.below;replace k7:=k7.grown haw5.grown (fun e=>hne7 e.symm);replace own:jD w5 w.heap.size 221 4 vw5 (ws++[(⟨a,b,c,p⟩:Wd)]).length (da (ws++[⟨a,b,c,p⟩])):=⟨by rw[List.length_append,fO];exact own⟩;refine Za ?_;refine bb 0 5 6 7 8 17 32 (ei ?_);refine Zm ?_;refine Zf 1 Tryz.underlying221 ?_;refine Zv (aa.ag rfl rfl Tryz.underlying9 rfl k7 rfl) ?_;refine Zv (aa.dh rfl rfl Tryz.underlying9) ?_;refine cH ?_;refine Za ?_;refine bb 0 5 6 7 8 17 32 (ab.aj (ei ?_));refine Zm ?_;refine Zm ?_;refine Zm ?_;refine Zv (aa.sliceFrom (j:=p+b.length) rfl rfl rfl Tryz.underlying9 rfl (by omega)) ?_;refine Zc (Ze Tryz.func205) (rl (l.drop (p+b.length)) _ (jP hl _) (by rw[List.length_drop];omega)) ?_;rintro e w8 ⟨rfl,hb8⟩;refine⟨_,rfl,?_⟩;replace ae:=ae.step hb8;replace own:=own.step hb8;replace k7:=k7.step hb8
   generalize hq:p+b.length+bW (l.drop (p+b.length))=q at *
   refine cH ?_;refine Za ?_;refine bb 0 5 6 7 8 17 32 ?_;refine ab.round (q,vw5,ws++[⟨a,b,c,p⟩]) ⟨rfl,rfl,congrArg (fun x:Int=>some (Value.int .i64 x)) (show((p:Int)+(b.length:Int)+(bW (l.drop (p+b.length)):Int))=((q:Nat):Int) by omega),trivial⟩ ⟨by dsimp only;omega,by dsimp only;rw[List.length_append];simp;omega,⟨f',by dsimp only;omega,?_⟩,ae,own⟩ (by dsimp only;omega);dsimp only;rw[hall,List.append_assoc];rfl
 ·have hpe:p=l.length:=by omega
  rw[kx f l p (by omega)] at hall;dsimp only at hall;rw[List.append_nil] at hall;refine Cd.exit (ab.aD (ab.aA (ab.az (aG ?_))));refine Zm ?_;refine Za ?_;refine Za ?_;refine Za ?_;refine bb 0 2 3 4 5 6 17 (Zt (Cd.ret ?_));refine ab.lS rfl rfl rfl rfl (.inl rfl) ?_;exact⟨ae, .inr (.inr ⟨h4,by rw[hall],v,rfl,by rw[hall];exact own.own⟩)⟩
theorem iQ (c:Nat)(w:World):Calls Tryz.prog 76 #[.int .u8 (c:Int)] w fun e w'=>e= .returned (.bool (j8 c))∧Grow w w':=by
 have ae:=Below.refl w.heap.size w;refine Zs 17 Tryz.func76 ?_;refine ao ?_;refine Za ?_;refine eh 0 2 (aG ?_);refine Zm ?_;refine Zv (aa.geq rfl rfl rfl) ?_;refine Zm ?_;refine ah.start ?_;refine bM (fun hcx=>aa.move rfl rfl) ?_;refine ah.next rfl rfl rfl rfl rfl rfl rfl (fun hcx=>aa.leq rfl rfl rfl) ?_;refine ah.and rfl rfl rfl rfl rfl rfl rfl ?_;refine Zm ?_;refine ah.start ?_;refine bM (fun hcx=>aa.move rfl rfl) ?_;refine ah.next rfl rfl rfl rfl rfl rfl rfl (fun hcx=>aa.geq rfl rfl rfl) ?_;refine ah.next rfl rfl rfl rfl rfl rfl rfl (fun hcx=>aa.move rfl rfl) ?_;refine bM (fun hcx=>aa.move rfl rfl) ?_;refine ah.next rfl rfl rfl rfl rfl rfl rfl (fun hcx=>aa.leq rfl rfl rfl) ?_;refine ah.mX rfl rfl rfl rfl rfl rfl rfl rfl rfl rfl rfl ?_;refine ah.or rfl rfl rfl rfl rfl rfl rfl ?_;refine Za ?_;refine eh 0 2 (Zt (Cd.ret ?_));refine ab.aE rfl rfl (.inl rfl) ?_;refine⟨bw (aL ?_),ae⟩;unfold j8;rw[Bool.eq_iff_iff];simp;omega
theorem kF (c:Nat)(w:World):Calls Tryz.prog 77 #[.int .u8 (c:Int)] w fun e w'=>e= .returned (.bool (aO c))∧Grow w w':=by
 have ae:=Below.refl w.heap.size w;refine Zs 17 Tryz.func77 ?_;refine ao ?_;refine Za ?_;refine eh 0 2 (aG ?_);refine Zm ?_;refine Zc (Ze Tryz.func76) (iQ c _) ?_;rintro e w2 ⟨rfl,hb2⟩;refine⟨_,rfl,?_⟩;replace ae:=ae.step hb2;refine Zm ?_;refine ah.start ?_;refine bM (fun hcx=>aa.move rfl rfl) ?_;refine ah.next rfl rfl rfl rfl rfl rfl rfl (fun hcx=>aa.geq rfl rfl rfl) ?_;refine ah.next rfl rfl rfl rfl rfl rfl rfl (fun hcx=>aa.move rfl rfl) ?_;refine bM (fun hcx=>aa.move rfl rfl) ?_;refine ah.next rfl rfl rfl rfl rfl rfl rfl (fun hcx=>aa.leq rfl rfl rfl) ?_;refine ah.mX rfl rfl rfl rfl rfl rfl rfl rfl rfl rfl rfl ?_;refine ah.or rfl rfl rfl rfl rfl rfl rfl ?_;refine Zm ?_;refine ah.start ?_;refine bM (fun hcx=>aa.move rfl rfl) ?_;refine ah.next rfl rfl rfl rfl rfl rfl rfl (fun hcx=>aa.aB rfl rfl rfl) ?_;refine ah.or rfl rfl rfl rfl rfl rfl rfl ?_;refine Za ?_;refine eh 0 2 (Zt (Cd.ret ?_));refine ab.aE rfl rfl (.inl rfl) ?_;refine⟨bw (aL ?_),ae⟩;unfold aO eZ
 cases j8 c<;>rw[Bool.eq_iff_iff]<;>simp<;>omega
theorem gK (l:List Nat)(w:World)(hl:∀x∈l,x<256)(hlen:l.length≤9223372036854775807):
  Calls Tryz.prog 28 #[.string (strOf l)] w fun e w'=>e= .returned (.bool (db l))∧Grow w w':=by
 have ae:=Below.refl w.heap.size w
 have h0:l≠ []→l[0]? =some (l.getD 0 0):=by
  intro h
  cases l with
  |nil=>exact absurd rfl h
  |cons c l=>rfl
 have h1:l.getD 0 0<256:=by
  cases l with
  |nil=>simp
  |cons c l=>exact hl c (by simp)
 have hnil:l≠ []↔0<l.length:=by cases l<;>simp
 unfold db
 generalize l.getD 0 0=c0 at *
 refine Zs 29 Tryz.func28 ?_;refine ao ?_;refine Za ?_;refine eh 0 2 (aJ (ao ?_));refine Zm ?_;refine Zv (aa.dh rfl rfl Tryz.underlying9) ?_;refine Zv (aa.lss rfl rfl rfl) ?_;refine Zm ?_;refine ah.start ?_;refine bM (fun hcx=>aa.move rfl rfl) ?_;refine ah.next rfl rfl rfl rfl rfl rfl rfl (fun hcx=>aa.dh rfl rfl Tryz.underlying9) ?_;refine ah.next rfl rfl rfl rfl rfl rfl rfl (fun hcx=>aa.gtr rfl rfl rfl) ?_;refine ah.or rfl rfl rfl rfl rfl rfl rfl ?_;refine Zm ?_;refine ah.start ?_;refine bM (fun hcx=>aa.move rfl rfl) ?_;refine ah.next rfl rfl rfl rfl rfl rfl rfl (fun hcx=>aa.cQ (l:=l) (j:=0) (c:=c0) rfl rfl rfl Tryz.underlying9 rfl (h0 (hnil.2 (by simp[cG] at hcx;omega))) h1) ?_;refine ah.bY rfl rfl rfl rfl rfl rfl rfl (fun hcx=>Ze Tryz.func76) (fun hcx=>iQ _ _) ?_;intro w1 hw1;replace ae:=ae.step hw1;refine ah.next rfl rfl rfl rfl rfl rfl rfl (fun hcx=>aa.not rfl rfl) ?_;refine ah.or rfl rfl rfl rfl rfl rfl rfl ?_;refine bD 0 2 17 (Zt ?_);refine Cd.cond rfl (fun h=> ?_) (fun h=> ?_)
 ·have hf:(decide (l≠ [])&&decide (l.length≤16)&&j8 c0&&decide (runN aO l=l.length))=false:=by
   rw[Bool.eq_false_iff];intro h2;simp only[Bool.and_eq_true,decide_eq_true_eq] at h2;have h3:=hnil.1 h2.1.1.1;rw[h2.1.2] at h;simp at h;omega
  rw[hf];refine ao ?_;refine Za ?_;refine bD 0 2 17 (Zt (Cd.ret (ab.af ?_)));refine ab.aE rfl rfl (.inl rfl) ?_;exact⟨rfl,ae⟩
 have hok:l≠ []∧l.length≤16∧j8 c0=true:=by
  cases hle:j8 c0 with
  |false=>rw[hle] at h;simp at h
  |true=>rw[hle] at h;simp at h;exact⟨hnil.2 (by omega),by omega,rfl⟩
 have hrl:=gp aO l;rw[decide_eq_true hok.1,decide_eq_true hok.2.1,hok.2.2];refine Cd.skip (aJ (ao ?_));refine Za ?_;refine aV 0 2 3 17 (Zt (Cd.block ?_));refine Cd.loop (σ:=Nat) (fun k=>[(0, .string (strOf l)),(3, .int .i64 (k:Int))]) (fun k wr=>k≤runN aO l∧Below w.heap.size w wr) (fun k=>l.length-k) 0 ⟨Nat.zero_le _,ae⟩ ⟨rfl,rfl,trivial⟩ ?_;clear ae;rintro k wr ⟨hk,ae⟩;refine Cd.seq (ao ?_);refine Zm ?_;refine Zm ?_;refine Zv (aa.dh rfl rfl Tryz.underlying9) ?_;refine Zv (aa.lss rfl rfl rfl) ?_;refine bD 0 3 21 (Zt ?_);refine Cd.au rfl (fun hc=> ?_) (fun hc=> ?_)
 ·obtain⟨c,hcc⟩:∃c,l[k]? =some c:=⟨_,List.getElem?_eq_getElem (show k<l.length by omega)⟩
  have hc256:=hl c (List.mem_of_getElem? hcc);have hup:=kV aO l k hk c hcc;refine Cd.skip (aJ (Cd.block (ao ?_)));refine Zm ?_;refine Zm ?_;refine Zv (aa.cQ (l:=l) (j:=k) rfl rfl rfl Tryz.underlying9 rfl hcc hc256) ?_;refine Zc (Ze Tryz.func77) (kF c _) ?_;rintro e w5 ⟨rfl,hb5⟩;refine⟨_,rfl,?_⟩;replace ae:=ae.step hb5;refine Zv (aa.not rfl rfl) ?_;refine aV 0 3 21 28 (Zt ?_);refine Cd.cond rfl (fun h2=> ?_) (fun h2=> ?_)
  ·have hne:¬runN aO l=l.length:=by
    intro he;have:=hup.2 (by omega);rw[this] at h2
    cases h2
   rw[decide_eq_false hne];refine ao ?_;refine Za ?_;refine aU 0 2 3 21 28 (Zt (Cd.ret (ab.ak (ab.af (ab.bF (ab.ak (ab.af ?_)))))));refine ab.aE rfl rfl (.inl rfl) ?_;exact⟨rfl,ae⟩
  ·have hlt:=hup.1 (by simpa using h2)
   refine Cd.skip (ab.aj (ei ?_));refine Zm ?_;refine cH ?_;refine Za ?_;refine aV 0 3 21 28 ?_;exact ab.round (k+1) ⟨rfl,rfl,trivial⟩ ⟨by omega,ae⟩ (by omega)
 ·rw[decide_eq_true (show runN aO l=l.length by omega)]
  refine Cd.exit (ab.aD (ab.aA (ab.az (aG ?_))));refine Za ?_;refine aV 0 2 3 21 (Zt (Cd.ret ?_));refine ab.aE rfl rfl (.inl rfl) ?_;exact⟨rfl,ae⟩
section
variable {P:Program} {E:Operand→Option Value} {o:Oper} {w:World} {x y:Operand} {T:TypeId}
end
theorem sk:∀x∈eC,∀d∈x,d<256:=by decide
theorem jU (l:List Nat)(w:World)(hl:∀d∈l,d<256):Calls Tryz.prog 159 #[.string (strOf l)] w fun e w'=>e= .returned (.bool (cq l))∧Grow w w':=by
 have ae:=Below.refl w.heap.size w
 have hat:∀j x,eC[j]? =some x→(aP (eC.map fun x=>Value.string (strOf x))).toArray[j]? =some (Value.string (strOf x)):=fun j x h=>by
  have hj:=(List.getElem?_eq_some_iff.1 h).1;replace hj:j<13:=hj;rcases(show j=0∨j=1∨j=2∨j=3∨j=4∨j=5∨j=6∨j=7∨j=8∨j=9∨j=10∨j=11∨j=12 by omega) with rfl|rfl|rfl|rfl|rfl|rfl|rfl|rfl|rfl|rfl|rfl|rfl|rfl<;>(injection h with h;subst h;rfl)
 refine Zs 18 Tryz.func159 ?_;refine ao ?_;refine Za ?_;refine eh 0 2 (aG ?_);refine Seq.slice (vs:=[_,_,_,_,_,_,_,_,_,_,_,_,_]) (s:=1) rfl rfl rfl Tryz.underlying66 (by kernel_rfl) (bl) (by omega) (by omega) ⟨rfl,rfl,rfl,rfl,rfl,rfl,rfl,rfl,rfl,rfl,rfl,rfl,rfl,trivial⟩ rfl rfl rfl ?_;intro g5 w1 n5;have e5:=Nat.le_trans ae.size n5.ge;replace ae:=ae.step n5.below;have k5:=n5.av;refine Za ?_;refine bD 0 2 3 (aJ (ao ?_));refine Za ?_;refine aV 0 2 3 4 (Zt (Cd.block ?_))
 refine Cd.loop (σ:=Nat) (fun k=>[(0, .string (strOf l)),(3, .slice (some ⟨g5,0,none⟩) 13 13),(4, .int .i64 (k:Int))])
  (fun k wr=>k≤13∧(∀x∈eC.take k,l≠x)∧Below w.heap.size w wr∧aK wr g5 9 (aP (eC.map fun x=>Value.string (strOf x))).toArray) (fun k=>13-k) 0 ⟨by omega,by simp,ae,k5⟩ ⟨rfl,rfl,rfl,trivial⟩ ?_
 clear ae k5;rintro k wr ⟨hk,hno,ae,k5⟩;refine Cd.seq (ao ?_);refine Zm ?_;refine Zm ?_;refine Zv (aa.len rfl rfl Tryz.underlying66) ?_;refine Zv (aa.lss rfl rfl rfl) ?_;refine aV 0 3 4 9 (Zt ?_);refine Cd.au rfl (fun hc=> ?_) (fun hc=> ?_)
 ·obtain⟨x,hx⟩:∃x,eC[k]? =some x:=⟨_,List.getElem?_eq_getElem (show k<eC.length by show k<13;omega)⟩
  have htk:eC.take (k+1)=eC.take k++[x]:=by rw[List.take_add_one,hx];rfl
  have hxb:∀d∈x,d<256:=sk x (List.mem_of_getElem? hx);refine Cd.skip (aJ (Cd.block (ao ?_)));refine Zm ?_;refine Zm ?_;refine Zv (aa.dN rfl rfl rfl Tryz.underlying66 (by kernel_rfl) (j:=k) rfl (by omega)) ?_;refine Zv (aa.ag rfl rfl Tryz.underlying9 rfl k5 (hat k x hx)) ?_;refine Zm ?_;refine Zv (aa.cF (a:=x) (b:=l) rfl rfl rfl hxb hl) ?_;refine aU 0 3 4 9 17 (Zt ?_);refine Cd.au rfl (fun hq=> ?_) (fun hne=> ?_)
  ·skip
   refine ao ?_;refine Za ?_;refine bj 0 2 3 4 9 17 (Zt (Cd.ret (ab.ak (ab.af (ab.bF (ab.ak (ab.af ?_)))))));refine ab.aE rfl rfl (.inl rfl) ?_;refine⟨bw (aL ?_),ae⟩;unfold cq;exact(List.any_eq_true.2 ⟨x,List.mem_of_getElem? hx,decide_eq_true hq.symm⟩).symm
  ·skip
   refine Cd.skip (ab.aj (ei ?_));refine Zm ?_;refine cH ?_;refine Za ?_;refine aU 0 3 4 9 17 ?_;refine ab.round (k+1) ⟨rfl,rfl,rfl,trivial⟩ ⟨by omega,fun y hy=> ?_,ae,k5⟩ (by omega);rw[htk] at hy;rcases List.mem_append.1 hy with hy|hy
   ·exact hno y hy
   ·simp at hy
    subst hy;exact fun h=>hne h.symm
 ·obtain rfl:k=13:=by omega
  rw[List.take_of_length_le (show eC.length≤13 from Nat.le_refl _)] at hno;refine Cd.exit (ab.aD (ab.aA (ab.az (aG ?_))));refine Za ?_;refine aU 0 2 3 4 9 (Zt (Cd.ret ?_));refine ab.aE rfl rfl (.inl rfl) ?_;refine⟨bw (aL ?_),ae⟩;unfold cq
  symm
  rw[List.any_eq_false];exact fun x hx=>by simpa using hno x hx
theorem aa.oS {P:Program}{E:Operand→Option Value}{o:Oper}{w:World}{x:Operand}{T T':TypeId}{p:Int}{r:Nat}(ho:o.op= .convert T T' x)(hx:E x=some (.int .i64 p))(hS:P.underlying T=some (.int .i64))(hT:P.underlying T'=some (.int .u64))(hr:p%18446744073709551616=(r:Int)):aa P E o w (.int .u64 (r:Int)) w:=
 .fb ho hx hS hT (by rw[IntKind.wrap_u64,hr])
section
variable {w w':World} {T:List Nat} {es:List Ex} {vs:List Value}
end
theorem Own.aT {w:World}{B size n:Nat}{e:TypeId}{v:Value}{xs:List Value}(h:Own w B e size v n xs):∀b,v.ownBlock=some b→B≤b∧b<w.heap.size:=fun b hb=>by
 obtain⟨h1,h2⟩:=h.row;rcases h2 with ⟨rfl,-⟩|⟨g',cap,cur,rfl,e2,e3,e4⟩
 ·cases hb
 ·injection hb with hb
  subst hb;exact⟨e2,(show aK w g' e cur from e3).lt⟩
section
variable {P:Program} {ops:Array Oper} {Q:Exit→Act→World→Prop} {rest:List Oper} {o:Oper} {n d:Nat} {F:List (Nat × Value)} {w:World} {v:Value} {x y:Operand}
theorem Seq.fN {t e B B2 size b k m c:Nat}{A:Option Addr}{z:Value}{xs news:List Value}(ho:o.op= .call {callee:= .builtin .append,args:= #[x,y],argTypes:= #[t,t]}) (hx:gg F x=some v) (hy:gg F y=some (.slice A m c)) (ht:P.underlying t=some (.slice e)) (hs:dO P e size=true) (hz:cf P e=some (some z)) (hzs:z.cells.size=size) (hsz:0<size) (hby:(P.info? e).map (·.bytes)=some b)
  (hown:Own w B e size v k xs) (hr:Reads w B2 size A m news) (h1:∀u∈news,u.oneCell'=true) (hB:B≤w.heap.size) (h63:k+m≤maxLen) (hbytes:(k+m)*b≤140737488355328) (hg:o.guard=none) (hd:o.dst=some d) (hn:Nat.blt d n=true)
  (h:∀v' w',Own w' B e size v' (k+m) (xs++news)→App w w' B v→(v'.ownBlock=v.ownBlock∨v'.ownBlock=some w.heap.size)→Seq P ops Q rest n ((d,v')::F) w'):Seq P ops Q (o::rest) n F w:=by
 obtain⟨i,hi,hisz⟩:=bL hs;have hz':i.zero=some z:=by unfold cf at hz;rw[hi] at hz;injection hz
 have hb':i.bytes=b:=by rw[hi] at hby;injection hby
 obtain⟨v',w',hrun,h2,h3,h4⟩:=kI (P:=P) w B t o.type e i z size b ht hi hz' hisz hb' hzs hsz v k xs hown.row B2 A m c news hr h1 h63 hbytes hB;refine Seq.val (v:=v') (w':=w') (fun ρ hρ=> ?_) hg hd hn (h v' w' ⟨h2⟩ ⟨?_,h3⟩ h4)
 ·unfold execOp
  simp only[ho,resolve,invoke,builtin,Sem.run_bind,Sem.run_pure,Result.andThen_ok,List.map_toArray,List.map_cons,List.map_nil,hρ _ _ hx,hρ _ _ hy,hrun]
 ·refine⟨h3.os,h3.tape,h3.output,h3.size,fun j hj=>h3.block j (by omega) fun e'=> ?_⟩
  rcases hown.row.2 with ⟨rfl,_⟩|⟨g,cap,cur,rfl,hBg,_⟩
  ·cases e'
  ·injection e' with e'
   have:j=g:=e';omega
end
def DI (l:List Int):List Value:=l.map fun z=> .int .i64 z
theorem DG (l:List Int)(k:Nat):(DI l)[k]? =l[k]?.map (Value.int .i64):=by simp[DI]
theorem mu (a b:List Value):aP (a++b)=aP a++aP b:=by
 induction a with
 |nil=>rfl
 |cons v r ih=>show v.cells.toList++aP (r++b)=(v.cells.toList++aP r)++aP b;rw[ih,List.append_assoc]
theorem aK.app {k n B B' size:Nat}{w w':World}{t e:TypeId}{cs:Array Value}{v:Value}{xs:List Value}(h:aK w k t cs)(o:Own w B e size v n xs)(ha:App w w' B' v)(hne:e≠t:=by decide):aK w' k t cs:=h.grown ha.grown (fun e'=>fy o.row h hne e'.symm)
def Er (v u:Value):Prop:=∀b,v.ownBlock=some b→u.ownBlock≠some b
def pS (y:Int):Int:=if ic y then 366 else 365
theorem ko:fe 1970 1 1=0:=by decide
theorem r8:fe 10000 1 1=2932897:=by decide
theorem ly (y:Int):ic y=true↔y%4=0∧(y%100≠0∨y%400=0):=by unfold ic;simp
theorem oU (y:Int):fe y 1 1=(y-1)/400*146097+((y-1)%400*365+(y-1)%400/4-(y-1)%400/100+306)-719468:=by
 unfold fe rM ofM;rw[if_pos (by omega),if_pos (by omega)];omega
theorem oI (y:Int):fe (y+1) 1 1=fe y 1 1+pS y:=by
 rw[oU,oU];have hl:=ly y;unfold pS;rw[Int.add_sub_cancel]
 generalize hr:(y-1)%400=r
 generalize hq:(y-1)/400=q
 obtain rfl:y=400*q+r+1:=by omega
 have hr1:0≤r∧r<400:=by omega
 split
 ·rename_i h
  have:=hl.1 h
  by_cases h4:r=399
  ·subst h4;omega
  ·rw[show(400*q+r+1)/400=q by omega,show(400*q+r+1)%400=r+1 by omega];omega
 ·rename_i h
  have:¬((400*q+r+1)%4=0∧((400*q+r+1)%100≠0∨(400*q+r+1)%400=0)):=fun h2=>h (hl.2 h2)
  by_cases h4:r=399
  ·subst h4;omega
  ·rw[show(400*q+r+1)/400=q by omega,show(400*q+r+1)%400=r+1 by omega];omega
theorem rW (y m d:Int):fe y m d=fe y m 1+d-1:=by unfold fe;omega
theorem jn (y m:Int)(h1:1≤m)(h2:m≤11):fe y (m+1) 1=fe y m 1+bS y m:=by
 rcases(show m=1∨m=2∨m=3∨m=4∨m=5∨m=6∨m=7∨m=8∨m=9∨m=10∨m=11 by omega) with rfl|rfl|rfl|rfl|rfl|rfl|rfl|rfl|rfl|rfl|rfl
 case inr.inl=>
  have:=oI y;rw[oU,oU] at this;unfold pS at this;unfold fe rM ofM bS;split at this<;>rename_i h<;>simp[h] at this⊢ <;>omega
 all_goals
  unfold fe rM ofM bS;simp
  try omega
theorem uI (y:Int):fe (y+1) 1 1=fe y 12 1+31:=by
 rw[oU];unfold fe rM ofM;simp;omega
theorem nK (y m:Int):0≤bS y m:=by
 unfold bS;split
 ·split<;>omega
 ·split
  ·omega
  ·split<;>omega
theorem yn (y:Int):∀(k:Nat) (m:Int),1≤m→m+k≤12→fe y m 1≤fe y (m+k) 1:=by
 intro k
 induction k with
 |zero=>intro m _ _;simp
 |succ k ih=>
  intro m h1 h2;have h3:=ih m h1 (by omega);have h4:=jn y (m+k) (by omega) (by omega);have h5:=nK y (m+k);rw[show m+((k+1:Nat):Int)=m+k+1 by omega];omega
theorem gm {y m m':Int}(h1:1≤m)(h2:m≤m')(h3:m'≤12):fe y m 1≤fe y m' 1:=by
 have:=yn y (m'-m).toNat m h1 (by omega)
 rwa [show m+((m'-m).toNat:Int)=m' by omega] at this
theorem rO (y:Int):365≤pS y:=by unfold pS;split<;>omega
theorem zj:∀(k:Nat) (y:Int),fe y 1 1≤fe (y+k) 1 1:=by
 intro k
 induction k with
 |zero=>intro y;simp
 |succ k ih=>
  intro y;have h1:=ih y;have h2:=oI (y+k);have h3:=rO (y+k);rw[show y+((k+1:Nat):Int)=y+k+1 by omega];omega
theorem gn {y y':Int}(h:y≤y'):fe y 1 1≤fe y' 1 1:=by
 have:=zj (y'-y).toNat y
 rwa [show y+((y'-y).toNat:Int)=y' by omega] at this
theorem mH {y m d:Int}(h:fB y m d=true):1970≤y∧y≤9999∧1≤m∧m≤12∧1≤d∧d≤bS y m∧fe y 1 1≤fe y m d∧fe y m d<fe (y+1) 1 1∧0≤fe y m d∧fe y m d≤2932896:=by
 unfold fB at h;simp at h;obtain⟨⟨⟨h1,h2⟩,h3⟩,h4⟩:=h;obtain⟨h5,h6,-⟩:=kZ (y:=y) (m:=m) (by omega);have a1:=gm (y:=y) (m:=1) (m':=m) (by omega) h5 h6;have a2:=rW y m d
 have a3:fe y m 1+bS y m≤fe (y+1) 1 1:=by
  by_cases hm:m=12
  ·subst hm
   rw[uI];have:bS y 12=31:=by unfold bS;simp
   omega
  ·have b1:=jn y m h5 (by omega)
   have b2:=gm (y:=y) (m:=m+1) (m':=12) (by omega) (by omega) (by omega);have b3:=uI y;omega
 have a4:=gn (y:=1970) (y':=y) h1;have a5:=gn (y:=y+1) (y':=10000) (by omega);rw[ko] at a4;rw[r8] at a5;exact⟨h1,h2,h5,h6,h3,h4,by omega,by omega,by omega,by omega⟩
def eN (v:Nat):Nat→List Nat
 |0=>[]
 |n+1=>(48+v/10^n%10)::eN v n
theorem fo (v n:Nat):(eN v n).length=n:=by induction n with
 |zero=>rfl
 |succ n ih=>unfold eN;simp[ih]
theorem sy (v n:Nat):∀x∈eN v n,x<256:=by induction n with
 |zero=>intro x h;cases h
 |succ n ih=>
  intro x h;unfold eN at h;rcases List.mem_cons.1 h with rfl|h
  ·omega
  ·exact ih x h
def fC (y m d:Nat):List Nat:=eN y 4++[45]++eN m 2++[45]++eN d 2
def dS (l:List Nat):Int:=l.foldl (fun(v:Int) (c:Nat)=>10*v+(c:Int)-48) 0
theorem oK (a b:Nat):dZ [a,b]=if(48≤a∧a≤57)∧(48≤b∧b≤57) then 10*((a:Int)-48)+((b:Int)-48) else -1:=by
 unfold dZ;have e:([a,b].all eZ=true)↔((48≤a∧a≤57)∧(48≤b∧b≤57)):=by simp[eZ]
 by_cases h:(48≤a∧a≤57)∧(48≤b∧b≤57)
 ·rw[if_pos (e.2 h),if_pos h]
  simp[dx];omega
 ·rw[if_neg (fun x=>h (e.1 x)),if_neg h]
theorem xa (a b c d:Nat):dZ [a,b,c,d]=if(48≤a∧a≤57)∧(48≤b∧b≤57)∧(48≤c∧c≤57)∧(48≤d∧d≤57) then 1000*((a:Int)-48)+100*((b:Int)-48)+10*((c:Int)-48)+((d:Int)-48) else -1:=by
 unfold dZ;have e:([a,b,c,d].all eZ=true)↔((48≤a∧a≤57)∧(48≤b∧b≤57)∧(48≤c∧c≤57)∧(48≤d∧d≤57)):=by simp[eZ]
 by_cases h:(48≤a∧a≤57)∧(48≤b∧b≤57)∧(48≤c∧c≤57)∧(48≤d∧d≤57)
 ·rw[if_pos (e.2 h),if_pos h]
  simp[dx];omega
 ·rw[if_neg (fun x=>h (e.1 x)),if_neg h]
theorem Bb {l:List Nat}(h:l.length=10):∃c0 c1 c2 c3 c4 c5 c6 c7 c8 c9,l=[c0,c1,c2,c3,c4,c5,c6,c7,c8,c9]:=by
 rcases l with _|⟨c0,_|⟨c1,_|⟨c2,_|⟨c3,_|⟨c4,_|⟨c5,_|⟨c6,_|⟨c7,_|⟨c8,_|⟨c9,_|⟨x,l⟩⟩⟩⟩⟩⟩⟩⟩⟩⟩⟩<;>simp at h
 exact⟨_,_,_,_,_,_,_,_,_,_,rfl⟩
theorem mO {y m d:Int}(h:fB y m d=true):1970≤y∧y≤9999∧1≤m∧m≤12∧1≤d∧d≤31:=by
 obtain⟨h1,h2,h3,h4,h5,h6,-⟩:=mH h;obtain⟨-,-,h7⟩:=kZ (y:=y) (m:=m) (by omega);exact⟨h1,h2,h3,h4,h5,by omega⟩
theorem B5 (l:List Nat)(h:l.length=10):(cZ l=true↔(fB (dS (l.take 4)) (dS ((l.take 7).drop 5)) (dS ((l.take 10).drop 8))=true∧fC (dS (l.take 4)).toNat (dS ((l.take 7).drop 5)).toNat (dS ((l.take 10).drop 8)).toNat=l))∧
  (cZ l=true→eL l=fe (dS (l.take 4)) (dS ((l.take 7).drop 5)) (dS ((l.take 10).drop 8))):=by
 obtain⟨c0,c1,c2,c3,c4,c5,c6,c7,c8,c9,rfl⟩:=Bb h;have r1:dS [c0,c1,c2,c3]=1000*((c0:Int)-48)+100*((c1:Int)-48)+10*((c2:Int)-48)+((c3:Int)-48):=by simp[dS];omega
 have r2:dS [c5,c6]=10*((c5:Int)-48)+((c6:Int)-48):=by simp[dS];omega
 have r3:dS [c8,c9]=10*((c8:Int)-48)+((c9:Int)-48):=by simp[dS];omega
 have hk:cZ [c0,c1,c2,c3,c4,c5,c6,c7,c8,c9]=(decide (c4=45)&&decide (c7=45)&&fB (dZ [c0,c1,c2,c3]) (dZ [c5,c6]) (dZ [c8,c9])):=by
  unfold cZ;simp
 have hz:eL [c0,c1,c2,c3,c4,c5,c6,c7,c8,c9]=if cZ [c0,c1,c2,c3,c4,c5,c6,c7,c8,c9]=true then fe (dZ [c0,c1,c2,c3]) (dZ [c5,c6]) (dZ [c8,c9]) else 0:=rfl;show(_↔(fB (dS [c0,c1,c2,c3]) (dS [c5,c6]) (dS [c8,c9])=true∧fC (dS [c0,c1,c2,c3]).toNat (dS [c5,c6]).toNat (dS [c8,c9]).toNat=_))∧(_→_=fe (dS [c0,c1,c2,c3]) (dS [c5,c6]) (dS [c8,c9]));rw[hz,hk]
 have key:(decide (c4=45)&&decide (c7=45)&&fB (dZ [c0,c1,c2,c3]) (dZ [c5,c6]) (dZ [c8,c9]))=true→dZ [c0,c1,c2,c3]=dS [c0,c1,c2,c3]∧dZ [c5,c6]=dS [c5,c6]∧dZ [c8,c9]=dS [c8,c9]∧fC (dS [c0,c1,c2,c3]).toNat (dS [c5,c6]).toNat (dS [c8,c9]).toNat=[c0,c1,c2,c3,c4,c5,c6,c7,c8,c9]:=by
  intro hd;simp at hd;obtain⟨⟨h4,h7⟩,ho⟩:=hd;have hb:=mO ho;rw[xa,oK,oK] at hb⊢;rw[r1,r2,r3];split at hb
  ·rename_i d1
   split at hb
   ·rename_i d2
    split at hb
    ·rename_i d3
     rw[if_pos d1,if_pos d2,if_pos d3];refine⟨rfl,rfl,rfl,?_⟩;unfold fC eN eN eN eN eN;simp;refine⟨?_,?_,?_,?_,?_,?_,?_,?_,?_,?_⟩<;>omega
    ·omega
   ·omega
  ·omega
 refine⟨⟨fun hd=> ?_,fun hd=> ?_⟩,fun hd=> ?_⟩
 ·obtain⟨k1,k2,k3,k4⟩:=key hd
  simp at hd;rw[k1,k2,k3] at hd;exact⟨hd.2,k4⟩
 ·obtain⟨ho,hp⟩:=hd
  have hb:=mO ho
  generalize dS [c0,c1,c2,c3]=Y at *
  generalize dS [c5,c6]=M at *
  generalize dS [c8,c9]=D at *
  unfold fC eN eN eN eN eN at hp;simp at hp;obtain⟨p0,p1,p2,p3,p4,p5,p6,p7,p8,p9⟩:=hp;have e1:dZ [c0,c1,c2,c3]=Y:=by rw[xa,if_pos (by omega)];omega
  have e2:dZ [c5,c6]=M:=by rw[oK,if_pos (by omega)];omega
  have e3:dZ [c8,c9]=D:=by rw[oK,if_pos (by omega)];omega
  rw[e1,e2,e3,ho];simp;omega
 ·obtain⟨k1,k2,k3,-⟩:=key hd
  rw[if_pos hd,k1,k2,k3]
def fv (y:Nat):Nat:=365*y+y/4-y/100+y/400
def gS (e:Nat):Nat:=(e-e/1460+e/36524-e/146096)/365
theorem yB (e:Nat)(h:e+1≤146096):e-e/1460+e/36524-e/146096≤(e+1)-(e+1)/1460+(e+1)/36524-(e+1)/146096:=by omega
theorem yE (k:Nat):∀e,e+k≤146096→e-e/1460+e/36524-e/146096≤(e+k)-(e+k)/1460+(e+k)/36524-(e+k)/146096:=by
 induction k with
 |zero=>intro e _;exact Nat.le_refl _
 |succ k ih=>intro e h;exact Nat.le_trans (ih e (by omega)) (yB (e+k) (by omega))
theorem rf {e e':Nat}(h:e≤e')(h1:e'≤146096):gS e≤gS e':=by
 obtain⟨k,rfl⟩:∃k,e'=e+k:=⟨e'-e,by omega⟩;exact Nat.div_le_div_right (yE k e h1)
def Ed (y:Nat):Bool:=Nat.beq (gS (fv y)) y&&Nat.beq (gS (fv (y+1)-1)) y&&Nat.blt (fv y) (fv (y+1))&&Nat.ble (fv (y+1)) 146097
theorem zE:((List.range 20).all fun a=>(List.range 20).all fun b=>Ed (20*a+b))=true:=by decide+kernel
theorem vY (y:Nat)(h:y<400):gS (fv y)=y∧gS (fv (y+1)-1)=y∧fv y<fv (y+1)∧fv (y+1)≤146097:=by
 have h1:=List.all_eq_true.1 (List.all_eq_true.1 zE (y/20) (List.mem_range.2 (by omega))) (y%20) (List.mem_range.2 (by omega));rw[show 20*(y/20)+y%20=y by omega] at h1;unfold Ed at h1;simp only[Bool.and_eq_true] at h1;obtain⟨⟨⟨a,b⟩,c⟩,d⟩:=h1;exact⟨Nat.eq_of_beq_eq_true a,Nat.eq_of_beq_eq_true b,Nat.le_of_ble_eq_true c,Nat.le_of_ble_eq_true d⟩
theorem yj:fv 400=146097:=by decide+kernel
theorem Bl (e:Nat)(h:e<146097):∃y,y<400∧fv y≤e∧e<fv (y+1):=by
 have key:∀k,k≤400→e<fv k→∃y,y<400∧fv y≤e∧e<fv (y+1):=by
  intro k
  induction k with
  |zero=>intro _ h;exact absurd h (Nat.not_lt_zero _)
  |succ k ih=>
   intro hk he;rcases Nat.lt_or_ge e (fv k) with h1|h1
   ·exact ih (by omega) h1
   ·exact⟨k,by omega,h1,he⟩
 exact key 400 (Nat.le_refl _) (by rw[yj];exact h)
theorem vp (e:Nat)(h:e<146097):gS e<400∧fv (gS e)≤e∧e<fv (gS e+1):=by
 obtain⟨y,h1,h2,h3⟩:=Bl e h;obtain⟨t1,t2,t3,t4⟩:=vY y h1;have a:=rf h2 (by omega);have b:=rf (e:=e) (e':=fv (y+1)-1) (by omega) (by omega);have:gS e=y:=by omega
 rw[this];exact⟨h1,h2,h3⟩
def DD (m:Nat):Nat:=[31,30,31,30,31,31,30,31,30,31,31,29].getD m 0
def Eg (t:Nat):Bool:=Nat.ble ((5*t+2)/153) 11&&Nat.ble ((153*((5*t+2)/153)+2)/5) t&&Nat.blt (t-(153*((5*t+2)/153)+2)/5) (DD ((5*t+2)/153))&&(!(Nat.beq (t-(153*((5*t+2)/153)+2)/5) 28&&Nat.beq ((5*t+2)/153) 11)||Nat.beq t 365)
theorem zO:((List.range 19).all fun a=>(List.range 20).all fun b=>Nat.ble 366 (20*a+b)||Eg (20*a+b))=true:=by decide+kernel
theorem nW (t:Nat)(h:t<366):(5*t+2)/153≤11∧(153*((5*t+2)/153)+2)/5≤t∧t-(153*((5*t+2)/153)+2)/5<DD ((5*t+2)/153)∧(t-(153*((5*t+2)/153)+2)/5=28→(5*t+2)/153=11→t=365):=by
 have h1:=List.all_eq_true.1 (List.all_eq_true.1 zO (t/20) (List.mem_range.2 (by omega))) (t%20) (List.mem_range.2 (by omega));rw[show 20*(t/20)+t%20=t by omega] at h1
 have h0:Nat.ble 366 t=false:=by
  cases hb:Nat.ble 366 t with
  |false=>rfl
  |true=>have:=Nat.le_of_ble_eq_true hb;omega
 rw[h0,Bool.false_or] at h1;unfold Eg at h1;simp only[Bool.and_eq_true] at h1;obtain⟨⟨⟨a,b⟩,c⟩,d⟩:=h1;refine⟨Nat.le_of_ble_eq_true a,Nat.le_of_ble_eq_true b,Nat.le_of_ble_eq_true c,fun e1 e2=> ?_⟩;rw[e1,e2] at d;exact Nat.eq_of_beq_eq_true (by simpa using d)
theorem wo (q y:Nat)(h:ic ((y:Int)+1)=true):ic (((q*400+y:Nat):Int)+1)=true:=by
 rw[ly] at *;omega
theorem Al (q y:Nat)(h:y<400)(mm d:Int):(((q*400+y:Nat):Int))/400*146097+(((q*400+y:Nat):Int)%400*365+((q*400+y:Nat):Int)%400/4-((q*400+y:Nat):Int)%400/100+((153*mm+2)/5+d-1))-719468=q*146097+((y:Int)*365+y/4-y/100)+((153*mm+2)/5+d-1)-719468:=by
 have a1:(((q*400+y:Nat):Int))/400=q:=by omega
 have a2:((q*400+y:Nat):Int)%400=y:=by omega
 rw[a1,a2];omega
theorem rr (y:Nat):fv (y+1)-fv y≤366∧(fv (y+1)-fv y=366→ic ((y:Int)+1)=true):=by
 unfold fv;refine⟨by omega,fun h=> ?_⟩;rw[ly];omega
theorem tE (y:Nat)(h:y<400):(fv y:Int)=(y:Int)*365+y/4-y/100:=by unfold fv;omega
theorem Bc (n q e y t m d:Nat)(hn:n+719468=q*146097+e)(h1:y<400)(h2:fv y≤e)(h3:e<fv (y+1))(ht:t=e-fv y)(hm:m=(5*t+2)/153)(hd:d=t-(153*m+2)/5+1):
  fe (if 10≤m then q*400+y+1 else q*400+y:Nat) (if 10≤m then m-9 else m+3:Nat) d=n∧1≤(if 10≤m then m-9 else m+3)∧(if 10≤m then m-9 else m+3)≤12∧1≤d∧(d:Int)≤bS (if 10≤m then q*400+y+1 else q*400+y:Nat) (if 10≤m then m-9 else m+3:Nat):=by
 obtain⟨l1,l2⟩:=rr y;have hlp:t=365→ic (((q*400+y:Nat):Int)+1)=true:=fun h=>wo q y (l2 (by omega));have hi:=tE y h1;have hsh:=Al q y h1;obtain⟨m1,m2,m3,m4⟩:=nW t (by omega);rw[←hm] at m1 m2 m3 m4
 have hzz:∀mm:Int,mm=m→(q:Int)*146097+((y:Int)*365+y/4-y/100)+((153*mm+2)/5+(d:Int)-1)-719468=n:=by
  rintro mm rfl;rw[←hi];omega
 clear hi l1 l2 h2 h3 hn;obtain⟨yy,hyy⟩:∃yy,yy=q*400+y:=⟨_,rfl⟩;rw[←hyy] at hlp hsh⊢;clear hyy
 by_cases hm10:10≤m
 ·simp only[hm10,if_true]
  refine⟨?_,by omega,by omega,by omega,?_⟩
  ·unfold fe rM ofM
   rw[if_pos (by omega),if_pos (by omega),show(((yy+1:Nat):Int)-1)=(yy:Int) by omega,hsh];exact hzz _ (by omega)
  ·have:m=10∨m=11:=by omega
   rcases this with rfl|rfl
   ·replace m3:t-(153*10+2)/5<31:=m3
    unfold bS;simp;omega
   ·replace m3:t-(153*11+2)/5<29:=m3
    unfold bS;simp;split
    ·omega
    ·rename_i hl
     have:t≠365:=fun h=>hl (hlp h);omega
 ·simp only[hm10,if_false]
  refine⟨?_,by omega,by omega,by omega,?_⟩
  ·unfold fe rM ofM
   rw[if_neg (by omega),if_neg (by omega),hsh];exact hzz _ (by omega)
  ·have:m=0∨m=1∨m=2∨m=3∨m=4∨m=5∨m=6∨m=7∨m=8∨m=9:=by omega
   clear hzz hsh hlp hm10 m1 m4;rcases this with rfl|rfl|rfl|rfl|rfl|rfl|rfl|rfl|rfl|rfl<;>(simp[DD] at m3;unfold bS;simp;omega)
def yT (e:Nat):Nat:=e-fv (gS e)
def mT (e:Nat):Nat:=(5*yT e+2)/153
def dT (e:Nat):Nat:=yT e-(153*mT e+2)/5+1
def cY (q e:Nat):Nat:=if 10≤mT e then q*400+gS e+1 else q*400+gS e
def cM (e:Nat):Nat:=if 10≤mT e then mT e-9 else mT e+3
theorem AH (n q e:Nat)(hn:n+719468=q*146097+e)(he:e<146097):fe (cY q e) (cM e) (dT e)=n∧1≤cM e∧cM e≤12∧1≤dT e∧(dT e:Int)≤bS (cY q e) (cM e):=by
 obtain⟨h1,h2,h3⟩:=vp _ he;have:=Bc n q e (gS e) (yT e) (mT e) (dT e) hn h1 h2 h3 rfl rfl rfl;unfold cY cM;exact this
theorem xe (n:Nat)(y m d:Nat)(h:n≤2932896)(hz:fe y m d=n)(h2:1≤m)(h3:m≤12)(h4:1≤d)(h5:(d:Int)≤bS y m):fB y m d=true:=by
 have hday:=rW (y:Int) (m:Int) (d:Int)
 have hlo:(1970:Int)≤y:=by
  rcases Int.lt_or_le (y:Int) 1970 with hlt|hge
  ·exfalso
   have h6:=gn (y:=(y:Int)+1) (y':=1970) (by omega);have hs:=ko;have hdec:=uI (y:Int);rcases Nat.lt_or_ge m 12 with hm12|hm12
   ·have hmn:=jn (y:Int) (m:Int) (by omega) (by omega)
    have hm2:=gm (y:=(y:Int)) (m:=(m:Int)+1) (m':=12) (by omega) (by omega) (by omega);omega
   ·have h12:(m:Int)=12:=by omega
    rw[h12] at hday h5 hz;have:bS (y:Int) 12=31:=by unfold bS;simp
    omega
  ·exact hge
 have hhi:(y:Int)≤9999:=by
  rcases Int.lt_or_le 9999 (y:Int) with hlt|hge
  ·exfalso
   have h6:=gn (y:=10000) (y':=(y:Int)) (by omega);have hs:=r8;have hm:=gm (y:=(y:Int)) (m:=1) (m':=(m:Int)) (by omega) (by omega) (by omega);omega
  ·exact hge
 unfold fB;simp only[Bool.and_eq_true,decide_eq_true_eq];exact⟨⟨⟨hlo,hhi⟩,by omega⟩,h5⟩
def qC (n:Nat):List Nat:=fC (cY ((n+719468)/146097) ((n+719468)%146097)) (cM ((n+719468)%146097)) (dT ((n+719468)%146097))
theorem wJ (n q e:Nat)(hq:(n+719468)/146097=q)(he:(n+719468)%146097=e):qC n=fC (cY q e) (cM e) (dT e):=by subst hq he;rfl
theorem iB (y:Int)(w:World)(h0:0≤y)(h1:y≤100000):Calls Tryz.prog 193 #[.int .i64 y] w fun e w'=>e= .returned (.bool (ic y))∧Grow w w':=by
 have ae:=Below.refl w.heap.size w;refine Zs 16 Tryz.func193 ?_;refine ao ?_;refine Za ?_;refine eh 0 2 (aG ?_);refine Zm ?_;refine Zv (aa.iK rfl rfl rfl (by omega) (by omega)) ?_;refine Zv (aa.aB rfl rfl rfl) ?_;refine Zm ?_;refine ah.start ?_;refine bM (fun hcx=>aa.move rfl rfl) ?_;refine ah.next rfl rfl rfl rfl rfl rfl rfl (fun hcx=>aa.iK rfl rfl rfl (by omega) (by omega)) ?_;refine ah.next rfl rfl rfl rfl rfl rfl rfl (fun hcx=>aa.aB rfl rfl rfl) ?_;refine ah.next rfl rfl rfl rfl rfl rfl rfl (fun hcx=>aa.move rfl rfl) ?_;refine bM (fun hcx=>aa.move rfl rfl) ?_;refine ah.next rfl rfl rfl rfl rfl rfl rfl (fun hcx=>aa.iK rfl rfl rfl (by omega) (by omega)) ?_;refine ah.next rfl rfl rfl rfl rfl rfl rfl (fun hcx=>aa.bN rfl rfl rfl) ?_;refine ah.mX rfl rfl rfl rfl rfl rfl rfl rfl rfl rfl rfl ?_;refine ah.or rfl rfl rfl rfl rfl rfl rfl ?_;refine Za ?_;refine eh 0 2 (Zt (Cd.ret ?_));refine ab.aE rfl rfl (.inl rfl) ?_;refine⟨bw (aL ?_),ae⟩;rw[Bool.eq_iff_iff,ly];simp;omega
theorem il (y m:Int)(w:World)(h0:0≤y)(h1:y≤100000)(hm:bt m):Calls Tryz.prog 194 #[.int .i64 y, .int .i64 m] w fun e w'=>e= .returned (.int .i64 (bS y m))∧Grow w w':=by
 have ae:=Below.refl w.heap.size w;have hm1:=hm.1;have hm2:=hm.2;refine Zs 24 Tryz.func194 ?_;refine ao ?_;refine Za ?_;refine bD 0 1 4 (aJ (ao ?_));refine Zm ?_;refine Zv (aa.lss rfl rfl rfl) ?_;refine Zm ?_;refine ah.start ?_;refine bM (fun hcx=>aa.move rfl rfl) ?_;refine ah.next rfl rfl rfl rfl rfl rfl rfl (fun hcx=>aa.gtr rfl rfl rfl) ?_;refine ah.or rfl rfl rfl rfl rfl rfl rfl ?_;refine aV 0 1 4 11 (Zt ?_);refine Cd.cond rfl (fun h=> ?_) (fun h=> ?_)
 ·skip
  refine ao ?_;refine Za ?_;refine aV 0 1 4 11 (Zt (Cd.ret (ab.af ?_)));refine ab.aE rfl rfl (.inl rfl) ?_;refine⟨bw (int_eq ?_),ae⟩;simp at h;unfold bS;rw[if_neg (by omega),if_neg (by omega),if_neg (by omega)]
 ·have hm3:1≤m∧m≤12:=by simp at h;omega
  clear h;refine Cd.skip (aG ?_);refine Seq.slice (vs:=[_,_,_,_,_,_,_,_,_,_,_,_]) (s:=1) rfl rfl rfl Tryz.underlying96 (by kernel_rfl) (gy) (by omega) (by omega) ⟨rfl,rfl,rfl,rfl,rfl,rfl,rfl,rfl,rfl,rfl,rfl,rfl,trivial⟩ rfl rfl rfl ?_;intro g12 w1 n12;have e12:=Nat.le_trans ae.size n12.ge;replace ae:=ae.step n12.below;have k12:=n12.av;refine Za ?_;refine aU 0 1 4 5 11 (aJ (ao ?_));refine Zm ?_;refine Zv (aa.aB rfl rfl rfl) ?_;refine Zm ?_;refine ah.start ?_;refine bM (fun hcx=>aa.move rfl rfl) ?_;refine ah.bY rfl rfl rfl rfl rfl rfl rfl (fun hcx=>Ze Tryz.func193) (fun hcx=>iB y _ h0 h1) ?_;intro w2 hw2;replace ae:=ae.step hw2;replace k12:=k12.step hw2;refine ah.and rfl rfl rfl rfl rfl rfl rfl ?_;refine bj 0 1 4 5 11 18 (Zt ?_);refine Cd.cond rfl (fun h=> ?_) (fun h=> ?_)
  ·simp at h
   refine ao ?_;refine Za ?_;refine bj 0 1 4 5 11 18 (Zt (Cd.ret (ab.af ?_)));refine ab.aE rfl rfl (.inl rfl) ?_;refine⟨bw (int_eq ?_),ae⟩;unfold bS;rw[if_pos h.1,if_pos h.2]
  ·simp at h
   refine Cd.skip (aG ?_);refine Zm ?_;refine Zm ?_;refine Zv (aa.eU rfl rfl rfl (by omega) (by omega)) ?_;have hj:0≤m-1∧m-1<12:=by omega
   have hv:(#[(.int .i64 31:Value), .int .i64 28, .int .i64 31, .int .i64 30, .int .i64 31, .int .i64 30, .int .i64 31, .int .i64 31, .int .i64 30, .int .i64 31, .int .i64 30, .int .i64 31]:Array Value)[(m-1).toNat]? =some (.int .i64 (bS y m)):=by
    rcases(show m=1∨m=2∨m=3∨m=4∨m=5∨m=6∨m=7∨m=8∨m=9∨m=10∨m=11∨m=12 by omega) with rfl|rfl|rfl|rfl|rfl|rfl|rfl|rfl|rfl|rfl|rfl|rfl
    case inr.inl=>unfold bS;rw[if_pos rfl,h rfl];rfl
    all_goals rfl
   refine Zv (aa.dN rfl rfl rfl Tryz.underlying96 (by kernel_rfl) (j:=(m-1).toNat) (by omega) (by omega)) ?_;refine Zv (aa.ag rfl rfl Tryz.underlying3 rfl k12 hv) ?_;refine Za ?_;refine bj 0 1 4 5 11 18 (Zt (Cd.ret ?_));refine ab.aE rfl rfl (.inl rfl) ?_;exact⟨rfl,ae⟩
theorem r5 (y m d:Int)(w:World)(hy:bt y)(hm:bt m)(hd:bt d):Calls Tryz.prog 197 #[.int .i64 y, .int .i64 m, .int .i64 d] w fun e w'=>e= .returned (.int .i64 (if fB y m d then fe y m d else -1))∧Grow w w':=by
 have ae:=Below.refl w.heap.size w;have hy1:=hy.1;have hy2:=hy.2;have hm1:=hm.1;have hm2:=hm.2;have hd1:=hd.1;have hd2:=hd.2;have hok:= @mH y m d;have hdef:fB y m d=(decide (1970≤y)&&decide (y≤9999)&&decide (1≤d)&&decide (d≤bS y m)):=rfl;have hdm:= @kZ y m;refine Zs 60 Tryz.func197 ?_;refine ao ?_;refine Za ?_;refine aV 0 1 2 6 (aJ (ao ?_));refine Zm ?_;refine Zv (aa.lss rfl rfl rfl) ?_;refine Zm ?_;refine ah.start ?_;refine bM (fun hcx=>aa.move rfl rfl) ?_;refine ah.next rfl rfl rfl rfl rfl rfl rfl (fun hcx=>aa.gtr rfl rfl rfl) ?_;refine ah.or rfl rfl rfl rfl rfl rfl rfl ?_;refine Zm ?_;refine ah.start ?_;refine bM (fun hcx=>aa.move rfl rfl) ?_;refine ah.next rfl rfl rfl rfl rfl rfl rfl (fun hcx=>aa.lss rfl rfl rfl) ?_;refine ah.or rfl rfl rfl rfl rfl rfl rfl ?_;refine Zm ?_;refine ah.start ?_;refine bM (fun hcx=>aa.move rfl rfl) ?_;refine ah.next rfl rfl rfl rfl rfl rfl rfl (fun hcx=>aa.gtr rfl rfl rfl) ?_;refine ah.or rfl rfl rfl rfl rfl rfl rfl ?_;refine Zm ?_;refine ah.start ?_;refine bM (fun hcx=>aa.move rfl rfl) ?_;refine ah.next rfl rfl rfl rfl rfl rfl rfl (fun hcx=>aa.lss rfl rfl rfl) ?_;refine ah.or rfl rfl rfl rfl rfl rfl rfl ?_;refine Zm ?_;refine ah.start ?_;refine bM (fun hcx=>aa.move rfl rfl) ?_;refine ah.next rfl rfl rfl rfl rfl rfl rfl (fun hcx=>aa.move rfl rfl) ?_;refine ah.next rfl rfl rfl rfl rfl rfl rfl (fun hcx=>aa.move rfl rfl) ?_;refine ah.bY rfl rfl rfl rfl rfl rfl rfl (fun hcx=>Ze Tryz.func194) (fun hcx=>il y m _ (by simp at hcx;omega) (by simp at hcx;omega) hm) ?_;intro w1 hw1;replace ae:=ae.step hw1;refine ah.next rfl rfl rfl rfl rfl rfl rfl (fun hcx=>aa.gtr rfl rfl rfl) ?_;refine ah.or rfl rfl rfl rfl rfl rfl rfl ?_;refine aU 0 1 2 6 34 (Zt ?_);refine Cd.cond rfl (fun h=> ?_) (fun h=> ?_)
 ·have hno:fB y m d=false:=by
   rw[hdef,Bool.eq_false_iff];intro h2;simp at h2 h;have:=hdm (by omega);omega
  refine ao ?_;refine Za ?_;refine aU 0 1 2 6 34 (Zt (Cd.ret (ab.af ?_)));refine ab.aE rfl rfl (.inl rfl) ?_;exact⟨bw (int_eq (by rw[hno];rfl)),ae⟩
 have hyes:fB y m d=true:=by
  rw[hdef];simp at h⊢;omega
 obtain⟨o1,o2,o3,o4,o5,o6,o7,o8,o9,o10⟩:=hok hyes;clear h hok hdef hdm;rw[hyes,if_pos rfl];refine Cd.skip (aG ?_);refine Za ?_;refine bj 0 1 2 6 7 34 (aJ (ao ?_));refine Za ?_;refine bb 0 1 2 6 7 8 34 (Zt (Cd.block ?_))
 refine Cd.loop (σ:=Nat) (fun k=>[(0, .int .i64 y),(1, .int .i64 m),(2, .int .i64 d),(7, .int .i64 (fe (1970+k) 1 1)),(8, .int .i64 (1970+k))])
  (fun k wr=>1970+(k:Int)≤y∧Below w.heap.size w wr) (fun k=>(y-1970-k).toNat) 0 ⟨by simp;omega,ae⟩ ⟨rfl,rfl,rfl,congrArg (fun x:Int=>some (Value.int .i64 x)) (show(0:Int)=fe (1970+((0:Nat):Int)) 1 1 by rfl),rfl,trivial⟩ ?_
 clear ae;rintro k wr ⟨hk,ae⟩;refine Cd.seq (ao ?_);refine Zm ?_;refine Zm ?_;refine Zv (aa.lss rfl rfl rfl) ?_;refine bj 0 1 2 7 8 37 (Zt ?_);refine Cd.au rfl (fun hc=> ?_) (fun hc=> ?_)
 ·have h1:=oI (1970+k)
  have h2:=gn (y:=1970) (y':=1970+(k:Int)) (by omega);have h3:=gn (y:=1970+(k:Int)+1) (y':=10000) (by omega);have h4:=rO (1970+(k:Int));rw[ko] at h2;rw[r8] at h3;have h5:pS (1970+(k:Int))=if ic (1970+(k:Int)) then 366 else 365:=rfl;have hnx:(1970:Int)+((k+1:Nat):Int)=1970+(k:Int)+1:=by omega
  generalize hY:1970+(k:Int)=Y at *
  refine Cd.skip (aJ (Cd.block (ao ?_)));refine Zm ?_;refine cH ?_;refine Za ?_;refine bj 0 1 2 7 8 37 (aG ?_);refine Zm ?_;refine Zc (Ze Tryz.func193) (iB Y _ (by omega) (by omega)) ?_;rintro e w5 ⟨rfl,hb5⟩;refine⟨_,rfl,?_⟩;replace ae:=ae.step hb5;refine bb 0 1 2 7 8 37 43 (Zt ?_);refine Cd.cond rfl (fun h=> ?_) (fun h=> ?_)
  ·rw[h,if_pos rfl] at h5
   refine Zr ?_;refine Zm ?_;refine cH ?_;refine Za ?_;refine bb 0 1 2 7 8 37 43 (ab.aj (ei ?_));refine Zm ?_;refine cH ?_;refine Za ?_;refine bb 0 1 2 7 8 37 43 ?_;exact ab.round (k+1) ⟨rfl,rfl,rfl,congrArg (fun x:Int=>some (Value.int .i64 x)) (by rw[hnx];omega),congrArg (fun x:Int=>some (Value.int .i64 x)) hnx.symm,trivial⟩ ⟨by omega,ae⟩ (by omega)
  ·rw[h,if_neg (by simp)] at h5
   refine Cd.skip (ab.aj (ei ?_));refine Zm ?_;refine cH ?_;refine Za ?_;refine bb 0 1 2 7 8 37 43 ?_;exact ab.round (k+1) ⟨rfl,rfl,rfl,congrArg (fun x:Int=>some (Value.int .i64 x)) (by rw[hnx];omega),congrArg (fun x:Int=>some (Value.int .i64 x)) hnx.symm,trivial⟩ ⟨by omega,ae⟩ (by omega)
 have hke:1970+(k:Int)=y:=by omega
 rw[hke];clear hk;refine Cd.exit (ab.aD (ab.aA (ab.az (aJ (ao ?_)))));refine Za ?_;refine bb 0 1 2 7 8 9 37 (Zt (Cd.block ?_))
 refine Cd.loop (σ:=Nat) (fun j=>[(0, .int .i64 y),(1, .int .i64 m),(2, .int .i64 d),(7, .int .i64 (fe y (1+j) 1)),(9, .int .i64 (1+j))])
  (fun j wr=>1+(j:Int)≤m∧Below w.heap.size w wr) (fun j=>(m-1-j).toNat) 0 ⟨by simp;omega,ae⟩ ⟨rfl,rfl,rfl,rfl,rfl,trivial⟩ ?_
 clear ae;rintro j wr2 ⟨hj,ae⟩;refine Cd.seq (ao ?_);refine Zm ?_;refine Zm ?_;refine Zv (aa.lss rfl rfl rfl) ?_;refine bj 0 1 2 7 9 48 (Zt ?_);have b1:=gm (y:=y) (m:=1) (m':=1+(j:Int)) (by omega) (by omega) (by omega);have b2:=gm (y:=y) (m:=1+(j:Int)) (m':=m) (by omega) (by omega) (by omega);have b3:=gn (y:=1970) (y':=y) (by omega);have b4:=rW y m d;rw[ko] at b3;refine Cd.au rfl (fun hc=> ?_) (fun hc=> ?_)
 ·have h1:=jn y (1+(j:Int)) (by omega) (by omega)
  have h2:=gm (y:=y) (m:=1+(j:Int)+1) (m':=m) (by omega) (by omega) (by omega);have h3:=nK y (1+(j:Int));have hnx:(1:Int)+((j+1:Nat):Int)=1+(j:Int)+1:=by omega
  generalize hM:1+(j:Int)=M at *
  refine Cd.skip (aJ (Cd.block (Zr ?_)));refine Zm ?_;refine Zm ?_;refine Zm ?_;refine Zc (Ze Tryz.func194) (il y M _ (by omega) (by omega) ⟨by omega,by omega⟩) ?_;rintro e w5 ⟨rfl,hb5⟩;refine⟨_,rfl,?_⟩;replace ae:=ae.step hb5;refine cH ?_;refine Za ?_;refine bj 0 1 2 7 9 48 (ab.aj (ei ?_));refine Zm ?_;refine cH ?_;refine Za ?_;refine bj 0 1 2 7 9 48 ?_;exact ab.round (j+1) ⟨rfl,rfl,rfl,congrArg (fun x:Int=>some (Value.int .i64 x)) (by rw[hnx];omega),congrArg (fun x:Int=>some (Value.int .i64 x)) hnx.symm,trivial⟩ ⟨by omega,ae⟩ (by omega)
 ·have hje:1+(j:Int)=m:=by omega
  rw[hje] at b1 b2⊢;refine Cd.exit (ab.aD (ab.aA (ab.az (aG ?_))));refine Zm ?_;refine Zm ?_;refine cH ?_;refine Zv (aa.eU rfl rfl rfl (by omega) (by omega)) ?_;refine Za ?_;refine bb 0 1 2 6 7 9 48 (Zt (Cd.ret ?_));refine ab.aE rfl rfl (.inl rfl) ?_;exact⟨bw (int_eq (by omega)),ae⟩
theorem rV (y m d:Int)(w:World)(hok:fB y m d=true):Calls Tryz.prog 148 #[.int .i64 (fe y m d)] w fun e w'=>e= .returned (.tuple #[.int .i64 y, .int .i64 m, .int .i64 d])∧Grow w w':=by
 have ae:=Below.refl w.heap.size w;obtain⟨o1,o2,o3,o4,o5,o6,o7,o8,o9,o10⟩:=mH hok;obtain⟨-,-,o11⟩:=kZ (y:=y) (m:=m) (by omega);have hst:=ko;have hda:=rW y m d;have ha1:=gm (y:=y) (m:=1) (m':=m) (by omega) (by omega) (by omega)
 generalize hn:fe y m d=n at *
 refine Zs 48 Tryz.func148 ?_;refine ao ?_;refine Za ?_;refine Za ?_;refine Za ?_;refine aV 0 2 3 4 (aJ (ao ?_));refine Zm ?_;refine Zv (aa.lss rfl rfl rfl) ?_;refine Zm ?_;refine ah.start ?_;refine bM (fun hcx=>aa.move rfl rfl) ?_;refine ah.next rfl rfl rfl rfl rfl rfl rfl (fun hcx=>aa.gtr rfl rfl rfl) ?_;refine ah.or rfl rfl rfl rfl rfl rfl rfl ?_;refine aU 0 2 3 4 12 (Zt ?_);refine Cd.aN rfl (by simp;omega) ?_;refine Cd.skip (aG ?_);refine Za ?_;refine bj 0 2 3 4 5 12 (aJ (Cd.block ?_))
 refine Cd.loop (σ:=Nat) (fun k=>[(0, .int .i64 (n-fe (1970+k) 1 1)),(5, .int .i64 (1970+k))])
  (fun k wr=>1970+(k:Int)≤y∧Below w.heap.size w wr) (fun k=>(y-1970-k).toNat) 0 ⟨by simp;omega,ae⟩ ⟨congrArg (fun x:Int=>some (Value.int .i64 x)) (show n=n-fe (1970+((0:Nat):Int)) 1 1 by show n=n-fe 1970 1 1;omega),rfl,trivial⟩ ?_
 clear ae;rintro k wr ⟨hk,ae⟩;have h1:=oI (1970+k);have h2:=gn (y:=1970) (y':=1970+(k:Int)) (by omega);have h3:=gn (y:=1970+(k:Int)) (y':=y) hk;have h4:1970+(k:Int)<y→fe (1970+(k:Int)+1) 1 1≤fe y 1 1:=fun h=>gn (y:=1970+(k:Int)+1) (y':=y) (by omega);have h5:pS (1970+(k:Int))=if ic (1970+(k:Int)) then 366 else 365:=rfl;have hnx:(1970:Int)+((k+1:Nat):Int)=1970+(k:Int)+1:=by omega
 have h6:(1970+(k:Int)<y)∨(1970+(k:Int)=y):=by omega
 rw[hst] at h2
 generalize hY:1970+(k:Int)=Y at *
 refine Cd.seq (ao ?_);refine Zm ?_;refine Zv (aa.geq rfl rfl rfl) ?_;refine Zm ?_;refine ah.start ?_;refine bM (fun hcx=>aa.move rfl rfl) ?_;refine ah.next rfl rfl rfl rfl rfl rfl rfl (fun hcx=>aa.geq rfl rfl rfl) ?_;refine ah.next rfl rfl rfl rfl rfl rfl rfl (fun hcx=>aa.move rfl rfl) ?_;refine bM (fun hcx=>aa.move rfl rfl) ?_;refine ah.bY rfl rfl rfl rfl rfl rfl rfl (fun hcx=>Ze Tryz.func193) (fun hcx=>iB Y _ (by omega) (by omega)) ?_;intro w1 hw1;replace ae:=ae.step hw1;refine ah.next rfl rfl rfl rfl rfl rfl rfl (fun hcx=>aa.not rfl rfl) ?_;refine ah.zo rfl rfl rfl rfl rfl rfl rfl rfl rfl rfl rfl ?_;refine ah.and rfl rfl rfl rfl rfl rfl rfl ?_;refine bD 0 5 23 (Zt ?_);refine Cd.cond rfl (fun h=> ?_) (fun h=> ?_)
 ·have hlt:Y<y:=by
   rcases h6 with h6|h6
   ·exact h6
   ·exfalso
    subst h6;simp at h
    cases hl:ic Y<;>rw[hl] at h h5<;>simp at h h5<;>omega
  have h7:=h4 hlt;refine Cd.skip (Zt (Cd.block (ao ?_)));refine Zm ?_;refine Zv (aa.eU rfl rfl rfl (by omega) (by omega)) ?_;refine Za ?_;refine bD 0 5 23 (aJ (ao ?_));refine Zm ?_;refine Zc (Ze Tryz.func193) (iB Y _ (by omega) (by omega)) ?_;rintro e w5 ⟨rfl,hb5⟩;refine⟨_,rfl,?_⟩;replace ae:=ae.step hb5;refine aV 0 5 23 27 (Zt ?_);refine Cd.cond rfl (fun hl=> ?_) (fun hl=> ?_)
  ·rw[hl,if_pos rfl] at h5
   refine Zr ?_;refine Zm ?_;refine Zv (aa.eU rfl rfl rfl (by omega) (by omega)) ?_;refine Za ?_;refine aV 0 5 23 27 (ei ?_);refine Zm ?_;refine cH ?_;refine Za ?_;refine aV 0 5 23 27 (ab.aj ?_);exact ab.round (k+1) ⟨congrArg (fun x:Int=>some (Value.int .i64 x)) (by rw[hnx];omega),congrArg (fun x:Int=>some (Value.int .i64 x)) hnx.symm,trivial⟩ ⟨by omega,ae⟩ (by omega)
  ·rw[hl,if_neg (by simp)] at h5
   refine Cd.skip (ei ?_);refine Zm ?_;refine cH ?_;refine Za ?_;refine aV 0 5 23 27 (ab.aj ?_);exact ab.round (k+1) ⟨congrArg (fun x:Int=>some (Value.int .i64 x)) (by rw[hnx];omega),congrArg (fun x:Int=>some (Value.int .i64 x)) hnx.symm,trivial⟩ ⟨by omega,ae⟩ (by omega)
 have hke:Y=y:=by
  rcases h6 with h6|h6
  ·exfalso
   have h7:=h4 h6;simp at h
   cases hl:ic Y<;>rw[hl] at h h5<;>simp at h h5<;>omega
  ·exact h6
 subst hke;clear hk h6 h4;refine Cd.exit (ab.aD (ab.aA (ab.az (aG ?_))));refine Za ?_;refine aV 0 5 6 23 (aJ (Cd.block ?_))
 refine Cd.loop (σ:=Nat) (fun j=>[(0, .int .i64 (n-fe Y (1+j) 1)),(5, .int .i64 Y),(6, .int .i64 (1+j))])
  (fun j wr=>1+(j:Int)≤m∧Below w.heap.size w wr) (fun j=>(m-1-j).toNat) 0 ⟨by simp;omega,ae⟩ ⟨rfl,rfl,rfl,trivial⟩ ?_
 clear ae;rintro j wr2 ⟨hj,ae⟩;have b1:=gm (y:=Y) (m:=1) (m':=1+(j:Int)) (by omega) (by omega) (by omega)
 have b2:1+(j:Int)<m→fe Y (1+(j:Int)) 1+bS Y (1+(j:Int))≤fe Y m 1:=fun h=>by
  have e:=jn Y (1+(j:Int)) (by omega) (by omega);have:=gm (y:=Y) (m:=1+(j:Int)+1) (m':=m) (by omega) (by omega) (by omega);omega
 have b3:1+(j:Int)<m→fe Y (1+(j:Int)+1) 1=fe Y (1+(j:Int)) 1+bS Y (1+(j:Int)):=fun h=>jn Y (1+(j:Int)) (by omega) (by omega);have b5:1+(j:Int)<m∨1+(j:Int)=m:=by omega
 have b4:=nK Y (1+(j:Int));have hnx:(1:Int)+((j+1:Nat):Int)=1+(j:Int)+1:=by omega
 generalize hM:1+(j:Int)=M at *
 refine Cd.seq (ao ?_);refine Zm ?_;refine Zm ?_;refine Zm ?_;refine Zc (Ze Tryz.func194) (il Y M _ (by omega) (by omega) ⟨by omega,by omega⟩) ?_;rintro e w5 ⟨rfl,hb5⟩;refine⟨_,rfl,?_⟩;replace ae:=ae.step hb5;refine Zv (aa.geq rfl rfl rfl) ?_;refine aV 0 5 6 36 (Zt ?_);refine Cd.au rfl (fun hc=> ?_) (fun hc=> ?_)
 ·have hlt:M<m:=by
   rcases b5 with h|h
   ·exact h
   ·exfalso;subst h;omega
  have b6:=b2 hlt;have b7:=b3 hlt;refine Cd.skip (Zt (Cd.block (ao ?_)));refine Zm ?_;refine Zm ?_;refine Zm ?_;refine Zc (Ze Tryz.func194) (il Y M _ (by omega) (by omega) ⟨by omega,by omega⟩) ?_;rintro e w6 ⟨rfl,hb6⟩;refine⟨_,rfl,?_⟩;replace ae:=ae.step hb6;refine Zv (aa.eU rfl rfl rfl (by omega) (by omega)) ?_;refine Za ?_;refine aV 0 5 6 36 (ei ?_);refine Zm ?_;refine cH ?_;refine Za ?_;refine aV 0 5 6 36 (ab.aj ?_);exact ab.round (j+1) ⟨congrArg (fun x:Int=>some (Value.int .i64 x)) (by rw[hnx,b7];omega),rfl,congrArg (fun x:Int=>some (Value.int .i64 x)) hnx.symm,trivial⟩ ⟨by omega,ae⟩ (by omega)
 ·obtain rfl:M=m:=by
   rcases b5 with h|h
   ·have:=b2 h;omega
   ·exact h
  refine Cd.exit (ab.aD (ab.aA (ab.az (aG ?_))));refine Zm ?_;refine Zm ?_;refine Zm ?_;refine cH ?_;refine Za ?_;refine Za ?_;refine Za ?_;refine bb 0 2 3 4 5 6 36 (Zt (Cd.ret ?_));refine ab.lS rfl rfl rfl rfl (.inl rfl) ?_;exact⟨Ek rfl rfl (int_eq (by omega)),ae⟩
def val:List Nat→Nat
 | []=>0
 |d::l=>d+65536*val l
def bm (n:Nat):List Nat:=if n=0 then [] else n%65536::bm (n/65536)
termination_by n
decreasing_by omega
theorem eE:bm 0=[]:=by rw[bm];simp
theorem iZ (n:Nat)(h:n≠0):bm n=n%65536::bm (n/65536):=by rw[bm,if_neg h]
theorem dA (n:Nat):val (bm n)=n:=by
 induction n using Nat.strongRecOn with
 |_ n ih=>
  by_cases h:n=0
  ·subst h;rw[eE];rfl
  ·rw[iZ n h,val,ih _ (by omega)];omega
theorem fM (n:Nat):∀d∈bm n,d<65536:=by
 induction n using Nat.strongRecOn with
 |_ n ih=>
  by_cases h:n=0
  ·subst h;rw[eE];simp
  ·rw[iZ n h]
   intro d hd;rcases List.mem_cons.1 hd with rfl|hd
   ·omega
   ·exact ih _ (by omega) d hd
theorem iI (n:Nat):(bm n).length=0↔n=0:=by
 by_cases h:n=0
 ·subst h;simp[eE]
 ·rw[iZ n h];simp[h]
theorem Ab (l:List Nat)(h:∀d∈l,d<65536)(hl:∀k,l.length=k+1→l[k]? ≠some 0):bm (val l)=l:=by
 induction l with
 |nil=>exact eE
 |cons d l ih=>
  have hd:=h d (by simp);have ih:=ih (fun x hx=>h x (by simp[hx])) (fun k hk=>by have:=hl (k+1) (by simp[hk]);simpa using this)
  have hne:val (d::l)≠0:=by
   rw[val];intro h0;have hv:val l=0:=by omega
   rw[hv,eE] at ih;subst ih;have hd0:d=0:=by omega
   exact hl 0 rfl (by simp[hd0])
  rw[iZ _ hne,val];have e1:(d+65536*val l)%65536=d:=by omega
  have e2:(d+65536*val l)/65536=val l:=by omega
  rw[e1,e2,ih]
theorem lO (a b:List Nat):val (a++b)=val a+65536^a.length*val b:=by
 induction a with
 |nil=>simp[val]
 |cons d a ih=>
  rw[List.cons_append,val,val,ih,List.length_cons,Nat.pow_succ,Nat.mul_add,Nat.add_assoc,Nat.mul_comm (65536^a.length) 65536,Nat.mul_assoc]
theorem gz (a:List Nat)(d:Nat):val (a++[d])=val a+65536^a.length*d:=by rw[lO];simp[val]
theorem qw (l:List Nat)(k:Nat)(h:l[k]? =some 0):val (l.take (k+1))=val (l.take k):=by
 rw[List.take_add_one,h];show val (_++[0])=_;rw[gz];simp
theorem m6 (l:List Nat)(h:∀d∈l,d<65536):val l<65536^l.length:=by
 induction l with
 |nil=>simp[val]
 |cons d l ih=>
  have:=ih (fun x hx=>h x (by simp[hx]));have hd:=h d (by simp);rw[val,List.length_cons,Nat.pow_succ];omega
theorem gr (n k:Nat)(h:n<65536^k):(bm n).length≤k:=by
 induction k generalizing n with
 |zero=>obtain rfl:n=0:=by simpa using h
        simp[eE]
 |succ k ih=>
  by_cases h0:n=0
  ·subst h0;simp[eE]
  ·rw[iZ n h0,List.length_cons]
   have:=ih (n/65536) (by rw[Nat.pow_succ] at h;omega);omega
theorem hO (n:Nat):n<65536^(bm n).length:=by
 have:=m6 _ (fM n)
 rwa [dA] at this
theorem qW (l:List Nat)(k:Nat)(hd:∀d∈l,d<65536)(hk:k≤l.length)(hv:val (l.take k)=val l)(hl:∀j,k=j+1→l[j]? ≠some 0):bm (val l)=l.take k:=by
 rw[←hv];refine Ab _ (fun d h=>hd d (List.mem_of_mem_take h)) (fun j hj=> ?_);rw[List.length_take,Nat.min_eq_left hk] at hj;subst hj;have:=hl j rfl
 simpa[List.getElem?_take] using this
def U (l:List Nat):List Value:=l.map fun(d:Nat)=>Value.int .u64 (d:Int)
theorem pQ (l:List Nat):(U l).length=l.length:=by simp[U]
theorem AK (l:List Nat)(k:Nat):(U l)[k]? =l[k]?.map fun(d:Nat)=>Value.int .u64 (d:Int):=by simp[U]
theorem Bx (a b:List Nat):U (a++b)=U a++U b:=by simp[U]
theorem Du (l:List Nat)(k:Nat):(U l).take k=U (l.take k):=by simp[U]
theorem Reads.zZ {w wr:World}{B B' n k:Nat}{A:Option Addr}{l:List Nat}(h:Reads w B 1 A n (U l))(hb:Below B' w wr)(hB:B≤B')(hk:k<n):
  ∃ad d,A=some ad∧ad.block<B∧l[k]? =some d∧wr.cell? (ad.add k)=some (.int .u64 (d:Int)):=by
 obtain⟨ad,u,e,hbl,hu,hc⟩:=h.at_ hk;rw[AK] at hu
 cases hl:l[k]? with
 |none=>rw[hl] at hu;cases hu
 |some d=>
  rw[hl] at hu;injection hu with hu
  exact⟨ad,d,e,hbl,rfl,by rw[hb.cell (by rw[aw];omega),hc,←hu]⟩
theorem Reads.zN {w:World}{B n:Nat}{A:Option Addr}{l:List Nat}(h:Reads w B 1 A n (U l)):l.length=n:=by have:=h.1;rw[pQ] at this;omega
set_option maxHeartbeats 400000 in
theorem km (B:Nat)(A:Option Addr)(n cap:Nat)(l:List Nat)(w:World)(hr:Reads w B 1 A n (U l))(hB:B≤w.heap.size)(hd:∀d∈l,d<65536)(hn:n≤1073741824)(hc:n≤cap):
  Calls Tryz.prog 227 #[.slice A n cap] w fun e w'=>e= .returned (.slice A (bm (val l)).length cap)∧w=w':=by
 go_enter Tryz.func227,Tryz.ntmps227
 go_wp2_with fail
 go_loopw [0] (fun u wr=>∃k:Nat,k≤n∧u= .slice A k cap∧val (l.take k)=val l∧w=wr) (fun u _=>match u with| .slice _ k _=>k|_=>0)
 case atStart=>exact⟨n,Nat.le_refl _,rfl,by rw[List.take_of_length_le (by rw[hr.zN];omega)],rfl⟩
 case round=>
  obtain⟨k,hk,rfl,hv,rfl⟩:=hrel;have hlen:=hr.zN;have Hd:=Lib.hid hd;have Hv:=Lib.hid hv;clear hd hv;rcases Nat.eq_zero_or_pos k with h0|h0
  ·subst h0
   have e:=qW l 0 Hd.out (by omega) Hv.out (by omega);have e2:=Lib.hid (congrArg List.length e);clear e
   go_wp2_with fail
   go_ret
   rw[e2.out];exact⟨rfl,rfl⟩
  ·obtain⟨j,rfl⟩:∃j,k=j+1:=⟨k-1,by omega⟩
   obtain⟨ad,d,rfl,hbl,hg,hcell⟩:=hr.zZ (Below.refl B w) (Nat.le_refl _) (show j<n by omega);have Hg:=Lib.hid hg;have ej:((j+1:Nat):Int)-1=(j:Int):=by omega
   clear hg
   by_cases hz:d=0
   ·subst hz
    have Hv2:=Lib.hid ((qw l j Hg.out).symm.trans Hv.out)
    go_wp2_with fail
    go_roundw
    case rel=>exact⟨j,by omega,by go_num,Hv2.out,trivial⟩
    case measure=>simp
   ·have e:=qW l (j+1) Hd.out (by omega) Hv.out (fun i hi=>by obtain rfl:i=j:=by omega
                                                              rw[Hg.out];simpa using hz)
    have e2:=Lib.hid (congrArg List.length e);clear e
    go_wp2_with fail
    go_ret
    rw[e2.out,List.length_take,Nat.min_eq_left (by omega)];exact⟨rfl,rfl⟩
def dB (w:World)(v:Value)(n:Nat):Prop:=∃A c,v= .slice A (bm n).length c∧(bm n).length≤c∧c≤9223372036854775807∧Reads w w.heap.size 1 A (bm n).length (U (bm n))
def AS (base:Nat)(v:Value):Prop:=match v with
 | .slice (some A) _ _=>base≤A.block
 |_=>True
theorem dB.step {w w':World}{v:Value}{n:Nat}(h:dB w v n)(hb:Below w.heap.size w w'):dB w' v n:=by
 obtain⟨A,c,e,h1,h2,h3⟩:=h;exact⟨A,c,e,h1,h2,(h3.below hb).more hb.size⟩
theorem nf (l:List Nat)(i d:Nat)(h:l[i]? =some d):val l=val (l.take i)+65536^i*(d+65536*val (l.drop (i+1))):=by
 obtain⟨hi,rfl⟩:=List.getElem?_eq_some_iff.1 h;have e:=lO (l.take i) (l.drop i);rw[List.take_append_drop,List.length_take,Nat.min_eq_left (by omega)] at e;rw[List.drop_eq_getElem_cons hi,val] at e;exact e
theorem qR (a b:List Nat)(i x y:Nat)(ha:∀d∈a,d<65536)(hx:a[i]? =some x)(hy:b[i]? =some y)(hlt:x<y)(hd:a.drop (i+1)=b.drop (i+1)):val a<val b:=by
 rw[nf a i x hx,nf b i y hy,hd];obtain⟨hi,-⟩:=List.getElem?_eq_some_iff.1 hx;have h1:=m6 (a.take i) (fun d h=>ha d (List.mem_of_mem_take h));rw[List.length_take,Nat.min_eq_left (by omega)] at h1;have h2:65536^i*(x+65536*val (b.drop (i+1))+1)≤65536^i*(y+65536*val (b.drop (i+1))):=Nat.mul_le_mul_left _ (by omega);rw[Nat.mul_add _ _ 1] at h2;omega
theorem qS (a b:Nat)(h:(bm a).length<(bm b).length):a<b:=by
 rcases Nat.lt_or_ge a b with h1|h1
 ·exact h1
 ·exfalso
  have h2:=hO a;have:=gr b _ (Nat.lt_of_le_of_lt h1 h2);omega
theorem zh {α:Type}(a b:List α)(i:Nat)(x:α)(hx:a[i]? =some x)(hy:b[i]? =some x)(h:a.drop (i+1)=b.drop (i+1)):a.drop i=b.drop i:=by
 obtain⟨h1,e1⟩:=List.getElem?_eq_some_iff.1 hx;obtain⟨h2,e2⟩:=List.getElem?_eq_some_iff.1 hy;rw[List.drop_eq_getElem_cons h1,List.drop_eq_getElem_cons h2,e1,e2,h]
def rT (a b:Int):Int:=if a<b then -1 else if a=b then 0 else 1
def mh (a b:Nat):Int:=if a<b then -1 else if a=b then 0 else 1
set_option maxHeartbeats 400000 in
theorem Cc (x y:Value)(a b:Nat)(w:World)(hx:dB w x a)(hy:dB w y b)(ha:(bm a).length≤1073741824)(hb:(bm b).length≤1073741824):
  Calls Tryz.prog 225 #[x,y] w fun e w'=>e= .returned (.int .i64 (mh a b))∧j0 w w':=by
 obtain⟨A,ca,rfl,hca,hca2,hra⟩:=hx;obtain⟨B,cb,rfl,hcb,hcb2,hrb⟩:=hy
 go_enter Tryz.func225,Tryz.ntmps225
 have Hla:=Lib.hid (show(bm a).length=(bm a).length from rfl);rcases Nat.lt_trichotomy (bm a).length (bm b).length with hl|hl|hl
 ·have e:=Lib.hid (show mh a b= -1 by unfold mh;rw[if_pos (qS a b hl)])
  go_wp2_with fail
  go_ret
  rw[e.out];exact⟨rfl,j0.refl _⟩
 ·generalize hm:(bm a).length=m at *
  have hne:((m:Int) != ((bm b).length:Int))=false:=by simp;omega
  rw[←hl] at hrb hb hcb⊢;have Ha:=Lib.hid hm;have Hb:=Lib.hid hl;clear hm hl hne
  go_wp2_with fail
  go_loopw [5] (fun i wr=>∃k:Nat,k≤m∧i= .int .i64 ((k:Int)-1)∧(bm a).drop k=(bm b).drop k∧j0 w wr) (fun i _=>(intOf i+1).toNat)
  case atStart=>exact⟨m,Nat.le_refl _,rfl,by rw[List.drop_of_length_le (by rw[Ha.out];omega),List.drop_of_length_le (by rw[←Hb.out];omega)],j0.refl _⟩
  case round=>
   obtain⟨k,hk,rfl,hd,hdr⟩:=hrel;have Hd:=Lib.hid hd;clear hd;rcases Nat.eq_zero_or_pos k with h0|h0
   ·subst h0
    have hab:a=b:=by have:=congrArg val Hd.out;simpa[dA] using this
    have e:=Lib.hid (show mh a b=0 by unfold mh;rw[if_neg (by omega),if_pos hab])
    go_wp2_with fail
    go_ret
    rw[e.out];exact⟨rfl,hdr⟩
   ·obtain⟨j,rfl⟩:∃j,k=j+1:=⟨k-1,by omega⟩
    obtain⟨ad,p,rfl,hbl,hp,hcp⟩:=hra.zZ (hdr.below w.heap.size) (Nat.le_refl _) (show j<m by omega);obtain⟨bd,q,rfl,hbl2,hq,hcq⟩:=hrb.zZ (hdr.below w.heap.size) (Nat.le_refl _) (show j<m by omega);have ej:((j+1:Nat):Int)-1=(j:Int):=by omega
    rw[ej];have Hp:=Lib.hid hp;have Hq:=Lib.hid hq;clear hp hq;rcases Nat.lt_trichotomy p q with hl|hl|hl
    ·have e:=Lib.hid (show mh a b= -1 by
      have:=qR (bm a) (bm b) j p q (fM a) Hp.out Hq.out hl Hd.out;rw[dA,dA] at this;unfold mh;rw[if_pos this])
     go_wp2_with fail
     go_quiet (fail)
     go_wp2_with fail
     go_ret
     rw[e.out];exact⟨rfl,hdr.drewN _⟩
    ·subst hl
     go_wp2_with fail
     go_quiet (fail)
     go_wp2_with fail
     go_quiet (fail)
     go_wp2_with fail
     go_roundw
     case rel=>exact⟨j,by omega,by go_num,zh _ _ j p Hp.out Hq.out Hd.out,hdr.drewN _⟩
     case measure=>simp[intOf]
    ·have e:=Lib.hid (show mh a b=1 by
      have:=qR (bm b) (bm a) j q p (fM b) Hq.out Hp.out hl Hd.out.symm;rw[dA,dA] at this;unfold mh;rw[if_neg (by omega),if_neg (by omega)])
     go_wp2_with fail
     go_quiet (fail)
     go_wp2_with fail
     go_quiet (fail)
     go_wp2_with fail
     go_ret
     rw[e.out];exact⟨rfl,(hdr.drewN _).drewN _⟩
 ·have e:=Lib.hid (show mh a b=1 by unfold mh;have:=qS b a hl;rw[if_neg (by omega),if_neg (by omega)])
  go_wp2_with fail
  go_ret
  rw[e.out];exact⟨rfl,j0.refl _⟩
theorem CY:(Tryz.prog.info? 94).map (fun i=>(i.zero,i.size,i.bytes))=some (some (.int .u64 0),1,8):=by kernel_rfl
theorem C5 (l:List Nat)(d:Nat)(z:Int)(h:z=d):U l++(#[Value.int .u64 z]:Array Value).toList=U (l++[d]):=by rw[Bx,h];rfl
theorem jd {w:World}{base:Nat}{e:TypeId}{n:Nat}{v:Value}{l:List Nat}{d:Nat}{z:Int}(h:w.ownsRow base e 1 v n (U l++(#[Value.int .u64 z]:Array Value).toList)) (hz:z=d):w.ownsRow base e 1 v n (U (l++[d])):=C5 l d z hz▸h
theorem bA (l:List Nat)(k:Nat):val (l.take (k+1))=val (l.take k)+65536^k*l.getD k 0:=by
 rcases Nat.lt_or_ge k l.length with h|h
 ·rw[List.take_add_one,List.getElem?_eq_getElem h]
  show val (_++[_])=_;rw[gz,List.length_take,Nat.min_eq_left (by omega)];simp[List.getD,List.getElem?_eq_getElem h]
 ·rw[List.take_of_length_le (by omega),List.take_of_length_le (by omega)]
  simp[List.getD,List.getElem?_eq_none h]
theorem jK (l:List Nat)(k d:Nat)(h:l[k]? =some d):l.getD k 0=d:=by simp[List.getD,h]
theorem mA (l:List Nat)(k:Nat)(h:l.length≤k):l.getD k 0=0:=by simp[List.getD,List.getElem?_eq_none h]
theorem mi {w:World}{base:Nat}{e:TypeId}{size n:Nat}{v:Value}{xs:List Value}(h:w.ownsRow base e size v n xs):∃A c,v= .slice A n c∧n≤c∧c≤9223372036854775807∧Reads w w.heap.size size A n xs∧∀k,AS base (.slice A k c):=by
 rcases h.2 with ⟨rfl,rfl⟩|⟨g,cap,cur,rfl,hb,_,hc,hc2,_⟩
 ·exact⟨none,0,rfl,Nat.le_refl _,by omega,Reads.sa h,fun _=>trivial⟩
 ·exact⟨_,cap,rfl,hc,by unfold maxLen at hc2;omega,Reads.sa h,fun _=>hb⟩
theorem gC {w:World}{A:Option Addr}{n c m:Nat}{l:List Nat}(hr:Reads w w.heap.size 1 A n (U l))(hd:∀d∈l,d<65536)(hc:n≤c)(hc2:c≤9223372036854775807)(hv:val l=m):dB w (.slice A (bm (val l)).length c) m:=by
 subst hv;have hlen:=hr.zN;have hle:(bm (val l)).length≤n:=by rw[←hlen];exact gr _ _ (m6 l hd)
 have e:bm (val l)=l.take (bm (val l)).length:=by
  -- the digits of a number are its list's first aY
  have h:∀(l:List Nat),(∀d∈l,d<65536)→bm (val l)=l.take (bm (val l)).length:=by
   intro l
   induction l with
   |nil=>intro _;simp[val,eE]
   |cons d l ih=>
    intro hd;have hd0:=hd d (by simp)
    by_cases h0:val (d::l)=0
    ·rw[h0,eE];rfl
    ·rw[iZ _ h0]
     have e1:val (d::l)%65536=d:=by rw[val];omega
     have e2:val (d::l)/65536=val l:=by rw[val];omega
     rw[e1,e2,List.length_cons,List.take_succ_cons,←ih (fun x hx=>hd x (by simp[hx]))]
  exact h l hd
 refine⟨A,c,rfl,by omega,hc2,?_⟩;refine⟨by rw[pQ];omega,fun hpos=> ?_⟩;obtain⟨ad,hA,hb,hcell⟩:=hr.2 (by omega);refine⟨ad,hA,hb,fun j u hu=>hcell j u ?_⟩;rw[e,←Du] at hu;rw[List.getElem?_take] at hu;split at hu
 ·exact hu
 ·cases hu
theorem lu {l:List Nat}(h:∀d∈l,d<65536)(v:Nat):∀d∈l++[v%65536],d<65536:=by
 intro d hd;rcases List.mem_append.1 hd with hd|hd
 ·exact h d hd
 ·obtain rfl:=List.mem_singleton.1 hd
  omega
theorem lr (P o t s c v x y:Nat)(h:o+P*c=t+s)(hv:v=c+x+y):o+P*(v%65536)+P*65536*(v/65536)=t+P*x+(s+P*y):=by
 have e1:P*(v%65536)+P*65536*(v/65536)=P*v:=by rw[Nat.mul_assoc,←Nat.mul_add,Nat.mod_add_div]
 have e2:P*v=P*c+P*x+P*y:=by rw[hv,Nat.mul_add,Nat.mul_add]
 omega
set_option maxHeartbeats 800000 in
set_option maxRecDepth 100000 in
theorem BJ (x y:Value)(a b:Nat)(w:World)(hx:dB w x a)(hy:dB w y b)(ha:(bm a).length≤1000000)(hb:(bm b).length≤1000000):
  Calls Tryz.prog 224 #[x,y] w fun e w'=>∃v,e= .returned v∧dB w' v (a+b)∧Below w.heap.size w w'∧AS w.heap.size v:=by
 obtain⟨A,ca,rfl,hca,hca2,hra⟩:=hx;obtain⟨B,cb,rfl,hcb,hcb2,hrb⟩:=hy;obtain⟨i0,hi0,hz0,hz1,hz2⟩:=info_parts CY
 generalize hma:(bm a).length=m at *
 generalize hmb:(bm b).length=n at *
 have Hma:=Lib.hid hma;have Hmb:=Lib.hid hmb;clear hma hmb
 go_enter Tryz.func224,Tryz.ntmps224
 go_wp2_with fail
 go_loopw [5,6,7] (fun v c i wr=>∃(k cr:Nat) (l:List Nat),k≤m+n+2∧cr≤1∧(m+n<k→cr=0)∧i= .int .i64 k∧c= .int .u64 cr∧l.length=k∧(∀d∈l,d<65536)∧val l+65536^k*cr=val ((bm a).take k)+val ((bm b).take k)∧
   wr.ownsRow w.heap.size 94 1 v k (U l)∧Below w.heap.size w wr) (fun _ _ i _=>m+n+2-(intOf i).toNat)
 case atStart=>exact⟨0,0,[],by omega,by omega,fun _=>rfl,rfl,rfl,rfl,by simp,by simp[val],World.ownsRow_nil _ _ _ _,Below.refl _ _⟩
 case round=>
  obtain⟨k,cr,l,hk,hcr,hk2,rfl,rfl,hl,hd,hv,hown,hbl⟩:=hrel;have Hl:=Lib.hid hl;have Hd:=Lib.hid hd;have Hv:=Lib.hid hv;have hz:=hbl.size;clear hl hd hv
  by_cases h1:k<m
  ·obtain⟨ad,p,rfl,hbp,hp,hcp⟩:=hra.zZ hbl (Nat.le_refl _) h1
   have Hp:=Lib.hid (jK _ _ _ hp);have hp2:p<65536:=fM a p (List.mem_of_getElem? hp);clear hp
   by_cases h2:k<n
   ·obtain⟨bd,q,rfl,hbq,hq,hcq⟩:=hrb.zZ hbl (Nat.le_refl _) h2
    have Hq:=Lib.hid (jK _ _ _ hq);have hq2:q<65536:=fM b q (List.mem_of_getElem? hq);clear hq
    go_wp2_with (at_builtin;refine dq rfl (.tmp 46) (.tmp 49) _ rfl w.heap.size _ i0 _ 1 8 Tryz.underlying250 hi0 hz0 hz1 hz2 rfl (by decide) wr _ _ _ _ rfl hown _ rfl rfl rfl (by simp[Value.oneCell']) (by simp only[maxLen];omega) (by omega) ?_;intro v' w' hown' hb' hz')
    go_roundw
    case rel=>
     refine⟨k+1,(cr+p+q)/65536,l++[(cr+p+q)%65536],by omega,by omega,fun _=>by omega,by go_num,int_eq (by omega),by rw[List.length_append,Hl.out];rfl,lu Hd.out _,?_,jd hown' (by omega),hb' _ _ (Nat.le_refl _) hbl⟩;rw[gz,bA,bA,Hl.out,Nat.pow_succ,Hp.out,Hq.out];have:=lr (65536^k) _ _ _ _ (cr+p+q) p q Hv.out (by omega);omega
    case measure=>simp[intOf];omega
   ·have Hq:=Lib.hid (mA (bm b) k (by rw[Hmb.out];omega))
    go_wp2_with (at_builtin;refine dq rfl (.tmp 46) (.tmp 49) _ rfl w.heap.size _ i0 _ 1 8 Tryz.underlying250 hi0 hz0 hz1 hz2 rfl (by decide) wr _ _ _ _ rfl hown _ rfl rfl rfl (by simp[Value.oneCell']) (by simp only[maxLen];omega) (by omega) ?_;intro v' w' hown' hb' hz')
    go_roundw
    case rel=>
     refine⟨k+1,(cr+p)/65536,l++[(cr+p)%65536],by omega,by omega,fun _=>by omega,by go_num,int_eq (by omega),by rw[List.length_append,Hl.out];rfl,lu Hd.out _,?_,jd hown' (by omega),hb' _ _ (Nat.le_refl _) hbl⟩;rw[gz,bA,bA,Hl.out,Nat.pow_succ,Hp.out,Hq.out];have:=lr (65536^k) _ _ _ _ (cr+p) p 0 Hv.out (by omega);omega
    case measure=>simp[intOf];omega
  ·have Hp:=Lib.hid (mA (bm a) k (by rw[Hma.out];omega))
   by_cases h2:k<n
   ·obtain⟨bd,q,rfl,hbq,hq,hcq⟩:=hrb.zZ hbl (Nat.le_refl _) h2
    have Hq:=Lib.hid (jK _ _ _ hq);have hq2:q<65536:=fM b q (List.mem_of_getElem? hq);clear hq
    go_wp2_with (at_builtin;refine dq rfl (.tmp 46) (.tmp 49) _ rfl w.heap.size _ i0 _ 1 8 Tryz.underlying250 hi0 hz0 hz1 hz2 rfl (by decide) wr _ _ _ _ rfl hown _ rfl rfl rfl (by simp[Value.oneCell']) (by simp only[maxLen];omega) (by omega) ?_;intro v' w' hown' hb' hz')
    go_roundw
    case rel=>
     refine⟨k+1,(cr+q)/65536,l++[(cr+q)%65536],by omega,by omega,fun _=>by omega,by go_num,int_eq (by omega),by rw[List.length_append,Hl.out];rfl,lu Hd.out _,?_,jd hown' (by omega),hb' _ _ (Nat.le_refl _) hbl⟩;rw[gz,bA,bA,Hl.out,Nat.pow_succ,Hp.out,Hq.out];have:=lr (65536^k) _ _ _ _ (cr+q) 0 q Hv.out (by omega);omega
    case measure=>simp[intOf];omega
   ·have Hq:=Lib.hid (mA (bm b) k (by rw[Hmb.out];omega))
    by_cases h3:0<cr
    ·obtain rfl:cr=1:=by omega
     go_wp2_with (at_builtin;refine dq rfl (.tmp 46) (.tmp 49) _ rfl w.heap.size _ i0 _ 1 8 Tryz.underlying250 hi0 hz0 hz1 hz2 rfl (by decide) wr _ _ _ _ rfl hown _ rfl rfl rfl (by simp[Value.oneCell']) (by simp only[maxLen];omega) (by omega) ?_;intro v' w' hown' hb' hz')
     go_roundw
     case rel=>
      refine⟨k+1,(1)/65536,l++[(1)%65536],by omega,by omega,fun _=>by omega,by go_num,int_eq (by omega),by rw[List.length_append,Hl.out];rfl,lu Hd.out _,?_,jd hown' (by omega),hb' _ _ (Nat.le_refl _) hbl⟩;rw[gz,bA,bA,Hl.out,Nat.pow_succ,Hp.out,Hq.out];have:=lr (65536^k) _ _ _ _ (1) 0 0 Hv.out (by omega);omega
     case measure=>simp[intOf];omega
    ·obtain rfl:cr=0:=by omega
     have hval:=Hv.out;rw[List.take_of_length_le (by rw[Hma.out];omega),List.take_of_length_le (by rw[Hmb.out];omega),dA,dA,Nat.mul_zero,Nat.add_zero] at hval;have Hval:=Lib.hid hval;clear hval;obtain⟨A',c',rfl,hc1,hc2,hrd,hfr⟩:=mi hown
     go_wp2_with fail
     refine(km wr.heap.size A' k c' l _ hrd (Nat.le_refl _) Hd.out (by omega) hc1).mono ?_;rintro e w1 ⟨rfl,rfl⟩
     go_wp2_with fail
     go_ret
     exact⟨_,rfl,gC hrd Hd.out hc1 hc2 Hval.out,hbl,hfr _⟩
theorem rE (P o t s b v x y b':Nat)(h:o+s=t+P*b+0)(hv:v+b+y=65536+x)(hb:b'=1-v/65536)(hv2:v<131072):
  o+P*(v%65536)+(s+P*y+P*b)=t+P*x+P*65536*b'+P*b:=by
 have e0:v%65536+65536*(v/65536)=v:=Nat.mod_add_div v 65536;have e3:v%65536+b+y=x+65536*b':=by omega
 have e4:P*(v%65536)+P*b+P*y=P*x+P*(65536*b'):=by rw[←Nat.mul_add,←Nat.mul_add,←Nat.mul_add,e3]
 rw[←Nat.mul_assoc] at e4;omega
set_option maxHeartbeats 800000 in
set_option maxRecDepth 100000 in
theorem CP (x y:Value)(a b:Nat)(w:World)(hx:dB w x a)(hy:dB w y b)(ha:(bm a).length≤1000000)(hle:b≤a):
  Calls Tryz.prog 226 #[x,y] w fun e w'=>∃v,e= .returned v∧dB w' v (a-b)∧Below w.heap.size w w'∧AS w.heap.size v:=by
 obtain⟨A,ca,rfl,hca,hca2,hra⟩:=hx;obtain⟨B,cb,rfl,hcb,hcb2,hrb⟩:=hy;obtain⟨i0,hi0,hz0,hz1,hz2⟩:=info_parts CY
 have hmn:(bm b).length≤(bm a).length:=by
  have:=hO a;exact gr b _ (by omega)
 generalize hma:(bm a).length=m at *
 generalize hmb:(bm b).length=n at *
 have Hma:=Lib.hid hma;have Hmb:=Lib.hid hmb;clear hma hmb
 go_enter Tryz.func226,Tryz.ntmps226
 go_wp2_with fail
 go_loopw [5,6,7] (fun v c i wr=>∃(k bo:Nat) (l:List Nat),k≤m∧bo≤1∧i= .int .i64 k∧c= .int .u64 bo∧l.length=k∧(∀d∈l,d<65536)∧val l+val ((bm b).take k)=val ((bm a).take k)+65536^k*bo∧
   wr.ownsRow w.heap.size 94 1 v k (U l)∧Below w.heap.size w wr) (fun _ _ i _=>m-(intOf i).toNat)
 case atStart=>exact⟨0,0,[],by omega,by omega,rfl,rfl,rfl,by simp,by simp[val],World.ownsRow_nil _ _ _ _,Below.refl _ _⟩
 case round=>
  obtain⟨k,bo,l,hk,hbo,rfl,rfl,hl,hd,hv,hown,hbl⟩:=hrel;have Hl:=Lib.hid hl;have Hd:=Lib.hid hd;have Hv:=Lib.hid hv;have hz:=hbl.size;clear hl hd hv
  by_cases h1:k<m
  ·obtain⟨ad,p,rfl,hbp,hp,hcp⟩:=hra.zZ hbl (Nat.le_refl _) h1
   have Hp:=Lib.hid (jK _ _ _ hp);have hp2:p<65536:=fM a p (List.mem_of_getElem? hp);clear hp
   by_cases h2:k<n
   ·obtain⟨bd,q,rfl,hbq,hq,hcq⟩:=hrb.zZ hbl (Nat.le_refl _) h2
    have Hq:=Lib.hid (jK _ _ _ hq);have hq2:q<65536:=fM b q (List.mem_of_getElem? hq);clear hq
    go_wp2_with (at_builtin;refine dq rfl (.tmp 32) (.tmp 35) _ rfl w.heap.size _ i0 _ 1 8 Tryz.underlying250 hi0 hz0 hz1 hz2 rfl (by decide) wr _ _ _ _ rfl hown _ rfl rfl rfl (by simp[Value.oneCell']) (by simp only[maxLen];omega) (by omega) ?_;intro v' w' hown' hb' hz')
    go_roundw
    case rel=>
     refine⟨k+1,1-(65536+p-bo-q)/65536,l++[(65536+p-bo-q)%65536],by omega,by omega,by go_num,int_eq (by omega),by rw[List.length_append,Hl.out];rfl,lu Hd.out _,?_,jd hown' (by omega),hb' _ _ (Nat.le_refl _) hbl⟩;rw[gz,bA,bA,Hl.out,Nat.pow_succ,Hp.out,Hq.out];have:=rE (65536^k) _ _ _ _ (65536+p-bo-q) p q _ Hv.out (by omega) rfl (by omega);omega
    case measure=>simp[intOf];omega
   ·have Hq:=Lib.hid (mA (bm b) k (by rw[Hmb.out];omega))
    go_wp2_with (at_builtin;refine dq rfl (.tmp 32) (.tmp 35) _ rfl w.heap.size _ i0 _ 1 8 Tryz.underlying250 hi0 hz0 hz1 hz2 rfl (by decide) wr _ _ _ _ rfl hown _ rfl rfl rfl (by simp[Value.oneCell']) (by simp only[maxLen];omega) (by omega) ?_;intro v' w' hown' hb' hz')
    go_roundw
    case rel=>
     refine⟨k+1,1-(65536+p-bo)/65536,l++[(65536+p-bo)%65536],by omega,by omega,by go_num,int_eq (by omega),by rw[List.length_append,Hl.out];rfl,lu Hd.out _,?_,jd hown' (by omega),hb' _ _ (Nat.le_refl _) hbl⟩;rw[gz,bA,bA,Hl.out,Nat.pow_succ,Hp.out,Hq.out];have:=rE (65536^k) _ _ _ _ (65536+p-bo) p 0 _ Hv.out (by omega) rfl (by omega);omega
    case measure=>simp[intOf];omega
  ·obtain rfl:k=m:=by omega
   have hval:val l=a-b:=by
    have hval:=Hv.out;rw[List.take_of_length_le (show(bm b).length≤k by rw[Hmb.out];omega),List.take_of_length_le (show(bm a).length≤k by rw[Hma.out];omega),dA,dA] at hval;have hlt:=m6 l Hd.out;rw[Hl.out] at hlt;rcases Nat.lt_or_ge 0 bo with h|h
    ·obtain rfl:bo=1:=by omega
     omega
    ·obtain rfl:bo=0:=by omega
     omega
   have Hval:=Lib.hid hval;clear hval;obtain⟨A',c',rfl,hc1,hc2,hrd,hfr⟩:=mi hown
   go_wp2_with fail
   refine(km wr.heap.size A' k c' l _ hrd (Nat.le_refl _) Hd.out (by omega) hc1).mono ?_;rintro e w1 ⟨rfl,rfl⟩
   go_wp2_with fail
   go_ret
   exact⟨_,rfl,gC hrd Hd.out hc1 hc2 Hval.out,hbl,hfr _⟩
def bU (w:World)(v:Value)(z:Int):Prop:=∃m,v= .agg #[.bool (decide (z<0)),m]∧dB w m z.natAbs
theorem bU.step {w w':World}{v:Value}{z:Int}(h:bU w v z)(hb:Below w.heap.size w w'):bU w' v z:=by
 obtain⟨m,e,h⟩:=h;exact⟨m,e,h.step hb⟩
theorem Et (a b c d:Nat):val [a,b,c,d]=a+65536*(b+65536*(c+65536*d)):=by simp[val]
theorem Ct:(Tryz.prog.info? 252).map (fun i=>(i.zero,i.size,i.bytes))=some (some (.agg #[.bool false, .slice none 0 0]),2,32):=by kernel_rfl
theorem Reads.other {w w':World}{B n g:Nat}{A:Option Addr}{l:List Nat}{cs:Array Value}{t:TypeId}{fr:Nat × Nat}(h:Reads w B 1 A n (U l))(hg:w.heap[g]? =some (.cells cs t fr))(hcs:∀(k:IntKind) (z:Int),Value.int k z∉cs.toList)
  (hgr:w.grownBy w' (some g)):Reads w' B 1 A n (U l):=by
 refine⟨h.1,fun hn=> ?_⟩;obtain⟨ad,hA,hb,hc⟩:=h.2 hn;refine⟨ad,hA,hb,fun j u hu=> ?_⟩;have h1:=hc j u hu
 have hne:(ad.add j).block≠g:=by
  intro he;rw[AK] at hu
  cases hl:l[j]? with
  |none=>rw[hl] at hu;cases hu
  |some d=>
   rw[hl] at hu;injection hu with hu
   subst hu;unfold World.cell? at h1;rw[he,hg] at h1;simp only at h1;split at h1
   ·cases h1
   ·exact hcs _ _ (Array.mem_toList_iff.2 (Array.mem_of_getElem? h1))
 have hlt:(ad.add j).block<w.heap.size:=by
  unfold World.cell? at h1;rcases Nat.lt_or_ge (ad.add j).block w.heap.size with h2|h2
  ·exact h2
  ·rw[Array.getElem?_eq_none h2] at h1;cases h1
 rw[←h1];unfold World.cell?;rw[hgr.block _ hlt (by intro e;injection e with e;exact hne e)]
theorem dB.other {w w':World}{n g:Nat}{v:Value}{cs:Array Value}{t:TypeId}{fr:Nat × Nat}(h:dB w v n)(hg:w.heap[g]? =some (.cells cs t fr))(hcs:∀(k:IntKind) (z:Int),Value.int k z∉cs.toList)
  (hgr:w.grownBy w' (some g)):dB w' v n:=by
 obtain⟨A,c,e,h1,h2,h3⟩:=h;exact⟨A,c,e,h1,h2,(h3.other hg hcs hgr).more hgr.size⟩
set_option maxHeartbeats 400000 in
set_option maxRecDepth 100000 in
theorem te (neg:Bool)(m:Value)(n:Nat)(w:World)(hm:dB w m n)(hn:(bm n).length≤1073741824):
  Calls Tryz.prog 223 #[.bool neg,m] w fun e w'=>e= .returned (.agg #[.bool (neg&&decide (0<n)),m])∧Below w.heap.size w w':=by
 obtain⟨A,c,rfl,hc,hc2,hr⟩:=hm;obtain⟨i0,hi0,hz0,hz1,hz2⟩:=info_parts Ct
 have e:decide (0<n)=decide (0<(bm n).length):=by
  have:=iI n
  by_cases h:n=0
  ·simp[h,eE]
  ·have h2:0<(bm n).length:=by rcases Nat.eq_zero_or_pos (bm n).length with h3|h3
                               ·exact absurd (this.1 h3) h
                               ·exact h3
   rw[decide_eq_true h2,decide_eq_true (by omega)]
 rw[e]
 generalize (bm n).length=l at *
 have hrow:(w.alloc (.cells #[.bool false, .slice none 0 0] 252)).heap[w.heap.size]? =some (.cells #[.bool false, .slice none 0 0] 252 (0,0)):=heap_alloc_new w _
 cases neg
 all_goals
  by_cases h:0<l
  all_goals
   go_enter Tryz.func223,Tryz.ntmps223
   go_wp2_with (refine wpList_store_row rfl _ (.tmp 4) (.tmp 12) rfl rfl w.heap.size 0 rfl #[_,_] rfl i0 hi0 hz1 (by simp[Value.oneCell']) _ _ hrow (by simp) ?_;intro w3 hg3 hgr3 hz3)
   refine bodyPost_ret (results_cell_row rfl _ _ w.heap.size 252 #[_,_] (0,0) _ rfl hg3 Tryz.underlying252 rfl (by rw[hi0];simp[hz1])) rfl ?_;refine⟨?_,((Below.refl w.heap.size w).alloc (Nat.le_refl _) _).grown hgr3 (by simp) (fun k hk=>by injection hk with hk;omega)⟩;simp[h]
theorem bQ:cf Tryz.prog 252=some (some (.agg #[.bool false, .slice none 0 0])):=by kernel_rfl
theorem kj:cf Tryz.prog 94=some (some (.int .u64 0)):=by kernel_rfl
theorem Cl {a b:Nat}(h:0≤mh a b):b≤a:=by unfold mh at h;split at h<;>omega
theorem CB {a b:Nat}(h:¬0≤mh a b):a<b:=by
 unfold mh at h;split at h
 ·omega
 ·split at h<;>omega
theorem dB.put {w w':World}{v:Value}{n g:Nat}{T:TypeId}{cur cs:Array Value}{B:Nat}(h:dB w v n)(k:aK w g T cur)(p:lD w w' g T cs)(_e:B≤g)(hcs:∀(k:IntKind) (z:Int),Value.int k z∉cur.toList:=by simp[Value.cells, *]):dB w' v n:=h.other k hcs p.grown
theorem dB.ni {w:World}{v:Value}{n:Nat}(h:dB w v n):∀(k:IntKind) (z:Int),Value.int k z≠v:=by obtain⟨A,c,rfl,_⟩:=h;intro k z e;cases e
theorem dB.one {w:World}{v:Value}{n:Nat}(h:dB w v n):v.oneCell'=true:=by obtain⟨A,c,rfl,_⟩:=h;rfl
theorem xB (x:Value)(a:Int)(w:World)(hx:bU w x a)(ha:(bm a.natAbs).length≤1073741824):
  Calls Tryz.prog 201 #[x] w fun e w'=>∃v,e= .returned v∧bU w' v (-a)∧Below w.heap.size w w':=by
 obtain⟨m,rfl,hm⟩:=hx;have ae:=Below.refl w.heap.size w;have h1:=hm.one;refine Zs 9 Tryz.func201 ?_;refine ao ?_;refine Seq.box rfl rfl rfl rfl rfl ?_;intro g1 w1 n1;have e1:=Nat.le_trans ae.size n1.ge;replace ae:=ae.step n1.below;replace hm:=hm.step n1.below;have k1:=n1.av;refine Zl bQ ?_;intro g2 w2 n2;have e2:=Nat.le_trans ae.size n2.ge;have l2:=Nat.lt_of_lt_of_le k1.lt n2.ge;replace ae:=ae.step n2.below;replace hm:=hm.step n2.below;replace k1:=k1.step n2.below;have k2:=n2.av;refine bD 0 1 2 (aG ?_);refine Zf 0 Tryz.underlying252 ?_;refine Zv (aa.ag rfl rfl Tryz.underlying4 rfl k1 rfl) ?_;refine Zv (aa.not rfl rfl) ?_;refine Zf 1 Tryz.underlying252 ?_;refine Zv (aa.ag rfl rfl Tryz.underlying250 rfl k1 rfl) ?_;refine Zc (Ze Tryz.func223) (te _ _ _ _ hm (by omega)) ?_;rintro e w3 ⟨rfl,hb⟩;refine⟨_,rfl,?_⟩;replace ae:=ae.step hb;replace hm:=hm.step hb;replace k1:=k1.step hb;replace k2:=k2.step hb;refine Zo 2 k2 ?_;intro w3 pw3;replace ae:=ae.put k2 pw3 e2;replace hm:=hm.put k2 pw3 e2;replace k1:=k1.put pw3 (by omega);replace k2:=pw3.av;refine bD 0 1 2 (Zt (Cd.ret ?_));refine ab.cz rfl rfl k2 Tryz.underlying252 rfl (m:=2) (by kernel_rfl) rfl (.inl rfl) ?_;refine⟨_,rfl,⟨m,?_,by rw[Int.natAbs_neg];exact hm⟩,ae⟩;show Value.agg #[_,m]=_
 have e:(!decide (a<0)&&decide (0<a.natAbs))=decide (-a<0):=by
  rw[Bool.eq_iff_iff];simp;omega
 rw[e]
theorem mM (neg:Bool)(m:Value)(n:Nat)(z:Int)(w:World)(hm:dB w m n)(hn:(bm n).length≤1073741824)(hz:z.natAbs=n)(hs:(neg&&decide (0<n))=decide (z<0)):
  Calls Tryz.prog 223 #[.bool neg,m] w fun e w'=>∃v,e= .returned v∧Below w.heap.size w w'∧bU w' v z:=
 (te neg m n w hm hn).mono fun e w' ⟨he,hb⟩=>⟨_,he,hb,m,by rw[hs],by rw[hz];exact hm.step hb⟩
theorem CI (x y:Value)(a b c:Nat)(w:World)(hx:dB w x a)(hy:dB w y b)(hc:c=a+b)(ha:(bm a).length≤1000000)(hb:(bm b).length≤1000000):
  Calls Tryz.prog 224 #[x,y] w fun e w'=>∃v,e= .returned v∧Below w.heap.size w w'∧dB w' v c:=
 (BJ x y a b w hx hy ha hb).mono fun e w' ⟨v,he,hm,hb,_⟩=>⟨v,he,hb,by rw[hc];exact hm⟩
theorem xo (x y:Value)(a b c:Nat)(w:World)(hx:dB w x a)(hy:dB w y b)(hle:b≤a)(hc:c=a-b)(ha:(bm a).length≤1000000):
  Calls Tryz.prog 226 #[x,y] w fun e w'=>∃v,e= .returned v∧Below w.heap.size w w'∧dB w' v c:=
 (CP x y a b w hx hy ha hle).mono fun e w' ⟨v,he,hm,hb,_⟩=>⟨v,he,hb,by rw[hc];exact hm⟩
theorem bU.dz (z:Int):∀v w w',Grow w w'→bU w v z→bU w' v z:=fun _ _ _ hG h=>h.step hG
theorem dB.dz (z:Nat):∀v w w',Grow w w'→dB w v z→dB w' v z:=fun _ _ _ hG h=>h.step hG
def oA:Nat:=65536^60
theorem gQ {n:Nat}(h:n<65536*oA):(bm n).length≤61:=gr n 61 (by unfold oA at h;rw[Nat.pow_succ];omega)
theorem Ck:1606938044258990275541962092341162602522202993782792835301376≤oA:=by unfold oA;decide
theorem Bs (x y:Value)(a b:Int)(w:World)(hx:bU w x a)(hy:bU w y b)(ha:a.natAbs<oA)(hb:b.natAbs<oA):
  Calls Tryz.prog 198 #[x,y] w fun e w'=>∃v,e= .returned v∧bU w' v (a+b)∧Below w.heap.size w w':=by
 obtain⟨m,rfl,hm⟩:=hx;obtain⟨q,rfl,hq⟩:=hy;have hla:=gQ (n:=a.natAbs) (by omega);have hlb:=gQ (n:=b.natAbs) (by omega);have ae:=Below.refl w.heap.size w;refine Zs 40 Tryz.func198 ?_;refine ao ?_;refine Seq.box rfl rfl rfl rfl rfl ?_;intro g2 w1 n2;have e2:=Nat.le_trans ae.size n2.ge;replace ae:=ae.step n2.below;replace hm:=hm.step n2.below;replace hq:=hq.step n2.below;have k2:=n2.av;refine Seq.box rfl rfl rfl rfl rfl ?_;intro g3 w2 n3;have e3:=Nat.le_trans ae.size n3.ge;have l3:=Nat.lt_of_lt_of_le k2.lt n3.ge;replace ae:=ae.step n3.below;replace hm:=hm.step n3.below;replace hq:=hq.step n3.below;replace k2:=k2.step n3.below;have k3:=n3.av;refine Zl bQ ?_;intro g4 w3 n4;have e4:=Nat.le_trans ae.size n4.ge;have l4:=Nat.lt_of_lt_of_le k3.lt n4.ge;replace ae:=ae.step n4.below;replace hm:=hm.step n4.below;replace hq:=hq.step n4.below;replace k2:=k2.step n4.below;replace k3:=k3.step n4.below;have k4:=n4.av;refine aU 0 1 2 3 4 (aJ (ao ?_));refine Zf 0 Tryz.underlying252 ?_;refine Zv (aa.ag rfl rfl Tryz.underlying4 rfl k2 rfl) ?_;refine Zf 0 Tryz.underlying252 ?_;refine Zv (aa.ag rfl rfl Tryz.underlying4 rfl k3 rfl) ?_;refine Zv (aa.Es rfl rfl rfl Tryz.underlying4) ?_;refine bj 0 1 2 3 4 9 (Zt ?_);refine Cd.au rfl (fun hc=> ?_) (fun hc=> ?_)
 ·have hab:(a+b).natAbs=a.natAbs+b.natAbs:=by simp at hc;omega
  have hl:=gQ (n:=(a+b).natAbs) (by omega);refine Cd.seq ?_;refine Cd.draw 8 (by kernel_rfl) [] (.inl rfl) rfl Grow Grow.refl (fun _ _ _=>Grow.trans) ?_;intro w4 hw4 zw4;replace ae:=ae.step hw4;replace hm:=hm.step hw4;replace hq:=hq.step hw4;replace k2:=k2.step hw4;replace k3:=k3.step hw4;replace k4:=k4.step hw4;have zbel:=ae.size;have zlt:=k4.lt;refine Zd (fun w hG=>aa.an 0 rfl rfl Tryz.underlying252 rfl (by kernel_rfl)) ?_;refine Zd (fun w hG=>aa.ag rfl rfl Tryz.underlying4 rfl (k2.step hG) rfl) ?_;refine Zd (fun w hG=>aa.an 1 rfl rfl Tryz.underlying252 rfl (by kernel_rfl)) ?_;refine Zd (fun w hG=>aa.ag rfl rfl Tryz.underlying250 rfl (k2.step hG) rfl) ?_;refine Zd (fun w hG=>aa.an 1 rfl rfl Tryz.underlying252 rfl (by kernel_rfl)) ?_;refine Zd (fun w hG=>aa.ag rfl rfl Tryz.underlying250 rfl (k3.step hG) rfl) ?_;refine Dr.call (Φ:=fun v w=>dB w v (a+b).natAbs) rfl (fun w=>Ze Tryz.func224) rfl (dB.dz _) (fun w hG=>CI _ _ _ _ _ _ (hm.step hG) (hq.step hG) hab (by omega) (by omega)) ?_;refine Dr.tl (j:=6) (Φ:=fun v w=>bU w v (a+b)) rfl rfl rfl (fun u w=>Ze Tryz.func223) rfl (bU.dz _) (fun u w hG hu=>mM _ u _ (a+b) _ hu (by omega) rfl (by simp at hc;rw[Bool.eq_iff_iff];simp;omega)) ?_;refine Dr.nil ?_;refine ba.open (j:=7) rfl ?_;intro u7;refine ba.done (F':=[(0,_),(1,_),(2,_),(3,_),(4,_),(9,_),(17,_)]) rfl ⟨rfl,rfl,rfl,rfl,rfl,rfl,rfl,trivial⟩ ?_;intro w5 hw5 fw5;replace ae:=ae.step hw5;replace hm:=hm.step hw5;replace hq:=hq.step hw5;replace k2:=k2.step hw5;replace k3:=k3.step hw5;replace k4:=k4.step hw5;obtain⟨m2,rfl,hm2⟩:=fw5.2;have hm2o:=hm2.one;refine Zo 2 k4 ?_;intro w6 pw6;replace ae:=ae.put k4 pw6 e4;replace hm:=hm.put k4 pw6 e4;replace hq:=hq.put k4 pw6 e4;replace k2:=k2.put pw6 (by omega);replace k3:=k3.put pw6 (by omega);replace hm2:=hm2.put k4 pw6 e4;replace k4:=pw6.av;refine bj 0 1 2 3 4 9 (Zt (Cd.ret (ab.af ?_)));refine ab.cz rfl rfl k4 Tryz.underlying252 rfl (m:=2) (by kernel_rfl) rfl (.inl rfl) ?_;exact⟨_,rfl,⟨m2,rfl,hm2⟩,ae⟩
 ·skip
  refine Cd.skip (aJ (ao ?_));refine Zf 1 Tryz.underlying252 ?_;refine Zv (aa.ag rfl rfl Tryz.underlying250 rfl k2 rfl) ?_;refine Zf 1 Tryz.underlying252 ?_;refine Zv (aa.ag rfl rfl Tryz.underlying250 rfl k3 rfl) ?_;refine Zc (Ze Tryz.func225) (Cc _ _ _ _ _ hm hq (by omega) (by omega)) ?_;rintro e w7 ⟨rfl,hdr⟩;have hb7:=hdr.below w3.heap.size;replace ae:=ae.step hb7;replace hm:=hm.step hb7;replace hq:=hq.step hb7;replace k2:=k2.step hb7;replace k3:=k3.step hb7;replace k4:=k4.step hb7;refine⟨_,rfl,?_⟩;refine Zv (aa.geq rfl rfl rfl) ?_;refine bb 0 1 2 3 4 9 23 (Zt ?_);refine Cd.au rfl (fun hc2=> ?_) (fun hc2=> ?_)
  ·have hle:b.natAbs≤a.natAbs:=Cl hc2
   have hab:(a+b).natAbs=a.natAbs-b.natAbs:=by simp at hc;omega
   have hl:=gQ (n:=(a+b).natAbs) (by omega);refine Cd.seq ?_;refine Cd.draw 8 (by kernel_rfl) [] (.inl rfl) rfl Grow Grow.refl (fun _ _ _=>Grow.trans) ?_;intro w4 hw4 zw4;replace ae:=ae.step hw4;replace hm:=hm.step hw4;replace hq:=hq.step hw4;replace k2:=k2.step hw4;replace k3:=k3.step hw4;replace k4:=k4.step hw4;have zbel:=ae.size;have zlt:=k4.lt;refine Zd (fun w hG=>aa.an 0 rfl rfl Tryz.underlying252 rfl (by kernel_rfl)) ?_;refine Zd (fun w hG=>aa.ag rfl rfl Tryz.underlying4 rfl (k2.step hG) rfl) ?_;refine Zd (fun w hG=>aa.an 1 rfl rfl Tryz.underlying252 rfl (by kernel_rfl)) ?_;refine Zd (fun w hG=>aa.ag rfl rfl Tryz.underlying250 rfl (k2.step hG) rfl) ?_;refine Zd (fun w hG=>aa.an 1 rfl rfl Tryz.underlying252 rfl (by kernel_rfl)) ?_;refine Zd (fun w hG=>aa.ag rfl rfl Tryz.underlying250 rfl (k3.step hG) rfl) ?_;refine Dr.call (Φ:=fun v w=>dB w v (a+b).natAbs) rfl (fun w=>Ze Tryz.func226) rfl (dB.dz _) (fun w hG=>xo _ _ _ _ _ _ (hm.step hG) (hq.step hG) hle hab (by omega)) ?_;refine Dr.tl (j:=6) (Φ:=fun v w=>bU w v (a+b)) rfl rfl rfl (fun u w=>Ze Tryz.func223) rfl (bU.dz _) (fun u w hG hu=>mM _ u _ (a+b) _ hu (by omega) rfl (by simp at hc;rw[Bool.eq_iff_iff];simp;omega)) ?_;refine Dr.nil ?_;refine ba.open (j:=7) rfl ?_;intro u7;refine ba.done (F':=[(0,_),(1,_),(2,_),(3,_),(4,_),(9,_),(23,_),(31,_)]) rfl ⟨rfl,rfl,rfl,rfl,rfl,rfl,rfl,rfl,trivial⟩ ?_;intro w5 hw5 fw5;replace ae:=ae.step hw5;replace hm:=hm.step hw5;replace hq:=hq.step hw5;replace k2:=k2.step hw5;replace k3:=k3.step hw5;replace k4:=k4.step hw5;obtain⟨m2,rfl,hm2⟩:=(by assumption:True∧bU _ _ _).2;have hm2o:=hm2.one;refine Zo 2 k4 ?_;intro w6 pw6;replace ae:=ae.put k4 pw6 e4;replace hm:=hm.put k4 pw6 e4;replace hq:=hq.put k4 pw6 e4;replace k2:=k2.put pw6 (by omega);replace k3:=k3.put pw6 (by omega);replace hm2:=hm2.put k4 pw6 e4;replace k4:=pw6.av;refine bb 0 1 2 3 4 9 23 (Zt (Cd.ret (ab.af ?_)));refine ab.cz rfl rfl k4 Tryz.underlying252 rfl (m:=2) (by kernel_rfl) rfl (.inl rfl) ?_;exact⟨_,rfl,⟨m2,rfl,hm2⟩,ae⟩
  ·have hle:a.natAbs≤b.natAbs:=Nat.le_of_lt (CB hc2)
   have hab:(a+b).natAbs=b.natAbs-a.natAbs:=by simp at hc;omega
   have hl:=gQ (n:=(a+b).natAbs) (by omega);refine Cd.skip (aJ ?_);refine Cd.draw 8 (by kernel_rfl) [] (.inl rfl) rfl Grow Grow.refl (fun _ _ _=>Grow.trans) ?_;intro w4 hw4 zw4;replace ae:=ae.step hw4;replace hm:=hm.step hw4;replace hq:=hq.step hw4;replace k2:=k2.step hw4;replace k3:=k3.step hw4;replace k4:=k4.step hw4;have zbel:=ae.size;have zlt:=k4.lt;refine Zd (fun w hG=>aa.an 0 rfl rfl Tryz.underlying252 rfl (by kernel_rfl)) ?_;refine Zd (fun w hG=>aa.ag rfl rfl Tryz.underlying4 rfl (k3.step hG) rfl) ?_;refine Zd (fun w hG=>aa.an 1 rfl rfl Tryz.underlying252 rfl (by kernel_rfl)) ?_;refine Zd (fun w hG=>aa.ag rfl rfl Tryz.underlying250 rfl (k3.step hG) rfl) ?_;refine Zd (fun w hG=>aa.an 1 rfl rfl Tryz.underlying252 rfl (by kernel_rfl)) ?_;refine Zd (fun w hG=>aa.ag rfl rfl Tryz.underlying250 rfl (k2.step hG) rfl) ?_;refine Dr.call (Φ:=fun v w=>dB w v (a+b).natAbs) rfl (fun w=>Ze Tryz.func226) rfl (dB.dz _) (fun w hG=>xo _ _ _ _ _ _ (hq.step hG) (hm.step hG) hle hab (by omega)) ?_;refine Dr.tl (j:=6) (Φ:=fun v w=>bU w v (a+b)) rfl rfl rfl (fun u w=>Ze Tryz.func223) rfl (bU.dz _) (fun u w hG hu=>mM _ u _ (a+b) _ hu (by omega) rfl (by simp at hc;rw[Bool.eq_iff_iff];simp;omega)) ?_;refine Dr.nil ?_;refine ba.open (j:=7) rfl ?_;intro u7;refine ba.done (F':=[(0,_),(1,_),(2,_),(3,_),(4,_),(9,_),(23,_),(39,_)]) rfl ⟨rfl,rfl,rfl,rfl,rfl,rfl,rfl,rfl,trivial⟩ ?_;intro w5 hw5 fw5;replace ae:=ae.step hw5;replace hm:=hm.step hw5;replace hq:=hq.step hw5;replace k2:=k2.step hw5;replace k3:=k3.step hw5;replace k4:=k4.step hw5;obtain⟨m2,rfl,hm2⟩:=(by assumption:True∧bU _ _ _).2;have hm2o:=hm2.one;refine Zo 2 k4 ?_;intro w6 pw6;replace ae:=ae.put k4 pw6 e4;replace hm:=hm.put k4 pw6 e4;replace hq:=hq.put k4 pw6 e4;replace k2:=k2.put pw6 (by omega);replace k3:=k3.put pw6 (by omega);replace hm2:=hm2.put k4 pw6 e4;replace k4:=pw6.av;refine bb 0 1 2 3 4 9 23 (Zt (Cd.ret ?_));refine ab.cz rfl rfl k4 Tryz.underlying252 rfl (m:=2) (by kernel_rfl) rfl (.inl rfl) ?_;exact⟨_,rfl,⟨m2,rfl,hm2⟩,ae⟩
theorem Dp (n:Nat)(h:n<18446744073709551616):val [n%65536,n/65536%65536,n/4294967296%65536,n/281474976710656]=n:=by
 rw[Et];omega
theorem rH (w:World)(g n:Nat)(x0 x1 x2 x3:Int)(t:TypeId)(cs:Array Value)(hcs:cs= #[.int .u64 x0, .int .u64 x1, .int .u64 x2, .int .u64 x3]) (hg:aK w g t cs)
  (e0:x0=((n%65536:Nat):Int)) (e1:x1=((n/65536%65536:Nat):Int)) (e2:x2=((n/4294967296%65536:Nat):Int)) (e3:x3=((n/281474976710656:Nat):Int)):
  Reads w w.heap.size 1 (some ⟨g,0,none⟩) 4 (U [n%65536,n/65536%65536,n/4294967296%65536,n/281474976710656]):=by
 subst hcs e0 e1 e2 e3;refine⟨rfl,fun _=>⟨_,rfl,hg.lt,fun j u hu=> ?_⟩⟩;have hadd:(⟨g,0,none⟩:Addr).add j=⟨g,j,none⟩:=by unfold Addr.add;split<;>simp_all
 rw[hadd,hg.cell j]
 simpa[U] using hu
theorem lN (b:Bool)(m:Value)(h:m.oneCell'=true)(w:World):(Instr.build 252 #[(0, .bool b),(1,m)]).run Tryz.prog w= .ok (.agg #[.bool b,m]) w:=by
 have hu:=Tryz.underlying252
 cases m<;>first|(cases h;done)|go_simp
theorem C9 (a:Int)(w:World)(h0: -9223372036854775808≤a)(h1:a≤9223372036854775807):
  Calls Tryz.prog 200 #[.int .i64 a] w fun e w'=>∃v,e= .returned v∧bU w' v a∧Below w.heap.size w w':=by
 have hv:=Dp a.natAbs (by omega)
 have hd:∀d∈ [a.natAbs%65536,a.natAbs/65536%65536,a.natAbs/4294967296%65536,a.natAbs/281474976710656],d<65536:=by
  intro d hd;simp only[List.mem_cons,List.not_mem_nil,or_false] at hd;omega
 have ae:=Below.refl w.heap.size w;refine Zs 25 Tryz.func200 ?_;refine ao ?_;refine Zl bQ ?_;intro g2 w1 n2;have e2:=Nat.le_trans ae.size n2.ge;replace ae:=ae.step n2.below;have k2:=n2.av;refine eh 0 2 (aG ?_);refine Zm ?_;refine Zv (aa.fb rfl rfl Tryz.underlying2 Tryz.underlying94 (wrap_u64 a)) ?_;refine Za ?_;refine bD 0 2 3 (aJ (ao ?_));refine Zm ?_;refine Zv (aa.lss rfl rfl rfl) ?_;refine aV 0 2 3 7 (Zt ?_);refine Cd.au rfl (fun hc=> ?_) (fun hc=> ?_)
 ·skip
  refine Zr ?_;refine Zm ?_;refine Zv (aa.neg rfl rfl (r:=(a.natAbs:Int)) (by rw[wrap_u64];omega)) ?_;refine Za ?_;refine aV 0 2 3 7 (aG ?_);refine Zm ?_;refine Zv (aa.lss rfl rfl rfl) ?_;refine Zm ?_;refine Zv (aa.iK rfl rfl rfl (by omega) (by omega)) ?_;refine Zm ?_;refine Zv (aa.tV rfl rfl rfl (by omega) (by omega) (by omega)) ?_;refine Zv (aa.iK rfl rfl rfl (by omega) (by omega)) ?_;refine Zm ?_;refine Zv (aa.tV rfl rfl rfl (by omega) (by omega) (by omega)) ?_;refine Zv (aa.iK rfl rfl rfl (by omega) (by omega)) ?_;refine Zm ?_;refine Zv (aa.tV rfl rfl rfl (by omega) (by omega) (by omega)) ?_;refine Seq.slice (vs:=[_,_,_,_]) (s:=1) rfl rfl rfl Tryz.underlying250 (by kernel_rfl) (kj) (by omega) (by omega) ⟨rfl,rfl,rfl,rfl,trivial⟩ rfl rfl rfl ?_;intro g22 w2 n22;have e22:=Nat.le_trans ae.size n22.ge;have l22:=Nat.lt_of_lt_of_le k2.lt n22.ge;replace ae:=ae.step n22.below;replace k2:=k2.step n22.below;have k22:=n22.av;have hr:=rH _ g22 a.natAbs _ _ _ _ _ _ rfl k22 (by omega) (by omega) (by omega) (by omega);refine Zc (Ze Tryz.func227) (km _ _ 4 4 _ _ hr (Nat.le_refl _) hd (by omega) (by omega)) ?_;rintro e w7 ⟨rfl,rfl⟩;have hm:=gC hr hd (Nat.le_refl 4) (by omega) hv;have hm1:=hm.one;refine⟨_,rfl,?_⟩;rw[hv] at hm hm1⊢;refine Zv (aa.build rfl rfl (lN _ _ hm1 _)) ?_;refine Zo 2 k2 ?_;intro w3 pw3;replace ae:=ae.put k2 pw3 e2;replace k22:=k22.put pw3 (by omega);replace hm:=hm.put k2 pw3 e2;replace k2:=pw3.av;refine aV 0 2 3 7 (Zt (Cd.ret ?_));refine ab.cz rfl rfl k2 Tryz.underlying252 rfl (m:=2) (by kernel_rfl) rfl (.inl rfl) ?_;exact⟨_,rfl,⟨_,rfl,hm⟩,ae⟩
 ·skip
  refine Cd.skip (aG ?_);refine Zm ?_;refine Zv (aa.lss rfl rfl rfl) ?_;refine Zm ?_;refine Zv (aa.iK rfl rfl rfl (by omega) (by omega)) ?_;refine Zm ?_;refine Zv (aa.tV rfl rfl rfl (by omega) (by omega) (by omega)) ?_;refine Zv (aa.iK rfl rfl rfl (by omega) (by omega)) ?_;refine Zm ?_;refine Zv (aa.tV rfl rfl rfl (by omega) (by omega) (by omega)) ?_;refine Zv (aa.iK rfl rfl rfl (by omega) (by omega)) ?_;refine Zm ?_;refine Zv (aa.tV rfl rfl rfl (by omega) (by omega) (by omega)) ?_;refine Seq.slice (vs:=[_,_,_,_]) (s:=1) rfl rfl rfl Tryz.underlying250 (by kernel_rfl) (kj) (by omega) (by omega) ⟨rfl,rfl,rfl,rfl,trivial⟩ rfl rfl rfl ?_;intro g22 w2 n22;have e22:=Nat.le_trans ae.size n22.ge;have l22:=Nat.lt_of_lt_of_le k2.lt n22.ge;replace ae:=ae.step n22.below;replace k2:=k2.step n22.below;have k22:=n22.av;have hr:=rH _ g22 a.natAbs _ _ _ _ _ _ rfl k22 (by omega) (by omega) (by omega) (by omega);refine Zc (Ze Tryz.func227) (km _ _ 4 4 _ _ hr (Nat.le_refl _) hd (by omega) (by omega)) ?_;rintro e w7 ⟨rfl,rfl⟩;have hm:=gC hr hd (Nat.le_refl 4) (by omega) hv;have hm1:=hm.one;refine⟨_,rfl,?_⟩;rw[hv] at hm hm1⊢;refine Zv (aa.build rfl rfl (lN _ _ hm1 _)) ?_;refine Zo 2 k2 ?_;intro w3 pw3;replace ae:=ae.put k2 pw3 e2;replace k22:=k22.put pw3 (by omega);replace hm:=hm.put k2 pw3 e2;replace k2:=pw3.av;refine aV 0 2 3 7 (Zt (Cd.ret ?_));refine ab.cz rfl rfl k2 Tryz.underlying252 rfl (m:=2) (by kernel_rfl) rfl (.inl rfl) ?_;exact⟨_,rfl,⟨_,rfl,hm⟩,ae⟩
theorem sE {a b:Int}:(0<rT a b)↔b<a:=by
 unfold rT;split
 ·constructor<;>intro h<;>omega
 ·split<;>constructor<;>intro h<;>omega
theorem wZ {a b:Int}:(rT a b<0)↔a<b:=by
 unfold rT;split
 ·constructor<;>intro h<;>omega
 ·split<;>constructor<;>intro h<;>omega
theorem ia {n:Nat}(h:n<1606938044258990275541962092341162602522202993782792835301376):n<oA:=Nat.lt_of_lt_of_le h Ck
theorem bU.agg {w:World}{v:Value}{z:Int}(h:bU w v z):∃m,v= .agg #[.bool (decide (z<0)),m]∧m.oneCell'=true∧dB w m z.natAbs:=by
 obtain⟨m,e,hm⟩:=h;exact⟨m,e,hm.one,hm⟩
theorem bU.put {w w':World}{v:Value}{z:Int}{g B:Nat}{T:TypeId}{cur cs:Array Value}(h:bU w v z)(k:aK w g T cur)(p:lD w w' g T cs)(e:B≤g)(hcs:∀(k:IntKind) (z:Int),Value.int k z∉cur.toList:=by simp[Value.cells, *]):bU w' v z:=by
 obtain⟨m,e1,hm⟩:=h;exact⟨m,e1,hm.put k p e hcs⟩
theorem rF (x:Value)(a:Int)(w:World)(hx:bU w x a)(ha:a.natAbs<oA):
  Calls Tryz.prog 201 #[x] w fun e w'=>∃v,e= .returned v∧Below w.heap.size w w'∧bU w' v (-a):=
 (xB x a w hx (by have:=gQ (n:=a.natAbs) (by omega);omega)).mono fun e w' ⟨v,he,h1,h2⟩=>⟨v,he,h2,h1⟩
theorem ud (x y:Value)(a b:Int)(w:World)(hx:bU w x a)(hy:bU w y b)(ha:a.natAbs<oA)(hb:b.natAbs<oA):
  Calls Tryz.prog 198 #[x,y] w fun e w'=>∃v,e= .returned v∧Below w.heap.size w w'∧bU w' v (a+b):=
 (Bs x y a b w hx hy ha hb).mono fun e w' ⟨v,he,h1,h2⟩=>⟨v,he,h2,h1⟩
theorem lV (a:Int)(w:World)(h0: -9223372036854775808≤a)(h1:a≤9223372036854775807):
  Calls Tryz.prog 200 #[.int .i64 a] w fun e w'=>∃v,e= .returned v∧Below w.heap.size w w'∧bU w' v a:=
 (C9 a w h0 h1).mono fun e w' ⟨v,he,h1,h2⟩=>⟨v,he,h2,h1⟩
theorem Bp (x y:Value)(a b:Int)(w:World)(hx:bU w x a)(hy:bU w y b)(ha:a.natAbs<oA)(hb:b.natAbs<oA):
  Calls Tryz.prog 228 #[x,y] w fun e w'=>e= .returned (.int .i64 (rT a b))∧Below w.heap.size w w':=by
 have hx0:=hx;have hy0:=hy;obtain⟨m,rfl,-,-⟩:=hx.agg;obtain⟨q,rfl,-,-⟩:=hy.agg;have ae:=Below.refl w.heap.size w;refine Zs 16 Tryz.func228 ?_;refine ao ?_;refine Seq.box rfl rfl rfl rfl rfl ?_;intro g2 w1 n2;have e2:=Nat.le_trans ae.size n2.ge;replace ae:=ae.step n2.below;replace hx:=hx.step n2.below;replace hy:=hy.step n2.below;have k2:=n2.av;refine Seq.box rfl rfl rfl rfl rfl ?_;intro g3 w2 n3;have e3:=Nat.le_trans ae.size n3.ge;have l3:=Nat.lt_of_lt_of_le k2.lt n3.ge;replace ae:=ae.step n3.below;replace hx:=hx.step n3.below;replace hy:=hy.step n3.below;replace k2:=k2.step n3.below;have k3:=n3.av;refine Za ?_;refine aU 0 1 2 3 4 (aJ ?_);refine Cd.draw 5 (by kernel_rfl) [] (.inl rfl) rfl Grow Grow.refl (fun _ _ _=>Grow.trans) ?_;intro w3 hw3 zw3;replace ae:=ae.step hw3;replace hx:=hx.step hw3;replace hy:=hy.step hw3;replace k2:=k2.step hw3;replace k3:=k3.step hw3;have zbel:=ae.size;have zlt:=k3.lt;refine Zd (fun w hG=>aa.aQ rfl rfl Tryz.underlying252 rfl (k2.step hG) (m:=2) (by kernel_rfl) rfl) ?_;refine Zd (fun w hG=>aa.aQ rfl rfl Tryz.underlying252 rfl (k3.step hG) (m:=2) (by kernel_rfl) rfl) ?_;refine Dr.call (Φ:=fun v w=>bU w v (-b)) rfl (fun w=>Ze Tryz.func201) rfl (bU.dz _) (fun w hG=>rF _ _ _ (hy.step hG) hb) ?_;refine Dr.tl (j:=2) (Φ:=fun v w=>bU w v (a+ -b)) rfl rfl rfl (fun u w=>Ze Tryz.func198) rfl (bU.dz _) (fun u w hG hu=>ud _ u a (-b) _ (hx.step hG) hu ha (by omega)) ?_;refine Dr.alloc rfl rfl (pE bQ) rfl ?_;refine Dr.nil ?_;refine ba.open (j:=3) rfl ?_;intro u3;refine ba.open (j:=4) rfl ?_;intro u4;refine ba.done (F':=[(0,_),(1,_),(2,_),(3,_),(4,_),(5,_),(9,_)]) rfl ⟨rfl,rfl,rfl,rfl,rfl,rfl,rfl,trivial⟩ ?_;intro w4 hw4 fw4;replace ae:=ae.step hw4;replace hx:=hx.step hw4;replace hy:=hy.step hw4;replace k2:=k2.step hw4;replace k3:=k3.step hw4;obtain⟨⟨-,h9⟩,g5,rfl,k5,e5⟩:=fw4;obtain⟨m9,rfl,o9,h9⟩:=h9.agg;obtain⟨A9,c9,rfl,b9,c9',r9⟩:=id h9;have l5:=Nat.lt_of_lt_of_le zlt e5;replace e5:=Nat.le_trans zbel e5;refine Zo 2 k5 ?_;intro w5 pw5;replace ae:=ae.put k5 pw5 e5;replace hx:=hx.put k5 pw5 e5;replace hy:=hy.put k5 pw5 e5;replace k2:=k2.put pw5 (by omega);replace k3:=k3.put pw5 (by omega);replace h9:=h9.put k5 pw5 e5;replace k5:=pw5.av;refine bj 0 1 2 3 4 5 (aJ (ao ?_));refine Zf 1 Tryz.underlying252 ?_;refine Zv (aa.ag rfl rfl Tryz.underlying250 rfl k5 rfl) ?_;refine Zv (aa.len rfl rfl Tryz.underlying250) ?_;refine Zv (aa.aB rfl rfl rfl) ?_;refine bb 0 1 2 3 4 5 13 (Zt ?_);refine Cd.au rfl (fun hc=> ?_) (fun hc=> ?_)
 ·skip
  refine ao ?_;refine Za ?_;refine bb 0 1 2 3 4 5 13 (Zt (Cd.ret (ab.af ?_)));refine ab.aE rfl rfl (.inl rfl) ?_;refine⟨bw (int_eq ?_),ae⟩;have h0:=(iI (a+ -b).natAbs).1 (by omega);unfold rT;rw[if_neg (by omega),if_pos (by omega)]
 ·skip
  refine Cd.skip (aJ (ao ?_));refine Zf 0 Tryz.underlying252 ?_;refine Zv (aa.ag rfl rfl Tryz.underlying4 rfl k5 rfl) ?_;refine cI 0 1 2 3 4 5 13 15 (Zt ?_);refine Cd.au rfl (fun hc=> ?_) (fun hc=> ?_)
  ·skip
   refine ao ?_;refine Za ?_;refine cI 0 1 2 3 4 5 13 15 (Zt (Cd.ret (ab.af ?_)));refine ab.aE rfl rfl (.inl rfl) ?_;refine⟨bw (int_eq ?_),ae⟩;unfold rT;rw[if_pos (by omega)]
  ·have h0:=mt (iI (a+ -b).natAbs).2 (by omega)
   refine Cd.skip (aG ?_);refine Za ?_;refine cI 0 1 2 3 4 5 13 15 (Zt (Cd.ret ?_));refine ab.aE rfl rfl (.inl rfl) ?_;refine⟨bw (int_eq ?_),ae⟩;unfold rT;rw[if_neg (by omega),if_neg (by omega)]
theorem je (x y:Value)(a b:Int)(w:World)(hx:bU w x a)(hy:bU w y b)(ha:a.natAbs<oA)(hb:b.natAbs<oA):
  Calls Tryz.prog 228 #[x,y] w fun e w'=>e= .returned (.int .i64 (rT a b))∧Grow w w':=Bp x y a b w hx hy ha hb
theorem Cw {l:List Nat}{j d:Nat}(h:l[j]? =some d):(U l).toArray[j]? =some (.int .u64 (d:Int)):=by simp[U,h]
theorem C0 (l:List Nat)(j d:Nat):(U l).toArray.setIfInBounds j (.int .u64 (d:Int))=(U (l.set j d)).toArray:=by
 apply Array.ext';simp[U,List.map_set]
theorem Dq (n:Nat):(List.replicate n (Value.int .u64 0)).toArray=(U (List.replicate n 0)).toArray:=by simp[U]
theorem wL (l:List Nat):∀(j d x:Nat),l[j]? =some x→val (l.set j d)+65536^j*x=val l+65536^j*d:=by
 induction l with
 |nil=>intro j d x h;simp at h
 |cons a l ih=>
  intro j d x h
  cases j with
  |zero=>
   obtain rfl:a=x:=by simpa using h
   simp[val];omega
  |succ j=>
   have:=ih j d x (by simpa using h);rw[List.set_cons_succ,val,val,Nat.pow_succ,Nat.mul_right_comm,Nat.mul_right_comm _ _ d];omega
theorem Aw {l:List Nat}(h:∀d∈l,d<65536)(j v:Nat)(hv:v<65536):∀d∈l.set j v,d<65536:=by
 intro d hd;rcases List.mem_or_eq_of_mem_set hd with h1|rfl
 ·exact h d h1
 ·exact hv
theorem val_zero (n:Nat):val (List.replicate n 0)=0:=by
 induction n with
 |zero=>rfl
 |succ n ih=>rw[List.replicate_succ,val,ih]
theorem s7 (l:List Nat)(j x:Nat)(h:val l<65536^j)(hx:l[j]? =some x):x=0:=by
 have e:=nf l j x hx;rcases Nat.eq_zero_or_pos x with h0|h0
 ·exact h0
 ·exfalso
  have h1:65536^j*1≤65536^j*(x+65536*val (l.drop (j+1))):=Nat.mul_le_mul_left _ (by omega);omega
theorem vR {l:List Nat}(h:∀d∈l,d<65536){j d:Nat}(hj:l[j]? =some d):d<65536:=h d (List.mem_of_getElem? hj)
theorem wb (P vl vl' x c v ai bk S:Nat)(h:vl'+P*c=S)(hv:v=x+ai*bk+c)(h2:vl+P*x=vl'+P*(v%65536)):vl+P*65536*(v/65536)=S+P*(ai*bk):=by
 have e0:v%65536+65536*(v/65536)=v:=Nat.mod_add_div v 65536;have e1:P*v=P*(v%65536)+P*65536*(v/65536):=by rw[Nat.mul_assoc,←Nat.mul_add,e0]
 have e2:P*v=P*x+P*(ai*bk)+P*c:=by rw[hv,Nat.mul_add,Nat.mul_add]
 omega
theorem wB (k:Nat)(A:Option Addr)(n cap:Nat)(l:List Nat)(w:World)(hr:Reads w w.heap.size 1 A n (U l))(hd:∀d∈l,d<65536)(hn:n≤1073741824)(hc:n≤cap)(hk:(bm (val l)).length=k):
  Calls Tryz.prog 227 #[.slice A n cap] w fun e w'=>e= .returned (.slice A k cap)∧Grow w w':=
 (km _ A n cap l w hr (Nat.le_refl _) hd hn hc).mono fun e w' ⟨h1,h2⟩=>⟨by rw[h1,hk],by rw[←h2];exact Grow.refl _⟩
theorem sign_mul (a b:Int):(decide (decide (a<0)≠decide (b<0))&&decide (0<(a*b).natAbs))=decide (a*b<0):=by
 rcases Int.lt_trichotomy a 0 with h1|h1|h1<;>rcases Int.lt_trichotomy b 0 with h2|h2|h2
 ·have:=Int.mul_pos_of_neg_of_neg h1 h2
  simp[h1,h2];omega
 ·subst h2;simp
 ·have:=Int.mul_neg_of_neg_of_pos h1 h2
  have h3:¬b<0:=by omega
  simp[h1,h3,this];omega
 ·subst h1;simp
 ·subst h1;simp
 ·subst h1;simp
 ·have:=Int.mul_neg_of_pos_of_neg h1 h2
  have h3:¬a<0:=by omega
  simp[h2,h3,this];omega
 ·subst h2;simp
 ·have:=Int.mul_pos h1 h2
  have h3:¬a<0:=by omega
  have h4:¬b<0:=by omega
  simp[h3,h4];omega
theorem yA (x y:Value)(a b:Int)(w:World)(hx:bU w x a)(hy:bU w y b)(ha:a.natAbs<oA)(hb:b.natAbs<oA):
  Calls Tryz.prog 199 #[x,y] w fun e w'=>∃v,e= .returned v∧Below w.heap.size w w'∧bU w' v (a*b):=by
 obtain⟨m,rfl,om,hm⟩:=hx.agg;obtain⟨q,rfl,oq,hq⟩:=hy.agg;have hla:=gQ (n:=a.natAbs) (by omega);have hlb:=gQ (n:=b.natAbs) (by omega);obtain⟨A,ca,rfl,hca,hca2,hra⟩:=hm;obtain⟨B,cb,rfl,hcb,hcb2,hrb⟩:=hq
 generalize hma:(bm a.natAbs).length=la at *
 generalize hmb:(bm b.natAbs).length=lb at *
 have ae:=Below.refl w.heap.size w;refine Zs 87 Tryz.func199 ?_;refine ao ?_;refine Seq.box rfl rfl rfl rfl rfl ?_;intro g2 w1 n2;have e2:=Nat.le_trans ae.size n2.ge;replace ae:=ae.step n2.below;have k2:=n2.av;refine Seq.box rfl rfl rfl rfl rfl ?_;intro g3 w2 n3;have e3:=Nat.le_trans ae.size n3.ge;have l3:=Nat.lt_of_lt_of_le k2.lt n3.ge;replace ae:=ae.step n3.below;replace k2:=k2.step n3.below;have k3:=n3.av;refine Zl bQ ?_;intro g4 w3 n4;have e4:=Nat.le_trans ae.size n4.ge;have l4:=Nat.lt_of_lt_of_le k3.lt n4.ge;replace ae:=ae.step n4.below;replace k2:=k2.step n4.below;replace k3:=k3.step n4.below;have k4:=n4.av;refine aU 0 1 2 3 4 (aG ?_);refine Zf 1 Tryz.underlying252 ?_;refine Zv (aa.ag rfl rfl Tryz.underlying250 rfl k2 rfl) ?_;refine Zv (aa.len rfl rfl Tryz.underlying250) ?_;refine Zf 1 Tryz.underlying252 ?_;refine Zv (aa.ag rfl rfl Tryz.underlying250 rfl k3 rfl) ?_;refine Zv (aa.len rfl rfl Tryz.underlying250) ?_;refine cH ?_;refine cH ?_;refine Seq.make rfl rfl rfl Tryz.underlying250 (by kernel_rfl) kj rfl (b:=8) (by kernel_rfl) (m:=la+lb+1) (by omega) (by omega) (by omega) rfl rfl rfl ?_;intro g18 w4 n18;have e18:=Nat.le_trans ae.size n18.ge;have l18:=Nat.lt_of_lt_of_le k4.lt n18.ge;replace ae:=ae.step n18.below;replace k2:=k2.step n18.below;replace k3:=k3.step n18.below;replace k4:=k4.step n18.below;have k18:=n18.av;refine Za ?_;refine bj 0 1 2 3 4 5 (aJ (ao ?_));refine Za ?_;refine bb 0 1 2 3 4 5 6 (Zt (Cd.block ?_));rw[Dq] at k18
 refine Cd.loop (σ:=Nat × List Nat) (fun s=>[(2, .pointer (some ⟨g2,0,none⟩)),(3, .pointer (some ⟨g3,0,none⟩)),(4, .pointer (some ⟨g4,0,none⟩)),(5, .slice (some ⟨g18,0,none⟩) (la+lb+1) (la+lb+1)),(6, .int .i64 (s.1:Int))])
  (fun s wr=>s.1≤la∧s.2.length=la+lb+1∧(∀d∈s.2,d<65536)∧val s.2=val ((bm a.natAbs).take s.1)*b.natAbs∧Below w.heap.size w wr∧aK wr g2 252 #[.bool (decide (a<0)), .slice A la ca]∧aK wr g3 252 #[.bool (decide (b<0)), .slice B lb cb]∧aK wr g4 252 #[.bool false, .slice none 0 0]∧aK wr g18 94 (U s.2).toArray)
  (fun s=>la-s.1) (0,List.replicate (la+lb+1) 0) ⟨by omega,by simp,by simp,by simp[val_zero,val],ae,k2,k3,k4,k18⟩ ⟨rfl,rfl,rfl,rfl,rfl,trivial⟩ ?_
 clear ae k2 k3 k4 k18;rintro⟨i,l⟩ wr ⟨hi,hl,hd,hv,ae,k2,k3,k4,k18⟩;dsimp only at hi hl hd hv ae k2 k3 k4 k18⊢;refine Cd.seq (ao ?_);refine Zm ?_;refine Zf 1 Tryz.underlying252 ?_;refine Zv (aa.ag rfl rfl Tryz.underlying250 rfl k2 rfl) ?_;refine Zv (aa.len rfl rfl Tryz.underlying250) ?_;refine Zv (aa.lss rfl rfl rfl) ?_;refine bj 2 3 4 5 6 23 (Zt ?_);refine Cd.au rfl (fun hc=> ?_) (fun hc=> ?_)
 ·obtain⟨ad,p,rfl,hbp,hp,hcp⟩:=hra.zZ ae (Nat.le_refl _) (show i<la by omega)
  have ci:Cell wr w.heap.size (ad.add i) (.int .u64 p):=⟨by rw[aw];exact hbp,hcp⟩;have hp2:=vR (fM _) hp;refine Cd.skip (aJ (Cd.block (ao ?_)));refine Za ?_;refine bb 2 3 4 5 6 7 23 (aJ (ao ?_));refine Za ?_;refine cI 2 3 4 5 6 7 8 23 (Zt (Cd.block ?_))
  refine Cd.loop (σ:=Nat × Nat × List Nat) (fun s=>[(2, .pointer (some ⟨g2,0,none⟩)),(3, .pointer (some ⟨g3,0,none⟩)),(4, .pointer (some ⟨g4,0,none⟩)),(5, .slice (some ⟨g18,0,none⟩) (la+lb+1) (la+lb+1)),(6, .int .i64 (i:Int)),(7, .int .u64 (s.2.1:Int)),(8, .int .i64 (s.1:Int))])
   (fun s wr=>s.1≤lb∧s.2.1<65536∧s.2.2.length=la+lb+1∧(∀d∈s.2.2,d<65536)∧val s.2.2+65536^(i+s.1)*s.2.1=val l+65536^i*(p*val ((bm b.natAbs).take s.1))∧(∀j,i+s.1≤j→s.2.2[j]? =l[j]?)∧
    Below w.heap.size w wr∧aK wr g2 252 #[.bool (decide (a<0)), .slice (some ad) la ca]∧aK wr g3 252 #[.bool (decide (b<0)), .slice B lb cb]∧aK wr g4 252 #[.bool false, .slice none 0 0]∧aK wr g18 94 (U s.2.2).toArray∧Cell wr w.heap.size (ad.add i) (.int .u64 p))
   (fun s=>lb-s.1) (0,0,l) ⟨by omega,by simp,hl,hd,by simp[val],fun j _=>rfl,ae,k2,k3,k4,k18,ci⟩ ⟨rfl,rfl,rfl,rfl,rfl,rfl,rfl,trivial⟩ ?_
  clear ae k2 k3 k4 k18 ci;rintro⟨k,c,l'⟩ wr' ⟨hk,hc2,hl',hd',hv',hsame,ae,k2,k3,k4,k18,ci⟩;dsimp only at hk hc2 hl' hd' hv' hsame ae k2 k3 k4 k18 ci⊢;refine Cd.seq (ao ?_);refine Zm ?_;refine Zf 1 Tryz.underlying252 ?_;refine Zv (aa.ag rfl rfl Tryz.underlying250 rfl k3 rfl) ?_;refine Zv (aa.len rfl rfl Tryz.underlying250) ?_;refine Zv (aa.lss rfl rfl rfl) ?_;refine cI 2 3 4 5 6 7 8 30 (Zt ?_);refine Cd.au rfl (fun hc=> ?_) (fun hc=> ?_)
  ·obtain⟨bd,bk,rfl,hbb,hbk,hcb⟩:=hrb.zZ ae (Nat.le_refl _) (show k<lb by omega)
   have cj:Cell wr' w.heap.size (bd.add k) (.int .u64 bk):=⟨by rw[aw];exact hbb,hcb⟩;have hbk2:=vR (fM _) hbk;obtain⟨x,hx⟩:∃x,l'[i+k]? =some x:=⟨_,List.getElem?_eq_getElem (show i+k<l'.length by omega)⟩;have hx2:=vR hd' hx;have hpb:p*bk≤65535*65535:=Nat.mul_le_mul (by omega) (by omega);refine Cd.skip (aJ (Cd.block (Cd.seq ?_)));refine Cd.draw 20 (by kernel_rfl) [] (.inl rfl) rfl Grow Grow.refl (fun _ _ _=>Grow.trans) ?_;intro w5 hw5 zw5;replace ae:=ae.step hw5;replace k2:=k2.step hw5;replace k3:=k3.step hw5;replace k4:=k4.step hw5;replace k18:=k18.step hw5;replace ci:=ci.step hw5;replace cj:=cj.step hw5;have zbel:=ae.size;have zlt:=k18.lt;refine cn ?_;refine cn ?_;refine cn ?_;refine Zd (fun w hG=>aa.jH rfl rfl rfl (by omega) (by omega)) ?_;refine Zd (fun w hG=>aa.dN rfl rfl rfl Tryz.underlying250 (by kernel_rfl) (j:=i+k) (by omega) (by omega)) ?_;refine Zd (fun w hG=>aa.ag rfl rfl Tryz.underlying94 rfl (k18.step hG) (Cw hx)) ?_;refine Zd (fun w hG=>aa.an 1 rfl rfl Tryz.underlying252 rfl (by kernel_rfl)) ?_;refine Zd (fun w hG=>aa.ag rfl rfl Tryz.underlying250 rfl (k2.step hG) rfl) ?_;refine cn ?_;refine Zd (fun w hG=>aa.iM rfl rfl rfl Tryz.underlying250 (by kernel_rfl) (j:=i) rfl (by omega)) ?_;refine Zd (fun w hG=>aa.iu rfl rfl Tryz.underlying94 rfl (ci.step hG).val) ?_;refine Zd (fun w hG=>aa.an 1 rfl rfl Tryz.underlying252 rfl (by kernel_rfl)) ?_;refine Zd (fun w hG=>aa.ag rfl rfl Tryz.underlying250 rfl (k3.step hG) rfl) ?_;refine cn ?_;refine Zd (fun w hG=>aa.iM rfl rfl rfl Tryz.underlying250 (by kernel_rfl) (j:=k) rfl (by omega)) ?_;refine Zd (fun w hG=>aa.iu rfl rfl Tryz.underlying94 rfl (cj.step hG).val) ?_;refine Zd (fun w hG=>aa.Dz rfl rfl rfl (r:=((p*bk:Nat):Int)) (by rw[←Int.natCast_mul];exact lG (by omega) (by omega))) ?_;refine Zd (fun w hG=>aa.ze rfl rfl rfl (r:=((x+p*bk:Nat):Int)) (by rw[←Int.natCast_add];exact lG (by omega) (by omega))) ?_;refine cn ?_;refine Zd (fun w hG=>aa.ze rfl rfl rfl (r:=((x+p*bk+c:Nat):Int)) (by rw[←Int.natCast_add];exact lG (by omega) (by omega))) ?_;refine Dr.nil ?_;refine ba.done (F':=[(2,_),(3,_),(4,_),(5,_),(6,_),(7,_),(8,_),(30,_),(52,_)]) rfl ⟨rfl,rfl,rfl,rfl,rfl,rfl,rfl,rfl,rfl,trivial⟩ ?_;intro w6 hw6 fw6;replace ae:=ae.step hw6;replace k2:=k2.step hw6;replace k3:=k3.step hw6;replace k4:=k4.step hw6;replace k18:=k18.step hw6;replace ci:=ci.step hw6;replace cj:=cj.step hw6;refine Za ?_;refine dG 2 3 4 5 6 7 8 9 30 (aG ?_);refine Zm ?_;refine Zm ?_;refine Zm ?_;refine cH ?_;refine Zm ?_;refine Zv (aa.Dc 65536 rfl rfl rfl rfl (by omega)) ?_;refine Zv (aa.dN rfl rfl rfl Tryz.underlying250 (by kernel_rfl) (j:=i+k) (by omega) (by omega)) ?_;refine Seq.kA rfl rfl rfl (by kernel_rfl) rfl rfl k18 (Cw hx) rfl rfl ?_;intro w7 pw7;replace ae:=ae.put k18 pw7 e18;replace k2:=k2.put pw7 (by omega);replace k3:=k3.put pw7 (by omega);replace k4:=k4.put pw7 (by omega);replace ci:=ci.put k18 pw7 e18;replace cj:=cj.put k18 pw7 e18;replace k18:=pw7.av;rw[C0] at k18;refine dG 2 3 4 5 6 7 8 9 30 (ei ?_);refine Zm ?_;refine Zv (aa.zK 65536 rfl rfl rfl rfl (by omega) (by omega)) ?_;refine Za ?_;refine dG 2 3 4 5 6 7 8 9 30 (ab.aj (ei ?_));refine Zm ?_;refine cH ?_;refine Za ?_;refine dG 2 3 4 5 6 7 8 9 30 ?_;refine ab.round (k+1,(x+p*bk+c)/65536,l'.set (i+k) ((x+p*bk+c)%65536)) ⟨rfl,rfl,rfl,rfl,rfl,rfl,rfl,trivial⟩ ?_ (by dsimp only;omega);have hval:=wL l' (i+k) ((x+p*bk+c)%65536) x hx;refine⟨by dsimp only;omega,by dsimp only;omega,by simp[hl'],Aw hd' _ _ (by omega),?_,?_,ae,k2,k3,k4,k18,ci⟩
   ·dsimp only
    rw[bA,jK _ _ _ hbk,←Nat.add_assoc,Nat.pow_succ];have:=wb (65536^(i+k)) _ _ x c _ p bk _ hv' rfl hval;rw[this,Nat.pow_add];rw[Nat.mul_add p,Nat.mul_add (65536^i)];have e3:65536^i*65536^k*(p*bk)=65536^i*(p*(65536^k*bk)):=by rw[Nat.mul_assoc,Nat.mul_left_comm p (65536^k) bk]
    omega
   ·intro j hj
    dsimp only at hj⊢;rw[List.getElem?_set_ne (by omega)];exact hsame j (by omega)
  ·obtain rfl:k=lb:=by omega
   have hlt:val l<65536^(i+k):=by
    rw[hv,Nat.pow_add];have h1:=m6 ((bm a.natAbs).take i) (fun d hd=>fM _ d (List.mem_of_mem_take hd));rw[List.length_take,hma,Nat.min_eq_left (by omega)] at h1;have h2:=hO b.natAbs;rw[hmb] at h2;exact Nat.mul_lt_mul_of_lt_of_lt h1 h2
   obtain⟨x,hx0⟩:∃x,l[i+k]? =some x:=⟨_,List.getElem?_eq_getElem (show i+k<l.length by omega)⟩;obtain rfl:=s7 l (i+k) x hlt hx0;have hx:l'[i+k]? =some 0:=by rw[hsame _ (by omega),hx0]
   have hval:val (l'.set (i+k) (0+c))=val l'+65536^(i+k)*c:=by have:=wL l' (i+k) (0+c) 0 hx;simpa using this
   refine Cd.exit (ab.aD (ab.aA (ab.az (Zt ?_))));refine Cd.draw 17 (by kernel_rfl) [] (.inl rfl) rfl Grow Grow.refl (fun _ _ _=>Grow.trans) ?_;intro w5 hw5 zw5;replace ae:=ae.step hw5;replace k2:=k2.step hw5;replace k3:=k3.step hw5;replace k4:=k4.step hw5;replace k18:=k18.step hw5;replace ci:=ci.step hw5;have zbel:=ae.size;have zlt:=k18.lt;refine cn ?_;refine cn ?_;refine Zd (fun w hG=>aa.an 1 rfl rfl Tryz.underlying252 rfl (by kernel_rfl)) ?_;refine Zd (fun w hG=>aa.ag rfl rfl Tryz.underlying250 rfl (k3.step hG) rfl) ?_;refine Zd (fun w hG=>aa.len rfl rfl Tryz.underlying250) ?_;refine Zd (fun w hG=>aa.jH rfl rfl rfl (by omega) (by omega)) ?_;refine cn ?_;refine cn ?_;refine Zd (fun w hG=>aa.an 1 rfl rfl Tryz.underlying252 rfl (by kernel_rfl)) ?_;refine Zd (fun w hG=>aa.ag rfl rfl Tryz.underlying250 rfl (k3.step hG) rfl) ?_;refine Zd (fun w hG=>aa.len rfl rfl Tryz.underlying250) ?_;refine Zd (fun w hG=>aa.jH rfl rfl rfl (by omega) (by omega)) ?_;refine Zd (fun w hG=>aa.dN rfl rfl rfl Tryz.underlying250 (by kernel_rfl) (j:=i+k) (by omega) (by omega)) ?_;refine Zd (fun w hG=>aa.ag rfl rfl Tryz.underlying94 rfl (k18.step hG) (Cw hx)) ?_;refine cn ?_;refine Zd (fun w hG=>aa.D4 rfl rfl rfl (by omega)) ?_;refine Zd (fun w hG=>aa.dN rfl rfl rfl Tryz.underlying250 (by kernel_rfl) (j:=i+k) (by omega) (by omega)) ?_;refine Dr.nil ?_;refine ba.done (F':=[(2,_),(3,_),(4,_),(5,_),(6,_),(7,_),(8,_),(30,_),(77,_),(78,_)]) rfl ⟨rfl,rfl,rfl,rfl,rfl,rfl,rfl,rfl,rfl,rfl,trivial⟩ ?_;intro w6 hw6 fw6;replace ae:=ae.step hw6;replace k2:=k2.step hw6;replace k3:=k3.step hw6;replace k4:=k4.step hw6;replace k18:=k18.step hw6;replace ci:=ci.step hw6;refine Seq.kA rfl rfl rfl (by kernel_rfl) rfl rfl k18 (Cw hx) rfl rfl ?_;intro w7 pw7;replace ae:=ae.put k18 pw7 e18;replace k2:=k2.put pw7 (by omega);replace k3:=k3.put pw7 (by omega);replace k4:=k4.put pw7 (by omega);replace ci:=ci.put k18 pw7 e18;replace k18:=pw7.av;rw[C0] at k18;refine cI 2 3 4 5 6 7 8 30 (ab.aj (ei ?_));refine Zm ?_;refine cH ?_;refine Za ?_;refine cI 2 3 4 5 6 7 8 30 ?_;refine ab.round (i+1,l'.set (i+k) (0+c)) ⟨rfl,rfl,rfl,rfl,rfl,trivial⟩ ?_ (by dsimp only;omega);refine⟨by dsimp only;omega,by simp[hl'],Aw hd' _ _ (by omega),?_,ae,k2,k3,k4,k18⟩;dsimp only;rw[bA,jK _ _ _ hp,Nat.add_mul,←hv];rw[List.take_of_length_le (by omega),dA] at hv';rw[Nat.mul_assoc];omega
 ·obtain rfl:i=la:=by omega
  rw[List.take_of_length_le (by omega),dA] at hv;refine Cd.exit (ab.aD (ab.aA (ab.az (aJ ?_))));refine Cd.draw 8 (by kernel_rfl) [] (.inl rfl) rfl Grow Grow.refl (fun _ _ _=>Grow.trans) ?_;intro w5 hw5 zw5;replace ae:=ae.step hw5;replace k2:=k2.step hw5;replace k3:=k3.step hw5;replace k4:=k4.step hw5;replace k18:=k18.step hw5;have zbel:=ae.size;have zlt:=k18.lt;refine Zd (fun w hG=>aa.an 0 rfl rfl Tryz.underlying252 rfl (by kernel_rfl)) ?_;refine Zd (fun w hG=>aa.ag rfl rfl Tryz.underlying4 rfl (k2.step hG) rfl) ?_;refine Zd (fun w hG=>aa.an 0 rfl rfl Tryz.underlying252 rfl (by kernel_rfl)) ?_;refine Zd (fun w hG=>aa.ag rfl rfl Tryz.underlying4 rfl (k3.step hG) rfl) ?_;refine Zd (fun w hG=>aa.iL rfl rfl rfl Tryz.underlying4) ?_;refine cn ?_
  have hlen18:(bm (a*b).natAbs).length≤i+lb+1:=by
   rw[Int.natAbs_mul,←hv,←hl];exact gr _ _ (m6 l hd)
  have hr18:Reads w5 w5.heap.size 1 (some ⟨g18,0,none⟩) (i+lb+1) (U l):=by
   refine⟨by rw[pQ];omega,fun _=>⟨_,rfl,k18.lt,fun j u hu=> ?_⟩⟩;have hadd:(⟨g18,0,none⟩:Addr).add j=⟨g18,j,none⟩:=by unfold Addr.add;split<;>simp_all
   rw[hadd,k18.cell j]
   simpa using hu
  have hm18:dB w5 (.slice (some ⟨g18,0,none⟩) (bm (a*b).natAbs).length (i+lb+1)) (a*b).natAbs:=by
   have:=gC hr18 hd (Nat.le_refl _) (by omega) (show val l=(a*b).natAbs by rw[hv,Int.natAbs_mul])
   rwa [show val l=(a*b).natAbs by rw[hv,Int.natAbs_mul]] at this
  refine Dr.bP rfl (fun w=>Ze Tryz.func227) rfl (fun w hG=>wB _ _ _ _ l w ((hr18.below (show Below w5.heap.size w5 w from hG)).more hG.size) hd (by omega) (by omega) (show(bm (val l)).length=(bm (a*b).natAbs).length by rw[hv,Int.natAbs_mul])) ?_;refine Dr.call (Φ:=fun v w=>bU w v (a*b)) rfl (fun w=>Ze Tryz.func223) rfl (bU.dz _) (fun w hG=>mM _ _ _ (a*b) _ (hm18.step hG) (by omega) rfl (sign_mul a b)) ?_;refine Dr.nil ?_;refine ba.open (j:=7) rfl ?_;intro u7;refine ba.done (F':=[(2,_),(3,_),(4,_),(5,_),(6,_),(23,_),(86,_)]) rfl ⟨rfl,rfl,rfl,rfl,rfl,rfl,rfl,trivial⟩ ?_;intro w6 hw6 fw6;replace ae:=ae.step hw6;replace k2:=k2.step hw6;replace k3:=k3.step hw6;replace k4:=k4.step hw6;replace k18:=k18.step hw6;obtain⟨m9,rfl,o9,h9⟩:=(by assumption:True∧bU _ _ _).2.agg;refine Zo 2 k4 ?_;intro w7 pw7;replace ae:=ae.put k4 pw7 e4;replace k2:=k2.put pw7 (by omega);replace k3:=k3.put pw7 (by omega);replace k18:=k18.put pw7 (by omega);replace h9:=h9.put k4 pw7 e4;replace k4:=pw7.av;refine bj 2 3 4 5 6 23 (Zt (Cd.ret ?_));refine ab.cz rfl rfl k4 Tryz.underlying252 rfl (m:=2) (by kernel_rfl) rfl (.inl rfl) ?_;exact⟨_,rfl,ae,_,rfl,h9⟩
theorem vj (x y:Value)(a b:Int)(w:World)(hx:bU w x a)(hy:bU w y b)(ha:a.natAbs<oA)(hb:b.natAbs<oA):
  Calls Tryz.prog 199 #[x,y] w fun e w'=>∃v,e= .returned v∧Grow w w'∧bU w' v (a*b):=yA x y a b w hx hy ha hb
def gL (l:List Nat)(k:Nat):Nat:=val (l.drop k)
theorem sB (l:List Nat)(k d:Nat)(h:l[k]? =some d):gL l k=d+65536*gL l (k+1):=by
 obtain⟨hk,rfl⟩:=List.getElem?_eq_some_iff.1 h;unfold gL;rw[List.drop_eq_getElem_cons hk,val]
theorem pF (l:List Nat)(k:Nat):gL l k≤val l:=by
 have:=lO (l.take k) (l.drop k);rw[List.take_append_drop] at this;unfold gL;have h1:1*val (l.drop k)≤65536^(l.take k).length*val (l.drop k):=Nat.mul_le_mul_right _ (Nat.pos_of_ne_zero (by simp));omega
theorem xC (x:Value)(a:Int)(w:World)(hx:bU w x a)(ha:a.natAbs<oA):
  Calls Tryz.prog 202 #[x] w fun e w'=>e= .returned (.tuple #[.int .i64 (br a), .bool (fits a)])∧Below w.heap.size w w':=by
 obtain⟨m,rfl,om,hm⟩:=hx.agg;have ae:=Below.refl w.heap.size w
 by_cases hgt:9223372036854775807<a
 ·have hf:=kL (.inr hgt)
  have hs:br a=0:=by unfold br;rw[hf];rfl
  rw[hf,hs];refine Zs 38 Tryz.func202 ?_;refine ao ?_;refine Seq.box rfl rfl rfl rfl rfl ?_;intro g1 w1 n1;have e1:=Nat.le_trans ae.size n1.ge;replace ae:=ae.step n1.below;replace hx:=hx.step n1.below;have k1:=n1.av;refine Za ?_;refine Za ?_;refine aV 0 1 2 3 (aJ (Cd.seq ?_));refine Cd.draw 10 (by kernel_rfl) [] (.inl rfl) rfl Grow Grow.refl (fun _ _ _=>Grow.trans) ?_;intro w2 hw2 zw2;replace ae:=ae.step hw2;replace hx:=hx.step hw2;replace k1:=k1.step hw2;have zbel:=ae.size;have zlt:=k1.lt;refine Zd (fun w hG=>aa.aQ rfl rfl Tryz.underlying252 rfl (k1.step hG) (m:=2) (by kernel_rfl) rfl) ?_;refine Dr.call (Φ:=fun v w=>bU w v 9223372036854775807) rfl (fun w=>Ze Tryz.func200) rfl (bU.dz _) (fun w hG=>lV _ _ (by omega) (by omega)) ?_;refine Dr.u0 (j:=1) rfl rfl rfl (fun u w=>Ze Tryz.func228) rfl (fun u w hG hu=>je _ u a _ _ (hx.step hG) hu ha (ia (by decide))) ?_;refine Zd (fun w hG=>(aa.gtr rfl rfl rfl).kE (sE.2 hgt)) ?_;refine cn ?_;refine df ?_;refine df ?_;refine df ?_;refine df ?_;refine Zd (fun w hG=>aa.cK rfl rfl rfl) ?_;refine Dr.nil ?_;refine ba.done (F':=[(0,_),(1,_),(2,_),(3,_),(15,_)]) rfl ⟨rfl,rfl,rfl,rfl,rfl,trivial⟩ ?_;intro w3 hw3 fw3;replace ae:=ae.step hw3;replace hx:=hx.step hw3;replace k1:=k1.step hw3;refine aU 0 1 2 3 15 (Zt ?_);refine Cd.aX rfl rfl ?_;refine ao ?_;refine Za ?_;refine Za ?_;refine aU 0 1 2 3 15 (Zt (Cd.ret (ab.af ?_)));refine ab.bf rfl rfl rfl (.inl rfl) ?_;exact⟨rfl,ae⟩
 ·by_cases hlt:a< -9223372036854775808
  ·have hf:=kL (.inl hlt)
   have hs:br a=0:=by unfold br;rw[hf];rfl
   rw[hf,hs];refine Zs 38 Tryz.func202 ?_;refine ao ?_;refine Seq.box rfl rfl rfl rfl rfl ?_;intro g1 w1 n1;have e1:=Nat.le_trans ae.size n1.ge;replace ae:=ae.step n1.below;replace hx:=hx.step n1.below;have k1:=n1.av;refine Za ?_;refine Za ?_;refine aV 0 1 2 3 (aJ (Cd.seq ?_));refine Cd.draw 10 (by kernel_rfl) [] (.inl rfl) rfl Grow Grow.refl (fun _ _ _=>Grow.trans) ?_;intro w2 hw2 zw2;replace ae:=ae.step hw2;replace hx:=hx.step hw2;replace k1:=k1.step hw2;have zbel:=ae.size;have zlt:=k1.lt;refine Zd (fun w hG=>aa.aQ rfl rfl Tryz.underlying252 rfl (k1.step hG) (m:=2) (by kernel_rfl) rfl) ?_;refine Dr.call (Φ:=fun v w=>bU w v 9223372036854775807) rfl (fun w=>Ze Tryz.func200) rfl (bU.dz _) (fun w hG=>lV _ _ (by omega) (by omega)) ?_;refine Dr.u0 (j:=1) rfl rfl rfl (fun u w=>Ze Tryz.func228) rfl (fun u w hG hu=>je _ u a _ _ (hx.step hG) hu ha (ia (by decide))) ?_;refine Zd (fun w hG=>(aa.gtr rfl rfl rfl).gN (mt sE.1 hgt)) ?_;refine cn ?_;refine ck (fun w hG=>aa.aQ rfl rfl Tryz.underlying252 rfl (k1.step hG) (m:=2) (by kernel_rfl) rfl) ?_;refine Dr.tB (Φ:=fun v w=>bU w v (-9223372036854775808)) rfl (fun w=>Ze Tryz.func200) rfl rfl rfl (bU.dz _) (fun w hG=>lV _ _ (by omega) (by omega)) ?_;refine Dr.wR (j:=6) rfl rfl rfl (fun u w=>Ze Tryz.func228) rfl rfl (fun _=>rfl) (fun u w hG hu=>je _ u a _ _ (hx.step hG) hu ha (ia (by decide))) ?_;refine ck (fun w hG=>(aa.lss rfl rfl rfl).kE (wZ.2 hlt)) ?_;refine Zd (fun w hG=>aa.bp rfl rfl rfl) ?_;refine Dr.nil ?_;refine ba.done (F':=[(0,_),(1,_),(2,_),(3,_),(15,_)]) rfl ⟨rfl,rfl,rfl,rfl,rfl,trivial⟩ ?_;intro w3 hw3 fw3;replace ae:=ae.step hw3;replace hx:=hx.step hw3;replace k1:=k1.step hw3;refine aU 0 1 2 3 15 (Zt ?_);refine Cd.aX rfl rfl ?_;refine ao ?_;refine Za ?_;refine Za ?_;refine aU 0 1 2 3 15 (Zt (Cd.ret (ab.af ?_)));refine ab.bf rfl rfl rfl (.inl rfl) ?_;exact⟨rfl,ae⟩
  ·have hf:=oF (a:=a) (by omega) (by omega)
   have hs:br a=a:=by unfold br;rw[if_pos hf]
   rw[hf,hs];obtain⟨A,cm,rfl,hcm,hcm2,hrm⟩:=id hm;have hlen:(bm a.natAbs).length≤61:=gQ (by omega);have hba:a.natAbs<18446744073709551616:=by omega
   generalize hL:(bm a.natAbs).length=L at *
   refine Zs 38 Tryz.func202 ?_;refine ao ?_;refine Seq.box rfl rfl rfl rfl rfl ?_;intro g1 w1 n1;have e1:=Nat.le_trans ae.size n1.ge;replace ae:=ae.step n1.below;replace hx:=hx.step n1.below;have k1:=n1.av;refine Za ?_;refine Za ?_;refine aV 0 1 2 3 (aJ (Cd.seq ?_));refine Cd.draw 10 (by kernel_rfl) [] (.inl rfl) rfl Grow Grow.refl (fun _ _ _=>Grow.trans) ?_;intro w2 hw2 zw2;replace ae:=ae.step hw2;replace hx:=hx.step hw2;replace k1:=k1.step hw2;have zbel:=ae.size;have zlt:=k1.lt;refine Zd (fun w hG=>aa.aQ rfl rfl Tryz.underlying252 rfl (k1.step hG) (m:=2) (by kernel_rfl) rfl) ?_;refine Dr.call (Φ:=fun v w=>bU w v 9223372036854775807) rfl (fun w=>Ze Tryz.func200) rfl (bU.dz _) (fun w hG=>lV _ _ (by omega) (by omega)) ?_;refine Dr.u0 (j:=1) rfl rfl rfl (fun u w=>Ze Tryz.func228) rfl (fun u w hG hu=>je _ u a _ _ (hx.step hG) hu ha (ia (by decide))) ?_;refine Zd (fun w hG=>(aa.gtr rfl rfl rfl).gN (mt sE.1 hgt)) ?_;refine cn ?_;refine ck (fun w hG=>aa.aQ rfl rfl Tryz.underlying252 rfl (k1.step hG) (m:=2) (by kernel_rfl) rfl) ?_;refine Dr.tB (Φ:=fun v w=>bU w v (-9223372036854775808)) rfl (fun w=>Ze Tryz.func200) rfl rfl rfl (bU.dz _) (fun w hG=>lV _ _ (by omega) (by omega)) ?_;refine Dr.wR (j:=6) rfl rfl rfl (fun u w=>Ze Tryz.func228) rfl rfl (fun _=>rfl) (fun u w hG hu=>je _ u a _ _ (hx.step hG) hu ha (ia (by decide))) ?_;refine ck (fun w hG=>(aa.lss rfl rfl rfl).gN (mt wZ.1 hlt)) ?_;refine Zd (fun w hG=>aa.bp rfl rfl rfl) ?_;refine Dr.nil ?_;refine ba.done (F':=[(0,_),(1,_),(2,_),(3,_),(15,_)]) rfl ⟨rfl,rfl,rfl,rfl,rfl,trivial⟩ ?_;intro w3 hw3 fw3;replace ae:=ae.step hw3;replace hx:=hx.step hw3;replace k1:=k1.step hw3;refine aU 0 1 2 3 15 (Zt ?_);refine Cd.aN rfl rfl ?_;refine Cd.skip (aG ?_);refine Za ?_;refine bj 0 1 2 3 4 15 (aJ (ao ?_));refine Zf 1 Tryz.underlying252 ?_;refine Zv (aa.ag rfl rfl Tryz.underlying250 rfl k1 rfl) ?_;refine Zv (aa.len rfl rfl Tryz.underlying250) ?_;refine Zv (aa.eU rfl rfl rfl (by omega) (by omega)) ?_;refine Za ?_;refine bb 0 1 2 3 4 5 15 (Zt (Cd.block ?_))
   refine Cd.loop (σ:=Nat) (fun k=>[(1, .pointer (some ⟨g1,0,none⟩)),(2, .int .i64 0),(3, .bool false),(4, .int .u64 (gL (bm a.natAbs) k:Int)),(5, .int .i64 ((k:Int)-1))])
    (fun k wr=>k≤L∧Below w.heap.size w wr∧aK wr g1 252 #[.bool (decide (a<0)), .slice A L cm]) (fun k=>k) L ⟨Nat.le_refl _,ae,k1⟩ ⟨rfl,rfl,rfl,?_,rfl,trivial⟩ ?_
   ·show some (Value.int .u64 0)=_
    unfold gL;rw[List.drop_of_length_le (by omega)];rfl
   clear ae hx k1;rintro k wr ⟨hk,ae,k1⟩;have hvl:=pF (bm a.natAbs) k;rw[dA] at hvl;refine Cd.seq (ao ?_);refine Zm ?_;refine Zv (aa.geq rfl rfl rfl) ?_;refine bj 1 2 3 4 5 21 (Zt ?_);refine Cd.au rfl (fun hc=> ?_) (fun hc=> ?_)
   ·obtain⟨j,rfl⟩:∃j,k=j+1:=⟨k-1,by omega⟩
    obtain⟨ad,p,rfl,hbp,hp,hcp⟩:=hrm.zZ ae (Nat.le_refl _) (show j<L by omega);have hst:=sB _ _ _ hp;have hvl2:=pF (bm a.natAbs) j;rw[dA] at hvl2;refine Cd.skip (aJ (Cd.block (Zr ?_)));refine Zm ?_;refine Zv (aa.Dy rfl rfl rfl (by omega) (by omega)) ?_;refine Zf 1 Tryz.underlying252 ?_;refine Zv (aa.ag rfl rfl Tryz.underlying250 rfl k1 rfl) ?_;refine Zm ?_;refine Zv (aa.iM rfl rfl rfl Tryz.underlying250 (by kernel_rfl) (j:=j) (by omega) (by omega)) ?_;refine Zv (aa.iu rfl rfl Tryz.underlying94 rfl hcp) ?_;refine Zv (aa.ze rfl rfl rfl (r:=((gL (bm a.natAbs) j:Nat):Int)) (by rw[hst];exact(lG (by omega) (by omega)).trans (by omega))) ?_;refine Za ?_;refine bj 1 2 3 4 5 21 (ab.aj (ei ?_));refine Zm ?_;refine Zv (aa.eU rfl rfl rfl (by omega) (by omega)) ?_;refine Za ?_;refine bj 1 2 3 4 5 21 ?_;refine ab.round j ⟨rfl,rfl,rfl,rfl,?_,trivial⟩ ⟨by omega,ae,k1⟩ (Nat.lt_succ_self _);show some (Value.int .i64 (((j+1:Nat):Int)-1-1))=_;rw[show((j+1:Nat):Int)-1-1=(j:Int)-1 from by omega]
   ·obtain rfl:k=0:=by omega
    have hv0:gL (bm a.natAbs) 0=a.natAbs:=dA _;rw[hv0];refine Cd.exit (ab.aD (ab.aA (ab.az (aJ (ao ?_)))));refine Zf 0 Tryz.underlying252 ?_;refine Zv (aa.ag rfl rfl Tryz.underlying4 rfl k1 rfl) ?_;refine bb 1 2 3 4 5 21 33 (Zt ?_);refine Cd.au rfl (fun hc=> ?_) (fun hc=> ?_)
    ·skip
     refine Zr ?_;refine Zm ?_;refine Zv (aa.neg rfl rfl (r:=((a%18446744073709551616:Int))) (by rw[wrap_u64];omega)) ?_;refine Za ?_;refine bb 1 2 3 4 5 21 33 (aG ?_);refine Zm ?_;refine Zv (aa.fb rfl rfl Tryz.underlying94 Tryz.underlying2 (k':= .i64) (r:=a) (by rw[IntKind.wrap_i64];omega)) ?_;refine Za ?_;refine Za ?_;refine bb 1 2 3 4 5 21 33 (Zt (Cd.ret ?_));refine ab.bf rfl rfl rfl (.inl rfl) ?_;exact⟨rfl,ae⟩
    ·skip
     refine Cd.skip (aG ?_);refine Zm ?_;refine Zv (aa.fb rfl rfl Tryz.underlying94 Tryz.underlying2 (k':= .i64) (r:=a) (by rw[IntKind.wrap_i64];omega)) ?_;refine Za ?_;refine Za ?_;refine bb 1 2 3 4 5 21 33 (Zt (Cd.ret ?_));refine ab.bf rfl rfl rfl (.inl rfl) ?_;exact⟨rfl,ae⟩
theorem vV (x:Value)(a:Int)(w:World)(hx:bU w x a)(ha:a.natAbs<oA):
  Calls Tryz.prog 202 #[x] w fun e w'=>e= .returned (.tuple #[.int .i64 (br a), .bool (fits a)])∧Grow w w':=xC x a w hx ha
theorem qq (w:World):(Instr.build 252 #[]).run Tryz.prog w= .ok (.agg #[.bool false, .slice none 0 0]) w:=by
 have hu:=Tryz.underlying252
 go_simp
theorem uO:bm 0=[]:=by unfold bm;rfl
theorem dB.zero (w:World):dB w (.slice none 0 0) 0:=⟨none,0,by rw[uO];rfl,by rw[uO];simp,by omega,by rw[uO];exact Reads.none_⟩
theorem Reads.Dh {w w':World}{B n g:Nat}{A:Option Addr}{l:List Nat}{cs:Array Value}{t:TypeId}{fr:Nat × Nat}(h:Reads w B 1 A n (U l))(hg:w.heap[g]? =some (.cells cs t fr))(hcs:∀(z:Int),Value.int .u64 z∉cs.toList)
  (hgr:w.grownBy w' (some g)):Reads w' B 1 A n (U l):=by
 refine⟨h.1,fun hn=> ?_⟩;obtain⟨ad,hA,hb,hc⟩:=h.2 hn;refine⟨ad,hA,hb,fun j u hu=> ?_⟩;have h1:=hc j u hu
 have hne:(ad.add j).block≠g:=by
  intro he;rw[AK] at hu
  cases hl:l[j]? with
  |none=>rw[hl] at hu;cases hu
  |some d=>
   rw[hl] at hu;injection hu with hu
   subst hu;unfold World.cell? at h1;rw[he,hg] at h1;simp only at h1;split at h1
   ·cases h1
   ·exact hcs _ (Array.mem_toList_iff.2 (Array.mem_of_getElem? h1))
 have hlt:(ad.add j).block<w.heap.size:=by
  unfold World.cell? at h1;rcases Nat.lt_or_ge (ad.add j).block w.heap.size with h2|h2
  ·exact h2
  ·rw[Array.getElem?_eq_none h2] at h1;cases h1
 rw[←h1];unfold World.cell?;rw[hgr.block _ hlt (by intro e;injection e with e;exact hne e)]
structure nL (w:World)(m:Value)(n:Nat):Prop where
 DN:dB w m n
theorem nL.step {w w':World}{m:Value}{n:Nat}(h:nL w m n)(hb:Below w.heap.size w w'):nL w' m n:=⟨h.DN.step hb⟩
theorem nL.put {w w':World}{m:Value}{n g B:Nat}{T:TypeId}{cur cs:Array Value}(h:nL w m n)(k:aK w g T cur)(p:lD w w' g T cs)(_e:B≤g)(hcs:∀(z:Int),Value.int .u64 z∉cur.toList:=by simp[Value.cells, *]):nL w' m n:=by
 obtain⟨A,c,e,h1,h2,h3⟩:=h.DN;exact⟨A,c,e,h1,h2,(h3.Dh k hcs p.grown).more p.grown.size⟩
theorem nL.oA {w:World}{m:Value}{r:Nat}(h:nL w m r):bU w (.agg [Value.bool false,m].toArray) (r:Int):=⟨m,by rw[decide_eq_false (show¬(r:Int)<0 by omega)],by rw[Int.natAbs_natCast];exact h.DN⟩
def xG (u d k:Nat):List Nat:=(j9 u d k).reverse
theorem mR (n:Int)(d:Nat)(w:World)(hn:bt n)(hd:d≤9):
  Calls Tryz.prog 110 #[.int .i64 n, .int .i64 (d:Int)] w fun e w'=>(∃N,fY n.natAbs d N∧N≤20∧e= .returned (.string (strOf (printed n d N))))∧Grow w w':=by
 have ae:=Below.refl w.heap.size w;have hu:n.natAbs≤9223372036854775808:=by have:=hn.1;have:=hn.2;omega
 have hn1:=hn.1;have hn2:=hn.2;refine Zs 47 Tryz.func110 ?_;refine ao ?_;refine Za ?_;refine bD 0 1 4 (aG ?_);refine Zm ?_;refine Zv (aa.fb rfl rfl Tryz.underlying2 Tryz.underlying94 rfl) ?_;refine Za ?_;refine aV 0 1 4 5 (Zt ?_);refine Cd.lz (σ:=Unit) (fun _=>[(0, .int .i64 n),(1, .int .i64 (d:Int)),(5, .int .u64 (n.natAbs:Int))]) (fun _ wr=>Below w.heap.size w wr) ?_ ?_
 ·skip
  refine ao ?_;refine Zm ?_;refine Zv (aa.lss rfl rfl rfl) ?_;refine aU 0 1 4 5 11 (Zt ?_);refine Cd.au rfl (fun hc=> ?_) (fun hc=> ?_)
  ·skip
   refine Zr ?_;refine Zm ?_;refine Zv (aa.neg rfl rfl (r:=(n.natAbs:Int)) (by rw[wrap_u64,wrap_u64];omega)) ?_;refine Za ?_;refine aU 0 1 4 5 11 ?_;exact ab.join () ⟨rfl,rfl,rfl,trivial⟩ ae
  ·skip
   refine Cd.skip ?_;refine ab.join () ⟨rfl,rfl,?_,trivial⟩ ae;refine congrArg (fun z=>some (Value.int .u64 z)) ?_;rw[wrap_u64];omega
 clear ae;rintro⟨⟩ wr ae;refine ao ?_;refine Za ?_;refine aV 0 1 5 6 (aJ (ao ?_));refine Za ?_;refine aU 0 1 5 6 7 (Zt (Cd.block ?_))
 generalize hun:n.natAbs=u at *
 refine Cd.loop (σ:=Nat) (fun k=>[(0, .int .i64 n),(1, .int .i64 (d:Int)),(5, .int .u64 ((u/10^k:Nat):Int)),(6, .string (strOf (xG u d k))),(7, .int .i64 (k:Int))])
  (fun k wr=>k≤20∧Below w.heap.size w wr∧∀j,j<k→0<u/10^j∨j≤d) (fun k=>20-k) 0 ⟨by omega,ae,fun j hj=>absurd hj (by simp)⟩ ⟨rfl,rfl,congrArg (fun x:Nat=>some (Value.int .u64 (x:Int))) (show u=u/10^0 by simp),rfl,rfl,trivial⟩ ?_
 clear ae;rintro k wr ⟨hk,ae,hgo⟩;refine Cd.seq (ao ?_);refine Zm ?_;refine Zm ?_;refine Zv (aa.leq rfl rfl rfl) ?_;refine Zm ?_;refine ah.start ?_;refine bM (fun hcx=>aa.move rfl rfl) ?_;refine ah.next rfl rfl rfl rfl rfl rfl rfl (fun hcx=>aa.gtr rfl rfl rfl) ?_;refine ah.or rfl rfl rfl rfl rfl rfl rfl ?_;refine bj 0 1 5 6 7 20 (Zt ?_);have hlen:=oC u d k;have hdk:u/10^k≤u:=Nat.div_le_self _ _;have hdt:=xr u k;have hpr:j9 u d (k+1)=j9 u d k++(if k=d∧0<d then [46] else [])++[48+u/10^k%10]:=rfl
 generalize hq:u/10^k=q at *
 refine Cd.cond rfl (fun hc=> ?_) (fun hc=> ?_)
 ·have hgo1:0<q∨k≤d:=by simp at hc;omega
  have hk20:k<20:=by
   rcases Nat.lt_or_ge k 20 with h|h
   ·exact h
   ·obtain rfl:k=20:=by omega
    have:u/10^20=0:=Nat.div_eq_of_lt (by omega);omega
  have hgo2:∀j,j<k+1→0<u/10^j∨j≤d:=fun j hj=>by
   rcases Nat.lt_or_ge j k with h|h
   ·exact hgo j h
   ·obtain rfl:j=k:=by omega
    rw[hq];exact hgo1
  refine Cd.skip (aJ (Cd.block ?_));refine Cd.lz (σ:=Unit) (fun _=>[(0, .int .i64 n),(1, .int .i64 (d:Int)),(5, .int .u64 (q:Int)),(6, .string (strOf ((j9 u d k++if k=d∧0<d then [46] else []).reverse))),(7, .int .i64 (k:Int))]) (fun _ wr=>Below w.heap.size w wr) ?_ ?_
  ·skip
   refine ao ?_;refine Zm ?_;refine Zm ?_;refine Zv (aa.aB rfl rfl rfl) ?_;refine Zm ?_;refine ah.start ?_;refine bM (fun hcx=>aa.move rfl rfl) ?_;refine ah.next rfl rfl rfl rfl rfl rfl rfl (fun hcx=>aa.gtr rfl rfl rfl) ?_;refine ah.and rfl rfl rfl rfl rfl rfl rfl ?_;refine bb 0 1 5 6 7 20 29 (Zt ?_);refine Cd.cond rfl (fun hp=> ?_) (fun hp=> ?_)
   ·rw[if_pos (by simp at hp;omega)]
    have hl1: [46].length+(xG u d k).length≤9223372036854775807:=by unfold xG;rw[List.length_reverse];simp;omega
    refine Zr ?_;refine Zm ?_;refine Zv (aa.dv (a:=[46]) (b:=xG u d k) rfl rfl rfl hl1) ?_;refine Za ?_;refine bb 0 1 5 6 7 20 29 ?_;exact ab.join () ⟨rfl,rfl,rfl,by rw[List.reverse_append];rfl,rfl,trivial⟩ ae
   ·rw[if_neg (by simp at hp;omega)]
    refine Cd.skip ?_;exact ab.join () ⟨rfl,rfl,rfl,by rw[List.append_nil];rfl,rfl,trivial⟩ ae
  clear ae hc;rintro⟨⟩ wr ae;have hl2:(j9 u d k++if k=d∧0<d then [46] else []).length≤2*k+1:=by rw[List.length_append];split<;>simp<;>omega
  generalize j9 u d k++(if k=d∧0<d then [46] else [])=pre at *
  have hl3: [48+q%10].length+pre.reverse.length≤9223372036854775807:=by rw[List.length_reverse];simp;omega
  have hpr2:xG u d (k+1)=[48+q%10]++pre.reverse:=by unfold xG;rw[hpr,List.reverse_append];rfl
  refine ao ?_;refine Zm ?_;refine Zv (aa.Dc 10 rfl rfl rfl rfl (by omega)) ?_;refine Zv (aa.Cs rfl rfl rfl (by omega) (by omega)) ?_;refine Zv (aa.fb rfl rfl Tryz.underlying94 Tryz.underlying5 (jq (by omega) (by omega))) ?_;refine Seq.slice (vs:=[_]) (s:=1) rfl rfl rfl Tryz.underlying64 (by kernel_rfl) (bh) (by omega) (by omega) ⟨rfl,trivial⟩ rfl rfl rfl ?_;intro g36 w1 n36;have e36:=Nat.le_trans ae.size n36.ge;replace ae:=ae.step n36.below;have k36:=n36.av;have hrd:=Reads.av (size:=1) k36 1 rfl;refine Zv (aa.lR (l:=[48+q%10]) rfl rfl Tryz.underlying64 Tryz.underlying5 Tryz.underlying9 hrd (fun x hx=>by simp at hx;omega)) ?_;refine Zm ?_;refine Zv (aa.dv (a:=[48+q%10]) (b:=pre.reverse) rfl rfl rfl hl3) ?_;refine Za ?_;refine aU 0 1 5 6 7 (ei ?_);refine Zm ?_;refine Zv (aa.zK 10 rfl rfl rfl rfl (by omega) (by omega)) ?_;refine Za ?_;refine aU 0 1 5 6 7 (ab.aj (ei ?_));refine Zm ?_;refine cH ?_;refine Za ?_;refine aU 0 1 5 6 7 ?_;refine ab.round (k+1) ⟨rfl,rfl,congrArg (fun x:Nat=>some (Value.int .u64 (x:Int))) hdt,?_,rfl,trivial⟩ ⟨by omega,ae,hgo2⟩ (by omega);rw[hpr2];rfl
 ·have hstop:fY u d k:=⟨hgo,by rw[hq];simp at hc;omega⟩
  have hl1: [45].length+(xG u d k).length≤9223372036854775807:=by unfold xG;rw[List.length_reverse];simp;omega
  refine Cd.exit (ab.aD (ab.aA (ab.az (aJ (ao ?_)))));refine Zm ?_;refine Zv (aa.lss rfl rfl rfl) ?_;refine bb 0 1 5 6 7 20 43 (Zt ?_);refine Cd.au rfl (fun hp=> ?_) (fun hp=> ?_)
  ·have hprd:printed n d k=[45]++xG u d k:=by unfold printed xG;rw[hun,if_pos hp,List.reverse_append];rfl
   refine ao ?_;refine Zm ?_;refine Zv (aa.dv (a:=[45]) (b:=xG u d k) rfl rfl rfl hl1) ?_;refine Za ?_;refine cI 0 1 4 5 6 7 20 43 (Zt (Cd.ret (ab.af ?_)));refine ab.aE rfl rfl (.inl rfl) ?_;exact⟨⟨k,hstop,by omega,by rw[hprd]⟩,ae⟩
  ·have hprd:printed n d k=xG u d k:=by unfold printed xG;rw[hun,if_neg hp,List.append_nil]
   refine Cd.skip (aG ?_);refine Zm ?_;refine Za ?_;refine cI 0 1 4 5 6 7 20 43 (Zt (Cd.ret ?_));refine ab.aE rfl rfl (.inl rfl) ?_;exact⟨⟨k,hstop,by omega,by rw[hprd]⟩,ae⟩
theorem kU {u d N M:Nat}(h:fY u d N)(k:fY u d M):N=M:=by
 rcases Nat.lt_trichotomy N M with h1|h1|h1
 ·exact absurd (k.1 N h1) h.2
 ·exact h1
 ·exact absurd (h.1 M h1) k.2
theorem sq (u d:Nat):∀n,¬(0<u/10^n∨n≤d)→∃N,N≤n∧fY u d N:=by
 intro n
 induction n using Nat.strongRecOn with
 |_ n ih=>
  intro hn
  by_cases h:∀j,j<n→0<u/10^j∨j≤d
  ·exact⟨n,Nat.le_refl _,h,hn⟩
  ·have:∃j,j<n∧¬(0<u/10^j∨j≤d):=by
    apply Classical.byContradiction;intro h2;exact h fun j hj=>Classical.byContradiction fun h3=>h2 ⟨j,hj,h3⟩
   obtain⟨j,hj,hp⟩:=this;obtain⟨N,h1,h2⟩:=ih j hj hp;exact⟨N,by omega,h2⟩
theorem qY (u d:Nat)(hu:u≤9223372036854775808)(hd:d≤9):∃N,N≤19∧fY u d N:=
 sq u d 19 (by rintro(h|h)
               ·have:u/10^19=0:=Nat.div_eq_of_lt (by omega)
                omega
               ·omega)
theorem vA (n:Int)(d N:Nat)(w:World)(hn:bt n)(hd:d≤9)(hN:fY n.natAbs d N):
  Calls Tryz.prog 110 #[.int .i64 n, .int .i64 (d:Int)] w fun e w'=>e= .returned (.string (strOf (printed n d N)))∧Grow w w':=
 (mR n d w hn hd).mono fun e w' ⟨⟨M,hM,_,he⟩,hb⟩=>⟨by rw[he,kU hM hN],hb⟩
theorem uJ (n:Int)(d N:Nat):∀x∈printed n d N,x<256:=by
 intro x hx;unfold printed at hx;rw[List.mem_reverse] at hx;rcases List.mem_append.1 hx with hx|hx
 ·exact sf _ _ _ x hx
 ·split at hx
  ·simp at hx;omega
  ·simp at hx
theorem Bd {l:List Nat}{d:Nat}{y:Int}{F B:List Nat}(h:Form l d y F B)(hy:bt y)(hd:d≤9):l.length≤30:=by
 obtain⟨N,hN,-,hN2⟩:=jT h;unfold bt at hy;obtain⟨M,hM,hM2⟩:=qY y.natAbs d (by omega) hd;have:=kU hN hM2;have hb:=h.len;rw[h.eq];unfold jZ;rw[List.length_append,List.length_append];have h1:(if y<0 then [45] else []:List Nat).length≤1:=by split<;>simp
 have h2:(if 0<d then 46::B else []:List Nat).length≤1+d:=by split<;>simp;omega
 omega
theorem Ah (l:List Nat)(k:Nat)(hl:l.length≤30)(hk:k≤l.length):gM (l.take k)<1000000000000000000000000000000:=by
 have h1:=xd l k;have h2:10^k≤10^30:=Nat.pow_le_pow_right (by omega) (by omega);omega
theorem BU (l:List Nat):(l.head? =some 45)↔(0<l.length∧l.getD 0 0=45):=by
 cases l with
 |nil=>simp
 |cons c l=>simp
set_option maxHeartbeats 1000000 in
theorem qy (l:List Nat)(d:Int)(w:World)(hl:∀x∈l,x<256)(hd:bt d):
  Calls Tryz.prog 154 #[.string (strOf l), .int .i64 d] w fun e w'=>∃x b,e= .returned (.tuple #[.int .i64 x, .bool b])∧xM l d x b∧Grow w w':=by
 have ae:=Below.refl w.heap.size w;refine Zs 73 Tryz.func154 ?_;refine ao ?_;refine Za ?_;refine Za ?_;refine aV 0 1 4 5 (aJ (ao ?_));refine Zm ?_;refine Zv (aa.lss rfl rfl rfl) ?_;refine Zm ?_;refine ah.start ?_;refine bM (fun hcx=>aa.move rfl rfl) ?_;refine ah.next rfl rfl rfl rfl rfl rfl rfl (fun hcx=>aa.gtr rfl rfl rfl) ?_;refine ah.or rfl rfl rfl rfl rfl rfl rfl ?_;refine Zm ?_;refine ah.start ?_;refine bM (fun hcx=>aa.move rfl rfl) ?_;refine ah.next rfl rfl rfl rfl rfl rfl rfl (fun hcx=>aa.dh rfl rfl Tryz.underlying9) ?_;refine ah.next rfl rfl rfl rfl rfl rfl rfl (fun hcx=>aa.gtr rfl rfl rfl) ?_;refine ah.or rfl rfl rfl rfl rfl rfl rfl ?_;refine aU 0 1 4 5 20 (Zt ?_);refine Cd.cond rfl (fun h=> ?_) (fun h=> ?_)
 ·skip
  refine ao ?_;refine Za ?_;refine Za ?_;refine aU 0 1 4 5 20 (Zt (Cd.ret (ab.af ?_)));refine ab.bf rfl rfl rfl (.inl rfl) ?_;refine⟨0,false,rfl,⟨fun h=>(by cases h),fun _=>⟨rfl,fun h1 h2 y hy F B hf=> ?_⟩⟩,ae⟩;have:=Bd hf hy (by omega);simp at h;omega
 obtain⟨D,rfl⟩:∃D:Nat,d=(D:Int):=⟨d.toNat,by simp at h;omega⟩;have hD:D≤9:=by simp at h;omega
 have hlen:l.length≤30:=by simp at h;omega
 clear h;have hno:(∀y,bt y→∀F B,¬Form l D y F B)→xM l (D:Int) 0 false:=fun h=>⟨fun h=>(by cases h),fun _=>⟨rfl,fun _ _=>by rw[Int.toNat_natCast];exact h⟩⟩;refine Cd.skip (aG ?_);refine Zv (aa.build rfl rfl (qq _)) ?_;refine Zl bQ ?_;intro g6 w1 n6;have e6:=Nat.le_trans ae.size n6.ge;replace ae:=ae.step n6.below;have k6:=n6.av;refine Zo 2 k6 ?_;intro w2 pw2;replace ae:=ae.put k6 pw2 e6;replace k6:=pw2.av;refine bj 0 1 4 5 6 20 (aJ (ao ?_));refine Za ?_;refine bb 0 1 4 5 6 7 20 (Zt (Cd.block ?_));have hm0:nL w2 (.slice none 0 0) 0:=⟨dB.zero _⟩
 refine Cd.loop (σ:=Nat × Value) (fun s=>[(0, .string (strOf l)),(1, .int .i64 (D:Int)),(6, .pointer (some ⟨g6,0,none⟩)),(7, .int .i64 (s.1:Int))])
  (fun s wr=>s.1≤l.length∧Below w.heap.size w wr∧nL wr s.2 (gM (l.take s.1))∧aK wr g6 252 #[.bool false,s.2]) (fun s=>l.length-s.1) (0, .slice none 0 0) ⟨Nat.zero_le _,ae,by simpa[gM] using hm0,k6⟩ ⟨rfl,rfl,rfl,rfl,trivial⟩ ?_
 clear ae k6;rintro⟨k,m⟩ wr ⟨hk,ae,hm,k6⟩;dsimp only at hk hm k6⊢;have hbig:=Ah l k hlen hk;refine Cd.seq (ao ?_);refine Zm ?_;refine Zm ?_;refine Zv (aa.dh rfl rfl Tryz.underlying9) ?_;refine Zv (aa.lss rfl rfl rfl) ?_;refine aU 0 1 6 7 25 (Zt ?_);refine Cd.au rfl (fun hc=> ?_) (fun hc=> ?_)
 ·obtain⟨c,hc⟩:∃c,l[k]? =some c:=⟨_,List.getElem?_eq_getElem (show k<l.length by omega)⟩
  have hc256:=hl c (List.mem_of_getElem? hc);have htk:l.take (k+1)=l.take k++[c]:=by rw[List.take_add_one,hc];rfl
  have hvs:gM (l.take (k+1))=if 48≤c∧c≤57 then 10*gM (l.take k)+(c-48) else gM (l.take k):=by rw[htk,rG]
  generalize hV:gM (l.take k)=V at *
  refine Cd.skip (aJ (Cd.block (ao ?_)));refine Zm ?_;refine Zm ?_;refine Zv (aa.cQ (l:=l) (j:=k) rfl rfl rfl Tryz.underlying9 rfl hc hc256) ?_;refine Zv (aa.geq rfl rfl rfl) ?_;refine Zm ?_;refine ah.start ?_;refine bM (fun hcx=>aa.move rfl rfl) ?_;refine ah.next rfl rfl rfl rfl rfl rfl rfl (fun hcx=>aa.move rfl rfl) ?_;refine ah.next rfl rfl rfl rfl rfl rfl rfl (fun hcx=>aa.cQ (l:=l) (j:=k) rfl rfl rfl Tryz.underlying9 rfl hc hc256) ?_;refine ah.next rfl rfl rfl rfl rfl rfl rfl (fun hcx=>aa.leq rfl rfl rfl) ?_;refine ah.and rfl rfl rfl rfl rfl rfl rfl ?_;refine bj 0 1 6 7 25 37 (Zt ?_);refine Cd.cond rfl (fun h=> ?_) (fun h=> ?_)
  ·have hcd:48≤c∧c≤57:=by simp at h;omega
   rw[if_pos hcd] at hvs;clear h;refine Cd.draw 10 (by kernel_rfl) [] (.inl rfl) rfl Grow Grow.refl (fun _ _ _=>Grow.trans) ?_;intro w3 hw3 zw3;replace ae:=ae.step hw3;replace k6:=k6.step hw3;replace hm:=hm.step hw3;have zbel:=ae.size;have zlt:=k6.lt;refine Zd (fun w hG=>aa.aQ rfl rfl Tryz.underlying252 rfl (k6.step hG) (m:=2) (by kernel_rfl) rfl) ?_;refine Dr.call (Φ:=fun u w=>bU w u 10) rfl (fun w=>Ze Tryz.func200) rfl (bU.dz _) (fun w hG=>lV 10 _ (by omega) (by omega)) ?_;refine Dr.tl (j:=1) (Φ:=fun u w=>bU w u ((V:Int)*10)) rfl rfl rfl (fun u w=>Ze Tryz.func199) rfl (bU.dz _) (fun u w hG hu=>vj _ u (V:Int) 10 _ (hm.step hG).oA hu (ia (by omega)) (ia (by omega))) ?_;refine cn ?_;refine cn ?_;refine Zd (fun w hG=>aa.cQ (l:=l) (j:=k) rfl rfl rfl Tryz.underlying9 rfl hc hc256) ?_;refine Zd (fun w hG=>aa.AO rfl rfl rfl (jq (by omega) (by omega))) ?_;refine Zd (fun w hG=>aa.fb rfl rfl Tryz.underlying5 Tryz.underlying2 (mJ (by omega) (by omega))) ?_;refine Dr.call (Φ:=fun u w=>bU w u ((c:Int)-48)) rfl (fun w=>Ze Tryz.func200) rfl (bU.dz _) (fun w hG=>lV ((c:Int)-48) _ (by omega) (by omega)) ?_;refine Dr.call2 (j:=2) (j':=8) (Φ:=fun u w=>bU w u ((V:Int)*10+((c:Int)-48))) rfl rfl rfl rfl rfl (fun u u' w=>Ze Tryz.func198) rfl (bU.dz _) (fun u u' w hG hu hu'=>ud _ _ ((V:Int)*10) ((c:Int)-48) _ hu hu' (ia (by omega)) (ia (by omega))) ?_;refine Dr.nil ?_;refine ba.open (j:=9) rfl ?_;intro u9;refine ba.done (F':=[(0,_),(1,_),(6,_),(7,_),(25,_),(37,_),(47,_)]) rfl ⟨rfl,rfl,rfl,rfl,rfl,rfl,rfl,trivial⟩ ?_;intro w4 hw4 fw4;replace ae:=ae.step hw4;replace k6:=k6.step hw4;replace hm:=hm.step hw4;obtain⟨-,h9⟩:=(by assumption:True∧bU _ _ ((V:Int)*10+((c:Int)-48)));rw[show((V:Int)*10+((c:Int)-48))=((gM (l.take (k+1)):Nat):Int) by omega] at h9;obtain⟨mr,e9,omr,hmr⟩:=h9.agg;rw[decide_eq_false (show¬((gM (l.take (k+1)):Nat):Int)<0 by omega)] at e9;subst e9;rw[Int.natAbs_natCast] at hmr;have hmr:nL _ mr (gM (l.take (k+1))):=⟨hmr⟩;have hni:=hm.DN.ni;refine Zo 2 k6 ?_;intro w5 pw5;replace ae:=ae.put k6 pw5 e6;replace hmr:=hmr.put k6 pw5 e6;replace k6:=pw5.av;refine bj 0 1 6 7 25 37 (ab.aj (ei ?_));refine Zm ?_;refine cH ?_;refine Za ?_;refine bj 0 1 6 7 25 37 ?_;exact ab.round (k+1,mr) ⟨rfl,rfl,rfl,rfl,trivial⟩ ⟨by dsimp only;omega,ae,hmr,k6⟩ (by dsimp only;omega)
  ·rw[if_neg (by simp at h;omega)] at hvs
   refine Cd.skip (ab.aj (ei ?_));refine Zm ?_;refine cH ?_;refine Za ?_;refine bj 0 1 6 7 25 37 ?_;exact ab.round (k+1,m) ⟨rfl,rfl,rfl,rfl,trivial⟩ ⟨by dsimp only;omega,ae,by dsimp only;rw[hvs];exact hm,k6⟩ (by dsimp only;omega)
 ·obtain rfl:k=l.length:=by omega
  rw[List.take_of_length_le (Nat.le_refl _)] at hm hbig;have hni:=hm.DN.ni;have hsz:(eI l).natAbs=gM l:=by unfold eI;split<;>omega
  have hh:=BU l
  have hl0:0<l.length→l[0]? =some (l.getD 0 0):=by
   intro h
   cases l with
   |nil=>simp at h
   |cons c l=>rfl
  have hl1:l.getD 0 0<256:=by
   cases l with
   |nil=>simp
   |cons c l=>exact hl c (by simp)
  generalize l.getD 0 0=c0 at *
  refine Cd.exit (ab.aD (ab.aA (ab.az (Zt ?_))));refine Cd.lz (σ:=Value) (fun _=>[(0, .string (strOf l)),(1, .int .i64 (D:Int)),(6, .pointer (some ⟨g6,0,none⟩))]) (fun m' wr=>Below w.heap.size w wr∧nL wr m' (eI l).natAbs∧aK wr g6 252 #[.bool (decide (eI l<0)),m']) ?_ ?_
  ·skip
   refine ao ?_;refine Zm ?_;refine Zv (aa.dh rfl rfl Tryz.underlying9) ?_;refine Zv (aa.gtr rfl rfl rfl) ?_;refine Zm ?_;refine ah.start ?_;refine bM (fun hcx=>aa.move rfl rfl) ?_;refine ah.next rfl rfl rfl rfl rfl rfl rfl (fun hcx=>aa.cQ (l:=l) (j:=0) (c:=c0) rfl rfl rfl Tryz.underlying9 rfl (hl0 (by simp at hcx;omega)) hl1) ?_;refine ah.next rfl rfl rfl rfl rfl rfl rfl (fun hcx=>aa.aB rfl rfl rfl) ?_;refine ah.and rfl rfl rfl rfl rfl rfl rfl ?_;refine bj 0 1 6 7 25 55 (Zt ?_);refine Cd.cond rfl (fun h=> ?_) (fun h=> ?_)
   ·have hs:eI l= -(gM l:Int):=by unfold eI;rw[if_pos (hh.2 (by simp at h;exact⟨by omega,by omega⟩))]
    refine Zr ?_;refine Zv (aa.aQ rfl rfl Tryz.underlying252 rfl k6 (m:=2) (by kernel_rfl) rfl) ?_;refine Zc (Ze Tryz.func201) (rF _ (gM l:Int) _ hm.oA (ia (by omega))) ?_;rintro e w7 ⟨v7,rfl,hb7,hv7⟩;refine⟨_,rfl,?_⟩;rw[←hs] at hv7;obtain⟨mr,rfl,omr,hmr⟩:=hv7.agg;have hmr:nL _ mr (eI l).natAbs:=⟨hmr⟩;replace ae:=ae.step hb7;replace k6:=k6.step hb7;replace hm:=hm.step hb7;refine Zo 2 k6 ?_;intro w3 pw3;replace ae:=ae.put k6 pw3 e6;replace hmr:=hmr.put k6 pw3 e6;replace k6:=pw3.av;refine bj 0 1 6 7 25 55 ?_;exact ab.join mr ⟨rfl,rfl,rfl,trivial⟩ ⟨ae,hmr,k6⟩
   ·have hs:eI l=(gM l:Int):=by
     unfold eI;rw[if_neg];intro h2;have:=hh.1 h2;simp at h;omega
    have hdf:decide (eI l<0)=false:=decide_eq_false (by omega);refine Cd.skip ?_;exact ab.join m ⟨rfl,rfl,rfl,trivial⟩ ⟨ae,by rw[hsz];exact hm,by rw[hdf];exact k6⟩
  clear ae k6 hm;rintro m' wr' ⟨ae,hm,k6⟩;have hzb:(eI l).natAbs<oA:=by rw[hsz];exact ia (by omega)
  have hsbd:=vQ (eI l);refine ao ?_;refine Zv (aa.aQ rfl rfl Tryz.underlying252 rfl k6 (m:=2) (by kernel_rfl) rfl) ?_;refine Zc (Ze Tryz.func202) (vV _ (eI l) _ ⟨_,rfl,hm.DN⟩ hzb) ?_;rintro e w8 ⟨rfl,hb8⟩;refine⟨_,rfl,?_⟩;replace ae:=ae.step hb8;replace k6:=k6.step hb8;replace hm:=hm.step hb8;obtain⟨N,hN19,hN⟩:=qY (br (eI l)).natAbs D (by omega) hD;refine Zm ?_;refine Zv (aa.extract rfl rfl rfl) ?_;refine Zv (aa.extract rfl rfl rfl) ?_;refine Za ?_;refine Za ?_;refine aU 0 1 6 8 9 (aJ (ao ?_));refine Zm ?_;refine Zv (aa.not rfl rfl) ?_;refine Zm ?_;refine ah.start ?_;refine bM (fun hcx=>aa.move rfl rfl) ?_;refine ah.next rfl rfl rfl rfl rfl rfl rfl (fun hcx=>aa.move rfl rfl) ?_;refine ah.bY rfl rfl rfl rfl rfl rfl rfl (fun hcx=>Ze Tryz.func110) (fun hcx=>vA (br (eI l)) D N _ ⟨hsbd.1,hsbd.2⟩ hD hN) ?_;intro w3 hw3;replace ae:=ae.step hw3;replace k6:=k6.step hw3;replace hm:=hm.step hw3;refine ah.next rfl rfl rfl rfl rfl rfl rfl (fun hcx=>aa.move rfl rfl) ?_;refine ah.next rfl rfl rfl rfl rfl rfl rfl (fun hcx=>aa.fH (a:=printed (br (eI l)) D N) (b:=l) rfl rfl rfl (uJ _ _ _) hl) ?_;refine ah.or rfl rfl rfl rfl rfl rfl rfl ?_;refine bj 0 1 6 8 9 71 (Zt ?_);refine Cd.cond rfl (fun h=> ?_) (fun h=> ?_)
  ·have hnf:∀y,bt y→∀F B,¬Form l D y F B:=by
    intro y hy F B hf;have h1:=vd hf;have h2:fits (eI l)=true:=by rw[h1];exact oF hy.1 hy.2
    have h3:br (eI l)=y:=by unfold br;rw[h2,if_pos rfl,h1]
    obtain⟨M,hM,hM2,-⟩:=jT hf;rw[h3] at hN h;rw[h2,←kU hM hN,←hM2] at h;simp at h
   refine ao ?_;refine Za ?_;refine Za ?_;refine cI 0 1 4 5 6 8 9 71 (Zt (Cd.ret (ab.af ?_)));refine ab.bf rfl rfl rfl (.inl rfl) ?_;exact⟨0,false,rfl,hno hnf,ae⟩
  ·have hy2:fits (eI l)=true∧printed (br (eI l)) D N=l:=by
    cases hf:fits (eI l) with
    |false=>rw[hf] at h;simp at h
    |true=>rw[hf] at h;simp at h;exact⟨rfl,h⟩
   obtain⟨F,B,hfm⟩:=ot (br (eI l)) D N hN;rw[hy2.2] at hfm;refine Cd.skip (aG ?_);refine Zm ?_;refine Za ?_;refine Za ?_;refine cI 0 1 4 5 6 8 9 71 (Zt (Cd.ret ?_));refine ab.bf rfl rfl rfl (.inl rfl) ?_;exact⟨_,true,rfl,⟨fun _=>⟨by omega,by omega,⟨hsbd.1,hsbd.2⟩,F,B,by rw[Int.toNat_natCast];exact hfm⟩,fun h=>(by cases h)⟩,ae⟩
theorem lQ (v n:Nat)(w:World)(hv:v≤100000)(hn:n≤9):Calls Tryz.prog 149 #[.int .i64 (v:Int), .int .i64 (n:Int)] w fun e w'=>e= .returned (.string (strOf (eN v n)))∧Grow w w':=by
 have ae:=Below.refl w.heap.size w;refine Zs 23 Tryz.func149 ?_;refine ao ?_;refine Za ?_;refine bD 0 1 4 (aG ?_);refine Za ?_;refine aV 0 1 4 5 (aJ (ao ?_));refine Za ?_;refine aU 0 1 4 5 6 (Zt (Cd.block ?_))
 refine Cd.loop (σ:=Nat) (fun k=>[(0, .int .i64 ((v/10^k:Nat):Int)),(1, .int .i64 (n:Int)),(5, .string (strOf (eN v k))),(6, .int .i64 (k:Int))])
  (fun k wr=>k≤n∧Below w.heap.size w wr) (fun k=>n-k) 0 ⟨Nat.zero_le _,ae⟩ ⟨congrArg (fun x:Nat=>some (Value.int .i64 (x:Int))) (show v=v/10^0 by simp),rfl,rfl,rfl,trivial⟩ ?_
 clear ae;rintro k wr ⟨hk,ae⟩;have hdk:v/10^k≤v:=Nat.div_le_self _ _;have hdt:v/10^k/10=v/10^(k+1):=by rw[Nat.div_div_eq_div_mul,Nat.pow_succ]
 have hdr:eN v (k+1)=(48+v/10^k%10)::eN v k:=rfl;have hlen:=fo v k
 generalize hq:v/10^k=q at *
 refine Cd.seq (ao ?_);refine Zm ?_;refine Zm ?_;refine Zv (aa.lss rfl rfl rfl) ?_;refine aU 0 1 5 6 9 (Zt ?_);refine Cd.au rfl (fun hc=> ?_) (fun hc=> ?_)
 ·have hl3: [48+q%10].length+(eN v k).length≤9223372036854775807:=by simp;omega
  have hqm:q%10<10:=Nat.mod_lt _ (by omega);refine Cd.skip (aJ (Cd.block (ao ?_)));refine Zm ?_;refine Zv (aa.iK rfl rfl rfl (by omega) (by omega)) ?_;refine cH ?_;refine Zv (aa.fb rfl rfl Tryz.underlying3 Tryz.underlying5 (jq (by omega) (by omega))) ?_;refine Seq.slice (vs:=[_]) (s:=1) rfl rfl rfl Tryz.underlying64 (by kernel_rfl) (bh) (by omega) (by omega) ⟨rfl,trivial⟩ rfl rfl rfl ?_;intro g16 w1 n16;have e16:=Nat.le_trans ae.size n16.ge;replace ae:=ae.step n16.below;have k16:=n16.av;rw[show(48+(q:Int)%10)=((48+q%10:Nat):Int) by omega] at k16;have hrd:=Reads.av (size:=1) k16 1 rfl;refine Zv (aa.lR (l:=[48+q%10]) rfl rfl Tryz.underlying64 Tryz.underlying5 Tryz.underlying9 hrd (fun x hx=>by simp at hx;omega)) ?_;refine Zm ?_;refine Zv (aa.dv (a:=[48+q%10]) (b:=eN v k) rfl rfl rfl hl3) ?_;refine Za ?_;refine aU 0 1 5 6 9 (ei ?_);refine Zm ?_;refine Zv (aa.lB rfl rfl rfl (by omega) (by omega) (by omega)) ?_;refine Za ?_;refine aU 0 1 5 6 9 (ab.aj (ei ?_));refine Zm ?_;refine cH ?_;refine Za ?_;refine aU 0 1 5 6 9 ?_;refine ab.round (k+1) ⟨congrArg (fun x:Int=>some (Value.int .i64 x)) (by rw[←hdt];omega),rfl,by rw[hdr];rfl,rfl,trivial⟩ ⟨by omega,ae⟩ (by omega)
 ·obtain rfl:k=n:=by omega
  refine Cd.exit (ab.aD (ab.aA (ab.az (aG ?_))));refine Zm ?_;refine Za ?_;refine bj 0 1 4 5 6 9 (Zt (Cd.ret ?_));refine ab.aE rfl rfl (.inl rfl) ?_;exact⟨rfl,ae⟩
theorem jS (y m d:Int)(w:World)(hok:fB y m d=true):Calls Tryz.prog 111 #[.int .i64 (fe y m d)] w fun e w'=>e= .returned (.string (strOf (fC y.toNat m.toNat d.toNat)))∧Grow w w':=by
 have ae:=Below.refl w.heap.size w;obtain⟨o1,o2,o3,o4,o5,o6⟩:=mO hok;have ey:y=(y.toNat:Int):=by omega
 have em:m=(m.toNat:Int):=by omega
 have ed:d=(d.toNat:Int):=by omega
 have hciv:=fun W=>rV y m d W hok;have hy2:y.toNat≤9999:=by omega
 have hm2:m.toNat≤12:=by omega
 have hd2:d.toNat≤31:=by omega
 have hy1:1970≤y.toNat:=by omega
 generalize fe y m d=n at *
 refine Zs 24 Tryz.func111 ?_;refine ao ?_;refine Za ?_;refine eh 0 2 (aG ?_);refine Zm ?_;refine Zc (Ze Tryz.func148) (hciv _) ?_;rintro e w8 ⟨rfl,hb8⟩;refine⟨_,rfl,?_⟩;replace ae:=ae.step hb8;rw[ey,em,ed]
 generalize y.toNat=Y at *
 generalize m.toNat=M at *
 generalize d.toNat=D at *
 simp only[Int.toNat_natCast];refine Zm ?_;refine Zv (aa.extract rfl rfl rfl) ?_;refine Zv (aa.extract rfl rfl rfl) ?_;refine Zv (aa.extract rfl rfl rfl) ?_;refine Za ?_;refine Za ?_;refine Za ?_;refine aU 0 2 3 4 5 (aJ (ao ?_));refine Zm ?_;refine Zv (aa.aB rfl rfl rfl) ?_;refine bj 0 2 3 4 5 13 (Zt ?_);refine Cd.aN rfl (decide_eq_false (by omega)) ?_;refine Cd.skip (aG ?_);refine Zm ?_;refine Zc (Ze Tryz.func149) (lQ Y 4 _ (by omega) (by omega)) ?_;rintro e w9 ⟨rfl,hb9⟩;refine⟨_,rfl,?_⟩;replace ae:=ae.step hb9;refine Zv (aa.dv (a:=eN Y 4) (b:=[45]) rfl rfl rfl (by rw[fo];simp)) ?_;refine Zm ?_;refine Zc (Ze Tryz.func149) (lQ M 2 _ (by omega) (by omega)) ?_;rintro e w10 ⟨rfl,hb10⟩;refine⟨_,rfl,?_⟩;replace ae:=ae.step hb10;refine Zv (aa.dv (a:=eN Y 4++[45]) (b:=eN M 2) rfl rfl rfl (by rw[List.length_append,fo,fo];simp)) ?_;refine Zv (aa.dv (a:=eN Y 4++[45]++eN M 2) (b:=[45]) rfl rfl rfl (by rw[List.length_append,List.length_append,fo,fo];simp)) ?_;refine Zm ?_;refine Zc (Ze Tryz.func149) (lQ D 2 _ (by omega) (by omega)) ?_;rintro e w11 ⟨rfl,hb11⟩;refine⟨_,rfl,?_⟩;replace ae:=ae.step hb11;refine Zv (aa.dv (a:=eN Y 4++[45]++eN M 2++[45]) (b:=eN D 2) rfl rfl rfl (by rw[List.length_append,List.length_append,List.length_append,fo,fo,fo];simp)) ?_;refine Za ?_;refine bj 0 2 3 4 5 13 (Zt (Cd.ret ?_));refine ab.aE rfl rfl (.inl rfl) ?_;exact⟨rfl,ae⟩
theorem m8 (y m d:Nat):∀x∈fC y m d,x<256:=by
 intro x hx;unfold fC at hx;simp only[List.mem_append] at hx;rcases hx with (((h|h)|h)|h)|h
 ·exact sy _ _ x h
 ·simp at h;omega
 ·exact sy _ _ x h
 ·simp at h;omega
 ·exact sy _ _ x h
def kO (k:Nat):Nat:=if 7<k then 2 else if 4<k then 1 else 0
def gD (l:List Nat):Nat→List Int
 |0=>[0,0,0]
 |k+1=>if k=4∨k=7 then gD l k else(gD l k).set (kO k) (10*(gD l k).getD (kO k) 0+(l.getD k 0:Int)-48)
theorem tJ (l:List Nat)(k:Nat):(gD l k).length=3:=by
 induction k with
 |zero=>rfl
 |succ k ih=>unfold gD;split;exact ih;simp[ih]
theorem B8 (l:List Nat)(hl:∀x∈l,x<256):∀k,∀x∈gD l k,250-(10^k*250:Int)≤x∧x≤10^k*250-250:=by
 intro k
 induction k with
 |zero=>intro x hx;simp[gD] at hx;subst hx;decide
 |succ k ih=>
  have hp:(10:Int)^(k+1)=10*10^k:=by rw[Int.pow_succ];omega
  have hp0:(1:Int)≤10^k:=by
   have:0<(10:Nat)^k:=Nat.pow_pos (by omega);have:((10^k:Nat):Int)=(10:Int)^k:=by simp
   omega
  rw[hp];intro x hx;unfold gD at hx;split at hx
  ·have:=ih x hx;omega
  ·rcases List.mem_or_eq_of_mem_set hx with h|h
   ·have:=ih x h;omega
   ·have h1:(gD l k).getD (kO k) 0∈gD l k:=by
     have hi:kO k<(gD l k).length:=by rw[tJ];unfold kO;split;omega;split<;>omega
     rw[List.getD_eq_getElem?_getD,List.getElem?_eq_getElem hi];exact List.getElem_mem hi
    have h2:=ih _ h1
    have h3:l.getD k 0<256:=by
     rcases Nat.lt_or_ge k l.length with h|h
     ·rw[List.getD_eq_getElem?_getD,List.getElem?_eq_getElem h];exact hl _ (List.getElem_mem h)
     ·rw[List.getD_eq_getElem?_getD,List.getElem?_eq_none h];simp
    omega
theorem zv (l:List Nat)(h:l.length=10):gD l 10=[dS (l.take 4),dS ((l.take 7).drop 5),dS ((l.take 10).drop 8)]:=by
 obtain⟨c0,c1,c2,c3,c4,c5,c6,c7,c8,c9,rfl⟩:=Bb h;rfl
section
variable {P:Program} {n:Nat} {F:List (Nat × Value)} {w:World} {v:Value}
theorem ab.Ec {fn:Func}{R:Ending→World→Prop}{t u s r:Nat}{v' v'' v3:Value}{e:Exit}(hr:fn.results= #[.tmp t, .tmp u, .tmp s, .tmp r]) (hl:look F t=some v) (hl':look F u=some v') (hl'':look F s=some v'') (hl3:look F r=some v3) (he:e= .ret∨e= .normal) (h:R (.returned (.tuple #[v,v',v'',v3])) w):ab (bodyPost P fn R) e n F w:=
 ab.end_ (fun a ha=>by simp[results,hr,ha.slot t v hl,ha.slot u v' hl',ha.slot s v'' hl'',ha.slot r v3 hl3]) he h
end
theorem DS {x x' y y' z z' u u':Value}(h:x=x')(h2:y=y')(h3:z=z')(h4:u=u'):Ending.returned (.tuple #[x,y,z,u])= .returned (.tuple #[x',y',z',u']):=by rw[h,h2,h3,h4]
theorem Own.lit {w:World}{B g n size:Nat}{e:TypeId}{cs:Array Value}(k:aK w g e cs)(hB:B≤g)(hs:cs.size=n*size)(hn:n≤maxLen):Own w B e size (.slice (some ⟨g,0,none⟩) n n) n cs.toList:=
 ⟨⟨by simpa using hs, .inr ⟨g,n,cs,rfl,hB,k,Nat.le_refl _,hn,hs,List.take_of_length_le (by simp[hs])⟩⟩⟩
theorem wh (l:List Nat):∀u∈Bt l,u.oneCell'=true:=by
 intro u hu;simp[Bt] at hu;obtain⟨d,-,rfl⟩:=hu;rfl
theorem Own.base {w:World}{B B' size n:Nat}{e:TypeId}{v:Value}{xs:List Value}(h:Own w B e size v n xs)(hb:B'≤B):Own w B' e size v n xs:=⟨⟨h.row.1,h.row.2.imp id fun⟨g,cap,cur,e1,e2,r⟩=>⟨g,cap,cur,e1,Nat.le_trans hb e2,r⟩⟩⟩
theorem vP (n:Nat)(w:World)(h:n≤2932896):Calls Tryz.prog 236 #[.int .i64 (n:Int)] w fun e w'=>e= .returned (.bool true)∧Grow w w':=by
 have ae:=Below.refl w.heap.size w;refine Zs 9 Tryz.func236 ?_;refine ao ?_;refine Za ?_;refine eh 0 2 (aG ?_);refine Zm ?_;refine Zv (aa.geq rfl rfl rfl) ?_;refine Zm ?_;refine ah.start ?_;refine bM (fun hcx=>aa.move rfl rfl) ?_;refine ah.next rfl rfl rfl rfl rfl rfl rfl (fun hcx=>aa.leq rfl rfl rfl) ?_;refine ah.and rfl rfl rfl rfl rfl rfl rfl ?_;refine Za ?_;refine eh 0 2 (Zt (Cd.ret ?_));refine ab.aE rfl rfl (.inl rfl) ?_;exact⟨bw (aL (by simp;omega)),ae⟩
theorem zS (e:Nat)(he:e<146097):(yT e:Int)=e-(365*(gS e:Int)+(gS e:Int)/4-(gS e:Int)/100)∧yT e<366:=by
 obtain⟨h1,h2,h3⟩:=vp e he;obtain⟨l1,l2⟩:=rr (gS e);have:=tE (gS e) h1;unfold yT;omega
theorem Db (e:Nat)(he:e<146097):(mT e:Int)=(5*(yT e:Int)+2)/153∧mT e≤11∧(153*mT e+2)/5≤yT e:=by
 have h:=(zS e he).2;obtain⟨m1,m2,-⟩:=nW (yT e) h;have hm:mT e=(5*yT e+2)/153:=rfl;rw[←hm] at m1 m2;omega
theorem yl (n q e:Nat)(w:World)(h:n≤2932896)(hq:(n+719468)/146097=q)(he:(n+719468)%146097=e):Calls Tryz.prog 218 #[.int .i64 (n:Int)] w fun en w'=>en= .returned (.tuple #[.int .i64 (cY q e:Int), .int .i64 (cM e:Int), .int .i64 (dT e:Int), .bool true])∧Grow w w':=by
 have ae:=Below.refl w.heap.size w;have hel:e<146097:=by rw[←he];exact Nat.mod_lt _ (by decide)
 have hq2:((n:Int)+719468)/146097=(q:Int):=by omega
 have he2:((n:Int)+719468)%146097=(e:Int):=by omega
 have hq3:q≤30:=by omega
 obtain⟨e1,e2,e3⟩:=vp e hel;obtain⟨y1,y2⟩:=zS e hel;obtain⟨m1,m2,m3⟩:=Db e hel;have hd:dT e=yT e-(153*mT e+2)/5+1:=rfl;have hy:((e:Int)-(e:Int)/1460+(e:Int)/36524-(e:Int)/146096)/365=(gS e:Int):=by unfold gS;omega
 have hcY:cY q e=if 10≤mT e then q*400+gS e+1 else q*400+gS e:=rfl;have hcM:cM e=if 10≤mT e then mT e-9 else mT e+3:=rfl
 generalize cY q e=cy at *
 generalize cM e=cm at *
 generalize dT e=dd at *
 generalize mT e=m at *
 generalize yT e=t at *
 generalize gS e=y at *
 clear hq he e2 e3;refine Zs 68 Tryz.func218 ?_;refine ao ?_;refine Za ?_;refine Za ?_;refine Za ?_;refine Za ?_;refine aU 0 2 3 4 5 (aJ (ao ?_));refine Zm ?_;refine Zc (Ze Tryz.func236) (vP n _ h) ?_;rintro en w5 ⟨rfl,hb5⟩;refine⟨_,rfl,?_⟩;replace ae:=ae.step hb5;refine Zv (aa.not rfl rfl) ?_;refine bj 0 2 3 4 5 15 (Zt ?_);refine Cd.aN rfl rfl ?_;refine Cd.skip (aG ?_);refine Zm ?_;refine cH ?_;refine Za ?_;refine bb 0 2 3 4 5 6 15 (aG ?_);refine Zm ?_;refine Zv ((aa.iK rfl rfl rfl (by omega) (by omega)).cast (v':= .int .i64 (e:Int)) (int_eq he2)) ?_;refine Za ?_;refine cI 0 2 3 4 5 6 7 15 (aG ?_);refine Zm ?_;refine Zm ?_;refine Zv (aa.lB rfl rfl rfl (by omega) (by omega) (by omega)) ?_;refine Zv (aa.eU rfl rfl rfl (by omega) (by omega)) ?_;refine Zm ?_;refine Zv (aa.lB rfl rfl rfl (by omega) (by omega) (by omega)) ?_;refine cH ?_;refine Zm ?_;refine Zv (aa.lB rfl rfl rfl (by omega) (by omega) (by omega)) ?_;refine Zv (aa.eU rfl rfl rfl (by omega) (by omega)) ?_;refine Zv ((aa.lB rfl rfl rfl (by omega) (by omega) (by omega)).cast (v':= .int .i64 (y:Int)) (int_eq hy)) ?_;refine Za ?_;refine dG 0 2 3 4 5 6 7 8 15 (aG ?_);refine Zm ?_;refine Zm ?_;refine Zv (aa.rZ rfl rfl rfl (by omega) (by omega)) ?_;refine Zm ?_;refine Zv (aa.lB rfl rfl rfl (by omega) (by omega) (by omega)) ?_;refine cH ?_;refine Zm ?_;refine Zv (aa.lB rfl rfl rfl (by omega) (by omega) (by omega)) ?_;refine Zv (aa.eU rfl rfl rfl (by omega) (by omega)) ?_;refine Zv ((aa.eU rfl rfl rfl (by omega) (by omega)).cast (v':= .int .i64 (t:Int)) (int_eq (by omega))) ?_;refine Za ?_;refine dg 0 2 3 4 5 6 7 8 9 15 (aG ?_);refine Zm ?_;refine Zv (aa.rZ rfl rfl rfl (by omega) (by omega)) ?_;refine cH ?_;refine Zv ((aa.lB rfl rfl rfl (by omega) (by omega) (by omega)).cast (v':= .int .i64 (m:Int)) (int_eq (by omega))) ?_;refine Za ?_;refine dr 0 2 3 4 5 6 7 8 9 10 15 (aG ?_);refine Zm ?_;refine Zm ?_;refine Zv (aa.rZ rfl rfl rfl (by omega) (by omega)) ?_;refine cH ?_;refine Zv (aa.lB rfl rfl rfl (by omega) (by omega) (by omega)) ?_;refine Zv (aa.eU rfl rfl rfl (by omega) (by omega)) ?_;refine Zv ((aa.jH rfl rfl rfl (by omega) (by omega)).cast (v':= .int .i64 (dd:Int)) (int_eq (by omega))) ?_;refine Za ?_;refine fG 0 2 3 4 5 6 7 8 9 10 11 15 (aG ?_);refine Zm ?_;refine Zv ((aa.lB rfl rfl rfl (by omega) (by omega) (by omega)).cast (v':= .int .i64 (q:Int)) (int_eq hq2)) ?_;refine Zv (aa.rZ rfl rfl rfl (by omega) (by omega)) ?_;refine Zm ?_;refine cH ?_;refine Za ?_;refine gF 0 2 3 4 5 6 7 8 9 10 11 12 15 (aJ (ao ?_));refine Zm ?_;refine Zv (aa.geq rfl rfl rfl) ?_;refine jk 0 2 3 4 5 6 7 8 9 10 11 12 15 58 (Zt ?_);refine Cd.au rfl (fun hc=> ?_) (fun hc=> ?_)
 ·rw[if_pos (by omega)] at hcY hcM
  subst hcY hcM;refine ao ?_;refine Zm ?_;refine cH ?_;refine Zm ?_;refine Zv (aa.eU rfl rfl rfl (by omega) (by omega)) ?_;refine Zm ?_;refine Za ?_;refine Za ?_;refine Za ?_;refine Za ?_;refine jk 0 2 3 4 5 6 7 8 9 10 11 12 15 58 (Zt (Cd.ret (ab.af ?_)));refine ab.Ec rfl rfl rfl rfl rfl (.inl rfl) ?_;exact⟨DS (int_eq (by omega)) (int_eq (by omega)) rfl rfl,ae⟩
 ·rw[if_neg (by omega)] at hcY hcM
  subst hcY hcM;refine Cd.skip (aG ?_);refine Zm ?_;refine Zm ?_;refine cH ?_;refine Zm ?_;refine Za ?_;refine Za ?_;refine Za ?_;refine Za ?_;refine jk 0 2 3 4 5 6 7 8 9 10 11 12 15 58 (Zt (Cd.ret ?_));refine ab.Ec rfl rfl rfl rfl rfl (.inl rfl) ?_;exact⟨DS (int_eq (by omega)) (int_eq (by omega)) rfl rfl,ae⟩
theorem oM (v:Nat)(w:World)(h:v≤100000):Calls Tryz.prog 219 #[.int .i64 (v:Int)] w fun en w'=>(∃sv,en= .returned sv∧Own w' w.heap.size 5 1 sv 2 (Bt [48+v/10%10,48+v%10]))∧Grow w w':=by
 have ae:=Below.refl w.heap.size w;refine Zs 13 Tryz.func219 ?_;refine ao ?_;refine Za ?_;refine eh 0 2 (aG ?_);refine Zm ?_;refine Zv (aa.lB rfl rfl rfl (by omega) (by omega) (by omega)) ?_;refine Zv (aa.iK rfl rfl rfl (by omega) (by omega)) ?_;refine cH ?_;refine Zv (aa.fb rfl rfl Tryz.underlying3 Tryz.underlying5 (jq (by omega) (by omega))) ?_;refine Zm ?_;refine Zv (aa.iK rfl rfl rfl (by omega) (by omega)) ?_;refine cH ?_;refine Zv (aa.fb rfl rfl Tryz.underlying3 Tryz.underlying5 (jq (by omega) (by omega))) ?_;refine Seq.slice (vs:=[_,_]) (s:=1) rfl rfl rfl Tryz.underlying64 (by kernel_rfl) (bh) (by omega) (by omega) ⟨rfl,rfl,trivial⟩ rfl rfl rfl ?_;intro g12 w1 n12;have e12:=Nat.le_trans ae.size n12.ge;replace ae:=ae.step n12.below;have k12:=n12.av;refine Za ?_;refine eh 0 2 (Zt (Cd.ret ?_));refine ab.aE rfl rfl (.inl rfl) ?_
 have hc:(aP [.int .u8 (48+(v:Int)/10%10), .int .u8 (48+(v:Int)%10)]).toArray=(Bt [48+v/10%10,48+v%10]).toArray:=by
  simp[aP,Value.cells,Bt]
 rw[hc] at k12;exact⟨⟨_,rfl,Own.lit k12 e12 (by simp[Bt]) (by simp[maxLen])⟩,ae⟩
theorem rU:∀args w,(callFunc 219 args).run Tryz.prog w= .ok (.enter 219 args) w:=fun args w=>bG Tryz.func219 (by kernel_rfl) rfl args w
theorem tz (v:Nat):eN v 2=[48+v/10%10,48+v%10]:=by simp[eN]
theorem yb (v:Nat):eN v 4=[48+v/100/10%10,48+v/100%10]++[48+v/10%10,48+v%10]:=by
 simp[eN,Nat.div_div_eq_div_mul]
theorem r7 (n:Nat)(w:World)(h:n≤2932896):Calls Tryz.prog 185 #[.int .i64 (n:Int)] w fun en w'=>en= .returned (.string (strOf (qC n)))∧Grow w w':=by
 have ae:=Below.refl w.heap.size w;obtain⟨q,hq⟩:∃q,(n+719468)/146097=q:=⟨_,rfl⟩;obtain⟨e,he⟩:∃e,(n+719468)%146097=e:=⟨_,rfl⟩;have hciv:=fun W=>yl n q e W h hq he;have hel:e<146097:=by rw[←he];exact Nat.mod_lt _ (by decide)
 obtain⟨z1,z2,z3,z4,z5⟩:=AH n q e (by omega) hel;have hok:=xe n _ _ _ h z1 z2 z3 z4 z5;obtain⟨o1,o2,o3,o4,o5,o6⟩:=mO hok;rw[wJ n q e hq he]
 generalize cY q e=y at *
 generalize cM e=m at *
 generalize dT e=d at *
 clear hq he z1;refine Zs 42 Tryz.func185 ?_;refine ao ?_;refine Za ?_;refine eh 0 2 (aG ?_);refine Zm ?_;refine Zc (Ze Tryz.func218) (hciv _) ?_;rintro en w5 ⟨rfl,hb5⟩;refine⟨_,rfl,?_⟩;replace ae:=ae.step hb5;refine Zm ?_;refine Zv (aa.extract rfl rfl rfl) ?_;refine Zv (aa.extract rfl rfl rfl) ?_;refine Zv (aa.extract rfl rfl rfl) ?_;refine Zv (aa.extract rfl rfl rfl) ?_;refine Za ?_;refine Za ?_;refine Za ?_;refine Za ?_;refine bj 0 2 3 4 5 6 (aJ (ao ?_));refine Zm ?_;refine Zv (aa.not rfl rfl) ?_;refine bb 0 2 3 4 5 6 17 (Zt ?_);refine Cd.aN rfl rfl ?_;refine Cd.skip (aG ?_);refine Za ?_;refine cI 0 2 3 4 5 6 7 17 (aG ?_);refine Zm ?_;refine Zm ?_;refine Zv ((aa.lB rfl rfl rfl (by omega) (by omega) (by omega)).cast (v':= .int .i64 ((y/100:Nat):Int)) (int_eq (show(y:Int)/100=((y/100:Nat):Int) by omega))) ?_;refine Seq.call (Enters.value (first:=[]) (cap:=[]) rfl rfl rfl rU) rfl rfl rfl (oM (y/100) _ (by omega)) ?_;rintro en w6 ⟨⟨s1,rfl,own⟩,hb6⟩;refine⟨_,rfl,?_⟩;replace own:=own.base ae.size;replace ae:=ae.step hb6;refine Zm ?_;refine Zm ?_;refine Seq.call (Enters.value (first:=[]) (cap:=[]) rfl rfl rfl rU) rfl rfl rfl (oM y _ (by omega)) ?_;rintro en w7 ⟨⟨s2,rfl,own2⟩,hb7⟩;refine⟨_,rfl,?_⟩;replace ae:=ae.step hb7;replace own:=own.step hb7;obtain⟨A2,c2,rfl,rd2⟩:=own2.reads;refine Seq.append rfl rfl rfl Tryz.underlying64 (by kernel_rfl) bh rfl (by decide) (b:=1) (by kernel_rfl) own (rd2) (wh _) ae.size (by simp only[maxLen];omega) (by omega) rfl rfl rfl ?_;clear own;intro vw1 w1 own haw1;replace ae:=ae.trans haw1.below;clear own2;refine Za ?_;refine dG 0 2 3 4 5 6 7 8 17 (aG ?_);refine Zm ?_;refine Seq.slice (vs:=[_]) (s:=1) rfl rfl rfl Tryz.underlying64 (by kernel_rfl) (bh) (by omega) (by omega) ⟨rfl,trivial⟩ rfl rfl rfl ?_;intro g27 w2 n27;have e27:=Nat.le_trans ae.size n27.ge;replace ae:=ae.step n27.below;replace own:=own.step n27.below;have k27:=n27.av;refine Seq.append rfl rfl rfl Tryz.underlying64 (by kernel_rfl) bh rfl (by decide) (b:=1) (by kernel_rfl) own (Reads.av k27 1 rfl) (by intro x hx;simp[aP,Value.cells] at hx;rw[hx];rfl) ae.size (by simp only[maxLen];omega) (by omega) rfl rfl rfl ?_;clear own;intro vw3 w3 own haw3;replace ae:=ae.trans haw3.below;refine Zm ?_;refine Zm ?_;refine Seq.call (Enters.value (first:=[]) (cap:=[]) rfl rfl rfl rU) rfl rfl rfl (oM m _ (by omega)) ?_;rintro en w8 ⟨⟨s3,rfl,own3⟩,hb8⟩;refine⟨_,rfl,?_⟩;replace ae:=ae.step hb8;replace own:=own.step hb8;obtain⟨A3,c3,rfl,rd3⟩:=own3.reads;refine Seq.append rfl rfl rfl Tryz.underlying64 (by kernel_rfl) bh rfl (by decide) (b:=1) (by kernel_rfl) own (rd3) (wh _) ae.size (by simp only[maxLen];omega) (by omega) rfl rfl rfl ?_;clear own;intro vw4 w4 own haw4;replace ae:=ae.trans haw4.below;clear own3;refine Za ?_;refine dG 0 2 3 4 5 6 7 8 17 (aG ?_);refine Zm ?_;refine Seq.slice (vs:=[_]) (s:=1) rfl rfl rfl Tryz.underlying64 (by kernel_rfl) (bh) (by omega) (by omega) ⟨rfl,trivial⟩ rfl rfl rfl ?_;intro g34 w5 n34;have e34:=Nat.le_trans ae.size n34.ge;replace ae:=ae.step n34.below;replace own:=own.step n34.below;have k34:=n34.av;refine Seq.append rfl rfl rfl Tryz.underlying64 (by kernel_rfl) bh rfl (by decide) (b:=1) (by kernel_rfl) own (Reads.av k34 1 rfl) (by intro x hx;simp[aP,Value.cells] at hx;rw[hx];rfl) ae.size (by simp only[maxLen];omega) (by omega) rfl rfl rfl ?_;clear own;intro vw6 w6 own haw6;replace ae:=ae.trans haw6.below;refine Zm ?_;refine Zm ?_;refine Seq.call (Enters.value (first:=[]) (cap:=[]) rfl rfl rfl rU) rfl rfl rfl (oM d _ (by omega)) ?_;rintro en w9 ⟨⟨s4,rfl,own4⟩,hb9⟩;refine⟨_,rfl,?_⟩;replace ae:=ae.step hb9;replace own:=own.step hb9;obtain⟨A4,c4,rfl,rd4⟩:=own4.reads;refine Seq.append rfl rfl rfl Tryz.underlying64 (by kernel_rfl) bh rfl (by decide) (b:=1) (by kernel_rfl) own (rd4) (wh _) ae.size (by simp only[maxLen];omega) (by omega) rfl rfl rfl ?_;clear own;intro vw7 w7 own haw7;replace ae:=ae.trans haw7.below;clear own4;refine Za ?_;refine dG 0 2 3 4 5 6 7 8 17 (aG ?_);refine Zm ?_;obtain⟨A5,c5,rfl,rd5⟩:=own.reads
 have hbt:Bt [48+y/100/10%10,48+y/100%10]++Bt [48+y/10%10,48+y%10]++(aP [.int .u8 45]).toArray.toList++Bt [48+m/10%10,48+m%10]++(aP [.int .u8 45]).toArray.toList++Bt [48+d/10%10,48+d%10]=Bt (fC y m d):=by
  unfold fC;rw[yb,tz,tz];simp[Bt,aP,Value.cells]
 rw[hbt] at rd5;refine Zv (aa.lR rfl rfl Tryz.underlying64 Tryz.underlying5 Tryz.underlying9 rd5 (m8 y m d)) ?_;refine Za ?_;refine dG 0 2 3 4 5 6 7 8 17 (Zt (Cd.ret ?_));refine ab.aE rfl rfl (.inl rfl) ?_;exact⟨rfl,ae⟩
structure ui (w0 w:World)(g:Nat):Prop where
 row:w0.grownBy w (some g)
theorem ui.step {w0 w w':World}{g:Nat}(h:ui w0 w g)(hb:Below w.heap.size w w'):ui w0 w' g:=⟨vm h.row hb⟩
theorem ui.put {w0 w w':World}{g B:Nat}{T:TypeId}{cur cs:Array Value}(h:ui w0 w g)(_k:aK w g T cur)(p:lD w w' g T cs)(_e:B≤g):ui w0 w' g:=⟨vv h.row p.grown⟩
def kf (xs:List Value)(n i j:Nat):Option Value:=if j<i∨n≤j+i then xs[n-1-j]? else xs[j]?
theorem s9 (g n cap:Nat)(cur:Array Value)(xs:List Value)(w:World)(hb:aK w g 5 cur)(hc:n≤cap)(hn:n≤1000000000)(hs:cur.size=cap)(hx:∀j,j<n→cur[j]? =xs[j]?)(hl:xs.length=n)(h1:∀u∈xs,∃z,u= .int .u8 z):
  Calls Tryz.prog 217 #[.slice (some ⟨g,0,none⟩) n cap] w fun e w'=>∃cur',e= .returned (.tuple #[])∧aK w' g 5 cur'∧cur'.size=cap∧(∀j,j<n→cur'[j]? =xs.reverse[j]?)∧ui w w' g:=by
 refine Zs 28 Tryz.func217 ?_;refine ao ?_;refine Zm ?_;refine Zv (aa.len rfl rfl Tryz.underlying64) ?_;refine Zv (aa.eU rfl rfl rfl (by omega) (by omega)) ?_;refine Za ?_;refine Za ?_;refine bD 0 2 3 (Zt (Cd.block ?_))
 refine Cd.loop (σ:=Nat × Array Value) (fun s=>[(0, .slice (some ⟨g,0,none⟩) n cap),(2, .int .i64 (s.1:Int)),(3, .int .i64 ((n:Int)-1-s.1))])
  (fun s wr=>s.1≤n∧aK wr g 5 s.2∧s.2.size=cap∧(∀j,j<n→s.2[j]? =kf xs n s.1 j)∧ui w wr g) (fun s=>n-s.1) (0,cur) ⟨Nat.zero_le _,hb,hs,fun j hj=>by dsimp only;rw[hx j hj];unfold kf;rw[if_neg (by omega)],⟨World.grownBy.refl _ _⟩⟩
  ⟨rfl,rfl,congrArg (fun x=>some (Value.int .i64 x)) (show(n:Int)-1=(n:Int)-1-((0:Nat):Int) by omega),trivial⟩ ?_
 clear hb hs hx cur;rintro⟨i,cs⟩ wr ⟨hi,k0,hs,hx,hgr⟩;dsimp only at hi k0 hs hx hgr⊢;have e0:0≤g:=Nat.zero_le g;refine Cd.seq (ao ?_);refine Zm ?_;refine Zm ?_;refine Zv (aa.lss rfl rfl rfl) ?_;refine aV 0 2 3 9 (Zt ?_);refine Cd.au rfl (fun hc=> ?_) (fun hc=> ?_)
 ·have hlt:i<n-1-i:=by omega
  have get:∀j,j<n→∃z,xs[j]? =some (.int .u8 z):=fun j hj=>by
   obtain⟨z,hz⟩:=h1 xs[j] (List.getElem_mem (by omega));exact⟨z,by rw[List.getElem?_eq_getElem (by omega),hz]⟩
  obtain⟨za,ha⟩:=get (n-1-i) (by omega);obtain⟨zb,hb⟩:=get i (by omega);have ca:cs[n-1-i]? =some (.int .u8 za):=by rw[hx _ (by omega),kf,if_neg (by omega),ha]
  have cb:cs[i]? =some (.int .u8 zb):=by rw[hx _ (by omega),kf,if_neg (by omega),hb]
  refine Cd.skip (aJ (Cd.block ?_));refine Cd.draw 12 (by kernel_rfl) [2,3] (.inr (fun _ _ d _ _ h=>by cases d<;>exact h)) rfl Grow Grow.refl (fun _ _ _=>Grow.trans) ?_;intro w1 hw1 zw1;replace k0:=k0.step hw1;replace hgr:=hgr.step hw1;have zlt:=k0.lt;refine cn ?_;refine cn ?_;refine Dr.late rfl rfl (fun w=>aa.move rfl rfl) Grow.refl rfl ?_;refine Dr.late rfl rfl (fun w=>aa.move rfl rfl) Grow.refl rfl ?_;refine cn ?_;refine cn ?_;refine Zd (fun w hG=>aa.dN rfl rfl rfl Tryz.underlying64 (by kernel_rfl) (j:=n-1-i) (by omega) (by omega)) ?_;refine Zd (fun w hG=>aa.ag rfl rfl Tryz.underlying5 rfl (k0.step hG) ca) ?_;refine cn ?_;refine cn ?_;refine Zd (fun w hG=>aa.dN rfl rfl rfl Tryz.underlying64 (by kernel_rfl) (j:=i) (by omega) (by omega)) ?_;refine Zd (fun w hG=>aa.ag rfl rfl Tryz.underlying5 rfl (k0.step hG) cb) ?_;refine Dr.nil ?_;refine ba.done (F':=[(0,_),(2,_),(3,_),(9,_),(14,_),(15,_),(16,_),(17,_),(21,_),(25,_)]) rfl ⟨rfl,rfl,rfl,rfl,rfl,rfl,rfl,rfl,rfl,rfl,trivial⟩ ?_;intro w2 hw2 fw2;replace k0:=k0.step hw2;replace hgr:=hgr.step hw2;refine Zv (aa.dN rfl rfl rfl Tryz.underlying64 (by kernel_rfl) (j:=i) (by omega) (by omega)) ?_;refine Seq.kA rfl rfl rfl (by kernel_rfl) rfl rfl k0 (cb) rfl rfl ?_;intro w3 pw3;replace hgr:=hgr.put k0 pw3 e0;replace k0:=pw3.av;refine Zv (aa.dN rfl rfl rfl Tryz.underlying64 (by kernel_rfl) (j:=n-1-i) (by omega) (by omega)) ?_;have ca2:(cs.setIfInBounds i (.int .u8 za))[n-1-i]? =some (.int .u8 za):=by rw[Array.getElem?_setIfInBounds_ne (by omega)];exact ca
  refine Seq.kA rfl rfl rfl (by kernel_rfl) rfl rfl k0 (ca2) rfl rfl ?_;intro w4 pw4;replace hgr:=hgr.put k0 pw4 e0;replace k0:=pw4.av;refine aV 0 2 3 9 (ab.aj (ei ?_));refine Zm ?_;refine cH ?_;refine Zm ?_;refine Zv (aa.eU rfl rfl rfl (by omega) (by omega)) ?_;refine Za ?_;refine Za ?_;refine aV 0 2 3 9 ?_;rw[show(i:Int)+1=((i+1:Nat):Int) by omega,show(n:Int)-1-(i:Int)-1=(n:Int)-1-((i+1:Nat):Int) by omega];refine ab.round (i+1,(cs.setIfInBounds i (.int .u8 za)).setIfInBounds (n-1-i) (.int .u8 zb)) ⟨rfl,rfl,rfl,trivial⟩ ⟨by dsimp only;omega,k0,by simp[hs],fun j hj=> ?_,hgr⟩ (by dsimp only;omega);dsimp only;have hin:n-1-i<(cs.setIfInBounds i (.int .u8 za)).size:=by rw[Array.size_setIfInBounds];omega
  by_cases hj1:j=n-1-i
  ·subst hj1
   rw[Array.getElem?_setIfInBounds_self_of_lt hin,kf,if_pos (by omega),show n-1-(n-1-i)=i by omega,hb]
  ·rw[Array.getElem?_setIfInBounds_ne (by omega)]
   by_cases hj2:j=i
   ·subst hj2
    rw[Array.getElem?_setIfInBounds_self_of_lt (by omega),kf,if_pos (by omega),ha]
   ·rw[Array.getElem?_setIfInBounds_ne (by omega),hx j hj]
    unfold kf
    by_cases hc2:j<i∨n≤j+i
    ·rw[if_pos hc2,if_pos (by omega)]
    ·rw[if_neg hc2,if_neg (by omega)]
 ·skip
  refine Cd.exit (ab.aD (ab.aA (ab.az ?_)));refine ab.fP rfl (.inr rfl) ?_;refine⟨cs,rfl,k0,hs,fun j hj=> ?_,hgr⟩;rw[hx j hj,List.getElem?_reverse (by omega),hl];unfold kf
  by_cases hc2:j<i∨n≤j+i
  ·rw[if_pos hc2]
  ·rw[if_neg hc2]
   rw[show n-1-j=j by omega]
theorem Own.av {w:World}{B n:Nat}{e:TypeId}{v:Value}{xs:List Value}(h:Own w B e 1 v n xs)(h0:0<n):∃g cap cur,v= .slice (some ⟨g,0,none⟩) n cap∧B≤g∧aK w g e cur∧n≤cap∧cap≤maxLen∧cur.size=cap∧xs.length=n∧∀j,j<n→cur[j]? =xs[j]? :=by
 obtain⟨hl,⟨_,h1⟩|⟨g,cap,cur,rfl,h1,h2,h3,h4,h5,h6⟩⟩:=h.row
 ·omega
 ·refine⟨g,cap,cur,rfl,h1,h2,h3,h4,by omega,by omega,fun j hj=> ?_⟩
  rw[←h6,List.getElem?_take_of_lt (by omega)];simp
set_option maxHeartbeats 1000000 in
theorem xZ (n:Int)(d:Nat)(w:World)(hn:bt n)(hd:d≤9):
  Calls Tryz.prog 184 #[.int .i64 n, .int .i64 (d:Int)] w fun e w'=>(∃N,fY n.natAbs d N∧N≤20∧e= .returned (.string (strOf (printed n d N))))∧Grow w w':=by
 have ae:=Below.refl w.heap.size w;have hu:n.natAbs≤9223372036854775808:=by have:=hn.1;have:=hn.2;omega
 refine Zs 53 Tryz.func184 ?_;refine ao ?_;refine Za ?_;refine bD 0 1 4 (aJ (ao ?_));refine Zm ?_;refine Zv (aa.lss rfl rfl rfl) ?_;refine Zm ?_;refine ah.start ?_;refine bM (fun hcx=>aa.move rfl rfl) ?_;refine ah.next rfl rfl rfl rfl rfl rfl rfl (fun hcx=>aa.gtr rfl rfl rfl) ?_;refine ah.or rfl rfl rfl rfl rfl rfl rfl ?_;refine aV 0 1 4 13 (Zt ?_);refine Cd.cond rfl (fun h=> ?_) (fun h=> ?_)
 ·exfalso
  simp at h;omega
 clear h;refine Cd.skip (aG ?_);refine Za ?_;refine aU 0 1 4 5 13 (aJ (ao ?_));refine Zm ?_;refine Zc (Ze Tryz.func216) (pn _ _ hn) ?_;rintro e w3 ⟨rfl,rfl⟩;refine⟨_,rfl,?_⟩;refine Za ?_;refine Za ?_;refine bb 0 1 4 5 6 7 13 (Zt (Cd.block ?_))
 generalize hun:n.natAbs=u at *
 have own:=Own.nil w w.heap.size 5 1
 refine Cd.loop (σ:=Nat × Value) (fun s=>[(0, .int .i64 n),(1, .int .i64 (d:Int)),(5,s.2),(6, .int .u64 ((u/10^s.1:Nat):Int)),(7, .int .i64 (s.1:Int))])
  (fun s wr=>s.1≤20∧Below w.heap.size w wr∧Own wr w.heap.size 5 1 s.2 (j9 u d s.1).length (Bt (j9 u d s.1))∧∀j,j<s.1→0<u/10^j∨j≤d) (fun s=>20-s.1) (0, .slice none 0 0) ⟨by simp,ae,own,fun j hj=>absurd hj (by simp)⟩ ⟨rfl,rfl,rfl,congrArg (fun x:Nat=>some (Value.int .u64 (x:Int))) (show u=u/10^0 by simp),rfl,trivial⟩ ?_
 clear ae;clear own;rintro⟨k,v⟩ wr ⟨hk,ae,own,hgo⟩;dsimp only at hk own hgo⊢;refine Cd.seq (ao ?_);refine Zm ?_;refine Zv (aa.gtr rfl rfl rfl) ?_;refine Zm ?_;refine ah.start ?_;refine bM (fun hcx=>aa.move rfl rfl) ?_;refine ah.next rfl rfl rfl rfl rfl rfl rfl (fun hcx=>aa.move rfl rfl) ?_;refine ah.next rfl rfl rfl rfl rfl rfl rfl (fun hcx=>aa.leq rfl rfl rfl) ?_;refine ah.or rfl rfl rfl rfl rfl rfl rfl ?_;refine bj 0 1 5 6 7 22 (Zt ?_);have hlen:=oC u d k;have hdk:u/10^k≤u:=Nat.div_le_self _ _;have hdt:=xr u k;have hpr:j9 u d (k+1)=j9 u d k++(if k=d∧0<d then [46] else [])++[48+u/10^k%10]:=rfl
 generalize hq:u/10^k=q at *
 refine Cd.cond rfl (fun hc=> ?_) (fun hc=> ?_)
 ·have hgo1:0<q∨k≤d:=by simp at hc;omega
  have hk20:k<20:=by
   rcases Nat.lt_or_ge k 20 with h|h
   ·exact h
   ·obtain rfl:k=20:=by omega
    have:u/10^20=0:=Nat.div_eq_of_lt (by omega);omega
  have hgo2:∀j,j<k+1→0<u/10^j∨j≤d:=fun j hj=>by
   rcases Nat.lt_or_ge j k with h|h
   ·exact hgo j h
   ·obtain rfl:j=k:=by omega
    rw[hq];exact hgo1
  refine Cd.skip (aJ (Cd.block ?_));refine Cd.lz (σ:=Value) (fun v=>[(0, .int .i64 n),(1, .int .i64 (d:Int)),(5,v),(6, .int .u64 (q:Int)),(7, .int .i64 (k:Int))]) (fun v wr=>Below w.heap.size w wr∧Own wr w.heap.size 5 1 v (j9 u d k++if k=d∧0<d then [46] else []).length (Bt (j9 u d k++if k=d∧0<d then [46] else []))) ?_ ?_
  ·skip
   refine ao ?_;refine Zm ?_;refine Zm ?_;refine Zv (aa.aB rfl rfl rfl) ?_;refine Zm ?_;refine ah.start ?_;refine bM (fun hcx=>aa.move rfl rfl) ?_;refine ah.next rfl rfl rfl rfl rfl rfl rfl (fun hcx=>aa.gtr rfl rfl rfl) ?_;refine ah.and rfl rfl rfl rfl rfl rfl rfl ?_;refine bb 0 1 5 6 7 22 31 (Zt ?_);refine Cd.cond rfl (fun hp=> ?_) (fun hp=> ?_)
   ·rw[if_pos (by simp at hp;omega)]
    refine Zr ?_;refine Zm ?_;refine Seq.slice (vs:=[_]) (s:=1) rfl rfl rfl Tryz.underlying64 (by kernel_rfl) (bh) (by omega) (by omega) ⟨rfl,trivial⟩ rfl rfl rfl ?_;intro g33 w1 n33;have e33:=Nat.le_trans ae.size n33.ge;replace ae:=ae.step n33.below;replace own:=own.step n33.below;have k33:=n33.av;refine Seq.append rfl rfl rfl Tryz.underlying64 (by kernel_rfl) bh rfl (by decide) (b:=1) (by kernel_rfl) own (Reads.av k33 1 rfl) (by intro x hx;simp[aP,Value.cells] at hx;rw[hx];rfl) ae.size (by simp only[maxLen];omega) (by omega) rfl rfl rfl ?_;clear own;intro vw2 w2 own haw2;replace ae:=ae.trans haw2.below;refine Za ?_;refine bb 0 1 5 6 7 22 31 ?_;exact ab.join _ ⟨rfl,rfl,rfl,rfl,rfl,trivial⟩ ⟨ae,by rw[List.length_append,jf];exact own⟩
   ·rw[if_neg (by simp at hp;omega)]
    refine Cd.skip ?_;exact ab.join _ ⟨rfl,rfl,rfl,rfl,rfl,trivial⟩ ⟨ae,by rw[List.append_nil];exact own⟩
  clear own ae hc;rintro v wr ⟨ae,own⟩;have hl2:(j9 u d k++if k=d∧0<d then [46] else []).length≤2*k+1:=by rw[List.length_append];split<;>simp<;>omega
  generalize j9 u d k++(if k=d∧0<d then [46] else [])=pre at *
  refine ao ?_;refine Zm ?_;refine Zm ?_;refine Zv (aa.Dc 10 rfl rfl rfl rfl (by omega)) ?_;refine Zv (aa.Cs rfl rfl rfl (by omega) (by omega)) ?_;refine Zv (aa.fb rfl rfl Tryz.underlying94 Tryz.underlying5 (jq (by omega) (by omega))) ?_;refine Seq.slice (vs:=[_]) (s:=1) rfl rfl rfl Tryz.underlying64 (by kernel_rfl) (bh) (by omega) (by omega) ⟨rfl,trivial⟩ rfl rfl rfl ?_;intro g40 w1 n40;have e40:=Nat.le_trans ae.size n40.ge;replace ae:=ae.step n40.below;replace own:=own.step n40.below;have k40:=n40.av;refine Seq.append rfl rfl rfl Tryz.underlying64 (by kernel_rfl) bh rfl (by decide) (b:=1) (by kernel_rfl) own (Reads.av k40 1 rfl) (by intro x hx;simp[aP,Value.cells] at hx;rw[hx];rfl) ae.size (by simp only[maxLen];omega) (by omega) rfl rfl rfl ?_;clear own;intro vw2 w2 own haw2;replace ae:=ae.trans haw2.below;refine Za ?_;refine aU 0 1 5 6 7 (ei ?_);refine Zm ?_;refine Zv (aa.zK 10 rfl rfl rfl rfl (by omega) (by omega)) ?_;refine Za ?_;refine aU 0 1 5 6 7 (ab.aj (ei ?_));refine Zm ?_;refine cH ?_;refine Za ?_;refine aU 0 1 5 6 7 ?_;refine ab.round (k+1,_) ⟨rfl,rfl,rfl,congrArg (fun x:Nat=>some (Value.int .u64 (x:Int))) hdt,rfl,trivial⟩ ⟨by dsimp only;omega,ae,?_,hgo2⟩ (by dsimp only;omega);dsimp only;rw[hpr,List.length_append,jf];exact own
 ·have hstop:fY u d k:=⟨hgo,by rw[hq];simp at hc;omega⟩
  have hk1:0<k:=by simp at hc;omega
  refine Cd.exit (ab.aD (ab.aA (ab.az (Zt ?_))));refine Cd.lz (σ:=Value) (fun v=>[(5,v)]) (fun v wr=>Below w.heap.size w wr∧Own wr w.heap.size 5 1 v (j9 u d k++if n<0 then [45] else []).length (Bt (j9 u d k++if n<0 then [45] else []))) ?_ ?_
  ·skip
   refine ao ?_;refine Zm ?_;refine Zv (aa.lss rfl rfl rfl) ?_;refine bb 0 1 5 6 7 22 45 (Zt ?_);refine Cd.au rfl (fun hp=> ?_) (fun hp=> ?_)
   ·rw[if_pos hp]
    refine Zr ?_;refine Zm ?_;refine Seq.slice (vs:=[_]) (s:=1) rfl rfl rfl Tryz.underlying64 (by kernel_rfl) (bh) (by omega) (by omega) ⟨rfl,trivial⟩ rfl rfl rfl ?_;intro g47 w1 n47;have e47:=Nat.le_trans ae.size n47.ge;replace ae:=ae.step n47.below;replace own:=own.step n47.below;have k47:=n47.av;refine Seq.append rfl rfl rfl Tryz.underlying64 (by kernel_rfl) bh rfl (by decide) (b:=1) (by kernel_rfl) own (Reads.av k47 1 rfl) (by intro x hx;simp[aP,Value.cells] at hx;rw[hx];rfl) ae.size (by simp only[maxLen];omega) (by omega) rfl rfl rfl ?_;clear own;intro vw2 w2 own haw2;replace ae:=ae.trans haw2.below;refine Za ?_;refine bb 0 1 5 6 7 22 45 ?_;exact ab.join _ ⟨rfl,trivial⟩ ⟨ae,by rw[List.length_append,jf];exact own⟩
   ·rw[if_neg hp]
    refine Cd.skip ?_;exact ab.join _ ⟨rfl,trivial⟩ ⟨ae,by rw[List.append_nil];exact own⟩
  clear own ae hc;rintro v wr ⟨ae,own⟩;have hpos:0<(j9 u d k++if n<0 then [45] else []).length:=by rw[List.length_append];omega
  have hl3:(j9 u d k++if n<0 then [45] else []).length≤41:=by rw[List.length_append];split<;>simp<;>omega
  have hlt:∀x∈(j9 u d k++if n<0 then [45] else []),x<256:=fun x hx=>by
   rcases List.mem_append.1 hx with hx|hx
   ·exact sf u d k x hx
   ·split at hx
    ·simp at hx;omega
    ·simp at hx
  have hprd:printed n d k=(j9 u d k++if n<0 then [45] else []).reverse:=by unfold printed;rw[hun]
  obtain⟨g,cap,cur,rfl,hBg,kb,hnc,hcm,hsz,hxl,hcur⟩:=own.av hpos
  generalize j9 u d k++(if n<0 then [45] else [])=l at *
  refine ao ?_;refine Zm ?_;refine Zc (Ze Tryz.func217) (s9 g l.length cap cur (Bt l) _ kb hnc (by omega) hsz hcur hxl (fun x hx=>by unfold Bt at hx;obtain⟨z,_,rfl⟩:=List.mem_map.1 hx;exact⟨_,rfl⟩)) ?_;rintro e w9 ⟨cur',rfl,kb',hsz',hcur',honly⟩;refine⟨_,rfl,?_⟩;replace ae:=ae.trans (lK honly.row hBg kb.lt)
  have hrd:Reads w9 w9.heap.size 1 (some ⟨g,0,none⟩) l.length (Bt l.reverse):=by
   refine⟨by rw[kX];simp,fun _=>⟨_,rfl,kb'.lt,fun j x hx=> ?_⟩⟩;have hplain:(⟨g,0,none⟩:Addr).add j=⟨g,j,none⟩:=by unfold Addr.add;split<;>simp_all
   rw[hplain,cell_of_row _ _ _ _ _ _ kb']
   have hj:j<l.length:=by
    rcases Nat.lt_or_ge j l.length with h|h
    ·exact h
    ·rw[mV,List.getElem?_eq_none (by simpa using h)] at hx;cases hx
   rw[hcur' j hj];unfold Bt at hx⊢;rw[←List.map_reverse];exact hx
  refine CW 5 (aG ?_);refine Zm ?_;refine Zv (aa.lR rfl rfl Tryz.underlying64 Tryz.underlying5 Tryz.underlying9 hrd (fun x hx=>hlt x (List.mem_reverse.1 hx))) ?_;refine Za ?_;refine eh 4 5 (Zt (Cd.ret ?_));refine ab.aE rfl rfl (.inl rfl) ?_;exact⟨⟨k,hstop,by omega,by rw[hprd]⟩,ae⟩
def yJ (u:Nat):Nat:=((List.range 21).find? fun N=> !(decide (0<u/10^N)||decide (N≤0))).getD 0
theorem wU {u N:Nat}(h:fY u 0 N)(hN:N≤20):yJ u=N:=by
 have hf:(List.range 21).find? (fun N=> !(decide (0<u/10^N)||decide (N≤0)))=some N:=by
  rw[List.find?_range_eq_some];refine⟨?_,List.mem_range.2 (by omega),fun j hj=> ?_⟩
  ·have:=h.2
   simp only[not_or] at this;simp only[Bool.not_eq_true',Bool.or_eq_false_iff,decide_eq_false_iff_not];exact this
  ·have:=h.1 j hj
   simp only[Bool.not_not,Bool.or_eq_true,decide_eq_true_eq];exact this
 unfold yJ;rw[hf];rfl
def qA (n:Int):List Nat:=printed n 0 (yJ n.natAbs)
theorem Cb (u:Nat):yJ u≤20:=by
 unfold yJ
 cases h:(List.range 21).find? (fun N=> !(decide (0<u/10^N)||decide (N≤0))) with
 |none=>exact Nat.zero_le _
 |some N=>have:=List.mem_range.1 (List.mem_of_find?_eq_some h);show N≤20;omega
theorem s8 (n:Int):(qA n).length≤41:=by
 unfold qA printed;have h1:=Cb n.natAbs;have h2:=oC n.natAbs 0 (yJ n.natAbs);rw[List.length_reverse,List.length_append];split<;>simp<;>omega
theorem xk (n:Int):∀x∈qA n,x<256:=by
 intro x hx;unfold qA printed at hx;rw[List.mem_reverse,List.mem_append] at hx;rcases hx with hx|hx
 ·exact sf _ _ _ x hx
 ·split at hx<;>simp at hx;omega
theorem xW (n:Int)(w:World)(hn:bt n):Calls Tryz.prog 184 #[.int .i64 n, .int .i64 0] w fun e w'=>e= .returned (.string (strOf (qA n)))∧Grow w w':=
 (xZ n 0 w hn (by decide)).mono fun e w' ⟨⟨N,h1,h2,h3⟩,h4⟩=>⟨by rw[h3];unfold qA;rw[wU h1 h2],h4⟩
theorem rY (n:Int)(w:World)(hn:bt n):Calls Tryz.prog 110 #[.int .i64 n, .int .i64 0] w fun e w'=>e= .returned (.string (strOf (qA n)))∧Grow w w':=
 (mR n 0 w hn (by decide)).mono fun e w' ⟨⟨N,h1,h2,h3⟩,h4⟩=>⟨by rw[h3];unfold qA;rw[wU h1 h2],h4⟩
theorem uo (n:Nat):(qC n).length=10:=by unfold qC fC;simp[fo]
theorem wY (n:Nat):∀x∈qC n,x<256:=m8 _ _ _
theorem B3 (n:Nat)(w:World)(h:n≤2932896):Calls Tryz.prog 111 #[.int .i64 (n:Int)] w fun e w'=>e= .returned (.string (strOf (qC n)))∧Grow w w':=by
 obtain⟨q,hq⟩:∃q,(n+719468)/146097=q:=⟨_,rfl⟩;obtain⟨e,he⟩:∃e,(n+719468)%146097=e:=⟨_,rfl⟩;have hel:e<146097:=by rw[←he];exact Nat.mod_lt _ (by decide)
 obtain⟨z1,z2,z3,z4,z5⟩:=AH n q e (by omega) hel;have hok:=xe n _ _ _ h z1 z2 z3 z4 z5;have hp:=jS _ _ _ w hok;rw[z1,Int.toNat_natCast,Int.toNat_natCast,Int.toNat_natCast] at hp;rw[wJ n q e hq he];exact hp
def nP:List (List Nat):=[[43],[45],[42],[47],[],[],[60],[60,61],[61],[33,61],[62,61],[62],[38],[124],[33],[45]]
def nU:List Int:=[4,4,5,5,7,7,3,3,3,3,3,3,2,1,6,6]
def bu (op:Int):List Nat × Int:=if op<5∨20<op then([],7) else(nP.getD (op-5).toNat [],nU.getD (op-5).toNat 7)
def iJ (least:Int)(x:Int × List Nat):List Nat:=if x.1<least then [40]++x.2++[41] else x.2
def cA:List (List Nat)→List Nat
 | []=>[]
 |s::r=>s++(r.flatMap fun t=>[44,32]++t)
theorem jA (l:List (List Nat))(x:List Nat):cA (l++[x])=if l=[] then x else cA l++[44,32]++x:=by
 cases l with
 |nil=>simp[cA]
 |cons s r=>simp[cA]
def uf (op n:Int)(nm:List Nat)(l:List (Int × List Nat)):List Nat:=
 if op=1 then qA n else if op=2 then qC n.toNat else if op=3 then nm else if op=4 then [100,97,121]
 else if(bu op).2=6 then(bu op).1++iJ 6 (l.getD 0 (7,[]))
 else if(bu op).2=3 then iJ 4 (l.getD 0 (7,[]))++[32]++(bu op).1++[32]++iJ 4 (l.getD 1 (7,[]))
 else if(bu op).2<6 then iJ (bu op).2 (l.getD 0 (7,[]))++[32]++(bu op).1++[32]++iJ ((bu op).2+1) (l.getD 1 (7,[]))
 else(if op=9 then [109,105,110,40] else if op=10 then [109,97,120,40] else [105,102,40])++cA (l.map (·.2))++[41]
mutual
def bR:Ex→List Nat
 | .mk op n nm l=>uf op n nm (pB l)
def pB:List Ex→List (Int × List Nat)
 | []=>[]
 |e::r=>((bu e.op).2,bR e)::pB r
end
def cJ (e:Ex):Int × List Nat:=((bu e.op).2,bR e)
theorem qm:∀l,pB l=l.map cJ
 | []=>by rw[pB];rfl
 |e::r=>by rw[pB,qm r];rfl
theorem pd (e:Ex):bR e=uf e.op e.n e.name (e.args.map cJ):=by
 cases e;rw[bR,qm];rfl
def oc (e:Ex)(least:Int):List Nat:=iJ least (cJ e)
theorem nH {op n:Int}{nm:List Nat}{k:Nat}(h:fR op n nm k=true):eG op=(k:Int)∧(n=0∨op=1∨op=2)∧(nm=[]∨op=3)∧0≤n∧(op=2→n≤2932896)∧(op=3→gI nm=true):=
 Classical.byContradiction fun hn=>by rw[nZ hn] at h;cases h
theorem l0 {e:Ex}(h:bB e=true):fR e.op e.n e.name e.args.length=true∧∀x∈e.args,bB x=true:=by
 rw[mZ,Bool.and_eq_true,List.all_eq_true] at h;exact h
theorem pe {op:Int}{k:Nat}(h:eG op=(k:Int)):1≤op∧op≤21∧(op≤4→k=0)∧(5≤op→op≤18→k=2)∧(op=19∨op=20→k=1)∧(op=21→k=3):=by
 unfold eG at h
 repeat' split at h
 all_goals omega
theorem mK {nm:List Nat}(h:gI nm=true):nm.length≤16:=by
 unfold gI db at h;simp at h;omega
theorem lg (op:Int):(bu op).1.length≤2∧(∀x∈(bu op).1,x<256)∧1≤(bu op).2∧(bu op).2≤7:=by
 unfold bu;split
 ·simp
 ·rename_i h
  have:(op-5).toNat<16:=by omega
  generalize (op-5).toNat=j at *
  have key:∀j:Fin 16,(nP.getD j.val []).length≤2∧(∀x∈nP.getD j.val [],x<256)∧1≤nU.getD j.val 7∧nU.getD j.val 7≤7:=by decide
  exact key ⟨j,this⟩
theorem ku (least:Int)(x:Int × List Nat):(iJ least x).length≤x.2.length+2∧((∀d∈x.2,d<256)→∀d∈iJ least x,d<256):=by
 unfold iJ;split
 ·refine⟨by simp,fun h d hd=> ?_⟩
  simp only[List.mem_append,List.mem_singleton] at hd;rcases hd with (hd|hd)|hd
  ·omega
  ·exact h d hd
  ·omega
 ·exact⟨by omega,fun h=>h⟩
theorem BO {l:List Nat}(h:runN aO l=l.length):∀x∈l,aO x=true:=by
 induction l with
 |nil=>intro x hx;cases hx
 |cons c r ih=>
  rw[ec] at h;intro x hx;split at h
  ·rename_i hc
   rcases List.mem_cons.1 hx with rfl|hx
   ·exact hc
   ·exact ih (by rw[List.length_cons] at h;omega) x hx
  ·simp at h
theorem oH {nm:List Nat}(h:gI nm=true):∀x∈nm,x<256:=by
 unfold gI db at h;simp at h;intro x hx;have:=BO h.1.2 x hx;unfold aO j8 eZ at this;simp at this;omega
theorem Cp {P:Nat→Prop}{a b c:List Nat}(ha:∀x∈a,P x)(hb:∀x∈b,P x)(hc:∀x∈c,P x):∀x∈a++b++c,P x:=by
 intro x hx;simp only[List.mem_append] at hx;rcases hx with (h|h)|h
 ·exact ha x h
 ·exact hb x h
 ·exact hc x h
theorem xn {l:List (List Nat)}(h:∀t∈l,∀x∈t,x<256):∀x∈cA l,x<256:=by
 cases l with
 |nil=>intro x hx;cases hx
 |cons s r=>
  intro x hx;unfold cA at hx;simp only[List.mem_append,List.mem_flatMap,List.mem_cons,List.not_mem_nil,or_false] at hx;rcases hx with hx|⟨t,ht,hx|hx⟩
  ·exact h s List.mem_cons_self x hx
  ·omega
  ·exact h t (List.mem_cons_of_mem _ ht) x hx
theorem iW (l:List Ex):(l.map cJ).map (·.2)=l.map bR:=by rw[List.map_map];rfl
theorem oa (s t:List Nat)(r:List (List Nat)):cA (s::t::r)=s++[44,32]++cA (t::r):=by simp[cA]
theorem ld:∀l:List Ex,(∀x∈l,(bR x).length≤50*x.nodes)→(cA (l.map bR)).length≤50*aM l+2*l.length
 | [],_=>by simp[cA]
 | [x],h=>by have:=h x List.mem_cons_self;simp[cA,aM];omega
 |x::y::r,h=>by
  have h1:=h x List.mem_cons_self;have h2:=ld (y::r) fun z hz=>h z (List.mem_cons_of_mem _ hz);rw[aM,List.map_cons,List.map_cons,oa,←List.map_cons];simp only[List.length_append,List.length_cons,List.length_nil] at h2⊢;omega
theorem fq (N:Nat):∀e:Ex,e.nodes≤N→bB e=true→(bR e).length≤50*e.nodes∧∀d∈bR e,d<256:=by
 induction N with
 |zero=>intro e hN;have:=e.cO;omega
 |succ N ih=>
  intro e hN hb;obtain⟨hh,ha⟩:=l0 hb;obtain⟨h1,h2,h3,h4,h5,h6⟩:=nH hh;obtain⟨o1,o2,o3,o4,o5,o6⟩:=pe h1;obtain⟨b1,b2,b3,b4⟩:=lg e.op;have harg:∀x∈e.args,(bR x).length≤50*x.nodes∧∀d∈bR x,d<256:=fun x hx=>ih x (by have:=Ex.fS hx;omega) (ha x hx)
  have hpar:∀x∈e.args,∀least,(iJ least (cJ x)).length≤50*x.nodes+2∧∀d∈iJ least (cJ x),d<256:=fun x hx least=>by
   have h:=ku least (cJ x);have h2:=harg x hx;exact⟨by have:=h.1;have e:(cJ x).2=bR x:=rfl;rw[e] at this;omega,h.2 h2.2⟩
  have hn:e.nodes=1+aM e.args:=by cases e;exact Ex.dI _ _ _ _
  rw[pd];unfold uf;have k1:∀x∈([40]:List Nat),x<256:=by decide
  have k2:∀x∈([32]:List Nat),x<256:=by decide
  have k3:∀x∈([41]:List Nat),x<256:=by decide
  split
  ·exact⟨by have:=s8 e.n;omega,xk _⟩
  ·split
   ·exact⟨by rw[uo];omega,wY _⟩
   ·split
    ·rename_i h
     exact⟨by have:=mK (h6 h);omega,oH (h6 h)⟩
    ·split
     ·exact⟨by simp;omega,by decide⟩
     ·have hlen:1≤e.args.length∧e.args.length≤3:=by omega
      obtain⟨x,r,hx⟩:∃x r,e.args=x::r:=by
       cases hx:e.args with
       |nil=>rw[hx] at hlen;simp at hlen
       |cons x r=>exact⟨x,r,rfl⟩
      have px:=hpar x (by rw[hx];exact List.mem_cons_self);rw[hx] at hn;rw[aM] at hn;split
      ·rw[hx]
       obtain⟨p1,p2⟩:=px 6;refine⟨by rw[List.length_append];show _+(iJ 6 (cJ x)).length≤_;omega,fun d hd=> ?_⟩;rcases List.mem_append.1 hd with hd|hd
       ·exact b2 d hd
       ·exact p2 d hd
      ·rename_i hp6
       have hbin:(bu e.op).2<6→∃y r',r=y::r':=fun hlt=>by
        have hop:e.op≤18:=by
         rcases Int.lt_or_le 18 e.op with h|h
         ·exfalso
          have:e.op=19∨e.op=20∨e.op=21:=by omega
          rcases this with h|h|h<;>rw[h] at hlt<;>revert hlt<;>decide
         ·exact h
        have:=o4 (by omega) hop;rw[hx] at this
        cases r with
        |nil=>simp at this
        |cons y r'=>exact⟨y,r',rfl⟩
       split
       ·rename_i hp3
        obtain⟨y,r',rfl⟩:=hbin (by omega);have py:=hpar y (by rw[hx];exact List.mem_cons_of_mem _ List.mem_cons_self);rw[aM] at hn;rw[hx];obtain⟨p1,p2⟩:=px 4;obtain⟨q1,q2⟩:=py 4;refine⟨?_,Cp (Cp p2 k2 b2) k2 q2⟩;simp only[List.length_append,List.length_cons,List.length_nil];show(iJ 4 (cJ x)).length+_+_+_+(iJ 4 (cJ y)).length≤_;omega
       ·split
        ·rename_i hp5
         obtain⟨y,r',rfl⟩:=hbin hp5;have py:=hpar y (by rw[hx];exact List.mem_cons_of_mem _ List.mem_cons_self);rw[aM] at hn;rw[hx];obtain⟨p1,p2⟩:=px (bu e.op).2;obtain⟨q1,q2⟩:=py ((bu e.op).2+1);refine⟨?_,Cp (Cp p2 k2 b2) k2 q2⟩;simp only[List.length_append,List.length_cons,List.length_nil];show(iJ (bu e.op).2 (cJ x)).length+_+_+_+(iJ ((bu e.op).2+1) (cJ y)).length≤_;omega
        ·have hj:=ld e.args fun z hz=>(harg z hz).1
         rw[iW];refine⟨?_,Cp ?_ (xn fun t ht=> ?_) k3⟩
         ·rw[hx,aM] at hj
          rw[hx] at hlen⊢;simp only[List.length_append,List.length_cons,List.length_nil] at hj hlen⊢;split
          ·simp only[List.length_cons,List.length_nil];omega
          ·split<;>simp only[List.length_cons,List.length_nil]<;>omega
         ·split
          ·decide
          ·split<;>decide
         ·simp only[List.mem_map] at ht
          obtain⟨z,hz,rfl⟩:=ht;exact(harg z hz).2
end Go.Proofs.YtigoimhndlnhfaaGreat