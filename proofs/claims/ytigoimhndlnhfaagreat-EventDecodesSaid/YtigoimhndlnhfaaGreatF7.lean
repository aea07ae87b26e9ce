/-
  Texts that were joined: VodB, EvI, EvJ, EvH, EvK. Conditions: what each theorem names.
-/
import Derived.Test.YtigoimhndlnhfaaGreatF6
set_option linter.unusedSectionVars false
namespace Go.Proofs.YtigoimhndlnhfaaGreat
theorem EW {a b:Int}(h:a=b):some (Value.int .i64 a)=some (Value.int .i64 b):=by rw[h]
open Go.RowKit
def jc (s:List Nat):Prop:=∀d∈s,d<256
theorem jc.drop {s:List Nat}(h:jc s)(k:Nat):jc (s.drop k):=fun d hd=>h d (List.mem_of_mem_drop hd)
theorem jc.take {s:List Nat}(h:jc s)(k:Nat):jc (s.take k):=fun d hd=>h d (List.mem_of_mem_take hd)
theorem jc.tail {c:Nat}{s:List Nat}(h:jc (c::s)):jc s:=fun d hd=>h d (List.mem_cons_of_mem _ hd)
theorem jc.right {a s:List Nat}(h:jc (a++s)):jc s:=fun d hd=>h d (List.mem_append_right _ hd)
theorem jc.left {a s:List Nat}(h:jc (a++s)):jc a:=fun d hd=>h d (List.mem_append_left _ hd)
def gr:Nat→Nat→List Nat→Option (Nat × List Nat)
 |_,_,[]=>none
 |i,n,c::r=>if(i=9∧1<c)∨(0<i∧c=0) then none else if c<128 then some (n+c%128*2^(7*i),r) else gr (i+1) (n+c%128*2^(7*i)) r
def gP (s:List Nat):Option (Nat × List Nat):=gr 0 0 s
theorem Fb (i:Nat):2^(7*(i+1))=2^(7*i)*128:=by rw[Nat.mul_add,Nat.pow_add]
theorem yK:∀(k i n m:Nat) (r:List Nat),i+k=9→m<2*128^k→(0<i→0<m)→gr i n (iU k m++r)=some (n+m*2^(7*i),r)
 |k,i,n,m,r,hk,hm,h0=>by
  by_cases hs:m<128
  ·rw[dU hs]
   show(if(i=9∧1<m)∨(0<i∧m=0) then none else if m<128 then some (n+m%128*2^(7*i),r) else gr (i+1) (n+m%128*2^(7*i)) r)=_;rw[if_neg,if_pos hs,Nat.mod_eq_of_lt hs];rintro(⟨rfl,h⟩|⟨h1,h2⟩)
   ·obtain rfl:k=0:=by omega
    simp at hm;omega
   ·have:=h0 h1;omega
  ·obtain⟨k,rfl⟩:∃j,k=j+1:=⟨k-1,by
    rcases Nat.eq_zero_or_pos k with h|h
    ·subst h;simp at hm;omega
    ·omega⟩
   rw[gg hs];show(if(i=9∧1<m%128+128)∨(0<i∧m%128+128=0) then none else if m%128+128<128 then some (n+(m%128+128)%128*2^(7*i),iU k (m/128)++r) else gr (i+1) (n+(m%128+128)%128*2^(7*i)) (iU k (m/128)++r))=_;rw[if_neg (by omega),if_neg (by omega),yK k (i+1) _ (m/128) r (by omega) (by rw[Nat.pow_succ] at hm;rw[Nat.div_lt_iff_lt_mul (by omega)];omega) (by omega)];congr 2;rw[show(m%128+128)%128=m%128 by omega,Fb]
   have e:m%128*2^(7*i)+m/128*(2^(7*i)*128)=(m%128+128*(m/128))*2^(7*i):=by
    rw[Nat.add_mul,Nat.mul_comm (2^(7*i)) 128,←Nat.mul_assoc,Nat.mul_comm (m/128) 128]
   rw[Nat.add_assoc,e,Nat.mod_add_div]
theorem vo:∀(s:List Nat) (i n v:Nat) (r:List Nat),jc s→i≤9→gr i n s=some (v,r)→∃m,v=n+m*2^(7*i)∧s=iU (9-i) m++r∧m<2*128^(9-i)∧(0<i→0<m)
 | [],i,n,v,r,_,_,h=>by cases h
 |c::t,i,n,v,r,hb,hi,h=>by
  have hc:=hb c List.mem_cons_self;unfold gr at h
  by_cases hx:(i=9∧1<c)∨(0<i∧c=0)
  ·rw[if_pos hx] at h;cases h
  ·rw[if_neg hx] at h
   by_cases hs:c<128
   ·rw[if_pos hs] at h
    injection h with h
    injection h with h1 h2
    subst h2;refine⟨c,by rw[←h1,Nat.mod_eq_of_lt hs],by rw[dU hs];rfl,?_,by omega⟩;rcases Nat.lt_or_ge i 9 with h9|h9
    ·have:128^1≤128^(9-i):=Nat.pow_le_pow_right (by omega) (by omega)
     omega
    ·obtain rfl:i=9:=by omega
     simp;omega
   ·rw[if_neg hs] at h
    have h9:i<9:=by omega
    obtain⟨m,e1,e2,e3,e4⟩:=vo t (i+1) _ v r hb.tail (by omega) h;have e4:=e4 (by omega);have hk:9-i=(9-(i+1))+1:=by omega
    refine⟨c%128+128*m,?_,?_,?_,by omega⟩
    ·rw[e1,Fb,Nat.add_assoc]
     congr 1;rw[Nat.add_mul,Nat.mul_comm (2^(7*i)) 128,←Nat.mul_assoc,Nat.mul_comm m 128]
    ·rw[hk,gg (by omega),show(c%128+128*m)/128=m by omega,show(c%128+128*m)%128+128=c by omega,e2];rfl
    ·rw[hk,Nat.pow_succ];omega
structure Fg {α:Type}(p:List Nat→Option (α × List Nat))(enc:α→List Nat)(ok:α→Prop):Prop where
 full:∀a r,ok a→p (enc a++r)=some (a,r)
 sound:∀s a r,jc s→p s=some (a,r)→ok a∧s=enc a++r
theorem iV:Fg gP gA (fun n=>n<18446744073709551616) where
 full:=fun n r h=>by
  have:=yK 9 0 0 n r (by omega) (by omega) (by omega)
  simpa[gP,gA] using this
 sound:=fun s n r hs h=>by
  obtain⟨m,e1,e2,e3,-⟩:=vo s 0 0 n r hs (by omega) h;obtain rfl:n=m:=by rw[e1];simp
  exact⟨by have:(9-0:Nat)=9:=rfl;rw[this] at e3;omega,e2⟩
def bA (s:List Nat):Option (Nat × List Nat):=(gP s).bind fun x=>if x.1<9223372036854775808 then some x else none
def fG (n:Int)(s:List Nat):Option (List Nat × List Nat):=if 0≤n∧n≤(s.length:Int) then some (s.take n.toNat,s.drop n.toNat) else none
def kh (most:Nat)(s:List Nat):Option (List Nat × List Nat):=(bA s).bind fun x=>if x.1≤most then fG x.1 x.2 else none
def fu (n:Nat):Int:=if n%2=0 then((n/2:Nat):Int) else -((n/2:Nat):Int)-1
def mR (s:List Nat):Option (Int × List Nat):=(gP s).map fun x=>(fu x.1,x.2)
theorem dN:Fg bA gA (fun n=>n<9223372036854775808) where
 full:=fun n r h=>by
  unfold bA;rw[iV.full n r (by omega)];show(if n<_ then _ else _)=_;rw[if_pos h]
 sound:=fun s n r hs h=>by
  unfold bA at h
  cases hg:gP s with
  |none=>rw[hg] at h;cases h
  |some x=>
   rw[hg] at h;replace h:(if x.1<9223372036854775808 then some x else none)=some (n,r):=h;split at h
   ·injection h with h
    subst h;exact⟨by assumption,(iV.sound s n r hs hg).2⟩
   ·cases h
theorem gG (most:Nat)(hm:most<9223372036854775808):Fg (kh most) iB (fun t=>t.length≤most) where
 full:=fun t r h=>by
  unfold kh iB;rw[List.append_assoc,dN.full _ _ (by omega)];show(if t.length≤most then fG t.length (t++r) else none)=_;rw[if_pos h];unfold fG;rw[if_pos (by simp;omega)];simp
 sound:=fun s t r hs h=>by
  unfold kh at h
  cases hg:bA s with
  |none=>rw[hg] at h;cases h
  |some x=>
   obtain⟨n,q⟩:=x;obtain⟨o1,rfl⟩:=dN.sound s n q hs hg;rw[hg] at h;replace h:(if n≤most then fG n q else none)=some (t,r):=h;split at h
   ·unfold fG at h
    split at h
    ·rename_i h1 h2
     injection h with h
     injection h with e1 e2
     simp only[Int.toNat_natCast] at e1 e2;have hl:t.length=n:=by rw[←e1,List.length_take];omega
     refine⟨by omega,?_⟩;unfold iB;rw[hl,List.append_assoc,←e1,←e2,List.take_append_drop]
    ·cases h
   ·cases h
theorem zW {n:Int}(h:bm n):fu (nh n)=n:=by
 unfold bm at h;unfold nh fu;split
 ·rw[if_pos (by omega)];omega
 ·rw[if_neg (by omega)];omega
theorem sG {n:Nat}(h:n<18446744073709551616):nh (fu n)=n∧bm (fu n):=by
 unfold fu nh bm;split
 ·rw[if_pos (by omega)];omega
 ·rw[if_neg (by omega)];omega
theorem uY:Fg mR (fun n=>gA (nh n)) bm where
 full:=fun n r h=>by
  unfold mR;rw[iV.full _ r (C9 h)];show some (fu (nh n),r)=_;rw[zW h]
 sound:=fun s n r hs h=>by
  unfold mR at h
  cases hg:gP s with
  |none=>rw[hg] at h;cases h
  |some x=>
   obtain⟨m,q⟩:=x;obtain⟨o1,rfl⟩:=iV.sound s m q hs hg;rw[hg] at h;replace h:some (fu m,q)=some (n,r):=h;injection h with h
   injection h with e1 e2
   subst e1 e2;obtain⟨e3,e4⟩:=sG o1;refine⟨e4,?_⟩;simp only[e3]
section
variable {α:Type} {one:List Nat→Option (α × List Nat)} {enc:α→List Nat} {ok:α→Prop}
end
structure Kf (g:Nat)(w w':World):Prop where
 only:w.grownBy w' (some g)
section
variable {g:Nat} {w w' w'':World}
theorem Kf.refl (g:Nat)(w:World):Kf g w w:=⟨mI (Below.refl _ _) _⟩
theorem Kf.trans (h:Kf g w w')(k:Kf g w' w''):Kf g w w'':=⟨qp h.only k.only⟩
theorem Kf.step (h:Kf g w w')(k:Below w'.heap.size w' w''):Kf g w w'':=⟨qy h.only k⟩
theorem Kf.size (h:Kf g w w'):w.heap.size≤w'.heap.size:=h.only.size
theorem Kf.put {g':Nat}{T:TypeId}{cur cs:Array Value}(h:Kf g w w')(_k:aH w' g' T cur)(p:lu w' w'' g' T cs)(e:w.heap.size≤g'):Kf g w w'':=
 ⟨p.grown.os.trans h.only.os,p.grown.tape.trans h.only.tape,p.grown.output.trans h.only.output,by have:=p.size;have:=h.size;omega,fun k hk hne=>(p.grown.block k (by have:=h.size;omega) (fun e'=>by injection e' with e';omega)).trans (h.only.block k hk hne)⟩
theorem Kf.own {T:TypeId}{cs:Array Value}(h:Kf g w w')(p:lu w' w'' g T cs):Kf g w w'':=h.trans ⟨p.grown⟩
theorem Kf.to {B:Nat}(h:Kf g w w')(hB:B≤g)(hg:g<w.heap.size):Below B w w':=jA h.only hB hg
end
def Rd (T:TypeId)(w:World)(g:Nat)(o:Option (List Nat)):Prop:=∃s b,aH w g T #[.string (strOf s), .bool b]∧jc s∧o=if b=true then none else some s
section
variable {T:TypeId} {w w' w'':World} {g:Nat} {o:Option (List Nat)}
theorem Rd.step (h:Rd T w g o)(k:Below w.heap.size w w'):Rd T w' g o:=by
 obtain⟨s,b,h1,h2,h3⟩:=h;exact⟨s,b,h1.step k,h2,h3⟩
theorem Rd.put {g' B:Nat}{T':TypeId}{cur cs:Array Value}(h:Rd T w g o)(k:aH w g' T' cur)(p:lu w w' g' T' cs)(_e:B≤g')(hne:T≠T':=by decide):Rd T w' g o:=by
 obtain⟨s,b,h1,h2,h3⟩:=h;exact⟨s,b,h1.put p (h1.ne k hne),h2,h3⟩
theorem Rd.lt (h:Rd T w g o):g<w.heap.size:=by
 obtain⟨s,b,h1,-⟩:=h;exact h1.lt
theorem Kf.kf (h:Kf g w w')(f:Kf g w' w'')(_rd:Rd T w' g o):Kf g w w'':=h.trans f
theorem aH.kf {k:Nat}{t:TypeId}{cs:Array Value}(h:aH w k t cs)(f:Kf g w w')(rd:Rd T w g o)(hne:t≠T:=by decide):aH w' k t cs:=by
 obtain⟨s,b,h1,-⟩:=rd;exact h.grown f.only (fun e=>h.ne h1 hne (by injection e))
theorem Rd.bad {s:List Nat}(k:aH w g T #[.string (strOf s), .bool true]) (hs:jc s):Rd T w g none:=⟨s,true,k,hs,rfl⟩
theorem Rd.xN {s:List Nat}(k:aH w g T #[.string (strOf s), .bool false]) (hs:jc s):Rd T w g (some s):=⟨s,false,k,hs,rfl⟩
end
def rest {α:Type}(p:List Nat→Option (α × List Nat))(o:Option (List Nat)):Option (List Nat):=(o.bind p).map Prod.snd
def kD {α:Type}(p:List Nat→Option (α × List Nat))(o:Option (List Nat))(z:α):Prop:=∀a r,o.bind p=some (a,r)→z=a
theorem gh {α:Type}{p:List Nat→Option (α × List Nat)}{o:Option (List Nat)}{z:α}(h:o.bind p=none):kD p o z:=fun a r e=>by rw[h] at e;cases e
theorem mq {α:Type}{p:List Nat→Option (α × List Nat)}{o:Option (List Nat)}{z:α}{r:List Nat}(h:o.bind p=some (z,r)):kD p o z:=fun a r' e=>by rw[h] at e;injection e with e;injection e
def vQ (n:Int)(o:Option (List Nat)):List Nat:=((o.bind (fG n)).map Prod.fst).getD []
theorem sT (g:Nat)(o:Option (List Nat))(w:World)(h:Rd 146 w g o):Calls Tryz.prog 87 #[.pointer (some ⟨g,0,none⟩)] w fun e w'=>e= .returned (.bool o.isSome)∧Grow w w':=by
 obtain⟨s,b,k0,hs,rfl⟩:=h;have ab:=Below.refl w.heap.size w;refine Zs 12 Tryz.func87 ?_;refine aj ?_;refine Za ?_;refine dF 0 2 (aB ?_);refine Zm ?_;refine Zv (aa.E8 rfl rfl rfl Tryz.underlying86) ?_;refine Zm ?_;refine aw.start ?_;refine bw (fun hcx=>aa.move rfl rfl) ?_;refine Zn (fun hcx=>aa.nilCheck rfl rfl) ?_;refine Zn (fun hcx=>aa.ar 1 rfl rfl Tryz.underlying146 rfl (by kernel_rfl)) ?_;refine Zn (fun hcx=>aa.au rfl rfl Tryz.underlying4 rfl k0 rfl) ?_;refine Zn (fun hcx=>aa.not rfl rfl) ?_;refine fQ ?_;refine Za ?_;refine dF 0 2 (Zt (Cd.ret ?_));refine aZ ?_;exact⟨bt (aJ (by cases b<;>rfl)),ab⟩
theorem mv (g:Nat)(o:Option (List Nat))(w:World)(h:Rd 146 w g o):Calls Tryz.prog 85 #[.pointer (some ⟨g,0,none⟩)] w fun e w'=>e= .returned (.tuple #[])∧Kf g w w'∧Rd 146 w' g none:=by
 obtain⟨s,b,k0,hs,rfl⟩:=h;refine Zs 7 Tryz.func85 ?_;refine aj ?_;refine Zm ?_;refine Zv (aa.E8 rfl rfl rfl Tryz.underlying86) ?_;refine dF 0 3 (Zt ?_);refine Cd.aU rfl rfl ?_;refine Zr ?_;refine Zm ?_;refine Zv (aa.nilCheck rfl rfl) ?_;refine Zf 1 Tryz.underlying146 ?_;refine Zq k0 ?_;intro w1 pw1;replace k0:=pw1.an;refine dF 0 3 ?_;refine ae.gu rfl (.inr rfl) ?_;exact⟨rfl,⟨pw1.grown⟩,Rd.bad k0 hs⟩
theorem uh (g:Nat)(n:Int)(o:Option (List Nat))(w:World)(h:Rd 146 w g o):Calls Tryz.prog 86 #[.pointer (some ⟨g,0,none⟩), .int .i64 n] w fun e w'=>e= .returned (.string (strOf (vQ n o)))∧Kf g w w'∧Rd 146 w' g (rest (fG n) o):=by
 have rd:=h;obtain⟨s,b,k0,hs,ho⟩:=h;have kf:=Kf.refl g w;refine Zs 40 Tryz.func86 ?_;refine aj ?_;refine Za ?_;refine bn 0 1 4 (aI (aj ?_));refine Zm ?_;refine Zc (Ze Tryz.func87) (sT g o _ rd) ?_;rintro e w5 ⟨rfl,hb5⟩;refine⟨_,rfl,?_⟩;replace kf:=kf.step hb5;replace rd:=rd.step hb5;replace k0:=k0.step hb5;refine mD ?_;refine Zm ?_;refine aw.start ?_;refine bw (fun hcx=>aa.move rfl rfl) ?_;refine Zn (fun hcx=>aa.lss rfl rfl rfl) ?_;refine fg ?_;refine Zm ?_;refine aw.start ?_;refine bw (fun hcx=>aa.move rfl rfl) ?_;refine gq ?_;refine Zn (fun hcx=>aa.nilCheck rfl rfl) ?_;refine Zn (fun hcx=>aa.ar 0 rfl rfl Tryz.underlying146 rfl (by kernel_rfl)) ?_;refine Zn (fun hcx=>aa.au rfl rfl Tryz.underlying9 rfl k0 rfl) ?_;refine Zn (fun hcx=>aa.dh rfl rfl Tryz.underlying9) ?_;refine Zn (fun hcx=>aa.gtr rfl rfl rfl) ?_;refine fg ?_;refine aQ 0 1 4 21 (Zt ?_);refine Cd.cond rfl (fun h=> ?_) (fun h=> ?_)
 ·have hr:o.bind (fG n)=none:=by
   rw[ho]
   cases b with
   |true=>rfl
   |false=>
    rw[ho] at h;simp at h;show fG n s=none;unfold fG;rw[if_neg (by omega)]
  refine aj ?_;refine Zm ?_;refine Zc (Ze Tryz.func85) (mv g o _ rd) ?_;rintro e w1 ⟨rfl,fw1,rd'⟩;refine⟨_,rfl,?_⟩;replace kf:=kf.kf fw1 rd;replace rd:=rd';clear rd';refine aQ 0 1 4 21 (aB ?_);refine Za ?_;refine aQ 0 1 4 21 (Zt (Cd.ret (ae.af ?_)));refine aZ ?_;unfold rest vQ;rw[hr];exact⟨rfl,kf,rd⟩
 ·have hb:b=false:=by
   cases b with
   |false=>rfl
   |true=>rw[ho] at h;simp at h
  subst hb;have ho':o=some s:=ho;rw[ho'] at h;simp at h
  have hr:o.bind (fG n)=some (s.take n.toNat,s.drop n.toNat):=by
   rw[ho'];show fG n s=_;unfold fG;rw[if_pos (by omega)]
  refine Cd.skip (aB ?_);refine Zm ?_;refine Zv (aa.nilCheck rfl rfl) ?_;refine Zf 0 Tryz.underlying146 ?_;refine ZL Tryz.underlying9 k0 ?_;refine Zm ?_;refine Zv (aa.sliceTo rfl rfl rfl Tryz.underlying9 (j:=n.toNat) (by omega) (by omega)) ?_;refine Za ?_;refine aO 0 1 4 5 21 (aB ?_);refine Zm ?_;refine Zm ?_;refine Zv (aa.nilCheck rfl rfl) ?_;refine Zf 0 Tryz.underlying146 ?_;refine ZL Tryz.underlying9 k0 ?_;refine Zm ?_;refine Zv (aa.sliceFrom rfl rfl rfl Tryz.underlying9 (j:=n.toNat) (by omega) (by omega)) ?_;refine Zv (aa.nilCheck rfl rfl) ?_;refine Zf 0 Tryz.underlying146 ?_;refine Zq k0 ?_;intro w1 pw1;replace k0:=pw1.an;refine aO 0 1 4 5 21 (aB ?_);refine Zm ?_;have kf2:=kf.own pw1;refine Za ?_;refine aO 0 1 4 5 21 (Zt (Cd.ret ?_));refine aZ ?_;unfold rest vQ;rw[hr];exact⟨rfl,kf2,Rd.xN k0 (hs.drop _)⟩
theorem bX {α:Type}{p:List Nat→Option (α × List Nat)}{o:Option (List Nat)}(h:o.bind p=none):rest p o=none:=by unfold rest;rw[h];rfl
theorem de {α:Type}{p:List Nat→Option (α × List Nat)}{o:Option (List Nat)}{z:α}{r:List Nat}(h:o.bind p=some (z,r)):rest p o=some r:=by unfold rest;rw[h];rfl
theorem BI {i:Nat}(hi:i≤9):2^(7*i)≤9223372036854775808:=by
 have:2^(7*i)≤2^63:=Nat.pow_le_pow_right (by omega) (by omega);exact this
theorem Ek {i c:Nat}(hi:i≤9)(hc:i=9→c≤1):c%128*2^(7*i)≤18446744073709551616-2^(7*i):=by
 have hm:c%128≤127:=by omega
 rcases Nat.lt_or_ge i 9 with h|h
 ·have h1:2^(7*i)≤2^56:=Nat.pow_le_pow_right (by omega) (by omega)
  have h2:c%128*2^(7*i)≤127*2^56:=Nat.mul_le_mul hm h1;omega
 ·obtain rfl:i=9:=by omega
  have:=hc rfl;have h3:(2:Nat)^(7*9)=9223372036854775808:=rfl;rw[h3];omega
theorem DC {i n c:Nat}(hi:i≤9)(hc:i=9→c≤1)(hn:n<2^(7*i)):c%128*2^(7*i)<18446744073709551616∧n+c%128*2^(7*i)<18446744073709551616∧n<18446744073709551616:=by
 have h1:=BI hi;have h2:=Ek hi hc;have h3:0<2^(7*i):=Nat.two_pow_pos _
 generalize c%128*2^(7*i)=T at *
 generalize 2^(7*i)=p at *
 omega
theorem C6 {c i:Nat}(h:c%128*2^(7*i)<18446744073709551616):IntKind.u64.wrap (((c%2^7:Nat):Int)*2^(7*i))=((c%128*2^(7*i):Nat):Int):=by
 have e:((c%2^7:Nat):Int)*2^(7*i)=((c%128*2^(7*i):Nat):Int):=by rw[Int.natCast_mul,Int.natCast_pow];rfl
 rw[e];exact jK (Int.natCast_nonneg _) (Int.ofNat_lt.2 h)
theorem pc (g:Nat)(o:Option (List Nat))(w:World)(h:Rd 146 w g o):Calls Tryz.prog 84 #[.pointer (some ⟨g,0,none⟩)] w fun e w'=>∃z:Nat,(z<18446744073709551616∧kD gP o z∧e= .returned (.int .u64 (z:Int)))∧Kf g w w'∧Rd 146 w' g (rest gP o):=by
 have rd:=h;have kf:=Kf.refl g w;refine Zs 42 Tryz.func84 ?_;refine aj ?_;refine Za ?_;refine dF 0 2 (aB ?_);refine Za ?_;refine bn 0 2 3 (aB ?_);refine Za ?_;refine aQ 0 2 3 4 (Zt (Cd.block ?_))
 refine Cd.loop (σ:=Nat × Nat × Option (List Nat)) (fun s=>[(0, .pointer (some ⟨g,0,none⟩)),(3, .int .u64 (s.2.1:Int)),(4, .int .i64 (s.1:Int))])
  (fun s wr=>s.1≤9∧s.2.1<2^(7*s.1)∧s.2.2.bind (gr s.1 s.2.1)=o.bind gP∧Kf g w wr∧Rd 146 wr g s.2.2) (fun s=>10-s.1) (0,0,o) ⟨Nat.zero_le _,(show 0<2^(7*0) by decide),rfl,kf,rd⟩ ⟨rfl,rfl,rfl,trivial⟩ ?_
 clear kf rd;rintro⟨i,n,q⟩ wr ⟨hi,hn,hq,kf,rd⟩;simp only at hi hn hq rd;show Cd _ _ _ _ [(0, .pointer (some ⟨g,0,none⟩)),(3, .int .u64 (n:Int)),(4, .int .i64 (i:Int))] _;have hlow:=BI hi;refine Cd.seq (Cd.block (aj ?_));refine Zm ?_;have hbyt0:=rd;refine Zc (Ze Tryz.func86) (uh g 1 q _ rd) ?_;rintro e w1 ⟨rfl,fw1,rd'⟩;refine⟨_,rfl,?_⟩;replace kf:=kf.kf fw1 rd;replace rd:=rd';clear rd'
 cases hqq:q.bind (fG 1) with
 |none=>
  have hnone:o.bind gP=none:=by
   rw[←hq]
   cases q with
   |none=>rfl
   |some s=>
    cases s with
    |nil=>rfl
    |cons c r=>
     exfalso;have:fG 1 (c::r)=none:=hqq;unfold fG at this;rw[if_pos (by simp;omega)] at this
     cases this
  rw[bX hqq] at rd;rw[show vQ 1 q=[] by unfold vQ;rw[hqq];rfl];refine Za ?_;refine aQ 0 3 4 5 (aI (aj ?_));refine Zm ?_;refine Zv (aa.cI (a:=[]) (b:=[]) rfl rfl rfl (by simp) (by simp)) ?_;refine aO 0 3 4 5 12 (Zt ?_);refine Cd.aU rfl rfl ?_;refine aj ?_;refine Za ?_;refine aY 0 2 3 4 5 12 (Zt (Cd.ret (ae.af (ae.ag (ae.af (ae.aX (ae.ag ?_)))))));refine aZ ?_;refine⟨0,⟨by decide,gh hnone,rfl⟩,kf,?_⟩;rw[bX hnone];exact rd
 |some x=>
  obtain⟨c,r,rfl⟩:∃c r,q=some (c::r):=by
   cases q with
   |none=>cases hqq
   |some s=>
    cases s with
    |nil=>exact absurd (show fG 1 []=some x from hqq) (by simp[fG])
    |cons c r=>exact⟨c,r,rfl⟩
  have hx:x=([c],r):=by
   have:fG 1 (c::r)=some x:=hqq;unfold fG at this;rw[if_pos (by simp;omega)] at this;injection this with this
   rw[←this];rfl
  subst hx;have rdc:=hbyt0;rw[de hqq] at rd;rw[show vQ 1 (some (c::r))=[c] by unfold vQ;rw[hqq];rfl]
  have hbr:jc (c::r):=by
   obtain⟨s',b',-,hs',ho'⟩:=rdc
   cases b' with
   |true=>cases ho'
   |false=>injection ho' with ho';rw[ho'];exact hs'
  have hc:=hbr c List.mem_cons_self;have hgr:gr i n (c::r)=if(i=9∧1<c)∨(0<i∧c=0) then none else if c<128 then some (n+c%128*2^(7*i),r) else gr (i+1) (n+c%128*2^(7*i)) r:=rfl;replace hq:gr i n (c::r)=o.bind gP:=hq;rw[hgr] at hq;refine Za ?_;refine aQ 0 3 4 5 (aI (aj ?_));refine Zm ?_;refine Zv (aa.cI (a:=[c]) (b:=[]) rfl rfl rfl (by intro x hx;simp at hx;omega) (by simp)) ?_;refine aO 0 3 4 5 12 (Zt ?_);refine Cd.aM rfl (decide_eq_false (by simp)) ?_;refine Cd.skip (aB ?_);refine Zm ?_;refine Zv (aa.cz (j:=0) (c:=c) rfl rfl rfl Tryz.underlying9 rfl rfl hc) ?_;refine Zv (aa.dJ rfl rfl Tryz.underlying5 Tryz.underlying94 (jK (by omega) (by omega))) ?_;refine Za ?_;refine aY 0 3 4 5 6 12 (aI (aj ?_));refine Zm ?_;refine bC ?_;refine Zm ?_;refine aw.start ?_;refine bw (fun hcx=>aa.move rfl rfl) ?_;refine Zn (fun hcx=>aa.gtr rfl rfl rfl) ?_;refine fQ ?_;refine Zm ?_;refine aw.start ?_;refine bw (fun hcx=>aa.move rfl rfl) ?_;refine Zn (fun hcx=>aa.gtr rfl rfl rfl) ?_;refine gq ?_;refine bw (fun hcx=>aa.move rfl rfl) ?_;refine Zn (fun hcx=>aa.fh rfl rfl rfl) ?_;refine aw.mF rfl rfl rfl rfl rfl rfl rfl rfl rfl rfl rfl ?_;refine fg ?_;refine ba 0 3 4 5 6 12 29 (Zt ?_);refine Cd.cond rfl (fun h=> ?_) (fun h=> ?_)
  ·rw[if_pos (by simp at h;omega)] at hq
   refine aj ?_;refine Zm ?_;refine Zc (Ze Tryz.func85) (mv g _ _ rd) ?_;rintro e w2 ⟨rfl,fw2,rd'⟩;refine⟨_,rfl,?_⟩;replace kf:=kf.kf fw2 rd;replace rd:=rd';clear rd';refine ba 0 3 4 5 6 12 29 (aB ?_);refine Za ?_;refine cB 0 2 3 4 5 6 12 29 (Zt (Cd.ret (ae.af (ae.ag (ae.af (ae.aX (ae.ag ?_)))))));refine aZ ?_;refine⟨0,⟨by decide,gh hq.symm,rfl⟩,kf,?_⟩;rw[bX hq.symm];exact rd
  ·rw[if_neg (by simp at h;omega)] at hq
   have h9:i=9→c≤1:=by simp at h;omega
   obtain⟨b1,b2,b3⟩:=DC hi h9 hn;have hmin:min (7*(i:Int)).toNat IntKind.u64.bits=7*i:=by simp[IntKind.bits];omega
   refine Cd.skip (aB ?_);refine Zm ?_;refine Zm ?_;refine Zv (aa.EJ (m:=127) 7 rfl rfl rfl rfl (by omega) (by omega)) ?_;refine Zm ?_;refine Zv (aa.rF rfl rfl rfl (by omega) (by omega)) ?_;refine Zv (aa.F9 (r:=((c%128*2^(7*i):Nat):Int)) rfl rfl rfl (by omega) (by rw[hmin];exact C6 b1)) ?_;refine Zv (aa.BE (a:=n) (b:=c%128*2^(7*i)) (r:=n+c%128*2^(7*i)) rfl rfl rfl b3 b1 (.inr (.inl ⟨rfl,by rw[Nat.or_comm,Nat.mul_comm (c%128),←Nat.two_pow_add_eq_or_of_lt hn,Nat.add_comm]⟩))) ?_;refine Za ?_;refine ba 0 3 4 5 6 12 29 (aB ?_);refine Zm ?_;refine eI ?_;refine cB 0 3 4 5 6 12 29 40 (Zt ?_);refine Cd.ak rfl (fun hc=> ?_) (fun hc=> ?_)
   ·rw[if_pos (by omega)] at hq
    refine aj ?_;refine Zm ?_;refine Za ?_;refine dY 0 2 3 4 5 6 12 29 40 (Zt (Cd.ret (ae.ag (ae.af (ae.aX (ae.ag ?_))))));refine aZ ?_;refine⟨_,⟨b2,mq hq.symm,rfl⟩,kf,?_⟩;rw[de hq.symm];exact rd
   ·rw[if_neg (by omega)] at hq
    have hi8:i<9:=by omega
    refine Cd.skip (ae.ah (eh ?_));refine Zm ?_;refine cG ?_;refine Za ?_;refine cB 0 3 4 5 6 12 29 40 ?_;refine ae.round (i+1,n+c%128*2^(7*i),some r) ⟨rfl,rfl,rfl,trivial⟩ ⟨by simp only;omega,?_,hq,kf,rd⟩ (by simp only;omega);simp only;rw[Fb];have hm:c%128≤127:=by omega
    have:=Nat.mul_le_mul_right (2^(7*i)) hm;omega
theorem jF (g:Nat)(o:Option (List Nat))(w:World)(h:Rd 146 w g o):Calls Tryz.prog 42 #[.pointer (some ⟨g,0,none⟩)] w fun e w'=>∃z:Nat,(z<9223372036854775808∧kD bA o z∧e= .returned (.int .i64 (z:Int)))∧Kf g w w'∧Rd 146 w' g (rest bA o):=by
 have rd:=h;have kf:=Kf.refl g w;have hsz:o.bind bA=(o.bind gP).bind fun x=>if x.1<9223372036854775808 then some x else none:=by cases o<;>rfl
 refine Zs 12 Tryz.func42 ?_;refine aj ?_;refine Za ?_;refine dF 0 2 (aB ?_);refine Zm ?_;refine Zc (Ze Tryz.func84) (pc g o _ rd) ?_;rintro e w1 ⟨z,⟨hz,hv,rfl⟩,fw1,rd'⟩;refine⟨_,rfl,?_⟩;replace kf:=kf.kf fw1 rd;replace rd:=rd';clear rd';refine Za ?_;refine bn 0 2 3 (aI (aj ?_));refine Zm ?_;refine kZ ?_;refine aQ 0 2 3 7 (Zt ?_);refine Cd.ak rfl (fun hc=> ?_) (fun hc=> ?_)
 ·have hn:o.bind bA=none:=by
   rw[hsz]
   cases hx:o.bind gP with
   |none=>rfl
   |some x=>
    have:=hv x.1 x.2 hx;show(if x.1<_ then _ else _)=_;rw[if_neg (by omega)]
  refine aj ?_;refine Zm ?_;refine Zc (Ze Tryz.func85) (mv g _ _ rd) ?_;rintro e w2 ⟨rfl,fw2,rd'⟩;refine⟨_,rfl,?_⟩;replace kf:=kf.kf fw2 rd;replace rd:=rd';clear rd';refine aQ 0 2 3 7 (aB ?_);refine Za ?_;refine aQ 0 2 3 7 (Zt (Cd.ret (ae.af ?_)));refine aZ ?_;refine⟨0,⟨by decide,gh hn,rfl⟩,kf,?_⟩;rw[bX hn];exact rd
 ·have hr:rest bA o=rest gP o∧kD bA o z:=by
   cases hx:o.bind gP with
   |none=>rw[hx] at hsz;exact⟨by rw[bX hx,bX hsz],gh hsz⟩
   |some x=>
    obtain⟨m,r⟩:=x;have e:=hv m r hx;subst e;rw[hx] at hsz
    have hs2:o.bind bA=some (z,r):=by
     rw[hsz];show(if z<_ then _ else _)=_;rw[if_pos (by omega)]
    exact⟨by rw[de hx,de hs2],mq hs2⟩
  refine Cd.skip (aB ?_);refine Zm ?_;refine Zv (aa.dJ rfl rfl Tryz.underlying94 Tryz.underlying3 (iO (by omega) (by omega))) ?_;refine Za ?_;refine aQ 0 2 3 7 (Zt (Cd.ret ?_));refine aZ ?_;refine⟨z,⟨by omega,hr.2,rfl⟩,kf,?_⟩;rw[hr.1];exact rd
theorem pE (p q:Int)(w:World){P:Program}(hp:0≤p)(hp2:p<9223372036854775808)(hq:q=0∨q= -1):(Op.intBits .xor .i64 p q).run P w= .ok (.int .i64 (if q=0 then p else -p-1)) w:=by
 have e1:(BitVec.ofInt IntKind.i64.bits p).toNat=p.toNat:=by simp[IntKind.bits];omega
 have hx:IntKind.i64.wrap (((BitVec.ofInt IntKind.i64.bits p)^^^(BitVec.ofInt IntKind.i64.bits q)).toNat:Int)=if q=0 then p else -p-1:=by
  rcases hq with rfl|rfl
  ·have:BitVec.ofInt IntKind.i64.bits p^^^BitVec.ofInt IntKind.i64.bits 0=BitVec.ofInt IntKind.i64.bits p:=by simp
   rw[this,e1,if_pos rfl,IntKind.wrap_i64];omega
  ·have h1:BitVec.ofInt 64 (-1)=BitVec.allOnes 64:=by decide
   have e2:(BitVec.ofInt 64 p).toNat=p.toNat:=e1;show IntKind.i64.wrap (((BitVec.ofInt 64 p)^^^(BitVec.ofInt 64 (-1))).toNat:Int)=_;rw[h1,BitVec.xor_allOnes,BitVec.toNat_not,e2,if_neg (by decide),IntKind.wrap_i64];have:(2:Nat)^64=18446744073709551616:=rfl;rw[this];omega
 unfold Op.intBits;simp only[hx];rfl
theorem uk (g:Nat)(o:Option (List Nat))(w:World)(h:Rd 146 w g o):Calls Tryz.prog 44 #[.pointer (some ⟨g,0,none⟩)] w fun e w'=>∃z:Int,(bm z∧kD mR o z∧e= .returned (.int .i64 z))∧Kf g w w'∧Rd 146 w' g (rest mR o):=by
 have rd:=h;have kf:=Kf.refl g w;have hsz:o.bind mR=(o.bind gP).map fun x=>(fu x.1,x.2):=by cases o<;>rfl
 refine Zs 14 Tryz.func44 ?_;refine aj ?_;refine Za ?_;refine dF 0 2 (aB ?_);refine Zm ?_;refine Zc (Ze Tryz.func84) (pc g o _ rd) ?_;rintro e w1 ⟨z,⟨hz,hv,rfl⟩,fw1,rd'⟩;refine⟨_,rfl,?_⟩;replace kf:=kf.kf fw1 rd;replace rd:=rd';clear rd'
 have hr:rest mR o=rest gP o∧kD mR o (fu z):=by
  cases hx:o.bind gP with
  |none=>
   rw[hx] at hsz;have hsz:o.bind mR=none:=hsz;exact⟨by rw[bX hx,bX hsz],gh hsz⟩
  |some x=>
   obtain⟨m,r⟩:=x;have e:=hv m r hx;subst e;rw[hx] at hsz;have hs2:o.bind mR=some (fu z,r):=hsz;exact⟨by rw[de hx,de hs2],mq hs2⟩
 have hm:z%2^1=z%2:=rfl
 have hun:fu z=if -((z%2:Nat):Int)=0 then((z/2:Nat):Int) else -((z/2:Nat):Int)-1:=by
  unfold fu
  by_cases h2:z%2=0
  ·rw[if_pos h2,if_pos (by omega)]
  ·rw[if_neg h2,if_neg (by omega)]
 refine Za ?_;refine bn 0 2 3 (aB ?_);refine Zm ?_;refine Zv (aa.Gd rfl rfl rfl (s:=1) rfl (by omega)) ?_;refine Zv ((aa.dJ rfl rfl Tryz.underlying94 Tryz.underlying2 (iO (by omega) (by omega))).cast (v':= .int .i64 ((z/2:Nat):Int)) rfl) ?_;refine Zm ?_;refine Zv (aa.EJ (m:=1) 1 rfl rfl rfl rfl (by omega) (by omega)) ?_;refine Zv ((aa.dJ rfl rfl Tryz.underlying94 Tryz.underlying2 (iO (by omega) (by omega))).cast (v':= .int .i64 ((z%2:Nat):Int)) rfl) ?_;refine Zv (aa.neg rfl rfl (r:= -((z%2:Nat):Int)) (by rw[IntKind.wrap_i64];omega)) ?_;refine Zv (aa.bin rfl rfl rfl rfl (pE _ _ _ (by omega) (by omega) (by omega))) ?_;rw[←hun];refine Za ?_;refine bn 0 2 3 (Zt (Cd.ret ?_));refine aZ ?_;refine⟨fu z,⟨(sG hz).2,hr.2,rfl⟩,kf,?_⟩;rw[hr.1];exact rd
theorem mA (g most:Nat)(o:Option (List Nat))(w:World)(h:Rd 146 w g o):Calls Tryz.prog 43 #[.pointer (some ⟨g,0,none⟩), .int .i64 (most:Int)] w fun e w'=>∃z:List Nat,(jc z∧kD (kh most) o z∧e= .returned (.string (strOf z)))∧Kf g w w'∧Rd 146 w' g (rest (kh most) o):=by
 have rd:=h;have kf:=Kf.refl g w;have hsz:o.bind (kh most)=(o.bind bA).bind fun x=>if x.1≤most then fG x.1 x.2 else none:=by cases o<;>rfl
 have hbyt:∀s,o=some s→jc s:=fun s e=>by
  obtain⟨s',b',-,hs',ho'⟩:=h;rw[e] at ho'
  cases b' with
  |true=>cases ho'
  |false=>injection ho' with ho';rw[ho'];exact hs'
 refine Zs 16 Tryz.func43 ?_;refine aj ?_;refine Za ?_;refine bn 0 1 4 (aB ?_);refine Zm ?_;refine Zc (Ze Tryz.func42) (jF g o _ rd) ?_;rintro e w1 ⟨z,⟨hz,hv,rfl⟩,fw1,rd'⟩;refine⟨_,rfl,?_⟩;replace kf:=kf.kf fw1 rd;replace rd:=rd';clear rd';refine Za ?_;refine aQ 0 1 4 5 (Zt ?_);refine Cd.lB (σ:=Unit) (fun _=>[(0, .pointer (some ⟨g,0,none⟩)),(5, .int .i64 (z:Int))]) (fun _ wr=>Kf g w wr∧Rd 146 wr g (if z≤most then rest bA o else none)) ?_ ?_
 ·skip
  refine aj ?_;refine Zm ?_;refine Zm ?_;refine uV ?_;refine aO 0 1 4 5 10 (Zt ?_);refine Cd.ak rfl (fun hc=> ?_) (fun hc=> ?_)
  ·skip
   refine Zr ?_;refine Zm ?_;refine Zc (Ze Tryz.func85) (mv g _ _ rd) ?_;rintro e w2 ⟨rfl,fw2,rd'⟩;refine⟨_,rfl,?_⟩;replace kf:=kf.kf fw2 rd;replace rd:=rd';clear rd';refine aO 0 1 4 5 10 ?_;exact ae.join () ⟨rfl,rfl,trivial⟩ ⟨kf,by rw[if_neg (by omega)];exact rd⟩
  ·skip
   refine Cd.skip ?_;exact ae.join () ⟨rfl,rfl,trivial⟩ ⟨kf,by rw[if_pos (by omega)];exact rd⟩
 clear kf rd;rintro⟨⟩ wr ⟨kf,rd⟩;refine aj ?_;refine Zm ?_;refine Zm ?_;refine Zc (Ze Tryz.func86) (uh g z _ _ rd) ?_;rintro e w2 ⟨rfl,fw2,rd'⟩;refine⟨_,rfl,?_⟩;replace kf:=kf.kf fw2 rd;replace rd:=rd';clear rd';refine Za ?_;refine bn 0 4 5 (Zt (Cd.ret ?_));refine aZ ?_
 have hx:rest (fG z) (if z≤most then rest bA o else none)=rest (kh most) o∧∃t,t=vQ z (if z≤most then rest bA o else none)∧jc t∧kD (kh most) o t:=by
  cases hs:o.bind bA with
  |none=>
   have e:(if z≤most then rest bA o else none)=none:=(by
    by_cases hz3:z≤most
    ·rw[if_pos hz3];exact bX hs
    ·rw[if_neg hz3])
   rw[hs] at hsz;have hsz:o.bind (kh most)=none:=hsz;rw[e];exact⟨by rw[bX hsz];rfl,[],rfl,(fun d hd=>by cases hd),gh hsz⟩
  |some x=>
   obtain⟨m,r⟩:=x;have e:=hv m r hs;subst e;rw[hs] at hsz;replace hsz:o.bind (kh most)=if z≤most then fG z r else none:=hsz
   have hbr:jc r:=by
    cases o with
    |none=>cases hs
    |some s=>exact jc.right (a:=gA z) ((dN.sound s z r (hbyt s rfl) hs).2▸hbyt s rfl)
   by_cases hz2:z≤most
   ·rw[if_pos hz2] at hsz
    rw[if_pos hz2,de hs]
    cases hr:fG z r with
    |none=>
     rw[hr] at hsz;refine⟨by rw[bX hsz];exact bX hr,[],?_,(fun d hd=>by cases hd),gh hsz⟩;show _=((fG z r).map Prod.fst).getD [];rw[hr];rfl
    |some y=>
     obtain⟨t,q⟩:=y;rw[hr] at hsz;refine⟨by rw[de hsz];exact de (o:=some r) hr,t,?_,?_,mq hsz⟩
     ·show _=((fG z r).map Prod.fst).getD []
      rw[hr];rfl
     ·unfold fG at hr
      split at hr
      ·injection hr with hr
       injection hr with hr _
       rw[←hr];exact hbr.take _
      ·cases hr
   ·rw[if_neg hz2] at hsz
    rw[if_neg hz2];exact⟨by rw[bX hsz];rfl,[],rfl,(fun d hd=>by cases hd),gh hsz⟩
 obtain⟨hx1,t,ht,hb,hv2⟩:=hx;refine⟨t,⟨hb,hv2,by rw[ht]⟩,kf,?_⟩;rw[←hx1];exact rd
theorem Co (g:Nat)(o:Option (List Nat))(w:World)(h:Rd 146 w g o):Calls Tryz.prog 45 #[.pointer (some ⟨g,0,none⟩)] w fun e w'=>e= .returned (.bool (decide (o=some [])))∧Grow w w':=by
 have rd:=h;obtain⟨s,b,k0,hs,ho⟩:=h;have ab:=Below.refl w.heap.size w;refine Zs 13 Tryz.func45 ?_;refine aj ?_;refine Za ?_;refine dF 0 2 (aB ?_);refine Zm ?_;refine Zc (Ze Tryz.func87) (sT g o _ rd) ?_;rintro e w5 ⟨rfl,hb5⟩;refine⟨_,rfl,?_⟩;replace ab:=ab.step hb5;replace k0:=k0.step hb5;refine Zm ?_;refine aw.start ?_;refine bw (fun hcx=>aa.move rfl rfl) ?_;refine Zn (fun hcx=>aa.nilCheck rfl rfl) ?_;refine Zn (fun hcx=>aa.ar 0 rfl rfl Tryz.underlying146 rfl (by kernel_rfl)) ?_;refine Zn (fun hcx=>aa.au rfl rfl Tryz.underlying9 rfl k0 rfl) ?_;refine Zn (fun hcx=>aa.dh rfl rfl Tryz.underlying9) ?_;refine Zn (fun hcx=>aa.fh rfl rfl rfl) ?_;refine fQ ?_;refine Za ?_;refine dF 0 2 (Zt (Cd.ret ?_));refine aZ ?_;refine⟨bt (aJ ?_),ab⟩;subst ho
 cases b with
 |true=>rfl
 |false=>
  cases s with
  |nil=>rfl
  |cons c r=>simp;omega
theorem CK (s:List Nat)(w:World)(hs:jc s):Calls Tryz.prog 41 #[.string (strOf s)] w fun e w'=>∃g,e= .returned (.pointer (some ⟨g,0,none⟩))∧Grow w w'∧w.heap.size≤g∧Rd 146 w' g (some s):=by
 have ab:=Below.refl w.heap.size w
 have hb:∀W,(Instr.build 146 #[(0, .string (strOf s))]).run Tryz.prog W= .ok (.agg #[.string (strOf s), .bool false]) W:=fun W=>by
  have hu:=Tryz.underlying146
  go_simp
 refine Zs 6 Tryz.func41 ?_;refine aj ?_;refine Za ?_;refine dF 0 2 (aB ?_);refine Zm ?_;refine Zv (aa.build rfl rfl (hb _)) ?_;refine Seq.box rfl rfl rfl rfl rfl ?_;intro g5 w1 n5;have e5:=Nat.le_trans ab.size n5.ge;replace ab:=ab.step n5.below;have k5:=n5.an;refine Za ?_;refine dF 0 2 (Zt (Cd.ret ?_));refine aZ ?_;exact⟨_,rfl,ab,e5,Rd.xN k5 hs⟩
def rl:List Nat→Nat
 | []=>0
 |d::l=>(128*rl l+d%128)%18446744073709551616
theorem yr (l:List Nat):rl l<18446744073709551616:=by
 cases l with
 |nil=>decide
 |cons d l=>exact Nat.mod_lt _ (by decide)
theorem sf:∀k n,n<18446744073709551616→rl (iU k n)=n∨2*128^k≤n
 |0,n,h=>by
  by_cases h2:n<2
  ·left
   show(128*0+n%128)%18446744073709551616=n;omega
  ·right;simp;omega
 |k+1,n,h=>by
  by_cases hn:n<128
  ·left
   rw[dU hn];show(128*0+n%128)%18446744073709551616=n;omega
  ·rcases sf k (n/128) (by omega) with h2|h2
   ·left
    rw[gg hn];show(128*rl (iU k (n/128))+(n%128+128)%128)%18446744073709551616=n;rw[h2];omega
   ·right
    rw[Nat.pow_succ];omega
theorem BM {n:Nat}(h:n<18446744073709551616):rl (gA n)=n:=by
 rcases sf 9 n h with h2|h2
 ·exact h2
 ·omega
theorem j9:∀k n,n<2*128^k→∃a c,iU k n=a++[c]∧(∀d∈a,128≤d)∧c<128
 |0,n,h=>⟨[],n,rfl,by simp,by simp at h;omega⟩
 |k+1,n,h=>by
  by_cases hn:n<128
  ·exact⟨[],n,by rw[dU hn];rfl,by simp,hn⟩
  ·obtain⟨a,c,e,h1,h2⟩:=j9 k (n/128) (by rw[Nat.pow_succ] at h;rw[Nat.div_lt_iff_lt_mul (by omega)];omega)
   refine⟨(n%128+128)::a,c,by rw[gg hn,e];rfl,fun d hd=> ?_,h2⟩;rcases List.mem_cons.1 hd with rfl|hd
   ·omega
   ·exact h1 d hd
theorem DX {m k:Nat}{s r:List Nat}(hm:m<18446744073709551616)(hs:s=gA m++r)(hk1:1≤k)(hk:k≤s.length)(hk10:k≤10)(hb:∀j,j+1<k→∀d,s[j]? =some d→128≤d)(he:(∀d,s[k-1]? =some d→d<128)∨k=10):s.take k=gA m:=by
 obtain⟨a,c,e,h1,h2⟩:=j9 9 m (by omega);have hl:=gT m;have e':gA m=a++[c]:=e;have hla:(gA m).length=a.length+1:=by rw[e'];simp
 have hc:s[a.length]? =some c:=by
  rw[hs,e',List.append_assoc,List.getElem?_append_right (Nat.le_refl _),Nat.sub_self];rfl
 have ha:∀j,j<a.length→∃d,s[j]? =some d∧128≤d:=fun j hj=>by
  refine⟨a[j],?_,h1 _ (List.getElem_mem hj)⟩;rw[hs,e',List.append_assoc,List.getElem?_append_left hj,List.getElem?_eq_getElem hj]
 have hka:k=a.length+1:=by
  rcases Nat.lt_trichotomy k (a.length+1) with h|h|h
  ·obtain⟨d,hd,hd2⟩:=ha (k-1) (by omega)
   rcases he with he|he
   ·have:=he d hd;omega
   ·omega
  ·exact h
  ·have:=hb a.length (by omega) c hc
   omega
 rw[hka,←hla,hs];simp
def lV (s:List Nat):Nat × Nat:=match gP s with
 |some (n,r)=>(n,s.length-r.length)
 |none=>(0,0)
theorem zp {s:List Nat}{i d:Nat}(h:s[i]? =some d)(k:Nat)(hk:i<k):rl ((s.take k).drop i)=(128*rl ((s.take k).drop (i+1))+d%128)%18446744073709551616:=by
 have hi:=(List.getElem?_eq_some_iff.1 h).1;have hlt:i<(s.take k).length:=by rw[List.length_take];omega
 rw[List.drop_eq_getElem_cons hlt]
 have:(s.take k)[i]=d:=by
  rw[List.getElem_take];obtain⟨_,e⟩:=List.getElem?_eq_some_iff.1 h;exact e
 rw[this];rfl
theorem Ae (s:List Nat)(w:World)(hs:jc s):Calls Tryz.prog 88 #[.string (strOf s)] w fun e w'=>e= .returned (.tuple #[.int .u64 ((lV s).1:Int), .int .i64 ((lV s).2:Int)])∧Grow w w':=by
 have ab:=Below.refl w.heap.size w;have hnone:gP s=none→lV s=(0,0):=fun h=>by unfold lV;rw[h]
 have hsome:∀n k,n<18446744073709551616→k≤s.length→gA n=s.take k→lV s=(n,k):=fun n k hn hk h=>by
  have e:s=gA n++s.drop k:=by rw[h,List.take_append_drop]
  have hg:gP s=some (n,s.drop k):=by conv=>lhs;rw[e]
                                     exact iV.full n _ hn
  unfold lV;rw[hg];show(n,s.length-(s.drop k).length)=(n,k);rw[List.length_drop];congr 1;omega
 generalize lV s=R at *
 refine Zs 48 Tryz.func88 ?_;refine aj ?_;refine Za ?_;refine Za ?_;refine bn 0 2 3 (aI (aj ?_));refine Za ?_;refine aQ 0 2 3 4 (Zt (Cd.block ?_))
 refine Cd.loop (σ:=Nat) (fun k=>[(0, .string (strOf s)),(4, .int .i64 (k:Int))])
  (fun k wr=>1≤k∧k≤10∧k≤s.length+1∧(∀j,j+1<k→∀d,s[j]? =some d→128≤d)∧Below w.heap.size w wr) (fun k=>11-k) 1 ⟨by omega,by omega,by omega,fun j hj=>absurd hj (by omega),ab⟩ ⟨rfl,rfl,trivial⟩ ?_
 clear ab;rintro k wr ⟨hk1,hk10,hkl,hb,ab⟩;refine Cd.seq (aj ?_);refine Zm ?_;refine FI ?_;refine Zm ?_;refine aw.start ?_;refine bw (fun hcx=>aa.move rfl rfl) ?_;refine gq ?_;refine Zn (fun hcx=>aa.dh rfl rfl Tryz.underlying9) ?_;refine Zn (fun hcx=>aa.leq rfl rfl rfl) ?_;refine fQ ?_;refine bn 0 4 14 (Zt ?_);refine Cd.cond rfl (fun h=> ?_) (fun h=> ?_)
 ·simp at h
  obtain⟨d,hd⟩:∃d,s[k-1]? =some d:=⟨_,List.getElem?_eq_getElem (show k-1<s.length by omega)⟩;have hd256:=hs d (List.mem_of_getElem? hd);refine Cd.skip (aI (Cd.block (Cd.seq (aj ?_))));refine Zm ?_;refine Zm ?_;refine mC ?_;refine Zv (aa.cz (j:=k-1) (c:=d) rfl rfl rfl Tryz.underlying9 (by omega) hd hd256) ?_;refine kZ ?_;refine Zm ?_;refine aw.start ?_;refine bw (fun hcx=>aa.move rfl rfl) ?_;refine Zn (fun hcx=>aa.lss rfl rfl rfl) ?_;refine fQ ?_;refine aQ 0 4 14 25 (Zt ?_);refine Cd.cond rfl (fun h2=> ?_) (fun h2=> ?_)
  ·simp at h2
   refine Cd.exit (ae.aC (ae.ay (eh ?_)));refine Zm ?_;refine cG ?_;refine Za ?_;refine aQ 0 4 14 25 ?_;refine ae.round (k+1) ⟨rfl,rfl,trivial⟩ ⟨by omega,by omega,by omega,fun j hj x hx=> ?_,ab⟩ (by omega)
   by_cases hjk:j=k-1
   ·subst hjk;rw[hd] at hx;injection hx with hx;omega
   ·exact hb j (by omega) x hx
  ·have hend:(∀x,s[k-1]? =some x→x<128)∨k=10:=by
    simp at h2
    by_cases h10:k=10
    ·exact .inr h10
    ·refine .inl fun x hx=> ?_
     rw[hd] at hx;injection hx with hx;omega
   refine Cd.skip (aB ?_);refine Za ?_;refine aO 0 4 5 14 25 (aI (aj ?_));refine Zm ?_;refine mC ?_;refine Za ?_;refine aY 0 4 5 6 14 25 (Zt (Cd.block ?_))
   refine Cd.loop (σ:=Nat) (fun i=>[(0, .string (strOf s)),(4, .int .i64 (k:Int)),(5, .int .u64 ((rl ((s.take k).drop i):Nat):Int)),(6, .int .i64 ((i:Int)-1))])
    (fun i wr=>i≤k∧Below w.heap.size w wr) (fun i=>i) k ⟨Nat.le_refl _,ab⟩ ⟨rfl,rfl,?_,rfl,trivial⟩ ?_
   ·rw[List.drop_of_length_le (by rw[List.length_take];omega)];rfl
   clear ab;rintro i wr ⟨hi,ab⟩;refine Cd.seq (aj ?_);refine Zm ?_;refine kZ ?_;refine aO 0 4 5 6 29 (Zt ?_);refine Cd.ak rfl (fun hc=> ?_) (fun hc=> ?_)
   ·obtain⟨i,rfl⟩:∃j,i=j+1:=⟨i-1,by omega⟩
    obtain⟨x,hx⟩:∃x,s[i]? =some x:=⟨_,List.getElem?_eq_getElem (show i<s.length by omega)⟩;have hx256:=hs x (List.mem_of_getElem? hx);have hv:=zp hx k (by omega);have hvl:=yr ((s.take k).drop (i+1));obtain⟨V,hV⟩:∃V,V=rl ((s.take k).drop (i+1)):=⟨_,rfl⟩;rw[←hV] at hv hvl⊢;refine Cd.skip (aI (Cd.block (Zr ?_)));refine Zm ?_;refine Zv (aa.Dy (r:=((128*V%18446744073709551616:Nat):Int)) rfl rfl rfl (by rw[IntKind.wrap_u64];omega)) ?_;refine Zm ?_;refine Zm ?_;refine Zv (aa.cz (j:=i) (c:=x) rfl rfl rfl Tryz.underlying9 (by omega) hx hx256) ?_;refine Zv (aa.iR rfl rfl rfl (by omega) (by omega)) ?_;refine Zv (aa.dJ rfl rfl Tryz.underlying5 Tryz.underlying94 (jK (by omega) (by omega))) ?_;refine Zv (aa.DF rfl rfl rfl (by omega) (by omega)) ?_;refine Za ?_;refine aO 0 4 5 6 29 (ae.ah (eh ?_));refine Zm ?_;refine mC ?_;refine Za ?_;refine aO 0 4 5 6 29 ?_;refine ae.round i ⟨rfl,rfl,?_,EW (by omega),trivial⟩ ⟨by omega,ab⟩ (by omega);refine congrArg (fun z=>some (Value.int .u64 z)) ?_;rw[hv];omega
   ·obtain rfl:i=0:=by omega
    rw[List.drop_zero];have hnl:=yr (s.take k)
    have hcase:gP s=none∨gA (rl (s.take k))=s.take k:=by
     cases hx:gP s with
     |none=>exact .inl rfl
     |some x=>
      obtain⟨m,r⟩:=x;obtain⟨hm,he⟩:=iV.sound s m r hs hx;have:=DX hm he hk1 (by omega) hk10 hb hend;rw[this,BM hm];exact .inr rfl
    obtain⟨n,hn⟩:∃n,n=rl (s.take k):=⟨_,rfl⟩;rw[←hn] at hnl hcase⊢;refine Cd.exit (ae.aC (ae.aA (ae.ay (aI (Cd.seq ?_)))));refine ff 6 ?_;intro w1 hw1 zw1;replace ab:=ab.step hw1;have zbel:=ab.size;refine cf ?_;refine Dr.cJ rfl (fun w=>Ze Tryz.func83) rfl (fun w hG=>r5 n _ hnl) ?_;refine cf ?_;refine cf ?_;refine Zd (fun w hG=>aa.sliceTo rfl rfl rfl Tryz.underlying9 (j:=k) rfl (by omega)) ?_;refine Zd (fun w hG=>aa.fT (a:=gA n) (b:=s.take k) rfl rfl rfl (Fs hnl) (hs.take k)) ?_;refine Dr.nil ?_;refine bb.done (F':=[(0,_),(4,_),(5,_),(6,_),(29,_),(45,_)]) rfl ⟨rfl,rfl,rfl,rfl,rfl,rfl,trivial⟩ ?_;intro w2 hw2 fw2;replace ab:=ab.step hw2;refine aY 0 4 5 6 29 45 (Zt ?_);refine Cd.ak rfl (fun hc=> ?_) (fun hc=> ?_)
    ·have hR:=hnone (hcase.resolve_right (by assumption))
     subst hR;refine aj ?_;refine Za ?_;refine Za ?_;refine cB 0 2 3 4 5 6 29 45 (Zt (Cd.ret (ae.af (ae.ag (ae.af (ae.aX (ae.ag (ae.af ?_))))))));refine dH ?_;exact⟨rfl,ab⟩
    ·have hR:=hsome n k hnl (by omega) (Classical.byContradiction (by assumption))
     subst hR;refine Cd.skip (aB ?_);refine Zm ?_;refine Zm ?_;refine Za ?_;refine Za ?_;refine cB 0 2 3 4 5 6 29 45 (Zt (Cd.ret (ae.ag (ae.af (ae.aX (ae.ag (ae.af ?_)))))));refine dH ?_;exact⟨rfl,ab⟩
 ·have hR:R=(0,0):=hnone (by
   cases hx:gP s with
   |none=>rfl
   |some x=>
    exfalso;obtain⟨m,r⟩:=x;obtain⟨hm,he⟩:=iV.sound s m r hs hx;obtain⟨a,c,e,h1,h2⟩:=j9 9 m (by omega);have e':gA m=a++[c]:=e
    have hc:s[a.length]? =some c:=by
     rw[he,e',List.append_assoc,List.getElem?_append_right (Nat.le_refl _),Nat.sub_self];rfl
    have hla:=(List.getElem?_eq_some_iff.1 hc).1;have hl:=gT m;rw[e',List.length_append] at hl;simp at h hl;have:=hb a.length (by omega) c hc;omega)
  subst hR;refine Cd.exit (ae.aC (ae.aA (ae.ay (aB ?_))));refine Za ?_;refine Za ?_;refine aO 0 2 3 4 14 (Zt (Cd.ret ?_));refine dH ?_;exact⟨rfl,ab⟩
theorem rT (n:Nat)(w:World)(hn:n<18446744073709551616):Calls Tryz.prog 48 #[.int .u64 (n:Int)] w fun e w'=>e= .returned (.int .i64 (fu n))∧Grow w w':=by
 have ab:=Below.refl w.heap.size w;have hu:fu n=if n%2=0 then((n/2:Nat):Int) else -((n/2:Nat):Int)-1:=rfl
 generalize fu n=z at *
 refine Zs 14 Tryz.func48 ?_;refine aj ?_;refine Za ?_;refine dF 0 2 (aI (aj ?_));refine Zm ?_;refine Zv (aa.iR rfl rfl rfl (by omega) (by omega)) ?_;refine bC ?_;refine bn 0 2 5 (Zt ?_);refine Cd.ak rfl (fun hc=> ?_) (fun hc=> ?_)
 ·rw[if_pos (by omega)] at hu
  refine aj ?_;refine Zm ?_;refine Zv (aa.r8 rfl rfl rfl (by omega) (by omega) (by omega)) ?_;refine Zv ((aa.dJ rfl rfl Tryz.underlying94 Tryz.underlying2 (iO (by omega) (by omega))).cast (v':= .int .i64 z) (int_eq (by omega))) ?_;refine Za ?_;refine bn 0 2 5 (Zt (Cd.ret (ae.af ?_)));refine aZ ?_;exact⟨rfl,ab⟩
 ·rw[if_neg (by omega)] at hu
  refine Cd.skip (aB ?_);refine Zm ?_;refine Zv (aa.r8 rfl rfl rfl (by omega) (by omega) (by omega)) ?_;refine Zv ((aa.dJ rfl rfl Tryz.underlying94 Tryz.underlying2 (iO (by omega) (by omega)))) ?_;refine Zv (aa.neg rfl rfl (r:= -((n:Int)/2)) (by rw[IntKind.wrap_i64];omega)) ?_;refine mC ?_;refine Za ?_;refine bn 0 2 5 (Zt (Cd.ret ?_));refine aZ ?_;exact⟨bt (int_eq (by omega)),ab⟩
def eG {α:Type}(p:List Nat→Option (α × List Nat))(d:α)(o:Option (List Nat)):α:=((o.bind p).map Prod.fst).getD d
theorem gn {α:Type}{p:List Nat→Option (α × List Nat)}{d:α}{o:Option (List Nat)}(h:o.bind p=none):eG p d o=d:=by unfold eG;rw[h];rfl
theorem gm {α:Type}{p:List Nat→Option (α × List Nat)}{d z:α}{r:List Nat}{o:Option (List Nat)}(h:o.bind p=some (z,r)):eG p d o=z:=by unfold eG;rw[h];rfl
theorem eR {α:Type}(p:List Nat→Option (α × List Nat))(d:α)(o:Option (List Nat)):kD p o (eG p d o):=fun a r e=>gm e
theorem Rd.Gl {T:TypeId}{w:World}{g:Nat}{s:List Nat}(h:Rd T w g (some s)):jc s:=by
 obtain⟨s',b',-,hs',ho'⟩:=h
 cases b' with
 |true=>cases ho'
 |false=>injection ho' with ho';rw[ho'];exact hs'
theorem rr (g:Nat)(o:Option (List Nat))(w:World)(h:Rd 92 w g o):Calls Tryz.prog 49 #[.pointer (some ⟨g,0,none⟩)] w fun e w'=>e= .returned (.int .u64 ((eG gP 0 o:Nat):Int))∧Kf g w w'∧Rd 92 w' g (rest gP o):=by
 have rd:=h;obtain⟨s,b,k0,hs,ho⟩:=h;have kf:=Kf.refl g w;obtain⟨t,ht⟩:∃t,t=lV s:=⟨_,rfl⟩;have hc:=fun W=>Ae s W hs;rw[←ht] at hc
 have hnone:(b=true∨t.2=0)→o.bind gP=none:=fun h=>by
  cases b with
  |true=>rw[ho];rfl
  |false=>
   rw[ho];show gP s=none
   cases hx:gP s with
   |none=>rfl
   |some x=>
    exfalso;obtain⟨m,r⟩:=x;obtain⟨hm,he⟩:=iV.sound s m r hs hx;obtain⟨a,c,e,h1,h2⟩:=j9 9 m (by omega);have e':gA m=a++[c]:=e;have:t.2=s.length-r.length:=by rw[ht];unfold lV;rw[hx]
    rw[he,e'] at this;simp at this h;omega
 have hsome:b=false→t.2≠0→o.bind gP=some (t.1,s.drop t.2)∧t.2≤s.length:=fun hb h=>by
  subst hb;rw[ho]
  cases hx:gP s with
  |none=>
   exfalso;apply h;rw[ht];unfold lV;rw[hx]
  |some x=>
   obtain⟨m,r⟩:=x;obtain⟨hm,he⟩:=iV.sound s m r hs hx;have e1:t=(m,s.length-r.length):=by rw[ht];unfold lV;rw[hx]
   subst e1
   have hlen:s.length=(gA m).length+r.length:=by
    have:=congrArg List.length he;rw[List.length_append] at this;exact this
   refine⟨?_,by simp⟩;show gP s=some (m,s.drop (s.length-r.length));rw[hx,hlen,Nat.add_sub_cancel]
   conv=>rhs;rw[he]
   rw[List.drop_left]
 obtain⟨t1,t2⟩:=t;simp only at hc hnone hsome;refine Zs 34 Tryz.func49 ?_;refine aj ?_;refine Za ?_;refine dF 0 2 (aB ?_);refine Zm ?_;refine Zv (aa.nilCheck rfl rfl) ?_;refine Zf 0 Tryz.underlying92 ?_;refine ZL Tryz.underlying9 k0 ?_;refine Zc (Ze Tryz.func88) (hc _) ?_;rintro e w5 ⟨rfl,hb5⟩;refine⟨_,rfl,?_⟩;replace kf:=kf.step hb5;replace rd:=rd.step hb5;replace k0:=k0.step hb5;refine Zm ?_;refine Zx ?_;refine Zx ?_;refine Za ?_;refine Za ?_;refine aQ 0 2 3 4 (aI (aj ?_));refine Zm ?_;refine Zv (aa.nilCheck rfl rfl) ?_;refine Zf 1 Tryz.underlying92 ?_;refine ZL Tryz.underlying4 k0 ?_;refine Zm ?_;refine aw.start ?_;refine bw (fun hcx=>aa.move rfl rfl) ?_;refine Zn (fun hcx=>aa.fh rfl rfl rfl) ?_;refine fg ?_;refine aO 0 2 3 4 20 (Zt ?_);refine Cd.cond rfl (fun h=> ?_) (fun h=> ?_)
 ·have hn:=hnone (by simp at h;omega)
  refine aj ?_;refine Zm ?_;refine Zv (aa.nilCheck rfl rfl) ?_;refine Zf 1 Tryz.underlying92 ?_;refine Zq k0 ?_;intro w1 pw1;replace k0:=pw1.an;refine aO 0 2 3 4 20 (aB ?_);have kf2:=kf.own pw1;refine Za ?_;refine aO 0 2 3 4 20 (Zt (Cd.ret (ae.af ?_)));refine aZ ?_;rw[bX hn,gn hn];exact⟨rfl,kf2,Rd.bad k0 hs⟩
 ·simp at h
  obtain⟨hn,hle⟩:=hsome h.1 (by omega);refine Cd.skip (aB ?_);refine Zm ?_;refine Zm ?_;refine Zv (aa.nilCheck rfl rfl) ?_;refine Zf 0 Tryz.underlying92 ?_;refine ZL Tryz.underlying9 k0 ?_;refine Zm ?_;refine Zv (aa.sliceFrom rfl rfl rfl Tryz.underlying9 (j:=t2) rfl hle) ?_;refine Zv (aa.nilCheck rfl rfl) ?_;refine Zf 0 Tryz.underlying92 ?_;refine Zq k0 ?_;intro w1 pw1;replace k0:=pw1.an;refine aO 0 2 3 4 20 (aB ?_);refine Zm ?_;have kf2:=kf.own pw1;refine Za ?_;refine aO 0 2 3 4 20 (Zt (Cd.ret ?_));refine aZ ?_;rw[de hn,gm hn];have hb:=h.1;subst hb;exact⟨rfl,kf2,Rd.xN k0 (hs.drop _)⟩
theorem jP (g:Nat)(o:Option (List Nat))(w:World)(h:Rd 92 w g o):Calls Tryz.prog 46 #[.pointer (some ⟨g,0,none⟩)] w fun e w'=>e= .returned (.int .i64 ((eG bA 0 o:Nat):Int))∧Kf g w w'∧Rd 92 w' g (rest bA o):=by
 have rd:=h;have kf:=Kf.refl g w;have hsz:o.bind bA=(o.bind gP).bind fun x=>if x.1<9223372036854775808 then some x else none:=by cases o<;>rfl
 have hv:=eR gP 0 o
 have hz64:eG gP 0 o<18446744073709551616:=by
  cases hx:o.bind gP with
  |none=>rw[gn hx];decide
  |some x=>
   obtain⟨m,r⟩:=x;rw[gm hx]
   cases o with
   |none=>cases hx
   |some s=>exact(iV.sound s m r h.Gl hx).1
 have hgc:=fun W h=>rr g o W h;obtain⟨z,hz⟩:∃z,z=eG gP 0 o:=⟨_,rfl⟩;rw[←hz] at hv hz64 hgc;refine Zs 13 Tryz.func46 ?_;refine aj ?_;refine Za ?_;refine dF 0 2 (aB ?_);refine Zm ?_;refine Zc (Ze Tryz.func49) (hgc _ rd) ?_;rintro e w1 ⟨rfl,fw1,rd'⟩;refine⟨_,rfl,?_⟩;replace kf:=kf.kf fw1 rd;replace rd:=rd';clear rd';refine Za ?_;refine bn 0 2 3 (aI (aj ?_));refine Zm ?_;refine kZ ?_;refine aQ 0 2 3 7 (Zt ?_);refine Cd.ak rfl (fun hc=> ?_) (fun hc=> ?_)
 ·have hn:o.bind bA=none:=by
   rw[hsz]
   cases hx:o.bind gP with
   |none=>rfl
   |some x=>
    have:=hv x.1 x.2 hx;show(if x.1<_ then _ else _)=_;rw[if_neg (by omega)]
  obtain⟨s,b,k0,hs,ho⟩:=rd;refine aj ?_;refine Zm ?_;refine Zv (aa.nilCheck rfl rfl) ?_;refine Zf 1 Tryz.underlying92 ?_;refine Zq k0 ?_;intro w2 pw2;replace k0:=pw2.an;refine aQ 0 2 3 7 (aB ?_);have kf2:=kf.own pw2;refine Za ?_;refine aQ 0 2 3 7 (Zt (Cd.ret (ae.af ?_)));refine aZ ?_;rw[bX hn,gn hn];exact⟨rfl,kf2,Rd.bad k0 hs⟩
 ·have hr:rest bA o=rest gP o∧eG bA 0 o=z:=by
   cases hx:o.bind gP with
   |none=>
    rw[hx] at hsz;have hsz:o.bind bA=none:=hsz;exact⟨by rw[bX hx,bX hsz],by rw[hz,gn hx,gn hsz]⟩
   |some x=>
    obtain⟨m,r⟩:=x;have e:=hv m r hx
    have hs2:o.bind bA=some (z,r):=by
     rw[hsz,hx,←e];show(if z<_ then _ else _)=_;rw[if_pos (by omega)]
    exact⟨by rw[de hx,de hs2],gm hs2⟩
  refine Cd.skip (aB ?_);refine Zm ?_;refine Zv ((aa.dJ rfl rfl Tryz.underlying94 Tryz.underlying3 (iO (by omega) (by omega)))) ?_;refine Za ?_;refine aQ 0 2 3 7 (Zt (Cd.ret ?_));refine aZ ?_;rw[hr.1,hr.2];exact⟨rfl,kf,rd⟩
section
variable {T:TypeId} {g:Nat} {w w' w'':World} {o:Option (List Nat)}
end
theorem qE (s:List Nat)(w:World):(Instr.build 92 #[(0, .string (strOf s))]).run Tryz.prog w= .ok (.agg #[.string (strOf s), .bool false]) w:=by
 have hu:=Tryz.underlying92
 go_simp
theorem AR (o:Option (List Nat)):rest mR o=rest gP o:=by
 unfold rest
 cases o with
 |none=>rfl
 |some s=>
  show((gP s).map _).map _=(gP s).map _
  cases gP s<;>rfl
theorem Fp (o:Option (List Nat)):kD mR o (fu (eG gP 0 o)):=fun a r e=>by
 cases o with
 |none=>cases e
 |some s=>
  have e:(gP s).map (fun x=>(fu x.1,x.2))=some (a,r):=e
  cases hx:gP s with
  |none=>rw[hx] at e;cases e
  |some x=>
   obtain⟨m,q⟩:=x;rw[hx] at e;injection e with e
   injection e with e _
   rw[gm (p:=gP) (o:=some s) hx];exact e
theorem Fm {T:TypeId}{w:World}{g:Nat}{o:Option (List Nat)}(h:Rd T w g o):eG gP 0 o<18446744073709551616:=by
 cases hx:o.bind gP with
 |none=>rw[gn hx];decide
 |some x=>
  obtain⟨m,r⟩:=x;rw[gm hx]
  cases o with
  |none=>cases hx
  |some s=>exact(iV.sound s m r h.Gl hx).1
theorem jN {T:TypeId}{w:World}{g:Nat}{o:Option (List Nat)}(h:Rd T w g o):eG bA 0 o<9223372036854775808:=by
 cases hx:o.bind bA with
 |none=>rw[gn hx];decide
 |some x=>
  obtain⟨m,r⟩:=x;rw[gm hx]
  cases o with
  |none=>cases hx
  |some s=>exact(dN.sound s m r h.Gl hx).1
def D7 {α:Type}(x:α)(s:List Nat):Option (α × List Nat):=some (x,s)
def mE {α β:Type}(p:List Nat→Option (α × List Nat))(k:α→List Nat→Option (β × List Nat))(s:List Nat):Option (β × List Nat):=(p s).bind fun x=>k x.1 x.2
section
variable {α β:Type} {p:List Nat→Option (α × List Nat)} {k:α→List Nat→Option (β × List Nat)} {o:Option (List Nat)} {a:α}
theorem sb (o:Option (List Nat)):o.bind (mE p k)=(o.bind p).bind fun x=>k x.1 x.2:=by cases o<;>rfl
theorem ck (h:kD p o a):rest (mE p k) o=rest (k a) (rest p o):=by
 unfold rest;rw[sb]
 cases hx:o.bind p with
 |none=>rfl
 |some x=>
  obtain⟨b,r⟩:=x;have:=h b r hx;subst this;rfl
theorem da (h:kD p o a){b:β}(hb:kD (k a) (rest p o) b):kD (mE p k) o b:=by
 intro c r e;rw[sb] at e
 cases hx:o.bind p with
 |none=>rw[hx] at e;cases e
 |some x=>
  obtain⟨d,q⟩:=x;have:=h d q hx;subst this;rw[hx] at e;refine hb c r ?_;unfold rest;rw[hx];exact e
theorem uX (x:α):kD (D7 x) o x:=fun a r e=>by
 cases o with
 |none=>cases e
 |some s=>injection e with e;injection e
theorem sU (x:α):rest (D7 x) o=o:=by cases o<;>rfl
end
theorem fA {α β:Type}{p:List Nat→Option (α × List Nat)}{k:α→List Nat→Option (β × List Nat)}{enc:α→List Nat}{ok:α→Prop}(h:Fg p enc ok){a:α}(ha:ok a)(t:List Nat):mE p k (enc a++t)=k a t:=by
 unfold mE;rw[h.full a t ha];rfl
theorem eH {α β:Type}{p:List Nat→Option (α × List Nat)}{k:α→List Nat→Option (β × List Nat)}{enc:α→List Nat}{ok:α→Prop}(h:Fg p enc ok){s:List Nat}{b:β}{r:List Nat}(hs:jc s)(e:mE p k s=some (b,r)):∃a q,ok a∧s=enc a++q∧jc q∧k a q=some (b,r):=by
 unfold mE at e
 cases hx:p s with
 |none=>rw[hx] at e;cases e
 |some x=>
  obtain⟨a,q⟩:=x;rw[hx] at e;obtain⟨h1,h2⟩:=h.sound s a q hs hx;exact⟨a,q,h1,h2,jc.right (a:=enc a) (h2▸hs),e⟩
theorem Dw {α:Type}{x y:α}{s r:List Nat}(h:D7 x s=some (y,r)):x=y∧s=r:=by
 injection h with h
 injection h with h1 h2
 exact⟨h1,h2⟩
def hZ (m M:Nat):List Nat→Option (kU × List Nat):=mE bA fun k=>mE (kh m) fun id=>mE (kh m) fun a=>mE (kh m) fun b=>mE (kh M) fun t=>mE bA fun d=>mE bA fun p=>mE bA fun q=>mE mR fun n=>D7 ⟨k,id,a,b,t,d,p,q,n⟩
structure kU.cap (m M:Nat)(e:kU):Prop where
 kind:e.kind<9223372036854775808
 day:e.day<9223372036854775808
 at_:e.at_<9223372036854775808
 ec:e.ec<9223372036854775808
 n:bm e.n
 Gf:e.id.length≤m
 la:e.a.length≤m
 lb:e.b.length≤m
 yC:e.text.length≤M
theorem vD (m M:Nat)(hm:m<9223372036854775808)(hM:M<9223372036854775808):Fg (hZ m M) kU.bytes (kU.cap m M) where
 full:=fun e r h=>by
  obtain⟨h1,h2,h3,h4,h5,h6,h7,h8,h9⟩:=h;unfold hZ kU.bytes;simp only[List.append_assoc];rw[fA dN h1,fA (gG m hm) h6,fA (gG m hm) h7,fA (gG m hm) h8,fA (gG M hM) h9,fA dN h2,fA dN h3,fA dN h4,fA uY h5];rfl
 sound:=fun s e r hs h=>by
  unfold hZ at h;obtain⟨z1,s1,a1,e1,b1,h⟩:=eH dN hs h;obtain⟨z2,s2,a2,e2,b2,h⟩:=eH (gG m hm) b1 h;obtain⟨z3,s3,a3,e3,b3,h⟩:=eH (gG m hm) b2 h;obtain⟨z4,s4,a4,e4,b4,h⟩:=eH (gG m hm) b3 h;obtain⟨z5,s5,a5,e5,b5,h⟩:=eH (gG M hM) b4 h;obtain⟨z6,s6,a6,e6,b6,h⟩:=eH dN b5 h;obtain⟨z7,s7,a7,e7,b7,h⟩:=eH dN b6 h;obtain⟨z8,s8,a8,e8,b8,h⟩:=eH dN b7 h;obtain⟨z9,s9,a9,e9,b9,h⟩:=eH uY b8 h;obtain⟨rfl,rfl⟩:=Dw h;refine⟨⟨a1,a6,a7,a8,a9,a2,a3,a4,a5⟩,?_⟩;rw[e1,e2,e3,e4,e5,e6,e7,e8,e9];simp only[kU.bytes,List.append_assoc]
def lL (m M:Nat)(s:List Nat):Option kU:=match hZ m M s with|some (e,[])=>if cH e.ev=true then some e else none|_=>none
def BC (o:Option kU):Value:=match o with|some e=>e.ev.v|none=>(lY 0).v
theorem yE {m M:Nat}{s:List Nat}{z:kU}{D:Option kU}(hs:jc s)(hval:kD (hZ m M) (some s) z)(hdd:D=match hZ m M s with|some (e,[])=>if cH e.ev=true then some e else none|_=>none)(hm:m≤9223372036854775807:=by decide)(hM:M≤9223372036854775807:=by decide):
  (rest (hZ m M) (some s)=some []→hZ m M s=some (z,[]))∧(rest (hZ m M) (some s)=some []→z.ev.AS)∧∀b:Bool,(rest (hZ m M) (some s)=some []→b=cH z.ev)→(decide (rest (hZ m M) (some s)=some [])&&b)=D.isSome∧(D.isSome=true→D=some z):=by
 have hin:rest (hZ m M) (some s)=some []→hZ m M s=some (z,[]):=fun h=>by
  unfold rest at h
  cases hx:(some s).bind (hZ m M) with
  |none=>rw[hx] at h;cases h
  |some x=>
   obtain⟨a,r⟩:=x;have:=hval a r hx;rw[hx] at h;injection h with h
   have h:r=[]:=h;rw[this,←h];exact hx
 refine⟨hin,fun h=> ?_,fun b hb=> ?_⟩
 ·obtain⟨⟨c1,c2,c3,c4,c5,c6,c7,c8,c9⟩,hsb⟩:=(vD m M (by omega) (by omega)).sound s z [] hs (hin h)
  rw[List.append_nil] at hsb;have hb:jc z.bytes:=hsb▸hs;have t1:jc z.id:=fun d hd=>hb d (by unfold kU.bytes iB;simp[hd]);have t2:jc z.a:=fun d hd=>hb d (by unfold kU.bytes iB;simp[hd]);have t3:jc z.b:=fun d hd=>hb d (by unfold kU.bytes iB;simp[hd]);have t4:jc z.text:=fun d hd=>hb d (by unfold kU.bytes iB;simp[hd]);exact⟨by unfold kU.ev bm;dsimp only;omega,t1,t2,t3,t4,by unfold kU.ev bm;dsimp only;omega,by unfold kU.ev bm;dsimp only;omega,by unfold kU.ev bm;dsimp only;omega,c5,by unfold kU.ev;dsimp only;omega,by unfold kU.ev;dsimp only;omega,by unfold kU.ev;dsimp only;omega,by unfold kU.ev;dsimp only;omega⟩
 ·by_cases h:rest (hZ m M) (some s)=some []
  ·rw[hin h] at hdd
   rw[decide_eq_true h,hb h,hdd]
   cases hr:cH z.ev<;>simp[hr]
  ·have:D=none:=by
    rw[hdd];split
    ·rename_i e hx
     exfalso;apply h;unfold rest;show(Option.map Prod.snd (hZ m M s))=_;rw[hx];rfl
    ·rfl
   rw[decide_eq_false h,this];simp
theorem r6 (a:Int)(w:World):(Instr.build 29 #[(0, .int .i64 a)]).run Tryz.prog w= .ok (.agg #[.int .i64 a, .string (strOf []), .string (strOf []), .string (strOf []), .string (strOf []), .int .i64 0, .int .i64 0, .int .i64 0, .int .i64 0]) w:=by kernel_rfl
theorem rN (w:World):(Instr.build 29 #[]).run Tryz.prog w= .ok (.agg #[.int .i64 0, .string (strOf []), .string (strOf []), .string (strOf []), .string (strOf []), .int .i64 0, .int .i64 0, .int .i64 0, .int .i64 0]) w:=by kernel_rfl
set_option maxHeartbeats 4000000 in
theorem zX (s:List Nat)(w:World)(hs:jc s):Calls Tryz.prog 15 #[.string (strOf s)] w fun en w'=>en= .returned (.tuple #[BC (lL 16 4000 s), .int .i64 (if(lL 16 4000 s).isSome=true then 0 else 3)])∧Grow w w':=by
 have ab:=Below.refl w.heap.size w;have hdd:lL 16 4000 s=match hZ 16 4000 s with|some (e,[])=>if cH e.ev=true then some e else none|_=>none:=rfl
 generalize lL 16 4000 s=D at *
 refine Zs 45 Tryz.func15 ?_;refine aj ?_;refine Zl fx ?_;intro g2 w1 n2;have e2:=Nat.le_trans ab.size n2.ge;replace ab:=ab.step n2.below;have k2:=n2.an;refine Za ?_;refine bn 0 2 3 (aB ?_);refine Zm ?_;refine Zc (Ze Tryz.func41) (CK s _ hs) ?_;rintro en w5 ⟨g,rfl,hb5,hg,rd⟩;refine⟨_,rfl,?_⟩;replace ab:=ab.step hb5;replace k2:=k2.step hb5;have hgB:w.heap.size≤g:=by have:=e2;have:=k2.lt;have:=n2.below.size;omega
 have belr:=ab;have hgl:=rd.lt;have kf:=Kf.refl g w5;refine Za ?_;refine aQ 0 2 3 4 (aB ?_);refine Zm ?_;refine Zc (Ze Tryz.func42) (jF g _ _ rd) ?_;rintro e w2 ⟨z1,⟨hz1,hv1,rfl⟩,fw2,rd'⟩;refine⟨_,rfl,?_⟩;replace k2:=k2.kf fw2 rd;replace kf:=kf.kf fw2 rd;replace rd:=rd';clear rd';refine Zv (aa.build rfl rfl (r6 _ _)) ?_;refine Zl fx ?_;intro g5 w3 n5;have e5:=Nat.le_trans kf.size n5.ge;have l5:=Nat.lt_of_lt_of_le k2.lt n5.ge;replace k2:=k2.step n5.below;replace kf:=kf.step n5.below;replace rd:=rd.step n5.below;have k5:=n5.an;refine Zo 9 k5 ?_;intro w4 pw4;replace k2:=k2.put pw4 (by omega);replace kf:=kf.put k5 pw4 e5;replace rd:=rd.put k5 pw4 e5;replace k5:=pw4.an;refine aO 0 2 3 4 5 (aB ?_);refine Zm ?_;replace k5:aH _ g5 29 #[.int .i64 (z1:Int), .string (strOf []), .string (strOf []), .string (strOf []), .string (strOf []), .int .i64 0, .int .i64 0, .int .i64 0, .int .i64 0]:=k5;refine Zc (Ze Tryz.func43) (mA g 16 _ _ rd) ?_;rintro e w5 ⟨z2,⟨hz2,hv2,rfl⟩,fw5,rd'⟩;refine⟨_,rfl,?_⟩;replace k2:=k2.kf fw5 rd;replace kf:=kf.kf fw5 rd;replace k5:=k5.kf fw5 rd;replace rd:=rd';clear rd';refine Zf 1 Tryz.underlying29 ?_;refine Zq k5 ?_;intro w6 pw6;replace k2:=k2.put pw6 (by omega);replace kf:=kf.put k5 pw6 e5;replace rd:=rd.put k5 pw6 e5;replace k5:=pw6.an;refine aO 0 2 3 4 5 (aB ?_);refine Zm ?_;replace k5:aH _ g5 29 #[.int .i64 (z1:Int), .string (strOf z2), .string (strOf []), .string (strOf []), .string (strOf []), .int .i64 0, .int .i64 0, .int .i64 0, .int .i64 0]:=k5;refine Zc (Ze Tryz.func43) (mA g 16 _ _ rd) ?_;rintro e w7 ⟨z3,⟨hz3,hv3,rfl⟩,fw7,rd'⟩;refine⟨_,rfl,?_⟩;replace k2:=k2.kf fw7 rd;replace kf:=kf.kf fw7 rd;replace k5:=k5.kf fw7 rd;replace rd:=rd';clear rd';refine Zf 2 Tryz.underlying29 ?_;refine Zq k5 ?_;intro w8 pw8;replace k2:=k2.put pw8 (by omega);replace kf:=kf.put k5 pw8 e5;replace rd:=rd.put k5 pw8 e5;replace k5:=pw8.an;refine aO 0 2 3 4 5 (aB ?_);refine Zm ?_;replace k5:aH _ g5 29 #[.int .i64 (z1:Int), .string (strOf z2), .string (strOf z3), .string (strOf []), .string (strOf []), .int .i64 0, .int .i64 0, .int .i64 0, .int .i64 0]:=k5;refine Zc (Ze Tryz.func43) (mA g 16 _ _ rd) ?_;rintro e w9 ⟨z4,⟨hz4,hv4,rfl⟩,fw9,rd'⟩;refine⟨_,rfl,?_⟩;replace k2:=k2.kf fw9 rd;replace kf:=kf.kf fw9 rd;replace k5:=k5.kf fw9 rd;replace rd:=rd';clear rd';refine Zf 3 Tryz.underlying29 ?_;refine Zq k5 ?_;intro w10 pw10;replace k2:=k2.put pw10 (by omega);replace kf:=kf.put k5 pw10 e5;replace rd:=rd.put k5 pw10 e5;replace k5:=pw10.an;refine aO 0 2 3 4 5 (aB ?_);refine Zm ?_;replace k5:aH _ g5 29 #[.int .i64 (z1:Int), .string (strOf z2), .string (strOf z3), .string (strOf z4), .string (strOf []), .int .i64 0, .int .i64 0, .int .i64 0, .int .i64 0]:=k5;refine Zc (Ze Tryz.func43) (mA g 4000 _ _ rd) ?_;rintro e w11 ⟨z5,⟨hz5,hv5,rfl⟩,fw11,rd'⟩;refine⟨_,rfl,?_⟩;replace k2:=k2.kf fw11 rd;replace kf:=kf.kf fw11 rd;replace k5:=k5.kf fw11 rd;replace rd:=rd';clear rd';refine Zf 4 Tryz.underlying29 ?_;refine Zq k5 ?_;intro w12 pw12;replace k2:=k2.put pw12 (by omega);replace kf:=kf.put k5 pw12 e5;replace rd:=rd.put k5 pw12 e5;replace k5:=pw12.an;refine aO 0 2 3 4 5 (aB ?_);refine Zm ?_;replace k5:aH _ g5 29 #[.int .i64 (z1:Int), .string (strOf z2), .string (strOf z3), .string (strOf z4), .string (strOf z5), .int .i64 0, .int .i64 0, .int .i64 0, .int .i64 0]:=k5;refine Zc (Ze Tryz.func42) (jF g _ _ rd) ?_;rintro e w13 ⟨z6,⟨hz6,hv6,rfl⟩,fw13,rd'⟩;refine⟨_,rfl,?_⟩;replace k2:=k2.kf fw13 rd;replace kf:=kf.kf fw13 rd;replace k5:=k5.kf fw13 rd;replace rd:=rd';clear rd';refine Zf 5 Tryz.underlying29 ?_;refine Zq k5 ?_;intro w14 pw14;replace k2:=k2.put pw14 (by omega);replace kf:=kf.put k5 pw14 e5;replace rd:=rd.put k5 pw14 e5;replace k5:=pw14.an;refine aO 0 2 3 4 5 (aB ?_);refine Zm ?_;replace k5:aH _ g5 29 #[.int .i64 (z1:Int), .string (strOf z2), .string (strOf z3), .string (strOf z4), .string (strOf z5), .int .i64 (z6:Int), .int .i64 0, .int .i64 0, .int .i64 0]:=k5;refine Zc (Ze Tryz.func42) (jF g _ _ rd) ?_;rintro e w15 ⟨z7,⟨hz7,hv7,rfl⟩,fw15,rd'⟩;refine⟨_,rfl,?_⟩;replace k2:=k2.kf fw15 rd;replace kf:=kf.kf fw15 rd;replace k5:=k5.kf fw15 rd;replace rd:=rd';clear rd';refine Zf 6 Tryz.underlying29 ?_;refine Zq k5 ?_;intro w16 pw16;replace k2:=k2.put pw16 (by omega);replace kf:=kf.put k5 pw16 e5;replace rd:=rd.put k5 pw16 e5;replace k5:=pw16.an;refine aO 0 2 3 4 5 (aB ?_);refine Zm ?_;replace k5:aH _ g5 29 #[.int .i64 (z1:Int), .string (strOf z2), .string (strOf z3), .string (strOf z4), .string (strOf z5), .int .i64 (z6:Int), .int .i64 (z7:Int), .int .i64 0, .int .i64 0]:=k5;refine Zc (Ze Tryz.func42) (jF g _ _ rd) ?_;rintro e w17 ⟨z8,⟨hz8,hv8,rfl⟩,fw17,rd'⟩;refine⟨_,rfl,?_⟩;replace k2:=k2.kf fw17 rd;replace kf:=kf.kf fw17 rd;replace k5:=k5.kf fw17 rd;replace rd:=rd';clear rd';refine Zf 7 Tryz.underlying29 ?_;refine Zq k5 ?_;intro w18 pw18;replace k2:=k2.put pw18 (by omega);replace kf:=kf.put k5 pw18 e5;replace rd:=rd.put k5 pw18 e5;replace k5:=pw18.an;refine aO 0 2 3 4 5 (aB ?_);refine Zm ?_;replace k5:aH _ g5 29 #[.int .i64 (z1:Int), .string (strOf z2), .string (strOf z3), .string (strOf z4), .string (strOf z5), .int .i64 (z6:Int), .int .i64 (z7:Int), .int .i64 (z8:Int), .int .i64 0]:=k5;refine Zc (Ze Tryz.func44) (uk g _ _ rd) ?_;rintro e w19 ⟨z9,⟨hz9,hv9,rfl⟩,fw19,rd'⟩;refine⟨_,rfl,?_⟩;replace k2:=k2.kf fw19 rd;replace kf:=kf.kf fw19 rd;replace k5:=k5.kf fw19 rd;replace rd:=rd';clear rd';refine Zf 8 Tryz.underlying29 ?_;refine Zq k5 ?_;intro w20 pw20;replace k2:=k2.put pw20 (by omega);replace kf:=kf.put k5 pw20 e5;replace rd:=rd.put k5 pw20 e5;replace k5:=pw20.an;refine aO 0 2 3 4 5 (aI (aj ?_));refine Zm ?_;replace k5:aH _ g5 29 #[.int .i64 (z1:Int), .string (strOf z2), .string (strOf z3), .string (strOf z4), .string (strOf z5), .int .i64 (z6:Int), .int .i64 (z7:Int), .int .i64 (z8:Int), .int .i64 z9]:=k5;have hval:kD (hZ 16 4000) (some s) ⟨z1,z2,z3,z4,z5,z6,z7,z8,z9⟩:=da hv1 (da hv2 (da hv3 (da hv4 (da hv5 (da hv6 (da hv7 (da hv8 (da hv9 (uX _)))))))))
 have hrest:rest (hZ 16 4000) (some s)=rest mR (rest bA (rest bA (rest bA (rest (kh 4000) (rest (kh 16) (rest (kh 16) (rest (kh 16) (rest bA (some s))))))))):=by
  unfold hZ;rw[ck hv1,ck hv2,ck hv3,ck hv4,ck hv5,ck hv6,ck hv7,ck hv8,ck hv9,sU]
 rw[←hrest] at rd;obtain⟨z,hz⟩:∃z:kU,z=⟨z1,z2,z3,z4,z5,z6,z7,z8,z9⟩:=⟨_,rfl⟩;rw[←hz] at hval;obtain⟨hin,hrng,hDs⟩:=yE hs hval hdd;have hri:=fun W h=>qs z.ev (hrng h) W;have hzv:z.ev.v= .agg #[.int .i64 (z1:Int), .string (strOf z2), .string (strOf z3), .string (strOf z4), .string (strOf z5), .int .i64 (z6:Int), .int .i64 (z7:Int), .int .i64 (z8:Int), .int .i64 z9]:=by rw[hz];rfl
 rw[hzv] at hri;refine Zc (Ze Tryz.func45) (Co g _ _ rd) ?_;rintro en w20 ⟨rfl,hb20⟩;refine⟨_,rfl,?_⟩;replace k2:=k2.step hb20;replace kf:=kf.step hb20;replace rd:=rd.step hb20;replace k5:=k5.step hb20;refine mD ?_;refine Zm ?_;refine aw.start ?_;refine bw (fun hcx=>aa.eK rfl rfl Tryz.underlying29 rfl k5 (m:=9) (by kernel_rfl) rfl) ?_;refine aw.bU rfl rfl rfl rfl rfl rfl rfl (fun hcx=>Ze Tryz.func13) (fun hcx=>hri _ (by simpa[ct] using hcx)) ?_;intro w21 hw21;replace k2:=k2.step hw21;replace kf:=kf.step hw21;replace rd:=rd.step hw21;replace k5:=k5.step hw21;refine Zn (fun hcx=>aa.not rfl rfl) ?_;refine fg ?_;refine aY 0 2 3 4 5 42 (Zt ?_);obtain⟨d1,d2⟩:=hDs (cH z.ev) (fun _=>rfl);have ab:=belr.trans (kf.to hgB (by have:=hgl;omega));have e2':w.heap.size≤g2:=e2;refine Cd.cond rfl (fun h=> ?_) (fun h=> ?_)
 ·have hD:D=none:=by
   cases hD:D with
   |none=>rfl
   |some x=>
    rw[hD] at d1;simp at d1 h;rw[d1.1,d1.2] at h;simp at h
  subst hD;refine aj ?_;refine Zv (aa.build rfl rfl (rN _)) ?_;refine Zo 9 k2 ?_;intro w22 pw22;replace k5:=k5.put pw22 (by omega);replace ab:=ab.put k2 pw22 e2;replace k2:=pw22.an;refine Za ?_;refine aY 0 2 3 4 5 42 (Zt (Cd.ret (ae.af ?_)));refine ae.hO rfl rfl rfl k2 Tryz.underlying29 rfl (m:=9) (by kernel_rfl) rfl (.inl rfl) ?_;exact⟨rfl,ab⟩
 ·have hD:D=some z:=by
   apply d2;rw[←d1];simp at h⊢;exact h
  subst hD;refine Cd.skip (aB ?_);refine ZW 9 Tryz.underlying29 k5 ?_;refine Zo 9 k2 ?_;intro w22 pw22;replace k5:=k5.put pw22 (by omega);replace ab:=ab.put k2 pw22 e2;replace k2:=pw22.an;refine Za ?_;refine aY 0 2 3 4 5 42 (Zt (Cd.ret ?_));refine ae.hO rfl rfl rfl k2 Tryz.underlying29 rfl (m:=9) (by kernel_rfl) rfl (.inl rfl) ?_;exact⟨by rw[show BC (some z)=z.ev.v from rfl,hzv];rfl,ab⟩
abbrev j8:=kh 9223372036854775807
theorem nK (g:Nat)(o:Option (List Nat))(w:World)(h:Rd 92 w g o):Calls Tryz.prog 47 #[.pointer (some ⟨g,0,none⟩)] w fun e w'=>e= .returned (.string (strOf (eG j8 [] o)))∧Kf g w w'∧Rd 92 w' g (rest j8 o):=by
 have rd:=h;have kf:=Kf.refl g w;have hsz:o.bind j8=(o.bind bA).bind fun x=>if x.1≤9223372036854775807 then fG x.1 x.2 else none:=by cases o<;>rfl
 have hv:=eR bA 0 o;have h63:=jN h;have hgc:=fun W h=>jP g o W h;obtain⟨z,hz⟩:∃z,z=eG bA 0 o:=⟨_,rfl⟩;rw[←hz] at hv hgc h63;refine Zs 39 Tryz.func47 ?_;refine aj ?_;refine Za ?_;refine dF 0 2 (aB ?_);refine Zm ?_;refine Zc (Ze Tryz.func46) (hgc _ rd) ?_;rintro e w1 ⟨rfl,fw1,rd'⟩;refine⟨_,rfl,?_⟩;replace kf:=kf.kf fw1 rd;replace rd:=rd';clear rd';obtain⟨s,b,k0,hs,ho⟩:=id rd;refine Za ?_;refine bn 0 2 3 (aI (aj ?_));refine Zm ?_;refine Zv (aa.nilCheck rfl rfl) ?_;refine Zf 1 Tryz.underlying92 ?_;refine ZL Tryz.underlying4 k0 ?_;refine Zm ?_;refine aw.start ?_;refine bw (fun hcx=>aa.move rfl rfl) ?_;refine gq ?_;refine Zn (fun hcx=>aa.nilCheck rfl rfl) ?_;refine Zn (fun hcx=>aa.ar 0 rfl rfl Tryz.underlying92 rfl (by kernel_rfl)) ?_;refine Zn (fun hcx=>aa.au rfl rfl Tryz.underlying9 rfl k0 rfl) ?_;refine Zn (fun hcx=>aa.dh rfl rfl Tryz.underlying9) ?_;refine Zn (fun hcx=>aa.gtr rfl rfl rfl) ?_;refine fg ?_;refine aQ 0 2 3 19 (Zt ?_);refine Cd.cond rfl (fun h=> ?_) (fun h=> ?_)
 ·have hn:o.bind j8=none:=by
   rw[hsz]
   cases hx:o.bind bA with
   |none=>rfl
   |some x=>
    obtain⟨m,r⟩:=x;have e:=hv m r hx;subst e;show(if z≤9223372036854775807 then fG z r else none)=none;rw[de hx] at ho
    cases b with
    |true=>cases ho
    |false=>
     injection ho with ho
     subst ho;simp at h;rw[if_pos (by omega)];unfold fG;rw[if_neg (by omega)]
  refine aj ?_;refine Zm ?_;refine Zv (aa.nilCheck rfl rfl) ?_;refine Zf 1 Tryz.underlying92 ?_;refine Zq k0 ?_;intro w2 pw2;replace k0:=pw2.an;refine aQ 0 2 3 19 (aB ?_);have kf2:=kf.own pw2;refine Za ?_;refine aQ 0 2 3 19 (Zt (Cd.ret (ae.af ?_)));refine aZ ?_;rw[bX hn,gn hn];exact⟨rfl,kf2,Rd.bad k0 hs⟩
 ·simp at h
  obtain⟨h1,h2⟩:=h;subst h1;have ho:rest bA o=some s:=ho
  have hn:o.bind j8=some (s.take z,s.drop z):=by
   cases hx:o.bind bA with
   |none=>rw[bX hx] at ho;cases ho
   |some x=>
    obtain⟨m,r⟩:=x;have e:=hv m r hx;subst e;rw[de hx] at ho;injection ho with ho
    subst ho;rw[hsz,hx];show(if z≤9223372036854775807 then fG z r else none)=_;rw[if_pos (by omega)];unfold fG;rw[if_pos (by omega)];rfl
  refine Cd.skip (aB ?_);refine Zm ?_;refine Zv (aa.nilCheck rfl rfl) ?_;refine Zf 0 Tryz.underlying92 ?_;refine ZL Tryz.underlying9 k0 ?_;refine Zm ?_;refine Zv (aa.sliceTo rfl rfl rfl Tryz.underlying9 (j:=z) rfl (by omega)) ?_;refine Za ?_;refine aO 0 2 3 4 19 (aB ?_);refine Zm ?_;refine Zm ?_;refine Zv (aa.nilCheck rfl rfl) ?_;refine Zf 0 Tryz.underlying92 ?_;refine ZL Tryz.underlying9 k0 ?_;refine Zm ?_;refine Zv (aa.sliceFrom rfl rfl rfl Tryz.underlying9 (j:=z) rfl (by omega)) ?_;refine Zv (aa.nilCheck rfl rfl) ?_;refine Zf 0 Tryz.underlying92 ?_;refine Zq k0 ?_;intro w2 pw2;replace k0:=pw2.an;refine aO 0 2 3 4 19 (aB ?_);refine Zm ?_;have kf2:=kf.own pw2;refine Za ?_;refine aO 0 2 3 4 19 (Zt (Cd.ret ?_));refine aZ ?_;rw[de hn,gm hn];exact⟨rfl,kf2,Rd.xN k0 (hs.drop _)⟩
theorem nH {T:TypeId}{w:World}{g:Nat}{o:Option (List Nat)}(h:Rd T w g o):jc (eG j8 [] o):=by
 obtain⟨s,b,-,hs,ho⟩:=h;unfold eG
 cases hx:o.bind j8 with
 |none=>exact fun d hd=>by cases hd
 |some x=>
  obtain⟨a,r⟩:=x
  cases b with
  |true=>rw[ho] at hx;cases hx
  |false=>
   rw[ho] at hx;obtain⟨-,h2⟩:=(gG 9223372036854775807 (by omega)).sound s a r hs hx;have h3:jc (iB a++r):=h2▸hs;unfold iB at h3;exact jc.right (jc.left h3)
theorem lW (w:World):(Instr.build 23 #[]).run Tryz.prog w= .ok (.agg #[.int .i64 0, .string (strOf []), .string (strOf []), .string (strOf []), .string (strOf []), .int .i64 0, .int .i64 0, .int .i64 0, .int .i64 0]) w:=by kernel_rfl
theorem dM:bW Tryz.prog 23=some (some (.agg #[.int .i64 0, .string {data:= #[]}, .string {data:= #[]}, .string {data:= #[]}, .string {data:= #[]}, .int .i64 0, .int .i64 0, .int .i64 0, .int .i64 0])):=by kernel_rfl
set_option maxHeartbeats 1000000 in
theorem tR (s:List Nat)(w:World)(hs:jc s):Calls Tryz.prog 16 #[.string (strOf s)] w fun en w'=>en= .returned (.tuple #[BC (lL 9223372036854775807 9223372036854775807 s), .bool (lL 9223372036854775807 9223372036854775807 s).isSome])∧Grow w w':=by
 have ab:=Below.refl w.heap.size w;have hdd:lL 9223372036854775807 9223372036854775807 s=match hZ 9223372036854775807 9223372036854775807 s with|some (e,[])=>if cH e.ev=true then some e else none|_=>none:=rfl
 generalize lL 9223372036854775807 9223372036854775807 s=D at *
 refine Zs 57 Tryz.func16 ?_;refine aj ?_;refine Zl dM ?_;intro g2 w1 n2;have e2:=Nat.le_trans ab.size n2.ge;replace ab:=ab.step n2.below;have k2:=n2.an;refine Za ?_;refine bn 0 2 3 (aB ?_);refine Zm ?_;refine Zv (aa.build rfl rfl (qE s _)) ?_;refine Seq.box rfl rfl rfl rfl rfl ?_;intro g8 w2 n8;have e8:=Nat.le_trans ab.size n8.ge;have l8:=Nat.lt_of_lt_of_le k2.lt n8.ge;replace ab:=ab.step n8.below;replace k2:=k2.step n8.below;have k8:=n8.an;refine Za ?_;refine aQ 0 2 3 4 (aB ?_);have rd:Rd 92 w2 g8 (some s):=Rd.xN k8 hs;have hgB:=e8;have belr:=ab;have hgl:=rd.lt;have kf:=Kf.refl g8 w2;refine Zv (aa.build rfl rfl (lW _)) ?_;refine Zl dM ?_;intro g5 w3 n5;have e5:=Nat.le_trans kf.size n5.ge;have l5:=Nat.lt_of_lt_of_le k2.lt n5.ge;replace k2:=k2.step n5.below;replace kf:=kf.step n5.below;replace rd:=rd.step n5.below;have k5:=n5.an;refine Zo 9 k5 ?_;intro w4 pw4;replace k2:=k2.put pw4 (by omega);replace kf:=kf.put k5 pw4 e5;replace rd:=rd.put k5 pw4 e5;replace k5:=pw4.an;refine aO 0 2 3 4 5 (aB ?_);refine Zm ?_;obtain⟨z1,hz1⟩:∃z,z=eG bA 0 (some s):=⟨_,rfl⟩;have hv1:=eR bA 0 (some s);have hb1:=jN rd;have hc:=fun W h=>jP g8 (some s) W h;rw[←hz1] at hv1 hb1 hc;replace k5:aH _ g5 23 #[.int .i64 0, .string (strOf []), .string (strOf []), .string (strOf []), .string (strOf []), .int .i64 0, .int .i64 0, .int .i64 0, .int .i64 0]:=k5;refine Zc (Ze Tryz.func46) (hc _ rd) ?_;rintro e w5 ⟨rfl,fw5,rd'⟩;refine⟨_,rfl,?_⟩;replace k2:=k2.kf fw5 rd;replace kf:=kf.kf fw5 rd;replace k5:=k5.kf fw5 rd;replace rd:=rd';clear rd';refine Zf 0 Tryz.underlying23 ?_;refine Zq k5 ?_;intro w6 pw6;replace k2:=k2.put pw6 (by omega);replace kf:=kf.put k5 pw6 e5;replace rd:=rd.put k5 pw6 e5;replace k5:=pw6.an;refine aO 0 2 3 4 5 (aB ?_);refine Zm ?_;obtain⟨o1,ho1⟩:∃o,o=rest bA (some s):=⟨_,rfl⟩;rw[←ho1] at rd;obtain⟨z2,hz2⟩:∃z,z=eG j8 [] o1:=⟨_,rfl⟩;have hv2:=eR j8 [] o1;have hb2:=nH rd;have hc:=fun W h=>nK g8 o1 W h;rw[←hz2] at hv2 hb2 hc;replace k5:aH _ g5 23 #[.int .i64 (z1:Int), .string (strOf []), .string (strOf []), .string (strOf []), .string (strOf []), .int .i64 0, .int .i64 0, .int .i64 0, .int .i64 0]:=k5;refine Zc (Ze Tryz.func47) (hc _ rd) ?_;rintro e w7 ⟨rfl,fw7,rd'⟩;refine⟨_,rfl,?_⟩;replace k2:=k2.kf fw7 rd;replace kf:=kf.kf fw7 rd;replace k5:=k5.kf fw7 rd;replace rd:=rd';clear rd';refine Zf 1 Tryz.underlying23 ?_;refine Zq k5 ?_;intro w8 pw8;replace k2:=k2.put pw8 (by omega);replace kf:=kf.put k5 pw8 e5;replace rd:=rd.put k5 pw8 e5;replace k5:=pw8.an;refine aO 0 2 3 4 5 (aB ?_);refine Zm ?_;obtain⟨o2,ho2⟩:∃o,o=rest j8 o1:=⟨_,rfl⟩;rw[←ho2] at rd;obtain⟨z3,hz3⟩:∃z,z=eG j8 [] o2:=⟨_,rfl⟩;have hv3:=eR j8 [] o2;have hb3:=nH rd;have hc:=fun W h=>nK g8 o2 W h;rw[←hz3] at hv3 hb3 hc;replace k5:aH _ g5 23 #[.int .i64 (z1:Int), .string (strOf z2), .string (strOf []), .string (strOf []), .string (strOf []), .int .i64 0, .int .i64 0, .int .i64 0, .int .i64 0]:=k5;refine Zc (Ze Tryz.func47) (hc _ rd) ?_;rintro e w9 ⟨rfl,fw9,rd'⟩;refine⟨_,rfl,?_⟩;replace k2:=k2.kf fw9 rd;replace kf:=kf.kf fw9 rd;replace k5:=k5.kf fw9 rd;replace rd:=rd';clear rd';refine Zf 2 Tryz.underlying23 ?_;refine Zq k5 ?_;intro w10 pw10;replace k2:=k2.put pw10 (by omega);replace kf:=kf.put k5 pw10 e5;replace rd:=rd.put k5 pw10 e5;replace k5:=pw10.an;refine aO 0 2 3 4 5 (aB ?_);refine Zm ?_;obtain⟨o3,ho3⟩:∃o,o=rest j8 o2:=⟨_,rfl⟩;rw[←ho3] at rd;obtain⟨z4,hz4⟩:∃z,z=eG j8 [] o3:=⟨_,rfl⟩;have hv4:=eR j8 [] o3;have hb4:=nH rd;have hc:=fun W h=>nK g8 o3 W h;rw[←hz4] at hv4 hb4 hc;replace k5:aH _ g5 23 #[.int .i64 (z1:Int), .string (strOf z2), .string (strOf z3), .string (strOf []), .string (strOf []), .int .i64 0, .int .i64 0, .int .i64 0, .int .i64 0]:=k5;refine Zc (Ze Tryz.func47) (hc _ rd) ?_;rintro e w11 ⟨rfl,fw11,rd'⟩;refine⟨_,rfl,?_⟩;replace k2:=k2.kf fw11 rd;replace kf:=kf.kf fw11 rd;replace k5:=k5.kf fw11 rd;replace rd:=rd';clear rd';refine Zf 3 Tryz.underlying23 ?_;refine Zq k5 ?_;intro w12 pw12;replace k2:=k2.put pw12 (by omega);replace kf:=kf.put k5 pw12 e5;replace rd:=rd.put k5 pw12 e5;replace k5:=pw12.an;refine aO 0 2 3 4 5 (aB ?_);refine Zm ?_;obtain⟨o4,ho4⟩:∃o,o=rest j8 o3:=⟨_,rfl⟩;rw[←ho4] at rd;obtain⟨z5,hz5⟩:∃z,z=eG j8 [] o4:=⟨_,rfl⟩;have hv5:=eR j8 [] o4;have hb5:=nH rd;have hc:=fun W h=>nK g8 o4 W h;rw[←hz5] at hv5 hb5 hc;replace k5:aH _ g5 23 #[.int .i64 (z1:Int), .string (strOf z2), .string (strOf z3), .string (strOf z4), .string (strOf []), .int .i64 0, .int .i64 0, .int .i64 0, .int .i64 0]:=k5;refine Zc (Ze Tryz.func47) (hc _ rd) ?_;rintro e w13 ⟨rfl,fw13,rd'⟩;refine⟨_,rfl,?_⟩;replace k2:=k2.kf fw13 rd;replace kf:=kf.kf fw13 rd;replace k5:=k5.kf fw13 rd;replace rd:=rd';clear rd';refine Zf 4 Tryz.underlying23 ?_;refine Zq k5 ?_;intro w14 pw14;replace k2:=k2.put pw14 (by omega);replace kf:=kf.put k5 pw14 e5;replace rd:=rd.put k5 pw14 e5;replace k5:=pw14.an;refine aO 0 2 3 4 5 (aB ?_);refine Zm ?_;obtain⟨o5,ho5⟩:∃o,o=rest j8 o4:=⟨_,rfl⟩;rw[←ho5] at rd;obtain⟨z6,hz6⟩:∃z,z=eG bA 0 o5:=⟨_,rfl⟩;have hv6:=eR bA 0 o5;have hb6:=jN rd;have hc:=fun W h=>jP g8 o5 W h;rw[←hz6] at hv6 hb6 hc;replace k5:aH _ g5 23 #[.int .i64 (z1:Int), .string (strOf z2), .string (strOf z3), .string (strOf z4), .string (strOf z5), .int .i64 0, .int .i64 0, .int .i64 0, .int .i64 0]:=k5;refine Zc (Ze Tryz.func46) (hc _ rd) ?_;rintro e w15 ⟨rfl,fw15,rd'⟩;refine⟨_,rfl,?_⟩;replace k2:=k2.kf fw15 rd;replace kf:=kf.kf fw15 rd;replace k5:=k5.kf fw15 rd;replace rd:=rd';clear rd';refine Zf 5 Tryz.underlying23 ?_;refine Zq k5 ?_;intro w16 pw16;replace k2:=k2.put pw16 (by omega);replace kf:=kf.put k5 pw16 e5;replace rd:=rd.put k5 pw16 e5;replace k5:=pw16.an;refine aO 0 2 3 4 5 (aB ?_);refine Zm ?_;obtain⟨o6,ho6⟩:∃o,o=rest bA o5:=⟨_,rfl⟩;rw[←ho6] at rd;obtain⟨z7,hz7⟩:∃z,z=eG bA 0 o6:=⟨_,rfl⟩;have hv7:=eR bA 0 o6;have hb7:=jN rd;have hc:=fun W h=>jP g8 o6 W h;rw[←hz7] at hv7 hb7 hc;replace k5:aH _ g5 23 #[.int .i64 (z1:Int), .string (strOf z2), .string (strOf z3), .string (strOf z4), .string (strOf z5), .int .i64 (z6:Int), .int .i64 0, .int .i64 0, .int .i64 0]:=k5;refine Zc (Ze Tryz.func46) (hc _ rd) ?_;rintro e w17 ⟨rfl,fw17,rd'⟩;refine⟨_,rfl,?_⟩;replace k2:=k2.kf fw17 rd;replace kf:=kf.kf fw17 rd;replace k5:=k5.kf fw17 rd;replace rd:=rd';clear rd';refine Zf 6 Tryz.underlying23 ?_;refine Zq k5 ?_;intro w18 pw18;replace k2:=k2.put pw18 (by omega);replace kf:=kf.put k5 pw18 e5;replace rd:=rd.put k5 pw18 e5;replace k5:=pw18.an;refine aO 0 2 3 4 5 (aB ?_);refine Zm ?_;obtain⟨o7,ho7⟩:∃o,o=rest bA o6:=⟨_,rfl⟩;rw[←ho7] at rd;obtain⟨z8,hz8⟩:∃z,z=eG bA 0 o7:=⟨_,rfl⟩;have hv8:=eR bA 0 o7;have hb8:=jN rd;have hc:=fun W h=>jP g8 o7 W h;rw[←hz8] at hv8 hb8 hc;replace k5:aH _ g5 23 #[.int .i64 (z1:Int), .string (strOf z2), .string (strOf z3), .string (strOf z4), .string (strOf z5), .int .i64 (z6:Int), .int .i64 (z7:Int), .int .i64 0, .int .i64 0]:=k5;refine Zc (Ze Tryz.func46) (hc _ rd) ?_;rintro e w19 ⟨rfl,fw19,rd'⟩;refine⟨_,rfl,?_⟩;replace k2:=k2.kf fw19 rd;replace kf:=kf.kf fw19 rd;replace k5:=k5.kf fw19 rd;replace rd:=rd';clear rd';refine Zf 7 Tryz.underlying23 ?_;refine Zq k5 ?_;intro w20 pw20;replace k2:=k2.put pw20 (by omega);replace kf:=kf.put k5 pw20 e5;replace rd:=rd.put k5 pw20 e5;replace k5:=pw20.an;refine aO 0 2 3 4 5 (aB ?_);refine Zm ?_;obtain⟨o8,ho8⟩:∃o,o=rest bA o7:=⟨_,rfl⟩;rw[←ho8] at rd;obtain⟨z9,hz9⟩:∃z,z=eG gP 0 o8:=⟨_,rfl⟩;have hv9:=Fp o8;have hb9:=Fm rd;have hc:=fun W h=>rr g8 o8 W h;rw[←hz9] at hv9 hb9 hc;replace k5:aH _ g5 23 #[.int .i64 (z1:Int), .string (strOf z2), .string (strOf z3), .string (strOf z4), .string (strOf z5), .int .i64 (z6:Int), .int .i64 (z7:Int), .int .i64 (z8:Int), .int .i64 0]:=k5;refine Zc (Ze Tryz.func49) (hc _ rd) ?_;rintro e w21 ⟨rfl,fw21,rd'⟩;refine⟨_,rfl,?_⟩;replace k2:=k2.kf fw21 rd;replace kf:=kf.kf fw21 rd;replace k5:=k5.kf fw21 rd;replace rd:=rd';clear rd';rw[←AR] at rd;refine Zc (Ze Tryz.func48) (rT z9 _ hb9) ?_;rintro en w30 ⟨rfl,hb30⟩;refine⟨_,rfl,?_⟩;replace k2:=k2.step hb30;replace kf:=kf.step hb30;replace rd:=rd.step hb30;replace k5:=k5.step hb30;refine Zf 8 Tryz.underlying23 ?_;refine Zq k5 ?_;intro w22 pw22;replace k2:=k2.put pw22 (by omega);replace kf:=kf.put k5 pw22 e5;replace rd:=rd.put k5 pw22 e5;replace k5:=pw22.an;refine aO 0 2 3 4 5 (aI (aj ?_));replace k5:aH _ g5 23 #[.int .i64 (z1:Int), .string (strOf z2), .string (strOf z3), .string (strOf z4), .string (strOf z5), .int .i64 (z6:Int), .int .i64 (z7:Int), .int .i64 (z8:Int), .int .i64 (fu z9)]:=k5;obtain⟨s1,b1,k8,hs1,hq1⟩:=id rd
 have hval:kD (hZ 9223372036854775807 9223372036854775807) (some s) ⟨z1,z2,z3,z4,z5,z6,z7,z8,fu z9⟩:=by
  subst ho1 ho2 ho3 ho4 ho5 ho6 ho7 ho8;exact da hv1 (da hv2 (da hv3 (da hv4 (da hv5 (da hv6 (da hv7 (da hv8 (da hv9 (uX _)))))))))
 have hrest:rest (hZ 9223372036854775807 9223372036854775807) (some s)=rest mR o8:=by
  unfold hZ;rw[ck hv1,←ho1,ck hv2,←ho2,ck hv3,←ho3,ck hv4,←ho4,ck hv5,←ho5,ck hv6,←ho6,ck hv7,←ho7,ck hv8,←ho8,ck hv9,sU]
 rw[←hrest] at hq1 rd;obtain⟨z,hz⟩:∃z:kU,z=⟨z1,z2,z3,z4,z5,z6,z7,z8,fu z9⟩:=⟨_,rfl⟩;rw[←hz] at hval;obtain⟨hin,hrng,hDs⟩:=yE hs hval hdd
 have hend:(b1=false∧s1=[])↔rest (hZ 9223372036854775807 9223372036854775807) (some s)=some []:=by
  rw[hq1]
  cases b1<;>simp
 have hri:=fun W h=>u5 z.ev (hrng (hend.1 h)) W;have hzv:z.ev.v= .agg #[.int .i64 (z1:Int), .string (strOf z2), .string (strOf z3), .string (strOf z4), .string (strOf z5), .int .i64 (z6:Int), .int .i64 (z7:Int), .int .i64 (z8:Int), .int .i64 (fu z9)]:=by rw[hz];rfl
 rw[hzv] at hri
 have hri0:decide (rest (hZ 9223372036854775807 9223372036854775807) (some s)=some [])=(!b1&& !decide (0<s1.length)):=by
  rw[Bool.eq_iff_iff];simp only[decide_eq_true_eq,Bool.and_eq_true,Bool.not_eq_true',decide_eq_false_iff_not];rw[←hend]
  cases s1<;>simp
 obtain⟨d1,d2⟩:=hDs (cH z.ev) (fun _=>rfl);rw[hri0] at d1;have ab:=belr.trans (kf.to hgB hgl);refine Zm ?_;refine Zv (aa.nilCheck rfl rfl) ?_;refine Zf 1 Tryz.underlying92 ?_;refine ZL Tryz.underlying4 k8 ?_;refine Zm ?_;refine aw.start ?_;refine bw (fun hcx=>aa.move rfl rfl) ?_;refine Zn (fun hcx=>aa.nilCheck rfl rfl) ?_;refine Zn (fun hcx=>aa.ar 0 rfl rfl Tryz.underlying92 rfl (by kernel_rfl)) ?_;refine Zn (fun hcx=>aa.au rfl rfl Tryz.underlying9 rfl k8 rfl) ?_;refine Zn (fun hcx=>aa.dh rfl rfl Tryz.underlying9) ?_;refine Zn (fun hcx=>aa.gtr rfl rfl rfl) ?_;refine fg ?_;refine Zm ?_;refine aw.start ?_;refine bw (fun hcx=>aa.eK rfl rfl Tryz.underlying23 rfl k5 (m:=9) (by kernel_rfl) rfl) ?_;refine aw.bU rfl rfl rfl rfl rfl rfl rfl (fun hcx=>Ze Tryz.func11) (fun hcx=>hri _ (by simp[ct] at hcx;exact⟨hcx.1,by first|exact hcx.2|exact List.eq_nil_of_length_eq_zero (by omega)⟩)) ?_;intro w23 hw23;replace k2:=k2.step hw23;replace k5:=k5.step hw23;replace ab:=ab.step hw23;replace k8:=k8.step hw23;refine Zn (fun hcx=>aa.not rfl rfl) ?_;refine fg ?_;refine aY 0 2 3 4 5 54 (Zt ?_);refine Cd.cond rfl (fun h=> ?_) (fun h=> ?_)
 ·have hD:D=none:=by
   cases hD:D with
   |none=>rfl
   |some x=>
    rw[hD] at d1;simp at d1 h
    grind
  subst hD;refine aj ?_;refine Zv (aa.build rfl rfl (lW _)) ?_;refine Zo 9 k2 ?_;intro w24 pw24;replace k5:=k5.put pw24 (by omega);replace ab:=ab.put k2 pw24 e2;replace k8:=k8.put pw24 (by omega);replace k2:=pw24.an;refine Za ?_;refine aY 0 2 3 4 5 54 (Zt (Cd.ret (ae.af ?_)));refine ae.hO rfl rfl rfl k2 Tryz.underlying23 rfl (m:=9) (by kernel_rfl) rfl (.inl rfl) ?_;exact⟨rfl,ab⟩
 ·have hD:D=some z:=by
   apply d2;rw[←d1];simp at h⊢
   grind
  subst hD;refine Cd.skip (aB ?_);refine ZW 9 Tryz.underlying23 k5 ?_;refine Zo 9 k2 ?_;intro w24 pw24;replace k5:=k5.put pw24 (by omega);replace ab:=ab.put k2 pw24 e2;replace k8:=k8.put pw24 (by omega);replace k2:=pw24.an;refine Za ?_;refine aY 0 2 3 4 5 54 (Zt (Cd.ret ?_));refine ae.hO rfl rfl rfl k2 Tryz.underlying23 rfl (m:=9) (by kernel_rfl) rfl (.inl rfl) ?_;exact⟨by rw[show BC (some z)=z.ev.v from rfl,hzv];rfl,ab⟩
def Ap:kU:=⟨2,[],[],[],[],5,0,0,0⟩
def Dh:Ev:=⟨7,[99],[],[],[],0,0,0,0⟩
theorem Cy:Ap.ev.AS:=by
 have hn:∀x∈([]:List Nat),x<256:=fun x h=>by cases h
 constructor<;>first|exact hn|(unfold bm;decide)|decide
theorem CV:Dh.AS:=by
 have hn:∀x∈([]:List Nat),x<256:=fun x h=>by cases h
 constructor<;>first|exact hn|(unfold bm;decide)|decide
theorem BH:Ap.fit:=by
 constructor<;>first|(unfold bm;decide)|decide
theorem xx:cH Ap.ev=true:=by decide+kernel
theorem xI:cH Dh=true:=by decide+kernel
theorem xf:Ap.bytes=[2,0,0,0,0,5,0,0,0]:=by decide+kernel
theorem rv (w:World):(Instr.build 29 #[(0, .int .i64 2),(5, .int .i64 5)]).run Tryz.prog w= .ok Ap.ev.v w:=by kernel_rfl
theorem qF (w:World):(Instr.build 29 #[(0, .int .i64 7),(1, .string {data:= #[99]})]).run Tryz.prog w= .ok Dh.v w:=by kernel_rfl
theorem oZ (w:World):Calls Tryz.prog 10 #[] w fun e w'=>e= .returned (.bool true)∧Grow w w':=by
 have ab:=Below.refl w.heap.size w;have h1:=fun W=>zr Ap BH Cy xx W;have h2:=fun W=>qs Dh CV W;rw[xf] at h1;rw[xI] at h2;refine Zs 18 Tryz.func10 ?_;refine aj ?_;refine Za ?_;refine EF 0 (aB ?_);refine Zv (aa.build rfl rfl (rv _)) ?_;refine Zc (Ze Tryz.func12) (h1 _) ?_;rintro en w5 ⟨rfl,hb5⟩;refine⟨_,rfl,?_⟩;replace ab:=ab.step hb5;refine Zm ?_;refine Zx ?_;refine Zx ?_;refine Za ?_;refine Za ?_;refine bn 0 1 2 (aB ?_);refine Zm ?_;refine bC ?_;refine Zm ?_;refine aw.start ?_;refine bw (fun hcx=>aa.move rfl rfl) ?_;refine Zn (fun hcx=>aa.cI (a:=[2,0,0,0,0,5,0,0,0]) (b:=[2,0,0,0,0,5,0,0,0]) rfl rfl rfl (by decide) (by decide)) ?_;refine fQ ?_;refine Zm ?_;refine aw.start ?_;refine bw (fun hcx=>aa.build rfl rfl (qF _)) ?_;refine aw.bU rfl rfl rfl rfl rfl rfl rfl (fun hcx=>Ze Tryz.func13) (fun hcx=>h2 _) ?_;intro w1 hw1;replace ab:=ab.step hw1;refine fQ ?_;refine Za ?_;refine bn 0 1 2 (Zt (Cd.ret ?_));refine aZ ?_;exact⟨bt (aJ (by decide)),ab⟩
theorem qx {l:List Nat}(h:cS l=true):l.length≤16:=by
 unfold cS at h;simp only[Bool.and_eq_true,decide_eq_true_eq] at h;exact h.1.1.2
theorem xj {l:List Nat}(h:cN l=true):l.length≤4000:=by
 unfold cN at h;simp only[Bool.and_eq_true,decide_eq_true_eq] at h;exact(mg h.1).2
theorem zd {e:Ev}(h:cH e=true):e.id.length≤16∧e.a.length≤16∧e.b.length≤16∧e.text.length≤4000:=by
 have h1:=fun h=>qx (l:=e.id) h;have h2:=fun h=>qx (l:=e.a) h;have h3:=fun h=>qx (l:=e.b) h;have h4:=fun h=>xj (l:=e.text) h;obtain⟨kd,id,a,b,text,day,at_,ec,n⟩:=e;dsimp only at *
 have hk:kd=1∨kd=2∨kd=3∨kd=4∨kd=5∨kd=6∨kd=7:=by
  unfold cH at h;simp only[Bool.and_eq_true,decide_eq_true_eq] at h;omega
 rcases hk with rfl|rfl|rfl|rfl|rfl|rfl|rfl<;>simp[cH,iY,lY,m7] at h<;>grind
theorem nS {m M:Nat}{s:List Nat}{e:kU}(hs:jc s)(hm:m<9223372036854775808)(hM:M<9223372036854775808):lL m M s=some e↔e.cap m M∧s=e.bytes∧cH e.ev=true:=by
 have hc:=vD m M hm hM;unfold lL
 constructor
 ·intro h
  split at h
  ·rename_i x hx
   split at h
   ·rename_i hr
    injection h with h
    subst h;obtain⟨h1,h2⟩:=hc.sound s x [] hs hx;exact⟨h1,by rw[h2,List.append_nil],hr⟩
   ·cases h
  ·cases h
 ·rintro⟨h1,rfl,h3⟩
  have:=hc.full e [] h1;rw[List.append_nil] at this;rw[this];simp[h3]
theorem kU.cap.of {e:kU}{m M m' M':Nat}(h:e.cap m M)(hr:cH e.ev=true)(hm:16≤m')(hM:4000≤M'):e.cap m' M':=by
 obtain⟨c1,c2,c3,c4⟩:=zd hr;have c1:e.id.length≤16:=c1;have c2:e.a.length≤16:=c2;have c3:e.b.length≤16:=c3;have c4:e.text.length≤4000:=c4;exact⟨h.kind,h.day,h.at_,h.ec,h.n,by omega,by omega,by omega,by omega⟩
theorem Ez {s:List Nat}(hs:jc s):lL 9223372036854775807 9223372036854775807 s=lL 16 4000 s:=by
 cases h:lL 16 4000 s with
 |some e=>
  obtain⟨h1,h2,h3⟩:=(nS hs (by omega) (by omega)).1 h;exact(nS hs (by omega) (by omega)).2 ⟨h1.of h3 (by omega) (by omega),h2,h3⟩
 |none=>
  cases h':lL 9223372036854775807 9223372036854775807 s with
  |none=>rfl
  |some e=>
   obtain⟨h1,h2,h3⟩:=(nS hs (by omega) (by omega)).1 h';have:=(nS (m:=16) (M:=4000) hs (by omega) (by omega)).2 ⟨h1.of h3 (by omega) (by omega),h2,h3⟩;rw[h] at this
   cases this
set_option maxRecDepth 100000 in
theorem vR (a:Ev)(w:World):(binOp .eql 23 a.v a.v).run Tryz.prog w= .ok (.bool true) w:=by
 have hu:=Tryz.underlying23;unfold Ev.v
 go_simp
theorem At (op:BinOp)(x y:Operand)(a b:Array Value)(w:World):(eqGuard op 23 x y (.agg a) (.agg b)).run Tryz.prog w= .ok () w:=by
 have h:Tryz.prog.eqGuardType Tryz.prog.depth 23=false:=by kernel_rfl
 cases op<;>simp[eqGuard,program,h,Sem.run_bind,Sem.run]
theorem tp (s:List Nat)(w:World)(hs:∀x∈s,x<256)(hlen:s.length≤9223372036854775807):Calls Tryz.prog 4 #[.string (strOf s)] w fun en w'=>en= .returned (.bool true)∧Below w.heap.size w w':=by
 have ab:=Below.refl w.heap.size w;have h1:=fun W=>zX s W hs;have h2:=fun W=>tR s W hs;rw[Ez hs] at h2
 obtain⟨e,b,hv,hb⟩:∃(e:Ev) (b:Bool),BC (lL 16 4000 s)=e.v∧(lL 16 4000 s).isSome=b:=by
  cases lL 16 4000 s with
  |none=>exact⟨lY 0,false,rfl,rfl⟩
  |some x=>exact⟨x.ev,true,rfl,rfl⟩
 rw[hv,hb] at h1 h2;have heq:=fun W=>vR e W;unfold Ev.v at h1 h2 heq;refine Zs 42 Tryz.func4 ?_;refine aj ?_;refine Za ?_;refine dF 0 2 (aI (aj ?_));refine Zm ?_;refine Zv (aa.dh rfl rfl Tryz.underlying9) ?_;refine uV ?_;refine bn 0 2 9 (Zt ?_);refine Cd.ak rfl (fun hc=> ?_) (fun hc=> ?_)
 ·skip
  refine aj ?_;refine Zc (Ze Tryz.func10) (oZ _) ?_;rintro en w6 ⟨rfl,hb6⟩;refine⟨_,rfl,?_⟩;replace ab:=ab.step hb6;refine Za ?_;refine bn 0 2 9 (Zt (Cd.ret (ae.af ?_)));refine aZ ?_;exact⟨rfl,ab⟩
 refine Cd.skip (aB ?_);refine Zm ?_;refine Zc (Ze Tryz.func15) (h1 _) ?_;rintro en w7 ⟨rfl,hb7⟩;refine⟨_,rfl,?_⟩;replace ab:=ab.step hb7;refine Zm ?_;refine Zx ?_;refine Zx ?_;refine Zl fx ?_;intro g3 w1 n3;have e3:=Nat.le_trans ab.size n3.ge;replace ab:=ab.step n3.below;have k3:=n3.an;refine Zo 9 k3 ?_;intro w2 pw2;replace ab:=ab.put k3 pw2 e3;replace k3:=pw2.an;refine Za ?_;refine aO 0 2 3 4 9 (aB ?_);have k3:aH _ g3 29 #[.int .i64 e.kind, .string (strOf e.id), .string (strOf e.a), .string (strOf e.b), .string (strOf e.text), .int .i64 e.day, .int .i64 e.at_, .int .i64 e.ec, .int .i64 e.n]:=k3;refine Zm ?_;refine Zc (Ze Tryz.func16) (h2 _) ?_;rintro en w8 ⟨rfl,hb8⟩;refine⟨_,rfl,?_⟩;replace ab:=ab.step hb8;replace k3:=k3.step hb8;refine Zm ?_;refine Zx ?_;refine Zx ?_;refine Zl dM ?_;intro g5 w3 n5;have e5:=Nat.le_trans ab.size n5.ge;have l5:=Nat.lt_of_lt_of_le k3.lt n5.ge;replace ab:=ab.step n5.below;replace k3:=k3.step n5.below;have k5:=n5.an;refine Zo 9 k5 ?_;intro w4 pw4;replace ab:=ab.put k5 pw4 e5;replace k3:=k3.put pw4 (by omega);replace k5:=pw4.an;refine Za ?_;refine ba 0 2 3 4 5 6 9 (aB ?_);have k5:aH _ g5 23 #[.int .i64 e.kind, .string (strOf e.id), .string (strOf e.a), .string (strOf e.b), .string (strOf e.text), .int .i64 e.day, .int .i64 e.at_, .int .i64 e.ec, .int .i64 e.n]:=k5;refine ZW 9 Tryz.underlying29 k3 ?_;refine ZW 9 Tryz.underlying23 k5 ?_;refine Zv (aa.bin rfl rfl rfl (At _ _ _ _ _ _) (heq _)) ?_;refine Zm ?_;refine aw.start ?_;refine bw (fun hcx=>aa.move rfl rfl) ?_;refine gq ?_;refine bw (fun hcx=>aa.move rfl rfl) ?_;refine Zn (fun hcx=>aa.fh rfl rfl rfl) ?_;refine aw.mF rfl rfl rfl rfl rfl rfl rfl rfl rfl rfl rfl ?_;refine gq ?_;refine bw (fun hcx=>aa.move rfl rfl) ?_;refine Zn (fun hcx=>aa.not rfl rfl) ?_;refine gq ?_;refine bw (fun hcx=>aa.move rfl rfl) ?_;refine Zn (fun hcx=>aa.fh rfl rfl rfl) ?_;refine aw.mF rfl rfl rfl rfl rfl rfl rfl rfl rfl rfl rfl ?_;refine aw.zm rfl rfl rfl rfl rfl rfl rfl rfl rfl rfl rfl ?_;refine fQ ?_;refine Zm ?_;refine aw.start ?_;refine aw.FV rfl rfl rfl rfl rfl rfl rfl (fun hcx=>Ze Tryz.func10) (fun hcx=>oZ _) ?_;intro w5 hw5;replace ab:=ab.step hw5;replace k3:=k3.step hw5;replace k5:=k5.step hw5;refine fQ ?_;refine Za ?_;refine ba 0 2 3 4 5 6 9 (Zt (Cd.ret ?_));refine aZ ?_;exact⟨bt (aJ (by cases b<;>decide)),ab⟩
end Go.Proofs.YtigoimhndlnhfaaGreat