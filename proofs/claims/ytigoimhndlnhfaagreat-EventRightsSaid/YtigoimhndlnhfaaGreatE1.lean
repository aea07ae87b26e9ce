/-
  Texts that were joined: TAmt, TNumP, Fits, StrA, StrB, TMul, TNumD, TNumT, TNumQ, LexSpec, LexA, LexB, TreA, TreB, TreC, TreD, LexC, LexD, LexE, LexF. Conditions: what each theorem names.
-/
import Derived.Test.YtigoimhndlnhfaaGreatE0
import Derived.Lib.Builder
import Derived.Lib.UnsafeStr
import Derived.Handy
import Derived.Deep.Light
set_option linter.unusedSectionVars false
namespace Go.Proofs.YtigoimhndlnhfaaGreat
def fJ (c:Nat):Prop:=48≤c∧c≤57
def dx (l:List Nat):Nat:=l.foldl (fun n c=>10*n+(c-48)) 0
theorem pT (l:List Nat):∀a,l.foldl (fun n c=>10*n+(c-48)) a=a*10^l.length+dx l:=by
 induction l with
 |nil=>intro a;simp[dx]
 |cons c l ih=>
  intro a
  have e1:dx (c::l)=(c-48)*10^l.length+dx l:=by
   show List.foldl _ _ (c::l)=_;rw[List.foldl_cons,ih,Nat.mul_zero,Nat.zero_add]
  rw[List.foldl_cons,ih,e1,List.length_cons,Nat.pow_succ];have:(10*a+(c-48))*10^l.length=a*(10^l.length*10)+(c-48)*10^l.length:=by rw[Nat.add_mul,Nat.mul_comm 10 a,Nat.mul_assoc,Nat.mul_comm 10]
  rw[this];omega
theorem nc (c:Nat)(l:List Nat):dx (c::l)=(c-48)*10^l.length+dx l:=by
 show List.foldl _ _ (c::l)=_;rw[List.foldl_cons,pT,Nat.mul_zero,Nat.zero_add]
theorem np (l:List Nat)(c:Nat):dx (l++[c])=10*dx l+(c-48):=by unfold dx;rw[List.foldl_append];rfl
theorem ua (a b:List Nat):dx (a++b)=dx a*10^b.length+dx b:=by
 show List.foldl _ _ (a++b)=_;rw[List.foldl_append,pT];rfl
theorem oD (l:List Nat)(h:∀c∈l,fJ c):dx l<10^l.length:=by
 induction l with
 |nil=>simp[dx]
 |cons c l ih=>
  have h1:=ih fun x hx=>h x (List.mem_cons_of_mem _ hx);have h2:=h c (List.mem_cons_self ..);unfold fJ at h2;rw[nc,List.length_cons,Nat.pow_succ];have:(c-48)*10^l.length≤9*10^l.length:=Nat.mul_le_mul_right _ (by omega);omega
theorem xX (l:List Nat)(k:Nat):dx (l.take k)≤dx l:=by
 have h:=ua (l.take k) (l.drop k);rw[List.take_append_drop] at h;have h2:dx (l.take k)*1≤dx (l.take k)*10^(l.drop k).length:=Nat.mul_le_mul_left _ (Nat.pos_of_ne_zero (by simp));omega
def Dg (u:Nat):Nat→List Nat
 |0=>[]
 |k+1=>Dg u k++[48+u/10^k%10]
theorem iN (u:Nat):∀k,(Dg u k).length=k
 |0=>rfl
 |k+1=>by unfold Dg;rw[List.length_append,iN u k];rfl
theorem BB (u:Nat):∀k,∀c∈Dg u k,fJ c
 |0,c,h=>by simp[Dg] at h
 |k+1,c,h=>by
  unfold Dg at h;rcases List.mem_append.1 h with h|h
  ·exact BB u k c h
  ·simp at h;unfold fJ;omega
theorem se (u:Nat):∀k j,j≤k→(Dg u k).take j=Dg u j
 |0,j,h=>by obtain rfl:j=0:=by omega
            rfl
 |k+1,j,h=>by
  rcases Nat.lt_or_ge k j with h1|h1
  ·obtain rfl:j=k+1:=by omega
   exact List.take_of_length_le (by rw[iN];omega)
  ·rw[show Dg u (k+1)=Dg u k++[48+u/10^k%10] from rfl,List.take_append_of_le_length (by rw[iN];omega)]
   exact se u k j h1
theorem BQ (u k:Nat):(Dg u (k+1)).reverse=(48+u/10^k%10)::(Dg u k).reverse:=by
 show(Dg u k++[48+u/10^k%10]).reverse=_;rw[List.reverse_append];rfl
theorem BD (u:Nat):∀k,dx (Dg u k).reverse=u%10^k
 |0=>by simp[Dg,dx,Nat.mod_one]
 |k+1=>by
  rw[BQ,nc,List.length_reverse,iN,BD u k,Nat.pow_succ,Nat.mod_mul,show 48+u/10^k%10-48=u/10^k%10 by omega,Nat.mul_comm];omega
theorem xt (v e:Nat)(he:e<10):∀n,Dg (10*v+e) (n+1)=(48+e)::Dg v n
 |0=>by simp[Dg];omega
 |n+1=>by
  have h:=xt v e he n;rw[show Dg (10*v+e) (n+1+1)=Dg (10*v+e) (n+1)++[48+(10*v+e)/10^(n+1)%10] from rfl,h,show Dg v (n+1)=Dg v n++[48+v/10^n%10] from rfl]
  have:(10*v+e)/10^(n+1)=v/10^n:=by
   rw[Nat.pow_succ,Nat.mul_comm (10^n) 10,←Nat.div_div_eq_div_mul,show(10*v+e)/10=v by omega]
  rw[this];rfl
theorem Eh (n:Nat):∀l:List Nat,l.length=n→(∀c∈l,fJ c)→Dg (dx l) n=l.reverse:=by
 induction n with
 |zero=>intro l hl _;obtain rfl:=List.eq_nil_of_length_eq_zero hl;rfl
 |succ n ih=>
  intro l hl hd;rcases List.eq_nil_or_concat l with rfl|⟨m,c,rfl⟩
  ·cases hl
  ·have hc:fJ c:=hd c (by simp)
   have hm:m.length=n:=by simpa using hl
   have h1:=ih m hm fun x hx=>hd x (by simp[hx]);unfold fJ at hc;rw[List.concat_eq_append,np,xt _ _ (by omega),h1,List.reverse_append,show 48+(c-48)=c by omega];rfl
theorem oJ (u d:Nat):∀k,d=0∨k≤d→j9 u d k=Dg u k
 |0,_=>rfl
 |k+1,h=>by
  have h1:=oJ u d k (by omega);show j9 u d k++(if k=d∧0<d then [46] else [])++[48+u/10^k%10]=_;rw[h1,if_neg (by omega),List.append_nil];rfl
theorem oT (u d:Nat)(h0:0<d):∀k,j9 u d (d+1+k)=Dg u d++46::(Dg u (d+1+k)).drop d
 |0=>by
  show j9 u d d++(if d=d∧0<d then [46] else [])++[48+u/10^d%10]=_;rw[oJ u d d (by omega),if_pos ⟨rfl,h0⟩,show d+1+0=d+1 by rfl,show Dg u (d+1)=Dg u d++[48+u/10^d%10] from rfl,List.drop_left' (iN u d)];simp
 |k+1=>by
  show j9 u d (d+1+k)++(if d+1+k=d∧0<d then [46] else [])++[48+u/10^(d+1+k)%10]=Dg u d++46::(Dg u (d+1+k)++[48+u/10^(d+1+k)%10]).drop d;rw[oT u d h0 k,if_neg (by omega),List.append_nil,List.drop_append_of_le_length (by rw[iN];omega)];simp
def jZ (x:Int)(d:Nat)(F B:List Nat):List Nat:=(if x<0 then [45] else [])++(F++(if 0<d then 46::B else []))
structure Form (l:List Nat)(d:Nat)(x:Int)(F B:List Nat):Prop where
 f:∀c∈F,fJ c
 b:∀c∈B,fJ c
 len:B.length=d
 pos:0<F.length
 lead:1<F.length→F[0]? ≠some 48
 val:dx (F++B)=x.natAbs
 eq:l=jZ x d F B
theorem ot (x:Int)(d N:Nat)(h:fY x.natAbs d N):∃F B,Form (printed x d N) d x F B:=by
 obtain⟨h1,h2⟩:=h
 have hN:d<N:=by rcases Nat.lt_or_ge d N with h|h
                 ·exact h
                 ·exact absurd (.inr h) h2
 have hu:x.natAbs/10^N=0:=by rcases Nat.eq_zero_or_pos (x.natAbs/10^N) with h|h
                             ·exact h
                             ·exact absurd (.inl h) h2
 have hlt:x.natAbs<10^N:=by
  rcases Nat.lt_or_ge x.natAbs (10^N) with h|h
  ·exact h
  ·have:=Nat.div_pos h (Nat.pos_of_ne_zero (by simp));omega
 have hsp:(Dg x.natAbs N).reverse=((Dg x.natAbs N).drop d).reverse++(Dg x.natAbs d).reverse:=by
  rw[←List.reverse_append,←se x.natAbs N d (by omega),List.take_append_drop]
 refine⟨((Dg x.natAbs N).drop d).reverse,(Dg x.natAbs d).reverse,?_,?_,?_,?_,?_,?_,?_⟩
 ·intro c hc
  exact BB _ _ c (List.mem_of_mem_drop (List.mem_reverse.1 hc))
 ·intro c hc
  exact BB _ _ c (List.mem_reverse.1 hc)
 ·rw[List.length_reverse,iN]
 ·rw[List.length_reverse,List.length_drop,iN];omega
 ·intro hl
  rw[List.length_reverse,List.length_drop,iN] at hl;obtain⟨M,rfl⟩:∃M,N=M+1:=⟨N-1,by omega⟩;have h3:=h1 M (by omega);have h4:0<x.natAbs/10^M:=by omega
  have h5:x.natAbs/10^M<10:=by
   rw[Nat.div_lt_iff_lt_mul (Nat.pos_of_ne_zero (by simp)),Nat.mul_comm,←Nat.pow_succ];exact hlt
  show((Dg x.natAbs M++[48+x.natAbs/10^M%10]).drop d).reverse[0]? ≠_;rw[List.drop_append_of_le_length (by rw[iN];omega),List.reverse_append];simp;omega
 ·rw[←hsp,BD,Nat.mod_eq_of_lt hlt]
 ·unfold printed jZ
  rw[List.reverse_append];have e1:(if x<0 then [45] else []:List Nat).reverse=if x<0 then [45] else []:=by split<;>rfl
  rw[e1];congr 1;rcases Nat.eq_zero_or_pos d with h0|h0
  ·subst h0
   rw[oJ _ _ _ (.inl rfl),if_neg (by omega),List.append_nil,List.drop_zero]
  ·obtain⟨k,rfl⟩:∃k,N=d+1+k:=⟨N-d-1,by omega⟩
   rw[oT _ _ h0,if_pos h0,List.reverse_append,List.reverse_cons];simp
theorem jT {l:List Nat}{d:Nat}{x:Int}{F B:List Nat}(h:Form l d x F B):∃N,fY x.natAbs d N∧l=printed x d N∧N=F.length+d:=by
 obtain⟨hf,hb,hlen,hpos,hlead,hval,heq⟩:=h
 have hd:∀c∈F++B,fJ c:=fun c hc=>by
  rcases List.mem_append.1 hc with h|h
  ·exact hf c h
  ·exact hb c h
 have hD:=Eh (F.length+d) (F++B) (by rw[List.length_append,hlen]) hd;have hlt:=oD (F++B) hd;rw[List.length_append,hlen] at hlt;rw[hval] at hD hlt
 have hN:fY x.natAbs d (F.length+d):=by
  refine⟨fun k hk=> ?_,?_⟩
  ·rcases Nat.lt_or_ge d k with h|h
   ·left
    cases F with
    |nil=>simp at hpos
    |cons c F=>
     have h1:=hlead (by simp at hk⊢;omega);have h2:=hf c (List.mem_cons_self ..);unfold fJ at h2;simp at h1;have h3:dx (c::F++B)=(c-48)*10^(F++B).length+dx (F++B):=nc c (F++B);rw[hval,List.length_append,hlen] at h3;have h4:1*10^(F.length+d)≤(c-48)*10^(F.length+d):=Nat.mul_le_mul_right _ (by omega);have h5:10^k≤10^(F.length+d):=Nat.pow_le_pow_right (by omega) (by simp at hk;omega);exact Nat.div_pos (by omega) (Nat.pos_of_ne_zero (by simp))
   ·exact .inr h
  ·rw[Nat.div_eq_of_lt hlt];omega
 refine⟨_,hN,?_,rfl⟩;rw[heq];unfold jZ printed;rw[List.reverse_append];have e1:(if x<0 then [45] else []:List Nat).reverse=if x<0 then [45] else []:=by split<;>rfl
 rw[e1];congr 1;rcases Nat.eq_zero_or_pos d with h0|h0
 ·subst h0
  obtain rfl:=List.eq_nil_of_length_eq_zero hlen;rw[oJ _ _ _ (.inl rfl),if_neg (by omega),hD,List.reverse_reverse]
 ·obtain⟨k,hk⟩:∃k,F.length+d=d+1+k:=⟨F.length-1,by omega⟩
  have hB:Dg x.natAbs d=B.reverse:=by
   rw[←se x.natAbs (F.length+d) d (by omega),hD,List.reverse_append,List.take_left' (by rw[List.length_reverse,hlen])]
  rw[hk] at hD;rw[hk,oT _ _ h0,if_pos h0,hD,hB,show(F++B).reverse=B.reverse++F.reverse from List.reverse_append,List.drop_left' (by rw[List.length_reverse,hlen])];simp
def gM (l:List Nat):Nat:=l.foldl (fun n c=>if 48≤c∧c≤57 then 10*n+(c-48) else n) 0
theorem tL (l:List Nat)(h:∀c∈l,fJ c):∀a,l.foldl (fun n c=>if 48≤c∧c≤57 then 10*n+(c-48) else n) a=l.foldl (fun n c=>10*n+(c-48)) a:=by
 induction l with
 |nil=>intro a;rfl
 |cons c l ih=>
  intro a;rw[List.foldl_cons,List.foldl_cons,if_pos (show 48≤c∧c≤57 from h c (List.mem_cons_self ..))];exact ih (fun x hx=>h x (List.mem_cons_of_mem _ hx)) _
theorem rG (l:List Nat)(c:Nat):gM (l++[c])=if 48≤c∧c≤57 then 10*gM l+(c-48) else gM l:=by unfold gM;rw[List.foldl_append];rfl
theorem xd (l:List Nat):∀k,gM (l.take k)<10^k
 |0=>by simp[gM]
 |k+1=>by
  have h:=xd l k;rw[List.take_add_one]
  cases l[k]? with
  |none=>simp;rw[Nat.pow_succ];omega
  |some c=>
   rw[show(some c).toList=[c] from rfl,rG,Nat.pow_succ];split<;>omega
def eI (l:List Nat):Int:=if l.head? =some 45 then -(gM l:Int) else gM l
theorem vd {l:List Nat}{d:Nat}{x:Int}{F B:List Nat}(h:Form l d x F B):eI l=x:=by
 obtain⟨hf,hb,hlen,hpos,hlead,hval,heq⟩:=h
 have hv:gM l=x.natAbs:=by
  rw[heq,←hval];unfold gM jZ;rw[List.foldl_append,List.foldl_append,tL F hf];have e1:List.foldl (fun n c=>if 48≤c∧c≤57 then 10*n+(c-48) else n) 0 (if x<0 then [45] else [])=0:=by split<;>rfl
  rw[e1];unfold dx;rw[List.foldl_append];rcases Nat.eq_zero_or_pos d with h0|h0
  ·subst h0
   obtain rfl:=List.eq_nil_of_length_eq_zero hlen;rfl
  ·rw[if_pos h0,List.foldl_cons,if_neg (by omega),tL B hb]
 unfold eI;rw[hv]
 have hh:(l.head? =some 45)↔x<0:=by
  rw[heq];unfold jZ
  by_cases hx:x<0
  ·simp[hx]
  ·cases F with
   |nil=>simp at hpos
   |cons c F=>
    have:=hf c (List.mem_cons_self ..);unfold fJ at this;simp[hx];omega
 by_cases hx:x<0
 ·rw[if_pos (hh.2 hx)];omega
 ·rw[if_neg (fun h=>hx (hh.1 h))];omega
open Go.RowKit
section
variable {P:Program} {E:Operand→Option Value} {o:Oper} {w w':World} {v:Value}
theorem aa.here {f:FuncId}{args:Array Operand}{ts:Array TypeId}{vs:List Value}(ho:o.op= .call {callee:= .value (.func f),args:=args,argTypes:=ts})(hf:E (.func f)=some (.func (.func f) #[] #[])) (hx:iG E args.toList=some vs)
  (he:(callFunc f vs.toArray).run P w= .ok (.value v) w'):aa P E o w v w':=fun ρ h=>by
 have hargs:args.map ρ=vs.toArray:=by
  apply Array.ext';rw[Array.toList_map,ir h hx]
 unfold execOp;simp only[ho,resolve,h _ _ hf,Deferred.ofValue,hargs,Sem.run_bind,Sem.run_pure,Result.andThen_ok,invoke];simp[he]
end
theorem ke (l:List Nat)(c:Nat)(hl:∀x∈l,x<256)(hc:c<256)(w:World):(callFunc 263 [.string (strOf l), .int .u8 (c:Int)].toArray).run Tryz.prog w= .ok (.value (.int .i64 (if c∈l then(idx l c:Int) else -1))) w:=by
 rw[run_callFunc_extern Tryz.func263 (by kernel_rfl) (by kernel_rfl) (by kernel_rfl) (e:=Extern.BytealgIndexByte.indexByte) (by kernel_rfl),Lib.run_indexByteString];rw[dM,show(c:Int).toNat.toUInt8=UInt8.ofNat c by rw[Int.toNat_natCast],lJ c hc l hl];rfl
theorem qu (l:List Nat)(c:Nat)(w:World)(hl:∀x∈l,x<256)(hc:c<256):
  Calls Tryz.prog 259 #[.string (strOf l), .int .u8 (c:Int)] w fun e w'=>e= .returned (.int .i64 (if c∈l then(idx l c:Int) else -1))∧w=w':=by
 refine Zs 8 Tryz.func259 ?_;refine ao ?_;refine Za ?_;refine bD 0 1 4 (aG ?_);refine Zm ?_;refine Zm ?_;refine Zv (aa.here rfl rfl rfl (ke l c hl hc _)) ?_;refine Za ?_;refine bD 0 1 4 (Zt (Cd.ret ?_));refine ab.aE rfl rfl (.inl rfl) ?_;exact⟨rfl,rfl⟩
theorem xT (l:List Nat)(c:Nat)(w:World)(hl:∀x∈l,x<256)(hc:c<256):
  Calls Tryz.prog 257 #[.string (strOf l), .string (strOf [c])] w fun e w'=>e= .returned (.int .i64 (if c∈l then(idx l c:Int) else -1))∧w=w':=by
 have h1:∀x∈ [c],x<256:=fun x hx=>by simp at hx;omega
 refine Zs 143 Tryz.func257 ?_;refine ao ?_;refine Za ?_;refine bD 0 1 4 (aG ?_);refine Zm ?_;refine Zv (aa.dh rfl rfl Tryz.underlying9) ?_;refine Za ?_;refine aV 0 1 4 5 (aJ (Cd.block (ao ?_)));refine Zm ?_;refine Zv (aa.aB rfl rfl rfl) ?_;refine Zm ?_;refine ah.start ?_;refine bM (fun hcx=>aa.move rfl rfl) ?_;refine ah.next rfl rfl rfl rfl rfl rfl rfl (fun hcx=>aa.move rfl rfl) ?_;refine ah.next rfl rfl rfl rfl rfl rfl rfl (fun hcx=>aa.cF (a:=[c]) (b:=l) rfl rfl rfl h1 hl) ?_;refine ah.or rfl rfl rfl rfl rfl rfl rfl ?_;refine Za ?_;refine aU 0 1 4 5 16 (Zt ?_);refine Cd.cond rfl (fun h=> ?_) (fun h=> ?_)
 ·have:l=[c]:=(show [c]=l by simpa using h).symm
  subst this;refine ao ?_;refine Za ?_;refine aU 0 1 4 5 16 (Zt (Cd.ret (ab.ak (ab.af ?_))));refine ab.aE rfl rfl (.inl rfl) ?_;exact⟨by simp[idx],rfl⟩
 ·skip
  refine ao ?_;refine Zm ?_;refine Zv (aa.aB rfl rfl rfl) ?_;refine Za ?_;refine bj 0 1 4 5 16 24 (Zt ?_);refine Cd.aX rfl rfl ?_;refine ao ?_;refine Zm ?_;refine Zm ?_;refine Zv (aa.cQ (l:=[c]) (j:=0) (c:=c) rfl rfl rfl Tryz.underlying9 rfl rfl hc) ?_;refine Zc (Ze Tryz.func259) (qu l c _ hl hc) ?_;rintro e w2 ⟨rfl,rfl⟩;refine⟨_,rfl,?_⟩;refine Za ?_;refine bj 0 1 4 5 16 24 (Zt (Cd.ret (ab.ak (ab.af ?_))));refine ab.aE rfl rfl (.inl rfl) ?_;exact⟨rfl,rfl⟩
def jo (l:List Nat)(c:Nat):List Nat:=if c∈l then l.take (idx l c) else l
def j7 (l:List Nat)(c:Nat):List Nat:=if c∈l then l.drop (idx l c+1) else []
theorem Aa (l:List Nat)(c:Nat)(w:World)(hl:∀x∈l,x<256)(hc:c<256)(hn:l.length≤9223372036854775807):
  Calls Tryz.prog 253 #[.string (strOf l), .string (strOf [c])] w fun e w'=>e= .returned (.tuple #[.string (strOf (jo l c)), .string (strOf (j7 l c)), .bool (decide (c∈l))])∧Grow w w':=by
 have ae:=Below.refl w.heap.size w;have hc1: [c].length=1:=rfl;refine Zs 23 Tryz.func253 ?_;refine ao ?_;refine Za ?_;refine Za ?_;refine Za ?_;refine aU 0 1 4 5 6 (aJ (ao ?_));refine Zm ?_;refine Zm ?_;refine Zc (Ze Tryz.func257) (xT l c _ hl hc) ?_;rintro e w2 ⟨rfl,rfl⟩;refine⟨_,rfl,?_⟩
 by_cases hm:c∈l
 ·obtain⟨h1,-,-⟩:=nw l c hm
  rw[if_pos hm];unfold jo j7;rw[if_pos hm,if_pos hm,decide_eq_true hm];refine Za ?_;refine bj 0 1 4 5 6 7 (aG ?_);refine Zm ?_;refine Zv (aa.geq rfl rfl rfl) ?_;refine bb 0 1 4 5 6 7 12 (Zt ?_);refine Cd.aX rfl (decide_eq_true (by omega)) ?_;refine Cd.seq ?_;refine Cd.dV (F':=[(0,_),(1,_),(7,_),(12,_)]) ⟨rfl,rfl,rfl,rfl,trivial⟩ ?_;refine Cd.draw 12 (by kernel_rfl) [] (.inl rfl) rfl Grow Grow.refl (fun _ _ _=>Grow.trans) ?_;intro w1 hw1 zw1;replace ae:=ae.step hw1;have zbel:=ae.size;refine cn ?_;refine cn ?_;refine Zd (fun w hG=>aa.sliceTo (j:=idx l c) rfl rfl rfl Tryz.underlying9 rfl (by omega)) ?_;refine cn ?_;refine cn ?_;refine cn ?_;refine Zd (fun w hG=>aa.dh rfl rfl Tryz.underlying9) ?_;refine Zd (fun w hG=>aa.jH rfl rfl rfl (by omega) (by omega)) ?_;refine Zd (fun w hG=>aa.sliceFrom (j:=idx l c+1) rfl rfl rfl Tryz.underlying9 rfl (by omega)) ?_;refine Zd (fun w hG=>aa.assign rfl rfl) ?_;refine Zd (fun w hG=>aa.assign rfl rfl) ?_;refine Zd (fun w hG=>aa.assign rfl rfl) ?_;refine Dr.nil ?_;refine ba.done (F':=[(0,_),(1,_),(4,_),(5,_),(6,_),(7,_),(12,_)]) rfl ⟨rfl,rfl,rfl,rfl,rfl,rfl,rfl,trivial⟩ ?_;intro w2 hw2 fw2;replace ae:=ae.step hw2;refine bb 0 1 4 5 6 7 12 (Zt (Cd.ret (ab.af ?_)));refine ab.lS rfl rfl rfl rfl (.inl rfl) ?_;exact⟨rfl,ae⟩
 ·rw[if_neg hm]
  unfold jo j7;rw[if_neg hm,if_neg hm,decide_eq_false hm];refine Za ?_;refine bj 0 1 4 5 6 7 (aG ?_);refine Zm ?_;refine Zv (aa.geq rfl rfl rfl) ?_;refine bb 0 1 4 5 6 7 12 (Zt ?_);refine Cd.aN rfl rfl ?_;refine Cd.skip (aG ?_);refine Zm ?_;refine Za ?_;refine Za ?_;refine Za ?_;refine bb 0 1 4 5 6 7 12 (Zt (Cd.ret ?_));refine ab.lS rfl rfl rfl rfl (.inl rfl) ?_;exact⟨rfl,ae⟩
theorem BL (l:List Nat)(c:Nat)(w:World)(hl:∀x∈l,x<256)(hc:c<256)(hn:l.length≤9223372036854775807):
  Calls Tryz.prog 246 #[.string (strOf l), .string (strOf [c])] w fun e w'=>e= .returned (.tuple #[.string (strOf (jo l c)), .string (strOf (j7 l c)), .bool (decide (c∈l))])∧Grow w w':=by
 have ae:=Below.refl w.heap.size w;refine Zs 13 Tryz.func246 ?_;refine ao ?_;refine Za ?_;refine Za ?_;refine Za ?_;refine aU 0 1 4 5 6 (aG ?_);refine Zm ?_;refine Zm ?_;refine Zc (Ze Tryz.func253) (Aa l c _ hl hc hn) ?_;rintro e w2 ⟨rfl,hb2⟩;refine⟨_,rfl,?_⟩;replace ae:=ae.step hb2;refine Zv (aa.extract rfl rfl rfl) ?_;refine Zv (aa.extract rfl rfl rfl) ?_;refine Zv (aa.extract rfl rfl rfl) ?_;refine Za ?_;refine Za ?_;refine Za ?_;refine aU 0 1 4 5 6 (Zt (Cd.ret ?_));refine ab.lS rfl rfl rfl rfl (.inl rfl) ?_;exact⟨rfl,ae⟩
theorem qL (l:List Nat)(c:Nat)(w:World)(hl:∀x∈l,x<256)(hc:c<256):
  Calls Tryz.prog 241 #[.string (strOf l), .string (strOf [c])] w fun e w'=>e= .returned (.bool (decide (l.head? =some c)))∧w=w':=by
 have h1:∀x∈ [c],x<256:=fun x hx=>by simp at hx;omega
 have h2:∀x∈l.take 1,x<256:=fun x hx=>hl x (List.mem_of_mem_take hx);refine Zs 18 Tryz.func241 ?_;refine ao ?_;refine Za ?_;refine bD 0 1 4 (aG ?_);refine Zm ?_;refine Zv (aa.dh rfl rfl Tryz.underlying9) ?_;refine Zm ?_;refine Zv (aa.dh rfl rfl Tryz.underlying9) ?_;refine Zv (aa.geq rfl rfl rfl) ?_;refine Zm ?_;refine ah.start ?_;refine bM (fun hcx=>aa.move rfl rfl) ?_;refine ah.next rfl rfl rfl rfl rfl rfl rfl (fun hcx=>aa.move rfl rfl) ?_;refine ah.next rfl rfl rfl rfl rfl rfl rfl (fun hcx=>aa.dh rfl rfl Tryz.underlying9) ?_;refine ah.next rfl rfl rfl rfl rfl rfl rfl (fun hcx=>aa.sliceTo (j:=1) rfl rfl rfl Tryz.underlying9 rfl (by simp at hcx;omega)) ?_;refine ah.next rfl rfl rfl rfl rfl rfl rfl (fun hcx=>aa.move rfl rfl) ?_;refine ah.next rfl rfl rfl rfl rfl rfl rfl (fun hcx=>aa.cF (a:=l.take 1) (b:=[c]) rfl rfl rfl h2 h1) ?_;refine ah.and rfl rfl rfl rfl rfl rfl rfl ?_;refine Za ?_;refine bD 0 1 4 (Zt (Cd.ret ?_));refine ab.aE rfl rfl (.inl rfl) ?_;refine⟨bw (aL ?_),rfl⟩
 cases l with
 |nil=>simp
 |cons x l=>rw[Bool.eq_iff_iff];simp;omega
theorem qa (l:List Nat)(c:Nat)(w:World)(hl:∀x∈l,x<256)(hc:c<256):
  Calls Tryz.prog 252 #[.string (strOf l), .string (strOf [c])] w fun e w'=>e= .returned (.tuple #[.string (strOf (if l.head? =some c then l.drop 1 else l)), .bool (decide (l.head? =some c))])∧w=w':=by
 refine Zs 15 Tryz.func252 ?_;refine ao ?_;refine Za ?_;refine Za ?_;refine aV 0 1 4 5 (aJ (ao ?_));refine Zm ?_;refine Zm ?_;refine Zc (Ze Tryz.func241) (qL l c _ hl hc) ?_;rintro e w2 ⟨rfl,rfl⟩;refine⟨_,rfl,?_⟩
 by_cases hm:l.head? =some c
 ·rw[if_pos hm,decide_eq_true hm]
  have h1:1≤l.length:=by cases l with
   |nil=>simp at hm
   |cons x l=>simp
  refine Zv (aa.not rfl rfl) ?_;refine aU 0 1 4 5 9 (Zt ?_);refine Cd.aN rfl rfl ?_;refine Cd.skip (aG ?_);refine Zm ?_;refine Zm ?_;refine Zv (aa.dh rfl rfl Tryz.underlying9) ?_;refine Zv (aa.sliceFrom (j:=1) rfl rfl rfl Tryz.underlying9 rfl h1) ?_;refine Za ?_;refine Za ?_;refine aU 0 1 4 5 9 (Zt (Cd.ret ?_));refine ab.bf rfl rfl rfl (.inl rfl) ?_;exact⟨rfl,rfl⟩
 ·rw[if_neg hm,decide_eq_false hm]
  refine Zv (aa.not rfl rfl) ?_;refine aU 0 1 4 5 9 (Zt ?_);refine Cd.aX rfl rfl ?_;refine ao ?_;refine Zm ?_;refine Za ?_;refine Za ?_;refine aU 0 1 4 5 9 (Zt (Cd.ret (ab.af ?_)));refine ab.bf rfl rfl rfl (.inl rfl) ?_;exact⟨rfl,rfl⟩
theorem qt (l:List Nat)(c:Nat)(w:World)(hl:∀x∈l,x<256)(hc:c<256):
  Calls Tryz.prog 245 #[.string (strOf l), .string (strOf [c])] w fun e w'=>e= .returned (.tuple #[.string (strOf (if l.head? =some c then l.drop 1 else l)), .bool (decide (l.head? =some c))])∧w=w':=by
 refine Zs 11 Tryz.func245 ?_;refine ao ?_;refine Za ?_;refine Za ?_;refine aV 0 1 4 5 (aG ?_);refine Zm ?_;refine Zm ?_;refine Zc (Ze Tryz.func252) (qa l c _ hl hc) ?_;rintro e w2 ⟨rfl,rfl⟩;refine⟨_,rfl,?_⟩;refine Zv (aa.extract rfl rfl rfl) ?_;refine Zv (aa.extract rfl rfl rfl) ?_;refine Za ?_;refine Za ?_;refine aV 0 1 4 5 (Zt (Cd.ret ?_));refine ab.bf rfl rfl rfl (.inl rfl) ?_;exact⟨rfl,rfl⟩
theorem yW (c:Nat)(w:World):Calls Tryz.prog 247 #[.int .u8 (c:Int)] w fun e w'=>e= .returned (.bool (decide (48≤c∧c≤57)))∧w=w':=by
 refine Zs 9 Tryz.func247 ?_;refine ao ?_;refine Za ?_;refine eh 0 2 (aG ?_);refine Zm ?_;refine Zv (aa.geq rfl rfl rfl) ?_;refine Zm ?_;refine ah.start ?_;refine bM (fun hcx=>aa.move rfl rfl) ?_;refine ah.next rfl rfl rfl rfl rfl rfl rfl (fun hcx=>aa.leq rfl rfl rfl) ?_;refine ah.and rfl rfl rfl rfl rfl rfl rfl ?_;refine Za ?_;refine eh 0 2 (Zt (Cd.ret ?_));refine ab.aE rfl rfl (.inl rfl) ?_;refine⟨bw (aL ?_),rfl⟩;rw[Bool.eq_iff_iff];simp;omega
def bt (a:Int):Prop:= -9223372036854775808≤a∧a≤9223372036854775807
def fits (a:Int):Bool:=decide (-9223372036854775808≤a)&&decide (a≤9223372036854775807)
def br (a:Int):Int:=if fits a=true then a else 0
theorem oF {a:Int}(h0: -9223372036854775808≤a)(h1:a≤9223372036854775807):fits a=true:=by unfold fits;rw[decide_eq_true h0,decide_eq_true h1];rfl
theorem kL {a:Int}(h:a< -9223372036854775808∨9223372036854775807<a):fits a=false:=by
 unfold fits;rcases h with h|h
 ·rw[decide_eq_false (by omega)];rfl
 ·rw[decide_eq_false (show¬a≤9223372036854775807 by omega)];simp
theorem vQ (a:Int): -9223372036854775808≤br a∧br a≤9223372036854775807:=by
 unfold br;split
 ·rename_i h
  unfold fits at h;simp only[Bool.and_eq_true,decide_eq_true_eq] at h;exact h
 ·omega
theorem aa.nilCheck {P:Program}{E:Operand→Option Value}{o:Oper}{w:World}{x:Operand}{ad:Addr}(ho:o.op= .nilCheck x)(hx:E x=some (.pointer (some ad))):aa P E o w (.pointer (some ad)) w:=fun ρ h=>by
 unfold execOp;simp only[ho];rw[h _ _ hx];rfl
theorem aa.CZ {P:Program}{E:Operand→Option Value}{o:Oper}{w w':World}{x:Operand}{T T':TypeId}{u v:Value}(ho:o.op= .convert T T' x)(hx:E x=some u)(hr:(convert T T' u).run P w= .ok v w'):aa P E o w v w':=fun ρ h=>by
 unfold execOp;simp only[ho];rw[h _ _ hx];simp only[Sem.run_bind,hr,Result.andThen_ok];rfl
structure Wt (B:Nat)(w w':World):Prop where
 below:Below (min B w.heap.size) w w'
 ew:∀k t cs,aK w k t cs→t≠232→t≠5→aK w' k t cs
section
variable {B:Nat} {w w' w'':World}
theorem Wt.refl (B:Nat)(w:World):Wt B w w:=⟨Below.refl _ _,fun _ _ _ h _ _=>h⟩
theorem Wt.trans (h:Wt B w w')(k:Wt B w' w''):Wt B w w'':=⟨h.below.trans (k.below.mono (by have:=h.below.size;omega)),fun i t cs hb h1 h2=>k.ew i t cs (h.ew i t cs hb h1 h2) h1 h2⟩
theorem Wt.grow (h:Below w.heap.size w w'):Wt B w w':=⟨h.mono (Nat.min_le_right _ _),fun _ _ _ hb _ _=>hb.step h⟩
theorem Wt.step (h:Wt B w w')(k:Below w'.heap.size w' w''):Wt B w w'':=h.trans (Wt.grow k)
theorem Wt.wt (h:Wt B w w')(k:Wt B w' w''):Wt B w w'':=h.trans k
theorem Wt.to (h:Wt B w w')(hB:B≤w.heap.size):Below B w w':=by have:=h.below;rwa [Nat.min_eq_left hB] at this
theorem Wt.BM {g:Nat}{T:TypeId}{cur cs:Array Value}(h:Wt B w w')(k:aK w' g T cur)(p:lD w' w'' g T cs)(hB:B≤g)(hT:T=232∨T=5):Wt B w w'':=
 h.trans ⟨(p.below hB k.lt).mono (Nat.min_le_left _ _),fun i t cs hb h1 h2=>hb.put p (hb.ne k (by rcases hT with rfl|rfl<;>assumption))⟩
theorem aK.wt {k:Nat}{t:TypeId}{cs:Array Value}(h:aK w k t cs)(f:Wt B w w')(h1:t≠232:=by decide)(h2:t≠5:=by decide):aK w' k t cs:=f.ew k t cs h h1 h2
theorem App.wt {n:Nat}{v:Value}{xs:List Value}(h:App w w' B v)(o:Own w B 5 1 v n xs):Wt B w w':=
 ⟨h.below.mono (Nat.min_le_left _ _),fun i t cs hb _ h2=>hb.grown h.grown (fun e=>fy o.row hb (fun e=>h2 e.symm) e.symm)⟩
end
structure Bw (w:World)(B g:Nat)(bs:List Nat):Prop where
 ge:B≤g
 bytes:∀d∈bs,d<256
 cell:∃p v,(p= .pointer none∨p= .pointer (some ⟨g,0,none⟩))∧aK w g 232 #[p,v]∧Own w B 5 1 v bs.length (Bt bs)∧(bs=[]→v= .slice none 0 0)
theorem Bw.size {w:World}{B g:Nat}{bs:List Nat}(h:Bw w B g bs):B≤w.heap.size:=by
 obtain⟨p,v,-,hb,-⟩:=h.cell;have:=hb.lt;have:=h.ge;omega
theorem Bw.step {w w':World}{B g:Nat}{bs:List Nat}(h:Bw w B g bs)(k:Below w.heap.size w w'):Bw w' B g bs:=by
 obtain⟨p,v,hp,hb,ho,hz⟩:=h.cell;exact⟨h.ge,h.bytes,p,v,hp,hb.step k,ho.step k,hz⟩
theorem qM (x:Value)(w:World):(callFunc 235 [x].toArray).run Tryz.prog w= .ok (.value x) w:=by
 rw[run_callFunc_extern Tryz.func235 (by kernel_rfl) (by kernel_rfl) (by kernel_rfl) (e:=Extern.AbiNoEscape.same) (by kernel_rfl),Lib.run_noEscape];rfl
theorem qK (B g:Nat)(bs:List Nat)(w:World)(h:Bw w B g bs):Calls Tryz.prog 213 #[.pointer (some ⟨g,0,none⟩)] w fun e w'=>e= .returned (.tuple #[])∧Wt B w w'∧Bw w' B g bs:=by
 obtain⟨p,v,hp,k0,own,hz⟩:=h.cell;have k00:=k0
 have hsh:∀W p,aK W g 232 #[p,v]→W.shape? g=some (232,2):=fun W p hb=>by
  have hb:W.heap[g]? =some (.cells #[p,v] 232 (0,0)):=hb;simp[World.shape?,hb]
 obtain⟨j,hj,hjs⟩:=bL (P:=Tryz.prog) (t:=230) (n:=2) (by kernel_rfl);rcases hp with rfl|rfl
 ·have hto:=Lib.run_to_unsafe (P:=Tryz.prog) w (src:=228) (dst:=279) (a:=⟨g,0,none⟩) Tryz.underlying228 Tryz.underlying279 hj (by omega) (hsh w _ k0) (show(0:Nat)<2 by decide)
  have hfrom:=Lib.run_from_unsafe (P:=Tryz.prog) w (dst:=228) (src:=279) (a:=⟨g,0,none⟩) Tryz.underlying279 Tryz.underlying228 hj (hsh w _ k0) (by kernel_rfl);refine Zs 20 Tryz.func213 ?_;refine ao ?_;refine Zm ?_;refine Zv (aa.nilCheck rfl rfl) ?_;refine Zf 0 Tryz.underlying230 ?_;refine Zv (aa.ag rfl rfl Tryz.underlying228 rfl k0 rfl) ?_;refine Zv (aa.Dj rfl rfl rfl Tryz.underlying228) ?_;refine eh 0 6 (Zt ?_);refine Cd.aX rfl rfl ?_;refine Zr ?_;refine Zm ?_;refine Zm ?_;refine Zv (aa.CZ rfl rfl hto) ?_;refine Zv (aa.here rfl rfl rfl (qM _ _)) ?_;refine Zv (aa.CZ rfl rfl hfrom) ?_;refine Zv (aa.nilCheck rfl rfl) ?_;refine Zf 0 Tryz.underlying230 ?_;refine Zq k0 ?_;intro w1 pw1;replace k0:=pw1.av;refine eh 0 6 ?_;refine ab.fP rfl (.inr rfl) ?_;exact⟨rfl,(Wt.refl B w).BM k00 pw1 h.ge (.inl rfl),h.ge,h.bytes,_,v, .inr rfl,k0,own.put (B':=B) k00 pw1 h.ge,hz⟩
 ·refine Calls.start 20 Tryz.func213 rfl rfl rfl ?_
  refine ao ?_;refine Zm ?_;refine Zv (aa.nilCheck rfl rfl) ?_;refine Zf 0 Tryz.underlying230 ?_;refine Zv (aa.ag rfl rfl Tryz.underlying228 rfl k0 rfl) ?_;refine Zv (aa.Dj rfl rfl rfl Tryz.underlying228) ?_;refine eh 0 6 (Zt ?_);refine Cd.aN rfl rfl ?_;refine ao ?_;refine Zm ?_;refine Zv (aa.nilCheck rfl rfl) ?_;refine Zf 0 Tryz.underlying230 ?_;refine Zv (aa.ag rfl rfl Tryz.underlying228 rfl k0 rfl) ?_;refine Zm ?_;refine Zv (aa.bin rfl rfl rfl rfl (Lib.run_neq_ptr_same w _ Tryz.underlying228 hj)) ?_;refine bD 0 6 19 (Zt ?_);refine Cd.aN rfl rfl ?_;refine Cd.skip ?_;refine ab.fP rfl (.inr rfl) ?_;exact⟨rfl,Wt.refl B w,h⟩
theorem tk {s:List Nat}(hs:∀d∈s,d<256):Lib.strCells (strOf s)=Bt s:=by
 unfold Lib.strCells Bt;rw[dM,List.map_map];refine List.map_congr_left fun d hd=> ?_;show Value.int .u8 ((UInt8.ofNat d).toNat:Int)= .int .u8 (d:Int);rw[ofNat_toNat (hs d hd)]
theorem Seq.B7 {P:Program}{ops:Array Oper}{Q:Exit→Act→World→Prop}{rest:List Oper}{o:Oper}{n d:Nat}{F:List (Nat × Value)}{w:World}{v:Value}{x y:Operand}{t u e B:Nat}{k:Nat}{xs:List Value}{s:List Nat}(ho:o.op= .call {callee:= .builtin .append,args:= #[x,y],argTypes:= #[t,u]}) (hx:gg F x=some v) (hy:gg F y=some (.string (strOf s))) (ht:P.underlying t=some (.slice e)) (hu:P.underlying u=some .string) (hs:dO P e 1=true) (hz:cf P e=some (some (.int .u8 0))) (hby:(P.info? e).map (·.bytes)=some 1)
  (hown:Own w B e 1 v k xs) (hsb:∀d∈s,d<256) (hB:B≤w.heap.size) (h63:k+s.length≤1000000000) (hg:o.guard=none) (hd:o.dst=some d) (hn:Nat.blt d n=true)
  (h:∀v' w',Own w' B e 1 v' (k+s.length) (xs++Bt s)→App w w' B v→(v'= .slice none 0 0↔v= .slice none 0 0∧s.length=0)→Seq P ops Q rest n ((d,v')::F) w'):Seq P ops Q (o::rest) n F w:=by
 obtain⟨i,hi,hisz⟩:=bL hs;have hz':i.zero=some (.int .u8 0):=by unfold cf at hz;rw[hi] at hz;injection hz
 have hb':i.bytes=1:=by rw[hi] at hby;injection hby
 obtain⟨v',w',hrun,h2,h3,h4⟩:=Lib.run_append_own_string (P:=P) w B t u o.type e i ht hu hi hz' hisz hb' v k xs hown.row (strOf s) (by rw[cd];simp only[maxLen];omega) (by rw[cd];omega) hB;rw[cd] at h2 h4;rw[tk hsb] at h2;refine Seq.val (v:=v') (w':=w') (fun ρ hρ=> ?_) hg hd hn (h v' w' ⟨h2⟩ ⟨?_,h3⟩ h4)
 ·unfold execOp
  simp only[ho,resolve,invoke,builtin,Sem.run_bind,Sem.run_pure,Result.andThen_ok,List.map_toArray,List.map_cons,List.map_nil,hρ _ _ hx,hρ _ _ hy,hrun]
 ·refine⟨h3.os,h3.tape,h3.output,h3.size,fun j hj=>h3.block j (by omega) fun e'=> ?_⟩
  rcases hown.row.2 with ⟨rfl,_⟩|⟨g,cap,cur,rfl,hBg,_⟩
  ·cases e'
  ·injection e' with e'
   have:j=g:=e';omega
def ij (B g:Nat)(bs:List Nat)(w:World)(e:Ending)(w':World):Prop:=(∃v,e= .returned v)∧Wt B w w'∧Bw w' B g bs
theorem bT (B g:Nat)(s bs:List Nat)(w:World)(h:Bw w B g bs)(hs:∀d∈s,d<256)(hl:bs.length+s.length≤1000000000):
  Calls Tryz.prog 174 #[.pointer (some ⟨g,0,none⟩), .string (strOf s)] w (ij B g (bs++s) w)∧∀u,CallsD Tryz.prog 174 #[.pointer (some ⟨g,0,none⟩), .string (strOf s)] u w fun e u' w'=>u'=u∧ij B g (bs++s) w e w':=by
 have wt:=Wt.refl B w;have wr:=h;refine(fun key=>⟨Calls.start 19 Tryz.func174 rfl rfl rfl key,fun u=>CallsD.start 19 Tryz.func174 rfl rfl rfl key⟩) ?_;refine ao ?_;refine Za ?_;refine Za ?_;refine aV 0 1 4 5 (aG ?_);refine Zm ?_;refine Zc (Ze Tryz.func213) (qK B g bs _ wr) ?_;clear wr;rintro e w1 ⟨rfl,fw1,wr⟩;refine⟨_,rfl,?_⟩;replace wt:=wt.wt fw1;obtain⟨p,v,hp,k0,own,hz⟩:=wr.cell;refine aV 0 1 4 5 (aG ?_);refine Zm ?_;refine Zm ?_;refine Zv (aa.nilCheck rfl rfl) ?_;refine Zf 1 Tryz.underlying230 ?_;refine Zv (aa.ag rfl rfl Tryz.underlying64 rfl k0 rfl) ?_;refine Zm ?_;refine Seq.B7 rfl rfl rfl Tryz.underlying64 Tryz.underlying9 (by kernel_rfl) bh (by kernel_rfl) own hs wr.size hl rfl rfl rfl ?_;intro v2 w2 own2 ha2 hv2;have k1:=k0.grown ha2.grown (fun e=>fy own.row k0 (by decide) e.symm);have wt2:=wt.trans (ha2.wt own);clear k0 wt;have k0:=k1;have wt:=wt2;obtain⟨A2,c2,rfl,-⟩:=own2.reads;refine Zv (aa.nilCheck rfl rfl) ?_;refine Zf 1 Tryz.underlying230 ?_;refine Zq k0 ?_;intro w2 pw2;replace k0:=pw2.av;refine aV 0 1 4 5 (aG ?_);refine Zm ?_;refine Zv (aa.dh rfl rfl Tryz.underlying9) ?_;refine Za ?_;refine Za ?_;refine aV 0 1 4 5 (Zt (Cd.ret ?_));refine ab.bf rfl rfl rfl (.inl rfl) ?_;refine⟨⟨_,rfl⟩,wt.BM k1 pw2 h.ge (.inl rfl),h.ge,fun d hd=> ?_,p,_,hp,k0,?_,fun hnil=> ?_⟩
 ·rcases List.mem_append.1 hd with hd|hd
  ·exact h.bytes d hd
  ·exact hs d hd
 ·rw[jf,List.length_append]
  exact own2.put (B':=B) k1 pw2 h.ge
 ·rw[hv2]
  have:=congrArg List.length hnil;simp at this;exact⟨hz this.1,by rw[this.2];rfl⟩
theorem Ap (B g:Nat)(bs:List Nat)(w:World)(h:Bw w B g bs):Calls Tryz.prog 172 #[.pointer (some ⟨g,0,none⟩)] w fun e w'=>e= .returned (.int .i64 (bs.length:Int))∧Grow w w':=by
 obtain⟨p,v,hp,k0,own,hz⟩:=h.cell;have ae:=Below.refl w.heap.size w;obtain⟨A,c,rfl,-⟩:=own.reads;refine Zs 8 Tryz.func172 ?_;refine ao ?_;refine Za ?_;refine eh 0 2 (aG ?_);refine Zm ?_;refine Zv (aa.nilCheck rfl rfl) ?_;refine Zf 1 Tryz.underlying230 ?_;refine Zv (aa.ag rfl rfl Tryz.underlying64 rfl k0 rfl) ?_;refine Zv (aa.len rfl rfl Tryz.underlying64) ?_;refine Za ?_;refine eh 0 2 (Zt (Cd.ret ?_));refine ab.aE rfl rfl (.inl rfl) ?_;exact⟨rfl,ae⟩
theorem Own.D6 {w:World}{B n:Nat}{e:TypeId}{v:Value}{xs:List Value}(h:Own w B e 1 v n xs)(h0:0<n):∃g cap cur,v= .slice (some ⟨g,0,none⟩) n cap∧B≤g∧aK w g e cur∧n≤cap∧cur.size=cap∧∀(j:Nat) (x:Value),xs[j]? =some x→cur[j]? =some x:=by
 obtain⟨hl,⟨_,h1⟩|⟨g,cap,cur,h',h1,h2,h3,h4,h5,h6⟩⟩:=h.row
 ·omega
 ·refine⟨g,cap,cur,h',h1,h2,h3,by omega,fun j x hx=> ?_⟩
  rw[←h6] at hx
  have:cur.toList[j]? =some x:=by
   rw[List.getElem?_take] at hx;split at hx
   ·exact hx
   ·cases hx
  simpa using this
theorem ub (B g:Nat)(bs:List Nat)(w:World)(h:Bw w B g bs)(hl:bs.length≤1000000000):Calls Tryz.prog 173 #[.pointer (some ⟨g,0,none⟩)] w fun e w'=>e= .returned (.string (strOf bs))∧Below B w w':=by
 obtain⟨p,v,hp,k0,own,hz⟩:=h.cell;have ae:=Below.refl w.heap.size w;have hBw:=h.size;rcases Nat.eq_zero_or_pos bs.length with h0|h0
 ·have hb:bs=[]:=List.eq_nil_of_length_eq_zero h0
  have hv:=hz hb;subst hb hv;refine Zs 14 Tryz.func173 ?_;refine ao ?_;refine Za ?_;refine eh 0 2 (aJ ?_);refine Cd.draw 10 (by kernel_rfl) [] (.inl rfl) rfl Grow Grow.refl (fun _ _ _=>Grow.trans) ?_;intro w1 hw1 zw1;replace ae:=ae.step hw1;replace k0:=k0.step hw1;have zbel:=ae.size;have zlt:=k0.lt;refine cn ?_;refine Zd (fun w hG=>aa.nilCheck rfl rfl) ?_;refine Zd (fun w hG=>aa.an 1 rfl rfl Tryz.underlying230 rfl (by kernel_rfl)) ?_;refine Zd (fun w hG=>aa.ag rfl rfl Tryz.underlying64 rfl (k0.step hG) rfl) ?_;refine Zd (fun w hG=>aa.iy (v:= .pointer none) rfl rfl (vs:=[.slice none 0 0]) rfl (fun cs=>by simp[builtin,Lib.run_unsafeSliceData_nil])) ?_;refine cn ?_;refine Zd (fun w hG=>aa.nilCheck rfl rfl) ?_;refine Zd (fun w hG=>aa.an 1 rfl rfl Tryz.underlying230 rfl (by kernel_rfl)) ?_;refine Zd (fun w hG=>aa.ag rfl rfl Tryz.underlying64 rfl (k0.step hG) rfl) ?_;refine Zd (fun w hG=>aa.len rfl rfl Tryz.underlying64) ?_;refine Dr.nil ?_;refine ba.done (F':=[(0,_),(2,_),(7,_),(12,_)]) rfl ⟨rfl,rfl,rfl,rfl,trivial⟩ ?_;intro w2 hw2 fw2;replace ae:=ae.step hw2;replace k0:=k0.step hw2;refine Zv (aa.iy (v:= .string (strOf [])) rfl rfl (vs:=[.pointer none, .int .i64 ((0:Nat):Int)]) rfl (fun cs=>by simp[builtin,Lib.run_unsafeString_none];exact⟨rfl,rfl⟩)) ?_;refine Za ?_;refine eh 0 2 (Zt (Cd.ret ?_));refine ab.aE rfl rfl (.inl rfl) ?_;exact⟨rfl,ae.mono hBw⟩
 ·obtain⟨gb,cap,cur,rfl,hgb,kb,hcap,hsz,hcur⟩:=own.D6 h0
  refine Zs 14 Tryz.func173 ?_;refine ao ?_;refine Za ?_;refine eh 0 2 (aJ ?_);refine Cd.draw 10 (by kernel_rfl) [] (.inl rfl) rfl Grow Grow.refl (fun _ _ _=>Grow.trans) ?_;intro w1 hw1 zw1;replace ae:=ae.step hw1;replace k0:=k0.step hw1;replace kb:=kb.step hw1;have zbel:=ae.size;have zlt:=k0.lt;refine cn ?_;refine Zd (fun w hG=>aa.nilCheck rfl rfl) ?_;refine Zd (fun w hG=>aa.an 1 rfl rfl Tryz.underlying230 rfl (by kernel_rfl)) ?_;refine Zd (fun w hG=>aa.ag rfl rfl Tryz.underlying64 rfl (k0.step hG) rfl) ?_;refine Zd (fun w hG=>aa.iy (v:= .pointer (some ⟨gb,0,none⟩)) rfl rfl (vs:=[.slice (some ⟨gb,0,none⟩) bs.length cap]) rfl (fun cs=>by have:=Lib.run_unsafeSliceData_row (P:=Tryz.prog) w #[64] 263 ⟨gb,0,none⟩ bs.length cap (by omega);simp[builtin,this])) ?_;refine cn ?_;refine Zd (fun w hG=>aa.nilCheck rfl rfl) ?_;refine Zd (fun w hG=>aa.an 1 rfl rfl Tryz.underlying230 rfl (by kernel_rfl)) ?_;refine Zd (fun w hG=>aa.ag rfl rfl Tryz.underlying64 rfl (k0.step hG) rfl) ?_;refine Zd (fun w hG=>aa.len rfl rfl Tryz.underlying64) ?_;refine Dr.nil ?_;refine ba.done (F':=[(0,_),(2,_),(7,_),(12,_)]) rfl ⟨rfl,rfl,rfl,rfl,trivial⟩ ?_;intro w2 hw2 fw2;replace ae:=ae.step hw2;replace k0:=k0.step hw2;replace kb:=kb.step hw2
  have hsh:∀W,aK W gb 5 cur→W.shape? gb=some (5,cap):=fun W hb=>by
   have hb:W.heap[gb]? =some (.cells cur 5 (0,0)):=hb;simp[World.shape?,hb,hsz]
  have hcell:∀W,aK W gb 5 cur→∀j x,(bs.map UInt8.ofNat)[j]? =some x→W.cell? ((⟨gb,0,none⟩:Addr).add j)=some (.int .u8 x.toNat):=fun W hb j x hx=>by
   have hadd:(⟨gb,0,none⟩:Addr).add j=⟨gb,j,none⟩:=by unfold Addr.add;split<;>simp_all
   rw[hadd,hb.cell j];rw[List.getElem?_map] at hx
   cases hbj:bs[j]? with
   |none=>rw[hbj] at hx;cases hx
   |some d=>
    rw[hbj] at hx;injection hx with hx
    subst hx;rw[ofNat_toNat (h.bytes d (List.mem_of_getElem? hbj))];exact hcur j _ (by rw[mV,hbj];rfl)
  have hrun:=Lib.run_unsafeString_row (P:=Tryz.prog) _ 263 3 9 5 Tryz.underlying263 (by kernel_rfl) gb cap (hsh _ kb) (bs.map UInt8.ofNat) (by intro hn;rw[List.map_eq_nil_iff] at hn;rw[hn] at h0;simp at h0) (by simpa using hcap) (by simp;omega) (hcell _ kb);rw[List.length_map] at hrun;refine Zv (aa.iy (v:= .string (strOf bs)) rfl rfl (vs:=[.pointer (some ⟨gb,0,none⟩), .int .i64 ((bs.length:Nat):Int)]) rfl (fun cs=>by simp[builtin,hrun];exact⟨rfl,rfl⟩)) ?_;have bel2:=Lib.below_freeze (ae.mono hBw) (p:=⟨gb,0,none⟩) hgb bs.length;refine Za ?_;refine eh 0 2 (Zt (Cd.ret ?_));refine ab.aE rfl rfl (.inl rfl) ?_;exact⟨rfl,bel2⟩
theorem Ag (x y:Int)(hx0:0≤x)(hx:x<18446744073709551616)(hy0:0≤y)(hy:y<18446744073709551616):
  IntKind.u64.wrap (IntKind.u64.wrap (IntKind.u64.wrap (x/4294967296*(y/4294967296))+IntKind.u64.wrap (IntKind.u64.wrap (x/4294967296*bits BinOp.and IntKind.u64 y 4294967295)+
    IntKind.u64.wrap (bits BinOp.and IntKind.u64 x 4294967295*bits BinOp.and IntKind.u64 y 4294967295)/4294967296)/4294967296)+
   IntKind.u64.wrap (bits BinOp.and IntKind.u64 (IntKind.u64.wrap (IntKind.u64.wrap (x/4294967296*bits BinOp.and IntKind.u64 y 4294967295)+
    IntKind.u64.wrap (bits BinOp.and IntKind.u64 x 4294967295*bits BinOp.and IntKind.u64 y 4294967295)/4294967296)) 4294967295+
    IntKind.u64.wrap (bits BinOp.and IntKind.u64 x 4294967295*(y/4294967296)))/4294967296)=x*y/18446744073709551616:=by
 rw[and_low32 y hy0 hy,and_low32 x hx0 hx,and_low32 _ (by rw[wrap_u64];omega) (by rw[wrap_u64];omega)];simp only[wrap_u64];exact mul64_arith x y hx0 hx hy0 hy
def ET (x y:Int):Int:=x*y/18446744073709551616
def EM (x y:Int):Int:=x*y%18446744073709551616
set_option maxHeartbeats 400000 in
theorem yt (x y:Int)(w:World)(hx0:0≤x)(hx:x<18446744073709551616)(hy0:0≤y)(hy:y<18446744073709551616):
  Calls Tryz.prog 258 #[.int .u64 x, .int .u64 y] w fun e w'=>e= .returned (.tuple #[.int .u64 (ET x y), .int .u64 (EM x y)])∧w=w':=by
 go_enter Tryz.func258,Tryz.ntmps258
 go_wp2
 go_ret2
 exact⟨wu (int_eq (Ag x y hx0 hx hy0 hy)) (int_eq (wrap_u64 _)),rfl⟩
theorem qD:cf Tryz.prog 289=some (some (.agg #[.int .u64 0, .int .u64 0, .bool false])):=by kernel_rfl
theorem pn (a:Int)(w:World)(h:bt a):Calls Tryz.prog 216 #[.int .i64 a] w fun e w'=>e= .returned (.int .u64 (a.natAbs:Int))∧w=w':=by
 obtain⟨h0,h1⟩:=h;refine Zs 10 Tryz.func216 ?_;refine ao ?_;refine Za ?_;refine eh 0 2 (aJ (ao ?_));refine Zm ?_;refine Zv (aa.lss rfl rfl rfl) ?_;refine bD 0 2 4 (Zt ?_);refine Cd.au rfl (fun hc=> ?_) (fun hc=> ?_)
 ·skip
  refine ao ?_;refine Zm ?_;refine Zv (aa.fb rfl rfl Tryz.underlying2 Tryz.underlying94 (wrap_u64 a)) ?_;refine Zv (aa.neg rfl rfl (r:=(a.natAbs:Int)) (by rw[wrap_u64];omega)) ?_;refine Za ?_;refine bD 0 2 4 (Zt (Cd.ret (ab.af ?_)));refine ab.aE rfl rfl (.inl rfl) ?_;exact⟨rfl,rfl⟩
 ·skip
  refine Cd.skip (aG ?_);refine Zm ?_;refine Zv (aa.fb rfl rfl Tryz.underlying2 Tryz.underlying94 (r:=(a.natAbs:Int)) (by rw[wrap_u64];omega)) ?_;refine Za ?_;refine bD 0 2 4 (Zt (Cd.ret ?_));refine ab.aE rfl rfl (.inl rfl) ?_;exact⟨rfl,rfl⟩
theorem yG (x y:Nat)(w:World)(hx:x<18446744073709551616)(hy:y<18446744073709551616):
  Calls Tryz.prog 258 #[.int .u64 (x:Int), .int .u64 (y:Int)] w fun e w'=>e= .returned (.tuple #[.int .u64 ((x*y/18446744073709551616:Nat):Int), .int .u64 ((x*y%18446744073709551616:Nat):Int)])∧w=w':=
 (yt x y w (by omega) (by omega) (by omega) (by omega)).mono fun e w' ⟨h1,h2⟩=>⟨by rw[h1];unfold ET EM;rw[←Int.natCast_mul];rfl,h2⟩
def BC (m:Nat)(neg:Bool):Value:= .agg #[.int .u64 ((m/18446744073709551616:Nat):Int), .int .u64 ((m%18446744073709551616:Nat):Int), .bool neg]
theorem pg (a b:Int)(c:Bool)(w:World):(Instr.build 289 #[(0, .int .u64 a),(1, .int .u64 b),(2, .bool c)]).run Tryz.prog w= .ok (.agg #[.int .u64 a, .int .u64 b, .bool c]) w:=by
 have hu:=Tryz.underlying289
 go_simp
theorem tp (a b:Int)(w:World)(ha:bt a)(hb:bt b):
  Calls Tryz.prog 254 #[.int .i64 a, .int .i64 b] w fun e w'=>e= .returned (BC (a.natAbs*b.natAbs) (decide (decide (a<0)≠decide (b<0))))∧Grow w w':=by
 have ae:=Below.refl w.heap.size w;have ha2:a.natAbs<18446744073709551616:=by have:=ha.1;have:=ha.2;omega
 have hb2:b.natAbs<18446744073709551616:=by have:=hb.1;have:=hb.2;omega
 refine Zs 23 Tryz.func254 ?_;refine ao ?_;refine Zl qD ?_;intro g4 w1 n4;have e4:=Nat.le_trans ae.size n4.ge;replace ae:=ae.step n4.below;have k4:=n4.av;refine bD 0 1 4 (aG ?_);refine Zm ?_;refine Zc (Ze Tryz.func216) (pn _ _ ha) ?_;rintro e w3 ⟨rfl,rfl⟩;refine⟨_,rfl,?_⟩;refine Zm ?_;refine Zc (Ze Tryz.func216) (pn _ _ hb) ?_;rintro e w3 ⟨rfl,rfl⟩;refine⟨_,rfl,?_⟩;refine Zc (Ze Tryz.func258) (yG _ _ _ ha2 hb2) ?_;rintro e w3 ⟨rfl,rfl⟩;refine⟨_,rfl,?_⟩;refine Zm ?_;refine Zv (aa.extract rfl rfl rfl) ?_;refine Zv (aa.extract rfl rfl rfl) ?_;refine Za ?_;refine Za ?_;refine aU 0 1 4 5 6 (aG ?_);refine Zm ?_;refine Zm ?_;refine Zm ?_;refine Zv (aa.lss rfl rfl rfl) ?_;refine Zm ?_;refine Zv (aa.lss rfl rfl rfl) ?_;refine Zv (aa.iL rfl rfl rfl Tryz.underlying4) ?_;refine Zv (aa.build rfl rfl (pg _ _ _ _)) ?_;refine Zo 3 k4 ?_;intro w2 pw2;replace ae:=ae.put k4 pw2 e4;replace k4:=pw2.av;refine aU 0 1 4 5 6 (Zt (Cd.ret ?_));refine ab.cz rfl rfl k4 Tryz.underlying289 rfl (m:=3) (by kernel_rfl) rfl (.inl rfl) ?_;exact⟨rfl,ae⟩
def Ai (neg:Bool)(m:Nat):Int:=if neg then -(m:Int) else m
theorem wm (m:Nat)(neg:Bool)(w:World)(hm:m<340282366920938463463374607431768211456):
  Calls Tryz.prog 255 #[BC m neg] w fun e w'=>∃v,e= .returned (.tuple #[.int .i64 v, .bool (fits (Ai neg m))])∧(fits (Ai neg m)=true→v=Ai neg m)∧Grow w w':=by
 have ae:=Below.refl w.heap.size w;unfold BC;refine Zs 24 Tryz.func255 ?_;refine ao ?_;refine Seq.box rfl rfl rfl rfl rfl ?_;intro g1 w1 n1;have e1:=Nat.le_trans ae.size n1.ge;replace ae:=ae.step n1.below;have k1:=n1.av;refine Za ?_;refine Za ?_;refine aV 0 1 2 3 (aJ (Cd.block (ao ?_)));refine Zf 0 Tryz.underlying289 ?_;refine Zv (aa.ag rfl rfl Tryz.underlying94 rfl k1 rfl) ?_;refine Zv (aa.bN rfl rfl rfl) ?_;refine Za ?_;refine aU 0 1 2 3 4 (Zt ?_);refine Cd.au rfl (fun hc=> ?_) (fun hc=> ?_)
 ·have hf:fits (Ai neg m)=false:=by
   apply kL;unfold Ai
   cases neg<;>simp at hc⊢ <;>omega
  rw[hf];refine ao ?_;refine Za ?_;refine Za ?_;refine aU 0 1 2 3 4 (Zt (Cd.ret (ab.ak (ab.af ?_))));refine ab.bf rfl rfl rfl (.inl rfl) ?_;exact⟨0,rfl,(fun h=>by cases h),ae⟩
 ·have hlt:m<18446744073709551616:=by simp at hc;omega
  cases neg
  ·skip
   refine ao ?_;refine Zf 2 Tryz.underlying289 ?_;refine Zv (aa.ag rfl rfl Tryz.underlying4 rfl k1 rfl) ?_;refine Za ?_;refine bj 0 1 2 3 4 8 (Zt ?_);refine Cd.aN rfl rfl ?_;refine Cd.skip (ab.aj (aJ ?_));refine Cd.dV (F':=[(0,_),(1,_),(4,_),(8,_)]) ⟨rfl,rfl,rfl,rfl,trivial⟩ ?_;refine Cd.draw 8 (by kernel_rfl) [] (.inl rfl) rfl Grow Grow.refl (fun _ _ _=>Grow.trans) ?_;intro w2 hw2 zw2;replace ae:=ae.step hw2;replace k1:=k1.step hw2;have zbel:=ae.size;have zlt:=k1.lt;refine Zd (fun w hG=>aa.an 1 rfl rfl Tryz.underlying289 rfl (by kernel_rfl)) ?_;refine Zd (fun w hG=>aa.ag rfl rfl Tryz.underlying94 rfl (k1.step hG) rfl) ?_;refine Zd (fun w hG=>aa.fb rfl rfl Tryz.underlying94 Tryz.underlying2 rfl) ?_;refine Zd (fun w hG=>aa.an 1 rfl rfl Tryz.underlying289 rfl (by kernel_rfl)) ?_;refine Zd (fun w hG=>aa.ag rfl rfl Tryz.underlying94 rfl (k1.step hG) rfl) ?_;refine Zd (fun w hG=>aa.lss rfl rfl rfl) ?_;refine Zd (fun w hG=>aa.assign rfl rfl) ?_;refine Zd (fun w hG=>aa.assign rfl rfl) ?_;refine Dr.nil ?_;refine ba.done (F':=[(0,_),(1,_),(2,_),(3,_),(4,_),(8,_)]) rfl ⟨rfl,rfl,rfl,rfl,rfl,rfl,trivial⟩ ?_;intro w3 hw3 fw3;replace ae:=ae.step hw3;replace k1:=k1.step hw3;refine bj 0 1 2 3 4 8 (Zt (Cd.ret ?_));refine ab.bf rfl rfl rfl (.inl rfl) ?_;refine⟨_,wu rfl (aL ?_),fun h=> ?_,ae⟩
   ·unfold fits Ai;rw[Bool.eq_iff_iff];simp;omega
   ·unfold fits Ai at *;simp at h⊢;rw[IntKind.wrap_i64];omega
  ·skip
   refine ao ?_;refine Zf 2 Tryz.underlying289 ?_;refine Zv (aa.ag rfl rfl Tryz.underlying4 rfl k1 rfl) ?_;refine Za ?_;refine bj 0 1 2 3 4 8 (Zt ?_);refine Cd.aX rfl rfl ?_;refine Cd.seq ?_;refine Cd.dV (F':=[(0,_),(1,_),(4,_),(8,_)]) ⟨rfl,rfl,rfl,rfl,trivial⟩ ?_;refine Cd.draw 9 (by kernel_rfl) [] (.inl rfl) rfl Grow Grow.refl (fun _ _ _=>Grow.trans) ?_;intro w2 hw2 zw2;replace ae:=ae.step hw2;replace k1:=k1.step hw2;have zbel:=ae.size;have zlt:=k1.lt;refine Zd (fun w hG=>aa.an 1 rfl rfl Tryz.underlying289 rfl (by kernel_rfl)) ?_;refine Zd (fun w hG=>aa.ag rfl rfl Tryz.underlying94 rfl (k1.step hG) rfl) ?_;refine Zd (fun w hG=>aa.fb rfl rfl Tryz.underlying94 Tryz.underlying2 rfl) ?_;refine Zd (fun w hG=>aa.neg rfl rfl rfl) ?_;refine Zd (fun w hG=>aa.an 1 rfl rfl Tryz.underlying289 rfl (by kernel_rfl)) ?_;refine Zd (fun w hG=>aa.ag rfl rfl Tryz.underlying94 rfl (k1.step hG) rfl) ?_;refine Zd (fun w hG=>aa.leq rfl rfl rfl) ?_;refine Zd (fun w hG=>aa.assign rfl rfl) ?_;refine Zd (fun w hG=>aa.assign rfl rfl) ?_;refine Dr.nil ?_;refine ba.done (F':=[(0,_),(1,_),(2,_),(3,_),(4,_),(8,_)]) rfl ⟨rfl,rfl,rfl,rfl,rfl,rfl,trivial⟩ ?_;intro w3 hw3 fw3;replace ae:=ae.step hw3;replace k1:=k1.step hw3;refine bj 0 1 2 3 4 8 (Zt (Cd.ret (ab.ak (ab.af ?_))));refine ab.bf rfl rfl rfl (.inl rfl) ?_;refine⟨_,wu rfl (aL ?_),fun h=> ?_,ae⟩
   ·unfold fits Ai;rw[Bool.eq_iff_iff];simp;omega
   ·unfold fits Ai at *;simp at h⊢;rw[IntKind.wrap_i64,IntKind.wrap_i64];omega
theorem sl {a:Int}(h:fits a=false):Ending.returned (.tuple #[.int .i64 0, .bool false])= .returned (.tuple #[.int .i64 (br a), .bool (fits a)]):=by unfold br;rw[h];rfl
theorem sD {a s:Int}(h:fits a=true)(hs:s=a):Ending.returned (.tuple #[.int .i64 s, .bool true])= .returned (.tuple #[.int .i64 (br a), .bool (fits a)]):=by unfold br;rw[h,hs];rfl
theorem BK (a b:Int)(w:World)(ha:bt a)(hb:bt b):
  Calls Tryz.prog 249 #[.int .i64 a, .int .i64 b] w fun e w'=>e= .returned (.tuple #[.int .i64 (br (a+ -b)), .bool (fits (a+ -b))])∧Grow w w':=by
 obtain⟨ha0,ha1⟩:=ha;obtain⟨hb0,hb1⟩:=hb;refine Zs 23 Tryz.func249 ?_;refine ao ?_;refine Za ?_;refine Za ?_;refine aV 0 1 4 5 (aG ?_);refine Zm ?_;refine Zm ?_;refine Zv (aa.AO rfl rfl rfl rfl) ?_
 generalize hs:IntKind.i64.wrap (a-b)=s
 rw[IntKind.wrap_i64] at hs;refine Za ?_;refine aU 0 1 4 5 6 (aJ (ao ?_));refine Zm ?_;refine Zv (aa.lss rfl rfl rfl) ?_;refine Zm ?_;refine Zv (aa.lss rfl rfl rfl) ?_;refine Zv (aa.iL rfl rfl rfl Tryz.underlying4) ?_;refine Zm ?_;refine ah.start ?_;refine bM (fun hcx=>aa.move rfl rfl) ?_;refine ah.next rfl rfl rfl rfl rfl rfl rfl (fun hcx=>aa.lss rfl rfl rfl) ?_;refine ah.next rfl rfl rfl rfl rfl rfl rfl (fun hcx=>aa.move rfl rfl) ?_;refine ah.next rfl rfl rfl rfl rfl rfl rfl (fun hcx=>aa.lss rfl rfl rfl) ?_;refine ah.next rfl rfl rfl rfl rfl rfl rfl (fun hcx=>aa.iL rfl rfl rfl Tryz.underlying4) ?_;refine ah.and rfl rfl rfl rfl rfl rfl rfl ?_;refine bj 0 1 4 5 6 21 (Zt ?_);refine Cd.cond rfl (fun h=> ?_) (fun h=> ?_)
 ·skip
  refine ao ?_;refine Za ?_;refine Za ?_;refine bj 0 1 4 5 6 21 (Zt (Cd.ret (ab.af ?_)));refine ab.bf rfl rfl rfl (.inl rfl) ?_;simp at h;exact⟨sl (kL (by omega)),Grow.refl _⟩
 ·skip
  refine Cd.skip (aG ?_);refine Zm ?_;refine Za ?_;refine Za ?_;refine bj 0 1 4 5 6 21 (Zt (Cd.ret ?_));refine ab.bf rfl rfl rfl (.inl rfl) ?_;simp at h;exact⟨sD (oF (by omega) (by omega)) (by omega),Grow.refl _⟩
theorem neg_num (a:Int)(w:World)(ha:bt a):
  Calls Tryz.prog 250 #[.int .i64 a] w fun e w'=>e= .returned (.tuple #[.int .i64 (br (-a)), .bool (fits (-a))])∧Grow w w':=by
 obtain⟨ha0,ha1⟩:=ha;refine Zs 8 Tryz.func250 ?_;refine ao ?_;refine Za ?_;refine Za ?_;refine bD 0 2 3 (aJ (ao ?_));refine Zm ?_;refine Zv (aa.aB rfl rfl rfl) ?_;refine aV 0 2 3 5 (Zt ?_);refine Cd.au rfl (fun h=> ?_) (fun h=> ?_)
 ·skip
  refine ao ?_;refine Za ?_;refine Za ?_;refine aV 0 2 3 5 (Zt (Cd.ret (ab.af ?_)));refine ab.bf rfl rfl rfl (.inl rfl) ?_;exact⟨sl (kL (by omega)),Grow.refl _⟩
 ·skip
  refine Cd.skip (aG ?_);refine Zm ?_;refine Zv (aa.neg rfl rfl (mJ (by omega) (by omega))) ?_;refine Za ?_;refine Za ?_;refine aV 0 2 3 5 (Zt (Cd.ret ?_));refine ab.bf rfl rfl rfl (.inl rfl) ?_;exact⟨sD (oF (by omega) (by omega)) (by omega),Grow.refl _⟩
theorem zq (a b:Int):Ai (decide (decide (a<0)≠decide (b<0))) (a.natAbs*b.natAbs)=a*b:=by
 unfold Ai;rw[Int.natCast_mul]
 by_cases ha:a<0
 ·have ea:(a.natAbs:Int)= -a:=by omega
  by_cases hb:b<0
  ·have eb:(b.natAbs:Int)= -b:=by omega
   rw[ea,eb,Int.neg_mul_neg];simp[ha,hb]
  ·have eb:(b.natAbs:Int)=b:=by omega
   rw[ea,eb,Int.neg_mul,Int.neg_neg];simp[ha,hb]
 ·have ea:(a.natAbs:Int)=a:=by omega
  by_cases hb:b<0
  ·have eb:(b.natAbs:Int)= -b:=by omega
   rw[ea,eb,Int.mul_neg,Int.neg_neg];simp[ha,hb]
  ·have eb:(b.natAbs:Int)=b:=by omega
   rw[ea,eb];simp[ha,hb]
theorem CF (a b:Int)(w:World)(ha:bt a)(hb:bt b):
  Calls Tryz.prog 248 #[.int .i64 a, .int .i64 b] w fun e w'=>e= .returned (.tuple #[.int .i64 (br (a*b)), .bool (fits (a*b))])∧Grow w w':=by
 have ae:=Below.refl w.heap.size w
 have hm:a.natAbs*b.natAbs<340282366920938463463374607431768211456:=by
  have h1:=ha.1;have h2:=ha.2;have h3:=hb.1;have h4:=hb.2;have:=Nat.mul_le_mul (show a.natAbs≤9223372036854775808 by omega) (show b.natAbs≤9223372036854775808 by omega);omega
 refine Zs 18 Tryz.func248 ?_;refine ao ?_;refine Za ?_;refine Za ?_;refine aV 0 1 4 5 (aG ?_);refine Zm ?_;refine Zm ?_;refine Zc (Ze Tryz.func254) (tp a b _ ha hb) ?_;rintro e w4 ⟨rfl,hb4⟩;refine⟨_,rfl,?_⟩;replace ae:=ae.step hb4;refine Zc (Ze Tryz.func255) (wm _ _ _ hm) ?_;rw[zq];rintro e w5 ⟨v,rfl,hv,hb5⟩;refine⟨_,rfl,?_⟩;replace ae:=ae.step hb5;refine Zm ?_;refine Zv (aa.extract rfl rfl rfl) ?_;refine Zv (aa.extract rfl rfl rfl) ?_;refine Za ?_;refine Za ?_;refine bj 0 1 4 5 6 7 (aJ (ao ?_));refine Zm ?_;refine Zv (aa.not rfl rfl) ?_;refine bb 0 1 4 5 6 7 16 (Zt ?_);refine Cd.cond rfl (fun h=> ?_) (fun h=> ?_)
 ·skip
  refine ao ?_;refine Za ?_;refine Za ?_;refine bb 0 1 4 5 6 7 16 (Zt (Cd.ret (ab.af ?_)));refine ab.bf rfl rfl rfl (.inl rfl) ?_;simp at h;exact⟨sl h,ae⟩
 ·skip
  refine Cd.skip (aG ?_);refine Zm ?_;refine Za ?_;refine Za ?_;refine bb 0 1 4 5 6 7 16 (Zt (Cd.ret ?_));refine ab.bf rfl rfl rfl (.inl rfl) ?_;simp at h;exact⟨sD h (hv h),ae⟩
def bO (l:List Nat):List Nat:=if l.head? =some 45 then l.drop 1 else l
theorem pI (F R:List Nat)(c:Nat)(h:c∉F):idx (F++c::R) c=F.length:=by
 induction F with
 |nil=>simp[idx,List.findIdx_cons]
 |cons x F ih=>
  have hx:(x==c)=false:=beq_eq_false_iff_ne.2 (fun e=>h (by simp[e]));have:=ih (fun hm=>h (List.mem_cons_of_mem _ hm));unfold idx at this⊢;rw[List.cons_append,List.findIdx_cons,hx,List.length_cons,←this];rfl
theorem Bu {l:List Nat}{d:Nat}{y:Int}{F B:List Nat}(h:Form l d y F B):(l.head? =some 45↔y<0)∧(46∈bO l↔0<d)∧jo (bO l) 46=F∧j7 (bO l) 46=B:=by
 obtain⟨hf,hb,hlen,hpos,hlead,hval,heq⟩:=h;have hF46:46∉F:=fun hm=>by have:=hf 46 hm;unfold fJ at this;omega
 have hh:(l.head? =some 45)↔y<0:=by
  rw[heq];unfold jZ
  by_cases hx:y<0
  ·simp[hx]
  ·cases F with
   |nil=>simp at hpos
   |cons c F=>
    have:=hf c (List.mem_cons_self ..);unfold fJ at this;simp[hx];omega
 have hr:bO l=F++(if 0<d then 46::B else []):=by
  unfold bO
  by_cases hx:y<0
  ·rw[if_pos (hh.2 hx),heq]
   unfold jZ;rw[if_pos hx];rfl
  ·rw[if_neg (fun h=>hx (hh.1 h)),heq]
   unfold jZ;rw[if_neg hx];rfl
 refine⟨hh,?_,?_,?_⟩
 ·rw[hr]
  by_cases hd:0<d
  ·simp[hd]
  ·simp[hd,hF46]
 ·rw[hr]
  unfold jo
  by_cases hd:0<d
  ·rw[if_pos hd,if_pos (by simp),pI _ _ _ hF46,List.take_left]
  ·rw[if_neg hd,List.append_nil,if_neg hF46]
 ·rw[hr]
  unfold j7
  by_cases hd:0<d
  ·rw[if_pos hd,if_pos (by simp),pI _ _ _ hF46,←List.drop_drop,List.drop_left]
   rfl
  ·rw[if_neg hd,List.append_nil,if_neg hF46]
   exact(List.eq_nil_of_length_eq_zero (by omega)).symm
theorem Ad {l:List Nat}{d:Nat}{x:Int}(hp:46∈bO l↔0<d)(hb:(j7 (bO l) 46).length=d)(hf:0<(jo (bO l) 46).length)(hlead:1<(jo (bO l) 46).length→(jo (bO l) 46)[0]? ≠some 48)
  (hdg:∀c∈jo (bO l) 46++j7 (bO l) 46,fJ c) (hx:dx (jo (bO l) 46++j7 (bO l) 46)=x.natAbs) (hs:x<0↔l.head? =some 45):Form l d x (jo (bO l) 46) (j7 (bO l) 46):=by
 refine⟨fun c hc=>hdg c (List.mem_append_left _ hc),fun c hc=>hdg c (List.mem_append_right _ hc),hb,hf,hlead,hx,?_⟩
 have hr:bO l=jo (bO l) 46++(if 0<d then 46::j7 (bO l) 46 else []):=by
  by_cases hd:0<d
  ·have hm:=hp.2 hd
   unfold jo j7;rw[if_pos hm,if_pos hm,if_pos hd];exact(nw _ _ hm).2.2
  ·have hm:¬46∈bO l:=fun h=>hd (hp.1 h)
   unfold jo;rw[if_neg hm,if_neg hd,List.append_nil]
 unfold jZ;rw[←hr];unfold bO
 by_cases h:l.head? =some 45
 ·rw[if_pos (hs.2 h),if_pos h]
  cases l with
  |nil=>simp at h
  |cons c l=>simp at h;subst h;rfl
 ·rw[if_neg (fun h0=>h (hs.1 h0)),if_neg h]
  rfl
def xM (l:List Nat)(d x:Int)(b:Bool):Prop:=
 (b=true→0≤d∧d≤9∧bt x∧∃F B,Form l d.toNat x F B)∧(b=false→x=0∧(0≤d→d≤9→∀y,bt y→∀F B,¬Form l d.toNat y F B))
theorem xJ {l:List Nat}(hl:∀x∈l,x<256):∀x∈bO l,x<256:=by
 unfold bO;split
 ·exact fun x hx=>hl x (List.mem_of_mem_drop hx)
 ·exact hl
theorem wg (l:List Nat):(bO l).length≤l.length:=by
 unfold bO;split
 ·rw[List.length_drop];omega
 ·omega
theorem AA {l:List Nat}{c:Nat}:(∀x∈jo l c,x∈l)∧(jo l c).length+(j7 l c).length≤l.length:=by
 unfold jo j7
 constructor
 ·split
  ·exact fun x hx=>List.mem_of_mem_take hx
  ·exact fun x hx=>hx
 ·split
  ·rename_i h
   have:=(nw l c h).1;rw[List.length_take,List.length_drop];omega
  ·simp
theorem Bf {l:List Nat}{c:Nat}:∀x∈j7 l c,x∈l:=by
 unfold j7;split
 ·exact fun x hx=>List.mem_of_mem_drop hx
 ·exact fun x hx=>by simp at hx
set_option maxHeartbeats 1000000 in
theorem va (l:List Nat)(d:Int)(w:World)(hl:∀x∈l,x<256)(hn:l.length≤9223372036854775807)(hd:bt d):
  Calls Tryz.prog 240 #[.string (strOf l), .int .i64 d] w fun e w'=>∃x b,e= .returned (.tuple #[.int .i64 x, .bool b])∧xM l d x b∧Grow w w':=by
 have ae:=Below.refl w.heap.size w;refine Zs 95 Tryz.func240 ?_;refine ao ?_;refine Za ?_;refine Za ?_;refine aV 0 1 4 5 (aJ (ao ?_));refine Zm ?_;refine Zv (aa.lss rfl rfl rfl) ?_;refine Zm ?_;refine ah.start ?_;refine bM (fun hcx=>aa.move rfl rfl) ?_;refine ah.next rfl rfl rfl rfl rfl rfl rfl (fun hcx=>aa.gtr rfl rfl rfl) ?_;refine ah.or rfl rfl rfl rfl rfl rfl rfl ?_;refine aU 0 1 4 5 21 (Zt ?_);refine Cd.cond rfl (fun h=> ?_) (fun h=> ?_)
 ·skip
  refine ao ?_;refine Za ?_;refine Za ?_;refine aU 0 1 4 5 21 (Zt (Cd.ret (ab.af ?_)));refine ab.bf rfl rfl rfl (.inl rfl) ?_;exact⟨0,false,rfl,⟨fun h=>(by cases h),fun _=>⟨rfl,fun h1 h2=>(by simp at h;omega)⟩⟩,ae⟩
 obtain⟨D,rfl⟩:∃D:Nat,d=(D:Int):=⟨d.toNat,by simp at h;omega⟩;have hD:D≤9:=by simp at h;omega
 clear h;have hno:(∀y,bt y→∀F B,¬Form l D y F B)→xM l (D:Int) 0 false:=fun h=>⟨fun h=>(by cases h),fun _=>⟨rfl,fun _ _=>by rw[Int.toNat_natCast];exact h⟩⟩;have hrl:=xJ hl;have hrn:=wg l;have hrd:(if l.head? =some 45 then l.drop 1 else l)=bO l:=rfl;refine Cd.skip (aG ?_);refine Zm ?_;refine Zc (Ze Tryz.func245) (qt l 45 _ hl (by omega)) ?_;rintro e w2 ⟨rfl,rfl⟩;refine⟨_,rfl,?_⟩;rw[hrd];refine Zm ?_;refine Zv (aa.extract rfl rfl rfl) ?_;refine Zv (aa.extract rfl rfl rfl) ?_;refine Za ?_;refine Za ?_;refine bb 0 1 4 5 6 7 21 (aG ?_);refine Zm ?_;refine Zc (Ze Tryz.func246) (BL (bO l) 46 _ hrl (by omega) (by omega)) ?_;rintro e w3 ⟨rfl,hb3⟩;refine⟨_,rfl,?_⟩;replace ae:=ae.step hb3;have hA:=AA (l:=bO l) (c:=46);have hB:=Bf (l:=bO l) (c:=46);have hFl:∀x∈jo (bO l) 46,x<256:=fun x hx=>hrl x (hA.1 x hx);have hBl:∀x∈j7 (bO l) 46,x<256:=fun x hx=>hrl x (hB x hx);have hlen:=hA.2;have hform:=fun y F B (h:Form l D y F B)=>Bu h;have hmk:=fun x=>Ad (l:=l) (d:=D) (x:=x)
 generalize hF:jo (bO l) 46=F at *
 generalize hBd:j7 (bO l) 46=B at *
 refine Zm ?_;refine Zv (aa.extract rfl rfl rfl) ?_;refine Zv (aa.extract rfl rfl rfl) ?_;refine Zv (aa.extract rfl rfl rfl) ?_;refine Za ?_;refine Za ?_;refine Za ?_;refine dg 0 1 4 5 6 7 8 9 10 21 (aJ (ao ?_));refine Zm ?_;refine Zm ?_;refine Zv (aa.gtr rfl rfl rfl) ?_;refine Zv (aa.iL rfl rfl rfl Tryz.underlying4) ?_;refine Zm ?_;refine ah.start ?_;refine bM (fun hcx=>aa.move rfl rfl) ?_;refine ah.next rfl rfl rfl rfl rfl rfl rfl (fun hcx=>aa.dh rfl rfl Tryz.underlying9) ?_;refine ah.next rfl rfl rfl rfl rfl rfl rfl (fun hcx=>aa.move rfl rfl) ?_;refine ah.next rfl rfl rfl rfl rfl rfl rfl (fun hcx=>aa.bN rfl rfl rfl) ?_;refine ah.or rfl rfl rfl rfl rfl rfl rfl ?_;refine Zm ?_;refine ah.start ?_;refine bM (fun hcx=>aa.move rfl rfl) ?_;refine ah.next rfl rfl rfl rfl rfl rfl rfl (fun hcx=>aa.cF (a:=F) (b:=[]) rfl rfl rfl hFl (fun x hx=>by simp at hx)) ?_;refine ah.or rfl rfl rfl rfl rfl rfl rfl ?_;refine Zm ?_;refine ah.start ?_;refine bM (fun hcx=>aa.move rfl rfl) ?_;refine ah.next rfl rfl rfl rfl rfl rfl rfl (fun hcx=>aa.dh rfl rfl Tryz.underlying9) ?_;refine ah.next rfl rfl rfl rfl rfl rfl rfl (fun hcx=>aa.gtr rfl rfl rfl) ?_;refine ah.next rfl rfl rfl rfl rfl rfl rfl (fun hcx=>aa.move rfl rfl) ?_;refine bM (fun hcx=>aa.move rfl rfl) ?_
 have hF0:1<F.length→F[0]? =some (F.getD 0 0):=by
  intro h
  cases F with
  |nil=>simp at h
  |cons c F=>rfl
 have hF1:F.getD 0 0<256:=by
  cases F with
  |nil=>simp
  |cons c F=>exact hFl c (by simp)
 refine ah.next rfl rfl rfl rfl rfl rfl rfl (fun hcx=>aa.cQ (l:=F) (j:=0) (c:=F.getD 0 0) rfl rfl rfl Tryz.underlying9 rfl (hF0 (by simp at hcx;omega)) hF1) ?_;refine ah.next rfl rfl rfl rfl rfl rfl rfl (fun hcx=>aa.aB rfl rfl rfl) ?_;refine ah.mX rfl rfl rfl rfl rfl rfl rfl rfl rfl rfl rfl ?_;refine ah.or rfl rfl rfl rfl rfl rfl rfl ?_;refine dr 0 1 4 5 6 7 8 9 10 21 56 (Zt ?_)
 generalize hf0:F.getD 0 0=f0 at *
 have hiff:(decide (46∈bO l)=decide ((0:Int)<(D:Int)))↔(46∈bO l↔0<D):=by
  rw[decide_eq_decide]
  constructor<;>intro h<;>rw[h]<;>omega
 have hnil:F=[]↔F.length=0:=by cases F<;>simp
 refine Cd.cond rfl (fun h=> ?_) (fun h=> ?_)
 ·have hbad:∀y,bt y→∀F B,¬Form l D y F B:=by
   intro y _ F' B' hfm;obtain⟨-,e2,rfl,rfl⟩:=hform y F' B' hfm;have e3:=hfm.len;have e4:=hfm.pos;have e5:1<F.length→f0≠48:=fun h1 h2=>hfm.lead h1 (by rw[hF0 h1,h2]);have e6:=hiff.2 e2;have e7:F≠ []:=fun h=>by rw[h] at e4;simp at e4
   simp only[e6,e3] at h;simp[e7] at h;omega
  refine ao ?_;refine Za ?_;refine Za ?_;refine dr 0 1 4 5 6 7 8 9 10 21 56 (Zt (Cd.ret (ab.af ?_)));refine ab.bf rfl rfl rfl (.inl rfl) ?_;exact⟨0,false,rfl,hno hbad,ae⟩
 have hok:(46∈bO l↔0<D)∧B.length=D∧0<F.length∧(1<F.length→F[0]? ≠some 48):=by
  simp only[Bool.or_eq_false_iff,Bool.and_eq_false_iff,decide_eq_false_iff_not,ne_eq,Decidable.not_not] at h;obtain⟨⟨⟨k1,k2⟩,k3⟩,k4⟩:=h;refine⟨hiff.1 k1,by omega,by have:=mt hnil.2 k3;omega,fun h1 h2=> ?_⟩;rw[hF0 h1] at h2;injection h2 with h2
  omega
 obtain⟨k1,k2,k3,k4⟩:=hok;replace hmk:=fun x=>hmk x k1 k2 k3 k4
 have hM:∀x∈F++B,x<256:=fun x hx=>by
  rcases List.mem_append.1 hx with h|h
  ·exact hFl x h
  ·exact hBl x h
 have hMl:(F++B).length≤9223372036854775807:=by rw[List.length_append];omega
 have hfm:∀y,∀F' B',Form l D y F' B'→(∀c∈F++B,fJ c)∧dx (F++B)=y.natAbs∧(l.head? =some 45↔y<0):=by
  intro y F' B' hf;obtain⟨e1,-,rfl,rfl⟩:=hform y F' B' hf
  exact⟨fun c hc=>by
   rcases List.mem_append.1 hc with h|h
   ·exact hf.f c h
   ·exact hf.b c h,hf.val,e1⟩
 have hFB:F.length+B.length≤9223372036854775807:=by omega
 clear h hform hF0 hF1 hf0 hiff hnil;refine Cd.skip (aG ?_);refine Za ?_;refine fG 0 1 4 5 6 7 8 9 10 11 21 56 (aJ (ao ?_));refine Zm ?_;refine Zm ?_;refine Zv (aa.dv rfl rfl rfl hFB) ?_
 generalize F++B=M at *
 refine Seq.vL rfl rfl Tryz.underlying9 Tryz.underlying64 Tryz.underlying5 hM rfl rfl rfl ?_;intro g60 c60 w60 hc60 n60;replace ae:=ae.step n60.below;have hrd60:=n60.reads;have hB60:=n60.lt;refine Zv (aa.len rfl rfl Tryz.underlying64) ?_;refine Zm ?_;refine sd 0 1 4 5 6 7 8 9 10 11 21 56 60 61 62 (Zt (Cd.block ?_))
 refine Cd.loop (σ:=Nat) (fun k=>[(7, .bool (decide (l.head? =some 45))),(11, .int .i64 (-((dx (M.take k):Nat):Int))),(60, .slice (some ⟨g60,0,none⟩) M.length c60),(61, .int .i64 (M.length:Int)),(62, .int .i64 (k:Int))])
  (fun k wr=>k≤M.length∧(∀c∈M.take k,fJ c)∧dx (M.take k)≤9223372036854775808∧Below w.heap.size w wr∧Below w60.heap.size w60 wr) (fun k=>M.length-k) 0 ⟨by omega,by simp,by simp[dx],ae,Below.refl _ _⟩ ⟨rfl,rfl,rfl,rfl,rfl,trivial⟩ ?_
 clear ae;rintro k wr ⟨hk,hdg,hv,ae,bl60⟩;refine ao ?_;refine Zv (aa.lss rfl rfl rfl) ?_;refine bj 7 11 60 61 62 63 (aJ ?_);refine Cd.au rfl (fun hc=> ?_) (fun hc=> ?_)
 ·obtain⟨c,hc⟩:∃c,M[k]? =some c:=⟨_,List.getElem?_eq_getElem (show k<M.length by omega)⟩
  have hc256:=hM c (List.mem_of_getElem? hc)
  have hcell:wr.cell? (Addr.add ⟨g60,0,none⟩ k)=some (.int .u8 (c:Int)):=by
   obtain⟨ad,e,hb,hcs⟩:=hrd60.2 (by omega);injection e with e
   subst e;rw[bl60.cell (by rw[aw];exact hB60)];exact hcs k _ (by rw[mV,hc];rfl)
  have htk:M.take (k+1)=M.take k++[c]:=by rw[List.take_add_one,hc];rfl
  have hvs:dx (M.take (k+1))=10*dx (M.take k)+(c-48):=by rw[htk,np]
  have hvl:=xX M (k+1)
  have hbig:9223372036854775808<dx M→∀y,bt y→∀F B,¬Form l D y F B:=fun h y hy F' B' hf=>by
   obtain⟨-,e2,-⟩:=hfm y F' B' hf;unfold bt at hy;omega
  generalize hV:dx (M.take k)=V at *
  refine Cd.skip (aJ (Cd.block (ao ?_)));refine Zv (aa.iM rfl rfl rfl Tryz.underlying64 (by kernel_rfl) (j:=k) rfl (by omega)) ?_;refine Zv (aa.iu rfl rfl Tryz.underlying5 rfl hcell) ?_;refine Za ?_;refine bb 7 11 13 60 61 62 63 (aJ (ao ?_));refine Zm ?_;refine Zc (Ze Tryz.func247) (yW c _) ?_;rintro e w5 ⟨rfl,rfl⟩;refine⟨_,rfl,?_⟩;refine Zv (aa.not rfl rfl) ?_;refine cI 7 11 13 60 61 62 63 68 (Zt ?_);refine Cd.cond rfl (fun h=> ?_) (fun h=> ?_)
  ·have hnd:∀y,bt y→∀F B,¬Form l D y F B:=fun y _ F' B' hf=>by
    have:=(hfm y F' B' hf).1 c (List.mem_of_getElem? hc);unfold fJ at this;simp at h;omega
   refine ao ?_;refine Za ?_;refine Za ?_;refine dg 4 5 7 11 13 60 61 62 63 68 (Zt (Cd.ret (ab.af (ab.ak (ab.af (ab.bF (ab.ak (ab.af ?_))))))));refine ab.bf rfl rfl rfl (.inl rfl) ?_;exact⟨0,false,rfl,hno hnd,ae⟩
  have hcd:fJ c:=by unfold fJ;simp at h;omega
  have hcd2:=hcd;unfold fJ at hcd2;clear h;refine Cd.skip (aG ?_);refine Zm ?_;refine Zc (Ze Tryz.func248) (CF (-(V:Int)) 10 _ (by unfold bt;omega) (by unfold bt;omega)) ?_;rintro e w6 ⟨rfl,hb6⟩;refine⟨_,rfl,?_⟩;replace ae:=ae.step hb6;refine Zm ?_;refine Zv (aa.extract rfl rfl rfl) ?_;refine Zv (aa.extract rfl rfl rfl) ?_;refine Za ?_;refine Za ?_;refine dg 7 11 13 14 15 60 61 62 63 68 (aJ (ao ?_));refine Zm ?_;refine Zv (aa.not rfl rfl) ?_;refine dr 7 11 13 14 15 60 61 62 63 68 75 (Zt ?_);refine Cd.cond rfl (fun h=> ?_) (fun h=> ?_)
  ·have hbg:9223372036854775808<10*V:=by
    unfold fits at h;simp at h;omega
   refine ao ?_;refine Za ?_;refine Za ?_;refine gF 4 5 7 11 13 14 15 60 61 62 63 68 75 (Zt (Cd.ret (ab.af (ab.ak (ab.af (ab.bF (ab.ak (ab.af ?_))))))));refine ab.bf rfl rfl rfl (.inl rfl) ?_;exact⟨0,false,rfl,hno (hbig (by omega)),ae⟩
  have hft:fits (-(V:Int)*10)=true:=by simpa using h
  have hsm:br (-(V:Int)*10)= -(V:Int)*10:=by unfold br;rw[hft];rfl
  have hft2:10*V≤9223372036854775808:=by unfold fits at hft;simp at hft;omega
  rw[hsm];clear h;refine Cd.skip (aG ?_);refine Zm ?_;refine Zm ?_;refine Zv (aa.AO rfl rfl rfl (jq (by omega) (by omega))) ?_;refine Zv (aa.fb rfl rfl Tryz.underlying5 Tryz.underlying2 (mJ (by omega) (by omega))) ?_;refine Zc (Ze Tryz.func249) (BK (-(V:Int)*10) ((c:Int)-48) _ (by unfold bt;omega) (by unfold bt;omega)) ?_;rintro e w7 ⟨rfl,hb7⟩;refine⟨_,rfl,?_⟩;replace ae:=ae.step hb7;refine Zm ?_;refine Zv (aa.extract rfl rfl rfl) ?_;refine Zv (aa.extract rfl rfl rfl) ?_;refine Za ?_;refine Za ?_;refine dr 7 11 13 14 15 60 61 62 63 68 75 (aG ?_);refine Zm ?_;refine Zv (aa.not rfl rfl) ?_;refine fG 7 11 13 14 15 60 61 62 63 68 75 85 (Zt ?_);refine Cd.cond rfl (fun h=> ?_) (fun h=> ?_)
  ·have hbg:9223372036854775808<10*V+(c-48):=by
    unfold fits at h;simp at h;omega
   refine ao ?_;refine Za ?_;refine Za ?_;refine jk 4 5 7 11 13 14 15 60 61 62 63 68 75 85 (Zt (Cd.ret (ab.ak (ab.af (ab.bF (ab.ak (ab.af ?_)))))));refine ab.bf rfl rfl rfl (.inl rfl) ?_;exact⟨0,false,rfl,hno (hbig (by omega)),ae⟩
  have hft3:fits (-(V:Int)*10+ -((c:Int)-48))=true:=by simpa using h
  have hsm2:br (-(V:Int)*10+ -((c:Int)-48))= -(V:Int)*10+ -((c:Int)-48):=by unfold br;rw[hft3];rfl
  have hft4:10*V+(c-48)≤9223372036854775808:=by unfold fits at hft3;simp at hft3;omega
  rw[hsm2];clear h;refine Cd.skip (ab.aj (ei ?_));refine cH ?_;refine Zm ?_;refine fG 7 11 13 14 15 60 61 62 63 68 75 85 ?_;refine ab.round (k+1) ⟨rfl,congrArg (fun x=>some (Value.int .i64 x)) (show(-(V:Int)*10+ -((c:Int)-48))= -((dx (M.take (k+1)):Nat):Int) by omega),rfl,rfl,rfl,trivial⟩ ⟨by omega,?_,by omega,ae,(bl60.step hb6).step hb7⟩ (by omega);intro x hx;rw[htk] at hx;rcases List.mem_append.1 hx with h|h
  ·exact hdg x h
  ·simp at h;subst h;exact hcd
 ·obtain rfl:k=M.length:=by omega
  rw[List.take_of_length_le (Nat.le_refl _)] at hdg hv⊢;replace hmk:=fun x=>hmk x hdg
  generalize dx M=V at *
  refine Cd.exit (ab.aD (ab.aA (ab.az (aJ (ao ?_)))));refine Zm ?_;refine bb 7 11 60 61 62 63 87 (Zt ?_);refine Cd.au rfl (fun h=> ?_) (fun h=> ?_)
  ·skip
   refine ao ?_;refine Zm ?_;refine Zm ?_;refine Zv (aa.lss rfl rfl rfl) ?_;refine Za ?_;refine Za ?_;refine dG 4 5 7 11 60 61 62 63 87 (Zt (Cd.ret (ab.af ?_)));refine ab.bf rfl rfl rfl (.inl rfl) ?_;refine⟨_,_,rfl,⟨fun hb=> ?_,fun hb=> ?_⟩,ae⟩
   ·have hb':0<V:=by simpa using hb
    refine⟨by omega,by omega,by unfold bt;omega,_,_,hmk (-(V:Int)) (by omega) ⟨fun _=>h,fun _=>by omega⟩⟩
   ·have hb':V=0:=by simp at hb;omega
    subst hb';refine⟨rfl,fun _ _ y hy F' B' hf=> ?_⟩;obtain⟨-,e2,e3⟩:=hfm y F' B' (by rwa [Int.toNat_natCast] at hf);have:=e3.1 h;omega
  ·skip
   refine Cd.skip (aG ?_);refine Zm ?_;refine Zc (Ze Tryz.func250) (neg_num (-(V:Int)) _ (by unfold bt;omega)) ?_;rintro e w9 ⟨rfl,hb9⟩;refine⟨_,rfl,?_⟩;replace ae:=ae.step hb9;refine Zv (aa.extract rfl rfl rfl) ?_;refine Zv (aa.extract rfl rfl rfl) ?_;refine Za ?_;refine Za ?_;refine dG 4 5 7 11 60 61 62 63 87 (Zt (Cd.ret ?_));refine ab.bf rfl rfl rfl (.inl rfl) ?_;refine⟨_,_,rfl,⟨fun hb=> ?_,fun hb=> ?_⟩,ae⟩
   ·have hsm:br (-(-(V:Int)))=(V:Int):=by unfold br;rw[hb,if_pos rfl,Int.neg_neg]
    rw[hsm];unfold fits at hb;simp at hb;refine⟨by omega,by omega,by unfold bt;omega,_,_,hmk (V:Int) (by omega) ⟨fun h0=>by omega,fun h0=>absurd h0 h⟩⟩
   ·have hsm:br (-(-(V:Int)))=0:=by unfold br;rw[hb];rfl
    refine⟨hsm,fun _ _ y hy F' B' hf=> ?_⟩;obtain⟨-,e2,e3⟩:=hfm y F' B' (by rwa [Int.toNat_natCast] at hf);have:¬y<0:=fun h0=>h (e3.2 h0);unfold fits at hb;simp at hb;unfold bt at hy;omega
def j8 (c:Nat):Bool:=(decide (97≤c)&&decide (c≤122))||(decide (65≤c)&&decide (c≤90))
def eZ (c:Nat):Bool:=decide (48≤c)&&decide (c≤57)
def aO (c:Nat):Bool:=j8 c||eZ c||decide (c=95)
def runN (p:Nat→Bool):List Nat→Nat
 | []=>0
 |c::l=>if p c then runN p l+1 else 0
theorem gp (p:Nat→Bool):∀l,runN p l≤l.length
 | []=>Nat.le_refl _
 |c::l=>by
  unfold runN;split
  ·have:=gp p l;simp;omega
  ·simp
theorem oZ (p:Nat→Bool):∀(l:List Nat),∀c∈l.take (runN p l),p c=true
 | [],c,h=>by simp at h
 |d::l,c,h=>by
  unfold runN at h;split at h
  ·rename_i hd
   rw[List.take_succ_cons] at h;rcases List.mem_cons.1 h with rfl|h
   ·exact hd
   ·exact oZ p l c h
  ·simp at h
theorem rv (p:Nat→Bool):∀(l:List Nat) c,l[runN p l]? =some c→p c=false
 | [],c,h=>by simp at h
 |d::l,c,h=>by
  unfold runN at h;split at h
  ·exact rv p l c (by simpa using h)
  ·rename_i hd
   simp at h;subst h
   simpa using hd
def fA (c:Nat):Bool:=decide (c=32)||decide (c=9)||decide (c=10)
def eA (c:Nat):Bool:=decide (c≠10)
def ee:List Nat→Bool→Nat
 | [],_=>0
 |c::l,true=>if c=10 then ee l false+1 else ee l true+1
 |c::l,false=>if fA c then ee l false+1 else if c=35 then ee l true+1 else 0
def bW (l:List Nat):Nat:=ee l false
theorem iV:∀l b,ee l b≤l.length
 | [],_=>Nat.le_refl _
 |c::l,true=>by unfold ee;have:=iV l true;have:=iV l false;split<;>simp<;>omega
 |c::l,false=>by unfold ee;have:=iV l true;have:=iV l false;split;simp;omega;split<;>simp<;>omega
theorem uB (c:Nat)(l:List Nat):ee (c::l) true=if c=10 then ee l false+1 else ee l true+1:=by rw[ee]
theorem oP (c:Nat)(l:List Nat):ee (c::l) false=if fA c then ee l false+1 else if c=35 then ee l true+1 else 0:=by rw[ee]
theorem ec (p:Nat→Bool)(c:Nat)(l:List Nat):runN p (c::l)=if p c then runN p l+1 else 0:=rfl
theorem oh:∀l,ee l true=runN eA l+ee (l.drop (runN eA l)) false
 | []=>rfl
 |c::l=>by
  rw[uB,ec]
  by_cases hc:c=10
  ·subst hc
   have:eA 10=false:=by decide
   rw[if_pos rfl,this,if_neg (by simp),List.drop_zero,oP,if_pos (by decide)];omega
  ·have:eA c=true:=by simp[eA,hc]
   rw[if_neg hc,this,if_pos rfl,oh l,List.drop_succ_cons];omega
theorem iq (c:Nat)(r:List Nat):bW (c::r)=if fA c then bW r+1 else if c=35 then runN eA (c::r)+bW ((c::r).drop (runN eA (c::r))) else 0:=by
 unfold bW;rw[oP];split
 ·rfl
 ·split
  ·rename_i hc
   subst hc;have:eA 35=true:=by decide
   rw[oh,ec,this,if_pos rfl,List.drop_succ_cons];omega
  ·rfl
theorem jj (l:List Nat):bW l≤l.length:=iV l false
theorem lY (c:Nat)(w:World):Calls Tryz.prog 101 #[.int .u8 (c:Int)] w fun e w'=>e= .returned (.bool (j8 c))∧Grow w w':=by
 have ae:=Below.refl w.heap.size w;refine Zs 17 Tryz.func101 ?_;refine ao ?_;refine Za ?_;refine eh 0 2 (aG ?_);refine Zm ?_;refine Zv (aa.geq rfl rfl rfl) ?_;refine Zm ?_;refine ah.start ?_;refine bM (fun hcx=>aa.move rfl rfl) ?_;refine ah.next rfl rfl rfl rfl rfl rfl rfl (fun hcx=>aa.leq rfl rfl rfl) ?_;refine ah.and rfl rfl rfl rfl rfl rfl rfl ?_;refine Zm ?_;refine ah.start ?_;refine bM (fun hcx=>aa.move rfl rfl) ?_;refine ah.next rfl rfl rfl rfl rfl rfl rfl (fun hcx=>aa.geq rfl rfl rfl) ?_;refine ah.next rfl rfl rfl rfl rfl rfl rfl (fun hcx=>aa.move rfl rfl) ?_;refine bM (fun hcx=>aa.move rfl rfl) ?_;refine ah.next rfl rfl rfl rfl rfl rfl rfl (fun hcx=>aa.leq rfl rfl rfl) ?_;refine ah.mX rfl rfl rfl rfl rfl rfl rfl rfl rfl rfl rfl ?_;refine ah.or rfl rfl rfl rfl rfl rfl rfl ?_;refine Za ?_;refine eh 0 2 (Zt (Cd.ret ?_));refine ab.aE rfl rfl (.inl rfl) ?_;refine⟨bw (aL ?_),ae⟩;unfold j8;rw[Bool.eq_iff_iff];simp;omega
theorem pM (c:Nat)(w:World):Calls Tryz.prog 145 #[.int .u8 (c:Int)] w fun e w'=>e= .returned (.bool (eZ c))∧Grow w w':=by
 have ae:=Below.refl w.heap.size w;refine Zs 9 Tryz.func145 ?_;refine ao ?_;refine Za ?_;refine eh 0 2 (aG ?_);refine Zm ?_;refine Zv (aa.geq rfl rfl rfl) ?_;refine Zm ?_;refine ah.start ?_;refine bM (fun hcx=>aa.move rfl rfl) ?_;refine ah.next rfl rfl rfl rfl rfl rfl rfl (fun hcx=>aa.leq rfl rfl rfl) ?_;refine ah.and rfl rfl rfl rfl rfl rfl rfl ?_;refine Za ?_;refine eh 0 2 (Zt (Cd.ret ?_));refine ab.aE rfl rfl (.inl rfl) ?_;refine⟨bw (aL ?_),ae⟩;unfold eZ;rw[Bool.eq_iff_iff];simp;omega
theorem sL (c:Nat)(w:World):Calls Tryz.prog 103 #[.int .u8 (c:Int)] w fun e w'=>e= .returned (.bool (aO c))∧Grow w w':=by
 have ae:=Below.refl w.heap.size w;refine Zs 13 Tryz.func103 ?_;refine ao ?_;refine Za ?_;refine eh 0 2 (aG ?_);refine Zm ?_;refine Zc (Ze Tryz.func101) (lY c _) ?_;rintro e w2 ⟨rfl,hb2⟩;refine⟨_,rfl,?_⟩;replace ae:=ae.step hb2;refine Zm ?_;refine ah.start ?_;refine bM (fun hcx=>aa.move rfl rfl) ?_;refine ah.bY rfl rfl rfl rfl rfl rfl rfl (fun hcx=>Ze Tryz.func145) (fun hcx=>pM c _) ?_;intro w1 hw1;replace ae:=ae.step hw1;refine ah.or rfl rfl rfl rfl rfl rfl rfl ?_;refine Zm ?_;refine ah.start ?_;refine bM (fun hcx=>aa.move rfl rfl) ?_;refine ah.next rfl rfl rfl rfl rfl rfl rfl (fun hcx=>aa.aB rfl rfl rfl) ?_;refine ah.or rfl rfl rfl rfl rfl rfl rfl ?_;refine Za ?_;refine eh 0 2 (Zt (Cd.ret ?_));refine ab.aE rfl rfl (.inl rfl) ?_;refine⟨bw (aL ?_),ae⟩;unfold aO;rw[show decide ((c:Int)=95)=decide (c=95) from decide_eq_decide.2 (by omega)]
theorem Ae (c:Nat)(w:World):Calls Tryz.prog 230 #[.int .u8 (c:Int)] w fun e w'=>e= .returned (.bool (eA c))∧Grow w w':=by
 have ae:=Below.refl w.heap.size w;refine Zs 5 Tryz.func230 ?_;refine ao ?_;refine Za ?_;refine eh 0 2 (aG ?_);refine Zm ?_;refine Zv (aa.bN rfl rfl rfl) ?_;refine Za ?_;refine eh 0 2 (Zt (Cd.ret ?_));refine ab.aE rfl rfl (.inl rfl) ?_;refine⟨bw (aL ?_),ae⟩;unfold eA;exact decide_eq_decide.2 (by omega)
theorem kV (p:Nat→Bool)(l:List Nat)(k:Nat)(h:k≤runN p l)(c:Nat)(hc:l[k]? =some c):(p c=true↔k<runN p l):=by
 constructor
 ·intro hp
  rcases Nat.lt_or_ge k (runN p l) with h1|h1
  ·exact h1
  ·obtain rfl:k=runN p l:=by omega
   rw[rv p l c hc] at hp;cases hp
 ·intro h1
  refine oZ p l c ?_;refine List.mem_of_getElem? (i:=k) ?_;rw[List.getElem?_take_of_lt h1];exact hc
theorem wT (f:FuncId)(p:Nat→Bool)(eg:∀args w,(callFunc f args).run Tryz.prog w= .ok (.enter f args) w)(hp:∀(c:Nat) w,Calls Tryz.prog f #[.int .u8 (c:Int)] w fun e w'=>e= .returned (.bool (p c))∧Grow w w')
  (l:List Nat) (w:World) (hl:∀x∈l,x<256) (hlen:l.length≤9223372036854775807):
  Calls Tryz.prog 102 #[.string (strOf l), .func (.func f) #[] #[]] w fun e w'=>e= .returned (.int .i64 (runN p l:Int))∧Grow w w':=by
 have ae:=Below.refl w.heap.size w;have hle:=gp p l;refine Zs 20 Tryz.func102 ?_;refine ao ?_;refine Za ?_;refine bD 0 1 4 (aG ?_);refine Za ?_;refine aV 0 1 4 5 (aJ (Cd.block ?_));refine Cd.loop (σ:=Nat) (fun k=>[(0, .string (strOf l)),(1, .func (.func f) #[] #[]),(5, .int .i64 (k:Int))]) (fun k wr=>k≤runN p l∧Below w.heap.size w wr) (fun k=>runN p l-k) 0 ⟨Nat.zero_le _,ae⟩ ⟨rfl,rfl,rfl,trivial⟩ ?_;clear ae;rintro k wr ⟨hk,ae⟩;refine Cd.seq (ao ?_);refine Zm ?_;refine Zm ?_;refine Zv (aa.dh rfl rfl Tryz.underlying9) ?_
 by_cases hi:k<l.length
 ·obtain⟨c,hc⟩:∃c,l[k]? =some c:=⟨_,List.getElem?_eq_getElem hi⟩
  have hc256:=hl c (List.mem_of_getElem? hc);have hup:=kV p l k hk c hc;refine Zv ((aa.lss rfl rfl rfl).kE ((by omega))) ?_;refine Zm ?_;refine Seq.aF (aa.move rfl rfl) rfl rfl rfl rfl rfl ?_;refine Seq.aF (aa.move rfl rfl) rfl rfl rfl rfl rfl ?_;refine Seq.aF (aa.move rfl rfl) rfl rfl rfl rfl rfl ?_;refine Seq.aF (aa.cQ (l:=l) (j:=k) rfl rfl rfl Tryz.underlying9 rfl hc hc256) rfl rfl rfl rfl rfl ?_;refine Seq.tB (Enters.value (first:=[]) (cap:=[]) rfl rfl rfl eg) rfl rfl rfl rfl rfl (hp c _) ?_;rintro e w3 ⟨rfl,hb3⟩;refine⟨_,rfl,?_⟩;replace ae:=ae.step hb3;refine Zv (aa.cK rfl rfl rfl) ?_;refine aV 0 1 5 16 (Zt ?_);refine Cd.cond rfl (fun h=> ?_) (fun h=> ?_)
  ·have hlt:=hup.1 h
   refine Cd.skip (Zt (Cd.block (Zr ?_)));refine Zm ?_;refine cH ?_;refine Za ?_;refine aV 0 1 5 16 (ab.aj ?_);exact ab.round (k+1) ⟨rfl,rfl,rfl,trivial⟩ ⟨by omega,ae⟩ (by omega)
  ·have hk2:runN p l=k:=by
    rcases Nat.lt_or_ge k (runN p l) with h1|h1
    ·have:=hup.2 h1
     rw[h] at this;cases this
    ·omega
   rw[hk2];refine Cd.exit (ab.aD (ab.aA (ab.az (aG ?_))));refine Zm ?_;refine Za ?_;refine aU 0 1 4 5 16 (Zt (Cd.ret ?_));refine ab.aE rfl rfl (.inl rfl) ?_;exact⟨rfl,ae⟩
 ·have hk2:runN p l=k:=by omega
  rw[hk2];refine Zv ((aa.lss rfl rfl rfl).gN ((by omega))) ?_;refine Zm ?_;refine Seq.n0 rfl rfl rfl rfl rfl rfl ?_;refine Seq.n0 rfl rfl rfl rfl rfl rfl ?_;refine Seq.n0 rfl rfl rfl rfl rfl rfl ?_;refine Seq.n0 rfl rfl rfl rfl rfl rfl ?_;refine Seq.n0 rfl rfl rfl rfl rfl rfl ?_;refine Zv (aa.bp rfl rfl rfl) ?_;refine aV 0 1 5 16 (Zt ?_);refine Cd.aN rfl rfl ?_;refine Cd.exit (ab.aD (ab.aA (ab.az (aG ?_))));refine Zm ?_;refine Za ?_;refine aU 0 1 4 5 16 (Zt (Cd.ret ?_));refine ab.aE rfl rfl (.inl rfl) ?_;exact⟨rfl,ae⟩
theorem Cf:∀args w,(callFunc 103 args).run Tryz.prog w= .ok (.enter 103 args) w:=fun args w=>bG Tryz.func103 (by kernel_rfl) rfl args w
theorem CT:∀args w,(callFunc 230 args).run Tryz.prog w= .ok (.enter 230 args) w:=fun args w=>bG Tryz.func230 (by kernel_rfl) rfl args w
theorem qh (l:List Nat)(w:World)(hl:∀x∈l,x<256)(hlen:l.length≤9223372036854775807):
  Calls Tryz.prog 102 #[.string (strOf l), .func (.func 103) #[] #[]] w fun e w'=>e= .returned (.int .i64 (runN aO l:Int))∧Grow w w':=
 wT _ aO Cf sL l w hl hlen
theorem Ba (l:List Nat)(w:World)(hl:∀x∈l,x<256)(hlen:l.length≤9223372036854775807):
  Calls Tryz.prog 102 #[.string (strOf l), .func (.func 230) #[] #[]] w fun e w'=>e= .returned (.int .i64 (runN eA l:Int))∧Grow w w':=
 wT _ eA CT Ae l w hl hlen
theorem Cy {l:List Nat}{k c:Nat}(h:l[k]? =some c):l.drop k=c::l.drop (k+1):=by
 obtain⟨hk,rfl⟩:=List.getElem?_eq_some_iff.1 h;exact List.drop_eq_getElem_cons hk
theorem jP {l:List Nat}(hl:∀x∈l,x<256)(k:Nat):∀x∈l.drop k,x<256:=fun x hx=>hl x (List.mem_of_mem_drop hx)
theorem iF {l:List Nat}(hl:∀x∈l,x<256)(k:Nat):∀x∈l.take k,x<256:=fun x hx=>hl x (List.mem_of_mem_take hx)
theorem rl (l:List Nat)(w:World)(hl:∀x∈l,x<256)(hlen:l.length≤9223372036854775807):
  Calls Tryz.prog 205 #[.string (strOf l)] w fun e w'=>e= .returned (.int .i64 (bW l:Int))∧Grow w w':=by
 have ae:=Below.refl w.heap.size w;refine Zs 27 Tryz.func205 ?_;refine ao ?_;refine Za ?_;refine eh 0 2 (aG ?_);refine Za ?_;refine bD 0 2 3 (aJ (Cd.block ?_));refine Cd.loop (σ:=Nat) (fun k=>[(0, .string (strOf l)),(3, .int .i64 (k:Int))]) (fun k wr=>k≤l.length∧bW l=k+bW (l.drop k)∧Below w.heap.size w wr) (fun k=>l.length-k) 0 ⟨Nat.zero_le _,by simp,ae⟩ ⟨rfl,rfl,trivial⟩ ?_;clear ae;rintro k wr ⟨hk,hbl,ae⟩;refine Cd.seq (ao ?_);refine Zm ?_;refine Zm ?_;refine Zv (aa.dh rfl rfl Tryz.underlying9) ?_;refine Zv (aa.lss rfl rfl rfl) ?_;refine bD 0 3 7 (Zt ?_);refine Cd.au rfl (fun hc=> ?_) (fun hc=> ?_)
 ·obtain⟨c,hcc⟩:∃c,l[k]? =some c:=⟨_,List.getElem?_eq_getElem (show k<l.length by omega)⟩
  have hc256:=hl c (List.mem_of_getElem? hcc);have hdr:=Cy hcc;have hst:=iq c (l.drop (k+1));rw[←hdr] at hst;refine Cd.skip (Zt (Cd.block (ao ?_)));refine Zm ?_;refine Zm ?_;refine Zv (aa.cQ (l:=l) (j:=k) rfl rfl rfl Tryz.underlying9 rfl hcc hc256) ?_;refine aV 0 3 7 10 (Zt (Cd.block ?_));refine Cd.lz (σ:=Unit) (fun _=>[(0, .string (strOf l)),(3, .int .i64 (k:Int)),(10, .int .u8 (c:Int)),(12, .bool (fA c))]) (fun _ wr=>Below w.heap.size w wr) ?_ ?_
  ·skip
   refine ao ?_;refine Zv (aa.aB rfl rfl rfl) ?_;refine Za ?_;refine aU 0 3 7 10 12 (Zt ?_);refine Cd.au rfl (fun h=> ?_) (fun h=> ?_)
   ·skip
    refine Cd.skip ?_;exact ab.join () ⟨rfl,rfl,rfl,congrArg (fun z=>some (Value.bool z)) (by unfold fA;rw[decide_eq_true h,decide_eq_true (show c=32 by omega)];rfl),trivial⟩ ae
   ·skip
    refine ao ?_;refine Zv (aa.aB rfl rfl rfl) ?_;refine Za ?_;refine aU 0 3 7 10 12 (Zt ?_);refine Cd.au rfl (fun h2=> ?_) (fun h2=> ?_)
    ·skip
     refine Cd.skip ?_;exact ab.join () ⟨rfl,rfl,rfl,congrArg (fun z=>some (Value.bool z)) (by unfold fA;rw[decide_eq_true h2,decide_eq_true (show c=9 by omega)];simp),trivial⟩ ae
    ·skip
     refine Zr ?_;refine Zv (aa.aB rfl rfl rfl) ?_;refine Za ?_;refine aU 0 3 7 10 12 ?_;exact ab.join () ⟨rfl,rfl,rfl,congrArg (fun z=>some (Value.bool z)) (by unfold fA;rw[decide_eq_false (show¬c=32 by omega),decide_eq_false (show¬c=9 by omega)];exact decide_eq_decide.2 (by omega)),trivial⟩ ae
  clear ae;rintro⟨⟩ wr ae;refine Cd.cond rfl (fun h=> ?_) (fun h=> ?_)
  ·rw[h,if_pos rfl] at hst
   refine Zr ?_;refine Zm ?_;refine cH ?_;refine Za ?_;refine aV 0 3 10 12 (ab.aj (ab.aj ?_));exact ab.round (k+1) ⟨rfl,rfl,trivial⟩ ⟨by omega,by omega,ae⟩ (by omega)
  ·rw[h,if_neg (by simp)] at hst
   refine ao ?_;refine Zv (aa.aB rfl rfl rfl) ?_;refine Za ?_;refine aU 0 3 10 12 18 (Zt ?_);refine Cd.au rfl (fun h2=> ?_) (fun h2=> ?_)
   ·rw[if_pos (by omega)] at hst
    have hr1:1≤runN eA (l.drop k):=by
     rw[hdr,ec,show c=35 by omega,if_pos (by decide)];omega
    have hr2:=gp eA (l.drop k);rw[List.length_drop] at hr2;rw[List.drop_drop] at hst;refine Zr ?_;refine Zm ?_;refine Zm ?_;refine Zm ?_;refine Zv (aa.sliceFrom (j:=k) rfl rfl rfl Tryz.underlying9 rfl hk) ?_;refine Zc (Ze Tryz.func102) (Ba (l.drop k) _ (jP hl k) (by rw[List.length_drop];omega)) ?_;rintro e w7 ⟨rfl,hb7⟩;refine⟨_,rfl,?_⟩;replace ae:=ae.step hb7
    generalize runN eA (l.drop k)=r at *
    refine cH ?_;refine Za ?_;refine aU 0 3 10 12 18 (ab.aj (ab.aj ?_));exact ab.round (k+r) ⟨rfl,rfl,trivial⟩ ⟨by omega,by omega,ae⟩ (by omega)
   ·rw[if_neg (by omega)] at hst
    have hbk:bW l=k:=by omega
    rw[hbk];refine ao ?_;refine Zm ?_;refine Za ?_;refine bj 0 2 3 10 12 18 (Zt (Cd.ret (ab.ak (ab.ak (ab.bF (ab.ak (ab.af ?_)))))));refine ab.aE rfl rfl (.inl rfl) ?_;exact⟨rfl,ae⟩
 ·have hbk:bW l=k:=by
   have:l.drop k=[]:=List.drop_eq_nil_of_le (by omega);rw[this] at hbl
   simpa[bW,ee] using hbl
  rw[hbk];refine Cd.exit (ab.aD (ab.aA (ab.az (aG ?_))));refine Zm ?_;refine Za ?_;refine aV 0 2 3 7 (Zt (Cd.ret ?_));refine ab.aE rfl rfl (.inl rfl) ?_;exact⟨rfl,ae⟩
def db (l:List Nat):Bool:=decide (l≠ [])&&decide (l.length≤16)&&j8 (l.getD 0 0)&&decide (runN aO l=l.length)
theorem ln (l:List Nat)(w:World)(hl:∀x∈l,x<256)(hlen:l.length≤9223372036854775807):
  Calls Tryz.prog 62 #[.string (strOf l)] w fun e w'=>e= .returned (.bool (db l))∧Grow w w':=by
 have ae:=Below.refl w.heap.size w
 have h0:l≠ []→l[0]? =some (l.getD 0 0):=by
  intro h
  cases l with
  |nil=>exact absurd rfl h
  |cons c l=>rfl
 have h1:l.getD 0 0<256:=by
  cases l with
  |nil=>simp
  |cons c l=>exact hl c (by simp)
 unfold db
 generalize l.getD 0 0=c0 at *
 refine Zs 22 Tryz.func62 ?_;refine ao ?_;refine Za ?_;refine eh 0 2 (aG ?_);refine Zm ?_;refine Zv (aa.fH (a:=l) (b:=[]) rfl rfl rfl hl (fun x hx=>by simp at hx)) ?_;refine Zm ?_;refine ah.start ?_;refine bM (fun hcx=>aa.move rfl rfl) ?_;refine ah.next rfl rfl rfl rfl rfl rfl rfl (fun hcx=>aa.dh rfl rfl Tryz.underlying9) ?_;refine ah.next rfl rfl rfl rfl rfl rfl rfl (fun hcx=>aa.leq rfl rfl rfl) ?_;refine ah.and rfl rfl rfl rfl rfl rfl rfl ?_;refine Zm ?_;refine ah.start ?_;refine bM (fun hcx=>aa.move rfl rfl) ?_;refine ah.next rfl rfl rfl rfl rfl rfl rfl (fun hcx=>aa.cQ (l:=l) (j:=0) (c:=c0) rfl rfl rfl Tryz.underlying9 rfl (h0 (by simp[cG] at hcx;exact hcx.1)) h1) ?_;refine ah.bY rfl rfl rfl rfl rfl rfl rfl (fun hcx=>Ze Tryz.func101) (fun hcx=>lY _ _) ?_;intro w1 hw1;replace ae:=ae.step hw1;refine ah.and rfl rfl rfl rfl rfl rfl rfl ?_;refine Zm ?_;refine ah.start ?_;refine bM (fun hcx=>aa.move rfl rfl) ?_;refine ah.bY rfl rfl rfl rfl rfl rfl rfl (fun hcx=>Ze Tryz.func102) (fun hcx=>qh l _ hl hlen) ?_;intro w2 hw2;replace ae:=ae.step hw2;refine ah.next rfl rfl rfl rfl rfl rfl rfl (fun hcx=>aa.move rfl rfl) ?_;refine ah.next rfl rfl rfl rfl rfl rfl rfl (fun hcx=>aa.dh rfl rfl Tryz.underlying9) ?_;refine ah.next rfl rfl rfl rfl rfl rfl rfl (fun hcx=>aa.aB rfl rfl rfl) ?_;refine ah.and rfl rfl rfl rfl rfl rfl rfl ?_;refine Za ?_;refine eh 0 2 (Zt (Cd.ret ?_));refine ab.aE rfl rfl (.inl rfl) ?_;refine⟨bw (aL ?_),ae⟩;rw[Bool.eq_iff_iff];simp
 constructor
 ·rintro⟨⟨⟨a,b⟩,c⟩,d⟩
  exact⟨⟨⟨a,by omega⟩,c⟩,by omega⟩
 ·rintro⟨⟨⟨a,b⟩,c⟩,d⟩
  exact⟨⟨⟨a,by omega⟩,c⟩,by omega⟩
section
variable {P:Program} {E:Operand→Option Value} {o:Oper} {w:World} {x:Operand} {T:TypeId}
theorem aa.ef {ad:Addr}{m:Nat}{ps:List Value}{d:TypeDesc}(ho:o.op= .load T x)(hx:E x=some (.pointer (some ad)))(hT:P.underlying T=some d)(hd:(match d with| .struct _| .array _ _=>true|_=>false)=true)(hs:dO P T m=true)(hm:ps.length=m)(hc:∀(j:Nat) (v:Value),ps[j]? =some v→w.cell? (ad.add j)=some v):aa P E o w (.agg ps.toArray) w:=by
 obtain⟨i,hi,hsz⟩:=bL hs;exact .CU (cs:=ps) ho hx hT hd hi (by omega) hc
end
inductive Ex where
 |mk (op n:Int) (name:List Nat) (args:List Ex)
def Ex.op:Ex→Int| .mk op _ _ _=>op
def Ex.n:Ex→Int| .mk _ n _ _=>n
def Ex.name:Ex→List Nat| .mk _ _ nm _=>nm
def Ex.args:Ex→List Ex| .mk _ _ _ l=>l
theorem Ex.eta (e:Ex):e= .mk e.op e.n e.name e.args:=by cases e;rfl
mutual
def Ex.nodes:Ex→Nat
 | .mk _ _ _ l=>1+aM l
def aM:List Ex→Nat
 | []=>0
 |e::r=>e.nodes+aM r
end
mutual
def Ex.depth:Ex→Nat
 | .mk _ _ _ l=>1+aZ l
def aZ:List Ex→Nat
 | []=>0
 |e::r=>max e.depth (aZ r)
end
theorem Ex.dI (op n:Int)(nm:List Nat)(l:List Ex):(Ex.mk op n nm l).nodes=1+aM l:=by rw[Ex.nodes]
theorem Ex.ft (op n:Int)(nm:List Nat)(l:List Ex):(Ex.mk op n nm l).depth=1+aZ l:=by rw[Ex.depth]
theorem mg {l:List Ex}{e:Ex}(h:e∈l):e.nodes≤aM l:=by
 induction l with
 |nil=>cases h
 |cons x r ih=>
  unfold aM;rcases List.mem_cons.1 h with rfl|h
  ·omega
  ·have:=ih h;omega
theorem Ex.fS {e x:Ex}(h:x∈e.args):x.nodes<e.nodes:=by
 cases e with
 |mk op n nm l=>
  have:=mg (l:=l) h;rw[Ex.dI];omega
theorem Ex.cO (e:Ex):0<e.nodes:=by cases e;unfold Ex.nodes;omega
theorem pc {l:List Ex}{e:Ex}(h:e∈l):e.depth≤aZ l:=by
 induction l with
 |nil=>cases h
 |cons x r ih=>
  unfold aZ;rcases List.mem_cons.1 h with rfl|h
  ·omega
  ·have:=ih h;omega
theorem Ex.rh {e x:Ex}(h:x∈e.args):x.depth<e.depth:=by
 cases e with
 |mk op n nm l=>
  have:=pc (l:=l) h;rw[Ex.ft];omega
mutual
theorem Ex.bV:∀e:Ex,e.depth≤e.nodes
 | .mk _ _ _ l=>by unfold Ex.depth Ex.nodes;have:=dL l;omega
theorem dL:∀l:List Ex,aZ l≤aM l
 | []=>Nat.le_refl _
 |e::r=>by unfold aZ aM;have:=Ex.bV e;have:=dL r;omega
end
def Rows (w:World)(S:Nat→Prop)(A:Option Addr)(xs:List Value):Prop:=xs≠ []→∃ad,A=some ad∧S ad.block∧∀(j:Nat) (u:Value),xs[j]? =some u→w.cell? (ad.add j)=some u
inductive cw (w:World)(S:Nat→Prop):Ex→Value→Prop
 |mk {op n:Int} {nm:List Nat} {args:List Ex} {A:Option Addr} {c:Nat} {vs:List Value} (hl:vs.length=args.length) (jV:args.length≤1000) (hop:bt op) (hn:bt n) (hnm:∀d∈nm,d<256) (hnl:nm.length≤9223372036854775807)
   (hr:∀(i:Nat) (e:Ex) (v:Value),args[i]? =some e→vs[i]? =some v→cw w S e v) (hA:Rows w S A (aP vs)):cw w S (.mk op n nm args) (.agg #[.int .i64 op, .int .i64 n, .string (strOf nm), .slice A args.length c])
theorem cw.mono {w w':World}{S S':Nat→Prop}{e:Ex}{v:Value}(h:cw w S e v)(hS:∀b,S b→S' b)(hc:∀p:Addr,S p.block→w'.cell? p=w.cell? p):cw w' S' e v:=by
 induction h with
 |mk hl jV hop hn hnm hnl hr hA ih=>
  refine .mk hl jV hop hn hnm hnl ih fun hne=> ?_;obtain⟨ad,e1,e2,e3⟩:=hA hne;exact⟨ad,e1,hS _ e2,fun j u hu=>(hc _ (by rw[aw];exact e2)).trans (e3 j u hu)⟩
def qs (w:World)(B:Nat)(e:Ex)(v:Value):Prop:=cw w (· <B) e v
theorem qs.below {w w':World}{B:Nat}{e:Ex}{v:Value}(h:qs w B e v)(hb:Below B w w'):qs w' B e v:=cw.mono h (fun _ h=>h) (fun _ hp=>hb.cell hp)
theorem cw.sm {w:World}{S:Nat→Prop}{e:Ex}{v:Value}(h:cw w S e v):v.cells.size=4:=by
 cases h;rfl
theorem iX {vs:List Value}{i:Nat}{v:Value}(hs:∀x∈vs,x.cells.size=4)(h:vs[i]? =some v):∀(j:Nat) (u:Value),v.cells.toList[j]? =some u→(aP vs)[i*4+j]? =some u:=by
 induction vs generalizing i with
 |nil=>cases h
 |cons x r ih=>
  intro j u hj;have hx:x.cells.size=4:=hs x List.mem_cons_self;show(x.cells.toList++aP r)[i*4+j]? =some u
  cases i with
  |zero=>
   injection h with h
   subst h;have:j<x.cells.toList.length:=(List.getElem?_eq_some_iff.1 hj).1;rw[Nat.zero_mul,Nat.zero_add,List.getElem?_append_left this];exact hj
  |succ i=>
   have h2:=ih (fun y hy=>hs y (List.mem_cons_of_mem _ hy)) (by simpa using h) j u hj;have hxl:x.cells.toList.length=4:=by simpa using hx
   rw[List.getElem?_append_right (by rw[hxl];omega),hxl,←h2];congr 1;omega
structure uR (w:World)(B:Nat)(e:Ex)(A:Option Addr)(c:Nat):Prop where
 jV:e.args.length≤1000
 op:bt e.op
 n:bt e.n
 name:∀d∈e.name,d<256
 Bg:e.name.length≤9223372036854775807
 arg:∀i x,e.args[i]? =some x→∃ad A' c',A=some ad∧ad.block<B∧qs w B x (.agg #[.int .i64 x.op, .int .i64 x.n, .string (strOf x.name), .slice A' x.args.length c'])∧∀(j:Nat) (u:Value),([.int .i64 x.op, .int .i64 x.n, .string (strOf x.name), .slice A' x.args.length c']:List Value)[j]? =some u→w.cell? ((ad.add (i*4)).add j)=some u
theorem cw.form {w:World}{S:Nat→Prop}{e:Ex}{v:Value}(h:cw w S e v):∃A c,v= .agg #[.int .i64 e.op, .int .i64 e.n, .string (strOf e.name), .slice A e.args.length c]:=by
 cases h;exact⟨_,_,rfl⟩
theorem qs.open {w:World}{B:Nat}{e:Ex}{v:Value}(h:qs w B e v):∃A c,v= .agg #[.int .i64 e.op, .int .i64 e.n, .string (strOf e.name), .slice A e.args.length c]∧uR w B e A c:=by
 have h':cw w (· <B) e v:=h
 cases h' with
 | @mk op n nm args A c vs hl jV hop hn hnm hnl hr hA=>
  refine⟨A,c,rfl,jV,hop,hn,hnm,hnl,fun i x hx=> ?_⟩;have hi:=(List.getElem?_eq_some_iff.1 hx).1;replace hi:i<args.length:=hi;obtain⟨v,hv⟩:∃v,vs[i]? =some v:=⟨_,List.getElem?_eq_getElem (by omega)⟩;have hrx:=hr i x v hx hv
  have h4:∀y∈vs,y.cells.size=4:=fun y hy=>by
   obtain⟨k,hk,rfl⟩:=List.getElem_of_mem hy;obtain⟨z,hz⟩:∃z,args[k]? =some z:=⟨_,List.getElem?_eq_getElem (by omega)⟩;exact(hr k z _ hz (List.getElem?_eq_getElem hk)).sm
  have hne:aP vs≠ []:=by
   intro h0;obtain⟨A',c',rfl⟩:=hrx.form;have:=iX h4 hv 0 _ rfl;rw[h0] at this
   cases this
  obtain⟨ad,rfl,hb,hc⟩:=hA hne;obtain⟨A',c',rfl⟩:=hrx.form;refine⟨ad,A',c',rfl,hb,hrx,fun j u hu=> ?_⟩;rw[fF];exact hc _ _ (iX h4 hv j u (by simpa[Value.cells] using hu))
theorem uR.below {w w':World}{B:Nat}{e:Ex}{A:Option Addr}{c:Nat}(h:uR w B e A c)(hb:Below B w w'):uR w' B e A c:=
 ⟨h.jV,h.op,h.n,h.name,h.Bg,fun i x hx=>by
  obtain⟨ad,A',c',e1,e2,e3,e4⟩:=h.arg i x hx;exact⟨ad,A',c',e1,e2,e3.below hb,fun j u hu=>(hb.cell (by rw[aw,aw];exact e2)).trans (e4 j u hu)⟩⟩
def eG (op:Int):Int:=if 1≤op∧op≤4 then 0 else if 5≤op∧op≤18 then 2 else if op=19∨op=20 then 1 else if op=21 then 3 else -1
theorem dX (op:Int)(w:World):Calls Tryz.prog 214 #[.int .i64 op] w fun e w'=>e= .returned (.int .i64 (eG op))∧Grow w w':=by
 have ae:=Below.refl w.heap.size w;refine Zs 27 Tryz.func214 ?_;refine ao ?_;refine Za ?_;refine eh 0 2 (aJ (Cd.block (ao ?_)));refine Zm ?_;refine Zv (aa.geq rfl rfl rfl) ?_;refine Zm ?_;refine ah.start ?_;refine bM (fun hcx=>aa.move rfl rfl) ?_;refine ah.next rfl rfl rfl rfl rfl rfl rfl (fun hcx=>aa.leq rfl rfl rfl) ?_;refine ah.and rfl rfl rfl rfl rfl rfl rfl ?_;refine Za ?_;refine bD 0 2 3 (Zt ?_);refine Cd.cond rfl (fun h=> ?_) (fun h=> ?_)
 ·simp at h
  refine ao ?_;refine Za ?_;refine bD 0 2 3 (Zt (Cd.ret (ab.ak (ab.af ?_))));refine ab.aE rfl rfl (.inl rfl) ?_;exact⟨bw (int_eq (by unfold eG;rw[if_pos h])),ae⟩
 ·simp at h
  refine ao ?_;refine Zm ?_;refine Zv (aa.geq rfl rfl rfl) ?_;refine Zm ?_;refine ah.start ?_;refine bM (fun hcx=>aa.move rfl rfl) ?_;refine ah.next rfl rfl rfl rfl rfl rfl rfl (fun hcx=>aa.leq rfl rfl rfl) ?_;refine ah.and rfl rfl rfl rfl rfl rfl rfl ?_;refine Za ?_;refine aV 0 2 3 10 (Zt ?_);refine Cd.cond rfl (fun h2=> ?_) (fun h2=> ?_)
  ·simp at h2
   refine ao ?_;refine Za ?_;refine aV 0 2 3 10 (Zt (Cd.ret (ab.ak (ab.af ?_))));refine ab.aE rfl rfl (.inl rfl) ?_;exact⟨bw (int_eq (by unfold eG;rw[if_neg (by omega),if_pos h2])),ae⟩
  ·simp at h2
   refine ao ?_;refine Zm ?_;refine Zv (aa.aB rfl rfl rfl) ?_;refine Zm ?_;refine ah.start ?_;refine bM (fun hcx=>aa.move rfl rfl) ?_;refine ah.next rfl rfl rfl rfl rfl rfl rfl (fun hcx=>aa.aB rfl rfl rfl) ?_;refine ah.or rfl rfl rfl rfl rfl rfl rfl ?_;refine Za ?_;refine aU 0 2 3 10 17 (Zt ?_);refine Cd.cond rfl (fun h3=> ?_) (fun h3=> ?_)
   ·simp at h3
    refine ao ?_;refine Za ?_;refine aU 0 2 3 10 17 (Zt (Cd.ret (ab.ak (ab.af ?_))));refine ab.aE rfl rfl (.inl rfl) ?_;exact⟨bw (int_eq (by unfold eG;rw[if_neg (by omega),if_neg (by omega),if_pos h3])),ae⟩
   ·simp at h3
    refine ao ?_;refine Zm ?_;refine Zv (aa.aB rfl rfl rfl) ?_;refine Za ?_;refine bj 0 2 3 10 17 24 (Zt ?_);refine Cd.au rfl (fun hc=> ?_) (fun hc=> ?_)
    ·skip
     refine ao ?_;refine Za ?_;refine bj 0 2 3 10 17 24 (Zt (Cd.ret (ab.ak (ab.af ?_))));refine ab.aE rfl rfl (.inl rfl) ?_;exact⟨bw (int_eq (by unfold eG;rw[if_neg (by omega),if_neg (by omega),if_neg (by omega),if_pos (by assumption)])),ae⟩
    ·skip
     refine Cd.skip (ab.aj (aG ?_));refine Za ?_;refine bj 0 2 3 10 17 24 (Zt (Cd.ret ?_));refine ab.aE rfl rfl (.inl rfl) ?_;exact⟨bw (int_eq (by unfold eG;rw[if_neg (by omega),if_neg (by omega),if_neg (by omega),if_neg (by assumption)])),ae⟩
def eC:List (List Nat):=[[122,101,114,111],[111,110,101],[103,105,118,101],[97,110,100],[111,114],[115,99,97,108,101],[119,104,101,110],[117,110,116,105,108],[97,110,121,116,105,109,101],[100,97,121],[109,105,110],[109,97,120],[105,102]]
def cq (l:List Nat):Bool:=eC.any fun x=>decide (l=x)
theorem my (l:List Nat)(w:World)(hl:∀d∈l,d<256):Calls Tryz.prog 210 #[.string (strOf l)] w fun e w'=>e= .returned (.bool (cq l))∧Grow w w':=by
 have ae:=Below.refl w.heap.size w;refine Zs 18 Tryz.func210 ?_;refine ao ?_;refine Za ?_;refine eh 0 2 (aJ (ao ?_));refine Zm ?_;refine bD 0 2 3 (Zt (Cd.block ?_));refine Cd.lz (σ:=Unit) (fun _=>[(4, .bool (cq l))]) (fun _ wr=>Below w.heap.size w wr) ?_ ?_
 ·skip
  refine ao ?_;refine Zv (aa.cF (a:=l) (b:=[122,101,114,111]) rfl rfl rfl hl (by decide)) ?_;refine Za ?_;refine aV 0 2 3 4 (Zt ?_);refine Cd.au rfl (fun h0=> ?_) (fun h0=> ?_)
  ·subst h0
   refine Cd.skip ?_;exact ab.join () ⟨rfl,trivial⟩ ae
  ·skip
   refine ao ?_;refine Zv (aa.cF (a:=l) (b:=[111,110,101]) rfl rfl rfl hl (by decide)) ?_;refine Za ?_;refine aV 0 2 3 4 (Zt ?_);refine Cd.au rfl (fun h1=> ?_) (fun h1=> ?_)
   ·subst h1
    refine Cd.skip ?_;exact ab.join () ⟨rfl,trivial⟩ ae
   ·skip
    refine ao ?_;refine Zv (aa.cF (a:=l) (b:=[103,105,118,101]) rfl rfl rfl hl (by decide)) ?_;refine Za ?_;refine aV 0 2 3 4 (Zt ?_);refine Cd.au rfl (fun h2=> ?_) (fun h2=> ?_)
    ·subst h2
     refine Cd.skip ?_;exact ab.join () ⟨rfl,trivial⟩ ae
    ·skip
     refine ao ?_;refine Zv (aa.cF (a:=l) (b:=[97,110,100]) rfl rfl rfl hl (by decide)) ?_;refine Za ?_;refine aV 0 2 3 4 (Zt ?_);refine Cd.au rfl (fun h3=> ?_) (fun h3=> ?_)
     ·subst h3
      refine Cd.skip ?_;exact ab.join () ⟨rfl,trivial⟩ ae
     ·skip
      refine ao ?_;refine Zv (aa.cF (a:=l) (b:=[111,114]) rfl rfl rfl hl (by decide)) ?_;refine Za ?_;refine aV 0 2 3 4 (Zt ?_);refine Cd.au rfl (fun h4=> ?_) (fun h4=> ?_)
      ·subst h4
       refine Cd.skip ?_;exact ab.join () ⟨rfl,trivial⟩ ae
      ·skip
       refine ao ?_;refine Zv (aa.cF (a:=l) (b:=[115,99,97,108,101]) rfl rfl rfl hl (by decide)) ?_;refine Za ?_;refine aV 0 2 3 4 (Zt ?_);refine Cd.au rfl (fun h5=> ?_) (fun h5=> ?_)
       ·subst h5
        refine Cd.skip ?_;exact ab.join () ⟨rfl,trivial⟩ ae
       ·skip
        refine ao ?_;refine Zv (aa.cF (a:=l) (b:=[119,104,101,110]) rfl rfl rfl hl (by decide)) ?_;refine Za ?_;refine aV 0 2 3 4 (Zt ?_);refine Cd.au rfl (fun h6=> ?_) (fun h6=> ?_)
        ·subst h6
         refine Cd.skip ?_;exact ab.join () ⟨rfl,trivial⟩ ae
        ·skip
         refine ao ?_;refine Zv (aa.cF (a:=l) (b:=[117,110,116,105,108]) rfl rfl rfl hl (by decide)) ?_;refine Za ?_;refine aV 0 2 3 4 (Zt ?_);refine Cd.au rfl (fun h7=> ?_) (fun h7=> ?_)
         ·subst h7
          refine Cd.skip ?_;exact ab.join () ⟨rfl,trivial⟩ ae
         ·skip
          refine ao ?_;refine Zv (aa.cF (a:=l) (b:=[97,110,121,116,105,109,101]) rfl rfl rfl hl (by decide)) ?_;refine Za ?_;refine aV 0 2 3 4 (Zt ?_);refine Cd.au rfl (fun h8=> ?_) (fun h8=> ?_)
          ·subst h8
           refine Cd.skip ?_;exact ab.join () ⟨rfl,trivial⟩ ae
          ·skip
           refine ao ?_;refine Zv (aa.cF (a:=l) (b:=[100,97,121]) rfl rfl rfl hl (by decide)) ?_;refine Za ?_;refine aV 0 2 3 4 (Zt ?_);refine Cd.au rfl (fun h9=> ?_) (fun h9=> ?_)
           ·subst h9
            refine Cd.skip ?_;exact ab.join () ⟨rfl,trivial⟩ ae
           ·skip
            refine ao ?_;refine Zv (aa.cF (a:=l) (b:=[109,105,110]) rfl rfl rfl hl (by decide)) ?_;refine Za ?_;refine aV 0 2 3 4 (Zt ?_);refine Cd.au rfl (fun h10=> ?_) (fun h10=> ?_)
            ·subst h10
             refine Cd.skip ?_;exact ab.join () ⟨rfl,trivial⟩ ae
            ·skip
             refine ao ?_;refine Zv (aa.cF (a:=l) (b:=[109,97,120]) rfl rfl rfl hl (by decide)) ?_;refine Za ?_;refine aV 0 2 3 4 (Zt ?_);refine Cd.au rfl (fun h11=> ?_) (fun h11=> ?_)
             ·subst h11
              refine Cd.skip ?_;exact ab.join () ⟨rfl,trivial⟩ ae
             ·skip
              refine Zr ?_;refine Zv (aa.cF (a:=l) (b:=[105,102]) rfl rfl rfl hl (by decide)) ?_;refine Za ?_;refine aV 0 2 3 4 ?_;refine ab.join () ⟨congrArg (fun b=>some (Value.bool b)) ?_,trivial⟩ ae;simp[cq,eC,h0,h1,h2,h3,h4,h5,h6,h7,h8,h9,h10,h11]
 clear ae;rintro⟨⟩ wr ae;refine Cd.cond rfl (fun h=> ?_) (fun h=> ?_)
 ·skip
  refine ao ?_;refine Za ?_;refine eh 2 4 (Zt (Cd.ret (ab.ak (ab.af ?_))));refine ab.aE rfl rfl (.inl rfl) ?_;rw[h];exact⟨rfl,ae⟩
 ·skip
  refine Cd.skip (ab.aj (aG ?_));refine Za ?_;refine eh 2 4 (Zt (Cd.ret ?_));refine ab.aE rfl rfl (.inl rfl) ?_;rw[h];exact⟨rfl,ae⟩
def gI (l:List Nat):Bool:=db l&& !cq l
theorem tT (l:List Nat)(w:World)(hl:∀d∈l,d<256)(hlen:l.length≤9223372036854775807):Calls Tryz.prog 188 #[.string (strOf l)] w fun e w'=>e= .returned (.bool (gI l))∧Grow w w':=by
 have ae:=Below.refl w.heap.size w;refine Zs 10 Tryz.func188 ?_;refine ao ?_;refine Za ?_;refine eh 0 2 (aG ?_);refine Zm ?_;refine Zc (Ze Tryz.func62) (ln l _ hl hlen) ?_;rintro e w5 ⟨rfl,hb5⟩;refine⟨_,rfl,?_⟩;replace ae:=ae.step hb5;refine Zm ?_;refine ah.start ?_;refine bM (fun hcx=>aa.move rfl rfl) ?_;refine ah.bY rfl rfl rfl rfl rfl rfl rfl (fun hcx=>Ze Tryz.func210) (fun hcx=>my l _ hl) ?_;intro w1 hw1;replace ae:=ae.step hw1;refine ah.next rfl rfl rfl rfl rfl rfl rfl (fun hcx=>aa.not rfl rfl) ?_;refine ah.and rfl rfl rfl rfl rfl rfl rfl ?_;refine Za ?_;refine eh 0 2 (Zt (Cd.ret ?_));refine ab.aE rfl rfl (.inl rfl) ?_;exact⟨bw (aL (by unfold gI;cases db l<;>rfl)),ae⟩
theorem nR (a b:Int)(w:World):Calls Tryz.prog 141 #[.agg #[.int .i64 a, .int .i64 b]] w fun e w'=>e= .returned (.bool (decide (a≤200)&&decide (b≤16)))∧Grow w w':=by
 have ae:=Below.refl w.heap.size w;refine Zs 11 Tryz.func141 ?_;refine ao ?_;refine Seq.box rfl rfl rfl rfl rfl ?_;intro g1 w1 n1;have e1:=Nat.le_trans ae.size n1.ge;replace ae:=ae.step n1.below;have k1:=n1.av;refine Za ?_;refine bD 0 1 2 (aG ?_);refine Zf 0 Tryz.underlying200 ?_;refine Zv (aa.ag rfl rfl Tryz.underlying3 rfl k1 rfl) ?_;refine Zv (aa.leq rfl rfl rfl) ?_;refine Zm ?_;refine ah.start ?_;refine bM (fun hcx=>aa.an 1 rfl rfl Tryz.underlying200 rfl (by kernel_rfl)) ?_;refine ah.next rfl rfl rfl rfl rfl rfl rfl (fun hcx=>aa.ag rfl rfl Tryz.underlying3 rfl k1 rfl) ?_;refine ah.next rfl rfl rfl rfl rfl rfl rfl (fun hcx=>aa.leq rfl rfl rfl) ?_;refine ah.and rfl rfl rfl rfl rfl rfl rfl ?_;refine Za ?_;refine bD 0 1 2 (Zt (Cd.ret ?_));refine ab.aE rfl rfl (.inl rfl) ?_;exact⟨bw (aL (by cases decide (a≤200)<;>rfl)),ae⟩
theorem eP:cf Tryz.prog 200=some (some (.agg #[.int .i64 0, .int .i64 0])):=by kernel_rfl
theorem eR (a b:Int)(w:World):(Instr.build 200 #[(0, .int .i64 a),(1, .int .i64 b)]).run Tryz.prog w= .ok (.agg #[.int .i64 a, .int .i64 b]) w:=by
 have hu:=Tryz.underlying200
 go_simp
def dK (s t:Int × Int):Int × Int:=(min (s.1+t.1) 1000,min (max s.2 (t.2+1)) 1000)
theorem pH (s t:Int × Int)(w:World)(h1:0≤s.1∧s.1≤1000)(h2:0≤s.2∧s.2≤1000)(h3:0≤t.1∧t.1≤1000)(h4:0≤t.2∧t.2≤1000):Calls Tryz.prog 186 #[.agg #[.int .i64 s.1, .int .i64 s.2], .agg #[.int .i64 t.1, .int .i64 t.2]] w fun e w'=>e= .returned (.agg #[.int .i64 (dK s t).1, .int .i64 (dK s t).2])∧Grow w w':=by
 have ae:=Below.refl w.heap.size w;obtain⟨a,b⟩:=s;obtain⟨c,d⟩:=t;simp only at h1 h2 h3 h4;refine Zs 19 Tryz.func186 ?_;refine ao ?_;refine Seq.box rfl rfl rfl rfl rfl ?_;intro g2 w1 n2;have e2:=Nat.le_trans ae.size n2.ge;replace ae:=ae.step n2.below;have k2:=n2.av;refine Seq.box rfl rfl rfl rfl rfl ?_;intro g3 w2 n3;have e3:=Nat.le_trans ae.size n3.ge;have l3:=Nat.lt_of_lt_of_le k2.lt n3.ge;replace ae:=ae.step n3.below;replace k2:=k2.step n3.below;have k3:=n3.av;refine Zl eP ?_;intro g4 w3 n4;have e4:=Nat.le_trans ae.size n4.ge;have l4:=Nat.lt_of_lt_of_le k3.lt n4.ge;have l4_k2:=Nat.lt_of_lt_of_le k2.lt n4.ge;replace ae:=ae.step n4.below;replace k2:=k2.step n4.below;replace k3:=k3.step n4.below;have k4:=n4.av;refine aU 0 1 2 3 4 (aG ?_);refine Zf 0 Tryz.underlying200 ?_;refine Zv (aa.ag rfl rfl Tryz.underlying3 rfl k2 rfl) ?_;refine Zf 0 Tryz.underlying200 ?_;refine Zv (aa.ag rfl rfl Tryz.underlying3 rfl k3 rfl) ?_;refine cH ?_;refine Zv (aa.min2 rfl rfl rfl) ?_;refine Zf 1 Tryz.underlying200 ?_;refine Zv (aa.ag rfl rfl Tryz.underlying3 rfl k2 rfl) ?_;refine Zf 1 Tryz.underlying200 ?_;refine Zv (aa.ag rfl rfl Tryz.underlying3 rfl k3 rfl) ?_;refine cH ?_;refine Zv (aa.max2 rfl rfl rfl) ?_;refine Zv (aa.min2 rfl rfl rfl) ?_;refine Zv (aa.build rfl rfl (eR _ _ _)) ?_;refine Zo 2 k4 ?_;intro w4 pw4;replace ae:=ae.put k4 pw4 e4;replace k2:=k2.put pw4 (by omega);replace k3:=k3.put pw4 (by omega);replace k4:=pw4.av;refine aU 0 1 2 3 4 (Zt (Cd.ret ?_));refine ab.cz rfl rfl k4 Tryz.underlying200 rfl (m:=2) (by kernel_rfl) rfl (.inl rfl) ?_;exact⟨rfl,ae⟩
mutual
def zC:Ex→Int × Int
 | .mk _ _ _ l=>Aj (1,1) l
def Aj (s:Int × Int):List Ex→Int × Int
 | []=>s
 |e::r=>if 1000≤s.1 then(1000,1000) else Aj (dK s (zC e)) r
end
def Sz (s:Int × Int):Prop:=(0≤s.1∧s.1≤1000)∧(0≤s.2∧s.2≤1000)
theorem eB {s t:Int × Int}(h:Sz s)(k:Sz t):Sz (dK s t):=by
 unfold Sz dK at *;simp only;omega
mutual
theorem si:∀e,Sz (zC e)
 | .mk op n nm l=>by rw[zC];exact zW (1,1) ⟨by simp,by simp⟩ l
theorem zW:∀(s:Int × Int),Sz s→∀l,Sz (Aj s l)
 |s,h,[]=>by rw[Aj];exact h
 |s,h,e::r=>by
  rw[Aj];split
  ·exact⟨by simp,by simp⟩
  ·exact zW _ (eB h (si e)) r
end
def uV (s:Int × Int)(n d:Nat):Prop:=s.1=min (n:Int) 1000∧(n<1000→s.2=(d:Int))
mutual
theorem xw:∀e,uV (zC e) e.nodes e.depth
 | .mk op n nm l=>by
  rw[zC,Ex.dI,Ex.ft];have:=wN (1,1) 1 1 ⟨(by show(1:Int)=min ((1:Nat):Int) 1000;omega),fun _=>rfl⟩ (Nat.le_refl _) (Nat.le_refl _) l
  rwa [show max 1 (1+aZ l)=1+aZ l by omega] at this
theorem wN:∀(s:Int × Int) (n d:Nat),uV s n d→1≤d→d≤n→∀l,uV (Aj s l) (n+aM l) (max d (1+aZ l))
 |s,n,d,h,h1,h2,[]=>by
  rw[Aj,aM,aZ,show max d (1+0)=d by omega];exact h
 |s,n,d,h,h1,h2,e::r=>by
  rw[Aj,aM,aZ];have he:=xw e;have hn:=Ex.bV e;have hr:=dL r;split
  ·obtain⟨a,b⟩:=h
   exact⟨by simp only;omega,fun h=>by omega⟩
  ·have hw:uV (dK s (zC e)) (n+e.nodes) (max d (1+e.depth)):=by
    obtain⟨a,b⟩:=h;obtain⟨a',b'⟩:=he;refine⟨by unfold dK;simp only;omega,fun h=> ?_⟩;unfold dK;simp only;rw[b (by omega),b' (by omega)];omega
   have:=wN _ (n+e.nodes) (max d (1+e.depth)) hw (by omega) (by omega) r;rw[show n+(e.nodes+aM r)=n+e.nodes+aM r by omega,show max d (1+max e.depth (aZ r))=max (max d (1+e.depth)) (1+aZ r) by omega];exact this
end
theorem ay:cf Tryz.prog 105=some (some (.agg #[.int .i64 0, .int .i64 0, .string {data:= #[]}, .slice none 0 0])):=by kernel_rfl
mutual
def sS:Ex→Nat→Int × Int
 | .mk _ _ _ l,at_=>uq at_ (1,1) l
def uq (at_:Nat)(s:Int × Int):List Ex→Int × Int
 | []=>s
 |e::r=>if 1000≤at_∨1000≤s.1 then(1000,1000) else uq at_ (dK s (sS e (at_+1))) r
end
theorem Dw (e:Ex)(at_:Nat):sS e at_=uq at_ (1,1) e.args:=by cases e;rw[sS];rfl
theorem tf (at_:Nat)(s:Int × Int)(e:Ex)(r:List Ex):uq at_ s (e::r)=if 1000≤at_∨1000≤s.1 then(1000,1000) else uq at_ (dK s (sS e (at_+1))) r:=by rw[uq]
theorem xc (at_:Nat)(s:Int × Int):uq at_ s []=s:=by rw[uq]
theorem ny {s:Int × Int}(h:Sz s):dK s (1000,1000)=(1000,1000):=by
 unfold Sz at h;unfold dK;simp only[Prod.mk.injEq];omega
theorem Ce (at_:Nat)(l:List Ex):uq at_ (1000,1000) l=(1000,1000):=by
 cases l with
 |nil=>rw[xc]
 |cons e r=>rw[tf,if_pos (.inr (by decide))]
mutual
theorem qj:∀(e:Ex) (at_:Nat),Sz (sS e at_)
 | .mk op n nm l,at_=>by rw[sS];exact Aq at_ (1,1) ⟨by simp,by simp⟩ l
theorem Aq:∀(at_:Nat) (s:Int × Int),Sz s→∀l,Sz (uq at_ s l)
 |at_,s,h,[]=>by rw[uq];exact h
 |at_,s,h,e::r=>by
  rw[uq];split
  ·exact⟨by simp,by simp⟩
  ·exact Aq at_ _ (eB h (qj e (at_+1))) r
end
mutual
theorem At:∀(e:Ex) (at_:Nat),sS e at_=zC e∨(sS e at_=(1000,1000)∧1002≤e.depth+at_)
 | .mk op n nm l,at_=>by
  rw[sS,zC,Ex.ft];rcases zQ at_ (1,1) ⟨by simp,by simp⟩ l with h|⟨h1,h2⟩
  ·exact .inl h
  ·exact .inr ⟨h1,by omega⟩
theorem zQ:∀(at_:Nat) (s:Int × Int),Sz s→∀l,uq at_ s l=Aj s l∨(uq at_ s l=(1000,1000)∧1001≤aZ l+at_)
 |at_,s,h,[]=>by rw[uq,Aj];exact .inl rfl
 |at_,s,h,e::r=>by
  rw[uq,Aj,aZ];have hd:0<e.depth:=by cases e;rw[Ex.ft];omega
  by_cases h1:1000≤s.1
  ·rw[if_pos (.inr h1),if_pos h1];exact .inl rfl
  ·by_cases h2:1000≤at_
   ·rw[if_pos (.inl h2)];exact .inr ⟨rfl,by omega⟩
   ·rw[if_neg (by omega),if_neg h1]
    rcases At e (at_+1) with h3|⟨h3,h4⟩
    ·rw[h3]
     rcases zQ at_ (dK s (zC e)) (eB h (si e)) r with h5|⟨h5,h6⟩
     ·exact .inl h5
     ·exact .inr ⟨h5,by omega⟩
    ·rw[h3,ny h,Ce]
     exact .inr ⟨rfl,by omega⟩
end
theorem sh (N:Nat):∀(e:Ex) (at_:Nat) (B:Nat) (v:Value) (w:World),e.nodes≤N→at_≤1001→qs w B e v→B≤w.heap.size→Calls Tryz.prog 179 #[v, .int .i64 (at_:Int)] w fun en w'=>en= .returned (.agg #[.int .i64 (sS e at_).1, .int .i64 (sS e at_).2])∧Grow w w':=by
 induction N with
 |zero=>intro e at_ B v w hN;have:=e.cO;omega
 |succ N ih=>
 intro e at_ B v w hN hdep hrep hB;obtain⟨A,c,rfl,hv⟩:=hrep.open;have ae:=Below.refl w.heap.size w;have hdp:0<e.depth:=by cases e;rw[Ex.ft];omega
 have jV:=hv.jV;refine Zs 32 Tryz.func179 ?_;refine ao ?_;refine Seq.box rfl rfl rfl rfl rfl ?_;intro g2 w1 n2;have e2:=Nat.le_trans ae.size n2.ge;replace ae:=ae.step n2.below;have k2:=n2.av;refine Zl eP ?_;intro g4 w2 n4;have e4:=Nat.le_trans ae.size n4.ge;have l4:=Nat.lt_of_lt_of_le k2.lt n4.ge;replace ae:=ae.step n4.below;replace k2:=k2.step n4.below;have k4:=n4.av;refine aV 0 1 2 4 (aG ?_);refine Zv (aa.build rfl rfl (eR _ _ _)) ?_;refine Zl eP ?_;intro g5 w3 n5;have e5:=Nat.le_trans ae.size n5.ge;have l5:=Nat.lt_of_lt_of_le k4.lt n5.ge;have l5_k2:=Nat.lt_of_lt_of_le k2.lt n5.ge;replace ae:=ae.step n5.below;replace k2:=k2.step n5.below;replace k4:=k4.step n5.below;have k5:=n5.av;refine Zo 2 k5 ?_;intro w4 pw4;replace ae:=ae.put k5 pw4 e5;replace k2:=k2.put pw4 (by omega);replace k4:=k4.put pw4 (by omega);replace k5:=pw4.av;refine aU 0 1 2 4 5 (aJ (ao ?_));refine Zf 3 Tryz.underlying105 ?_;refine Zv (aa.ag rfl rfl Tryz.underlying68 rfl k2 rfl) ?_;refine Zv (aa.len rfl rfl Tryz.underlying68) ?_;refine Zm ?_;refine cI 0 1 2 4 5 10 11 12 (Zt (Cd.block ?_))
 refine Cd.loop (σ:=Nat × (Int × Int)) (fun s=>[(1, .int .i64 (at_:Int)),(4, .pointer (some ⟨g4,0,none⟩)),(5, .pointer (some ⟨g5,0,none⟩)),(10, .slice A e.args.length c),(11, .int .i64 (e.args.length:Int)),(12, .int .i64 (s.1:Int))])
  (fun s wr=>s.1≤e.args.length∧Sz s.2∧uq at_ s.2 (e.args.drop s.1)=sS e at_∧Below w.heap.size w wr∧aK wr g4 200 #[.int .i64 0, .int .i64 0]∧aK wr g5 200 #[.int .i64 s.2.1, .int .i64 s.2.2]) (fun s=>e.args.length-s.1) (0,(1,1)) ⟨Nat.zero_le _,⟨by simp,by simp⟩,by rw[Dw];rfl,ae,k4,k5⟩ ⟨rfl,rfl,rfl,rfl,rfl,rfl,trivial⟩ ?_
 clear ae k2 k4 k5;rintro⟨k,s⟩ wr ⟨hk,hs,hsz,ae,k4,k5⟩;simp only at hk hs hsz k5;show Cd _ _ _ _ [(1, .int .i64 (at_:Int)),(4, .pointer (some ⟨g4,0,none⟩)),(5, .pointer (some ⟨g5,0,none⟩)),(10, .slice A e.args.length c),(11, .int .i64 (e.args.length:Int)),(12, .int .i64 (k:Int))] _;refine ao ?_;refine Zv (aa.lss rfl rfl rfl) ?_;refine bb 1 4 5 10 11 12 13 (aJ ?_);refine Cd.au rfl (fun hc=> ?_) (fun hc=> ?_)
 ·obtain⟨x,hx⟩:∃x,e.args[k]? =some x:=⟨_,List.getElem?_eq_getElem (show k<e.args.length by omega)⟩
  obtain⟨ad,A',c',rfl,hbl,hrx,hc⟩:=hv.arg k x hx;have hxm:=List.mem_of_getElem? hx;have hxn:=Ex.fS hxm;have hxd:=Ex.rh hxm;have hc:=fun j u hj=>((ae.mono hB).cell (p:=(ad.add (k*4)).add j) (by rw[aw,aw];exact hbl)).trans (hc j u hj)
  have hdrop:e.args.drop k=x::e.args.drop (k+1):=by
   rw[List.drop_eq_getElem_cons (show k<e.args.length by omega)];congr 1;obtain⟨_,he⟩:=List.getElem?_eq_some_iff.1 hx;exact he
  rw[hdrop,tf] at hsz;refine Cd.skip (aJ (Cd.block (ao ?_)));refine Zv (aa.bI rfl rfl rfl Tryz.underlying68 (s:=4) (by kernel_rfl) (j:=k) rfl (by omega)) ?_;refine Zv (aa.ef (ps:=[.int .i64 x.op, .int .i64 x.n, .string (strOf x.name), .slice A' x.args.length c']) rfl rfl Tryz.underlying105 rfl (m:=4) (by kernel_rfl) rfl hc) ?_;refine Zl ay ?_;intro g7 w5 n7;have e7:=Nat.le_trans ae.size n7.ge;have l7:=Nat.lt_of_lt_of_le k5.lt n7.ge;have l7_k4:=Nat.lt_of_lt_of_le k4.lt n7.ge;replace ae:=ae.step n7.below;replace k4:=k4.step n7.below;replace k5:=k5.step n7.below;have k7:=n7.av;refine Zo 4 k7 ?_;intro w6 pw6;replace ae:=ae.put k7 pw6 e7;replace k4:=k4.put pw6 (by omega);replace k5:=k5.put pw6 (by omega);replace k7:=pw6.av;refine cI 1 4 5 7 10 11 12 13 (aJ (ao ?_));refine Zm ?_;refine Zv (aa.geq rfl rfl rfl) ?_;refine Zm ?_;refine ah.start ?_;refine bM (fun hcx=>aa.an 0 rfl rfl Tryz.underlying200 rfl (by kernel_rfl)) ?_;refine ah.next rfl rfl rfl rfl rfl rfl rfl (fun hcx=>aa.ag rfl rfl Tryz.underlying3 rfl k5 rfl) ?_;refine ah.next rfl rfl rfl rfl rfl rfl rfl (fun hcx=>aa.geq rfl rfl rfl) ?_;refine ah.or rfl rfl rfl rfl rfl rfl rfl ?_;refine dG 1 4 5 7 10 11 12 13 22 (Zt ?_);refine Cd.cond rfl (fun h=> ?_) (fun h=> ?_)
  ·simp at h
   rw[if_pos (by omega)] at hsz;refine ao ?_;refine Zv (aa.build rfl rfl (eR _ _ _)) ?_;refine Zo 2 k4 ?_;intro w7 pw7;replace ae:=ae.put k4 pw7 e4;replace k5:=k5.put pw7 (by omega);replace k7:=k7.put pw7 (by omega);replace k4:=pw7.av;refine dG 1 4 5 7 10 11 12 13 22 (Zt (Cd.ret (ab.af (ab.ak (ab.af (ab.bF (ab.ak (ab.af ?_))))))));refine ab.cz rfl rfl k4 Tryz.underlying200 rfl (m:=2) (by kernel_rfl) rfl (.inl rfl) ?_;rw[←hsz];exact⟨rfl,ae⟩
  ·simp at h
   rw[if_neg (by omega)] at hsz;have hat:at_+1≤1001:=by omega
   have hrec:=fun W (hb:Below w.heap.size w W)=>ih x (at_+1) B _ W (by omega) hat (hrx.below (hb.mono hB)) (Nat.le_trans hB hb.size);have hxs:=qj x (at_+1);have hws:=eB hs hxs;refine Cd.skip (Zt ?_);refine Cd.draw 6 (by kernel_rfl) [] (.inl rfl) rfl Grow Grow.refl (fun _ _ _=>Grow.trans) ?_;intro w7 hw7 zw7;replace ae:=ae.step hw7;replace k4:=k4.step hw7;replace k5:=k5.step hw7;replace k7:=k7.step hw7;have zbel:=ae.size;have zlt:=k7.lt;refine Zd (fun w hG=>aa.aQ rfl rfl Tryz.underlying200 rfl (k5.step hG) (m:=2) (by kernel_rfl) rfl) ?_;refine Zd (fun w hG=>aa.aQ rfl rfl Tryz.underlying105 rfl (k7.step hG) (m:=4) (by kernel_rfl) rfl) ?_;refine cn ?_;refine Zd (fun w hG=>aa.jH rfl rfl rfl (by omega) (by omega)) ?_;refine Dr.bP rfl (fun w=>Ze Tryz.func179) rfl (fun w hG=>hrec w (ae.step hG)) ?_;refine Dr.bP rfl (fun w=>Ze Tryz.func186) rfl (fun w hG=>pH s (sS x (at_+1)) w hs.1 hs.2 hxs.1 hxs.2) ?_;refine Dr.nil ?_;refine ba.done (F':=[(1,_),(4,_),(5,_),(7,_),(10,_),(11,_),(12,_),(13,_),(22,_),(29,_)]) rfl ⟨rfl,rfl,rfl,rfl,rfl,rfl,rfl,rfl,rfl,rfl,trivial⟩ ?_;intro w8 hw8 fw8;replace ae:=ae.step hw8;replace k4:=k4.step hw8;replace k5:=k5.step hw8;replace k7:=k7.step hw8;refine Zo 2 k5 ?_;intro w9 pw9;replace ae:=ae.put k5 pw9 e5;replace k4:=k4.put pw9 (by omega);replace k5:=pw9.av;refine dG 1 4 5 7 10 11 12 13 22 (ab.aj (ei ?_));refine cH ?_;refine Zm ?_;refine dG 1 4 5 7 10 11 12 13 22 ?_;exact ab.round (k+1,dK s (sS x (at_+1))) ⟨rfl,rfl,rfl,rfl,rfl,rfl,trivial⟩ ⟨by simp only;omega,hws,hsz,ae,k4,k5⟩ (by simp only;omega)
 ·obtain rfl:k=e.args.length:=by omega
  rw[List.drop_of_length_le (Nat.le_refl _),xc] at hsz;refine Cd.exit (ab.aD (ab.aA (ab.az (aG ?_))));refine Zv (aa.aQ rfl rfl Tryz.underlying200 rfl k5 (m:=2) (by kernel_rfl) rfl) ?_;refine Zo 2 k4 ?_;intro w5 pw5;replace ae:=ae.put k4 pw5 e4;replace k5:=k5.put pw5 (by omega);replace k4:=pw5.av;refine bb 1 4 5 10 11 12 13 (Zt (Cd.ret ?_));refine ab.cz rfl rfl k4 Tryz.underlying200 rfl (m:=2) (by kernel_rfl) rfl (.inl rfl) ?_;rw[←hsz];exact⟨rfl,ae⟩
def tI {α:Type}(p:α→Bool)(l:List α):Int:=match l.findIdx? p with|some i=>(i:Int)|none=> -1
theorem rI {α:Type}{p:α→Bool}{l:List α}{i:Nat}{x:α}(h:l[i]? =some x)(hp:p x=true)(hb:∀y∈l.take i,p y=false):tI p l=(i:Int):=by
 unfold tI
 have:l.findIdx? p=some i:=by
  rw[List.findIdx?_eq_some_iff_getElem];obtain⟨hi,he⟩:=List.getElem?_eq_some_iff.1 h;refine⟨hi,by rw[he];exact hp,fun j hj=> ?_⟩;have:=hb (l[j]) (by rw[List.mem_take_iff_getElem];exact⟨j,by omega,rfl⟩);rw[this];simp
 rw[this]
theorem rN {α:Type}{p:α→Bool}{l:List α}(hb:∀y∈l,p y=false):tI p l= -1:=by
 unfold tI;have:l.findIdx? p=none:=by rw[List.findIdx?_eq_none_iff];exact hb
 rw[this]
theorem td {α:Type}(p:α→Bool)(l:List α):decide (0≤tI p l)=l.any p:=by
 unfold tI
 cases h:l.findIdx? p with
 |none=>
  rw[List.findIdx?_eq_none_iff] at h;have:l.any p=false:=by rw[List.any_eq_false];exact fun x hx=>by rw[h x hx];simp
  rw[this];rfl
 |some i=>
  obtain⟨hi,he,-⟩:=List.findIdx?_eq_some_iff_getElem.1 h;have:l.any p=true:=by rw[List.any_eq_true];exact⟨_,List.getElem_mem hi,he⟩
  rw[this];simp
theorem vo (g:Nat)(cp:List Value)(p:Ex→Bool)(B:Nat)(A:Option Addr)(c:Nat)(e:Ex)(w:World)(hv:uR w B e A c)(hB:B≤w.heap.size)
  (eg:∀args w,(callFunc g args).run Tryz.prog w= .ok (.enter g args) w) (hp:∀x∈e.args,∀v W,Below w.heap.size w W→qs W B x v→Calls Tryz.prog g ([]++[v]++cp).toArray W fun en w'=>en= .returned (.bool (p x))∧Grow W w'):
  Calls Tryz.prog 146 #[.slice A e.args.length c, .func (.func g) #[] cp.toArray] w fun en w'=>en= .returned (.int .i64 (tI p e.args))∧Grow w w':=by
 have ae:=Below.refl w.heap.size w;have jV:=hv.jV;obtain⟨n,hn⟩:∃n,n=e.args.length:=⟨_,rfl⟩;rw[←hn] at jV⊢;refine Zs 19 Tryz.func146 ?_;refine ao ?_;refine Za ?_;refine bD 0 1 4 (aJ (ao ?_));refine Zm ?_;refine Zv (aa.len rfl rfl Tryz.underlying68) ?_;refine Zm ?_;refine aU 0 1 4 7 8 (Zt (Cd.block ?_))
 refine Cd.loop (σ:=Nat) (fun k=>[(0, .slice A n c),(1, .func (.func g) #[] cp.toArray),(7, .int .i64 (n:Int)),(8, .int .i64 (k:Int))])
  (fun k wr=>k≤n∧(∀y∈e.args.take k,p y=false)∧Below w.heap.size w wr) (fun k=>n-k) 0 ⟨Nat.zero_le _,by simp,ae⟩ ⟨rfl,rfl,rfl,rfl,trivial⟩ ?_
 clear ae;rintro k wr ⟨hk,hno,ae⟩;refine ao ?_;refine Zv (aa.lss rfl rfl rfl) ?_;refine aU 0 1 7 8 9 (aJ ?_);refine Cd.au rfl (fun hc=> ?_) (fun hc=> ?_)
 ·obtain⟨x,hx⟩:∃x,e.args[k]? =some x:=⟨_,List.getElem?_eq_getElem (show k<e.args.length by omega)⟩
  obtain⟨ad,A',c',rfl,hbl,hrx,hc⟩:=hv.arg k x hx;have hc:=fun j u hj=>((ae.mono hB).cell (p:=(ad.add (k*4)).add j) (by rw[aw,aw];exact hbl)).trans (hc j u hj);have htk:e.args.take (k+1)=e.args.take k++[x]:=by rw[List.take_add_one,hx];rfl
  refine Cd.skip (aJ (Cd.block (ao ?_)));refine Zm ?_;refine Za ?_;refine bj 0 1 5 7 8 9 (aG ?_);refine Zm ?_;refine Zm ?_;refine Zm ?_;refine Zv (aa.bI rfl rfl rfl Tryz.underlying68 (s:=4) (by kernel_rfl) (j:=k) rfl (by omega)) ?_;refine Zv (aa.ef (ps:=[.int .i64 x.op, .int .i64 x.n, .string (strOf x.name), .slice A' x.args.length c']) rfl rfl Tryz.underlying105 rfl (m:=4) (by kernel_rfl) rfl hc) ?_;refine Seq.call (Enters.value (first:=[]) (cap:=cp) rfl rfl rfl eg) rfl rfl rfl (hp x (List.mem_of_getElem? hx) _ _ ae (hrx.below (ae.mono hB))) ?_;rintro en w5 ⟨rfl,hb5⟩;refine⟨_,rfl,?_⟩;replace ae:=ae.step hb5;refine bb 0 1 5 7 8 9 16 (Zt ?_);refine Cd.cond rfl (fun h=> ?_) (fun h=> ?_)
  ·skip
   refine ao ?_;refine Zm ?_;refine Za ?_;refine cI 0 1 4 5 7 8 9 16 (Zt (Cd.ret (ab.ak (ab.af (ab.bF (ab.ak (ab.af ?_)))))));refine ab.aE rfl rfl (.inl rfl) ?_;exact⟨bw (int_eq (rI hx h hno).symm),ae⟩
  ·skip
   refine Cd.skip (ab.aj (ei ?_));refine cH ?_;refine Zm ?_;refine bb 0 1 5 7 8 9 16 ?_;refine ab.round (k+1) ⟨rfl,rfl,rfl,rfl,trivial⟩ ⟨by omega,fun y hy=> ?_,ae⟩ (by omega);rw[htk] at hy;rcases List.mem_append.1 hy with hy|hy
   ·exact hno y hy
   ·simp at hy;subst hy;exact h
 ·obtain rfl:k=n:=by omega
  rw[List.take_of_length_le (by omega)] at hno;refine Cd.exit (ab.aD (ab.aA (ab.az (aG ?_))));refine Za ?_;refine bj 0 1 4 7 8 9 (Zt (Cd.ret ?_));refine ab.aE rfl rfl (.inl rfl) ?_;exact⟨bw (int_eq (rN hno).symm),ae⟩
theorem lL (g:Nat)(cp:List Value)(p:Ex→Bool)(B:Nat)(A:Option Addr)(c:Nat)(e:Ex)(w:World)(hv:uR w B e A c)(hB:B≤w.heap.size)
  (eg:∀args w,(callFunc g args).run Tryz.prog w= .ok (.enter g args) w) (hp:∀x∈e.args,∀v W,Below w.heap.size w W→qs W B x v→Calls Tryz.prog g ([]++[v]++cp).toArray W fun en w'=>en= .returned (.bool (p x))∧Grow W w'):
  Calls Tryz.prog 107 #[.slice A e.args.length c, .func (.func g) #[] cp.toArray] w fun en w'=>en= .returned (.bool (e.args.any p))∧Grow w w':=by
 have ae:=Below.refl w.heap.size w;have hc:=fun W (hb:Below w.heap.size w W)=>vo g cp p B A c e W (hv.below (hb.mono hB)) (Nat.le_trans hB hb.size) eg (fun x hx v W2 hb2 hr=>hp x hx v W2 (hb.trans (hb2.mono hb.size)) hr);have hany:=td p e.args;obtain⟨n,hn⟩:∃n,n=e.args.length:=⟨_,rfl⟩;rw[←hn] at hc⊢;refine Zs 9 Tryz.func107 ?_;refine ao ?_;refine Za ?_;refine bD 0 1 4 (aG ?_);refine Zm ?_;refine Zm ?_;refine Zc (Ze Tryz.func146) (hc _ ae) ?_;rintro en w5 ⟨rfl,hb5⟩;refine⟨_,rfl,?_⟩;replace ae:=ae.step hb5;refine Zv (aa.geq rfl rfl rfl) ?_;refine Za ?_;refine bD 0 1 4 (Zt (Cd.ret ?_));refine ab.aE rfl rfl (.inl rfl) ?_;exact⟨bw (aL hany),ae⟩
def fR (op n:Int)(nm:List Nat)(k:Nat):Bool:=decide (eG op=(k:Int))&& !(decide (n≠0)&&decide (op≠1)&&decide (op≠2))&& !(decide (nm≠ [])&&decide (op≠3))&& !decide (n<0)&& !(decide (op=2)&&decide (2932896<n))&& !(decide (op=3)&& !gI nm)
mutual
def bB:Ex→Bool
 | .mk op n nm l=>fR op n nm l.length&&qc l
def qc:List Ex→Bool
 | []=>true
 |e::r=>bB e&&qc r
end
theorem qf:∀l,qc l=l.all bB
 | []=>by rw[qc];rfl
 |e::r=>by rw[qc,qf r];rfl
theorem mZ (e:Ex):bB e=(fR e.op e.n e.name e.args.length&&e.args.all bB):=by
 cases e;rw[bB,qf];rfl
theorem y9:∀args w,(callFunc 215 args).run Tryz.prog w= .ok (.enter 215 args) w:=fun args w=>bG Tryz.func215 (by kernel_rfl) rfl args w
theorem nZ {op n:Int}{nm:List Nat}{k:Nat}(h:¬(eG op=(k:Int)∧(n=0∨op=1∨op=2)∧(nm=[]∨op=3)∧0≤n∧(op=2→n≤2932896)∧(op=3→gI nm=true))):fR op n nm k=false:=by
 cases hh:fR op n nm k with
 |false=>rfl
 |true=>
  exfalso;apply h;unfold fR at hh;simp at hh;obtain⟨⟨⟨⟨⟨h1,h2⟩,h3⟩,h4⟩,h5⟩,h6⟩:=hh
  exact⟨h1,by omega,h3,h4,by omega,fun h=>by
   rcases h6 with a|a
   ·exact absurd h a
   ·exact a⟩
theorem vW {op n:Int}{nm:List Nat}{k:Nat}(h1:eG op=(k:Int))(h2:n=0∨op=1∨op=2)(h3:nm=[]∨op=3)(h4:0≤n)(h5:op=2→n≤2932896)(h6:op=3→gI nm=true):fR op n nm k=true:=by
 unfold fR;simp;refine⟨⟨⟨⟨⟨h1,by omega⟩,h3⟩,h4⟩,by omega⟩,?_⟩
 by_cases a:op=3
 ·exact .inr (h6 a)
 ·exact .inl a
theorem qE (N:Nat):∀(e:Ex) (B:Nat) (v:Value) (w:World),e.nodes≤N→qs w B e v→B≤w.heap.size→Calls Tryz.prog 180 #[v] w fun en w'=>en= .returned (.bool (bB e))∧Grow w w':=by
 induction N with
 |zero=>intro e B v w hN;have:=e.cO;omega
 |succ N ih=>
 intro e B v w hN hrep hB;obtain⟨A,c,rfl,hv⟩:=hrep.open;have ae:=Below.refl w.heap.size w;have HB1:=hv.name;have HB2:∀d∈([]:List Nat),d<256:=by simp
 have hnl:=hv.Bg;have jV:=hv.jV;have hn1:=hv.n.1;have hn2:=hv.n.2;have hbt:=mZ e
 have hcl:=fun W (hb:Below w.heap.size w W)=>lL 215 [] (fun x=> !bB x) B A c e W (hv.below (hb.mono hB)) (Nat.le_trans hB hb.size) y9 (fun x hx v W2 hb2 hr=>by
  have hxn:=Ex.fS hx;have hrec:=ih x B v;have hs2:=Nat.le_trans hB (Nat.le_trans hb.size hb2.size);obtain⟨Ax,cx,rfl,-⟩:=hr.open;have ae:=Below.refl W2.heap.size W2;have hrec:=fun W3 (hb3:Below W2.heap.size W2 W3)=>hrec W3 (by omega) (hr.below (hb3.mono hs2)) (Nat.le_trans hs2 hb3.size)
  generalize bB x=q at *
  refine Zs 6 Tryz.func215 ?_;refine ao ?_;refine Seq.box rfl rfl rfl rfl rfl ?_;intro g1 w1 n1;have e1:=Nat.le_trans ae.size n1.ge;replace ae:=ae.step n1.below;have k1:=n1.av;refine Za ?_;refine bD 0 1 2 (aG ?_);refine Zv (aa.aQ rfl rfl Tryz.underlying105 rfl k1 (m:=4) (by kernel_rfl) rfl) ?_;refine Zc (Ze Tryz.func180) (hrec _ ae) ?_;rintro en w5 ⟨rfl,hb5⟩;refine⟨_,rfl,?_⟩;replace ae:=ae.step hb5;replace k1:=k1.step hb5;refine Zv (aa.not rfl rfl) ?_;refine Za ?_;refine bD 0 1 2 (Zt (Cd.ret ?_));refine ab.aE rfl rfl (.inl rfl) ?_;exact⟨rfl,ae⟩)
 obtain⟨op,hop⟩:∃op,op=e.op:=⟨_,rfl⟩;obtain⟨n,hn⟩:∃n,n=e.n:=⟨_,rfl⟩;obtain⟨nm,hnm⟩:∃nm,nm=e.name:=⟨_,rfl⟩;obtain⟨k,hk⟩:∃k,k=e.args.length:=⟨_,rfl⟩;rw[←hop,←hn,←hnm,←hk] at hbt;rw[←hnm] at HB1 hnl;rw[←hn] at hn1 hn2;rw[←hk] at jV hcl;rw[←hop,←hn,←hnm,←hk];have hbf:∀_:¬(eG op=(k:Int)∧(n=0∨op=1∨op=2)∧(nm=[]∨op=3)∧0≤n∧(op=2→n≤2932896)∧(op=3→gI nm=true)),bB e=false:=fun h=>by rw[hbt,nZ h];rfl
 generalize bB e=b at *
 refine Zs 60 Tryz.func180 ?_;refine ao ?_;refine Seq.box rfl rfl rfl rfl rfl ?_;intro g1 w1 n1;have e1:=Nat.le_trans ae.size n1.ge;replace ae:=ae.step n1.below;have k1:=n1.av;refine Za ?_;refine bD 0 1 2 (Zt ?_);refine Cd.lz (σ:=Unit) (fun _=>[(1, .pointer (some ⟨g1,0,none⟩))]) (fun _ wr=>(eG op=(k:Int)∧(n=0∨op=1∨op=2)∧(nm=[]∨op=3))∧Below w.heap.size w wr∧aK wr g1 105 #[.int .i64 op, .int .i64 n, .string (strOf nm), .slice A k c]) ?_ ?_
 ·skip
  by_cases h1:eG op=(k:Int)
  ·by_cases h2:n=0
   ·skip
    by_cases h5:nm=[]
    ·skip
     refine Cd.seq ?_;refine Cd.draw 32 (by kernel_rfl) [] (.inl rfl) rfl Grow Grow.refl (fun _ _ _=>Grow.trans) ?_;intro w2 hw2 zw2;replace ae:=ae.step hw2;replace k1:=k1.step hw2;have zbel:=ae.size;have zlt:=k1.lt;refine Dr.val Grow.refl rfl (fun w hG=>aa.an 0 rfl rfl Tryz.underlying105 rfl (by kernel_rfl)) rfl ?_;refine Dr.val Grow.refl rfl (fun w hG=>aa.ag rfl rfl Tryz.underlying3 rfl (k1.step hG) rfl) rfl ?_;refine Dr.bP rfl (fun w=>Ze Tryz.func214) rfl (fun w hG=>dX op w) ?_;refine Dr.val Grow.refl rfl (fun w hG=>aa.an 3 rfl rfl Tryz.underlying105 rfl (by kernel_rfl)) rfl ?_;refine Dr.val Grow.refl rfl (fun w hG=>aa.ag rfl rfl Tryz.underlying68 rfl (k1.step hG) rfl) rfl ?_;refine Dr.val Grow.refl rfl (fun w hG=>aa.len rfl rfl Tryz.underlying68) rfl ?_;refine Dr.val Grow.refl rfl (fun w hG=>(aa.bN rfl rfl rfl).gN (by omega)) rfl ?_;refine Dr.val Grow.refl rfl (fun w hG=>aa.move rfl rfl) rfl ?_;refine Dr.aF Grow.refl rfl (fun w hG=>aa.an 1 rfl rfl Tryz.underlying105 rfl (by kernel_rfl)) rfl rfl rfl ?_;refine Dr.aF Grow.refl rfl (fun w hG=>aa.ag rfl rfl Tryz.underlying2 rfl (k1.step hG) rfl) rfl rfl rfl ?_;refine Dr.aF Grow.refl rfl (fun w hG=>(aa.bN rfl rfl rfl).gN (by omega)) rfl rfl rfl ?_;refine Dr.aF Grow.refl rfl (fun w hG=>aa.move rfl rfl) rfl rfl rfl ?_;refine Dr.skip rfl rfl rfl rfl rfl ?_;refine Dr.skip rfl rfl rfl rfl rfl ?_;refine Dr.skip rfl rfl rfl rfl rfl ?_;refine Dr.aF Grow.refl rfl (fun w hG=>aa.bp rfl rfl rfl) rfl rfl rfl ?_;refine Dr.aF Grow.refl rfl (fun w hG=>aa.move rfl rfl) rfl rfl rfl ?_;refine Dr.skip rfl rfl rfl rfl rfl ?_;refine Dr.skip rfl rfl rfl rfl rfl ?_;refine Dr.skip rfl rfl rfl rfl rfl ?_;refine Dr.aF Grow.refl rfl (fun w hG=>aa.bp rfl rfl rfl) rfl rfl rfl ?_;refine Dr.val Grow.refl rfl (fun w hG=>aa.bp rfl rfl rfl) rfl ?_;refine Dr.val Grow.refl rfl (fun w hG=>aa.move rfl rfl) rfl ?_;refine Dr.aF Grow.refl rfl (fun w hG=>aa.an 2 rfl rfl Tryz.underlying105 rfl (by kernel_rfl)) rfl rfl rfl ?_;refine Dr.aF Grow.refl rfl (fun w hG=>aa.ag rfl rfl Tryz.underlying9 rfl (k1.step hG) rfl) rfl rfl rfl ?_;refine Dr.aF Grow.refl rfl (fun w hG=>(aa.fH (b:=[]) rfl rfl rfl HB1 HB2).gN (by simp[h5])) rfl rfl rfl ?_;refine Dr.aF Grow.refl rfl (fun w hG=>aa.move rfl rfl) rfl rfl rfl ?_;refine Dr.skip rfl rfl rfl rfl rfl ?_;refine Dr.skip rfl rfl rfl rfl rfl ?_;refine Dr.skip rfl rfl rfl rfl rfl ?_;refine Dr.aF Grow.refl rfl (fun w hG=>aa.bp rfl rfl rfl) rfl rfl rfl ?_;refine Dr.val Grow.refl rfl (fun w hG=>aa.bp rfl rfl rfl) rfl ?_;refine Dr.nil ?_;refine ba.done (F':=[(0,_),(1,_),(2,_),(34,_)]) rfl ⟨rfl,rfl,rfl,rfl,trivial⟩ ?_;intro w3 hw3 fw3;replace ae:=ae.step hw3;replace k1:=k1.step hw3;refine aV 0 1 2 34 (Zt ?_);refine Cd.aN rfl rfl ?_;refine Cd.skip ?_;exact ab.join () ⟨rfl,trivial⟩ ⟨⟨h1, .inl h2, .inl h5⟩,ae,k1⟩
    ·by_cases h6:op=3
     ·skip
      refine Cd.seq ?_;refine Cd.draw 32 (by kernel_rfl) [] (.inl rfl) rfl Grow Grow.refl (fun _ _ _=>Grow.trans) ?_;intro w2 hw2 zw2;replace ae:=ae.step hw2;replace k1:=k1.step hw2;have zbel:=ae.size;have zlt:=k1.lt;refine Dr.val Grow.refl rfl (fun w hG=>aa.an 0 rfl rfl Tryz.underlying105 rfl (by kernel_rfl)) rfl ?_;refine Dr.val Grow.refl rfl (fun w hG=>aa.ag rfl rfl Tryz.underlying3 rfl (k1.step hG) rfl) rfl ?_;refine Dr.bP rfl (fun w=>Ze Tryz.func214) rfl (fun w hG=>dX op w) ?_;refine Dr.val Grow.refl rfl (fun w hG=>aa.an 3 rfl rfl Tryz.underlying105 rfl (by kernel_rfl)) rfl ?_;refine Dr.val Grow.refl rfl (fun w hG=>aa.ag rfl rfl Tryz.underlying68 rfl (k1.step hG) rfl) rfl ?_;refine Dr.val Grow.refl rfl (fun w hG=>aa.len rfl rfl Tryz.underlying68) rfl ?_;refine Dr.val Grow.refl rfl (fun w hG=>(aa.bN rfl rfl rfl).gN (by omega)) rfl ?_;refine Dr.val Grow.refl rfl (fun w hG=>aa.move rfl rfl) rfl ?_;refine Dr.aF Grow.refl rfl (fun w hG=>aa.an 1 rfl rfl Tryz.underlying105 rfl (by kernel_rfl)) rfl rfl rfl ?_;refine Dr.aF Grow.refl rfl (fun w hG=>aa.ag rfl rfl Tryz.underlying2 rfl (k1.step hG) rfl) rfl rfl rfl ?_;refine Dr.aF Grow.refl rfl (fun w hG=>(aa.bN rfl rfl rfl).gN (by omega)) rfl rfl rfl ?_;refine Dr.aF Grow.refl rfl (fun w hG=>aa.move rfl rfl) rfl rfl rfl ?_;refine Dr.skip rfl rfl rfl rfl rfl ?_;refine Dr.skip rfl rfl rfl rfl rfl ?_;refine Dr.skip rfl rfl rfl rfl rfl ?_;refine Dr.aF Grow.refl rfl (fun w hG=>aa.bp rfl rfl rfl) rfl rfl rfl ?_;refine Dr.aF Grow.refl rfl (fun w hG=>aa.move rfl rfl) rfl rfl rfl ?_;refine Dr.skip rfl rfl rfl rfl rfl ?_;refine Dr.skip rfl rfl rfl rfl rfl ?_;refine Dr.skip rfl rfl rfl rfl rfl ?_;refine Dr.aF Grow.refl rfl (fun w hG=>aa.bp rfl rfl rfl) rfl rfl rfl ?_;refine Dr.val Grow.refl rfl (fun w hG=>aa.bp rfl rfl rfl) rfl ?_;refine Dr.val Grow.refl rfl (fun w hG=>aa.move rfl rfl) rfl ?_;refine Dr.aF Grow.refl rfl (fun w hG=>aa.an 2 rfl rfl Tryz.underlying105 rfl (by kernel_rfl)) rfl rfl rfl ?_;refine Dr.aF Grow.refl rfl (fun w hG=>aa.ag rfl rfl Tryz.underlying9 rfl (k1.step hG) rfl) rfl rfl rfl ?_;refine Dr.aF Grow.refl rfl (fun w hG=>(aa.fH (b:=[]) rfl rfl rfl HB1 HB2).kE (h5)) rfl rfl rfl ?_;refine Dr.aF Grow.refl rfl (fun w hG=>aa.move rfl rfl) rfl rfl rfl ?_;refine Dr.aF Grow.refl rfl (fun w hG=>aa.an 0 rfl rfl Tryz.underlying105 rfl (by kernel_rfl)) rfl rfl rfl ?_;refine Dr.aF Grow.refl rfl (fun w hG=>aa.ag rfl rfl Tryz.underlying3 rfl (k1.step hG) rfl) rfl rfl rfl ?_;refine Dr.aF Grow.refl rfl (fun w hG=>(aa.bN rfl rfl rfl).gN (by omega)) rfl rfl rfl ?_;refine Dr.aF Grow.refl rfl (fun w hG=>aa.cK rfl rfl rfl) rfl rfl rfl ?_;refine Dr.val Grow.refl rfl (fun w hG=>aa.bp rfl rfl rfl) rfl ?_;refine Dr.nil ?_;refine ba.done (F':=[(0,_),(1,_),(2,_),(34,_)]) rfl ⟨rfl,rfl,rfl,rfl,trivial⟩ ?_;intro w3 hw3 fw3;replace ae:=ae.step hw3;replace k1:=k1.step hw3;refine aV 0 1 2 34 (Zt ?_);refine Cd.aN rfl rfl ?_;refine Cd.skip ?_;exact ab.join () ⟨rfl,trivial⟩ ⟨⟨h1, .inl h2, .inr h6⟩,ae,k1⟩
     ·skip
      refine Cd.seq ?_;refine Cd.draw 32 (by kernel_rfl) [] (.inl rfl) rfl Grow Grow.refl (fun _ _ _=>Grow.trans) ?_;intro w2 hw2 zw2;replace ae:=ae.step hw2;replace k1:=k1.step hw2;have zbel:=ae.size;have zlt:=k1.lt;refine Dr.val Grow.refl rfl (fun w hG=>aa.an 0 rfl rfl Tryz.underlying105 rfl (by kernel_rfl)) rfl ?_;refine Dr.val Grow.refl rfl (fun w hG=>aa.ag rfl rfl Tryz.underlying3 rfl (k1.step hG) rfl) rfl ?_;refine Dr.bP rfl (fun w=>Ze Tryz.func214) rfl (fun w hG=>dX op w) ?_;refine Dr.val Grow.refl rfl (fun w hG=>aa.an 3 rfl rfl Tryz.underlying105 rfl (by kernel_rfl)) rfl ?_;refine Dr.val Grow.refl rfl (fun w hG=>aa.ag rfl rfl Tryz.underlying68 rfl (k1.step hG) rfl) rfl ?_;refine Dr.val Grow.refl rfl (fun w hG=>aa.len rfl rfl Tryz.underlying68) rfl ?_;refine Dr.val Grow.refl rfl (fun w hG=>(aa.bN rfl rfl rfl).gN (by omega)) rfl ?_;refine Dr.val Grow.refl rfl (fun w hG=>aa.move rfl rfl) rfl ?_;refine Dr.aF Grow.refl rfl (fun w hG=>aa.an 1 rfl rfl Tryz.underlying105 rfl (by kernel_rfl)) rfl rfl rfl ?_;refine Dr.aF Grow.refl rfl (fun w hG=>aa.ag rfl rfl Tryz.underlying2 rfl (k1.step hG) rfl) rfl rfl rfl ?_;refine Dr.aF Grow.refl rfl (fun w hG=>(aa.bN rfl rfl rfl).gN (by omega)) rfl rfl rfl ?_;refine Dr.aF Grow.refl rfl (fun w hG=>aa.move rfl rfl) rfl rfl rfl ?_;refine Dr.skip rfl rfl rfl rfl rfl ?_;refine Dr.skip rfl rfl rfl rfl rfl ?_;refine Dr.skip rfl rfl rfl rfl rfl ?_;refine Dr.aF Grow.refl rfl (fun w hG=>aa.bp rfl rfl rfl) rfl rfl rfl ?_;refine Dr.aF Grow.refl rfl (fun w hG=>aa.move rfl rfl) rfl rfl rfl ?_;refine Dr.skip rfl rfl rfl rfl rfl ?_;refine Dr.skip rfl rfl rfl rfl rfl ?_;refine Dr.skip rfl rfl rfl rfl rfl ?_;refine Dr.aF Grow.refl rfl (fun w hG=>aa.bp rfl rfl rfl) rfl rfl rfl ?_;refine Dr.val Grow.refl rfl (fun w hG=>aa.bp rfl rfl rfl) rfl ?_;refine Dr.val Grow.refl rfl (fun w hG=>aa.move rfl rfl) rfl ?_;refine Dr.aF Grow.refl rfl (fun w hG=>aa.an 2 rfl rfl Tryz.underlying105 rfl (by kernel_rfl)) rfl rfl rfl ?_;refine Dr.aF Grow.refl rfl (fun w hG=>aa.ag rfl rfl Tryz.underlying9 rfl (k1.step hG) rfl) rfl rfl rfl ?_;refine Dr.aF Grow.refl rfl (fun w hG=>(aa.fH (b:=[]) rfl rfl rfl HB1 HB2).kE (h5)) rfl rfl rfl ?_;refine Dr.aF Grow.refl rfl (fun w hG=>aa.move rfl rfl) rfl rfl rfl ?_;refine Dr.aF Grow.refl rfl (fun w hG=>aa.an 0 rfl rfl Tryz.underlying105 rfl (by kernel_rfl)) rfl rfl rfl ?_;refine Dr.aF Grow.refl rfl (fun w hG=>aa.ag rfl rfl Tryz.underlying3 rfl (k1.step hG) rfl) rfl rfl rfl ?_;refine Dr.aF Grow.refl rfl (fun w hG=>(aa.bN rfl rfl rfl).kE (h6)) rfl rfl rfl ?_;refine Dr.aF Grow.refl rfl (fun w hG=>aa.cK rfl rfl rfl) rfl rfl rfl ?_;refine Dr.val Grow.refl rfl (fun w hG=>aa.bp rfl rfl rfl) rfl ?_;refine Dr.nil ?_;refine ba.done (F':=[(0,_),(1,_),(2,_),(34,_)]) rfl ⟨rfl,rfl,rfl,rfl,trivial⟩ ?_;intro w3 hw3 fw3;replace ae:=ae.step hw3;replace k1:=k1.step hw3;refine aV 0 1 2 34 (Zt ?_);refine Cd.aX rfl rfl ?_;refine ao ?_;refine Za ?_;refine aV 0 1 2 34 (Zt (Cd.ret (ab.af ?_)));refine ab.aE rfl rfl (.inl rfl) ?_;rw[hbf (by rintro⟨-,-,h,-⟩;rcases h with h|h;exact h5 h;exact h6 h)];exact⟨rfl,ae⟩
   ·by_cases h3:op=1
    ·skip
     by_cases h5:nm=[]
     ·skip
      refine Cd.seq ?_;refine Cd.draw 32 (by kernel_rfl) [] (.inl rfl) rfl Grow Grow.refl (fun _ _ _=>Grow.trans) ?_;intro w2 hw2 zw2;replace ae:=ae.step hw2;replace k1:=k1.step hw2;have zbel:=ae.size;have zlt:=k1.lt;refine Dr.val Grow.refl rfl (fun w hG=>aa.an 0 rfl rfl Tryz.underlying105 rfl (by kernel_rfl)) rfl ?_;refine Dr.val Grow.refl rfl (fun w hG=>aa.ag rfl rfl Tryz.underlying3 rfl (k1.step hG) rfl) rfl ?_;refine Dr.bP rfl (fun w=>Ze Tryz.func214) rfl (fun w hG=>dX op w) ?_;refine Dr.val Grow.refl rfl (fun w hG=>aa.an 3 rfl rfl Tryz.underlying105 rfl (by kernel_rfl)) rfl ?_;refine Dr.val Grow.refl rfl (fun w hG=>aa.ag rfl rfl Tryz.underlying68 rfl (k1.step hG) rfl) rfl ?_;refine Dr.val Grow.refl rfl (fun w hG=>aa.len rfl rfl Tryz.underlying68) rfl ?_;refine Dr.val Grow.refl rfl (fun w hG=>(aa.bN rfl rfl rfl).gN (by omega)) rfl ?_;refine Dr.val Grow.refl rfl (fun w hG=>aa.move rfl rfl) rfl ?_;refine Dr.aF Grow.refl rfl (fun w hG=>aa.an 1 rfl rfl Tryz.underlying105 rfl (by kernel_rfl)) rfl rfl rfl ?_;refine Dr.aF Grow.refl rfl (fun w hG=>aa.ag rfl rfl Tryz.underlying2 rfl (k1.step hG) rfl) rfl rfl rfl ?_;refine Dr.aF Grow.refl rfl (fun w hG=>(aa.bN rfl rfl rfl).kE (h2)) rfl rfl rfl ?_;refine Dr.aF Grow.refl rfl (fun w hG=>aa.move rfl rfl) rfl rfl rfl ?_;refine Dr.aF Grow.refl rfl (fun w hG=>aa.an 0 rfl rfl Tryz.underlying105 rfl (by kernel_rfl)) rfl rfl rfl ?_;refine Dr.aF Grow.refl rfl (fun w hG=>aa.ag rfl rfl Tryz.underlying3 rfl (k1.step hG) rfl) rfl rfl rfl ?_;refine Dr.aF Grow.refl rfl (fun w hG=>(aa.bN rfl rfl rfl).gN (by omega)) rfl rfl rfl ?_;refine Dr.aF Grow.refl rfl (fun w hG=>aa.cK rfl rfl rfl) rfl rfl rfl ?_;refine Dr.aF Grow.refl rfl (fun w hG=>aa.move rfl rfl) rfl rfl rfl ?_;refine Dr.skip rfl rfl rfl rfl rfl ?_;refine Dr.skip rfl rfl rfl rfl rfl ?_;refine Dr.skip rfl rfl rfl rfl rfl ?_;refine Dr.aF Grow.refl rfl (fun w hG=>aa.bp rfl rfl rfl) rfl rfl rfl ?_;refine Dr.val Grow.refl rfl (fun w hG=>aa.bp rfl rfl rfl) rfl ?_;refine Dr.val Grow.refl rfl (fun w hG=>aa.move rfl rfl) rfl ?_;refine Dr.aF Grow.refl rfl (fun w hG=>aa.an 2 rfl rfl Tryz.underlying105 rfl (by kernel_rfl)) rfl rfl rfl ?_;refine Dr.aF Grow.refl rfl (fun w hG=>aa.ag rfl rfl Tryz.underlying9 rfl (k1.step hG) rfl) rfl rfl rfl ?_;refine Dr.aF Grow.refl rfl (fun w hG=>(aa.fH (b:=[]) rfl rfl rfl HB1 HB2).gN (by simp[h5])) rfl rfl rfl ?_;refine Dr.aF Grow.refl rfl (fun w hG=>aa.move rfl rfl) rfl rfl rfl ?_;refine Dr.skip rfl rfl rfl rfl rfl ?_;refine Dr.skip rfl rfl rfl rfl rfl ?_;refine Dr.skip rfl rfl rfl rfl rfl ?_;refine Dr.aF Grow.refl rfl (fun w hG=>aa.bp rfl rfl rfl) rfl rfl rfl ?_;refine Dr.val Grow.refl rfl (fun w hG=>aa.bp rfl rfl rfl) rfl ?_;refine Dr.nil ?_;refine ba.done (F':=[(0,_),(1,_),(2,_),(34,_)]) rfl ⟨rfl,rfl,rfl,rfl,trivial⟩ ?_;intro w3 hw3 fw3;replace ae:=ae.step hw3;replace k1:=k1.step hw3;refine aV 0 1 2 34 (Zt ?_);refine Cd.aN rfl rfl ?_;refine Cd.skip ?_;exact ab.join () ⟨rfl,trivial⟩ ⟨⟨h1, .inr (.inl h3), .inl h5⟩,ae,k1⟩
     ·by_cases h6:op=3
      ·skip
       refine Cd.seq ?_;refine Cd.draw 32 (by kernel_rfl) [] (.inl rfl) rfl Grow Grow.refl (fun _ _ _=>Grow.trans) ?_;intro w2 hw2 zw2;replace ae:=ae.step hw2;replace k1:=k1.step hw2;have zbel:=ae.size;have zlt:=k1.lt;refine Dr.val Grow.refl rfl (fun w hG=>aa.an 0 rfl rfl Tryz.underlying105 rfl (by kernel_rfl)) rfl ?_;refine Dr.val Grow.refl rfl (fun w hG=>aa.ag rfl rfl Tryz.underlying3 rfl (k1.step hG) rfl) rfl ?_;refine Dr.bP rfl (fun w=>Ze Tryz.func214) rfl (fun w hG=>dX op w) ?_;refine Dr.val Grow.refl rfl (fun w hG=>aa.an 3 rfl rfl Tryz.underlying105 rfl (by kernel_rfl)) rfl ?_;refine Dr.val Grow.refl rfl (fun w hG=>aa.ag rfl rfl Tryz.underlying68 rfl (k1.step hG) rfl) rfl ?_;refine Dr.val Grow.refl rfl (fun w hG=>aa.len rfl rfl Tryz.underlying68) rfl ?_;refine Dr.val Grow.refl rfl (fun w hG=>(aa.bN rfl rfl rfl).gN (by omega)) rfl ?_;refine Dr.val Grow.refl rfl (fun w hG=>aa.move rfl rfl) rfl ?_;refine Dr.aF Grow.refl rfl (fun w hG=>aa.an 1 rfl rfl Tryz.underlying105 rfl (by kernel_rfl)) rfl rfl rfl ?_;refine Dr.aF Grow.refl rfl (fun w hG=>aa.ag rfl rfl Tryz.underlying2 rfl (k1.step hG) rfl) rfl rfl rfl ?_;refine Dr.aF Grow.refl rfl (fun w hG=>(aa.bN rfl rfl rfl).kE (h2)) rfl rfl rfl ?_;refine Dr.aF Grow.refl rfl (fun w hG=>aa.move rfl rfl) rfl rfl rfl ?_;refine Dr.aF Grow.refl rfl (fun w hG=>aa.an 0 rfl rfl Tryz.underlying105 rfl (by kernel_rfl)) rfl rfl rfl ?_;refine Dr.aF Grow.refl rfl (fun w hG=>aa.ag rfl rfl Tryz.underlying3 rfl (k1.step hG) rfl) rfl rfl rfl ?_;refine Dr.aF Grow.refl rfl (fun w hG=>(aa.bN rfl rfl rfl).gN (by omega)) rfl rfl rfl ?_;refine Dr.aF Grow.refl rfl (fun w hG=>aa.cK rfl rfl rfl) rfl rfl rfl ?_;refine Dr.aF Grow.refl rfl (fun w hG=>aa.move rfl rfl) rfl rfl rfl ?_;refine Dr.skip rfl rfl rfl rfl rfl ?_;refine Dr.skip rfl rfl rfl rfl rfl ?_;refine Dr.skip rfl rfl rfl rfl rfl ?_;refine Dr.aF Grow.refl rfl (fun w hG=>aa.bp rfl rfl rfl) rfl rfl rfl ?_;refine Dr.val Grow.refl rfl (fun w hG=>aa.bp rfl rfl rfl) rfl ?_;refine Dr.val Grow.refl rfl (fun w hG=>aa.move rfl rfl) rfl ?_;refine Dr.aF Grow.refl rfl (fun w hG=>aa.an 2 rfl rfl Tryz.underlying105 rfl (by kernel_rfl)) rfl rfl rfl ?_;refine Dr.aF Grow.refl rfl (fun w hG=>aa.ag rfl rfl Tryz.underlying9 rfl (k1.step hG) rfl) rfl rfl rfl ?_;refine Dr.aF Grow.refl rfl (fun w hG=>(aa.fH (b:=[]) rfl rfl rfl HB1 HB2).kE (h5)) rfl rfl rfl ?_;refine Dr.aF Grow.refl rfl (fun w hG=>aa.move rfl rfl) rfl rfl rfl ?_;refine Dr.aF Grow.refl rfl (fun w hG=>aa.an 0 rfl rfl Tryz.underlying105 rfl (by kernel_rfl)) rfl rfl rfl ?_;refine Dr.aF Grow.refl rfl (fun w hG=>aa.ag rfl rfl Tryz.underlying3 rfl (k1.step hG) rfl) rfl rfl rfl ?_;refine Dr.aF Grow.refl rfl (fun w hG=>(aa.bN rfl rfl rfl).gN (by omega)) rfl rfl rfl ?_;refine Dr.aF Grow.refl rfl (fun w hG=>aa.cK rfl rfl rfl) rfl rfl rfl ?_;refine Dr.val Grow.refl rfl (fun w hG=>aa.bp rfl rfl rfl) rfl ?_;refine Dr.nil ?_;refine ba.done (F':=[(0,_),(1,_),(2,_),(34,_)]) rfl ⟨rfl,rfl,rfl,rfl,trivial⟩ ?_;intro w3 hw3 fw3;replace ae:=ae.step hw3;replace k1:=k1.step hw3;refine aV 0 1 2 34 (Zt ?_);refine Cd.aN rfl rfl ?_;refine Cd.skip ?_;exact ab.join () ⟨rfl,trivial⟩ ⟨⟨h1, .inr (.inl h3), .inr h6⟩,ae,k1⟩
      ·skip
       refine Cd.seq ?_;refine Cd.draw 32 (by kernel_rfl) [] (.inl rfl) rfl Grow Grow.refl (fun _ _ _=>Grow.trans) ?_;intro w2 hw2 zw2;replace ae:=ae.step hw2;replace k1:=k1.step hw2;have zbel:=ae.size;have zlt:=k1.lt;refine Dr.val Grow.refl rfl (fun w hG=>aa.an 0 rfl rfl Tryz.underlying105 rfl (by kernel_rfl)) rfl ?_;refine Dr.val Grow.refl rfl (fun w hG=>aa.ag rfl rfl Tryz.underlying3 rfl (k1.step hG) rfl) rfl ?_;refine Dr.bP rfl (fun w=>Ze Tryz.func214) rfl (fun w hG=>dX op w) ?_;refine Dr.val Grow.refl rfl (fun w hG=>aa.an 3 rfl rfl Tryz.underlying105 rfl (by kernel_rfl)) rfl ?_;refine Dr.val Grow.refl rfl (fun w hG=>aa.ag rfl rfl Tryz.underlying68 rfl (k1.step hG) rfl) rfl ?_;refine Dr.val Grow.refl rfl (fun w hG=>aa.len rfl rfl Tryz.underlying68) rfl ?_;refine Dr.val Grow.refl rfl (fun w hG=>(aa.bN rfl rfl rfl).gN (by omega)) rfl ?_;refine Dr.val Grow.refl rfl (fun w hG=>aa.move rfl rfl) rfl ?_;refine Dr.aF Grow.refl rfl (fun w hG=>aa.an 1 rfl rfl Tryz.underlying105 rfl (by kernel_rfl)) rfl rfl rfl ?_;refine Dr.aF Grow.refl rfl (fun w hG=>aa.ag rfl rfl Tryz.underlying2 rfl (k1.step hG) rfl) rfl rfl rfl ?_;refine Dr.aF Grow.refl rfl (fun w hG=>(aa.bN rfl rfl rfl).kE (h2)) rfl rfl rfl ?_;refine Dr.aF Grow.refl rfl (fun w hG=>aa.move rfl rfl) rfl rfl rfl ?_;refine Dr.aF Grow.refl rfl (fun w hG=>aa.an 0 rfl rfl Tryz.underlying105 rfl (by kernel_rfl)) rfl rfl rfl ?_;refine Dr.aF Grow.refl rfl (fun w hG=>aa.ag rfl rfl Tryz.underlying3 rfl (k1.step hG) rfl) rfl rfl rfl ?_;refine Dr.aF Grow.refl rfl (fun w hG=>(aa.bN rfl rfl rfl).gN (by omega)) rfl rfl rfl ?_;refine Dr.aF Grow.refl rfl (fun w hG=>aa.cK rfl rfl rfl) rfl rfl rfl ?_;refine Dr.aF Grow.refl rfl (fun w hG=>aa.move rfl rfl) rfl rfl rfl ?_;refine Dr.skip rfl rfl rfl rfl rfl ?_;refine Dr.skip rfl rfl rfl rfl rfl ?_;refine Dr.skip rfl rfl rfl rfl rfl ?_;refine Dr.aF Grow.refl rfl (fun w hG=>aa.bp rfl rfl rfl) rfl rfl rfl ?_;refine Dr.val Grow.refl rfl (fun w hG=>aa.bp rfl rfl rfl) rfl ?_;refine Dr.val Grow.refl rfl (fun w hG=>aa.move rfl rfl) rfl ?_;refine Dr.aF Grow.refl rfl (fun w hG=>aa.an 2 rfl rfl Tryz.underlying105 rfl (by kernel_rfl)) rfl rfl rfl ?_;refine Dr.aF Grow.refl rfl (fun w hG=>aa.ag rfl rfl Tryz.underlying9 rfl (k1.step hG) rfl) rfl rfl rfl ?_;refine Dr.aF Grow.refl rfl (fun w hG=>(aa.fH (b:=[]) rfl rfl rfl HB1 HB2).kE (h5)) rfl rfl rfl ?_;refine Dr.aF Grow.refl rfl (fun w hG=>aa.move rfl rfl) rfl rfl rfl ?_;refine Dr.aF Grow.refl rfl (fun w hG=>aa.an 0 rfl rfl Tryz.underlying105 rfl (by kernel_rfl)) rfl rfl rfl ?_;refine Dr.aF Grow.refl rfl (fun w hG=>aa.ag rfl rfl Tryz.underlying3 rfl (k1.step hG) rfl) rfl rfl rfl ?_;refine Dr.aF Grow.refl rfl (fun w hG=>(aa.bN rfl rfl rfl).kE (h6)) rfl rfl rfl ?_;refine Dr.aF Grow.refl rfl (fun w hG=>aa.cK rfl rfl rfl) rfl rfl rfl ?_;refine Dr.val Grow.refl rfl (fun w hG=>aa.bp rfl rfl rfl) rfl ?_;refine Dr.nil ?_;refine ba.done (F':=[(0,_),(1,_),(2,_),(34,_)]) rfl ⟨rfl,rfl,rfl,rfl,trivial⟩ ?_;intro w3 hw3 fw3;replace ae:=ae.step hw3;replace k1:=k1.step hw3;refine aV 0 1 2 34 (Zt ?_);refine Cd.aX rfl rfl ?_;refine ao ?_;refine Za ?_;refine aV 0 1 2 34 (Zt (Cd.ret (ab.af ?_)));refine ab.aE rfl rfl (.inl rfl) ?_;rw[hbf (by rintro⟨-,-,h,-⟩;rcases h with h|h;exact h5 h;exact h6 h)];exact⟨rfl,ae⟩
    ·by_cases h4:op=2
     ·skip
      by_cases h5:nm=[]
      ·skip
       refine Cd.seq ?_;refine Cd.draw 32 (by kernel_rfl) [] (.inl rfl) rfl Grow Grow.refl (fun _ _ _=>Grow.trans) ?_;intro w2 hw2 zw2;replace ae:=ae.step hw2;replace k1:=k1.step hw2;have zbel:=ae.size;have zlt:=k1.lt;refine Dr.val Grow.refl rfl (fun w hG=>aa.an 0 rfl rfl Tryz.underlying105 rfl (by kernel_rfl)) rfl ?_;refine Dr.val Grow.refl rfl (fun w hG=>aa.ag rfl rfl Tryz.underlying3 rfl (k1.step hG) rfl) rfl ?_;refine Dr.bP rfl (fun w=>Ze Tryz.func214) rfl (fun w hG=>dX op w) ?_;refine Dr.val Grow.refl rfl (fun w hG=>aa.an 3 rfl rfl Tryz.underlying105 rfl (by kernel_rfl)) rfl ?_;refine Dr.val Grow.refl rfl (fun w hG=>aa.ag rfl rfl Tryz.underlying68 rfl (k1.step hG) rfl) rfl ?_;refine Dr.val Grow.refl rfl (fun w hG=>aa.len rfl rfl Tryz.underlying68) rfl ?_;refine Dr.val Grow.refl rfl (fun w hG=>(aa.bN rfl rfl rfl).gN (by omega)) rfl ?_;refine Dr.val Grow.refl rfl (fun w hG=>aa.move rfl rfl) rfl ?_;refine Dr.aF Grow.refl rfl (fun w hG=>aa.an 1 rfl rfl Tryz.underlying105 rfl (by kernel_rfl)) rfl rfl rfl ?_;refine Dr.aF Grow.refl rfl (fun w hG=>aa.ag rfl rfl Tryz.underlying2 rfl (k1.step hG) rfl) rfl rfl rfl ?_;refine Dr.aF Grow.refl rfl (fun w hG=>(aa.bN rfl rfl rfl).kE (h2)) rfl rfl rfl ?_;refine Dr.aF Grow.refl rfl (fun w hG=>aa.move rfl rfl) rfl rfl rfl ?_;refine Dr.aF Grow.refl rfl (fun w hG=>aa.an 0 rfl rfl Tryz.underlying105 rfl (by kernel_rfl)) rfl rfl rfl ?_;refine Dr.aF Grow.refl rfl (fun w hG=>aa.ag rfl rfl Tryz.underlying3 rfl (k1.step hG) rfl) rfl rfl rfl ?_;refine Dr.aF Grow.refl rfl (fun w hG=>(aa.bN rfl rfl rfl).kE (h3)) rfl rfl rfl ?_;refine Dr.aF Grow.refl rfl (fun w hG=>aa.cK rfl rfl rfl) rfl rfl rfl ?_;refine Dr.aF Grow.refl rfl (fun w hG=>aa.move rfl rfl) rfl rfl rfl ?_;refine Dr.aF Grow.refl rfl (fun w hG=>aa.an 0 rfl rfl Tryz.underlying105 rfl (by kernel_rfl)) rfl rfl rfl ?_;refine Dr.aF Grow.refl rfl (fun w hG=>aa.ag rfl rfl Tryz.underlying3 rfl (k1.step hG) rfl) rfl rfl rfl ?_;refine Dr.aF Grow.refl rfl (fun w hG=>(aa.bN rfl rfl rfl).gN (by omega)) rfl rfl rfl ?_;refine Dr.aF Grow.refl rfl (fun w hG=>aa.cK rfl rfl rfl) rfl rfl rfl ?_;refine Dr.val Grow.refl rfl (fun w hG=>aa.bp rfl rfl rfl) rfl ?_;refine Dr.val Grow.refl rfl (fun w hG=>aa.move rfl rfl) rfl ?_;refine Dr.aF Grow.refl rfl (fun w hG=>aa.an 2 rfl rfl Tryz.underlying105 rfl (by kernel_rfl)) rfl rfl rfl ?_;refine Dr.aF Grow.refl rfl (fun w hG=>aa.ag rfl rfl Tryz.underlying9 rfl (k1.step hG) rfl) rfl rfl rfl ?_;refine Dr.aF Grow.refl rfl (fun w hG=>(aa.fH (b:=[]) rfl rfl rfl HB1 HB2).gN (by simp[h5])) rfl rfl rfl ?_;refine Dr.aF Grow.refl rfl (fun w hG=>aa.move rfl rfl) rfl rfl rfl ?_;refine Dr.skip rfl rfl rfl rfl rfl ?_;refine Dr.skip rfl rfl rfl rfl rfl ?_;refine Dr.skip rfl rfl rfl rfl rfl ?_;refine Dr.aF Grow.refl rfl (fun w hG=>aa.bp rfl rfl rfl) rfl rfl rfl ?_;refine Dr.val Grow.refl rfl (fun w hG=>aa.bp rfl rfl rfl) rfl ?_;refine Dr.nil ?_;refine ba.done (F':=[(0,_),(1,_),(2,_),(34,_)]) rfl ⟨rfl,rfl,rfl,rfl,trivial⟩ ?_;intro w3 hw3 fw3;replace ae:=ae.step hw3;replace k1:=k1.step hw3;refine aV 0 1 2 34 (Zt ?_);refine Cd.aN rfl rfl ?_;refine Cd.skip ?_;exact ab.join () ⟨rfl,trivial⟩ ⟨⟨h1, .inr (.inr h4), .inl h5⟩,ae,k1⟩
      ·by_cases h6:op=3
       ·skip
        refine Cd.seq ?_;refine Cd.draw 32 (by kernel_rfl) [] (.inl rfl) rfl Grow Grow.refl (fun _ _ _=>Grow.trans) ?_;intro w2 hw2 zw2;replace ae:=ae.step hw2;replace k1:=k1.step hw2;have zbel:=ae.size;have zlt:=k1.lt;refine Dr.val Grow.refl rfl (fun w hG=>aa.an 0 rfl rfl Tryz.underlying105 rfl (by kernel_rfl)) rfl ?_;refine Dr.val Grow.refl rfl (fun w hG=>aa.ag rfl rfl Tryz.underlying3 rfl (k1.step hG) rfl) rfl ?_;refine Dr.bP rfl (fun w=>Ze Tryz.func214) rfl (fun w hG=>dX op w) ?_;refine Dr.val Grow.refl rfl (fun w hG=>aa.an 3 rfl rfl Tryz.underlying105 rfl (by kernel_rfl)) rfl ?_;refine Dr.val Grow.refl rfl (fun w hG=>aa.ag rfl rfl Tryz.underlying68 rfl (k1.step hG) rfl) rfl ?_;refine Dr.val Grow.refl rfl (fun w hG=>aa.len rfl rfl Tryz.underlying68) rfl ?_;refine Dr.val Grow.refl rfl (fun w hG=>(aa.bN rfl rfl rfl).gN (by omega)) rfl ?_;refine Dr.val Grow.refl rfl (fun w hG=>aa.move rfl rfl) rfl ?_;refine Dr.aF Grow.refl rfl (fun w hG=>aa.an 1 rfl rfl Tryz.underlying105 rfl (by kernel_rfl)) rfl rfl rfl ?_;refine Dr.aF Grow.refl rfl (fun w hG=>aa.ag rfl rfl Tryz.underlying2 rfl (k1.step hG) rfl) rfl rfl rfl ?_;refine Dr.aF Grow.refl rfl (fun w hG=>(aa.bN rfl rfl rfl).kE (h2)) rfl rfl rfl ?_;refine Dr.aF Grow.refl rfl (fun w hG=>aa.move rfl rfl) rfl rfl rfl ?_;refine Dr.aF Grow.refl rfl (fun w hG=>aa.an 0 rfl rfl Tryz.underlying105 rfl (by kernel_rfl)) rfl rfl rfl ?_;refine Dr.aF Grow.refl rfl (fun w hG=>aa.ag rfl rfl Tryz.underlying3 rfl (k1.step hG) rfl) rfl rfl rfl ?_;refine Dr.aF Grow.refl rfl (fun w hG=>(aa.bN rfl rfl rfl).kE (h3)) rfl rfl rfl ?_;refine Dr.aF Grow.refl rfl (fun w hG=>aa.cK rfl rfl rfl) rfl rfl rfl ?_;refine Dr.aF Grow.refl rfl (fun w hG=>aa.move rfl rfl) rfl rfl rfl ?_;refine Dr.aF Grow.refl rfl (fun w hG=>aa.an 0 rfl rfl Tryz.underlying105 rfl (by kernel_rfl)) rfl rfl rfl ?_;refine Dr.aF Grow.refl rfl (fun w hG=>aa.ag rfl rfl Tryz.underlying3 rfl (k1.step hG) rfl) rfl rfl rfl ?_;refine Dr.aF Grow.refl rfl (fun w hG=>(aa.bN rfl rfl rfl).gN (by omega)) rfl rfl rfl ?_;refine Dr.aF Grow.refl rfl (fun w hG=>aa.cK rfl rfl rfl) rfl rfl rfl ?_;refine Dr.val Grow.refl rfl (fun w hG=>aa.bp rfl rfl rfl) rfl ?_;refine Dr.val Grow.refl rfl (fun w hG=>aa.move rfl rfl) rfl ?_;refine Dr.aF Grow.refl rfl (fun w hG=>aa.an 2 rfl rfl Tryz.underlying105 rfl (by kernel_rfl)) rfl rfl rfl ?_;refine Dr.aF Grow.refl rfl (fun w hG=>aa.ag rfl rfl Tryz.underlying9 rfl (k1.step hG) rfl) rfl rfl rfl ?_;refine Dr.aF Grow.refl rfl (fun w hG=>(aa.fH (b:=[]) rfl rfl rfl HB1 HB2).kE (h5)) rfl rfl rfl ?_;refine Dr.aF Grow.refl rfl (fun w hG=>aa.move rfl rfl) rfl rfl rfl ?_;refine Dr.aF Grow.refl rfl (fun w hG=>aa.an 0 rfl rfl Tryz.underlying105 rfl (by kernel_rfl)) rfl rfl rfl ?_;refine Dr.aF Grow.refl rfl (fun w hG=>aa.ag rfl rfl Tryz.underlying3 rfl (k1.step hG) rfl) rfl rfl rfl ?_;refine Dr.aF Grow.refl rfl (fun w hG=>(aa.bN rfl rfl rfl).gN (by omega)) rfl rfl rfl ?_;refine Dr.aF Grow.refl rfl (fun w hG=>aa.cK rfl rfl rfl) rfl rfl rfl ?_;refine Dr.val Grow.refl rfl (fun w hG=>aa.bp rfl rfl rfl) rfl ?_;refine Dr.nil ?_;refine ba.done (F':=[(0,_),(1,_),(2,_),(34,_)]) rfl ⟨rfl,rfl,rfl,rfl,trivial⟩ ?_;intro w3 hw3 fw3;replace ae:=ae.step hw3;replace k1:=k1.step hw3;refine aV 0 1 2 34 (Zt ?_);refine Cd.aN rfl rfl ?_;refine Cd.skip ?_;exact ab.join () ⟨rfl,trivial⟩ ⟨⟨h1, .inr (.inr h4), .inr h6⟩,ae,k1⟩
       ·skip
        refine Cd.seq ?_;refine Cd.draw 32 (by kernel_rfl) [] (.inl rfl) rfl Grow Grow.refl (fun _ _ _=>Grow.trans) ?_;intro w2 hw2 zw2;replace ae:=ae.step hw2;replace k1:=k1.step hw2;have zbel:=ae.size;have zlt:=k1.lt;refine Dr.val Grow.refl rfl (fun w hG=>aa.an 0 rfl rfl Tryz.underlying105 rfl (by kernel_rfl)) rfl ?_;refine Dr.val Grow.refl rfl (fun w hG=>aa.ag rfl rfl Tryz.underlying3 rfl (k1.step hG) rfl) rfl ?_;refine Dr.bP rfl (fun w=>Ze Tryz.func214) rfl (fun w hG=>dX op w) ?_;refine Dr.val Grow.refl rfl (fun w hG=>aa.an 3 rfl rfl Tryz.underlying105 rfl (by kernel_rfl)) rfl ?_;refine Dr.val Grow.refl rfl (fun w hG=>aa.ag rfl rfl Tryz.underlying68 rfl (k1.step hG) rfl) rfl ?_;refine Dr.val Grow.refl rfl (fun w hG=>aa.len rfl rfl Tryz.underlying68) rfl ?_;refine Dr.val Grow.refl rfl (fun w hG=>(aa.bN rfl rfl rfl).gN (by omega)) rfl ?_;refine Dr.val Grow.refl rfl (fun w hG=>aa.move rfl rfl) rfl ?_;refine Dr.aF Grow.refl rfl (fun w hG=>aa.an 1 rfl rfl Tryz.underlying105 rfl (by kernel_rfl)) rfl rfl rfl ?_;refine Dr.aF Grow.refl rfl (fun w hG=>aa.ag rfl rfl Tryz.underlying2 rfl (k1.step hG) rfl) rfl rfl rfl ?_;refine Dr.aF Grow.refl rfl (fun w hG=>(aa.bN rfl rfl rfl).kE (h2)) rfl rfl rfl ?_;refine Dr.aF Grow.refl rfl (fun w hG=>aa.move rfl rfl) rfl rfl rfl ?_;refine Dr.aF Grow.refl rfl (fun w hG=>aa.an 0 rfl rfl Tryz.underlying105 rfl (by kernel_rfl)) rfl rfl rfl ?_;refine Dr.aF Grow.refl rfl (fun w hG=>aa.ag rfl rfl Tryz.underlying3 rfl (k1.step hG) rfl) rfl rfl rfl ?_;refine Dr.aF Grow.refl rfl (fun w hG=>(aa.bN rfl rfl rfl).kE (h3)) rfl rfl rfl ?_;refine Dr.aF Grow.refl rfl (fun w hG=>aa.cK rfl rfl rfl) rfl rfl rfl ?_;refine Dr.aF Grow.refl rfl (fun w hG=>aa.move rfl rfl) rfl rfl rfl ?_;refine Dr.aF Grow.refl rfl (fun w hG=>aa.an 0 rfl rfl Tryz.underlying105 rfl (by kernel_rfl)) rfl rfl rfl ?_;refine Dr.aF Grow.refl rfl (fun w hG=>aa.ag rfl rfl Tryz.underlying3 rfl (k1.step hG) rfl) rfl rfl rfl ?_;refine Dr.aF Grow.refl rfl (fun w hG=>(aa.bN rfl rfl rfl).gN (by omega)) rfl rfl rfl ?_;refine Dr.aF Grow.refl rfl (fun w hG=>aa.cK rfl rfl rfl) rfl rfl rfl ?_;refine Dr.val Grow.refl rfl (fun w hG=>aa.bp rfl rfl rfl) rfl ?_;refine Dr.val Grow.refl rfl (fun w hG=>aa.move rfl rfl) rfl ?_;refine Dr.aF Grow.refl rfl (fun w hG=>aa.an 2 rfl rfl Tryz.underlying105 rfl (by kernel_rfl)) rfl rfl rfl ?_;refine Dr.aF Grow.refl rfl (fun w hG=>aa.ag rfl rfl Tryz.underlying9 rfl (k1.step hG) rfl) rfl rfl rfl ?_;refine Dr.aF Grow.refl rfl (fun w hG=>(aa.fH (b:=[]) rfl rfl rfl HB1 HB2).kE (h5)) rfl rfl rfl ?_;refine Dr.aF Grow.refl rfl (fun w hG=>aa.move rfl rfl) rfl rfl rfl ?_;refine Dr.aF Grow.refl rfl (fun w hG=>aa.an 0 rfl rfl Tryz.underlying105 rfl (by kernel_rfl)) rfl rfl rfl ?_;refine Dr.aF Grow.refl rfl (fun w hG=>aa.ag rfl rfl Tryz.underlying3 rfl (k1.step hG) rfl) rfl rfl rfl ?_;refine Dr.aF Grow.refl rfl (fun w hG=>(aa.bN rfl rfl rfl).kE (h6)) rfl rfl rfl ?_;refine Dr.aF Grow.refl rfl (fun w hG=>aa.cK rfl rfl rfl) rfl rfl rfl ?_;refine Dr.val Grow.refl rfl (fun w hG=>aa.bp rfl rfl rfl) rfl ?_;refine Dr.nil ?_;refine ba.done (F':=[(0,_),(1,_),(2,_),(34,_)]) rfl ⟨rfl,rfl,rfl,rfl,trivial⟩ ?_;intro w3 hw3 fw3;replace ae:=ae.step hw3;replace k1:=k1.step hw3;refine aV 0 1 2 34 (Zt ?_);refine Cd.aX rfl rfl ?_;refine ao ?_;refine Za ?_;refine aV 0 1 2 34 (Zt (Cd.ret (ab.af ?_)));refine ab.aE rfl rfl (.inl rfl) ?_;rw[hbf (by rintro⟨-,-,h,-⟩;rcases h with h|h;exact h5 h;exact h6 h)];exact⟨rfl,ae⟩
     ·skip
      refine Cd.seq ?_;refine Cd.draw 32 (by kernel_rfl) [] (.inl rfl) rfl Grow Grow.refl (fun _ _ _=>Grow.trans) ?_;intro w2 hw2 zw2;replace ae:=ae.step hw2;replace k1:=k1.step hw2;have zbel:=ae.size;have zlt:=k1.lt;refine Dr.val Grow.refl rfl (fun w hG=>aa.an 0 rfl rfl Tryz.underlying105 rfl (by kernel_rfl)) rfl ?_;refine Dr.val Grow.refl rfl (fun w hG=>aa.ag rfl rfl Tryz.underlying3 rfl (k1.step hG) rfl) rfl ?_;refine Dr.bP rfl (fun w=>Ze Tryz.func214) rfl (fun w hG=>dX op w) ?_;refine Dr.val Grow.refl rfl (fun w hG=>aa.an 3 rfl rfl Tryz.underlying105 rfl (by kernel_rfl)) rfl ?_;refine Dr.val Grow.refl rfl (fun w hG=>aa.ag rfl rfl Tryz.underlying68 rfl (k1.step hG) rfl) rfl ?_;refine Dr.val Grow.refl rfl (fun w hG=>aa.len rfl rfl Tryz.underlying68) rfl ?_;refine Dr.val Grow.refl rfl (fun w hG=>(aa.bN rfl rfl rfl).gN (by omega)) rfl ?_;refine Dr.val Grow.refl rfl (fun w hG=>aa.move rfl rfl) rfl ?_;refine Dr.aF Grow.refl rfl (fun w hG=>aa.an 1 rfl rfl Tryz.underlying105 rfl (by kernel_rfl)) rfl rfl rfl ?_;refine Dr.aF Grow.refl rfl (fun w hG=>aa.ag rfl rfl Tryz.underlying2 rfl (k1.step hG) rfl) rfl rfl rfl ?_;refine Dr.aF Grow.refl rfl (fun w hG=>(aa.bN rfl rfl rfl).kE (h2)) rfl rfl rfl ?_;refine Dr.aF Grow.refl rfl (fun w hG=>aa.move rfl rfl) rfl rfl rfl ?_;refine Dr.aF Grow.refl rfl (fun w hG=>aa.an 0 rfl rfl Tryz.underlying105 rfl (by kernel_rfl)) rfl rfl rfl ?_;refine Dr.aF Grow.refl rfl (fun w hG=>aa.ag rfl rfl Tryz.underlying3 rfl (k1.step hG) rfl) rfl rfl rfl ?_;refine Dr.aF Grow.refl rfl (fun w hG=>(aa.bN rfl rfl rfl).kE (h3)) rfl rfl rfl ?_;refine Dr.aF Grow.refl rfl (fun w hG=>aa.cK rfl rfl rfl) rfl rfl rfl ?_;refine Dr.aF Grow.refl rfl (fun w hG=>aa.move rfl rfl) rfl rfl rfl ?_;refine Dr.aF Grow.refl rfl (fun w hG=>aa.an 0 rfl rfl Tryz.underlying105 rfl (by kernel_rfl)) rfl rfl rfl ?_;refine Dr.aF Grow.refl rfl (fun w hG=>aa.ag rfl rfl Tryz.underlying3 rfl (k1.step hG) rfl) rfl rfl rfl ?_;refine Dr.aF Grow.refl rfl (fun w hG=>(aa.bN rfl rfl rfl).kE (h4)) rfl rfl rfl ?_;refine Dr.aF Grow.refl rfl (fun w hG=>aa.cK rfl rfl rfl) rfl rfl rfl ?_;refine Dr.val Grow.refl rfl (fun w hG=>aa.bp rfl rfl rfl) rfl ?_;refine Dr.val Grow.refl rfl (fun w hG=>aa.move rfl rfl) rfl ?_;refine Dr.skip rfl rfl rfl rfl rfl ?_;refine Dr.skip rfl rfl rfl rfl rfl ?_;refine Dr.skip rfl rfl rfl rfl rfl ?_;refine Dr.skip rfl rfl rfl rfl rfl ?_;refine Dr.jW rfl rfl rfl rfl ?_;refine Dr.jW rfl rfl rfl rfl ?_;refine Dr.jW rfl rfl rfl rfl ?_;refine Dr.skip rfl rfl rfl rfl rfl ?_;refine Dr.val Grow.refl rfl (fun w hG=>aa.cK rfl rfl rfl) rfl ?_;refine Dr.nil ?_;refine ba.done (F':=[(0,_),(1,_),(2,_),(34,_)]) rfl ⟨rfl,rfl,rfl,rfl,trivial⟩ ?_;intro w3 hw3 fw3;replace ae:=ae.step hw3;replace k1:=k1.step hw3;refine aV 0 1 2 34 (Zt ?_);refine Cd.aX rfl rfl ?_;refine ao ?_;refine Za ?_;refine aV 0 1 2 34 (Zt (Cd.ret (ab.af ?_)));refine ab.aE rfl rfl (.inl rfl) ?_;rw[hbf (by rintro⟨-,h,-⟩;omega)];exact⟨rfl,ae⟩
  ·skip
   refine Cd.seq ?_;refine Cd.draw 32 (by kernel_rfl) [] (.inl rfl) rfl Grow Grow.refl (fun _ _ _=>Grow.trans) ?_;intro w2 hw2 zw2;replace ae:=ae.step hw2;replace k1:=k1.step hw2;have zbel:=ae.size;have zlt:=k1.lt;refine Dr.val Grow.refl rfl (fun w hG=>aa.an 0 rfl rfl Tryz.underlying105 rfl (by kernel_rfl)) rfl ?_;refine Dr.val Grow.refl rfl (fun w hG=>aa.ag rfl rfl Tryz.underlying3 rfl (k1.step hG) rfl) rfl ?_;refine Dr.bP rfl (fun w=>Ze Tryz.func214) rfl (fun w hG=>dX op w) ?_;refine Dr.val Grow.refl rfl (fun w hG=>aa.an 3 rfl rfl Tryz.underlying105 rfl (by kernel_rfl)) rfl ?_;refine Dr.val Grow.refl rfl (fun w hG=>aa.ag rfl rfl Tryz.underlying68 rfl (k1.step hG) rfl) rfl ?_;refine Dr.val Grow.refl rfl (fun w hG=>aa.len rfl rfl Tryz.underlying68) rfl ?_;refine Dr.val Grow.refl rfl (fun w hG=>(aa.bN rfl rfl rfl).kE (h1)) rfl ?_;refine Dr.val Grow.refl rfl (fun w hG=>aa.move rfl rfl) rfl ?_;refine Dr.skip rfl rfl rfl rfl rfl ?_;refine Dr.skip rfl rfl rfl rfl rfl ?_;refine Dr.skip rfl rfl rfl rfl rfl ?_;refine Dr.skip rfl rfl rfl rfl rfl ?_;refine Dr.jW rfl rfl rfl rfl ?_;refine Dr.jW rfl rfl rfl rfl ?_;refine Dr.jW rfl rfl rfl rfl ?_;refine Dr.skip rfl rfl rfl rfl rfl ?_;refine Dr.skip rfl rfl rfl rfl rfl ?_;refine Dr.jW rfl rfl rfl rfl ?_;refine Dr.jW rfl rfl rfl rfl ?_;refine Dr.jW rfl rfl rfl rfl ?_;refine Dr.skip rfl rfl rfl rfl rfl ?_;refine Dr.val Grow.refl rfl (fun w hG=>aa.cK rfl rfl rfl) rfl ?_;refine Dr.val Grow.refl rfl (fun w hG=>aa.move rfl rfl) rfl ?_;refine Dr.skip rfl rfl rfl rfl rfl ?_;refine Dr.skip rfl rfl rfl rfl rfl ?_;refine Dr.skip rfl rfl rfl rfl rfl ?_;refine Dr.skip rfl rfl rfl rfl rfl ?_;refine Dr.jW rfl rfl rfl rfl ?_;refine Dr.jW rfl rfl rfl rfl ?_;refine Dr.jW rfl rfl rfl rfl ?_;refine Dr.skip rfl rfl rfl rfl rfl ?_;refine Dr.val Grow.refl rfl (fun w hG=>aa.cK rfl rfl rfl) rfl ?_;refine Dr.nil ?_;refine ba.done (F':=[(0,_),(1,_),(2,_),(34,_)]) rfl ⟨rfl,rfl,rfl,rfl,trivial⟩ ?_;intro w3 hw3 fw3;replace ae:=ae.step hw3;replace k1:=k1.step hw3;refine aV 0 1 2 34 (Zt ?_);refine Cd.aX rfl rfl ?_;refine ao ?_;refine Za ?_;refine aV 0 1 2 34 (Zt (Cd.ret (ab.af ?_)));refine ab.aE rfl rfl (.inl rfl) ?_;rw[hbf (by rintro⟨h,-⟩;exact h1 h)];exact⟨rfl,ae⟩
 clear ae k1;rintro⟨⟩ wr ⟨⟨a1,a2,a3⟩,ae,k1⟩;refine Cd.seq (Cd.block (Cd.seq (ao ?_)));refine Zf 1 Tryz.underlying105 ?_;refine Zv (aa.ag rfl rfl Tryz.underlying2 rfl k1 rfl) ?_;refine Zv (aa.lss rfl rfl rfl) ?_;refine Za ?_;refine eh 1 35 (Zt ?_);refine Cd.au rfl (fun hc=> ?_) (fun hc=> ?_)
 ·skip
  refine Cd.skip (Zt ?_);refine Cd.aX rfl (decide_eq_true (by assumption)) ?_;refine ao ?_;refine Za ?_;refine bD 1 2 35 (Zt (Cd.ret (ab.ak (ab.af ?_))));refine ab.aE rfl rfl (.inl rfl) ?_;rw[hbf (by omega)];exact⟨rfl,ae⟩
 ·skip
  refine ao ?_;refine Zf 0 Tryz.underlying105 ?_;refine Zv (aa.ag rfl rfl Tryz.underlying3 rfl k1 rfl) ?_;refine Zv (aa.aB rfl rfl rfl) ?_;refine Zm ?_;refine ah.start ?_;refine bM (fun hcx=>aa.an 1 rfl rfl Tryz.underlying105 rfl (by kernel_rfl)) ?_;refine ah.next rfl rfl rfl rfl rfl rfl rfl (fun hcx=>aa.ag rfl rfl Tryz.underlying2 rfl k1 rfl) ?_;refine ah.next rfl rfl rfl rfl rfl rfl rfl (fun hcx=>aa.gtr rfl rfl rfl) ?_;refine ah.and rfl rfl rfl rfl rfl rfl rfl ?_;refine Za ?_;refine eh 1 35 (Zt ?_);refine Cd.cond rfl (fun h=> ?_) (fun h=> ?_)
  ·skip
   refine Cd.skip (Zt ?_);refine Cd.aX rfl h ?_;refine ao ?_;refine Za ?_;refine bD 1 2 35 (Zt (Cd.ret (ab.ak (ab.af ?_))));refine ab.aE rfl rfl (.inl rfl) ?_;simp at h;rw[hbf (by omega)];exact⟨rfl,ae⟩
  ·simp at h
   refine Zr ?_;refine Zf 0 Tryz.underlying105 ?_;refine Zv (aa.ag rfl rfl Tryz.underlying3 rfl k1 rfl) ?_;refine Zv (aa.aB rfl rfl rfl) ?_;refine Zm ?_;refine ah.start ?_;refine bM (fun hcx=>aa.an 2 rfl rfl Tryz.underlying105 rfl (by kernel_rfl)) ?_;refine ah.next rfl rfl rfl rfl rfl rfl rfl (fun hcx=>aa.ag rfl rfl Tryz.underlying9 rfl k1 rfl) ?_;refine ah.bY rfl rfl rfl rfl rfl rfl rfl (fun hcx=>Ze Tryz.func188) (fun hcx=>tT nm _ HB1 hnl) ?_;intro w2 hw2;replace ae:=ae.step hw2;replace k1:=k1.step hw2;refine ah.next rfl rfl rfl rfl rfl rfl rfl (fun hcx=>aa.not rfl rfl) ?_;refine ah.and rfl rfl rfl rfl rfl rfl rfl ?_;refine Za ?_;refine eh 1 35 (Zt ?_);refine Cd.cond rfl (fun h2=> ?_) (fun h2=> ?_)
   ·skip
    refine ao ?_;refine Za ?_;refine bD 1 2 35 (Zt (Cd.ret (ab.ak (ab.af ?_))));refine ab.aE rfl rfl (.inl rfl) ?_;simp at h2;rw[hbf (by rintro⟨-,-,-,-,-,h7⟩;rw[h7 h2.1] at h2;cases h2.2)];exact⟨rfl,ae⟩
   ·have hh:=vW a1 a2 a3 (by omega) (by omega) (fun h3=>by simp at h2;exact h2 h3)
    refine Cd.skip (ab.aj (aG ?_));refine Zf 3 Tryz.underlying105 ?_;refine Zv (aa.ag rfl rfl Tryz.underlying68 rfl k1 rfl) ?_;refine Zc (Ze Tryz.func107) (hcl _ ae) ?_;rintro en w9 ⟨rfl,hb9⟩;refine⟨_,rfl,?_⟩;replace ae:=ae.step hb9;replace k1:=k1.step hb9;refine Zv (aa.not rfl rfl) ?_;refine Za ?_;refine bD 1 2 35 (Zt (Cd.ret ?_));refine ab.aE rfl rfl (.inl rfl) ?_;refine⟨bw (aL ?_),ae⟩;rw[hbt,hh,Bool.true_and]
    induction e.args with
    |nil=>rfl
    |cons x r ih=>simp only[List.any_cons,List.all_cons,Bool.not_or,Bool.not_not,ih]
def ic (y:Int):Bool:=decide (y%4=0)&&(decide (y%100≠0)||decide (y%400=0))
def bS (y m:Int):Int:=if m=2 then(if ic y then 29 else 28) else if m=4∨m=6∨m=9∨m=11 then 30 else if m=1∨m=3∨m=5∨m=7∨m=8∨m=10∨m=12 then 31 else 0
theorem zH (y:Int)(w:World)(h0:0≤y):Calls Tryz.prog 256 #[.int .i64 y] w fun e w'=>e= .returned (.bool (ic y))∧w=w':=by
 refine Zs 16 Tryz.func256 ?_;refine ao ?_;refine Za ?_;refine eh 0 2 (aG ?_);refine Zm ?_;refine Zv (aa.iK rfl rfl rfl (by omega) (by omega)) ?_;refine Zv (aa.aB rfl rfl rfl) ?_;refine Zm ?_;refine ah.start ?_;refine bM (fun hcx=>aa.move rfl rfl) ?_;refine ah.next rfl rfl rfl rfl rfl rfl rfl (fun hcx=>aa.iK rfl rfl rfl (by omega) (by omega)) ?_;refine ah.next rfl rfl rfl rfl rfl rfl rfl (fun hcx=>aa.bN rfl rfl rfl) ?_;refine ah.next rfl rfl rfl rfl rfl rfl rfl (fun hcx=>aa.move rfl rfl) ?_;refine bM (fun hcx=>aa.move rfl rfl) ?_;refine ah.next rfl rfl rfl rfl rfl rfl rfl (fun hcx=>aa.iK rfl rfl rfl (by omega) (by omega)) ?_;refine ah.next rfl rfl rfl rfl rfl rfl rfl (fun hcx=>aa.aB rfl rfl rfl) ?_;refine ah.zo rfl rfl rfl rfl rfl rfl rfl rfl rfl rfl rfl ?_;refine ah.and rfl rfl rfl rfl rfl rfl rfl ?_;refine Za ?_;refine eh 0 2 (Zt (Cd.ret ?_));refine ab.aE rfl rfl (.inl rfl) ?_;refine⟨bw (aL ?_),rfl⟩;unfold ic;rw[Bool.eq_iff_iff]
theorem zA (y m:Int)(w:World)(h0:0≤y):Calls Tryz.prog 251 #[.int .i64 y, .int .i64 m] w fun e w'=>e= .returned (.int .i64 (bS y m))∧w=w':=by
 refine Zs 23 Tryz.func251 ?_;refine ao ?_;refine Za ?_;refine bD 0 1 4 (aJ (ao ?_));refine Zm ?_;refine aV 0 1 4 5 (Zt (Cd.block (ao ?_)));refine Zv (aa.aB rfl rfl rfl) ?_;refine Za ?_;refine aU 0 1 4 5 6 (Zt ?_);refine Cd.au rfl (fun h=> ?_) (fun h=> ?_)
 ·subst h
  refine Cd.seq (ao ?_);refine Zm ?_;refine Zc (Ze Tryz.func256) (zH y _ h0) ?_;rintro e w2 ⟨rfl,rfl⟩;refine⟨_,rfl,?_⟩;refine bj 0 1 4 5 6 9 (Zt ?_);refine Cd.cond rfl (fun h2=> ?_) (fun h2=> ?_)
  ·skip
   refine ao ?_;refine Za ?_;refine bj 0 1 4 5 6 9 (Zt (Cd.ret (ab.af (ab.ak (ab.af ?_)))));refine ab.aE rfl rfl (.inl rfl) ?_;exact⟨bw (int_eq (by unfold bS;rw[if_pos rfl,if_pos h2])),rfl⟩
  ·skip
   refine Cd.skip (aG ?_);refine Za ?_;refine bj 0 1 4 5 6 9 (Zt (Cd.ret (ab.ak (ab.af ?_))));refine ab.aE rfl rfl (.inl rfl) ?_;exact⟨bw (int_eq (by unfold bS;rw[if_pos rfl,h2];rfl)),rfl⟩
 refine Cd.seq (ao ?_);refine Zv (aa.aB rfl rfl rfl) ?_;refine Za ?_;refine bj 0 1 4 5 6 10 (Zt ?_);refine Cd.au rfl (fun a4=> ?_) (fun a4=> ?_)
 ·skip
  refine Cd.skip (Zt ?_);refine Cd.aX rfl (decide_eq_true a4) ?_;refine ao ?_;refine Za ?_;refine bj 0 1 4 5 6 10 (Zt (Cd.ret (ab.ak (ab.af ?_))));refine ab.aE rfl rfl (.inl rfl) ?_;exact⟨bw (int_eq (by unfold bS;rw[if_neg h,if_pos (by omega)])),rfl⟩
 refine ao ?_;refine Zv (aa.aB rfl rfl rfl) ?_;refine Za ?_;refine bj 0 1 4 5 6 10 (Zt ?_);refine Cd.au rfl (fun a6=> ?_) (fun a6=> ?_)
 ·skip
  refine Cd.skip (Zt ?_);refine Cd.aX rfl (decide_eq_true a6) ?_;refine ao ?_;refine Za ?_;refine bj 0 1 4 5 6 10 (Zt (Cd.ret (ab.ak (ab.af ?_))));refine ab.aE rfl rfl (.inl rfl) ?_;exact⟨bw (int_eq (by unfold bS;rw[if_neg h,if_pos (by omega)])),rfl⟩
 refine ao ?_;refine Zv (aa.aB rfl rfl rfl) ?_;refine Za ?_;refine bj 0 1 4 5 6 10 (Zt ?_);refine Cd.au rfl (fun a9=> ?_) (fun a9=> ?_)
 ·skip
  refine Cd.skip (Zt ?_);refine Cd.aX rfl (decide_eq_true a9) ?_;refine ao ?_;refine Za ?_;refine bj 0 1 4 5 6 10 (Zt (Cd.ret (ab.ak (ab.af ?_))));refine ab.aE rfl rfl (.inl rfl) ?_;exact⟨bw (int_eq (by unfold bS;rw[if_neg h,if_pos (by omega)])),rfl⟩
 refine Zr ?_;refine Zv (aa.aB rfl rfl rfl) ?_;refine Za ?_;refine bj 0 1 4 5 6 10 (Zt ?_);refine Cd.au rfl (fun a11=> ?_) (fun a11=> ?_)
 ·skip
  refine ao ?_;refine Za ?_;refine bj 0 1 4 5 6 10 (Zt (Cd.ret (ab.ak (ab.af ?_))));refine ab.aE rfl rfl (.inl rfl) ?_;exact⟨bw (int_eq (by unfold bS;rw[if_neg h,if_pos (by omega)])),rfl⟩
 refine Cd.seq (ao ?_);refine Zv (aa.aB rfl rfl rfl) ?_;refine Za ?_;refine bb 0 1 4 5 6 10 15 (Zt ?_);refine Cd.au rfl (fun a1=> ?_) (fun a1=> ?_)
 ·skip
  refine Cd.skip (Zt ?_);refine Cd.aX rfl (decide_eq_true a1) ?_;refine ao ?_;refine Za ?_;refine bb 0 1 4 5 6 10 15 (Zt (Cd.ret (ab.ak (ab.af ?_))));refine ab.aE rfl rfl (.inl rfl) ?_;exact⟨bw (int_eq (by unfold bS;rw[if_neg h,if_neg (by omega),if_pos (by omega)])),rfl⟩
 refine ao ?_;refine Zv (aa.aB rfl rfl rfl) ?_;refine Za ?_;refine bb 0 1 4 5 6 10 15 (Zt ?_);refine Cd.au rfl (fun a3=> ?_) (fun a3=> ?_)
 ·skip
  refine Cd.skip (Zt ?_);refine Cd.aX rfl (decide_eq_true a3) ?_;refine ao ?_;refine Za ?_;refine bb 0 1 4 5 6 10 15 (Zt (Cd.ret (ab.ak (ab.af ?_))));refine ab.aE rfl rfl (.inl rfl) ?_;exact⟨bw (int_eq (by unfold bS;rw[if_neg h,if_neg (by omega),if_pos (by omega)])),rfl⟩
 refine ao ?_;refine Zv (aa.aB rfl rfl rfl) ?_;refine Za ?_;refine bb 0 1 4 5 6 10 15 (Zt ?_);refine Cd.au rfl (fun a5=> ?_) (fun a5=> ?_)
 ·skip
  refine Cd.skip (Zt ?_);refine Cd.aX rfl (decide_eq_true a5) ?_;refine ao ?_;refine Za ?_;refine bb 0 1 4 5 6 10 15 (Zt (Cd.ret (ab.ak (ab.af ?_))));refine ab.aE rfl rfl (.inl rfl) ?_;exact⟨bw (int_eq (by unfold bS;rw[if_neg h,if_neg (by omega),if_pos (by omega)])),rfl⟩
 refine ao ?_;refine Zv (aa.aB rfl rfl rfl) ?_;refine Za ?_;refine bb 0 1 4 5 6 10 15 (Zt ?_);refine Cd.au rfl (fun a7=> ?_) (fun a7=> ?_)
 ·skip
  refine Cd.skip (Zt ?_);refine Cd.aX rfl (decide_eq_true a7) ?_;refine ao ?_;refine Za ?_;refine bb 0 1 4 5 6 10 15 (Zt (Cd.ret (ab.ak (ab.af ?_))));refine ab.aE rfl rfl (.inl rfl) ?_;exact⟨bw (int_eq (by unfold bS;rw[if_neg h,if_neg (by omega),if_pos (by omega)])),rfl⟩
 refine ao ?_;refine Zv (aa.aB rfl rfl rfl) ?_;refine Za ?_;refine bb 0 1 4 5 6 10 15 (Zt ?_);refine Cd.au rfl (fun a8=> ?_) (fun a8=> ?_)
 ·skip
  refine Cd.skip (Zt ?_);refine Cd.aX rfl (decide_eq_true a8) ?_;refine ao ?_;refine Za ?_;refine bb 0 1 4 5 6 10 15 (Zt (Cd.ret (ab.ak (ab.af ?_))));refine ab.aE rfl rfl (.inl rfl) ?_;exact⟨bw (int_eq (by unfold bS;rw[if_neg h,if_neg (by omega),if_pos (by omega)])),rfl⟩
 refine ao ?_;refine Zv (aa.aB rfl rfl rfl) ?_;refine Za ?_;refine bb 0 1 4 5 6 10 15 (Zt ?_);refine Cd.au rfl (fun a10=> ?_) (fun a10=> ?_)
 ·skip
  refine Cd.skip (Zt ?_);refine Cd.aX rfl (decide_eq_true a10) ?_;refine ao ?_;refine Za ?_;refine bb 0 1 4 5 6 10 15 (Zt (Cd.ret (ab.ak (ab.af ?_))));refine ab.aE rfl rfl (.inl rfl) ?_;exact⟨bw (int_eq (by unfold bS;rw[if_neg h,if_neg (by omega),if_pos (by omega)])),rfl⟩
 refine Zr ?_;refine Zv (aa.aB rfl rfl rfl) ?_;refine Za ?_;refine bb 0 1 4 5 6 10 15 (Zt ?_);refine Cd.au rfl (fun a12=> ?_) (fun a12=> ?_)
 ·skip
  refine ao ?_;refine Za ?_;refine bb 0 1 4 5 6 10 15 (Zt (Cd.ret (ab.ak (ab.af ?_))));refine ab.aE rfl rfl (.inl rfl) ?_;exact⟨bw (int_eq (by unfold bS;rw[if_neg h,if_neg (by omega),if_pos (by omega)])),rfl⟩
 refine Cd.skip (ab.aj (aG ?_));refine Za ?_;refine bb 0 1 4 5 6 10 15 (Zt (Cd.ret ?_));refine ab.aE rfl rfl (.inl rfl) ?_;exact⟨bw (int_eq (by unfold bS;rw[if_neg h,if_neg (by omega),if_neg (by omega)])),rfl⟩
def fB (y m d:Int):Bool:=decide (1970≤y)&&decide (y≤9999)&&decide (1≤d)&&decide (d≤bS y m)
def rM (y m:Int):Int:=if m<3 then y-1 else y
def ofM (m:Int):Int:=if m<3 then m+9 else m-3
def fe (y m d:Int):Int:=rM y m/400*146097+(rM y m%400*365+rM y m%400/4-rM y m%400/100+((153*ofM m+2)/5+d-1))-719468
theorem kZ {y m:Int}(h:0<bS y m):1≤m∧m≤12∧bS y m≤31:=by
 unfold bS at *;split
 ·split<;>omega
 ·split
  ·omega
  ·split
   ·omega
   ·rename_i h1 h2 h3
    rw[if_neg h1,if_neg h2,if_neg h3] at h;omega
theorem vU (y m d:Int)(w:World)(hy:bt y)(hm: -100≤m∧m≤100)(hd:bt d):
  Calls Tryz.prog 244 #[.int .i64 y, .int .i64 m, .int .i64 d] w fun e w'=>e= .returned (.tuple #[.int .i64 (if fB y m d then fe y m d else 0), .bool (fB y m d)])∧Grow w w':=by
 have ae:=Below.refl w.heap.size w;unfold bt at hy hd
 by_cases hy2:y<1970∨9999<y
 ·have hf:fB y m d=false:=by
   unfold fB;rw[Bool.eq_false_iff];simp;omega
  rw[hf];refine Zs 64 Tryz.func244 ?_;refine ao ?_;refine Za ?_;refine Za ?_;refine aU 0 1 2 6 7 (aJ (ao ?_));refine Zm ?_;refine Zv (aa.lss rfl rfl rfl) ?_;refine Zm ?_;refine ah.start ?_;refine bM (fun hcx=>aa.move rfl rfl) ?_;refine ah.next rfl rfl rfl rfl rfl rfl rfl (fun hcx=>aa.gtr rfl rfl rfl) ?_;refine ah.or rfl rfl rfl rfl rfl rfl rfl ?_;refine Zm ?_;refine ah.start ?_;refine bM (fun hcx=>aa.move rfl rfl) ?_;refine ah.next rfl rfl rfl rfl rfl rfl rfl (fun hcx=>aa.lss rfl rfl rfl) ?_;refine ah.or rfl rfl rfl rfl rfl rfl rfl ?_;refine Zm ?_;refine ah.start ?_;refine bM (fun hcx=>aa.move rfl rfl) ?_;refine ah.next rfl rfl rfl rfl rfl rfl rfl (fun hcx=>aa.move rfl rfl) ?_;refine ah.next rfl rfl rfl rfl rfl rfl rfl (fun hcx=>aa.move rfl rfl) ?_;refine ah.bY rfl rfl rfl rfl rfl rfl rfl (fun hcx=>Ze Tryz.func251) (fun hcx=>(by exfalso;simp[cG] at hcx;omega:Calls _ _ _ _ (fun e w'=>e= .returned (.int .i64 0)∧Grow _ w'))) ?_;intro w1 hw1;replace ae:=ae.step hw1;refine ah.next rfl rfl rfl rfl rfl rfl rfl (fun hcx=>aa.gtr rfl rfl rfl) ?_;refine ah.or rfl rfl rfl rfl rfl rfl rfl ?_;refine bj 0 1 2 6 7 28 (Zt ?_);refine Cd.aX rfl (by simp;omega) ?_;refine ao ?_;refine Za ?_;refine Za ?_;refine bj 0 1 2 6 7 28 (Zt (Cd.ret (ab.af ?_)));refine ab.bf rfl rfl rfl (.inl rfl) ?_;exact⟨rfl,ae⟩
 have hdc:=fun w=>(zA y m w (by omega)).mono (fun e w' (h:e= .returned (.int .i64 (bS y m))∧w=w')=>(⟨h.1,by rw[←h.2];exact Grow.refl _⟩:e= .returned (.int .i64 (bS y m))∧Grow w w'));refine Zs 64 Tryz.func244 ?_;refine ao ?_;refine Za ?_;refine Za ?_;refine aU 0 1 2 6 7 (aJ (ao ?_));refine Zm ?_;refine Zv (aa.lss rfl rfl rfl) ?_;refine Zm ?_;refine ah.start ?_;refine bM (fun hcx=>aa.move rfl rfl) ?_;refine ah.next rfl rfl rfl rfl rfl rfl rfl (fun hcx=>aa.gtr rfl rfl rfl) ?_;refine ah.or rfl rfl rfl rfl rfl rfl rfl ?_;refine Zm ?_;refine ah.start ?_;refine bM (fun hcx=>aa.move rfl rfl) ?_;refine ah.next rfl rfl rfl rfl rfl rfl rfl (fun hcx=>aa.lss rfl rfl rfl) ?_;refine ah.or rfl rfl rfl rfl rfl rfl rfl ?_;refine Zm ?_;refine ah.start ?_;refine bM (fun hcx=>aa.move rfl rfl) ?_;refine ah.next rfl rfl rfl rfl rfl rfl rfl (fun hcx=>aa.move rfl rfl) ?_;refine ah.next rfl rfl rfl rfl rfl rfl rfl (fun hcx=>aa.move rfl rfl) ?_;refine ah.bY rfl rfl rfl rfl rfl rfl rfl (fun hcx=>Ze Tryz.func251) (fun hcx=>hdc _) ?_;intro w1 hw1;replace ae:=ae.step hw1;refine ah.next rfl rfl rfl rfl rfl rfl rfl (fun hcx=>aa.gtr rfl rfl rfl) ?_;refine ah.or rfl rfl rfl rfl rfl rfl rfl ?_;refine bj 0 1 2 6 7 28 (Zt ?_);refine Cd.cond rfl (fun h=> ?_) (fun h=> ?_)
 ·have hf:fB y m d=false:=by
   unfold fB;rw[Bool.eq_false_iff];simp at h⊢;omega
  rw[hf];refine ao ?_;refine Za ?_;refine Za ?_;refine bj 0 1 2 6 7 28 (Zt (Cd.ret (ab.af ?_)));refine ab.bf rfl rfl rfl (.inl rfl) ?_;exact⟨rfl,ae⟩
 have hd2:1≤d∧d≤bS y m:=by
  simp at h;omega
 have hok:fB y m d=true:=by
  unfold fB;simp;omega
 rw[hok,if_pos rfl];obtain⟨m1,m2,m3⟩:=kZ (y:=y) (m:=m) (by omega);have hz:fe y m d=rM y m/400*146097+(rM y m%400*365+rM y m%400/4-rM y m%400/100+((153*ofM m+2)/5+d-1))-719468:=rfl;have hY:1969≤rM y m∧rM y m≤9999:=by unfold rM;split<;>omega
 have hM:0≤ofM m∧ofM m≤11:=by unfold ofM;split<;>omega
 have eY:rM y m=if m<3 then y-1 else y:=rfl;have eM:ofM m=if m<3 then m+9 else m-3:=rfl
 generalize rM y m=Y at *
 generalize ofM m=M at *
 refine Cd.skip (aG ?_);refine Zm ?_;refine Zm ?_;refine Zv (aa.eU rfl rfl rfl (by omega) (by omega)) ?_;refine Za ?_;refine Za ?_;refine cI 0 1 2 6 7 8 9 28 (Zt ?_);refine Cd.lz (σ:=Unit) (fun _=>[(2, .int .i64 d),(8, .int .i64 Y),(9, .int .i64 M)]) (fun _ wr=>Below w.heap.size w wr) ?_ ?_
 ·skip
  refine ao ?_;refine Zm ?_;refine Zv (aa.lss rfl rfl rfl) ?_;refine dG 0 1 2 6 7 8 9 28 33 (Zt ?_);refine Cd.au rfl (fun hc=> ?_) (fun hc=> ?_)
  ·skip
   refine Zr ?_;refine Zm ?_;refine Zv (aa.eU rfl rfl rfl (by omega) (by omega)) ?_;refine Zm ?_;refine cH ?_;refine Za ?_;refine Za ?_;refine dG 0 1 2 6 7 8 9 28 33 ?_;exact ab.join () ⟨rfl,congrArg (fun z=>some (Value.int .i64 z)) (by rw[eY,if_pos (by omega)]),congrArg (fun z=>some (Value.int .i64 z)) (by rw[eM,if_pos (by omega)];omega),trivial⟩ ae
  ·skip
   refine Cd.skip ?_;exact ab.join () ⟨rfl,congrArg (fun z=>some (Value.int .i64 z)) (by rw[eY,if_neg (by omega)]),congrArg (fun z=>some (Value.int .i64 z)) (by rw[eM,if_neg (by omega)]),trivial⟩ ae
 clear ae;rintro⟨⟩ wr ae;refine ao ?_;refine Zm ?_;refine Zv (aa.rZ rfl rfl rfl (by omega) (by omega)) ?_;refine cH ?_;refine Zv (aa.lB rfl rfl rfl (by omega) (by omega) (by omega)) ?_;refine Zm ?_;refine cH ?_;refine Zv (aa.eU rfl rfl rfl (by omega) (by omega)) ?_;refine Za ?_;refine aV 2 8 9 10 (aG ?_);refine Zm ?_;refine Zv (aa.iK rfl rfl rfl (by omega) (by omega)) ?_;refine Zv (aa.rZ rfl rfl rfl (by omega) (by omega)) ?_;refine Zm ?_;refine Zv (aa.iK rfl rfl rfl (by omega) (by omega)) ?_;refine Zv (aa.lB rfl rfl rfl (by omega) (by omega) (by omega)) ?_;refine cH ?_;refine Zm ?_;refine Zv (aa.iK rfl rfl rfl (by omega) (by omega)) ?_;refine Zv (aa.lB rfl rfl rfl (by omega) (by omega) (by omega)) ?_;refine Zv (aa.eU rfl rfl rfl (by omega) (by omega)) ?_;refine Zm ?_;refine cH ?_;refine Za ?_;refine aU 2 8 9 10 11 (aG ?_);refine Zm ?_;refine Zv (aa.lB rfl rfl rfl (by omega) (by omega) (by omega)) ?_;refine Zv (aa.rZ rfl rfl rfl (by omega) (by omega)) ?_;refine Zm ?_;refine cH ?_;refine Zv (aa.eU rfl rfl rfl (by omega) (by omega)) ?_;refine Za ?_;refine Za ?_;refine bb 2 6 7 8 9 10 11 (Zt (Cd.ret ?_));refine ab.bf rfl rfl rfl (.inl rfl) ?_;exact⟨by rw[hz],ae⟩
def dZ (l:List Nat):Int:=if l.all eZ then(dx l:Int) else -1
theorem BV (l:List Nat)(h:l.length≤4): -1≤dZ l∧dZ l≤9999:=by
 unfold dZ;split
 ·rename_i ha
  have:=oD l (fun c hc=>by
   have:=List.all_eq_true.1 ha c hc;unfold eZ at this;simp at this;exact this)
  have h2:10^l.length≤10^4:=Nat.pow_le_pow_right (by omega) h;omega
 ·omega
theorem sP (l:List Nat)(h:l.length≤2): -1≤dZ l∧dZ l≤99:=by
 unfold dZ;split
 ·rename_i ha
  have:=oD l (fun c hc=>by
   have:=List.all_eq_true.1 ha c hc;unfold eZ at this;simp at this;exact this)
  have h2:10^l.length≤10^2:=Nat.pow_le_pow_right (by omega) h;omega
 ·omega
theorem jG (g:Nat)(l:List Nat)(i j:Nat)(w:World)(hl:∀x∈l,x<256)(hg:aK w g 9 #[.string (strOf l)]) (hi:i≤j) (hj:j≤l.length) (h4:j≤i+4):
  Calls Tryz.prog 243 #[.int .i64 (i:Int), .int .i64 (j:Int), .pointer (some ⟨g,0,none⟩)] w fun e w'=>e= .returned (.int .i64 (dZ ((l.take j).drop i)))∧Grow w w':=by
 have ae:=Below.refl w.heap.size w;have hll:l.length≤9223372036854775807∨9223372036854775807<l.length:=by omega
 have hM:∀x∈(l.take j).drop i,x<256:=jP (iF hl j) i;have hMl:((l.take j).drop i).length≤4:=by rw[List.length_drop,List.length_take];omega
 have kg:=hg;refine Zs 33 Tryz.func243 ?_;refine ao ?_;refine Za ?_;refine aV 0 1 2 5 (aG ?_);refine Za ?_;refine aU 0 1 2 5 6 (aJ (ao ?_));refine Zv (aa.ag rfl rfl Tryz.underlying9 rfl kg rfl) ?_;refine Zm ?_;refine Zm ?_;refine Zv (aa.kJ (i:=i) (j:=j) rfl rfl rfl rfl Tryz.underlying9 rfl rfl hi hj) ?_
 generalize (l.take j).drop i=M at *
 refine Seq.vL rfl rfl Tryz.underlying9 Tryz.underlying64 Tryz.underlying5 hM rfl rfl rfl ?_;intro g13 c13 w13 hc13 n13;replace ae:=ae.step n13.below;have hrd13:=n13.reads;have hB13:=n13.lt;refine Zv (aa.len rfl rfl Tryz.underlying64) ?_;refine Zm ?_;refine cI 0 1 2 5 6 13 14 15 (Zt (Cd.block ?_))
 refine Cd.loop (σ:=Nat) (fun k=>[(6, .int .i64 ((dx (M.take k):Nat):Int)),(13, .slice (some ⟨g13,0,none⟩) M.length c13),(14, .int .i64 (M.length:Int)),(15, .int .i64 (k:Int))])
  (fun k wr=>k≤M.length∧(∀c∈M.take k,fJ c)∧Below w.heap.size w wr∧Below w13.heap.size w13 wr) (fun k=>M.length-k) 0 ⟨by omega,by simp,ae,Below.refl _ _⟩ ⟨rfl,rfl,rfl,rfl,trivial⟩ ?_
 clear ae;rintro k wr ⟨hk,hdg,ae,bl13⟩;have hvl:=oD (M.take k) hdg;rw[List.length_take,Nat.min_eq_left hk] at hvl;have h10:10^k≤10^4:=Nat.pow_le_pow_right (by omega) (by omega);refine ao ?_;refine Zv (aa.lss rfl rfl rfl) ?_;refine aU 6 13 14 15 16 (aJ ?_);refine Cd.au rfl (fun hc=> ?_) (fun hc=> ?_)
 ·obtain⟨c,hcc⟩:∃c,M[k]? =some c:=⟨_,List.getElem?_eq_getElem (show k<M.length by omega)⟩
  have hc256:=hM c (List.mem_of_getElem? hcc)
  have hcell:wr.cell? (Addr.add ⟨g13,0,none⟩ k)=some (.int .u8 (c:Int)):=by
   obtain⟨ad,e,hb,hcs⟩:=hrd13.2 (by omega);injection e with e
   subst e;rw[bl13.cell (by rw[aw];exact hB13)];exact hcs k _ (by rw[mV,hcc];rfl)
  have htk:M.take (k+1)=M.take k++[c]:=by rw[List.take_add_one,hcc];rfl
  have hvs:dx (M.take (k+1))=10*dx (M.take k)+(c-48):=by rw[htk,np]
  generalize hV:dx (M.take k)=V at *
  refine Cd.skip (aJ (Cd.block (ao ?_)));refine Zv (aa.iM rfl rfl rfl Tryz.underlying64 (by kernel_rfl) (j:=k) rfl (by omega)) ?_;refine Zv (aa.iu rfl rfl Tryz.underlying5 rfl hcell) ?_;refine Za ?_;refine bj 6 8 13 14 15 16 (aJ (ao ?_));refine Zm ?_;refine Zv (aa.lss rfl rfl rfl) ?_;refine Zm ?_;refine ah.start ?_;refine bM (fun hcx=>aa.move rfl rfl) ?_;refine ah.next rfl rfl rfl rfl rfl rfl rfl (fun hcx=>aa.gtr rfl rfl rfl) ?_;refine ah.or rfl rfl rfl rfl rfl rfl rfl ?_;refine bb 6 8 13 14 15 16 24 (Zt ?_);refine Cd.cond rfl (fun h=> ?_) (fun h=> ?_)
  ·have hno:¬M.all eZ=true:=by
    intro ha;have:=List.all_eq_true.1 ha c (List.mem_of_getElem? hcc);unfold eZ at this;simp at this h;omega
   refine ao ?_;refine Za ?_;refine cI 5 6 8 13 14 15 16 24 (Zt (Cd.ret (ab.af (ab.ak (ab.af (ab.bF (ab.ak (ab.af ?_))))))));refine ab.aE rfl rfl (.inl rfl) ?_;exact⟨bw (int_eq (by unfold dZ;rw[if_neg hno])),ae⟩
  ·have hcd:fJ c:=by unfold fJ;simp at h;omega
   have hcd2:=hcd;unfold fJ at hcd2;clear h;refine Cd.skip (ei ?_);refine Zm ?_;refine Zv (aa.rZ rfl rfl rfl (by omega) (by omega)) ?_;refine Zm ?_;refine Zv (aa.AO rfl rfl rfl (jq (by omega) (by omega))) ?_;refine Zv (aa.fb rfl rfl Tryz.underlying5 Tryz.underlying3 (mJ (by omega) (by omega))) ?_;refine cH ?_;refine Za ?_;refine bb 6 8 13 14 15 16 24 (ab.aj (ei ?_));refine cH ?_;refine Zm ?_;refine bb 6 8 13 14 15 16 24 ?_;refine ab.round (k+1) ⟨congrArg (fun x=>some (Value.int .i64 x)) (show(10*(V:Int)+((c:Int)-48))=((dx (M.take (k+1)):Nat):Int) by omega),rfl,rfl,rfl,trivial⟩ ⟨by omega,?_,ae,bl13⟩ (by omega);intro x hx;rw[htk] at hx;rcases List.mem_append.1 hx with h|h
   ·exact hdg x h
   ·simp at h;subst h;exact hcd
 ·obtain rfl:k=M.length:=by omega
  rw[List.take_of_length_le (Nat.le_refl _)] at hdg⊢
  have hall:M.all eZ=true:=by
   rw[List.all_eq_true];intro c hc;have:=hdg c hc;unfold fJ at this;unfold eZ;simp;omega
  refine Cd.exit (ab.aD (ab.aA (ab.az (aG ?_))));refine Zm ?_;refine Za ?_;refine bj 5 6 13 14 15 16 (Zt (Cd.ret ?_));refine ab.aE rfl rfl (.inl rfl) ?_;exact⟨bw (int_eq (by unfold dZ;rw[if_pos hall])),ae⟩
theorem kN:∀args w,(callFunc 243 args).run Tryz.prog w= .ok (.enter 243 args) w:=fun args w=>bG Tryz.func243 (by kernel_rfl) rfl args w
def cZ (l:List Nat):Bool:=decide (l.length=10)&&decide (l[4]? =some 45)&&decide (l[7]? =some 45)&&fB (dZ ((l.take 4).drop 0)) (dZ ((l.take 7).drop 5)) (dZ ((l.take 10).drop 8))
def eL (l:List Nat):Int:=if cZ l then fe (dZ ((l.take 4).drop 0)) (dZ ((l.take 7).drop 5)) (dZ ((l.take 10).drop 8)) else 0
theorem qP (l:List Nat)(w:World)(hl:∀x∈l,x<256)(hlen:l.length≤9223372036854775807):
  Calls Tryz.prog 239 #[.string (strOf l)] w fun e w'=>e= .returned (.tuple #[.int .i64 (eL l), .bool (cZ l)])∧Grow w w':=by
 have ae:=Below.refl w.heap.size w
 by_cases h10:l.length=10
 ·obtain⟨c4,h4⟩:∃c,l[4]? =some c:=⟨_,List.getElem?_eq_getElem (by omega)⟩
  obtain⟨c7,h7⟩:∃c,l[7]? =some c:=⟨_,List.getElem?_eq_getElem (by omega)⟩;have hc4:=hl c4 (List.mem_of_getElem? h4);have hc7:=hl c7 (List.mem_of_getElem? h7);refine Zs 28 Tryz.func239 ?_;refine ao ?_;refine Seq.box rfl rfl rfl rfl rfl ?_;intro g1 w1 n1;have e1:=Nat.le_trans ae.size n1.ge;replace ae:=ae.step n1.below;have k1:=n1.av;refine Za ?_;refine Za ?_;refine aV 0 1 2 3 (aJ (ao ?_));refine Zv (aa.ag rfl rfl Tryz.underlying9 rfl k1 rfl) ?_;refine Zv (aa.dh rfl rfl Tryz.underlying9) ?_;refine Zv (aa.bN rfl rfl rfl) ?_;refine Zm ?_;refine ah.start ?_;refine bM (fun hcx=>aa.ag rfl rfl Tryz.underlying9 rfl k1 rfl) ?_;refine ah.next rfl rfl rfl rfl rfl rfl rfl (fun hcx=>aa.cQ (l:=l) (j:=4) rfl rfl rfl Tryz.underlying9 rfl h4 hc4) ?_;refine ah.next rfl rfl rfl rfl rfl rfl rfl (fun hcx=>aa.bN rfl rfl rfl) ?_;refine ah.or rfl rfl rfl rfl rfl rfl rfl ?_;refine Zm ?_;refine ah.start ?_;refine bM (fun hcx=>aa.ag rfl rfl Tryz.underlying9 rfl k1 rfl) ?_;refine ah.next rfl rfl rfl rfl rfl rfl rfl (fun hcx=>aa.cQ (l:=l) (j:=7) rfl rfl rfl Tryz.underlying9 rfl h7 hc7) ?_;refine ah.next rfl rfl rfl rfl rfl rfl rfl (fun hcx=>aa.bN rfl rfl rfl) ?_;refine ah.or rfl rfl rfl rfl rfl rfl rfl ?_;refine aU 0 1 2 3 17 (Zt ?_);refine Cd.cond rfl (fun h=> ?_) (fun h=> ?_)
  ·have hf:cZ l=false:=by
    rw[Bool.eq_false_iff];intro h2;unfold cZ at h2;rw[h4,h7] at h2;simp at h2 h;omega
   have hz:eL l=0:=by unfold eL;rw[hf];rfl
   rw[hf,hz];refine ao ?_;refine Za ?_;refine Za ?_;refine aU 0 1 2 3 17 (Zt (Cd.ret (ab.af ?_)));refine ab.bf rfl rfl rfl (.inl rfl) ?_;exact⟨rfl,ae⟩
  ·have h45:c4=45∧c7=45:=by simp at h;omega
   have hok:cZ l=fB (dZ ((l.take 4).drop 0)) (dZ ((l.take 7).drop 5)) (dZ ((l.take 10).drop 8)):=by
    unfold cZ;rw[h4,h7,h45.1,h45.2,h10];simp
   unfold eL;rw[hok];have d1:=BV ((l.take 4).drop 0) (by rw[List.length_drop,List.length_take];omega);have d2:=sP ((l.take 7).drop 5) (by rw[List.length_drop,List.length_take];omega);have d3:=sP ((l.take 10).drop 8) (by rw[List.length_drop,List.length_take];omega);have p1:=fun w (k1:aK w g1 9 #[.string (strOf l)])=>jG g1 l 0 4 w hl k1 (by omega) (by omega) (by omega);have p2:=fun w (k1:aK w g1 9 #[.string (strOf l)])=>jG g1 l 5 7 w hl k1 (by omega) (by omega) (by omega);have p3:=fun w (k1:aK w g1 9 #[.string (strOf l)])=>jG g1 l 8 10 w hl k1 (by omega) (by omega) (by omega)
   generalize dZ ((l.take 4).drop 0)=y at *
   generalize dZ ((l.take 7).drop 5)=m at *
   generalize dZ ((l.take 10).drop 8)=d at *
   refine Cd.skip (aG ?_);refine Zv (aa.makeFunc rfl (show iG _ _=some [] from rfl) (show iG _ _=some [.pointer (some ⟨g1,0,none⟩)] from rfl) rfl) ?_;refine Za ?_;refine bj 0 1 2 3 4 17 (aG ?_);refine Zm ?_;refine Seq.call (Enters.value (first:=[]) (cap:=[.pointer (some ⟨g1,0,none⟩)]) rfl rfl rfl kN) rfl rfl rfl (p1 _ k1) ?_;rintro e w5 ⟨rfl,hb5⟩;refine⟨_,rfl,?_⟩;replace ae:=ae.step hb5;replace k1:=k1.step hb5;refine Zm ?_;refine Seq.call (Enters.value (first:=[]) (cap:=[.pointer (some ⟨g1,0,none⟩)]) rfl rfl rfl kN) rfl rfl rfl (p2 _ k1) ?_;rintro e w6 ⟨rfl,hb6⟩;refine⟨_,rfl,?_⟩;replace ae:=ae.step hb6;replace k1:=k1.step hb6;refine Zm ?_;refine Seq.call (Enters.value (first:=[]) (cap:=[.pointer (some ⟨g1,0,none⟩)]) rfl rfl rfl kN) rfl rfl rfl (p3 _ k1) ?_;rintro e w7 ⟨rfl,hb7⟩;refine⟨_,rfl,?_⟩;replace ae:=ae.step hb7;replace k1:=k1.step hb7;refine Zc (Ze Tryz.func244) (vU y m d _ (by unfold bt;omega) (by omega) (by unfold bt;omega)) ?_;rintro e w8 ⟨rfl,hb8⟩;refine⟨_,rfl,?_⟩;replace ae:=ae.step hb8;replace k1:=k1.step hb8;refine Zv (aa.extract rfl rfl rfl) ?_;refine Zv (aa.extract rfl rfl rfl) ?_;refine Za ?_;refine Za ?_;refine bj 0 1 2 3 4 17 (Zt (Cd.ret ?_));refine ab.bf rfl rfl rfl (.inl rfl) ?_;exact⟨rfl,ae⟩
 ·have hf:cZ l=false:=by
   rw[Bool.eq_false_iff];intro h2;unfold cZ at h2;simp[h10] at h2
  have hz:eL l=0:=by unfold eL;rw[hf];rfl
  rw[hf,hz];refine Zs 28 Tryz.func239 ?_;refine ao ?_;refine Seq.box rfl rfl rfl rfl rfl ?_;intro g1 w1 n1;have e1:=Nat.le_trans ae.size n1.ge;replace ae:=ae.step n1.below;have k1:=n1.av;refine Za ?_;refine Za ?_;refine aV 0 1 2 3 (aJ (ao ?_));refine Zv (aa.ag rfl rfl Tryz.underlying9 rfl k1 rfl) ?_;refine Zv (aa.dh rfl rfl Tryz.underlying9) ?_;refine Zv (aa.bN rfl rfl rfl) ?_;refine Zm ?_;refine ah.start ?_;refine bM (fun hcx=>aa.ag rfl rfl Tryz.underlying9 rfl k1 rfl) ?_;refine ah.next rfl rfl rfl rfl rfl rfl rfl (fun hcx=>(by exfalso;first|(simp[cG] at hcx;omega)|simp[cG] at hcx:aa _ _ _ _ (.int .u8 0) _)) ?_;refine ah.next rfl rfl rfl rfl rfl rfl rfl (fun hcx=>aa.bN rfl rfl rfl) ?_;refine ah.or rfl rfl rfl rfl rfl rfl rfl ?_;refine Zm ?_;refine ah.start ?_;refine bM (fun hcx=>aa.ag rfl rfl Tryz.underlying9 rfl k1 rfl) ?_;refine ah.next rfl rfl rfl rfl rfl rfl rfl (fun hcx=>(by exfalso;first|(simp[cG] at hcx;omega)|simp[cG] at hcx:aa _ _ _ _ (.int .u8 0) _)) ?_;refine ah.next rfl rfl rfl rfl rfl rfl rfl (fun hcx=>aa.bN rfl rfl rfl) ?_;refine ah.or rfl rfl rfl rfl rfl rfl rfl ?_;refine aU 0 1 2 3 17 (Zt ?_);refine Cd.aX rfl (by first|(simp;omega)|simp) ?_;refine ao ?_;refine Za ?_;refine Za ?_;refine aU 0 1 2 3 17 (Zt (Cd.ret (ab.af ?_)));refine ab.bf rfl rfl rfl (.inl rfl) ?_;exact⟨rfl,ae⟩
theorem bl:cf Tryz.prog 9=some (some (.string {data:= #[]})):=by kernel_rfl
theorem bJ:cf Tryz.prog 221=some (some (.agg #[.int .i64 0, .string {data:= #[]}, .int .i64 0, .int .i64 0])):=by kernel_rfl
theorem j4 (a c:Int)(s:ByteArray)(w:World):(Instr.build 221 #[(0, .int .i64 a),(1, .string s),(2, .int .i64 c)]).run Tryz.prog w= .ok (.agg #[.int .i64 a, .string s, .int .i64 c, .int .i64 0]) w:=by
 have hu:=Tryz.underlying221
 go_simp
theorem jY (a:Int)(s:ByteArray)(w:World):(Instr.build 221 #[(0, .int .i64 a),(1, .string s)]).run Tryz.prog w= .ok (.agg #[.int .i64 a, .string s, .int .i64 0, .int .i64 0]) w:=by
 have hu:=Tryz.underlying221
 go_simp
theorem j2 (w:World):(Instr.build 221 #[]).run Tryz.prog w= .ok (.agg #[.int .i64 0, .string {data:= #[]}, .int .i64 0, .int .i64 0]) w:=by
 have hu:=Tryz.underlying221
 go_simp
theorem oo (l p:List Nat)(w:World)(hl:∀x∈l,x<256)(hp:∀x∈p,x<256):
  Calls Tryz.prog 241 #[.string (strOf l), .string (strOf p)] w fun e w'=>e= .returned (.bool (decide (l.take p.length=p)))∧w=w':=by
 have h2:∀x∈l.take p.length,x<256:=fun x hx=>hl x (List.mem_of_mem_take hx);refine Zs 18 Tryz.func241 ?_;refine ao ?_;refine Za ?_;refine bD 0 1 4 (aG ?_);refine Zm ?_;refine Zv (aa.dh rfl rfl Tryz.underlying9) ?_;refine Zm ?_;refine Zv (aa.dh rfl rfl Tryz.underlying9) ?_;refine Zv (aa.geq rfl rfl rfl) ?_;refine Zm ?_;refine ah.start ?_;refine bM (fun hcx=>aa.move rfl rfl) ?_;refine ah.next rfl rfl rfl rfl rfl rfl rfl (fun hcx=>aa.move rfl rfl) ?_;refine ah.next rfl rfl rfl rfl rfl rfl rfl (fun hcx=>aa.dh rfl rfl Tryz.underlying9) ?_;refine ah.next rfl rfl rfl rfl rfl rfl rfl (fun hcx=>aa.sliceTo (j:=p.length) rfl rfl rfl Tryz.underlying9 rfl (by simp[cG] at hcx;omega)) ?_;refine ah.next rfl rfl rfl rfl rfl rfl rfl (fun hcx=>aa.move rfl rfl) ?_;refine ah.next rfl rfl rfl rfl rfl rfl rfl (fun hcx=>aa.cF (a:=l.take p.length) (b:=p) rfl rfl rfl h2 hp) ?_;refine ah.and rfl rfl rfl rfl rfl rfl rfl ?_;refine Za ?_;refine bD 0 1 4 (Zt (Cd.ret ?_));refine ab.aE rfl rfl (.inl rfl) ?_;refine⟨bw (aL ?_),rfl⟩;rw[Bool.eq_iff_iff];simp;intro h;have:=congrArg List.length h;rw[List.length_take] at this;omega
theorem ph (l p:List Nat)(w:World)(hl:∀x∈l,x<256)(hp:∀x∈p,x<256):
  Calls Tryz.prog 234 #[.string (strOf l), .string (strOf p)] w fun e w'=>e= .returned (.bool (decide (l.take p.length=p)))∧w=w':=by
 refine Zs 8 Tryz.func234 ?_;refine ao ?_;refine Za ?_;refine bD 0 1 4 (aG ?_);refine Zm ?_;refine Zm ?_;refine Zc (Ze Tryz.func241) (oo l p _ hl hp) ?_;rintro e w2 ⟨rfl,rfl⟩;refine⟨_,rfl,?_⟩;refine Za ?_;refine bD 0 1 4 (Zt (Cd.ret ?_));refine ab.aE rfl rfl (.inl rfl) ?_;exact⟨rfl,rfl⟩
def eF:List (List Nat):=[[60,61],[33,61],[62,61],[40],[41],[44],[43],[45],[42],[47],[60],[61],[62],[38],[124],[33]]
def r6 (L:List (List Nat)):List Value:=L.map fun s=> .string (strOf s)
theorem yN (w:World):Calls Tryz.prog 233 #[] w fun e w'=>∃g,e= .returned (.slice (some ⟨g,0,none⟩) 16 16)∧aK w' g 9 (r6 eF).toArray∧Grow w w':=by
 have ae:=Below.refl w.heap.size w;refine Zs 2 Tryz.func233 ?_;refine ao ?_;refine Za ?_;refine CW 0 (aG ?_);refine Seq.slice (vs:=[_,_,_,_,_,_,_,_,_,_,_,_,_,_,_,_]) (s:=1) rfl rfl rfl Tryz.underlying66 (by kernel_rfl) (bl) (by omega) (by omega) ⟨rfl,rfl,rfl,rfl,rfl,rfl,rfl,rfl,rfl,rfl,rfl,rfl,rfl,rfl,rfl,rfl,trivial⟩ rfl rfl rfl ?_;intro g1 w1 n1;have e1:=Nat.le_trans ae.size n1.ge;replace ae:=ae.step n1.below;have k1:=n1.av;refine Za ?_;refine CW 0 (Zt (Cd.ret ?_));refine ab.aE rfl rfl (.inl rfl) ?_;exact⟨_,rfl,k1,ae⟩
def dH (l:List Nat):Option (List Nat):=eF.find? fun s=>decide (l.take s.length=s)
def qB (t:List Nat):Option Int:=if t.all eZ=true∧(1<t.length→t[0]? ≠some 48)∧dx t≤9223372036854775807 then some (dx t:Int) else none
theorem zM {t:List Nat}:t.all eZ=true↔∀c∈t,fJ c:=by
 rw[List.all_eq_true]
 constructor
 ·intro h c hc
  have:=h c hc;unfold eZ at this;simp at this;exact this
 ·intro h c hc
  have:=h c hc;unfold fJ at this;unfold eZ;simp;omega
theorem wI {t:List Nat}{v:Int}{ok:Bool}(h:xM t 0 v ok)(c:Nat)(r:List Nat)(ht:t=c::r)(hc:eZ c=true):qB t=if ok then some v else none:=by
 have hc2:48≤c∧c≤57:=by unfold eZ at hc;simp at hc;exact hc
 cases ok with
 |true=>
  obtain⟨-,-,hv,F,B,hf⟩:=h.1 rfl;have h0:=hf.len;have hB:B=[]:=List.eq_nil_of_length_eq_zero (by simpa using h0);subst hB;have he:=hf.eq;unfold jZ at he;rw[if_neg (show¬0<(0:Int).toNat by decide),List.append_nil] at he
  have hneg:¬v<0:=by
   intro hn;rw[if_pos hn,ht] at he;injection he with he
   omega
  rw[if_neg hneg] at he;have he2:t=F:=he;subst he2;have hval:=hf.val;rw[List.append_nil] at hval;have hcond:t.all eZ=true∧(1<t.length→t[0]? ≠some 48)∧dx t≤9223372036854775807:=⟨zM.2 hf.f,hf.lead,by unfold bt at hv;omega⟩;unfold qB;rw[if_pos hcond,if_pos rfl,hval];congr 1;omega
 |false=>
  obtain⟨-,hno⟩:=h.2 rfl;unfold qB;rw[if_neg]
  ·rfl
  ·rintro⟨h1,h2,h3⟩
   refine hno (by omega) (by omega) (dx t:Int) (by unfold bt;omega) t [] ⟨zM.1 h1,by simp,by simp,by rw[ht];simp,h2,by rw[List.append_nil];omega,?_⟩;unfold jZ;rw[if_neg (show¬(dx t:Int)<0 by omega),if_neg (show¬0<(0:Int).toNat by decide),List.append_nil];rfl
def gJ (l:List Nat):Bool:=decide (10≤l.length)&& !(decide (10<l.length)&&aO (l.getD 10 0))&&cZ (l.take 10)
theorem Cr (l:List Nat)(w:World)(hl:∀x∈l,x<256)(hlen:l.length≤9223372036854775807):
  Calls Tryz.prog 231 #[.string (strOf l)] w fun e w'=>∃a b c,e= .returned (.tuple #[.agg #[.int .i64 a, .string (strOf b), .int .i64 c, .int .i64 0], .bool (gJ l)])∧(gJ l=true→a=2∧b=l.take 10∧c=eL (l.take 10))∧Grow w w':=by
 have ae:=Below.refl w.heap.size w
 have h0:10<l.length→l[10]? =some (l.getD 10 0):=by
  intro h;rw[List.getD_eq_getElem?_getD,List.getElem?_eq_getElem h];rfl
 have h1:l.getD 10 0<256:=by
  rw[List.getD_eq_getElem?_getD]
  cases hh:l[10]? with
  |none=>simp
  |some c=>exact hl c (List.mem_of_getElem? hh)
 unfold gJ
 generalize l.getD 10 0=c0 at *
 refine Zs 31 Tryz.func231 ?_;refine ao ?_;refine Zl bJ ?_;intro g2 w1 n2;have e2:=Nat.le_trans ae.size n2.ge;replace ae:=ae.step n2.below;have k2:=n2.av;refine Za ?_;refine bD 0 2 3 (aJ (ao ?_));refine Zm ?_;refine Zv (aa.dh rfl rfl Tryz.underlying9) ?_;refine Zv (aa.lss rfl rfl rfl) ?_;refine Zm ?_;refine ah.start ?_;refine bM (fun hcx=>aa.move rfl rfl) ?_;refine ah.next rfl rfl rfl rfl rfl rfl rfl (fun hcx=>aa.dh rfl rfl Tryz.underlying9) ?_;refine ah.next rfl rfl rfl rfl rfl rfl rfl (fun hcx=>aa.gtr rfl rfl rfl) ?_;refine ah.next rfl rfl rfl rfl rfl rfl rfl (fun hcx=>aa.move rfl rfl) ?_;refine bM (fun hcx=>aa.move rfl rfl) ?_;refine ah.next rfl rfl rfl rfl rfl rfl rfl (fun hcx=>aa.cQ (l:=l) (j:=10) (c:=c0) rfl rfl rfl Tryz.underlying9 rfl (h0 (by simp[cG] at hcx;omega)) h1) ?_;refine ah.bY rfl rfl rfl rfl rfl rfl rfl (fun hcx=>Ze Tryz.func103) (fun hcx=>sL _ _) ?_;intro w2 hw2;replace ae:=ae.step hw2;replace k2:=k2.step hw2;refine ah.mX rfl rfl rfl rfl rfl rfl rfl rfl rfl rfl rfl ?_;refine ah.or rfl rfl rfl rfl rfl rfl rfl ?_;refine aV 0 2 3 18 (Zt ?_);refine Cd.cond rfl (fun h=> ?_) (fun h=> ?_)
 ·have hf:(decide (10≤l.length)&& !(decide (10<l.length)&&aO c0))=false:=by
   cases hp:aO c0 with
   |false=>rw[hp] at h;simp at h⊢;omega
   |true=>rw[hp] at h;simp at h⊢;omega
  rw[hf];refine ao ?_;refine Zv (aa.build rfl rfl (j2 _)) ?_;refine Zo 4 k2 ?_;intro w3 pw3;replace ae:=ae.put k2 pw3 e2;replace k2:=pw3.av;refine Za ?_;refine aV 0 2 3 18 (Zt (Cd.ret (ab.af ?_)));refine ab.jh rfl rfl rfl k2 Tryz.underlying221 rfl (m:=4) (by kernel_rfl) rfl (.inl rfl) ?_;exact⟨0,[],0,rfl,(fun h=>by cases h),ae⟩
 ·have hf:(decide (10≤l.length)&& !(decide (10<l.length)&&aO c0))=true:=by
   cases hp:aO c0 with
   |false=>rw[hp] at h;simp at h⊢;omega
   |true=>rw[hp] at h;simp at h⊢;omega
  have h10:10≤l.length:=by simp at hf;exact hf.1
  rw[hf,Bool.true_and];refine Cd.skip (aG ?_);refine Zm ?_;refine Zv (aa.sliceTo (j:=10) rfl rfl rfl Tryz.underlying9 rfl h10) ?_;refine Zc (Ze Tryz.func239) (qP (l.take 10) _ (iF hl 10) (by rw[List.length_take];omega)) ?_;rintro e w5 ⟨rfl,hb5⟩;refine⟨_,rfl,?_⟩;replace ae:=ae.step hb5;replace k2:=k2.step hb5;refine Zm ?_;refine Zv (aa.extract rfl rfl rfl) ?_;refine Zv (aa.extract rfl rfl rfl) ?_;refine Za ?_;refine Za ?_;refine bj 0 2 3 4 5 18 (aG ?_);refine Zm ?_;refine Zv (aa.sliceTo (j:=10) rfl rfl rfl Tryz.underlying9 rfl h10) ?_;refine Zm ?_;refine Zv (aa.build rfl rfl (j4 _ _ _ _)) ?_;refine Zm ?_;refine Zo 4 k2 ?_;intro w3 pw3;replace ae:=ae.put k2 pw3 e2;replace k2:=pw3.av;refine Za ?_;refine bj 0 2 3 4 5 18 (Zt (Cd.ret ?_));refine ab.jh rfl rfl rfl k2 Tryz.underlying221 rfl (m:=4) (by kernel_rfl) rfl (.inl rfl) ?_;exact⟨2,l.take 10,eL (l.take 10),rfl,fun _=>⟨rfl,rfl,rfl⟩,ae⟩
theorem uT (l:List Nat)(w:World)(hl:∀x∈l,x<256)(hlen:l.length≤9223372036854775807):
  Calls Tryz.prog 232 #[.string (strOf l)] w fun e w'=>∃v ok,e= .returned (.tuple #[.agg #[.int .i64 1, .string (strOf (l.take (runN aO l))), .int .i64 v, .int .i64 0], .bool ok])∧xM (l.take (runN aO l)) 0 v ok∧Grow w w':=by
 have ae:=Below.refl w.heap.size w;have hr:=gp aO l;refine Zs 22 Tryz.func232 ?_;refine ao ?_;refine Zl bJ ?_;intro g2 w1 n2;have e2:=Nat.le_trans ae.size n2.ge;replace ae:=ae.step n2.below;have k2:=n2.av;refine Za ?_;refine bD 0 2 3 (aG ?_);refine Zm ?_;refine Zc (Ze Tryz.func102) (qh l _ hl hlen) ?_;rintro e w2 ⟨rfl,hb2⟩;refine⟨_,rfl,?_⟩;replace ae:=ae.step hb2;replace k2:=k2.step hb2
 generalize runN aO l=n at *
 refine Za ?_;refine aV 0 2 3 4 (aG ?_);refine Zm ?_;refine Zm ?_;refine Zv (aa.sliceTo (j:=n) rfl rfl rfl Tryz.underlying9 rfl hr) ?_;refine Zc (Ze Tryz.func240) (va (l.take n) 0 _ (iF hl n) (by rw[List.length_take];omega) (by unfold bt;omega)) ?_;rintro e w3 ⟨v,ok,rfl,ha,hb3⟩;refine⟨_,rfl,?_⟩;replace ae:=ae.step hb3;replace k2:=k2.step hb3;refine Zm ?_;refine Zv (aa.extract rfl rfl rfl) ?_;refine Zv (aa.extract rfl rfl rfl) ?_;refine Za ?_;refine Za ?_;refine bj 0 2 3 4 5 6 (aG ?_);refine Zm ?_;refine Zm ?_;refine Zv (aa.sliceTo (j:=n) rfl rfl rfl Tryz.underlying9 rfl hr) ?_;refine Zm ?_;refine Zv (aa.build rfl rfl (j4 _ _ _ _)) ?_;refine Zm ?_;refine Zo 4 k2 ?_;intro w2 pw2;replace ae:=ae.put k2 pw2 e2;replace k2:=pw2.av;refine Za ?_;refine bj 0 2 3 4 5 6 (Zt (Cd.ret ?_));refine ab.jh rfl rfl rfl k2 Tryz.underlying221 rfl (m:=4) (by kernel_rfl) rfl (.inl rfl) ?_;exact⟨v,ok,rfl,ha,ae⟩
def gq (l:List Nat):Option (Int × List Nat × Int):=match l with
 | []=>none
 |c::r=>if eZ c then(if gJ (c::r) then some (2,(c::r).take 10,eL ((c::r).take 10)) else(qB ((c::r).take (runN aO (c::r)))).map fun v=>(1,(c::r).take (runN aO (c::r)),v))
  else if j8 c then(if runN aO (c::r)≤16 then some (3,(c::r).take (runN aO (c::r)),0) else none)
  else(dH (c::r)).map fun s=>(0,s,0)
theorem xj {α:Type}(p:α→Bool):∀(L:List α) (k:Nat) (s:α),(∀j s',j<k→L[j]? =some s'→p s'=false)→L[k]? =some s→p s=true→L.find? p=some s
 | [],k,s,_,h,_=>by simp at h
 |x::L,0,s,_,h,hp=>by simp at h;subst h;simp[hp]
 |x::L,k+1,s,hn,h,hp=>by
  have h0:=hn 0 x (by omega) (by simp);rw[List.find?_cons,h0];exact xj p L k s (fun j s' hj hs=>hn (j+1) s' (by omega) (by simpa using hs)) (by simpa using h) hp
theorem wG {α:Type}(p:α→Bool)(L:List α)(h:∀(j:Nat) (s':α),L[j]? =some s'→p s'=false):L.find? p=none:=by
 rw[List.find?_eq_none];intro x hx;obtain⟨j,hj,rfl⟩:=List.getElem_of_mem hx;rw[h j _ (List.getElem?_eq_getElem hj)];simp
theorem sN:∀s∈eF,∀x∈s,x<256:=by decide
theorem A6 (l:List Nat)(w:World)(hl:∀x∈l,x<256)(hlen:l.length≤9223372036854775807)(hne:l≠ []):
  Calls Tryz.prog 206 #[.string (strOf l)] w fun e w'=>∃a b c ok,e= .returned (.tuple #[.agg #[.int .i64 a, .string (strOf b), .int .i64 c, .int .i64 0], .bool ok])∧gq l=(if ok then some (a,b,c) else none)∧Grow w w':=by
 have ae:=Below.refl w.heap.size w
 obtain⟨c0,r,hcr⟩:∃c r,l=c::r:=by
  cases l with
  |nil=>exact absurd rfl hne
  |cons c r=>exact⟨c,r,rfl⟩
 have h0:l[0]? =some c0:=by rw[hcr];rfl
 have hc256:=hl c0 (List.mem_of_getElem? h0)
 have hnw:gq l=if eZ c0 then(if gJ l then some (2,l.take 10,eL (l.take 10)) else(qB (l.take (runN aO l))).map fun v=>(1,l.take (runN aO l),v))
  else if j8 c0 then(if runN aO l≤16 then some (3,l.take (runN aO l),0) else none)
  else(dH l).map fun s=>(0,s,0):=by rw[hcr];rfl
 have hrl:=gp aO l;refine Zs 49 Tryz.func206 ?_;refine ao ?_;refine Zl bJ ?_;intro g2 w1 n2;have e2:=Nat.le_trans ae.size n2.ge;replace ae:=ae.step n2.below;have k2:=n2.av;refine Za ?_;refine bD 0 2 3 (aJ (Cd.block (ao ?_)));refine Zm ?_;refine Zv (aa.cQ (l:=l) (j:=0) rfl rfl rfl Tryz.underlying9 rfl h0 hc256) ?_;refine Zc (Ze Tryz.func145) (pM c0 _) ?_;rintro e w2 ⟨rfl,hb2⟩;refine⟨_,rfl,?_⟩;replace ae:=ae.step hb2;replace k2:=k2.step hb2;refine Za ?_;refine aV 0 2 3 9 (Zt ?_);refine Cd.cond rfl (fun h=> ?_) (fun h=> ?_)
 ·rw[h,if_pos rfl] at hnw
  refine Cd.seq (ao ?_);refine Zm ?_;refine Zc (Ze Tryz.func231) (Cr l _ hl hlen) ?_;rintro e w3 ⟨a,b,c,rfl,hday,hb3⟩;refine⟨_,rfl,?_⟩;replace ae:=ae.step hb3;replace k2:=k2.step hb3;refine Zm ?_;refine Zv (aa.extract rfl rfl rfl) ?_;refine Zv (aa.extract rfl rfl rfl) ?_;refine Zl bJ ?_;intro g4 w2 n4;have e4:=Nat.le_trans ae.size n4.ge;have l4:=Nat.lt_of_lt_of_le k2.lt n4.ge;replace ae:=ae.step n4.below;replace k2:=k2.step n4.below;have k4:=n4.av;refine Zo 4 k4 ?_;intro w3 pw3;replace ae:=ae.put k4 pw3 e4;replace k2:=k2.put pw3 (by omega);replace k4:=pw3.av;refine Za ?_;refine bj 0 2 3 4 5 9 (aG ?_);refine Zm ?_;refine bb 0 2 3 4 5 9 18 (Zt ?_);refine Cd.cond rfl (fun hd=> ?_) (fun hd=> ?_)
  ·rw[hd,if_pos rfl] at hnw
   obtain⟨rfl,rfl,rfl⟩:=hday hd;refine ao ?_;refine Zv (aa.aQ rfl rfl Tryz.underlying221 rfl k4 (m:=4) (by kernel_rfl) rfl) ?_;refine Zo 4 k2 ?_;intro w4 pw4;replace ae:=ae.put k2 pw4 e2;replace k4:=k4.put pw4 (by omega);replace k2:=pw4.av;refine Za ?_;refine bb 0 2 3 4 5 9 18 (Zt (Cd.ret (ab.af (ab.ak (ab.af ?_)))));refine ab.jh rfl rfl rfl k2 Tryz.underlying221 rfl (m:=4) (by kernel_rfl) rfl (.inl rfl) ?_;exact⟨_,_,_,true,rfl,hnw,ae⟩
  ·rw[hd,if_neg (by simp)] at hnw
   refine Cd.skip (aG ?_);refine Zm ?_;refine Zc (Ze Tryz.func232) (uT l _ hl hlen) ?_;rintro e w4 ⟨v,ok,rfl,ha,hb4⟩;refine⟨_,rfl,?_⟩
   have hlt:l.take (runN aO l)=c0::(l.take (runN aO l)).drop 1:=by
    have hp:aO c0=true:=by unfold aO;rw[h];simp
    rw[hcr,ec,if_pos hp,List.take_succ_cons];rfl
   have hamt:=wI ha c0 _ hlt h;replace ae:=ae.step hb4;replace k2:=k2.step hb4;replace k4:=k4.step hb4;refine Zv (aa.extract rfl rfl rfl) ?_;refine Zv (aa.extract rfl rfl rfl) ?_;refine Zo 4 k2 ?_;intro w4 pw4;replace ae:=ae.put k2 pw4 e2;replace k4:=k4.put pw4 (by omega);replace k2:=pw4.av;refine Za ?_;refine bb 0 2 3 4 5 9 18 (Zt (Cd.ret (ab.ak (ab.af ?_))));refine ab.jh rfl rfl rfl k2 Tryz.underlying221 rfl (m:=4) (by kernel_rfl) rfl (.inl rfl) ?_;refine⟨_,_,_,ok,rfl,?_,ae⟩;rw[hnw,hamt]
   cases ok<;>rfl
 ·rw[h,if_neg (by simp)] at hnw
  refine ao ?_;refine Zm ?_;refine Zv (aa.cQ (l:=l) (j:=0) rfl rfl rfl Tryz.underlying9 rfl h0 hc256) ?_;refine Zc (Ze Tryz.func101) (lY c0 _) ?_;rintro e w3 ⟨rfl,hb3⟩;refine⟨_,rfl,?_⟩;replace ae:=ae.step hb3;replace k2:=k2.step hb3;refine Za ?_;refine aU 0 2 3 9 24 (Zt ?_);refine Cd.cond rfl (fun h2=> ?_) (fun h2=> ?_)
  ·rw[h2,if_pos rfl] at hnw
   refine ao ?_;refine Zm ?_;refine Zc (Ze Tryz.func102) (qh l _ hl hlen) ?_;rintro e w4 ⟨rfl,hb4⟩;refine⟨_,rfl,?_⟩;replace ae:=ae.step hb4;replace k2:=k2.step hb4
   generalize runN aO l=n at *
   refine Za ?_;refine bj 0 2 3 6 9 24 (aG ?_);refine Zm ?_;refine Zm ?_;refine Zv (aa.sliceTo (j:=n) rfl rfl rfl Tryz.underlying9 rfl hrl) ?_;refine Zv (aa.build rfl rfl (jY _ _ _)) ?_;refine Zm ?_;refine Zv (aa.leq rfl rfl rfl) ?_;refine Zo 4 k2 ?_;intro w2 pw2;replace ae:=ae.put k2 pw2 e2;replace k2:=pw2.av;refine Za ?_;refine bj 0 2 3 6 9 24 (Zt (Cd.ret (ab.ak (ab.af ?_))));refine ab.jh rfl rfl rfl k2 Tryz.underlying221 rfl (m:=4) (by kernel_rfl) rfl (.inl rfl) ?_;refine⟨3,l.take n,0,decide ((n:Int)≤16),rfl,?_,ae⟩;rw[hnw]
   by_cases hn:n≤16
   ·rw[if_pos hn,decide_eq_true (show(n:Int)≤16 by omega)];rfl
   ·rw[if_neg hn,decide_eq_false (show¬(n:Int)≤16 by omega)];rfl
  ·rw[h2,if_neg (by simp)] at hnw
   refine Cd.skip (ab.aj (aJ (ao ?_)));refine Zc (Ze Tryz.func233) (yN _) ?_;rintro e w4 ⟨gs,rfl,ks,hb4⟩;refine⟨_,rfl,?_⟩;replace ae:=ae.step hb4;replace k2:=k2.step hb4;refine Zv (aa.len rfl rfl Tryz.underlying66) ?_;refine Zm ?_;refine cI 0 2 3 9 24 36 37 38 (Zt (Cd.block ?_))
   refine Cd.loop (σ:=Nat) (fun k=>[(0, .string (strOf l)),(2, .pointer (some ⟨g2,0,none⟩)),(36, .slice (some ⟨gs,0,none⟩) 16 16),(37, .int .i64 16),(38, .int .i64 (k:Int))])
    (fun k wr=>k≤16∧(∀j s',j<k→eF[j]? =some s'→decide (l.take s'.length=s')=false)∧Below w.heap.size w wr∧aK wr g2 221 #[.int .i64 0, .string {data:= #[]}, .int .i64 0, .int .i64 0]∧aK wr gs 9 (r6 eF).toArray) (fun k=>16-k) 0 ⟨by omega,fun j s' hj=>absurd hj (by omega),ae,k2,ks⟩ ⟨rfl,rfl,rfl,rfl,rfl,trivial⟩ ?_
   clear ae k2 ks;rintro k wr ⟨hk,hno,ae,k2,ks⟩;refine ao ?_;refine Zv (aa.lss rfl rfl rfl) ?_;refine bj 0 2 36 37 38 39 (aJ ?_);refine Cd.au rfl (fun hc=> ?_) (fun hc=> ?_)
   ·obtain⟨s,hs⟩:∃s,eF[k]? =some s:=⟨_,List.getElem?_eq_getElem (show k<eF.length by have:eF.length=16:=rfl;omega)⟩
    have hsl:=sN s (List.mem_of_getElem? hs)
    have hcell:(r6 eF).toArray[k]? =some (.string (strOf s)):=by
     unfold r6;simp[hs]
    refine Cd.skip (aJ (Cd.block (ao ?_)));refine Zv (aa.dN rfl rfl rfl Tryz.underlying66 (by kernel_rfl) (j:=k) rfl (by omega)) ?_;refine Zv (aa.ag rfl rfl Tryz.underlying9 rfl ks hcell) ?_;refine Za ?_;refine bb 0 2 8 36 37 38 39 (aG ?_);refine Zm ?_;refine Zm ?_;refine Zc (Ze Tryz.func234) (ph l s _ hl hsl) ?_;rintro e w6 ⟨rfl,rfl⟩;refine⟨_,rfl,?_⟩;refine cI 0 2 8 36 37 38 39 44 (Zt ?_);refine Cd.cond rfl (fun h3=> ?_) (fun h3=> ?_)
    ·have hsw:dH l=some s:=xj _ eF k s hno hs h3
     rw[hsw] at hnw;refine ao ?_;refine Zm ?_;refine Zv (aa.build rfl rfl (jY _ _ _)) ?_;refine Zo 4 k2 ?_;intro w2 pw2;replace ae:=ae.put k2 pw2 e2;replace k2:=pw2.av;refine Za ?_;refine dG 0 2 3 8 36 37 38 39 44 (Zt (Cd.ret (ab.ak (ab.af (ab.bF (ab.ak (ab.af ?_)))))));refine ab.jh rfl rfl rfl k2 Tryz.underlying221 rfl (m:=4) (by kernel_rfl) rfl (.inl rfl) ?_;exact⟨0,s,0,true,rfl,hnw,ae⟩
    ·skip
     refine Cd.skip (ab.aj (ei ?_));refine cH ?_;refine Zm ?_;refine cI 0 2 8 36 37 38 39 44 ?_;refine ab.round (k+1) ⟨rfl,rfl,rfl,rfl,rfl,trivial⟩ ⟨by omega,fun j s' hj hs'=> ?_,ae,k2,ks⟩ (by omega);rcases Nat.lt_or_ge j k with h4|h4
     ·exact hno j s' h4 hs'
     ·obtain rfl:j=k:=by omega
      rw[hs] at hs';injection hs' with hs'
      subst hs';exact h3
   ·have hsw:dH l=none:=wG _ eF fun j s' hs'=>hno j s' (by
     have:=(List.getElem?_eq_some_iff.1 hs').1;have h16:eF.length=16:=rfl;omega) hs'
    rw[hsw] at hnw;refine Cd.exit (ab.aD (ab.aA (ab.az (aG ?_))));refine Zv (aa.build rfl rfl (j2 _)) ?_;refine Zo 4 k2 ?_;intro w2 pw2;replace ae:=ae.put k2 pw2 e2;replace k2:=pw2.av;refine Za ?_;refine bb 0 2 3 36 37 38 39 (Zt (Cd.ret ?_));refine ab.jh rfl rfl rfl k2 Tryz.underlying221 rfl (m:=4) (by kernel_rfl) rfl (.inl rfl) ?_;exact⟨0,[],0,false,rfl,hnw,ae⟩
end Go.Proofs.YtigoimhndlnhfaaGreat