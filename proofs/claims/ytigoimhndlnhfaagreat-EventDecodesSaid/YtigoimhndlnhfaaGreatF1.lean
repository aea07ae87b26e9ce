/-
  Texts that were joined: KM, Zero, TPrB, TAmt, TNumP, Fits, StrA, StrB, TMul, TNumD, TNumT, TNumQ, LexSpec, LexA, LexB, TreA, TreB, TreC, TreD, LexC, LexD, LexE, LexF. Conditions: what each theorem names.
-/
import Derived.Test.YtigoimhndlnhfaaGreatF0
import Derived.Defers
import Derived.Test.YtigoimhndlnhfaaGreatRows
import Derived.Lib.Builder
import Derived.Lib.UnsafeStr
import Derived.Handy
import Derived.Deep.Light
set_option linter.unusedSectionVars false
namespace Go.Proofs.YtigoimhndlnhfaaGreat
open Go.RowKit
section
variable {P:Program} {ops:Array Oper} {Q:Exit→Act→World→Prop} {rest:List Oper} {o:Oper} {n:Nat} {F:List (Nat × Value)} {w:World}
def kc (g:FuncId)(args:List Value):Deferred:= {target:= .fn (.func g) #[],args:=args.toArray}
theorem Seq.EO {g:FuncId}{args:Array Operand}{ts:Array TypeId}{vs:List Value}(ho:o.op= .defer {callee:= .value (.func g),args:=args,argTypes:=ts})(hx:jn (eT F) args.toList=some vs)(hg:o.guard=none)(hd:o.dst=none)
  (h:∀I:Inhabited (List Deferred),I.default=[kc g vs]→ @Seq I P ops Q rest n F w):Seq P ops Q (o::rest) n F w:=by
 intro a ha;refine wpList_plain hg fun K hK=> ?_
 have hargs:args.map a.eval=vs.toArray:=by
  apply Array.ext';rw[Array.toList_map,jd ha.ev hx]
 have hr:(execOp a.eval o).run P w= .ok (.defer (kc g vs)) w:=by
  unfold execOp;have hf:a.eval (.func g)= .func (.func g) #[] #[]:=rfl;simp only[ho,resolve,hf,Deferred.ofValue,hargs,Sem.run_bind,Sem.run_pure,Result.andThen_ok];simp[kc]
 unfold Oper.wp;rw[hr,Oper.upon_defer,hd];have hD:kc g vs::a.defers=[kc g vs]:=by rw[ha.defers];rfl
 exact hK _ _ (h ⟨[kc g vs]⟩ rfl _ (@Fr.mk ⟨[kc g vs]⟩ n F _ ha.size hD ha.slot))
theorem Calls.BB {f:FuncId}{fn:Func}{c:Code}{args:List Value}{R:Ending→World→Prop}(n:Nat)(hf:P.funcs[f]? =some fn)(hb:fn.body=some c)(hn:fn.ntmps=n)(hle:Nat.ble args.length n=true)
  (h:Cd P c (bodyPostD P fn R) n (lE 0 args) w):Calls P f args.toArray w R:=by
 have hle':=Nat.le_of_ble_eq_true hle;refine calls_of_wp_defers hf hb (h _ ⟨?_,rfl,fun t v ht=> ?_⟩)
 ·show(args.toArray++Array.replicate (fn.ntmps-args.toArray.size) undef).size=n
  simp;omega
 ·obtain⟨j,rfl,hj⟩:=lO args 0 t v ht
  have hlt:j<args.length:=(List.getElem?_eq_some_iff.1 hj).1;show(args.toArray++Array.replicate (fn.ntmps-args.toArray.size) undef)[0+j]? =some v;rw[Nat.zero_add,Array.getElem?_append_left (by simpa using hlt)]
  simpa using hj
theorem CallsD.start {f:FuncId}{fn:Func}{c:Code}{args:List Value}{u:FrameMode}{R:Ending→World→Prop}(n:Nat)(hf:P.funcs[f]? =some fn)(hb:fn.body=some c)(hn:fn.ntmps=n)(hle:Nat.ble args.length n=true)
  (h:Cd P c (bodyPost P fn R) n (lE 0 args) w):CallsD P f args.toArray u w fun e u' w'=>u'=u∧R e w':=by
 have hle':=Nat.le_of_ble_eq_true hle;refine callsD_of_wp hf hb (h _ ⟨?_,rfl,fun t v ht=> ?_⟩)
 ·show(args.toArray++Array.replicate (fn.ntmps-args.toArray.size) undef).size=n
  simp;omega
 ·obtain⟨j,rfl,hj⟩:=lO args 0 t v ht
  have hlt:j<args.length:=(List.getElem?_eq_some_iff.1 hj).1;show(args.toArray++Array.replicate (fn.ntmps-args.toArray.size) undef)[0+j]? =some v;rw[Nat.zero_add,Array.getElem?_append_left (by simpa using hlt)]
  simpa using hj
theorem ae.FN {fn:Func}{R:Ending→World→Prop}{e:Exit}(hr:fn.results= #[]) (he:e= .ret∨e= .normal) (h:R (.returned (.tuple #[])) w):ae (bodyPostD P fn R) e n F w:=by
 intro a ha;have hv:=results_none hr a.tmps P w;have hd:a.defers=[]:=ha.defers;rcases he with rfl|rfl
 ·show Leaves P fn a.tmps R a.defers .returning w
  rw[hd];exact⟨_,hv,h⟩
 ·show Leaves P fn a.tmps R a.defers .returning w
  rw[hd];exact⟨_,hv,h⟩
theorem ae.FR {fn:Func}{R:Ending→World→Prop}{R1:Ending→World→Prop}{e:Exit}{g:FuncId}{vs:List Value}{I:Inhabited (List Deferred)}(hI:I.default=[kc g vs])(hr:fn.results= #[]) (he:e= .ret∨e= .normal) (hen:∀args w,(callFunc g args).run P w= .ok (.enter g args) w)
  (hc:CallsD P g vs.toArray .returning w fun e u' w'=>u'= .returning∧R1 e w') (hR:∀e w',R1 e w'→(∃v,e= .returned v)∧R (.returned (.tuple #[])) w'): @ae I (bodyPostD P fn R) e n F w:=by
 intro a ha;have hd:a.defers=[kc g vs]:=ha.defers.trans hI
 have hL:Leaves P fn a.tmps R a.defers .returning w:=by
  rw[hd];refine leaves_cons (by simp) (f:=g) (args:=vs.toArray) (by simp[invoke,hen]) (hc.mono fun e u' w' ⟨hu,h1⟩=> ?_);obtain⟨⟨v,rfl⟩,h2⟩:=hR e w' h1;subst hu;exact⟨_,results_none hr a.tmps P w',h2⟩
 rcases he with rfl|rfl
 ·exact hL
 ·exact hL
end
theorem bf:bW Tryz.prog 5=some (some (.int .u8 0)):=by kernel_rfl
theorem hH:bW Tryz.prog 3=some (some (.int .i64 0)):=by kernel_rfl
def lf (u d:Nat):Nat→List Nat
 |0=>[]
 |k+1=>lf u d k++(if k=d∧0<d then [46] else [])++[48+u/10^k%10]
theorem pO (u d:Nat):∀k,k≤(lf u d k).length∧(lf u d k).length≤2*k
 |0=>by simp[lf]
 |k+1=>by
  have ih:=pO u d k;unfold lf;split<;>simp<;>omega
theorem tE (u d:Nat):∀k,∀x∈lf u d k,x<256
 |0=>by simp[lf]
 |k+1=>by
  have ih:=tE u d k;unfold lf;intro x hx;simp only[List.mem_append,List.mem_singleton] at hx;rcases hx with (hx|hx)|hx
  ·exact ih x hx
  ·split at hx
   ·simp at hx;omega
   ·simp at hx
  ·omega
def gI (u d N:Nat):Prop:=(∀k,k<N→0<u/10^k∨k≤d)∧¬(0<u/10^N∨N≤d)
def printed (n:Int)(d N:Nat):List Nat:=(lf n.natAbs d N++if n<0 then [45] else []).reverse
theorem yd (u k:Nat):u/10^k/10=u/10^(k+1):=by rw[Nat.div_div_eq_div_mul,Nat.pow_succ]
def gz (c:Nat):Prop:=48≤c∧c≤57
def dx (l:List Nat):Nat:=l.foldl (fun n c=>10*n+(c-48)) 0
theorem qg (l:List Nat):∀a,l.foldl (fun n c=>10*n+(c-48)) a=a*10^l.length+dx l:=by
 induction l with
 |nil=>intro a;simp[dx]
 |cons c l ih=>
  intro a
  have e1:dx (c::l)=(c-48)*10^l.length+dx l:=by
   show List.foldl _ _ (c::l)=_;rw[List.foldl_cons,ih,Nat.mul_zero,Nat.zero_add]
  rw[List.foldl_cons,ih,e1,List.length_cons,Nat.pow_succ];have:(10*a+(c-48))*10^l.length=a*(10^l.length*10)+(c-48)*10^l.length:=by rw[Nat.add_mul,Nat.mul_comm 10 a,Nat.mul_assoc,Nat.mul_comm 10]
  rw[this];omega
theorem oQ (c:Nat)(l:List Nat):dx (c::l)=(c-48)*10^l.length+dx l:=by
 show List.foldl _ _ (c::l)=_;rw[List.foldl_cons,qg,Nat.mul_zero,Nat.zero_add]
theorem oC (l:List Nat)(c:Nat):dx (l++[c])=10*dx l+(c-48):=by unfold dx;rw[List.foldl_append];rfl
theorem vN (a b:List Nat):dx (a++b)=dx a*10^b.length+dx b:=by
 show List.foldl _ _ (a++b)=_;rw[List.foldl_append,qg];rfl
theorem pP (l:List Nat)(h:∀c∈l,gz c):dx l<10^l.length:=by
 induction l with
 |nil=>simp[dx]
 |cons c l ih=>
  have h1:=ih fun x hx=>h x (List.mem_cons_of_mem _ hx);have h2:=h c (List.mem_cons_self ..);unfold gz at h2;rw[oQ,List.length_cons,Nat.pow_succ];have:(c-48)*10^l.length≤9*10^l.length:=Nat.mul_le_mul_right _ (by omega);omega
theorem AB (l:List Nat)(k:Nat):dx (l.take k)≤dx l:=by
 have h:=vN (l.take k) (l.drop k);rw[List.take_append_drop] at h;have h2:dx (l.take k)*1≤dx (l.take k)*10^(l.drop k).length:=Nat.mul_le_mul_left _ (Nat.pos_of_ne_zero (by simp));omega
def Dg (u:Nat):Nat→List Nat
 |0=>[]
 |k+1=>Dg u k++[48+u/10^k%10]
theorem jt (u:Nat):∀k,(Dg u k).length=k
 |0=>rfl
 |k+1=>by unfold Dg;rw[List.length_append,jt u k];rfl
theorem BF (u:Nat):∀k,∀c∈Dg u k,gz c
 |0,c,h=>by simp[Dg] at h
 |k+1,c,h=>by
  unfold Dg at h;rcases List.mem_append.1 h with h|h
  ·exact BF u k c h
  ·simp at h;unfold gz;omega
theorem tM (u:Nat):∀k j,j≤k→(Dg u k).take j=Dg u j
 |0,j,h=>by obtain rfl:j=0:=by omega
            rfl
 |k+1,j,h=>by
  rcases Nat.lt_or_ge k j with h1|h1
  ·obtain rfl:j=k+1:=by omega
   exact List.take_of_length_le (by rw[jt];omega)
  ·rw[show Dg u (k+1)=Dg u k++[48+u/10^k%10] from rfl,List.take_append_of_le_length (by rw[jt];omega)]
   exact tM u k j h1
theorem En (u k:Nat):(Dg u (k+1)).reverse=(48+u/10^k%10)::(Dg u k).reverse:=by
 show(Dg u k++[48+u/10^k%10]).reverse=_;rw[List.reverse_append];rfl
theorem Cw (u:Nat):∀k,dx (Dg u k).reverse=u%10^k
 |0=>by simp[Dg,dx,Nat.mod_one]
 |k+1=>by
  rw[En,oQ,List.length_reverse,jt,Cw u k,Nat.pow_succ,Nat.mod_mul,show 48+u/10^k%10-48=u/10^k%10 by omega,Nat.mul_comm];omega
theorem yc (v e:Nat)(he:e<10):∀n,Dg (10*v+e) (n+1)=(48+e)::Dg v n
 |0=>by simp[Dg];omega
 |n+1=>by
  have h:=yc v e he n;rw[show Dg (10*v+e) (n+1+1)=Dg (10*v+e) (n+1)++[48+(10*v+e)/10^(n+1)%10] from rfl,h,show Dg v (n+1)=Dg v n++[48+v/10^n%10] from rfl]
  have:(10*v+e)/10^(n+1)=v/10^n:=by
   rw[Nat.pow_succ,Nat.mul_comm (10^n) 10,←Nat.div_div_eq_div_mul,show(10*v+e)/10=v by omega]
  rw[this];rfl
theorem FF (n:Nat):∀l:List Nat,l.length=n→(∀c∈l,gz c)→Dg (dx l) n=l.reverse:=by
 induction n with
 |zero=>intro l hl _;obtain rfl:=List.eq_nil_of_length_eq_zero hl;rfl
 |succ n ih=>
  intro l hl hd;rcases List.eq_nil_or_concat l with rfl|⟨m,c,rfl⟩
  ·cases hl
  ·have hc:gz c:=hd c (by simp)
   have hm:m.length=n:=by simpa using hl
   have h1:=ih m hm fun x hx=>hd x (by simp[hx]);unfold gz at hc;rw[List.concat_eq_append,oC,yc _ _ (by omega),h1,List.reverse_append,show 48+(c-48)=c by omega];rfl
theorem pX (u d:Nat):∀k,d=0∨k≤d→lf u d k=Dg u k
 |0,_=>rfl
 |k+1,h=>by
  have h1:=pX u d k (by omega);show lf u d k++(if k=d∧0<d then [46] else [])++[48+u/10^k%10]=_;rw[h1,if_neg (by omega),List.append_nil];rfl
theorem qb (u d:Nat)(h0:0<d):∀k,lf u d (d+1+k)=Dg u d++46::(Dg u (d+1+k)).drop d
 |0=>by
  show lf u d d++(if d=d∧0<d then [46] else [])++[48+u/10^d%10]=_;rw[pX u d d (by omega),if_pos ⟨rfl,h0⟩,show d+1+0=d+1 by rfl,show Dg u (d+1)=Dg u d++[48+u/10^d%10] from rfl,List.drop_left' (jt u d)];simp
 |k+1=>by
  show lf u d (d+1+k)++(if d+1+k=d∧0<d then [46] else [])++[48+u/10^(d+1+k)%10]=Dg u d++46::(Dg u (d+1+k)++[48+u/10^(d+1+k)%10]).drop d;rw[qb u d h0 k,if_neg (by omega),List.append_nil,List.drop_append_of_le_length (by rw[jt];omega)];simp
def kP (x:Int)(d:Nat)(F B:List Nat):List Nat:=(if x<0 then [45] else [])++(F++(if 0<d then 46::B else []))
structure Form (l:List Nat)(d:Nat)(x:Int)(F B:List Nat):Prop where
 f:∀c∈F,gz c
 b:∀c∈B,gz c
 len:B.length=d
 pos:0<F.length
 lead:1<F.length→F[0]? ≠some 48
 val:dx (F++B)=x.natAbs
 eq:l=kP x d F B
theorem pJ (x:Int)(d N:Nat)(h:gI x.natAbs d N):∃F B,Form (printed x d N) d x F B:=by
 obtain⟨h1,h2⟩:=h
 have hN:d<N:=by rcases Nat.lt_or_ge d N with h|h
                 ·exact h
                 ·exact absurd (.inr h) h2
 have hu:x.natAbs/10^N=0:=by rcases Nat.eq_zero_or_pos (x.natAbs/10^N) with h|h
                             ·exact h
                             ·exact absurd (.inl h) h2
 have hlt:x.natAbs<10^N:=by
  rcases Nat.lt_or_ge x.natAbs (10^N) with h|h
  ·exact h
  ·have:=Nat.div_pos h (Nat.pos_of_ne_zero (by simp));omega
 have hsp:(Dg x.natAbs N).reverse=((Dg x.natAbs N).drop d).reverse++(Dg x.natAbs d).reverse:=by
  rw[←List.reverse_append,←tM x.natAbs N d (by omega),List.take_append_drop]
 refine⟨((Dg x.natAbs N).drop d).reverse,(Dg x.natAbs d).reverse,?_,?_,?_,?_,?_,?_,?_⟩
 ·intro c hc
  exact BF _ _ c (List.mem_of_mem_drop (List.mem_reverse.1 hc))
 ·intro c hc
  exact BF _ _ c (List.mem_reverse.1 hc)
 ·rw[List.length_reverse,jt]
 ·rw[List.length_reverse,List.length_drop,jt];omega
 ·intro hl
  rw[List.length_reverse,List.length_drop,jt] at hl;obtain⟨M,rfl⟩:∃M,N=M+1:=⟨N-1,by omega⟩;have h3:=h1 M (by omega);have h4:0<x.natAbs/10^M:=by omega
  have h5:x.natAbs/10^M<10:=by
   rw[Nat.div_lt_iff_lt_mul (Nat.pos_of_ne_zero (by simp)),Nat.mul_comm,←Nat.pow_succ];exact hlt
  show((Dg x.natAbs M++[48+x.natAbs/10^M%10]).drop d).reverse[0]? ≠_;rw[List.drop_append_of_le_length (by rw[jt];omega),List.reverse_append];simp;omega
 ·rw[←hsp,Cw,Nat.mod_eq_of_lt hlt]
 ·unfold printed kP
  rw[List.reverse_append];have e1:(if x<0 then [45] else []:List Nat).reverse=if x<0 then [45] else []:=by split<;>rfl
  rw[e1];congr 1;rcases Nat.eq_zero_or_pos d with h0|h0
  ·subst h0
   rw[pX _ _ _ (.inl rfl),if_neg (by omega),List.append_nil,List.drop_zero]
  ·obtain⟨k,rfl⟩:∃k,N=d+1+k:=⟨N-d-1,by omega⟩
   rw[qb _ _ h0,if_pos h0,List.reverse_append,List.reverse_cons];simp
theorem kQ {l:List Nat}{d:Nat}{x:Int}{F B:List Nat}(h:Form l d x F B):∃N,gI x.natAbs d N∧l=printed x d N∧N=F.length+d:=by
 obtain⟨hf,hb,hlen,hpos,hlead,hval,heq⟩:=h
 have hd:∀c∈F++B,gz c:=fun c hc=>by
  rcases List.mem_append.1 hc with h|h
  ·exact hf c h
  ·exact hb c h
 have hD:=FF (F.length+d) (F++B) (by rw[List.length_append,hlen]) hd;have hlt:=pP (F++B) hd;rw[List.length_append,hlen] at hlt;rw[hval] at hD hlt
 have hN:gI x.natAbs d (F.length+d):=by
  refine⟨fun k hk=> ?_,?_⟩
  ·rcases Nat.lt_or_ge d k with h|h
   ·left
    cases F with
    |nil=>simp at hpos
    |cons c F=>
     have h1:=hlead (by simp at hk⊢;omega);have h2:=hf c (List.mem_cons_self ..);unfold gz at h2;simp at h1;have h3:dx (c::F++B)=(c-48)*10^(F++B).length+dx (F++B):=oQ c (F++B);rw[hval,List.length_append,hlen] at h3;have h4:1*10^(F.length+d)≤(c-48)*10^(F.length+d):=Nat.mul_le_mul_right _ (by omega);have h5:10^k≤10^(F.length+d):=Nat.pow_le_pow_right (by omega) (by simp at hk;omega);exact Nat.div_pos (by omega) (Nat.pos_of_ne_zero (by simp))
   ·exact .inr h
  ·rw[Nat.div_eq_of_lt hlt];omega
 refine⟨_,hN,?_,rfl⟩;rw[heq];unfold kP printed;rw[List.reverse_append];have e1:(if x<0 then [45] else []:List Nat).reverse=if x<0 then [45] else []:=by split<;>rfl
 rw[e1];congr 1;rcases Nat.eq_zero_or_pos d with h0|h0
 ·subst h0
  obtain rfl:=List.eq_nil_of_length_eq_zero hlen;rw[pX _ _ _ (.inl rfl),if_neg (by omega),hD,List.reverse_reverse]
 ·obtain⟨k,hk⟩:∃k,F.length+d=d+1+k:=⟨F.length-1,by omega⟩
  have hB:Dg x.natAbs d=B.reverse:=by
   rw[←tM x.natAbs (F.length+d) d (by omega),hD,List.reverse_append,List.take_left' (by rw[List.length_reverse,hlen])]
  rw[hk] at hD;rw[hk,qb _ _ h0,if_pos h0,hD,hB,show(F++B).reverse=B.reverse++F.reverse from List.reverse_append,List.drop_left' (by rw[List.length_reverse,hlen])];simp
def iG (l:List Nat):Nat:=l.foldl (fun n c=>if 48≤c∧c≤57 then 10*n+(c-48) else n) 0
theorem vK (l:List Nat)(h:∀c∈l,gz c):∀a,l.foldl (fun n c=>if 48≤c∧c≤57 then 10*n+(c-48) else n) a=l.foldl (fun n c=>10*n+(c-48)) a:=by
 induction l with
 |nil=>intro a;rfl
 |cons c l ih=>
  intro a;rw[List.foldl_cons,List.foldl_cons,if_pos (show 48≤c∧c≤57 from h c (List.mem_cons_self ..))];exact ih (fun x hx=>h x (List.mem_cons_of_mem _ hx)) _
theorem sk (l:List Nat)(c:Nat):iG (l++[c])=if 48≤c∧c≤57 then 10*iG l+(c-48) else iG l:=by unfold iG;rw[List.foldl_append];rfl
theorem yI (l:List Nat):∀k,iG (l.take k)<10^k
 |0=>by simp[iG]
 |k+1=>by
  have h:=yI l k;rw[List.take_add_one]
  cases l[k]? with
  |none=>simp;rw[Nat.pow_succ];omega
  |some c=>
   rw[show(some c).toList=[c] from rfl,sk,Nat.pow_succ];split<;>omega
def fc (l:List Nat):Int:=if l.head? =some 45 then -(iG l:Int) else iG l
theorem wS {l:List Nat}{d:Nat}{x:Int}{F B:List Nat}(h:Form l d x F B):fc l=x:=by
 obtain⟨hf,hb,hlen,hpos,hlead,hval,heq⟩:=h
 have hv:iG l=x.natAbs:=by
  rw[heq,←hval];unfold iG kP;rw[List.foldl_append,List.foldl_append,vK F hf];have e1:List.foldl (fun n c=>if 48≤c∧c≤57 then 10*n+(c-48) else n) 0 (if x<0 then [45] else [])=0:=by split<;>rfl
  rw[e1];unfold dx;rw[List.foldl_append];rcases Nat.eq_zero_or_pos d with h0|h0
  ·subst h0
   obtain rfl:=List.eq_nil_of_length_eq_zero hlen;rfl
  ·rw[if_pos h0,List.foldl_cons,if_neg (by omega),vK B hb]
 unfold fc;rw[hv]
 have hh:(l.head? =some 45)↔x<0:=by
  rw[heq];unfold kP
  by_cases hx:x<0
  ·simp[hx]
  ·cases F with
   |nil=>simp at hpos
   |cons c F=>
    have:=hf c (List.mem_cons_self ..);unfold gz at this;simp[hx];omega
 by_cases hx:x<0
 ·rw[if_pos (hh.2 hx)];omega
 ·rw[if_neg (fun h=>hx (hh.1 h))];omega
section
variable {P:Program} {E:Operand→Option Value} {o:Oper} {w w':World} {v:Value}
theorem aa.here {f:FuncId}{args:Array Operand}{ts:Array TypeId}{vs:List Value}(ho:o.op= .call {callee:= .value (.func f),args:=args,argTypes:=ts})(hf:E (.func f)=some (.func (.func f) #[] #[])) (hx:jn E args.toList=some vs)
  (he:(callFunc f vs.toArray).run P w= .ok (.value v) w'):aa P E o w v w':=fun ρ h=>by
 have hargs:args.map ρ=vs.toArray:=by
  apply Array.ext';rw[Array.toList_map,jd h hx]
 unfold execOp;simp only[ho,resolve,h _ _ hf,Deferred.ofValue,hargs,Sem.run_bind,Sem.run_pure,Result.andThen_ok,invoke];simp[he]
end
theorem lG (l:List Nat)(c:Nat)(hl:∀x∈l,x<256)(hc:c<256)(w:World):(callFunc 263 [.string (strOf l), .int .u8 (c:Int)].toArray).run Tryz.prog w= .ok (.value (.int .i64 (if c∈l then(idx l c:Int) else -1))) w:=by
 rw[run_callFunc_extern Tryz.func263 (by kernel_rfl) (by kernel_rfl) (by kernel_rfl) (e:=Extern.BytealgIndexByte.indexByte) (by kernel_rfl),Lib.run_indexByteString];rw[dW,show(c:Int).toNat.toUInt8=UInt8.ofNat c by rw[Int.toNat_natCast],mO c hc l hl];rfl
theorem rU (l:List Nat)(c:Nat)(w:World)(hl:∀x∈l,x<256)(hc:c<256):
  Calls Tryz.prog 259 #[.string (strOf l), .int .u8 (c:Int)] w fun e w'=>e= .returned (.int .i64 (if c∈l then(idx l c:Int) else -1))∧w=w':=by
 refine Zs 8 Tryz.func259 ?_;refine aj ?_;refine Za ?_;refine bn 0 1 4 (aB ?_);refine Zm ?_;refine Zm ?_;refine Zv (aa.here rfl rfl rfl (lG l c hl hc _)) ?_;refine Za ?_;refine bn 0 1 4 (Zt (Cd.ret ?_));refine aZ ?_;exact⟨rfl,rfl⟩
theorem zZ (l:List Nat)(c:Nat)(w:World)(hl:∀x∈l,x<256)(hc:c<256):
  Calls Tryz.prog 257 #[.string (strOf l), .string (strOf [c])] w fun e w'=>e= .returned (.int .i64 (if c∈l then(idx l c:Int) else -1))∧w=w':=by
 have h1:∀x∈ [c],x<256:=fun x hx=>by simp at hx;omega
 refine Zs 143 Tryz.func257 ?_;refine aj ?_;refine Za ?_;refine bn 0 1 4 (aB ?_);refine Zm ?_;refine Zv (aa.dh rfl rfl Tryz.underlying9) ?_;refine Za ?_;refine aQ 0 1 4 5 (aI (Cd.block (aj ?_)));refine Zm ?_;refine bC ?_;refine Zm ?_;refine aw.start ?_;refine bw (fun hcx=>aa.move rfl rfl) ?_;refine gq ?_;refine Zn (fun hcx=>aa.cI (a:=[c]) (b:=l) rfl rfl rfl h1 hl) ?_;refine fg ?_;refine Za ?_;refine aO 0 1 4 5 16 (Zt ?_);refine Cd.cond rfl (fun h=> ?_) (fun h=> ?_)
 ·have:l=[c]:=(show [c]=l by simpa using h).symm
  subst this;refine aj ?_;refine Za ?_;refine aO 0 1 4 5 16 (Zt (Cd.ret (ae.ag (ae.af ?_))));refine aZ ?_;exact⟨by simp[idx],rfl⟩
 ·skip
  refine aj ?_;refine Zm ?_;refine bC ?_;refine Za ?_;refine aY 0 1 4 5 16 24 (Zt ?_);refine Cd.aU rfl rfl ?_;refine aj ?_;refine Zm ?_;refine Zm ?_;refine Zv (aa.cz (l:=[c]) (j:=0) (c:=c) rfl rfl rfl Tryz.underlying9 rfl rfl hc) ?_;refine Zc (Ze Tryz.func259) (rU l c _ hl hc) ?_;rintro e w2 ⟨rfl,rfl⟩;refine⟨_,rfl,?_⟩;refine Za ?_;refine aY 0 1 4 5 16 24 (Zt (Cd.ret (ae.ag (ae.af ?_))));refine aZ ?_;exact⟨rfl,rfl⟩
def jH (l:List Nat)(c:Nat):List Nat:=if c∈l then l.take (idx l c) else l
def kV (l:List Nat)(c:Nat):List Nat:=if c∈l then l.drop (idx l c+1) else []
theorem B0 (l:List Nat)(c:Nat)(w:World)(hl:∀x∈l,x<256)(hc:c<256)(hn:l.length≤9223372036854775807):
  Calls Tryz.prog 253 #[.string (strOf l), .string (strOf [c])] w fun e w'=>e= .returned (.tuple #[.string (strOf (jH l c)), .string (strOf (kV l c)), .bool (decide (c∈l))])∧Grow w w':=by
 have ab:=Below.refl w.heap.size w;have hc1: [c].length=1:=rfl;refine Zs 23 Tryz.func253 ?_;refine aj ?_;refine Za ?_;refine Za ?_;refine Za ?_;refine aO 0 1 4 5 6 (aI (aj ?_));refine Zm ?_;refine Zm ?_;refine Zc (Ze Tryz.func257) (zZ l c _ hl hc) ?_;rintro e w2 ⟨rfl,rfl⟩;refine⟨_,rfl,?_⟩
 by_cases hm:c∈l
 ·obtain⟨h1,-,-⟩:=oc l c hm
  rw[if_pos hm];unfold jH kV;rw[if_pos hm,if_pos hm,decide_eq_true hm];refine Za ?_;refine aY 0 1 4 5 6 7 (aB ?_);refine Zm ?_;refine kZ ?_;refine ba 0 1 4 5 6 7 12 (Zt ?_);refine Cd.aU rfl (decide_eq_true (by omega)) ?_;refine Cd.seq ?_;refine Cd.eB (F':=[(0,_),(1,_),(7,_),(12,_)]) ⟨rfl,rfl,rfl,rfl,trivial⟩ ?_;refine ff 12 ?_;intro w1 hw1 zw1;replace ab:=ab.step hw1;have zbel:=ab.size;refine cf ?_;refine cf ?_;refine Zd (fun w hG=>aa.sliceTo (j:=idx l c) rfl rfl rfl Tryz.underlying9 rfl (by omega)) ?_;refine cf ?_;refine cf ?_;refine cf ?_;refine Zd (fun w hG=>aa.dh rfl rfl Tryz.underlying9) ?_;refine Zd (fun w hG=>aa.kA rfl rfl rfl (by omega) (by omega)) ?_;refine Zd (fun w hG=>aa.sliceFrom (j:=idx l c+1) rfl rfl rfl Tryz.underlying9 rfl (by omega)) ?_;refine Zd (fun w hG=>aa.assign rfl rfl) ?_;refine Zd (fun w hG=>aa.assign rfl rfl) ?_;refine Zd (fun w hG=>aa.assign rfl rfl) ?_;refine Dr.nil ?_;refine bb.done (F':=[(0,_),(1,_),(4,_),(5,_),(6,_),(7,_),(12,_)]) rfl ⟨rfl,rfl,rfl,rfl,rfl,rfl,rfl,trivial⟩ ?_;intro w2 hw2 fw2;replace ab:=ab.step hw2;refine ba 0 1 4 5 6 7 12 (Zt (Cd.ret (ae.af ?_)));refine ae.nn rfl rfl rfl rfl (.inl rfl) ?_;exact⟨rfl,ab⟩
 ·rw[if_neg hm]
  unfold jH kV;rw[if_neg hm,if_neg hm,decide_eq_false hm];refine Za ?_;refine aY 0 1 4 5 6 7 (aB ?_);refine Zm ?_;refine kZ ?_;refine ba 0 1 4 5 6 7 12 (Zt ?_);refine Cd.aM rfl rfl ?_;refine Cd.skip (aB ?_);refine Zm ?_;refine Za ?_;refine Za ?_;refine Za ?_;refine ba 0 1 4 5 6 7 12 (Zt (Cd.ret ?_));refine ae.nn rfl rfl rfl rfl (.inl rfl) ?_;exact⟨rfl,ab⟩
theorem DS (l:List Nat)(c:Nat)(w:World)(hl:∀x∈l,x<256)(hc:c<256)(hn:l.length≤9223372036854775807):
  Calls Tryz.prog 246 #[.string (strOf l), .string (strOf [c])] w fun e w'=>e= .returned (.tuple #[.string (strOf (jH l c)), .string (strOf (kV l c)), .bool (decide (c∈l))])∧Grow w w':=by
 have ab:=Below.refl w.heap.size w;refine Zs 13 Tryz.func246 ?_;refine aj ?_;refine Za ?_;refine Za ?_;refine Za ?_;refine aO 0 1 4 5 6 (aB ?_);refine Zm ?_;refine Zm ?_;refine Zc (Ze Tryz.func253) (B0 l c _ hl hc hn) ?_;rintro e w2 ⟨rfl,hb2⟩;refine⟨_,rfl,?_⟩;replace ab:=ab.step hb2;refine Zx ?_;refine Zx ?_;refine Zx ?_;refine Za ?_;refine Za ?_;refine Za ?_;refine aO 0 1 4 5 6 (Zt (Cd.ret ?_));refine ae.nn rfl rfl rfl rfl (.inl rfl) ?_;exact⟨rfl,ab⟩
theorem rX (l:List Nat)(c:Nat)(w:World)(hl:∀x∈l,x<256)(hc:c<256):
  Calls Tryz.prog 241 #[.string (strOf l), .string (strOf [c])] w fun e w'=>e= .returned (.bool (decide (l.head? =some c)))∧w=w':=by
 have h1:∀x∈ [c],x<256:=fun x hx=>by simp at hx;omega
 have h2:∀x∈l.take 1,x<256:=fun x hx=>hl x (List.mem_of_mem_take hx);refine Zs 18 Tryz.func241 ?_;refine aj ?_;refine Za ?_;refine bn 0 1 4 (aB ?_);refine Zm ?_;refine Zv (aa.dh rfl rfl Tryz.underlying9) ?_;refine Zm ?_;refine Zv (aa.dh rfl rfl Tryz.underlying9) ?_;refine kZ ?_;refine Zm ?_;refine aw.start ?_;refine bw (fun hcx=>aa.move rfl rfl) ?_;refine gq ?_;refine Zn (fun hcx=>aa.dh rfl rfl Tryz.underlying9) ?_;refine Zn (fun hcx=>aa.sliceTo (j:=1) rfl rfl rfl Tryz.underlying9 rfl (by simp at hcx;omega)) ?_;refine gq ?_;refine Zn (fun hcx=>aa.cI (a:=l.take 1) (b:=[c]) rfl rfl rfl h2 h1) ?_;refine fQ ?_;refine Za ?_;refine bn 0 1 4 (Zt (Cd.ret ?_));refine aZ ?_;refine⟨bt (aJ ?_),rfl⟩
 cases l with
 |nil=>simp
 |cons x l=>rw[Bool.eq_iff_iff];simp;omega
theorem rj (l:List Nat)(c:Nat)(w:World)(hl:∀x∈l,x<256)(hc:c<256):
  Calls Tryz.prog 252 #[.string (strOf l), .string (strOf [c])] w fun e w'=>e= .returned (.tuple #[.string (strOf (if l.head? =some c then l.drop 1 else l)), .bool (decide (l.head? =some c))])∧w=w':=by
 refine Zs 15 Tryz.func252 ?_;refine aj ?_;refine Za ?_;refine Za ?_;refine aQ 0 1 4 5 (aI (aj ?_));refine Zm ?_;refine Zm ?_;refine Zc (Ze Tryz.func241) (rX l c _ hl hc) ?_;rintro e w2 ⟨rfl,rfl⟩;refine⟨_,rfl,?_⟩
 by_cases hm:l.head? =some c
 ·rw[if_pos hm,decide_eq_true hm]
  have h1:1≤l.length:=by cases l with
   |nil=>simp at hm
   |cons x l=>simp
  refine mD ?_;refine aO 0 1 4 5 9 (Zt ?_);refine Cd.aM rfl rfl ?_;refine Cd.skip (aB ?_);refine Zm ?_;refine Zm ?_;refine Zv (aa.dh rfl rfl Tryz.underlying9) ?_;refine Zv (aa.sliceFrom (j:=1) rfl rfl rfl Tryz.underlying9 rfl h1) ?_;refine Za ?_;refine Za ?_;refine aO 0 1 4 5 9 (Zt (Cd.ret ?_));refine dH ?_;exact⟨rfl,rfl⟩
 ·rw[if_neg hm,decide_eq_false hm]
  refine mD ?_;refine aO 0 1 4 5 9 (Zt ?_);refine Cd.aU rfl rfl ?_;refine aj ?_;refine Zm ?_;refine Za ?_;refine Za ?_;refine aO 0 1 4 5 9 (Zt (Cd.ret (ae.af ?_)));refine dH ?_;exact⟨rfl,rfl⟩
theorem rV (l:List Nat)(c:Nat)(w:World)(hl:∀x∈l,x<256)(hc:c<256):
  Calls Tryz.prog 245 #[.string (strOf l), .string (strOf [c])] w fun e w'=>e= .returned (.tuple #[.string (strOf (if l.head? =some c then l.drop 1 else l)), .bool (decide (l.head? =some c))])∧w=w':=by
 refine Zs 11 Tryz.func245 ?_;refine aj ?_;refine Za ?_;refine Za ?_;refine aQ 0 1 4 5 (aB ?_);refine Zm ?_;refine Zm ?_;refine Zc (Ze Tryz.func252) (rj l c _ hl hc) ?_;rintro e w2 ⟨rfl,rfl⟩;refine⟨_,rfl,?_⟩;refine Zx ?_;refine Zx ?_;refine Za ?_;refine Za ?_;refine aQ 0 1 4 5 (Zt (Cd.ret ?_));refine dH ?_;exact⟨rfl,rfl⟩
theorem AG (c:Nat)(w:World):Calls Tryz.prog 247 #[.int .u8 (c:Int)] w fun e w'=>e= .returned (.bool (decide (48≤c∧c≤57)))∧w=w':=by
 refine Zs 9 Tryz.func247 ?_;refine aj ?_;refine Za ?_;refine dF 0 2 (aB ?_);refine Zm ?_;refine kZ ?_;refine Zm ?_;refine aw.start ?_;refine bw (fun hcx=>aa.move rfl rfl) ?_;refine Zn (fun hcx=>aa.leq rfl rfl rfl) ?_;refine fQ ?_;refine Za ?_;refine dF 0 2 (Zt (Cd.ret ?_));refine aZ ?_;refine⟨bt (aJ ?_),rfl⟩;rw[Bool.eq_iff_iff];simp;omega
def bm (a:Int):Prop:= -9223372036854775808≤a∧a≤9223372036854775807
def fits (a:Int):Bool:=decide (-9223372036854775808≤a)&&decide (a≤9223372036854775807)
def br (a:Int):Int:=if fits a=true then a else 0
theorem pV {a:Int}(h0: -9223372036854775808≤a)(h1:a≤9223372036854775807):fits a=true:=by unfold fits;rw[decide_eq_true h0,decide_eq_true h1];rfl
theorem lq {a:Int}(h:a< -9223372036854775808∨9223372036854775807<a):fits a=false:=by
 unfold fits;rcases h with h|h
 ·rw[decide_eq_false (by omega)];rfl
 ·rw[decide_eq_false (show¬a≤9223372036854775807 by omega)];simp
theorem xZ (a:Int): -9223372036854775808≤br a∧br a≤9223372036854775807:=by
 unfold br;split
 ·rename_i h
  unfold fits at h;simp only[Bool.and_eq_true,decide_eq_true_eq] at h;exact h
 ·omega
theorem aa.nilCheck {P:Program}{E:Operand→Option Value}{o:Oper}{w:World}{x:Operand}{ad:Addr}(ho:o.op= .nilCheck x)(hx:E x=some (.pointer (some ad))):aa P E o w (.pointer (some ad)) w:=fun ρ h=>by
 unfold execOp;simp only[ho];rw[h _ _ hx];rfl
theorem aa.EB {P:Program}{E:Operand→Option Value}{o:Oper}{w w':World}{x:Operand}{T T':TypeId}{u v:Value}(ho:o.op= .convert T T' x)(hx:E x=some u)(hr:(convert T T' u).run P w= .ok v w'):aa P E o w v w':=fun ρ h=>by
 unfold execOp;simp only[ho];rw[h _ _ hx];simp only[Sem.run_bind,hr,Result.andThen_ok];rfl
structure Wt (B:Nat)(w w':World):Prop where
 below:Below (min B w.heap.size) w w'
 eQ:∀k t cs,aH w k t cs→t≠232→t≠5→aH w' k t cs
section
variable {B:Nat} {w w' w'':World}
theorem Wt.refl (B:Nat)(w:World):Wt B w w:=⟨Below.refl _ _,fun _ _ _ h _ _=>h⟩
theorem Wt.trans (h:Wt B w w')(k:Wt B w' w''):Wt B w w'':=⟨h.below.trans (k.below.mono (by have:=h.below.size;omega)),fun i t cs hb h1 h2=>k.eQ i t cs (h.eQ i t cs hb h1 h2) h1 h2⟩
theorem Wt.grow (h:Below w.heap.size w w'):Wt B w w':=⟨h.mono (Nat.min_le_right _ _),fun _ _ _ hb _ _=>hb.step h⟩
theorem Wt.step (h:Wt B w w')(k:Below w'.heap.size w' w''):Wt B w w'':=h.trans (Wt.grow k)
theorem Wt.wt (h:Wt B w w')(k:Wt B w' w''):Wt B w w'':=h.trans k
theorem Wt.to (h:Wt B w w')(hB:B≤w.heap.size):Below B w w':=by have:=h.below;rwa [Nat.min_eq_left hB] at this
theorem Wt.DA {g:Nat}{T:TypeId}{cur cs:Array Value}(h:Wt B w w')(k:aH w' g T cur)(p:lu w' w'' g T cs)(hB:B≤g)(hT:T=232∨T=5):Wt B w w'':=
 h.trans ⟨(p.below hB k.lt).mono (Nat.min_le_left _ _),fun i t cs hb h1 h2=>hb.put p (hb.ne k (by rcases hT with rfl|rfl<;>assumption))⟩
theorem aH.wt {k:Nat}{t:TypeId}{cs:Array Value}(h:aH w k t cs)(f:Wt B w w')(h1:t≠232:=by decide)(h2:t≠5:=by decide):aH w' k t cs:=f.eQ k t cs h h1 h2
theorem App.wt {n:Nat}{v:Value}{xs:List Value}(h:App w w' B v)(o:Own w B 5 1 v n xs):Wt B w w':=
 ⟨h.below.mono (Nat.min_le_left _ _),fun i t cs hb _ h2=>hb.grown h.grown (fun e=>gf o.row hb (fun e=>h2 e.symm) e.symm)⟩
end
structure Bw (w:World)(B g:Nat)(bs:List Nat):Prop where
 ge:B≤g
 bytes:∀d∈bs,d<256
 cell:∃p v,(p= .pointer none∨p= .pointer (some ⟨g,0,none⟩))∧aH w g 232 #[p,v]∧Own w B 5 1 v bs.length (Bt bs)∧(bs=[]→v= .slice none 0 0)
theorem Bw.size {w:World}{B g:Nat}{bs:List Nat}(h:Bw w B g bs):B≤w.heap.size:=by
 obtain⟨p,v,-,hb,-⟩:=h.cell;have:=hb.lt;have:=h.ge;omega
theorem Bw.step {w w':World}{B g:Nat}{bs:List Nat}(h:Bw w B g bs)(k:Below w.heap.size w w'):Bw w' B g bs:=by
 obtain⟨p,v,hp,hb,ho,hz⟩:=h.cell;exact⟨h.ge,h.bytes,p,v,hp,hb.step k,ho.step k,hz⟩
theorem rO (x:Value)(w:World):(callFunc 235 [x].toArray).run Tryz.prog w= .ok (.value x) w:=by
 rw[run_callFunc_extern Tryz.func235 (by kernel_rfl) (by kernel_rfl) (by kernel_rfl) (e:=Extern.AbiNoEscape.same) (by kernel_rfl),Lib.run_noEscape];rfl
theorem rZ (B g:Nat)(bs:List Nat)(w:World)(h:Bw w B g bs):Calls Tryz.prog 213 #[.pointer (some ⟨g,0,none⟩)] w fun e w'=>e= .returned (.tuple #[])∧Wt B w w'∧Bw w' B g bs:=by
 obtain⟨p,v,hp,k0,own,hz⟩:=h.cell;have k00:=k0
 have hsh:∀W p,aH W g 232 #[p,v]→W.shape? g=some (232,2):=fun W p hb=>by
  have hb:W.heap[g]? =some (.cells #[p,v] 232 (0,0)):=hb;simp[World.shape?,hb]
 obtain⟨j,hj,hjs⟩:=bL (P:=Tryz.prog) (t:=230) (n:=2) (by kernel_rfl);rcases hp with rfl|rfl
 ·have hto:=Lib.run_to_unsafe (P:=Tryz.prog) w (src:=228) (dst:=279) (a:=⟨g,0,none⟩) Tryz.underlying228 Tryz.underlying279 hj (by omega) (hsh w _ k0) (show(0:Nat)<2 by decide)
  have hfrom:=Lib.run_from_unsafe (P:=Tryz.prog) w (dst:=228) (src:=279) (a:=⟨g,0,none⟩) Tryz.underlying279 Tryz.underlying228 hj (hsh w _ k0) (by kernel_rfl);refine Zs 20 Tryz.func213 ?_;refine aj ?_;refine Zm ?_;refine Zv (aa.nilCheck rfl rfl) ?_;refine Zf 0 Tryz.underlying230 ?_;refine ZL Tryz.underlying228 k0 ?_;refine Zv (aa.EP rfl rfl rfl Tryz.underlying228) ?_;refine dF 0 6 (Zt ?_);refine Cd.aU rfl rfl ?_;refine Zr ?_;refine Zm ?_;refine Zm ?_;refine Zv (aa.EB rfl rfl hto) ?_;refine Zv (aa.here rfl rfl rfl (rO _ _)) ?_;refine Zv (aa.EB rfl rfl hfrom) ?_;refine Zv (aa.nilCheck rfl rfl) ?_;refine Zf 0 Tryz.underlying230 ?_;refine Zq k0 ?_;intro w1 pw1;replace k0:=pw1.an;refine dF 0 6 ?_;refine ae.gu rfl (.inr rfl) ?_;exact⟨rfl,(Wt.refl B w).DA k00 pw1 h.ge (.inl rfl),h.ge,h.bytes,_,v, .inr rfl,k0,own.put (B':=B) k00 pw1 h.ge,hz⟩
 ·refine Calls.start 20 Tryz.func213 rfl rfl rfl ?_
  refine aj ?_;refine Zm ?_;refine Zv (aa.nilCheck rfl rfl) ?_;refine Zf 0 Tryz.underlying230 ?_;refine ZL Tryz.underlying228 k0 ?_;refine Zv (aa.EP rfl rfl rfl Tryz.underlying228) ?_;refine dF 0 6 (Zt ?_);refine Cd.aM rfl rfl ?_;refine aj ?_;refine Zm ?_;refine Zv (aa.nilCheck rfl rfl) ?_;refine Zf 0 Tryz.underlying230 ?_;refine ZL Tryz.underlying228 k0 ?_;refine Zm ?_;refine Zv (aa.bin rfl rfl rfl rfl (Lib.run_neq_ptr_same w _ Tryz.underlying228 hj)) ?_;refine bn 0 6 19 (Zt ?_);refine Cd.aM rfl rfl ?_;refine Cd.skip ?_;refine ae.gu rfl (.inr rfl) ?_;exact⟨rfl,Wt.refl B w,h⟩
theorem vA {s:List Nat}(hs:∀d∈s,d<256):Lib.strCells (strOf s)=Bt s:=by
 unfold Lib.strCells Bt;rw[dW,List.map_map];refine List.map_congr_left fun d hd=> ?_;show Value.int .u8 ((UInt8.ofNat d).toNat:Int)= .int .u8 (d:Int);rw[ofNat_toNat (hs d hd)]
theorem Seq.DE {P:Program}{ops:Array Oper}{Q:Exit→Act→World→Prop}{rest:List Oper}{o:Oper}{n d:Nat}{F:List (Nat × Value)}{w:World}{v:Value}{x y:Operand}{t u e B:Nat}{k:Nat}{xs:List Value}{s:List Nat}(ho:o.op= .call {callee:= .builtin .append,args:= #[x,y],argTypes:= #[t,u]}) (hx:eT F x=some v) (hy:eT F y=some (.string (strOf s))) (ht:P.underlying t=some (.slice e)) (hu:P.underlying u=some .string) (hs:dB P e 1=true) (hz:bW P e=some (some (.int .u8 0))) (hby:(P.info? e).map (·.bytes)=some 1)
  (hown:Own w B e 1 v k xs) (hsb:∀d∈s,d<256) (hB:B≤w.heap.size) (h63:k+s.length≤1000000000) (hg:o.guard=none) (hd:o.dst=some d) (hn:Nat.blt d n=true)
  (h:∀v' w',Own w' B e 1 v' (k+s.length) (xs++Bt s)→App w w' B v→(v'= .slice none 0 0↔v= .slice none 0 0∧s.length=0)→Seq P ops Q rest n ((d,v')::F) w'):Seq P ops Q (o::rest) n F w:=by
 obtain⟨i,hi,hisz⟩:=bL hs;have hz':i.zero=some (.int .u8 0):=by unfold bW at hz;rw[hi] at hz;injection hz
 have hb':i.bytes=1:=by rw[hi] at hby;injection hby
 obtain⟨v',w',hrun,h2,h3,h4⟩:=Lib.run_append_own_string (P:=P) w B t u o.type e i ht hu hi hz' hisz hb' v k xs hown.row (strOf s) (by rw[cd];simp only[maxLen];omega) (by rw[cd];omega) hB;rw[cd] at h2 h4;rw[vA hsb] at h2;refine Seq.val (v:=v') (w':=w') (fun ρ hρ=> ?_) hg hd hn (h v' w' ⟨h2⟩ ⟨?_,h3⟩ h4)
 ·unfold execOp
  simp only[ho,resolve,invoke,builtin,Sem.run_bind,Sem.run_pure,Result.andThen_ok,List.map_toArray,List.map_cons,List.map_nil,hρ _ _ hx,hρ _ _ hy,hrun]
 ·refine⟨h3.os,h3.tape,h3.output,h3.size,fun j hj=>h3.block j (by omega) fun e'=> ?_⟩
  rcases hown.row.2 with ⟨rfl,_⟩|⟨g,cap,cur,rfl,hBg,_⟩
  ·cases e'
  ·injection e' with e'
   have:j=g:=e';omega
def iS (B g:Nat)(bs:List Nat)(w:World)(e:Ending)(w':World):Prop:=(∃v,e= .returned v)∧Wt B w w'∧Bw w' B g bs
theorem bS (B g:Nat)(s bs:List Nat)(w:World)(h:Bw w B g bs)(hs:∀d∈s,d<256)(hl:bs.length+s.length≤1000000000):
  Calls Tryz.prog 174 #[.pointer (some ⟨g,0,none⟩), .string (strOf s)] w (iS B g (bs++s) w)∧∀u,CallsD Tryz.prog 174 #[.pointer (some ⟨g,0,none⟩), .string (strOf s)] u w fun e u' w'=>u'=u∧iS B g (bs++s) w e w':=by
 have wt:=Wt.refl B w;have wr:=h;refine(fun key=>⟨Calls.start 19 Tryz.func174 rfl rfl rfl key,fun u=>CallsD.start 19 Tryz.func174 rfl rfl rfl key⟩) ?_;refine aj ?_;refine Za ?_;refine Za ?_;refine aQ 0 1 4 5 (aB ?_);refine Zm ?_;refine Zc (Ze Tryz.func213) (rZ B g bs _ wr) ?_;clear wr;rintro e w1 ⟨rfl,fw1,wr⟩;refine⟨_,rfl,?_⟩;replace wt:=wt.wt fw1;obtain⟨p,v,hp,k0,own,hz⟩:=wr.cell;refine aQ 0 1 4 5 (aB ?_);refine Zm ?_;refine Zm ?_;refine Zv (aa.nilCheck rfl rfl) ?_;refine Zf 1 Tryz.underlying230 ?_;refine ZL Tryz.underlying64 k0 ?_;refine Zm ?_;refine Seq.DE rfl rfl rfl Tryz.underlying64 Tryz.underlying9 (by kernel_rfl) bf (by kernel_rfl) own hs wr.size hl rfl rfl rfl ?_;intro v2 w2 own2 ha2 hv2;have k1:=k0.grown ha2.grown (fun e=>gf own.row k0 (by decide) e.symm);have wt2:=wt.trans (ha2.wt own);clear k0 wt;have k0:=k1;have wt:=wt2;obtain⟨A2,c2,rfl,-⟩:=own2.reads;refine Zv (aa.nilCheck rfl rfl) ?_;refine Zf 1 Tryz.underlying230 ?_;refine Zq k0 ?_;intro w2 pw2;replace k0:=pw2.an;refine aQ 0 1 4 5 (aB ?_);refine Zm ?_;refine Zv (aa.dh rfl rfl Tryz.underlying9) ?_;refine Za ?_;refine Za ?_;refine aQ 0 1 4 5 (Zt (Cd.ret ?_));refine dH ?_;refine⟨⟨_,rfl⟩,wt.DA k1 pw2 h.ge (.inl rfl),h.ge,fun d hd=> ?_,p,_,hp,k0,?_,fun hnil=> ?_⟩
 ·rcases List.mem_append.1 hd with hd|hd
  ·exact h.bytes d hd
  ·exact hs d hd
 ·rw[jJ,List.length_append]
  exact own2.put (B':=B) k1 pw2 h.ge
 ·rw[hv2]
  have:=congrArg List.length hnil;simp at this;exact⟨hz this.1,by rw[this.2];rfl⟩
theorem Ch (B g:Nat)(bs:List Nat)(w:World)(h:Bw w B g bs):Calls Tryz.prog 172 #[.pointer (some ⟨g,0,none⟩)] w fun e w'=>e= .returned (.int .i64 (bs.length:Int))∧Grow w w':=by
 obtain⟨p,v,hp,k0,own,hz⟩:=h.cell;have ab:=Below.refl w.heap.size w;obtain⟨A,c,rfl,-⟩:=own.reads;refine Zs 8 Tryz.func172 ?_;refine aj ?_;refine Za ?_;refine dF 0 2 (aB ?_);refine Zm ?_;refine Zv (aa.nilCheck rfl rfl) ?_;refine Zf 1 Tryz.underlying230 ?_;refine ZL Tryz.underlying64 k0 ?_;refine Zv (aa.len rfl rfl Tryz.underlying64) ?_;refine Za ?_;refine dF 0 2 (Zt (Cd.ret ?_));refine aZ ?_;exact⟨rfl,ab⟩
theorem Own.FK {w:World}{B n:Nat}{e:TypeId}{v:Value}{xs:List Value}(h:Own w B e 1 v n xs)(h0:0<n):∃g cap cur,v= .slice (some ⟨g,0,none⟩) n cap∧B≤g∧aH w g e cur∧n≤cap∧cur.size=cap∧∀(j:Nat) (x:Value),xs[j]? =some x→cur[j]? =some x:=by
 obtain⟨hl,⟨_,h1⟩|⟨g,cap,cur,h',h1,h2,h3,h4,h5,h6⟩⟩:=h.row
 ·omega
 ·refine⟨g,cap,cur,h',h1,h2,h3,by omega,fun j x hx=> ?_⟩
  rw[←h6] at hx
  have:cur.toList[j]? =some x:=by
   rw[List.getElem?_take] at hx;split at hx
   ·exact hx
   ·cases hx
  simpa using this
theorem vm (B g:Nat)(bs:List Nat)(w:World)(h:Bw w B g bs)(hl:bs.length≤1000000000):Calls Tryz.prog 173 #[.pointer (some ⟨g,0,none⟩)] w fun e w'=>e= .returned (.string (strOf bs))∧Below B w w':=by
 obtain⟨p,v,hp,k0,own,hz⟩:=h.cell;have ab:=Below.refl w.heap.size w;have hBw:=h.size;rcases Nat.eq_zero_or_pos bs.length with h0|h0
 ·have hb:bs=[]:=List.eq_nil_of_length_eq_zero h0
  have hv:=hz hb;subst hb hv;refine Zs 14 Tryz.func173 ?_;refine aj ?_;refine Za ?_;refine dF 0 2 (aI ?_);refine ff 10 ?_;intro w1 hw1 zw1;replace ab:=ab.step hw1;replace k0:=k0.step hw1;have zbel:=ab.size;have zlt:=k0.lt;refine cf ?_;refine Zd (fun w hG=>aa.nilCheck rfl rfl) ?_;refine eV 1 Tryz.underlying230 ?_;refine dZ Tryz.underlying64 k0 ?_;refine Zd (fun w hG=>aa.jr (v:= .pointer none) rfl rfl (vs:=[.slice none 0 0]) rfl (fun cs=>by simp[builtin,Lib.run_unsafeSliceData_nil])) ?_;refine cf ?_;refine Zd (fun w hG=>aa.nilCheck rfl rfl) ?_;refine eV 1 Tryz.underlying230 ?_;refine dZ Tryz.underlying64 k0 ?_;refine Zd (fun w hG=>aa.len rfl rfl Tryz.underlying64) ?_;refine Dr.nil ?_;refine bb.done (F':=[(0,_),(2,_),(7,_),(12,_)]) rfl ⟨rfl,rfl,rfl,rfl,trivial⟩ ?_;intro w2 hw2 fw2;replace ab:=ab.step hw2;replace k0:=k0.step hw2;refine Zv (aa.jr (v:= .string (strOf [])) rfl rfl (vs:=[.pointer none, .int .i64 ((0:Nat):Int)]) rfl (fun cs=>by simp[builtin,Lib.run_unsafeString_none];exact⟨rfl,rfl⟩)) ?_;refine Za ?_;refine dF 0 2 (Zt (Cd.ret ?_));refine aZ ?_;exact⟨rfl,ab.mono hBw⟩
 ·obtain⟨gb,cap,cur,rfl,hgb,kb,hcap,hsz,hcur⟩:=own.FK h0
  refine Zs 14 Tryz.func173 ?_;refine aj ?_;refine Za ?_;refine dF 0 2 (aI ?_);refine ff 10 ?_;intro w1 hw1 zw1;replace ab:=ab.step hw1;replace k0:=k0.step hw1;replace kb:=kb.step hw1;have zbel:=ab.size;have zlt:=k0.lt;refine cf ?_;refine Zd (fun w hG=>aa.nilCheck rfl rfl) ?_;refine eV 1 Tryz.underlying230 ?_;refine dZ Tryz.underlying64 k0 ?_;refine Zd (fun w hG=>aa.jr (v:= .pointer (some ⟨gb,0,none⟩)) rfl rfl (vs:=[.slice (some ⟨gb,0,none⟩) bs.length cap]) rfl (fun cs=>by have:=Lib.run_unsafeSliceData_row (P:=Tryz.prog) w #[64] 263 ⟨gb,0,none⟩ bs.length cap (by omega);simp[builtin,this])) ?_;refine cf ?_;refine Zd (fun w hG=>aa.nilCheck rfl rfl) ?_;refine eV 1 Tryz.underlying230 ?_;refine dZ Tryz.underlying64 k0 ?_;refine Zd (fun w hG=>aa.len rfl rfl Tryz.underlying64) ?_;refine Dr.nil ?_;refine bb.done (F':=[(0,_),(2,_),(7,_),(12,_)]) rfl ⟨rfl,rfl,rfl,rfl,trivial⟩ ?_;intro w2 hw2 fw2;replace ab:=ab.step hw2;replace k0:=k0.step hw2;replace kb:=kb.step hw2
  have hsh:∀W,aH W gb 5 cur→W.shape? gb=some (5,cap):=fun W hb=>by
   have hb:W.heap[gb]? =some (.cells cur 5 (0,0)):=hb;simp[World.shape?,hb,hsz]
  have hcell:∀W,aH W gb 5 cur→∀j x,(bs.map UInt8.ofNat)[j]? =some x→W.cell? ((⟨gb,0,none⟩:Addr).add j)=some (.int .u8 x.toNat):=fun W hb j x hx=>by
   have hadd:(⟨gb,0,none⟩:Addr).add j=⟨gb,j,none⟩:=by unfold Addr.add;split<;>simp_all
   rw[hadd,hb.cell j];rw[List.getElem?_map] at hx
   cases hbj:bs[j]? with
   |none=>rw[hbj] at hx;cases hx
   |some d=>
    rw[hbj] at hx;injection hx with hx
    subst hx;rw[ofNat_toNat (h.bytes d (List.mem_of_getElem? hbj))];exact hcur j _ (by rw[ou,hbj];rfl)
  have hrun:=Lib.run_unsafeString_row (P:=Tryz.prog) _ 263 3 9 5 Tryz.underlying263 (by kernel_rfl) gb cap (hsh _ kb) (bs.map UInt8.ofNat) (by intro hn;rw[List.map_eq_nil_iff] at hn;rw[hn] at h0;simp at h0) (by simpa using hcap) (by simp;omega) (hcell _ kb);rw[List.length_map] at hrun;refine Zv (aa.jr (v:= .string (strOf bs)) rfl rfl (vs:=[.pointer (some ⟨gb,0,none⟩), .int .i64 ((bs.length:Nat):Int)]) rfl (fun cs=>by simp[builtin,hrun];exact⟨rfl,rfl⟩)) ?_;have bel2:=Lib.below_freeze (ab.mono hBw) (p:=⟨gb,0,none⟩) hgb bs.length;refine Za ?_;refine dF 0 2 (Zt (Cd.ret ?_));refine aZ ?_;exact⟨rfl,bel2⟩
theorem B7 (x y:Int)(hx0:0≤x)(hx:x<18446744073709551616)(hy0:0≤y)(hy:y<18446744073709551616):
  IntKind.u64.wrap (IntKind.u64.wrap (IntKind.u64.wrap (x/4294967296*(y/4294967296))+IntKind.u64.wrap (IntKind.u64.wrap (x/4294967296*bits BinOp.and IntKind.u64 y 4294967295)+
    IntKind.u64.wrap (bits BinOp.and IntKind.u64 x 4294967295*bits BinOp.and IntKind.u64 y 4294967295)/4294967296)/4294967296)+
   IntKind.u64.wrap (bits BinOp.and IntKind.u64 (IntKind.u64.wrap (IntKind.u64.wrap (x/4294967296*bits BinOp.and IntKind.u64 y 4294967295)+
    IntKind.u64.wrap (bits BinOp.and IntKind.u64 x 4294967295*bits BinOp.and IntKind.u64 y 4294967295)/4294967296)) 4294967295+
    IntKind.u64.wrap (bits BinOp.and IntKind.u64 x 4294967295*(y/4294967296)))/4294967296)=x*y/18446744073709551616:=by
 rw[and_low32 y hy0 hy,and_low32 x hx0 hx,and_low32 _ (by rw[wrap_u64];omega) (by rw[wrap_u64];omega)];simp only[wrap_u64];exact mul64_arith x y hx0 hx hy0 hy
def GP (x y:Int):Int:=x*y/18446744073709551616
def GM (x y:Int):Int:=x*y%18446744073709551616
set_option maxHeartbeats 400000 in
theorem zU (x y:Int)(w:World)(hx0:0≤x)(hx:x<18446744073709551616)(hy0:0≤y)(hy:y<18446744073709551616):
  Calls Tryz.prog 258 #[.int .u64 x, .int .u64 y] w fun e w'=>e= .returned (.tuple #[.int .u64 (GP x y), .int .u64 (GM x y)])∧w=w':=by
 go_enter Tryz.func258,Tryz.ntmps258
 go_wp2
 go_ret2
 exact⟨xJ (int_eq (B7 x y hx0 hx hy0 hy)) (int_eq (wrap_u64 _)),rfl⟩
theorem rH:bW Tryz.prog 289=some (some (.agg #[.int .u64 0, .int .u64 0, .bool false])):=by kernel_rfl
theorem qG (a:Int)(w:World)(h:bm a):Calls Tryz.prog 216 #[.int .i64 a] w fun e w'=>e= .returned (.int .u64 (a.natAbs:Int))∧w=w':=by
 obtain⟨h0,h1⟩:=h;refine Zs 10 Tryz.func216 ?_;refine aj ?_;refine Za ?_;refine dF 0 2 (aI (aj ?_));refine Zm ?_;refine eI ?_;refine bn 0 2 4 (Zt ?_);refine Cd.ak rfl (fun hc=> ?_) (fun hc=> ?_)
 ·skip
  refine aj ?_;refine Zm ?_;refine Zv (aa.dJ rfl rfl Tryz.underlying2 Tryz.underlying94 (wrap_u64 a)) ?_;refine Zv (aa.neg rfl rfl (r:=(a.natAbs:Int)) (by rw[wrap_u64];omega)) ?_;refine Za ?_;refine bn 0 2 4 (Zt (Cd.ret (ae.af ?_)));refine aZ ?_;exact⟨rfl,rfl⟩
 ·skip
  refine Cd.skip (aB ?_);refine Zm ?_;refine Zv (aa.dJ rfl rfl Tryz.underlying2 Tryz.underlying94 (r:=(a.natAbs:Int)) (by rw[wrap_u64];omega)) ?_;refine Za ?_;refine bn 0 2 4 (Zt (Cd.ret ?_));refine aZ ?_;exact⟨rfl,rfl⟩
theorem y9 (x y:Nat)(w:World)(hx:x<18446744073709551616)(hy:y<18446744073709551616):
  Calls Tryz.prog 258 #[.int .u64 (x:Int), .int .u64 (y:Int)] w fun e w'=>e= .returned (.tuple #[.int .u64 ((x*y/18446744073709551616:Nat):Int), .int .u64 ((x*y%18446744073709551616:Nat):Int)])∧w=w':=
 (zU x y w (by omega) (by omega) (by omega) (by omega)).mono fun e w' ⟨h1,h2⟩=>⟨by rw[h1];unfold GP GM;rw[←Int.natCast_mul];rfl,h2⟩
def Cl (m:Nat)(neg:Bool):Value:= .agg #[.int .u64 ((m/18446744073709551616:Nat):Int), .int .u64 ((m%18446744073709551616:Nat):Int), .bool neg]
theorem qf (a b:Int)(c:Bool)(w:World):(Instr.build 289 #[(0, .int .u64 a),(1, .int .u64 b),(2, .bool c)]).run Tryz.prog w= .ok (.agg #[.int .u64 a, .int .u64 b, .bool c]) w:=by
 have hu:=Tryz.underlying289
 go_simp
theorem uI (a b:Int)(w:World)(ha:bm a)(hb:bm b):
  Calls Tryz.prog 254 #[.int .i64 a, .int .i64 b] w fun e w'=>e= .returned (Cl (a.natAbs*b.natAbs) (decide (decide (a<0)≠decide (b<0))))∧Grow w w':=by
 have ab:=Below.refl w.heap.size w;have ha2:a.natAbs<18446744073709551616:=by have:=ha.1;have:=ha.2;omega
 have hb2:b.natAbs<18446744073709551616:=by have:=hb.1;have:=hb.2;omega
 refine Zs 23 Tryz.func254 ?_;refine aj ?_;refine Zl rH ?_;intro g4 w1 n4;have e4:=Nat.le_trans ab.size n4.ge;replace ab:=ab.step n4.below;have k4:=n4.an;refine bn 0 1 4 (aB ?_);refine Zm ?_;refine Zc (Ze Tryz.func216) (qG _ _ ha) ?_;rintro e w3 ⟨rfl,rfl⟩;refine⟨_,rfl,?_⟩;refine Zm ?_;refine Zc (Ze Tryz.func216) (qG _ _ hb) ?_;rintro e w3 ⟨rfl,rfl⟩;refine⟨_,rfl,?_⟩;refine Zc (Ze Tryz.func258) (y9 _ _ _ ha2 hb2) ?_;rintro e w3 ⟨rfl,rfl⟩;refine⟨_,rfl,?_⟩;refine Zm ?_;refine Zx ?_;refine Zx ?_;refine Za ?_;refine Za ?_;refine aO 0 1 4 5 6 (aB ?_);refine Zm ?_;refine Zm ?_;refine Zm ?_;refine eI ?_;refine Zm ?_;refine eI ?_;refine Zv (aa.j7 rfl rfl rfl Tryz.underlying4) ?_;refine Zv (aa.build rfl rfl (qf _ _ _ _)) ?_;refine Zo 3 k4 ?_;intro w2 pw2;replace ab:=ab.put k4 pw2 e4;replace k4:=pw2.an;refine aO 0 1 4 5 6 (Zt (Cd.ret ?_));refine gp 3 k4 Tryz.underlying289 ?_;exact⟨rfl,ab⟩
def Bu (neg:Bool)(m:Nat):Int:=if neg then -(m:Int) else m
theorem xO (m:Nat)(neg:Bool)(w:World)(hm:m<340282366920938463463374607431768211456):
  Calls Tryz.prog 255 #[Cl m neg] w fun e w'=>∃v,e= .returned (.tuple #[.int .i64 v, .bool (fits (Bu neg m))])∧(fits (Bu neg m)=true→v=Bu neg m)∧Grow w w':=by
 have ab:=Below.refl w.heap.size w;unfold Cl;refine Zs 24 Tryz.func255 ?_;refine aj ?_;refine Seq.box rfl rfl rfl rfl rfl ?_;intro g1 w1 n1;have e1:=Nat.le_trans ab.size n1.ge;replace ab:=ab.step n1.below;have k1:=n1.an;refine Za ?_;refine Za ?_;refine aQ 0 1 2 3 (aI (Cd.block (aj ?_)));refine Zf 0 Tryz.underlying289 ?_;refine ZL Tryz.underlying94 k1 ?_;refine sJ ?_;refine Za ?_;refine aO 0 1 2 3 4 (Zt ?_);refine Cd.ak rfl (fun hc=> ?_) (fun hc=> ?_)
 ·have hf:fits (Bu neg m)=false:=by
   apply lq;unfold Bu
   cases neg<;>simp at hc⊢ <;>omega
  rw[hf];refine aj ?_;refine Za ?_;refine Za ?_;refine aO 0 1 2 3 4 (Zt (Cd.ret (ae.ag (ae.af ?_))));refine dH ?_;exact⟨0,rfl,(fun h=>by cases h),ab⟩
 ·have hlt:m<18446744073709551616:=by simp at hc;omega
  cases neg
  ·skip
   refine aj ?_;refine Zf 2 Tryz.underlying289 ?_;refine ZL Tryz.underlying4 k1 ?_;refine Za ?_;refine aY 0 1 2 3 4 8 (Zt ?_);refine Cd.aM rfl rfl ?_;refine Cd.skip (ae.ah (aI ?_));refine Cd.eB (F':=[(0,_),(1,_),(4,_),(8,_)]) ⟨rfl,rfl,rfl,rfl,trivial⟩ ?_;refine ff 8 ?_;intro w2 hw2 zw2;replace ab:=ab.step hw2;replace k1:=k1.step hw2;have zbel:=ab.size;have zlt:=k1.lt;refine eV 1 Tryz.underlying289 ?_;refine dZ Tryz.underlying94 k1 ?_;refine Zd (fun w hG=>aa.dJ rfl rfl Tryz.underlying94 Tryz.underlying2 rfl) ?_;refine eV 1 Tryz.underlying289 ?_;refine dZ Tryz.underlying94 k1 ?_;refine Zd (fun w hG=>aa.lss rfl rfl rfl) ?_;refine Zd (fun w hG=>aa.assign rfl rfl) ?_;refine Zd (fun w hG=>aa.assign rfl rfl) ?_;refine Dr.nil ?_;refine bb.done (F':=[(0,_),(1,_),(2,_),(3,_),(4,_),(8,_)]) rfl ⟨rfl,rfl,rfl,rfl,rfl,rfl,trivial⟩ ?_;intro w3 hw3 fw3;replace ab:=ab.step hw3;replace k1:=k1.step hw3;refine aY 0 1 2 3 4 8 (Zt (Cd.ret ?_));refine dH ?_;refine⟨_,xJ rfl (aJ ?_),fun h=> ?_,ab⟩
   ·unfold fits Bu;rw[Bool.eq_iff_iff];simp;omega
   ·unfold fits Bu at *;simp at h⊢;rw[IntKind.wrap_i64];omega
  ·skip
   refine aj ?_;refine Zf 2 Tryz.underlying289 ?_;refine ZL Tryz.underlying4 k1 ?_;refine Za ?_;refine aY 0 1 2 3 4 8 (Zt ?_);refine Cd.aU rfl rfl ?_;refine Cd.seq ?_;refine Cd.eB (F':=[(0,_),(1,_),(4,_),(8,_)]) ⟨rfl,rfl,rfl,rfl,trivial⟩ ?_;refine ff 9 ?_;intro w2 hw2 zw2;replace ab:=ab.step hw2;replace k1:=k1.step hw2;have zbel:=ab.size;have zlt:=k1.lt;refine eV 1 Tryz.underlying289 ?_;refine dZ Tryz.underlying94 k1 ?_;refine Zd (fun w hG=>aa.dJ rfl rfl Tryz.underlying94 Tryz.underlying2 rfl) ?_;refine Zd (fun w hG=>aa.neg rfl rfl rfl) ?_;refine eV 1 Tryz.underlying289 ?_;refine dZ Tryz.underlying94 k1 ?_;refine Zd (fun w hG=>aa.leq rfl rfl rfl) ?_;refine Zd (fun w hG=>aa.assign rfl rfl) ?_;refine Zd (fun w hG=>aa.assign rfl rfl) ?_;refine Dr.nil ?_;refine bb.done (F':=[(0,_),(1,_),(2,_),(3,_),(4,_),(8,_)]) rfl ⟨rfl,rfl,rfl,rfl,rfl,rfl,trivial⟩ ?_;intro w3 hw3 fw3;replace ab:=ab.step hw3;replace k1:=k1.step hw3;refine aY 0 1 2 3 4 8 (Zt (Cd.ret (ae.ag (ae.af ?_))));refine dH ?_;refine⟨_,xJ rfl (aJ ?_),fun h=> ?_,ab⟩
   ·unfold fits Bu;rw[Bool.eq_iff_iff];simp;omega
   ·unfold fits Bu at *;simp at h⊢;rw[IntKind.wrap_i64,IntKind.wrap_i64];omega
theorem ti {a:Int}(h:fits a=false):Ending.returned (.tuple #[.int .i64 0, .bool false])= .returned (.tuple #[.int .i64 (br a), .bool (fits a)]):=by unfold br;rw[h];rfl
theorem tD {a s:Int}(h:fits a=true)(hs:s=a):Ending.returned (.tuple #[.int .i64 s, .bool true])= .returned (.tuple #[.int .i64 (br a), .bool (fits a)]):=by unfold br;rw[h,hs];rfl
theorem Em (a b:Int)(w:World)(ha:bm a)(hb:bm b):
  Calls Tryz.prog 249 #[.int .i64 a, .int .i64 b] w fun e w'=>e= .returned (.tuple #[.int .i64 (br (a+ -b)), .bool (fits (a+ -b))])∧Grow w w':=by
 obtain⟨ha0,ha1⟩:=ha;obtain⟨hb0,hb1⟩:=hb;refine Zs 23 Tryz.func249 ?_;refine aj ?_;refine Za ?_;refine Za ?_;refine aQ 0 1 4 5 (aB ?_);refine Zm ?_;refine Zm ?_;refine Zv (aa.BW rfl rfl rfl rfl) ?_
 generalize hs:IntKind.i64.wrap (a-b)=s
 rw[IntKind.wrap_i64] at hs;refine Za ?_;refine aO 0 1 4 5 6 (aI (aj ?_));refine Zm ?_;refine eI ?_;refine Zm ?_;refine eI ?_;refine Zv (aa.j7 rfl rfl rfl Tryz.underlying4) ?_;refine Zm ?_;refine aw.start ?_;refine bw (fun hcx=>aa.move rfl rfl) ?_;refine Zn (fun hcx=>aa.lss rfl rfl rfl) ?_;refine gq ?_;refine Zn (fun hcx=>aa.lss rfl rfl rfl) ?_;refine Zn (fun hcx=>aa.j7 rfl rfl rfl Tryz.underlying4) ?_;refine fQ ?_;refine aY 0 1 4 5 6 21 (Zt ?_);refine Cd.cond rfl (fun h=> ?_) (fun h=> ?_)
 ·skip
  refine aj ?_;refine Za ?_;refine Za ?_;refine aY 0 1 4 5 6 21 (Zt (Cd.ret (ae.af ?_)));refine dH ?_;simp at h;exact⟨ti (lq (by omega)),Grow.refl _⟩
 ·skip
  refine Cd.skip (aB ?_);refine Zm ?_;refine Za ?_;refine Za ?_;refine aY 0 1 4 5 6 21 (Zt (Cd.ret ?_));refine dH ?_;simp at h;exact⟨tD (pV (by omega) (by omega)) (by omega),Grow.refl _⟩
theorem neg_num (a:Int)(w:World)(ha:bm a):
  Calls Tryz.prog 250 #[.int .i64 a] w fun e w'=>e= .returned (.tuple #[.int .i64 (br (-a)), .bool (fits (-a))])∧Grow w w':=by
 obtain⟨ha0,ha1⟩:=ha;refine Zs 8 Tryz.func250 ?_;refine aj ?_;refine Za ?_;refine Za ?_;refine bn 0 2 3 (aI (aj ?_));refine Zm ?_;refine bC ?_;refine aQ 0 2 3 5 (Zt ?_);refine Cd.ak rfl (fun h=> ?_) (fun h=> ?_)
 ·skip
  refine aj ?_;refine Za ?_;refine Za ?_;refine aQ 0 2 3 5 (Zt (Cd.ret (ae.af ?_)));refine dH ?_;exact⟨ti (lq (by omega)),Grow.refl _⟩
 ·skip
  refine Cd.skip (aB ?_);refine Zm ?_;refine Zv (aa.neg rfl rfl (iO (by omega) (by omega))) ?_;refine Za ?_;refine Za ?_;refine aQ 0 2 3 5 (Zt (Cd.ret ?_));refine dH ?_;exact⟨tD (pV (by omega) (by omega)) (by omega),Grow.refl _⟩
theorem Ca (a b:Int):Bu (decide (decide (a<0)≠decide (b<0))) (a.natAbs*b.natAbs)=a*b:=by
 unfold Bu;rw[Int.natCast_mul]
 by_cases ha:a<0
 ·have ea:(a.natAbs:Int)= -a:=by omega
  by_cases hb:b<0
  ·have eb:(b.natAbs:Int)= -b:=by omega
   rw[ea,eb,Int.neg_mul_neg];simp[ha,hb]
  ·have eb:(b.natAbs:Int)=b:=by omega
   rw[ea,eb,Int.neg_mul,Int.neg_neg];simp[ha,hb]
 ·have ea:(a.natAbs:Int)=a:=by omega
  by_cases hb:b<0
  ·have eb:(b.natAbs:Int)= -b:=by omega
   rw[ea,eb,Int.mul_neg,Int.neg_neg];simp[ha,hb]
  ·have eb:(b.natAbs:Int)=b:=by omega
   rw[ea,eb];simp[ha,hb]
theorem Ew (a b:Int)(w:World)(ha:bm a)(hb:bm b):
  Calls Tryz.prog 248 #[.int .i64 a, .int .i64 b] w fun e w'=>e= .returned (.tuple #[.int .i64 (br (a*b)), .bool (fits (a*b))])∧Grow w w':=by
 have ab:=Below.refl w.heap.size w
 have hm:a.natAbs*b.natAbs<340282366920938463463374607431768211456:=by
  have h1:=ha.1;have h2:=ha.2;have h3:=hb.1;have h4:=hb.2;have:=Nat.mul_le_mul (show a.natAbs≤9223372036854775808 by omega) (show b.natAbs≤9223372036854775808 by omega);omega
 refine Zs 18 Tryz.func248 ?_;refine aj ?_;refine Za ?_;refine Za ?_;refine aQ 0 1 4 5 (aB ?_);refine Zm ?_;refine Zm ?_;refine Zc (Ze Tryz.func254) (uI a b _ ha hb) ?_;rintro e w4 ⟨rfl,hb4⟩;refine⟨_,rfl,?_⟩;replace ab:=ab.step hb4;refine Zc (Ze Tryz.func255) (xO _ _ _ hm) ?_;rw[Ca];rintro e w5 ⟨v,rfl,hv,hb5⟩;refine⟨_,rfl,?_⟩;replace ab:=ab.step hb5;refine Zm ?_;refine Zx ?_;refine Zx ?_;refine Za ?_;refine Za ?_;refine aY 0 1 4 5 6 7 (aI (aj ?_));refine Zm ?_;refine mD ?_;refine ba 0 1 4 5 6 7 16 (Zt ?_);refine Cd.cond rfl (fun h=> ?_) (fun h=> ?_)
 ·skip
  refine aj ?_;refine Za ?_;refine Za ?_;refine ba 0 1 4 5 6 7 16 (Zt (Cd.ret (ae.af ?_)));refine dH ?_;simp at h;exact⟨ti h,ab⟩
 ·skip
  refine Cd.skip (aB ?_);refine Zm ?_;refine Za ?_;refine Za ?_;refine ba 0 1 4 5 6 7 16 (Zt (Cd.ret ?_));refine dH ?_;simp at h;exact⟨tD h (hv h),ab⟩
def bM (l:List Nat):List Nat:=if l.head? =some 45 then l.drop 1 else l
theorem rB (F R:List Nat)(c:Nat)(h:c∉F):idx (F++c::R) c=F.length:=by
 induction F with
 |nil=>simp[idx,List.findIdx_cons]
 |cons x F ih=>
  have hx:(x==c)=false:=beq_eq_false_iff_ne.2 (fun e=>h (by simp[e]));have:=ih (fun hm=>h (List.mem_cons_of_mem _ hm));unfold idx at this⊢;rw[List.cons_append,List.findIdx_cons,hx,List.length_cons,←this];rfl
theorem CU {l:List Nat}{d:Nat}{y:Int}{F B:List Nat}(h:Form l d y F B):(l.head? =some 45↔y<0)∧(46∈bM l↔0<d)∧jH (bM l) 46=F∧kV (bM l) 46=B:=by
 obtain⟨hf,hb,hlen,hpos,hlead,hval,heq⟩:=h;have hF46:46∉F:=fun hm=>by have:=hf 46 hm;unfold gz at this;omega
 have hh:(l.head? =some 45)↔y<0:=by
  rw[heq];unfold kP
  by_cases hx:y<0
  ·simp[hx]
  ·cases F with
   |nil=>simp at hpos
   |cons c F=>
    have:=hf c (List.mem_cons_self ..);unfold gz at this;simp[hx];omega
 have hr:bM l=F++(if 0<d then 46::B else []):=by
  unfold bM
  by_cases hx:y<0
  ·rw[if_pos (hh.2 hx),heq]
   unfold kP;rw[if_pos hx];rfl
  ·rw[if_neg (fun h=>hx (hh.1 h)),heq]
   unfold kP;rw[if_neg hx];rfl
 refine⟨hh,?_,?_,?_⟩
 ·rw[hr]
  by_cases hd:0<d
  ·simp[hd]
  ·simp[hd,hF46]
 ·rw[hr]
  unfold jH
  by_cases hd:0<d
  ·rw[if_pos hd,if_pos (by simp),rB _ _ _ hF46,List.take_left]
  ·rw[if_neg hd,List.append_nil,if_neg hF46]
 ·rw[hr]
  unfold kV
  by_cases hd:0<d
  ·rw[if_pos hd,if_pos (by simp),rB _ _ _ hF46,←List.drop_drop,List.drop_left]
   rfl
  ·rw[if_neg hd,List.append_nil,if_neg hF46]
   exact(List.eq_nil_of_length_eq_zero (by omega)).symm
theorem B6 {l:List Nat}{d:Nat}{x:Int}(hp:46∈bM l↔0<d)(hb:(kV (bM l) 46).length=d)(hf:0<(jH (bM l) 46).length)(hlead:1<(jH (bM l) 46).length→(jH (bM l) 46)[0]? ≠some 48)
  (hdg:∀c∈jH (bM l) 46++kV (bM l) 46,gz c) (hx:dx (jH (bM l) 46++kV (bM l) 46)=x.natAbs) (hs:x<0↔l.head? =some 45):Form l d x (jH (bM l) 46) (kV (bM l) 46):=by
 refine⟨fun c hc=>hdg c (List.mem_append_left _ hc),fun c hc=>hdg c (List.mem_append_right _ hc),hb,hf,hlead,hx,?_⟩
 have hr:bM l=jH (bM l) 46++(if 0<d then 46::kV (bM l) 46 else []):=by
  by_cases hd:0<d
  ·have hm:=hp.2 hd
   unfold jH kV;rw[if_pos hm,if_pos hm,if_pos hd];exact(oc _ _ hm).2.2
  ·have hm:¬46∈bM l:=fun h=>hd (hp.1 h)
   unfold jH;rw[if_neg hm,if_neg hd,List.append_nil]
 unfold kP;rw[←hr];unfold bM
 by_cases h:l.head? =some 45
 ·rw[if_pos (hs.2 h),if_pos h]
  cases l with
  |nil=>simp at h
  |cons c l=>simp at h;subst h;rfl
 ·rw[if_neg (fun h0=>h (hs.1 h0)),if_neg h]
  rfl
def zf (l:List Nat)(d x:Int)(b:Bool):Prop:=
 (b=true→0≤d∧d≤9∧bm x∧∃F B,Form l d.toNat x F B)∧(b=false→x=0∧(0≤d→d≤9→∀y,bm y→∀F B,¬Form l d.toNat y F B))
theorem zB {l:List Nat}(hl:∀x∈l,x<256):∀x∈bM l,x<256:=by
 unfold bM;split
 ·exact fun x hx=>hl x (List.mem_of_mem_drop hx)
 ·exact hl
theorem xG (l:List Nat):(bM l).length≤l.length:=by
 unfold bM;split
 ·rw[List.length_drop];omega
 ·omega
theorem Cz {l:List Nat}{c:Nat}:(∀x∈jH l c,x∈l)∧(jH l c).length+(kV l c).length≤l.length:=by
 unfold jH kV
 constructor
 ·split
  ·exact fun x hx=>List.mem_of_mem_take hx
  ·exact fun x hx=>hx
 ·split
  ·rename_i h
   have:=(oc l c h).1;rw[List.length_take,List.length_drop];omega
  ·simp
theorem Bg {l:List Nat}{c:Nat}:∀x∈kV l c,x∈l:=by
 unfold kV;split
 ·exact fun x hx=>List.mem_of_mem_drop hx
 ·exact fun x hx=>by simp at hx
set_option maxHeartbeats 1000000 in
theorem wP (l:List Nat)(d:Int)(w:World)(hl:∀x∈l,x<256)(hn:l.length≤9223372036854775807)(hd:bm d):
  Calls Tryz.prog 240 #[.string (strOf l), .int .i64 d] w fun e w'=>∃x b,e= .returned (.tuple #[.int .i64 x, .bool b])∧zf l d x b∧Grow w w':=by
 have ab:=Below.refl w.heap.size w;refine Zs 95 Tryz.func240 ?_;refine aj ?_;refine Za ?_;refine Za ?_;refine aQ 0 1 4 5 (aI (aj ?_));refine Zm ?_;refine eI ?_;refine Zm ?_;refine aw.start ?_;refine bw (fun hcx=>aa.move rfl rfl) ?_;refine Zn (fun hcx=>aa.gtr rfl rfl rfl) ?_;refine fg ?_;refine aO 0 1 4 5 21 (Zt ?_);refine Cd.cond rfl (fun h=> ?_) (fun h=> ?_)
 ·skip
  refine aj ?_;refine Za ?_;refine Za ?_;refine aO 0 1 4 5 21 (Zt (Cd.ret (ae.af ?_)));refine dH ?_;exact⟨0,false,rfl,⟨fun h=>(by cases h),fun _=>⟨rfl,fun h1 h2=>(by simp at h;omega)⟩⟩,ab⟩
 obtain⟨D,rfl⟩:∃D:Nat,d=(D:Int):=⟨d.toNat,by simp at h;omega⟩;have hD:D≤9:=by simp at h;omega
 clear h;have hno:(∀y,bm y→∀F B,¬Form l D y F B)→zf l (D:Int) 0 false:=fun h=>⟨fun h=>(by cases h),fun _=>⟨rfl,fun _ _=>by rw[Int.toNat_natCast];exact h⟩⟩;have hrl:=zB hl;have hrn:=xG l;have hrd:(if l.head? =some 45 then l.drop 1 else l)=bM l:=rfl;refine Cd.skip (aB ?_);refine Zm ?_;refine Zc (Ze Tryz.func245) (rV l 45 _ hl (by omega)) ?_;rintro e w2 ⟨rfl,rfl⟩;refine⟨_,rfl,?_⟩;rw[hrd];refine Zm ?_;refine Zx ?_;refine Zx ?_;refine Za ?_;refine Za ?_;refine ba 0 1 4 5 6 7 21 (aB ?_);refine Zm ?_;refine Zc (Ze Tryz.func246) (DS (bM l) 46 _ hrl (by omega) (by omega)) ?_;rintro e w3 ⟨rfl,hb3⟩;refine⟨_,rfl,?_⟩;replace ab:=ab.step hb3;have hA:=Cz (l:=bM l) (c:=46);have hB:=Bg (l:=bM l) (c:=46);have hFl:∀x∈jH (bM l) 46,x<256:=fun x hx=>hrl x (hA.1 x hx);have hBl:∀x∈kV (bM l) 46,x<256:=fun x hx=>hrl x (hB x hx);have hlen:=hA.2;have hform:=fun y F B (h:Form l D y F B)=>CU h;have hmk:=fun x=>B6 (l:=l) (d:=D) (x:=x)
 generalize hF:jH (bM l) 46=F at *
 generalize hBd:kV (bM l) 46=B at *
 refine Zm ?_;refine Zx ?_;refine Zx ?_;refine Zx ?_;refine Za ?_;refine Za ?_;refine Za ?_;refine dq 0 1 4 5 6 7 8 9 10 21 (aI (aj ?_));refine Zm ?_;refine Zm ?_;refine uV ?_;refine Zv (aa.j7 rfl rfl rfl Tryz.underlying4) ?_;refine Zm ?_;refine aw.start ?_;refine bw (fun hcx=>aa.move rfl rfl) ?_;refine Zn (fun hcx=>aa.dh rfl rfl Tryz.underlying9) ?_;refine gq ?_;refine Zn (fun hcx=>aa.cW rfl rfl rfl) ?_;refine fg ?_;refine Zm ?_;refine aw.start ?_;refine bw (fun hcx=>aa.move rfl rfl) ?_;refine Zn (fun hcx=>aa.cI (a:=F) (b:=[]) rfl rfl rfl hFl (fun x hx=>by simp at hx)) ?_;refine fg ?_;refine Zm ?_;refine aw.start ?_;refine bw (fun hcx=>aa.move rfl rfl) ?_;refine Zn (fun hcx=>aa.dh rfl rfl Tryz.underlying9) ?_;refine Zn (fun hcx=>aa.gtr rfl rfl rfl) ?_;refine gq ?_;refine bw (fun hcx=>aa.move rfl rfl) ?_
 have hF0:1<F.length→F[0]? =some (F.getD 0 0):=by
  intro h
  cases F with
  |nil=>simp at h
  |cons c F=>rfl
 have hF1:F.getD 0 0<256:=by
  cases F with
  |nil=>simp
  |cons c F=>exact hFl c (by simp)
 refine Zn (fun hcx=>aa.cz (l:=F) (j:=0) (c:=F.getD 0 0) rfl rfl rfl Tryz.underlying9 rfl (hF0 (by simp at hcx;omega)) hF1) ?_;refine Zn (fun hcx=>aa.fh rfl rfl rfl) ?_;refine aw.mF rfl rfl rfl rfl rfl rfl rfl rfl rfl rfl rfl ?_;refine fg ?_;refine dv 0 1 4 5 6 7 8 9 10 21 56 (Zt ?_)
 generalize hf0:F.getD 0 0=f0 at *
 have hiff:(decide (46∈bM l)=decide ((0:Int)<(D:Int)))↔(46∈bM l↔0<D):=by
  rw[decide_eq_decide]
  constructor<;>intro h<;>rw[h]<;>omega
 have hnil:F=[]↔F.length=0:=by cases F<;>simp
 refine Cd.cond rfl (fun h=> ?_) (fun h=> ?_)
 ·have hbad:∀y,bm y→∀F B,¬Form l D y F B:=by
   intro y _ F' B' hfm;obtain⟨-,e2,rfl,rfl⟩:=hform y F' B' hfm;have e3:=hfm.len;have e4:=hfm.pos;have e5:1<F.length→f0≠48:=fun h1 h2=>hfm.lead h1 (by rw[hF0 h1,h2]);have e6:=hiff.2 e2;have e7:F≠ []:=fun h=>by rw[h] at e4;simp at e4
   simp only[e6,e3] at h;simp[e7] at h;omega
  refine aj ?_;refine Za ?_;refine Za ?_;refine dv 0 1 4 5 6 7 8 9 10 21 56 (Zt (Cd.ret (ae.af ?_)));refine dH ?_;exact⟨0,false,rfl,hno hbad,ab⟩
 have hok:(46∈bM l↔0<D)∧B.length=D∧0<F.length∧(1<F.length→F[0]? ≠some 48):=by
  simp only[Bool.or_eq_false_iff,Bool.and_eq_false_iff,decide_eq_false_iff_not,ne_eq,Decidable.not_not] at h;obtain⟨⟨⟨k1,k2⟩,k3⟩,k4⟩:=h;refine⟨hiff.1 k1,by omega,by have:=mt hnil.2 k3;omega,fun h1 h2=> ?_⟩;rw[hF0 h1] at h2;injection h2 with h2
  omega
 obtain⟨k1,k2,k3,k4⟩:=hok;replace hmk:=fun x=>hmk x k1 k2 k3 k4
 have hM:∀x∈F++B,x<256:=fun x hx=>by
  rcases List.mem_append.1 hx with h|h
  ·exact hFl x h
  ·exact hBl x h
 have hMl:(F++B).length≤9223372036854775807:=by rw[List.length_append];omega
 have hfm:∀y,∀F' B',Form l D y F' B'→(∀c∈F++B,gz c)∧dx (F++B)=y.natAbs∧(l.head? =some 45↔y<0):=by
  intro y F' B' hf;obtain⟨e1,-,rfl,rfl⟩:=hform y F' B' hf
  exact⟨fun c hc=>by
   rcases List.mem_append.1 hc with h|h
   ·exact hf.f c h
   ·exact hf.b c h,hf.val,e1⟩
 have hFB:F.length+B.length≤9223372036854775807:=by omega
 clear h hform hF0 hF1 hf0 hiff hnil;refine Cd.skip (aB ?_);refine Za ?_;refine fY 0 1 4 5 6 7 8 9 10 11 21 56 (aI (aj ?_));refine Zm ?_;refine Zm ?_;refine Zv (aa.eD rfl rfl rfl hFB) ?_
 generalize F++B=M at *
 refine Seq.wN rfl rfl Tryz.underlying9 Tryz.underlying64 Tryz.underlying5 hM rfl rfl rfl ?_;intro g60 c60 w60 hc60 n60;replace ab:=ab.step n60.below;have hrd60:=n60.reads;have hB60:=n60.lt;refine Zv (aa.len rfl rfl Tryz.underlying64) ?_;refine Zm ?_;refine tS 0 1 4 5 6 7 8 9 10 11 21 56 60 61 62 (Zt (Cd.block ?_))
 refine Cd.loop (σ:=Nat) (fun k=>[(7, .bool (decide (l.head? =some 45))),(11, .int .i64 (-((dx (M.take k):Nat):Int))),(60, .slice (some ⟨g60,0,none⟩) M.length c60),(61, .int .i64 (M.length:Int)),(62, .int .i64 (k:Int))])
  (fun k wr=>k≤M.length∧(∀c∈M.take k,gz c)∧dx (M.take k)≤9223372036854775808∧Below w.heap.size w wr∧Below w60.heap.size w60 wr) (fun k=>M.length-k) 0 ⟨by omega,by simp,by simp[dx],ab,Below.refl _ _⟩ ⟨rfl,rfl,rfl,rfl,rfl,trivial⟩ ?_
 clear ab;rintro k wr ⟨hk,hdg,hv,ab,bl60⟩;refine aj ?_;refine eI ?_;refine aY 7 11 60 61 62 63 (aI ?_);refine Cd.ak rfl (fun hc=> ?_) (fun hc=> ?_)
 ·obtain⟨c,hc⟩:∃c,M[k]? =some c:=⟨_,List.getElem?_eq_getElem (show k<M.length by omega)⟩
  have hc256:=hM c (List.mem_of_getElem? hc)
  have hcell:wr.cell? (Addr.add ⟨g60,0,none⟩ k)=some (.int .u8 (c:Int)):=by
   obtain⟨ad,e,hb,hcs⟩:=hrd60.2 (by omega);injection e with e
   subst e;rw[bl60.cell (by rw[av];exact hB60)];exact hcs k _ (by rw[ou,hc];rfl)
  have htk:M.take (k+1)=M.take k++[c]:=by rw[List.take_add_one,hc];rfl
  have hvs:dx (M.take (k+1))=10*dx (M.take k)+(c-48):=by rw[htk,oC]
  have hvl:=AB M (k+1)
  have hbig:9223372036854775808<dx M→∀y,bm y→∀F B,¬Form l D y F B:=fun h y hy F' B' hf=>by
   obtain⟨-,e2,-⟩:=hfm y F' B' hf;unfold bm at hy;omega
  generalize hV:dx (M.take k)=V at *
  refine Cd.skip (aI (Cd.block (aj ?_)));refine Zv (aa.jy rfl rfl rfl Tryz.underlying64 (by kernel_rfl) (j:=k) rfl (by omega)) ?_;refine Zv (aa.jh rfl rfl Tryz.underlying5 rfl hcell) ?_;refine Za ?_;refine ba 7 11 13 60 61 62 63 (aI (aj ?_));refine Zm ?_;refine Zc (Ze Tryz.func247) (AG c _) ?_;rintro e w5 ⟨rfl,rfl⟩;refine⟨_,rfl,?_⟩;refine mD ?_;refine cB 7 11 13 60 61 62 63 68 (Zt ?_);refine Cd.cond rfl (fun h=> ?_) (fun h=> ?_)
  ·have hnd:∀y,bm y→∀F B,¬Form l D y F B:=fun y _ F' B' hf=>by
    have:=(hfm y F' B' hf).1 c (List.mem_of_getElem? hc);unfold gz at this;simp at h;omega
   refine aj ?_;refine Za ?_;refine Za ?_;refine dq 4 5 7 11 13 60 61 62 63 68 (Zt (Cd.ret (ae.af (ae.ag (ae.af (ae.aX (ae.ag (ae.af ?_))))))));refine dH ?_;exact⟨0,false,rfl,hno hnd,ab⟩
  have hcd:gz c:=by unfold gz;simp at h;omega
  have hcd2:=hcd;unfold gz at hcd2;clear h;refine Cd.skip (aB ?_);refine Zm ?_;refine Zc (Ze Tryz.func248) (Ew (-(V:Int)) 10 _ (by unfold bm;omega) (by unfold bm;omega)) ?_;rintro e w6 ⟨rfl,hb6⟩;refine⟨_,rfl,?_⟩;replace ab:=ab.step hb6;refine Zm ?_;refine Zx ?_;refine Zx ?_;refine Za ?_;refine Za ?_;refine dq 7 11 13 14 15 60 61 62 63 68 (aI (aj ?_));refine Zm ?_;refine mD ?_;refine dv 7 11 13 14 15 60 61 62 63 68 75 (Zt ?_);refine Cd.cond rfl (fun h=> ?_) (fun h=> ?_)
  ·have hbg:9223372036854775808<10*V:=by
    unfold fits at h;simp at h;omega
   refine aj ?_;refine Za ?_;refine Za ?_;refine iq 4 5 7 11 13 14 15 60 61 62 63 68 75 (Zt (Cd.ret (ae.af (ae.ag (ae.af (ae.aX (ae.ag (ae.af ?_))))))));refine dH ?_;exact⟨0,false,rfl,hno (hbig (by omega)),ab⟩
  have hft:fits (-(V:Int)*10)=true:=by simpa using h
  have hsm:br (-(V:Int)*10)= -(V:Int)*10:=by unfold br;rw[hft];rfl
  have hft2:10*V≤9223372036854775808:=by unfold fits at hft;simp at hft;omega
  rw[hsm];clear h;refine Cd.skip (aB ?_);refine Zm ?_;refine Zm ?_;refine Zv (aa.BW rfl rfl rfl (jW (by omega) (by omega))) ?_;refine Zv (aa.dJ rfl rfl Tryz.underlying5 Tryz.underlying2 (iO (by omega) (by omega))) ?_;refine Zc (Ze Tryz.func249) (Em (-(V:Int)*10) ((c:Int)-48) _ (by unfold bm;omega) (by unfold bm;omega)) ?_;rintro e w7 ⟨rfl,hb7⟩;refine⟨_,rfl,?_⟩;replace ab:=ab.step hb7;refine Zm ?_;refine Zx ?_;refine Zx ?_;refine Za ?_;refine Za ?_;refine dv 7 11 13 14 15 60 61 62 63 68 75 (aB ?_);refine Zm ?_;refine mD ?_;refine fY 7 11 13 14 15 60 61 62 63 68 75 85 (Zt ?_);refine Cd.cond rfl (fun h=> ?_) (fun h=> ?_)
  ·have hbg:9223372036854775808<10*V+(c-48):=by
    unfold fits at h;simp at h;omega
   refine aj ?_;refine Za ?_;refine Za ?_;refine jO 4 5 7 11 13 14 15 60 61 62 63 68 75 85 (Zt (Cd.ret (ae.ag (ae.af (ae.aX (ae.ag (ae.af ?_)))))));refine dH ?_;exact⟨0,false,rfl,hno (hbig (by omega)),ab⟩
  have hft3:fits (-(V:Int)*10+ -((c:Int)-48))=true:=by simpa using h
  have hsm2:br (-(V:Int)*10+ -((c:Int)-48))= -(V:Int)*10+ -((c:Int)-48):=by unfold br;rw[hft3];rfl
  have hft4:10*V+(c-48)≤9223372036854775808:=by unfold fits at hft3;simp at hft3;omega
  rw[hsm2];clear h;refine Cd.skip (ae.ah (eh ?_));refine cG ?_;refine Zm ?_;refine fY 7 11 13 14 15 60 61 62 63 68 75 85 ?_;refine ae.round (k+1) ⟨rfl,congrArg (fun x=>some (Value.int .i64 x)) (show(-(V:Int)*10+ -((c:Int)-48))= -((dx (M.take (k+1)):Nat):Int) by omega),rfl,rfl,rfl,trivial⟩ ⟨by omega,?_,by omega,ab,(bl60.step hb6).step hb7⟩ (by omega);intro x hx;rw[htk] at hx;rcases List.mem_append.1 hx with h|h
  ·exact hdg x h
  ·simp at h;subst h;exact hcd
 ·obtain rfl:k=M.length:=by omega
  rw[List.take_of_length_le (Nat.le_refl _)] at hdg hv⊢;replace hmk:=fun x=>hmk x hdg
  generalize dx M=V at *
  refine Cd.exit (ae.aC (ae.aA (ae.ay (aI (aj ?_)))));refine Zm ?_;refine ba 7 11 60 61 62 63 87 (Zt ?_);refine Cd.ak rfl (fun h=> ?_) (fun h=> ?_)
  ·skip
   refine aj ?_;refine Zm ?_;refine Zm ?_;refine eI ?_;refine Za ?_;refine Za ?_;refine dY 4 5 7 11 60 61 62 63 87 (Zt (Cd.ret (ae.af ?_)));refine dH ?_;refine⟨_,_,rfl,⟨fun hb=> ?_,fun hb=> ?_⟩,ab⟩
   ·have hb':0<V:=by simpa using hb
    refine⟨by omega,by omega,by unfold bm;omega,_,_,hmk (-(V:Int)) (by omega) ⟨fun _=>h,fun _=>by omega⟩⟩
   ·have hb':V=0:=by simp at hb;omega
    subst hb';refine⟨rfl,fun _ _ y hy F' B' hf=> ?_⟩;obtain⟨-,e2,e3⟩:=hfm y F' B' (by rwa [Int.toNat_natCast] at hf);have:=e3.1 h;omega
  ·skip
   refine Cd.skip (aB ?_);refine Zm ?_;refine Zc (Ze Tryz.func250) (neg_num (-(V:Int)) _ (by unfold bm;omega)) ?_;rintro e w9 ⟨rfl,hb9⟩;refine⟨_,rfl,?_⟩;replace ab:=ab.step hb9;refine Zx ?_;refine Zx ?_;refine Za ?_;refine Za ?_;refine dY 4 5 7 11 60 61 62 63 87 (Zt (Cd.ret ?_));refine dH ?_;refine⟨_,_,rfl,⟨fun hb=> ?_,fun hb=> ?_⟩,ab⟩
   ·have hsm:br (-(-(V:Int)))=(V:Int):=by unfold br;rw[hb,if_pos rfl,Int.neg_neg]
    rw[hsm];unfold fits at hb;simp at hb;refine⟨by omega,by omega,by unfold bm;omega,_,_,hmk (V:Int) (by omega) ⟨fun h0=>by omega,fun h0=>absurd h0 h⟩⟩
   ·have hsm:br (-(-(V:Int)))=0:=by unfold br;rw[hb];rfl
    refine⟨hsm,fun _ _ y hy F' B' hf=> ?_⟩;obtain⟨-,e2,e3⟩:=hfm y F' B' (by rwa [Int.toNat_natCast] at hf);have:¬y<0:=fun h0=>h (e3.2 h0);unfold fits at hb;simp at hb;unfold bm at hy;omega
def kT (c:Nat):Bool:=(decide (97≤c)&&decide (c≤122))||(decide (65≤c)&&decide (c≤90))
def fy (c:Nat):Bool:=decide (48≤c)&&decide (c≤57)
def aL (c:Nat):Bool:=kT c||fy c||decide (c=95)
def runN (p:Nat→Bool):List Nat→Nat
 | []=>0
 |c::l=>if p c then runN p l+1 else 0
theorem gR (p:Nat→Bool):∀l,runN p l≤l.length
 | []=>Nat.le_refl _
 |c::l=>by
  unfold runN;split
  ·have:=gR p l;simp;omega
  ·simp
theorem rf (p:Nat→Bool):∀(l:List Nat),∀c∈l.take (runN p l),p c=true
 | [],c,h=>by simp at h
 |d::l,c,h=>by
  unfold runN at h;split at h
  ·rename_i hd
   rw[List.take_succ_cons] at h;rcases List.mem_cons.1 h with rfl|h
   ·exact hd
   ·exact rf p l c h
  ·simp at h
theorem sN (p:Nat→Bool):∀(l:List Nat) c,l[runN p l]? =some c→p c=false
 | [],c,h=>by simp at h
 |d::l,c,h=>by
  unfold runN at h;split at h
  ·exact sN p l c (by simpa using h)
  ·rename_i hd
   simp at h;subst h
   simpa using hd
def fS (c:Nat):Bool:=decide (c=32)||decide (c=9)||decide (c=10)
def eP (c:Nat):Bool:=decide (c≠10)
def ei:List Nat→Bool→Nat
 | [],_=>0
 |c::l,true=>if c=10 then ei l false+1 else ei l true+1
 |c::l,false=>if fS c then ei l false+1 else if c=35 then ei l true+1 else 0
def bT (l:List Nat):Nat:=ei l false
theorem jE:∀l b,ei l b≤l.length
 | [],_=>Nat.le_refl _
 |c::l,true=>by unfold ei;have:=jE l true;have:=jE l false;split<;>simp<;>omega
 |c::l,false=>by unfold ei;have:=jE l true;have:=jE l false;split;simp;omega;split<;>simp<;>omega
theorem vk (c:Nat)(l:List Nat):ei (c::l) true=if c=10 then ei l false+1 else ei l true+1:=by rw[ei]
theorem qW (c:Nat)(l:List Nat):ei (c::l) false=if fS c then ei l false+1 else if c=35 then ei l true+1 else 0:=by rw[ei]
theorem eu (p:Nat→Bool)(c:Nat)(l:List Nat):runN p (c::l)=if p c then runN p l+1 else 0:=rfl
theorem po:∀l,ei l true=runN eP l+ei (l.drop (runN eP l)) false
 | []=>rfl
 |c::l=>by
  rw[vk,eu]
  by_cases hc:c=10
  ·subst hc
   have:eP 10=false:=by decide
   rw[if_pos rfl,this,if_neg (by simp),List.drop_zero,qW,if_pos (by decide)];omega
  ·have:eP c=true:=by simp[eP,hc]
   rw[if_neg hc,this,if_pos rfl,po l,List.drop_succ_cons];omega
theorem je (c:Nat)(r:List Nat):bT (c::r)=if fS c then bT r+1 else if c=35 then runN eP (c::r)+bT ((c::r).drop (runN eP (c::r))) else 0:=by
 unfold bT;rw[qW];split
 ·rfl
 ·split
  ·rename_i hc
   subst hc;have:eP 35=true:=by decide
   rw[po,eu,this,if_pos rfl,List.drop_succ_cons];omega
  ·rfl
theorem jQ (l:List Nat):bT l≤l.length:=jE l false
theorem mX (c:Nat)(w:World):Calls Tryz.prog 101 #[.int .u8 (c:Int)] w fun e w'=>e= .returned (.bool (kT c))∧Grow w w':=by
 have ab:=Below.refl w.heap.size w;refine Zs 17 Tryz.func101 ?_;refine aj ?_;refine Za ?_;refine dF 0 2 (aB ?_);refine Zm ?_;refine kZ ?_;refine Zm ?_;refine aw.start ?_;refine bw (fun hcx=>aa.move rfl rfl) ?_;refine Zn (fun hcx=>aa.leq rfl rfl rfl) ?_;refine fQ ?_;refine Zm ?_;refine aw.start ?_;refine bw (fun hcx=>aa.move rfl rfl) ?_;refine Zn (fun hcx=>aa.geq rfl rfl rfl) ?_;refine gq ?_;refine bw (fun hcx=>aa.move rfl rfl) ?_;refine Zn (fun hcx=>aa.leq rfl rfl rfl) ?_;refine aw.mF rfl rfl rfl rfl rfl rfl rfl rfl rfl rfl rfl ?_;refine fg ?_;refine Za ?_;refine dF 0 2 (Zt (Cd.ret ?_));refine aZ ?_;refine⟨bt (aJ ?_),ab⟩;unfold kT;rw[Bool.eq_iff_iff];simp;omega
theorem qI (c:Nat)(w:World):Calls Tryz.prog 145 #[.int .u8 (c:Int)] w fun e w'=>e= .returned (.bool (fy c))∧Grow w w':=by
 have ab:=Below.refl w.heap.size w;refine Zs 9 Tryz.func145 ?_;refine aj ?_;refine Za ?_;refine dF 0 2 (aB ?_);refine Zm ?_;refine kZ ?_;refine Zm ?_;refine aw.start ?_;refine bw (fun hcx=>aa.move rfl rfl) ?_;refine Zn (fun hcx=>aa.leq rfl rfl rfl) ?_;refine fQ ?_;refine Za ?_;refine dF 0 2 (Zt (Cd.ret ?_));refine aZ ?_;refine⟨bt (aJ ?_),ab⟩;unfold fy;rw[Bool.eq_iff_iff];simp;omega
theorem vB (c:Nat)(w:World):Calls Tryz.prog 103 #[.int .u8 (c:Int)] w fun e w'=>e= .returned (.bool (aL c))∧Grow w w':=by
 have ab:=Below.refl w.heap.size w;refine Zs 13 Tryz.func103 ?_;refine aj ?_;refine Za ?_;refine dF 0 2 (aB ?_);refine Zm ?_;refine Zc (Ze Tryz.func101) (mX c _) ?_;rintro e w2 ⟨rfl,hb2⟩;refine⟨_,rfl,?_⟩;replace ab:=ab.step hb2;refine Zm ?_;refine aw.start ?_;refine bw (fun hcx=>aa.move rfl rfl) ?_;refine aw.bU rfl rfl rfl rfl rfl rfl rfl (fun hcx=>Ze Tryz.func145) (fun hcx=>qI c _) ?_;intro w1 hw1;replace ab:=ab.step hw1;refine fg ?_;refine Zm ?_;refine aw.start ?_;refine bw (fun hcx=>aa.move rfl rfl) ?_;refine Zn (fun hcx=>aa.fh rfl rfl rfl) ?_;refine fg ?_;refine Za ?_;refine dF 0 2 (Zt (Cd.ret ?_));refine aZ ?_;refine⟨bt (aJ ?_),ab⟩;unfold aL;rw[show decide ((c:Int)=95)=decide (c=95) from decide_eq_decide.2 (by omega)]
theorem Bx (c:Nat)(w:World):Calls Tryz.prog 230 #[.int .u8 (c:Int)] w fun e w'=>e= .returned (.bool (eP c))∧Grow w w':=by
 have ab:=Below.refl w.heap.size w;refine Zs 5 Tryz.func230 ?_;refine aj ?_;refine Za ?_;refine dF 0 2 (aB ?_);refine Zm ?_;refine sJ ?_;refine Za ?_;refine dF 0 2 (Zt (Cd.ret ?_));refine aZ ?_;refine⟨bt (aJ ?_),ab⟩;unfold eP;exact decide_eq_decide.2 (by omega)
theorem mu (p:Nat→Bool)(l:List Nat)(k:Nat)(h:k≤runN p l)(c:Nat)(hc:l[k]? =some c):(p c=true↔k<runN p l):=by
 constructor
 ·intro hp
  rcases Nat.lt_or_ge k (runN p l) with h1|h1
  ·exact h1
  ·obtain rfl:k=runN p l:=by omega
   rw[sN p l c hc] at hp;cases hp
 ·intro h1
  refine rf p l c ?_;refine List.mem_of_getElem? (i:=k) ?_;rw[List.getElem?_take_of_lt h1];exact hc
theorem yj (f:FuncId)(p:Nat→Bool)(eg:∀args w,(callFunc f args).run Tryz.prog w= .ok (.enter f args) w)(hp:∀(c:Nat) w,Calls Tryz.prog f #[.int .u8 (c:Int)] w fun e w'=>e= .returned (.bool (p c))∧Grow w w')
  (l:List Nat) (w:World) (hl:∀x∈l,x<256) (hlen:l.length≤9223372036854775807):
  Calls Tryz.prog 102 #[.string (strOf l), .func (.func f) #[] #[]] w fun e w'=>e= .returned (.int .i64 (runN p l:Int))∧Grow w w':=by
 have ab:=Below.refl w.heap.size w;have hle:=gR p l;refine Zs 20 Tryz.func102 ?_;refine aj ?_;refine Za ?_;refine bn 0 1 4 (aB ?_);refine Za ?_;refine aQ 0 1 4 5 (aI (Cd.block ?_));refine Cd.loop (σ:=Nat) (fun k=>[(0, .string (strOf l)),(1, .func (.func f) #[] #[]),(5, .int .i64 (k:Int))]) (fun k wr=>k≤runN p l∧Below w.heap.size w wr) (fun k=>runN p l-k) 0 ⟨Nat.zero_le _,ab⟩ ⟨rfl,rfl,rfl,trivial⟩ ?_;clear ab;rintro k wr ⟨hk,ab⟩;refine Cd.seq (aj ?_);refine Zm ?_;refine Zm ?_;refine Zv (aa.dh rfl rfl Tryz.underlying9) ?_
 by_cases hi:k<l.length
 ·obtain⟨c,hc⟩:∃c,l[k]? =some c:=⟨_,List.getElem?_eq_getElem hi⟩
  have hc256:=hl c (List.mem_of_getElem? hc);have hup:=mu p l k hk c hc;refine Zv ((aa.lss rfl rfl rfl).lK ((by omega))) ?_;refine Zm ?_;refine Seq.aE (aa.move rfl rfl) rfl rfl rfl rfl rfl ?_;refine Seq.aE (aa.move rfl rfl) rfl rfl rfl rfl rfl ?_;refine Seq.aE (aa.move rfl rfl) rfl rfl rfl rfl rfl ?_;refine Seq.aE (aa.cz (l:=l) (j:=k) rfl rfl rfl Tryz.underlying9 rfl hc hc256) rfl rfl rfl rfl rfl ?_;refine Seq.ue (Enters.value (first:=[]) (cap:=[]) rfl rfl rfl eg) rfl rfl rfl rfl rfl (hp c _) ?_;rintro e w3 ⟨rfl,hb3⟩;refine⟨_,rfl,?_⟩;replace ab:=ab.step hb3;refine Zv (aa.cQ rfl rfl rfl) ?_;refine aQ 0 1 5 16 (Zt ?_);refine Cd.cond rfl (fun h=> ?_) (fun h=> ?_)
  ·have hlt:=hup.1 h
   refine Cd.skip (Zt (Cd.block (Zr ?_)));refine Zm ?_;refine cG ?_;refine Za ?_;refine aQ 0 1 5 16 (ae.ah ?_);exact ae.round (k+1) ⟨rfl,rfl,rfl,trivial⟩ ⟨by omega,ab⟩ (by omega)
  ·have hk2:runN p l=k:=by
    rcases Nat.lt_or_ge k (runN p l) with h1|h1
    ·have:=hup.2 h1
     rw[h] at this;cases this
    ·omega
   rw[hk2];refine Cd.exit (ae.aC (ae.aA (ae.ay (aB ?_))));refine Zm ?_;refine Za ?_;refine aO 0 1 4 5 16 (Zt (Cd.ret ?_));refine aZ ?_;exact⟨rfl,ab⟩
 ·have hk2:runN p l=k:=by omega
  rw[hk2];refine Zv ((aa.lss rfl rfl rfl).iC ((by omega))) ?_;refine Zm ?_;refine Seq.pa rfl rfl rfl rfl rfl rfl ?_;refine Seq.pa rfl rfl rfl rfl rfl rfl ?_;refine Seq.pa rfl rfl rfl rfl rfl rfl ?_;refine Seq.pa rfl rfl rfl rfl rfl rfl ?_;refine Seq.pa rfl rfl rfl rfl rfl rfl ?_;refine Zv (aa.bq rfl rfl rfl) ?_;refine aQ 0 1 5 16 (Zt ?_);refine Cd.aM rfl rfl ?_;refine Cd.exit (ae.aC (ae.aA (ae.ay (aB ?_))));refine Zm ?_;refine Za ?_;refine aO 0 1 4 5 16 (Zt (Cd.ret ?_));refine aZ ?_;exact⟨rfl,ab⟩
theorem D6:∀args w,(callFunc 103 args).run Tryz.prog w= .ok (.enter 103 args) w:=fun args w=>bG Tryz.func103 (by kernel_rfl) rfl args w
theorem Dn:∀args w,(callFunc 230 args).run Tryz.prog w= .ok (.enter 230 args) w:=fun args w=>bG Tryz.func230 (by kernel_rfl) rfl args w
theorem ru (l:List Nat)(w:World)(hl:∀x∈l,x<256)(hlen:l.length≤9223372036854775807):
  Calls Tryz.prog 102 #[.string (strOf l), .func (.func 103) #[] #[]] w fun e w'=>e= .returned (.int .i64 (runN aL l:Int))∧Grow w w':=
 yj _ aL D6 vB l w hl hlen
theorem Bh (l:List Nat)(w:World)(hl:∀x∈l,x<256)(hlen:l.length≤9223372036854775807):
  Calls Tryz.prog 102 #[.string (strOf l), .func (.func 230) #[] #[]] w fun e w'=>e= .returned (.int .i64 (runN eP l:Int))∧Grow w w':=
 yj _ eP Dn Bx l w hl hlen
theorem DD {l:List Nat}{k c:Nat}(h:l[k]? =some c):l.drop k=c::l.drop (k+1):=by
 obtain⟨hk,rfl⟩:=List.getElem?_eq_some_iff.1 h;exact List.drop_eq_getElem_cons hk
theorem j3 {l:List Nat}(hl:∀x∈l,x<256)(k:Nat):∀x∈l.drop k,x<256:=fun x hx=>hl x (List.mem_of_mem_drop hx)
theorem ji {l:List Nat}(hl:∀x∈l,x<256)(k:Nat):∀x∈l.take k,x<256:=fun x hx=>hl x (List.mem_of_mem_take hx)
theorem sS (l:List Nat)(w:World)(hl:∀x∈l,x<256)(hlen:l.length≤9223372036854775807):
  Calls Tryz.prog 205 #[.string (strOf l)] w fun e w'=>e= .returned (.int .i64 (bT l:Int))∧Grow w w':=by
 have ab:=Below.refl w.heap.size w;refine Zs 27 Tryz.func205 ?_;refine aj ?_;refine Za ?_;refine dF 0 2 (aB ?_);refine Za ?_;refine bn 0 2 3 (aI (Cd.block ?_));refine Cd.loop (σ:=Nat) (fun k=>[(0, .string (strOf l)),(3, .int .i64 (k:Int))]) (fun k wr=>k≤l.length∧bT l=k+bT (l.drop k)∧Below w.heap.size w wr) (fun k=>l.length-k) 0 ⟨Nat.zero_le _,by simp,ab⟩ ⟨rfl,rfl,trivial⟩ ?_;clear ab;rintro k wr ⟨hk,hbl,ab⟩;refine Cd.seq (aj ?_);refine Zm ?_;refine Zm ?_;refine Zv (aa.dh rfl rfl Tryz.underlying9) ?_;refine eI ?_;refine bn 0 3 7 (Zt ?_);refine Cd.ak rfl (fun hc=> ?_) (fun hc=> ?_)
 ·obtain⟨c,hcc⟩:∃c,l[k]? =some c:=⟨_,List.getElem?_eq_getElem (show k<l.length by omega)⟩
  have hc256:=hl c (List.mem_of_getElem? hcc);have hdr:=DD hcc;have hst:=je c (l.drop (k+1));rw[←hdr] at hst;refine Cd.skip (Zt (Cd.block (aj ?_)));refine Zm ?_;refine Zm ?_;refine Zv (aa.cz (l:=l) (j:=k) rfl rfl rfl Tryz.underlying9 rfl hcc hc256) ?_;refine aQ 0 3 7 10 (Zt (Cd.block ?_));refine Cd.lB (σ:=Unit) (fun _=>[(0, .string (strOf l)),(3, .int .i64 (k:Int)),(10, .int .u8 (c:Int)),(12, .bool (fS c))]) (fun _ wr=>Below w.heap.size w wr) ?_ ?_
  ·skip
   refine aj ?_;refine bC ?_;refine Za ?_;refine aO 0 3 7 10 12 (Zt ?_);refine Cd.ak rfl (fun h=> ?_) (fun h=> ?_)
   ·skip
    refine Cd.skip ?_;exact ae.join () ⟨rfl,rfl,rfl,congrArg (fun z=>some (Value.bool z)) (by unfold fS;rw[decide_eq_true h,decide_eq_true (show c=32 by omega)];rfl),trivial⟩ ab
   ·skip
    refine aj ?_;refine bC ?_;refine Za ?_;refine aO 0 3 7 10 12 (Zt ?_);refine Cd.ak rfl (fun h2=> ?_) (fun h2=> ?_)
    ·skip
     refine Cd.skip ?_;exact ae.join () ⟨rfl,rfl,rfl,congrArg (fun z=>some (Value.bool z)) (by unfold fS;rw[decide_eq_true h2,decide_eq_true (show c=9 by omega)];simp),trivial⟩ ab
    ·skip
     refine Zr ?_;refine bC ?_;refine Za ?_;refine aO 0 3 7 10 12 ?_;exact ae.join () ⟨rfl,rfl,rfl,congrArg (fun z=>some (Value.bool z)) (by unfold fS;rw[decide_eq_false (show¬c=32 by omega),decide_eq_false (show¬c=9 by omega)];exact decide_eq_decide.2 (by omega)),trivial⟩ ab
  clear ab;rintro⟨⟩ wr ab;refine Cd.cond rfl (fun h=> ?_) (fun h=> ?_)
  ·rw[h,if_pos rfl] at hst
   refine Zr ?_;refine Zm ?_;refine cG ?_;refine Za ?_;refine aQ 0 3 10 12 (ae.ah (ae.ah ?_));exact ae.round (k+1) ⟨rfl,rfl,trivial⟩ ⟨by omega,by omega,ab⟩ (by omega)
  ·rw[h,if_neg (by simp)] at hst
   refine aj ?_;refine bC ?_;refine Za ?_;refine aO 0 3 10 12 18 (Zt ?_);refine Cd.ak rfl (fun h2=> ?_) (fun h2=> ?_)
   ·rw[if_pos (by omega)] at hst
    have hr1:1≤runN eP (l.drop k):=by
     rw[hdr,eu,show c=35 by omega,if_pos (by decide)];omega
    have hr2:=gR eP (l.drop k);rw[List.length_drop] at hr2;rw[List.drop_drop] at hst;refine Zr ?_;refine Zm ?_;refine Zm ?_;refine Zm ?_;refine Zv (aa.sliceFrom (j:=k) rfl rfl rfl Tryz.underlying9 rfl hk) ?_;refine Zc (Ze Tryz.func102) (Bh (l.drop k) _ (j3 hl k) (by rw[List.length_drop];omega)) ?_;rintro e w7 ⟨rfl,hb7⟩;refine⟨_,rfl,?_⟩;replace ab:=ab.step hb7
    generalize runN eP (l.drop k)=r at *
    refine cG ?_;refine Za ?_;refine aO 0 3 10 12 18 (ae.ah (ae.ah ?_));exact ae.round (k+r) ⟨rfl,rfl,trivial⟩ ⟨by omega,by omega,ab⟩ (by omega)
   ·rw[if_neg (by omega)] at hst
    have hbk:bT l=k:=by omega
    rw[hbk];refine aj ?_;refine Zm ?_;refine Za ?_;refine aY 0 2 3 10 12 18 (Zt (Cd.ret (ae.ag (ae.ag (ae.aX (ae.ag (ae.af ?_)))))));refine aZ ?_;exact⟨rfl,ab⟩
 ·have hbk:bT l=k:=by
   have:l.drop k=[]:=List.drop_eq_nil_of_le (by omega);rw[this] at hbl
   simpa[bT,ei] using hbl
  rw[hbk];refine Cd.exit (ae.aC (ae.aA (ae.ay (aB ?_))));refine Zm ?_;refine Za ?_;refine aQ 0 2 3 7 (Zt (Cd.ret ?_));refine aZ ?_;exact⟨rfl,ab⟩
def cS (l:List Nat):Bool:=decide (l≠ [])&&decide (l.length≤16)&&kT (l.getD 0 0)&&decide (runN aL l=l.length)
theorem mi (l:List Nat)(w:World)(hl:∀x∈l,x<256)(hlen:l.length≤9223372036854775807):
  Calls Tryz.prog 62 #[.string (strOf l)] w fun e w'=>e= .returned (.bool (cS l))∧Grow w w':=by
 have ab:=Below.refl w.heap.size w
 have h0:l≠ []→l[0]? =some (l.getD 0 0):=by
  intro h
  cases l with
  |nil=>exact absurd rfl h
  |cons c l=>rfl
 have h1:l.getD 0 0<256:=by
  cases l with
  |nil=>simp
  |cons c l=>exact hl c (by simp)
 unfold cS
 generalize l.getD 0 0=c0 at *
 refine Zs 22 Tryz.func62 ?_;refine aj ?_;refine Za ?_;refine dF 0 2 (aB ?_);refine Zm ?_;refine Zv (aa.fT (a:=l) (b:=[]) rfl rfl rfl hl (fun x hx=>by simp at hx)) ?_;refine Zm ?_;refine aw.start ?_;refine bw (fun hcx=>aa.move rfl rfl) ?_;refine Zn (fun hcx=>aa.dh rfl rfl Tryz.underlying9) ?_;refine Zn (fun hcx=>aa.leq rfl rfl rfl) ?_;refine fQ ?_;refine Zm ?_;refine aw.start ?_;refine bw (fun hcx=>aa.move rfl rfl) ?_;refine Zn (fun hcx=>aa.cz (l:=l) (j:=0) (c:=c0) rfl rfl rfl Tryz.underlying9 rfl (h0 (by simp[ct] at hcx;exact hcx.1)) h1) ?_;refine aw.bU rfl rfl rfl rfl rfl rfl rfl (fun hcx=>Ze Tryz.func101) (fun hcx=>mX _ _) ?_;intro w1 hw1;replace ab:=ab.step hw1;refine fQ ?_;refine Zm ?_;refine aw.start ?_;refine bw (fun hcx=>aa.move rfl rfl) ?_;refine aw.bU rfl rfl rfl rfl rfl rfl rfl (fun hcx=>Ze Tryz.func102) (fun hcx=>ru l _ hl hlen) ?_;intro w2 hw2;replace ab:=ab.step hw2;refine gq ?_;refine Zn (fun hcx=>aa.dh rfl rfl Tryz.underlying9) ?_;refine Zn (fun hcx=>aa.fh rfl rfl rfl) ?_;refine fQ ?_;refine Za ?_;refine dF 0 2 (Zt (Cd.ret ?_));refine aZ ?_;refine⟨bt (aJ ?_),ab⟩;rw[Bool.eq_iff_iff];simp
 constructor
 ·rintro⟨⟨⟨a,b⟩,c⟩,d⟩
  exact⟨⟨⟨a,by omega⟩,c⟩,by omega⟩
 ·rintro⟨⟨⟨a,b⟩,c⟩,d⟩
  exact⟨⟨⟨a,by omega⟩,c⟩,by omega⟩
section
variable {P:Program} {E:Operand→Option Value} {o:Oper} {w:World} {x:Operand} {T:TypeId}
theorem aa.ep {ad:Addr}{m:Nat}{ps:List Value}{d:TypeDesc}(ho:o.op= .load T x)(hx:E x=some (.pointer (some ad)))(hT:P.underlying T=some d)(hd:(match d with| .struct _| .array _ _=>true|_=>false)=true)(hs:dB P T m=true)(hm:ps.length=m)(hc:∀(j:Nat) (v:Value),ps[j]? =some v→w.cell? (ad.add j)=some v):aa P E o w (.agg ps.toArray) w:=by
 obtain⟨i,hi,hsz⟩:=bL hs;exact .EH (cs:=ps) ho hx hT hd hi (by omega) hc
end
inductive Ex where
 |mk (op n:Int) (name:List Nat) (args:List Ex)
def Ex.op:Ex→Int| .mk op _ _ _=>op
def Ex.n:Ex→Int| .mk _ n _ _=>n
def Ex.name:Ex→List Nat| .mk _ _ nm _=>nm
def Ex.args:Ex→List Ex| .mk _ _ _ l=>l
theorem Ex.eta (e:Ex):e= .mk e.op e.n e.name e.args:=by cases e;rfl
mutual
def Ex.nodes:Ex→Nat
 | .mk _ _ _ l=>1+aK l
def aK:List Ex→Nat
 | []=>0
 |e::r=>e.nodes+aK r
end
mutual
def Ex.depth:Ex→Nat
 | .mk _ _ _ l=>1+aW l
def aW:List Ex→Nat
 | []=>0
 |e::r=>max e.depth (aW r)
end
theorem Ex.dQ (op n:Int)(nm:List Nat)(l:List Ex):(Ex.mk op n nm l).nodes=1+aK l:=by rw[Ex.nodes]
theorem Ex.fI (op n:Int)(nm:List Nat)(l:List Ex):(Ex.mk op n nm l).depth=1+aW l:=by rw[Ex.depth]
theorem mW {l:List Ex}{e:Ex}(h:e∈l):e.nodes≤aK l:=by
 induction l with
 |nil=>cases h
 |cons x r ih=>
  unfold aK;rcases List.mem_cons.1 h with rfl|h
  ·omega
  ·have:=ih h;omega
theorem Ex.gL {e x:Ex}(h:x∈e.args):x.nodes<e.nodes:=by
 cases e with
 |mk op n nm l=>
  have:=mW (l:=l) h;rw[Ex.dQ];omega
theorem Ex.cR (e:Ex):0<e.nodes:=by cases e;unfold Ex.nodes;omega
theorem rA {l:List Ex}{e:Ex}(h:e∈l):e.depth≤aW l:=by
 induction l with
 |nil=>cases h
 |cons x r ih=>
  unfold aW;rcases List.mem_cons.1 h with rfl|h
  ·omega
  ·have:=ih h;omega
theorem Ex.sK {e x:Ex}(h:x∈e.args):x.depth<e.depth:=by
 cases e with
 |mk op n nm l=>
  have:=rA (l:=l) h;rw[Ex.fI];omega
mutual
theorem Ex.bR:∀e:Ex,e.depth≤e.nodes
 | .mk _ _ _ l=>by unfold Ex.depth Ex.nodes;have:=dV l;omega
theorem dV:∀l:List Ex,aW l≤aK l
 | []=>Nat.le_refl _
 |e::r=>by unfold aW aK;have:=Ex.bR e;have:=dV r;omega
end
def Rows (w:World)(S:Nat→Prop)(A:Option Addr)(xs:List Value):Prop:=xs≠ []→∃ad,A=some ad∧S ad.block∧∀(j:Nat) (u:Value),xs[j]? =some u→w.cell? (ad.add j)=some u
inductive cw (w:World)(S:Nat→Prop):Ex→Value→Prop
 |mk {op n:Int} {nm:List Nat} {args:List Ex} {A:Option Addr} {c:Nat} {vs:List Value} (hl:vs.length=args.length) (kO:args.length≤1000) (hop:bm op) (hn:bm n) (hnm:∀d∈nm,d<256) (hnl:nm.length≤9223372036854775807)
   (hr:∀(i:Nat) (e:Ex) (v:Value),args[i]? =some e→vs[i]? =some v→cw w S e v) (hA:Rows w S A (aN vs)):cw w S (.mk op n nm args) (.agg #[.int .i64 op, .int .i64 n, .string (strOf nm), .slice A args.length c])
theorem cw.mono {w w':World}{S S':Nat→Prop}{e:Ex}{v:Value}(h:cw w S e v)(hS:∀b,S b→S' b)(hc:∀p:Addr,S p.block→w'.cell? p=w.cell? p):cw w' S' e v:=by
 induction h with
 |mk hl kO hop hn hnm hnl hr hA ih=>
  refine .mk hl kO hop hn hnm hnl ih fun hne=> ?_;obtain⟨ad,e1,e2,e3⟩:=hA hne;exact⟨ad,e1,hS _ e2,fun j u hu=>(hc _ (by rw[av];exact e2)).trans (e3 j u hu)⟩
def rE (w:World)(B:Nat)(e:Ex)(v:Value):Prop:=cw w (· <B) e v
theorem rE.below {w w':World}{B:Nat}{e:Ex}{v:Value}(h:rE w B e v)(hb:Below B w w'):rE w' B e v:=cw.mono h (fun _ h=>h) (fun _ hp=>hb.cell hp)
theorem cw.tO {w:World}{S:Nat→Prop}{e:Ex}{v:Value}(h:cw w S e v):v.cells.size=4:=by
 cases h;rfl
theorem jD {vs:List Value}{i:Nat}{v:Value}(hs:∀x∈vs,x.cells.size=4)(h:vs[i]? =some v):∀(j:Nat) (u:Value),v.cells.toList[j]? =some u→(aN vs)[i*4+j]? =some u:=by
 induction vs generalizing i with
 |nil=>cases h
 |cons x r ih=>
  intro j u hj;have hx:x.cells.size=4:=hs x List.mem_cons_self;show(x.cells.toList++aN r)[i*4+j]? =some u
  cases i with
  |zero=>
   injection h with h
   subst h;have:j<x.cells.toList.length:=(List.getElem?_eq_some_iff.1 hj).1;rw[Nat.zero_mul,Nat.zero_add,List.getElem?_append_left this];exact hj
  |succ i=>
   have h2:=ih (fun y hy=>hs y (List.mem_cons_of_mem _ hy)) (by simpa using h) j u hj;have hxl:x.cells.toList.length=4:=by simpa using hx
   rw[List.getElem?_append_right (by rw[hxl];omega),hxl,←h2];congr 1;omega
structure wK (w:World)(B:Nat)(e:Ex)(A:Option Addr)(c:Nat):Prop where
 kO:e.args.length≤1000
 op:bm e.op
 n:bm e.n
 name:∀d∈e.name,d<256
 Bp:e.name.length≤9223372036854775807
 arg:∀i x,e.args[i]? =some x→∃ad A' c',A=some ad∧ad.block<B∧rE w B x (.agg #[.int .i64 x.op, .int .i64 x.n, .string (strOf x.name), .slice A' x.args.length c'])∧∀(j:Nat) (u:Value),([.int .i64 x.op, .int .i64 x.n, .string (strOf x.name), .slice A' x.args.length c']:List Value)[j]? =some u→w.cell? ((ad.add (i*4)).add j)=some u
theorem cw.form {w:World}{S:Nat→Prop}{e:Ex}{v:Value}(h:cw w S e v):∃A c,v= .agg #[.int .i64 e.op, .int .i64 e.n, .string (strOf e.name), .slice A e.args.length c]:=by
 cases h;exact⟨_,_,rfl⟩
theorem rE.open {w:World}{B:Nat}{e:Ex}{v:Value}(h:rE w B e v):∃A c,v= .agg #[.int .i64 e.op, .int .i64 e.n, .string (strOf e.name), .slice A e.args.length c]∧wK w B e A c:=by
 have h':cw w (· <B) e v:=h
 cases h' with
 | @mk op n nm args A c vs hl kO hop hn hnm hnl hr hA=>
  refine⟨A,c,rfl,kO,hop,hn,hnm,hnl,fun i x hx=> ?_⟩;have hi:=(List.getElem?_eq_some_iff.1 hx).1;replace hi:i<args.length:=hi;obtain⟨v,hv⟩:∃v,vs[i]? =some v:=⟨_,List.getElem?_eq_getElem (by omega)⟩;have hrx:=hr i x v hx hv
  have h4:∀y∈vs,y.cells.size=4:=fun y hy=>by
   obtain⟨k,hk,rfl⟩:=List.getElem_of_mem hy;obtain⟨z,hz⟩:∃z,args[k]? =some z:=⟨_,List.getElem?_eq_getElem (by omega)⟩;exact(hr k z _ hz (List.getElem?_eq_getElem hk)).tO
  have hne:aN vs≠ []:=by
   intro h0;obtain⟨A',c',rfl⟩:=hrx.form;have:=jD h4 hv 0 _ rfl;rw[h0] at this
   cases this
  obtain⟨ad,rfl,hb,hc⟩:=hA hne;obtain⟨A',c',rfl⟩:=hrx.form;refine⟨ad,A',c',rfl,hb,hrx,fun j u hu=> ?_⟩;rw[gd];exact hc _ _ (jD h4 hv j u (by simpa[Value.cells] using hu))
theorem wK.below {w w':World}{B:Nat}{e:Ex}{A:Option Addr}{c:Nat}(h:wK w B e A c)(hb:Below B w w'):wK w' B e A c:=
 ⟨h.kO,h.op,h.n,h.name,h.Bp,fun i x hx=>by
  obtain⟨ad,A',c',e1,e2,e3,e4⟩:=h.arg i x hx;exact⟨ad,A',c',e1,e2,e3.below hb,fun j u hu=>(hb.cell (by rw[av,av];exact e2)).trans (e4 j u hu)⟩⟩
def eU (op:Int):Int:=if 1≤op∧op≤4 then 0 else if 5≤op∧op≤18 then 2 else if op=19∨op=20 then 1 else if op=21 then 3 else -1
theorem ew (op:Int)(w:World):Calls Tryz.prog 214 #[.int .i64 op] w fun e w'=>e= .returned (.int .i64 (eU op))∧Grow w w':=by
 have ab:=Below.refl w.heap.size w;refine Zs 27 Tryz.func214 ?_;refine aj ?_;refine Za ?_;refine dF 0 2 (aI (Cd.block (aj ?_)));refine Zm ?_;refine kZ ?_;refine Zm ?_;refine aw.start ?_;refine bw (fun hcx=>aa.move rfl rfl) ?_;refine Zn (fun hcx=>aa.leq rfl rfl rfl) ?_;refine fQ ?_;refine Za ?_;refine bn 0 2 3 (Zt ?_);refine Cd.cond rfl (fun h=> ?_) (fun h=> ?_)
 ·simp at h
  refine aj ?_;refine Za ?_;refine bn 0 2 3 (Zt (Cd.ret (ae.ag (ae.af ?_))));refine aZ ?_;exact⟨bt (int_eq (by unfold eU;rw[if_pos h])),ab⟩
 ·simp at h
  refine aj ?_;refine Zm ?_;refine kZ ?_;refine Zm ?_;refine aw.start ?_;refine bw (fun hcx=>aa.move rfl rfl) ?_;refine Zn (fun hcx=>aa.leq rfl rfl rfl) ?_;refine fQ ?_;refine Za ?_;refine aQ 0 2 3 10 (Zt ?_);refine Cd.cond rfl (fun h2=> ?_) (fun h2=> ?_)
  ·simp at h2
   refine aj ?_;refine Za ?_;refine aQ 0 2 3 10 (Zt (Cd.ret (ae.ag (ae.af ?_))));refine aZ ?_;exact⟨bt (int_eq (by unfold eU;rw[if_neg (by omega),if_pos h2])),ab⟩
  ·simp at h2
   refine aj ?_;refine Zm ?_;refine bC ?_;refine Zm ?_;refine aw.start ?_;refine bw (fun hcx=>aa.move rfl rfl) ?_;refine Zn (fun hcx=>aa.fh rfl rfl rfl) ?_;refine fg ?_;refine Za ?_;refine aO 0 2 3 10 17 (Zt ?_);refine Cd.cond rfl (fun h3=> ?_) (fun h3=> ?_)
   ·simp at h3
    refine aj ?_;refine Za ?_;refine aO 0 2 3 10 17 (Zt (Cd.ret (ae.ag (ae.af ?_))));refine aZ ?_;exact⟨bt (int_eq (by unfold eU;rw[if_neg (by omega),if_neg (by omega),if_pos h3])),ab⟩
   ·simp at h3
    refine aj ?_;refine Zm ?_;refine bC ?_;refine Za ?_;refine aY 0 2 3 10 17 24 (Zt ?_);refine Cd.ak rfl (fun hc=> ?_) (fun hc=> ?_)
    ·skip
     refine aj ?_;refine Za ?_;refine aY 0 2 3 10 17 24 (Zt (Cd.ret (ae.ag (ae.af ?_))));refine aZ ?_;exact⟨bt (int_eq (by unfold eU;rw[if_neg (by omega),if_neg (by omega),if_neg (by omega),if_pos (by assumption)])),ab⟩
    ·skip
     refine Cd.skip (ae.ah (aB ?_));refine Za ?_;refine aY 0 2 3 10 17 24 (Zt (Cd.ret ?_));refine aZ ?_;exact⟨bt (int_eq (by unfold eU;rw[if_neg (by omega),if_neg (by omega),if_neg (by omega),if_neg (by assumption)])),ab⟩
def eL:List (List Nat):=[[122,101,114,111],[111,110,101],[103,105,118,101],[97,110,100],[111,114],[115,99,97,108,101],[119,104,101,110],[117,110,116,105,108],[97,110,121,116,105,109,101],[100,97,121],[109,105,110],[109,97,120],[105,102]]
def cl (l:List Nat):Bool:=eL.any fun x=>decide (l=x)
theorem nz (l:List Nat)(w:World)(hl:∀d∈l,d<256):Calls Tryz.prog 210 #[.string (strOf l)] w fun e w'=>e= .returned (.bool (cl l))∧Grow w w':=by
 have ab:=Below.refl w.heap.size w;refine Zs 18 Tryz.func210 ?_;refine aj ?_;refine Za ?_;refine dF 0 2 (aI (aj ?_));refine Zm ?_;refine bn 0 2 3 (Zt (Cd.block ?_));refine Cd.lB (σ:=Unit) (fun _=>[(4, .bool (cl l))]) (fun _ wr=>Below w.heap.size w wr) ?_ ?_
 ·skip
  refine aj ?_;refine Zv (aa.cI (a:=l) (b:=[122,101,114,111]) rfl rfl rfl hl (by decide)) ?_;refine Za ?_;refine aQ 0 2 3 4 (Zt ?_);refine Cd.ak rfl (fun h0=> ?_) (fun h0=> ?_)
  ·subst h0
   refine Cd.skip ?_;exact ae.join () ⟨rfl,trivial⟩ ab
  ·skip
   refine aj ?_;refine Zv (aa.cI (a:=l) (b:=[111,110,101]) rfl rfl rfl hl (by decide)) ?_;refine Za ?_;refine aQ 0 2 3 4 (Zt ?_);refine Cd.ak rfl (fun h1=> ?_) (fun h1=> ?_)
   ·subst h1
    refine Cd.skip ?_;exact ae.join () ⟨rfl,trivial⟩ ab
   ·skip
    refine aj ?_;refine Zv (aa.cI (a:=l) (b:=[103,105,118,101]) rfl rfl rfl hl (by decide)) ?_;refine Za ?_;refine aQ 0 2 3 4 (Zt ?_);refine Cd.ak rfl (fun h2=> ?_) (fun h2=> ?_)
    ·subst h2
     refine Cd.skip ?_;exact ae.join () ⟨rfl,trivial⟩ ab
    ·skip
     refine aj ?_;refine Zv (aa.cI (a:=l) (b:=[97,110,100]) rfl rfl rfl hl (by decide)) ?_;refine Za ?_;refine aQ 0 2 3 4 (Zt ?_);refine Cd.ak rfl (fun h3=> ?_) (fun h3=> ?_)
     ·subst h3
      refine Cd.skip ?_;exact ae.join () ⟨rfl,trivial⟩ ab
     ·skip
      refine aj ?_;refine Zv (aa.cI (a:=l) (b:=[111,114]) rfl rfl rfl hl (by decide)) ?_;refine Za ?_;refine aQ 0 2 3 4 (Zt ?_);refine Cd.ak rfl (fun h4=> ?_) (fun h4=> ?_)
      ·subst h4
       refine Cd.skip ?_;exact ae.join () ⟨rfl,trivial⟩ ab
      ·skip
       refine aj ?_;refine Zv (aa.cI (a:=l) (b:=[115,99,97,108,101]) rfl rfl rfl hl (by decide)) ?_;refine Za ?_;refine aQ 0 2 3 4 (Zt ?_);refine Cd.ak rfl (fun h5=> ?_) (fun h5=> ?_)
       ·subst h5
        refine Cd.skip ?_;exact ae.join () ⟨rfl,trivial⟩ ab
       ·skip
        refine aj ?_;refine Zv (aa.cI (a:=l) (b:=[119,104,101,110]) rfl rfl rfl hl (by decide)) ?_;refine Za ?_;refine aQ 0 2 3 4 (Zt ?_);refine Cd.ak rfl (fun h6=> ?_) (fun h6=> ?_)
        ·subst h6
         refine Cd.skip ?_;exact ae.join () ⟨rfl,trivial⟩ ab
        ·skip
         refine aj ?_;refine Zv (aa.cI (a:=l) (b:=[117,110,116,105,108]) rfl rfl rfl hl (by decide)) ?_;refine Za ?_;refine aQ 0 2 3 4 (Zt ?_);refine Cd.ak rfl (fun h7=> ?_) (fun h7=> ?_)
         ·subst h7
          refine Cd.skip ?_;exact ae.join () ⟨rfl,trivial⟩ ab
         ·skip
          refine aj ?_;refine Zv (aa.cI (a:=l) (b:=[97,110,121,116,105,109,101]) rfl rfl rfl hl (by decide)) ?_;refine Za ?_;refine aQ 0 2 3 4 (Zt ?_);refine Cd.ak rfl (fun h8=> ?_) (fun h8=> ?_)
          ·subst h8
           refine Cd.skip ?_;exact ae.join () ⟨rfl,trivial⟩ ab
          ·skip
           refine aj ?_;refine Zv (aa.cI (a:=l) (b:=[100,97,121]) rfl rfl rfl hl (by decide)) ?_;refine Za ?_;refine aQ 0 2 3 4 (Zt ?_);refine Cd.ak rfl (fun h9=> ?_) (fun h9=> ?_)
           ·subst h9
            refine Cd.skip ?_;exact ae.join () ⟨rfl,trivial⟩ ab
           ·skip
            refine aj ?_;refine Zv (aa.cI (a:=l) (b:=[109,105,110]) rfl rfl rfl hl (by decide)) ?_;refine Za ?_;refine aQ 0 2 3 4 (Zt ?_);refine Cd.ak rfl (fun h10=> ?_) (fun h10=> ?_)
            ·subst h10
             refine Cd.skip ?_;exact ae.join () ⟨rfl,trivial⟩ ab
            ·skip
             refine aj ?_;refine Zv (aa.cI (a:=l) (b:=[109,97,120]) rfl rfl rfl hl (by decide)) ?_;refine Za ?_;refine aQ 0 2 3 4 (Zt ?_);refine Cd.ak rfl (fun h11=> ?_) (fun h11=> ?_)
             ·subst h11
              refine Cd.skip ?_;exact ae.join () ⟨rfl,trivial⟩ ab
             ·skip
              refine Zr ?_;refine Zv (aa.cI (a:=l) (b:=[105,102]) rfl rfl rfl hl (by decide)) ?_;refine Za ?_;refine aQ 0 2 3 4 ?_;refine ae.join () ⟨congrArg (fun b=>some (Value.bool b)) ?_,trivial⟩ ab;simp[cl,eL,h0,h1,h2,h3,h4,h5,h6,h7,h8,h9,h10,h11]
 clear ab;rintro⟨⟩ wr ab;refine Cd.cond rfl (fun h=> ?_) (fun h=> ?_)
 ·skip
  refine aj ?_;refine Za ?_;refine dF 2 4 (Zt (Cd.ret (ae.ag (ae.af ?_))));refine aZ ?_;rw[h];exact⟨rfl,ab⟩
 ·skip
  refine Cd.skip (ae.ah (aB ?_));refine Za ?_;refine dF 2 4 (Zt (Cd.ret ?_));refine aZ ?_;rw[h];exact⟨rfl,ab⟩
def ir (l:List Nat):Bool:=cS l&& !cl l
theorem vw (l:List Nat)(w:World)(hl:∀d∈l,d<256)(hlen:l.length≤9223372036854775807):Calls Tryz.prog 188 #[.string (strOf l)] w fun e w'=>e= .returned (.bool (ir l))∧Grow w w':=by
 have ab:=Below.refl w.heap.size w;refine Zs 10 Tryz.func188 ?_;refine aj ?_;refine Za ?_;refine dF 0 2 (aB ?_);refine Zm ?_;refine Zc (Ze Tryz.func62) (mi l _ hl hlen) ?_;rintro e w5 ⟨rfl,hb5⟩;refine⟨_,rfl,?_⟩;replace ab:=ab.step hb5;refine Zm ?_;refine aw.start ?_;refine bw (fun hcx=>aa.move rfl rfl) ?_;refine aw.bU rfl rfl rfl rfl rfl rfl rfl (fun hcx=>Ze Tryz.func210) (fun hcx=>nz l _ hl) ?_;intro w1 hw1;replace ab:=ab.step hw1;refine Zn (fun hcx=>aa.not rfl rfl) ?_;refine fQ ?_;refine Za ?_;refine dF 0 2 (Zt (Cd.ret ?_));refine aZ ?_;exact⟨bt (aJ (by unfold ir;cases cS l<;>rfl)),ab⟩
theorem pD (a b:Int)(w:World):Calls Tryz.prog 141 #[.agg #[.int .i64 a, .int .i64 b]] w fun e w'=>e= .returned (.bool (decide (a≤200)&&decide (b≤16)))∧Grow w w':=by
 have ab:=Below.refl w.heap.size w;refine Zs 11 Tryz.func141 ?_;refine aj ?_;refine Seq.box rfl rfl rfl rfl rfl ?_;intro g1 w1 n1;have e1:=Nat.le_trans ab.size n1.ge;replace ab:=ab.step n1.below;have k1:=n1.an;refine Za ?_;refine bn 0 1 2 (aB ?_);refine Zf 0 Tryz.underlying200 ?_;refine ZL Tryz.underlying3 k1 ?_;refine FI ?_;refine Zm ?_;refine aw.start ?_;refine bw (fun hcx=>aa.ar 1 rfl rfl Tryz.underlying200 rfl (by kernel_rfl)) ?_;refine Zn (fun hcx=>aa.au rfl rfl Tryz.underlying3 rfl k1 rfl) ?_;refine Zn (fun hcx=>aa.leq rfl rfl rfl) ?_;refine fQ ?_;refine Za ?_;refine bn 0 1 2 (Zt (Cd.ret ?_));refine aZ ?_;exact⟨bt (aJ (by cases decide (a≤200)<;>rfl)),ab⟩
theorem fp:bW Tryz.prog 200=some (some (.agg #[.int .i64 0, .int .i64 0])):=by kernel_rfl
theorem fo (a b:Int)(w:World):(Instr.build 200 #[(0, .int .i64 a),(1, .int .i64 b)]).run Tryz.prog w= .ok (.agg #[.int .i64 a, .int .i64 b]) w:=by
 have hu:=Tryz.underlying200
 go_simp
def dR (s t:Int × Int):Int × Int:=(min (s.1+t.1) 1000,min (max s.2 (t.2+1)) 1000)
theorem qA (s t:Int × Int)(w:World)(h1:0≤s.1∧s.1≤1000)(h2:0≤s.2∧s.2≤1000)(h3:0≤t.1∧t.1≤1000)(h4:0≤t.2∧t.2≤1000):Calls Tryz.prog 186 #[.agg #[.int .i64 s.1, .int .i64 s.2], .agg #[.int .i64 t.1, .int .i64 t.2]] w fun e w'=>e= .returned (.agg #[.int .i64 (dR s t).1, .int .i64 (dR s t).2])∧Grow w w':=by
 have ab:=Below.refl w.heap.size w;obtain⟨a,b⟩:=s;obtain⟨c,d⟩:=t;simp only at h1 h2 h3 h4;refine Zs 19 Tryz.func186 ?_;refine aj ?_;refine Seq.box rfl rfl rfl rfl rfl ?_;intro g2 w1 n2;have e2:=Nat.le_trans ab.size n2.ge;replace ab:=ab.step n2.below;have k2:=n2.an;refine Seq.box rfl rfl rfl rfl rfl ?_;intro g3 w2 n3;have e3:=Nat.le_trans ab.size n3.ge;have l3:=Nat.lt_of_lt_of_le k2.lt n3.ge;replace ab:=ab.step n3.below;replace k2:=k2.step n3.below;have k3:=n3.an;refine Zl fp ?_;intro g4 w3 n4;have e4:=Nat.le_trans ab.size n4.ge;have l4:=Nat.lt_of_lt_of_le k3.lt n4.ge;have l4_k2:=Nat.lt_of_lt_of_le k2.lt n4.ge;replace ab:=ab.step n4.below;replace k2:=k2.step n4.below;replace k3:=k3.step n4.below;have k4:=n4.an;refine aO 0 1 2 3 4 (aB ?_);refine Zf 0 Tryz.underlying200 ?_;refine ZL Tryz.underlying3 k2 ?_;refine Zf 0 Tryz.underlying200 ?_;refine ZL Tryz.underlying3 k3 ?_;refine cG ?_;refine Zv (aa.min2 rfl rfl rfl) ?_;refine Zf 1 Tryz.underlying200 ?_;refine ZL Tryz.underlying3 k2 ?_;refine Zf 1 Tryz.underlying200 ?_;refine ZL Tryz.underlying3 k3 ?_;refine cG ?_;refine Zv (aa.max2 rfl rfl rfl) ?_;refine Zv (aa.min2 rfl rfl rfl) ?_;refine Zv (aa.build rfl rfl (fo _ _ _)) ?_;refine Zo 2 k4 ?_;intro w4 pw4;replace ab:=ab.put k4 pw4 e4;replace k2:=k2.put pw4 (by omega);replace k3:=k3.put pw4 (by omega);replace k4:=pw4.an;refine aO 0 1 2 3 4 (Zt (Cd.ret ?_));refine gp 2 k4 Tryz.underlying200 ?_;exact⟨rfl,ab⟩
mutual
def A8:Ex→Int × Int
 | .mk _ _ _ l=>BA (1,1) l
def BA (s:Int × Int):List Ex→Int × Int
 | []=>s
 |e::r=>if 1000≤s.1 then(1000,1000) else BA (dR s (A8 e)) r
end
def Sz (s:Int × Int):Prop:=(0≤s.1∧s.1≤1000)∧(0≤s.2∧s.2≤1000)
theorem eN {s t:Int × Int}(h:Sz s)(k:Sz t):Sz (dR s t):=by
 unfold Sz dR at *;simp only;omega
mutual
theorem tt:∀e,Sz (A8 e)
 | .mk op n nm l=>by rw[A8];exact Bs (1,1) ⟨by simp,by simp⟩ l
theorem Bs:∀(s:Int × Int),Sz s→∀l,Sz (BA s l)
 |s,h,[]=>by rw[BA];exact h
 |s,h,e::r=>by
  rw[BA];split
  ·exact⟨by simp,by simp⟩
  ·exact Bs _ (eN h (tt e)) r
end
def x7 (s:Int × Int)(n d:Nat):Prop:=s.1=min (n:Int) 1000∧(n<1000→s.2=(d:Int))
mutual
theorem ye:∀e,x7 (A8 e) e.nodes e.depth
 | .mk op n nm l=>by
  rw[A8,Ex.dQ,Ex.fI];have:=ya (1,1) 1 1 ⟨(by show(1:Int)=min ((1:Nat):Int) 1000;omega),fun _=>rfl⟩ (Nat.le_refl _) (Nat.le_refl _) l
  rwa [show max 1 (1+aW l)=1+aW l by omega] at this
theorem ya:∀(s:Int × Int) (n d:Nat),x7 s n d→1≤d→d≤n→∀l,x7 (BA s l) (n+aK l) (max d (1+aW l))
 |s,n,d,h,h1,h2,[]=>by
  rw[BA,aK,aW,show max d (1+0)=d by omega];exact h
 |s,n,d,h,h1,h2,e::r=>by
  rw[BA,aK,aW];have he:=ye e;have hn:=Ex.bR e;have hr:=dV r;split
  ·obtain⟨a,b⟩:=h
   exact⟨by simp only;omega,fun h=>by omega⟩
  ·have hw:x7 (dR s (A8 e)) (n+e.nodes) (max d (1+e.depth)):=by
    obtain⟨a,b⟩:=h;obtain⟨a',b'⟩:=he;refine⟨by unfold dR;simp only;omega,fun h=> ?_⟩;unfold dR;simp only;rw[b (by omega),b' (by omega)];omega
   have:=ya _ (n+e.nodes) (max d (1+e.depth)) hw (by omega) (by omega) r;rw[show n+(e.nodes+aK r)=n+e.nodes+aK r by omega,show max d (1+max e.depth (aW r))=max (max d (1+e.depth)) (1+aW r) by omega];exact this
end
theorem az:bW Tryz.prog 105=some (some (.agg #[.int .i64 0, .int .i64 0, .string {data:= #[]}, .slice none 0 0])):=by kernel_rfl
mutual
def vu:Ex→Nat→Int × Int
 | .mk _ _ _ l,at_=>uS at_ (1,1) l
def uS (at_:Nat)(s:Int × Int):List Ex→Int × Int
 | []=>s
 |e::r=>if 1000≤at_∨1000≤s.1 then(1000,1000) else uS at_ (dR s (vu e (at_+1))) r
end
theorem ES (e:Ex)(at_:Nat):vu e at_=uS at_ (1,1) e.args:=by cases e;rw[vu];rfl
theorem vg (at_:Nat)(s:Int × Int)(e:Ex)(r:List Ex):uS at_ s (e::r)=if 1000≤at_∨1000≤s.1 then(1000,1000) else uS at_ (dR s (vu e (at_+1))) r:=by rw[uS]
theorem x8 (at_:Nat)(s:Int × Int):uS at_ s []=s:=by rw[uS]
theorem od {s:Int × Int}(h:Sz s):dR s (1000,1000)=(1000,1000):=by
 unfold Sz at h;unfold dR;simp only[Prod.mk.injEq];omega
theorem DK (at_:Nat)(l:List Ex):uS at_ (1000,1000) l=(1000,1000):=by
 cases l with
 |nil=>rw[x8]
 |cons e r=>rw[vg,if_pos (.inr (by decide))]
mutual
theorem qa:∀(e:Ex) (at_:Nat),Sz (vu e at_)
 | .mk op n nm l,at_=>by rw[vu];exact CL at_ (1,1) ⟨by simp,by simp⟩ l
theorem CL:∀(at_:Nat) (s:Int × Int),Sz s→∀l,Sz (uS at_ s l)
 |at_,s,h,[]=>by rw[uS];exact h
 |at_,s,h,e::r=>by
  rw[uS];split
  ·exact⟨by simp,by simp⟩
  ·exact CL at_ _ (eN h (qa e (at_+1))) r
end
mutual
theorem BK:∀(e:Ex) (at_:Nat),vu e at_=A8 e∨(vu e at_=(1000,1000)∧1002≤e.depth+at_)
 | .mk op n nm l,at_=>by
  rw[vu,A8,Ex.fI];rcases Bo at_ (1,1) ⟨by simp,by simp⟩ l with h|⟨h1,h2⟩
  ·exact .inl h
  ·exact .inr ⟨h1,by omega⟩
theorem Bo:∀(at_:Nat) (s:Int × Int),Sz s→∀l,uS at_ s l=BA s l∨(uS at_ s l=(1000,1000)∧1001≤aW l+at_)
 |at_,s,h,[]=>by rw[uS,BA];exact .inl rfl
 |at_,s,h,e::r=>by
  rw[uS,BA,aW];have hd:0<e.depth:=by cases e;rw[Ex.fI];omega
  by_cases h1:1000≤s.1
  ·rw[if_pos (.inr h1),if_pos h1];exact .inl rfl
  ·by_cases h2:1000≤at_
   ·rw[if_pos (.inl h2)];exact .inr ⟨rfl,by omega⟩
   ·rw[if_neg (by omega),if_neg h1]
    rcases BK e (at_+1) with h3|⟨h3,h4⟩
    ·rw[h3]
     rcases Bo at_ (dR s (A8 e)) (eN h (tt e)) r with h5|⟨h5,h6⟩
     ·exact .inl h5
     ·exact .inr ⟨h5,by omega⟩
    ·rw[h3,od h,DK]
     exact .inr ⟨rfl,by omega⟩
end
theorem tu (N:Nat):∀(e:Ex) (at_:Nat) (B:Nat) (v:Value) (w:World),e.nodes≤N→at_≤1001→rE w B e v→B≤w.heap.size→Calls Tryz.prog 179 #[v, .int .i64 (at_:Int)] w fun en w'=>en= .returned (.agg #[.int .i64 (vu e at_).1, .int .i64 (vu e at_).2])∧Grow w w':=by
 induction N with
 |zero=>intro e at_ B v w hN;have:=e.cR;omega
 |succ N ih=>
 intro e at_ B v w hN hdep hrep hB;obtain⟨A,c,rfl,hv⟩:=hrep.open;have ab:=Below.refl w.heap.size w;have hdp:0<e.depth:=by cases e;rw[Ex.fI];omega
 have kO:=hv.kO;refine Zs 32 Tryz.func179 ?_;refine aj ?_;refine Seq.box rfl rfl rfl rfl rfl ?_;intro g2 w1 n2;have e2:=Nat.le_trans ab.size n2.ge;replace ab:=ab.step n2.below;have k2:=n2.an;refine Zl fp ?_;intro g4 w2 n4;have e4:=Nat.le_trans ab.size n4.ge;have l4:=Nat.lt_of_lt_of_le k2.lt n4.ge;replace ab:=ab.step n4.below;replace k2:=k2.step n4.below;have k4:=n4.an;refine aQ 0 1 2 4 (aB ?_);refine Zv (aa.build rfl rfl (fo _ _ _)) ?_;refine Zl fp ?_;intro g5 w3 n5;have e5:=Nat.le_trans ab.size n5.ge;have l5:=Nat.lt_of_lt_of_le k4.lt n5.ge;have l5_k2:=Nat.lt_of_lt_of_le k2.lt n5.ge;replace ab:=ab.step n5.below;replace k2:=k2.step n5.below;replace k4:=k4.step n5.below;have k5:=n5.an;refine Zo 2 k5 ?_;intro w4 pw4;replace ab:=ab.put k5 pw4 e5;replace k2:=k2.put pw4 (by omega);replace k4:=k4.put pw4 (by omega);replace k5:=pw4.an;refine aO 0 1 2 4 5 (aI (aj ?_));refine Zf 3 Tryz.underlying105 ?_;refine ZL Tryz.underlying68 k2 ?_;refine Zv (aa.len rfl rfl Tryz.underlying68) ?_;refine Zm ?_;refine cB 0 1 2 4 5 10 11 12 (Zt (Cd.block ?_))
 refine Cd.loop (σ:=Nat × (Int × Int)) (fun s=>[(1, .int .i64 (at_:Int)),(4, .pointer (some ⟨g4,0,none⟩)),(5, .pointer (some ⟨g5,0,none⟩)),(10, .slice A e.args.length c),(11, .int .i64 (e.args.length:Int)),(12, .int .i64 (s.1:Int))])
  (fun s wr=>s.1≤e.args.length∧Sz s.2∧uS at_ s.2 (e.args.drop s.1)=vu e at_∧Below w.heap.size w wr∧aH wr g4 200 #[.int .i64 0, .int .i64 0]∧aH wr g5 200 #[.int .i64 s.2.1, .int .i64 s.2.2]) (fun s=>e.args.length-s.1) (0,(1,1)) ⟨Nat.zero_le _,⟨by simp,by simp⟩,by rw[ES];rfl,ab,k4,k5⟩ ⟨rfl,rfl,rfl,rfl,rfl,rfl,trivial⟩ ?_
 clear ab k2 k4 k5;rintro⟨k,s⟩ wr ⟨hk,hs,hsz,ab,k4,k5⟩;simp only at hk hs hsz k5;show Cd _ _ _ _ [(1, .int .i64 (at_:Int)),(4, .pointer (some ⟨g4,0,none⟩)),(5, .pointer (some ⟨g5,0,none⟩)),(10, .slice A e.args.length c),(11, .int .i64 (e.args.length:Int)),(12, .int .i64 (k:Int))] _;refine aj ?_;refine eI ?_;refine ba 1 4 5 10 11 12 13 (aI ?_);refine Cd.ak rfl (fun hc=> ?_) (fun hc=> ?_)
 ·obtain⟨x,hx⟩:∃x,e.args[k]? =some x:=⟨_,List.getElem?_eq_getElem (show k<e.args.length by omega)⟩
  obtain⟨ad,A',c',rfl,hbl,hrx,hc⟩:=hv.arg k x hx;have hxm:=List.mem_of_getElem? hx;have hxn:=Ex.gL hxm;have hxd:=Ex.sK hxm;have hc:=fun j u hj=>((ab.mono hB).cell (p:=(ad.add (k*4)).add j) (by rw[av,av];exact hbl)).trans (hc j u hj)
  have hdrop:e.args.drop k=x::e.args.drop (k+1):=by
   rw[List.drop_eq_getElem_cons (show k<e.args.length by omega)];congr 1;obtain⟨_,he⟩:=List.getElem?_eq_some_iff.1 hx;exact he
  rw[hdrop,vg] at hsz;refine Cd.skip (aI (Cd.block (aj ?_)));refine Zv (aa.bI rfl rfl rfl Tryz.underlying68 (s:=4) (by kernel_rfl) (j:=k) rfl (by omega)) ?_;refine Zv (aa.ep (ps:=[.int .i64 x.op, .int .i64 x.n, .string (strOf x.name), .slice A' x.args.length c']) rfl rfl Tryz.underlying105 rfl (m:=4) (by kernel_rfl) rfl hc) ?_;refine Zl az ?_;intro g7 w5 n7;have e7:=Nat.le_trans ab.size n7.ge;have l7:=Nat.lt_of_lt_of_le k5.lt n7.ge;have l7_k4:=Nat.lt_of_lt_of_le k4.lt n7.ge;replace ab:=ab.step n7.below;replace k4:=k4.step n7.below;replace k5:=k5.step n7.below;have k7:=n7.an;refine Zo 4 k7 ?_;intro w6 pw6;replace ab:=ab.put k7 pw6 e7;replace k4:=k4.put pw6 (by omega);replace k5:=k5.put pw6 (by omega);replace k7:=pw6.an;refine cB 1 4 5 7 10 11 12 13 (aI (aj ?_));refine Zm ?_;refine kZ ?_;refine Zm ?_;refine aw.start ?_;refine bw (fun hcx=>aa.ar 0 rfl rfl Tryz.underlying200 rfl (by kernel_rfl)) ?_;refine Zn (fun hcx=>aa.au rfl rfl Tryz.underlying3 rfl k5 rfl) ?_;refine Zn (fun hcx=>aa.geq rfl rfl rfl) ?_;refine fg ?_;refine dY 1 4 5 7 10 11 12 13 22 (Zt ?_);refine Cd.cond rfl (fun h=> ?_) (fun h=> ?_)
  ·simp at h
   rw[if_pos (by omega)] at hsz;refine aj ?_;refine Zv (aa.build rfl rfl (fo _ _ _)) ?_;refine Zo 2 k4 ?_;intro w7 pw7;replace ab:=ab.put k4 pw7 e4;replace k5:=k5.put pw7 (by omega);replace k7:=k7.put pw7 (by omega);replace k4:=pw7.an;refine dY 1 4 5 7 10 11 12 13 22 (Zt (Cd.ret (ae.af (ae.ag (ae.af (ae.aX (ae.ag (ae.af ?_))))))));refine gp 2 k4 Tryz.underlying200 ?_;rw[←hsz];exact⟨rfl,ab⟩
  ·simp at h
   rw[if_neg (by omega)] at hsz;have hat:at_+1≤1001:=by omega
   have hrec:=fun W (hb:Below w.heap.size w W)=>ih x (at_+1) B _ W (by omega) hat (hrx.below (hb.mono hB)) (Nat.le_trans hB hb.size);have hxs:=qa x (at_+1);have hws:=eN hs hxs;refine Cd.skip (Zt ?_);refine ff 6 ?_;intro w7 hw7 zw7;replace ab:=ab.step hw7;replace k4:=k4.step hw7;replace k5:=k5.step hw7;replace k7:=k7.step hw7;have zbel:=ab.size;have zlt:=k7.lt;refine Zd (fun w hG=>aa.eK rfl rfl Tryz.underlying200 rfl (k5.step hG) (m:=2) (by kernel_rfl) rfl) ?_;refine Zd (fun w hG=>aa.eK rfl rfl Tryz.underlying105 rfl (k7.step hG) (m:=4) (by kernel_rfl) rfl) ?_;refine cf ?_;refine Zd (fun w hG=>aa.kA rfl rfl rfl (by omega) (by omega)) ?_;refine Dr.cJ rfl (fun w=>Ze Tryz.func179) rfl (fun w hG=>hrec w (ab.step hG)) ?_;refine Dr.cJ rfl (fun w=>Ze Tryz.func186) rfl (fun w hG=>qA s (vu x (at_+1)) w hs.1 hs.2 hxs.1 hxs.2) ?_;refine Dr.nil ?_;refine bb.done (F':=[(1,_),(4,_),(5,_),(7,_),(10,_),(11,_),(12,_),(13,_),(22,_),(29,_)]) rfl ⟨rfl,rfl,rfl,rfl,rfl,rfl,rfl,rfl,rfl,rfl,trivial⟩ ?_;intro w8 hw8 fw8;replace ab:=ab.step hw8;replace k4:=k4.step hw8;replace k5:=k5.step hw8;replace k7:=k7.step hw8;refine Zo 2 k5 ?_;intro w9 pw9;replace ab:=ab.put k5 pw9 e5;replace k4:=k4.put pw9 (by omega);replace k5:=pw9.an;refine dY 1 4 5 7 10 11 12 13 22 (ae.ah (eh ?_));refine cG ?_;refine Zm ?_;refine dY 1 4 5 7 10 11 12 13 22 ?_;exact ae.round (k+1,dR s (vu x (at_+1))) ⟨rfl,rfl,rfl,rfl,rfl,rfl,trivial⟩ ⟨by simp only;omega,hws,hsz,ab,k4,k5⟩ (by simp only;omega)
 ·obtain rfl:k=e.args.length:=by omega
  rw[List.drop_of_length_le (Nat.le_refl _),x8] at hsz;refine Cd.exit (ae.aC (ae.aA (ae.ay (aB ?_))));refine ZW 2 Tryz.underlying200 k5 ?_;refine Zo 2 k4 ?_;intro w5 pw5;replace ab:=ab.put k4 pw5 e4;replace k5:=k5.put pw5 (by omega);replace k4:=pw5.an;refine ba 1 4 5 10 11 12 13 (Zt (Cd.ret ?_));refine gp 2 k4 Tryz.underlying200 ?_;rw[←hsz];exact⟨rfl,ab⟩
def uq {α:Type}(p:α→Bool)(l:List α):Int:=match l.findIdx? p with|some i=>(i:Int)|none=> -1
theorem sO {α:Type}{p:α→Bool}{l:List α}{i:Nat}{x:α}(h:l[i]? =some x)(hp:p x=true)(hb:∀y∈l.take i,p y=false):uq p l=(i:Int):=by
 unfold uq
 have:l.findIdx? p=some i:=by
  rw[List.findIdx?_eq_some_iff_getElem];obtain⟨hi,he⟩:=List.getElem?_eq_some_iff.1 h;refine⟨hi,by rw[he];exact hp,fun j hj=> ?_⟩;have:=hb (l[j]) (by rw[List.mem_take_iff_getElem];exact⟨j,by omega,rfl⟩);rw[this];simp
 rw[this]
theorem se {α:Type}{p:α→Bool}{l:List α}(hb:∀y∈l,p y=false):uq p l= -1:=by
 unfold uq;have:l.findIdx? p=none:=by rw[List.findIdx?_eq_none_iff];exact hb
 rw[this]
theorem uy {α:Type}(p:α→Bool)(l:List α):decide (0≤uq p l)=l.any p:=by
 unfold uq
 cases h:l.findIdx? p with
 |none=>
  rw[List.findIdx?_eq_none_iff] at h;have:l.any p=false:=by rw[List.any_eq_false];exact fun x hx=>by rw[h x hx];simp
  rw[this];rfl
 |some i=>
  obtain⟨hi,he,-⟩:=List.findIdx?_eq_some_iff_getElem.1 h;have:l.any p=true:=by rw[List.any_eq_true];exact⟨_,List.getElem_mem hi,he⟩
  rw[this];simp
theorem wA (g:Nat)(cp:List Value)(p:Ex→Bool)(B:Nat)(A:Option Addr)(c:Nat)(e:Ex)(w:World)(hv:wK w B e A c)(hB:B≤w.heap.size)
  (eg:∀args w,(callFunc g args).run Tryz.prog w= .ok (.enter g args) w) (hp:∀x∈e.args,∀v W,Below w.heap.size w W→rE W B x v→Calls Tryz.prog g ([]++[v]++cp).toArray W fun en w'=>en= .returned (.bool (p x))∧Grow W w'):
  Calls Tryz.prog 146 #[.slice A e.args.length c, .func (.func g) #[] cp.toArray] w fun en w'=>en= .returned (.int .i64 (uq p e.args))∧Grow w w':=by
 have ab:=Below.refl w.heap.size w;have kO:=hv.kO;obtain⟨n,hn⟩:∃n,n=e.args.length:=⟨_,rfl⟩;rw[←hn] at kO⊢;refine Zs 19 Tryz.func146 ?_;refine aj ?_;refine Za ?_;refine bn 0 1 4 (aI (aj ?_));refine Zm ?_;refine Zv (aa.len rfl rfl Tryz.underlying68) ?_;refine Zm ?_;refine aO 0 1 4 7 8 (Zt (Cd.block ?_))
 refine Cd.loop (σ:=Nat) (fun k=>[(0, .slice A n c),(1, .func (.func g) #[] cp.toArray),(7, .int .i64 (n:Int)),(8, .int .i64 (k:Int))])
  (fun k wr=>k≤n∧(∀y∈e.args.take k,p y=false)∧Below w.heap.size w wr) (fun k=>n-k) 0 ⟨Nat.zero_le _,by simp,ab⟩ ⟨rfl,rfl,rfl,rfl,trivial⟩ ?_
 clear ab;rintro k wr ⟨hk,hno,ab⟩;refine aj ?_;refine eI ?_;refine aO 0 1 7 8 9 (aI ?_);refine Cd.ak rfl (fun hc=> ?_) (fun hc=> ?_)
 ·obtain⟨x,hx⟩:∃x,e.args[k]? =some x:=⟨_,List.getElem?_eq_getElem (show k<e.args.length by omega)⟩
  obtain⟨ad,A',c',rfl,hbl,hrx,hc⟩:=hv.arg k x hx;have hc:=fun j u hj=>((ab.mono hB).cell (p:=(ad.add (k*4)).add j) (by rw[av,av];exact hbl)).trans (hc j u hj);have htk:e.args.take (k+1)=e.args.take k++[x]:=by rw[List.take_add_one,hx];rfl
  refine Cd.skip (aI (Cd.block (aj ?_)));refine Zm ?_;refine Za ?_;refine aY 0 1 5 7 8 9 (aB ?_);refine Zm ?_;refine Zm ?_;refine Zm ?_;refine Zv (aa.bI rfl rfl rfl Tryz.underlying68 (s:=4) (by kernel_rfl) (j:=k) rfl (by omega)) ?_;refine Zv (aa.ep (ps:=[.int .i64 x.op, .int .i64 x.n, .string (strOf x.name), .slice A' x.args.length c']) rfl rfl Tryz.underlying105 rfl (m:=4) (by kernel_rfl) rfl hc) ?_;refine Seq.call (Enters.value (first:=[]) (cap:=cp) rfl rfl rfl eg) rfl rfl rfl (hp x (List.mem_of_getElem? hx) _ _ ab (hrx.below (ab.mono hB))) ?_;rintro en w5 ⟨rfl,hb5⟩;refine⟨_,rfl,?_⟩;replace ab:=ab.step hb5;refine ba 0 1 5 7 8 9 16 (Zt ?_);refine Cd.cond rfl (fun h=> ?_) (fun h=> ?_)
  ·skip
   refine aj ?_;refine Zm ?_;refine Za ?_;refine cB 0 1 4 5 7 8 9 16 (Zt (Cd.ret (ae.ag (ae.af (ae.aX (ae.ag (ae.af ?_)))))));refine aZ ?_;exact⟨bt (int_eq (sO hx h hno).symm),ab⟩
  ·skip
   refine Cd.skip (ae.ah (eh ?_));refine cG ?_;refine Zm ?_;refine ba 0 1 5 7 8 9 16 ?_;refine ae.round (k+1) ⟨rfl,rfl,rfl,rfl,trivial⟩ ⟨by omega,fun y hy=> ?_,ab⟩ (by omega);rw[htk] at hy;rcases List.mem_append.1 hy with hy|hy
   ·exact hno y hy
   ·simp at hy;subst hy;exact h
 ·obtain rfl:k=n:=by omega
  rw[List.take_of_length_le (by omega)] at hno;refine Cd.exit (ae.aC (ae.aA (ae.ay (aB ?_))));refine Za ?_;refine aY 0 1 4 7 8 9 (Zt (Cd.ret ?_));refine aZ ?_;exact⟨bt (int_eq (se hno).symm),ab⟩
theorem mM (g:Nat)(cp:List Value)(p:Ex→Bool)(B:Nat)(A:Option Addr)(c:Nat)(e:Ex)(w:World)(hv:wK w B e A c)(hB:B≤w.heap.size)
  (eg:∀args w,(callFunc g args).run Tryz.prog w= .ok (.enter g args) w) (hp:∀x∈e.args,∀v W,Below w.heap.size w W→rE W B x v→Calls Tryz.prog g ([]++[v]++cp).toArray W fun en w'=>en= .returned (.bool (p x))∧Grow W w'):
  Calls Tryz.prog 107 #[.slice A e.args.length c, .func (.func g) #[] cp.toArray] w fun en w'=>en= .returned (.bool (e.args.any p))∧Grow w w':=by
 have ab:=Below.refl w.heap.size w;have hc:=fun W (hb:Below w.heap.size w W)=>wA g cp p B A c e W (hv.below (hb.mono hB)) (Nat.le_trans hB hb.size) eg (fun x hx v W2 hb2 hr=>hp x hx v W2 (hb.trans (hb2.mono hb.size)) hr);have hany:=uy p e.args;obtain⟨n,hn⟩:∃n,n=e.args.length:=⟨_,rfl⟩;rw[←hn] at hc⊢;refine Zs 9 Tryz.func107 ?_;refine aj ?_;refine Za ?_;refine bn 0 1 4 (aB ?_);refine Zm ?_;refine Zm ?_;refine Zc (Ze Tryz.func146) (hc _ ab) ?_;rintro en w5 ⟨rfl,hb5⟩;refine⟨_,rfl,?_⟩;replace ab:=ab.step hb5;refine kZ ?_;refine Za ?_;refine bn 0 1 4 (Zt (Cd.ret ?_));refine aZ ?_;exact⟨bt (aJ hany),ab⟩
def gH (op n:Int)(nm:List Nat)(k:Nat):Bool:=decide (eU op=(k:Int))&& !(decide (n≠0)&&decide (op≠1)&&decide (op≠2))&& !(decide (nm≠ [])&&decide (op≠3))&& !decide (n<0)&& !(decide (op=2)&&decide (2932896<n))&& !(decide (op=3)&& !ir nm)
mutual
def bE:Ex→Bool
 | .mk op n nm l=>gH op n nm l.length&&qR l
def qR:List Ex→Bool
 | []=>true
 |e::r=>bE e&&qR r
end
theorem rb:∀l,qR l=l.all bE
 | []=>by rw[qR];rfl
 |e::r=>by rw[qR,rb r];rfl
theorem oE (e:Ex):bE e=(gH e.op e.n e.name e.args.length&&e.args.all bE):=by
 cases e;rw[bE,rb];rfl
theorem Aw:∀args w,(callFunc 215 args).run Tryz.prog w= .ok (.enter 215 args) w:=fun args w=>bG Tryz.func215 (by kernel_rfl) rfl args w
theorem oW {op n:Int}{nm:List Nat}{k:Nat}(h:¬(eU op=(k:Int)∧(n=0∨op=1∨op=2)∧(nm=[]∨op=3)∧0≤n∧(op=2→n≤2932896)∧(op=3→ir nm=true))):gH op n nm k=false:=by
 cases hh:gH op n nm k with
 |false=>rfl
 |true=>
  exfalso;apply h;unfold gH at hh;simp at hh;obtain⟨⟨⟨⟨⟨h1,h2⟩,h3⟩,h4⟩,h5⟩,h6⟩:=hh
  exact⟨h1,by omega,h3,h4,by omega,fun h=>by
   rcases h6 with a|a
   ·exact absurd h a
   ·exact a⟩
theorem wy {op n:Int}{nm:List Nat}{k:Nat}(h1:eU op=(k:Int))(h2:n=0∨op=1∨op=2)(h3:nm=[]∨op=3)(h4:0≤n)(h5:op=2→n≤2932896)(h6:op=3→ir nm=true):gH op n nm k=true:=by
 unfold gH;simp;refine⟨⟨⟨⟨⟨h1,by omega⟩,h3⟩,h4⟩,by omega⟩,?_⟩
 by_cases a:op=3
 ·exact .inr (h6 a)
 ·exact .inl a
theorem rQ (N:Nat):∀(e:Ex) (B:Nat) (v:Value) (w:World),e.nodes≤N→rE w B e v→B≤w.heap.size→Calls Tryz.prog 180 #[v] w fun en w'=>en= .returned (.bool (bE e))∧Grow w w':=by
 induction N with
 |zero=>intro e B v w hN;have:=e.cR;omega
 |succ N ih=>
 intro e B v w hN hrep hB;obtain⟨A,c,rfl,hv⟩:=hrep.open;have ab:=Below.refl w.heap.size w;have HB1:=hv.name;have HB2:∀d∈([]:List Nat),d<256:=by simp
 have hnl:=hv.Bp;have kO:=hv.kO;have hn1:=hv.n.1;have hn2:=hv.n.2;have hbt:=oE e
 have hcl:=fun W (hb:Below w.heap.size w W)=>mM 215 [] (fun x=> !bE x) B A c e W (hv.below (hb.mono hB)) (Nat.le_trans hB hb.size) Aw (fun x hx v W2 hb2 hr=>by
  have hxn:=Ex.gL hx;have hrec:=ih x B v;have hs2:=Nat.le_trans hB (Nat.le_trans hb.size hb2.size);obtain⟨Ax,cx,rfl,-⟩:=hr.open;have ab:=Below.refl W2.heap.size W2;have hrec:=fun W3 (hb3:Below W2.heap.size W2 W3)=>hrec W3 (by omega) (hr.below (hb3.mono hs2)) (Nat.le_trans hs2 hb3.size)
  generalize bE x=q at *
  refine Zs 6 Tryz.func215 ?_;refine aj ?_;refine Seq.box rfl rfl rfl rfl rfl ?_;intro g1 w1 n1;have e1:=Nat.le_trans ab.size n1.ge;replace ab:=ab.step n1.below;have k1:=n1.an;refine Za ?_;refine bn 0 1 2 (aB ?_);refine ZW 4 Tryz.underlying105 k1 ?_;refine Zc (Ze Tryz.func180) (hrec _ ab) ?_;rintro en w5 ⟨rfl,hb5⟩;refine⟨_,rfl,?_⟩;replace ab:=ab.step hb5;replace k1:=k1.step hb5;refine mD ?_;refine Za ?_;refine bn 0 1 2 (Zt (Cd.ret ?_));refine aZ ?_;exact⟨rfl,ab⟩)
 obtain⟨op,hop⟩:∃op,op=e.op:=⟨_,rfl⟩;obtain⟨n,hn⟩:∃n,n=e.n:=⟨_,rfl⟩;obtain⟨nm,hnm⟩:∃nm,nm=e.name:=⟨_,rfl⟩;obtain⟨k,hk⟩:∃k,k=e.args.length:=⟨_,rfl⟩;rw[←hop,←hn,←hnm,←hk] at hbt;rw[←hnm] at HB1 hnl;rw[←hn] at hn1 hn2;rw[←hk] at kO hcl;rw[←hop,←hn,←hnm,←hk];have hbf:∀_:¬(eU op=(k:Int)∧(n=0∨op=1∨op=2)∧(nm=[]∨op=3)∧0≤n∧(op=2→n≤2932896)∧(op=3→ir nm=true)),bE e=false:=fun h=>by rw[hbt,oW h];rfl
 generalize bE e=b at *
 refine Zs 60 Tryz.func180 ?_;refine aj ?_;refine Seq.box rfl rfl rfl rfl rfl ?_;intro g1 w1 n1;have e1:=Nat.le_trans ab.size n1.ge;replace ab:=ab.step n1.below;have k1:=n1.an;refine Za ?_;refine bn 0 1 2 (Zt ?_);refine Cd.lB (σ:=Unit) (fun _=>[(1, .pointer (some ⟨g1,0,none⟩))]) (fun _ wr=>(eU op=(k:Int)∧(n=0∨op=1∨op=2)∧(nm=[]∨op=3))∧Below w.heap.size w wr∧aH wr g1 105 #[.int .i64 op, .int .i64 n, .string (strOf nm), .slice A k c]) ?_ ?_
 ·skip
  by_cases h1:eU op=(k:Int)
  ·by_cases h2:n=0
   ·skip
    by_cases h5:nm=[]
    ·skip
     refine Cd.seq ?_;refine ff 32 ?_;intro w2 hw2 zw2;replace ab:=ab.step hw2;replace k1:=k1.step hw2;have zbel:=ab.size;have zlt:=k1.lt;refine Dr.val Grow.refl rfl (fun w hG=>aa.ar 0 rfl rfl Tryz.underlying105 rfl (by kernel_rfl)) rfl ?_;refine Dr.val Grow.refl rfl (fun w hG=>aa.au rfl rfl Tryz.underlying3 rfl (k1.step hG) rfl) rfl ?_;refine Dr.cJ rfl (fun w=>Ze Tryz.func214) rfl (fun w hG=>ew op w) ?_;refine Dr.val Grow.refl rfl (fun w hG=>aa.ar 3 rfl rfl Tryz.underlying105 rfl (by kernel_rfl)) rfl ?_;refine Dr.val Grow.refl rfl (fun w hG=>aa.au rfl rfl Tryz.underlying68 rfl (k1.step hG) rfl) rfl ?_;refine Dr.val Grow.refl rfl (fun w hG=>aa.len rfl rfl Tryz.underlying68) rfl ?_;refine Dr.val Grow.refl rfl (fun w hG=>(aa.cW rfl rfl rfl).iC (by omega)) rfl ?_;refine Dr.val Grow.refl rfl (fun w hG=>aa.move rfl rfl) rfl ?_;refine Dr.aE Grow.refl rfl (fun w hG=>aa.ar 1 rfl rfl Tryz.underlying105 rfl (by kernel_rfl)) rfl rfl rfl ?_;refine Dr.aE Grow.refl rfl (fun w hG=>aa.au rfl rfl Tryz.underlying2 rfl (k1.step hG) rfl) rfl rfl rfl ?_;refine Dr.aE Grow.refl rfl (fun w hG=>(aa.cW rfl rfl rfl).iC (by omega)) rfl rfl rfl ?_;refine Dr.aE Grow.refl rfl (fun w hG=>aa.move rfl rfl) rfl rfl rfl ?_;refine Dr.skip rfl rfl rfl rfl rfl ?_;refine Dr.skip rfl rfl rfl rfl rfl ?_;refine Dr.skip rfl rfl rfl rfl rfl ?_;refine Dr.aE Grow.refl rfl (fun w hG=>aa.bq rfl rfl rfl) rfl rfl rfl ?_;refine Dr.aE Grow.refl rfl (fun w hG=>aa.move rfl rfl) rfl rfl rfl ?_;refine Dr.skip rfl rfl rfl rfl rfl ?_;refine Dr.skip rfl rfl rfl rfl rfl ?_;refine Dr.skip rfl rfl rfl rfl rfl ?_;refine Dr.aE Grow.refl rfl (fun w hG=>aa.bq rfl rfl rfl) rfl rfl rfl ?_;refine Dr.val Grow.refl rfl (fun w hG=>aa.bq rfl rfl rfl) rfl ?_;refine Dr.val Grow.refl rfl (fun w hG=>aa.move rfl rfl) rfl ?_;refine Dr.aE Grow.refl rfl (fun w hG=>aa.ar 2 rfl rfl Tryz.underlying105 rfl (by kernel_rfl)) rfl rfl rfl ?_;refine Dr.aE Grow.refl rfl (fun w hG=>aa.au rfl rfl Tryz.underlying9 rfl (k1.step hG) rfl) rfl rfl rfl ?_;refine Dr.aE Grow.refl rfl (fun w hG=>(aa.fT (b:=[]) rfl rfl rfl HB1 HB2).iC (by simp[h5])) rfl rfl rfl ?_;refine Dr.aE Grow.refl rfl (fun w hG=>aa.move rfl rfl) rfl rfl rfl ?_;refine Dr.skip rfl rfl rfl rfl rfl ?_;refine Dr.skip rfl rfl rfl rfl rfl ?_;refine Dr.skip rfl rfl rfl rfl rfl ?_;refine Dr.aE Grow.refl rfl (fun w hG=>aa.bq rfl rfl rfl) rfl rfl rfl ?_;refine Dr.val Grow.refl rfl (fun w hG=>aa.bq rfl rfl rfl) rfl ?_;refine Dr.nil ?_;refine bb.done (F':=[(0,_),(1,_),(2,_),(34,_)]) rfl ⟨rfl,rfl,rfl,rfl,trivial⟩ ?_;intro w3 hw3 fw3;replace ab:=ab.step hw3;replace k1:=k1.step hw3;refine aQ 0 1 2 34 (Zt ?_);refine Cd.aM rfl rfl ?_;refine Cd.skip ?_;exact ae.join () ⟨rfl,trivial⟩ ⟨⟨h1, .inl h2, .inl h5⟩,ab,k1⟩
    ·by_cases h6:op=3
     ·skip
      refine Cd.seq ?_;refine ff 32 ?_;intro w2 hw2 zw2;replace ab:=ab.step hw2;replace k1:=k1.step hw2;have zbel:=ab.size;have zlt:=k1.lt;refine Dr.val Grow.refl rfl (fun w hG=>aa.ar 0 rfl rfl Tryz.underlying105 rfl (by kernel_rfl)) rfl ?_;refine Dr.val Grow.refl rfl (fun w hG=>aa.au rfl rfl Tryz.underlying3 rfl (k1.step hG) rfl) rfl ?_;refine Dr.cJ rfl (fun w=>Ze Tryz.func214) rfl (fun w hG=>ew op w) ?_;refine Dr.val Grow.refl rfl (fun w hG=>aa.ar 3 rfl rfl Tryz.underlying105 rfl (by kernel_rfl)) rfl ?_;refine Dr.val Grow.refl rfl (fun w hG=>aa.au rfl rfl Tryz.underlying68 rfl (k1.step hG) rfl) rfl ?_;refine Dr.val Grow.refl rfl (fun w hG=>aa.len rfl rfl Tryz.underlying68) rfl ?_;refine Dr.val Grow.refl rfl (fun w hG=>(aa.cW rfl rfl rfl).iC (by omega)) rfl ?_;refine Dr.val Grow.refl rfl (fun w hG=>aa.move rfl rfl) rfl ?_;refine Dr.aE Grow.refl rfl (fun w hG=>aa.ar 1 rfl rfl Tryz.underlying105 rfl (by kernel_rfl)) rfl rfl rfl ?_;refine Dr.aE Grow.refl rfl (fun w hG=>aa.au rfl rfl Tryz.underlying2 rfl (k1.step hG) rfl) rfl rfl rfl ?_;refine Dr.aE Grow.refl rfl (fun w hG=>(aa.cW rfl rfl rfl).iC (by omega)) rfl rfl rfl ?_;refine Dr.aE Grow.refl rfl (fun w hG=>aa.move rfl rfl) rfl rfl rfl ?_;refine Dr.skip rfl rfl rfl rfl rfl ?_;refine Dr.skip rfl rfl rfl rfl rfl ?_;refine Dr.skip rfl rfl rfl rfl rfl ?_;refine Dr.aE Grow.refl rfl (fun w hG=>aa.bq rfl rfl rfl) rfl rfl rfl ?_;refine Dr.aE Grow.refl rfl (fun w hG=>aa.move rfl rfl) rfl rfl rfl ?_;refine Dr.skip rfl rfl rfl rfl rfl ?_;refine Dr.skip rfl rfl rfl rfl rfl ?_;refine Dr.skip rfl rfl rfl rfl rfl ?_;refine Dr.aE Grow.refl rfl (fun w hG=>aa.bq rfl rfl rfl) rfl rfl rfl ?_;refine Dr.val Grow.refl rfl (fun w hG=>aa.bq rfl rfl rfl) rfl ?_;refine Dr.val Grow.refl rfl (fun w hG=>aa.move rfl rfl) rfl ?_;refine Dr.aE Grow.refl rfl (fun w hG=>aa.ar 2 rfl rfl Tryz.underlying105 rfl (by kernel_rfl)) rfl rfl rfl ?_;refine Dr.aE Grow.refl rfl (fun w hG=>aa.au rfl rfl Tryz.underlying9 rfl (k1.step hG) rfl) rfl rfl rfl ?_;refine Dr.aE Grow.refl rfl (fun w hG=>(aa.fT (b:=[]) rfl rfl rfl HB1 HB2).lK (h5)) rfl rfl rfl ?_;refine Dr.aE Grow.refl rfl (fun w hG=>aa.move rfl rfl) rfl rfl rfl ?_;refine Dr.aE Grow.refl rfl (fun w hG=>aa.ar 0 rfl rfl Tryz.underlying105 rfl (by kernel_rfl)) rfl rfl rfl ?_;refine Dr.aE Grow.refl rfl (fun w hG=>aa.au rfl rfl Tryz.underlying3 rfl (k1.step hG) rfl) rfl rfl rfl ?_;refine Dr.aE Grow.refl rfl (fun w hG=>(aa.cW rfl rfl rfl).iC (by omega)) rfl rfl rfl ?_;refine Dr.aE Grow.refl rfl (fun w hG=>aa.cQ rfl rfl rfl) rfl rfl rfl ?_;refine Dr.val Grow.refl rfl (fun w hG=>aa.bq rfl rfl rfl) rfl ?_;refine Dr.nil ?_;refine bb.done (F':=[(0,_),(1,_),(2,_),(34,_)]) rfl ⟨rfl,rfl,rfl,rfl,trivial⟩ ?_;intro w3 hw3 fw3;replace ab:=ab.step hw3;replace k1:=k1.step hw3;refine aQ 0 1 2 34 (Zt ?_);refine Cd.aM rfl rfl ?_;refine Cd.skip ?_;exact ae.join () ⟨rfl,trivial⟩ ⟨⟨h1, .inl h2, .inr h6⟩,ab,k1⟩
     ·skip
      refine Cd.seq ?_;refine ff 32 ?_;intro w2 hw2 zw2;replace ab:=ab.step hw2;replace k1:=k1.step hw2;have zbel:=ab.size;have zlt:=k1.lt;refine Dr.val Grow.refl rfl (fun w hG=>aa.ar 0 rfl rfl Tryz.underlying105 rfl (by kernel_rfl)) rfl ?_;refine Dr.val Grow.refl rfl (fun w hG=>aa.au rfl rfl Tryz.underlying3 rfl (k1.step hG) rfl) rfl ?_;refine Dr.cJ rfl (fun w=>Ze Tryz.func214) rfl (fun w hG=>ew op w) ?_;refine Dr.val Grow.refl rfl (fun w hG=>aa.ar 3 rfl rfl Tryz.underlying105 rfl (by kernel_rfl)) rfl ?_;refine Dr.val Grow.refl rfl (fun w hG=>aa.au rfl rfl Tryz.underlying68 rfl (k1.step hG) rfl) rfl ?_;refine Dr.val Grow.refl rfl (fun w hG=>aa.len rfl rfl Tryz.underlying68) rfl ?_;refine Dr.val Grow.refl rfl (fun w hG=>(aa.cW rfl rfl rfl).iC (by omega)) rfl ?_;refine Dr.val Grow.refl rfl (fun w hG=>aa.move rfl rfl) rfl ?_;refine Dr.aE Grow.refl rfl (fun w hG=>aa.ar 1 rfl rfl Tryz.underlying105 rfl (by kernel_rfl)) rfl rfl rfl ?_;refine Dr.aE Grow.refl rfl (fun w hG=>aa.au rfl rfl Tryz.underlying2 rfl (k1.step hG) rfl) rfl rfl rfl ?_;refine Dr.aE Grow.refl rfl (fun w hG=>(aa.cW rfl rfl rfl).iC (by omega)) rfl rfl rfl ?_;refine Dr.aE Grow.refl rfl (fun w hG=>aa.move rfl rfl) rfl rfl rfl ?_;refine Dr.skip rfl rfl rfl rfl rfl ?_;refine Dr.skip rfl rfl rfl rfl rfl ?_;refine Dr.skip rfl rfl rfl rfl rfl ?_;refine Dr.aE Grow.refl rfl (fun w hG=>aa.bq rfl rfl rfl) rfl rfl rfl ?_;refine Dr.aE Grow.refl rfl (fun w hG=>aa.move rfl rfl) rfl rfl rfl ?_;refine Dr.skip rfl rfl rfl rfl rfl ?_;refine Dr.skip rfl rfl rfl rfl rfl ?_;refine Dr.skip rfl rfl rfl rfl rfl ?_;refine Dr.aE Grow.refl rfl (fun w hG=>aa.bq rfl rfl rfl) rfl rfl rfl ?_;refine Dr.val Grow.refl rfl (fun w hG=>aa.bq rfl rfl rfl) rfl ?_;refine Dr.val Grow.refl rfl (fun w hG=>aa.move rfl rfl) rfl ?_;refine Dr.aE Grow.refl rfl (fun w hG=>aa.ar 2 rfl rfl Tryz.underlying105 rfl (by kernel_rfl)) rfl rfl rfl ?_;refine Dr.aE Grow.refl rfl (fun w hG=>aa.au rfl rfl Tryz.underlying9 rfl (k1.step hG) rfl) rfl rfl rfl ?_;refine Dr.aE Grow.refl rfl (fun w hG=>(aa.fT (b:=[]) rfl rfl rfl HB1 HB2).lK (h5)) rfl rfl rfl ?_;refine Dr.aE Grow.refl rfl (fun w hG=>aa.move rfl rfl) rfl rfl rfl ?_;refine Dr.aE Grow.refl rfl (fun w hG=>aa.ar 0 rfl rfl Tryz.underlying105 rfl (by kernel_rfl)) rfl rfl rfl ?_;refine Dr.aE Grow.refl rfl (fun w hG=>aa.au rfl rfl Tryz.underlying3 rfl (k1.step hG) rfl) rfl rfl rfl ?_;refine Dr.aE Grow.refl rfl (fun w hG=>(aa.cW rfl rfl rfl).lK (h6)) rfl rfl rfl ?_;refine Dr.aE Grow.refl rfl (fun w hG=>aa.cQ rfl rfl rfl) rfl rfl rfl ?_;refine Dr.val Grow.refl rfl (fun w hG=>aa.bq rfl rfl rfl) rfl ?_;refine Dr.nil ?_;refine bb.done (F':=[(0,_),(1,_),(2,_),(34,_)]) rfl ⟨rfl,rfl,rfl,rfl,trivial⟩ ?_;intro w3 hw3 fw3;replace ab:=ab.step hw3;replace k1:=k1.step hw3;refine aQ 0 1 2 34 (Zt ?_);refine Cd.aU rfl rfl ?_;refine aj ?_;refine Za ?_;refine aQ 0 1 2 34 (Zt (Cd.ret (ae.af ?_)));refine aZ ?_;rw[hbf (by rintro⟨-,-,h,-⟩;rcases h with h|h;exact h5 h;exact h6 h)];exact⟨rfl,ab⟩
   ·by_cases h3:op=1
    ·skip
     by_cases h5:nm=[]
     ·skip
      refine Cd.seq ?_;refine ff 32 ?_;intro w2 hw2 zw2;replace ab:=ab.step hw2;replace k1:=k1.step hw2;have zbel:=ab.size;have zlt:=k1.lt;refine Dr.val Grow.refl rfl (fun w hG=>aa.ar 0 rfl rfl Tryz.underlying105 rfl (by kernel_rfl)) rfl ?_;refine Dr.val Grow.refl rfl (fun w hG=>aa.au rfl rfl Tryz.underlying3 rfl (k1.step hG) rfl) rfl ?_;refine Dr.cJ rfl (fun w=>Ze Tryz.func214) rfl (fun w hG=>ew op w) ?_;refine Dr.val Grow.refl rfl (fun w hG=>aa.ar 3 rfl rfl Tryz.underlying105 rfl (by kernel_rfl)) rfl ?_;refine Dr.val Grow.refl rfl (fun w hG=>aa.au rfl rfl Tryz.underlying68 rfl (k1.step hG) rfl) rfl ?_;refine Dr.val Grow.refl rfl (fun w hG=>aa.len rfl rfl Tryz.underlying68) rfl ?_;refine Dr.val Grow.refl rfl (fun w hG=>(aa.cW rfl rfl rfl).iC (by omega)) rfl ?_;refine Dr.val Grow.refl rfl (fun w hG=>aa.move rfl rfl) rfl ?_;refine Dr.aE Grow.refl rfl (fun w hG=>aa.ar 1 rfl rfl Tryz.underlying105 rfl (by kernel_rfl)) rfl rfl rfl ?_;refine Dr.aE Grow.refl rfl (fun w hG=>aa.au rfl rfl Tryz.underlying2 rfl (k1.step hG) rfl) rfl rfl rfl ?_;refine Dr.aE Grow.refl rfl (fun w hG=>(aa.cW rfl rfl rfl).lK (h2)) rfl rfl rfl ?_;refine Dr.aE Grow.refl rfl (fun w hG=>aa.move rfl rfl) rfl rfl rfl ?_;refine Dr.aE Grow.refl rfl (fun w hG=>aa.ar 0 rfl rfl Tryz.underlying105 rfl (by kernel_rfl)) rfl rfl rfl ?_;refine Dr.aE Grow.refl rfl (fun w hG=>aa.au rfl rfl Tryz.underlying3 rfl (k1.step hG) rfl) rfl rfl rfl ?_;refine Dr.aE Grow.refl rfl (fun w hG=>(aa.cW rfl rfl rfl).iC (by omega)) rfl rfl rfl ?_;refine Dr.aE Grow.refl rfl (fun w hG=>aa.cQ rfl rfl rfl) rfl rfl rfl ?_;refine Dr.aE Grow.refl rfl (fun w hG=>aa.move rfl rfl) rfl rfl rfl ?_;refine Dr.skip rfl rfl rfl rfl rfl ?_;refine Dr.skip rfl rfl rfl rfl rfl ?_;refine Dr.skip rfl rfl rfl rfl rfl ?_;refine Dr.aE Grow.refl rfl (fun w hG=>aa.bq rfl rfl rfl) rfl rfl rfl ?_;refine Dr.val Grow.refl rfl (fun w hG=>aa.bq rfl rfl rfl) rfl ?_;refine Dr.val Grow.refl rfl (fun w hG=>aa.move rfl rfl) rfl ?_;refine Dr.aE Grow.refl rfl (fun w hG=>aa.ar 2 rfl rfl Tryz.underlying105 rfl (by kernel_rfl)) rfl rfl rfl ?_;refine Dr.aE Grow.refl rfl (fun w hG=>aa.au rfl rfl Tryz.underlying9 rfl (k1.step hG) rfl) rfl rfl rfl ?_;refine Dr.aE Grow.refl rfl (fun w hG=>(aa.fT (b:=[]) rfl rfl rfl HB1 HB2).iC (by simp[h5])) rfl rfl rfl ?_;refine Dr.aE Grow.refl rfl (fun w hG=>aa.move rfl rfl) rfl rfl rfl ?_;refine Dr.skip rfl rfl rfl rfl rfl ?_;refine Dr.skip rfl rfl rfl rfl rfl ?_;refine Dr.skip rfl rfl rfl rfl rfl ?_;refine Dr.aE Grow.refl rfl (fun w hG=>aa.bq rfl rfl rfl) rfl rfl rfl ?_;refine Dr.val Grow.refl rfl (fun w hG=>aa.bq rfl rfl rfl) rfl ?_;refine Dr.nil ?_;refine bb.done (F':=[(0,_),(1,_),(2,_),(34,_)]) rfl ⟨rfl,rfl,rfl,rfl,trivial⟩ ?_;intro w3 hw3 fw3;replace ab:=ab.step hw3;replace k1:=k1.step hw3;refine aQ 0 1 2 34 (Zt ?_);refine Cd.aM rfl rfl ?_;refine Cd.skip ?_;exact ae.join () ⟨rfl,trivial⟩ ⟨⟨h1, .inr (.inl h3), .inl h5⟩,ab,k1⟩
     ·by_cases h6:op=3
      ·skip
       refine Cd.seq ?_;refine ff 32 ?_;intro w2 hw2 zw2;replace ab:=ab.step hw2;replace k1:=k1.step hw2;have zbel:=ab.size;have zlt:=k1.lt;refine Dr.val Grow.refl rfl (fun w hG=>aa.ar 0 rfl rfl Tryz.underlying105 rfl (by kernel_rfl)) rfl ?_;refine Dr.val Grow.refl rfl (fun w hG=>aa.au rfl rfl Tryz.underlying3 rfl (k1.step hG) rfl) rfl ?_;refine Dr.cJ rfl (fun w=>Ze Tryz.func214) rfl (fun w hG=>ew op w) ?_;refine Dr.val Grow.refl rfl (fun w hG=>aa.ar 3 rfl rfl Tryz.underlying105 rfl (by kernel_rfl)) rfl ?_;refine Dr.val Grow.refl rfl (fun w hG=>aa.au rfl rfl Tryz.underlying68 rfl (k1.step hG) rfl) rfl ?_;refine Dr.val Grow.refl rfl (fun w hG=>aa.len rfl rfl Tryz.underlying68) rfl ?_;refine Dr.val Grow.refl rfl (fun w hG=>(aa.cW rfl rfl rfl).iC (by omega)) rfl ?_;refine Dr.val Grow.refl rfl (fun w hG=>aa.move rfl rfl) rfl ?_;refine Dr.aE Grow.refl rfl (fun w hG=>aa.ar 1 rfl rfl Tryz.underlying105 rfl (by kernel_rfl)) rfl rfl rfl ?_;refine Dr.aE Grow.refl rfl (fun w hG=>aa.au rfl rfl Tryz.underlying2 rfl (k1.step hG) rfl) rfl rfl rfl ?_;refine Dr.aE Grow.refl rfl (fun w hG=>(aa.cW rfl rfl rfl).lK (h2)) rfl rfl rfl ?_;refine Dr.aE Grow.refl rfl (fun w hG=>aa.move rfl rfl) rfl rfl rfl ?_;refine Dr.aE Grow.refl rfl (fun w hG=>aa.ar 0 rfl rfl Tryz.underlying105 rfl (by kernel_rfl)) rfl rfl rfl ?_;refine Dr.aE Grow.refl rfl (fun w hG=>aa.au rfl rfl Tryz.underlying3 rfl (k1.step hG) rfl) rfl rfl rfl ?_;refine Dr.aE Grow.refl rfl (fun w hG=>(aa.cW rfl rfl rfl).iC (by omega)) rfl rfl rfl ?_;refine Dr.aE Grow.refl rfl (fun w hG=>aa.cQ rfl rfl rfl) rfl rfl rfl ?_;refine Dr.aE Grow.refl rfl (fun w hG=>aa.move rfl rfl) rfl rfl rfl ?_;refine Dr.skip rfl rfl rfl rfl rfl ?_;refine Dr.skip rfl rfl rfl rfl rfl ?_;refine Dr.skip rfl rfl rfl rfl rfl ?_;refine Dr.aE Grow.refl rfl (fun w hG=>aa.bq rfl rfl rfl) rfl rfl rfl ?_;refine Dr.val Grow.refl rfl (fun w hG=>aa.bq rfl rfl rfl) rfl ?_;refine Dr.val Grow.refl rfl (fun w hG=>aa.move rfl rfl) rfl ?_;refine Dr.aE Grow.refl rfl (fun w hG=>aa.ar 2 rfl rfl Tryz.underlying105 rfl (by kernel_rfl)) rfl rfl rfl ?_;refine Dr.aE Grow.refl rfl (fun w hG=>aa.au rfl rfl Tryz.underlying9 rfl (k1.step hG) rfl) rfl rfl rfl ?_;refine Dr.aE Grow.refl rfl (fun w hG=>(aa.fT (b:=[]) rfl rfl rfl HB1 HB2).lK (h5)) rfl rfl rfl ?_;refine Dr.aE Grow.refl rfl (fun w hG=>aa.move rfl rfl) rfl rfl rfl ?_;refine Dr.aE Grow.refl rfl (fun w hG=>aa.ar 0 rfl rfl Tryz.underlying105 rfl (by kernel_rfl)) rfl rfl rfl ?_;refine Dr.aE Grow.refl rfl (fun w hG=>aa.au rfl rfl Tryz.underlying3 rfl (k1.step hG) rfl) rfl rfl rfl ?_;refine Dr.aE Grow.refl rfl (fun w hG=>(aa.cW rfl rfl rfl).iC (by omega)) rfl rfl rfl ?_;refine Dr.aE Grow.refl rfl (fun w hG=>aa.cQ rfl rfl rfl) rfl rfl rfl ?_;refine Dr.val Grow.refl rfl (fun w hG=>aa.bq rfl rfl rfl) rfl ?_;refine Dr.nil ?_;refine bb.done (F':=[(0,_),(1,_),(2,_),(34,_)]) rfl ⟨rfl,rfl,rfl,rfl,trivial⟩ ?_;intro w3 hw3 fw3;replace ab:=ab.step hw3;replace k1:=k1.step hw3;refine aQ 0 1 2 34 (Zt ?_);refine Cd.aM rfl rfl ?_;refine Cd.skip ?_;exact ae.join () ⟨rfl,trivial⟩ ⟨⟨h1, .inr (.inl h3), .inr h6⟩,ab,k1⟩
      ·skip
       refine Cd.seq ?_;refine ff 32 ?_;intro w2 hw2 zw2;replace ab:=ab.step hw2;replace k1:=k1.step hw2;have zbel:=ab.size;have zlt:=k1.lt;refine Dr.val Grow.refl rfl (fun w hG=>aa.ar 0 rfl rfl Tryz.underlying105 rfl (by kernel_rfl)) rfl ?_;refine Dr.val Grow.refl rfl (fun w hG=>aa.au rfl rfl Tryz.underlying3 rfl (k1.step hG) rfl) rfl ?_;refine Dr.cJ rfl (fun w=>Ze Tryz.func214) rfl (fun w hG=>ew op w) ?_;refine Dr.val Grow.refl rfl (fun w hG=>aa.ar 3 rfl rfl Tryz.underlying105 rfl (by kernel_rfl)) rfl ?_;refine Dr.val Grow.refl rfl (fun w hG=>aa.au rfl rfl Tryz.underlying68 rfl (k1.step hG) rfl) rfl ?_;refine Dr.val Grow.refl rfl (fun w hG=>aa.len rfl rfl Tryz.underlying68) rfl ?_;refine Dr.val Grow.refl rfl (fun w hG=>(aa.cW rfl rfl rfl).iC (by omega)) rfl ?_;refine Dr.val Grow.refl rfl (fun w hG=>aa.move rfl rfl) rfl ?_;refine Dr.aE Grow.refl rfl (fun w hG=>aa.ar 1 rfl rfl Tryz.underlying105 rfl (by kernel_rfl)) rfl rfl rfl ?_;refine Dr.aE Grow.refl rfl (fun w hG=>aa.au rfl rfl Tryz.underlying2 rfl (k1.step hG) rfl) rfl rfl rfl ?_;refine Dr.aE Grow.refl rfl (fun w hG=>(aa.cW rfl rfl rfl).lK (h2)) rfl rfl rfl ?_;refine Dr.aE Grow.refl rfl (fun w hG=>aa.move rfl rfl) rfl rfl rfl ?_;refine Dr.aE Grow.refl rfl (fun w hG=>aa.ar 0 rfl rfl Tryz.underlying105 rfl (by kernel_rfl)) rfl rfl rfl ?_;refine Dr.aE Grow.refl rfl (fun w hG=>aa.au rfl rfl Tryz.underlying3 rfl (k1.step hG) rfl) rfl rfl rfl ?_;refine Dr.aE Grow.refl rfl (fun w hG=>(aa.cW rfl rfl rfl).iC (by omega)) rfl rfl rfl ?_;refine Dr.aE Grow.refl rfl (fun w hG=>aa.cQ rfl rfl rfl) rfl rfl rfl ?_;refine Dr.aE Grow.refl rfl (fun w hG=>aa.move rfl rfl) rfl rfl rfl ?_;refine Dr.skip rfl rfl rfl rfl rfl ?_;refine Dr.skip rfl rfl rfl rfl rfl ?_;refine Dr.skip rfl rfl rfl rfl rfl ?_;refine Dr.aE Grow.refl rfl (fun w hG=>aa.bq rfl rfl rfl) rfl rfl rfl ?_;refine Dr.val Grow.refl rfl (fun w hG=>aa.bq rfl rfl rfl) rfl ?_;refine Dr.val Grow.refl rfl (fun w hG=>aa.move rfl rfl) rfl ?_;refine Dr.aE Grow.refl rfl (fun w hG=>aa.ar 2 rfl rfl Tryz.underlying105 rfl (by kernel_rfl)) rfl rfl rfl ?_;refine Dr.aE Grow.refl rfl (fun w hG=>aa.au rfl rfl Tryz.underlying9 rfl (k1.step hG) rfl) rfl rfl rfl ?_;refine Dr.aE Grow.refl rfl (fun w hG=>(aa.fT (b:=[]) rfl rfl rfl HB1 HB2).lK (h5)) rfl rfl rfl ?_;refine Dr.aE Grow.refl rfl (fun w hG=>aa.move rfl rfl) rfl rfl rfl ?_;refine Dr.aE Grow.refl rfl (fun w hG=>aa.ar 0 rfl rfl Tryz.underlying105 rfl (by kernel_rfl)) rfl rfl rfl ?_;refine Dr.aE Grow.refl rfl (fun w hG=>aa.au rfl rfl Tryz.underlying3 rfl (k1.step hG) rfl) rfl rfl rfl ?_;refine Dr.aE Grow.refl rfl (fun w hG=>(aa.cW rfl rfl rfl).lK (h6)) rfl rfl rfl ?_;refine Dr.aE Grow.refl rfl (fun w hG=>aa.cQ rfl rfl rfl) rfl rfl rfl ?_;refine Dr.val Grow.refl rfl (fun w hG=>aa.bq rfl rfl rfl) rfl ?_;refine Dr.nil ?_;refine bb.done (F':=[(0,_),(1,_),(2,_),(34,_)]) rfl ⟨rfl,rfl,rfl,rfl,trivial⟩ ?_;intro w3 hw3 fw3;replace ab:=ab.step hw3;replace k1:=k1.step hw3;refine aQ 0 1 2 34 (Zt ?_);refine Cd.aU rfl rfl ?_;refine aj ?_;refine Za ?_;refine aQ 0 1 2 34 (Zt (Cd.ret (ae.af ?_)));refine aZ ?_;rw[hbf (by rintro⟨-,-,h,-⟩;rcases h with h|h;exact h5 h;exact h6 h)];exact⟨rfl,ab⟩
    ·by_cases h4:op=2
     ·skip
      by_cases h5:nm=[]
      ·skip
       refine Cd.seq ?_;refine ff 32 ?_;intro w2 hw2 zw2;replace ab:=ab.step hw2;replace k1:=k1.step hw2;have zbel:=ab.size;have zlt:=k1.lt;refine Dr.val Grow.refl rfl (fun w hG=>aa.ar 0 rfl rfl Tryz.underlying105 rfl (by kernel_rfl)) rfl ?_;refine Dr.val Grow.refl rfl (fun w hG=>aa.au rfl rfl Tryz.underlying3 rfl (k1.step hG) rfl) rfl ?_;refine Dr.cJ rfl (fun w=>Ze Tryz.func214) rfl (fun w hG=>ew op w) ?_;refine Dr.val Grow.refl rfl (fun w hG=>aa.ar 3 rfl rfl Tryz.underlying105 rfl (by kernel_rfl)) rfl ?_;refine Dr.val Grow.refl rfl (fun w hG=>aa.au rfl rfl Tryz.underlying68 rfl (k1.step hG) rfl) rfl ?_;refine Dr.val Grow.refl rfl (fun w hG=>aa.len rfl rfl Tryz.underlying68) rfl ?_;refine Dr.val Grow.refl rfl (fun w hG=>(aa.cW rfl rfl rfl).iC (by omega)) rfl ?_;refine Dr.val Grow.refl rfl (fun w hG=>aa.move rfl rfl) rfl ?_;refine Dr.aE Grow.refl rfl (fun w hG=>aa.ar 1 rfl rfl Tryz.underlying105 rfl (by kernel_rfl)) rfl rfl rfl ?_;refine Dr.aE Grow.refl rfl (fun w hG=>aa.au rfl rfl Tryz.underlying2 rfl (k1.step hG) rfl) rfl rfl rfl ?_;refine Dr.aE Grow.refl rfl (fun w hG=>(aa.cW rfl rfl rfl).lK (h2)) rfl rfl rfl ?_;refine Dr.aE Grow.refl rfl (fun w hG=>aa.move rfl rfl) rfl rfl rfl ?_;refine Dr.aE Grow.refl rfl (fun w hG=>aa.ar 0 rfl rfl Tryz.underlying105 rfl (by kernel_rfl)) rfl rfl rfl ?_;refine Dr.aE Grow.refl rfl (fun w hG=>aa.au rfl rfl Tryz.underlying3 rfl (k1.step hG) rfl) rfl rfl rfl ?_;refine Dr.aE Grow.refl rfl (fun w hG=>(aa.cW rfl rfl rfl).lK (h3)) rfl rfl rfl ?_;refine Dr.aE Grow.refl rfl (fun w hG=>aa.cQ rfl rfl rfl) rfl rfl rfl ?_;refine Dr.aE Grow.refl rfl (fun w hG=>aa.move rfl rfl) rfl rfl rfl ?_;refine Dr.aE Grow.refl rfl (fun w hG=>aa.ar 0 rfl rfl Tryz.underlying105 rfl (by kernel_rfl)) rfl rfl rfl ?_;refine Dr.aE Grow.refl rfl (fun w hG=>aa.au rfl rfl Tryz.underlying3 rfl (k1.step hG) rfl) rfl rfl rfl ?_;refine Dr.aE Grow.refl rfl (fun w hG=>(aa.cW rfl rfl rfl).iC (by omega)) rfl rfl rfl ?_;refine Dr.aE Grow.refl rfl (fun w hG=>aa.cQ rfl rfl rfl) rfl rfl rfl ?_;refine Dr.val Grow.refl rfl (fun w hG=>aa.bq rfl rfl rfl) rfl ?_;refine Dr.val Grow.refl rfl (fun w hG=>aa.move rfl rfl) rfl ?_;refine Dr.aE Grow.refl rfl (fun w hG=>aa.ar 2 rfl rfl Tryz.underlying105 rfl (by kernel_rfl)) rfl rfl rfl ?_;refine Dr.aE Grow.refl rfl (fun w hG=>aa.au rfl rfl Tryz.underlying9 rfl (k1.step hG) rfl) rfl rfl rfl ?_;refine Dr.aE Grow.refl rfl (fun w hG=>(aa.fT (b:=[]) rfl rfl rfl HB1 HB2).iC (by simp[h5])) rfl rfl rfl ?_;refine Dr.aE Grow.refl rfl (fun w hG=>aa.move rfl rfl) rfl rfl rfl ?_;refine Dr.skip rfl rfl rfl rfl rfl ?_;refine Dr.skip rfl rfl rfl rfl rfl ?_;refine Dr.skip rfl rfl rfl rfl rfl ?_;refine Dr.aE Grow.refl rfl (fun w hG=>aa.bq rfl rfl rfl) rfl rfl rfl ?_;refine Dr.val Grow.refl rfl (fun w hG=>aa.bq rfl rfl rfl) rfl ?_;refine Dr.nil ?_;refine bb.done (F':=[(0,_),(1,_),(2,_),(34,_)]) rfl ⟨rfl,rfl,rfl,rfl,trivial⟩ ?_;intro w3 hw3 fw3;replace ab:=ab.step hw3;replace k1:=k1.step hw3;refine aQ 0 1 2 34 (Zt ?_);refine Cd.aM rfl rfl ?_;refine Cd.skip ?_;exact ae.join () ⟨rfl,trivial⟩ ⟨⟨h1, .inr (.inr h4), .inl h5⟩,ab,k1⟩
      ·by_cases h6:op=3
       ·skip
        refine Cd.seq ?_;refine ff 32 ?_;intro w2 hw2 zw2;replace ab:=ab.step hw2;replace k1:=k1.step hw2;have zbel:=ab.size;have zlt:=k1.lt;refine Dr.val Grow.refl rfl (fun w hG=>aa.ar 0 rfl rfl Tryz.underlying105 rfl (by kernel_rfl)) rfl ?_;refine Dr.val Grow.refl rfl (fun w hG=>aa.au rfl rfl Tryz.underlying3 rfl (k1.step hG) rfl) rfl ?_;refine Dr.cJ rfl (fun w=>Ze Tryz.func214) rfl (fun w hG=>ew op w) ?_;refine Dr.val Grow.refl rfl (fun w hG=>aa.ar 3 rfl rfl Tryz.underlying105 rfl (by kernel_rfl)) rfl ?_;refine Dr.val Grow.refl rfl (fun w hG=>aa.au rfl rfl Tryz.underlying68 rfl (k1.step hG) rfl) rfl ?_;refine Dr.val Grow.refl rfl (fun w hG=>aa.len rfl rfl Tryz.underlying68) rfl ?_;refine Dr.val Grow.refl rfl (fun w hG=>(aa.cW rfl rfl rfl).iC (by omega)) rfl ?_;refine Dr.val Grow.refl rfl (fun w hG=>aa.move rfl rfl) rfl ?_;refine Dr.aE Grow.refl rfl (fun w hG=>aa.ar 1 rfl rfl Tryz.underlying105 rfl (by kernel_rfl)) rfl rfl rfl ?_;refine Dr.aE Grow.refl rfl (fun w hG=>aa.au rfl rfl Tryz.underlying2 rfl (k1.step hG) rfl) rfl rfl rfl ?_;refine Dr.aE Grow.refl rfl (fun w hG=>(aa.cW rfl rfl rfl).lK (h2)) rfl rfl rfl ?_;refine Dr.aE Grow.refl rfl (fun w hG=>aa.move rfl rfl) rfl rfl rfl ?_;refine Dr.aE Grow.refl rfl (fun w hG=>aa.ar 0 rfl rfl Tryz.underlying105 rfl (by kernel_rfl)) rfl rfl rfl ?_;refine Dr.aE Grow.refl rfl (fun w hG=>aa.au rfl rfl Tryz.underlying3 rfl (k1.step hG) rfl) rfl rfl rfl ?_;refine Dr.aE Grow.refl rfl (fun w hG=>(aa.cW rfl rfl rfl).lK (h3)) rfl rfl rfl ?_;refine Dr.aE Grow.refl rfl (fun w hG=>aa.cQ rfl rfl rfl) rfl rfl rfl ?_;refine Dr.aE Grow.refl rfl (fun w hG=>aa.move rfl rfl) rfl rfl rfl ?_;refine Dr.aE Grow.refl rfl (fun w hG=>aa.ar 0 rfl rfl Tryz.underlying105 rfl (by kernel_rfl)) rfl rfl rfl ?_;refine Dr.aE Grow.refl rfl (fun w hG=>aa.au rfl rfl Tryz.underlying3 rfl (k1.step hG) rfl) rfl rfl rfl ?_;refine Dr.aE Grow.refl rfl (fun w hG=>(aa.cW rfl rfl rfl).iC (by omega)) rfl rfl rfl ?_;refine Dr.aE Grow.refl rfl (fun w hG=>aa.cQ rfl rfl rfl) rfl rfl rfl ?_;refine Dr.val Grow.refl rfl (fun w hG=>aa.bq rfl rfl rfl) rfl ?_;refine Dr.val Grow.refl rfl (fun w hG=>aa.move rfl rfl) rfl ?_;refine Dr.aE Grow.refl rfl (fun w hG=>aa.ar 2 rfl rfl Tryz.underlying105 rfl (by kernel_rfl)) rfl rfl rfl ?_;refine Dr.aE Grow.refl rfl (fun w hG=>aa.au rfl rfl Tryz.underlying9 rfl (k1.step hG) rfl) rfl rfl rfl ?_;refine Dr.aE Grow.refl rfl (fun w hG=>(aa.fT (b:=[]) rfl rfl rfl HB1 HB2).lK (h5)) rfl rfl rfl ?_;refine Dr.aE Grow.refl rfl (fun w hG=>aa.move rfl rfl) rfl rfl rfl ?_;refine Dr.aE Grow.refl rfl (fun w hG=>aa.ar 0 rfl rfl Tryz.underlying105 rfl (by kernel_rfl)) rfl rfl rfl ?_;refine Dr.aE Grow.refl rfl (fun w hG=>aa.au rfl rfl Tryz.underlying3 rfl (k1.step hG) rfl) rfl rfl rfl ?_;refine Dr.aE Grow.refl rfl (fun w hG=>(aa.cW rfl rfl rfl).iC (by omega)) rfl rfl rfl ?_;refine Dr.aE Grow.refl rfl (fun w hG=>aa.cQ rfl rfl rfl) rfl rfl rfl ?_;refine Dr.val Grow.refl rfl (fun w hG=>aa.bq rfl rfl rfl) rfl ?_;refine Dr.nil ?_;refine bb.done (F':=[(0,_),(1,_),(2,_),(34,_)]) rfl ⟨rfl,rfl,rfl,rfl,trivial⟩ ?_;intro w3 hw3 fw3;replace ab:=ab.step hw3;replace k1:=k1.step hw3;refine aQ 0 1 2 34 (Zt ?_);refine Cd.aM rfl rfl ?_;refine Cd.skip ?_;exact ae.join () ⟨rfl,trivial⟩ ⟨⟨h1, .inr (.inr h4), .inr h6⟩,ab,k1⟩
       ·skip
        refine Cd.seq ?_;refine ff 32 ?_;intro w2 hw2 zw2;replace ab:=ab.step hw2;replace k1:=k1.step hw2;have zbel:=ab.size;have zlt:=k1.lt;refine Dr.val Grow.refl rfl (fun w hG=>aa.ar 0 rfl rfl Tryz.underlying105 rfl (by kernel_rfl)) rfl ?_;refine Dr.val Grow.refl rfl (fun w hG=>aa.au rfl rfl Tryz.underlying3 rfl (k1.step hG) rfl) rfl ?_;refine Dr.cJ rfl (fun w=>Ze Tryz.func214) rfl (fun w hG=>ew op w) ?_;refine Dr.val Grow.refl rfl (fun w hG=>aa.ar 3 rfl rfl Tryz.underlying105 rfl (by kernel_rfl)) rfl ?_;refine Dr.val Grow.refl rfl (fun w hG=>aa.au rfl rfl Tryz.underlying68 rfl (k1.step hG) rfl) rfl ?_;refine Dr.val Grow.refl rfl (fun w hG=>aa.len rfl rfl Tryz.underlying68) rfl ?_;refine Dr.val Grow.refl rfl (fun w hG=>(aa.cW rfl rfl rfl).iC (by omega)) rfl ?_;refine Dr.val Grow.refl rfl (fun w hG=>aa.move rfl rfl) rfl ?_;refine Dr.aE Grow.refl rfl (fun w hG=>aa.ar 1 rfl rfl Tryz.underlying105 rfl (by kernel_rfl)) rfl rfl rfl ?_;refine Dr.aE Grow.refl rfl (fun w hG=>aa.au rfl rfl Tryz.underlying2 rfl (k1.step hG) rfl) rfl rfl rfl ?_;refine Dr.aE Grow.refl rfl (fun w hG=>(aa.cW rfl rfl rfl).lK (h2)) rfl rfl rfl ?_;refine Dr.aE Grow.refl rfl (fun w hG=>aa.move rfl rfl) rfl rfl rfl ?_;refine Dr.aE Grow.refl rfl (fun w hG=>aa.ar 0 rfl rfl Tryz.underlying105 rfl (by kernel_rfl)) rfl rfl rfl ?_;refine Dr.aE Grow.refl rfl (fun w hG=>aa.au rfl rfl Tryz.underlying3 rfl (k1.step hG) rfl) rfl rfl rfl ?_;refine Dr.aE Grow.refl rfl (fun w hG=>(aa.cW rfl rfl rfl).lK (h3)) rfl rfl rfl ?_;refine Dr.aE Grow.refl rfl (fun w hG=>aa.cQ rfl rfl rfl) rfl rfl rfl ?_;refine Dr.aE Grow.refl rfl (fun w hG=>aa.move rfl rfl) rfl rfl rfl ?_;refine Dr.aE Grow.refl rfl (fun w hG=>aa.ar 0 rfl rfl Tryz.underlying105 rfl (by kernel_rfl)) rfl rfl rfl ?_;refine Dr.aE Grow.refl rfl (fun w hG=>aa.au rfl rfl Tryz.underlying3 rfl (k1.step hG) rfl) rfl rfl rfl ?_;refine Dr.aE Grow.refl rfl (fun w hG=>(aa.cW rfl rfl rfl).iC (by omega)) rfl rfl rfl ?_;refine Dr.aE Grow.refl rfl (fun w hG=>aa.cQ rfl rfl rfl) rfl rfl rfl ?_;refine Dr.val Grow.refl rfl (fun w hG=>aa.bq rfl rfl rfl) rfl ?_;refine Dr.val Grow.refl rfl (fun w hG=>aa.move rfl rfl) rfl ?_;refine Dr.aE Grow.refl rfl (fun w hG=>aa.ar 2 rfl rfl Tryz.underlying105 rfl (by kernel_rfl)) rfl rfl rfl ?_;refine Dr.aE Grow.refl rfl (fun w hG=>aa.au rfl rfl Tryz.underlying9 rfl (k1.step hG) rfl) rfl rfl rfl ?_;refine Dr.aE Grow.refl rfl (fun w hG=>(aa.fT (b:=[]) rfl rfl rfl HB1 HB2).lK (h5)) rfl rfl rfl ?_;refine Dr.aE Grow.refl rfl (fun w hG=>aa.move rfl rfl) rfl rfl rfl ?_;refine Dr.aE Grow.refl rfl (fun w hG=>aa.ar 0 rfl rfl Tryz.underlying105 rfl (by kernel_rfl)) rfl rfl rfl ?_;refine Dr.aE Grow.refl rfl (fun w hG=>aa.au rfl rfl Tryz.underlying3 rfl (k1.step hG) rfl) rfl rfl rfl ?_;refine Dr.aE Grow.refl rfl (fun w hG=>(aa.cW rfl rfl rfl).lK (h6)) rfl rfl rfl ?_;refine Dr.aE Grow.refl rfl (fun w hG=>aa.cQ rfl rfl rfl) rfl rfl rfl ?_;refine Dr.val Grow.refl rfl (fun w hG=>aa.bq rfl rfl rfl) rfl ?_;refine Dr.nil ?_;refine bb.done (F':=[(0,_),(1,_),(2,_),(34,_)]) rfl ⟨rfl,rfl,rfl,rfl,trivial⟩ ?_;intro w3 hw3 fw3;replace ab:=ab.step hw3;replace k1:=k1.step hw3;refine aQ 0 1 2 34 (Zt ?_);refine Cd.aU rfl rfl ?_;refine aj ?_;refine Za ?_;refine aQ 0 1 2 34 (Zt (Cd.ret (ae.af ?_)));refine aZ ?_;rw[hbf (by rintro⟨-,-,h,-⟩;rcases h with h|h;exact h5 h;exact h6 h)];exact⟨rfl,ab⟩
     ·skip
      refine Cd.seq ?_;refine ff 32 ?_;intro w2 hw2 zw2;replace ab:=ab.step hw2;replace k1:=k1.step hw2;have zbel:=ab.size;have zlt:=k1.lt;refine Dr.val Grow.refl rfl (fun w hG=>aa.ar 0 rfl rfl Tryz.underlying105 rfl (by kernel_rfl)) rfl ?_;refine Dr.val Grow.refl rfl (fun w hG=>aa.au rfl rfl Tryz.underlying3 rfl (k1.step hG) rfl) rfl ?_;refine Dr.cJ rfl (fun w=>Ze Tryz.func214) rfl (fun w hG=>ew op w) ?_;refine Dr.val Grow.refl rfl (fun w hG=>aa.ar 3 rfl rfl Tryz.underlying105 rfl (by kernel_rfl)) rfl ?_;refine Dr.val Grow.refl rfl (fun w hG=>aa.au rfl rfl Tryz.underlying68 rfl (k1.step hG) rfl) rfl ?_;refine Dr.val Grow.refl rfl (fun w hG=>aa.len rfl rfl Tryz.underlying68) rfl ?_;refine Dr.val Grow.refl rfl (fun w hG=>(aa.cW rfl rfl rfl).iC (by omega)) rfl ?_;refine Dr.val Grow.refl rfl (fun w hG=>aa.move rfl rfl) rfl ?_;refine Dr.aE Grow.refl rfl (fun w hG=>aa.ar 1 rfl rfl Tryz.underlying105 rfl (by kernel_rfl)) rfl rfl rfl ?_;refine Dr.aE Grow.refl rfl (fun w hG=>aa.au rfl rfl Tryz.underlying2 rfl (k1.step hG) rfl) rfl rfl rfl ?_;refine Dr.aE Grow.refl rfl (fun w hG=>(aa.cW rfl rfl rfl).lK (h2)) rfl rfl rfl ?_;refine Dr.aE Grow.refl rfl (fun w hG=>aa.move rfl rfl) rfl rfl rfl ?_;refine Dr.aE Grow.refl rfl (fun w hG=>aa.ar 0 rfl rfl Tryz.underlying105 rfl (by kernel_rfl)) rfl rfl rfl ?_;refine Dr.aE Grow.refl rfl (fun w hG=>aa.au rfl rfl Tryz.underlying3 rfl (k1.step hG) rfl) rfl rfl rfl ?_;refine Dr.aE Grow.refl rfl (fun w hG=>(aa.cW rfl rfl rfl).lK (h3)) rfl rfl rfl ?_;refine Dr.aE Grow.refl rfl (fun w hG=>aa.cQ rfl rfl rfl) rfl rfl rfl ?_;refine Dr.aE Grow.refl rfl (fun w hG=>aa.move rfl rfl) rfl rfl rfl ?_;refine Dr.aE Grow.refl rfl (fun w hG=>aa.ar 0 rfl rfl Tryz.underlying105 rfl (by kernel_rfl)) rfl rfl rfl ?_;refine Dr.aE Grow.refl rfl (fun w hG=>aa.au rfl rfl Tryz.underlying3 rfl (k1.step hG) rfl) rfl rfl rfl ?_;refine Dr.aE Grow.refl rfl (fun w hG=>(aa.cW rfl rfl rfl).lK (h4)) rfl rfl rfl ?_;refine Dr.aE Grow.refl rfl (fun w hG=>aa.cQ rfl rfl rfl) rfl rfl rfl ?_;refine Dr.val Grow.refl rfl (fun w hG=>aa.bq rfl rfl rfl) rfl ?_;refine Dr.val Grow.refl rfl (fun w hG=>aa.move rfl rfl) rfl ?_;refine Dr.skip rfl rfl rfl rfl rfl ?_;refine Dr.skip rfl rfl rfl rfl rfl ?_;refine Dr.skip rfl rfl rfl rfl rfl ?_;refine Dr.skip rfl rfl rfl rfl rfl ?_;refine Dr.kM rfl rfl rfl rfl ?_;refine Dr.kM rfl rfl rfl rfl ?_;refine Dr.kM rfl rfl rfl rfl ?_;refine Dr.skip rfl rfl rfl rfl rfl ?_;refine Dr.val Grow.refl rfl (fun w hG=>aa.cQ rfl rfl rfl) rfl ?_;refine Dr.nil ?_;refine bb.done (F':=[(0,_),(1,_),(2,_),(34,_)]) rfl ⟨rfl,rfl,rfl,rfl,trivial⟩ ?_;intro w3 hw3 fw3;replace ab:=ab.step hw3;replace k1:=k1.step hw3;refine aQ 0 1 2 34 (Zt ?_);refine Cd.aU rfl rfl ?_;refine aj ?_;refine Za ?_;refine aQ 0 1 2 34 (Zt (Cd.ret (ae.af ?_)));refine aZ ?_;rw[hbf (by rintro⟨-,h,-⟩;omega)];exact⟨rfl,ab⟩
  ·skip
   refine Cd.seq ?_;refine ff 32 ?_;intro w2 hw2 zw2;replace ab:=ab.step hw2;replace k1:=k1.step hw2;have zbel:=ab.size;have zlt:=k1.lt;refine Dr.val Grow.refl rfl (fun w hG=>aa.ar 0 rfl rfl Tryz.underlying105 rfl (by kernel_rfl)) rfl ?_;refine Dr.val Grow.refl rfl (fun w hG=>aa.au rfl rfl Tryz.underlying3 rfl (k1.step hG) rfl) rfl ?_;refine Dr.cJ rfl (fun w=>Ze Tryz.func214) rfl (fun w hG=>ew op w) ?_;refine Dr.val Grow.refl rfl (fun w hG=>aa.ar 3 rfl rfl Tryz.underlying105 rfl (by kernel_rfl)) rfl ?_;refine Dr.val Grow.refl rfl (fun w hG=>aa.au rfl rfl Tryz.underlying68 rfl (k1.step hG) rfl) rfl ?_;refine Dr.val Grow.refl rfl (fun w hG=>aa.len rfl rfl Tryz.underlying68) rfl ?_;refine Dr.val Grow.refl rfl (fun w hG=>(aa.cW rfl rfl rfl).lK (h1)) rfl ?_;refine Dr.val Grow.refl rfl (fun w hG=>aa.move rfl rfl) rfl ?_;refine Dr.skip rfl rfl rfl rfl rfl ?_;refine Dr.skip rfl rfl rfl rfl rfl ?_;refine Dr.skip rfl rfl rfl rfl rfl ?_;refine Dr.skip rfl rfl rfl rfl rfl ?_;refine Dr.kM rfl rfl rfl rfl ?_;refine Dr.kM rfl rfl rfl rfl ?_;refine Dr.kM rfl rfl rfl rfl ?_;refine Dr.skip rfl rfl rfl rfl rfl ?_;refine Dr.skip rfl rfl rfl rfl rfl ?_;refine Dr.kM rfl rfl rfl rfl ?_;refine Dr.kM rfl rfl rfl rfl ?_;refine Dr.kM rfl rfl rfl rfl ?_;refine Dr.skip rfl rfl rfl rfl rfl ?_;refine Dr.val Grow.refl rfl (fun w hG=>aa.cQ rfl rfl rfl) rfl ?_;refine Dr.val Grow.refl rfl (fun w hG=>aa.move rfl rfl) rfl ?_;refine Dr.skip rfl rfl rfl rfl rfl ?_;refine Dr.skip rfl rfl rfl rfl rfl ?_;refine Dr.skip rfl rfl rfl rfl rfl ?_;refine Dr.skip rfl rfl rfl rfl rfl ?_;refine Dr.kM rfl rfl rfl rfl ?_;refine Dr.kM rfl rfl rfl rfl ?_;refine Dr.kM rfl rfl rfl rfl ?_;refine Dr.skip rfl rfl rfl rfl rfl ?_;refine Dr.val Grow.refl rfl (fun w hG=>aa.cQ rfl rfl rfl) rfl ?_;refine Dr.nil ?_;refine bb.done (F':=[(0,_),(1,_),(2,_),(34,_)]) rfl ⟨rfl,rfl,rfl,rfl,trivial⟩ ?_;intro w3 hw3 fw3;replace ab:=ab.step hw3;replace k1:=k1.step hw3;refine aQ 0 1 2 34 (Zt ?_);refine Cd.aU rfl rfl ?_;refine aj ?_;refine Za ?_;refine aQ 0 1 2 34 (Zt (Cd.ret (ae.af ?_)));refine aZ ?_;rw[hbf (by rintro⟨h,-⟩;exact h1 h)];exact⟨rfl,ab⟩
 clear ab k1;rintro⟨⟩ wr ⟨⟨a1,a2,a3⟩,ab,k1⟩;refine Cd.seq (Cd.block (Cd.seq (aj ?_)));refine Zf 1 Tryz.underlying105 ?_;refine ZL Tryz.underlying2 k1 ?_;refine eI ?_;refine Za ?_;refine dF 1 35 (Zt ?_);refine Cd.ak rfl (fun hc=> ?_) (fun hc=> ?_)
 ·skip
  refine Cd.skip (Zt ?_);refine Cd.aU rfl (decide_eq_true (by assumption)) ?_;refine aj ?_;refine Za ?_;refine bn 1 2 35 (Zt (Cd.ret (ae.ag (ae.af ?_))));refine aZ ?_;rw[hbf (by omega)];exact⟨rfl,ab⟩
 ·skip
  refine aj ?_;refine Zf 0 Tryz.underlying105 ?_;refine ZL Tryz.underlying3 k1 ?_;refine bC ?_;refine Zm ?_;refine aw.start ?_;refine bw (fun hcx=>aa.ar 1 rfl rfl Tryz.underlying105 rfl (by kernel_rfl)) ?_;refine Zn (fun hcx=>aa.au rfl rfl Tryz.underlying2 rfl k1 rfl) ?_;refine Zn (fun hcx=>aa.gtr rfl rfl rfl) ?_;refine fQ ?_;refine Za ?_;refine dF 1 35 (Zt ?_);refine Cd.cond rfl (fun h=> ?_) (fun h=> ?_)
  ·skip
   refine Cd.skip (Zt ?_);refine Cd.aU rfl h ?_;refine aj ?_;refine Za ?_;refine bn 1 2 35 (Zt (Cd.ret (ae.ag (ae.af ?_))));refine aZ ?_;simp at h;rw[hbf (by omega)];exact⟨rfl,ab⟩
  ·simp at h
   refine Zr ?_;refine Zf 0 Tryz.underlying105 ?_;refine ZL Tryz.underlying3 k1 ?_;refine bC ?_;refine Zm ?_;refine aw.start ?_;refine bw (fun hcx=>aa.ar 2 rfl rfl Tryz.underlying105 rfl (by kernel_rfl)) ?_;refine Zn (fun hcx=>aa.au rfl rfl Tryz.underlying9 rfl k1 rfl) ?_;refine aw.bU rfl rfl rfl rfl rfl rfl rfl (fun hcx=>Ze Tryz.func188) (fun hcx=>vw nm _ HB1 hnl) ?_;intro w2 hw2;replace ab:=ab.step hw2;replace k1:=k1.step hw2;refine Zn (fun hcx=>aa.not rfl rfl) ?_;refine fQ ?_;refine Za ?_;refine dF 1 35 (Zt ?_);refine Cd.cond rfl (fun h2=> ?_) (fun h2=> ?_)
   ·skip
    refine aj ?_;refine Za ?_;refine bn 1 2 35 (Zt (Cd.ret (ae.ag (ae.af ?_))));refine aZ ?_;simp at h2;rw[hbf (by rintro⟨-,-,-,-,-,h7⟩;rw[h7 h2.1] at h2;cases h2.2)];exact⟨rfl,ab⟩
   ·have hh:=wy a1 a2 a3 (by omega) (by omega) (fun h3=>by simp at h2;exact h2 h3)
    refine Cd.skip (ae.ah (aB ?_));refine Zf 3 Tryz.underlying105 ?_;refine ZL Tryz.underlying68 k1 ?_;refine Zc (Ze Tryz.func107) (hcl _ ab) ?_;rintro en w9 ⟨rfl,hb9⟩;refine⟨_,rfl,?_⟩;replace ab:=ab.step hb9;replace k1:=k1.step hb9;refine mD ?_;refine Za ?_;refine bn 1 2 35 (Zt (Cd.ret ?_));refine aZ ?_;refine⟨bt (aJ ?_),ab⟩;rw[hbt,hh,Bool.true_and]
    induction e.args with
    |nil=>rfl
    |cons x r ih=>simp only[List.any_cons,List.all_cons,Bool.not_or,Bool.not_not,ih]
def iZ (y:Int):Bool:=decide (y%4=0)&&(decide (y%100≠0)||decide (y%400=0))
def bP (y m:Int):Int:=if m=2 then(if iZ y then 29 else 28) else if m=4∨m=6∨m=9∨m=11 then 30 else if m=1∨m=3∨m=5∨m=7∨m=8∨m=10∨m=12 then 31 else 0
theorem Cp (y:Int)(w:World)(h0:0≤y):Calls Tryz.prog 256 #[.int .i64 y] w fun e w'=>e= .returned (.bool (iZ y))∧w=w':=by
 refine Zs 16 Tryz.func256 ?_;refine aj ?_;refine Za ?_;refine dF 0 2 (aB ?_);refine Zm ?_;refine Zv (aa.iR rfl rfl rfl (by omega) (by omega)) ?_;refine bC ?_;refine Zm ?_;refine aw.start ?_;refine bw (fun hcx=>aa.move rfl rfl) ?_;refine Zn (fun hcx=>aa.iR rfl rfl rfl (by omega) (by omega)) ?_;refine Zn (fun hcx=>aa.cW rfl rfl rfl) ?_;refine gq ?_;refine bw (fun hcx=>aa.move rfl rfl) ?_;refine Zn (fun hcx=>aa.iR rfl rfl rfl (by omega) (by omega)) ?_;refine Zn (fun hcx=>aa.fh rfl rfl rfl) ?_;refine aw.zm rfl rfl rfl rfl rfl rfl rfl rfl rfl rfl rfl ?_;refine fQ ?_;refine Za ?_;refine dF 0 2 (Zt (Cd.ret ?_));refine aZ ?_;refine⟨bt (aJ ?_),rfl⟩;unfold iZ;rw[Bool.eq_iff_iff]
theorem CY (y m:Int)(w:World)(h0:0≤y):Calls Tryz.prog 251 #[.int .i64 y, .int .i64 m] w fun e w'=>e= .returned (.int .i64 (bP y m))∧w=w':=by
 refine Zs 23 Tryz.func251 ?_;refine aj ?_;refine Za ?_;refine bn 0 1 4 (aI (aj ?_));refine Zm ?_;refine aQ 0 1 4 5 (Zt (Cd.block (aj ?_)));refine bC ?_;refine Za ?_;refine aO 0 1 4 5 6 (Zt ?_);refine Cd.ak rfl (fun h=> ?_) (fun h=> ?_)
 ·subst h
  refine Cd.seq (aj ?_);refine Zm ?_;refine Zc (Ze Tryz.func256) (Cp y _ h0) ?_;rintro e w2 ⟨rfl,rfl⟩;refine⟨_,rfl,?_⟩;refine aY 0 1 4 5 6 9 (Zt ?_);refine Cd.cond rfl (fun h2=> ?_) (fun h2=> ?_)
  ·skip
   refine aj ?_;refine Za ?_;refine aY 0 1 4 5 6 9 (Zt (Cd.ret (ae.af (ae.ag (ae.af ?_)))));refine aZ ?_;exact⟨bt (int_eq (by unfold bP;rw[if_pos rfl,if_pos h2])),rfl⟩
  ·skip
   refine Cd.skip (aB ?_);refine Za ?_;refine aY 0 1 4 5 6 9 (Zt (Cd.ret (ae.ag (ae.af ?_))));refine aZ ?_;exact⟨bt (int_eq (by unfold bP;rw[if_pos rfl,h2];rfl)),rfl⟩
 refine Cd.seq (aj ?_);refine bC ?_;refine Za ?_;refine aY 0 1 4 5 6 10 (Zt ?_);refine Cd.ak rfl (fun a4=> ?_) (fun a4=> ?_)
 ·skip
  refine Cd.skip (Zt ?_);refine Cd.aU rfl (decide_eq_true a4) ?_;refine aj ?_;refine Za ?_;refine aY 0 1 4 5 6 10 (Zt (Cd.ret (ae.ag (ae.af ?_))));refine aZ ?_;exact⟨bt (int_eq (by unfold bP;rw[if_neg h,if_pos (by omega)])),rfl⟩
 refine aj ?_;refine bC ?_;refine Za ?_;refine aY 0 1 4 5 6 10 (Zt ?_);refine Cd.ak rfl (fun a6=> ?_) (fun a6=> ?_)
 ·skip
  refine Cd.skip (Zt ?_);refine Cd.aU rfl (decide_eq_true a6) ?_;refine aj ?_;refine Za ?_;refine aY 0 1 4 5 6 10 (Zt (Cd.ret (ae.ag (ae.af ?_))));refine aZ ?_;exact⟨bt (int_eq (by unfold bP;rw[if_neg h,if_pos (by omega)])),rfl⟩
 refine aj ?_;refine bC ?_;refine Za ?_;refine aY 0 1 4 5 6 10 (Zt ?_);refine Cd.ak rfl (fun a9=> ?_) (fun a9=> ?_)
 ·skip
  refine Cd.skip (Zt ?_);refine Cd.aU rfl (decide_eq_true a9) ?_;refine aj ?_;refine Za ?_;refine aY 0 1 4 5 6 10 (Zt (Cd.ret (ae.ag (ae.af ?_))));refine aZ ?_;exact⟨bt (int_eq (by unfold bP;rw[if_neg h,if_pos (by omega)])),rfl⟩
 refine Zr ?_;refine bC ?_;refine Za ?_;refine aY 0 1 4 5 6 10 (Zt ?_);refine Cd.ak rfl (fun a11=> ?_) (fun a11=> ?_)
 ·skip
  refine aj ?_;refine Za ?_;refine aY 0 1 4 5 6 10 (Zt (Cd.ret (ae.ag (ae.af ?_))));refine aZ ?_;exact⟨bt (int_eq (by unfold bP;rw[if_neg h,if_pos (by omega)])),rfl⟩
 refine Cd.seq (aj ?_);refine bC ?_;refine Za ?_;refine ba 0 1 4 5 6 10 15 (Zt ?_);refine Cd.ak rfl (fun a1=> ?_) (fun a1=> ?_)
 ·skip
  refine Cd.skip (Zt ?_);refine Cd.aU rfl (decide_eq_true a1) ?_;refine aj ?_;refine Za ?_;refine ba 0 1 4 5 6 10 15 (Zt (Cd.ret (ae.ag (ae.af ?_))));refine aZ ?_;exact⟨bt (int_eq (by unfold bP;rw[if_neg h,if_neg (by omega),if_pos (by omega)])),rfl⟩
 refine aj ?_;refine bC ?_;refine Za ?_;refine ba 0 1 4 5 6 10 15 (Zt ?_);refine Cd.ak rfl (fun a3=> ?_) (fun a3=> ?_)
 ·skip
  refine Cd.skip (Zt ?_);refine Cd.aU rfl (decide_eq_true a3) ?_;refine aj ?_;refine Za ?_;refine ba 0 1 4 5 6 10 15 (Zt (Cd.ret (ae.ag (ae.af ?_))));refine aZ ?_;exact⟨bt (int_eq (by unfold bP;rw[if_neg h,if_neg (by omega),if_pos (by omega)])),rfl⟩
 refine aj ?_;refine bC ?_;refine Za ?_;refine ba 0 1 4 5 6 10 15 (Zt ?_);refine Cd.ak rfl (fun a5=> ?_) (fun a5=> ?_)
 ·skip
  refine Cd.skip (Zt ?_);refine Cd.aU rfl (decide_eq_true a5) ?_;refine aj ?_;refine Za ?_;refine ba 0 1 4 5 6 10 15 (Zt (Cd.ret (ae.ag (ae.af ?_))));refine aZ ?_;exact⟨bt (int_eq (by unfold bP;rw[if_neg h,if_neg (by omega),if_pos (by omega)])),rfl⟩
 refine aj ?_;refine bC ?_;refine Za ?_;refine ba 0 1 4 5 6 10 15 (Zt ?_);refine Cd.ak rfl (fun a7=> ?_) (fun a7=> ?_)
 ·skip
  refine Cd.skip (Zt ?_);refine Cd.aU rfl (decide_eq_true a7) ?_;refine aj ?_;refine Za ?_;refine ba 0 1 4 5 6 10 15 (Zt (Cd.ret (ae.ag (ae.af ?_))));refine aZ ?_;exact⟨bt (int_eq (by unfold bP;rw[if_neg h,if_neg (by omega),if_pos (by omega)])),rfl⟩
 refine aj ?_;refine bC ?_;refine Za ?_;refine ba 0 1 4 5 6 10 15 (Zt ?_);refine Cd.ak rfl (fun a8=> ?_) (fun a8=> ?_)
 ·skip
  refine Cd.skip (Zt ?_);refine Cd.aU rfl (decide_eq_true a8) ?_;refine aj ?_;refine Za ?_;refine ba 0 1 4 5 6 10 15 (Zt (Cd.ret (ae.ag (ae.af ?_))));refine aZ ?_;exact⟨bt (int_eq (by unfold bP;rw[if_neg h,if_neg (by omega),if_pos (by omega)])),rfl⟩
 refine aj ?_;refine bC ?_;refine Za ?_;refine ba 0 1 4 5 6 10 15 (Zt ?_);refine Cd.ak rfl (fun a10=> ?_) (fun a10=> ?_)
 ·skip
  refine Cd.skip (Zt ?_);refine Cd.aU rfl (decide_eq_true a10) ?_;refine aj ?_;refine Za ?_;refine ba 0 1 4 5 6 10 15 (Zt (Cd.ret (ae.ag (ae.af ?_))));refine aZ ?_;exact⟨bt (int_eq (by unfold bP;rw[if_neg h,if_neg (by omega),if_pos (by omega)])),rfl⟩
 refine Zr ?_;refine bC ?_;refine Za ?_;refine ba 0 1 4 5 6 10 15 (Zt ?_);refine Cd.ak rfl (fun a12=> ?_) (fun a12=> ?_)
 ·skip
  refine aj ?_;refine Za ?_;refine ba 0 1 4 5 6 10 15 (Zt (Cd.ret (ae.ag (ae.af ?_))));refine aZ ?_;exact⟨bt (int_eq (by unfold bP;rw[if_neg h,if_neg (by omega),if_pos (by omega)])),rfl⟩
 refine Cd.skip (ae.ah (aB ?_));refine Za ?_;refine ba 0 1 4 5 6 10 15 (Zt (Cd.ret ?_));refine aZ ?_;exact⟨bt (int_eq (by unfold bP;rw[if_neg h,if_neg (by omega),if_neg (by omega)])),rfl⟩
def fZ (y m d:Int):Bool:=decide (1970≤y)&&decide (y≤9999)&&decide (1≤d)&&decide (d≤bP y m)
def so (y m:Int):Int:=if m<3 then y-1 else y
def ofM (m:Int):Int:=if m<3 then m+9 else m-3
def fF (y m d:Int):Int:=so y m/400*146097+(so y m%400*365+so y m%400/4-so y m%400/100+((153*ofM m+2)/5+d-1))-719468
theorem ma {y m:Int}(h:0<bP y m):1≤m∧m≤12∧bP y m≤31:=by
 unfold bP at *;split
 ·split<;>omega
 ·split
  ·omega
  ·split
   ·omega
   ·rename_i h1 h2 h3
    rw[if_neg h1,if_neg h2,if_neg h3] at h;omega
theorem wX (y m d:Int)(w:World)(hy:bm y)(hm: -100≤m∧m≤100)(hd:bm d):
  Calls Tryz.prog 244 #[.int .i64 y, .int .i64 m, .int .i64 d] w fun e w'=>e= .returned (.tuple #[.int .i64 (if fZ y m d then fF y m d else 0), .bool (fZ y m d)])∧Grow w w':=by
 have ab:=Below.refl w.heap.size w;unfold bm at hy hd
 by_cases hy2:y<1970∨9999<y
 ·have hf:fZ y m d=false:=by
   unfold fZ;rw[Bool.eq_false_iff];simp;omega
  rw[hf];refine Zs 64 Tryz.func244 ?_;refine aj ?_;refine Za ?_;refine Za ?_;refine aO 0 1 2 6 7 (aI (aj ?_));refine Zm ?_;refine eI ?_;refine Zm ?_;refine aw.start ?_;refine bw (fun hcx=>aa.move rfl rfl) ?_;refine Zn (fun hcx=>aa.gtr rfl rfl rfl) ?_;refine fg ?_;refine Zm ?_;refine aw.start ?_;refine bw (fun hcx=>aa.move rfl rfl) ?_;refine Zn (fun hcx=>aa.lss rfl rfl rfl) ?_;refine fg ?_;refine Zm ?_;refine aw.start ?_;refine bw (fun hcx=>aa.move rfl rfl) ?_;refine gq ?_;refine gq ?_;refine aw.bU rfl rfl rfl rfl rfl rfl rfl (fun hcx=>Ze Tryz.func251) (fun hcx=>(by exfalso;simp[ct] at hcx;omega:Calls _ _ _ _ (fun e w'=>e= .returned (.int .i64 0)∧Grow _ w'))) ?_;intro w1 hw1;replace ab:=ab.step hw1;refine Zn (fun hcx=>aa.gtr rfl rfl rfl) ?_;refine fg ?_;refine aY 0 1 2 6 7 28 (Zt ?_);refine Cd.aU rfl (by simp;omega) ?_;refine aj ?_;refine Za ?_;refine Za ?_;refine aY 0 1 2 6 7 28 (Zt (Cd.ret (ae.af ?_)));refine dH ?_;exact⟨rfl,ab⟩
 have hdc:=fun w=>(CY y m w (by omega)).mono (fun e w' (h:e= .returned (.int .i64 (bP y m))∧w=w')=>(⟨h.1,by rw[←h.2];exact Grow.refl _⟩:e= .returned (.int .i64 (bP y m))∧Grow w w'));refine Zs 64 Tryz.func244 ?_;refine aj ?_;refine Za ?_;refine Za ?_;refine aO 0 1 2 6 7 (aI (aj ?_));refine Zm ?_;refine eI ?_;refine Zm ?_;refine aw.start ?_;refine bw (fun hcx=>aa.move rfl rfl) ?_;refine Zn (fun hcx=>aa.gtr rfl rfl rfl) ?_;refine fg ?_;refine Zm ?_;refine aw.start ?_;refine bw (fun hcx=>aa.move rfl rfl) ?_;refine Zn (fun hcx=>aa.lss rfl rfl rfl) ?_;refine fg ?_;refine Zm ?_;refine aw.start ?_;refine bw (fun hcx=>aa.move rfl rfl) ?_;refine gq ?_;refine gq ?_;refine aw.bU rfl rfl rfl rfl rfl rfl rfl (fun hcx=>Ze Tryz.func251) (fun hcx=>hdc _) ?_;intro w1 hw1;replace ab:=ab.step hw1;refine Zn (fun hcx=>aa.gtr rfl rfl rfl) ?_;refine fg ?_;refine aY 0 1 2 6 7 28 (Zt ?_);refine Cd.cond rfl (fun h=> ?_) (fun h=> ?_)
 ·have hf:fZ y m d=false:=by
   unfold fZ;rw[Bool.eq_false_iff];simp at h⊢;omega
  rw[hf];refine aj ?_;refine Za ?_;refine Za ?_;refine aY 0 1 2 6 7 28 (Zt (Cd.ret (ae.af ?_)));refine dH ?_;exact⟨rfl,ab⟩
 have hd2:1≤d∧d≤bP y m:=by
  simp at h;omega
 have hok:fZ y m d=true:=by
  unfold fZ;simp;omega
 rw[hok,if_pos rfl];obtain⟨m1,m2,m3⟩:=ma (y:=y) (m:=m) (by omega);have hz:fF y m d=so y m/400*146097+(so y m%400*365+so y m%400/4-so y m%400/100+((153*ofM m+2)/5+d-1))-719468:=rfl;have hY:1969≤so y m∧so y m≤9999:=by unfold so;split<;>omega
 have hM:0≤ofM m∧ofM m≤11:=by unfold ofM;split<;>omega
 have eY:so y m=if m<3 then y-1 else y:=rfl;have eM:ofM m=if m<3 then m+9 else m-3:=rfl
 generalize so y m=Y at *
 generalize ofM m=M at *
 refine Cd.skip (aB ?_);refine Zm ?_;refine Zm ?_;refine mC ?_;refine Za ?_;refine Za ?_;refine cB 0 1 2 6 7 8 9 28 (Zt ?_);refine Cd.lB (σ:=Unit) (fun _=>[(2, .int .i64 d),(8, .int .i64 Y),(9, .int .i64 M)]) (fun _ wr=>Below w.heap.size w wr) ?_ ?_
 ·skip
  refine aj ?_;refine Zm ?_;refine eI ?_;refine dY 0 1 2 6 7 8 9 28 33 (Zt ?_);refine Cd.ak rfl (fun hc=> ?_) (fun hc=> ?_)
  ·skip
   refine Zr ?_;refine Zm ?_;refine mC ?_;refine Zm ?_;refine cG ?_;refine Za ?_;refine Za ?_;refine dY 0 1 2 6 7 8 9 28 33 ?_;exact ae.join () ⟨rfl,congrArg (fun z=>some (Value.int .i64 z)) (by rw[eY,if_pos (by omega)]),congrArg (fun z=>some (Value.int .i64 z)) (by rw[eM,if_pos (by omega)];omega),trivial⟩ ab
  ·skip
   refine Cd.skip ?_;exact ae.join () ⟨rfl,congrArg (fun z=>some (Value.int .i64 z)) (by rw[eY,if_neg (by omega)]),congrArg (fun z=>some (Value.int .i64 z)) (by rw[eM,if_neg (by omega)]),trivial⟩ ab
 clear ab;rintro⟨⟩ wr ab;refine aj ?_;refine Zm ?_;refine Zv (aa.rF rfl rfl rfl (by omega) (by omega)) ?_;refine cG ?_;refine Zv (aa.mG rfl rfl rfl (by omega) (by omega) (by omega)) ?_;refine Zm ?_;refine cG ?_;refine mC ?_;refine Za ?_;refine aQ 2 8 9 10 (aB ?_);refine Zm ?_;refine Zv (aa.iR rfl rfl rfl (by omega) (by omega)) ?_;refine Zv (aa.rF rfl rfl rfl (by omega) (by omega)) ?_;refine Zm ?_;refine Zv (aa.iR rfl rfl rfl (by omega) (by omega)) ?_;refine Zv (aa.mG rfl rfl rfl (by omega) (by omega) (by omega)) ?_;refine cG ?_;refine Zm ?_;refine Zv (aa.iR rfl rfl rfl (by omega) (by omega)) ?_;refine Zv (aa.mG rfl rfl rfl (by omega) (by omega) (by omega)) ?_;refine mC ?_;refine Zm ?_;refine cG ?_;refine Za ?_;refine aO 2 8 9 10 11 (aB ?_);refine Zm ?_;refine Zv (aa.mG rfl rfl rfl (by omega) (by omega) (by omega)) ?_;refine Zv (aa.rF rfl rfl rfl (by omega) (by omega)) ?_;refine Zm ?_;refine cG ?_;refine mC ?_;refine Za ?_;refine Za ?_;refine ba 2 6 7 8 9 10 11 (Zt (Cd.ret ?_));refine dH ?_;exact⟨by rw[hz],ab⟩
def er (l:List Nat):Int:=if l.all fy then(dx l:Int) else -1
theorem Ee (l:List Nat)(h:l.length≤4): -1≤er l∧er l≤9999:=by
 unfold er;split
 ·rename_i ha
  have:=pP l (fun c hc=>by
   have:=List.all_eq_true.1 ha c hc;unfold fy at this;simp at this;exact this)
  have h2:10^l.length≤10^4:=Nat.pow_le_pow_right (by omega) h;omega
 ·omega
theorem vj (l:List Nat)(h:l.length≤2): -1≤er l∧er l≤99:=by
 unfold er;split
 ·rename_i ha
  have:=pP l (fun c hc=>by
   have:=List.all_eq_true.1 ha c hc;unfold fy at this;simp at this;exact this)
  have h2:10^l.length≤10^2:=Nat.pow_le_pow_right (by omega) h;omega
 ·omega
theorem ke (g:Nat)(l:List Nat)(i j:Nat)(w:World)(hl:∀x∈l,x<256)(hg:aH w g 9 #[.string (strOf l)]) (hi:i≤j) (hj:j≤l.length) (h4:j≤i+4):
  Calls Tryz.prog 243 #[.int .i64 (i:Int), .int .i64 (j:Int), .pointer (some ⟨g,0,none⟩)] w fun e w'=>e= .returned (.int .i64 (er ((l.take j).drop i)))∧Grow w w':=by
 have ab:=Below.refl w.heap.size w;have hll:l.length≤9223372036854775807∨9223372036854775807<l.length:=by omega
 have hM:∀x∈(l.take j).drop i,x<256:=j3 (ji hl j) i;have hMl:((l.take j).drop i).length≤4:=by rw[List.length_drop,List.length_take];omega
 have kg:=hg;refine Zs 33 Tryz.func243 ?_;refine aj ?_;refine Za ?_;refine aQ 0 1 2 5 (aB ?_);refine Za ?_;refine aO 0 1 2 5 6 (aI (aj ?_));refine ZL Tryz.underlying9 kg ?_;refine Zm ?_;refine Zm ?_;refine Zv (aa.lS (i:=i) (j:=j) rfl rfl rfl rfl Tryz.underlying9 rfl rfl hi hj) ?_
 generalize (l.take j).drop i=M at *
 refine Seq.wN rfl rfl Tryz.underlying9 Tryz.underlying64 Tryz.underlying5 hM rfl rfl rfl ?_;intro g13 c13 w13 hc13 n13;replace ab:=ab.step n13.below;have hrd13:=n13.reads;have hB13:=n13.lt;refine Zv (aa.len rfl rfl Tryz.underlying64) ?_;refine Zm ?_;refine cB 0 1 2 5 6 13 14 15 (Zt (Cd.block ?_))
 refine Cd.loop (σ:=Nat) (fun k=>[(6, .int .i64 ((dx (M.take k):Nat):Int)),(13, .slice (some ⟨g13,0,none⟩) M.length c13),(14, .int .i64 (M.length:Int)),(15, .int .i64 (k:Int))])
  (fun k wr=>k≤M.length∧(∀c∈M.take k,gz c)∧Below w.heap.size w wr∧Below w13.heap.size w13 wr) (fun k=>M.length-k) 0 ⟨by omega,by simp,ab,Below.refl _ _⟩ ⟨rfl,rfl,rfl,rfl,trivial⟩ ?_
 clear ab;rintro k wr ⟨hk,hdg,ab,bl13⟩;have hvl:=pP (M.take k) hdg;rw[List.length_take,Nat.min_eq_left hk] at hvl;have h10:10^k≤10^4:=Nat.pow_le_pow_right (by omega) (by omega);refine aj ?_;refine eI ?_;refine aO 6 13 14 15 16 (aI ?_);refine Cd.ak rfl (fun hc=> ?_) (fun hc=> ?_)
 ·obtain⟨c,hcc⟩:∃c,M[k]? =some c:=⟨_,List.getElem?_eq_getElem (show k<M.length by omega)⟩
  have hc256:=hM c (List.mem_of_getElem? hcc)
  have hcell:wr.cell? (Addr.add ⟨g13,0,none⟩ k)=some (.int .u8 (c:Int)):=by
   obtain⟨ad,e,hb,hcs⟩:=hrd13.2 (by omega);injection e with e
   subst e;rw[bl13.cell (by rw[av];exact hB13)];exact hcs k _ (by rw[ou,hcc];rfl)
  have htk:M.take (k+1)=M.take k++[c]:=by rw[List.take_add_one,hcc];rfl
  have hvs:dx (M.take (k+1))=10*dx (M.take k)+(c-48):=by rw[htk,oC]
  generalize hV:dx (M.take k)=V at *
  refine Cd.skip (aI (Cd.block (aj ?_)));refine Zv (aa.jy rfl rfl rfl Tryz.underlying64 (by kernel_rfl) (j:=k) rfl (by omega)) ?_;refine Zv (aa.jh rfl rfl Tryz.underlying5 rfl hcell) ?_;refine Za ?_;refine aY 6 8 13 14 15 16 (aI (aj ?_));refine Zm ?_;refine eI ?_;refine Zm ?_;refine aw.start ?_;refine bw (fun hcx=>aa.move rfl rfl) ?_;refine Zn (fun hcx=>aa.gtr rfl rfl rfl) ?_;refine fg ?_;refine ba 6 8 13 14 15 16 24 (Zt ?_);refine Cd.cond rfl (fun h=> ?_) (fun h=> ?_)
  ·have hno:¬M.all fy=true:=by
    intro ha;have:=List.all_eq_true.1 ha c (List.mem_of_getElem? hcc);unfold fy at this;simp at this h;omega
   refine aj ?_;refine Za ?_;refine cB 5 6 8 13 14 15 16 24 (Zt (Cd.ret (ae.af (ae.ag (ae.af (ae.aX (ae.ag (ae.af ?_))))))));refine aZ ?_;exact⟨bt (int_eq (by unfold er;rw[if_neg hno])),ab⟩
  ·have hcd:gz c:=by unfold gz;simp at h;omega
   have hcd2:=hcd;unfold gz at hcd2;clear h;refine Cd.skip (eh ?_);refine Zm ?_;refine Zv (aa.rF rfl rfl rfl (by omega) (by omega)) ?_;refine Zm ?_;refine Zv (aa.BW rfl rfl rfl (jW (by omega) (by omega))) ?_;refine Zv (aa.dJ rfl rfl Tryz.underlying5 Tryz.underlying3 (iO (by omega) (by omega))) ?_;refine cG ?_;refine Za ?_;refine ba 6 8 13 14 15 16 24 (ae.ah (eh ?_));refine cG ?_;refine Zm ?_;refine ba 6 8 13 14 15 16 24 ?_;refine ae.round (k+1) ⟨congrArg (fun x=>some (Value.int .i64 x)) (show(10*(V:Int)+((c:Int)-48))=((dx (M.take (k+1)):Nat):Int) by omega),rfl,rfl,rfl,trivial⟩ ⟨by omega,?_,ab,bl13⟩ (by omega);intro x hx;rw[htk] at hx;rcases List.mem_append.1 hx with h|h
   ·exact hdg x h
   ·simp at h;subst h;exact hcd
 ·obtain rfl:k=M.length:=by omega
  rw[List.take_of_length_le (Nat.le_refl _)] at hdg⊢
  have hall:M.all fy=true:=by
   rw[List.all_eq_true];intro c hc;have:=hdg c hc;unfold gz at this;unfold fy;simp;omega
  refine Cd.exit (ae.aC (ae.aA (ae.ay (aB ?_))));refine Zm ?_;refine Za ?_;refine aY 5 6 13 14 15 16 (Zt (Cd.ret ?_));refine aZ ?_;exact⟨bt (int_eq (by unfold er;rw[if_pos hall])),ab⟩
theorem ld:∀args w,(callFunc 243 args).run Tryz.prog w= .ok (.enter 243 args) w:=fun args w=>bG Tryz.func243 (by kernel_rfl) rfl args w
def df (l:List Nat):Bool:=decide (l.length=10)&&decide (l[4]? =some 45)&&decide (l[7]? =some 45)&&fZ (er ((l.take 4).drop 0)) (er ((l.take 7).drop 5)) (er ((l.take 10).drop 8))
def eZ (l:List Nat):Int:=if df l then fF (er ((l.take 4).drop 0)) (er ((l.take 7).drop 5)) (er ((l.take 10).drop 8)) else 0
theorem rS (l:List Nat)(w:World)(hl:∀x∈l,x<256)(hlen:l.length≤9223372036854775807):
  Calls Tryz.prog 239 #[.string (strOf l)] w fun e w'=>e= .returned (.tuple #[.int .i64 (eZ l), .bool (df l)])∧Grow w w':=by
 have ab:=Below.refl w.heap.size w
 by_cases h10:l.length=10
 ·obtain⟨c4,h4⟩:∃c,l[4]? =some c:=⟨_,List.getElem?_eq_getElem (by omega)⟩
  obtain⟨c7,h7⟩:∃c,l[7]? =some c:=⟨_,List.getElem?_eq_getElem (by omega)⟩;have hc4:=hl c4 (List.mem_of_getElem? h4);have hc7:=hl c7 (List.mem_of_getElem? h7);refine Zs 28 Tryz.func239 ?_;refine aj ?_;refine Seq.box rfl rfl rfl rfl rfl ?_;intro g1 w1 n1;have e1:=Nat.le_trans ab.size n1.ge;replace ab:=ab.step n1.below;have k1:=n1.an;refine Za ?_;refine Za ?_;refine aQ 0 1 2 3 (aI (aj ?_));refine ZL Tryz.underlying9 k1 ?_;refine Zv (aa.dh rfl rfl Tryz.underlying9) ?_;refine sJ ?_;refine Zm ?_;refine aw.start ?_;refine bw (fun hcx=>aa.au rfl rfl Tryz.underlying9 rfl k1 rfl) ?_;refine Zn (fun hcx=>aa.cz (l:=l) (j:=4) rfl rfl rfl Tryz.underlying9 rfl h4 hc4) ?_;refine Zn (fun hcx=>aa.cW rfl rfl rfl) ?_;refine fg ?_;refine Zm ?_;refine aw.start ?_;refine bw (fun hcx=>aa.au rfl rfl Tryz.underlying9 rfl k1 rfl) ?_;refine Zn (fun hcx=>aa.cz (l:=l) (j:=7) rfl rfl rfl Tryz.underlying9 rfl h7 hc7) ?_;refine Zn (fun hcx=>aa.cW rfl rfl rfl) ?_;refine fg ?_;refine aO 0 1 2 3 17 (Zt ?_);refine Cd.cond rfl (fun h=> ?_) (fun h=> ?_)
  ·have hf:df l=false:=by
    rw[Bool.eq_false_iff];intro h2;unfold df at h2;rw[h4,h7] at h2;simp at h2 h;omega
   have hz:eZ l=0:=by unfold eZ;rw[hf];rfl
   rw[hf,hz];refine aj ?_;refine Za ?_;refine Za ?_;refine aO 0 1 2 3 17 (Zt (Cd.ret (ae.af ?_)));refine dH ?_;exact⟨rfl,ab⟩
  ·have h45:c4=45∧c7=45:=by simp at h;omega
   have hok:df l=fZ (er ((l.take 4).drop 0)) (er ((l.take 7).drop 5)) (er ((l.take 10).drop 8)):=by
    unfold df;rw[h4,h7,h45.1,h45.2,h10];simp
   unfold eZ;rw[hok];have d1:=Ee ((l.take 4).drop 0) (by rw[List.length_drop,List.length_take];omega);have d2:=vj ((l.take 7).drop 5) (by rw[List.length_drop,List.length_take];omega);have d3:=vj ((l.take 10).drop 8) (by rw[List.length_drop,List.length_take];omega);have p1:=fun w (k1:aH w g1 9 #[.string (strOf l)])=>ke g1 l 0 4 w hl k1 (by omega) (by omega) (by omega);have p2:=fun w (k1:aH w g1 9 #[.string (strOf l)])=>ke g1 l 5 7 w hl k1 (by omega) (by omega) (by omega);have p3:=fun w (k1:aH w g1 9 #[.string (strOf l)])=>ke g1 l 8 10 w hl k1 (by omega) (by omega) (by omega)
   generalize er ((l.take 4).drop 0)=y at *
   generalize er ((l.take 7).drop 5)=m at *
   generalize er ((l.take 10).drop 8)=d at *
   refine Cd.skip (aB ?_);refine Zv (aa.makeFunc rfl (show jn _ _=some [] from rfl) (show jn _ _=some [.pointer (some ⟨g1,0,none⟩)] from rfl) rfl) ?_;refine Za ?_;refine aY 0 1 2 3 4 17 (aB ?_);refine Zm ?_;refine Seq.call (Enters.value (first:=[]) (cap:=[.pointer (some ⟨g1,0,none⟩)]) rfl rfl rfl ld) rfl rfl rfl (p1 _ k1) ?_;rintro e w5 ⟨rfl,hb5⟩;refine⟨_,rfl,?_⟩;replace ab:=ab.step hb5;replace k1:=k1.step hb5;refine Zm ?_;refine Seq.call (Enters.value (first:=[]) (cap:=[.pointer (some ⟨g1,0,none⟩)]) rfl rfl rfl ld) rfl rfl rfl (p2 _ k1) ?_;rintro e w6 ⟨rfl,hb6⟩;refine⟨_,rfl,?_⟩;replace ab:=ab.step hb6;replace k1:=k1.step hb6;refine Zm ?_;refine Seq.call (Enters.value (first:=[]) (cap:=[.pointer (some ⟨g1,0,none⟩)]) rfl rfl rfl ld) rfl rfl rfl (p3 _ k1) ?_;rintro e w7 ⟨rfl,hb7⟩;refine⟨_,rfl,?_⟩;replace ab:=ab.step hb7;replace k1:=k1.step hb7;refine Zc (Ze Tryz.func244) (wX y m d _ (by unfold bm;omega) (by omega) (by unfold bm;omega)) ?_;rintro e w8 ⟨rfl,hb8⟩;refine⟨_,rfl,?_⟩;replace ab:=ab.step hb8;replace k1:=k1.step hb8;refine Zx ?_;refine Zx ?_;refine Za ?_;refine Za ?_;refine aY 0 1 2 3 4 17 (Zt (Cd.ret ?_));refine dH ?_;exact⟨rfl,ab⟩
 ·have hf:df l=false:=by
   rw[Bool.eq_false_iff];intro h2;unfold df at h2;simp[h10] at h2
  have hz:eZ l=0:=by unfold eZ;rw[hf];rfl
  rw[hf,hz];refine Zs 28 Tryz.func239 ?_;refine aj ?_;refine Seq.box rfl rfl rfl rfl rfl ?_;intro g1 w1 n1;have e1:=Nat.le_trans ab.size n1.ge;replace ab:=ab.step n1.below;have k1:=n1.an;refine Za ?_;refine Za ?_;refine aQ 0 1 2 3 (aI (aj ?_));refine ZL Tryz.underlying9 k1 ?_;refine Zv (aa.dh rfl rfl Tryz.underlying9) ?_;refine sJ ?_;refine Zm ?_;refine aw.start ?_;refine bw (fun hcx=>aa.au rfl rfl Tryz.underlying9 rfl k1 rfl) ?_;refine Zn (fun hcx=>(by exfalso;first|(simp[ct] at hcx;omega)|simp[ct] at hcx:aa _ _ _ _ (.int .u8 0) _)) ?_;refine Zn (fun hcx=>aa.cW rfl rfl rfl) ?_;refine fg ?_;refine Zm ?_;refine aw.start ?_;refine bw (fun hcx=>aa.au rfl rfl Tryz.underlying9 rfl k1 rfl) ?_;refine Zn (fun hcx=>(by exfalso;first|(simp[ct] at hcx;omega)|simp[ct] at hcx:aa _ _ _ _ (.int .u8 0) _)) ?_;refine Zn (fun hcx=>aa.cW rfl rfl rfl) ?_;refine fg ?_;refine aO 0 1 2 3 17 (Zt ?_);refine Cd.aU rfl (by first|(simp;omega)|simp) ?_;refine aj ?_;refine Za ?_;refine Za ?_;refine aO 0 1 2 3 17 (Zt (Cd.ret (ae.af ?_)));refine dH ?_;exact⟨rfl,ab⟩
theorem bh:bW Tryz.prog 9=some (some (.string {data:= #[]})):=by kernel_rfl
theorem bK:bW Tryz.prog 221=some (some (.agg #[.int .i64 0, .string {data:= #[]}, .int .i64 0, .int .i64 0])):=by kernel_rfl
theorem kN (a c:Int)(s:ByteArray)(w:World):(Instr.build 221 #[(0, .int .i64 a),(1, .string s),(2, .int .i64 c)]).run Tryz.prog w= .ok (.agg #[.int .i64 a, .string s, .int .i64 c, .int .i64 0]) w:=by
 have hu:=Tryz.underlying221
 go_simp
theorem kS (a:Int)(s:ByteArray)(w:World):(Instr.build 221 #[(0, .int .i64 a),(1, .string s)]).run Tryz.prog w= .ok (.agg #[.int .i64 a, .string s, .int .i64 0, .int .i64 0]) w:=by
 have hu:=Tryz.underlying221
 go_simp
theorem kH (w:World):(Instr.build 221 #[]).run Tryz.prog w= .ok (.agg #[.int .i64 0, .string {data:= #[]}, .int .i64 0, .int .i64 0]) w:=by
 have hu:=Tryz.underlying221
 go_simp
theorem pI (l p:List Nat)(w:World)(hl:∀x∈l,x<256)(hp:∀x∈p,x<256):
  Calls Tryz.prog 241 #[.string (strOf l), .string (strOf p)] w fun e w'=>e= .returned (.bool (decide (l.take p.length=p)))∧w=w':=by
 have h2:∀x∈l.take p.length,x<256:=fun x hx=>hl x (List.mem_of_mem_take hx);refine Zs 18 Tryz.func241 ?_;refine aj ?_;refine Za ?_;refine bn 0 1 4 (aB ?_);refine Zm ?_;refine Zv (aa.dh rfl rfl Tryz.underlying9) ?_;refine Zm ?_;refine Zv (aa.dh rfl rfl Tryz.underlying9) ?_;refine kZ ?_;refine Zm ?_;refine aw.start ?_;refine bw (fun hcx=>aa.move rfl rfl) ?_;refine gq ?_;refine Zn (fun hcx=>aa.dh rfl rfl Tryz.underlying9) ?_;refine Zn (fun hcx=>aa.sliceTo (j:=p.length) rfl rfl rfl Tryz.underlying9 rfl (by simp[ct] at hcx;omega)) ?_;refine gq ?_;refine Zn (fun hcx=>aa.cI (a:=l.take p.length) (b:=p) rfl rfl rfl h2 hp) ?_;refine fQ ?_;refine Za ?_;refine bn 0 1 4 (Zt (Cd.ret ?_));refine aZ ?_;refine⟨bt (aJ ?_),rfl⟩;rw[Bool.eq_iff_iff];simp;intro h;have:=congrArg List.length h;rw[List.length_take] at this;omega
theorem qq (l p:List Nat)(w:World)(hl:∀x∈l,x<256)(hp:∀x∈p,x<256):
  Calls Tryz.prog 234 #[.string (strOf l), .string (strOf p)] w fun e w'=>e= .returned (.bool (decide (l.take p.length=p)))∧w=w':=by
 refine Zs 8 Tryz.func234 ?_;refine aj ?_;refine Za ?_;refine bn 0 1 4 (aB ?_);refine Zm ?_;refine Zm ?_;refine Zc (Ze Tryz.func241) (pI l p _ hl hp) ?_;rintro e w2 ⟨rfl,rfl⟩;refine⟨_,rfl,?_⟩;refine Za ?_;refine bn 0 1 4 (Zt (Cd.ret ?_));refine aZ ?_;exact⟨rfl,rfl⟩
def eW:List (List Nat):=[[60,61],[33,61],[62,61],[40],[41],[44],[43],[45],[42],[47],[60],[61],[62],[38],[124],[33]]
def tL (L:List (List Nat)):List Value:=L.map fun s=> .string (strOf s)
theorem AM (w:World):Calls Tryz.prog 233 #[] w fun e w'=>∃g,e= .returned (.slice (some ⟨g,0,none⟩) 16 16)∧aH w' g 9 (tL eW).toArray∧Grow w w':=by
 have ab:=Below.refl w.heap.size w;refine Zs 2 Tryz.func233 ?_;refine aj ?_;refine Za ?_;refine EF 0 (aB ?_);refine Seq.slice (vs:=[_,_,_,_,_,_,_,_,_,_,_,_,_,_,_,_]) (s:=1) rfl rfl rfl Tryz.underlying66 (by kernel_rfl) (bh) (by omega) (by omega) ⟨rfl,rfl,rfl,rfl,rfl,rfl,rfl,rfl,rfl,rfl,rfl,rfl,rfl,rfl,rfl,rfl,trivial⟩ rfl rfl rfl ?_;intro g1 w1 n1;have e1:=Nat.le_trans ab.size n1.ge;replace ab:=ab.step n1.below;have k1:=n1.an;refine Za ?_;refine EF 0 (Zt (Cd.ret ?_));refine aZ ?_;exact⟨_,rfl,k1,ab⟩
def dO (l:List Nat):Option (List Nat):=eW.find? fun s=>decide (l.take s.length=s)
def rI (t:List Nat):Option Int:=if t.all fy=true∧(1<t.length→t[0]? ≠some 48)∧dx t≤9223372036854775807 then some (dx t:Int) else none
theorem By {t:List Nat}:t.all fy=true↔∀c∈t,gz c:=by
 rw[List.all_eq_true]
 constructor
 ·intro h c hc
  have:=h c hc;unfold fy at this;simp at this;exact this
 ·intro h c hc
  have:=h c hc;unfold gz at this;unfold fy;simp;omega
theorem yS {t:List Nat}{v:Int}{ok:Bool}(h:zf t 0 v ok)(c:Nat)(r:List Nat)(ht:t=c::r)(hc:fy c=true):rI t=if ok then some v else none:=by
 have hc2:48≤c∧c≤57:=by unfold fy at hc;simp at hc;exact hc
 cases ok with
 |true=>
  obtain⟨-,-,hv,F,B,hf⟩:=h.1 rfl;have h0:=hf.len;have hB:B=[]:=List.eq_nil_of_length_eq_zero (by simpa using h0);subst hB;have he:=hf.eq;unfold kP at he;rw[if_neg (show¬0<(0:Int).toNat by decide),List.append_nil] at he
  have hneg:¬v<0:=by
   intro hn;rw[if_pos hn,ht] at he;injection he with he
   omega
  rw[if_neg hneg] at he;have he2:t=F:=he;subst he2;have hval:=hf.val;rw[List.append_nil] at hval;have hcond:t.all fy=true∧(1<t.length→t[0]? ≠some 48)∧dx t≤9223372036854775807:=⟨By.2 hf.f,hf.lead,by unfold bm at hv;omega⟩;unfold rI;rw[if_pos hcond,if_pos rfl,hval];congr 1;omega
 |false=>
  obtain⟨-,hno⟩:=h.2 rfl;unfold rI;rw[if_neg]
  ·rfl
  ·rintro⟨h1,h2,h3⟩
   refine hno (by omega) (by omega) (dx t:Int) (by unfold bm;omega) t [] ⟨By.1 h1,by simp,by simp,by rw[ht];simp,h2,by rw[List.append_nil];omega,?_⟩;unfold kP;rw[if_neg (show¬(dx t:Int)<0 by omega),if_neg (show¬0<(0:Int).toNat by decide),List.append_nil];rfl
def iv (l:List Nat):Bool:=decide (10≤l.length)&& !(decide (10<l.length)&&aL (l.getD 10 0))&&df (l.take 10)
theorem DZ (l:List Nat)(w:World)(hl:∀x∈l,x<256)(hlen:l.length≤9223372036854775807):
  Calls Tryz.prog 231 #[.string (strOf l)] w fun e w'=>∃a b c,e= .returned (.tuple #[.agg #[.int .i64 a, .string (strOf b), .int .i64 c, .int .i64 0], .bool (iv l)])∧(iv l=true→a=2∧b=l.take 10∧c=eZ (l.take 10))∧Grow w w':=by
 have ab:=Below.refl w.heap.size w
 have h0:10<l.length→l[10]? =some (l.getD 10 0):=by
  intro h;rw[List.getD_eq_getElem?_getD,List.getElem?_eq_getElem h];rfl
 have h1:l.getD 10 0<256:=by
  rw[List.getD_eq_getElem?_getD]
  cases hh:l[10]? with
  |none=>simp
  |some c=>exact hl c (List.mem_of_getElem? hh)
 unfold iv
 generalize l.getD 10 0=c0 at *
 refine Zs 31 Tryz.func231 ?_;refine aj ?_;refine Zl bK ?_;intro g2 w1 n2;have e2:=Nat.le_trans ab.size n2.ge;replace ab:=ab.step n2.below;have k2:=n2.an;refine Za ?_;refine bn 0 2 3 (aI (aj ?_));refine Zm ?_;refine Zv (aa.dh rfl rfl Tryz.underlying9) ?_;refine eI ?_;refine Zm ?_;refine aw.start ?_;refine bw (fun hcx=>aa.move rfl rfl) ?_;refine Zn (fun hcx=>aa.dh rfl rfl Tryz.underlying9) ?_;refine Zn (fun hcx=>aa.gtr rfl rfl rfl) ?_;refine gq ?_;refine bw (fun hcx=>aa.move rfl rfl) ?_;refine Zn (fun hcx=>aa.cz (l:=l) (j:=10) (c:=c0) rfl rfl rfl Tryz.underlying9 rfl (h0 (by simp[ct] at hcx;omega)) h1) ?_;refine aw.bU rfl rfl rfl rfl rfl rfl rfl (fun hcx=>Ze Tryz.func103) (fun hcx=>vB _ _) ?_;intro w2 hw2;replace ab:=ab.step hw2;replace k2:=k2.step hw2;refine aw.mF rfl rfl rfl rfl rfl rfl rfl rfl rfl rfl rfl ?_;refine fg ?_;refine aQ 0 2 3 18 (Zt ?_);refine Cd.cond rfl (fun h=> ?_) (fun h=> ?_)
 ·have hf:(decide (10≤l.length)&& !(decide (10<l.length)&&aL c0))=false:=by
   cases hp:aL c0 with
   |false=>rw[hp] at h;simp at h⊢;omega
   |true=>rw[hp] at h;simp at h⊢;omega
  rw[hf];refine aj ?_;refine Zv (aa.build rfl rfl (kH _)) ?_;refine Zo 4 k2 ?_;intro w3 pw3;replace ab:=ab.put k2 pw3 e2;replace k2:=pw3.an;refine Za ?_;refine aQ 0 2 3 18 (Zt (Cd.ret (ae.af ?_)));refine ae.hO rfl rfl rfl k2 Tryz.underlying221 rfl (m:=4) (by kernel_rfl) rfl (.inl rfl) ?_;exact⟨0,[],0,rfl,(fun h=>by cases h),ab⟩
 ·have hf:(decide (10≤l.length)&& !(decide (10<l.length)&&aL c0))=true:=by
   cases hp:aL c0 with
   |false=>rw[hp] at h;simp at h⊢;omega
   |true=>rw[hp] at h;simp at h⊢;omega
  have h10:10≤l.length:=by simp at hf;exact hf.1
  rw[hf,Bool.true_and];refine Cd.skip (aB ?_);refine Zm ?_;refine Zv (aa.sliceTo (j:=10) rfl rfl rfl Tryz.underlying9 rfl h10) ?_;refine Zc (Ze Tryz.func239) (rS (l.take 10) _ (ji hl 10) (by rw[List.length_take];omega)) ?_;rintro e w5 ⟨rfl,hb5⟩;refine⟨_,rfl,?_⟩;replace ab:=ab.step hb5;replace k2:=k2.step hb5;refine Zm ?_;refine Zx ?_;refine Zx ?_;refine Za ?_;refine Za ?_;refine aY 0 2 3 4 5 18 (aB ?_);refine Zm ?_;refine Zv (aa.sliceTo (j:=10) rfl rfl rfl Tryz.underlying9 rfl h10) ?_;refine Zm ?_;refine Zv (aa.build rfl rfl (kN _ _ _ _)) ?_;refine Zm ?_;refine Zo 4 k2 ?_;intro w3 pw3;replace ab:=ab.put k2 pw3 e2;replace k2:=pw3.an;refine Za ?_;refine aY 0 2 3 4 5 18 (Zt (Cd.ret ?_));refine ae.hO rfl rfl rfl k2 Tryz.underlying221 rfl (m:=4) (by kernel_rfl) rfl (.inl rfl) ?_;exact⟨2,l.take 10,eZ (l.take 10),rfl,fun _=>⟨rfl,rfl,rfl⟩,ab⟩
theorem xy (l:List Nat)(w:World)(hl:∀x∈l,x<256)(hlen:l.length≤9223372036854775807):
  Calls Tryz.prog 232 #[.string (strOf l)] w fun e w'=>∃v ok,e= .returned (.tuple #[.agg #[.int .i64 1, .string (strOf (l.take (runN aL l))), .int .i64 v, .int .i64 0], .bool ok])∧zf (l.take (runN aL l)) 0 v ok∧Grow w w':=by
 have ab:=Below.refl w.heap.size w;have hr:=gR aL l;refine Zs 22 Tryz.func232 ?_;refine aj ?_;refine Zl bK ?_;intro g2 w1 n2;have e2:=Nat.le_trans ab.size n2.ge;replace ab:=ab.step n2.below;have k2:=n2.an;refine Za ?_;refine bn 0 2 3 (aB ?_);refine Zm ?_;refine Zc (Ze Tryz.func102) (ru l _ hl hlen) ?_;rintro e w2 ⟨rfl,hb2⟩;refine⟨_,rfl,?_⟩;replace ab:=ab.step hb2;replace k2:=k2.step hb2
 generalize runN aL l=n at *
 refine Za ?_;refine aQ 0 2 3 4 (aB ?_);refine Zm ?_;refine Zm ?_;refine Zv (aa.sliceTo (j:=n) rfl rfl rfl Tryz.underlying9 rfl hr) ?_;refine Zc (Ze Tryz.func240) (wP (l.take n) 0 _ (ji hl n) (by rw[List.length_take];omega) (by unfold bm;omega)) ?_;rintro e w3 ⟨v,ok,rfl,ha,hb3⟩;refine⟨_,rfl,?_⟩;replace ab:=ab.step hb3;replace k2:=k2.step hb3;refine Zm ?_;refine Zx ?_;refine Zx ?_;refine Za ?_;refine Za ?_;refine aY 0 2 3 4 5 6 (aB ?_);refine Zm ?_;refine Zm ?_;refine Zv (aa.sliceTo (j:=n) rfl rfl rfl Tryz.underlying9 rfl hr) ?_;refine Zm ?_;refine Zv (aa.build rfl rfl (kN _ _ _ _)) ?_;refine Zm ?_;refine Zo 4 k2 ?_;intro w2 pw2;replace ab:=ab.put k2 pw2 e2;replace k2:=pw2.an;refine Za ?_;refine aY 0 2 3 4 5 6 (Zt (Cd.ret ?_));refine ae.hO rfl rfl rfl k2 Tryz.underlying221 rfl (m:=4) (by kernel_rfl) rfl (.inl rfl) ?_;exact⟨v,ok,rfl,ha,ab⟩
def gZ (l:List Nat):Option (Int × List Nat × Int):=match l with
 | []=>none
 |c::r=>if fy c then(if iv (c::r) then some (2,(c::r).take 10,eZ ((c::r).take 10)) else(rI ((c::r).take (runN aL (c::r)))).map fun v=>(1,(c::r).take (runN aL (c::r)),v))
  else if kT c then(if runN aL (c::r)≤16 then some (3,(c::r).take (runN aL (c::r)),0) else none)
  else(dO (c::r)).map fun s=>(0,s,0)
theorem yG {α:Type}(p:α→Bool):∀(L:List α) (k:Nat) (s:α),(∀j s',j<k→L[j]? =some s'→p s'=false)→L[k]? =some s→p s=true→L.find? p=some s
 | [],k,s,_,h,_=>by simp at h
 |x::L,0,s,_,h,hp=>by simp at h;subst h;simp[hp]
 |x::L,k+1,s,hn,h,hp=>by
  have h0:=hn 0 x (by omega) (by simp);rw[List.find?_cons,h0];exact yG p L k s (fun j s' hj hs=>hn (j+1) s' (by omega) (by simpa using hs)) (by simpa using h) hp
theorem yg {α:Type}(p:α→Bool)(L:List α)(h:∀(j:Nat) (s':α),L[j]? =some s'→p s'=false):L.find? p=none:=by
 rw[List.find?_eq_none];intro x hx;obtain⟨j,hj,rfl⟩:=List.getElem_of_mem hx;rw[h j _ (List.getElem?_eq_getElem hj)];simp
theorem vx:∀s∈eW,∀x∈s,x<256:=by decide
theorem BG (l:List Nat)(w:World)(hl:∀x∈l,x<256)(hlen:l.length≤9223372036854775807)(hne:l≠ []):
  Calls Tryz.prog 206 #[.string (strOf l)] w fun e w'=>∃a b c ok,e= .returned (.tuple #[.agg #[.int .i64 a, .string (strOf b), .int .i64 c, .int .i64 0], .bool ok])∧gZ l=(if ok then some (a,b,c) else none)∧Grow w w':=by
 have ab:=Below.refl w.heap.size w
 obtain⟨c0,r,hcr⟩:∃c r,l=c::r:=by
  cases l with
  |nil=>exact absurd rfl hne
  |cons c r=>exact⟨c,r,rfl⟩
 have h0:l[0]? =some c0:=by rw[hcr];rfl
 have hc256:=hl c0 (List.mem_of_getElem? h0)
 have hnw:gZ l=if fy c0 then(if iv l then some (2,l.take 10,eZ (l.take 10)) else(rI (l.take (runN aL l))).map fun v=>(1,l.take (runN aL l),v))
  else if kT c0 then(if runN aL l≤16 then some (3,l.take (runN aL l),0) else none)
  else(dO l).map fun s=>(0,s,0):=by rw[hcr];rfl
 have hrl:=gR aL l;refine Zs 49 Tryz.func206 ?_;refine aj ?_;refine Zl bK ?_;intro g2 w1 n2;have e2:=Nat.le_trans ab.size n2.ge;replace ab:=ab.step n2.below;have k2:=n2.an;refine Za ?_;refine bn 0 2 3 (aI (Cd.block (aj ?_)));refine Zm ?_;refine Zv (aa.cz (l:=l) (j:=0) rfl rfl rfl Tryz.underlying9 rfl h0 hc256) ?_;refine Zc (Ze Tryz.func145) (qI c0 _) ?_;rintro e w2 ⟨rfl,hb2⟩;refine⟨_,rfl,?_⟩;replace ab:=ab.step hb2;replace k2:=k2.step hb2;refine Za ?_;refine aQ 0 2 3 9 (Zt ?_);refine Cd.cond rfl (fun h=> ?_) (fun h=> ?_)
 ·rw[h,if_pos rfl] at hnw
  refine Cd.seq (aj ?_);refine Zm ?_;refine Zc (Ze Tryz.func231) (DZ l _ hl hlen) ?_;rintro e w3 ⟨a,b,c,rfl,hday,hb3⟩;refine⟨_,rfl,?_⟩;replace ab:=ab.step hb3;replace k2:=k2.step hb3;refine Zm ?_;refine Zx ?_;refine Zx ?_;refine Zl bK ?_;intro g4 w2 n4;have e4:=Nat.le_trans ab.size n4.ge;have l4:=Nat.lt_of_lt_of_le k2.lt n4.ge;replace ab:=ab.step n4.below;replace k2:=k2.step n4.below;have k4:=n4.an;refine Zo 4 k4 ?_;intro w3 pw3;replace ab:=ab.put k4 pw3 e4;replace k2:=k2.put pw3 (by omega);replace k4:=pw3.an;refine Za ?_;refine aY 0 2 3 4 5 9 (aB ?_);refine Zm ?_;refine ba 0 2 3 4 5 9 18 (Zt ?_);refine Cd.cond rfl (fun hd=> ?_) (fun hd=> ?_)
  ·rw[hd,if_pos rfl] at hnw
   obtain⟨rfl,rfl,rfl⟩:=hday hd;refine aj ?_;refine ZW 4 Tryz.underlying221 k4 ?_;refine Zo 4 k2 ?_;intro w4 pw4;replace ab:=ab.put k2 pw4 e2;replace k4:=k4.put pw4 (by omega);replace k2:=pw4.an;refine Za ?_;refine ba 0 2 3 4 5 9 18 (Zt (Cd.ret (ae.af (ae.ag (ae.af ?_)))));refine ae.hO rfl rfl rfl k2 Tryz.underlying221 rfl (m:=4) (by kernel_rfl) rfl (.inl rfl) ?_;exact⟨_,_,_,true,rfl,hnw,ab⟩
  ·rw[hd,if_neg (by simp)] at hnw
   refine Cd.skip (aB ?_);refine Zm ?_;refine Zc (Ze Tryz.func232) (xy l _ hl hlen) ?_;rintro e w4 ⟨v,ok,rfl,ha,hb4⟩;refine⟨_,rfl,?_⟩
   have hlt:l.take (runN aL l)=c0::(l.take (runN aL l)).drop 1:=by
    have hp:aL c0=true:=by unfold aL;rw[h];simp
    rw[hcr,eu,if_pos hp,List.take_succ_cons];rfl
   have hamt:=yS ha c0 _ hlt h;replace ab:=ab.step hb4;replace k2:=k2.step hb4;replace k4:=k4.step hb4;refine Zx ?_;refine Zx ?_;refine Zo 4 k2 ?_;intro w4 pw4;replace ab:=ab.put k2 pw4 e2;replace k4:=k4.put pw4 (by omega);replace k2:=pw4.an;refine Za ?_;refine ba 0 2 3 4 5 9 18 (Zt (Cd.ret (ae.ag (ae.af ?_))));refine ae.hO rfl rfl rfl k2 Tryz.underlying221 rfl (m:=4) (by kernel_rfl) rfl (.inl rfl) ?_;refine⟨_,_,_,ok,rfl,?_,ab⟩;rw[hnw,hamt]
   cases ok<;>rfl
 ·rw[h,if_neg (by simp)] at hnw
  refine aj ?_;refine Zm ?_;refine Zv (aa.cz (l:=l) (j:=0) rfl rfl rfl Tryz.underlying9 rfl h0 hc256) ?_;refine Zc (Ze Tryz.func101) (mX c0 _) ?_;rintro e w3 ⟨rfl,hb3⟩;refine⟨_,rfl,?_⟩;replace ab:=ab.step hb3;replace k2:=k2.step hb3;refine Za ?_;refine aO 0 2 3 9 24 (Zt ?_);refine Cd.cond rfl (fun h2=> ?_) (fun h2=> ?_)
  ·rw[h2,if_pos rfl] at hnw
   refine aj ?_;refine Zm ?_;refine Zc (Ze Tryz.func102) (ru l _ hl hlen) ?_;rintro e w4 ⟨rfl,hb4⟩;refine⟨_,rfl,?_⟩;replace ab:=ab.step hb4;replace k2:=k2.step hb4
   generalize runN aL l=n at *
   refine Za ?_;refine aY 0 2 3 6 9 24 (aB ?_);refine Zm ?_;refine Zm ?_;refine Zv (aa.sliceTo (j:=n) rfl rfl rfl Tryz.underlying9 rfl hrl) ?_;refine Zv (aa.build rfl rfl (kS _ _ _)) ?_;refine Zm ?_;refine FI ?_;refine Zo 4 k2 ?_;intro w2 pw2;replace ab:=ab.put k2 pw2 e2;replace k2:=pw2.an;refine Za ?_;refine aY 0 2 3 6 9 24 (Zt (Cd.ret (ae.ag (ae.af ?_))));refine ae.hO rfl rfl rfl k2 Tryz.underlying221 rfl (m:=4) (by kernel_rfl) rfl (.inl rfl) ?_;refine⟨3,l.take n,0,decide ((n:Int)≤16),rfl,?_,ab⟩;rw[hnw]
   by_cases hn:n≤16
   ·rw[if_pos hn,decide_eq_true (show(n:Int)≤16 by omega)];rfl
   ·rw[if_neg hn,decide_eq_false (show¬(n:Int)≤16 by omega)];rfl
  ·rw[h2,if_neg (by simp)] at hnw
   refine Cd.skip (ae.ah (aI (aj ?_)));refine Zc (Ze Tryz.func233) (AM _) ?_;rintro e w4 ⟨gs,rfl,ks,hb4⟩;refine⟨_,rfl,?_⟩;replace ab:=ab.step hb4;replace k2:=k2.step hb4;refine Zv (aa.len rfl rfl Tryz.underlying66) ?_;refine Zm ?_;refine cB 0 2 3 9 24 36 37 38 (Zt (Cd.block ?_))
   refine Cd.loop (σ:=Nat) (fun k=>[(0, .string (strOf l)),(2, .pointer (some ⟨g2,0,none⟩)),(36, .slice (some ⟨gs,0,none⟩) 16 16),(37, .int .i64 16),(38, .int .i64 (k:Int))])
    (fun k wr=>k≤16∧(∀j s',j<k→eW[j]? =some s'→decide (l.take s'.length=s')=false)∧Below w.heap.size w wr∧aH wr g2 221 #[.int .i64 0, .string {data:= #[]}, .int .i64 0, .int .i64 0]∧aH wr gs 9 (tL eW).toArray) (fun k=>16-k) 0 ⟨by omega,fun j s' hj=>absurd hj (by omega),ab,k2,ks⟩ ⟨rfl,rfl,rfl,rfl,rfl,trivial⟩ ?_
   clear ab k2 ks;rintro k wr ⟨hk,hno,ab,k2,ks⟩;refine aj ?_;refine eI ?_;refine aY 0 2 36 37 38 39 (aI ?_);refine Cd.ak rfl (fun hc=> ?_) (fun hc=> ?_)
   ·obtain⟨s,hs⟩:∃s,eW[k]? =some s:=⟨_,List.getElem?_eq_getElem (show k<eW.length by have:eW.length=16:=rfl;omega)⟩
    have hsl:=vx s (List.mem_of_getElem? hs)
    have hcell:(tL eW).toArray[k]? =some (.string (strOf s)):=by
     unfold tL;simp[hs]
    refine Cd.skip (aI (Cd.block (aj ?_)));refine Zv (aa.dS rfl rfl rfl Tryz.underlying66 (by kernel_rfl) (j:=k) rfl (by omega)) ?_;refine Zv (aa.au rfl rfl Tryz.underlying9 rfl ks hcell) ?_;refine Za ?_;refine ba 0 2 8 36 37 38 39 (aB ?_);refine Zm ?_;refine Zm ?_;refine Zc (Ze Tryz.func234) (qq l s _ hl hsl) ?_;rintro e w6 ⟨rfl,rfl⟩;refine⟨_,rfl,?_⟩;refine cB 0 2 8 36 37 38 39 44 (Zt ?_);refine Cd.cond rfl (fun h3=> ?_) (fun h3=> ?_)
    ·have hsw:dO l=some s:=yG _ eW k s hno hs h3
     rw[hsw] at hnw;refine aj ?_;refine Zm ?_;refine Zv (aa.build rfl rfl (kS _ _ _)) ?_;refine Zo 4 k2 ?_;intro w2 pw2;replace ab:=ab.put k2 pw2 e2;replace k2:=pw2.an;refine Za ?_;refine dY 0 2 3 8 36 37 38 39 44 (Zt (Cd.ret (ae.ag (ae.af (ae.aX (ae.ag (ae.af ?_)))))));refine ae.hO rfl rfl rfl k2 Tryz.underlying221 rfl (m:=4) (by kernel_rfl) rfl (.inl rfl) ?_;exact⟨0,s,0,true,rfl,hnw,ab⟩
    ·skip
     refine Cd.skip (ae.ah (eh ?_));refine cG ?_;refine Zm ?_;refine cB 0 2 8 36 37 38 39 44 ?_;refine ae.round (k+1) ⟨rfl,rfl,rfl,rfl,rfl,trivial⟩ ⟨by omega,fun j s' hj hs'=> ?_,ab,k2,ks⟩ (by omega);rcases Nat.lt_or_ge j k with h4|h4
     ·exact hno j s' h4 hs'
     ·obtain rfl:j=k:=by omega
      rw[hs] at hs';injection hs' with hs'
      subst hs';exact h3
   ·have hsw:dO l=none:=yg _ eW fun j s' hs'=>hno j s' (by
     have:=(List.getElem?_eq_some_iff.1 hs').1;have h16:eW.length=16:=rfl;omega) hs'
    rw[hsw] at hnw;refine Cd.exit (ae.aC (ae.aA (ae.ay (aB ?_))));refine Zv (aa.build rfl rfl (kH _)) ?_;refine Zo 4 k2 ?_;intro w2 pw2;replace ab:=ab.put k2 pw2 e2;replace k2:=pw2.an;refine Za ?_;refine ba 0 2 3 36 37 38 39 (Zt (Cd.ret ?_));refine ae.hO rfl rfl rfl k2 Tryz.underlying221 rfl (m:=4) (by kernel_rfl) rfl (.inl rfl) ?_;exact⟨0,[],0,false,rfl,hnw,ab⟩
end Go.Proofs.YtigoimhndlnhfaaGreat