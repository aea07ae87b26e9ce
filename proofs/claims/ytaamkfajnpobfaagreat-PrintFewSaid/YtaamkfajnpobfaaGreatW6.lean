/-
  Texts that were joined: BakC, BakD, BakE, TOpen, FewB, FewC. Conditions: what each theorem names.
-/
import Derived.Test.YtaamkfajnpobfaaGreatW5
import Derived.ProofKit
import Derived.OpenShut
import Derived.Lib.SmallJoins
import Derived.Deep.Slices
import Derived.Deep.Fields
import Derived.ChangeSame
set_option linter.unusedSectionVars false
namespace Go.Proofs.YtaamkfajnpobfaaGreat
theorem isS_iffB {ws:List Wd}{p:Nat}{s:List Nat}:isS ws p s=true↔(wAt ws p).kind=0∧(wAt ws p).text=s:=by
 unfold isS
 simp
theorem within_oneB (ws:List Wd)(E0:Nat→Nat→Rs Ex)(p d:Nat):((withinP ws [E0] p d).bind fun xs p=>Rs.ok (xs.getD 0 (.mk 0 0 [] [])) p)=(signQ ws [40] p).bind fun _ q=>(enterP q d).bind fun _ q=>(E0 q (d+1)).bind fun x q=>(signQ ws [41] q).bind fun _ q=> .ok x q:=by
 unfold withinP
 simp only[partsP,if_pos,Rs.bind_assoc,Rs.bind_ok]
 rfl
section
variable {ws:List Wd}
def At (ws:List Wd)(p:Nat)(T:List Tok):Prop:=∀j k t n,T[j]? =some (k,t,n)→(wAt ws (p+j)).kind=k∧(wAt ws (p+j)).text=t∧(wAt ws (p+j)).n=n
theorem At.left {p:Nat}{A B:List Tok}(h:At ws p (A++B)):At ws p A:=fun j k t n e=>h j k t n (by rw[List.getElem?_append_left (List.getElem?_eq_some_iff.1 e).1];exact e)
theorem At.right {p:Nat}{A B:List Tok}(h:At ws p (A++B)):At ws (p+A.length) B:=fun j k t n e=>by
 have:=h (A.length+j) k t n (by rw[List.getElem?_append_right (Nat.le_add_right _ _),Nat.add_sub_cancel_left];exact e)
 rw[Nat.add_assoc]
 exact this
theorem At.head {p:Nat}{k n:Int}{t:List Nat}{T:List Tok}(h:At ws p ((k,t,n)::T)):(wAt ws p).kind=k∧(wAt ws p).text=t∧(wAt ws p).n=n:=h 0 k t n rfl
theorem At.tail {p:Nat}{x:Tok}{T:List Tok}(h:At ws p (x::T)):At ws (p+1) T:=fun j k t n e=>by
 have:=h (j+1) k t n (by simpa using e)
 rw[show p+1+j=p+(j+1) by omega]
 exact this
theorem At.sign {p:Nat}{s:List Nat}{n:Int}{T:List Tok}(h:At ws p ((0,s,n)::T)):isS ws p s=true:=isS_iffB.2 ⟨h.head.1,h.head.2.1⟩
theorem At.signQ {p:Nat}{s:List Nat}{n:Int}{T:List Tok}(h:At ws p ((0,s,n)::T)):signQ ws s p= .ok () (p+1):=by
 unfold Go.Proofs.YtaamkfajnpobfaaGreat.signQ
 rw[if_pos h.sign]
theorem At.pow {p:Nat}{s:List Nat}{n:Int}{T:List Tok}(h:At ws p ((0,s,n)::T)):powAt ws p=powL s:=by
 unfold powAt
 rw[if_pos h.head.1,h.head.2.1]
def Nx (ws:List Wd)(p m:Nat):Prop:=∀i op,powAt ws p=some (i,op)→i<m
theorem Nx.of_none {p m:Nat}(h:powAt ws p=none):Nx ws p m:=fun i op e=>by rw[h] at e;cases e
theorem Nx.up {p m m':Nat}(h:Nx ws p m)(hm:m≤m'):Nx ws p m':=fun i op e=>Nat.lt_of_lt_of_le (h i op e) hm
def topE (e:Ex):Nat:=if(bindT e.op).2=3 then 2 else if(bindT e.op).2<6 then(bindT e.op).2.toNat else 5
structure Rd (ws:List Wd)(e:Ex):Prop where
 pos:1≤(bindT e.op).2
 low:∀(p d lvl:Nat),lvl≤5→(lvl:Int)+1≤(bindT e.op).2→d+2*e.depth≤64→At ws p (tokE e)→Nx ws (p+(tokE e).length) (topE e)→((fullP ws).S p d).bind (fun x q=>goP (fullP ws) lvl (5-lvl) x q d)=goP (fullP ws) lvl (topE e-lvl) e (p+(tokE e).length) d
 high:∀(p d:Nat),6≤(bindT e.op).2→d+2*e.depth≤64→At ws p (tokE e)→(fullP ws).S p d= .ok e (p+(tokE e).length)
theorem Rd.of_high {e:Ex}(hp:6≤(bindT e.op).2)(h:∀p d,d+2*e.depth≤64→At ws p (tokE e)→(fullP ws).S p d= .ok e (p+(tokE e).length)):Rd ws e:=
 ⟨by omega,fun p d lvl h1 h2 h3 h4 h5=>by
  have ht:topE e=5:=by unfold topE;rw[if_neg (by omega),if_neg (by omega)]
  rw[h p d h3 h4,Rs.bind_ok,ht],fun p d _ h2 h3=>h p d h2 h3⟩
theorem topE_bd {e:Ex}(h:1≤(bindT e.op).2):topE e≤5:=by
 unfold topE
 split
 ·omega
 split<;>omega
theorem enter_ok {p d:Nat}(h:d<64):enterP p d= .ok () p:=by
 unfold enterP
 rw[if_neg (by omega)]
theorem Rd.zero {e:Ex}(h:Rd ws e){p d:Nat}(hd:d+2*e.depth≤64)(ha:At ws p (tokE e))(hn:powAt ws (p+(tokE e).length)=none):(fullP ws).E 0 p d= .ok e (p+(tokE e).length):=by
 have hp:=h.pos
 rw[full_go ws p d 5 0 (by omega),h.low p d 0 (by omega) (by omega) hd ha (Nx.of_none hn)]
 have:=topE_bd hp
 exact goP_none ws 0 _ _ _ (by omega) fun i op e=>by rw[hn] at e;cases e
theorem Rd.par {e:Ex}(h:Rd ws e){p d:Nat}(hd:d+1+2*e.depth≤64)(ha:At ws p (lpK::(tokE e++[rpK]))):(fullP ws).S p d= .ok e (p+((tokE e).length+2)):=by
 have hl:=At.sign ha
 have ha1:=ha.tail
 have hr:=ha1.right
 have hz:=h.zero (p:=p+1) (d:=d+1) hd ha1.left (by rw[hr.pow];decide)
 have hdp:=e.depth_nodes
 have h1:isS ws p [33]=false:=by
  rw[Bool.eq_false_iff,Ne,isS_iffB]
  rintro⟨-,h2⟩
  rw[ha.head.2.1] at h2
  cases h2
 have h2:isS ws p [45]=false:=by
  rw[Bool.eq_false_iff,Ne,isS_iffB]
  rintro⟨-,h2⟩
  rw[ha.head.2.1] at h2
  cases h2
 rw[full_S]
 unfold unaryP
 rw[h1,if_neg (by simp),h2,if_neg (by simp)]
 unfold atomP
 rw[ha.head.1,if_neg (by decide),if_neg (by decide),if_neg (by decide),if_pos rfl,within_oneB,ha.signQ,Rs.bind_ok,enter_ok (by omega),Rs.bind_ok,hz,Rs.bind_ok,hr.signQ,Rs.bind_ok,show p+1+(tokE e).length+1=p+((tokE e).length+2) by omega]
theorem Rd.put {e:Ex}(h:Rd ws e){p d lvl:Nat}(hl:lvl≤5)(hd:d+1+2*e.depth≤64)(ha:At ws p (parK ((lvl:Int)+1) (pairK e)))(hn:Nx ws (p+(parK ((lvl:Int)+1) (pairK e)).length) lvl):(fullP ws).E lvl p d= .ok e (p+(parK ((lvl:Int)+1) (pairK e)).length):=by
 have hp:=h.pos
 have ht:=topE_bd hp
 rw[full_go ws p d (5-lvl) lvl (by omega)]
 by_cases hb:(bindT e.op).2<(lvl:Int)+1
 ·have hk:parK ((lvl:Int)+1) (pairK e)=lpK::(tokE e++[rpK]):=by unfold parK pairK;rw[if_pos hb]
  rw[hk] at ha hn⊢
  have hln:(lpK::(tokE e++[rpK])).length=(tokE e).length+2:=by simp
  rw[hln] at hn⊢
  rw[h.par hd ha,Rs.bind_ok]
  exact goP_none ws lvl _ _ _ (by omega) fun i op e=> .inl (hn i op e)
 ·have hk:parK ((lvl:Int)+1) (pairK e)=tokE e:=by unfold parK pairK;rw[if_neg hb]
  rw[hk] at ha hn⊢
  rw[h.low p d lvl hl (by omega) (by omega) ha (hn.up (by
   unfold topE
   split
   ·omega
   split<;>omega))]
  exact goP_none ws lvl _ _ _ (by omega) fun i op e=> .inl (hn i op e)
theorem parts_read {d:Nat}:∀(l:List Ex),(∀x∈l,Rd ws x∧d+2*x.depth≤64)→∀p,At ws p ((l.flatMap fun x=>cmK::tokE x)++[rpK])→partsP ws (List.replicate l.length ((fullP ws).E 0)) false p d= .ok l (p+(l.flatMap fun x=>cmK::tokE x).length)∧powAt ws p=none
 | [],_,p,ha=>⟨rfl,by rw[ha.pow];decide⟩
 |x::l,h,p,ha=>by
  have e1:((x::l).flatMap fun x=>cmK::tokE x)++[rpK]=cmK::(tokE x++((l.flatMap fun x=>cmK::tokE x)++[rpK])):=by simp[List.flatMap_cons]
  rw[e1] at ha
  obtain⟨i1,i2⟩:=parts_read l (fun y hy=>h y (by simp[hy])) _ ha.tail.right
  have hx:=(h x (by simp)).1.zero (h x (by simp)).2 ha.tail.left i2
  refine⟨?_,by rw[ha.pow];decide⟩
  rw[List.length_cons,List.replicate_succ,partsP_cons,if_neg (by simp),ha.signQ,Rs.bind_ok,hx,Rs.bind_ok,i1,Rs.bind_ok]
  congr 1
  simp[List.flatMap_cons]
  omega
theorem join_read {d:Nat}:∀(l:List Ex),(∀x∈l,Rd ws x∧d+2*x.depth≤64)→∀p,At ws p (joinK (l.map tokE)++[rpK])→partsP ws (List.replicate l.length ((fullP ws).E 0)) true p d= .ok l (p+(joinK (l.map tokE)).length)
 | [],_,p,_=>rfl
 |x::l,h,p,ha=>by
  have e1:joinK ((x::l).map tokE)=tokE x++l.flatMap fun x=>cmK::tokE x:=by rw[List.map_cons,joinK,List.flatMap_map]
  rw[e1,List.append_assoc] at ha
  obtain⟨i1,i2⟩:=parts_read l (fun y hy=>h y (by simp[hy])) _ ha.right
  have hx:=(h x (by simp)).1.zero (h x (by simp)).2 ha.left i2
  rw[List.length_cons,List.replicate_succ,partsP_cons,if_pos rfl,Rs.bind_ok,hx,Rs.bind_ok,i1,Rs.bind_ok,e1]
  congr 1
  rw[List.length_append]
  omega
theorem not_ahead {p:Nat}{k:Int}(h:(wAt ws p).kind=k)(hk:k≠0)(s:List Nat):isS ws p s=false:=by
 rw[Bool.eq_false_iff,Ne,isS_iffB]
 rintro⟨h2,-⟩
 exact hk (h.symm.trans h2)
theorem exprT_rd (N:Nat):∀e:Ex,e.nodes≤N→builtB e=true→Rd ws e:=by
 induction N with
 |zero=>intro e h;have:=e.nodes_pos;omega
 |succ N ih=>
  intro e hn hb
  obtain⟨hh,hba⟩:=builtB_inv hb
  obtain⟨h1,h2,h3,h4,h5,h6⟩:=headB_inv hh
  have hx:∀x∈e.args,Rd ws x∧x.depth<e.depth:=fun x hx=>⟨ih x (by have:=Ex.arg_nodes hx;omega) (hba x hx),Ex.arg_depth hx⟩
  have htk:=tokE_eq e
  obtain⟨op,n,nm,l⟩:=e
  simp only[Ex.op,Ex.n,Ex.name,Ex.args] at *
  have hde:1≤(Ex.mk op n nm l).depth:=by rw[Ex.depth_mk];omega
  rcases arity_ops h1 with ⟨hk,ho⟩|⟨hk,ho⟩|⟨hk,ho⟩|⟨hk,ho⟩|⟨hk,ho⟩
  ·obtain rfl:=List.eq_nil_of_length_eq_zero hk
   have ho4:op=1∨op=2∨op=3∨op=4:=by omega
   rcases ho4 with rfl|rfl|rfl|rfl
   ·obtain rfl:=h3.resolve_right (by decide)
    have ht:tokE (.mk 1 n [] [])=[(1,numT n,n)]:=htk
    refine Rd.of_high (show(6:Int)≤7 by decide) fun p d hd ha=> ?_
    rw[ht] at ha⊢
    have hk:=ha.head
    rw[full_S]
    unfold unaryP
    rw[not_ahead hk.1 (by decide),if_neg (by simp),not_ahead hk.1 (by decide),if_neg (by simp)]
    unfold atomP
    rw[hk.1,if_pos rfl,hk.2.2]
    rfl
   ·obtain rfl:=h3.resolve_right (by decide)
    have ht:tokE (.mk 2 n [] [])=[(2,dayT n.toNat,n)]:=htk
    refine Rd.of_high (show(6:Int)≤7 by decide) fun p d hd ha=> ?_
    rw[ht] at ha⊢
    have hk:=ha.head
    rw[full_S]
    unfold unaryP
    rw[not_ahead hk.1 (by decide),if_neg (by simp),not_ahead hk.1 (by decide),if_neg (by simp)]
    unfold atomP
    rw[hk.1,if_neg (by decide),if_pos rfl,hk.2.2]
    rfl
   ·obtain rfl:=h2.resolve_right (by decide)
    have ht:tokE (.mk 3 0 nm [])=[(3,nm,0)]:=htk
    have hfr:=h6 rfl
    unfold freeB at hfr
    rw[Bool.and_eq_true,Bool.not_eq_true'] at hfr
    refine Rd.of_high (show(6:Int)≤7 by decide) fun p d hd ha=> ?_
    rw[ht] at ha⊢
    have hk:=ha.head
    have hres:∀t,reservedB t=true→nm≠t:=fun t ht e=>by rw[e,ht] at hfr;cases hfr.2
    rw[full_S]
    unfold unaryP
    rw[not_ahead hk.1 (by decide),if_neg (by simp),not_ahead hk.1 (by decide),if_neg (by simp)]
    unfold atomP
    rw[hk.1,if_neg (by decide),if_neg (by decide),if_pos rfl,hk.2.1,if_neg (hres dayW (by decide)),if_neg (hres minW (by decide)),if_neg (hres maxW (by decide)),if_neg (hres ifW (by decide))]
    unfold nameP
    rw[hk.1,hk.2.1,if_pos ⟨rfl,hfr.2⟩,Rs.bind_ok]
    rfl
   ·obtain rfl:=h2.resolve_right (by decide)
    obtain rfl:=h3.resolve_right (by decide)
    have ht:tokE (.mk 4 0 [] [])=[(3,dayW,0)]:=htk
    refine Rd.of_high (show(6:Int)≤7 by decide) fun p d hd ha=> ?_
    rw[ht] at ha⊢
    have hk:=ha.head
    rw[full_S]
    unfold unaryP
    rw[not_ahead hk.1 (by decide),if_neg (by simp),not_ahead hk.1 (by decide),if_neg (by simp)]
    unfold atomP
    rw[hk.1,if_neg (by decide),if_neg (by decide),if_pos rfl,hk.2.1,if_pos rfl]
    rfl
  ·obtain rfl:=h2.resolve_right (by omega)
   obtain rfl:=h3.resolve_right (by omega)
   obtain⟨i,s,hi,hs,hps,hbd,-,g2⟩:=bin_forms ho
   match l,hk with
   | [x,y],_=>
    have ht:tokE (.mk op 0 [] [x,y])=parK (if i=2 then 4 else(i:Int)+1) (pairK x)++(0,s,0)::parK ((i:Int)+2) (pairK y):=by rw[htk];exact g2 0 [] (pairK x) (pairK y)
    obtain⟨rx,dx⟩:=hx x (by simp)
    obtain⟨ry,dy⟩:=hx y (by simp)
    have hb:(bindT (Ex.mk op 0 [] [x,y]).op).2=(i:Int)+1:=by show(bindT op).2=_;rw[hbd]
    have htop:topE (.mk op 0 [] [x,y])=if i=2 then 2 else i+1:=by
     unfold topE
     rw[hb]
     split
     ·rw[if_pos (by omega)]
     ·rw[if_pos (by omega),if_neg (by omega)]
      omega
    refine⟨by omega,fun p d lvl hl hbl hd ha hnx=> ?_,fun p d h6=>by omega⟩
    rw[hb] at hbl
    rw[htop] at hnx⊢
    rw[ht] at ha hnx⊢
    obtain⟨la,hla⟩:∃la:Int,la=if i=2 then 4 else(i:Int)+1:=⟨_,rfl⟩
    rw[←hla] at ha hnx⊢
    have hla2:(i:Int)+1≤la∧(i=2→la=4):=by rw[hla];split<;>omega
    have hpow:=ha.right.pow
    rw[hps] at hpow
    have hyA:=ha.right.tail
    have key:∃k,lvl+k≤5∧i<lvl+k∧((fullP ws).S p d).bind (fun x q=>goP (fullP ws) lvl (5-lvl) x q d)=goP (fullP ws) lvl k x (p+(parK la (pairK x)).length) d:=by
     by_cases hbx:(bindT x.op).2<la
     ·have hk:parK la (pairK x)=lpK::(tokE x++[rpK]):=by unfold parK pairK;rw[if_pos hbx]
      rw[hk] at ha⊢
      have hS:=rx.par (p:=p) (d:=d) (by omega) ha.left
      refine⟨5-lvl,by omega,by omega,?_⟩
      rw[hS,Rs.bind_ok]
      simp
     ·have hk:parK la (pairK x)=tokE x:=by unfold parK pairK;rw[if_neg hbx]
      rw[hk] at ha hpow⊢
      have htx:i<topE x:=by
       unfold topE
       split
       ·omega
       split<;>omega
      have htb:=topE_bd rx.pos
      refine⟨topE x-lvl,by omega,by omega,?_⟩
      exact rx.low p d lvl hl (by omega) (by omega) ha.left (fun j op' e=>by rw[hpow] at e;injection e with e;injection e with e _;omega)
    obtain⟨k,hk5,hik,hkey⟩:=key
    have hlen:p+(parK la (pairK x)++(0,s,0)::parK ((i:Int)+2) (pairK y)).length=p+(parK la (pairK x)).length+1+(parK ((i:Int)+2) (pairK y)).length:=by simp;omega
    rw[hlen] at hnx⊢
    have hc2:((i+1:Nat):Int)+1=(i:Int)+2:=by omega
    have hy:=ry.put (p:=p+(parK la (pairK x)).length+1) (d:=d) (lvl:=i+1) (by omega) (by omega) (by rw[hc2];exact hyA) (by rw[hc2];exact hnx.up (by split<;>omega))
    rw[hc2] at hy
    rw[hkey,goP_step ws lvl hpow k x d hk5 (by omega) hik,hy,Rs.bind_ok]
    congr 1
    split
    ·omega
    ·omega
  ·obtain rfl:=h2.resolve_right (by omega)
   obtain rfl:=h3.resolve_right (by omega)
   obtain⟨g0,g1,-,g2⟩:=call_forms (op:=op) (by omega)
   have ht:tokE (.mk op 0 [] l)=(3,callW op,0)::lpK::(joinK (l.map tokE)++[rpK]):=by rw[htk,g2,List.map_map];rfl
   refine Rd.of_high (by show 6≤(bindT op).2;omega) fun p d hd ha=> ?_
   rw[ht] at ha⊢
   have hk3:=ha.head
   have hj:=join_read (d:=d+1) l (fun x hx'=>⟨(hx x hx').1,by have:=(hx x hx').2;omega⟩) _ ha.tail.tail
   have hrp:=ha.tail.tail.right.signQ
   have hcall:calledP ws ((fullP ws).E 0) op l.length p d= .ok (.mk op 0 [] l) (p+((3,callW op,0)::lpK::(joinK (l.map tokE)++[rpK])).length):=by
    unfold calledP withinP
    rw[ha.tail.signQ,Rs.bind_ok,enter_ok (by omega),Rs.bind_ok,hj,Rs.bind_ok,hrp,Rs.bind_ok,Rs.bind_ok]
    congr 1
    simp
    omega
   rw[full_S]
   unfold unaryP
   rw[not_ahead hk3.1 (by decide),if_neg (by simp),not_ahead hk3.1 (by decide),if_neg (by simp)]
   unfold atomP
   rw[hk3.1,if_neg (by decide),if_neg (by decide),if_pos rfl,hk3.2.1,←hcall]
   rcases ho with rfl|rfl
   ·rw[if_neg (by decide),if_pos (by decide),hk]
   ·rw[if_neg (by decide),if_neg (by decide),if_pos (by decide),hk]
  ·obtain rfl:=h2.resolve_right (by omega)
   obtain rfl:=h3.resolve_right (by omega)
   obtain⟨s,hs,hbd,hop,-,g2⟩:=un_forms ho
   match l,hk with
   | [x],_=>
    have ht:tokE (.mk op 0 [] [x])=(0,s,0)::parK 6 (pairK x):=by rw[htk];exact g2 0 [] (pairK x)
    obtain⟨rx,dx⟩:=hx x (by simp)
    refine Rd.of_high (by show 6≤(bindT op).2;rw[hbd];exact Int.le_refl _) fun p d hd ha=> ?_
    rw[ht] at ha⊢
    have hS:(fullP ws).S (p+1) (d+1)= .ok x (p+1+(parK 6 (pairK x)).length):=by
     have hat:=ha.tail
     by_cases hbx:(bindT x.op).2<6
     ·have hk:parK 6 (pairK x)=lpK::(tokE x++[rpK]):=by unfold parK pairK;rw[if_pos hbx]
      rw[hk] at hat⊢
      rw[rx.par (by omega) hat]
      simp
     ·have hk:parK 6 (pairK x)=tokE x:=by unfold parK pairK;rw[if_neg hbx]
      rw[hk] at hat⊢
      exact rx.high _ _ (by omega) (by omega) hat
    have hah:aheadP (fullP ws).S op p d= .ok (.mk op 0 [] [x]) (p+((0,s,0)::parK 6 (pairK x)).length):=by
     unfold aheadP
     rw[enter_ok (by omega),Rs.bind_ok,hS,Rs.bind_ok]
     congr 1
     simp
     omega
    rw[full_S]
    unfold unaryP
    have hsg:=ha.sign
    rw[←hah]
    rcases hs with rfl|rfl
    ·rw[if_pos hsg]
     rw[if_pos rfl] at hop
     rw[hop]
    ·have h33:isS ws p [33]=false:=by
      rw[Bool.eq_false_iff,Ne,isS_iffB]
      rintro⟨-,h2⟩
      rw[ha.head.2.1] at h2
      cases h2
     rw[h33,if_neg (by simp),if_pos hsg]
     rw[if_neg (by decide)] at hop
     rw[hop]
  ·obtain rfl:=h2.resolve_right (by omega)
   obtain rfl:=h3.resolve_right (by omega)
   obtain⟨g0,g1,-,g2⟩:=call_forms (op:=op) (by omega)
   have ht:tokE (.mk op 0 [] l)=(3,callW op,0)::lpK::(joinK (l.map tokE)++[rpK]):=by rw[htk,g2,List.map_map];rfl
   refine Rd.of_high (by show 6≤(bindT op).2;omega) fun p d hd ha=> ?_
   rw[ht] at ha⊢
   have hk3:=ha.head
   have hj:=join_read (d:=d+1) l (fun x hx'=>⟨(hx x hx').1,by have:=(hx x hx').2;omega⟩) _ ha.tail.tail
   have hrp:=ha.tail.tail.right.signQ
   have hcall:calledP ws ((fullP ws).E 0) op l.length p d= .ok (.mk op 0 [] l) (p+((3,callW op,0)::lpK::(joinK (l.map tokE)++[rpK])).length):=by
    unfold calledP withinP
    rw[ha.tail.signQ,Rs.bind_ok,enter_ok (by omega),Rs.bind_ok,hj,Rs.bind_ok,hrp,Rs.bind_ok,Rs.bind_ok]
    congr 1
    simp
    omega
   rw[full_S]
   unfold unaryP
   rw[not_ahead hk3.1 (by decide),if_neg (by simp),not_ahead hk3.1 (by decide),if_neg (by simp)]
   unfold atomP
   rw[hk3.1,if_neg (by decide),if_neg (by decide),if_pos rfl,hk3.2.1,←hcall]
   subst ho
   rw[if_neg (by decide),if_neg (by decide),if_neg (by decide),if_pos (by decide),hk]
end
end Go.Proofs.YtaamkfajnpobfaaGreat
namespace Go.Proofs.YtaamkfajnpobfaaGreat
theorem at_words {ws:List Wd}{T:List Tok}(h:ws.map Wd.tok=T):At ws 0 T:=fun j k t n e=>by
 rw[←h,List.getElem?_map] at e
 rw[Nat.zero_add]
 cases hx:ws[j]? with
 |none=>rw[hx] at e;cases e
 |some x=>
  rw[hx] at e
  injection e with e
  unfold Wd.tok at e
  injection e with e1 e2
  injection e2 with e2 e3
  unfold wAt
  rw[List.getD_eq_getElem?_getD,hx]
  exact⟨e1,e2,e3⟩
theorem pow_end {ws:List Wd}{p:Nat}(h:ws.length≤p):powAt ws p=none:=by
 unfold powAt
 rw[wAt_end h]
 rfl
theorem expr_back {e:Ex}(hr:rightB e=true)(hf:fitE e=true)(h4:(exprT e).length≤4000):parseX (exprT e)=(e,0,0):=by
 unfold rightB at hr
 simp only[Bool.and_eq_true,decide_eq_true_eq] at hr
 have hlx:=(exprT_lx e.nodes e (Nat.le_refl _) hr.2 hf).lex [] [] good_nil (.nil rfl)
 rw[List.append_nil,List.append_nil] at hlx
 obtain⟨h1,h2⟩:=hlx.all
 have hlen:(tokE e).length=(lexAll (exprT e)).1.length:=by rw[←h2,List.length_map]
 have hrd:=exprT_rd (ws:=(lexAll (exprT e)).1) e.nodes e (Nat.le_refl _) hr.2
 have hz:=hrd.zero (p:=0) (d:=0) (by omega) (at_words h2) (pow_end (by omega))
 rw[Nat.zero_add] at hz
 have hq:exprQ (lexAll (exprT e)).1= .ok e (tokE e).length:=by rw[exprQ_full];exact hz
 have hpa:parAt (exprT e) (exprQ (lexAll (exprT e)).1)=(0,0):=by
  unfold parAt
  rw[if_neg (by omega),h1,hq]
  exact if_pos hlen
 unfold parseX
 rw[hpa,if_neg (by simp),hq]
 dsimp only
 rw[if_pos]
 unfold rightB
 simp only[Bool.and_eq_true,decide_eq_true_eq]
 exact hr
def parC (least:Int)(x:Int × Nat):Nat:=if x.1<least then 1+x.2 else x.2
def headC (op:Int)(l:List (Int × Nat)):Nat:=
 if op=1 then 0 else if op=2 then 0 else if op=3 then 0 else if op=4 then 0
 else if(bindT op).2=6 then parC 6 (l.getD 0 (7,0))
 else if(bindT op).2=3 then parC 4 (l.getD 0 (7,0))+parC 4 (l.getD 1 (7,0))
 else if(bindT op).2<6 then parC (bindT op).2 (l.getD 0 (7,0))+parC ((bindT op).2+1) (l.getD 1 (7,0))
 else 1+(l.map (·.2)).sum
mutual
def cntE:Ex→Nat
 | .mk op _ _ l=>headC op (cntEL l)
def cntEL:List Ex→List (Int × Nat)
 | []=>[]
 |e::r=>((bindT e.op).2,cntE e)::cntEL r
end
def pairC (e:Ex):Int × Nat:=((bindT e.op).2,cntE e)
theorem cntEL_map:∀l,cntEL l=l.map pairC
 | []=>by rw[cntEL];rfl
 |e::r=>by rw[cntEL,cntEL_map r];rfl
theorem cntE_eq (e:Ex):cntE e=headC e.op (e.args.map pairC):=by cases e;rw[cntE,cntEL_map];rfl
theorem cntE_mk (op n:Int)(nm:List Nat)(l:List Ex):cntE (.mk op n nm l)=headC op (l.map pairC):=cntE_eq _
theorem parT_count (least b:Int)(l:List Nat):(parT least (b,l)).count 40=parC least (b,l.count 40):=by
 unfold parT parC
 dsimp only
 split
 ·simp[List.count_append,List.count_cons]
  omega
 ·rfl
theorem joinT_count:∀l:List (List Nat),(joinT l).count 40=(l.map (List.count 40)).sum
 | []=>rfl
 |s::r=>by
  have:∀r:List (List Nat),(r.flatMap fun t=>[44,32]++t).count 40=(r.map (List.count 40)).sum:=by
   intro r
   induction r with
   |nil=>rfl
   |cons t r ih=>rw[List.flatMap_cons,List.count_append,ih];simp[List.count_cons]
  rw[joinT,List.count_append,this]
  simp
theorem count_none {l:List Nat}(h:∀x∈l,x≠40):l.count 40=0:=List.count_eq_zero.2 fun hm=>h 40 hm rfl
theorem bin_cnt {op:Int}(h:(5≤op∧op≤8)∨(11≤op∧op≤18)):∃(i:Nat) (s:List Nat),i<5∧bindT op=(s,(i:Int)+1)∧s.count 40=0∧
  (∀n nm x y,headT op n nm [x,y]=parT (if i=2 then 4 else(i:Int)+1) x++[32]++s++[32]++parT ((i:Int)+2) y)∧(∀x y,headC op [x,y]=parC (if i=2 then 4 else(i:Int)+1) x+parC ((i:Int)+2) y):=by
 have ho:op=5∨op=6∨op=7∨op=8∨op=11∨op=12∨op=13∨op=14∨op=15∨op=16∨op=17∨op=18:=by omega
 rcases ho with rfl|rfl|rfl|rfl|rfl|rfl|rfl|rfl|rfl|rfl|rfl|rfl
 ·exact⟨3,[43],by decide,by decide,by decide,fun _ _ _ _=>rfl,fun _ _=>rfl⟩
 ·exact⟨3,[45],by decide,by decide,by decide,fun _ _ _ _=>rfl,fun _ _=>rfl⟩
 ·exact⟨4,[42],by decide,by decide,by decide,fun _ _ _ _=>rfl,fun _ _=>rfl⟩
 ·exact⟨4,[47],by decide,by decide,by decide,fun _ _ _ _=>rfl,fun _ _=>rfl⟩
 ·exact⟨2,[60],by decide,by decide,by decide,fun _ _ _ _=>rfl,fun _ _=>rfl⟩
 ·exact⟨2,[60,61],by decide,by decide,by decide,fun _ _ _ _=>rfl,fun _ _=>rfl⟩
 ·exact⟨2,[61],by decide,by decide,by decide,fun _ _ _ _=>rfl,fun _ _=>rfl⟩
 ·exact⟨2,[33,61],by decide,by decide,by decide,fun _ _ _ _=>rfl,fun _ _=>rfl⟩
 ·exact⟨2,[62,61],by decide,by decide,by decide,fun _ _ _ _=>rfl,fun _ _=>rfl⟩
 ·exact⟨2,[62],by decide,by decide,by decide,fun _ _ _ _=>rfl,fun _ _=>rfl⟩
 ·exact⟨1,[38],by decide,by decide,by decide,fun _ _ _ _=>rfl,fun _ _=>rfl⟩
 ·exact⟨0,[124],by decide,by decide,by decide,fun _ _ _ _=>rfl,fun _ _=>rfl⟩
theorem un_cnt {op:Int}(h:op=19∨op=20):∃s:List Nat,s.count 40=0∧(∀n nm x,headT op n nm [x]=s++parT 6 x)∧(∀x,headC op [x]=parC 6 x):=by
 rcases h with rfl|rfl
 ·exact⟨[33],by decide,fun _ _ _=>rfl,fun _=>rfl⟩
 ·exact⟨[45],by decide,fun _ _ _=>rfl,fun _=>rfl⟩
theorem call_cnt {op:Int}(h:op=9∨op=10∨op=21):(callW op).count 40=0∧(∀n nm l,headT op n nm l=callW op++[40]++joinT (l.map (·.2))++[41])∧(∀l,headC op l=1+(l.map (·.2)).sum):=by
 rcases h with rfl|rfl|rfl<;>exact⟨by decide,fun _ _ _=>rfl,fun _=>rfl⟩
theorem name_no40 {t:List Nat}(h:namedB t=true):t.count 40=0:=by
 unfold namedB at h
 simp only[Bool.and_eq_true,decide_eq_true_eq] at h
 have hall:=runN_all partB t
 rw[h.2,List.take_length] at hall
 exact count_none fun x hx e=>by have:=hall x hx;rw[e] at this;revert this;decide
theorem num_no40 {n:Int}(h0:0≤n)(h1:n≤9223372036854775807):(numT n).count 40=0:=by
 have:=(num_next h0 h1 good_nil).1
 rw[List.append_nil] at this
 obtain⟨F,B,hf⟩:=form_of_printed n 0 _ (rounds_numN n.natAbs (by omega))
 have he:=hf.eq
 have hB:B=[]:=List.eq_nil_of_length_eq_zero hf.len
 subst hB
 have hT:numT n=F:=by
  unfold numT
  rw[he]
  unfold FormL
  rw[if_neg (by omega),if_neg (by omega),List.append_nil]
  rfl
 rw[hT]
 exact count_none fun x hx e=>by have:=hf.f x hx;rw[e] at this;unfold isDg at this;omega
theorem digR_no40 (v:Nat):∀n,∀x∈digR v n,x≠40
 |0,x,h=>by cases h
 |n+1,x,h=>by
  unfold digR at h
  rcases List.mem_cons.1 h with rfl|h
  ·omega
  ·exact digR_no40 v n x h
theorem day_no40 (n:Nat):(dayT n).count 40=0:=by
 unfold dayT printD
 refine count_none fun x hx=> ?_
 simp only[List.mem_append,List.mem_singleton] at hx
 rcases hx with (((h|rfl)|h)|rfl)|h
 ·exact digR_no40 _ _ x h
 ·decide
 ·exact digR_no40 _ _ x h
 ·decide
 ·exact digR_no40 _ _ x h
theorem exprT_count (N:Nat):∀e:Ex,e.nodes≤N→builtB e=true→fitE e=true→(exprT e).count 40=cntE e:=by
 induction N with
 |zero=>intro e h;have:=e.nodes_pos;omega
 |succ N ih=>
  intro e hn hb hf
  obtain⟨hh,ha⟩:=builtB_inv hb
  obtain⟨h1,h2,h3,h4,h5,h6⟩:=headB_inv hh
  obtain⟨f1,f2⟩:=fitE_inv hf
  have hx:∀x∈e.args,(exprT x).count 40=cntE x:=fun x hx=>ih x (by have:=Ex.arg_nodes hx;omega) (ha x hx) (f2 x hx)
  rw[exprT_eq,cntE_eq]
  obtain⟨op,n,nm,l⟩:=e
  simp only[Ex.op,Ex.n,Ex.name,Ex.args] at *
  have hsum:(l.map fun x=>(exprT x).count 40)=l.map fun x=>cntE x:=List.map_congr_left fun x hx'=>hx x hx'
  have hcall:∀op,op=9∨op=10∨op=21→(headT op n nm (l.map pairT)).count 40=headC op (l.map pairC):=fun op ho=>by
   obtain⟨g0,g1,g2⟩:=call_cnt ho
   rw[g1,g2,List.count_append,List.count_append,List.count_append,g0,joinT_count,List.map_map,List.map_map,List.map_map]
   have e1:(l.map (((List.count 40)∘fun x=>x.2)∘pairT))=l.map fun x=>cntE x:=hsum
   have e2:(l.map ((fun x=>x.2)∘pairC))=l.map fun x=>cntE x:=rfl
   rw[e1,e2]
   simp
  rcases arity_ops h1 with ⟨hk,ho⟩|⟨hk,ho⟩|⟨hk,ho⟩|⟨hk,ho⟩|⟨hk,ho⟩
  ·obtain rfl:=List.eq_nil_of_length_eq_zero hk
   have ho4:op=1∨op=2∨op=3∨op=4:=by omega
   rcases ho4 with rfl|rfl|rfl|rfl
   ·exact num_no40 h4 f1
   ·exact day_no40 _
   ·have hfr:=h6 rfl
    unfold freeB at hfr
    rw[Bool.and_eq_true] at hfr
    exact name_no40 hfr.1
   ·show dayW.count 40=0
    decide
  ·obtain⟨i,s,-,-,hs,g1,g2⟩:=bin_cnt ho
   match l,hk with
   | [x,y],_=>
    show(headT op n nm [pairT x,pairT y]).count 40=headC op [pairC x,pairC y]
    have e1:∀least z,z∈ [x,y]→(parT least (pairT z)).count 40=parC least (pairC z):=fun least z hz=>by
     rw[show pairT z=((bindT z.op).2,exprT z) from rfl,parT_count,hx z hz]
     rfl
    rw[g1,g2,List.count_append,List.count_append,List.count_append,List.count_append,e1 _ x (by simp),e1 _ y (by simp),hs]
    simp
  ·exact hcall op (by omega)
  ·obtain⟨s,hs,g1,g2⟩:=un_cnt ho
   match l,hk with
   | [x],_=>
    show(headT op n nm [pairT x]).count 40=headC op [pairC x]
    rw[g1,g2,List.count_append,hs,show pairT x=((bindT x.op).2,exprT x) from rfl,parT_count,hx x (by simp),Nat.zero_add]
    rfl
  ·exact hcall op (by omega)
end Go.Proofs.YtaamkfajnpobfaaGreat
namespace Go.Proofs.YtaamkfajnpobfaaGreat
def isLp (x:Wd):Bool:=decide (x.kind=0)&&decide (x.text=[40])
def cn (ws:List Wd)(p:Nat):Nat:=(ws.take p).countP isLp
section
variable {ws:List Wd}
theorem cn_step (p:Nat):cn ws (p+1)=cn ws p+(if isS ws p [40]=true then 1 else 0):=by
 unfold cn isS wAt
 rw[List.take_add_one,List.countP_append,List.getD_eq_getElem?_getD]
 cases ws[p]? with
 |none=>rfl
 |some x=>
  show _+List.countP isLp [x]=_+if(decide (x.kind=0)&&decide (x.text=[40]))=true then 1 else 0
  rw[List.countP_singleton]
  rfl
theorem cn_mono {p q:Nat}(h:p≤q):cn ws p≤cn ws q:=by
 obtain⟨k,rfl⟩:=Nat.le.dest h
 induction k with
 |zero=>exact Nat.le_refl _
 |succ k ih=>
  have:=cn_step (ws:=ws) (p+k)
  rw[←Nat.add_assoc,this]
  have:=ih (Nat.le_add_right _ _)
  omega
theorem bind_pos (op:Int):1≤(bindT op).2:=by
 unfold bindT
 split
 ·decide
 ·have:∀k,k<16→1≤signP.getD k 7:=by decide
  exact this _ (by omega)
theorem parC_mono {a b:Int}(h:a≤b)(x:Int × Nat):parC a x≤parC b x:=by
 unfold parC
 split
 ·rw[if_pos (by omega)];omega
 ·split<;>omega
theorem parC_one (x:Ex):parC 1 (pairC x)=cntE x:=by
 unfold parC pairC
 have:=bind_pos x.op
 rw[if_neg (by dsimp only;omega)]
theorem parC_le (a:Int)(x:Ex):parC a (pairC x)≤1+cntE x:=by
 unfold parC pairC
 dsimp only
 split<;>omega
def CnE (ws:List Wd)(least:Int)(f:Nat→Nat→Rs Ex):Prop:=∀p d x q,f p d= .ok x q→parC least (pairC x)+cn ws p≤cn ws q
theorem parts_cn {α:Type}(m:α→Nat):∀(ones:List (Nat→Nat→Rs α)),(∀f∈ones,∀p d x q,f p d= .ok x q→m x+cn ws p≤cn ws q)→∀first p d xs q,partsP ws ones first p d= .ok xs q→(xs.map m).sum+cn ws p≤cn ws q
 | [],_,first,p,d,xs,q,h=>by
  injection h with h h2
  subst h h2
  simp
 |f::r,hm,first,p,d,xs,q,h=>by
  rw[partsP] at h
  obtain⟨u,p1,h1,h⟩:=Rs.bind_eq_ok h
  obtain⟨x,p2,h2,h⟩:=Rs.bind_eq_ok h
  obtain⟨ys,p3,h3,h⟩:=Rs.bind_eq_ok h
  injection h with h h4
  subst h h4
  have e1:p≤p1:=by
   split at h1
   ·injection h1 with _ h1;omega
   ·have:=(signQ_ok h1).1;omega
  have e0:=cn_mono (ws:=ws) e1
  have e2:=hm f (by simp) _ _ _ _ h2
  have e3:=parts_cn m r (fun g hg=>hm g (by simp[hg])) _ _ _ _ _ h3
  simp only[List.map_cons,List.sum_cons]
  omega
theorem within_cn {α:Type}{m:α→Nat}{ones:List (Nat→Nat→Rs α)}(hm:∀f∈ones,∀p d x q,f p d= .ok x q→m x+cn ws p≤cn ws q){p d q:Nat}{xs:List α}(h:withinP ws ones p d= .ok xs q):(xs.map m).sum+1+cn ws p≤cn ws q:=by
 unfold withinP at h
 obtain⟨u,p1,h1,h⟩:=Rs.bind_eq_ok h
 obtain⟨u2,p2,h2,h⟩:=Rs.bind_eq_ok h
 obtain⟨ys,p3,h3,h⟩:=Rs.bind_eq_ok h
 obtain⟨u3,p4,h4,h⟩:=Rs.bind_eq_ok h
 injection h with h h5
 subst h h5
 have e3:=parts_cn m ones hm _ _ _ _ _ h3
 obtain⟨rfl,g1⟩:=signQ_ok h1
 have e2:=(enterP_ok h2).1
 obtain⟨rfl,-⟩:=signQ_ok h4
 have:=cn_step (ws:=ws) p
 rw[g1,if_pos rfl] at this
 have:=cn_mono (ws:=ws) (Nat.le_add_right p3 1)
 subst e2
 omega
theorem called_cn {E0:Nat→Nat→Rs Ex}(hE:CnE ws 1 E0){op:Int}(ho:op=9∨op=10∨op=21){k p d q:Nat}{x:Ex}(h:calledP ws E0 op k p d= .ok x q):parC 6 (pairC x)+cn ws p≤cn ws q:=by
 unfold calledP at h
 obtain⟨xs,p1,h1,h⟩:=Rs.bind_eq_ok h
 injection h with h h2
 subst h h2
 have hw:=within_cn (m:=cntE) (fun f hf=>(List.mem_replicate.1 hf).2▸fun p d x q h=>by have:=hE p d x q h;rwa [parC_one] at this) h1
 obtain⟨-,-,hc⟩:=call_cnt ho
 have hcnt:cntE (.mk op 0 [] xs)=1+(xs.map cntE).sum:=by
  rw[cntE_mk,hc,List.map_map]
  rfl
 have hp:parC 6 (pairC (.mk op 0 [] xs))=cntE (.mk op 0 [] xs):=by
  unfold parC pairC
  rw[if_neg]
  show¬(bindT op).2<6
  rcases ho with rfl|rfl|rfl<;>decide
 have:=cn_mono (ws:=ws) (Nat.le_add_right p 1)
 omega
theorem leaf_cn {op n:Int}{nm:List Nat}(h:op=1∨op=2∨op=3∨op=4){p:Nat}:parC 6 (pairC (.mk op n nm []))+cn ws p≤cn ws (p+1):=by
 have h0:parC 6 (pairC (.mk op n nm []))=0:=by
  unfold pairC
  rw[cntE_mk]
  show parC 6 ((bindT op).2,headC op [])=0
  rcases h with rfl|rfl|rfl|rfl<;>decide
 have:=cn_mono (ws:=ws) (Nat.le_add_right p 1)
 omega
theorem atom_cn {E0:Nat→Nat→Rs Ex}(hE:CnE ws 1 E0):CnE ws 6 (atomP ws E0):=by
 intro p d x q h
 unfold atomP at h
 split at h
 ·injection h with h h2
  subst h h2
  exact leaf_cn (.inl rfl)
 split at h
 ·injection h with h h2
  subst h h2
  exact leaf_cn (.inr (.inl rfl))
 split at h
 ·split at h
  ·injection h with h h2
   subst h h2
   exact leaf_cn (.inr (.inr (.inr rfl)))
  split at h
  ·exact called_cn hE (.inl rfl) h
  split at h
  ·exact called_cn hE (.inr (.inl rfl)) h
  split at h
  ·exact called_cn hE (.inr (.inr rfl)) h
  ·obtain⟨nm,p1,h1,h⟩:=Rs.bind_eq_ok h
   injection h with h h2
   subst h h2
   obtain rfl:=(nameP_eq h1).1
   exact leaf_cn (.inr (.inr (.inl rfl)))
 split at h
 ·obtain⟨xs,p1,h1,h⟩:=Rs.bind_eq_ok h
  injection h with h h2
  have hl:=withinP_len h1
  have hw:=within_cn (m:=cntE) (fun f hf=>(List.mem_singleton.1 hf)▸fun p d x q h=>by have:=hE p d x q h;rwa [parC_one] at this) h1
  match xs,hl with
  | [y],_=>
   subst h h2
   simp at hw
   have:=parC_le 6 y
   show parC 6 (pairC y)+cn ws p≤cn ws p1
   omega
 ·cases h
theorem ahead_cn {S:Nat→Nat→Rs Ex}(hS:CnE ws 6 S){op:Int}(ho:op=19∨op=20):CnE ws 6 (aheadP S op):=by
 intro p d x q h
 unfold aheadP at h
 obtain⟨u,p1,h1,h⟩:=Rs.bind_eq_ok h
 obtain⟨y,p2,h2,h⟩:=Rs.bind_eq_ok h
 injection h with h h3
 subst h h3
 obtain⟨rfl,-⟩:=enterP_ok h1
 have h4:=hS _ _ _ _ h2
 obtain⟨s,-,-,hc⟩:=un_cnt ho
 have hp:parC 6 (pairC (.mk op 0 [] [y]))=parC 6 (pairC y):=by
  have h6:(bindT op).2=6:=by rcases ho with rfl|rfl<;>decide
  unfold parC
  rw[show pairC (.mk op 0 [] [y])=((bindT op).2,cntE (.mk op 0 [] [y])) from rfl,if_neg (by dsimp only;omega),cntE_mk]
  exact hc (pairC y)
 have:=cn_mono (ws:=ws) (Nat.le_add_right p1 1)
 omega
theorem unary_cn {S E0:Nat→Nat→Rs Ex}(hS:CnE ws 6 S)(hE:CnE ws 1 E0):CnE ws 6 (unaryP ws S E0):=by
 intro p d x q h
 unfold unaryP at h
 split at h
 ·exact ahead_cn hS (.inl rfl) _ _ _ _ h
 split at h
 ·exact ahead_cn hS (.inr rfl) _ _ _ _ h
 ·exact atom_cn hE _ _ _ _ h
def laZ (lvl:Nat):Int:=if lvl=2 then 4 else(lvl:Int)+1
theorem ops_bin:∀lvl,∀op∈opsAt lvl,lvl<5∧(((5≤op∧op≤8)∨(11≤op∧op≤18))∧(bindT op).2=(lvl:Int)+1):=fun lvl=>by
 unfold opsAt
 split
 ·decide
 ·decide
 ·decide
 ·decide
 ·decide
 ·intro op h;cases h
structure CnF (ws:List Wd)(f:PF):Prop where
 E:∀lvl:Nat,lvl≤5→CnE ws ((lvl:Int)+1) (f.E lvl)
 L:∀(lvl:Nat) x p d y q,f.L lvl x p d= .ok y q→parC ((lvl:Int)+1) (pairC y)+cn ws p≤cn ws q+parC (laZ lvl) (pairC x)
 S:CnE ws 6 f.S
theorem loop_cn {f:PF}(hf:CnF ws f){lvl p d q:Nat}{x y:Ex}(h:loopP ws f lvl x p d= .ok y q):parC ((lvl:Int)+1) (pairC y)+cn ws p≤cn ws q+parC (laZ lvl) (pairC x):=by
 have hla:(lvl:Int)+1≤laZ lvl:=by unfold laZ;split<;>omega
 unfold loopP at h
 cases ho:opAt ws lvl p with
 |none=>
  rw[ho] at h
  injection h with h h2
  subst h h2
  have:=parC_mono hla (pairC x)
  omega
 |some op=>
  rw[ho] at h
  obtain⟨r,p1,h1,h⟩:=Rs.bind_eq_ok h
  obtain⟨hl5,hb,hb2⟩:=ops_bin lvl op (opAt_mem ho)
  have h2:=hf.E (lvl+1) (by omega) _ _ _ _ h1
  obtain⟨i,s,-,hbi,-,-,hc⟩:=bin_cnt hb
  obtain rfl:i=lvl:=by
   rw[hbi] at hb2
   have hb2:(i:Int)+1=(lvl:Int)+1:=hb2
   omega
  have hcm:cntE (mk2 op x r)=parC (laZ i) (pairC x)+parC ((i:Int)+2) (pairC r):=by
   unfold mk2
   rw[cntE_mk]
   exact hc _ _
  have hpm:∀a:Int,a≤(i:Int)+1→parC a (pairC (mk2 op x r))=cntE (mk2 op x r):=fun a ha=>by
   unfold parC
   rw[show pairC (mk2 op x r)=((bindT op).2,cntE (mk2 op x r)) from rfl,if_neg (by dsimp only;omega)]
  have hst:=cn_mono (ws:=ws) (Nat.le_add_right p 1)
  have hcast:((i+1:Nat):Int)+1=(i:Int)+2:=by omega
  rw[hcast] at h2
  split at h
  ·injection h with h h3
   subst h h3
   rw[hpm _ (Int.le_refl _),hcm]
   omega
  ·rename_i hi2
   have h3:=hf.L _ _ _ _ _ _ h
   have hl:laZ i=(i:Int)+1:=by unfold laZ;rw[if_neg hi2]
   have hm:=hpm (laZ i) (by rw[hl];exact Int.le_refl _)
   rw[hm,hcm] at h3
   omega
theorem lev_cn {L:Nat→Ex→Nat→Nat→Rs Ex}{S:Nat→Nat→Rs Ex}(hL:∀(lvl:Nat) x p d y q,L lvl x p d= .ok y q→parC ((lvl:Int)+1) (pairC y)+cn ws p≤cn ws q+parC (laZ lvl) (pairC x))(hS:CnE ws 6 S):∀i:Nat,i≤5→CnE ws (6-(i:Int)) (levN L S i)
 |0,_=>hS
 |i+1,hi=>fun p d x q h=>by
  rw[levN] at h
  obtain⟨y,p1,h1,h⟩:=Rs.bind_eq_ok h
  have h2:=hL _ _ _ _ _ _ h
  have h3:=lev_cn hL hS i (by omega) _ _ _ _ h1
  have h4:laZ (4-i)≤6-(i:Int):=by unfold laZ;split<;>omega
  have h5:=parC_mono h4 (pairC y)
  have h6:((4-i:Nat):Int)+1=6-((i+1:Nat):Int):=by omega
  rw[h6] at h2
  omega
theorem fuel_cn (ws:List Wd):∀n,CnF ws (fuelP ws n)
 |0=>⟨fun _ _ _ _ _ _ h=>by(cases h),fun _ _ _ _ _ _ h=>by(cases h),fun _ _ _ _ h=>by(cases h)⟩
 |n+1=>by
  have ih:=fuel_cn ws n
  have hL:∀(lvl:Nat) x p d y q,loopP ws (fuelP ws n) lvl x p d= .ok y q→parC ((lvl:Int)+1) (pairC y)+cn ws p≤cn ws q+parC (laZ lvl) (pairC x):=fun lvl x p d y q h=>loop_cn ih h
  have hS:=unary_cn (ws:=ws) ih.S (ih.E 0 (by omega))
  refine⟨fun lvl hl=> ?_,hL,hS⟩
  have:=lev_cn hL hS (5-lvl) (by omega)
  rw[show 6-((5-lvl:Nat):Int)=(lvl:Int)+1 by omega] at this
  exact this
end
theorem lexW_lp (l:List Nat):∀f p,(lexW f l p).1.countP isLp≤(l.drop p).count 40
 |0,p=>by simp[lexW]
 |f+1,p=>by
  rcases Nat.lt_or_ge p l.length with hlt|hge
  ·rw[lexW_step f l p hlt]
   cases hn:nextW (l.drop p) with
   |none=>simp
   |some z=>
    obtain⟨k,t,n⟩:=z
    obtain⟨h1,h2,h3⟩:=nextW_spec hn
    have ih:=lexW_lp l f (p+t.length+blankN (l.drop (p+t.length)))
    dsimp only
    rw[List.countP_cons]
    obtain⟨b,hb⟩:∃b,blankN (l.drop (p+t.length))=b:=⟨_,rfl⟩
    rw[hb] at ih⊢
    have e1:l.drop p=t++((l.drop (p+t.length)).take b++l.drop (p+t.length+b)):=by
     have e2:l.drop (p+t.length+b)=(l.drop (p+t.length)).drop b:=by rw[List.drop_drop]
     rw[e2,List.take_append_drop]
     have e3:l.drop (p+t.length)=(l.drop p).drop t.length:=by rw[List.drop_drop]
     rw[e3]
     conv=>lhs;rw[←List.take_append_drop t.length (l.drop p)]
     rw[←h2]
    rw[e1,List.count_append,List.count_append]
    have h4:(if isLp ⟨k,t,n,p⟩=true then 1 else 0)≤t.count 40:=by
     split
     ·rename_i hl
      unfold isLp at hl
      simp only[Bool.and_eq_true,decide_eq_true_eq] at hl
      rw[hl.2]
      decide
     ·omega
    omega
  ·rw[lexW_end _ _ _ hge]
   simp
theorem expr_few {e:Ex}(hr:rightB e=true)(hf:fitE e=true){s:List Nat}(hs:s.count 40<(exprT e).count 40):(parseX s).2.2≠0∨(parseX s).1≠e:=by
 rcases Decidable.em ((parseX s).2.2≠0) with h|h
 ·exact .inl h
 ·refine .inr fun he=> ?_
  have h:(parseX s).2.2=0:=Decidable.not_not.1 h
  unfold rightB at hr
  simp only[Bool.and_eq_true] at hr
  rw[exprT_count e.nodes e (Nat.le_refl _) hr.2 hf] at hs
  unfold parseX at h he
  split at h
  ·rename_i h0
   exact h0 h
  ·rename_i h0
   rw[if_neg h0] at he
   cases hq:exprQ (lexAll s).1 with
   |out=>exact absurd hq (exprQ_ne _)
   |bad p o=>
    rw[hq] at h0
    unfold parAt at h0
    have h0:=Decidable.not_not.1 h0
    split at h0
    ·cases h0
    ·split at h0
     ·cases h0
     ·dsimp only at h0
      split at h0<;>cases h0
   |ok x q=>
    rw[hq] at h he
    dsimp only at h he
    split at h
    ·rename_i hx
     rw[if_pos hx] at he
     have he:x=e:=he
     subst he
     have h1:=(fuel_cn (lexAll s).1 ((lexAll s).1.length+1)).E 0 (by omega) 0 0 x q hq
     have h2:parC (((0:Nat):Int)+1) (pairC x)=cntE x:=parC_one x
     rw[h2] at h1
     have h3:cn (lexAll s).1 q≤(lexAll s).1.countP isLp:=by
      unfold cn
      exact(List.take_sublist _ _).countP_le
     have h4:=lexW_lp s (s.length+1) (blankN s)
     have h5:(s.drop (blankN s)).count 40≤s.count 40:=(List.drop_sublist _ _).count_le 40
     have h6:(lexAll s).1.countP isLp≤(s.drop (blankN s)).count 40:=h4
     omega
    ·cases h
end Go.Proofs.YtaamkfajnpobfaaGreat
namespace Go.Proofs.YtaamkfajnpobfaaGreat
open Go.ChangeShapes Go.WideShapes Go.Deep Go.RowKit
set_option maxRecDepth 100000 in
theorem open_int {W:World}{base t:Nat}{v:Value}{k:IntKind}(hu:Tryz.prog.underlying t=some (.int k))(hv:Value.okWide Tryz.prog W .any base t v):∃n,v= .int k n∧k.has n:=by
 obtain⟨n,rfl⟩:=okWide_int hu hv
 simp only[Value.okWide,hu,Cell.okWide] at hv
 exact⟨n,rfl,by simpa[Cell.ok,hu] using hv⟩
set_option maxRecDepth 100000 in
theorem open_i64 {W:World}{base t:Nat}{v:Value}(hu:Tryz.prog.underlying t=some (.int .i64))(hv:Value.okWide Tryz.prog W .any base t v):∃n,v= .int .i64 n∧I64 n:=by
 obtain⟨n,rfl,h⟩:=open_int hu hv
 exact⟨n,rfl,h.1,h.2⟩
end Go.Proofs.YtaamkfajnpobfaaGreat
namespace Go.Proofs.YtaamkfajnpobfaaGreat
open Go.RowKit
theorem RepE.fit {w:World}{S:Nat→Prop}{e:Ex}{v:Value}(h:RepE w S e v):fitE e=true:=by
 induction h with
 | @mk op n nm args A c vs hl h60 hop hn hnm hnl hr hA ih=>
  rw[fitE,fitL_all,Bool.and_eq_true,decide_eq_true_eq,List.all_eq_true]
  refine⟨hn.2,fun x hx=> ?_⟩
  obtain⟨i,hi,rfl⟩:=List.getElem_of_mem hx
  exact ih i _ _ (List.getElem?_eq_getElem hi) (List.getElem?_eq_getElem (by omega))
def PI (l:List (Nat × Nat)):List Value:=l.map fun z=> .agg #[.int .i64 (z.1:Int), .int .i64 (z.2:Int)]
theorem PI_append (a b:List (Nat × Nat)):PI (a++b)=PI a++PI b:=by simp[PI]
theorem PI_at {l:List (Nat × Nat)}{i:Nat}{z:Nat × Nat}(h:l[i]? =some z):(flatC (PI l))[i*2]? =some (.int .i64 (z.1:Int))∧(flatC (PI l))[i*2+1]? =some (.int .i64 (z.2:Int)):=by
 induction l generalizing i with
 |nil=>cases h
 |cons x r ih=>
  have e:flatC (PI (x::r))= .int .i64 (x.1:Int):: .int .i64 (x.2:Int)::flatC (PI r):=rfl
  rw[e]
  cases i with
  |zero=>injection h with h;subst h;exact⟨rfl,rfl⟩
  |succ i=>
   have:=ih (i:=i) (by simpa using h)
   rw[show(i+1)*2=i*2+1+1 by omega,show i*2+1+1+1=i*2+1+1+1 from rfl]
   simpa using this
def NI (l:List Nat):List Value:=l.map fun(z:Nat)=> .int .i64 (z:Int)
theorem NI_append (a b:List Nat):NI (a++b)=NI a++NI b:=by simp[NI]
theorem get_NI (l:List Nat)(k:Nat):(NI l)[k]? =l[k]?.map fun(z:Nat)=> .int .i64 (z:Int):=by simp[NI]
theorem take_NI (l:List Nat)(k:Nat):(NI l).take k=NI (l.take k):=by simp[NI,List.map_take]
theorem cut_count {T:List Nat}{p q:Nat}(hp:T[p]? =some 40)(hpq:p<q)(hq:q<T.length):(T.take p++(T.take q).drop (p+1)++T.drop (q+1)).count 40<T.count 40:=by
 have h1:T.drop p=40::T.drop (p+1):=by
  obtain⟨h,e⟩:=List.getElem?_eq_some_iff.1 hp
  rw[List.drop_eq_getElem_cons h,e]
 have h2:T.drop (p+1)=(T.take q).drop (p+1)++T.drop q:=by
  conv=>lhs;rw[←List.take_append_drop q T]
  rw[List.drop_append_of_le_length (by rw[List.length_take];omega)]
 have h3:(T.drop (q+1)).count 40≤(T.drop q).count 40:=by
  rw[←List.drop_drop]
  exact(List.drop_sublist _ _).count_le 40
 have h4:T.count 40=(T.take p).count 40+(T.drop p).count 40:=by rw[←List.count_append,List.take_append_drop]
 rw[h1,h2] at h4
 rw[List.count_append,List.count_append]
 simp only[List.count_cons,List.count_append] at h4⊢
 simp at h4
 omega
theorem cut_le {T:List Nat}{p q:Nat}(hpq:p<q)(hq:q<T.length):(T.take p++(T.take q).drop (p+1)++T.drop (q+1)).length≤T.length:=by
 simp only[List.length_append,List.length_take,List.length_drop]
 omega
theorem cut_mem {T:List Nat}{p q:Nat}(h:∀x∈T,x<256):∀x∈T.take p++(T.take q).drop (p+1)++T.drop (q+1),x<256:=fun x hx=>by
 rcases List.mem_append.1 hx with hx|hx
 ·rcases List.mem_append.1 hx with hx|hx
  ·exact h x (List.mem_of_mem_take hx)
  ·exact h x (List.mem_of_mem_take (List.mem_of_mem_drop hx))
 ·exact h x (List.mem_of_mem_drop hx)
structure Fw (T:List Nat)(i:Nat)(op:List Nat)(ps:List (Nat × Nat)):Prop where
 open_:∀x∈op,x<i∧T[x]? =some 40
 pair:∀z∈ps,z.1<z.2∧z.2<i∧T[z.1]? =some 40
 olen:op.length≤i
 plen:ps.length≤i
theorem Fw.up {T:List Nat}{i:Nat}{op:List Nat}{ps:List (Nat × Nat)}(h:Fw T i op ps):Fw T (i+1) op ps:=
 ⟨fun x hx=>⟨by have:=(h.open_ x hx).1;omega,(h.open_ x hx).2⟩,fun z hz=>⟨(h.pair z hz).1,by have:=(h.pair z hz).2.1;omega,(h.pair z hz).2.2⟩,by have:=h.olen;omega,by have:=h.plen;omega⟩
theorem Fw.push {T:List Nat}{i:Nat}{op:List Nat}{ps:List (Nat × Nat)}(h:Fw T i op ps)(hi:T[i]? =some 40):Fw T (i+1) (op++[i]) ps:=
 ⟨fun x hx=>by
  rcases List.mem_append.1 hx with hx|hx
  ·exact h.up.open_ x hx
  ·obtain rfl:=List.mem_singleton.1 hx
   exact⟨by omega,hi⟩,h.up.pair,by rw[List.length_append];exact Nat.succ_le_succ h.olen,h.up.plen⟩
theorem Fw.pop {T:List Nat}{i x:Nat}{op:List Nat}{ps:List (Nat × Nat)}(h:Fw T i (op++[x]) ps):Fw T i op ps:=
 ⟨fun y hy=>h.open_ y (List.mem_append_left _ hy),h.pair,by have:=h.olen;rw[List.length_append] at this;omega,h.plen⟩
theorem Fw.put {T:List Nat}{i x:Nat}{op:List Nat}{ps:List (Nat × Nat)}(h:Fw T i (op++[x]) ps):Fw T (i+1) op (ps++[(x,i)]):=
 ⟨h.pop.up.open_,fun z hz=>by
  rcases List.mem_append.1 hz with hz|hz
  ·exact h.up.pair z hz
  ·obtain rfl:=List.mem_singleton.1 hz
   have:=h.open_ x (by simp)
   exact⟨this.1,by dsimp only;omega,this.2⟩,h.pop.up.olen,by rw[List.length_append];exact Nat.succ_le_succ h.plen⟩
theorem zero__2_int:zeroIs Tryz.prog 51=some (some (.agg #[.int .i64 0, .int .i64 0])):=by kernel_rfl
theorem run_build_pair (a b:Int)(w:World):(Instr.build 51 #[(0, .int .i64 a),(1, .int .i64 b)]).run Tryz.prog w= .ok (.agg #[.int .i64 a, .int .i64 b]) w:=by kernel_rfl
def RPX (l:List Nat)(v:Value)(w:World):Prop:=∃u S,v= .tuple #[u, .int .i64 ((parseX l).2.1:Int), .int .i64 (parseX l).2.2]∧RepE w S (parseX l).1 u∧∀b,S b→b<w.heap.size
def RPT (l:List Nat)(u:Value)(w:World):Prop:=∃S,RepE w S (parseX l).1 u∧∀b,S b→b<w.heap.size
theorem RPX.stable (l:List Nat):∀v w w',Grow w w'→RPX l v w→RPX l v w':=fun v w w' hb ⟨u,S,h1,h2,h3⟩=>⟨u,S,h1,h2.mono (fun _ h=>h) (fun a ha=>Below.cell hb (h3 _ ha)),fun b hb'=>Nat.lt_of_lt_of_le (h3 b hb') (Below.size hb)⟩
theorem RPT.stable (l:List Nat):∀v w w',Grow w w'→RPT l v w→RPT l v w':=fun v w w' hb ⟨S,h2,h3⟩=>⟨S,h2.mono (fun _ h=>h) (fun a ha=>Below.cell hb (h3 _ ha)),fun b hb'=>Nat.lt_of_lt_of_le (h3 b hb') (Below.size hb)⟩
theorem refPX_any (l:List Nat)(w:World)(hl:∀x∈l,x<256)(h4:l.length≤4000):
  Calls Tryz.prog 13 #[.string (strOf l)] w fun e w'=>∃v,e= .returned v∧Grow w w'∧RPX l v w':=(refParseX_any l w hl h4).mono fun e w' ⟨h1,v,S,h2,h3,h4⟩=>⟨_,h2,h1,v,S,rfl,h3,fun b hb=>(h4 b hb).2⟩
theorem parseX_built {l:List Nat}(h:(parseX l).2.2=0):builtB (parseX l).1=true:=by
 unfold parseX at h⊢
 split
 ·rename_i h0
  rw[if_pos h0] at h
  exact absurd h h0
 ·rename_i h0
  rw[if_neg h0] at h
  cases hq:exprQ (lexAll l).1 with
  |ok x q=>
   rw[hq] at h
   dsimp only at h⊢
   split
   ·rename_i hx
    unfold rightB at hx
    simp only[Bool.and_eq_true] at hx
    exact hx.2
   ·rename_i hx
    rw[if_neg hx] at h
    cases h
  |bad p o=>
   rw[hq] at h0
   unfold parAt at h0
   have h0:=Decidable.not_not.1 h0
   split at h0
   ·cases h0
   ·split at h0
    ·cases h0
    ·dsimp only at h0
     split at h0<;>cases h0
  |out=>exact absurd hq (exprQ_ne _)
theorem built_op {e:Ex}(h:builtB e=true):1≤e.op:=by
 obtain⟨hh,-⟩:=builtB_inv h
 have:=(headB_inv hh).1
 rcases arity_ops (op:=e.op) (k:=e.args.length) this with ⟨-,h⟩|⟨-,h⟩|⟨-,h⟩|⟨-,h⟩|⟨-,h⟩<;>omega
theorem RepE.off {w:World}{S:Nat→Prop}{g:Nat}{e:Ex}{v:Value}(k:Blk w g 35 #[.int .i64 0, .int .i64 0, .string {data:= #[]}, .slice none 0 0]) (h:RepE w S e v) (hb:builtB e=true):RepE w (fun b=>S b∧b≠g) e v:=by
 induction h with
 | @mk op n nm args A c vs hl h60 hop hn hnm hnl hr hA ih=>
  obtain⟨-,ha⟩:=builtB_inv hb
  refine .mk hl h60 hop hn hnm hnl (fun i x u h1 h2=>ih i x u h1 h2 (ha x (List.mem_of_getElem? h1))) fun hne=> ?_
  obtain⟨ad,e1,e2,e3⟩:=hA hne
  refine⟨ad,e1,⟨e2,fun hg=> ?_⟩,e3⟩
  obtain⟨v0,vr,rfl⟩:∃v0 vr,vs=v0::vr:=by
   cases vs with
   |nil=>exact absurd rfl hne
   |cons a b=>exact⟨a,b,rfl⟩
  obtain⟨x,hx⟩:∃x,args[0]? =some x:=⟨_,List.getElem?_eq_getElem (by rw[←hl];exact Nat.succ_pos _)⟩
  have hop:=built_op (ha x (List.mem_of_getElem? hx))
  obtain⟨A',c',rfl⟩:=(hr 0 x v0 hx rfl).form
  have hc:=e3 0 (.int .i64 x.op) rfl
  have h0:ad.add 0=ad:=if_pos rfl
  rw[h0] at hc
  unfold World.cell? at hc
  have hk:=k
  unfold Blk at hk
  rw[hg,hk] at hc
  dsimp only at hc
  split at hc
  ·cases hc
  ·have h4:ad.off<4:=by
    rcases Nat.lt_or_ge ad.off 4 with h|h
    ·exact h
    ·rw[Array.getElem?_eq_none (by exact h)] at hc;cases hc
   have h5:ad.off=0∨ad.off=1∨ad.off=2∨ad.off=3:=by omega
   rcases h5 with h5|h5|h5|h5<;>rw[h5] at hc<;>simp at hc<;>omega
end Go.Proofs.YtaamkfajnpobfaaGreat
namespace Go.Proofs.YtaamkfajnpobfaaGreat
open Go.ChangeShapes Go.WideShapes Go.ChangeAt Go.Deep Go.RowKit
theorem LfAt.more {w:World}{B B':Nat}{A:Option Addr}{xs:List Lf}(h:LfAt w B A xs)(hb:B≤B'):LfAt w B' A xs:=fun i x hx=>by
 obtain⟨ad,A',c,e1,e2,e3,e4⟩:=h i x hx
 exact⟨ad,A',c,e1,Nat.lt_of_lt_of_le e2 hb,e3.more hb,e4⟩
theorem TreeR.more {w:World}{B B':Nat}{es:List Ex}{AE AN AD:Option Addr}(h:TreeR w B es AE AN AD)(hb:B≤B'):TreeR w B' es AE AN AD:=
 ⟨fun i e he=>by
  obtain⟨ad,A',c',e1,e2,e3,e4⟩:=h.expr i e he
  exact⟨ad,A',c',e1,Nat.lt_of_lt_of_le e2 hb,e3.more hb,e4⟩,h.nodes.more hb,h.deps.more hb⟩
theorem walk_few (A:Option Addr)(n c:Nat)(xs:List Lf)(kk:Int)(W:World)(hl:xs.length=n)(hx:∀x∈xs,x.rng)(hr:LfAt W W.heap.size A xs)(hkk:I64 kk):Calls Tryz.prog 5 #[.slice A n c, .int .i64 kk] W fun e w'=>e= .returned (.bool true)∧Below W.heap.size W w':=by
 have bel:=Below.refl W.heap.size W
 refine Zs 189 Tryz.func5 ?_
 refine Zsr ?_
 refine Za ?_
 refine Zk3 0 1 4 (Zts (Zsr ?_))
 refine Zm ?_
 refine Zc (Ze Tryz.func14) (great_any n c A _) ?_
 rintro e w5 ⟨rfl,hb5⟩
 refine⟨_,rfl,?_⟩
 replace bel:=bel.step hb5
 refine Zk4 0 1 4 22 (Zt ?_)
 refine Cd.condD rfl (fun hc=> ?_) (fun hc=> ?_)
 ·skip
  refine Zsr ?_
  refine Zc (Ze Tryz.func15) (awake20_any _) ?_
  rintro e WB ⟨rfl,hb6⟩
  refine⟨_,rfl,?_⟩
  replace bel:=bel.step hb6
  refine Za ?_
  refine Zk4 0 1 4 22 (Zt (Cd.ret (Post.then_ret ?_)))
  refine Post.end1 rfl rfl (.inl rfl) ?_
  exact⟨rfl,bel⟩
 refine Cd.skip (Ztq ?_)
 refine Zm ?_
 refine Zc (Ze Tryz.func16) (build_any n c A xs _ hl (by omega) hx ((hr.below bel).more bel.size)) ?_
 rintro e WB ⟨⟨v,rfl,hbr⟩,hb6⟩
 refine⟨_,rfl,?_⟩
 replace bel:=bel.step hb6
 obtain⟨AE,AN,AD,cE,cN,cD,hv,tr⟩:=hbr.tree
 have hdep:=treesOf_depth xs
 have hlen:=treesOf_length xs
 clear hbr
 obtain⟨es,hes⟩:∃es,es=treesOf xs:=⟨_,rfl⟩
 rw[←hes] at hv tr hdep hlen
 unfold treeV at hv
 subst hv
 have bel0:=bel
 replace bel:=Below.refl WB.heap.size WB
 obtain⟨e,he⟩:∃e,e=es.getD (es.length-1) (.mk 0 0 [] []):=⟨_,rfl⟩
 have hget:es.length≠0→es[es.length-1]? =some e:=fun h=>by rw[he,List.getD_eq_getElem?_getD,List.getElem?_eq_getElem (show es.length-1<es.length by omega)];rfl
 have hright:∀W',Below WB.heap.size WB W'→es.length≠0→Calls Tryz.prog 17 #[.agg #[.slice AE es.length cE, .slice AN es.length cN, .slice AD es.length cD, .slice none 0 0, .slice none 0 0, .slice none 0 0], .int .i64 ((es.length:Int)-1)] W' fun en w'=>en= .returned (.bool (rightB e))∧Grow W' w':=fun W' hb h0=>by
  have:=treeRight_any (es.length-1) cE cN cD AE AN AD es e W' ((tr.below hb).more hb.size) (hget h0)
  rw[show((es.length-1:Nat):Int)=(es.length:Int)-1 by omega] at this
  exact this
 refine Zl zero_debentureref18_Tree ?_
 intro g5 w1 n5
 have e5:=Nat.le_trans bel.size n5.ge
 replace bel:=bel.step n5.below
 have k5:=n5.blk
 refine Zo 6 k5 ?_
 intro w2 pw2
 replace bel:=bel.put k5 pw2 e5
 replace k5:=pw2.blk
 refine Zk5 0 1 4 5 22 (Ztq ?_)
 refine Zf 0 Tryz.underlying45 ?_
 refine Zv (Runs.loadB rfl rfl Tryz.underlying22 rfl k5 rfl) ?_
 refine Zv (Runs.len rfl rfl Tryz.underlying22) ?_
 refine Za ?_
 refine Zk6 0 1 4 5 6 22 (Zts (Zsr ?_))
 refine Zm ?_
 refine Zv (Runs.eqlI rfl rfl rfl) ?_
 refine Zm ?_
 refine SeqC.start ?_
 refine Zco (fun hcx=>Runs.loadW rfl rfl Tryz.underlying45 rfl k5 (m:=6) (by kernel_rfl) rfl) ?_
 refine SeqC.next rfl rfl rfl rfl rfl rfl rfl (fun hcx=>Runs.move rfl rfl) ?_
 refine SeqC.next rfl rfl rfl rfl rfl rfl rfl (fun hcx=>Runs.subI rfl rfl rfl (by omega) (by omega)) ?_
 refine SeqC.nextC rfl rfl rfl rfl rfl rfl rfl (fun hcx=>Ze Tryz.func17) (fun hcx=>hright _ bel (fun h=>by simp at hcx;exact hcx.2 (List.eq_nil_of_length_eq_zero h))) ?_
 intro w3 hw3
 replace bel:=bel.step hw3
 replace k5:=k5.step hw3
 refine SeqC.next rfl rfl rfl rfl rfl rfl rfl (fun hcx=>Runs.not rfl rfl) ?_
 refine SeqC.or rfl rfl rfl rfl rfl rfl rfl ?_
 refine Zk7 0 1 4 5 6 22 37 (Zt ?_)
 refine Cd.cond rfl (fun hc2=> ?_) (fun hc2=> ?_)
 ·skip
  refine Zsr ?_
  refine Zc (Ze Tryz.func15) (awake20_any _) ?_
  rintro e w7 ⟨rfl,hb7⟩
  refine⟨_,rfl,?_⟩
  replace bel:=bel.step hb7
  replace k5:=k5.step hb7
  refine Za ?_
  refine Zk7 0 1 4 5 6 22 37 (Zt (Cd.ret (Post.then_ret ?_)))
  refine Post.end1 rfl rfl (.inl rfl) ?_
  exact⟨rfl,bel0.trans (bel.mono bel0.size)⟩
 obtain⟨h0,hrb⟩:es.length≠0∧rightB e=true:=by simpa using hc2
 obtain⟨ad,A',c',rfl,hadb,hrep,hcell⟩:=tr.expr _ e (hget h0)
 have hde:=hdep e (List.mem_of_getElem? (hget h0))
 have hfit:=hrep.fit
 have hcE:∀W',Below WB.heap.size WB W'→∀(q:Nat) (u:Value),([.int .i64 e.op, .int .i64 e.n, .string (strOf e.name), .slice A' e.args.length c']:List Value)[q]? =some u→W'.cell? ((ad.add ((es.length-1)*4)).add q)=some u:=fun W' hW q u hq=>(hW.cell (by rw[block_of_add,block_of_add];exact hadb)).trans (hcell q u hq)
 have hrepC:∀W',Below WB.heap.size WB W'→Rep W' W'.heap.size e _:=fun W' hb=>(hrep.below hb).more hb.size
 refine Cd.skip (Ztq ?_)
 refine Zf 0 Tryz.underlying45 ?_
 refine Zv (Runs.loadB rfl rfl Tryz.underlying22 rfl k5 rfl) ?_
 refine Zm ?_
 refine Zv (Runs.subI rfl rfl rfl (by omega) (by omega)) ?_
 refine Zv (Runs.indexN rfl rfl rfl Tryz.underlying22 (s:=4) (by kernel_rfl) (j:=es.length-1) (by omega) (by omega)) ?_
 refine Zv (Runs.loadF (ps:=[.int .i64 e.op, .int .i64 e.n, .string (strOf e.name), .slice A' e.args.length c']) rfl rfl Tryz.underlying35 rfl (m:=4) (by kernel_rfl) rfl (hcE _ bel)) ?_
 refine Zl zero_api_Expr ?_
 intro g7 w4 n7
 have e7:=Nat.le_trans bel.size n7.ge
 have l7:=Nat.lt_of_lt_of_le k5.lt n7.ge
 replace bel:=bel.step n7.below
 replace k5:=k5.step n7.below
 have k7:=n7.blk
 refine Zo 4 k7 ?_
 intro w5 pw5
 replace bel:=bel.put k7 pw5 e7
 replace k5:=k5.put pw5 (by omega)
 replace k7:=pw5.blk
 refine Zk8 0 1 4 5 6 7 22 37 (Ztq ?_)
 refine Zv (Runs.loadW rfl rfl Tryz.underlying35 rfl k7 (m:=4) (by kernel_rfl) rfl) ?_
 have hbt:builtB e=true:=by unfold rightB at hrb;simp only[Bool.and_eq_true] at hrb;exact hrb.2
 obtain⟨T,hT⟩:∃T,T=exprT e:=⟨_,rfl⟩
 have hTb:=exprT_bd e.nodes e (Nat.le_refl _) hbt
 rw[←hT] at hTb
 have hpr:(printE e=([],4)∧4000<T.length)∨(printE e=(T,0)∧T.length≤4000):=by
  unfold printE prText
  rw[hrb,if_neg (by decide),←hT]
  split
  ·exact .inl ⟨rfl,by assumption⟩
  ·exact .inr ⟨rfl,by omega⟩
 obtain⟨s,hs⟩:∃s,(printE e).1=s:=⟨_,rfl⟩
 obtain⟨no,hno⟩:∃s,(printE e).2=s:=⟨_,rfl⟩
 have hprc:=fun W' hb=>printExpr_any e _ W' (by omega) (hrepC W' hb)
 rw[hs,hno] at hprc
 have hor:(s=[]∧no=4)∨(s=T∧no=0∧T.length≤4000):=by
  rcases hpr with ⟨h,h2⟩|⟨h,h2⟩
  ·rw[h] at hs hno;exact .inl ⟨hs.symm,hno.symm⟩
  ·rw[h] at hs hno;exact .inr ⟨hs.symm,hno.symm,h2⟩
 have k7:Blk _ g7 35 #[.int .i64 e.op, .int .i64 e.n, .string (strOf e.name), .slice A' e.args.length c']:=k7
 refine Zc (Ze Tryz.func18) (hprc _ bel) ?_
 rintro en w7 ⟨rfl,hb7⟩
 refine⟨_,rfl,?_⟩
 replace bel:=bel.step hb7
 replace k7:=k7.step hb7
 refine Zm ?_
 refine Zv (Runs.extract rfl rfl rfl) ?_
 refine Zv (Runs.extract rfl rfl rfl) ?_
 refine Za ?_
 refine Za ?_
 refine Zk10 0 1 4 5 6 7 8 9 22 37 (Zts (Zsr ?_))
 refine Zm ?_
 refine Zv (Runs.neqI rfl rfl rfl) ?_
 refine Zk11 0 1 4 5 6 7 8 9 22 37 51 (Zt ?_)
 refine Cd.condD rfl (fun hc=> ?_) (fun hc=> ?_)
 ·skip
  refine Zsr ?_
  refine Zm ?_
  refine Zv (Runs.eqlI rfl rfl rfl) ?_
  refine Zm ?_
  refine SeqC.start ?_
  refine SeqC.openC rfl rfl rfl rfl rfl rfl rfl (fun hcx=>Ze Tryz.func15) (fun hcx=>awake20_any _) ?_
  intro w6 hw6
  replace bel:=bel.step hw6
  replace k7:=k7.step hw6
  refine SeqC.and rfl rfl rfl rfl rfl rfl rfl ?_
  refine Za ?_
  refine Zk11 0 1 4 5 6 7 8 9 22 37 51 (Zt (Cd.ret (Post.then_ret ?_)))
  refine Post.end1 rfl rfl (.inl rfl) ?_
  refine⟨ret1 (bool_eq ?_),bel0.trans (bel.mono bel0.size)⟩
  rcases hor with ⟨-,rfl⟩|⟨-,rfl,-⟩
  ·decide
  ·exact absurd rfl hc
 obtain⟨hsT,hno0,h4⟩:s=T∧no=0∧T.length≤4000:=by
  rcases hor with ⟨-,rfl⟩|h
  ·exact absurd hc (by decide)
  ·exact h
 subst hsT hno0
 obtain⟨hTl,hTb⟩:=hTb
 have hrbk:=hrb
 have hback:=expr_back hrb hfit (by rw[←hT];exact h4)
 rw[←hT] at hback
 have hps:=fun W'=>parseExpr_any s W' hTb (by omega)
 simp only[hback] at hps
 refine Cd.skip (Ztq ?_)
 refine Zm ?_
 refine Zc (Ze Tryz.func11) (hps _) ?_
 rintro en w8 ⟨hb8,v,S,rfl,hrepY,hSY⟩
 obtain⟨AY,cY,hvX⟩:=hrepY.form
 subst hvX
 refine⟨_,rfl,?_⟩
 replace bel:=bel.step hb8
 have rs:ReS _ w8.heap.size S e (.agg #[.int .i64 e.op, .int .i64 e.n, .string (strOf e.name), .slice AY e.args.length cY]) w8:=⟨hrepY,hSY,Nat.le_refl _⟩
 replace k7:=k7.step hb8
 refine Zm ?_
 refine Zv (Runs.extract rfl rfl rfl) ?_
 refine Zv (Runs.extract rfl rfl rfl) ?_
 refine Zv (Runs.extract rfl rfl rfl) ?_
 refine Zl zero_api_Expr ?_
 intro g10 w6 n10
 have q10:=n10.ge
 have e10:=Nat.le_trans bel.size n10.ge
 have l10:=Nat.lt_of_lt_of_le k7.lt n10.ge
 replace bel:=bel.step n10.below
 replace k7:=k7.step n10.below
 replace rs:=rs.step n10.below
 have k10:=n10.blk
 refine Zo 4 k10 ?_
 intro w7 pw7
 replace bel:=bel.put k10 pw7 e10
 replace k7:=k7.put pw7 (by omega)
 replace rs:=rs.put k10 pw7 e10
 replace k10:=pw7.blk
 refine Za ?_
 refine Za ?_
 refine Zk13 0 1 4 5 6 7 8 9 10 12 22 37 51 (Zts (Zsr ?_))
 have k10:Blk _ g10 35 #[.int .i64 e.op, .int .i64 e.n, .string (strOf e.name), .slice AY e.args.length cY]:=k10
 refine Zm ?_
 refine Zv (Runs.neqI rfl rfl rfl) ?_
 refine Zm ?_
 refine SeqC.start ?_
 refine Zco (fun hcx=>Runs.loadW rfl rfl Tryz.underlying35 rfl k7 (m:=4) (by kernel_rfl) rfl) ?_
 refine SeqC.next rfl rfl rfl rfl rfl rfl rfl (fun hcx=>Runs.loadW rfl rfl Tryz.underlying35 rfl k10 (m:=4) (by kernel_rfl) rfl) ?_
 refine SeqC.nextC rfl rfl rfl rfl rfl rfl rfl (fun hcx=>Ze Tryz.func12) (fun hcx=>sameExpr_any e.nodes e _ _ _ _ (Nat.le_refl _) (hrepC _ bel) (rs.rep.mono (fun b hb=>Nat.lt_of_lt_of_le (rs.bd b hb).2 rs.hi_le) (fun _ _=>rfl)) (Nat.le_refl _)) ?_
 intro w8 hw8
 replace bel:=bel.step hw8
 replace k7:=k7.step hw8
 replace rs:=rs.step hw8
 replace k10:=k10.step hw8
 refine SeqC.next rfl rfl rfl rfl rfl rfl rfl (fun hcx=>Runs.not rfl rfl) ?_
 refine SeqC.or rfl rfl rfl rfl rfl rfl rfl ?_
 refine Zk14 0 1 4 5 6 7 8 9 10 12 22 37 51 70 (Zt ?_)
 refine Cd.condF rfl (by simp) ?_
 refine Cd.skip (Ztq ?_)
 refine Za ?_
 refine Zk15 0 1 4 5 6 7 8 9 10 12 13 22 37 51 70 (Ztq ?_)
 refine Za ?_
 refine Zk16 0 1 4 5 6 7 8 9 10 12 13 14 22 37 51 70 (Zts (Zsr ?_))
 refine Za ?_
 refine Zk17 0 1 4 5 6 7 8 9 10 12 13 14 15 22 37 51 70 (Zt (Cd.block ?_))
 refine Cd.loop (σ:=Nat × List Nat × List (Nat × Nat) × Value × Value) (fun s'=>[(1, .int .i64 kk),(7, .pointer (some ⟨g7,0,none⟩)),(8, .string (strOf s)),(13,s'.2.2.2.2),(14,s'.2.2.2.1),(15, .int .i64 (s'.1:Int))])
  (fun s' wr=>s'.1≤s.length∧Below WB.heap.size WB wr∧Blk wr g7 35 #[.int .i64 e.op, .int .i64 e.n, .string (strOf e.name), .slice A' e.args.length c']∧Fw s s'.1 s'.2.1 s'.2.2.1∧Own wr WB.heap.size 3 1 s'.2.2.2.1 s'.2.1.length (NI s'.2.1)∧Own wr WB.heap.size 51 2 s'.2.2.2.2 s'.2.2.1.length (flatC (PI s'.2.2.1)))
  (fun s'=>s.length-s'.1) (0,[],[], .slice none 0 0, .slice none 0 0) ⟨Nat.zero_le _,bel,k7,⟨fun _ h=>(by cases h),fun _ h=>(by cases h),Nat.le_refl _,Nat.le_refl _⟩,Own.nil _ _ _ _,Own.nil _ _ _ _⟩ ⟨rfl,rfl,rfl,rfl,rfl,rfl,trivial⟩ ?_
 clear bel k7
 rintro⟨i,op,ps,vO,vP⟩ wr ⟨hi,bel,k7,fw,oO,oP⟩
 dsimp only at hi bel k7 fw oO oP⊢
 obtain⟨AO,cO,rfl,hrO⟩:=oO.reads
 obtain⟨AP,cP,rfl,hrP⟩:=oP.reads
 have hol:=fw.olen
 have hpl:=fw.plen
 refine Cd.seq (Zsr ?_)
 refine Zm ?_
 refine Zm ?_
 refine Zv (Runs.lenL rfl rfl Tryz.underlying9) ?_
 refine Zv (Runs.lss rfl rfl rfl) ?_
 refine Zk7 1 7 8 13 14 15 74 (Zt ?_)
 refine Cd.condD rfl (fun hc=> ?_) (fun hc=> ?_)
 ·obtain⟨ch,hch⟩:∃x,s[i]? =some x:=⟨_,List.getElem?_eq_getElem (by omega)⟩
  have hch256:=hTb ch (List.mem_of_getElem? hch)
  refine Cd.skip (Zts (Cd.block (Cd.seq (Zsr ?_))))
  refine Zm ?_
  refine Zm ?_
  refine Zv (Runs.indexL (l:=s) (j:=i) rfl rfl rfl Tryz.underlying9 rfl hch hch256) ?_
  refine Zv (Runs.eqlI rfl rfl rfl) ?_
  refine Zk8 1 7 8 13 14 15 74 80 (Zt ?_)
  refine Cd.condD rfl (fun hc=> ?_) (fun hc=> ?_)
  ·obtain rfl:ch=40:=by omega
   refine Zr ?_
   refine Zm ?_
   refine Zm ?_
   refine Seq.slice (vs:=[_]) (s:=1) rfl rfl rfl Tryz.underlying43 (by kernel_rfl) (zero_int) (by omega) (by omega) ⟨rfl,trivial⟩ rfl rfl rfl ?_
   intro g83 w9 n83
   have e83:=Nat.le_trans bel.size n83.ge
   have l83:=Nat.lt_of_lt_of_le k7.lt n83.ge
   replace bel:=bel.step n83.below
   replace k7:=k7.step n83.below
   replace oO:=oO.step n83.below
   replace oP:=oP.step n83.below
   have k83:=n83.blk
   refine Seq.append rfl rfl rfl Tryz.underlying43 (by kernel_rfl) zero_int rfl (by decide) (b:=8) (by kernel_rfl) oO (Reads.blk (size:=1) k83 1 rfl) (by intro x hx;simp[flatC,Value.cells] at hx;rw[hx];rfl) bel.size (by simp only[maxLen];omega) (by omega) rfl rfl rfl ?_
   intro vO' wa oO' ha
   replace k7:=k7.app oO ha
   replace oP:=oP.app oO ha
   replace bel:=bel.trans ha.below
   clear oO
   obtain⟨A2,c2,rfl,-⟩:=oO'.reads
   have oO:=oO'
   clear oO'
   refine Za ?_
   refine Zk8 1 7 8 13 14 15 74 80 (Ztq ?_)
   refine Zm ?_
   refine Zm ?_
   refine Zv (Runs.indexL (l:=s) (j:=i) rfl rfl rfl Tryz.underlying9 rfl hch hch256) ?_
   refine Zv (Runs.eqlI rfl rfl rfl) ?_
   refine Zm ?_
   refine SeqC.start ?_
   refine Zco (fun hcx=>Runs.move rfl rfl) ?_
   refine SeqC.next rfl rfl rfl rfl rfl rfl rfl (fun hcx=>Runs.len rfl rfl Tryz.underlying43) ?_
   refine SeqC.next rfl rfl rfl rfl rfl rfl rfl (fun hcx=>Runs.gtr rfl rfl rfl) ?_
   refine SeqC.and rfl rfl rfl rfl rfl rfl rfl ?_
   refine Zk9 1 7 8 13 14 15 74 80 93 (Zt ?_)
   refine Cd.condF rfl (by simp) ?_
   refine Cd.skip (Post.block_normal (Ztr ?_))
   refine Zm ?_
   refine Za_ ?_
   refine Za ?_
   refine Zk9 1 7 8 13 14 15 74 80 93 ?_
   refine Post.round (i+1,op++[i],ps, .slice A2 (op.length+1) c2, .slice AP ps.length cP) ⟨rfl,rfl,rfl,rfl,rfl,rfl,trivial⟩ ?_ (by dsimp only;omega)
   dsimp only
   rw[NI_append,List.length_append]
   exact⟨by omega,bel,k7,fw.push hch,oO,oP⟩
  ·skip
   refine Cd.skip (Ztq ?_)
   refine Zm ?_
   refine Zm ?_
   refine Zv (Runs.indexL (l:=s) (j:=i) rfl rfl rfl Tryz.underlying9 rfl hch hch256) ?_
   refine Zv (Runs.eqlI rfl rfl rfl) ?_
   refine Zm ?_
   refine SeqC.start ?_
   refine Zco (fun hcx=>Runs.move rfl rfl) ?_
   refine SeqC.next rfl rfl rfl rfl rfl rfl rfl (fun hcx=>Runs.len rfl rfl Tryz.underlying43) ?_
   refine SeqC.next rfl rfl rfl rfl rfl rfl rfl (fun hcx=>Runs.gtr rfl rfl rfl) ?_
   refine SeqC.and rfl rfl rfl rfl rfl rfl rfl ?_
   refine Zk9 1 7 8 13 14 15 74 80 93 (Zt ?_)
   refine Cd.cond rfl (fun hc2=> ?_) (fun hc2=> ?_)
   ·obtain⟨h41,hpos⟩:ch=41∧op≠ []:=by
     simp at hc2
     refine⟨by omega,fun h=> ?_⟩
     rw[h] at hc2
     simp at hc2
    obtain⟨op',x,rfl⟩:∃op' x,op=op'++[x]:=⟨_,_,(List.dropLast_concat_getLast hpos).symm⟩
    obtain⟨hxi,hx40⟩:=fw.open_ x (by simp)
    have hlo:(op'++[x]).length=op'.length+1:=by simp
    obtain⟨adO,rfl,hbO,hcO⟩:=hrO.2 (by omega)
    have hcO:=hcO op'.length (.int .i64 (x:Int)) (by rw[get_NI,List.getElem?_append_right (Nat.le_refl _),Nat.sub_self];rfl)
    have hcap:=oO.cap
    rw[hlo] at hcap
    have hdx:x≠0→s[x-1]? =some (s.getD (x-1) 0):=fun h=>by rw[List.getD_eq_getElem?_getD,List.getElem?_eq_getElem (show x-1<s.length by omega)];rfl
    obtain⟨dx,hdxe⟩:∃dx,s.getD (x-1) 0=dx:=⟨_,rfl⟩
    rw[hdxe] at hdx
    have hdx2:x≠0→dx<256:=fun h=>hTb dx (List.mem_of_getElem? (hdx h))
    refine Zsr ?_
    refine Zm ?_
    refine Zm ?_
    refine Zv (Runs.len rfl rfl Tryz.underlying43) ?_
    refine Zv (Runs.subI rfl rfl rfl (by omega) (by omega)) ?_
    refine Zv (Runs.index1 rfl rfl rfl Tryz.underlying43 (by kernel_rfl) (j:=op'.length) (by omega) (by omega)) ?_
    refine Zv (Runs.load1 rfl rfl Tryz.underlying3 rfl hcO) ?_
    refine Za ?_
    refine Zk10 1 7 8 13 14 15 16 74 80 93 (Ztq ?_)
    refine Zm ?_
    refine Zm ?_
    refine Zv (Runs.len rfl rfl Tryz.underlying43) ?_
    refine Zv (Runs.subI rfl rfl rfl (by omega) (by omega)) ?_
    refine Zv (Runs.sliceN (s:=1) rfl rfl rfl Tryz.underlying43 (by kernel_rfl) (j:=op'.length) (by omega) (by omega)) ?_
    refine Za ?_
    refine Zk10 1 7 8 13 14 15 16 74 80 93 (Ztq ?_)
    refine Zm ?_
    refine Zv (Runs.eqlI rfl rfl rfl) ?_
    refine Zm ?_
    refine SeqC.start ?_
    refine Zco (fun hcx=>Runs.move rfl rfl) ?_
    refine SeqC.next rfl rfl rfl rfl rfl rfl rfl (fun hcx=>Runs.move rfl rfl) ?_
    refine SeqC.next rfl rfl rfl rfl rfl rfl rfl (fun hcx=>Runs.subI rfl rfl rfl (by omega) (by omega)) ?_
    have oO:Own wr WB.heap.size 3 1 (.slice (some adO) op'.length cO) op'.length (NI op'):=by
     have h1:=oO
     rw[hlo] at h1
     have h2:=h1.pop
     rw[take_NI,List.take_left] at h2
     exact h2
    refine SeqC.next rfl rfl rfl rfl rfl rfl rfl (fun hcx=>Runs.indexL (l:=s) (j:=x-1) (c:=dx) rfl rfl rfl Tryz.underlying9 (by have h0:x≠0:=(fun h=>by simp[topX] at hcx;omega);omega) (hdx (fun h=>by simp[topX] at hcx;omega)) (hdx2 (fun h=>by simp[topX] at hcx;omega))) ?_
    refine SeqC.next rfl rfl rfl rfl rfl rfl rfl (fun hcx=>Runs.eqlI rfl rfl rfl) ?_
    refine SeqC.or rfl rfl rfl rfl rfl rfl rfl ?_
    refine Zm ?_
    refine SeqC.start ?_
    refine Zco (fun hcx=>Runs.move rfl rfl) ?_
    refine SeqC.next rfl rfl rfl rfl rfl rfl rfl (fun hcx=>Runs.move rfl rfl) ?_
    refine SeqC.next rfl rfl rfl rfl rfl rfl rfl (fun hcx=>Runs.subI rfl rfl rfl (by omega) (by omega)) ?_
    refine SeqC.next rfl rfl rfl rfl rfl rfl rfl (fun hcx=>Runs.indexL (l:=s) (j:=x-1) (c:=dx) rfl rfl rfl Tryz.underlying9 (by have h0:x≠0:=(fun h=>by simp[topX] at hcx;omega);omega) (hdx (fun h=>by simp[topX] at hcx;omega)) (hdx2 (fun h=>by simp[topX] at hcx;omega))) ?_
    refine SeqC.next rfl rfl rfl rfl rfl rfl rfl (fun hcx=>Runs.eqlI rfl rfl rfl) ?_
    refine SeqC.or rfl rfl rfl rfl rfl rfl rfl ?_
    refine Zm ?_
    refine SeqC.start ?_
    refine Zco (fun hcx=>Runs.move rfl rfl) ?_
    refine SeqC.next rfl rfl rfl rfl rfl rfl rfl (fun hcx=>Runs.move rfl rfl) ?_
    refine SeqC.next rfl rfl rfl rfl rfl rfl rfl (fun hcx=>Runs.subI rfl rfl rfl (by omega) (by omega)) ?_
    refine SeqC.next rfl rfl rfl rfl rfl rfl rfl (fun hcx=>Runs.indexL (l:=s) (j:=x-1) (c:=dx) rfl rfl rfl Tryz.underlying9 (by have h0:x≠0:=(fun h=>by simp[topX] at hcx;omega);omega) (hdx (fun h=>by simp[topX] at hcx;omega)) (hdx2 (fun h=>by simp[topX] at hcx;omega))) ?_
    refine SeqC.next rfl rfl rfl rfl rfl rfl rfl (fun hcx=>Runs.eqlI rfl rfl rfl) ?_
    refine SeqC.or rfl rfl rfl rfl rfl rfl rfl ?_
    refine Zm ?_
    refine SeqC.start ?_
    refine Zco (fun hcx=>Runs.move rfl rfl) ?_
    refine SeqC.next rfl rfl rfl rfl rfl rfl rfl (fun hcx=>Runs.move rfl rfl) ?_
    refine SeqC.next rfl rfl rfl rfl rfl rfl rfl (fun hcx=>Runs.subI rfl rfl rfl (by omega) (by omega)) ?_
    refine SeqC.next rfl rfl rfl rfl rfl rfl rfl (fun hcx=>Runs.indexL (l:=s) (j:=x-1) (c:=dx) rfl rfl rfl Tryz.underlying9 (by have h0:x≠0:=(fun h=>by simp[topX] at hcx;omega);omega) (hdx (fun h=>by simp[topX] at hcx;omega)) (hdx2 (fun h=>by simp[topX] at hcx;omega))) ?_
    refine SeqC.next rfl rfl rfl rfl rfl rfl rfl (fun hcx=>Runs.eqlI rfl rfl rfl) ?_
    refine SeqC.or rfl rfl rfl rfl rfl rfl rfl ?_
    refine Zk11 1 7 8 13 14 15 16 74 80 93 134 (Zt ?_)
    refine Cd.cond rfl (fun hc3=> ?_) (fun hc3=> ?_)
    ·skip
     refine Zr ?_
     refine Zm ?_
     refine Zm ?_
     refine Zm ?_
     -- AT: law.go:131 d=138 ['build', '51', ['List.toArray', ['Prod', ['Nat'], ['Go.Operand']], ['cons', ['mk', '0', ['tmp', '136']], ['cons', ['mk', '1', ['tmp', '137']], 'nil']]]] after=[(1, 'data'), (2, 'data')] guard=None
     refine Zv (Runs.build rfl rfl (run_build_pair _ _ _)) ?_
     refine Seq.slice (vs:=[_]) (s:=2) rfl rfl rfl Tryz.underlying50 (by kernel_rfl) (zero__2_int) (by omega) (by omega) ⟨rfl,trivial⟩ rfl rfl rfl ?_
     intro g139 w9 n139
     have e139:=Nat.le_trans bel.size n139.ge
     have l139:=Nat.lt_of_lt_of_le k7.lt n139.ge
     replace bel:=bel.step n139.below
     replace k7:=k7.step n139.below
     replace oO:=oO.step n139.below
     replace oP:=oP.step n139.below
     have k139:=n139.blk
     refine Seq.append rfl rfl rfl Tryz.underlying50 (by kernel_rfl) zero__2_int rfl (by decide) (b:=16) (by kernel_rfl) oP (Reads.blk (size:=2) k139 1 rfl) (by intro x hx;simp[flatC,Value.cells] at hx;rcases hx with rfl|rfl<;>rfl) bel.size (by simp only[maxLen];omega) (by omega) rfl rfl rfl ?_
     intro vP' wa oP' ha
     replace k7:=k7.app oP ha
     replace oO:=oO.app oP ha
     replace bel:=bel.trans ha.below
     clear oP
     obtain⟨A2,c2,rfl,-⟩:=oP'.reads
     have oP:=oP'
     clear oP'
     refine Za ?_
     refine Zk11 1 7 8 13 14 15 16 74 80 93 134 (Post.block_normal (Ztr ?_))
     refine Zm ?_
     refine Za_ ?_
     refine Za ?_
     refine Zk11 1 7 8 13 14 15 16 74 80 93 134 ?_
     refine Post.round (i+1,op',ps++[(x,i)], .slice (some adO) op'.length cO, .slice A2 (ps.length+1) c2) ⟨rfl,rfl,rfl,rfl,rfl,rfl,trivial⟩ ?_ (by dsimp only;omega)
     dsimp only
     rw[PI_append,flatC_append,List.length_append]
     exact⟨by omega,bel,k7,fw.put,oO,oP⟩
    ·skip
     refine Cd.skip (Post.block_normal (Ztr ?_))
     refine Zm ?_
     refine Za_ ?_
     refine Za ?_
     refine Zk11 1 7 8 13 14 15 16 74 80 93 134 ?_
     refine Post.round (i+1,op',ps, .slice (some adO) op'.length cO, .slice AP ps.length cP) ⟨rfl,rfl,rfl,rfl,rfl,rfl,trivial⟩ ?_ (by dsimp only;omega)
     exact⟨by dsimp only;omega,bel,k7,fw.pop.up,oO,oP⟩
   ·skip
    refine Cd.skip (Post.block_normal (Ztr ?_))
    refine Zm ?_
    refine Za_ ?_
    refine Za ?_
    refine Zk9 1 7 8 13 14 15 74 80 93 ?_
    refine Post.round (i+1,op,ps, .slice AO op.length cO, .slice AP ps.length cP) ⟨rfl,rfl,rfl,rfl,rfl,rfl,trivial⟩ ?_ (by dsimp only;omega)
    exact⟨by omega,bel,k7,fw.up,oO,oP⟩
 ·obtain rfl:i=s.length:=by omega
  refine Cd.exit (Post.then_exit (Post.round_exit (Post.block_exit (Zts (Zsr ?_)))))
  refine Zm ?_
  refine Zv (Runs.len rfl rfl Tryz.underlying50) ?_
  refine Zv (Runs.eqlI rfl rfl rfl) ?_
  refine Zk8 1 7 8 13 14 15 74 143 (Zt ?_)
  refine Cd.condD rfl (fun hc=> ?_) (fun hc=> ?_)
  ·skip
   refine Zsr ?_
   refine Zc (Ze Tryz.func15) (awake20_any _) ?_
   rintro e w9 ⟨rfl,hb9⟩
   refine⟨_,rfl,?_⟩
   replace bel:=bel.step hb9
   replace k7:=k7.step hb9
   refine Za ?_
   refine Zk9 1 4 7 8 13 14 15 74 143 (Zt (Cd.ret (Post.then_ret ?_)))
   refine Post.end1 rfl rfl (.inl rfl) ?_
   exact⟨rfl,bel0.trans (bel.mono bel0.size)⟩
  obtain⟨u,hu⟩:∃u:Nat,kk%18446744073709551616=(u:Int):=⟨(kk%18446744073709551616).toNat,by omega⟩
  obtain⟨m,hm⟩:∃m,m=u%ps.length:=⟨_,rfl⟩
  have hml:m<ps.length:=by rw[hm];exact Nat.mod_lt _ (by omega)
  obtain⟨⟨p,q⟩,hpq⟩:∃z,ps[m]? =some z:=⟨_,List.getElem?_eq_getElem hml⟩
  obtain⟨hpq1,hpq2,hp40⟩:=fw.pair _ (List.mem_of_getElem? hpq)
  dsimp only at hpq1 hpq2 hp40
  obtain⟨c1,c2⟩:=PI_at hpq
  dsimp only at c1 c2
  obtain⟨adP,rfl,hbP,hcP⟩:=hrP.2 (by omega)
  have hcP:∀(j:Nat) (v:Value),([.int .i64 (p:Int), .int .i64 (q:Int)]:List Value)[j]? =some v→wr.cell? ((adP.add (m*2)).add j)=some v:=fun j v hj=>by
   rw[add_of_add]
   match j,hj with
   |0,hj=>simp at hj;subst hj;exact hcP _ _ c1
   |1,hj=>simp at hj;subst hj;exact hcP _ _ c2
   |j+2,hj=>simp at hj
  have hcut:=cut_count hp40 hpq1 hpq2
  have hcl:=cut_le hpq1 hpq2
  have hcm:=cut_mem (p:=p) (q:=q) hTb
  have hZc:=fun W=>refPX_any (s.take p++(s.take q).drop (p+1)++s.drop (q+1)) W hcm (by omega)
  have hfew:=expr_few hrbk hfit (s:=s.take p++(s.take q).drop (p+1)++s.drop (q+1)) (by rw[←hT];exact hcut)
  have hl1:(s.take p).length=p:=by rw[List.length_take];omega
  have hl2:((s.take q).drop (p+1)).length=q-(p+1):=by rw[List.length_drop,List.length_take];omega
  have hl3:(s.drop (q+1)).length=s.length-(q+1):=List.length_drop
  refine Cd.skip (Ztq ?_)
  refine Zm ?_
  refine Zm ?_
  refine Zv (Runs.convU (r:=u) rfl rfl Tryz.underlying3 Tryz.underlying52 hu) ?_
  refine Zm ?_
  refine Zv (Runs.len rfl rfl Tryz.underlying50) ?_
  refine Zv (Runs.convU (r:=ps.length) rfl rfl Tryz.underlying3 Tryz.underlying52 (by omega)) ?_
  refine Zv ((Runs.remN rfl rfl rfl (by omega) (by omega)).cast (v':= .int .u64 (m:Int)) (int_eq (by rw[hm];exact(Int.natCast_emod _ _).symm))) ?_
  refine Zv (Runs.convI rfl rfl Tryz.underlying52 Tryz.underlying3 (wrapI (by omega) (by omega))) ?_
  refine Zv (Runs.indexN rfl rfl rfl Tryz.underlying50 (s:=2) (by kernel_rfl) (j:=m) (by omega) (by omega)) ?_
  refine Zv (Runs.loadF (ps:=[.int .i64 (p:Int), .int .i64 (q:Int)]) rfl rfl Tryz.underlying51 rfl (m:=2) (by kernel_rfl) rfl hcP) ?_
  refine Zl zero__2_int ?_
  intro g17 w9 n17
  have e17:=Nat.le_trans bel.size n17.ge
  have l17:=Nat.lt_of_lt_of_le k7.lt n17.ge
  replace bel:=bel.step n17.below
  replace k7:=k7.step n17.below
  have k17:=n17.blk
  refine Zo 2 k17 ?_
  intro w10 pw10
  replace bel:=bel.put k17 pw10 e17
  replace k7:=k7.put pw10 (by omega)
  replace k17:=pw10.blk
  refine Zk9 1 7 8 13 14 15 17 74 143 (Zts ?_)
  have k17:Blk _ g17 51 #[.int .i64 (p:Int), .int .i64 (q:Int)]:=k17
  have l717:g7<g17:=by omega
  have l17:=k17.lt
  refine Cd.draw 24 (by kernel_rfl) [21,22] (.inr (fun _ _ d _ _ h=>by cases d<;>exact h)) rfl Grow Grow.refl (fun _ _ _=>Grow.trans) ?_
  intro w11 hw11 zw11
  replace bel:=bel.step hw11
  replace k7:=k7.step hw11
  replace k17:=k17.step hw11
  have zbel:=bel.size
  have zlt:=k17.lt
  refine Zdm ?_
  refine Zd (fun w hG=>Runs.indexP (j:=0) (s:=1) rfl rfl rfl Tryz.underlying51 (by kernel_rfl) rfl (by decide)) ?_
  refine Zd (fun w hG=>Runs.loadB rfl rfl Tryz.underlying3 rfl (k17.step hG) rfl) ?_
  refine Zd (fun w hG=>Runs.sliceTo (j:=p) rfl rfl rfl Tryz.underlying9 rfl (by omega)) ?_
  refine Zdm ?_
  refine Zd (fun w hG=>Runs.indexP (j:=0) (s:=1) rfl rfl rfl Tryz.underlying51 (by kernel_rfl) rfl (by decide)) ?_
  refine Zd (fun w hG=>Runs.loadB rfl rfl Tryz.underlying3 rfl (k17.step hG) rfl) ?_
  refine Zd (fun w hG=>Runs.addI rfl rfl rfl (by omega) (by omega)) ?_
  refine Zd (fun w hG=>Runs.indexP (j:=1) (s:=1) rfl rfl rfl Tryz.underlying51 (by kernel_rfl) rfl (by decide)) ?_
  refine Zd (fun w hG=>Runs.loadB rfl rfl Tryz.underlying3 rfl (k17.step hG) rfl) ?_
  refine Zd (fun w hG=>Runs.sliceAtL (i:=p+1) (j:=q) rfl rfl rfl rfl Tryz.underlying9 (by omega) rfl (by omega) (by omega)) ?_
  refine Zd (fun w hG=>Runs.addL rfl rfl rfl (by omega)) ?_
  refine Zdm ?_
  refine Zd (fun w hG=>Runs.indexP (j:=1) (s:=1) rfl rfl rfl Tryz.underlying51 (by kernel_rfl) rfl (by decide)) ?_
  refine Zd (fun w hG=>Runs.loadB rfl rfl Tryz.underlying3 rfl (k17.step hG) rfl) ?_
  refine Zd (fun w hG=>Runs.addI rfl rfl rfl (by omega) (by omega)) ?_
  refine Zd (fun w hG=>Runs.sliceFrom (j:=q+1) rfl rfl rfl Tryz.underlying9 (by omega) (by omega)) ?_
  refine Zd (fun w hG=>Runs.addL rfl rfl rfl (by rw[List.length_append];omega)) ?_
  refine Dr.call (Φ:=RPX _) rfl (fun w=>Ze Tryz.func13) rfl (RPX.stable _) (fun w hG=>hZc w) ?_
  -- AT: law.go:139 d=155 ['move', ['tmp', '174']] after=[(18, 'data')] guard=None
  refine Dr.val1 (j:=18) (Φ:=RPX (s.take p++(s.take q).drop (p+1)++s.drop (q+1))) Grow.refl rfl rfl rfl (RPX.stable _) rfl (fun u w hG hu=>⟨_,Runs.move rfl rfl,hu⟩) ?_
  refine Dr.val1 (j:=19) (Φ:=RPT (s.take p++(s.take q).drop (p+1)++s.drop (q+1))) Grow.refl rfl rfl rfl (RPT.stable _) rfl (fun u w hG hu=>by obtain⟨v,S,rfl,h1,h2⟩:=hu;exact⟨_,Runs.extract rfl rfl rfl,S,h1,h2⟩) ?_
  refine Dr.late1 (j:=19) rfl rfl rfl rfl (fun u w w' hG hu=>by obtain⟨v,S,rfl,h1,h2⟩:=hu;exact Runs.extract rfl rfl rfl) Grow.refl rfl ?_
  refine Dr.late1 (j:=19) rfl rfl rfl rfl (fun u w w' hG hu=>by obtain⟨v,S,rfl,h1,h2⟩:=hu;exact Runs.extract rfl rfl rfl) Grow.refl rfl ?_
  refine Dr.alloc rfl rfl (run_zero zero_api_Expr) rfl ?_
  refine Dr.nil ?_
  refine FinX.open (j:=20) rfl ?_
  intro u20
  refine FinX.open (j:=23) rfl ?_
  intro u23
  refine FinX.done (F':=[(1,_),(7,_),(8,_),(13,_),(14,_),(15,_),(17,_),(18,_),(74,_),(143,_),(175,_),(176,_),(177,_)]) rfl ⟨rfl,rfl,rfl,rfl,rfl,rfl,rfl,rfl,rfl,rfl,rfl,rfl,rfl,trivial⟩ ?_
  intro w12 hw12 fw12
  replace bel:=bel.step hw12
  replace k7:=k7.step hw12
  replace k17:=k17.step hw12
  obtain⟨⟨-,S9,h9,h9b⟩,g18,rfl,k18,e18⟩:=fw12
  obtain⟨AZ,cZ,hvZ⟩:=h9.form
  subst hvZ
  have k18:Blk _ g18 35 #[.int .i64 0, .int .i64 0, .string {data:= #[]}, .slice none 0 0]:=k18
  have hX9:=fun hz=>h9.off k18 (parseX_built hz)
  have k18s:=k18
  have l18:=Nat.lt_of_lt_of_le zlt e18
  replace e18:=Nat.le_trans zbel e18
  have hlen18:=k18.lt
  obtain⟨Z,hZ⟩:∃Z,s.take p++(s.take q).drop (p+1)++s.drop (q+1)=Z:=⟨_,rfl⟩
  rw[hZ] at hX9 h9 hfew
  simp only[hZ]
  refine Zo 4 k18 ?_
  intro w13 pw13
  replace bel:=bel.put k18 pw13 e18
  replace k7:=k7.put pw13 (by omega)
  replace k18:=pw13.blk
  refine Za ?_
  refine Za ?_
  refine Zk11 1 7 8 13 14 15 17 18 20 74 143 (Ztq ?_)
  have hX13:(parseX Z).2.2=0→Rep w13 w13.heap.size (parseX Z).1 (.agg #[.int .i64 (parseX Z).1.op, .int .i64 (parseX Z).1.n, .string (strOf (parseX Z).1.name), .slice AZ (parseX Z).1.args.length cZ]):=fun hz=>(hX9 hz).mono (fun b hb=>by have:=h9b b hb.1;have:=pw13.size;omega) (fun a ha=>World.cell?_of_block (pw13.grown.block _ (h9b _ ha.1) (fun e=>by injection e with e;exact ha.2 e)))
  have hsm:(parseX Z).2.2=0→Calls Tryz.prog 12 #[.agg #[.int .i64 e.op, .int .i64 e.n, .string (strOf e.name), .slice A' e.args.length c'], .agg #[.int .i64 (parseX Z).1.op, .int .i64 (parseX Z).1.n, .string (strOf (parseX Z).1.name), .slice AZ (parseX Z).1.args.length cZ]] w13 fun en w'=>en= .returned (.bool false)∧Grow w13 w':=fun hz=>
   (sameEx_any e.nodes e (parseX Z).1 w13.heap.size _ _ w13 (Nat.le_refl _) (hrepC _ bel) (hX13 hz) (Nat.le_refl _)).mono fun en w' ⟨⟨b,h1,h2⟩,h3⟩=>by
    refine⟨?_,h3⟩
    rw[h1]
    cases b with
    |false=>rfl
    |true=>exact absurd (h2 rfl).symm (hfew.resolve_left (fun h=>h hz))
  refine Zm ?_
  refine Zv (Runs.neqI rfl rfl rfl) ?_
  refine Zm ?_
  refine SeqC.start ?_
  refine Zco (fun hcx=>Runs.loadW rfl rfl Tryz.underlying35 rfl k7 (m:=4) (by kernel_rfl) rfl) ?_
  refine SeqC.next rfl rfl rfl rfl rfl rfl rfl (fun hcx=>Runs.loadW rfl rfl Tryz.underlying35 rfl k18 (m:=4) (by kernel_rfl) rfl) ?_
  refine SeqC.nextC rfl rfl rfl rfl rfl rfl rfl (fun hcx=>Ze Tryz.func12) (fun hcx=>hsm (by simpa[topX] using hcx)) ?_
  intro w14 hw14
  replace bel:=bel.step hw14
  replace k7:=k7.step hw14
  replace k18:=k18.step hw14
  refine SeqC.next rfl rfl rfl rfl rfl rfl rfl (fun hcx=>Runs.not rfl rfl) ?_
  refine SeqC.or rfl rfl rfl rfl rfl rfl rfl ?_
  refine Zm ?_
  refine SeqC.start ?_
  refine SeqC.openC rfl rfl rfl rfl rfl rfl rfl (fun hcx=>Ze Tryz.func15) (fun hcx=>awake20_any _) ?_
  intro w15 hw15
  replace bel:=bel.step hw15
  replace k7:=k7.step hw15
  replace k18:=k18.step hw15
  refine SeqC.and rfl rfl rfl rfl rfl rfl rfl ?_
  refine Za ?_
  refine Zk12 1 4 7 8 13 14 15 17 18 20 74 143 (Zt (Cd.ret ?_))
  refine Post.end1 rfl rfl (.inl rfl) ?_
  exact⟨ret1 (bool_eq (by simp)),bel0.trans (bel.mono bel0.size)⟩
end Go.Proofs.YtaamkfajnpobfaaGreat
