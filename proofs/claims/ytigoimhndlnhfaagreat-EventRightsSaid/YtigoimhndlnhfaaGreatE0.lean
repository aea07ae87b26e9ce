/-
  Texts that were joined: Words, KA, KB, KC, KD, KE, KF, KG, KZ, KH, KI, KJ, KL, KM, Zero, TPrB. Conditions: what each theorem names.
-/
import Derived.WalkKit
import Derived.WalkSpells
import Derived.WalkLawsBesides
import Derived.Maps.AppendAt
import Derived.Deep.AppendLies
import Derived.Deep.Draws
import Derived.RegionTactic
import Derived.OwnWalk
import Derived.Laws.OwnMore
import Derived.Laws.Rows
import Derived.Lib.Hide
import Derived.Deep.QuietTactic
import Derived.BigQuiet
import Derived.StillTailTactics
import Derived.Orders
import Derived.Great.BuildSlice
import Derived.Laws.MakeOwn
import Derived.Lib.Bytealg
import Derived.Laws.IdiomStrings
import Derived.Defers
import Derived.Test.YtigoimhndlnhfaaGreatRows
set_option linter.unusedSectionVars false
namespace Go.RowKit
theorem Below.drewN {B:Nat}{a w:World}(h:Below B a w)(n:Nat):Below B a (w.drewN n):=⟨h.os,h.tape,h.output,h.size,h.block⟩
end Go.RowKit
namespace Go.Proofs.YtigoimhndlnhfaaGreat
open Go.RowKit
theorem aw (a:Addr)(n:Nat):(a.add n).block=a.block:=by unfold Addr.add;split<;>rfl
theorem fF (a:Addr)(i j:Nat):(a.add i).add j=a.add (i+j):=by
 unfold Addr.add
 by_cases hi:i=0<;>by_cases hj:j=0<;>simp[hi,hj,Nat.add_assoc]
def Reads (w:World)(B size:Nat)(A:Option Addr)(n:Nat)(xs:List Value):Prop:=
 xs.length=n*size∧(0<n→∃ad,A=some ad∧ad.block<B∧∀j u,xs[j]? =some u→w.cell? (ad.add j)=some u)
section
variable {w w':World} {B B' size n:Nat} {A:Option Addr} {xs:List Value}
theorem Reads.none_:Reads w B size A 0 []:=⟨by simp,fun h=>absurd h (by omega)⟩
theorem Reads.at_ {k:Nat}(h:Reads w B 1 A n xs)(hk:k<n):∃ad u,A=some ad∧ad.block<B∧xs[k]? =some u∧w.cell? (ad.add k)=some u:=by
 obtain⟨ad,e,hb,hc⟩:=h.2 (by omega);have hl:k<xs.length:=by have:=h.1;omega
 exact⟨ad,xs[k],e,hb,List.getElem?_eq_getElem hl,hc k _ (List.getElem?_eq_getElem hl)⟩
theorem Reads.ew (h:Reads w B size A n xs)(hk:∀p:Addr,p.block<B→w'.cell? p=w.cell? p):Reads w' B size A n xs:=
 ⟨h.1,fun hn=>by
  obtain⟨ad,e,hb,hc⟩:=h.2 hn;exact⟨ad,e,hb,fun j u hu=>(hk _ (by rw[aw];exact hb)).trans (hc j u hu)⟩⟩
theorem Reads.more (h:Reads w B size A n xs)(hB:B≤B'):Reads w B' size A n xs:=
 ⟨h.1,fun hn=>by
  obtain⟨ad,e,hb,hc⟩:=h.2 hn;exact⟨ad,e,by omega,hc⟩⟩
theorem Reads.below (h:Reads w B size A n xs)(hb:Below B w w'):Reads w' B size A n xs:=h.ew fun _ hp=>hb.cell hp
theorem Reads.sa {base:Nat}{e:TypeId}{c:Nat}(h:w.ownsRow base e size (.slice A n c) n xs):Reads w w.heap.size size A n xs:=by
 refine⟨h.1,fun hn=> ?_⟩;obtain⟨g,cap,hv,_,hlt⟩:=h.form hn;have hA:A=some ⟨g,0,none⟩:=by injection hv
 subst hA;exact⟨_,rfl,hlt,h.cells (g:=g) rfl⟩
end
def aK (w:World)(g:Nat)(t:TypeId)(cs:Array Value):Prop:=w.heap[g]? =some (.cells cs t (0,0))
section
variable {w w':World} {g:Nat} {t:TypeId} {cs:Array Value}
theorem aK.lt (h:aK w g t cs):g<w.heap.size:=by
 rcases Nat.lt_or_ge g w.heap.size with hlt|hge
 ·exact hlt
 ·unfold aK at h;rw[Array.getElem?_eq_none hge] at h;cases h
theorem aK.cell (h:aK w g t cs)(i:Nat):w.cell? ⟨g,i,none⟩=cs[i]? :=cell_of_row w g i cs t (0,0) h
theorem aK.frozen (h:aK w g t cs)(i:Nat):w.frozen? ⟨g,i,none⟩=false:=by
 unfold aK at h;simp[World.frozen?,h]
theorem aK.new (w:World)(t:TypeId)(cs:Array Value):aK (w.alloc (.cells cs t)) w.heap.size t cs:=heap_alloc_new w _
theorem aK.EC (h:aK w g t cs)(i:Nat)(u:Value):aK (w.setCell ⟨g,i,none⟩ u) g t (cs.setIfInBounds i u):=by
 unfold aK at h⊢;simp[World.setCell,Array.getElem?_modify,h]
theorem aK.below {B:Nat}(h:aK w g t cs)(hb:Below B w w')(hg:g<B):aK w' g t cs:=(hb.block g hg).trans h
theorem aK.grown {row:Option Nat}(h:aK w g t cs)(hb:w.grownBy w' row)(hg:some g≠row):aK w' g t cs:=(hb.block g h.lt hg).trans h
theorem aK.EU {g':Nat}{t':TypeId}{cs':Array Value}(h:aK w g t cs)(h':aK w g' t' cs')(hne:t≠t'):g≠g':=by
 rintro rfl;unfold aK at h h';rw[h] at h';injection h' with h'
 injection h' with _ ht
 exact hne ht
theorem fy {base:Nat}{e:TypeId}{size n:Nat}{v:Value}{xs:List Value}(h:w.ownsRow base e size v n xs)(hg:aK w g t cs)(hne:e≠t):v.ownBlock≠some g:=by
 rcases h.2 with ⟨rfl,_⟩|⟨g',cap,cur,rfl,_,hh,_⟩
 ·simp[Value.ownBlock]
 ·intro he
  have:g'=g:=by simpa[Value.ownBlock] using he
  subst this;exact aK.EU (t:=e) hh hg hne rfl
end
section
variable {P:Program} (w:World)
theorem mB (base:Nat)(t ty e:TypeId)(i:TypeInfo)(size:Nat)(ht:P.underlying t=some (.slice e))(hi:P.info? e=some i)
  (v:Value) (n:Nat) (xs:List Value) (hown:w.ownsRow base e size v n xs) (c:Nat):(Builtin.append_ #[t,t] ty #[v, .slice none 0 c]).run P w= .ok v w:=by
 rcases hown.2 with ⟨rfl,rfl⟩|⟨g,cap,cur,rfl,_,_,hnc,_⟩
 ·simp[Builtin.append_,run_underlying ht,sizeOf,typeInfo,hi,Builtin.lenOf,Builtin.firstCells]
 ·simp[Builtin.append_,run_underlying ht,sizeOf,typeInfo,hi,Builtin.lenOf,Builtin.firstCells,hnc,storeCells]
theorem kI (base:Nat)(t ty e:TypeId)(i:TypeInfo)(z:Value)(size bytes:Nat)(ht:P.underlying t=some (.slice e))(hi:P.info? e=some i)(hz:i.zero=some z)
  (hsize:i.size=size) (hby:i.bytes=bytes) (hzs:z.cells.size=size) (hsz:0<size)
  (v:Value) (n:Nat) (xs:List Value) (hown:w.ownsRow base e size v n xs)
  (B:Nat) (A:Option Addr) (m c:Nat) (news:List Value) (hr:Reads w B size A m news) (h1:∀u∈news,u.oneCell'=true)
  (h63:n+m≤maxLen) (hbytes:(n+m)*bytes≤140737488355328) (hbase:base≤w.heap.size):
  ∃v' w',(Builtin.append_ #[t,t] ty #[v, .slice A m c]).run P w= .ok v' w'∧w'.ownsRow base e size v' (n+m) (xs++news)∧w.grownBy w' v.ownBlock∧
   (v'.ownBlock=v.ownBlock∨v'.ownBlock=some w.heap.size):=by
 rcases A with _|ad
 ·have hm:m=0:=by
   rcases Nat.eq_zero_or_pos m with h0|h0
   ·exact h0
   ·obtain⟨ad,h,_⟩:=hr.2 h0
    cases h
  subst hm;have hn:news=[]:=List.eq_nil_of_length_eq_zero (by simpa using hr.1);subst hn;exact⟨v,w,mB w base t ty e i size ht hi v n xs hown c,by simpa using hown,World.grownBy.refl w _, .inl rfl⟩
 ·have hcells:∀j u,news[j]? =some u→w.cell? (ad.add j)=some u:=by
   intro j u hu;rcases Nat.eq_zero_or_pos m with h0|h0
   ·subst h0
    have hn:news=[]:=List.eq_nil_of_length_eq_zero (by simpa using hr.1);subst hn;simp at hu
   ·obtain⟨ad',h,_,hc⟩:=hr.2 h0
    injection h with h
    subst h;exact hc j u hu
  obtain⟨v',w',hrun,h2,h3,_,h5⟩:=run_append_own_at (P:=P) w base t ty e i z size bytes ht hi hz hsize hby hzs hsz v n xs hown ad m c news hr.1 hcells h1 h63 hbytes hbase;exact⟨v',w',hrun,h2,h3,h5⟩
end
theorem dq {P:Program}{ops:Array Oper}{rest:List Oper}{o:Oper}{a:Act}{Q:Exit→Act→World→Prop}(hgd:o.guard=none)(s x:Operand)(t:TypeId)
  (ho:o.op= .call {callee:= .builtin .append,args:= #[s,x],argTypes:= #[t,t]})
  (base:Nat) (e:TypeId) (i:TypeInfo) (z:Value) (size bytes:Nat) (ht:P.underlying t=some (.slice e)) (hi:P.info? e=some i) (hz:i.zero=some z)
  (hsize:i.size=size) (hby:i.bytes=bytes) (hzs:z.cells.size=size) (hsz:0<size)
  (W:World) (cs:Array Value) (v:Value) (n:Nat) (xs:List Value) (hs:a.eval s=v) (hown:W.ownsRow base e size v n xs)
  (g:Nat) (hg:g=W.heap.size) (hx:a.eval x= .slice (some ⟨g,0,none⟩) 1 1) (hcs:cs.size=size) (h1:∀u∈cs.toList,u.oneCell'=true)
  (hn:(n+1)*bytes≤140737488355328∧n+1≤maxLen) (hbase:base≤W.heap.size)
  (h:∀v' w',w'.ownsRow base e size v' (n+1) (xs++cs.toList)→(∀B W0,B≤base→Below B W0 W→Below B W0 w')→W.heap.size<w'.heap.size→wpList P ops Q rest (a.put o.dst v') w'):
  wpList P ops Q (o::rest) a (W.alloc (.cells cs e)):=by
 subst hg;refine wpList_append_own _ hgd s x t ho base e i z size bytes ht hi hz hsize hby hzs hsz v n xs hs (hown.alloc _) ⟨W.heap.size,0,none⟩ 1 1 cs.toList hx (by simpa using hcs) ?_ h1 hn.2 hn.1 (by simp;omega) ?_
 ·intro j u hu
  have hadd:(⟨W.heap.size,0,none⟩:Addr).add j=⟨W.heap.size,j,none⟩:=by unfold Addr.add;split<;>simp_all
  rw[hadd,cell_of_row _ _ _ _ _ _ (heap_alloc_new W _)]
  simpa using hu
 ·intro v' w' hown' hgr _
  refine h v' w' hown' (fun B W0 hB hb=> ?_) (by have:=hgr.size;simp at this;omega);exact(hb.alloc (by omega) _).grown hgr (by simp;omega) (fun k hk=>by have:=(hown.lt k hk).1;omega)
def j0 (w w':World):Prop:=∃n,w'=w.drewN n
theorem j0.refl (w:World):j0 w w:=⟨0,rfl⟩
theorem j0.drewN {w w':World}(h:j0 w w')(n:Nat):j0 w (w'.drewN n):=by
 obtain⟨m,rfl⟩:=h;exact⟨m+n,by rw[World.drewN_drewN]⟩
theorem j0.below {w w':World}(h:j0 w w')(B:Nat):Below B w w':=by
 obtain⟨m,rfl⟩:=h;exact(Below.refl _ _).drewN _
theorem int_eq {k:IntKind}{a b:Int}(h:a=b):Value.int k a= .int k b:=by rw[h]
theorem aL {a b:Bool}(h:a=b):Value.bool a= .bool b:=by rw[h]
theorem bw {x x':Value}(h:x=x'):Ending.returned x= .returned x':=by rw[h]
theorem wu {x x' y y':Value}(h:x=x')(h2:y=y'):Ending.returned (.tuple #[x,y])= .returned (.tuple #[x',y']):=by rw[h,h2]
theorem Ek {x x' y y' z z':Value}(h:x=x')(h2:y=y')(h3:z=z'):Ending.returned (.tuple #[x,y,z])= .returned (.tuple #[x',y',z']):=by rw[h,h2,h3]
theorem wrap_u64 (a:Int):IntKind.u64.wrap a=a%18446744073709551616:=by rw[IntKind.wrap_u64]
theorem s5 (a:Int)(h0:0≤a)(h1:a<18446744073709551616):IntKind.u64.wrap a=a:=by rw[wrap_u64];omega
section
variable {P:Program}
theorem qi (w:World)(g:Nat)(cs:Array Value):w.grownBy (w.setRow g cs) (some g):=
 ⟨rfl,rfl,rfl,by simp,fun k _ hne=>setRow_other w g k cs (fun e=>hne (by rw[e]))⟩
theorem run_loadCells_list (W:World)(a:Addr)(cs:List Value):∀(n i:Nat) (acc:Array Value),i+n=cs.length→(∀j v,cs[j]? =some v→W.cell? (a.add j)=some v)→
  (loadCellsFrom a i n acc).run P W= .ok (acc++(cs.drop i).toArray) W:=by
 intro n
 induction n with
 |zero=>intro i acc hi _;simp[loadCellsFrom,List.drop_of_length_le (show cs.length≤i by omega)]
 |succ n ih=>
  intro i acc hi h;have hlt:i<cs.length:=by omega
  have hc:=h i cs[i] (List.getElem?_eq_getElem hlt);have hd:cs.drop i=cs[i]::cs.drop (i+1):=List.drop_eq_getElem_cons hlt;simp only[loadCellsFrom];rw[hd];simp[go_sem,hc,ih (i+1) _ (by omega) h]
theorem ml (W:World)(ty:TypeId)(d:TypeDesc)(i:TypeInfo)(a:Addr)(cs:List Value)(hu:P.underlying ty=some d)(hd:(match d with| .struct _| .array _ _=>true|_=>false)=true)
  (hi:P.info? ty=some i) (hs:i.size=cs.length) (h:∀j v,cs[j]? =some v→W.cell? (a.add j)=some v):(loadVar ty a).run P W= .ok (.agg cs.toArray) W:=by
 have e:=run_loadCells_list (P:=P) W a cs cs.length 0 #[] (by simp) h
 cases d<;>first|(simp at hd;done)|(simp[loadVar,loadCells,isAgg,run_underlying hu,sizeOf,typeInfo,hi,hs,e])
theorem wpList_store_row {ops:Array Oper}{rest:List Oper}{o:Oper}{a:Act}{W:World}{Q:Exit→Act→World→Prop}(hgd:o.guard=none)(ty:TypeId)(x y:Operand)(ho:o.op= .store ty x y)(hdst:o.dst=none)
  (g off:Nat) (hx:a.eval x= .pointer (some ⟨g,off,none⟩)) (cs:Array Value) (hy:(a.eval y).cells=cs) (i:TypeInfo) (hi:P.info? ty=some i) (hs:i.size=cs.size) (h1:∀u∈cs.toList,u.oneCell'=true)
  (t:TypeId) (cur:Array Value) (hg:W.heap[g]? =some (.cells cur t (0,0))) (hfit:off+cs.size≤cur.size)
  (h:∀w',w'.heap[g]? =some (.cells (cur.toList.take off++(cs.toList++cur.toList.drop (off+cs.size))).toArray t (0,0))→W.grownBy w' (some g)→w'.heap.size=W.heap.size→wpList P ops Q rest a w'):
  wpList P ops Q (o::rest) a W:=
 wpList_plain hgd fun _ hK=>by
  unfold Oper.wp execOp;have hst:=run_storeCells_at P g off t cs.toList 0 cur W hg (by simpa using hfit) h1;simp only[Nat.add_zero,Array.length_toList] at hst;simp[ho,hdst,hx,hy,Instr.storeAt,Instr.sureAddr,storeVar,sizeOf,typeInfo,hi,hs,hst,Oper.upon,Act.put];exact hK _ _ (h _ (setRow_heap W g cur _ t (0,0) hg) (qi W g _) (by simp))
end
section
variable {P:Program}
end
theorem vm {a w w1:World}{row:Option Nat}(h:a.grownBy w row)(hb:Below w.heap.size w w1):a.grownBy w1 row:=
 ⟨hb.os.trans h.os,hb.tape.trans h.tape,hb.output.trans h.output,Nat.le_trans h.size hb.size,fun i hi hne=>(hb.block i (Nat.lt_of_lt_of_le hi h.size)).trans (h.block i hi hne)⟩
theorem vv {a w w1:World}{row:Option Nat}(h:a.grownBy w row)(k:w.grownBy w1 row):a.grownBy w1 row:=
 ⟨k.os.trans h.os,k.tape.trans h.tape,k.output.trans h.output,Nat.le_trans h.size k.size,fun i hi hne=>(k.block i (Nat.lt_of_lt_of_le hi h.size) hne).trans (h.block i hi hne)⟩
theorem lK {a w:World}{g B:Nat}(h:a.grownBy w (some g))(hB:B≤g)(hg:g<a.heap.size):Below B a w:=
 ⟨h.os,h.tape,h.output,h.size,fun k hk=>h.block k (by omega) (fun e=>by injection e with e;omega)⟩
theorem qv {a w:World}(h:Below a.heap.size a w)(row:Option Nat):a.grownBy w row:=⟨h.os,h.tape,h.output,h.size,fun i hi _=>h.block i hi⟩
theorem yf {w w':World}{base:Nat}{e:TypeId}{size n:Nat}{v:Value}{xs:List Value}(h:w.ownsRow base e size v n xs)(hb:Below w.heap.size w w'):w'.ownsRow base e size v n xs:=
 h.kept (qv hb none) (by cases hv:v.ownBlock<;>simp)
theorem zf {w:World}{base:Nat}{e:TypeId}{size n:Nat}{v:Value}{xs:List Value}(h:w.ownsRow base e size v n xs):∃A c,v= .slice A n c∧Reads w w.heap.size size A n xs:=by
 rcases h.2 with ⟨rfl,rfl⟩|⟨g,cap,cur,rfl,_⟩
 ·exact⟨none,0,rfl,Reads.sa h⟩
 ·exact⟨_,cap,rfl,Reads.sa h⟩
theorem vn {w:World}{base:Nat}{e:TypeId}{size n:Nat}{v:Value}{xs:List Value}{g:Nat}{t:TypeId}{cs:Array Value}(h:w.ownsRow base e size v n xs)(hg:w.heap[g]? =some (.cells cs t (0,0)))(hne:e≠t):
  v.ownBlock=none∨v.ownBlock≠some g:= .inr (fy h hg hne)
section
variable [Inhabited (List Deferred)]
def look:List (Nat × Value)→Nat→Option Value
 | [],_=>none
 |(k,v)::r,t=>bif Nat.beq k t then some v else look r t
def gg (F:List (Nat × Value)):Operand→Option Value
 | .tmp t=>look F t
 | .const v=>some v
 | .global g=>some (.pointer (some ⟨g,0,none⟩))
 | .func f=>some (.func (.func f) #[] #[])
structure Fr (n:Nat)(F:List (Nat × Value))(a:Act):Prop where
 size:a.tmps.size=n
 defers:a.defers=default
 slot:∀t v,look F t=some v→a.tmps[t]? =some v
theorem Fr.ev {n:Nat}{F:List (Nat × Value)}{a:Act}(h:Fr n F a):∀x u,gg F x=some u→a.eval x=u:=by
 intro x u hx
 cases x with
 |tmp t=>have:=h.slot t u hx;simp[Act.eval,this]
 |const v=>exact Option.some.inj hx
 |global g=>exact Option.some.inj hx
 |func f=>exact Option.some.inj hx
theorem b8 {F:List (Nat × Value)}{d t:Nat}{v u:Value}(h:look ((d,v)::F) t=some u):(d=t∧v=u)∨(d≠t∧look F t=some u):=by
 unfold look at h
 cases hb:Nat.beq d t with
 |true=>rw[hb] at h;exact .inl ⟨Nat.eq_of_beq_eq_true hb,Option.some.inj h⟩
 |false=>rw[hb] at h;exact .inr ⟨Nat.ne_of_beq_eq_false hb,h⟩
theorem Fr.put {n d:Nat}{F:List (Nat × Value)}{a:Act}{v:Value}(h:Fr n F a)(hd:d<n):Fr n ((d,v)::F) (a.put (some d) v):=by
 refine⟨by simp[Act.put,h.size],h.defers,fun t u hu=> ?_⟩;rcases b8 hu with ⟨rfl,rfl⟩|⟨hne,hu⟩
 ·simp[Act.put,h.size,hd]
 ·simp only[Act.put]
  rw[Array.getElem?_setIfInBounds_ne hne];exact h.slot t u hu
def Sub:List (Nat × Value)→List (Nat × Value)→Prop
 | [],_=>True
 |(t,v)::r,F=>look F t=some v∧Sub r F
theorem Sub.spec {F:List (Nat × Value)}:∀ {F':List (Nat × Value)},Sub F' F→∀t v,look F' t=some v→look F t=some v
 | [],_,_,_,h=>by simp[look] at h
 |(k,u)::r,hs,t,v,h=>by
  rcases b8 h with ⟨rfl,rfl⟩|⟨_,h⟩
  ·exact hs.1
  ·exact Sub.spec hs.2 t v h
theorem Fr.sub {n:Nat}{F F':List (Nat × Value)}{a:Act}(h:Fr n F a)(hs:Sub F' F):Fr n F' a:=⟨h.size,h.defers,fun t v ht=>h.slot t v (hs.spec t v ht)⟩
def aa (P:Program)(E:Operand→Option Value)(o:Oper)(w:World)(v:Value)(w':World):Prop:=∀ρ:Operand→Value,(∀x u,E x=some u→ρ x=u)→(execOp ρ o).run P w= .ok (.value v) w'
def wP (P:Program)(E:Operand→Option Value)(o:Oper)(w w':World):Prop:=∀ρ:Operand→Value,(∀x u,E x=some u→ρ x=u)→(execOp ρ o).run P w= .ok .skip w'
def Enters (P:Program)(E:Operand→Option Value)(o:Oper)(w:World)(f:FuncId)(args:Array Value):Prop:=∀ρ:Operand→Value,(∀x u,E x=some u→ρ x=u)→(execOp ρ o).run P w= .ok (.enter f args) w
def Seq (P:Program)(ops:Array Oper)(Q:Exit→Act→World→Prop)(rest:List Oper)(n:Nat)(F:List (Nat × Value))(w:World):Prop:=∀a,Fr n F a→wpList P ops Q rest a w
def Cd (P:Program)(c:Code)(Q:Exit→Act→World→Prop)(n:Nat)(F:List (Nat × Value))(w:World):Prop:=∀a,Fr n F a→c.wp P Q a w
def ab (Q:Exit→Act→World→Prop)(e:Exit)(n:Nat)(F:List (Nat × Value))(w:World):Prop:=∀a,Fr n F a→Q e a w
section
variable {P:Program} {ops:Array Oper} {Q:Exit→Act→World→Prop} {rest:List Oper} {o:Oper} {n d:Nat} {F F':List (Nat × Value)} {w w':World} {v:Value}
theorem Seq.val (hrun:aa P (gg F) o w v w')(hg:o.guard=none)(hd:o.dst=some d)(hn:Nat.blt d n=true)(h:Seq P ops Q rest n ((d,v)::F) w'):Seq P ops Q (o::rest) n F w:=by
 intro a ha;refine wpList_plain hg fun K hK=> ?_;unfold Oper.wp;rw[hrun a.eval ha.ev,Oper.upon_value,hd];exact hK _ _ (h _ (ha.put (Nat.blt_eq.mp hn)))
theorem Seq.unit (hrun:wP P (gg F) o w w')(hg:o.guard=none)(hd:o.dst=none)(h:Seq P ops Q rest n F w'):Seq P ops Q (o::rest) n F w:=by
 intro a ha;refine wpList_plain hg fun K hK=> ?_;unfold Oper.wp;rw[hrun a.eval ha.ev,Oper.upon_skip,hd];exact hK _ _ (h _ ha)
theorem Seq.call {f:FuncId}{args:Array Value}{R:Ending→World→Prop}(he:Enters P (gg F) o w f args)(hg:o.guard=none)(hd:o.dst=some d)(hn:Nat.blt d n=true)(hc:Calls P f args w R)
  (h:∀e w',R e w'→∃v,e= .returned v∧Seq P ops Q rest n ((d,v)::F) w'):Seq P ops Q (o::rest) n F w:=by
 intro a ha;refine wpList_plain hg fun K hK=> ?_;unfold Oper.wp;rw[he a.eval ha.ev,Oper.upon_enter,hd];refine hc.mono fun e w' hR=> ?_;obtain⟨v,rfl,hs⟩:=h e w' hR;exact hK _ _ (hs _ (ha.put (Nat.blt_eq.mp hn)))
theorem Seq.aF {j:Nat}{b:Bool}{t:Nat}(hrun:aa P (gg F) o w v w')(hg:o.guard=some (j,b))(ht:(ops[j]?).bind (·.dst)=some t)(hb:look F t=some (.bool b))(hd:o.dst=some d)(hn:Nat.blt d n=true)(h:Seq P ops Q rest n ((d,v)::F) w'):Seq P ops Q (o::rest) n F w:=by
 intro a ha;refine wpList_step fun K hK=> ?_
 have hw:Region.wanted o (yielded ops a.tmps)=true:=by
  unfold Region.wanted yielded;simp only[hg,ht,Option.bind_some,ha.slot t _ hb];simp
 rw[if_pos hw];unfold Oper.wp;rw[hrun a.eval ha.ev,Oper.upon_value,hd];exact hK _ _ (h _ (ha.put (Nat.blt_eq.mp hn)))
theorem Seq.tB {j:Nat}{b:Bool}{t:Nat}{f:FuncId}{args:Array Value}{R:Ending→World→Prop}(he:Enters P (gg F) o w f args)(hg:o.guard=some (j,b))(ht:(ops[j]?).bind (·.dst)=some t)(hb:look F t=some (.bool b))(hd:o.dst=some d)(hn:Nat.blt d n=true)(hc:Calls P f args w R)
  (h:∀e w',R e w'→∃v,e= .returned v∧Seq P ops Q rest n ((d,v)::F) w'):Seq P ops Q (o::rest) n F w:=by
 intro a ha;refine wpList_step fun K hK=> ?_
 have hw:Region.wanted o (yielded ops a.tmps)=true:=by
  unfold Region.wanted yielded;simp only[hg,ht,Option.bind_some,ha.slot t _ hb];simp
 rw[if_pos hw];unfold Oper.wp;rw[he a.eval ha.ev,Oper.upon_enter,hd];refine hc.mono fun e w' hR=> ?_;obtain⟨v,rfl,hs⟩:=h e w' hR;exact hK _ _ (hs _ (ha.put (Nat.blt_eq.mp hn)))
theorem Seq.n0 {j:Nat}{b b':Bool}{t:Nat}(hg:o.guard=some (j,b))(ht:(ops[j]?).bind (·.dst)=some t)(hb:look F t=some (.bool b'))(hne:b'= !b)(hd:o.dst=some d)(hn:Nat.blt d n=true)(h:Seq P ops Q rest n ((d,undef)::F) w):Seq P ops Q (o::rest) n F w:=by
 intro a ha;refine wpList_step fun K hK=> ?_
 have hw:Region.wanted o (yielded ops a.tmps)=false:=by
  unfold Region.wanted yielded;simp only[hg,ht,Option.bind_some,ha.slot t _ hb,hne]
  cases b<;>rfl
 rw[if_neg (by rw[hw];simp),hd];exact hK _ _ (h _ (ha.put (Nat.blt_eq.mp hn)))
theorem Seq.nil (h:ab Q .normal n F w):Seq P ops Q [] n F w:=fun a ha=>wpList_nil (h a ha)
theorem Cd.dV {c:Code}(hs:Sub F' F)(h:Cd P c Q n F' w):Cd P c Q n F w:=fun a ha=>h a (ha.sub hs)
theorem ab.dV {e:Exit}(hs:Sub F' F)(h:ab Q e n F' w):ab Q e n F w:=fun a ha=>h a (ha.sub hs)
theorem Cd.region {id:Nat}{l:List Oper}(h:Seq P l.toArray Q l n F w):Cd P (.region id l.toArray false) Q n F w:=fun a ha=>wp_region_lit (h a ha)
theorem Cd.seq {x y:Code}(h:Cd P x (Exit.then (y.wp P Q) Q) n F w):Cd P (.seq x y) Q n F w:=fun a ha=>wp_seq (h a ha)
theorem Cd.cond {c:Operand}{x y:Code}{b:Bool}(hc:gg F c=some (.bool b))(ht:b=true→Cd P x Q n F w)(hf:b=false→Cd P y Q n F w):Cd P (.cond c x y) Q n F w:=
 fun a ha=>wp_cond_split (ha.ev _ _ hc) (fun h=>ht h a ha) (fun h=>hf h a ha)
theorem Cd.au {c:Operand}{x y:Code}{p:Prop}[Decidable p](hc:gg F c=some (.bool (decide p)))(ht:p→Cd P x Q n F w)(hf:¬p→Cd P y Q n F w):Cd P (.cond c x y) Q n F w:=
 Cd.cond hc (fun h=>ht (of_decide_eq_true h)) (fun h=>hf (of_decide_eq_false h))
theorem Cd.aX {c:Operand}{x y:Code}{b:Bool}(hc:gg F c=some (.bool b))(hb:b=true)(h:Cd P x Q n F w):Cd P (.cond c x y) Q n F w:=Cd.cond hc (fun _=>h) (fun h0=>by rw[hb] at h0;cases h0)
theorem Cd.aN {c:Operand}{x y:Code}{b:Bool}(hc:gg F c=some (.bool b))(hb:b=false)(h:Cd P y Q n F w):Cd P (.cond c x y) Q n F w:=Cd.cond hc (fun h0=>by rw[hb] at h0;cases h0) (fun _=>h)
theorem Cd.block {id:Nat}{c:Code}(h:Cd P c (Exit.inBlock id Q) n F w):Cd P (.block id c) Q n F w:=fun a ha=>wp_block (h a ha)
theorem Cd.skip (h:ab Q .normal n F w):Cd P .skip Q n F w:=fun a ha=>wp_skip (h a ha)
theorem Cd.exit {id:Nat}(h:ab Q (.exit id) n F w):Cd P (.exit id) Q n F w:=fun a ha=>wp_exit (h a ha)
theorem Cd.ret (h:ab Q .ret n F w):Cd P .ret Q n F w:=fun a ha=>wp_ret (h a ha)
theorem ab.wQ {y:Code}(h:Cd P y Q n F w):ab (Exit.then (y.wp P Q) Q) .normal n F w:=h
theorem ab.af {K:Act→World→Prop}(h:ab Q .ret n F w):ab (Exit.then K Q) .ret n F w:=h
theorem ab.aD {K:Act→World→Prop}{id:Nat}(h:ab Q (.exit id) n F w):ab (Exit.then K Q) (.exit id) n F w:=h
theorem ab.aj {id:Nat}(h:ab Q .normal n F w):ab (Exit.inBlock id Q) .normal n F w:=h
theorem ab.ak {id:Nat}(h:ab Q .ret n F w):ab (Exit.inBlock id Q) .ret n F w:=h
theorem ab.az {id:Nat}(h:ab Q .normal n F w):ab (Exit.inBlock id Q) (.exit id) n F w:=fun a ha=>by
 show if id=id then Q .normal a w else Q (.exit id) a w;rw[if_pos rfl];exact h a ha
def xv {σ:Type}(n:Nat)(vf:σ→List (Nat × Value))(I:σ→World→Prop)(μ:σ→Nat)(s:σ)(a:Act)(w:World):Prop:=∃s',Fr n (vf s') a∧I s' w∧μ s'<μ s
theorem Cd.loop {σ:Type}{c:Code}(vf:σ→List (Nat × Value))(I:σ→World→Prop)(μ:σ→Nat)(s0:σ)(h0:I s0 w)(hs:Sub (vf s0) F)
  (round:∀s w,I s w→Cd P c (Exit.then (xv n vf I μ s) Q) n (vf s) w):Cd P (.loop c) Q n F w:=by
 intro a ha b k cs
 have key:∀m s a w,μ s=m→I s w→Fr n (vf s) a→∃e a' w',Q e a' w'∧Arrives P (lone (b.at a (.code c:: .inLoop c::k)) cs w) b k cs e a' w':=by
  intro m
  induction m using Nat.strongRecOn with
  |_ m ih=>
   intro s a w hm hI hF;obtain⟨e,a₁,w₁,hq,harr⟩:=round s w hI a hF b (.inLoop c::k) cs
   cases e with
   |normal=>
    obtain⟨s',hF',hI',hlt⟩:=hq;obtain⟨e₂,a₂,w₂,hq₂,harr₂⟩:=ih (μ s') (hm▸hlt) s' a₁ w₁ rfl hI' hF';exact⟨e₂,a₂,w₂,hq₂, .of_steps (Steps.trans harr (.one step_inLoop)) harr₂⟩
   |exit id=>exact⟨_,a₁,w₁,hq, .pass (x:= .inLoop c) rfl (fun _ _=> .inl (by simp)) harr⟩
   |goto l=>exact⟨_,a₁,w₁,hq, .pass (x:= .inLoop c) rfl (fun _ _=> .inl (by simp)) harr⟩
   |ret=>exact⟨_,a₁,w₁,hq, .pass (x:= .inLoop c) rfl (fun _ _=> .inl (by simp)) harr⟩
   |panic ch=>exact⟨_,a₁,w₁,hq, .pass (x:= .inLoop c) rfl (fun _ _=> .inl (by simp)) harr⟩
   |outgrown=>exact⟨_,a₁,w₁,hq, .pass (x:= .inLoop c) rfl (fun _ _=> .inl (by simp)) harr⟩
 obtain⟨e,a',w',hq,harr⟩:=key _ s0 a w rfl h0 (ha.sub hs);exact⟨e,a',w',hq, .of_steps (.one step_loop) harr⟩
theorem ab.round {σ:Type}{vf:σ→List (Nat × Value)}{I:σ→World→Prop}{μ:σ→Nat}{s:σ}(s':σ)(hs:Sub (vf s') F)(hI:I s' w)(hlt:μ s'<μ s):ab (Exit.then (xv n vf I μ s) Q) .normal n F w:=
 fun _ ha=>⟨s',ha.sub hs,hI,hlt⟩
theorem ab.bF {σ:Type}{vf:σ→List (Nat × Value)}{I:σ→World→Prop}{μ:σ→Nat}{s:σ}(h:ab Q .ret n F w):ab (Exit.then (xv n vf I μ s) Q) .ret n F w:=h
theorem ab.aA {σ:Type}{vf:σ→List (Nat × Value)}{I:σ→World→Prop}{μ:σ→Nat}{s:σ}{id:Nat}(h:ab Q (.exit id) n F w):ab (Exit.then (xv n vf I μ s) Q) (.exit id) n F w:=h
def C1 {σ:Type}(n:Nat)(vf:σ→List (Nat × Value))(J:σ→World→Prop)(a:Act)(w:World):Prop:=∃s,Fr n (vf s) a∧J s w
theorem Cd.lz {σ:Type}{x y:Code}(vf:σ→List (Nat × Value))(J:σ→World→Prop)(hx:Cd P x (Exit.then (C1 n vf J) Q) n F w)(hy:∀s w,J s w→Cd P y Q n (vf s) w):Cd P (.seq x y) Q n F w:=
 fun a ha=>wp_seq (Code.wp_mono (fun e a w q=>by
  cases e with
  |normal=>obtain⟨s,hF,hJ⟩:=q;exact hy s w hJ a hF
  |exit id=>exact q
  |goto l=>exact q
  |ret=>exact q
  |panic ch=>exact q
  |outgrown=>exact q) (hx a ha))
theorem ab.join {σ:Type}{vf:σ→List (Nat × Value)}{J:σ→World→Prop}(s:σ)(hs:Sub (vf s) F)(hJ:J s w):ab (Exit.then (C1 n vf J) Q) .normal n F w:=fun _ ha=>⟨s,ha.sub hs,hJ⟩
end
end
section
variable {P:Program} {ops:Array Oper} {Q:Exit→Act→World→Prop} {rest:List Oper} {o:Oper} {n d:Nat} {F F':List (Nat × Value)} {w w':World} {v:Value}
theorem Calls.of {f:FuncId}{fn:Func}{c:Code}{args:List Value}{R:Ending→World→Prop}(F:List (Nat × Value))(n:Nat)(hf:P.funcs[f]? =some fn)(hb:fn.body=some c)(hn:n=fn.ntmps)(hle:args.length≤n)
  (hF:∀a:Act,a.tmps=(args++List.replicate (n-args.length) undef).toArray→a.defers=[]→Fr n F a) (h:Cd P c (bodyPost P fn R) n F w):Calls P f args.toArray w R:=by
 refine calls_of_wp hf hb (h _ (hF _ ?_ rfl));show args.toArray++Array.replicate (fn.ntmps-args.toArray.size) undef=_;rw[←hn];apply Array.ext';simp
def kc:Nat→List Value→List (Nat × Value)
 |_,[]=>[]
 |k,v::r=>(k,v)::kc (k+1) r
theorem kC (args:List Value):∀k t v,look (kc k args) t=some v→∃j,t=k+j∧args[j]? =some v:=by
 induction args with
 |nil=>intro k t v h;simp[kc,look] at h
 |cons x r ih=>
  intro k t v h;rcases b8 h with ⟨rfl,rfl⟩|⟨_,h⟩
  ·exact⟨0,rfl,rfl⟩
  ·obtain⟨j,e,hj⟩:=ih _ _ _ h
   exact⟨j+1,by omega,hj⟩
theorem Calls.start {f:FuncId}{fn:Func}{c:Code}{args:List Value}{R:Ending→World→Prop}(n:Nat)(hf:P.funcs[f]? =some fn)(hb:fn.body=some c)(hn:fn.ntmps=n)(hle:Nat.ble args.length n=true)
  (h:Cd P c (bodyPost P fn R) n (kc 0 args) w):Calls P f args.toArray w R:=by
 have hle':=Nat.le_of_ble_eq_true hle;refine Calls.of (kc 0 args) n hf hb hn.symm hle' (fun a ha hd=>⟨by rw[ha];simp;omega,hd,fun t v ht=> ?_⟩) h;obtain⟨j,rfl,hj⟩:=kC args 0 t v ht;rw[ha,Nat.zero_add];have hlt:j<args.length:=(List.getElem?_eq_some_iff.1 hj).1;simp[List.getElem?_append_left hlt,hj]
theorem ab.aE {fn:Func}{R:Ending→World→Prop}{t:Nat}{e:Exit}(hr:fn.results= #[.tmp t]) (hl:look F t=some v) (he:e= .ret∨e= .normal) (h:R (.returned v) w):ab (bodyPost P fn R) e n F w:=by
 intro a ha;have hv:(results fn a.tmps).run P w= .ok v w:=by rw[results_tmp hr];simp[ha.slot t v hl]
 rcases he with rfl|rfl
 ·exact⟨ha.defers,v,hv,h⟩
 ·exact⟨ha.defers,v,hv,h⟩
theorem ab.fP {fn:Func}{R:Ending→World→Prop}{e:Exit}(hr:fn.results= #[]) (he:e= .ret∨e= .normal) (h:R (.returned (.tuple #[])) w):ab (bodyPost P fn R) e n F w:=by
 intro a ha;have hv:=results_none hr a.tmps P w;rcases he with rfl|rfl
 ·exact⟨ha.defers,_,hv,h⟩
 ·exact⟨ha.defers,_,hv,h⟩
theorem ab.bf {fn:Func}{R:Ending→World→Prop}{t u:Nat}{v':Value}{e:Exit}(hr:fn.results= #[.tmp t, .tmp u]) (hl:look F t=some v) (hl':look F u=some v') (he:e= .ret∨e= .normal) (h:R (.returned (.tuple #[v,v'])) w):ab (bodyPost P fn R) e n F w:=by
 intro a ha;have hv:(results fn a.tmps).run P w= .ok (.tuple #[v,v']) w:=by rw[results_tmp2 hr];simp[ha.slot t v hl,ha.slot u v' hl']
 rcases he with rfl|rfl
 ·exact⟨ha.defers,_,hv,h⟩
 ·exact⟨ha.defers,_,hv,h⟩
theorem ab.end_ {fn:Func}{R:Ending→World→Prop}{e:Exit}(hv:∀a,Fr n F a→(results fn a.tmps).run P w= .ok v w)(he:e= .ret∨e= .normal)(h:R (.returned v) w):ab (bodyPost P fn R) e n F w:=by
 intro a ha;rcases he with rfl|rfl
 ·exact⟨ha.defers,_,hv a ha,h⟩
 ·exact⟨ha.defers,_,hv a ha,h⟩
end
open Go.RowKit
theorem mJ {z:Int}(h0: -9223372036854775808≤z)(h1:z≤9223372036854775807):IntKind.i64.wrap z=z:=by rw[IntKind.wrap_i64];omega
theorem lG {z:Int}(h0:0≤z)(h1:z<18446744073709551616):IntKind.u64.wrap z=z:=s5 z h0 h1
theorem jq {z:Int}(h0:0≤z)(h1:z<256):IntKind.u8.wrap z=z:=by rw[IntKind.wrap_u8];omega
theorem bG {P:Program}{f:FuncId}{fn:Func}{c:Code}(hf:P.funcs[f]? =some fn)(hname:(fn.name== "runtime.NumGoroutine")=false)
  (hb:fn.body=some c) (args:Array Value) (w:World):(callFunc f args).run P w= .ok (.enter f args) w:=by
 simp only[callFunc,program,Sem.run_bind,Sem.run,Result.andThen_ok,hf,hname,hb,Option.isNone_some,if_false,Bool.false_eq_true];rfl
def iG (E:Operand→Option Value):List Operand→Option (List Value)
 | []=>some []
 |x::r=>match E x,iG E r with
  |some v,some vs=>some (v::vs)
  |_,_=>none
theorem ir {E:Operand→Option Value}{ρ:Operand→Value}(h:∀x u,E x=some u→ρ x=u):∀ {l:List Operand} {vs:List Value},iG E l=some vs→l.map ρ=vs
 | [],vs,e=>by simp[iG] at e;simp[e]
 |x::r,vs,e=>by
  unfold iG at e;split at e
  ·rename_i v vs' hx hr
   injection e with e
   subst e;rw[List.map_cons,h _ _ hx,ir h hr]
  ·cases e
def BI (E:Operand→Option Value):List (Nat × Operand)→Option (List (Nat × Value))
 | []=>some []
 |(i,x)::r=>match E x,BI E r with
  |some v,some vs=>some ((i,v)::vs)
  |_,_=>none
theorem sj {E:Operand→Option Value}{ρ:Operand→Value}(h:∀x u,E x=some u→ρ x=u):∀ {l:List (Nat × Operand)} {vs:List (Nat × Value)},BI E l=some vs→l.map (fun(i,x)=>(i,ρ x))=vs
 | [],vs,e=>by simp[BI] at e;simp[e]
 |(i,x)::r,vs,e=>by
  unfold BI at e;split at e
  ·rename_i v vs' hx hr
   injection e with e
   subst e;rw[List.map_cons,sj h hr];simp only[h _ _ hx]
  ·cases e
theorem run_equal_bool {P:Program}{T:TypeId}(hT:P.underlying T=some .bool)(a b:Bool)(w:World):(Op.equal T (.bool a) (.bool b)).run P w= .ok (a==b) w:=by
 have h:∀d:Nat,(Op.equalIn (d+1) T (.bool a) (.bool b)).run P w= .ok (a==b) w:=fun d=>by simp[Op.equalIn,run_underlying hT]
 exact h 9999
theorem jb {P:Program}{T e:TypeId}(hT:P.underlying T=some (.pointer e))(A:Option Addr)(w:World):(Op.equal T (.pointer A) (.pointer none)).run P w= .ok A.isNone w:=by
 have h:∀d:Nat,(Op.equalIn (d+1) T (.pointer A) (.pointer none)).run P w= .ok A.isNone w:=fun d=>by cases A<;>simp[Op.equalIn,run_underlying hT]
 exact h 9999
section
variable {P:Program} {E:Operand→Option Value} {o:Oper} {w w':World} {x y:Operand} {v:Value} {T T':TypeId} {k:IntKind} {p q r:Int} {a b:Bool}
theorem aa.move (ho:o.op= .move x)(hx:E x=some v):aa P E o w v w:=fun ρ h=>by unfold execOp;simp only[ho];rw[h _ _ hx];rfl
theorem aa.assign (ho:o.op= .assign x)(hx:E x=some v):aa P E o w v w:=fun ρ h=>by unfold execOp;simp only[ho];rw[h _ _ hx];rfl
theorem aa.cK {c x y:Operand}(ho:o.op= .pick c x y)(hc:E c=some (.bool true))(hx:E x=some v):aa P E o w v w:=fun ρ h=>by
 unfold execOp;simp only[ho];rw[h _ _ hc,h _ _ hx];rfl
theorem aa.bp {c x y:Operand}(ho:o.op= .pick c x y)(hc:E c=some (.bool false))(hy:E y=some v):aa P E o w v w:=fun ρ h=>by
 unfold execOp;simp only[ho];rw[h _ _ hc,h _ _ hy];rfl
theorem aa.cast {v':Value}(h:aa P E o w v w')(e:v=v'):aa P E o w v' w':=e▸h
theorem aa.kE {p:Prop}[Decidable p](h:aa P E o w (.bool (decide p)) w')(e:p):aa P E o w (.bool true) w':=h.cast (by rw[decide_eq_true e])
theorem aa.gN {p:Prop}[Decidable p](h:aa P E o w (.bool (decide p)) w')(e:¬p):aa P E o w (.bool false) w':=h.cast (by rw[decide_eq_false e])
theorem aa.bin {op:BinOp}{u u':Value}(ho:o.op= .binOp op T x y T')(hx:E x=some u)(hy:E y=some u')(hg:(eqGuard op T x y u u').run P w= .ok () w)(hb:(binOp op T u u').run P w= .ok v w):aa P E o w v w:=fun ρ h=>by
 unfold execOp;simp only[ho];rw[h _ _ hx,h _ _ hy];simp only[Sem.run_bind,hg,Result.andThen_ok,hb,Sem.run_pure]
theorem aa.ze (ho:o.op= .binOp .add T x y T')(hx:E x=some (.int k p))(hy:E y=some (.int k q))(hr:k.wrap (p+q)=r):aa P E o w (.int k r) w:= .bin ho hx hy rfl (by simp[binOp,Op.intArith,hr])
theorem aa.AO (ho:o.op= .binOp .sub T x y T')(hx:E x=some (.int k p))(hy:E y=some (.int k q))(hr:k.wrap (p-q)=r):aa P E o w (.int k r) w:= .bin ho hx hy rfl (by simp[binOp,Op.intArith,hr])
theorem aa.Dz (ho:o.op= .binOp .mul T x y T')(hx:E x=some (.int k p))(hy:E y=some (.int k q))(hr:k.wrap (p*q)=r):aa P E o w (.int k r) w:= .bin ho hx hy rfl (by simp[binOp,Op.intArith,hr])
theorem aa.Eb (ho:o.op= .binOp .quo T x y T')(hx:E x=some (.int k p))(hy:E y=some (.int k q))(hq:q≠0)(hr:k.wrap (p.tdiv q)=r):aa P E o w (.int k r) w:= .bin ho hx hy rfl (by simp[binOp,Op.intDiv,hr,hq])
theorem aa.El (ho:o.op= .binOp .rem T x y T')(hx:E x=some (.int k p))(hy:E y=some (.int k q))(hq:q≠0)(hr:p.tmod q=r):aa P E o w (.int k r) w:= .bin ho hx hy rfl (by simp[binOp,Op.intDiv,hr,hq])
theorem aa.EA {k':IntKind}(ho:o.op= .binOp .shl T x y T')(hx:E x=some (.int k p))(hy:E y=some (.int k' q))(hq:¬q<0)(hr:k.wrap (p*2^(min q.toNat k.bits))=r):aa P E o w (.int k r) w:= .bin ho hx hy rfl (by simp[binOp,Op.shift,hr,hq])
theorem aa.Ef {k':IntKind}(ho:o.op= .binOp .shr T x y T')(hx:E x=some (.int k p))(hy:E y=some (.int k' q))(hq:¬q<0)(hr:p.fdiv (2^(min q.toNat k.bits))=r):aa P E o w (.int k r) w:= .bin ho hx hy rfl (by simp[binOp,Op.shift,hr,hq])
theorem aa.jH (ho:o.op= .binOp .add T x y T')(hx:E x=some (.int .i64 p))(hy:E y=some (.int .i64 q))(h0: -9223372036854775808≤p+q)(h1:p+q≤9223372036854775807):aa P E o w (.int .i64 (p+q)) w:= .ze ho hx hy (mJ h0 h1)
theorem aa.eU (ho:o.op= .binOp .sub T x y T')(hx:E x=some (.int .i64 p))(hy:E y=some (.int .i64 q))(h0: -9223372036854775808≤p-q)(h1:p-q≤9223372036854775807):aa P E o w (.int .i64 (p-q)) w:= .AO ho hx hy (mJ h0 h1)
theorem aa.rZ (ho:o.op= .binOp .mul T x y T')(hx:E x=some (.int .i64 p))(hy:E y=some (.int .i64 q))(h0: -9223372036854775808≤p*q)(h1:p*q≤9223372036854775807):aa P E o w (.int .i64 (p*q)) w:= .Dz ho hx hy (mJ h0 h1)
theorem aa.Cs (ho:o.op= .binOp .add T x y T')(hx:E x=some (.int .u64 p))(hy:E y=some (.int .u64 q))(h0:0≤p+q)(h1:p+q<18446744073709551616):aa P E o w (.int .u64 (p+q)) w:= .ze ho hx hy (lG h0 h1)
theorem aa.Dy (ho:o.op= .binOp .mul T x y T')(hx:E x=some (.int .u64 p))(hy:E y=some (.int .u64 q))(h0:0≤p*q)(h1:p*q<18446744073709551616):aa P E o w (.int .u64 (p*q)) w:= .Dz ho hx hy (lG h0 h1)
theorem tr {p q:Int}(h0:0≤p)(hq:0<q):0≤p/q∧p/q≤p:=⟨Int.ediv_nonneg h0 (Int.le_of_lt hq),Int.ediv_le_self _ h0⟩
theorem aa.lB (ho:o.op= .binOp .quo T x y T')(hx:E x=some (.int .i64 p))(hy:E y=some (.int .i64 q))(h0:0≤p)(h1:p≤9223372036854775807)(hq:0<q):aa P E o w (.int .i64 (p/q)) w:=
 .Eb ho hx hy (by omega) (by rw[Int.tdiv_eq_ediv_of_nonneg h0];have:=tr h0 hq;exact mJ (by omega) (by omega))
theorem aa.tV (ho:o.op= .binOp .quo T x y T')(hx:E x=some (.int .u64 p))(hy:E y=some (.int .u64 q))(h0:0≤p)(h1:p<18446744073709551616)(hq:0<q):aa P E o w (.int .u64 (p/q)) w:=
 .Eb ho hx hy (by omega) (by rw[Int.tdiv_eq_ediv_of_nonneg h0];have:=tr h0 hq;exact lG (by omega) (by omega))
theorem aa.iK (ho:o.op= .binOp .rem T x y T')(hx:E x=some (.int k p))(hy:E y=some (.int k q))(h0:0≤p)(hq:0<q):aa P E o w (.int k (p%q)) w:=
 .El ho hx hy (by omega) (Int.tmod_eq_emod_of_nonneg h0)
theorem aa.EE {a s:Nat}{k':IntKind}(ho:o.op= .binOp .shr T x y T')(hx:E x=some (.int .u64 (a:Int)))(hy:E y=some (.int k' q))(hq:q=(s:Int))(hs:s≤64):aa P E o w (.int .u64 ((a/2^s:Nat):Int)) w:=by
 subst hq;refine .Ef ho hx hy (by omega) ?_;have e:min (s:Int).toNat IntKind.u64.bits=s:=by simp[IntKind.bits];omega
 rw[e];show((a:Int)).fdiv ((2:Int)^s)=_;rw[Int.fdiv_eq_ediv_of_nonneg _ (by exact Int.le_of_lt (Int.pow_pos (by omega)))];rw[Int.natCast_ediv,Int.natCast_pow];rfl
theorem aa.Ee {op:BinOp}{a b r:Nat}(ho:o.op= .binOp op T x y T')(hx:E x=some (.int .u64 (a:Int)))(hy:E y=some (.int .u64 (b:Int)))(ha:a<18446744073709551616)(hb:b<18446744073709551616)
  (hop:(op= .and∧r=a&&& b)∨(op= .or∧r=a|||b)∨(op= .xor∧r=a^^^b)):aa P E o w (.int .u64 (r:Int)) w:=by
 have e1:(BitVec.ofInt IntKind.u64.bits (a:Int)).toNat=a:=by simp[IntKind.bits];omega
 have e2:(BitVec.ofInt IntKind.u64.bits (b:Int)).toNat=b:=by simp[IntKind.bits];omega
 have hr:r<18446744073709551616:=by
  rcases hop with ⟨-,rfl⟩|⟨-,rfl⟩|⟨-,rfl⟩
  ·exact Nat.lt_of_le_of_lt Nat.and_le_left ha
  ·exact Nat.or_lt_two_pow (n:=64) ha hb
  ·exact Nat.xor_lt_two_pow (n:=64) ha hb
 refine .bin ho hx hy ?_ ?_
 ·rcases hop with ⟨rfl,-⟩|⟨rfl,-⟩|⟨rfl,-⟩<;>rfl
 ·rcases hop with ⟨rfl,hr'⟩|⟨rfl,hr'⟩|⟨rfl,hr'⟩
  ·show(Op.intBits .and .u64 a b).run P w=_
   simp only[Op.intBits,BitVec.toNat_and,e1,e2,←hr',lG (Int.natCast_nonneg r) (Int.ofNat_lt.2 hr)];rfl
  ·show(Op.intBits .or .u64 a b).run P w=_
   simp only[Op.intBits,BitVec.toNat_or,e1,e2,←hr',lG (Int.natCast_nonneg r) (Int.ofNat_lt.2 hr)];rfl
  ·show(Op.intBits .xor .u64 a b).run P w=_
   simp only[Op.intBits,BitVec.toNat_xor,e1,e2,←hr',lG (Int.natCast_nonneg r) (Int.ofNat_lt.2 hr)];rfl
theorem aa.Dc {a:Nat}(m:Nat)(ho:o.op= .binOp .rem T x y T')(hx:E x=some (.int k (a:Int)))(hy:E y=some (.int k q))(hq:q=(m:Int))(hm:0<m):aa P E o w (.int k ((a%m:Nat):Int)) w:=by
 subst hq;rw[Int.natCast_emod];exact aa.iK ho hx hy (by omega) (by omega)
theorem aa.zK {a:Nat}(m:Nat)(ho:o.op= .binOp .quo T x y T')(hx:E x=some (.int .u64 (a:Int)))(hy:E y=some (.int .u64 q))(hq:q=(m:Int))(hm:0<m)(ha:a<18446744073709551616):aa P E o w (.int .u64 ((a/m:Nat):Int)) w:=by
 subst hq;rw[Int.natCast_ediv];exact aa.tV ho hx hy (by omega) (by omega) (by omega)
theorem aa.D4 {a b:Nat}(ho:o.op= .binOp .add T x y T')(hx:E x=some (.int .u64 (a:Int)))(hy:E y=some (.int .u64 (b:Int)))(h:a+b<18446744073709551616):aa P E o w (.int .u64 ((a+b:Nat):Int)) w:=by
 rw[Int.natCast_add];exact aa.Cs ho hx hy (by omega) (by omega)
theorem aa.lss (ho:o.op= .binOp .lss T x y T')(hx:E x=some (.int k p))(hy:E y=some (.int k q)):aa P E o w (.bool (decide (p<q))) w:= .bin ho hx hy rfl (by simp[binOp,Op.intCmp])
theorem aa.leq (ho:o.op= .binOp .leq T x y T')(hx:E x=some (.int k p))(hy:E y=some (.int k q)):aa P E o w (.bool (decide (p≤q))) w:= .bin ho hx hy rfl (by simp[binOp,Op.intCmp])
theorem aa.gtr (ho:o.op= .binOp .gtr T x y T')(hx:E x=some (.int k p))(hy:E y=some (.int k q)):aa P E o w (.bool (decide (q<p))) w:= .bin ho hx hy rfl (by simp[binOp,Op.intCmp])
theorem aa.geq (ho:o.op= .binOp .geq T x y T')(hx:E x=some (.int k p))(hy:E y=some (.int k q)):aa P E o w (.bool (decide (q≤p))) w:= .bin ho hx hy rfl (by simp[binOp,Op.intCmp])
theorem aa.aB (ho:o.op= .binOp .eql T x y T')(hx:E x=some (.int k p))(hy:E y=some (.int k q)):aa P E o w (.bool (decide (p=q))) w:= .bin ho hx hy rfl (by simp[binOp,Op.intCmp];rfl)
theorem aa.bN (ho:o.op= .binOp .neq T x y T')(hx:E x=some (.int k p))(hy:E y=some (.int k q)):aa P E o w (.bool (decide (p≠q))) w:= .bin ho hx hy rfl (by
 simp[binOp,Op.intCmp]
 by_cases h:p=q<;>simp[h])
theorem aa.Es (ho:o.op= .binOp .eql T x y T')(hx:E x=some (.bool a))(hy:E y=some (.bool b))(hT:P.underlying T=some .bool):aa P E o w (.bool (decide (a=b))) w:=
 .bin ho hx hy rfl (by simp only[binOp,Sem.run_bind,run_equal_bool hT,Result.andThen_ok];cases a<;>cases b<;>rfl)
theorem aa.iL (ho:o.op= .binOp .neq T x y T')(hx:E x=some (.bool a))(hy:E y=some (.bool b))(hT:P.underlying T=some .bool):aa P E o w (.bool (decide (a≠b))) w:=
 .bin ho hx hy rfl (by simp only[binOp,Sem.run_bind,run_equal_bool hT,Result.andThen_ok];cases a<;>cases b<;>rfl)
theorem aa.Ej {s t:ByteArray}(ho:o.op= .binOp .eql T x y T')(hx:E x=some (.string s))(hy:E y=some (.string t)):aa P E o w (.bool (s.toList==t.toList)) w:= .bin ho hx hy rfl (by simp[binOp,Op.stringOp])
theorem aa.Eu {s t:ByteArray}(ho:o.op= .binOp .neq T x y T')(hx:E x=some (.string s))(hy:E y=some (.string t)):aa P E o w (.bool (!(s.toList==t.toList))) w:= .bin ho hx hy rfl (by simp[binOp,Op.stringOp])
theorem aa.EG {s t:ByteArray}(ho:o.op= .binOp .add T x y T')(hx:E x=some (.string s))(hy:E y=some (.string t))(hs:s.size+t.size≤9223372036854775807):aa P E o w (.string (s++t)) w:=
 .bin ho hx hy rfl (by simp only[binOp,Op.stringOp];rw[if_neg (by simp[IntKind.max,IntKind.bits,IntKind.signed];omega)];rfl)
theorem aa.Dj {A:Option Addr}(ho:o.op= .binOp .eql T x y T')(hx:E x=some (.pointer A))(hy:E y=some (.pointer none)){e:TypeId}(hT:P.underlying T=some (.pointer e)):aa P E o w (.bool A.isNone) w:=
 .bin ho hx hy rfl (by simp only[binOp,Sem.run_bind,jb hT,Result.andThen_ok];rfl)
theorem aa.Ep {A:Option Addr}(ho:o.op= .binOp .neq T x y T')(hx:E x=some (.pointer A))(hy:E y=some (.pointer none)){e:TypeId}(hT:P.underlying T=some (.pointer e)):aa P E o w (.bool A.isSome) w:=
 .bin ho hx hy rfl (by simp only[binOp,Sem.run_bind,jb hT,Result.andThen_ok];cases A<;>rfl)
theorem aa.not (ho:o.op= .unOp .not T x)(hx:E x=some (.bool a)):aa P E o w (.bool !a) w:=fun ρ h=>by unfold execOp;simp only[ho];rw[h _ _ hx];simp[Op.unary]
theorem aa.neg (ho:o.op= .unOp .neg T x)(hx:E x=some (.int k p))(hr:k.wrap (0-p)=r):aa P E o w (.int k r) w:=fun ρ h=>by unfold execOp;simp only[ho];rw[h _ _ hx];simp only[Op.unary,Op.intArith,hr];rfl
theorem aa.fb {k':IntKind}{d:TypeDesc}(ho:o.op= .convert T T' x)(hx:E x=some (.int k p))(hS:P.underlying T=some d)(hT:P.underlying T'=some (.int k'))(hr:k'.wrap p=r):aa P E o w (.int k' r) w:=fun ρ h=>by
 unfold execOp;simp only[ho];rw[h _ _ hx];simp[convert,run_underlying hS,run_underlying hT,Conv.intToInt,hr]
theorem aa.iy {c:Call}{bi:Builtin}{vs:List Value}(ho:o.op= .call c)(hc:c.callee= .builtin bi)(hx:iG E c.args.toList=some vs)
  (hb:∀cs,(builtin bi c.argTypes o.type cs vs.toArray).run P w= .ok (.value v) w'):aa P E o w v w':=fun ρ h=>by
 have hargs:c.args.map ρ=vs.toArray:=by
  apply Array.ext';rw[Array.toList_map,ir h hx]
 unfold execOp;simp only[ho,resolve,hc,hargs,Sem.run_bind,Sem.run_pure,Result.andThen_ok,invoke];exact hb _
theorem aa.len {t:TypeId}{A:Option Addr}{n c:Nat}(ho:o.op= .call {callee:= .builtin .len,args:= #[x],argTypes:= #[t]}) (hx:E x=some (.slice A n c)) {e:TypeId} (hT:P.underlying t=some (.slice e)):aa P E o w (.int .i64 (n:Int)) w:=
 .iy ho rfl (vs:=[.slice A n c]) (by simp only[iG,hx]) (fun cs=>by simp[builtin,Builtin.len_,run_underlying hT,goInt])
theorem aa.EB {t:TypeId}{s:ByteArray}(ho:o.op= .call {callee:= .builtin .len,args:= #[x],argTypes:= #[t]}) (hx:E x=some (.string s)) (hT:P.underlying t=some .string):aa P E o w (.int .i64 (s.size:Int)) w:=
 .iy ho rfl (vs:=[.string s]) (by simp only[iG,hx]) (fun cs=>by simp[builtin,Builtin.len_,run_underlying hT,goInt])
theorem aa.min2 {ts:Array TypeId}(ho:o.op= .call {callee:= .builtin .min,args:= #[x,y],argTypes:=ts}) (hx:E x=some (.int k p)) (hy:E y=some (.int k q)):aa P E o w (.int k (min p q)) w:=
 .iy ho rfl (vs:=[.int k p, .int k q]) (by simp only[iG,hx,hy]) (fun cs=>by
  have:(if q<p then q else p)=min p q:=by omega
  simp[builtin,Builtin.min_,Builtin.min2,this])
theorem aa.max2 {ts:Array TypeId}(ho:o.op= .call {callee:= .builtin .max,args:= #[x,y],argTypes:=ts}) (hx:E x=some (.int k p)) (hy:E y=some (.int k q)):aa P E o w (.int k (max p q)) w:=
 .iy ho rfl (vs:=[.int k p, .int k q]) (by simp only[iG,hx,hy]) (fun cs=>by
  have:(if p<q then q else p)=max p q:=by omega
  simp[builtin,Builtin.max_,Builtin.max2,this])
/-! memory -/
theorem aa.iu {ad:Addr}{d:TypeDesc}(ho:o.op= .load T x)(hx:E x=some (.pointer (some ad)))(hT:P.underlying T=some d)(hd:(match d with| .struct _| .array _ _=>true|_=>false)=false)(hc:w.cell? ad=some v):aa P E o w v w:=fun ρ h=>by
 unfold execOp;simp only[ho];rw[h _ _ hx]
 cases d<;>first|(simp at hd;done)|(simp[Instr.loadAt,Instr.sureAddr,loadVar,isAgg,run_underlying hT,hc])
theorem aa.CU {ad:Addr}{d:TypeDesc}{i:TypeInfo}{cs:List Value}(ho:o.op= .load T x)(hx:E x=some (.pointer (some ad)))(hT:P.underlying T=some d)(hd:(match d with| .struct _| .array _ _=>true|_=>false)=true)(hi:P.info? T=some i)(hs:i.size=cs.length)
  (hc:∀j v,cs[j]? =some v→w.cell? (ad.add j)=some v):aa P E o w (.agg cs.toArray) w:=fun ρ h=>by
 unfold execOp;simp only[ho];rw[h _ _ hx];simp only[Instr.loadAt,Instr.sureAddr,Sem.run_bind,Sem.run_pure,Result.andThen_ok,ml w T d i ad cs hT hd hi hs hc]
theorem aa.uQ {z:Value}(ho:o.op= .alloc T)(hz:∀w,(zeroValue T).run P w= .ok z w):aa P E o w (.pointer (some ⟨w.heap.size,0,none⟩)) (w.alloc (.cells z.cells T)):=fun ρ h=>by
 unfold execOp;simp only[ho,Instr.alloc,Sem.run_bind,hz,Result.andThen_ok];rfl
theorem aa.Em (ho:o.op= .box T x)(hx:E x=some v):aa P E o w (.pointer (some ⟨w.heap.size,0,none⟩)) (w.alloc (.cells v.cells T)):=fun ρ h=>by
 unfold execOp;simp only[ho];rw[h _ _ hx];rfl
theorem aa.build {ps:Array (Nat × Operand)}{vs:List (Nat × Value)}(ho:o.op= .build T ps)(hx:BI E ps.toList=some vs)(hb:(Instr.build T vs.toArray).run P w= .ok v w):aa P E o w v w:=fun ρ h=>by
 have hargs:ps.map (fun(i,x)=>(i,ρ x))=vs.toArray:=by
  apply Array.ext';rw[Array.toList_map,sj h hx]
 unfold execOp;simp only[ho,hargs,Sem.run_bind,hb,Result.andThen_ok];rfl
theorem aa.buildSlice {ps:Array (Nat × Operand)}{n:Nat}{vs:List (Nat × Value)}(ho:o.op= .buildSlice T n ps)(hx:BI E ps.toList=some vs)(hb:(Instr.buildSlice T n vs.toArray).run P w= .ok v w'):aa P E o w v w':=fun ρ h=>by
 have hargs:ps.map (fun(i,x)=>(i,ρ x))=vs.toArray:=by
  apply Array.ext';rw[Array.toList_map,sj h hx]
 unfold execOp;simp only[ho,hargs,Sem.run_bind,hb,Result.andThen_ok];rfl
theorem aa.fieldAddr {i:Nat}{u:Value}(ho:o.op= .fieldAddr T x i)(hx:E x=some u)(hb:(Instr.fieldAt T u i).run P w= .ok v w):aa P E o w v w:=fun ρ h=>by
 unfold execOp;simp only[ho];rw[h _ _ hx];simp only[Sem.run_bind,hb,Result.andThen_ok];rfl
theorem aa.field {i:Nat}{u:Value}(ho:o.op= .field T x i)(hx:E x=some u)(hb:(Instr.field T u i).run P w= .ok v w):aa P E o w v w:=fun ρ h=>by
 unfold execOp;simp only[ho];rw[h _ _ hx];simp only[Sem.run_bind,hb,Result.andThen_ok];rfl
theorem aa.indexAddr {ad:Addr}{j n c e:Nat}{i:TypeInfo}(ho:o.op= .indexAddr T x y)(hx:E x=some (.slice (some ad) n c))(hy:E y=some (.int k p))(hT:P.underlying T=some (.slice e))(hi:P.info? e=some i)(hp:p=(j:Int))(hlt:j<n):
  aa P E o w (.pointer (some (ad.add (j*i.size)))) w:=fun ρ h=>by
 subst hp;unfold execOp;simp only[ho];rw[h _ _ hx,h _ _ hy];simp[Instr.indexAt,run_underlying hT,asIntOf,sizeOf,typeInfo,hi,hlt]
theorem aa.DA {s:ByteArray}{j:Nat}{c:UInt8}(ho:o.op= .index T x y)(hx:E x=some (.string s))(hy:E y=some (.int k p))(hT:P.underlying T=some .string)(hp:p=(j:Int))(hlt:s[j]? =some c):aa P E o w (.int .u8 (c.toNat:Int)) w:=fun ρ h=>by
 subst hp;unfold execOp;simp only[ho];rw[h _ _ hx,h _ _ hy];simp[Instr.index,run_underlying hT,asIntOf,hlt]
theorem aa.extract {i:Nat}{vs:Array Value}(ho:o.op= .extract x i)(hx:E x=some (.tuple vs))(hv:vs[i]? =some v):aa P E o w v w:=fun ρ h=>by
 unfold execOp;simp only[ho];rw[h _ _ hx];simp[Instr.extract,hv]
theorem aa.makeFunc {fn:Fn}{a b:Array Operand}{us bs:List Value}(ho:o.op= .makeFunc fn a b)(ha:iG E a.toList=some us)(hb:iG E b.toList=some bs)(hm:(Instr.makeFunc fn us.toArray bs.toArray).run P w= .ok v w):aa P E o w v w:=fun ρ h=>by
 have h1:a.map ρ=us.toArray:=by apply Array.ext';rw[Array.toList_map,ir h ha]
 have h2:b.map ρ=bs.toArray:=by apply Array.ext';rw[Array.toList_map,ir h hb]
 unfold execOp;simp only[ho,h1,h2,Sem.run_bind,hm,Result.andThen_ok];rfl
theorem wP.kA {ad:Addr}{u:Value}{i:TypeInfo}(ho:o.op= .store T x y)(hx:E x=some (.pointer (some ad)))(hy:E y=some v)(hi:P.info? T=some i)(hs:i.size=1)(h1:v.cells= #[v]) (ho1:v.oneCell'=true) (hc:w.cell? ad=some u) (hf:w.frozen? ad=false):
  wP P E o w (w.setCell ad v):=fun ρ h=>by
 unfold execOp;simp only[ho];rw[h _ _ hx,h _ _ hy]
 have hst:(storeCells ad [v]).run P w= .ok () (w.setCell ad v):=by
  have hadd:ad.add 0=ad:=rfl
  cases v<;>first|(simp[Value.oneCell'] at ho1;done)|(simp only[storeCells,store,Sem.run_bind,hadd];simp[Sem.run,hc,hf])
 have h2:(Instr.storeAt T (.pointer (some ad)) v).run P w= .ok () (w.setCell ad v):=by
  simp only[Instr.storeAt,Instr.sureAddr,storeVar,sizeOf,typeInfo,Sem.run_bind,Sem.run_pure,Result.andThen_ok,h1];simp[hi,hs,hst]
 simp only[Sem.run_bind,h2,Result.andThen_ok];rfl
theorem Enters.func {f:FuncId}{args:Array Operand}{ts:Array TypeId}{vs:List Value}(ho:o.op= .call {callee:= .value (.func f),args:=args,argTypes:=ts})(hf:E (.func f)=some (.func (.func f) #[] #[])) (hx:iG E args.toList=some vs)
  (he:∀args w,(callFunc f args).run P w= .ok (.enter f args) w):Enters P E o w f vs.toArray:=fun ρ h=>by
 have hargs:args.map ρ=vs.toArray:=by
  apply Array.ext';rw[Array.toList_map,ir h hx]
 unfold execOp;simp only[ho,resolve,h _ _ hf,Deferred.ofValue,hargs,Sem.run_bind,Sem.run_pure,Result.andThen_ok,invoke];simp[he]
theorem Enters.value {f:FuncId}{args:Array Operand}{ts:Array TypeId}{vs:List Value}{first cap:List Value}(ho:o.op= .call {callee:= .value x,args:=args,argTypes:=ts})(hf:E x=some (.func (.func f) first.toArray cap.toArray))(hx:iG E args.toList=some vs)
  (he:∀args w,(callFunc f args).run P w= .ok (.enter f args) w):Enters P E o w f (first++vs++cap).toArray:=fun ρ h=>by
 have hargs:args.map ρ=vs.toArray:=by
  apply Array.ext';rw[Array.toList_map,ir h hx]
 unfold execOp;simp only[ho,resolve,h _ _ hf,Deferred.ofValue,hargs,Sem.run_bind,Sem.run_pure,Result.andThen_ok,invoke];simp[he]
end
end Go.Proofs.YtigoimhndlnhfaaGreat
namespace Go.RowKit
theorem Below.step {w0 w w':World}(h:Below w0.heap.size w0 w)(hb:Below w.heap.size w w'):Below w0.heap.size w0 w':=h.trans (hb.mono h.size)
end Go.RowKit
namespace Go.Proofs.YtigoimhndlnhfaaGreat
open Go.RowKit
def mQ (P:Program)(t:TypeId):Bool:=match P.info? t with|some i=>Nat.ble 1 i.size|none=>false
def dO (P:Program)(t:TypeId)(n:Nat):Bool:=match P.info? t with|some i=>Nat.beq i.size n|none=>false
theorem bL {P:Program}{t:TypeId}{n:Nat}(h:dO P t n=true):∃i,P.info? t=some i∧i.size=n:=by
 unfold dO at h
 cases hi:P.info? t with
 |none=>rw[hi] at h;cases h
 |some i=>rw[hi] at h;exact⟨i,rfl,Nat.eq_of_beq_eq_true h⟩
def ue (fields:Array Field)(i:Nat):Option (TypeId × Nat):=(fields[i]?).map fun f=>(f.type,f.offset)
theorem tn {P:Program}{T i k t:Nat}{fields:Array Field}(hT:P.underlying T=some (.struct fields))(hf:ue fields i=some (t,k))(hs:mQ P t=true)(ad:Addr)(w:World):
  (Instr.fieldAt T (.pointer (some ad)) i).run P w= .ok (.pointer (some (ad.add k))) w:=by
 unfold ue at hf
 cases hfi:fields[i]? with
 |none=>rw[hfi] at hf;cases hf
 |some f=>
  rw[hfi] at hf;obtain⟨rfl,rfl⟩:f.type=t∧f.offset=k:=by injection hf with h;injection h with h1 h2;exact⟨h1,h2⟩
  obtain⟨inf,hi,hsz⟩:∃inf,P.info? f.type=some inf∧1≤inf.size:=by
   unfold mQ at hs
   cases h:P.info? f.type with
   |none=>rw[h] at hs;cases hs
   |some inf=>rw[h] at hs;exact⟨inf,rfl,Nat.le_of_ble_eq_true hs⟩
  simp[Instr.fieldAt,run_underlying hT,hfi,Instr.sureAddr,fieldPlace,sizeOf,typeInfo,hi,show¬inf.size=0 by omega]
section
variable {P:Program} {ops:Array Oper} {Q:Exit→Act→World→Prop} {rest:List Oper} {E:Operand→Option Value} {o:Oper} {n d:Nat} {F F':List (Nat × Value)} {w w':World} {v:Value} {x y:Operand} {T T':TypeId}
variable [Inhabited (List Deferred)]
theorem aa.fL {i t:Nat}(k:Nat){fields:Array Field}{ad:Addr}(ho:o.op= .fieldAddr T x i)(hx:E x=some (.pointer (some ad)))(hT:P.underlying T=some (.struct fields))(hf:ue fields i=some (t,k))(hs:mQ P t=true):
  aa P E o w (.pointer (some (ad.add k))) w:= .fieldAddr ho hx (tn hT hf hs ad w)
theorem aa.an {i t g:Nat}(k:Nat){fields:Array Field}(ho:o.op= .fieldAddr T x i)(hx:E x=some (.pointer (some ⟨g,0,none⟩)))(hT:P.underlying T=some (.struct fields))(hf:ue fields i=some (t,k))(hs:mQ P t=true):
  aa P E o w (.pointer (some ⟨g,k,none⟩)) w:=by
 have h:=aa.fL (w:=w) k ho hx hT hf hs;have e:(⟨g,0,none⟩:Addr).add k=⟨g,k,none⟩:=by unfold Addr.add;split<;>simp_all
 rwa [e] at h
theorem aa.ag {g i:Nat}{cs:Array Value}{t:TypeId}{d:TypeDesc}(ho:o.op= .load T x)(hx:E x=some (.pointer (some ⟨g,i,none⟩)))(hT:P.underlying T=some d)(hd:(match d with| .struct _| .array _ _=>true|_=>false)=false)(hb:aK w g t cs)(hi:cs[i]? =some v):aa P E o w v w:=
 .iu ho hx hT hd ((hb.cell i).trans hi)
theorem aa.aQ {g:Nat}{cs:Array Value}{t:TypeId}{d:TypeDesc}(ho:o.op= .load T x)(hx:E x=some (.pointer (some ⟨g,0,none⟩)))(hT:P.underlying T=some d)(hd:(match d with| .struct _| .array _ _=>true|_=>false)=true)(hb:aK w g t cs){m:Nat}(hs:dO P T m=true)(hm:cs.size=m):aa P E o w (.agg cs) w:=by
 obtain⟨i,hi,hsz⟩:=bL hs
 exact .CU (cs:=cs.toList) ho hx hT hd hi (by simpa[hm] using hsz) (fun j v hj=>by
  have hadd:(⟨g,0,none⟩:Addr).add j=⟨g,j,none⟩:=by unfold Addr.add;split<;>simp_all
  rw[hadd,hb.cell j]
  simpa using hj)
structure A8 (w w':World)(g:Nat)(T:TypeId)(cs:Array Value):Prop where
 ge:w.heap.size≤g
 av:aK w' g T cs
 below:Below w.heap.size w w'
theorem A8.lt {g:Nat}{cs:Array Value}(h:A8 w w' g T cs):g<w'.heap.size:=h.av.lt
theorem kR (w:World)(cs:Array Value)(T:TypeId):A8 w (w.alloc (.cells cs T)) w.heap.size T cs:=⟨Nat.le_refl _,aK.new w T cs,(Below.refl _ _).alloc (Nat.le_refl _) _⟩
def cf (P:Program)(t:TypeId):Option (Option Value):=(P.info? t).map (·.zero)
theorem pE {t:TypeId}{z:Value}(h:cf P t=some (some z))(w:World):(zeroValue t).run P w= .ok z w:=by
 unfold cf at h
 cases hi:P.info? t with
 |none=>rw[hi] at h;cases h
 |some i=>
  rw[hi] at h;have hz:i.zero=some z:=by injection h
  simp[zeroValue,typeInfo,hi,hz]
theorem Seq.alloc {z:Value}(ho:o.op= .alloc T)(hz:∀w,(zeroValue T).run P w= .ok z w)(hg:o.guard=none)(hd:o.dst=some d)(hn:Nat.blt d n=true)
  (h:∀g w',A8 w w' g T z.cells→Seq P ops Q rest n ((d, .pointer (some ⟨g,0,none⟩))::F) w'):Seq P ops Q (o::rest) n F w:=
 Seq.val (aa.uQ ho hz) hg hd hn (h _ _ (kR w _ T))
theorem Seq.box (ho:o.op= .box T x)(hx:gg F x=some v)(hg:o.guard=none)(hd:o.dst=some d)(hn:Nat.blt d n=true)
  (h:∀g w',A8 w w' g T v.cells→Seq P ops Q rest n ((d, .pointer (some ⟨g,0,none⟩))::F) w'):Seq P ops Q (o::rest) n F w:=
 Seq.val (aa.Em ho hx) hg hd hn (h _ _ (kR w _ T))
theorem Seq.buildSlice {ps:Array (Nat × Operand)}{m e:Nat}{vs:List (Nat × Value)}{cs:Array Value}(ho:o.op= .buildSlice T m ps)(hx:BI (gg F) ps.toList=some vs)(hb:∀w,(Instr.buildSlice T m vs.toArray).run P w= .ok (.slice (some ⟨w.heap.size,0,none⟩) m m) (w.alloc (.cells cs e)))
  (hg:o.guard=none) (hd:o.dst=some d) (hn:Nat.blt d n=true)
  (h:∀g w',A8 w w' g e cs→Seq P ops Q rest n ((d, .slice (some ⟨g,0,none⟩) m m)::F) w'):Seq P ops Q (o::rest) n F w:=
 Seq.val (aa.buildSlice ho hx (hb w)) hg hd hn (h _ _ (kR w _ e))
def nY:Nat→List Value→List (Nat × Value)
 |_,[]=>[]
 |k,v::r=>(k,v)::nY (k+1) r
theorem rB (vs:List Value):∀k,nY k vs=(vs.zipIdx k).map fun x=>(x.2,x.1):=by
 induction vs with
 |nil=>intro k;rfl
 |cons v r ih=>intro k;simp[nY,ih]
def aP:List Value→List Value
 | []=>[]
 |v::r=>v.cells.toList++aP r
theorem tO (vs:List Value):vs.flatMap (fun v=>v.cells.toList)=aP vs:=by
 induction vs with
 |nil=>rfl
 |cons v r ih=>rw[List.flatMap_cons,ih];rfl
def tW (s:Nat):List Value→Prop
 | []=>True
 |v::r=>v.cells.size=s∧tW s r
theorem lU {s:Nat}:∀ {l:List Value},tW s l→∀v∈l,v.cells.size=s
 | [],_,_,h=>by cases h
 |v::r,h,u,hu=>by
  rcases List.mem_cons.1 hu with rfl|hu
  ·exact h.1
  ·exact lU h.2 u hu
theorem Seq.slice {ps:Array (Nat × Operand)}{m e s:Nat}{vs:List Value}{z:Value}(ho:o.op= .buildSlice T m ps)(hx:BI (gg F) ps.toList=some (nY 0 vs))(hm:vs.length=m)(hT:P.underlying T=some (.slice e))(hs:dO P e s=true)(hz:cf P e=some (some z))(hs0:0<s)(hsm:m*s≤16777216)(hvs:tW s vs)
  (hg:o.guard=none) (hd:o.dst=some d) (hn:Nat.blt d n=true)
  (h:∀g w',A8 w w' g e (aP vs).toArray→Seq P ops Q rest n ((d, .slice (some ⟨g,0,none⟩) m m)::F) w'):Seq P ops Q (o::rest) n F w:=by
 obtain⟨i,hi,hsz⟩:=bL hs;have hz':i.zero=some z:=by unfold cf at hz;rw[hi] at hz;injection hz
 subst hm;rcases Nat.eq_zero_or_pos vs.length with h0|h0
 ·have:vs=[]:=List.eq_nil_of_length_eq_zero h0
  subst this;refine Seq.buildSlice (e:=e) (cs:= #[]) ho hx ?_ hg hd hn h;intro w;simp[Instr.buildSlice,run_underlying hT,sizeOf,typeInfo,hi,nY,Instr.fill,newRow];have:Array.map (fun(_:Nat)=>(default:Value)) (Array.range 0)= #[]:=Array.eq_empty_of_size_eq_zero (by simp);rw[this]
 ·refine Seq.buildSlice (e:=e) (cs:=(aP vs).toArray) ho hx (fun w=>run_buildSlice w T e vs.length _ _ i z hT hi hz' (by rw[hsz];omega) (by rw[hsz];exact Nat.ne_of_gt (Nat.mul_pos h0 hs0)) ?_) hg hd hn h
  rw[hsz,rB,←tO];exact Great.fill_whole hs0 vs _ (lU hvs) (by simp)
theorem qx (z:Value)(n:Nat):madeCells #[z] n=(List.replicate n z).toArray:=by
 apply Array.ext_getElem?;intro i;unfold madeCells;rcases Nat.lt_or_ge i n with h|h
 ·simp[h,List.getElem?_replicate,Nat.mod_one]
 ·simp[Array.getElem?_eq_none,h]
theorem Seq.make {k k':IntKind}{c:Int}{m e b:Nat}{z:Value}(ho:o.op= .makeSlice T x y)(hx:gg F x=some (.int k c))(hy:gg F y=some (.int k' c))(hT:P.underlying T=some (.slice e))(hs:dO P e 1=true)(hz:cf P e=some (some z))(hz1:z.cells= #[z]) (hby:(P.info? e).map (·.bytes)=some b) (hc:c=(m:Int)) (hm:b*m≤281474976710656) (h63:m≤9223372036854775807)
  (hg:o.guard=none) (hd:o.dst=some d) (hn:Nat.blt d n=true)
  (h:∀g w',A8 w w' g e (List.replicate m z).toArray→Seq P ops Q rest n ((d, .slice (some ⟨g,0,none⟩) m m)::F) w'):Seq P ops Q (o::rest) n F w:=by
 obtain⟨i,hi,hsz⟩:=bL hs;have hz':i.zero=some z:=by unfold cf at hz;rw[hi] at hz;injection hz
 have hb':i.bytes=b:=by rw[hi] at hby;injection hby
 subst hc;refine Seq.val (v:= .slice (some ⟨w.heap.size,0,none⟩) m m) (w':=w.alloc (.cells (List.replicate m z).toArray e)) (fun ρ h=> ?_) hg hd hn (h _ _ (kR w _ e));have hr:=run_make (P:=P) w T e i z hT hi hz' k k' m m (by omega) (Int.le_refl _) (by rw[hb',←Int.natCast_mul];omega) (by omega);rw[Int.toNat_natCast,hsz,hz1,Nat.mul_one,qx] at hr;unfold execOp;simp only[ho];rw[h _ _ hx,h _ _ hy];simp only[Sem.run_bind,hr,Result.andThen_ok];rfl
theorem aa.dN {k:IntKind}{g j m c e:Nat}{p:Int}(ho:o.op= .indexAddr T x y)(hx:E x=some (.slice (some ⟨g,0,none⟩) m c))(hy:E y=some (.int k p))(hT:P.underlying T=some (.slice e))(hs:dO P e 1=true)(hp:p=(j:Int))(hlt:j<m):aa P E o w (.pointer (some ⟨g,j,none⟩)) w:=by
 obtain⟨i,hi,hsz⟩:=bL hs;have h:=aa.indexAddr (w:=w) ho hx hy hT hi hp hlt;rw[hsz,Nat.mul_one] at h;have e:(⟨g,0,none⟩:Addr).add j=⟨g,j,none⟩:=by unfold Addr.add;split<;>simp_all
 rwa [e] at h
theorem aa.bI {k:IntKind}{ad:Addr}{j m c e s:Nat}{p:Int}(ho:o.op= .indexAddr T x y)(hx:E x=some (.slice (some ad) m c))(hy:E y=some (.int k p))(hT:P.underlying T=some (.slice e))(hs:dO P e s=true)(hp:p=(j:Int))(hlt:j<m):aa P E o w (.pointer (some (ad.add (j*s)))) w:=by
 obtain⟨i,hi,hsz⟩:=bL hs;have h:=aa.indexAddr (w:=w) ho hx hy hT hi hp hlt
 rwa [hsz] at h
theorem aa.iM {k:IntKind}{ad:Addr}{j m c e:Nat}{p:Int}(ho:o.op= .indexAddr T x y)(hx:E x=some (.slice (some ad) m c))(hy:E y=some (.int k p))(hT:P.underlying T=some (.slice e))(hs:dO P e 1=true)(hp:p=(j:Int))(hlt:j<m):aa P E o w (.pointer (some (ad.add j))) w:=by
 have h:=aa.bI (w:=w) ho hx hy hT hs hp hlt
 rwa [Nat.mul_one] at h
theorem yC {w w':World}{a:Addr}{v:Value}(hc:w.cell? a=some v)(hG:Below w.heap.size w w'):w'.cell? a=some v:=(hG.cell (World.block_lt_of_cell? w a hc)).trans hc
structure lD (w w':World)(g:Nat)(T:TypeId)(cs:Array Value):Prop where
 av:aK w' g T cs
 grown:w.grownBy w' (some g)
 size:w'.heap.size=w.heap.size
theorem De {g i:Nat}{t:TypeId}{cs:Array Value}(hb:aK w g t cs)(v:Value):lD w (w.setCell ⟨g,i,none⟩ v) g t (cs.setIfInBounds i v):=
 ⟨hb.EC i v,⟨rfl,rfl,rfl,by simp[World.setCell],fun k hk hne=>Below.heap_setCell w _ v k (fun e=>hne (by rw[e]))⟩,by simp[World.setCell]⟩
theorem lD.below {g B:Nat}{cs:Array Value}(h:lD w w' g T cs)(hB:B≤g)(hg:g<w.heap.size):Below B w w':=lK h.grown hB hg
theorem lD.jm {g B:Nat}{cs:Array Value}{w0:World}(h:lD w w' g T cs)(hb:Below B w0 w)(hB:B≤g)(hg:g<w.heap.size):Below B w0 w':=hb.trans (h.below hB hg)
theorem Seq.kA {g i:Nat}{t:TypeId}{cs:Array Value}{u:Value}(ho:o.op= .store T x y)(hx:gg F x=some (.pointer (some ⟨g,i,none⟩)))(hy:gg F y=some v)(hs:dO P T 1=true)(h1:v.cells= #[v]) (ho1:v.oneCell'=true) (hb:aK w g t cs) (hc:cs[i]? =some u)
  (hg:o.guard=none) (hd:o.dst=none) (h:∀w',lD w w' g t (cs.setIfInBounds i v)→Seq P ops Q rest n F w'):Seq P ops Q (o::rest) n F w:=by
 obtain⟨inf,hi,hsz⟩:=bL hs;exact Seq.unit (wP.kA ho hx hy hi hsz h1 ho1 ((hb.cell i).trans hc) (hb.frozen i)) hg hd (h _ (De hb v))
def aY:List Value→Prop
 | []=>True
 |v::r=>v.oneCell'=true∧aY r
theorem rb:∀ {l:List Value},aY l→∀u∈l,u.oneCell'=true
 | [],_,_,h=>by cases h
 |v::r,h,u,hu=>by
  rcases List.mem_cons.1 hu with rfl|hu
  ·exact h.1
  ·exact rb h.2 u hu
theorem Seq.jM {g off m:Nat}{t:TypeId}{cs cur:Array Value}(ho:o.op= .store T x y)(hx:gg F x=some (.pointer (some ⟨g,off,none⟩)))(hy:gg F y=some v)(hcs:v.cells=cs)(hs:dO P T m=true)(hm:cs.size=m)(h1:aY cs.toList)(hb:aK w g t cur)(hfit:off+cs.size≤cur.size)
  (hg:o.guard=none) (hd:o.dst=none) (h:∀w',lD w w' g t (cur.toList.take off++(cs.toList++cur.toList.drop (off+cs.size))).toArray→Seq P ops Q rest n F w'):Seq P ops Q (o::rest) n F w:=by
 intro a ha;obtain⟨inf,hi,hsz⟩:=bL hs;refine wpList_store_row hg T x y ho hd g off (ha.ev _ _ hx) cs (by rw[ha.ev _ _ hy,hcs]) inf hi (hsz.trans hm.symm) (rb h1) t cur hb hfit fun w' h1 h2 h3=>h w' ⟨h1,h2,h3⟩ a ha
end
section
variable {P:Program} {ops:Array Oper} {Q:Exit→Act→World→Prop} {rest:List Oper} {E:Operand→Option Value} {o:Oper} {n d:Nat} {F F':List (Nat × Value)} {w w':World} {v:Value} {x y:Operand} {T T':TypeId}
theorem ab.cz {fn:Func}{R:Ending→World→Prop}{e:Exit}{p g:Nat}{ty t:TypeId}{cs:Array Value}{dsc:TypeDesc}(hr:fn.results= #[.cell p ty]) (hl:look F p=some (.pointer (some ⟨g,0,none⟩))) (hb:aK w g t cs) (hu:P.underlying ty=some dsc)
  (hd:(match dsc with| .struct _| .array _ _=>true|_=>false)=true) {m:Nat} (hs:dO P ty m=true) (hm:cs.size=m) (he:e= .ret∨e= .normal) (h:R (.returned (.agg cs)) w):ab (bodyPost P fn R) e n F w:=
 ab.end_ (fun a ha=>results_cell_row hr _ _ g t cs (0,0) dsc (by simp[ha.slot p _ hl]) hb hu hd (by obtain⟨inf,hi,hsz⟩:=bL hs;rw[hi,hm,←hsz];rfl)) he h
theorem ab.jh {fn:Func}{R:Ending→World→Prop}{e:Exit}{p q g:Nat}{ty t:TypeId}{cs:Array Value}{dsc:TypeDesc}(hr:fn.results= #[.cell p ty, .tmp q]) (hl:look F p=some (.pointer (some ⟨g,0,none⟩))) (hq:look F q=some v) (hb:aK w g t cs) (hu:P.underlying ty=some dsc)
  (hd:(match dsc with| .struct _| .array _ _=>true|_=>false)=true) {m:Nat} (hs:dO P ty m=true) (hm:cs.size=m) (he:e= .ret∨e= .normal) (h:R (.returned (.tuple #[.agg cs,v])) w):ab (bodyPost P fn R) e n F w:=
 ab.end_ (fun a ha=>by
  have hp':a.tmps[p]?.getD undef= .pointer (some ⟨g,0,none⟩):=by simp[ha.slot p _ hl]
  have e:=run_loadVar_row (P:=P) w g t ty cs (0,0) dsc hb hu (by cases dsc<;>first|rfl|(simp at hd)) (by obtain⟨inf,hi,hsz⟩:=bL hs;rw[hi,hm,←hsz];rfl);simp[results,hr,hp',asAddr,e,ha.slot q _ hq]) he h
end
structure Cell (w:World)(B:Nat)(a:Addr)(v:Value):Prop where
 lt:a.block<B
 val:w.cell? a=some v
theorem Cell.step {w w':World}{B:Nat}{a:Addr}{v:Value}(h:Cell w B a v)(hb:Below w.heap.size w w'):Cell w' B a v:=⟨h.lt,yC h.val hb⟩
theorem Cell.put {w w':World}{B g:Nat}{a:Addr}{v:Value}{T:TypeId}{cur cs:Array Value}(h:Cell w B a v)(_k:aK w g T cur)(p:lD w w' g T cs)(e:B≤g):Cell w' B a v:=
 ⟨h.lt,(World.cell?_of_block (p.grown.block a.block (World.block_lt_of_cell? w a h.val) (fun he=>by injection he with he;have:=h.lt;omega))).trans h.val⟩
/-! What was known stays known. -/
end Go.Proofs.YtigoimhndlnhfaaGreat
namespace Go.RowKit
open Go.Proofs.YtigoimhndlnhfaaGreat
theorem Below.put {w0 w w':World}{g:Nat}{T:TypeId}{cur cs:Array Value}(h:Below w0.heap.size w0 w)(k:aK w g T cur)(p:lD w w' g T cs)(e:w0.heap.size≤g):Below w0.heap.size w0 w':=p.jm h e k.lt
end Go.RowKit
namespace Go.Proofs.YtigoimhndlnhfaaGreat
open Go.RowKit
theorem aK.step {w w':World}{g:Nat}{T:TypeId}{cs:Array Value}(h:aK w g T cs)(hb:Below w.heap.size w w'):aK w' g T cs:=h.below hb h.lt
theorem aK.put {w w':World}{g g':Nat}{T T':TypeId}{cs cs':Array Value}(h:aK w g T cs)(hp:lD w w' g' T' cs')(hne:g≠g'):aK w' g T cs:=h.grown hp.grown (fun e=>hne (by injection e))
open Go.RowKit
variable [Inhabited (List Deferred)]
def lj:List Edge→List Nat
 | []=>[]
 |e::r=>bif Region.binds .any e then e.on::lj r else lj r
def direct (o:Oper):List Nat:=lj o.after.toList
theorem sT {l:List Edge}{j:Nat}:j∈lj l↔∃e∈l,Region.binds .any e=true∧e.on=j:=by
 induction l with
 |nil=>simp[lj]
 |cons e r ih=>
  unfold lj
  cases h:Region.binds .any e
  ·rw[cond_false,ih]
   constructor
   ·rintro⟨x,h1,h2,h3⟩;exact⟨x,List.mem_cons_of_mem _ h1,h2,h3⟩
   ·rintro⟨x,h1,h2,h3⟩
    rcases List.mem_cons.1 h1 with rfl|h1
    ·rw[h] at h2;cases h2
    ·exact⟨x,h1,h2,h3⟩
  ·rw[cond_true,List.mem_cons,ih]
   constructor
   ·rintro(rfl|⟨x,h1,h2,h3⟩)
    ·exact⟨e,List.mem_cons_self,h,rfl⟩
    ·exact⟨x,List.mem_cons_of_mem _ h1,h2,h3⟩
   ·rintro⟨x,h1,h2,h3⟩
    rcases List.mem_cons.1 h1 with rfl|h1
    ·exact .inl h3.symm
    ·exact .inr ⟨x,h1,h2,h3⟩
theorem jz {o:Oper}{j:Nat}:j∈direct o↔∃e∈o.after,Region.binds .any e=true∧e.on=j:=by
 unfold direct;rw[sT];simp
inductive Fact where
 |eq (v:Value)
 |sat (Φ:Value→World→Prop)
def Fact.holds:Fact→Value→World→Prop
 | .eq v,u,_=>u=v
 | .sat Φ,u,w=>Φ u w
abbrev Env:=List (Nat × Option Nat × Fact)
def Env.find:Env→Nat→Option (Option Nat × Fact)
 | [],_=>none
 |(i,d,f)::r,j=>bif Nat.beq i j then some (d,f) else Env.find r j
def bc:List Nat→Nat→Bool
 | [],_=>false
 |x::r,j=>bif Nat.beq x j then true else bc r j
theorem ar {l:List Nat}{j:Nat}(h:bc l j=true):j∈l:=by
 induction l with
 |nil=>cases h
 |cons x r ih=>
  unfold bc at h
  cases hb:Nat.beq x j with
  |true=>exact List.mem_cons.2 (.inl (Nat.eq_of_beq_eq_true hb).symm)
  |false=>rw[hb] at h;exact List.mem_cons.2 (.inr (ih h))
theorem sI {l:List Nat}{j:Nat}(h:j∈l):bc l j=true:=by
 induction l with
 |nil=>cases h
 |cons x r ih=>
  unfold bc
  cases hb:Nat.beq x j with
  |true=>rfl
  |false=>
   rcases List.mem_cons.1 h with rfl|h
   ·exact absurd rfl (Nat.ne_of_beq_eq_false hb)
   ·exact ih h
def pR (F0:List (Nat × Value))(ds:List Nat)(t:Nat):Env→Option Value
 | []=>look F0 t
 |(j,some d, .eq v)::r=>bif Nat.beq d t then(bif bc ds j then some v else none) else pR F0 ds t r
 |(_,some d, .sat _)::r=>bif Nat.beq d t then none else pR F0 ds t r
 |(_,none,_)::r=>pR F0 ds t r
def kS (X F0:List (Nat × Value))(Γ:Env)(o:Oper):Operand→Option Value
 | .tmp t=>match look X t with
  |some v=>some v
  |none=>pR F0 (direct o) t Γ
 | .const v=>some v
 | .global g=>some (.pointer (some ⟨g,0,none⟩))
 | .func f=>some (.func (.func f) #[] #[])
section
variable (P:Program) (ops:Array Oper) (Q:Exit→Act→World→Prop) (n:Nat) (F0:List (Nat × Value)) (G:World→World→Prop) (w0:World)
def mU (Γ:Env)(S:Nat→Prop)(a:Act)(w:World):Prop:=∀j d f,Env.find Γ j=some (d,f)→S j→∃u,(∀t,d=some t→a.tmps[t]? =some u)∧f.holds u w
def j3 (X:List (Nat × Value))(W:World→Prop)(Γ:Env)(o:Oper)(f:Fact):Prop:=∀a w,a.tmps.size=n→G w0 w→W w→mU Γ (· ∈direct o) a w→(∀t v,look F0 t=some v→a.tmps[t]? =some v)→(∀t v,look X t=some v→a.tmps[t]? =some v)→
 if Region.wanted o (yielded ops a.tmps) then o.wp P a w (fun a' w'=>∃u,a'=a.put o.dst u∧G w w'∧f.holds u w') Q else f.holds undef w
def ba (tail:List Oper)(X:List (Nat × Value))(W:World→Prop)(Γ:Env):Prop:=∀a w,a.tmps.size=n→a.defers=default→G w0 w→W w→mU Γ (fun _=>True) a w→(∀t v,look F0 t=some v→a.tmps[t]? =some v)→(∀t v,look X t=some v→a.tmps[t]? =some v)→wpList P ops Q tail a w
def Fact.m0:Fact→Prop
 | .eq _=>True
 | .sat Φ=>∀v w w',G w w'→Φ v w→Φ v w'
def CQ (X:List (Nat × Value))(W:World→Prop)(Γ:Env)(o:Oper)(f:Fact):Prop:=∃v,f= .eq v∧∀a w,a.tmps.size=n→G w0 w→W w→mU Γ (· ∈direct o) a w→(∀t v,look F0 t=some v→a.tmps[t]? =some v)→(∀t v,look X t=some v→a.tmps[t]? =some v)→Yields P ops o v a
def EL (AL:List Nat)(Γ:Env)(S:Nat→Prop)(a:Act):Prop:=∀i j di dj fi fj gi gj,i≠j→Env.find Γ i=some (some di,fi)→Env.find Γ j=some (some dj,fj)→bc AL i=true→bc AL j=true→S i→S j→
 a.tmps[di]? =some (.pointer (some ⟨gi,0,none⟩))→a.tmps[dj]? =some (.pointer (some ⟨gj,0,none⟩))→gi≠gj
def Dt (AL:List Nat)(Γ:Env)(S:Nat→Prop)(a:Act)(w:World):Prop:=∀i di fi gi,Env.find Γ i=some (some di,fi)→bc AL i=true→S i→a.tmps[di]? =some (.pointer (some ⟨gi,0,none⟩))→gi<w.heap.size
def Ez (AL:List Nat)(tail:List Oper)(X:List (Nat × Value))(W:World→Prop)(Γ:Env):Prop:=∀a w,a.tmps.size=n→a.defers=default→G w0 w→W w→mU Γ (fun _=>True) a w→(∀t v,look F0 t=some v→a.tmps[t]? =some v)→(∀t v,look X t=some v→a.tmps[t]? =some v)→EL AL Γ (fun _=>True) a→wpList P ops Q tail a w
def fV (L:List Nat)(B:Env→Prop):Nat→List Oper→Env→Prop
 |_,[],Γ=>B Γ
 |k,o::r,Γ=>∃f,Fact.m0 G f∧j3 P ops Q n F0 G w0 [] (fun _=>True) Γ o f∧(bc L k=true→CQ P ops n F0 G w0 [] (fun _=>True) Γ o f)∧fV L B (k+1) r ((k,o.dst,f)::Γ)
end
def j1 (k:Nat):List Nat→Bool
 | []=>true
 |x::r=>bif Nat.blt x k then j1 k r else false
theorem dQ {k:Nat}{l:List Nat}(h:j1 k l=true):∀x∈l,x<k:=by
 induction l with
 |nil=>intro x hx;cases hx
 |cons y r ih=>
  unfold j1 at h
  cases hb:Nat.blt y k with
  |false=>rw[hb] at h;cases h
  |true=>
   rw[hb] at h;intro x hx;rcases List.mem_cons.1 hx with rfl|hx
   ·exact Nat.blt_eq.mp hb
   ·exact ih h x hx
def gO (n:Nat)(keys:List Nat):Nat→List Nat→List Oper→Bool
 |_,_,[]=>true
 |k,ds,o::r=>bif j1 k (direct o) then(match o.dst with
  |some d=>bif Nat.blt d n&& !bc ds d&& !bc keys d then gO n keys (k+1) (d::ds) r else false
  |none=>gO n keys (k+1) ds r) else false
def mn:Nat→List Oper→Bool
 |_,[]=>true
 |k,o::r=>bif j1 k (direct o)&&bc (direct o) (k-1) then mn (k+1) r else false
def hasNext (L:List Nat)(j:Nat):Nat→List Oper→Bool
 |_,[]=>false
 |i,o::r=>bif bc (direct o) j&& !bc L i then true else hasNext L j (i+1) r
def oL (L:List Nat):Nat→List Oper→List Oper→Bool
 |_,[],_=>true
 |j,_::r,t=>bif bc L j||hasNext L j (j+1) (r++t) then oL L (j+1) r t else false
def mo (ops:Array Oper)(i:Nat)(o:Oper):Nat→List Oper→Bool
 |_,[]=>true
 |j,x::r=>(Nat.beq i j||bc (direct x) i||bc (direct o) j||o.apart ops x)&&mo ops i o (j+1) r
def kW (ops:Array Oper):List Nat→Bool
 | []=>true
 |i::r=>(match ops[i]? with
  |some o=>mo ops i o 0 ops.toList
  |none=>false)&&kW ops r
def rp:List Oper→Bool
 | []=>true
 |o::r=>(match o.op with| .select .. =>false|_=>true)&&rp r
def nE (n:Nat)(keys:List Nat)(L:List Nat)(init tail:List Oper):Bool:=gO n keys 0 [] init&&(match tail with
 | []=>true
 |o::r=>j1 init.length (direct o)&&oL L 0 init [o]&&mn (init.length+1) r)&&j1 init.length L&&(match L with
 | []=>true
 |_=>kW (init++tail).toArray L&&rp (init++tail))
def jO:List (Nat × Value)→List Nat
 | []=>[]
 |(k,_)::r=>k::jO r
theorem gV {F:List (Nat × Value)}{t:Nat}{v:Value}(h:look F t=some v):t∈jO F:=by
 induction F with
 |nil=>cases h
 |cons p r ih=>
  obtain⟨k,u⟩:=p;rcases b8 h with ⟨rfl,-⟩|⟨-,h⟩
  ·exact List.mem_cons.2 (.inl rfl)
  ·exact List.mem_cons.2 (.inr (ih h))
theorem eX {n:Nat}{keys:List Nat}:∀ {l:List Oper} {k:Nat} {ds:List Nat},gO n keys k ds l=true→∀i o,l[i]? =some o→(∀x∈direct o,x<k+i)∧(∀d,o.dst=some d→d<n∧d∉ds∧d∉keys∧∀i' o',l[i']? =some o'→i'≠i→o'.dst≠some d)
 | [],_,_,_,i,o,ho=>by simp at ho
 |o::r,k,ds,h,i,o1,ho=>by
  unfold gO at h
  cases h1:j1 k (direct o) with
  |false=>rw[h1] at h;cases h
  |true=>
   rw[h1] at h
   cases hd:o.dst with
   |none=>
    rw[hd] at h;have ih:=eX (l:=r) h
    cases i with
    |zero=>
     obtain rfl:o=o1:=by simpa using ho
     exact⟨dQ h1,fun d e=>by rw[hd] at e;cases e⟩
    |succ i=>
     have ho':r[i]? =some o1:=by simpa using ho
     obtain⟨a1,a2⟩:=ih i o1 ho';refine⟨fun x hx=>by have:=a1 x hx;omega,fun d e=> ?_⟩;obtain⟨b1,b2,b3,b4⟩:=a2 d e;refine⟨b1,b2,b3,fun i' o' h' hne=> ?_⟩
     cases i' with
     |zero=>
      obtain rfl:o=o':=by simpa using h'
      rw[hd];simp
     |succ i'=>exact b4 i' o' (by simpa using h') (by omega)
   |some d0=>
    rw[hd] at h;simp only at h
    cases hc:(Nat.blt d0 n&& !bc ds d0&& !bc keys d0) with
    |false=>rw[hc] at h;cases h
    |true=>
     rw[hc] at h;simp only[Bool.and_eq_true,Bool.not_eq_true'] at hc;obtain⟨⟨c1,c2⟩,c3⟩:=hc;have ih:=eX (l:=r) h
     cases i with
     |zero=>
      obtain rfl:o=o1:=by simpa using ho
      refine⟨dQ h1,fun d e=> ?_⟩;obtain rfl:d0=d:=by rw[hd] at e;injection e
      refine⟨Nat.blt_eq.mp c1,(fun hm=>by rw[sI hm] at c2;cases c2),(fun hm=>by rw[sI hm] at c3;cases c3),fun i' o' h' hne=> ?_⟩
      cases i' with
      |zero=>exact absurd rfl hne
      |succ i'=>
       intro e';exact((ih i' o' (by simpa using h')).2 d0 e').2.1 (List.mem_cons.2 (.inl rfl))
     |succ i=>
      have ho':r[i]? =some o1:=by simpa using ho
      obtain⟨a1,a2⟩:=ih i o1 ho';refine⟨fun x hx=>by have:=a1 x hx;omega,fun d e=> ?_⟩;obtain⟨b1,b2,b3,b4⟩:=a2 d e;refine⟨b1,fun hm=>b2 (List.mem_cons.2 (.inr hm)),b3,fun i' o' h' hne=> ?_⟩
      cases i' with
      |zero=>
       obtain rfl:o=o':=by simpa using h'
       rw[hd];intro e';injection e' with e'
       exact b2 (List.mem_cons.2 (.inl e'.symm))
      |succ i'=>exact b4 i' o' (by simpa using h') (by omega)
theorem gU:∀ {l:List Oper} {k:Nat},mn k l=true→∀i o,l[i]? =some o→(∀x∈direct o,x<k+i)∧k+i-1∈direct o
 | [],_,_,i,o,ho=>by simp at ho
 |o::r,k,h,i,o1,ho=>by
  unfold mn at h
  cases hc:(j1 k (direct o)&&bc (direct o) (k-1)) with
  |false=>rw[hc] at h;cases h
  |true=>
   rw[hc] at h;simp only[Bool.and_eq_true] at hc
   cases i with
   |zero=>
    obtain rfl:o=o1:=by simpa using ho
    exact⟨dQ hc.1,ar hc.2⟩
   |succ i=>
    obtain⟨a1,a2⟩:=gU (l:=r) h i o1 (by simpa using ho);exact⟨fun x hx=>by have:=a1 x hx;omega,by rw[show k+(i+1)-1=k+1+i-1 from by omega];exact a2⟩
theorem mE {L:List Nat}{j:Nat}:∀ {l:List Oper} {k:Nat},hasNext L j k l=true→∃(i:Nat) (o:Oper),l[i]? =some o∧j∈direct o∧bc L (k+i)=false
 | [],_,h=>by cases h
 |o::r,k,h=>by
  unfold hasNext at h
  cases hb:(bc (direct o) j&& !bc L k) with
  |true=>
   simp only[Bool.and_eq_true,Bool.not_eq_true'] at hb;exact⟨0,o,rfl,ar hb.1,hb.2⟩
  |false=>
   rw[hb] at h;obtain⟨i,o',h1,h2,h3⟩:=mE (l:=r) h;exact⟨i+1,o',by simpa using h1,h2,by rw[show k+(i+1)=k+1+i from by omega];exact h3⟩
theorem jB {L:List Nat}:∀ {l t:List Oper} {k:Nat},oL L k l t=true→∀j,j<l.length→bc L (k+j)=false→∃(i:Nat) (o:Oper),j<i∧(l++t)[i]? =some o∧k+j∈direct o∧bc L (k+i)=false
 | [],_,_,_,j,hj,_=>by simp at hj
 |o::r,t,k,h,j,hj,hL=>by
  unfold oL at h
  cases hb:(bc L k||hasNext L k (k+1) (r++t)) with
  |false=>rw[hb] at h;cases h
  |true=>
   rw[hb] at h
   cases j with
   |zero=>
    rw[Nat.add_zero] at hL;rw[hL,Bool.false_or] at hb;obtain⟨i,o',h1,h2,h3⟩:=mE hb;exact⟨i+1,o',by omega,by simpa using h1,by simpa using h2,by rw[show k+(i+1)=k+1+i from by omega];exact h3⟩
   |succ j=>
    obtain⟨i,o',h1,h2,h3,h4⟩:=jB (l:=r) h j (by simpa using hj) (by rw[show k+1+j=k+(j+1) from by omega];exact hL);exact⟨i+1,o',by omega,by simpa using h2,by rw[show k+(j+1)=k+1+j from by omega];exact h3,by rw[show k+(i+1)=k+1+i from by omega];exact h4⟩
theorem lM {ops:Array Oper}{i:Nat}{o:Oper}:∀ {l:List Oper} {k:Nat},mo ops i o k l=true→∀j x,l[j]? =some x→i≠k+j→i∉direct x→k+j∉direct o→o.apart ops x=true
 | [],_,_,j,x,hx,_,_,_=>by simp at hx
 |y::r,k,h,j,x,hx,h1,h2,h3=>by
  simp only[mo,Bool.and_eq_true,Bool.or_eq_true] at h
  cases j with
  |zero=>
   obtain rfl:y=x:=by simpa using hx
   rcases h.1 with ((ha|ha)|ha)|ha
   ·exact absurd (Nat.eq_of_beq_eq_true ha) h1
   ·exact absurd (ar ha) h2
   ·exact absurd (ar ha) h3
   ·exact ha
  |succ j=>exact lM (l:=r) h.2 j x (by simpa using hx) (by omega) h2 (by rw[show k+1+j=k+(j+1) from by omega];exact h3)
theorem jv {ops:Array Oper}:∀ {L:List Nat},kW ops L=true→∀i o,bc L i=true→ops[i]? =some o→∀j x,ops[j]? =some x→i≠j→i∉direct x→j∉direct o→o.apart ops x=true
 | [],_,i,o,hi,_=>by cases hi
 |k::r,h,i,o,hi,ho=>by
  simp only[kW,Bool.and_eq_true] at h;intro j x hx h1 h2 h3;rcases List.mem_cons.1 (ar hi) with rfl|hm
  ·have h0:=h.1
   rw[ho] at h0;exact lM h0 j x (by simpa using hx) (by omega) h2 (by simpa using h3)
  ·exact jv h.2 i o (sI hm) ho j x hx h1 h2 h3
theorem mb:∀ {l:List Oper},rp l=true→∀(j:Nat) (o:Oper) cs b,l[j]? =some o→o.op≠ .select cs b
 | [],_,j,o,_,_,ho=>by simp at ho
 |x::r,h,j,o,cs,b,ho=>by
  simp only[rp,Bool.and_eq_true] at h
  cases j with
  |zero=>
   obtain rfl:x=o:=by simpa using ho
   intro e;rw[e] at h;exact absurd h.1 (by simp)
  |succ j=>exact mb h.2 j o cs b (by simpa using ho)
section
variable {P:Program} {ops:Array Oper} {Q:Exit→Act→World→Prop} {n:Nat} {F0:List (Nat × Value)} {G:World→World→Prop} {w0:World}
theorem cU {listed:Array Bool}{j:Nat}:j∈Region.ready .any ops listed↔listed.getD j true=false∧∃o,ops[j]? =some o∧∀x∈direct o,listed.getD x false=true:=by
 rw[mem_ready]
 constructor
 ·rintro⟨h0,o,ho,h⟩
  refine⟨h0,o,ho,fun x hx=> ?_⟩;obtain⟨e,he,hb,rfl⟩:=jz.1 hx;exact h e he hb
 ·rintro⟨h0,o,ho,h⟩
  exact⟨h0,o,ho,fun e he hb=>h _ (jz.2 ⟨e,he,hb,rfl⟩)⟩
theorem getD_both {listed:Array Bool}{i:Nat}(h:listed.getD i true=false):listed.getD i false=false:=by
 rcases Nat.lt_or_ge i listed.size with hl|hl
 ·simp[hl] at h⊢;exact h
 ·simp[Array.getElem?_eq_none hl] at h
theorem pX {listed:Array Bool}{i:Nat}(hl:i<listed.size)(h:listed.getD i false=true):listed.getD i true=true:=by simp[hl] at h⊢;exact h
theorem gf {listed:Array Bool}{i:Nat}(d:Bool)(hl:i<listed.size):(listed.setIfInBounds i true).getD i d=true:=by simp[hl]
def left (listed:Array Bool):Nat→Nat
 |0=>0
 |k+1=>left listed k+(if listed.getD k true then 0 else 1)
theorem mv {listed:Array Bool}{i:Nat}(hl:i<listed.size)(h:listed.getD i true=false):∀k,left (listed.setIfInBounds i true) k+(if i<k then 1 else 0)=left listed k
 |0=>by simp[left]
 |k+1=>by
  have ih:=mv hl h k;unfold left
  by_cases hik:i=k
  ·subst hik
   rw[gf true hl,h];simp at ih⊢;omega
  ·rw[getD_set_ne true hik]
   by_cases h2:i<k
   ·rw[if_pos h2] at ih;rw[if_pos (show i<k+1 by omega)];omega
   ·rw[if_neg h2] at ih;rw[if_neg (show¬i<k+1 by omega)];omega
theorem lk {listed:Array Bool}:∀ {k:Nat},left listed k=0→∀i,i<k→listed.getD i true=true
 |0,_,i,hi=>by omega
 |k+1,h,i,hi=>by
  unfold left at h;rcases Nat.lt_or_ge i k with h1|h1
  ·exact lk (by omega) i h1
  ·obtain rfl:i=k:=by omega
   cases hb:listed.getD i true with
   |true=>rfl
   |false=>rw[hb] at h;simp at h
theorem oO {init tail:List Oper}(hops:ops=(init++tail).toArray)(h0:∀o,tail[0]? =some o→∀x∈direct o,x<init.length)(ht:∀i o,tail[i+1]? =some o→(∀x∈direct o,x<init.length+1+i)∧init.length+1+i-1∈direct o):
  ∀(fuel r:Nat) (listed:Array Bool) (a:Act) (w:World),listed.size=ops.size→r≤tail.length→(∀i,i<init.length+r→listed.getD i true=true)→(∀i,init.length+r≤i→i<ops.size→listed.getD i true=false)→tail.length≤r+fuel→
   wpList P ops Q (tail.drop r) a w→wpAny P .any ops Q fuel listed a w:=by
 have hsz:ops.size=init.length+tail.length:=by rw[hops];simp
 have hat:∀r,ops[init.length+r]? =tail[r]? :=fun r=>by rw[hops];simp[List.getElem?_append_right]
 have done:∀(listed:Array Bool),listed.size=ops.size→(∀i,i<ops.size→listed.getD i true=true)→Region.ready .any ops listed=[]:=by
  intro listed hl h;rw[List.eq_nil_iff_forall_not_mem];intro j hj;obtain⟨h1,o,ho,_⟩:=cU.1 hj;rw[h j (Array.getElem?_eq_some_iff.1 ho).1] at h1
  cases h1
 intro fuel
 induction fuel with
 |zero=>
  intro r listed a w hl hr h1 h2 hf hw;obtain rfl:r=tail.length:=by omega
  rw[List.drop_length] at hw;exact⟨done listed hl (fun i hi=>h1 i (by omega)),hw⟩
 |succ fuel ih=>
  intro r listed a w hl hr h1 h2 hf hw;rcases Nat.lt_or_ge r tail.length with hlt|hge
  ·have hro:tail[r]? =some tail[r]:=List.getElem?_eq_getElem hlt
   have hready:init.length+r∈Region.ready .any ops listed:=by
    refine cU.2 ⟨h2 _ (Nat.le_refl _) (by omega),tail[r],by rw[hat,hro],fun x hx=> ?_⟩
    have hlt':x<init.length+r:=by
     cases r with
     |zero=>have:=h0 _ hro x hx;omega
     |succ r=>have:=(ht r _ hro).1 x hx;omega
    have:=h1 x hlt'
    cases hb:listed.getD x false with
    |true=>rfl
    |false=>
     have hxl:x<listed.size:=by omega
     simp[hxl] at this hb;rw[this] at hb;cases hb
   refine⟨fun h=>(by rw[h] at hready;cases hready),fun i hi=> ?_⟩;obtain⟨g1,o,ho,g2⟩:=cU.1 hi;have hi':i<ops.size:=(Array.getElem?_eq_some_iff.1 ho).1
   have hir:i=init.length+r:=by
    rcases Nat.lt_or_ge i (init.length+r) with hh|hh
    ·rw[h1 i hh] at g1;cases g1
    ·rcases Nat.eq_or_lt_of_le hh with e|hgt
     ·exact e.symm
     ·exfalso
      obtain⟨q,rfl⟩:∃q,i=init.length+(q+1):=⟨i-init.length-1,by omega⟩;rw[hat] at ho;have h3:=g2 _ (ht q o ho).2;have h4:=h2 (init.length+1+q-1) (by omega) (by omega);rw[getD_both h4] at h3
      cases h3
   subst hir;rw[hat,hro] at ho;have e:tail.drop r=tail[r]::tail.drop (r+1):=List.drop_eq_getElem_cons hlt;rw[e] at hw
   have hstep:wpOp P ops Q (init.length+r) (wpList P ops Q (tail.drop (r+1))) a w:=by
    unfold wpOp;rw[hat,hro];exact hw
   refine wpOp_mono (fun a' w' hh=>ih (r+1) _ a' w' (by simp[hl]) (by omega) (fun i hi=> ?_) (fun i hi hi2=> ?_) (by omega) hh) hstep
   ·by_cases hir:init.length+r=i
    ·rw[←hir,gf true (by omega)]
    ·rw[getD_set_ne true hir];exact h1 i (by omega)
   ·rw[getD_set_ne true (by omega)];exact h2 i (by omega) hi2
  ·obtain rfl:r=tail.length:=by omega
   rw[List.drop_length] at hw;have:=done listed hl (fun i hi=>h1 i (by omega));exact⟨fun _=>hw,by rw[this];intro i hi;cases hi⟩
theorem fV.mono {L:List Nat}{B B':Env→Prop}(hB:∀Γ,B Γ→B' Γ):∀(l:List Oper) (k:Nat) (Γ:Env),fV P ops Q n F0 G w0 L B k l Γ→fV P ops Q n F0 G w0 L B' k l Γ
 | [],_,Γ,h=>hB Γ h
 |_::r,k,_,⟨f,h1,h2,h3,h4⟩=>⟨f,h1,h2,h3,fV.mono hB r (k+1) _ h4⟩
theorem fV.out {L:List Nat}{B:Env→Prop}:∀(l:List Oper) (k:Nat) (Γ:Env),(∀j,k≤j→Env.find Γ j=none)→fV P ops Q n F0 G w0 L B k l Γ→
  ∃Γ',B Γ'∧(∀j,j<k→Env.find Γ' j=Env.find Γ j)∧(∀j,k+l.length≤j→Env.find Γ' j=none)∧
   ∀i o,l[i]? =some o→∃f Γi,Env.find Γ' (k+i)=some (o.dst,f)∧Fact.m0 G f∧j3 P ops Q n F0 G w0 [] (fun _=>True) Γi o f∧(bc L (k+i)=true→CQ P ops n F0 G w0 [] (fun _=>True) Γi o f)∧∀j,j<k+i→Env.find Γi j=Env.find Γ' j
 | [],k,Γ,hk,h=>⟨Γ,h,fun _ _=>rfl,fun j hj=>hk j (by simpa using hj),fun i o ho=>by simp at ho⟩
 |o::r,k,Γ,hk,h=>by
  obtain⟨f,hs,hstep,hlate,hr⟩:=h
  have hne:∀j,j≠k→Env.find ((k,o.dst,f)::Γ) j=Env.find Γ j:=fun j hj=>by
   show(bif Nat.beq k j then some (o.dst,f) else Env.find Γ j)=_
   cases hb:Nat.beq k j with
   |true=>exact absurd (Nat.eq_of_beq_eq_true hb).symm hj
   |false=>rfl
  have heq:Env.find ((k,o.dst,f)::Γ) k=some (o.dst,f):=by
   show(bif Nat.beq k k then some (o.dst,f) else Env.find Γ k)=_;rw[Nat.beq_refl];rfl
  obtain⟨Γ',h1,h2,h3,h4⟩:=fV.out r (k+1) _ (fun j hj=>by rw[hne j (by omega)];exact hk j (by omega)) hr;refine⟨Γ',h1,fun j hj=>by rw[h2 j (by omega),hne j (by omega)],fun j hj=>h3 j (by simp at hj;omega),fun i o' ho=> ?_⟩
  cases i with
  |zero=>
   obtain rfl:o=o':=by simpa using ho
   exact⟨f,Γ,by rw[Nat.add_zero,h2 k (by omega),heq],hs,hstep,hlate,fun j hj=>by rw[h2 j (by omega),hne j (by omega)]⟩
  |succ i=>
   obtain⟨f',Γi,a1,a2,a3,al,a4⟩:=h4 i o' (by simpa using ho);exact⟨f',Γi,by rw[show k+(i+1)=k+1+i from by omega];exact a1,a2,a3,by rw[show k+(i+1)=k+1+i from by omega];exact al,fun j hj=>a4 j (by omega)⟩
def zz (P:Program)(o:Oper):Prop:=o.guard=none∧(∃d,o.dst=some d)∧∃T z,o.op= .alloc T∧∀w,(zeroValue T).run P w= .ok z w
theorem zz.wp {o:Oper}{a:Act}{w:World}{R:Act→World→Prop}(h:zz P o)(hn:∀d,o.dst=some d→d<a.tmps.size){K:Value→World→Prop}(hR:∀a' w',R a' w'→∃u,a'=a.put o.dst u∧K u w')(hx:o.wp P a w R Q):
  o.wp P a w (fun a' w'=>∃u,a'=a.put o.dst u∧K u w'∧u= .pointer (some ⟨w.heap.size,0,none⟩)∧w.heap.size<w'.heap.size) Q:=by
 obtain⟨-,⟨d,hd⟩,T,z,ho,hz⟩:=h;have hr:(execOp a.eval o).run P w= .ok (.value (.pointer (some ⟨w.heap.size,0,none⟩))) (w.alloc (.cells z.cells T)):=aa.uQ (E:=fun _=>none) ho hz a.eval (fun x u hxu=>by cases hxu);unfold Oper.wp at hx⊢;rw[hr,Oper.upon_value] at hx⊢;obtain⟨u,e,hK⟩:=hR _ _ hx
 have hu:u= .pointer (some ⟨w.heap.size,0,none⟩):=by
  have:=congrArg (fun(b:Act)=>b.tmps[d]?) e;rw[hd] at this;simp[Act.put,hn d hd] at this;exact this.symm
 subst hu;exact⟨_,rfl,hK,rfl,by show w.heap.size<(w.heap.push _).size;rw[Array.size_push];omega⟩
theorem BX {id:Nat}(L AL:List Nat){init tail:List Oper}(hAL:∀i o,bc AL i=true→init[i]? =some o→zz P o)(hALL:∀i,bc AL i=true→bc L i=false)(hGs:AL=[]∨∀w w',G w w'→w.heap.size≤w'.heap.size)(hQ:L=[]∨∀c (a:Act) d v w,Q (.panic c) (a.put d v) w→Q (.panic c) a w)(hm:P.follows .mixedOrders=true)(hops:ops=(init++tail).toArray)(hchk:nE n (jO F0) L init tail=true)(Gt:∀a b c,G a b→G b c→G a c)(Gr:∀w,G w w)
  {w:World} (hw0:w0= {w with drawn:=w.drawn+1}) (h:fV P ops Q n F0 G w0 L (Ez P ops Q n F0 G w0 AL tail [] (fun _=>True)) 0 init []) {a:Act} (ha:Fr n F0 a):(Code.region id ops true).wp P Q a w:=by
 refine wp_region_any hm ?_;rw[←hw0];simp only[nE,Bool.and_eq_true] at hchk;obtain⟨⟨⟨hc1,hc2⟩,hcL⟩,hcl⟩:=hchk;have hLlt:∀i,bc L i=true→i<init.length:=fun i hi=>dQ hcL i (ar hi);have c1:=eX hc1;have hsz:ops.size=init.length+tail.length:=by rw[hops];simp
 have hat:∀i,i<init.length→ops[i]? =init[i]? :=fun i hi=>by rw[hops];simp[List.getElem?_append_left hi]
 have hat2:∀r,ops[init.length+r]? =tail[r]? :=fun r=>by rw[hops];simp[List.getElem?_append_right]
 obtain⟨Γ,hfin,-,hnone,hall⟩:=fV.out init 0 [] (fun _ _=>rfl) h
 -- the tail's edges
 have t0:∀o,tail[0]? =some o→∀x∈direct o,x<init.length:=by
  intro o ho
  cases tail with
  |nil=>simp at ho
  |cons o1 r=>
   obtain rfl:o1=o:=by simpa using ho
   simp only[Bool.and_eq_true] at hc2;exact dQ hc2.1.1
 have ts:∀i o,tail[i+1]? =some o→(∀x∈direct o,x<init.length+1+i)∧init.length+1+i-1∈direct o:=by
  intro i o ho
  cases tail with
  |nil=>simp at ho
  |cons o1 r=>
   simp only[Bool.and_eq_true] at hc2;exact gU hc2.2 i o (by simpa using ho)
 have tm:∀o,tail[0]? =some o→∀j,j<init.length→bc L j=false→∃(i:Nat) (o':Oper),j<i∧i≤init.length∧ops[i]? =some o'∧j∈direct o'∧bc L i=false:=by
  intro o ho j hj hjL
  cases tail with
  |nil=>simp at ho
  |cons o1 r=>
   simp only[Bool.and_eq_true] at hc2;obtain⟨i,o',h1,h2,h3,h4⟩:=jB hc2.1.2 j hj (by rw[Nat.zero_add];exact hjL);rw[Nat.zero_add] at h3 h4;have hi:i<(init++[o1]).length:=(List.getElem?_eq_some_iff.1 h2).1;simp at hi;refine⟨i,o',h1,by omega,?_,h3,h4⟩;rcases Nat.lt_or_ge i init.length with hlt|hge
   ·rw[hat i hlt,←h2,List.getElem?_append_left hlt]
   ·obtain rfl:i=init.length:=by omega
    have:=hat2 0;rw[Nat.add_zero] at this;rw[this,←h2,List.getElem?_append_right (Nat.le_refl _)];simp
 have bothT:∀(listed:Array Bool) x,listed.size=ops.size→x<ops.size→listed.getD x true=true→listed.getD x false=true:=by
  intro listed x hl hx h;have hxl:x<listed.size:=by omega
  simp[hxl] at h⊢;exact h
 -- the first part
 have key:∀(fuel:Nat) (listed:Array Bool) (a:Act) (w:World),listed.size=ops.size→(∀i o,ops[i]? =some o→listed.getD i false=true→∀x∈direct o,listed.getD x false=true)→(∀i,init.length≤i→i<ops.size→listed.getD i true=false)→
   a.tmps.size=n→a.defers=default→G w0 w→mU Γ (fun j=>listed.getD j false=true) a w→(∀t v,look F0 t=some v→a.tmps[t]? =some v)→EL AL Γ (fun j=>listed.getD j false=true) a→Dt AL Γ (fun j=>listed.getD j false=true) a w→left listed ops.size≤fuel→wpAny P .any ops Q fuel listed a w:=by
  intro fuel
  induction fuel with
  |zero=>
   intro listed a w hl hdc hts hsize hdef hG hF hs hDs hWn hf;have hall1:=lk (Nat.le_zero.1 hf)
   have hlen:init.length=ops.size:=by
    rcases Nat.lt_or_ge init.length ops.size with hh|hh
    ·have:=hall1 _ hh;rw[hts _ (Nat.le_refl _) hh] at this;cases this
    ·omega
   refine oO hops t0 ts 0 0 listed a w hl (Nat.zero_le _) (fun i hi=>hall1 i (by omega)) (fun i hi hi2=>by omega) (by omega) ?_;rw[List.drop_zero]
   have hlis:∀j d f,Env.find Γ j=some (d,f)→listed.getD j false=true:=fun j d f hj=>by
    rcases Nat.lt_or_ge j init.length with hh|hh
    ·exact bothT listed j hl (by omega) (hall1 j (by omega))
    ·rw[hnone j (by omega)] at hj;cases hj
   exact hfin a w hsize hdef hG trivial (fun j d f hj _=>hF j d f hj (hlis j d f hj)) hs (fun t v ht=>by simp[look] at ht) (fun i j di dj fi fj gi gj h1 h2 h3 h4 h5 _ _ h8 h9=>hDs i j di dj fi fj gi gj h1 h2 h3 h4 h5 (hlis i _ _ h2) (hlis j _ _ h3) h8 h9)
  |succ fuel ih=>
   intro listed a w hl hdc hts hsize hdef hG hF hs hDs hWn hf
   by_cases hdone:∀i,i<init.length→listed.getD i true=true
   ·refine oO hops t0 ts (fuel+1) 0 listed a w hl (Nat.zero_le _) (fun i hi=>hdone i (by omega)) (fun i hi hi2=>hts i (by omega) hi2) ?_ ?_
    ·
     have:∀k,k≤tail.length→left listed (init.length+k)=left listed init.length+k:=by
      intro k
      induction k with
      |zero=>intro _;rfl
      |succ k ihk=>
       intro hk;show left listed (init.length+k)+(if listed.getD (init.length+k) true then 0 else 1)=_;rw[ihk (by omega),hts (init.length+k) (by omega) (by omega)];simp;omega
     have:=this tail.length (Nat.le_refl _);rw[←hsz] at this;omega
    ·rw[List.drop_zero]
     have hlis:∀j d f,Env.find Γ j=some (d,f)→listed.getD j false=true:=fun j d f hj=>by
      rcases Nat.lt_or_ge j init.length with hh|hh
      ·exact bothT listed j hl (by omega) (hdone j hh)
      ·rw[hnone j (by omega)] at hj;cases hj
     exact hfin a w hsize hdef hG trivial (fun j d f hj _=>hF j d f hj (hlis j d f hj)) hs (fun t v ht=>by simp[look] at ht) (fun i j di dj fi fj gi gj h1 h2 h3 h4 h5 _ _ h8 h9=>hDs i j di dj fi fj gi gj h1 h2 h3 h4 h5 (hlis i _ _ h2) (hlis j _ _ h3) h8 h9)
   ·
    have hex:∃i,i∈Region.ready .any ops listed:=by
     have hex0:∃i,i<init.length∧listed.getD i true=false:=by
      refine Classical.byContradiction fun hno=>hdone fun i hi=> ?_
      cases hb:listed.getD i true with
      |true=>rfl
      |false=>exact absurd ⟨i,hi,hb⟩ hno
     have hmin:∀m i,i≤m→i<init.length→listed.getD i true=false→∃j,j<init.length∧listed.getD j true=false∧∀x,x<j→listed.getD x true=true:=by
      intro m
      induction m with
      |zero=>intro i hi h1 h2;exact⟨i,h1,h2,fun x hx=>by omega⟩
      |succ m ihm=>
       intro i hi h1 h2
       by_cases hx:∃x,x<i∧listed.getD x true=false
       ·obtain⟨x,hx1,hx2⟩:=hx
        exact ihm x (by omega) (by omega) hx2
       ·refine⟨i,h1,h2,fun x hx1=> ?_⟩
        cases hb:listed.getD x true with
        |true=>rfl
        |false=>exact absurd ⟨x,hx1,hb⟩ hx
     obtain⟨i0,hi0,hb0⟩:=hex0;obtain⟨j,hj1,hj2,hj3⟩:=hmin i0 i0 (Nat.le_refl _) hi0 hb0;refine⟨j,cU.2 ⟨hj2,init[j],by rw[hat j hj1,List.getElem?_eq_getElem hj1],fun x hx=> ?_⟩⟩;have hlt:x<j:=by have:=(c1 j _ (List.getElem?_eq_getElem hj1)).1 x hx;omega
     exact bothT listed x hl (by omega) (hj3 x hlt)
    -- what one of the first part's operations comes to
    have go:∀i o,i<init.length→i∈Region.ready .any ops listed→ops[i]? =some o→∃f:Fact,(if Region.wanted o (yielded ops a.tmps)=true then o.wp P a w (fun a' w'=>∃u,a'=a.put o.dst u∧G w w'∧f.holds u w'∧(bc AL i=true→u= .pointer (some ⟨w.heap.size,0,none⟩)∧w.heap.size<w'.heap.size)) Q else f.holds undef w∧bc AL i=false)∧
      (bc L i=true→∃v,f= .eq v∧Yields P ops o v a)∧∀u w',G w w'→f.holds u w'→(bc AL i=true→u= .pointer (some ⟨w.heap.size,0,none⟩)∧w.heap.size<w'.heap.size)→wpAny P .any ops Q fuel (listed.setIfInBounds i true) (a.put o.dst u) w':=by
     intro i o hlt hi ho;obtain⟨g1,o1,ho1,g2⟩:=cU.1 hi;rw[ho] at ho1;obtain rfl:o=o1:=by injection ho1
     have hi':i<ops.size:=(Array.getElem?_eq_some_iff.1 ho).1;have hoi:init[i]? =some o:=by rw[←hat i hlt];exact ho
     obtain⟨f,Γi,f1,f2,f3,fl,f4⟩:=hall i o hoi;rw[Nat.zero_add] at f1 f4 fl;obtain⟨d1,d2⟩:=c1 i o hoi;have hx:=f3 a w hsize hG trivial (fun j d f' hj hd=>hF j d f' (by rw[←f4 j (by have:=d1 j hd;omega)];exact hj) (g2 j hd)) hs (fun t v ht=>by simp[look] at ht)
     have hslot:∀u j d f,j≠i→Env.find Γ j=some (some d,f)→(a.put o.dst u).tmps[d]? =a.tmps[d]? :=by
      intro u j d f hji hj;rcases Nat.lt_or_ge j init.length with hh|hh
      ·have hoj:init[j]? =some init[j]:=List.getElem?_eq_getElem hh
       obtain⟨fj,Γj,q1,-⟩:=hall j _ hoj;rw[Nat.zero_add,hj] at q1;injection q1 with q1
       injection q1 with q1 _
       have hdj:init[j].dst=some d:=q1.symm;have hdi:o.dst≠some d:=fun hdi=>(d2 d hdi).2.2.2 j _ hoj hji hdj
       cases hd:o.dst with
       |none=>rfl
       |some d0=>
        have:d0≠d:=fun e'=>hdi (by rw[hd,e']);simp only[Act.put];rw[Array.getElem?_setIfInBounds_ne this]
      ·rw[hnone j (by omega)] at hj;cases hj
     -- what holds behind it
     have next:∀u w',G w w'→f.holds u w'→(bc AL i=true→u= .pointer (some ⟨w.heap.size,0,none⟩)∧w.heap.size<w'.heap.size)→wpAny P .any ops Q fuel (listed.setIfInBounds i true) (a.put o.dst u) w':=by
      intro u w' hG' hu hmk;refine ih _ _ _ (by simp[hl]) ?_ ?_ ?_ ?_ (Gt _ _ _ hG hG') ?_ ?_ ?_ ?_ ?_
      ·intro i2 o2 h1 h2 x hx2
       by_cases e:i=i2
       ·subst e
        rw[ho] at h1;obtain rfl:o=o2:=by injection h1
        exact getD_set_true (g2 x hx2)
       ·rw[getD_set_ne false e] at h2
        exact getD_set_true (hdc i2 o2 h1 h2 x hx2)
      ·intro i2 h1 h2
       rw[getD_set_ne true (by omega)];exact hts i2 h1 h2
      ·cases hd:o.dst<;>simp[Act.put,hsize]
      ·cases hd:o.dst<;>simp[Act.put,hdef]
      ·intro j d f' hj hjl
       by_cases e:i=j
       ·subst e
        rw[f1] at hj;injection hj with hj
        injection hj with e1 e2
        subst e1 e2;refine⟨u,fun t ht=> ?_,hu⟩;have:=(d2 t ht).1;rw[ht];simp[Act.put,hsize,this]
       ·rw[getD_set_ne false e] at hjl
        obtain⟨u',h1,h2⟩:=hF j d f' hj hjl;refine⟨u',fun t ht=> ?_,?_⟩
        ·rcases Nat.lt_or_ge j init.length with hh|hh
         ·have hoj:init[j]? =some init[j]:=List.getElem?_eq_getElem hh
          obtain⟨fj,Γj,q1,-⟩:=hall j _ hoj;rw[Nat.zero_add,hj] at q1;injection q1 with q1
          injection q1 with q1 _
          have hdj:init[j].dst=some t:=by rw[←q1];exact ht
          have hdi:o.dst≠some t:=fun hdi=>(d2 t hdi).2.2.2 j _ hoj (fun e'=>e e'.symm) hdj
          cases hd:o.dst with
          |none=>exact h1 t ht
          |some d0=>
           have:d0≠t:=fun e'=>hdi (by rw[hd,e']);simp only[Act.put];rw[Array.getElem?_setIfInBounds_ne this];exact h1 t ht
         ·rw[hnone j (by omega)] at hj;cases hj
        ·have hst:Fact.m0 G f':=by
          rcases Nat.lt_or_ge j init.length with hh|hh
          ·obtain⟨fj,Γj,q1,q2,-⟩:=hall j _ (List.getElem?_eq_getElem hh)
           rw[Nat.zero_add,hj] at q1;injection q1 with q1
           injection q1 with _ q1
           rw[q1];exact q2
          ·rw[hnone j (by omega)] at hj;cases hj
         cases f' with
         |eq v=>exact h2
         |sat Φ=>exact hst u' w w' hG' h2
      ·intro t v ht
       cases hd:o.dst with
       |none=>exact hs t v ht
       |some d0=>
        have:d0≠t:=fun e'=>(d2 d0 hd).2.2.1 (by rw[e'];exact gV ht);simp only[Act.put];rw[Array.getElem?_setIfInBounds_ne this];exact hs t v ht
      ·
       intro j k dj dk fj fk gj gk hne h1 h2 h3 h4 h5 h6 h7 h8;have hkeep:∀j d f,j≠i→Env.find Γ j=some (some d,f)→(a.put o.dst u).tmps[d]? =a.tmps[d]? :=hslot u
       by_cases ej:i=j
       ·subst ej
        obtain⟨e1,e2⟩:=hmk h3;rw[f1] at h1;injection h1 with h1
        injection h1 with h1 _
        have hdn:=(d2 dj h1).1;rw[h1] at h7;simp[Act.put,hsize,hdn] at h7;rw[e1] at h7;injection h7 with h7
        injection h7 with h7
        injection h7 with h7
        rw[hkeep k dk fk (fun e=>hne e.symm) h2] at h8;rw[getD_set_ne false hne] at h6;have:=hWn k dk fk gk h2 h4 h6 h8;omega
       ·rw[hkeep j dj fj (fun e=>ej e.symm) h1] at h7
        rw[getD_set_ne false ej] at h5
        by_cases ek:i=k
        ·subst ek
         obtain⟨e1,e2⟩:=hmk h4;rw[f1] at h2;injection h2 with h2
         injection h2 with h2 _
         have hdn:=(d2 dk h2).1;rw[h2] at h8;simp[Act.put,hsize,hdn] at h8;rw[e1] at h8;injection h8 with h8
         injection h8 with h8
         injection h8 with h8
         have:=hWn j dj fj gj h1 h3 h5 h7;omega
        ·rw[hkeep k dk fk (fun e=>ek e.symm) h2] at h8
         rw[getD_set_ne false ek] at h6;exact hDs j k dj dk fj fk gj gk hne h1 h2 h3 h4 h5 h6 h7 h8
      ·intro j dj fj gj h1 h3 h5 h7
       by_cases ej:i=j
       ·subst ej
        obtain⟨e1,e2⟩:=hmk h3;rw[f1] at h1;injection h1 with h1
        injection h1 with h1 _
        have hdn:=(d2 dj h1).1;rw[h1] at h7;simp[Act.put,hsize,hdn] at h7;rw[e1] at h7;injection h7 with h7
        injection h7 with h7
        injection h7 with h7
        omega
       ·rw[hslot u j dj fj (fun e=>ej e.symm) h1] at h7
        rw[getD_set_ne false ej] at h5;have h9:=hWn j dj fj gj h1 h3 h5 h7;rcases hGs with e|hGs
        ·rw[e] at h3;cases h3
        ·exact Nat.lt_of_lt_of_le h9 (hGs _ _ hG')
      ·have:=mv (listed:=listed) (i:=i) (by omega) g1 ops.size
       rw[if_pos hi'] at this;omega
     refine⟨f,?_,fun hL=> ?_,next⟩
     ·cases hAi:bc AL i with
      |false=>
       by_cases hwant:Region.wanted o (yielded ops a.tmps)=true
       ·rw[if_pos hwant] at hx⊢
        exact Oper.wp_mono (fun a' w' ⟨u,e,h1,h2⟩=>⟨u,e,h1,h2,fun h=>by cases h⟩) hx
       ·rw[if_neg hwant] at hx⊢
        exact⟨hx,rfl⟩
      |true=>
       have hmk:=hAL i o hAi hoi;have hwant:Region.wanted o (yielded ops a.tmps)=true:=by unfold Region.wanted;rw[hmk.1]
       rw[if_pos hwant] at hx⊢;have:=hmk.wp (K:=fun u w'=>G w w'∧f.holds u w') (fun d hd=>by rw[hsize];exact(d2 d hd).1) (fun a' w' h=>h) hx;exact Oper.wp_mono (fun a' w' ⟨u,e,⟨h1,h2⟩,h3,h4⟩=>⟨u,e,h1,h2,fun _=>⟨h3,h4⟩⟩) this
     obtain⟨v,e,hy⟩:=fl hL;exact⟨v,e,hy a w hsize hG trivial (fun j d f' hj hd=>hF j d f' (by rw[←f4 j (by have:=d1 j hd;omega)];exact hj) (g2 j hd)) hs (fun t v ht=>by simp[look] at ht)⟩
    by_cases hlate:∃i,bc L i=true∧i∈Region.ready .any ops listed
    ·obtain⟨i,hiL,hi⟩:=hlate
     obtain⟨g1,o,ho,g2⟩:=cU.1 hi;obtain⟨f,-,hl2,next⟩:=go i o (hLlt i hiL) hi ho;obtain⟨v,rfl,hy⟩:=hl2 hiL
     have hcl':kW (init++tail).toArray L=true∧rp (init++tail)=true:=by
      cases L with
      |nil=>cases hiL
      |cons x r=>simpa using hcl
     rw[←hops] at hcl';have hup:listed.setIfInBounds i true=listed.setIfInBounds i true:=rfl;refine wpAny_first ho (fun j oj cs b hoj=>mb hcl'.2 j oj cs b (by rw[hops] at hoj;simpa using hoj)) (fun c a w h=>by rcases hQ with e|hQ;(rw[e] at hiL;cases hiL);exact hQ c a _ _ w h) fuel listed a w (fun j oj hoj hne hun hno=> ?_) hi hy (next v w (Gr w) rfl (fun h=>by have:=hALL i h;rw[hiL] at this;cases this));refine jv hcl'.1 i o hiL ho j oj hoj (Ne.symm hne) (fun hm=> ?_) (fun hm=> ?_)
     ·obtain⟨e,he,hb,h1⟩:=jz.1 hm
      exact hno e he hb h1
     ·have:=g2 j hm
      rw[getD_both hun] at this
      cases this
    refine⟨(fun hnil=>by obtain⟨i,hi⟩:=hex;rw[hnil] at hi;cases hi),fun i hi=> ?_⟩;obtain⟨g1,o,ho,g2⟩:=cU.1 hi;have hi':i<ops.size:=(Array.getElem?_eq_some_iff.1 ho).1
    have hlt:i<init.length:=by
     rcases Nat.lt_or_ge i init.length with hh|hh
     ·exact hh
     ·exfalso
      apply hdone
      -- then all before it have come up
      have hi0:i=init.length:=by
       rcases Nat.eq_or_lt_of_le hh with e|hgt
       ·exact e.symm
       ·exfalso
        obtain⟨q,rfl⟩:∃q,i=init.length+(q+1):=⟨i-init.length-1,by omega⟩;rw[hat2] at ho;have h3:=g2 _ (ts q o ho).2;rw[getD_both (hts (init.length+1+q-1) (by omega) (by omega))] at h3
        cases h3
      subst hi0;have ho2:tail[0]? =some o:=by have:=hat2 0;rw[Nat.add_zero] at this;rw[←this,ho]
      have down:∀q j,init.length-j≤q→j<init.length→bc L j=false→listed.getD j false=true:=by
       intro q
       induction q with
       |zero=>intro j h1 h2 _;omega
       |succ q ihq=>
        intro j h1 h2 hjL;obtain⟨i2,o2,b1,b2,b3,b4,b5⟩:=tm o ho2 j h2 hjL;rcases Nat.eq_or_lt_of_le b2 with e|hlt2
        ·subst e
         rw[ho] at b3;obtain rfl:o=o2:=by injection b3
         exact g2 j b4
        ·exact hdc i2 o2 b3 (ihq i2 (by omega) hlt2 b5) j b4
      -- and of those that may come late none is left, as it could come up
      have all:∀q j,j≤q→j<init.length→listed.getD j false=true:=by
       intro q
       induction q using Nat.strongRecOn with
       |_ q ihq=>
        intro j hjq hj
        cases hjL:bc L j with
        |false=>exact down _ j (Nat.le_refl _) hj hjL
        |true=>
         cases hun:listed.getD j true with
         |true=>exact bothT listed j hl (by omega) hun
         |false=>
          exfalso;refine hlate ⟨j,hjL,cU.2 ⟨hun,init[j],by rw[hat j hj,List.getElem?_eq_getElem hj],fun x hx=> ?_⟩⟩;have hlt:x<j:=by have:=(c1 j _ (List.getElem?_eq_getElem hj)).1 x hx;omega
          exact ihq x (by omega) x (Nat.le_refl _) (by omega)
      intro j hj;exact pX (by omega) (all j j (Nat.le_refl _) hj)
    obtain⟨f,hx,-,next⟩:=go i o hlt hi ho;unfold wpOp;rw[ho];simp only
    by_cases hwant:Region.wanted o (yielded ops a.tmps)=true
    ·rw[if_pos hwant] at hx⊢
     exact .inl (Oper.wp_mono (fun a' w' ⟨u,e,h1,h2,h3⟩=>by rw[e];exact next u w' h1 h2 h3) hx)
    ·rw[if_neg hwant] at hx⊢
     exact next undef w (Gr w) hx.1 (fun h=>by rw[hx.2] at h;cases h)
 have hrep:∀i,(Array.replicate ops.size false).getD i false=false:=by intro i;by_cases h:i<ops.size<;>simp[h]
 refine key ops.size _ a w0 (by simp) ?_ ?_ ha.size ha.defers (Gr w0) ?_ ha.slot (fun i _ _ _ _ _ _ _ _ _ _ _ _ h0=>by simp only[hrep] at h0;cases h0) (fun i _ _ _ _ _ h0=>by simp only[hrep] at h0;cases h0) ?_
 ·intro i o _ h0
  rw[hrep] at h0;cases h0
 ·intro i _ h2
  simp[h2]
 ·intro j d f _ h0
  simp only[hrep] at h0;cases h0
 ·have:∀k,left (Array.replicate ops.size false) k≤k:=by
   intro k
   induction k with
   |zero=>exact Nat.le_refl _
   |succ k ih=>unfold left;split<;>omega
  exact this _
end
end Go.Proofs.YtigoimhndlnhfaaGreat
namespace Go.RowKit
abbrev Grow (w w':World):Prop:=Below w.heap.size w w'
theorem Grow.refl (w:World):Grow w w:=Below.refl _ _
theorem Grow.trans {a b c:World}(h:Grow a b)(k:Grow b c):Grow a c:=Below.trans h (k.mono h.size)
end Go.RowKit
namespace Go.Proofs.YtigoimhndlnhfaaGreat
open Go.RowKit
variable [Inhabited (List Deferred)]
section
variable {P:Program} {ops:Array Oper} {Q:Exit→Act→World→Prop} {n:Nat} {F0 X:List (Nat × Value)} {G:World→World→Prop} {w0:World} {W:World→Prop} {Γ:Env} {o:Oper} {f:Fact} {v:Value} {tail r:List Oper} {B:Env→Prop} {k:Nat} {Φ:Value→World→Prop} {L:List Nat}
theorem jF {ds:List Nat}{a:Act}{w:World}(hs:∀t v,look F0 t=some v→a.tmps[t]? =some v):∀ {Γ:Env},(∀j d f,(j,d,f)∈Γ→j∈ds→∃u,(∀t,d=some t→a.tmps[t]? =some u)∧f.holds u w)→∀ {t v},pR F0 ds t Γ=some v→a.tmps[t]? =some v
 | [],_,t,v,h=>hs t v h
 |(j,none,f)::r,hF,t,v,h=>jF hs (fun j d f hm=>hF j d f (List.mem_cons_of_mem _ hm)) (Γ:=r) h
 |(j,some d, .sat Φ)::r,hF,t,v,h=>by
  unfold pR at h
  cases hb:Nat.beq d t with
  |true=>rw[hb] at h;cases h
  |false=>rw[hb] at h;exact jF hs (fun j d f hm=>hF j d f (List.mem_cons_of_mem _ hm)) (Γ:=r) h
 |(j,some d, .eq u)::r,hF,t,v,h=>by
  unfold pR at h
  cases hb:Nat.beq d t with
  |true=>
   rw[hb] at h
   cases hm:bc ds j with
   |false=>rw[hm] at h;cases h
   |true=>
    rw[hm] at h;injection h with h
    subst h;obtain⟨u',h1,h2⟩:=hF j (some d) (.eq u) List.mem_cons_self (ar hm);have:=h1 d rfl;rw[←Nat.eq_of_beq_eq_true hb,this,show u'=u from h2]
  |false=>rw[hb] at h;exact jF hs (fun j d f hm=>hF j d f (List.mem_cons_of_mem _ hm)) (Γ:=r) h
def uniq:Env→Bool
 | []=>true
 |(j,_,_)::r=>(Env.find r j).isNone&&uniq r
theorem pN:∀ {Γ:Env},uniq Γ=true→∀ {j d f},(j,d,f)∈Γ→Env.find Γ j=some (d,f)
 | [],_,_,_,_,h=>by cases h
 |(i,d',f')::r,hu,j,d,f,h=>by
  simp only[uniq,Bool.and_eq_true] at hu;show(bif Nat.beq i j then some (d',f') else Env.find r j)=_;rcases List.mem_cons.1 h with e|h
  ·injection e with e1 e2
   injection e2 with e2 e3
   subst e1 e2 e3;rw[Nat.beq_refl];rfl
  ·have hr:=pN hu.2 h
   cases hb:Nat.beq i j with
   |true=>
    have e:=Nat.eq_of_beq_eq_true hb;subst e;rw[hr] at hu;simp at hu
   |false=>exact hr
theorem fg {a:Act}{w:World}(hu:uniq Γ=true)(hF:mU Γ (· ∈direct o) a w)(hs:∀t v,look F0 t=some v→a.tmps[t]? =some v)(hX:∀t v,look X t=some v→a.tmps[t]? =some v):∀x u,kS X F0 Γ o x=some u→a.eval x=u:=by
 intro x u hx
 cases x with
 |tmp t=>
  simp only[kS] at hx
  have:a.tmps[t]? =some u:=by
   split at hx
   ·rename_i v hv
    injection hx with hx
    subst hx;exact hX t _ hv
   ·exact jF hs (fun j d f hm hj=>hF j d f (pN hu hm) hj) hx
  simp[Act.eval,this]
 |const v=>exact Option.some.inj hx
 |global g=>exact Option.some.inj hx
 |func f=>exact Option.some.inj hx
variable (P Q n F0 G w0) in
def lI (X:List (Nat × Value))(W:World→Prop)(Γ:Env)(o:Oper)(f:Fact):Prop:=∀a w,a.tmps.size=n→G w0 w→W w→mU Γ (· ∈direct o) a w→(∀t v,look F0 t=some v→a.tmps[t]? =some v)→(∀t v,look X t=some v→a.tmps[t]? =some v)→
 o.wp P a w (fun a' w'=>∃u,a'=a.put o.dst u∧G w w'∧f.holds u w') Q
theorem j3.plain (hg:o.guard=none)(h:lI P Q n F0 G w0 X W Γ o f):j3 P ops Q n F0 G w0 X W Γ o f:=by
 intro a w h1 h2 h3 h4 h5 h6;rw[if_pos (by simp[Region.wanted,hg])];exact h a w h1 h2 h3 h4 h5 h6
theorem j3.wanted {j t:Nat}{b:Bool}(hu:uniq Γ=true)(hg:o.guard=some (j,b))(ht:(ops[j]?).bind (·.dst)=some t)(hb:kS X F0 Γ o (.tmp t)=some (.bool b))(h:lI P Q n F0 G w0 X W Γ o f):j3 P ops Q n F0 G w0 X W Γ o f:=by
 intro a w h1 h2 h3 h4 h5 h6
 have hv:a.tmps[t]? =some (.bool b):=by
  have:=fg hu h4 h5 h6 _ _ hb
  cases hh:a.tmps[t]? with
  |none=>simp[Act.eval,hh,undef] at this
  |some u=>simp[Act.eval,hh] at this;rw[this]
 rw[if_pos (by unfold Region.wanted yielded;simp only[hg,ht,Option.bind_some,hv];simp)];exact h a w h1 h2 h3 h4 h5 h6
theorem j3.skip {j t:Nat}{b b':Bool}(hu:uniq Γ=true)(hg:o.guard=some (j,b))(ht:(ops[j]?).bind (·.dst)=some t)(hb:kS X F0 Γ o (.tmp t)=some (.bool b'))(hne:b'= !b):j3 P ops Q n F0 G w0 X W Γ o (.eq undef):=by
 intro a w h1 h2 h3 h4 h5 h6
 have hv:a.tmps[t]? =some (.bool b'):=by
  have:=fg hu h4 h5 h6 _ _ hb
  cases hh:a.tmps[t]? with
  |none=>simp[Act.eval,hh,undef] at this
  |some u=>simp[Act.eval,hh] at this;rw[this]
 rw[if_neg (by unfold Region.wanted yielded;simp only[hg,ht,Option.bind_some,hv,hne];cases b<;>simp)];rfl
theorem lI.val (Gr:∀w,G w w)(hu:uniq Γ=true)(hrun:∀w,G w0 w→W w→aa P (kS X F0 Γ o) o w v w):lI P Q n F0 G w0 X W Γ o (.eq v):=by
 intro a w h1 h2 h3 h4 h5 h6;unfold Oper.wp;rw[hrun w h2 h3 a.eval (fg hu h4 h5 h6),Oper.upon_value];exact⟨v,rfl,Gr w,rfl⟩
theorem lI.make (hu:uniq Γ=true)(hrun:∀w,G w0 w→W w→∃v w',aa P (kS X F0 Γ o) o w v w'∧G w w'∧Φ v w'):lI P Q n F0 G w0 X W Γ o (.sat Φ):=by
 intro a w h1 h2 h3 h4 h5 h6;obtain⟨v,w',hr,hG,hΦ⟩:=hrun w h2 h3;unfold Oper.wp;rw[hr a.eval (fg hu h4 h5 h6),Oper.upon_value];exact⟨v,rfl,hG,hΦ⟩
theorem lI.call {fn:FuncId}{args:Array Value}(hu:uniq Γ=true)(he:∀w,Enters P (kS X F0 Γ o) o w fn args)(hc:∀w,G w0 w→W w→Calls P fn args w fun e w'=>∃v,e= .returned v∧G w w'∧Φ v w'):lI P Q n F0 G w0 X W Γ o (.sat Φ):=by
 intro a w h1 h2 h3 h4 h5 h6;unfold Oper.wp;rw[he w a.eval (fg hu h4 h5 h6),Oper.upon_enter];exact(hc w h2 h3).mono fun e w' ⟨v,e1,e2,e3⟩=>by subst e1;exact⟨v,rfl,e2,e3⟩
theorem lI.bP {fn:FuncId}{args:Array Value}(hu:uniq Γ=true)(he:∀w,Enters P (kS X F0 Γ o) o w fn args)(hc:∀w,G w0 w→W w→Calls P fn args w fun e w'=>e= .returned v∧G w w'):lI P Q n F0 G w0 X W Γ o (.eq v):=by
 intro a w h1 h2 h3 h4 h5 h6;unfold Oper.wp;rw[he w a.eval (fg hu h4 h5 h6),Oper.upon_enter];exact(hc w h2 h3).mono fun e w' ⟨e1,e2⟩=>by subst e1;exact⟨v,rfl,e2,rfl⟩
theorem j3.open {j d:Nat}(hj:Env.find Γ j=some (some d, .sat Φ))(hm:bc (direct o) j=true)(h:∀u,j3 P ops Q n F0 G w0 ((d,u)::X) (fun w=>W w∧Φ u w) Γ o f):j3 P ops Q n F0 G w0 X W Γ o f:=by
 intro a w h1 h2 h3 h4 h5 h6;obtain⟨u,g1,g2⟩:=h4 j _ _ hj (ar hm);refine h u a w h1 h2 ⟨h3,g2⟩ h4 h5 fun t v ht=> ?_;rcases b8 ht with ⟨rfl,rfl⟩|⟨-,ht⟩
 ·exact g1 _ rfl
 ·exact h6 t v ht
theorem Dr.val (Gr:∀w,G w w)(hu:uniq Γ=true)(hrun:∀w,G w0 w→aa P (kS [] F0 Γ o) o w v w)(hg:o.guard=none)(hr:fV P ops Q n F0 G w0 L B (k+1) r ((k,o.dst, .eq v)::Γ))(hl:bc L k=false:=by rfl):fV P ops Q n F0 G w0 L B k (o::r) Γ:=
 ⟨.eq v,trivial, .plain hg (.val Gr hu fun w h _=>hrun w h),(fun h=>by rw[hl] at h;cases h),hr⟩
theorem Dr.aF {j t:Nat}{b:Bool}(Gr:∀w,G w w)(hu:uniq Γ=true)(hrun:∀w,G w0 w→aa P (kS [] F0 Γ o) o w v w)(hg:o.guard=some (j,b))(ht:(ops[j]?).bind (·.dst)=some t)(hb:kS [] F0 Γ o (.tmp t)=some (.bool b))(hr:fV P ops Q n F0 G w0 L B (k+1) r ((k,o.dst, .eq v)::Γ))(hl:bc L k=false:=by rfl):fV P ops Q n F0 G w0 L B k (o::r) Γ:=
 ⟨.eq v,trivial, .wanted hu hg ht hb (.val Gr hu fun w h _=>hrun w h),(fun h=>by rw[hl] at h;cases h),hr⟩
theorem Dr.skip {j t:Nat}{b b':Bool}(hu:uniq Γ=true)(hg:o.guard=some (j,b))(ht:(ops[j]?).bind (·.dst)=some t)(hb:kS [] F0 Γ o (.tmp t)=some (.bool b'))(hne:b'= !b)(hr:fV P ops Q n F0 G w0 L B (k+1) r ((k,o.dst, .eq undef)::Γ))(hl:bc L k=false:=by rfl):fV P ops Q n F0 G w0 L B k (o::r) Γ:=
 ⟨.eq undef,trivial, .skip hu hg ht hb hne,(fun h=>by rw[hl] at h;cases h),hr⟩
theorem Dr.call {fn:FuncId}{args:Array Value}(hu:uniq Γ=true)(he:∀w,Enters P (kS [] F0 Γ o) o w fn args)(hg:o.guard=none)(hs:∀v w w',G w w'→Φ v w→Φ v w')(hc:∀w,G w0 w→Calls P fn args w fun e w'=>∃v,e= .returned v∧G w w'∧Φ v w')
  (hr:fV P ops Q n F0 G w0 L B (k+1) r ((k,o.dst, .sat Φ)::Γ)) (hl:bc L k=false:=by rfl):fV P ops Q n F0 G w0 L B k (o::r) Γ:=
 ⟨.sat Φ,hs, .plain hg (.call hu he fun w h _=>hc w h),(fun h=>by rw[hl] at h;cases h),hr⟩
theorem Dr.bP {fn:FuncId}{args:Array Value}(hu:uniq Γ=true)(he:∀w,Enters P (kS [] F0 Γ o) o w fn args)(hg:o.guard=none)(hc:∀w,G w0 w→Calls P fn args w fun e w'=>e= .returned v∧G w w')
  (hr:fV P ops Q n F0 G w0 L B (k+1) r ((k,o.dst, .eq v)::Γ)) (hl:bc L k=false:=by rfl):fV P ops Q n F0 G w0 L B k (o::r) Γ:=
 ⟨.eq v,trivial, .plain hg (.bP hu he fun w h _=>hc w h),(fun h=>by rw[hl] at h;cases h),hr⟩
theorem Dr.late (hl:bc L k=true)(hu:uniq Γ=true)(hrun:∀w,aa P (kS [] F0 Γ o) o w v w)(Gr:∀w,G w w)(hg:o.guard=none)(hr:fV P ops Q n F0 G w0 L B (k+1) r ((k,o.dst, .eq v)::Γ)):fV P ops Q n F0 G w0 L B k (o::r) Γ:=
 ⟨.eq v,trivial, .plain hg (.val Gr hu fun w _ _=>hrun w),(fun _=>⟨v,rfl,fun a w _ _ _ h4 h5 h6=> .inl ⟨by simp[Region.wanted,hg],fun w'=>hrun w' a.eval (fg hu h4 h5 h6)⟩⟩),hr⟩
theorem Dr.make (hu:uniq Γ=true)(hs:∀v w w',G w w'→Φ v w→Φ v w')(hg:o.guard=none)(hrun:∀w,G w0 w→∃v w',aa P (kS [] F0 Γ o) o w v w'∧G w w'∧Φ v w')(hr:fV P ops Q n F0 G w0 L B (k+1) r ((k,o.dst, .sat Φ)::Γ))(hl:bc L k=false:=by rfl):fV P ops Q n F0 G w0 L B k (o::r) Γ:=
 ⟨.sat Φ,hs, .plain hg (.make hu fun w h _=>hrun w h),(fun h=>by rw[hl] at h;cases h),hr⟩
theorem Dr.tl {fn:FuncId}{args:Value→Array Value}{j d:Nat}{Ψ:Value→World→Prop}(hj:Env.find Γ j=some (some d, .sat Ψ))(hm:bc (direct o) j=true)(hu:uniq Γ=true)(he:∀u w,Enters P (kS [(d,u)] F0 Γ o) o w fn (args u))(hg:o.guard=none)(hs:∀v w w',G w w'→Φ v w→Φ v w')
  (hc:∀u w,G w0 w→Ψ u w→Calls P fn (args u) w fun e w'=>∃v,e= .returned v∧G w w'∧Φ v w')
  (hr:fV P ops Q n F0 G w0 L B (k+1) r ((k,o.dst, .sat Φ)::Γ)) (hl:bc L k=false:=by rfl):fV P ops Q n F0 G w0 L B k (o::r) Γ:=
 ⟨.sat Φ,hs, .open hj hm fun u=> .plain hg (.call hu (he u) fun w h h2=>hc u w h h2.2),(fun h=>by rw[hl] at h;cases h),hr⟩
theorem Dr.u0 {fn:FuncId}{args:Value→Array Value}{j d:Nat}{Ψ:Value→World→Prop}(hj:Env.find Γ j=some (some d, .sat Ψ))(hm:bc (direct o) j=true)(hu:uniq Γ=true)(he:∀u w,Enters P (kS [(d,u)] F0 Γ o) o w fn (args u))(hg:o.guard=none)
  (hc:∀u w,G w0 w→Ψ u w→Calls P fn (args u) w fun e w'=>e= .returned v∧G w w')
  (hr:fV P ops Q n F0 G w0 L B (k+1) r ((k,o.dst, .eq v)::Γ)) (hl:bc L k=false:=by rfl):fV P ops Q n F0 G w0 L B k (o::r) Γ:=
 ⟨.eq v,trivial, .open hj hm fun u=> .plain hg (.bP hu (he u) fun w h h2=>hc u w h h2.2),(fun h=>by rw[hl] at h;cases h),hr⟩
theorem Dr.call2 {fn:FuncId}{args:Value→Value→Array Value}{j d j' d':Nat}{Ψ Ψ':Value→World→Prop}(hj:Env.find Γ j=some (some d, .sat Ψ))(hm:bc (direct o) j=true)(hj':Env.find Γ j'=some (some d', .sat Ψ'))(hm':bc (direct o) j'=true)(hu:uniq Γ=true)
  (he:∀u u' w,Enters P (kS [(d',u'),(d,u)] F0 Γ o) o w fn (args u u')) (hg:o.guard=none) (hs:∀v w w',G w w'→Φ v w→Φ v w')
  (hc:∀u u' w,G w0 w→Ψ u w→Ψ' u' w→Calls P fn (args u u') w fun e w'=>∃v,e= .returned v∧G w w'∧Φ v w')
  (hr:fV P ops Q n F0 G w0 L B (k+1) r ((k,o.dst, .sat Φ)::Γ)) (hl:bc L k=false:=by rfl):fV P ops Q n F0 G w0 L B k (o::r) Γ:=
 ⟨.sat Φ,hs, .open hj hm fun u=> .open hj' hm' fun u'=> .plain hg (.call hu (he u u') fun w h h2=>hc u u' w h h2.1.2 h2.2),(fun h=>by rw[hl] at h;cases h),hr⟩
theorem Dr.D1 {j d:Nat}{Ψ:Value→World→Prop}(Gr:∀w,G w w)(hj:Env.find Γ j=some (some d, .sat Ψ))(hm:bc (direct o) j=true)(hu:uniq Γ=true)(hg:o.guard=none)
  (hrun:∀u w,G w0 w→Ψ u w→aa P (kS [(d,u)] F0 Γ o) o w v w) (hr:fV P ops Q n F0 G w0 L B (k+1) r ((k,o.dst, .eq v)::Γ)) (hl:bc L k=false:=by rfl):fV P ops Q n F0 G w0 L B k (o::r) Γ:=
 ⟨.eq v,trivial, .open hj hm fun u=> .plain hg (.val Gr hu fun w h h2=>hrun u w h h2.2),(fun h=>by rw[hl] at h;cases h),hr⟩
theorem Dr.tB {fn:FuncId}{args:Array Value}(hu:uniq Γ=true)(he:∀w,Enters P (kS [] F0 Γ o) o w fn args){jg tg:Nat}{bg:Bool}(hg:o.guard=some (jg,bg))(ht:(ops[jg]?).bind (·.dst)=some tg)(hb:kS [] F0 Γ o (.tmp tg)=some (.bool bg))(hs:∀v w w',G w w'→Φ v w→Φ v w')(hc:∀w,G w0 w→Calls P fn args w fun e w'=>∃v,e= .returned v∧G w w'∧Φ v w')
  (hr:fV P ops Q n F0 G w0 L B (k+1) r ((k,o.dst, .sat Φ)::Γ)) (hl:bc L k=false:=by rfl):fV P ops Q n F0 G w0 L B k (o::r) Γ:=
 ⟨.sat Φ,hs, .wanted hu hg ht hb (.call hu he fun w h _=>hc w h),(fun h=>by rw[hl] at h;cases h),hr⟩
theorem Dr.gG {fn:FuncId}{args:Array Value}(hu:uniq Γ=true)(he:∀w,Enters P (kS [] F0 Γ o) o w fn args){jg tg:Nat}{bg:Bool}(hg:o.guard=some (jg,bg))(ht:(ops[jg]?).bind (·.dst)=some tg)(hb:kS [] F0 Γ o (.tmp tg)=some (.bool bg))(hc:∀w,G w0 w→Calls P fn args w fun e w'=>e= .returned v∧G w w')
  (hr:fV P ops Q n F0 G w0 L B (k+1) r ((k,o.dst, .eq v)::Γ)) (hl:bc L k=false:=by rfl):fV P ops Q n F0 G w0 L B k (o::r) Γ:=
 ⟨.eq v,trivial, .wanted hu hg ht hb (.bP hu he fun w h _=>hc w h),(fun h=>by rw[hl] at h;cases h),hr⟩
theorem Dr.wR {fn:FuncId}{args:Value→Array Value}{j d:Nat}{Ψ:Value→World→Prop}(hj:Env.find Γ j=some (some d, .sat Ψ))(hm:bc (direct o) j=true)(hu:uniq Γ=true)(he:∀u w,Enters P (kS [(d,u)] F0 Γ o) o w fn (args u)){jg tg:Nat}{bg:Bool}(hg:o.guard=some (jg,bg))(ht:(ops[jg]?).bind (·.dst)=some tg)(hb:∀u,kS [(d,u)] F0 Γ o (.tmp tg)=some (.bool bg))
  (hc:∀u w,G w0 w→Ψ u w→Calls P fn (args u) w fun e w'=>e= .returned v∧G w w')
  (hr:fV P ops Q n F0 G w0 L B (k+1) r ((k,o.dst, .eq v)::Γ)) (hl:bc L k=false:=by rfl):fV P ops Q n F0 G w0 L B k (o::r) Γ:=
 ⟨.eq v,trivial, .open hj hm fun u=> .wanted hu hg ht (hb u) (.bP hu (he u) fun w h h2=>hc u w h h2.2),(fun h=>by rw[hl] at h;cases h),hr⟩
/-! The end of the first part. -/
def rR (F0:List (Nat × Value)):Env→List (Nat × Value)
 | []=>F0
 |(_,some d, .eq v)::r=>(d,v)::rR F0 r
 |_::r=>rR F0 r
theorem iD {a:Act}{w:World}(hs:∀t v,look F0 t=some v→a.tmps[t]? =some v):∀ {Γ:Env},(∀j d f,(j,d,f)∈Γ→∃u,(∀t,d=some t→a.tmps[t]? =some u)∧f.holds u w)→∀t v,look (rR F0 Γ) t=some v→a.tmps[t]? =some v
 | [],_,t,v,h=>hs t v h
 |(j,none,f)::r,hF,t,v,h=>iD hs (fun j d f hm=>hF j d f (List.mem_cons_of_mem _ hm)) (Γ:=r) t v h
 |(j,some d, .sat Φ)::r,hF,t,v,h=>iD hs (fun j d f hm=>hF j d f (List.mem_cons_of_mem _ hm)) (Γ:=r) t v h
 |(j,some d, .eq u)::r,hF,t,v,h=>by
  rcases b8 h with ⟨rfl,rfl⟩|⟨-,h⟩
  ·obtain⟨u',h1,h2⟩:=hF j (some d) (.eq u) List.mem_cons_self
   rw[h1 d rfl,show u'=u from h2]
  ·exact iD hs (fun j d f hm=>hF j d f (List.mem_cons_of_mem _ hm)) (Γ:=r) t v h
theorem od {A B:List (Nat × Value)}{t:Nat}{v:Value}(h:look (A++B) t=some v):look A t=some v∨look B t=some v:=by
 induction A with
 |nil=>exact .inr h
 |cons p r ih=>
  obtain⟨k,u⟩:=p;rcases b8 h with ⟨rfl,rfl⟩|⟨hne,h⟩
  ·refine .inl ?_
   unfold look;rw[Nat.beq_refl];rfl
  ·rcases ih h with h|h
   ·refine .inl ?_
    show(bif Nat.beq k t then some u else look r t)=_
    cases hb:Nat.beq k t with
    |true=>exact absurd (Nat.eq_of_beq_eq_true hb) hne
    |false=>exact h
   ·exact .inr h
theorem Dr.nil (h:B Γ):fV P ops Q n F0 G w0 L B k [] Γ:=h
theorem ba.open {j d:Nat}(hj:Env.find Γ j=some (some d, .sat Φ))(h:∀u,ba P ops Q n F0 G w0 tail ((d,u)::X) (fun w=>W w∧Φ u w) Γ):ba P ops Q n F0 G w0 tail X W Γ:=by
 intro a w h1 h1' h2 h3 h4 h5 h6;obtain⟨u,g1,g2⟩:=h4 j _ _ hj trivial;refine h u a w h1 h1' h2 ⟨h3,g2⟩ h4 h5 fun t v ht=> ?_;rcases b8 ht with ⟨rfl,rfl⟩|⟨-,ht⟩
 ·exact g1 _ rfl
 ·exact h6 t v ht
theorem ba.done {F':List (Nat × Value)}(hu:uniq Γ=true)(hsub:Sub F' (X++rR F0 Γ))(h:∀w,G w0 w→W w→Seq P ops Q tail n F' w):ba P ops Q n F0 G w0 tail X W Γ:=by
 intro a w h1 h1' h2 h3 h4 h5 h6;refine h w h2 h3 a (Fr.sub ⟨h1,h1',fun t v ht=> ?_⟩ hsub);rcases od ht with ht|ht
 ·exact h6 t v ht
 ·exact iD h5 (fun j d f hm=>h4 j d f (pN hu hm) trivial) t v ht
theorem Cd.draw (m:Nat){id:Nat}{l:List Oper}{w:World}(hm:P.follows .mixedOrders=true)(L:List Nat)(hQ:L=[]∨∀c (a:Act) d v w,Q (.panic c) (a.put d v) w→Q (.panic c) a w)(hchk:nE n (jO F0) L (l.take m) (l.drop m)=true)(G:World→World→Prop)(Gr:∀w,G w w)(Gt:∀a b c,G a b→G b c→G a c)
  (h:∀w0,Below w.heap.size w w0→w0.heap.size=w.heap.size→fV P l.toArray Q n F0 G w0 L (ba P l.toArray Q n F0 G w0 (l.drop m) [] (fun _=>True)) 0 (l.take m) []):Cd P (.region id l.toArray true) Q n F0 w:=fun _ ha=>
 BX L [] (fun i o h _=>by cases h) (fun i h=>by cases h) (.inl rfl) hQ hm (by rw[List.take_append_drop]) hchk Gt Gr rfl (fV.mono (fun Γ hΓ a w h1 h2 h3 h4 h5 h6 h7 _=>hΓ a w h1 h2 h3 h4 h5 h6 h7) _ _ _ (h {w with drawn:=w.drawn+1} ⟨rfl,rfl,rfl,Nat.le_refl _,fun _ _=>rfl⟩ rfl)) ha
theorem Dr.jW {j t:Nat}{b:Bool}(hu:uniq Γ=true)(hg:o.guard=some (j,b))(ht:(ops[j]?).bind (·.dst)=some t)(hb:kS [] F0 Γ o (.tmp t)=some undef)(hr:fV P ops Q n F0 G w0 L B (k+1) r ((k,o.dst, .eq undef)::Γ))(hl:bc L k=false:=by rfl):fV P ops Q n F0 G w0 L B k (o::r) Γ:=
 ⟨.eq undef,trivial,(by
  intro a w h1 h2 h3 h4 h5 h6;have hv:=fg hu h4 h5 h6 _ _ hb
  rw[if_neg (by
   unfold Region.wanted yielded;simp only[hg,ht,Option.bind_some]
   cases hh:a.tmps[t]? with
   |none=>simp
   |some u=>
    simp[Act.eval,hh] at hv;subst hv;simp[undef])]
  rfl:j3 P ops Q n F0 G w0 [] (fun _=>True) Γ o (.eq undef)),(fun h=>by rw[hl] at h;cases h),hr⟩
end
def pY (B:Nat)(T:TypeId)(cs:Array Value)(v:Value)(w:World):Prop:=∃g,v= .pointer (some ⟨g,0,none⟩)∧aK w g T cs∧B≤g
theorem pY.dz {B:Nat}{T:TypeId}{cs:Array Value}:∀v w w',Grow w w'→pY B T cs v w→pY B T cs v w':=fun _ _ _ hG ⟨g,e,h,hB⟩=>⟨g,e,h.step hG,hB⟩
theorem Dr.alloc {P:Program}{ops:Array Oper}{Q:Exit→Act→World→Prop}{n:Nat}{F0:List (Nat × Value)}{w0:World}{Γ:Env}{o:Oper}{r:List Oper}{B:Env→Prop}{L:List Nat}{k T:Nat}{z:Value}(hu:uniq Γ=true)(ho:o.op= .alloc T)(hz:∀w,(zeroValue T).run P w= .ok z w)(hg:o.guard=none)
  (hr:fV P ops Q n F0 Grow w0 L B (k+1) r ((k,o.dst, .sat (pY w0.heap.size T z.cells))::Γ)) (hl:bc L k=false:=by rfl):fV P ops Q n F0 Grow w0 L B k (o::r) Γ:=
 Dr.make hu pY.dz hg (fun w hG=>⟨_,_,aa.uQ ho hz,(kR w z.cells T).below,w.heap.size,rfl,(kR w z.cells T).av,hG.size⟩) hr hl
end Go.Proofs.YtigoimhndlnhfaaGreat
namespace Go.Proofs.YtigoimhndlnhfaaGreat
open Go.RowKit
variable [Inhabited (List Deferred)]
abbrev zm:=List (Bool × List (Nat × Value))
def pD:zm→List (Nat × Value)→List (Nat × Value)
 | [],F=>F
 |(_,H)::r,F=>H++pD r F
def cG:zm→Bool
 | []=>true
 |(c,_)::_=>c
def gZ:zm→List (Nat × Value)→Act→Prop
 | [],_,_=>True
 |(c,H)::r,F,a=>(c=true→cG r=true)∧(c=true→∀t v,look H t=some v→a.tmps[t]? =some v)∧(c=false→∀t v,look H t=some v→a.tmps[t]? =some undef)∧gZ r F a
def ah (P:Program)(ops:Array Oper)(Q:Exit→Act→World→Prop)(rest:List Oper)(n:Nat)(C:zm)(F:List (Nat × Value))(w:World):Prop:=∀a,Fr n F a→gZ C F a→wpList P ops Q rest a w
theorem gZ.all {n:Nat}{F:List (Nat × Value)}{a:Act}(ha:Fr n F a):∀ {C:zm},gZ C F a→cG C=true→∀t v,look (pD C F) t=some v→a.tmps[t]? =some v
 | [],_,_,t,v,h=>ha.slot t v h
 |(c,H)::r,hC,hc,t,v,h=>by
  obtain⟨h1,h2,-,h4⟩:=hC;rcases od h with h|h
  ·exact h2 hc t v h
  ·exact gZ.all ha h4 (h1 hc) t v h
theorem gZ.fr {n:Nat}{F:List (Nat × Value)}{a:Act}{C:zm}(ha:Fr n F a)(hC:gZ C F a)(hc:cG C=true):Fr n (pD C F) a:=⟨ha.size,ha.defers,hC.all ha hc⟩
def fc (d:Nat):zm→List (Nat × Value)→Bool
 | [],F=>(look F d).isNone
 |(_,H)::r,F=>(look H d).isNone&&fc d r F
theorem gZ.put {F:List (Nat × Value)}{a:Act}{d:Nat}{v:Value}:∀ {C:zm},fc d C F=true→gZ C F a→gZ C F (a.put (some d) v)
 | [],_,_=>trivial
 |(c,H)::r,hf,hC=>by
  simp only[fc,Bool.and_eq_true] at hf;obtain⟨h1,h2,h3,h4⟩:=hC;have hne:∀t u,look H t=some u→d≠t:=fun t u ht e=>by subst e;rw[ht] at hf;simp at hf
  refine⟨h1,fun hc t u ht=> ?_,fun hc t u ht=> ?_,gZ.put hf.2 h4⟩
  ·simp only[Act.put];rw[Array.getElem?_setIfInBounds_ne (hne t u ht)];exact h2 hc t u ht
  ·simp only[Act.put];rw[Array.getElem?_setIfInBounds_ne (hne t u ht)];exact h3 hc t u ht
theorem fU {d:Nat}{F:List (Nat × Value)}:∀ {C:zm},fc d C F=true→(look F d).isNone=true
 | [],h=>h
 |(_,_)::r,h=>by simp only[fc,Bool.and_eq_true] at h;exact fU (C:=r) h.2
theorem Fr.ew {n d:Nat}{F:List (Nat × Value)}{a:Act}{v:Value}(ha:Fr n F a)(hf:(look F d).isNone=true):Fr n F (a.put (some d) v):=by
 refine⟨by simp[Act.put,ha.size],ha.defers,fun t u ht=> ?_⟩;have hne:d≠t:=fun e=>by subst e;rw[ht] at hf;simp at hf
 simp only[Act.put];rw[Array.getElem?_setIfInBounds_ne hne];exact ha.slot t u ht
section
variable {P:Program} {ops:Array Oper} {Q:Exit→Act→World→Prop} {rest:List Oper} {o:Oper} {n d:Nat} {F:List (Nat × Value)} {C:zm} {w w':World} {v:Value} {c:Bool} {H:List (Nat × Value)}
theorem ah.start (h:ah P ops Q rest n [] F w):Seq P ops Q rest n F w:=fun a ha=>h a ha trivial
theorem ah.open {j t:Nat}{b want:Bool}(hg:o.guard=some (j,want))(ht:(ops[j]?).bind (·.dst)=some t)(hb:look (match C with| []=>F|(_,H)::_=>H) t=some (.bool b))(hd:o.dst=some d)(hn:Nat.blt d n=true)(hf:fc d C F=true)(hdt:Nat.beq d t=false)
  (hrun:(cG C&&(b==want))=true→aa P (gg (pD C F)) o w v w) (h:ah P ops Q rest n ((cG C&&(b==want),[(d,v)])::C) F w):ah P ops Q (o::rest) n C F w:=by
 intro a ha hC;refine wpList_step fun K hK=> ?_
 have hwant:Region.wanted o (yielded ops a.tmps)=(cG C&&(b==want)):=by
  have hy:yielded ops a.tmps j=if cG C=true then some b else none:=by
   unfold yielded;simp only[ht,Option.bind_some]
   cases C with
   |nil=>simp[cG,ha.slot t _ hb]
   |cons x r=>
    obtain⟨c1,H1⟩:=x;obtain⟨h1,h2,h3,h4⟩:=hC
    cases c1
    ·simp[cG,h3 rfl t _ hb,undef]
    ·simp[cG,h2 rfl t _ hb]
  unfold Region.wanted;simp only[hg,hy]
  cases cG C<;>cases b<;>cases want<;>rfl
 rw[hwant];have hbase:=fU hf
 cases hc:(cG C&&(b==want)) with
 |true=>
  rw[if_pos rfl];have htop:cG C=true:=by simp only[Bool.and_eq_true] at hc;exact hc.1
  unfold Oper.wp;rw[hrun hc a.eval (hC.fr ha htop).ev,Oper.upon_value,hd];refine hK _ _ (h _ (ha.ew hbase) ⟨fun _=>htop,fun _ t' u hu=> ?_,fun e=>(by rw[hc] at e;cases e),hC.put hf⟩);rcases b8 hu with ⟨rfl,rfl⟩|⟨-,hu⟩
  ·simp[Act.put,ha.size,Nat.blt_eq.mp hn]
  ·cases hu
 |false=>
  rw[if_neg (by simp),hd];refine hK _ _ (h _ (ha.ew hbase) ⟨fun e=>(by rw[hc] at e;cases e),fun e=>(by rw[hc] at e;cases e),fun _ t' u hu=> ?_,hC.put hf⟩);rcases b8 hu with ⟨rfl,rfl⟩|⟨-,hu⟩
  ·simp[Act.put,ha.size,Nat.blt_eq.mp hn]
  ·cases hu
theorem ah.next {j t:Nat}{b want:Bool}{c0:Bool}(hg:o.guard=some (j,want))(ht:(ops[j]?).bind (·.dst)=some t)(hb:look (match C with| []=>F|(_,H)::_=>H) t=some (.bool b))(hc0:c0=(cG C&&(b==want)))(hd:o.dst=some d)(hn:Nat.blt d n=true)(hf:fc d ((c0,H)::C) F=true)
  (hrun:c0=true→aa P (gg (pD ((c0,H)::C) F)) o w v w) (h:ah P ops Q rest n ((c0,(d,v)::H)::C) F w):ah P ops Q (o::rest) n ((c0,H)::C) F w:=by
 intro a ha hC;obtain⟨h1,h2,h3,h4⟩:=id hC;refine wpList_step fun K hK=> ?_
 have hwant:Region.wanted o (yielded ops a.tmps)=c0:=by
  rw[hc0]
  have hy:yielded ops a.tmps j=if cG C=true then some b else none:=by
   unfold yielded;simp only[ht,Option.bind_some]
   cases C with
   |nil=>simp[cG,ha.slot t _ hb]
   |cons x r=>
    obtain⟨c1,H1⟩:=x;obtain⟨g1,g2,g3,g4⟩:=h4
    cases c1
    ·simp[cG,g3 rfl t _ hb,undef]
    ·simp[cG,g2 rfl t _ hb]
  unfold Region.wanted;simp only[hg,hy]
  cases cG C<;>cases b<;>cases want<;>rfl
 rw[hwant];have hbase:=fU hf
 have hne:∀t u,look H t=some u→d≠t:=fun t u ht e=>by
  subst e;simp only[fc,Bool.and_eq_true] at hf;rw[ht] at hf;simp at hf
 have hf2:fc d C F=true:=by simp only[fc,Bool.and_eq_true] at hf;exact hf.2
 cases hc:c0 with
 |true=>
  rw[if_pos rfl];unfold Oper.wp;rw[hrun hc a.eval (gZ.fr ha hC hc).ev,Oper.upon_value,hd];refine hK _ _ (h _ (ha.ew hbase) ⟨h1,fun _ t' u hu=> ?_,fun e=>(by rw[hc] at e;cases e),h4.put hf2⟩);rcases b8 hu with ⟨rfl,rfl⟩|⟨-,hu⟩
  ·simp[Act.put,ha.size,Nat.blt_eq.mp hn]
  ·simp only[Act.put];rw[Array.getElem?_setIfInBounds_ne (hne t' u hu)];exact h2 hc t' u hu
 |false=>
  rw[if_neg (by simp),hd];refine hK _ _ (h _ (ha.ew hbase) ⟨h1,fun e=>(by rw[hc] at e;cases e),fun _ t' u hu=> ?_,h4.put hf2⟩);rcases b8 hu with ⟨rfl,rfl⟩|⟨-,hu⟩
  ·simp[Act.put,ha.size,Nat.blt_eq.mp hn]
  ·simp only[Act.put];rw[Array.getElem?_setIfInBounds_ne (hne t' u hu)];exact h3 hc t' u hu
theorem ah.pick {x y z:Operand}{b p e:Bool}(hg:o.guard=none)(ho:o.op= .pick x y z)(hx:gg F x=some (.bool b))(hd:o.dst=some d)(hn:Nat.blt d n=true)
  (hv:(c=true→gg (H++F) (bif b then y else z)=some (.bool e))∧(c=false→gg F (bif b then y else z)=some (.bool e)))
  (h:Seq P ops Q rest n ((d, .bool e)::F) w) (_hp:p=p):ah P ops Q (o::rest) n [(c,H)] F w:=by
 intro a ha hC;refine wpList_plain hg fun K hK=> ?_;have hfr:c=true→Fr n (H++F) a:=fun hc=>gZ.fr (C:=[(c,H)]) ha hC hc;unfold Oper.wp execOp;simp only[ho,ha.ev _ _ hx]
 have hval:(if b then a.eval y else a.eval z)= .bool e:=by
  have:a.eval (bif b then y else z)= .bool e:=by
   cases hc:c with
   |true=>exact(hfr hc).ev _ _ (hv.1 hc)
   |false=>exact ha.ev _ _ (hv.2 hc)
  cases b<;>exact this
 have hrun:((do let r←asBool (.bool b);pure (Next.value (if r then a.eval y else a.eval z))):Sem Next).run P w= .ok (.value (.bool e)) w:=by
  show Result.ok (Next.value (if b then a.eval y else a.eval z)) w=_;rw[hval]
 rw[hrun,Oper.upon_value,hd];exact hK _ _ (h _ (ha.put (Nat.blt_eq.mp hn)))
theorem ah.or {x:Operand}{k:Nat}{b p:Bool}(hg:o.guard=none)(ho:o.op= .pick x (.const (.bool true)) (.tmp k))(hx:gg F x=some (.bool b))(hc:c=(true&&(b==false)))(hk:look H k=some (.bool p))(hd:o.dst=some d)(hn:Nat.blt d n=true)
  (h:Seq P ops Q rest n ((d, .bool (b||p))::F) w):ah P ops Q (o::rest) n [(c,H)] F w:=by
 subst hc;refine ah.pick (b:=b) (p:=p) hg ho hx hd hn ⟨fun hc=> ?_,fun hc=> ?_⟩ h rfl
 ·cases b
  ·show look (H++F) k=_
   have:∀A:List (Nat × Value),look A k=some (.bool p)→look (A++F) k=some (.bool p):=by
    intro A
    induction A with
    |nil=>intro h;cases h
    |cons q r ih=>
     obtain⟨i,u⟩:=q;intro h;unfold look at h;show(bif Nat.beq i k then some u else look (r++F) k)=_
     cases hb:Nat.beq i k with
     |true=>rw[hb] at h;exact h
     |false=>rw[hb] at h;exact ih h
   exact this H hk
  ·cases hc
 ·cases b
  ·cases hc
  ·rfl
theorem ah.and {x:Operand}{k:Nat}{b p:Bool}(hg:o.guard=none)(ho:o.op= .pick x (.tmp k) (.const (.bool false)))(hx:gg F x=some (.bool b))(hc:c=(true&&(b==true)))(hk:look H k=some (.bool p))(hd:o.dst=some d)(hn:Nat.blt d n=true)
  (h:Seq P ops Q rest n ((d, .bool (b&&p))::F) w):ah P ops Q (o::rest) n [(c,H)] F w:=by
 subst hc;refine ah.pick (b:=b) (p:=p) hg ho hx hd hn ⟨fun hc=> ?_,fun hc=> ?_⟩ h rfl
 ·cases b
  ·cases hc
  ·show look (H++F) k=_
   have:∀A:List (Nat × Value),look A k=some (.bool p)→look (A++F) k=some (.bool p):=by
    intro A
    induction A with
    |nil=>intro h;cases h
    |cons q r ih=>
     obtain⟨i,u⟩:=q;intro h;unfold look at h;show(bif Nat.beq i k then some u else look (r++F) k)=_
     cases hb:Nat.beq i k with
     |true=>rw[hb] at h;exact h
     |false=>rw[hb] at h;exact ih h
   exact this H hk
 ·cases b
  ·rfl
  ·cases hc
theorem ah.close {j t:Nat}{b want:Bool}{c0 c2:Bool}{H2:List (Nat × Value)}(hg:o.guard=some (j,want))(ht:(ops[j]?).bind (·.dst)=some t)(hb:look (match C with| []=>F|(_,H)::_=>H) t=some (.bool b))(hc0:c0=(cG C&&(b==want)))(hd:o.dst=some d)(hn:Nat.blt d n=true)(hf:fc d ((c0,H)::C) F=true)
  (hrun:c0=true→∀ρ:Operand→Value,(∀x u,gg (pD ((c0,H)::C) F) x=some u→ρ x=u)→(c2=true→∀k u,look H2 k=some u→ρ (.tmp k)=u)→(execOp ρ o).run P w= .ok (.value v) w') (h:ah P ops Q rest n ((c0,(d,v)::H)::C) F w') (hw:c0=false→w'=w):
  ah P ops Q (o::rest) n ((c2,H2)::(c0,H)::C) F w:=by
 intro a ha hC0;obtain⟨-,q2,-,hC⟩:=hC0;obtain⟨h1,h2,h3,h4⟩:=id hC;refine wpList_step fun K hK=> ?_
 have hwant:Region.wanted o (yielded ops a.tmps)=c0:=by
  rw[hc0]
  have hy:yielded ops a.tmps j=if cG C=true then some b else none:=by
   unfold yielded;simp only[ht,Option.bind_some]
   cases C with
   |nil=>simp[cG,ha.slot t _ hb]
   |cons x r=>
    obtain⟨c1,H1⟩:=x;obtain⟨g1,g2,g3,g4⟩:=h4
    cases c1
    ·simp[cG,g3 rfl t _ hb,undef]
    ·simp[cG,g2 rfl t _ hb]
  unfold Region.wanted;simp only[hg,hy]
  cases cG C<;>cases b<;>cases want<;>rfl
 rw[hwant];have hbase:=fU hf
 have hne:∀t u,look H t=some u→d≠t:=fun t u ht e=>by
  subst e;simp only[fc,Bool.and_eq_true] at hf;rw[ht] at hf;simp at hf
 have hf2:fc d C F=true:=by simp only[fc,Bool.and_eq_true] at hf;exact hf.2
 cases hc:c0 with
 |true=>
  rw[if_pos rfl];unfold Oper.wp;rw[hrun hc a.eval (gZ.fr ha hC hc).ev (fun hc2 k u hk=>by have:=q2 hc2 k u hk;simp[Act.eval,this]),Oper.upon_value,hd];refine hK _ _ (h _ (ha.ew hbase) ⟨h1,fun _ t' u hu=> ?_,fun e=>(by rw[hc] at e;cases e),h4.put hf2⟩);rcases b8 hu with ⟨rfl,rfl⟩|⟨-,hu⟩
  ·simp[Act.put,ha.size,Nat.blt_eq.mp hn]
  ·simp only[Act.put];rw[Array.getElem?_setIfInBounds_ne (hne t' u hu)];exact h2 hc t' u hu
 |false=>
  rw[if_neg (by simp),hd,←hw hc];refine hK _ _ (h _ (ha.ew hbase) ⟨h1,fun e=>(by rw[hc] at e;cases e),fun _ t' u hu=> ?_,h4.put hf2⟩);rcases b8 hu with ⟨rfl,rfl⟩|⟨-,hu⟩
  ·simp[Act.put,ha.size,Nat.blt_eq.mp hn]
  ·simp only[Act.put];rw[Array.getElem?_setIfInBounds_ne (hne t' u hu)];exact h3 hc t' u hu
theorem ru {P:Program}{o:Oper}{x y z:Operand}{b e:Bool}{w:World}{ρ:Operand→Value}(ho:o.op= .pick x y z)(hx:ρ x= .bool b)(hv:ρ (bif b then y else z)= .bool e):(execOp ρ o).run P w= .ok (.value (.bool e)) w:=by
 unfold execOp;simp only[ho,hx];show Result.ok (Next.value (if b then ρ y else ρ z)) w=_
 cases b<;>simpa using hv
theorem ah.zo {x:Operand}{k j t:Nat}{b p bg want:Bool}{c0 c2:Bool}{H2:List (Nat × Value)}(hg:o.guard=some (j,want))(ht:(ops[j]?).bind (·.dst)=some t)(hb:look (match C with| []=>F|(_,H)::_=>H) t=some (.bool bg))(hc0:c0=(cG C&&(bg==want)))(hd:o.dst=some d)(hn:Nat.blt d n=true)(hf:fc d ((c0,H)::C) F=true)
  (ho:o.op= .pick x (.const (.bool true)) (.tmp k)) (hx:gg (pD ((c0,H)::C) F) x=some (.bool b)) (hc2:c2=(c0&&(b==false))) (hk:look H2 k=some (.bool p)) (h:ah P ops Q rest n ((c0,(d, .bool (b||p))::H)::C) F w):ah P ops Q (o::rest) n ((c2,H2)::(c0,H)::C) F w:=by
 refine ah.close hg ht hb hc0 hd hn hf (fun hc ρ hρ h2=>ru ho (hρ _ _ hx) ?_) h (fun _=>rfl)
 cases b
 ·exact h2 (by rw[hc2,hc];rfl) k _ hk
 ·exact hρ (.const (.bool true)) _ rfl
theorem ah.mX {x:Operand}{k j t:Nat}{b p bg want:Bool}{c0 c2:Bool}{H2:List (Nat × Value)}(hg:o.guard=some (j,want))(ht:(ops[j]?).bind (·.dst)=some t)(hb:look (match C with| []=>F|(_,H)::_=>H) t=some (.bool bg))(hc0:c0=(cG C&&(bg==want)))(hd:o.dst=some d)(hn:Nat.blt d n=true)(hf:fc d ((c0,H)::C) F=true)
  (ho:o.op= .pick x (.tmp k) (.const (.bool false))) (hx:gg (pD ((c0,H)::C) F) x=some (.bool b)) (hc2:c2=(c0&&(b==true))) (hk:look H2 k=some (.bool p)) (h:ah P ops Q rest n ((c0,(d, .bool (b&&p))::H)::C) F w):ah P ops Q (o::rest) n ((c2,H2)::(c0,H)::C) F w:=by
 refine ah.close hg ht hb hc0 hd hn hf (fun hc ρ hρ h2=>ru ho (hρ _ _ hx) ?_) h (fun _=>rfl)
 cases b
 ·exact hρ (.const (.bool false)) _ rfl
 ·exact h2 (by rw[hc2,hc];rfl) k _ hk
end
end Go.Proofs.YtigoimhndlnhfaaGreat
namespace Go.Proofs.YtigoimhndlnhfaaGreat
open Go.RowKit
variable [Inhabited (List Deferred)]
theorem aK.ne {w:World}{g g':Nat}{T T':TypeId}{cs cs':Array Value}(h:aK w g T cs)(h':aK w g' T' cs')(hT:T≠T'):g≠g':=by
 rintro rfl;unfold aK at h h';rw[h] at h';injection h' with h'
 injection h' with h1 h2
 exact hT h2
section
variable {P:Program} {E:Operand→Option Value} {F:List (Nat × Value)} {o:Oper} {w:World} {T d n:Nat} {x y:Operand} {ops:Array Oper} {Q:Exit→Act→World→Prop} {rest:List Oper}
def th (B m:Nat)(T:TypeId)(cs:Array Value)(v:Value)(w:World):Prop:=∃g,v= .slice (some ⟨g,0,none⟩) m m∧aK w g T cs∧B≤g
theorem th.dz {B m:Nat}{T:TypeId}{cs:Array Value}:∀v w w',Grow w w'→th B m T cs v w→th B m T cs v w':=fun _ _ _ hG ⟨g,e,h,hB⟩=>⟨g,e,h.step hG,hB⟩
end
section
variable {P:Program} {ops:Array Oper} {Q:Exit→Act→World→Prop} {rest:List Oper} {o:Oper} {n d:Nat} {F:List (Nat × Value)} {C:zm} {w w':World} {v:Value} {c:Bool} {H:List (Nat × Value)}
theorem ah.C2 {f:FuncId}{args:Array Value}{j t:Nat}{b want:Bool}(hg:o.guard=some (j,want))(ht:(ops[j]?).bind (·.dst)=some t)(hb:look (match C with| []=>F|(_,H)::_=>H) t=some (.bool b))(hd:o.dst=some d)(hn:Nat.blt d n=true)(hf:fc d C F=true)(hdt:Nat.beq d t=false)
  (hrun:(cG C&&(b==want))=true→Enters P (gg (pD C F)) o w f args) (hcall:(cG C&&(b==want))=true→Calls P f args w fun e w'=>e= .returned v∧Grow w w') (h:∀w',Grow w w'→ah P ops Q rest n ((cG C&&(b==want),[(d,v)])::C) F w'):ah P ops Q (o::rest) n C F w:=by
 intro a ha hC;refine wpList_step fun K hK=> ?_
 have hwant:Region.wanted o (yielded ops a.tmps)=(cG C&&(b==want)):=by
  have hy:yielded ops a.tmps j=if cG C=true then some b else none:=by
   unfold yielded;simp only[ht,Option.bind_some]
   cases C with
   |nil=>simp[cG,ha.slot t _ hb]
   |cons x r=>
    obtain⟨c1,H1⟩:=x;obtain⟨h1,h2,h3,h4⟩:=hC
    cases c1
    ·simp[cG,h3 rfl t _ hb,undef]
    ·simp[cG,h2 rfl t _ hb]
  unfold Region.wanted;simp only[hg,hy]
  cases cG C<;>cases b<;>cases want<;>rfl
 rw[hwant];have hbase:=fU hf
 cases hc:(cG C&&(b==want)) with
 |true=>
  rw[if_pos rfl];have htop:cG C=true:=by simp only[Bool.and_eq_true] at hc;exact hc.1
  unfold Oper.wp;rw[hrun hc a.eval (hC.fr ha htop).ev,Oper.upon_enter,hd];refine(hcall hc).mono fun e w' ⟨he',hgr⟩=> ?_;subst he';refine hK _ _ (h _ hgr _ (ha.ew hbase) ⟨fun _=>htop,fun _ t' u hu=> ?_,fun e=>(by rw[hc] at e;cases e),hC.put hf⟩);rcases b8 hu with ⟨rfl,rfl⟩|⟨-,hu⟩
  ·simp[Act.put,ha.size,Nat.blt_eq.mp hn]
  ·cases hu
 |false=>
  rw[if_neg (by simp),hd];refine hK _ _ (h _ (Grow.refl _) _ (ha.ew hbase) ⟨fun e=>(by rw[hc] at e;cases e),fun e=>(by rw[hc] at e;cases e),fun _ t' u hu=> ?_,hC.put hf⟩);rcases b8 hu with ⟨rfl,rfl⟩|⟨-,hu⟩
  ·simp[Act.put,ha.size,Nat.blt_eq.mp hn]
  ·cases hu
theorem ah.bY {f:FuncId}{args:Array Value}{j t:Nat}{b want:Bool}{c0:Bool}(hg:o.guard=some (j,want))(ht:(ops[j]?).bind (·.dst)=some t)(hb:look (match C with| []=>F|(_,H)::_=>H) t=some (.bool b))(hc0:c0=(cG C&&(b==want)))(hd:o.dst=some d)(hn:Nat.blt d n=true)(hf:fc d ((c0,H)::C) F=true)
  (hrun:c0=true→Enters P (gg (pD ((c0,H)::C) F)) o w f args) (hcall:c0=true→Calls P f args w fun e w'=>e= .returned v∧Grow w w') (h:∀w',Grow w w'→ah P ops Q rest n ((c0,(d,v)::H)::C) F w'):ah P ops Q (o::rest) n ((c0,H)::C) F w:=by
 intro a ha hC;obtain⟨h1,h2,h3,h4⟩:=id hC;refine wpList_step fun K hK=> ?_
 have hwant:Region.wanted o (yielded ops a.tmps)=c0:=by
  rw[hc0]
  have hy:yielded ops a.tmps j=if cG C=true then some b else none:=by
   unfold yielded;simp only[ht,Option.bind_some]
   cases C with
   |nil=>simp[cG,ha.slot t _ hb]
   |cons x r=>
    obtain⟨c1,H1⟩:=x;obtain⟨g1,g2,g3,g4⟩:=h4
    cases c1
    ·simp[cG,g3 rfl t _ hb,undef]
    ·simp[cG,g2 rfl t _ hb]
  unfold Region.wanted;simp only[hg,hy]
  cases cG C<;>cases b<;>cases want<;>rfl
 rw[hwant];have hbase:=fU hf
 have hne:∀t u,look H t=some u→d≠t:=fun t u ht e=>by
  subst e;simp only[fc,Bool.and_eq_true] at hf;rw[ht] at hf;simp at hf
 have hf2:fc d C F=true:=by simp only[fc,Bool.and_eq_true] at hf;exact hf.2
 cases hc:c0 with
 |true=>
  rw[if_pos rfl];unfold Oper.wp;rw[hrun hc a.eval (gZ.fr ha hC hc).ev,Oper.upon_enter,hd];refine(hcall hc).mono fun e w' ⟨he',hgr⟩=> ?_;subst he';refine hK _ _ (h _ hgr _ (ha.ew hbase) ⟨h1,fun _ t' u hu=> ?_,fun e=>(by rw[hc] at e;cases e),h4.put hf2⟩);rcases b8 hu with ⟨rfl,rfl⟩|⟨-,hu⟩
  ·simp[Act.put,ha.size,Nat.blt_eq.mp hn]
  ·simp only[Act.put];rw[Array.getElem?_setIfInBounds_ne (hne t' u hu)];exact h2 hc t' u hu
 |false=>
  rw[if_neg (by simp),hd];refine hK _ _ (h _ (Grow.refl _) _ (ha.ew hbase) ⟨h1,fun e=>(by rw[hc] at e;cases e),fun _ t' u hu=> ?_,h4.put hf2⟩);rcases b8 hu with ⟨rfl,rfl⟩|⟨-,hu⟩
  ·simp[Act.put,ha.size,Nat.blt_eq.mp hn]
  ·simp only[Act.put];rw[Array.getElem?_setIfInBounds_ne (hne t' u hu)];exact h3 hc t' u hu
end
end Go.Proofs.YtigoimhndlnhfaaGreat
namespace Go.Proofs.YtigoimhndlnhfaaGreat
open Go.RowKit
theorem Zs {P:Program}{w:World}{f:FuncId}{fn:Func}{c:Code}{args:List Value}{R:Ending→World→Prop}(n:Nat)(hf:P.funcs[f]? =some fn)(h:Cd P c (bodyPost P fn R) n (kc 0 args) w)(hb:fn.body=some c:=by exact rfl)(hn:fn.ntmps=n:=by exact rfl)(hle:Nat.ble args.length n=true:=by exact rfl):Calls P f args.toArray w R:=Calls.start n hf hb hn hle h
section
variable [Inhabited (List Deferred)]
variable {P:Program} {ops:Array Oper} {Q:Exit→Act→World→Prop} {rest:List Oper} {o:Oper} {n d:Nat} {F F':List (Nat × Value)} {w w':World} {v:Value} {x y:Operand} {T:TypeId}
theorem Zv (hrun:aa P (gg F) o w v w')(h:Seq P ops Q rest n ((d,v)::F) w')(hg:o.guard=none:=by exact rfl)(hd:o.dst=some d:=by exact rfl)(hn:Nat.blt d n=true:=by exact rfl):Seq P ops Q (o::rest) n F w:=Seq.val hrun hg hd hn h
theorem Zm (h:Seq P ops Q rest n ((d,v)::F) w)(ho:o.op= .move x:=by exact rfl)(hx:gg F x=some v:=by exact rfl)(hg:o.guard=none:=by exact rfl)(hd:o.dst=some d:=by exact rfl)(hn:Nat.blt d n=true:=by exact rfl):Seq P ops Q (o::rest) n F w:=Seq.val (aa.move ho hx) hg hd hn h
theorem Za (h:Seq P ops Q rest n ((d,v)::F) w)(ho:o.op= .assign x:=by exact rfl)(hx:gg F x=some v:=by exact rfl)(hg:o.guard=none:=by exact rfl)(hd:o.dst=some d:=by exact rfl)(hn:Nat.blt d n=true:=by exact rfl):Seq P ops Q (o::rest) n F w:=Seq.val (aa.assign ho hx) hg hd hn h
theorem Zf {i t g:Nat}(k:Nat){fields:Array Field}(hT:P.underlying T=some (.struct fields))(h:Seq P ops Q rest n ((d, .pointer (some ⟨g,k,none⟩))::F) w)(ho:o.op= .fieldAddr T x i:=by exact rfl)(hx:gg F x=some (.pointer (some ⟨g,0,none⟩)):=by exact rfl)(hf:ue fields i=some (t,k):=by exact rfl)(hs:mQ P t=true:=by kernel_rfl)(hg:o.guard=none:=by exact rfl)(hd:o.dst=some d:=by exact rfl)(hn:Nat.blt d n=true:=by exact rfl):Seq P ops Q (o::rest) n F w:=Seq.val (aa.an k ho hx hT hf hs) hg hd hn h
theorem Zo {g off:Nat}(m:Nat){t:TypeId}{cs cur:Array Value}(hb:aK w g t cur)(h:∀w',lD w w' g t (cur.toList.take off++(cs.toList++cur.toList.drop (off+cs.size))).toArray→Seq P ops Q rest n F w')(ho:o.op= .store T x y:=by exact rfl)(hx:gg F x=some (.pointer (some ⟨g,off,none⟩)):=by exact rfl)(hy:gg F y=some v:=by exact rfl)(hcs:v.cells=cs:=by exact rfl)(hs:dO P T m=true:=by kernel_rfl)(hm:cs.size=m:=by exact rfl)(h1:aY cs.toList:=by repeat' first|exact trivial|apply And.intro|rfl|assumption)(hfit:off+cs.size≤cur.size:=by simp[Value.cells])
  (hg:o.guard=none:=by exact rfl) (hd:o.dst=none:=by exact rfl):Seq P ops Q (o::rest) n F w:=Seq.jM ho hx hy hcs hs hm h1 hb hfit hg hd h
theorem Zq {g i:Nat}{t:TypeId}{cs:Array Value}{u:Value}(hb:aK w g t cs)(h:∀w',lD w w' g t (cs.setIfInBounds i v)→Seq P ops Q rest n F w')(ho:o.op= .store T x y:=by exact rfl)(hx:gg F x=some (.pointer (some ⟨g,i,none⟩)):=by exact rfl)(hy:gg F y=some v:=by exact rfl)(hs:dO P T 1=true:=by kernel_rfl)(h1:v.cells= #[v]:=by exact rfl) (ho1:v.oneCell'=true:=by exact rfl) (hc:cs[i]? =some u:=by exact rfl)
  (hg:o.guard=none:=by exact rfl) (hd:o.dst=none:=by exact rfl):Seq P ops Q (o::rest) n F w:=Seq.kA ho hx hy hs h1 ho1 hb hc hg hd h
theorem Zl {z:Value}(hz:cf P T=some (some z))(h:∀g w',A8 w w' g T z.cells→Seq P ops Q rest n ((d, .pointer (some ⟨g,0,none⟩))::F) w')(ho:o.op= .alloc T:=by exact rfl)(hg:o.guard=none:=by exact rfl)(hd:o.dst=some d:=by exact rfl)(hn:Nat.blt d n=true:=by exact rfl):Seq P ops Q (o::rest) n F w:=Seq.alloc ho (pE hz) hg hd hn h
theorem Zc {f:FuncId}{args:Array Value}{R:Ending→World→Prop}(he:Enters P (gg F) o w f args)(hc:Calls P f args w R)(h:∀e w',R e w'→∃v,e= .returned v∧Seq P ops Q rest n ((d,v)::F) w')(hg:o.guard=none:=by exact rfl)(hd:o.dst=some d:=by exact rfl)(hn:Nat.blt d n=true:=by exact rfl):Seq P ops Q (o::rest) n F w:=Seq.call he hg hd hn hc h
theorem Ze {f:FuncId}{fn:Func}{c:Code}{E:Operand→Option Value}{args:Array Operand}{ts:Array TypeId}{vs:List Value}(hf:P.funcs[f]? =some fn)(ho:o.op= .call {callee:= .value (.func f),args:=args,argTypes:=ts}:=by exact rfl)(h2:E (.func f)=some (.func (.func f) #[] #[]):=by exact rfl) (hx:iG E args.toList=some vs:=by exact rfl) (hname:(fn.name== "runtime.NumGoroutine")=false:=by kernel_rfl) (hb:fn.body=some c:=by exact rfl):Enters P E o w f vs.toArray:=Enters.func ho h2 hx (bG hf hname hb)
theorem cH {p q:Int}(h:Seq P ops Q rest n ((d, .int .i64 (p+q))::F) w){T':TypeId}(ho:o.op= .binOp .add T x y T':=by exact rfl)(hx:gg F x=some (.int .i64 p):=by exact rfl)(hy:gg F y=some (.int .i64 q):=by exact rfl)(h0: -9223372036854775808≤p+q:=by omega)(h1:p+q≤9223372036854775807:=by omega)(hg:o.guard=none:=by exact rfl)(hd:o.dst=some d:=by exact rfl)(hn:Nat.blt d n=true:=by exact rfl):Seq P ops Q (o::rest) n F w:=Seq.val (aa.jH ho hx hy h0 h1) hg hd hn h
end
section
variable [Inhabited (List Deferred)]
variable {P:Program} {ops:Array Oper} {Q:Exit→Act→World→Prop} {rest:List Oper} {o:Oper} {n d:Nat} {F:List (Nat × Value)} {C:zm} {w w':World} {v:Value} {c:Bool} {H:List (Nat × Value)}
theorem bM {j t:Nat}{b want:Bool}(hrun:(cG C&&(b==want))=true→aa P (gg (pD C F)) o w v w)(h:ah P ops Q rest n ((cG C&&(b==want),[(d,v)])::C) F w)(hg:o.guard=some (j,want):=by exact rfl)(ht:(ops[j]?).bind (·.dst)=some t:=by exact rfl)(hb:look (match (generalizing:=false) C with| []=>F|(_,H)::_=>H) t=some (.bool b):=by exact rfl)(hd:o.dst=some d:=by exact rfl)(hn:Nat.blt d n=true:=by exact rfl)(hf:fc d C F=true:=by exact rfl)(hdt:Nat.beq d t=false:=by exact rfl):ah P ops Q (o::rest) n C F w:=ah.open hg ht hb hd hn hf hdt hrun h
end
section
variable [Inhabited (List Deferred)]
variable {P:Program} {ops:Array Oper} {Q:Exit→Act→World→Prop} {n:Nat} {F:List (Nat × Value)} {w:World} {e:Exit} {y:Code} {id:Nat} {l:List Oper}
theorem CW (k0:Nat){v0:Value}(h:ab Q .normal n [(k0,v0)] w)(h0:look F k0=some v0:=by exact rfl):Seq P ops Q [] n F w:=Seq.nil (ab.dV (F':=[(k0,v0)]) ⟨h0,trivial⟩ h)
theorem eh (k0 k1:Nat){v0 v1:Value}(h:ab Q .normal n [(k0,v0),(k1,v1)] w)(h0:look F k0=some v0:=by exact rfl)(h1:look F k1=some v1:=by exact rfl):Seq P ops Q [] n F w:=Seq.nil (ab.dV (F':=[(k0,v0),(k1,v1)]) ⟨h0,h1,trivial⟩ h)
theorem bD (k0 k1 k2:Nat){v0 v1 v2:Value}(h:ab Q .normal n [(k0,v0),(k1,v1),(k2,v2)] w)(h0:look F k0=some v0:=by exact rfl)(h1:look F k1=some v1:=by exact rfl)(h2:look F k2=some v2:=by exact rfl):Seq P ops Q [] n F w:=Seq.nil (ab.dV (F':=[(k0,v0),(k1,v1),(k2,v2)]) ⟨h0,h1,h2,trivial⟩ h)
theorem aV (k0 k1 k2 k3:Nat){v0 v1 v2 v3:Value}(h:ab Q .normal n [(k0,v0),(k1,v1),(k2,v2),(k3,v3)] w)(h0:look F k0=some v0:=by exact rfl)(h1:look F k1=some v1:=by exact rfl)(h2:look F k2=some v2:=by exact rfl)(h3:look F k3=some v3:=by exact rfl):Seq P ops Q [] n F w:=Seq.nil (ab.dV (F':=[(k0,v0),(k1,v1),(k2,v2),(k3,v3)]) ⟨h0,h1,h2,h3,trivial⟩ h)
theorem aU (k0 k1 k2 k3 k4:Nat){v0 v1 v2 v3 v4:Value}(h:ab Q .normal n [(k0,v0),(k1,v1),(k2,v2),(k3,v3),(k4,v4)] w)(h0:look F k0=some v0:=by exact rfl)(h1:look F k1=some v1:=by exact rfl)(h2:look F k2=some v2:=by exact rfl)(h3:look F k3=some v3:=by exact rfl)(h4:look F k4=some v4:=by exact rfl):Seq P ops Q [] n F w:=Seq.nil (ab.dV (F':=[(k0,v0),(k1,v1),(k2,v2),(k3,v3),(k4,v4)]) ⟨h0,h1,h2,h3,h4,trivial⟩ h)
theorem bj (k0 k1 k2 k3 k4 k5:Nat){v0 v1 v2 v3 v4 v5:Value}(h:ab Q .normal n [(k0,v0),(k1,v1),(k2,v2),(k3,v3),(k4,v4),(k5,v5)] w)(h0:look F k0=some v0:=by exact rfl)(h1:look F k1=some v1:=by exact rfl)(h2:look F k2=some v2:=by exact rfl)(h3:look F k3=some v3:=by exact rfl)(h4:look F k4=some v4:=by exact rfl)(h5:look F k5=some v5:=by exact rfl):Seq P ops Q [] n F w:=Seq.nil (ab.dV (F':=[(k0,v0),(k1,v1),(k2,v2),(k3,v3),(k4,v4),(k5,v5)]) ⟨h0,h1,h2,h3,h4,h5,trivial⟩ h)
theorem bb (k0 k1 k2 k3 k4 k5 k6:Nat){v0 v1 v2 v3 v4 v5 v6:Value}(h:ab Q .normal n [(k0,v0),(k1,v1),(k2,v2),(k3,v3),(k4,v4),(k5,v5),(k6,v6)] w)(h0:look F k0=some v0:=by exact rfl)(h1:look F k1=some v1:=by exact rfl)(h2:look F k2=some v2:=by exact rfl)(h3:look F k3=some v3:=by exact rfl)(h4:look F k4=some v4:=by exact rfl)(h5:look F k5=some v5:=by exact rfl)(h6:look F k6=some v6:=by exact rfl):Seq P ops Q [] n F w:=Seq.nil (ab.dV (F':=[(k0,v0),(k1,v1),(k2,v2),(k3,v3),(k4,v4),(k5,v5),(k6,v6)]) ⟨h0,h1,h2,h3,h4,h5,h6,trivial⟩ h)
theorem cI (k0 k1 k2 k3 k4 k5 k6 k7:Nat){v0 v1 v2 v3 v4 v5 v6 v7:Value}(h:ab Q .normal n [(k0,v0),(k1,v1),(k2,v2),(k3,v3),(k4,v4),(k5,v5),(k6,v6),(k7,v7)] w)(h0:look F k0=some v0:=by exact rfl)(h1:look F k1=some v1:=by exact rfl)(h2:look F k2=some v2:=by exact rfl)(h3:look F k3=some v3:=by exact rfl)(h4:look F k4=some v4:=by exact rfl)(h5:look F k5=some v5:=by exact rfl)(h6:look F k6=some v6:=by exact rfl)(h7:look F k7=some v7:=by exact rfl):Seq P ops Q [] n F w:=Seq.nil (ab.dV (F':=[(k0,v0),(k1,v1),(k2,v2),(k3,v3),(k4,v4),(k5,v5),(k6,v6),(k7,v7)]) ⟨h0,h1,h2,h3,h4,h5,h6,h7,trivial⟩ h)
theorem dG (k0 k1 k2 k3 k4 k5 k6 k7 k8:Nat){v0 v1 v2 v3 v4 v5 v6 v7 v8:Value}(h:ab Q .normal n [(k0,v0),(k1,v1),(k2,v2),(k3,v3),(k4,v4),(k5,v5),(k6,v6),(k7,v7),(k8,v8)] w)(h0:look F k0=some v0:=by exact rfl)(h1:look F k1=some v1:=by exact rfl)(h2:look F k2=some v2:=by exact rfl)(h3:look F k3=some v3:=by exact rfl)(h4:look F k4=some v4:=by exact rfl)(h5:look F k5=some v5:=by exact rfl)(h6:look F k6=some v6:=by exact rfl)(h7:look F k7=some v7:=by exact rfl)(h8:look F k8=some v8:=by exact rfl):Seq P ops Q [] n F w:=Seq.nil (ab.dV (F':=[(k0,v0),(k1,v1),(k2,v2),(k3,v3),(k4,v4),(k5,v5),(k6,v6),(k7,v7),(k8,v8)]) ⟨h0,h1,h2,h3,h4,h5,h6,h7,h8,trivial⟩ h)
theorem dg (k0 k1 k2 k3 k4 k5 k6 k7 k8 k9:Nat){v0 v1 v2 v3 v4 v5 v6 v7 v8 v9:Value}(h:ab Q .normal n [(k0,v0),(k1,v1),(k2,v2),(k3,v3),(k4,v4),(k5,v5),(k6,v6),(k7,v7),(k8,v8),(k9,v9)] w)(h0:look F k0=some v0:=by exact rfl)(h1:look F k1=some v1:=by exact rfl)(h2:look F k2=some v2:=by exact rfl)(h3:look F k3=some v3:=by exact rfl)(h4:look F k4=some v4:=by exact rfl)(h5:look F k5=some v5:=by exact rfl)(h6:look F k6=some v6:=by exact rfl)(h7:look F k7=some v7:=by exact rfl)(h8:look F k8=some v8:=by exact rfl)(h9:look F k9=some v9:=by exact rfl):Seq P ops Q [] n F w:=Seq.nil (ab.dV (F':=[(k0,v0),(k1,v1),(k2,v2),(k3,v3),(k4,v4),(k5,v5),(k6,v6),(k7,v7),(k8,v8),(k9,v9)]) ⟨h0,h1,h2,h3,h4,h5,h6,h7,h8,h9,trivial⟩ h)
theorem dr (k0 k1 k2 k3 k4 k5 k6 k7 k8 k9 k10:Nat){v0 v1 v2 v3 v4 v5 v6 v7 v8 v9 v10:Value}(h:ab Q .normal n [(k0,v0),(k1,v1),(k2,v2),(k3,v3),(k4,v4),(k5,v5),(k6,v6),(k7,v7),(k8,v8),(k9,v9),(k10,v10)] w)(h0:look F k0=some v0:=by exact rfl)(h1:look F k1=some v1:=by exact rfl)(h2:look F k2=some v2:=by exact rfl)(h3:look F k3=some v3:=by exact rfl)(h4:look F k4=some v4:=by exact rfl)(h5:look F k5=some v5:=by exact rfl)(h6:look F k6=some v6:=by exact rfl)(h7:look F k7=some v7:=by exact rfl)(h8:look F k8=some v8:=by exact rfl)(h9:look F k9=some v9:=by exact rfl)(h10:look F k10=some v10:=by exact rfl):Seq P ops Q [] n F w:=Seq.nil (ab.dV (F':=[(k0,v0),(k1,v1),(k2,v2),(k3,v3),(k4,v4),(k5,v5),(k6,v6),(k7,v7),(k8,v8),(k9,v9),(k10,v10)]) ⟨h0,h1,h2,h3,h4,h5,h6,h7,h8,h9,h10,trivial⟩ h)
theorem fG (k0 k1 k2 k3 k4 k5 k6 k7 k8 k9 k10 k11:Nat){v0 v1 v2 v3 v4 v5 v6 v7 v8 v9 v10 v11:Value}(h:ab Q .normal n [(k0,v0),(k1,v1),(k2,v2),(k3,v3),(k4,v4),(k5,v5),(k6,v6),(k7,v7),(k8,v8),(k9,v9),(k10,v10),(k11,v11)] w)(h0:look F k0=some v0:=by exact rfl)(h1:look F k1=some v1:=by exact rfl)(h2:look F k2=some v2:=by exact rfl)(h3:look F k3=some v3:=by exact rfl)(h4:look F k4=some v4:=by exact rfl)(h5:look F k5=some v5:=by exact rfl)(h6:look F k6=some v6:=by exact rfl)(h7:look F k7=some v7:=by exact rfl)(h8:look F k8=some v8:=by exact rfl)(h9:look F k9=some v9:=by exact rfl)(h10:look F k10=some v10:=by exact rfl)(h11:look F k11=some v11:=by exact rfl):Seq P ops Q [] n F w:=Seq.nil (ab.dV (F':=[(k0,v0),(k1,v1),(k2,v2),(k3,v3),(k4,v4),(k5,v5),(k6,v6),(k7,v7),(k8,v8),(k9,v9),(k10,v10),(k11,v11)]) ⟨h0,h1,h2,h3,h4,h5,h6,h7,h8,h9,h10,h11,trivial⟩ h)
theorem gF (k0 k1 k2 k3 k4 k5 k6 k7 k8 k9 k10 k11 k12:Nat){v0 v1 v2 v3 v4 v5 v6 v7 v8 v9 v10 v11 v12:Value}(h:ab Q .normal n [(k0,v0),(k1,v1),(k2,v2),(k3,v3),(k4,v4),(k5,v5),(k6,v6),(k7,v7),(k8,v8),(k9,v9),(k10,v10),(k11,v11),(k12,v12)] w)(h0:look F k0=some v0:=by exact rfl)(h1:look F k1=some v1:=by exact rfl)(h2:look F k2=some v2:=by exact rfl)(h3:look F k3=some v3:=by exact rfl)(h4:look F k4=some v4:=by exact rfl)(h5:look F k5=some v5:=by exact rfl)(h6:look F k6=some v6:=by exact rfl)(h7:look F k7=some v7:=by exact rfl)(h8:look F k8=some v8:=by exact rfl)(h9:look F k9=some v9:=by exact rfl)(h10:look F k10=some v10:=by exact rfl)(h11:look F k11=some v11:=by exact rfl)(h12:look F k12=some v12:=by exact rfl):Seq P ops Q [] n F w:=Seq.nil (ab.dV (F':=[(k0,v0),(k1,v1),(k2,v2),(k3,v3),(k4,v4),(k5,v5),(k6,v6),(k7,v7),(k8,v8),(k9,v9),(k10,v10),(k11,v11),(k12,v12)]) ⟨h0,h1,h2,h3,h4,h5,h6,h7,h8,h9,h10,h11,h12,trivial⟩ h)
theorem jk (k0 k1 k2 k3 k4 k5 k6 k7 k8 k9 k10 k11 k12 k13:Nat){v0 v1 v2 v3 v4 v5 v6 v7 v8 v9 v10 v11 v12 v13:Value}(h:ab Q .normal n [(k0,v0),(k1,v1),(k2,v2),(k3,v3),(k4,v4),(k5,v5),(k6,v6),(k7,v7),(k8,v8),(k9,v9),(k10,v10),(k11,v11),(k12,v12),(k13,v13)] w)(h0:look F k0=some v0:=by exact rfl)(h1:look F k1=some v1:=by exact rfl)(h2:look F k2=some v2:=by exact rfl)(h3:look F k3=some v3:=by exact rfl)(h4:look F k4=some v4:=by exact rfl)(h5:look F k5=some v5:=by exact rfl)(h6:look F k6=some v6:=by exact rfl)(h7:look F k7=some v7:=by exact rfl)(h8:look F k8=some v8:=by exact rfl)(h9:look F k9=some v9:=by exact rfl)(h10:look F k10=some v10:=by exact rfl)(h11:look F k11=some v11:=by exact rfl)(h12:look F k12=some v12:=by exact rfl)(h13:look F k13=some v13:=by exact rfl):Seq P ops Q [] n F w:=Seq.nil (ab.dV (F':=[(k0,v0),(k1,v1),(k2,v2),(k3,v3),(k4,v4),(k5,v5),(k6,v6),(k7,v7),(k8,v8),(k9,v9),(k10,v10),(k11,v11),(k12,v12),(k13,v13)]) ⟨h0,h1,h2,h3,h4,h5,h6,h7,h8,h9,h10,h11,h12,h13,trivial⟩ h)
theorem sd (k0 k1 k2 k3 k4 k5 k6 k7 k8 k9 k10 k11 k12 k13 k14:Nat){v0 v1 v2 v3 v4 v5 v6 v7 v8 v9 v10 v11 v12 v13 v14:Value}(h:ab Q .normal n [(k0,v0),(k1,v1),(k2,v2),(k3,v3),(k4,v4),(k5,v5),(k6,v6),(k7,v7),(k8,v8),(k9,v9),(k10,v10),(k11,v11),(k12,v12),(k13,v13),(k14,v14)] w)(h0:look F k0=some v0:=by exact rfl)(h1:look F k1=some v1:=by exact rfl)(h2:look F k2=some v2:=by exact rfl)(h3:look F k3=some v3:=by exact rfl)(h4:look F k4=some v4:=by exact rfl)(h5:look F k5=some v5:=by exact rfl)(h6:look F k6=some v6:=by exact rfl)(h7:look F k7=some v7:=by exact rfl)(h8:look F k8=some v8:=by exact rfl)(h9:look F k9=some v9:=by exact rfl)(h10:look F k10=some v10:=by exact rfl)(h11:look F k11=some v11:=by exact rfl)(h12:look F k12=some v12:=by exact rfl)(h13:look F k13=some v13:=by exact rfl)(h14:look F k14=some v14:=by exact rfl):Seq P ops Q [] n F w:=Seq.nil (ab.dV (F':=[(k0,v0),(k1,v1),(k2,v2),(k3,v3),(k4,v4),(k5,v5),(k6,v6),(k7,v7),(k8,v8),(k9,v9),(k10,v10),(k11,v11),(k12,v12),(k13,v13),(k14,v14)]) ⟨h0,h1,h2,h3,h4,h5,h6,h7,h8,h9,h10,h11,h12,h13,h14,trivial⟩ h)
theorem mN (k0 k1 k2 k3 k4 k5 k6 k7 k8 k9 k10 k11 k12 k13 k14 k15:Nat){v0 v1 v2 v3 v4 v5 v6 v7 v8 v9 v10 v11 v12 v13 v14 v15:Value}(h:ab Q .normal n [(k0,v0),(k1,v1),(k2,v2),(k3,v3),(k4,v4),(k5,v5),(k6,v6),(k7,v7),(k8,v8),(k9,v9),(k10,v10),(k11,v11),(k12,v12),(k13,v13),(k14,v14),(k15,v15)] w)(h0:look F k0=some v0:=by exact rfl)(h1:look F k1=some v1:=by exact rfl)(h2:look F k2=some v2:=by exact rfl)(h3:look F k3=some v3:=by exact rfl)(h4:look F k4=some v4:=by exact rfl)(h5:look F k5=some v5:=by exact rfl)(h6:look F k6=some v6:=by exact rfl)(h7:look F k7=some v7:=by exact rfl)(h8:look F k8=some v8:=by exact rfl)(h9:look F k9=some v9:=by exact rfl)(h10:look F k10=some v10:=by exact rfl)(h11:look F k11=some v11:=by exact rfl)(h12:look F k12=some v12:=by exact rfl)(h13:look F k13=some v13:=by exact rfl)(h14:look F k14=some v14:=by exact rfl)(h15:look F k15=some v15:=by exact rfl):Seq P ops Q [] n F w:=Seq.nil (ab.dV (F':=[(k0,v0),(k1,v1),(k2,v2),(k3,v3),(k4,v4),(k5,v5),(k6,v6),(k7,v7),(k8,v8),(k9,v9),(k10,v10),(k11,v11),(k12,v12),(k13,v13),(k14,v14),(k15,v15)]) ⟨h0,h1,h2,h3,h4,h5,h6,h7,h8,h9,h10,h11,h12,h13,h14,h15,trivial⟩ h)
theorem DU (k0 k1 k2 k3 k4 k5 k6 k7 k8 k9 k10 k11 k12 k13 k14 k15 k16:Nat){v0 v1 v2 v3 v4 v5 v6 v7 v8 v9 v10 v11 v12 v13 v14 v15 v16:Value}(h:ab Q .normal n [(k0,v0),(k1,v1),(k2,v2),(k3,v3),(k4,v4),(k5,v5),(k6,v6),(k7,v7),(k8,v8),(k9,v9),(k10,v10),(k11,v11),(k12,v12),(k13,v13),(k14,v14),(k15,v15),(k16,v16)] w)(h0:look F k0=some v0:=by exact rfl)(h1:look F k1=some v1:=by exact rfl)(h2:look F k2=some v2:=by exact rfl)(h3:look F k3=some v3:=by exact rfl)(h4:look F k4=some v4:=by exact rfl)(h5:look F k5=some v5:=by exact rfl)(h6:look F k6=some v6:=by exact rfl)(h7:look F k7=some v7:=by exact rfl)(h8:look F k8=some v8:=by exact rfl)(h9:look F k9=some v9:=by exact rfl)(h10:look F k10=some v10:=by exact rfl)(h11:look F k11=some v11:=by exact rfl)(h12:look F k12=some v12:=by exact rfl)(h13:look F k13=some v13:=by exact rfl)(h14:look F k14=some v14:=by exact rfl)(h15:look F k15=some v15:=by exact rfl)(h16:look F k16=some v16:=by exact rfl):Seq P ops Q [] n F w:=Seq.nil (ab.dV (F':=[(k0,v0),(k1,v1),(k2,v2),(k3,v3),(k4,v4),(k5,v5),(k6,v6),(k7,v7),(k8,v8),(k9,v9),(k10,v10),(k11,v11),(k12,v12),(k13,v13),(k14,v14),(k15,v15),(k16,v16)]) ⟨h0,h1,h2,h3,h4,h5,h6,h7,h8,h9,h10,h11,h12,h13,h14,h15,h16,trivial⟩ h)
theorem C4 (k0 k1 k2 k3 k4 k5 k6 k7 k8 k9 k10 k11 k12 k13 k14 k15 k16 k17:Nat){v0 v1 v2 v3 v4 v5 v6 v7 v8 v9 v10 v11 v12 v13 v14 v15 v16 v17:Value}(h:ab Q .normal n [(k0,v0),(k1,v1),(k2,v2),(k3,v3),(k4,v4),(k5,v5),(k6,v6),(k7,v7),(k8,v8),(k9,v9),(k10,v10),(k11,v11),(k12,v12),(k13,v13),(k14,v14),(k15,v15),(k16,v16),(k17,v17)] w)(h0:look F k0=some v0:=by exact rfl)(h1:look F k1=some v1:=by exact rfl)(h2:look F k2=some v2:=by exact rfl)(h3:look F k3=some v3:=by exact rfl)(h4:look F k4=some v4:=by exact rfl)(h5:look F k5=some v5:=by exact rfl)(h6:look F k6=some v6:=by exact rfl)(h7:look F k7=some v7:=by exact rfl)(h8:look F k8=some v8:=by exact rfl)(h9:look F k9=some v9:=by exact rfl)(h10:look F k10=some v10:=by exact rfl)(h11:look F k11=some v11:=by exact rfl)(h12:look F k12=some v12:=by exact rfl)(h13:look F k13=some v13:=by exact rfl)(h14:look F k14=some v14:=by exact rfl)(h15:look F k15=some v15:=by exact rfl)(h16:look F k16=some v16:=by exact rfl)(h17:look F k17=some v17:=by exact rfl):Seq P ops Q [] n F w:=Seq.nil (ab.dV (F':=[(k0,v0),(k1,v1),(k2,v2),(k3,v3),(k4,v4),(k5,v5),(k6,v6),(k7,v7),(k8,v8),(k9,v9),(k10,v10),(k11,v11),(k12,v12),(k13,v13),(k14,v14),(k15,v15),(k16,v16),(k17,v17)]) ⟨h0,h1,h2,h3,h4,h5,h6,h7,h8,h9,h10,h11,h12,h13,h14,h15,h16,h17,trivial⟩ h)
theorem Zt {y:Code}(h:Cd P y Q n F w):ab (Exit.then (y.wp P Q) Q) .normal n F w:=ab.wQ h
theorem aJ {x y:Code}(h:Cd P x (Exit.then (y.wp P Q) Q) n F w):ab (Exit.then ((Code.seq x y).wp P Q) Q) .normal n F w:=ab.wQ (Cd.seq h)
theorem Zr (h:Seq P l.toArray Q l n F w):Cd P (.region id l.toArray false) Q n F w:=Cd.region h
theorem ao {y:Code}(h:Seq P l.toArray (Exit.then (y.wp P Q) Q) l n F w):Cd P (.seq (.region id l.toArray false) y) Q n F w:=Cd.seq (Cd.region h)
theorem ei (h:Seq P l.toArray Q l n F w):ab (Exit.then ((Code.region id l.toArray false).wp P Q) Q) .normal n F w:=ab.wQ (Cd.region h)
theorem aG {y:Code}(h:Seq P l.toArray (Exit.then (y.wp P Q) Q) l n F w):ab (Exit.then ((Code.seq (.region id l.toArray false) y).wp P Q) Q) .normal n F w:=ab.wQ (Cd.seq (Cd.region h))
end
section
variable [Inhabited (List Deferred)]
variable {P:Program} {ops:Array Oper} {Q:Exit→Act→World→Prop} {n:Nat} {F0:List (Nat × Value)} {w0:World} {Γ:Env} {o:Oper} {v:Value} {r:List Oper} {B:Env→Prop} {k:Nat} {L:List Nat}
theorem Zd (hrun:∀w,Grow w0 w→aa P (kS [] F0 Γ o) o w v w)(hr:fV P ops Q n F0 Grow w0 L B (k+1) r ((k,o.dst, .eq v)::Γ))(hu:uniq Γ=true:=by exact rfl)(hg:o.guard=none:=by exact rfl)(hl:bc L k=false:=by rfl):fV P ops Q n F0 Grow w0 L B k (o::r) Γ:=Dr.val Grow.refl hu hrun hg hr hl
theorem cn {x:Operand}(hr:fV P ops Q n F0 Grow w0 L B (k+1) r ((k,o.dst, .eq v)::Γ))(ho:o.op= .move x:=by exact rfl)(hx:kS [] F0 Γ o x=some v:=by exact rfl)(hu:uniq Γ=true:=by exact rfl)(hg:o.guard=none:=by exact rfl)(hl:bc L k=false:=by rfl):fV P ops Q n F0 Grow w0 L B k (o::r) Γ:=Dr.val Grow.refl hu (fun _ _=>aa.move ho hx) hg hr hl
theorem ck {j t:Nat}{b:Bool}(hrun:∀w,Grow w0 w→aa P (kS [] F0 Γ o) o w v w)(hr:fV P ops Q n F0 Grow w0 L B (k+1) r ((k,o.dst, .eq v)::Γ))(hu:uniq Γ=true:=by exact rfl)(hg:o.guard=some (j,b):=by exact rfl)(ht:(ops[j]?).bind (·.dst)=some t:=by exact rfl)(hb:kS [] F0 Γ o (.tmp t)=some (.bool b):=by exact rfl)(hl:bc L k=false:=by rfl):fV P ops Q n F0 Grow w0 L B k (o::r) Γ:=Dr.aF Grow.refl hu hrun hg ht hb hr hl
theorem df {j t:Nat}{b b':Bool}(hr:fV P ops Q n F0 Grow w0 L B (k+1) r ((k,o.dst, .eq undef)::Γ))(hu:uniq Γ=true:=by exact rfl)(hg:o.guard=some (j,b):=by exact rfl)(ht:(ops[j]?).bind (·.dst)=some t:=by exact rfl)(hb:kS [] F0 Γ o (.tmp t)=some (.bool b'):=by exact rfl)(hne:b'= !b:=by exact rfl)(hl:bc L k=false:=by rfl):fV P ops Q n F0 Grow w0 L B k (o::r) Γ:=Dr.skip hu hg ht hb hne hr hl
end
variable [Inhabited (List Deferred)]
structure Own (w:World)(B:Nat)(e:TypeId)(size:Nat)(v:Value)(n:Nat)(xs:List Value):Prop where
 row:w.ownsRow B e size v n xs
section
variable {w w':World} {B size n:Nat} {e:TypeId} {v:Value} {xs:List Value}
theorem Own.nil (w:World)(B:Nat)(e:TypeId)(size:Nat):Own w B e size (.slice none 0 0) 0 []:=⟨World.ownsRow_nil _ _ _ _⟩
theorem Own.step (h:Own w B e size v n xs)(hb:Below w.heap.size w w'):Own w' B e size v n xs:=⟨yf h.row hb⟩
theorem Own.put {g B':Nat}{T:TypeId}{cur cs:Array Value}(h:Own w B e size v n xs)(k:aK w g T cur)(p:lD w w' g T cs)(_e:B'≤g)(hne:e≠T:=by decide):Own w' B e size v n xs:=⟨h.row.kept p.grown (vn h.row k hne)⟩
theorem Own.reads (h:Own w B e size v n xs):∃A c,v= .slice A n c∧Reads w w.heap.size size A n xs:=zf h.row
theorem Reads.av {g:Nat}{T:TypeId}{cs:Array Value}(k:aK w g T cs)(m:Nat)(hm:cs.size=m*size):Reads w w.heap.size size (some ⟨g,0,none⟩) m cs.toList:=by
 refine⟨by simpa using hm,fun _=>⟨_,rfl,k.lt,fun j u hu=> ?_⟩⟩;have hplain:(⟨g,0,none⟩:Addr).add j=⟨g,j,none⟩:=by unfold Addr.add;split<;>simp_all
 rw[hplain,cell_of_row _ _ _ _ _ _ k]
 simpa using hu
structure App (w w':World)(B:Nat)(v:Value):Prop where
 below:Below B w w'
 grown:w.grownBy w' v.ownBlock
end
section
variable {P:Program} {ops:Array Oper} {Q:Exit→Act→World→Prop} {rest:List Oper} {o:Oper} {n d:Nat} {F:List (Nat × Value)} {w:World} {v:Value} {x y:Operand}
theorem Seq.append {t e B B2 size b k m c:Nat}{A:Option Addr}{z:Value}{xs news:List Value}(ho:o.op= .call {callee:= .builtin .append,args:= #[x,y],argTypes:= #[t,t]}) (hx:gg F x=some v) (hy:gg F y=some (.slice A m c)) (ht:P.underlying t=some (.slice e)) (hs:dO P e size=true) (hz:cf P e=some (some z)) (hzs:z.cells.size=size) (hsz:0<size) (hby:(P.info? e).map (·.bytes)=some b)
  (hown:Own w B e size v k xs) (hr:Reads w B2 size A m news) (h1:∀u∈news,u.oneCell'=true) (hB:B≤w.heap.size) (h63:k+m≤maxLen) (hbytes:(k+m)*b≤140737488355328) (hg:o.guard=none) (hd:o.dst=some d) (hn:Nat.blt d n=true)
  (h:∀v' w',Own w' B e size v' (k+m) (xs++news)→App w w' B v→Seq P ops Q rest n ((d,v')::F) w'):Seq P ops Q (o::rest) n F w:=by
 obtain⟨i,hi,hisz⟩:=bL hs;have hz':i.zero=some z:=by unfold cf at hz;rw[hi] at hz;injection hz
 have hb':i.bytes=b:=by rw[hi] at hby;injection hby
 obtain⟨v',w',hrun,h2,h3,_⟩:=kI (P:=P) w B t o.type e i z size b ht hi hz' hisz hb' hzs hsz v k xs hown.row B2 A m c news hr h1 h63 hbytes hB;refine Seq.val (v:=v') (w':=w') (fun ρ hρ=> ?_) hg hd hn (h v' w' ⟨h2⟩ ⟨?_,h3⟩)
 ·unfold execOp
  simp only[ho,resolve,invoke,builtin,Sem.run_bind,Sem.run_pure,Result.andThen_ok,List.map_toArray,List.map_cons,List.map_nil,hρ _ _ hx,hρ _ _ hy,hrun]
 ·refine⟨h3.os,h3.tape,h3.output,h3.size,fun j hj=>h3.block j (by omega) fun e'=> ?_⟩
  rcases hown.row.2 with ⟨rfl,_⟩|⟨g,cap,cur,rfl,hBg,_⟩
  ·cases e'
  ·injection e' with e'
   have:j=g:=e';omega
end
def Bt (l:List Nat):List Value:=l.map fun(d:Nat)=>Value.int .u8 (d:Int)
def strOf (l:List Nat):ByteArray:=⟨(l.map UInt8.ofNat).toArray⟩
theorem kX (l:List Nat):(Bt l).length=l.length:=by simp[Bt]
theorem mV (l:List Nat)(k:Nat):(Bt l)[k]? =l[k]?.map fun(d:Nat)=>Value.int .u8 (d:Int):=by simp[Bt]
theorem jf (a b:List Nat):Bt (a++b)=Bt a++Bt b:=by simp[Bt]
section
variable {P:Program} {E:Operand→Option Value} {o:Oper} {w:World} {x:Operand}
theorem aa.lR {T T' e B n c:Nat}{A:Option Addr}{l:List Nat}(ho:o.op= .convert T T' x)(hx:E x=some (.slice A n c))(hT:P.underlying T=some (.slice e))(he:P.underlying e=some (.int .u8))(hd:P.underlying T'=some .string)(hr:Reads w B 1 A n (Bt l))(hl:∀d∈l,d<256):
  aa P E o w (.string (strOf l)) w:=fun ρ h=>by
 have hlen:l.length=n:=by have:=hr.1;rw[kX] at this;omega
 unfold execOp;simp only[ho];rw[h _ _ hx]
 suffices hh:(convert T T' (.slice A n c)).run P w= .ok (.string (strOf l)) w by simp only[Sem.run_bind,hh,Result.andThen_ok];rfl
 rcases Nat.eq_zero_or_pos n with h0|h0
 ·subst h0
  obtain rfl:l=[]:=List.eq_nil_of_length_eq_zero hlen;rcases A with _|ad
  ·rw[run_convert_bytes_nil w T e hT he 0 c T' hd];rfl
  ·exact run_convert_bytes_back w T T' e ad c [] hT he hd (fun j hj=>absurd hj (by simp))
 ·obtain⟨ad,rfl,_,hc⟩:=hr.2 h0
  have:=run_convert_bytes_back w T T' e ad c (l.map UInt8.ofNat) hT he hd (fun j hj=>by
   rw[List.length_map] at hj;have h1:=hc j (.int .u8 ((l[j]:Nat):Int)) (by rw[mV,List.getElem?_eq_getElem hj];rfl);rw[h1];have h2:=hl l[j] (List.getElem_mem hj);rw[List.getElem_map,UInt8.toNat_ofNat',Nat.mod_eq_of_lt h2])
  rw[List.length_map,hlen] at this;exact this
end
end Go.Proofs.YtigoimhndlnhfaaGreat
namespace Go.Proofs.YtigoimhndlnhfaaGreat
open Go.RowKit
theorem cd (l:List Nat):(strOf l).size=l.length:=by simp[strOf,ByteArray.size]
theorem dM (l:List Nat):(strOf l).data.toList=l.map UInt8.ofNat:=by simp[strOf]
theorem nx {a b:ByteArray}(h:a.data.toList=b.data.toList):a=b:=by
 cases a;cases b;congr 1;exact Array.ext' h
theorem rC {l:List Nat}{j c:Nat}(h:l[j]? =some c):(strOf l)[j]? =some (UInt8.ofNat c):=by
 have hj:j<l.length:=(List.getElem?_eq_some_iff.1 h).1;have hs:j<(strOf l).size:=by rw[cd];exact hj
 rw[getElem?_pos (strOf l) j hs];congr 1;have e:l[j]=c:=(List.getElem?_eq_some_iff.1 h).2;show(strOf l).data[j]'hs=_;simp[strOf,e]
theorem rX (a b:List Nat):strOf a++strOf b=strOf (a++b):=by
 apply nx;rw[ByteArray.toList_data_append,dM,dM,dM,List.map_append]
theorem iS (l:List Nat)(a b:Nat):(strOf l).extract a b=strOf ((l.take b).drop a):=by
 apply nx;rw[dM,ByteArray.data_extract,Array.toList_extract,dM,List.map_drop,List.map_take];simp[List.extract_eq_take_drop,List.drop_take]
theorem ofNat_inj {a b:Nat}(ha:a<256)(hb:b<256)(h:UInt8.ofNat a=UInt8.ofNat b):a=b:=by
 have:=congrArg UInt8.toNat h
 simpa[Nat.mod_eq_of_lt ha,Nat.mod_eq_of_lt hb] using this
theorem lE:∀ {a b:List Nat},(∀x∈a,x<256)→(∀x∈b,x<256)→a.map UInt8.ofNat=b.map UInt8.ofNat→a=b
 | [],[],_,_,_=>rfl
 | [],_::_,_,_,h=>by simp at h
 |_::_,[],_,_,h=>by simp at h
 |x::a,y::b,ha,hb,h=>by
  rw[List.map_cons,List.map_cons] at h;injection h with h1 h2
  rw[ofNat_inj (ha x (by simp)) (hb y (by simp)) h1,lE (fun z hz=>ha z (by simp[hz])) (fun z hz=>hb z (by simp[hz])) h2]
theorem tK (s:ByteArray):∀n i r,s.size-i=n→ByteArray.toList.loop s i r=r.reverse++s.data.toList.drop i:=by
 intro n
 induction n with
 |zero=>
  intro i r h;unfold ByteArray.toList.loop
  rw[if_neg (by omega),List.drop_of_length_le (by have:s.data.toList.length=s.size:=Array.length_toList
                                                  omega),List.append_nil]
 |succ n ih=>
  intro i r h;unfold ByteArray.toList.loop;have hi:i<s.size:=by omega
  have hl:i<s.data.toList.length:=by rw[Array.length_toList];exact hi
  rw[if_pos hi,ih _ _ (by omega),List.drop_eq_getElem_cons hl]
  have:s.get! i=s.data.toList[i]:=by
   cases s with
   |mk d=>simp[ByteArray.get!,ByteArray.size] at hi⊢;simp[getElem!_pos,hi]
  rw[this];simp
theorem toList_data (s:ByteArray):s.toList=s.data.toList:=by
 unfold ByteArray.toList;rw[tK s _ 0 [] rfl];simp
theorem gX {a b:List Nat}(ha:∀x∈a,x<256)(hb:∀x∈b,x<256):((strOf a).toList==(strOf b).toList)=decide (a=b):=by
 rw[toList_data,toList_data,dM,dM,Bool.eq_iff_iff];simp
 constructor
 ·exact lE ha hb
 ·intro h;rw[h]
def bytesOf (s:ByteArray):List Nat:=s.data.toList.map UInt8.toNat
theorem jR (s:ByteArray):∀x∈bytesOf s,x<256:=by
 intro x hx;obtain⟨c,_,rfl⟩:=List.mem_map.1 hx;exact c.toNat_lt
theorem lC (s:ByteArray):strOf (bytesOf s)=s:=by
 apply nx;rw[dM];unfold bytesOf;rw[List.map_map]
 conv=>rhs;rw[←List.map_id s.data.toList]
 apply List.map_congr_left;intro c _;simp
theorem ofNat_toNat {c:Nat}(h:c<256):(UInt8.ofNat c).toNat=c:=by simp[Nat.mod_eq_of_lt h]
def idx (l:List Nat)(c:Nat):Nat:=l.findIdx (· ==c)
theorem lJ (c:Nat)(hc:c<256):∀l:List Nat,(∀x∈l,x<256)→Lib.indexByte (l.map UInt8.ofNat) (UInt8.ofNat c)=if c∈l then(idx l c:Int) else -1
 | [],_=>by simp[Lib.indexByte]
 |x::l,h=>by
  have ih:=lJ c hc l fun z hz=>h z (by simp[hz]);rw[List.map_cons,Lib.indexByte,ih]
  by_cases hx:x=c
  ·subst hx
   simp[idx,List.findIdx_cons]
  ·have hne:(UInt8.ofNat x==UInt8.ofNat c)=false:=by
    rw[beq_eq_false_iff_ne];intro e;exact hx (ofNat_inj (h x (by simp)) hc e)
   have hcons:idx (x::l) c=idx l c+1:=by
    have hxc:(x==c)=false:=beq_eq_false_iff_ne.2 hx;unfold idx;rw[List.findIdx_cons,hxc];rfl
   rw[hne,hcons]
   by_cases hm:c∈l
   ·have e:((idx l c:Int)== -1)=false:=by rw[beq_eq_false_iff_ne];omega
    rw[if_pos hm,if_pos (List.mem_cons_of_mem _ hm),e];rfl
   ·have hno:¬c∈x::l:=fun h=>by
     rcases List.mem_cons.1 h with h|h
     ·exact hx h.symm
     ·exact hm h
    rw[if_neg hno,if_neg hm];rfl
theorem nw (l:List Nat)(c:Nat)(h:c∈l):idx l c<l.length∧c∉l.take (idx l c)∧l=l.take (idx l c)++c::l.drop (idx l c+1):=by
 have h1:idx l c<l.length:=List.findIdx_lt_length.2 ⟨c,h,by simp⟩
 have h2:l[idx l c]=c:=by
  have:=List.findIdx_getElem (p:=(· ==c)) (xs:=l) (w:=h1);exact eq_of_beq this
 refine⟨h1,?_,?_⟩
 ·intro hm
  obtain⟨j,hj,he⟩:=List.getElem_of_mem hm;rw[List.length_take] at hj;have:=List.not_of_lt_findIdx (p:=(· ==c)) (xs:=l) (i:=j) (show j<idx l c by omega);rw[List.getElem_take] at he;simp[he] at this
 ·conv=>lhs;rw[←List.take_append_drop (idx l c) l]
  rw[List.drop_eq_getElem_cons h1,h2]
section
variable {P:Program} {ops:Array Oper} {Q:Exit→Act→World→Prop} {rest:List Oper} {E:Operand→Option Value} {o:Oper} {n d:Nat} {F:List (Nat × Value)} {w w':World} {v:Value} {x y z:Operand} {T T':TypeId}
variable [Inhabited (List Deferred)]
theorem aa.cQ {k:IntKind}{p:Int}{l:List Nat}{j c:Nat}(ho:o.op= .index T x y)(hx:E x=some (.string (strOf l)))(hy:E y=some (.int k p))(hT:P.underlying T=some .string)(hp:p=(j:Int))(hl:l[j]? =some c)(hc:c<256):aa P E o w (.int .u8 (c:Int)) w:=
 (aa.DA ho hx hy hT hp (rC hl)).cast (by rw[ofNat_toNat hc])
theorem aa.sliceFrom {k:IntKind}{p:Int}{l:List Nat}{j:Nat}(ho:o.op= .slice T x (some y) none none)(hx:E x=some (.string (strOf l)))(hy:E y=some (.int k p))(hT:P.underlying T=some .string)(hp:p=(j:Int))(hj:j≤l.length):aa P E o w (.string (strOf (l.drop j))) w:=fun ρ h=>by
 subst hp;have:=run_slice_string_l (P:=P) w T (strOf l) hT k (j:Int) (by omega) (by rw[cd];omega);rw[Int.toNat_natCast,iS,cd,List.take_length] at this;unfold execOp;simp only[ho,Option.map_some,Option.map_none];rw[h _ _ hx,h _ _ hy];simp only[Sem.run_bind,run_sliceAt_string (h:=hT),this,Result.andThen_ok];rfl
theorem aa.sliceTo {k:IntKind}{p:Int}{l:List Nat}{j:Nat}(ho:o.op= .slice T x none (some y) none)(hx:E x=some (.string (strOf l)))(hy:E y=some (.int k p))(hT:P.underlying T=some .string)(hp:p=(j:Int))(hj:j≤l.length):aa P E o w (.string (strOf (l.take j))) w:=fun ρ h=>by
 subst hp;have:=run_slice_string_h (P:=P) w T (strOf l) hT k (j:Int) (by omega) (by rw[cd];omega);rw[Int.toNat_natCast,iS,List.drop_zero] at this;unfold execOp;simp only[ho,Option.map_some,Option.map_none];rw[h _ _ hx,h _ _ hy];simp only[Sem.run_bind,run_sliceAt_string (h:=hT),this,Result.andThen_ok];rfl
theorem aa.kJ {k k':IntKind}{p q:Int}{l:List Nat}{i j:Nat}(ho:o.op= .slice T x (some y) (some z) none)(hx:E x=some (.string (strOf l)))(hy:E y=some (.int k p))(hz:E z=some (.int k' q))(hT:P.underlying T=some .string)(hp:p=(i:Int))(hq:q=(j:Int))(hi:i≤j)(hj:j≤l.length):aa P E o w (.string (strOf ((l.take j).drop i))) w:=fun ρ h=>by
 subst hp hq;have:=run_slice_string (P:=P) w T (strOf l) k k' (i:Int) (j:Int) hT (by omega) (by omega) (by rw[cd];omega);rw[Int.toNat_natCast,Int.toNat_natCast,iS] at this;unfold execOp;simp only[ho,Option.map_some,Option.map_none];rw[h _ _ hx,h _ _ hy,h _ _ hz];simp only[Sem.run_bind,run_sliceAt_string (h:=hT),this,Result.andThen_ok];rfl
theorem aa.dv {a b:List Nat}(ho:o.op= .binOp .add T x y T')(hx:E x=some (.string (strOf a)))(hy:E y=some (.string (strOf b)))(hs:a.length+b.length≤9223372036854775807):aa P E o w (.string (strOf (a++b))) w:=
 (aa.EG ho hx hy (by rw[cd,cd];exact hs)).cast (by rw[rX])
theorem aa.cF {a b:List Nat}(ho:o.op= .binOp .eql T x y T')(hx:E x=some (.string (strOf a)))(hy:E y=some (.string (strOf b)))(ha:∀x∈a,x<256)(hb:∀x∈b,x<256):aa P E o w (.bool (decide (a=b))) w:=
 (aa.Ej ho hx hy).cast (by rw[gX ha hb])
theorem aa.fH {a b:List Nat}(ho:o.op= .binOp .neq T x y T')(hx:E x=some (.string (strOf a)))(hy:E y=some (.string (strOf b)))(ha:∀x∈a,x<256)(hb:∀x∈b,x<256):aa P E o w (.bool (decide (a≠b))) w:=
 (aa.Eu ho hx hy).cast (by rw[gX ha hb];by_cases h:a=b<;>simp[h])
theorem aa.dh {t:TypeId}{l:List Nat}(ho:o.op= .call {callee:= .builtin .len,args:= #[x],argTypes:= #[t]}) (hx:E x=some (.string (strOf l))) (hT:P.underlying t=some .string):aa P E o w (.int .i64 (l.length:Int)) w:=
 (aa.EB ho hx hT).cast (by rw[cd])
end
section
variable {P:Program} {ops:Array Oper} {Q:Exit→Act→World→Prop} {rest:List Oper} {E:Operand→Option Value} {o:Oper} {n d:Nat} {F:List (Nat × Value)} {w w':World} {v:Value} {x y z:Operand} {T T':TypeId}
theorem ab.lS {fn:Func}{R:Ending→World→Prop}{t u s:Nat}{v' v'':Value}{e:Exit}(hr:fn.results= #[.tmp t, .tmp u, .tmp s]) (hl:look F t=some v) (hl':look F u=some v') (hl'':look F s=some v'') (he:e= .ret∨e= .normal) (h:R (.returned (.tuple #[v,v',v''])) w):ab (bodyPost P fn R) e n F w:=
 ab.end_ (fun a ha=>by rw[results_tmp3 hr];simp[ha.slot t v hl,ha.slot u v' hl',ha.slot s v'' hl'']) he h
end
section
variable {P:Program} {ops:Array Oper} {Q:Exit→Act→World→Prop} {rest:List Oper} {E:Operand→Option Value} {o:Oper} {n d:Nat} {F:List (Nat × Value)} {w w':World} {v:Value} {x y z:Operand} {T T':TypeId}
variable [Inhabited (List Deferred)]
structure ED (w w':World)(g:Nat)(l:List Nat):Prop where
 ge:w.heap.size≤g
 lt:g<w'.heap.size
 below:Below w.heap.size w w'
 reads:Reads w' w'.heap.size 1 (some ⟨g,0,none⟩) l.length (Bt l)
theorem Seq.vL {e:TypeId}{l:List Nat}(ho:o.op= .convert T T' x)(hx:gg F x=some (.string (strOf l)))(hS:P.underlying T=some .string)(hT:P.underlying T'=some (.slice e))(he:P.underlying e=some (.int .u8))(hl:∀x∈l,x<256)
  (hg:o.guard=none) (hd:o.dst=some d) (hn:Nat.blt d n=true)
  (h:∀g c w',l.length≤c→ED w w' g l→Seq P ops Q rest n ((d, .slice (some ⟨g,0,none⟩) l.length c)::F) w'):Seq P ops Q (o::rest) n F w:=by
 have hrun:=run_bytes_of_string (P:=P) w T T' e (strOf l) hS hT he
 generalize hc:grownCap w (strOf l).size 0 e=c at hrun
 have hcl:l.length≤c:=by
  rw[←hc,←cd];unfold grownCap;exact Nat.le_add_right _ _
 rw[cd] at hrun;refine Seq.val (w':=w.drew.alloc (.cells (bytesRow (strOf l) c) e ((bytesRow (strOf l) c).size,(bytesRow (strOf l) c).size+1))) (fun ρ hρ=> ?_) hg hd hn (h w.heap.size c _ hcl ⟨Nat.le_refl _,?_,?_,?_⟩)
 ·unfold execOp
  simp only[ho];rw[hρ _ _ hx];simp only[Sem.run_bind,hrun,Result.andThen_ok];rfl
 ·show w.heap.size<(w.heap.push _).size
  rw[Array.size_push];omega
 ·exact((Below.refl w.heap.size w).drewN 1).alloc (Nat.le_refl _) _
 ·refine⟨by rw[kX];omega,fun _=>⟨_,rfl,(show w.heap.size<(w.heap.push _).size by rw[Array.size_push];omega),fun j u hu=> ?_⟩⟩
  have hplain:(⟨w.heap.size,0,none⟩:Addr).add j=⟨w.heap.size,j,none⟩:=by unfold Addr.add;split<;>simp_all
  rw[hplain,cell_of_row _ _ _ _ _ _ (show(w.heap.push _)[w.heap.size]? =some _ from Array.getElem?_push_size)];rw[mV] at hu
  cases hlj:l[j]? with
  |none=>rw[hlj] at hu;cases hu
  |some b=>
   rw[hlj] at hu;injection hu with hu
   subst hu;have hj:j<l.length:=(List.getElem?_eq_some_iff.1 hlj).1;have hj2:j<(strOf l).data.size:=by show j<(strOf l).size;rw[cd];exact hj
   rw[bytesRow_at _ _ j hj2]
   have e:(strOf l).data[j]=UInt8.ofNat b:=by
    have:=rC hlj;rw[getElem?_pos (strOf l) j (by rw[cd];exact hj)] at this;exact Option.some.inj this
   rw[e,ofNat_toNat (hl b (List.mem_of_getElem? hlj))]
end
variable [Inhabited (List Deferred)]
def j5:List Nat→Nat→Option Nat
 | [],_=>none
 |x::r,k=>bif Nat.beq x k then some 0 else(match j5 r k with|some c=>some (c+1)|none=>none)
def gE (S:Nat→Bool):List Nat→Nat
 | []=>0
 |c::r=>bif S c then gE S r+1 else 0
def fD (S:Nat→Bool)(i:Nat):Nat→Bool:=fun j=>if j=i then true else S j
def ie (ops:List Oper):List Nat→Bool
 | []=>true
 |a::r=>(match r with
  | []=>true
  |b::_=>(match ops[b]? with|some o=>bc (direct o) a|none=>false))&&ie ops r
def bY (CH:List Nat)(k c:Nat):Nat:=match j5 CH k with|some _=>c+1|none=>c
theorem yL {S:Nat→Bool}:∀ {CH:List Nat},(∀c∈CH,S c=false)→gE S CH=0
 | [],_=>rfl
 |c::r,h=>by unfold gE;rw[h c List.mem_cons_self];rfl
theorem tF {S:Nat→Bool}:∀ {CH:List Nat},(∀c∈CH,S c=true)→gE S CH=CH.length
 | [],_=>rfl
 |c::r,h=>by unfold gE;rw[h c List.mem_cons_self,cond_true,tF (fun c hc=>h c (List.mem_cons_of_mem _ hc))];rfl
section
variable {ops:List Oper} {S:Nat→Bool} {i:Nat} {o:Oper}
theorem pO (hoi:ops[i]? =some o)(hdc:∀i o,ops[i]? =some o→S i=true→∀x∈direct o,S x=true)(hd:∀x∈direct o,S x=true):∀(r:List Nat) (a c:Nat),ie ops (a::r)=true→j5 r i=some c→S a=true
 | [],a,c,_,h=>by cases h
 |b::r,a,c,hch,hp=>by
  unfold ie at hch;simp only[Bool.and_eq_true] at hch;obtain⟨h1,h2⟩:=hch
  cases hob:ops[b]? with
  |none=>rw[hob] at h1;cases h1
  |some ob=>
   rw[hob] at h1;unfold j5 at hp
   cases hb:Nat.beq b i with
   |true=>
    obtain rfl:=Nat.eq_of_beq_eq_true hb;rw[hoi] at hob;obtain rfl:o=ob:=by injection hob
    exact hd a (ar h1)
   |false=>
    rw[hb,cond_false] at hp
    cases hr:j5 r i with
    |none=>rw[hr] at hp;cases hp
    |some c'=>exact hdc b ob hob (pO hoi hdc hd r b c' h2 hr) a (ar h1)
theorem qZ (hoi:ops[i]? =some o)(hdc:∀i o,ops[i]? =some o→S i=true→∀x∈direct o,S x=true)(hd:∀x∈direct o,S x=true)(hS:S i=false):∀ {CH:List Nat},ie ops CH=true→
  (∀c,j5 CH i=some c→gE S CH=c)∧gE (fD S i) CH=bY CH i (gE S CH)
 | [],_=>⟨fun c h=>(by cases h),rfl⟩
 |a::r,hch=>by
  have hch':=hch;unfold ie at hch;simp only[Bool.and_eq_true] at hch;obtain⟨h1,h2⟩:=hch;obtain⟨ih1,ih2⟩:=qZ hoi hdc hd hS h2
  by_cases hai:a=i
  ·subst hai
   have hp:j5 (a::r) a=some 0:=by unfold j5;rw[Nat.beq_refl];rfl
   have h0:gE S (a::r)=0:=by unfold gE;rw[hS];rfl
   refine⟨fun c hc=>by rw[hp] at hc;injection hc with hc;rw[h0,hc],?_⟩;unfold bY;rw[hp,h0];unfold gE;have:fD S a a=true:=by unfold fD;simp
   rw[this,cond_true]
   have hz:gE (fD S a) r=0:=by
    cases r with
    |nil=>rfl
    |cons b r'=>
     simp only at h1
     cases hob:ops[b]? with
     |none=>rw[hob] at h1;cases h1
     |some ob=>
      rw[hob] at h1
      have hSb:S b=false:=by
       cases hSb:S b with
       |false=>rfl
       |true=>have:=hdc b ob hob hSb a (ar h1);rw[hS] at this;cases this
      have hba:b≠a:=by
       rintro rfl;rw[hoi] at hob;obtain rfl:o=ob:=by injection hob
       have:=hd b (ar h1);rw[hS] at this;cases this
      unfold gE;have:fD S a b=false:=by unfold fD;rw[if_neg hba];exact hSb
      rw[this];rfl
   rw[hz]
  ·have hb:Nat.beq a i=false:=by
    cases h:Nat.beq a i with
    |false=>rfl
    |true=>exact absurd (Nat.eq_of_beq_eq_true h) hai
   have hu:fD S i a=S a:=by unfold fD;rw[if_neg hai]
   cases hr:j5 r i with
   |none=>
    have hp:j5 (a::r) i=none:=by unfold j5;rw[hb,cond_false,hr]
    refine⟨fun c hc=>(by rw[hp] at hc;cases hc),?_⟩;unfold bY at ih2⊢;rw[hr] at ih2;rw[hp];show gE (fD S i) (a::r)=gE S (a::r);unfold gE;rw[hu,ih2]
   |some c'=>
    have hp:j5 (a::r) i=some (c'+1):=by unfold j5;rw[hb,cond_false,hr]
    have hSa:=pO hoi hdc hd r a c' hch' hr;have hc1:=ih1 c' hr
    have e1:gE S (a::r)=c'+1:=by
     show(bif S a then gE S r+1 else 0)=c'+1;rw[hSa,cond_true,hc1]
    refine⟨fun c hc=>by rw[hp] at hc;injection hc with hc;rw[e1,hc],?_⟩;unfold bY at ih2⊢;rw[hr] at ih2;rw[hp,e1];show(bif fD S i a then gE (fD S i) r+1 else 0)=_;rw[hu,hSa,cond_true,ih2,hc1]
end
section
variable (P:Program) (ops:Array Oper) (Q:Exit→Act→World→Prop) (n:Nat) (F0:List (Nat × Value)) (G:World→World→Prop) (w0:World) (CH:List Nat) (J:Nat→World→Prop)
def CV (k:Nat)(Γ:Env)(o:Oper)(f:Fact):Prop:=∀a w c,a.tmps.size=n→G w0 w→J c w→(∀c',j5 CH k=some c'→c=c')→mU Γ (· ∈direct o) a w→(∀t v,look F0 t=some v→a.tmps[t]? =some v)→
 if Region.wanted o (yielded ops a.tmps) then o.wp P a w (fun a' w'=>∃u,a'=a.put o.dst u∧G w w'∧f.holds u w'∧J (bY CH k c) w') Q else f.holds undef w∧J (bY CH k c) w
def zk (L:List Nat)(B:Env→Prop):Nat→List Oper→Env→Prop
 |_,[],Γ=>B Γ
 |k,o::r,Γ=>∃f,Fact.m0 G f∧CV P ops Q n F0 G w0 CH J k Γ o f∧(bc L k=true→CQ P ops n F0 G w0 [] (fun _=>True) Γ o f)∧zk L B (k+1) r ((k,o.dst,f)::Γ)
end
section
variable {P:Program} {ops:Array Oper} {Q:Exit→Act→World→Prop} {n:Nat} {F0:List (Nat × Value)} {G:World→World→Prop} {w0:World} {CH:List Nat} {J:Nat→World→Prop}
theorem zk.out {L:List Nat}{B:Env→Prop}:∀(l:List Oper) (k:Nat) (Γ:Env),(∀j,k≤j→Env.find Γ j=none)→zk P ops Q n F0 G w0 CH J L B k l Γ→
  ∃Γ',B Γ'∧(∀j,j<k→Env.find Γ' j=Env.find Γ j)∧(∀j,k+l.length≤j→Env.find Γ' j=none)∧
   ∀i o,l[i]? =some o→∃f Γi,Env.find Γ' (k+i)=some (o.dst,f)∧Fact.m0 G f∧CV P ops Q n F0 G w0 CH J (k+i) Γi o f∧(bc L (k+i)=true→CQ P ops n F0 G w0 [] (fun _=>True) Γi o f)∧∀j,j<k+i→Env.find Γi j=Env.find Γ' j
 | [],k,Γ,hk,h=>⟨Γ,h,fun _ _=>rfl,fun j hj=>hk j (by simpa using hj),fun i o ho=>by simp at ho⟩
 |o::r,k,Γ,hk,h=>by
  obtain⟨f,hs,hstep,hlate,hr⟩:=h
  have hne:∀j,j≠k→Env.find ((k,o.dst,f)::Γ) j=Env.find Γ j:=fun j hj=>by
   show(bif Nat.beq k j then some (o.dst,f) else Env.find Γ j)=_
   cases hb:Nat.beq k j with
   |true=>exact absurd (Nat.eq_of_beq_eq_true hb).symm hj
   |false=>rfl
  have heq:Env.find ((k,o.dst,f)::Γ) k=some (o.dst,f):=by
   show(bif Nat.beq k k then some (o.dst,f) else Env.find Γ k)=_;rw[Nat.beq_refl];rfl
  obtain⟨Γ',h1,h2,h3,h4⟩:=zk.out r (k+1) _ (fun j hj=>by rw[hne j (by omega)];exact hk j (by omega)) hr;refine⟨Γ',h1,fun j hj=>by rw[h2 j (by omega),hne j (by omega)],fun j hj=>h3 j (by simp at hj;omega),fun i o' ho=> ?_⟩
  cases i with
  |zero=>
   obtain rfl:o=o':=by simpa using ho
   exact⟨f,Γ,by rw[Nat.add_zero,h2 k (by omega),heq],hs,by rw[Nat.add_zero];exact hstep,by rw[Nat.add_zero];exact hlate,fun j hj=>by rw[h2 j (by omega),hne j (by omega)]⟩
  |succ i=>
   obtain⟨f',Γi,a1,a2,a3,al,a4⟩:=h4 i o' (by simpa using ho);exact⟨f',Γi,by rw[show k+(i+1)=k+1+i from by omega];exact a1,a2,by rw[show k+(i+1)=k+1+i from by omega];exact a3,by rw[show k+(i+1)=k+1+i from by omega];exact al,fun j hj=>a4 j (by omega)⟩
theorem AF {id:Nat}(L:List Nat){init tail:List Oper}(hLC:∀i,bc L i=true→j5 CH i=none)(hCH:ie init CH=true)(hCl:j1 init.length CH=true)(hQ:L=[]∨∀c (a:Act) d v w,Q (.panic c) (a.put d v) w→Q (.panic c) a w)(hm:P.follows .mixedOrders=true)(hops:ops=(init++tail).toArray)(hchk:nE n (jO F0) L init tail=true)(Gt:∀a b c,G a b→G b c→G a c)(Gr:∀w,G w w)
  {w:World} (hw0:w0= {w with drawn:=w.drawn+1}) (hJ0:J 0 w0) (h:zk P ops Q n F0 G w0 CH J L (ba P ops Q n F0 G w0 tail [] (fun w=>J CH.length w)) 0 init []) {a:Act} (ha:Fr n F0 a):(Code.region id ops true).wp P Q a w:=by
 refine wp_region_any hm ?_;rw[←hw0];simp only[nE,Bool.and_eq_true] at hchk;obtain⟨⟨⟨hc1,hc2⟩,hcL⟩,hcl⟩:=hchk;have hLlt:∀i,bc L i=true→i<init.length:=fun i hi=>dQ hcL i (ar hi);have c1:=eX hc1;have hsz:ops.size=init.length+tail.length:=by rw[hops];simp
 have hat:∀i,i<init.length→ops[i]? =init[i]? :=fun i hi=>by rw[hops];simp[List.getElem?_append_left hi]
 have hat2:∀r,ops[init.length+r]? =tail[r]? :=fun r=>by rw[hops];simp[List.getElem?_append_right]
 obtain⟨Γ,hfin,-,hnone,hall⟩:=zk.out init 0 [] (fun _ _=>rfl) h
 -- the tail's edges
 have t0:∀o,tail[0]? =some o→∀x∈direct o,x<init.length:=by
  intro o ho
  cases tail with
  |nil=>simp at ho
  |cons o1 r=>
   obtain rfl:o1=o:=by simpa using ho
   simp only[Bool.and_eq_true] at hc2;exact dQ hc2.1.1
 have ts:∀i o,tail[i+1]? =some o→(∀x∈direct o,x<init.length+1+i)∧init.length+1+i-1∈direct o:=by
  intro i o ho
  cases tail with
  |nil=>simp at ho
  |cons o1 r=>
   simp only[Bool.and_eq_true] at hc2;exact gU hc2.2 i o (by simpa using ho)
 have tm:∀o,tail[0]? =some o→∀j,j<init.length→bc L j=false→∃(i:Nat) (o':Oper),j<i∧i≤init.length∧ops[i]? =some o'∧j∈direct o'∧bc L i=false:=by
  intro o ho j hj hjL
  cases tail with
  |nil=>simp at ho
  |cons o1 r=>
   simp only[Bool.and_eq_true] at hc2;obtain⟨i,o',h1,h2,h3,h4⟩:=jB hc2.1.2 j hj (by rw[Nat.zero_add];exact hjL);rw[Nat.zero_add] at h3 h4;have hi:i<(init++[o1]).length:=(List.getElem?_eq_some_iff.1 h2).1;simp at hi;refine⟨i,o',h1,by omega,?_,h3,h4⟩;rcases Nat.lt_or_ge i init.length with hlt|hge
   ·rw[hat i hlt,←h2,List.getElem?_append_left hlt]
   ·obtain rfl:i=init.length:=by omega
    have:=hat2 0;rw[Nat.add_zero] at this;rw[this,←h2,List.getElem?_append_right (Nat.le_refl _)];simp
 have bothT:∀(listed:Array Bool) x,listed.size=ops.size→x<ops.size→listed.getD x true=true→listed.getD x false=true:=by
  intro listed x hl hx h;have hxl:x<listed.size:=by omega
  simp[hxl] at h⊢;exact h
 have hall2:∀(listed:Array Bool) {w:World},listed.size=ops.size→(∀i,i<init.length→listed.getD i true=true)→J (gE (fun j=>listed.getD j false) CH) w→J CH.length w:=by
  intro listed w hl h hJ;rw[tF (fun c hc=>bothT listed c hl (by have:=dQ hCl c hc;omega) (h c (dQ hCl c hc)))] at hJ;exact hJ
 -- the first part
 have key:∀(fuel:Nat) (listed:Array Bool) (a:Act) (w:World),listed.size=ops.size→(∀i o,ops[i]? =some o→listed.getD i false=true→∀x∈direct o,listed.getD x false=true)→(∀i,init.length≤i→i<ops.size→listed.getD i true=false)→
   a.tmps.size=n→a.defers=default→G w0 w→mU Γ (fun j=>listed.getD j false=true) a w→(∀t v,look F0 t=some v→a.tmps[t]? =some v)→J (gE (fun j=>listed.getD j false) CH) w→left listed ops.size≤fuel→wpAny P .any ops Q fuel listed a w:=by
  intro fuel
  induction fuel with
  |zero=>
   intro listed a w hl hdc hts hsize hdef hG hF hs hJw hf;have hall1:=lk (Nat.le_zero.1 hf)
   have hlen:init.length=ops.size:=by
    rcases Nat.lt_or_ge init.length ops.size with hh|hh
    ·have:=hall1 _ hh;rw[hts _ (Nat.le_refl _) hh] at this;cases this
    ·omega
   refine oO hops t0 ts 0 0 listed a w hl (Nat.zero_le _) (fun i hi=>hall1 i (by omega)) (fun i hi hi2=>by omega) (by omega) ?_;rw[List.drop_zero]
   have hlis:∀j d f,Env.find Γ j=some (d,f)→listed.getD j false=true:=fun j d f hj=>by
    rcases Nat.lt_or_ge j init.length with hh|hh
    ·exact bothT listed j hl (by omega) (hall1 j (by omega))
    ·rw[hnone j (by omega)] at hj;cases hj
   exact hfin a w hsize hdef hG (hall2 listed hl (fun i hi=>hall1 i (by omega)) hJw) (fun j d f hj _=>hF j d f hj (hlis j d f hj)) hs (fun t v ht=>by simp[look] at ht)
  |succ fuel ih=>
   intro listed a w hl hdc hts hsize hdef hG hF hs hJw hf
   by_cases hdone:∀i,i<init.length→listed.getD i true=true
   ·refine oO hops t0 ts (fuel+1) 0 listed a w hl (Nat.zero_le _) (fun i hi=>hdone i (by omega)) (fun i hi hi2=>hts i (by omega) hi2) ?_ ?_
    ·
     have:∀k,k≤tail.length→left listed (init.length+k)=left listed init.length+k:=by
      intro k
      induction k with
      |zero=>intro _;rfl
      |succ k ihk=>
       intro hk;show left listed (init.length+k)+(if listed.getD (init.length+k) true then 0 else 1)=_;rw[ihk (by omega),hts (init.length+k) (by omega) (by omega)];simp;omega
     have:=this tail.length (Nat.le_refl _);rw[←hsz] at this;omega
    ·rw[List.drop_zero]
     have hlis:∀j d f,Env.find Γ j=some (d,f)→listed.getD j false=true:=fun j d f hj=>by
      rcases Nat.lt_or_ge j init.length with hh|hh
      ·exact bothT listed j hl (by omega) (hdone j hh)
      ·rw[hnone j (by omega)] at hj;cases hj
     exact hfin a w hsize hdef hG (hall2 listed hl hdone hJw) (fun j d f hj _=>hF j d f hj (hlis j d f hj)) hs (fun t v ht=>by simp[look] at ht)
   ·
    have hex:∃i,i∈Region.ready .any ops listed:=by
     have hex0:∃i,i<init.length∧listed.getD i true=false:=by
      refine Classical.byContradiction fun hno=>hdone fun i hi=> ?_
      cases hb:listed.getD i true with
      |true=>rfl
      |false=>exact absurd ⟨i,hi,hb⟩ hno
     have hmin:∀m i,i≤m→i<init.length→listed.getD i true=false→∃j,j<init.length∧listed.getD j true=false∧∀x,x<j→listed.getD x true=true:=by
      intro m
      induction m with
      |zero=>intro i hi h1 h2;exact⟨i,h1,h2,fun x hx=>by omega⟩
      |succ m ihm=>
       intro i hi h1 h2
       by_cases hx:∃x,x<i∧listed.getD x true=false
       ·obtain⟨x,hx1,hx2⟩:=hx
        exact ihm x (by omega) (by omega) hx2
       ·refine⟨i,h1,h2,fun x hx1=> ?_⟩
        cases hb:listed.getD x true with
        |true=>rfl
        |false=>exact absurd ⟨x,hx1,hb⟩ hx
     obtain⟨i0,hi0,hb0⟩:=hex0;obtain⟨j,hj1,hj2,hj3⟩:=hmin i0 i0 (Nat.le_refl _) hi0 hb0;refine⟨j,cU.2 ⟨hj2,init[j],by rw[hat j hj1,List.getElem?_eq_getElem hj1],fun x hx=> ?_⟩⟩;have hlt:x<j:=by have:=(c1 j _ (List.getElem?_eq_getElem hj1)).1 x hx;omega
     exact bothT listed x hl (by omega) (hj3 x hlt)
    -- what one of the first part's operations comes to
    have go:∀i o,i<init.length→i∈Region.ready .any ops listed→ops[i]? =some o→∃f:Fact,(if Region.wanted o (yielded ops a.tmps)=true then o.wp P a w (fun a' w'=>∃u,a'=a.put o.dst u∧G w w'∧f.holds u w'∧J (gE (fun j=>(listed.setIfInBounds i true).getD j false) CH) w') Q else f.holds undef w∧J (gE (fun j=>(listed.setIfInBounds i true).getD j false) CH) w)∧
      (bc L i=true→(∃v,f= .eq v∧Yields P ops o v a)∧J (gE (fun j=>(listed.setIfInBounds i true).getD j false) CH) w)∧∀u w',G w w'→f.holds u w'→J (gE (fun j=>(listed.setIfInBounds i true).getD j false) CH) w'→wpAny P .any ops Q fuel (listed.setIfInBounds i true) (a.put o.dst u) w':=by
     intro i o hlt hi ho;obtain⟨g1,o1,ho1,g2⟩:=cU.1 hi;rw[ho] at ho1;obtain rfl:o=o1:=by injection ho1
     have hi':i<ops.size:=(Array.getElem?_eq_some_iff.1 ho).1;have hoi:init[i]? =some o:=by rw[←hat i hlt];exact ho
     obtain⟨f,Γi,f1,f2,f3,fl,f4⟩:=hall i o hoi;rw[Nat.zero_add] at f1 f3 f4 fl;obtain⟨d1,d2⟩:=c1 i o hoi;have hSi:listed.getD i false=false:=getD_both g1
     have hupd:(fun j=>(listed.setIfInBounds i true).getD j false)=fD (fun j=>listed.getD j false) i:=by
      funext j
      unfold fD
      by_cases e:i=j
      ·subst e;simp[gf false (show i<listed.size by omega)]
      ·rw[getD_set_ne false e]
       rw[if_neg (fun h=>e h.symm)]
     have hcnt:=qZ (ops:=init) (S:=fun j=>listed.getD j false) (i:=i) (o:=o) hoi (fun i2 o2 h1 h2=>hdc i2 o2 (by rw[hat i2 (List.getElem?_eq_some_iff.1 h1).1];exact h1) h2) g2 hSi hCH;have hx:=f3 a w _ hsize hG hJw hcnt.1 (fun j d f' hj hd=>hF j d f' (by rw[←f4 j (by have:=d1 j hd;omega)];exact hj) (g2 j hd)) hs;rw[←hcnt.2,←hupd] at hx
     have hslot:∀u j d f,j≠i→Env.find Γ j=some (some d,f)→(a.put o.dst u).tmps[d]? =a.tmps[d]? :=by
      intro u j d f hji hj;rcases Nat.lt_or_ge j init.length with hh|hh
      ·have hoj:init[j]? =some init[j]:=List.getElem?_eq_getElem hh
       obtain⟨fj,Γj,q1,-⟩:=hall j _ hoj;rw[Nat.zero_add,hj] at q1;injection q1 with q1
       injection q1 with q1 _
       have hdj:init[j].dst=some d:=q1.symm;have hdi:o.dst≠some d:=fun hdi=>(d2 d hdi).2.2.2 j _ hoj hji hdj
       cases hd:o.dst with
       |none=>rfl
       |some d0=>
        have:d0≠d:=fun e'=>hdi (by rw[hd,e']);simp only[Act.put];rw[Array.getElem?_setIfInBounds_ne this]
      ·rw[hnone j (by omega)] at hj;cases hj
     -- what holds behind it
     have next:∀u w',G w w'→f.holds u w'→J (gE (fun j=>(listed.setIfInBounds i true).getD j false) CH) w'→wpAny P .any ops Q fuel (listed.setIfInBounds i true) (a.put o.dst u) w':=by
      intro u w' hG' hu hmk;refine ih _ _ _ (by simp[hl]) ?_ ?_ ?_ ?_ (Gt _ _ _ hG hG') ?_ ?_ hmk ?_
      ·intro i2 o2 h1 h2 x hx2
       by_cases e:i=i2
       ·subst e
        rw[ho] at h1;obtain rfl:o=o2:=by injection h1
        exact getD_set_true (g2 x hx2)
       ·rw[getD_set_ne false e] at h2
        exact getD_set_true (hdc i2 o2 h1 h2 x hx2)
      ·intro i2 h1 h2
       rw[getD_set_ne true (by omega)];exact hts i2 h1 h2
      ·cases hd:o.dst<;>simp[Act.put,hsize]
      ·cases hd:o.dst<;>simp[Act.put,hdef]
      ·intro j d f' hj hjl
       by_cases e:i=j
       ·subst e
        rw[f1] at hj;injection hj with hj
        injection hj with e1 e2
        subst e1 e2;refine⟨u,fun t ht=> ?_,hu⟩;have:=(d2 t ht).1;rw[ht];simp[Act.put,hsize,this]
       ·rw[getD_set_ne false e] at hjl
        obtain⟨u',h1,h2⟩:=hF j d f' hj hjl;refine⟨u',fun t ht=> ?_,?_⟩
        ·rcases Nat.lt_or_ge j init.length with hh|hh
         ·have hoj:init[j]? =some init[j]:=List.getElem?_eq_getElem hh
          obtain⟨fj,Γj,q1,-⟩:=hall j _ hoj;rw[Nat.zero_add,hj] at q1;injection q1 with q1
          injection q1 with q1 _
          have hdj:init[j].dst=some t:=by rw[←q1];exact ht
          have hdi:o.dst≠some t:=fun hdi=>(d2 t hdi).2.2.2 j _ hoj (fun e'=>e e'.symm) hdj
          cases hd:o.dst with
          |none=>exact h1 t ht
          |some d0=>
           have:d0≠t:=fun e'=>hdi (by rw[hd,e']);simp only[Act.put];rw[Array.getElem?_setIfInBounds_ne this];exact h1 t ht
         ·rw[hnone j (by omega)] at hj;cases hj
        ·have hst:Fact.m0 G f':=by
          rcases Nat.lt_or_ge j init.length with hh|hh
          ·obtain⟨fj,Γj,q1,q2,-⟩:=hall j _ (List.getElem?_eq_getElem hh)
           rw[Nat.zero_add,hj] at q1;injection q1 with q1
           injection q1 with _ q1
           rw[q1];exact q2
          ·rw[hnone j (by omega)] at hj;cases hj
         cases f' with
         |eq v=>exact h2
         |sat Φ=>exact hst u' w w' hG' h2
      ·intro t v ht
       cases hd:o.dst with
       |none=>exact hs t v ht
       |some d0=>
        have:d0≠t:=fun e'=>(d2 d0 hd).2.2.1 (by rw[e'];exact gV ht);simp only[Act.put];rw[Array.getElem?_setIfInBounds_ne this];exact hs t v ht
      ·have:=mv (listed:=listed) (i:=i) (by omega) g1 ops.size
       rw[if_pos hi'] at this;omega
     refine⟨f,hx,fun hL=> ?_,next⟩;obtain⟨v,e,hy⟩:=fl hL;refine⟨⟨v,e,hy a w hsize hG trivial (fun j d f' hj hd=>hF j d f' (by rw[←f4 j (by have:=d1 j hd;omega)];exact hj) (g2 j hd)) hs (fun t v ht=>by simp[look] at ht)⟩,?_⟩;rw[hupd,hcnt.2];unfold bY;rw[hLC i hL];exact hJw
    by_cases hlate:∃i,bc L i=true∧i∈Region.ready .any ops listed
    ·obtain⟨i,hiL,hi⟩:=hlate
     obtain⟨g1,o,ho,g2⟩:=cU.1 hi;obtain⟨f,-,hl2,next⟩:=go i o (hLlt i hiL) hi ho;obtain⟨⟨v,rfl,hy⟩,hJ2⟩:=hl2 hiL
     have hcl':kW (init++tail).toArray L=true∧rp (init++tail)=true:=by
      cases L with
      |nil=>cases hiL
      |cons x r=>simpa using hcl
     rw[←hops] at hcl';have hup:listed.setIfInBounds i true=listed.setIfInBounds i true:=rfl;refine wpAny_first ho (fun j oj cs b hoj=>mb hcl'.2 j oj cs b (by rw[hops] at hoj;simpa using hoj)) (fun c a w h=>by rcases hQ with e|hQ;(rw[e] at hiL;cases hiL);exact hQ c a _ _ w h) fuel listed a w (fun j oj hoj hne hun hno=> ?_) hi hy (next v w (Gr w) rfl hJ2);refine jv hcl'.1 i o hiL ho j oj hoj (Ne.symm hne) (fun hm=> ?_) (fun hm=> ?_)
     ·obtain⟨e,he,hb,h1⟩:=jz.1 hm
      exact hno e he hb h1
     ·have:=g2 j hm
      rw[getD_both hun] at this
      cases this
    refine⟨(fun hnil=>by obtain⟨i,hi⟩:=hex;rw[hnil] at hi;cases hi),fun i hi=> ?_⟩;obtain⟨g1,o,ho,g2⟩:=cU.1 hi;have hi':i<ops.size:=(Array.getElem?_eq_some_iff.1 ho).1
    have hlt:i<init.length:=by
     rcases Nat.lt_or_ge i init.length with hh|hh
     ·exact hh
     ·exfalso
      apply hdone
      -- then all before it have come up
      have hi0:i=init.length:=by
       rcases Nat.eq_or_lt_of_le hh with e|hgt
       ·exact e.symm
       ·exfalso
        obtain⟨q,rfl⟩:∃q,i=init.length+(q+1):=⟨i-init.length-1,by omega⟩;rw[hat2] at ho;have h3:=g2 _ (ts q o ho).2;rw[getD_both (hts (init.length+1+q-1) (by omega) (by omega))] at h3
        cases h3
      subst hi0;have ho2:tail[0]? =some o:=by have:=hat2 0;rw[Nat.add_zero] at this;rw[←this,ho]
      have down:∀q j,init.length-j≤q→j<init.length→bc L j=false→listed.getD j false=true:=by
       intro q
       induction q with
       |zero=>intro j h1 h2 _;omega
       |succ q ihq=>
        intro j h1 h2 hjL;obtain⟨i2,o2,b1,b2,b3,b4,b5⟩:=tm o ho2 j h2 hjL;rcases Nat.eq_or_lt_of_le b2 with e|hlt2
        ·subst e
         rw[ho] at b3;obtain rfl:o=o2:=by injection b3
         exact g2 j b4
        ·exact hdc i2 o2 b3 (ihq i2 (by omega) hlt2 b5) j b4
      -- and of those that may come late none is left, as it could come up
      have all:∀q j,j≤q→j<init.length→listed.getD j false=true:=by
       intro q
       induction q using Nat.strongRecOn with
       |_ q ihq=>
        intro j hjq hj
        cases hjL:bc L j with
        |false=>exact down _ j (Nat.le_refl _) hj hjL
        |true=>
         cases hun:listed.getD j true with
         |true=>exact bothT listed j hl (by omega) hun
         |false=>
          exfalso;refine hlate ⟨j,hjL,cU.2 ⟨hun,init[j],by rw[hat j hj,List.getElem?_eq_getElem hj],fun x hx=> ?_⟩⟩;have hlt:x<j:=by have:=(c1 j _ (List.getElem?_eq_getElem hj)).1 x hx;omega
          exact ihq x (by omega) x (Nat.le_refl _) (by omega)
      intro j hj;exact pX (by omega) (all j j (Nat.le_refl _) hj)
    obtain⟨f,hx,-,next⟩:=go i o hlt hi ho;unfold wpOp;rw[ho];simp only
    by_cases hwant:Region.wanted o (yielded ops a.tmps)=true
    ·rw[if_pos hwant] at hx⊢
     exact .inl (Oper.wp_mono (fun a' w' ⟨u,e,h1,h2,h3⟩=>by rw[e];exact next u w' h1 h2 h3) hx)
    ·rw[if_neg hwant] at hx⊢
     exact next undef w (Gr w) hx.1 hx.2
 have hrep:∀i,(Array.replicate ops.size false).getD i false=false:=by intro i;by_cases h:i<ops.size<;>simp[h]
 refine key ops.size _ a w0 (by simp) ?_ ?_ ha.size ha.defers (Gr w0) ?_ ha.slot (by rw[yL (fun c _=>hrep c)];exact hJ0) ?_
 ·intro i o _ h0
  rw[hrep] at h0;cases h0
 ·intro i _ h2
  simp[h2]
 ·intro j d f _ h0
  simp only[hrep] at h0;cases h0
 ·have:∀k,left (Array.replicate ops.size false) k≤k:=by
   intro k
   induction k with
   |zero=>exact Nat.le_refl _
   |succ k ih=>unfold left;split<;>omega
  exact this _
end
section
variable {P:Program} {ops:Array Oper} {Q:Exit→Act→World→Prop} {n:Nat} {F0:List (Nat × Value)} {G:World→World→Prop} {w0:World} {CH:List Nat} {J:Nat→World→Prop} {L:List Nat} {B:Env→Prop} {k:Nat} {Γ:Env} {o:Oper} {r:List Oper} {v:Value} {f:Fact} {Φ:Value→World→Prop}
theorem DJ.val (hp:j5 CH k=none)(Gr:∀w,G w w)(hu:uniq Γ=true)(hrun:∀w,G w0 w→aa P (kS [] F0 Γ o) o w v w)(hg:o.guard=none)(hr:zk P ops Q n F0 G w0 CH J L B (k+1) r ((k,o.dst, .eq v)::Γ))(hl:bc L k=false:=by rfl):zk P ops Q n F0 G w0 CH J L B k (o::r) Γ:=
 ⟨.eq v,trivial,(by
  intro a w c h1 h2 h3 h4 h5 h6;rw[if_pos (by simp[Region.wanted,hg])];unfold Oper.wp;rw[hrun w h2 a.eval (fg hu h5 h6 (fun t v ht=>by cases ht)),Oper.upon_value];refine⟨v,rfl,Gr w,rfl,?_⟩;unfold bY;rw[hp];exact h3),(fun h=>by rw[hl] at h;cases h),hr⟩
theorem DJ.chain {fn:FuncId}{args:Array Value}(c:Nat)(hp:j5 CH k=some c)(hu:uniq Γ=true)(he:∀w,Enters P (kS [] F0 Γ o) o w fn args)(hg:o.guard=none)(hc:∀w,G w0 w→J c w→Calls P fn args w fun e w'=>e= .returned v∧G w w'∧J (c+1) w')
  (hr:zk P ops Q n F0 G w0 CH J L B (k+1) r ((k,o.dst, .eq v)::Γ)) (hl:bc L k=false:=by rfl):zk P ops Q n F0 G w0 CH J L B k (o::r) Γ:=
 ⟨.eq v,trivial,(by
  intro a w c2 h1 h2 h3 h4 h5 h6;rw[if_pos (by simp[Region.wanted,hg])];obtain rfl:=h4 c hp;unfold Oper.wp;rw[he w a.eval (fg hu h5 h6 (fun t v ht=>by cases ht)),Oper.upon_enter]
  exact(hc w h2 h3).mono fun e w' ⟨e1,e2,e3⟩=>by
   subst e1;refine⟨v,rfl,e2,rfl,?_⟩;unfold bY;rw[hp];exact e3),(fun h=>by rw[hl] at h;cases h),hr⟩
theorem DJ.nil (h:B Γ):zk P ops Q n F0 G w0 CH J L B k [] Γ:=h
theorem Cd.C3 (m:Nat){id:Nat}{l:List Oper}{w:World}(hm:P.follows .mixedOrders=true)(L CH:List Nat)(hLC:∀i,bc L i=true→j5 CH i=none)(hCH:ie (l.take m) CH=true)(hCl:j1 (l.take m).length CH=true)(hQ:L=[]∨∀c (a:Act) d v w,Q (.panic c) (a.put d v) w→Q (.panic c) a w)(hchk:nE n (jO F0) L (l.take m) (l.drop m)=true)(G:World→World→Prop)(Gr:∀w,G w w)(Gt:∀a b c,G a b→G b c→G a c)(J:Nat→World→Prop)
  (h:∀w0,Below w.heap.size w w0→w0.heap.size=w.heap.size→J 0 w0∧zk P l.toArray Q n F0 G w0 CH J L (ba P l.toArray Q n F0 G w0 (l.drop m) [] (fun w=>J CH.length w)) 0 (l.take m) []):Cd P (.region id l.toArray true) Q n F0 w:=fun _ ha=>
 AF L hLC hCH hCl hQ hm (by rw[List.take_append_drop]) hchk Gt Gr rfl (h {w with drawn:=w.drawn+1} ⟨rfl,rfl,rfl,Nat.le_refl _,fun _ _=>rfl⟩ rfl).1 (h {w with drawn:=w.drawn+1} ⟨rfl,rfl,rfl,Nat.le_refl _,fun _ _=>rfl⟩ rfl).2 ha
end
end Go.Proofs.YtigoimhndlnhfaaGreat
namespace Go.Proofs.YtigoimhndlnhfaaGreat
open Go.RowKit
variable [Inhabited (List Deferred)]
section
variable {P:Program} {E:Operand→Option Value} {o:Oper} {w:World} {T:TypeId}
theorem aa.AQ {ps:Array (Nat × Operand)}{m e s:Nat}{vs:List Value}{z:Value}(ho:o.op= .buildSlice T m ps)(hx:BI E ps.toList=some (nY 0 vs))(hm:vs.length=m)(hT:P.underlying T=some (.slice e))(hs:dO P e s=true)(hz:cf P e=some (some z))(hs0:0<s)(hsm:m*s≤16777216)(hvs:tW s vs):
  aa P E o w (.slice (some ⟨w.heap.size,0,none⟩) m m) (w.alloc (.cells (aP vs).toArray e)):=by
 obtain⟨i,hi,hsz⟩:=bL hs;have hz':i.zero=some z:=by unfold cf at hz;rw[hi] at hz;injection hz
 subst hm;rcases Nat.eq_zero_or_pos vs.length with h0|h0
 ·have:vs=[]:=List.eq_nil_of_length_eq_zero h0
  subst this;refine aa.buildSlice ho hx ?_;simp[Instr.buildSlice,run_underlying hT,sizeOf,typeInfo,hi,nY,Instr.fill,newRow,aP];have:Array.map (fun(_:Nat)=>(default:Value)) (Array.range 0)= #[]:=Array.eq_empty_of_size_eq_zero (by simp);rw[this]
 ·refine aa.buildSlice ho hx (run_buildSlice w T e vs.length _ _ i z hT hi hz' (by rw[hsz];omega) (by rw[hsz];exact Nat.ne_of_gt (Nat.mul_pos h0 hs0)) ?_)
  rw[hsz,rB,←tO];exact Great.fill_whole hs0 vs _ (lU hvs) (by simp)
end
theorem Dr.slice {P:Program}{ops:Array Oper}{Q:Exit→Act→World→Prop}{n:Nat}{F0:List (Nat × Value)}{w0:World}{Γ:Env}{o:Oper}{r:List Oper}{B:Env→Prop}{L:List Nat}{k T:Nat}{ps:Array (Nat × Operand)}{m e s:Nat}{vs:List Value}{z:Value}(hu:uniq Γ=true)(ho:o.op= .buildSlice T m ps)(hx:BI (kS [] F0 Γ o) ps.toList=some (nY 0 vs))(hm:vs.length=m)(hT:P.underlying T=some (.slice e))(hs:dO P e s=true)(hz:cf P e=some (some z))(hs0:0<s)(hsm:m*s≤16777216)(hvs:tW s vs)(hg:o.guard=none)
  (hr:fV P ops Q n F0 Grow w0 L B (k+1) r ((k,o.dst, .sat (th w0.heap.size m e (aP vs).toArray))::Γ)) (hl:bc L k=false:=by rfl):fV P ops Q n F0 Grow w0 L B k (o::r) Γ:=
 Dr.make hu th.dz hg (fun w hG=>⟨_,_,aa.AQ ho hx hm hT hs hz hs0 hsm hvs,(kR w _ _).below,_,rfl,(kR w _ _).av,hG.size⟩) hr hl
end Go.Proofs.YtigoimhndlnhfaaGreat
namespace Go.Proofs.YtigoimhndlnhfaaGreat
open Go.RowKit
section
variable {P:Program} {ops:Array Oper} {Q:Exit→Act→World→Prop} {rest:List Oper} {o:Oper} {n:Nat} {F:List (Nat × Value)} {w:World}
def jy (g:FuncId)(args:List Value):Deferred:= {target:= .fn (.func g) #[],args:=args.toArray}
theorem Seq.Dd {g:FuncId}{args:Array Operand}{ts:Array TypeId}{vs:List Value}(ho:o.op= .defer {callee:= .value (.func g),args:=args,argTypes:=ts})(hx:iG (gg F) args.toList=some vs)(hg:o.guard=none)(hd:o.dst=none)
  (h:∀I:Inhabited (List Deferred),I.default=[jy g vs]→ @Seq I P ops Q rest n F w):Seq P ops Q (o::rest) n F w:=by
 intro a ha;refine wpList_plain hg fun K hK=> ?_
 have hargs:args.map a.eval=vs.toArray:=by
  apply Array.ext';rw[Array.toList_map,ir ha.ev hx]
 have hr:(execOp a.eval o).run P w= .ok (.defer (jy g vs)) w:=by
  unfold execOp;have hf:a.eval (.func g)= .func (.func g) #[] #[]:=rfl;simp only[ho,resolve,hf,Deferred.ofValue,hargs,Sem.run_bind,Sem.run_pure,Result.andThen_ok];simp[jy]
 unfold Oper.wp;rw[hr,Oper.upon_defer,hd];have hD:jy g vs::a.defers=[jy g vs]:=by rw[ha.defers];rfl
 exact hK _ _ (h ⟨[jy g vs]⟩ rfl _ (@Fr.mk ⟨[jy g vs]⟩ n F _ ha.size hD ha.slot))
theorem Calls.BA {f:FuncId}{fn:Func}{c:Code}{args:List Value}{R:Ending→World→Prop}(n:Nat)(hf:P.funcs[f]? =some fn)(hb:fn.body=some c)(hn:fn.ntmps=n)(hle:Nat.ble args.length n=true)
  (h:Cd P c (bodyPostD P fn R) n (kc 0 args) w):Calls P f args.toArray w R:=by
 have hle':=Nat.le_of_ble_eq_true hle;refine calls_of_wp_defers hf hb (h _ ⟨?_,rfl,fun t v ht=> ?_⟩)
 ·show(args.toArray++Array.replicate (fn.ntmps-args.toArray.size) undef).size=n
  simp;omega
 ·obtain⟨j,rfl,hj⟩:=kC args 0 t v ht
  have hlt:j<args.length:=(List.getElem?_eq_some_iff.1 hj).1;show(args.toArray++Array.replicate (fn.ntmps-args.toArray.size) undef)[0+j]? =some v;rw[Nat.zero_add,Array.getElem?_append_left (by simpa using hlt)]
  simpa using hj
theorem CallsD.start {f:FuncId}{fn:Func}{c:Code}{args:List Value}{u:FrameMode}{R:Ending→World→Prop}(n:Nat)(hf:P.funcs[f]? =some fn)(hb:fn.body=some c)(hn:fn.ntmps=n)(hle:Nat.ble args.length n=true)
  (h:Cd P c (bodyPost P fn R) n (kc 0 args) w):CallsD P f args.toArray u w fun e u' w'=>u'=u∧R e w':=by
 have hle':=Nat.le_of_ble_eq_true hle;refine callsD_of_wp hf hb (h _ ⟨?_,rfl,fun t v ht=> ?_⟩)
 ·show(args.toArray++Array.replicate (fn.ntmps-args.toArray.size) undef).size=n
  simp;omega
 ·obtain⟨j,rfl,hj⟩:=kC args 0 t v ht
  have hlt:j<args.length:=(List.getElem?_eq_some_iff.1 hj).1;show(args.toArray++Array.replicate (fn.ntmps-args.toArray.size) undef)[0+j]? =some v;rw[Nat.zero_add,Array.getElem?_append_left (by simpa using hlt)]
  simpa using hj
theorem ab.DT {fn:Func}{R:Ending→World→Prop}{e:Exit}(hr:fn.results= #[]) (he:e= .ret∨e= .normal) (h:R (.returned (.tuple #[])) w):ab (bodyPostD P fn R) e n F w:=by
 intro a ha;have hv:=results_none hr a.tmps P w;have hd:a.defers=[]:=ha.defers;rcases he with rfl|rfl
 ·show Leaves P fn a.tmps R a.defers .returning w
  rw[hd];exact⟨_,hv,h⟩
 ·show Leaves P fn a.tmps R a.defers .returning w
  rw[hd];exact⟨_,hv,h⟩
theorem ab.DW {fn:Func}{R:Ending→World→Prop}{R1:Ending→World→Prop}{e:Exit}{g:FuncId}{vs:List Value}{I:Inhabited (List Deferred)}(hI:I.default=[jy g vs])(hr:fn.results= #[]) (he:e= .ret∨e= .normal) (hen:∀args w,(callFunc g args).run P w= .ok (.enter g args) w)
  (hc:CallsD P g vs.toArray .returning w fun e u' w'=>u'= .returning∧R1 e w') (hR:∀e w',R1 e w'→(∃v,e= .returned v)∧R (.returned (.tuple #[])) w'): @ab I (bodyPostD P fn R) e n F w:=by
 intro a ha;have hd:a.defers=[jy g vs]:=ha.defers.trans hI
 have hL:Leaves P fn a.tmps R a.defers .returning w:=by
  rw[hd];refine leaves_cons (by simp) (f:=g) (args:=vs.toArray) (by simp[invoke,hen]) (hc.mono fun e u' w' ⟨hu,h1⟩=> ?_);obtain⟨⟨v,rfl⟩,h2⟩:=hR e w' h1;subst hu;exact⟨_,results_none hr a.tmps P w',h2⟩
 rcases he with rfl|rfl
 ·exact hL
 ·exact hL
end
theorem bh:cf Tryz.prog 5=some (some (.int .u8 0)):=by kernel_rfl
theorem gy:cf Tryz.prog 3=some (some (.int .i64 0)):=by kernel_rfl
def j9 (u d:Nat):Nat→List Nat
 |0=>[]
 |k+1=>j9 u d k++(if k=d∧0<d then [46] else [])++[48+u/10^k%10]
theorem oC (u d:Nat):∀k,k≤(j9 u d k).length∧(j9 u d k).length≤2*k
 |0=>by simp[j9]
 |k+1=>by
  have ih:=oC u d k;unfold j9;split<;>simp<;>omega
theorem sf (u d:Nat):∀k,∀x∈j9 u d k,x<256
 |0=>by simp[j9]
 |k+1=>by
  have ih:=sf u d k;unfold j9;intro x hx;simp only[List.mem_append,List.mem_singleton] at hx;rcases hx with (hx|hx)|hx
  ·exact ih x hx
  ·split at hx
   ·simp at hx;omega
   ·simp at hx
  ·omega
def fY (u d N:Nat):Prop:=(∀k,k<N→0<u/10^k∨k≤d)∧¬(0<u/10^N∨N≤d)
def printed (n:Int)(d N:Nat):List Nat:=(j9 n.natAbs d N++if n<0 then [45] else []).reverse
theorem xr (u k:Nat):u/10^k/10=u/10^(k+1):=by rw[Nat.div_div_eq_div_mul,Nat.pow_succ]
end Go.Proofs.YtigoimhndlnhfaaGreat