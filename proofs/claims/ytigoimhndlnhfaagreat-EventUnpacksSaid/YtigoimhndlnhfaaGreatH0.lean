/-
  Texts that were joined: Words, KA, KB, KC, KD, KE, KF, KG, KZ, KH, KI, KJ, KL, KM, Zero, TPrB, TAmt. Conditions: what each theorem names.
-/
import Derived.WalkKit
import Derived.WalkSpells
import Derived.WalkLawsBesides
import Derived.Maps.AppendAt
import Derived.Deep.AppendLies
import Derived.Deep.Draws
import Derived.RegionTactic
import Derived.OwnWalk
import Derived.Laws.OwnMore
import Derived.Laws.Rows
import Derived.Lib.Hide
import Derived.Deep.QuietTactic
import Derived.BigQuiet
import Derived.StillTailTactics
import Derived.Orders
import Derived.Great.BuildSlice
import Derived.Laws.MakeOwn
import Derived.Lib.Bytealg
import Derived.Laws.IdiomStrings
import Derived.Defers
import Derived.Test.YtigoimhndlnhfaaGreatRows
set_option linter.unusedSectionVars false
namespace Go.RowKit
theorem Below.drewN {B:Nat}{a w:World}(h:Below B a w)(n:Nat):Below B a (w.drewN n):=⟨h.os,h.tape,h.output,h.size,h.block⟩
end Go.RowKit
namespace Go.Proofs.YtigoimhndlnhfaaGreat
open Go.RowKit
theorem ai (a:Addr)(n:Nat):(a.add n).block=a.block:=by unfold Addr.add;split<;>rfl
theorem dY (a:Addr)(i j:Nat):(a.add i).add j=a.add (i+j):=by
 unfold Addr.add
 by_cases hi:i=0<;>by_cases hj:j=0<;>simp[hi,hj,Nat.add_assoc]
def Reads (w:World)(B size:Nat)(A:Option Addr)(n:Nat)(xs:List Value):Prop:=
 xs.length=n*size∧(0<n→∃ad,A=some ad∧ad.block<B∧∀j u,xs[j]? =some u→w.cell? (ad.add j)=some u)
section
variable {w w':World} {B B' size n:Nat} {A:Option Addr} {xs:List Value}
theorem Reads.bL (h:Reads w B size A n xs)(hk:∀p:Addr,p.block<B→w'.cell? p=w.cell? p):Reads w' B size A n xs:=
 ⟨h.1,fun hn=>by
  obtain⟨ad,e,hb,hc⟩:=h.2 hn;exact⟨ad,e,hb,fun j u hu=>(hk _ (by rw[ai];exact hb)).trans (hc j u hu)⟩⟩
theorem Reads.below (h:Reads w B size A n xs)(hb:Below B w w'):Reads w' B size A n xs:=h.bL fun _ hp=>hb.cell hp
theorem Reads.ya {base:Nat}{e:TypeId}{c:Nat}(h:w.ownsRow base e size (.slice A n c) n xs):Reads w w.heap.size size A n xs:=by
 refine⟨h.1,fun hn=> ?_⟩;obtain⟨g,cap,hv,_,hlt⟩:=h.form hn;have hA:A=some ⟨g,0,none⟩:=by injection hv
 subst hA;exact⟨_,rfl,hlt,h.cells (g:=g) rfl⟩
end
def aE (w:World)(g:Nat)(t:TypeId)(cs:Array Value):Prop:=w.heap[g]? =some (.cells cs t (0,0))
section
variable {w w':World} {g:Nat} {t:TypeId} {cs:Array Value}
theorem aE.lt (h:aE w g t cs):g<w.heap.size:=by
 rcases Nat.lt_or_ge g w.heap.size with hlt|hge
 ·exact hlt
 ·unfold aE at h;rw[Array.getElem?_eq_none hge] at h;cases h
theorem aE.cell (h:aE w g t cs)(i:Nat):w.cell? ⟨g,i,none⟩=cs[i]? :=cell_of_row w g i cs t (0,0) h
theorem aE.frozen (h:aE w g t cs)(i:Nat):w.frozen? ⟨g,i,none⟩=false:=by
 unfold aE at h;simp[World.frozen?,h]
theorem aE.new (w:World)(t:TypeId)(cs:Array Value):aE (w.alloc (.cells cs t)) w.heap.size t cs:=heap_alloc_new w _
theorem aE.BQ (h:aE w g t cs)(i:Nat)(u:Value):aE (w.setCell ⟨g,i,none⟩ u) g t (cs.setIfInBounds i u):=by
 unfold aE at h⊢;simp[World.setCell,Array.getElem?_modify,h]
theorem aE.below {B:Nat}(h:aE w g t cs)(hb:Below B w w')(hg:g<B):aE w' g t cs:=(hb.block g hg).trans h
theorem aE.grown {row:Option Nat}(h:aE w g t cs)(hb:w.grownBy w' row)(hg:some g≠row):aE w' g t cs:=(hb.block g h.lt hg).trans h
theorem aE.Cf {g':Nat}{t':TypeId}{cs':Array Value}(h:aE w g t cs)(h':aE w g' t' cs')(hne:t≠t'):g≠g':=by
 rintro rfl;unfold aE at h h';rw[h] at h';injection h' with h'
 injection h' with _ ht
 exact hne ht
theorem cA {base:Nat}{e:TypeId}{size n:Nat}{v:Value}{xs:List Value}(h:w.ownsRow base e size v n xs)(hg:aE w g t cs)(hne:e≠t):v.ownBlock≠some g:=by
 rcases h.2 with ⟨rfl,_⟩|⟨g',cap,cur,rfl,_,hh,_⟩
 ·simp[Value.ownBlock]
 ·intro he
  have:g'=g:=by simpa[Value.ownBlock] using he
  subst this;exact aE.Cf (t:=e) hh hg hne rfl
end
section
variable {P:Program} (w:World)
theorem kD (base:Nat)(t ty e:TypeId)(i:TypeInfo)(size:Nat)(ht:P.underlying t=some (.slice e))(hi:P.info? e=some i)
  (v:Value) (n:Nat) (xs:List Value) (hown:w.ownsRow base e size v n xs) (c:Nat):(Builtin.append_ #[t,t] ty #[v, .slice none 0 c]).run P w= .ok v w:=by
 rcases hown.2 with ⟨rfl,rfl⟩|⟨g,cap,cur,rfl,_,_,hnc,_⟩
 ·simp[Builtin.append_,run_underlying ht,sizeOf,typeInfo,hi,Builtin.lenOf,Builtin.firstCells]
 ·simp[Builtin.append_,run_underlying ht,sizeOf,typeInfo,hi,Builtin.lenOf,Builtin.firstCells,hnc,storeCells]
theorem iY (base:Nat)(t ty e:TypeId)(i:TypeInfo)(z:Value)(size bytes:Nat)(ht:P.underlying t=some (.slice e))(hi:P.info? e=some i)(hz:i.zero=some z)
  (hsize:i.size=size) (hby:i.bytes=bytes) (hzs:z.cells.size=size) (hsz:0<size)
  (v:Value) (n:Nat) (xs:List Value) (hown:w.ownsRow base e size v n xs)
  (B:Nat) (A:Option Addr) (m c:Nat) (news:List Value) (hr:Reads w B size A m news) (h1:∀u∈news,u.oneCell'=true)
  (h63:n+m≤maxLen) (hbytes:(n+m)*bytes≤140737488355328) (hbase:base≤w.heap.size):
  ∃v' w',(Builtin.append_ #[t,t] ty #[v, .slice A m c]).run P w= .ok v' w'∧w'.ownsRow base e size v' (n+m) (xs++news)∧w.grownBy w' v.ownBlock∧
   (v'.ownBlock=v.ownBlock∨v'.ownBlock=some w.heap.size):=by
 rcases A with _|ad
 ·have hm:m=0:=by
   rcases Nat.eq_zero_or_pos m with h0|h0
   ·exact h0
   ·obtain⟨ad,h,_⟩:=hr.2 h0
    cases h
  subst hm;have hn:news=[]:=List.eq_nil_of_length_eq_zero (by simpa using hr.1);subst hn;exact⟨v,w,kD w base t ty e i size ht hi v n xs hown c,by simpa using hown,World.grownBy.refl w _, .inl rfl⟩
 ·have hcells:∀j u,news[j]? =some u→w.cell? (ad.add j)=some u:=by
   intro j u hu;rcases Nat.eq_zero_or_pos m with h0|h0
   ·subst h0
    have hn:news=[]:=List.eq_nil_of_length_eq_zero (by simpa using hr.1);subst hn;simp at hu
   ·obtain⟨ad',h,_,hc⟩:=hr.2 h0
    injection h with h
    subst h;exact hc j u hu
  obtain⟨v',w',hrun,h2,h3,_,h5⟩:=run_append_own_at (P:=P) w base t ty e i z size bytes ht hi hz hsize hby hzs hsz v n xs hown ad m c news hr.1 hcells h1 h63 hbytes hbase;exact⟨v',w',hrun,h2,h3,h5⟩
end
theorem int_eq {k:IntKind}{a b:Int}(h:a=b):Value.int k a= .int k b:=by rw[h]
theorem aB {a b:Bool}(h:a=b):Value.bool a= .bool b:=by rw[h]
theorem aO {x x':Value}(h:x=x'):Ending.returned x= .returned x':=by rw[h]
theorem uu {x x' y y':Value}(h:x=x')(h2:y=y'):Ending.returned (.tuple #[x,y])= .returned (.tuple #[x',y']):=by rw[h,h2]
theorem wrap_u64 (a:Int):IntKind.u64.wrap a=a%18446744073709551616:=by rw[IntKind.wrap_u64]
theorem qW (a:Int)(h0:0≤a)(h1:a<18446744073709551616):IntKind.u64.wrap a=a:=by rw[wrap_u64];omega
section
variable {P:Program}
theorem oh (w:World)(g:Nat)(cs:Array Value):w.grownBy (w.setRow g cs) (some g):=
 ⟨rfl,rfl,rfl,by simp,fun k _ hne=>setRow_other w g k cs (fun e=>hne (by rw[e]))⟩
theorem run_loadCells_list (W:World)(a:Addr)(cs:List Value):∀(n i:Nat) (acc:Array Value),i+n=cs.length→(∀j v,cs[j]? =some v→W.cell? (a.add j)=some v)→
  (loadCellsFrom a i n acc).run P W= .ok (acc++(cs.drop i).toArray) W:=by
 intro n
 induction n with
 |zero=>intro i acc hi _;simp[loadCellsFrom,List.drop_of_length_le (show cs.length≤i by omega)]
 |succ n ih=>
  intro i acc hi h;have hlt:i<cs.length:=by omega
  have hc:=h i cs[i] (List.getElem?_eq_getElem hlt);have hd:cs.drop i=cs[i]::cs.drop (i+1):=List.drop_eq_getElem_cons hlt;simp only[loadCellsFrom];rw[hd];simp[go_sem,hc,ih (i+1) _ (by omega) h]
theorem kj (W:World)(ty:TypeId)(d:TypeDesc)(i:TypeInfo)(a:Addr)(cs:List Value)(hu:P.underlying ty=some d)(hd:(match d with| .struct _| .array _ _=>true|_=>false)=true)
  (hi:P.info? ty=some i) (hs:i.size=cs.length) (h:∀j v,cs[j]? =some v→W.cell? (a.add j)=some v):(loadVar ty a).run P W= .ok (.agg cs.toArray) W:=by
 have e:=run_loadCells_list (P:=P) W a cs cs.length 0 #[] (by simp) h
 cases d<;>first|(simp at hd;done)|(simp[loadVar,loadCells,isAgg,run_underlying hu,sizeOf,typeInfo,hi,hs,e])
theorem wpList_store_row {ops:Array Oper}{rest:List Oper}{o:Oper}{a:Act}{W:World}{Q:Exit→Act→World→Prop}(hgd:o.guard=none)(ty:TypeId)(x y:Operand)(ho:o.op= .store ty x y)(hdst:o.dst=none)
  (g off:Nat) (hx:a.eval x= .pointer (some ⟨g,off,none⟩)) (cs:Array Value) (hy:(a.eval y).cells=cs) (i:TypeInfo) (hi:P.info? ty=some i) (hs:i.size=cs.size) (h1:∀u∈cs.toList,u.oneCell'=true)
  (t:TypeId) (cur:Array Value) (hg:W.heap[g]? =some (.cells cur t (0,0))) (hfit:off+cs.size≤cur.size)
  (h:∀w',w'.heap[g]? =some (.cells (cur.toList.take off++(cs.toList++cur.toList.drop (off+cs.size))).toArray t (0,0))→W.grownBy w' (some g)→w'.heap.size=W.heap.size→wpList P ops Q rest a w'):
  wpList P ops Q (o::rest) a W:=
 wpList_plain hgd fun _ hK=>by
  unfold Oper.wp execOp;have hst:=run_storeCells_at P g off t cs.toList 0 cur W hg (by simpa using hfit) h1;simp only[Nat.add_zero,Array.length_toList] at hst;simp[ho,hdst,hx,hy,Instr.storeAt,Instr.sureAddr,storeVar,sizeOf,typeInfo,hi,hs,hst,Oper.upon,Act.put];exact hK _ _ (h _ (setRow_heap W g cur _ t (0,0) hg) (oh W g _) (by simp))
end
section
variable {P:Program}
end
theorem mV {a w w1:World}{row:Option Nat}(h:a.grownBy w row)(hb:Below w.heap.size w w1):a.grownBy w1 row:=
 ⟨hb.os.trans h.os,hb.tape.trans h.tape,hb.output.trans h.output,Nat.le_trans h.size hb.size,fun i hi hne=>(hb.block i (Nat.lt_of_lt_of_le hi h.size)).trans (h.block i hi hne)⟩
theorem mJ {a w w1:World}{row:Option Nat}(h:a.grownBy w row)(k:w.grownBy w1 row):a.grownBy w1 row:=
 ⟨k.os.trans h.os,k.tape.trans h.tape,k.output.trans h.output,Nat.le_trans h.size k.size,fun i hi hne=>(k.block i (Nat.lt_of_lt_of_le hi h.size) hne).trans (h.block i hi hne)⟩
theorem gh {a w:World}{g B:Nat}(h:a.grownBy w (some g))(hB:B≤g)(hg:g<a.heap.size):Below B a w:=
 ⟨h.os,h.tape,h.output,h.size,fun k hk=>h.block k (by omega) (fun e=>by injection e with e;omega)⟩
theorem jK {a w:World}(h:Below a.heap.size a w)(row:Option Nat):a.grownBy w row:=⟨h.os,h.tape,h.output,h.size,fun i hi _=>h.block i hi⟩
theorem vL {w w':World}{base:Nat}{e:TypeId}{size n:Nat}{v:Value}{xs:List Value}(h:w.ownsRow base e size v n xs)(hb:Below w.heap.size w w'):w'.ownsRow base e size v n xs:=
 h.kept (jK hb none) (by cases hv:v.ownBlock<;>simp)
theorem vz {w:World}{base:Nat}{e:TypeId}{size n:Nat}{v:Value}{xs:List Value}(h:w.ownsRow base e size v n xs):∃A c,v= .slice A n c∧Reads w w.heap.size size A n xs:=by
 rcases h.2 with ⟨rfl,rfl⟩|⟨g,cap,cur,rfl,_⟩
 ·exact⟨none,0,rfl,Reads.ya h⟩
 ·exact⟨_,cap,rfl,Reads.ya h⟩
theorem mO {w:World}{base:Nat}{e:TypeId}{size n:Nat}{v:Value}{xs:List Value}{g:Nat}{t:TypeId}{cs:Array Value}(h:w.ownsRow base e size v n xs)(hg:w.heap[g]? =some (.cells cs t (0,0)))(hne:e≠t):
  v.ownBlock=none∨v.ownBlock≠some g:= .inr (cA h hg hne)
section
variable [Inhabited (List Deferred)]
def look:List (Nat × Value)→Nat→Option Value
 | [],_=>none
 |(k,v)::r,t=>bif Nat.beq k t then some v else look r t
def dg (F:List (Nat × Value)):Operand→Option Value
 | .tmp t=>look F t
 | .const v=>some v
 | .global g=>some (.pointer (some ⟨g,0,none⟩))
 | .func f=>some (.func (.func f) #[] #[])
structure Fr (n:Nat)(F:List (Nat × Value))(a:Act):Prop where
 size:a.tmps.size=n
 defers:a.defers=default
 slot:∀t v,look F t=some v→a.tmps[t]? =some v
theorem Fr.ev {n:Nat}{F:List (Nat × Value)}{a:Act}(h:Fr n F a):∀x u,dg F x=some u→a.eval x=u:=by
 intro x u hx
 cases x with
 |tmp t=>have:=h.slot t u hx;simp[Act.eval,this]
 |const v=>exact Option.some.inj hx
 |global g=>exact Option.some.inj hx
 |func f=>exact Option.some.inj hx
theorem bA {F:List (Nat × Value)}{d t:Nat}{v u:Value}(h:look ((d,v)::F) t=some u):(d=t∧v=u)∨(d≠t∧look F t=some u):=by
 unfold look at h
 cases hb:Nat.beq d t with
 |true=>rw[hb] at h;exact .inl ⟨Nat.eq_of_beq_eq_true hb,Option.some.inj h⟩
 |false=>rw[hb] at h;exact .inr ⟨Nat.ne_of_beq_eq_false hb,h⟩
theorem Fr.put {n d:Nat}{F:List (Nat × Value)}{a:Act}{v:Value}(h:Fr n F a)(hd:d<n):Fr n ((d,v)::F) (a.put (some d) v):=by
 refine⟨by simp[Act.put,h.size],h.defers,fun t u hu=> ?_⟩;rcases bA hu with ⟨rfl,rfl⟩|⟨hne,hu⟩
 ·simp[Act.put,h.size,hd]
 ·simp only[Act.put]
  rw[Array.getElem?_setIfInBounds_ne hne];exact h.slot t u hu
def Sub:List (Nat × Value)→List (Nat × Value)→Prop
 | [],_=>True
 |(t,v)::r,F=>look F t=some v∧Sub r F
theorem Sub.spec {F:List (Nat × Value)}:∀ {F':List (Nat × Value)},Sub F' F→∀t v,look F' t=some v→look F t=some v
 | [],_,_,_,h=>by simp[look] at h
 |(k,u)::r,hs,t,v,h=>by
  rcases bA h with ⟨rfl,rfl⟩|⟨_,h⟩
  ·exact hs.1
  ·exact Sub.spec hs.2 t v h
theorem Fr.sub {n:Nat}{F F':List (Nat × Value)}{a:Act}(h:Fr n F a)(hs:Sub F' F):Fr n F' a:=⟨h.size,h.defers,fun t v ht=>h.slot t v (hs.spec t v ht)⟩
def aa (P:Program)(E:Operand→Option Value)(o:Oper)(w:World)(v:Value)(w':World):Prop:=∀ρ:Operand→Value,(∀x u,E x=some u→ρ x=u)→(execOp ρ o).run P w= .ok (.value v) w'
def tY (P:Program)(E:Operand→Option Value)(o:Oper)(w w':World):Prop:=∀ρ:Operand→Value,(∀x u,E x=some u→ρ x=u)→(execOp ρ o).run P w= .ok .skip w'
def Enters (P:Program)(E:Operand→Option Value)(o:Oper)(w:World)(f:FuncId)(args:Array Value):Prop:=∀ρ:Operand→Value,(∀x u,E x=some u→ρ x=u)→(execOp ρ o).run P w= .ok (.enter f args) w
def Seq (P:Program)(ops:Array Oper)(Q:Exit→Act→World→Prop)(rest:List Oper)(n:Nat)(F:List (Nat × Value))(w:World):Prop:=∀a,Fr n F a→wpList P ops Q rest a w
def Cd (P:Program)(c:Code)(Q:Exit→Act→World→Prop)(n:Nat)(F:List (Nat × Value))(w:World):Prop:=∀a,Fr n F a→c.wp P Q a w
def ab (Q:Exit→Act→World→Prop)(e:Exit)(n:Nat)(F:List (Nat × Value))(w:World):Prop:=∀a,Fr n F a→Q e a w
section
variable {P:Program} {ops:Array Oper} {Q:Exit→Act→World→Prop} {rest:List Oper} {o:Oper} {n d:Nat} {F F':List (Nat × Value)} {w w':World} {v:Value}
theorem Seq.val (hrun:aa P (dg F) o w v w')(hg:o.guard=none)(hd:o.dst=some d)(hn:Nat.blt d n=true)(h:Seq P ops Q rest n ((d,v)::F) w'):Seq P ops Q (o::rest) n F w:=by
 intro a ha;refine wpList_plain hg fun K hK=> ?_;unfold Oper.wp;rw[hrun a.eval ha.ev,Oper.upon_value,hd];exact hK _ _ (h _ (ha.put (Nat.blt_eq.mp hn)))
theorem Seq.unit (hrun:tY P (dg F) o w w')(hg:o.guard=none)(hd:o.dst=none)(h:Seq P ops Q rest n F w'):Seq P ops Q (o::rest) n F w:=by
 intro a ha;refine wpList_plain hg fun K hK=> ?_;unfold Oper.wp;rw[hrun a.eval ha.ev,Oper.upon_skip,hd];exact hK _ _ (h _ ha)
theorem Seq.call {f:FuncId}{args:Array Value}{R:Ending→World→Prop}(he:Enters P (dg F) o w f args)(hg:o.guard=none)(hd:o.dst=some d)(hn:Nat.blt d n=true)(hc:Calls P f args w R)
  (h:∀e w',R e w'→∃v,e= .returned v∧Seq P ops Q rest n ((d,v)::F) w'):Seq P ops Q (o::rest) n F w:=by
 intro a ha;refine wpList_plain hg fun K hK=> ?_;unfold Oper.wp;rw[he a.eval ha.ev,Oper.upon_enter,hd];refine hc.mono fun e w' hR=> ?_;obtain⟨v,rfl,hs⟩:=h e w' hR;exact hK _ _ (hs _ (ha.put (Nat.blt_eq.mp hn)))
theorem Seq.av {j:Nat}{b:Bool}{t:Nat}(hrun:aa P (dg F) o w v w')(hg:o.guard=some (j,b))(ht:(ops[j]?).bind (·.dst)=some t)(hb:look F t=some (.bool b))(hd:o.dst=some d)(hn:Nat.blt d n=true)(h:Seq P ops Q rest n ((d,v)::F) w'):Seq P ops Q (o::rest) n F w:=by
 intro a ha;refine wpList_step fun K hK=> ?_
 have hw:Region.wanted o (yielded ops a.tmps)=true:=by
  unfold Region.wanted yielded;simp only[hg,ht,Option.bind_some,ha.slot t _ hb];simp
 rw[if_pos hw];unfold Oper.wp;rw[hrun a.eval ha.ev,Oper.upon_value,hd];exact hK _ _ (h _ (ha.put (Nat.blt_eq.mp hn)))
theorem Seq.x3 {j:Nat}{b:Bool}{t:Nat}{f:FuncId}{args:Array Value}{R:Ending→World→Prop}(he:Enters P (dg F) o w f args)(hg:o.guard=some (j,b))(ht:(ops[j]?).bind (·.dst)=some t)(hb:look F t=some (.bool b))(hd:o.dst=some d)(hn:Nat.blt d n=true)(hc:Calls P f args w R)
  (h:∀e w',R e w'→∃v,e= .returned v∧Seq P ops Q rest n ((d,v)::F) w'):Seq P ops Q (o::rest) n F w:=by
 intro a ha;refine wpList_step fun K hK=> ?_
 have hw:Region.wanted o (yielded ops a.tmps)=true:=by
  unfold Region.wanted yielded;simp only[hg,ht,Option.bind_some,ha.slot t _ hb];simp
 rw[if_pos hw];unfold Oper.wp;rw[he a.eval ha.ev,Oper.upon_enter,hd];refine hc.mono fun e w' hR=> ?_;obtain⟨v,rfl,hs⟩:=h e w' hR;exact hK _ _ (hs _ (ha.put (Nat.blt_eq.mp hn)))
theorem Seq.jd {j:Nat}{b b':Bool}{t:Nat}(hg:o.guard=some (j,b))(ht:(ops[j]?).bind (·.dst)=some t)(hb:look F t=some (.bool b'))(hne:b'= !b)(hd:o.dst=some d)(hn:Nat.blt d n=true)(h:Seq P ops Q rest n ((d,undef)::F) w):Seq P ops Q (o::rest) n F w:=by
 intro a ha;refine wpList_step fun K hK=> ?_
 have hw:Region.wanted o (yielded ops a.tmps)=false:=by
  unfold Region.wanted yielded;simp only[hg,ht,Option.bind_some,ha.slot t _ hb,hne]
  cases b<;>rfl
 rw[if_neg (by rw[hw];simp),hd];exact hK _ _ (h _ (ha.put (Nat.blt_eq.mp hn)))
theorem Seq.nil (h:ab Q .normal n F w):Seq P ops Q [] n F w:=fun a ha=>wpList_nil (h a ha)
theorem Cd.dB {c:Code}(hs:Sub F' F)(h:Cd P c Q n F' w):Cd P c Q n F w:=fun a ha=>h a (ha.sub hs)
theorem ab.dB {e:Exit}(hs:Sub F' F)(h:ab Q e n F' w):ab Q e n F w:=fun a ha=>h a (ha.sub hs)
theorem Cd.region {id:Nat}{l:List Oper}(h:Seq P l.toArray Q l n F w):Cd P (.region id l.toArray false) Q n F w:=fun a ha=>wp_region_lit (h a ha)
theorem Cd.seq {x y:Code}(h:Cd P x (Exit.then (y.wp P Q) Q) n F w):Cd P (.seq x y) Q n F w:=fun a ha=>wp_seq (h a ha)
theorem Cd.cond {c:Operand}{x y:Code}{b:Bool}(hc:dg F c=some (.bool b))(ht:b=true→Cd P x Q n F w)(hf:b=false→Cd P y Q n F w):Cd P (.cond c x y) Q n F w:=
 fun a ha=>wp_cond_split (ha.ev _ _ hc) (fun h=>ht h a ha) (fun h=>hf h a ha)
theorem Cd.ao {c:Operand}{x y:Code}{p:Prop}[Decidable p](hc:dg F c=some (.bool (decide p)))(ht:p→Cd P x Q n F w)(hf:¬p→Cd P y Q n F w):Cd P (.cond c x y) Q n F w:=
 Cd.cond hc (fun h=>ht (of_decide_eq_true h)) (fun h=>hf (of_decide_eq_false h))
theorem Cd.aM {c:Operand}{x y:Code}{b:Bool}(hc:dg F c=some (.bool b))(hb:b=true)(h:Cd P x Q n F w):Cd P (.cond c x y) Q n F w:=Cd.cond hc (fun _=>h) (fun h0=>by rw[hb] at h0;cases h0)
theorem Cd.aI {c:Operand}{x y:Code}{b:Bool}(hc:dg F c=some (.bool b))(hb:b=false)(h:Cd P y Q n F w):Cd P (.cond c x y) Q n F w:=Cd.cond hc (fun h0=>by rw[hb] at h0;cases h0) (fun _=>h)
theorem Cd.block {id:Nat}{c:Code}(h:Cd P c (Exit.inBlock id Q) n F w):Cd P (.block id c) Q n F w:=fun a ha=>wp_block (h a ha)
theorem Cd.skip (h:ab Q .normal n F w):Cd P .skip Q n F w:=fun a ha=>wp_skip (h a ha)
theorem Cd.exit {id:Nat}(h:ab Q (.exit id) n F w):Cd P (.exit id) Q n F w:=fun a ha=>wp_exit (h a ha)
theorem Cd.ret (h:ab Q .ret n F w):Cd P .ret Q n F w:=fun a ha=>wp_ret (h a ha)
theorem ab.uo {y:Code}(h:Cd P y Q n F w):ab (Exit.then (y.wp P Q) Q) .normal n F w:=h
theorem ab.ae {K:Act→World→Prop}(h:ab Q .ret n F w):ab (Exit.then K Q) .ret n F w:=h
theorem ab.aD {K:Act→World→Prop}{id:Nat}(h:ab Q (.exit id) n F w):ab (Exit.then K Q) (.exit id) n F w:=h
theorem ab.ag {id:Nat}(h:ab Q .normal n F w):ab (Exit.inBlock id Q) .normal n F w:=h
theorem ab.af {id:Nat}(h:ab Q .ret n F w):ab (Exit.inBlock id Q) .ret n F w:=h
theorem ab.aA {id:Nat}(h:ab Q .normal n F w):ab (Exit.inBlock id Q) (.exit id) n F w:=fun a ha=>by
 show if id=id then Q .normal a w else Q (.exit id) a w;rw[if_pos rfl];exact h a ha
theorem ab.sd {id id':Nat}(hne:Nat.beq id' id=false)(h:ab Q (.exit id') n F w):ab (Exit.inBlock id Q) (.exit id') n F w:=fun a ha=>by
 show if id'=id then Q .normal a w else Q (.exit id') a w;rw[if_neg (Nat.ne_of_beq_eq_false hne)];exact h a ha
def uj {σ:Type}(n:Nat)(vf:σ→List (Nat × Value))(I:σ→World→Prop)(μ:σ→Nat)(s:σ)(a:Act)(w:World):Prop:=∃s',Fr n (vf s') a∧I s' w∧μ s'<μ s
theorem Cd.loop {σ:Type}{c:Code}(vf:σ→List (Nat × Value))(I:σ→World→Prop)(μ:σ→Nat)(s0:σ)(h0:I s0 w)(hs:Sub (vf s0) F)
  (round:∀s w,I s w→Cd P c (Exit.then (uj n vf I μ s) Q) n (vf s) w):Cd P (.loop c) Q n F w:=by
 intro a ha b k cs
 have key:∀m s a w,μ s=m→I s w→Fr n (vf s) a→∃e a' w',Q e a' w'∧Arrives P (lone (b.at a (.code c:: .inLoop c::k)) cs w) b k cs e a' w':=by
  intro m
  induction m using Nat.strongRecOn with
  |_ m ih=>
   intro s a w hm hI hF;obtain⟨e,a₁,w₁,hq,harr⟩:=round s w hI a hF b (.inLoop c::k) cs
   cases e with
   |normal=>
    obtain⟨s',hF',hI',hlt⟩:=hq;obtain⟨e₂,a₂,w₂,hq₂,harr₂⟩:=ih (μ s') (hm▸hlt) s' a₁ w₁ rfl hI' hF';exact⟨e₂,a₂,w₂,hq₂, .of_steps (Steps.trans harr (.one step_inLoop)) harr₂⟩
   |exit id=>exact⟨_,a₁,w₁,hq, .pass (x:= .inLoop c) rfl (fun _ _=> .inl (by simp)) harr⟩
   |goto l=>exact⟨_,a₁,w₁,hq, .pass (x:= .inLoop c) rfl (fun _ _=> .inl (by simp)) harr⟩
   |ret=>exact⟨_,a₁,w₁,hq, .pass (x:= .inLoop c) rfl (fun _ _=> .inl (by simp)) harr⟩
   |panic ch=>exact⟨_,a₁,w₁,hq, .pass (x:= .inLoop c) rfl (fun _ _=> .inl (by simp)) harr⟩
   |outgrown=>exact⟨_,a₁,w₁,hq, .pass (x:= .inLoop c) rfl (fun _ _=> .inl (by simp)) harr⟩
 obtain⟨e,a',w',hq,harr⟩:=key _ s0 a w rfl h0 (ha.sub hs);exact⟨e,a',w',hq, .of_steps (.one step_loop) harr⟩
theorem ab.round {σ:Type}{vf:σ→List (Nat × Value)}{I:σ→World→Prop}{μ:σ→Nat}{s:σ}(s':σ)(hs:Sub (vf s') F)(hI:I s' w)(hlt:μ s'<μ s):ab (Exit.then (uj n vf I μ s) Q) .normal n F w:=
 fun _ ha=>⟨s',ha.sub hs,hI,hlt⟩
theorem ab.aJ {σ:Type}{vf:σ→List (Nat × Value)}{I:σ→World→Prop}{μ:σ→Nat}{s:σ}(h:ab Q .ret n F w):ab (Exit.then (uj n vf I μ s) Q) .ret n F w:=h
theorem ab.ay {σ:Type}{vf:σ→List (Nat × Value)}{I:σ→World→Prop}{μ:σ→Nat}{s:σ}{id:Nat}(h:ab Q (.exit id) n F w):ab (Exit.then (uj n vf I μ s) Q) (.exit id) n F w:=h
def zL {σ:Type}(n:Nat)(vf:σ→List (Nat × Value))(J:σ→World→Prop)(a:Act)(w:World):Prop:=∃s,Fr n (vf s) a∧J s w
theorem Cd.kH {σ:Type}{x y:Code}(vf:σ→List (Nat × Value))(J:σ→World→Prop)(hx:Cd P x (Exit.then (zL n vf J) Q) n F w)(hy:∀s w,J s w→Cd P y Q n (vf s) w):Cd P (.seq x y) Q n F w:=
 fun a ha=>wp_seq (Code.wp_mono (fun e a w q=>by
  cases e with
  |normal=>obtain⟨s,hF,hJ⟩:=q;exact hy s w hJ a hF
  |exit id=>exact q
  |goto l=>exact q
  |ret=>exact q
  |panic ch=>exact q
  |outgrown=>exact q) (hx a ha))
theorem ab.join {σ:Type}{vf:σ→List (Nat × Value)}{J:σ→World→Prop}(s:σ)(hs:Sub (vf s) F)(hJ:J s w):ab (Exit.then (zL n vf J) Q) .normal n F w:=fun _ ha=>⟨s,ha.sub hs,hJ⟩
end
end
section
variable {P:Program} {ops:Array Oper} {Q:Exit→Act→World→Prop} {rest:List Oper} {o:Oper} {n d:Nat} {F F':List (Nat × Value)} {w w':World} {v:Value}
theorem Calls.of {f:FuncId}{fn:Func}{c:Code}{args:List Value}{R:Ending→World→Prop}(F:List (Nat × Value))(n:Nat)(hf:P.funcs[f]? =some fn)(hb:fn.body=some c)(hn:n=fn.ntmps)(hle:args.length≤n)
  (hF:∀a:Act,a.tmps=(args++List.replicate (n-args.length) undef).toArray→a.defers=[]→Fr n F a) (h:Cd P c (bodyPost P fn R) n F w):Calls P f args.toArray w R:=by
 refine calls_of_wp hf hb (h _ (hF _ ?_ rfl));show args.toArray++Array.replicate (fn.ntmps-args.toArray.size) undef=_;rw[←hn];apply Array.ext';simp
def iX:Nat→List Value→List (Nat × Value)
 |_,[]=>[]
 |k,v::r=>(k,v)::iX (k+1) r
theorem iN (args:List Value):∀k t v,look (iX k args) t=some v→∃j,t=k+j∧args[j]? =some v:=by
 induction args with
 |nil=>intro k t v h;simp[iX,look] at h
 |cons x r ih=>
  intro k t v h;rcases bA h with ⟨rfl,rfl⟩|⟨_,h⟩
  ·exact⟨0,rfl,rfl⟩
  ·obtain⟨j,e,hj⟩:=ih _ _ _ h
   exact⟨j+1,by omega,hj⟩
theorem Calls.start {f:FuncId}{fn:Func}{c:Code}{args:List Value}{R:Ending→World→Prop}(n:Nat)(hf:P.funcs[f]? =some fn)(hb:fn.body=some c)(hn:fn.ntmps=n)(hle:Nat.ble args.length n=true)
  (h:Cd P c (bodyPost P fn R) n (iX 0 args) w):Calls P f args.toArray w R:=by
 have hle':=Nat.le_of_ble_eq_true hle;refine Calls.of (iX 0 args) n hf hb hn.symm hle' (fun a ha hd=>⟨by rw[ha];simp;omega,hd,fun t v ht=> ?_⟩) h;obtain⟨j,rfl,hj⟩:=iN args 0 t v ht;rw[ha,Nat.zero_add];have hlt:j<args.length:=(List.getElem?_eq_some_iff.1 hj).1;simp[List.getElem?_append_left hlt,hj]
theorem ab.BN {fn:Func}{R:Ending→World→Prop}{t:Nat}{e:Exit}(hr:fn.results= #[.tmp t]) (hl:look F t=some v) (he:e= .ret∨e= .normal) (h:R (.returned v) w):ab (bodyPost P fn R) e n F w:=by
 intro a ha;have hv:(results fn a.tmps).run P w= .ok v w:=by rw[results_tmp hr];simp[ha.slot t v hl]
 rcases he with rfl|rfl
 ·exact⟨ha.defers,v,hv,h⟩
 ·exact⟨ha.defers,v,hv,h⟩
theorem ab.du {fn:Func}{R:Ending→World→Prop}{e:Exit}(hr:fn.results= #[]) (he:e= .ret∨e= .normal) (h:R (.returned (.tuple #[])) w):ab (bodyPost P fn R) e n F w:=by
 intro a ha;have hv:=results_none hr a.tmps P w;rcases he with rfl|rfl
 ·exact⟨ha.defers,_,hv,h⟩
 ·exact⟨ha.defers,_,hv,h⟩
theorem ab.BI {fn:Func}{R:Ending→World→Prop}{t u:Nat}{v':Value}{e:Exit}(hr:fn.results= #[.tmp t, .tmp u]) (hl:look F t=some v) (hl':look F u=some v') (he:e= .ret∨e= .normal) (h:R (.returned (.tuple #[v,v'])) w):ab (bodyPost P fn R) e n F w:=by
 intro a ha;have hv:(results fn a.tmps).run P w= .ok (.tuple #[v,v']) w:=by rw[results_tmp2 hr];simp[ha.slot t v hl,ha.slot u v' hl']
 rcases he with rfl|rfl
 ·exact⟨ha.defers,_,hv,h⟩
 ·exact⟨ha.defers,_,hv,h⟩
theorem ab.end_ {fn:Func}{R:Ending→World→Prop}{e:Exit}(hv:∀a,Fr n F a→(results fn a.tmps).run P w= .ok v w)(he:e= .ret∨e= .normal)(h:R (.returned v) w):ab (bodyPost P fn R) e n F w:=by
 intro a ha;rcases he with rfl|rfl
 ·exact⟨ha.defers,_,hv a ha,h⟩
 ·exact⟨ha.defers,_,hv a ha,h⟩
end
open Go.RowKit
theorem jA {z:Int}(h0: -9223372036854775808≤z)(h1:z≤9223372036854775807):IntKind.i64.wrap z=z:=by rw[IntKind.wrap_i64];omega
theorem m8 {z:Int}(h0:0≤z)(h1:z<18446744073709551616):IntKind.u64.wrap z=z:=qW z h0 h1
theorem nT {z:Int}(h0:0≤z)(h1:z<256):IntKind.u8.wrap z=z:=by rw[IntKind.wrap_u8];omega
theorem aF {P:Program}{f:FuncId}{fn:Func}{c:Code}(hf:P.funcs[f]? =some fn)(hname:(fn.name== "runtime.NumGoroutine")=false)
  (hb:fn.body=some c) (args:Array Value) (w:World):(callFunc f args).run P w= .ok (.enter f args) w:=by
 simp only[callFunc,program,Sem.run_bind,Sem.run,Result.andThen_ok,hf,hname,hb,Option.isNone_some,if_false,Bool.false_eq_true];rfl
def fc (E:Operand→Option Value):List Operand→Option (List Value)
 | []=>some []
 |x::r=>match E x,fc E r with
  |some v,some vs=>some (v::vs)
  |_,_=>none
theorem fY {E:Operand→Option Value}{ρ:Operand→Value}(h:∀x u,E x=some u→ρ x=u):∀ {l:List Operand} {vs:List Value},fc E l=some vs→l.map ρ=vs
 | [],vs,e=>by simp[fc] at e;simp[e]
 |x::r,vs,e=>by
  unfold fc at e;split at e
  ·rename_i v vs' hx hr
   injection e with e
   subst e;rw[List.map_cons,h _ _ hx,fY h hr]
  ·cases e
def x0 (E:Operand→Option Value):List (Nat × Operand)→Option (List (Nat × Value))
 | []=>some []
 |(i,x)::r=>match E x,x0 E r with
  |some v,some vs=>some ((i,v)::vs)
  |_,_=>none
theorem qy {E:Operand→Option Value}{ρ:Operand→Value}(h:∀x u,E x=some u→ρ x=u):∀ {l:List (Nat × Operand)} {vs:List (Nat × Value)},x0 E l=some vs→l.map (fun(i,x)=>(i,ρ x))=vs
 | [],vs,e=>by simp[x0] at e;simp[e]
 |(i,x)::r,vs,e=>by
  unfold x0 at e;split at e
  ·rename_i v vs' hx hr
   injection e with e
   subst e;rw[List.map_cons,qy h hr];simp only[h _ _ hx]
  ·cases e
theorem run_equal_bool {P:Program}{T:TypeId}(hT:P.underlying T=some .bool)(a b:Bool)(w:World):(Op.equal T (.bool a) (.bool b)).run P w= .ok (a==b) w:=by
 have h:∀d:Nat,(Op.equalIn (d+1) T (.bool a) (.bool b)).run P w= .ok (a==b) w:=fun d=>by simp[Op.equalIn,run_underlying hT]
 exact h 9999
theorem gQ {P:Program}{T e:TypeId}(hT:P.underlying T=some (.pointer e))(A:Option Addr)(w:World):(Op.equal T (.pointer A) (.pointer none)).run P w= .ok A.isNone w:=by
 have h:∀d:Nat,(Op.equalIn (d+1) T (.pointer A) (.pointer none)).run P w= .ok A.isNone w:=fun d=>by cases A<;>simp[Op.equalIn,run_underlying hT]
 exact h 9999
section
variable {P:Program} {E:Operand→Option Value} {o:Oper} {w w':World} {x y:Operand} {v:Value} {T T':TypeId} {k:IntKind} {p q r:Int} {a b:Bool}
theorem aa.move (ho:o.op= .move x)(hx:E x=some v):aa P E o w v w:=fun ρ h=>by unfold execOp;simp only[ho];rw[h _ _ hx];rfl
theorem aa.assign (ho:o.op= .assign x)(hx:E x=some v):aa P E o w v w:=fun ρ h=>by unfold execOp;simp only[ho];rw[h _ _ hx];rfl
theorem aa.cr {c x y:Operand}(ho:o.op= .pick c x y)(hc:E c=some (.bool true))(hx:E x=some v):aa P E o w v w:=fun ρ h=>by
 unfold execOp;simp only[ho];rw[h _ _ hc,h _ _ hx];rfl
theorem aa.bD {c x y:Operand}(ho:o.op= .pick c x y)(hc:E c=some (.bool false))(hy:E y=some v):aa P E o w v w:=fun ρ h=>by
 unfold execOp;simp only[ho];rw[h _ _ hc,h _ _ hy];rfl
theorem aa.cast {v':Value}(h:aa P E o w v w')(e:v=v'):aa P E o w v' w':=e▸h
theorem aa.lC {p:Prop}[Decidable p](h:aa P E o w (.bool (decide p)) w')(e:p):aa P E o w (.bool true) w':=h.cast (by rw[decide_eq_true e])
theorem aa.jv {p:Prop}[Decidable p](h:aa P E o w (.bool (decide p)) w')(e:¬p):aa P E o w (.bool false) w':=h.cast (by rw[decide_eq_false e])
theorem aa.bin {op:BinOp}{u u':Value}(ho:o.op= .binOp op T x y T')(hx:E x=some u)(hy:E y=some u')(hg:(eqGuard op T x y u u').run P w= .ok () w)(hb:(binOp op T u u').run P w= .ok v w):aa P E o w v w:=fun ρ h=>by
 unfold execOp;simp only[ho];rw[h _ _ hx,h _ _ hy];simp only[Sem.run_bind,hg,Result.andThen_ok,hb,Sem.run_pure]
theorem aa.Bo (ho:o.op= .binOp .add T x y T')(hx:E x=some (.int k p))(hy:E y=some (.int k q))(hr:k.wrap (p+q)=r):aa P E o w (.int k r) w:= .bin ho hx hy rfl (by simp[binOp,Op.intArith,hr])
theorem aa.zg (ho:o.op= .binOp .sub T x y T')(hx:E x=some (.int k p))(hy:E y=some (.int k q))(hr:k.wrap (p-q)=r):aa P E o w (.int k r) w:= .bin ho hx hy rfl (by simp[binOp,Op.intArith,hr])
theorem aa.BL (ho:o.op= .binOp .mul T x y T')(hx:E x=some (.int k p))(hy:E y=some (.int k q))(hr:k.wrap (p*q)=r):aa P E o w (.int k r) w:= .bin ho hx hy rfl (by simp[binOp,Op.intArith,hr])
theorem aa.Bk (ho:o.op= .binOp .quo T x y T')(hx:E x=some (.int k p))(hy:E y=some (.int k q))(hq:q≠0)(hr:k.wrap (p.tdiv q)=r):aa P E o w (.int k r) w:= .bin ho hx hy rfl (by simp[binOp,Op.intDiv,hr,hq])
theorem aa.B3 (ho:o.op= .binOp .rem T x y T')(hx:E x=some (.int k p))(hy:E y=some (.int k q))(hq:q≠0)(hr:p.tmod q=r):aa P E o w (.int k r) w:= .bin ho hx hy rfl (by simp[binOp,Op.intDiv,hr,hq])
theorem aa.Bp {k':IntKind}(ho:o.op= .binOp .shl T x y T')(hx:E x=some (.int k p))(hy:E y=some (.int k' q))(hq:¬q<0)(hr:k.wrap (p*2^(min q.toNat k.bits))=r):aa P E o w (.int k r) w:= .bin ho hx hy rfl (by simp[binOp,Op.shift,hr,hq])
theorem aa.Bh {k':IntKind}(ho:o.op= .binOp .shr T x y T')(hx:E x=some (.int k p))(hy:E y=some (.int k' q))(hq:¬q<0)(hr:p.fdiv (2^(min q.toNat k.bits))=r):aa P E o w (.int k r) w:= .bin ho hx hy rfl (by simp[binOp,Op.shift,hr,hq])
theorem aa.oE (ho:o.op= .binOp .add T x y T')(hx:E x=some (.int .i64 p))(hy:E y=some (.int .i64 q))(h0: -9223372036854775808≤p+q)(h1:p+q≤9223372036854775807):aa P E o w (.int .i64 (p+q)) w:= .Bo ho hx hy (jA h0 h1)
theorem aa.AR (ho:o.op= .binOp .sub T x y T')(hx:E x=some (.int .i64 p))(hy:E y=some (.int .i64 q))(h0: -9223372036854775808≤p-q)(h1:p-q≤9223372036854775807):aa P E o w (.int .i64 (p-q)) w:= .zg ho hx hy (jA h0 h1)
theorem aa.qD (ho:o.op= .binOp .mul T x y T')(hx:E x=some (.int .i64 p))(hy:E y=some (.int .i64 q))(h0: -9223372036854775808≤p*q)(h1:p*q≤9223372036854775807):aa P E o w (.int .i64 (p*q)) w:= .BL ho hx hy (jA h0 h1)
theorem aa.BR (ho:o.op= .binOp .add T x y T')(hx:E x=some (.int .u64 p))(hy:E y=some (.int .u64 q))(h0:0≤p+q)(h1:p+q<18446744073709551616):aa P E o w (.int .u64 (p+q)) w:= .Bo ho hx hy (m8 h0 h1)
theorem ra {p q:Int}(h0:0≤p)(hq:0<q):0≤p/q∧p/q≤p:=⟨Int.ediv_nonneg h0 (Int.le_of_lt hq),Int.ediv_le_self _ h0⟩
theorem aa.jV (ho:o.op= .binOp .quo T x y T')(hx:E x=some (.int .i64 p))(hy:E y=some (.int .i64 q))(h0:0≤p)(h1:p≤9223372036854775807)(hq:0<q):aa P E o w (.int .i64 (p/q)) w:=
 .Bk ho hx hy (by omega) (by rw[Int.tdiv_eq_ediv_of_nonneg h0];have:=ra h0 hq;exact jA (by omega) (by omega))
theorem aa.B5 (ho:o.op= .binOp .quo T x y T')(hx:E x=some (.int .u64 p))(hy:E y=some (.int .u64 q))(h0:0≤p)(h1:p<18446744073709551616)(hq:0<q):aa P E o w (.int .u64 (p/q)) w:=
 .Bk ho hx hy (by omega) (by rw[Int.tdiv_eq_ediv_of_nonneg h0];have:=ra h0 hq;exact m8 (by omega) (by omega))
theorem aa.ou (ho:o.op= .binOp .rem T x y T')(hx:E x=some (.int k p))(hy:E y=some (.int k q))(h0:0≤p)(hq:0<q):aa P E o w (.int k (p%q)) w:=
 .B3 ho hx hy (by omega) (Int.tmod_eq_emod_of_nonneg h0)
theorem aa.Bm {a s:Nat}{k':IntKind}(ho:o.op= .binOp .shr T x y T')(hx:E x=some (.int .u64 (a:Int)))(hy:E y=some (.int k' q))(hq:q=(s:Int))(hs:s≤64):aa P E o w (.int .u64 ((a/2^s:Nat):Int)) w:=by
 subst hq;refine .Bh ho hx hy (by omega) ?_;have e:min (s:Int).toNat IntKind.u64.bits=s:=by simp[IntKind.bits];omega
 rw[e];show((a:Int)).fdiv ((2:Int)^s)=_;rw[Int.fdiv_eq_ediv_of_nonneg _ (by exact Int.le_of_lt (Int.pow_pos (by omega)))];rw[Int.natCast_ediv,Int.natCast_pow];rfl
theorem aa.xl {op:BinOp}{a b r:Nat}(ho:o.op= .binOp op T x y T')(hx:E x=some (.int .u64 (a:Int)))(hy:E y=some (.int .u64 (b:Int)))(ha:a<18446744073709551616)(hb:b<18446744073709551616)
  (hop:(op= .and∧r=a&&& b)∨(op= .or∧r=a|||b)∨(op= .xor∧r=a^^^b)):aa P E o w (.int .u64 (r:Int)) w:=by
 have e1:(BitVec.ofInt IntKind.u64.bits (a:Int)).toNat=a:=by simp[IntKind.bits];omega
 have e2:(BitVec.ofInt IntKind.u64.bits (b:Int)).toNat=b:=by simp[IntKind.bits];omega
 have hr:r<18446744073709551616:=by
  rcases hop with ⟨-,rfl⟩|⟨-,rfl⟩|⟨-,rfl⟩
  ·exact Nat.lt_of_le_of_lt Nat.and_le_left ha
  ·exact Nat.or_lt_two_pow (n:=64) ha hb
  ·exact Nat.xor_lt_two_pow (n:=64) ha hb
 refine .bin ho hx hy ?_ ?_
 ·rcases hop with ⟨rfl,-⟩|⟨rfl,-⟩|⟨rfl,-⟩<;>rfl
 ·rcases hop with ⟨rfl,hr'⟩|⟨rfl,hr'⟩|⟨rfl,hr'⟩
  ·show(Op.intBits .and .u64 a b).run P w=_
   simp only[Op.intBits,BitVec.toNat_and,e1,e2,←hr',m8 (Int.natCast_nonneg r) (Int.ofNat_lt.2 hr)];rfl
  ·show(Op.intBits .or .u64 a b).run P w=_
   simp only[Op.intBits,BitVec.toNat_or,e1,e2,←hr',m8 (Int.natCast_nonneg r) (Int.ofNat_lt.2 hr)];rfl
  ·show(Op.intBits .xor .u64 a b).run P w=_
   simp only[Op.intBits,BitVec.toNat_xor,e1,e2,←hr',m8 (Int.natCast_nonneg r) (Int.ofNat_lt.2 hr)];rfl
theorem aa.zF {a m:Nat}(s:Nat)(ho:o.op= .binOp .and T x y T')(hx:E x=some (.int .u64 (a:Int)))(hy:E y=some (.int .u64 (m:Int)))(hm:m=2^s-1)(ha:a<18446744073709551616)(hb:m<18446744073709551616):aa P E o w (.int .u64 ((a%2^s:Nat):Int)) w:=
 .xl ho hx hy ha hb (.inl ⟨rfl,by rw[hm,Nat.and_two_pow_sub_one_eq_mod]⟩)
theorem aa.BJ {a:Nat}(m:Nat)(ho:o.op= .binOp .rem T x y T')(hx:E x=some (.int k (a:Int)))(hy:E y=some (.int k q))(hq:q=(m:Int))(hm:0<m):aa P E o w (.int k ((a%m:Nat):Int)) w:=by
 subst hq;rw[Int.natCast_emod];exact aa.ou ho hx hy (by omega) (by omega)
theorem aa.Bc {a:Nat}(m:Nat)(ho:o.op= .binOp .quo T x y T')(hx:E x=some (.int .u64 (a:Int)))(hy:E y=some (.int .u64 q))(hq:q=(m:Int))(hm:0<m)(ha:a<18446744073709551616):aa P E o w (.int .u64 ((a/m:Nat):Int)) w:=by
 subst hq;rw[Int.natCast_ediv];exact aa.B5 ho hx hy (by omega) (by omega) (by omega)
theorem aa.lss (ho:o.op= .binOp .lss T x y T')(hx:E x=some (.int k p))(hy:E y=some (.int k q)):aa P E o w (.bool (decide (p<q))) w:= .bin ho hx hy rfl (by simp[binOp,Op.intCmp])
theorem aa.leq (ho:o.op= .binOp .leq T x y T')(hx:E x=some (.int k p))(hy:E y=some (.int k q)):aa P E o w (.bool (decide (p≤q))) w:= .bin ho hx hy rfl (by simp[binOp,Op.intCmp])
theorem aa.gtr (ho:o.op= .binOp .gtr T x y T')(hx:E x=some (.int k p))(hy:E y=some (.int k q)):aa P E o w (.bool (decide (q<p))) w:= .bin ho hx hy rfl (by simp[binOp,Op.intCmp])
theorem aa.geq (ho:o.op= .binOp .geq T x y T')(hx:E x=some (.int k p))(hy:E y=some (.int k q)):aa P E o w (.bool (decide (q≤p))) w:= .bin ho hx hy rfl (by simp[binOp,Op.intCmp])
theorem aa.fK (ho:o.op= .binOp .eql T x y T')(hx:E x=some (.int k p))(hy:E y=some (.int k q)):aa P E o w (.bool (decide (p=q))) w:= .bin ho hx hy rfl (by simp[binOp,Op.intCmp];rfl)
theorem aa.bT (ho:o.op= .binOp .neq T x y T')(hx:E x=some (.int k p))(hy:E y=some (.int k q)):aa P E o w (.bool (decide (p≠q))) w:= .bin ho hx hy rfl (by
 simp[binOp,Op.intCmp]
 by_cases h:p=q<;>simp[h])
theorem aa.BS (ho:o.op= .binOp .eql T x y T')(hx:E x=some (.bool a))(hy:E y=some (.bool b))(hT:P.underlying T=some .bool):aa P E o w (.bool (decide (a=b))) w:=
 .bin ho hx hy rfl (by simp only[binOp,Sem.run_bind,run_equal_bool hT,Result.andThen_ok];cases a<;>cases b<;>rfl)
theorem aa.zx (ho:o.op= .binOp .neq T x y T')(hx:E x=some (.bool a))(hy:E y=some (.bool b))(hT:P.underlying T=some .bool):aa P E o w (.bool (decide (a≠b))) w:=
 .bin ho hx hy rfl (by simp only[binOp,Sem.run_bind,run_equal_bool hT,Result.andThen_ok];cases a<;>cases b<;>rfl)
theorem aa.BM {s t:ByteArray}(ho:o.op= .binOp .eql T x y T')(hx:E x=some (.string s))(hy:E y=some (.string t)):aa P E o w (.bool (s.toList==t.toList)) w:= .bin ho hx hy rfl (by simp[binOp,Op.stringOp])
theorem aa.BH {s t:ByteArray}(ho:o.op= .binOp .neq T x y T')(hx:E x=some (.string s))(hy:E y=some (.string t)):aa P E o w (.bool (!(s.toList==t.toList))) w:= .bin ho hx hy rfl (by simp[binOp,Op.stringOp])
theorem aa.ju {s t:ByteArray}(ho:o.op= .binOp .add T x y T')(hx:E x=some (.string s))(hy:E y=some (.string t))(hs:s.size+t.size≤9223372036854775807):aa P E o w (.string (s++t)) w:=
 .bin ho hx hy rfl (by simp only[binOp,Op.stringOp];rw[if_neg (by simp[IntKind.max,IntKind.bits,IntKind.signed];omega)];rfl)
theorem aa.zZ {A:Option Addr}(ho:o.op= .binOp .eql T x y T')(hx:E x=some (.pointer A))(hy:E y=some (.pointer none)){e:TypeId}(hT:P.underlying T=some (.pointer e)):aa P E o w (.bool A.isNone) w:=
 .bin ho hx hy rfl (by simp only[binOp,Sem.run_bind,gQ hT,Result.andThen_ok];rfl)
theorem aa.zP {A:Option Addr}(ho:o.op= .binOp .neq T x y T')(hx:E x=some (.pointer A))(hy:E y=some (.pointer none)){e:TypeId}(hT:P.underlying T=some (.pointer e)):aa P E o w (.bool A.isSome) w:=
 .bin ho hx hy rfl (by simp only[binOp,Sem.run_bind,gQ hT,Result.andThen_ok];cases A<;>rfl)
theorem aa.not (ho:o.op= .unOp .not T x)(hx:E x=some (.bool a)):aa P E o w (.bool !a) w:=fun ρ h=>by unfold execOp;simp only[ho];rw[h _ _ hx];simp[Op.unary]
theorem aa.neg (ho:o.op= .unOp .neg T x)(hx:E x=some (.int k p))(hr:k.wrap (0-p)=r):aa P E o w (.int k r) w:=fun ρ h=>by unfold execOp;simp only[ho];rw[h _ _ hx];simp only[Op.unary,Op.intArith,hr];rfl
theorem aa.fe {k':IntKind}{d:TypeDesc}(ho:o.op= .convert T T' x)(hx:E x=some (.int k p))(hS:P.underlying T=some d)(hT:P.underlying T'=some (.int k'))(hr:k'.wrap p=r):aa P E o w (.int k' r) w:=fun ρ h=>by
 unfold execOp;simp only[ho];rw[h _ _ hx];simp[convert,run_underlying hS,run_underlying hT,Conv.intToInt,hr]
theorem aa.fR {c:Call}{bi:Builtin}{vs:List Value}(ho:o.op= .call c)(hc:c.callee= .builtin bi)(hx:fc E c.args.toList=some vs)
  (hb:∀cs,(builtin bi c.argTypes o.type cs vs.toArray).run P w= .ok (.value v) w'):aa P E o w v w':=fun ρ h=>by
 have hargs:c.args.map ρ=vs.toArray:=by
  apply Array.ext';rw[Array.toList_map,fY h hx]
 unfold execOp;simp only[ho,resolve,hc,hargs,Sem.run_bind,Sem.run_pure,Result.andThen_ok,invoke];exact hb _
theorem aa.len {t:TypeId}{A:Option Addr}{n c:Nat}(ho:o.op= .call {callee:= .builtin .len,args:= #[x],argTypes:= #[t]}) (hx:E x=some (.slice A n c)) {e:TypeId} (hT:P.underlying t=some (.slice e)):aa P E o w (.int .i64 (n:Int)) w:=
 .fR ho rfl (vs:=[.slice A n c]) (by simp only[fc,hx]) (fun cs=>by simp[builtin,Builtin.len_,run_underlying hT,goInt])
theorem aa.B7 {t:TypeId}{s:ByteArray}(ho:o.op= .call {callee:= .builtin .len,args:= #[x],argTypes:= #[t]}) (hx:E x=some (.string s)) (hT:P.underlying t=some .string):aa P E o w (.int .i64 (s.size:Int)) w:=
 .fR ho rfl (vs:=[.string s]) (by simp only[fc,hx]) (fun cs=>by simp[builtin,Builtin.len_,run_underlying hT,goInt])
theorem aa.min2 {ts:Array TypeId}(ho:o.op= .call {callee:= .builtin .min,args:= #[x,y],argTypes:=ts}) (hx:E x=some (.int k p)) (hy:E y=some (.int k q)):aa P E o w (.int k (min p q)) w:=
 .fR ho rfl (vs:=[.int k p, .int k q]) (by simp only[fc,hx,hy]) (fun cs=>by
  have:(if q<p then q else p)=min p q:=by omega
  simp[builtin,Builtin.min_,Builtin.min2,this])
theorem aa.max2 {ts:Array TypeId}(ho:o.op= .call {callee:= .builtin .max,args:= #[x,y],argTypes:=ts}) (hx:E x=some (.int k p)) (hy:E y=some (.int k q)):aa P E o w (.int k (max p q)) w:=
 .fR ho rfl (vs:=[.int k p, .int k q]) (by simp only[fc,hx,hy]) (fun cs=>by
  have:(if p<q then q else p)=max p q:=by omega
  simp[builtin,Builtin.max_,Builtin.max2,this])
/-! memory -/
theorem aa.jN {ad:Addr}{d:TypeDesc}(ho:o.op= .load T x)(hx:E x=some (.pointer (some ad)))(hT:P.underlying T=some d)(hd:(match d with| .struct _| .array _ _=>true|_=>false)=false)(hc:w.cell? ad=some v):aa P E o w v w:=fun ρ h=>by
 unfold execOp;simp only[ho];rw[h _ _ hx]
 cases d<;>first|(simp at hd;done)|(simp[Instr.loadAt,Instr.sureAddr,loadVar,isAgg,run_underlying hT,hc])
theorem aa.wY {ad:Addr}{d:TypeDesc}{i:TypeInfo}{cs:List Value}(ho:o.op= .load T x)(hx:E x=some (.pointer (some ad)))(hT:P.underlying T=some d)(hd:(match d with| .struct _| .array _ _=>true|_=>false)=true)(hi:P.info? T=some i)(hs:i.size=cs.length)
  (hc:∀j v,cs[j]? =some v→w.cell? (ad.add j)=some v):aa P E o w (.agg cs.toArray) w:=fun ρ h=>by
 unfold execOp;simp only[ho];rw[h _ _ hx];simp only[Instr.loadAt,Instr.sureAddr,Sem.run_bind,Sem.run_pure,Result.andThen_ok,kj w T d i ad cs hT hd hi hs hc]
theorem aa.xZ {z:Value}(ho:o.op= .alloc T)(hz:∀w,(zeroValue T).run P w= .ok z w):aa P E o w (.pointer (some ⟨w.heap.size,0,none⟩)) (w.alloc (.cells z.cells T)):=fun ρ h=>by
 unfold execOp;simp only[ho,Instr.alloc,Sem.run_bind,hz,Result.andThen_ok];rfl
theorem aa.BV (ho:o.op= .box T x)(hx:E x=some v):aa P E o w (.pointer (some ⟨w.heap.size,0,none⟩)) (w.alloc (.cells v.cells T)):=fun ρ h=>by
 unfold execOp;simp only[ho];rw[h _ _ hx];rfl
theorem aa.build {ps:Array (Nat × Operand)}{vs:List (Nat × Value)}(ho:o.op= .build T ps)(hx:x0 E ps.toList=some vs)(hb:(Instr.build T vs.toArray).run P w= .ok v w):aa P E o w v w:=fun ρ h=>by
 have hargs:ps.map (fun(i,x)=>(i,ρ x))=vs.toArray:=by
  apply Array.ext';rw[Array.toList_map,qy h hx]
 unfold execOp;simp only[ho,hargs,Sem.run_bind,hb,Result.andThen_ok];rfl
theorem aa.buildSlice {ps:Array (Nat × Operand)}{n:Nat}{vs:List (Nat × Value)}(ho:o.op= .buildSlice T n ps)(hx:x0 E ps.toList=some vs)(hb:(Instr.buildSlice T n vs.toArray).run P w= .ok v w'):aa P E o w v w':=fun ρ h=>by
 have hargs:ps.map (fun(i,x)=>(i,ρ x))=vs.toArray:=by
  apply Array.ext';rw[Array.toList_map,qy h hx]
 unfold execOp;simp only[ho,hargs,Sem.run_bind,hb,Result.andThen_ok];rfl
theorem aa.fieldAddr {i:Nat}{u:Value}(ho:o.op= .fieldAddr T x i)(hx:E x=some u)(hb:(Instr.fieldAt T u i).run P w= .ok v w):aa P E o w v w:=fun ρ h=>by
 unfold execOp;simp only[ho];rw[h _ _ hx];simp only[Sem.run_bind,hb,Result.andThen_ok];rfl
theorem aa.field {i:Nat}{u:Value}(ho:o.op= .field T x i)(hx:E x=some u)(hb:(Instr.field T u i).run P w= .ok v w):aa P E o w v w:=fun ρ h=>by
 unfold execOp;simp only[ho];rw[h _ _ hx];simp only[Sem.run_bind,hb,Result.andThen_ok];rfl
theorem aa.indexAddr {ad:Addr}{j n c e:Nat}{i:TypeInfo}(ho:o.op= .indexAddr T x y)(hx:E x=some (.slice (some ad) n c))(hy:E y=some (.int k p))(hT:P.underlying T=some (.slice e))(hi:P.info? e=some i)(hp:p=(j:Int))(hlt:j<n):
  aa P E o w (.pointer (some (ad.add (j*i.size)))) w:=fun ρ h=>by
 subst hp;unfold execOp;simp only[ho];rw[h _ _ hx,h _ _ hy];simp[Instr.indexAt,run_underlying hT,asIntOf,sizeOf,typeInfo,hi,hlt]
theorem aa.zT {s:ByteArray}{j:Nat}{c:UInt8}(ho:o.op= .index T x y)(hx:E x=some (.string s))(hy:E y=some (.int k p))(hT:P.underlying T=some .string)(hp:p=(j:Int))(hlt:s[j]? =some c):aa P E o w (.int .u8 (c.toNat:Int)) w:=fun ρ h=>by
 subst hp;unfold execOp;simp only[ho];rw[h _ _ hx,h _ _ hy];simp[Instr.index,run_underlying hT,asIntOf,hlt]
theorem aa.extract {i:Nat}{vs:Array Value}(ho:o.op= .extract x i)(hx:E x=some (.tuple vs))(hv:vs[i]? =some v):aa P E o w v w:=fun ρ h=>by
 unfold execOp;simp only[ho];rw[h _ _ hx];simp[Instr.extract,hv]
theorem aa.makeFunc {fn:Fn}{a b:Array Operand}{us bs:List Value}(ho:o.op= .makeFunc fn a b)(ha:fc E a.toList=some us)(hb:fc E b.toList=some bs)(hm:(Instr.makeFunc fn us.toArray bs.toArray).run P w= .ok v w):aa P E o w v w:=fun ρ h=>by
 have h1:a.map ρ=us.toArray:=by apply Array.ext';rw[Array.toList_map,fY h ha]
 have h2:b.map ρ=bs.toArray:=by apply Array.ext';rw[Array.toList_map,fY h hb]
 unfold execOp;simp only[ho,h1,h2,Sem.run_bind,hm,Result.andThen_ok];rfl
theorem tY.nE {ad:Addr}{u:Value}{i:TypeInfo}(ho:o.op= .store T x y)(hx:E x=some (.pointer (some ad)))(hy:E y=some v)(hi:P.info? T=some i)(hs:i.size=1)(h1:v.cells= #[v]) (ho1:v.oneCell'=true) (hc:w.cell? ad=some u) (hf:w.frozen? ad=false):
  tY P E o w (w.setCell ad v):=fun ρ h=>by
 unfold execOp;simp only[ho];rw[h _ _ hx,h _ _ hy]
 have hst:(storeCells ad [v]).run P w= .ok () (w.setCell ad v):=by
  have hadd:ad.add 0=ad:=rfl
  cases v<;>first|(simp[Value.oneCell'] at ho1;done)|(simp only[storeCells,store,Sem.run_bind,hadd];simp[Sem.run,hc,hf])
 have h2:(Instr.storeAt T (.pointer (some ad)) v).run P w= .ok () (w.setCell ad v):=by
  simp only[Instr.storeAt,Instr.sureAddr,storeVar,sizeOf,typeInfo,Sem.run_bind,Sem.run_pure,Result.andThen_ok,h1];simp[hi,hs,hst]
 simp only[Sem.run_bind,h2,Result.andThen_ok];rfl
theorem Enters.func {f:FuncId}{args:Array Operand}{ts:Array TypeId}{vs:List Value}(ho:o.op= .call {callee:= .value (.func f),args:=args,argTypes:=ts})(hf:E (.func f)=some (.func (.func f) #[] #[])) (hx:fc E args.toList=some vs)
  (he:∀args w,(callFunc f args).run P w= .ok (.enter f args) w):Enters P E o w f vs.toArray:=fun ρ h=>by
 have hargs:args.map ρ=vs.toArray:=by
  apply Array.ext';rw[Array.toList_map,fY h hx]
 unfold execOp;simp only[ho,resolve,h _ _ hf,Deferred.ofValue,hargs,Sem.run_bind,Sem.run_pure,Result.andThen_ok,invoke];simp[he]
theorem Enters.value {f:FuncId}{args:Array Operand}{ts:Array TypeId}{vs:List Value}{first cap:List Value}(ho:o.op= .call {callee:= .value x,args:=args,argTypes:=ts})(hf:E x=some (.func (.func f) first.toArray cap.toArray))(hx:fc E args.toList=some vs)
  (he:∀args w,(callFunc f args).run P w= .ok (.enter f args) w):Enters P E o w f (first++vs++cap).toArray:=fun ρ h=>by
 have hargs:args.map ρ=vs.toArray:=by
  apply Array.ext';rw[Array.toList_map,fY h hx]
 unfold execOp;simp only[ho,resolve,h _ _ hf,Deferred.ofValue,hargs,Sem.run_bind,Sem.run_pure,Result.andThen_ok,invoke];simp[he]
end
end Go.Proofs.YtigoimhndlnhfaaGreat
namespace Go.RowKit
theorem Below.step {w0 w w':World}(h:Below w0.heap.size w0 w)(hb:Below w.heap.size w w'):Below w0.heap.size w0 w':=h.trans (hb.mono h.size)
end Go.RowKit
namespace Go.Proofs.YtigoimhndlnhfaaGreat
open Go.RowKit
def jm (P:Program)(t:TypeId):Bool:=match P.info? t with|some i=>Nat.ble 1 i.size|none=>false
def b6 (P:Program)(t:TypeId)(n:Nat):Bool:=match P.info? t with|some i=>Nat.beq i.size n|none=>false
theorem bb {P:Program}{t:TypeId}{n:Nat}(h:b6 P t n=true):∃i,P.info? t=some i∧i.size=n:=by
 unfold b6 at h
 cases hi:P.info? t with
 |none=>rw[hi] at h;cases h
 |some i=>rw[hi] at h;exact⟨i,rfl,Nat.eq_of_beq_eq_true h⟩
def oN (fields:Array Field)(i:Nat):Option (TypeId × Nat):=(fields[i]?).map fun f=>(f.type,f.offset)
theorem qO {P:Program}{T i k t:Nat}{fields:Array Field}(hT:P.underlying T=some (.struct fields))(hf:oN fields i=some (t,k))(hs:jm P t=true)(ad:Addr)(w:World):
  (Instr.fieldAt T (.pointer (some ad)) i).run P w= .ok (.pointer (some (ad.add k))) w:=by
 unfold oN at hf
 cases hfi:fields[i]? with
 |none=>rw[hfi] at hf;cases hf
 |some f=>
  rw[hfi] at hf;obtain⟨rfl,rfl⟩:f.type=t∧f.offset=k:=by injection hf with h;injection h with h1 h2;exact⟨h1,h2⟩
  obtain⟨inf,hi,hsz⟩:∃inf,P.info? f.type=some inf∧1≤inf.size:=by
   unfold jm at hs
   cases h:P.info? f.type with
   |none=>rw[h] at hs;cases hs
   |some inf=>rw[h] at hs;exact⟨inf,rfl,Nat.le_of_ble_eq_true hs⟩
  simp[Instr.fieldAt,run_underlying hT,hfi,Instr.sureAddr,fieldPlace,sizeOf,typeInfo,hi,show¬inf.size=0 by omega]
section
variable {P:Program} {ops:Array Oper} {Q:Exit→Act→World→Prop} {rest:List Oper} {E:Operand→Option Value} {o:Oper} {n d:Nat} {F F':List (Nat × Value)} {w w':World} {v:Value} {x y:Operand} {T T':TypeId}
variable [Inhabited (List Deferred)]
theorem aa.eX {i t:Nat}(k:Nat){fields:Array Field}{ad:Addr}(ho:o.op= .fieldAddr T x i)(hx:E x=some (.pointer (some ad)))(hT:P.underlying T=some (.struct fields))(hf:oN fields i=some (t,k))(hs:jm P t=true):
  aa P E o w (.pointer (some (ad.add k))) w:= .fieldAddr ho hx (qO hT hf hs ad w)
theorem aa.aj {i t g:Nat}(k:Nat){fields:Array Field}(ho:o.op= .fieldAddr T x i)(hx:E x=some (.pointer (some ⟨g,0,none⟩)))(hT:P.underlying T=some (.struct fields))(hf:oN fields i=some (t,k))(hs:jm P t=true):
  aa P E o w (.pointer (some ⟨g,k,none⟩)) w:=by
 have h:=aa.eX (w:=w) k ho hx hT hf hs;have e:(⟨g,0,none⟩:Addr).add k=⟨g,k,none⟩:=by unfold Addr.add;split<;>simp_all
 rwa [e] at h
theorem aa.ak {g i:Nat}{cs:Array Value}{t:TypeId}{d:TypeDesc}(ho:o.op= .load T x)(hx:E x=some (.pointer (some ⟨g,i,none⟩)))(hT:P.underlying T=some d)(hd:(match d with| .struct _| .array _ _=>true|_=>false)=false)(hb:aE w g t cs)(hi:cs[i]? =some v):aa P E o w v w:=
 .jN ho hx hT hd ((hb.cell i).trans hi)
theorem aa.dx {g:Nat}{cs:Array Value}{t:TypeId}{d:TypeDesc}(ho:o.op= .load T x)(hx:E x=some (.pointer (some ⟨g,0,none⟩)))(hT:P.underlying T=some d)(hd:(match d with| .struct _| .array _ _=>true|_=>false)=true)(hb:aE w g t cs){m:Nat}(hs:b6 P T m=true)(hm:cs.size=m):aa P E o w (.agg cs) w:=by
 obtain⟨i,hi,hsz⟩:=bb hs
 exact .wY (cs:=cs.toList) ho hx hT hd hi (by simpa[hm] using hsz) (fun j v hj=>by
  have hadd:(⟨g,0,none⟩:Addr).add j=⟨g,j,none⟩:=by unfold Addr.add;split<;>simp_all
  rw[hadd,hb.cell j]
  simpa using hj)
structure zG (w w':World)(g:Nat)(T:TypeId)(cs:Array Value):Prop where
 ge:w.heap.size≤g
 an:aE w' g T cs
 below:Below w.heap.size w w'
theorem zG.lt {g:Nat}{cs:Array Value}(h:zG w w' g T cs):g<w'.heap.size:=h.an.lt
theorem j1 (w:World)(cs:Array Value)(T:TypeId):zG w (w.alloc (.cells cs T)) w.heap.size T cs:=⟨Nat.le_refl _,aE.new w T cs,(Below.refl _ _).alloc (Nat.le_refl _) _⟩
def br (P:Program)(t:TypeId):Option (Option Value):=(P.info? t).map (·.zero)
theorem wu {t:TypeId}{z:Value}(h:br P t=some (some z))(w:World):(zeroValue t).run P w= .ok z w:=by
 unfold br at h
 cases hi:P.info? t with
 |none=>rw[hi] at h;cases h
 |some i=>
  rw[hi] at h;have hz:i.zero=some z:=by injection h
  simp[zeroValue,typeInfo,hi,hz]
theorem Seq.alloc {z:Value}(ho:o.op= .alloc T)(hz:∀w,(zeroValue T).run P w= .ok z w)(hg:o.guard=none)(hd:o.dst=some d)(hn:Nat.blt d n=true)
  (h:∀g w',zG w w' g T z.cells→Seq P ops Q rest n ((d, .pointer (some ⟨g,0,none⟩))::F) w'):Seq P ops Q (o::rest) n F w:=
 Seq.val (aa.xZ ho hz) hg hd hn (h _ _ (j1 w _ T))
theorem Seq.box (ho:o.op= .box T x)(hx:dg F x=some v)(hg:o.guard=none)(hd:o.dst=some d)(hn:Nat.blt d n=true)
  (h:∀g w',zG w w' g T v.cells→Seq P ops Q rest n ((d, .pointer (some ⟨g,0,none⟩))::F) w'):Seq P ops Q (o::rest) n F w:=
 Seq.val (aa.BV ho hx) hg hd hn (h _ _ (j1 w _ T))
theorem Seq.buildSlice {ps:Array (Nat × Operand)}{m e:Nat}{vs:List (Nat × Value)}{cs:Array Value}(ho:o.op= .buildSlice T m ps)(hx:x0 (dg F) ps.toList=some vs)(hb:∀w,(Instr.buildSlice T m vs.toArray).run P w= .ok (.slice (some ⟨w.heap.size,0,none⟩) m m) (w.alloc (.cells cs e)))
  (hg:o.guard=none) (hd:o.dst=some d) (hn:Nat.blt d n=true)
  (h:∀g w',zG w w' g e cs→Seq P ops Q rest n ((d, .slice (some ⟨g,0,none⟩) m m)::F) w'):Seq P ops Q (o::rest) n F w:=
 Seq.val (aa.buildSlice ho hx (hb w)) hg hd hn (h _ _ (j1 w _ e))
def kc:Nat→List Value→List (Nat × Value)
 |_,[]=>[]
 |k,v::r=>(k,v)::kc (k+1) r
theorem pI (vs:List Value):∀k,kc k vs=(vs.zipIdx k).map fun x=>(x.2,x.1):=by
 induction vs with
 |nil=>intro k;rfl
 |cons v r ih=>intro k;simp[kc,ih]
def aC:List Value→List Value
 | []=>[]
 |v::r=>v.cells.toList++aC r
theorem qT (vs:List Value):vs.flatMap (fun v=>v.cells.toList)=aC vs:=by
 induction vs with
 |nil=>rfl
 |cons v r ih=>rw[List.flatMap_cons,ih];rfl
def pK (s:Nat):List Value→Prop
 | []=>True
 |v::r=>v.cells.size=s∧pK s r
theorem jX {s:Nat}:∀ {l:List Value},pK s l→∀v∈l,v.cells.size=s
 | [],_,_,h=>by cases h
 |v::r,h,u,hu=>by
  rcases List.mem_cons.1 hu with rfl|hu
  ·exact h.1
  ·exact jX h.2 u hu
theorem Seq.slice {ps:Array (Nat × Operand)}{m e s:Nat}{vs:List Value}{z:Value}(ho:o.op= .buildSlice T m ps)(hx:x0 (dg F) ps.toList=some (kc 0 vs))(hm:vs.length=m)(hT:P.underlying T=some (.slice e))(hs:b6 P e s=true)(hz:br P e=some (some z))(hs0:0<s)(hsm:m*s≤16777216)(hvs:pK s vs)
  (hg:o.guard=none) (hd:o.dst=some d) (hn:Nat.blt d n=true)
  (h:∀g w',zG w w' g e (aC vs).toArray→Seq P ops Q rest n ((d, .slice (some ⟨g,0,none⟩) m m)::F) w'):Seq P ops Q (o::rest) n F w:=by
 obtain⟨i,hi,hsz⟩:=bb hs;have hz':i.zero=some z:=by unfold br at hz;rw[hi] at hz;injection hz
 subst hm;rcases Nat.eq_zero_or_pos vs.length with h0|h0
 ·have:vs=[]:=List.eq_nil_of_length_eq_zero h0
  subst this;refine Seq.buildSlice (e:=e) (cs:= #[]) ho hx ?_ hg hd hn h;intro w;simp[Instr.buildSlice,run_underlying hT,sizeOf,typeInfo,hi,kc,Instr.fill,newRow];have:Array.map (fun(_:Nat)=>(default:Value)) (Array.range 0)= #[]:=Array.eq_empty_of_size_eq_zero (by simp);rw[this]
 ·refine Seq.buildSlice (e:=e) (cs:=(aC vs).toArray) ho hx (fun w=>run_buildSlice w T e vs.length _ _ i z hT hi hz' (by rw[hsz];omega) (by rw[hsz];exact Nat.ne_of_gt (Nat.mul_pos h0 hs0)) ?_) hg hd hn h
  rw[hsz,pI,←qT];exact Great.fill_whole hs0 vs _ (jX hvs) (by simp)
theorem aa.mP {k:IntKind}{g j m c e:Nat}{p:Int}(ho:o.op= .indexAddr T x y)(hx:E x=some (.slice (some ⟨g,0,none⟩) m c))(hy:E y=some (.int k p))(hT:P.underlying T=some (.slice e))(hs:b6 P e 1=true)(hp:p=(j:Int))(hlt:j<m):aa P E o w (.pointer (some ⟨g,j,none⟩)) w:=by
 obtain⟨i,hi,hsz⟩:=bb hs;have h:=aa.indexAddr (w:=w) ho hx hy hT hi hp hlt;rw[hsz,Nat.mul_one] at h;have e:(⟨g,0,none⟩:Addr).add j=⟨g,j,none⟩:=by unfold Addr.add;split<;>simp_all
 rwa [e] at h
theorem aa.aU {k:IntKind}{ad:Addr}{j m c e s:Nat}{p:Int}(ho:o.op= .indexAddr T x y)(hx:E x=some (.slice (some ad) m c))(hy:E y=some (.int k p))(hT:P.underlying T=some (.slice e))(hs:b6 P e s=true)(hp:p=(j:Int))(hlt:j<m):aa P E o w (.pointer (some (ad.add (j*s)))) w:=by
 obtain⟨i,hi,hsz⟩:=bb hs;have h:=aa.indexAddr (w:=w) ho hx hy hT hi hp hlt
 rwa [hsz] at h
theorem aa.gA {k:IntKind}{ad:Addr}{j m c e:Nat}{p:Int}(ho:o.op= .indexAddr T x y)(hx:E x=some (.slice (some ad) m c))(hy:E y=some (.int k p))(hT:P.underlying T=some (.slice e))(hs:b6 P e 1=true)(hp:p=(j:Int))(hlt:j<m):aa P E o w (.pointer (some (ad.add j))) w:=by
 have h:=aa.aU (w:=w) ho hx hy hT hs hp hlt
 rwa [Nat.mul_one] at h
structure gI (w w':World)(g:Nat)(T:TypeId)(cs:Array Value):Prop where
 an:aE w' g T cs
 grown:w.grownBy w' (some g)
 size:w'.heap.size=w.heap.size
theorem Ab {g i:Nat}{t:TypeId}{cs:Array Value}(hb:aE w g t cs)(v:Value):gI w (w.setCell ⟨g,i,none⟩ v) g t (cs.setIfInBounds i v):=
 ⟨hb.BQ i v,⟨rfl,rfl,rfl,by simp[World.setCell],fun k hk hne=>Below.heap_setCell w _ v k (fun e=>hne (by rw[e]))⟩,by simp[World.setCell]⟩
theorem gI.below {g B:Nat}{cs:Array Value}(h:gI w w' g T cs)(hB:B≤g)(hg:g<w.heap.size):Below B w w':=gh h.grown hB hg
theorem gI.gH {g B:Nat}{cs:Array Value}{w0:World}(h:gI w w' g T cs)(hb:Below B w0 w)(hB:B≤g)(hg:g<w.heap.size):Below B w0 w':=hb.trans (h.below hB hg)
theorem Seq.nE {g i:Nat}{t:TypeId}{cs:Array Value}{u:Value}(ho:o.op= .store T x y)(hx:dg F x=some (.pointer (some ⟨g,i,none⟩)))(hy:dg F y=some v)(hs:b6 P T 1=true)(h1:v.cells= #[v]) (ho1:v.oneCell'=true) (hb:aE w g t cs) (hc:cs[i]? =some u)
  (hg:o.guard=none) (hd:o.dst=none) (h:∀w',gI w w' g t (cs.setIfInBounds i v)→Seq P ops Q rest n F w'):Seq P ops Q (o::rest) n F w:=by
 obtain⟨inf,hi,hsz⟩:=bb hs;exact Seq.unit (tY.nE ho hx hy hi hsz h1 ho1 ((hb.cell i).trans hc) (hb.frozen i)) hg hd (h _ (Ab hb v))
def bt:List Value→Prop
 | []=>True
 |v::r=>v.oneCell'=true∧bt r
theorem pr:∀ {l:List Value},bt l→∀u∈l,u.oneCell'=true
 | [],_,_,h=>by cases h
 |v::r,h,u,hu=>by
  rcases List.mem_cons.1 hu with rfl|hu
  ·exact h.1
  ·exact pr h.2 u hu
theorem Seq.ij {g off m:Nat}{t:TypeId}{cs cur:Array Value}(ho:o.op= .store T x y)(hx:dg F x=some (.pointer (some ⟨g,off,none⟩)))(hy:dg F y=some v)(hcs:v.cells=cs)(hs:b6 P T m=true)(hm:cs.size=m)(h1:bt cs.toList)(hb:aE w g t cur)(hfit:off+cs.size≤cur.size)
  (hg:o.guard=none) (hd:o.dst=none) (h:∀w',gI w w' g t (cur.toList.take off++(cs.toList++cur.toList.drop (off+cs.size))).toArray→Seq P ops Q rest n F w'):Seq P ops Q (o::rest) n F w:=by
 intro a ha;obtain⟨inf,hi,hsz⟩:=bb hs;refine wpList_store_row hg T x y ho hd g off (ha.ev _ _ hx) cs (by rw[ha.ev _ _ hy,hcs]) inf hi (hsz.trans hm.symm) (pr h1) t cur hb hfit fun w' h1 h2 h3=>h w' ⟨h1,h2,h3⟩ a ha
end
section
variable {P:Program} {ops:Array Oper} {Q:Exit→Act→World→Prop} {rest:List Oper} {E:Operand→Option Value} {o:Oper} {n d:Nat} {F F':List (Nat × Value)} {w w':World} {v:Value} {x y:Operand} {T T':TypeId}
theorem ab.BO {fn:Func}{R:Ending→World→Prop}{e:Exit}{p g:Nat}{ty t:TypeId}{cs:Array Value}{dsc:TypeDesc}(hr:fn.results= #[.cell p ty]) (hl:look F p=some (.pointer (some ⟨g,0,none⟩))) (hb:aE w g t cs) (hu:P.underlying ty=some dsc)
  (hd:(match dsc with| .struct _| .array _ _=>true|_=>false)=true) {m:Nat} (hs:b6 P ty m=true) (hm:cs.size=m) (he:e= .ret∨e= .normal) (h:R (.returned (.agg cs)) w):ab (bodyPost P fn R) e n F w:=
 ab.end_ (fun a ha=>results_cell_row hr _ _ g t cs (0,0) dsc (by simp[ha.slot p _ hl]) hb hu hd (by obtain⟨inf,hi,hsz⟩:=bb hs;rw[hi,hm,←hsz];rfl)) he h
theorem ab.fW {fn:Func}{R:Ending→World→Prop}{e:Exit}{p q g:Nat}{ty t:TypeId}{cs:Array Value}{dsc:TypeDesc}(hr:fn.results= #[.cell p ty, .tmp q]) (hl:look F p=some (.pointer (some ⟨g,0,none⟩))) (hq:look F q=some v) (hb:aE w g t cs) (hu:P.underlying ty=some dsc)
  (hd:(match dsc with| .struct _| .array _ _=>true|_=>false)=true) {m:Nat} (hs:b6 P ty m=true) (hm:cs.size=m) (he:e= .ret∨e= .normal) (h:R (.returned (.tuple #[.agg cs,v])) w):ab (bodyPost P fn R) e n F w:=
 ab.end_ (fun a ha=>by
  have hp':a.tmps[p]?.getD undef= .pointer (some ⟨g,0,none⟩):=by simp[ha.slot p _ hl]
  have e:=run_loadVar_row (P:=P) w g t ty cs (0,0) dsc hb hu (by cases dsc<;>first|rfl|(simp at hd)) (by obtain⟨inf,hi,hsz⟩:=bb hs;rw[hi,hm,←hsz];rfl);simp[results,hr,hp',asAddr,e,ha.slot q _ hq]) he h
end
/-! What was known stays known. -/
end Go.Proofs.YtigoimhndlnhfaaGreat
namespace Go.RowKit
open Go.Proofs.YtigoimhndlnhfaaGreat
theorem Below.put {w0 w w':World}{g:Nat}{T:TypeId}{cur cs:Array Value}(h:Below w0.heap.size w0 w)(k:aE w g T cur)(p:gI w w' g T cs)(e:w0.heap.size≤g):Below w0.heap.size w0 w':=p.gH h e k.lt
end Go.RowKit
namespace Go.Proofs.YtigoimhndlnhfaaGreat
open Go.RowKit
theorem aE.step {w w':World}{g:Nat}{T:TypeId}{cs:Array Value}(h:aE w g T cs)(hb:Below w.heap.size w w'):aE w' g T cs:=h.below hb h.lt
theorem aE.put {w w':World}{g g':Nat}{T T':TypeId}{cs cs':Array Value}(h:aE w g T cs)(hp:gI w w' g' T' cs')(hne:g≠g'):aE w' g T cs:=h.grown hp.grown (fun e=>hne (by injection e))
open Go.RowKit
variable [Inhabited (List Deferred)]
def jl:List Edge→List Nat
 | []=>[]
 |e::r=>bif Region.binds .any e then e.on::jl r else jl r
def direct (o:Oper):List Nat:=jl o.after.toList
theorem rE {l:List Edge}{j:Nat}:j∈jl l↔∃e∈l,Region.binds .any e=true∧e.on=j:=by
 induction l with
 |nil=>simp[jl]
 |cons e r ih=>
  unfold jl
  cases h:Region.binds .any e
  ·rw[cond_false,ih]
   constructor
   ·rintro⟨x,h1,h2,h3⟩;exact⟨x,List.mem_cons_of_mem _ h1,h2,h3⟩
   ·rintro⟨x,h1,h2,h3⟩
    rcases List.mem_cons.1 h1 with rfl|h1
    ·rw[h] at h2;cases h2
    ·exact⟨x,h1,h2,h3⟩
  ·rw[cond_true,List.mem_cons,ih]
   constructor
   ·rintro(rfl|⟨x,h1,h2,h3⟩)
    ·exact⟨e,List.mem_cons_self,h,rfl⟩
    ·exact⟨x,List.mem_cons_of_mem _ h1,h2,h3⟩
   ·rintro⟨x,h1,h2,h3⟩
    rcases List.mem_cons.1 h1 with rfl|h1
    ·exact .inl h3.symm
    ·exact .inr ⟨x,h1,h2,h3⟩
theorem gY {o:Oper}{j:Nat}:j∈direct o↔∃e∈o.after,Region.binds .any e=true∧e.on=j:=by
 unfold direct;rw[rE];simp
inductive Fact where
 |eq (v:Value)
 |sat (Φ:Value→World→Prop)
def Fact.holds:Fact→Value→World→Prop
 | .eq v,u,_=>u=v
 | .sat Φ,u,w=>Φ u w
abbrev Env:=List (Nat × Option Nat × Fact)
def Env.find:Env→Nat→Option (Option Nat × Fact)
 | [],_=>none
 |(i,d,f)::r,j=>bif Nat.beq i j then some (d,f) else Env.find r j
def aT:List Nat→Nat→Bool
 | [],_=>false
 |x::r,j=>bif Nat.beq x j then true else aT r j
theorem ax {l:List Nat}{j:Nat}(h:aT l j=true):j∈l:=by
 induction l with
 |nil=>cases h
 |cons x r ih=>
  unfold aT at h
  cases hb:Nat.beq x j with
  |true=>exact List.mem_cons.2 (.inl (Nat.eq_of_beq_eq_true hb).symm)
  |false=>rw[hb] at h;exact List.mem_cons.2 (.inr (ih h))
theorem qj {l:List Nat}{j:Nat}(h:j∈l):aT l j=true:=by
 induction l with
 |nil=>cases h
 |cons x r ih=>
  unfold aT
  cases hb:Nat.beq x j with
  |true=>rfl
  |false=>
   rcases List.mem_cons.1 h with rfl|h
   ·exact absurd rfl (Nat.ne_of_beq_eq_false hb)
   ·exact ih h
def nR (F0:List (Nat × Value))(ds:List Nat)(t:Nat):Env→Option Value
 | []=>look F0 t
 |(j,some d, .eq v)::r=>bif Nat.beq d t then(bif aT ds j then some v else none) else nR F0 ds t r
 |(_,some d, .sat _)::r=>bif Nat.beq d t then none else nR F0 ds t r
 |(_,none,_)::r=>nR F0 ds t r
def kQ (X F0:List (Nat × Value))(Γ:Env)(o:Oper):Operand→Option Value
 | .tmp t=>match look X t with
  |some v=>some v
  |none=>nR F0 (direct o) t Γ
 | .const v=>some v
 | .global g=>some (.pointer (some ⟨g,0,none⟩))
 | .func f=>some (.func (.func f) #[] #[])
section
variable (P:Program) (ops:Array Oper) (Q:Exit→Act→World→Prop) (n:Nat) (F0:List (Nat × Value)) (G:World→World→Prop) (w0:World)
def ko (Γ:Env)(S:Nat→Prop)(a:Act)(w:World):Prop:=∀j d f,Env.find Γ j=some (d,f)→S j→∃u,(∀t,d=some t→a.tmps[t]? =some u)∧f.holds u w
def kd (X:List (Nat × Value))(W:World→Prop)(Γ:Env)(o:Oper)(f:Fact):Prop:=∀a w,a.tmps.size=n→G w0 w→W w→ko Γ (· ∈direct o) a w→(∀t v,look F0 t=some v→a.tmps[t]? =some v)→(∀t v,look X t=some v→a.tmps[t]? =some v)→
 if Region.wanted o (yielded ops a.tmps) then o.wp P a w (fun a' w'=>∃u,a'=a.put o.dst u∧G w w'∧f.holds u w') Q else f.holds undef w
def bH (tail:List Oper)(X:List (Nat × Value))(W:World→Prop)(Γ:Env):Prop:=∀a w,a.tmps.size=n→a.defers=default→G w0 w→W w→ko Γ (fun _=>True) a w→(∀t v,look F0 t=some v→a.tmps[t]? =some v)→(∀t v,look X t=some v→a.tmps[t]? =some v)→wpList P ops Q tail a w
def Fact.jP:Fact→Prop
 | .eq _=>True
 | .sat Φ=>∀v w w',G w w'→Φ v w→Φ v w'
def yY (X:List (Nat × Value))(W:World→Prop)(Γ:Env)(o:Oper)(f:Fact):Prop:=∃v,f= .eq v∧∀a w,a.tmps.size=n→G w0 w→W w→ko Γ (· ∈direct o) a w→(∀t v,look F0 t=some v→a.tmps[t]? =some v)→(∀t v,look X t=some v→a.tmps[t]? =some v)→Yields P ops o v a
def B8 (AL:List Nat)(Γ:Env)(S:Nat→Prop)(a:Act):Prop:=∀i j di dj fi fj gi gj,i≠j→Env.find Γ i=some (some di,fi)→Env.find Γ j=some (some dj,fj)→aT AL i=true→aT AL j=true→S i→S j→
 a.tmps[di]? =some (.pointer (some ⟨gi,0,none⟩))→a.tmps[dj]? =some (.pointer (some ⟨gj,0,none⟩))→gi≠gj
def AF (AL:List Nat)(Γ:Env)(S:Nat→Prop)(a:Act)(w:World):Prop:=∀i di fi gi,Env.find Γ i=some (some di,fi)→aT AL i=true→S i→a.tmps[di]? =some (.pointer (some ⟨gi,0,none⟩))→gi<w.heap.size
def BW (AL:List Nat)(tail:List Oper)(X:List (Nat × Value))(W:World→Prop)(Γ:Env):Prop:=∀a w,a.tmps.size=n→a.defers=default→G w0 w→W w→ko Γ (fun _=>True) a w→(∀t v,look F0 t=some v→a.tmps[t]? =some v)→(∀t v,look X t=some v→a.tmps[t]? =some v)→B8 AL Γ (fun _=>True) a→wpList P ops Q tail a w
def fO (L:List Nat)(B:Env→Prop):Nat→List Oper→Env→Prop
 |_,[],Γ=>B Γ
 |k,o::r,Γ=>∃f,Fact.jP G f∧kd P ops Q n F0 G w0 [] (fun _=>True) Γ o f∧(aT L k=true→yY P ops n F0 G w0 [] (fun _=>True) Γ o f)∧fO L B (k+1) r ((k,o.dst,f)::Γ)
end
def iz (k:Nat):List Nat→Bool
 | []=>true
 |x::r=>bif Nat.blt x k then iz k r else false
theorem cC {k:Nat}{l:List Nat}(h:iz k l=true):∀x∈l,x<k:=by
 induction l with
 |nil=>intro x hx;cases hx
 |cons y r ih=>
  unfold iz at h
  cases hb:Nat.blt y k with
  |false=>rw[hb] at h;cases h
  |true=>
   rw[hb] at h;intro x hx;rcases List.mem_cons.1 hx with rfl|hx
   ·exact Nat.blt_eq.mp hb
   ·exact ih h x hx
def ft (n:Nat)(keys:List Nat):Nat→List Nat→List Oper→Bool
 |_,_,[]=>true
 |k,ds,o::r=>bif iz k (direct o) then(match o.dst with
  |some d=>bif Nat.blt d n&& !aT ds d&& !aT keys d then ft n keys (k+1) (d::ds) r else false
  |none=>ft n keys (k+1) ds r) else false
def kL:Nat→List Oper→Bool
 |_,[]=>true
 |k,o::r=>bif iz k (direct o)&&aT (direct o) (k-1) then kL (k+1) r else false
def hasNext (L:List Nat)(j:Nat):Nat→List Oper→Bool
 |_,[]=>false
 |i,o::r=>bif aT (direct o) j&& !aT L i then true else hasNext L j (i+1) r
def my (L:List Nat):Nat→List Oper→List Oper→Bool
 |_,[],_=>true
 |j,_::r,t=>bif aT L j||hasNext L j (j+1) (r++t) then my L (j+1) r t else false
def kO (ops:Array Oper)(i:Nat)(o:Oper):Nat→List Oper→Bool
 |_,[]=>true
 |j,x::r=>(Nat.beq i j||aT (direct x) i||aT (direct o) j||o.apart ops x)&&kO ops i o (j+1) r
def jf (ops:Array Oper):List Nat→Bool
 | []=>true
 |i::r=>(match ops[i]? with
  |some o=>kO ops i o 0 ops.toList
  |none=>false)&&jf ops r
def pT:List Oper→Bool
 | []=>true
 |o::r=>(match o.op with| .select .. =>false|_=>true)&&pT r
def jT (n:Nat)(keys:List Nat)(L:List Nat)(init tail:List Oper):Bool:=ft n keys 0 [] init&&(match tail with
 | []=>true
 |o::r=>iz init.length (direct o)&&my L 0 init [o]&&kL (init.length+1) r)&&iz init.length L&&(match L with
 | []=>true
 |_=>jf (init++tail).toArray L&&pT (init++tail))
def gy:List (Nat × Value)→List Nat
 | []=>[]
 |(k,_)::r=>k::gy r
theorem fy {F:List (Nat × Value)}{t:Nat}{v:Value}(h:look F t=some v):t∈gy F:=by
 induction F with
 |nil=>cases h
 |cons p r ih=>
  obtain⟨k,u⟩:=p;rcases bA h with ⟨rfl,-⟩|⟨-,h⟩
  ·exact List.mem_cons.2 (.inl rfl)
  ·exact List.mem_cons.2 (.inr (ih h))
theorem dG {n:Nat}{keys:List Nat}:∀ {l:List Oper} {k:Nat} {ds:List Nat},ft n keys k ds l=true→∀i o,l[i]? =some o→(∀x∈direct o,x<k+i)∧(∀d,o.dst=some d→d<n∧d∉ds∧d∉keys∧∀i' o',l[i']? =some o'→i'≠i→o'.dst≠some d)
 | [],_,_,_,i,o,ho=>by simp at ho
 |o::r,k,ds,h,i,o1,ho=>by
  unfold ft at h
  cases h1:iz k (direct o) with
  |false=>rw[h1] at h;cases h
  |true=>
   rw[h1] at h
   cases hd:o.dst with
   |none=>
    rw[hd] at h;have ih:=dG (l:=r) h
    cases i with
    |zero=>
     obtain rfl:o=o1:=by simpa using ho
     exact⟨cC h1,fun d e=>by rw[hd] at e;cases e⟩
    |succ i=>
     have ho':r[i]? =some o1:=by simpa using ho
     obtain⟨a1,a2⟩:=ih i o1 ho';refine⟨fun x hx=>by have:=a1 x hx;omega,fun d e=> ?_⟩;obtain⟨b1,b2,b3,b4⟩:=a2 d e;refine⟨b1,b2,b3,fun i' o' h' hne=> ?_⟩
     cases i' with
     |zero=>
      obtain rfl:o=o':=by simpa using h'
      rw[hd];simp
     |succ i'=>exact b4 i' o' (by simpa using h') (by omega)
   |some d0=>
    rw[hd] at h;simp only at h
    cases hc:(Nat.blt d0 n&& !aT ds d0&& !aT keys d0) with
    |false=>rw[hc] at h;cases h
    |true=>
     rw[hc] at h;simp only[Bool.and_eq_true,Bool.not_eq_true'] at hc;obtain⟨⟨c1,c2⟩,c3⟩:=hc;have ih:=dG (l:=r) h
     cases i with
     |zero=>
      obtain rfl:o=o1:=by simpa using ho
      refine⟨cC h1,fun d e=> ?_⟩;obtain rfl:d0=d:=by rw[hd] at e;injection e
      refine⟨Nat.blt_eq.mp c1,(fun hm=>by rw[qj hm] at c2;cases c2),(fun hm=>by rw[qj hm] at c3;cases c3),fun i' o' h' hne=> ?_⟩
      cases i' with
      |zero=>exact absurd rfl hne
      |succ i'=>
       intro e';exact((ih i' o' (by simpa using h')).2 d0 e').2.1 (List.mem_cons.2 (.inl rfl))
     |succ i=>
      have ho':r[i]? =some o1:=by simpa using ho
      obtain⟨a1,a2⟩:=ih i o1 ho';refine⟨fun x hx=>by have:=a1 x hx;omega,fun d e=> ?_⟩;obtain⟨b1,b2,b3,b4⟩:=a2 d e;refine⟨b1,fun hm=>b2 (List.mem_cons.2 (.inr hm)),b3,fun i' o' h' hne=> ?_⟩
      cases i' with
      |zero=>
       obtain rfl:o=o':=by simpa using h'
       rw[hd];intro e';injection e' with e'
       exact b2 (List.mem_cons.2 (.inl e'.symm))
      |succ i'=>exact b4 i' o' (by simpa using h') (by omega)
theorem fp:∀ {l:List Oper} {k:Nat},kL k l=true→∀i o,l[i]? =some o→(∀x∈direct o,x<k+i)∧k+i-1∈direct o
 | [],_,_,i,o,ho=>by simp at ho
 |o::r,k,h,i,o1,ho=>by
  unfold kL at h
  cases hc:(iz k (direct o)&&aT (direct o) (k-1)) with
  |false=>rw[hc] at h;cases h
  |true=>
   rw[hc] at h;simp only[Bool.and_eq_true] at hc
   cases i with
   |zero=>
    obtain rfl:o=o1:=by simpa using ho
    exact⟨cC hc.1,ax hc.2⟩
   |succ i=>
    obtain⟨a1,a2⟩:=fp (l:=r) h i o1 (by simpa using ho);exact⟨fun x hx=>by have:=a1 x hx;omega,by rw[show k+(i+1)-1=k+1+i-1 from by omega];exact a2⟩
theorem kN {L:List Nat}{j:Nat}:∀ {l:List Oper} {k:Nat},hasNext L j k l=true→∃(i:Nat) (o:Oper),l[i]? =some o∧j∈direct o∧aT L (k+i)=false
 | [],_,h=>by cases h
 |o::r,k,h=>by
  unfold hasNext at h
  cases hb:(aT (direct o) j&& !aT L k) with
  |true=>
   simp only[Bool.and_eq_true,Bool.not_eq_true'] at hb;exact⟨0,o,rfl,ax hb.1,hb.2⟩
  |false=>
   rw[hb] at h;obtain⟨i,o',h1,h2,h3⟩:=kN (l:=r) h;exact⟨i+1,o',by simpa using h1,h2,by rw[show k+(i+1)=k+1+i from by omega];exact h3⟩
theorem ig {L:List Nat}:∀ {l t:List Oper} {k:Nat},my L k l t=true→∀j,j<l.length→aT L (k+j)=false→∃(i:Nat) (o:Oper),j<i∧(l++t)[i]? =some o∧k+j∈direct o∧aT L (k+i)=false
 | [],_,_,_,j,hj,_=>by simp at hj
 |o::r,t,k,h,j,hj,hL=>by
  unfold my at h
  cases hb:(aT L k||hasNext L k (k+1) (r++t)) with
  |false=>rw[hb] at h;cases h
  |true=>
   rw[hb] at h
   cases j with
   |zero=>
    rw[Nat.add_zero] at hL;rw[hL,Bool.false_or] at hb;obtain⟨i,o',h1,h2,h3⟩:=kN hb;exact⟨i+1,o',by omega,by simpa using h1,by simpa using h2,by rw[show k+(i+1)=k+1+i from by omega];exact h3⟩
   |succ j=>
    obtain⟨i,o',h1,h2,h3,h4⟩:=ig (l:=r) h j (by simpa using hj) (by rw[show k+1+j=k+(j+1) from by omega];exact hL);exact⟨i+1,o',by omega,by simpa using h2,by rw[show k+(j+1)=k+1+j from by omega];exact h3,by rw[show k+(i+1)=k+1+i from by omega];exact h4⟩
theorem jz {ops:Array Oper}{i:Nat}{o:Oper}:∀ {l:List Oper} {k:Nat},kO ops i o k l=true→∀j x,l[j]? =some x→i≠k+j→i∉direct x→k+j∉direct o→o.apart ops x=true
 | [],_,_,j,x,hx,_,_,_=>by simp at hx
 |y::r,k,h,j,x,hx,h1,h2,h3=>by
  simp only[kO,Bool.and_eq_true,Bool.or_eq_true] at h
  cases j with
  |zero=>
   obtain rfl:y=x:=by simpa using hx
   rcases h.1 with ((ha|ha)|ha)|ha
   ·exact absurd (Nat.eq_of_beq_eq_true ha) h1
   ·exact absurd (ax ha) h2
   ·exact absurd (ax ha) h3
   ·exact ha
  |succ j=>exact jz (l:=r) h.2 j x (by simpa using hx) (by omega) h2 (by rw[show k+1+j=k+(j+1) from by omega];exact h3)
theorem gW {ops:Array Oper}:∀ {L:List Nat},jf ops L=true→∀i o,aT L i=true→ops[i]? =some o→∀j x,ops[j]? =some x→i≠j→i∉direct x→j∉direct o→o.apart ops x=true
 | [],_,i,o,hi,_=>by cases hi
 |k::r,h,i,o,hi,ho=>by
  simp only[jf,Bool.and_eq_true] at h;intro j x hx h1 h2 h3;rcases List.mem_cons.1 (ax hi) with rfl|hm
  ·have h0:=h.1
   rw[ho] at h0;exact jz h0 j x (by simpa using hx) (by omega) h2 (by simpa using h3)
  ·exact gW h.2 i o (qj hm) ho j x hx h1 h2 h3
theorem j8:∀ {l:List Oper},pT l=true→∀(j:Nat) (o:Oper) cs b,l[j]? =some o→o.op≠ .select cs b
 | [],_,j,o,_,_,ho=>by simp at ho
 |x::r,h,j,o,cs,b,ho=>by
  simp only[pT,Bool.and_eq_true] at h
  cases j with
  |zero=>
   obtain rfl:x=o:=by simpa using ho
   intro e;rw[e] at h;exact absurd h.1 (by simp)
  |succ j=>exact j8 h.2 j o cs b (by simpa using ho)
section
variable {P:Program} {ops:Array Oper} {Q:Exit→Act→World→Prop} {n:Nat} {F0:List (Nat × Value)} {G:World→World→Prop} {w0:World}
theorem bR {listed:Array Bool}{j:Nat}:j∈Region.ready .any ops listed↔listed.getD j true=false∧∃o,ops[j]? =some o∧∀x∈direct o,listed.getD x false=true:=by
 rw[mem_ready]
 constructor
 ·rintro⟨h0,o,ho,h⟩
  refine⟨h0,o,ho,fun x hx=> ?_⟩;obtain⟨e,he,hb,rfl⟩:=gY.1 hx;exact h e he hb
 ·rintro⟨h0,o,ho,h⟩
  exact⟨h0,o,ho,fun e he hb=>h _ (gY.2 ⟨e,he,hb,rfl⟩)⟩
theorem getD_both {listed:Array Bool}{i:Nat}(h:listed.getD i true=false):listed.getD i false=false:=by
 rcases Nat.lt_or_ge i listed.size with hl|hl
 ·simp[hl] at h⊢;exact h
 ·simp[Array.getElem?_eq_none hl] at h
theorem nh {listed:Array Bool}{i:Nat}(hl:i<listed.size)(h:listed.getD i false=true):listed.getD i true=true:=by simp[hl] at h⊢;exact h
theorem eL {listed:Array Bool}{i:Nat}(d:Bool)(hl:i<listed.size):(listed.setIfInBounds i true).getD i d=true:=by simp[hl]
def left (listed:Array Bool):Nat→Nat
 |0=>0
 |k+1=>left listed k+(if listed.getD k true then 0 else 1)
theorem kA {listed:Array Bool}{i:Nat}(hl:i<listed.size)(h:listed.getD i true=false):∀k,left (listed.setIfInBounds i true) k+(if i<k then 1 else 0)=left listed k
 |0=>by simp[left]
 |k+1=>by
  have ih:=kA hl h k;unfold left
  by_cases hik:i=k
  ·subst hik
   rw[eL true hl,h];simp at ih⊢;omega
  ·rw[getD_set_ne true hik]
   by_cases h2:i<k
   ·rw[if_pos h2] at ih;rw[if_pos (show i<k+1 by omega)];omega
   ·rw[if_neg h2] at ih;rw[if_neg (show¬i<k+1 by omega)];omega
theorem js {listed:Array Bool}:∀ {k:Nat},left listed k=0→∀i,i<k→listed.getD i true=true
 |0,_,i,hi=>by omega
 |k+1,h,i,hi=>by
  unfold left at h;rcases Nat.lt_or_ge i k with h1|h1
  ·exact js (by omega) i h1
  ·obtain rfl:i=k:=by omega
   cases hb:listed.getD i true with
   |true=>rfl
   |false=>rw[hb] at h;simp at h
theorem nj {init tail:List Oper}(hops:ops=(init++tail).toArray)(h0:∀o,tail[0]? =some o→∀x∈direct o,x<init.length)(ht:∀i o,tail[i+1]? =some o→(∀x∈direct o,x<init.length+1+i)∧init.length+1+i-1∈direct o):
  ∀(fuel r:Nat) (listed:Array Bool) (a:Act) (w:World),listed.size=ops.size→r≤tail.length→(∀i,i<init.length+r→listed.getD i true=true)→(∀i,init.length+r≤i→i<ops.size→listed.getD i true=false)→tail.length≤r+fuel→
   wpList P ops Q (tail.drop r) a w→wpAny P .any ops Q fuel listed a w:=by
 have hsz:ops.size=init.length+tail.length:=by rw[hops];simp
 have hat:∀r,ops[init.length+r]? =tail[r]? :=fun r=>by rw[hops];simp[List.getElem?_append_right]
 have done:∀(listed:Array Bool),listed.size=ops.size→(∀i,i<ops.size→listed.getD i true=true)→Region.ready .any ops listed=[]:=by
  intro listed hl h;rw[List.eq_nil_iff_forall_not_mem];intro j hj;obtain⟨h1,o,ho,_⟩:=bR.1 hj;rw[h j (Array.getElem?_eq_some_iff.1 ho).1] at h1
  cases h1
 intro fuel
 induction fuel with
 |zero=>
  intro r listed a w hl hr h1 h2 hf hw;obtain rfl:r=tail.length:=by omega
  rw[List.drop_length] at hw;exact⟨done listed hl (fun i hi=>h1 i (by omega)),hw⟩
 |succ fuel ih=>
  intro r listed a w hl hr h1 h2 hf hw;rcases Nat.lt_or_ge r tail.length with hlt|hge
  ·have hro:tail[r]? =some tail[r]:=List.getElem?_eq_getElem hlt
   have hready:init.length+r∈Region.ready .any ops listed:=by
    refine bR.2 ⟨h2 _ (Nat.le_refl _) (by omega),tail[r],by rw[hat,hro],fun x hx=> ?_⟩
    have hlt':x<init.length+r:=by
     cases r with
     |zero=>have:=h0 _ hro x hx;omega
     |succ r=>have:=(ht r _ hro).1 x hx;omega
    have:=h1 x hlt'
    cases hb:listed.getD x false with
    |true=>rfl
    |false=>
     have hxl:x<listed.size:=by omega
     simp[hxl] at this hb;rw[this] at hb;cases hb
   refine⟨fun h=>(by rw[h] at hready;cases hready),fun i hi=> ?_⟩;obtain⟨g1,o,ho,g2⟩:=bR.1 hi;have hi':i<ops.size:=(Array.getElem?_eq_some_iff.1 ho).1
   have hir:i=init.length+r:=by
    rcases Nat.lt_or_ge i (init.length+r) with hh|hh
    ·rw[h1 i hh] at g1;cases g1
    ·rcases Nat.eq_or_lt_of_le hh with e|hgt
     ·exact e.symm
     ·exfalso
      obtain⟨q,rfl⟩:∃q,i=init.length+(q+1):=⟨i-init.length-1,by omega⟩;rw[hat] at ho;have h3:=g2 _ (ht q o ho).2;have h4:=h2 (init.length+1+q-1) (by omega) (by omega);rw[getD_both h4] at h3
      cases h3
   subst hir;rw[hat,hro] at ho;have e:tail.drop r=tail[r]::tail.drop (r+1):=List.drop_eq_getElem_cons hlt;rw[e] at hw
   have hstep:wpOp P ops Q (init.length+r) (wpList P ops Q (tail.drop (r+1))) a w:=by
    unfold wpOp;rw[hat,hro];exact hw
   refine wpOp_mono (fun a' w' hh=>ih (r+1) _ a' w' (by simp[hl]) (by omega) (fun i hi=> ?_) (fun i hi hi2=> ?_) (by omega) hh) hstep
   ·by_cases hir:init.length+r=i
    ·rw[←hir,eL true (by omega)]
    ·rw[getD_set_ne true hir];exact h1 i (by omega)
   ·rw[getD_set_ne true (by omega)];exact h2 i (by omega) hi2
  ·obtain rfl:r=tail.length:=by omega
   rw[List.drop_length] at hw;have:=done listed hl (fun i hi=>h1 i (by omega));exact⟨fun _=>hw,by rw[this];intro i hi;cases hi⟩
theorem fO.mono {L:List Nat}{B B':Env→Prop}(hB:∀Γ,B Γ→B' Γ):∀(l:List Oper) (k:Nat) (Γ:Env),fO P ops Q n F0 G w0 L B k l Γ→fO P ops Q n F0 G w0 L B' k l Γ
 | [],_,Γ,h=>hB Γ h
 |_::r,k,_,⟨f,h1,h2,h3,h4⟩=>⟨f,h1,h2,h3,fO.mono hB r (k+1) _ h4⟩
theorem fO.out {L:List Nat}{B:Env→Prop}:∀(l:List Oper) (k:Nat) (Γ:Env),(∀j,k≤j→Env.find Γ j=none)→fO P ops Q n F0 G w0 L B k l Γ→
  ∃Γ',B Γ'∧(∀j,j<k→Env.find Γ' j=Env.find Γ j)∧(∀j,k+l.length≤j→Env.find Γ' j=none)∧
   ∀i o,l[i]? =some o→∃f Γi,Env.find Γ' (k+i)=some (o.dst,f)∧Fact.jP G f∧kd P ops Q n F0 G w0 [] (fun _=>True) Γi o f∧(aT L (k+i)=true→yY P ops n F0 G w0 [] (fun _=>True) Γi o f)∧∀j,j<k+i→Env.find Γi j=Env.find Γ' j
 | [],k,Γ,hk,h=>⟨Γ,h,fun _ _=>rfl,fun j hj=>hk j (by simpa using hj),fun i o ho=>by simp at ho⟩
 |o::r,k,Γ,hk,h=>by
  obtain⟨f,hs,hstep,hlate,hr⟩:=h
  have hne:∀j,j≠k→Env.find ((k,o.dst,f)::Γ) j=Env.find Γ j:=fun j hj=>by
   show(bif Nat.beq k j then some (o.dst,f) else Env.find Γ j)=_
   cases hb:Nat.beq k j with
   |true=>exact absurd (Nat.eq_of_beq_eq_true hb).symm hj
   |false=>rfl
  have heq:Env.find ((k,o.dst,f)::Γ) k=some (o.dst,f):=by
   show(bif Nat.beq k k then some (o.dst,f) else Env.find Γ k)=_;rw[Nat.beq_refl];rfl
  obtain⟨Γ',h1,h2,h3,h4⟩:=fO.out r (k+1) _ (fun j hj=>by rw[hne j (by omega)];exact hk j (by omega)) hr;refine⟨Γ',h1,fun j hj=>by rw[h2 j (by omega),hne j (by omega)],fun j hj=>h3 j (by simp at hj;omega),fun i o' ho=> ?_⟩
  cases i with
  |zero=>
   obtain rfl:o=o':=by simpa using ho
   exact⟨f,Γ,by rw[Nat.add_zero,h2 k (by omega),heq],hs,hstep,hlate,fun j hj=>by rw[h2 j (by omega),hne j (by omega)]⟩
  |succ i=>
   obtain⟨f',Γi,a1,a2,a3,al,a4⟩:=h4 i o' (by simpa using ho);exact⟨f',Γi,by rw[show k+(i+1)=k+1+i from by omega];exact a1,a2,a3,by rw[show k+(i+1)=k+1+i from by omega];exact al,fun j hj=>a4 j (by omega)⟩
def vY (P:Program)(o:Oper):Prop:=o.guard=none∧(∃d,o.dst=some d)∧∃T z,o.op= .alloc T∧∀w,(zeroValue T).run P w= .ok z w
theorem vY.wp {o:Oper}{a:Act}{w:World}{R:Act→World→Prop}(h:vY P o)(hn:∀d,o.dst=some d→d<a.tmps.size){K:Value→World→Prop}(hR:∀a' w',R a' w'→∃u,a'=a.put o.dst u∧K u w')(hx:o.wp P a w R Q):
  o.wp P a w (fun a' w'=>∃u,a'=a.put o.dst u∧K u w'∧u= .pointer (some ⟨w.heap.size,0,none⟩)∧w.heap.size<w'.heap.size) Q:=by
 obtain⟨-,⟨d,hd⟩,T,z,ho,hz⟩:=h;have hr:(execOp a.eval o).run P w= .ok (.value (.pointer (some ⟨w.heap.size,0,none⟩))) (w.alloc (.cells z.cells T)):=aa.xZ (E:=fun _=>none) ho hz a.eval (fun x u hxu=>by cases hxu);unfold Oper.wp at hx⊢;rw[hr,Oper.upon_value] at hx⊢;obtain⟨u,e,hK⟩:=hR _ _ hx
 have hu:u= .pointer (some ⟨w.heap.size,0,none⟩):=by
  have:=congrArg (fun(b:Act)=>b.tmps[d]?) e;rw[hd] at this;simp[Act.put,hn d hd] at this;exact this.symm
 subst hu;exact⟨_,rfl,hK,rfl,by show w.heap.size<(w.heap.push _).size;rw[Array.size_push];omega⟩
theorem yp {id:Nat}(L AL:List Nat){init tail:List Oper}(hAL:∀i o,aT AL i=true→init[i]? =some o→vY P o)(hALL:∀i,aT AL i=true→aT L i=false)(hGs:AL=[]∨∀w w',G w w'→w.heap.size≤w'.heap.size)(hQ:L=[]∨∀c (a:Act) d v w,Q (.panic c) (a.put d v) w→Q (.panic c) a w)(hm:P.follows .mixedOrders=true)(hops:ops=(init++tail).toArray)(hchk:jT n (gy F0) L init tail=true)(Gt:∀a b c,G a b→G b c→G a c)(Gr:∀w,G w w)
  {w:World} (hw0:w0= {w with drawn:=w.drawn+1}) (h:fO P ops Q n F0 G w0 L (BW P ops Q n F0 G w0 AL tail [] (fun _=>True)) 0 init []) {a:Act} (ha:Fr n F0 a):(Code.region id ops true).wp P Q a w:=by
 refine wp_region_any hm ?_;rw[←hw0];simp only[jT,Bool.and_eq_true] at hchk;obtain⟨⟨⟨hc1,hc2⟩,hcL⟩,hcl⟩:=hchk;have hLlt:∀i,aT L i=true→i<init.length:=fun i hi=>cC hcL i (ax hi);have c1:=dG hc1;have hsz:ops.size=init.length+tail.length:=by rw[hops];simp
 have hat:∀i,i<init.length→ops[i]? =init[i]? :=fun i hi=>by rw[hops];simp[List.getElem?_append_left hi]
 have hat2:∀r,ops[init.length+r]? =tail[r]? :=fun r=>by rw[hops];simp[List.getElem?_append_right]
 obtain⟨Γ,hfin,-,hnone,hall⟩:=fO.out init 0 [] (fun _ _=>rfl) h
 -- the tail's edges
 have t0:∀o,tail[0]? =some o→∀x∈direct o,x<init.length:=by
  intro o ho
  cases tail with
  |nil=>simp at ho
  |cons o1 r=>
   obtain rfl:o1=o:=by simpa using ho
   simp only[Bool.and_eq_true] at hc2;exact cC hc2.1.1
 have ts:∀i o,tail[i+1]? =some o→(∀x∈direct o,x<init.length+1+i)∧init.length+1+i-1∈direct o:=by
  intro i o ho
  cases tail with
  |nil=>simp at ho
  |cons o1 r=>
   simp only[Bool.and_eq_true] at hc2;exact fp hc2.2 i o (by simpa using ho)
 have tm:∀o,tail[0]? =some o→∀j,j<init.length→aT L j=false→∃(i:Nat) (o':Oper),j<i∧i≤init.length∧ops[i]? =some o'∧j∈direct o'∧aT L i=false:=by
  intro o ho j hj hjL
  cases tail with
  |nil=>simp at ho
  |cons o1 r=>
   simp only[Bool.and_eq_true] at hc2;obtain⟨i,o',h1,h2,h3,h4⟩:=ig hc2.1.2 j hj (by rw[Nat.zero_add];exact hjL);rw[Nat.zero_add] at h3 h4;have hi:i<(init++[o1]).length:=(List.getElem?_eq_some_iff.1 h2).1;simp at hi;refine⟨i,o',h1,by omega,?_,h3,h4⟩;rcases Nat.lt_or_ge i init.length with hlt|hge
   ·rw[hat i hlt,←h2,List.getElem?_append_left hlt]
   ·obtain rfl:i=init.length:=by omega
    have:=hat2 0;rw[Nat.add_zero] at this;rw[this,←h2,List.getElem?_append_right (Nat.le_refl _)];simp
 have bothT:∀(listed:Array Bool) x,listed.size=ops.size→x<ops.size→listed.getD x true=true→listed.getD x false=true:=by
  intro listed x hl hx h;have hxl:x<listed.size:=by omega
  simp[hxl] at h⊢;exact h
 -- the first part
 have key:∀(fuel:Nat) (listed:Array Bool) (a:Act) (w:World),listed.size=ops.size→(∀i o,ops[i]? =some o→listed.getD i false=true→∀x∈direct o,listed.getD x false=true)→(∀i,init.length≤i→i<ops.size→listed.getD i true=false)→
   a.tmps.size=n→a.defers=default→G w0 w→ko Γ (fun j=>listed.getD j false=true) a w→(∀t v,look F0 t=some v→a.tmps[t]? =some v)→B8 AL Γ (fun j=>listed.getD j false=true) a→AF AL Γ (fun j=>listed.getD j false=true) a w→left listed ops.size≤fuel→wpAny P .any ops Q fuel listed a w:=by
  intro fuel
  induction fuel with
  |zero=>
   intro listed a w hl hdc hts hsize hdef hG hF hs hDs hWn hf;have hall1:=js (Nat.le_zero.1 hf)
   have hlen:init.length=ops.size:=by
    rcases Nat.lt_or_ge init.length ops.size with hh|hh
    ·have:=hall1 _ hh;rw[hts _ (Nat.le_refl _) hh] at this;cases this
    ·omega
   refine nj hops t0 ts 0 0 listed a w hl (Nat.zero_le _) (fun i hi=>hall1 i (by omega)) (fun i hi hi2=>by omega) (by omega) ?_;rw[List.drop_zero]
   have hlis:∀j d f,Env.find Γ j=some (d,f)→listed.getD j false=true:=fun j d f hj=>by
    rcases Nat.lt_or_ge j init.length with hh|hh
    ·exact bothT listed j hl (by omega) (hall1 j (by omega))
    ·rw[hnone j (by omega)] at hj;cases hj
   exact hfin a w hsize hdef hG trivial (fun j d f hj _=>hF j d f hj (hlis j d f hj)) hs (fun t v ht=>by simp[look] at ht) (fun i j di dj fi fj gi gj h1 h2 h3 h4 h5 _ _ h8 h9=>hDs i j di dj fi fj gi gj h1 h2 h3 h4 h5 (hlis i _ _ h2) (hlis j _ _ h3) h8 h9)
  |succ fuel ih=>
   intro listed a w hl hdc hts hsize hdef hG hF hs hDs hWn hf
   by_cases hdone:∀i,i<init.length→listed.getD i true=true
   ·refine nj hops t0 ts (fuel+1) 0 listed a w hl (Nat.zero_le _) (fun i hi=>hdone i (by omega)) (fun i hi hi2=>hts i (by omega) hi2) ?_ ?_
    ·
     have:∀k,k≤tail.length→left listed (init.length+k)=left listed init.length+k:=by
      intro k
      induction k with
      |zero=>intro _;rfl
      |succ k ihk=>
       intro hk;show left listed (init.length+k)+(if listed.getD (init.length+k) true then 0 else 1)=_;rw[ihk (by omega),hts (init.length+k) (by omega) (by omega)];simp;omega
     have:=this tail.length (Nat.le_refl _);rw[←hsz] at this;omega
    ·rw[List.drop_zero]
     have hlis:∀j d f,Env.find Γ j=some (d,f)→listed.getD j false=true:=fun j d f hj=>by
      rcases Nat.lt_or_ge j init.length with hh|hh
      ·exact bothT listed j hl (by omega) (hdone j hh)
      ·rw[hnone j (by omega)] at hj;cases hj
     exact hfin a w hsize hdef hG trivial (fun j d f hj _=>hF j d f hj (hlis j d f hj)) hs (fun t v ht=>by simp[look] at ht) (fun i j di dj fi fj gi gj h1 h2 h3 h4 h5 _ _ h8 h9=>hDs i j di dj fi fj gi gj h1 h2 h3 h4 h5 (hlis i _ _ h2) (hlis j _ _ h3) h8 h9)
   ·
    have hex:∃i,i∈Region.ready .any ops listed:=by
     have hex0:∃i,i<init.length∧listed.getD i true=false:=by
      refine Classical.byContradiction fun hno=>hdone fun i hi=> ?_
      cases hb:listed.getD i true with
      |true=>rfl
      |false=>exact absurd ⟨i,hi,hb⟩ hno
     have hmin:∀m i,i≤m→i<init.length→listed.getD i true=false→∃j,j<init.length∧listed.getD j true=false∧∀x,x<j→listed.getD x true=true:=by
      intro m
      induction m with
      |zero=>intro i hi h1 h2;exact⟨i,h1,h2,fun x hx=>by omega⟩
      |succ m ihm=>
       intro i hi h1 h2
       by_cases hx:∃x,x<i∧listed.getD x true=false
       ·obtain⟨x,hx1,hx2⟩:=hx
        exact ihm x (by omega) (by omega) hx2
       ·refine⟨i,h1,h2,fun x hx1=> ?_⟩
        cases hb:listed.getD x true with
        |true=>rfl
        |false=>exact absurd ⟨x,hx1,hb⟩ hx
     obtain⟨i0,hi0,hb0⟩:=hex0;obtain⟨j,hj1,hj2,hj3⟩:=hmin i0 i0 (Nat.le_refl _) hi0 hb0;refine⟨j,bR.2 ⟨hj2,init[j],by rw[hat j hj1,List.getElem?_eq_getElem hj1],fun x hx=> ?_⟩⟩;have hlt:x<j:=by have:=(c1 j _ (List.getElem?_eq_getElem hj1)).1 x hx;omega
     exact bothT listed x hl (by omega) (hj3 x hlt)
    -- what one of the first part's operations comes to
    have go:∀i o,i<init.length→i∈Region.ready .any ops listed→ops[i]? =some o→∃f:Fact,(if Region.wanted o (yielded ops a.tmps)=true then o.wp P a w (fun a' w'=>∃u,a'=a.put o.dst u∧G w w'∧f.holds u w'∧(aT AL i=true→u= .pointer (some ⟨w.heap.size,0,none⟩)∧w.heap.size<w'.heap.size)) Q else f.holds undef w∧aT AL i=false)∧
      (aT L i=true→∃v,f= .eq v∧Yields P ops o v a)∧∀u w',G w w'→f.holds u w'→(aT AL i=true→u= .pointer (some ⟨w.heap.size,0,none⟩)∧w.heap.size<w'.heap.size)→wpAny P .any ops Q fuel (listed.setIfInBounds i true) (a.put o.dst u) w':=by
     intro i o hlt hi ho;obtain⟨g1,o1,ho1,g2⟩:=bR.1 hi;rw[ho] at ho1;obtain rfl:o=o1:=by injection ho1
     have hi':i<ops.size:=(Array.getElem?_eq_some_iff.1 ho).1;have hoi:init[i]? =some o:=by rw[←hat i hlt];exact ho
     obtain⟨f,Γi,f1,f2,f3,fl,f4⟩:=hall i o hoi;rw[Nat.zero_add] at f1 f4 fl;obtain⟨d1,d2⟩:=c1 i o hoi;have hx:=f3 a w hsize hG trivial (fun j d f' hj hd=>hF j d f' (by rw[←f4 j (by have:=d1 j hd;omega)];exact hj) (g2 j hd)) hs (fun t v ht=>by simp[look] at ht)
     have hslot:∀u j d f,j≠i→Env.find Γ j=some (some d,f)→(a.put o.dst u).tmps[d]? =a.tmps[d]? :=by
      intro u j d f hji hj;rcases Nat.lt_or_ge j init.length with hh|hh
      ·have hoj:init[j]? =some init[j]:=List.getElem?_eq_getElem hh
       obtain⟨fj,Γj,q1,-⟩:=hall j _ hoj;rw[Nat.zero_add,hj] at q1;injection q1 with q1
       injection q1 with q1 _
       have hdj:init[j].dst=some d:=q1.symm;have hdi:o.dst≠some d:=fun hdi=>(d2 d hdi).2.2.2 j _ hoj hji hdj
       cases hd:o.dst with
       |none=>rfl
       |some d0=>
        have:d0≠d:=fun e'=>hdi (by rw[hd,e']);simp only[Act.put];rw[Array.getElem?_setIfInBounds_ne this]
      ·rw[hnone j (by omega)] at hj;cases hj
     -- what holds behind it
     have next:∀u w',G w w'→f.holds u w'→(aT AL i=true→u= .pointer (some ⟨w.heap.size,0,none⟩)∧w.heap.size<w'.heap.size)→wpAny P .any ops Q fuel (listed.setIfInBounds i true) (a.put o.dst u) w':=by
      intro u w' hG' hu hmk;refine ih _ _ _ (by simp[hl]) ?_ ?_ ?_ ?_ (Gt _ _ _ hG hG') ?_ ?_ ?_ ?_ ?_
      ·intro i2 o2 h1 h2 x hx2
       by_cases e:i=i2
       ·subst e
        rw[ho] at h1;obtain rfl:o=o2:=by injection h1
        exact getD_set_true (g2 x hx2)
       ·rw[getD_set_ne false e] at h2
        exact getD_set_true (hdc i2 o2 h1 h2 x hx2)
      ·intro i2 h1 h2
       rw[getD_set_ne true (by omega)];exact hts i2 h1 h2
      ·cases hd:o.dst<;>simp[Act.put,hsize]
      ·cases hd:o.dst<;>simp[Act.put,hdef]
      ·intro j d f' hj hjl
       by_cases e:i=j
       ·subst e
        rw[f1] at hj;injection hj with hj
        injection hj with e1 e2
        subst e1 e2;refine⟨u,fun t ht=> ?_,hu⟩;have:=(d2 t ht).1;rw[ht];simp[Act.put,hsize,this]
       ·rw[getD_set_ne false e] at hjl
        obtain⟨u',h1,h2⟩:=hF j d f' hj hjl;refine⟨u',fun t ht=> ?_,?_⟩
        ·rcases Nat.lt_or_ge j init.length with hh|hh
         ·have hoj:init[j]? =some init[j]:=List.getElem?_eq_getElem hh
          obtain⟨fj,Γj,q1,-⟩:=hall j _ hoj;rw[Nat.zero_add,hj] at q1;injection q1 with q1
          injection q1 with q1 _
          have hdj:init[j].dst=some t:=by rw[←q1];exact ht
          have hdi:o.dst≠some t:=fun hdi=>(d2 t hdi).2.2.2 j _ hoj (fun e'=>e e'.symm) hdj
          cases hd:o.dst with
          |none=>exact h1 t ht
          |some d0=>
           have:d0≠t:=fun e'=>hdi (by rw[hd,e']);simp only[Act.put];rw[Array.getElem?_setIfInBounds_ne this];exact h1 t ht
         ·rw[hnone j (by omega)] at hj;cases hj
        ·have hst:Fact.jP G f':=by
          rcases Nat.lt_or_ge j init.length with hh|hh
          ·obtain⟨fj,Γj,q1,q2,-⟩:=hall j _ (List.getElem?_eq_getElem hh)
           rw[Nat.zero_add,hj] at q1;injection q1 with q1
           injection q1 with _ q1
           rw[q1];exact q2
          ·rw[hnone j (by omega)] at hj;cases hj
         cases f' with
         |eq v=>exact h2
         |sat Φ=>exact hst u' w w' hG' h2
      ·intro t v ht
       cases hd:o.dst with
       |none=>exact hs t v ht
       |some d0=>
        have:d0≠t:=fun e'=>(d2 d0 hd).2.2.1 (by rw[e'];exact fy ht);simp only[Act.put];rw[Array.getElem?_setIfInBounds_ne this];exact hs t v ht
      ·
       intro j k dj dk fj fk gj gk hne h1 h2 h3 h4 h5 h6 h7 h8;have hkeep:∀j d f,j≠i→Env.find Γ j=some (some d,f)→(a.put o.dst u).tmps[d]? =a.tmps[d]? :=hslot u
       by_cases ej:i=j
       ·subst ej
        obtain⟨e1,e2⟩:=hmk h3;rw[f1] at h1;injection h1 with h1
        injection h1 with h1 _
        have hdn:=(d2 dj h1).1;rw[h1] at h7;simp[Act.put,hsize,hdn] at h7;rw[e1] at h7;injection h7 with h7
        injection h7 with h7
        injection h7 with h7
        rw[hkeep k dk fk (fun e=>hne e.symm) h2] at h8;rw[getD_set_ne false hne] at h6;have:=hWn k dk fk gk h2 h4 h6 h8;omega
       ·rw[hkeep j dj fj (fun e=>ej e.symm) h1] at h7
        rw[getD_set_ne false ej] at h5
        by_cases ek:i=k
        ·subst ek
         obtain⟨e1,e2⟩:=hmk h4;rw[f1] at h2;injection h2 with h2
         injection h2 with h2 _
         have hdn:=(d2 dk h2).1;rw[h2] at h8;simp[Act.put,hsize,hdn] at h8;rw[e1] at h8;injection h8 with h8
         injection h8 with h8
         injection h8 with h8
         have:=hWn j dj fj gj h1 h3 h5 h7;omega
        ·rw[hkeep k dk fk (fun e=>ek e.symm) h2] at h8
         rw[getD_set_ne false ek] at h6;exact hDs j k dj dk fj fk gj gk hne h1 h2 h3 h4 h5 h6 h7 h8
      ·intro j dj fj gj h1 h3 h5 h7
       by_cases ej:i=j
       ·subst ej
        obtain⟨e1,e2⟩:=hmk h3;rw[f1] at h1;injection h1 with h1
        injection h1 with h1 _
        have hdn:=(d2 dj h1).1;rw[h1] at h7;simp[Act.put,hsize,hdn] at h7;rw[e1] at h7;injection h7 with h7
        injection h7 with h7
        injection h7 with h7
        omega
       ·rw[hslot u j dj fj (fun e=>ej e.symm) h1] at h7
        rw[getD_set_ne false ej] at h5;have h9:=hWn j dj fj gj h1 h3 h5 h7;rcases hGs with e|hGs
        ·rw[e] at h3;cases h3
        ·exact Nat.lt_of_lt_of_le h9 (hGs _ _ hG')
      ·have:=kA (listed:=listed) (i:=i) (by omega) g1 ops.size
       rw[if_pos hi'] at this;omega
     refine⟨f,?_,fun hL=> ?_,next⟩
     ·cases hAi:aT AL i with
      |false=>
       by_cases hwant:Region.wanted o (yielded ops a.tmps)=true
       ·rw[if_pos hwant] at hx⊢
        exact Oper.wp_mono (fun a' w' ⟨u,e,h1,h2⟩=>⟨u,e,h1,h2,fun h=>by cases h⟩) hx
       ·rw[if_neg hwant] at hx⊢
        exact⟨hx,rfl⟩
      |true=>
       have hmk:=hAL i o hAi hoi;have hwant:Region.wanted o (yielded ops a.tmps)=true:=by unfold Region.wanted;rw[hmk.1]
       rw[if_pos hwant] at hx⊢;have:=hmk.wp (K:=fun u w'=>G w w'∧f.holds u w') (fun d hd=>by rw[hsize];exact(d2 d hd).1) (fun a' w' h=>h) hx;exact Oper.wp_mono (fun a' w' ⟨u,e,⟨h1,h2⟩,h3,h4⟩=>⟨u,e,h1,h2,fun _=>⟨h3,h4⟩⟩) this
     obtain⟨v,e,hy⟩:=fl hL;exact⟨v,e,hy a w hsize hG trivial (fun j d f' hj hd=>hF j d f' (by rw[←f4 j (by have:=d1 j hd;omega)];exact hj) (g2 j hd)) hs (fun t v ht=>by simp[look] at ht)⟩
    by_cases hlate:∃i,aT L i=true∧i∈Region.ready .any ops listed
    ·obtain⟨i,hiL,hi⟩:=hlate
     obtain⟨g1,o,ho,g2⟩:=bR.1 hi;obtain⟨f,-,hl2,next⟩:=go i o (hLlt i hiL) hi ho;obtain⟨v,rfl,hy⟩:=hl2 hiL
     have hcl':jf (init++tail).toArray L=true∧pT (init++tail)=true:=by
      cases L with
      |nil=>cases hiL
      |cons x r=>simpa using hcl
     rw[←hops] at hcl';have hup:listed.setIfInBounds i true=listed.setIfInBounds i true:=rfl;refine wpAny_first ho (fun j oj cs b hoj=>j8 hcl'.2 j oj cs b (by rw[hops] at hoj;simpa using hoj)) (fun c a w h=>by rcases hQ with e|hQ;(rw[e] at hiL;cases hiL);exact hQ c a _ _ w h) fuel listed a w (fun j oj hoj hne hun hno=> ?_) hi hy (next v w (Gr w) rfl (fun h=>by have:=hALL i h;rw[hiL] at this;cases this));refine gW hcl'.1 i o hiL ho j oj hoj (Ne.symm hne) (fun hm=> ?_) (fun hm=> ?_)
     ·obtain⟨e,he,hb,h1⟩:=gY.1 hm
      exact hno e he hb h1
     ·have:=g2 j hm
      rw[getD_both hun] at this
      cases this
    refine⟨(fun hnil=>by obtain⟨i,hi⟩:=hex;rw[hnil] at hi;cases hi),fun i hi=> ?_⟩;obtain⟨g1,o,ho,g2⟩:=bR.1 hi;have hi':i<ops.size:=(Array.getElem?_eq_some_iff.1 ho).1
    have hlt:i<init.length:=by
     rcases Nat.lt_or_ge i init.length with hh|hh
     ·exact hh
     ·exfalso
      apply hdone
      -- then all before it have come up
      have hi0:i=init.length:=by
       rcases Nat.eq_or_lt_of_le hh with e|hgt
       ·exact e.symm
       ·exfalso
        obtain⟨q,rfl⟩:∃q,i=init.length+(q+1):=⟨i-init.length-1,by omega⟩;rw[hat2] at ho;have h3:=g2 _ (ts q o ho).2;rw[getD_both (hts (init.length+1+q-1) (by omega) (by omega))] at h3
        cases h3
      subst hi0;have ho2:tail[0]? =some o:=by have:=hat2 0;rw[Nat.add_zero] at this;rw[←this,ho]
      have down:∀q j,init.length-j≤q→j<init.length→aT L j=false→listed.getD j false=true:=by
       intro q
       induction q with
       |zero=>intro j h1 h2 _;omega
       |succ q ihq=>
        intro j h1 h2 hjL;obtain⟨i2,o2,b1,b2,b3,b4,b5⟩:=tm o ho2 j h2 hjL;rcases Nat.eq_or_lt_of_le b2 with e|hlt2
        ·subst e
         rw[ho] at b3;obtain rfl:o=o2:=by injection b3
         exact g2 j b4
        ·exact hdc i2 o2 b3 (ihq i2 (by omega) hlt2 b5) j b4
      -- and of those that may come late none is left, as it could come up
      have all:∀q j,j≤q→j<init.length→listed.getD j false=true:=by
       intro q
       induction q using Nat.strongRecOn with
       |_ q ihq=>
        intro j hjq hj
        cases hjL:aT L j with
        |false=>exact down _ j (Nat.le_refl _) hj hjL
        |true=>
         cases hun:listed.getD j true with
         |true=>exact bothT listed j hl (by omega) hun
         |false=>
          exfalso;refine hlate ⟨j,hjL,bR.2 ⟨hun,init[j],by rw[hat j hj,List.getElem?_eq_getElem hj],fun x hx=> ?_⟩⟩;have hlt:x<j:=by have:=(c1 j _ (List.getElem?_eq_getElem hj)).1 x hx;omega
          exact ihq x (by omega) x (Nat.le_refl _) (by omega)
      intro j hj;exact nh (by omega) (all j j (Nat.le_refl _) hj)
    obtain⟨f,hx,-,next⟩:=go i o hlt hi ho;unfold wpOp;rw[ho];simp only
    by_cases hwant:Region.wanted o (yielded ops a.tmps)=true
    ·rw[if_pos hwant] at hx⊢
     exact .inl (Oper.wp_mono (fun a' w' ⟨u,e,h1,h2,h3⟩=>by rw[e];exact next u w' h1 h2 h3) hx)
    ·rw[if_neg hwant] at hx⊢
     exact next undef w (Gr w) hx.1 (fun h=>by rw[hx.2] at h;cases h)
 have hrep:∀i,(Array.replicate ops.size false).getD i false=false:=by intro i;by_cases h:i<ops.size<;>simp[h]
 refine key ops.size _ a w0 (by simp) ?_ ?_ ha.size ha.defers (Gr w0) ?_ ha.slot (fun i _ _ _ _ _ _ _ _ _ _ _ _ h0=>by simp only[hrep] at h0;cases h0) (fun i _ _ _ _ _ h0=>by simp only[hrep] at h0;cases h0) ?_
 ·intro i o _ h0
  rw[hrep] at h0;cases h0
 ·intro i _ h2
  simp[h2]
 ·intro j d f _ h0
  simp only[hrep] at h0;cases h0
 ·have:∀k,left (Array.replicate ops.size false) k≤k:=by
   intro k
   induction k with
   |zero=>exact Nat.le_refl _
   |succ k ih=>unfold left;split<;>omega
  exact this _
end
end Go.Proofs.YtigoimhndlnhfaaGreat
namespace Go.RowKit
abbrev Grow (w w':World):Prop:=Below w.heap.size w w'
theorem Grow.refl (w:World):Grow w w:=Below.refl _ _
theorem Grow.trans {a b c:World}(h:Grow a b)(k:Grow b c):Grow a c:=Below.trans h (k.mono h.size)
end Go.RowKit
namespace Go.Proofs.YtigoimhndlnhfaaGreat
open Go.RowKit
variable [Inhabited (List Deferred)]
section
variable {P:Program} {ops:Array Oper} {Q:Exit→Act→World→Prop} {n:Nat} {F0 X:List (Nat × Value)} {G:World→World→Prop} {w0:World} {W:World→Prop} {Γ:Env} {o:Oper} {f:Fact} {v:Value} {tail r:List Oper} {B:Env→Prop} {k:Nat} {Φ:Value→World→Prop} {L:List Nat}
theorem hU {ds:List Nat}{a:Act}{w:World}(hs:∀t v,look F0 t=some v→a.tmps[t]? =some v):∀ {Γ:Env},(∀j d f,(j,d,f)∈Γ→j∈ds→∃u,(∀t,d=some t→a.tmps[t]? =some u)∧f.holds u w)→∀ {t v},nR F0 ds t Γ=some v→a.tmps[t]? =some v
 | [],_,t,v,h=>hs t v h
 |(j,none,f)::r,hF,t,v,h=>hU hs (fun j d f hm=>hF j d f (List.mem_cons_of_mem _ hm)) (Γ:=r) h
 |(j,some d, .sat Φ)::r,hF,t,v,h=>by
  unfold nR at h
  cases hb:Nat.beq d t with
  |true=>rw[hb] at h;cases h
  |false=>rw[hb] at h;exact hU hs (fun j d f hm=>hF j d f (List.mem_cons_of_mem _ hm)) (Γ:=r) h
 |(j,some d, .eq u)::r,hF,t,v,h=>by
  unfold nR at h
  cases hb:Nat.beq d t with
  |true=>
   rw[hb] at h
   cases hm:aT ds j with
   |false=>rw[hm] at h;cases h
   |true=>
    rw[hm] at h;injection h with h
    subst h;obtain⟨u',h1,h2⟩:=hF j (some d) (.eq u) List.mem_cons_self (ax hm);have:=h1 d rfl;rw[←Nat.eq_of_beq_eq_true hb,this,show u'=u from h2]
  |false=>rw[hb] at h;exact hU hs (fun j d f hm=>hF j d f (List.mem_cons_of_mem _ hm)) (Γ:=r) h
def uniq:Env→Bool
 | []=>true
 |(j,_,_)::r=>(Env.find r j).isNone&&uniq r
theorem nv:∀ {Γ:Env},uniq Γ=true→∀ {j d f},(j,d,f)∈Γ→Env.find Γ j=some (d,f)
 | [],_,_,_,_,h=>by cases h
 |(i,d',f')::r,hu,j,d,f,h=>by
  simp only[uniq,Bool.and_eq_true] at hu;show(bif Nat.beq i j then some (d',f') else Env.find r j)=_;rcases List.mem_cons.1 h with e|h
  ·injection e with e1 e2
   injection e2 with e2 e3
   subst e1 e2 e3;rw[Nat.beq_refl];rfl
  ·have hr:=nv hu.2 h
   cases hb:Nat.beq i j with
   |true=>
    have e:=Nat.eq_of_beq_eq_true hb;subst e;rw[hr] at hu;simp at hu
   |false=>exact hr
theorem ef {a:Act}{w:World}(hu:uniq Γ=true)(hF:ko Γ (· ∈direct o) a w)(hs:∀t v,look F0 t=some v→a.tmps[t]? =some v)(hX:∀t v,look X t=some v→a.tmps[t]? =some v):∀x u,kQ X F0 Γ o x=some u→a.eval x=u:=by
 intro x u hx
 cases x with
 |tmp t=>
  simp only[kQ] at hx
  have:a.tmps[t]? =some u:=by
   split at hx
   ·rename_i v hv
    injection hx with hx
    subst hx;exact hX t _ hv
   ·exact hU hs (fun j d f hm hj=>hF j d f (nv hu hm) hj) hx
  simp[Act.eval,this]
 |const v=>exact Option.some.inj hx
 |global g=>exact Option.some.inj hx
 |func f=>exact Option.some.inj hx
variable (P Q n F0 G w0) in
def lR (X:List (Nat × Value))(W:World→Prop)(Γ:Env)(o:Oper)(f:Fact):Prop:=∀a w,a.tmps.size=n→G w0 w→W w→ko Γ (· ∈direct o) a w→(∀t v,look F0 t=some v→a.tmps[t]? =some v)→(∀t v,look X t=some v→a.tmps[t]? =some v)→
 o.wp P a w (fun a' w'=>∃u,a'=a.put o.dst u∧G w w'∧f.holds u w') Q
theorem kd.plain (hg:o.guard=none)(h:lR P Q n F0 G w0 X W Γ o f):kd P ops Q n F0 G w0 X W Γ o f:=by
 intro a w h1 h2 h3 h4 h5 h6;rw[if_pos (by simp[Region.wanted,hg])];exact h a w h1 h2 h3 h4 h5 h6
theorem kd.wanted {j t:Nat}{b:Bool}(hu:uniq Γ=true)(hg:o.guard=some (j,b))(ht:(ops[j]?).bind (·.dst)=some t)(hb:kQ X F0 Γ o (.tmp t)=some (.bool b))(h:lR P Q n F0 G w0 X W Γ o f):kd P ops Q n F0 G w0 X W Γ o f:=by
 intro a w h1 h2 h3 h4 h5 h6
 have hv:a.tmps[t]? =some (.bool b):=by
  have:=ef hu h4 h5 h6 _ _ hb
  cases hh:a.tmps[t]? with
  |none=>simp[Act.eval,hh,undef] at this
  |some u=>simp[Act.eval,hh] at this;rw[this]
 rw[if_pos (by unfold Region.wanted yielded;simp only[hg,ht,Option.bind_some,hv];simp)];exact h a w h1 h2 h3 h4 h5 h6
theorem kd.skip {j t:Nat}{b b':Bool}(hu:uniq Γ=true)(hg:o.guard=some (j,b))(ht:(ops[j]?).bind (·.dst)=some t)(hb:kQ X F0 Γ o (.tmp t)=some (.bool b'))(hne:b'= !b):kd P ops Q n F0 G w0 X W Γ o (.eq undef):=by
 intro a w h1 h2 h3 h4 h5 h6
 have hv:a.tmps[t]? =some (.bool b'):=by
  have:=ef hu h4 h5 h6 _ _ hb
  cases hh:a.tmps[t]? with
  |none=>simp[Act.eval,hh,undef] at this
  |some u=>simp[Act.eval,hh] at this;rw[this]
 rw[if_neg (by unfold Region.wanted yielded;simp only[hg,ht,Option.bind_some,hv,hne];cases b<;>simp)];rfl
theorem lR.val (Gr:∀w,G w w)(hu:uniq Γ=true)(hrun:∀w,G w0 w→W w→aa P (kQ X F0 Γ o) o w v w):lR P Q n F0 G w0 X W Γ o (.eq v):=by
 intro a w h1 h2 h3 h4 h5 h6;unfold Oper.wp;rw[hrun w h2 h3 a.eval (ef hu h4 h5 h6),Oper.upon_value];exact⟨v,rfl,Gr w,rfl⟩
theorem lR.make (hu:uniq Γ=true)(hrun:∀w,G w0 w→W w→∃v w',aa P (kQ X F0 Γ o) o w v w'∧G w w'∧Φ v w'):lR P Q n F0 G w0 X W Γ o (.sat Φ):=by
 intro a w h1 h2 h3 h4 h5 h6;obtain⟨v,w',hr,hG,hΦ⟩:=hrun w h2 h3;unfold Oper.wp;rw[hr a.eval (ef hu h4 h5 h6),Oper.upon_value];exact⟨v,rfl,hG,hΦ⟩
theorem lR.cu {fn:FuncId}{args:Array Value}(hu:uniq Γ=true)(he:∀w,Enters P (kQ X F0 Γ o) o w fn args)(hc:∀w,G w0 w→W w→Calls P fn args w fun e w'=>e= .returned v∧G w w'):lR P Q n F0 G w0 X W Γ o (.eq v):=by
 intro a w h1 h2 h3 h4 h5 h6;unfold Oper.wp;rw[he w a.eval (ef hu h4 h5 h6),Oper.upon_enter];exact(hc w h2 h3).mono fun e w' ⟨e1,e2⟩=>by subst e1;exact⟨v,rfl,e2,rfl⟩
theorem Dr.val (Gr:∀w,G w w)(hu:uniq Γ=true)(hrun:∀w,G w0 w→aa P (kQ [] F0 Γ o) o w v w)(hg:o.guard=none)(hr:fO P ops Q n F0 G w0 L B (k+1) r ((k,o.dst, .eq v)::Γ))(hl:aT L k=false:=by rfl):fO P ops Q n F0 G w0 L B k (o::r) Γ:=
 ⟨.eq v,trivial, .plain hg (.val Gr hu fun w h _=>hrun w h),(fun h=>by rw[hl] at h;cases h),hr⟩
theorem Dr.av {j t:Nat}{b:Bool}(Gr:∀w,G w w)(hu:uniq Γ=true)(hrun:∀w,G w0 w→aa P (kQ [] F0 Γ o) o w v w)(hg:o.guard=some (j,b))(ht:(ops[j]?).bind (·.dst)=some t)(hb:kQ [] F0 Γ o (.tmp t)=some (.bool b))(hr:fO P ops Q n F0 G w0 L B (k+1) r ((k,o.dst, .eq v)::Γ))(hl:aT L k=false:=by rfl):fO P ops Q n F0 G w0 L B k (o::r) Γ:=
 ⟨.eq v,trivial, .wanted hu hg ht hb (.val Gr hu fun w h _=>hrun w h),(fun h=>by rw[hl] at h;cases h),hr⟩
theorem Dr.skip {j t:Nat}{b b':Bool}(hu:uniq Γ=true)(hg:o.guard=some (j,b))(ht:(ops[j]?).bind (·.dst)=some t)(hb:kQ [] F0 Γ o (.tmp t)=some (.bool b'))(hne:b'= !b)(hr:fO P ops Q n F0 G w0 L B (k+1) r ((k,o.dst, .eq undef)::Γ))(hl:aT L k=false:=by rfl):fO P ops Q n F0 G w0 L B k (o::r) Γ:=
 ⟨.eq undef,trivial, .skip hu hg ht hb hne,(fun h=>by rw[hl] at h;cases h),hr⟩
theorem Dr.cu {fn:FuncId}{args:Array Value}(hu:uniq Γ=true)(he:∀w,Enters P (kQ [] F0 Γ o) o w fn args)(hg:o.guard=none)(hc:∀w,G w0 w→Calls P fn args w fun e w'=>e= .returned v∧G w w')
  (hr:fO P ops Q n F0 G w0 L B (k+1) r ((k,o.dst, .eq v)::Γ)) (hl:aT L k=false:=by rfl):fO P ops Q n F0 G w0 L B k (o::r) Γ:=
 ⟨.eq v,trivial, .plain hg (.cu hu he fun w h _=>hc w h),(fun h=>by rw[hl] at h;cases h),hr⟩
theorem Dr.late (hl:aT L k=true)(hu:uniq Γ=true)(hrun:∀w,aa P (kQ [] F0 Γ o) o w v w)(Gr:∀w,G w w)(hg:o.guard=none)(hr:fO P ops Q n F0 G w0 L B (k+1) r ((k,o.dst, .eq v)::Γ)):fO P ops Q n F0 G w0 L B k (o::r) Γ:=
 ⟨.eq v,trivial, .plain hg (.val Gr hu fun w _ _=>hrun w),(fun _=>⟨v,rfl,fun a w _ _ _ h4 h5 h6=> .inl ⟨by simp[Region.wanted,hg],fun w'=>hrun w' a.eval (ef hu h4 h5 h6)⟩⟩),hr⟩
theorem Dr.make (hu:uniq Γ=true)(hs:∀v w w',G w w'→Φ v w→Φ v w')(hg:o.guard=none)(hrun:∀w,G w0 w→∃v w',aa P (kQ [] F0 Γ o) o w v w'∧G w w'∧Φ v w')(hr:fO P ops Q n F0 G w0 L B (k+1) r ((k,o.dst, .sat Φ)::Γ))(hl:aT L k=false:=by rfl):fO P ops Q n F0 G w0 L B k (o::r) Γ:=
 ⟨.sat Φ,hs, .plain hg (.make hu fun w h _=>hrun w h),(fun h=>by rw[hl] at h;cases h),hr⟩
theorem Dr.td {fn:FuncId}{args:Array Value}(hu:uniq Γ=true)(he:∀w,Enters P (kQ [] F0 Γ o) o w fn args){jg tg:Nat}{bg:Bool}(hg:o.guard=some (jg,bg))(ht:(ops[jg]?).bind (·.dst)=some tg)(hb:kQ [] F0 Γ o (.tmp tg)=some (.bool bg))(hc:∀w,G w0 w→Calls P fn args w fun e w'=>e= .returned v∧G w w')
  (hr:fO P ops Q n F0 G w0 L B (k+1) r ((k,o.dst, .eq v)::Γ)) (hl:aT L k=false:=by rfl):fO P ops Q n F0 G w0 L B k (o::r) Γ:=
 ⟨.eq v,trivial, .wanted hu hg ht hb (.cu hu he fun w h _=>hc w h),(fun h=>by rw[hl] at h;cases h),hr⟩
/-! The end of the first part. -/
def qm (F0:List (Nat × Value)):Env→List (Nat × Value)
 | []=>F0
 |(_,some d, .eq v)::r=>(d,v)::qm F0 r
 |_::r=>qm F0 r
theorem fT {a:Act}{w:World}(hs:∀t v,look F0 t=some v→a.tmps[t]? =some v):∀ {Γ:Env},(∀j d f,(j,d,f)∈Γ→∃u,(∀t,d=some t→a.tmps[t]? =some u)∧f.holds u w)→∀t v,look (qm F0 Γ) t=some v→a.tmps[t]? =some v
 | [],_,t,v,h=>hs t v h
 |(j,none,f)::r,hF,t,v,h=>fT hs (fun j d f hm=>hF j d f (List.mem_cons_of_mem _ hm)) (Γ:=r) t v h
 |(j,some d, .sat Φ)::r,hF,t,v,h=>fT hs (fun j d f hm=>hF j d f (List.mem_cons_of_mem _ hm)) (Γ:=r) t v h
 |(j,some d, .eq u)::r,hF,t,v,h=>by
  rcases bA h with ⟨rfl,rfl⟩|⟨-,h⟩
  ·obtain⟨u',h1,h2⟩:=hF j (some d) (.eq u) List.mem_cons_self
   rw[h1 d rfl,show u'=u from h2]
  ·exact fT hs (fun j d f hm=>hF j d f (List.mem_cons_of_mem _ hm)) (Γ:=r) t v h
theorem lO {A B:List (Nat × Value)}{t:Nat}{v:Value}(h:look (A++B) t=some v):look A t=some v∨look B t=some v:=by
 induction A with
 |nil=>exact .inr h
 |cons p r ih=>
  obtain⟨k,u⟩:=p;rcases bA h with ⟨rfl,rfl⟩|⟨hne,h⟩
  ·refine .inl ?_
   unfold look;rw[Nat.beq_refl];rfl
  ·rcases ih h with h|h
   ·refine .inl ?_
    show(bif Nat.beq k t then some u else look r t)=_
    cases hb:Nat.beq k t with
    |true=>exact absurd (Nat.eq_of_beq_eq_true hb) hne
    |false=>exact h
   ·exact .inr h
theorem Dr.nil (h:B Γ):fO P ops Q n F0 G w0 L B k [] Γ:=h
theorem bH.open {j d:Nat}(hj:Env.find Γ j=some (some d, .sat Φ))(h:∀u,bH P ops Q n F0 G w0 tail ((d,u)::X) (fun w=>W w∧Φ u w) Γ):bH P ops Q n F0 G w0 tail X W Γ:=by
 intro a w h1 h1' h2 h3 h4 h5 h6;obtain⟨u,g1,g2⟩:=h4 j _ _ hj trivial;refine h u a w h1 h1' h2 ⟨h3,g2⟩ h4 h5 fun t v ht=> ?_;rcases bA ht with ⟨rfl,rfl⟩|⟨-,ht⟩
 ·exact g1 _ rfl
 ·exact h6 t v ht
theorem bH.done {F':List (Nat × Value)}(hu:uniq Γ=true)(hsub:Sub F' (X++qm F0 Γ))(h:∀w,G w0 w→W w→Seq P ops Q tail n F' w):bH P ops Q n F0 G w0 tail X W Γ:=by
 intro a w h1 h1' h2 h3 h4 h5 h6;refine h w h2 h3 a (Fr.sub ⟨h1,h1',fun t v ht=> ?_⟩ hsub);rcases lO ht with ht|ht
 ·exact h6 t v ht
 ·exact fT h5 (fun j d f hm=>h4 j d f (nv hu hm) trivial) t v ht
theorem Cd.draw (m:Nat){id:Nat}{l:List Oper}{w:World}(hm:P.follows .mixedOrders=true)(L:List Nat)(hQ:L=[]∨∀c (a:Act) d v w,Q (.panic c) (a.put d v) w→Q (.panic c) a w)(hchk:jT n (gy F0) L (l.take m) (l.drop m)=true)(G:World→World→Prop)(Gr:∀w,G w w)(Gt:∀a b c,G a b→G b c→G a c)
  (h:∀w0,Below w.heap.size w w0→w0.heap.size=w.heap.size→fO P l.toArray Q n F0 G w0 L (bH P l.toArray Q n F0 G w0 (l.drop m) [] (fun _=>True)) 0 (l.take m) []):Cd P (.region id l.toArray true) Q n F0 w:=fun _ ha=>
 yp L [] (fun i o h _=>by cases h) (fun i h=>by cases h) (.inl rfl) hQ hm (by rw[List.take_append_drop]) hchk Gt Gr rfl (fO.mono (fun Γ hΓ a w h1 h2 h3 h4 h5 h6 h7 _=>hΓ a w h1 h2 h3 h4 h5 h6 h7) _ _ _ (h {w with drawn:=w.drawn+1} ⟨rfl,rfl,rfl,Nat.le_refl _,fun _ _=>rfl⟩ rfl)) ha
theorem Dr.iA {j t:Nat}{b:Bool}(hu:uniq Γ=true)(hg:o.guard=some (j,b))(ht:(ops[j]?).bind (·.dst)=some t)(hb:kQ [] F0 Γ o (.tmp t)=some undef)(hr:fO P ops Q n F0 G w0 L B (k+1) r ((k,o.dst, .eq undef)::Γ))(hl:aT L k=false:=by rfl):fO P ops Q n F0 G w0 L B k (o::r) Γ:=
 ⟨.eq undef,trivial,(by
  intro a w h1 h2 h3 h4 h5 h6;have hv:=ef hu h4 h5 h6 _ _ hb
  rw[if_neg (by
   unfold Region.wanted yielded;simp only[hg,ht,Option.bind_some]
   cases hh:a.tmps[t]? with
   |none=>simp
   |some u=>
    simp[Act.eval,hh] at hv;subst hv;simp[undef])]
  rfl:kd P ops Q n F0 G w0 [] (fun _=>True) Γ o (.eq undef)),(fun h=>by rw[hl] at h;cases h),hr⟩
end
end Go.Proofs.YtigoimhndlnhfaaGreat
namespace Go.Proofs.YtigoimhndlnhfaaGreat
open Go.RowKit
variable [Inhabited (List Deferred)]
abbrev vU:=List (Bool × List (Nat × Value))
def kU:vU→List (Nat × Value)→List (Nat × Value)
 | [],F=>F
 |(_,H)::r,F=>H++kU r F
def bP:vU→Bool
 | []=>true
 |(c,_)::_=>c
def fI:vU→List (Nat × Value)→Act→Prop
 | [],_,_=>True
 |(c,H)::r,F,a=>(c=true→bP r=true)∧(c=true→∀t v,look H t=some v→a.tmps[t]? =some v)∧(c=false→∀t v,look H t=some v→a.tmps[t]? =some undef)∧fI r F a
def ar (P:Program)(ops:Array Oper)(Q:Exit→Act→World→Prop)(rest:List Oper)(n:Nat)(C:vU)(F:List (Nat × Value))(w:World):Prop:=∀a,Fr n F a→fI C F a→wpList P ops Q rest a w
theorem fI.all {n:Nat}{F:List (Nat × Value)}{a:Act}(ha:Fr n F a):∀ {C:vU},fI C F a→bP C=true→∀t v,look (kU C F) t=some v→a.tmps[t]? =some v
 | [],_,_,t,v,h=>ha.slot t v h
 |(c,H)::r,hC,hc,t,v,h=>by
  obtain⟨h1,h2,-,h4⟩:=hC;rcases lO h with h|h
  ·exact h2 hc t v h
  ·exact fI.all ha h4 (h1 hc) t v h
theorem fI.fr {n:Nat}{F:List (Nat × Value)}{a:Act}{C:vU}(ha:Fr n F a)(hC:fI C F a)(hc:bP C=true):Fr n (kU C F) a:=⟨ha.size,ha.defers,hC.all ha hc⟩
def dm (d:Nat):vU→List (Nat × Value)→Bool
 | [],F=>(look F d).isNone
 |(_,H)::r,F=>(look H d).isNone&&dm d r F
theorem fI.put {F:List (Nat × Value)}{a:Act}{d:Nat}{v:Value}:∀ {C:vU},dm d C F=true→fI C F a→fI C F (a.put (some d) v)
 | [],_,_=>trivial
 |(c,H)::r,hf,hC=>by
  simp only[dm,Bool.and_eq_true] at hf;obtain⟨h1,h2,h3,h4⟩:=hC;have hne:∀t u,look H t=some u→d≠t:=fun t u ht e=>by subst e;rw[ht] at hf;simp at hf
  refine⟨h1,fun hc t u ht=> ?_,fun hc t u ht=> ?_,fI.put hf.2 h4⟩
  ·simp only[Act.put];rw[Array.getElem?_setIfInBounds_ne (hne t u ht)];exact h2 hc t u ht
  ·simp only[Act.put];rw[Array.getElem?_setIfInBounds_ne (hne t u ht)];exact h3 hc t u ht
theorem eE {d:Nat}{F:List (Nat × Value)}:∀ {C:vU},dm d C F=true→(look F d).isNone=true
 | [],h=>h
 |(_,_)::r,h=>by simp only[dm,Bool.and_eq_true] at h;exact eE (C:=r) h.2
theorem Fr.bL {n d:Nat}{F:List (Nat × Value)}{a:Act}{v:Value}(ha:Fr n F a)(hf:(look F d).isNone=true):Fr n F (a.put (some d) v):=by
 refine⟨by simp[Act.put,ha.size],ha.defers,fun t u ht=> ?_⟩;have hne:d≠t:=fun e=>by subst e;rw[ht] at hf;simp at hf
 simp only[Act.put];rw[Array.getElem?_setIfInBounds_ne hne];exact ha.slot t u ht
section
variable {P:Program} {ops:Array Oper} {Q:Exit→Act→World→Prop} {rest:List Oper} {o:Oper} {n d:Nat} {F:List (Nat × Value)} {C:vU} {w w':World} {v:Value} {c:Bool} {H:List (Nat × Value)}
theorem ar.start (h:ar P ops Q rest n [] F w):Seq P ops Q rest n F w:=fun a ha=>h a ha trivial
theorem ar.open {j t:Nat}{b want:Bool}(hg:o.guard=some (j,want))(ht:(ops[j]?).bind (·.dst)=some t)(hb:look (match C with| []=>F|(_,H)::_=>H) t=some (.bool b))(hd:o.dst=some d)(hn:Nat.blt d n=true)(hf:dm d C F=true)(hdt:Nat.beq d t=false)
  (hrun:(bP C&&(b==want))=true→aa P (dg (kU C F)) o w v w) (h:ar P ops Q rest n ((bP C&&(b==want),[(d,v)])::C) F w):ar P ops Q (o::rest) n C F w:=by
 intro a ha hC;refine wpList_step fun K hK=> ?_
 have hwant:Region.wanted o (yielded ops a.tmps)=(bP C&&(b==want)):=by
  have hy:yielded ops a.tmps j=if bP C=true then some b else none:=by
   unfold yielded;simp only[ht,Option.bind_some]
   cases C with
   |nil=>simp[bP,ha.slot t _ hb]
   |cons x r=>
    obtain⟨c1,H1⟩:=x;obtain⟨h1,h2,h3,h4⟩:=hC
    cases c1
    ·simp[bP,h3 rfl t _ hb,undef]
    ·simp[bP,h2 rfl t _ hb]
  unfold Region.wanted;simp only[hg,hy]
  cases bP C<;>cases b<;>cases want<;>rfl
 rw[hwant];have hbase:=eE hf
 cases hc:(bP C&&(b==want)) with
 |true=>
  rw[if_pos rfl];have htop:bP C=true:=by simp only[Bool.and_eq_true] at hc;exact hc.1
  unfold Oper.wp;rw[hrun hc a.eval (hC.fr ha htop).ev,Oper.upon_value,hd];refine hK _ _ (h _ (ha.bL hbase) ⟨fun _=>htop,fun _ t' u hu=> ?_,fun e=>(by rw[hc] at e;cases e),hC.put hf⟩);rcases bA hu with ⟨rfl,rfl⟩|⟨-,hu⟩
  ·simp[Act.put,ha.size,Nat.blt_eq.mp hn]
  ·cases hu
 |false=>
  rw[if_neg (by simp),hd];refine hK _ _ (h _ (ha.bL hbase) ⟨fun e=>(by rw[hc] at e;cases e),fun e=>(by rw[hc] at e;cases e),fun _ t' u hu=> ?_,hC.put hf⟩);rcases bA hu with ⟨rfl,rfl⟩|⟨-,hu⟩
  ·simp[Act.put,ha.size,Nat.blt_eq.mp hn]
  ·cases hu
theorem ar.next {j t:Nat}{b want:Bool}{c0:Bool}(hg:o.guard=some (j,want))(ht:(ops[j]?).bind (·.dst)=some t)(hb:look (match C with| []=>F|(_,H)::_=>H) t=some (.bool b))(hc0:c0=(bP C&&(b==want)))(hd:o.dst=some d)(hn:Nat.blt d n=true)(hf:dm d ((c0,H)::C) F=true)
  (hrun:c0=true→aa P (dg (kU ((c0,H)::C) F)) o w v w) (h:ar P ops Q rest n ((c0,(d,v)::H)::C) F w):ar P ops Q (o::rest) n ((c0,H)::C) F w:=by
 intro a ha hC;obtain⟨h1,h2,h3,h4⟩:=id hC;refine wpList_step fun K hK=> ?_
 have hwant:Region.wanted o (yielded ops a.tmps)=c0:=by
  rw[hc0]
  have hy:yielded ops a.tmps j=if bP C=true then some b else none:=by
   unfold yielded;simp only[ht,Option.bind_some]
   cases C with
   |nil=>simp[bP,ha.slot t _ hb]
   |cons x r=>
    obtain⟨c1,H1⟩:=x;obtain⟨g1,g2,g3,g4⟩:=h4
    cases c1
    ·simp[bP,g3 rfl t _ hb,undef]
    ·simp[bP,g2 rfl t _ hb]
  unfold Region.wanted;simp only[hg,hy]
  cases bP C<;>cases b<;>cases want<;>rfl
 rw[hwant];have hbase:=eE hf
 have hne:∀t u,look H t=some u→d≠t:=fun t u ht e=>by
  subst e;simp only[dm,Bool.and_eq_true] at hf;rw[ht] at hf;simp at hf
 have hf2:dm d C F=true:=by simp only[dm,Bool.and_eq_true] at hf;exact hf.2
 cases hc:c0 with
 |true=>
  rw[if_pos rfl];unfold Oper.wp;rw[hrun hc a.eval (fI.fr ha hC hc).ev,Oper.upon_value,hd];refine hK _ _ (h _ (ha.bL hbase) ⟨h1,fun _ t' u hu=> ?_,fun e=>(by rw[hc] at e;cases e),h4.put hf2⟩);rcases bA hu with ⟨rfl,rfl⟩|⟨-,hu⟩
  ·simp[Act.put,ha.size,Nat.blt_eq.mp hn]
  ·simp only[Act.put];rw[Array.getElem?_setIfInBounds_ne (hne t' u hu)];exact h2 hc t' u hu
 |false=>
  rw[if_neg (by simp),hd];refine hK _ _ (h _ (ha.bL hbase) ⟨h1,fun e=>(by rw[hc] at e;cases e),fun _ t' u hu=> ?_,h4.put hf2⟩);rcases bA hu with ⟨rfl,rfl⟩|⟨-,hu⟩
  ·simp[Act.put,ha.size,Nat.blt_eq.mp hn]
  ·simp only[Act.put];rw[Array.getElem?_setIfInBounds_ne (hne t' u hu)];exact h3 hc t' u hu
theorem ar.pick {x y z:Operand}{b p e:Bool}(hg:o.guard=none)(ho:o.op= .pick x y z)(hx:dg F x=some (.bool b))(hd:o.dst=some d)(hn:Nat.blt d n=true)
  (hv:(c=true→dg (H++F) (bif b then y else z)=some (.bool e))∧(c=false→dg F (bif b then y else z)=some (.bool e)))
  (h:Seq P ops Q rest n ((d, .bool e)::F) w) (_hp:p=p):ar P ops Q (o::rest) n [(c,H)] F w:=by
 intro a ha hC;refine wpList_plain hg fun K hK=> ?_;have hfr:c=true→Fr n (H++F) a:=fun hc=>fI.fr (C:=[(c,H)]) ha hC hc;unfold Oper.wp execOp;simp only[ho,ha.ev _ _ hx]
 have hval:(if b then a.eval y else a.eval z)= .bool e:=by
  have:a.eval (bif b then y else z)= .bool e:=by
   cases hc:c with
   |true=>exact(hfr hc).ev _ _ (hv.1 hc)
   |false=>exact ha.ev _ _ (hv.2 hc)
  cases b<;>exact this
 have hrun:((do let r←asBool (.bool b);pure (Next.value (if r then a.eval y else a.eval z))):Sem Next).run P w= .ok (.value (.bool e)) w:=by
  show Result.ok (Next.value (if b then a.eval y else a.eval z)) w=_;rw[hval]
 rw[hrun,Oper.upon_value,hd];exact hK _ _ (h _ (ha.put (Nat.blt_eq.mp hn)))
theorem ar.or {x:Operand}{k:Nat}{b p:Bool}(hg:o.guard=none)(ho:o.op= .pick x (.const (.bool true)) (.tmp k))(hx:dg F x=some (.bool b))(hc:c=(true&&(b==false)))(hk:look H k=some (.bool p))(hd:o.dst=some d)(hn:Nat.blt d n=true)
  (h:Seq P ops Q rest n ((d, .bool (b||p))::F) w):ar P ops Q (o::rest) n [(c,H)] F w:=by
 subst hc;refine ar.pick (b:=b) (p:=p) hg ho hx hd hn ⟨fun hc=> ?_,fun hc=> ?_⟩ h rfl
 ·cases b
  ·show look (H++F) k=_
   have:∀A:List (Nat × Value),look A k=some (.bool p)→look (A++F) k=some (.bool p):=by
    intro A
    induction A with
    |nil=>intro h;cases h
    |cons q r ih=>
     obtain⟨i,u⟩:=q;intro h;unfold look at h;show(bif Nat.beq i k then some u else look (r++F) k)=_
     cases hb:Nat.beq i k with
     |true=>rw[hb] at h;exact h
     |false=>rw[hb] at h;exact ih h
   exact this H hk
  ·cases hc
 ·cases b
  ·cases hc
  ·rfl
theorem ar.and {x:Operand}{k:Nat}{b p:Bool}(hg:o.guard=none)(ho:o.op= .pick x (.tmp k) (.const (.bool false)))(hx:dg F x=some (.bool b))(hc:c=(true&&(b==true)))(hk:look H k=some (.bool p))(hd:o.dst=some d)(hn:Nat.blt d n=true)
  (h:Seq P ops Q rest n ((d, .bool (b&&p))::F) w):ar P ops Q (o::rest) n [(c,H)] F w:=by
 subst hc;refine ar.pick (b:=b) (p:=p) hg ho hx hd hn ⟨fun hc=> ?_,fun hc=> ?_⟩ h rfl
 ·cases b
  ·cases hc
  ·show look (H++F) k=_
   have:∀A:List (Nat × Value),look A k=some (.bool p)→look (A++F) k=some (.bool p):=by
    intro A
    induction A with
    |nil=>intro h;cases h
    |cons q r ih=>
     obtain⟨i,u⟩:=q;intro h;unfold look at h;show(bif Nat.beq i k then some u else look (r++F) k)=_
     cases hb:Nat.beq i k with
     |true=>rw[hb] at h;exact h
     |false=>rw[hb] at h;exact ih h
   exact this H hk
 ·cases b
  ·rfl
  ·cases hc
theorem ar.close {j t:Nat}{b want:Bool}{c0 c2:Bool}{H2:List (Nat × Value)}(hg:o.guard=some (j,want))(ht:(ops[j]?).bind (·.dst)=some t)(hb:look (match C with| []=>F|(_,H)::_=>H) t=some (.bool b))(hc0:c0=(bP C&&(b==want)))(hd:o.dst=some d)(hn:Nat.blt d n=true)(hf:dm d ((c0,H)::C) F=true)
  (hrun:c0=true→∀ρ:Operand→Value,(∀x u,dg (kU ((c0,H)::C) F) x=some u→ρ x=u)→(c2=true→∀k u,look H2 k=some u→ρ (.tmp k)=u)→(execOp ρ o).run P w= .ok (.value v) w') (h:ar P ops Q rest n ((c0,(d,v)::H)::C) F w') (hw:c0=false→w'=w):
  ar P ops Q (o::rest) n ((c2,H2)::(c0,H)::C) F w:=by
 intro a ha hC0;obtain⟨-,q2,-,hC⟩:=hC0;obtain⟨h1,h2,h3,h4⟩:=id hC;refine wpList_step fun K hK=> ?_
 have hwant:Region.wanted o (yielded ops a.tmps)=c0:=by
  rw[hc0]
  have hy:yielded ops a.tmps j=if bP C=true then some b else none:=by
   unfold yielded;simp only[ht,Option.bind_some]
   cases C with
   |nil=>simp[bP,ha.slot t _ hb]
   |cons x r=>
    obtain⟨c1,H1⟩:=x;obtain⟨g1,g2,g3,g4⟩:=h4
    cases c1
    ·simp[bP,g3 rfl t _ hb,undef]
    ·simp[bP,g2 rfl t _ hb]
  unfold Region.wanted;simp only[hg,hy]
  cases bP C<;>cases b<;>cases want<;>rfl
 rw[hwant];have hbase:=eE hf
 have hne:∀t u,look H t=some u→d≠t:=fun t u ht e=>by
  subst e;simp only[dm,Bool.and_eq_true] at hf;rw[ht] at hf;simp at hf
 have hf2:dm d C F=true:=by simp only[dm,Bool.and_eq_true] at hf;exact hf.2
 cases hc:c0 with
 |true=>
  rw[if_pos rfl];unfold Oper.wp;rw[hrun hc a.eval (fI.fr ha hC hc).ev (fun hc2 k u hk=>by have:=q2 hc2 k u hk;simp[Act.eval,this]),Oper.upon_value,hd];refine hK _ _ (h _ (ha.bL hbase) ⟨h1,fun _ t' u hu=> ?_,fun e=>(by rw[hc] at e;cases e),h4.put hf2⟩);rcases bA hu with ⟨rfl,rfl⟩|⟨-,hu⟩
  ·simp[Act.put,ha.size,Nat.blt_eq.mp hn]
  ·simp only[Act.put];rw[Array.getElem?_setIfInBounds_ne (hne t' u hu)];exact h2 hc t' u hu
 |false=>
  rw[if_neg (by simp),hd,←hw hc];refine hK _ _ (h _ (ha.bL hbase) ⟨h1,fun e=>(by rw[hc] at e;cases e),fun _ t' u hu=> ?_,h4.put hf2⟩);rcases bA hu with ⟨rfl,rfl⟩|⟨-,hu⟩
  ·simp[Act.put,ha.size,Nat.blt_eq.mp hn]
  ·simp only[Act.put];rw[Array.getElem?_setIfInBounds_ne (hne t' u hu)];exact h3 hc t' u hu
theorem pP {P:Program}{o:Oper}{x y z:Operand}{b e:Bool}{w:World}{ρ:Operand→Value}(ho:o.op= .pick x y z)(hx:ρ x= .bool b)(hv:ρ (bif b then y else z)= .bool e):(execOp ρ o).run P w= .ok (.value (.bool e)) w:=by
 unfold execOp;simp only[ho,hx];show Result.ok (Next.value (if b then ρ y else ρ z)) w=_
 cases b<;>simpa using hv
theorem ar.AU {x:Operand}{k j t:Nat}{b p bg want:Bool}{c0 c2:Bool}{H2:List (Nat × Value)}(hg:o.guard=some (j,want))(ht:(ops[j]?).bind (·.dst)=some t)(hb:look (match C with| []=>F|(_,H)::_=>H) t=some (.bool bg))(hc0:c0=(bP C&&(bg==want)))(hd:o.dst=some d)(hn:Nat.blt d n=true)(hf:dm d ((c0,H)::C) F=true)
  (ho:o.op= .pick x (.const (.bool true)) (.tmp k)) (hx:dg (kU ((c0,H)::C) F) x=some (.bool b)) (hc2:c2=(c0&&(b==false))) (hk:look H2 k=some (.bool p)) (h:ar P ops Q rest n ((c0,(d, .bool (b||p))::H)::C) F w):ar P ops Q (o::rest) n ((c2,H2)::(c0,H)::C) F w:=by
 refine ar.close hg ht hb hc0 hd hn hf (fun hc ρ hρ h2=>pP ho (hρ _ _ hx) ?_) h (fun _=>rfl)
 cases b
 ·exact h2 (by rw[hc2,hc];rfl) k _ hk
 ·exact hρ (.const (.bool true)) _ rfl
theorem ar.tv {x:Operand}{k j t:Nat}{b p bg want:Bool}{c0 c2:Bool}{H2:List (Nat × Value)}(hg:o.guard=some (j,want))(ht:(ops[j]?).bind (·.dst)=some t)(hb:look (match C with| []=>F|(_,H)::_=>H) t=some (.bool bg))(hc0:c0=(bP C&&(bg==want)))(hd:o.dst=some d)(hn:Nat.blt d n=true)(hf:dm d ((c0,H)::C) F=true)
  (ho:o.op= .pick x (.tmp k) (.const (.bool false))) (hx:dg (kU ((c0,H)::C) F) x=some (.bool b)) (hc2:c2=(c0&&(b==true))) (hk:look H2 k=some (.bool p)) (h:ar P ops Q rest n ((c0,(d, .bool (b&&p))::H)::C) F w):ar P ops Q (o::rest) n ((c2,H2)::(c0,H)::C) F w:=by
 refine ar.close hg ht hb hc0 hd hn hf (fun hc ρ hρ h2=>pP ho (hρ _ _ hx) ?_) h (fun _=>rfl)
 cases b
 ·exact hρ (.const (.bool false)) _ rfl
 ·exact h2 (by rw[hc2,hc];rfl) k _ hk
end
end Go.Proofs.YtigoimhndlnhfaaGreat
namespace Go.Proofs.YtigoimhndlnhfaaGreat
open Go.RowKit
variable [Inhabited (List Deferred)]
theorem aE.ne {w:World}{g g':Nat}{T T':TypeId}{cs cs':Array Value}(h:aE w g T cs)(h':aE w g' T' cs')(hT:T≠T'):g≠g':=by
 rintro rfl;unfold aE at h h';rw[h] at h';injection h' with h'
 injection h' with h1 h2
 exact hT h2
section
variable {P:Program} {E:Operand→Option Value} {F:List (Nat × Value)} {o:Oper} {w:World} {T d n:Nat} {x y:Operand} {ops:Array Oper} {Q:Exit→Act→World→Prop} {rest:List Oper}
def gd (B m:Nat)(T:TypeId)(cs:Array Value)(v:Value)(w:World):Prop:=∃g,v= .slice (some ⟨g,0,none⟩) m m∧aE w g T cs∧B≤g
theorem gd.ye {B m:Nat}{T:TypeId}{cs:Array Value}:∀v w w',Grow w w'→gd B m T cs v w→gd B m T cs v w':=fun _ _ _ hG ⟨g,e,h,hB⟩=>⟨g,e,h.step hG,hB⟩
end
section
variable {P:Program} {ops:Array Oper} {Q:Exit→Act→World→Prop} {rest:List Oper} {o:Oper} {n d:Nat} {F:List (Nat × Value)} {C:vU} {w w':World} {v:Value} {c:Bool} {H:List (Nat × Value)}
theorem ar.zE {f:FuncId}{args:Array Value}{j t:Nat}{b want:Bool}(hg:o.guard=some (j,want))(ht:(ops[j]?).bind (·.dst)=some t)(hb:look (match C with| []=>F|(_,H)::_=>H) t=some (.bool b))(hd:o.dst=some d)(hn:Nat.blt d n=true)(hf:dm d C F=true)(hdt:Nat.beq d t=false)
  (hrun:(bP C&&(b==want))=true→Enters P (dg (kU C F)) o w f args) (hcall:(bP C&&(b==want))=true→Calls P f args w fun e w'=>e= .returned v∧Grow w w') (h:∀w',Grow w w'→ar P ops Q rest n ((bP C&&(b==want),[(d,v)])::C) F w'):ar P ops Q (o::rest) n C F w:=by
 intro a ha hC;refine wpList_step fun K hK=> ?_
 have hwant:Region.wanted o (yielded ops a.tmps)=(bP C&&(b==want)):=by
  have hy:yielded ops a.tmps j=if bP C=true then some b else none:=by
   unfold yielded;simp only[ht,Option.bind_some]
   cases C with
   |nil=>simp[bP,ha.slot t _ hb]
   |cons x r=>
    obtain⟨c1,H1⟩:=x;obtain⟨h1,h2,h3,h4⟩:=hC
    cases c1
    ·simp[bP,h3 rfl t _ hb,undef]
    ·simp[bP,h2 rfl t _ hb]
  unfold Region.wanted;simp only[hg,hy]
  cases bP C<;>cases b<;>cases want<;>rfl
 rw[hwant];have hbase:=eE hf
 cases hc:(bP C&&(b==want)) with
 |true=>
  rw[if_pos rfl];have htop:bP C=true:=by simp only[Bool.and_eq_true] at hc;exact hc.1
  unfold Oper.wp;rw[hrun hc a.eval (hC.fr ha htop).ev,Oper.upon_enter,hd];refine(hcall hc).mono fun e w' ⟨he',hgr⟩=> ?_;subst he';refine hK _ _ (h _ hgr _ (ha.bL hbase) ⟨fun _=>htop,fun _ t' u hu=> ?_,fun e=>(by rw[hc] at e;cases e),hC.put hf⟩);rcases bA hu with ⟨rfl,rfl⟩|⟨-,hu⟩
  ·simp[Act.put,ha.size,Nat.blt_eq.mp hn]
  ·cases hu
 |false=>
  rw[if_neg (by simp),hd];refine hK _ _ (h _ (Grow.refl _) _ (ha.bL hbase) ⟨fun e=>(by rw[hc] at e;cases e),fun e=>(by rw[hc] at e;cases e),fun _ t' u hu=> ?_,hC.put hf⟩);rcases bA hu with ⟨rfl,rfl⟩|⟨-,hu⟩
  ·simp[Act.put,ha.size,Nat.blt_eq.mp hn]
  ·cases hu
theorem ar.aW {f:FuncId}{args:Array Value}{j t:Nat}{b want:Bool}{c0:Bool}(hg:o.guard=some (j,want))(ht:(ops[j]?).bind (·.dst)=some t)(hb:look (match C with| []=>F|(_,H)::_=>H) t=some (.bool b))(hc0:c0=(bP C&&(b==want)))(hd:o.dst=some d)(hn:Nat.blt d n=true)(hf:dm d ((c0,H)::C) F=true)
  (hrun:c0=true→Enters P (dg (kU ((c0,H)::C) F)) o w f args) (hcall:c0=true→Calls P f args w fun e w'=>e= .returned v∧Grow w w') (h:∀w',Grow w w'→ar P ops Q rest n ((c0,(d,v)::H)::C) F w'):ar P ops Q (o::rest) n ((c0,H)::C) F w:=by
 intro a ha hC;obtain⟨h1,h2,h3,h4⟩:=id hC;refine wpList_step fun K hK=> ?_
 have hwant:Region.wanted o (yielded ops a.tmps)=c0:=by
  rw[hc0]
  have hy:yielded ops a.tmps j=if bP C=true then some b else none:=by
   unfold yielded;simp only[ht,Option.bind_some]
   cases C with
   |nil=>simp[bP,ha.slot t _ hb]
   |cons x r=>
    obtain⟨c1,H1⟩:=x;obtain⟨g1,g2,g3,g4⟩:=h4
    cases c1
    ·simp[bP,g3 rfl t _ hb,undef]
    ·simp[bP,g2 rfl t _ hb]
  unfold Region.wanted;simp only[hg,hy]
  cases bP C<;>cases b<;>cases want<;>rfl
 rw[hwant];have hbase:=eE hf
 have hne:∀t u,look H t=some u→d≠t:=fun t u ht e=>by
  subst e;simp only[dm,Bool.and_eq_true] at hf;rw[ht] at hf;simp at hf
 have hf2:dm d C F=true:=by simp only[dm,Bool.and_eq_true] at hf;exact hf.2
 cases hc:c0 with
 |true=>
  rw[if_pos rfl];unfold Oper.wp;rw[hrun hc a.eval (fI.fr ha hC hc).ev,Oper.upon_enter,hd];refine(hcall hc).mono fun e w' ⟨he',hgr⟩=> ?_;subst he';refine hK _ _ (h _ hgr _ (ha.bL hbase) ⟨h1,fun _ t' u hu=> ?_,fun e=>(by rw[hc] at e;cases e),h4.put hf2⟩);rcases bA hu with ⟨rfl,rfl⟩|⟨-,hu⟩
  ·simp[Act.put,ha.size,Nat.blt_eq.mp hn]
  ·simp only[Act.put];rw[Array.getElem?_setIfInBounds_ne (hne t' u hu)];exact h2 hc t' u hu
 |false=>
  rw[if_neg (by simp),hd];refine hK _ _ (h _ (Grow.refl _) _ (ha.bL hbase) ⟨h1,fun e=>(by rw[hc] at e;cases e),fun _ t' u hu=> ?_,h4.put hf2⟩);rcases bA hu with ⟨rfl,rfl⟩|⟨-,hu⟩
  ·simp[Act.put,ha.size,Nat.blt_eq.mp hn]
  ·simp only[Act.put];rw[Array.getElem?_setIfInBounds_ne (hne t' u hu)];exact h3 hc t' u hu
end
end Go.Proofs.YtigoimhndlnhfaaGreat
namespace Go.Proofs.YtigoimhndlnhfaaGreat
open Go.RowKit
theorem Zs {P:Program}{w:World}{f:FuncId}{fn:Func}{c:Code}{args:List Value}{R:Ending→World→Prop}(n:Nat)(hf:P.funcs[f]? =some fn)(h:Cd P c (bodyPost P fn R) n (iX 0 args) w)(hb:fn.body=some c:=by exact rfl)(hn:fn.ntmps=n:=by exact rfl)(hle:Nat.ble args.length n=true:=by exact rfl):Calls P f args.toArray w R:=Calls.start n hf hb hn hle h
section
variable [Inhabited (List Deferred)]
variable {P:Program} {ops:Array Oper} {Q:Exit→Act→World→Prop} {rest:List Oper} {o:Oper} {n d:Nat} {F F':List (Nat × Value)} {w w':World} {v:Value} {x y:Operand} {T:TypeId}
theorem Zv (hrun:aa P (dg F) o w v w')(h:Seq P ops Q rest n ((d,v)::F) w')(hg:o.guard=none:=by exact rfl)(hd:o.dst=some d:=by exact rfl)(hn:Nat.blt d n=true:=by exact rfl):Seq P ops Q (o::rest) n F w:=Seq.val hrun hg hd hn h
theorem Zm (h:Seq P ops Q rest n ((d,v)::F) w)(ho:o.op= .move x:=by exact rfl)(hx:dg F x=some v:=by exact rfl)(hg:o.guard=none:=by exact rfl)(hd:o.dst=some d:=by exact rfl)(hn:Nat.blt d n=true:=by exact rfl):Seq P ops Q (o::rest) n F w:=Seq.val (aa.move ho hx) hg hd hn h
theorem Za (h:Seq P ops Q rest n ((d,v)::F) w)(ho:o.op= .assign x:=by exact rfl)(hx:dg F x=some v:=by exact rfl)(hg:o.guard=none:=by exact rfl)(hd:o.dst=some d:=by exact rfl)(hn:Nat.blt d n=true:=by exact rfl):Seq P ops Q (o::rest) n F w:=Seq.val (aa.assign ho hx) hg hd hn h
theorem Zf {i t g:Nat}(k:Nat){fields:Array Field}(hT:P.underlying T=some (.struct fields))(h:Seq P ops Q rest n ((d, .pointer (some ⟨g,k,none⟩))::F) w)(ho:o.op= .fieldAddr T x i:=by exact rfl)(hx:dg F x=some (.pointer (some ⟨g,0,none⟩)):=by exact rfl)(hf:oN fields i=some (t,k):=by exact rfl)(hs:jm P t=true:=by kernel_rfl)(hg:o.guard=none:=by exact rfl)(hd:o.dst=some d:=by exact rfl)(hn:Nat.blt d n=true:=by exact rfl):Seq P ops Q (o::rest) n F w:=Seq.val (aa.aj k ho hx hT hf hs) hg hd hn h
theorem Zo {g off:Nat}(m:Nat){t:TypeId}{cs cur:Array Value}(hb:aE w g t cur)(h:∀w',gI w w' g t (cur.toList.take off++(cs.toList++cur.toList.drop (off+cs.size))).toArray→Seq P ops Q rest n F w')(ho:o.op= .store T x y:=by exact rfl)(hx:dg F x=some (.pointer (some ⟨g,off,none⟩)):=by exact rfl)(hy:dg F y=some v:=by exact rfl)(hcs:v.cells=cs:=by exact rfl)(hs:b6 P T m=true:=by kernel_rfl)(hm:cs.size=m:=by exact rfl)(h1:bt cs.toList:=by repeat' first|exact trivial|apply And.intro|rfl|assumption)(hfit:off+cs.size≤cur.size:=by simp[Value.cells])
  (hg:o.guard=none:=by exact rfl) (hd:o.dst=none:=by exact rfl):Seq P ops Q (o::rest) n F w:=Seq.ij ho hx hy hcs hs hm h1 hb hfit hg hd h
theorem Zq {g i:Nat}{t:TypeId}{cs:Array Value}{u:Value}(hb:aE w g t cs)(h:∀w',gI w w' g t (cs.setIfInBounds i v)→Seq P ops Q rest n F w')(ho:o.op= .store T x y:=by exact rfl)(hx:dg F x=some (.pointer (some ⟨g,i,none⟩)):=by exact rfl)(hy:dg F y=some v:=by exact rfl)(hs:b6 P T 1=true:=by kernel_rfl)(h1:v.cells= #[v]:=by exact rfl) (ho1:v.oneCell'=true:=by exact rfl) (hc:cs[i]? =some u:=by exact rfl)
  (hg:o.guard=none:=by exact rfl) (hd:o.dst=none:=by exact rfl):Seq P ops Q (o::rest) n F w:=Seq.nE ho hx hy hs h1 ho1 hb hc hg hd h
theorem Zl {z:Value}(hz:br P T=some (some z))(h:∀g w',zG w w' g T z.cells→Seq P ops Q rest n ((d, .pointer (some ⟨g,0,none⟩))::F) w')(ho:o.op= .alloc T:=by exact rfl)(hg:o.guard=none:=by exact rfl)(hd:o.dst=some d:=by exact rfl)(hn:Nat.blt d n=true:=by exact rfl):Seq P ops Q (o::rest) n F w:=Seq.alloc ho (wu hz) hg hd hn h
theorem Zc {f:FuncId}{args:Array Value}{R:Ending→World→Prop}(he:Enters P (dg F) o w f args)(hc:Calls P f args w R)(h:∀e w',R e w'→∃v,e= .returned v∧Seq P ops Q rest n ((d,v)::F) w')(hg:o.guard=none:=by exact rfl)(hd:o.dst=some d:=by exact rfl)(hn:Nat.blt d n=true:=by exact rfl):Seq P ops Q (o::rest) n F w:=Seq.call he hg hd hn hc h
theorem Ze {f:FuncId}{fn:Func}{c:Code}{E:Operand→Option Value}{args:Array Operand}{ts:Array TypeId}{vs:List Value}(hf:P.funcs[f]? =some fn)(ho:o.op= .call {callee:= .value (.func f),args:=args,argTypes:=ts}:=by exact rfl)(h2:E (.func f)=some (.func (.func f) #[] #[]):=by exact rfl) (hx:fc E args.toList=some vs:=by exact rfl) (hname:(fn.name== "runtime.NumGoroutine")=false:=by kernel_rfl) (hb:fn.body=some c:=by exact rfl):Enters P E o w f vs.toArray:=Enters.func ho h2 hx (aF hf hname hb)
theorem dq {p q:Int}(h:Seq P ops Q rest n ((d, .int .i64 (p+q))::F) w){T':TypeId}(ho:o.op= .binOp .add T x y T':=by exact rfl)(hx:dg F x=some (.int .i64 p):=by exact rfl)(hy:dg F y=some (.int .i64 q):=by exact rfl)(h0: -9223372036854775808≤p+q:=by omega)(h1:p+q≤9223372036854775807:=by omega)(hg:o.guard=none:=by exact rfl)(hd:o.dst=some d:=by exact rfl)(hn:Nat.blt d n=true:=by exact rfl):Seq P ops Q (o::rest) n F w:=Seq.val (aa.oE ho hx hy h0 h1) hg hd hn h
end
section
variable [Inhabited (List Deferred)]
variable {P:Program} {ops:Array Oper} {Q:Exit→Act→World→Prop} {rest:List Oper} {o:Oper} {n d:Nat} {F:List (Nat × Value)} {C:vU} {w w':World} {v:Value} {c:Bool} {H:List (Nat × Value)}
theorem bB {j t:Nat}{b want:Bool}(hrun:(bP C&&(b==want))=true→aa P (dg (kU C F)) o w v w)(h:ar P ops Q rest n ((bP C&&(b==want),[(d,v)])::C) F w)(hg:o.guard=some (j,want):=by exact rfl)(ht:(ops[j]?).bind (·.dst)=some t:=by exact rfl)(hb:look (match (generalizing:=false) C with| []=>F|(_,H)::_=>H) t=some (.bool b):=by exact rfl)(hd:o.dst=some d:=by exact rfl)(hn:Nat.blt d n=true:=by exact rfl)(hf:dm d C F=true:=by exact rfl)(hdt:Nat.beq d t=false:=by exact rfl):ar P ops Q (o::rest) n C F w:=ar.open hg ht hb hd hn hf hdt hrun h
end
section
variable [Inhabited (List Deferred)]
variable {P:Program} {ops:Array Oper} {Q:Exit→Act→World→Prop} {n:Nat} {F:List (Nat × Value)} {w:World} {e:Exit} {y:Code} {id:Nat} {l:List Oper}
theorem Am (k0:Nat){v0:Value}(h:ab Q .normal n [(k0,v0)] w)(h0:look F k0=some v0:=by exact rfl):Seq P ops Q [] n F w:=Seq.nil (ab.dB (F':=[(k0,v0)]) ⟨h0,trivial⟩ h)
theorem cZ (k0 k1:Nat){v0 v1:Value}(h:ab Q .normal n [(k0,v0),(k1,v1)] w)(h0:look F k0=some v0:=by exact rfl)(h1:look F k1=some v1:=by exact rfl):Seq P ops Q [] n F w:=Seq.nil (ab.dB (F':=[(k0,v0),(k1,v1)]) ⟨h0,h1,trivial⟩ h)
theorem bk (k0 k1 k2:Nat){v0 v1 v2:Value}(h:ab Q .normal n [(k0,v0),(k1,v1),(k2,v2)] w)(h0:look F k0=some v0:=by exact rfl)(h1:look F k1=some v1:=by exact rfl)(h2:look F k2=some v2:=by exact rfl):Seq P ops Q [] n F w:=Seq.nil (ab.dB (F':=[(k0,v0),(k1,v1),(k2,v2)]) ⟨h0,h1,h2,trivial⟩ h)
theorem aS (k0 k1 k2 k3:Nat){v0 v1 v2 v3:Value}(h:ab Q .normal n [(k0,v0),(k1,v1),(k2,v2),(k3,v3)] w)(h0:look F k0=some v0:=by exact rfl)(h1:look F k1=some v1:=by exact rfl)(h2:look F k2=some v2:=by exact rfl)(h3:look F k3=some v3:=by exact rfl):Seq P ops Q [] n F w:=Seq.nil (ab.dB (F':=[(k0,v0),(k1,v1),(k2,v2),(k3,v3)]) ⟨h0,h1,h2,h3,trivial⟩ h)
theorem aL (k0 k1 k2 k3 k4:Nat){v0 v1 v2 v3 v4:Value}(h:ab Q .normal n [(k0,v0),(k1,v1),(k2,v2),(k3,v3),(k4,v4)] w)(h0:look F k0=some v0:=by exact rfl)(h1:look F k1=some v1:=by exact rfl)(h2:look F k2=some v2:=by exact rfl)(h3:look F k3=some v3:=by exact rfl)(h4:look F k4=some v4:=by exact rfl):Seq P ops Q [] n F w:=Seq.nil (ab.dB (F':=[(k0,v0),(k1,v1),(k2,v2),(k3,v3),(k4,v4)]) ⟨h0,h1,h2,h3,h4,trivial⟩ h)
theorem aV (k0 k1 k2 k3 k4 k5:Nat){v0 v1 v2 v3 v4 v5:Value}(h:ab Q .normal n [(k0,v0),(k1,v1),(k2,v2),(k3,v3),(k4,v4),(k5,v5)] w)(h0:look F k0=some v0:=by exact rfl)(h1:look F k1=some v1:=by exact rfl)(h2:look F k2=some v2:=by exact rfl)(h3:look F k3=some v3:=by exact rfl)(h4:look F k4=some v4:=by exact rfl)(h5:look F k5=some v5:=by exact rfl):Seq P ops Q [] n F w:=Seq.nil (ab.dB (F':=[(k0,v0),(k1,v1),(k2,v2),(k3,v3),(k4,v4),(k5,v5)]) ⟨h0,h1,h2,h3,h4,h5,trivial⟩ h)
theorem ba (k0 k1 k2 k3 k4 k5 k6:Nat){v0 v1 v2 v3 v4 v5 v6:Value}(h:ab Q .normal n [(k0,v0),(k1,v1),(k2,v2),(k3,v3),(k4,v4),(k5,v5),(k6,v6)] w)(h0:look F k0=some v0:=by exact rfl)(h1:look F k1=some v1:=by exact rfl)(h2:look F k2=some v2:=by exact rfl)(h3:look F k3=some v3:=by exact rfl)(h4:look F k4=some v4:=by exact rfl)(h5:look F k5=some v5:=by exact rfl)(h6:look F k6=some v6:=by exact rfl):Seq P ops Q [] n F w:=Seq.nil (ab.dB (F':=[(k0,v0),(k1,v1),(k2,v2),(k3,v3),(k4,v4),(k5,v5),(k6,v6)]) ⟨h0,h1,h2,h3,h4,h5,h6,trivial⟩ h)
theorem bO (k0 k1 k2 k3 k4 k5 k6 k7:Nat){v0 v1 v2 v3 v4 v5 v6 v7:Value}(h:ab Q .normal n [(k0,v0),(k1,v1),(k2,v2),(k3,v3),(k4,v4),(k5,v5),(k6,v6),(k7,v7)] w)(h0:look F k0=some v0:=by exact rfl)(h1:look F k1=some v1:=by exact rfl)(h2:look F k2=some v2:=by exact rfl)(h3:look F k3=some v3:=by exact rfl)(h4:look F k4=some v4:=by exact rfl)(h5:look F k5=some v5:=by exact rfl)(h6:look F k6=some v6:=by exact rfl)(h7:look F k7=some v7:=by exact rfl):Seq P ops Q [] n F w:=Seq.nil (ab.dB (F':=[(k0,v0),(k1,v1),(k2,v2),(k3,v3),(k4,v4),(k5,v5),(k6,v6),(k7,v7)]) ⟨h0,h1,h2,h3,h4,h5,h6,h7,trivial⟩ h)
theorem cw (k0 k1 k2 k3 k4 k5 k6 k7 k8:Nat){v0 v1 v2 v3 v4 v5 v6 v7 v8:Value}(h:ab Q .normal n [(k0,v0),(k1,v1),(k2,v2),(k3,v3),(k4,v4),(k5,v5),(k6,v6),(k7,v7),(k8,v8)] w)(h0:look F k0=some v0:=by exact rfl)(h1:look F k1=some v1:=by exact rfl)(h2:look F k2=some v2:=by exact rfl)(h3:look F k3=some v3:=by exact rfl)(h4:look F k4=some v4:=by exact rfl)(h5:look F k5=some v5:=by exact rfl)(h6:look F k6=some v6:=by exact rfl)(h7:look F k7=some v7:=by exact rfl)(h8:look F k8=some v8:=by exact rfl):Seq P ops Q [] n F w:=Seq.nil (ab.dB (F':=[(k0,v0),(k1,v1),(k2,v2),(k3,v3),(k4,v4),(k5,v5),(k6,v6),(k7,v7),(k8,v8)]) ⟨h0,h1,h2,h3,h4,h5,h6,h7,h8,trivial⟩ h)
theorem dr (k0 k1 k2 k3 k4 k5 k6 k7 k8 k9:Nat){v0 v1 v2 v3 v4 v5 v6 v7 v8 v9:Value}(h:ab Q .normal n [(k0,v0),(k1,v1),(k2,v2),(k3,v3),(k4,v4),(k5,v5),(k6,v6),(k7,v7),(k8,v8),(k9,v9)] w)(h0:look F k0=some v0:=by exact rfl)(h1:look F k1=some v1:=by exact rfl)(h2:look F k2=some v2:=by exact rfl)(h3:look F k3=some v3:=by exact rfl)(h4:look F k4=some v4:=by exact rfl)(h5:look F k5=some v5:=by exact rfl)(h6:look F k6=some v6:=by exact rfl)(h7:look F k7=some v7:=by exact rfl)(h8:look F k8=some v8:=by exact rfl)(h9:look F k9=some v9:=by exact rfl):Seq P ops Q [] n F w:=Seq.nil (ab.dB (F':=[(k0,v0),(k1,v1),(k2,v2),(k3,v3),(k4,v4),(k5,v5),(k6,v6),(k7,v7),(k8,v8),(k9,v9)]) ⟨h0,h1,h2,h3,h4,h5,h6,h7,h8,h9,trivial⟩ h)
theorem ct (k0 k1 k2 k3 k4 k5 k6 k7 k8 k9 k10:Nat){v0 v1 v2 v3 v4 v5 v6 v7 v8 v9 v10:Value}(h:ab Q .normal n [(k0,v0),(k1,v1),(k2,v2),(k3,v3),(k4,v4),(k5,v5),(k6,v6),(k7,v7),(k8,v8),(k9,v9),(k10,v10)] w)(h0:look F k0=some v0:=by exact rfl)(h1:look F k1=some v1:=by exact rfl)(h2:look F k2=some v2:=by exact rfl)(h3:look F k3=some v3:=by exact rfl)(h4:look F k4=some v4:=by exact rfl)(h5:look F k5=some v5:=by exact rfl)(h6:look F k6=some v6:=by exact rfl)(h7:look F k7=some v7:=by exact rfl)(h8:look F k8=some v8:=by exact rfl)(h9:look F k9=some v9:=by exact rfl)(h10:look F k10=some v10:=by exact rfl):Seq P ops Q [] n F w:=Seq.nil (ab.dB (F':=[(k0,v0),(k1,v1),(k2,v2),(k3,v3),(k4,v4),(k5,v5),(k6,v6),(k7,v7),(k8,v8),(k9,v9),(k10,v10)]) ⟨h0,h1,h2,h3,h4,h5,h6,h7,h8,h9,h10,trivial⟩ h)
theorem eZ (k0 k1 k2 k3 k4 k5 k6 k7 k8 k9 k10 k11:Nat){v0 v1 v2 v3 v4 v5 v6 v7 v8 v9 v10 v11:Value}(h:ab Q .normal n [(k0,v0),(k1,v1),(k2,v2),(k3,v3),(k4,v4),(k5,v5),(k6,v6),(k7,v7),(k8,v8),(k9,v9),(k10,v10),(k11,v11)] w)(h0:look F k0=some v0:=by exact rfl)(h1:look F k1=some v1:=by exact rfl)(h2:look F k2=some v2:=by exact rfl)(h3:look F k3=some v3:=by exact rfl)(h4:look F k4=some v4:=by exact rfl)(h5:look F k5=some v5:=by exact rfl)(h6:look F k6=some v6:=by exact rfl)(h7:look F k7=some v7:=by exact rfl)(h8:look F k8=some v8:=by exact rfl)(h9:look F k9=some v9:=by exact rfl)(h10:look F k10=some v10:=by exact rfl)(h11:look F k11=some v11:=by exact rfl):Seq P ops Q [] n F w:=Seq.nil (ab.dB (F':=[(k0,v0),(k1,v1),(k2,v2),(k3,v3),(k4,v4),(k5,v5),(k6,v6),(k7,v7),(k8,v8),(k9,v9),(k10,v10),(k11,v11)]) ⟨h0,h1,h2,h3,h4,h5,h6,h7,h8,h9,h10,h11,trivial⟩ h)
theorem iW (k0 k1 k2 k3 k4 k5 k6 k7 k8 k9 k10 k11 k12:Nat){v0 v1 v2 v3 v4 v5 v6 v7 v8 v9 v10 v11 v12:Value}(h:ab Q .normal n [(k0,v0),(k1,v1),(k2,v2),(k3,v3),(k4,v4),(k5,v5),(k6,v6),(k7,v7),(k8,v8),(k9,v9),(k10,v10),(k11,v11),(k12,v12)] w)(h0:look F k0=some v0:=by exact rfl)(h1:look F k1=some v1:=by exact rfl)(h2:look F k2=some v2:=by exact rfl)(h3:look F k3=some v3:=by exact rfl)(h4:look F k4=some v4:=by exact rfl)(h5:look F k5=some v5:=by exact rfl)(h6:look F k6=some v6:=by exact rfl)(h7:look F k7=some v7:=by exact rfl)(h8:look F k8=some v8:=by exact rfl)(h9:look F k9=some v9:=by exact rfl)(h10:look F k10=some v10:=by exact rfl)(h11:look F k11=some v11:=by exact rfl)(h12:look F k12=some v12:=by exact rfl):Seq P ops Q [] n F w:=Seq.nil (ab.dB (F':=[(k0,v0),(k1,v1),(k2,v2),(k3,v3),(k4,v4),(k5,v5),(k6,v6),(k7,v7),(k8,v8),(k9,v9),(k10,v10),(k11,v11),(k12,v12)]) ⟨h0,h1,h2,h3,h4,h5,h6,h7,h8,h9,h10,h11,h12,trivial⟩ h)
theorem gM (k0 k1 k2 k3 k4 k5 k6 k7 k8 k9 k10 k11 k12 k13:Nat){v0 v1 v2 v3 v4 v5 v6 v7 v8 v9 v10 v11 v12 v13:Value}(h:ab Q .normal n [(k0,v0),(k1,v1),(k2,v2),(k3,v3),(k4,v4),(k5,v5),(k6,v6),(k7,v7),(k8,v8),(k9,v9),(k10,v10),(k11,v11),(k12,v12),(k13,v13)] w)(h0:look F k0=some v0:=by exact rfl)(h1:look F k1=some v1:=by exact rfl)(h2:look F k2=some v2:=by exact rfl)(h3:look F k3=some v3:=by exact rfl)(h4:look F k4=some v4:=by exact rfl)(h5:look F k5=some v5:=by exact rfl)(h6:look F k6=some v6:=by exact rfl)(h7:look F k7=some v7:=by exact rfl)(h8:look F k8=some v8:=by exact rfl)(h9:look F k9=some v9:=by exact rfl)(h10:look F k10=some v10:=by exact rfl)(h11:look F k11=some v11:=by exact rfl)(h12:look F k12=some v12:=by exact rfl)(h13:look F k13=some v13:=by exact rfl):Seq P ops Q [] n F w:=Seq.nil (ab.dB (F':=[(k0,v0),(k1,v1),(k2,v2),(k3,v3),(k4,v4),(k5,v5),(k6,v6),(k7,v7),(k8,v8),(k9,v9),(k10,v10),(k11,v11),(k12,v12),(k13,v13)]) ⟨h0,h1,h2,h3,h4,h5,h6,h7,h8,h9,h10,h11,h12,h13,trivial⟩ h)
theorem zA (k0 k1 k2 k3 k4 k5 k6 k7 k8 k9 k10 k11 k12 k13 k14:Nat){v0 v1 v2 v3 v4 v5 v6 v7 v8 v9 v10 v11 v12 v13 v14:Value}(h:ab Q .normal n [(k0,v0),(k1,v1),(k2,v2),(k3,v3),(k4,v4),(k5,v5),(k6,v6),(k7,v7),(k8,v8),(k9,v9),(k10,v10),(k11,v11),(k12,v12),(k13,v13),(k14,v14)] w)(h0:look F k0=some v0:=by exact rfl)(h1:look F k1=some v1:=by exact rfl)(h2:look F k2=some v2:=by exact rfl)(h3:look F k3=some v3:=by exact rfl)(h4:look F k4=some v4:=by exact rfl)(h5:look F k5=some v5:=by exact rfl)(h6:look F k6=some v6:=by exact rfl)(h7:look F k7=some v7:=by exact rfl)(h8:look F k8=some v8:=by exact rfl)(h9:look F k9=some v9:=by exact rfl)(h10:look F k10=some v10:=by exact rfl)(h11:look F k11=some v11:=by exact rfl)(h12:look F k12=some v12:=by exact rfl)(h13:look F k13=some v13:=by exact rfl)(h14:look F k14=some v14:=by exact rfl):Seq P ops Q [] n F w:=Seq.nil (ab.dB (F':=[(k0,v0),(k1,v1),(k2,v2),(k3,v3),(k4,v4),(k5,v5),(k6,v6),(k7,v7),(k8,v8),(k9,v9),(k10,v10),(k11,v11),(k12,v12),(k13,v13),(k14,v14)]) ⟨h0,h1,h2,h3,h4,h5,h6,h7,h8,h9,h10,h11,h12,h13,h14,trivial⟩ h)
theorem mc (k0 k1 k2 k3 k4 k5 k6 k7 k8 k9 k10 k11 k12 k13 k14 k15:Nat){v0 v1 v2 v3 v4 v5 v6 v7 v8 v9 v10 v11 v12 v13 v14 v15:Value}(h:ab Q .normal n [(k0,v0),(k1,v1),(k2,v2),(k3,v3),(k4,v4),(k5,v5),(k6,v6),(k7,v7),(k8,v8),(k9,v9),(k10,v10),(k11,v11),(k12,v12),(k13,v13),(k14,v14),(k15,v15)] w)(h0:look F k0=some v0:=by exact rfl)(h1:look F k1=some v1:=by exact rfl)(h2:look F k2=some v2:=by exact rfl)(h3:look F k3=some v3:=by exact rfl)(h4:look F k4=some v4:=by exact rfl)(h5:look F k5=some v5:=by exact rfl)(h6:look F k6=some v6:=by exact rfl)(h7:look F k7=some v7:=by exact rfl)(h8:look F k8=some v8:=by exact rfl)(h9:look F k9=some v9:=by exact rfl)(h10:look F k10=some v10:=by exact rfl)(h11:look F k11=some v11:=by exact rfl)(h12:look F k12=some v12:=by exact rfl)(h13:look F k13=some v13:=by exact rfl)(h14:look F k14=some v14:=by exact rfl)(h15:look F k15=some v15:=by exact rfl):Seq P ops Q [] n F w:=Seq.nil (ab.dB (F':=[(k0,v0),(k1,v1),(k2,v2),(k3,v3),(k4,v4),(k5,v5),(k6,v6),(k7,v7),(k8,v8),(k9,v9),(k10,v10),(k11,v11),(k12,v12),(k13,v13),(k14,v14),(k15,v15)]) ⟨h0,h1,h2,h3,h4,h5,h6,h7,h8,h9,h10,h11,h12,h13,h14,h15,trivial⟩ h)
theorem AS (k0 k1 k2 k3 k4 k5 k6 k7 k8 k9 k10 k11 k12 k13 k14 k15 k16:Nat){v0 v1 v2 v3 v4 v5 v6 v7 v8 v9 v10 v11 v12 v13 v14 v15 v16:Value}(h:ab Q .normal n [(k0,v0),(k1,v1),(k2,v2),(k3,v3),(k4,v4),(k5,v5),(k6,v6),(k7,v7),(k8,v8),(k9,v9),(k10,v10),(k11,v11),(k12,v12),(k13,v13),(k14,v14),(k15,v15),(k16,v16)] w)(h0:look F k0=some v0:=by exact rfl)(h1:look F k1=some v1:=by exact rfl)(h2:look F k2=some v2:=by exact rfl)(h3:look F k3=some v3:=by exact rfl)(h4:look F k4=some v4:=by exact rfl)(h5:look F k5=some v5:=by exact rfl)(h6:look F k6=some v6:=by exact rfl)(h7:look F k7=some v7:=by exact rfl)(h8:look F k8=some v8:=by exact rfl)(h9:look F k9=some v9:=by exact rfl)(h10:look F k10=some v10:=by exact rfl)(h11:look F k11=some v11:=by exact rfl)(h12:look F k12=some v12:=by exact rfl)(h13:look F k13=some v13:=by exact rfl)(h14:look F k14=some v14:=by exact rfl)(h15:look F k15=some v15:=by exact rfl)(uB:look F k16=some v16:=by exact rfl):Seq P ops Q [] n F w:=Seq.nil (ab.dB (F':=[(k0,v0),(k1,v1),(k2,v2),(k3,v3),(k4,v4),(k5,v5),(k6,v6),(k7,v7),(k8,v8),(k9,v9),(k10,v10),(k11,v11),(k12,v12),(k13,v13),(k14,v14),(k15,v15),(k16,v16)]) ⟨h0,h1,h2,h3,h4,h5,h6,h7,h8,h9,h10,h11,h12,h13,h14,h15,uB,trivial⟩ h)
theorem Au (k0 k1 k2 k3 k4 k5 k6 k7 k8 k9 k10 k11 k12 k13 k14 k15 k16 k17:Nat){v0 v1 v2 v3 v4 v5 v6 v7 v8 v9 v10 v11 v12 v13 v14 v15 v16 v17:Value}(h:ab Q .normal n [(k0,v0),(k1,v1),(k2,v2),(k3,v3),(k4,v4),(k5,v5),(k6,v6),(k7,v7),(k8,v8),(k9,v9),(k10,v10),(k11,v11),(k12,v12),(k13,v13),(k14,v14),(k15,v15),(k16,v16),(k17,v17)] w)(h0:look F k0=some v0:=by exact rfl)(h1:look F k1=some v1:=by exact rfl)(h2:look F k2=some v2:=by exact rfl)(h3:look F k3=some v3:=by exact rfl)(h4:look F k4=some v4:=by exact rfl)(h5:look F k5=some v5:=by exact rfl)(h6:look F k6=some v6:=by exact rfl)(h7:look F k7=some v7:=by exact rfl)(h8:look F k8=some v8:=by exact rfl)(h9:look F k9=some v9:=by exact rfl)(h10:look F k10=some v10:=by exact rfl)(h11:look F k11=some v11:=by exact rfl)(h12:look F k12=some v12:=by exact rfl)(h13:look F k13=some v13:=by exact rfl)(h14:look F k14=some v14:=by exact rfl)(h15:look F k15=some v15:=by exact rfl)(uB:look F k16=some v16:=by exact rfl)(h17:look F k17=some v17:=by exact rfl):Seq P ops Q [] n F w:=Seq.nil (ab.dB (F':=[(k0,v0),(k1,v1),(k2,v2),(k3,v3),(k4,v4),(k5,v5),(k6,v6),(k7,v7),(k8,v8),(k9,v9),(k10,v10),(k11,v11),(k12,v12),(k13,v13),(k14,v14),(k15,v15),(k16,v16),(k17,v17)]) ⟨h0,h1,h2,h3,h4,h5,h6,h7,h8,h9,h10,h11,h12,h13,h14,h15,uB,h17,trivial⟩ h)
theorem Zt {y:Code}(h:Cd P y Q n F w):ab (Exit.then (y.wp P Q) Q) .normal n F w:=ab.uo h
theorem aH {x y:Code}(h:Cd P x (Exit.then (y.wp P Q) Q) n F w):ab (Exit.then ((Code.seq x y).wp P Q) Q) .normal n F w:=ab.uo (Cd.seq h)
theorem Zr (h:Seq P l.toArray Q l n F w):Cd P (.region id l.toArray false) Q n F w:=Cd.region h
theorem ah {y:Code}(h:Seq P l.toArray (Exit.then (y.wp P Q) Q) l n F w):Cd P (.seq (.region id l.toArray false) y) Q n F w:=Cd.seq (Cd.region h)
theorem et (h:Seq P l.toArray Q l n F w):ab (Exit.then ((Code.region id l.toArray false).wp P Q) Q) .normal n F w:=ab.uo (Cd.region h)
theorem az {y:Code}(h:Seq P l.toArray (Exit.then (y.wp P Q) Q) l n F w):ab (Exit.then ((Code.seq (.region id l.toArray false) y).wp P Q) Q) .normal n F w:=ab.uo (Cd.seq (Cd.region h))
end
section
variable [Inhabited (List Deferred)]
variable {P:Program} {ops:Array Oper} {Q:Exit→Act→World→Prop} {n:Nat} {F0:List (Nat × Value)} {w0:World} {Γ:Env} {o:Oper} {v:Value} {r:List Oper} {B:Env→Prop} {k:Nat} {L:List Nat}
theorem Zd (hrun:∀w,Grow w0 w→aa P (kQ [] F0 Γ o) o w v w)(hr:fO P ops Q n F0 Grow w0 L B (k+1) r ((k,o.dst, .eq v)::Γ))(hu:uniq Γ=true:=by exact rfl)(hg:o.guard=none:=by exact rfl)(hl:aT L k=false:=by rfl):fO P ops Q n F0 Grow w0 L B k (o::r) Γ:=Dr.val Grow.refl hu hrun hg hr hl
theorem fN {x:Operand}(hr:fO P ops Q n F0 Grow w0 L B (k+1) r ((k,o.dst, .eq v)::Γ))(ho:o.op= .move x:=by exact rfl)(hx:kQ [] F0 Γ o x=some v:=by exact rfl)(hu:uniq Γ=true:=by exact rfl)(hg:o.guard=none:=by exact rfl)(hl:aT L k=false:=by rfl):fO P ops Q n F0 Grow w0 L B k (o::r) Γ:=Dr.val Grow.refl hu (fun _ _=>aa.move ho hx) hg hr hl
theorem ow {j t:Nat}{b:Bool}(hrun:∀w,Grow w0 w→aa P (kQ [] F0 Γ o) o w v w)(hr:fO P ops Q n F0 Grow w0 L B (k+1) r ((k,o.dst, .eq v)::Γ))(hu:uniq Γ=true:=by exact rfl)(hg:o.guard=some (j,b):=by exact rfl)(ht:(ops[j]?).bind (·.dst)=some t:=by exact rfl)(hb:kQ [] F0 Γ o (.tmp t)=some (.bool b):=by exact rfl)(hl:aT L k=false:=by rfl):fO P ops Q n F0 Grow w0 L B k (o::r) Γ:=Dr.av Grow.refl hu hrun hg ht hb hr hl
theorem mq {j t:Nat}{b b':Bool}(hr:fO P ops Q n F0 Grow w0 L B (k+1) r ((k,o.dst, .eq undef)::Γ))(hu:uniq Γ=true:=by exact rfl)(hg:o.guard=some (j,b):=by exact rfl)(ht:(ops[j]?).bind (·.dst)=some t:=by exact rfl)(hb:kQ [] F0 Γ o (.tmp t)=some (.bool b'):=by exact rfl)(hne:b'= !b:=by exact rfl)(hl:aT L k=false:=by rfl):fO P ops Q n F0 Grow w0 L B k (o::r) Γ:=Dr.skip hu hg ht hb hne hr hl
end
section
variable [Inhabited (List Deferred)]
variable {P:Program} {ops:Array Oper} {Q:Exit→Act→World→Prop} {rest:List Oper} {o:Oper} {n d:Nat} {F:List (Nat × Value)} {w w':World} {v:Value} {x y:Operand} {T T':TypeId}
theorem ZL {g i:Nat}{cs:Array Value}{t:TypeId}{ds:TypeDesc}(hT:P.underlying T=some ds)(hb:aE w g t cs)(h:Seq P ops Q rest n ((d,v)::F) w)(ho:o.op= .load T x:=by exact rfl)(hx:dg F x=some (.pointer (some ⟨g,i,none⟩)):=by exact rfl)(hd':(match ds with| .struct _| .array _ _=>true|_=>false)=false:=by exact rfl)(hi:cs[i]? =some v:=by exact rfl)(hg:o.guard=none:=by exact rfl)(hd:o.dst=some d:=by exact rfl)(hn:Nat.blt d n=true:=by exact rfl):Seq P ops Q (o::rest) n F w:=Seq.val (aa.ak ho hx hT hd' hb hi) hg hd hn h
theorem ZW {g:Nat}{cs:Array Value}{t:TypeId}{ds:TypeDesc}(m:Nat)(hT:P.underlying T=some ds)(hb:aE w g t cs)(h:Seq P ops Q rest n ((d, .agg cs)::F) w)(ho:o.op= .load T x:=by exact rfl)(hx:dg F x=some (.pointer (some ⟨g,0,none⟩)):=by exact rfl)(hd':(match ds with| .struct _| .array _ _=>true|_=>false)=true:=by exact rfl)(hs:b6 P T m=true:=by kernel_rfl)(hm:cs.size=m:=by exact rfl)(hg:o.guard=none:=by exact rfl)(hd:o.dst=some d:=by exact rfl)(hn:Nat.blt d n=true:=by exact rfl):Seq P ops Q (o::rest) n F w:=Seq.val (aa.dx ho hx hT hd' hb hs hm) hg hd hn h
theorem Zx {i:Nat}{vs:Array Value}(h:Seq P ops Q rest n ((d,v)::F) w)(ho:o.op= .extract x i:=by exact rfl)(hx:dg F x=some (.tuple vs):=by exact rfl)(hv:vs[i]? =some v:=by exact rfl)(hg:o.guard=none:=by exact rfl)(hd:o.dst=some d:=by exact rfl)(hn:Nat.blt d n=true:=by exact rfl):Seq P ops Q (o::rest) n F w:=Seq.val (aa.extract ho hx hv) hg hd hn h
theorem gU {a:Bool}(h:Seq P ops Q rest n ((d, .bool !a)::F) w)(ho:o.op= .unOp .not T x:=by exact rfl)(hx:dg F x=some (.bool a):=by exact rfl)(hg:o.guard=none:=by exact rfl)(hd:o.dst=some d:=by exact rfl)(hn:Nat.blt d n=true:=by exact rfl):Seq P ops Q (o::rest) n F w:=Seq.val (aa.not ho hx) hg hd hn h
theorem qq {p q:Int}(h:Seq P ops Q rest n ((d, .int .i64 (p-q))::F) w)(ho:o.op= .binOp .sub T x y T':=by exact rfl)(hx:dg F x=some (.int .i64 p):=by exact rfl)(hy:dg F y=some (.int .i64 q):=by exact rfl)(h0: -9223372036854775808≤p-q:=by omega)(h1:p-q≤9223372036854775807:=by omega)(hg:o.guard=none:=by exact rfl)(hd:o.dst=some d:=by exact rfl)(hn:Nat.blt d n=true:=by exact rfl):Seq P ops Q (o::rest) n F w:=Seq.val (aa.AR ho hx hy h0 h1) hg hd hn h
theorem aX {k:IntKind}{p q:Int}(h:Seq P ops Q rest n ((d, .bool (decide (p=q)))::F) w)(ho:o.op= .binOp .eql T x y T':=by exact rfl)(hx:dg F x=some (.int k p):=by exact rfl)(hy:dg F y=some (.int k q):=by exact rfl)(hg:o.guard=none:=by exact rfl)(hd:o.dst=some d:=by exact rfl)(hn:Nat.blt d n=true:=by exact rfl):Seq P ops Q (o::rest) n F w:=Seq.val (aa.fK ho hx hy) hg hd hn h
theorem jq {k:IntKind}{p q:Int}(h:Seq P ops Q rest n ((d, .bool (decide (p≠q)))::F) w)(ho:o.op= .binOp .neq T x y T':=by exact rfl)(hx:dg F x=some (.int k p):=by exact rfl)(hy:dg F y=some (.int k q):=by exact rfl)(hg:o.guard=none:=by exact rfl)(hd:o.dst=some d:=by exact rfl)(hn:Nat.blt d n=true:=by exact rfl):Seq P ops Q (o::rest) n F w:=Seq.val (aa.bT ho hx hy) hg hd hn h
theorem eU {k:IntKind}{p q:Int}(h:Seq P ops Q rest n ((d, .bool (decide (p<q)))::F) w)(ho:o.op= .binOp .lss T x y T':=by exact rfl)(hx:dg F x=some (.int k p):=by exact rfl)(hy:dg F y=some (.int k q):=by exact rfl)(hg:o.guard=none:=by exact rfl)(hd:o.dst=some d:=by exact rfl)(hn:Nat.blt d n=true:=by exact rfl):Seq P ops Q (o::rest) n F w:=Seq.val (aa.lss ho hx hy) hg hd hn h
theorem Cb {k:IntKind}{p q:Int}(h:Seq P ops Q rest n ((d, .bool (decide (p≤q)))::F) w)(ho:o.op= .binOp .leq T x y T':=by exact rfl)(hx:dg F x=some (.int k p):=by exact rfl)(hy:dg F y=some (.int k q):=by exact rfl)(hg:o.guard=none:=by exact rfl)(hd:o.dst=some d:=by exact rfl)(hn:Nat.blt d n=true:=by exact rfl):Seq P ops Q (o::rest) n F w:=Seq.val (aa.leq ho hx hy) hg hd hn h
theorem qK {k:IntKind}{p q:Int}(h:Seq P ops Q rest n ((d, .bool (decide (q<p)))::F) w)(ho:o.op= .binOp .gtr T x y T':=by exact rfl)(hx:dg F x=some (.int k p):=by exact rfl)(hy:dg F y=some (.int k q):=by exact rfl)(hg:o.guard=none:=by exact rfl)(hd:o.dst=some d:=by exact rfl)(hn:Nat.blt d n=true:=by exact rfl):Seq P ops Q (o::rest) n F w:=Seq.val (aa.gtr ho hx hy) hg hd hn h
theorem oo {k:IntKind}{p q:Int}(h:Seq P ops Q rest n ((d, .bool (decide (q≤p)))::F) w)(ho:o.op= .binOp .geq T x y T':=by exact rfl)(hx:dg F x=some (.int k p):=by exact rfl)(hy:dg F y=some (.int k q):=by exact rfl)(hg:o.guard=none:=by exact rfl)(hd:o.dst=some d:=by exact rfl)(hn:Nat.blt d n=true:=by exact rfl):Seq P ops Q (o::rest) n F w:=Seq.val (aa.geq ho hx hy) hg hd hn h
theorem gm (m:Nat){id:Nat}{l:List Oper}(h:∀w0,Below w.heap.size w w0→w0.heap.size=w.heap.size→fO P l.toArray Q n F Grow w0 [] (bH P l.toArray Q n F Grow w0 (l.drop m) [] (fun _=>True)) 0 (l.take m) [])(hm:P.follows .mixedOrders=true:=by kernel_rfl)(hchk:jT n (gy F) [] (l.take m) (l.drop m)=true:=by rfl):Cd P (.region id l.toArray true) Q n F w:=Cd.draw m hm [] (.inl rfl) hchk Grow Grow.refl (fun _ _ _=>Grow.trans) h
end
section
variable [Inhabited (List Deferred)]
variable {P:Program} {ops:Array Oper} {Q:Exit→Act→World→Prop} {rest:List Oper} {o:Oper} {n d:Nat} {F:List (Nat × Value)} {C:vU} {w w':World} {v:Value} {c:Bool} {H:List (Nat × Value)} {x:Operand}
theorem Zn {j t:Nat}{b want:Bool}{c0:Bool}(hrun:c0=true→aa P (dg (kU ((c0,H)::C) F)) o w v w)(h:ar P ops Q rest n ((c0,(d,v)::H)::C) F w)(hg:o.guard=some (j,want):=by exact rfl)(ht:(ops[j]?).bind (·.dst)=some t:=by exact rfl)(hb:look (match (generalizing:=false) C with| []=>F|(_,H)::_=>H) t=some (.bool b):=by exact rfl)(hc0:c0=(bP C&&(b==want)):=by exact rfl)(hd:o.dst=some d:=by exact rfl)(hn:Nat.blt d n=true:=by exact rfl)(hf:dm d ((c0,H)::C) F=true:=by exact rfl):ar P ops Q (o::rest) n ((c0,H)::C) F w:=ar.next hg ht hb hc0 hd hn hf hrun h
theorem jL {j t:Nat}{b want:Bool}{c0:Bool}(h:ar P ops Q rest n ((c0,(d,v)::H)::C) F w)(ho:o.op= .move x:=by exact rfl)(hx:dg (kU ((c0,H)::C) F) x=some v:=by exact rfl)(hg:o.guard=some (j,want):=by exact rfl)(ht:(ops[j]?).bind (·.dst)=some t:=by exact rfl)(hb:look (match (generalizing:=false) C with| []=>F|(_,H)::_=>H) t=some (.bool b):=by exact rfl)(hc0:c0=(bP C&&(b==want)):=by exact rfl)(hd:o.dst=some d:=by exact rfl)(hn:Nat.blt d n=true:=by exact rfl)(hf:dm d ((c0,H)::C) F=true:=by exact rfl):ar P ops Q (o::rest) n ((c0,H)::C) F w:=ar.next hg ht hb hc0 hd hn hf (fun _=>aa.move ho hx) h
theorem fh {k:Nat}{b p:Bool}(h:Seq P ops Q rest n ((d, .bool (b||p))::F) w)(hg:o.guard=none:=by exact rfl)(ho:o.op= .pick x (.const (.bool true)) (.tmp k):=by exact rfl)(hx:dg F x=some (.bool b):=by exact rfl)(hc:c=(true&&(b==false)):=by exact rfl)(hk:look H k=some (.bool p):=by exact rfl)(hd:o.dst=some d:=by exact rfl)(hn:Nat.blt d n=true:=by exact rfl):ar P ops Q (o::rest) n [(c,H)] F w:=ar.or hg ho hx hc hk hd hn h
theorem dL {k:Nat}{b p:Bool}(h:Seq P ops Q rest n ((d, .bool (b&&p))::F) w)(hg:o.guard=none:=by exact rfl)(ho:o.op= .pick x (.tmp k) (.const (.bool false)):=by exact rfl)(hx:dg F x=some (.bool b):=by exact rfl)(hc:c=(true&&(b==true)):=by exact rfl)(hk:look H k=some (.bool p):=by exact rfl)(hd:o.dst=some d:=by exact rfl)(hn:Nat.blt d n=true:=by exact rfl):ar P ops Q (o::rest) n [(c,H)] F w:=ar.and hg ho hx hc hk hd hn h
end
section
variable [Inhabited (List Deferred)]
variable {P:Program} {ops:Array Oper} {Q:Exit→Act→World→Prop} {n:Nat} {F0:List (Nat × Value)} {w0:World} {Γ:Env} {o:Oper} {v:Value} {r:List Oper} {B:Env→Prop} {k:Nat} {L:List Nat} {x:Operand} {T:TypeId}
theorem fb {g i:Nat}{cs:Array Value}{t:TypeId}{ds:TypeDesc}(hT:P.underlying T=some ds)(hb:aE w0 g t cs)(hr:fO P ops Q n F0 Grow w0 L B (k+1) r ((k,o.dst, .eq v)::Γ))(ho:o.op= .load T x:=by exact rfl)(hx:kQ [] F0 Γ o x=some (.pointer (some ⟨g,i,none⟩)):=by exact rfl)(hd':(match ds with| .struct _| .array _ _=>true|_=>false)=false:=by exact rfl)(hi:cs[i]? =some v:=by exact rfl)(hu:uniq Γ=true:=by exact rfl)(hg:o.guard=none:=by exact rfl)(hl:aT L k=false:=by rfl):fO P ops Q n F0 Grow w0 L B k (o::r) Γ:=Dr.val Grow.refl hu (fun _ hG=>aa.ak ho hx hT (by cases ds<;>first|exact hd'|rfl|cases hd') (hb.step hG) hi) hg hr hl
theorem gw {i t g:Nat}(k':Nat){fields:Array Field}(hT:P.underlying T=some (.struct fields))(hr:fO P ops Q n F0 Grow w0 L B (k+1) r ((k,o.dst, .eq (.pointer (some ⟨g,k',none⟩)))::Γ))(ho:o.op= .fieldAddr T x i:=by exact rfl)(hx:kQ [] F0 Γ o x=some (.pointer (some ⟨g,0,none⟩)):=by exact rfl)(hf:oN fields i=some (t,k'):=by exact rfl)(hs:jm P t=true:=by kernel_rfl)(hu:uniq Γ=true:=by exact rfl)(hg:o.guard=none:=by exact rfl)(hl:aT L k=false:=by rfl):fO P ops Q n F0 Grow w0 L B k (o::r) Γ:=Dr.val Grow.refl hu (fun _ _=>aa.aj k' ho hx hT hf hs) hg hr hl
end
section
variable {P:Program} {Q:Exit→Act→World→Prop} {n:Nat} {F:List (Nat × Value)} {w:World} {v:Value}
theorem aP {fn:Func}{R:Ending→World→Prop}{t:Nat}(h:R (.returned v) w)(hr:fn.results= #[.tmp t]:=by exact rfl) (hl:look F t=some v:=by exact rfl):ab (bodyPost P fn R) .ret n F w:=ab.BN hr hl (.inl rfl) h
theorem cG {fn:Func}{R:Ending→World→Prop}{t u:Nat}{v':Value}(h:R (.returned (.tuple #[v,v'])) w) (hr:fn.results= #[.tmp t, .tmp u]:=by exact rfl) (hl:look F t=some v:=by exact rfl) (hl':look F u=some v':=by exact rfl):ab (bodyPost P fn R) .ret n F w:=ab.BI hr hl hl' (.inl rfl) h
theorem iH {fn:Func}{R:Ending→World→Prop}{p g:Nat}{ty t:TypeId}{cs:Array Value}{ds:TypeDesc}(m:Nat)(hb:aE w g t cs)(hu:P.underlying ty=some ds)(h:R (.returned (.agg cs)) w)(hr:fn.results= #[.cell p ty]:=by exact rfl) (hl:look F p=some (.pointer (some ⟨g,0,none⟩)):=by exact rfl) (hd':(match ds with| .struct _| .array _ _=>true|_=>false)=true:=by exact rfl) (hs:b6 P ty m=true:=by kernel_rfl) (hm:cs.size=m:=by exact rfl):ab (bodyPost P fn R) .ret n F w:=ab.BO hr hl hb hu hd' hs hm (.inl rfl) h
end
variable [Inhabited (List Deferred)]
structure Own (w:World)(B:Nat)(e:TypeId)(size:Nat)(v:Value)(n:Nat)(xs:List Value):Prop where
 row:w.ownsRow B e size v n xs
section
variable {w w':World} {B size n:Nat} {e:TypeId} {v:Value} {xs:List Value}
theorem Own.nil (w:World)(B:Nat)(e:TypeId)(size:Nat):Own w B e size (.slice none 0 0) 0 []:=⟨World.ownsRow_nil _ _ _ _⟩
theorem Own.step (h:Own w B e size v n xs)(hb:Below w.heap.size w w'):Own w' B e size v n xs:=⟨vL h.row hb⟩
theorem Own.put {g B':Nat}{T:TypeId}{cur cs:Array Value}(h:Own w B e size v n xs)(k:aE w g T cur)(p:gI w w' g T cs)(_e:B'≤g)(hne:e≠T:=by decide):Own w' B e size v n xs:=⟨h.row.kept p.grown (mO h.row k hne)⟩
theorem Own.reads (h:Own w B e size v n xs):∃A c,v= .slice A n c∧Reads w w.heap.size size A n xs:=vz h.row
theorem Reads.an {g:Nat}{T:TypeId}{cs:Array Value}(k:aE w g T cs)(m:Nat)(hm:cs.size=m*size):Reads w w.heap.size size (some ⟨g,0,none⟩) m cs.toList:=by
 refine⟨by simpa using hm,fun _=>⟨_,rfl,k.lt,fun j u hu=> ?_⟩⟩;have hplain:(⟨g,0,none⟩:Addr).add j=⟨g,j,none⟩:=by unfold Addr.add;split<;>simp_all
 rw[hplain,cell_of_row _ _ _ _ _ _ k]
 simpa using hu
structure App (w w':World)(B:Nat)(v:Value):Prop where
 below:Below B w w'
 grown:w.grownBy w' v.ownBlock
end
section
variable {P:Program} {ops:Array Oper} {Q:Exit→Act→World→Prop} {rest:List Oper} {o:Oper} {n d:Nat} {F:List (Nat × Value)} {w:World} {v:Value} {x y:Operand}
theorem Seq.append {t e B B2 size b k m c:Nat}{A:Option Addr}{z:Value}{xs news:List Value}(ho:o.op= .call {callee:= .builtin .append,args:= #[x,y],argTypes:= #[t,t]}) (hx:dg F x=some v) (hy:dg F y=some (.slice A m c)) (ht:P.underlying t=some (.slice e)) (hs:b6 P e size=true) (hz:br P e=some (some z)) (hzs:z.cells.size=size) (hsz:0<size) (hby:(P.info? e).map (·.bytes)=some b)
  (hown:Own w B e size v k xs) (hr:Reads w B2 size A m news) (h1:∀u∈news,u.oneCell'=true) (hB:B≤w.heap.size) (h63:k+m≤maxLen) (hbytes:(k+m)*b≤140737488355328) (hg:o.guard=none) (hd:o.dst=some d) (hn:Nat.blt d n=true)
  (h:∀v' w',Own w' B e size v' (k+m) (xs++news)→App w w' B v→Seq P ops Q rest n ((d,v')::F) w'):Seq P ops Q (o::rest) n F w:=by
 obtain⟨i,hi,hisz⟩:=bb hs;have hz':i.zero=some z:=by unfold br at hz;rw[hi] at hz;injection hz
 have hb':i.bytes=b:=by rw[hi] at hby;injection hby
 obtain⟨v',w',hrun,h2,h3,_⟩:=iY (P:=P) w B t o.type e i z size b ht hi hz' hisz hb' hzs hsz v k xs hown.row B2 A m c news hr h1 h63 hbytes hB;refine Seq.val (v:=v') (w':=w') (fun ρ hρ=> ?_) hg hd hn (h v' w' ⟨h2⟩ ⟨?_,h3⟩)
 ·unfold execOp
  simp only[ho,resolve,invoke,builtin,Sem.run_bind,Sem.run_pure,Result.andThen_ok,List.map_toArray,List.map_cons,List.map_nil,hρ _ _ hx,hρ _ _ hy,hrun]
 ·refine⟨h3.os,h3.tape,h3.output,h3.size,fun j hj=>h3.block j (by omega) fun e'=> ?_⟩
  rcases hown.row.2 with ⟨rfl,_⟩|⟨g,cap,cur,rfl,hBg,_⟩
  ·cases e'
  ·injection e' with e'
   have:j=g:=e';omega
end
def Bt (l:List Nat):List Value:=l.map fun(d:Nat)=>Value.int .u8 (d:Int)
def strOf (l:List Nat):ByteArray:=⟨(l.map UInt8.ofNat).toArray⟩
theorem jh (l:List Nat):(Bt l).length=l.length:=by simp[Bt]
theorem kX (l:List Nat)(k:Nat):(Bt l)[k]? =l[k]?.map fun(d:Nat)=>Value.int .u8 (d:Int):=by simp[Bt]
theorem gR (a b:List Nat):Bt (a++b)=Bt a++Bt b:=by simp[Bt]
section
variable {P:Program} {E:Operand→Option Value} {o:Oper} {w:World} {x:Operand}
theorem aa.tJ {T T' e B n c:Nat}{A:Option Addr}{l:List Nat}(ho:o.op= .convert T T' x)(hx:E x=some (.slice A n c))(hT:P.underlying T=some (.slice e))(he:P.underlying e=some (.int .u8))(hd:P.underlying T'=some .string)(hr:Reads w B 1 A n (Bt l))(hl:∀d∈l,d<256):
  aa P E o w (.string (strOf l)) w:=fun ρ h=>by
 have hlen:l.length=n:=by have:=hr.1;rw[jh] at this;omega
 unfold execOp;simp only[ho];rw[h _ _ hx]
 suffices hh:(convert T T' (.slice A n c)).run P w= .ok (.string (strOf l)) w by simp only[Sem.run_bind,hh,Result.andThen_ok];rfl
 rcases Nat.eq_zero_or_pos n with h0|h0
 ·subst h0
  obtain rfl:l=[]:=List.eq_nil_of_length_eq_zero hlen;rcases A with _|ad
  ·rw[run_convert_bytes_nil w T e hT he 0 c T' hd];rfl
  ·exact run_convert_bytes_back w T T' e ad c [] hT he hd (fun j hj=>absurd hj (by simp))
 ·obtain⟨ad,rfl,_,hc⟩:=hr.2 h0
  have:=run_convert_bytes_back w T T' e ad c (l.map UInt8.ofNat) hT he hd (fun j hj=>by
   rw[List.length_map] at hj;have h1:=hc j (.int .u8 ((l[j]:Nat):Int)) (by rw[kX,List.getElem?_eq_getElem hj];rfl);rw[h1];have h2:=hl l[j] (List.getElem_mem hj);rw[List.getElem_map,UInt8.toNat_ofNat',Nat.mod_eq_of_lt h2])
  rw[List.length_map,hlen] at this;exact this
end
end Go.Proofs.YtigoimhndlnhfaaGreat
namespace Go.Proofs.YtigoimhndlnhfaaGreat
open Go.RowKit
theorem bq (l:List Nat):(strOf l).size=l.length:=by simp[strOf,ByteArray.size]
theorem cB (l:List Nat):(strOf l).data.toList=l.map UInt8.ofNat:=by simp[strOf]
theorem lz {a b:ByteArray}(h:a.data.toList=b.data.toList):a=b:=by
 cases a;cases b;congr 1;exact Array.ext' h
theorem pH {l:List Nat}{j c:Nat}(h:l[j]? =some c):(strOf l)[j]? =some (UInt8.ofNat c):=by
 have hj:j<l.length:=(List.getElem?_eq_some_iff.1 h).1;have hs:j<(strOf l).size:=by rw[bq];exact hj
 rw[getElem?_pos (strOf l) j hs];congr 1;have e:l[j]=c:=(List.getElem?_eq_some_iff.1 h).2;show(strOf l).data[j]'hs=_;simp[strOf,e]
theorem qB (a b:List Nat):strOf a++strOf b=strOf (a++b):=by
 apply lz;rw[ByteArray.toList_data_append,cB,cB,cB,List.map_append]
theorem gu (l:List Nat)(a b:Nat):(strOf l).extract a b=strOf ((l.take b).drop a):=by
 apply lz;rw[cB,ByteArray.data_extract,Array.toList_extract,cB,List.map_drop,List.map_take];simp[List.extract_eq_take_drop,List.drop_take]
theorem ofNat_inj {a b:Nat}(ha:a<256)(hb:b<256)(h:UInt8.ofNat a=UInt8.ofNat b):a=b:=by
 have:=congrArg UInt8.toNat h
 simpa[Nat.mod_eq_of_lt ha,Nat.mod_eq_of_lt hb] using this
theorem jG:∀ {a b:List Nat},(∀x∈a,x<256)→(∀x∈b,x<256)→a.map UInt8.ofNat=b.map UInt8.ofNat→a=b
 | [],[],_,_,_=>rfl
 | [],_::_,_,_,h=>by simp at h
 |_::_,[],_,_,h=>by simp at h
 |x::a,y::b,ha,hb,h=>by
  rw[List.map_cons,List.map_cons] at h;injection h with h1 h2
  rw[ofNat_inj (ha x (by simp)) (hb y (by simp)) h1,jG (fun z hz=>ha z (by simp[hz])) (fun z hz=>hb z (by simp[hz])) h2]
theorem qL (s:ByteArray):∀n i r,s.size-i=n→ByteArray.toList.loop s i r=r.reverse++s.data.toList.drop i:=by
 intro n
 induction n with
 |zero=>
  intro i r h;unfold ByteArray.toList.loop
  rw[if_neg (by omega),List.drop_of_length_le (by have:s.data.toList.length=s.size:=Array.length_toList
                                                  omega),List.append_nil]
 |succ n ih=>
  intro i r h;unfold ByteArray.toList.loop;have hi:i<s.size:=by omega
  have hl:i<s.data.toList.length:=by rw[Array.length_toList];exact hi
  rw[if_pos hi,ih _ _ (by omega),List.drop_eq_getElem_cons hl]
  have:s.get! i=s.data.toList[i]:=by
   cases s with
   |mk d=>simp[ByteArray.get!,ByteArray.size] at hi⊢;simp[getElem!_pos,hi]
  rw[this];simp
theorem toList_data (s:ByteArray):s.toList=s.data.toList:=by
 unfold ByteArray.toList;rw[qL s _ 0 [] rfl];simp
theorem fx {a b:List Nat}(ha:∀x∈a,x<256)(hb:∀x∈b,x<256):((strOf a).toList==(strOf b).toList)=decide (a=b):=by
 rw[toList_data,toList_data,cB,cB,Bool.eq_iff_iff];simp
 constructor
 ·exact jG ha hb
 ·intro h;rw[h]
def bytesOf (s:ByteArray):List Nat:=s.data.toList.map UInt8.toNat
theorem tr (s:ByteArray):∀x∈bytesOf s,x<256:=by
 intro x hx;obtain⟨c,_,rfl⟩:=List.mem_map.1 hx;exact c.toNat_lt
theorem jE (s:ByteArray):strOf (bytesOf s)=s:=by
 apply lz;rw[cB];unfold bytesOf;rw[List.map_map]
 conv=>rhs;rw[←List.map_id s.data.toList]
 apply List.map_congr_left;intro c _;simp
theorem ofNat_toNat {c:Nat}(h:c<256):(UInt8.ofNat c).toNat=c:=by simp[Nat.mod_eq_of_lt h]
def idx (l:List Nat)(c:Nat):Nat:=l.findIdx (· ==c)
theorem jM (c:Nat)(hc:c<256):∀l:List Nat,(∀x∈l,x<256)→Lib.indexByte (l.map UInt8.ofNat) (UInt8.ofNat c)=if c∈l then(idx l c:Int) else -1
 | [],_=>by simp[Lib.indexByte]
 |x::l,h=>by
  have ih:=jM c hc l fun z hz=>h z (by simp[hz]);rw[List.map_cons,Lib.indexByte,ih]
  by_cases hx:x=c
  ·subst hx
   simp[idx,List.findIdx_cons]
  ·have hne:(UInt8.ofNat x==UInt8.ofNat c)=false:=by
    rw[beq_eq_false_iff_ne];intro e;exact hx (ofNat_inj (h x (by simp)) hc e)
   have hcons:idx (x::l) c=idx l c+1:=by
    have hxc:(x==c)=false:=beq_eq_false_iff_ne.2 hx;unfold idx;rw[List.findIdx_cons,hxc];rfl
   rw[hne,hcons]
   by_cases hm:c∈l
   ·have e:((idx l c:Int)== -1)=false:=by rw[beq_eq_false_iff_ne];omega
    rw[if_pos hm,if_pos (List.mem_cons_of_mem _ hm),e];rfl
   ·have hno:¬c∈x::l:=fun h=>by
     rcases List.mem_cons.1 h with h|h
     ·exact hx h.symm
     ·exact hm h
    rw[if_neg hno,if_neg hm];rfl
theorem kS (l:List Nat)(c:Nat)(h:c∈l):idx l c<l.length∧c∉l.take (idx l c)∧l=l.take (idx l c)++c::l.drop (idx l c+1):=by
 have h1:idx l c<l.length:=List.findIdx_lt_length.2 ⟨c,h,by simp⟩
 have h2:l[idx l c]=c:=by
  have:=List.findIdx_getElem (p:=(· ==c)) (xs:=l) (w:=h1);exact eq_of_beq this
 refine⟨h1,?_,?_⟩
 ·intro hm
  obtain⟨j,hj,he⟩:=List.getElem_of_mem hm;rw[List.length_take] at hj;have:=List.not_of_lt_findIdx (p:=(· ==c)) (xs:=l) (i:=j) (show j<idx l c by omega);rw[List.getElem_take] at he;simp[he] at this
 ·conv=>lhs;rw[←List.take_append_drop (idx l c) l]
  rw[List.drop_eq_getElem_cons h1,h2]
section
variable {P:Program} {ops:Array Oper} {Q:Exit→Act→World→Prop} {rest:List Oper} {E:Operand→Option Value} {o:Oper} {n d:Nat} {F:List (Nat × Value)} {w w':World} {v:Value} {x y z:Operand} {T T':TypeId}
variable [Inhabited (List Deferred)]
theorem aa.fM {k:IntKind}{p:Int}{l:List Nat}{j c:Nat}(ho:o.op= .index T x y)(hx:E x=some (.string (strOf l)))(hy:E y=some (.int k p))(hT:P.underlying T=some .string)(hp:p=(j:Int))(hl:l[j]? =some c)(hc:c<256):aa P E o w (.int .u8 (c:Int)) w:=
 (aa.zT ho hx hy hT hp (pH hl)).cast (by rw[ofNat_toNat hc])
theorem aa.sliceFrom {k:IntKind}{p:Int}{l:List Nat}{j:Nat}(ho:o.op= .slice T x (some y) none none)(hx:E x=some (.string (strOf l)))(hy:E y=some (.int k p))(hT:P.underlying T=some .string)(hp:p=(j:Int))(hj:j≤l.length):aa P E o w (.string (strOf (l.drop j))) w:=fun ρ h=>by
 subst hp;have:=run_slice_string_l (P:=P) w T (strOf l) hT k (j:Int) (by omega) (by rw[bq];omega);rw[Int.toNat_natCast,gu,bq,List.take_length] at this;unfold execOp;simp only[ho,Option.map_some,Option.map_none];rw[h _ _ hx,h _ _ hy];simp only[Sem.run_bind,run_sliceAt_string (h:=hT),this,Result.andThen_ok];rfl
theorem aa.sliceTo {k:IntKind}{p:Int}{l:List Nat}{j:Nat}(ho:o.op= .slice T x none (some y) none)(hx:E x=some (.string (strOf l)))(hy:E y=some (.int k p))(hT:P.underlying T=some .string)(hp:p=(j:Int))(hj:j≤l.length):aa P E o w (.string (strOf (l.take j))) w:=fun ρ h=>by
 subst hp;have:=run_slice_string_h (P:=P) w T (strOf l) hT k (j:Int) (by omega) (by rw[bq];omega);rw[Int.toNat_natCast,gu,List.drop_zero] at this;unfold execOp;simp only[ho,Option.map_some,Option.map_none];rw[h _ _ hx,h _ _ hy];simp only[Sem.run_bind,run_sliceAt_string (h:=hT),this,Result.andThen_ok];rfl
theorem aa.wX {k k':IntKind}{p q:Int}{l:List Nat}{i j:Nat}(ho:o.op= .slice T x (some y) (some z) none)(hx:E x=some (.string (strOf l)))(hy:E y=some (.int k p))(hz:E z=some (.int k' q))(hT:P.underlying T=some .string)(hp:p=(i:Int))(hq:q=(j:Int))(hi:i≤j)(hj:j≤l.length):aa P E o w (.string (strOf ((l.take j).drop i))) w:=fun ρ h=>by
 subst hp hq;have:=run_slice_string (P:=P) w T (strOf l) k k' (i:Int) (j:Int) hT (by omega) (by omega) (by rw[bq];omega);rw[Int.toNat_natCast,Int.toNat_natCast,gu] at this;unfold execOp;simp only[ho,Option.map_some,Option.map_none];rw[h _ _ hx,h _ _ hy,h _ _ hz];simp only[Sem.run_bind,run_sliceAt_string (h:=hT),this,Result.andThen_ok];rfl
theorem aa.rZ {a b:List Nat}(ho:o.op= .binOp .add T x y T')(hx:E x=some (.string (strOf a)))(hy:E y=some (.string (strOf b)))(hs:a.length+b.length≤9223372036854775807):aa P E o w (.string (strOf (a++b))) w:=
 (aa.ju ho hx hy (by rw[bq,bq];exact hs)).cast (by rw[qB])
theorem aa.ck {a b:List Nat}(ho:o.op= .binOp .eql T x y T')(hx:E x=some (.string (strOf a)))(hy:E y=some (.string (strOf b)))(ha:∀x∈a,x<256)(hb:∀x∈b,x<256):aa P E o w (.bool (decide (a=b))) w:=
 (aa.BM ho hx hy).cast (by rw[fx ha hb])
theorem aa.kW {a b:List Nat}(ho:o.op= .binOp .neq T x y T')(hx:E x=some (.string (strOf a)))(hy:E y=some (.string (strOf b)))(ha:∀x∈a,x<256)(hb:∀x∈b,x<256):aa P E o w (.bool (decide (a≠b))) w:=
 (aa.BH ho hx hy).cast (by rw[fx ha hb];by_cases h:a=b<;>simp[h])
theorem aa.ed {t:TypeId}{l:List Nat}(ho:o.op= .call {callee:= .builtin .len,args:= #[x],argTypes:= #[t]}) (hx:E x=some (.string (strOf l))) (hT:P.underlying t=some .string):aa P E o w (.int .i64 (l.length:Int)) w:=
 (aa.B7 ho hx hT).cast (by rw[bq])
end
section
variable {P:Program} {ops:Array Oper} {Q:Exit→Act→World→Prop} {rest:List Oper} {E:Operand→Option Value} {o:Oper} {n d:Nat} {F:List (Nat × Value)} {w w':World} {v:Value} {x y z:Operand} {T T':TypeId}
theorem ab.kE {fn:Func}{R:Ending→World→Prop}{t u s:Nat}{v' v'':Value}{e:Exit}(hr:fn.results= #[.tmp t, .tmp u, .tmp s]) (hl:look F t=some v) (hl':look F u=some v') (hl'':look F s=some v'') (he:e= .ret∨e= .normal) (h:R (.returned (.tuple #[v,v',v''])) w):ab (bodyPost P fn R) e n F w:=
 ab.end_ (fun a ha=>by rw[results_tmp3 hr];simp[ha.slot t v hl,ha.slot u v' hl',ha.slot s v'' hl'']) he h
end
section
variable {P:Program} {ops:Array Oper} {Q:Exit→Act→World→Prop} {rest:List Oper} {E:Operand→Option Value} {o:Oper} {n d:Nat} {F:List (Nat × Value)} {w w':World} {v:Value} {x y z:Operand} {T T':TypeId}
variable [Inhabited (List Deferred)]
structure B6 (w w':World)(g:Nat)(l:List Nat):Prop where
 ge:w.heap.size≤g
 lt:g<w'.heap.size
 below:Below w.heap.size w w'
 reads:Reads w' w'.heap.size 1 (some ⟨g,0,none⟩) l.length (Bt l)
theorem Seq.sX {e:TypeId}{l:List Nat}(ho:o.op= .convert T T' x)(hx:dg F x=some (.string (strOf l)))(hS:P.underlying T=some .string)(hT:P.underlying T'=some (.slice e))(he:P.underlying e=some (.int .u8))(hl:∀x∈l,x<256)
  (hg:o.guard=none) (hd:o.dst=some d) (hn:Nat.blt d n=true)
  (h:∀g c w',l.length≤c→B6 w w' g l→Seq P ops Q rest n ((d, .slice (some ⟨g,0,none⟩) l.length c)::F) w'):Seq P ops Q (o::rest) n F w:=by
 have hrun:=run_bytes_of_string (P:=P) w T T' e (strOf l) hS hT he
 generalize hc:grownCap w (strOf l).size 0 e=c at hrun
 have hcl:l.length≤c:=by
  rw[←hc,←bq];unfold grownCap;exact Nat.le_add_right _ _
 rw[bq] at hrun;refine Seq.val (w':=w.drew.alloc (.cells (bytesRow (strOf l) c) e ((bytesRow (strOf l) c).size,(bytesRow (strOf l) c).size+1))) (fun ρ hρ=> ?_) hg hd hn (h w.heap.size c _ hcl ⟨Nat.le_refl _,?_,?_,?_⟩)
 ·unfold execOp
  simp only[ho];rw[hρ _ _ hx];simp only[Sem.run_bind,hrun,Result.andThen_ok];rfl
 ·show w.heap.size<(w.heap.push _).size
  rw[Array.size_push];omega
 ·exact((Below.refl w.heap.size w).drewN 1).alloc (Nat.le_refl _) _
 ·refine⟨by rw[jh];omega,fun _=>⟨_,rfl,(show w.heap.size<(w.heap.push _).size by rw[Array.size_push];omega),fun j u hu=> ?_⟩⟩
  have hplain:(⟨w.heap.size,0,none⟩:Addr).add j=⟨w.heap.size,j,none⟩:=by unfold Addr.add;split<;>simp_all
  rw[hplain,cell_of_row _ _ _ _ _ _ (show(w.heap.push _)[w.heap.size]? =some _ from Array.getElem?_push_size)];rw[kX] at hu
  cases hlj:l[j]? with
  |none=>rw[hlj] at hu;cases hu
  |some b=>
   rw[hlj] at hu;injection hu with hu
   subst hu;have hj:j<l.length:=(List.getElem?_eq_some_iff.1 hlj).1;have hj2:j<(strOf l).data.size:=by show j<(strOf l).size;rw[bq];exact hj
   rw[bytesRow_at _ _ j hj2]
   have e:(strOf l).data[j]=UInt8.ofNat b:=by
    have:=pH hlj;rw[getElem?_pos (strOf l) j (by rw[bq];exact hj)] at this;exact Option.some.inj this
   rw[e,ofNat_toNat (hl b (List.mem_of_getElem? hlj))]
end
variable [Inhabited (List Deferred)]
def gS:List Nat→Nat→Option Nat
 | [],_=>none
 |x::r,k=>bif Nat.beq x k then some 0 else(match gS r k with|some c=>some (c+1)|none=>none)
def eT (S:Nat→Bool):List Nat→Nat
 | []=>0
 |c::r=>bif S c then eT S r+1 else 0
def fE (S:Nat→Bool)(i:Nat):Nat→Bool:=fun j=>if j=i then true else S j
def fJ (ops:List Oper):List Nat→Bool
 | []=>true
 |a::r=>(match r with
  | []=>true
  |b::_=>(match ops[b]? with|some o=>aT (direct o) a|none=>false))&&fJ ops r
def aW (CH:List Nat)(k c:Nat):Nat:=match gS CH k with|some _=>c+1|none=>c
theorem vn {S:Nat→Bool}:∀ {CH:List Nat},(∀c∈CH,S c=false)→eT S CH=0
 | [],_=>rfl
 |c::r,h=>by unfold eT;rw[h c List.mem_cons_self];rfl
theorem rr {S:Nat→Bool}:∀ {CH:List Nat},(∀c∈CH,S c=true)→eT S CH=CH.length
 | [],_=>rfl
 |c::r,h=>by unfold eT;rw[h c List.mem_cons_self,cond_true,rr (fun c hc=>h c (List.mem_cons_of_mem _ hc))];rfl
section
variable {ops:List Oper} {S:Nat→Bool} {i:Nat} {o:Oper}
theorem m7 (hoi:ops[i]? =some o)(hdc:∀i o,ops[i]? =some o→S i=true→∀x∈direct o,S x=true)(hd:∀x∈direct o,S x=true):∀(r:List Nat) (a c:Nat),fJ ops (a::r)=true→gS r i=some c→S a=true
 | [],a,c,_,h=>by cases h
 |b::r,a,c,hch,hp=>by
  unfold fJ at hch;simp only[Bool.and_eq_true] at hch;obtain⟨h1,h2⟩:=hch
  cases hob:ops[b]? with
  |none=>rw[hob] at h1;cases h1
  |some ob=>
   rw[hob] at h1;unfold gS at hp
   cases hb:Nat.beq b i with
   |true=>
    obtain rfl:=Nat.eq_of_beq_eq_true hb;rw[hoi] at hob;obtain rfl:o=ob:=by injection hob
    exact hd a (ax h1)
   |false=>
    rw[hb,cond_false] at hp
    cases hr:gS r i with
    |none=>rw[hr] at hp;cases hp
    |some c'=>exact hdc b ob hob (m7 hoi hdc hd r b c' h2 hr) a (ax h1)
theorem pQ (hoi:ops[i]? =some o)(hdc:∀i o,ops[i]? =some o→S i=true→∀x∈direct o,S x=true)(hd:∀x∈direct o,S x=true)(hS:S i=false):∀ {CH:List Nat},fJ ops CH=true→
  (∀c,gS CH i=some c→eT S CH=c)∧eT (fE S i) CH=aW CH i (eT S CH)
 | [],_=>⟨fun c h=>(by cases h),rfl⟩
 |a::r,hch=>by
  have hch':=hch;unfold fJ at hch;simp only[Bool.and_eq_true] at hch;obtain⟨h1,h2⟩:=hch;obtain⟨ih1,ih2⟩:=pQ hoi hdc hd hS h2
  by_cases hai:a=i
  ·subst hai
   have hp:gS (a::r) a=some 0:=by unfold gS;rw[Nat.beq_refl];rfl
   have h0:eT S (a::r)=0:=by unfold eT;rw[hS];rfl
   refine⟨fun c hc=>by rw[hp] at hc;injection hc with hc;rw[h0,hc],?_⟩;unfold aW;rw[hp,h0];unfold eT;have:fE S a a=true:=by unfold fE;simp
   rw[this,cond_true]
   have hz:eT (fE S a) r=0:=by
    cases r with
    |nil=>rfl
    |cons b r'=>
     simp only at h1
     cases hob:ops[b]? with
     |none=>rw[hob] at h1;cases h1
     |some ob=>
      rw[hob] at h1
      have hSb:S b=false:=by
       cases hSb:S b with
       |false=>rfl
       |true=>have:=hdc b ob hob hSb a (ax h1);rw[hS] at this;cases this
      have hba:b≠a:=by
       rintro rfl;rw[hoi] at hob;obtain rfl:o=ob:=by injection hob
       have:=hd b (ax h1);rw[hS] at this;cases this
      unfold eT;have:fE S a b=false:=by unfold fE;rw[if_neg hba];exact hSb
      rw[this];rfl
   rw[hz]
  ·have hb:Nat.beq a i=false:=by
    cases h:Nat.beq a i with
    |false=>rfl
    |true=>exact absurd (Nat.eq_of_beq_eq_true h) hai
   have hu:fE S i a=S a:=by unfold fE;rw[if_neg hai]
   cases hr:gS r i with
   |none=>
    have hp:gS (a::r) i=none:=by unfold gS;rw[hb,cond_false,hr]
    refine⟨fun c hc=>(by rw[hp] at hc;cases hc),?_⟩;unfold aW at ih2⊢;rw[hr] at ih2;rw[hp];show eT (fE S i) (a::r)=eT S (a::r);unfold eT;rw[hu,ih2]
   |some c'=>
    have hp:gS (a::r) i=some (c'+1):=by unfold gS;rw[hb,cond_false,hr]
    have hSa:=m7 hoi hdc hd r a c' hch' hr;have hc1:=ih1 c' hr
    have e1:eT S (a::r)=c'+1:=by
     show(bif S a then eT S r+1 else 0)=c'+1;rw[hSa,cond_true,hc1]
    refine⟨fun c hc=>by rw[hp] at hc;injection hc with hc;rw[e1,hc],?_⟩;unfold aW at ih2⊢;rw[hr] at ih2;rw[hp,e1];show(bif fE S i a then eT (fE S i) r+1 else 0)=_;rw[hu,hSa,cond_true,ih2,hc1]
end
section
variable (P:Program) (ops:Array Oper) (Q:Exit→Act→World→Prop) (n:Nat) (F0:List (Nat × Value)) (G:World→World→Prop) (w0:World) (CH:List Nat) (J:Nat→World→Prop)
def zM (k:Nat)(Γ:Env)(o:Oper)(f:Fact):Prop:=∀a w c,a.tmps.size=n→G w0 w→J c w→(∀c',gS CH k=some c'→c=c')→ko Γ (· ∈direct o) a w→(∀t v,look F0 t=some v→a.tmps[t]? =some v)→
 if Region.wanted o (yielded ops a.tmps) then o.wp P a w (fun a' w'=>∃u,a'=a.put o.dst u∧G w w'∧f.holds u w'∧J (aW CH k c) w') Q else f.holds undef w∧J (aW CH k c) w
def si (L:List Nat)(B:Env→Prop):Nat→List Oper→Env→Prop
 |_,[],Γ=>B Γ
 |k,o::r,Γ=>∃f,Fact.jP G f∧zM P ops Q n F0 G w0 CH J k Γ o f∧(aT L k=true→yY P ops n F0 G w0 [] (fun _=>True) Γ o f)∧si L B (k+1) r ((k,o.dst,f)::Γ)
end
section
variable {P:Program} {ops:Array Oper} {Q:Exit→Act→World→Prop} {n:Nat} {F0:List (Nat × Value)} {G:World→World→Prop} {w0:World} {CH:List Nat} {J:Nat→World→Prop}
theorem si.out {L:List Nat}{B:Env→Prop}:∀(l:List Oper) (k:Nat) (Γ:Env),(∀j,k≤j→Env.find Γ j=none)→si P ops Q n F0 G w0 CH J L B k l Γ→
  ∃Γ',B Γ'∧(∀j,j<k→Env.find Γ' j=Env.find Γ j)∧(∀j,k+l.length≤j→Env.find Γ' j=none)∧
   ∀i o,l[i]? =some o→∃f Γi,Env.find Γ' (k+i)=some (o.dst,f)∧Fact.jP G f∧zM P ops Q n F0 G w0 CH J (k+i) Γi o f∧(aT L (k+i)=true→yY P ops n F0 G w0 [] (fun _=>True) Γi o f)∧∀j,j<k+i→Env.find Γi j=Env.find Γ' j
 | [],k,Γ,hk,h=>⟨Γ,h,fun _ _=>rfl,fun j hj=>hk j (by simpa using hj),fun i o ho=>by simp at ho⟩
 |o::r,k,Γ,hk,h=>by
  obtain⟨f,hs,hstep,hlate,hr⟩:=h
  have hne:∀j,j≠k→Env.find ((k,o.dst,f)::Γ) j=Env.find Γ j:=fun j hj=>by
   show(bif Nat.beq k j then some (o.dst,f) else Env.find Γ j)=_
   cases hb:Nat.beq k j with
   |true=>exact absurd (Nat.eq_of_beq_eq_true hb).symm hj
   |false=>rfl
  have heq:Env.find ((k,o.dst,f)::Γ) k=some (o.dst,f):=by
   show(bif Nat.beq k k then some (o.dst,f) else Env.find Γ k)=_;rw[Nat.beq_refl];rfl
  obtain⟨Γ',h1,h2,h3,h4⟩:=si.out r (k+1) _ (fun j hj=>by rw[hne j (by omega)];exact hk j (by omega)) hr;refine⟨Γ',h1,fun j hj=>by rw[h2 j (by omega),hne j (by omega)],fun j hj=>h3 j (by simp at hj;omega),fun i o' ho=> ?_⟩
  cases i with
  |zero=>
   obtain rfl:o=o':=by simpa using ho
   exact⟨f,Γ,by rw[Nat.add_zero,h2 k (by omega),heq],hs,by rw[Nat.add_zero];exact hstep,by rw[Nat.add_zero];exact hlate,fun j hj=>by rw[h2 j (by omega),hne j (by omega)]⟩
  |succ i=>
   obtain⟨f',Γi,a1,a2,a3,al,a4⟩:=h4 i o' (by simpa using ho);exact⟨f',Γi,by rw[show k+(i+1)=k+1+i from by omega];exact a1,a2,by rw[show k+(i+1)=k+1+i from by omega];exact a3,by rw[show k+(i+1)=k+1+i from by omega];exact al,fun j hj=>a4 j (by omega)⟩
theorem yd {id:Nat}(L:List Nat){init tail:List Oper}(hLC:∀i,aT L i=true→gS CH i=none)(hCH:fJ init CH=true)(hCl:iz init.length CH=true)(hQ:L=[]∨∀c (a:Act) d v w,Q (.panic c) (a.put d v) w→Q (.panic c) a w)(hm:P.follows .mixedOrders=true)(hops:ops=(init++tail).toArray)(hchk:jT n (gy F0) L init tail=true)(Gt:∀a b c,G a b→G b c→G a c)(Gr:∀w,G w w)
  {w:World} (hw0:w0= {w with drawn:=w.drawn+1}) (hJ0:J 0 w0) (h:si P ops Q n F0 G w0 CH J L (bH P ops Q n F0 G w0 tail [] (fun w=>J CH.length w)) 0 init []) {a:Act} (ha:Fr n F0 a):(Code.region id ops true).wp P Q a w:=by
 refine wp_region_any hm ?_;rw[←hw0];simp only[jT,Bool.and_eq_true] at hchk;obtain⟨⟨⟨hc1,hc2⟩,hcL⟩,hcl⟩:=hchk;have hLlt:∀i,aT L i=true→i<init.length:=fun i hi=>cC hcL i (ax hi);have c1:=dG hc1;have hsz:ops.size=init.length+tail.length:=by rw[hops];simp
 have hat:∀i,i<init.length→ops[i]? =init[i]? :=fun i hi=>by rw[hops];simp[List.getElem?_append_left hi]
 have hat2:∀r,ops[init.length+r]? =tail[r]? :=fun r=>by rw[hops];simp[List.getElem?_append_right]
 obtain⟨Γ,hfin,-,hnone,hall⟩:=si.out init 0 [] (fun _ _=>rfl) h
 -- the tail's edges
 have t0:∀o,tail[0]? =some o→∀x∈direct o,x<init.length:=by
  intro o ho
  cases tail with
  |nil=>simp at ho
  |cons o1 r=>
   obtain rfl:o1=o:=by simpa using ho
   simp only[Bool.and_eq_true] at hc2;exact cC hc2.1.1
 have ts:∀i o,tail[i+1]? =some o→(∀x∈direct o,x<init.length+1+i)∧init.length+1+i-1∈direct o:=by
  intro i o ho
  cases tail with
  |nil=>simp at ho
  |cons o1 r=>
   simp only[Bool.and_eq_true] at hc2;exact fp hc2.2 i o (by simpa using ho)
 have tm:∀o,tail[0]? =some o→∀j,j<init.length→aT L j=false→∃(i:Nat) (o':Oper),j<i∧i≤init.length∧ops[i]? =some o'∧j∈direct o'∧aT L i=false:=by
  intro o ho j hj hjL
  cases tail with
  |nil=>simp at ho
  |cons o1 r=>
   simp only[Bool.and_eq_true] at hc2;obtain⟨i,o',h1,h2,h3,h4⟩:=ig hc2.1.2 j hj (by rw[Nat.zero_add];exact hjL);rw[Nat.zero_add] at h3 h4;have hi:i<(init++[o1]).length:=(List.getElem?_eq_some_iff.1 h2).1;simp at hi;refine⟨i,o',h1,by omega,?_,h3,h4⟩;rcases Nat.lt_or_ge i init.length with hlt|hge
   ·rw[hat i hlt,←h2,List.getElem?_append_left hlt]
   ·obtain rfl:i=init.length:=by omega
    have:=hat2 0;rw[Nat.add_zero] at this;rw[this,←h2,List.getElem?_append_right (Nat.le_refl _)];simp
 have bothT:∀(listed:Array Bool) x,listed.size=ops.size→x<ops.size→listed.getD x true=true→listed.getD x false=true:=by
  intro listed x hl hx h;have hxl:x<listed.size:=by omega
  simp[hxl] at h⊢;exact h
 have hall2:∀(listed:Array Bool) {w:World},listed.size=ops.size→(∀i,i<init.length→listed.getD i true=true)→J (eT (fun j=>listed.getD j false) CH) w→J CH.length w:=by
  intro listed w hl h hJ;rw[rr (fun c hc=>bothT listed c hl (by have:=cC hCl c hc;omega) (h c (cC hCl c hc)))] at hJ;exact hJ
 -- the first part
 have key:∀(fuel:Nat) (listed:Array Bool) (a:Act) (w:World),listed.size=ops.size→(∀i o,ops[i]? =some o→listed.getD i false=true→∀x∈direct o,listed.getD x false=true)→(∀i,init.length≤i→i<ops.size→listed.getD i true=false)→
   a.tmps.size=n→a.defers=default→G w0 w→ko Γ (fun j=>listed.getD j false=true) a w→(∀t v,look F0 t=some v→a.tmps[t]? =some v)→J (eT (fun j=>listed.getD j false) CH) w→left listed ops.size≤fuel→wpAny P .any ops Q fuel listed a w:=by
  intro fuel
  induction fuel with
  |zero=>
   intro listed a w hl hdc hts hsize hdef hG hF hs hJw hf;have hall1:=js (Nat.le_zero.1 hf)
   have hlen:init.length=ops.size:=by
    rcases Nat.lt_or_ge init.length ops.size with hh|hh
    ·have:=hall1 _ hh;rw[hts _ (Nat.le_refl _) hh] at this;cases this
    ·omega
   refine nj hops t0 ts 0 0 listed a w hl (Nat.zero_le _) (fun i hi=>hall1 i (by omega)) (fun i hi hi2=>by omega) (by omega) ?_;rw[List.drop_zero]
   have hlis:∀j d f,Env.find Γ j=some (d,f)→listed.getD j false=true:=fun j d f hj=>by
    rcases Nat.lt_or_ge j init.length with hh|hh
    ·exact bothT listed j hl (by omega) (hall1 j (by omega))
    ·rw[hnone j (by omega)] at hj;cases hj
   exact hfin a w hsize hdef hG (hall2 listed hl (fun i hi=>hall1 i (by omega)) hJw) (fun j d f hj _=>hF j d f hj (hlis j d f hj)) hs (fun t v ht=>by simp[look] at ht)
  |succ fuel ih=>
   intro listed a w hl hdc hts hsize hdef hG hF hs hJw hf
   by_cases hdone:∀i,i<init.length→listed.getD i true=true
   ·refine nj hops t0 ts (fuel+1) 0 listed a w hl (Nat.zero_le _) (fun i hi=>hdone i (by omega)) (fun i hi hi2=>hts i (by omega) hi2) ?_ ?_
    ·
     have:∀k,k≤tail.length→left listed (init.length+k)=left listed init.length+k:=by
      intro k
      induction k with
      |zero=>intro _;rfl
      |succ k ihk=>
       intro hk;show left listed (init.length+k)+(if listed.getD (init.length+k) true then 0 else 1)=_;rw[ihk (by omega),hts (init.length+k) (by omega) (by omega)];simp;omega
     have:=this tail.length (Nat.le_refl _);rw[←hsz] at this;omega
    ·rw[List.drop_zero]
     have hlis:∀j d f,Env.find Γ j=some (d,f)→listed.getD j false=true:=fun j d f hj=>by
      rcases Nat.lt_or_ge j init.length with hh|hh
      ·exact bothT listed j hl (by omega) (hdone j hh)
      ·rw[hnone j (by omega)] at hj;cases hj
     exact hfin a w hsize hdef hG (hall2 listed hl hdone hJw) (fun j d f hj _=>hF j d f hj (hlis j d f hj)) hs (fun t v ht=>by simp[look] at ht)
   ·
    have hex:∃i,i∈Region.ready .any ops listed:=by
     have hex0:∃i,i<init.length∧listed.getD i true=false:=by
      refine Classical.byContradiction fun hno=>hdone fun i hi=> ?_
      cases hb:listed.getD i true with
      |true=>rfl
      |false=>exact absurd ⟨i,hi,hb⟩ hno
     have hmin:∀m i,i≤m→i<init.length→listed.getD i true=false→∃j,j<init.length∧listed.getD j true=false∧∀x,x<j→listed.getD x true=true:=by
      intro m
      induction m with
      |zero=>intro i hi h1 h2;exact⟨i,h1,h2,fun x hx=>by omega⟩
      |succ m ihm=>
       intro i hi h1 h2
       by_cases hx:∃x,x<i∧listed.getD x true=false
       ·obtain⟨x,hx1,hx2⟩:=hx
        exact ihm x (by omega) (by omega) hx2
       ·refine⟨i,h1,h2,fun x hx1=> ?_⟩
        cases hb:listed.getD x true with
        |true=>rfl
        |false=>exact absurd ⟨x,hx1,hb⟩ hx
     obtain⟨i0,hi0,hb0⟩:=hex0;obtain⟨j,hj1,hj2,hj3⟩:=hmin i0 i0 (Nat.le_refl _) hi0 hb0;refine⟨j,bR.2 ⟨hj2,init[j],by rw[hat j hj1,List.getElem?_eq_getElem hj1],fun x hx=> ?_⟩⟩;have hlt:x<j:=by have:=(c1 j _ (List.getElem?_eq_getElem hj1)).1 x hx;omega
     exact bothT listed x hl (by omega) (hj3 x hlt)
    -- what one of the first part's operations comes to
    have go:∀i o,i<init.length→i∈Region.ready .any ops listed→ops[i]? =some o→∃f:Fact,(if Region.wanted o (yielded ops a.tmps)=true then o.wp P a w (fun a' w'=>∃u,a'=a.put o.dst u∧G w w'∧f.holds u w'∧J (eT (fun j=>(listed.setIfInBounds i true).getD j false) CH) w') Q else f.holds undef w∧J (eT (fun j=>(listed.setIfInBounds i true).getD j false) CH) w)∧
      (aT L i=true→(∃v,f= .eq v∧Yields P ops o v a)∧J (eT (fun j=>(listed.setIfInBounds i true).getD j false) CH) w)∧∀u w',G w w'→f.holds u w'→J (eT (fun j=>(listed.setIfInBounds i true).getD j false) CH) w'→wpAny P .any ops Q fuel (listed.setIfInBounds i true) (a.put o.dst u) w':=by
     intro i o hlt hi ho;obtain⟨g1,o1,ho1,g2⟩:=bR.1 hi;rw[ho] at ho1;obtain rfl:o=o1:=by injection ho1
     have hi':i<ops.size:=(Array.getElem?_eq_some_iff.1 ho).1;have hoi:init[i]? =some o:=by rw[←hat i hlt];exact ho
     obtain⟨f,Γi,f1,f2,f3,fl,f4⟩:=hall i o hoi;rw[Nat.zero_add] at f1 f3 f4 fl;obtain⟨d1,d2⟩:=c1 i o hoi;have hSi:listed.getD i false=false:=getD_both g1
     have hupd:(fun j=>(listed.setIfInBounds i true).getD j false)=fE (fun j=>listed.getD j false) i:=by
      funext j
      unfold fE
      by_cases e:i=j
      ·subst e;simp[eL false (show i<listed.size by omega)]
      ·rw[getD_set_ne false e]
       rw[if_neg (fun h=>e h.symm)]
     have hcnt:=pQ (ops:=init) (S:=fun j=>listed.getD j false) (i:=i) (o:=o) hoi (fun i2 o2 h1 h2=>hdc i2 o2 (by rw[hat i2 (List.getElem?_eq_some_iff.1 h1).1];exact h1) h2) g2 hSi hCH;have hx:=f3 a w _ hsize hG hJw hcnt.1 (fun j d f' hj hd=>hF j d f' (by rw[←f4 j (by have:=d1 j hd;omega)];exact hj) (g2 j hd)) hs;rw[←hcnt.2,←hupd] at hx
     have hslot:∀u j d f,j≠i→Env.find Γ j=some (some d,f)→(a.put o.dst u).tmps[d]? =a.tmps[d]? :=by
      intro u j d f hji hj;rcases Nat.lt_or_ge j init.length with hh|hh
      ·have hoj:init[j]? =some init[j]:=List.getElem?_eq_getElem hh
       obtain⟨fj,Γj,q1,-⟩:=hall j _ hoj;rw[Nat.zero_add,hj] at q1;injection q1 with q1
       injection q1 with q1 _
       have hdj:init[j].dst=some d:=q1.symm;have hdi:o.dst≠some d:=fun hdi=>(d2 d hdi).2.2.2 j _ hoj hji hdj
       cases hd:o.dst with
       |none=>rfl
       |some d0=>
        have:d0≠d:=fun e'=>hdi (by rw[hd,e']);simp only[Act.put];rw[Array.getElem?_setIfInBounds_ne this]
      ·rw[hnone j (by omega)] at hj;cases hj
     -- what holds behind it
     have next:∀u w',G w w'→f.holds u w'→J (eT (fun j=>(listed.setIfInBounds i true).getD j false) CH) w'→wpAny P .any ops Q fuel (listed.setIfInBounds i true) (a.put o.dst u) w':=by
      intro u w' hG' hu hmk;refine ih _ _ _ (by simp[hl]) ?_ ?_ ?_ ?_ (Gt _ _ _ hG hG') ?_ ?_ hmk ?_
      ·intro i2 o2 h1 h2 x hx2
       by_cases e:i=i2
       ·subst e
        rw[ho] at h1;obtain rfl:o=o2:=by injection h1
        exact getD_set_true (g2 x hx2)
       ·rw[getD_set_ne false e] at h2
        exact getD_set_true (hdc i2 o2 h1 h2 x hx2)
      ·intro i2 h1 h2
       rw[getD_set_ne true (by omega)];exact hts i2 h1 h2
      ·cases hd:o.dst<;>simp[Act.put,hsize]
      ·cases hd:o.dst<;>simp[Act.put,hdef]
      ·intro j d f' hj hjl
       by_cases e:i=j
       ·subst e
        rw[f1] at hj;injection hj with hj
        injection hj with e1 e2
        subst e1 e2;refine⟨u,fun t ht=> ?_,hu⟩;have:=(d2 t ht).1;rw[ht];simp[Act.put,hsize,this]
       ·rw[getD_set_ne false e] at hjl
        obtain⟨u',h1,h2⟩:=hF j d f' hj hjl;refine⟨u',fun t ht=> ?_,?_⟩
        ·rcases Nat.lt_or_ge j init.length with hh|hh
         ·have hoj:init[j]? =some init[j]:=List.getElem?_eq_getElem hh
          obtain⟨fj,Γj,q1,-⟩:=hall j _ hoj;rw[Nat.zero_add,hj] at q1;injection q1 with q1
          injection q1 with q1 _
          have hdj:init[j].dst=some t:=by rw[←q1];exact ht
          have hdi:o.dst≠some t:=fun hdi=>(d2 t hdi).2.2.2 j _ hoj (fun e'=>e e'.symm) hdj
          cases hd:o.dst with
          |none=>exact h1 t ht
          |some d0=>
           have:d0≠t:=fun e'=>hdi (by rw[hd,e']);simp only[Act.put];rw[Array.getElem?_setIfInBounds_ne this];exact h1 t ht
         ·rw[hnone j (by omega)] at hj;cases hj
        ·have hst:Fact.jP G f':=by
          rcases Nat.lt_or_ge j init.length with hh|hh
          ·obtain⟨fj,Γj,q1,q2,-⟩:=hall j _ (List.getElem?_eq_getElem hh)
           rw[Nat.zero_add,hj] at q1;injection q1 with q1
           injection q1 with _ q1
           rw[q1];exact q2
          ·rw[hnone j (by omega)] at hj;cases hj
         cases f' with
         |eq v=>exact h2
         |sat Φ=>exact hst u' w w' hG' h2
      ·intro t v ht
       cases hd:o.dst with
       |none=>exact hs t v ht
       |some d0=>
        have:d0≠t:=fun e'=>(d2 d0 hd).2.2.1 (by rw[e'];exact fy ht);simp only[Act.put];rw[Array.getElem?_setIfInBounds_ne this];exact hs t v ht
      ·have:=kA (listed:=listed) (i:=i) (by omega) g1 ops.size
       rw[if_pos hi'] at this;omega
     refine⟨f,hx,fun hL=> ?_,next⟩;obtain⟨v,e,hy⟩:=fl hL;refine⟨⟨v,e,hy a w hsize hG trivial (fun j d f' hj hd=>hF j d f' (by rw[←f4 j (by have:=d1 j hd;omega)];exact hj) (g2 j hd)) hs (fun t v ht=>by simp[look] at ht)⟩,?_⟩;rw[hupd,hcnt.2];unfold aW;rw[hLC i hL];exact hJw
    by_cases hlate:∃i,aT L i=true∧i∈Region.ready .any ops listed
    ·obtain⟨i,hiL,hi⟩:=hlate
     obtain⟨g1,o,ho,g2⟩:=bR.1 hi;obtain⟨f,-,hl2,next⟩:=go i o (hLlt i hiL) hi ho;obtain⟨⟨v,rfl,hy⟩,hJ2⟩:=hl2 hiL
     have hcl':jf (init++tail).toArray L=true∧pT (init++tail)=true:=by
      cases L with
      |nil=>cases hiL
      |cons x r=>simpa using hcl
     rw[←hops] at hcl';have hup:listed.setIfInBounds i true=listed.setIfInBounds i true:=rfl;refine wpAny_first ho (fun j oj cs b hoj=>j8 hcl'.2 j oj cs b (by rw[hops] at hoj;simpa using hoj)) (fun c a w h=>by rcases hQ with e|hQ;(rw[e] at hiL;cases hiL);exact hQ c a _ _ w h) fuel listed a w (fun j oj hoj hne hun hno=> ?_) hi hy (next v w (Gr w) rfl hJ2);refine gW hcl'.1 i o hiL ho j oj hoj (Ne.symm hne) (fun hm=> ?_) (fun hm=> ?_)
     ·obtain⟨e,he,hb,h1⟩:=gY.1 hm
      exact hno e he hb h1
     ·have:=g2 j hm
      rw[getD_both hun] at this
      cases this
    refine⟨(fun hnil=>by obtain⟨i,hi⟩:=hex;rw[hnil] at hi;cases hi),fun i hi=> ?_⟩;obtain⟨g1,o,ho,g2⟩:=bR.1 hi;have hi':i<ops.size:=(Array.getElem?_eq_some_iff.1 ho).1
    have hlt:i<init.length:=by
     rcases Nat.lt_or_ge i init.length with hh|hh
     ·exact hh
     ·exfalso
      apply hdone
      -- then all before it have come up
      have hi0:i=init.length:=by
       rcases Nat.eq_or_lt_of_le hh with e|hgt
       ·exact e.symm
       ·exfalso
        obtain⟨q,rfl⟩:∃q,i=init.length+(q+1):=⟨i-init.length-1,by omega⟩;rw[hat2] at ho;have h3:=g2 _ (ts q o ho).2;rw[getD_both (hts (init.length+1+q-1) (by omega) (by omega))] at h3
        cases h3
      subst hi0;have ho2:tail[0]? =some o:=by have:=hat2 0;rw[Nat.add_zero] at this;rw[←this,ho]
      have down:∀q j,init.length-j≤q→j<init.length→aT L j=false→listed.getD j false=true:=by
       intro q
       induction q with
       |zero=>intro j h1 h2 _;omega
       |succ q ihq=>
        intro j h1 h2 hjL;obtain⟨i2,o2,b1,b2,b3,b4,b5⟩:=tm o ho2 j h2 hjL;rcases Nat.eq_or_lt_of_le b2 with e|hlt2
        ·subst e
         rw[ho] at b3;obtain rfl:o=o2:=by injection b3
         exact g2 j b4
        ·exact hdc i2 o2 b3 (ihq i2 (by omega) hlt2 b5) j b4
      -- and of those that may come late none is left, as it could come up
      have all:∀q j,j≤q→j<init.length→listed.getD j false=true:=by
       intro q
       induction q using Nat.strongRecOn with
       |_ q ihq=>
        intro j hjq hj
        cases hjL:aT L j with
        |false=>exact down _ j (Nat.le_refl _) hj hjL
        |true=>
         cases hun:listed.getD j true with
         |true=>exact bothT listed j hl (by omega) hun
         |false=>
          exfalso;refine hlate ⟨j,hjL,bR.2 ⟨hun,init[j],by rw[hat j hj,List.getElem?_eq_getElem hj],fun x hx=> ?_⟩⟩;have hlt:x<j:=by have:=(c1 j _ (List.getElem?_eq_getElem hj)).1 x hx;omega
          exact ihq x (by omega) x (Nat.le_refl _) (by omega)
      intro j hj;exact nh (by omega) (all j j (Nat.le_refl _) hj)
    obtain⟨f,hx,-,next⟩:=go i o hlt hi ho;unfold wpOp;rw[ho];simp only
    by_cases hwant:Region.wanted o (yielded ops a.tmps)=true
    ·rw[if_pos hwant] at hx⊢
     exact .inl (Oper.wp_mono (fun a' w' ⟨u,e,h1,h2,h3⟩=>by rw[e];exact next u w' h1 h2 h3) hx)
    ·rw[if_neg hwant] at hx⊢
     exact next undef w (Gr w) hx.1 hx.2
 have hrep:∀i,(Array.replicate ops.size false).getD i false=false:=by intro i;by_cases h:i<ops.size<;>simp[h]
 refine key ops.size _ a w0 (by simp) ?_ ?_ ha.size ha.defers (Gr w0) ?_ ha.slot (by rw[vn (fun c _=>hrep c)];exact hJ0) ?_
 ·intro i o _ h0
  rw[hrep] at h0;cases h0
 ·intro i _ h2
  simp[h2]
 ·intro j d f _ h0
  simp only[hrep] at h0;cases h0
 ·have:∀k,left (Array.replicate ops.size false) k≤k:=by
   intro k
   induction k with
   |zero=>exact Nat.le_refl _
   |succ k ih=>unfold left;split<;>omega
  exact this _
end
section
variable {P:Program} {ops:Array Oper} {Q:Exit→Act→World→Prop} {n:Nat} {F0:List (Nat × Value)} {G:World→World→Prop} {w0:World} {CH:List Nat} {J:Nat→World→Prop} {L:List Nat} {B:Env→Prop} {k:Nat} {Γ:Env} {o:Oper} {r:List Oper} {v:Value} {f:Fact} {Φ:Value→World→Prop}
theorem DJ.val (hp:gS CH k=none)(Gr:∀w,G w w)(hu:uniq Γ=true)(hrun:∀w,G w0 w→aa P (kQ [] F0 Γ o) o w v w)(hg:o.guard=none)(hr:si P ops Q n F0 G w0 CH J L B (k+1) r ((k,o.dst, .eq v)::Γ))(hl:aT L k=false:=by rfl):si P ops Q n F0 G w0 CH J L B k (o::r) Γ:=
 ⟨.eq v,trivial,(by
  intro a w c h1 h2 h3 h4 h5 h6;rw[if_pos (by simp[Region.wanted,hg])];unfold Oper.wp;rw[hrun w h2 a.eval (ef hu h5 h6 (fun t v ht=>by cases ht)),Oper.upon_value];refine⟨v,rfl,Gr w,rfl,?_⟩;unfold aW;rw[hp];exact h3),(fun h=>by rw[hl] at h;cases h),hr⟩
theorem DJ.chain {fn:FuncId}{args:Array Value}(c:Nat)(hp:gS CH k=some c)(hu:uniq Γ=true)(he:∀w,Enters P (kQ [] F0 Γ o) o w fn args)(hg:o.guard=none)(hc:∀w,G w0 w→J c w→Calls P fn args w fun e w'=>e= .returned v∧G w w'∧J (c+1) w')
  (hr:si P ops Q n F0 G w0 CH J L B (k+1) r ((k,o.dst, .eq v)::Γ)) (hl:aT L k=false:=by rfl):si P ops Q n F0 G w0 CH J L B k (o::r) Γ:=
 ⟨.eq v,trivial,(by
  intro a w c2 h1 h2 h3 h4 h5 h6;rw[if_pos (by simp[Region.wanted,hg])];obtain rfl:=h4 c hp;unfold Oper.wp;rw[he w a.eval (ef hu h5 h6 (fun t v ht=>by cases ht)),Oper.upon_enter]
  exact(hc w h2 h3).mono fun e w' ⟨e1,e2,e3⟩=>by
   subst e1;refine⟨v,rfl,e2,rfl,?_⟩;unfold aW;rw[hp];exact e3),(fun h=>by rw[hl] at h;cases h),hr⟩
theorem DJ.of (hp:gS CH k=none)(hGG:∀w w',Grow w w'→G w w')(hJ:∀c w w',Grow w w'→J c w→J c w')(hs:Fact.jP G f)(h:∀w,G w0 w→fO P ops Q n F0 Grow w L (fun Γ'=>Γ'=(k,o.dst,f)::Γ) k [o] Γ)
  (hr:si P ops Q n F0 G w0 CH J L B (k+1) r ((k,o.dst,f)::Γ)) (hl:aT L k=false:=by rfl):si P ops Q n F0 G w0 CH J L B k (o::r) Γ:=
 ⟨f,hs,(by
  intro a w c h1 h2 h3 h4 h5 h6;obtain⟨f',-,hst,-,hB⟩:=h w h2
  have hf:f'=f:=by
   have hB':(k,o.dst,f')::Γ=(k,o.dst,f)::Γ:=hB;injection hB' with hB' _
   injection hB' with _ hB'
   injection hB'
  subst hf;have hx:=hst a w h1 (Grow.refl w) trivial h5 h6 (fun t v ht=>by cases ht);have hn:aW CH k c=c:=by unfold aW;rw[hp]
  rw[hn];split
  ·rename_i hw
   rw[if_pos hw] at hx;exact Oper.wp_mono (fun a' w' ⟨u,e,g1,g2⟩=>⟨u,e,hGG _ _ g1,g2,hJ _ _ _ g1 h3⟩) hx
  ·rename_i hw
   rw[if_neg hw] at hx;exact⟨hx,h3⟩),(fun h=>by rw[hl] at h;cases h),hr⟩
theorem DJ.nil (h:B Γ):si P ops Q n F0 G w0 CH J L B k [] Γ:=h
theorem Cd.ue (m:Nat){id:Nat}{l:List Oper}{w:World}(hm:P.follows .mixedOrders=true)(L CH:List Nat)(hLC:∀i,aT L i=true→gS CH i=none)(hCH:fJ (l.take m) CH=true)(hCl:iz (l.take m).length CH=true)(hQ:L=[]∨∀c (a:Act) d v w,Q (.panic c) (a.put d v) w→Q (.panic c) a w)(hchk:jT n (gy F0) L (l.take m) (l.drop m)=true)(G:World→World→Prop)(Gr:∀w,G w w)(Gt:∀a b c,G a b→G b c→G a c)(J:Nat→World→Prop)
  (h:∀w0,Below w.heap.size w w0→w0.heap.size=w.heap.size→J 0 w0∧si P l.toArray Q n F0 G w0 CH J L (bH P l.toArray Q n F0 G w0 (l.drop m) [] (fun w=>J CH.length w)) 0 (l.take m) []):Cd P (.region id l.toArray true) Q n F0 w:=fun _ ha=>
 yd L hLC hCH hCl hQ hm (by rw[List.take_append_drop]) hchk Gt Gr rfl (h {w with drawn:=w.drawn+1} ⟨rfl,rfl,rfl,Nat.le_refl _,fun _ _=>rfl⟩ rfl).1 (h {w with drawn:=w.drawn+1} ⟨rfl,rfl,rfl,Nat.le_refl _,fun _ _=>rfl⟩ rfl).2 ha
end
end Go.Proofs.YtigoimhndlnhfaaGreat
namespace Go.Proofs.YtigoimhndlnhfaaGreat
open Go.RowKit
variable [Inhabited (List Deferred)]
section
variable {P:Program} {E:Operand→Option Value} {o:Oper} {w:World} {T:TypeId}
theorem aa.qV {ps:Array (Nat × Operand)}{m e s:Nat}{vs:List Value}{z:Value}(ho:o.op= .buildSlice T m ps)(hx:x0 E ps.toList=some (kc 0 vs))(hm:vs.length=m)(hT:P.underlying T=some (.slice e))(hs:b6 P e s=true)(hz:br P e=some (some z))(hs0:0<s)(hsm:m*s≤16777216)(hvs:pK s vs):
  aa P E o w (.slice (some ⟨w.heap.size,0,none⟩) m m) (w.alloc (.cells (aC vs).toArray e)):=by
 obtain⟨i,hi,hsz⟩:=bb hs;have hz':i.zero=some z:=by unfold br at hz;rw[hi] at hz;injection hz
 subst hm;rcases Nat.eq_zero_or_pos vs.length with h0|h0
 ·have:vs=[]:=List.eq_nil_of_length_eq_zero h0
  subst this;refine aa.buildSlice ho hx ?_;simp[Instr.buildSlice,run_underlying hT,sizeOf,typeInfo,hi,kc,Instr.fill,newRow,aC];have:Array.map (fun(_:Nat)=>(default:Value)) (Array.range 0)= #[]:=Array.eq_empty_of_size_eq_zero (by simp);rw[this]
 ·refine aa.buildSlice ho hx (run_buildSlice w T e vs.length _ _ i z hT hi hz' (by rw[hsz];omega) (by rw[hsz];exact Nat.ne_of_gt (Nat.mul_pos h0 hs0)) ?_)
  rw[hsz,pI,←qT];exact Great.fill_whole hs0 vs _ (jX hvs) (by simp)
end
theorem Dr.slice {P:Program}{ops:Array Oper}{Q:Exit→Act→World→Prop}{n:Nat}{F0:List (Nat × Value)}{w0:World}{Γ:Env}{o:Oper}{r:List Oper}{B:Env→Prop}{L:List Nat}{k T:Nat}{ps:Array (Nat × Operand)}{m e s:Nat}{vs:List Value}{z:Value}(hu:uniq Γ=true)(ho:o.op= .buildSlice T m ps)(hx:x0 (kQ [] F0 Γ o) ps.toList=some (kc 0 vs))(hm:vs.length=m)(hT:P.underlying T=some (.slice e))(hs:b6 P e s=true)(hz:br P e=some (some z))(hs0:0<s)(hsm:m*s≤16777216)(hvs:pK s vs)(hg:o.guard=none)
  (hr:fO P ops Q n F0 Grow w0 L B (k+1) r ((k,o.dst, .sat (gd w0.heap.size m e (aC vs).toArray))::Γ)) (hl:aT L k=false:=by rfl):fO P ops Q n F0 Grow w0 L B k (o::r) Γ:=
 Dr.make hu gd.ye hg (fun w hG=>⟨_,_,aa.qV ho hx hm hT hs hz hs0 hsm hvs,(j1 w _ _).below,_,rfl,(j1 w _ _).an,hG.size⟩) hr hl
theorem DJ.slice {P:Program}{ops:Array Oper}{Q:Exit→Act→World→Prop}{n:Nat}{F0:List (Nat × Value)}{G:World→World→Prop}{w0:World}{CH:List Nat}{J:Nat→World→Prop}{Γ:Env}{o:Oper}{r:List Oper}{B:Env→Prop}{L:List Nat}{k T:Nat}{ps:Array (Nat × Operand)}{m e s:Nat}{vs:List Value}{z:Value}(B0:Nat)(hp:gS CH k=none)(hGG:∀w w',Grow w w'→G w w')(hGs:∀w,G w0 w→B0≤w.heap.size)(hJ:∀c w w',Grow w w'→J c w→J c w')(hst:∀v w w',G w w'→gd B0 m e (aC vs).toArray v w→gd B0 m e (aC vs).toArray v w')
  (hu:uniq Γ=true) (ho:o.op= .buildSlice T m ps) (hx:x0 (kQ [] F0 Γ o) ps.toList=some (kc 0 vs)) (hm:vs.length=m) (hT:P.underlying T=some (.slice e)) (hs:b6 P e s=true) (hz:br P e=some (some z)) (hs0:0<s) (hsm:m*s≤16777216) (hvs:pK s vs) (hg:o.guard=none)
  (hr:si P ops Q n F0 G w0 CH J L B (k+1) r ((k,o.dst, .sat (gd B0 m e (aC vs).toArray))::Γ)) (hl:aT L k=false:=by rfl):si P ops Q n F0 G w0 CH J L B k (o::r) Γ:=
 DJ.of (f:= .sat (gd B0 m e (aC vs).toArray)) hp hGG hJ hst (fun w hG=>Dr.make hu gd.ye hg (fun w2 hG2=>⟨_,_,aa.qV ho hx hm hT hs hz hs0 hsm hvs,(j1 w2 _ _).below,_,rfl,(j1 w2 _ _).an,Nat.le_trans (hGs w hG) hG2.size⟩) rfl hl) hr hl
end Go.Proofs.YtigoimhndlnhfaaGreat
namespace Go.Proofs.YtigoimhndlnhfaaGreat
open Go.RowKit
section
variable {P:Program} {ops:Array Oper} {Q:Exit→Act→World→Prop} {rest:List Oper} {o:Oper} {n:Nat} {F:List (Nat × Value)} {w:World}
def ia (g:FuncId)(args:List Value):Deferred:= {target:= .fn (.func g) #[],args:=args.toArray}
theorem Seq.Aa {g:FuncId}{args:Array Operand}{ts:Array TypeId}{vs:List Value}(ho:o.op= .defer {callee:= .value (.func g),args:=args,argTypes:=ts})(hx:fc (dg F) args.toList=some vs)(hg:o.guard=none)(hd:o.dst=none)
  (h:∀I:Inhabited (List Deferred),I.default=[ia g vs]→ @Seq I P ops Q rest n F w):Seq P ops Q (o::rest) n F w:=by
 intro a ha;refine wpList_plain hg fun K hK=> ?_
 have hargs:args.map a.eval=vs.toArray:=by
  apply Array.ext';rw[Array.toList_map,fY ha.ev hx]
 have hr:(execOp a.eval o).run P w= .ok (.defer (ia g vs)) w:=by
  unfold execOp;have hf:a.eval (.func g)= .func (.func g) #[] #[]:=rfl;simp only[ho,resolve,hf,Deferred.ofValue,hargs,Sem.run_bind,Sem.run_pure,Result.andThen_ok];simp[ia]
 unfold Oper.wp;rw[hr,Oper.upon_defer,hd];have hD:ia g vs::a.defers=[ia g vs]:=by rw[ha.defers];rfl
 exact hK _ _ (h ⟨[ia g vs]⟩ rfl _ (@Fr.mk ⟨[ia g vs]⟩ n F _ ha.size hD ha.slot))
theorem Calls.yk {f:FuncId}{fn:Func}{c:Code}{args:List Value}{R:Ending→World→Prop}(n:Nat)(hf:P.funcs[f]? =some fn)(hb:fn.body=some c)(hn:fn.ntmps=n)(hle:Nat.ble args.length n=true)
  (h:Cd P c (bodyPostD P fn R) n (iX 0 args) w):Calls P f args.toArray w R:=by
 have hle':=Nat.le_of_ble_eq_true hle;refine calls_of_wp_defers hf hb (h _ ⟨?_,rfl,fun t v ht=> ?_⟩)
 ·show(args.toArray++Array.replicate (fn.ntmps-args.toArray.size) undef).size=n
  simp;omega
 ·obtain⟨j,rfl,hj⟩:=iN args 0 t v ht
  have hlt:j<args.length:=(List.getElem?_eq_some_iff.1 hj).1;show(args.toArray++Array.replicate (fn.ntmps-args.toArray.size) undef)[0+j]? =some v;rw[Nat.zero_add,Array.getElem?_append_left (by simpa using hlt)]
  simpa using hj
theorem CallsD.start {f:FuncId}{fn:Func}{c:Code}{args:List Value}{u:FrameMode}{R:Ending→World→Prop}(n:Nat)(hf:P.funcs[f]? =some fn)(hb:fn.body=some c)(hn:fn.ntmps=n)(hle:Nat.ble args.length n=true)
  (h:Cd P c (bodyPost P fn R) n (iX 0 args) w):CallsD P f args.toArray u w fun e u' w'=>u'=u∧R e w':=by
 have hle':=Nat.le_of_ble_eq_true hle;refine callsD_of_wp hf hb (h _ ⟨?_,rfl,fun t v ht=> ?_⟩)
 ·show(args.toArray++Array.replicate (fn.ntmps-args.toArray.size) undef).size=n
  simp;omega
 ·obtain⟨j,rfl,hj⟩:=iN args 0 t v ht
  have hlt:j<args.length:=(List.getElem?_eq_some_iff.1 hj).1;show(args.toArray++Array.replicate (fn.ntmps-args.toArray.size) undef)[0+j]? =some v;rw[Nat.zero_add,Array.getElem?_append_left (by simpa using hlt)]
  simpa using hj
theorem ab.Bf {fn:Func}{R:Ending→World→Prop}{e:Exit}(hr:fn.results= #[]) (he:e= .ret∨e= .normal) (h:R (.returned (.tuple #[])) w):ab (bodyPostD P fn R) e n F w:=by
 intro a ha;have hv:=results_none hr a.tmps P w;have hd:a.defers=[]:=ha.defers;rcases he with rfl|rfl
 ·show Leaves P fn a.tmps R a.defers .returning w
  rw[hd];exact⟨_,hv,h⟩
 ·show Leaves P fn a.tmps R a.defers .returning w
  rw[hd];exact⟨_,hv,h⟩
theorem ab.Bj {fn:Func}{R:Ending→World→Prop}{R1:Ending→World→Prop}{e:Exit}{g:FuncId}{vs:List Value}{I:Inhabited (List Deferred)}(hI:I.default=[ia g vs])(hr:fn.results= #[]) (he:e= .ret∨e= .normal) (hen:∀args w,(callFunc g args).run P w= .ok (.enter g args) w)
  (hc:CallsD P g vs.toArray .returning w fun e u' w'=>u'= .returning∧R1 e w') (hR:∀e w',R1 e w'→(∃v,e= .returned v)∧R (.returned (.tuple #[])) w'): @ab I (bodyPostD P fn R) e n F w:=by
 intro a ha;have hd:a.defers=[ia g vs]:=ha.defers.trans hI
 have hL:Leaves P fn a.tmps R a.defers .returning w:=by
  rw[hd];refine leaves_cons (by simp) (f:=g) (args:=vs.toArray) (by simp[invoke,hen]) (hc.mono fun e u' w' ⟨hu,h1⟩=> ?_);obtain⟨⟨v,rfl⟩,h2⟩:=hR e w' h1;subst hu;exact⟨_,results_none hr a.tmps P w',h2⟩
 rcases he with rfl|rfl
 ·exact hL
 ·exact hL
end
theorem bf:br Tryz.prog 5=some (some (.int .u8 0)):=by kernel_rfl
theorem eu:br Tryz.prog 3=some (some (.int .i64 0)):=by kernel_rfl
def mw (u d:Nat):Nat→List Nat
 |0=>[]
 |k+1=>mw u d k++(if k=d∧0<d then [46] else [])++[48+u/10^k%10]
theorem qh (u d:Nat):∀k,k≤(mw u d k).length∧(mw u d k).length≤2*k
 |0=>by simp[mw]
 |k+1=>by
  have ih:=qh u d k;unfold mw;split<;>simp<;>omega
theorem sY (u d:Nat):∀k,∀x∈mw u d k,x<256
 |0=>by simp[mw]
 |k+1=>by
  have ih:=sY u d k;unfold mw;intro x hx;simp only[List.mem_append,List.mem_singleton] at hx;rcases hx with (hx|hx)|hx
  ·exact ih x hx
  ·split at hx
   ·simp at hx;omega
   ·simp at hx
  ·omega
def sP (u d N:Nat):Prop:=(∀k,k<N→0<u/10^k∨k≤d)∧¬(0<u/10^N∨N≤d)
def printed (n:Int)(d N:Nat):List Nat:=(mw n.natAbs d N++if n<0 then [45] else []).reverse
theorem zh (u k:Nat):u/10^k/10=u/10^(k+1):=by rw[Nat.div_div_eq_div_mul,Nat.pow_succ]
def gN (c:Nat):Prop:=48≤c∧c≤57
def cK (l:List Nat):Nat:=l.foldl (fun n c=>10*n+(c-48)) 0
theorem nC (l:List Nat):∀a,l.foldl (fun n c=>10*n+(c-48)) a=a*10^l.length+cK l:=by
 induction l with
 |nil=>intro a;simp[cK]
 |cons c l ih=>
  intro a
  have e1:cK (c::l)=(c-48)*10^l.length+cK l:=by
   show List.foldl _ _ (c::l)=_;rw[List.foldl_cons,ih,Nat.mul_zero,Nat.zero_add]
  rw[List.foldl_cons,ih,e1,List.length_cons,Nat.pow_succ];have:(10*a+(c-48))*10^l.length=a*(10^l.length*10)+(c-48)*10^l.length:=by rw[Nat.add_mul,Nat.mul_comm 10 a,Nat.mul_assoc,Nat.mul_comm 10]
  rw[this];omega
theorem u0 (c:Nat)(l:List Nat):cK (c::l)=(c-48)*10^l.length+cK l:=by
 show List.foldl _ _ (c::l)=_;rw[List.foldl_cons,nC,Nat.mul_zero,Nat.zero_add]
theorem pR (l:List Nat)(c:Nat):cK (l++[c])=10*cK l+(c-48):=by unfold cK;rw[List.foldl_append];rfl
theorem rV (a b:List Nat):cK (a++b)=cK a*10^b.length+cK b:=by
 show List.foldl _ _ (a++b)=_;rw[List.foldl_append,nC];rfl
theorem qz (l:List Nat)(h:∀c∈l,gN c):cK l<10^l.length:=by
 induction l with
 |nil=>simp[cK]
 |cons c l ih=>
  have h1:=ih fun x hx=>h x (List.mem_cons_of_mem _ hx);have h2:=h c (List.mem_cons_self ..);unfold gN at h2;rw[u0,List.length_cons,Nat.pow_succ];have:(c-48)*10^l.length≤9*10^l.length:=Nat.mul_le_mul_right _ (by omega);omega
theorem uA (l:List Nat)(k:Nat):cK (l.take k)≤cK l:=by
 have h:=rV (l.take k) (l.drop k);rw[List.take_append_drop] at h;have h2:cK (l.take k)*1≤cK (l.take k)*10^(l.drop k).length:=Nat.mul_le_mul_left _ (Nat.pos_of_ne_zero (by simp));omega
def m6 (x:Int)(d:Nat)(F B:List Nat):List Nat:=(if x<0 then [45] else [])++(F++(if 0<d then 46::B else []))
structure Form (l:List Nat)(d:Nat)(x:Int)(F B:List Nat):Prop where
 f:∀c∈F,gN c
 b:∀c∈B,gN c
 len:B.length=d
 pos:0<F.length
 lead:1<F.length→F[0]? ≠some 48
 val:cK (F++B)=x.natAbs
 eq:l=m6 x d F B
end Go.Proofs.YtigoimhndlnhfaaGreat