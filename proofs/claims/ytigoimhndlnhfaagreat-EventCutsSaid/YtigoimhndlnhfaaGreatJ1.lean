/-
  Texts that were joined: TNumP, Fits, StrA, StrB, TMul, TNumD, TNumT, TNumQ, LexSpec, LexA, LexB, TreA, TreB, TreC, TreD, LexC, LexD, LexE, LexF, LexG, LexH. Conditions: what each theorem names.
-/
import Derived.Test.YtigoimhndlnhfaaGreatJ0
import Derived.Lib.Builder
import Derived.Lib.UnsafeStr
import Derived.Handy
import Derived.Deep.Light
set_option linter.unusedSectionVars false
namespace Go.Proofs.YtigoimhndlnhfaaGreat
open Go.RowKit
section
variable {P:Program} {E:Operand→Option Value} {o:Oper} {w w':World} {v:Value}
theorem aa.here {f:FuncId}{args:Array Operand}{ts:Array TypeId}{vs:List Value}(ho:o.op= .call {callee:= .value (.func f),args:=args,argTypes:=ts})(hf:E (.func f)=some (.func (.func f) #[] #[])) (hx:gR E args.toList=some vs)
  (he:(callFunc f vs.toArray).run P w= .ok (.value v) w'):aa P E o w v w':=fun ρ h=>by
 have hargs:args.map ρ=vs.toArray:=by
  apply Array.ext';rw[Array.toList_map,iS h hx]
 unfold execOp;simp only[ho,resolve,h _ _ hf,Deferred.ofValue,hargs,Sem.run_bind,Sem.run_pure,Result.andThen_ok,invoke];simp[he]
end
theorem kQ (l:List Nat)(c:Nat)(hl:∀x∈l,x<256)(hc:c<256)(w:World):(callFunc 263 [.string (strOf l), .int .u8 (c:Int)].toArray).run Tryz.prog w= .ok (.value (.int .i64 (if c∈l then(idx l c:Int) else -1))) w:=by
 rw[run_callFunc_extern Tryz.func263 (by kernel_rfl) (by kernel_rfl) (by kernel_rfl) (e:=Extern.BytealgIndexByte.indexByte) (by kernel_rfl),Lib.run_indexByteString];rw[dJ,show(c:Int).toNat.toUInt8=UInt8.ofNat c by rw[Int.toNat_natCast],lK c hc l hl];rfl
theorem rH (l:List Nat)(c:Nat)(w:World)(hl:∀x∈l,x<256)(hc:c<256):
  Calls Tryz.prog 259 #[.string (strOf l), .int .u8 (c:Int)] w fun e w'=>e= .returned (.int .i64 (if c∈l then(idx l c:Int) else -1))∧w=w':=by
 refine Zs 8 Tryz.func259 ?_;refine aj ?_;refine Za ?_;refine bu 0 1 4 (aB ?_);refine Zm ?_;refine Zm ?_;refine Zv (aa.here rfl rfl rfl (kQ l c hl hc _)) ?_;refine Za ?_;refine bu 0 1 4 (Zt (Cd.ret ?_));refine aX ?_;exact⟨rfl,rfl⟩
theorem zP (l:List Nat)(c:Nat)(w:World)(hl:∀x∈l,x<256)(hc:c<256):
  Calls Tryz.prog 257 #[.string (strOf l), .string (strOf [c])] w fun e w'=>e= .returned (.int .i64 (if c∈l then(idx l c:Int) else -1))∧w=w':=by
 have h1:∀x∈ [c],x<256:=fun x hx=>by simp at hx;omega
 refine Zs 143 Tryz.func257 ?_;refine aj ?_;refine Za ?_;refine bu 0 1 4 (aB ?_);refine Zm ?_;refine Zv (aa.eB rfl rfl Tryz.underlying9) ?_;refine Za ?_;refine aZ 0 1 4 5 (aJ (Cd.block (aj ?_)));refine Zm ?_;refine bq ?_;refine Zm ?_;refine av.start ?_;refine bk (fun hcx=>aa.move rfl rfl) ?_;refine jl ?_;refine Zn (fun hcx=>aa.dq (a:=[c]) (b:=l) rfl rfl rfl h1 hl) ?_;refine eG ?_;refine Za ?_;refine aU 0 1 4 5 16 (Zt ?_);refine Cd.cond rfl (fun h=> ?_) (fun h=> ?_)
 ·have:l=[c]:=(show [c]=l by simpa using h).symm
  subst this;refine aj ?_;refine Za ?_;refine aU 0 1 4 5 16 (Zt (Cd.ret (ab.ah (ab.af ?_))));refine aX ?_;exact⟨by simp[idx],rfl⟩
 ·skip
  refine aj ?_;refine Zm ?_;refine bq ?_;refine Za ?_;refine bl 0 1 4 5 16 24 (Zt ?_);refine Cd.aY rfl rfl ?_;refine aj ?_;refine Zm ?_;refine Zm ?_;refine Zv (aa.gg (l:=[c]) (j:=0) (c:=c) rfl rfl rfl Tryz.underlying9 rfl rfl hc) ?_;refine Zc (Ze Tryz.func259) (rH l c _ hl hc) ?_;rintro e w2 ⟨rfl,rfl⟩;refine⟨_,rfl,?_⟩;refine Za ?_;refine bl 0 1 4 5 16 24 (Zt (Cd.ret (ab.ah (ab.af ?_))));refine aX ?_;exact⟨rfl,rfl⟩
def jt (l:List Nat)(c:Nat):List Nat:=if c∈l then l.take (idx l c) else l
def kc (l:List Nat)(c:Nat):List Nat:=if c∈l then l.drop (idx l c+1) else []
theorem BO (l:List Nat)(c:Nat)(w:World)(hl:∀x∈l,x<256)(hc:c<256)(hn:l.length≤9223372036854775807):
  Calls Tryz.prog 253 #[.string (strOf l), .string (strOf [c])] w fun e w'=>e= .returned (.tuple #[.string (strOf (jt l c)), .string (strOf (kc l c)), .bool (decide (c∈l))])∧Grow w w':=by
 have bel:=Below.refl w.heap.size w;have hc1: [c].length=1:=rfl;refine Zs 23 Tryz.func253 ?_;refine aj ?_;refine Za ?_;refine Za ?_;refine Za ?_;refine aU 0 1 4 5 6 (aJ (aj ?_));refine Zm ?_;refine Zm ?_;refine Zc (Ze Tryz.func257) (zP l c _ hl hc) ?_;rintro e w2 ⟨rfl,rfl⟩;refine⟨_,rfl,?_⟩
 by_cases hm:c∈l
 ·obtain⟨h1,-,-⟩:=nu l c hm
  rw[if_pos hm];unfold jt kc;rw[if_pos hm,if_pos hm,decide_eq_true hm];refine Za ?_;refine bl 0 1 4 5 6 7 (aB ?_);refine Zm ?_;refine mz ?_;refine bp 0 1 4 5 6 7 12 (Zt ?_);refine Cd.aY rfl (decide_eq_true (by omega)) ?_;refine Cd.seq ?_;refine Cd.ef (F':=[(0,_),(1,_),(7,_),(12,_)]) ⟨rfl,rfl,rfl,rfl,trivial⟩ ?_;refine fV 12 ?_;intro w1 hw1 zw1;replace bel:=bel.step hw1;have zbel:=bel.size;refine eJ ?_;refine eJ ?_;refine Zd (fun w hG=>aa.sliceTo (j:=idx l c) rfl rfl rfl Tryz.underlying9 rfl (by omega)) ?_;refine eJ ?_;refine eJ ?_;refine eJ ?_;refine Zd (fun w hG=>aa.eB rfl rfl Tryz.underlying9) ?_;refine Zd (fun w hG=>aa.qR rfl rfl rfl (by omega) (by omega)) ?_;refine Zd (fun w hG=>aa.sliceFrom (j:=idx l c+1) rfl rfl rfl Tryz.underlying9 rfl (by omega)) ?_;refine Zd (fun w hG=>aa.assign rfl rfl) ?_;refine Zd (fun w hG=>aa.assign rfl rfl) ?_;refine Zd (fun w hG=>aa.assign rfl rfl) ?_;refine Dr.nil ?_;refine br.done (F':=[(0,_),(1,_),(4,_),(5,_),(6,_),(7,_),(12,_)]) rfl ⟨rfl,rfl,rfl,rfl,rfl,rfl,rfl,trivial⟩ ?_;intro w2 hw2 fw2;replace bel:=bel.step hw2;refine bp 0 1 4 5 6 7 12 (Zt (Cd.ret (ab.af ?_)));refine ab.mI rfl rfl rfl rfl (.inl rfl) ?_;exact⟨rfl,bel⟩
 ·rw[if_neg hm]
  unfold jt kc;rw[if_neg hm,if_neg hm,decide_eq_false hm];refine Za ?_;refine bl 0 1 4 5 6 7 (aB ?_);refine Zm ?_;refine mz ?_;refine bp 0 1 4 5 6 7 12 (Zt ?_);refine Cd.aS rfl rfl ?_;refine Cd.skip (aB ?_);refine Zm ?_;refine Za ?_;refine Za ?_;refine Za ?_;refine bp 0 1 4 5 6 7 12 (Zt (Cd.ret ?_));refine ab.mI rfl rfl rfl rfl (.inl rfl) ?_;exact⟨rfl,bel⟩
theorem DC (l:List Nat)(c:Nat)(w:World)(hl:∀x∈l,x<256)(hc:c<256)(hn:l.length≤9223372036854775807):
  Calls Tryz.prog 246 #[.string (strOf l), .string (strOf [c])] w fun e w'=>e= .returned (.tuple #[.string (strOf (jt l c)), .string (strOf (kc l c)), .bool (decide (c∈l))])∧Grow w w':=by
 have bel:=Below.refl w.heap.size w;refine Zs 13 Tryz.func246 ?_;refine aj ?_;refine Za ?_;refine Za ?_;refine Za ?_;refine aU 0 1 4 5 6 (aB ?_);refine Zm ?_;refine Zm ?_;refine Zc (Ze Tryz.func253) (BO l c _ hl hc hn) ?_;rintro e w2 ⟨rfl,hb2⟩;refine⟨_,rfl,?_⟩;replace bel:=bel.step hb2;refine Zx ?_;refine Zx ?_;refine Zx ?_;refine Za ?_;refine Za ?_;refine Za ?_;refine aU 0 1 4 5 6 (Zt (Cd.ret ?_));refine ab.mI rfl rfl rfl rfl (.inl rfl) ?_;exact⟨rfl,bel⟩
theorem ry (l:List Nat)(c:Nat)(w:World)(hl:∀x∈l,x<256)(hc:c<256):
  Calls Tryz.prog 241 #[.string (strOf l), .string (strOf [c])] w fun e w'=>e= .returned (.bool (decide (l.head? =some c)))∧w=w':=by
 have h1:∀x∈ [c],x<256:=fun x hx=>by simp at hx;omega
 have h2:∀x∈l.take 1,x<256:=fun x hx=>hl x (List.mem_of_mem_take hx);refine Zs 18 Tryz.func241 ?_;refine aj ?_;refine Za ?_;refine bu 0 1 4 (aB ?_);refine Zm ?_;refine Zv (aa.eB rfl rfl Tryz.underlying9) ?_;refine Zm ?_;refine Zv (aa.eB rfl rfl Tryz.underlying9) ?_;refine mz ?_;refine Zm ?_;refine av.start ?_;refine bk (fun hcx=>aa.move rfl rfl) ?_;refine jl ?_;refine Zn (fun hcx=>aa.eB rfl rfl Tryz.underlying9) ?_;refine Zn (fun hcx=>aa.sliceTo (j:=1) rfl rfl rfl Tryz.underlying9 rfl (by simp at hcx;omega)) ?_;refine jl ?_;refine Zn (fun hcx=>aa.dq (a:=l.take 1) (b:=[c]) rfl rfl rfl h2 h1) ?_;refine ep ?_;refine Za ?_;refine bu 0 1 4 (Zt (Cd.ret ?_));refine aX ?_;refine⟨aW (aF ?_),rfl⟩
 cases l with
 |nil=>simp
 |cons x l=>rw[Bool.eq_iff_iff];simp;omega
theorem pI (l:List Nat)(c:Nat)(w:World)(hl:∀x∈l,x<256)(hc:c<256):
  Calls Tryz.prog 252 #[.string (strOf l), .string (strOf [c])] w fun e w'=>e= .returned (.tuple #[.string (strOf (if l.head? =some c then l.drop 1 else l)), .bool (decide (l.head? =some c))])∧w=w':=by
 refine Zs 15 Tryz.func252 ?_;refine aj ?_;refine Za ?_;refine Za ?_;refine aZ 0 1 4 5 (aJ (aj ?_));refine Zm ?_;refine Zm ?_;refine Zc (Ze Tryz.func241) (ry l c _ hl hc) ?_;rintro e w2 ⟨rfl,rfl⟩;refine⟨_,rfl,?_⟩
 by_cases hm:l.head? =some c
 ·rw[if_pos hm,decide_eq_true hm]
  have h1:1≤l.length:=by cases l with
   |nil=>simp at hm
   |cons x l=>simp
  refine iC ?_;refine aU 0 1 4 5 9 (Zt ?_);refine Cd.aS rfl rfl ?_;refine Cd.skip (aB ?_);refine Zm ?_;refine Zm ?_;refine Zv (aa.eB rfl rfl Tryz.underlying9) ?_;refine Zv (aa.sliceFrom (j:=1) rfl rfl rfl Tryz.underlying9 rfl h1) ?_;refine Za ?_;refine Za ?_;refine aU 0 1 4 5 9 (Zt (Cd.ret ?_));refine dO ?_;exact⟨rfl,rfl⟩
 ·rw[if_neg hm,decide_eq_false hm]
  refine iC ?_;refine aU 0 1 4 5 9 (Zt ?_);refine Cd.aY rfl rfl ?_;refine aj ?_;refine Zm ?_;refine Za ?_;refine Za ?_;refine aU 0 1 4 5 9 (Zt (Cd.ret (ab.af ?_)));refine dO ?_;exact⟨rfl,rfl⟩
theorem rp (l:List Nat)(c:Nat)(w:World)(hl:∀x∈l,x<256)(hc:c<256):
  Calls Tryz.prog 245 #[.string (strOf l), .string (strOf [c])] w fun e w'=>e= .returned (.tuple #[.string (strOf (if l.head? =some c then l.drop 1 else l)), .bool (decide (l.head? =some c))])∧w=w':=by
 refine Zs 11 Tryz.func245 ?_;refine aj ?_;refine Za ?_;refine Za ?_;refine aZ 0 1 4 5 (aB ?_);refine Zm ?_;refine Zm ?_;refine Zc (Ze Tryz.func252) (pI l c _ hl hc) ?_;rintro e w2 ⟨rfl,rfl⟩;refine⟨_,rfl,?_⟩;refine Zx ?_;refine Zx ?_;refine Za ?_;refine Za ?_;refine aZ 0 1 4 5 (Zt (Cd.ret ?_));refine dO ?_;exact⟨rfl,rfl⟩
theorem yh (c:Nat)(w:World):Calls Tryz.prog 247 #[.int .u8 (c:Int)] w fun e w'=>e= .returned (.bool (decide (48≤c∧c≤57)))∧w=w':=by
 refine Zs 9 Tryz.func247 ?_;refine aj ?_;refine Za ?_;refine dM 0 2 (aB ?_);refine Zm ?_;refine mz ?_;refine Zm ?_;refine av.start ?_;refine bk (fun hcx=>aa.move rfl rfl) ?_;refine Zn (fun hcx=>aa.leq rfl rfl rfl) ?_;refine ep ?_;refine Za ?_;refine dM 0 2 (Zt (Cd.ret ?_));refine aX ?_;refine⟨aW (aF ?_),rfl⟩;rw[Bool.eq_iff_iff];simp;omega
def bw (a:Int):Prop:= -9223372036854775808≤a∧a≤9223372036854775807
def fits (a:Int):Bool:=decide (-9223372036854775808≤a)&&decide (a≤9223372036854775807)
def eu (a:Int):Int:=if fits a=true then a else 0
theorem xC {a:Int}(h0: -9223372036854775808≤a)(h1:a≤9223372036854775807):fits a=true:=by unfold fits;rw[decide_eq_true h0,decide_eq_true h1];rfl
theorem pr {a:Int}(h:a< -9223372036854775808∨9223372036854775807<a):fits a=false:=by
 unfold fits;rcases h with h|h
 ·rw[decide_eq_false (by omega)];rfl
 ·rw[decide_eq_false (show¬a≤9223372036854775807 by omega)];simp
theorem aa.nilCheck {P:Program}{E:Operand→Option Value}{o:Oper}{w:World}{x:Operand}{ad:Addr}(ho:o.op= .nilCheck x)(hx:E x=some (.pointer (some ad))):aa P E o w (.pointer (some ad)) w:=fun ρ h=>by
 unfold execOp;simp only[ho];rw[h _ _ hx];rfl
theorem aa.DK {P:Program}{E:Operand→Option Value}{o:Oper}{w w':World}{x:Operand}{T T':TypeId}{u v:Value}(ho:o.op= .convert T T' x)(hx:E x=some u)(hr:(convert T T' u).run P w= .ok v w'):aa P E o w v w':=fun ρ h=>by
 unfold execOp;simp only[ho];rw[h _ _ hx];simp only[Sem.run_bind,hr,Result.andThen_ok];rfl
structure Wt (B:Nat)(w w':World):Prop where
 below:Below (min B w.heap.size) w w'
 bN:∀k t cs,aH w k t cs→t≠232→t≠5→aH w' k t cs
section
variable {B:Nat} {w w' w'':World}
theorem Wt.refl (B:Nat)(w:World):Wt B w w:=⟨Below.refl _ _,fun _ _ _ h _ _=>h⟩
theorem Wt.trans (h:Wt B w w')(k:Wt B w' w''):Wt B w w'':=⟨h.below.trans (k.below.mono (by have:=h.below.size;omega)),fun i t cs hb h1 h2=>k.bN i t cs (h.bN i t cs hb h1 h2) h1 h2⟩
theorem Wt.grow (h:Below w.heap.size w w'):Wt B w w':=⟨h.mono (Nat.min_le_right _ _),fun _ _ _ hb _ _=>hb.step h⟩
theorem Wt.step (h:Wt B w w')(k:Below w'.heap.size w' w''):Wt B w w'':=h.trans (Wt.grow k)
theorem Wt.wt (h:Wt B w w')(k:Wt B w' w''):Wt B w w'':=h.trans k
theorem Wt.to (h:Wt B w w')(hB:B≤w.heap.size):Below B w w':=by have:=h.below;rwa [Nat.min_eq_left hB] at this
theorem Wt.yZ {g:Nat}{T:TypeId}{cur cs:Array Value}(h:Wt B w w')(k:aH w' g T cur)(p:hZ w' w'' g T cs)(hB:B≤g)(hT:T=232∨T=5):Wt B w w'':=
 h.trans ⟨(p.below hB k.lt).mono (Nat.min_le_left _ _),fun i t cs hb h1 h2=>hb.put p (hb.ne k (by rcases hT with rfl|rfl<;>assumption))⟩
theorem aH.wt {k:Nat}{t:TypeId}{cs:Array Value}(h:aH w k t cs)(f:Wt B w w')(h1:t≠232:=by decide)(h2:t≠5:=by decide):aH w' k t cs:=f.bN k t cs h h1 h2
theorem App.wt {n:Nat}{v:Value}{xs:List Value}(h:App w w' B v)(o:Own w B 5 1 v n xs):Wt B w w':=
 ⟨h.below.mono (Nat.min_le_left _ _),fun i t cs hb _ h2=>hb.grown h.grown (fun e=>bR o.row hb (fun e=>h2 e.symm) e.symm)⟩
end
structure Bw (w:World)(B g:Nat)(bs:List Nat):Prop where
 ge:B≤g
 bytes:∀d∈bs,d<256
 cell:∃p v,(p= .pointer none∨p= .pointer (some ⟨g,0,none⟩))∧aH w g 232 #[p,v]∧Own w B 5 1 v bs.length (Bt bs)∧(bs=[]→v= .slice none 0 0)
theorem Bw.size {w:World}{B g:Nat}{bs:List Nat}(h:Bw w B g bs):B≤w.heap.size:=by
 obtain⟨p,v,-,hb,-⟩:=h.cell;have:=hb.lt;have:=h.ge;omega
theorem Bw.step {w w':World}{B g:Nat}{bs:List Nat}(h:Bw w B g bs)(k:Below w.heap.size w w'):Bw w' B g bs:=by
 obtain⟨p,v,hp,hb,ho,hz⟩:=h.cell;exact⟨h.ge,h.bytes,p,v,hp,hb.step k,ho.step k,hz⟩
theorem rr (x:Value)(w:World):(callFunc 235 [x].toArray).run Tryz.prog w= .ok (.value x) w:=by
 rw[run_callFunc_extern Tryz.func235 (by kernel_rfl) (by kernel_rfl) (by kernel_rfl) (e:=Extern.AbiNoEscape.same) (by kernel_rfl),Lib.run_noEscape];rfl
theorem rq (B g:Nat)(bs:List Nat)(w:World)(h:Bw w B g bs):Calls Tryz.prog 213 #[.pointer (some ⟨g,0,none⟩)] w fun e w'=>e= .returned (.tuple #[])∧Wt B w w'∧Bw w' B g bs:=by
 obtain⟨p,v,hp,k0,own,hz⟩:=h.cell;have k00:=k0
 have hsh:∀W p,aH W g 232 #[p,v]→W.shape? g=some (232,2):=fun W p hb=>by
  have hb:W.heap[g]? =some (.cells #[p,v] 232 (0,0)):=hb;simp[World.shape?,hb]
 obtain⟨j,hj,hjs⟩:=bB (P:=Tryz.prog) (t:=230) (n:=2) (by kernel_rfl);rcases hp with rfl|rfl
 ·have hto:=Lib.run_to_unsafe (P:=Tryz.prog) w (src:=228) (dst:=279) (a:=⟨g,0,none⟩) Tryz.underlying228 Tryz.underlying279 hj (by omega) (hsh w _ k0) (show(0:Nat)<2 by decide)
  have hfrom:=Lib.run_from_unsafe (P:=Tryz.prog) w (dst:=228) (src:=279) (a:=⟨g,0,none⟩) Tryz.underlying279 Tryz.underlying228 hj (hsh w _ k0) (by kernel_rfl);refine Zs 20 Tryz.func213 ?_;refine aj ?_;refine Zm ?_;refine Zv (aa.nilCheck rfl rfl) ?_;refine Zf 0 Tryz.underlying230 ?_;refine ZL Tryz.underlying228 k0 ?_;refine Zv (aa.Eb rfl rfl rfl Tryz.underlying228) ?_;refine dM 0 6 (Zt ?_);refine Cd.aY rfl rfl ?_;refine Zr ?_;refine Zm ?_;refine Zm ?_;refine Zv (aa.DK rfl rfl hto) ?_;refine Zv (aa.here rfl rfl rfl (rr _ _)) ?_;refine Zv (aa.DK rfl rfl hfrom) ?_;refine Zv (aa.nilCheck rfl rfl) ?_;refine Zf 0 Tryz.underlying230 ?_;refine Zq k0 ?_;intro w1 pw1;replace k0:=pw1.ao;refine dM 0 6 ?_;refine ab.eP rfl (.inr rfl) ?_;exact⟨rfl,(Wt.refl B w).yZ k00 pw1 h.ge (.inl rfl),h.ge,h.bytes,_,v, .inr rfl,k0,own.put (B':=B) k00 pw1 h.ge,hz⟩
 ·refine Calls.start 20 Tryz.func213 rfl rfl rfl ?_
  refine aj ?_;refine Zm ?_;refine Zv (aa.nilCheck rfl rfl) ?_;refine Zf 0 Tryz.underlying230 ?_;refine ZL Tryz.underlying228 k0 ?_;refine Zv (aa.Eb rfl rfl rfl Tryz.underlying228) ?_;refine dM 0 6 (Zt ?_);refine Cd.aS rfl rfl ?_;refine aj ?_;refine Zm ?_;refine Zv (aa.nilCheck rfl rfl) ?_;refine Zf 0 Tryz.underlying230 ?_;refine ZL Tryz.underlying228 k0 ?_;refine Zm ?_;refine Zv (aa.bin rfl rfl rfl rfl (Lib.run_neq_ptr_same w _ Tryz.underlying228 hj)) ?_;refine bu 0 6 19 (Zt ?_);refine Cd.aS rfl rfl ?_;refine Cd.skip ?_;refine ab.eP rfl (.inr rfl) ?_;exact⟨rfl,Wt.refl B w,h⟩
theorem uf {s:List Nat}(hs:∀d∈s,d<256):Lib.strCells (strOf s)=Bt s:=by
 unfold Lib.strCells Bt;rw[dJ,List.map_map];refine List.map_congr_left fun d hd=> ?_;show Value.int .u8 ((UInt8.ofNat d).toNat:Int)= .int .u8 (d:Int);rw[ofNat_toNat (hs d hd)]
theorem Seq.C6 {P:Program}{ops:Array Oper}{Q:Exit→Act→World→Prop}{rest:List Oper}{o:Oper}{n d:Nat}{F:List (Nat × Value)}{w:World}{v:Value}{x y:Operand}{t u e B:Nat}{k:Nat}{xs:List Value}{s:List Nat}(ho:o.op= .call {callee:= .builtin .append,args:= #[x,y],argTypes:= #[t,u]}) (hx:eO F x=some v) (hy:eO F y=some (.string (strOf s))) (ht:P.underlying t=some (.slice e)) (hu:P.underlying u=some .string) (hs:dh P e 1=true) (hz:bz P e=some (some (.int .u8 0))) (hby:(P.info? e).map (·.bytes)=some 1)
  (hown:Own w B e 1 v k xs) (hsb:∀d∈s,d<256) (hB:B≤w.heap.size) (h63:k+s.length≤1000000000) (hg:o.guard=none) (hd:o.dst=some d) (hn:Nat.blt d n=true)
  (h:∀v' w',Own w' B e 1 v' (k+s.length) (xs++Bt s)→App w w' B v→(v'= .slice none 0 0↔v= .slice none 0 0∧s.length=0)→Seq P ops Q rest n ((d,v')::F) w'):Seq P ops Q (o::rest) n F w:=by
 obtain⟨i,hi,hisz⟩:=bB hs;have hz':i.zero=some (.int .u8 0):=by unfold bz at hz;rw[hi] at hz;injection hz
 have hb':i.bytes=1:=by rw[hi] at hby;injection hby
 obtain⟨v',w',hrun,h2,h3,h4⟩:=Lib.run_append_own_string (P:=P) w B t u o.type e i ht hu hi hz' hisz hb' v k xs hown.row (strOf s) (by rw[bG];simp only[maxLen];omega) (by rw[bG];omega) hB;rw[bG] at h2 h4;rw[uf hsb] at h2;refine Seq.val (v:=v') (w':=w') (fun ρ hρ=> ?_) hg hd hn (h v' w' ⟨h2⟩ ⟨?_,h3⟩ h4)
 ·unfold execOp
  simp only[ho,resolve,invoke,builtin,Sem.run_bind,Sem.run_pure,Result.andThen_ok,List.map_toArray,List.map_cons,List.map_nil,hρ _ _ hx,hρ _ _ hy,hrun]
 ·refine⟨h3.os,h3.tape,h3.output,h3.size,fun j hj=>h3.block j (by omega) fun e'=> ?_⟩
  rcases hown.row.2 with ⟨rfl,_⟩|⟨g,cap,cur,rfl,hBg,_⟩
  ·cases e'
  ·injection e' with e'
   have:j=g:=e';omega
def gT (B g:Nat)(bs:List Nat)(w:World)(e:Ending)(w':World):Prop:=(∃v,e= .returned v)∧Wt B w w'∧Bw w' B g bs
theorem bH (B g:Nat)(s bs:List Nat)(w:World)(h:Bw w B g bs)(hs:∀d∈s,d<256)(hl:bs.length+s.length≤1000000000):
  Calls Tryz.prog 174 #[.pointer (some ⟨g,0,none⟩), .string (strOf s)] w (gT B g (bs++s) w)∧∀u,CallsD Tryz.prog 174 #[.pointer (some ⟨g,0,none⟩), .string (strOf s)] u w fun e u' w'=>u'=u∧gT B g (bs++s) w e w':=by
 have wt:=Wt.refl B w;have wr:=h;refine(fun key=>⟨Calls.start 19 Tryz.func174 rfl rfl rfl key,fun u=>CallsD.start 19 Tryz.func174 rfl rfl rfl key⟩) ?_;refine aj ?_;refine Za ?_;refine Za ?_;refine aZ 0 1 4 5 (aB ?_);refine Zm ?_;refine Zc (Ze Tryz.func213) (rq B g bs _ wr) ?_;clear wr;rintro e w1 ⟨rfl,fw1,wr⟩;refine⟨_,rfl,?_⟩;replace wt:=wt.wt fw1;obtain⟨p,v,hp,k0,own,hz⟩:=wr.cell;refine aZ 0 1 4 5 (aB ?_);refine Zm ?_;refine Zm ?_;refine Zv (aa.nilCheck rfl rfl) ?_;refine Zf 1 Tryz.underlying230 ?_;refine ZL Tryz.underlying64 k0 ?_;refine Zm ?_;refine Seq.C6 rfl rfl rfl Tryz.underlying64 Tryz.underlying9 (by kernel_rfl) bt (by kernel_rfl) own hs wr.size hl rfl rfl rfl ?_;intro v2 w2 own2 ha2 hv2;have k1:=k0.grown ha2.grown (fun e=>bR own.row k0 (by decide) e.symm);have wt2:=wt.trans (ha2.wt own);clear k0 wt;have k0:=k1;have wt:=wt2;obtain⟨A2,c2,rfl,-⟩:=own2.reads;refine Zv (aa.nilCheck rfl rfl) ?_;refine Zf 1 Tryz.underlying230 ?_;refine Zq k0 ?_;intro w2 pw2;replace k0:=pw2.ao;refine aZ 0 1 4 5 (aB ?_);refine Zm ?_;refine Zv (aa.eB rfl rfl Tryz.underlying9) ?_;refine Za ?_;refine Za ?_;refine aZ 0 1 4 5 (Zt (Cd.ret ?_));refine dO ?_;refine⟨⟨_,rfl⟩,wt.yZ k1 pw2 h.ge (.inl rfl),h.ge,fun d hd=> ?_,p,_,hp,k0,?_,fun hnil=> ?_⟩
 ·rcases List.mem_append.1 hd with hd|hd
  ·exact h.bytes d hd
  ·exact hs d hd
 ·rw[jz,List.length_append]
  exact own2.put (B':=B) k1 pw2 h.ge
 ·rw[hv2]
  have:=congrArg List.length hnil;simp at this;exact⟨hz this.1,by rw[this.2];rfl⟩
theorem Ad (B g:Nat)(bs:List Nat)(w:World)(h:Bw w B g bs):Calls Tryz.prog 172 #[.pointer (some ⟨g,0,none⟩)] w fun e w'=>e= .returned (.int .i64 (bs.length:Int))∧Grow w w':=by
 obtain⟨p,v,hp,k0,own,hz⟩:=h.cell;have bel:=Below.refl w.heap.size w;obtain⟨A,c,rfl,-⟩:=own.reads;refine Zs 8 Tryz.func172 ?_;refine aj ?_;refine Za ?_;refine dM 0 2 (aB ?_);refine Zm ?_;refine Zv (aa.nilCheck rfl rfl) ?_;refine Zf 1 Tryz.underlying230 ?_;refine ZL Tryz.underlying64 k0 ?_;refine Zv (aa.len rfl rfl Tryz.underlying64) ?_;refine Za ?_;refine dM 0 2 (Zt (Cd.ret ?_));refine aX ?_;exact⟨rfl,bel⟩
theorem Own.Fb {w:World}{B n:Nat}{e:TypeId}{v:Value}{xs:List Value}(h:Own w B e 1 v n xs)(h0:0<n):∃g cap cur,v= .slice (some ⟨g,0,none⟩) n cap∧B≤g∧aH w g e cur∧n≤cap∧cur.size=cap∧∀(j:Nat) (x:Value),xs[j]? =some x→cur[j]? =some x:=by
 obtain⟨hl,⟨_,h1⟩|⟨g,cap,cur,h',h1,h2,h3,h4,h5,h6⟩⟩:=h.row
 ·omega
 ·refine⟨g,cap,cur,h',h1,h2,h3,by omega,fun j x hx=> ?_⟩
  rw[←h6] at hx
  have:cur.toList[j]? =some x:=by
   rw[List.getElem?_take] at hx;split at hx
   ·exact hx
   ·cases hx
  simpa using this
theorem va (B g:Nat)(bs:List Nat)(w:World)(h:Bw w B g bs)(hl:bs.length≤1000000000):Calls Tryz.prog 173 #[.pointer (some ⟨g,0,none⟩)] w fun e w'=>e= .returned (.string (strOf bs))∧Below B w w':=by
 obtain⟨p,v,hp,k0,own,hz⟩:=h.cell;have bel:=Below.refl w.heap.size w;have hBw:=h.size;rcases Nat.eq_zero_or_pos bs.length with h0|h0
 ·have hb:bs=[]:=List.eq_nil_of_length_eq_zero h0
  have hv:=hz hb;subst hb hv;refine Zs 14 Tryz.func173 ?_;refine aj ?_;refine Za ?_;refine dM 0 2 (aJ ?_);refine fV 10 ?_;intro w1 hw1 zw1;replace bel:=bel.step hw1;replace k0:=k0.step hw1;have zbel:=bel.size;have zlt:=k0.lt;refine eJ ?_;refine Zd (fun w hG=>aa.nilCheck rfl rfl) ?_;refine fp 1 Tryz.underlying230 ?_;refine eH Tryz.underlying64 k0 ?_;refine Zd (fun w hG=>aa.iJ (v:= .pointer none) rfl rfl (vs:=[.slice none 0 0]) rfl (fun cs=>by simp[builtin,Lib.run_unsafeSliceData_nil])) ?_;refine eJ ?_;refine Zd (fun w hG=>aa.nilCheck rfl rfl) ?_;refine fp 1 Tryz.underlying230 ?_;refine eH Tryz.underlying64 k0 ?_;refine Zd (fun w hG=>aa.len rfl rfl Tryz.underlying64) ?_;refine Dr.nil ?_;refine br.done (F':=[(0,_),(2,_),(7,_),(12,_)]) rfl ⟨rfl,rfl,rfl,rfl,trivial⟩ ?_;intro w2 hw2 fw2;replace bel:=bel.step hw2;replace k0:=k0.step hw2;refine Zv (aa.iJ (v:= .string (strOf [])) rfl rfl (vs:=[.pointer none, .int .i64 ((0:Nat):Int)]) rfl (fun cs=>by simp[builtin,Lib.run_unsafeString_none];exact⟨rfl,rfl⟩)) ?_;refine Za ?_;refine dM 0 2 (Zt (Cd.ret ?_));refine aX ?_;exact⟨rfl,bel.mono hBw⟩
 ·obtain⟨gb,cap,cur,rfl,hgb,kb,hcap,hsz,hcur⟩:=own.Fb h0
  refine Zs 14 Tryz.func173 ?_;refine aj ?_;refine Za ?_;refine dM 0 2 (aJ ?_);refine fV 10 ?_;intro w1 hw1 zw1;replace bel:=bel.step hw1;replace k0:=k0.step hw1;replace kb:=kb.step hw1;have zbel:=bel.size;have zlt:=k0.lt;refine eJ ?_;refine Zd (fun w hG=>aa.nilCheck rfl rfl) ?_;refine fp 1 Tryz.underlying230 ?_;refine eH Tryz.underlying64 k0 ?_;refine Zd (fun w hG=>aa.iJ (v:= .pointer (some ⟨gb,0,none⟩)) rfl rfl (vs:=[.slice (some ⟨gb,0,none⟩) bs.length cap]) rfl (fun cs=>by have:=Lib.run_unsafeSliceData_row (P:=Tryz.prog) w #[64] 263 ⟨gb,0,none⟩ bs.length cap (by omega);simp[builtin,this])) ?_;refine eJ ?_;refine Zd (fun w hG=>aa.nilCheck rfl rfl) ?_;refine fp 1 Tryz.underlying230 ?_;refine eH Tryz.underlying64 k0 ?_;refine Zd (fun w hG=>aa.len rfl rfl Tryz.underlying64) ?_;refine Dr.nil ?_;refine br.done (F':=[(0,_),(2,_),(7,_),(12,_)]) rfl ⟨rfl,rfl,rfl,rfl,trivial⟩ ?_;intro w2 hw2 fw2;replace bel:=bel.step hw2;replace k0:=k0.step hw2;replace kb:=kb.step hw2
  have hsh:∀W,aH W gb 5 cur→W.shape? gb=some (5,cap):=fun W hb=>by
   have hb:W.heap[gb]? =some (.cells cur 5 (0,0)):=hb;simp[World.shape?,hb,hsz]
  have hcell:∀W,aH W gb 5 cur→∀j x,(bs.map UInt8.ofNat)[j]? =some x→W.cell? ((⟨gb,0,none⟩:Addr).add j)=some (.int .u8 x.toNat):=fun W hb j x hx=>by
   have hadd:(⟨gb,0,none⟩:Addr).add j=⟨gb,j,none⟩:=by unfold Addr.add;split<;>simp_all
   rw[hadd,hb.cell j];rw[List.getElem?_map] at hx
   cases hbj:bs[j]? with
   |none=>rw[hbj] at hx;cases hx
   |some d=>
    rw[hbj] at hx;injection hx with hx
    subst hx;rw[ofNat_toNat (h.bytes d (List.mem_of_getElem? hbj))];exact hcur j _ (by rw[nt,hbj];rfl)
  have hrun:=Lib.run_unsafeString_row (P:=Tryz.prog) _ 263 3 9 5 Tryz.underlying263 (by kernel_rfl) gb cap (hsh _ kb) (bs.map UInt8.ofNat) (by intro hn;rw[List.map_eq_nil_iff] at hn;rw[hn] at h0;simp at h0) (by simpa using hcap) (by simp;omega) (hcell _ kb);rw[List.length_map] at hrun;refine Zv (aa.iJ (v:= .string (strOf bs)) rfl rfl (vs:=[.pointer (some ⟨gb,0,none⟩), .int .i64 ((bs.length:Nat):Int)]) rfl (fun cs=>by simp[builtin,hrun];exact⟨rfl,rfl⟩)) ?_;have bel2:=Lib.below_freeze (bel.mono hBw) (p:=⟨gb,0,none⟩) hgb bs.length;refine Za ?_;refine dM 0 2 (Zt (Cd.ret ?_));refine aX ?_;exact⟨rfl,bel2⟩
theorem BS (x y:Int)(hx0:0≤x)(hx:x<18446744073709551616)(hy0:0≤y)(hy:y<18446744073709551616):
  IntKind.u64.wrap (IntKind.u64.wrap (IntKind.u64.wrap (x/4294967296*(y/4294967296))+IntKind.u64.wrap (IntKind.u64.wrap (x/4294967296*bits BinOp.and IntKind.u64 y 4294967295)+
    IntKind.u64.wrap (bits BinOp.and IntKind.u64 x 4294967295*bits BinOp.and IntKind.u64 y 4294967295)/4294967296)/4294967296)+
   IntKind.u64.wrap (bits BinOp.and IntKind.u64 (IntKind.u64.wrap (IntKind.u64.wrap (x/4294967296*bits BinOp.and IntKind.u64 y 4294967295)+
    IntKind.u64.wrap (bits BinOp.and IntKind.u64 x 4294967295*bits BinOp.and IntKind.u64 y 4294967295)/4294967296)) 4294967295+
    IntKind.u64.wrap (bits BinOp.and IntKind.u64 x 4294967295*(y/4294967296)))/4294967296)=x*y/18446744073709551616:=by
 rw[and_low32 y hy0 hy,and_low32 x hx0 hx,and_low32 _ (by rw[wrap_u64];omega) (by rw[wrap_u64];omega)];simp only[wrap_u64];exact mul64_arith x y hx0 hx hy0 hy
def FJ (x y:Int):Int:=x*y/18446744073709551616
def FM (x y:Int):Int:=x*y%18446744073709551616
set_option maxHeartbeats 400000 in
theorem yY (x y:Int)(w:World)(hx0:0≤x)(hx:x<18446744073709551616)(hy0:0≤y)(hy:y<18446744073709551616):
  Calls Tryz.prog 258 #[.int .u64 x, .int .u64 y] w fun e w'=>e= .returned (.tuple #[.int .u64 (FJ x y), .int .u64 (FM x y)])∧w=w':=by
 go_enter Tryz.func258,Tryz.ntmps258
 go_wp2
 go_ret2
 exact⟨yC (int_eq (BS x y hx0 hx hy0 hy)) (int_eq (wrap_u64 _)),rfl⟩
theorem rE:bz Tryz.prog 289=some (some (.agg #[.int .u64 0, .int .u64 0, .bool false])):=by kernel_rfl
theorem rk (a:Int)(w:World)(h:bw a):Calls Tryz.prog 216 #[.int .i64 a] w fun e w'=>e= .returned (.int .u64 (a.natAbs:Int))∧w=w':=by
 obtain⟨h0,h1⟩:=h;refine Zs 10 Tryz.func216 ?_;refine aj ?_;refine Za ?_;refine dM 0 2 (aJ (aj ?_));refine Zm ?_;refine ff ?_;refine bu 0 2 4 (Zt ?_);refine Cd.au rfl (fun hc=> ?_) (fun hc=> ?_)
 ·skip
  refine aj ?_;refine Zm ?_;refine Zv (aa.fJ rfl rfl Tryz.underlying2 Tryz.underlying94 (wrap_u64 a)) ?_;refine Zv (aa.neg rfl rfl (r:=(a.natAbs:Int)) (by rw[wrap_u64];omega)) ?_;refine Za ?_;refine bu 0 2 4 (Zt (Cd.ret (ab.af ?_)));refine aX ?_;exact⟨rfl,rfl⟩
 ·skip
  refine Cd.skip (aB ?_);refine Zm ?_;refine Zv (aa.fJ rfl rfl Tryz.underlying2 Tryz.underlying94 (r:=(a.natAbs:Int)) (by rw[wrap_u64];omega)) ?_;refine Za ?_;refine bu 0 2 4 (Zt (Cd.ret ?_));refine aX ?_;exact⟨rfl,rfl⟩
theorem yD (x y:Nat)(w:World)(hx:x<18446744073709551616)(hy:y<18446744073709551616):
  Calls Tryz.prog 258 #[.int .u64 (x:Int), .int .u64 (y:Int)] w fun e w'=>e= .returned (.tuple #[.int .u64 ((x*y/18446744073709551616:Nat):Int), .int .u64 ((x*y%18446744073709551616:Nat):Int)])∧w=w':=
 (yY x y w (by omega) (by omega) (by omega) (by omega)).mono fun e w' ⟨h1,h2⟩=>⟨by rw[h1];unfold FJ FM;rw[←Int.natCast_mul];rfl,h2⟩
def BC (m:Nat)(neg:Bool):Value:= .agg #[.int .u64 ((m/18446744073709551616:Nat):Int), .int .u64 ((m%18446744073709551616:Nat):Int), .bool neg]
theorem qe (a b:Int)(c:Bool)(w:World):(Instr.build 289 #[(0, .int .u64 a),(1, .int .u64 b),(2, .bool c)]).run Tryz.prog w= .ok (.agg #[.int .u64 a, .int .u64 b, .bool c]) w:=by
 have hu:=Tryz.underlying289
 go_simp
theorem tX (a b:Int)(w:World)(ha:bw a)(hb:bw b):
  Calls Tryz.prog 254 #[.int .i64 a, .int .i64 b] w fun e w'=>e= .returned (BC (a.natAbs*b.natAbs) (decide (decide (a<0)≠decide (b<0))))∧Grow w w':=by
 have bel:=Below.refl w.heap.size w;have ha2:a.natAbs<18446744073709551616:=by have:=ha.1;have:=ha.2;omega
 have hb2:b.natAbs<18446744073709551616:=by have:=hb.1;have:=hb.2;omega
 refine Zs 23 Tryz.func254 ?_;refine aj ?_;refine Zl rE ?_;intro g4 w1 n4;have e4:=Nat.le_trans bel.size n4.ge;replace bel:=bel.step n4.below;have k4:=n4.ao;refine bu 0 1 4 (aB ?_);refine Zm ?_;refine Zc (Ze Tryz.func216) (rk _ _ ha) ?_;rintro e w3 ⟨rfl,rfl⟩;refine⟨_,rfl,?_⟩;refine Zm ?_;refine Zc (Ze Tryz.func216) (rk _ _ hb) ?_;rintro e w3 ⟨rfl,rfl⟩;refine⟨_,rfl,?_⟩;refine Zc (Ze Tryz.func258) (yD _ _ _ ha2 hb2) ?_;rintro e w3 ⟨rfl,rfl⟩;refine⟨_,rfl,?_⟩;refine Zm ?_;refine Zx ?_;refine Zx ?_;refine Za ?_;refine Za ?_;refine aU 0 1 4 5 6 (aB ?_);refine Zm ?_;refine Zm ?_;refine Zm ?_;refine ff ?_;refine Zm ?_;refine ff ?_;refine Zv (aa.Dj rfl rfl rfl Tryz.underlying4) ?_;refine Zv (aa.build rfl rfl (qe _ _ _ _)) ?_;refine Zo 3 k4 ?_;intro w2 pw2;replace bel:=bel.put k4 pw2 e4;replace k4:=pw2.ao;refine aU 0 1 4 5 6 (Zt (Cd.ret ?_));refine jU 3 k4 Tryz.underlying289 ?_;exact⟨rfl,bel⟩
def As (neg:Bool)(m:Nat):Int:=if neg then -(m:Int) else m
theorem xb (m:Nat)(neg:Bool)(w:World)(hm:m<340282366920938463463374607431768211456):
  Calls Tryz.prog 255 #[BC m neg] w fun e w'=>∃v,e= .returned (.tuple #[.int .i64 v, .bool (fits (As neg m))])∧(fits (As neg m)=true→v=As neg m)∧Grow w w':=by
 have bel:=Below.refl w.heap.size w;unfold BC;refine Zs 24 Tryz.func255 ?_;refine aj ?_;refine Seq.box rfl rfl rfl rfl rfl ?_;intro g1 w1 n1;have e1:=Nat.le_trans bel.size n1.ge;replace bel:=bel.step n1.below;have k1:=n1.ao;refine Za ?_;refine Za ?_;refine aZ 0 1 2 3 (aJ (Cd.block (aj ?_)));refine Zf 0 Tryz.underlying289 ?_;refine ZL Tryz.underlying94 k1 ?_;refine kL ?_;refine Za ?_;refine aU 0 1 2 3 4 (Zt ?_);refine Cd.au rfl (fun hc=> ?_) (fun hc=> ?_)
 ·have hf:fits (As neg m)=false:=by
   apply pr;unfold As
   cases neg<;>simp at hc⊢ <;>omega
  rw[hf];refine aj ?_;refine Za ?_;refine Za ?_;refine aU 0 1 2 3 4 (Zt (Cd.ret (ab.ah (ab.af ?_))));refine dO ?_;exact⟨0,rfl,(fun h=>by cases h),bel⟩
 ·have hlt:m<18446744073709551616:=by simp at hc;omega
  cases neg
  ·skip
   refine aj ?_;refine Zf 2 Tryz.underlying289 ?_;refine ZL Tryz.underlying4 k1 ?_;refine Za ?_;refine bl 0 1 2 3 4 8 (Zt ?_);refine Cd.aS rfl rfl ?_;refine Cd.skip (ab.ai (aJ ?_));refine Cd.ef (F':=[(0,_),(1,_),(4,_),(8,_)]) ⟨rfl,rfl,rfl,rfl,trivial⟩ ?_;refine fV 8 ?_;intro w2 hw2 zw2;replace bel:=bel.step hw2;replace k1:=k1.step hw2;have zbel:=bel.size;have zlt:=k1.lt;refine fp 1 Tryz.underlying289 ?_;refine eH Tryz.underlying94 k1 ?_;refine Zd (fun w hG=>aa.fJ rfl rfl Tryz.underlying94 Tryz.underlying2 rfl) ?_;refine fp 1 Tryz.underlying289 ?_;refine eH Tryz.underlying94 k1 ?_;refine Zd (fun w hG=>aa.lss rfl rfl rfl) ?_;refine Zd (fun w hG=>aa.assign rfl rfl) ?_;refine Zd (fun w hG=>aa.assign rfl rfl) ?_;refine Dr.nil ?_;refine br.done (F':=[(0,_),(1,_),(2,_),(3,_),(4,_),(8,_)]) rfl ⟨rfl,rfl,rfl,rfl,rfl,rfl,trivial⟩ ?_;intro w3 hw3 fw3;replace bel:=bel.step hw3;replace k1:=k1.step hw3;refine bl 0 1 2 3 4 8 (Zt (Cd.ret ?_));refine dO ?_;refine⟨_,yC rfl (aF ?_),fun h=> ?_,bel⟩
   ·unfold fits As;rw[Bool.eq_iff_iff];simp;omega
   ·unfold fits As at *;simp at h⊢;rw[IntKind.wrap_i64];omega
  ·skip
   refine aj ?_;refine Zf 2 Tryz.underlying289 ?_;refine ZL Tryz.underlying4 k1 ?_;refine Za ?_;refine bl 0 1 2 3 4 8 (Zt ?_);refine Cd.aY rfl rfl ?_;refine Cd.seq ?_;refine Cd.ef (F':=[(0,_),(1,_),(4,_),(8,_)]) ⟨rfl,rfl,rfl,rfl,trivial⟩ ?_;refine fV 9 ?_;intro w2 hw2 zw2;replace bel:=bel.step hw2;replace k1:=k1.step hw2;have zbel:=bel.size;have zlt:=k1.lt;refine fp 1 Tryz.underlying289 ?_;refine eH Tryz.underlying94 k1 ?_;refine Zd (fun w hG=>aa.fJ rfl rfl Tryz.underlying94 Tryz.underlying2 rfl) ?_;refine Zd (fun w hG=>aa.neg rfl rfl rfl) ?_;refine fp 1 Tryz.underlying289 ?_;refine eH Tryz.underlying94 k1 ?_;refine Zd (fun w hG=>aa.leq rfl rfl rfl) ?_;refine Zd (fun w hG=>aa.assign rfl rfl) ?_;refine Zd (fun w hG=>aa.assign rfl rfl) ?_;refine Dr.nil ?_;refine br.done (F':=[(0,_),(1,_),(2,_),(3,_),(4,_),(8,_)]) rfl ⟨rfl,rfl,rfl,rfl,rfl,rfl,trivial⟩ ?_;intro w3 hw3 fw3;replace bel:=bel.step hw3;replace k1:=k1.step hw3;refine bl 0 1 2 3 4 8 (Zt (Cd.ret (ab.ah (ab.af ?_))));refine dO ?_;refine⟨_,yC rfl (aF ?_),fun h=> ?_,bel⟩
   ·unfold fits As;rw[Bool.eq_iff_iff];simp;omega
   ·unfold fits As at *;simp at h⊢;rw[IntKind.wrap_i64,IntKind.wrap_i64];omega
theorem tp {a:Int}(h:fits a=false):Ending.returned (.tuple #[.int .i64 0, .bool false])= .returned (.tuple #[.int .i64 (eu a), .bool (fits a)]):=by unfold eu;rw[h];rfl
theorem tr {a s:Int}(h:fits a=true)(hs:s=a):Ending.returned (.tuple #[.int .i64 s, .bool true])= .returned (.tuple #[.int .i64 (eu a), .bool (fits a)]):=by unfold eu;rw[h,hs];rfl
theorem Cs (a b:Int)(w:World)(ha:bw a)(hb:bw b):
  Calls Tryz.prog 249 #[.int .i64 a, .int .i64 b] w fun e w'=>e= .returned (.tuple #[.int .i64 (eu (a+ -b)), .bool (fits (a+ -b))])∧Grow w w':=by
 obtain⟨ha0,ha1⟩:=ha;obtain⟨hb0,hb1⟩:=hb;refine Zs 23 Tryz.func249 ?_;refine aj ?_;refine Za ?_;refine Za ?_;refine aZ 0 1 4 5 (aB ?_);refine Zm ?_;refine Zm ?_;refine Zv (aa.DB rfl rfl rfl rfl) ?_
 generalize hs:IntKind.i64.wrap (a-b)=s
 rw[IntKind.wrap_i64] at hs;refine Za ?_;refine aU 0 1 4 5 6 (aJ (aj ?_));refine Zm ?_;refine ff ?_;refine Zm ?_;refine ff ?_;refine Zv (aa.Dj rfl rfl rfl Tryz.underlying4) ?_;refine Zm ?_;refine av.start ?_;refine bk (fun hcx=>aa.move rfl rfl) ?_;refine Zn (fun hcx=>aa.lss rfl rfl rfl) ?_;refine jl ?_;refine Zn (fun hcx=>aa.lss rfl rfl rfl) ?_;refine Zn (fun hcx=>aa.Dj rfl rfl rfl Tryz.underlying4) ?_;refine ep ?_;refine bl 0 1 4 5 6 21 (Zt ?_);refine Cd.cond rfl (fun h=> ?_) (fun h=> ?_)
 ·skip
  refine aj ?_;refine Za ?_;refine Za ?_;refine bl 0 1 4 5 6 21 (Zt (Cd.ret (ab.af ?_)));refine dO ?_;simp at h;exact⟨tp (pr (by omega)),Grow.refl _⟩
 ·skip
  refine Cd.skip (aB ?_);refine Zm ?_;refine Za ?_;refine Za ?_;refine bl 0 1 4 5 6 21 (Zt (Cd.ret ?_));refine dO ?_;simp at h;exact⟨tr (xC (by omega) (by omega)) (by omega),Grow.refl _⟩
theorem neg_num (a:Int)(w:World)(ha:bw a):
  Calls Tryz.prog 250 #[.int .i64 a] w fun e w'=>e= .returned (.tuple #[.int .i64 (eu (-a)), .bool (fits (-a))])∧Grow w w':=by
 obtain⟨ha0,ha1⟩:=ha;refine Zs 8 Tryz.func250 ?_;refine aj ?_;refine Za ?_;refine Za ?_;refine bu 0 2 3 (aJ (aj ?_));refine Zm ?_;refine bq ?_;refine aZ 0 2 3 5 (Zt ?_);refine Cd.au rfl (fun h=> ?_) (fun h=> ?_)
 ·skip
  refine aj ?_;refine Za ?_;refine Za ?_;refine aZ 0 2 3 5 (Zt (Cd.ret (ab.af ?_)));refine dO ?_;exact⟨tp (pr (by omega)),Grow.refl _⟩
 ·skip
  refine Cd.skip (aB ?_);refine Zm ?_;refine Zv (aa.neg rfl rfl (iR (by omega) (by omega))) ?_;refine Za ?_;refine Za ?_;refine aZ 0 2 3 5 (Zt (Cd.ret ?_));refine dO ?_;exact⟨tr (xC (by omega) (by omega)) (by omega),Grow.refl _⟩
theorem Bv (a b:Int):As (decide (decide (a<0)≠decide (b<0))) (a.natAbs*b.natAbs)=a*b:=by
 unfold As;rw[Int.natCast_mul]
 by_cases ha:a<0
 ·have ea:(a.natAbs:Int)= -a:=by omega
  by_cases hb:b<0
  ·have eb:(b.natAbs:Int)= -b:=by omega
   rw[ea,eb,Int.neg_mul_neg];simp[ha,hb]
  ·have eb:(b.natAbs:Int)=b:=by omega
   rw[ea,eb,Int.neg_mul,Int.neg_neg];simp[ha,hb]
 ·have ea:(a.natAbs:Int)=a:=by omega
  by_cases hb:b<0
  ·have eb:(b.natAbs:Int)= -b:=by omega
   rw[ea,eb,Int.mul_neg,Int.neg_neg];simp[ha,hb]
  ·have eb:(b.natAbs:Int)=b:=by omega
   rw[ea,eb];simp[ha,hb]
theorem Dh (a b:Int)(w:World)(ha:bw a)(hb:bw b):
  Calls Tryz.prog 248 #[.int .i64 a, .int .i64 b] w fun e w'=>e= .returned (.tuple #[.int .i64 (eu (a*b)), .bool (fits (a*b))])∧Grow w w':=by
 have bel:=Below.refl w.heap.size w
 have hm:a.natAbs*b.natAbs<340282366920938463463374607431768211456:=by
  have h1:=ha.1;have h2:=ha.2;have h3:=hb.1;have h4:=hb.2;have:=Nat.mul_le_mul (show a.natAbs≤9223372036854775808 by omega) (show b.natAbs≤9223372036854775808 by omega);omega
 refine Zs 18 Tryz.func248 ?_;refine aj ?_;refine Za ?_;refine Za ?_;refine aZ 0 1 4 5 (aB ?_);refine Zm ?_;refine Zm ?_;refine Zc (Ze Tryz.func254) (tX a b _ ha hb) ?_;rintro e w4 ⟨rfl,hb4⟩;refine⟨_,rfl,?_⟩;replace bel:=bel.step hb4;refine Zc (Ze Tryz.func255) (xb _ _ _ hm) ?_;rw[Bv];rintro e w5 ⟨v,rfl,hv,hb5⟩;refine⟨_,rfl,?_⟩;replace bel:=bel.step hb5;refine Zm ?_;refine Zx ?_;refine Zx ?_;refine Za ?_;refine Za ?_;refine bl 0 1 4 5 6 7 (aJ (aj ?_));refine Zm ?_;refine iC ?_;refine bp 0 1 4 5 6 7 16 (Zt ?_);refine Cd.cond rfl (fun h=> ?_) (fun h=> ?_)
 ·skip
  refine aj ?_;refine Za ?_;refine Za ?_;refine bp 0 1 4 5 6 7 16 (Zt (Cd.ret (ab.af ?_)));refine dO ?_;simp at h;exact⟨tp h,bel⟩
 ·skip
  refine Cd.skip (aB ?_);refine Zm ?_;refine Za ?_;refine Za ?_;refine bp 0 1 4 5 6 7 16 (Zt (Cd.ret ?_));refine dO ?_;simp at h;exact⟨tr h (hv h),bel⟩
def bE (l:List Nat):List Nat:=if l.head? =some 45 then l.drop 1 else l
theorem pR (F R:List Nat)(c:Nat)(h:c∉F):idx (F++c::R) c=F.length:=by
 induction F with
 |nil=>simp[idx,List.findIdx_cons]
 |cons x F ih=>
  have hx:(x==c)=false:=beq_eq_false_iff_ne.2 (fun e=>h (by simp[e]));have:=ih (fun hm=>h (List.mem_cons_of_mem _ hm));unfold idx at this⊢;rw[List.cons_append,List.findIdx_cons,hx,List.length_cons,←this];rfl
theorem BJ {l:List Nat}{d:Nat}{y:Int}{F B:List Nat}(h:Form l d y F B):(l.head? =some 45↔y<0)∧(46∈bE l↔0<d)∧jt (bE l) 46=F∧kc (bE l) 46=B:=by
 obtain⟨hf,hb,hlen,hpos,hlead,hval,heq⟩:=h;have hF46:46∉F:=fun hm=>by have:=hf 46 hm;unfold js at this;omega
 have hh:(l.head? =some 45)↔y<0:=by
  rw[heq];unfold qP
  by_cases hx:y<0
  ·simp[hx]
  ·cases F with
   |nil=>simp at hpos
   |cons c F=>
    have:=hf c (List.mem_cons_self ..);unfold js at this;simp[hx];omega
 have hr:bE l=F++(if 0<d then 46::B else []):=by
  unfold bE
  by_cases hx:y<0
  ·rw[if_pos (hh.2 hx),heq]
   unfold qP;rw[if_pos hx];rfl
  ·rw[if_neg (fun h=>hx (hh.1 h)),heq]
   unfold qP;rw[if_neg hx];rfl
 refine⟨hh,?_,?_,?_⟩
 ·rw[hr]
  by_cases hd:0<d
  ·simp[hd]
  ·simp[hd,hF46]
 ·rw[hr]
  unfold jt
  by_cases hd:0<d
  ·rw[if_pos hd,if_pos (by simp),pR _ _ _ hF46,List.take_left]
  ·rw[if_neg hd,List.append_nil,if_neg hF46]
 ·rw[hr]
  unfold kc
  by_cases hd:0<d
  ·rw[if_pos hd,if_pos (by simp),pR _ _ _ hF46,←List.drop_drop,List.drop_left]
   rfl
  ·rw[if_neg hd,List.append_nil,if_neg hF46]
   exact(List.eq_nil_of_length_eq_zero (by omega)).symm
theorem Ce {l:List Nat}{d:Nat}{x:Int}(hp:46∈bE l↔0<d)(hb:(kc (bE l) 46).length=d)(hf:0<(jt (bE l) 46).length)(hlead:1<(jt (bE l) 46).length→(jt (bE l) 46)[0]? ≠some 48)
  (hdg:∀c∈jt (bE l) 46++kc (bE l) 46,js c) (hx:dQ (jt (bE l) 46++kc (bE l) 46)=x.natAbs) (hs:x<0↔l.head? =some 45):Form l d x (jt (bE l) 46) (kc (bE l) 46):=by
 refine⟨fun c hc=>hdg c (List.mem_append_left _ hc),fun c hc=>hdg c (List.mem_append_right _ hc),hb,hf,hlead,hx,?_⟩
 have hr:bE l=jt (bE l) 46++(if 0<d then 46::kc (bE l) 46 else []):=by
  by_cases hd:0<d
  ·have hm:=hp.2 hd
   unfold jt kc;rw[if_pos hm,if_pos hm,if_pos hd];exact(nu _ _ hm).2.2
  ·have hm:¬46∈bE l:=fun h=>hd (hp.1 h)
   unfold jt;rw[if_neg hm,if_neg hd,List.append_nil]
 unfold qP;rw[←hr];unfold bE
 by_cases h:l.head? =some 45
 ·rw[if_pos (hs.2 h),if_pos h]
  cases l with
  |nil=>simp at h
  |cons c l=>simp at h;subst h;rfl
 ·rw[if_neg (fun h0=>h (hs.1 h0)),if_neg h]
  rfl
def Dv (l:List Nat)(d x:Int)(b:Bool):Prop:=
 (b=true→0≤d∧d≤9∧bw x∧∃F B,Form l d.toNat x F B)∧(b=false→x=0∧(0≤d→d≤9→∀y,bw y→∀F B,¬Form l d.toNat y F B))
theorem yN {l:List Nat}(hl:∀x∈l,x<256):∀x∈bE l,x<256:=by
 unfold bE;split
 ·exact fun x hx=>hl x (List.mem_of_mem_drop hx)
 ·exact hl
theorem xa (l:List Nat):(bE l).length≤l.length:=by
 unfold bE;split
 ·rw[List.length_drop];omega
 ·omega
theorem AR {l:List Nat}{c:Nat}:(∀x∈jt l c,x∈l)∧(jt l c).length+(kc l c).length≤l.length:=by
 unfold jt kc
 constructor
 ·split
  ·exact fun x hx=>List.mem_of_mem_take hx
  ·exact fun x hx=>hx
 ·split
  ·rename_i h
   have:=(nu l c h).1;rw[List.length_take,List.length_drop];omega
  ·simp
theorem AF {l:List Nat}{c:Nat}:∀x∈kc l c,x∈l:=by
 unfold kc;split
 ·exact fun x hx=>List.mem_of_mem_drop hx
 ·exact fun x hx=>by simp at hx
set_option maxHeartbeats 1000000 in
theorem xj (l:List Nat)(d:Int)(w:World)(hl:∀x∈l,x<256)(hn:l.length≤9223372036854775807)(hd:bw d):
  Calls Tryz.prog 240 #[.string (strOf l), .int .i64 d] w fun e w'=>∃x b,e= .returned (.tuple #[.int .i64 x, .bool b])∧Dv l d x b∧Grow w w':=by
 have bel:=Below.refl w.heap.size w;refine Zs 95 Tryz.func240 ?_;refine aj ?_;refine Za ?_;refine Za ?_;refine aZ 0 1 4 5 (aJ (aj ?_));refine Zm ?_;refine ff ?_;refine Zm ?_;refine av.start ?_;refine bk (fun hcx=>aa.move rfl rfl) ?_;refine Zn (fun hcx=>aa.gtr rfl rfl rfl) ?_;refine eG ?_;refine aU 0 1 4 5 21 (Zt ?_);refine Cd.cond rfl (fun h=> ?_) (fun h=> ?_)
 ·skip
  refine aj ?_;refine Za ?_;refine Za ?_;refine aU 0 1 4 5 21 (Zt (Cd.ret (ab.af ?_)));refine dO ?_;exact⟨0,false,rfl,⟨fun h=>(by cases h),fun _=>⟨rfl,fun h1 h2=>(by simp at h;omega)⟩⟩,bel⟩
 obtain⟨D,rfl⟩:∃D:Nat,d=(D:Int):=⟨d.toNat,by simp at h;omega⟩;have hD:D≤9:=by simp at h;omega
 clear h;have hno:(∀y,bw y→∀F B,¬Form l D y F B)→Dv l (D:Int) 0 false:=fun h=>⟨fun h=>(by cases h),fun _=>⟨rfl,fun _ _=>by rw[Int.toNat_natCast];exact h⟩⟩;have hrl:=yN hl;have hrn:=xa l;have hrd:(if l.head? =some 45 then l.drop 1 else l)=bE l:=rfl;refine Cd.skip (aB ?_);refine Zm ?_;refine Zc (Ze Tryz.func245) (rp l 45 _ hl (by omega)) ?_;rintro e w2 ⟨rfl,rfl⟩;refine⟨_,rfl,?_⟩;rw[hrd];refine Zm ?_;refine Zx ?_;refine Zx ?_;refine Za ?_;refine Za ?_;refine bp 0 1 4 5 6 7 21 (aB ?_);refine Zm ?_;refine Zc (Ze Tryz.func246) (DC (bE l) 46 _ hrl (by omega) (by omega)) ?_;rintro e w3 ⟨rfl,hb3⟩;refine⟨_,rfl,?_⟩;replace bel:=bel.step hb3;have hA:=AR (l:=bE l) (c:=46);have hB:=AF (l:=bE l) (c:=46);have hFl:∀x∈jt (bE l) 46,x<256:=fun x hx=>hrl x (hA.1 x hx);have hBl:∀x∈kc (bE l) 46,x<256:=fun x hx=>hrl x (hB x hx);have hlen:=hA.2;have hform:=fun y F B (h:Form l D y F B)=>BJ h;have hmk:=fun x=>Ce (l:=l) (d:=D) (x:=x)
 generalize hF:jt (bE l) 46=F at *
 generalize hBd:kc (bE l) 46=B at *
 refine Zm ?_;refine Zx ?_;refine Zx ?_;refine Zx ?_;refine Za ?_;refine Za ?_;refine Za ?_;refine ed 0 1 4 5 6 7 8 9 10 21 (aJ (aj ?_));refine Zm ?_;refine Zm ?_;refine tU ?_;refine Zv (aa.Dj rfl rfl rfl Tryz.underlying4) ?_;refine Zm ?_;refine av.start ?_;refine bk (fun hcx=>aa.move rfl rfl) ?_;refine Zn (fun hcx=>aa.eB rfl rfl Tryz.underlying9) ?_;refine jl ?_;refine Zn (fun hcx=>aa.cz rfl rfl rfl) ?_;refine eG ?_;refine Zm ?_;refine av.start ?_;refine bk (fun hcx=>aa.move rfl rfl) ?_;refine Zn (fun hcx=>aa.dq (a:=F) (b:=[]) rfl rfl rfl hFl (fun x hx=>by simp at hx)) ?_;refine eG ?_;refine Zm ?_;refine av.start ?_;refine bk (fun hcx=>aa.move rfl rfl) ?_;refine Zn (fun hcx=>aa.eB rfl rfl Tryz.underlying9) ?_;refine Zn (fun hcx=>aa.gtr rfl rfl rfl) ?_;refine jl ?_;refine bk (fun hcx=>aa.move rfl rfl) ?_
 have hF0:1<F.length→F[0]? =some (F.getD 0 0):=by
  intro h
  cases F with
  |nil=>simp at h
  |cons c F=>rfl
 have hF1:F.getD 0 0<256:=by
  cases F with
  |nil=>simp
  |cons c F=>exact hFl c (by simp)
 refine Zn (fun hcx=>aa.gg (l:=F) (j:=0) (c:=F.getD 0 0) rfl rfl rfl Tryz.underlying9 rfl (hF0 (by simp at hcx;omega)) hF1) ?_;refine Zn (fun hcx=>aa.fm rfl rfl rfl) ?_;refine av.pN rfl rfl rfl rfl rfl rfl rfl rfl rfl rfl rfl ?_;refine eG ?_;refine bT 0 1 4 5 6 7 8 9 10 21 56 (Zt ?_)
 generalize hf0:F.getD 0 0=f0 at *
 have hiff:(decide (46∈bE l)=decide ((0:Int)<(D:Int)))↔(46∈bE l↔0<D):=by
  rw[decide_eq_decide]
  constructor<;>intro h<;>rw[h]<;>omega
 have hnil:F=[]↔F.length=0:=by cases F<;>simp
 refine Cd.cond rfl (fun h=> ?_) (fun h=> ?_)
 ·have hbad:∀y,bw y→∀F B,¬Form l D y F B:=by
   intro y _ F' B' hfm;obtain⟨-,e2,rfl,rfl⟩:=hform y F' B' hfm;have e3:=hfm.len;have e4:=hfm.pos;have e5:1<F.length→f0≠48:=fun h1 h2=>hfm.lead h1 (by rw[hF0 h1,h2]);have e6:=hiff.2 e2;have e7:F≠ []:=fun h=>by rw[h] at e4;simp at e4
   simp only[e6,e3] at h;simp[e7] at h;omega
  refine aj ?_;refine Za ?_;refine Za ?_;refine bT 0 1 4 5 6 7 8 9 10 21 56 (Zt (Cd.ret (ab.af ?_)));refine dO ?_;exact⟨0,false,rfl,hno hbad,bel⟩
 have hok:(46∈bE l↔0<D)∧B.length=D∧0<F.length∧(1<F.length→F[0]? ≠some 48):=by
  simp only[Bool.or_eq_false_iff,Bool.and_eq_false_iff,decide_eq_false_iff_not,ne_eq,Decidable.not_not] at h;obtain⟨⟨⟨k1,k2⟩,k3⟩,k4⟩:=h;refine⟨hiff.1 k1,by omega,by have:=mt hnil.2 k3;omega,fun h1 h2=> ?_⟩;rw[hF0 h1] at h2;injection h2 with h2
  omega
 obtain⟨k1,k2,k3,k4⟩:=hok;replace hmk:=fun x=>hmk x k1 k2 k3 k4
 have hM:∀x∈F++B,x<256:=fun x hx=>by
  rcases List.mem_append.1 hx with h|h
  ·exact hFl x h
  ·exact hBl x h
 have hMl:(F++B).length≤9223372036854775807:=by rw[List.length_append];omega
 have hfm:∀y,∀F' B',Form l D y F' B'→(∀c∈F++B,js c)∧dQ (F++B)=y.natAbs∧(l.head? =some 45↔y<0):=by
  intro y F' B' hf;obtain⟨e1,-,rfl,rfl⟩:=hform y F' B' hf
  exact⟨fun c hc=>by
   rcases List.mem_append.1 hc with h|h
   ·exact hf.f c h
   ·exact hf.b c h,hf.val,e1⟩
 have hFB:F.length+B.length≤9223372036854775807:=by omega
 clear h hform hF0 hF1 hf0 hiff hnil;refine Cd.skip (aB ?_);refine Za ?_;refine eS 0 1 4 5 6 7 8 9 10 11 21 56 (aJ (aj ?_));refine Zm ?_;refine Zm ?_;refine Zv (aa.rC rfl rfl rfl hFB) ?_
 generalize F++B=M at *
 refine Seq.xf rfl rfl Tryz.underlying9 Tryz.underlying64 Tryz.underlying5 hM rfl rfl rfl ?_;intro g60 c60 w60 hc60 n60;replace bel:=bel.step n60.below;have hrd60:=n60.reads;have hB60:=n60.lt;refine Zv (aa.len rfl rfl Tryz.underlying64) ?_;refine Zm ?_;refine CX 0 1 4 5 6 7 8 9 10 11 21 56 60 61 62 (Zt (Cd.block ?_))
 refine Cd.loop (σ:=Nat) (fun k=>[(7, .bool (decide (l.head? =some 45))),(11, .int .i64 (-((dQ (M.take k):Nat):Int))),(60, .slice (some ⟨g60,0,none⟩) M.length c60),(61, .int .i64 (M.length:Int)),(62, .int .i64 (k:Int))])
  (fun k wr=>k≤M.length∧(∀c∈M.take k,js c)∧dQ (M.take k)≤9223372036854775808∧Below w.heap.size w wr∧Below w60.heap.size w60 wr) (fun k=>M.length-k) 0 ⟨by omega,by simp,by simp[dQ],bel,Below.refl _ _⟩ ⟨rfl,rfl,rfl,rfl,rfl,trivial⟩ ?_
 clear bel;rintro k wr ⟨hk,hdg,hv,bel,bl60⟩;refine aj ?_;refine ff ?_;refine bl 7 11 60 61 62 63 (aJ ?_);refine Cd.au rfl (fun hc=> ?_) (fun hc=> ?_)
 ·obtain⟨c,hc⟩:∃c,M[k]? =some c:=⟨_,List.getElem?_eq_getElem (show k<M.length by omega)⟩
  have hc256:=hM c (List.mem_of_getElem? hc)
  have hcell:wr.cell? (Addr.add ⟨g60,0,none⟩ k)=some (.int .u8 (c:Int)):=by
   obtain⟨ad,e,hb,hcs⟩:=hrd60.2 (by omega);injection e with e
   subst e;rw[bl60.cell (by rw[ag];exact hB60)];exact hcs k _ (by rw[nt,hc];rfl)
  have htk:M.take (k+1)=M.take k++[c]:=by rw[List.take_add_one,hc];rfl
  have hvs:dQ (M.take (k+1))=10*dQ (M.take k)+(c-48):=by rw[htk,se]
  have hvl:=yn M (k+1)
  have hbig:9223372036854775808<dQ M→∀y,bw y→∀F B,¬Form l D y F B:=fun h y hy F' B' hf=>by
   obtain⟨-,e2,-⟩:=hfm y F' B' hf;unfold bw at hy;omega
  generalize hV:dQ (M.take k)=V at *
  refine Cd.skip (aJ (Cd.block (aj ?_)));refine Zv (aa.dg rfl rfl rfl Tryz.underlying64 (by kernel_rfl) (j:=k) rfl (by omega)) ?_;refine Zv (aa.dF rfl rfl Tryz.underlying5 rfl hcell) ?_;refine Za ?_;refine bp 7 11 13 60 61 62 63 (aJ (aj ?_));refine Zm ?_;refine Zc (Ze Tryz.func247) (yh c _) ?_;rintro e w5 ⟨rfl,rfl⟩;refine⟨_,rfl,?_⟩;refine iC ?_;refine cn 7 11 13 60 61 62 63 68 (Zt ?_);refine Cd.cond rfl (fun h=> ?_) (fun h=> ?_)
  ·have hnd:∀y,bw y→∀F B,¬Form l D y F B:=fun y _ F' B' hf=>by
    have:=(hfm y F' B' hf).1 c (List.mem_of_getElem? hc);unfold js at this;simp at h;omega
   refine aj ?_;refine Za ?_;refine Za ?_;refine ed 4 5 7 11 13 60 61 62 63 68 (Zt (Cd.ret (ab.af (ab.ah (ab.af (ab.aL (ab.ah (ab.af ?_))))))));refine dO ?_;exact⟨0,false,rfl,hno hnd,bel⟩
  have hcd:js c:=by unfold js;simp at h;omega
  have hcd2:=hcd;unfold js at hcd2;clear h;refine Cd.skip (aB ?_);refine Zm ?_;refine Zc (Ze Tryz.func248) (Dh (-(V:Int)) 10 _ (by unfold bw;omega) (by unfold bw;omega)) ?_;rintro e w6 ⟨rfl,hb6⟩;refine⟨_,rfl,?_⟩;replace bel:=bel.step hb6;refine Zm ?_;refine Zx ?_;refine Zx ?_;refine Za ?_;refine Za ?_;refine ed 7 11 13 14 15 60 61 62 63 68 (aJ (aj ?_));refine Zm ?_;refine iC ?_;refine bT 7 11 13 14 15 60 61 62 63 68 75 (Zt ?_);refine Cd.cond rfl (fun h=> ?_) (fun h=> ?_)
  ·have hbg:9223372036854775808<10*V:=by
    unfold fits at h;simp at h;omega
   refine aj ?_;refine Za ?_;refine Za ?_;refine eN 4 5 7 11 13 14 15 60 61 62 63 68 75 (Zt (Cd.ret (ab.af (ab.ah (ab.af (ab.aL (ab.ah (ab.af ?_))))))));refine dO ?_;exact⟨0,false,rfl,hno (hbig (by omega)),bel⟩
  have hft:fits (-(V:Int)*10)=true:=by simpa using h
  have hsm:eu (-(V:Int)*10)= -(V:Int)*10:=by unfold eu;rw[hft];rfl
  have hft2:10*V≤9223372036854775808:=by unfold fits at hft;simp at hft;omega
  rw[hsm];clear h;refine Cd.skip (aB ?_);refine Zm ?_;refine Zm ?_;refine Zv (aa.DB rfl rfl rfl (qJ (by omega) (by omega))) ?_;refine Zv (aa.fJ rfl rfl Tryz.underlying5 Tryz.underlying2 (iR (by omega) (by omega))) ?_;refine Zc (Ze Tryz.func249) (Cs (-(V:Int)*10) ((c:Int)-48) _ (by unfold bw;omega) (by unfold bw;omega)) ?_;rintro e w7 ⟨rfl,hb7⟩;refine⟨_,rfl,?_⟩;replace bel:=bel.step hb7;refine Zm ?_;refine Zx ?_;refine Zx ?_;refine Za ?_;refine Za ?_;refine bT 7 11 13 14 15 60 61 62 63 68 75 (aB ?_);refine Zm ?_;refine iC ?_;refine eS 7 11 13 14 15 60 61 62 63 68 75 85 (Zt ?_);refine Cd.cond rfl (fun h=> ?_) (fun h=> ?_)
  ·have hbg:9223372036854775808<10*V+(c-48):=by
    unfold fits at h;simp at h;omega
   refine aj ?_;refine Za ?_;refine Za ?_;refine jc 4 5 7 11 13 14 15 60 61 62 63 68 75 85 (Zt (Cd.ret (ab.ah (ab.af (ab.aL (ab.ah (ab.af ?_)))))));refine dO ?_;exact⟨0,false,rfl,hno (hbig (by omega)),bel⟩
  have hft3:fits (-(V:Int)*10+ -((c:Int)-48))=true:=by simpa using h
  have hsm2:eu (-(V:Int)*10+ -((c:Int)-48))= -(V:Int)*10+ -((c:Int)-48):=by unfold eu;rw[hft3];rfl
  have hft4:10*V+(c-48)≤9223372036854775808:=by unfold fits at hft3;simp at hft3;omega
  rw[hsm2];clear h;refine Cd.skip (ab.ai (dU ?_));refine dt ?_;refine Zm ?_;refine eS 7 11 13 14 15 60 61 62 63 68 75 85 ?_;refine ab.round (k+1) ⟨rfl,congrArg (fun x=>some (Value.int .i64 x)) (show(-(V:Int)*10+ -((c:Int)-48))= -((dQ (M.take (k+1)):Nat):Int) by omega),rfl,rfl,rfl,trivial⟩ ⟨by omega,?_,by omega,bel,(bl60.step hb6).step hb7⟩ (by omega);intro x hx;rw[htk] at hx;rcases List.mem_append.1 hx with h|h
  ·exact hdg x h
  ·simp at h;subst h;exact hcd
 ·obtain rfl:k=M.length:=by omega
  rw[List.take_of_length_le (Nat.le_refl _)] at hdg hv⊢;replace hmk:=fun x=>hmk x hdg
  generalize dQ M=V at *
  refine Cd.exit (ab.aA (ab.ay (ab.az (aJ (aj ?_)))));refine Zm ?_;refine bp 7 11 60 61 62 63 87 (Zt ?_);refine Cd.au rfl (fun h=> ?_) (fun h=> ?_)
  ·skip
   refine aj ?_;refine Zm ?_;refine Zm ?_;refine ff ?_;refine Za ?_;refine Za ?_;refine du 4 5 7 11 60 61 62 63 87 (Zt (Cd.ret (ab.af ?_)));refine dO ?_;refine⟨_,_,rfl,⟨fun hb=> ?_,fun hb=> ?_⟩,bel⟩
   ·have hb':0<V:=by simpa using hb
    refine⟨by omega,by omega,by unfold bw;omega,_,_,hmk (-(V:Int)) (by omega) ⟨fun _=>h,fun _=>by omega⟩⟩
   ·have hb':V=0:=by simp at hb;omega
    subst hb';refine⟨rfl,fun _ _ y hy F' B' hf=> ?_⟩;obtain⟨-,e2,e3⟩:=hfm y F' B' (by rwa [Int.toNat_natCast] at hf);have:=e3.1 h;omega
  ·skip
   refine Cd.skip (aB ?_);refine Zm ?_;refine Zc (Ze Tryz.func250) (neg_num (-(V:Int)) _ (by unfold bw;omega)) ?_;rintro e w9 ⟨rfl,hb9⟩;refine⟨_,rfl,?_⟩;replace bel:=bel.step hb9;refine Zx ?_;refine Zx ?_;refine Za ?_;refine Za ?_;refine du 4 5 7 11 60 61 62 63 87 (Zt (Cd.ret ?_));refine dO ?_;refine⟨_,_,rfl,⟨fun hb=> ?_,fun hb=> ?_⟩,bel⟩
   ·have hsm:eu (-(-(V:Int)))=(V:Int):=by unfold eu;rw[hb,if_pos rfl,Int.neg_neg]
    rw[hsm];unfold fits at hb;simp at hb;refine⟨by omega,by omega,by unfold bw;omega,_,_,hmk (V:Int) (by omega) ⟨fun h0=>by omega,fun h0=>absurd h0 h⟩⟩
   ·have hsm:eu (-(-(V:Int)))=0:=by unfold eu;rw[hb];rfl
    refine⟨hsm,fun _ _ y hy F' B' hf=> ?_⟩;obtain⟨-,e2,e3⟩:=hfm y F' B' (by rwa [Int.toNat_natCast] at hf);have:¬y<0:=fun h0=>h (e3.2 h0);unfold fits at hb;simp at hb;unfold bw at hy;omega
def ml (c:Nat):Bool:=(decide (97≤c)&&decide (c≤122))||(decide (65≤c)&&decide (c≤90))
def ir (c:Nat):Bool:=decide (48≤c)&&decide (c≤57)
def bn (c:Nat):Bool:=ml c||ir c||decide (c=95)
def runN (p:Nat→Bool):List Nat→Nat
 | []=>0
 |c::l=>if p c then runN p l+1 else 0
theorem jP (p:Nat→Bool):∀l,runN p l≤l.length
 | []=>Nat.le_refl _
 |c::l=>by
  unfold runN;split
  ·have:=jP p l;simp;omega
  ·simp
theorem pO (p:Nat→Bool):∀(l:List Nat),∀c∈l.take (runN p l),p c=true
 | [],c,h=>by simp at h
 |d::l,c,h=>by
  unfold runN at h;split at h
  ·rename_i hd
   rw[List.take_succ_cons] at h;rcases List.mem_cons.1 h with rfl|h
   ·exact hd
   ·exact pO p l c h
  ·simp at h
theorem si (p:Nat→Bool):∀(l:List Nat) c,l[runN p l]? =some c→p c=false
 | [],c,h=>by simp at h
 |d::l,c,h=>by
  unfold runN at h;split at h
  ·exact si p l c (by simpa using h)
  ·rename_i hd
   simp at h;subst h
   simpa using hd
def jI (c:Nat):Bool:=decide (c=32)||decide (c=9)||decide (c=10)
def ie (c:Nat):Bool:=decide (c≠10)
def dY:List Nat→Bool→Nat
 | [],_=>0
 |c::l,true=>if c=10 then dY l false+1 else dY l true+1
 |c::l,false=>if jI c then dY l false+1 else if c=35 then dY l true+1 else 0
def cH (l:List Nat):Nat:=dY l false
theorem jq:∀l b,dY l b≤l.length
 | [],_=>Nat.le_refl _
 |c::l,true=>by unfold dY;have:=jq l true;have:=jq l false;split<;>simp<;>omega
 |c::l,false=>by unfold dY;have:=jq l true;have:=jq l false;split;simp;omega;split<;>simp<;>omega
theorem vJ (c:Nat)(l:List Nat):dY (c::l) true=if c=10 then dY l false+1 else dY l true+1:=by rw[dY]
theorem qK (c:Nat)(l:List Nat):dY (c::l) false=if jI c then dY l false+1 else if c=35 then dY l true+1 else 0:=by rw[dY]
theorem gf (p:Nat→Bool)(c:Nat)(l:List Nat):runN p (c::l)=if p c then runN p l+1 else 0:=rfl
theorem oe:∀l,dY l true=runN ie l+dY (l.drop (runN ie l)) false
 | []=>rfl
 |c::l=>by
  rw[vJ,gf]
  by_cases hc:c=10
  ·subst hc
   have:ie 10=false:=by decide
   rw[if_pos rfl,this,if_neg (by simp),List.drop_zero,qK,if_pos (by decide)];omega
  ·have:ie c=true:=by simp[ie,hc]
   rw[if_neg hc,this,if_pos rfl,oe l,List.drop_succ_cons];omega
theorem uJ (c:Nat)(r:List Nat):cH (c::r)=if jI c then cH r+1 else if c=35 then runN ie (c::r)+cH ((c::r).drop (runN ie (c::r))) else 0:=by
 unfold cH;rw[qK];split
 ·rfl
 ·split
  ·rename_i hc
   subst hc;have:ie 35=true:=by decide
   rw[oe,gf,this,if_pos rfl,List.drop_succ_cons];omega
  ·rfl
theorem kY (l:List Nat):cH l≤l.length:=jq l false
theorem me (c:Nat)(w:World):Calls Tryz.prog 101 #[.int .u8 (c:Int)] w fun e w'=>e= .returned (.bool (ml c))∧Grow w w':=by
 have bel:=Below.refl w.heap.size w;refine Zs 17 Tryz.func101 ?_;refine aj ?_;refine Za ?_;refine dM 0 2 (aB ?_);refine Zm ?_;refine mz ?_;refine Zm ?_;refine av.start ?_;refine bk (fun hcx=>aa.move rfl rfl) ?_;refine Zn (fun hcx=>aa.leq rfl rfl rfl) ?_;refine ep ?_;refine Zm ?_;refine av.start ?_;refine bk (fun hcx=>aa.move rfl rfl) ?_;refine Zn (fun hcx=>aa.geq rfl rfl rfl) ?_;refine jl ?_;refine bk (fun hcx=>aa.move rfl rfl) ?_;refine Zn (fun hcx=>aa.leq rfl rfl rfl) ?_;refine av.pN rfl rfl rfl rfl rfl rfl rfl rfl rfl rfl rfl ?_;refine eG ?_;refine Za ?_;refine dM 0 2 (Zt (Cd.ret ?_));refine aX ?_;refine⟨aW (aF ?_),bel⟩;unfold ml;rw[Bool.eq_iff_iff];simp;omega
theorem qQ (c:Nat)(w:World):Calls Tryz.prog 145 #[.int .u8 (c:Int)] w fun e w'=>e= .returned (.bool (ir c))∧Grow w w':=by
 have bel:=Below.refl w.heap.size w;refine Zs 9 Tryz.func145 ?_;refine aj ?_;refine Za ?_;refine dM 0 2 (aB ?_);refine Zm ?_;refine mz ?_;refine Zm ?_;refine av.start ?_;refine bk (fun hcx=>aa.move rfl rfl) ?_;refine Zn (fun hcx=>aa.leq rfl rfl rfl) ?_;refine ep ?_;refine Za ?_;refine dM 0 2 (Zt (Cd.ret ?_));refine aX ?_;refine⟨aW (aF ?_),bel⟩;unfold ir;rw[Bool.eq_iff_iff];simp;omega
theorem uR (c:Nat)(w:World):Calls Tryz.prog 103 #[.int .u8 (c:Int)] w fun e w'=>e= .returned (.bool (bn c))∧Grow w w':=by
 have bel:=Below.refl w.heap.size w;refine Zs 13 Tryz.func103 ?_;refine aj ?_;refine Za ?_;refine dM 0 2 (aB ?_);refine Zm ?_;refine Zc (Ze Tryz.func101) (me c _) ?_;rintro e w2 ⟨rfl,hb2⟩;refine⟨_,rfl,?_⟩;replace bel:=bel.step hb2;refine Zm ?_;refine av.start ?_;refine bk (fun hcx=>aa.move rfl rfl) ?_;refine av.bj rfl rfl rfl rfl rfl rfl rfl (fun hcx=>Ze Tryz.func145) (fun hcx=>qQ c _) ?_;intro w1 hw1;replace bel:=bel.step hw1;refine eG ?_;refine Zm ?_;refine av.start ?_;refine bk (fun hcx=>aa.move rfl rfl) ?_;refine Zn (fun hcx=>aa.fm rfl rfl rfl) ?_;refine eG ?_;refine Za ?_;refine dM 0 2 (Zt (Cd.ret ?_));refine aX ?_;refine⟨aW (aF ?_),bel⟩;unfold bn;rw[show decide ((c:Int)=95)=decide (c=95) from decide_eq_decide.2 (by omega)]
theorem Bo (c:Nat)(w:World):Calls Tryz.prog 230 #[.int .u8 (c:Int)] w fun e w'=>e= .returned (.bool (ie c))∧Grow w w':=by
 have bel:=Below.refl w.heap.size w;refine Zs 5 Tryz.func230 ?_;refine aj ?_;refine Za ?_;refine dM 0 2 (aB ?_);refine Zm ?_;refine kL ?_;refine Za ?_;refine dM 0 2 (Zt (Cd.ret ?_));refine aX ?_;refine⟨aW (aF ?_),bel⟩;unfold ie;exact decide_eq_decide.2 (by omega)
theorem sn (p:Nat→Bool)(l:List Nat)(k:Nat)(h:k≤runN p l)(c:Nat)(hc:l[k]? =some c):(p c=true↔k<runN p l):=by
 constructor
 ·intro hp
  rcases Nat.lt_or_ge k (runN p l) with h1|h1
  ·exact h1
  ·obtain rfl:k=runN p l:=by omega
   rw[si p l c hc] at hp;cases hp
 ·intro h1
  refine pO p l c ?_;refine List.mem_of_getElem? (i:=k) ?_;rw[List.getElem?_take_of_lt h1];exact hc
theorem xS (f:FuncId)(p:Nat→Bool)(eg:∀args w,(callFunc f args).run Tryz.prog w= .ok (.enter f args) w)(hp:∀(c:Nat) w,Calls Tryz.prog f #[.int .u8 (c:Int)] w fun e w'=>e= .returned (.bool (p c))∧Grow w w')
  (l:List Nat) (w:World) (hl:∀x∈l,x<256) (hlen:l.length≤9223372036854775807):
  Calls Tryz.prog 102 #[.string (strOf l), .func (.func f) #[] #[]] w fun e w'=>e= .returned (.int .i64 (runN p l:Int))∧Grow w w':=by
 have bel:=Below.refl w.heap.size w;have hle:=jP p l;refine Zs 20 Tryz.func102 ?_;refine aj ?_;refine Za ?_;refine bu 0 1 4 (aB ?_);refine Za ?_;refine aZ 0 1 4 5 (aJ (Cd.block ?_));refine Cd.loop (σ:=Nat) (fun k=>[(0, .string (strOf l)),(1, .func (.func f) #[] #[]),(5, .int .i64 (k:Int))]) (fun k wr=>k≤runN p l∧Below w.heap.size w wr) (fun k=>runN p l-k) 0 ⟨Nat.zero_le _,bel⟩ ⟨rfl,rfl,rfl,trivial⟩ ?_;clear bel;rintro k wr ⟨hk,bel⟩;refine Cd.seq (aj ?_);refine Zm ?_;refine Zm ?_;refine Zv (aa.eB rfl rfl Tryz.underlying9) ?_
 by_cases hi:k<l.length
 ·obtain⟨c,hc⟩:∃c,l[k]? =some c:=⟨_,List.getElem?_eq_getElem hi⟩
  have hc256:=hl c (List.mem_of_getElem? hc);have hup:=sn p l k hk c hc;refine Zv ((aa.lss rfl rfl rfl).lI ((by omega))) ?_;refine Zm ?_;refine Seq.aC (aa.move rfl rfl) rfl rfl rfl rfl rfl ?_;refine Seq.aC (aa.move rfl rfl) rfl rfl rfl rfl rfl ?_;refine Seq.aC (aa.move rfl rfl) rfl rfl rfl rfl rfl ?_;refine Seq.aC (aa.gg (l:=l) (j:=k) rfl rfl rfl Tryz.underlying9 rfl hc hc256) rfl rfl rfl rfl rfl ?_;refine Seq.kE (Enters.value (first:=[]) (cap:=[]) rfl rfl rfl eg) rfl rfl rfl rfl rfl (hp c _) ?_;rintro e w3 ⟨rfl,hb3⟩;refine⟨_,rfl,?_⟩;replace bel:=bel.step hb3;refine Zv (aa.bZ rfl rfl rfl) ?_;refine aZ 0 1 5 16 (Zt ?_);refine Cd.cond rfl (fun h=> ?_) (fun h=> ?_)
  ·have hlt:=hup.1 h
   refine Cd.skip (Zt (Cd.block (Zr ?_)));refine Zm ?_;refine dt ?_;refine Za ?_;refine aZ 0 1 5 16 (ab.ai ?_);exact ab.round (k+1) ⟨rfl,rfl,rfl,trivial⟩ ⟨by omega,bel⟩ (by omega)
  ·have hk2:runN p l=k:=by
    rcases Nat.lt_or_ge k (runN p l) with h1|h1
    ·have:=hup.2 h1
     rw[h] at this;cases this
    ·omega
   rw[hk2];refine Cd.exit (ab.aA (ab.ay (ab.az (aB ?_))));refine Zm ?_;refine Za ?_;refine aU 0 1 4 5 16 (Zt (Cd.ret ?_));refine aX ?_;exact⟨rfl,bel⟩
 ·have hk2:runN p l=k:=by omega
  rw[hk2];refine Zv ((aa.lss rfl rfl rfl).kj ((by omega))) ?_;refine Zm ?_;refine Seq.kJ rfl rfl rfl rfl rfl rfl ?_;refine Seq.kJ rfl rfl rfl rfl rfl rfl ?_;refine Seq.kJ rfl rfl rfl rfl rfl rfl ?_;refine Seq.kJ rfl rfl rfl rfl rfl rfl ?_;refine Seq.kJ rfl rfl rfl rfl rfl rfl ?_;refine Zv (aa.bX rfl rfl rfl) ?_;refine aZ 0 1 5 16 (Zt ?_);refine Cd.aS rfl rfl ?_;refine Cd.exit (ab.aA (ab.ay (ab.az (aB ?_))));refine Zm ?_;refine Za ?_;refine aU 0 1 4 5 16 (Zt (Cd.ret ?_));refine aX ?_;exact⟨rfl,bel⟩
theorem Cv:∀args w,(callFunc 103 args).run Tryz.prog w= .ok (.enter 103 args) w:=fun args w=>aO Tryz.func103 (by kernel_rfl) rfl args w
theorem Cx:∀args w,(callFunc 230 args).run Tryz.prog w= .ok (.enter 230 args) w:=fun args w=>aO Tryz.func230 (by kernel_rfl) rfl args w
theorem qI (l:List Nat)(w:World)(hl:∀x∈l,x<256)(hlen:l.length≤9223372036854775807):
  Calls Tryz.prog 102 #[.string (strOf l), .func (.func 103) #[] #[]] w fun e w'=>e= .returned (.int .i64 (runN bn l:Int))∧Grow w w':=
 xS _ bn Cv uR l w hl hlen
theorem Cj (l:List Nat)(w:World)(hl:∀x∈l,x<256)(hlen:l.length≤9223372036854775807):
  Calls Tryz.prog 102 #[.string (strOf l), .func (.func 230) #[] #[]] w fun e w'=>e= .returned (.int .i64 (runN ie l:Int))∧Grow w w':=
 xS _ ie Cx Bo l w hl hlen
theorem C2 {l:List Nat}{k c:Nat}(h:l[k]? =some c):l.drop k=c::l.drop (k+1):=by
 obtain⟨hk,rfl⟩:=List.getElem?_eq_some_iff.1 h;exact List.drop_eq_getElem_cons hk
theorem oU {l:List Nat}(hl:∀x∈l,x<256)(k:Nat):∀x∈l.drop k,x<256:=fun x hx=>hl x (List.mem_of_mem_drop hx)
theorem tJ {l:List Nat}(hl:∀x∈l,x<256)(k:Nat):∀x∈l.take k,x<256:=fun x hx=>hl x (List.mem_of_mem_take hx)
theorem sr (l:List Nat)(w:World)(hl:∀x∈l,x<256)(hlen:l.length≤9223372036854775807):
  Calls Tryz.prog 205 #[.string (strOf l)] w fun e w'=>e= .returned (.int .i64 (cH l:Int))∧Grow w w':=by
 have bel:=Below.refl w.heap.size w;refine Zs 27 Tryz.func205 ?_;refine aj ?_;refine Za ?_;refine dM 0 2 (aB ?_);refine Za ?_;refine bu 0 2 3 (aJ (Cd.block ?_));refine Cd.loop (σ:=Nat) (fun k=>[(0, .string (strOf l)),(3, .int .i64 (k:Int))]) (fun k wr=>k≤l.length∧cH l=k+cH (l.drop k)∧Below w.heap.size w wr) (fun k=>l.length-k) 0 ⟨Nat.zero_le _,by simp,bel⟩ ⟨rfl,rfl,trivial⟩ ?_;clear bel;rintro k wr ⟨hk,hbl,bel⟩;refine Cd.seq (aj ?_);refine Zm ?_;refine Zm ?_;refine Zv (aa.eB rfl rfl Tryz.underlying9) ?_;refine ff ?_;refine bu 0 3 7 (Zt ?_);refine Cd.au rfl (fun hc=> ?_) (fun hc=> ?_)
 ·obtain⟨c,hcc⟩:∃c,l[k]? =some c:=⟨_,List.getElem?_eq_getElem (show k<l.length by omega)⟩
  have hc256:=hl c (List.mem_of_getElem? hcc);have hdr:=C2 hcc;have hst:=uJ c (l.drop (k+1));rw[←hdr] at hst;refine Cd.skip (Zt (Cd.block (aj ?_)));refine Zm ?_;refine Zm ?_;refine Zv (aa.gg (l:=l) (j:=k) rfl rfl rfl Tryz.underlying9 rfl hcc hc256) ?_;refine aZ 0 3 7 10 (Zt (Cd.block ?_));refine Cd.lC (σ:=Unit) (fun _=>[(0, .string (strOf l)),(3, .int .i64 (k:Int)),(10, .int .u8 (c:Int)),(12, .bool (jI c))]) (fun _ wr=>Below w.heap.size w wr) ?_ ?_
  ·skip
   refine aj ?_;refine bq ?_;refine Za ?_;refine aU 0 3 7 10 12 (Zt ?_);refine Cd.au rfl (fun h=> ?_) (fun h=> ?_)
   ·skip
    refine Cd.skip ?_;exact ab.join () ⟨rfl,rfl,rfl,congrArg (fun z=>some (Value.bool z)) (by unfold jI;rw[decide_eq_true h,decide_eq_true (show c=32 by omega)];rfl),trivial⟩ bel
   ·skip
    refine aj ?_;refine bq ?_;refine Za ?_;refine aU 0 3 7 10 12 (Zt ?_);refine Cd.au rfl (fun h2=> ?_) (fun h2=> ?_)
    ·skip
     refine Cd.skip ?_;exact ab.join () ⟨rfl,rfl,rfl,congrArg (fun z=>some (Value.bool z)) (by unfold jI;rw[decide_eq_true h2,decide_eq_true (show c=9 by omega)];simp),trivial⟩ bel
    ·skip
     refine Zr ?_;refine bq ?_;refine Za ?_;refine aU 0 3 7 10 12 ?_;exact ab.join () ⟨rfl,rfl,rfl,congrArg (fun z=>some (Value.bool z)) (by unfold jI;rw[decide_eq_false (show¬c=32 by omega),decide_eq_false (show¬c=9 by omega)];exact decide_eq_decide.2 (by omega)),trivial⟩ bel
  clear bel;rintro⟨⟩ wr bel;refine Cd.cond rfl (fun h=> ?_) (fun h=> ?_)
  ·rw[h,if_pos rfl] at hst
   refine Zr ?_;refine Zm ?_;refine dt ?_;refine Za ?_;refine aZ 0 3 10 12 (ab.ai (ab.ai ?_));exact ab.round (k+1) ⟨rfl,rfl,trivial⟩ ⟨by omega,by omega,bel⟩ (by omega)
  ·rw[h,if_neg (by simp)] at hst
   refine aj ?_;refine bq ?_;refine Za ?_;refine aU 0 3 10 12 18 (Zt ?_);refine Cd.au rfl (fun h2=> ?_) (fun h2=> ?_)
   ·rw[if_pos (by omega)] at hst
    have hr1:1≤runN ie (l.drop k):=by
     rw[hdr,gf,show c=35 by omega,if_pos (by decide)];omega
    have hr2:=jP ie (l.drop k);rw[List.length_drop] at hr2;rw[List.drop_drop] at hst;refine Zr ?_;refine Zm ?_;refine Zm ?_;refine Zm ?_;refine Zv (aa.sliceFrom (j:=k) rfl rfl rfl Tryz.underlying9 rfl hk) ?_;refine Zc (Ze Tryz.func102) (Cj (l.drop k) _ (oU hl k) (by rw[List.length_drop];omega)) ?_;rintro e w7 ⟨rfl,hb7⟩;refine⟨_,rfl,?_⟩;replace bel:=bel.step hb7
    generalize runN ie (l.drop k)=r at *
    refine dt ?_;refine Za ?_;refine aU 0 3 10 12 18 (ab.ai (ab.ai ?_));exact ab.round (k+r) ⟨rfl,rfl,trivial⟩ ⟨by omega,by omega,bel⟩ (by omega)
   ·rw[if_neg (by omega)] at hst
    have hbk:cH l=k:=by omega
    rw[hbk];refine aj ?_;refine Zm ?_;refine Za ?_;refine bl 0 2 3 10 12 18 (Zt (Cd.ret (ab.ah (ab.ah (ab.aL (ab.ah (ab.af ?_)))))));refine aX ?_;exact⟨rfl,bel⟩
 ·have hbk:cH l=k:=by
   have:l.drop k=[]:=List.drop_eq_nil_of_le (by omega);rw[this] at hbl
   simpa[cH,dY] using hbl
  rw[hbk];refine Cd.exit (ab.aA (ab.ay (ab.az (aB ?_))));refine Zm ?_;refine Za ?_;refine aZ 0 2 3 7 (Zt (Cd.ret ?_));refine aX ?_;exact⟨rfl,bel⟩
def cI (l:List Nat):Bool:=decide (l≠ [])&&decide (l.length≤16)&&ml (l.getD 0 0)&&decide (runN bn l=l.length)
theorem gp (l:List Nat)(w:World)(hl:∀x∈l,x<256)(hlen:l.length≤9223372036854775807):
  Calls Tryz.prog 62 #[.string (strOf l)] w fun e w'=>e= .returned (.bool (cI l))∧Grow w w':=by
 have bel:=Below.refl w.heap.size w
 have h0:l≠ []→l[0]? =some (l.getD 0 0):=by
  intro h
  cases l with
  |nil=>exact absurd rfl h
  |cons c l=>rfl
 have h1:l.getD 0 0<256:=by
  cases l with
  |nil=>simp
  |cons c l=>exact hl c (by simp)
 unfold cI
 generalize l.getD 0 0=c0 at *
 refine Zs 22 Tryz.func62 ?_;refine aj ?_;refine Za ?_;refine dM 0 2 (aB ?_);refine Zm ?_;refine Zv (aa.ku (a:=l) (b:=[]) rfl rfl rfl hl (fun x hx=>by simp at hx)) ?_;refine Zm ?_;refine av.start ?_;refine bk (fun hcx=>aa.move rfl rfl) ?_;refine Zn (fun hcx=>aa.eB rfl rfl Tryz.underlying9) ?_;refine Zn (fun hcx=>aa.leq rfl rfl rfl) ?_;refine ep ?_;refine Zm ?_;refine av.start ?_;refine bk (fun hcx=>aa.move rfl rfl) ?_;refine Zn (fun hcx=>aa.gg (l:=l) (j:=0) (c:=c0) rfl rfl rfl Tryz.underlying9 rfl (h0 (by simp[dx] at hcx;exact hcx.1)) h1) ?_;refine av.bj rfl rfl rfl rfl rfl rfl rfl (fun hcx=>Ze Tryz.func101) (fun hcx=>me _ _) ?_;intro w1 hw1;replace bel:=bel.step hw1;refine ep ?_;refine Zm ?_;refine av.start ?_;refine bk (fun hcx=>aa.move rfl rfl) ?_;refine av.bj rfl rfl rfl rfl rfl rfl rfl (fun hcx=>Ze Tryz.func102) (fun hcx=>qI l _ hl hlen) ?_;intro w2 hw2;replace bel:=bel.step hw2;refine jl ?_;refine Zn (fun hcx=>aa.eB rfl rfl Tryz.underlying9) ?_;refine Zn (fun hcx=>aa.fm rfl rfl rfl) ?_;refine ep ?_;refine Za ?_;refine dM 0 2 (Zt (Cd.ret ?_));refine aX ?_;refine⟨aW (aF ?_),bel⟩;rw[Bool.eq_iff_iff];simp
 constructor
 ·rintro⟨⟨⟨a,b⟩,c⟩,d⟩
  exact⟨⟨⟨a,by omega⟩,c⟩,by omega⟩
 ·rintro⟨⟨⟨a,b⟩,c⟩,d⟩
  exact⟨⟨⟨a,by omega⟩,c⟩,by omega⟩
section
variable {P:Program} {E:Operand→Option Value} {o:Oper} {w:World} {x:Operand} {T:TypeId}
theorem aa.bP {ad:Addr}{m:Nat}{ps:List Value}{d:TypeDesc}(ho:o.op= .load T x)(hx:E x=some (.pointer (some ad)))(hT:P.underlying T=some d)(hd:(match d with| .struct _| .array _ _=>true|_=>false)=true)(hs:dh P T m=true)(hm:ps.length=m)(hc:∀(j:Nat) (v:Value),ps[j]? =some v→w.cell? (ad.add j)=some v):aa P E o w (.agg ps.toArray) w:=by
 obtain⟨i,hi,hsz⟩:=bB hs;exact .An (cs:=ps) ho hx hT hd hi (by omega) hc
end
inductive Ex where
 |mk (op n:Int) (name:List Nat) (args:List Ex)
def Ex.op:Ex→Int| .mk op _ _ _=>op
def Ex.n:Ex→Int| .mk _ n _ _=>n
def Ex.name:Ex→List Nat| .mk _ _ nm _=>nm
def Ex.args:Ex→List Ex| .mk _ _ _ l=>l
mutual
def Ex.nodes:Ex→Nat
 | .mk _ _ _ l=>1+bC l
def bC:List Ex→Nat
 | []=>0
 |e::r=>e.nodes+bC r
end
mutual
def Ex.depth:Ex→Nat
 | .mk _ _ _ l=>1+bD l
def bD:List Ex→Nat
 | []=>0
 |e::r=>max e.depth (bD r)
end
theorem Ex.fR (op n:Int)(nm:List Nat)(l:List Ex):(Ex.mk op n nm l).nodes=1+bC l:=by rw[Ex.nodes]
theorem Ex.ei (op n:Int)(nm:List Nat)(l:List Ex):(Ex.mk op n nm l).depth=1+bD l:=by rw[Ex.depth]
theorem qx {l:List Ex}{e:Ex}(h:e∈l):e.nodes≤bC l:=by
 induction l with
 |nil=>cases h
 |cons x r ih=>
  unfold bC;rcases List.mem_cons.1 h with rfl|h
  ·omega
  ·have:=ih h;omega
theorem Ex.fK {e x:Ex}(h:x∈e.args):x.nodes<e.nodes:=by
 cases e with
 |mk op n nm l=>
  have:=qx (l:=l) h;rw[Ex.fR];omega
theorem Ex.bU (e:Ex):0<e.nodes:=by cases e;unfold Ex.nodes;omega
theorem rb {l:List Ex}{e:Ex}(h:e∈l):e.depth≤bD l:=by
 induction l with
 |nil=>cases h
 |cons x r ih=>
  unfold bD;rcases List.mem_cons.1 h with rfl|h
  ·omega
  ·have:=ih h;omega
theorem Ex.sc {e x:Ex}(h:x∈e.args):x.depth<e.depth:=by
 cases e with
 |mk op n nm l=>
  have:=rb (l:=l) h;rw[Ex.ei];omega
mutual
theorem Ex.bh:∀e:Ex,e.depth≤e.nodes
 | .mk _ _ _ l=>by unfold Ex.depth Ex.nodes;have:=eD l;omega
theorem eD:∀l:List Ex,bD l≤bC l
 | []=>Nat.le_refl _
 |e::r=>by unfold bD bC;have:=Ex.bh e;have:=eD r;omega
end
def Rows (w:World)(S:Nat→Prop)(A:Option Addr)(xs:List Value):Prop:=xs≠ []→∃ad,A=some ad∧S ad.block∧∀(j:Nat) (u:Value),xs[j]? =some u→w.cell? (ad.add j)=some u
inductive cr (w:World)(S:Nat→Prop):Ex→Value→Prop
 |mk {op n:Int} {nm:List Nat} {args:List Ex} {A:Option Addr} {c:Nat} {vs:List Value} (hl:vs.length=args.length) (dX:args.length≤1000) (hop:bw op) (hn:bw n) (hnm:∀d∈nm,d<256) (hnl:nm.length≤9223372036854775807)
   (hr:∀(i:Nat) (e:Ex) (v:Value),args[i]? =some e→vs[i]? =some v→cr w S e v) (hA:Rows w S A (ax vs)):cr w S (.mk op n nm args) (.agg #[.int .i64 op, .int .i64 n, .string (strOf nm), .slice A args.length c])
theorem cr.mono {w w':World}{S S':Nat→Prop}{e:Ex}{v:Value}(h:cr w S e v)(hS:∀b,S b→S' b)(hc:∀p:Addr,S p.block→w'.cell? p=w.cell? p):cr w' S' e v:=by
 induction h with
 |mk hl dX hop hn hnm hnl hr hA ih=>
  refine .mk hl dX hop hn hnm hnl ih fun hne=> ?_;obtain⟨ad,e1,e2,e3⟩:=hA hne;exact⟨ad,e1,hS _ e2,fun j u hu=>(hc _ (by rw[ag];exact e2)).trans (e3 j u hu)⟩
def lE (w:World)(B:Nat)(e:Ex)(v:Value):Prop:=cr w (· <B) e v
theorem lE.below {w w':World}{B:Nat}{e:Ex}{v:Value}(h:lE w B e v)(hb:Below B w w'):lE w' B e v:=cr.mono h (fun _ h=>h) (fun _ hp=>hb.cell hp)
theorem lE.more {w:World}{B B':Nat}{e:Ex}{v:Value}(h:lE w B e v)(hb:B≤B'):lE w B' e v:=cr.mono h (fun _ h=>Nat.lt_of_lt_of_le h hb) (fun _ _=>rfl)
theorem cr.kN {w:World}{S:Nat→Prop}{e:Ex}{v:Value}(h:cr w S e v):v.cells.size=4:=by
 cases h;rfl
theorem dV {vs:List Value}{i:Nat}{v:Value}(hs:∀x∈vs,x.cells.size=4)(h:vs[i]? =some v):∀(j:Nat) (u:Value),v.cells.toList[j]? =some u→(ax vs)[i*4+j]? =some u:=by
 induction vs generalizing i with
 |nil=>cases h
 |cons x r ih=>
  intro j u hj;have hx:x.cells.size=4:=hs x List.mem_cons_self;show(x.cells.toList++ax r)[i*4+j]? =some u
  cases i with
  |zero=>
   injection h with h
   subst h;have:j<x.cells.toList.length:=(List.getElem?_eq_some_iff.1 hj).1;rw[Nat.zero_mul,Nat.zero_add,List.getElem?_append_left this];exact hj
  |succ i=>
   have h2:=ih (fun y hy=>hs y (List.mem_cons_of_mem _ hy)) (by simpa using h) j u hj;have hxl:x.cells.toList.length=4:=by simpa using hx
   rw[List.getElem?_append_right (by rw[hxl];omega),hxl,←h2];congr 1;omega
structure wX (w:World)(B:Nat)(e:Ex)(A:Option Addr)(c:Nat):Prop where
 dX:e.args.length≤1000
 op:bw e.op
 n:bw e.n
 name:∀d∈e.name,d<256
 pU:e.name.length≤9223372036854775807
 arg:∀i x,e.args[i]? =some x→∃ad A' c',A=some ad∧ad.block<B∧lE w B x (.agg #[.int .i64 x.op, .int .i64 x.n, .string (strOf x.name), .slice A' x.args.length c'])∧∀(j:Nat) (u:Value),([.int .i64 x.op, .int .i64 x.n, .string (strOf x.name), .slice A' x.args.length c']:List Value)[j]? =some u→w.cell? ((ad.add (i*4)).add j)=some u
theorem cr.form {w:World}{S:Nat→Prop}{e:Ex}{v:Value}(h:cr w S e v):∃A c,v= .agg #[.int .i64 e.op, .int .i64 e.n, .string (strOf e.name), .slice A e.args.length c]:=by
 cases h;exact⟨_,_,rfl⟩
theorem lE.open {w:World}{B:Nat}{e:Ex}{v:Value}(h:lE w B e v):∃A c,v= .agg #[.int .i64 e.op, .int .i64 e.n, .string (strOf e.name), .slice A e.args.length c]∧wX w B e A c:=by
 have h':cr w (· <B) e v:=h
 cases h' with
 | @mk op n nm args A c vs hl dX hop hn hnm hnl hr hA=>
  refine⟨A,c,rfl,dX,hop,hn,hnm,hnl,fun i x hx=> ?_⟩;have hi:=(List.getElem?_eq_some_iff.1 hx).1;replace hi:i<args.length:=hi;obtain⟨v,hv⟩:∃v,vs[i]? =some v:=⟨_,List.getElem?_eq_getElem (by omega)⟩;have hrx:=hr i x v hx hv
  have h4:∀y∈vs,y.cells.size=4:=fun y hy=>by
   obtain⟨k,hk,rfl⟩:=List.getElem_of_mem hy;obtain⟨z,hz⟩:∃z,args[k]? =some z:=⟨_,List.getElem?_eq_getElem (by omega)⟩;exact(hr k z _ hz (List.getElem?_eq_getElem hk)).kN
  have hne:ax vs≠ []:=by
   intro h0;obtain⟨A',c',rfl⟩:=hrx.form;have:=dV h4 hv 0 _ rfl;rw[h0] at this
   cases this
  obtain⟨ad,rfl,hb,hc⟩:=hA hne;obtain⟨A',c',rfl⟩:=hrx.form;refine⟨ad,A',c',rfl,hb,hrx,fun j u hu=> ?_⟩;rw[bK];exact hc _ _ (dV h4 hv j u (by simpa[Value.cells] using hu))
theorem wX.below {w w':World}{B:Nat}{e:Ex}{A:Option Addr}{c:Nat}(h:wX w B e A c)(hb:Below B w w'):wX w' B e A c:=
 ⟨h.dX,h.op,h.n,h.name,h.pU,fun i x hx=>by
  obtain⟨ad,A',c',e1,e2,e3,e4⟩:=h.arg i x hx;exact⟨ad,A',c',e1,e2,e3.below hb,fun j u hu=>(hb.cell (by rw[ag,ag];exact e2)).trans (e4 j u hu)⟩⟩
def dB (op:Int):Int:=if 1≤op∧op≤4 then 0 else if 5≤op∧op≤18 then 2 else if op=19∨op=20 then 1 else if op=21 then 3 else -1
theorem eo (op:Int)(w:World):Calls Tryz.prog 214 #[.int .i64 op] w fun e w'=>e= .returned (.int .i64 (dB op))∧Grow w w':=by
 have bel:=Below.refl w.heap.size w;refine Zs 27 Tryz.func214 ?_;refine aj ?_;refine Za ?_;refine dM 0 2 (aJ (Cd.block (aj ?_)));refine Zm ?_;refine mz ?_;refine Zm ?_;refine av.start ?_;refine bk (fun hcx=>aa.move rfl rfl) ?_;refine Zn (fun hcx=>aa.leq rfl rfl rfl) ?_;refine ep ?_;refine Za ?_;refine bu 0 2 3 (Zt ?_);refine Cd.cond rfl (fun h=> ?_) (fun h=> ?_)
 ·simp at h
  refine aj ?_;refine Za ?_;refine bu 0 2 3 (Zt (Cd.ret (ab.ah (ab.af ?_))));refine aX ?_;exact⟨aW (int_eq (by unfold dB;rw[if_pos h])),bel⟩
 ·simp at h
  refine aj ?_;refine Zm ?_;refine mz ?_;refine Zm ?_;refine av.start ?_;refine bk (fun hcx=>aa.move rfl rfl) ?_;refine Zn (fun hcx=>aa.leq rfl rfl rfl) ?_;refine ep ?_;refine Za ?_;refine aZ 0 2 3 10 (Zt ?_);refine Cd.cond rfl (fun h2=> ?_) (fun h2=> ?_)
  ·simp at h2
   refine aj ?_;refine Za ?_;refine aZ 0 2 3 10 (Zt (Cd.ret (ab.ah (ab.af ?_))));refine aX ?_;exact⟨aW (int_eq (by unfold dB;rw[if_neg (by omega),if_pos h2])),bel⟩
  ·simp at h2
   refine aj ?_;refine Zm ?_;refine bq ?_;refine Zm ?_;refine av.start ?_;refine bk (fun hcx=>aa.move rfl rfl) ?_;refine Zn (fun hcx=>aa.fm rfl rfl rfl) ?_;refine eG ?_;refine Za ?_;refine aU 0 2 3 10 17 (Zt ?_);refine Cd.cond rfl (fun h3=> ?_) (fun h3=> ?_)
   ·simp at h3
    refine aj ?_;refine Za ?_;refine aU 0 2 3 10 17 (Zt (Cd.ret (ab.ah (ab.af ?_))));refine aX ?_;exact⟨aW (int_eq (by unfold dB;rw[if_neg (by omega),if_neg (by omega),if_pos h3])),bel⟩
   ·simp at h3
    refine aj ?_;refine Zm ?_;refine bq ?_;refine Za ?_;refine bl 0 2 3 10 17 24 (Zt ?_);refine Cd.au rfl (fun hc=> ?_) (fun hc=> ?_)
    ·skip
     refine aj ?_;refine Za ?_;refine bl 0 2 3 10 17 24 (Zt (Cd.ret (ab.ah (ab.af ?_))));refine aX ?_;exact⟨aW (int_eq (by unfold dB;rw[if_neg (by omega),if_neg (by omega),if_neg (by omega),if_pos (by assumption)])),bel⟩
    ·skip
     refine Cd.skip (ab.ai (aB ?_));refine Za ?_;refine bl 0 2 3 10 17 24 (Zt (Cd.ret ?_));refine aX ?_;exact⟨aW (int_eq (by unfold dB;rw[if_neg (by omega),if_neg (by omega),if_neg (by omega),if_neg (by assumption)])),bel⟩
def ew:List (List Nat):=[[122,101,114,111],[111,110,101],[103,105,118,101],[97,110,100],[111,114],[115,99,97,108,101],[119,104,101,110],[117,110,116,105,108],[97,110,121,116,105,109,101],[100,97,121],[109,105,110],[109,97,120],[105,102]]
def dD (l:List Nat):Bool:=ew.any fun x=>decide (l=x)
theorem mE (l:List Nat)(w:World)(hl:∀d∈l,d<256):Calls Tryz.prog 210 #[.string (strOf l)] w fun e w'=>e= .returned (.bool (dD l))∧Grow w w':=by
 have bel:=Below.refl w.heap.size w;refine Zs 18 Tryz.func210 ?_;refine aj ?_;refine Za ?_;refine dM 0 2 (aJ (aj ?_));refine Zm ?_;refine bu 0 2 3 (Zt (Cd.block ?_));refine Cd.lC (σ:=Unit) (fun _=>[(4, .bool (dD l))]) (fun _ wr=>Below w.heap.size w wr) ?_ ?_
 ·skip
  refine aj ?_;refine Zv (aa.dq (a:=l) (b:=[122,101,114,111]) rfl rfl rfl hl (by decide)) ?_;refine Za ?_;refine aZ 0 2 3 4 (Zt ?_);refine Cd.au rfl (fun h0=> ?_) (fun h0=> ?_)
  ·subst h0
   refine Cd.skip ?_;exact ab.join () ⟨rfl,trivial⟩ bel
  ·skip
   refine aj ?_;refine Zv (aa.dq (a:=l) (b:=[111,110,101]) rfl rfl rfl hl (by decide)) ?_;refine Za ?_;refine aZ 0 2 3 4 (Zt ?_);refine Cd.au rfl (fun h1=> ?_) (fun h1=> ?_)
   ·subst h1
    refine Cd.skip ?_;exact ab.join () ⟨rfl,trivial⟩ bel
   ·skip
    refine aj ?_;refine Zv (aa.dq (a:=l) (b:=[103,105,118,101]) rfl rfl rfl hl (by decide)) ?_;refine Za ?_;refine aZ 0 2 3 4 (Zt ?_);refine Cd.au rfl (fun h2=> ?_) (fun h2=> ?_)
    ·subst h2
     refine Cd.skip ?_;exact ab.join () ⟨rfl,trivial⟩ bel
    ·skip
     refine aj ?_;refine Zv (aa.dq (a:=l) (b:=[97,110,100]) rfl rfl rfl hl (by decide)) ?_;refine Za ?_;refine aZ 0 2 3 4 (Zt ?_);refine Cd.au rfl (fun h3=> ?_) (fun h3=> ?_)
     ·subst h3
      refine Cd.skip ?_;exact ab.join () ⟨rfl,trivial⟩ bel
     ·skip
      refine aj ?_;refine Zv (aa.dq (a:=l) (b:=[111,114]) rfl rfl rfl hl (by decide)) ?_;refine Za ?_;refine aZ 0 2 3 4 (Zt ?_);refine Cd.au rfl (fun h4=> ?_) (fun h4=> ?_)
      ·subst h4
       refine Cd.skip ?_;exact ab.join () ⟨rfl,trivial⟩ bel
      ·skip
       refine aj ?_;refine Zv (aa.dq (a:=l) (b:=[115,99,97,108,101]) rfl rfl rfl hl (by decide)) ?_;refine Za ?_;refine aZ 0 2 3 4 (Zt ?_);refine Cd.au rfl (fun h5=> ?_) (fun h5=> ?_)
       ·subst h5
        refine Cd.skip ?_;exact ab.join () ⟨rfl,trivial⟩ bel
       ·skip
        refine aj ?_;refine Zv (aa.dq (a:=l) (b:=[119,104,101,110]) rfl rfl rfl hl (by decide)) ?_;refine Za ?_;refine aZ 0 2 3 4 (Zt ?_);refine Cd.au rfl (fun h6=> ?_) (fun h6=> ?_)
        ·subst h6
         refine Cd.skip ?_;exact ab.join () ⟨rfl,trivial⟩ bel
        ·skip
         refine aj ?_;refine Zv (aa.dq (a:=l) (b:=[117,110,116,105,108]) rfl rfl rfl hl (by decide)) ?_;refine Za ?_;refine aZ 0 2 3 4 (Zt ?_);refine Cd.au rfl (fun h7=> ?_) (fun h7=> ?_)
         ·subst h7
          refine Cd.skip ?_;exact ab.join () ⟨rfl,trivial⟩ bel
         ·skip
          refine aj ?_;refine Zv (aa.dq (a:=l) (b:=[97,110,121,116,105,109,101]) rfl rfl rfl hl (by decide)) ?_;refine Za ?_;refine aZ 0 2 3 4 (Zt ?_);refine Cd.au rfl (fun h8=> ?_) (fun h8=> ?_)
          ·subst h8
           refine Cd.skip ?_;exact ab.join () ⟨rfl,trivial⟩ bel
          ·skip
           refine aj ?_;refine Zv (aa.dq (a:=l) (b:=[100,97,121]) rfl rfl rfl hl (by decide)) ?_;refine Za ?_;refine aZ 0 2 3 4 (Zt ?_);refine Cd.au rfl (fun h9=> ?_) (fun h9=> ?_)
           ·subst h9
            refine Cd.skip ?_;exact ab.join () ⟨rfl,trivial⟩ bel
           ·skip
            refine aj ?_;refine Zv (aa.dq (a:=l) (b:=[109,105,110]) rfl rfl rfl hl (by decide)) ?_;refine Za ?_;refine aZ 0 2 3 4 (Zt ?_);refine Cd.au rfl (fun h10=> ?_) (fun h10=> ?_)
            ·subst h10
             refine Cd.skip ?_;exact ab.join () ⟨rfl,trivial⟩ bel
            ·skip
             refine aj ?_;refine Zv (aa.dq (a:=l) (b:=[109,97,120]) rfl rfl rfl hl (by decide)) ?_;refine Za ?_;refine aZ 0 2 3 4 (Zt ?_);refine Cd.au rfl (fun h11=> ?_) (fun h11=> ?_)
             ·subst h11
              refine Cd.skip ?_;exact ab.join () ⟨rfl,trivial⟩ bel
             ·skip
              refine Zr ?_;refine Zv (aa.dq (a:=l) (b:=[105,102]) rfl rfl rfl hl (by decide)) ?_;refine Za ?_;refine aZ 0 2 3 4 ?_;refine ab.join () ⟨congrArg (fun b=>some (Value.bool b)) ?_,trivial⟩ bel;simp[dD,ew,h0,h1,h2,h3,h4,h5,h6,h7,h8,h9,h10,h11]
 clear bel;rintro⟨⟩ wr bel;refine Cd.cond rfl (fun h=> ?_) (fun h=> ?_)
 ·skip
  refine aj ?_;refine Za ?_;refine dM 2 4 (Zt (Cd.ret (ab.ah (ab.af ?_))));refine aX ?_;rw[h];exact⟨rfl,bel⟩
 ·skip
  refine Cd.skip (ab.ai (aB ?_));refine Za ?_;refine dM 2 4 (Zt (Cd.ret ?_));refine aX ?_;rw[h];exact⟨rfl,bel⟩
def gQ (l:List Nat):Bool:=cI l&& !dD l
theorem uV (l:List Nat)(w:World)(hl:∀d∈l,d<256)(hlen:l.length≤9223372036854775807):Calls Tryz.prog 188 #[.string (strOf l)] w fun e w'=>e= .returned (.bool (gQ l))∧Grow w w':=by
 have bel:=Below.refl w.heap.size w;refine Zs 10 Tryz.func188 ?_;refine aj ?_;refine Za ?_;refine dM 0 2 (aB ?_);refine Zm ?_;refine Zc (Ze Tryz.func62) (gp l _ hl hlen) ?_;rintro e w5 ⟨rfl,hb5⟩;refine⟨_,rfl,?_⟩;replace bel:=bel.step hb5;refine Zm ?_;refine av.start ?_;refine bk (fun hcx=>aa.move rfl rfl) ?_;refine av.bj rfl rfl rfl rfl rfl rfl rfl (fun hcx=>Ze Tryz.func210) (fun hcx=>mE l _ hl) ?_;intro w1 hw1;replace bel:=bel.step hw1;refine Zn (fun hcx=>aa.not rfl rfl) ?_;refine ep ?_;refine Za ?_;refine dM 0 2 (Zt (Cd.ret ?_));refine aX ?_;exact⟨aW (aF (by unfold gQ;cases cI l<;>rfl)),bel⟩
theorem iN (a b:Int)(w:World):Calls Tryz.prog 141 #[.agg #[.int .i64 a, .int .i64 b]] w fun e w'=>e= .returned (.bool (decide (a≤200)&&decide (b≤16)))∧Grow w w':=by
 have bel:=Below.refl w.heap.size w;refine Zs 11 Tryz.func141 ?_;refine aj ?_;refine Seq.box rfl rfl rfl rfl rfl ?_;intro g1 w1 n1;have e1:=Nat.le_trans bel.size n1.ge;replace bel:=bel.step n1.below;have k1:=n1.ao;refine Za ?_;refine bu 0 1 2 (aB ?_);refine Zf 0 Tryz.underlying200 ?_;refine ZL Tryz.underlying3 k1 ?_;refine Fj ?_;refine Zm ?_;refine av.start ?_;refine bk (fun hcx=>aa.ak 1 rfl rfl Tryz.underlying200 rfl (by kernel_rfl)) ?_;refine Zn (fun hcx=>aa.an rfl rfl Tryz.underlying3 rfl k1 rfl) ?_;refine Zn (fun hcx=>aa.leq rfl rfl rfl) ?_;refine ep ?_;refine Za ?_;refine bu 0 1 2 (Zt (Cd.ret ?_));refine aX ?_;exact⟨aW (aF (by cases decide (a≤200)<;>rfl)),bel⟩
theorem fb:bz Tryz.prog 200=some (some (.agg #[.int .i64 0, .int .i64 0])):=by kernel_rfl
theorem fa (a b:Int)(w:World):(Instr.build 200 #[(0, .int .i64 a),(1, .int .i64 b)]).run Tryz.prog w= .ok (.agg #[.int .i64 a, .int .i64 b]) w:=by
 have hu:=Tryz.underlying200
 go_simp
def dG (s t:Int × Int):Int × Int:=(min (s.1+t.1) 1000,min (max s.2 (t.2+1)) 1000)
theorem qZ (s t:Int × Int)(w:World)(h1:0≤s.1∧s.1≤1000)(h2:0≤s.2∧s.2≤1000)(h3:0≤t.1∧t.1≤1000)(h4:0≤t.2∧t.2≤1000):Calls Tryz.prog 186 #[.agg #[.int .i64 s.1, .int .i64 s.2], .agg #[.int .i64 t.1, .int .i64 t.2]] w fun e w'=>e= .returned (.agg #[.int .i64 (dG s t).1, .int .i64 (dG s t).2])∧Grow w w':=by
 have bel:=Below.refl w.heap.size w;obtain⟨a,b⟩:=s;obtain⟨c,d⟩:=t;simp only at h1 h2 h3 h4;refine Zs 19 Tryz.func186 ?_;refine aj ?_;refine Seq.box rfl rfl rfl rfl rfl ?_;intro g2 w1 n2;have e2:=Nat.le_trans bel.size n2.ge;replace bel:=bel.step n2.below;have k2:=n2.ao;refine Seq.box rfl rfl rfl rfl rfl ?_;intro g3 w2 n3;have e3:=Nat.le_trans bel.size n3.ge;have l3:=Nat.lt_of_lt_of_le k2.lt n3.ge;replace bel:=bel.step n3.below;replace k2:=k2.step n3.below;have k3:=n3.ao;refine Zl fb ?_;intro g4 w3 n4;have e4:=Nat.le_trans bel.size n4.ge;have l4:=Nat.lt_of_lt_of_le k3.lt n4.ge;have l4_k2:=Nat.lt_of_lt_of_le k2.lt n4.ge;replace bel:=bel.step n4.below;replace k2:=k2.step n4.below;replace k3:=k3.step n4.below;have k4:=n4.ao;refine aU 0 1 2 3 4 (aB ?_);refine Zf 0 Tryz.underlying200 ?_;refine ZL Tryz.underlying3 k2 ?_;refine Zf 0 Tryz.underlying200 ?_;refine ZL Tryz.underlying3 k3 ?_;refine dt ?_;refine Zv (aa.min2 rfl rfl rfl) ?_;refine Zf 1 Tryz.underlying200 ?_;refine ZL Tryz.underlying3 k2 ?_;refine Zf 1 Tryz.underlying200 ?_;refine ZL Tryz.underlying3 k3 ?_;refine dt ?_;refine Zv (aa.max2 rfl rfl rfl) ?_;refine Zv (aa.min2 rfl rfl rfl) ?_;refine Zv (aa.build rfl rfl (fa _ _ _)) ?_;refine Zo 2 k4 ?_;intro w4 pw4;replace bel:=bel.put k4 pw4 e4;replace k2:=k2.put pw4 (by omega);replace k3:=k3.put pw4 (by omega);replace k4:=pw4.ao;refine aU 0 1 2 3 4 (Zt (Cd.ret ?_));refine jU 2 k4 Tryz.underlying200 ?_;exact⟨rfl,bel⟩
mutual
def ve:Ex→Int × Int
 | .mk _ _ _ l=>AJ (1,1) l
def AJ (s:Int × Int):List Ex→Int × Int
 | []=>s
 |e::r=>if 1000≤s.1 then(1000,1000) else AJ (dG s (ve e)) r
end
def Sz (s:Int × Int):Prop:=(0≤s.1∧s.1≤1000)∧(0≤s.2∧s.2≤1000)
theorem ez {s t:Int × Int}(h:Sz s)(k:Sz t):Sz (dG s t):=by
 unfold Sz dG at *;simp only;omega
mutual
theorem qD:∀e,Sz (ve e)
 | .mk op n nm l=>by rw[ve];exact Bc (1,1) ⟨by simp,by simp⟩ l
theorem Bc:∀(s:Int × Int),Sz s→∀l,Sz (AJ s l)
 |s,h,[]=>by rw[AJ];exact h
 |s,h,e::r=>by
  rw[AJ];split
  ·exact⟨by simp,by simp⟩
  ·exact Bc _ (ez h (qD e)) r
end
def vS (s:Int × Int)(n d:Nat):Prop:=s.1=min (n:Int) 1000∧(n<1000→s.2=(d:Int))
mutual
theorem oW:∀e,vS (ve e) e.nodes e.depth
 | .mk op n nm l=>by
  rw[ve,Ex.fR,Ex.ei];have:=xO (1,1) 1 1 ⟨(by show(1:Int)=min ((1:Nat):Int) 1000;omega),fun _=>rfl⟩ (Nat.le_refl _) (Nat.le_refl _) l
  rwa [show max 1 (1+bD l)=1+bD l by omega] at this
theorem xO:∀(s:Int × Int) (n d:Nat),vS s n d→1≤d→d≤n→∀l,vS (AJ s l) (n+bC l) (max d (1+bD l))
 |s,n,d,h,h1,h2,[]=>by
  rw[AJ,bC,bD,show max d (1+0)=d by omega];exact h
 |s,n,d,h,h1,h2,e::r=>by
  rw[AJ,bC,bD];have he:=oW e;have hn:=Ex.bh e;have hr:=eD r;split
  ·obtain⟨a,b⟩:=h
   exact⟨by simp only;omega,fun h=>by omega⟩
  ·have hw:vS (dG s (ve e)) (n+e.nodes) (max d (1+e.depth)):=by
    obtain⟨a,b⟩:=h;obtain⟨a',b'⟩:=he;refine⟨by unfold dG;simp only;omega,fun h=> ?_⟩;unfold dG;simp only;rw[b (by omega),b' (by omega)];omega
   have:=xO _ (n+e.nodes) (max d (1+e.depth)) hw (by omega) (by omega) r;rw[show n+(e.nodes+bC r)=n+e.nodes+bC r by omega,show max d (1+max e.depth (bD r))=max (max d (1+e.depth)) (1+bD r) by omega];exact this
end
theorem aw:bz Tryz.prog 105=some (some (.agg #[.int .i64 0, .int .i64 0, .string {data:= #[]}, .slice none 0 0])):=by kernel_rfl
mutual
def rl:Ex→Nat→Int × Int
 | .mk _ _ _ l,at_=>uP at_ (1,1) l
def uP (at_:Nat)(s:Int × Int):List Ex→Int × Int
 | []=>s
 |e::r=>if 1000≤at_∨1000≤s.1 then(1000,1000) else uP at_ (dG s (rl e (at_+1))) r
end
theorem DV (e:Ex)(at_:Nat):rl e at_=uP at_ (1,1) e.args:=by cases e;rw[rl];rfl
theorem vv (at_:Nat)(s:Int × Int)(e:Ex)(r:List Ex):uP at_ s (e::r)=if 1000≤at_∨1000≤s.1 then(1000,1000) else uP at_ (dG s (rl e (at_+1))) r:=by rw[uP]
theorem xQ (at_:Nat)(s:Int × Int):uP at_ s []=s:=by rw[uP]
theorem nk {s:Int × Int}(h:Sz s):dG s (1000,1000)=(1000,1000):=by
 unfold Sz at h;unfold dG;simp only[Prod.mk.injEq];omega
theorem Dt (at_:Nat)(l:List Ex):uP at_ (1000,1000) l=(1000,1000):=by
 cases l with
 |nil=>rw[xQ]
 |cons e r=>rw[vv,if_pos (.inr (by decide))]
mutual
theorem m8:∀(e:Ex) (at_:Nat),Sz (rl e at_)
 | .mk op n nm l,at_=>by rw[rl];exact Bf at_ (1,1) ⟨by simp,by simp⟩ l
theorem Bf:∀(at_:Nat) (s:Int × Int),Sz s→∀l,Sz (uP at_ s l)
 |at_,s,h,[]=>by rw[uP];exact h
 |at_,s,h,e::r=>by
  rw[uP];split
  ·exact⟨by simp,by simp⟩
  ·exact Bf at_ _ (ez h (m8 e (at_+1))) r
end
mutual
theorem tD:∀(e:Ex) (at_:Nat),rl e at_=ve e∨(rl e at_=(1000,1000)∧1002≤e.depth+at_)
 | .mk op n nm l,at_=>by
  rw[rl,ve,Ex.ei];rcases Bq at_ (1,1) ⟨by simp,by simp⟩ l with h|⟨h1,h2⟩
  ·exact .inl h
  ·exact .inr ⟨h1,by omega⟩
theorem Bq:∀(at_:Nat) (s:Int × Int),Sz s→∀l,uP at_ s l=AJ s l∨(uP at_ s l=(1000,1000)∧1001≤bD l+at_)
 |at_,s,h,[]=>by rw[uP,AJ];exact .inl rfl
 |at_,s,h,e::r=>by
  rw[uP,AJ,bD];have hd:0<e.depth:=by cases e;rw[Ex.ei];omega
  by_cases h1:1000≤s.1
  ·rw[if_pos (.inr h1),if_pos h1];exact .inl rfl
  ·by_cases h2:1000≤at_
   ·rw[if_pos (.inl h2)];exact .inr ⟨rfl,by omega⟩
   ·rw[if_neg (by omega),if_neg h1]
    rcases tD e (at_+1) with h3|⟨h3,h4⟩
    ·rw[h3]
     rcases Bq at_ (dG s (ve e)) (ez h (qD e)) r with h5|⟨h5,h6⟩
     ·exact .inl h5
     ·exact .inr ⟨h5,by omega⟩
    ·rw[h3,nk h,Dt]
     exact .inr ⟨rfl,by omega⟩
end
theorem CL (e:Ex):vS (rl e 0) e.nodes e.depth:=by
 rcases tD e 0 with h|⟨h1,h2⟩
 ·rw[h];exact oW e
 ·rw[h1]
  have:=e.bh;exact⟨by simp only;omega,fun h=>by omega⟩
theorem CY {e:Ex}{at_:Nat}(h:e.depth+at_≤900):rl e at_=ve e:=by
 rcases tD e at_ with h1|⟨h1,h2⟩
 ·exact h1
 ·omega
theorem jN (N:Nat):∀(e:Ex) (at_:Nat) (B:Nat) (v:Value) (w:World),e.nodes≤N→at_≤1001→lE w B e v→B≤w.heap.size→Calls Tryz.prog 179 #[v, .int .i64 (at_:Int)] w fun en w'=>en= .returned (.agg #[.int .i64 (rl e at_).1, .int .i64 (rl e at_).2])∧Grow w w':=by
 induction N with
 |zero=>intro e at_ B v w hN;have:=e.bU;omega
 |succ N ih=>
 intro e at_ B v w hN hdep hrep hB;obtain⟨A,c,rfl,hv⟩:=hrep.open;have bel:=Below.refl w.heap.size w;have hdp:0<e.depth:=by cases e;rw[Ex.ei];omega
 have dX:=hv.dX;refine Zs 32 Tryz.func179 ?_;refine aj ?_;refine Seq.box rfl rfl rfl rfl rfl ?_;intro g2 w1 n2;have e2:=Nat.le_trans bel.size n2.ge;replace bel:=bel.step n2.below;have k2:=n2.ao;refine Zl fb ?_;intro g4 w2 n4;have e4:=Nat.le_trans bel.size n4.ge;have l4:=Nat.lt_of_lt_of_le k2.lt n4.ge;replace bel:=bel.step n4.below;replace k2:=k2.step n4.below;have k4:=n4.ao;refine aZ 0 1 2 4 (aB ?_);refine Zv (aa.build rfl rfl (fa _ _ _)) ?_;refine Zl fb ?_;intro g5 w3 n5;have e5:=Nat.le_trans bel.size n5.ge;have l5:=Nat.lt_of_lt_of_le k4.lt n5.ge;have l5_k2:=Nat.lt_of_lt_of_le k2.lt n5.ge;replace bel:=bel.step n5.below;replace k2:=k2.step n5.below;replace k4:=k4.step n5.below;have k5:=n5.ao;refine Zo 2 k5 ?_;intro w4 pw4;replace bel:=bel.put k5 pw4 e5;replace k2:=k2.put pw4 (by omega);replace k4:=k4.put pw4 (by omega);replace k5:=pw4.ao;refine aU 0 1 2 4 5 (aJ (aj ?_));refine Zf 3 Tryz.underlying105 ?_;refine ZL Tryz.underlying68 k2 ?_;refine Zv (aa.len rfl rfl Tryz.underlying68) ?_;refine Zm ?_;refine cn 0 1 2 4 5 10 11 12 (Zt (Cd.block ?_))
 refine Cd.loop (σ:=Nat × (Int × Int)) (fun s=>[(1, .int .i64 (at_:Int)),(4, .pointer (some ⟨g4,0,none⟩)),(5, .pointer (some ⟨g5,0,none⟩)),(10, .slice A e.args.length c),(11, .int .i64 (e.args.length:Int)),(12, .int .i64 (s.1:Int))])
  (fun s wr=>s.1≤e.args.length∧Sz s.2∧uP at_ s.2 (e.args.drop s.1)=rl e at_∧Below w.heap.size w wr∧aH wr g4 200 #[.int .i64 0, .int .i64 0]∧aH wr g5 200 #[.int .i64 s.2.1, .int .i64 s.2.2]) (fun s=>e.args.length-s.1) (0,(1,1)) ⟨Nat.zero_le _,⟨by simp,by simp⟩,by rw[DV];rfl,bel,k4,k5⟩ ⟨rfl,rfl,rfl,rfl,rfl,rfl,trivial⟩ ?_
 clear bel k2 k4 k5;rintro⟨k,s⟩ wr ⟨hk,hs,hsz,bel,k4,k5⟩;simp only at hk hs hsz k5;show Cd _ _ _ _ [(1, .int .i64 (at_:Int)),(4, .pointer (some ⟨g4,0,none⟩)),(5, .pointer (some ⟨g5,0,none⟩)),(10, .slice A e.args.length c),(11, .int .i64 (e.args.length:Int)),(12, .int .i64 (k:Int))] _;refine aj ?_;refine ff ?_;refine bp 1 4 5 10 11 12 13 (aJ ?_);refine Cd.au rfl (fun hc=> ?_) (fun hc=> ?_)
 ·obtain⟨x,hx⟩:∃x,e.args[k]? =some x:=⟨_,List.getElem?_eq_getElem (show k<e.args.length by omega)⟩
  obtain⟨ad,A',c',rfl,hbl,hrx,hc⟩:=hv.arg k x hx;have hxm:=List.mem_of_getElem? hx;have hxn:=Ex.fK hxm;have hxd:=Ex.sc hxm;have hc:=fun j u hj=>((bel.mono hB).cell (p:=(ad.add (k*4)).add j) (by rw[ag,ag];exact hbl)).trans (hc j u hj)
  have hdrop:e.args.drop k=x::e.args.drop (k+1):=by
   rw[List.drop_eq_getElem_cons (show k<e.args.length by omega)];congr 1;obtain⟨_,he⟩:=List.getElem?_eq_some_iff.1 hx;exact he
  rw[hdrop,vv] at hsz;refine Cd.skip (aJ (Cd.block (aj ?_)));refine Zv (aa.aR rfl rfl rfl Tryz.underlying68 (s:=4) (by kernel_rfl) (j:=k) rfl (by omega)) ?_;refine Zv (aa.bP (ps:=[.int .i64 x.op, .int .i64 x.n, .string (strOf x.name), .slice A' x.args.length c']) rfl rfl Tryz.underlying105 rfl (m:=4) (by kernel_rfl) rfl hc) ?_;refine Zl aw ?_;intro g7 w5 n7;have e7:=Nat.le_trans bel.size n7.ge;have l7:=Nat.lt_of_lt_of_le k5.lt n7.ge;have l7_k4:=Nat.lt_of_lt_of_le k4.lt n7.ge;replace bel:=bel.step n7.below;replace k4:=k4.step n7.below;replace k5:=k5.step n7.below;have k7:=n7.ao;refine Zo 4 k7 ?_;intro w6 pw6;replace bel:=bel.put k7 pw6 e7;replace k4:=k4.put pw6 (by omega);replace k5:=k5.put pw6 (by omega);replace k7:=pw6.ao;refine cn 1 4 5 7 10 11 12 13 (aJ (aj ?_));refine Zm ?_;refine mz ?_;refine Zm ?_;refine av.start ?_;refine bk (fun hcx=>aa.ak 0 rfl rfl Tryz.underlying200 rfl (by kernel_rfl)) ?_;refine Zn (fun hcx=>aa.an rfl rfl Tryz.underlying3 rfl k5 rfl) ?_;refine Zn (fun hcx=>aa.geq rfl rfl rfl) ?_;refine eG ?_;refine du 1 4 5 7 10 11 12 13 22 (Zt ?_);refine Cd.cond rfl (fun h=> ?_) (fun h=> ?_)
  ·simp at h
   rw[if_pos (by omega)] at hsz;refine aj ?_;refine Zv (aa.build rfl rfl (fa _ _ _)) ?_;refine Zo 2 k4 ?_;intro w7 pw7;replace bel:=bel.put k4 pw7 e4;replace k5:=k5.put pw7 (by omega);replace k7:=k7.put pw7 (by omega);replace k4:=pw7.ao;refine du 1 4 5 7 10 11 12 13 22 (Zt (Cd.ret (ab.af (ab.ah (ab.af (ab.aL (ab.ah (ab.af ?_))))))));refine jU 2 k4 Tryz.underlying200 ?_;rw[←hsz];exact⟨rfl,bel⟩
  ·simp at h
   rw[if_neg (by omega)] at hsz;have hat:at_+1≤1001:=by omega
   have hrec:=fun W (hb:Below w.heap.size w W)=>ih x (at_+1) B _ W (by omega) hat (hrx.below (hb.mono hB)) (Nat.le_trans hB hb.size);have hxs:=m8 x (at_+1);have hws:=ez hs hxs;refine Cd.skip (Zt ?_);refine fV 6 ?_;intro w7 hw7 zw7;replace bel:=bel.step hw7;replace k4:=k4.step hw7;replace k5:=k5.step hw7;replace k7:=k7.step hw7;have zbel:=bel.size;have zlt:=k7.lt;refine Zd (fun w hG=>aa.dr rfl rfl Tryz.underlying200 rfl (k5.step hG) (m:=2) (by kernel_rfl) rfl) ?_;refine Zd (fun w hG=>aa.dr rfl rfl Tryz.underlying105 rfl (k7.step hG) (m:=4) (by kernel_rfl) rfl) ?_;refine eJ ?_;refine Zd (fun w hG=>aa.qR rfl rfl rfl (by omega) (by omega)) ?_;refine Dr.dm rfl (fun w=>Ze Tryz.func179) rfl (fun w hG=>hrec w (bel.step hG)) ?_;refine Dr.dm rfl (fun w=>Ze Tryz.func186) rfl (fun w hG=>qZ s (rl x (at_+1)) w hs.1 hs.2 hxs.1 hxs.2) ?_;refine Dr.nil ?_;refine br.done (F':=[(1,_),(4,_),(5,_),(7,_),(10,_),(11,_),(12,_),(13,_),(22,_),(29,_)]) rfl ⟨rfl,rfl,rfl,rfl,rfl,rfl,rfl,rfl,rfl,rfl,trivial⟩ ?_;intro w8 hw8 fw8;replace bel:=bel.step hw8;replace k4:=k4.step hw8;replace k5:=k5.step hw8;replace k7:=k7.step hw8;refine Zo 2 k5 ?_;intro w9 pw9;replace bel:=bel.put k5 pw9 e5;replace k4:=k4.put pw9 (by omega);replace k5:=pw9.ao;refine du 1 4 5 7 10 11 12 13 22 (ab.ai (dU ?_));refine dt ?_;refine Zm ?_;refine du 1 4 5 7 10 11 12 13 22 ?_;exact ab.round (k+1,dG s (rl x (at_+1))) ⟨rfl,rfl,rfl,rfl,rfl,rfl,trivial⟩ ⟨by simp only;omega,hws,hsz,bel,k4,k5⟩ (by simp only;omega)
 ·obtain rfl:k=e.args.length:=by omega
  rw[List.drop_of_length_le (Nat.le_refl _),xQ] at hsz;refine Cd.exit (ab.aA (ab.ay (ab.az (aB ?_))));refine ZW 2 Tryz.underlying200 k5 ?_;refine Zo 2 k4 ?_;intro w5 pw5;replace bel:=bel.put k4 pw5 e4;replace k5:=k5.put pw5 (by omega);replace k4:=pw5.ao;refine bp 1 4 5 10 11 12 13 (Zt (Cd.ret ?_));refine jU 2 k4 Tryz.underlying200 ?_;rw[←hsz];exact⟨rfl,bel⟩
theorem sW (N:Nat)(e:Ex)(at_:Nat)(B:Nat)(v:Value)(w:World)(hN:e.nodes≤N)(hd:e.depth+at_≤900)(hrep:lE w B e v)(hB:B≤w.heap.size):Calls Tryz.prog 179 #[v, .int .i64 (at_:Int)] w fun en w'=>en= .returned (.agg #[.int .i64 (ve e).1, .int .i64 (ve e).2])∧Grow w w':=by
 rw[←CY hd];exact jN N e at_ B v w hN (by omega) hrep hB
def uL {α:Type}(p:α→Bool)(l:List α):Int:=match l.findIdx? p with|some i=>(i:Int)|none=> -1
theorem sE {α:Type}{p:α→Bool}{l:List α}{i:Nat}{x:α}(h:l[i]? =some x)(hp:p x=true)(hb:∀y∈l.take i,p y=false):uL p l=(i:Int):=by
 unfold uL
 have:l.findIdx? p=some i:=by
  rw[List.findIdx?_eq_some_iff_getElem];obtain⟨hi,he⟩:=List.getElem?_eq_some_iff.1 h;refine⟨hi,by rw[he];exact hp,fun j hj=> ?_⟩;have:=hb (l[j]) (by rw[List.mem_take_iff_getElem];exact⟨j,by omega,rfl⟩);rw[this];simp
 rw[this]
theorem su {α:Type}{p:α→Bool}{l:List α}(hb:∀y∈l,p y=false):uL p l= -1:=by
 unfold uL;have:l.findIdx? p=none:=by rw[List.findIdx?_eq_none_iff];exact hb
 rw[this]
theorem uw {α:Type}(p:α→Bool)(l:List α):decide (0≤uL p l)=l.any p:=by
 unfold uL
 cases h:l.findIdx? p with
 |none=>
  rw[List.findIdx?_eq_none_iff] at h;have:l.any p=false:=by rw[List.any_eq_false];exact fun x hx=>by rw[h x hx];simp
  rw[this];rfl
 |some i=>
  obtain⟨hi,he,-⟩:=List.findIdx?_eq_some_iff_getElem.1 h;have:l.any p=true:=by rw[List.any_eq_true];exact⟨_,List.getElem_mem hi,he⟩
  rw[this];simp
theorem wI (g:Nat)(cp:List Value)(p:Ex→Bool)(B:Nat)(A:Option Addr)(c:Nat)(e:Ex)(w:World)(hv:wX w B e A c)(hB:B≤w.heap.size)
  (eg:∀args w,(callFunc g args).run Tryz.prog w= .ok (.enter g args) w) (hp:∀x∈e.args,∀v W,Below w.heap.size w W→lE W B x v→Calls Tryz.prog g ([]++[v]++cp).toArray W fun en w'=>en= .returned (.bool (p x))∧Grow W w'):
  Calls Tryz.prog 146 #[.slice A e.args.length c, .func (.func g) #[] cp.toArray] w fun en w'=>en= .returned (.int .i64 (uL p e.args))∧Grow w w':=by
 have bel:=Below.refl w.heap.size w;have dX:=hv.dX;obtain⟨n,hn⟩:∃n,n=e.args.length:=⟨_,rfl⟩;rw[←hn] at dX⊢;refine Zs 19 Tryz.func146 ?_;refine aj ?_;refine Za ?_;refine bu 0 1 4 (aJ (aj ?_));refine Zm ?_;refine Zv (aa.len rfl rfl Tryz.underlying68) ?_;refine Zm ?_;refine aU 0 1 4 7 8 (Zt (Cd.block ?_))
 refine Cd.loop (σ:=Nat) (fun k=>[(0, .slice A n c),(1, .func (.func g) #[] cp.toArray),(7, .int .i64 (n:Int)),(8, .int .i64 (k:Int))])
  (fun k wr=>k≤n∧(∀y∈e.args.take k,p y=false)∧Below w.heap.size w wr) (fun k=>n-k) 0 ⟨Nat.zero_le _,by simp,bel⟩ ⟨rfl,rfl,rfl,rfl,trivial⟩ ?_
 clear bel;rintro k wr ⟨hk,hno,bel⟩;refine aj ?_;refine ff ?_;refine aU 0 1 7 8 9 (aJ ?_);refine Cd.au rfl (fun hc=> ?_) (fun hc=> ?_)
 ·obtain⟨x,hx⟩:∃x,e.args[k]? =some x:=⟨_,List.getElem?_eq_getElem (show k<e.args.length by omega)⟩
  obtain⟨ad,A',c',rfl,hbl,hrx,hc⟩:=hv.arg k x hx;have hc:=fun j u hj=>((bel.mono hB).cell (p:=(ad.add (k*4)).add j) (by rw[ag,ag];exact hbl)).trans (hc j u hj);have htk:e.args.take (k+1)=e.args.take k++[x]:=by rw[List.take_add_one,hx];rfl
  refine Cd.skip (aJ (Cd.block (aj ?_)));refine Zm ?_;refine Za ?_;refine bl 0 1 5 7 8 9 (aB ?_);refine Zm ?_;refine Zm ?_;refine Zm ?_;refine Zv (aa.aR rfl rfl rfl Tryz.underlying68 (s:=4) (by kernel_rfl) (j:=k) rfl (by omega)) ?_;refine Zv (aa.bP (ps:=[.int .i64 x.op, .int .i64 x.n, .string (strOf x.name), .slice A' x.args.length c']) rfl rfl Tryz.underlying105 rfl (m:=4) (by kernel_rfl) rfl hc) ?_;refine Seq.call (Enters.value (first:=[]) (cap:=cp) rfl rfl rfl eg) rfl rfl rfl (hp x (List.mem_of_getElem? hx) _ _ bel (hrx.below (bel.mono hB))) ?_;rintro en w5 ⟨rfl,hb5⟩;refine⟨_,rfl,?_⟩;replace bel:=bel.step hb5;refine bp 0 1 5 7 8 9 16 (Zt ?_);refine Cd.cond rfl (fun h=> ?_) (fun h=> ?_)
  ·skip
   refine aj ?_;refine Zm ?_;refine Za ?_;refine cn 0 1 4 5 7 8 9 16 (Zt (Cd.ret (ab.ah (ab.af (ab.aL (ab.ah (ab.af ?_)))))));refine aX ?_;exact⟨aW (int_eq (sE hx h hno).symm),bel⟩
  ·skip
   refine Cd.skip (ab.ai (dU ?_));refine dt ?_;refine Zm ?_;refine bp 0 1 5 7 8 9 16 ?_;refine ab.round (k+1) ⟨rfl,rfl,rfl,rfl,trivial⟩ ⟨by omega,fun y hy=> ?_,bel⟩ (by omega);rw[htk] at hy;rcases List.mem_append.1 hy with hy|hy
   ·exact hno y hy
   ·simp at hy;subst hy;exact h
 ·obtain rfl:k=n:=by omega
  rw[List.take_of_length_le (by omega)] at hno;refine Cd.exit (ab.aA (ab.ay (ab.az (aB ?_))));refine Za ?_;refine bl 0 1 4 7 8 9 (Zt (Cd.ret ?_));refine aX ?_;exact⟨aW (int_eq (su hno).symm),bel⟩
theorem iW (g:Nat)(cp:List Value)(p:Ex→Bool)(B:Nat)(A:Option Addr)(c:Nat)(e:Ex)(w:World)(hv:wX w B e A c)(hB:B≤w.heap.size)
  (eg:∀args w,(callFunc g args).run Tryz.prog w= .ok (.enter g args) w) (hp:∀x∈e.args,∀v W,Below w.heap.size w W→lE W B x v→Calls Tryz.prog g ([]++[v]++cp).toArray W fun en w'=>en= .returned (.bool (p x))∧Grow W w'):
  Calls Tryz.prog 107 #[.slice A e.args.length c, .func (.func g) #[] cp.toArray] w fun en w'=>en= .returned (.bool (e.args.any p))∧Grow w w':=by
 have bel:=Below.refl w.heap.size w;have hc:=fun W (hb:Below w.heap.size w W)=>wI g cp p B A c e W (hv.below (hb.mono hB)) (Nat.le_trans hB hb.size) eg (fun x hx v W2 hb2 hr=>hp x hx v W2 (hb.trans (hb2.mono hb.size)) hr);have hany:=uw p e.args;obtain⟨n,hn⟩:∃n,n=e.args.length:=⟨_,rfl⟩;rw[←hn] at hc⊢;refine Zs 9 Tryz.func107 ?_;refine aj ?_;refine Za ?_;refine bu 0 1 4 (aB ?_);refine Zm ?_;refine Zm ?_;refine Zc (Ze Tryz.func146) (hc _ bel) ?_;rintro en w5 ⟨rfl,hb5⟩;refine⟨_,rfl,?_⟩;replace bel:=bel.step hb5;refine mz ?_;refine Za ?_;refine bu 0 1 4 (Zt (Cd.ret ?_));refine aX ?_;exact⟨aW (aF hany),bel⟩
def lO (op n:Int)(nm:List Nat)(k:Nat):Bool:=decide (dB op=(k:Int))&& !(decide (n≠0)&&decide (op≠1)&&decide (op≠2))&& !(decide (nm≠ [])&&decide (op≠3))&& !decide (n<0)&& !(decide (op=2)&&decide (2932896<n))&& !(decide (op=3)&& !gQ nm)
mutual
def bF:Ex→Bool
 | .mk op n nm l=>lO op n nm l.length&&ph l
def ph:List Ex→Bool
 | []=>true
 |e::r=>bF e&&ph r
end
theorem qt:∀l,ph l=l.all bF
 | []=>by rw[ph];rfl
 |e::r=>by rw[ph,qt r];rfl
theorem nw (e:Ex):bF e=(lO e.op e.n e.name e.args.length&&e.args.all bF):=by
 cases e;rw[bF,qt];rfl
theorem yw:∀args w,(callFunc 215 args).run Tryz.prog w= .ok (.enter 215 args) w:=fun args w=>aO Tryz.func215 (by kernel_rfl) rfl args w
theorem kI {op n:Int}{nm:List Nat}{k:Nat}(h:¬(dB op=(k:Int)∧(n=0∨op=1∨op=2)∧(nm=[]∨op=3)∧0≤n∧(op=2→n≤2932896)∧(op=3→gQ nm=true))):lO op n nm k=false:=by
 cases hh:lO op n nm k with
 |false=>rfl
 |true=>
  exfalso;apply h;unfold lO at hh;simp at hh;obtain⟨⟨⟨⟨⟨h1,h2⟩,h3⟩,h4⟩,h5⟩,h6⟩:=hh
  exact⟨h1,by omega,h3,h4,by omega,fun h=>by
   rcases h6 with a|a
   ·exact absurd h a
   ·exact a⟩
theorem iw {op n:Int}{nm:List Nat}{k:Nat}(h1:dB op=(k:Int))(h2:n=0∨op=1∨op=2)(h3:nm=[]∨op=3)(h4:0≤n)(h5:op=2→n≤2932896)(h6:op=3→gQ nm=true):lO op n nm k=true:=by
 unfold lO;simp;refine⟨⟨⟨⟨⟨h1,by omega⟩,h3⟩,h4⟩,by omega⟩,?_⟩
 by_cases a:op=3
 ·exact .inr (h6 a)
 ·exact .inl a
theorem jj (N:Nat):∀(e:Ex) (B:Nat) (v:Value) (w:World),e.nodes≤N→lE w B e v→B≤w.heap.size→Calls Tryz.prog 180 #[v] w fun en w'=>en= .returned (.bool (bF e))∧Grow w w':=by
 induction N with
 |zero=>intro e B v w hN;have:=e.bU;omega
 |succ N ih=>
 intro e B v w hN hrep hB;obtain⟨A,c,rfl,hv⟩:=hrep.open;have bel:=Below.refl w.heap.size w;have HB1:=hv.name;have HB2:∀d∈([]:List Nat),d<256:=by simp
 have hnl:=hv.pU;have dX:=hv.dX;have hn1:=hv.n.1;have hn2:=hv.n.2;have hbt:=nw e
 have hcl:=fun W (hb:Below w.heap.size w W)=>iW 215 [] (fun x=> !bF x) B A c e W (hv.below (hb.mono hB)) (Nat.le_trans hB hb.size) yw (fun x hx v W2 hb2 hr=>by
  have hxn:=Ex.fK hx;have hrec:=ih x B v;have hs2:=Nat.le_trans hB (Nat.le_trans hb.size hb2.size);obtain⟨Ax,cx,rfl,-⟩:=hr.open;have bel:=Below.refl W2.heap.size W2;have hrec:=fun W3 (hb3:Below W2.heap.size W2 W3)=>hrec W3 (by omega) (hr.below (hb3.mono hs2)) (Nat.le_trans hs2 hb3.size)
  generalize bF x=q at *
  refine Zs 6 Tryz.func215 ?_;refine aj ?_;refine Seq.box rfl rfl rfl rfl rfl ?_;intro g1 w1 n1;have e1:=Nat.le_trans bel.size n1.ge;replace bel:=bel.step n1.below;have k1:=n1.ao;refine Za ?_;refine bu 0 1 2 (aB ?_);refine ZW 4 Tryz.underlying105 k1 ?_;refine Zc (Ze Tryz.func180) (hrec _ bel) ?_;rintro en w5 ⟨rfl,hb5⟩;refine⟨_,rfl,?_⟩;replace bel:=bel.step hb5;replace k1:=k1.step hb5;refine iC ?_;refine Za ?_;refine bu 0 1 2 (Zt (Cd.ret ?_));refine aX ?_;exact⟨rfl,bel⟩)
 obtain⟨op,hop⟩:∃op,op=e.op:=⟨_,rfl⟩;obtain⟨n,hn⟩:∃n,n=e.n:=⟨_,rfl⟩;obtain⟨nm,hnm⟩:∃nm,nm=e.name:=⟨_,rfl⟩;obtain⟨k,hk⟩:∃k,k=e.args.length:=⟨_,rfl⟩;rw[←hop,←hn,←hnm,←hk] at hbt;rw[←hnm] at HB1 hnl;rw[←hn] at hn1 hn2;rw[←hk] at dX hcl;rw[←hop,←hn,←hnm,←hk];have hbf:∀_:¬(dB op=(k:Int)∧(n=0∨op=1∨op=2)∧(nm=[]∨op=3)∧0≤n∧(op=2→n≤2932896)∧(op=3→gQ nm=true)),bF e=false:=fun h=>by rw[hbt,kI h];rfl
 generalize bF e=b at *
 refine Zs 60 Tryz.func180 ?_;refine aj ?_;refine Seq.box rfl rfl rfl rfl rfl ?_;intro g1 w1 n1;have e1:=Nat.le_trans bel.size n1.ge;replace bel:=bel.step n1.below;have k1:=n1.ao;refine Za ?_;refine bu 0 1 2 (Zt ?_);refine Cd.lC (σ:=Unit) (fun _=>[(1, .pointer (some ⟨g1,0,none⟩))]) (fun _ wr=>(dB op=(k:Int)∧(n=0∨op=1∨op=2)∧(nm=[]∨op=3))∧Below w.heap.size w wr∧aH wr g1 105 #[.int .i64 op, .int .i64 n, .string (strOf nm), .slice A k c]) ?_ ?_
 ·skip
  by_cases h1:dB op=(k:Int)
  ·by_cases h2:n=0
   ·skip
    by_cases h5:nm=[]
    ·skip
     refine Cd.seq ?_;refine fV 32 ?_;intro w2 hw2 zw2;replace bel:=bel.step hw2;replace k1:=k1.step hw2;have zbel:=bel.size;have zlt:=k1.lt;refine Dr.val Grow.refl rfl (fun w hG=>aa.ak 0 rfl rfl Tryz.underlying105 rfl (by kernel_rfl)) rfl ?_;refine Dr.val Grow.refl rfl (fun w hG=>aa.an rfl rfl Tryz.underlying3 rfl (k1.step hG) rfl) rfl ?_;refine Dr.dm rfl (fun w=>Ze Tryz.func214) rfl (fun w hG=>eo op w) ?_;refine Dr.val Grow.refl rfl (fun w hG=>aa.ak 3 rfl rfl Tryz.underlying105 rfl (by kernel_rfl)) rfl ?_;refine Dr.val Grow.refl rfl (fun w hG=>aa.an rfl rfl Tryz.underlying68 rfl (k1.step hG) rfl) rfl ?_;refine Dr.val Grow.refl rfl (fun w hG=>aa.len rfl rfl Tryz.underlying68) rfl ?_;refine Dr.val Grow.refl rfl (fun w hG=>(aa.cz rfl rfl rfl).kj (by omega)) rfl ?_;refine Dr.val Grow.refl rfl (fun w hG=>aa.move rfl rfl) rfl ?_;refine Dr.aC Grow.refl rfl (fun w hG=>aa.ak 1 rfl rfl Tryz.underlying105 rfl (by kernel_rfl)) rfl rfl rfl ?_;refine Dr.aC Grow.refl rfl (fun w hG=>aa.an rfl rfl Tryz.underlying2 rfl (k1.step hG) rfl) rfl rfl rfl ?_;refine Dr.aC Grow.refl rfl (fun w hG=>(aa.cz rfl rfl rfl).kj (by omega)) rfl rfl rfl ?_;refine Dr.aC Grow.refl rfl (fun w hG=>aa.move rfl rfl) rfl rfl rfl ?_;refine Dr.skip rfl rfl rfl rfl rfl ?_;refine Dr.skip rfl rfl rfl rfl rfl ?_;refine Dr.skip rfl rfl rfl rfl rfl ?_;refine Dr.aC Grow.refl rfl (fun w hG=>aa.bX rfl rfl rfl) rfl rfl rfl ?_;refine Dr.aC Grow.refl rfl (fun w hG=>aa.move rfl rfl) rfl rfl rfl ?_;refine Dr.skip rfl rfl rfl rfl rfl ?_;refine Dr.skip rfl rfl rfl rfl rfl ?_;refine Dr.skip rfl rfl rfl rfl rfl ?_;refine Dr.aC Grow.refl rfl (fun w hG=>aa.bX rfl rfl rfl) rfl rfl rfl ?_;refine Dr.val Grow.refl rfl (fun w hG=>aa.bX rfl rfl rfl) rfl ?_;refine Dr.val Grow.refl rfl (fun w hG=>aa.move rfl rfl) rfl ?_;refine Dr.aC Grow.refl rfl (fun w hG=>aa.ak 2 rfl rfl Tryz.underlying105 rfl (by kernel_rfl)) rfl rfl rfl ?_;refine Dr.aC Grow.refl rfl (fun w hG=>aa.an rfl rfl Tryz.underlying9 rfl (k1.step hG) rfl) rfl rfl rfl ?_;refine Dr.aC Grow.refl rfl (fun w hG=>(aa.ku (b:=[]) rfl rfl rfl HB1 HB2).kj (by simp[h5])) rfl rfl rfl ?_;refine Dr.aC Grow.refl rfl (fun w hG=>aa.move rfl rfl) rfl rfl rfl ?_;refine Dr.skip rfl rfl rfl rfl rfl ?_;refine Dr.skip rfl rfl rfl rfl rfl ?_;refine Dr.skip rfl rfl rfl rfl rfl ?_;refine Dr.aC Grow.refl rfl (fun w hG=>aa.bX rfl rfl rfl) rfl rfl rfl ?_;refine Dr.val Grow.refl rfl (fun w hG=>aa.bX rfl rfl rfl) rfl ?_;refine Dr.nil ?_;refine br.done (F':=[(0,_),(1,_),(2,_),(34,_)]) rfl ⟨rfl,rfl,rfl,rfl,trivial⟩ ?_;intro w3 hw3 fw3;replace bel:=bel.step hw3;replace k1:=k1.step hw3;refine aZ 0 1 2 34 (Zt ?_);refine Cd.aS rfl rfl ?_;refine Cd.skip ?_;exact ab.join () ⟨rfl,trivial⟩ ⟨⟨h1, .inl h2, .inl h5⟩,bel,k1⟩
    ·by_cases h6:op=3
     ·skip
      refine Cd.seq ?_;refine fV 32 ?_;intro w2 hw2 zw2;replace bel:=bel.step hw2;replace k1:=k1.step hw2;have zbel:=bel.size;have zlt:=k1.lt;refine Dr.val Grow.refl rfl (fun w hG=>aa.ak 0 rfl rfl Tryz.underlying105 rfl (by kernel_rfl)) rfl ?_;refine Dr.val Grow.refl rfl (fun w hG=>aa.an rfl rfl Tryz.underlying3 rfl (k1.step hG) rfl) rfl ?_;refine Dr.dm rfl (fun w=>Ze Tryz.func214) rfl (fun w hG=>eo op w) ?_;refine Dr.val Grow.refl rfl (fun w hG=>aa.ak 3 rfl rfl Tryz.underlying105 rfl (by kernel_rfl)) rfl ?_;refine Dr.val Grow.refl rfl (fun w hG=>aa.an rfl rfl Tryz.underlying68 rfl (k1.step hG) rfl) rfl ?_;refine Dr.val Grow.refl rfl (fun w hG=>aa.len rfl rfl Tryz.underlying68) rfl ?_;refine Dr.val Grow.refl rfl (fun w hG=>(aa.cz rfl rfl rfl).kj (by omega)) rfl ?_;refine Dr.val Grow.refl rfl (fun w hG=>aa.move rfl rfl) rfl ?_;refine Dr.aC Grow.refl rfl (fun w hG=>aa.ak 1 rfl rfl Tryz.underlying105 rfl (by kernel_rfl)) rfl rfl rfl ?_;refine Dr.aC Grow.refl rfl (fun w hG=>aa.an rfl rfl Tryz.underlying2 rfl (k1.step hG) rfl) rfl rfl rfl ?_;refine Dr.aC Grow.refl rfl (fun w hG=>(aa.cz rfl rfl rfl).kj (by omega)) rfl rfl rfl ?_;refine Dr.aC Grow.refl rfl (fun w hG=>aa.move rfl rfl) rfl rfl rfl ?_;refine Dr.skip rfl rfl rfl rfl rfl ?_;refine Dr.skip rfl rfl rfl rfl rfl ?_;refine Dr.skip rfl rfl rfl rfl rfl ?_;refine Dr.aC Grow.refl rfl (fun w hG=>aa.bX rfl rfl rfl) rfl rfl rfl ?_;refine Dr.aC Grow.refl rfl (fun w hG=>aa.move rfl rfl) rfl rfl rfl ?_;refine Dr.skip rfl rfl rfl rfl rfl ?_;refine Dr.skip rfl rfl rfl rfl rfl ?_;refine Dr.skip rfl rfl rfl rfl rfl ?_;refine Dr.aC Grow.refl rfl (fun w hG=>aa.bX rfl rfl rfl) rfl rfl rfl ?_;refine Dr.val Grow.refl rfl (fun w hG=>aa.bX rfl rfl rfl) rfl ?_;refine Dr.val Grow.refl rfl (fun w hG=>aa.move rfl rfl) rfl ?_;refine Dr.aC Grow.refl rfl (fun w hG=>aa.ak 2 rfl rfl Tryz.underlying105 rfl (by kernel_rfl)) rfl rfl rfl ?_;refine Dr.aC Grow.refl rfl (fun w hG=>aa.an rfl rfl Tryz.underlying9 rfl (k1.step hG) rfl) rfl rfl rfl ?_;refine Dr.aC Grow.refl rfl (fun w hG=>(aa.ku (b:=[]) rfl rfl rfl HB1 HB2).lI (h5)) rfl rfl rfl ?_;refine Dr.aC Grow.refl rfl (fun w hG=>aa.move rfl rfl) rfl rfl rfl ?_;refine Dr.aC Grow.refl rfl (fun w hG=>aa.ak 0 rfl rfl Tryz.underlying105 rfl (by kernel_rfl)) rfl rfl rfl ?_;refine Dr.aC Grow.refl rfl (fun w hG=>aa.an rfl rfl Tryz.underlying3 rfl (k1.step hG) rfl) rfl rfl rfl ?_;refine Dr.aC Grow.refl rfl (fun w hG=>(aa.cz rfl rfl rfl).kj (by omega)) rfl rfl rfl ?_;refine Dr.aC Grow.refl rfl (fun w hG=>aa.bZ rfl rfl rfl) rfl rfl rfl ?_;refine Dr.val Grow.refl rfl (fun w hG=>aa.bX rfl rfl rfl) rfl ?_;refine Dr.nil ?_;refine br.done (F':=[(0,_),(1,_),(2,_),(34,_)]) rfl ⟨rfl,rfl,rfl,rfl,trivial⟩ ?_;intro w3 hw3 fw3;replace bel:=bel.step hw3;replace k1:=k1.step hw3;refine aZ 0 1 2 34 (Zt ?_);refine Cd.aS rfl rfl ?_;refine Cd.skip ?_;exact ab.join () ⟨rfl,trivial⟩ ⟨⟨h1, .inl h2, .inr h6⟩,bel,k1⟩
     ·skip
      refine Cd.seq ?_;refine fV 32 ?_;intro w2 hw2 zw2;replace bel:=bel.step hw2;replace k1:=k1.step hw2;have zbel:=bel.size;have zlt:=k1.lt;refine Dr.val Grow.refl rfl (fun w hG=>aa.ak 0 rfl rfl Tryz.underlying105 rfl (by kernel_rfl)) rfl ?_;refine Dr.val Grow.refl rfl (fun w hG=>aa.an rfl rfl Tryz.underlying3 rfl (k1.step hG) rfl) rfl ?_;refine Dr.dm rfl (fun w=>Ze Tryz.func214) rfl (fun w hG=>eo op w) ?_;refine Dr.val Grow.refl rfl (fun w hG=>aa.ak 3 rfl rfl Tryz.underlying105 rfl (by kernel_rfl)) rfl ?_;refine Dr.val Grow.refl rfl (fun w hG=>aa.an rfl rfl Tryz.underlying68 rfl (k1.step hG) rfl) rfl ?_;refine Dr.val Grow.refl rfl (fun w hG=>aa.len rfl rfl Tryz.underlying68) rfl ?_;refine Dr.val Grow.refl rfl (fun w hG=>(aa.cz rfl rfl rfl).kj (by omega)) rfl ?_;refine Dr.val Grow.refl rfl (fun w hG=>aa.move rfl rfl) rfl ?_;refine Dr.aC Grow.refl rfl (fun w hG=>aa.ak 1 rfl rfl Tryz.underlying105 rfl (by kernel_rfl)) rfl rfl rfl ?_;refine Dr.aC Grow.refl rfl (fun w hG=>aa.an rfl rfl Tryz.underlying2 rfl (k1.step hG) rfl) rfl rfl rfl ?_;refine Dr.aC Grow.refl rfl (fun w hG=>(aa.cz rfl rfl rfl).kj (by omega)) rfl rfl rfl ?_;refine Dr.aC Grow.refl rfl (fun w hG=>aa.move rfl rfl) rfl rfl rfl ?_;refine Dr.skip rfl rfl rfl rfl rfl ?_;refine Dr.skip rfl rfl rfl rfl rfl ?_;refine Dr.skip rfl rfl rfl rfl rfl ?_;refine Dr.aC Grow.refl rfl (fun w hG=>aa.bX rfl rfl rfl) rfl rfl rfl ?_;refine Dr.aC Grow.refl rfl (fun w hG=>aa.move rfl rfl) rfl rfl rfl ?_;refine Dr.skip rfl rfl rfl rfl rfl ?_;refine Dr.skip rfl rfl rfl rfl rfl ?_;refine Dr.skip rfl rfl rfl rfl rfl ?_;refine Dr.aC Grow.refl rfl (fun w hG=>aa.bX rfl rfl rfl) rfl rfl rfl ?_;refine Dr.val Grow.refl rfl (fun w hG=>aa.bX rfl rfl rfl) rfl ?_;refine Dr.val Grow.refl rfl (fun w hG=>aa.move rfl rfl) rfl ?_;refine Dr.aC Grow.refl rfl (fun w hG=>aa.ak 2 rfl rfl Tryz.underlying105 rfl (by kernel_rfl)) rfl rfl rfl ?_;refine Dr.aC Grow.refl rfl (fun w hG=>aa.an rfl rfl Tryz.underlying9 rfl (k1.step hG) rfl) rfl rfl rfl ?_;refine Dr.aC Grow.refl rfl (fun w hG=>(aa.ku (b:=[]) rfl rfl rfl HB1 HB2).lI (h5)) rfl rfl rfl ?_;refine Dr.aC Grow.refl rfl (fun w hG=>aa.move rfl rfl) rfl rfl rfl ?_;refine Dr.aC Grow.refl rfl (fun w hG=>aa.ak 0 rfl rfl Tryz.underlying105 rfl (by kernel_rfl)) rfl rfl rfl ?_;refine Dr.aC Grow.refl rfl (fun w hG=>aa.an rfl rfl Tryz.underlying3 rfl (k1.step hG) rfl) rfl rfl rfl ?_;refine Dr.aC Grow.refl rfl (fun w hG=>(aa.cz rfl rfl rfl).lI (h6)) rfl rfl rfl ?_;refine Dr.aC Grow.refl rfl (fun w hG=>aa.bZ rfl rfl rfl) rfl rfl rfl ?_;refine Dr.val Grow.refl rfl (fun w hG=>aa.bX rfl rfl rfl) rfl ?_;refine Dr.nil ?_;refine br.done (F':=[(0,_),(1,_),(2,_),(34,_)]) rfl ⟨rfl,rfl,rfl,rfl,trivial⟩ ?_;intro w3 hw3 fw3;replace bel:=bel.step hw3;replace k1:=k1.step hw3;refine aZ 0 1 2 34 (Zt ?_);refine Cd.aY rfl rfl ?_;refine aj ?_;refine Za ?_;refine aZ 0 1 2 34 (Zt (Cd.ret (ab.af ?_)));refine aX ?_;rw[hbf (by rintro⟨-,-,h,-⟩;rcases h with h|h;exact h5 h;exact h6 h)];exact⟨rfl,bel⟩
   ·by_cases h3:op=1
    ·skip
     by_cases h5:nm=[]
     ·skip
      refine Cd.seq ?_;refine fV 32 ?_;intro w2 hw2 zw2;replace bel:=bel.step hw2;replace k1:=k1.step hw2;have zbel:=bel.size;have zlt:=k1.lt;refine Dr.val Grow.refl rfl (fun w hG=>aa.ak 0 rfl rfl Tryz.underlying105 rfl (by kernel_rfl)) rfl ?_;refine Dr.val Grow.refl rfl (fun w hG=>aa.an rfl rfl Tryz.underlying3 rfl (k1.step hG) rfl) rfl ?_;refine Dr.dm rfl (fun w=>Ze Tryz.func214) rfl (fun w hG=>eo op w) ?_;refine Dr.val Grow.refl rfl (fun w hG=>aa.ak 3 rfl rfl Tryz.underlying105 rfl (by kernel_rfl)) rfl ?_;refine Dr.val Grow.refl rfl (fun w hG=>aa.an rfl rfl Tryz.underlying68 rfl (k1.step hG) rfl) rfl ?_;refine Dr.val Grow.refl rfl (fun w hG=>aa.len rfl rfl Tryz.underlying68) rfl ?_;refine Dr.val Grow.refl rfl (fun w hG=>(aa.cz rfl rfl rfl).kj (by omega)) rfl ?_;refine Dr.val Grow.refl rfl (fun w hG=>aa.move rfl rfl) rfl ?_;refine Dr.aC Grow.refl rfl (fun w hG=>aa.ak 1 rfl rfl Tryz.underlying105 rfl (by kernel_rfl)) rfl rfl rfl ?_;refine Dr.aC Grow.refl rfl (fun w hG=>aa.an rfl rfl Tryz.underlying2 rfl (k1.step hG) rfl) rfl rfl rfl ?_;refine Dr.aC Grow.refl rfl (fun w hG=>(aa.cz rfl rfl rfl).lI (h2)) rfl rfl rfl ?_;refine Dr.aC Grow.refl rfl (fun w hG=>aa.move rfl rfl) rfl rfl rfl ?_;refine Dr.aC Grow.refl rfl (fun w hG=>aa.ak 0 rfl rfl Tryz.underlying105 rfl (by kernel_rfl)) rfl rfl rfl ?_;refine Dr.aC Grow.refl rfl (fun w hG=>aa.an rfl rfl Tryz.underlying3 rfl (k1.step hG) rfl) rfl rfl rfl ?_;refine Dr.aC Grow.refl rfl (fun w hG=>(aa.cz rfl rfl rfl).kj (by omega)) rfl rfl rfl ?_;refine Dr.aC Grow.refl rfl (fun w hG=>aa.bZ rfl rfl rfl) rfl rfl rfl ?_;refine Dr.aC Grow.refl rfl (fun w hG=>aa.move rfl rfl) rfl rfl rfl ?_;refine Dr.skip rfl rfl rfl rfl rfl ?_;refine Dr.skip rfl rfl rfl rfl rfl ?_;refine Dr.skip rfl rfl rfl rfl rfl ?_;refine Dr.aC Grow.refl rfl (fun w hG=>aa.bX rfl rfl rfl) rfl rfl rfl ?_;refine Dr.val Grow.refl rfl (fun w hG=>aa.bX rfl rfl rfl) rfl ?_;refine Dr.val Grow.refl rfl (fun w hG=>aa.move rfl rfl) rfl ?_;refine Dr.aC Grow.refl rfl (fun w hG=>aa.ak 2 rfl rfl Tryz.underlying105 rfl (by kernel_rfl)) rfl rfl rfl ?_;refine Dr.aC Grow.refl rfl (fun w hG=>aa.an rfl rfl Tryz.underlying9 rfl (k1.step hG) rfl) rfl rfl rfl ?_;refine Dr.aC Grow.refl rfl (fun w hG=>(aa.ku (b:=[]) rfl rfl rfl HB1 HB2).kj (by simp[h5])) rfl rfl rfl ?_;refine Dr.aC Grow.refl rfl (fun w hG=>aa.move rfl rfl) rfl rfl rfl ?_;refine Dr.skip rfl rfl rfl rfl rfl ?_;refine Dr.skip rfl rfl rfl rfl rfl ?_;refine Dr.skip rfl rfl rfl rfl rfl ?_;refine Dr.aC Grow.refl rfl (fun w hG=>aa.bX rfl rfl rfl) rfl rfl rfl ?_;refine Dr.val Grow.refl rfl (fun w hG=>aa.bX rfl rfl rfl) rfl ?_;refine Dr.nil ?_;refine br.done (F':=[(0,_),(1,_),(2,_),(34,_)]) rfl ⟨rfl,rfl,rfl,rfl,trivial⟩ ?_;intro w3 hw3 fw3;replace bel:=bel.step hw3;replace k1:=k1.step hw3;refine aZ 0 1 2 34 (Zt ?_);refine Cd.aS rfl rfl ?_;refine Cd.skip ?_;exact ab.join () ⟨rfl,trivial⟩ ⟨⟨h1, .inr (.inl h3), .inl h5⟩,bel,k1⟩
     ·by_cases h6:op=3
      ·skip
       refine Cd.seq ?_;refine fV 32 ?_;intro w2 hw2 zw2;replace bel:=bel.step hw2;replace k1:=k1.step hw2;have zbel:=bel.size;have zlt:=k1.lt;refine Dr.val Grow.refl rfl (fun w hG=>aa.ak 0 rfl rfl Tryz.underlying105 rfl (by kernel_rfl)) rfl ?_;refine Dr.val Grow.refl rfl (fun w hG=>aa.an rfl rfl Tryz.underlying3 rfl (k1.step hG) rfl) rfl ?_;refine Dr.dm rfl (fun w=>Ze Tryz.func214) rfl (fun w hG=>eo op w) ?_;refine Dr.val Grow.refl rfl (fun w hG=>aa.ak 3 rfl rfl Tryz.underlying105 rfl (by kernel_rfl)) rfl ?_;refine Dr.val Grow.refl rfl (fun w hG=>aa.an rfl rfl Tryz.underlying68 rfl (k1.step hG) rfl) rfl ?_;refine Dr.val Grow.refl rfl (fun w hG=>aa.len rfl rfl Tryz.underlying68) rfl ?_;refine Dr.val Grow.refl rfl (fun w hG=>(aa.cz rfl rfl rfl).kj (by omega)) rfl ?_;refine Dr.val Grow.refl rfl (fun w hG=>aa.move rfl rfl) rfl ?_;refine Dr.aC Grow.refl rfl (fun w hG=>aa.ak 1 rfl rfl Tryz.underlying105 rfl (by kernel_rfl)) rfl rfl rfl ?_;refine Dr.aC Grow.refl rfl (fun w hG=>aa.an rfl rfl Tryz.underlying2 rfl (k1.step hG) rfl) rfl rfl rfl ?_;refine Dr.aC Grow.refl rfl (fun w hG=>(aa.cz rfl rfl rfl).lI (h2)) rfl rfl rfl ?_;refine Dr.aC Grow.refl rfl (fun w hG=>aa.move rfl rfl) rfl rfl rfl ?_;refine Dr.aC Grow.refl rfl (fun w hG=>aa.ak 0 rfl rfl Tryz.underlying105 rfl (by kernel_rfl)) rfl rfl rfl ?_;refine Dr.aC Grow.refl rfl (fun w hG=>aa.an rfl rfl Tryz.underlying3 rfl (k1.step hG) rfl) rfl rfl rfl ?_;refine Dr.aC Grow.refl rfl (fun w hG=>(aa.cz rfl rfl rfl).kj (by omega)) rfl rfl rfl ?_;refine Dr.aC Grow.refl rfl (fun w hG=>aa.bZ rfl rfl rfl) rfl rfl rfl ?_;refine Dr.aC Grow.refl rfl (fun w hG=>aa.move rfl rfl) rfl rfl rfl ?_;refine Dr.skip rfl rfl rfl rfl rfl ?_;refine Dr.skip rfl rfl rfl rfl rfl ?_;refine Dr.skip rfl rfl rfl rfl rfl ?_;refine Dr.aC Grow.refl rfl (fun w hG=>aa.bX rfl rfl rfl) rfl rfl rfl ?_;refine Dr.val Grow.refl rfl (fun w hG=>aa.bX rfl rfl rfl) rfl ?_;refine Dr.val Grow.refl rfl (fun w hG=>aa.move rfl rfl) rfl ?_;refine Dr.aC Grow.refl rfl (fun w hG=>aa.ak 2 rfl rfl Tryz.underlying105 rfl (by kernel_rfl)) rfl rfl rfl ?_;refine Dr.aC Grow.refl rfl (fun w hG=>aa.an rfl rfl Tryz.underlying9 rfl (k1.step hG) rfl) rfl rfl rfl ?_;refine Dr.aC Grow.refl rfl (fun w hG=>(aa.ku (b:=[]) rfl rfl rfl HB1 HB2).lI (h5)) rfl rfl rfl ?_;refine Dr.aC Grow.refl rfl (fun w hG=>aa.move rfl rfl) rfl rfl rfl ?_;refine Dr.aC Grow.refl rfl (fun w hG=>aa.ak 0 rfl rfl Tryz.underlying105 rfl (by kernel_rfl)) rfl rfl rfl ?_;refine Dr.aC Grow.refl rfl (fun w hG=>aa.an rfl rfl Tryz.underlying3 rfl (k1.step hG) rfl) rfl rfl rfl ?_;refine Dr.aC Grow.refl rfl (fun w hG=>(aa.cz rfl rfl rfl).kj (by omega)) rfl rfl rfl ?_;refine Dr.aC Grow.refl rfl (fun w hG=>aa.bZ rfl rfl rfl) rfl rfl rfl ?_;refine Dr.val Grow.refl rfl (fun w hG=>aa.bX rfl rfl rfl) rfl ?_;refine Dr.nil ?_;refine br.done (F':=[(0,_),(1,_),(2,_),(34,_)]) rfl ⟨rfl,rfl,rfl,rfl,trivial⟩ ?_;intro w3 hw3 fw3;replace bel:=bel.step hw3;replace k1:=k1.step hw3;refine aZ 0 1 2 34 (Zt ?_);refine Cd.aS rfl rfl ?_;refine Cd.skip ?_;exact ab.join () ⟨rfl,trivial⟩ ⟨⟨h1, .inr (.inl h3), .inr h6⟩,bel,k1⟩
      ·skip
       refine Cd.seq ?_;refine fV 32 ?_;intro w2 hw2 zw2;replace bel:=bel.step hw2;replace k1:=k1.step hw2;have zbel:=bel.size;have zlt:=k1.lt;refine Dr.val Grow.refl rfl (fun w hG=>aa.ak 0 rfl rfl Tryz.underlying105 rfl (by kernel_rfl)) rfl ?_;refine Dr.val Grow.refl rfl (fun w hG=>aa.an rfl rfl Tryz.underlying3 rfl (k1.step hG) rfl) rfl ?_;refine Dr.dm rfl (fun w=>Ze Tryz.func214) rfl (fun w hG=>eo op w) ?_;refine Dr.val Grow.refl rfl (fun w hG=>aa.ak 3 rfl rfl Tryz.underlying105 rfl (by kernel_rfl)) rfl ?_;refine Dr.val Grow.refl rfl (fun w hG=>aa.an rfl rfl Tryz.underlying68 rfl (k1.step hG) rfl) rfl ?_;refine Dr.val Grow.refl rfl (fun w hG=>aa.len rfl rfl Tryz.underlying68) rfl ?_;refine Dr.val Grow.refl rfl (fun w hG=>(aa.cz rfl rfl rfl).kj (by omega)) rfl ?_;refine Dr.val Grow.refl rfl (fun w hG=>aa.move rfl rfl) rfl ?_;refine Dr.aC Grow.refl rfl (fun w hG=>aa.ak 1 rfl rfl Tryz.underlying105 rfl (by kernel_rfl)) rfl rfl rfl ?_;refine Dr.aC Grow.refl rfl (fun w hG=>aa.an rfl rfl Tryz.underlying2 rfl (k1.step hG) rfl) rfl rfl rfl ?_;refine Dr.aC Grow.refl rfl (fun w hG=>(aa.cz rfl rfl rfl).lI (h2)) rfl rfl rfl ?_;refine Dr.aC Grow.refl rfl (fun w hG=>aa.move rfl rfl) rfl rfl rfl ?_;refine Dr.aC Grow.refl rfl (fun w hG=>aa.ak 0 rfl rfl Tryz.underlying105 rfl (by kernel_rfl)) rfl rfl rfl ?_;refine Dr.aC Grow.refl rfl (fun w hG=>aa.an rfl rfl Tryz.underlying3 rfl (k1.step hG) rfl) rfl rfl rfl ?_;refine Dr.aC Grow.refl rfl (fun w hG=>(aa.cz rfl rfl rfl).kj (by omega)) rfl rfl rfl ?_;refine Dr.aC Grow.refl rfl (fun w hG=>aa.bZ rfl rfl rfl) rfl rfl rfl ?_;refine Dr.aC Grow.refl rfl (fun w hG=>aa.move rfl rfl) rfl rfl rfl ?_;refine Dr.skip rfl rfl rfl rfl rfl ?_;refine Dr.skip rfl rfl rfl rfl rfl ?_;refine Dr.skip rfl rfl rfl rfl rfl ?_;refine Dr.aC Grow.refl rfl (fun w hG=>aa.bX rfl rfl rfl) rfl rfl rfl ?_;refine Dr.val Grow.refl rfl (fun w hG=>aa.bX rfl rfl rfl) rfl ?_;refine Dr.val Grow.refl rfl (fun w hG=>aa.move rfl rfl) rfl ?_;refine Dr.aC Grow.refl rfl (fun w hG=>aa.ak 2 rfl rfl Tryz.underlying105 rfl (by kernel_rfl)) rfl rfl rfl ?_;refine Dr.aC Grow.refl rfl (fun w hG=>aa.an rfl rfl Tryz.underlying9 rfl (k1.step hG) rfl) rfl rfl rfl ?_;refine Dr.aC Grow.refl rfl (fun w hG=>(aa.ku (b:=[]) rfl rfl rfl HB1 HB2).lI (h5)) rfl rfl rfl ?_;refine Dr.aC Grow.refl rfl (fun w hG=>aa.move rfl rfl) rfl rfl rfl ?_;refine Dr.aC Grow.refl rfl (fun w hG=>aa.ak 0 rfl rfl Tryz.underlying105 rfl (by kernel_rfl)) rfl rfl rfl ?_;refine Dr.aC Grow.refl rfl (fun w hG=>aa.an rfl rfl Tryz.underlying3 rfl (k1.step hG) rfl) rfl rfl rfl ?_;refine Dr.aC Grow.refl rfl (fun w hG=>(aa.cz rfl rfl rfl).lI (h6)) rfl rfl rfl ?_;refine Dr.aC Grow.refl rfl (fun w hG=>aa.bZ rfl rfl rfl) rfl rfl rfl ?_;refine Dr.val Grow.refl rfl (fun w hG=>aa.bX rfl rfl rfl) rfl ?_;refine Dr.nil ?_;refine br.done (F':=[(0,_),(1,_),(2,_),(34,_)]) rfl ⟨rfl,rfl,rfl,rfl,trivial⟩ ?_;intro w3 hw3 fw3;replace bel:=bel.step hw3;replace k1:=k1.step hw3;refine aZ 0 1 2 34 (Zt ?_);refine Cd.aY rfl rfl ?_;refine aj ?_;refine Za ?_;refine aZ 0 1 2 34 (Zt (Cd.ret (ab.af ?_)));refine aX ?_;rw[hbf (by rintro⟨-,-,h,-⟩;rcases h with h|h;exact h5 h;exact h6 h)];exact⟨rfl,bel⟩
    ·by_cases h4:op=2
     ·skip
      by_cases h5:nm=[]
      ·skip
       refine Cd.seq ?_;refine fV 32 ?_;intro w2 hw2 zw2;replace bel:=bel.step hw2;replace k1:=k1.step hw2;have zbel:=bel.size;have zlt:=k1.lt;refine Dr.val Grow.refl rfl (fun w hG=>aa.ak 0 rfl rfl Tryz.underlying105 rfl (by kernel_rfl)) rfl ?_;refine Dr.val Grow.refl rfl (fun w hG=>aa.an rfl rfl Tryz.underlying3 rfl (k1.step hG) rfl) rfl ?_;refine Dr.dm rfl (fun w=>Ze Tryz.func214) rfl (fun w hG=>eo op w) ?_;refine Dr.val Grow.refl rfl (fun w hG=>aa.ak 3 rfl rfl Tryz.underlying105 rfl (by kernel_rfl)) rfl ?_;refine Dr.val Grow.refl rfl (fun w hG=>aa.an rfl rfl Tryz.underlying68 rfl (k1.step hG) rfl) rfl ?_;refine Dr.val Grow.refl rfl (fun w hG=>aa.len rfl rfl Tryz.underlying68) rfl ?_;refine Dr.val Grow.refl rfl (fun w hG=>(aa.cz rfl rfl rfl).kj (by omega)) rfl ?_;refine Dr.val Grow.refl rfl (fun w hG=>aa.move rfl rfl) rfl ?_;refine Dr.aC Grow.refl rfl (fun w hG=>aa.ak 1 rfl rfl Tryz.underlying105 rfl (by kernel_rfl)) rfl rfl rfl ?_;refine Dr.aC Grow.refl rfl (fun w hG=>aa.an rfl rfl Tryz.underlying2 rfl (k1.step hG) rfl) rfl rfl rfl ?_;refine Dr.aC Grow.refl rfl (fun w hG=>(aa.cz rfl rfl rfl).lI (h2)) rfl rfl rfl ?_;refine Dr.aC Grow.refl rfl (fun w hG=>aa.move rfl rfl) rfl rfl rfl ?_;refine Dr.aC Grow.refl rfl (fun w hG=>aa.ak 0 rfl rfl Tryz.underlying105 rfl (by kernel_rfl)) rfl rfl rfl ?_;refine Dr.aC Grow.refl rfl (fun w hG=>aa.an rfl rfl Tryz.underlying3 rfl (k1.step hG) rfl) rfl rfl rfl ?_;refine Dr.aC Grow.refl rfl (fun w hG=>(aa.cz rfl rfl rfl).lI (h3)) rfl rfl rfl ?_;refine Dr.aC Grow.refl rfl (fun w hG=>aa.bZ rfl rfl rfl) rfl rfl rfl ?_;refine Dr.aC Grow.refl rfl (fun w hG=>aa.move rfl rfl) rfl rfl rfl ?_;refine Dr.aC Grow.refl rfl (fun w hG=>aa.ak 0 rfl rfl Tryz.underlying105 rfl (by kernel_rfl)) rfl rfl rfl ?_;refine Dr.aC Grow.refl rfl (fun w hG=>aa.an rfl rfl Tryz.underlying3 rfl (k1.step hG) rfl) rfl rfl rfl ?_;refine Dr.aC Grow.refl rfl (fun w hG=>(aa.cz rfl rfl rfl).kj (by omega)) rfl rfl rfl ?_;refine Dr.aC Grow.refl rfl (fun w hG=>aa.bZ rfl rfl rfl) rfl rfl rfl ?_;refine Dr.val Grow.refl rfl (fun w hG=>aa.bX rfl rfl rfl) rfl ?_;refine Dr.val Grow.refl rfl (fun w hG=>aa.move rfl rfl) rfl ?_;refine Dr.aC Grow.refl rfl (fun w hG=>aa.ak 2 rfl rfl Tryz.underlying105 rfl (by kernel_rfl)) rfl rfl rfl ?_;refine Dr.aC Grow.refl rfl (fun w hG=>aa.an rfl rfl Tryz.underlying9 rfl (k1.step hG) rfl) rfl rfl rfl ?_;refine Dr.aC Grow.refl rfl (fun w hG=>(aa.ku (b:=[]) rfl rfl rfl HB1 HB2).kj (by simp[h5])) rfl rfl rfl ?_;refine Dr.aC Grow.refl rfl (fun w hG=>aa.move rfl rfl) rfl rfl rfl ?_;refine Dr.skip rfl rfl rfl rfl rfl ?_;refine Dr.skip rfl rfl rfl rfl rfl ?_;refine Dr.skip rfl rfl rfl rfl rfl ?_;refine Dr.aC Grow.refl rfl (fun w hG=>aa.bX rfl rfl rfl) rfl rfl rfl ?_;refine Dr.val Grow.refl rfl (fun w hG=>aa.bX rfl rfl rfl) rfl ?_;refine Dr.nil ?_;refine br.done (F':=[(0,_),(1,_),(2,_),(34,_)]) rfl ⟨rfl,rfl,rfl,rfl,trivial⟩ ?_;intro w3 hw3 fw3;replace bel:=bel.step hw3;replace k1:=k1.step hw3;refine aZ 0 1 2 34 (Zt ?_);refine Cd.aS rfl rfl ?_;refine Cd.skip ?_;exact ab.join () ⟨rfl,trivial⟩ ⟨⟨h1, .inr (.inr h4), .inl h5⟩,bel,k1⟩
      ·by_cases h6:op=3
       ·skip
        refine Cd.seq ?_;refine fV 32 ?_;intro w2 hw2 zw2;replace bel:=bel.step hw2;replace k1:=k1.step hw2;have zbel:=bel.size;have zlt:=k1.lt;refine Dr.val Grow.refl rfl (fun w hG=>aa.ak 0 rfl rfl Tryz.underlying105 rfl (by kernel_rfl)) rfl ?_;refine Dr.val Grow.refl rfl (fun w hG=>aa.an rfl rfl Tryz.underlying3 rfl (k1.step hG) rfl) rfl ?_;refine Dr.dm rfl (fun w=>Ze Tryz.func214) rfl (fun w hG=>eo op w) ?_;refine Dr.val Grow.refl rfl (fun w hG=>aa.ak 3 rfl rfl Tryz.underlying105 rfl (by kernel_rfl)) rfl ?_;refine Dr.val Grow.refl rfl (fun w hG=>aa.an rfl rfl Tryz.underlying68 rfl (k1.step hG) rfl) rfl ?_;refine Dr.val Grow.refl rfl (fun w hG=>aa.len rfl rfl Tryz.underlying68) rfl ?_;refine Dr.val Grow.refl rfl (fun w hG=>(aa.cz rfl rfl rfl).kj (by omega)) rfl ?_;refine Dr.val Grow.refl rfl (fun w hG=>aa.move rfl rfl) rfl ?_;refine Dr.aC Grow.refl rfl (fun w hG=>aa.ak 1 rfl rfl Tryz.underlying105 rfl (by kernel_rfl)) rfl rfl rfl ?_;refine Dr.aC Grow.refl rfl (fun w hG=>aa.an rfl rfl Tryz.underlying2 rfl (k1.step hG) rfl) rfl rfl rfl ?_;refine Dr.aC Grow.refl rfl (fun w hG=>(aa.cz rfl rfl rfl).lI (h2)) rfl rfl rfl ?_;refine Dr.aC Grow.refl rfl (fun w hG=>aa.move rfl rfl) rfl rfl rfl ?_;refine Dr.aC Grow.refl rfl (fun w hG=>aa.ak 0 rfl rfl Tryz.underlying105 rfl (by kernel_rfl)) rfl rfl rfl ?_;refine Dr.aC Grow.refl rfl (fun w hG=>aa.an rfl rfl Tryz.underlying3 rfl (k1.step hG) rfl) rfl rfl rfl ?_;refine Dr.aC Grow.refl rfl (fun w hG=>(aa.cz rfl rfl rfl).lI (h3)) rfl rfl rfl ?_;refine Dr.aC Grow.refl rfl (fun w hG=>aa.bZ rfl rfl rfl) rfl rfl rfl ?_;refine Dr.aC Grow.refl rfl (fun w hG=>aa.move rfl rfl) rfl rfl rfl ?_;refine Dr.aC Grow.refl rfl (fun w hG=>aa.ak 0 rfl rfl Tryz.underlying105 rfl (by kernel_rfl)) rfl rfl rfl ?_;refine Dr.aC Grow.refl rfl (fun w hG=>aa.an rfl rfl Tryz.underlying3 rfl (k1.step hG) rfl) rfl rfl rfl ?_;refine Dr.aC Grow.refl rfl (fun w hG=>(aa.cz rfl rfl rfl).kj (by omega)) rfl rfl rfl ?_;refine Dr.aC Grow.refl rfl (fun w hG=>aa.bZ rfl rfl rfl) rfl rfl rfl ?_;refine Dr.val Grow.refl rfl (fun w hG=>aa.bX rfl rfl rfl) rfl ?_;refine Dr.val Grow.refl rfl (fun w hG=>aa.move rfl rfl) rfl ?_;refine Dr.aC Grow.refl rfl (fun w hG=>aa.ak 2 rfl rfl Tryz.underlying105 rfl (by kernel_rfl)) rfl rfl rfl ?_;refine Dr.aC Grow.refl rfl (fun w hG=>aa.an rfl rfl Tryz.underlying9 rfl (k1.step hG) rfl) rfl rfl rfl ?_;refine Dr.aC Grow.refl rfl (fun w hG=>(aa.ku (b:=[]) rfl rfl rfl HB1 HB2).lI (h5)) rfl rfl rfl ?_;refine Dr.aC Grow.refl rfl (fun w hG=>aa.move rfl rfl) rfl rfl rfl ?_;refine Dr.aC Grow.refl rfl (fun w hG=>aa.ak 0 rfl rfl Tryz.underlying105 rfl (by kernel_rfl)) rfl rfl rfl ?_;refine Dr.aC Grow.refl rfl (fun w hG=>aa.an rfl rfl Tryz.underlying3 rfl (k1.step hG) rfl) rfl rfl rfl ?_;refine Dr.aC Grow.refl rfl (fun w hG=>(aa.cz rfl rfl rfl).kj (by omega)) rfl rfl rfl ?_;refine Dr.aC Grow.refl rfl (fun w hG=>aa.bZ rfl rfl rfl) rfl rfl rfl ?_;refine Dr.val Grow.refl rfl (fun w hG=>aa.bX rfl rfl rfl) rfl ?_;refine Dr.nil ?_;refine br.done (F':=[(0,_),(1,_),(2,_),(34,_)]) rfl ⟨rfl,rfl,rfl,rfl,trivial⟩ ?_;intro w3 hw3 fw3;replace bel:=bel.step hw3;replace k1:=k1.step hw3;refine aZ 0 1 2 34 (Zt ?_);refine Cd.aS rfl rfl ?_;refine Cd.skip ?_;exact ab.join () ⟨rfl,trivial⟩ ⟨⟨h1, .inr (.inr h4), .inr h6⟩,bel,k1⟩
       ·skip
        refine Cd.seq ?_;refine fV 32 ?_;intro w2 hw2 zw2;replace bel:=bel.step hw2;replace k1:=k1.step hw2;have zbel:=bel.size;have zlt:=k1.lt;refine Dr.val Grow.refl rfl (fun w hG=>aa.ak 0 rfl rfl Tryz.underlying105 rfl (by kernel_rfl)) rfl ?_;refine Dr.val Grow.refl rfl (fun w hG=>aa.an rfl rfl Tryz.underlying3 rfl (k1.step hG) rfl) rfl ?_;refine Dr.dm rfl (fun w=>Ze Tryz.func214) rfl (fun w hG=>eo op w) ?_;refine Dr.val Grow.refl rfl (fun w hG=>aa.ak 3 rfl rfl Tryz.underlying105 rfl (by kernel_rfl)) rfl ?_;refine Dr.val Grow.refl rfl (fun w hG=>aa.an rfl rfl Tryz.underlying68 rfl (k1.step hG) rfl) rfl ?_;refine Dr.val Grow.refl rfl (fun w hG=>aa.len rfl rfl Tryz.underlying68) rfl ?_;refine Dr.val Grow.refl rfl (fun w hG=>(aa.cz rfl rfl rfl).kj (by omega)) rfl ?_;refine Dr.val Grow.refl rfl (fun w hG=>aa.move rfl rfl) rfl ?_;refine Dr.aC Grow.refl rfl (fun w hG=>aa.ak 1 rfl rfl Tryz.underlying105 rfl (by kernel_rfl)) rfl rfl rfl ?_;refine Dr.aC Grow.refl rfl (fun w hG=>aa.an rfl rfl Tryz.underlying2 rfl (k1.step hG) rfl) rfl rfl rfl ?_;refine Dr.aC Grow.refl rfl (fun w hG=>(aa.cz rfl rfl rfl).lI (h2)) rfl rfl rfl ?_;refine Dr.aC Grow.refl rfl (fun w hG=>aa.move rfl rfl) rfl rfl rfl ?_;refine Dr.aC Grow.refl rfl (fun w hG=>aa.ak 0 rfl rfl Tryz.underlying105 rfl (by kernel_rfl)) rfl rfl rfl ?_;refine Dr.aC Grow.refl rfl (fun w hG=>aa.an rfl rfl Tryz.underlying3 rfl (k1.step hG) rfl) rfl rfl rfl ?_;refine Dr.aC Grow.refl rfl (fun w hG=>(aa.cz rfl rfl rfl).lI (h3)) rfl rfl rfl ?_;refine Dr.aC Grow.refl rfl (fun w hG=>aa.bZ rfl rfl rfl) rfl rfl rfl ?_;refine Dr.aC Grow.refl rfl (fun w hG=>aa.move rfl rfl) rfl rfl rfl ?_;refine Dr.aC Grow.refl rfl (fun w hG=>aa.ak 0 rfl rfl Tryz.underlying105 rfl (by kernel_rfl)) rfl rfl rfl ?_;refine Dr.aC Grow.refl rfl (fun w hG=>aa.an rfl rfl Tryz.underlying3 rfl (k1.step hG) rfl) rfl rfl rfl ?_;refine Dr.aC Grow.refl rfl (fun w hG=>(aa.cz rfl rfl rfl).kj (by omega)) rfl rfl rfl ?_;refine Dr.aC Grow.refl rfl (fun w hG=>aa.bZ rfl rfl rfl) rfl rfl rfl ?_;refine Dr.val Grow.refl rfl (fun w hG=>aa.bX rfl rfl rfl) rfl ?_;refine Dr.val Grow.refl rfl (fun w hG=>aa.move rfl rfl) rfl ?_;refine Dr.aC Grow.refl rfl (fun w hG=>aa.ak 2 rfl rfl Tryz.underlying105 rfl (by kernel_rfl)) rfl rfl rfl ?_;refine Dr.aC Grow.refl rfl (fun w hG=>aa.an rfl rfl Tryz.underlying9 rfl (k1.step hG) rfl) rfl rfl rfl ?_;refine Dr.aC Grow.refl rfl (fun w hG=>(aa.ku (b:=[]) rfl rfl rfl HB1 HB2).lI (h5)) rfl rfl rfl ?_;refine Dr.aC Grow.refl rfl (fun w hG=>aa.move rfl rfl) rfl rfl rfl ?_;refine Dr.aC Grow.refl rfl (fun w hG=>aa.ak 0 rfl rfl Tryz.underlying105 rfl (by kernel_rfl)) rfl rfl rfl ?_;refine Dr.aC Grow.refl rfl (fun w hG=>aa.an rfl rfl Tryz.underlying3 rfl (k1.step hG) rfl) rfl rfl rfl ?_;refine Dr.aC Grow.refl rfl (fun w hG=>(aa.cz rfl rfl rfl).lI (h6)) rfl rfl rfl ?_;refine Dr.aC Grow.refl rfl (fun w hG=>aa.bZ rfl rfl rfl) rfl rfl rfl ?_;refine Dr.val Grow.refl rfl (fun w hG=>aa.bX rfl rfl rfl) rfl ?_;refine Dr.nil ?_;refine br.done (F':=[(0,_),(1,_),(2,_),(34,_)]) rfl ⟨rfl,rfl,rfl,rfl,trivial⟩ ?_;intro w3 hw3 fw3;replace bel:=bel.step hw3;replace k1:=k1.step hw3;refine aZ 0 1 2 34 (Zt ?_);refine Cd.aY rfl rfl ?_;refine aj ?_;refine Za ?_;refine aZ 0 1 2 34 (Zt (Cd.ret (ab.af ?_)));refine aX ?_;rw[hbf (by rintro⟨-,-,h,-⟩;rcases h with h|h;exact h5 h;exact h6 h)];exact⟨rfl,bel⟩
     ·skip
      refine Cd.seq ?_;refine fV 32 ?_;intro w2 hw2 zw2;replace bel:=bel.step hw2;replace k1:=k1.step hw2;have zbel:=bel.size;have zlt:=k1.lt;refine Dr.val Grow.refl rfl (fun w hG=>aa.ak 0 rfl rfl Tryz.underlying105 rfl (by kernel_rfl)) rfl ?_;refine Dr.val Grow.refl rfl (fun w hG=>aa.an rfl rfl Tryz.underlying3 rfl (k1.step hG) rfl) rfl ?_;refine Dr.dm rfl (fun w=>Ze Tryz.func214) rfl (fun w hG=>eo op w) ?_;refine Dr.val Grow.refl rfl (fun w hG=>aa.ak 3 rfl rfl Tryz.underlying105 rfl (by kernel_rfl)) rfl ?_;refine Dr.val Grow.refl rfl (fun w hG=>aa.an rfl rfl Tryz.underlying68 rfl (k1.step hG) rfl) rfl ?_;refine Dr.val Grow.refl rfl (fun w hG=>aa.len rfl rfl Tryz.underlying68) rfl ?_;refine Dr.val Grow.refl rfl (fun w hG=>(aa.cz rfl rfl rfl).kj (by omega)) rfl ?_;refine Dr.val Grow.refl rfl (fun w hG=>aa.move rfl rfl) rfl ?_;refine Dr.aC Grow.refl rfl (fun w hG=>aa.ak 1 rfl rfl Tryz.underlying105 rfl (by kernel_rfl)) rfl rfl rfl ?_;refine Dr.aC Grow.refl rfl (fun w hG=>aa.an rfl rfl Tryz.underlying2 rfl (k1.step hG) rfl) rfl rfl rfl ?_;refine Dr.aC Grow.refl rfl (fun w hG=>(aa.cz rfl rfl rfl).lI (h2)) rfl rfl rfl ?_;refine Dr.aC Grow.refl rfl (fun w hG=>aa.move rfl rfl) rfl rfl rfl ?_;refine Dr.aC Grow.refl rfl (fun w hG=>aa.ak 0 rfl rfl Tryz.underlying105 rfl (by kernel_rfl)) rfl rfl rfl ?_;refine Dr.aC Grow.refl rfl (fun w hG=>aa.an rfl rfl Tryz.underlying3 rfl (k1.step hG) rfl) rfl rfl rfl ?_;refine Dr.aC Grow.refl rfl (fun w hG=>(aa.cz rfl rfl rfl).lI (h3)) rfl rfl rfl ?_;refine Dr.aC Grow.refl rfl (fun w hG=>aa.bZ rfl rfl rfl) rfl rfl rfl ?_;refine Dr.aC Grow.refl rfl (fun w hG=>aa.move rfl rfl) rfl rfl rfl ?_;refine Dr.aC Grow.refl rfl (fun w hG=>aa.ak 0 rfl rfl Tryz.underlying105 rfl (by kernel_rfl)) rfl rfl rfl ?_;refine Dr.aC Grow.refl rfl (fun w hG=>aa.an rfl rfl Tryz.underlying3 rfl (k1.step hG) rfl) rfl rfl rfl ?_;refine Dr.aC Grow.refl rfl (fun w hG=>(aa.cz rfl rfl rfl).lI (h4)) rfl rfl rfl ?_;refine Dr.aC Grow.refl rfl (fun w hG=>aa.bZ rfl rfl rfl) rfl rfl rfl ?_;refine Dr.val Grow.refl rfl (fun w hG=>aa.bX rfl rfl rfl) rfl ?_;refine Dr.val Grow.refl rfl (fun w hG=>aa.move rfl rfl) rfl ?_;refine Dr.skip rfl rfl rfl rfl rfl ?_;refine Dr.skip rfl rfl rfl rfl rfl ?_;refine Dr.skip rfl rfl rfl rfl rfl ?_;refine Dr.skip rfl rfl rfl rfl rfl ?_;refine Dr.ka rfl rfl rfl rfl ?_;refine Dr.ka rfl rfl rfl rfl ?_;refine Dr.ka rfl rfl rfl rfl ?_;refine Dr.skip rfl rfl rfl rfl rfl ?_;refine Dr.val Grow.refl rfl (fun w hG=>aa.bZ rfl rfl rfl) rfl ?_;refine Dr.nil ?_;refine br.done (F':=[(0,_),(1,_),(2,_),(34,_)]) rfl ⟨rfl,rfl,rfl,rfl,trivial⟩ ?_;intro w3 hw3 fw3;replace bel:=bel.step hw3;replace k1:=k1.step hw3;refine aZ 0 1 2 34 (Zt ?_);refine Cd.aY rfl rfl ?_;refine aj ?_;refine Za ?_;refine aZ 0 1 2 34 (Zt (Cd.ret (ab.af ?_)));refine aX ?_;rw[hbf (by rintro⟨-,h,-⟩;omega)];exact⟨rfl,bel⟩
  ·skip
   refine Cd.seq ?_;refine fV 32 ?_;intro w2 hw2 zw2;replace bel:=bel.step hw2;replace k1:=k1.step hw2;have zbel:=bel.size;have zlt:=k1.lt;refine Dr.val Grow.refl rfl (fun w hG=>aa.ak 0 rfl rfl Tryz.underlying105 rfl (by kernel_rfl)) rfl ?_;refine Dr.val Grow.refl rfl (fun w hG=>aa.an rfl rfl Tryz.underlying3 rfl (k1.step hG) rfl) rfl ?_;refine Dr.dm rfl (fun w=>Ze Tryz.func214) rfl (fun w hG=>eo op w) ?_;refine Dr.val Grow.refl rfl (fun w hG=>aa.ak 3 rfl rfl Tryz.underlying105 rfl (by kernel_rfl)) rfl ?_;refine Dr.val Grow.refl rfl (fun w hG=>aa.an rfl rfl Tryz.underlying68 rfl (k1.step hG) rfl) rfl ?_;refine Dr.val Grow.refl rfl (fun w hG=>aa.len rfl rfl Tryz.underlying68) rfl ?_;refine Dr.val Grow.refl rfl (fun w hG=>(aa.cz rfl rfl rfl).lI (h1)) rfl ?_;refine Dr.val Grow.refl rfl (fun w hG=>aa.move rfl rfl) rfl ?_;refine Dr.skip rfl rfl rfl rfl rfl ?_;refine Dr.skip rfl rfl rfl rfl rfl ?_;refine Dr.skip rfl rfl rfl rfl rfl ?_;refine Dr.skip rfl rfl rfl rfl rfl ?_;refine Dr.ka rfl rfl rfl rfl ?_;refine Dr.ka rfl rfl rfl rfl ?_;refine Dr.ka rfl rfl rfl rfl ?_;refine Dr.skip rfl rfl rfl rfl rfl ?_;refine Dr.skip rfl rfl rfl rfl rfl ?_;refine Dr.ka rfl rfl rfl rfl ?_;refine Dr.ka rfl rfl rfl rfl ?_;refine Dr.ka rfl rfl rfl rfl ?_;refine Dr.skip rfl rfl rfl rfl rfl ?_;refine Dr.val Grow.refl rfl (fun w hG=>aa.bZ rfl rfl rfl) rfl ?_;refine Dr.val Grow.refl rfl (fun w hG=>aa.move rfl rfl) rfl ?_;refine Dr.skip rfl rfl rfl rfl rfl ?_;refine Dr.skip rfl rfl rfl rfl rfl ?_;refine Dr.skip rfl rfl rfl rfl rfl ?_;refine Dr.skip rfl rfl rfl rfl rfl ?_;refine Dr.ka rfl rfl rfl rfl ?_;refine Dr.ka rfl rfl rfl rfl ?_;refine Dr.ka rfl rfl rfl rfl ?_;refine Dr.skip rfl rfl rfl rfl rfl ?_;refine Dr.val Grow.refl rfl (fun w hG=>aa.bZ rfl rfl rfl) rfl ?_;refine Dr.nil ?_;refine br.done (F':=[(0,_),(1,_),(2,_),(34,_)]) rfl ⟨rfl,rfl,rfl,rfl,trivial⟩ ?_;intro w3 hw3 fw3;replace bel:=bel.step hw3;replace k1:=k1.step hw3;refine aZ 0 1 2 34 (Zt ?_);refine Cd.aY rfl rfl ?_;refine aj ?_;refine Za ?_;refine aZ 0 1 2 34 (Zt (Cd.ret (ab.af ?_)));refine aX ?_;rw[hbf (by rintro⟨h,-⟩;exact h1 h)];exact⟨rfl,bel⟩
 clear bel k1;rintro⟨⟩ wr ⟨⟨a1,a2,a3⟩,bel,k1⟩;refine Cd.seq (Cd.block (Cd.seq (aj ?_)));refine Zf 1 Tryz.underlying105 ?_;refine ZL Tryz.underlying2 k1 ?_;refine ff ?_;refine Za ?_;refine dM 1 35 (Zt ?_);refine Cd.au rfl (fun hc=> ?_) (fun hc=> ?_)
 ·skip
  refine Cd.skip (Zt ?_);refine Cd.aY rfl (decide_eq_true (by assumption)) ?_;refine aj ?_;refine Za ?_;refine bu 1 2 35 (Zt (Cd.ret (ab.ah (ab.af ?_))));refine aX ?_;rw[hbf (by omega)];exact⟨rfl,bel⟩
 ·skip
  refine aj ?_;refine Zf 0 Tryz.underlying105 ?_;refine ZL Tryz.underlying3 k1 ?_;refine bq ?_;refine Zm ?_;refine av.start ?_;refine bk (fun hcx=>aa.ak 1 rfl rfl Tryz.underlying105 rfl (by kernel_rfl)) ?_;refine Zn (fun hcx=>aa.an rfl rfl Tryz.underlying2 rfl k1 rfl) ?_;refine Zn (fun hcx=>aa.gtr rfl rfl rfl) ?_;refine ep ?_;refine Za ?_;refine dM 1 35 (Zt ?_);refine Cd.cond rfl (fun h=> ?_) (fun h=> ?_)
  ·skip
   refine Cd.skip (Zt ?_);refine Cd.aY rfl h ?_;refine aj ?_;refine Za ?_;refine bu 1 2 35 (Zt (Cd.ret (ab.ah (ab.af ?_))));refine aX ?_;simp at h;rw[hbf (by omega)];exact⟨rfl,bel⟩
  ·simp at h
   refine Zr ?_;refine Zf 0 Tryz.underlying105 ?_;refine ZL Tryz.underlying3 k1 ?_;refine bq ?_;refine Zm ?_;refine av.start ?_;refine bk (fun hcx=>aa.ak 2 rfl rfl Tryz.underlying105 rfl (by kernel_rfl)) ?_;refine Zn (fun hcx=>aa.an rfl rfl Tryz.underlying9 rfl k1 rfl) ?_;refine av.bj rfl rfl rfl rfl rfl rfl rfl (fun hcx=>Ze Tryz.func188) (fun hcx=>uV nm _ HB1 hnl) ?_;intro w2 hw2;replace bel:=bel.step hw2;replace k1:=k1.step hw2;refine Zn (fun hcx=>aa.not rfl rfl) ?_;refine ep ?_;refine Za ?_;refine dM 1 35 (Zt ?_);refine Cd.cond rfl (fun h2=> ?_) (fun h2=> ?_)
   ·skip
    refine aj ?_;refine Za ?_;refine bu 1 2 35 (Zt (Cd.ret (ab.ah (ab.af ?_))));refine aX ?_;simp at h2;rw[hbf (by rintro⟨-,-,-,-,-,h7⟩;rw[h7 h2.1] at h2;cases h2.2)];exact⟨rfl,bel⟩
   ·have hh:=iw a1 a2 a3 (by omega) (by omega) (fun h3=>by simp at h2;exact h2 h3)
    refine Cd.skip (ab.ai (aB ?_));refine Zf 3 Tryz.underlying105 ?_;refine ZL Tryz.underlying68 k1 ?_;refine Zc (Ze Tryz.func107) (hcl _ bel) ?_;rintro en w9 ⟨rfl,hb9⟩;refine⟨_,rfl,?_⟩;replace bel:=bel.step hb9;replace k1:=k1.step hb9;refine iC ?_;refine Za ?_;refine bu 1 2 35 (Zt (Cd.ret ?_));refine aX ?_;refine⟨aW (aF ?_),bel⟩;rw[hbt,hh,Bool.true_and]
    induction e.args with
    |nil=>rfl
    |cons x r ih=>simp only[List.any_cons,List.all_cons,Bool.not_or,Bool.not_not,ih]
theorem lP (e:Ex)(B:Nat)(v:Value)(w:World)(hd:e.depth≤900)(hrep:lE w B e v)(hB:B≤w.heap.size):Calls Tryz.prog 136 #[v] w fun en w'=>en= .returned (.bool (decide (e.nodes≤200)&&decide (e.depth≤16)&&bF e))∧Grow w w':=by
 have hs:=fun W (hb:Below w.heap.size w W)=>sW e.nodes e 0 B v W (Nat.le_refl _) (by omega) (hrep.below (hb.mono hB)) (Nat.le_trans hB hb.size);have hbt:=fun W (hb:Below w.heap.size w W)=>jj e.nodes e B v W (Nat.le_refl _) (hrep.below (hb.mono hB)) (Nat.le_trans hB hb.size);have hc:=oW e;have hdn:=e.bh;have hsz:=qD e
 have hres:(decide (e.nodes≤200)&&decide (e.depth≤16))=(decide ((ve e).1≤200)&&decide ((ve e).2≤16)):=by
  obtain⟨c1,c2⟩:=hc;rw[Bool.eq_iff_iff];simp only[Bool.and_eq_true,decide_eq_true_eq]
  constructor
  ·rintro⟨h1,h2⟩
   rw[c2 (by omega)];omega
  ·rintro⟨h1,h2⟩
   have h3:e.nodes≤200:=by omega
   rw[c2 (by omega)] at h2;omega
 rw[hres];obtain⟨A,c,rfl,-⟩:=hrep.open;have bel:=Below.refl w.heap.size w
 generalize (ve e)=s at *
 refine Zs 10 Tryz.func136 ?_;refine aj ?_;refine Seq.box rfl rfl rfl rfl rfl ?_;intro g1 w1 n1;have e1:=Nat.le_trans bel.size n1.ge;replace bel:=bel.step n1.below;have k1:=n1.ao;refine Za ?_;refine bu 0 1 2 (aB ?_);refine ZW 4 Tryz.underlying105 k1 ?_;refine Zc (Ze Tryz.func179) (hs _ bel) ?_;rintro en w5 ⟨rfl,hb5⟩;refine⟨_,rfl,?_⟩;replace bel:=bel.step hb5;replace k1:=k1.step hb5;refine Zc (Ze Tryz.func141) (iN s.1 s.2 _) ?_;rintro en w6 ⟨rfl,hb6⟩;refine⟨_,rfl,?_⟩;replace bel:=bel.step hb6;replace k1:=k1.step hb6;refine Zm ?_;refine av.start ?_;refine bk (fun hcx=>aa.dr rfl rfl Tryz.underlying105 rfl k1 (m:=4) (by kernel_rfl) rfl) ?_;refine av.bj rfl rfl rfl rfl rfl rfl rfl (fun hcx=>Ze Tryz.func180) (fun hcx=>hbt _ bel) ?_;intro w2 hw2;replace bel:=bel.step hw2;replace k1:=k1.step hw2;refine ep ?_;refine Za ?_;refine bu 0 1 2 (Zt (Cd.ret ?_));refine aX ?_;exact⟨aW (aF (by cases (decide (s.1≤200)&&decide (s.2≤16))<;>rfl)),bel⟩
def lH (y:Int):Bool:=decide (y%4=0)&&(decide (y%100≠0)||decide (y%400=0))
def cq (y m:Int):Int:=if m=2 then(if lH y then 29 else 28) else if m=4∨m=6∨m=9∨m=11 then 30 else if m=1∨m=3∨m=5∨m=7∨m=8∨m=10∨m=12 then 31 else 0
theorem BZ (y:Int)(w:World)(h0:0≤y):Calls Tryz.prog 256 #[.int .i64 y] w fun e w'=>e= .returned (.bool (lH y))∧w=w':=by
 refine Zs 16 Tryz.func256 ?_;refine aj ?_;refine Za ?_;refine dM 0 2 (aB ?_);refine Zm ?_;refine Zv (aa.mH rfl rfl rfl (by omega) (by omega)) ?_;refine bq ?_;refine Zm ?_;refine av.start ?_;refine bk (fun hcx=>aa.move rfl rfl) ?_;refine Zn (fun hcx=>aa.mH rfl rfl rfl (by omega) (by omega)) ?_;refine Zn (fun hcx=>aa.cz rfl rfl rfl) ?_;refine jl ?_;refine bk (fun hcx=>aa.move rfl rfl) ?_;refine Zn (fun hcx=>aa.mH rfl rfl rfl (by omega) (by omega)) ?_;refine Zn (fun hcx=>aa.fm rfl rfl rfl) ?_;refine av.E6 rfl rfl rfl rfl rfl rfl rfl rfl rfl rfl rfl ?_;refine ep ?_;refine Za ?_;refine dM 0 2 (Zt (Cd.ret ?_));refine aX ?_;refine⟨aW (aF ?_),rfl⟩;unfold lH;rw[Bool.eq_iff_iff]
theorem Cm (y m:Int)(w:World)(h0:0≤y):Calls Tryz.prog 251 #[.int .i64 y, .int .i64 m] w fun e w'=>e= .returned (.int .i64 (cq y m))∧w=w':=by
 refine Zs 23 Tryz.func251 ?_;refine aj ?_;refine Za ?_;refine bu 0 1 4 (aJ (aj ?_));refine Zm ?_;refine aZ 0 1 4 5 (Zt (Cd.block (aj ?_)));refine bq ?_;refine Za ?_;refine aU 0 1 4 5 6 (Zt ?_);refine Cd.au rfl (fun h=> ?_) (fun h=> ?_)
 ·subst h
  refine Cd.seq (aj ?_);refine Zm ?_;refine Zc (Ze Tryz.func256) (BZ y _ h0) ?_;rintro e w2 ⟨rfl,rfl⟩;refine⟨_,rfl,?_⟩;refine bl 0 1 4 5 6 9 (Zt ?_);refine Cd.cond rfl (fun h2=> ?_) (fun h2=> ?_)
  ·skip
   refine aj ?_;refine Za ?_;refine bl 0 1 4 5 6 9 (Zt (Cd.ret (ab.af (ab.ah (ab.af ?_)))));refine aX ?_;exact⟨aW (int_eq (by unfold cq;rw[if_pos rfl,if_pos h2])),rfl⟩
  ·skip
   refine Cd.skip (aB ?_);refine Za ?_;refine bl 0 1 4 5 6 9 (Zt (Cd.ret (ab.ah (ab.af ?_))));refine aX ?_;exact⟨aW (int_eq (by unfold cq;rw[if_pos rfl,h2];rfl)),rfl⟩
 refine Cd.seq (aj ?_);refine bq ?_;refine Za ?_;refine bl 0 1 4 5 6 10 (Zt ?_);refine Cd.au rfl (fun a4=> ?_) (fun a4=> ?_)
 ·skip
  refine Cd.skip (Zt ?_);refine Cd.aY rfl (decide_eq_true a4) ?_;refine aj ?_;refine Za ?_;refine bl 0 1 4 5 6 10 (Zt (Cd.ret (ab.ah (ab.af ?_))));refine aX ?_;exact⟨aW (int_eq (by unfold cq;rw[if_neg h,if_pos (by omega)])),rfl⟩
 refine aj ?_;refine bq ?_;refine Za ?_;refine bl 0 1 4 5 6 10 (Zt ?_);refine Cd.au rfl (fun a6=> ?_) (fun a6=> ?_)
 ·skip
  refine Cd.skip (Zt ?_);refine Cd.aY rfl (decide_eq_true a6) ?_;refine aj ?_;refine Za ?_;refine bl 0 1 4 5 6 10 (Zt (Cd.ret (ab.ah (ab.af ?_))));refine aX ?_;exact⟨aW (int_eq (by unfold cq;rw[if_neg h,if_pos (by omega)])),rfl⟩
 refine aj ?_;refine bq ?_;refine Za ?_;refine bl 0 1 4 5 6 10 (Zt ?_);refine Cd.au rfl (fun a9=> ?_) (fun a9=> ?_)
 ·skip
  refine Cd.skip (Zt ?_);refine Cd.aY rfl (decide_eq_true a9) ?_;refine aj ?_;refine Za ?_;refine bl 0 1 4 5 6 10 (Zt (Cd.ret (ab.ah (ab.af ?_))));refine aX ?_;exact⟨aW (int_eq (by unfold cq;rw[if_neg h,if_pos (by omega)])),rfl⟩
 refine Zr ?_;refine bq ?_;refine Za ?_;refine bl 0 1 4 5 6 10 (Zt ?_);refine Cd.au rfl (fun a11=> ?_) (fun a11=> ?_)
 ·skip
  refine aj ?_;refine Za ?_;refine bl 0 1 4 5 6 10 (Zt (Cd.ret (ab.ah (ab.af ?_))));refine aX ?_;exact⟨aW (int_eq (by unfold cq;rw[if_neg h,if_pos (by omega)])),rfl⟩
 refine Cd.seq (aj ?_);refine bq ?_;refine Za ?_;refine bp 0 1 4 5 6 10 15 (Zt ?_);refine Cd.au rfl (fun a1=> ?_) (fun a1=> ?_)
 ·skip
  refine Cd.skip (Zt ?_);refine Cd.aY rfl (decide_eq_true a1) ?_;refine aj ?_;refine Za ?_;refine bp 0 1 4 5 6 10 15 (Zt (Cd.ret (ab.ah (ab.af ?_))));refine aX ?_;exact⟨aW (int_eq (by unfold cq;rw[if_neg h,if_neg (by omega),if_pos (by omega)])),rfl⟩
 refine aj ?_;refine bq ?_;refine Za ?_;refine bp 0 1 4 5 6 10 15 (Zt ?_);refine Cd.au rfl (fun a3=> ?_) (fun a3=> ?_)
 ·skip
  refine Cd.skip (Zt ?_);refine Cd.aY rfl (decide_eq_true a3) ?_;refine aj ?_;refine Za ?_;refine bp 0 1 4 5 6 10 15 (Zt (Cd.ret (ab.ah (ab.af ?_))));refine aX ?_;exact⟨aW (int_eq (by unfold cq;rw[if_neg h,if_neg (by omega),if_pos (by omega)])),rfl⟩
 refine aj ?_;refine bq ?_;refine Za ?_;refine bp 0 1 4 5 6 10 15 (Zt ?_);refine Cd.au rfl (fun a5=> ?_) (fun a5=> ?_)
 ·skip
  refine Cd.skip (Zt ?_);refine Cd.aY rfl (decide_eq_true a5) ?_;refine aj ?_;refine Za ?_;refine bp 0 1 4 5 6 10 15 (Zt (Cd.ret (ab.ah (ab.af ?_))));refine aX ?_;exact⟨aW (int_eq (by unfold cq;rw[if_neg h,if_neg (by omega),if_pos (by omega)])),rfl⟩
 refine aj ?_;refine bq ?_;refine Za ?_;refine bp 0 1 4 5 6 10 15 (Zt ?_);refine Cd.au rfl (fun a7=> ?_) (fun a7=> ?_)
 ·skip
  refine Cd.skip (Zt ?_);refine Cd.aY rfl (decide_eq_true a7) ?_;refine aj ?_;refine Za ?_;refine bp 0 1 4 5 6 10 15 (Zt (Cd.ret (ab.ah (ab.af ?_))));refine aX ?_;exact⟨aW (int_eq (by unfold cq;rw[if_neg h,if_neg (by omega),if_pos (by omega)])),rfl⟩
 refine aj ?_;refine bq ?_;refine Za ?_;refine bp 0 1 4 5 6 10 15 (Zt ?_);refine Cd.au rfl (fun a8=> ?_) (fun a8=> ?_)
 ·skip
  refine Cd.skip (Zt ?_);refine Cd.aY rfl (decide_eq_true a8) ?_;refine aj ?_;refine Za ?_;refine bp 0 1 4 5 6 10 15 (Zt (Cd.ret (ab.ah (ab.af ?_))));refine aX ?_;exact⟨aW (int_eq (by unfold cq;rw[if_neg h,if_neg (by omega),if_pos (by omega)])),rfl⟩
 refine aj ?_;refine bq ?_;refine Za ?_;refine bp 0 1 4 5 6 10 15 (Zt ?_);refine Cd.au rfl (fun a10=> ?_) (fun a10=> ?_)
 ·skip
  refine Cd.skip (Zt ?_);refine Cd.aY rfl (decide_eq_true a10) ?_;refine aj ?_;refine Za ?_;refine bp 0 1 4 5 6 10 15 (Zt (Cd.ret (ab.ah (ab.af ?_))));refine aX ?_;exact⟨aW (int_eq (by unfold cq;rw[if_neg h,if_neg (by omega),if_pos (by omega)])),rfl⟩
 refine Zr ?_;refine bq ?_;refine Za ?_;refine bp 0 1 4 5 6 10 15 (Zt ?_);refine Cd.au rfl (fun a12=> ?_) (fun a12=> ?_)
 ·skip
  refine aj ?_;refine Za ?_;refine bp 0 1 4 5 6 10 15 (Zt (Cd.ret (ab.ah (ab.af ?_))));refine aX ?_;exact⟨aW (int_eq (by unfold cq;rw[if_neg h,if_neg (by omega),if_pos (by omega)])),rfl⟩
 refine Cd.skip (ab.ai (aB ?_));refine Za ?_;refine bp 0 1 4 5 6 10 15 (Zt (Cd.ret ?_));refine aX ?_;exact⟨aW (int_eq (by unfold cq;rw[if_neg h,if_neg (by omega),if_neg (by omega)])),rfl⟩
def kT (y m d:Int):Bool:=decide (1970≤y)&&decide (y≤9999)&&decide (1≤d)&&decide (d≤cq y m)
def rR (y m:Int):Int:=if m<3 then y-1 else y
def ofM (m:Int):Int:=if m<3 then m+9 else m-3
def iT (y m d:Int):Int:=rR y m/400*146097+(rR y m%400*365+rR y m%400/4-rR y m%400/100+((153*ofM m+2)/5+d-1))-719468
theorem oV {y m:Int}(h:0<cq y m):1≤m∧m≤12∧cq y m≤31:=by
 unfold cq at *;split
 ·split<;>omega
 ·split
  ·omega
  ·split
   ·omega
   ·rename_i h1 h2 h3
    rw[if_neg h1,if_neg h2,if_neg h3] at h;omega
theorem xx (y m d:Int)(w:World)(hy:bw y)(hm: -100≤m∧m≤100)(hd:bw d):
  Calls Tryz.prog 244 #[.int .i64 y, .int .i64 m, .int .i64 d] w fun e w'=>e= .returned (.tuple #[.int .i64 (if kT y m d then iT y m d else 0), .bool (kT y m d)])∧Grow w w':=by
 have bel:=Below.refl w.heap.size w;unfold bw at hy hd
 by_cases hy2:y<1970∨9999<y
 ·have hf:kT y m d=false:=by
   unfold kT;rw[Bool.eq_false_iff];simp;omega
  rw[hf];refine Zs 64 Tryz.func244 ?_;refine aj ?_;refine Za ?_;refine Za ?_;refine aU 0 1 2 6 7 (aJ (aj ?_));refine Zm ?_;refine ff ?_;refine Zm ?_;refine av.start ?_;refine bk (fun hcx=>aa.move rfl rfl) ?_;refine Zn (fun hcx=>aa.gtr rfl rfl rfl) ?_;refine eG ?_;refine Zm ?_;refine av.start ?_;refine bk (fun hcx=>aa.move rfl rfl) ?_;refine Zn (fun hcx=>aa.lss rfl rfl rfl) ?_;refine eG ?_;refine Zm ?_;refine av.start ?_;refine bk (fun hcx=>aa.move rfl rfl) ?_;refine jl ?_;refine jl ?_;refine av.bj rfl rfl rfl rfl rfl rfl rfl (fun hcx=>Ze Tryz.func251) (fun hcx=>(by exfalso;simp[dx] at hcx;omega:Calls _ _ _ _ (fun e w'=>e= .returned (.int .i64 0)∧Grow _ w'))) ?_;intro w1 hw1;replace bel:=bel.step hw1;refine Zn (fun hcx=>aa.gtr rfl rfl rfl) ?_;refine eG ?_;refine bl 0 1 2 6 7 28 (Zt ?_);refine Cd.aY rfl (by simp;omega) ?_;refine aj ?_;refine Za ?_;refine Za ?_;refine bl 0 1 2 6 7 28 (Zt (Cd.ret (ab.af ?_)));refine dO ?_;exact⟨rfl,bel⟩
 have hdc:=fun w=>(Cm y m w (by omega)).mono (fun e w' (h:e= .returned (.int .i64 (cq y m))∧w=w')=>(⟨h.1,by rw[←h.2];exact Grow.refl _⟩:e= .returned (.int .i64 (cq y m))∧Grow w w'));refine Zs 64 Tryz.func244 ?_;refine aj ?_;refine Za ?_;refine Za ?_;refine aU 0 1 2 6 7 (aJ (aj ?_));refine Zm ?_;refine ff ?_;refine Zm ?_;refine av.start ?_;refine bk (fun hcx=>aa.move rfl rfl) ?_;refine Zn (fun hcx=>aa.gtr rfl rfl rfl) ?_;refine eG ?_;refine Zm ?_;refine av.start ?_;refine bk (fun hcx=>aa.move rfl rfl) ?_;refine Zn (fun hcx=>aa.lss rfl rfl rfl) ?_;refine eG ?_;refine Zm ?_;refine av.start ?_;refine bk (fun hcx=>aa.move rfl rfl) ?_;refine jl ?_;refine jl ?_;refine av.bj rfl rfl rfl rfl rfl rfl rfl (fun hcx=>Ze Tryz.func251) (fun hcx=>hdc _) ?_;intro w1 hw1;replace bel:=bel.step hw1;refine Zn (fun hcx=>aa.gtr rfl rfl rfl) ?_;refine eG ?_;refine bl 0 1 2 6 7 28 (Zt ?_);refine Cd.cond rfl (fun h=> ?_) (fun h=> ?_)
 ·have hf:kT y m d=false:=by
   unfold kT;rw[Bool.eq_false_iff];simp at h⊢;omega
  rw[hf];refine aj ?_;refine Za ?_;refine Za ?_;refine bl 0 1 2 6 7 28 (Zt (Cd.ret (ab.af ?_)));refine dO ?_;exact⟨rfl,bel⟩
 have hd2:1≤d∧d≤cq y m:=by
  simp at h;omega
 have hok:kT y m d=true:=by
  unfold kT;simp;omega
 rw[hok,if_pos rfl];obtain⟨m1,m2,m3⟩:=oV (y:=y) (m:=m) (by omega);have hz:iT y m d=rR y m/400*146097+(rR y m%400*365+rR y m%400/4-rR y m%400/100+((153*ofM m+2)/5+d-1))-719468:=rfl;have hY:1969≤rR y m∧rR y m≤9999:=by unfold rR;split<;>omega
 have hM:0≤ofM m∧ofM m≤11:=by unfold ofM;split<;>omega
 have eY:rR y m=if m<3 then y-1 else y:=rfl;have eM:ofM m=if m<3 then m+9 else m-3:=rfl
 generalize rR y m=Y at *
 generalize ofM m=M at *
 refine Cd.skip (aB ?_);refine Zm ?_;refine Zm ?_;refine rF ?_;refine Za ?_;refine Za ?_;refine cn 0 1 2 6 7 8 9 28 (Zt ?_);refine Cd.lC (σ:=Unit) (fun _=>[(2, .int .i64 d),(8, .int .i64 Y),(9, .int .i64 M)]) (fun _ wr=>Below w.heap.size w wr) ?_ ?_
 ·skip
  refine aj ?_;refine Zm ?_;refine ff ?_;refine du 0 1 2 6 7 8 9 28 33 (Zt ?_);refine Cd.au rfl (fun hc=> ?_) (fun hc=> ?_)
  ·skip
   refine Zr ?_;refine Zm ?_;refine rF ?_;refine Zm ?_;refine dt ?_;refine Za ?_;refine Za ?_;refine du 0 1 2 6 7 8 9 28 33 ?_;exact ab.join () ⟨rfl,congrArg (fun z=>some (Value.int .i64 z)) (by rw[eY,if_pos (by omega)]),congrArg (fun z=>some (Value.int .i64 z)) (by rw[eM,if_pos (by omega)];omega),trivial⟩ bel
  ·skip
   refine Cd.skip ?_;exact ab.join () ⟨rfl,congrArg (fun z=>some (Value.int .i64 z)) (by rw[eY,if_neg (by omega)]),congrArg (fun z=>some (Value.int .i64 z)) (by rw[eM,if_neg (by omega)]),trivial⟩ bel
 clear bel;rintro⟨⟩ wr bel;refine aj ?_;refine Zm ?_;refine Zv (aa.tl rfl rfl rfl (by omega) (by omega)) ?_;refine dt ?_;refine Zv (aa.mf rfl rfl rfl (by omega) (by omega) (by omega)) ?_;refine Zm ?_;refine dt ?_;refine rF ?_;refine Za ?_;refine aZ 2 8 9 10 (aB ?_);refine Zm ?_;refine Zv (aa.mH rfl rfl rfl (by omega) (by omega)) ?_;refine Zv (aa.tl rfl rfl rfl (by omega) (by omega)) ?_;refine Zm ?_;refine Zv (aa.mH rfl rfl rfl (by omega) (by omega)) ?_;refine Zv (aa.mf rfl rfl rfl (by omega) (by omega) (by omega)) ?_;refine dt ?_;refine Zm ?_;refine Zv (aa.mH rfl rfl rfl (by omega) (by omega)) ?_;refine Zv (aa.mf rfl rfl rfl (by omega) (by omega) (by omega)) ?_;refine rF ?_;refine Zm ?_;refine dt ?_;refine Za ?_;refine aU 2 8 9 10 11 (aB ?_);refine Zm ?_;refine Zv (aa.mf rfl rfl rfl (by omega) (by omega) (by omega)) ?_;refine Zv (aa.tl rfl rfl rfl (by omega) (by omega)) ?_;refine Zm ?_;refine dt ?_;refine rF ?_;refine Za ?_;refine Za ?_;refine bp 2 6 7 8 9 10 11 (Zt (Cd.ret ?_));refine dO ?_;exact⟨by rw[hz],bel⟩
def je (l:List Nat):Int:=if l.all ir then(dQ l:Int) else -1
theorem Ds (l:List Nat)(h:l.length≤4): -1≤je l∧je l≤9999:=by
 unfold je;split
 ·rename_i ha
  have:=s9 l (fun c hc=>by
   have:=List.all_eq_true.1 ha c hc;unfold ir at this;simp at this;exact this)
  have h2:10^l.length≤10^4:=Nat.pow_le_pow_right (by omega) h;omega
 ·omega
theorem vb (l:List Nat)(h:l.length≤2): -1≤je l∧je l≤99:=by
 unfold je;split
 ·rename_i ha
  have:=s9 l (fun c hc=>by
   have:=List.all_eq_true.1 ha c hc;unfold ir at this;simp at this;exact this)
  have h2:10^l.length≤10^2:=Nat.pow_le_pow_right (by omega) h;omega
 ·omega
theorem jC (g:Nat)(l:List Nat)(i j:Nat)(w:World)(hl:∀x∈l,x<256)(hg:aH w g 9 #[.string (strOf l)]) (hi:i≤j) (hj:j≤l.length) (h4:j≤i+4):
  Calls Tryz.prog 243 #[.int .i64 (i:Int), .int .i64 (j:Int), .pointer (some ⟨g,0,none⟩)] w fun e w'=>e= .returned (.int .i64 (je ((l.take j).drop i)))∧Grow w w':=by
 have bel:=Below.refl w.heap.size w;have hll:l.length≤9223372036854775807∨9223372036854775807<l.length:=by omega
 have hM:∀x∈(l.take j).drop i,x<256:=oU (tJ hl j) i;have hMl:((l.take j).drop i).length≤4:=by rw[List.length_drop,List.length_take];omega
 have kg:=hg;refine Zs 33 Tryz.func243 ?_;refine aj ?_;refine Za ?_;refine aZ 0 1 2 5 (aB ?_);refine Za ?_;refine aU 0 1 2 5 6 (aJ (aj ?_));refine ZL Tryz.underlying9 kg ?_;refine Zm ?_;refine Zm ?_;refine Zv (aa.B3 (i:=i) (j:=j) rfl rfl rfl rfl Tryz.underlying9 rfl rfl hi hj) ?_
 generalize (l.take j).drop i=M at *
 refine Seq.xf rfl rfl Tryz.underlying9 Tryz.underlying64 Tryz.underlying5 hM rfl rfl rfl ?_;intro g13 c13 w13 hc13 n13;replace bel:=bel.step n13.below;have hrd13:=n13.reads;have hB13:=n13.lt;refine Zv (aa.len rfl rfl Tryz.underlying64) ?_;refine Zm ?_;refine cn 0 1 2 5 6 13 14 15 (Zt (Cd.block ?_))
 refine Cd.loop (σ:=Nat) (fun k=>[(6, .int .i64 ((dQ (M.take k):Nat):Int)),(13, .slice (some ⟨g13,0,none⟩) M.length c13),(14, .int .i64 (M.length:Int)),(15, .int .i64 (k:Int))])
  (fun k wr=>k≤M.length∧(∀c∈M.take k,js c)∧Below w.heap.size w wr∧Below w13.heap.size w13 wr) (fun k=>M.length-k) 0 ⟨by omega,by simp,bel,Below.refl _ _⟩ ⟨rfl,rfl,rfl,rfl,trivial⟩ ?_
 clear bel;rintro k wr ⟨hk,hdg,bel,bl13⟩;have hvl:=s9 (M.take k) hdg;rw[List.length_take,Nat.min_eq_left hk] at hvl;have h10:10^k≤10^4:=Nat.pow_le_pow_right (by omega) (by omega);refine aj ?_;refine ff ?_;refine aU 6 13 14 15 16 (aJ ?_);refine Cd.au rfl (fun hc=> ?_) (fun hc=> ?_)
 ·obtain⟨c,hcc⟩:∃c,M[k]? =some c:=⟨_,List.getElem?_eq_getElem (show k<M.length by omega)⟩
  have hc256:=hM c (List.mem_of_getElem? hcc)
  have hcell:wr.cell? (Addr.add ⟨g13,0,none⟩ k)=some (.int .u8 (c:Int)):=by
   obtain⟨ad,e,hb,hcs⟩:=hrd13.2 (by omega);injection e with e
   subst e;rw[bl13.cell (by rw[ag];exact hB13)];exact hcs k _ (by rw[nt,hcc];rfl)
  have htk:M.take (k+1)=M.take k++[c]:=by rw[List.take_add_one,hcc];rfl
  have hvs:dQ (M.take (k+1))=10*dQ (M.take k)+(c-48):=by rw[htk,se]
  generalize hV:dQ (M.take k)=V at *
  refine Cd.skip (aJ (Cd.block (aj ?_)));refine Zv (aa.dg rfl rfl rfl Tryz.underlying64 (by kernel_rfl) (j:=k) rfl (by omega)) ?_;refine Zv (aa.dF rfl rfl Tryz.underlying5 rfl hcell) ?_;refine Za ?_;refine bl 6 8 13 14 15 16 (aJ (aj ?_));refine Zm ?_;refine ff ?_;refine Zm ?_;refine av.start ?_;refine bk (fun hcx=>aa.move rfl rfl) ?_;refine Zn (fun hcx=>aa.gtr rfl rfl rfl) ?_;refine eG ?_;refine bp 6 8 13 14 15 16 24 (Zt ?_);refine Cd.cond rfl (fun h=> ?_) (fun h=> ?_)
  ·have hno:¬M.all ir=true:=by
    intro ha;have:=List.all_eq_true.1 ha c (List.mem_of_getElem? hcc);unfold ir at this;simp at this h;omega
   refine aj ?_;refine Za ?_;refine cn 5 6 8 13 14 15 16 24 (Zt (Cd.ret (ab.af (ab.ah (ab.af (ab.aL (ab.ah (ab.af ?_))))))));refine aX ?_;exact⟨aW (int_eq (by unfold je;rw[if_neg hno])),bel⟩
  ·have hcd:js c:=by unfold js;simp at h;omega
   have hcd2:=hcd;unfold js at hcd2;clear h;refine Cd.skip (dU ?_);refine Zm ?_;refine Zv (aa.tl rfl rfl rfl (by omega) (by omega)) ?_;refine Zm ?_;refine Zv (aa.DB rfl rfl rfl (qJ (by omega) (by omega))) ?_;refine Zv (aa.fJ rfl rfl Tryz.underlying5 Tryz.underlying3 (iR (by omega) (by omega))) ?_;refine dt ?_;refine Za ?_;refine bp 6 8 13 14 15 16 24 (ab.ai (dU ?_));refine dt ?_;refine Zm ?_;refine bp 6 8 13 14 15 16 24 ?_;refine ab.round (k+1) ⟨congrArg (fun x=>some (Value.int .i64 x)) (show(10*(V:Int)+((c:Int)-48))=((dQ (M.take (k+1)):Nat):Int) by omega),rfl,rfl,rfl,trivial⟩ ⟨by omega,?_,bel,bl13⟩ (by omega);intro x hx;rw[htk] at hx;rcases List.mem_append.1 hx with h|h
   ·exact hdg x h
   ·simp at h;subst h;exact hcd
 ·obtain rfl:k=M.length:=by omega
  rw[List.take_of_length_le (Nat.le_refl _)] at hdg⊢
  have hall:M.all ir=true:=by
   rw[List.all_eq_true];intro c hc;have:=hdg c hc;unfold js at this;unfold ir;simp;omega
  refine Cd.exit (ab.aA (ab.ay (ab.az (aB ?_))));refine Zm ?_;refine Za ?_;refine bl 5 6 13 14 15 16 (Zt (Cd.ret ?_));refine aX ?_;exact⟨aW (int_eq (by unfold je;rw[if_pos hall])),bel⟩
theorem kB:∀args w,(callFunc 243 args).run Tryz.prog w= .ok (.enter 243 args) w:=fun args w=>aO Tryz.func243 (by kernel_rfl) rfl args w
def jh (l:List Nat):Bool:=decide (l.length=10)&&decide (l[4]? =some 45)&&decide (l[7]? =some 45)&&kT (je ((l.take 4).drop 0)) (je ((l.take 7).drop 5)) (je ((l.take 10).drop 8))
def iG (l:List Nat):Int:=if jh l then iT (je ((l.take 4).drop 0)) (je ((l.take 7).drop 5)) (je ((l.take 10).drop 8)) else 0
theorem rB (l:List Nat)(w:World)(hl:∀x∈l,x<256)(hlen:l.length≤9223372036854775807):
  Calls Tryz.prog 239 #[.string (strOf l)] w fun e w'=>e= .returned (.tuple #[.int .i64 (iG l), .bool (jh l)])∧Grow w w':=by
 have bel:=Below.refl w.heap.size w
 by_cases h10:l.length=10
 ·obtain⟨c4,h4⟩:∃c,l[4]? =some c:=⟨_,List.getElem?_eq_getElem (by omega)⟩
  obtain⟨c7,h7⟩:∃c,l[7]? =some c:=⟨_,List.getElem?_eq_getElem (by omega)⟩;have hc4:=hl c4 (List.mem_of_getElem? h4);have hc7:=hl c7 (List.mem_of_getElem? h7);refine Zs 28 Tryz.func239 ?_;refine aj ?_;refine Seq.box rfl rfl rfl rfl rfl ?_;intro g1 w1 n1;have e1:=Nat.le_trans bel.size n1.ge;replace bel:=bel.step n1.below;have k1:=n1.ao;refine Za ?_;refine Za ?_;refine aZ 0 1 2 3 (aJ (aj ?_));refine ZL Tryz.underlying9 k1 ?_;refine Zv (aa.eB rfl rfl Tryz.underlying9) ?_;refine kL ?_;refine Zm ?_;refine av.start ?_;refine bk (fun hcx=>aa.an rfl rfl Tryz.underlying9 rfl k1 rfl) ?_;refine Zn (fun hcx=>aa.gg (l:=l) (j:=4) rfl rfl rfl Tryz.underlying9 rfl h4 hc4) ?_;refine Zn (fun hcx=>aa.cz rfl rfl rfl) ?_;refine eG ?_;refine Zm ?_;refine av.start ?_;refine bk (fun hcx=>aa.an rfl rfl Tryz.underlying9 rfl k1 rfl) ?_;refine Zn (fun hcx=>aa.gg (l:=l) (j:=7) rfl rfl rfl Tryz.underlying9 rfl h7 hc7) ?_;refine Zn (fun hcx=>aa.cz rfl rfl rfl) ?_;refine eG ?_;refine aU 0 1 2 3 17 (Zt ?_);refine Cd.cond rfl (fun h=> ?_) (fun h=> ?_)
  ·have hf:jh l=false:=by
    rw[Bool.eq_false_iff];intro h2;unfold jh at h2;rw[h4,h7] at h2;simp at h2 h;omega
   have hz:iG l=0:=by unfold iG;rw[hf];rfl
   rw[hf,hz];refine aj ?_;refine Za ?_;refine Za ?_;refine aU 0 1 2 3 17 (Zt (Cd.ret (ab.af ?_)));refine dO ?_;exact⟨rfl,bel⟩
  ·have h45:c4=45∧c7=45:=by simp at h;omega
   have hok:jh l=kT (je ((l.take 4).drop 0)) (je ((l.take 7).drop 5)) (je ((l.take 10).drop 8)):=by
    unfold jh;rw[h4,h7,h45.1,h45.2,h10];simp
   unfold iG;rw[hok];have d1:=Ds ((l.take 4).drop 0) (by rw[List.length_drop,List.length_take];omega);have d2:=vb ((l.take 7).drop 5) (by rw[List.length_drop,List.length_take];omega);have d3:=vb ((l.take 10).drop 8) (by rw[List.length_drop,List.length_take];omega);have p1:=fun w (k1:aH w g1 9 #[.string (strOf l)])=>jC g1 l 0 4 w hl k1 (by omega) (by omega) (by omega);have p2:=fun w (k1:aH w g1 9 #[.string (strOf l)])=>jC g1 l 5 7 w hl k1 (by omega) (by omega) (by omega);have p3:=fun w (k1:aH w g1 9 #[.string (strOf l)])=>jC g1 l 8 10 w hl k1 (by omega) (by omega) (by omega)
   generalize je ((l.take 4).drop 0)=y at *
   generalize je ((l.take 7).drop 5)=m at *
   generalize je ((l.take 10).drop 8)=d at *
   refine Cd.skip (aB ?_);refine Zv (aa.makeFunc rfl (show gR _ _=some [] from rfl) (show gR _ _=some [.pointer (some ⟨g1,0,none⟩)] from rfl) rfl) ?_;refine Za ?_;refine bl 0 1 2 3 4 17 (aB ?_);refine Zm ?_;refine Seq.call (Enters.value (first:=[]) (cap:=[.pointer (some ⟨g1,0,none⟩)]) rfl rfl rfl kB) rfl rfl rfl (p1 _ k1) ?_;rintro e w5 ⟨rfl,hb5⟩;refine⟨_,rfl,?_⟩;replace bel:=bel.step hb5;replace k1:=k1.step hb5;refine Zm ?_;refine Seq.call (Enters.value (first:=[]) (cap:=[.pointer (some ⟨g1,0,none⟩)]) rfl rfl rfl kB) rfl rfl rfl (p2 _ k1) ?_;rintro e w6 ⟨rfl,hb6⟩;refine⟨_,rfl,?_⟩;replace bel:=bel.step hb6;replace k1:=k1.step hb6;refine Zm ?_;refine Seq.call (Enters.value (first:=[]) (cap:=[.pointer (some ⟨g1,0,none⟩)]) rfl rfl rfl kB) rfl rfl rfl (p3 _ k1) ?_;rintro e w7 ⟨rfl,hb7⟩;refine⟨_,rfl,?_⟩;replace bel:=bel.step hb7;replace k1:=k1.step hb7;refine Zc (Ze Tryz.func244) (xx y m d _ (by unfold bw;omega) (by omega) (by unfold bw;omega)) ?_;rintro e w8 ⟨rfl,hb8⟩;refine⟨_,rfl,?_⟩;replace bel:=bel.step hb8;replace k1:=k1.step hb8;refine Zx ?_;refine Zx ?_;refine Za ?_;refine Za ?_;refine bl 0 1 2 3 4 17 (Zt (Cd.ret ?_));refine dO ?_;exact⟨rfl,bel⟩
 ·have hf:jh l=false:=by
   rw[Bool.eq_false_iff];intro h2;unfold jh at h2;simp[h10] at h2
  have hz:iG l=0:=by unfold iG;rw[hf];rfl
  rw[hf,hz];refine Zs 28 Tryz.func239 ?_;refine aj ?_;refine Seq.box rfl rfl rfl rfl rfl ?_;intro g1 w1 n1;have e1:=Nat.le_trans bel.size n1.ge;replace bel:=bel.step n1.below;have k1:=n1.ao;refine Za ?_;refine Za ?_;refine aZ 0 1 2 3 (aJ (aj ?_));refine ZL Tryz.underlying9 k1 ?_;refine Zv (aa.eB rfl rfl Tryz.underlying9) ?_;refine kL ?_;refine Zm ?_;refine av.start ?_;refine bk (fun hcx=>aa.an rfl rfl Tryz.underlying9 rfl k1 rfl) ?_;refine Zn (fun hcx=>(by exfalso;first|(simp[dx] at hcx;omega)|simp[dx] at hcx:aa _ _ _ _ (.int .u8 0) _)) ?_;refine Zn (fun hcx=>aa.cz rfl rfl rfl) ?_;refine eG ?_;refine Zm ?_;refine av.start ?_;refine bk (fun hcx=>aa.an rfl rfl Tryz.underlying9 rfl k1 rfl) ?_;refine Zn (fun hcx=>(by exfalso;first|(simp[dx] at hcx;omega)|simp[dx] at hcx:aa _ _ _ _ (.int .u8 0) _)) ?_;refine Zn (fun hcx=>aa.cz rfl rfl rfl) ?_;refine eG ?_;refine aU 0 1 2 3 17 (Zt ?_);refine Cd.aY rfl (by first|(simp;omega)|simp) ?_;refine aj ?_;refine Za ?_;refine Za ?_;refine aU 0 1 2 3 17 (Zt (Cd.ret (ab.af ?_)));refine dO ?_;exact⟨rfl,bel⟩
theorem cJ:bz Tryz.prog 9=some (some (.string {data:= #[]})):=by kernel_rfl
theorem bA:bz Tryz.prog 221=some (some (.agg #[.int .i64 0, .string {data:= #[]}, .int .i64 0, .int .i64 0])):=by kernel_rfl
theorem jY (a c:Int)(s:ByteArray)(w:World):(Instr.build 221 #[(0, .int .i64 a),(1, .string s),(2, .int .i64 c)]).run Tryz.prog w= .ok (.agg #[.int .i64 a, .string s, .int .i64 c, .int .i64 0]) w:=by
 have hu:=Tryz.underlying221
 go_simp
theorem j8 (a:Int)(s:ByteArray)(w:World):(Instr.build 221 #[(0, .int .i64 a),(1, .string s)]).run Tryz.prog w= .ok (.agg #[.int .i64 a, .string s, .int .i64 0, .int .i64 0]) w:=by
 have hu:=Tryz.underlying221
 go_simp
theorem j7 (w:World):(Instr.build 221 #[]).run Tryz.prog w= .ok (.agg #[.int .i64 0, .string {data:= #[]}, .int .i64 0, .int .i64 0]) w:=by
 have hu:=Tryz.underlying221
 go_simp
theorem oB (l p:List Nat)(w:World)(hl:∀x∈l,x<256)(hp:∀x∈p,x<256):
  Calls Tryz.prog 241 #[.string (strOf l), .string (strOf p)] w fun e w'=>e= .returned (.bool (decide (l.take p.length=p)))∧w=w':=by
 have h2:∀x∈l.take p.length,x<256:=fun x hx=>hl x (List.mem_of_mem_take hx);refine Zs 18 Tryz.func241 ?_;refine aj ?_;refine Za ?_;refine bu 0 1 4 (aB ?_);refine Zm ?_;refine Zv (aa.eB rfl rfl Tryz.underlying9) ?_;refine Zm ?_;refine Zv (aa.eB rfl rfl Tryz.underlying9) ?_;refine mz ?_;refine Zm ?_;refine av.start ?_;refine bk (fun hcx=>aa.move rfl rfl) ?_;refine jl ?_;refine Zn (fun hcx=>aa.eB rfl rfl Tryz.underlying9) ?_;refine Zn (fun hcx=>aa.sliceTo (j:=p.length) rfl rfl rfl Tryz.underlying9 rfl (by simp[dx] at hcx;omega)) ?_;refine jl ?_;refine Zn (fun hcx=>aa.dq (a:=l.take p.length) (b:=p) rfl rfl rfl h2 hp) ?_;refine ep ?_;refine Za ?_;refine bu 0 1 4 (Zt (Cd.ret ?_));refine aX ?_;refine⟨aW (aF ?_),rfl⟩;rw[Bool.eq_iff_iff];simp;intro h;have:=congrArg List.length h;rw[List.length_take] at this;omega
theorem p8 (l p:List Nat)(w:World)(hl:∀x∈l,x<256)(hp:∀x∈p,x<256):
  Calls Tryz.prog 234 #[.string (strOf l), .string (strOf p)] w fun e w'=>e= .returned (.bool (decide (l.take p.length=p)))∧w=w':=by
 refine Zs 8 Tryz.func234 ?_;refine aj ?_;refine Za ?_;refine bu 0 1 4 (aB ?_);refine Zm ?_;refine Zm ?_;refine Zc (Ze Tryz.func241) (oB l p _ hl hp) ?_;rintro e w2 ⟨rfl,rfl⟩;refine⟨_,rfl,?_⟩;refine Za ?_;refine bu 0 1 4 (Zt (Cd.ret ?_));refine aX ?_;exact⟨rfl,rfl⟩
def fM:List (List Nat):=[[60,61],[33,61],[62,61],[40],[41],[44],[43],[45],[42],[47],[60],[61],[62],[38],[124],[33]]
def kr (L:List (List Nat)):List Value:=L.map fun s=> .string (strOf s)
theorem yK (w:World):Calls Tryz.prog 233 #[] w fun e w'=>∃g,e= .returned (.slice (some ⟨g,0,none⟩) 16 16)∧aH w' g 9 (kr fM).toArray∧Grow w w':=by
 have bel:=Below.refl w.heap.size w;refine Zs 2 Tryz.func233 ?_;refine aj ?_;refine Za ?_;refine Es 0 (aB ?_);refine Seq.slice (vs:=[_,_,_,_,_,_,_,_,_,_,_,_,_,_,_,_]) (s:=1) rfl rfl rfl Tryz.underlying66 (by kernel_rfl) (cJ) (by omega) (by omega) ⟨rfl,rfl,rfl,rfl,rfl,rfl,rfl,rfl,rfl,rfl,rfl,rfl,rfl,rfl,rfl,rfl,trivial⟩ rfl rfl rfl ?_;intro g1 w1 n1;have e1:=Nat.le_trans bel.size n1.ge;replace bel:=bel.step n1.below;have k1:=n1.ao;refine Za ?_;refine Es 0 (Zt (Cd.ret ?_));refine aX ?_;exact⟨_,rfl,k1,bel⟩
def pW (l:List Nat):Option (List Nat):=fM.find? fun s=>decide (l.take s.length=s)
def sS (t:List Nat):Option Int:=if t.all ir=true∧(1<t.length→t[0]? ≠some 48)∧dQ t≤9223372036854775807 then some (dQ t:Int) else none
theorem BE {t:List Nat}:t.all ir=true↔∀c∈t,js c:=by
 rw[List.all_eq_true]
 constructor
 ·intro h c hc
  have:=h c hc;unfold ir at this;simp at this;exact this
 ·intro h c hc
  have:=h c hc;unfold js at this;unfold ir;simp;omega
theorem CV {t:List Nat}{v:Int}{ok:Bool}(h:Dv t 0 v ok)(c:Nat)(r:List Nat)(ht:t=c::r)(hc:ir c=true):sS t=if ok then some v else none:=by
 have hc2:48≤c∧c≤57:=by unfold ir at hc;simp at hc;exact hc
 cases ok with
 |true=>
  obtain⟨-,-,hv,F,B,hf⟩:=h.1 rfl;have h0:=hf.len;have hB:B=[]:=List.eq_nil_of_length_eq_zero (by simpa using h0);subst hB;have he:=hf.eq;unfold qP at he;rw[if_neg (show¬0<(0:Int).toNat by decide),List.append_nil] at he
  have hneg:¬v<0:=by
   intro hn;rw[if_pos hn,ht] at he;injection he with he
   omega
  rw[if_neg hneg] at he;have he2:t=F:=he;subst he2;have hval:=hf.val;rw[List.append_nil] at hval;have hcond:t.all ir=true∧(1<t.length→t[0]? ≠some 48)∧dQ t≤9223372036854775807:=⟨BE.2 hf.f,hf.lead,by unfold bw at hv;omega⟩;unfold sS;rw[if_pos hcond,if_pos rfl,hval];congr 1;omega
 |false=>
  obtain⟨-,hno⟩:=h.2 rfl;unfold sS;rw[if_neg]
  ·rfl
  ·rintro⟨h1,h2,h3⟩
   refine hno (by omega) (by omega) (dQ t:Int) (by unfold bw;omega) t [] ⟨BE.1 h1,by simp,by simp,by rw[ht];simp,h2,by rw[List.append_nil];omega,?_⟩;unfold qP;rw[if_neg (show¬(dQ t:Int)<0 by omega),if_neg (show¬0<(0:Int).toNat by decide),List.append_nil];rfl
def nT (l:List Nat):Bool:=decide (10≤l.length)&& !(decide (10<l.length)&&bn (l.getD 10 0))&&jh (l.take 10)
theorem Db (l:List Nat)(w:World)(hl:∀x∈l,x<256)(hlen:l.length≤9223372036854775807):
  Calls Tryz.prog 231 #[.string (strOf l)] w fun e w'=>∃a b c,e= .returned (.tuple #[.agg #[.int .i64 a, .string (strOf b), .int .i64 c, .int .i64 0], .bool (nT l)])∧(nT l=true→a=2∧b=l.take 10∧c=iG (l.take 10))∧Grow w w':=by
 have bel:=Below.refl w.heap.size w
 have h0:10<l.length→l[10]? =some (l.getD 10 0):=by
  intro h;rw[List.getD_eq_getElem?_getD,List.getElem?_eq_getElem h];rfl
 have h1:l.getD 10 0<256:=by
  rw[List.getD_eq_getElem?_getD]
  cases hh:l[10]? with
  |none=>simp
  |some c=>exact hl c (List.mem_of_getElem? hh)
 unfold nT
 generalize l.getD 10 0=c0 at *
 refine Zs 31 Tryz.func231 ?_;refine aj ?_;refine Zl bA ?_;intro g2 w1 n2;have e2:=Nat.le_trans bel.size n2.ge;replace bel:=bel.step n2.below;have k2:=n2.ao;refine Za ?_;refine bu 0 2 3 (aJ (aj ?_));refine Zm ?_;refine Zv (aa.eB rfl rfl Tryz.underlying9) ?_;refine ff ?_;refine Zm ?_;refine av.start ?_;refine bk (fun hcx=>aa.move rfl rfl) ?_;refine Zn (fun hcx=>aa.eB rfl rfl Tryz.underlying9) ?_;refine Zn (fun hcx=>aa.gtr rfl rfl rfl) ?_;refine jl ?_;refine bk (fun hcx=>aa.move rfl rfl) ?_;refine Zn (fun hcx=>aa.gg (l:=l) (j:=10) (c:=c0) rfl rfl rfl Tryz.underlying9 rfl (h0 (by simp[dx] at hcx;omega)) h1) ?_;refine av.bj rfl rfl rfl rfl rfl rfl rfl (fun hcx=>Ze Tryz.func103) (fun hcx=>uR _ _) ?_;intro w2 hw2;replace bel:=bel.step hw2;replace k2:=k2.step hw2;refine av.pN rfl rfl rfl rfl rfl rfl rfl rfl rfl rfl rfl ?_;refine eG ?_;refine aZ 0 2 3 18 (Zt ?_);refine Cd.cond rfl (fun h=> ?_) (fun h=> ?_)
 ·have hf:(decide (10≤l.length)&& !(decide (10<l.length)&&bn c0))=false:=by
   cases hp:bn c0 with
   |false=>rw[hp] at h;simp at h⊢;omega
   |true=>rw[hp] at h;simp at h⊢;omega
  rw[hf];refine aj ?_;refine Zv (aa.build rfl rfl (j7 _)) ?_;refine Zo 4 k2 ?_;intro w3 pw3;replace bel:=bel.put k2 pw3 e2;replace k2:=pw3.ao;refine Za ?_;refine aZ 0 2 3 18 (Zt (Cd.ret (ab.af ?_)));refine ab.iH rfl rfl rfl k2 Tryz.underlying221 rfl (m:=4) (by kernel_rfl) rfl (.inl rfl) ?_;exact⟨0,[],0,rfl,(fun h=>by cases h),bel⟩
 ·have hf:(decide (10≤l.length)&& !(decide (10<l.length)&&bn c0))=true:=by
   cases hp:bn c0 with
   |false=>rw[hp] at h;simp at h⊢;omega
   |true=>rw[hp] at h;simp at h⊢;omega
  have h10:10≤l.length:=by simp at hf;exact hf.1
  rw[hf,Bool.true_and];refine Cd.skip (aB ?_);refine Zm ?_;refine Zv (aa.sliceTo (j:=10) rfl rfl rfl Tryz.underlying9 rfl h10) ?_;refine Zc (Ze Tryz.func239) (rB (l.take 10) _ (tJ hl 10) (by rw[List.length_take];omega)) ?_;rintro e w5 ⟨rfl,hb5⟩;refine⟨_,rfl,?_⟩;replace bel:=bel.step hb5;replace k2:=k2.step hb5;refine Zm ?_;refine Zx ?_;refine Zx ?_;refine Za ?_;refine Za ?_;refine bl 0 2 3 4 5 18 (aB ?_);refine Zm ?_;refine Zv (aa.sliceTo (j:=10) rfl rfl rfl Tryz.underlying9 rfl h10) ?_;refine Zm ?_;refine Zv (aa.build rfl rfl (jY _ _ _ _)) ?_;refine Zm ?_;refine Zo 4 k2 ?_;intro w3 pw3;replace bel:=bel.put k2 pw3 e2;replace k2:=pw3.ao;refine Za ?_;refine bl 0 2 3 4 5 18 (Zt (Cd.ret ?_));refine ab.iH rfl rfl rfl k2 Tryz.underlying221 rfl (m:=4) (by kernel_rfl) rfl (.inl rfl) ?_;exact⟨2,l.take 10,iG (l.take 10),rfl,fun _=>⟨rfl,rfl,rfl⟩,bel⟩
theorem vW (l:List Nat)(w:World)(hl:∀x∈l,x<256)(hlen:l.length≤9223372036854775807):
  Calls Tryz.prog 232 #[.string (strOf l)] w fun e w'=>∃v ok,e= .returned (.tuple #[.agg #[.int .i64 1, .string (strOf (l.take (runN bn l))), .int .i64 v, .int .i64 0], .bool ok])∧Dv (l.take (runN bn l)) 0 v ok∧Grow w w':=by
 have bel:=Below.refl w.heap.size w;have hr:=jP bn l;refine Zs 22 Tryz.func232 ?_;refine aj ?_;refine Zl bA ?_;intro g2 w1 n2;have e2:=Nat.le_trans bel.size n2.ge;replace bel:=bel.step n2.below;have k2:=n2.ao;refine Za ?_;refine bu 0 2 3 (aB ?_);refine Zm ?_;refine Zc (Ze Tryz.func102) (qI l _ hl hlen) ?_;rintro e w2 ⟨rfl,hb2⟩;refine⟨_,rfl,?_⟩;replace bel:=bel.step hb2;replace k2:=k2.step hb2
 generalize runN bn l=n at *
 refine Za ?_;refine aZ 0 2 3 4 (aB ?_);refine Zm ?_;refine Zm ?_;refine Zv (aa.sliceTo (j:=n) rfl rfl rfl Tryz.underlying9 rfl hr) ?_;refine Zc (Ze Tryz.func240) (xj (l.take n) 0 _ (tJ hl n) (by rw[List.length_take];omega) (by unfold bw;omega)) ?_;rintro e w3 ⟨v,ok,rfl,ha,hb3⟩;refine⟨_,rfl,?_⟩;replace bel:=bel.step hb3;replace k2:=k2.step hb3;refine Zm ?_;refine Zx ?_;refine Zx ?_;refine Za ?_;refine Za ?_;refine bl 0 2 3 4 5 6 (aB ?_);refine Zm ?_;refine Zm ?_;refine Zv (aa.sliceTo (j:=n) rfl rfl rfl Tryz.underlying9 rfl hr) ?_;refine Zm ?_;refine Zv (aa.build rfl rfl (jY _ _ _ _)) ?_;refine Zm ?_;refine Zo 4 k2 ?_;intro w2 pw2;replace bel:=bel.put k2 pw2 e2;replace k2:=pw2.ao;refine Za ?_;refine bl 0 2 3 4 5 6 (Zt (Cd.ret ?_));refine ab.iH rfl rfl rfl k2 Tryz.underlying221 rfl (m:=4) (by kernel_rfl) rfl (.inl rfl) ?_;exact⟨v,ok,rfl,ha,bel⟩
def kM (l:List Nat):Option (Int × List Nat × Int):=match l with
 | []=>none
 |c::r=>if ir c then(if nT (c::r) then some (2,(c::r).take 10,iG ((c::r).take 10)) else(sS ((c::r).take (runN bn (c::r)))).map fun v=>(1,(c::r).take (runN bn (c::r)),v))
  else if ml c then(if runN bn (c::r)≤16 then some (3,(c::r).take (runN bn (c::r)),0) else none)
  else(pW (c::r)).map fun s=>(0,s,0)
theorem xM {α:Type}(p:α→Bool):∀(L:List α) (k:Nat) (s:α),(∀j s',j<k→L[j]? =some s'→p s'=false)→L[k]? =some s→p s=true→L.find? p=some s
 | [],k,s,_,h,_=>by simp at h
 |x::L,0,s,_,h,hp=>by simp at h;subst h;simp[hp]
 |x::L,k+1,s,hn,h,hp=>by
  have h0:=hn 0 x (by omega) (by simp);rw[List.find?_cons,h0];exact xM p L k s (fun j s' hj hs=>hn (j+1) s' (by omega) (by simpa using hs)) (by simpa using h) hp
theorem Dk {α:Type}(p:α→Bool)(L:List α)(h:∀(j:Nat) (s':α),L[j]? =some s'→p s'=false):L.find? p=none:=by
 rw[List.find?_eq_none];intro x hx;obtain⟨j,hj,rfl⟩:=List.getElem_of_mem hx;rw[h j _ (List.getElem?_eq_getElem hj)];simp
theorem BX:∀s∈fM,∀x∈s,x<256:=by decide
theorem B7 (l:List Nat)(w:World)(hl:∀x∈l,x<256)(hlen:l.length≤9223372036854775807)(hne:l≠ []):
  Calls Tryz.prog 206 #[.string (strOf l)] w fun e w'=>∃a b c ok,e= .returned (.tuple #[.agg #[.int .i64 a, .string (strOf b), .int .i64 c, .int .i64 0], .bool ok])∧kM l=(if ok then some (a,b,c) else none)∧Grow w w':=by
 have bel:=Below.refl w.heap.size w
 obtain⟨c0,r,hcr⟩:∃c r,l=c::r:=by
  cases l with
  |nil=>exact absurd rfl hne
  |cons c r=>exact⟨c,r,rfl⟩
 have h0:l[0]? =some c0:=by rw[hcr];rfl
 have hc256:=hl c0 (List.mem_of_getElem? h0)
 have hnw:kM l=if ir c0 then(if nT l then some (2,l.take 10,iG (l.take 10)) else(sS (l.take (runN bn l))).map fun v=>(1,l.take (runN bn l),v))
  else if ml c0 then(if runN bn l≤16 then some (3,l.take (runN bn l),0) else none)
  else(pW l).map fun s=>(0,s,0):=by rw[hcr];rfl
 have hrl:=jP bn l;refine Zs 49 Tryz.func206 ?_;refine aj ?_;refine Zl bA ?_;intro g2 w1 n2;have e2:=Nat.le_trans bel.size n2.ge;replace bel:=bel.step n2.below;have k2:=n2.ao;refine Za ?_;refine bu 0 2 3 (aJ (Cd.block (aj ?_)));refine Zm ?_;refine Zv (aa.gg (l:=l) (j:=0) rfl rfl rfl Tryz.underlying9 rfl h0 hc256) ?_;refine Zc (Ze Tryz.func145) (qQ c0 _) ?_;rintro e w2 ⟨rfl,hb2⟩;refine⟨_,rfl,?_⟩;replace bel:=bel.step hb2;replace k2:=k2.step hb2;refine Za ?_;refine aZ 0 2 3 9 (Zt ?_);refine Cd.cond rfl (fun h=> ?_) (fun h=> ?_)
 ·rw[h,if_pos rfl] at hnw
  refine Cd.seq (aj ?_);refine Zm ?_;refine Zc (Ze Tryz.func231) (Db l _ hl hlen) ?_;rintro e w3 ⟨a,b,c,rfl,hday,hb3⟩;refine⟨_,rfl,?_⟩;replace bel:=bel.step hb3;replace k2:=k2.step hb3;refine Zm ?_;refine Zx ?_;refine Zx ?_;refine Zl bA ?_;intro g4 w2 n4;have e4:=Nat.le_trans bel.size n4.ge;have l4:=Nat.lt_of_lt_of_le k2.lt n4.ge;replace bel:=bel.step n4.below;replace k2:=k2.step n4.below;have k4:=n4.ao;refine Zo 4 k4 ?_;intro w3 pw3;replace bel:=bel.put k4 pw3 e4;replace k2:=k2.put pw3 (by omega);replace k4:=pw3.ao;refine Za ?_;refine bl 0 2 3 4 5 9 (aB ?_);refine Zm ?_;refine bp 0 2 3 4 5 9 18 (Zt ?_);refine Cd.cond rfl (fun hd=> ?_) (fun hd=> ?_)
  ·rw[hd,if_pos rfl] at hnw
   obtain⟨rfl,rfl,rfl⟩:=hday hd;refine aj ?_;refine ZW 4 Tryz.underlying221 k4 ?_;refine Zo 4 k2 ?_;intro w4 pw4;replace bel:=bel.put k2 pw4 e2;replace k4:=k4.put pw4 (by omega);replace k2:=pw4.ao;refine Za ?_;refine bp 0 2 3 4 5 9 18 (Zt (Cd.ret (ab.af (ab.ah (ab.af ?_)))));refine ab.iH rfl rfl rfl k2 Tryz.underlying221 rfl (m:=4) (by kernel_rfl) rfl (.inl rfl) ?_;exact⟨_,_,_,true,rfl,hnw,bel⟩
  ·rw[hd,if_neg (by simp)] at hnw
   refine Cd.skip (aB ?_);refine Zm ?_;refine Zc (Ze Tryz.func232) (vW l _ hl hlen) ?_;rintro e w4 ⟨v,ok,rfl,ha,hb4⟩;refine⟨_,rfl,?_⟩
   have hlt:l.take (runN bn l)=c0::(l.take (runN bn l)).drop 1:=by
    have hp:bn c0=true:=by unfold bn;rw[h];simp
    rw[hcr,gf,if_pos hp,List.take_succ_cons];rfl
   have hamt:=CV ha c0 _ hlt h;replace bel:=bel.step hb4;replace k2:=k2.step hb4;replace k4:=k4.step hb4;refine Zx ?_;refine Zx ?_;refine Zo 4 k2 ?_;intro w4 pw4;replace bel:=bel.put k2 pw4 e2;replace k4:=k4.put pw4 (by omega);replace k2:=pw4.ao;refine Za ?_;refine bp 0 2 3 4 5 9 18 (Zt (Cd.ret (ab.ah (ab.af ?_))));refine ab.iH rfl rfl rfl k2 Tryz.underlying221 rfl (m:=4) (by kernel_rfl) rfl (.inl rfl) ?_;refine⟨_,_,_,ok,rfl,?_,bel⟩;rw[hnw,hamt]
   cases ok<;>rfl
 ·rw[h,if_neg (by simp)] at hnw
  refine aj ?_;refine Zm ?_;refine Zv (aa.gg (l:=l) (j:=0) rfl rfl rfl Tryz.underlying9 rfl h0 hc256) ?_;refine Zc (Ze Tryz.func101) (me c0 _) ?_;rintro e w3 ⟨rfl,hb3⟩;refine⟨_,rfl,?_⟩;replace bel:=bel.step hb3;replace k2:=k2.step hb3;refine Za ?_;refine aU 0 2 3 9 24 (Zt ?_);refine Cd.cond rfl (fun h2=> ?_) (fun h2=> ?_)
  ·rw[h2,if_pos rfl] at hnw
   refine aj ?_;refine Zm ?_;refine Zc (Ze Tryz.func102) (qI l _ hl hlen) ?_;rintro e w4 ⟨rfl,hb4⟩;refine⟨_,rfl,?_⟩;replace bel:=bel.step hb4;replace k2:=k2.step hb4
   generalize runN bn l=n at *
   refine Za ?_;refine bl 0 2 3 6 9 24 (aB ?_);refine Zm ?_;refine Zm ?_;refine Zv (aa.sliceTo (j:=n) rfl rfl rfl Tryz.underlying9 rfl hrl) ?_;refine Zv (aa.build rfl rfl (j8 _ _ _)) ?_;refine Zm ?_;refine Fj ?_;refine Zo 4 k2 ?_;intro w2 pw2;replace bel:=bel.put k2 pw2 e2;replace k2:=pw2.ao;refine Za ?_;refine bl 0 2 3 6 9 24 (Zt (Cd.ret (ab.ah (ab.af ?_))));refine ab.iH rfl rfl rfl k2 Tryz.underlying221 rfl (m:=4) (by kernel_rfl) rfl (.inl rfl) ?_;refine⟨3,l.take n,0,decide ((n:Int)≤16),rfl,?_,bel⟩;rw[hnw]
   by_cases hn:n≤16
   ·rw[if_pos hn,decide_eq_true (show(n:Int)≤16 by omega)];rfl
   ·rw[if_neg hn,decide_eq_false (show¬(n:Int)≤16 by omega)];rfl
  ·rw[h2,if_neg (by simp)] at hnw
   refine Cd.skip (ab.ai (aJ (aj ?_)));refine Zc (Ze Tryz.func233) (yK _) ?_;rintro e w4 ⟨gs,rfl,ks,hb4⟩;refine⟨_,rfl,?_⟩;replace bel:=bel.step hb4;replace k2:=k2.step hb4;refine Zv (aa.len rfl rfl Tryz.underlying66) ?_;refine Zm ?_;refine cn 0 2 3 9 24 36 37 38 (Zt (Cd.block ?_))
   refine Cd.loop (σ:=Nat) (fun k=>[(0, .string (strOf l)),(2, .pointer (some ⟨g2,0,none⟩)),(36, .slice (some ⟨gs,0,none⟩) 16 16),(37, .int .i64 16),(38, .int .i64 (k:Int))])
    (fun k wr=>k≤16∧(∀j s',j<k→fM[j]? =some s'→decide (l.take s'.length=s')=false)∧Below w.heap.size w wr∧aH wr g2 221 #[.int .i64 0, .string {data:= #[]}, .int .i64 0, .int .i64 0]∧aH wr gs 9 (kr fM).toArray) (fun k=>16-k) 0 ⟨by omega,fun j s' hj=>absurd hj (by omega),bel,k2,ks⟩ ⟨rfl,rfl,rfl,rfl,rfl,trivial⟩ ?_
   clear bel k2 ks;rintro k wr ⟨hk,hno,bel,k2,ks⟩;refine aj ?_;refine ff ?_;refine bl 0 2 36 37 38 39 (aJ ?_);refine Cd.au rfl (fun hc=> ?_) (fun hc=> ?_)
   ·obtain⟨s,hs⟩:∃s,fM[k]? =some s:=⟨_,List.getElem?_eq_getElem (show k<fM.length by have:fM.length=16:=rfl;omega)⟩
    have hsl:=BX s (List.mem_of_getElem? hs)
    have hcell:(kr fM).toArray[k]? =some (.string (strOf s)):=by
     unfold kr;simp[hs]
    refine Cd.skip (aJ (Cd.block (aj ?_)));refine Zv (aa.nE rfl rfl rfl Tryz.underlying66 (by kernel_rfl) (j:=k) rfl (by omega)) ?_;refine Zv (aa.an rfl rfl Tryz.underlying9 rfl ks hcell) ?_;refine Za ?_;refine bp 0 2 8 36 37 38 39 (aB ?_);refine Zm ?_;refine Zm ?_;refine Zc (Ze Tryz.func234) (p8 l s _ hl hsl) ?_;rintro e w6 ⟨rfl,rfl⟩;refine⟨_,rfl,?_⟩;refine cn 0 2 8 36 37 38 39 44 (Zt ?_);refine Cd.cond rfl (fun h3=> ?_) (fun h3=> ?_)
    ·have hsw:pW l=some s:=xM _ fM k s hno hs h3
     rw[hsw] at hnw;refine aj ?_;refine Zm ?_;refine Zv (aa.build rfl rfl (j8 _ _ _)) ?_;refine Zo 4 k2 ?_;intro w2 pw2;replace bel:=bel.put k2 pw2 e2;replace k2:=pw2.ao;refine Za ?_;refine du 0 2 3 8 36 37 38 39 44 (Zt (Cd.ret (ab.ah (ab.af (ab.aL (ab.ah (ab.af ?_)))))));refine ab.iH rfl rfl rfl k2 Tryz.underlying221 rfl (m:=4) (by kernel_rfl) rfl (.inl rfl) ?_;exact⟨0,s,0,true,rfl,hnw,bel⟩
    ·skip
     refine Cd.skip (ab.ai (dU ?_));refine dt ?_;refine Zm ?_;refine cn 0 2 8 36 37 38 39 44 ?_;refine ab.round (k+1) ⟨rfl,rfl,rfl,rfl,rfl,trivial⟩ ⟨by omega,fun j s' hj hs'=> ?_,bel,k2,ks⟩ (by omega);rcases Nat.lt_or_ge j k with h4|h4
     ·exact hno j s' h4 hs'
     ·obtain rfl:j=k:=by omega
      rw[hs] at hs';injection hs' with hs'
      subst hs';exact h3
   ·have hsw:pW l=none:=Dk _ fM fun j s' hs'=>hno j s' (by
     have:=(List.getElem?_eq_some_iff.1 hs').1;have yL:fM.length=16:=rfl;omega) hs'
    rw[hsw] at hnw;refine Cd.exit (ab.aA (ab.ay (ab.az (aB ?_))));refine Zv (aa.build rfl rfl (j7 _)) ?_;refine Zo 4 k2 ?_;intro w2 pw2;replace bel:=bel.put k2 pw2 e2;replace k2:=pw2.ao;refine Za ?_;refine bp 0 2 3 36 37 38 39 (Zt (Cd.ret ?_));refine ab.iH rfl rfl rfl k2 Tryz.underlying221 rfl (m:=4) (by kernel_rfl) rfl (.inl rfl) ?_;exact⟨0,[],0,false,rfl,hnw,bel⟩
structure Wd where
 kind:Int
 text:List Nat
 n:Int
 pos:Nat
def iu:Nat→List Nat→Nat→List Wd × Option Nat
 |0,_,_=>([],none)
 |f+1,l,p=>if l.length≤p then([],none) else match kM (l.drop p) with
  |none=>([],some p)
  |some (k,t,n)=>(⟨k,t,n,p⟩::(iu f l (p+t.length+cH (l.drop (p+t.length)))).1,(iu f l (p+t.length+cH (l.drop (p+t.length)))).2)
def bb (l:List Nat):List Wd × Option Nat:=iu (l.length+1) l (cH l)
def fB (ws:List Wd):List Value:=ws.flatMap fun x=>[.int .i64 x.kind, .string (strOf x.text), .int .i64 x.n, .int .i64 (x.pos:Int)]
theorem td (ws:List Wd)(x:Wd):fB (ws++[x])=fB ws++[.int .i64 x.kind, .string (strOf x.text), .int .i64 x.n, .int .i64 (x.pos:Int)]:=by simp[fB]
theorem m0 (f:Nat)(l:List Nat)(p:Nat)(h:l.length≤p):iu f l p=([],none):=by
 cases f with
 |zero=>rfl
 |succ f=>unfold iu;rw[if_pos h]
theorem lp (f:Nat)(l:List Nat)(p:Nat)(h:p<l.length):iu (f+1) l p=match kM (l.drop p) with
  |none=>([],some p)
  |some (k,t,n)=>(⟨k,t,n,p⟩::(iu f l (p+t.length+cH (l.drop (p+t.length)))).1,(iu f l (p+t.length+cH (l.drop (p+t.length)))).2):=by
 rw[iu,if_neg (by omega)]
theorem xG {l:List Nat}{c:Nat}{r:List Nat}(h:l=c::r)(hp:bn c=true):0<runN bn l:=by rw[h,gf,if_pos hp];omega
theorem jL {l:List Nat}{k:Int}{t:List Nat}{n:Int}(h:kM l=some (k,t,n)):0<t.length∧t=l.take t.length∧t.length≤l.length:=by
 cases l with
 |nil=>cases h
 |cons c r=>
  have hrl:=jP bn (c::r)
  have htk:∀j,j≤(c::r).length→0<j→0<((c::r).take j).length∧(c::r).take j=(c::r).take ((c::r).take j).length∧((c::r).take j).length≤(c::r).length:=by
   intro j hj h0;have:((c::r).take j).length=j:=by rw[List.length_take];omega
   rw[this];exact⟨h0,rfl,hj⟩
  unfold kM at h;simp only at h
  generalize hl:c::r=l at *
  split at h
  ·rename_i hd
   have hp:bn c=true:=by unfold bn;rw[hd];simp
   have h0:=xG hl.symm hp;split at h
   ·rename_i hday
    injection h with h
    injection h with h1 h
    injection h with h2 h
    subst h2;refine htk 10 ?_ (by omega);unfold nT at hday;simp at hday;exact hday.1.1
   ·cases ha:sS (l.take (runN bn l)) with
    |none=>rw[ha] at h;cases h
    |some v=>
     rw[ha] at h;injection h with h
     injection h with h1 h
     injection h with h2 h
     subst h2;exact htk _ hrl h0
  ·split at h
   ·rename_i hd
    have hp:bn c=true:=by unfold bn;rw[hd];simp
    have h0:=xG hl.symm hp;split at h
    ·injection h with h
     injection h with h1 h
     injection h with h2 h
     subst h2;exact htk _ hrl h0
    ·cases h
   ·cases hs:pW l with
    |none=>rw[hs] at h;cases h
    |some s=>
     rw[hs] at h;injection h with h
     injection h with h1 h
     injection h with h2 h
     subst h2;have hm:=List.mem_of_find?_eq_some hs;have hp:=List.find?_some hs;simp at hp
     have h0:0<s.length:=by
      have:∀s∈fM,0<s.length:=by decide
      exact this s hm
     refine⟨h0,hp.symm,?_⟩;have:=congrArg List.length hp;rw[List.length_take] at this;omega
structure mc (w:World)(B:Nat)(e:TypeId)(size:Nat)(v:Value)(n:Nat)(xs:List Value):Prop where
 own:Own w B e size v n xs
section
variable {w w':World} {B size n:Nat} {e:TypeId} {v:Value} {xs:List Value}
theorem mc.step (h:mc w B e size v n xs)(hb:Below w.heap.size w w'):mc w' B e size v n xs:=⟨h.own.step hb⟩
theorem mc.put {g B':Nat}{T:TypeId}{cur cs:Array Value}(h:mc w B e size v n xs)(_k:aH w g T cur)(p:hZ w w' g T cs)(_e:B'≤g)(hne:v.ownBlock≠some g:=by assumption):mc w' B e size v n xs:=⟨⟨h.own.row.kept p.grown (.inr hne)⟩⟩
theorem mc.ne (h:mc w B e size v n xs){g:Nat}(hg:w.heap.size≤g):v.ownBlock≠some g:=by
 intro hv;obtain⟨hl,⟨h0,h1⟩|⟨g',cap,cur,h0,h1,h2,h3,h4,h5,h6⟩⟩:=h.own.row
 ·rw[h0] at hv;cases hv
 ·rw[h0] at hv
  injection hv with hv
  have hv:g'=g:=hv;have hlt:g'<w.heap.size:=aH.lt (cs:=cur) (t:=e) h2;omega
end
theorem yR (l:List Nat)(w:World)(hl:∀x∈l,x<256)(hlen:l.length≤9223372036854775807):
  Calls Tryz.prog 161 #[.string (strOf l)] w fun e w'=>Grow w w'∧((4000<l.length∧e= .returned (.tuple #[.slice none 0 0, .int .i64 0, .int .i64 4]))∨
   (l.length≤4000∧∃p:Nat,(bb l).2=some p∧e= .returned (.tuple #[.slice none 0 0, .int .i64 (p:Int), .int .i64 11]))∨
   (l.length≤4000∧(bb l).2=none∧∃v,e= .returned (.tuple #[v, .int .i64 0, .int .i64 0])∧Own w' w.heap.size 221 4 v (bb l).1.length (fB (bb l).1))):=by
 have bel:=Below.refl w.heap.size w;refine Zs 46 Tryz.func161 ?_;refine aj ?_;refine Za ?_;refine Za ?_;refine Za ?_;refine aZ 0 2 3 4 (aJ (aj ?_));refine Zm ?_;refine Zv (aa.eB rfl rfl Tryz.underlying9) ?_;refine tU ?_;refine aU 0 2 3 4 11 (Zt ?_);refine Cd.au rfl (fun h=> ?_) (fun h=> ?_)
 ·skip
  refine aj ?_;refine Za ?_;refine Za ?_;refine Za ?_;refine aU 0 2 3 4 11 (Zt (Cd.ret (ab.af ?_)));refine ab.mI rfl rfl rfl rfl (.inl rfl) ?_;exact⟨bel, .inl ⟨by omega,rfl⟩⟩
 have h4:l.length≤4000:=by omega
 clear h;have hb0:=kY l;refine Cd.skip (aB ?_);refine Za ?_;refine bl 0 2 3 4 5 11 (aJ (aj ?_));refine Zm ?_;refine Zc (Ze Tryz.func205) (sr l _ hl hlen) ?_;rintro e w4 ⟨rfl,hb4⟩;refine⟨_,rfl,?_⟩;replace bel:=bel.step hb4;have own:mc w4 w.heap.size 221 4 (.slice none 0 0) 0 []:=⟨Own.nil _ _ _ _⟩;refine Za ?_;refine bp 0 2 3 4 5 6 11 (Zt (Cd.block ?_))
 refine Cd.loop (σ:=Nat × Value × List Wd) (fun s=>[(0, .string (strOf l)),(5,s.2.1),(6, .int .i64 (s.1:Int))])
  (fun s wr=>s.1≤l.length∧s.2.2.length≤s.1∧(∃f,l.length+1≤f+s.1∧bb l=(s.2.2++(iu f l s.1).1,(iu f l s.1).2))∧Below w.heap.size w wr∧mc wr w.heap.size 221 4 s.2.1 s.2.2.length (fB s.2.2)) (fun s=>l.length-s.1) (cH l, .slice none 0 0,[])
  ⟨hb0,by simp,⟨l.length+1,by dsimp only;omega,rfl⟩,bel,own⟩ ⟨rfl,rfl,rfl,trivial⟩ ?_
 clear bel;clear own;rintro⟨p,v,ws⟩ wr ⟨hp,hwp,⟨f,hf,hall⟩,bel,own⟩;dsimp only at hp hwp hf hall own⊢;refine Cd.seq (aj ?_);refine Zm ?_;refine Zm ?_;refine Zv (aa.eB rfl rfl Tryz.underlying9) ?_;refine ff ?_;refine aZ 0 5 6 17 (Zt ?_);refine Cd.au rfl (fun hc=> ?_) (fun hc=> ?_)
 ·obtain⟨f',rfl⟩:∃f',f=f'+1:=⟨f-1,by omega⟩
  have hdl:=oU hl p;have hdn:(l.drop p).length≤9223372036854775807:=by rw[List.length_drop];omega
  have hstep:=lp f' l p (by omega);refine Cd.skip (aJ (Cd.block (aj ?_)));refine Zm ?_;refine Zm ?_;refine Zv (aa.sliceFrom (j:=p) rfl rfl rfl Tryz.underlying9 rfl hp) ?_;refine Zc (Ze Tryz.func206) (B7 (l.drop p) _ hdl hdn (by intro h0;have:=congrArg List.length h0;rw[List.length_drop] at this;simp at this;omega)) ?_;rintro e w6 ⟨a,b,c,ok,rfl,hnx,hb6⟩;refine⟨_,rfl,?_⟩;replace bel:=bel.step hb6;replace own:=own.step hb6;have hneg:∀g,w6.heap.size≤g→v.ownBlock≠some g:=fun g hg=>own.ne hg;have hstep1:ok=false→iu (f'+1) l p=([],some p):=fun h=>by rw[hstep,hnx,h];rfl
  have hstep2:ok=true→iu (f'+1) l p=(⟨a,b,c,p⟩::(iu f' l (p+b.length+cH (l.drop (p+b.length)))).1,(iu f' l (p+b.length+cH (l.drop (p+b.length)))).2):=fun h=>by rw[hstep,hnx,h];rfl
  have hspec:ok=true→0<b.length∧b=(l.drop p).take b.length∧b.length≤(l.drop p).length:=fun h=>jL (by rw[hnx,h];rfl);clear hstep hnx;refine Zm ?_;refine Zx ?_;refine Zx ?_;refine Zl bA ?_;intro g7 w1 n7;have e7:=Nat.le_trans bel.size n7.ge;replace bel:=bel.step n7.below;replace own:=own.step n7.below;have k7:=n7.ao;have hne7:v.ownBlock≠some g7:=hneg g7 n7.ge;refine Zo 4 k7 ?_;intro w2 pw2;replace bel:=bel.put k7 pw2 e7;replace own:=own.put k7 pw2 e7;replace k7:=pw2.ao;refine Za ?_;refine bl 0 5 6 7 8 17 (aJ (aj ?_));refine Zm ?_;refine iC ?_;refine bp 0 5 6 7 8 17 32 (Zt ?_);refine Cd.cond rfl (fun h=> ?_) (fun h=> ?_)
  ·have hok:ok=false:=by cases ok<;>simp at h⊢
   rw[hstep1 hok] at hall;refine aj ?_;refine Zm ?_;refine Za ?_;refine Za ?_;refine Za ?_;refine ed 0 2 3 4 5 6 7 8 17 32 (Zt (Cd.ret (ab.af (ab.ah (ab.af (ab.aL (ab.ah (ab.af ?_))))))));refine ab.mI rfl rfl rfl rfl (.inl rfl) ?_;exact⟨bel, .inr (.inl ⟨h4,p,by rw[hall],rfl⟩)⟩
  ·have hok:ok=true:=by cases ok<;>simp at h⊢
   obtain⟨s1,s2,s3⟩:=hspec hok;rw[List.length_drop] at s3;rw[hstep2 hok] at hall;clear hstep1 hstep2 hspec;have hbl:=kY (l.drop (p+b.length));rw[List.length_drop] at hbl;refine Cd.skip (aB ?_);refine Zm ?_;refine Zf 3 Tryz.underlying221 ?_;refine Zq k7 ?_;intro w3 pw3;replace bel:=bel.put k7 pw3 e7;replace own:=own.put k7 pw3 e7;replace k7:=pw3.ao;refine bp 0 5 6 7 8 17 32 (aB ?_);refine Zm ?_;refine ZW 4 Tryz.underlying221 k7 ?_;refine Seq.slice (vs:=[_]) (s:=4) rfl rfl rfl Tryz.underlying215 (by kernel_rfl) (bA) (by omega) (by omega) ⟨rfl,trivial⟩ rfl rfl rfl ?_;intro g38 w4 n38;have e38:=Nat.le_trans bel.size n38.ge;have l38:=Nat.lt_of_lt_of_le k7.lt n38.ge;replace bel:=bel.step n38.below;replace own:=own.step n38.below;replace k7:=k7.step n38.below;have k38:=n38.ao;replace own:=own.own;refine Seq.append rfl rfl rfl Tryz.underlying215 (by kernel_rfl) bA rfl (by decide) (b:=40) (by kernel_rfl) own (Reads.ao (size:=4) k38 1 rfl) (by intro x hx;simp[ax,Value.cells] at hx;rcases hx with rfl|rfl|rfl|rfl<;>rfl) bel.size (by simp only[maxLen];omega) (by omega) rfl rfl rfl ?_;clear own;intro vw5 w5 own haw5;replace bel:=bel.trans haw5.below;replace k7:=k7.grown haw5.grown (fun e=>hne7 e.symm);replace own:mc w5 w.heap.size 221 4 vw5 (ws++[(⟨a,b,c,p⟩:Wd)]).length (fB (ws++[⟨a,b,c,p⟩])):=⟨by rw[List.length_append,td];exact own⟩;refine Za ?_;refine bp 0 5 6 7 8 17 32 (dU ?_);refine Zm ?_;refine Zf 1 Tryz.underlying221 ?_;refine ZL Tryz.underlying9 k7 ?_;refine Zv (aa.eB rfl rfl Tryz.underlying9) ?_;refine dt ?_;refine Za ?_;refine bp 0 5 6 7 8 17 32 (ab.ai (dU ?_));refine Zm ?_;refine Zm ?_;refine Zm ?_;refine Zv (aa.sliceFrom (j:=p+b.length) rfl rfl rfl Tryz.underlying9 rfl (by omega)) ?_;refine Zc (Ze Tryz.func205) (sr (l.drop (p+b.length)) _ (oU hl _) (by rw[List.length_drop];omega)) ?_;rintro e w8 ⟨rfl,hb8⟩;refine⟨_,rfl,?_⟩;replace bel:=bel.step hb8;replace own:=own.step hb8;replace k7:=k7.step hb8
   generalize hq:p+b.length+cH (l.drop (p+b.length))=q at *
   refine dt ?_;refine Za ?_;refine bp 0 5 6 7 8 17 32 ?_;refine ab.round (q,vw5,ws++[⟨a,b,c,p⟩]) ⟨rfl,rfl,congrArg (fun x:Int=>some (Value.int .i64 x)) (show((p:Int)+(b.length:Int)+(cH (l.drop (p+b.length)):Int))=((q:Nat):Int) by omega),trivial⟩ ⟨by dsimp only;omega,by dsimp only;rw[List.length_append];simp;omega,⟨f',by dsimp only;omega,?_⟩,bel,own⟩ (by dsimp only;omega);dsimp only;rw[hall,List.append_assoc];rfl
 ·have hpe:p=l.length:=by omega
  rw[m0 f l p (by omega)] at hall;dsimp only at hall;rw[List.append_nil] at hall;refine Cd.exit (ab.aA (ab.ay (ab.az (aB ?_))));refine Zm ?_;refine Za ?_;refine Za ?_;refine Za ?_;refine bp 0 2 3 4 5 6 17 (Zt (Cd.ret ?_));refine ab.mI rfl rfl rfl rfl (.inl rfl) ?_;exact⟨bel, .inr (.inr ⟨h4,by rw[hall],v,rfl,by rw[hall];exact own.own⟩)⟩
theorem lN (c:Nat)(w:World):Calls Tryz.prog 76 #[.int .u8 (c:Int)] w fun e w'=>e= .returned (.bool (ml c))∧Grow w w':=by
 have bel:=Below.refl w.heap.size w;refine Zs 17 Tryz.func76 ?_;refine aj ?_;refine Za ?_;refine dM 0 2 (aB ?_);refine Zm ?_;refine mz ?_;refine Zm ?_;refine av.start ?_;refine bk (fun hcx=>aa.move rfl rfl) ?_;refine Zn (fun hcx=>aa.leq rfl rfl rfl) ?_;refine ep ?_;refine Zm ?_;refine av.start ?_;refine bk (fun hcx=>aa.move rfl rfl) ?_;refine Zn (fun hcx=>aa.geq rfl rfl rfl) ?_;refine jl ?_;refine bk (fun hcx=>aa.move rfl rfl) ?_;refine Zn (fun hcx=>aa.leq rfl rfl rfl) ?_;refine av.pN rfl rfl rfl rfl rfl rfl rfl rfl rfl rfl rfl ?_;refine eG ?_;refine Za ?_;refine dM 0 2 (Zt (Cd.ret ?_));refine aX ?_;refine⟨aW (aF ?_),bel⟩;unfold ml;rw[Bool.eq_iff_iff];simp;omega
theorem ud (c:Nat)(w:World):Calls Tryz.prog 77 #[.int .u8 (c:Int)] w fun e w'=>e= .returned (.bool (bn c))∧Grow w w':=by
 have bel:=Below.refl w.heap.size w;refine Zs 17 Tryz.func77 ?_;refine aj ?_;refine Za ?_;refine dM 0 2 (aB ?_);refine Zm ?_;refine Zc (Ze Tryz.func76) (lN c _) ?_;rintro e w2 ⟨rfl,hb2⟩;refine⟨_,rfl,?_⟩;replace bel:=bel.step hb2;refine Zm ?_;refine av.start ?_;refine bk (fun hcx=>aa.move rfl rfl) ?_;refine Zn (fun hcx=>aa.geq rfl rfl rfl) ?_;refine jl ?_;refine bk (fun hcx=>aa.move rfl rfl) ?_;refine Zn (fun hcx=>aa.leq rfl rfl rfl) ?_;refine av.pN rfl rfl rfl rfl rfl rfl rfl rfl rfl rfl rfl ?_;refine eG ?_;refine Zm ?_;refine av.start ?_;refine bk (fun hcx=>aa.move rfl rfl) ?_;refine Zn (fun hcx=>aa.fm rfl rfl rfl) ?_;refine eG ?_;refine Za ?_;refine dM 0 2 (Zt (Cd.ret ?_));refine aX ?_;refine⟨aW (aF ?_),bel⟩;unfold bn ir
 cases ml c<;>rw[Bool.eq_iff_iff]<;>simp<;>omega
theorem sP (l:List Nat)(w:World)(hl:∀x∈l,x<256)(hlen:l.length≤9223372036854775807):
  Calls Tryz.prog 28 #[.string (strOf l)] w fun e w'=>e= .returned (.bool (cI l))∧Grow w w':=by
 have bel:=Below.refl w.heap.size w
 have h0:l≠ []→l[0]? =some (l.getD 0 0):=by
  intro h
  cases l with
  |nil=>exact absurd rfl h
  |cons c l=>rfl
 have h1:l.getD 0 0<256:=by
  cases l with
  |nil=>simp
  |cons c l=>exact hl c (by simp)
 have hnil:l≠ []↔0<l.length:=by cases l<;>simp
 unfold cI
 generalize l.getD 0 0=c0 at *
 refine Zs 29 Tryz.func28 ?_;refine aj ?_;refine Za ?_;refine dM 0 2 (aJ (aj ?_));refine Zm ?_;refine Zv (aa.eB rfl rfl Tryz.underlying9) ?_;refine ff ?_;refine Zm ?_;refine av.start ?_;refine bk (fun hcx=>aa.move rfl rfl) ?_;refine Zn (fun hcx=>aa.eB rfl rfl Tryz.underlying9) ?_;refine Zn (fun hcx=>aa.gtr rfl rfl rfl) ?_;refine eG ?_;refine Zm ?_;refine av.start ?_;refine bk (fun hcx=>aa.move rfl rfl) ?_;refine Zn (fun hcx=>aa.gg (l:=l) (j:=0) (c:=c0) rfl rfl rfl Tryz.underlying9 rfl (h0 (hnil.2 (by simp[dx] at hcx;omega))) h1) ?_;refine av.bj rfl rfl rfl rfl rfl rfl rfl (fun hcx=>Ze Tryz.func76) (fun hcx=>lN _ _) ?_;intro w1 hw1;replace bel:=bel.step hw1;refine Zn (fun hcx=>aa.not rfl rfl) ?_;refine eG ?_;refine bu 0 2 17 (Zt ?_);refine Cd.cond rfl (fun h=> ?_) (fun h=> ?_)
 ·have hf:(decide (l≠ [])&&decide (l.length≤16)&&ml c0&&decide (runN bn l=l.length))=false:=by
   rw[Bool.eq_false_iff];intro h2;simp only[Bool.and_eq_true,decide_eq_true_eq] at h2;have h3:=hnil.1 h2.1.1.1;rw[h2.1.2] at h;simp at h;omega
  rw[hf];refine aj ?_;refine Za ?_;refine bu 0 2 17 (Zt (Cd.ret (ab.af ?_)));refine aX ?_;exact⟨rfl,bel⟩
 have hok:l≠ []∧l.length≤16∧ml c0=true:=by
  cases hle:ml c0 with
  |false=>rw[hle] at h;simp at h
  |true=>rw[hle] at h;simp at h;exact⟨hnil.2 (by omega),by omega,rfl⟩
 have hrl:=jP bn l;rw[decide_eq_true hok.1,decide_eq_true hok.2.1,hok.2.2];refine Cd.skip (aJ (aj ?_));refine Za ?_;refine aZ 0 2 3 17 (Zt (Cd.block ?_));refine Cd.loop (σ:=Nat) (fun k=>[(0, .string (strOf l)),(3, .int .i64 (k:Int))]) (fun k wr=>k≤runN bn l∧Below w.heap.size w wr) (fun k=>l.length-k) 0 ⟨Nat.zero_le _,bel⟩ ⟨rfl,rfl,trivial⟩ ?_;clear bel;rintro k wr ⟨hk,bel⟩;refine Cd.seq (aj ?_);refine Zm ?_;refine Zm ?_;refine Zv (aa.eB rfl rfl Tryz.underlying9) ?_;refine ff ?_;refine bu 0 3 21 (Zt ?_);refine Cd.au rfl (fun hc=> ?_) (fun hc=> ?_)
 ·obtain⟨c,hcc⟩:∃c,l[k]? =some c:=⟨_,List.getElem?_eq_getElem (show k<l.length by omega)⟩
  have hc256:=hl c (List.mem_of_getElem? hcc);have hup:=sn bn l k hk c hcc;refine Cd.skip (aJ (Cd.block (aj ?_)));refine Zm ?_;refine Zm ?_;refine Zv (aa.gg (l:=l) (j:=k) rfl rfl rfl Tryz.underlying9 rfl hcc hc256) ?_;refine Zc (Ze Tryz.func77) (ud c _) ?_;rintro e w5 ⟨rfl,hb5⟩;refine⟨_,rfl,?_⟩;replace bel:=bel.step hb5;refine iC ?_;refine aZ 0 3 21 28 (Zt ?_);refine Cd.cond rfl (fun h2=> ?_) (fun h2=> ?_)
  ·have hne:¬runN bn l=l.length:=by
    intro he;have:=hup.2 (by omega);rw[this] at h2
    cases h2
   rw[decide_eq_false hne];refine aj ?_;refine Za ?_;refine aU 0 2 3 21 28 (Zt (Cd.ret (ab.ah (ab.af (ab.aL (ab.ah (ab.af ?_)))))));refine aX ?_;exact⟨rfl,bel⟩
  ·have hlt:=hup.1 (by simpa using h2)
   refine Cd.skip (ab.ai (dU ?_));refine Zm ?_;refine dt ?_;refine Za ?_;refine aZ 0 3 21 28 ?_;exact ab.round (k+1) ⟨rfl,rfl,trivial⟩ ⟨by omega,bel⟩ (by omega)
 ·rw[decide_eq_true (show runN bn l=l.length by omega)]
  refine Cd.exit (ab.aA (ab.ay (ab.az (aB ?_))));refine Za ?_;refine aZ 0 2 3 21 (Zt (Cd.ret ?_));refine aX ?_;exact⟨rfl,bel⟩
section
variable {P:Program} {E:Operand→Option Value} {o:Oper} {w:World} {x y:Operand} {T:TypeId}
theorem aa.rU {g off m:Nat}{cs:Array Value}{ps:List Value}{t:TypeId}{d:TypeDesc}(ho:o.op= .load T x)(hx:E x=some (.pointer (some ⟨g,off,none⟩)))(hT:P.underlying T=some d)(hd:(match d with| .struct _| .array _ _=>true|_=>false)=true)(hb:aH w g t cs)(hs:dh P T m=true)(hm:ps.length=m)(hp:∀j v,ps[j]? =some v→cs[off+j]? =some v):aa P E o w (.agg ps.toArray) w:=by
 obtain⟨i,hi,hsz⟩:=bB hs
 exact .An (cs:=ps) ho hx hT hd hi (by omega) (fun j v hj=>by
  have hadd:(⟨g,off,none⟩:Addr).add j=⟨g,off+j,none⟩:=by unfold Addr.add;split<;>simp_all
  rw[hadd,hb.cell (off+j)];exact hp j v hj)
end
end Go.Proofs.YtigoimhndlnhfaaGreat