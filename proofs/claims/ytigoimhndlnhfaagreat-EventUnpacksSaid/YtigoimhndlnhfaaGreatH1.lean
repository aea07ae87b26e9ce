/-
  Texts that were joined: TNumP, Fits, StrA, StrB, TMul, TNumD, TNumT, TNumQ, LexSpec, LexA, LexB, TreA, TreB, TreC, TreD, LexC, LexD, LexE, LexF, LexG, LexH, TreE, TreF, TreG, TreH, TreI, DateA, DateB. Conditions: what each theorem names.
-/
import Derived.Test.YtigoimhndlnhfaaGreatH0
import Derived.Lib.Builder
import Derived.Lib.UnsafeStr
import Derived.Handy
import Derived.Deep.Light
set_option linter.unusedSectionVars false
namespace Go.Proofs.YtigoimhndlnhfaaGreat
open Go.RowKit
section
variable {P:Program} {E:Operand→Option Value} {o:Oper} {w w':World} {v:Value}
theorem aa.here {f:FuncId}{args:Array Operand}{ts:Array TypeId}{vs:List Value}(ho:o.op= .call {callee:= .value (.func f),args:=args,argTypes:=ts})(hf:E (.func f)=some (.func (.func f) #[] #[])) (hx:fc E args.toList=some vs)
  (he:(callFunc f vs.toArray).run P w= .ok (.value v) w'):aa P E o w v w':=fun ρ h=>by
 have hargs:args.map ρ=vs.toArray:=by
  apply Array.ext';rw[Array.toList_map,fY h hx]
 unfold execOp;simp only[ho,resolve,h _ _ hf,Deferred.ofValue,hargs,Sem.run_bind,Sem.run_pure,Result.andThen_ok,invoke];simp[he]
end
theorem iO (l:List Nat)(c:Nat)(hl:∀x∈l,x<256)(hc:c<256)(w:World):(callFunc 263 [.string (strOf l), .int .u8 (c:Int)].toArray).run Tryz.prog w= .ok (.value (.int .i64 (if c∈l then(idx l c:Int) else -1))) w:=by
 rw[run_callFunc_extern Tryz.func263 (by kernel_rfl) (by kernel_rfl) (by kernel_rfl) (e:=Extern.BytealgIndexByte.indexByte) (by kernel_rfl),Lib.run_indexByteString];rw[cB,show(c:Int).toNat.toUInt8=UInt8.ofNat c by rw[Int.toNat_natCast],jM c hc l hl];rfl
theorem oJ (l:List Nat)(c:Nat)(w:World)(hl:∀x∈l,x<256)(hc:c<256):
  Calls Tryz.prog 259 #[.string (strOf l), .int .u8 (c:Int)] w fun e w'=>e= .returned (.int .i64 (if c∈l then(idx l c:Int) else -1))∧w=w':=by
 refine Zs 8 Tryz.func259 ?_;refine ah ?_;refine Za ?_;refine bk 0 1 4 (az ?_);refine Zm ?_;refine Zm ?_;refine Zv (aa.here rfl rfl rfl (iO l c hl hc _)) ?_;refine Za ?_;refine bk 0 1 4 (Zt (Cd.ret ?_));refine aP ?_;exact⟨rfl,rfl⟩
theorem uM (l:List Nat)(c:Nat)(w:World)(hl:∀x∈l,x<256)(hc:c<256):
  Calls Tryz.prog 257 #[.string (strOf l), .string (strOf [c])] w fun e w'=>e= .returned (.int .i64 (if c∈l then(idx l c:Int) else -1))∧w=w':=by
 have h1:∀x∈ [c],x<256:=fun x hx=>by simp at hx;omega
 refine Zs 143 Tryz.func257 ?_;refine ah ?_;refine Za ?_;refine bk 0 1 4 (az ?_);refine Zm ?_;refine Zv (aa.ed rfl rfl Tryz.underlying9) ?_;refine Za ?_;refine aS 0 1 4 5 (aH (Cd.block (ah ?_)));refine Zm ?_;refine aX ?_;refine Zm ?_;refine ar.start ?_;refine bB (fun hcx=>aa.move rfl rfl) ?_;refine jL ?_;refine Zn (fun hcx=>aa.ck (a:=[c]) (b:=l) rfl rfl rfl h1 hl) ?_;refine fh ?_;refine Za ?_;refine aL 0 1 4 5 16 (Zt ?_);refine Cd.cond rfl (fun h=> ?_) (fun h=> ?_)
 ·have:l=[c]:=(show [c]=l by simpa using h).symm
  subst this;refine ah ?_;refine Za ?_;refine aL 0 1 4 5 16 (Zt (Cd.ret (ab.af (ab.ae ?_))));refine aP ?_;exact⟨by simp[idx],rfl⟩
 ·skip
  refine ah ?_;refine Zm ?_;refine aX ?_;refine Za ?_;refine aV 0 1 4 5 16 24 (Zt ?_);refine Cd.aM rfl rfl ?_;refine ah ?_;refine Zm ?_;refine Zm ?_;refine Zv (aa.fM (l:=[c]) (j:=0) (c:=c) rfl rfl rfl Tryz.underlying9 rfl rfl hc) ?_;refine Zc (Ze Tryz.func259) (oJ l c _ hl hc) ?_;rintro e w2 ⟨rfl,rfl⟩;refine⟨_,rfl,?_⟩;refine Za ?_;refine aV 0 1 4 5 16 24 (Zt (Cd.ret (ab.af (ab.ae ?_))));refine aP ?_;exact⟨rfl,rfl⟩
def gF (l:List Nat)(c:Nat):List Nat:=if c∈l then l.take (idx l c) else l
def iF (l:List Nat)(c:Nat):List Nat:=if c∈l then l.drop (idx l c+1) else []
theorem wB (l:List Nat)(c:Nat)(w:World)(hl:∀x∈l,x<256)(hc:c<256)(hn:l.length≤9223372036854775807):
  Calls Tryz.prog 253 #[.string (strOf l), .string (strOf [c])] w fun e w'=>e= .returned (.tuple #[.string (strOf (gF l c)), .string (strOf (iF l c)), .bool (decide (c∈l))])∧Grow w w':=by
 have bel:=Below.refl w.heap.size w;have hc1: [c].length=1:=rfl;refine Zs 23 Tryz.func253 ?_;refine ah ?_;refine Za ?_;refine Za ?_;refine Za ?_;refine aL 0 1 4 5 6 (aH (ah ?_));refine Zm ?_;refine Zm ?_;refine Zc (Ze Tryz.func257) (uM l c _ hl hc) ?_;rintro e w2 ⟨rfl,rfl⟩;refine⟨_,rfl,?_⟩
 by_cases hm:c∈l
 ·obtain⟨h1,-,-⟩:=kS l c hm
  rw[if_pos hm];unfold gF iF;rw[if_pos hm,if_pos hm,decide_eq_true hm];refine Za ?_;refine aV 0 1 4 5 6 7 (az ?_);refine Zm ?_;refine oo ?_;refine ba 0 1 4 5 6 7 12 (Zt ?_);refine Cd.aM rfl (decide_eq_true (by omega)) ?_;refine Cd.seq ?_;refine Cd.dB (F':=[(0,_),(1,_),(7,_),(12,_)]) ⟨rfl,rfl,rfl,rfl,trivial⟩ ?_;refine gm 12 ?_;intro w1 hw1 zw1;replace bel:=bel.step hw1;have zbel:=bel.size;refine fN ?_;refine fN ?_;refine Zd (fun w hG=>aa.sliceTo (j:=idx l c) rfl rfl rfl Tryz.underlying9 rfl (by omega)) ?_;refine fN ?_;refine fN ?_;refine fN ?_;refine Zd (fun w hG=>aa.ed rfl rfl Tryz.underlying9) ?_;refine Zd (fun w hG=>aa.oE rfl rfl rfl (by omega) (by omega)) ?_;refine Zd (fun w hG=>aa.sliceFrom (j:=idx l c+1) rfl rfl rfl Tryz.underlying9 rfl (by omega)) ?_;refine Zd (fun w hG=>aa.assign rfl rfl) ?_;refine Zd (fun w hG=>aa.assign rfl rfl) ?_;refine Zd (fun w hG=>aa.assign rfl rfl) ?_;refine Dr.nil ?_;refine bH.done (F':=[(0,_),(1,_),(4,_),(5,_),(6,_),(7,_),(12,_)]) rfl ⟨rfl,rfl,rfl,rfl,rfl,rfl,rfl,trivial⟩ ?_;intro w2 hw2 fw2;replace bel:=bel.step hw2;refine ba 0 1 4 5 6 7 12 (Zt (Cd.ret (ab.ae ?_)));refine ab.kE rfl rfl rfl rfl (.inl rfl) ?_;exact⟨rfl,bel⟩
 ·rw[if_neg hm]
  unfold gF iF;rw[if_neg hm,if_neg hm,decide_eq_false hm];refine Za ?_;refine aV 0 1 4 5 6 7 (az ?_);refine Zm ?_;refine oo ?_;refine ba 0 1 4 5 6 7 12 (Zt ?_);refine Cd.aI rfl rfl ?_;refine Cd.skip (az ?_);refine Zm ?_;refine Za ?_;refine Za ?_;refine Za ?_;refine ba 0 1 4 5 6 7 12 (Zt (Cd.ret ?_));refine ab.kE rfl rfl rfl rfl (.inl rfl) ?_;exact⟨rfl,bel⟩
theorem zn (l:List Nat)(c:Nat)(w:World)(hl:∀x∈l,x<256)(hc:c<256)(hn:l.length≤9223372036854775807):
  Calls Tryz.prog 246 #[.string (strOf l), .string (strOf [c])] w fun e w'=>e= .returned (.tuple #[.string (strOf (gF l c)), .string (strOf (iF l c)), .bool (decide (c∈l))])∧Grow w w':=by
 have bel:=Below.refl w.heap.size w;refine Zs 13 Tryz.func246 ?_;refine ah ?_;refine Za ?_;refine Za ?_;refine Za ?_;refine aL 0 1 4 5 6 (az ?_);refine Zm ?_;refine Zm ?_;refine Zc (Ze Tryz.func253) (wB l c _ hl hc hn) ?_;rintro e w2 ⟨rfl,hb2⟩;refine⟨_,rfl,?_⟩;replace bel:=bel.step hb2;refine Zx ?_;refine Zx ?_;refine Zx ?_;refine Za ?_;refine Za ?_;refine Za ?_;refine aL 0 1 4 5 6 (Zt (Cd.ret ?_));refine ab.kE rfl rfl rfl rfl (.inl rfl) ?_;exact⟨rfl,bel⟩
theorem ox (l:List Nat)(c:Nat)(w:World)(hl:∀x∈l,x<256)(hc:c<256):
  Calls Tryz.prog 241 #[.string (strOf l), .string (strOf [c])] w fun e w'=>e= .returned (.bool (decide (l.head? =some c)))∧w=w':=by
 have h1:∀x∈ [c],x<256:=fun x hx=>by simp at hx;omega
 have h2:∀x∈l.take 1,x<256:=fun x hx=>hl x (List.mem_of_mem_take hx);refine Zs 18 Tryz.func241 ?_;refine ah ?_;refine Za ?_;refine bk 0 1 4 (az ?_);refine Zm ?_;refine Zv (aa.ed rfl rfl Tryz.underlying9) ?_;refine Zm ?_;refine Zv (aa.ed rfl rfl Tryz.underlying9) ?_;refine oo ?_;refine Zm ?_;refine ar.start ?_;refine bB (fun hcx=>aa.move rfl rfl) ?_;refine jL ?_;refine Zn (fun hcx=>aa.ed rfl rfl Tryz.underlying9) ?_;refine Zn (fun hcx=>aa.sliceTo (j:=1) rfl rfl rfl Tryz.underlying9 rfl (by simp at hcx;omega)) ?_;refine jL ?_;refine Zn (fun hcx=>aa.ck (a:=l.take 1) (b:=[c]) rfl rfl rfl h2 h1) ?_;refine dL ?_;refine Za ?_;refine bk 0 1 4 (Zt (Cd.ret ?_));refine aP ?_;refine⟨aO (aB ?_),rfl⟩
 cases l with
 |nil=>simp
 |cons x l=>rw[Bool.eq_iff_iff];simp;omega
theorem nO (l:List Nat)(c:Nat)(w:World)(hl:∀x∈l,x<256)(hc:c<256):
  Calls Tryz.prog 252 #[.string (strOf l), .string (strOf [c])] w fun e w'=>e= .returned (.tuple #[.string (strOf (if l.head? =some c then l.drop 1 else l)), .bool (decide (l.head? =some c))])∧w=w':=by
 refine Zs 15 Tryz.func252 ?_;refine ah ?_;refine Za ?_;refine Za ?_;refine aS 0 1 4 5 (aH (ah ?_));refine Zm ?_;refine Zm ?_;refine Zc (Ze Tryz.func241) (ox l c _ hl hc) ?_;rintro e w2 ⟨rfl,rfl⟩;refine⟨_,rfl,?_⟩
 by_cases hm:l.head? =some c
 ·rw[if_pos hm,decide_eq_true hm]
  have h1:1≤l.length:=by cases l with
   |nil=>simp at hm
   |cons x l=>simp
  refine gU ?_;refine aL 0 1 4 5 9 (Zt ?_);refine Cd.aI rfl rfl ?_;refine Cd.skip (az ?_);refine Zm ?_;refine Zm ?_;refine Zv (aa.ed rfl rfl Tryz.underlying9) ?_;refine Zv (aa.sliceFrom (j:=1) rfl rfl rfl Tryz.underlying9 rfl h1) ?_;refine Za ?_;refine Za ?_;refine aL 0 1 4 5 9 (Zt (Cd.ret ?_));refine cG ?_;exact⟨rfl,rfl⟩
 ·rw[if_neg hm,decide_eq_false hm]
  refine gU ?_;refine aL 0 1 4 5 9 (Zt ?_);refine Cd.aM rfl rfl ?_;refine ah ?_;refine Zm ?_;refine Za ?_;refine Za ?_;refine aL 0 1 4 5 9 (Zt (Cd.ret (ab.ae ?_)));refine cG ?_;exact⟨rfl,rfl⟩
theorem oB (l:List Nat)(c:Nat)(w:World)(hl:∀x∈l,x<256)(hc:c<256):
  Calls Tryz.prog 245 #[.string (strOf l), .string (strOf [c])] w fun e w'=>e= .returned (.tuple #[.string (strOf (if l.head? =some c then l.drop 1 else l)), .bool (decide (l.head? =some c))])∧w=w':=by
 refine Zs 11 Tryz.func245 ?_;refine ah ?_;refine Za ?_;refine Za ?_;refine aS 0 1 4 5 (az ?_);refine Zm ?_;refine Zm ?_;refine Zc (Ze Tryz.func252) (nO l c _ hl hc) ?_;rintro e w2 ⟨rfl,rfl⟩;refine⟨_,rfl,?_⟩;refine Zx ?_;refine Zx ?_;refine Za ?_;refine Za ?_;refine aS 0 1 4 5 (Zt (Cd.ret ?_));refine cG ?_;exact⟨rfl,rfl⟩
theorem uW (c:Nat)(w:World):Calls Tryz.prog 247 #[.int .u8 (c:Int)] w fun e w'=>e= .returned (.bool (decide (48≤c∧c≤57)))∧w=w':=by
 refine Zs 9 Tryz.func247 ?_;refine ah ?_;refine Za ?_;refine cZ 0 2 (az ?_);refine Zm ?_;refine oo ?_;refine Zm ?_;refine ar.start ?_;refine bB (fun hcx=>aa.move rfl rfl) ?_;refine Zn (fun hcx=>aa.leq rfl rfl rfl) ?_;refine dL ?_;refine Za ?_;refine cZ 0 2 (Zt (Cd.ret ?_));refine aP ?_;refine⟨aO (aB ?_),rfl⟩;rw[Bool.eq_iff_iff];simp;omega
def bu (a:Int):Prop:= -9223372036854775808≤a∧a≤9223372036854775807
def fits (a:Int):Bool:=decide (-9223372036854775808≤a)&&decide (a≤9223372036854775807)
def cR (a:Int):Int:=if fits a=true then a else 0
theorem tM {a:Int}(h0: -9223372036854775808≤a)(h1:a≤9223372036854775807):fits a=true:=by unfold fits;rw[decide_eq_true h0,decide_eq_true h1];rfl
theorem na {a:Int}(h:a< -9223372036854775808∨9223372036854775807<a):fits a=false:=by
 unfold fits;rcases h with h|h
 ·rw[decide_eq_false (by omega)];rfl
 ·rw[decide_eq_false (show¬a≤9223372036854775807 by omega)];simp
theorem aa.nilCheck {P:Program}{E:Operand→Option Value}{o:Oper}{w:World}{x:Operand}{ad:Addr}(ho:o.op= .nilCheck x)(hx:E x=some (.pointer (some ad))):aa P E o w (.pointer (some ad)) w:=fun ρ h=>by
 unfold execOp;simp only[ho];rw[h _ _ hx];rfl
theorem aa.zH {P:Program}{E:Operand→Option Value}{o:Oper}{w w':World}{x:Operand}{T T':TypeId}{u v:Value}(ho:o.op= .convert T T' x)(hx:E x=some u)(hr:(convert T T' u).run P w= .ok v w'):aa P E o w v w':=fun ρ h=>by
 unfold execOp;simp only[ho];rw[h _ _ hx];simp only[Sem.run_bind,hr,Result.andThen_ok];rfl
structure Wt (B:Nat)(w w':World):Prop where
 below:Below (min B w.heap.size) w w'
 bL:∀k t cs,aE w k t cs→t≠232→t≠5→aE w' k t cs
section
variable {B:Nat} {w w' w'':World}
theorem Wt.refl (B:Nat)(w:World):Wt B w w:=⟨Below.refl _ _,fun _ _ _ h _ _=>h⟩
theorem Wt.trans (h:Wt B w w')(k:Wt B w' w''):Wt B w w'':=⟨h.below.trans (k.below.mono (by have:=h.below.size;omega)),fun i t cs hb h1 h2=>k.bL i t cs (h.bL i t cs hb h1 h2) h1 h2⟩
theorem Wt.grow (h:Below w.heap.size w w'):Wt B w w':=⟨h.mono (Nat.min_le_right _ _),fun _ _ _ hb _ _=>hb.step h⟩
theorem Wt.step (h:Wt B w w')(k:Below w'.heap.size w' w''):Wt B w w'':=h.trans (Wt.grow k)
theorem Wt.wt (h:Wt B w w')(k:Wt B w' w''):Wt B w w'':=h.trans k
theorem Wt.to (h:Wt B w w')(hB:B≤w.heap.size):Below B w w':=by have:=h.below;rwa [Nat.min_eq_left hB] at this
theorem Wt.uz {g:Nat}{T:TypeId}{cur cs:Array Value}(h:Wt B w w')(k:aE w' g T cur)(p:gI w' w'' g T cs)(hB:B≤g)(hT:T=232∨T=5):Wt B w w'':=
 h.trans ⟨(p.below hB k.lt).mono (Nat.min_le_left _ _),fun i t cs hb h1 h2=>hb.put p (hb.ne k (by rcases hT with rfl|rfl<;>assumption))⟩
theorem aE.wt {k:Nat}{t:TypeId}{cs:Array Value}(h:aE w k t cs)(f:Wt B w w')(h1:t≠232:=by decide)(h2:t≠5:=by decide):aE w' k t cs:=f.bL k t cs h h1 h2
theorem App.wt {n:Nat}{v:Value}{xs:List Value}(h:App w w' B v)(o:Own w B 5 1 v n xs):Wt B w w':=
 ⟨h.below.mono (Nat.min_le_left _ _),fun i t cs hb _ h2=>hb.grown h.grown (fun e=>cA o.row hb (fun e=>h2 e.symm) e.symm)⟩
end
structure Bw (w:World)(B g:Nat)(bs:List Nat):Prop where
 ge:B≤g
 bytes:∀d∈bs,d<256
 cell:∃p v,(p= .pointer none∨p= .pointer (some ⟨g,0,none⟩))∧aE w g 232 #[p,v]∧Own w B 5 1 v bs.length (Bt bs)∧(bs=[]→v= .slice none 0 0)
theorem Bw.size {w:World}{B g:Nat}{bs:List Nat}(h:Bw w B g bs):B≤w.heap.size:=by
 obtain⟨p,v,-,hb,-⟩:=h.cell;have:=hb.lt;have:=h.ge;omega
theorem Bw.step {w w':World}{B g:Nat}{bs:List Nat}(h:Bw w B g bs)(k:Below w.heap.size w w'):Bw w' B g bs:=by
 obtain⟨p,v,hp,hb,ho,hz⟩:=h.cell;exact⟨h.ge,h.bytes,p,v,hp,hb.step k,ho.step k,hz⟩
theorem oD (x:Value)(w:World):(callFunc 235 [x].toArray).run Tryz.prog w= .ok (.value x) w:=by
 rw[run_callFunc_extern Tryz.func235 (by kernel_rfl) (by kernel_rfl) (by kernel_rfl) (e:=Extern.AbiNoEscape.same) (by kernel_rfl),Lib.run_noEscape];rfl
theorem oI (B g:Nat)(bs:List Nat)(w:World)(h:Bw w B g bs):Calls Tryz.prog 213 #[.pointer (some ⟨g,0,none⟩)] w fun e w'=>e= .returned (.tuple #[])∧Wt B w w'∧Bw w' B g bs:=by
 obtain⟨p,v,hp,k0,own,hz⟩:=h.cell;have k00:=k0
 have hsh:∀W p,aE W g 232 #[p,v]→W.shape? g=some (232,2):=fun W p hb=>by
  have hb:W.heap[g]? =some (.cells #[p,v] 232 (0,0)):=hb;simp[World.shape?,hb]
 obtain⟨j,hj,hjs⟩:=bb (P:=Tryz.prog) (t:=230) (n:=2) (by kernel_rfl);rcases hp with rfl|rfl
 ·have hto:=Lib.run_to_unsafe (P:=Tryz.prog) w (src:=228) (dst:=279) (a:=⟨g,0,none⟩) Tryz.underlying228 Tryz.underlying279 hj (by omega) (hsh w _ k0) (show(0:Nat)<2 by decide)
  have hfrom:=Lib.run_from_unsafe (P:=Tryz.prog) w (dst:=228) (src:=279) (a:=⟨g,0,none⟩) Tryz.underlying279 Tryz.underlying228 hj (hsh w _ k0) (by kernel_rfl);refine Zs 20 Tryz.func213 ?_;refine ah ?_;refine Zm ?_;refine Zv (aa.nilCheck rfl rfl) ?_;refine Zf 0 Tryz.underlying230 ?_;refine ZL Tryz.underlying228 k0 ?_;refine Zv (aa.zZ rfl rfl rfl Tryz.underlying228) ?_;refine cZ 0 6 (Zt ?_);refine Cd.aM rfl rfl ?_;refine Zr ?_;refine Zm ?_;refine Zm ?_;refine Zv (aa.zH rfl rfl hto) ?_;refine Zv (aa.here rfl rfl rfl (oD _ _)) ?_;refine Zv (aa.zH rfl rfl hfrom) ?_;refine Zv (aa.nilCheck rfl rfl) ?_;refine Zf 0 Tryz.underlying230 ?_;refine Zq k0 ?_;intro w1 pw1;replace k0:=pw1.an;refine cZ 0 6 ?_;refine ab.du rfl (.inr rfl) ?_;exact⟨rfl,(Wt.refl B w).uz k00 pw1 h.ge (.inl rfl),h.ge,h.bytes,_,v, .inr rfl,k0,own.put (B':=B) k00 pw1 h.ge,hz⟩
 ·refine Calls.start 20 Tryz.func213 rfl rfl rfl ?_
  refine ah ?_;refine Zm ?_;refine Zv (aa.nilCheck rfl rfl) ?_;refine Zf 0 Tryz.underlying230 ?_;refine ZL Tryz.underlying228 k0 ?_;refine Zv (aa.zZ rfl rfl rfl Tryz.underlying228) ?_;refine cZ 0 6 (Zt ?_);refine Cd.aI rfl rfl ?_;refine ah ?_;refine Zm ?_;refine Zv (aa.nilCheck rfl rfl) ?_;refine Zf 0 Tryz.underlying230 ?_;refine ZL Tryz.underlying228 k0 ?_;refine Zm ?_;refine Zv (aa.bin rfl rfl rfl rfl (Lib.run_neq_ptr_same w _ Tryz.underlying228 hj)) ?_;refine bk 0 6 19 (Zt ?_);refine Cd.aI rfl rfl ?_;refine Cd.skip ?_;refine ab.du rfl (.inr rfl) ?_;exact⟨rfl,Wt.refl B w,h⟩
theorem qY {s:List Nat}(hs:∀d∈s,d<256):Lib.strCells (strOf s)=Bt s:=by
 unfold Lib.strCells Bt;rw[cB,List.map_map];refine List.map_congr_left fun d hd=> ?_;show Value.int .u8 ((UInt8.ofNat d).toNat:Int)= .int .u8 (d:Int);rw[ofNat_toNat (hs d hd)]
theorem Seq.yV {P:Program}{ops:Array Oper}{Q:Exit→Act→World→Prop}{rest:List Oper}{o:Oper}{n d:Nat}{F:List (Nat × Value)}{w:World}{v:Value}{x y:Operand}{t u e B:Nat}{k:Nat}{xs:List Value}{s:List Nat}(ho:o.op= .call {callee:= .builtin .append,args:= #[x,y],argTypes:= #[t,u]}) (hx:dg F x=some v) (hy:dg F y=some (.string (strOf s))) (ht:P.underlying t=some (.slice e)) (hu:P.underlying u=some .string) (hs:b6 P e 1=true) (hz:br P e=some (some (.int .u8 0))) (hby:(P.info? e).map (·.bytes)=some 1)
  (hown:Own w B e 1 v k xs) (hsb:∀d∈s,d<256) (hB:B≤w.heap.size) (h63:k+s.length≤1000000000) (hg:o.guard=none) (hd:o.dst=some d) (hn:Nat.blt d n=true)
  (h:∀v' w',Own w' B e 1 v' (k+s.length) (xs++Bt s)→App w w' B v→(v'= .slice none 0 0↔v= .slice none 0 0∧s.length=0)→Seq P ops Q rest n ((d,v')::F) w'):Seq P ops Q (o::rest) n F w:=by
 obtain⟨i,hi,hisz⟩:=bb hs;have hz':i.zero=some (.int .u8 0):=by unfold br at hz;rw[hi] at hz;injection hz
 have hb':i.bytes=1:=by rw[hi] at hby;injection hby
 obtain⟨v',w',hrun,h2,h3,h4⟩:=Lib.run_append_own_string (P:=P) w B t u o.type e i ht hu hi hz' hisz hb' v k xs hown.row (strOf s) (by rw[bq];simp only[maxLen];omega) (by rw[bq];omega) hB;rw[bq] at h2 h4;rw[qY hsb] at h2;refine Seq.val (v:=v') (w':=w') (fun ρ hρ=> ?_) hg hd hn (h v' w' ⟨h2⟩ ⟨?_,h3⟩ h4)
 ·unfold execOp
  simp only[ho,resolve,invoke,builtin,Sem.run_bind,Sem.run_pure,Result.andThen_ok,List.map_toArray,List.map_cons,List.map_nil,hρ _ _ hx,hρ _ _ hy,hrun]
 ·refine⟨h3.os,h3.tape,h3.output,h3.size,fun j hj=>h3.block j (by omega) fun e'=> ?_⟩
  rcases hown.row.2 with ⟨rfl,_⟩|⟨g,cap,cur,rfl,hBg,_⟩
  ·cases e'
  ·injection e' with e'
   have:j=g:=e';omega
def ff (B g:Nat)(bs:List Nat)(w:World)(e:Ending)(w':World):Prop:=(∃v,e= .returned v)∧Wt B w w'∧Bw w' B g bs
theorem bo (B g:Nat)(s bs:List Nat)(w:World)(h:Bw w B g bs)(hs:∀d∈s,d<256)(hl:bs.length+s.length≤1000000000):
  Calls Tryz.prog 174 #[.pointer (some ⟨g,0,none⟩), .string (strOf s)] w (ff B g (bs++s) w)∧∀u,CallsD Tryz.prog 174 #[.pointer (some ⟨g,0,none⟩), .string (strOf s)] u w fun e u' w'=>u'=u∧ff B g (bs++s) w e w':=by
 have wt:=Wt.refl B w;have wr:=h;refine(fun key=>⟨Calls.start 19 Tryz.func174 rfl rfl rfl key,fun u=>CallsD.start 19 Tryz.func174 rfl rfl rfl key⟩) ?_;refine ah ?_;refine Za ?_;refine Za ?_;refine aS 0 1 4 5 (az ?_);refine Zm ?_;refine Zc (Ze Tryz.func213) (oI B g bs _ wr) ?_;clear wr;rintro e w1 ⟨rfl,fw1,wr⟩;refine⟨_,rfl,?_⟩;replace wt:=wt.wt fw1;obtain⟨p,v,hp,k0,own,hz⟩:=wr.cell;refine aS 0 1 4 5 (az ?_);refine Zm ?_;refine Zm ?_;refine Zv (aa.nilCheck rfl rfl) ?_;refine Zf 1 Tryz.underlying230 ?_;refine ZL Tryz.underlying64 k0 ?_;refine Zm ?_;refine Seq.yV rfl rfl rfl Tryz.underlying64 Tryz.underlying9 (by kernel_rfl) bf (by kernel_rfl) own hs wr.size hl rfl rfl rfl ?_;intro v2 w2 own2 ha2 hv2;have k1:=k0.grown ha2.grown (fun e=>cA own.row k0 (by decide) e.symm);have wt2:=wt.trans (ha2.wt own);clear k0 wt;have k0:=k1;have wt:=wt2;obtain⟨A2,c2,rfl,-⟩:=own2.reads;refine Zv (aa.nilCheck rfl rfl) ?_;refine Zf 1 Tryz.underlying230 ?_;refine Zq k0 ?_;intro w2 pw2;replace k0:=pw2.an;refine aS 0 1 4 5 (az ?_);refine Zm ?_;refine Zv (aa.ed rfl rfl Tryz.underlying9) ?_;refine Za ?_;refine Za ?_;refine aS 0 1 4 5 (Zt (Cd.ret ?_));refine cG ?_;refine⟨⟨_,rfl⟩,wt.uz k1 pw2 h.ge (.inl rfl),h.ge,fun d hd=> ?_,p,_,hp,k0,?_,fun hnil=> ?_⟩
 ·rcases List.mem_append.1 hd with hd|hd
  ·exact h.bytes d hd
  ·exact hs d hd
 ·rw[gR,List.length_append]
  exact own2.put (B':=B) k1 pw2 h.ge
 ·rw[hv2]
  have:=congrArg List.length hnil;simp at this;exact⟨hz this.1,by rw[this.2];rfl⟩
theorem xV (B g:Nat)(bs:List Nat)(w:World)(h:Bw w B g bs):Calls Tryz.prog 172 #[.pointer (some ⟨g,0,none⟩)] w fun e w'=>e= .returned (.int .i64 (bs.length:Int))∧Grow w w':=by
 obtain⟨p,v,hp,k0,own,hz⟩:=h.cell;have bel:=Below.refl w.heap.size w;obtain⟨A,c,rfl,-⟩:=own.reads;refine Zs 8 Tryz.func172 ?_;refine ah ?_;refine Za ?_;refine cZ 0 2 (az ?_);refine Zm ?_;refine Zv (aa.nilCheck rfl rfl) ?_;refine Zf 1 Tryz.underlying230 ?_;refine ZL Tryz.underlying64 k0 ?_;refine Zv (aa.len rfl rfl Tryz.underlying64) ?_;refine Za ?_;refine cZ 0 2 (Zt (Cd.ret ?_));refine aP ?_;exact⟨rfl,bel⟩
theorem Own.BC {w:World}{B n:Nat}{e:TypeId}{v:Value}{xs:List Value}(h:Own w B e 1 v n xs)(h0:0<n):∃g cap cur,v= .slice (some ⟨g,0,none⟩) n cap∧B≤g∧aE w g e cur∧n≤cap∧cur.size=cap∧∀(j:Nat) (x:Value),xs[j]? =some x→cur[j]? =some x:=by
 obtain⟨hl,⟨_,h1⟩|⟨g,cap,cur,h',h1,h2,h3,h4,h5,h6⟩⟩:=h.row
 ·omega
 ·refine⟨g,cap,cur,h',h1,h2,h3,by omega,fun j x hx=> ?_⟩
  rw[←h6] at hx
  have:cur.toList[j]? =some x:=by
   rw[List.getElem?_take] at hx;split at hx
   ·exact hx
   ·cases hx
  simpa using this
theorem ry (B g:Nat)(bs:List Nat)(w:World)(h:Bw w B g bs)(hl:bs.length≤1000000000):Calls Tryz.prog 173 #[.pointer (some ⟨g,0,none⟩)] w fun e w'=>e= .returned (.string (strOf bs))∧Below B w w':=by
 obtain⟨p,v,hp,k0,own,hz⟩:=h.cell;have bel:=Below.refl w.heap.size w;have hBw:=h.size;rcases Nat.eq_zero_or_pos bs.length with h0|h0
 ·have hb:bs=[]:=List.eq_nil_of_length_eq_zero h0
  have hv:=hz hb;subst hb hv;refine Zs 14 Tryz.func173 ?_;refine ah ?_;refine Za ?_;refine cZ 0 2 (aH ?_);refine gm 10 ?_;intro w1 hw1 zw1;replace bel:=bel.step hw1;replace k0:=k0.step hw1;have zbel:=bel.size;have zlt:=k0.lt;refine fN ?_;refine Zd (fun w hG=>aa.nilCheck rfl rfl) ?_;refine gw 1 Tryz.underlying230 ?_;refine fb Tryz.underlying64 k0 ?_;refine Zd (fun w hG=>aa.fR (v:= .pointer none) rfl rfl (vs:=[.slice none 0 0]) rfl (fun cs=>by simp[builtin,Lib.run_unsafeSliceData_nil])) ?_;refine fN ?_;refine Zd (fun w hG=>aa.nilCheck rfl rfl) ?_;refine gw 1 Tryz.underlying230 ?_;refine fb Tryz.underlying64 k0 ?_;refine Zd (fun w hG=>aa.len rfl rfl Tryz.underlying64) ?_;refine Dr.nil ?_;refine bH.done (F':=[(0,_),(2,_),(7,_),(12,_)]) rfl ⟨rfl,rfl,rfl,rfl,trivial⟩ ?_;intro w2 hw2 fw2;replace bel:=bel.step hw2;replace k0:=k0.step hw2;refine Zv (aa.fR (v:= .string (strOf [])) rfl rfl (vs:=[.pointer none, .int .i64 ((0:Nat):Int)]) rfl (fun cs=>by simp[builtin,Lib.run_unsafeString_none];exact⟨rfl,rfl⟩)) ?_;refine Za ?_;refine cZ 0 2 (Zt (Cd.ret ?_));refine aP ?_;exact⟨rfl,bel.mono hBw⟩
 ·obtain⟨gb,cap,cur,rfl,hgb,kb,hcap,hsz,hcur⟩:=own.BC h0
  refine Zs 14 Tryz.func173 ?_;refine ah ?_;refine Za ?_;refine cZ 0 2 (aH ?_);refine gm 10 ?_;intro w1 hw1 zw1;replace bel:=bel.step hw1;replace k0:=k0.step hw1;replace kb:=kb.step hw1;have zbel:=bel.size;have zlt:=k0.lt;refine fN ?_;refine Zd (fun w hG=>aa.nilCheck rfl rfl) ?_;refine gw 1 Tryz.underlying230 ?_;refine fb Tryz.underlying64 k0 ?_;refine Zd (fun w hG=>aa.fR (v:= .pointer (some ⟨gb,0,none⟩)) rfl rfl (vs:=[.slice (some ⟨gb,0,none⟩) bs.length cap]) rfl (fun cs=>by have:=Lib.run_unsafeSliceData_row (P:=Tryz.prog) w #[64] 263 ⟨gb,0,none⟩ bs.length cap (by omega);simp[builtin,this])) ?_;refine fN ?_;refine Zd (fun w hG=>aa.nilCheck rfl rfl) ?_;refine gw 1 Tryz.underlying230 ?_;refine fb Tryz.underlying64 k0 ?_;refine Zd (fun w hG=>aa.len rfl rfl Tryz.underlying64) ?_;refine Dr.nil ?_;refine bH.done (F':=[(0,_),(2,_),(7,_),(12,_)]) rfl ⟨rfl,rfl,rfl,rfl,trivial⟩ ?_;intro w2 hw2 fw2;replace bel:=bel.step hw2;replace k0:=k0.step hw2;replace kb:=kb.step hw2
  have hsh:∀W,aE W gb 5 cur→W.shape? gb=some (5,cap):=fun W hb=>by
   have hb:W.heap[gb]? =some (.cells cur 5 (0,0)):=hb;simp[World.shape?,hb,hsz]
  have hcell:∀W,aE W gb 5 cur→∀j x,(bs.map UInt8.ofNat)[j]? =some x→W.cell? ((⟨gb,0,none⟩:Addr).add j)=some (.int .u8 x.toNat):=fun W hb j x hx=>by
   have hadd:(⟨gb,0,none⟩:Addr).add j=⟨gb,j,none⟩:=by unfold Addr.add;split<;>simp_all
   rw[hadd,hb.cell j];rw[List.getElem?_map] at hx
   cases hbj:bs[j]? with
   |none=>rw[hbj] at hx;cases hx
   |some d=>
    rw[hbj] at hx;injection hx with hx
    subst hx;rw[ofNat_toNat (h.bytes d (List.mem_of_getElem? hbj))];exact hcur j _ (by rw[kX,hbj];rfl)
  have hrun:=Lib.run_unsafeString_row (P:=Tryz.prog) _ 263 3 9 5 Tryz.underlying263 (by kernel_rfl) gb cap (hsh _ kb) (bs.map UInt8.ofNat) (by intro hn;rw[List.map_eq_nil_iff] at hn;rw[hn] at h0;simp at h0) (by simpa using hcap) (by simp;omega) (hcell _ kb);rw[List.length_map] at hrun;refine Zv (aa.fR (v:= .string (strOf bs)) rfl rfl (vs:=[.pointer (some ⟨gb,0,none⟩), .int .i64 ((bs.length:Nat):Int)]) rfl (fun cs=>by simp[builtin,hrun];exact⟨rfl,rfl⟩)) ?_;have bel2:=Lib.below_freeze (bel.mono hBw) (p:=⟨gb,0,none⟩) hgb bs.length;refine Za ?_;refine cZ 0 2 (Zt (Cd.ret ?_));refine aP ?_;exact⟨rfl,bel2⟩
theorem xe (x y:Int)(hx0:0≤x)(hx:x<18446744073709551616)(hy0:0≤y)(hy:y<18446744073709551616):
  IntKind.u64.wrap (IntKind.u64.wrap (IntKind.u64.wrap (x/4294967296*(y/4294967296))+IntKind.u64.wrap (IntKind.u64.wrap (x/4294967296*bits BinOp.and IntKind.u64 y 4294967295)+
    IntKind.u64.wrap (bits BinOp.and IntKind.u64 x 4294967295*bits BinOp.and IntKind.u64 y 4294967295)/4294967296)/4294967296)+
   IntKind.u64.wrap (bits BinOp.and IntKind.u64 (IntKind.u64.wrap (IntKind.u64.wrap (x/4294967296*bits BinOp.and IntKind.u64 y 4294967295)+
    IntKind.u64.wrap (bits BinOp.and IntKind.u64 x 4294967295*bits BinOp.and IntKind.u64 y 4294967295)/4294967296)) 4294967295+
    IntKind.u64.wrap (bits BinOp.and IntKind.u64 x 4294967295*(y/4294967296)))/4294967296)=x*y/18446744073709551616:=by
 rw[and_low32 y hy0 hy,and_low32 x hx0 hx,and_low32 _ (by rw[wrap_u64];omega) (by rw[wrap_u64];omega)];simp only[wrap_u64];exact mul64_arith x y hx0 hx hy0 hy
def B9 (x y:Int):Int:=x*y/18446744073709551616
def Cc (x y:Int):Int:=x*y%18446744073709551616
set_option maxHeartbeats 400000 in
theorem vQ (x y:Int)(w:World)(hx0:0≤x)(hx:x<18446744073709551616)(hy0:0≤y)(hy:y<18446744073709551616):
  Calls Tryz.prog 258 #[.int .u64 x, .int .u64 y] w fun e w'=>e= .returned (.tuple #[.int .u64 (B9 x y), .int .u64 (Cc x y)])∧w=w':=by
 go_enter Tryz.func258,Tryz.ntmps258
 go_wp2
 go_ret2
 exact⟨uu (int_eq (xe x y hx0 hx hy0 hy)) (int_eq (wrap_u64 _)),rfl⟩
theorem oy:br Tryz.prog 289=some (some (.agg #[.int .u64 0, .int .u64 0, .bool false])):=by kernel_rfl
theorem ng (a:Int)(w:World)(h:bu a):Calls Tryz.prog 216 #[.int .i64 a] w fun e w'=>e= .returned (.int .u64 (a.natAbs:Int))∧w=w':=by
 obtain⟨h0,h1⟩:=h;refine Zs 10 Tryz.func216 ?_;refine ah ?_;refine Za ?_;refine cZ 0 2 (aH (ah ?_));refine Zm ?_;refine eU ?_;refine bk 0 2 4 (Zt ?_);refine Cd.ao rfl (fun hc=> ?_) (fun hc=> ?_)
 ·skip
  refine ah ?_;refine Zm ?_;refine Zv (aa.fe rfl rfl Tryz.underlying2 Tryz.underlying94 (wrap_u64 a)) ?_;refine Zv (aa.neg rfl rfl (r:=(a.natAbs:Int)) (by rw[wrap_u64];omega)) ?_;refine Za ?_;refine bk 0 2 4 (Zt (Cd.ret (ab.ae ?_)));refine aP ?_;exact⟨rfl,rfl⟩
 ·skip
  refine Cd.skip (az ?_);refine Zm ?_;refine Zv (aa.fe rfl rfl Tryz.underlying2 Tryz.underlying94 (r:=(a.natAbs:Int)) (by rw[wrap_u64];omega)) ?_;refine Za ?_;refine bk 0 2 4 (Zt (Cd.ret ?_));refine aP ?_;exact⟨rfl,rfl⟩
theorem u9 (x y:Nat)(w:World)(hx:x<18446744073709551616)(hy:y<18446744073709551616):
  Calls Tryz.prog 258 #[.int .u64 (x:Int), .int .u64 (y:Int)] w fun e w'=>e= .returned (.tuple #[.int .u64 ((x*y/18446744073709551616:Nat):Int), .int .u64 ((x*y%18446744073709551616:Nat):Int)])∧w=w':=
 (vQ x y w (by omega) (by omega) (by omega) (by omega)).mono fun e w' ⟨h1,h2⟩=>⟨by rw[h1];unfold B9 Cc;rw[←Int.natCast_mul];rfl,h2⟩
def wQ (m:Nat)(neg:Bool):Value:= .agg #[.int .u64 ((m/18446744073709551616:Nat):Int), .int .u64 ((m%18446744073709551616:Nat):Int), .bool neg]
theorem nY (a b:Int)(c:Bool)(w:World):(Instr.build 289 #[(0, .int .u64 a),(1, .int .u64 b),(2, .bool c)]).run Tryz.prog w= .ok (.agg #[.int .u64 a, .int .u64 b, .bool c]) w:=by
 have hu:=Tryz.underlying289
 go_simp
theorem rk (a b:Int)(w:World)(ha:bu a)(hb:bu b):
  Calls Tryz.prog 254 #[.int .i64 a, .int .i64 b] w fun e w'=>e= .returned (wQ (a.natAbs*b.natAbs) (decide (decide (a<0)≠decide (b<0))))∧Grow w w':=by
 have bel:=Below.refl w.heap.size w;have ha2:a.natAbs<18446744073709551616:=by have:=ha.1;have:=ha.2;omega
 have hb2:b.natAbs<18446744073709551616:=by have:=hb.1;have:=hb.2;omega
 refine Zs 23 Tryz.func254 ?_;refine ah ?_;refine Zl oy ?_;intro g4 w1 n4;have e4:=Nat.le_trans bel.size n4.ge;replace bel:=bel.step n4.below;have k4:=n4.an;refine bk 0 1 4 (az ?_);refine Zm ?_;refine Zc (Ze Tryz.func216) (ng _ _ ha) ?_;rintro e w3 ⟨rfl,rfl⟩;refine⟨_,rfl,?_⟩;refine Zm ?_;refine Zc (Ze Tryz.func216) (ng _ _ hb) ?_;rintro e w3 ⟨rfl,rfl⟩;refine⟨_,rfl,?_⟩;refine Zc (Ze Tryz.func258) (u9 _ _ _ ha2 hb2) ?_;rintro e w3 ⟨rfl,rfl⟩;refine⟨_,rfl,?_⟩;refine Zm ?_;refine Zx ?_;refine Zx ?_;refine Za ?_;refine Za ?_;refine aL 0 1 4 5 6 (az ?_);refine Zm ?_;refine Zm ?_;refine Zm ?_;refine eU ?_;refine Zm ?_;refine eU ?_;refine Zv (aa.zx rfl rfl rfl Tryz.underlying4) ?_;refine Zv (aa.build rfl rfl (nY _ _ _ _)) ?_;refine Zo 3 k4 ?_;intro w2 pw2;replace bel:=bel.put k4 pw2 e4;replace k4:=pw2.an;refine aL 0 1 4 5 6 (Zt (Cd.ret ?_));refine iH 3 k4 Tryz.underlying289 ?_;exact⟨rfl,bel⟩
def wV (neg:Bool)(m:Nat):Int:=if neg then -(m:Int) else m
theorem ta (m:Nat)(neg:Bool)(w:World)(hm:m<340282366920938463463374607431768211456):
  Calls Tryz.prog 255 #[wQ m neg] w fun e w'=>∃v,e= .returned (.tuple #[.int .i64 v, .bool (fits (wV neg m))])∧(fits (wV neg m)=true→v=wV neg m)∧Grow w w':=by
 have bel:=Below.refl w.heap.size w;unfold wQ;refine Zs 24 Tryz.func255 ?_;refine ah ?_;refine Seq.box rfl rfl rfl rfl rfl ?_;intro g1 w1 n1;have e1:=Nat.le_trans bel.size n1.ge;replace bel:=bel.step n1.below;have k1:=n1.an;refine Za ?_;refine Za ?_;refine aS 0 1 2 3 (aH (Cd.block (ah ?_)));refine Zf 0 Tryz.underlying289 ?_;refine ZL Tryz.underlying94 k1 ?_;refine jq ?_;refine Za ?_;refine aL 0 1 2 3 4 (Zt ?_);refine Cd.ao rfl (fun hc=> ?_) (fun hc=> ?_)
 ·have hf:fits (wV neg m)=false:=by
   apply na;unfold wV
   cases neg<;>simp at hc⊢ <;>omega
  rw[hf];refine ah ?_;refine Za ?_;refine Za ?_;refine aL 0 1 2 3 4 (Zt (Cd.ret (ab.af (ab.ae ?_))));refine cG ?_;exact⟨0,rfl,(fun h=>by cases h),bel⟩
 ·have hlt:m<18446744073709551616:=by simp at hc;omega
  cases neg
  ·skip
   refine ah ?_;refine Zf 2 Tryz.underlying289 ?_;refine ZL Tryz.underlying4 k1 ?_;refine Za ?_;refine aV 0 1 2 3 4 8 (Zt ?_);refine Cd.aI rfl rfl ?_;refine Cd.skip (ab.ag (aH ?_));refine Cd.dB (F':=[(0,_),(1,_),(4,_),(8,_)]) ⟨rfl,rfl,rfl,rfl,trivial⟩ ?_;refine gm 8 ?_;intro w2 hw2 zw2;replace bel:=bel.step hw2;replace k1:=k1.step hw2;have zbel:=bel.size;have zlt:=k1.lt;refine gw 1 Tryz.underlying289 ?_;refine fb Tryz.underlying94 k1 ?_;refine Zd (fun w hG=>aa.fe rfl rfl Tryz.underlying94 Tryz.underlying2 rfl) ?_;refine gw 1 Tryz.underlying289 ?_;refine fb Tryz.underlying94 k1 ?_;refine Zd (fun w hG=>aa.lss rfl rfl rfl) ?_;refine Zd (fun w hG=>aa.assign rfl rfl) ?_;refine Zd (fun w hG=>aa.assign rfl rfl) ?_;refine Dr.nil ?_;refine bH.done (F':=[(0,_),(1,_),(2,_),(3,_),(4,_),(8,_)]) rfl ⟨rfl,rfl,rfl,rfl,rfl,rfl,trivial⟩ ?_;intro w3 hw3 fw3;replace bel:=bel.step hw3;replace k1:=k1.step hw3;refine aV 0 1 2 3 4 8 (Zt (Cd.ret ?_));refine cG ?_;refine⟨_,uu rfl (aB ?_),fun h=> ?_,bel⟩
   ·unfold fits wV;rw[Bool.eq_iff_iff];simp;omega
   ·unfold fits wV at *;simp at h⊢;rw[IntKind.wrap_i64];omega
  ·skip
   refine ah ?_;refine Zf 2 Tryz.underlying289 ?_;refine ZL Tryz.underlying4 k1 ?_;refine Za ?_;refine aV 0 1 2 3 4 8 (Zt ?_);refine Cd.aM rfl rfl ?_;refine Cd.seq ?_;refine Cd.dB (F':=[(0,_),(1,_),(4,_),(8,_)]) ⟨rfl,rfl,rfl,rfl,trivial⟩ ?_;refine gm 9 ?_;intro w2 hw2 zw2;replace bel:=bel.step hw2;replace k1:=k1.step hw2;have zbel:=bel.size;have zlt:=k1.lt;refine gw 1 Tryz.underlying289 ?_;refine fb Tryz.underlying94 k1 ?_;refine Zd (fun w hG=>aa.fe rfl rfl Tryz.underlying94 Tryz.underlying2 rfl) ?_;refine Zd (fun w hG=>aa.neg rfl rfl rfl) ?_;refine gw 1 Tryz.underlying289 ?_;refine fb Tryz.underlying94 k1 ?_;refine Zd (fun w hG=>aa.leq rfl rfl rfl) ?_;refine Zd (fun w hG=>aa.assign rfl rfl) ?_;refine Zd (fun w hG=>aa.assign rfl rfl) ?_;refine Dr.nil ?_;refine bH.done (F':=[(0,_),(1,_),(2,_),(3,_),(4,_),(8,_)]) rfl ⟨rfl,rfl,rfl,rfl,rfl,rfl,trivial⟩ ?_;intro w3 hw3 fw3;replace bel:=bel.step hw3;replace k1:=k1.step hw3;refine aV 0 1 2 3 4 8 (Zt (Cd.ret (ab.af (ab.ae ?_))));refine cG ?_;refine⟨_,uu rfl (aB ?_),fun h=> ?_,bel⟩
   ·unfold fits wV;rw[Bool.eq_iff_iff];simp;omega
   ·unfold fits wV at *;simp at h⊢;rw[IntKind.wrap_i64,IntKind.wrap_i64];omega
theorem qI {a:Int}(h:fits a=false):Ending.returned (.tuple #[.int .i64 0, .bool false])= .returned (.tuple #[.int .i64 (cR a), .bool (fits a)]):=by unfold cR;rw[h];rfl
theorem qa {a s:Int}(h:fits a=true)(hs:s=a):Ending.returned (.tuple #[.int .i64 s, .bool true])= .returned (.tuple #[.int .i64 (cR a), .bool (fits a)]):=by unfold cR;rw[h,hs];rfl
theorem yO (a b:Int)(w:World)(ha:bu a)(hb:bu b):
  Calls Tryz.prog 249 #[.int .i64 a, .int .i64 b] w fun e w'=>e= .returned (.tuple #[.int .i64 (cR (a+ -b)), .bool (fits (a+ -b))])∧Grow w w':=by
 obtain⟨ha0,ha1⟩:=ha;obtain⟨hb0,hb1⟩:=hb;refine Zs 23 Tryz.func249 ?_;refine ah ?_;refine Za ?_;refine Za ?_;refine aS 0 1 4 5 (az ?_);refine Zm ?_;refine Zm ?_;refine Zv (aa.zg rfl rfl rfl rfl) ?_
 generalize hs:IntKind.i64.wrap (a-b)=s
 rw[IntKind.wrap_i64] at hs;refine Za ?_;refine aL 0 1 4 5 6 (aH (ah ?_));refine Zm ?_;refine eU ?_;refine Zm ?_;refine eU ?_;refine Zv (aa.zx rfl rfl rfl Tryz.underlying4) ?_;refine Zm ?_;refine ar.start ?_;refine bB (fun hcx=>aa.move rfl rfl) ?_;refine Zn (fun hcx=>aa.lss rfl rfl rfl) ?_;refine jL ?_;refine Zn (fun hcx=>aa.lss rfl rfl rfl) ?_;refine Zn (fun hcx=>aa.zx rfl rfl rfl Tryz.underlying4) ?_;refine dL ?_;refine aV 0 1 4 5 6 21 (Zt ?_);refine Cd.cond rfl (fun h=> ?_) (fun h=> ?_)
 ·skip
  refine ah ?_;refine Za ?_;refine Za ?_;refine aV 0 1 4 5 6 21 (Zt (Cd.ret (ab.ae ?_)));refine cG ?_;simp at h;exact⟨qI (na (by omega)),Grow.refl _⟩
 ·skip
  refine Cd.skip (az ?_);refine Zm ?_;refine Za ?_;refine Za ?_;refine aV 0 1 4 5 6 21 (Zt (Cd.ret ?_));refine cG ?_;simp at h;exact⟨qa (tM (by omega) (by omega)) (by omega),Grow.refl _⟩
theorem neg_num (a:Int)(w:World)(ha:bu a):
  Calls Tryz.prog 250 #[.int .i64 a] w fun e w'=>e= .returned (.tuple #[.int .i64 (cR (-a)), .bool (fits (-a))])∧Grow w w':=by
 obtain⟨ha0,ha1⟩:=ha;refine Zs 8 Tryz.func250 ?_;refine ah ?_;refine Za ?_;refine Za ?_;refine bk 0 2 3 (aH (ah ?_));refine Zm ?_;refine aX ?_;refine aS 0 2 3 5 (Zt ?_);refine Cd.ao rfl (fun h=> ?_) (fun h=> ?_)
 ·skip
  refine ah ?_;refine Za ?_;refine Za ?_;refine aS 0 2 3 5 (Zt (Cd.ret (ab.ae ?_)));refine cG ?_;exact⟨qI (na (by omega)),Grow.refl _⟩
 ·skip
  refine Cd.skip (az ?_);refine Zm ?_;refine Zv (aa.neg rfl rfl (jA (by omega) (by omega))) ?_;refine Za ?_;refine Za ?_;refine aS 0 2 3 5 (Zt (Cd.ret ?_));refine cG ?_;exact⟨qa (tM (by omega) (by omega)) (by omega),Grow.refl _⟩
theorem wR (a b:Int):wV (decide (decide (a<0)≠decide (b<0))) (a.natAbs*b.natAbs)=a*b:=by
 unfold wV;rw[Int.natCast_mul]
 by_cases ha:a<0
 ·have ea:(a.natAbs:Int)= -a:=by omega
  by_cases hb:b<0
  ·have eb:(b.natAbs:Int)= -b:=by omega
   rw[ea,eb,Int.neg_mul_neg];simp[ha,hb]
  ·have eb:(b.natAbs:Int)=b:=by omega
   rw[ea,eb,Int.neg_mul,Int.neg_neg];simp[ha,hb]
 ·have ea:(a.natAbs:Int)=a:=by omega
  by_cases hb:b<0
  ·have eb:(b.natAbs:Int)= -b:=by omega
   rw[ea,eb,Int.mul_neg,Int.neg_neg];simp[ha,hb]
  ·have eb:(b.natAbs:Int)=b:=by omega
   rw[ea,eb];simp[ha,hb]
theorem y0 (a b:Int)(w:World)(ha:bu a)(hb:bu b):
  Calls Tryz.prog 248 #[.int .i64 a, .int .i64 b] w fun e w'=>e= .returned (.tuple #[.int .i64 (cR (a*b)), .bool (fits (a*b))])∧Grow w w':=by
 have bel:=Below.refl w.heap.size w
 have hm:a.natAbs*b.natAbs<340282366920938463463374607431768211456:=by
  have h1:=ha.1;have h2:=ha.2;have h3:=hb.1;have h4:=hb.2;have:=Nat.mul_le_mul (show a.natAbs≤9223372036854775808 by omega) (show b.natAbs≤9223372036854775808 by omega);omega
 refine Zs 18 Tryz.func248 ?_;refine ah ?_;refine Za ?_;refine Za ?_;refine aS 0 1 4 5 (az ?_);refine Zm ?_;refine Zm ?_;refine Zc (Ze Tryz.func254) (rk a b _ ha hb) ?_;rintro e w4 ⟨rfl,hb4⟩;refine⟨_,rfl,?_⟩;replace bel:=bel.step hb4;refine Zc (Ze Tryz.func255) (ta _ _ _ hm) ?_;rw[wR];rintro e w5 ⟨v,rfl,hv,hb5⟩;refine⟨_,rfl,?_⟩;replace bel:=bel.step hb5;refine Zm ?_;refine Zx ?_;refine Zx ?_;refine Za ?_;refine Za ?_;refine aV 0 1 4 5 6 7 (aH (ah ?_));refine Zm ?_;refine gU ?_;refine ba 0 1 4 5 6 7 16 (Zt ?_);refine Cd.cond rfl (fun h=> ?_) (fun h=> ?_)
 ·skip
  refine ah ?_;refine Za ?_;refine Za ?_;refine ba 0 1 4 5 6 7 16 (Zt (Cd.ret (ab.ae ?_)));refine cG ?_;simp at h;exact⟨qI h,bel⟩
 ·skip
  refine Cd.skip (az ?_);refine Zm ?_;refine Za ?_;refine Za ?_;refine ba 0 1 4 5 6 7 16 (Zt (Cd.ret ?_));refine cG ?_;simp at h;exact⟨qa h (hv h),bel⟩
def bh (l:List Nat):List Nat:=if l.head? =some 45 then l.drop 1 else l
theorem od (F R:List Nat)(c:Nat)(h:c∉F):idx (F++c::R) c=F.length:=by
 induction F with
 |nil=>simp[idx,List.findIdx_cons]
 |cons x F ih=>
  have hx:(x==c)=false:=beq_eq_false_iff_ne.2 (fun e=>h (by simp[e]));have:=ih (fun hm=>h (List.mem_cons_of_mem _ hm));unfold idx at this⊢;rw[List.cons_append,List.findIdx_cons,hx,List.length_cons,←this];rfl
theorem wH {l:List Nat}{d:Nat}{y:Int}{F B:List Nat}(h:Form l d y F B):(l.head? =some 45↔y<0)∧(46∈bh l↔0<d)∧gF (bh l) 46=F∧iF (bh l) 46=B:=by
 obtain⟨hf,hb,hlen,hpos,hlead,hval,heq⟩:=h;have hF46:46∉F:=fun hm=>by have:=hf 46 hm;unfold gN at this;omega
 have hh:(l.head? =some 45)↔y<0:=by
  rw[heq];unfold m6
  by_cases hx:y<0
  ·simp[hx]
  ·cases F with
   |nil=>simp at hpos
   |cons c F=>
    have:=hf c (List.mem_cons_self ..);unfold gN at this;simp[hx];omega
 have hr:bh l=F++(if 0<d then 46::B else []):=by
  unfold bh
  by_cases hx:y<0
  ·rw[if_pos (hh.2 hx),heq]
   unfold m6;rw[if_pos hx];rfl
  ·rw[if_neg (fun h=>hx (hh.1 h)),heq]
   unfold m6;rw[if_neg hx];rfl
 refine⟨hh,?_,?_,?_⟩
 ·rw[hr]
  by_cases hd:0<d
  ·simp[hd]
  ·simp[hd,hF46]
 ·rw[hr]
  unfold gF
  by_cases hd:0<d
  ·rw[if_pos hd,if_pos (by simp),od _ _ _ hF46,List.take_left]
  ·rw[if_neg hd,List.append_nil,if_neg hF46]
 ·rw[hr]
  unfold iF
  by_cases hd:0<d
  ·rw[if_pos hd,if_pos (by simp),od _ _ _ hF46,←List.drop_drop,List.drop_left]
   rfl
  ·rw[if_neg hd,List.append_nil,if_neg hF46]
   exact(List.eq_nil_of_length_eq_zero (by omega)).symm
theorem xt {l:List Nat}{d:Nat}{x:Int}(hp:46∈bh l↔0<d)(hb:(iF (bh l) 46).length=d)(hf:0<(gF (bh l) 46).length)(hlead:1<(gF (bh l) 46).length→(gF (bh l) 46)[0]? ≠some 48)
  (hdg:∀c∈gF (bh l) 46++iF (bh l) 46,gN c) (hx:cK (gF (bh l) 46++iF (bh l) 46)=x.natAbs) (hs:x<0↔l.head? =some 45):Form l d x (gF (bh l) 46) (iF (bh l) 46):=by
 refine⟨fun c hc=>hdg c (List.mem_append_left _ hc),fun c hc=>hdg c (List.mem_append_right _ hc),hb,hf,hlead,hx,?_⟩
 have hr:bh l=gF (bh l) 46++(if 0<d then 46::iF (bh l) 46 else []):=by
  by_cases hd:0<d
  ·have hm:=hp.2 hd
   unfold gF iF;rw[if_pos hm,if_pos hm,if_pos hd];exact(kS _ _ hm).2.2
  ·have hm:¬46∈bh l:=fun h=>hd (hp.1 h)
   unfold gF;rw[if_neg hm,if_neg hd,List.append_nil]
 unfold m6;rw[←hr];unfold bh
 by_cases h:l.head? =some 45
 ·rw[if_pos (hs.2 h),if_pos h]
  cases l with
  |nil=>simp at h
  |cons c l=>simp at h;subst h;rfl
 ·rw[if_neg (fun h0=>h (hs.1 h0)),if_neg h]
  rfl
def yX (l:List Nat)(d x:Int)(b:Bool):Prop:=
 (b=true→0≤d∧d≤9∧bu x∧∃F B,Form l d.toNat x F B)∧(b=false→x=0∧(0≤d→d≤9→∀y,bu y→∀F B,¬Form l d.toNat y F B))
theorem vV {l:List Nat}(hl:∀x∈l,x<256):∀x∈bh l,x<256:=by
 unfold bh;split
 ·exact fun x hx=>hl x (List.mem_of_mem_drop hx)
 ·exact hl
theorem tp (l:List Nat):(bh l).length≤l.length:=by
 unfold bh;split
 ·rw[List.length_drop];omega
 ·omega
theorem xu {l:List Nat}{c:Nat}:(∀x∈gF l c,x∈l)∧(gF l c).length+(iF l c).length≤l.length:=by
 unfold gF iF
 constructor
 ·split
  ·exact fun x hx=>List.mem_of_mem_take hx
  ·exact fun x hx=>hx
 ·split
  ·rename_i h
   have:=(kS l c h).1;rw[List.length_take,List.length_drop];omega
  ·simp
theorem x5 {l:List Nat}{c:Nat}:∀x∈iF l c,x∈l:=by
 unfold iF;split
 ·exact fun x hx=>List.mem_of_mem_drop hx
 ·exact fun x hx=>by simp at hx
set_option maxHeartbeats 1000000 in
theorem tl (l:List Nat)(d:Int)(w:World)(hl:∀x∈l,x<256)(hn:l.length≤9223372036854775807)(hd:bu d):
  Calls Tryz.prog 240 #[.string (strOf l), .int .i64 d] w fun e w'=>∃x b,e= .returned (.tuple #[.int .i64 x, .bool b])∧yX l d x b∧Grow w w':=by
 have bel:=Below.refl w.heap.size w;refine Zs 95 Tryz.func240 ?_;refine ah ?_;refine Za ?_;refine Za ?_;refine aS 0 1 4 5 (aH (ah ?_));refine Zm ?_;refine eU ?_;refine Zm ?_;refine ar.start ?_;refine bB (fun hcx=>aa.move rfl rfl) ?_;refine Zn (fun hcx=>aa.gtr rfl rfl rfl) ?_;refine fh ?_;refine aL 0 1 4 5 21 (Zt ?_);refine Cd.cond rfl (fun h=> ?_) (fun h=> ?_)
 ·skip
  refine ah ?_;refine Za ?_;refine Za ?_;refine aL 0 1 4 5 21 (Zt (Cd.ret (ab.ae ?_)));refine cG ?_;exact⟨0,false,rfl,⟨fun h=>(by cases h),fun _=>⟨rfl,fun h1 h2=>(by simp at h;omega)⟩⟩,bel⟩
 obtain⟨D,rfl⟩:∃D:Nat,d=(D:Int):=⟨d.toNat,by simp at h;omega⟩;have hD:D≤9:=by simp at h;omega
 clear h;have hno:(∀y,bu y→∀F B,¬Form l D y F B)→yX l (D:Int) 0 false:=fun h=>⟨fun h=>(by cases h),fun _=>⟨rfl,fun _ _=>by rw[Int.toNat_natCast];exact h⟩⟩;have hrl:=vV hl;have hrn:=tp l;have hrd:(if l.head? =some 45 then l.drop 1 else l)=bh l:=rfl;refine Cd.skip (az ?_);refine Zm ?_;refine Zc (Ze Tryz.func245) (oB l 45 _ hl (by omega)) ?_;rintro e w2 ⟨rfl,rfl⟩;refine⟨_,rfl,?_⟩;rw[hrd];refine Zm ?_;refine Zx ?_;refine Zx ?_;refine Za ?_;refine Za ?_;refine ba 0 1 4 5 6 7 21 (az ?_);refine Zm ?_;refine Zc (Ze Tryz.func246) (zn (bh l) 46 _ hrl (by omega) (by omega)) ?_;rintro e w3 ⟨rfl,hb3⟩;refine⟨_,rfl,?_⟩;replace bel:=bel.step hb3;have hA:=xu (l:=bh l) (c:=46);have hB:=x5 (l:=bh l) (c:=46);have hFl:∀x∈gF (bh l) 46,x<256:=fun x hx=>hrl x (hA.1 x hx);have hBl:∀x∈iF (bh l) 46,x<256:=fun x hx=>hrl x (hB x hx);have hlen:=hA.2;have hform:=fun y F B (h:Form l D y F B)=>wH h;have hmk:=fun x=>xt (l:=l) (d:=D) (x:=x)
 generalize hF:gF (bh l) 46=F at *
 generalize hBd:iF (bh l) 46=B at *
 refine Zm ?_;refine Zx ?_;refine Zx ?_;refine Zx ?_;refine Za ?_;refine Za ?_;refine Za ?_;refine dr 0 1 4 5 6 7 8 9 10 21 (aH (ah ?_));refine Zm ?_;refine Zm ?_;refine qK ?_;refine Zv (aa.zx rfl rfl rfl Tryz.underlying4) ?_;refine Zm ?_;refine ar.start ?_;refine bB (fun hcx=>aa.move rfl rfl) ?_;refine Zn (fun hcx=>aa.ed rfl rfl Tryz.underlying9) ?_;refine jL ?_;refine Zn (fun hcx=>aa.bT rfl rfl rfl) ?_;refine fh ?_;refine Zm ?_;refine ar.start ?_;refine bB (fun hcx=>aa.move rfl rfl) ?_;refine Zn (fun hcx=>aa.ck (a:=F) (b:=[]) rfl rfl rfl hFl (fun x hx=>by simp at hx)) ?_;refine fh ?_;refine Zm ?_;refine ar.start ?_;refine bB (fun hcx=>aa.move rfl rfl) ?_;refine Zn (fun hcx=>aa.ed rfl rfl Tryz.underlying9) ?_;refine Zn (fun hcx=>aa.gtr rfl rfl rfl) ?_;refine jL ?_;refine bB (fun hcx=>aa.move rfl rfl) ?_
 have hF0:1<F.length→F[0]? =some (F.getD 0 0):=by
  intro h
  cases F with
  |nil=>simp at h
  |cons c F=>rfl
 have hF1:F.getD 0 0<256:=by
  cases F with
  |nil=>simp
  |cons c F=>exact hFl c (by simp)
 refine Zn (fun hcx=>aa.fM (l:=F) (j:=0) (c:=F.getD 0 0) rfl rfl rfl Tryz.underlying9 rfl (hF0 (by simp at hcx;omega)) hF1) ?_;refine Zn (fun hcx=>aa.fK rfl rfl rfl) ?_;refine ar.tv rfl rfl rfl rfl rfl rfl rfl rfl rfl rfl rfl ?_;refine fh ?_;refine ct 0 1 4 5 6 7 8 9 10 21 56 (Zt ?_)
 generalize hf0:F.getD 0 0=f0 at *
 have hiff:(decide (46∈bh l)=decide ((0:Int)<(D:Int)))↔(46∈bh l↔0<D):=by
  rw[decide_eq_decide]
  constructor<;>intro h<;>rw[h]<;>omega
 have hnil:F=[]↔F.length=0:=by cases F<;>simp
 refine Cd.cond rfl (fun h=> ?_) (fun h=> ?_)
 ·have hbad:∀y,bu y→∀F B,¬Form l D y F B:=by
   intro y _ F' B' hfm;obtain⟨-,e2,rfl,rfl⟩:=hform y F' B' hfm;have e3:=hfm.len;have e4:=hfm.pos;have e5:1<F.length→f0≠48:=fun h1 h2=>hfm.lead h1 (by rw[hF0 h1,h2]);have e6:=hiff.2 e2;have e7:F≠ []:=fun h=>by rw[h] at e4;simp at e4
   simp only[e6,e3] at h;simp[e7] at h;omega
  refine ah ?_;refine Za ?_;refine Za ?_;refine ct 0 1 4 5 6 7 8 9 10 21 56 (Zt (Cd.ret (ab.ae ?_)));refine cG ?_;exact⟨0,false,rfl,hno hbad,bel⟩
 have hok:(46∈bh l↔0<D)∧B.length=D∧0<F.length∧(1<F.length→F[0]? ≠some 48):=by
  simp only[Bool.or_eq_false_iff,Bool.and_eq_false_iff,decide_eq_false_iff_not,ne_eq,Decidable.not_not] at h;obtain⟨⟨⟨k1,k2⟩,k3⟩,k4⟩:=h;refine⟨hiff.1 k1,by omega,by have:=mt hnil.2 k3;omega,fun h1 h2=> ?_⟩;rw[hF0 h1] at h2;injection h2 with h2
  omega
 obtain⟨k1,k2,k3,k4⟩:=hok;replace hmk:=fun x=>hmk x k1 k2 k3 k4
 have hM:∀x∈F++B,x<256:=fun x hx=>by
  rcases List.mem_append.1 hx with h|h
  ·exact hFl x h
  ·exact hBl x h
 have hMl:(F++B).length≤9223372036854775807:=by rw[List.length_append];omega
 have hfm:∀y,∀F' B',Form l D y F' B'→(∀c∈F++B,gN c)∧cK (F++B)=y.natAbs∧(l.head? =some 45↔y<0):=by
  intro y F' B' hf;obtain⟨e1,-,rfl,rfl⟩:=hform y F' B' hf
  exact⟨fun c hc=>by
   rcases List.mem_append.1 hc with h|h
   ·exact hf.f c h
   ·exact hf.b c h,hf.val,e1⟩
 have hFB:F.length+B.length≤9223372036854775807:=by omega
 clear h hform hF0 hF1 hf0 hiff hnil;refine Cd.skip (az ?_);refine Za ?_;refine eZ 0 1 4 5 6 7 8 9 10 11 21 56 (aH (ah ?_));refine Zm ?_;refine Zm ?_;refine Zv (aa.rZ rfl rfl rfl hFB) ?_
 generalize F++B=M at *
 refine Seq.sX rfl rfl Tryz.underlying9 Tryz.underlying64 Tryz.underlying5 hM rfl rfl rfl ?_;intro g60 c60 w60 hc60 n60;replace bel:=bel.step n60.below;have hrd60:=n60.reads;have hB60:=n60.lt;refine Zv (aa.len rfl rfl Tryz.underlying64) ?_;refine Zm ?_;refine zA 0 1 4 5 6 7 8 9 10 11 21 56 60 61 62 (Zt (Cd.block ?_))
 refine Cd.loop (σ:=Nat) (fun k=>[(7, .bool (decide (l.head? =some 45))),(11, .int .i64 (-((cK (M.take k):Nat):Int))),(60, .slice (some ⟨g60,0,none⟩) M.length c60),(61, .int .i64 (M.length:Int)),(62, .int .i64 (k:Int))])
  (fun k wr=>k≤M.length∧(∀c∈M.take k,gN c)∧cK (M.take k)≤9223372036854775808∧Below w.heap.size w wr∧Below w60.heap.size w60 wr) (fun k=>M.length-k) 0 ⟨by omega,by simp,by simp[cK],bel,Below.refl _ _⟩ ⟨rfl,rfl,rfl,rfl,rfl,trivial⟩ ?_
 clear bel;rintro k wr ⟨hk,hdg,hv,bel,bl60⟩;refine ah ?_;refine eU ?_;refine aV 7 11 60 61 62 63 (aH ?_);refine Cd.ao rfl (fun hc=> ?_) (fun hc=> ?_)
 ·obtain⟨c,hc⟩:∃c,M[k]? =some c:=⟨_,List.getElem?_eq_getElem (show k<M.length by omega)⟩
  have hc256:=hM c (List.mem_of_getElem? hc)
  have hcell:wr.cell? (Addr.add ⟨g60,0,none⟩ k)=some (.int .u8 (c:Int)):=by
   obtain⟨ad,e,hb,hcs⟩:=hrd60.2 (by omega);injection e with e
   subst e;rw[bl60.cell (by rw[ai];exact hB60)];exact hcs k _ (by rw[kX,hc];rfl)
  have htk:M.take (k+1)=M.take k++[c]:=by rw[List.take_add_one,hc];rfl
  have hvs:cK (M.take (k+1))=10*cK (M.take k)+(c-48):=by rw[htk,pR]
  have hvl:=uA M (k+1)
  have hbig:9223372036854775808<cK M→∀y,bu y→∀F B,¬Form l D y F B:=fun h y hy F' B' hf=>by
   obtain⟨-,e2,-⟩:=hfm y F' B' hf;unfold bu at hy;omega
  generalize hV:cK (M.take k)=V at *
  refine Cd.skip (aH (Cd.block (ah ?_)));refine Zv (aa.gA rfl rfl rfl Tryz.underlying64 (by kernel_rfl) (j:=k) rfl (by omega)) ?_;refine Zv (aa.jN rfl rfl Tryz.underlying5 rfl hcell) ?_;refine Za ?_;refine ba 7 11 13 60 61 62 63 (aH (ah ?_));refine Zm ?_;refine Zc (Ze Tryz.func247) (uW c _) ?_;rintro e w5 ⟨rfl,rfl⟩;refine⟨_,rfl,?_⟩;refine gU ?_;refine bO 7 11 13 60 61 62 63 68 (Zt ?_);refine Cd.cond rfl (fun h=> ?_) (fun h=> ?_)
  ·have hnd:∀y,bu y→∀F B,¬Form l D y F B:=fun y _ F' B' hf=>by
    have:=(hfm y F' B' hf).1 c (List.mem_of_getElem? hc);unfold gN at this;simp at h;omega
   refine ah ?_;refine Za ?_;refine Za ?_;refine dr 4 5 7 11 13 60 61 62 63 68 (Zt (Cd.ret (ab.ae (ab.af (ab.ae (ab.aJ (ab.af (ab.ae ?_))))))));refine cG ?_;exact⟨0,false,rfl,hno hnd,bel⟩
  have hcd:gN c:=by unfold gN;simp at h;omega
  have hcd2:=hcd;unfold gN at hcd2;clear h;refine Cd.skip (az ?_);refine Zm ?_;refine Zc (Ze Tryz.func248) (y0 (-(V:Int)) 10 _ (by unfold bu;omega) (by unfold bu;omega)) ?_;rintro e w6 ⟨rfl,hb6⟩;refine⟨_,rfl,?_⟩;replace bel:=bel.step hb6;refine Zm ?_;refine Zx ?_;refine Zx ?_;refine Za ?_;refine Za ?_;refine dr 7 11 13 14 15 60 61 62 63 68 (aH (ah ?_));refine Zm ?_;refine gU ?_;refine ct 7 11 13 14 15 60 61 62 63 68 75 (Zt ?_);refine Cd.cond rfl (fun h=> ?_) (fun h=> ?_)
  ·have hbg:9223372036854775808<10*V:=by
    unfold fits at h;simp at h;omega
   refine ah ?_;refine Za ?_;refine Za ?_;refine iW 4 5 7 11 13 14 15 60 61 62 63 68 75 (Zt (Cd.ret (ab.ae (ab.af (ab.ae (ab.aJ (ab.af (ab.ae ?_))))))));refine cG ?_;exact⟨0,false,rfl,hno (hbig (by omega)),bel⟩
  have hft:fits (-(V:Int)*10)=true:=by simpa using h
  have hsm:cR (-(V:Int)*10)= -(V:Int)*10:=by unfold cR;rw[hft];rfl
  have hft2:10*V≤9223372036854775808:=by unfold fits at hft;simp at hft;omega
  rw[hsm];clear h;refine Cd.skip (az ?_);refine Zm ?_;refine Zm ?_;refine Zv (aa.zg rfl rfl rfl (nT (by omega) (by omega))) ?_;refine Zv (aa.fe rfl rfl Tryz.underlying5 Tryz.underlying2 (jA (by omega) (by omega))) ?_;refine Zc (Ze Tryz.func249) (yO (-(V:Int)*10) ((c:Int)-48) _ (by unfold bu;omega) (by unfold bu;omega)) ?_;rintro e w7 ⟨rfl,hb7⟩;refine⟨_,rfl,?_⟩;replace bel:=bel.step hb7;refine Zm ?_;refine Zx ?_;refine Zx ?_;refine Za ?_;refine Za ?_;refine ct 7 11 13 14 15 60 61 62 63 68 75 (az ?_);refine Zm ?_;refine gU ?_;refine eZ 7 11 13 14 15 60 61 62 63 68 75 85 (Zt ?_);refine Cd.cond rfl (fun h=> ?_) (fun h=> ?_)
  ·have hbg:9223372036854775808<10*V+(c-48):=by
    unfold fits at h;simp at h;omega
   refine ah ?_;refine Za ?_;refine Za ?_;refine gM 4 5 7 11 13 14 15 60 61 62 63 68 75 85 (Zt (Cd.ret (ab.af (ab.ae (ab.aJ (ab.af (ab.ae ?_)))))));refine cG ?_;exact⟨0,false,rfl,hno (hbig (by omega)),bel⟩
  have hft3:fits (-(V:Int)*10+ -((c:Int)-48))=true:=by simpa using h
  have hsm2:cR (-(V:Int)*10+ -((c:Int)-48))= -(V:Int)*10+ -((c:Int)-48):=by unfold cR;rw[hft3];rfl
  have hft4:10*V+(c-48)≤9223372036854775808:=by unfold fits at hft3;simp at hft3;omega
  rw[hsm2];clear h;refine Cd.skip (ab.ag (et ?_));refine dq ?_;refine Zm ?_;refine eZ 7 11 13 14 15 60 61 62 63 68 75 85 ?_;refine ab.round (k+1) ⟨rfl,congrArg (fun x=>some (Value.int .i64 x)) (show(-(V:Int)*10+ -((c:Int)-48))= -((cK (M.take (k+1)):Nat):Int) by omega),rfl,rfl,rfl,trivial⟩ ⟨by omega,?_,by omega,bel,(bl60.step hb6).step hb7⟩ (by omega);intro x hx;rw[htk] at hx;rcases List.mem_append.1 hx with h|h
  ·exact hdg x h
  ·simp at h;subst h;exact hcd
 ·obtain rfl:k=M.length:=by omega
  rw[List.take_of_length_le (Nat.le_refl _)] at hdg hv⊢;replace hmk:=fun x=>hmk x hdg
  generalize cK M=V at *
  refine Cd.exit (ab.aD (ab.ay (ab.aA (aH (ah ?_)))));refine Zm ?_;refine ba 7 11 60 61 62 63 87 (Zt ?_);refine Cd.ao rfl (fun h=> ?_) (fun h=> ?_)
  ·skip
   refine ah ?_;refine Zm ?_;refine Zm ?_;refine eU ?_;refine Za ?_;refine Za ?_;refine cw 4 5 7 11 60 61 62 63 87 (Zt (Cd.ret (ab.ae ?_)));refine cG ?_;refine⟨_,_,rfl,⟨fun hb=> ?_,fun hb=> ?_⟩,bel⟩
   ·have hb':0<V:=by simpa using hb
    refine⟨by omega,by omega,by unfold bu;omega,_,_,hmk (-(V:Int)) (by omega) ⟨fun _=>h,fun _=>by omega⟩⟩
   ·have hb':V=0:=by simp at hb;omega
    subst hb';refine⟨rfl,fun _ _ y hy F' B' hf=> ?_⟩;obtain⟨-,e2,e3⟩:=hfm y F' B' (by rwa [Int.toNat_natCast] at hf);have:=e3.1 h;omega
  ·skip
   refine Cd.skip (az ?_);refine Zm ?_;refine Zc (Ze Tryz.func250) (neg_num (-(V:Int)) _ (by unfold bu;omega)) ?_;rintro e w9 ⟨rfl,hb9⟩;refine⟨_,rfl,?_⟩;replace bel:=bel.step hb9;refine Zx ?_;refine Zx ?_;refine Za ?_;refine Za ?_;refine cw 4 5 7 11 60 61 62 63 87 (Zt (Cd.ret ?_));refine cG ?_;refine⟨_,_,rfl,⟨fun hb=> ?_,fun hb=> ?_⟩,bel⟩
   ·have hsm:cR (-(-(V:Int)))=(V:Int):=by unfold cR;rw[hb,if_pos rfl,Int.neg_neg]
    rw[hsm];unfold fits at hb;simp at hb;refine⟨by omega,by omega,by unfold bu;omega,_,_,hmk (V:Int) (by omega) ⟨fun h0=>by omega,fun h0=>absurd h0 h⟩⟩
   ·have hsm:cR (-(-(V:Int)))=0:=by unfold cR;rw[hb];rfl
    refine⟨hsm,fun _ _ y hy F' B' hf=> ?_⟩;obtain⟨-,e2,e3⟩:=hfm y F' B' (by rwa [Int.toNat_natCast] at hf);have:¬y<0:=fun h0=>h (e3.2 h0);unfold fits at hb;simp at hb;unfold bu at hy;omega
def qF (c:Nat):Bool:=(decide (97≤c)&&decide (c≤122))||(decide (65≤c)&&decide (c≤90))
def fP (c:Nat):Bool:=decide (48≤c)&&decide (c≤57)
def bl (c:Nat):Bool:=qF c||fP c||decide (c=95)
def runN (p:Nat→Bool):List Nat→Nat
 | []=>0
 |c::l=>if p c then runN p l+1 else 0
theorem jk (p:Nat→Bool):∀l,runN p l≤l.length
 | []=>Nat.le_refl _
 |c::l=>by
  unfold runN;split
  ·have:=jk p l;simp;omega
  ·simp
theorem m9 (p:Nat→Bool):∀(l:List Nat),∀c∈l.take (runN p l),p c=true
 | [],c,h=>by simp at h
 |d::l,c,h=>by
  unfold runN at h;split at h
  ·rename_i hd
   rw[List.take_succ_cons] at h;rcases List.mem_cons.1 h with rfl|h
   ·exact hd
   ·exact m9 p l c h
  ·simp at h
theorem oV (p:Nat→Bool):∀(l:List Nat) c,l[runN p l]? =some c→p c=false
 | [],c,h=>by simp at h
 |d::l,c,h=>by
  unfold runN at h;split at h
  ·exact oV p l c (by simpa using h)
  ·rename_i hd
   simp at h;subst h
   simpa using hd
def iq (c:Nat):Bool:=decide (c=32)||decide (c=9)||decide (c=10)
def fF (c:Nat):Bool:=decide (c≠10)
def cH:List Nat→Bool→Nat
 | [],_=>0
 |c::l,true=>if c=10 then cH l false+1 else cH l true+1
 |c::l,false=>if iq c then cH l false+1 else if c=35 then cH l true+1 else 0
def bS (l:List Nat):Nat:=cH l false
theorem gT:∀l b,cH l b≤l.length
 | [],_=>Nat.le_refl _
 |c::l,true=>by unfold cH;have:=gT l true;have:=gT l false;split<;>simp<;>omega
 |c::l,false=>by unfold cH;have:=gT l true;have:=gT l false;split;simp;omega;split<;>simp<;>omega
theorem se (c:Nat)(l:List Nat):cH (c::l) true=if c=10 then cH l false+1 else cH l true+1:=by rw[cH]
theorem mM (c:Nat)(l:List Nat):cH (c::l) false=if iq c then cH l false+1 else if c=35 then cH l true+1 else 0:=by rw[cH]
theorem eF (p:Nat→Bool)(c:Nat)(l:List Nat):runN p (c::l)=if p c then runN p l+1 else 0:=rfl
theorem lM:∀l,cH l true=runN fF l+cH (l.drop (runN fF l)) false
 | []=>rfl
 |c::l=>by
  rw[se,eF]
  by_cases hc:c=10
  ·subst hc
   have:fF 10=false:=by decide
   rw[if_pos rfl,this,if_neg (by simp),List.drop_zero,mM,if_pos (by decide)];omega
  ·have:fF c=true:=by simp[fF,hc]
   rw[if_neg hc,this,if_pos rfl,lM l,List.drop_succ_cons];omega
theorem sc (c:Nat)(r:List Nat):bS (c::r)=if iq c then bS r+1 else if c=35 then runN fF (c::r)+bS ((c::r).drop (runN fF (c::r))) else 0:=by
 unfold bS;rw[mM];split
 ·rfl
 ·split
  ·rename_i hc
   subst hc;have:fF 35=true:=by decide
   rw[lM,eF,this,if_pos rfl,List.drop_succ_cons];omega
  ·rfl
theorem jr (l:List Nat):bS l≤l.length:=gT l false
theorem jR (c:Nat)(w:World):Calls Tryz.prog 101 #[.int .u8 (c:Int)] w fun e w'=>e= .returned (.bool (qF c))∧Grow w w':=by
 have bel:=Below.refl w.heap.size w;refine Zs 17 Tryz.func101 ?_;refine ah ?_;refine Za ?_;refine cZ 0 2 (az ?_);refine Zm ?_;refine oo ?_;refine Zm ?_;refine ar.start ?_;refine bB (fun hcx=>aa.move rfl rfl) ?_;refine Zn (fun hcx=>aa.leq rfl rfl rfl) ?_;refine dL ?_;refine Zm ?_;refine ar.start ?_;refine bB (fun hcx=>aa.move rfl rfl) ?_;refine Zn (fun hcx=>aa.geq rfl rfl rfl) ?_;refine jL ?_;refine bB (fun hcx=>aa.move rfl rfl) ?_;refine Zn (fun hcx=>aa.leq rfl rfl rfl) ?_;refine ar.tv rfl rfl rfl rfl rfl rfl rfl rfl rfl rfl rfl ?_;refine fh ?_;refine Za ?_;refine cZ 0 2 (Zt (Cd.ret ?_));refine aP ?_;refine⟨aO (aB ?_),bel⟩;unfold qF;rw[Bool.eq_iff_iff];simp;omega
theorem nP (c:Nat)(w:World):Calls Tryz.prog 145 #[.int .u8 (c:Int)] w fun e w'=>e= .returned (.bool (fP c))∧Grow w w':=by
 have bel:=Below.refl w.heap.size w;refine Zs 9 Tryz.func145 ?_;refine ah ?_;refine Za ?_;refine cZ 0 2 (az ?_);refine Zm ?_;refine oo ?_;refine Zm ?_;refine ar.start ?_;refine bB (fun hcx=>aa.move rfl rfl) ?_;refine Zn (fun hcx=>aa.leq rfl rfl rfl) ?_;refine dL ?_;refine Za ?_;refine cZ 0 2 (Zt (Cd.ret ?_));refine aP ?_;refine⟨aO (aB ?_),bel⟩;unfold fP;rw[Bool.eq_iff_iff];simp;omega
theorem rG (c:Nat)(w:World):Calls Tryz.prog 103 #[.int .u8 (c:Int)] w fun e w'=>e= .returned (.bool (bl c))∧Grow w w':=by
 have bel:=Below.refl w.heap.size w;refine Zs 13 Tryz.func103 ?_;refine ah ?_;refine Za ?_;refine cZ 0 2 (az ?_);refine Zm ?_;refine Zc (Ze Tryz.func101) (jR c _) ?_;rintro e w2 ⟨rfl,hb2⟩;refine⟨_,rfl,?_⟩;replace bel:=bel.step hb2;refine Zm ?_;refine ar.start ?_;refine bB (fun hcx=>aa.move rfl rfl) ?_;refine ar.aW rfl rfl rfl rfl rfl rfl rfl (fun hcx=>Ze Tryz.func145) (fun hcx=>nP c _) ?_;intro w1 hw1;replace bel:=bel.step hw1;refine fh ?_;refine Zm ?_;refine ar.start ?_;refine bB (fun hcx=>aa.move rfl rfl) ?_;refine Zn (fun hcx=>aa.fK rfl rfl rfl) ?_;refine fh ?_;refine Za ?_;refine cZ 0 2 (Zt (Cd.ret ?_));refine aP ?_;refine⟨aO (aB ?_),bel⟩;unfold bl;rw[show decide ((c:Int)=95)=decide (c=95) from decide_eq_decide.2 (by omega)]
theorem wb (c:Nat)(w:World):Calls Tryz.prog 230 #[.int .u8 (c:Int)] w fun e w'=>e= .returned (.bool (fF c))∧Grow w w':=by
 have bel:=Below.refl w.heap.size w;refine Zs 5 Tryz.func230 ?_;refine ah ?_;refine Za ?_;refine cZ 0 2 (az ?_);refine Zm ?_;refine jq ?_;refine Za ?_;refine cZ 0 2 (Zt (Cd.ret ?_));refine aP ?_;refine⟨aO (aB ?_),bel⟩;unfold fF;exact decide_eq_decide.2 (by omega)
theorem vt (p:Nat→Bool)(l:List Nat)(k:Nat)(h:k≤runN p l)(c:Nat)(hc:l[k]? =some c):(p c=true↔k<runN p l):=by
 constructor
 ·intro hp
  rcases Nat.lt_or_ge k (runN p l) with h1|h1
  ·exact h1
  ·obtain rfl:k=runN p l:=by omega
   rw[oV p l c hc] at hp;cases hp
 ·intro h1
  refine m9 p l c ?_;refine List.mem_of_getElem? (i:=k) ?_;rw[List.getElem?_take_of_lt h1];exact hc
theorem um (f:FuncId)(p:Nat→Bool)(eg:∀args w,(callFunc f args).run Tryz.prog w= .ok (.enter f args) w)(hp:∀(c:Nat) w,Calls Tryz.prog f #[.int .u8 (c:Int)] w fun e w'=>e= .returned (.bool (p c))∧Grow w w')
  (l:List Nat) (w:World) (hl:∀x∈l,x<256) (hlen:l.length≤9223372036854775807):
  Calls Tryz.prog 102 #[.string (strOf l), .func (.func f) #[] #[]] w fun e w'=>e= .returned (.int .i64 (runN p l:Int))∧Grow w w':=by
 have bel:=Below.refl w.heap.size w;have hle:=jk p l;refine Zs 20 Tryz.func102 ?_;refine ah ?_;refine Za ?_;refine bk 0 1 4 (az ?_);refine Za ?_;refine aS 0 1 4 5 (aH (Cd.block ?_));refine Cd.loop (σ:=Nat) (fun k=>[(0, .string (strOf l)),(1, .func (.func f) #[] #[]),(5, .int .i64 (k:Int))]) (fun k wr=>k≤runN p l∧Below w.heap.size w wr) (fun k=>runN p l-k) 0 ⟨Nat.zero_le _,bel⟩ ⟨rfl,rfl,rfl,trivial⟩ ?_;clear bel;rintro k wr ⟨hk,bel⟩;refine Cd.seq (ah ?_);refine Zm ?_;refine Zm ?_;refine Zv (aa.ed rfl rfl Tryz.underlying9) ?_
 by_cases hi:k<l.length
 ·obtain⟨c,hc⟩:∃c,l[k]? =some c:=⟨_,List.getElem?_eq_getElem hi⟩
  have hc256:=hl c (List.mem_of_getElem? hc);have hup:=vt p l k hk c hc;refine Zv ((aa.lss rfl rfl rfl).lC ((by omega))) ?_;refine Zm ?_;refine Seq.av (aa.move rfl rfl) rfl rfl rfl rfl rfl ?_;refine Seq.av (aa.move rfl rfl) rfl rfl rfl rfl rfl ?_;refine Seq.av (aa.move rfl rfl) rfl rfl rfl rfl rfl ?_;refine Seq.av (aa.fM (l:=l) (j:=k) rfl rfl rfl Tryz.underlying9 rfl hc hc256) rfl rfl rfl rfl rfl ?_;refine Seq.x3 (Enters.value (first:=[]) (cap:=[]) rfl rfl rfl eg) rfl rfl rfl rfl rfl (hp c _) ?_;rintro e w3 ⟨rfl,hb3⟩;refine⟨_,rfl,?_⟩;replace bel:=bel.step hb3;refine Zv (aa.cr rfl rfl rfl) ?_;refine aS 0 1 5 16 (Zt ?_);refine Cd.cond rfl (fun h=> ?_) (fun h=> ?_)
  ·have hlt:=hup.1 h
   refine Cd.skip (Zt (Cd.block (Zr ?_)));refine Zm ?_;refine dq ?_;refine Za ?_;refine aS 0 1 5 16 (ab.ag ?_);exact ab.round (k+1) ⟨rfl,rfl,rfl,trivial⟩ ⟨by omega,bel⟩ (by omega)
  ·have hk2:runN p l=k:=by
    rcases Nat.lt_or_ge k (runN p l) with h1|h1
    ·have:=hup.2 h1
     rw[h] at this;cases this
    ·omega
   rw[hk2];refine Cd.exit (ab.aD (ab.ay (ab.aA (az ?_))));refine Zm ?_;refine Za ?_;refine aL 0 1 4 5 16 (Zt (Cd.ret ?_));refine aP ?_;exact⟨rfl,bel⟩
 ·have hk2:runN p l=k:=by omega
  rw[hk2];refine Zv ((aa.lss rfl rfl rfl).jv ((by omega))) ?_;refine Zm ?_;refine Seq.jd rfl rfl rfl rfl rfl rfl ?_;refine Seq.jd rfl rfl rfl rfl rfl rfl ?_;refine Seq.jd rfl rfl rfl rfl rfl rfl ?_;refine Seq.jd rfl rfl rfl rfl rfl rfl ?_;refine Seq.jd rfl rfl rfl rfl rfl rfl ?_;refine Zv (aa.bD rfl rfl rfl) ?_;refine aS 0 1 5 16 (Zt ?_);refine Cd.aI rfl rfl ?_;refine Cd.exit (ab.aD (ab.ay (ab.aA (az ?_))));refine Zm ?_;refine Za ?_;refine aL 0 1 4 5 16 (Zt (Cd.ret ?_));refine aP ?_;exact⟨rfl,bel⟩
theorem yz:∀args w,(callFunc 103 args).run Tryz.prog w= .ok (.enter 103 args) w:=fun args w=>aF Tryz.func103 (by kernel_rfl) rfl args w
theorem yU:∀args w,(callFunc 230 args).run Tryz.prog w= .ok (.enter 230 args) w:=fun args w=>aF Tryz.func230 (by kernel_rfl) rfl args w
theorem mZ (l:List Nat)(w:World)(hl:∀x∈l,x<256)(hlen:l.length≤9223372036854775807):
  Calls Tryz.prog 102 #[.string (strOf l), .func (.func 103) #[] #[]] w fun e w'=>e= .returned (.int .i64 (runN bl l:Int))∧Grow w w':=
 um _ bl yz rG l w hl hlen
theorem wC (l:List Nat)(w:World)(hl:∀x∈l,x<256)(hlen:l.length≤9223372036854775807):
  Calls Tryz.prog 102 #[.string (strOf l), .func (.func 230) #[] #[]] w fun e w'=>e= .returned (.int .i64 (runN fF l:Int))∧Grow w w':=
 um _ fF yU wb l w hl hlen
theorem yZ {l:List Nat}{k c:Nat}(h:l[k]? =some c):l.drop k=c::l.drop (k+1):=by
 obtain⟨hk,rfl⟩:=List.getElem?_eq_some_iff.1 h;exact List.drop_eq_getElem_cons hk
theorem mu {l:List Nat}(hl:∀x∈l,x<256)(k:Nat):∀x∈l.drop k,x<256:=fun x hx=>hl x (List.mem_of_mem_drop hx)
theorem qo {l:List Nat}(hl:∀x∈l,x<256)(k:Nat):∀x∈l.take k,x<256:=fun x hx=>hl x (List.mem_of_mem_take hx)
theorem pM (l:List Nat)(w:World)(hl:∀x∈l,x<256)(hlen:l.length≤9223372036854775807):
  Calls Tryz.prog 205 #[.string (strOf l)] w fun e w'=>e= .returned (.int .i64 (bS l:Int))∧Grow w w':=by
 have bel:=Below.refl w.heap.size w;refine Zs 27 Tryz.func205 ?_;refine ah ?_;refine Za ?_;refine cZ 0 2 (az ?_);refine Za ?_;refine bk 0 2 3 (aH (Cd.block ?_));refine Cd.loop (σ:=Nat) (fun k=>[(0, .string (strOf l)),(3, .int .i64 (k:Int))]) (fun k wr=>k≤l.length∧bS l=k+bS (l.drop k)∧Below w.heap.size w wr) (fun k=>l.length-k) 0 ⟨Nat.zero_le _,by simp,bel⟩ ⟨rfl,rfl,trivial⟩ ?_;clear bel;rintro k wr ⟨hk,hbl,bel⟩;refine Cd.seq (ah ?_);refine Zm ?_;refine Zm ?_;refine Zv (aa.ed rfl rfl Tryz.underlying9) ?_;refine eU ?_;refine bk 0 3 7 (Zt ?_);refine Cd.ao rfl (fun hc=> ?_) (fun hc=> ?_)
 ·obtain⟨c,hcc⟩:∃c,l[k]? =some c:=⟨_,List.getElem?_eq_getElem (show k<l.length by omega)⟩
  have hc256:=hl c (List.mem_of_getElem? hcc);have hdr:=yZ hcc;have hst:=sc c (l.drop (k+1));rw[←hdr] at hst;refine Cd.skip (Zt (Cd.block (ah ?_)));refine Zm ?_;refine Zm ?_;refine Zv (aa.fM (l:=l) (j:=k) rfl rfl rfl Tryz.underlying9 rfl hcc hc256) ?_;refine aS 0 3 7 10 (Zt (Cd.block ?_));refine Cd.kH (σ:=Unit) (fun _=>[(0, .string (strOf l)),(3, .int .i64 (k:Int)),(10, .int .u8 (c:Int)),(12, .bool (iq c))]) (fun _ wr=>Below w.heap.size w wr) ?_ ?_
  ·skip
   refine ah ?_;refine aX ?_;refine Za ?_;refine aL 0 3 7 10 12 (Zt ?_);refine Cd.ao rfl (fun h=> ?_) (fun h=> ?_)
   ·skip
    refine Cd.skip ?_;exact ab.join () ⟨rfl,rfl,rfl,congrArg (fun z=>some (Value.bool z)) (by unfold iq;rw[decide_eq_true h,decide_eq_true (show c=32 by omega)];rfl),trivial⟩ bel
   ·skip
    refine ah ?_;refine aX ?_;refine Za ?_;refine aL 0 3 7 10 12 (Zt ?_);refine Cd.ao rfl (fun h2=> ?_) (fun h2=> ?_)
    ·skip
     refine Cd.skip ?_;exact ab.join () ⟨rfl,rfl,rfl,congrArg (fun z=>some (Value.bool z)) (by unfold iq;rw[decide_eq_true h2,decide_eq_true (show c=9 by omega)];simp),trivial⟩ bel
    ·skip
     refine Zr ?_;refine aX ?_;refine Za ?_;refine aL 0 3 7 10 12 ?_;exact ab.join () ⟨rfl,rfl,rfl,congrArg (fun z=>some (Value.bool z)) (by unfold iq;rw[decide_eq_false (show¬c=32 by omega),decide_eq_false (show¬c=9 by omega)];exact decide_eq_decide.2 (by omega)),trivial⟩ bel
  clear bel;rintro⟨⟩ wr bel;refine Cd.cond rfl (fun h=> ?_) (fun h=> ?_)
  ·rw[h,if_pos rfl] at hst
   refine Zr ?_;refine Zm ?_;refine dq ?_;refine Za ?_;refine aS 0 3 10 12 (ab.ag (ab.ag ?_));exact ab.round (k+1) ⟨rfl,rfl,trivial⟩ ⟨by omega,by omega,bel⟩ (by omega)
  ·rw[h,if_neg (by simp)] at hst
   refine ah ?_;refine aX ?_;refine Za ?_;refine aL 0 3 10 12 18 (Zt ?_);refine Cd.ao rfl (fun h2=> ?_) (fun h2=> ?_)
   ·rw[if_pos (by omega)] at hst
    have hr1:1≤runN fF (l.drop k):=by
     rw[hdr,eF,show c=35 by omega,if_pos (by decide)];omega
    have hr2:=jk fF (l.drop k);rw[List.length_drop] at hr2;rw[List.drop_drop] at hst;refine Zr ?_;refine Zm ?_;refine Zm ?_;refine Zm ?_;refine Zv (aa.sliceFrom (j:=k) rfl rfl rfl Tryz.underlying9 rfl hk) ?_;refine Zc (Ze Tryz.func102) (wC (l.drop k) _ (mu hl k) (by rw[List.length_drop];omega)) ?_;rintro e w7 ⟨rfl,hb7⟩;refine⟨_,rfl,?_⟩;replace bel:=bel.step hb7
    generalize runN fF (l.drop k)=r at *
    refine dq ?_;refine Za ?_;refine aL 0 3 10 12 18 (ab.ag (ab.ag ?_));exact ab.round (k+r) ⟨rfl,rfl,trivial⟩ ⟨by omega,by omega,bel⟩ (by omega)
   ·rw[if_neg (by omega)] at hst
    have hbk:bS l=k:=by omega
    rw[hbk];refine ah ?_;refine Zm ?_;refine Za ?_;refine aV 0 2 3 10 12 18 (Zt (Cd.ret (ab.af (ab.af (ab.aJ (ab.af (ab.ae ?_)))))));refine aP ?_;exact⟨rfl,bel⟩
 ·have hbk:bS l=k:=by
   have:l.drop k=[]:=List.drop_eq_nil_of_le (by omega);rw[this] at hbl
   simpa[bS,cH] using hbl
  rw[hbk];refine Cd.exit (ab.aD (ab.ay (ab.aA (az ?_))));refine Zm ?_;refine Za ?_;refine aS 0 2 3 7 (Zt (Cd.ret ?_));refine aP ?_;exact⟨rfl,bel⟩
def cg (l:List Nat):Bool:=decide (l≠ [])&&decide (l.length≤16)&&qF (l.getD 0 0)&&decide (runN bl l=l.length)
theorem eH (l:List Nat)(w:World)(hl:∀x∈l,x<256)(hlen:l.length≤9223372036854775807):
  Calls Tryz.prog 62 #[.string (strOf l)] w fun e w'=>e= .returned (.bool (cg l))∧Grow w w':=by
 have bel:=Below.refl w.heap.size w
 have h0:l≠ []→l[0]? =some (l.getD 0 0):=by
  intro h
  cases l with
  |nil=>exact absurd rfl h
  |cons c l=>rfl
 have h1:l.getD 0 0<256:=by
  cases l with
  |nil=>simp
  |cons c l=>exact hl c (by simp)
 unfold cg
 generalize l.getD 0 0=c0 at *
 refine Zs 22 Tryz.func62 ?_;refine ah ?_;refine Za ?_;refine cZ 0 2 (az ?_);refine Zm ?_;refine Zv (aa.kW (a:=l) (b:=[]) rfl rfl rfl hl (fun x hx=>by simp at hx)) ?_;refine Zm ?_;refine ar.start ?_;refine bB (fun hcx=>aa.move rfl rfl) ?_;refine Zn (fun hcx=>aa.ed rfl rfl Tryz.underlying9) ?_;refine Zn (fun hcx=>aa.leq rfl rfl rfl) ?_;refine dL ?_;refine Zm ?_;refine ar.start ?_;refine bB (fun hcx=>aa.move rfl rfl) ?_;refine Zn (fun hcx=>aa.fM (l:=l) (j:=0) (c:=c0) rfl rfl rfl Tryz.underlying9 rfl (h0 (by simp[bP] at hcx;exact hcx.1)) h1) ?_;refine ar.aW rfl rfl rfl rfl rfl rfl rfl (fun hcx=>Ze Tryz.func101) (fun hcx=>jR _ _) ?_;intro w1 hw1;replace bel:=bel.step hw1;refine dL ?_;refine Zm ?_;refine ar.start ?_;refine bB (fun hcx=>aa.move rfl rfl) ?_;refine ar.aW rfl rfl rfl rfl rfl rfl rfl (fun hcx=>Ze Tryz.func102) (fun hcx=>mZ l _ hl hlen) ?_;intro w2 hw2;replace bel:=bel.step hw2;refine jL ?_;refine Zn (fun hcx=>aa.ed rfl rfl Tryz.underlying9) ?_;refine Zn (fun hcx=>aa.fK rfl rfl rfl) ?_;refine dL ?_;refine Za ?_;refine cZ 0 2 (Zt (Cd.ret ?_));refine aP ?_;refine⟨aO (aB ?_),bel⟩;rw[Bool.eq_iff_iff];simp
 constructor
 ·rintro⟨⟨⟨a,b⟩,c⟩,d⟩
  exact⟨⟨⟨a,by omega⟩,c⟩,by omega⟩
 ·rintro⟨⟨⟨a,b⟩,c⟩,d⟩
  exact⟨⟨⟨a,by omega⟩,c⟩,by omega⟩
section
variable {P:Program} {E:Operand→Option Value} {o:Oper} {w:World} {x:Operand} {T:TypeId}
theorem aa.b7 {ad:Addr}{m:Nat}{ps:List Value}{d:TypeDesc}(ho:o.op= .load T x)(hx:E x=some (.pointer (some ad)))(hT:P.underlying T=some d)(hd:(match d with| .struct _| .array _ _=>true|_=>false)=true)(hs:b6 P T m=true)(hm:ps.length=m)(hc:∀(j:Nat) (v:Value),ps[j]? =some v→w.cell? (ad.add j)=some v):aa P E o w (.agg ps.toArray) w:=by
 obtain⟨i,hi,hsz⟩:=bb hs;exact .wY (cs:=ps) ho hx hT hd hi (by omega) hc
end
inductive Ex where
 |mk (op n:Int) (name:List Nat) (args:List Ex)
def Ex.op:Ex→Int| .mk op _ _ _=>op
def Ex.n:Ex→Int| .mk _ n _ _=>n
def Ex.name:Ex→List Nat| .mk _ _ nm _=>nm
def Ex.args:Ex→List Ex| .mk _ _ _ l=>l
mutual
def Ex.nodes:Ex→Nat
 | .mk _ _ _ l=>1+bz l
def bz:List Ex→Nat
 | []=>0
 |e::r=>e.nodes+bz r
end
mutual
def Ex.depth:Ex→Nat
 | .mk _ _ _ l=>1+bG l
def bG:List Ex→Nat
 | []=>0
 |e::r=>max e.depth (bG r)
end
theorem Ex.fG (op n:Int)(nm:List Nat)(l:List Ex):(Ex.mk op n nm l).nodes=1+bz l:=by rw[Ex.nodes]
theorem Ex.er (op n:Int)(nm:List Nat)(l:List Ex):(Ex.mk op n nm l).depth=1+bG l:=by rw[Ex.depth]
theorem mF {l:List Ex}{e:Ex}(h:e∈l):e.nodes≤bz l:=by
 induction l with
 |nil=>cases h
 |cons x r ih=>
  unfold bz;rcases List.mem_cons.1 h with rfl|h
  ·omega
  ·have:=ih h;omega
theorem Ex.eD {e x:Ex}(h:x∈e.args):x.nodes<e.nodes:=by
 cases e with
 |mk op n nm l=>
  have:=mF (l:=l) h;rw[Ex.fG];omega
theorem Ex.bI (e:Ex):0<e.nodes:=by cases e;unfold Ex.nodes;omega
theorem nc {l:List Ex}{e:Ex}(h:e∈l):e.depth≤bG l:=by
 induction l with
 |nil=>cases h
 |cons x r ih=>
  unfold bG;rcases List.mem_cons.1 h with rfl|h
  ·omega
  ·have:=ih h;omega
theorem Ex.pb {e x:Ex}(h:x∈e.args):x.depth<e.depth:=by
 cases e with
 |mk op n nm l=>
  have:=nc (l:=l) h;rw[Ex.er];omega
mutual
theorem Ex.bm:∀e:Ex,e.depth≤e.nodes
 | .mk _ _ _ l=>by unfold Ex.depth Ex.nodes;have:=eN l;omega
theorem eN:∀l:List Ex,bG l≤bz l
 | []=>Nat.le_refl _
 |e::r=>by unfold bG bz;have:=Ex.bm e;have:=eN r;omega
end
def Rows (w:World)(S:Nat→Prop)(A:Option Addr)(xs:List Value):Prop:=xs≠ []→∃ad,A=some ad∧S ad.block∧∀(j:Nat) (u:Value),xs[j]? =some u→w.cell? (ad.add j)=some u
inductive bX (w:World)(S:Nat→Prop):Ex→Value→Prop
 |mk {op n:Int} {nm:List Nat} {args:List Ex} {A:Option Addr} {c:Nat} {vs:List Value} (hl:vs.length=args.length) (dK:args.length≤1000) (hop:bu op) (hn:bu n) (hnm:∀d∈nm,d<256) (hnl:nm.length≤9223372036854775807)
   (hr:∀(i:Nat) (e:Ex) (v:Value),args[i]? =some e→vs[i]? =some v→bX w S e v) (hA:Rows w S A (aC vs)):bX w S (.mk op n nm args) (.agg #[.int .i64 op, .int .i64 n, .string (strOf nm), .slice A args.length c])
theorem bX.mono {w w':World}{S S':Nat→Prop}{e:Ex}{v:Value}(h:bX w S e v)(hS:∀b,S b→S' b)(hc:∀p:Addr,S p.block→w'.cell? p=w.cell? p):bX w' S' e v:=by
 induction h with
 |mk hl dK hop hn hnm hnl hr hA ih=>
  refine .mk hl dK hop hn hnm hnl ih fun hne=> ?_;obtain⟨ad,e1,e2,e3⟩:=hA hne;exact⟨ad,e1,hS _ e2,fun j u hu=>(hc _ (by rw[ai];exact e2)).trans (e3 j u hu)⟩
def jQ (w:World)(B:Nat)(e:Ex)(v:Value):Prop:=bX w (· <B) e v
theorem jQ.below {w w':World}{B:Nat}{e:Ex}{v:Value}(h:jQ w B e v)(hb:Below B w w'):jQ w' B e v:=bX.mono h (fun _ h=>h) (fun _ hp=>hb.cell hp)
theorem jQ.more {w:World}{B B':Nat}{e:Ex}{v:Value}(h:jQ w B e v)(hb:B≤B'):jQ w B' e v:=bX.mono h (fun _ h=>Nat.lt_of_lt_of_le h hb) (fun _ _=>rfl)
theorem bX.oa {w:World}{S:Nat→Prop}{e:Ex}{v:Value}(h:bX w S e v):v.cells.size=4:=by
 cases h;rfl
theorem eS {vs:List Value}{i:Nat}{v:Value}(hs:∀x∈vs,x.cells.size=4)(h:vs[i]? =some v):∀(j:Nat) (u:Value),v.cells.toList[j]? =some u→(aC vs)[i*4+j]? =some u:=by
 induction vs generalizing i with
 |nil=>cases h
 |cons x r ih=>
  intro j u hj;have hx:x.cells.size=4:=hs x List.mem_cons_self;show(x.cells.toList++aC r)[i*4+j]? =some u
  cases i with
  |zero=>
   injection h with h
   subst h;have:j<x.cells.toList.length:=(List.getElem?_eq_some_iff.1 hj).1;rw[Nat.zero_mul,Nat.zero_add,List.getElem?_append_left this];exact hj
  |succ i=>
   have h2:=ih (fun y hy=>hs y (List.mem_cons_of_mem _ hy)) (by simpa using h) j u hj;have hxl:x.cells.toList.length=4:=by simpa using hx
   rw[List.getElem?_append_right (by rw[hxl];omega),hxl,←h2];congr 1;omega
structure sz (w:World)(B:Nat)(e:Ex)(A:Option Addr)(c:Nat):Prop where
 dK:e.args.length≤1000
 op:bu e.op
 n:bu e.n
 name:∀d∈e.name,d<256
 xW:e.name.length≤9223372036854775807
 arg:∀i x,e.args[i]? =some x→∃ad A' c',A=some ad∧ad.block<B∧jQ w B x (.agg #[.int .i64 x.op, .int .i64 x.n, .string (strOf x.name), .slice A' x.args.length c'])∧∀(j:Nat) (u:Value),([.int .i64 x.op, .int .i64 x.n, .string (strOf x.name), .slice A' x.args.length c']:List Value)[j]? =some u→w.cell? ((ad.add (i*4)).add j)=some u
theorem bX.form {w:World}{S:Nat→Prop}{e:Ex}{v:Value}(h:bX w S e v):∃A c,v= .agg #[.int .i64 e.op, .int .i64 e.n, .string (strOf e.name), .slice A e.args.length c]:=by
 cases h;exact⟨_,_,rfl⟩
theorem jQ.open {w:World}{B:Nat}{e:Ex}{v:Value}(h:jQ w B e v):∃A c,v= .agg #[.int .i64 e.op, .int .i64 e.n, .string (strOf e.name), .slice A e.args.length c]∧sz w B e A c:=by
 have h':bX w (· <B) e v:=h
 cases h' with
 | @mk op n nm args A c vs hl dK hop hn hnm hnl hr hA=>
  refine⟨A,c,rfl,dK,hop,hn,hnm,hnl,fun i x hx=> ?_⟩;have hi:=(List.getElem?_eq_some_iff.1 hx).1;replace hi:i<args.length:=hi;obtain⟨v,hv⟩:∃v,vs[i]? =some v:=⟨_,List.getElem?_eq_getElem (by omega)⟩;have hrx:=hr i x v hx hv
  have h4:∀y∈vs,y.cells.size=4:=fun y hy=>by
   obtain⟨k,hk,rfl⟩:=List.getElem_of_mem hy;obtain⟨z,hz⟩:∃z,args[k]? =some z:=⟨_,List.getElem?_eq_getElem (by omega)⟩;exact(hr k z _ hz (List.getElem?_eq_getElem hk)).oa
  have hne:aC vs≠ []:=by
   intro h0;obtain⟨A',c',rfl⟩:=hrx.form;have:=eS h4 hv 0 _ rfl;rw[h0] at this
   cases this
  obtain⟨ad,rfl,hb,hc⟩:=hA hne;obtain⟨A',c',rfl⟩:=hrx.form;refine⟨ad,A',c',rfl,hb,hrx,fun j u hu=> ?_⟩;rw[dY];exact hc _ _ (eS h4 hv j u (by simpa[Value.cells] using hu))
theorem sz.below {w w':World}{B:Nat}{e:Ex}{A:Option Addr}{c:Nat}(h:sz w B e A c)(hb:Below B w w'):sz w' B e A c:=
 ⟨h.dK,h.op,h.n,h.name,h.xW,fun i x hx=>by
  obtain⟨ad,A',c',e1,e2,e3,e4⟩:=h.arg i x hx;exact⟨ad,A',c',e1,e2,e3.below hb,fun j u hu=>(hb.cell (by rw[ai,ai];exact e2)).trans (e4 j u hu)⟩⟩
def dW (op:Int):Int:=if 1≤op∧op≤4 then 0 else if 5≤op∧op≤18 then 2 else if op=19∨op=20 then 1 else if op=21 then 3 else -1
theorem cJ (op:Int)(w:World):Calls Tryz.prog 214 #[.int .i64 op] w fun e w'=>e= .returned (.int .i64 (dW op))∧Grow w w':=by
 have bel:=Below.refl w.heap.size w;refine Zs 27 Tryz.func214 ?_;refine ah ?_;refine Za ?_;refine cZ 0 2 (aH (Cd.block (ah ?_)));refine Zm ?_;refine oo ?_;refine Zm ?_;refine ar.start ?_;refine bB (fun hcx=>aa.move rfl rfl) ?_;refine Zn (fun hcx=>aa.leq rfl rfl rfl) ?_;refine dL ?_;refine Za ?_;refine bk 0 2 3 (Zt ?_);refine Cd.cond rfl (fun h=> ?_) (fun h=> ?_)
 ·simp at h
  refine ah ?_;refine Za ?_;refine bk 0 2 3 (Zt (Cd.ret (ab.af (ab.ae ?_))));refine aP ?_;exact⟨aO (int_eq (by unfold dW;rw[if_pos h])),bel⟩
 ·simp at h
  refine ah ?_;refine Zm ?_;refine oo ?_;refine Zm ?_;refine ar.start ?_;refine bB (fun hcx=>aa.move rfl rfl) ?_;refine Zn (fun hcx=>aa.leq rfl rfl rfl) ?_;refine dL ?_;refine Za ?_;refine aS 0 2 3 10 (Zt ?_);refine Cd.cond rfl (fun h2=> ?_) (fun h2=> ?_)
  ·simp at h2
   refine ah ?_;refine Za ?_;refine aS 0 2 3 10 (Zt (Cd.ret (ab.af (ab.ae ?_))));refine aP ?_;exact⟨aO (int_eq (by unfold dW;rw[if_neg (by omega),if_pos h2])),bel⟩
  ·simp at h2
   refine ah ?_;refine Zm ?_;refine aX ?_;refine Zm ?_;refine ar.start ?_;refine bB (fun hcx=>aa.move rfl rfl) ?_;refine Zn (fun hcx=>aa.fK rfl rfl rfl) ?_;refine fh ?_;refine Za ?_;refine aL 0 2 3 10 17 (Zt ?_);refine Cd.cond rfl (fun h3=> ?_) (fun h3=> ?_)
   ·simp at h3
    refine ah ?_;refine Za ?_;refine aL 0 2 3 10 17 (Zt (Cd.ret (ab.af (ab.ae ?_))));refine aP ?_;exact⟨aO (int_eq (by unfold dW;rw[if_neg (by omega),if_neg (by omega),if_pos h3])),bel⟩
   ·simp at h3
    refine ah ?_;refine Zm ?_;refine aX ?_;refine Za ?_;refine aV 0 2 3 10 17 24 (Zt ?_);refine Cd.ao rfl (fun hc=> ?_) (fun hc=> ?_)
    ·skip
     refine ah ?_;refine Za ?_;refine aV 0 2 3 10 17 24 (Zt (Cd.ret (ab.af (ab.ae ?_))));refine aP ?_;exact⟨aO (int_eq (by unfold dW;rw[if_neg (by omega),if_neg (by omega),if_neg (by omega),if_pos (by assumption)])),bel⟩
    ·skip
     refine Cd.skip (ab.ag (az ?_));refine Za ?_;refine aV 0 2 3 10 17 24 (Zt (Cd.ret ?_));refine aP ?_;exact⟨aO (int_eq (by unfold dW;rw[if_neg (by omega),if_neg (by omega),if_neg (by omega),if_neg (by assumption)])),bel⟩
def rm:List (List Nat):=[[122,101,114,111],[111,110,101],[103,105,118,101],[97,110,100],[111,114],[115,99,97,108,101],[119,104,101,110],[117,110,116,105,108],[97,110,121,116,105,109,101],[100,97,121],[109,105,110],[109,97,120],[105,102]]
def dF (l:List Nat):Bool:=rm.any fun x=>decide (l=x)
theorem kI (l:List Nat)(w:World)(hl:∀d∈l,d<256):Calls Tryz.prog 210 #[.string (strOf l)] w fun e w'=>e= .returned (.bool (dF l))∧Grow w w':=by
 have bel:=Below.refl w.heap.size w;refine Zs 18 Tryz.func210 ?_;refine ah ?_;refine Za ?_;refine cZ 0 2 (aH (ah ?_));refine Zm ?_;refine bk 0 2 3 (Zt (Cd.block ?_));refine Cd.kH (σ:=Unit) (fun _=>[(4, .bool (dF l))]) (fun _ wr=>Below w.heap.size w wr) ?_ ?_
 ·skip
  refine ah ?_;refine Zv (aa.ck (a:=l) (b:=[122,101,114,111]) rfl rfl rfl hl (by decide)) ?_;refine Za ?_;refine aS 0 2 3 4 (Zt ?_);refine Cd.ao rfl (fun h0=> ?_) (fun h0=> ?_)
  ·subst h0
   refine Cd.skip ?_;exact ab.join () ⟨rfl,trivial⟩ bel
  ·skip
   refine ah ?_;refine Zv (aa.ck (a:=l) (b:=[111,110,101]) rfl rfl rfl hl (by decide)) ?_;refine Za ?_;refine aS 0 2 3 4 (Zt ?_);refine Cd.ao rfl (fun h1=> ?_) (fun h1=> ?_)
   ·subst h1
    refine Cd.skip ?_;exact ab.join () ⟨rfl,trivial⟩ bel
   ·skip
    refine ah ?_;refine Zv (aa.ck (a:=l) (b:=[103,105,118,101]) rfl rfl rfl hl (by decide)) ?_;refine Za ?_;refine aS 0 2 3 4 (Zt ?_);refine Cd.ao rfl (fun h2=> ?_) (fun h2=> ?_)
    ·subst h2
     refine Cd.skip ?_;exact ab.join () ⟨rfl,trivial⟩ bel
    ·skip
     refine ah ?_;refine Zv (aa.ck (a:=l) (b:=[97,110,100]) rfl rfl rfl hl (by decide)) ?_;refine Za ?_;refine aS 0 2 3 4 (Zt ?_);refine Cd.ao rfl (fun h3=> ?_) (fun h3=> ?_)
     ·subst h3
      refine Cd.skip ?_;exact ab.join () ⟨rfl,trivial⟩ bel
     ·skip
      refine ah ?_;refine Zv (aa.ck (a:=l) (b:=[111,114]) rfl rfl rfl hl (by decide)) ?_;refine Za ?_;refine aS 0 2 3 4 (Zt ?_);refine Cd.ao rfl (fun h4=> ?_) (fun h4=> ?_)
      ·subst h4
       refine Cd.skip ?_;exact ab.join () ⟨rfl,trivial⟩ bel
      ·skip
       refine ah ?_;refine Zv (aa.ck (a:=l) (b:=[115,99,97,108,101]) rfl rfl rfl hl (by decide)) ?_;refine Za ?_;refine aS 0 2 3 4 (Zt ?_);refine Cd.ao rfl (fun h5=> ?_) (fun h5=> ?_)
       ·subst h5
        refine Cd.skip ?_;exact ab.join () ⟨rfl,trivial⟩ bel
       ·skip
        refine ah ?_;refine Zv (aa.ck (a:=l) (b:=[119,104,101,110]) rfl rfl rfl hl (by decide)) ?_;refine Za ?_;refine aS 0 2 3 4 (Zt ?_);refine Cd.ao rfl (fun h6=> ?_) (fun h6=> ?_)
        ·subst h6
         refine Cd.skip ?_;exact ab.join () ⟨rfl,trivial⟩ bel
        ·skip
         refine ah ?_;refine Zv (aa.ck (a:=l) (b:=[117,110,116,105,108]) rfl rfl rfl hl (by decide)) ?_;refine Za ?_;refine aS 0 2 3 4 (Zt ?_);refine Cd.ao rfl (fun h7=> ?_) (fun h7=> ?_)
         ·subst h7
          refine Cd.skip ?_;exact ab.join () ⟨rfl,trivial⟩ bel
         ·skip
          refine ah ?_;refine Zv (aa.ck (a:=l) (b:=[97,110,121,116,105,109,101]) rfl rfl rfl hl (by decide)) ?_;refine Za ?_;refine aS 0 2 3 4 (Zt ?_);refine Cd.ao rfl (fun h8=> ?_) (fun h8=> ?_)
          ·subst h8
           refine Cd.skip ?_;exact ab.join () ⟨rfl,trivial⟩ bel
          ·skip
           refine ah ?_;refine Zv (aa.ck (a:=l) (b:=[100,97,121]) rfl rfl rfl hl (by decide)) ?_;refine Za ?_;refine aS 0 2 3 4 (Zt ?_);refine Cd.ao rfl (fun h9=> ?_) (fun h9=> ?_)
           ·subst h9
            refine Cd.skip ?_;exact ab.join () ⟨rfl,trivial⟩ bel
           ·skip
            refine ah ?_;refine Zv (aa.ck (a:=l) (b:=[109,105,110]) rfl rfl rfl hl (by decide)) ?_;refine Za ?_;refine aS 0 2 3 4 (Zt ?_);refine Cd.ao rfl (fun h10=> ?_) (fun h10=> ?_)
            ·subst h10
             refine Cd.skip ?_;exact ab.join () ⟨rfl,trivial⟩ bel
            ·skip
             refine ah ?_;refine Zv (aa.ck (a:=l) (b:=[109,97,120]) rfl rfl rfl hl (by decide)) ?_;refine Za ?_;refine aS 0 2 3 4 (Zt ?_);refine Cd.ao rfl (fun h11=> ?_) (fun h11=> ?_)
             ·subst h11
              refine Cd.skip ?_;exact ab.join () ⟨rfl,trivial⟩ bel
             ·skip
              refine Zr ?_;refine Zv (aa.ck (a:=l) (b:=[105,102]) rfl rfl rfl hl (by decide)) ?_;refine Za ?_;refine aS 0 2 3 4 ?_;refine ab.join () ⟨congrArg (fun b=>some (Value.bool b)) ?_,trivial⟩ bel;simp[dF,rm,h0,h1,h2,h3,h4,h5,h6,h7,h8,h9,h10,h11]
 clear bel;rintro⟨⟩ wr bel;refine Cd.cond rfl (fun h=> ?_) (fun h=> ?_)
 ·skip
  refine ah ?_;refine Za ?_;refine cZ 2 4 (Zt (Cd.ret (ab.af (ab.ae ?_))));refine aP ?_;rw[h];exact⟨rfl,bel⟩
 ·skip
  refine Cd.skip (ab.ag (az ?_));refine Za ?_;refine cZ 2 4 (Zt (Cd.ret ?_));refine aP ?_;rw[h];exact⟨rfl,bel⟩
def gG (l:List Nat):Bool:=cg l&& !dF l
theorem rA (l:List Nat)(w:World)(hl:∀d∈l,d<256)(hlen:l.length≤9223372036854775807):Calls Tryz.prog 188 #[.string (strOf l)] w fun e w'=>e= .returned (.bool (gG l))∧Grow w w':=by
 have bel:=Below.refl w.heap.size w;refine Zs 10 Tryz.func188 ?_;refine ah ?_;refine Za ?_;refine cZ 0 2 (az ?_);refine Zm ?_;refine Zc (Ze Tryz.func62) (eH l _ hl hlen) ?_;rintro e w5 ⟨rfl,hb5⟩;refine⟨_,rfl,?_⟩;replace bel:=bel.step hb5;refine Zm ?_;refine ar.start ?_;refine bB (fun hcx=>aa.move rfl rfl) ?_;refine ar.aW rfl rfl rfl rfl rfl rfl rfl (fun hcx=>Ze Tryz.func210) (fun hcx=>kI l _ hl) ?_;intro w1 hw1;replace bel:=bel.step hw1;refine Zn (fun hcx=>aa.not rfl rfl) ?_;refine dL ?_;refine Za ?_;refine cZ 0 2 (Zt (Cd.ret ?_));refine aP ?_;exact⟨aO (aB (by unfold gG;cases cg l<;>rfl)),bel⟩
theorem fZ (a b:Int)(w:World):Calls Tryz.prog 141 #[.agg #[.int .i64 a, .int .i64 b]] w fun e w'=>e= .returned (.bool (decide (a≤200)&&decide (b≤16)))∧Grow w w':=by
 have bel:=Below.refl w.heap.size w;refine Zs 11 Tryz.func141 ?_;refine ah ?_;refine Seq.box rfl rfl rfl rfl rfl ?_;intro g1 w1 n1;have e1:=Nat.le_trans bel.size n1.ge;replace bel:=bel.step n1.below;have k1:=n1.an;refine Za ?_;refine bk 0 1 2 (az ?_);refine Zf 0 Tryz.underlying200 ?_;refine ZL Tryz.underlying3 k1 ?_;refine Cb ?_;refine Zm ?_;refine ar.start ?_;refine bB (fun hcx=>aa.aj 1 rfl rfl Tryz.underlying200 rfl (by kernel_rfl)) ?_;refine Zn (fun hcx=>aa.ak rfl rfl Tryz.underlying3 rfl k1 rfl) ?_;refine Zn (fun hcx=>aa.leq rfl rfl rfl) ?_;refine dL ?_;refine Za ?_;refine bk 0 1 2 (Zt (Cd.ret ?_));refine aP ?_;exact⟨aO (aB (by cases decide (a≤200)<;>rfl)),bel⟩
theorem dv:br Tryz.prog 200=some (some (.agg #[.int .i64 0, .int .i64 0])):=by kernel_rfl
theorem dt (a b:Int)(w:World):(Instr.build 200 #[(0, .int .i64 a),(1, .int .i64 b)]).run Tryz.prog w= .ok (.agg #[.int .i64 a, .int .i64 b]) w:=by
 have hu:=Tryz.underlying200
 go_simp
def cv (s t:Int × Int):Int × Int:=(min (s.1+t.1) 1000,min (max s.2 (t.2+1)) 1000)
theorem mE (s t:Int × Int)(w:World)(h1:0≤s.1∧s.1≤1000)(h2:0≤s.2∧s.2≤1000)(h3:0≤t.1∧t.1≤1000)(h4:0≤t.2∧t.2≤1000):Calls Tryz.prog 186 #[.agg #[.int .i64 s.1, .int .i64 s.2], .agg #[.int .i64 t.1, .int .i64 t.2]] w fun e w'=>e= .returned (.agg #[.int .i64 (cv s t).1, .int .i64 (cv s t).2])∧Grow w w':=by
 have bel:=Below.refl w.heap.size w;obtain⟨a,b⟩:=s;obtain⟨c,d⟩:=t;simp only at h1 h2 h3 h4;refine Zs 19 Tryz.func186 ?_;refine ah ?_;refine Seq.box rfl rfl rfl rfl rfl ?_;intro g2 w1 n2;have e2:=Nat.le_trans bel.size n2.ge;replace bel:=bel.step n2.below;have k2:=n2.an;refine Seq.box rfl rfl rfl rfl rfl ?_;intro g3 w2 n3;have e3:=Nat.le_trans bel.size n3.ge;have l3:=Nat.lt_of_lt_of_le k2.lt n3.ge;replace bel:=bel.step n3.below;replace k2:=k2.step n3.below;have k3:=n3.an;refine Zl dv ?_;intro g4 w3 n4;have e4:=Nat.le_trans bel.size n4.ge;have l4:=Nat.lt_of_lt_of_le k3.lt n4.ge;have l4_k2:=Nat.lt_of_lt_of_le k2.lt n4.ge;replace bel:=bel.step n4.below;replace k2:=k2.step n4.below;replace k3:=k3.step n4.below;have k4:=n4.an;refine aL 0 1 2 3 4 (az ?_);refine Zf 0 Tryz.underlying200 ?_;refine ZL Tryz.underlying3 k2 ?_;refine Zf 0 Tryz.underlying200 ?_;refine ZL Tryz.underlying3 k3 ?_;refine dq ?_;refine Zv (aa.min2 rfl rfl rfl) ?_;refine Zf 1 Tryz.underlying200 ?_;refine ZL Tryz.underlying3 k2 ?_;refine Zf 1 Tryz.underlying200 ?_;refine ZL Tryz.underlying3 k3 ?_;refine dq ?_;refine Zv (aa.max2 rfl rfl rfl) ?_;refine Zv (aa.min2 rfl rfl rfl) ?_;refine Zv (aa.build rfl rfl (dt _ _ _)) ?_;refine Zo 2 k4 ?_;intro w4 pw4;replace bel:=bel.put k4 pw4 e4;replace k2:=k2.put pw4 (by omega);replace k3:=k3.put pw4 (by omega);replace k4:=pw4.an;refine aL 0 1 2 3 4 (Zt (Cd.ret ?_));refine iH 2 k4 Tryz.underlying200 ?_;exact⟨rfl,bel⟩
mutual
def rj:Ex→Int × Int
 | .mk _ _ _ l=>xL (1,1) l
def xL (s:Int × Int):List Ex→Int × Int
 | []=>s
 |e::r=>if 1000≤s.1 then(1000,1000) else xL (cv s (rj e)) r
end
def Sz (s:Int × Int):Prop:=(0≤s.1∧s.1≤1000)∧(0≤s.2∧s.2≤1000)
theorem db {s t:Int × Int}(h:Sz s)(k:Sz t):Sz (cv s t):=by
 unfold Sz cv at *;simp only;omega
mutual
theorem nI:∀e,Sz (rj e)
 | .mk op n nm l=>by rw[rj];exact xc (1,1) ⟨by simp,by simp⟩ l
theorem xc:∀(s:Int × Int),Sz s→∀l,Sz (xL s l)
 |s,h,[]=>by rw[xL];exact h
 |s,h,e::r=>by
  rw[xL];split
  ·exact⟨by simp,by simp⟩
  ·exact xc _ (db h (nI e)) r
end
def sh (s:Int × Int)(n d:Nat):Prop:=s.1=min (n:Int) 1000∧(n<1000→s.2=(d:Int))
mutual
theorem mB:∀e,sh (rj e) e.nodes e.depth
 | .mk op n nm l=>by
  rw[rj,Ex.fG,Ex.er];have:=tR (1,1) 1 1 ⟨(by show(1:Int)=min ((1:Nat):Int) 1000;omega),fun _=>rfl⟩ (Nat.le_refl _) (Nat.le_refl _) l
  rwa [show max 1 (1+bG l)=1+bG l by omega] at this
theorem tR:∀(s:Int × Int) (n d:Nat),sh s n d→1≤d→d≤n→∀l,sh (xL s l) (n+bz l) (max d (1+bG l))
 |s,n,d,h,h1,h2,[]=>by
  rw[xL,bz,bG,show max d (1+0)=d by omega];exact h
 |s,n,d,h,h1,h2,e::r=>by
  rw[xL,bz,bG];have he:=mB e;have hn:=Ex.bm e;have hr:=eN r;split
  ·obtain⟨a,b⟩:=h
   exact⟨by simp only;omega,fun h=>by omega⟩
  ·have hw:sh (cv s (rj e)) (n+e.nodes) (max d (1+e.depth)):=by
    obtain⟨a,b⟩:=h;obtain⟨a',b'⟩:=he;refine⟨by unfold cv;simp only;omega,fun h=> ?_⟩;unfold cv;simp only;rw[b (by omega),b' (by omega)];omega
   have:=tR _ (n+e.nodes) (max d (1+e.depth)) hw (by omega) (by omega) r;rw[show n+(e.nodes+bz r)=n+e.nodes+bz r by omega,show max d (1+max e.depth (bG r))=max (max d (1+e.depth)) (1+bG r) by omega];exact this
end
theorem au:br Tryz.prog 105=some (some (.agg #[.int .i64 0, .int .i64 0, .string {data:= #[]}, .slice none 0 0])):=by kernel_rfl
mutual
def om:Ex→Nat→Int × Int
 | .mk _ _ _ l,at_=>r7 at_ (1,1) l
def r7 (at_:Nat)(s:Int × Int):List Ex→Int × Int
 | []=>s
 |e::r=>if 1000≤at_∨1000≤s.1 then(1000,1000) else r7 at_ (cv s (om e (at_+1))) r
end
theorem Ah (e:Ex)(at_:Nat):om e at_=r7 at_ (1,1) e.args:=by cases e;rw[om];rfl
theorem r4 (at_:Nat)(s:Int × Int)(e:Ex)(r:List Ex):r7 at_ s (e::r)=if 1000≤at_∨1000≤s.1 then(1000,1000) else r7 at_ (cv s (om e (at_+1))) r:=by rw[r7]
theorem ug (at_:Nat)(s:Int × Int):r7 at_ s []=s:=by rw[r7]
theorem lp {s:Int × Int}(h:Sz s):cv s (1000,1000)=(1000,1000):=by
 unfold Sz at h;unfold cv;simp only[Prod.mk.injEq];omega
theorem y9 (at_:Nat)(l:List Ex):r7 at_ (1000,1000) l=(1000,1000):=by
 cases l with
 |nil=>rw[ug]
 |cons e r=>rw[r4,if_pos (.inr (by decide))]
mutual
theorem lF:∀(e:Ex) (at_:Nat),Sz (om e at_)
 | .mk op n nm l,at_=>by rw[om];exact wA at_ (1,1) ⟨by simp,by simp⟩ l
theorem wA:∀(at_:Nat) (s:Int × Int),Sz s→∀l,Sz (r7 at_ s l)
 |at_,s,h,[]=>by rw[r7];exact h
 |at_,s,h,e::r=>by
  rw[r7];split
  ·exact⟨by simp,by simp⟩
  ·exact wA at_ _ (db h (lF e (at_+1))) r
end
mutual
theorem pX:∀(e:Ex) (at_:Nat),om e at_=rj e∨(om e at_=(1000,1000)∧1002≤e.depth+at_)
 | .mk op n nm l,at_=>by
  rw[om,rj,Ex.er];rcases xP at_ (1,1) ⟨by simp,by simp⟩ l with h|⟨h1,h2⟩
  ·exact .inl h
  ·exact .inr ⟨h1,by omega⟩
theorem xP:∀(at_:Nat) (s:Int × Int),Sz s→∀l,r7 at_ s l=xL s l∨(r7 at_ s l=(1000,1000)∧1001≤bG l+at_)
 |at_,s,h,[]=>by rw[r7,xL];exact .inl rfl
 |at_,s,h,e::r=>by
  rw[r7,xL,bG];have hd:0<e.depth:=by cases e;rw[Ex.er];omega
  by_cases h1:1000≤s.1
  ·rw[if_pos (.inr h1),if_pos h1];exact .inl rfl
  ·by_cases h2:1000≤at_
   ·rw[if_pos (.inl h2)];exact .inr ⟨rfl,by omega⟩
   ·rw[if_neg (by omega),if_neg h1]
    rcases pX e (at_+1) with h3|⟨h3,h4⟩
    ·rw[h3]
     rcases xP at_ (cv s (rj e)) (db h (nI e)) r with h5|⟨h5,h6⟩
     ·exact .inl h5
     ·exact .inr ⟨h5,by omega⟩
    ·rw[h3,lp h,y9]
     exact .inr ⟨rfl,by omega⟩
end
theorem zl (e:Ex):sh (om e 0) e.nodes e.depth:=by
 rcases pX e 0 with h|⟨h1,h2⟩
 ·rw[h];exact mB e
 ·rw[h1]
  have:=e.bm;exact⟨by simp only;omega,fun h=>by omega⟩
theorem yN {e:Ex}{at_:Nat}(h:e.depth+at_≤900):om e at_=rj e:=by
 rcases pX e at_ with h1|⟨h1,h2⟩
 ·exact h1
 ·omega
theorem ie (N:Nat):∀(e:Ex) (at_:Nat) (B:Nat) (v:Value) (w:World),e.nodes≤N→at_≤1001→jQ w B e v→B≤w.heap.size→Calls Tryz.prog 179 #[v, .int .i64 (at_:Int)] w fun en w'=>en= .returned (.agg #[.int .i64 (om e at_).1, .int .i64 (om e at_).2])∧Grow w w':=by
 induction N with
 |zero=>intro e at_ B v w hN;have:=e.bI;omega
 |succ N ih=>
 intro e at_ B v w hN hdep hrep hB;obtain⟨A,c,rfl,hv⟩:=hrep.open;have bel:=Below.refl w.heap.size w;have hdp:0<e.depth:=by cases e;rw[Ex.er];omega
 have dK:=hv.dK;refine Zs 32 Tryz.func179 ?_;refine ah ?_;refine Seq.box rfl rfl rfl rfl rfl ?_;intro g2 w1 n2;have e2:=Nat.le_trans bel.size n2.ge;replace bel:=bel.step n2.below;have k2:=n2.an;refine Zl dv ?_;intro g4 w2 n4;have e4:=Nat.le_trans bel.size n4.ge;have l4:=Nat.lt_of_lt_of_le k2.lt n4.ge;replace bel:=bel.step n4.below;replace k2:=k2.step n4.below;have k4:=n4.an;refine aS 0 1 2 4 (az ?_);refine Zv (aa.build rfl rfl (dt _ _ _)) ?_;refine Zl dv ?_;intro g5 w3 n5;have e5:=Nat.le_trans bel.size n5.ge;have l5:=Nat.lt_of_lt_of_le k4.lt n5.ge;have l5_k2:=Nat.lt_of_lt_of_le k2.lt n5.ge;replace bel:=bel.step n5.below;replace k2:=k2.step n5.below;replace k4:=k4.step n5.below;have k5:=n5.an;refine Zo 2 k5 ?_;intro w4 pw4;replace bel:=bel.put k5 pw4 e5;replace k2:=k2.put pw4 (by omega);replace k4:=k4.put pw4 (by omega);replace k5:=pw4.an;refine aL 0 1 2 4 5 (aH (ah ?_));refine Zf 3 Tryz.underlying105 ?_;refine ZL Tryz.underlying68 k2 ?_;refine Zv (aa.len rfl rfl Tryz.underlying68) ?_;refine Zm ?_;refine bO 0 1 2 4 5 10 11 12 (Zt (Cd.block ?_))
 refine Cd.loop (σ:=Nat × (Int × Int)) (fun s=>[(1, .int .i64 (at_:Int)),(4, .pointer (some ⟨g4,0,none⟩)),(5, .pointer (some ⟨g5,0,none⟩)),(10, .slice A e.args.length c),(11, .int .i64 (e.args.length:Int)),(12, .int .i64 (s.1:Int))])
  (fun s wr=>s.1≤e.args.length∧Sz s.2∧r7 at_ s.2 (e.args.drop s.1)=om e at_∧Below w.heap.size w wr∧aE wr g4 200 #[.int .i64 0, .int .i64 0]∧aE wr g5 200 #[.int .i64 s.2.1, .int .i64 s.2.2]) (fun s=>e.args.length-s.1) (0,(1,1)) ⟨Nat.zero_le _,⟨by simp,by simp⟩,by rw[Ah];rfl,bel,k4,k5⟩ ⟨rfl,rfl,rfl,rfl,rfl,rfl,trivial⟩ ?_
 clear bel k2 k4 k5;rintro⟨k,s⟩ wr ⟨hk,hs,hsz,bel,k4,k5⟩;simp only at hk hs hsz k5;show Cd _ _ _ _ [(1, .int .i64 (at_:Int)),(4, .pointer (some ⟨g4,0,none⟩)),(5, .pointer (some ⟨g5,0,none⟩)),(10, .slice A e.args.length c),(11, .int .i64 (e.args.length:Int)),(12, .int .i64 (k:Int))] _;refine ah ?_;refine eU ?_;refine ba 1 4 5 10 11 12 13 (aH ?_);refine Cd.ao rfl (fun hc=> ?_) (fun hc=> ?_)
 ·obtain⟨x,hx⟩:∃x,e.args[k]? =some x:=⟨_,List.getElem?_eq_getElem (show k<e.args.length by omega)⟩
  obtain⟨ad,A',c',rfl,hbl,hrx,hc⟩:=hv.arg k x hx;have hxm:=List.mem_of_getElem? hx;have hxn:=Ex.eD hxm;have hxd:=Ex.pb hxm;have hc:=fun j u hj=>((bel.mono hB).cell (p:=(ad.add (k*4)).add j) (by rw[ai,ai];exact hbl)).trans (hc j u hj)
  have hdrop:e.args.drop k=x::e.args.drop (k+1):=by
   rw[List.drop_eq_getElem_cons (show k<e.args.length by omega)];congr 1;obtain⟨_,he⟩:=List.getElem?_eq_some_iff.1 hx;exact he
  rw[hdrop,r4] at hsz;refine Cd.skip (aH (Cd.block (ah ?_)));refine Zv (aa.aU rfl rfl rfl Tryz.underlying68 (s:=4) (by kernel_rfl) (j:=k) rfl (by omega)) ?_;refine Zv (aa.b7 (ps:=[.int .i64 x.op, .int .i64 x.n, .string (strOf x.name), .slice A' x.args.length c']) rfl rfl Tryz.underlying105 rfl (m:=4) (by kernel_rfl) rfl hc) ?_;refine Zl au ?_;intro g7 w5 n7;have e7:=Nat.le_trans bel.size n7.ge;have l7:=Nat.lt_of_lt_of_le k5.lt n7.ge;have l7_k4:=Nat.lt_of_lt_of_le k4.lt n7.ge;replace bel:=bel.step n7.below;replace k4:=k4.step n7.below;replace k5:=k5.step n7.below;have k7:=n7.an;refine Zo 4 k7 ?_;intro w6 pw6;replace bel:=bel.put k7 pw6 e7;replace k4:=k4.put pw6 (by omega);replace k5:=k5.put pw6 (by omega);replace k7:=pw6.an;refine bO 1 4 5 7 10 11 12 13 (aH (ah ?_));refine Zm ?_;refine oo ?_;refine Zm ?_;refine ar.start ?_;refine bB (fun hcx=>aa.aj 0 rfl rfl Tryz.underlying200 rfl (by kernel_rfl)) ?_;refine Zn (fun hcx=>aa.ak rfl rfl Tryz.underlying3 rfl k5 rfl) ?_;refine Zn (fun hcx=>aa.geq rfl rfl rfl) ?_;refine fh ?_;refine cw 1 4 5 7 10 11 12 13 22 (Zt ?_);refine Cd.cond rfl (fun h=> ?_) (fun h=> ?_)
  ·simp at h
   rw[if_pos (by omega)] at hsz;refine ah ?_;refine Zv (aa.build rfl rfl (dt _ _ _)) ?_;refine Zo 2 k4 ?_;intro w7 pw7;replace bel:=bel.put k4 pw7 e4;replace k5:=k5.put pw7 (by omega);replace k7:=k7.put pw7 (by omega);replace k4:=pw7.an;refine cw 1 4 5 7 10 11 12 13 22 (Zt (Cd.ret (ab.ae (ab.af (ab.ae (ab.aJ (ab.af (ab.ae ?_))))))));refine iH 2 k4 Tryz.underlying200 ?_;rw[←hsz];exact⟨rfl,bel⟩
  ·simp at h
   rw[if_neg (by omega)] at hsz;have hat:at_+1≤1001:=by omega
   have hrec:=fun W (hb:Below w.heap.size w W)=>ih x (at_+1) B _ W (by omega) hat (hrx.below (hb.mono hB)) (Nat.le_trans hB hb.size);have hxs:=lF x (at_+1);have hws:=db hs hxs;refine Cd.skip (Zt ?_);refine gm 6 ?_;intro w7 hw7 zw7;replace bel:=bel.step hw7;replace k4:=k4.step hw7;replace k5:=k5.step hw7;replace k7:=k7.step hw7;have zbel:=bel.size;have zlt:=k7.lt;refine Zd (fun w hG=>aa.dx rfl rfl Tryz.underlying200 rfl (k5.step hG) (m:=2) (by kernel_rfl) rfl) ?_;refine Zd (fun w hG=>aa.dx rfl rfl Tryz.underlying105 rfl (k7.step hG) (m:=4) (by kernel_rfl) rfl) ?_;refine fN ?_;refine Zd (fun w hG=>aa.oE rfl rfl rfl (by omega) (by omega)) ?_;refine Dr.cu rfl (fun w=>Ze Tryz.func179) rfl (fun w hG=>hrec w (bel.step hG)) ?_;refine Dr.cu rfl (fun w=>Ze Tryz.func186) rfl (fun w hG=>mE s (om x (at_+1)) w hs.1 hs.2 hxs.1 hxs.2) ?_;refine Dr.nil ?_;refine bH.done (F':=[(1,_),(4,_),(5,_),(7,_),(10,_),(11,_),(12,_),(13,_),(22,_),(29,_)]) rfl ⟨rfl,rfl,rfl,rfl,rfl,rfl,rfl,rfl,rfl,rfl,trivial⟩ ?_;intro w8 hw8 fw8;replace bel:=bel.step hw8;replace k4:=k4.step hw8;replace k5:=k5.step hw8;replace k7:=k7.step hw8;refine Zo 2 k5 ?_;intro w9 pw9;replace bel:=bel.put k5 pw9 e5;replace k4:=k4.put pw9 (by omega);replace k5:=pw9.an;refine cw 1 4 5 7 10 11 12 13 22 (ab.ag (et ?_));refine dq ?_;refine Zm ?_;refine cw 1 4 5 7 10 11 12 13 22 ?_;exact ab.round (k+1,cv s (om x (at_+1))) ⟨rfl,rfl,rfl,rfl,rfl,rfl,trivial⟩ ⟨by simp only;omega,hws,hsz,bel,k4,k5⟩ (by simp only;omega)
 ·obtain rfl:k=e.args.length:=by omega
  rw[List.drop_of_length_le (Nat.le_refl _),ug] at hsz;refine Cd.exit (ab.aD (ab.ay (ab.aA (az ?_))));refine ZW 2 Tryz.underlying200 k5 ?_;refine Zo 2 k4 ?_;intro w5 pw5;replace bel:=bel.put k4 pw5 e4;replace k5:=k5.put pw5 (by omega);replace k4:=pw5.an;refine ba 1 4 5 10 11 12 13 (Zt (Cd.ret ?_));refine iH 2 k4 Tryz.underlying200 ?_;rw[←hsz];exact⟨rfl,bel⟩
theorem qA (N:Nat)(e:Ex)(at_:Nat)(B:Nat)(v:Value)(w:World)(hN:e.nodes≤N)(hd:e.depth+at_≤900)(hrep:jQ w B e v)(hB:B≤w.heap.size):Calls Tryz.prog 179 #[v, .int .i64 (at_:Int)] w fun en w'=>en= .returned (.agg #[.int .i64 (rj e).1, .int .i64 (rj e).2])∧Grow w w':=by
 rw[←yN hd];exact ie N e at_ B v w hN (by omega) hrep hB
def qS {α:Type}(p:α→Bool)(l:List α):Int:=match l.findIdx? p with|some i=>(i:Int)|none=> -1
theorem oQ {α:Type}{p:α→Bool}{l:List α}{i:Nat}{x:α}(h:l[i]? =some x)(hp:p x=true)(hb:∀y∈l.take i,p y=false):qS p l=(i:Int):=by
 unfold qS
 have:l.findIdx? p=some i:=by
  rw[List.findIdx?_eq_some_iff_getElem];obtain⟨hi,he⟩:=List.getElem?_eq_some_iff.1 h;refine⟨hi,by rw[he];exact hp,fun j hj=> ?_⟩;have:=hb (l[j]) (by rw[List.mem_take_iff_getElem];exact⟨j,by omega,rfl⟩);rw[this];simp
 rw[this]
theorem pC {α:Type}{p:α→Bool}{l:List α}(hb:∀y∈l,p y=false):qS p l= -1:=by
 unfold qS;have:l.findIdx? p=none:=by rw[List.findIdx?_eq_none_iff];exact hb
 rw[this]
theorem rL {α:Type}(p:α→Bool)(l:List α):decide (0≤qS p l)=l.any p:=by
 unfold qS
 cases h:l.findIdx? p with
 |none=>
  rw[List.findIdx?_eq_none_iff] at h;have:l.any p=false:=by rw[List.any_eq_false];exact fun x hx=>by rw[h x hx];simp
  rw[this];rfl
 |some i=>
  obtain⟨hi,he,-⟩:=List.findIdx?_eq_some_iff_getElem.1 h;have:l.any p=true:=by rw[List.any_eq_true];exact⟨_,List.getElem_mem hi,he⟩
  rw[this];simp
theorem sZ (g:Nat)(cp:List Value)(p:Ex→Bool)(B:Nat)(A:Option Addr)(c:Nat)(e:Ex)(w:World)(hv:sz w B e A c)(hB:B≤w.heap.size)
  (eg:∀args w,(callFunc g args).run Tryz.prog w= .ok (.enter g args) w) (hp:∀x∈e.args,∀v W,Below w.heap.size w W→jQ W B x v→Calls Tryz.prog g ([]++[v]++cp).toArray W fun en w'=>en= .returned (.bool (p x))∧Grow W w'):
  Calls Tryz.prog 146 #[.slice A e.args.length c, .func (.func g) #[] cp.toArray] w fun en w'=>en= .returned (.int .i64 (qS p e.args))∧Grow w w':=by
 have bel:=Below.refl w.heap.size w;have dK:=hv.dK;obtain⟨n,hn⟩:∃n,n=e.args.length:=⟨_,rfl⟩;rw[←hn] at dK⊢;refine Zs 19 Tryz.func146 ?_;refine ah ?_;refine Za ?_;refine bk 0 1 4 (aH (ah ?_));refine Zm ?_;refine Zv (aa.len rfl rfl Tryz.underlying68) ?_;refine Zm ?_;refine aL 0 1 4 7 8 (Zt (Cd.block ?_))
 refine Cd.loop (σ:=Nat) (fun k=>[(0, .slice A n c),(1, .func (.func g) #[] cp.toArray),(7, .int .i64 (n:Int)),(8, .int .i64 (k:Int))])
  (fun k wr=>k≤n∧(∀y∈e.args.take k,p y=false)∧Below w.heap.size w wr) (fun k=>n-k) 0 ⟨Nat.zero_le _,by simp,bel⟩ ⟨rfl,rfl,rfl,rfl,trivial⟩ ?_
 clear bel;rintro k wr ⟨hk,hno,bel⟩;refine ah ?_;refine eU ?_;refine aL 0 1 7 8 9 (aH ?_);refine Cd.ao rfl (fun hc=> ?_) (fun hc=> ?_)
 ·obtain⟨x,hx⟩:∃x,e.args[k]? =some x:=⟨_,List.getElem?_eq_getElem (show k<e.args.length by omega)⟩
  obtain⟨ad,A',c',rfl,hbl,hrx,hc⟩:=hv.arg k x hx;have hc:=fun j u hj=>((bel.mono hB).cell (p:=(ad.add (k*4)).add j) (by rw[ai,ai];exact hbl)).trans (hc j u hj);have htk:e.args.take (k+1)=e.args.take k++[x]:=by rw[List.take_add_one,hx];rfl
  refine Cd.skip (aH (Cd.block (ah ?_)));refine Zm ?_;refine Za ?_;refine aV 0 1 5 7 8 9 (az ?_);refine Zm ?_;refine Zm ?_;refine Zm ?_;refine Zv (aa.aU rfl rfl rfl Tryz.underlying68 (s:=4) (by kernel_rfl) (j:=k) rfl (by omega)) ?_;refine Zv (aa.b7 (ps:=[.int .i64 x.op, .int .i64 x.n, .string (strOf x.name), .slice A' x.args.length c']) rfl rfl Tryz.underlying105 rfl (m:=4) (by kernel_rfl) rfl hc) ?_;refine Seq.call (Enters.value (first:=[]) (cap:=cp) rfl rfl rfl eg) rfl rfl rfl (hp x (List.mem_of_getElem? hx) _ _ bel (hrx.below (bel.mono hB))) ?_;rintro en w5 ⟨rfl,hb5⟩;refine⟨_,rfl,?_⟩;replace bel:=bel.step hb5;refine ba 0 1 5 7 8 9 16 (Zt ?_);refine Cd.cond rfl (fun h=> ?_) (fun h=> ?_)
  ·skip
   refine ah ?_;refine Zm ?_;refine Za ?_;refine bO 0 1 4 5 7 8 9 16 (Zt (Cd.ret (ab.af (ab.ae (ab.aJ (ab.af (ab.ae ?_)))))));refine aP ?_;exact⟨aO (int_eq (oQ hx h hno).symm),bel⟩
  ·skip
   refine Cd.skip (ab.ag (et ?_));refine dq ?_;refine Zm ?_;refine ba 0 1 5 7 8 9 16 ?_;refine ab.round (k+1) ⟨rfl,rfl,rfl,rfl,trivial⟩ ⟨by omega,fun y hy=> ?_,bel⟩ (by omega);rw[htk] at hy;rcases List.mem_append.1 hy with hy|hy
   ·exact hno y hy
   ·simp at hy;subst hy;exact h
 ·obtain rfl:k=n:=by omega
  rw[List.take_of_length_le (by omega)] at hno;refine Cd.exit (ab.aD (ab.ay (ab.aA (az ?_))));refine Za ?_;refine aV 0 1 4 7 8 9 (Zt (Cd.ret ?_));refine aP ?_;exact⟨aO (int_eq (pC hno).symm),bel⟩
theorem gq (g:Nat)(cp:List Value)(p:Ex→Bool)(B:Nat)(A:Option Addr)(c:Nat)(e:Ex)(w:World)(hv:sz w B e A c)(hB:B≤w.heap.size)
  (eg:∀args w,(callFunc g args).run Tryz.prog w= .ok (.enter g args) w) (hp:∀x∈e.args,∀v W,Below w.heap.size w W→jQ W B x v→Calls Tryz.prog g ([]++[v]++cp).toArray W fun en w'=>en= .returned (.bool (p x))∧Grow W w'):
  Calls Tryz.prog 107 #[.slice A e.args.length c, .func (.func g) #[] cp.toArray] w fun en w'=>en= .returned (.bool (e.args.any p))∧Grow w w':=by
 have bel:=Below.refl w.heap.size w;have hc:=fun W (hb:Below w.heap.size w W)=>sZ g cp p B A c e W (hv.below (hb.mono hB)) (Nat.le_trans hB hb.size) eg (fun x hx v W2 hb2 hr=>hp x hx v W2 (hb.trans (hb2.mono hb.size)) hr);have hany:=rL p e.args;obtain⟨n,hn⟩:∃n,n=e.args.length:=⟨_,rfl⟩;rw[←hn] at hc⊢;refine Zs 9 Tryz.func107 ?_;refine ah ?_;refine Za ?_;refine bk 0 1 4 (az ?_);refine Zm ?_;refine Zm ?_;refine Zc (Ze Tryz.func146) (hc _ bel) ?_;rintro en w5 ⟨rfl,hb5⟩;refine⟨_,rfl,?_⟩;replace bel:=bel.step hb5;refine oo ?_;refine Za ?_;refine bk 0 1 4 (Zt (Cd.ret ?_));refine aP ?_;exact⟨aO (aB hany),bel⟩
def kG (op n:Int)(nm:List Nat)(k:Nat):Bool:=decide (dW op=(k:Int))&& !(decide (n≠0)&&decide (op≠1)&&decide (op≠2))&& !(decide (nm≠ [])&&decide (op≠3))&& !decide (n<0)&& !(decide (op=2)&&decide (2932896<n))&& !(decide (op=3)&& !gG nm)
mutual
def bQ:Ex→Bool
 | .mk op n nm l=>kG op n nm l.length&&nM l
def nM:List Ex→Bool
 | []=>true
 |e::r=>bQ e&&nM r
end
theorem nn:∀l,nM l=l.all bQ
 | []=>by rw[nM];rfl
 |e::r=>by rw[nM,nn r];rfl
theorem o7 (e:Ex):bQ e=(kG e.op e.n e.name e.args.length&&e.args.all bQ):=by
 cases e;rw[bQ,nn];rfl
theorem uD:∀args w,(callFunc 215 args).run Tryz.prog w= .ok (.enter 215 args) w:=fun args w=>aF Tryz.func215 (by kernel_rfl) rfl args w
theorem lV {op n:Int}{nm:List Nat}{k:Nat}(h:¬(dW op=(k:Int)∧(n=0∨op=1∨op=2)∧(nm=[]∨op=3)∧0≤n∧(op=2→n≤2932896)∧(op=3→gG nm=true))):kG op n nm k=false:=by
 cases hh:kG op n nm k with
 |false=>rfl
 |true=>
  exfalso;apply h;unfold kG at hh;simp at hh;obtain⟨⟨⟨⟨⟨h1,h2⟩,h3⟩,h4⟩,h5⟩,h6⟩:=hh
  exact⟨h1,by omega,h3,h4,by omega,fun h=>by
   rcases h6 with a|a
   ·exact absurd h a
   ·exact a⟩
theorem sQ {op n:Int}{nm:List Nat}{k:Nat}(h1:dW op=(k:Int))(h2:n=0∨op=1∨op=2)(h3:nm=[]∨op=3)(h4:0≤n)(h5:op=2→n≤2932896)(h6:op=3→gG nm=true):kG op n nm k=true:=by
 unfold kG;simp;refine⟨⟨⟨⟨⟨h1,by omega⟩,h3⟩,h4⟩,by omega⟩,?_⟩
 by_cases a:op=3
 ·exact .inr (h6 a)
 ·exact .inl a
theorem gn (N:Nat):∀(e:Ex) (B:Nat) (v:Value) (w:World),e.nodes≤N→jQ w B e v→B≤w.heap.size→Calls Tryz.prog 180 #[v] w fun en w'=>en= .returned (.bool (bQ e))∧Grow w w':=by
 induction N with
 |zero=>intro e B v w hN;have:=e.bI;omega
 |succ N ih=>
 intro e B v w hN hrep hB;obtain⟨A,c,rfl,hv⟩:=hrep.open;have bel:=Below.refl w.heap.size w;have HB1:=hv.name;have HB2:∀d∈([]:List Nat),d<256:=by simp
 have hnl:=hv.xW;have dK:=hv.dK;have hn1:=hv.n.1;have hn2:=hv.n.2;have hbt:=o7 e
 have hcl:=fun W (hb:Below w.heap.size w W)=>gq 215 [] (fun x=> !bQ x) B A c e W (hv.below (hb.mono hB)) (Nat.le_trans hB hb.size) uD (fun x hx v W2 hb2 hr=>by
  have hxn:=Ex.eD hx;have hrec:=ih x B v;have hs2:=Nat.le_trans hB (Nat.le_trans hb.size hb2.size);obtain⟨Ax,cx,rfl,-⟩:=hr.open;have bel:=Below.refl W2.heap.size W2;have hrec:=fun W3 (hb3:Below W2.heap.size W2 W3)=>hrec W3 (by omega) (hr.below (hb3.mono hs2)) (Nat.le_trans hs2 hb3.size)
  generalize bQ x=q at *
  refine Zs 6 Tryz.func215 ?_;refine ah ?_;refine Seq.box rfl rfl rfl rfl rfl ?_;intro g1 w1 n1;have e1:=Nat.le_trans bel.size n1.ge;replace bel:=bel.step n1.below;have k1:=n1.an;refine Za ?_;refine bk 0 1 2 (az ?_);refine ZW 4 Tryz.underlying105 k1 ?_;refine Zc (Ze Tryz.func180) (hrec _ bel) ?_;rintro en w5 ⟨rfl,hb5⟩;refine⟨_,rfl,?_⟩;replace bel:=bel.step hb5;replace k1:=k1.step hb5;refine gU ?_;refine Za ?_;refine bk 0 1 2 (Zt (Cd.ret ?_));refine aP ?_;exact⟨rfl,bel⟩)
 obtain⟨op,hop⟩:∃op,op=e.op:=⟨_,rfl⟩;obtain⟨n,hn⟩:∃n,n=e.n:=⟨_,rfl⟩;obtain⟨nm,hnm⟩:∃nm,nm=e.name:=⟨_,rfl⟩;obtain⟨k,hk⟩:∃k,k=e.args.length:=⟨_,rfl⟩;rw[←hop,←hn,←hnm,←hk] at hbt;rw[←hnm] at HB1 hnl;rw[←hn] at hn1 hn2;rw[←hk] at dK hcl;rw[←hop,←hn,←hnm,←hk];have hbf:∀_:¬(dW op=(k:Int)∧(n=0∨op=1∨op=2)∧(nm=[]∨op=3)∧0≤n∧(op=2→n≤2932896)∧(op=3→gG nm=true)),bQ e=false:=fun h=>by rw[hbt,lV h];rfl
 generalize bQ e=b at *
 refine Zs 60 Tryz.func180 ?_;refine ah ?_;refine Seq.box rfl rfl rfl rfl rfl ?_;intro g1 w1 n1;have e1:=Nat.le_trans bel.size n1.ge;replace bel:=bel.step n1.below;have k1:=n1.an;refine Za ?_;refine bk 0 1 2 (Zt ?_);refine Cd.kH (σ:=Unit) (fun _=>[(1, .pointer (some ⟨g1,0,none⟩))]) (fun _ wr=>(dW op=(k:Int)∧(n=0∨op=1∨op=2)∧(nm=[]∨op=3))∧Below w.heap.size w wr∧aE wr g1 105 #[.int .i64 op, .int .i64 n, .string (strOf nm), .slice A k c]) ?_ ?_
 ·skip
  by_cases h1:dW op=(k:Int)
  ·by_cases h2:n=0
   ·skip
    by_cases h5:nm=[]
    ·skip
     refine Cd.seq ?_;refine gm 32 ?_;intro w2 hw2 zw2;replace bel:=bel.step hw2;replace k1:=k1.step hw2;have zbel:=bel.size;have zlt:=k1.lt;refine Dr.val Grow.refl rfl (fun w hG=>aa.aj 0 rfl rfl Tryz.underlying105 rfl (by kernel_rfl)) rfl ?_;refine Dr.val Grow.refl rfl (fun w hG=>aa.ak rfl rfl Tryz.underlying3 rfl (k1.step hG) rfl) rfl ?_;refine Dr.cu rfl (fun w=>Ze Tryz.func214) rfl (fun w hG=>cJ op w) ?_;refine Dr.val Grow.refl rfl (fun w hG=>aa.aj 3 rfl rfl Tryz.underlying105 rfl (by kernel_rfl)) rfl ?_;refine Dr.val Grow.refl rfl (fun w hG=>aa.ak rfl rfl Tryz.underlying68 rfl (k1.step hG) rfl) rfl ?_;refine Dr.val Grow.refl rfl (fun w hG=>aa.len rfl rfl Tryz.underlying68) rfl ?_;refine Dr.val Grow.refl rfl (fun w hG=>(aa.bT rfl rfl rfl).jv (by omega)) rfl ?_;refine Dr.val Grow.refl rfl (fun w hG=>aa.move rfl rfl) rfl ?_;refine Dr.av Grow.refl rfl (fun w hG=>aa.aj 1 rfl rfl Tryz.underlying105 rfl (by kernel_rfl)) rfl rfl rfl ?_;refine Dr.av Grow.refl rfl (fun w hG=>aa.ak rfl rfl Tryz.underlying2 rfl (k1.step hG) rfl) rfl rfl rfl ?_;refine Dr.av Grow.refl rfl (fun w hG=>(aa.bT rfl rfl rfl).jv (by omega)) rfl rfl rfl ?_;refine Dr.av Grow.refl rfl (fun w hG=>aa.move rfl rfl) rfl rfl rfl ?_;refine Dr.skip rfl rfl rfl rfl rfl ?_;refine Dr.skip rfl rfl rfl rfl rfl ?_;refine Dr.skip rfl rfl rfl rfl rfl ?_;refine Dr.av Grow.refl rfl (fun w hG=>aa.bD rfl rfl rfl) rfl rfl rfl ?_;refine Dr.av Grow.refl rfl (fun w hG=>aa.move rfl rfl) rfl rfl rfl ?_;refine Dr.skip rfl rfl rfl rfl rfl ?_;refine Dr.skip rfl rfl rfl rfl rfl ?_;refine Dr.skip rfl rfl rfl rfl rfl ?_;refine Dr.av Grow.refl rfl (fun w hG=>aa.bD rfl rfl rfl) rfl rfl rfl ?_;refine Dr.val Grow.refl rfl (fun w hG=>aa.bD rfl rfl rfl) rfl ?_;refine Dr.val Grow.refl rfl (fun w hG=>aa.move rfl rfl) rfl ?_;refine Dr.av Grow.refl rfl (fun w hG=>aa.aj 2 rfl rfl Tryz.underlying105 rfl (by kernel_rfl)) rfl rfl rfl ?_;refine Dr.av Grow.refl rfl (fun w hG=>aa.ak rfl rfl Tryz.underlying9 rfl (k1.step hG) rfl) rfl rfl rfl ?_;refine Dr.av Grow.refl rfl (fun w hG=>(aa.kW (b:=[]) rfl rfl rfl HB1 HB2).jv (by simp[h5])) rfl rfl rfl ?_;refine Dr.av Grow.refl rfl (fun w hG=>aa.move rfl rfl) rfl rfl rfl ?_;refine Dr.skip rfl rfl rfl rfl rfl ?_;refine Dr.skip rfl rfl rfl rfl rfl ?_;refine Dr.skip rfl rfl rfl rfl rfl ?_;refine Dr.av Grow.refl rfl (fun w hG=>aa.bD rfl rfl rfl) rfl rfl rfl ?_;refine Dr.val Grow.refl rfl (fun w hG=>aa.bD rfl rfl rfl) rfl ?_;refine Dr.nil ?_;refine bH.done (F':=[(0,_),(1,_),(2,_),(34,_)]) rfl ⟨rfl,rfl,rfl,rfl,trivial⟩ ?_;intro w3 hw3 fw3;replace bel:=bel.step hw3;replace k1:=k1.step hw3;refine aS 0 1 2 34 (Zt ?_);refine Cd.aI rfl rfl ?_;refine Cd.skip ?_;exact ab.join () ⟨rfl,trivial⟩ ⟨⟨h1, .inl h2, .inl h5⟩,bel,k1⟩
    ·by_cases h6:op=3
     ·skip
      refine Cd.seq ?_;refine gm 32 ?_;intro w2 hw2 zw2;replace bel:=bel.step hw2;replace k1:=k1.step hw2;have zbel:=bel.size;have zlt:=k1.lt;refine Dr.val Grow.refl rfl (fun w hG=>aa.aj 0 rfl rfl Tryz.underlying105 rfl (by kernel_rfl)) rfl ?_;refine Dr.val Grow.refl rfl (fun w hG=>aa.ak rfl rfl Tryz.underlying3 rfl (k1.step hG) rfl) rfl ?_;refine Dr.cu rfl (fun w=>Ze Tryz.func214) rfl (fun w hG=>cJ op w) ?_;refine Dr.val Grow.refl rfl (fun w hG=>aa.aj 3 rfl rfl Tryz.underlying105 rfl (by kernel_rfl)) rfl ?_;refine Dr.val Grow.refl rfl (fun w hG=>aa.ak rfl rfl Tryz.underlying68 rfl (k1.step hG) rfl) rfl ?_;refine Dr.val Grow.refl rfl (fun w hG=>aa.len rfl rfl Tryz.underlying68) rfl ?_;refine Dr.val Grow.refl rfl (fun w hG=>(aa.bT rfl rfl rfl).jv (by omega)) rfl ?_;refine Dr.val Grow.refl rfl (fun w hG=>aa.move rfl rfl) rfl ?_;refine Dr.av Grow.refl rfl (fun w hG=>aa.aj 1 rfl rfl Tryz.underlying105 rfl (by kernel_rfl)) rfl rfl rfl ?_;refine Dr.av Grow.refl rfl (fun w hG=>aa.ak rfl rfl Tryz.underlying2 rfl (k1.step hG) rfl) rfl rfl rfl ?_;refine Dr.av Grow.refl rfl (fun w hG=>(aa.bT rfl rfl rfl).jv (by omega)) rfl rfl rfl ?_;refine Dr.av Grow.refl rfl (fun w hG=>aa.move rfl rfl) rfl rfl rfl ?_;refine Dr.skip rfl rfl rfl rfl rfl ?_;refine Dr.skip rfl rfl rfl rfl rfl ?_;refine Dr.skip rfl rfl rfl rfl rfl ?_;refine Dr.av Grow.refl rfl (fun w hG=>aa.bD rfl rfl rfl) rfl rfl rfl ?_;refine Dr.av Grow.refl rfl (fun w hG=>aa.move rfl rfl) rfl rfl rfl ?_;refine Dr.skip rfl rfl rfl rfl rfl ?_;refine Dr.skip rfl rfl rfl rfl rfl ?_;refine Dr.skip rfl rfl rfl rfl rfl ?_;refine Dr.av Grow.refl rfl (fun w hG=>aa.bD rfl rfl rfl) rfl rfl rfl ?_;refine Dr.val Grow.refl rfl (fun w hG=>aa.bD rfl rfl rfl) rfl ?_;refine Dr.val Grow.refl rfl (fun w hG=>aa.move rfl rfl) rfl ?_;refine Dr.av Grow.refl rfl (fun w hG=>aa.aj 2 rfl rfl Tryz.underlying105 rfl (by kernel_rfl)) rfl rfl rfl ?_;refine Dr.av Grow.refl rfl (fun w hG=>aa.ak rfl rfl Tryz.underlying9 rfl (k1.step hG) rfl) rfl rfl rfl ?_;refine Dr.av Grow.refl rfl (fun w hG=>(aa.kW (b:=[]) rfl rfl rfl HB1 HB2).lC (h5)) rfl rfl rfl ?_;refine Dr.av Grow.refl rfl (fun w hG=>aa.move rfl rfl) rfl rfl rfl ?_;refine Dr.av Grow.refl rfl (fun w hG=>aa.aj 0 rfl rfl Tryz.underlying105 rfl (by kernel_rfl)) rfl rfl rfl ?_;refine Dr.av Grow.refl rfl (fun w hG=>aa.ak rfl rfl Tryz.underlying3 rfl (k1.step hG) rfl) rfl rfl rfl ?_;refine Dr.av Grow.refl rfl (fun w hG=>(aa.bT rfl rfl rfl).jv (by omega)) rfl rfl rfl ?_;refine Dr.av Grow.refl rfl (fun w hG=>aa.cr rfl rfl rfl) rfl rfl rfl ?_;refine Dr.val Grow.refl rfl (fun w hG=>aa.bD rfl rfl rfl) rfl ?_;refine Dr.nil ?_;refine bH.done (F':=[(0,_),(1,_),(2,_),(34,_)]) rfl ⟨rfl,rfl,rfl,rfl,trivial⟩ ?_;intro w3 hw3 fw3;replace bel:=bel.step hw3;replace k1:=k1.step hw3;refine aS 0 1 2 34 (Zt ?_);refine Cd.aI rfl rfl ?_;refine Cd.skip ?_;exact ab.join () ⟨rfl,trivial⟩ ⟨⟨h1, .inl h2, .inr h6⟩,bel,k1⟩
     ·skip
      refine Cd.seq ?_;refine gm 32 ?_;intro w2 hw2 zw2;replace bel:=bel.step hw2;replace k1:=k1.step hw2;have zbel:=bel.size;have zlt:=k1.lt;refine Dr.val Grow.refl rfl (fun w hG=>aa.aj 0 rfl rfl Tryz.underlying105 rfl (by kernel_rfl)) rfl ?_;refine Dr.val Grow.refl rfl (fun w hG=>aa.ak rfl rfl Tryz.underlying3 rfl (k1.step hG) rfl) rfl ?_;refine Dr.cu rfl (fun w=>Ze Tryz.func214) rfl (fun w hG=>cJ op w) ?_;refine Dr.val Grow.refl rfl (fun w hG=>aa.aj 3 rfl rfl Tryz.underlying105 rfl (by kernel_rfl)) rfl ?_;refine Dr.val Grow.refl rfl (fun w hG=>aa.ak rfl rfl Tryz.underlying68 rfl (k1.step hG) rfl) rfl ?_;refine Dr.val Grow.refl rfl (fun w hG=>aa.len rfl rfl Tryz.underlying68) rfl ?_;refine Dr.val Grow.refl rfl (fun w hG=>(aa.bT rfl rfl rfl).jv (by omega)) rfl ?_;refine Dr.val Grow.refl rfl (fun w hG=>aa.move rfl rfl) rfl ?_;refine Dr.av Grow.refl rfl (fun w hG=>aa.aj 1 rfl rfl Tryz.underlying105 rfl (by kernel_rfl)) rfl rfl rfl ?_;refine Dr.av Grow.refl rfl (fun w hG=>aa.ak rfl rfl Tryz.underlying2 rfl (k1.step hG) rfl) rfl rfl rfl ?_;refine Dr.av Grow.refl rfl (fun w hG=>(aa.bT rfl rfl rfl).jv (by omega)) rfl rfl rfl ?_;refine Dr.av Grow.refl rfl (fun w hG=>aa.move rfl rfl) rfl rfl rfl ?_;refine Dr.skip rfl rfl rfl rfl rfl ?_;refine Dr.skip rfl rfl rfl rfl rfl ?_;refine Dr.skip rfl rfl rfl rfl rfl ?_;refine Dr.av Grow.refl rfl (fun w hG=>aa.bD rfl rfl rfl) rfl rfl rfl ?_;refine Dr.av Grow.refl rfl (fun w hG=>aa.move rfl rfl) rfl rfl rfl ?_;refine Dr.skip rfl rfl rfl rfl rfl ?_;refine Dr.skip rfl rfl rfl rfl rfl ?_;refine Dr.skip rfl rfl rfl rfl rfl ?_;refine Dr.av Grow.refl rfl (fun w hG=>aa.bD rfl rfl rfl) rfl rfl rfl ?_;refine Dr.val Grow.refl rfl (fun w hG=>aa.bD rfl rfl rfl) rfl ?_;refine Dr.val Grow.refl rfl (fun w hG=>aa.move rfl rfl) rfl ?_;refine Dr.av Grow.refl rfl (fun w hG=>aa.aj 2 rfl rfl Tryz.underlying105 rfl (by kernel_rfl)) rfl rfl rfl ?_;refine Dr.av Grow.refl rfl (fun w hG=>aa.ak rfl rfl Tryz.underlying9 rfl (k1.step hG) rfl) rfl rfl rfl ?_;refine Dr.av Grow.refl rfl (fun w hG=>(aa.kW (b:=[]) rfl rfl rfl HB1 HB2).lC (h5)) rfl rfl rfl ?_;refine Dr.av Grow.refl rfl (fun w hG=>aa.move rfl rfl) rfl rfl rfl ?_;refine Dr.av Grow.refl rfl (fun w hG=>aa.aj 0 rfl rfl Tryz.underlying105 rfl (by kernel_rfl)) rfl rfl rfl ?_;refine Dr.av Grow.refl rfl (fun w hG=>aa.ak rfl rfl Tryz.underlying3 rfl (k1.step hG) rfl) rfl rfl rfl ?_;refine Dr.av Grow.refl rfl (fun w hG=>(aa.bT rfl rfl rfl).lC (h6)) rfl rfl rfl ?_;refine Dr.av Grow.refl rfl (fun w hG=>aa.cr rfl rfl rfl) rfl rfl rfl ?_;refine Dr.val Grow.refl rfl (fun w hG=>aa.bD rfl rfl rfl) rfl ?_;refine Dr.nil ?_;refine bH.done (F':=[(0,_),(1,_),(2,_),(34,_)]) rfl ⟨rfl,rfl,rfl,rfl,trivial⟩ ?_;intro w3 hw3 fw3;replace bel:=bel.step hw3;replace k1:=k1.step hw3;refine aS 0 1 2 34 (Zt ?_);refine Cd.aM rfl rfl ?_;refine ah ?_;refine Za ?_;refine aS 0 1 2 34 (Zt (Cd.ret (ab.ae ?_)));refine aP ?_;rw[hbf (by rintro⟨-,-,h,-⟩;rcases h with h|h;exact h5 h;exact h6 h)];exact⟨rfl,bel⟩
   ·by_cases h3:op=1
    ·skip
     by_cases h5:nm=[]
     ·skip
      refine Cd.seq ?_;refine gm 32 ?_;intro w2 hw2 zw2;replace bel:=bel.step hw2;replace k1:=k1.step hw2;have zbel:=bel.size;have zlt:=k1.lt;refine Dr.val Grow.refl rfl (fun w hG=>aa.aj 0 rfl rfl Tryz.underlying105 rfl (by kernel_rfl)) rfl ?_;refine Dr.val Grow.refl rfl (fun w hG=>aa.ak rfl rfl Tryz.underlying3 rfl (k1.step hG) rfl) rfl ?_;refine Dr.cu rfl (fun w=>Ze Tryz.func214) rfl (fun w hG=>cJ op w) ?_;refine Dr.val Grow.refl rfl (fun w hG=>aa.aj 3 rfl rfl Tryz.underlying105 rfl (by kernel_rfl)) rfl ?_;refine Dr.val Grow.refl rfl (fun w hG=>aa.ak rfl rfl Tryz.underlying68 rfl (k1.step hG) rfl) rfl ?_;refine Dr.val Grow.refl rfl (fun w hG=>aa.len rfl rfl Tryz.underlying68) rfl ?_;refine Dr.val Grow.refl rfl (fun w hG=>(aa.bT rfl rfl rfl).jv (by omega)) rfl ?_;refine Dr.val Grow.refl rfl (fun w hG=>aa.move rfl rfl) rfl ?_;refine Dr.av Grow.refl rfl (fun w hG=>aa.aj 1 rfl rfl Tryz.underlying105 rfl (by kernel_rfl)) rfl rfl rfl ?_;refine Dr.av Grow.refl rfl (fun w hG=>aa.ak rfl rfl Tryz.underlying2 rfl (k1.step hG) rfl) rfl rfl rfl ?_;refine Dr.av Grow.refl rfl (fun w hG=>(aa.bT rfl rfl rfl).lC (h2)) rfl rfl rfl ?_;refine Dr.av Grow.refl rfl (fun w hG=>aa.move rfl rfl) rfl rfl rfl ?_;refine Dr.av Grow.refl rfl (fun w hG=>aa.aj 0 rfl rfl Tryz.underlying105 rfl (by kernel_rfl)) rfl rfl rfl ?_;refine Dr.av Grow.refl rfl (fun w hG=>aa.ak rfl rfl Tryz.underlying3 rfl (k1.step hG) rfl) rfl rfl rfl ?_;refine Dr.av Grow.refl rfl (fun w hG=>(aa.bT rfl rfl rfl).jv (by omega)) rfl rfl rfl ?_;refine Dr.av Grow.refl rfl (fun w hG=>aa.cr rfl rfl rfl) rfl rfl rfl ?_;refine Dr.av Grow.refl rfl (fun w hG=>aa.move rfl rfl) rfl rfl rfl ?_;refine Dr.skip rfl rfl rfl rfl rfl ?_;refine Dr.skip rfl rfl rfl rfl rfl ?_;refine Dr.skip rfl rfl rfl rfl rfl ?_;refine Dr.av Grow.refl rfl (fun w hG=>aa.bD rfl rfl rfl) rfl rfl rfl ?_;refine Dr.val Grow.refl rfl (fun w hG=>aa.bD rfl rfl rfl) rfl ?_;refine Dr.val Grow.refl rfl (fun w hG=>aa.move rfl rfl) rfl ?_;refine Dr.av Grow.refl rfl (fun w hG=>aa.aj 2 rfl rfl Tryz.underlying105 rfl (by kernel_rfl)) rfl rfl rfl ?_;refine Dr.av Grow.refl rfl (fun w hG=>aa.ak rfl rfl Tryz.underlying9 rfl (k1.step hG) rfl) rfl rfl rfl ?_;refine Dr.av Grow.refl rfl (fun w hG=>(aa.kW (b:=[]) rfl rfl rfl HB1 HB2).jv (by simp[h5])) rfl rfl rfl ?_;refine Dr.av Grow.refl rfl (fun w hG=>aa.move rfl rfl) rfl rfl rfl ?_;refine Dr.skip rfl rfl rfl rfl rfl ?_;refine Dr.skip rfl rfl rfl rfl rfl ?_;refine Dr.skip rfl rfl rfl rfl rfl ?_;refine Dr.av Grow.refl rfl (fun w hG=>aa.bD rfl rfl rfl) rfl rfl rfl ?_;refine Dr.val Grow.refl rfl (fun w hG=>aa.bD rfl rfl rfl) rfl ?_;refine Dr.nil ?_;refine bH.done (F':=[(0,_),(1,_),(2,_),(34,_)]) rfl ⟨rfl,rfl,rfl,rfl,trivial⟩ ?_;intro w3 hw3 fw3;replace bel:=bel.step hw3;replace k1:=k1.step hw3;refine aS 0 1 2 34 (Zt ?_);refine Cd.aI rfl rfl ?_;refine Cd.skip ?_;exact ab.join () ⟨rfl,trivial⟩ ⟨⟨h1, .inr (.inl h3), .inl h5⟩,bel,k1⟩
     ·by_cases h6:op=3
      ·skip
       refine Cd.seq ?_;refine gm 32 ?_;intro w2 hw2 zw2;replace bel:=bel.step hw2;replace k1:=k1.step hw2;have zbel:=bel.size;have zlt:=k1.lt;refine Dr.val Grow.refl rfl (fun w hG=>aa.aj 0 rfl rfl Tryz.underlying105 rfl (by kernel_rfl)) rfl ?_;refine Dr.val Grow.refl rfl (fun w hG=>aa.ak rfl rfl Tryz.underlying3 rfl (k1.step hG) rfl) rfl ?_;refine Dr.cu rfl (fun w=>Ze Tryz.func214) rfl (fun w hG=>cJ op w) ?_;refine Dr.val Grow.refl rfl (fun w hG=>aa.aj 3 rfl rfl Tryz.underlying105 rfl (by kernel_rfl)) rfl ?_;refine Dr.val Grow.refl rfl (fun w hG=>aa.ak rfl rfl Tryz.underlying68 rfl (k1.step hG) rfl) rfl ?_;refine Dr.val Grow.refl rfl (fun w hG=>aa.len rfl rfl Tryz.underlying68) rfl ?_;refine Dr.val Grow.refl rfl (fun w hG=>(aa.bT rfl rfl rfl).jv (by omega)) rfl ?_;refine Dr.val Grow.refl rfl (fun w hG=>aa.move rfl rfl) rfl ?_;refine Dr.av Grow.refl rfl (fun w hG=>aa.aj 1 rfl rfl Tryz.underlying105 rfl (by kernel_rfl)) rfl rfl rfl ?_;refine Dr.av Grow.refl rfl (fun w hG=>aa.ak rfl rfl Tryz.underlying2 rfl (k1.step hG) rfl) rfl rfl rfl ?_;refine Dr.av Grow.refl rfl (fun w hG=>(aa.bT rfl rfl rfl).lC (h2)) rfl rfl rfl ?_;refine Dr.av Grow.refl rfl (fun w hG=>aa.move rfl rfl) rfl rfl rfl ?_;refine Dr.av Grow.refl rfl (fun w hG=>aa.aj 0 rfl rfl Tryz.underlying105 rfl (by kernel_rfl)) rfl rfl rfl ?_;refine Dr.av Grow.refl rfl (fun w hG=>aa.ak rfl rfl Tryz.underlying3 rfl (k1.step hG) rfl) rfl rfl rfl ?_;refine Dr.av Grow.refl rfl (fun w hG=>(aa.bT rfl rfl rfl).jv (by omega)) rfl rfl rfl ?_;refine Dr.av Grow.refl rfl (fun w hG=>aa.cr rfl rfl rfl) rfl rfl rfl ?_;refine Dr.av Grow.refl rfl (fun w hG=>aa.move rfl rfl) rfl rfl rfl ?_;refine Dr.skip rfl rfl rfl rfl rfl ?_;refine Dr.skip rfl rfl rfl rfl rfl ?_;refine Dr.skip rfl rfl rfl rfl rfl ?_;refine Dr.av Grow.refl rfl (fun w hG=>aa.bD rfl rfl rfl) rfl rfl rfl ?_;refine Dr.val Grow.refl rfl (fun w hG=>aa.bD rfl rfl rfl) rfl ?_;refine Dr.val Grow.refl rfl (fun w hG=>aa.move rfl rfl) rfl ?_;refine Dr.av Grow.refl rfl (fun w hG=>aa.aj 2 rfl rfl Tryz.underlying105 rfl (by kernel_rfl)) rfl rfl rfl ?_;refine Dr.av Grow.refl rfl (fun w hG=>aa.ak rfl rfl Tryz.underlying9 rfl (k1.step hG) rfl) rfl rfl rfl ?_;refine Dr.av Grow.refl rfl (fun w hG=>(aa.kW (b:=[]) rfl rfl rfl HB1 HB2).lC (h5)) rfl rfl rfl ?_;refine Dr.av Grow.refl rfl (fun w hG=>aa.move rfl rfl) rfl rfl rfl ?_;refine Dr.av Grow.refl rfl (fun w hG=>aa.aj 0 rfl rfl Tryz.underlying105 rfl (by kernel_rfl)) rfl rfl rfl ?_;refine Dr.av Grow.refl rfl (fun w hG=>aa.ak rfl rfl Tryz.underlying3 rfl (k1.step hG) rfl) rfl rfl rfl ?_;refine Dr.av Grow.refl rfl (fun w hG=>(aa.bT rfl rfl rfl).jv (by omega)) rfl rfl rfl ?_;refine Dr.av Grow.refl rfl (fun w hG=>aa.cr rfl rfl rfl) rfl rfl rfl ?_;refine Dr.val Grow.refl rfl (fun w hG=>aa.bD rfl rfl rfl) rfl ?_;refine Dr.nil ?_;refine bH.done (F':=[(0,_),(1,_),(2,_),(34,_)]) rfl ⟨rfl,rfl,rfl,rfl,trivial⟩ ?_;intro w3 hw3 fw3;replace bel:=bel.step hw3;replace k1:=k1.step hw3;refine aS 0 1 2 34 (Zt ?_);refine Cd.aI rfl rfl ?_;refine Cd.skip ?_;exact ab.join () ⟨rfl,trivial⟩ ⟨⟨h1, .inr (.inl h3), .inr h6⟩,bel,k1⟩
      ·skip
       refine Cd.seq ?_;refine gm 32 ?_;intro w2 hw2 zw2;replace bel:=bel.step hw2;replace k1:=k1.step hw2;have zbel:=bel.size;have zlt:=k1.lt;refine Dr.val Grow.refl rfl (fun w hG=>aa.aj 0 rfl rfl Tryz.underlying105 rfl (by kernel_rfl)) rfl ?_;refine Dr.val Grow.refl rfl (fun w hG=>aa.ak rfl rfl Tryz.underlying3 rfl (k1.step hG) rfl) rfl ?_;refine Dr.cu rfl (fun w=>Ze Tryz.func214) rfl (fun w hG=>cJ op w) ?_;refine Dr.val Grow.refl rfl (fun w hG=>aa.aj 3 rfl rfl Tryz.underlying105 rfl (by kernel_rfl)) rfl ?_;refine Dr.val Grow.refl rfl (fun w hG=>aa.ak rfl rfl Tryz.underlying68 rfl (k1.step hG) rfl) rfl ?_;refine Dr.val Grow.refl rfl (fun w hG=>aa.len rfl rfl Tryz.underlying68) rfl ?_;refine Dr.val Grow.refl rfl (fun w hG=>(aa.bT rfl rfl rfl).jv (by omega)) rfl ?_;refine Dr.val Grow.refl rfl (fun w hG=>aa.move rfl rfl) rfl ?_;refine Dr.av Grow.refl rfl (fun w hG=>aa.aj 1 rfl rfl Tryz.underlying105 rfl (by kernel_rfl)) rfl rfl rfl ?_;refine Dr.av Grow.refl rfl (fun w hG=>aa.ak rfl rfl Tryz.underlying2 rfl (k1.step hG) rfl) rfl rfl rfl ?_;refine Dr.av Grow.refl rfl (fun w hG=>(aa.bT rfl rfl rfl).lC (h2)) rfl rfl rfl ?_;refine Dr.av Grow.refl rfl (fun w hG=>aa.move rfl rfl) rfl rfl rfl ?_;refine Dr.av Grow.refl rfl (fun w hG=>aa.aj 0 rfl rfl Tryz.underlying105 rfl (by kernel_rfl)) rfl rfl rfl ?_;refine Dr.av Grow.refl rfl (fun w hG=>aa.ak rfl rfl Tryz.underlying3 rfl (k1.step hG) rfl) rfl rfl rfl ?_;refine Dr.av Grow.refl rfl (fun w hG=>(aa.bT rfl rfl rfl).jv (by omega)) rfl rfl rfl ?_;refine Dr.av Grow.refl rfl (fun w hG=>aa.cr rfl rfl rfl) rfl rfl rfl ?_;refine Dr.av Grow.refl rfl (fun w hG=>aa.move rfl rfl) rfl rfl rfl ?_;refine Dr.skip rfl rfl rfl rfl rfl ?_;refine Dr.skip rfl rfl rfl rfl rfl ?_;refine Dr.skip rfl rfl rfl rfl rfl ?_;refine Dr.av Grow.refl rfl (fun w hG=>aa.bD rfl rfl rfl) rfl rfl rfl ?_;refine Dr.val Grow.refl rfl (fun w hG=>aa.bD rfl rfl rfl) rfl ?_;refine Dr.val Grow.refl rfl (fun w hG=>aa.move rfl rfl) rfl ?_;refine Dr.av Grow.refl rfl (fun w hG=>aa.aj 2 rfl rfl Tryz.underlying105 rfl (by kernel_rfl)) rfl rfl rfl ?_;refine Dr.av Grow.refl rfl (fun w hG=>aa.ak rfl rfl Tryz.underlying9 rfl (k1.step hG) rfl) rfl rfl rfl ?_;refine Dr.av Grow.refl rfl (fun w hG=>(aa.kW (b:=[]) rfl rfl rfl HB1 HB2).lC (h5)) rfl rfl rfl ?_;refine Dr.av Grow.refl rfl (fun w hG=>aa.move rfl rfl) rfl rfl rfl ?_;refine Dr.av Grow.refl rfl (fun w hG=>aa.aj 0 rfl rfl Tryz.underlying105 rfl (by kernel_rfl)) rfl rfl rfl ?_;refine Dr.av Grow.refl rfl (fun w hG=>aa.ak rfl rfl Tryz.underlying3 rfl (k1.step hG) rfl) rfl rfl rfl ?_;refine Dr.av Grow.refl rfl (fun w hG=>(aa.bT rfl rfl rfl).lC (h6)) rfl rfl rfl ?_;refine Dr.av Grow.refl rfl (fun w hG=>aa.cr rfl rfl rfl) rfl rfl rfl ?_;refine Dr.val Grow.refl rfl (fun w hG=>aa.bD rfl rfl rfl) rfl ?_;refine Dr.nil ?_;refine bH.done (F':=[(0,_),(1,_),(2,_),(34,_)]) rfl ⟨rfl,rfl,rfl,rfl,trivial⟩ ?_;intro w3 hw3 fw3;replace bel:=bel.step hw3;replace k1:=k1.step hw3;refine aS 0 1 2 34 (Zt ?_);refine Cd.aM rfl rfl ?_;refine ah ?_;refine Za ?_;refine aS 0 1 2 34 (Zt (Cd.ret (ab.ae ?_)));refine aP ?_;rw[hbf (by rintro⟨-,-,h,-⟩;rcases h with h|h;exact h5 h;exact h6 h)];exact⟨rfl,bel⟩
    ·by_cases h4:op=2
     ·skip
      by_cases h5:nm=[]
      ·skip
       refine Cd.seq ?_;refine gm 32 ?_;intro w2 hw2 zw2;replace bel:=bel.step hw2;replace k1:=k1.step hw2;have zbel:=bel.size;have zlt:=k1.lt;refine Dr.val Grow.refl rfl (fun w hG=>aa.aj 0 rfl rfl Tryz.underlying105 rfl (by kernel_rfl)) rfl ?_;refine Dr.val Grow.refl rfl (fun w hG=>aa.ak rfl rfl Tryz.underlying3 rfl (k1.step hG) rfl) rfl ?_;refine Dr.cu rfl (fun w=>Ze Tryz.func214) rfl (fun w hG=>cJ op w) ?_;refine Dr.val Grow.refl rfl (fun w hG=>aa.aj 3 rfl rfl Tryz.underlying105 rfl (by kernel_rfl)) rfl ?_;refine Dr.val Grow.refl rfl (fun w hG=>aa.ak rfl rfl Tryz.underlying68 rfl (k1.step hG) rfl) rfl ?_;refine Dr.val Grow.refl rfl (fun w hG=>aa.len rfl rfl Tryz.underlying68) rfl ?_;refine Dr.val Grow.refl rfl (fun w hG=>(aa.bT rfl rfl rfl).jv (by omega)) rfl ?_;refine Dr.val Grow.refl rfl (fun w hG=>aa.move rfl rfl) rfl ?_;refine Dr.av Grow.refl rfl (fun w hG=>aa.aj 1 rfl rfl Tryz.underlying105 rfl (by kernel_rfl)) rfl rfl rfl ?_;refine Dr.av Grow.refl rfl (fun w hG=>aa.ak rfl rfl Tryz.underlying2 rfl (k1.step hG) rfl) rfl rfl rfl ?_;refine Dr.av Grow.refl rfl (fun w hG=>(aa.bT rfl rfl rfl).lC (h2)) rfl rfl rfl ?_;refine Dr.av Grow.refl rfl (fun w hG=>aa.move rfl rfl) rfl rfl rfl ?_;refine Dr.av Grow.refl rfl (fun w hG=>aa.aj 0 rfl rfl Tryz.underlying105 rfl (by kernel_rfl)) rfl rfl rfl ?_;refine Dr.av Grow.refl rfl (fun w hG=>aa.ak rfl rfl Tryz.underlying3 rfl (k1.step hG) rfl) rfl rfl rfl ?_;refine Dr.av Grow.refl rfl (fun w hG=>(aa.bT rfl rfl rfl).lC (h3)) rfl rfl rfl ?_;refine Dr.av Grow.refl rfl (fun w hG=>aa.cr rfl rfl rfl) rfl rfl rfl ?_;refine Dr.av Grow.refl rfl (fun w hG=>aa.move rfl rfl) rfl rfl rfl ?_;refine Dr.av Grow.refl rfl (fun w hG=>aa.aj 0 rfl rfl Tryz.underlying105 rfl (by kernel_rfl)) rfl rfl rfl ?_;refine Dr.av Grow.refl rfl (fun w hG=>aa.ak rfl rfl Tryz.underlying3 rfl (k1.step hG) rfl) rfl rfl rfl ?_;refine Dr.av Grow.refl rfl (fun w hG=>(aa.bT rfl rfl rfl).jv (by omega)) rfl rfl rfl ?_;refine Dr.av Grow.refl rfl (fun w hG=>aa.cr rfl rfl rfl) rfl rfl rfl ?_;refine Dr.val Grow.refl rfl (fun w hG=>aa.bD rfl rfl rfl) rfl ?_;refine Dr.val Grow.refl rfl (fun w hG=>aa.move rfl rfl) rfl ?_;refine Dr.av Grow.refl rfl (fun w hG=>aa.aj 2 rfl rfl Tryz.underlying105 rfl (by kernel_rfl)) rfl rfl rfl ?_;refine Dr.av Grow.refl rfl (fun w hG=>aa.ak rfl rfl Tryz.underlying9 rfl (k1.step hG) rfl) rfl rfl rfl ?_;refine Dr.av Grow.refl rfl (fun w hG=>(aa.kW (b:=[]) rfl rfl rfl HB1 HB2).jv (by simp[h5])) rfl rfl rfl ?_;refine Dr.av Grow.refl rfl (fun w hG=>aa.move rfl rfl) rfl rfl rfl ?_;refine Dr.skip rfl rfl rfl rfl rfl ?_;refine Dr.skip rfl rfl rfl rfl rfl ?_;refine Dr.skip rfl rfl rfl rfl rfl ?_;refine Dr.av Grow.refl rfl (fun w hG=>aa.bD rfl rfl rfl) rfl rfl rfl ?_;refine Dr.val Grow.refl rfl (fun w hG=>aa.bD rfl rfl rfl) rfl ?_;refine Dr.nil ?_;refine bH.done (F':=[(0,_),(1,_),(2,_),(34,_)]) rfl ⟨rfl,rfl,rfl,rfl,trivial⟩ ?_;intro w3 hw3 fw3;replace bel:=bel.step hw3;replace k1:=k1.step hw3;refine aS 0 1 2 34 (Zt ?_);refine Cd.aI rfl rfl ?_;refine Cd.skip ?_;exact ab.join () ⟨rfl,trivial⟩ ⟨⟨h1, .inr (.inr h4), .inl h5⟩,bel,k1⟩
      ·by_cases h6:op=3
       ·skip
        refine Cd.seq ?_;refine gm 32 ?_;intro w2 hw2 zw2;replace bel:=bel.step hw2;replace k1:=k1.step hw2;have zbel:=bel.size;have zlt:=k1.lt;refine Dr.val Grow.refl rfl (fun w hG=>aa.aj 0 rfl rfl Tryz.underlying105 rfl (by kernel_rfl)) rfl ?_;refine Dr.val Grow.refl rfl (fun w hG=>aa.ak rfl rfl Tryz.underlying3 rfl (k1.step hG) rfl) rfl ?_;refine Dr.cu rfl (fun w=>Ze Tryz.func214) rfl (fun w hG=>cJ op w) ?_;refine Dr.val Grow.refl rfl (fun w hG=>aa.aj 3 rfl rfl Tryz.underlying105 rfl (by kernel_rfl)) rfl ?_;refine Dr.val Grow.refl rfl (fun w hG=>aa.ak rfl rfl Tryz.underlying68 rfl (k1.step hG) rfl) rfl ?_;refine Dr.val Grow.refl rfl (fun w hG=>aa.len rfl rfl Tryz.underlying68) rfl ?_;refine Dr.val Grow.refl rfl (fun w hG=>(aa.bT rfl rfl rfl).jv (by omega)) rfl ?_;refine Dr.val Grow.refl rfl (fun w hG=>aa.move rfl rfl) rfl ?_;refine Dr.av Grow.refl rfl (fun w hG=>aa.aj 1 rfl rfl Tryz.underlying105 rfl (by kernel_rfl)) rfl rfl rfl ?_;refine Dr.av Grow.refl rfl (fun w hG=>aa.ak rfl rfl Tryz.underlying2 rfl (k1.step hG) rfl) rfl rfl rfl ?_;refine Dr.av Grow.refl rfl (fun w hG=>(aa.bT rfl rfl rfl).lC (h2)) rfl rfl rfl ?_;refine Dr.av Grow.refl rfl (fun w hG=>aa.move rfl rfl) rfl rfl rfl ?_;refine Dr.av Grow.refl rfl (fun w hG=>aa.aj 0 rfl rfl Tryz.underlying105 rfl (by kernel_rfl)) rfl rfl rfl ?_;refine Dr.av Grow.refl rfl (fun w hG=>aa.ak rfl rfl Tryz.underlying3 rfl (k1.step hG) rfl) rfl rfl rfl ?_;refine Dr.av Grow.refl rfl (fun w hG=>(aa.bT rfl rfl rfl).lC (h3)) rfl rfl rfl ?_;refine Dr.av Grow.refl rfl (fun w hG=>aa.cr rfl rfl rfl) rfl rfl rfl ?_;refine Dr.av Grow.refl rfl (fun w hG=>aa.move rfl rfl) rfl rfl rfl ?_;refine Dr.av Grow.refl rfl (fun w hG=>aa.aj 0 rfl rfl Tryz.underlying105 rfl (by kernel_rfl)) rfl rfl rfl ?_;refine Dr.av Grow.refl rfl (fun w hG=>aa.ak rfl rfl Tryz.underlying3 rfl (k1.step hG) rfl) rfl rfl rfl ?_;refine Dr.av Grow.refl rfl (fun w hG=>(aa.bT rfl rfl rfl).jv (by omega)) rfl rfl rfl ?_;refine Dr.av Grow.refl rfl (fun w hG=>aa.cr rfl rfl rfl) rfl rfl rfl ?_;refine Dr.val Grow.refl rfl (fun w hG=>aa.bD rfl rfl rfl) rfl ?_;refine Dr.val Grow.refl rfl (fun w hG=>aa.move rfl rfl) rfl ?_;refine Dr.av Grow.refl rfl (fun w hG=>aa.aj 2 rfl rfl Tryz.underlying105 rfl (by kernel_rfl)) rfl rfl rfl ?_;refine Dr.av Grow.refl rfl (fun w hG=>aa.ak rfl rfl Tryz.underlying9 rfl (k1.step hG) rfl) rfl rfl rfl ?_;refine Dr.av Grow.refl rfl (fun w hG=>(aa.kW (b:=[]) rfl rfl rfl HB1 HB2).lC (h5)) rfl rfl rfl ?_;refine Dr.av Grow.refl rfl (fun w hG=>aa.move rfl rfl) rfl rfl rfl ?_;refine Dr.av Grow.refl rfl (fun w hG=>aa.aj 0 rfl rfl Tryz.underlying105 rfl (by kernel_rfl)) rfl rfl rfl ?_;refine Dr.av Grow.refl rfl (fun w hG=>aa.ak rfl rfl Tryz.underlying3 rfl (k1.step hG) rfl) rfl rfl rfl ?_;refine Dr.av Grow.refl rfl (fun w hG=>(aa.bT rfl rfl rfl).jv (by omega)) rfl rfl rfl ?_;refine Dr.av Grow.refl rfl (fun w hG=>aa.cr rfl rfl rfl) rfl rfl rfl ?_;refine Dr.val Grow.refl rfl (fun w hG=>aa.bD rfl rfl rfl) rfl ?_;refine Dr.nil ?_;refine bH.done (F':=[(0,_),(1,_),(2,_),(34,_)]) rfl ⟨rfl,rfl,rfl,rfl,trivial⟩ ?_;intro w3 hw3 fw3;replace bel:=bel.step hw3;replace k1:=k1.step hw3;refine aS 0 1 2 34 (Zt ?_);refine Cd.aI rfl rfl ?_;refine Cd.skip ?_;exact ab.join () ⟨rfl,trivial⟩ ⟨⟨h1, .inr (.inr h4), .inr h6⟩,bel,k1⟩
       ·skip
        refine Cd.seq ?_;refine gm 32 ?_;intro w2 hw2 zw2;replace bel:=bel.step hw2;replace k1:=k1.step hw2;have zbel:=bel.size;have zlt:=k1.lt;refine Dr.val Grow.refl rfl (fun w hG=>aa.aj 0 rfl rfl Tryz.underlying105 rfl (by kernel_rfl)) rfl ?_;refine Dr.val Grow.refl rfl (fun w hG=>aa.ak rfl rfl Tryz.underlying3 rfl (k1.step hG) rfl) rfl ?_;refine Dr.cu rfl (fun w=>Ze Tryz.func214) rfl (fun w hG=>cJ op w) ?_;refine Dr.val Grow.refl rfl (fun w hG=>aa.aj 3 rfl rfl Tryz.underlying105 rfl (by kernel_rfl)) rfl ?_;refine Dr.val Grow.refl rfl (fun w hG=>aa.ak rfl rfl Tryz.underlying68 rfl (k1.step hG) rfl) rfl ?_;refine Dr.val Grow.refl rfl (fun w hG=>aa.len rfl rfl Tryz.underlying68) rfl ?_;refine Dr.val Grow.refl rfl (fun w hG=>(aa.bT rfl rfl rfl).jv (by omega)) rfl ?_;refine Dr.val Grow.refl rfl (fun w hG=>aa.move rfl rfl) rfl ?_;refine Dr.av Grow.refl rfl (fun w hG=>aa.aj 1 rfl rfl Tryz.underlying105 rfl (by kernel_rfl)) rfl rfl rfl ?_;refine Dr.av Grow.refl rfl (fun w hG=>aa.ak rfl rfl Tryz.underlying2 rfl (k1.step hG) rfl) rfl rfl rfl ?_;refine Dr.av Grow.refl rfl (fun w hG=>(aa.bT rfl rfl rfl).lC (h2)) rfl rfl rfl ?_;refine Dr.av Grow.refl rfl (fun w hG=>aa.move rfl rfl) rfl rfl rfl ?_;refine Dr.av Grow.refl rfl (fun w hG=>aa.aj 0 rfl rfl Tryz.underlying105 rfl (by kernel_rfl)) rfl rfl rfl ?_;refine Dr.av Grow.refl rfl (fun w hG=>aa.ak rfl rfl Tryz.underlying3 rfl (k1.step hG) rfl) rfl rfl rfl ?_;refine Dr.av Grow.refl rfl (fun w hG=>(aa.bT rfl rfl rfl).lC (h3)) rfl rfl rfl ?_;refine Dr.av Grow.refl rfl (fun w hG=>aa.cr rfl rfl rfl) rfl rfl rfl ?_;refine Dr.av Grow.refl rfl (fun w hG=>aa.move rfl rfl) rfl rfl rfl ?_;refine Dr.av Grow.refl rfl (fun w hG=>aa.aj 0 rfl rfl Tryz.underlying105 rfl (by kernel_rfl)) rfl rfl rfl ?_;refine Dr.av Grow.refl rfl (fun w hG=>aa.ak rfl rfl Tryz.underlying3 rfl (k1.step hG) rfl) rfl rfl rfl ?_;refine Dr.av Grow.refl rfl (fun w hG=>(aa.bT rfl rfl rfl).jv (by omega)) rfl rfl rfl ?_;refine Dr.av Grow.refl rfl (fun w hG=>aa.cr rfl rfl rfl) rfl rfl rfl ?_;refine Dr.val Grow.refl rfl (fun w hG=>aa.bD rfl rfl rfl) rfl ?_;refine Dr.val Grow.refl rfl (fun w hG=>aa.move rfl rfl) rfl ?_;refine Dr.av Grow.refl rfl (fun w hG=>aa.aj 2 rfl rfl Tryz.underlying105 rfl (by kernel_rfl)) rfl rfl rfl ?_;refine Dr.av Grow.refl rfl (fun w hG=>aa.ak rfl rfl Tryz.underlying9 rfl (k1.step hG) rfl) rfl rfl rfl ?_;refine Dr.av Grow.refl rfl (fun w hG=>(aa.kW (b:=[]) rfl rfl rfl HB1 HB2).lC (h5)) rfl rfl rfl ?_;refine Dr.av Grow.refl rfl (fun w hG=>aa.move rfl rfl) rfl rfl rfl ?_;refine Dr.av Grow.refl rfl (fun w hG=>aa.aj 0 rfl rfl Tryz.underlying105 rfl (by kernel_rfl)) rfl rfl rfl ?_;refine Dr.av Grow.refl rfl (fun w hG=>aa.ak rfl rfl Tryz.underlying3 rfl (k1.step hG) rfl) rfl rfl rfl ?_;refine Dr.av Grow.refl rfl (fun w hG=>(aa.bT rfl rfl rfl).lC (h6)) rfl rfl rfl ?_;refine Dr.av Grow.refl rfl (fun w hG=>aa.cr rfl rfl rfl) rfl rfl rfl ?_;refine Dr.val Grow.refl rfl (fun w hG=>aa.bD rfl rfl rfl) rfl ?_;refine Dr.nil ?_;refine bH.done (F':=[(0,_),(1,_),(2,_),(34,_)]) rfl ⟨rfl,rfl,rfl,rfl,trivial⟩ ?_;intro w3 hw3 fw3;replace bel:=bel.step hw3;replace k1:=k1.step hw3;refine aS 0 1 2 34 (Zt ?_);refine Cd.aM rfl rfl ?_;refine ah ?_;refine Za ?_;refine aS 0 1 2 34 (Zt (Cd.ret (ab.ae ?_)));refine aP ?_;rw[hbf (by rintro⟨-,-,h,-⟩;rcases h with h|h;exact h5 h;exact h6 h)];exact⟨rfl,bel⟩
     ·skip
      refine Cd.seq ?_;refine gm 32 ?_;intro w2 hw2 zw2;replace bel:=bel.step hw2;replace k1:=k1.step hw2;have zbel:=bel.size;have zlt:=k1.lt;refine Dr.val Grow.refl rfl (fun w hG=>aa.aj 0 rfl rfl Tryz.underlying105 rfl (by kernel_rfl)) rfl ?_;refine Dr.val Grow.refl rfl (fun w hG=>aa.ak rfl rfl Tryz.underlying3 rfl (k1.step hG) rfl) rfl ?_;refine Dr.cu rfl (fun w=>Ze Tryz.func214) rfl (fun w hG=>cJ op w) ?_;refine Dr.val Grow.refl rfl (fun w hG=>aa.aj 3 rfl rfl Tryz.underlying105 rfl (by kernel_rfl)) rfl ?_;refine Dr.val Grow.refl rfl (fun w hG=>aa.ak rfl rfl Tryz.underlying68 rfl (k1.step hG) rfl) rfl ?_;refine Dr.val Grow.refl rfl (fun w hG=>aa.len rfl rfl Tryz.underlying68) rfl ?_;refine Dr.val Grow.refl rfl (fun w hG=>(aa.bT rfl rfl rfl).jv (by omega)) rfl ?_;refine Dr.val Grow.refl rfl (fun w hG=>aa.move rfl rfl) rfl ?_;refine Dr.av Grow.refl rfl (fun w hG=>aa.aj 1 rfl rfl Tryz.underlying105 rfl (by kernel_rfl)) rfl rfl rfl ?_;refine Dr.av Grow.refl rfl (fun w hG=>aa.ak rfl rfl Tryz.underlying2 rfl (k1.step hG) rfl) rfl rfl rfl ?_;refine Dr.av Grow.refl rfl (fun w hG=>(aa.bT rfl rfl rfl).lC (h2)) rfl rfl rfl ?_;refine Dr.av Grow.refl rfl (fun w hG=>aa.move rfl rfl) rfl rfl rfl ?_;refine Dr.av Grow.refl rfl (fun w hG=>aa.aj 0 rfl rfl Tryz.underlying105 rfl (by kernel_rfl)) rfl rfl rfl ?_;refine Dr.av Grow.refl rfl (fun w hG=>aa.ak rfl rfl Tryz.underlying3 rfl (k1.step hG) rfl) rfl rfl rfl ?_;refine Dr.av Grow.refl rfl (fun w hG=>(aa.bT rfl rfl rfl).lC (h3)) rfl rfl rfl ?_;refine Dr.av Grow.refl rfl (fun w hG=>aa.cr rfl rfl rfl) rfl rfl rfl ?_;refine Dr.av Grow.refl rfl (fun w hG=>aa.move rfl rfl) rfl rfl rfl ?_;refine Dr.av Grow.refl rfl (fun w hG=>aa.aj 0 rfl rfl Tryz.underlying105 rfl (by kernel_rfl)) rfl rfl rfl ?_;refine Dr.av Grow.refl rfl (fun w hG=>aa.ak rfl rfl Tryz.underlying3 rfl (k1.step hG) rfl) rfl rfl rfl ?_;refine Dr.av Grow.refl rfl (fun w hG=>(aa.bT rfl rfl rfl).lC (h4)) rfl rfl rfl ?_;refine Dr.av Grow.refl rfl (fun w hG=>aa.cr rfl rfl rfl) rfl rfl rfl ?_;refine Dr.val Grow.refl rfl (fun w hG=>aa.bD rfl rfl rfl) rfl ?_;refine Dr.val Grow.refl rfl (fun w hG=>aa.move rfl rfl) rfl ?_;refine Dr.skip rfl rfl rfl rfl rfl ?_;refine Dr.skip rfl rfl rfl rfl rfl ?_;refine Dr.skip rfl rfl rfl rfl rfl ?_;refine Dr.skip rfl rfl rfl rfl rfl ?_;refine Dr.iA rfl rfl rfl rfl ?_;refine Dr.iA rfl rfl rfl rfl ?_;refine Dr.iA rfl rfl rfl rfl ?_;refine Dr.skip rfl rfl rfl rfl rfl ?_;refine Dr.val Grow.refl rfl (fun w hG=>aa.cr rfl rfl rfl) rfl ?_;refine Dr.nil ?_;refine bH.done (F':=[(0,_),(1,_),(2,_),(34,_)]) rfl ⟨rfl,rfl,rfl,rfl,trivial⟩ ?_;intro w3 hw3 fw3;replace bel:=bel.step hw3;replace k1:=k1.step hw3;refine aS 0 1 2 34 (Zt ?_);refine Cd.aM rfl rfl ?_;refine ah ?_;refine Za ?_;refine aS 0 1 2 34 (Zt (Cd.ret (ab.ae ?_)));refine aP ?_;rw[hbf (by rintro⟨-,h,-⟩;omega)];exact⟨rfl,bel⟩
  ·skip
   refine Cd.seq ?_;refine gm 32 ?_;intro w2 hw2 zw2;replace bel:=bel.step hw2;replace k1:=k1.step hw2;have zbel:=bel.size;have zlt:=k1.lt;refine Dr.val Grow.refl rfl (fun w hG=>aa.aj 0 rfl rfl Tryz.underlying105 rfl (by kernel_rfl)) rfl ?_;refine Dr.val Grow.refl rfl (fun w hG=>aa.ak rfl rfl Tryz.underlying3 rfl (k1.step hG) rfl) rfl ?_;refine Dr.cu rfl (fun w=>Ze Tryz.func214) rfl (fun w hG=>cJ op w) ?_;refine Dr.val Grow.refl rfl (fun w hG=>aa.aj 3 rfl rfl Tryz.underlying105 rfl (by kernel_rfl)) rfl ?_;refine Dr.val Grow.refl rfl (fun w hG=>aa.ak rfl rfl Tryz.underlying68 rfl (k1.step hG) rfl) rfl ?_;refine Dr.val Grow.refl rfl (fun w hG=>aa.len rfl rfl Tryz.underlying68) rfl ?_;refine Dr.val Grow.refl rfl (fun w hG=>(aa.bT rfl rfl rfl).lC (h1)) rfl ?_;refine Dr.val Grow.refl rfl (fun w hG=>aa.move rfl rfl) rfl ?_;refine Dr.skip rfl rfl rfl rfl rfl ?_;refine Dr.skip rfl rfl rfl rfl rfl ?_;refine Dr.skip rfl rfl rfl rfl rfl ?_;refine Dr.skip rfl rfl rfl rfl rfl ?_;refine Dr.iA rfl rfl rfl rfl ?_;refine Dr.iA rfl rfl rfl rfl ?_;refine Dr.iA rfl rfl rfl rfl ?_;refine Dr.skip rfl rfl rfl rfl rfl ?_;refine Dr.skip rfl rfl rfl rfl rfl ?_;refine Dr.iA rfl rfl rfl rfl ?_;refine Dr.iA rfl rfl rfl rfl ?_;refine Dr.iA rfl rfl rfl rfl ?_;refine Dr.skip rfl rfl rfl rfl rfl ?_;refine Dr.val Grow.refl rfl (fun w hG=>aa.cr rfl rfl rfl) rfl ?_;refine Dr.val Grow.refl rfl (fun w hG=>aa.move rfl rfl) rfl ?_;refine Dr.skip rfl rfl rfl rfl rfl ?_;refine Dr.skip rfl rfl rfl rfl rfl ?_;refine Dr.skip rfl rfl rfl rfl rfl ?_;refine Dr.skip rfl rfl rfl rfl rfl ?_;refine Dr.iA rfl rfl rfl rfl ?_;refine Dr.iA rfl rfl rfl rfl ?_;refine Dr.iA rfl rfl rfl rfl ?_;refine Dr.skip rfl rfl rfl rfl rfl ?_;refine Dr.val Grow.refl rfl (fun w hG=>aa.cr rfl rfl rfl) rfl ?_;refine Dr.nil ?_;refine bH.done (F':=[(0,_),(1,_),(2,_),(34,_)]) rfl ⟨rfl,rfl,rfl,rfl,trivial⟩ ?_;intro w3 hw3 fw3;replace bel:=bel.step hw3;replace k1:=k1.step hw3;refine aS 0 1 2 34 (Zt ?_);refine Cd.aM rfl rfl ?_;refine ah ?_;refine Za ?_;refine aS 0 1 2 34 (Zt (Cd.ret (ab.ae ?_)));refine aP ?_;rw[hbf (by rintro⟨h,-⟩;exact h1 h)];exact⟨rfl,bel⟩
 clear bel k1;rintro⟨⟩ wr ⟨⟨a1,a2,a3⟩,bel,k1⟩;refine Cd.seq (Cd.block (Cd.seq (ah ?_)));refine Zf 1 Tryz.underlying105 ?_;refine ZL Tryz.underlying2 k1 ?_;refine eU ?_;refine Za ?_;refine cZ 1 35 (Zt ?_);refine Cd.ao rfl (fun hc=> ?_) (fun hc=> ?_)
 ·skip
  refine Cd.skip (Zt ?_);refine Cd.aM rfl (decide_eq_true (by assumption)) ?_;refine ah ?_;refine Za ?_;refine bk 1 2 35 (Zt (Cd.ret (ab.af (ab.ae ?_))));refine aP ?_;rw[hbf (by omega)];exact⟨rfl,bel⟩
 ·skip
  refine ah ?_;refine Zf 0 Tryz.underlying105 ?_;refine ZL Tryz.underlying3 k1 ?_;refine aX ?_;refine Zm ?_;refine ar.start ?_;refine bB (fun hcx=>aa.aj 1 rfl rfl Tryz.underlying105 rfl (by kernel_rfl)) ?_;refine Zn (fun hcx=>aa.ak rfl rfl Tryz.underlying2 rfl k1 rfl) ?_;refine Zn (fun hcx=>aa.gtr rfl rfl rfl) ?_;refine dL ?_;refine Za ?_;refine cZ 1 35 (Zt ?_);refine Cd.cond rfl (fun h=> ?_) (fun h=> ?_)
  ·skip
   refine Cd.skip (Zt ?_);refine Cd.aM rfl h ?_;refine ah ?_;refine Za ?_;refine bk 1 2 35 (Zt (Cd.ret (ab.af (ab.ae ?_))));refine aP ?_;simp at h;rw[hbf (by omega)];exact⟨rfl,bel⟩
  ·simp at h
   refine Zr ?_;refine Zf 0 Tryz.underlying105 ?_;refine ZL Tryz.underlying3 k1 ?_;refine aX ?_;refine Zm ?_;refine ar.start ?_;refine bB (fun hcx=>aa.aj 2 rfl rfl Tryz.underlying105 rfl (by kernel_rfl)) ?_;refine Zn (fun hcx=>aa.ak rfl rfl Tryz.underlying9 rfl k1 rfl) ?_;refine ar.aW rfl rfl rfl rfl rfl rfl rfl (fun hcx=>Ze Tryz.func188) (fun hcx=>rA nm _ HB1 hnl) ?_;intro w2 hw2;replace bel:=bel.step hw2;replace k1:=k1.step hw2;refine Zn (fun hcx=>aa.not rfl rfl) ?_;refine dL ?_;refine Za ?_;refine cZ 1 35 (Zt ?_);refine Cd.cond rfl (fun h2=> ?_) (fun h2=> ?_)
   ·skip
    refine ah ?_;refine Za ?_;refine bk 1 2 35 (Zt (Cd.ret (ab.af (ab.ae ?_))));refine aP ?_;simp at h2;rw[hbf (by rintro⟨-,-,-,-,-,h7⟩;rw[h7 h2.1] at h2;cases h2.2)];exact⟨rfl,bel⟩
   ·have hh:=sQ a1 a2 a3 (by omega) (by omega) (fun h3=>by simp at h2;exact h2 h3)
    refine Cd.skip (ab.ag (az ?_));refine Zf 3 Tryz.underlying105 ?_;refine ZL Tryz.underlying68 k1 ?_;refine Zc (Ze Tryz.func107) (hcl _ bel) ?_;rintro en w9 ⟨rfl,hb9⟩;refine⟨_,rfl,?_⟩;replace bel:=bel.step hb9;replace k1:=k1.step hb9;refine gU ?_;refine Za ?_;refine bk 1 2 35 (Zt (Cd.ret ?_));refine aP ?_;refine⟨aO (aB ?_),bel⟩;rw[hbt,hh,Bool.true_and]
    induction e.args with
    |nil=>rfl
    |cons x r ih=>simp only[List.any_cons,List.all_cons,Bool.not_or,Bool.not_not,ih]
theorem jI (e:Ex)(B:Nat)(v:Value)(w:World)(hd:e.depth≤900)(hrep:jQ w B e v)(hB:B≤w.heap.size):Calls Tryz.prog 136 #[v] w fun en w'=>en= .returned (.bool (decide (e.nodes≤200)&&decide (e.depth≤16)&&bQ e))∧Grow w w':=by
 have hs:=fun W (hb:Below w.heap.size w W)=>qA e.nodes e 0 B v W (Nat.le_refl _) (by omega) (hrep.below (hb.mono hB)) (Nat.le_trans hB hb.size);have hbt:=fun W (hb:Below w.heap.size w W)=>gn e.nodes e B v W (Nat.le_refl _) (hrep.below (hb.mono hB)) (Nat.le_trans hB hb.size);have hc:=mB e;have hdn:=e.bm;have hsz:=nI e
 have hres:(decide (e.nodes≤200)&&decide (e.depth≤16))=(decide ((rj e).1≤200)&&decide ((rj e).2≤16)):=by
  obtain⟨c1,c2⟩:=hc;rw[Bool.eq_iff_iff];simp only[Bool.and_eq_true,decide_eq_true_eq]
  constructor
  ·rintro⟨h1,h2⟩
   rw[c2 (by omega)];omega
  ·rintro⟨h1,h2⟩
   have h3:e.nodes≤200:=by omega
   rw[c2 (by omega)] at h2;omega
 rw[hres];obtain⟨A,c,rfl,-⟩:=hrep.open;have bel:=Below.refl w.heap.size w
 generalize (rj e)=s at *
 refine Zs 10 Tryz.func136 ?_;refine ah ?_;refine Seq.box rfl rfl rfl rfl rfl ?_;intro g1 w1 n1;have e1:=Nat.le_trans bel.size n1.ge;replace bel:=bel.step n1.below;have k1:=n1.an;refine Za ?_;refine bk 0 1 2 (az ?_);refine ZW 4 Tryz.underlying105 k1 ?_;refine Zc (Ze Tryz.func179) (hs _ bel) ?_;rintro en w5 ⟨rfl,hb5⟩;refine⟨_,rfl,?_⟩;replace bel:=bel.step hb5;replace k1:=k1.step hb5;refine Zc (Ze Tryz.func141) (fZ s.1 s.2 _) ?_;rintro en w6 ⟨rfl,hb6⟩;refine⟨_,rfl,?_⟩;replace bel:=bel.step hb6;replace k1:=k1.step hb6;refine Zm ?_;refine ar.start ?_;refine bB (fun hcx=>aa.dx rfl rfl Tryz.underlying105 rfl k1 (m:=4) (by kernel_rfl) rfl) ?_;refine ar.aW rfl rfl rfl rfl rfl rfl rfl (fun hcx=>Ze Tryz.func180) (fun hcx=>hbt _ bel) ?_;intro w2 hw2;replace bel:=bel.step hw2;replace k1:=k1.step hw2;refine dL ?_;refine Za ?_;refine bk 0 1 2 (Zt (Cd.ret ?_));refine aP ?_;exact⟨aO (aB (by cases (decide (s.1≤200)&&decide (s.2≤16))<;>rfl)),bel⟩
def jO (y:Int):Bool:=decide (y%4=0)&&(decide (y%100≠0)||decide (y%400=0))
def bE (y m:Int):Int:=if m=2 then(if jO y then 29 else 28) else if m=4∨m=6∨m=9∨m=11 then 30 else if m=1∨m=3∨m=5∨m=7∨m=8∨m=10∨m=12 then 31 else 0
theorem wk (y:Int)(w:World)(h0:0≤y):Calls Tryz.prog 256 #[.int .i64 y] w fun e w'=>e= .returned (.bool (jO y))∧w=w':=by
 refine Zs 16 Tryz.func256 ?_;refine ah ?_;refine Za ?_;refine cZ 0 2 (az ?_);refine Zm ?_;refine Zv (aa.ou rfl rfl rfl (by omega) (by omega)) ?_;refine aX ?_;refine Zm ?_;refine ar.start ?_;refine bB (fun hcx=>aa.move rfl rfl) ?_;refine Zn (fun hcx=>aa.ou rfl rfl rfl (by omega) (by omega)) ?_;refine Zn (fun hcx=>aa.bT rfl rfl rfl) ?_;refine jL ?_;refine bB (fun hcx=>aa.move rfl rfl) ?_;refine Zn (fun hcx=>aa.ou rfl rfl rfl (by omega) (by omega)) ?_;refine Zn (fun hcx=>aa.fK rfl rfl rfl) ?_;refine ar.AU rfl rfl rfl rfl rfl rfl rfl rfl rfl rfl rfl ?_;refine dL ?_;refine Za ?_;refine cZ 0 2 (Zt (Cd.ret ?_));refine aP ?_;refine⟨aO (aB ?_),rfl⟩;unfold jO;rw[Bool.eq_iff_iff]
theorem x7 (y m:Int)(w:World)(h0:0≤y):Calls Tryz.prog 251 #[.int .i64 y, .int .i64 m] w fun e w'=>e= .returned (.int .i64 (bE y m))∧w=w':=by
 refine Zs 23 Tryz.func251 ?_;refine ah ?_;refine Za ?_;refine bk 0 1 4 (aH (ah ?_));refine Zm ?_;refine aS 0 1 4 5 (Zt (Cd.block (ah ?_)));refine aX ?_;refine Za ?_;refine aL 0 1 4 5 6 (Zt ?_);refine Cd.ao rfl (fun h=> ?_) (fun h=> ?_)
 ·subst h
  refine Cd.seq (ah ?_);refine Zm ?_;refine Zc (Ze Tryz.func256) (wk y _ h0) ?_;rintro e w2 ⟨rfl,rfl⟩;refine⟨_,rfl,?_⟩;refine aV 0 1 4 5 6 9 (Zt ?_);refine Cd.cond rfl (fun h2=> ?_) (fun h2=> ?_)
  ·skip
   refine ah ?_;refine Za ?_;refine aV 0 1 4 5 6 9 (Zt (Cd.ret (ab.ae (ab.af (ab.ae ?_)))));refine aP ?_;exact⟨aO (int_eq (by unfold bE;rw[if_pos rfl,if_pos h2])),rfl⟩
  ·skip
   refine Cd.skip (az ?_);refine Za ?_;refine aV 0 1 4 5 6 9 (Zt (Cd.ret (ab.af (ab.ae ?_))));refine aP ?_;exact⟨aO (int_eq (by unfold bE;rw[if_pos rfl,h2];rfl)),rfl⟩
 refine Cd.seq (ah ?_);refine aX ?_;refine Za ?_;refine aV 0 1 4 5 6 10 (Zt ?_);refine Cd.ao rfl (fun a4=> ?_) (fun a4=> ?_)
 ·skip
  refine Cd.skip (Zt ?_);refine Cd.aM rfl (decide_eq_true a4) ?_;refine ah ?_;refine Za ?_;refine aV 0 1 4 5 6 10 (Zt (Cd.ret (ab.af (ab.ae ?_))));refine aP ?_;exact⟨aO (int_eq (by unfold bE;rw[if_neg h,if_pos (by omega)])),rfl⟩
 refine ah ?_;refine aX ?_;refine Za ?_;refine aV 0 1 4 5 6 10 (Zt ?_);refine Cd.ao rfl (fun a6=> ?_) (fun a6=> ?_)
 ·skip
  refine Cd.skip (Zt ?_);refine Cd.aM rfl (decide_eq_true a6) ?_;refine ah ?_;refine Za ?_;refine aV 0 1 4 5 6 10 (Zt (Cd.ret (ab.af (ab.ae ?_))));refine aP ?_;exact⟨aO (int_eq (by unfold bE;rw[if_neg h,if_pos (by omega)])),rfl⟩
 refine ah ?_;refine aX ?_;refine Za ?_;refine aV 0 1 4 5 6 10 (Zt ?_);refine Cd.ao rfl (fun a9=> ?_) (fun a9=> ?_)
 ·skip
  refine Cd.skip (Zt ?_);refine Cd.aM rfl (decide_eq_true a9) ?_;refine ah ?_;refine Za ?_;refine aV 0 1 4 5 6 10 (Zt (Cd.ret (ab.af (ab.ae ?_))));refine aP ?_;exact⟨aO (int_eq (by unfold bE;rw[if_neg h,if_pos (by omega)])),rfl⟩
 refine Zr ?_;refine aX ?_;refine Za ?_;refine aV 0 1 4 5 6 10 (Zt ?_);refine Cd.ao rfl (fun a11=> ?_) (fun a11=> ?_)
 ·skip
  refine ah ?_;refine Za ?_;refine aV 0 1 4 5 6 10 (Zt (Cd.ret (ab.af (ab.ae ?_))));refine aP ?_;exact⟨aO (int_eq (by unfold bE;rw[if_neg h,if_pos (by omega)])),rfl⟩
 refine Cd.seq (ah ?_);refine aX ?_;refine Za ?_;refine ba 0 1 4 5 6 10 15 (Zt ?_);refine Cd.ao rfl (fun a1=> ?_) (fun a1=> ?_)
 ·skip
  refine Cd.skip (Zt ?_);refine Cd.aM rfl (decide_eq_true a1) ?_;refine ah ?_;refine Za ?_;refine ba 0 1 4 5 6 10 15 (Zt (Cd.ret (ab.af (ab.ae ?_))));refine aP ?_;exact⟨aO (int_eq (by unfold bE;rw[if_neg h,if_neg (by omega),if_pos (by omega)])),rfl⟩
 refine ah ?_;refine aX ?_;refine Za ?_;refine ba 0 1 4 5 6 10 15 (Zt ?_);refine Cd.ao rfl (fun a3=> ?_) (fun a3=> ?_)
 ·skip
  refine Cd.skip (Zt ?_);refine Cd.aM rfl (decide_eq_true a3) ?_;refine ah ?_;refine Za ?_;refine ba 0 1 4 5 6 10 15 (Zt (Cd.ret (ab.af (ab.ae ?_))));refine aP ?_;exact⟨aO (int_eq (by unfold bE;rw[if_neg h,if_neg (by omega),if_pos (by omega)])),rfl⟩
 refine ah ?_;refine aX ?_;refine Za ?_;refine ba 0 1 4 5 6 10 15 (Zt ?_);refine Cd.ao rfl (fun a5=> ?_) (fun a5=> ?_)
 ·skip
  refine Cd.skip (Zt ?_);refine Cd.aM rfl (decide_eq_true a5) ?_;refine ah ?_;refine Za ?_;refine ba 0 1 4 5 6 10 15 (Zt (Cd.ret (ab.af (ab.ae ?_))));refine aP ?_;exact⟨aO (int_eq (by unfold bE;rw[if_neg h,if_neg (by omega),if_pos (by omega)])),rfl⟩
 refine ah ?_;refine aX ?_;refine Za ?_;refine ba 0 1 4 5 6 10 15 (Zt ?_);refine Cd.ao rfl (fun a7=> ?_) (fun a7=> ?_)
 ·skip
  refine Cd.skip (Zt ?_);refine Cd.aM rfl (decide_eq_true a7) ?_;refine ah ?_;refine Za ?_;refine ba 0 1 4 5 6 10 15 (Zt (Cd.ret (ab.af (ab.ae ?_))));refine aP ?_;exact⟨aO (int_eq (by unfold bE;rw[if_neg h,if_neg (by omega),if_pos (by omega)])),rfl⟩
 refine ah ?_;refine aX ?_;refine Za ?_;refine ba 0 1 4 5 6 10 15 (Zt ?_);refine Cd.ao rfl (fun a8=> ?_) (fun a8=> ?_)
 ·skip
  refine Cd.skip (Zt ?_);refine Cd.aM rfl (decide_eq_true a8) ?_;refine ah ?_;refine Za ?_;refine ba 0 1 4 5 6 10 15 (Zt (Cd.ret (ab.af (ab.ae ?_))));refine aP ?_;exact⟨aO (int_eq (by unfold bE;rw[if_neg h,if_neg (by omega),if_pos (by omega)])),rfl⟩
 refine ah ?_;refine aX ?_;refine Za ?_;refine ba 0 1 4 5 6 10 15 (Zt ?_);refine Cd.ao rfl (fun a10=> ?_) (fun a10=> ?_)
 ·skip
  refine Cd.skip (Zt ?_);refine Cd.aM rfl (decide_eq_true a10) ?_;refine ah ?_;refine Za ?_;refine ba 0 1 4 5 6 10 15 (Zt (Cd.ret (ab.af (ab.ae ?_))));refine aP ?_;exact⟨aO (int_eq (by unfold bE;rw[if_neg h,if_neg (by omega),if_pos (by omega)])),rfl⟩
 refine Zr ?_;refine aX ?_;refine Za ?_;refine ba 0 1 4 5 6 10 15 (Zt ?_);refine Cd.ao rfl (fun a12=> ?_) (fun a12=> ?_)
 ·skip
  refine ah ?_;refine Za ?_;refine ba 0 1 4 5 6 10 15 (Zt (Cd.ret (ab.af (ab.ae ?_))));refine aP ?_;exact⟨aO (int_eq (by unfold bE;rw[if_neg h,if_neg (by omega),if_pos (by omega)])),rfl⟩
 refine Cd.skip (ab.ag (az ?_));refine Za ?_;refine ba 0 1 4 5 6 10 15 (Zt (Cd.ret ?_));refine aP ?_;exact⟨aO (int_eq (by unfold bE;rw[if_neg h,if_neg (by omega),if_neg (by omega)])),rfl⟩
def iV (y m d:Int):Bool:=decide (1970≤y)&&decide (y≤9999)&&decide (1≤d)&&decide (d≤bE y m)
def pN (y m:Int):Int:=if m<3 then y-1 else y
def ofM (m:Int):Int:=if m<3 then m+9 else m-3
def gC (y m d:Int):Int:=pN y m/400*146097+(pN y m%400*365+pN y m%400/4-pN y m%400/100+((153*ofM m+2)/5+d-1))-719468
theorem mv {y m:Int}(h:0<bE y m):1≤m∧m≤12∧bE y m≤31:=by
 unfold bE at *;split
 ·split<;>omega
 ·split
  ·omega
  ·split
   ·omega
   ·rename_i h1 h2 h3
    rw[if_neg h1,if_neg h2,if_neg h3] at h;omega
theorem sF (y m d:Int)(w:World)(hy:bu y)(hm: -100≤m∧m≤100)(hd:bu d):
  Calls Tryz.prog 244 #[.int .i64 y, .int .i64 m, .int .i64 d] w fun e w'=>e= .returned (.tuple #[.int .i64 (if iV y m d then gC y m d else 0), .bool (iV y m d)])∧Grow w w':=by
 have bel:=Below.refl w.heap.size w;unfold bu at hy hd
 by_cases hy2:y<1970∨9999<y
 ·have hf:iV y m d=false:=by
   unfold iV;rw[Bool.eq_false_iff];simp;omega
  rw[hf];refine Zs 64 Tryz.func244 ?_;refine ah ?_;refine Za ?_;refine Za ?_;refine aL 0 1 2 6 7 (aH (ah ?_));refine Zm ?_;refine eU ?_;refine Zm ?_;refine ar.start ?_;refine bB (fun hcx=>aa.move rfl rfl) ?_;refine Zn (fun hcx=>aa.gtr rfl rfl rfl) ?_;refine fh ?_;refine Zm ?_;refine ar.start ?_;refine bB (fun hcx=>aa.move rfl rfl) ?_;refine Zn (fun hcx=>aa.lss rfl rfl rfl) ?_;refine fh ?_;refine Zm ?_;refine ar.start ?_;refine bB (fun hcx=>aa.move rfl rfl) ?_;refine jL ?_;refine jL ?_;refine ar.aW rfl rfl rfl rfl rfl rfl rfl (fun hcx=>Ze Tryz.func251) (fun hcx=>(by exfalso;simp[bP] at hcx;omega:Calls _ _ _ _ (fun e w'=>e= .returned (.int .i64 0)∧Grow _ w'))) ?_;intro w1 hw1;replace bel:=bel.step hw1;refine Zn (fun hcx=>aa.gtr rfl rfl rfl) ?_;refine fh ?_;refine aV 0 1 2 6 7 28 (Zt ?_);refine Cd.aM rfl (by simp;omega) ?_;refine ah ?_;refine Za ?_;refine Za ?_;refine aV 0 1 2 6 7 28 (Zt (Cd.ret (ab.ae ?_)));refine cG ?_;exact⟨rfl,bel⟩
 have hdc:=fun w=>(x7 y m w (by omega)).mono (fun e w' (h:e= .returned (.int .i64 (bE y m))∧w=w')=>(⟨h.1,by rw[←h.2];exact Grow.refl _⟩:e= .returned (.int .i64 (bE y m))∧Grow w w'));refine Zs 64 Tryz.func244 ?_;refine ah ?_;refine Za ?_;refine Za ?_;refine aL 0 1 2 6 7 (aH (ah ?_));refine Zm ?_;refine eU ?_;refine Zm ?_;refine ar.start ?_;refine bB (fun hcx=>aa.move rfl rfl) ?_;refine Zn (fun hcx=>aa.gtr rfl rfl rfl) ?_;refine fh ?_;refine Zm ?_;refine ar.start ?_;refine bB (fun hcx=>aa.move rfl rfl) ?_;refine Zn (fun hcx=>aa.lss rfl rfl rfl) ?_;refine fh ?_;refine Zm ?_;refine ar.start ?_;refine bB (fun hcx=>aa.move rfl rfl) ?_;refine jL ?_;refine jL ?_;refine ar.aW rfl rfl rfl rfl rfl rfl rfl (fun hcx=>Ze Tryz.func251) (fun hcx=>hdc _) ?_;intro w1 hw1;replace bel:=bel.step hw1;refine Zn (fun hcx=>aa.gtr rfl rfl rfl) ?_;refine fh ?_;refine aV 0 1 2 6 7 28 (Zt ?_);refine Cd.cond rfl (fun h=> ?_) (fun h=> ?_)
 ·have hf:iV y m d=false:=by
   unfold iV;rw[Bool.eq_false_iff];simp at h⊢;omega
  rw[hf];refine ah ?_;refine Za ?_;refine Za ?_;refine aV 0 1 2 6 7 28 (Zt (Cd.ret (ab.ae ?_)));refine cG ?_;exact⟨rfl,bel⟩
 have hd2:1≤d∧d≤bE y m:=by
  simp at h;omega
 have hok:iV y m d=true:=by
  unfold iV;simp;omega
 rw[hok,if_pos rfl];obtain⟨m1,m2,m3⟩:=mv (y:=y) (m:=m) (by omega);have hz:gC y m d=pN y m/400*146097+(pN y m%400*365+pN y m%400/4-pN y m%400/100+((153*ofM m+2)/5+d-1))-719468:=rfl;have hY:1969≤pN y m∧pN y m≤9999:=by unfold pN;split<;>omega
 have hM:0≤ofM m∧ofM m≤11:=by unfold ofM;split<;>omega
 have eY:pN y m=if m<3 then y-1 else y:=rfl;have eM:ofM m=if m<3 then m+9 else m-3:=rfl
 generalize pN y m=Y at *
 generalize ofM m=M at *
 refine Cd.skip (az ?_);refine Zm ?_;refine Zm ?_;refine qq ?_;refine Za ?_;refine Za ?_;refine bO 0 1 2 6 7 8 9 28 (Zt ?_);refine Cd.kH (σ:=Unit) (fun _=>[(2, .int .i64 d),(8, .int .i64 Y),(9, .int .i64 M)]) (fun _ wr=>Below w.heap.size w wr) ?_ ?_
 ·skip
  refine ah ?_;refine Zm ?_;refine eU ?_;refine cw 0 1 2 6 7 8 9 28 33 (Zt ?_);refine Cd.ao rfl (fun hc=> ?_) (fun hc=> ?_)
  ·skip
   refine Zr ?_;refine Zm ?_;refine qq ?_;refine Zm ?_;refine dq ?_;refine Za ?_;refine Za ?_;refine cw 0 1 2 6 7 8 9 28 33 ?_;exact ab.join () ⟨rfl,congrArg (fun z=>some (Value.int .i64 z)) (by rw[eY,if_pos (by omega)]),congrArg (fun z=>some (Value.int .i64 z)) (by rw[eM,if_pos (by omega)];omega),trivial⟩ bel
  ·skip
   refine Cd.skip ?_;exact ab.join () ⟨rfl,congrArg (fun z=>some (Value.int .i64 z)) (by rw[eY,if_neg (by omega)]),congrArg (fun z=>some (Value.int .i64 z)) (by rw[eM,if_neg (by omega)]),trivial⟩ bel
 clear bel;rintro⟨⟩ wr bel;refine ah ?_;refine Zm ?_;refine Zv (aa.qD rfl rfl rfl (by omega) (by omega)) ?_;refine dq ?_;refine Zv (aa.jV rfl rfl rfl (by omega) (by omega) (by omega)) ?_;refine Zm ?_;refine dq ?_;refine qq ?_;refine Za ?_;refine aS 2 8 9 10 (az ?_);refine Zm ?_;refine Zv (aa.ou rfl rfl rfl (by omega) (by omega)) ?_;refine Zv (aa.qD rfl rfl rfl (by omega) (by omega)) ?_;refine Zm ?_;refine Zv (aa.ou rfl rfl rfl (by omega) (by omega)) ?_;refine Zv (aa.jV rfl rfl rfl (by omega) (by omega) (by omega)) ?_;refine dq ?_;refine Zm ?_;refine Zv (aa.ou rfl rfl rfl (by omega) (by omega)) ?_;refine Zv (aa.jV rfl rfl rfl (by omega) (by omega) (by omega)) ?_;refine qq ?_;refine Zm ?_;refine dq ?_;refine Za ?_;refine aL 2 8 9 10 11 (az ?_);refine Zm ?_;refine Zv (aa.jV rfl rfl rfl (by omega) (by omega) (by omega)) ?_;refine Zv (aa.qD rfl rfl rfl (by omega) (by omega)) ?_;refine Zm ?_;refine dq ?_;refine qq ?_;refine Za ?_;refine Za ?_;refine ba 2 6 7 8 9 10 11 (Zt (Cd.ret ?_));refine cG ?_;exact⟨by rw[hz],bel⟩
def gx (l:List Nat):Int:=if l.all fP then(cK l:Int) else -1
theorem zC (l:List Nat)(h:l.length≤4): -1≤gx l∧gx l≤9999:=by
 unfold gx;split
 ·rename_i ha
  have:=qz l (fun c hc=>by
   have:=List.all_eq_true.1 ha c hc;unfold fP at this;simp at this;exact this)
  have h2:10^l.length≤10^4:=Nat.pow_le_pow_right (by omega) h;omega
 ·omega
theorem rU (l:List Nat)(h:l.length≤2): -1≤gx l∧gx l≤99:=by
 unfold gx;split
 ·rename_i ha
  have:=qz l (fun c hc=>by
   have:=List.all_eq_true.1 ha c hc;unfold fP at this;simp at this;exact this)
  have h2:10^l.length≤10^2:=Nat.pow_le_pow_right (by omega) h;omega
 ·omega
theorem ic (g:Nat)(l:List Nat)(i j:Nat)(w:World)(hl:∀x∈l,x<256)(hg:aE w g 9 #[.string (strOf l)]) (hi:i≤j) (hj:j≤l.length) (h4:j≤i+4):
  Calls Tryz.prog 243 #[.int .i64 (i:Int), .int .i64 (j:Int), .pointer (some ⟨g,0,none⟩)] w fun e w'=>e= .returned (.int .i64 (gx ((l.take j).drop i)))∧Grow w w':=by
 have bel:=Below.refl w.heap.size w;have hll:l.length≤9223372036854775807∨9223372036854775807<l.length:=by omega
 have hM:∀x∈(l.take j).drop i,x<256:=mu (qo hl j) i;have hMl:((l.take j).drop i).length≤4:=by rw[List.length_drop,List.length_take];omega
 have kg:=hg;refine Zs 33 Tryz.func243 ?_;refine ah ?_;refine Za ?_;refine aS 0 1 2 5 (az ?_);refine Za ?_;refine aL 0 1 2 5 6 (aH (ah ?_));refine ZL Tryz.underlying9 kg ?_;refine Zm ?_;refine Zm ?_;refine Zv (aa.wX (i:=i) (j:=j) rfl rfl rfl rfl Tryz.underlying9 rfl rfl hi hj) ?_
 generalize (l.take j).drop i=M at *
 refine Seq.sX rfl rfl Tryz.underlying9 Tryz.underlying64 Tryz.underlying5 hM rfl rfl rfl ?_;intro g13 c13 w13 hc13 n13;replace bel:=bel.step n13.below;have hrd13:=n13.reads;have hB13:=n13.lt;refine Zv (aa.len rfl rfl Tryz.underlying64) ?_;refine Zm ?_;refine bO 0 1 2 5 6 13 14 15 (Zt (Cd.block ?_))
 refine Cd.loop (σ:=Nat) (fun k=>[(6, .int .i64 ((cK (M.take k):Nat):Int)),(13, .slice (some ⟨g13,0,none⟩) M.length c13),(14, .int .i64 (M.length:Int)),(15, .int .i64 (k:Int))])
  (fun k wr=>k≤M.length∧(∀c∈M.take k,gN c)∧Below w.heap.size w wr∧Below w13.heap.size w13 wr) (fun k=>M.length-k) 0 ⟨by omega,by simp,bel,Below.refl _ _⟩ ⟨rfl,rfl,rfl,rfl,trivial⟩ ?_
 clear bel;rintro k wr ⟨hk,hdg,bel,bl13⟩;have hvl:=qz (M.take k) hdg;rw[List.length_take,Nat.min_eq_left hk] at hvl;have h10:10^k≤10^4:=Nat.pow_le_pow_right (by omega) (by omega);refine ah ?_;refine eU ?_;refine aL 6 13 14 15 16 (aH ?_);refine Cd.ao rfl (fun hc=> ?_) (fun hc=> ?_)
 ·obtain⟨c,hcc⟩:∃c,M[k]? =some c:=⟨_,List.getElem?_eq_getElem (show k<M.length by omega)⟩
  have hc256:=hM c (List.mem_of_getElem? hcc)
  have hcell:wr.cell? (Addr.add ⟨g13,0,none⟩ k)=some (.int .u8 (c:Int)):=by
   obtain⟨ad,e,hb,hcs⟩:=hrd13.2 (by omega);injection e with e
   subst e;rw[bl13.cell (by rw[ai];exact hB13)];exact hcs k _ (by rw[kX,hcc];rfl)
  have htk:M.take (k+1)=M.take k++[c]:=by rw[List.take_add_one,hcc];rfl
  have hvs:cK (M.take (k+1))=10*cK (M.take k)+(c-48):=by rw[htk,pR]
  generalize hV:cK (M.take k)=V at *
  refine Cd.skip (aH (Cd.block (ah ?_)));refine Zv (aa.gA rfl rfl rfl Tryz.underlying64 (by kernel_rfl) (j:=k) rfl (by omega)) ?_;refine Zv (aa.jN rfl rfl Tryz.underlying5 rfl hcell) ?_;refine Za ?_;refine aV 6 8 13 14 15 16 (aH (ah ?_));refine Zm ?_;refine eU ?_;refine Zm ?_;refine ar.start ?_;refine bB (fun hcx=>aa.move rfl rfl) ?_;refine Zn (fun hcx=>aa.gtr rfl rfl rfl) ?_;refine fh ?_;refine ba 6 8 13 14 15 16 24 (Zt ?_);refine Cd.cond rfl (fun h=> ?_) (fun h=> ?_)
  ·have hno:¬M.all fP=true:=by
    intro ha;have:=List.all_eq_true.1 ha c (List.mem_of_getElem? hcc);unfold fP at this;simp at this h;omega
   refine ah ?_;refine Za ?_;refine bO 5 6 8 13 14 15 16 24 (Zt (Cd.ret (ab.ae (ab.af (ab.ae (ab.aJ (ab.af (ab.ae ?_))))))));refine aP ?_;exact⟨aO (int_eq (by unfold gx;rw[if_neg hno])),bel⟩
  ·have hcd:gN c:=by unfold gN;simp at h;omega
   have hcd2:=hcd;unfold gN at hcd2;clear h;refine Cd.skip (et ?_);refine Zm ?_;refine Zv (aa.qD rfl rfl rfl (by omega) (by omega)) ?_;refine Zm ?_;refine Zv (aa.zg rfl rfl rfl (nT (by omega) (by omega))) ?_;refine Zv (aa.fe rfl rfl Tryz.underlying5 Tryz.underlying3 (jA (by omega) (by omega))) ?_;refine dq ?_;refine Za ?_;refine ba 6 8 13 14 15 16 24 (ab.ag (et ?_));refine dq ?_;refine Zm ?_;refine ba 6 8 13 14 15 16 24 ?_;refine ab.round (k+1) ⟨congrArg (fun x=>some (Value.int .i64 x)) (show(10*(V:Int)+((c:Int)-48))=((cK (M.take (k+1)):Nat):Int) by omega),rfl,rfl,rfl,trivial⟩ ⟨by omega,?_,bel,bl13⟩ (by omega);intro x hx;rw[htk] at hx;rcases List.mem_append.1 hx with h|h
   ·exact hdg x h
   ·simp at h;subst h;exact hcd
 ·obtain rfl:k=M.length:=by omega
  rw[List.take_of_length_le (Nat.le_refl _)] at hdg⊢
  have hall:M.all fP=true:=by
   rw[List.all_eq_true];intro c hc;have:=hdg c hc;unfold gN at this;unfold fP;simp;omega
  refine Cd.exit (ab.aD (ab.ay (ab.aA (az ?_))));refine Zm ?_;refine Za ?_;refine aV 5 6 13 14 15 16 (Zt (Cd.ret ?_));refine aP ?_;exact⟨aO (int_eq (by unfold gx;rw[if_pos hall])),bel⟩
theorem jb:∀args w,(callFunc 243 args).run Tryz.prog w= .ok (.enter 243 args) w:=fun args w=>aF Tryz.func243 (by kernel_rfl) rfl args w
def gp (l:List Nat):Bool:=decide (l.length=10)&&decide (l[4]? =some 45)&&decide (l[7]? =some 45)&&iV (gx ((l.take 4).drop 0)) (gx ((l.take 7).drop 5)) (gx ((l.take 10).drop 8))
def fX (l:List Nat):Int:=if gp l then gC (gx ((l.take 4).drop 0)) (gx ((l.take 7).drop 5)) (gx ((l.take 10).drop 8)) else 0
theorem oC (l:List Nat)(w:World)(hl:∀x∈l,x<256)(hlen:l.length≤9223372036854775807):
  Calls Tryz.prog 239 #[.string (strOf l)] w fun e w'=>e= .returned (.tuple #[.int .i64 (fX l), .bool (gp l)])∧Grow w w':=by
 have bel:=Below.refl w.heap.size w
 by_cases h10:l.length=10
 ·obtain⟨c4,h4⟩:∃c,l[4]? =some c:=⟨_,List.getElem?_eq_getElem (by omega)⟩
  obtain⟨c7,h7⟩:∃c,l[7]? =some c:=⟨_,List.getElem?_eq_getElem (by omega)⟩;have hc4:=hl c4 (List.mem_of_getElem? h4);have hc7:=hl c7 (List.mem_of_getElem? h7);refine Zs 28 Tryz.func239 ?_;refine ah ?_;refine Seq.box rfl rfl rfl rfl rfl ?_;intro g1 w1 n1;have e1:=Nat.le_trans bel.size n1.ge;replace bel:=bel.step n1.below;have k1:=n1.an;refine Za ?_;refine Za ?_;refine aS 0 1 2 3 (aH (ah ?_));refine ZL Tryz.underlying9 k1 ?_;refine Zv (aa.ed rfl rfl Tryz.underlying9) ?_;refine jq ?_;refine Zm ?_;refine ar.start ?_;refine bB (fun hcx=>aa.ak rfl rfl Tryz.underlying9 rfl k1 rfl) ?_;refine Zn (fun hcx=>aa.fM (l:=l) (j:=4) rfl rfl rfl Tryz.underlying9 rfl h4 hc4) ?_;refine Zn (fun hcx=>aa.bT rfl rfl rfl) ?_;refine fh ?_;refine Zm ?_;refine ar.start ?_;refine bB (fun hcx=>aa.ak rfl rfl Tryz.underlying9 rfl k1 rfl) ?_;refine Zn (fun hcx=>aa.fM (l:=l) (j:=7) rfl rfl rfl Tryz.underlying9 rfl h7 hc7) ?_;refine Zn (fun hcx=>aa.bT rfl rfl rfl) ?_;refine fh ?_;refine aL 0 1 2 3 17 (Zt ?_);refine Cd.cond rfl (fun h=> ?_) (fun h=> ?_)
  ·have hf:gp l=false:=by
    rw[Bool.eq_false_iff];intro h2;unfold gp at h2;rw[h4,h7] at h2;simp at h2 h;omega
   have hz:fX l=0:=by unfold fX;rw[hf];rfl
   rw[hf,hz];refine ah ?_;refine Za ?_;refine Za ?_;refine aL 0 1 2 3 17 (Zt (Cd.ret (ab.ae ?_)));refine cG ?_;exact⟨rfl,bel⟩
  ·have h45:c4=45∧c7=45:=by simp at h;omega
   have hok:gp l=iV (gx ((l.take 4).drop 0)) (gx ((l.take 7).drop 5)) (gx ((l.take 10).drop 8)):=by
    unfold gp;rw[h4,h7,h45.1,h45.2,h10];simp
   unfold fX;rw[hok];have d1:=zC ((l.take 4).drop 0) (by rw[List.length_drop,List.length_take];omega);have d2:=rU ((l.take 7).drop 5) (by rw[List.length_drop,List.length_take];omega);have d3:=rU ((l.take 10).drop 8) (by rw[List.length_drop,List.length_take];omega);have p1:=fun w (k1:aE w g1 9 #[.string (strOf l)])=>ic g1 l 0 4 w hl k1 (by omega) (by omega) (by omega);have p2:=fun w (k1:aE w g1 9 #[.string (strOf l)])=>ic g1 l 5 7 w hl k1 (by omega) (by omega) (by omega);have p3:=fun w (k1:aE w g1 9 #[.string (strOf l)])=>ic g1 l 8 10 w hl k1 (by omega) (by omega) (by omega)
   generalize gx ((l.take 4).drop 0)=y at *
   generalize gx ((l.take 7).drop 5)=m at *
   generalize gx ((l.take 10).drop 8)=d at *
   refine Cd.skip (az ?_);refine Zv (aa.makeFunc rfl (show fc _ _=some [] from rfl) (show fc _ _=some [.pointer (some ⟨g1,0,none⟩)] from rfl) rfl) ?_;refine Za ?_;refine aV 0 1 2 3 4 17 (az ?_);refine Zm ?_;refine Seq.call (Enters.value (first:=[]) (cap:=[.pointer (some ⟨g1,0,none⟩)]) rfl rfl rfl jb) rfl rfl rfl (p1 _ k1) ?_;rintro e w5 ⟨rfl,hb5⟩;refine⟨_,rfl,?_⟩;replace bel:=bel.step hb5;replace k1:=k1.step hb5;refine Zm ?_;refine Seq.call (Enters.value (first:=[]) (cap:=[.pointer (some ⟨g1,0,none⟩)]) rfl rfl rfl jb) rfl rfl rfl (p2 _ k1) ?_;rintro e w6 ⟨rfl,hb6⟩;refine⟨_,rfl,?_⟩;replace bel:=bel.step hb6;replace k1:=k1.step hb6;refine Zm ?_;refine Seq.call (Enters.value (first:=[]) (cap:=[.pointer (some ⟨g1,0,none⟩)]) rfl rfl rfl jb) rfl rfl rfl (p3 _ k1) ?_;rintro e w7 ⟨rfl,hb7⟩;refine⟨_,rfl,?_⟩;replace bel:=bel.step hb7;replace k1:=k1.step hb7;refine Zc (Ze Tryz.func244) (sF y m d _ (by unfold bu;omega) (by omega) (by unfold bu;omega)) ?_;rintro e w8 ⟨rfl,hb8⟩;refine⟨_,rfl,?_⟩;replace bel:=bel.step hb8;replace k1:=k1.step hb8;refine Zx ?_;refine Zx ?_;refine Za ?_;refine Za ?_;refine aV 0 1 2 3 4 17 (Zt (Cd.ret ?_));refine cG ?_;exact⟨rfl,bel⟩
 ·have hf:gp l=false:=by
   rw[Bool.eq_false_iff];intro h2;unfold gp at h2;simp[h10] at h2
  have hz:fX l=0:=by unfold fX;rw[hf];rfl
  rw[hf,hz];refine Zs 28 Tryz.func239 ?_;refine ah ?_;refine Seq.box rfl rfl rfl rfl rfl ?_;intro g1 w1 n1;have e1:=Nat.le_trans bel.size n1.ge;replace bel:=bel.step n1.below;have k1:=n1.an;refine Za ?_;refine Za ?_;refine aS 0 1 2 3 (aH (ah ?_));refine ZL Tryz.underlying9 k1 ?_;refine Zv (aa.ed rfl rfl Tryz.underlying9) ?_;refine jq ?_;refine Zm ?_;refine ar.start ?_;refine bB (fun hcx=>aa.ak rfl rfl Tryz.underlying9 rfl k1 rfl) ?_;refine Zn (fun hcx=>(by exfalso;first|(simp[bP] at hcx;omega)|simp[bP] at hcx:aa _ _ _ _ (.int .u8 0) _)) ?_;refine Zn (fun hcx=>aa.bT rfl rfl rfl) ?_;refine fh ?_;refine Zm ?_;refine ar.start ?_;refine bB (fun hcx=>aa.ak rfl rfl Tryz.underlying9 rfl k1 rfl) ?_;refine Zn (fun hcx=>(by exfalso;first|(simp[bP] at hcx;omega)|simp[bP] at hcx:aa _ _ _ _ (.int .u8 0) _)) ?_;refine Zn (fun hcx=>aa.bT rfl rfl rfl) ?_;refine fh ?_;refine aL 0 1 2 3 17 (Zt ?_);refine Cd.aM rfl (by first|(simp;omega)|simp) ?_;refine ah ?_;refine Za ?_;refine Za ?_;refine aL 0 1 2 3 17 (Zt (Cd.ret (ab.ae ?_)));refine cG ?_;exact⟨rfl,bel⟩
theorem cd:br Tryz.prog 9=some (some (.string {data:= #[]})):=by kernel_rfl
theorem aZ:br Tryz.prog 221=some (some (.agg #[.int .i64 0, .string {data:= #[]}, .int .i64 0, .int .i64 0])):=by kernel_rfl
theorem ir (a c:Int)(s:ByteArray)(w:World):(Instr.build 221 #[(0, .int .i64 a),(1, .string s),(2, .int .i64 c)]).run Tryz.prog w= .ok (.agg #[.int .i64 a, .string s, .int .i64 c, .int .i64 0]) w:=by
 have hu:=Tryz.underlying221
 go_simp
theorem iu (a:Int)(s:ByteArray)(w:World):(Instr.build 221 #[(0, .int .i64 a),(1, .string s)]).run Tryz.prog w= .ok (.agg #[.int .i64 a, .string s, .int .i64 0, .int .i64 0]) w:=by
 have hu:=Tryz.underlying221
 go_simp
theorem iB (w:World):(Instr.build 221 #[]).run Tryz.prog w= .ok (.agg #[.int .i64 0, .string {data:= #[]}, .int .i64 0, .int .i64 0]) w:=by
 have hu:=Tryz.underlying221
 go_simp
theorem mb (l p:List Nat)(w:World)(hl:∀x∈l,x<256)(hp:∀x∈p,x<256):
  Calls Tryz.prog 241 #[.string (strOf l), .string (strOf p)] w fun e w'=>e= .returned (.bool (decide (l.take p.length=p)))∧w=w':=by
 have h2:∀x∈l.take p.length,x<256:=fun x hx=>hl x (List.mem_of_mem_take hx);refine Zs 18 Tryz.func241 ?_;refine ah ?_;refine Za ?_;refine bk 0 1 4 (az ?_);refine Zm ?_;refine Zv (aa.ed rfl rfl Tryz.underlying9) ?_;refine Zm ?_;refine Zv (aa.ed rfl rfl Tryz.underlying9) ?_;refine oo ?_;refine Zm ?_;refine ar.start ?_;refine bB (fun hcx=>aa.move rfl rfl) ?_;refine jL ?_;refine Zn (fun hcx=>aa.ed rfl rfl Tryz.underlying9) ?_;refine Zn (fun hcx=>aa.sliceTo (j:=p.length) rfl rfl rfl Tryz.underlying9 rfl (by simp[bP] at hcx;omega)) ?_;refine jL ?_;refine Zn (fun hcx=>aa.ck (a:=l.take p.length) (b:=p) rfl rfl rfl h2 hp) ?_;refine dL ?_;refine Za ?_;refine bk 0 1 4 (Zt (Cd.ret ?_));refine aP ?_;refine⟨aO (aB ?_),rfl⟩;rw[Bool.eq_iff_iff];simp;intro h;have:=congrArg List.length h;rw[List.length_take] at this;omega
theorem nW (l p:List Nat)(w:World)(hl:∀x∈l,x<256)(hp:∀x∈p,x<256):
  Calls Tryz.prog 234 #[.string (strOf l), .string (strOf p)] w fun e w'=>e= .returned (.bool (decide (l.take p.length=p)))∧w=w':=by
 refine Zs 8 Tryz.func234 ?_;refine ah ?_;refine Za ?_;refine bk 0 1 4 (az ?_);refine Zm ?_;refine Zm ?_;refine Zc (Ze Tryz.func241) (mb l p _ hl hp) ?_;rintro e w2 ⟨rfl,rfl⟩;refine⟨_,rfl,?_⟩;refine Za ?_;refine bk 0 1 4 (Zt (Cd.ret ?_));refine aP ?_;exact⟨rfl,rfl⟩
def ep:List (List Nat):=[[60,61],[33,61],[62,61],[40],[41],[44],[43],[45],[42],[47],[60],[61],[62],[38],[124],[33]]
def iK (L:List (List Nat)):List Value:=L.map fun s=> .string (strOf s)
theorem ve (w:World):Calls Tryz.prog 233 #[] w fun e w'=>∃g,e= .returned (.slice (some ⟨g,0,none⟩) 16 16)∧aE w' g 9 (iK ep).toArray∧Grow w w':=by
 have bel:=Below.refl w.heap.size w;refine Zs 2 Tryz.func233 ?_;refine ah ?_;refine Za ?_;refine Am 0 (az ?_);refine Seq.slice (vs:=[_,_,_,_,_,_,_,_,_,_,_,_,_,_,_,_]) (s:=1) rfl rfl rfl Tryz.underlying66 (by kernel_rfl) (cd) (by omega) (by omega) ⟨rfl,rfl,rfl,rfl,rfl,rfl,rfl,rfl,rfl,rfl,rfl,rfl,rfl,rfl,rfl,rfl,trivial⟩ rfl rfl rfl ?_;intro g1 w1 n1;have e1:=Nat.le_trans bel.size n1.ge;replace bel:=bel.step n1.below;have k1:=n1.an;refine Za ?_;refine Am 0 (Zt (Cd.ret ?_));refine aP ?_;exact⟨_,rfl,k1,bel⟩
def nL (l:List Nat):Option (List Nat):=ep.find? fun s=>decide (l.take s.length=s)
def pY (t:List Nat):Option Int:=if t.all fP=true∧(1<t.length→t[0]? ≠some 48)∧cK t≤9223372036854775807 then some (cK t:Int) else none
theorem wD {t:List Nat}:t.all fP=true↔∀c∈t,gN c:=by
 rw[List.all_eq_true]
 constructor
 ·intro h c hc
  have:=h c hc;unfold fP at this;simp at this;exact this
 ·intro h c hc
  have:=h c hc;unfold gN at this;unfold fP;simp;omega
theorem yP {t:List Nat}{v:Int}{ok:Bool}(h:yX t 0 v ok)(c:Nat)(r:List Nat)(ht:t=c::r)(hc:fP c=true):pY t=if ok then some v else none:=by
 have hc2:48≤c∧c≤57:=by unfold fP at hc;simp at hc;exact hc
 cases ok with
 |true=>
  obtain⟨-,-,hv,F,B,hf⟩:=h.1 rfl;have h0:=hf.len;have hB:B=[]:=List.eq_nil_of_length_eq_zero (by simpa using h0);subst hB;have he:=hf.eq;unfold m6 at he;rw[if_neg (show¬0<(0:Int).toNat by decide),List.append_nil] at he
  have hneg:¬v<0:=by
   intro hn;rw[if_pos hn,ht] at he;injection he with he
   omega
  rw[if_neg hneg] at he;have he2:t=F:=he;subst he2;have hval:=hf.val;rw[List.append_nil] at hval;have hcond:t.all fP=true∧(1<t.length→t[0]? ≠some 48)∧cK t≤9223372036854775807:=⟨wD.2 hf.f,hf.lead,by unfold bu at hv;omega⟩;unfold pY;rw[if_pos hcond,if_pos rfl,hval];congr 1;omega
 |false=>
  obtain⟨-,hno⟩:=h.2 rfl;unfold pY;rw[if_neg]
  ·rfl
  ·rintro⟨h1,h2,h3⟩
   refine hno (by omega) (by omega) (cK t:Int) (by unfold bu;omega) t [] ⟨wD.1 h1,by simp,by simp,by rw[ht];simp,h2,by rw[List.append_nil];omega,?_⟩;unfold m6;rw[if_neg (show¬(cK t:Int)<0 by omega),if_neg (show¬0<(0:Int).toNat by decide),List.append_nil];rfl
def lL (l:List Nat):Bool:=decide (10≤l.length)&& !(decide (10<l.length)&&bl (l.getD 10 0))&&gp (l.take 10)
theorem ze (l:List Nat)(w:World)(hl:∀x∈l,x<256)(hlen:l.length≤9223372036854775807):
  Calls Tryz.prog 231 #[.string (strOf l)] w fun e w'=>∃a b c,e= .returned (.tuple #[.agg #[.int .i64 a, .string (strOf b), .int .i64 c, .int .i64 0], .bool (lL l)])∧(lL l=true→a=2∧b=l.take 10∧c=fX (l.take 10))∧Grow w w':=by
 have bel:=Below.refl w.heap.size w
 have h0:10<l.length→l[10]? =some (l.getD 10 0):=by
  intro h;rw[List.getD_eq_getElem?_getD,List.getElem?_eq_getElem h];rfl
 have h1:l.getD 10 0<256:=by
  rw[List.getD_eq_getElem?_getD]
  cases hh:l[10]? with
  |none=>simp
  |some c=>exact hl c (List.mem_of_getElem? hh)
 unfold lL
 generalize l.getD 10 0=c0 at *
 refine Zs 31 Tryz.func231 ?_;refine ah ?_;refine Zl aZ ?_;intro g2 w1 n2;have e2:=Nat.le_trans bel.size n2.ge;replace bel:=bel.step n2.below;have k2:=n2.an;refine Za ?_;refine bk 0 2 3 (aH (ah ?_));refine Zm ?_;refine Zv (aa.ed rfl rfl Tryz.underlying9) ?_;refine eU ?_;refine Zm ?_;refine ar.start ?_;refine bB (fun hcx=>aa.move rfl rfl) ?_;refine Zn (fun hcx=>aa.ed rfl rfl Tryz.underlying9) ?_;refine Zn (fun hcx=>aa.gtr rfl rfl rfl) ?_;refine jL ?_;refine bB (fun hcx=>aa.move rfl rfl) ?_;refine Zn (fun hcx=>aa.fM (l:=l) (j:=10) (c:=c0) rfl rfl rfl Tryz.underlying9 rfl (h0 (by simp[bP] at hcx;omega)) h1) ?_;refine ar.aW rfl rfl rfl rfl rfl rfl rfl (fun hcx=>Ze Tryz.func103) (fun hcx=>rG _ _) ?_;intro w2 hw2;replace bel:=bel.step hw2;replace k2:=k2.step hw2;refine ar.tv rfl rfl rfl rfl rfl rfl rfl rfl rfl rfl rfl ?_;refine fh ?_;refine aS 0 2 3 18 (Zt ?_);refine Cd.cond rfl (fun h=> ?_) (fun h=> ?_)
 ·have hf:(decide (10≤l.length)&& !(decide (10<l.length)&&bl c0))=false:=by
   cases hp:bl c0 with
   |false=>rw[hp] at h;simp at h⊢;omega
   |true=>rw[hp] at h;simp at h⊢;omega
  rw[hf];refine ah ?_;refine Zv (aa.build rfl rfl (iB _)) ?_;refine Zo 4 k2 ?_;intro w3 pw3;replace bel:=bel.put k2 pw3 e2;replace k2:=pw3.an;refine Za ?_;refine aS 0 2 3 18 (Zt (Cd.ret (ab.ae ?_)));refine ab.fW rfl rfl rfl k2 Tryz.underlying221 rfl (m:=4) (by kernel_rfl) rfl (.inl rfl) ?_;exact⟨0,[],0,rfl,(fun h=>by cases h),bel⟩
 ·have hf:(decide (10≤l.length)&& !(decide (10<l.length)&&bl c0))=true:=by
   cases hp:bl c0 with
   |false=>rw[hp] at h;simp at h⊢;omega
   |true=>rw[hp] at h;simp at h⊢;omega
  have h10:10≤l.length:=by simp at hf;exact hf.1
  rw[hf,Bool.true_and];refine Cd.skip (az ?_);refine Zm ?_;refine Zv (aa.sliceTo (j:=10) rfl rfl rfl Tryz.underlying9 rfl h10) ?_;refine Zc (Ze Tryz.func239) (oC (l.take 10) _ (qo hl 10) (by rw[List.length_take];omega)) ?_;rintro e w5 ⟨rfl,hb5⟩;refine⟨_,rfl,?_⟩;replace bel:=bel.step hb5;replace k2:=k2.step hb5;refine Zm ?_;refine Zx ?_;refine Zx ?_;refine Za ?_;refine Za ?_;refine aV 0 2 3 4 5 18 (az ?_);refine Zm ?_;refine Zv (aa.sliceTo (j:=10) rfl rfl rfl Tryz.underlying9 rfl h10) ?_;refine Zm ?_;refine Zv (aa.build rfl rfl (ir _ _ _ _)) ?_;refine Zm ?_;refine Zo 4 k2 ?_;intro w3 pw3;replace bel:=bel.put k2 pw3 e2;replace k2:=pw3.an;refine Za ?_;refine aV 0 2 3 4 5 18 (Zt (Cd.ret ?_));refine ab.fW rfl rfl rfl k2 Tryz.underlying221 rfl (m:=4) (by kernel_rfl) rfl (.inl rfl) ?_;exact⟨2,l.take 10,fX (l.take 10),rfl,fun _=>⟨rfl,rfl,rfl⟩,bel⟩
theorem tb (l:List Nat)(w:World)(hl:∀x∈l,x<256)(hlen:l.length≤9223372036854775807):
  Calls Tryz.prog 232 #[.string (strOf l)] w fun e w'=>∃v ok,e= .returned (.tuple #[.agg #[.int .i64 1, .string (strOf (l.take (runN bl l))), .int .i64 v, .int .i64 0], .bool ok])∧yX (l.take (runN bl l)) 0 v ok∧Grow w w':=by
 have bel:=Below.refl w.heap.size w;have hr:=jk bl l;refine Zs 22 Tryz.func232 ?_;refine ah ?_;refine Zl aZ ?_;intro g2 w1 n2;have e2:=Nat.le_trans bel.size n2.ge;replace bel:=bel.step n2.below;have k2:=n2.an;refine Za ?_;refine bk 0 2 3 (az ?_);refine Zm ?_;refine Zc (Ze Tryz.func102) (mZ l _ hl hlen) ?_;rintro e w2 ⟨rfl,hb2⟩;refine⟨_,rfl,?_⟩;replace bel:=bel.step hb2;replace k2:=k2.step hb2
 generalize runN bl l=n at *
 refine Za ?_;refine aS 0 2 3 4 (az ?_);refine Zm ?_;refine Zm ?_;refine Zv (aa.sliceTo (j:=n) rfl rfl rfl Tryz.underlying9 rfl hr) ?_;refine Zc (Ze Tryz.func240) (tl (l.take n) 0 _ (qo hl n) (by rw[List.length_take];omega) (by unfold bu;omega)) ?_;rintro e w3 ⟨v,ok,rfl,ha,hb3⟩;refine⟨_,rfl,?_⟩;replace bel:=bel.step hb3;replace k2:=k2.step hb3;refine Zm ?_;refine Zx ?_;refine Zx ?_;refine Za ?_;refine Za ?_;refine aV 0 2 3 4 5 6 (az ?_);refine Zm ?_;refine Zm ?_;refine Zv (aa.sliceTo (j:=n) rfl rfl rfl Tryz.underlying9 rfl hr) ?_;refine Zm ?_;refine Zv (aa.build rfl rfl (ir _ _ _ _)) ?_;refine Zm ?_;refine Zo 4 k2 ?_;intro w2 pw2;replace bel:=bel.put k2 pw2 e2;replace k2:=pw2.an;refine Za ?_;refine aV 0 2 3 4 5 6 (Zt (Cd.ret ?_));refine ab.fW rfl rfl rfl k2 Tryz.underlying221 rfl (m:=4) (by kernel_rfl) rfl (.inl rfl) ?_;exact⟨v,ok,rfl,ha,bel⟩
def iP (l:List Nat):Option (Int × List Nat × Int):=match l with
 | []=>none
 |c::r=>if fP c then(if lL (c::r) then some (2,(c::r).take 10,fX ((c::r).take 10)) else(pY ((c::r).take (runN bl (c::r)))).map fun v=>(1,(c::r).take (runN bl (c::r)),v))
  else if qF c then(if runN bl (c::r)≤16 then some (3,(c::r).take (runN bl (c::r)),0) else none)
  else(nL (c::r)).map fun s=>(0,s,0)
theorem uc {α:Type}(p:α→Bool):∀(L:List α) (k:Nat) (s:α),(∀j s',j<k→L[j]? =some s'→p s'=false)→L[k]? =some s→p s=true→L.find? p=some s
 | [],k,s,_,h,_=>by simp at h
 |x::L,0,s,_,h,hp=>by simp at h;subst h;simp[hp]
 |x::L,k+1,s,hn,h,hp=>by
  have h0:=hn 0 x (by omega) (by simp);rw[List.find?_cons,h0];exact uc p L k s (fun j s' hj hs=>hn (j+1) s' (by omega) (by simpa using hs)) (by simpa using h) hp
theorem zi {α:Type}(p:α→Bool)(L:List α)(h:∀(j:Nat) (s':α),L[j]? =some s'→p s'=false):L.find? p=none:=by
 rw[List.find?_eq_none];intro x hx;obtain⟨j,hj,rfl⟩:=List.getElem_of_mem hx;rw[h j _ (List.getElem?_eq_getElem hj)];simp
theorem xd:∀s∈ep,∀x∈s,x<256:=by decide
theorem wm (l:List Nat)(w:World)(hl:∀x∈l,x<256)(hlen:l.length≤9223372036854775807)(hne:l≠ []):
  Calls Tryz.prog 206 #[.string (strOf l)] w fun e w'=>∃a b c ok,e= .returned (.tuple #[.agg #[.int .i64 a, .string (strOf b), .int .i64 c, .int .i64 0], .bool ok])∧iP l=(if ok then some (a,b,c) else none)∧Grow w w':=by
 have bel:=Below.refl w.heap.size w
 obtain⟨c0,r,hcr⟩:∃c r,l=c::r:=by
  cases l with
  |nil=>exact absurd rfl hne
  |cons c r=>exact⟨c,r,rfl⟩
 have h0:l[0]? =some c0:=by rw[hcr];rfl
 have hc256:=hl c0 (List.mem_of_getElem? h0)
 have hnw:iP l=if fP c0 then(if lL l then some (2,l.take 10,fX (l.take 10)) else(pY (l.take (runN bl l))).map fun v=>(1,l.take (runN bl l),v))
  else if qF c0 then(if runN bl l≤16 then some (3,l.take (runN bl l),0) else none)
  else(nL l).map fun s=>(0,s,0):=by rw[hcr];rfl
 have hrl:=jk bl l;refine Zs 49 Tryz.func206 ?_;refine ah ?_;refine Zl aZ ?_;intro g2 w1 n2;have e2:=Nat.le_trans bel.size n2.ge;replace bel:=bel.step n2.below;have k2:=n2.an;refine Za ?_;refine bk 0 2 3 (aH (Cd.block (ah ?_)));refine Zm ?_;refine Zv (aa.fM (l:=l) (j:=0) rfl rfl rfl Tryz.underlying9 rfl h0 hc256) ?_;refine Zc (Ze Tryz.func145) (nP c0 _) ?_;rintro e w2 ⟨rfl,hb2⟩;refine⟨_,rfl,?_⟩;replace bel:=bel.step hb2;replace k2:=k2.step hb2;refine Za ?_;refine aS 0 2 3 9 (Zt ?_);refine Cd.cond rfl (fun h=> ?_) (fun h=> ?_)
 ·rw[h,if_pos rfl] at hnw
  refine Cd.seq (ah ?_);refine Zm ?_;refine Zc (Ze Tryz.func231) (ze l _ hl hlen) ?_;rintro e w3 ⟨a,b,c,rfl,hday,hb3⟩;refine⟨_,rfl,?_⟩;replace bel:=bel.step hb3;replace k2:=k2.step hb3;refine Zm ?_;refine Zx ?_;refine Zx ?_;refine Zl aZ ?_;intro g4 w2 n4;have e4:=Nat.le_trans bel.size n4.ge;have l4:=Nat.lt_of_lt_of_le k2.lt n4.ge;replace bel:=bel.step n4.below;replace k2:=k2.step n4.below;have k4:=n4.an;refine Zo 4 k4 ?_;intro w3 pw3;replace bel:=bel.put k4 pw3 e4;replace k2:=k2.put pw3 (by omega);replace k4:=pw3.an;refine Za ?_;refine aV 0 2 3 4 5 9 (az ?_);refine Zm ?_;refine ba 0 2 3 4 5 9 18 (Zt ?_);refine Cd.cond rfl (fun hd=> ?_) (fun hd=> ?_)
  ·rw[hd,if_pos rfl] at hnw
   obtain⟨rfl,rfl,rfl⟩:=hday hd;refine ah ?_;refine ZW 4 Tryz.underlying221 k4 ?_;refine Zo 4 k2 ?_;intro w4 pw4;replace bel:=bel.put k2 pw4 e2;replace k4:=k4.put pw4 (by omega);replace k2:=pw4.an;refine Za ?_;refine ba 0 2 3 4 5 9 18 (Zt (Cd.ret (ab.ae (ab.af (ab.ae ?_)))));refine ab.fW rfl rfl rfl k2 Tryz.underlying221 rfl (m:=4) (by kernel_rfl) rfl (.inl rfl) ?_;exact⟨_,_,_,true,rfl,hnw,bel⟩
  ·rw[hd,if_neg (by simp)] at hnw
   refine Cd.skip (az ?_);refine Zm ?_;refine Zc (Ze Tryz.func232) (tb l _ hl hlen) ?_;rintro e w4 ⟨v,ok,rfl,ha,hb4⟩;refine⟨_,rfl,?_⟩
   have hlt:l.take (runN bl l)=c0::(l.take (runN bl l)).drop 1:=by
    have hp:bl c0=true:=by unfold bl;rw[h];simp
    rw[hcr,eF,if_pos hp,List.take_succ_cons];rfl
   have hamt:=yP ha c0 _ hlt h;replace bel:=bel.step hb4;replace k2:=k2.step hb4;replace k4:=k4.step hb4;refine Zx ?_;refine Zx ?_;refine Zo 4 k2 ?_;intro w4 pw4;replace bel:=bel.put k2 pw4 e2;replace k4:=k4.put pw4 (by omega);replace k2:=pw4.an;refine Za ?_;refine ba 0 2 3 4 5 9 18 (Zt (Cd.ret (ab.af (ab.ae ?_))));refine ab.fW rfl rfl rfl k2 Tryz.underlying221 rfl (m:=4) (by kernel_rfl) rfl (.inl rfl) ?_;refine⟨_,_,_,ok,rfl,?_,bel⟩;rw[hnw,hamt]
   cases ok<;>rfl
 ·rw[h,if_neg (by simp)] at hnw
  refine ah ?_;refine Zm ?_;refine Zv (aa.fM (l:=l) (j:=0) rfl rfl rfl Tryz.underlying9 rfl h0 hc256) ?_;refine Zc (Ze Tryz.func101) (jR c0 _) ?_;rintro e w3 ⟨rfl,hb3⟩;refine⟨_,rfl,?_⟩;replace bel:=bel.step hb3;replace k2:=k2.step hb3;refine Za ?_;refine aL 0 2 3 9 24 (Zt ?_);refine Cd.cond rfl (fun h2=> ?_) (fun h2=> ?_)
  ·rw[h2,if_pos rfl] at hnw
   refine ah ?_;refine Zm ?_;refine Zc (Ze Tryz.func102) (mZ l _ hl hlen) ?_;rintro e w4 ⟨rfl,hb4⟩;refine⟨_,rfl,?_⟩;replace bel:=bel.step hb4;replace k2:=k2.step hb4
   generalize runN bl l=n at *
   refine Za ?_;refine aV 0 2 3 6 9 24 (az ?_);refine Zm ?_;refine Zm ?_;refine Zv (aa.sliceTo (j:=n) rfl rfl rfl Tryz.underlying9 rfl hrl) ?_;refine Zv (aa.build rfl rfl (iu _ _ _)) ?_;refine Zm ?_;refine Cb ?_;refine Zo 4 k2 ?_;intro w2 pw2;replace bel:=bel.put k2 pw2 e2;replace k2:=pw2.an;refine Za ?_;refine aV 0 2 3 6 9 24 (Zt (Cd.ret (ab.af (ab.ae ?_))));refine ab.fW rfl rfl rfl k2 Tryz.underlying221 rfl (m:=4) (by kernel_rfl) rfl (.inl rfl) ?_;refine⟨3,l.take n,0,decide ((n:Int)≤16),rfl,?_,bel⟩;rw[hnw]
   by_cases hn:n≤16
   ·rw[if_pos hn,decide_eq_true (show(n:Int)≤16 by omega)];rfl
   ·rw[if_neg hn,decide_eq_false (show¬(n:Int)≤16 by omega)];rfl
  ·rw[h2,if_neg (by simp)] at hnw
   refine Cd.skip (ab.ag (aH (ah ?_)));refine Zc (Ze Tryz.func233) (ve _) ?_;rintro e w4 ⟨gs,rfl,ks,hb4⟩;refine⟨_,rfl,?_⟩;replace bel:=bel.step hb4;replace k2:=k2.step hb4;refine Zv (aa.len rfl rfl Tryz.underlying66) ?_;refine Zm ?_;refine bO 0 2 3 9 24 36 37 38 (Zt (Cd.block ?_))
   refine Cd.loop (σ:=Nat) (fun k=>[(0, .string (strOf l)),(2, .pointer (some ⟨g2,0,none⟩)),(36, .slice (some ⟨gs,0,none⟩) 16 16),(37, .int .i64 16),(38, .int .i64 (k:Int))])
    (fun k wr=>k≤16∧(∀j s',j<k→ep[j]? =some s'→decide (l.take s'.length=s')=false)∧Below w.heap.size w wr∧aE wr g2 221 #[.int .i64 0, .string {data:= #[]}, .int .i64 0, .int .i64 0]∧aE wr gs 9 (iK ep).toArray) (fun k=>16-k) 0 ⟨by omega,fun j s' hj=>absurd hj (by omega),bel,k2,ks⟩ ⟨rfl,rfl,rfl,rfl,rfl,trivial⟩ ?_
   clear bel k2 ks;rintro k wr ⟨hk,hno,bel,k2,ks⟩;refine ah ?_;refine eU ?_;refine aV 0 2 36 37 38 39 (aH ?_);refine Cd.ao rfl (fun hc=> ?_) (fun hc=> ?_)
   ·obtain⟨s,hs⟩:∃s,ep[k]? =some s:=⟨_,List.getElem?_eq_getElem (show k<ep.length by have:ep.length=16:=rfl;omega)⟩
    have hsl:=xd s (List.mem_of_getElem? hs)
    have hcell:(iK ep).toArray[k]? =some (.string (strOf s)):=by
     unfold iK;simp[hs]
    refine Cd.skip (aH (Cd.block (ah ?_)));refine Zv (aa.mP rfl rfl rfl Tryz.underlying66 (by kernel_rfl) (j:=k) rfl (by omega)) ?_;refine Zv (aa.ak rfl rfl Tryz.underlying9 rfl ks hcell) ?_;refine Za ?_;refine ba 0 2 8 36 37 38 39 (az ?_);refine Zm ?_;refine Zm ?_;refine Zc (Ze Tryz.func234) (nW l s _ hl hsl) ?_;rintro e w6 ⟨rfl,rfl⟩;refine⟨_,rfl,?_⟩;refine bO 0 2 8 36 37 38 39 44 (Zt ?_);refine Cd.cond rfl (fun h3=> ?_) (fun h3=> ?_)
    ·have hsw:nL l=some s:=uc _ ep k s hno hs h3
     rw[hsw] at hnw;refine ah ?_;refine Zm ?_;refine Zv (aa.build rfl rfl (iu _ _ _)) ?_;refine Zo 4 k2 ?_;intro w2 pw2;replace bel:=bel.put k2 pw2 e2;replace k2:=pw2.an;refine Za ?_;refine cw 0 2 3 8 36 37 38 39 44 (Zt (Cd.ret (ab.af (ab.ae (ab.aJ (ab.af (ab.ae ?_)))))));refine ab.fW rfl rfl rfl k2 Tryz.underlying221 rfl (m:=4) (by kernel_rfl) rfl (.inl rfl) ?_;exact⟨0,s,0,true,rfl,hnw,bel⟩
    ·skip
     refine Cd.skip (ab.ag (et ?_));refine dq ?_;refine Zm ?_;refine bO 0 2 8 36 37 38 39 44 ?_;refine ab.round (k+1) ⟨rfl,rfl,rfl,rfl,rfl,trivial⟩ ⟨by omega,fun j s' hj hs'=> ?_,bel,k2,ks⟩ (by omega);rcases Nat.lt_or_ge j k with h4|h4
     ·exact hno j s' h4 hs'
     ·obtain rfl:j=k:=by omega
      rw[hs] at hs';injection hs' with hs'
      subst hs';exact h3
   ·have hsw:nL l=none:=zi _ ep fun j s' hs'=>hno j s' (by
     have:=(List.getElem?_eq_some_iff.1 hs').1;have uB:ep.length=16:=rfl;omega) hs'
    rw[hsw] at hnw;refine Cd.exit (ab.aD (ab.ay (ab.aA (az ?_))));refine Zv (aa.build rfl rfl (iB _)) ?_;refine Zo 4 k2 ?_;intro w2 pw2;replace bel:=bel.put k2 pw2 e2;replace k2:=pw2.an;refine Za ?_;refine ba 0 2 3 36 37 38 39 (Zt (Cd.ret ?_));refine ab.fW rfl rfl rfl k2 Tryz.underlying221 rfl (m:=4) (by kernel_rfl) rfl (.inl rfl) ?_;exact⟨0,[],0,false,rfl,hnw,bel⟩
structure Wd where
 kind:Int
 text:List Nat
 n:Int
 pos:Nat
def fH:Nat→List Nat→Nat→List Wd × Option Nat
 |0,_,_=>([],none)
 |f+1,l,p=>if l.length≤p then([],none) else match iP (l.drop p) with
  |none=>([],some p)
  |some (k,t,n)=>(⟨k,t,n,p⟩::(fH f l (p+t.length+bS (l.drop (p+t.length)))).1,(fH f l (p+t.length+bS (l.drop (p+t.length)))).2)
def aN (l:List Nat):List Wd × Option Nat:=fH (l.length+1) l (bS l)
def dQ (ws:List Wd):List Value:=ws.flatMap fun x=>[.int .i64 x.kind, .string (strOf x.text), .int .i64 x.n, .int .i64 (x.pos:Int)]
theorem qi (ws:List Wd)(x:Wd):dQ (ws++[x])=dQ ws++[.int .i64 x.kind, .string (strOf x.text), .int .i64 x.n, .int .i64 (x.pos:Int)]:=by simp[dQ]
theorem kP (f:Nat)(l:List Nat)(p:Nat)(h:l.length≤p):fH f l p=([],none):=by
 cases f with
 |zero=>rfl
 |succ f=>unfold fH;rw[if_pos h]
theorem je (f:Nat)(l:List Nat)(p:Nat)(h:p<l.length):fH (f+1) l p=match iP (l.drop p) with
  |none=>([],some p)
  |some (k,t,n)=>(⟨k,t,n,p⟩::(fH f l (p+t.length+bS (l.drop (p+t.length)))).1,(fH f l (p+t.length+bS (l.drop (p+t.length)))).2):=by
 rw[fH,if_neg (by omega)]
theorem tQ {l:List Nat}{c:Nat}{r:List Nat}(h:l=c::r)(hp:bl c=true):0<runN bl l:=by rw[h,eF,if_pos hp];omega
theorem il {l:List Nat}{k:Int}{t:List Nat}{n:Int}(h:iP l=some (k,t,n)):0<t.length∧t=l.take t.length∧t.length≤l.length:=by
 cases l with
 |nil=>cases h
 |cons c r=>
  have hrl:=jk bl (c::r)
  have htk:∀j,j≤(c::r).length→0<j→0<((c::r).take j).length∧(c::r).take j=(c::r).take ((c::r).take j).length∧((c::r).take j).length≤(c::r).length:=by
   intro j hj h0;have:((c::r).take j).length=j:=by rw[List.length_take];omega
   rw[this];exact⟨h0,rfl,hj⟩
  unfold iP at h;simp only at h
  generalize hl:c::r=l at *
  split at h
  ·rename_i hd
   have hp:bl c=true:=by unfold bl;rw[hd];simp
   have h0:=tQ hl.symm hp;split at h
   ·rename_i hday
    injection h with h
    injection h with h1 h
    injection h with h2 h
    subst h2;refine htk 10 ?_ (by omega);unfold lL at hday;simp at hday;exact hday.1.1
   ·cases ha:pY (l.take (runN bl l)) with
    |none=>rw[ha] at h;cases h
    |some v=>
     rw[ha] at h;injection h with h
     injection h with h1 h
     injection h with h2 h
     subst h2;exact htk _ hrl h0
  ·split at h
   ·rename_i hd
    have hp:bl c=true:=by unfold bl;rw[hd];simp
    have h0:=tQ hl.symm hp;split at h
    ·injection h with h
     injection h with h1 h
     injection h with h2 h
     subst h2;exact htk _ hrl h0
    ·cases h
   ·cases hs:nL l with
    |none=>rw[hs] at h;cases h
    |some s=>
     rw[hs] at h;injection h with h
     injection h with h1 h
     injection h with h2 h
     subst h2;have hm:=List.mem_of_find?_eq_some hs;have hp:=List.find?_some hs;simp at hp
     have h0:0<s.length:=by
      have:∀s∈ep,0<s.length:=by decide
      exact this s hm
     refine⟨h0,hp.symm,?_⟩;have:=congrArg List.length hp;rw[List.length_take] at this;omega
structure nH (w:World)(B:Nat)(e:TypeId)(size:Nat)(v:Value)(n:Nat)(xs:List Value):Prop where
 own:Own w B e size v n xs
section
variable {w w':World} {B size n:Nat} {e:TypeId} {v:Value} {xs:List Value}
theorem nH.step (h:nH w B e size v n xs)(hb:Below w.heap.size w w'):nH w' B e size v n xs:=⟨h.own.step hb⟩
theorem nH.put {g B':Nat}{T:TypeId}{cur cs:Array Value}(h:nH w B e size v n xs)(_k:aE w g T cur)(p:gI w w' g T cs)(_e:B'≤g)(hne:v.ownBlock≠some g:=by assumption):nH w' B e size v n xs:=⟨⟨h.own.row.kept p.grown (.inr hne)⟩⟩
theorem nH.ne (h:nH w B e size v n xs){g:Nat}(hg:w.heap.size≤g):v.ownBlock≠some g:=by
 intro hv;obtain⟨hl,⟨h0,h1⟩|⟨g',cap,cur,h0,h1,h2,h3,h4,h5,h6⟩⟩:=h.own.row
 ·rw[h0] at hv;cases hv
 ·rw[h0] at hv
  injection hv with hv
  have hv:g'=g:=hv;have hlt:g'<w.heap.size:=aE.lt (cs:=cur) (t:=e) h2;omega
end
theorem uJ (l:List Nat)(w:World)(hl:∀x∈l,x<256)(hlen:l.length≤9223372036854775807):
  Calls Tryz.prog 161 #[.string (strOf l)] w fun e w'=>Grow w w'∧((4000<l.length∧e= .returned (.tuple #[.slice none 0 0, .int .i64 0, .int .i64 4]))∨
   (l.length≤4000∧∃p:Nat,(aN l).2=some p∧e= .returned (.tuple #[.slice none 0 0, .int .i64 (p:Int), .int .i64 11]))∨
   (l.length≤4000∧(aN l).2=none∧∃v,e= .returned (.tuple #[v, .int .i64 0, .int .i64 0])∧Own w' w.heap.size 221 4 v (aN l).1.length (dQ (aN l).1))):=by
 have bel:=Below.refl w.heap.size w;refine Zs 46 Tryz.func161 ?_;refine ah ?_;refine Za ?_;refine Za ?_;refine Za ?_;refine aS 0 2 3 4 (aH (ah ?_));refine Zm ?_;refine Zv (aa.ed rfl rfl Tryz.underlying9) ?_;refine qK ?_;refine aL 0 2 3 4 11 (Zt ?_);refine Cd.ao rfl (fun h=> ?_) (fun h=> ?_)
 ·skip
  refine ah ?_;refine Za ?_;refine Za ?_;refine Za ?_;refine aL 0 2 3 4 11 (Zt (Cd.ret (ab.ae ?_)));refine ab.kE rfl rfl rfl rfl (.inl rfl) ?_;exact⟨bel, .inl ⟨by omega,rfl⟩⟩
 have h4:l.length≤4000:=by omega
 clear h;have hb0:=jr l;refine Cd.skip (az ?_);refine Za ?_;refine aV 0 2 3 4 5 11 (aH (ah ?_));refine Zm ?_;refine Zc (Ze Tryz.func205) (pM l _ hl hlen) ?_;rintro e w4 ⟨rfl,hb4⟩;refine⟨_,rfl,?_⟩;replace bel:=bel.step hb4;have own:nH w4 w.heap.size 221 4 (.slice none 0 0) 0 []:=⟨Own.nil _ _ _ _⟩;refine Za ?_;refine ba 0 2 3 4 5 6 11 (Zt (Cd.block ?_))
 refine Cd.loop (σ:=Nat × Value × List Wd) (fun s=>[(0, .string (strOf l)),(5,s.2.1),(6, .int .i64 (s.1:Int))])
  (fun s wr=>s.1≤l.length∧s.2.2.length≤s.1∧(∃f,l.length+1≤f+s.1∧aN l=(s.2.2++(fH f l s.1).1,(fH f l s.1).2))∧Below w.heap.size w wr∧nH wr w.heap.size 221 4 s.2.1 s.2.2.length (dQ s.2.2)) (fun s=>l.length-s.1) (bS l, .slice none 0 0,[])
  ⟨hb0,by simp,⟨l.length+1,by dsimp only;omega,rfl⟩,bel,own⟩ ⟨rfl,rfl,rfl,trivial⟩ ?_
 clear bel;clear own;rintro⟨p,v,ws⟩ wr ⟨hp,hwp,⟨f,hf,hall⟩,bel,own⟩;dsimp only at hp hwp hf hall own⊢;refine Cd.seq (ah ?_);refine Zm ?_;refine Zm ?_;refine Zv (aa.ed rfl rfl Tryz.underlying9) ?_;refine eU ?_;refine aS 0 5 6 17 (Zt ?_);refine Cd.ao rfl (fun hc=> ?_) (fun hc=> ?_)
 ·obtain⟨f',rfl⟩:∃f',f=f'+1:=⟨f-1,by omega⟩
  have hdl:=mu hl p;have hdn:(l.drop p).length≤9223372036854775807:=by rw[List.length_drop];omega
  have hstep:=je f' l p (by omega);refine Cd.skip (aH (Cd.block (ah ?_)));refine Zm ?_;refine Zm ?_;refine Zv (aa.sliceFrom (j:=p) rfl rfl rfl Tryz.underlying9 rfl hp) ?_;refine Zc (Ze Tryz.func206) (wm (l.drop p) _ hdl hdn (by intro h0;have:=congrArg List.length h0;rw[List.length_drop] at this;simp at this;omega)) ?_;rintro e w6 ⟨a,b,c,ok,rfl,hnx,hb6⟩;refine⟨_,rfl,?_⟩;replace bel:=bel.step hb6;replace own:=own.step hb6;have hneg:∀g,w6.heap.size≤g→v.ownBlock≠some g:=fun g hg=>own.ne hg;have hstep1:ok=false→fH (f'+1) l p=([],some p):=fun h=>by rw[hstep,hnx,h];rfl
  have hstep2:ok=true→fH (f'+1) l p=(⟨a,b,c,p⟩::(fH f' l (p+b.length+bS (l.drop (p+b.length)))).1,(fH f' l (p+b.length+bS (l.drop (p+b.length)))).2):=fun h=>by rw[hstep,hnx,h];rfl
  have hspec:ok=true→0<b.length∧b=(l.drop p).take b.length∧b.length≤(l.drop p).length:=fun h=>il (by rw[hnx,h];rfl);clear hstep hnx;refine Zm ?_;refine Zx ?_;refine Zx ?_;refine Zl aZ ?_;intro g7 w1 n7;have e7:=Nat.le_trans bel.size n7.ge;replace bel:=bel.step n7.below;replace own:=own.step n7.below;have k7:=n7.an;have hne7:v.ownBlock≠some g7:=hneg g7 n7.ge;refine Zo 4 k7 ?_;intro w2 pw2;replace bel:=bel.put k7 pw2 e7;replace own:=own.put k7 pw2 e7;replace k7:=pw2.an;refine Za ?_;refine aV 0 5 6 7 8 17 (aH (ah ?_));refine Zm ?_;refine gU ?_;refine ba 0 5 6 7 8 17 32 (Zt ?_);refine Cd.cond rfl (fun h=> ?_) (fun h=> ?_)
  ·have hok:ok=false:=by cases ok<;>simp at h⊢
   rw[hstep1 hok] at hall;refine ah ?_;refine Zm ?_;refine Za ?_;refine Za ?_;refine Za ?_;refine dr 0 2 3 4 5 6 7 8 17 32 (Zt (Cd.ret (ab.ae (ab.af (ab.ae (ab.aJ (ab.af (ab.ae ?_))))))));refine ab.kE rfl rfl rfl rfl (.inl rfl) ?_;exact⟨bel, .inr (.inl ⟨h4,p,by rw[hall],rfl⟩)⟩
  ·have hok:ok=true:=by cases ok<;>simp at h⊢
   obtain⟨s1,s2,s3⟩:=hspec hok;rw[List.length_drop] at s3;rw[hstep2 hok] at hall;clear hstep1 hstep2 hspec;have hbl:=jr (l.drop (p+b.length));rw[List.length_drop] at hbl;refine Cd.skip (az ?_);refine Zm ?_;refine Zf 3 Tryz.underlying221 ?_;refine Zq k7 ?_;intro w3 pw3;replace bel:=bel.put k7 pw3 e7;replace own:=own.put k7 pw3 e7;replace k7:=pw3.an;refine ba 0 5 6 7 8 17 32 (az ?_);refine Zm ?_;refine ZW 4 Tryz.underlying221 k7 ?_;refine Seq.slice (vs:=[_]) (s:=4) rfl rfl rfl Tryz.underlying215 (by kernel_rfl) (aZ) (by omega) (by omega) ⟨rfl,trivial⟩ rfl rfl rfl ?_;intro g38 w4 n38;have e38:=Nat.le_trans bel.size n38.ge;have l38:=Nat.lt_of_lt_of_le k7.lt n38.ge;replace bel:=bel.step n38.below;replace own:=own.step n38.below;replace k7:=k7.step n38.below;have k38:=n38.an;replace own:=own.own;refine Seq.append rfl rfl rfl Tryz.underlying215 (by kernel_rfl) aZ rfl (by decide) (b:=40) (by kernel_rfl) own (Reads.an (size:=4) k38 1 rfl) (by intro x hx;simp[aC,Value.cells] at hx;rcases hx with rfl|rfl|rfl|rfl<;>rfl) bel.size (by simp only[maxLen];omega) (by omega) rfl rfl rfl ?_;clear own;intro vw5 w5 own haw5;replace bel:=bel.trans haw5.below;replace k7:=k7.grown haw5.grown (fun e=>hne7 e.symm);replace own:nH w5 w.heap.size 221 4 vw5 (ws++[(⟨a,b,c,p⟩:Wd)]).length (dQ (ws++[⟨a,b,c,p⟩])):=⟨by rw[List.length_append,qi];exact own⟩;refine Za ?_;refine ba 0 5 6 7 8 17 32 (et ?_);refine Zm ?_;refine Zf 1 Tryz.underlying221 ?_;refine ZL Tryz.underlying9 k7 ?_;refine Zv (aa.ed rfl rfl Tryz.underlying9) ?_;refine dq ?_;refine Za ?_;refine ba 0 5 6 7 8 17 32 (ab.ag (et ?_));refine Zm ?_;refine Zm ?_;refine Zm ?_;refine Zv (aa.sliceFrom (j:=p+b.length) rfl rfl rfl Tryz.underlying9 rfl (by omega)) ?_;refine Zc (Ze Tryz.func205) (pM (l.drop (p+b.length)) _ (mu hl _) (by rw[List.length_drop];omega)) ?_;rintro e w8 ⟨rfl,hb8⟩;refine⟨_,rfl,?_⟩;replace bel:=bel.step hb8;replace own:=own.step hb8;replace k7:=k7.step hb8
   generalize hq:p+b.length+bS (l.drop (p+b.length))=q at *
   refine dq ?_;refine Za ?_;refine ba 0 5 6 7 8 17 32 ?_;refine ab.round (q,vw5,ws++[⟨a,b,c,p⟩]) ⟨rfl,rfl,congrArg (fun x:Int=>some (Value.int .i64 x)) (show((p:Int)+(b.length:Int)+(bS (l.drop (p+b.length)):Int))=((q:Nat):Int) by omega),trivial⟩ ⟨by dsimp only;omega,by dsimp only;rw[List.length_append];simp;omega,⟨f',by dsimp only;omega,?_⟩,bel,own⟩ (by dsimp only;omega);dsimp only;rw[hall,List.append_assoc];rfl
 ·have hpe:p=l.length:=by omega
  rw[kP f l p (by omega)] at hall;dsimp only at hall;rw[List.append_nil] at hall;refine Cd.exit (ab.aD (ab.ay (ab.aA (az ?_))));refine Zm ?_;refine Za ?_;refine Za ?_;refine Za ?_;refine ba 0 2 3 4 5 6 17 (Zt (Cd.ret ?_));refine ab.kE rfl rfl rfl rfl (.inl rfl) ?_;exact⟨bel, .inr (.inr ⟨h4,by rw[hall],v,rfl,by rw[hall];exact own.own⟩)⟩
section
variable {P:Program} {E:Operand→Option Value} {o:Oper} {w:World} {x y:Operand} {T:TypeId}
theorem aa.o8 {g off m:Nat}{cs:Array Value}{ps:List Value}{t:TypeId}{d:TypeDesc}(ho:o.op= .load T x)(hx:E x=some (.pointer (some ⟨g,off,none⟩)))(hT:P.underlying T=some d)(hd:(match d with| .struct _| .array _ _=>true|_=>false)=true)(hb:aE w g t cs)(hs:b6 P T m=true)(hm:ps.length=m)(hp:∀j v,ps[j]? =some v→cs[off+j]? =some v):aa P E o w (.agg ps.toArray) w:=by
 obtain⟨i,hi,hsz⟩:=bb hs
 exact .wY (cs:=ps) ho hx hT hd hi (by omega) (fun j v hj=>by
  have hadd:(⟨g,off,none⟩:Addr).add j=⟨g,off+j,none⟩:=by unfold Addr.add;split<;>simp_all
  rw[hadd,hb.cell (off+j)];exact hp j v hj)
end
theorem aa.yj {P:Program}{E:Operand→Option Value}{o:Oper}{w:World}{x:Operand}{T T':TypeId}{p:Int}{r:Nat}(ho:o.op= .convert T T' x)(hx:E x=some (.int .i64 p))(hS:P.underlying T=some (.int .i64))(hT:P.underlying T'=some (.int .u64))(hr:p%18446744073709551616=(r:Int)):aa P E o w (.int .u64 (r:Int)) w:=
 .fe ho hx hS hT (by rw[IntKind.wrap_u64,hr])
section
variable {w w':World} {T:List Nat} {es:List Ex} {vs:List Value}
end
theorem Own.aQ {w:World}{B size n:Nat}{e:TypeId}{v:Value}{xs:List Value}(h:Own w B e size v n xs):∀b,v.ownBlock=some b→B≤b∧b<w.heap.size:=fun b hb=>by
 obtain⟨h1,h2⟩:=h.row;rcases h2 with ⟨rfl,-⟩|⟨g',cap,cur,rfl,e2,e3,e4⟩
 ·cases hb
 ·injection hb with hb
  subst hb;exact⟨e2,(show aE w g' e cur from e3).lt⟩
section
variable {P:Program} {ops:Array Oper} {Q:Exit→Act→World→Prop} {rest:List Oper} {o:Oper} {n d:Nat} {F:List (Nat × Value)} {w:World} {v:Value} {x y:Operand}
theorem Seq.hZ {t e B B2 size b k m c:Nat}{A:Option Addr}{z:Value}{xs news:List Value}(ho:o.op= .call {callee:= .builtin .append,args:= #[x,y],argTypes:= #[t,t]}) (hx:dg F x=some v) (hy:dg F y=some (.slice A m c)) (ht:P.underlying t=some (.slice e)) (hs:b6 P e size=true) (hz:br P e=some (some z)) (hzs:z.cells.size=size) (hsz:0<size) (hby:(P.info? e).map (·.bytes)=some b)
  (hown:Own w B e size v k xs) (hr:Reads w B2 size A m news) (h1:∀u∈news,u.oneCell'=true) (hB:B≤w.heap.size) (h63:k+m≤maxLen) (hbytes:(k+m)*b≤140737488355328) (hg:o.guard=none) (hd:o.dst=some d) (hn:Nat.blt d n=true)
  (h:∀v' w',Own w' B e size v' (k+m) (xs++news)→App w w' B v→(v'.ownBlock=v.ownBlock∨v'.ownBlock=some w.heap.size)→Seq P ops Q rest n ((d,v')::F) w'):Seq P ops Q (o::rest) n F w:=by
 obtain⟨i,hi,hisz⟩:=bb hs;have hz':i.zero=some z:=by unfold br at hz;rw[hi] at hz;injection hz
 have hb':i.bytes=b:=by rw[hi] at hby;injection hby
 obtain⟨v',w',hrun,h2,h3,h4⟩:=iY (P:=P) w B t o.type e i z size b ht hi hz' hisz hb' hzs hsz v k xs hown.row B2 A m c news hr h1 h63 hbytes hB;refine Seq.val (v:=v') (w':=w') (fun ρ hρ=> ?_) hg hd hn (h v' w' ⟨h2⟩ ⟨?_,h3⟩ h4)
 ·unfold execOp
  simp only[ho,resolve,invoke,builtin,Sem.run_bind,Sem.run_pure,Result.andThen_ok,List.map_toArray,List.map_cons,List.map_nil,hρ _ _ hx,hρ _ _ hy,hrun]
 ·refine⟨h3.os,h3.tape,h3.output,h3.size,fun j hj=>h3.block j (by omega) fun e'=> ?_⟩
  rcases hown.row.2 with ⟨rfl,_⟩|⟨g,cap,cur,rfl,hBg,_⟩
  ·cases e'
  ·injection e' with e'
   have:j=g:=e';omega
end
def DI (l:List Int):List Value:=l.map fun z=> .int .i64 z
theorem zW (l:List Int)(k:Nat):(DI l)[k]? =l[k]?.map (Value.int .i64):=by simp[DI]
theorem ei (a b:List Value):aC (a++b)=aC a++aC b:=by
 induction a with
 |nil=>rfl
 |cons v r ih=>show v.cells.toList++aC (r++b)=(v.cells.toList++aC r)++aC b;rw[ih,List.append_assoc]
theorem Own.app {B B2 B' n n2 size size2:Nat}{w w':World}{e e2:TypeId}{v v2:Value}{xs xs2:List Value}(h:Own w B e size v n xs)(o:Own w B2 e2 size2 v2 n2 xs2)(ha:App w w' B' v2)(hne:e2≠e:=by decide):Own w' B e size v n xs:=by
 refine⟨h.row.kept ha.grown ?_⟩;obtain⟨h1,h2⟩:=h.row;rcases h2 with ⟨rfl,-⟩|⟨g',cap,cur,rfl,e2,e3,e4⟩
 ·exact .inl rfl
 ·exact .inr fun e'=>cA o.row (show aE w g' e cur from e3) hne e'.symm
theorem aE.app {k n B B' size:Nat}{w w':World}{t e:TypeId}{cs:Array Value}{v:Value}{xs:List Value}(h:aE w k t cs)(o:Own w B e size v n xs)(ha:App w w' B' v)(hne:e≠t:=by decide):aE w' k t cs:=h.grown ha.grown (fun e'=>cA o.row h hne e'.symm)
def B4 (v u:Value):Prop:=∀b,v.ownBlock=some b→u.ownBlock≠some b
def cz (e:Ex):Bool:=decide (e.nodes≤200)&&decide (e.depth≤16)&&bQ e
def qZ (y:Int):Int:=if jO y then 366 else 365
theorem rH:gC 1970 1 1=0:=by decide
theorem tN:gC 10000 1 1=2932897:=by decide
theorem lD (y:Int):jO y=true↔y%4=0∧(y%100≠0∨y%400=0):=by unfold jO;simp
theorem mK (y:Int):gC y 1 1=(y-1)/400*146097+((y-1)%400*365+(y-1)%400/4-(y-1)%400/100+306)-719468:=by
 unfold gC pN ofM;rw[if_pos (by omega),if_pos (by omega)];omega
theorem tV (y:Int):gC (y+1) 1 1=gC y 1 1+qZ y:=by
 rw[mK,mK];have hl:=lD y;unfold qZ;rw[Int.add_sub_cancel]
 generalize hr:(y-1)%400=r
 generalize hq:(y-1)/400=q
 obtain rfl:y=400*q+r+1:=by omega
 have hr1:0≤r∧r<400:=by omega
 split
 ·rename_i h
  have:=hl.1 h
  by_cases h4:r=399
  ·subst h4;omega
  ·rw[show(400*q+r+1)/400=q by omega,show(400*q+r+1)%400=r+1 by omega];omega
 ·rename_i h
  have:¬((400*q+r+1)%4=0∧((400*q+r+1)%100≠0∨(400*q+r+1)%400=0)):=fun h2=>h (hl.2 h2)
  by_cases h4:r=399
  ·subst h4;omega
  ·rw[show(400*q+r+1)/400=q by omega,show(400*q+r+1)%400=r+1 by omega];omega
theorem xf (y m d:Int):gC y m d=gC y m 1+d-1:=by unfold gC;omega
theorem nN (y m:Int)(h1:1≤m)(h2:m≤11):gC y (m+1) 1=gC y m 1+bE y m:=by
 rcases(show m=1∨m=2∨m=3∨m=4∨m=5∨m=6∨m=7∨m=8∨m=9∨m=10∨m=11 by omega) with rfl|rfl|rfl|rfl|rfl|rfl|rfl|rfl|rfl|rfl|rfl
 case inr.inl=>
  have:=tV y;rw[mK,mK] at this;unfold qZ at this;unfold gC pN ofM bE;split at this<;>rename_i h<;>simp[h] at this⊢ <;>omega
 all_goals
  unfold gC pN ofM bE;simp
  try omega
theorem s8 (y:Int):gC (y+1) 1 1=gC y 12 1+31:=by
 rw[mK];unfold gC pN ofM;simp;omega
theorem vq (y m:Int):0≤bE y m:=by
 unfold bE;split
 ·split<;>omega
 ·split
  ·omega
  ·split<;>omega
theorem uZ (y:Int):∀(k:Nat) (m:Int),1≤m→m+k≤12→gC y m 1≤gC y (m+k) 1:=by
 intro k
 induction k with
 |zero=>intro m _ _;simp
 |succ k ih=>
  intro m h1 h2;have h3:=ih m h1 (by omega);have h4:=nN y (m+k) (by omega) (by omega);have h5:=vq y (m+k);rw[show m+((k+1:Nat):Int)=m+k+1 by omega];omega
theorem mr {y m m':Int}(h1:1≤m)(h2:m≤m')(h3:m'≤12):gC y m 1≤gC y m' 1:=by
 have:=uZ y (m'-m).toNat m h1 (by omega)
 rwa [show m+((m'-m).toNat:Int)=m' by omega] at this
theorem uF (y:Int):365≤qZ y:=by unfold qZ;split<;>omega
theorem vb:∀(k:Nat) (y:Int),gC y 1 1≤gC (y+k) 1 1:=by
 intro k
 induction k with
 |zero=>intro y;simp
 |succ k ih=>
  intro y;have h1:=ih y;have h2:=tV (y+k);have h3:=uF (y+k);rw[show y+((k+1:Nat):Int)=y+k+1 by omega];omega
theorem mA {y y':Int}(h:y≤y'):gC y 1 1≤gC y' 1 1:=by
 have:=vb (y'-y).toNat y
 rwa [show y+((y'-y).toNat:Int)=y' by omega] at this
theorem zu {y m d:Int}(h:iV y m d=true):1970≤y∧y≤9999∧1≤m∧m≤12∧1≤d∧d≤bE y m∧gC y 1 1≤gC y m d∧gC y m d<gC (y+1) 1 1∧0≤gC y m d∧gC y m d≤2932896:=by
 unfold iV at h;simp at h;obtain⟨⟨⟨h1,h2⟩,h3⟩,h4⟩:=h;obtain⟨h5,h6,-⟩:=mv (y:=y) (m:=m) (by omega);have a1:=mr (y:=y) (m:=1) (m':=m) (by omega) h5 h6;have a2:=xf y m d
 have a3:gC y m 1+bE y m≤gC (y+1) 1 1:=by
  by_cases hm:m=12
  ·subst hm
   rw[s8];have:bE y 12=31:=by unfold bE;simp
   omega
  ·have b1:=nN y m h5 (by omega)
   have b2:=mr (y:=y) (m:=m+1) (m':=12) (by omega) (by omega) (by omega);have b3:=s8 y;omega
 have a4:=mA (y:=1970) (y':=y) h1;have a5:=mA (y:=y+1) (y':=10000) (by omega);rw[rH] at a4;rw[tN] at a5;exact⟨h1,h2,h5,h6,h3,h4,by omega,by omega,by omega,by omega⟩
def mg (v:Nat):Nat→List Nat
 |0=>[]
 |n+1=>(48+v/10^n%10)::mg v n
theorem xQ (v n:Nat):(mg v n).length=n:=by induction n with
 |zero=>rfl
 |succ n ih=>unfold mg;simp[ih]
theorem qC (v n:Nat):∀x∈mg v n,x<256:=by induction n with
 |zero=>intro x h;cases h
 |succ n ih=>
  intro x h;unfold mg at h;rcases List.mem_cons.1 h with rfl|h
  ·omega
  ·exact ih x h
def j7 (y m d:Nat):List Nat:=mg y 4++[45]++mg m 2++[45]++mg d 2
theorem zo {y m d:Int}(h:iV y m d=true):1970≤y∧y≤9999∧1≤m∧m≤12∧1≤d∧d≤31:=by
 obtain⟨h1,h2,h3,h4,h5,h6,-⟩:=zu h;obtain⟨-,-,h7⟩:=mv (y:=y) (m:=m) (by omega);exact⟨h1,h2,h3,h4,h5,by omega⟩
end Go.Proofs.YtigoimhndlnhfaaGreat