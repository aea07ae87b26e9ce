/-
  Texts that were joined: PanM, LexI, LexJ, PanN, PanO, PanP, PanQ, ParB, PanR, PanS, PanT, PanU, PanV, CutA, CutB, CutC, ParC, ParD, ClmA, ClmB, ClmC, ParE, LexK, DateE, LexL. Conditions: what each theorem names.
-/
import Derived.Test.YtigoimhndlnhfaaGreatE4
set_option linter.unusedSectionVars false
namespace Go.Proofs.YtigoimhndlnhfaaGreat
open Go.RowKit
def lZ (g:FuncId)(cap:List Value):Deferred:= {target:= .fn (.func g) cap.toArray,args:= #[]}
theorem Seq.Di {P:Program}{ops:Array Oper}{Q:Exit→Act→World→Prop}{rest:List Oper}{o:Oper}{n t:Nat}{F:List (Nat × Value)}{w:World}{g:FuncId}{cap:List Value}{ts:Array TypeId}(ho:o.op= .defer {callee:= .value (.tmp t),args:= #[],argTypes:=ts}) (hx:gg F (.tmp t)=some (.func (.func g) #[] cap.toArray)) (hg:o.guard=none) (hd:o.dst=none)
  (h:∀I:Inhabited (List Deferred),I.default=[lZ g cap]→ @Seq I P ops Q rest n F w):Seq P ops Q (o::rest) n F w:=by
 intro a ha;refine wpList_plain hg fun K hK=> ?_
 have hr:(execOp a.eval o).run P w= .ok (.defer (lZ g cap)) w:=by
  unfold execOp;have hf:a.eval (.tmp t)= .func (.func g) #[] cap.toArray:=ha.ev _ _ hx;simp only[ho,resolve,hf,Deferred.ofValue,Sem.run_bind,Sem.run_pure,Result.andThen_ok];simp[lZ]
 unfold Oper.wp;rw[hr,Oper.upon_defer,hd];have hD:lZ g cap::a.defers=[lZ g cap]:=by rw[ha.defers];rfl
 exact hK _ _ (h ⟨[lZ g cap]⟩ rfl _ (@Fr.mk ⟨[lZ g cap]⟩ n F _ ha.size hD ha.slot))
theorem mD {P:Program}{fn:Func}{p g:Nat}{ty t:TypeId}{b:Bool}{w:World}(h:fn.results= #[.cell p ty]) (tmps:Array Value) (hp:tmps[p]? =some (.pointer (some ⟨g,0,none⟩))) (hu:P.underlying ty=some .bool) (hb:aK w g t #[.bool b]):(results fn tmps).run P w= .ok (.bool b) w:=by
 have hagg:(isAgg ty).run P w= .ok false w:=by
  unfold isAgg;rw[Sem.run_bind,run_underlying hu w];rfl
 have hc:w.cell? ⟨g,0,none⟩=some (.bool b):=by rw[hb.cell 0];rfl
 simp[results,h,hp,asAddr,loadVar,Sem.run_bind,hagg,go_sem,hc]
def EI {α:Type}(K:Ctx)(h:Nat)(w:World)(r:Rs α)(okv:α→World→Prop)(e:Ending)(w':World):Prop:=
 Fz h K.g w w'∧Kp w w'∧match r with
 | .out=>False
 | .bad p ov=>e= .returned (.bool false)∧∃d,PW K w' p d ov
 | .ok a p=>e= .returned (.bool (decide (p=K.ws.length)))∧(∃d,PW K w' p d false)∧okv a w'
def Ea {α:Type}(K:Ctx)(h:Nat)(W:World)(r:Rs α)(okv:α→World→Prop)(e:Ending)(W':World):Prop:=match r with
 | .out=>False
 | .bad p ov=>Fz W.heap.size K.g W W'∧e= .panicked m5∧∃d,PW K W' p d ov
 | .ok a p=>Fz h K.g W W'∧Kp W W'∧(∃v,e= .returned v)∧PW K W' p 0 false∧okv a W'
theorem zF {α:Type}(K:Ctx)(hK:K.Ok)(f:Nat)(cp:List Value)(h:Nat)(r:Rs α)(okv:World→α→World→Prop)(ok2:α→World→Prop)(w:World)(pw:PW K w 0 0 false)(hh:h≤w.heap.size)(hne:r≠ .out)(eg:∀args w,(callFunc f args).run Tryz.prog w= .ok (.enter f args) w)
  (hok:∀a W0 W W' g,okv W0 a W→w.heap.size≤g→g<W0.heap.size→W0.heap.size≤W.heap.size→W.heap.size≤W'.heap.size→(∀k,k<W.heap.size→k≠g→W'.heap[k]? =W.heap[k]?)→ok2 a W')
  (hc:∀W,Below w.heap.size w W→PW K W 0 0 false→Calls Tryz.prog f cp.toArray W (Ea K h W r (okv W))):
  Calls Tryz.prog 162 #[.pointer (some ⟨K.g,0,none⟩), .func (.func f) #[] cp.toArray] w (EI K h w r ok2):=by
 have ae:=Below.refl w.heap.size w;have hle:=hK.le;have hlt:=pw.av.lt;have hen:∀args w,(callFunc 207 args).run Tryz.prog w= .ok (.enter 207 args) w:=fun args w=>bG Tryz.func207 (by kernel_rfl) rfl args w;refine Calls.BA 18 Tryz.func162 rfl rfl rfl ?_;refine ao ?_;refine Zl nC ?_;intro g4 w1 n4;have e4:=Nat.le_trans ae.size n4.ge;replace ae:=ae.step n4.below;have k4:=n4.av;refine bD 0 1 4 (aG ?_);refine Zv (aa.makeFunc (v:= .func (.func 207) #[] #[.pointer (some ⟨g4,0,none⟩)]) rfl (show iG _ _=some [] from rfl) (show iG _ _=some [.pointer (some ⟨g4,0,none⟩)] from rfl) rfl) ?_;refine Seq.Di (cap:=[.pointer (some ⟨g4,0,none⟩)]) rfl rfl rfl rfl ?_;intro I hI;have hcl:=hc _ ae (pw.step hle ae);have hltc:=k4.lt;have kp:Kp w w1:=(Kp.refl w).step ae;have hs1:=ae.size;refine bD 0 1 4 (aG ?_);refine Zm ?_;rcases Rs.dy hne with ⟨q,ov,hr⟩|⟨x,q,hr⟩
 ·rw[hr] at hcl⊢
  refine Seq.cS (Enters.value (first:=[]) (cap:=cp) rfl rfl rfl eg) rfl hcl ?_;rintro e w6 ⟨hf,rfl,d6,hp6⟩;refine⟨_,rfl,fun a ha=> ?_⟩;have k46:=k4.fz hf (by omega);show Leaves Tryz.prog _ a.tmps _ a.defers (.panicking m5) w6;rw[ha.defers,hI];refine leaves_cons (by simp) (f:=207) (args:= #[.pointer (some ⟨g4,0,none⟩)]) (by simp[invoke,hen]) ((uL g4 false w6 k46).mono fun e u' w' ⟨h1,h2,h3,h4⟩=> ?_);subst h1 h2;have hfw:Fz h K.g w w6:=(Fz.of (ae.mono hh)).trans (hf.less (by omega))
  have hg4:Fz h K.g w6 w':=⟨h4.os,h4.tape,h4.output,h4.size,fun k hk _=>by
   have:=hf.size;exact h4.block k (by omega) (fun e=>by injection e with e;omega)⟩
  have kp6:Kp w w6:=kp.fz (pw.step hle ae).av hf;refine⟨_,mD rfl a.tmps (ha.slot 4 _ rfl) Tryz.underlying4 h3,hfw.trans hg4,⟨Nat.le_trans kp6.size h4.size,fun k t cs hb h1 h2 h3'=>(kp6.ew k t cs hb h1 h2 h3').grown h4 (fun e=>by injection e with e;have:=hb.lt;omega)⟩,rfl,d6,hp6.av.grown h4 (fun e=>by injection e with e;omega),hp6.rd.below ⟨h4.os,h4.tape,h4.output,h4.size,fun k hk=>h4.block k (by have:=hp6.av.lt;omega) (fun e=>by injection e with e;omega)⟩,hp6.bK,hp6.dU⟩
 rw[hr] at hcl⊢;refine Seq.call (Enters.value (first:=[]) (cap:=cp) rfl rfl rfl eg) rfl rfl rfl hcl ?_;rintro e wq ⟨hf,kpq,⟨v,rfl⟩,pwq,hov⟩;refine⟨_,rfl,?_⟩;have hbel1:=ae;clear ae;have hfw:Fz h K.g w wq:=(Fz.of (hbel1.mono hh)).trans hf;have kp6:=kp.trans kpq;have k46:=kpq.av k4;have hg4:g4≠K.g:=by omega
 clear k4;have k4:=k46;have k99:=pwq.av;have ae:=Below.refl wq.heap.size wq;have loc:=Fz.refl wq.heap.size g4 wq;have e4':g4=g4:=rfl;refine bD 0 1 4 (aJ ?_);refine Cd.draw 10 (by kernel_rfl) [] (.inl rfl) rfl Grow Grow.refl (fun _ _ _=>Grow.trans) ?_;intro w2 hw2 zw2;replace ae:=ae.step hw2;replace k99:=k99.step hw2;replace k4:=k4.step hw2;have zbel:=ae.size;have zlt:=k4.lt;refine cn ?_;refine Zd (fun w hG=>aa.nilCheck rfl rfl) ?_;refine Zd (fun w hG=>aa.an 1 rfl rfl Tryz.underlying219 rfl (by kernel_rfl)) ?_;refine Zd (fun w hG=>aa.ag rfl rfl Tryz.underlying3 rfl (k99.step hG) rfl) ?_;refine cn ?_;refine Zd (fun w hG=>aa.nilCheck rfl rfl) ?_;refine Zd (fun w hG=>aa.an 0 rfl rfl Tryz.underlying219 rfl (by kernel_rfl)) ?_;refine Zd (fun w hG=>aa.ag rfl rfl Tryz.underlying215 rfl (k99.step hG) rfl) ?_;refine Zd (fun w hG=>aa.len rfl rfl Tryz.underlying215) ?_;refine Zd (fun w hG=>aa.aB rfl rfl rfl) ?_;refine Dr.nil ?_;refine ba.done (F':=[(0,_),(1,_),(4,_),(17,_)]) rfl ⟨rfl,rfl,rfl,rfl,trivial⟩ ?_;intro w3 hw3 fw3;replace ae:=ae.step hw3;replace k99:=k99.step hw3;replace k4:=k4.step hw3;have hbw:=ae;have hsw:=ae.size;have hlt4:=k4.lt;have k4q:=k46;refine Zq k4 ?_;intro w4 pw4;replace k99:=k99.put pw4 (by omega);replace k4:=pw4.av;refine bD 0 1 4 (Zt (Cd.ret ?_));intro a ha;show Leaves Tryz.prog _ a.tmps _ a.defers .returning _;rw[ha.defers,hI];refine leaves_cons (by simp) (f:=207) (args:= #[.pointer (some ⟨g4,0,none⟩)]) (by simp[invoke,hen]) ((wk g4 _).mono fun e u' w' ⟨h1,h2,h3⟩=> ?_);subst h1 h2 h3;have hgr:=pw4.grown;have hsz:=pw4.size;have hblk:∀k,k<wq.heap.size→k≠g4→w'.heap[k]? =wq.heap[k]? :=fun k hk hne=>(hgr.block k (by omega) (fun e=>hne (by injection e))).trans (hbw.block k hk);have hfe:Fz h K.g wq w':=⟨hgr.os.trans hbw.os,hgr.tape.trans hbw.tape,hgr.output.trans hbw.output,by omega,fun k hk _=>hblk k (by have:=hfw.size;omega) (by omega)⟩;have hdd:(decide ((q:Int)=(K.ws.length:Int)))=decide (q=K.ws.length):=by rw[decide_eq_decide];omega
 refine⟨_,mD rfl a.tmps (ha.slot 4 _ rfl) Tryz.underlying4 k4,hfw.trans hfe,⟨Nat.le_trans kp6.size (by omega),fun k t cs hb h1 h2 h3'=> ?_⟩,?_,⟨0,k99,pwq.rd.below (B:=K.B) ⟨hfe.os,hfe.tape,hfe.output,hfe.size,fun k hk=>hblk k (by omega) (by omega)⟩,pwq.bK,pwq.dU⟩,hok x _ wq _ g4 hov (by omega) hltc kpq.size (by omega) hblk⟩
 ·have hb2:=kp6.ew k t cs hb h1 h2 h3'
  have:=hb.lt;have h9:=hblk k hb2.lt (by omega);unfold aK at hb2⊢;rw[h9];exact hb2
 ·show Ending.returned (.bool (decide ((q:Int)=(K.ws.length:Int))))=_
  rw[hdd]
section
variable {P:Program} {E:Operand→Option Value} {o:Oper} {w:World} {x:Operand} {T:TypeId}
end
theorem uN (c:Nat)(r:List Nat):gq (c::r)=if eZ c then(if gJ (c::r) then some (2,(c::r).take 10,eL ((c::r).take 10)) else(qB ((c::r).take (runN aO (c::r)))).map fun v=>(1,(c::r).take (runN aO (c::r)),v))
  else if j8 c then(if runN aO (c::r)≤16 then some (3,(c::r).take (runN aO (c::r)),0) else none)
  else(dH (c::r)).map fun s=>(0,s,0):=rfl
def DO (x:Wd):Prop:=(x.kind=0∧x.text∈eF∧x.n=0)∨(x.kind=1∧0≤x.n∧x.n≤9223372036854775807)∨(x.kind=2∧0≤x.n∧x.n≤2932896)∨(x.kind=3∧db x.text=true∧x.n=0)
theorem yh (p:Nat→Bool)(t:List Nat)(ht:∀x∈t,p x=true):runN p t=t.length:=by
 induction t with
 |nil=>rfl
 |cons x t ih=>rw[ec,if_pos (ht x (by simp)),ih (fun y hy=>ht y (by simp[hy]))];rfl
theorem Dv {y m d:Int}(h:fB y m d=true):0≤fe y m d∧fe y m d≤2932896:=by
 unfold fB at h;simp only[Bool.and_eq_true,decide_eq_true_eq] at h;obtain⟨⟨⟨h1,h2⟩,h3⟩,h4⟩:=h;obtain⟨h5,h6,h7⟩:=kZ (y:=y) (m:=m) (by omega);unfold fe rM ofM
 by_cases hm:m<3
 ·rw[if_pos hm,if_pos hm];omega
 ·rw[if_neg hm,if_neg hm];omega
theorem zJ (l:List Nat):0≤eL l∧eL l≤2932896:=by
 unfold eL;split
 ·rename_i h
  unfold cZ at h;simp only[Bool.and_eq_true] at h;exact Dv h.2
 ·omega
theorem zy {l:List Nat}{k:Int}{t:List Nat}{n:Int}{pos:Nat}(h:gq l=some (k,t,n)):DO ⟨k,t,n,pos⟩:=by
 obtain⟨h1,h2,h3⟩:=hZ h
 cases l with
 |nil=>cases h
 |cons c l=>
  rw[uN] at h
  by_cases hd:eZ c=true
  ·rw[if_pos hd] at h
   by_cases hday:gJ (c::l)=true
   ·rw[if_pos hday] at h
    injection h with h
    injection h with e1 h
    injection h with e2 e3
    have:=zJ ((c::l).take 10);exact .inr (.inr (.inl ⟨e1.symm,by simp only;omega,by simp only;omega⟩))
   ·rw[if_neg hday] at h
    cases ha:qB ((c::l).take (runN aO (c::l))) with
    |none=>rw[ha] at h;cases h
    |some v=>
     rw[ha] at h;injection h with h
     injection h with e1 h
     injection h with e2 e3
     unfold qB at ha;split at ha
     ·rename_i h6
      injection ha with ha
      exact .inr (.inl ⟨e1.symm,by simp only;omega,by simp only;omega⟩)
     ·cases ha
  ·rw[if_neg hd] at h
   by_cases hle:j8 c=true
   ·rw[if_pos hle] at h
    by_cases h16:runN aO (c::l)≤16
    ·rw[if_pos h16] at h
     injection h with h
     injection h with e1 h
     injection h with e2 e3
     have hall:∀x∈t,aO x=true:=by rw[←e2];exact oZ aO _
     have htl:t.length≤16:=by rw[←e2,List.length_take];omega
     have ht0:t.getD 0 0=c:=by
      cases t with
      |nil=>simp at h1
      |cons d q=>
       rw[List.length_cons,List.take_succ_cons] at h2;injection h2 with h2 _
     refine .inr (.inr (.inr ⟨e1.symm,?_,e3.symm⟩));show db t=true;unfold db;rw[yh aO t hall,ht0,hle];have hne:t≠ []:=fun e=>by rw[e] at h1;simp at h1
     simp[htl,hne]
    ·rw[if_neg h16] at h;cases h
   ·rw[if_neg hle] at h
    cases hs:dH (c::l) with
    |none=>rw[hs] at h;cases h
    |some s=>
     rw[hs] at h;injection h with h
     injection h with e1 h
     injection h with e2 e3
     subst e2;exact .inl ⟨e1.symm,List.mem_of_find?_eq_some hs,e3.symm⟩
theorem oE (l:List Nat)(hl:∀x∈l,x<256):∀f p,∀x∈(fI f l p).1,DO x∧(∀c∈x.text,c<256)∧x.text.length≤l.length∧x.pos<l.length
 |0,p,x,h=>by simp[fI] at h
 |f+1,p,x,h=>by
  rcases Nat.lt_or_ge p l.length with hlt|hge
  ·rw[fT f l p hlt] at h
   cases hn:gq (l.drop p) with
   |none=>rw[hn] at h;simp at h
   |some z=>
    obtain⟨k,t,n⟩:=z;rw[hn] at h;rcases List.mem_cons.1 h with rfl|h
    ·obtain⟨s1,s2,s3⟩:=hZ hn
     refine⟨zy hn,fun c hc=> ?_,by rw[List.length_drop] at s3;dsimp only;omega,hlt⟩;dsimp only at hc;rw[s2] at hc;exact hl c (List.mem_of_mem_drop (List.mem_of_mem_take hc))
    ·exact oE l hl f _ x h
  ·rw[kx _ _ _ hge] at h;simp at h
theorem uh (l:List Nat):∀(f p:Nat),p≤l.length→(fI f l p).1.length+p≤l.length
 |0,p,h=>by unfold fI;simpa using h
 |f+1,p,h=>by
  rcases Nat.lt_or_ge p l.length with h2|h2
  ·rw[fT f l p h2]
   cases hn:gq (l.drop p) with
   |none=>simpa using h
   |some x=>
    obtain⟨k,t,n⟩:=x;obtain⟨s1,-,s3⟩:=hZ hn;rw[List.length_drop] at s3;have hb:=jj (l.drop (p+t.length));rw[List.length_drop] at hb;have:=uh l f (p+t.length+bW (l.drop (p+t.length))) (by omega);simp;omega
  ·rw[kx _ l p h2];simpa using h
theorem uW (l:List Nat):(aR l).1.length≤l.length:=by
 have:=uh l (l.length+1) (bW l) (jj l);unfold aR;omega
theorem DO.i64 {x:Wd}(h:DO x):bt x.kind∧bt x.n:=by
 unfold bt;rcases h with ⟨h1,-,h2⟩|⟨h1,h2,h3⟩|⟨h1,h2,h3⟩|⟨h1,-,h2⟩<;>omega
theorem vI (l:List Nat)(hl:∀x∈l,x<256)(h4:l.length≤4000){B g c:Nat}{A:Option Addr}(hle:B≤g):(Ctx.mk B g c l.length A (aR l).1).Ok:=
 ⟨hle,by have:=uW l;show(aR l).1.length≤4000;omega,h4,fun x hx=>by
  obtain⟨h1,h2,h3,h4'⟩:=oE l hl _ _ x hx;exact⟨h1.i64.1,h1.i64.2,h2,by omega,by omega⟩⟩
theorem tb {α:Type}(K:Ctx)(h:Nat)(f:Nat)(cp:List Value)(b3 b9:Nat)(r:Rs α)(okv:α→World→Prop)(W:World)(eg:∀args w,(callFunc f args).run Tryz.prog w= .ok (.enter f args) w)
  (k3:aK W b3 190 #[.func (.func f) #[] cp.toArray]) (k9:aK W b9 189 #[.pointer (some ⟨K.g,0,none⟩)]) (hne:r≠ .out)
  (hc:Calls Tryz.prog f ([]++[Value.pointer (some ⟨K.g,0,none⟩)]++cp).toArray W (Ea K h W r okv)):
  Calls Tryz.prog 163 #[.pointer (some ⟨b3,0,none⟩), .pointer (some ⟨b9,0,none⟩)] W (Ea K h W r okv):=by
 have ae:=Below.refl W.heap.size W;have k98:=k3;have k99:=k9;refine Zs 5 Tryz.func163 ?_;refine Zr ?_;refine Zv (aa.ag rfl rfl Tryz.underlying190 rfl k98 rfl) ?_;refine Zv (aa.ag rfl rfl Tryz.underlying189 rfl k99 rfl) ?_;rcases Rs.dy hne with ⟨q,ov,hr⟩|⟨x,q,hr⟩
 ·rw[hr] at hc⊢
  refine Seq.cS (Enters.value (first:=[]) (cap:=cp) rfl rfl rfl eg) rfl hc ?_;rintro e w6 ⟨hf,rfl,d6,hp6⟩;refine⟨_,rfl,fun a ha=>⟨ha.defers,?_⟩⟩;exact⟨hf,rfl,d6,hp6⟩
 rw[hr] at hc⊢;refine Seq.call (Enters.value (first:=[]) (cap:=cp) rfl rfl rfl eg) rfl rfl rfl hc ?_;rintro e wq ⟨hf,kpq,⟨v,rfl⟩,pwq,hov⟩;refine⟨_,rfl,?_⟩;refine eh 0 1 ?_;refine ab.fP rfl (.inr rfl) ?_;exact⟨hf,kpq,⟨_,rfl⟩,pwq,hov⟩
def endPos (l:List Nat)(p:Nat):Nat:=((aR l).1.getD p ⟨-1,[],0,l.length⟩).pos
def cv {α:Type}(l:List Nat)(r:Rs α):Nat × Int:=if 4000<l.length then(0,4) else match (aR l).2 with
 |some p=>(p,11)
 |none=>match r with
  | .out=>(0,0)
  | .bad p ov=>if ov=true then(0,13) else(endPos l p,11)
  | .ok _ p=>if p=(aR l).1.length then(0,0) else(endPos l p,11)
def vH {α:Type}(l:List Nat)(r:Rs α)(ok2:α→World→Prop)(h:Nat)(w:World)(e:Ending)(w':World):Prop:=
 Below h w w'∧Kp w w'∧e= .returned (.tuple #[.int .i64 ((cv l r).1:Int), .int .i64 (cv l r).2])∧((cv l r).2=0→∃a p,r= .ok a p∧ok2 a w')
theorem nI (A:Option Addr)(n c:Nat)(z:Int)(w:World):(Instr.build 219 #[(0, .slice A n c),(4, .int .i64 z)]).run Tryz.prog w= .ok (.agg #[.slice A n c, .int .i64 0, .int .i64 0, .bool false, .int .i64 z]) w:=by
 have hu:=Tryz.underlying219
 go_simp
theorem kP (a b c:Int)(s:ByteArray)(w:World):(Instr.field 221 (.agg #[.int .i64 a, .string s, .int .i64 b, .int .i64 c]) 3).run Tryz.prog w= .ok (.int .i64 c) w:=by kernel_rfl
theorem ma:cf Tryz.prog 189=some (some (.pointer none)):=by kernel_rfl
theorem vF {α:Type}(l:List Nat)(hl:∀x∈l,x<256)(hlen:l.length≤9223372036854775807)(f:Nat)(cp:List Value)(h:Nat)(r:Rs α)(okv:World→α→World→Prop)(ok2:α→World→Prop)(w:World)(hh:h≤w.heap.size)(eg:∀args w,(callFunc f args).run Tryz.prog w= .ok (.enter f args) w)
  (hne:r≠ .out)
  (hok:∀a W0 W W' g,okv W0 a W→w.heap.size≤g→g<W0.heap.size→W0.heap.size≤W.heap.size→W.heap.size≤W'.heap.size→(∀k,k<W.heap.size→k≠g→W'.heap[k]? =W.heap[k]?)→ok2 a W')
  (hc:∀K:Ctx,K.Ok→K.ws=(aR l).1→(aR l).2=none→w.heap.size≤K.g→(∀ad,K.A=some ad→w.heap.size≤ad.block)→∀W,Below w.heap.size w W→PW K W 0 0 false→Calls Tryz.prog f ([]++[Value.pointer (some ⟨K.g,0,none⟩)]++cp).toArray W (Ea K h W r (okv W))):
  Calls Tryz.prog 126 #[.string (strOf l), .func (.func f) #[] cp.toArray] w (vH l r ok2 h w):=by
 have ae:=Below.refl w.heap.size w;refine Zs 40 Tryz.func126 ?_;refine ao ?_;refine Seq.box rfl rfl rfl rfl rfl ?_;intro g3 w1 n3;have e3:=Nat.le_trans ae.size n3.ge;replace ae:=ae.step n3.below;have k3:=n3.av;refine Za ?_;refine Za ?_;refine aU 0 1 3 4 5 (aG ?_);refine Zm ?_;refine Zc (Ze Tryz.func161) (xE l _ hl hlen) ?_;rintro e wv ⟨hb2,⟨h1,rfl⟩|⟨h1,p,h2,rfl⟩|⟨h4,h2,v,rfl,own⟩⟩
 ·have hpa:cv l r=(0,4):=by unfold cv;rw[if_pos h1]
  refine⟨_,rfl,?_⟩;replace ae:=ae.step hb2;replace k3:=k3.step hb2;refine Zm ?_;refine Zv (aa.extract rfl rfl rfl) ?_;refine Zv (aa.extract rfl rfl rfl) ?_;refine Zv (aa.extract rfl rfl rfl) ?_;refine Za ?_;refine Za ?_;refine Za ?_;refine cI 0 1 3 4 5 6 7 8 (aJ (ao ?_));refine Zm ?_;refine Zv (aa.bN rfl rfl rfl) ?_;refine dG 0 1 3 4 5 6 7 8 18 (Zt ?_);refine Cd.aX rfl (by simp) ?_;refine ao ?_;refine Zm ?_;refine Zm ?_;refine Za ?_;refine Za ?_;refine dG 0 1 3 4 5 6 7 8 18 (Zt (Cd.ret (ab.af ?_)));refine ab.bf rfl rfl rfl (.inl rfl) ?_;unfold vH;rw[hpa];exact⟨ae.mono hh,(Kp.refl w).step ae,rfl,fun h=>by cases h⟩
 ·have hpa:cv l r=(p,11):=by unfold cv;rw[if_neg (by omega),h2]
  refine⟨_,rfl,?_⟩;replace ae:=ae.step hb2;replace k3:=k3.step hb2;refine Zm ?_;refine Zv (aa.extract rfl rfl rfl) ?_;refine Zv (aa.extract rfl rfl rfl) ?_;refine Zv (aa.extract rfl rfl rfl) ?_;refine Za ?_;refine Za ?_;refine Za ?_;refine cI 0 1 3 4 5 6 7 8 (aJ (ao ?_));refine Zm ?_;refine Zv (aa.bN rfl rfl rfl) ?_;refine dG 0 1 3 4 5 6 7 8 18 (Zt ?_);refine Cd.aX rfl (by simp) ?_;refine ao ?_;refine Zm ?_;refine Zm ?_;refine Za ?_;refine Za ?_;refine dG 0 1 3 4 5 6 7 8 18 (Zt (Cd.ret (ab.af ?_)));refine ab.bf rfl rfl rfl (.inl rfl) ?_;unfold vH;rw[hpa];exact⟨ae.mono hh,(Kp.refl w).step ae,rfl,fun h=>by cases h⟩
 obtain⟨A,cap,rfl,hrd⟩:=own.reads;refine⟨_,rfl,?_⟩;replace ae:=ae.step hb2;replace k3:=k3.step hb2;refine Zm ?_;refine Zv (aa.extract rfl rfl rfl) ?_;refine Zv (aa.extract rfl rfl rfl) ?_;refine Zv (aa.extract rfl rfl rfl) ?_;refine Za ?_;refine Za ?_;refine Za ?_;refine cI 0 1 3 4 5 6 7 8 (aJ (ao ?_));refine Zm ?_;refine Zv (aa.bN rfl rfl rfl) ?_;refine dG 0 1 3 4 5 6 7 8 18 (Zt ?_);refine Cd.aN rfl (by simp) ?_;refine Cd.skip (aG ?_);refine Zm ?_;refine Zm ?_;refine Zv (aa.dh rfl rfl Tryz.underlying9) ?_;refine Zv (aa.build rfl rfl (nI _ _ _ _ _)) ?_;refine Seq.box rfl rfl rfl rfl rfl ?_;intro g25 w2 n25;have e25:=Nat.le_trans ae.size n25.ge;have l25:=Nat.lt_of_lt_of_le k3.lt n25.ge;replace ae:=ae.step n25.below;replace k3:=k3.step n25.below;have k25:=n25.av;refine Zl ma ?_;intro g9 w3 n9;have e9:=Nat.le_trans ae.size n9.ge;have l9:=Nat.lt_of_lt_of_le k25.lt n9.ge;replace ae:=ae.step n9.below;replace k3:=k3.step n9.below;replace k25:=k25.step n9.below;have k9:=n9.av;refine Zq k9 ?_;intro w4 pw4;replace ae:=ae.put k9 pw4 e9;replace k3:=k3.put pw4 (by omega);replace k25:=k25.put pw4 (by omega);replace k9:=pw4.av;refine dg 0 1 3 4 5 6 7 8 9 18 (aJ (ao ?_));refine Zv (aa.ag rfl rfl Tryz.underlying189 rfl k9 rfl) ?_;refine Zv (aa.makeFunc (v:= .func (.func 163) #[] #[.pointer (some ⟨g3,0,none⟩), .pointer (some ⟨g9,0,none⟩)]) rfl (show iG _ _=some [] from rfl) (show iG _ _=some [.pointer (some ⟨g3,0,none⟩), .pointer (some ⟨g9,0,none⟩)] from rfl) rfl) ?_;have hB4:Below wv.heap.size wv w4:=pw4.jm (n25.below.step n9.below) (Nat.le_trans n25.below.size n9.ge) (by have:=n9.below.size;have:=k9.lt;have:=pw4.size;omega);have hKok:=vI l hl h4 (B:=wv.heap.size) (g:=g25) (c:=cap) (A:=A) n25.ge
 generalize hK:(Ctx.mk wv.heap.size g25 cap l.length A (aR l).1)=K at hKok
 have hKg:K.g=g25:=by rw[←hK]
 have hKw:K.ws=(aR l).1:=by rw[←hK]
 have hKe:K.en=l.length:=by rw[←hK]
 have pw:PW K w4 0 0 false:=by rw[←hK];exact⟨k25,hrd.below hB4,Nat.zero_le _, .inl (by omega)⟩
 have hKA:∀ad,K.A=some ad→w.heap.size≤ad.block:=fun ad h=>by
  rw[←hK] at h;have h:A=some ad:=h;have:=(own.aT ad.block (by rw[h];rfl)).1;have:=n3.below.size;omega
 subst hKg
 have hrun:=zF K hKok 163 [.pointer (some ⟨g3,0,none⟩), .pointer (some ⟨g9,0,none⟩)] h r okv ok2 w4 pw (Nat.le_trans hh ae.size) hne (fun args w=>bG Tryz.func163 (by kernel_rfl) rfl args w)
  (fun a W0 W W' g h1 h2 h3 h4 h5 h6=>hok a W0 W W' g h1 (Nat.le_trans ae.size h2) h3 h4 h5 h6)
  (fun W hb hp=>tb K h f cp g3 g9 r (okv W) W eg (k3.step hb) (k9.step hb) hne (hc K hKok hKw h2 e25 hKA W (ae.step hb) hp))
 refine Zc (Ze Tryz.func162) (hrun) ?_;rcases Rs.dy hne with ⟨q,ov,hr⟩|⟨x,q,hr⟩
 ·rw[hr]
  rintro e w6 ⟨hf,kp,rfl,d6,hp6⟩;refine⟨_,rfl,?_⟩;have k9':=kp.av k9;have kfin:Kp w w6:=((Kp.refl w).step ae).trans kp;have bfin:Below h w w6:=(ae.mono hh).trans (hf.below (Nat.le_refl _) (by omega));have hw6:=gA K hKok q d6 ov w6 hp6;have hpos:(K.at_ q).pos=endPos l q:=by unfold Ctx.at_ endPos;rw[hKw,hKe]
  have k99:=hp6.av;clear k9;have k9:=k9';clear ae;have ae:=Below.refl w6.heap.size w6
  cases ov with
  |true=>
   have hpa:cv l (Rs.bad (α:=α) q true)=(0,13):=by unfold cv;rw[if_neg (by omega),h2];rfl
   refine Za ?_;refine dr 0 1 3 4 5 6 7 8 9 10 18 (Zt (Cd.block (ao ?_)));refine Zv (aa.ag rfl rfl Tryz.underlying189 rfl k9 rfl) ?_;refine Zv (aa.nilCheck rfl rfl) ?_;refine Zf 3 Tryz.underlying219 ?_;refine Zv (aa.ag rfl rfl Tryz.underlying4 rfl k99 rfl) ?_;refine Za ?_;refine fG 0 1 3 4 5 6 7 8 9 10 18 29 (Zt ?_);refine Cd.aX rfl rfl ?_;refine ao ?_;refine Za ?_;refine Za ?_;refine fG 0 1 3 4 5 6 7 8 9 10 18 29 (Zt (Cd.ret (ab.ak (ab.af ?_))));refine ab.bf rfl rfl rfl (.inl rfl) ?_;unfold vH;rw[hpa];exact⟨bfin.trans (ae.mono (by have:=bfin.size;omega)),kfin.step ae,rfl,fun h=>by cases h⟩
  |false=>
   have hpa:cv l (Rs.bad (α:=α) q false)=(endPos l q,11):=by unfold cv;rw[if_neg (by omega),h2];rfl
   have hwf:=fun W (hb:Below w6.heap.size w6 W)=>gA K hKok q d6 false W (hp6.step hKok.le hb);refine Za ?_;refine dr 0 1 3 4 5 6 7 8 9 10 18 (Zt (Cd.block (ao ?_)));refine Zv (aa.ag rfl rfl Tryz.underlying189 rfl k9 rfl) ?_;refine Zv (aa.nilCheck rfl rfl) ?_;refine Zf 3 Tryz.underlying219 ?_;refine Zv (aa.ag rfl rfl Tryz.underlying4 rfl k99 rfl) ?_;refine Za ?_;refine fG 0 1 3 4 5 6 7 8 9 10 18 29 (Zt ?_);refine Cd.aN rfl rfl ?_;refine ao ?_;refine Zm ?_;refine Zv (aa.not rfl rfl) ?_;refine Za ?_;refine gF 0 1 3 4 5 6 7 8 9 10 18 29 34 (Zt ?_);refine Cd.aX rfl rfl ?_;refine ao ?_;refine Zv (aa.ag rfl rfl Tryz.underlying189 rfl k9 rfl) ?_;refine Zc (Ze Tryz.func164) (hwf _ ae) ?_;rintro e w7 ⟨rfl,hb7⟩;refine⟨_,rfl,?_⟩;replace ae:=ae.step hb7;replace k9:=k9.step hb7;replace k99:=k99.step hb7;refine Zv (aa.field rfl rfl (kP _ _ _ _ _)) ?_;refine Za ?_;refine Za ?_;refine gF 0 1 3 4 5 6 7 8 9 10 18 29 34 (Zt (Cd.ret (ab.ak (ab.af ?_))));refine ab.bf rfl rfl rfl (.inl rfl) ?_;unfold vH;rw[hpa];refine⟨bfin.trans (ae.mono (by have:=bfin.size;omega)),kfin.step ae,?_,fun h=>by cases h⟩;rw[←hpos]
 ·rw[hr]
  rintro e w6 ⟨hf,kp,rfl,⟨d6,hp6⟩,hov⟩;refine⟨_,rfl,?_⟩;have k9':=kp.av k9;have kfin:Kp w w6:=((Kp.refl w).step ae).trans kp;have bfin:Below h w w6:=(ae.mono hh).trans (hf.below (Nat.le_refl _) (by omega));have hpos:(K.at_ q).pos=endPos l q:=by unfold Ctx.at_ endPos;rw[hKw,hKe]
  have k99:=hp6.av;clear k9;have k9:=k9';clear ae;have ae:=Below.refl w6.heap.size w6;rw[hKw] at *;refine Za ?_;refine dr 0 1 3 4 5 6 7 8 9 10 18 (Zt (Cd.block (ao ?_)));refine Zv (aa.ag rfl rfl Tryz.underlying189 rfl k9 rfl) ?_;refine Zv (aa.nilCheck rfl rfl) ?_;refine Zf 3 Tryz.underlying219 ?_;refine Zv (aa.ag rfl rfl Tryz.underlying4 rfl k99 rfl) ?_;refine Za ?_;refine fG 0 1 3 4 5 6 7 8 9 10 18 29 (Zt ?_);refine Cd.aN rfl rfl ?_;refine ao ?_;refine Zm ?_;refine Zv (aa.not rfl rfl) ?_;refine Za ?_;refine gF 0 1 3 4 5 6 7 8 9 10 18 29 34 (Zt ?_);refine Cd.cond rfl (fun h=> ?_) (fun h=> ?_)
  ·have hq:q≠(aR l).1.length:=by simpa using h
   have hpa:cv l (Rs.ok x q)=(endPos l q,11):=by unfold cv;rw[if_neg (by omega),h2];exact if_neg hq
   have hwf:=fun W (hb:Below w6.heap.size w6 W)=>gA K hKok q d6 false W (hp6.step hKok.le hb);refine ao ?_;refine Zv (aa.ag rfl rfl Tryz.underlying189 rfl k9 rfl) ?_;refine Zc (Ze Tryz.func164) (hwf _ ae) ?_;rintro e w7 ⟨rfl,hb7⟩;refine⟨_,rfl,?_⟩;replace ae:=ae.step hb7;replace k9:=k9.step hb7;replace k99:=k99.step hb7;refine Zv (aa.field rfl rfl (kP _ _ _ _ _)) ?_;refine Za ?_;refine Za ?_;refine gF 0 1 3 4 5 6 7 8 9 10 18 29 34 (Zt (Cd.ret (ab.ak (ab.af ?_))));refine ab.bf rfl rfl rfl (.inl rfl) ?_;unfold vH;rw[hpa];refine⟨bfin.trans (ae.mono (by have:=bfin.size;omega)),kfin.step ae,?_,fun h=>by cases h⟩;rw[←hpos]
  ·have hq:q=(aR l).1.length:=by simpa using h
   have hpa:cv l (Rs.ok x q)=(0,0):=by unfold cv;rw[if_neg (by omega),h2];exact if_pos hq
   refine Cd.skip (ab.aj (aG ?_));refine Za ?_;refine Za ?_;refine gF 0 1 3 4 5 6 7 8 9 10 18 29 34 (Zt (Cd.ret ?_));refine ab.bf rfl rfl rfl (.inl rfl) ?_;unfold vH;rw[hpa];exact⟨bfin.trans (ae.mono (by have:=bfin.size;omega)),kfin.step ae,rfl,fun _=>⟨x,q,rfl,hov⟩⟩
def DM (gt:Nat)(W0:World)(x:Tm)(W:World):Prop:=∃(S:Nat→Prop) (v:Value),aK W gt 71 v.cells∧dm W S x v∧∀b,S b→W0.heap.size≤b∧b<W.heap.size
theorem vb (K:Ctx)(hK:K.Ok)(n gt h:Nat)(W:World)(pw:PW K W 0 0 false)(kt:aK W gt 71 #[.int .i64 0, .string {data:= #[]}, .slice none 0 0, .slice none 0 0]) (hg:gt<K.g) (hh:h≤gt) (hKA:∀ad,K.A=some ad→ad.block≠gt) (hne:ig K.ws n 0 0≠ .out):
  Calls Tryz.prog 127 #[.pointer (some ⟨K.g,0,none⟩), .pointer (some ⟨gt,0,none⟩)] W (Ea K h W (ig K.ws n 0 0) (DM gt W)):=by
 have hcl:=sW K hK n 0 0 W pw hne;have hlt:=pw.av.lt;have hle:=hK.le;have ae:=Below.refl W.heap.size W;refine Zs 5 Tryz.func127 ?_;refine Zr ?_;refine Zm ?_;rcases Rs.dy hne with ⟨q,ov,hr⟩|⟨x,q,hr⟩
 ·rw[hr] at hcl⊢
  refine Seq.cS (Ze Tryz.func128) rfl hcl ?_;rintro e w6 ⟨hf,rfl,d6,hp6⟩;refine⟨_,rfl,fun a ha=>⟨ha.defers,?_⟩⟩;exact⟨hf,rfl,d6,hp6⟩
 rw[hr] at hcl⊢;refine Zc (Ze Tryz.func128) (hcl) ?_;rintro e wq ⟨hf,v,rfl,pwq,S,hrep,hS⟩;refine⟨_,rfl,?_⟩;have kp0:=(Kp.refl W).fz pw.av hf;have k98:=kt.fz hf (by omega);have hs98:=k98.lt;have k98':=k98;obtain⟨A,c,A',c',rfl⟩:=hrep.form;have hq:=pwq.av.lt;clear ae;have ae:=Below.refl wq.heap.size wq;refine Zo 4 k98 ?_;intro w1 pw1;replace k98:=pw1.av;refine eh 0 1 ?_;refine ab.fP rfl (.inr rfl) ?_;have hsz:=pw1.size;have hbl:∀k,k≠gt→k<wq.heap.size→w1.heap[k]? =wq.heap[k]? :=fun k hk hl=>pw1.grown.block k hl (fun e=>hk (by injection e))
 have hrd:Reads w1 K.B 4 K.A K.ws.length (da K.ws):=⟨pwq.rd.1,fun h0=>by
  obtain⟨ad,e1,e2,e3⟩:=pwq.rd.2 h0;exact⟨ad,e1,e2,fun j u hu=>(World.cell?_of_block (by rw[aw];exact hbl _ (hKA ad e1) (by omega))).trans (e3 j u hu)⟩⟩
 have k98z:aK w1 gt 71 (Value.agg #[Value.int .i64 x.op,Value.string (strOf x.name),Value.slice A x.exprs.length c,Value.slice A' x.aH.length c']).cells:=k98;have kgz:aK w1 K.g 219 _:=pwq.av.put pw1 (by omega);exact⟨⟨pw1.grown.os.trans hf.os,pw1.grown.tape.trans hf.tape,pw1.grown.output.trans hf.output,by have:=hf.size;omega,fun k hk hne=>(hbl k (by omega) (by omega)).trans (hf.block k (by omega) hne)⟩,kp0.put k98' pw1 trivial,⟨_,rfl⟩,⟨kgz,hrd,pwq.bK,pwq.dU⟩,S,_,k98z,hrep.mono (fun _ h=>h) (fun a ha=>World.cell?_of_block (hbl _ (by have:=(hS _ ha).1;have:=kt.lt;omega) (hS _ ha).2)),fun b hb=>⟨(hS b hb).1,by have:=(hS b hb).2;omega⟩⟩
theorem xA (t:Tm)(B:Nat)(v:Value)(w:World)(hrep:fZ w B t v)(hB:B≤w.heap.size):Calls Tryz.prog 99 #[v] w fun en w'=>en= .returned (.bool (dF t))∧Grow w w':=by
 have hs:=fun W (hb:Below w.heap.size w W)=>mF t.nodes t 0 B v W (Nat.le_refl _) (by omega) (hrep.below (hb.mono hB)) (Nat.le_trans hB hb.size);have hbt:=fun W (hb:Below w.heap.size w W)=>qV t.nodes t B v W (Nat.le_refl _) (hrep.below (hb.mono hB)) (Nat.le_trans hB hb.size);have hc:=Cq t;have hdn:=t.bV
 have hres:(decide (t.nodes≤200)&&decide (t.depth≤16))=(decide ((sH t 0).1≤200)&&decide ((sH t 0).2≤16)):=by
  obtain⟨c1,c2⟩:=hc;rw[Bool.eq_iff_iff];simp only[Bool.and_eq_true,decide_eq_true_eq]
  constructor
  ·rintro⟨h1,h2⟩
   rw[c2 (by omega)];omega
  ·rintro⟨h1,h2⟩
   have h3:t.nodes≤200:=by omega
   rw[c2 (by omega)] at h2;omega
 unfold dF;rw[hres];obtain⟨A,c,A',c',rfl,-⟩:=hrep.open;have ae:=Below.refl w.heap.size w
 generalize (sH t 0)=s at *
 refine Zs 10 Tryz.func99 ?_;refine ao ?_;refine Seq.box rfl rfl rfl rfl rfl ?_;intro g1 w1 n1;have e1:=Nat.le_trans ae.size n1.ge;replace ae:=ae.step n1.below;have k1:=n1.av;refine Za ?_;refine bD 0 1 2 (aG ?_);refine Zv (aa.aQ rfl rfl Tryz.underlying71 rfl k1 (m:=4) (by kernel_rfl) rfl) ?_;refine Zc (Ze Tryz.func140) (hs _ ae) ?_;rintro en w5 ⟨rfl,hb5⟩;refine⟨_,rfl,?_⟩;replace ae:=ae.step hb5;replace k1:=k1.step hb5;refine Zc (Ze Tryz.func141) (nR s.1 s.2 _) ?_;rintro en w6 ⟨rfl,hb6⟩;refine⟨_,rfl,?_⟩;replace ae:=ae.step hb6;replace k1:=k1.step hb6;refine Zm ?_;refine ah.start ?_;refine bM (fun hcx=>aa.aQ rfl rfl Tryz.underlying71 rfl k1 (m:=4) (by kernel_rfl) rfl) ?_;refine ah.bY rfl rfl rfl rfl rfl rfl rfl (fun hcx=>Ze Tryz.func142) (fun hcx=>hbt _ ae) ?_;intro w2 hw2;replace ae:=ae.step hw2;replace k1:=k1.step hw2;refine ah.and rfl rfl rfl rfl rfl rfl rfl ?_;refine Za ?_;refine bD 0 1 2 (Zt (Cd.ret ?_));refine ab.aE rfl rfl (.inl rfl) ?_;exact⟨bw (aL (by cases (decide (s.1≤200)&&decide (s.2≤16))<;>rfl)),ae⟩
section
variable {α β:Type}
def eV (f:Nat→Nat→Rs α):Prop:=∀p d a q,f p d= .ok a q→p<q
def Def (f:Nat→Nat→Rs α)(m:Nat):Prop:=∀p d,m≤p→f p d≠ .out
theorem Def.up {f:Nat→Nat→Rs α}{m m':Nat}(h:Def f m)(hm:m≤m'):Def f m':=fun p d hp=>h p d (by omega)
theorem Rs.ax {r:Rs α}{f:α→Nat→Rs β}{b:β}{q:Nat}(h:r.bind f= .ok b q):∃a p,r= .ok a p∧f a p= .ok b q:=by
 cases r with
 |out=>cases h
 |bad p o=>cases h
 |ok a p=>exact⟨a,p,rfl,h⟩
theorem Rs.bq {r:Rs α}{f:α→Nat→Rs β}(h:r≠ .out)(hf:∀a p,r= .ok a p→f a p≠ .out):r.bind f≠ .out:=by
 cases r with
 |out=>exact absurd rfl h
 |bad p o=>exact fun h=>by cases h
 |ok a p=>exact hf a p rfl
theorem gu {ws:List Wd}{s:List Nat}{p q:Nat}{u:Unit}(h:bE ws s p= .ok u q):q=p+1∧qO ws p s=true:=by
 unfold bE at h;split at h
 ·rename_i hs
  injection h with _ h
  exact⟨h.symm,hs⟩
 ·cases h
theorem nD (ws:List Wd)(s:List Nat)(p:Nat):bE ws s p≠ .out:=by
 unfold bE;split<;>exact fun h=>by cases h
theorem gW {p d q:Nat}{u:Unit}(h:cW p d= .ok u q):q=p∧d<64:=by
 unfold cW at h;split at h
 ·cases h
 ·injection h with _ h
  exact⟨h.symm,by omega⟩
theorem pV (p d:Nat):cW p d≠ .out:=by
 unfold cW;split<;>exact fun h=>by cases h
theorem nQ (ws:List Wd):∀(aY:List (Nat→Nat→Rs α)),(∀f∈aY,eV f)→∀first p d xs q,bn ws aY first p d= .ok xs q→p≤q
 | [],_,first,p,d,xs,q,h=>by injection h with _ h;omega
 |f::r,hm,first,p,d,xs,q,h=>by
  rw[bn] at h;obtain⟨u,p1,h1,h⟩:=Rs.ax h;obtain⟨x,p2,h2,h⟩:=Rs.ax h;obtain⟨ys,p3,h3,h⟩:=Rs.ax h;injection h with _ h
  have e1:p≤p1:=by
   split at h1
   ·injection h1 with _ h1;omega
   ·have:=(gu h1).1;omega
  have e2:=hm f (by simp) _ _ _ _ h2;have e3:=nQ ws r (fun g hg=>hm g (by simp[hg])) _ _ _ _ _ h3;omega
theorem pv (ws:List Wd)(m:Nat):∀(aY:List (Nat→Nat→Rs α)),(∀f∈aY,eV f∧Def f m)→∀first p d,m≤p→bn ws aY first p d≠ .out
 | [],_,first,p,d,_=>fun h=>by cases h
 |f::r,hm,first,p,d,hp=>by
  rw[bn];refine Rs.bq ?_ fun u p1 h1=> ?_
  ·split
   ·exact fun h=>by cases h
   ·exact nD _ _ _
  have e1:p≤p1:=by
   split at h1
   ·injection h1 with _ h1;omega
   ·have:=(gu h1).1;omega
  refine Rs.bq ((hm f (by simp)).2 _ _ (by omega)) fun x p2 h2=> ?_;have e2:=(hm f (by simp)).1 _ _ _ _ h2;refine Rs.bq (pv ws m r (fun g hg=>hm g (by simp[hg])) _ _ _ (by omega)) fun ys p3 h3=> ?_;exact fun h=>by cases h
theorem gP (ws:List Wd)(aY:List (Nat→Nat→Rs α))(hm:∀f∈aY,eV f){p d:Nat}{xs:List α}{q:Nat}(h:aW ws aY p d= .ok xs q):p+2≤q:=by
 unfold aW at h;obtain⟨u,p1,h1,h⟩:=Rs.ax h;obtain⟨u2,p2,h2,h⟩:=Rs.ax h;obtain⟨ys,p3,h3,h⟩:=Rs.ax h;obtain⟨u3,p4,h4,h⟩:=Rs.ax h;injection h with _ h
 have:=(gu h1).1;have:=(gW h2).1;have:=nQ ws aY hm _ _ _ _ _ h3;have:=(gu h4).1;omega
theorem iw (ws:List Wd)(aY:List (Nat→Nat→Rs α)){p:Nat}(d:Nat)(hm:∀f∈aY,eV f∧Def f (p+1)):aW ws aY p d≠ .out:=by
 unfold aW;refine Rs.bq (nD _ _ _) fun u p1 h1=> ?_;refine Rs.bq (pV _ _) fun u2 p2 h2=> ?_;have:=(gu h1).1;have:=(gW h2).1;refine Rs.bq (pv ws (p+1) aY hm _ _ _ (by omega)) fun xs p3 h3=> ?_;refine Rs.bq (nD _ _ _) fun u3 p4 h4=> ?_;exact fun h=>by cases h
theorem gY {ws:List Wd}{p q:Nat}{x:List Nat}(h:dW ws p= .ok x q):q=p+1∧x=(de ws p).text∧(de ws p).kind=3∧cq (de ws p).text=false:=by
 unfold dW at h;split at h
 ·rename_i hs
  injection h with h1 h
  exact⟨h.symm,h1.symm,hs.1,hs.2⟩
 ·cases h
theorem rK (ws:List Wd)(p:Nat):dW ws p≠ .out:=by
 unfold dW;split<;>exact fun h=>by cases h
theorem sc {ws:List Wd}{E0:Nat→Nat→Rs Ex}(hE:eV E0){op:Int}{k p d:Nat}{x:Ex}{q:Nat}(h:bX ws E0 op k p d= .ok x q):p<q:=by
 unfold bX at h;obtain⟨xs,p1,h1,h⟩:=Rs.ax h;injection h with _ h
 have:=gP ws _ (fun f hf=>(List.mem_replicate.1 hf).2▸hE) h1;omega
theorem ta {ws:List Wd}{E0:Nat→Nat→Rs Ex}(hE:eV E0){op:Int}{k p d:Nat}(hd:Def E0 (p+1)):bX ws E0 op k p d≠ .out:=by
 unfold bX;refine Rs.bq (iw ws _ d fun f hf=>(List.mem_replicate.1 hf).2▸⟨hE,hd.up (by omega)⟩) fun xs p1 h1=> ?_;exact fun h=>by cases h
theorem vO {ws:List Wd}{E0:Nat→Nat→Rs Ex}(hE:eV E0):eV (eO ws E0):=by
 intro p d x q h;unfold eO at h
 repeat' split at h
 all_goals first
  |exact sc hE h
  |(injection h with _ h;omega)
  |(obtain⟨nm,p1,h1,h⟩:=Rs.ax h;injection h with _ h;have:=(gY h1).1;omega)
  |(obtain⟨xs,p1,h1,h⟩:=Rs.ax h;injection h with _ h;have:=gP ws _ (fun f hf=>(List.mem_singleton.1 hf)▸hE) h1;omega)
  |cases h
theorem xK {ws:List Wd}{E0:Nat→Nat→Rs Ex}(hE:eV E0){p d:Nat}(hd:Def E0 (p+1)):eO ws E0 p d≠ .out:=by
 unfold eO
 repeat' split
 all_goals first
  |exact ta hE hd
  |exact fun h=>by cases h
  |exact Rs.bq (rK _ _) fun nm p1 h1=>fun h=>by cases h
  |exact Rs.bq (iw ws _ d fun f hf=>(List.mem_singleton.1 hf)▸⟨hE,hd⟩) fun xs p1 h1=>fun h=>by cases h
theorem nS {S:Nat→Nat→Rs Ex}(hS:eV S)(op:Int):eV (dw S op):=by
 intro p d x q h;unfold dw at h;obtain⟨u,p1,h1,h⟩:=Rs.ax h;obtain⟨y,p2,h2,h⟩:=Rs.ax h;injection h with _ h
 have:=(gW h1).1;have:=hS _ _ _ _ h2;omega
theorem oQ {S:Nat→Nat→Rs Ex}(op:Int){p d:Nat}(hS:Def S (p+1)):dw S op p d≠ .out:=by
 unfold dw;refine Rs.bq (pV _ _) fun u p1 h1=> ?_;have:=(gW h1).1;exact Rs.bq (hS _ _ (by omega)) fun y p2 h2=>fun h=>by cases h
theorem kK {ws:List Wd}{S E0:Nat→Nat→Rs Ex}(hS:eV S)(hE:eV E0):eV (bC ws S E0):=by
 intro p d x q h;unfold bC at h;split at h
 ·exact nS hS _ _ _ _ _ h
 ·split at h
  ·exact nS hS _ _ _ _ _ h
  ·exact vO hE _ _ _ _ h
theorem u5 {ws:List Wd}{S E0:Nat→Nat→Rs Ex}(hE:eV E0){p d:Nat}(hS:Def S (p+1))(hd:Def E0 (p+1)):bC ws S E0 p d≠ .out:=by
 unfold bC;split
 ·exact oQ _ hS
 ·split
  ·exact oQ _ hS
  ·exact xK hE hd
end
structure xh (f:PF):Prop where
 E:∀lvl,eV (f.E lvl)
 L:∀lvl x p d a q,f.L lvl x p d= .ok a q→p≤q
 S:eV f.S
theorem mf {ws:List Wd}{f:PF}(h:xh f){lvl:Nat}{x:Ex}{p d:Nat}{a:Ex}{q:Nat}(hl:dC ws f lvl x p d= .ok a q):p≤q:=by
 unfold dC at hl
 cases ho:opAt ws lvl p with
 |none=>rw[ho] at hl;injection hl with _ hl;omega
 |some op=>
  rw[ho] at hl;obtain⟨r,p1,h1,hl⟩:=Rs.ax hl;have:=h.E _ _ _ _ _ h1;split at hl
  ·injection hl with _ hl;omega
  ·have:=h.L _ _ _ _ _ _ hl;omega
theorem nr {L:Nat→Ex→Nat→Nat→Rs Ex}{S:Nat→Nat→Rs Ex}(hL:∀lvl x p d a q,L lvl x p d= .ok a q→p≤q)(hS:eV S):∀j,eV (kG L S j)
 |0=>hS
 |j+1=>fun p d a q h=>by
  rw[kG] at h;obtain⟨x,p1,h1,h⟩:=Rs.ax h;have:=nr hL hS j _ _ _ _ h1;have:=hL _ _ _ _ _ _ h;omega
theorem fW (ws:List Wd):∀n,xh (bH ws n)
 |0=>⟨fun _ _ _ _ _ h=>(by cases h),fun _ _ _ _ _ _ h=>(by cases h),fun _ _ _ _ h=>(by cases h)⟩
 |n+1=>by
  have ih:=fW ws n;have hL:∀lvl x p d a q,dC ws (bH ws n) lvl x p d= .ok a q→p≤q:=fun lvl x p d a q h=>mf ih h;have hS:=kK (ws:=ws) ih.S (ih.E 0);exact⟨fun lvl=>nr hL hS _,hL,hS⟩
theorem BW {ws:List Wd}{lvl p:Nat}{op:Int}(h:opAt ws lvl p=some op):p<ws.length:=by
 rcases Nat.lt_or_ge p ws.length with h1|h1
 ·exact h1
 ·unfold opAt de at h
  rw[List.getD_eq_getElem?_getD,List.getElem?_eq_none h1] at h;simp at h
structure DE (f:PF)(m:Nat):Prop where
 E:∀lvl,Def (f.E lvl) m
 L:∀lvl x p d,m≤p→f.L lvl x p d≠ .out
 S:Def f.S m
theorem xF {ws:List Wd}{f:PF}(hm:xh f){m:Nat}(h:DE f (m+1)){lvl:Nat}{x:Ex}{p d:Nat}(hp:m≤p):dC ws f lvl x p d≠ .out:=by
 unfold dC
 cases ho:opAt ws lvl p with
 |none=>exact fun h=>by cases h
 |some op=>
  refine Rs.bq (h.E _ _ _ (by omega)) fun r p1 h1=> ?_;have:=hm.E _ _ _ _ _ h1;split
  ·exact fun h=>by cases h
  ·exact h.L _ _ _ _ (by omega)
theorem oX {L:Nat→Ex→Nat→Nat→Rs Ex}{S:Nat→Nat→Rs Ex}{m:Nat}(hLm:∀lvl x p d a q,L lvl x p d= .ok a q→p≤q)(hSm:eV S)(hL:∀lvl x p d,m≤p→L lvl x p d≠ .out)(hS:Def S m):∀j,Def (kG L S j) m
 |0=>hS
 |j+1=>fun p d hp=>by
  rw[kG];refine Rs.bq (oX hLm hSm hL hS j _ _ hp) fun x p1 h1=> ?_;have:=nr hLm hSm j _ _ _ _ h1;exact hL _ _ _ _ (by omega)
theorem wW {ws:List Wd}{p:Nat}(h:ws.length≤p):de ws p=⟨-1,[],0,0⟩:=by
 unfold de;rw[List.getD_eq_getElem?_getD,List.getElem?_eq_none h];rfl
theorem qk {ws:List Wd}{p:Nat}(h:ws.length≤p)(S E0:Nat→Nat→Rs Ex)(d:Nat):bC ws S E0 p d= .bad p false:=by
 unfold bC qO eO;rw[wW h];rfl
theorem yD {ws:List Wd}{p:Nat}(h:ws.length≤p)(f:PF)(lvl:Nat)(x:Ex)(d:Nat):dC ws f lvl x p d= .ok x p:=by
 unfold dC
 cases ho:opAt ws lvl p with
 |none=>rfl
 |some op=>have:=BW ho;omega
theorem nd (ws:List Wd):∀n m,ws.length<n+1+m→DE (bH ws (n+1)) m
 |0,m,h=>by
  have im:=fW ws 0;have hLm:∀lvl x p d a q,dC ws (bH ws 0) lvl x p d= .ok a q→p≤q:=fun lvl x p d a q h=>mf im h;have hSm:=kK (ws:=ws) im.S (im.E 0);have hL:∀lvl x p d,m≤p→dC ws (bH ws 0) lvl x p d≠ .out:=fun lvl x p d hp=>by rw[yD (by omega)];exact fun h=>by cases h
  have hS:Def (bC ws (bH ws 0).S ((bH ws 0).E 0)) m:=fun p d hp=>by rw[qk (by omega)];exact fun h=>by cases h
  exact⟨fun lvl=>oX hLm hSm hL hS _,hL,hS⟩
 |n+1,m,h=>by
  have ih:=nd ws n (m+1) (by omega);have im:=fW ws (n+1);have hLm:∀lvl x p d a q,dC ws (bH ws (n+1)) lvl x p d= .ok a q→p≤q:=fun lvl x p d a q h=>mf im h;have hSm:=kK (ws:=ws) im.S (im.E 0);have hL:∀lvl x p d,m≤p→dC ws (bH ws (n+1)) lvl x p d≠ .out:=fun lvl x p d hp=>xF im ih hp;have hS:Def (bC ws (bH ws (n+1)).S ((bH ws (n+1)).E 0)) m:=fun p d hp=>u5 (im.E 0) (ih.S.up (by omega)) ((ih.E 0).up (by omega));exact⟨fun lvl=>oX hLm hSm hL hS _,hL,hS⟩
theorem Rs.ky {α β:Type}{r:Rs α}{f:α→β}{b:β}{q:Nat}(h:r.map f= .ok b q):∃a,r= .ok a q∧b=f a:=by
 unfold Rs.map at h;obtain⟨a,p,h1,h⟩:=Rs.ax h;injection h with h2 h3
 exact⟨a,by rw[h1,h3],h2.symm⟩
theorem kY {E0:Nat→Nat→Rs Ex}{T:Nat→Nat→Rs Tm}{n m:Nat}{f:Nat→Nat→Rs Part}(h:f∈eu E0 T n m):f=(fun p d=>(E0 p d).map .inl)∨f=(fun p d=>(T p d).map .inr):=by
 unfold eu at h;rcases List.mem_append.1 h with h|h
 ·exact .inl (List.mem_replicate.1 h).2
 ·exact .inr (List.mem_replicate.1 h).2
theorem qn {E0:Nat→Nat→Rs Ex}{T:Nat→Nat→Rs Tm}(hE:eV E0)(hT:eV T){n m:Nat}:∀f∈eu E0 T n m,eV f:=fun f hf p d a q h=>by
 rcases kY hf with rfl|rfl
 ·obtain⟨x,h1,-⟩:=Rs.ky h
  exact hE _ _ _ _ h1
 ·obtain⟨x,h1,-⟩:=Rs.ky h
  exact hT _ _ _ _ h1
theorem x9 {E0:Nat→Nat→Rs Ex}{T:Nat→Nat→Rs Tm}{k:Nat}(hE:Def E0 k)(hT:Def T k){n m:Nat}:∀f∈eu E0 T n m,Def f k:=fun f hf p d hp=>by
 rcases kY hf with rfl|rfl
 ·exact Rs.bq (hE _ _ hp) fun a q h=>fun h=>by cases h
 ·exact Rs.bq (hT _ _ hp) fun a q h=>fun h=>by cases h
theorem uU {ws:List Wd}{E0:Nat→Nat→Rs Ex}{T:Nat→Nat→Rs Tm}(hE:eV E0)(hT:eV T):eV (dR ws E0 T):=by
 intro p d x q h;unfold dR at h
 repeat' split at h
 ·cases h
 ·injection h with _ h;omega
 ·obtain⟨xs,p1,h1,h⟩:=Rs.ax h
  injection h with _ h
  have:=gP ws _ (fun f hf=>(List.mem_singleton.1 hf)▸fun p d a q h=>by have:=(gY h).1;omega) h1;omega
 ·cases h
 ·obtain⟨xs,p1,h1,h⟩:=Rs.ax h
  injection h with _ h
  have:=gP ws _ (qn hE hT) h1;omega
theorem yR {ws:List Wd}{E0:Nat→Nat→Rs Ex}{T:Nat→Nat→Rs Tm}(hE:eV E0)(hT:eV T){p d:Nat}(dE:Def E0 (p+1))(dT:Def T (p+1)):dR ws E0 T p d≠ .out:=by
 unfold dR
 repeat' split
 ·exact fun h=>by cases h
 ·exact fun h=>by cases h
 ·refine Rs.bq (iw ws _ d fun f hf=>(List.mem_singleton.1 hf)▸⟨fun p d a q h=>by have:=(gY h).1;omega,fun p d _=>rK ws p⟩) fun xs p1 h1=>fun h=>by cases h
 ·exact fun h=>by cases h
 ·refine Rs.bq (iw ws _ d fun f hf=>⟨qn hE hT f hf,x9 (dE.up (by omega)) (dT.up (by omega)) f hf⟩) fun xs p1 h1=>fun h=>by cases h
theorem lX (ws:List Wd):∀n,eV (ig ws n)
 |0=>fun _ _ _ _ h=>(by cases h)
 |n+1=>fun p d x q h=>uU ((fW ws (n+1)).E 0) (lX ws n) p d x q h
theorem yq {ws:List Wd}{p:Nat}(h:ws.length≤p)(E0:Nat→Nat→Rs Ex)(T:Nat→Nat→Rs Tm)(d:Nat):dR ws E0 T p d= .bad p false:=by
 unfold dR;rw[wW h];rfl
theorem mY (ws:List Wd):∀n m,ws.length<n+1+m→Def (ig ws (n+1)) m
 |0,m,h=>fun p d hp=>by
  show dR ws _ _ p d≠ .out;rw[yq (by omega)];exact fun h=>by cases h
 |n+1,m,h=>fun p d hp=>by
  have hE:=(nd ws (n+1) (m+1) (by omega)).E 0;have hT:=mY ws n (m+1) (by omega);exact yR ((fW ws (n+2)).E 0) (lX ws (n+1)) (hE.up (by omega)) (hT.up (by omega))
def fK (ws:List Wd):Rs Tm:=ig ws (ws.length+1) 0 0
theorem pk (ws:List Wd):fK ws≠ .out:=mY ws ws.length 0 (by omega) 0 0 (Nat.le_refl _)
section
variable {P:Program} {n:Nat} {F:List (Nat × Value)} {w:World} {v v':Value}
theorem ab.mw {fn:Func}{R:Ending→World→Prop}{e:Exit}{p q s g:Nat}{ty t:TypeId}{cs:Array Value}{dsc:TypeDesc}(hr:fn.results= #[.cell p ty, .tmp q, .tmp s]) (hl:look F p=some (.pointer (some ⟨g,0,none⟩))) (hq:look F q=some v) (hq':look F s=some v') (hb:aK w g t cs) (hu:P.underlying ty=some dsc)
  (hd:(match dsc with| .struct _| .array _ _=>true|_=>false)=true) {m:Nat} (hs:dO P ty m=true) (hm:cs.size=m) (he:e= .ret∨e= .normal) (h:R (.returned (.tuple #[.agg cs,v,v'])) w):ab (bodyPost P fn R) e n F w:=by
 refine ab.end_ (fun a ha=> ?_) he h
 ·have hp':a.tmps[p]?.getD undef= .pointer (some ⟨g,0,none⟩):=by simp[ha.slot p _ hl]
  have e:=run_loadVar_row (P:=P) w g t ty cs (0,0) dsc hb hu (by cases dsc<;>first|rfl|(simp at hd)) (by obtain⟨inf,hi,hsz⟩:=bL hs;rw[hi,hm,←hsz];rfl);simp[results,hr,hp',asAddr,e,ha.slot q _ hq,ha.slot s _ hq']
end
def eT:Tm:= .mk 0 [] [] []
def jJ:Ex:= .mk 0 0 [] []
theorem dm.zero (W:World)(S:Nat→Prop):dm W S eT (.agg #[.int .i64 0, .string (strOf []), .slice none 0 0, .slice none 0 0]):=
 .mk (vs:=[]) (us:=[]) rfl rfl (by simp) (by simp) (by unfold bt;decide) (by simp) (by simp) (fun i e v h=>by simp at h) (fun i e v h=>by simp at h) (fun h=>absurd rfl h) (fun h=>absurd rfl h)
theorem cw.zero (W:World)(S:Nat→Prop):cw W S jJ (.agg #[.int .i64 0, .int .i64 0, .string (strOf []), .slice none 0 0]):=
 .mk (vs:=[]) rfl (by simp) (by unfold bt;decide) (by unfold bt;decide) (by simp) (by simp) (fun i e v h=>by simp at h) (fun h=>absurd rfl h)
def cu (l:List Nat):Tm × Nat × Int:=if(cv l (fK (aR l).1)).2≠0 then(eT,(cv l (fK (aR l).1)).1,(cv l (fK (aR l).1)).2) else match fK (aR l).1 with
 | .ok x _=>if dF x=true then(x,0,0) else(eT,0,13)
 |_=>(eT,0,0)
theorem uF {α:Type}{l:List Nat}{r:Rs α}(h:(cv l r).2=0):(cv l r).1=0:=by
 unfold cv at h⊢
 by_cases h4:4000<l.length
 ·rw[if_pos h4]
 ·rw[if_neg h4] at h⊢
  cases h2:(aR l).2 with
  |some p=>rw[h2] at h;cases h
  |none=>
   rw[h2] at h
   cases r with
   |out=>rfl
   |bad p ov=>cases ov<;>cases h
   |ok a p=>
    dsimp only at h⊢;split at h
    ·rename_i h3;rw[if_pos h3]
    ·cases h
theorem DM.kept {gt:Nat}{w W0 W W':World}{a:Tm}{g:Nat}(h:DM gt W0 a W)(hgt:gt<w.heap.size)(h2:w.heap.size≤g)(h3:g<W0.heap.size)(h4:W0.heap.size≤W.heap.size)(h5:W.heap.size≤W'.heap.size)(h6:∀k,k<W.heap.size→k≠g→W'.heap[k]? =W.heap[k]?):DM gt w a W':=by
 obtain⟨S,v,h7,h8,h9⟩:=h;refine⟨S,v,?_,h8.mono (fun _ h=>h) (fun p hp=>World.cell?_of_block (h6 _ (h9 _ hp).2 (by have:=(h9 _ hp).1;omega))),fun b hb=>⟨by have:=(h9 b hb).1;omega,by have:=(h9 b hb).2;omega⟩⟩;unfold aK at h7⊢;rw[h6 gt (by omega) (by omega)];exact h7
theorem dJ (w:World):(Instr.build 71 #[]).run Tryz.prog w= .ok (.agg #[.int .i64 0, .string (strOf []), .slice none 0 0, .slice none 0 0]) w:=by kernel_rfl
theorem gT (w:World):(Instr.build 105 #[]).run Tryz.prog w= .ok (.agg #[.int .i64 0, .int .i64 0, .string (strOf []), .slice none 0 0]) w:=by kernel_rfl
theorem xH (l:List Nat)(w:World)(hl:∀x∈l,x<256)(hlen:l.length≤9223372036854775807):
  Calls Tryz.prog 81 #[.string (strOf l)] w fun e w'=>Below w.heap.size w w'∧∃(v:Value) (S:Nat→Prop),e= .returned (.tuple #[v, .int .i64 ((cu l).2.1:Int), .int .i64 (cu l).2.2])∧dm w' S (cu l).1 v∧∀b,S b→w.heap.size≤b∧b<w'.heap.size:=by
 have ae:=Below.refl w.heap.size w;refine Zs 27 Tryz.func81 ?_;refine ao ?_;refine Zl aI ?_;intro g2 w1 n2;have e2:=Nat.le_trans ae.size n2.ge;replace ae:=ae.step n2.below;have k2:=n2.av;refine Za ?_;refine Za ?_;refine aV 0 2 3 4 (aG ?_);refine Zl aI ?_;intro g5 w2 n5;have e5:=Nat.le_trans ae.size n5.ge;have l5:=Nat.lt_of_lt_of_le k2.lt n5.ge;replace ae:=ae.step n5.below;replace k2:=k2.step n5.below;have k5:=n5.av;refine aU 0 2 3 4 5 (aG ?_);refine Zm ?_;refine Zv (aa.makeFunc (v:= .func (.func 127) #[] #[.pointer (some ⟨g5,0,none⟩)]) rfl (show iG _ _=some [] from rfl) (show iG _ _=some [.pointer (some ⟨g5,0,none⟩)] from rfl) rfl) ?_;have hg5:=k5.lt
 have hps:=vF l hl hlen 127 [.pointer (some ⟨g5,0,none⟩)] g5 (fK (aR l).1) (DM g5) (DM g5 w2) w2 (Nat.le_of_lt hg5) (fun args w=>bG Tryz.func127 (by kernel_rfl) rfl args w) (pk _)
  (fun a W0 W W' g h1 h2 h3 h4 h5 h6=>h1.kept hg5 h2 h3 h4 h5 h6)
  (fun K hK hw h2 hg hA W hb hp=>by
   have:=vb K hK ((aR l).1.length+1) g5 g5 W hp (k5.step hb) (by omega) (Nat.le_refl _) (fun ad ha=>by have:=hA ad ha;omega) (by rw[hw];exact pk _);rw[hw] at this;exact this)
 refine Zc (Ze Tryz.func126) (hps) ?_;rintro e w6 ⟨hb6,kp6,rfl,hok⟩;refine⟨_,rfl,?_⟩;have bel6:Below w.heap.size w w6:=ae.trans (hb6.mono e5);have k2':aK w6 g2 71 _:=(show w6.heap[g2]? =w2.heap[g2]? from hb6.block g2 l5).trans k2;have hlt6:=bel6.size;clear ae k5 k2;have ae:=bel6;have k2:=k2';have hA:=uF (l:=l) (r:=fK (aR l).1);obtain⟨z,hz⟩:∃z,(cv l (fK (aR l).1)).2=z:=⟨_,rfl⟩;obtain⟨y,hy⟩:∃y,(cv l (fK (aR l).1)).1=y:=⟨_,rfl⟩;rw[hz] at hok hA⊢;rw[hy] at hA⊢
 by_cases hz0:z=0
 ·obtain⟨x,q,hx,S,v,k5,hrep,hS⟩:=hok hz0
  have hps2:cu l=if dF x=true then(x,0,0) else(eT,0,13):=by unfold cu;rw[if_neg (by rw[hz];exact fun h=>h hz0),hx]
  obtain rfl:=hA hz0;subst hz0;have hrb:fZ w6 w6.heap.size x v:=hrep.mono (fun b hb=>(hS b hb).2) (fun _ _=>rfl);obtain⟨A,c,A',c',rfl⟩:=hrep.form;have hri:=xA x w6.heap.size _ w6 hrb (Nat.le_refl _);have k5:aK w6 g5 71 #[.int .i64 x.op, .string (strOf x.name), .slice A x.exprs.length c, .slice A' x.aH.length c']:=k5
  generalize dF x=b at *
  refine Zm ?_;refine Zv (aa.extract rfl rfl rfl) ?_;refine Zv (aa.extract rfl rfl rfl) ?_;refine Za ?_;refine Za ?_;refine bb 0 2 3 4 5 6 7 (aJ (ao ?_));refine Zm ?_;refine Zv ((aa.aB rfl rfl rfl).kE (rfl)) ?_;refine Zm ?_;refine Seq.aF (aa.aQ rfl rfl Tryz.underlying71 rfl k5 (m:=4) (by kernel_rfl) rfl) rfl rfl rfl rfl rfl ?_;refine Seq.tB (Ze Tryz.func99) rfl rfl rfl rfl rfl (hri) ?_;rintro e w7 ⟨rfl,hb7⟩;refine⟨_,rfl,?_⟩;replace ae:=ae.step hb7;replace k2:=k2.step hb7;replace k5:=k5.step hb7;refine Seq.aF (aa.not rfl rfl) rfl rfl rfl rfl rfl ?_;refine Zv (aa.cK rfl rfl rfl) ?_;have hw67:=hb7.size
  cases b with
  |true=>
   refine cI 0 2 3 4 5 6 7 20 (Zt ?_);refine Cd.aN rfl rfl ?_;refine Cd.skip (aJ (ao ?_));refine Zm ?_;refine Zv (aa.bN rfl rfl rfl) ?_;refine dG 0 2 3 4 5 6 7 20 22 (Zt ?_);refine Cd.aN rfl (by simp) ?_;refine Cd.skip (aG ?_);refine Zv (aa.aQ rfl rfl Tryz.underlying71 rfl k5 (m:=4) (by kernel_rfl) rfl) ?_;refine Zo 4 k2 ?_;intro w3 pw3;replace ae:=ae.put k2 pw3 e2;replace k5:=k5.put pw3 (by omega);replace k2:=pw3.av;refine Za ?_;refine Za ?_;refine dG 0 2 3 4 5 6 7 20 22 (Zt (Cd.ret ?_));refine ab.mw rfl rfl rfl rfl k2 Tryz.underlying71 rfl (m:=4) (by kernel_rfl) rfl (.inl rfl) ?_;rw[hps2,if_pos rfl];have hsz:=pw3.size;refine⟨ae, .agg #[.int .i64 x.op, .string (strOf x.name), .slice A x.exprs.length c, .slice A' x.aH.length c'],S,rfl,hrep.mono (fun _ h=>h) fun p hp=>World.cell?_of_block ?_,fun b hb=> ?_⟩
   ·have:=hS _ hp
    exact(pw3.grown.block _ (by omega) (fun e=>by injection e with e;omega)).trans (hb7.block _ this.2)
   ·have:=hS b hb
    have:=hb6.size;omega
  |false=>
   refine cI 0 2 3 4 5 6 7 20 (Zt ?_);refine Cd.aX rfl rfl ?_;refine Zr ?_;refine Za ?_;refine cI 0 2 3 4 5 6 7 20 (aJ (ao ?_));refine Zm ?_;refine Zv (aa.bN rfl rfl rfl) ?_;refine dG 0 2 3 4 5 6 7 20 22 (Zt ?_);refine Cd.aX rfl (by simp) ?_;refine ao ?_;refine Zv (aa.build rfl rfl (dJ _)) ?_;refine Zm ?_;refine Zm ?_;refine Zo 4 k2 ?_;intro w3 pw3;replace ae:=ae.put k2 pw3 e2;replace k5:=k5.put pw3 (by omega);replace k2:=pw3.av;refine Za ?_;refine Za ?_;refine dG 0 2 3 4 5 6 7 20 22 (Zt (Cd.ret (ab.af ?_)));refine ab.mw rfl rfl rfl rfl k2 Tryz.underlying71 rfl (m:=4) (by kernel_rfl) rfl (.inl rfl) ?_;rw[hps2,if_neg (by simp)];exact⟨ae, .agg #[.int .i64 0, .string (strOf []), .slice none 0 0, .slice none 0 0],fun _=>False,rfl,dm.zero _ _,fun b h=>h.elim⟩
 ·have hps2:cu l=(eT,y,z):=by unfold cu;rw[if_pos (by rw[hz];exact hz0),hy,hz]
  refine Zm ?_;refine Zv (aa.extract rfl rfl rfl) ?_;refine Zv (aa.extract rfl rfl rfl) ?_;refine Za ?_;refine Za ?_;refine bb 0 2 3 4 5 6 7 (aJ (ao ?_));refine Zm ?_;refine Zv ((aa.aB rfl rfl rfl).gN (hz0)) ?_;refine Zm ?_;refine Seq.n0 rfl rfl rfl rfl rfl rfl ?_;refine Seq.n0 rfl rfl rfl rfl rfl rfl ?_;refine Seq.n0 rfl rfl rfl rfl rfl rfl ?_;refine Zv (aa.bp rfl rfl rfl) ?_;refine cI 0 2 3 4 5 6 7 20 (Zt ?_);refine Cd.aN rfl rfl ?_;refine Cd.skip (aJ (ao ?_));refine Zm ?_;refine Zv (aa.bN rfl rfl rfl) ?_;refine dG 0 2 3 4 5 6 7 20 22 (Zt ?_);refine Cd.aX rfl (by simpa using hz0) ?_;refine ao ?_;refine Zv (aa.build rfl rfl (dJ _)) ?_;refine Zm ?_;refine Zm ?_;refine Zo 4 k2 ?_;intro w3 pw3;replace ae:=ae.put k2 pw3 e2;replace k2:=pw3.av;refine Za ?_;refine Za ?_;refine dG 0 2 3 4 5 6 7 20 22 (Zt (Cd.ret (ab.af ?_)));refine ab.mw rfl rfl rfl rfl k2 Tryz.underlying71 rfl (m:=4) (by kernel_rfl) rfl (.inl rfl) ?_;rw[hps2];exact⟨ae, .agg #[.int .i64 0, .string (strOf []), .slice none 0 0, .slice none 0 0],fun _=>False,rfl,dm.zero _ _,fun b h=>h.elim⟩
def lH (c:Nat):Prop:=c≠32∧c≠9∧c≠10∧c≠35
theorem fX:∀(l:List Nat) (b:Bool) (c:Nat),l[ee l b]? =some c→lH c
 | [],b,c,h=>by simp at h
 |d::l,true,c,h=>by
  rw[uB] at h;split at h
  ·exact fX l false c (by simpa using h)
  ·exact fX l true c (by simpa using h)
 |d::l,false,c,h=>by
  rw[oP] at h
  by_cases hb:fA d=true
  ·rw[if_pos hb] at h
   exact fX l false c (by simpa using h)
  ·rw[if_neg hb] at h
   by_cases h35:d=35
   ·rw[if_pos h35] at h
    exact fX l true c (by simpa using h)
   ·rw[if_neg h35] at h
    simp at h;subst h;unfold fA at hb;simp at hb;exact⟨hb.1.1,hb.1.2,hb.2,h35⟩
theorem vz {l:List Nat}{q c:Nat}(h:l[q+bW (l.drop q)]? =some c):lH c:=
 fX (l.drop q) false c (by rw[List.getElem?_drop];exact h)
theorem sZ (l:List Nat):∀f p,(∀c,l[p]? =some c→lH c)→(∀x∈(fI f l p).1,∃c,l[x.pos]? =some c∧lH c)∧∀q,(fI f l p).2=some q→∃c,l[q]? =some c∧lH c
 |0,p,_=>⟨fun x h=>by simp[fI] at h,fun q h=>by simp[fI] at h⟩
 |f+1,p,hp=>by
  rcases Nat.lt_or_ge p l.length with hlt|hge
  ·have hc:l[p]? =some l[p]:=List.getElem?_eq_getElem hlt
   rw[fT f l p hlt]
   cases hn:gq (l.drop p) with
   |none=>
    exact⟨fun x h=>by simp at h,fun q h=>by injection h with h;subst h;exact⟨_,hc,hp _ hc⟩⟩
   |some z=>
    obtain⟨k,t,n⟩:=z;obtain⟨h1,h2⟩:=sZ l f (p+t.length+bW (l.drop (p+t.length))) (fun c h=>vz h);refine⟨fun x h=> ?_,h2⟩;rcases List.mem_cons.1 h with rfl|h
    ·exact⟨_,hc,hp _ hc⟩
    ·exact h1 x h
  ·rw[kx _ _ _ hge]
   exact⟨fun x h=>by simp at h,fun q h=>by simp at h⟩
theorem pL (l:List Nat):(∀x∈(aR l).1,∃c,l[x.pos]? =some c∧lH c)∧∀q,(aR l).2=some q→∃c,l[q]? =some c∧lH c:=
 sZ l (l.length+1) (bW l) fun c h=>fX l false c h
theorem rJ (l:List Nat)(p:Nat):endPos l p=l.length∨∃c,l[endPos l p]? =some c∧lH c:=by
 unfold endPos;rw[List.getD_eq_getElem?_getD]
 cases h:(aR l).1[p]? with
 |none=>exact .inl rfl
 |some x=>exact .inr ((pL l).1 x (List.mem_of_getElem? h))
theorem AM {α:Type}(l:List Nat)(r:Rs α):(cv l r=(0,0)∧l.length≤4000)∨(cv l r=(0,4)∧4000<l.length)∨(cv l r=(0,13)∧l.length≤4000)∨
  ∃p,cv l r=(p,11)∧l.length≤4000∧(p=l.length∨∃c,l[p]? =some c∧lH c):=by
 unfold cv
 by_cases h4:4000<l.length
 ·rw[if_pos h4];exact .inr (.inl ⟨rfl,h4⟩)
 ·rw[if_neg h4]
  have h4':l.length≤4000:=by omega
  cases h2:(aR l).2 with
  |some p=>exact .inr (.inr (.inr ⟨p,rfl,h4', .inr ((pL l).2 p h2)⟩))
  |none=>
   cases r with
   |out=>exact .inl ⟨rfl,h4'⟩
   |bad p ov=>
    cases ov with
    |true=>exact .inr (.inr (.inl ⟨rfl,h4'⟩))
    |false=>exact .inr (.inr (.inr ⟨_,rfl,h4',rJ l p⟩))
   |ok a p=>
    dsimp only
    by_cases h3:p=(aR l).1.length
    ·rw[if_pos h3];exact .inl ⟨rfl,h4'⟩
    ·rw[if_neg h3];exact .inr (.inr (.inr ⟨_,rfl,h4',rJ l p⟩))
theorem yu (l:List Nat):(∃t,cu l=(t,0,0)∧dF t=true∧l.length≤4000)∨(cu l=(eT,0,4)∧4000<l.length)∨(cu l=(eT,0,13)∧l.length≤4000)∨
  ∃p,cu l=(eT,p,11)∧l.length≤4000∧(p=l.length∨∃c,l[p]? =some c∧lH c):=by
 unfold cu;rcases AM l (fK (aR l).1) with ⟨h,h4⟩|⟨h,h4⟩|⟨h,h4⟩|⟨p,h,h4,hp⟩
 ·rw[h,if_neg (by simp)]
  have hz:∀(z:Tm × Nat × Int),True:=fun _=>trivial
  cases hr:fK (aR l).1 with
  |out=>exact absurd hr (pk _)
  |bad p ov=>
   exfalso;rw[hr] at h;unfold cv at h;rw[if_neg (by omega)] at h
   cases h2:(aR l).2 with
   |some p=>rw[h2] at h;cases h
   |none=>rw[h2] at h;cases ov<;>simp at h
  |ok x q=>
   dsimp only
   by_cases hx:dF x=true
   ·rw[if_pos hx];exact .inl ⟨x,rfl,hx,h4⟩
   ·rw[if_neg hx];exact .inr (.inr (.inl ⟨rfl,h4⟩))
 ·rw[h,if_pos (by simp)];exact .inr (.inl ⟨rfl,h4⟩)
 ·rw[h,if_pos (by simp)];exact .inr (.inr (.inl ⟨rfl,h4⟩))
 ·rw[h,if_pos (by simp)];exact .inr (.inr (.inr ⟨p,rfl,h4,hp⟩))
section
variable {α β:Type} {ws:List Wd} {j:Nat}
theorem map_fst (k:Nat)(f f':Nat→Nat→Rs α):(List.replicate k (f,f')).map Prod.fst=List.replicate k f:=by rw[List.map_replicate]
theorem map_snd (k:Nat)(f f':Nat→Nat→Rs α):(List.replicate k (f,f')).map Prod.snd=List.replicate k f':=by rw[List.map_replicate]
end
section
variable {α β:Type} {ws:List Wd}
def Le (r r':Rs α):Prop:=r≠ .out→r'=r
theorem Le.refl (r:Rs α):Le r r:=fun _=>rfl
theorem Le.bind {r r':Rs α}{f f':α→Nat→Rs β}(h:Le r r')(hf:∀a p,Le (f a p) (f' a p)):Le (r.bind f) (r'.bind f'):=fun hne=>by
 have h1:=h (Rs.fa hne);rw[h1]
 cases r with
 |out=>rfl
 |bad p o=>rfl
 |ok a p=>exact hf a p hne
def qU (f f':Nat→Nat→Rs α):Prop:=∀p d,Le (f p d) (f' p d)
theorem uz:∀(M:List ((Nat→Nat→Rs α) × (Nat→Nat→Rs α))),(∀x∈M,qU x.1 x.2)→∀first p d,Le (bn ws (M.map Prod.fst) first p d) (bn ws (M.map Prod.snd) first p d)
 | [],_,first,p,d=>Le.refl _
 |x::M,hM,first,p,d=>by
  rw[List.map_cons,List.map_cons,bn,bn];refine(Le.refl _).bind fun u p1=> ?_;refine(hM x (by simp) p1 d).bind fun y p2=> ?_;exact(uz M (fun z hz=>hM z (by simp[hz])) false p2 d).bind fun ys p3=>Le.refl _
theorem nu (M:List ((Nat→Nat→Rs α) × (Nat→Nat→Rs α)))(hM:∀x∈M,qU x.1 x.2):qU (aW ws (M.map Prod.fst)) (aW ws (M.map Prod.snd)):=fun p d=>by
 unfold aW;refine(Le.refl _).bind fun u p1=> ?_;refine(Le.refl _).bind fun u2 p2=> ?_;refine(uz M hM true p2 (d+1)).bind fun xs p3=> ?_;exact Le.refl _
theorem nB {E0 E0':Nat→Nat→Rs Ex}(hE:qU E0 E0')(op:Int)(k p d:Nat):Le (bX ws E0 op k p d) (bX ws E0' op k p d):=by
 unfold bX;have:=nu (ws:=ws) (List.replicate k (E0,E0')) (fun x hx=>by rw[(List.mem_replicate.1 hx).2];exact hE) (p+1) d;rw[map_fst,map_snd] at this;exact this.bind fun xs q=>Le.refl _
theorem Cv {E0 E0':Nat→Nat→Rs Ex}(hE:qU E0 E0'):qU (eO ws E0) (eO ws E0'):=fun p d=>by
 unfold eO;split
 ·exact Le.refl _
 split
 ·exact Le.refl _
 split
 ·split
  ·exact Le.refl _
  split
  ·exact nB hE 9 2 p d
  split
  ·exact nB hE 10 2 p d
  split
  ·exact nB hE 21 3 p d
  exact Le.refl _
 split
 ·exact(nu (ws:=ws) [(E0,E0')] (fun x hx=>by rw[List.mem_singleton.1 hx];exact hE) p d).bind fun xs q=>Le.refl _
 exact Le.refl _
theorem tj {S S':Nat→Nat→Rs Ex}(hS:qU S S')(op:Int):qU (dw S op) (dw S' op):=fun p d=>by
 unfold dw;refine(Le.refl _).bind fun u p1=> ?_;exact(hS _ _).bind fun x q=>Le.refl _
theorem AR {S S' E0 E0':Nat→Nat→Rs Ex}(hS:qU S S')(hE:qU E0 E0'):qU (bC ws S E0) (bC ws S' E0'):=fun p d=>by
 unfold bC;split
 ·exact tj hS 19 p d
 split
 ·exact tj hS 20 p d
 exact Cv hE p d
structure EP (f f':PF):Prop where
 E:∀lvl,qU (f.E lvl) (f'.E lvl)
 L:∀lvl x p d,Le (f.L lvl x p d) (f'.L lvl x p d)
 S:qU f.S f'.S
theorem BR {f f':PF}(h:EP f f')(lvl:Nat)(x:Ex)(p d:Nat):Le (dC ws f lvl x p d) (dC ws f' lvl x p d):=by
 unfold dC
 cases opAt ws lvl p with
 |none=>exact Le.refl _
 |some op=>
  refine(h.E (lvl+1) (p+1) d).bind fun r q=> ?_;split
  ·exact Le.refl _
  ·exact h.L _ _ _ _
theorem zU {L L':Nat→Ex→Nat→Nat→Rs Ex}{S S':Nat→Nat→Rs Ex}(hL:∀lvl x p d,Le (L lvl x p d) (L' lvl x p d))(hS:qU S S'):∀i,qU (kG L S i) (kG L' S' i)
 |0=>hS
 |i+1=>fun p d=>by
  rw[kG,kG];exact(zU hL hS i p d).bind fun x q=>hL _ _ _ _
theorem mS (ws:List Wd):∀n,EP (bH ws n) (bH ws (n+1))
 |0=>⟨fun lvl p d h=>absurd rfl h,fun lvl x p d h=>absurd rfl h,fun p d h=>absurd rfl h⟩
 |n+1=>by
  have ih:=mS ws n;have hL:=BR (ws:=ws) ih;have hS:=AR (ws:=ws) ih.S (ih.E 0);exact⟨fun lvl=>zU hL hS _,hL,hS⟩
end
def cg (ws:List Wd):PF:=bH ws (ws.length+1)
def mx (ws:List Wd):Nat→Nat→Rs Tm:=ig ws (ws.length+1)
theorem pr (ws:List Wd):DE (cg ws) 0:=nd ws ws.length 0 (by omega)
theorem iY (ws:List Wd):xh (cg ws):=fW ws _
theorem AG (ws:List Wd)(lvl:Nat)(x:Ex)(p d:Nat):(cg ws).L lvl x p d=dC ws (cg ws) lvl x p d:=((mS ws (ws.length+1)).L lvl x p d ((pr ws).L lvl x p d (Nat.zero_le _))).symm
theorem DK (ws:List Wd)(p d:Nat):(cg ws).S p d=bC ws (cg ws).S ((cg ws).E 0) p d:=((mS ws (ws.length+1)).S p d ((pr ws).S p d (Nat.zero_le _))).symm
theorem C8 (ws:List Wd)(lvl p d:Nat)(h:lvl<5):(cg ws).E lvl p d=((cg ws).E (lvl+1) p d).bind fun x p=>(cg ws).L lvl x p d:=wM ws ws.length lvl p d h
theorem CO (ws:List Wd)(p d:Nat):(cg ws).E 5 p d=(cg ws).S p d:=rfl
theorem Rs.tG {α:Type}(r:Rs α):r.bind (fun x q=> .ok x q)=r:=by cases r<;>rfl
def wX (f:PF)(lvl:Nat):Nat→Ex→Nat→Nat→Rs Ex
 |0,x,p,_=> .ok x p
 |k+1,x,p,d=>(f.L (lvl+k) x p d).bind fun y q=>wX f lvl k y q d
theorem tc (f:PF)(lvl:Nat):∀k x p d,wX f lvl (k+1) x p d=(wX f (lvl+1) k x p d).bind fun y q=>f.L lvl y q d
 |0,x,p,d=>by
  show(f.L (lvl+0) x p d).bind (fun y q=>Rs.ok y q)=_;rw[Rs.tG];rfl
 |k+1,x,p,d=>by
  rw[wX]
  have:(fun y q=>wX f lvl (k+1) y q d)=fun y q=>(wX f (lvl+1) k y q d).bind fun y q=>f.L lvl y q d:=by
   funext y q
   exact tc f lvl k y q d
  rw[this,←Rs.bind_assoc,show lvl+(k+1)=lvl+1+k by omega];rfl
theorem xb (ws:List Wd)(p d:Nat):∀k lvl,lvl+k=5→(cg ws).E lvl p d=((cg ws).S p d).bind fun x q=>wX (cg ws) lvl k x q d
 |0,lvl,h=>by
  obtain rfl:lvl=5:=by omega
  rw[CO];exact(Rs.tG _).symm
 |k+1,lvl,h=>by
  rw[C8 ws lvl p d (by omega),xb ws p d k (lvl+1) (by omega),Rs.bind_assoc];congr 1
  funext x q
  exact(tc _ _ _ _ _ _).symm
def so (t:List Nat):Option (Nat × Int):=
 if t=[124] then some (0,18) else if t=[38] then some (1,17) else if t=[60] then some (2,11) else if t=[60,61] then some (2,12) else if t=[61] then some (2,13) else if t=[33,61] then some (2,14)
 else if t=[62,61] then some (2,15) else if t=[62] then some (2,16) else if t=[43] then some (3,5) else if t=[45] then some (3,6) else if t=[42] then some (4,7) else if t=[47] then some (4,8) else none
def kT (ws:List Wd)(p:Nat):Option (Nat × Int):=if(de ws p).kind=0 then so (de ws p).text else none
def A7:List (List Nat):=[[124],[38],[60],[60,61],[61],[33,61],[62,61],[62],[43],[45],[42],[47]]
def E8 (lvl:Nat)(t:List Nat):Option Int:=match so t with
 |some (i,op)=>if i=lvl then some op else none
 |none=>none
theorem DH:∀lvl,lvl<5→∀t∈A7,(if t∈cN lvl then(gH lvl)[(cN lvl).idxOf t]? else none)=E8 lvl t:=by decide+kernel
theorem yr:∀lvl,lvl<5→∀t∈cN lvl,t∈A7:=by decide+kernel
theorem yF {t:List Nat}(h:t∉A7):so t=none:=by
 unfold A7 at h;simp only[List.mem_cons,List.not_mem_nil,or_false,not_or] at h;unfold so;simp[h]
theorem pW (ws:List Wd)(lvl p:Nat)(h:lvl<5):opAt ws lvl p=match kT ws p with
 |some (i,op)=>if i=lvl then some op else none
 |none=>none:=by
 unfold opAt kT
 by_cases hk:(de ws p).kind=0
 ·rw[if_neg (by simp[hk]),if_pos hk]
  generalize (de ws p).text=t
  by_cases ht:t∈A7
  ·exact DH lvl h t ht
  ·rw[yF ht,if_neg (fun h2=>ht (yr lvl h t h2))]
 ·rw[if_pos (by simpa using hk),if_neg hk]
theorem tR (ws:List Wd)(lvl:Nat){p:Nat}:∀k x d,lvl+k≤5→(∀i op,kT ws p=some (i,op)→i<lvl∨lvl+k≤i)→wX (cg ws) lvl k x p d= .ok x p
 |0,x,d,_,_=>rfl
 |k+1,x,d,hk,h=>by
  rw[wX,AG]
  have ho:opAt ws (lvl+k) p=none:=by
   rw[pW ws (lvl+k) p (by omega)]
   cases hp:kT ws p with
   |none=>rfl
   |some z=>
    obtain⟨i,op⟩:=z;have:=h i op hp;dsimp only;rw[if_neg (by omega)]
  unfold dC;rw[ho];exact tR ws lvl k x d (by omega) fun i op hp=>by have:=h i op hp;have h2:=pW ws (lvl+k) p (by omega);rw[ho,hp] at h2;dsimp only at h2;split at h2;cases h2;omega
theorem sY (ws:List Wd)(lvl:Nat){p i:Nat}{op:Int}(hp:kT ws p=some (i,op)):∀k x d,lvl+k≤5→lvl≤i→i<lvl+k→wX (cg ws) lvl k x p d=((cg ws).E (i+1) (p+1) d).bind fun r q=>wX (cg ws) lvl (if i=2 then 2-lvl else i-lvl+1) (su op x r) q d
 |0,x,d,_,h1,h2=>by omega
 |k+1,x,d,hk,h1,h2=>by
  rw[wX,AG];unfold dC;have ho:=pW ws (lvl+k) p (by omega);rw[hp] at ho;dsimp only at ho
  by_cases hi:i=lvl+k
  ·rw[if_pos hi] at ho
   rw[ho];dsimp only;rw[Rs.bind_assoc,←hi];congr 1
   funext r q
   by_cases h3:i=2
   ·rw[if_pos h3,if_pos h3,show k=2-lvl by omega]
    rfl
   ·rw[if_neg h3,if_neg h3,show i-lvl+1=k+1 by omega,wX,hi]
  ·rw[if_neg hi] at ho
   rw[ho];exact sY ws lvl hp k x d (by omega) h1 (by omega)
structure SW (K:Ctx)(w:World)(p:Nat)(o:Int)(dp bd:Bool):Prop where
 av:aK w K.g 183 #[.slice K.A K.ws.length K.c, .int .i64 (p:Int), .int .i64 o, .bool dp, .bool bd]
 rd:Reads w K.B 4 K.A K.ws.length (da K.ws)
 bK:p≤K.ws.length
 jQ:0≤o∧o≤1000
 le:K.B≤K.g
theorem SW.step {K:Ctx}{w w':World}{p:Nat}{o:Int}{dp bd:Bool}(h:SW K w p o dp bd)(hb:Below w.heap.size w w'):SW K w' p o dp bd:=⟨h.av.step hb,h.rd.below (hb.mono (by have:=h.av.lt;have:=h.le;omega)),h.bK,h.jQ,h.le⟩
theorem SW.put {K:Ctx}{w w':World}{p g:Nat}{o:Int}{dp bd:Bool}{T:TypeId}{cur cs:Array Value}{E:Prop}(h:SW K w p o dp bd)(k:aK w g T cur)(pw:lD w w' g T cs)(_e:E)(hne:K.g<g:=by omega):SW K w' p o dp bd:=⟨h.av.put pw (by omega),h.rd.below (pw.below (by have:=h.le;omega) k.lt),h.bK,h.jQ,h.le⟩
theorem SW.to {K:Ctx}{w W:World}{h0 p:Nat}{o:Int}{dp bd:Bool}(h:SW K w p o dp bd)(hK:K.B≤K.g)(ae:Fz h0 K.g w W){p':Nat}{o':Int}{dp' bd':Bool}(hb:aK W K.g 183 #[.slice K.A K.ws.length K.c, .int .i64 (p':Int), .int .i64 o', .bool dp', .bool bd']) (hp:p'≤K.ws.length) (ho:0≤o'∧o'≤1000) (hh:K.B≤h0:=by omega):SW K W p' o' dp' bd':=
 ⟨hb,h.rd.below (ae.below hh hK),hp,ho,hK⟩
def gx (ws:List Wd)(p:Nat)(bd:Bool)(k:Int):List Nat:=if bd=true then [] else if(de ws p).kind=k then(de ws p).text else []
theorem tS {ws:List Wd}{p:Nat}{x:Wd}(h:ws[p]? =some x):de ws p=x:=by unfold de;rw[List.getD_eq_getElem?_getD,h];rfl
theorem ki {ws:List Wd}{p:Nat}(h:ws.length≤p):de ws p=⟨-1,[],0,0⟩:=by unfold de;rw[List.getD_eq_getElem?_getD,List.getElem?_eq_none h];rfl
theorem Ctx.Ok.de {K:Ctx}(hK:K.Ok)(p:Nat):bt (de K.ws p).kind∧bt (de K.ws p).n∧(∀c∈(de K.ws p).text,c<256)∧(de K.ws p).text.length≤4000:=by
 obtain⟨a1,a2,a3,a4,a5⟩:=hK.at_ p;obtain⟨b1,b2,b3⟩:=K.ju p;rw[←b1,←b2,←b3];exact⟨a1,a2,a3,a4⟩
theorem oy {K:Ctx}(hK:K.Ok)(p:Nat)(bd:Bool)(k:Int):∀c∈gx K.ws p bd k,c<256:=by
 unfold gx;split
 ·simp
 split
 ·exact(hK.de p).2.2.1
 ·simp
theorem mG (K:Ctx)(hK:K.Ok)(p:Nat)(o:Int)(dp bd:Bool)(k:Int)(w:World)(h:SW K w p o dp bd)(hk:0≤k):Calls Tryz.prog 156 #[.pointer (some ⟨K.g,0,none⟩), .int .i64 k] w fun e w'=>e= .returned (.string (strOf (gx K.ws p bd k)))∧Grow w w':=by
 have ae:=Below.refl w.heap.size w;have k99:=h.av;have hrd:=h.rd;have hlt:=h.av.lt;have hBg:=hK.le;have hpl:=h.bK;refine Zs 47 Tryz.func156 ?_;refine ao ?_;refine Za ?_;refine bD 0 1 4 (aJ (Cd.seq ?_))
 cases bd with
 |true=>
  refine Cd.draw 31 (by kernel_rfl) [] (.inl rfl) rfl Grow Grow.refl (fun _ _ _=>Grow.trans) ?_;intro w1 hw1 zw1;replace ae:=ae.step hw1;replace k99:=k99.step hw1;have zbel:=ae.size;have zlt:=k99.lt;refine cn ?_;refine Zd (fun w hG=>aa.nilCheck rfl rfl) ?_;refine Zd (fun w hG=>aa.an 4 rfl rfl Tryz.underlying183 rfl (by kernel_rfl)) ?_;refine Zd (fun w hG=>aa.ag rfl rfl Tryz.underlying4 rfl (k99.step hG) rfl) ?_;refine cn ?_;refine df ?_;refine df ?_;refine df ?_;refine df ?_;refine df ?_;refine df ?_;refine df ?_;refine df ?_;refine df ?_;refine df ?_;refine Zd (fun w hG=>aa.cK rfl rfl rfl) ?_;refine cn ?_;refine df ?_;refine df ?_;refine df ?_;refine df ?_;refine df ?_;refine df ?_;refine df ?_;refine df ?_;refine df ?_;refine df ?_;refine df ?_;refine df ?_;refine df ?_;refine Zd (fun w hG=>aa.cK rfl rfl rfl) ?_;refine Dr.nil ?_;refine ba.done (F':=[(0,_),(1,_),(4,_),(35,_)]) rfl ⟨rfl,rfl,rfl,rfl,trivial⟩ ?_;intro w2 hw2 fw2;replace ae:=ae.step hw2;replace k99:=k99.step hw2;refine aV 0 1 4 35 (Zt ?_);refine Cd.aX rfl rfl ?_;refine ao ?_;refine Za ?_;refine aV 0 1 4 35 (Zt (Cd.ret (ab.af ?_)));refine ab.aE rfl rfl (.inl rfl) ?_;exact⟨rfl,ae⟩
 |false=>
  have hq:gx K.ws p false k=if(de K.ws p).kind=k then(de K.ws p).text else []:=rfl;rcases Nat.lt_or_ge p K.ws.length with hp|hp
  ·obtain⟨ad,hA,hadb,hcell⟩:=hrd.2 (by omega)
   obtain⟨x,hx⟩:∃x,K.ws[p]? =some x:=⟨_,List.getElem?_eq_getElem (by omega)⟩;have hat:=tS hx
   have hce:∀W,Below w.heap.size w W→∀(q:Nat) (u:Value),([.int .i64 x.kind, .string (strOf x.text), .int .i64 x.n, .int .i64 (x.pos:Int)]:List Value)[q]? =some u→W.cell? ((ad.add (p*4)).add q)=some u:=fun W hb q u hu=>by
    rw[(hb.mono (show K.B≤w.heap.size by omega)).cell (by rw[aw,aw];exact hadb),fF];exact hcell _ _ (gB K.ws p x hx q u hu)
   rw[hA] at k99;rw[hq,hat]
   by_cases hc:x.kind=k
   ·rw[if_pos hc]
    refine Cd.draw 31 (by kernel_rfl) [] (.inl rfl) rfl Grow Grow.refl (fun _ _ _=>Grow.trans) ?_;intro w1 hw1 zw1;replace ae:=ae.step hw1;replace k99:=k99.step hw1;have zbel:=ae.size;have zlt:=k99.lt;refine cn ?_;refine Zd (fun w hG=>aa.nilCheck rfl rfl) ?_;refine Zd (fun w hG=>aa.an 4 rfl rfl Tryz.underlying183 rfl (by kernel_rfl)) ?_;refine Zd (fun w hG=>aa.ag rfl rfl Tryz.underlying4 rfl (k99.step hG) rfl) ?_;refine cn ?_;refine ck (fun w hG=>aa.move rfl rfl) ?_;refine ck (fun w hG=>aa.nilCheck rfl rfl) ?_;refine ck (fun w hG=>aa.an 1 rfl rfl Tryz.underlying183 rfl (by kernel_rfl)) ?_;refine ck (fun w hG=>aa.ag rfl rfl Tryz.underlying3 rfl (k99.step hG) rfl) ?_;refine ck (fun w hG=>aa.move rfl rfl) ?_;refine ck (fun w hG=>aa.nilCheck rfl rfl) ?_;refine ck (fun w hG=>aa.an 0 rfl rfl Tryz.underlying183 rfl (by kernel_rfl)) ?_;refine ck (fun w hG=>aa.ag rfl rfl Tryz.underlying178 rfl (k99.step hG) rfl) ?_;refine ck (fun w hG=>aa.len rfl rfl Tryz.underlying178) ?_;refine ck (fun w hG=>(aa.geq rfl rfl rfl).gN (by omega)) ?_;refine Zd (fun w hG=>aa.bp rfl rfl rfl) ?_;refine cn ?_;refine ck (fun w hG=>aa.move rfl rfl) ?_;refine ck (fun w hG=>aa.nilCheck rfl rfl) ?_;refine ck (fun w hG=>aa.an 0 rfl rfl Tryz.underlying183 rfl (by kernel_rfl)) ?_;refine ck (fun w hG=>aa.ag rfl rfl Tryz.underlying178 rfl (k99.step hG) rfl) ?_;refine ck (fun w hG=>aa.move rfl rfl) ?_;refine ck (fun w hG=>aa.nilCheck rfl rfl) ?_;refine ck (fun w hG=>aa.an 1 rfl rfl Tryz.underlying183 rfl (by kernel_rfl)) ?_;refine ck (fun w hG=>aa.ag rfl rfl Tryz.underlying3 rfl (k99.step hG) rfl) ?_;refine ck (fun w hG=>aa.bI rfl rfl rfl Tryz.underlying178 (s:=4) (by kernel_rfl) (j:=p) rfl (by omega)) ?_;refine ck (fun w hG=>aa.fL 0 rfl rfl Tryz.underlying211 rfl (by kernel_rfl)) ?_;refine ck (fun w hG=>aa.iu rfl rfl Tryz.underlying3 rfl (hce _ (ae.step hG) 0 _ rfl)) ?_;refine ck (fun w hG=>aa.move rfl rfl) ?_;refine ck (fun w hG=>(aa.bN rfl rfl rfl).gN (fun h=>h hc)) ?_;refine Zd (fun w hG=>aa.bp rfl rfl rfl) ?_;refine Dr.nil ?_;refine ba.done (F':=[(0,_),(1,_),(4,_),(35,_)]) rfl ⟨rfl,rfl,rfl,rfl,trivial⟩ ?_;intro w2 hw2 fw2;replace ae:=ae.step hw2;replace k99:=k99.step hw2;refine aV 0 1 4 35 (Zt ?_);refine Cd.aN rfl rfl ?_;refine Cd.skip (aJ ?_);refine Cd.dV (F':=[(0,_),(1,_),(35,_)]) ⟨rfl,rfl,rfl,trivial⟩ ?_;refine Cd.draw 12 (by kernel_rfl) [] (.inl rfl) rfl Grow Grow.refl (fun _ _ _=>Grow.trans) ?_;intro w3 hw3 zw3;replace ae:=ae.step hw3;replace k99:=k99.step hw3;have zbel:=ae.size;have zlt:=k99.lt;refine cn ?_;refine Zd (fun w hG=>aa.nilCheck rfl rfl) ?_;refine Zd (fun w hG=>aa.an 0 rfl rfl Tryz.underlying183 rfl (by kernel_rfl)) ?_;refine Zd (fun w hG=>aa.ag rfl rfl Tryz.underlying178 rfl (k99.step hG) rfl) ?_;refine cn ?_;refine Zd (fun w hG=>aa.nilCheck rfl rfl) ?_;refine Zd (fun w hG=>aa.an 1 rfl rfl Tryz.underlying183 rfl (by kernel_rfl)) ?_;refine Zd (fun w hG=>aa.ag rfl rfl Tryz.underlying3 rfl (k99.step hG) rfl) ?_;refine Zd (fun w hG=>aa.bI rfl rfl rfl Tryz.underlying178 (s:=4) (by kernel_rfl) (j:=p) rfl (by omega)) ?_;refine Zd (fun w hG=>aa.fL 1 rfl rfl Tryz.underlying211 rfl (by kernel_rfl)) ?_;refine Zd (fun w hG=>aa.iu rfl rfl Tryz.underlying9 rfl (hce _ (ae.step hG) 1 _ rfl)) ?_;refine Zd (fun w hG=>aa.assign rfl rfl) ?_;refine Dr.nil ?_;refine ba.done (F':=[(0,_),(1,_),(4,_),(35,_)]) rfl ⟨rfl,rfl,rfl,rfl,trivial⟩ ?_;intro w4 hw4 fw4;replace ae:=ae.step hw4;replace k99:=k99.step hw4;refine aV 0 1 4 35 (Zt (Cd.ret ?_));refine ab.aE rfl rfl (.inl rfl) ?_;exact⟨rfl,ae⟩
   ·rw[if_neg hc]
    refine Cd.draw 31 (by kernel_rfl) [] (.inl rfl) rfl Grow Grow.refl (fun _ _ _=>Grow.trans) ?_;intro w1 hw1 zw1;replace ae:=ae.step hw1;replace k99:=k99.step hw1;have zbel:=ae.size;have zlt:=k99.lt;refine cn ?_;refine Zd (fun w hG=>aa.nilCheck rfl rfl) ?_;refine Zd (fun w hG=>aa.an 4 rfl rfl Tryz.underlying183 rfl (by kernel_rfl)) ?_;refine Zd (fun w hG=>aa.ag rfl rfl Tryz.underlying4 rfl (k99.step hG) rfl) ?_;refine cn ?_;refine ck (fun w hG=>aa.move rfl rfl) ?_;refine ck (fun w hG=>aa.nilCheck rfl rfl) ?_;refine ck (fun w hG=>aa.an 1 rfl rfl Tryz.underlying183 rfl (by kernel_rfl)) ?_;refine ck (fun w hG=>aa.ag rfl rfl Tryz.underlying3 rfl (k99.step hG) rfl) ?_;refine ck (fun w hG=>aa.move rfl rfl) ?_;refine ck (fun w hG=>aa.nilCheck rfl rfl) ?_;refine ck (fun w hG=>aa.an 0 rfl rfl Tryz.underlying183 rfl (by kernel_rfl)) ?_;refine ck (fun w hG=>aa.ag rfl rfl Tryz.underlying178 rfl (k99.step hG) rfl) ?_;refine ck (fun w hG=>aa.len rfl rfl Tryz.underlying178) ?_;refine ck (fun w hG=>(aa.geq rfl rfl rfl).gN (by omega)) ?_;refine Zd (fun w hG=>aa.bp rfl rfl rfl) ?_;refine cn ?_;refine ck (fun w hG=>aa.move rfl rfl) ?_;refine ck (fun w hG=>aa.nilCheck rfl rfl) ?_;refine ck (fun w hG=>aa.an 0 rfl rfl Tryz.underlying183 rfl (by kernel_rfl)) ?_;refine ck (fun w hG=>aa.ag rfl rfl Tryz.underlying178 rfl (k99.step hG) rfl) ?_;refine ck (fun w hG=>aa.move rfl rfl) ?_;refine ck (fun w hG=>aa.nilCheck rfl rfl) ?_;refine ck (fun w hG=>aa.an 1 rfl rfl Tryz.underlying183 rfl (by kernel_rfl)) ?_;refine ck (fun w hG=>aa.ag rfl rfl Tryz.underlying3 rfl (k99.step hG) rfl) ?_;refine ck (fun w hG=>aa.bI rfl rfl rfl Tryz.underlying178 (s:=4) (by kernel_rfl) (j:=p) rfl (by omega)) ?_;refine ck (fun w hG=>aa.fL 0 rfl rfl Tryz.underlying211 rfl (by kernel_rfl)) ?_;refine ck (fun w hG=>aa.iu rfl rfl Tryz.underlying3 rfl (hce _ (ae.step hG) 0 _ rfl)) ?_;refine ck (fun w hG=>aa.move rfl rfl) ?_;refine ck (fun w hG=>(aa.bN rfl rfl rfl).kE (hc)) ?_;refine Zd (fun w hG=>aa.bp rfl rfl rfl) ?_;refine Dr.nil ?_;refine ba.done (F':=[(0,_),(1,_),(4,_),(35,_)]) rfl ⟨rfl,rfl,rfl,rfl,trivial⟩ ?_;intro w2 hw2 fw2;replace ae:=ae.step hw2;replace k99:=k99.step hw2;refine aV 0 1 4 35 (Zt ?_);refine Cd.aX rfl rfl ?_;refine ao ?_;refine Za ?_;refine aV 0 1 4 35 (Zt (Cd.ret (ab.af ?_)));refine ab.aE rfl rfl (.inl rfl) ?_;exact⟨rfl,ae⟩
  ·rw[hq,ki hp,if_neg (show¬(-1:Int)=k by omega)]
   refine Cd.draw 31 (by kernel_rfl) [] (.inl rfl) rfl Grow Grow.refl (fun _ _ _=>Grow.trans) ?_;intro w1 hw1 zw1;replace ae:=ae.step hw1;replace k99:=k99.step hw1;have zbel:=ae.size;have zlt:=k99.lt;refine cn ?_;refine Zd (fun w hG=>aa.nilCheck rfl rfl) ?_;refine Zd (fun w hG=>aa.an 4 rfl rfl Tryz.underlying183 rfl (by kernel_rfl)) ?_;refine Zd (fun w hG=>aa.ag rfl rfl Tryz.underlying4 rfl (k99.step hG) rfl) ?_;refine cn ?_;refine ck (fun w hG=>aa.move rfl rfl) ?_;refine ck (fun w hG=>aa.nilCheck rfl rfl) ?_;refine ck (fun w hG=>aa.an 1 rfl rfl Tryz.underlying183 rfl (by kernel_rfl)) ?_;refine ck (fun w hG=>aa.ag rfl rfl Tryz.underlying3 rfl (k99.step hG) rfl) ?_;refine ck (fun w hG=>aa.move rfl rfl) ?_;refine ck (fun w hG=>aa.nilCheck rfl rfl) ?_;refine ck (fun w hG=>aa.an 0 rfl rfl Tryz.underlying183 rfl (by kernel_rfl)) ?_;refine ck (fun w hG=>aa.ag rfl rfl Tryz.underlying178 rfl (k99.step hG) rfl) ?_;refine ck (fun w hG=>aa.len rfl rfl Tryz.underlying178) ?_;refine ck (fun w hG=>(aa.geq rfl rfl rfl).kE (by omega)) ?_;refine Zd (fun w hG=>aa.bp rfl rfl rfl) ?_;refine cn ?_;refine df ?_;refine df ?_;refine df ?_;refine df ?_;refine df ?_;refine df ?_;refine df ?_;refine df ?_;refine df ?_;refine df ?_;refine df ?_;refine df ?_;refine df ?_;refine Zd (fun w hG=>aa.cK rfl rfl rfl) ?_;refine Dr.nil ?_;refine ba.done (F':=[(0,_),(1,_),(4,_),(35,_)]) rfl ⟨rfl,rfl,rfl,rfl,trivial⟩ ?_;intro w2 hw2 fw2;replace ae:=ae.step hw2;replace k99:=k99.step hw2;refine aV 0 1 4 35 (Zt ?_);refine Cd.aX rfl rfl ?_;refine ao ?_;refine Za ?_;refine aV 0 1 4 35 (Zt (Cd.ret (ab.af ?_)));refine ab.aE rfl rfl (.inl rfl) ?_;exact⟨rfl,ae⟩
def dY (ws:List Wd)(s:List Nat)(p:Nat)(bd:Bool):Nat × Bool:=if bd=false∧qO ws p s=true then(p+1,false) else(p,true)
theorem tQ {ws:List Wd}{p:Nat}{bd:Bool}{s:List Nat}(hs:s≠ []):gx ws p bd 0=s↔bd=false∧qO ws p s=true:=by
 unfold gx qO
 cases bd with
 |true=>
  rw[if_pos rfl];exact⟨fun h=>absurd h.symm hs,fun h=>by cases h.1⟩
 |false=>
  rw[if_neg (by simp)]
  by_cases hk:(de ws p).kind=0
  ·rw[if_pos hk];simp[hk]
  ·rw[if_neg hk]
   exact⟨fun h=>absurd h.symm hs,fun h=>by simp[hk] at h⟩
theorem DB {ws:List Wd}{p:Nat}{s:List Nat}(h:qO ws p s=true):p<ws.length:=by
 rcases Nat.lt_or_ge p ws.length with hp|hp
 ·exact hp
 ·unfold qO at h
  rw[ki hp] at h;simp at h
theorem fQ (K:Ctx)(hK:K.Ok)(p:Nat)(o:Int)(dp bd:Bool)(s:List Nat)(w:World)(h:SW K w p o dp bd)(hs:∀x∈s,x<256)(hne:s≠ []):Calls Tryz.prog 157 #[.pointer (some ⟨K.g,0,none⟩), .string (strOf s)] w fun e w'=>(∃v,e= .returned v)∧Fz w.heap.size K.g w w'∧SW K w' (dY K.ws s p bd).1 o dp (dY K.ws s p bd).2:=by
 have ae:=Fz.refl w.heap.size K.g w;have k99:=h.av;have e99:K.g=K.g:=rfl;have hlt:=h.av.lt;have hle:=hK.le;have hpl:=h.bK;have hlen:=hK.len;have htx:=mG K hK p o dp bd 0 w h (by omega);have htl:=oy hK p bd 0;refine Zs 18 Tryz.func157 ?_;refine Cd.seq (ao ?_);refine Zm ?_;refine Zc (Ze Tryz.func156) (htx) ?_;rintro e w5 ⟨rfl,hb5⟩;refine⟨_,rfl,?_⟩;replace ae:=ae.step hb5;replace k99:=k99.step hb5;refine Zm ?_;refine Zv (aa.fH rfl rfl rfl htl hs) ?_;refine bD 0 1 7 (Zt ?_);refine Cd.au rfl (fun hc=> ?_) (fun hc=> ?_)
 ·have hq:dY K.ws s p bd=(p,true):=by unfold dY;rw[if_neg (fun h=>hc ((tQ hne).2 h))]
  refine ao ?_;refine Zm ?_;refine Zv (aa.nilCheck rfl rfl) ?_;refine Zf 4 Tryz.underlying183 ?_;refine Zq k99 ?_;intro w1 pw1;replace ae:=ae.put k99 pw1 e99;replace k99:=pw1.av;refine bD 0 1 7 (Zt (Cd.ret (ab.af ?_)));refine ab.fP rfl (.inl rfl) ?_;rw[hq];exact⟨⟨_,rfl⟩,ae,h.to hle ae k99 hpl h.jQ⟩
 ·have hc:=(tQ hne).1 (Decidable.not_not.1 hc)
  have hq:dY K.ws s p bd=(p+1,false):=by unfold dY;rw[if_pos hc]
  have hp:=DB hc.2;obtain rfl:=hc.1;refine Cd.skip (ei ?_);refine Zm ?_;refine Zv (aa.nilCheck rfl rfl) ?_;refine Zf 1 Tryz.underlying183 ?_;refine Zv (aa.ag rfl rfl Tryz.underlying3 rfl k99 rfl) ?_;refine cH ?_;refine Zv (aa.nilCheck rfl rfl) ?_;refine Zf 1 Tryz.underlying183 ?_;refine Zq k99 ?_;intro w1 pw1;replace ae:=ae.put k99 pw1 e99;replace k99:=pw1.av;refine bD 0 1 7 ?_;refine ab.fP rfl (.inr rfl) ?_;rw[hq];exact⟨⟨_,rfl⟩,ae,h.to hle ae (by rw[Int.natCast_add];exact k99) (by show p+1≤_;omega) h.jQ⟩
theorem jr (K:Ctx)(hK:K.Ok)(p:Nat)(o:Int)(dp bd:Bool)(w:World)(h:SW K w p o dp bd)(ho:o≤900):Calls Tryz.prog 158 #[.pointer (some ⟨K.g,0,none⟩)] w fun e w'=>(∃v,e= .returned v)∧Fz w.heap.size K.g w w'∧SW K w' p (o+1) (if 64<o+1∧bd=false then true else dp) (if 64<o+1∧bd=false then true else bd):=by
 have ae:=Fz.refl w.heap.size K.g w;have k99:=h.av;have e99:K.g=K.g:=rfl;have hlt:=h.av.lt;have hle:=hK.le;have hpl:=h.bK;have hlen:=hK.len;have hol:=h.jQ;refine Zs 27 Tryz.func158 ?_;refine ao ?_;refine Zm ?_;refine Zv (aa.nilCheck rfl rfl) ?_;refine Zf 2 Tryz.underlying183 ?_;refine Zv (aa.ag rfl rfl Tryz.underlying3 rfl k99 rfl) ?_;refine cH ?_;refine Zv (aa.nilCheck rfl rfl) ?_;refine Zf 2 Tryz.underlying183 ?_;refine Zq k99 ?_;intro w1 pw1;replace ae:=ae.put k99 pw1 e99;replace k99:=pw1.av;refine CW 0 (aG ?_);refine Zm ?_;refine Zv (aa.nilCheck rfl rfl) ?_;refine Zf 2 Tryz.underlying183 ?_;refine Zv (aa.ag rfl rfl Tryz.underlying3 rfl k99 rfl) ?_;refine Zv (aa.gtr rfl rfl rfl) ?_;refine Zm ?_;refine ah.start ?_;refine bM (fun hcx=>aa.move rfl rfl) ?_;refine ah.next rfl rfl rfl rfl rfl rfl rfl (fun hcx=>aa.nilCheck rfl rfl) ?_;refine ah.next rfl rfl rfl rfl rfl rfl rfl (fun hcx=>aa.an 4 rfl rfl Tryz.underlying183 rfl (by kernel_rfl)) ?_;refine ah.next rfl rfl rfl rfl rfl rfl rfl (fun hcx=>aa.ag rfl rfl Tryz.underlying4 rfl k99 rfl) ?_;refine ah.next rfl rfl rfl rfl rfl rfl rfl (fun hcx=>aa.not rfl rfl) ?_;refine ah.and rfl rfl rfl rfl rfl rfl rfl ?_;refine eh 0 20 (Zt ?_);refine Cd.cond rfl (fun hc=> ?_) (fun hc=> ?_)
 ·have hc:64<o+1∧bd=false:=by simpa using hc
  refine ao ?_;refine Zm ?_;refine Zv (aa.nilCheck rfl rfl) ?_;refine Zf 3 Tryz.underlying183 ?_;refine Zq k99 ?_;intro w2 pw2;replace ae:=ae.put k99 pw2 e99;replace k99:=pw2.av;refine eh 0 20 (ei ?_);refine Zm ?_;refine Zv (aa.nilCheck rfl rfl) ?_;refine Zf 4 Tryz.underlying183 ?_;refine Zq k99 ?_;intro w3 pw3;replace ae:=ae.put k99 pw3 e99;replace k99:=pw3.av;refine eh 0 20 ?_;refine ab.fP rfl (.inr rfl) ?_;rw[if_pos hc,if_pos hc];exact⟨⟨_,rfl⟩,ae,h.to hle ae k99 hpl (by omega)⟩
 ·have hc:¬(64<o+1∧bd=false):=by simpa using hc
  refine Cd.skip ?_;refine ab.fP rfl (.inr rfl) ?_;rw[if_neg hc,if_neg hc];exact⟨⟨_,rfl⟩,ae,h.to hle ae k99 hpl (by omega)⟩
def yP (t:List Nat):Int × Int:=match so t with
 |some (i,op)=>((i:Int)+1,op)
 |none=>(0,0)
theorem yX (t:List Nat)(w:World)(ht:∀x∈t,x<256):Calls Tryz.prog 204 #[.string (strOf t)] w fun e w'=>e= .returned (.tuple #[.int .i64 (yP t).1, .int .i64 (yP t).2])∧Grow w w':=by
 have ae:=Below.refl w.heap.size w;refine Zs 29 Tryz.func204 ?_;refine ao ?_;refine Za ?_;refine Za ?_;refine bD 0 2 3 (aJ (ao ?_));refine Zm ?_;refine aV 0 2 3 4 (Zt (Cd.block (ao ?_)));refine Zv (aa.cF (b:=[124]) rfl rfl rfl ht (by decide)) ?_;refine Za ?_;refine aU 0 2 3 4 5 (Zt ?_);refine Cd.au rfl (fun c0=> ?_) (fun c0=> ?_)
 ·subst c0
  refine ao ?_;refine Za ?_;refine Za ?_;refine aU 0 2 3 4 5 (Zt (Cd.ret (ab.ak (ab.af ?_))));refine ab.bf rfl rfl rfl (.inl rfl) ?_;exact⟨rfl,ae⟩
 refine ao ?_;refine Zv (aa.cF (b:=[38]) rfl rfl rfl ht (by decide)) ?_;refine Za ?_;refine bj 0 2 3 4 5 7 (Zt ?_);refine Cd.au rfl (fun c1=> ?_) (fun c1=> ?_)
 ·subst c1
  refine ao ?_;refine Za ?_;refine Za ?_;refine bj 0 2 3 4 5 7 (Zt (Cd.ret (ab.ak (ab.af ?_))));refine ab.bf rfl rfl rfl (.inl rfl) ?_;exact⟨rfl,ae⟩
 refine ao ?_;refine Zv (aa.cF (b:=[60]) rfl rfl rfl ht (by decide)) ?_;refine Za ?_;refine bb 0 2 3 4 5 7 9 (Zt ?_);refine Cd.au rfl (fun c2=> ?_) (fun c2=> ?_)
 ·subst c2
  refine ao ?_;refine Za ?_;refine Za ?_;refine bb 0 2 3 4 5 7 9 (Zt (Cd.ret (ab.ak (ab.af ?_))));refine ab.bf rfl rfl rfl (.inl rfl) ?_;exact⟨rfl,ae⟩
 refine ao ?_;refine Zv (aa.cF (b:=[60,61]) rfl rfl rfl ht (by decide)) ?_;refine Za ?_;refine cI 0 2 3 4 5 7 9 11 (Zt ?_);refine Cd.au rfl (fun c3=> ?_) (fun c3=> ?_)
 ·subst c3
  refine ao ?_;refine Za ?_;refine Za ?_;refine cI 0 2 3 4 5 7 9 11 (Zt (Cd.ret (ab.ak (ab.af ?_))));refine ab.bf rfl rfl rfl (.inl rfl) ?_;exact⟨rfl,ae⟩
 refine ao ?_;refine Zv (aa.cF (b:=[61]) rfl rfl rfl ht (by decide)) ?_;refine Za ?_;refine dG 0 2 3 4 5 7 9 11 13 (Zt ?_);refine Cd.au rfl (fun c4=> ?_) (fun c4=> ?_)
 ·subst c4
  refine ao ?_;refine Za ?_;refine Za ?_;refine dG 0 2 3 4 5 7 9 11 13 (Zt (Cd.ret (ab.ak (ab.af ?_))));refine ab.bf rfl rfl rfl (.inl rfl) ?_;exact⟨rfl,ae⟩
 refine ao ?_;refine Zv (aa.cF (b:=[33,61]) rfl rfl rfl ht (by decide)) ?_;refine Za ?_;refine dg 0 2 3 4 5 7 9 11 13 15 (Zt ?_);refine Cd.au rfl (fun c5=> ?_) (fun c5=> ?_)
 ·subst c5
  refine ao ?_;refine Za ?_;refine Za ?_;refine dg 0 2 3 4 5 7 9 11 13 15 (Zt (Cd.ret (ab.ak (ab.af ?_))));refine ab.bf rfl rfl rfl (.inl rfl) ?_;exact⟨rfl,ae⟩
 refine ao ?_;refine Zv (aa.cF (b:=[62,61]) rfl rfl rfl ht (by decide)) ?_;refine Za ?_;refine dr 0 2 3 4 5 7 9 11 13 15 17 (Zt ?_);refine Cd.au rfl (fun c6=> ?_) (fun c6=> ?_)
 ·subst c6
  refine ao ?_;refine Za ?_;refine Za ?_;refine dr 0 2 3 4 5 7 9 11 13 15 17 (Zt (Cd.ret (ab.ak (ab.af ?_))));refine ab.bf rfl rfl rfl (.inl rfl) ?_;exact⟨rfl,ae⟩
 refine ao ?_;refine Zv (aa.cF (b:=[62]) rfl rfl rfl ht (by decide)) ?_;refine Za ?_;refine fG 0 2 3 4 5 7 9 11 13 15 17 19 (Zt ?_);refine Cd.au rfl (fun c7=> ?_) (fun c7=> ?_)
 ·subst c7
  refine ao ?_;refine Za ?_;refine Za ?_;refine fG 0 2 3 4 5 7 9 11 13 15 17 19 (Zt (Cd.ret (ab.ak (ab.af ?_))));refine ab.bf rfl rfl rfl (.inl rfl) ?_;exact⟨rfl,ae⟩
 refine ao ?_;refine Zv (aa.cF (b:=[43]) rfl rfl rfl ht (by decide)) ?_;refine Za ?_;refine gF 0 2 3 4 5 7 9 11 13 15 17 19 21 (Zt ?_);refine Cd.au rfl (fun c8=> ?_) (fun c8=> ?_)
 ·subst c8
  refine ao ?_;refine Za ?_;refine Za ?_;refine gF 0 2 3 4 5 7 9 11 13 15 17 19 21 (Zt (Cd.ret (ab.ak (ab.af ?_))));refine ab.bf rfl rfl rfl (.inl rfl) ?_;exact⟨rfl,ae⟩
 refine ao ?_;refine Zv (aa.cF (b:=[45]) rfl rfl rfl ht (by decide)) ?_;refine Za ?_;refine jk 0 2 3 4 5 7 9 11 13 15 17 19 21 23 (Zt ?_);refine Cd.au rfl (fun c9=> ?_) (fun c9=> ?_)
 ·subst c9
  refine ao ?_;refine Za ?_;refine Za ?_;refine jk 0 2 3 4 5 7 9 11 13 15 17 19 21 23 (Zt (Cd.ret (ab.ak (ab.af ?_))));refine ab.bf rfl rfl rfl (.inl rfl) ?_;exact⟨rfl,ae⟩
 refine ao ?_;refine Zv (aa.cF (b:=[42]) rfl rfl rfl ht (by decide)) ?_;refine Za ?_;refine sd 0 2 3 4 5 7 9 11 13 15 17 19 21 23 25 (Zt ?_);refine Cd.au rfl (fun c10=> ?_) (fun c10=> ?_)
 ·subst c10
  refine ao ?_;refine Za ?_;refine Za ?_;refine sd 0 2 3 4 5 7 9 11 13 15 17 19 21 23 25 (Zt (Cd.ret (ab.ak (ab.af ?_))));refine ab.bf rfl rfl rfl (.inl rfl) ?_;exact⟨rfl,ae⟩
 refine ao ?_;refine Zv (aa.cF (b:=[47]) rfl rfl rfl ht (by decide)) ?_;refine Za ?_;refine mN 0 2 3 4 5 7 9 11 13 15 17 19 21 23 25 27 (Zt ?_);refine Cd.au rfl (fun c11=> ?_) (fun c11=> ?_)
 ·subst c11
  refine ao ?_;refine Za ?_;refine Za ?_;refine mN 0 2 3 4 5 7 9 11 13 15 17 19 21 23 25 27 (Zt (Cd.ret (ab.ak (ab.af ?_))));refine ab.bf rfl rfl rfl (.inl rfl) ?_;exact⟨rfl,ae⟩
 refine Cd.skip (ab.aj (aG ?_));refine Za ?_;refine Za ?_;refine mN 0 2 3 4 5 7 9 11 13 15 17 19 21 23 25 27 (Zt (Cd.ret ?_));refine ab.bf rfl rfl rfl (.inl rfl) ?_;have hz:yP t=(0,0):=by unfold yP so;simp only[if_neg c0,if_neg c1,if_neg c2,if_neg c3,if_neg c4,if_neg c5,if_neg c6,if_neg c7,if_neg c8,if_neg c9,if_neg c10,if_neg c11]
 rw[hz];exact⟨rfl,ae⟩
theorem tw (K:Ctx)(hK:K.Ok)(p:Nat)(o:Int)(dp:Bool)(w:World)(h:SW K w p o dp true):Calls Tryz.prog 203 #[.pointer (some ⟨K.g,0,none⟩)] w fun e w'=>Grow w w'∧e= .returned (.agg #[.int .i64 0, .int .i64 0, .string (strOf []), .slice none 0 0]):=by
 have ae:=Below.refl w.heap.size w;have k99:=h.av;have hlt:=h.av.lt;have hle:=hK.le;refine Zs 170 Tryz.func203 ?_;refine ao ?_;refine Zl ay ?_;intro g2 w1 n2;have e2:=Nat.le_trans ae.size n2.ge;have l2:=Nat.lt_of_lt_of_le k99.lt n2.ge;replace ae:=ae.step n2.below;replace k99:=k99.step n2.below;have k2:=n2.av;refine eh 0 2 (aJ (ao ?_));refine Zm ?_;refine Zv (aa.nilCheck rfl rfl) ?_;refine Zf 4 Tryz.underlying183 ?_;refine Zv (aa.ag rfl rfl Tryz.underlying4 rfl k99 rfl) ?_;refine bD 0 2 9 (Zt ?_);refine Cd.aX rfl rfl ?_;refine ao ?_;refine Zv (aa.build rfl rfl (gT _)) ?_;refine Zo 4 k2 ?_;intro w2 pw2;replace ae:=ae.put k2 pw2 e2;replace k99:=k99.put pw2 (by omega);replace k2:=pw2.av;refine bD 0 2 9 (Zt (Cd.ret (ab.af ?_)));refine ab.cz rfl rfl k2 Tryz.underlying105 rfl (m:=4) (by kernel_rfl) rfl (.inl rfl) ?_;exact⟨ae,rfl⟩
theorem nF (K:Ctx)(hK:K.Ok)(p:Nat)(o:Int)(dp:Bool)(least:Int)(w:World)(h:SW K w p o dp true):Calls Tryz.prog 160 #[.pointer (some ⟨K.g,0,none⟩), .int .i64 least] w fun e w'=>Grow w w'∧e= .returned (.agg #[.int .i64 0, .int .i64 0, .string (strOf []), .slice none 0 0]):=by
 have ae:=Below.refl w.heap.size w;have k99:=h.av;have hlt:=h.av.lt;have hle:=hK.le;have hs:=fun W (hb:Below w.heap.size w W)=>tw K hK p o dp W (h.to hle (Fz.of hb) (h.av.step hb) h.bK h.jQ);refine Zs 56 Tryz.func160 ?_;refine ao ?_;refine Zl ay ?_;intro g4 w1 n4;have e4:=Nat.le_trans ae.size n4.ge;have l4:=Nat.lt_of_lt_of_le k99.lt n4.ge;replace ae:=ae.step n4.below;replace k99:=k99.step n4.below;have k4:=n4.av;refine bD 0 1 4 (aG ?_);refine Zm ?_;refine Zc (Ze Tryz.func203) (hs _ ae) ?_;rintro e w9 ⟨hb9,rfl⟩;refine⟨_,rfl,?_⟩;replace ae:=ae.step hb9;replace k99:=k99.step hb9;replace k4:=k4.step hb9;refine Zl ay ?_;intro g5 w2 n5;have e5:=Nat.le_trans ae.size n5.ge;have l5:=Nat.lt_of_lt_of_le k4.lt n5.ge;have l5_k99:=Nat.lt_of_lt_of_le k99.lt n5.ge;replace ae:=ae.step n5.below;replace k99:=k99.step n5.below;replace k4:=k4.step n5.below;have k5:=n5.av;refine Zo 4 k5 ?_;intro w3 pw3;replace ae:=ae.put k5 pw3 e5;replace k99:=k99.put pw3 (by omega);replace k4:=k4.put pw3 (by omega);replace k5:=pw3.av;refine aV 0 1 4 5 (aG ?_);refine Za ?_;refine aU 0 1 4 5 6 (aJ (Cd.block ?_));refine Cd.loop (σ:=Unit) (fun _=>[(0, .pointer (some ⟨K.g,0,none⟩)),(4, .pointer (some ⟨g4,0,none⟩)),(5, .pointer (some ⟨g5,0,none⟩))]) (fun _ wr=>Below w.heap.size w wr∧aK wr K.g 183 #[.slice K.A K.ws.length K.c, .int .i64 (p:Int), .int .i64 o, .bool dp, .bool true]∧aK wr g4 105 #[.int .i64 0, .int .i64 0, .string {data:= #[]}, .slice none 0 0]∧aK wr g5 105 #[.int .i64 0, .int .i64 0, .string (strOf []), .slice none 0 0]) (fun _=>0) () ⟨ae,k99,k4,k5⟩ ⟨rfl,rfl,rfl,trivial⟩ ?_;clear ae k99 k4 k5;rintro⟨⟩ wr ⟨ae,k99,k4,k5⟩;refine Cd.seq (ao ?_);refine Zm ?_;refine Zv (aa.nilCheck rfl rfl) ?_;refine Zf 4 Tryz.underlying183 ?_;refine Zv (aa.ag rfl rfl Tryz.underlying4 rfl k99 rfl) ?_;refine Zv (aa.not rfl rfl) ?_;refine aV 0 4 5 16 (Zt ?_);refine Cd.aN rfl rfl ?_;refine Cd.exit (ab.aD (ab.aA (ab.az (aG ?_))));refine Zv (aa.aQ rfl rfl Tryz.underlying105 rfl k5 (m:=4) (by kernel_rfl) rfl) ?_;refine Zo 4 k4 ?_;intro w4 pw4;replace ae:=ae.put k4 pw4 e4;replace k99:=k99.put pw4 (by omega);replace k5:=k5.put pw4 (by omega);replace k4:=pw4.av;refine aV 0 4 5 16 (Zt (Cd.ret ?_));refine ab.cz rfl rfl k4 Tryz.underlying105 rfl (m:=4) (by kernel_rfl) rfl (.inl rfl) ?_;exact⟨ae,rfl⟩
def CR {α:Type}(K:Ctx)(h:Nat)(w:World)(pf:α→Nat→Int→Bool→Bool→Prop)(okv:α→Value→World→Prop)(e:Ending)(w':World):Prop:=
 Fz h K.g w w'∧∃v x p o dp bd,e= .returned v∧okv x v w'∧SW K w' p o dp bd∧pf x p o dp bd
def eo {α:Type}(r:Rs α)(d:Nat)(x:α)(p:Nat)(o:Int)(dp bd:Bool):Prop:=match r with
 | .out=>False
 | .bad q ov=>p=q∧dp=ov∧bd=true∧(d:Int)≤o∧o≤d+1
 | .ok a q=>x=a∧p=q∧o=d∧dp=false∧bd=false
def uj {α:Type}(p:Nat)(o:Int)(dp:Bool)(_x:α)(p':Nat)(o':Int)(dp' bd':Bool):Prop:=p'=p∧o'=o∧dp'=dp∧bd'=true
structure XC {α:Type}(qs:World→(Nat→Prop)→α→Value→Prop)(K:Ctx)(w1:World)(p:Nat)(o:Int)(dp bd:Bool)(pf:α→Nat→Int→Bool→Bool→Prop)(done made:Bool)(x:α)(S':Nat→Prop)(v:Value)(g7:Nat)(zt:TypeId)(w:World):Prop where
 fz:Fz w1.heap.size K.g w1 w
 pre:done=false→SW K w p o dp bd
 post:done=true→(∃p' o' dp' bd',SW K w p' o' dp' bd'∧pf x p' o' dp' bd')∧qs w S' x v∧∀b,S' b→w1.heap.size≤b∧b<w.heap.size
 new:made=true→w1.heap.size≤g7∧aK w g7 zt v.cells∧¬S' g7
theorem nt {S:Nat→Bool}{k i:Nat}(h:S i=false)(hm:fD S k i=true)(hne:i≠k:=by decide):False:=by
 unfold fD at hm;rw[if_neg hne,h] at hm
 cases hm
theorem cB {l:List Oper}{S:Nat→Bool}(hdc:Ac l S){i k:Nat}{o:Oper}(ho:l[i]? =some o)(hS:S k=false)(hm:k∈direct o):S i=false:=by
 cases h:S i with
 |false=>rfl
 |true=>have:=hdc i o ho h k hm;rw[hS] at this;cases this
theorem qT {S:Nat→Bool}{a b c u u' y y' z z':Value}(h3:S 3=false)(h4:S 4=false)(h5:S 5=false):∀j,S j=true→([a,b,c,u,y,z]:List Value)[j]? =([a,b,c,u',y',z']:List Value)[j]?
 |0,_=>rfl
 |1,_=>rfl
 |2,_=>rfl
 |3,h=>by rw[h3] at h;cases h
 |4,h=>by rw[h4] at h;cases h
 |5,h=>by rw[h5] at h;cases h
 |j+6,_=>rfl
theorem rq {S:Nat→Bool}{a b c u y y' z z':Value}(h4:S 4=false)(h5:S 5=false):∀j,S j=true→([a,b,c,u,y,z]:List Value)[j]? =([a,b,c,u,y',z']:List Value)[j]?
 |0,_=>rfl
 |1,_=>rfl
 |2,_=>rfl
 |3,_=>rfl
 |4,h=>by rw[h4] at h;cases h
 |5,h=>by rw[h5] at h;cases h
 |j+6,_=>rfl
theorem rk {S:Nat→Bool}{a b c u y z z':Value}(h5:S 5=false):∀j,S j=true→([a,b,c,u,y,z]:List Value)[j]? =([a,b,c,u,y,z']:List Value)[j]?
 |0,_=>rfl
 |1,_=>rfl
 |2,_=>rfl
 |3,_=>rfl
 |4,_=>rfl
 |5,h=>by rw[h5] at h;cases h
 |j+6,_=>rfl
section
variable {α:Type} {qs:World→(Nat→Prop)→α→Value→Prop} {K:Ctx} {w1 w w6:World} {p:Nat} {o:Int} {dp bd:Bool} {pf:α→Nat→Int→Bool→Bool→Prop} {S:Nat→Bool} {x x6:α} {S' S6:Nat→Prop} {v v6:Value} {g7:Nat} {zt:TypeId}
theorem XC.called {k:Nat}{done:Bool}(X:XC qs K w1 p o dp bd pf done (S 4) x S' v g7 zt w)(h4:S 4=false)(hf:Fz w.heap.size K.g w w6){p6:Nat}{o6:Int}{dp6 bd6:Bool}(hsw:SW K w6 p6 o6 dp6 bd6)(hpf:pf x6 p6 o6 dp6 bd6)(hr:qs w6 S6 x6 v6)(hb:∀b,S6 b→w.heap.size≤b∧b<w6.heap.size)(hk:3=k:=by rfl):
  XC qs K w1 p o dp bd pf (fD S k 3) (fD S k 4) x6 S6 v6 g7 zt w6:=by
 subst hk;have hsz:=X.fz.size;exact⟨X.fz.call hf,(fun h=>by cases h),fun _=>⟨⟨p6,o6,dp6,bd6,hsw,hpf⟩,hr,fun b h=>⟨by have:=(hb b h).1;omega,(hb b h).2⟩⟩,fun hm=>(nt h4 hm).elim⟩
end
section
variable {K:Ctx} {w1 w w6:World} {p:Nat} {o:Int} {dp bd:Bool} {S:Nat→Bool} {S':Nat→Prop} {v:Value} {g7 g8:Nat} {zt:TypeId} {n:Nat}
theorem XC.xf {pf:Ex→Nat→Int→Bool→Bool→Prop}{x:Ex}{made:Bool}(X:XC cw K w1 p o dp bd pf (S 3) made x S' v g7 zt w)(hd:S 3=true)(n8:A8 w w6 g8 zt (aP [v]).toArray):
  XC cw K w1 p o dp bd pf (fD S 4 3) (fD S 4 4) x S' v g8 zt w6:=by
 have hsz:=X.fz.size;have hcells:(aP [v]).toArray=v.cells:=by simp[aP]
 have n7b:=n8.av;rw[hcells] at n7b;obtain⟨⟨p',o',dp',bd',h1,h2⟩,h3,h4⟩:=X.post hd;refine⟨X.fz.step n8.below,fun h=> ?_,fun _=>⟨⟨p',o',dp',bd',h1.step n8.below,h2⟩,h3.mono (fun _ h=>h) (fun a ha=>n8.below.cell (h4 _ ha).2),fun b hb=>⟨(h4 b hb).1,Nat.lt_of_lt_of_le (h4 b hb).2 n8.below.size⟩⟩,fun _=>⟨Nat.le_trans hsz n8.ge,n7b,fun hb=>Nat.lt_irrefl _ (Nat.lt_of_lt_of_le (h4 _ hb).2 n8.ge)⟩⟩;have h:S 3=false:=h;rw[hd] at h
 cases h
theorem XC.oG {pf:Tm→Nat→Int→Bool→Bool→Prop}{x:Tm}{made:Bool}(X:XC dm K w1 p o dp bd pf (S 3) made x S' v g7 zt w)(hd:S 3=true)(n8:A8 w w6 g8 zt (aP [v]).toArray):
  XC dm K w1 p o dp bd pf (fD S 4 3) (fD S 4 4) x S' v g8 zt w6:=by
 have hsz:=X.fz.size;have hcells:(aP [v]).toArray=v.cells:=by simp[aP]
 have n7b:=n8.av;rw[hcells] at n7b;obtain⟨⟨p',o',dp',bd',h1,h2⟩,h3,h4⟩:=X.post hd;refine⟨X.fz.step n8.below,fun h=> ?_,fun _=>⟨⟨p',o',dp',bd',h1.step n8.below,h2⟩,h3.mono (fun _ h=>h) (fun a ha=>n8.below.cell (h4 _ ha).2),fun b hb=>⟨(h4 b hb).1,Nat.lt_of_lt_of_le (h4 b hb).2 n8.below.size⟩⟩,fun _=>⟨Nat.le_trans hsz n8.ge,n7b,fun hb=>Nat.lt_irrefl _ (Nat.lt_of_lt_of_le (h4 _ hb).2 n8.ge)⟩⟩;have h:S 3=false:=h;rw[hd] at h
 cases h
end
theorem aK.DP {k h g:Nat}{T:TypeId}{cs:Array Value}{w w':World}(b:aK w k T cs)(a:Fz h g w w')(hk:k<h)(hne:k≠g):aK w' k T cs:=by
 have h1:=a.block k hk hne;unfold aK at b⊢;rw[h1];exact b
structure Ew (K:Ctx)(R:Rs Ex)(E0:Nat→Nat→Rs Ex)(d k p0:Nat)(op:Int)(w:World)(g6 g7:Nat)(i q:Nat)(o:Int)(dp bd:Bool)(es:List Ex)(evs:List Value)(A:Option Addr)(c:Nat)(S:Nat→Prop)(wr:World):Prop where
 EW:i≤k
 len:es.length=i
 sw:SW K wr q o dp bd
 ae:Fz w.heap.size K.g w wr
 k6:aK wr g6 105 #[.int .i64 0, .int .i64 0, .string {data:= #[]}, .slice none 0 0]
 k7:aK wr g7 105 #[.int .i64 op, .int .i64 0, .string (strOf []), .slice A es.length c]
 aq:dt wr g7 g7 es [] evs [] (.slice A es.length c) (.slice none 0 0) S
 Ey:bd=false→o=d+1∧dp=false∧p0<q∧d+1≤64∧R=(bn K.ws (List.replicate (k-i) E0) (decide (i=0)) q (d+1)).bind fun xs q=>(bE K.ws [41] q).bind fun _ q=> .ok (.mk op 0 [] (es++xs)) q
 bad:bd=true→R= .bad q dp∧(d:Int)+1≤o∧o≤d+2
theorem eS {ws:List Wd}{s:List Nat}{q:Nat}:(dY ws s q false=(q+1,false)∧bE ws s q= .ok () (q+1))∨(dY ws s q false=(q,true)∧bE ws s q= .bad q false):=by
 unfold dY bE
 by_cases h:qO ws q s=true
 ·rw[if_pos ⟨rfl,h⟩,if_pos h];exact .inl ⟨rfl,rfl⟩
 ·rw[if_neg (fun h2=>h h2.2),if_neg h];exact .inr ⟨rfl,rfl⟩
theorem ll {ws:List Wd}{s:List Nat}{q:Nat}:dY ws s q true=(q,true):=by
 unfold dY;rw[if_neg (fun h=>by cases h.1)]
theorem qd (K:Ctx)(hK:K.Ok)(op:Int)(k p d:Nat)(E0:Nat→Nat→Rs Ex)(hM:eV E0)(w:World)(sw0:SW K w p d false false)(hp1:p+1≤K.ws.length)(hd:d≤64)(hk3:k≤3)(hop:bt op)
  (hE:∀(q d:Nat) W,p<q→d≤64→SW K W q d false false→Calls Tryz.prog 160 #[.pointer (some ⟨K.g,0,none⟩), .int .i64 1] W (CR K W.heap.size W (eo (E0 q d) d) (nN W))):
  Calls Tryz.prog 229 #[.pointer (some ⟨K.g,0,none⟩), .int .i64 op, .int .i64 (k:Int)] w (CR K w.heap.size w (eo (bX K.ws E0 op k p d) d) (nN w)):=by
 have ae:=Fz.refl w.heap.size K.g w;have k99:=sw0.av;have e99:K.g=K.g:=rfl;have hlt:=sw0.av.lt;have hle:=hK.le;have hlen:=hK.len;obtain⟨R,hR⟩:∃R,R=bX K.ws E0 op k p d:=⟨_,rfl⟩;rw[←hR]
 have hR1:R=(bE K.ws [40] (p+1)).bind fun _ q=>(cW q d).bind fun _ q=>(bn K.ws (List.replicate k E0) true q (d+1)).bind fun xs q=>(bE K.ws [41] q).bind fun _ q=> .ok (.mk op 0 [] xs) q:=by
  rw[hR];unfold bX aW;simp only[Rs.bind_assoc];rfl
 clear hR;refine Zs 55 Tryz.func229 ?_;refine ao ?_;refine Zl ay ?_;intro g6 w1 n6;have e6:=Nat.le_trans ae.size n6.ge;have l6:=Nat.lt_of_lt_of_le k99.lt n6.ge;replace ae:=ae.step n6.below;replace k99:=k99.step n6.below;have k6:=n6.av;refine aV 0 1 2 6 (aG ?_);refine Zm ?_;refine Zv (aa.nilCheck rfl rfl) ?_;refine Zf 1 Tryz.underlying183 ?_;refine Zv (aa.ag rfl rfl Tryz.underlying3 rfl k99 rfl) ?_;refine cH ?_;refine Zv (aa.nilCheck rfl rfl) ?_;refine Zf 1 Tryz.underlying183 ?_;refine Zq k99 ?_;intro w2 pw2;replace ae:=ae.put k99 pw2 e99;replace k6:=k6.put pw2 (by omega);replace k99:=pw2.av;refine aV 0 1 2 6 (aG ?_);refine Zm ?_;have hta:=fQ K hK (p+1) d false false [40] _ (sw0.to hle ae (by rw[Int.natCast_add];exact k99) hp1 (by omega)) (by decide) (by decide);have hk6:=k6.lt;refine Zc (Ze Tryz.func157) hta ?_;rintro e w5 ⟨⟨v5,rfl⟩,hf5,sw5⟩;refine⟨_,rfl,?_⟩;replace ae:=ae.call hf5;replace k6:=k6.fz hf5 (by omega);have hs5:=hf5.size;clear k99;refine aV 0 1 2 6 (aG ?_);refine Zm ?_;have hen:=jr K hK _ _ _ _ _ sw5 (by omega);refine Zc (Ze Tryz.func158) hen ?_;rintro e we ⟨⟨ve,rfl⟩,hfe,swe⟩;refine⟨_,rfl,?_⟩;replace ae:=ae.call hfe;replace k6:=k6.fz hfe (by omega);have hse:=hfe.size
 have hst:∃(q:Nat) (dp bd:Bool),SW K we q (d+1) dp bd∧(bd=false→dp=false∧p<q∧d+1≤64∧R=(bn K.ws (List.replicate k E0) true q (d+1)).bind fun xs q=>(bE K.ws [41] q).bind fun _ q=> .ok (.mk op 0 [] xs) q)∧(bd=true→R= .bad q dp):=by
  rcases eS (ws:=K.ws) (s:=[40]) (q:=p+1) with ⟨h1,h2⟩|⟨h1,h2⟩
  ·rw[h1] at swe
   dsimp only at swe;rw[h2,Rs.bz] at hR1
   by_cases h64:64<(d:Int)+1
   ·rw[if_pos ⟨h64,rfl⟩] at swe
    refine⟨_,_,_,swe,fun h=>(by cases h),fun _=> ?_⟩;rw[hR1];unfold cW;rw[if_pos (by omega)];rfl
   ·rw[if_neg (fun h=>h64 h.1)] at swe
    refine⟨_,_,_,swe,fun _=>⟨rfl,by omega,by omega,?_⟩,fun h=>by cases h⟩;rw[hR1];unfold cW;rw[if_neg (by omega),Rs.bz]
  ·rw[h1] at swe
   dsimp only at swe;rw[h2,Rs.ka] at hR1;rw[if_neg (fun h=>by cases h.2),if_neg (fun h=>by cases h.2)] at swe;exact⟨_,_,_,swe,fun h=>(by cases h),fun _=>hR1⟩
 clear swe hR1 sw5 sw0;obtain⟨q0,dp0,bd0,sw,hgood,hbad⟩:=hst;have k6lt:=k6.lt;refine aV 0 1 2 6 (aG ?_);refine Zm ?_;refine Zv (aa.build rfl rfl (gh op _)) ?_;refine Zl ay ?_;intro g7 w3 n7;have e7:=Nat.le_trans ae.size n7.ge;have l7:=Nat.lt_of_lt_of_le k6.lt n7.ge;replace ae:=ae.step n7.below;replace k6:=k6.step n7.below;replace sw:=sw.step n7.below;have k7:=n7.av;refine Zo 4 k7 ?_;intro w4 pw4;replace ae:=ae.put k7 pw4 e7;replace k6:=k6.put pw4 (by omega);replace sw:=sw.put k7 pw4 e7;replace k7:=pw4.av;refine aU 0 1 2 6 7 (aJ (ao ?_));refine Za ?_;refine bj 0 1 2 6 7 8 (Zt (Cd.block ?_))
 refine Cd.loop (σ:=Nat × Nat × Int × Bool × Bool × List Ex × List Value × (Option Addr × Nat) × (Nat→Prop)) (fun s=>[(0, .pointer (some ⟨K.g,0,none⟩)),(2, .int .i64 (k:Int)),(6, .pointer (some ⟨g6,0,none⟩)),(7, .pointer (some ⟨g7,0,none⟩)),(8, .int .i64 (s.1:Int))])
  (fun s wr=>Ew K R E0 d k p op w g6 g7 s.1 s.2.1 s.2.2.1 s.2.2.2.1 s.2.2.2.2.1 s.2.2.2.2.2.1 s.2.2.2.2.2.2.1 s.2.2.2.2.2.2.2.1.1 s.2.2.2.2.2.2.2.1.2 s.2.2.2.2.2.2.2.2 wr) (fun s=>k-s.1) (0,q0,d+1,dp0,bd0,[],[],(none,0),fun _=>False)
  ⟨Nat.zero_le _,rfl,sw,ae,k6,k7,dt.nil _ _ _,fun h=>⟨rfl,(hgood h).1,(hgood h).2.1,(hgood h).2.2.1,(hgood h).2.2.2⟩,fun h=>⟨hbad h,Int.le_refl _,by dsimp only;omega⟩⟩ ⟨rfl,rfl,rfl,rfl,rfl,trivial⟩ ?_
 clear sw ae k6 k7 hgood hbad;rintro⟨i,q,o,dp,bd,es,evs,⟨A,c⟩,S⟩ wr ⟨hi,hes,sw,ae,k6,k7,aq,hgood,hbad⟩;dsimp only at hi hes sw k7 aq hgood hbad⊢;have k99:=sw.av;have h67:g6<g7:=by omega
 have hg7:w.heap.size≤g7:=by omega
 have hgt:K.g<g7:=by omega
 have k7l:=k7.lt;refine Cd.seq (ao ?_);refine Zm ?_;refine Zm ?_;refine Zv (aa.lss rfl rfl rfl) ?_;refine Zm ?_;refine ah.start ?_;refine bM (fun hcx=>aa.move rfl rfl) ?_;refine ah.next rfl rfl rfl rfl rfl rfl rfl (fun hcx=>aa.nilCheck rfl rfl) ?_;refine ah.next rfl rfl rfl rfl rfl rfl rfl (fun hcx=>aa.an 4 rfl rfl Tryz.underlying183 rfl (by kernel_rfl)) ?_;refine ah.next rfl rfl rfl rfl rfl rfl rfl (fun hcx=>aa.ag rfl rfl Tryz.underlying4 rfl k99 rfl) ?_;refine ah.next rfl rfl rfl rfl rfl rfl rfl (fun hcx=>aa.not rfl rfl) ?_;refine ah.and rfl rfl rfl rfl rfl rfl rfl ?_;refine bj 0 2 6 7 8 31 (Zt ?_);refine Cd.cond rfl (fun hc=> ?_) (fun hc=> ?_)
 ·obtain⟨hik,rfl⟩:i<k∧bd=false:=by simpa using hc
  obtain⟨rfl,rfl,hpq,hd1,hRg⟩:=hgood rfl;obtain⟨m,hm⟩:∃m,k-i=m+1:=⟨k-i-1,by omega⟩;have hm2:k-(i+1)=m:=by omega
  rw[hm,List.replicate_succ,iE] at hRg;refine Cd.skip (aJ (Cd.block ?_));refine Cd.lz (σ:=Nat × Bool) (fun _=>[(0, .pointer (some ⟨K.g,0,none⟩)),(2, .int .i64 (k:Int)),(6, .pointer (some ⟨g6,0,none⟩)),(7, .pointer (some ⟨g7,0,none⟩)),(8, .int .i64 (i:Int))]) (fun s wj=>SW K wj s.1 ((d:Int)+1) false s.2∧Fz w.heap.size K.g w wj∧aK wj g6 105 #[.int .i64 0, .int .i64 0, .string {data:= #[]}, .slice none 0 0]∧aK wj g7 105 #[.int .i64 op, .int .i64 0, .string (strOf []), .slice A es.length c]∧dt wj g7 g7 es [] evs [] (.slice A es.length c) (.slice none 0 0) S∧(s.2=false→p<s.1∧R=(E0 s.1 (d+1)).bind fun x q=>(bn K.ws (List.replicate m E0) false q (d+1)).bind fun xs q=>(bE K.ws [41] q).bind fun _ q=> .ok (.mk op 0 [] (es++x::xs)) q)∧(s.2=true→R= .bad s.1 false)) ?_ ?_
  ·skip
   refine ao ?_;refine Zm ?_;refine Zv (aa.gtr rfl rfl rfl) ?_;refine bb 0 2 6 7 8 31 35 (Zt ?_);refine Cd.au rfl (fun hc=> ?_) (fun hc=> ?_)
   ·have hta:=fQ K hK q ((d:Int)+1) false false [44] _ sw (by decide) (by decide)
    rw[decide_eq_false (show¬i=0 by omega),if_neg (by decide)] at hRg;refine Zr ?_;refine Zm ?_;refine Zc (Ze Tryz.func157) hta ?_;rintro e w5 ⟨⟨v5,rfl⟩,hf5,sw5⟩;refine⟨_,rfl,?_⟩;clear hta;refine bb 0 2 6 7 8 31 35 ?_;refine ab.join (dY K.ws [44] q false) ⟨rfl,rfl,rfl,rfl,rfl,trivial⟩ ⟨sw5,ae.call hf5,k6.fz hf5 (by omega),k7.fz hf5 (by omega),aq.fz hf5 hgt,fun h=> ?_,fun h=> ?_⟩
    ·rcases eS (ws:=K.ws) (s:=[44]) (q:=q) with ⟨h1,h2⟩|⟨h1,h2⟩
     ·rw[h1]
      rw[h2] at hRg;refine⟨by show p<q+1;omega,?_⟩;rw[hRg];simp only[Rs.bind_assoc,Rs.bz]
     ·rw[h1] at h;cases h
    ·rcases eS (ws:=K.ws) (s:=[44]) (q:=q) with ⟨h1,h2⟩|⟨h1,h2⟩
     ·rw[h1] at h;cases h
     ·rw[h1]
      rw[h2] at hRg;exact hRg
   ·obtain rfl:i=0:=by omega
    rw[decide_eq_true rfl,if_pos rfl] at hRg;refine Cd.skip ?_;refine ab.join (q,false) ⟨rfl,rfl,rfl,rfl,rfl,trivial⟩ ⟨sw,ae,k6,k7,aq,fun _=>⟨hpq,?_⟩,fun h=>by cases h⟩;rw[hRg];simp only[Rs.bind_assoc,Rs.bz]
  clear sw ae k6 k7 k99 aq hgood hbad hRg hc;rintro⟨q1,b1⟩ wj ⟨sw,ae,k6,k7,aq,hgood,hbad⟩;dsimp only at sw hgood hbad
  have hcl:∀W,SW K W q1 ((d:Int)+1) false b1→Fz wj.heap.size K.g wj W→Calls Tryz.prog 160 #[.pointer (some ⟨K.g,0,none⟩), .int .i64 1] W (CR K W.heap.size W (fun x p o dp bd=>(b1=false→eo (E0 q1 (d+1)) (d+1) x p o dp bd)∧(b1=true→uj q1 ((d:Int)+1) false x p o dp bd)) (nN W)):=fun W h1 _=>by
   cases b1 with
   |false=>
    refine(hE q1 (d+1) W (hgood rfl).1 hd1 (by rw[Int.natCast_add];exact h1)).mono fun e W' h=> ?_;obtain⟨hf,v,x,p',o',dp',bd',rfl,h2,h3,h4⟩:=h;exact⟨hf,v,x,p',o',dp',bd',rfl,h2,h3,fun _=>h4,fun h=>by cases h⟩
   |true=>
    refine(nF K hK q1 _ false 1 W h1).mono fun e W' h=> ?_;obtain⟨hb,rfl⟩:=h;exact⟨Fz.of hb,_,jJ,q1,_,false,true,rfl,⟨fun _=>False,cw.zero _ _,fun b hb=>hb.elim⟩,h1.step hb,fun h=>(by cases h),fun _=>⟨rfl,rfl,rfl,rfl⟩⟩
  have hlt7:=k7.lt;have hsb:=ae.size;refine Cd.iC (σT:=Ex × Value × (Nat→Prop) × Nat × Value) 6 (by kernel_rfl) rfl rfl (fun σ=>[.pointer (some ⟨g7,3,none⟩), .slice A es.length c, .pointer (some ⟨K.g,0,none⟩),σ.2.1, .slice (some ⟨σ.2.2.2.1,0,none⟩) 1 1,σ.2.2.2.2]) (fun σ S W=>(S 5=false→XC cw K wj q1 ((d:Int)+1) false b1 (fun x p o dp bd=>(b1=false→eo (E0 q1 (d+1)) (d+1) x p o dp bd)∧(b1=true→uj q1 ((d:Int)+1) false x p o dp bd)) (S 3) (S 4) σ.1 σ.2.2.1 σ.2.1 σ.2.2.2.1 105 W)∧(S 5=true→(∃p9 o9 dp9 bd9,SW K W p9 o9 dp9 bd9∧(fun x p o dp bd=>(b1=false→eo (E0 q1 (d+1)) (d+1) x p o dp bd)∧(b1=true→uj q1 ((d:Int)+1) false x p o dp bd)) σ.1 p9 o9 dp9 bd9)∧Fz g7 K.g wj W∧aK W g7 105 #[.int .i64 op, .int .i64 0, .string (strOf []), .slice A es.length c]∧∃S',dt W g7 g7 (es++[σ.1]) [] (evs++[σ.2.1]) [] (σ.2.2.2.2) (.slice none 0 0) S')) ((jJ,undef,fun _=>False,0,undef)) ?_ ?_ ?_
  ·intro w0 hb0 hs0
   exact⟨fun _=>⟨Fz.of hb0,fun _=>sw.step hb0,fun h=>(by cases h),fun h=>(by cases h)⟩,fun h=>(by cases h)⟩
  ·intro k o ho
   match k,ho with
   |0,ho=>
    injection ho with ho
    subst ho;intro σ S w hS hpre hdc hX;refine Seq.val (aa.an 3 rfl rfl Tryz.underlying105 rfl (by kernel_rfl)) rfl rfl rfl (Seq.nil ?_);exact ab.aC rfl rfl rfl hpre rfl (fun _ _=>rfl) hX
   |1,ho=>
    injection ho with ho
    subst ho;intro σ S w hS hpre hdc hX;have h5:=cB hdc (i:=5) rfl hS (ar rfl);refine Seq.val (aa.ag (g:=g7) (i:=3) rfl rfl Tryz.underlying68 rfl (k7.fz (hX.1 h5).fz (by omega)) rfl) rfl rfl rfl (Seq.nil ?_);exact ab.aC rfl rfl rfl hpre rfl (fun _ _=>rfl) hX
   |2,ho=>
    injection ho with ho
    subst ho;intro σ S w hS hpre hdc hX;refine Seq.val (aa.move rfl rfl) rfl rfl rfl (Seq.nil ?_);exact ab.aC rfl rfl rfl hpre rfl (fun _ _=>rfl) hX
   |3,ho=>
    injection ho with ho
    subst ho;intro σ S w hS hpre hdc hX;have h5:=cB hdc (i:=5) rfl hS (ar rfl);have h4:=cB hdc (i:=4) rfl hS (ar rfl);have hXa:=hX.1 h5;refine Zc (Ze Tryz.func160) ((fun W h1 h2=>hcl W h1 h2) w (hXa.pre hS) hXa.fz) ?_;rintro e w6 ⟨hf,v6,x6,p6,o6,dp6,bd6,rfl,⟨S6,hr6,hb6⟩,hsw6,hpf6⟩;refine⟨_,rfl,Seq.nil ?_⟩;exact ab.aC (σ:=σ) (σ':=(x6,v6,S6,σ.2.2.2.1,σ.2.2.2.2)) rfl rfl rfl hpre rfl (fun j hj=>qT hS h4 h5 j hj) ⟨fun _=>hXa.called h4 hf hsw6 hpf6 hr6 hb6,fun hm=>(nt h5 hm).elim⟩
   |4,ho=>
    injection ho with ho
    subst ho;intro σ S w hS hpre hdc hX;have h5:=cB hdc (i:=5) rfl hS (ar rfl);have hXa:=hX.1 h5;have hd:=hpre 3 (ar rfl);have hones:=(hXa.post hd).2.1.aY;refine Seq.slice (vs:=[σ.2.1]) (s:=4) rfl rfl rfl Tryz.underlying68 (by kernel_rfl) ay (by omega) (by omega) ⟨hones.1,trivial⟩ rfl rfl rfl ?_;intro g7 w' n7;refine Seq.nil ?_;exact ab.aC (σ:=σ) (σ':=(σ.1,σ.2.1,σ.2.2.1,g7,σ.2.2.2.2)) rfl rfl rfl hpre rfl (fun j hj=>rq hS h5 j hj) ⟨fun _=>hXa.xf hd n7,fun hm=>(nt h5 hm).elim⟩
   |5,ho=>
    injection ho with ho
    subst ho;intro σ S w hS hpre hdc hX;have hXa:=hX.1 hS;have hd:=hpre 3 (ar rfl);obtain⟨⟨p3,o3,dp3,bd3,sw3,hpf3⟩,hrep,haway⟩:=hXa.post hd;obtain⟨ez,kz,hnz⟩:=hXa.new (hpre 4 (ar rfl));have hones:=hrep.aY;have hsz:=hXa.fz.size;have aq3:=aq.fz hXa.fz hgt;have hown:=aq3.eW;have k90:=k7.fz hXa.fz (by omega);have hlt90:=k7.lt;refine Seq.fN rfl rfl rfl Tryz.underlying68 (by kernel_rfl) ay rfl (by decide) (b:=56) (by kernel_rfl) hown (Reads.av (size:=4) kz 1 hones.1) hones.2 (by omega) (by first|(simp only[maxLen];omega)|(simp only[maxLen,List.length_nil,List.length_cons];omega)|simp[maxLen]) (by first|omega|(simp only[List.length_nil,List.length_cons];omega)|simp) rfl rfl rfl ?_;intro v' w4 hown' happ hv';refine Seq.nil ?_;have hs4:=happ.below.size
    have aq6:=aq3.Bz hrep (fun b hb=>⟨by have:=(haway b hb).1;omega,(haway b hb).2,by have:=(haway b hb).1;omega,fun e=>by have:=(aq.eW.aT b e).2;have:=(haway b hb).1;omega,fun e=>by have:=(aq.fh.aT b e).2;have:=(haway b hb).1;omega⟩) hown' hs4
     (fun b _ h2 h3 h4=>happ.grown.block b h2 (fun e=>h4 e.symm)) (hv'.elim .inl fun e=> .inr ⟨_,e,Nat.le_refl _⟩) (by omega)
    exact ab.aC (σ:=σ) (σ':=(σ.1,σ.2.1,σ.2.2.1,σ.2.2.2.1,v')) rfl rfl rfl hpre rfl (fun j hj=>rk hS j hj) ⟨(fun h=>by cases h),fun _=>⟨⟨p3,o3,dp3,bd3,⟨sw3.av.grown happ.grown (fun e=>by have:=(hown.aT _ e.symm).1;omega),sw3.rd.below (happ.below.mono (by omega)),sw3.bK,sw3.jQ,sw3.le⟩,hpf3⟩,(hXa.fz.less (by omega)).trans (Fz.of happ.below),k90.grown happ.grown (fun e=>aq3.zi e.symm),_,aq6⟩⟩
   |k+6,ho=>simp at ho
  rintro⟨x,v6,S6,g9,vX⟩ S3 w3 hS hX;obtain⟨⟨p3,o3,dp3,bd3,sw3,hpf1,hpf2⟩,fz3,k73,S7,aq3⟩:=hX.2 (hS 5 (by decide));clear hX;dsimp only at hpf1 hpf2 aq3;have hs3:=fz3.size;have bel3:Fz w.heap.size K.g w w3:=ae.trans (fz3.less (by omega));have k63:=k6.DP fz3 h67 (by omega);obtain⟨AX,cX,hvX,-⟩:=aq3.eW.reads;subst hvX;clear ae k6 k7 aq sw;have ae:=bel3;have k6:=k63;have k7:=k73;have aq:=aq3;have sw:=sw3;have e7:w.heap.size≤g7:=hg7;refine Zf 3 Tryz.underlying105 ?_;refine Zq k7 ?_;intro w5 pw5;replace ae:=ae.put k7 pw5 e7;replace k6:=k6.put pw5 (by omega);replace aq:=aq.put k7 pw5 e7;replace sw:=sw.put k7 pw5 e7;replace k7:=pw5.av;refine aU 0 2 6 7 8 (ab.aj (ei ?_));refine Zm ?_;refine cH ?_;refine Za ?_;refine aU 0 2 6 7 8 ?_;refine ab.round (i+1,p3,o3,dp3,bd3,es++[x],evs++[v6],(AX,cX),_) ⟨rfl,rfl,rfl,rfl,rfl,trivial⟩ ⟨by dsimp only;omega,by dsimp only;rw[List.length_append,hes];rfl,sw,ae,k6,k7,aq,fun hb=> ?_,fun hb=> ?_⟩ (by dsimp only;omega)
  ·dsimp only at hb⊢
   subst hb
   cases b1 with
   |true=>cases (hpf2 rfl).2.2.2
   |false=>
    obtain⟨hq1,hR⟩:=hgood rfl;have hres:=hpf1 rfl;unfold eo at hres
    cases hr:E0 q1 (d+1) with
    |out=>rw[hr] at hres;exact hres.elim
    |bad a b=>rw[hr] at hres;cases hres.2.2.1
    |ok a b=>
     rw[hr] at hres hR;obtain⟨rfl,rfl,rfl,rfl,-⟩:=hres;have hmono:=hM _ _ _ _ hr;refine⟨by omega,rfl,by omega,hd1,?_⟩;rw[hR,Rs.bz,hm2,decide_eq_false (show¬i+1=0 by omega)];simp only[List.append_assoc,List.cons_append,List.nil_append]
  ·dsimp only at hb⊢
   subst hb
   cases b1 with
   |true=>
    obtain⟨rfl,rfl,rfl,-⟩:=hpf2 rfl;exact⟨hbad rfl,by omega,by omega⟩
   |false=>
    obtain⟨hq1,hR⟩:=hgood rfl;have hres:=hpf1 rfl;unfold eo at hres
    cases hr:E0 q1 (d+1) with
    |out=>rw[hr] at hres;exact hres.elim
    |ok a b=>rw[hr] at hres;cases hres.2.2.2.2
    |bad a b=>
     rw[hr] at hres hR;obtain⟨rfl,rfl,-,h1,h2⟩:=hres;exact⟨hR,by omega,by omega⟩
 ·have hta:=fQ K hK q o dp bd [41] _ sw (by decide) (by decide)
  have hend:(bd=false∧i=k)∨bd=true:=by
   cases bd with
   |true=>exact .inr rfl
   |false=>refine .inl ⟨rfl,?_⟩;simp at hc;omega
  have hst:∃(q':Nat) (bd':Bool),dY K.ws [41] q bd=(q',bd')∧1≤o∧o≤66∧eo R d (.mk op 0 [] es) q' (o-1) dp bd':=by
   rcases hend with ⟨rfl,rfl⟩|rfl
   ·obtain⟨rfl,rfl,hpq,hd1,hRg⟩:=hgood rfl
    rw[Nat.sub_self,List.replicate_zero,bn,Rs.bz,List.append_nil] at hRg;rcases eS (ws:=K.ws) (s:=[41]) (q:=q) with ⟨h1,h2⟩|⟨h1,h2⟩
    ·rw[h2,Rs.bz] at hRg
     rw[hRg];exact⟨_,_,h1,by omega,by omega,rfl,rfl,by omega,rfl,rfl⟩
    ·rw[h2,Rs.ka] at hRg
     rw[hRg];exact⟨_,_,h1,by omega,by omega,rfl,rfl,rfl,by omega,by omega⟩
   ·obtain⟨hRb,h1,h2⟩:=hbad rfl
    rw[hRb];exact⟨_,_,ll,by omega,by omega,rfl,rfl,rfl,by omega,by omega⟩
  obtain⟨q',bd',htq,ho1,ho2,hres⟩:=hst;rw[htq] at hta;refine Cd.exit (ab.aD (ab.aA (ab.az (aG ?_))));refine Zm ?_;refine Zc (Ze Tryz.func157) hta ?_;rintro e w5 ⟨⟨v5,rfl⟩,hf5,sw5⟩;refine⟨_,rfl,?_⟩;have bel5:=ae.call hf5;have k65:=k6.fz hf5 (by omega);have k75:=k7.fz hf5 (by omega);have aq5:=aq.fz hf5 hgt;clear hta ae k6 k7 k99 aq sw;have ae:=bel5;have k6:=k65;have k7:=k75;have k99:=sw5.av;have e6:w.heap.size≤g6:=by omega
  have hs5:=hf5.size;have loc:=Fz.refl w5.heap.size K.g w5;dsimp only at k99;refine bj 0 2 6 7 8 31 (aG ?_);refine Zm ?_;refine Zv (aa.nilCheck rfl rfl) ?_;refine Zf 2 Tryz.underlying183 ?_;refine Zv (aa.ag rfl rfl Tryz.underlying3 rfl k99 rfl) ?_;refine Zv (aa.eU rfl rfl rfl (by omega) (by omega)) ?_;refine Zv (aa.nilCheck rfl rfl) ?_;refine Zf 2 Tryz.underlying183 ?_;refine Zq k99 ?_;intro w5 pw5;replace ae:=ae.put k99 pw5 e99;replace k7:=k7.put pw5 (by omega);replace k6:=k6.put pw5 (by omega);replace loc:=loc.put k99 pw5 e99;replace k99:=pw5.av;refine bj 0 2 6 7 8 31 (aG ?_);have sw6:=sw5.to hle loc k99 sw5.bK (by omega);have aq6:=aq5.fz loc hgt;clear sw5 aq5;have k6b:=k6;refine Zv (aa.aQ rfl rfl Tryz.underlying105 rfl k7 (m:=4) (by kernel_rfl) rfl) ?_;refine Zo 4 k6 ?_;intro w6 pw6;replace ae:=ae.put k6 pw6 e6;replace k7:=k7.put pw6 (by omega);replace k99:=k99.put pw6 (by omega);replace k6:=pw6.av;refine bj 0 2 6 7 8 31 (Zt (Cd.ret ?_));refine ab.cz rfl rfl k6 Tryz.underlying105 rfl (m:=4) (by kernel_rfl) rfl (.inl rfl) ?_;have hrep:=aq6.ex op 0 [] hop (by unfold bt;omega) (by simp) (by simp) (by omega);have hbn:=aq6.bounds;have hsz:=pw6.size;exact⟨ae,_,_,_,_,_,_,rfl,⟨_,hrep.mono (fun _ h=>h) (fun a ha=>World.cell?_of_block (pw6.grown.block _ (hbn _ ha).2.1 (fun e=>by injection e with e;have:=(hbn _ ha).1;omega))),fun b hb=>by have:=hbn b hb;omega⟩,sw6.put k6b pw6 trivial,hres⟩
def uD (ws:List Wd):Prop:=∀x∈ws,DO x
theorem vD {ws:List Wd}(h:uD ws)(p:Nat):DO (de ws p)∨(de ws p).kind= -1:=by
 unfold de;rw[List.getD_eq_getElem?_getD]
 cases hp:ws[p]? with
 |none=>exact .inr rfl
 |some x=>exact .inl (h x (List.mem_of_getElem? hp))
theorem Dn {ws:List Wd}(h:uD ws){p:Nat}(hk:(de ws p).kind=1):0≤(de ws p).n:=by
 rcases vD h p with (⟨h1,-⟩|⟨-,h2,-⟩|⟨h1,-⟩|⟨h1,-⟩)|h1
 all_goals first|exact h2|(rw[hk] at h1;exact absurd h1 (by decide))
theorem C6 {ws:List Wd}(h:uD ws){p:Nat}(hk:(de ws p).kind=2):0≤(de ws p).n∧(de ws p).n≤2932896:=by
 rcases vD h p with (⟨h1,-⟩|⟨h1,-⟩|⟨-,h2⟩|⟨h1,-⟩)|h1
 all_goals first|exact h2|(rw[hk] at h1;exact absurd h1 (by decide))
theorem u6 {ws:List Wd}(h:uD ws){p:Nat}(hk:(de ws p).kind=3):db (de ws p).text=true:=by
 rcases vD h p with (⟨h1,-⟩|⟨h1,-⟩|⟨h1,-⟩|⟨-,h2,-⟩)|h1
 all_goals first|exact h2|(rw[hk] at h1;exact absurd h1 (by decide))
section
variable {α:Type} {ws:List Wd}
theorem qQ {Q:α→Prop}(ws:List Wd):∀(aY:List (Nat→Nat→Rs α)),(∀f∈aY,∀p d x q,f p d= .ok x q→Q x)→∀first p d xs q,bn ws aY first p d= .ok xs q→∀x∈xs,Q x
 | [],_,first,p,d,xs,q,h=>by
  injection h with h _
  subst h;exact fun x hx=>absurd hx (by simp)
 |f::r,hm,first,p,d,xs,q,h=>by
  rw[bn] at h;obtain⟨u,p1,h1,h⟩:=Rs.ax h;obtain⟨x,p2,h2,h⟩:=Rs.ax h;obtain⟨ys,p3,h3,h⟩:=Rs.ax h;injection h with h _
  subst h;intro y hy;rcases List.mem_cons.1 hy with rfl|hy
  ·exact hm f (by simp) _ _ _ _ h2
  ·exact qQ ws r (fun g hg=>hm g (by simp[hg])) _ _ _ _ _ h3 y hy
theorem jE {Q:α→Prop}{aY:List (Nat→Nat→Rs α)}(hm:∀f∈aY,∀p d x q,f p d= .ok x q→Q x){p d q:Nat}{xs:List α}(h:aW ws aY p d= .ok xs q):∀x∈xs,Q x:=by
 unfold aW at h;obtain⟨u,p1,h1,h⟩:=Rs.ax h;obtain⟨u2,p2,h2,h⟩:=Rs.ax h;obtain⟨ys,p3,h3,h⟩:=Rs.ax h;obtain⟨u3,p4,h4,h⟩:=Rs.ax h;injection h with h _
 subst h;exact qQ ws aY hm _ _ _ _ _ h3
end
theorem ib {op n:Int}{nm:List Nat}{l:List Ex}(h:fR op n nm l.length=true)(hl:∀x∈l,bB x=true):bB (.mk op n nm l)=true:=by
 rw[mZ];show(fR op n nm l.length&&l.all bB)=true;rw[h,List.all_eq_true.2 hl];rfl
def yc (f:Nat→Nat→Rs Ex):Prop:=∀p d x q,f p d= .ok x q→bB x=true
theorem nn {ws:List Wd}{E0:Nat→Nat→Rs Ex}(hE:yc E0){op:Int}{k p d q:Nat}{x:Ex}(hh:fR op 0 [] k=true)(h:bX ws E0 op k p d= .ok x q):bB x=true:=by
 unfold bX at h;obtain⟨xs,p1,h1,h⟩:=Rs.ax h;injection h with h _
 subst h;have hl:=et h1;rw[List.length_replicate] at hl;exact ib (by rw[hl];exact hh) (jE (fun f hf=>(List.mem_replicate.1 hf).2▸hE) h1)
theorem ya {nm:List Nat}(h:db nm=true)(h2:cq nm=false):fR 3 0 nm 0=true:=by
 unfold fR gI;rw[h,h2];simp[eG]
theorem Cm {ws:List Wd}(hw:uD ws){E0:Nat→Nat→Rs Ex}(hE:yc E0):yc (eO ws E0):=by
 intro p d x q h;unfold eO at h;split at h
 ·rename_i hk
  injection h with h _
  subst h;have:=Dn hw hk;refine ib ?_ (by simp);unfold fR;simp[eG];omega
 split at h
 ·rename_i hk
  injection h with h _
  subst h;have:=C6 hw hk;refine ib ?_ (by simp);unfold fR;simp[eG];omega
 split at h
 ·rename_i hk
  split at h
  ·injection h with h _
   subst h;exact ib (by decide) (by simp)
  split at h
  ·exact nn hE (by decide) h
  split at h
  ·exact nn hE (by decide) h
  split at h
  ·exact nn hE (by decide) h
  ·obtain⟨nm,p1,h1,h⟩:=Rs.ax h
   injection h with h _
   subst h;obtain⟨-,rfl,h3,h4⟩:=gY h1;exact ib (ya (u6 hw h3) h4) (by simp)
 split at h
 ·obtain⟨xs,p1,h1,h⟩:=Rs.ax h
  injection h with h _
  have hl:=et h1;have ha:=jE (Q:=fun x=>bB x=true) (fun f hf=>(List.mem_singleton.1 hf)▸hE) h1
  match xs,hl with
  | [y],_=>
   subst h;exact ha y (by simp)
 ·cases h
theorem ur {S:Nat→Nat→Rs Ex}(hS:yc S){op:Int}(hh:fR op 0 [] 1=true):yc (dw S op):=by
 intro p d x q h;unfold dw at h;obtain⟨u,p1,h1,h⟩:=Rs.ax h;obtain⟨y,p2,h2,h⟩:=Rs.ax h;injection h with h _
 subst h;exact ib hh (by intro z hz;rw[List.mem_singleton.1 hz];exact hS _ _ _ _ h2)
theorem An {ws:List Wd}(hw:uD ws){S E0:Nat→Nat→Rs Ex}(hS:yc S)(hE:yc E0):yc (bC ws S E0):=by
 intro p d x q h;unfold bC at h;split at h
 ·exact ur hS (by decide) _ _ _ _ h
 split at h
 ·exact ur hS (by decide) _ _ _ _ h
 ·exact Cm hw hE _ _ _ _ h
theorem vh:∀lvl,∀op∈gH lvl,fR op 0 [] 2=true:=fun lvl=>by
 unfold gH;split<;>decide
theorem zG {ws:List Wd}{lvl p:Nat}{op:Int}(h:opAt ws lvl p=some op):op∈gH lvl:=by
 unfold opAt at h;split at h
 ·cases h
 split at h
 ·exact List.mem_of_getElem? h
 ·cases h
structure ES (f:PF):Prop where
 E:∀lvl,yc (f.E lvl)
 L:∀lvl x p d y q,bB x=true→f.L lvl x p d= .ok y q→bB y=true
 S:yc f.S
theorem Ch {ws:List Wd}{f:PF}(hf:ES f){lvl p d q:Nat}{x y:Ex}(hx:bB x=true)(h:dC ws f lvl x p d= .ok y q):bB y=true:=by
 unfold dC at h
 cases ho:opAt ws lvl p with
 |none=>
  rw[ho] at h;injection h with h _
  subst h;exact hx
 |some op=>
  rw[ho] at h;obtain⟨r,p1,h1,h⟩:=Rs.ax h
  have hm:bB (su op x r)=true:=ib (vh lvl op (zG ho)) (by
   intro z hz;rcases List.mem_cons.1 hz with rfl|hz
   ·exact hx
   ·rw[List.mem_singleton.1 hz];exact hf.E _ _ _ _ _ h1)
  split at h
  ·injection h with h _
   subst h;exact hm
  ·exact hf.L _ _ _ _ _ _ hm h
theorem AJ {L:Nat→Ex→Nat→Nat→Rs Ex}{S:Nat→Nat→Rs Ex}(hL:∀lvl x p d y q,bB x=true→L lvl x p d= .ok y q→bB y=true)(hS:yc S):∀i,yc (kG L S i)
 |0=>hS
 |i+1=>fun p d x q h=>by
  rw[kG] at h;obtain⟨y,p1,h1,h⟩:=Rs.ax h;exact hL _ _ _ _ _ _ (AJ hL hS i _ _ _ _ h1) h
theorem xx {ws:List Wd}(hw:uD ws):∀n,ES (bH ws n)
 |0=>⟨fun _ _ _ _ _ h=>by(cases h),fun _ _ _ _ _ _ _ h=>by(cases h),fun _ _ _ _ h=>by(cases h)⟩
 |n+1=>by
  have ih:=xx hw n;have hL:∀lvl x p d y q,bB x=true→dC ws (bH ws n) lvl x p d= .ok y q→bB y=true:=fun lvl x p d y q hx h=>Ch ih hx h;have hS:=An hw ih.S (ih.E 0);exact⟨fun lvl=>AJ hL hS _,hL,hS⟩
theorem mW {op:Int}{nm:List Nat}{es:List Ex}{ts:List Tm}(h:fx op nm es.length ts.length=true)(he:∀x∈es,bB x=true)(ht:∀x∈ts,du x=true):du (.mk op nm es ts)=true:=by
 rw[na];show(fx op nm es.length ts.length&&es.all bB&&ts.all du)=true;rw[h,List.all_eq_true.2 he,List.all_eq_true.2 ht];rfl
theorem lP {ws:List Wd}{E0:Nat→Nat→Rs Ex}{T:Nat→Nat→Rs Tm}:∀(n m:Nat) first p d xs q,bn ws (eu E0 T n m) first p d= .ok xs q→(cR xs).length=n∧(bZ xs).length=m
 |0,0,first,p,d,xs,q,h=>by
  injection h with h _
  subst h;exact⟨rfl,rfl⟩
 |n+1,m,first,p,d,xs,q,h=>by
  have e:eu E0 T (n+1) m=(fun p d=>(E0 p d).map .inl)::eu E0 T n m:=by unfold eu;rw[List.replicate_succ];rfl
  rw[e,bn] at h;obtain⟨u,p1,h1,h⟩:=Rs.ax h;obtain⟨x,p2,h2,h⟩:=Rs.ax h;obtain⟨ys,p3,h3,h⟩:=Rs.ax h;injection h with h _
  subst h;obtain⟨a,-,rfl⟩:=Rs.ky h2;obtain⟨i1,i2⟩:=lP n m _ _ _ _ _ h3;exact⟨by show(a::cR ys).length=n+1;rw[List.length_cons,i1],i2⟩
 |0,m+1,first,p,d,xs,q,h=>by
  have e:eu E0 T 0 (m+1)=(fun p d=>(T p d).map .inr)::eu E0 T 0 m:=by unfold eu;rw[List.replicate_succ];rfl
  rw[e,bn] at h;obtain⟨u,p1,h1,h⟩:=Rs.ax h;obtain⟨x,p2,h2,h⟩:=Rs.ax h;obtain⟨ys,p3,h3,h⟩:=Rs.ax h;injection h with h _
  subst h;obtain⟨a,-,rfl⟩:=Rs.ky h2;obtain⟨i1,i2⟩:=lP 0 m _ _ _ _ _ h3;exact⟨i1,by show(a::bZ ys).length=m+1;rw[List.length_cons,i2]⟩
theorem tq (t:List Nat)(h:(cC t).1≠0):fx (cC t).1 [] (cC t).2.1 (cC t).2.2=true:=by
 unfold cC at h⊢
 repeat' split
 all_goals first|decide|(simp_all;done)
def EF (f:Nat→Nat→Rs Tm):Prop:=∀p d x q,f p d= .ok x q→du x=true
theorem uu {x:Ex}:∀ {l:List Part},x∈cR l→Sum.inl x∈l:=fun {l} h=>by
 unfold cR at h;obtain⟨y,h1,h2⟩:=List.mem_filterMap.1 h
 cases y with
 |inl e=>injection h2 with h2;subst h2;exact h1
 |inr t=>cases h2
theorem tH {x:Tm}:∀ {l:List Part},x∈bZ l→Sum.inr x∈l:=fun {l} h=>by
 unfold bZ at h;obtain⟨y,h1,h2⟩:=List.mem_filterMap.1 h
 cases y with
 |inl e=>cases h2
 |inr t=>injection h2 with h2;subst h2;exact h1
theorem CE {ws:List Wd}(hw:uD ws){E0:Nat→Nat→Rs Ex}{T:Nat→Nat→Rs Tm}(hE:yc E0)(hT:EF T):EF (dR ws E0 T):=by
 intro p d x q h;unfold dR at h;split at h
 ·cases h
 split at h
 ·injection h with h _
  subst h;exact mW (by decide) (by simp) (by simp)
 split at h
 ·obtain⟨xs,p1,h1,h⟩:=Rs.ax h
  injection h with h _
  subst h;have hl:=et h1
  have ha:=jE (Q:=fun nm=>gI nm=true) (fun f hf=>(List.mem_singleton.1 hf)▸fun p d x q hx=>by
   obtain⟨-,rfl,h3,h4⟩:=gY hx;unfold gI;rw[u6 hw h3,h4];rfl) h1
  match xs,hl with
  | [y],_=>
   have:=ha y (by simp);refine mW ?_ (by simp) (by simp);show fx 2 y 0 0=true;unfold fx;rw[this];simp[BF]
 split at h
 ·cases h
 ·rename_i h0
  obtain⟨xs,p1,h1,h⟩:=Rs.ax h;injection h with h _
  subst h
  have hq:=jE (Q:=fun(y:Part)=>match y with| .inl e=>bB e=true| .inr t=>du t=true) (fun f hf p d x q hx=>by
   rcases kY hf with rfl|rfl
   ·obtain⟨a,h2,rfl⟩:=Rs.ky hx
    exact hE _ _ _ _ h2
   ·obtain⟨a,h2,rfl⟩:=Rs.ky hx
    exact hT _ _ _ _ h2) h1
  have hcount:(cR xs).length=(cC (de ws p).text).2.1∧(bZ xs).length=(cC (de ws p).text).2.2:=by
   unfold aW at h1;obtain⟨u,p1,h2,h1⟩:=Rs.ax h1;obtain⟨u2,p2,h3,h1⟩:=Rs.ax h1;obtain⟨ys,p3,h4,h1⟩:=Rs.ax h1;obtain⟨u3,p4,h5,h1⟩:=Rs.ax h1;injection h1 with h1 _
   subst h1;exact lP _ _ _ _ _ _ _ h4
  refine mW (by rw[hcount.1,hcount.2];exact tq _ h0) (fun y hy=>hq _ (uu hy)) (fun y hy=>hq _ (tH hy))
theorem sV {ws:List Wd}(hw:uD ws):∀n,EF (ig ws n)
 |0=>fun _ _ _ _ h=>by(cases h)
 |n+1=>fun p d x q h=>CE hw ((xx hw (n+1)).E 0) (sV hw n) p d x q h
theorem pC (l:List Nat)(hl:∀x∈l,x<256):uD (aR l).1:=fun x hx=>(oE l hl _ _ x hx).1
theorem ux {l:List Nat}(hl:∀x∈l,x<256){x:Tm}{q:Nat}(h:fK (aR l).1= .ok x q):du x=true:=sV (pC l hl) _ _ _ _ _ h
def uY:List Nat:=[40,41,44,43,45,42,47,60,61,62,38,124,33]
theorem Ds:∀x∈uY,x<256:=by decide
theorem Ao:dH []=none:=by decide
theorem Bn (c:Nat)(r:List Nat)(h:c=60∨c=62∨c=33):dH (c::61::r)=some [c,61]:=by
 rcases h with rfl|rfl|rfl<;>simp[dH,eF]
theorem sign_one (c:Nat)(r:List Nat)(hc:c∈uY)(h:¬(r.head? =some 61∧(c=60∨c=62∨c=33))):dH (c::r)=some [c]:=by
 cases r with
 |nil=>
  simp[uY] at hc;rcases hc with rfl|rfl|rfl|rfl|rfl|rfl|rfl|rfl|rfl|rfl|rfl|rfl|rfl<;>simp[dH,eF]
 |cons d r=>
  simp at h;simp[uY] at hc;rcases hc with rfl|rfl|rfl|rfl|rfl|rfl|rfl|rfl|rfl|rfl|rfl|rfl|rfl<;>simp[dH,eF]<;>simp at h<;>simp[h]
theorem Ca (c:Nat)(r:List Nat)(hc:c∉uY):dH (c::r)=none:=by
 refine wG _ _ ?_;intro j s' hs;have hm:=List.mem_of_getElem? hs;rw[decide_eq_false_iff_not];intro he;apply hc;simp[eF] at hm;rcases hm with rfl|rfl|rfl|rfl|rfl|rfl|rfl|rfl|rfl|rfl|rfl|rfl|rfl|rfl|rfl|rfl<;>(simp at he;simp[uY,he])
theorem CS:uY.length=13:=rfl
theorem ug (l:List Nat)(w:World)(hl:∀x∈l,x<256)(hlen:l.length≤9223372036854775807):
  Calls Tryz.prog 155 #[.string (strOf l)] w fun e w'=>e= .returned (.string (strOf ((dH l).getD [])))∧Grow w w':=by
 have ae:=Below.refl w.heap.size w;have h0:0<l.length→l[0]? =some (l.getD 0 0):=fun h=>by rw[List.getD_eq_getElem?_getD,List.getElem?_eq_getElem h];rfl
 have h1:1<l.length→l[1]? =some (l.getD 1 0):=fun h=>by rw[List.getD_eq_getElem?_getD,List.getElem?_eq_getElem h];rfl
 have hb:∀j,l.getD j 0<256:=fun j=>by
  rcases Nat.lt_or_ge j l.length with h|h
  ·rw[List.getD_eq_getElem?_getD,List.getElem?_eq_getElem h];exact hl _ (List.getElem_mem h)
  ·rw[List.getD_eq_getElem?_getD,List.getElem?_eq_none h];simp
 have b0:=hb 0;have b1:=hb 1;clear hb;have hnil:l.length=0→dH l=none:=fun h=>by rw[List.eq_nil_of_length_eq_zero h];exact Ao
 have htwo:2≤l.length→l.getD 1 0=61→(l.getD 0 0=60∨l.getD 0 0=62∨l.getD 0 0=33)→(dH l).getD []=l.take 2:=fun h h1 h2=>by
  rcases l with _|⟨c,_|⟨d,r⟩⟩
  ·simp at h
  ·simp at h
  ·have h1:d=61:=h1
   subst h1;rw[Bn c r h2];rfl
 have hone:0<l.length→l.getD 0 0∈uY→¬(2≤l.length∧l.getD 1 0=61∧(l.getD 0 0=60∨l.getD 0 0=62∨l.getD 0 0=33))→(dH l).getD []=l.take 1:=fun h h1 h2=>by
  rcases l with _|⟨c,r⟩
  ·simp at h
  ·rw[sign_one c r h1]
   ·rfl
   ·rintro⟨h3,h4⟩
    cases r with
    |nil=>cases h3
    |cons d r=>injection h3 with h3;subst h3;exact h2 ⟨by simp,rfl,h4⟩
 have hno:0<l.length→l.getD 0 0∉uY→(dH l).getD []=[]:=fun h h1=>by
  rcases l with _|⟨c,r⟩
  ·simp at h
  ·rw[Ca c r h1];rfl
 generalize l.getD 0 0=c0 at *
 generalize l.getD 1 0=c1 at *
 refine Zs 49 Tryz.func155 ?_;refine ao ?_;refine Za ?_;refine eh 0 2 (aJ (ao ?_));refine Zm ?_;refine Zv (aa.dh rfl rfl Tryz.underlying9) ?_;refine Zv (aa.geq rfl rfl rfl) ?_;refine Zm ?_;refine ah.start ?_;refine bM (fun hcx=>aa.move rfl rfl) ?_;refine ah.next rfl rfl rfl rfl rfl rfl rfl (fun hcx=>aa.cQ (l:=l) (j:=1) (c:=c1) rfl rfl rfl Tryz.underlying9 rfl (h1 (by simp at hcx;omega)) b1) ?_;refine ah.next rfl rfl rfl rfl rfl rfl rfl (fun hcx=>aa.aB rfl rfl rfl) ?_;refine ah.and rfl rfl rfl rfl rfl rfl rfl ?_;refine Zm ?_;refine ah.start ?_;refine bM (fun hcx=>aa.move rfl rfl) ?_;refine ah.next rfl rfl rfl rfl rfl rfl rfl (fun hcx=>aa.cQ (l:=l) (j:=0) (c:=c0) rfl rfl rfl Tryz.underlying9 rfl (h0 (by simp[cG] at hcx;omega)) b0) ?_;refine ah.next rfl rfl rfl rfl rfl rfl rfl (fun hcx=>aa.aB rfl rfl rfl) ?_;refine ah.next rfl rfl rfl rfl rfl rfl rfl (fun hcx=>aa.move rfl rfl) ?_;refine bM (fun hcx=>aa.move rfl rfl) ?_;refine ah.next rfl rfl rfl rfl rfl rfl rfl (fun hcx=>aa.cQ (l:=l) (j:=0) (c:=c0) rfl rfl rfl Tryz.underlying9 rfl (h0 (by simp[cG] at hcx;omega)) b0) ?_;refine ah.next rfl rfl rfl rfl rfl rfl rfl (fun hcx=>aa.aB rfl rfl rfl) ?_;refine ah.zo rfl rfl rfl rfl rfl rfl rfl rfl rfl rfl rfl ?_;refine ah.next rfl rfl rfl rfl rfl rfl rfl (fun hcx=>aa.move rfl rfl) ?_;refine bM (fun hcx=>aa.move rfl rfl) ?_;refine ah.next rfl rfl rfl rfl rfl rfl rfl (fun hcx=>aa.cQ (l:=l) (j:=0) (c:=c0) rfl rfl rfl Tryz.underlying9 rfl (h0 (by simp[cG] at hcx;omega)) b0) ?_;refine ah.next rfl rfl rfl rfl rfl rfl rfl (fun hcx=>aa.aB rfl rfl rfl) ?_;refine ah.zo rfl rfl rfl rfl rfl rfl rfl rfl rfl rfl rfl ?_;refine ah.and rfl rfl rfl rfl rfl rfl rfl ?_;refine bD 0 2 27 (Zt ?_);refine Cd.cond rfl (fun h=> ?_) (fun h=> ?_)
 ·simp at h
  have e:=htwo (by omega) (by omega) (by omega);refine ao ?_;refine Zm ?_;refine Zv (aa.sliceTo (j:=2) rfl rfl rfl Tryz.underlying9 rfl (by omega)) ?_;refine Za ?_;refine bD 0 2 27 (Zt (Cd.ret (ab.af ?_)));refine ab.aE rfl rfl (.inl rfl) ?_;exact⟨by rw[e],ae⟩
 ·have hn2:¬(2≤l.length∧c1=61∧(c0=60∨c0=62∨c0=33)):=by
   simp at h;omega
  have hone:=fun a b=>hone a b hn2;clear h htwo hn2 h1;refine Cd.skip (aG ?_);refine Za ?_;refine aV 0 2 3 27 (aJ (ao ?_));refine Za ?_;refine aU 0 2 3 4 27 (Zt (Cd.block ?_));refine Cd.loop (σ:=Nat) (fun k=>[(0, .string (strOf l)),(3, .string (strOf uY)),(4, .int .i64 (k:Int))]) (fun k wr=>k≤13∧(∀j c,j<k→uY[j]? =some c→0<l.length→c≠c0)∧Below w.heap.size w wr) (fun k=>13-k) 0 ⟨by omega,fun j c hj=>absurd hj (by omega),ae⟩ ⟨rfl,rfl,rfl,trivial⟩ ?_;clear ae;rintro k wr ⟨hk,hns,ae⟩;have hsl:=CS;refine Cd.seq (ao ?_);refine Zm ?_;refine Zm ?_;refine Zv (aa.dh rfl rfl Tryz.underlying9) ?_;refine Zv (aa.lss rfl rfl rfl) ?_;refine aV 0 3 4 33 (Zt ?_);refine Cd.au rfl (fun hc=> ?_) (fun hc=> ?_)
  ·obtain⟨c,hcc⟩:∃c,uY[k]? =some c:=⟨_,List.getElem?_eq_getElem (show k<uY.length by omega)⟩
   have hc256:=Ds c (List.mem_of_getElem? hcc)
   have hns2:∀j d,j<k+1→uY[j]? =some d→(0<l.length→c≠c0)→0<l.length→d≠c0:=fun j d hj hd hcn h=>by
    rcases Nat.lt_or_ge j k with h2|h2
    ·exact hns j d h2 hd h
    ·obtain rfl:j=k:=by omega
     rw[hcc] at hd;injection hd with hd
     subst hd;exact hcn h
   by_cases hl0:0<l.length
   ·have h0:=h0 hl0
    have hone:=hone hl0;refine Cd.skip (aJ (Cd.block (Cd.seq ?_)));refine Cd.draw 11 (by kernel_rfl) [] (.inl rfl) rfl Grow Grow.refl (fun _ _ _=>Grow.trans) ?_;intro w1 hw1 zw1;replace ae:=ae.step hw1;have zbel:=ae.size;refine cn ?_;refine Zd (fun w hG=>aa.dh rfl rfl Tryz.underlying9) ?_;refine Zd (fun w hG=>(aa.gtr rfl rfl rfl).kE ((by omega))) ?_;refine cn ?_;refine ck (fun w hG=>aa.move rfl rfl) ?_;refine ck (fun w hG=>aa.cQ (l:=l) (j:=0) (c:=c0) rfl rfl rfl Tryz.underlying9 rfl h0 b0) ?_;refine ck (fun w hG=>aa.move rfl rfl) ?_;refine ck (fun w hG=>aa.move rfl rfl) ?_;refine ck (fun w hG=>aa.cQ (l:=uY) (j:=k) rfl rfl rfl Tryz.underlying9 rfl hcc hc256) ?_;refine ck (fun w hG=>aa.aB rfl rfl rfl) ?_;refine Zd (fun w hG=>aa.cK rfl rfl rfl) ?_;refine Dr.nil ?_;refine ba.done (F':=[(0,_),(3,_),(4,_),(33,_),(46,_)]) rfl ⟨rfl,rfl,rfl,rfl,rfl,trivial⟩ ?_;intro w2 hw2 fw2;replace ae:=ae.step hw2;refine aU 0 3 4 33 46 (Zt ?_);refine Cd.au rfl (fun hc=> ?_) (fun hc=> ?_)
    ·obtain rfl:c=c0:=by omega
     refine ao ?_;refine Zm ?_;refine Zv (aa.sliceTo (j:=1) rfl rfl rfl Tryz.underlying9 rfl (by omega)) ?_;refine Za ?_;refine bj 0 2 3 4 33 46 (Zt (Cd.ret (ab.ak (ab.af (ab.bF (ab.ak (ab.af ?_)))))));refine ab.aE rfl rfl (.inl rfl) ?_;exact⟨by rw[hone (List.mem_of_getElem? hcc)],ae⟩
    ·have hne:c≠c0:=by omega
     refine Cd.skip (ab.aj (ei ?_));refine Zm ?_;refine cH ?_;refine Za ?_;refine aU 0 3 4 33 46 ?_;exact ab.round (k+1) ⟨rfl,rfl,rfl,trivial⟩ ⟨by omega,fun j d hj hd=>hns2 j d hj hd (fun _=>hne),ae⟩ (by omega)
   ·skip
    refine Cd.skip (aJ (Cd.block (Cd.seq ?_)));refine Cd.draw 11 (by kernel_rfl) [] (.inl rfl) rfl Grow Grow.refl (fun _ _ _=>Grow.trans) ?_;intro w1 hw1 zw1;replace ae:=ae.step hw1;have zbel:=ae.size;refine cn ?_;refine Zd (fun w hG=>aa.dh rfl rfl Tryz.underlying9) ?_;refine Zd (fun w hG=>(aa.gtr rfl rfl rfl).gN ((by omega))) ?_;refine cn ?_;refine df ?_;refine df ?_;refine df ?_;refine df ?_;refine df ?_;refine df ?_;refine Zd (fun w hG=>aa.bp rfl rfl rfl) ?_;refine Dr.nil ?_;refine ba.done (F':=[(0,_),(3,_),(4,_),(33,_),(46,_)]) rfl ⟨rfl,rfl,rfl,rfl,rfl,trivial⟩ ?_;intro w2 hw2 fw2;replace ae:=ae.step hw2;refine aU 0 3 4 33 46 (Zt ?_);refine Cd.aN rfl rfl ?_;refine Cd.skip (ab.aj (ei ?_));refine Zm ?_;refine cH ?_;refine Za ?_;refine aU 0 3 4 33 46 ?_;exact ab.round (k+1) ⟨rfl,rfl,rfl,trivial⟩ ⟨by omega,fun j d hj hd=>hns2 j d hj hd (fun h=>absurd h hl0),ae⟩ (by omega)
  ·have hnn:(dH l).getD []=[]:=by
    rcases Nat.eq_zero_or_pos l.length with h|h
    ·rw[hnil h];rfl
    ·refine hno h fun hm=> ?_
     obtain⟨j,hj,he⟩:=List.getElem_of_mem hm;exact hns j c0 (by omega) (by rw[List.getElem?_eq_getElem hj,he]) h rfl
   refine Cd.exit (ab.aD (ab.aA (ab.az (aG ?_))));refine Za ?_;refine aU 0 2 3 4 33 (Zt (Cd.ret ?_));refine ab.aE rfl rfl (.inl rfl) ?_;exact⟨by rw[hnn];rfl,ae⟩
def BH (l:List Int):List Value:=l.map fun z=> .int .i64 z
theorem DV {l:List Int}{j:Nat}(h:j<l.length):(BH l).toArray[j]? =some (.int .i64 (l.getD j 0)):=by simp[BH,List.getD_eq_getElem?_getD,List.getElem?_eq_getElem h]
theorem Dm (l:List Int)(j:Nat)(d:Int):(BH l).toArray.setIfInBounds j (.int .i64 d)=(BH (l.set j d)).toArray:=by
 apply Array.ext';simp[BH,List.map_set]
theorem sC (l:List Nat)(hl:∀x∈l,x<256)(h:l.length≤4): -100000000≤dS l∧dS l≤100000000:=by
 rcases l with _|⟨c0,_|⟨c1,_|⟨c2,_|⟨c3,_|⟨x,l⟩⟩⟩⟩⟩<;>simp at h hl<;>simp[dS]<;>omega
theorem jX (l:List Nat)(w:World)(hl:∀x∈l,x<256)(hlen:l.length≤9223372036854775807):Calls Tryz.prog 153 #[.string (strOf l)] w fun e w'=>e= .returned (.int .i64 (if cZ l then eL l else -1))∧Grow w w':=by
 have ae:=Below.refl w.heap.size w;refine Zs 58 Tryz.func153 ?_;refine ao ?_;refine Za ?_;refine eh 0 2 (aJ (ao ?_));refine Zm ?_;refine Zv (aa.dh rfl rfl Tryz.underlying9) ?_;refine Zv (aa.bN rfl rfl rfl) ?_;refine bD 0 2 9 (Zt ?_);refine Cd.cond rfl (fun h=> ?_) (fun h=> ?_)
 ·have hno:cZ l=false:=by
   unfold cZ;rw[decide_eq_false (by simp at h;omega)];rfl
  refine ao ?_;refine Za ?_;refine bD 0 2 9 (Zt (Cd.ret (ab.af ?_)));refine ab.aE rfl rfl (.inl rfl) ?_;exact⟨bw (int_eq (by rw[hno];rfl)),ae⟩
 have h10:l.length=10:=by simp at h;omega
 clear h;have hlaw:=B5 l h10;have hten:=zv l h10;refine Cd.skip (aG ?_);refine Seq.slice (vs:=[_,_,_]) (s:=1) rfl rfl rfl Tryz.underlying96 (by kernel_rfl) (gy) (by omega) (by omega) ⟨rfl,rfl,rfl,trivial⟩ rfl rfl rfl ?_;intro g10 w1 n10;have e10:=Nat.le_trans ae.size n10.ge;replace ae:=ae.step n10.below;have k10:=n10.av;refine Za ?_;refine aV 0 2 3 9 (aJ (ao ?_));refine Za ?_;refine aU 0 2 3 4 9 (Zt (Cd.block ?_));have hk0:aK w1 g10 3 (BH (gD l 0)).toArray:=k10
 refine Cd.loop (σ:=Nat) (fun k=>[(0, .string (strOf l)),(3, .slice (some ⟨g10,0,none⟩) 3 3),(4, .int .i64 (k:Int))])
  (fun k wr=>k≤10∧Below w.heap.size w wr∧aK wr g10 3 (BH (gD l k)).toArray) (fun k=>10-k) 0 ⟨by omega,ae,hk0⟩ ⟨rfl,rfl,rfl,trivial⟩ ?_
 clear hk0;clear ae k10;rintro k wr ⟨hk,ae,k10⟩;have hrl:=tJ l k;have hrb:=B8 l hl k
 have hP:(10:Int)^k≤10^10:=by
  have:(10:Nat)^k≤10^10:=Nat.pow_le_pow_right (by omega) hk;have e:((10^k:Nat):Int)=(10:Int)^k:=by simp
  omega
 have hi3:kO k<3:=by unfold kO;split;omega;split<;>omega
 refine Cd.seq (ao ?_);refine Zm ?_;refine Zv (aa.lss rfl rfl rfl) ?_;refine aV 0 3 4 12 (Zt ?_);refine Cd.au rfl (fun hc=> ?_) (fun hc=> ?_)
 ·obtain⟨c,hc⟩:∃c,l[k]? =some c:=⟨_,List.getElem?_eq_getElem (show k<l.length by omega)⟩
  have hc256:=hl c (List.mem_of_getElem? hc)
  have hst:gD l (k+1)=if k=4∨k=7 then gD l k else(gD l k).set (kO k) (10*(gD l k).getD (kO k) 0+(c:Int)-48):=by
   rw[gD,List.getD_eq_getElem?_getD (l:=l),hc];rfl
  have hx:(BH (gD l k)).toArray[kO k]? =some (.int .i64 ((gD l k).getD (kO k) 0)):=DV (by omega)
  have hxm:(gD l k).getD (kO k) 0∈gD l k:=by
   rw[List.getD_eq_getElem?_getD,List.getElem?_eq_getElem (by omega)];exact List.getElem_mem (by omega)
  have hxb:=hrb _ hxm
  generalize (gD l k).getD (kO k) 0=x at *
  refine Cd.skip (aJ (Cd.block (ao ?_)));refine Za ?_;refine aU 0 3 4 5 12 (Zt ?_);refine Cd.lz (σ:=Unit) (fun _=>[(0, .string (strOf l)),(3, .slice (some ⟨g10,0,none⟩) 3 3),(4, .int .i64 (k:Int)),(5, .int .i64 (if 4<k then 1 else 0))]) (fun _ wr'=>Below w.heap.size w wr'∧aK wr' g10 3 (BH (gD l k)).toArray) ?_ ?_
  ·skip
   refine ao ?_;refine Zm ?_;refine Zv (aa.gtr rfl rfl rfl) ?_;refine bj 0 3 4 5 12 16 (Zt ?_);refine Cd.au rfl (fun hc=> ?_) (fun hc=> ?_)
   ·skip
    refine Zr ?_;refine Za ?_;refine bj 0 3 4 5 12 16 ?_;exact ab.join () ⟨rfl,rfl,rfl,congrArg (fun x:Int=>some (Value.int .i64 x)) (by rw[if_pos (by omega)]),trivial⟩ ⟨ae,k10⟩
   ·skip
    refine Cd.skip ?_;exact ab.join () ⟨rfl,rfl,rfl,congrArg (fun x:Int=>some (Value.int .i64 x)) (by rw[if_neg (by omega)]),trivial⟩ ⟨ae,k10⟩
  clear ae k10;rintro⟨⟩ wr ⟨ae,k10⟩;refine Cd.lz (σ:=Unit) (fun _=>[(0, .string (strOf l)),(3, .slice (some ⟨g10,0,none⟩) 3 3),(4, .int .i64 (k:Int)),(5, .int .i64 (kO k:Int))]) (fun _ wr'=>Below w.heap.size w wr'∧aK wr' g10 3 (BH (gD l k)).toArray) ?_ ?_
  ·skip
   refine ao ?_;refine Zm ?_;refine Zv (aa.gtr rfl rfl rfl) ?_;refine aU 0 3 4 5 18 (Zt ?_);refine Cd.au rfl (fun hc=> ?_) (fun hc=> ?_)
   ·skip
    refine Zr ?_;refine Za ?_;refine aU 0 3 4 5 18 ?_;exact ab.join () ⟨rfl,rfl,rfl,congrArg (fun x:Int=>some (Value.int .i64 x)) (by unfold kO;(repeat' split)<;>omega),trivial⟩ ⟨ae,k10⟩
   ·skip
    refine Cd.skip ?_;exact ab.join () ⟨rfl,rfl,rfl,congrArg (fun x:Int=>some (Value.int .i64 x)) (by unfold kO;(repeat' split)<;>omega),trivial⟩ ⟨ae,k10⟩
  clear ae k10;rintro⟨⟩ wr ⟨ae,k10⟩
  generalize kO k=J at *
  refine ao ?_;refine Zm ?_;refine Zv (aa.bN rfl rfl rfl) ?_;refine Zm ?_;refine ah.start ?_;refine bM (fun hcx=>aa.move rfl rfl) ?_;refine ah.next rfl rfl rfl rfl rfl rfl rfl (fun hcx=>aa.bN rfl rfl rfl) ?_;refine ah.and rfl rfl rfl rfl rfl rfl rfl ?_;refine aU 0 3 4 5 24 (Zt ?_);refine Cd.cond rfl (fun h=> ?_) (fun h=> ?_)
  ·rw[if_neg (by simp at h;omega)] at hst
   clear h;refine Cd.draw 14 (by kernel_rfl) [] (.inl rfl) rfl Grow Grow.refl (fun _ _ _=>Grow.trans) ?_;intro w2 hw2 zw2;replace ae:=ae.step hw2;replace k10:=k10.step hw2;have zbel:=ae.size;have zlt:=k10.lt;refine cn ?_;refine cn ?_;refine cn ?_;refine cn ?_;refine Zd (fun w hG=>aa.dN rfl rfl rfl Tryz.underlying96 (by kernel_rfl) (j:=J) (by omega) (by omega)) ?_;refine Zd (fun w hG=>aa.ag rfl rfl Tryz.underlying3 rfl (k10.step hG) hx) ?_;refine Zd (fun w hG=>aa.rZ rfl rfl rfl (by omega) (by omega)) ?_;refine cn ?_;refine cn ?_;refine Zd (fun w hG=>aa.cQ (l:=l) (j:=k) rfl rfl rfl Tryz.underlying9 rfl hc hc256) ?_;refine Zd (fun w hG=>aa.fb rfl rfl Tryz.underlying5 Tryz.underlying3 (mJ (by omega) (by omega))) ?_;refine Zd (fun w hG=>aa.jH rfl rfl rfl (by omega) (by omega)) ?_;refine Zd (fun w hG=>aa.eU rfl rfl rfl (by omega) (by omega)) ?_;refine Zd (fun w hG=>aa.dN rfl rfl rfl Tryz.underlying96 (by kernel_rfl) (j:=J) (by omega) (by omega)) ?_;refine Dr.nil ?_;refine ba.done (F':=[(0,_),(3,_),(4,_),(5,_),(24,_),(37,_),(38,_)]) rfl ⟨rfl,rfl,rfl,rfl,rfl,rfl,rfl,trivial⟩ ?_;intro w3 hw3 fw3;replace ae:=ae.step hw3;replace k10:=k10.step hw3;refine Seq.kA rfl rfl rfl (by kernel_rfl) rfl rfl k10 (hx) rfl rfl ?_;intro w4 pw4;replace ae:=ae.put k10 pw4 e10;replace k10:=pw4.av;rw[Dm] at k10;refine aU 0 3 4 5 24 (ab.aj (ei ?_));refine Zm ?_;refine cH ?_;refine Za ?_;refine aU 0 3 4 5 24 ?_;exact ab.round (k+1) ⟨rfl,rfl,rfl,trivial⟩ ⟨by omega,ae,by rw[hst];exact k10⟩ (by omega)
  ·rw[if_pos (by simp at h;omega)] at hst
   refine Cd.skip (ab.aj (ei ?_));refine Zm ?_;refine cH ?_;refine Za ?_;refine aU 0 3 4 5 24 ?_;exact ab.round (k+1) ⟨rfl,rfl,rfl,trivial⟩ ⟨by omega,ae,by rw[hst];exact k10⟩ (by omega)
 ·obtain rfl:k=10:=by omega
  clear hP hrb;rw[hten] at k10;clear hten hrl;have hY:=sC (l.take 4) (iF hl 4) (by rw[List.length_take];omega);have hM:=sC ((l.take 7).drop 5) (jP (iF hl 7) 5) (by rw[List.length_drop,List.length_take];omega);have hD:=sC ((l.take 10).drop 8) (jP (iF hl 10) 8) (by rw[List.length_drop,List.length_take];omega)
  generalize dS (l.take 4)=Y at *
  generalize dS ((l.take 7).drop 5)=M at *
  generalize dS ((l.take 10).drop 8)=D at *
  refine Cd.exit (ab.aD (ab.aA (ab.az (aJ ?_))));refine Cd.dV (F':=[(0,_),(3,_),(4,_),(12,_)]) ⟨rfl,rfl,rfl,rfl,trivial⟩ ?_;refine Cd.draw 11 (by kernel_rfl) [] (.inl rfl) rfl Grow Grow.refl (fun _ _ _=>Grow.trans) ?_;intro w2 hw2 zw2;replace ae:=ae.step hw2;replace k10:=k10.step hw2;have zbel:=ae.size;have zlt:=k10.lt;refine cn ?_;refine Zd (fun w hG=>aa.dN rfl rfl rfl Tryz.underlying96 (by kernel_rfl) (j:=0) rfl (by omega)) ?_;refine Zd (fun w hG=>aa.ag rfl rfl Tryz.underlying3 rfl (k10.step hG) rfl) ?_;refine cn ?_;refine Zd (fun w hG=>aa.dN rfl rfl rfl Tryz.underlying96 (by kernel_rfl) (j:=1) rfl (by omega)) ?_;refine Zd (fun w hG=>aa.ag rfl rfl Tryz.underlying3 rfl (k10.step hG) rfl) ?_;refine cn ?_;refine Zd (fun w hG=>aa.dN rfl rfl rfl Tryz.underlying96 (by kernel_rfl) (j:=2) rfl (by omega)) ?_;refine Zd (fun w hG=>aa.ag rfl rfl Tryz.underlying3 rfl (k10.step hG) rfl) ?_;refine Dr.bP rfl (fun w=>Ze Tryz.func197) rfl (fun w hG=>r5 Y M D _ ⟨by omega,by omega⟩ ⟨by omega,by omega⟩ ⟨by omega,by omega⟩) ?_;refine Zd (fun w hG=>aa.assign rfl rfl) ?_;refine Dr.nil ?_;refine ba.done (F':=[(0,_),(3,_),(4,_),(6,_),(12,_)]) rfl ⟨rfl,rfl,rfl,rfl,rfl,trivial⟩ ?_;intro w3 hw3 fw3;replace ae:=ae.step hw3;replace k10:=k10.step hw3
  have hzn:∃n:Int,(if fB Y M D=true then fe Y M D else -1)=n∧ -1≤n∧n≤2932896∧(fB Y M D=true∧n=fe Y M D∧0≤n∨fB Y M D=false∧n<0):=by
   cases ho:fB Y M D with
   |true=>
    obtain⟨-,-,-,-,-,-,-,-,a,b⟩:=mH ho;exact⟨_,rfl,by rw[if_pos rfl];omega,by rw[if_pos rfl];omega, .inl ⟨rfl,by rw[if_pos rfl],by rw[if_pos rfl];omega⟩⟩
   |false=>exact⟨-1,rfl,by omega,by omega, .inr ⟨rfl,by omega⟩⟩
  obtain⟨n,hn,hn1,hn2,hn3⟩:=hzn;rw[hn]
  have hpr:∀W,0≤n→Calls Tryz.prog 111 #[.int .i64 n] W fun e w'=>e= .returned (.string (strOf (fC Y.toNat M.toNat D.toNat)))∧Grow W w':=by
   intro W h;rcases hn3 with ⟨h1,h2,-⟩|⟨-,h2⟩
   ·rw[h2];exact jS Y M D W h1
   ·omega
  have hpl:=m8 Y.toNat M.toNat D.toNat
  generalize fC Y.toNat M.toNat D.toNat=T at *
  refine aU 0 3 4 6 12 (aJ (ao ?_));refine Zm ?_;refine Zv (aa.lss rfl rfl rfl) ?_;refine Zm ?_;refine ah.start ?_;refine bM (fun hcx=>aa.move rfl rfl) ?_;refine ah.bY rfl rfl rfl rfl rfl rfl rfl (fun hcx=>Ze Tryz.func111) (fun hcx=>hpr _ (by simp at hcx;omega)) ?_;intro w4 hw4;replace ae:=ae.step hw4;replace k10:=k10.step hw4;refine ah.next rfl rfl rfl rfl rfl rfl rfl (fun hcx=>aa.move rfl rfl) ?_;refine ah.next rfl rfl rfl rfl rfl rfl rfl (fun hcx=>aa.fH (a:=T) (b:=l) rfl rfl rfl hpl hl) ?_;refine ah.or rfl rfl rfl rfl rfl rfl rfl ?_;refine bj 0 3 4 6 12 56 (Zt ?_);refine Cd.cond rfl (fun h=> ?_) (fun h=> ?_)
  ·have hno:cZ l=false:=by
    rw[Bool.eq_false_iff];intro h2;obtain⟨h3,h4⟩:=hlaw.1.1 h2;simp at h;rcases hn3 with ⟨-,-,h5⟩|⟨h5,-⟩
    ·rcases h with h|h
     ·omega
     ·exact h h4
    ·rw[h5] at h3;cases h3
   refine ao ?_;refine Za ?_;refine bb 0 2 3 4 6 12 56 (Zt (Cd.ret (ab.af ?_)));refine ab.aE rfl rfl (.inl rfl) ?_;exact⟨bw (int_eq (by rw[hno];rfl)),ae⟩
  ·have hyes:cZ l=true∧n=fe Y M D:=by
    simp at h;rcases hn3 with ⟨h5,h6,-⟩|⟨h5,h6⟩
    ·exact⟨hlaw.1.2 ⟨h5,h.2⟩,h6⟩
    ·omega
   refine Cd.skip (aG ?_);refine Zm ?_;refine Za ?_;refine bb 0 2 3 4 6 12 56 (Zt (Cd.ret ?_));refine ab.aE rfl rfl (.inl rfl) ?_;exact⟨bw (int_eq (by rw[if_pos hyes.1,hlaw.2 hyes.1];exact hyes.2)),ae⟩
theorem aS:cf Tryz.prog 211=some (some (.agg #[.int .i64 0, .string {data:= #[]}, .int .i64 0, .int .i64 0])):=by kernel_rfl
theorem fu (a c d:Int)(s:ByteArray)(w:World):(Instr.build 211 #[(0, .int .i64 a),(1, .string s),(2, .int .i64 c),(3, .int .i64 d)]).run Tryz.prog w= .ok (.agg #[.int .i64 a, .string s, .int .i64 c, .int .i64 d]) w:=by
 have hu:=Tryz.underlying211
 go_simp
theorem qg (p:Nat→Bool):∀l:List Nat,runN p (l.take (runN p l))=runN p l
 | []=>rfl
 |c::l=>by
  rw[ec];split
  ·rename_i h
   rw[List.take_succ_cons,ec,if_pos h,qg p l]
  ·rfl
theorem yo (c:Nat)(r:List Nat)(hc:j8 c=true):db ((c::r).take (runN aO (c::r)))=decide (runN aO (c::r)≤16):=by
 have hp:aO c=true:=by unfold aO;rw[hc];rfl
 have h1:=qg aO (c::r);have h2:((c::r).take (runN aO (c::r))).length=runN aO (c::r):=by have:=gp aO (c::r);rw[List.length_take];omega
 have h3:0<runN aO (c::r):=sG rfl hp
 have h4:((c::r).take (runN aO (c::r))).getD 0 0=c:=by
  obtain⟨n,hn⟩:∃n,runN aO (c::r)=n+1:=⟨runN aO (c::r)-1,by omega⟩;rw[hn];rfl
 have h5:(c::r).take (runN aO (c::r))≠ []:=fun h=>by rw[h] at h2;simp at h2;omega
 unfold db;rw[h1,h2,h4,hc,decide_eq_true h5];simp
theorem CM (c:Nat)(r:List Nat)(h:gJ (c::r)=true):eZ c=true:=by
 unfold gJ at h;simp at h;have h:=h.2;unfold cZ at h;simp only[Bool.and_eq_true] at h;have h:=(mO h.2).1;unfold dZ at h;split at h
 ·rename_i ha
  exact List.all_eq_true.1 ha c (by simp)
 ·omega
theorem xN {l:List Nat}{p c:Nat}(hc:l[p]? =some c)(hb:fA c=true):p+bW (l.drop p)=p+1+bW (l.drop (p+1)):=by
 have hp:p<l.length:=(List.getElem?_eq_some_iff.1 hc).1;have e:l.drop p=c::l.drop (p+1):=by rw[List.drop_eq_getElem_cons hp];congr;rw[List.getElem?_eq_getElem hp] at hc;injection hc
 rw[e,iq,if_pos hb];omega
theorem yQ {l:List Nat}{p:Nat}(hc:l[p]? =some 35):p+bW (l.drop p)=p+runN eA (l.drop p)+bW (l.drop (p+runN eA (l.drop p))):=by
 have hp:p<l.length:=(List.getElem?_eq_some_iff.1 hc).1;have e:l.drop p=35::l.drop (p+1):=by rw[List.drop_eq_getElem_cons hp];congr;rw[List.getElem?_eq_getElem hp] at hc;injection hc
 have h:=iq 35 (l.drop (p+1));rw[if_neg (by decide),if_pos rfl,←e,List.drop_drop] at h;omega
theorem zI {l:List Nat}{p c:Nat}(hc:l[p]? =some c)(hb:fA c=false)(h35:c≠35):bW (l.drop p)=0:=by
 have hp:p<l.length:=(List.getElem?_eq_some_iff.1 hc).1;have e:l.drop p=c::l.drop (p+1):=by rw[List.drop_eq_getElem_cons hp];congr;rw[List.getElem?_eq_getElem hp] at hc;injection hc
 rw[e,iq,if_neg (by rw[hb];simp),if_neg h35]
theorem Ar {l:List Nat}{p c:Nat}(hc:l[p]? =some c):l.drop p=c::l.drop (p+1):=by
 have hp:p<l.length:=(List.getElem?_eq_some_iff.1 hc).1;rw[List.drop_eq_getElem_cons hp];congr;rw[List.getElem?_eq_getElem hp] at hc;injection hc
theorem nM {f p:Nat}{l:List Nat}(h:p<l.length)(hn:gq (l.drop p)=none):fI (f+1) l p=([],some p):=by rw[fT f l p h,hn]
theorem nh {f p:Nat}{l t:List Nat}{k n:Int}(h:p<l.length)(hn:gq (l.drop p)=some (k,t,n)):fI (f+1) l p=(⟨k,t,n,p⟩::(fI f l (p+t.length+bW (l.drop (p+t.length)))).1,(fI f l (p+t.length+bW (l.drop (p+t.length)))).2):=by rw[fT f l p h,hn]
theorem sz (l:List Nat)(w:World)(hl:∀x∈l,x<256)(hlen:l.length≤4000):
  Calls Tryz.prog 122 #[.string (strOf l)] w fun e w'=>Grow w w'∧((∃p:Nat,(aR l).2=some p∧e= .returned (.tuple #[.slice none 0 0, .int .i64 (p:Int)]))∨
   ((aR l).2=none∧∃v,e= .returned (.tuple #[v, .int .i64 (-1)])∧Own w' w.heap.size 211 4 v (aR l).1.length (da (aR l).1))):=by
 have ae:=Below.refl w.heap.size w;refine Zs 161 Tryz.func122 ?_;refine ao ?_;refine Za ?_;refine Za ?_;refine bD 0 2 3 (aG ?_);refine Za ?_;refine aV 0 2 3 4 (aG ?_);refine Za ?_;refine aU 0 2 3 4 5 (aJ (Cd.block ?_));have own:jD w w.heap.size 211 4 (.slice none 0 0) 0 []:=⟨Own.nil _ _ _ _⟩
 refine Cd.loop (σ:=Nat × Value × List Wd) (fun s=>[(0, .string (strOf l)),(4,s.2.1),(5, .int .i64 (s.1:Int))])
  (fun s wr=>s.1≤l.length∧s.2.2.length≤s.1∧(∃f,l.length+1≤f+s.1∧aR l=(s.2.2++(fI f l (s.1+bW (l.drop s.1))).1,(fI f l (s.1+bW (l.drop s.1))).2))∧Below w.heap.size w wr∧jD wr w.heap.size 211 4 s.2.1 s.2.2.length (da s.2.2)) (fun s=>l.length-s.1) (0, .slice none 0 0,[])
  ⟨Nat.zero_le _,by simp,⟨l.length+1,by dsimp only;omega,by dsimp only;rw[Nat.zero_add];rfl⟩,ae,own⟩ ⟨rfl,rfl,rfl,trivial⟩ ?_
 clear ae;clear own;rintro⟨p,v,ws⟩ wr ⟨hp,hwp,⟨f,hf,hall⟩,ae,own⟩;dsimp only at hp hwp hf hall own⊢;refine Cd.seq (ao ?_);refine Zm ?_;refine Zm ?_;refine Zv (aa.dh rfl rfl Tryz.underlying9) ?_;refine Zv (aa.lss rfl rfl rfl) ?_;refine aV 0 4 5 14 (Zt ?_);refine Cd.au rfl (fun hc=> ?_) (fun hc=> ?_)
 ·obtain⟨c,hcc⟩:∃c,l[p]? =some c:=⟨_,List.getElem?_eq_getElem (show p<l.length by omega)⟩
  have hc256:=hl c (List.mem_of_getElem? hcc);refine Cd.skip (Zt (Cd.block (ao ?_)));refine Zm ?_;refine Zm ?_;refine Zv (aa.cQ (l:=l) (j:=p) rfl rfl rfl Tryz.underlying9 rfl hcc hc256) ?_;refine Za ?_;refine aU 0 4 5 6 14 (aJ (ao ?_));refine Zm ?_;refine Zv (aa.aB rfl rfl rfl) ?_;refine Zm ?_;refine ah.start ?_;refine bM (fun hcx=>aa.move rfl rfl) ?_;refine ah.next rfl rfl rfl rfl rfl rfl rfl (fun hcx=>aa.aB rfl rfl rfl) ?_;refine ah.or rfl rfl rfl rfl rfl rfl rfl ?_;refine Zm ?_;refine ah.start ?_;refine bM (fun hcx=>aa.move rfl rfl) ?_;refine ah.next rfl rfl rfl rfl rfl rfl rfl (fun hcx=>aa.aB rfl rfl rfl) ?_;refine ah.or rfl rfl rfl rfl rfl rfl rfl ?_;refine bj 0 4 5 6 14 27 (Zt ?_);refine Cd.cond rfl (fun h=> ?_) (fun h=> ?_)
  ·have hbb:fA c=true:=by unfold fA;simp at h⊢;omega
   rw[xN hcc hbb] at hall;refine ao ?_;refine Zm ?_;refine cH ?_;refine Za ?_;refine bj 0 4 5 6 14 27 (Zt (Cd.exit (ab.aD (ab.az ?_))));exact ab.round (p+1,v,ws) ⟨rfl,rfl,rfl,trivial⟩ ⟨by dsimp only;omega,by dsimp only;omega,⟨f,by dsimp only;omega,hall⟩,ae,own⟩ (by dsimp only;omega)
  have hbb:fA c=false:=by unfold fA;simp at h⊢;omega
  clear h;refine Cd.skip (aJ (ao ?_));refine Zm ?_;refine Zv (aa.aB rfl rfl rfl) ?_;refine bb 0 4 5 6 14 27 31 (Zt ?_);refine Cd.au rfl (fun hc=> ?_) (fun hc=> ?_)
  ·obtain rfl:c=35:=by omega
   have hrl:=gp eA (l.drop p);rw[List.length_drop] at hrl;have hr0:0<runN eA (l.drop p):=by rw[Ar hcc,ec,if_pos (by decide)];omega
   rw[yQ hcc] at hall;refine Cd.seq (Cd.block ?_)
   refine Cd.loop (σ:=Nat) (fun j=>[(0, .string (strOf l)),(4,v),(5, .int .i64 ((p+j:Nat):Int))])
    (fun j wr=>j≤runN eA (l.drop p)∧Below w.heap.size w wr∧jD wr w.heap.size 211 4 v ws.length (da ws)) (fun j=>l.length-j) 0 ⟨Nat.zero_le _,ae,own⟩ ⟨rfl,rfl,rfl,trivial⟩ ?_
   clear ae own;rintro j wr2 ⟨hj,ae,own⟩
   have hcj:p+j<l.length→∃d,l[p+j]? =some d∧d<256∧(eA d=true↔j<runN eA (l.drop p)):=fun h=>by
    have hd:l[p+j]? =some l[p+j]:=List.getElem?_eq_getElem h;exact⟨_,hd,hl _ (List.getElem_mem h),kV eA (l.drop p) j hj _ (by rw[List.getElem?_drop];exact hd)⟩
   generalize runN eA (l.drop p)=R at *
   have hcd:∃d,(p+j<l.length→l[p+j]? =some d)∧d<256∧(p+j<l.length→(d≠10↔j<R)):=by
    rcases Nat.lt_or_ge (p+j) l.length with h|h
    ·obtain⟨d,h1,h2,h3⟩:=hcj h
     exact⟨d,fun _=>h1,h2,fun _=>by rw[←h3];unfold eA;simp⟩
    ·exact⟨0,fun h2=>absurd h2 (by omega),by omega,fun h2=>absurd h2 (by omega)⟩
   obtain⟨d,hd1,hd2,hd3⟩:=hcd;clear hcj;refine Cd.seq (ao ?_);refine Zm ?_;refine Zm ?_;refine Zv (aa.dh rfl rfl Tryz.underlying9) ?_;refine Zv (aa.lss rfl rfl rfl) ?_;refine Zm ?_;refine ah.start ?_;refine bM (fun hcx=>aa.move rfl rfl) ?_;refine ah.next rfl rfl rfl rfl rfl rfl rfl (fun hcx=>aa.move rfl rfl) ?_;refine ah.next rfl rfl rfl rfl rfl rfl rfl (fun hcx=>aa.cQ (l:=l) (j:=p+j) (c:=d) rfl rfl rfl Tryz.underlying9 rfl (hd1 (by simp at hcx;omega)) hd2) ?_;refine ah.next rfl rfl rfl rfl rfl rfl rfl (fun hcx=>aa.bN rfl rfl rfl) ?_;refine ah.and rfl rfl rfl rfl rfl rfl rfl ?_;refine aV 0 4 5 41 (Zt ?_);refine Cd.cond rfl (fun h=> ?_) (fun h=> ?_)
   ·have hlt:p+j<l.length∧j<R:=by
     simp at h;have:=hd3 (by omega);exact⟨by omega,this.1 (by omega)⟩
    refine Cd.skip (Zt (Cd.block (Zr ?_)));refine Zm ?_;refine cH ?_;refine Za ?_;refine aV 0 4 5 41 (ab.aj ?_);exact ab.round (j+1) ⟨rfl,rfl,congrArg (fun x:Int=>some (Value.int .i64 x)) (show((p+j:Nat):Int)+1=((p+(j+1):Nat):Int) by omega),trivial⟩ ⟨by omega,ae,own⟩ (by omega)
   ·obtain rfl:j=R:=by
     simp at h;rcases Nat.lt_or_ge (p+j) l.length with h2|h2
     ·have:=hd3 h2
      rcases Nat.lt_or_ge j R with h3|h3
      ·have:=this.2 h3
       omega
      ·omega
     ·omega
    refine Cd.exit (ab.aD (ab.aA (ab.az (Zt (Cd.exit (ab.aD (ab.az ?_)))))));exact ab.round (p+j,v,ws) ⟨rfl,rfl,rfl,trivial⟩ ⟨by dsimp only;omega,by dsimp only;omega,⟨f,by dsimp only;omega,hall⟩,ae,own⟩ (by dsimp only;omega)
  have hbn:=zI hcc hbb (by omega);rw[hbn,Nat.add_zero] at hall;have hdrop:=Ar hcc;have hdn:(l.drop p).length=l.length-p:=List.length_drop;have hdl:=jP hl p;have hD:(l.take (p+10)).drop p=(l.drop p).take 10:=by rw[List.drop_take,Nat.add_sub_cancel_left]
  have hDl:=iF hdl 10;have hDn:((l.drop p).take 10).length≤9223372036854775807:=by rw[List.length_take];omega
  have hz0:cZ ((l.drop p).take 10)=true→0≤eL ((l.drop p).take 10)∧eL ((l.drop p).take 10)≤2932896:=fun h=>by
   have h2:=h;unfold cZ at h2;simp only[Bool.and_eq_true] at h2;have h3:=mH h2.2;unfold eL;rw[if_pos h];exact⟨h3.2.2.2.2.2.2.2.2.1,h3.2.2.2.2.2.2.2.2.2⟩
  have hday:gJ (l.drop p)=(decide (10≤l.length-p)&& !(decide (10<l.length-p)&&aO ((l.drop p).getD 10 0))&&cZ ((l.drop p).take 10)):=by unfold gJ;rw[hdn]
  have h10:p+10<l.length→l[p+10]? =some ((l.drop p).getD 10 0):=fun h=>by
   rw[List.getD_eq_getElem?_getD,List.getElem?_drop,List.getElem?_eq_getElem h];rfl
  have h10b:(l.drop p).getD 10 0<256:=by
   rcases Nat.lt_or_ge 10 (l.drop p).length with h|h
   ·rw[List.getD_eq_getElem?_getD,List.getElem?_eq_getElem h];exact hdl _ (List.getElem_mem h)
   ·rw[List.getD_eq_getElem?_getD,List.getElem?_eq_none h];simp
  have hnx:gq (l.drop p)=if eZ c then(if gJ (l.drop p) then some (2,(l.drop p).take 10,eL ((l.drop p).take 10)) else(qB ((l.drop p).take (runN aO (l.drop p)))).map fun v=>(1,(l.drop p).take (runN aO (l.drop p)),v))
   else if j8 c then(if runN aO (l.drop p)≤16 then some (3,(l.drop p).take (runN aO (l.drop p)),0) else none)
   else(dH (l.drop p)).map fun s=>(0,s,0):=by rw[hdrop];rfl
  have hdd:gJ (l.drop p)=true→eZ c=true:=fun h=>by rw[hdrop] at h;exact CM _ _ h
  generalize (l.drop p).getD 10 0=c10 at *
  obtain⟨f',rfl⟩:∃f',f=f'+1:=⟨f-1,by omega⟩;have hstep:=fT f' l p (by omega);have hDlen:10≤l.length-p→((l.drop p).take 10).length=10:=fun h=>by rw[List.length_take];omega
  refine Cd.skip (aJ (ao ?_));refine Zm ?_;refine Zv (aa.dh rfl rfl Tryz.underlying9) ?_;refine Zm ?_;refine Zv (aa.eU rfl rfl rfl (by omega) (by omega)) ?_;refine Zv (aa.geq rfl rfl rfl) ?_;refine Zm ?_;refine ah.start ?_;refine bM (fun hcx=>aa.move rfl rfl) ?_;refine ah.next rfl rfl rfl rfl rfl rfl rfl (fun hcx=>aa.move rfl rfl) ?_;refine ah.next rfl rfl rfl rfl rfl rfl rfl (fun hcx=>aa.move rfl rfl) ?_;refine ah.next rfl rfl rfl rfl rfl rfl rfl (fun hcx=>aa.jH rfl rfl rfl (by omega) (by omega)) ?_;refine ah.next rfl rfl rfl rfl rfl rfl rfl (fun hcx=>aa.kJ (i:=p) (j:=p+10) rfl rfl rfl rfl Tryz.underlying9 rfl (by omega) (by omega) (by simp at hcx;omega)) ?_;rw[hD];refine ah.bY rfl rfl rfl rfl rfl rfl rfl (fun hcx=>Ze Tryz.func153) (fun hcx=>jX ((l.drop p).take 10) _ hDl hDn) ?_;intro w1 hw1;replace ae:=ae.step hw1;replace own:=own.step hw1;refine ah.next rfl rfl rfl rfl rfl rfl rfl (fun hcx=>aa.geq rfl rfl rfl) ?_;refine ah.and rfl rfl rfl rfl rfl rfl rfl ?_;refine Zm ?_;refine ah.start ?_;refine bM (fun hcx=>aa.move rfl rfl) ?_;refine ah.next rfl rfl rfl rfl rfl rfl rfl (fun hcx=>aa.dh rfl rfl Tryz.underlying9) ?_;refine ah.next rfl rfl rfl rfl rfl rfl rfl (fun hcx=>aa.move rfl rfl) ?_;refine ah.next rfl rfl rfl rfl rfl rfl rfl (fun hcx=>aa.eU rfl rfl rfl (by omega) (by omega)) ?_;refine ah.next rfl rfl rfl rfl rfl rfl rfl (fun hcx=>aa.aB rfl rfl rfl) ?_;refine ah.next rfl rfl rfl rfl rfl rfl rfl (fun hcx=>aa.move rfl rfl) ?_;refine bM (fun hcx=>aa.move rfl rfl) ?_;refine ah.next rfl rfl rfl rfl rfl rfl rfl (fun hcx=>aa.move rfl rfl) ?_;refine ah.next rfl rfl rfl rfl rfl rfl rfl (fun hcx=>aa.jH rfl rfl rfl (by omega) (by omega)) ?_;refine ah.next rfl rfl rfl rfl rfl rfl rfl (fun hcx=>aa.cQ (l:=l) (j:=p+10) (c:=c10) rfl rfl rfl Tryz.underlying9 rfl (h10 (by simp[cG] at hcx;omega)) h10b) ?_;refine ah.bY rfl rfl rfl rfl rfl rfl rfl (fun hcx=>Ze Tryz.func77) (fun hcx=>kF c10 _) ?_;intro w2 hw2;replace ae:=ae.step hw2;replace own:=own.step hw2;refine ah.next rfl rfl rfl rfl rfl rfl rfl (fun hcx=>aa.not rfl rfl) ?_;refine ah.zo rfl rfl rfl rfl rfl rfl rfl rfl rfl rfl rfl ?_;refine ah.and rfl rfl rfl rfl rfl rfl rfl ?_;refine cI 0 4 5 6 14 27 31 72 (Zt ?_);refine Cd.cond rfl (fun h=> ?_) (fun h=> ?_)
  ·have hyes:gJ (l.drop p)=true:=by
    cases hdo:cZ ((l.drop p).take 10)<;>cases hpo:aO c10<;>rw[hdo,hpo] at h<;>rw[hday,hdo,hpo]<;>simp at h⊢ <;>omega
   have hdo:cZ ((l.drop p).take 10)=true:=by rw[hday] at hyes;simp at hyes;exact hyes.2
   have h10p:10≤l.length-p:=by rw[hday] at hyes;simp at hyes;omega
   have hlT:=hDlen h10p;rw[hnx,hdd hyes,if_pos rfl,if_pos hyes] at hstep;clear h hnx hdd
   generalize hT:(l.drop p).take 10=T at *
   refine Cd.seq ?_;refine Cd.draw 14 (by kernel_rfl) [0] (.inr (fun _ _ d _ _ h=>by cases d<;>exact h)) rfl Grow Grow.refl (fun _ _ _=>Grow.trans) ?_;intro w3 hw3 zw3;replace ae:=ae.step hw3;replace own:=own.step hw3;have zbel:=ae.size;refine Dr.late rfl rfl (fun w=>aa.move rfl rfl) Grow.refl rfl ?_;refine cn ?_;refine cn ?_;refine cn ?_;refine Zd (fun w hG=>aa.jH rfl rfl rfl (by omega) (by omega)) ?_;refine Zd (fun w hG=>aa.kJ (i:=p) (j:=p+10) rfl rfl rfl rfl Tryz.underlying9 rfl (by omega) (by omega) (by omega)) ?_;refine cn ?_;refine cn ?_;refine cn ?_;refine Zd (fun w hG=>aa.jH rfl rfl rfl (by omega) (by omega)) ?_;refine Zd (fun w hG=>aa.kJ (i:=p) (j:=p+10) rfl rfl rfl rfl Tryz.underlying9 rfl (by omega) (by omega) (by omega)) ?_;rw[hD];refine Dr.bP rfl (fun w=>Ze Tryz.func153) rfl (fun w hG=>jX T _ hDl hDn) ?_;refine cn ?_;rw[hdo,if_pos rfl];refine Zd (fun w hG=>aa.build rfl rfl (fu _ _ _ _ _)) ?_;refine Dr.nil ?_;refine ba.done (F':=[(0,_),(4,_),(5,_),(6,_),(14,_),(27,_),(31,_),(72,_),(73,_),(86,_)]) rfl ⟨rfl,rfl,rfl,rfl,rfl,rfl,rfl,rfl,rfl,rfl,trivial⟩ ?_;intro w4 hw4 fw4;replace ae:=ae.step hw4;replace own:=own.step hw4;refine Seq.slice (vs:=[_]) (s:=4) rfl rfl rfl Tryz.underlying178 (by kernel_rfl) (aS) (by omega) (by omega) ⟨rfl,trivial⟩ rfl rfl rfl ?_;intro g87 w5 n87;have e87:=Nat.le_trans ae.size n87.ge;replace ae:=ae.step n87.below;replace own:=own.step n87.below;have k87:=n87.av;replace own:=own.own;refine Seq.append rfl rfl rfl Tryz.underlying178 (by kernel_rfl) aS rfl (by decide) (b:=40) (by kernel_rfl) own (Reads.av (size:=4) k87 1 rfl) (by intro x hx;simp[aP,Value.cells] at hx;rcases hx with rfl|rfl|rfl|rfl<;>rfl) ae.size (by simp only[maxLen];omega) (by omega) rfl rfl rfl ?_;clear own;intro vw6 w6 own haw6;replace ae:=ae.trans haw6.below;replace own:jD w6 w.heap.size 211 4 vw6 (ws++[(⟨2,T,eL T,p⟩:Wd)]).length (da (ws++[⟨2,T,eL T,p⟩])):=⟨by rw[List.length_append,fO];exact own⟩;rw[hstep] at hall;dsimp only at hall;rw[hlT] at hall;refine Za ?_;refine cI 0 4 5 6 14 27 31 72 (aG ?_);refine Zm ?_;refine cH ?_;refine Za ?_;refine cI 0 4 5 6 14 27 31 72 (Zt (Cd.exit (ab.aD (ab.az ?_))));refine ab.round (p+10,vw6,ws++[⟨2,T,eL T,p⟩]) ⟨rfl,rfl,rfl,trivial⟩ ⟨by dsimp only;omega,by dsimp only;rw[List.length_append];simp;omega,⟨f',by dsimp only;omega,?_⟩,ae,own⟩ (by dsimp only;omega);dsimp only;rw[hall,List.append_assoc];rfl
  have hno:gJ (l.drop p)=false:=by
   rw[hday]
   cases hdo:cZ ((l.drop p).take 10)<;>cases hpo:aO c10<;>rw[hdo,hpo] at h<;>simp at h⊢ <;>first|(have:=(hz0 hdo).1;omega)|omega
  rw[hno] at hnx;clear h hdd hD hDl hDn hz0 hday h10 h10b hDlen hno;have hrl:=gp aO (l.drop p);rw[hdn] at hrl;have hrn:=kV aO (l.drop p);have hpos:aO c=true→0<runN aO (l.drop p):=fun h=>by rw[hdrop,ec,if_pos h];omega
  have hnm:j8 c=true→db ((l.drop p).take (runN aO (l.drop p)))=decide (runN aO (l.drop p)≤16):=fun h=>by rw[hdrop];exact yo c _ h
  generalize hR:runN aO (l.drop p)=R at *
  refine Cd.skip (aG ?_);refine Zm ?_;refine Za ?_;refine dG 0 4 5 6 7 14 27 31 72 (aJ (Cd.block ?_))
  refine Cd.loop (σ:=Nat) (fun j=>[(0, .string (strOf l)),(4,v),(5, .int .i64 (p:Int)),(6, .int .u8 (c:Int)),(7, .int .i64 ((p+j:Nat):Int))])
   (fun j wr=>j≤R∧Below w.heap.size w wr∧jD wr w.heap.size 211 4 v ws.length (da ws)) (fun j=>l.length-j) 0 ⟨Nat.zero_le _,ae,own⟩ ⟨rfl,rfl,rfl,rfl,rfl,trivial⟩ ?_
  clear ae own;rintro j wr2 ⟨hj,ae,own⟩
  have hcd:∃d,(p+j<l.length→l[p+j]? =some d)∧d<256∧(p+j<l.length→(aO d=true↔j<R)):=by
   rcases Nat.lt_or_ge (p+j) l.length with h|h
   ·have hd:l[p+j]? =some l[p+j]:=List.getElem?_eq_getElem h
    exact⟨_,fun _=>hd,hl _ (List.getElem_mem h),fun _=>hrn j hj _ (by rw[List.getElem?_drop];exact hd)⟩
   ·exact⟨0,fun h2=>absurd h2 (by omega),by omega,fun h2=>absurd h2 (by omega)⟩
  obtain⟨d,hd1,hd2,hd3⟩:=hcd;refine Cd.seq (ao ?_);refine Zm ?_;refine Zm ?_;refine Zv (aa.dh rfl rfl Tryz.underlying9) ?_;refine Zv (aa.lss rfl rfl rfl) ?_;refine Zm ?_;refine ah.start ?_;refine bM (fun hcx=>aa.move rfl rfl) ?_;refine ah.next rfl rfl rfl rfl rfl rfl rfl (fun hcx=>aa.move rfl rfl) ?_;refine ah.next rfl rfl rfl rfl rfl rfl rfl (fun hcx=>aa.cQ (l:=l) (j:=p+j) (c:=d) rfl rfl rfl Tryz.underlying9 rfl (hd1 (by simp at hcx;omega)) hd2) ?_;refine ah.bY rfl rfl rfl rfl rfl rfl rfl (fun hcx=>Ze Tryz.func77) (fun hcx=>kF d _) ?_;intro w3 hw3;replace ae:=ae.step hw3;replace own:=own.step hw3;refine ah.and rfl rfl rfl rfl rfl rfl rfl ?_;refine bj 0 4 5 6 7 101 (Zt ?_);refine Cd.cond rfl (fun h=> ?_) (fun h=> ?_)
  ·have hlt:p+j<l.length∧j<R:=by
    simp at h;exact⟨by omega,(hd3 (by omega)).1 h.2⟩
   refine Cd.skip (Zt (Cd.block (Zr ?_)));refine Zm ?_;refine cH ?_;refine Za ?_;refine bj 0 4 5 6 7 101 (ab.aj ?_);exact ab.round (j+1) ⟨rfl,rfl,rfl,rfl,congrArg (fun x:Int=>some (Value.int .i64 x)) (show((p+j:Nat):Int)+1=((p+(j+1):Nat):Int) by omega),trivial⟩ ⟨by omega,ae,own⟩ (by omega)
  obtain rfl:j=R:=by
   simp at h;rcases Nat.lt_or_ge (p+j) l.length with h2|h2
   ·have h4:=hd3 h2
    rcases Nat.lt_or_ge j R with h3|h3
    ·have h5:=h4.2 h3
     rw[h (by omega)] at h5
     cases h5
    ·omega
   ·omega
  clear h hd1 hd2 hd3 hrn;have hT:(l.take (p+j)).drop p=(l.drop p).take j:=by rw[List.drop_take,Nat.add_sub_cancel_left]
  have hTl:=iF hdl j;have hTn:((l.drop p).take j).length=j:=by rw[List.length_take];omega
  refine Cd.exit (ab.aD (ab.aA (ab.az (aG ?_))));refine Zm ?_;refine Zm ?_;refine Zm ?_;refine Zv (aa.kJ (i:=p) (j:=p+j) rfl rfl rfl rfl Tryz.underlying9 rfl (by omega) (by omega) (by omega)) ?_;rw[hT]
  have hTc:0<j→∃r,(l.drop p).take j=c::r:=fun h=>by
   obtain⟨m,rfl⟩:∃m,j=m+1:=⟨j-1,by omega⟩;exact⟨_,by rw[hdrop];rfl⟩
  generalize (l.drop p).take j=T at *
  refine Za ?_;refine bb 0 4 5 6 7 8 101 (aJ (Cd.block (ao ?_)));refine Zm ?_;refine Zv (aa.geq rfl rfl rfl) ?_;refine Zm ?_;refine ah.start ?_;refine bM (fun hcx=>aa.move rfl rfl) ?_;refine ah.next rfl rfl rfl rfl rfl rfl rfl (fun hcx=>aa.leq rfl rfl rfl) ?_;refine ah.and rfl rfl rfl rfl rfl rfl rfl ?_;refine Za ?_;refine cI 0 4 5 6 7 8 101 121 (Zt ?_);refine Cd.cond rfl (fun h=> ?_) (fun h=> ?_)
  ·have hdg:eZ c=true:=by unfold eZ;simp at h⊢;omega
   have hj0:=hpos (by unfold aO;rw[hdg];simp);obtain⟨r,hr⟩:=hTc hj0;rw[if_pos hdg,if_neg (by simp)] at hnx;clear h;refine ao ?_;refine Zm ?_;refine Zc (Ze Tryz.func154) (qy T 0 _ hTl ⟨by omega,by omega⟩) ?_;rintro e w7 ⟨x,ok,rfl,hamt,hb7⟩;refine⟨_,rfl,?_⟩;rw[wI hamt c r hr hdg] at hnx;replace ae:=ae.step hb7;replace own:=own.step hb7;refine Zm ?_;refine Zv (aa.extract rfl rfl rfl) ?_;refine Zv (aa.extract rfl rfl rfl) ?_;refine Za ?_;refine Za ?_;refine dg 0 4 5 6 7 8 9 10 101 121 (aJ (ao ?_));refine Zm ?_;refine Zv (aa.not rfl rfl) ?_;refine dr 0 4 5 6 7 8 9 10 101 121 134 (Zt ?_);refine Cd.cond rfl (fun h=> ?_) (fun h=> ?_)
   ·obtain rfl:ok=false:=by cases ok<;>simp at h⊢
    rw[nM (by omega) hnx] at hall;refine ao ?_;refine Zm ?_;refine Za ?_;refine Za ?_;refine gF 0 2 3 4 5 6 7 8 9 10 101 121 134 (Zt (Cd.ret (ab.af (ab.ak (ab.af (ab.ak (ab.bF (ab.ak (ab.af ?_)))))))));refine ab.bf rfl rfl rfl (.inl rfl) ?_;exact⟨ae, .inl ⟨p,by rw[hall],rfl⟩⟩
   ·obtain rfl:ok=true:=by cases ok<;>simp at h⊢
    rw[nh (by omega) (show gq (l.drop p)=some (1,T,x) from hnx),hTn] at hall;refine Cd.skip (ei ?_);refine Zm ?_;refine Zm ?_;refine Zm ?_;refine Zm ?_;refine Zv (aa.build rfl rfl (fu _ _ _ _ _)) ?_;refine Seq.slice (vs:=[_]) (s:=4) rfl rfl rfl Tryz.underlying178 (by kernel_rfl) (aS) (by omega) (by omega) ⟨rfl,trivial⟩ rfl rfl rfl ?_;intro g141 w4 n141;have e141:=Nat.le_trans ae.size n141.ge;replace ae:=ae.step n141.below;replace own:=own.step n141.below;have k141:=n141.av;replace own:=own.own;refine Seq.append rfl rfl rfl Tryz.underlying178 (by kernel_rfl) aS rfl (by decide) (b:=40) (by kernel_rfl) own (Reads.av (size:=4) k141 1 rfl) (by intro x hx;simp[aP,Value.cells] at hx;rcases hx with rfl|rfl|rfl|rfl<;>rfl) ae.size (by simp only[maxLen];omega) (by omega) rfl rfl rfl ?_;clear own;intro vw5 w5 own haw5;replace ae:=ae.trans haw5.below;replace own:jD w5 w.heap.size 211 4 vw5 (ws++[(⟨1,T,x,p⟩:Wd)]).length (da (ws++[⟨1,T,x,p⟩])):=⟨by rw[List.length_append,fO];exact own⟩;refine Za ?_;refine dr 0 4 5 6 7 8 9 10 101 121 134 (ab.aj (ei ?_));refine Zm ?_;refine Zm ?_;refine Zv (aa.dh rfl rfl Tryz.underlying9) ?_;refine cH ?_;refine Za ?_;refine dr 0 4 5 6 7 8 9 10 101 121 134 (ab.aj ?_);refine ab.round (p+j,vw5,ws++[⟨1,T,x,p⟩]) ⟨rfl,rfl,congrArg (fun x:Int=>some (Value.int .i64 x)) (by omega),trivial⟩ ⟨by dsimp only;omega,by dsimp only;rw[List.length_append];simp;omega,⟨f',by dsimp only;omega,?_⟩,ae,own⟩ (by dsimp only;omega);dsimp only;rw[hall,List.append_assoc];rfl
  have hdg:eZ c=false:=by unfold eZ;simp at h⊢;omega
  rw[if_neg (by rw[hdg];simp)] at hnx;clear h;refine ao ?_;refine Zm ?_;refine Zc (Ze Tryz.func76) (iQ c _) ?_;rintro e w7 ⟨rfl,hb7⟩;refine⟨_,rfl,?_⟩;replace ae:=ae.step hb7;replace own:=own.step hb7;refine Za ?_;refine dG 0 4 5 6 7 8 101 121 143 (Zt ?_);refine Cd.cond rfl (fun hlt=> ?_) (fun hlt=> ?_)
  ·have hj0:=hpos (by unfold aO;rw[hlt];simp)
   rw[if_pos hlt] at hnx;have hnm:=hnm hlt;refine Cd.seq (ao ?_);refine Zm ?_;refine Zc (Ze Tryz.func28) (gK T _ hTl (by omega)) ?_;rintro e w8 ⟨rfl,hb8⟩;refine⟨_,rfl,?_⟩;rw[hnm];replace ae:=ae.step hb8;replace own:=own.step hb8;refine Zv (aa.not rfl rfl) ?_;refine dg 0 4 5 6 7 8 101 121 143 148 (Zt ?_);refine Cd.cond rfl (fun h=> ?_) (fun h=> ?_)
   ·rw[if_neg (by simp at h;omega)] at hnx
    rw[nM (by omega) hnx] at hall;refine ao ?_;refine Zm ?_;refine Za ?_;refine Za ?_;refine fG 0 2 3 4 5 6 7 8 101 121 143 148 (Zt (Cd.ret (ab.af (ab.ak (ab.af (ab.ak (ab.bF (ab.ak (ab.af ?_)))))))));refine ab.bf rfl rfl rfl (.inl rfl) ?_;exact⟨ae, .inl ⟨p,by rw[hall],rfl⟩⟩
   ·rw[if_pos (by simp at h;omega)] at hnx
    rw[nh (by omega) hnx,hTn] at hall;refine Cd.skip (ei ?_);refine Zm ?_;refine Zm ?_;refine Zm ?_;refine Zv (aa.build rfl rfl (fu _ _ _ _ _)) ?_;refine Seq.slice (vs:=[_]) (s:=4) rfl rfl rfl Tryz.underlying178 (by kernel_rfl) (aS) (by omega) (by omega) ⟨rfl,trivial⟩ rfl rfl rfl ?_;intro g154 w4 n154;have e154:=Nat.le_trans ae.size n154.ge;replace ae:=ae.step n154.below;replace own:=own.step n154.below;have k154:=n154.av;replace own:=own.own;refine Seq.append rfl rfl rfl Tryz.underlying178 (by kernel_rfl) aS rfl (by decide) (b:=40) (by kernel_rfl) own (Reads.av (size:=4) k154 1 rfl) (by intro x hx;simp[aP,Value.cells] at hx;rcases hx with rfl|rfl|rfl|rfl<;>rfl) ae.size (by simp only[maxLen];omega) (by omega) rfl rfl rfl ?_;clear own;intro vw5 w5 own haw5;replace ae:=ae.trans haw5.below;replace own:jD w5 w.heap.size 211 4 vw5 (ws++[(⟨3,T,0,p⟩:Wd)]).length (da (ws++[⟨3,T,0,p⟩])):=⟨by rw[List.length_append,fO];exact own⟩;refine Za ?_;refine dg 0 4 5 6 7 8 101 121 143 148 (ab.aj (ei ?_));refine Zm ?_;refine Zm ?_;refine Zv (aa.dh rfl rfl Tryz.underlying9) ?_;refine cH ?_;refine Za ?_;refine dg 0 4 5 6 7 8 101 121 143 148 (ab.aj ?_);refine ab.round (p+j,vw5,ws++[⟨3,T,0,p⟩]) ⟨rfl,rfl,congrArg (fun x:Int=>some (Value.int .i64 x)) (by omega),trivial⟩ ⟨by dsimp only;omega,by dsimp only;rw[List.length_append];simp;omega,⟨f',by dsimp only;omega,?_⟩,ae,own⟩ (by dsimp only;omega);dsimp only;rw[hall,List.append_assoc];rfl
  rw[if_neg (by rw[hlt];simp)] at hnx
  have hslt:∀x∈(dH (l.drop p)).getD [],x<256:=by
   cases hs:dH (l.drop p) with
   |none=>simp
   |some s=>exact sN s (List.mem_of_find?_eq_some hs)
  have hsp:∀s,dH (l.drop p)=some s→0<s.length∧p+s.length≤l.length:=fun s hs=>by
   rw[hs] at hnx;have:=hZ (show gq (l.drop p)=some (0,s,0) from hnx);omega
  refine ao ?_;refine Zm ?_;refine Zm ?_;refine Zv (aa.sliceFrom (j:=p) rfl rfl rfl Tryz.underlying9 rfl hp) ?_;refine Zc (Ze Tryz.func155) (ug (l.drop p) _ hdl (by omega)) ?_;rintro e w8 ⟨rfl,hb8⟩;refine⟨_,rfl,?_⟩;replace ae:=ae.step hb8;replace own:=own.step hb8;refine Za ?_;refine dG 0 4 5 6 7 8 101 121 143 (aJ (ao ?_));refine Zm ?_;refine Zv (aa.cF (a:=(dH (l.drop p)).getD []) (b:=[]) rfl rfl rfl hslt (by simp)) ?_;refine dg 0 4 5 6 7 8 101 113 121 143 (Zt ?_);refine Cd.cond rfl (fun h=> ?_) (fun h=> ?_)
  ·have hs:dH (l.drop p)=none:=by
    cases hs:dH (l.drop p) with
    |none=>rfl
    |some s=>
     rw[hs] at h;simp at h;have:=(hsp s hs).1;rw[h] at this;simp at this
   rw[hs] at hnx;rw[nM (by omega) hnx] at hall;refine ao ?_;refine Zm ?_;refine Za ?_;refine Za ?_;refine fG 0 2 3 4 5 6 7 8 101 113 121 143 (Zt (Cd.ret (ab.af (ab.ak (ab.af (ab.ak (ab.bF (ab.ak (ab.af ?_)))))))));refine ab.bf rfl rfl rfl (.inl rfl) ?_;exact⟨ae, .inl ⟨p,by rw[hall],rfl⟩⟩
  ·obtain⟨s,hs⟩:∃s,dH (l.drop p)=some s:=by
    cases hs:dH (l.drop p) with
    |none=>rw[hs] at h;simp at h
    |some s=>exact⟨s,rfl⟩
   obtain⟨hs1,hs2⟩:=hsp s hs;rw[hs] at hnx⊢;rw[nh (by omega) (show gq (l.drop p)=some (0,s,0) from hnx)] at hall;simp only[Option.getD_some];refine Cd.skip (ei ?_);refine Zm ?_;refine Zm ?_;refine Zm ?_;refine Zv (aa.build rfl rfl (fu _ _ _ _ _)) ?_;refine Seq.slice (vs:=[_]) (s:=4) rfl rfl rfl Tryz.underlying178 (by kernel_rfl) (aS) (by omega) (by omega) ⟨rfl,trivial⟩ rfl rfl rfl ?_;intro g119 w4 n119;have e119:=Nat.le_trans ae.size n119.ge;replace ae:=ae.step n119.below;replace own:=own.step n119.below;have k119:=n119.av;replace own:=own.own;refine Seq.append rfl rfl rfl Tryz.underlying178 (by kernel_rfl) aS rfl (by decide) (b:=40) (by kernel_rfl) own (Reads.av (size:=4) k119 1 rfl) (by intro x hx;simp[aP,Value.cells] at hx;rcases hx with rfl|rfl|rfl|rfl<;>rfl) ae.size (by simp only[maxLen];omega) (by omega) rfl rfl rfl ?_;clear own;intro vw5 w5 own haw5;replace ae:=ae.trans haw5.below;replace own:jD w5 w.heap.size 211 4 vw5 (ws++[(⟨0,s,0,p⟩:Wd)]).length (da (ws++[⟨0,s,0,p⟩])):=⟨by rw[List.length_append,fO];exact own⟩;refine Za ?_;refine dg 0 4 5 6 7 8 101 113 121 143 (ab.aj (ei ?_));refine Zm ?_;refine Zm ?_;refine Zv (aa.dh rfl rfl Tryz.underlying9) ?_;refine cH ?_;refine Za ?_;refine dg 0 4 5 6 7 8 101 113 121 143 (ab.aj ?_);refine ab.round (p+s.length,vw5,ws++[⟨0,s,0,p⟩]) ⟨rfl,rfl,congrArg (fun x:Int=>some (Value.int .i64 x)) (by omega),trivial⟩ ⟨by dsimp only;omega,by dsimp only;rw[List.length_append];simp;omega,⟨f',by dsimp only;omega,?_⟩,ae,own⟩ (by dsimp only;omega);dsimp only;rw[hall,List.append_assoc];rfl
 ·obtain rfl:p=l.length:=by omega
  have hb0:=jj (l.drop l.length);rw[List.length_drop] at hb0;rw[kx f l _ (by omega)] at hall;dsimp only at hall;rw[List.append_nil] at hall;refine Cd.exit (ab.aD (ab.aA (ab.az (aG ?_))));refine Zm ?_;refine Za ?_;refine Za ?_;refine bj 0 2 3 4 5 14 (Zt (Cd.ret ?_));refine ab.bf rfl rfl rfl (.inl rfl) ?_;exact⟨ae, .inr ⟨by rw[hall],v,rfl,by rw[hall];exact own.own⟩⟩
end Go.Proofs.YtigoimhndlnhfaaGreat