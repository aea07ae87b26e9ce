/-
  Texts that were joined: PanK, PanL, PanM, LexI, LexJ, PanN, PanO, PanP, PanQ, ParB, PanR, PanS, PanT, PanU, PanV, CutA, CutB, CutC, ParC, ParD, ParE, ParF, BakA, BakB, BakC, BakD, BakF, TOpen, BkwA, BkwB. Conditions: what each theorem names.
-/
import Derived.Test.YtaamkfajnpobfaaGreatB4
import Derived.Recover
import Derived.ProofKit
import Derived.OpenShut
import Derived.Lib.SmallJoins
import Derived.Deep.Slices
import Derived.Deep.Fields
import Derived.ChangeSame
set_option linter.unusedSectionVars false
namespace Go.Proofs.YtaamkfajnpobfaaGreat
open Go.RowKit
def partV (x:Nat × Nat × Nat):Value:= .func (.func x.1) #[] #[.pointer (some ⟨x.2.1,0,none⟩), .pointer (some ⟨x.2.2,0,none⟩)]
def BoxT (K:Ctx)(gt:Nat)(x:Nat × Nat × Nat)(W:World):Prop:=Blk W x.2.1 103 #[.pointer (some ⟨gt,0,none⟩)]∧Blk W x.2.2 60 #[.pointer (some ⟨K.g,0,none⟩)]
def BoxL (K:Ctx)(gt:Nat)(L:List (Nat × Nat × Nat))(W:World):Prop:=∀x∈L,BoxT K gt x W
theorem BoxL.step {K:Ctx}{gt:Nat}{L:List (Nat × Nat × Nat)}{W W':World}(h:BoxL K gt L W)(hb:Below W.heap.size W W'):BoxL K gt L W':=fun x hx=>⟨(h x hx).1.step hb,(h x hx).2.step hb⟩
theorem BoxL.app {K:Ctx}{gt B B' n size:Nat}{v:Value}{xs:List Value}{L:List (Nat × Nat × Nat)}{W W':World}(h:BoxL K gt L W)(o:Own W B 1 size v n xs)(ha:App W W' B' v):BoxL K gt L W':=fun x hx=>⟨(h x hx).1.app o ha,(h x hx).2.app o ha⟩
theorem BoxL.snoc {K:Ctx}{gt:Nat}{L:List (Nat × Nat × Nat)}{W:World}{x:Nat × Nat × Nat}(h:BoxL K gt L W)(hx:BoxT K gt x W):BoxL K gt (L++[x]) W:=fun y hy=>by
 rcases List.mem_append.1 hy with hy|hy
 ·exact h y hy
 ·obtain rfl:=List.mem_singleton.1 hy
  exact hx
theorem subV_any (K:Ctx)(gt:Nat)(w:World):Calls Tryz.prog 56 #[.pointer (some ⟨K.g,0,none⟩), .pointer (some ⟨gt,0,none⟩)] w fun e w'=>(∃a b,e= .returned (partV (102,a,b))∧BoxT K gt (102,a,b) w')∧Grow w w':=by
 have bel:=Below.refl w.heap.size w
 refine Zs 6 Tryz.func56 ?_
 refine Zsr ?_
 refine Seq.box rfl rfl rfl rfl rfl ?_
 intro g2 w1 n2
 have e2:=Nat.le_trans bel.size n2.ge
 replace bel:=bel.step n2.below
 have k2:=n2.blk
 refine Seq.box rfl rfl rfl rfl rfl ?_
 intro g3 w2 n3
 have e3:=Nat.le_trans bel.size n3.ge
 have l3:=Nat.lt_of_lt_of_le k2.lt n3.ge
 replace bel:=bel.step n3.below
 replace k2:=k2.step n3.below
 have k3:=n3.blk
 refine Za ?_
 refine Zk5 0 1 2 3 4 (Ztq ?_)
 refine Zv (Runs.makeFunc (v:= .func (.func 102) #[] #[.pointer (some ⟨g3,0,none⟩), .pointer (some ⟨g2,0,none⟩)]) rfl (show evL _ _=some [] from rfl) (show evL _ _=some [.pointer (some ⟨g3,0,none⟩), .pointer (some ⟨g2,0,none⟩)] from rfl) rfl) ?_
 refine Za ?_
 refine Zk5 0 1 2 3 4 (Zt (Cd.ret ?_))
 refine Post.end1 rfl rfl (.inl rfl) ?_
 exact⟨⟨_,_,rfl,k3,k2⟩,bel⟩
theorem condV_any (K:Ctx)(gt:Nat)(w:World):Calls Tryz.prog 55 #[.pointer (some ⟨K.g,0,none⟩), .pointer (some ⟨gt,0,none⟩)] w fun e w'=>(∃a b,e= .returned (partV (101,a,b))∧BoxT K gt (101,a,b) w')∧Grow w w':=by
 have bel:=Below.refl w.heap.size w
 refine Zs 6 Tryz.func55 ?_
 refine Zsr ?_
 refine Seq.box rfl rfl rfl rfl rfl ?_
 intro g2 w1 n2
 have e2:=Nat.le_trans bel.size n2.ge
 replace bel:=bel.step n2.below
 have k2:=n2.blk
 refine Seq.box rfl rfl rfl rfl rfl ?_
 intro g3 w2 n3
 have e3:=Nat.le_trans bel.size n3.ge
 have l3:=Nat.lt_of_lt_of_le k2.lt n3.ge
 replace bel:=bel.step n3.below
 replace k2:=k2.step n3.below
 have k3:=n3.blk
 refine Za ?_
 refine Zk5 0 1 2 3 4 (Ztq ?_)
 refine Zv (Runs.makeFunc (v:= .func (.func 101) #[] #[.pointer (some ⟨g3,0,none⟩), .pointer (some ⟨g2,0,none⟩)]) rfl (show evL _ _=some [] from rfl) (show evL _ _=some [.pointer (some ⟨g3,0,none⟩), .pointer (some ⟨g2,0,none⟩)] from rfl) rfl) ?_
 refine Za ?_
 refine Zk5 0 1 2 3 4 (Zt (Cd.ret ?_))
 refine Post.end1 rfl rfl (.inl rfl) ?_
 exact⟨⟨_,_,rfl,k3,k2⟩,bel⟩
theorem eg_sub:∀args w,(callFunc 102 args).run Tryz.prog w= .ok (.enter 102 args) w:=fun args w=>run_enter Tryz.func102 (by kernel_rfl) rfl args w
theorem eg_cond:∀args w,(callFunc 101 args).run Tryz.prog w= .ok (.enter 101 args) w:=fun args w=>run_enter Tryz.func101 (by kernel_rfl) rfl args w
theorem eg_tname:∀args w,(callFunc 52 args).run Tryz.prog w= .ok (.enter 52 args) w:=fun args w=>run_enter Tryz.func52 (by kernel_rfl) rfl args w
theorem tname_any (K:Ctx)(hK:K.Ok)(h0 gt b1 d p:Nat)(op:Int)(nm:List Nat)(vE vT:Value)(w:World)(pw:PW K w p d false)(hg0:K.g<h0)(hgt:h0≤gt)(hh:h0≤w.heap.size)(kt:Blk w gt 25 #[.int .i64 op, .string (strOf nm),vE,vT]) (kb1:Blk w b1 60 #[.pointer (some ⟨K.g,0,none⟩)]):
  Calls Tryz.prog 52 #[.pointer (some ⟨b1,0,none⟩), .pointer (some ⟨gt,0,none⟩)] w (PRh K h0 w d (nameP K.ws p) fun x _ W'=>Kp w W'∧Blk W' gt 25 #[.int .i64 op, .string (strOf x),vE,vT]):=by
 have hle:=hK.le
 have bel:=Fz.refl w.heap.size K.g w
 have k1:=kb1
 have hcl:=name_any K hK p d w pw
 have hgl:=kt.lt
 have hpl:=pw.blk.lt
 refine Zs 5 Tryz.func52 ?_
 refine Zr ?_
 refine Zv (Runs.loadB rfl rfl Tryz.underlying60 rfl k1 rfl) ?_
 rcases Rs.ok_or (nameP_ne K.ws p) with ⟨q,ov,hr⟩|⟨x,q,hr⟩
 ·rw[hr] at hcl
  refine Seq.callB (Ze Tryz.func53) rfl hcl ?_
  rintro e w6 ⟨hf,rfl,d6,hp6⟩
  refine⟨_,rfl,fun a ha=>⟨ha.defers,?_⟩⟩
  rw[hr]
  exact⟨hf.less hh,rfl,d6,hp6⟩
 rw[hr] at hcl⊢
 refine Zc (Ze Tryz.func53) (hcl) ?_
 rintro e wq ⟨hf,v6,rfl,pwq,rfl⟩
 refine⟨_,rfl,?_⟩
 clear bel k1
 have bel:Fz h0 K.g w wq:=hf.less hh
 have kp:=(Kp.refl w).fz pw.blk hf
 have k2:=kt.fz hf (by omega)
 have k99:=pwq.blk
 have e2:h0≤gt:=hgt
 have loc:Fz h0 K.g wq wq:=Fz.refl _ _ _
 refine Zf 1 Tryz.underlying25 ?_
 refine Zq k2 ?_
 intro w1 pw1
 replace bel:=bel.put k2 pw1 e2
 replace kp:=kp.put k2 pw1 e2
 replace k99:=k99.put pw1 (by omega)
 replace loc:=loc.put k2 pw1 e2
 replace k2:=pw1.blk
 refine Zk2 0 1 ?_
 refine Post.end0 rfl (.inr rfl) ?_
 exact⟨bel,_,rfl,⟨k99,pwq.rd.below (loc.below (by omega) hle),pwq.p_le,pwq.d_le⟩,kp,k2⟩
def HasT (K:Ctx)(T0:Nat→Nat→Rs Tm):Prop:=∀p d W,PW K W p d false→T0 p d≠ .out→Calls Tryz.prog 24 #[.pointer (some ⟨K.g,0,none⟩)] W (PR K W d (T0 p d) (okT W))
theorem run_build_T1 (w:World):(Instr.build 25 #[(0, .int .i64 1)]).run Tryz.prog w= .ok (.agg #[.int .i64 1, .string (strOf []), .slice none 0 0, .slice none 0 0]) w:=by kernel_rfl
theorem PRh.monoR {α:Type}{K:Ctx}{h d:Nat}{w w':World}{r:Rs α}{ok1 ok2:α→Value→World→Prop}{e:Ending}(hr:PRh K h w d r ok1 e w')(hm:∀a p v w',r= .ok a p→ok1 a v w'→ok2 a v w'):PRh K h w d r ok2 e w':=by
 refine⟨hr.1,?_⟩
 cases r with
 |out=>exact hr.2
 |bad p o=>exact hr.2
 |ok a p=>obtain⟨v,h1,h2,h3⟩:=hr.2;exact⟨v,h1,h2,hm _ _ _ _ rfl h3⟩
theorem nameP_ok {K:Ctx}(hK:K.Ok){p q:Nat}{x:List Nat}(h:nameP K.ws p= .ok x q):(∀c∈x,c<256)∧x.length≤4000:=by
 obtain⟨a1,a2,a3,a4,a5⟩:=hK.at_ p
 obtain⟨b1,b2,b3⟩:=K.at_kind p
 unfold nameP at h
 split at h
 ·injection h with h
  rw[←h,←b2]
  exact⟨a3,a4⟩
 ·cases h
theorem PRh.map {α β:Type}{K:Ctx}{h d:Nat}{w w':World}{r:Rs α}{f:α→β}{ok1:α→Value→World→Prop}{ok2:β→Value→World→Prop}{e:Ending}(hr:PRh K h w d r ok1 e w')(hm:∀a v w',ok1 a v w'→ok2 (f a) v w'):PRh K h w d (r.map f) ok2 e w':=by
 refine⟨hr.1,?_⟩
 cases r with
 |out=>exact hr.2
 |bad p o=>exact hr.2
 |ok a p=>obtain⟨v,h1,h2,h3⟩:=hr.2;exact⟨v,h1,h2,hm _ _ _ h3⟩
theorem term_any (K:Ctx)(hK:K.Ok)(E0:Nat→Nat→Rs Ex)(T0:Nat→Nat→Rs Tm)(hE:HasE K E0)(hT:HasT K T0)(p d:Nat)(w:World)(pw:PW K w p d false)(hne:termP K.ws E0 T0 p d≠ .out):
  Calls Tryz.prog 24 #[.pointer (some ⟨K.g,0,none⟩)] w (PR K w d (termP K.ws E0 T0 p d) (okT w)):=by
 have bel:=Fz.refl w.heap.size K.g w
 have k99:=pw.blk
 have e99:K.g=K.g:=rfl
 have hlt:=pw.blk.lt
 have hlen:=hK.len
 have hle:=hK.le
 have hpl:=pw.p_le
 obtain⟨a1,a2,a3,a4,a5⟩:=hK.at_ p
 obtain⟨b1,b2,b3⟩:=K.at_kind p
 have hw:=fun W h=>word_any K hK p d false W h
 unfold wdV at hw
 obtain⟨op,hop⟩:∃op,op=(termsW (K.at_ p).text).1:=⟨_,rfl⟩
 obtain⟨ne,hnE⟩:∃ne,ne=(termsW (K.at_ p).text).2.1:=⟨_,rfl⟩
 obtain⟨ns,hnS⟩:∃ns,ns=(termsW (K.at_ p).text).2.2:=⟨_,rfl⟩
 have hq:termP K.ws E0 T0 p d=if(K.at_ p).kind≠3 then .bad p false else if(K.at_ p).text=zeroW then .ok (.mk 1 [] [] []) (p+1)
   else if(K.at_ p).text=oneW then(withinP K.ws [fun p _=>nameP K.ws p] (p+1) d).bind fun xs p=> .ok (.mk 2 (xs.getD 0 []) [] []) p
   else if op=0 then .bad p false else(withinP K.ws (onesP E0 T0 ne ns) (p+1) d).bind fun xs p=> .ok (.mk op [] (exprsOf xs) (termsOf2 xs)) p:=by
  rw[b1,hop,hnE,hnS,b2]
  unfold termP
  rfl
 have hbd:ne≤1∧ns≤2∧I64 op:=by
  rw[hop,hnE,hnS]
  have:∀t,(termsW t).2.1≤1∧(termsW t).2.2≤2∧I64 (termsW t).1:=fun t=>by
   unfold termsW
   repeat' split
   all_goals exact⟨by decide,by decide,by unfold I64;decide⟩
  exact this _
 have hp:(K.at_ p).kind≠ -1→p+1≤K.ws.length:=fun hk=>by
  rcases Nat.lt_or_ge p K.ws.length with h|h
  ·exact h
  ·exact absurd (by unfold Ctx.at_;rw[List.getD_eq_getElem?_getD,List.getElem?_eq_none h];rfl) hk
 have hterms:=fun W=>terms_any (K.at_ p).text W a3
 rw[←hop,←hnE,←hnS] at hterms
 refine Zs 85 Tryz.func24 ?_
 refine Zsr ?_
 refine Seq.box rfl rfl rfl rfl rfl ?_
 intro g1 w1 n1
 have e1:=Nat.le_trans bel.size n1.ge
 have l1:=Nat.lt_of_lt_of_le k99.lt n1.ge
 replace bel:=bel.step n1.below
 replace k99:=k99.step n1.below
 have k1:=n1.blk
 refine Zl zero_api_Term ?_
 intro g2 w2 n2
 have e2:=Nat.le_trans bel.size n2.ge
 have l2:=Nat.lt_of_lt_of_le k1.lt n2.ge
 replace bel:=bel.step n2.below
 replace k99:=k99.step n2.below
 replace k1:=k1.step n2.below
 have k2:=n2.blk
 refine Zk3 0 1 2 (Ztq ?_)
 refine Zv (Runs.loadB rfl rfl Tryz.underlying60 rfl k1 rfl) ?_
 refine Zc (Ze Tryz.func49) (hw _ (pw.to hle bel k99)) ?_
 rintro e w5 ⟨rfl,hb5⟩
 refine⟨_,rfl,?_⟩
 replace bel:=bel.step hb5
 replace k99:=k99.step hb5
 replace k1:=k1.step hb5
 replace k2:=k2.step hb5
 refine Zl zero_lex_Word ?_
 intro g3 w3 n3
 have e3:=Nat.le_trans bel.size n3.ge
 have l3:=Nat.lt_of_lt_of_le k2.lt n3.ge
 replace bel:=bel.step n3.below
 replace k99:=k99.step n3.below
 replace k1:=k1.step n3.below
 replace k2:=k2.step n3.below
 have k3:=n3.blk
 refine Zo 4 k3 ?_
 intro w4 pw4
 replace bel:=bel.put k3 pw4 e3
 replace k99:=k99.put pw4 (by omega)
 replace k1:=k1.put pw4 (by omega)
 replace k2:=k2.put pw4 (by omega)
 replace k3:=pw4.blk
 refine Zk4 0 1 2 3 (Zts (Zsr ?_))
 refine Zf 0 Tryz.underlying95 ?_
 refine Zv (Runs.loadB rfl rfl Tryz.underlying3 rfl k3 rfl) ?_
 refine Zv (Runs.neqI rfl rfl rfl) ?_
 refine Zk5 0 1 2 3 13 (Zt ?_)
 refine Cd.condD rfl (fun c1=> ?_) (fun c1=> ?_)
 ·rw[if_pos c1] at hq
  refine Zr ?_
  refine Zv (Runs.loadB rfl rfl Tryz.underlying60 rfl k1 rfl) ?_
  refine Seq.callB (Ze Tryz.func50) rfl (fail_any K.g _) ?_
  rintro e w6 ⟨rfl,hb6⟩
  refine⟨_,rfl,fun a ha=>⟨ha.defers,?_⟩⟩
  rw[hq]
  exact⟨bel.step hb6,rfl,d,pw.to hle (bel.step hb6) (k99.step hb6)⟩
 rw[if_neg c1] at hq
 have hp1:=hp (by intro h;exact c1 (by rw[h];decide))
 refine Cd.skip (Ztq ?_)
 refine Zl zero_api_Term ?_
 intro g4 w5 n4
 have e4:=Nat.le_trans bel.size n4.ge
 have l4:=Nat.lt_of_lt_of_le k3.lt n4.ge
 replace bel:=bel.step n4.below
 replace k99:=k99.step n4.below
 replace k1:=k1.step n4.below
 replace k2:=k2.step n4.below
 replace k3:=k3.step n4.below
 have k4:=n4.blk
 refine Zk6 0 1 2 3 4 13 (Zts (Zsr ?_))
 refine Zf 1 Tryz.underlying95 ?_
 refine Zv (Runs.loadB rfl rfl Tryz.underlying9 rfl k3 rfl) ?_
 refine Zk7 0 1 2 3 4 13 17 (Zt (Cd.block (Zsr ?_)))
 refine Zv (Runs.eqlL (b:=zeroW) rfl rfl rfl a3 (by decide)) ?_
 refine Za ?_
 refine Zk8 0 1 2 3 4 13 17 18 (Zt ?_)
 refine Cd.condD rfl (fun c2=> ?_) (fun c2=> ?_)
 ·rw[if_pos c2] at hq
  refine Zsr ?_
  refine Zv (Runs.loadB rfl rfl Tryz.underlying60 rfl k1 rfl) ?_
  refine Zv (Runs.nilCheck rfl rfl) ?_
  refine Zf 1 Tryz.underlying92 ?_
  refine Zv (Runs.loadB rfl rfl Tryz.underlying3 rfl k99 rfl) ?_
  refine Za_ ?_
  refine Zv (Runs.nilCheck rfl rfl) ?_
  refine Zf 1 Tryz.underlying92 ?_
  refine Zq k99 ?_
  intro w6 pw6
  replace bel:=bel.put k99 pw6 e99
  replace k1:=k1.put pw6 (by omega)
  replace k2:=k2.put pw6 (by omega)
  replace k3:=k3.put pw6 (by omega)
  replace k4:=k4.put pw6 (by omega)
  replace k99:=pw6.blk
  refine Zk8 0 1 2 3 4 13 17 18 (Ztq ?_)
  refine Zv (Runs.build rfl rfl (run_build_T1 _)) ?_
  refine Zo 4 k2 ?_
  intro w7 pw7
  replace bel:=bel.put k2 pw7 e2
  replace k99:=k99.put pw7 (by omega)
  replace k1:=k1.put pw7 (by omega)
  replace k3:=k3.put pw7 (by omega)
  replace k4:=k4.put pw7 (by omega)
  replace k2:=pw7.blk
  refine Zk8 0 1 2 3 4 13 17 18 (Zt (Cd.ret (Post.block_ret (Post.then_ret ?_))))
  refine Post.endC rfl rfl k2 Tryz.underlying25 rfl (m:=4) (by kernel_rfl) rfl (.inl rfl) ?_
  rw[hq]
  exact⟨bel,_,rfl,pw.next hle hp1 bel k99,fun _=>False,RepT.mk (es:=[]) (ts:=[]) (vs:=[]) (us:=[]) rfl rfl (by simp) (by simp) (by unfold I64;omega) (by simp) (by simp) (fun i e v h=>by simp at h) (fun i e v h=>by simp at h) (fun h=>absurd rfl h) (fun h=>absurd rfl h),fun b hb=>hb.elim⟩
 rw[if_neg c2] at hq
 refine Zsr ?_
 refine Zv (Runs.eqlL (b:=oneW) rfl rfl rfl a3 (by decide)) ?_
 refine Za ?_
 refine Zk9 0 1 2 3 4 13 17 18 28 (Zt ?_)
 refine Cd.condD rfl (fun c3=> ?_) (fun c3=> ?_)
 ·rw[if_pos c3] at hq
  refine Zsr ?_
  refine Zv (Runs.loadB rfl rfl Tryz.underlying60 rfl k1 rfl) ?_
  refine Zv (Runs.nilCheck rfl rfl) ?_
  refine Zf 1 Tryz.underlying92 ?_
  refine Zv (Runs.loadB rfl rfl Tryz.underlying3 rfl k99 rfl) ?_
  refine Za_ ?_
  refine Zv (Runs.nilCheck rfl rfl) ?_
  refine Zf 1 Tryz.underlying92 ?_
  refine Zq k99 ?_
  intro w6 pw6
  replace bel:=bel.put k99 pw6 e99
  replace k1:=k1.put pw6 (by omega)
  replace k2:=k2.put pw6 (by omega)
  replace k3:=k3.put pw6 (by omega)
  replace k4:=k4.put pw6 (by omega)
  replace k99:=pw6.blk
  refine Zk9 0 1 2 3 4 13 17 18 28 (Ztq ?_)
  refine Zf 0 Tryz.underlying25 ?_
  refine Zq k4 ?_
  intro w7 pw7
  replace bel:=bel.put k4 pw7 e4
  replace k99:=k99.put pw7 (by omega)
  replace k1:=k1.put pw7 (by omega)
  replace k2:=k2.put pw7 (by omega)
  replace k3:=k3.put pw7 (by omega)
  replace k4:=pw7.blk
  refine Zk9 0 1 2 3 4 13 17 18 28 (Ztq ?_)
  refine Zv (Runs.loadB rfl rfl Tryz.underlying60 rfl k1 rfl) ?_
  refine Zv (Runs.makeFunc (v:= .func (.func 52) #[] #[.pointer (some ⟨g1,0,none⟩), .pointer (some ⟨g4,0,none⟩)]) rfl (show evL _ _=some [] from rfl) (show evL _ _=some [.pointer (some ⟨g1,0,none⟩), .pointer (some ⟨g4,0,none⟩)] from rfl) rfl) ?_
  refine Seq.slice (vs:=[_]) (s:=1) rfl rfl rfl Tryz.underlying101 (by kernel_rfl) (zero_func__) (by omega) (by omega) ⟨rfl,trivial⟩ rfl rfl rfl ?_
  intro g40 w8 n40
  have e40:=Nat.le_trans bel.size n40.ge
  have l40:=Nat.lt_of_lt_of_le k4.lt n40.ge
  replace bel:=bel.step n40.below
  replace k99:=k99.step n40.below
  replace k1:=k1.step n40.below
  replace k2:=k2.step n40.below
  replace k3:=k3.step n40.below
  replace k4:=k4.step n40.below
  have k40:=n40.blk
  have pw8:PW K w8 (p+1) d false:=⟨by rw[Int.natCast_add];exact k99,pw.rd.below (bel.below (by omega) hle),hp1,pw.d_le⟩
  obtain⟨R,hR⟩:∃R,R=withinP K.ws [fun p _=>nameP K.ws p] (p+1) d:=⟨_,rfl⟩
  rw[←hR] at hq
  have hneR:R≠ .out:=Rs.bind_ne (by rw[←hq];exact hne)
  have hgg4:K.g<g4:=by omega
  have hwi:=within_any K hK g4 [fun p _=>nameP K.ws p] [(52,[Value.pointer (some ⟨g1,0,none⟩),Value.pointer (some ⟨g4,0,none⟩)])] (some ⟨g40,0,none⟩) 1
   (fun xs W=>Kp w8 W∧Blk W g4 25 #[.int .i64 2, .string (strOf (xs.getD 0 [])), .slice none 0 0, .slice none 0 0]∧∀x∈xs,(∀c∈x,c<256)∧x.length≤4000) (p+1) d w8 pw8 (Nat.le_of_lt k4.lt) rfl (by simp)
   ⟨Kp.refl w8,k4,by simp⟩
   (fun xs W W' p d hM hp hf=>⟨hM.1.fz hp.blk hf,hM.2.1.fz hf (by omega),hM.2.2⟩)
   (fun xs W j f cp hM hj=>by
    match j,hj with
    |0,hj=>
     simp at hj
     obtain⟨e1,e2⟩:=hj
     subst e1 e2
     refine⟨_,rfl,?_⟩
     have hb:=(hM.1.blk k40).cell 0
     exact hb
    |j+1,hj=>simp at hj)
   (fun j f cp hj=>by
    match j,hj with
    |0,hj=>
     simp at hj
     obtain⟨e1,e2⟩:=hj
     subst e1
     exact eg_tname
    |j+1,hj=>simp at hj)
   (fun j f cp one hj ho xs W p' hxl hpw hW hM hne1=>by
    match j,hj,ho,hxl with
    |0,hj,ho,hxl=>
     simp at hj ho
     obtain⟨e1,e2⟩:=hj
     subst e1 e2 ho
     have hx0:xs=[]:=List.eq_nil_of_length_eq_zero hxl
     subst hx0
     exact(tname_any K hK g4 g4 g1 (d+1) p' 2 _ _ _ W hpw hgg4 (Nat.le_refl _) hW hM.2.1 (hM.1.blk k1)).mono fun e W' hq=>hq.monoR fun a p v W' hr h=>⟨hM.1.trans h.1,h.2,fun x hx=>by simp at hx;subst hx;exact nameP_ok hK hr⟩
    |j+1,hj,_,_=>simp at hj)
   (by rw[←hR];exact hneR)
  rw[←hR] at hwi
  rcases Rs.ok_or hneR with ⟨q,ov,hr⟩|⟨xs,q,hr⟩
  ·rw[hr] at hwi hq
   refine Seq.callB (Ze Tryz.func51) rfl hwi ?_
   rintro e w9 ⟨hf,rfl,d6,hp6⟩
   refine⟨_,rfl,fun a ha=>⟨ha.defers,?_⟩⟩
   rw[hq]
   exact⟨bel.trans (hf.less (by omega)),rfl,d6,hp6⟩
  have hxl:=withinP_len (hR.symm.trans hr)
  obtain⟨x,rfl⟩:∃x,xs=[x]:=by
   match xs,hxl with
   | [x],_=>exact⟨x,rfl⟩
  rw[hr] at hwi hq
  replace hq:termP K.ws E0 T0 p d= .ok (.mk 2 x [] []) q:=hq
  refine Zc (Ze Tryz.func51) (hwi) ?_
  rintro e wq ⟨hf,v6,rfl,pwq,kpq,k4q,hxb⟩
  have hxb:=hxb x (by simp)
  refine⟨_,rfl,?_⟩
  have k2q:Blk wq g2 25 #[.int .i64 0, .string {data:= #[]}, .slice none 0 0, .slice none 0 0]:=by
   have h2:Blk w8 g2 25 #[.int .i64 0, .string {data:= #[]}, .slice none 0 0, .slice none 0 0]:=k2
   have h1:=hf.block g2 (by omega) (by omega)
   unfold Blk at h2⊢
   rw[h1]
   exact h2
  have belq:Fz w.heap.size K.g w wq:=bel.trans (hf.less (by omega))
  clear bel k1 k2 k3 k4 k40 k99
  have bel:=belq
  have k2:=k2q
  have k4:Blk wq g4 25 #[.int .i64 2, .string (strOf x), .slice none 0 0, .slice none 0 0]:=k4q
  have hlt2:=k2.lt
  refine Zk9 0 1 2 3 4 13 17 18 28 (Ztq ?_)
  refine Zv (Runs.loadW rfl rfl Tryz.underlying25 rfl k4 (m:=4) (by kernel_rfl) rfl) ?_
  refine Zo 4 k2 ?_
  intro w9 pw9
  replace bel:=bel.put k2 pw9 e2
  replace k4:=k4.put pw9 (by omega)
  replace k2:=pw9.blk
  refine Zk9 0 1 2 3 4 13 17 18 28 (Zt (Cd.ret (Post.block_ret (Post.then_ret ?_))))
  refine Post.endC rfl rfl k2 Tryz.underlying25 rfl (m:=4) (by kernel_rfl) rfl (.inl rfl) ?_
  rw[hq]
  exact⟨bel,_,rfl,⟨pwq.blk.put pw9 (by omega),pw.rd.below (bel.below (by omega) hle),pwq.p_le,pwq.d_le⟩,fun _=>False,RepT.mk (es:=[]) (ts:=[]) (vs:=[]) (us:=[]) rfl rfl (by simp) (by simp) (by unfold I64;omega) hxb.1 (by have:=hxb.2;omega) (fun i e v h=>by simp at h) (fun i e v h=>by simp at h) (fun h=>absurd rfl h) (fun h=>absurd rfl h),fun b hb=>hb.elim⟩
 rw[if_neg c3] at hq
 refine Cd.skip (Post.block_normal (Ztq ?_))
 refine Zf 1 Tryz.underlying95 ?_
 refine Zv (Runs.loadB rfl rfl Tryz.underlying9 rfl k3 rfl) ?_
 refine Zc (Ze Tryz.func54) (hterms _) ?_
 rintro e w6 ⟨rfl,hb6⟩
 refine⟨_,rfl,?_⟩
 replace bel:=bel.step hb6
 replace k99:=k99.step hb6
 replace k1:=k1.step hb6
 replace k2:=k2.step hb6
 replace k3:=k3.step hb6
 replace k4:=k4.step hb6
 refine Zm ?_
 refine Zv (Runs.extract rfl rfl rfl) ?_
 refine Zv (Runs.extract rfl rfl rfl) ?_
 refine Zv (Runs.extract rfl rfl rfl) ?_
 refine Za ?_
 refine Za ?_
 refine Za ?_
 refine Zk12 0 1 2 3 4 5 6 7 13 17 18 28 (Zts (Zsr ?_))
 refine Zm ?_
 refine Zv (Runs.eqlI rfl rfl rfl) ?_
 refine Zk13 0 1 2 3 4 5 6 7 13 17 18 28 51 (Zt ?_)
 refine Cd.condD rfl (fun c4=> ?_) (fun c4=> ?_)
 ·rw[if_pos c4] at hq
  refine Zr ?_
  refine Zv (Runs.loadB rfl rfl Tryz.underlying60 rfl k1 rfl) ?_
  refine Seq.callB (Ze Tryz.func50) rfl (fail_any K.g _) ?_
  rintro e w7 ⟨rfl,hb7⟩
  refine⟨_,rfl,fun a ha=>⟨ha.defers,?_⟩⟩
  rw[hq]
  exact⟨bel.step hb7,rfl,d,pw.to hle (bel.step hb7) (k99.step hb7)⟩
 rw[if_neg c4] at hq
 refine Cd.skip (Ztq ?_)
 refine Zv (Runs.loadB rfl rfl Tryz.underlying60 rfl k1 rfl) ?_
 refine Zv (Runs.nilCheck rfl rfl) ?_
 refine Zf 1 Tryz.underlying92 ?_
 refine Zv (Runs.loadB rfl rfl Tryz.underlying3 rfl k99 rfl) ?_
 refine Za_ ?_
 refine Zv (Runs.nilCheck rfl rfl) ?_
 refine Zf 1 Tryz.underlying92 ?_
 refine Zq k99 ?_
 intro w6 pw6
 replace bel:=bel.put k99 pw6 e99
 replace k1:=k1.put pw6 (by omega)
 replace k2:=k2.put pw6 (by omega)
 replace k3:=k3.put pw6 (by omega)
 replace k4:=k4.put pw6 (by omega)
 replace k99:=pw6.blk
 refine Zk13 0 1 2 3 4 5 6 7 13 17 18 28 51 (Ztq ?_)
 refine Zm ?_
 refine Zf 0 Tryz.underlying25 ?_
 refine Zq k4 ?_
 intro w7 pw7
 replace bel:=bel.put k4 pw7 e4
 replace k99:=k99.put pw7 (by omega)
 replace k1:=k1.put pw7 (by omega)
 replace k2:=k2.put pw7 (by omega)
 replace k3:=k3.put pw7 (by omega)
 replace k4:=pw7.blk
 refine Zk13 0 1 2 3 4 5 6 7 13 17 18 28 51 (Ztq ?_)
 refine Za ?_
 refine Zk14 0 1 2 3 4 5 6 7 8 13 17 18 28 51 (Zts (Zsr ?_))
 refine Zm ?_
 refine Zm ?_
 refine Zk16 0 1 2 3 4 5 6 7 8 13 17 18 28 51 63 64 (Zt (Cd.block ?_))
 have pwl:PW K w7 (p+1) d false:=⟨by rw[Int.natCast_add];exact k99,pw.rd.below (bel.below (by omega) hle),hp1,pw.d_le⟩
 have k1o:=k1
 have k2o:=k2
 have k4o:=k4
 have bel0:=bel
 have hs0:=bel.size
 have hk4l:=k4.lt
 replace bel:=Below.refl w7.heap.size w7
 have own:=Own.nil w7 w7.heap.size 1 1
 have bx:BoxL K g4 [] w7:=fun x hx=>by simp at hx
 refine Cd.loop (σ:=Nat × Value × List (Nat × Nat × Nat)) (fun s=>[(1, .pointer (some ⟨g1,0,none⟩)),(2, .pointer (some ⟨g2,0,none⟩)),(4, .pointer (some ⟨g4,0,none⟩)),(7, .int .i64 (ns:Int)),(8,s.2.1),(63, .int .i64 (ne:Int)),(64, .int .i64 (s.1:Int))])
  (fun s wr=>s.1≤ne∧Below w7.heap.size w7 wr∧s.2.2.map (·.1)=List.replicate s.1 101∧BoxL K g4 s.2.2 wr∧Own wr w7.heap.size 1 1 s.2.1 (s.1) (s.2.2.map partV)) (fun s=>ne-s.1) (0, .slice none 0 0,[]) ⟨Nat.zero_le _,bel,rfl,bx,own⟩ ⟨rfl,rfl,rfl,rfl,rfl,rfl,rfl,trivial⟩ ?_
 clear k1 k2 k3 k4 k99
 clear bel own bx
 rintro⟨i,v,L⟩ wr ⟨hi,bel,hL,bx,own⟩
 dsimp only at hi hL bx own⊢
 have k1:=k1o.step bel
 refine Zsr ?_
 refine Zv (Runs.lss rfl rfl rfl) ?_
 refine Zk8 1 2 4 7 8 63 64 65 (Zts ?_)
 refine Cd.condD rfl (fun hc=> ?_) (fun hc=> ?_)
 ·skip
  refine Cd.skip (Zts (Cd.block (Zr ?_)))
  refine Zm ?_
  refine Zv (Runs.loadB rfl rfl Tryz.underlying60 rfl k1 rfl) ?_
  refine Zc (Ze Tryz.func55) (condV_any K g4 _) ?_
  rintro e w8 ⟨⟨a,b,rfl,hbx⟩,hb8⟩
  refine⟨_,rfl,?_⟩
  replace bel:=bel.step hb8
  replace own:=own.step hb8
  replace bx:=bx.step hb8
  replace k1:=k1.step hb8
  replace bx:=bx.snoc hbx
  refine Seq.slice (vs:=[_]) (s:=1) rfl rfl rfl Tryz.underlying101 (by kernel_rfl) (zero_func__) (by omega) (by omega) ⟨rfl,trivial⟩ rfl rfl rfl ?_
  intro g69 w8 n69
  have e69:=Nat.le_trans bel.size n69.ge
  have l69:=Nat.lt_of_lt_of_le k1.lt n69.ge
  replace bel:=bel.step n69.below
  replace own:=own.step n69.below
  replace bx:=bx.step n69.below
  replace k1:=k1.step n69.below
  have k69:=n69.blk
  refine Seq.append rfl rfl rfl Tryz.underlying101 (by kernel_rfl) zero_func__ rfl (by decide) (b:=8) (by kernel_rfl) own (Reads.blk k69 1 rfl) (by intro x hx;simp[flatC,Value.cells,partV] at hx;rw[hx];rfl) bel.size (by simp only[maxLen];omega) (by omega) rfl rfl rfl ?_
  intro v2 wa own2 ha
  replace bx:=bx.app own ha
  replace bel:=bel.trans ha.below
  clear own k1 k69
  refine Za ?_
  refine Zk8 1 2 4 7 8 63 64 65 (Post.block_normal (Ztr ?_))
  refine Za_ ?_
  refine Zm ?_
  refine Zk8 1 2 4 7 8 63 64 65 ?_
  refine Post.round (i+1,v2,L++[(101,a,b)]) ⟨rfl,rfl,rfl,rfl,rfl,rfl,rfl,trivial⟩ ⟨by dsimp only;omega,bel,?_,bx,?_⟩ (by dsimp only;omega)
  ·dsimp only
   rw[List.map_append,hL,List.replicate_succ']
   rfl
  ·dsimp only
   rw[List.map_append]
   exact own2
 obtain rfl:i=ne:=by omega
 refine Cd.exit (Post.then_exit (Post.round_exit (Post.block_exit (Zts (Zsr ?_)))))
 refine Zm ?_
 refine Zm ?_
 refine Zk10 1 2 4 7 8 63 64 65 72 73 (Zt (Cd.block ?_))
 refine Cd.loop (σ:=Nat × Value × List (Nat × Nat × Nat)) (fun s=>[(1, .pointer (some ⟨g1,0,none⟩)),(2, .pointer (some ⟨g2,0,none⟩)),(4, .pointer (some ⟨g4,0,none⟩)),(7, .int .i64 (ns:Int)),(8,s.2.1),(72, .int .i64 (ns:Int)),(73, .int .i64 (s.1:Int))])
  (fun s wr=>s.1≤ns∧Below w7.heap.size w7 wr∧s.2.2.map (·.1)=List.replicate i 101++List.replicate s.1 102∧BoxL K g4 s.2.2 wr∧Own wr w7.heap.size 1 1 s.2.1 (i+s.1) (s.2.2.map partV)) (fun s=>ns-s.1) (0,v,L) ⟨Nat.zero_le _,bel,by simpa using hL,bx,own⟩ ⟨rfl,rfl,rfl,rfl,rfl,rfl,rfl,trivial⟩ ?_
 clear k1
 clear bel own bx
 rintro⟨j,v,L⟩ wr ⟨hj,bel,hL,bx,own⟩
 dsimp only at hj hL bx own⊢
 have k1:=k1o.step bel
 refine Zsr ?_
 refine Zv (Runs.lss rfl rfl rfl) ?_
 refine Zk8 1 2 4 7 8 72 73 74 (Zts ?_)
 refine Cd.condD rfl (fun hc=> ?_) (fun hc=> ?_)
 ·skip
  refine Cd.skip (Zts (Cd.block (Zr ?_)))
  refine Zm ?_
  refine Zv (Runs.loadB rfl rfl Tryz.underlying60 rfl k1 rfl) ?_
  refine Zc (Ze Tryz.func56) (subV_any K g4 _) ?_
  rintro e w8 ⟨⟨a,b,rfl,hbx⟩,hb8⟩
  refine⟨_,rfl,?_⟩
  replace bel:=bel.step hb8
  replace own:=own.step hb8
  replace bx:=bx.step hb8
  replace k1:=k1.step hb8
  replace bx:=bx.snoc hbx
  refine Seq.slice (vs:=[_]) (s:=1) rfl rfl rfl Tryz.underlying101 (by kernel_rfl) (zero_func__) (by omega) (by omega) ⟨rfl,trivial⟩ rfl rfl rfl ?_
  intro g78 w8 n78
  have e78:=Nat.le_trans bel.size n78.ge
  have l78:=Nat.lt_of_lt_of_le k1.lt n78.ge
  replace bel:=bel.step n78.below
  replace own:=own.step n78.below
  replace bx:=bx.step n78.below
  replace k1:=k1.step n78.below
  have k78:=n78.blk
  refine Seq.append rfl rfl rfl Tryz.underlying101 (by kernel_rfl) zero_func__ rfl (by decide) (b:=8) (by kernel_rfl) own (Reads.blk k78 1 rfl) (by intro x hx;simp[flatC,Value.cells,partV] at hx;rw[hx];rfl) bel.size (by simp only[maxLen];omega) (by omega) rfl rfl rfl ?_
  intro v2 wa own2 ha
  replace bx:=bx.app own ha
  replace bel:=bel.trans ha.below
  clear own k1 k78
  refine Za ?_
  refine Zk8 1 2 4 7 8 72 73 74 (Post.block_normal (Ztr ?_))
  refine Za_ ?_
  refine Zm ?_
  refine Zk8 1 2 4 7 8 72 73 74 ?_
  refine Post.round (j+1,v2,L++[(102,a,b)]) ⟨rfl,rfl,rfl,rfl,rfl,rfl,rfl,trivial⟩ ⟨by dsimp only;omega,bel,?_,bx,?_⟩ (by dsimp only;omega)
  ·dsimp only
   rw[List.map_append,hL,List.replicate_succ',List.append_assoc]
   rfl
  ·dsimp only
   rw[List.map_append]
   exact own2
 obtain rfl:j=ns:=by omega
 refine Cd.exit (Post.then_exit (Post.round_exit (Post.block_exit (Ztq ?_))))
 refine Zv (Runs.loadB rfl rfl Tryz.underlying60 rfl k1 rfl) ?_
 refine Zm ?_
 have hsr:=bel.size
 have pw9:=pwl.step hle bel
 have k4:=k4o.step bel
 have k2:=k2o.step bel
 have hgg4:K.g<g4:=by omega
 obtain⟨AP,cP,rfl,-⟩:=own.reads
 obtain⟨R,hR⟩:∃R,R=withinP K.ws (onesP E0 T0 i j) (p+1) d:=⟨_,rfl⟩
 rw[←hR] at hq
 have hneR:R≠ .out:=Rs.bind_ne (by rw[←hq];exact hne)
 obtain⟨h1i,h2j,hop64⟩:=hbd
 have hLl:L.length=i+j:=by
  have:=congrArg List.length hL
  simpa using this
 have hol:(onesP E0 T0 i j).length=i+j:=by unfold onesP;simp
 have hexl:∀xs:List Part,(exprsOf xs).length≤xs.length∧(termsOf2 xs).length≤xs.length:=fun xs=>⟨List.length_filterMap_le _ _,List.length_filterMap_le _ _⟩
 have hfl:(L.map fun x=>(x.1,[Value.pointer (some ⟨x.2.1,0,none⟩),Value.pointer (some ⟨x.2.2,0,none⟩)])).length=i+j:=by rw[List.length_map,hLl]
 have hget:∀ {q f:Nat} {cp:List Value},(L.map fun x=>(x.1,[Value.pointer (some ⟨x.2.1,0,none⟩),Value.pointer (some ⟨x.2.2,0,none⟩)]))[q]? =some (f,cp)→∃x,L[q]? =some x∧x∈L∧f=x.1∧cp=[Value.pointer (some ⟨x.2.1,0,none⟩),Value.pointer (some ⟨x.2.2,0,none⟩)]:=fun {q f cp} h=>by
  rw[List.getElem?_map] at h
  cases hx:L[q]? with
  |none=>rw[hx] at h;cases h
  |some x=>
   rw[hx] at h
   injection h with h
   injection h with e1 e2
   exact⟨x,rfl,List.mem_of_getElem? hx,e1.symm,e2.symm⟩
 have hfid:∀ {q:Nat} {x:Nat × Nat × Nat},L[q]? =some x→(q<i∧x.1=101)∨(i≤q∧x.1=102):=fun {q x} hx=>by
  have h1:(L.map (·.1))[q]? =some x.1:=by rw[List.getElem?_map,hx];rfl
  rw[hL] at h1
  rcases Nat.lt_or_ge q i with hqi|hqi
  ·rw[List.getElem?_append_left (by simpa using hqi),List.getElem?_replicate,if_pos hqi] at h1
   injection h1 with h1
   exact .inl ⟨hqi,h1.symm⟩
  ·rw[List.getElem?_append_right (by simpa using hqi),List.length_replicate] at h1
   have hlt:=(List.getElem?_eq_some_iff.1 h1).1
   rw[List.length_replicate] at hlt
   rw[List.getElem?_replicate,if_pos hlt] at h1
   injection h1 with h1
   exact .inr ⟨hqi,h1.symm⟩
 have hone:∀ {q:Nat} {one:Nat→Nat→Rs Part},(onesP E0 T0 i j)[q]? =some one→(q<i→one=fun p d=>(E0 p d).map .inl)∧(i≤q→one=fun p d=>(T0 p d).map .inr):=fun {q one} h=>by
  unfold onesP at h
  refine⟨fun hqi=> ?_,fun hqi=> ?_⟩
  ·rw[List.getElem?_append_left (by simpa using hqi),List.getElem?_replicate,if_pos hqi] at h
   injection h with h
   exact h.symm
  ·rw[List.getElem?_append_right (by simpa using hqi),List.length_replicate] at h
   have hlt:=(List.getElem?_eq_some_iff.1 h).1
   rw[List.length_replicate] at hlt
   rw[List.getElem?_replicate,if_pos hlt] at h
   injection h with h
   exact h.symm
 have hwi:=within_any K hK g4 (onesP E0 T0 i j) (L.map fun x=>(x.1,[Value.pointer (some ⟨x.2.1,0,none⟩),Value.pointer (some ⟨x.2.2,0,none⟩)])) AP cP
  (fun xs W=>Kp wr W∧∃evs tvs vE vT S,Blk W g4 25 #[.int .i64 op, .string (strOf []),vE,vT]∧ArgQ W g4 g4 (exprsOf xs) (termsOf2 xs) evs tvs vE vT S) (p+1) d wr pw9 (Nat.le_of_lt k4.lt) (by rw[hfl,hol]) (by rw[hol];omega)
  ⟨Kp.refl wr,[],[],_,_,_,k4,ArgQ.nil wr g4 g4⟩
  (fun xs W W' p d hM hp hf=>by
   obtain⟨kp,evs,tvs,vE,vT,S,kt,aq⟩:=hM
   exact⟨kp.fz hp.blk hf,evs,tvs,vE,vT,S,kt.fz hf (by omega),aq.fz hf hgg4⟩)
  (fun xs W q f cp hM hj=>by
   obtain⟨kp,-⟩:=hM
   obtain⟨x,hx,hxm,rfl,rfl⟩:=hget hj
   obtain⟨A',c',hv,hr⟩:=(kp.own own).reads
   injection hv with hv _ _
   subst hv
   have hql:=(List.getElem?_eq_some_iff.1 hx).1
   obtain⟨ad,hA,-,hc⟩:=hr.2 (by omega)
   exact⟨ad,hA,hc q _ (by rw[List.getElem?_map,hx];rfl)⟩)
  (fun q f cp hj=>by
   obtain⟨x,hx,hxm,rfl,rfl⟩:=hget hj
   rcases hfid hx with ⟨-,e⟩|⟨-,e⟩
   ·rw[e];exact eg_cond
   ·rw[e];exact eg_sub)
  (fun q f cp one hj ho xs W p' hxl hpw hW hM hne1=>by
   obtain⟨x,hx,hxm,rfl,rfl⟩:=hget hj
   have hql:=(List.getElem?_eq_some_iff.1 hx).1
   obtain⟨o1,o2⟩:=hone ho
   obtain⟨kp,evs,tvs,vE,vT,S,kt,aq⟩:=hM
   obtain⟨bx1,bx2⟩:=bx x hxm
   obtain⟨l1,l2⟩:=hexl xs
   rcases hfid hx with ⟨hqi,e⟩|⟨hqi,e⟩
   ·have ho1:=o1 hqi
    subst ho1
    have hne2:E0 p' (d+1)≠ .out:=Rs.bind_ne hne1
    rw[e]
    exact(condC_any K hK g4 g4 x.2.1 x.2.2 (d+1) p' op [] (exprsOf xs) (termsOf2 xs) evs tvs vE vT S E0 W hpw hgg4 (Nat.le_refl _) hW kt (kp.blk bx1) (kp.blk bx2) aq (by omega) (fun W' h1 _=>hE p' (d+1) W' h1 hne2) hne2).mono fun e W' hq=>hq.map fun a v W' h=>⟨kp.trans h.1,by
     have e1:exprsOf (xs++[.inl a])=exprsOf xs++[a]:=by unfold exprsOf;rw[List.filterMap_append];rfl
     have e2:termsOf2 (xs++[.inl a])=termsOf2 xs:=by unfold termsOf2;rw[List.filterMap_append];simp
     rw[e1,e2]
     exact h.2⟩
   ·have ho2:=o2 hqi
    subst ho2
    have hne2:T0 p' (d+1)≠ .out:=Rs.bind_ne hne1
    rw[e]
    exact(subC_any K hK g4 g4 x.2.1 x.2.2 (d+1) p' op [] (exprsOf xs) (termsOf2 xs) evs tvs vE vT S T0 W hpw hgg4 (Nat.le_refl _) hW kt (kp.blk bx1) (kp.blk bx2) aq (by omega) (fun W' h1 _=>hT p' (d+1) W' h1 hne2) hne2).mono fun e W' hq=>hq.map fun a v W' h=>⟨kp.trans h.1,by
     have e1:exprsOf (xs++[.inr a])=exprsOf xs:=by unfold exprsOf;rw[List.filterMap_append];simp
     have e2:termsOf2 (xs++[.inr a])=termsOf2 xs++[a]:=by unfold termsOf2;rw[List.filterMap_append];rfl
     rw[e1,e2]
     exact h.2⟩)
  (by rw[←hR];exact hneR)
 rw[←hR,hfl] at hwi
 rcases Rs.ok_or hneR with ⟨q,ov,hr⟩|⟨xs,q,hr⟩
 ·rw[hr] at hwi hq
  refine Seq.callB (Ze Tryz.func51) rfl hwi ?_
  rintro e w9 ⟨hf,rfl,d6,hp6⟩
  refine⟨_,rfl,fun a ha=>⟨ha.defers,?_⟩⟩
  rw[hq]
  exact⟨(bel0.step bel).trans (hf.less (by omega)),rfl,d6,hp6⟩
 have hxl:=withinP_len (hR.symm.trans hr)
 rw[hol] at hxl
 obtain⟨l1,l2⟩:=hexl xs
 rw[hr] at hwi hq
 replace hq:termP K.ws E0 T0 p d= .ok (.mk op [] (exprsOf xs) (termsOf2 xs)) q:=hq
 refine Zc (Ze Tryz.func51) (hwi) ?_
 rintro e wq ⟨hf,v6,rfl,pwq,kpq,evs,tvs,vE,vT,S,k4q,aqq⟩
 refine⟨_,rfl,?_⟩
 have k2q:Blk wq g2 25 #[.int .i64 0, .string {data:= #[]}, .slice none 0 0, .slice none 0 0]:=by
  have h2:Blk wr g2 25 #[.int .i64 0, .string {data:= #[]}, .slice none 0 0, .slice none 0 0]:=k2
  have h1:=hf.block g2 (by omega) (by omega)
  unfold Blk at h2⊢
  rw[h1]
  exact h2
 have belq:Fz w.heap.size K.g w wq:=(bel0.step bel).trans (hf.less (by omega))
 have hrep:=aqq.tm op [] hop64 (by simp) (by simp) (by omega) (by omega)
 have hbn:=aqq.bounds
 obtain⟨AE,cE,hvE,-⟩:=aqq.ownE.reads
 obtain⟨AT,cT,hvT,-⟩:=aqq.ownT.reads
 subst hvE hvT
 clear bel k1 k2 k4
 have bel:=belq
 have k2:=k2q
 have k4:=k4q
 have hlt2:=k2.lt
 refine Zk8 1 2 4 7 8 72 73 74 (Ztq ?_)
 refine Zv (Runs.loadW rfl rfl Tryz.underlying25 rfl k4 (m:=4) (by kernel_rfl) rfl) ?_
 refine Zo 4 k2 ?_
 intro w8 pw8
 replace bel:=bel.put k2 pw8 e2
 replace k4:=k4.put pw8 (by omega)
 replace k2:=pw8.blk
 refine Zk8 1 2 4 7 8 72 73 74 (Zt (Cd.ret ?_))
 refine Post.endC rfl rfl k2 Tryz.underlying25 rfl (m:=4) (by kernel_rfl) rfl (.inl rfl) ?_
 rw[hq]
 have hsz:=pw8.size
 refine⟨bel,_,rfl,⟨pwq.blk.put pw8 (by omega),pw.rd.below (bel.below (by omega) hle),pwq.p_le,pwq.d_le⟩,_,hrep.mono (fun _ h=>h) (fun a ha=>World.cell?_of_block (pw8.grown.block _ (hbn _ ha).2.1 (fun e=>by injection e with e;have:=(hbn _ ha).1;omega))),fun b hb=> ?_⟩
 obtain⟨h1,h2,-⟩:=hbn b hb
 exact⟨by omega,by omega⟩
theorem hasT_all (K:Ctx)(hK:K.Ok):∀n,HasT K (fuelT K.ws n)
 |0=>fun p d W _ h=>absurd rfl h
 |n+1=>fun p d W hp hne=>term_any K hK ((fuelP K.ws (n+1)).E 0) (fuelT K.ws n) (fun p d W hp hne=>(has_all K hK (n+1) (n+1) (Nat.le_refl _)).2 0 (by omega) p d W hp hne) (hasT_all K hK n) p d W hp hne
end Go.Proofs.YtaamkfajnpobfaaGreat
namespace Go.Proofs.YtaamkfajnpobfaaGreat
open Go.RowKit
theorem catch_idle (g:Nat)(w:World):CallsD Tryz.prog 97 #[.pointer (some ⟨g,0,none⟩)] .returning w fun e u' w'=>e= .returned (.tuple #[])∧u'= .returning∧w'=w:=by
 refine callsD_of_wpS Tryz.func97 rfl fun c₀ cs hu=> ?_
 apply wpS_seq
 apply wpS_region
 simp[wpOpsS,go_sem,recoverD,hu,Tryz.ntmps97,Exit.thenS]
 apply wpS_seq
 apply wpS_region
 simp[wpOpsS,go_sem,recoverD,hu,Exit.thenS,Tryz.underlying20]
 refine wpS_cond (t:=false) (by simp[Act.eval,Array.replicate]) ?_
 simp only[Bool.false_eq_true,if_false]
 refine wpS_of_wp (wp_skip ?_)
 cases c₀
 simp_all [bodyPostS,results,Tryz.results97]
theorem zero_parse_stop:zeroIs Tryz.prog 145=some (some (.agg #[])):=by kernel_rfl
theorem Runs.typeAssert {P:Program}{E:Operand→Option Value}{o:Oper}{w:World}{x:Operand}{T T':TypeId}{b:Bool}{v u:Value}(ho:o.op= .typeAssert x T T' b)(hx:E x=some v)(hr:(Instr.typeAssert v T T' b).run P w= .ok u w):Runs P E o w u w:=fun ρ h=>by
 unfold execOp;simp only[ho];rw[h _ _ hx];simp only[Sem.run_bind,hr,Result.andThen_ok];rfl
theorem Cd.at_ {P:Program}{c:Code}{Q:Exit→Act→World→Prop}{n:Nat}{F:List (Nat × Value)}{w:World}{a:Act}(h:Cd P c Q n F w)(ha:Fr n F a):c.wp P Q a w:=h a ha
theorem catch_stop (g:Nat)(b:Bool)(w:World)(hb:Blk w g 4 #[.bool b]):CallsD Tryz.prog 97 #[.pointer (some ⟨g,0,none⟩)] (.panicking stopCh) w fun e u' w'=>
  e= .returned (.tuple #[])∧u'= .panicking [{v:= .iface 145 (.agg #[]),recovered:=true}]∧Blk w' g 4 #[.bool false]∧w.grownBy w' (some g):=by
 refine callsD_of_wpS Tryz.func97 rfl fun c₀ cs hu=> ?_
 unfold stopCh at hu
 apply wpS_seq
 apply wpS_region
 simp[wpOpsS,go_sem,recoverD,hu,Tryz.ntmps97,Exit.thenS]
 apply wpS_seq
 apply wpS_region
 simp[wpOpsS,go_sem,recoverD,hu,Exit.thenS,Tryz.underlying20]
 refine wpS_cond (t:=true) (by simp[Act.eval,Array.replicate]) ?_
 simp only[if_true]
 refine wpS_of_wp ?_
 refine Cd.at_ (n:=15) (F:=[(0, .pointer (some ⟨g,0,none⟩)),(1, .iface 145 (.agg #[]))]) ?_ ⟨by simp,rfl,fun t v ht=> ?_⟩
 ·refine Cd.seq ?_
  refine Zsr ?_
  refine Zm ?_
  refine Zv (Runs.typeAssert (u:= .tuple #[.agg #[], .bool true]) rfl rfl (by kernel_rfl)) ?_
  refine Zm ?_
  refine Zv (Runs.extract rfl rfl rfl) ?_
  refine Zv (Runs.extract rfl rfl rfl) ?_
  refine Zl zero_parse_stop ?_
  intro g2 w1 n2
  have hb1:=hb.step n2.below
  refine Seq.storeN (m:=0) rfl rfl rfl rfl (by kernel_rfl) rfl trivial n2.blk (by simp[Value.cells]) rfl rfl ?_
  intro w2 p2
  have hne:g≠g2:=by have:=hb.lt;have:=n2.ge;omega
  have hb2:=hb1.put p2 hne
  refine Za ?_
  refine Seq.nil (Ztq ?_)
  refine Zm ?_
  refine Zv (Runs.not rfl rfl) ?_
  refine Seq.nil (Zt ?_)
  refine Cd.condF rfl rfl ?_
  refine Cd.skip (Ztr ?_)
  refine Zq hb2 ?_
  intro w3 p3
  refine Seq.nil ?_
  intro a ha
  have hgr:w.grownBy w3 (some g):=by
   have h1:w.grownBy w1 (some g):=⟨n2.below.os,n2.below.tape,n2.below.output,n2.below.size,fun k hk _=>n2.below.block k hk⟩
   have h2:w1.heap.size=w2.heap.size:=p2.size.symm
   refine⟨p3.grown.os.trans (p2.grown.os.trans h1.os),p3.grown.tape.trans (p2.grown.tape.trans h1.tape),p3.grown.output.trans (p2.grown.output.trans h1.output),by have:=h1.size;have:=p2.size;have:=p3.size;omega,fun k hk hne2=> ?_⟩
   have hge:=n2.ge
   have hs1:=h1.size
   rw[p3.grown.block k (by omega) hne2,p2.grown.block k (by omega) (fun e=>by injection e with e;omega)]
   exact h1.block k hk hne2
  refine⟨ha.defers,_,?_, .tuple #[],?_,rfl,rfl,p3.blk,hgr⟩
  ·cases c₀
   simp_all
  ·exact results_none rfl _ _ _
 rcases look_put ht with ⟨rfl,rfl⟩|⟨-,ht⟩
 ·simp
 rcases look_put ht with ⟨rfl,rfl⟩|⟨-,ht⟩
 ·simp
 cases ht
end Go.Proofs.YtaamkfajnpobfaaGreat
namespace Go.Proofs.YtaamkfajnpobfaaGreat
open Go.RowKit
def dcallV (g:FuncId)(cap:List Value):Deferred:= {target:= .fn (.func g) cap.toArray,args:= #[]}
theorem Seq.deferV {P:Program}{ops:Array Oper}{Q:Exit→Act→World→Prop}{rest:List Oper}{o:Oper}{n t:Nat}{F:List (Nat × Value)}{w:World}{g:FuncId}{cap:List Value}{ts:Array TypeId}(ho:o.op= .defer {callee:= .value (.tmp t),args:= #[],argTypes:=ts}) (hx:evF F (.tmp t)=some (.func (.func g) #[] cap.toArray)) (hg:o.guard=none) (hd:o.dst=none)
  (h:∀I:Inhabited (List Deferred),I.default=[dcallV g cap]→ @Seq I P ops Q rest n F w):Seq P ops Q (o::rest) n F w:=by
 intro a ha
 refine wpList_plain hg fun K hK=> ?_
 have hr:(execOp a.eval o).run P w= .ok (.defer (dcallV g cap)) w:=by
  unfold execOp
  have hf:a.eval (.tmp t)= .func (.func g) #[] cap.toArray:=ha.ev _ _ hx
  simp only[ho,resolve,hf,Deferred.ofValue,Sem.run_bind,Sem.run_pure,Result.andThen_ok]
  simp[dcallV]
 unfold Oper.wp
 rw[hr,Oper.upon_defer,hd]
 have hD:dcallV g cap::a.defers=[dcallV g cap]:=by rw[ha.defers];rfl
 exact hK _ _ (h ⟨[dcallV g cap]⟩ rfl _ (@Fr.mk ⟨[dcallV g cap]⟩ n F _ ha.size hD ha.slot))
theorem results_bool {P:Program}{fn:Func}{p g:Nat}{ty t:TypeId}{b:Bool}{w:World}(h:fn.results= #[.cell p ty]) (tmps:Array Value) (hp:tmps[p]? =some (.pointer (some ⟨g,0,none⟩))) (hu:P.underlying ty=some .bool) (hb:Blk w g t #[.bool b]):(results fn tmps).run P w= .ok (.bool b) w:=by
 have hagg:(isAgg ty).run P w= .ok false w:=by
  unfold isAgg
  rw[Sem.run_bind,run_underlying hu w]
  rfl
 have hc:w.cell? ⟨g,0,none⟩=some (.bool b):=by rw[hb.cell 0];rfl
 simp[results,h,hp,asAddr,loadVar,Sem.run_bind,hagg,go_sem,hc]
def RunR {α:Type}(K:Ctx)(h:Nat)(w:World)(r:Rs α)(okv:α→World→Prop)(e:Ending)(w':World):Prop:=
 Fz h K.g w w'∧Kp w w'∧match r with
 | .out=>False
 | .bad p ov=>e= .returned (.bool false)∧∃d,PW K w' p d ov
 | .ok a p=>e= .returned (.bool (decide (p=K.ws.length)))∧(∃d,PW K w' p d false)∧okv a w'
def PRk {α:Type}(K:Ctx)(h:Nat)(W:World)(r:Rs α)(okv:α→World→Prop)(e:Ending)(W':World):Prop:=match r with
 | .out=>False
 | .bad p ov=>Fz W.heap.size K.g W W'∧e= .panicked stopCh∧∃d,PW K W' p d ov
 | .ok a p=>Fz h K.g W W'∧Kp W W'∧(∃v,e= .returned v)∧PW K W' p 0 false∧okv a W'
theorem runP_any {α:Type}(K:Ctx)(hK:K.Ok)(f:Nat)(cp:List Value)(h:Nat)(r:Rs α)(okv:World→α→World→Prop)(ok2:α→World→Prop)(w:World)(pw:PW K w 0 0 false)(hh:h≤w.heap.size)(hne:r≠ .out)(eg:∀args w,(callFunc f args).run Tryz.prog w= .ok (.enter f args) w)
  (hok:∀a W0 W W' g,okv W0 a W→w.heap.size≤g→g<W0.heap.size→W0.heap.size≤W.heap.size→W.heap.size≤W'.heap.size→(∀k,k<W.heap.size→k≠g→W'.heap[k]? =W.heap[k]?)→ok2 a W')
  (hc:∀W,Below w.heap.size w W→PW K W 0 0 false→Calls Tryz.prog f cp.toArray W (PRk K h W r (okv W))):
  Calls Tryz.prog 47 #[.pointer (some ⟨K.g,0,none⟩), .func (.func f) #[] cp.toArray] w (RunR K h w r ok2):=by
 have bel:=Below.refl w.heap.size w
 have hle:=hK.le
 have hlt:=pw.blk.lt
 have hen:∀args w,(callFunc 97 args).run Tryz.prog w= .ok (.enter 97 args) w:=fun args w=>run_enter Tryz.func97 (by kernel_rfl) rfl args w
 refine Calls.startD 18 Tryz.func47 rfl rfl rfl ?_
 refine Zsr ?_
 refine Zl zero_bool ?_
 intro g4 w1 n4
 have e4:=Nat.le_trans bel.size n4.ge
 replace bel:=bel.step n4.below
 have k4:=n4.blk
 refine Zk3 0 1 4 (Ztq ?_)
 refine Zv (Runs.makeFunc (v:= .func (.func 97) #[] #[.pointer (some ⟨g4,0,none⟩)]) rfl (show evL _ _=some [] from rfl) (show evL _ _=some [.pointer (some ⟨g4,0,none⟩)] from rfl) rfl) ?_
 refine Seq.deferV (cap:=[.pointer (some ⟨g4,0,none⟩)]) rfl rfl rfl rfl ?_
 intro I hI
 have hcl:=hc _ bel (pw.step hle bel)
 have hltc:=k4.lt
 have kp:Kp w w1:=(Kp.refl w).step bel
 have hs1:=bel.size
 refine Zk3 0 1 4 (Ztq ?_)
 refine Zm ?_
 rcases Rs.ok_or hne with ⟨q,ov,hr⟩|⟨x,q,hr⟩
 ·rw[hr] at hcl⊢
  refine Seq.callB (Enters.value (first:=[]) (cap:=cp) rfl rfl rfl eg) rfl hcl ?_
  rintro e w6 ⟨hf,rfl,d6,hp6⟩
  refine⟨_,rfl,fun a ha=> ?_⟩
  have k46:=k4.fz hf (by omega)
  show Leaves Tryz.prog _ a.tmps _ a.defers (.panicking stopCh) w6
  rw[ha.defers,hI]
  refine leaves_cons (by simp) (f:=97) (args:= #[.pointer (some ⟨g4,0,none⟩)]) (by simp[invoke,hen]) ((catch_stop g4 false w6 k46).mono fun e u' w' ⟨h1,h2,h3,h4⟩=> ?_)
  subst h1 h2
  have hfw:Fz h K.g w w6:=(Fz.of (bel.mono hh)).trans (hf.less (by omega))
  have hg4:Fz h K.g w6 w':=⟨h4.os,h4.tape,h4.output,h4.size,fun k hk _=>by
   have:=hf.size
   exact h4.block k (by omega) (fun e=>by injection e with e;omega)⟩
  have kp6:Kp w w6:=kp.fz (pw.step hle bel).blk hf
  refine⟨_,results_bool rfl a.tmps (ha.slot 4 _ rfl) Tryz.underlying4 h3,hfw.trans hg4,⟨Nat.le_trans kp6.size h4.size,fun k t cs hb h1 h2 h3'=>(kp6.keep k t cs hb h1 h2 h3').grown h4 (fun e=>by injection e with e;have:=hb.lt;omega)⟩,rfl,d6,hp6.blk.grown h4 (fun e=>by injection e with e;omega),hp6.rd.below ⟨h4.os,h4.tape,h4.output,h4.size,fun k hk=>h4.block k (by have:=hp6.blk.lt;omega) (fun e=>by injection e with e;omega)⟩,hp6.p_le,hp6.d_le⟩
 rw[hr] at hcl⊢
 refine Seq.call (Enters.value (first:=[]) (cap:=cp) rfl rfl rfl eg) rfl rfl rfl hcl ?_
 rintro e wq ⟨hf,kpq,⟨v,rfl⟩,pwq,hov⟩
 refine⟨_,rfl,?_⟩
 have hbel1:=bel
 clear bel
 have hfw:Fz h K.g w wq:=(Fz.of (hbel1.mono hh)).trans hf
 have kp6:=kp.trans kpq
 have k46:=kpq.blk k4
 have hg4:g4≠K.g:=by omega
 clear k4
 have k4:=k46
 have k99:=pwq.blk
 have bel:=Below.refl wq.heap.size wq
 have loc:=Fz.refl wq.heap.size g4 wq
 have e4':g4=g4:=rfl
 refine Zk3 0 1 4 (Zts ?_)
 refine Cd.draw 10 (by kernel_rfl) [] (.inl rfl) rfl Grow Grow.refl (fun _ _ _=>Grow.trans) ?_
 intro w2 hw2 zw2
 replace bel:=bel.step hw2
 replace k99:=k99.step hw2
 replace k4:=k4.step hw2
 have zbel:=bel.size
 have zlt:=k4.lt
 refine Zdm ?_
 refine Zd (fun w hG=>Runs.nilCheck rfl rfl) ?_
 refine Zd (fun w hG=>Runs.fieldB 1 rfl rfl Tryz.underlying92 rfl (by kernel_rfl)) ?_
 refine Zd (fun w hG=>Runs.loadB rfl rfl Tryz.underlying3 rfl (k99.step hG) rfl) ?_
 refine Zdm ?_
 refine Zd (fun w hG=>Runs.nilCheck rfl rfl) ?_
 refine Zd (fun w hG=>Runs.fieldB 0 rfl rfl Tryz.underlying92 rfl (by kernel_rfl)) ?_
 refine Zd (fun w hG=>Runs.loadB rfl rfl Tryz.underlying88 rfl (k99.step hG) rfl) ?_
 refine Zd (fun w hG=>Runs.len rfl rfl Tryz.underlying88) ?_
 refine Zd (fun w hG=>Runs.eqlI rfl rfl rfl) ?_
 refine Dr.nil ?_
 refine FinX.done (F':=[(0,_),(1,_),(4,_),(17,_)]) rfl ⟨rfl,rfl,rfl,rfl,trivial⟩ ?_
 intro w3 hw3 fw3
 replace bel:=bel.step hw3
 replace k99:=k99.step hw3
 replace k4:=k4.step hw3
 have hbw:=bel
 have hsw:=bel.size
 have hlt4:=k4.lt
 have k4q:=k46
 refine Zq k4 ?_
 intro w4 pw4
 replace k99:=k99.put pw4 (by omega)
 replace k4:=pw4.blk
 refine Zk3 0 1 4 (Zt (Cd.ret ?_))
 intro a ha
 show Leaves Tryz.prog _ a.tmps _ a.defers .returning _
 rw[ha.defers,hI]
 refine leaves_cons (by simp) (f:=97) (args:= #[.pointer (some ⟨g4,0,none⟩)]) (by simp[invoke,hen]) ((catch_idle g4 _).mono fun e u' w' ⟨h1,h2,h3⟩=> ?_)
 subst h1 h2 h3
 have hgr:=pw4.grown
 have hsz:=pw4.size
 have hblk:∀k,k<wq.heap.size→k≠g4→w'.heap[k]? =wq.heap[k]? :=fun k hk hne=>(hgr.block k (by omega) (fun e=>hne (by injection e))).trans (hbw.block k hk)
 have hfe:Fz h K.g wq w':=⟨hgr.os.trans hbw.os,hgr.tape.trans hbw.tape,hgr.output.trans hbw.output,by omega,fun k hk _=>hblk k (by have:=hfw.size;omega) (by omega)⟩
 have hdd:(decide ((q:Int)=(K.ws.length:Int)))=decide (q=K.ws.length):=by rw[decide_eq_decide];omega
 refine⟨_,results_bool rfl a.tmps (ha.slot 4 _ rfl) Tryz.underlying4 k4,hfw.trans hfe,⟨Nat.le_trans kp6.size (by omega),fun k t cs hb h1 h2 h3'=> ?_⟩,?_,⟨0,k99,pwq.rd.below (B:=K.B) ⟨hfe.os,hfe.tape,hfe.output,hfe.size,fun k hk=>hblk k (by omega) (by omega)⟩,pwq.p_le,pwq.d_le⟩,hok x _ wq _ g4 hov (by omega) hltc kpq.size (by omega) hblk⟩
 ·have hb2:=kp6.keep k t cs hb h1 h2 h3'
  have:=hb.lt
  have h9:=hblk k hb2.lt (by omega)
  unfold Blk at hb2⊢
  rw[h9]
  exact hb2
 ·show Ending.returned (.bool (decide ((q:Int)=(K.ws.length:Int))))=_
  rw[hdd]
end Go.Proofs.YtaamkfajnpobfaaGreat
namespace Go.Proofs.YtaamkfajnpobfaaGreat
open Go.RowKit
def stepB (b:Bool)(c:Nat):Bool:=if c=35 then true else if c=10 then false else b
def stK (l:List Nat)(b:Bool):Nat→Bool
 |0=>b
 |k+1=>stepB (stK l b k) (l.getD k 0)
def Chain (l:List Nat):List Wd→Nat→Prop
 | [],q=>q+blankN (l.drop q)=l.length
 |x::r,q=>x.pos=q+blankN (l.drop q)∧0<x.text.length∧x.pos+x.text.length≤l.length∧x.text=(l.drop x.pos).take x.text.length∧Chain l r (x.pos+x.text.length)
section
variable {P:Program} {E:Operand→Option Value} {o:Oper} {w:World} {x:Operand} {T:TypeId}
end
end Go.Proofs.YtaamkfajnpobfaaGreat
namespace Go.Proofs.YtaamkfajnpobfaaGreat
theorem runN_stop_at (p:Nat→Bool)(t r:List Nat)(c:Nat)(ht:∀x∈t,p x=true)(hc:p c=false):runN p (t++c::r)=t.length:=by
 induction t with
 |nil=>rw[List.nil_append,runN_cons,hc];rfl
 |cons x t ih=>rw[List.cons_append,runN_cons,if_pos (ht x (by simp)),ih (fun y hy=>ht y (by simp[hy]))];rfl
theorem numZ_none {l:List Nat}{c:Nat}(hc:c∈l)(h:digB c=false):numZ l= -1:=by
 unfold numZ
 rw[if_neg]
 intro ha
 have:=List.all_eq_true.1 ha c hc
 rw[h] at this;cases this
theorem sign_again:∀s∈signsL,∀r:List Nat,signW (s++32::r)=some s∧∃c q,s=c::q∧digB c=false∧letB c=false∧blankB c=false∧c≠35:=by
 intro s hs r
 simp only[signsL,List.mem_cons,List.not_mem_nil,or_false] at hs
 rcases hs with rfl|rfl|rfl|rfl|rfl|rfl|rfl|rfl|rfl|rfl|rfl|rfl|rfl|rfl|rfl|rfl<;>
  exact⟨by simp[signW,signsL],_,_,rfl,by decide,by decide,by decide,by decide⟩
theorem nextW_cons (c:Nat)(r:List Nat):nextW (c::r)=if digB c then(if dayOk (c::r) then some (2,(c::r).take 10,dateZ ((c::r).take 10)) else(amt0 ((c::r).take (runN partB (c::r)))).map fun v=>(1,(c::r).take (runN partB (c::r)),v))
  else if letB c then(if runN partB (c::r)≤16 then some (3,(c::r).take (runN partB (c::r)),0) else none)
  else(signW (c::r)).map fun s=>(0,s,0):=rfl
def sepL (b:Bool):List Nat:=if b then [32,35,32,40,10] else [32]
def joinL (b:Bool)(ws:List Wd):List Nat:=ws.flatMap fun x=>x.text++sepL b
def WdOk (x:Wd):Prop:=∃l,nextW l=some (x.kind,x.text,x.n)
end Go.Proofs.YtaamkfajnpobfaaGreat
namespace Go.Proofs.YtaamkfajnpobfaaGreat
open Go.RowKit
def WdB (x:Wd):Prop:=(x.kind=0∧x.text∈signsL∧x.n=0)∨(x.kind=1∧0≤x.n∧x.n≤9223372036854775807)∨(x.kind=2∧0≤x.n∧x.n≤2932896)∨(x.kind=3∧namedB x.text=true∧x.n=0)
theorem runN_full (p:Nat→Bool)(t:List Nat)(ht:∀x∈t,p x=true):runN p t=t.length:=by
 induction t with
 |nil=>rfl
 |cons x t ih=>rw[runN_cons,if_pos (ht x (by simp)),ih (fun y hy=>ht y (by simp[hy]))];rfl
theorem ofZ_bd {y m d:Int}(h:ofOk y m d=true):0≤ofZ y m d∧ofZ y m d≤2932896:=by
 unfold ofOk at h
 simp only[Bool.and_eq_true,decide_eq_true_eq] at h
 obtain⟨⟨⟨h1,h2⟩,h3⟩,h4⟩:=h
 obtain⟨h5,h6,h7⟩:=daysZ_m (y:=y) (m:=m) (by omega)
 unfold ofZ ofY ofM
 by_cases hm:m<3
 ·rw[if_pos hm,if_pos hm];omega
 ·rw[if_neg hm,if_neg hm];omega
theorem dateZ_bd (l:List Nat):0≤dateZ l∧dateZ l≤2932896:=by
 unfold dateZ
 split
 ·rename_i h
  unfold dateOk at h
  simp only[Bool.and_eq_true] at h
  exact ofZ_bd h.2
 ·omega
theorem nextW_bd {l:List Nat}{k:Int}{t:List Nat}{n:Int}{pos:Nat}(h:nextW l=some (k,t,n)):WdB ⟨k,t,n,pos⟩:=by
 obtain⟨h1,h2,h3⟩:=nextW_spec h
 cases l with
 |nil=>cases h
 |cons c l=>
  rw[nextW_cons] at h
  by_cases hd:digB c=true
  ·rw[if_pos hd] at h
   by_cases hday:dayOk (c::l)=true
   ·rw[if_pos hday] at h
    injection h with h
    injection h with e1 h
    injection h with e2 e3
    have:=dateZ_bd ((c::l).take 10)
    exact .inr (.inr (.inl ⟨e1.symm,by simp only;omega,by simp only;omega⟩))
   ·rw[if_neg hday] at h
    cases ha:amt0 ((c::l).take (runN partB (c::l))) with
    |none=>rw[ha] at h;cases h
    |some v=>
     rw[ha] at h
     injection h with h
     injection h with e1 h
     injection h with e2 e3
     unfold amt0 at ha
     split at ha
     ·rename_i h6
      injection ha with ha
      exact .inr (.inl ⟨e1.symm,by simp only;omega,by simp only;omega⟩)
     ·cases ha
  ·rw[if_neg hd] at h
   by_cases hle:letB c=true
   ·rw[if_pos hle] at h
    by_cases h16:runN partB (c::l)≤16
    ·rw[if_pos h16] at h
     injection h with h
     injection h with e1 h
     injection h with e2 e3
     have hall:∀x∈t,partB x=true:=by rw[←e2];exact runN_all partB _
     have htl:t.length≤16:=by rw[←e2,List.length_take];omega
     have ht0:t.getD 0 0=c:=by
      cases t with
      |nil=>simp at h1
      |cons d q=>
       rw[List.length_cons,List.take_succ_cons] at h2
       injection h2 with h2 _
     refine .inr (.inr (.inr ⟨e1.symm,?_,e3.symm⟩))
     show namedB t=true
     unfold namedB
     rw[runN_full partB t hall,ht0,hle]
     have hne:t≠ []:=fun e=>by rw[e] at h1;simp at h1
     simp[htl,hne]
    ·rw[if_neg h16] at h;cases h
   ·rw[if_neg hle] at h
    cases hs:signW (c::l) with
    |none=>rw[hs] at h;cases h
    |some s=>
     rw[hs] at h
     injection h with h
     injection h with e1 h
     injection h with e2 e3
     subst e2
     exact .inl ⟨e1.symm,List.mem_of_find?_eq_some hs,e3.symm⟩
theorem lexW_bd (l:List Nat)(hl:∀x∈l,x<256):∀f p,∀x∈(lexW f l p).1,WdB x∧(∀c∈x.text,c<256)∧x.text.length≤l.length∧x.pos<l.length
 |0,p,x,h=>by simp[lexW] at h
 |f+1,p,x,h=>by
  rcases Nat.lt_or_ge p l.length with hlt|hge
  ·rw[lexW_step f l p hlt] at h
   cases hn:nextW (l.drop p) with
   |none=>rw[hn] at h;simp at h
   |some z=>
    obtain⟨k,t,n⟩:=z
    rw[hn] at h
    rcases List.mem_cons.1 h with rfl|h
    ·obtain⟨s1,s2,s3⟩:=nextW_spec hn
     refine⟨nextW_bd hn,fun c hc=> ?_,by rw[List.length_drop] at s3;dsimp only;omega,hlt⟩
     dsimp only at hc
     rw[s2] at hc
     exact hl c (List.mem_of_mem_drop (List.mem_of_mem_take hc))
    ·exact lexW_bd l hl f _ x h
  ·rw[lexW_end _ _ _ hge] at h;simp at h
theorem lexW_cnt (l:List Nat):∀(f p:Nat),p≤l.length→(lexW f l p).1.length+p≤l.length
 |0,p,h=>by unfold lexW;simpa using h
 |f+1,p,h=>by
  rcases Nat.lt_or_ge p l.length with h2|h2
  ·rw[lexW_step f l p h2]
   cases hn:nextW (l.drop p) with
   |none=>simpa using h
   |some x=>
    obtain⟨k,t,n⟩:=x
    obtain⟨s1,-,s3⟩:=nextW_spec hn
    rw[List.length_drop] at s3
    have hb:=blankN_le (l.drop (p+t.length))
    rw[List.length_drop] at hb
    have:=lexW_cnt l f (p+t.length+blankN (l.drop (p+t.length))) (by omega)
    simp
    omega
  ·rw[lexW_end _ l p h2];simpa using h
theorem lexAll_cnt (l:List Nat):(lexAll l).1.length≤l.length:=by
 have:=lexW_cnt l (l.length+1) (blankN l) (blankN_le l)
 unfold lexAll
 omega
theorem WdB.i64 {x:Wd}(h:WdB x):I64 x.kind∧I64 x.n:=by
 unfold I64
 rcases h with ⟨h1,-,h2⟩|⟨h1,h2,h3⟩|⟨h1,h2,h3⟩|⟨h1,-,h2⟩<;>omega
theorem ctx_ok (l:List Nat)(hl:∀x∈l,x<256)(h4:l.length≤4000){B g c:Nat}{A:Option Addr}(hle:B≤g):(Ctx.mk B g c l.length A (lexAll l).1).Ok:=
 ⟨hle,by have:=lexAll_cnt l;show(lexAll l).1.length≤4000;omega,h4,fun x hx=>by
  obtain⟨h1,h2,h3,h4'⟩:=lexW_bd l hl _ _ x hx
  exact⟨h1.i64.1,h1.i64.2,h2,by omega,by omega⟩⟩
end Go.Proofs.YtaamkfajnpobfaaGreat
namespace Go.Proofs.YtaamkfajnpobfaaGreat
open Go.RowKit
theorem parsedC_any {α:Type}(K:Ctx)(h:Nat)(f:Nat)(cp:List Value)(b3 b9:Nat)(r:Rs α)(okv:α→World→Prop)(W:World)(eg:∀args w,(callFunc f args).run Tryz.prog w= .ok (.enter f args) w)
  (k3:Blk W b3 62 #[.func (.func f) #[] cp.toArray]) (k9:Blk W b9 60 #[.pointer (some ⟨K.g,0,none⟩)]) (hne:r≠ .out)
  (hc:Calls Tryz.prog f ([]++[Value.pointer (some ⟨K.g,0,none⟩)]++cp).toArray W (PRk K h W r okv)):
  Calls Tryz.prog 48 #[.pointer (some ⟨b3,0,none⟩), .pointer (some ⟨b9,0,none⟩)] W (PRk K h W r okv):=by
 have bel:=Below.refl W.heap.size W
 have k98:=k3
 have k99:=k9
 refine Zs 5 Tryz.func48 ?_
 refine Zr ?_
 refine Zv (Runs.loadB rfl rfl Tryz.underlying62 rfl k98 rfl) ?_
 refine Zv (Runs.loadB rfl rfl Tryz.underlying60 rfl k99 rfl) ?_
 rcases Rs.ok_or hne with ⟨q,ov,hr⟩|⟨x,q,hr⟩
 ·rw[hr] at hc⊢
  refine Seq.callB (Enters.value (first:=[]) (cap:=cp) rfl rfl rfl eg) rfl hc ?_
  rintro e w6 ⟨hf,rfl,d6,hp6⟩
  refine⟨_,rfl,fun a ha=>⟨ha.defers,?_⟩⟩
  exact⟨hf,rfl,d6,hp6⟩
 rw[hr] at hc⊢
 refine Seq.call (Enters.value (first:=[]) (cap:=cp) rfl rfl rfl eg) rfl rfl rfl hc ?_
 rintro e wq ⟨hf,kpq,⟨v,rfl⟩,pwq,hov⟩
 refine⟨_,rfl,?_⟩
 refine Zk2 0 1 ?_
 refine Post.end0 rfl (.inr rfl) ?_
 exact⟨hf,kpq,⟨_,rfl⟩,pwq,hov⟩
def endPos (l:List Nat)(p:Nat):Nat:=((lexAll l).1.getD p ⟨-1,[],0,l.length⟩).pos
def parAt {α:Type}(l:List Nat)(r:Rs α):Nat × Int:=if 4000<l.length then(0,4) else match (lexAll l).2 with
 |some p=>(p,11)
 |none=>match r with
  | .out=>(0,0)
  | .bad p ov=>if ov=true then(0,13) else(endPos l p,11)
  | .ok _ p=>if p=(lexAll l).1.length then(0,0) else(endPos l p,11)
def ParR {α:Type}(l:List Nat)(r:Rs α)(ok2:α→World→Prop)(h:Nat)(w:World)(e:Ending)(w':World):Prop:=
 Below h w w'∧Kp w w'∧e= .returned (.tuple #[.int .i64 ((parAt l r).1:Int), .int .i64 (parAt l r).2])∧((parAt l r).2=0→∃a p,r= .ok a p∧ok2 a w')
theorem run_build_parser (A:Option Addr)(n c:Nat)(z:Int)(w:World):(Instr.build 92 #[(0, .slice A n c),(4, .int .i64 z)]).run Tryz.prog w= .ok (.agg #[.slice A n c, .int .i64 0, .int .i64 0, .bool false, .int .i64 z]) w:=by
 have hu:=Tryz.underlying92
 go_simp
theorem run_field_Word (a b c:Int)(s:ByteArray)(w:World):(Instr.field 95 (.agg #[.int .i64 a, .string s, .int .i64 b, .int .i64 c]) 3).run Tryz.prog w= .ok (.int .i64 c) w:=by kernel_rfl
theorem zero__parse_parser:zeroIs Tryz.prog 60=some (some (.pointer none)):=by kernel_rfl
theorem parsed_any {α:Type}(l:List Nat)(hl:∀x∈l,x<256)(hlen:l.length≤9223372036854775807)(f:Nat)(cp:List Value)(h:Nat)(r:Rs α)(okv:World→α→World→Prop)(ok2:α→World→Prop)(w:World)(hh:h≤w.heap.size)(eg:∀args w,(callFunc f args).run Tryz.prog w= .ok (.enter f args) w)
  (hne:r≠ .out)
  (hok:∀a W0 W W' g,okv W0 a W→w.heap.size≤g→g<W0.heap.size→W0.heap.size≤W.heap.size→W.heap.size≤W'.heap.size→(∀k,k<W.heap.size→k≠g→W'.heap[k]? =W.heap[k]?)→ok2 a W')
  (hc:∀K:Ctx,K.Ok→K.ws=(lexAll l).1→(lexAll l).2=none→w.heap.size≤K.g→(∀ad,K.A=some ad→w.heap.size≤ad.block)→∀W,Below w.heap.size w W→PW K W 0 0 false→Calls Tryz.prog f ([]++[Value.pointer (some ⟨K.g,0,none⟩)]++cp).toArray W (PRk K h W r (okv W))):
  Calls Tryz.prog 22 #[.string (strOf l), .func (.func f) #[] cp.toArray] w (ParR l r ok2 h w):=by
 have bel:=Below.refl w.heap.size w
 refine Zs 40 Tryz.func22 ?_
 refine Zsr ?_
 refine Seq.box rfl rfl rfl rfl rfl ?_
 intro g3 w1 n3
 have e3:=Nat.le_trans bel.size n3.ge
 replace bel:=bel.step n3.below
 have k3:=n3.blk
 refine Za ?_
 refine Za ?_
 refine Zk5 0 1 3 4 5 (Ztq ?_)
 refine Zm ?_
 refine Zc (Ze Tryz.func46) (words_any l _ hl hlen) ?_
 rintro e wv ⟨hb2,⟨h1,rfl⟩|⟨h1,p,h2,rfl⟩|⟨h4,h2,v,rfl,own⟩⟩
 ·have hpa:parAt l r=(0,4):=by unfold parAt;rw[if_pos h1]
  refine⟨_,rfl,?_⟩
  replace bel:=bel.step hb2
  replace k3:=k3.step hb2
  refine Zm ?_
  refine Zv (Runs.extract rfl rfl rfl) ?_
  refine Zv (Runs.extract rfl rfl rfl) ?_
  refine Zv (Runs.extract rfl rfl rfl) ?_
  refine Za ?_
  refine Za ?_
  refine Za ?_
  refine Zk8 0 1 3 4 5 6 7 8 (Zts (Zsr ?_))
  refine Zm ?_
  refine Zv (Runs.neqI rfl rfl rfl) ?_
  refine Zk9 0 1 3 4 5 6 7 8 18 (Zt ?_)
  refine Cd.condT rfl (by simp) ?_
  refine Zsr ?_
  refine Zm ?_
  refine Zm ?_
  refine Za ?_
  refine Za ?_
  refine Zk9 0 1 3 4 5 6 7 8 18 (Zt (Cd.ret (Post.then_ret ?_)))
  refine Post.end2 rfl rfl rfl (.inl rfl) ?_
  unfold ParR
  rw[hpa]
  exact⟨bel.mono hh,(Kp.refl w).step bel,rfl,fun h=>by cases h⟩
 ·have hpa:parAt l r=(p,11):=by unfold parAt;rw[if_neg (by omega),h2]
  refine⟨_,rfl,?_⟩
  replace bel:=bel.step hb2
  replace k3:=k3.step hb2
  refine Zm ?_
  refine Zv (Runs.extract rfl rfl rfl) ?_
  refine Zv (Runs.extract rfl rfl rfl) ?_
  refine Zv (Runs.extract rfl rfl rfl) ?_
  refine Za ?_
  refine Za ?_
  refine Za ?_
  refine Zk8 0 1 3 4 5 6 7 8 (Zts (Zsr ?_))
  refine Zm ?_
  refine Zv (Runs.neqI rfl rfl rfl) ?_
  refine Zk9 0 1 3 4 5 6 7 8 18 (Zt ?_)
  refine Cd.condT rfl (by simp) ?_
  refine Zsr ?_
  refine Zm ?_
  refine Zm ?_
  refine Za ?_
  refine Za ?_
  refine Zk9 0 1 3 4 5 6 7 8 18 (Zt (Cd.ret (Post.then_ret ?_)))
  refine Post.end2 rfl rfl rfl (.inl rfl) ?_
  unfold ParR
  rw[hpa]
  exact⟨bel.mono hh,(Kp.refl w).step bel,rfl,fun h=>by cases h⟩
 obtain⟨A,cap,rfl,hrd⟩:=own.reads
 refine⟨_,rfl,?_⟩
 replace bel:=bel.step hb2
 replace k3:=k3.step hb2
 refine Zm ?_
 refine Zv (Runs.extract rfl rfl rfl) ?_
 refine Zv (Runs.extract rfl rfl rfl) ?_
 refine Zv (Runs.extract rfl rfl rfl) ?_
 refine Za ?_
 refine Za ?_
 refine Za ?_
 refine Zk8 0 1 3 4 5 6 7 8 (Zts (Zsr ?_))
 refine Zm ?_
 refine Zv (Runs.neqI rfl rfl rfl) ?_
 refine Zk9 0 1 3 4 5 6 7 8 18 (Zt ?_)
 refine Cd.condF rfl (by simp) ?_
 refine Cd.skip (Ztq ?_)
 refine Zm ?_
 refine Zm ?_
 refine Zv (Runs.lenL rfl rfl Tryz.underlying9) ?_
 refine Zv (Runs.build rfl rfl (run_build_parser _ _ _ _ _)) ?_
 refine Seq.box rfl rfl rfl rfl rfl ?_
 intro g25 w2 n25
 have e25:=Nat.le_trans bel.size n25.ge
 have l25:=Nat.lt_of_lt_of_le k3.lt n25.ge
 replace bel:=bel.step n25.below
 replace k3:=k3.step n25.below
 have k25:=n25.blk
 refine Zl zero__parse_parser ?_
 intro g9 w3 n9
 have e9:=Nat.le_trans bel.size n9.ge
 have l9:=Nat.lt_of_lt_of_le k25.lt n9.ge
 replace bel:=bel.step n9.below
 replace k3:=k3.step n9.below
 replace k25:=k25.step n9.below
 have k9:=n9.blk
 refine Zq k9 ?_
 intro w4 pw4
 replace bel:=bel.put k9 pw4 e9
 replace k3:=k3.put pw4 (by omega)
 replace k25:=k25.put pw4 (by omega)
 replace k9:=pw4.blk
 refine Zk10 0 1 3 4 5 6 7 8 9 18 (Zts (Zsr ?_))
 refine Zv (Runs.loadB rfl rfl Tryz.underlying60 rfl k9 rfl) ?_
 refine Zv (Runs.makeFunc (v:= .func (.func 48) #[] #[.pointer (some ⟨g3,0,none⟩), .pointer (some ⟨g9,0,none⟩)]) rfl (show evL _ _=some [] from rfl) (show evL _ _=some [.pointer (some ⟨g3,0,none⟩), .pointer (some ⟨g9,0,none⟩)] from rfl) rfl) ?_
 have hB4:Below wv.heap.size wv w4:=pw4.below_of (n25.below.step n9.below) (Nat.le_trans n25.below.size n9.ge) (by have:=n9.below.size;have:=k9.lt;have:=pw4.size;omega)
 have hKok:=ctx_ok l hl h4 (B:=wv.heap.size) (g:=g25) (c:=cap) (A:=A) n25.ge
 generalize hK:(Ctx.mk wv.heap.size g25 cap l.length A (lexAll l).1)=K at hKok
 have hKg:K.g=g25:=by rw[←hK]
 have hKw:K.ws=(lexAll l).1:=by rw[←hK]
 have hKe:K.en=l.length:=by rw[←hK]
 have pw:PW K w4 0 0 false:=by rw[←hK];exact⟨k25,hrd.below hB4,Nat.zero_le _, .inl (by omega)⟩
 have hKA:∀ad,K.A=some ad→w.heap.size≤ad.block:=fun ad h=>by
  rw[←hK] at h
  have h:A=some ad:=h
  have:=(own.blockLt ad.block (by rw[h];rfl)).1
  have:=n3.below.size
  omega
 subst hKg
 have hrun:=runP_any K hKok 48 [.pointer (some ⟨g3,0,none⟩), .pointer (some ⟨g9,0,none⟩)] h r okv ok2 w4 pw (Nat.le_trans hh bel.size) hne (fun args w=>run_enter Tryz.func48 (by kernel_rfl) rfl args w)
  (fun a W0 W W' g h1 h2 h3 h4 h5 h6=>hok a W0 W W' g h1 (Nat.le_trans bel.size h2) h3 h4 h5 h6)
  (fun W hb hp=>parsedC_any K h f cp g3 g9 r (okv W) W eg (k3.step hb) (k9.step hb) hne (hc K hKok hKw h2 e25 hKA W (bel.step hb) hp))
 refine Zc (Ze Tryz.func47) (hrun) ?_
 rcases Rs.ok_or hne with ⟨q,ov,hr⟩|⟨x,q,hr⟩
 ·rw[hr]
  rintro e w6 ⟨hf,kp,rfl,d6,hp6⟩
  refine⟨_,rfl,?_⟩
  have k9':=kp.blk k9
  have kfin:Kp w w6:=((Kp.refl w).step bel).trans kp
  have bfin:Below h w w6:=(bel.mono hh).trans (hf.below (Nat.le_refl _) (by omega))
  have hw6:=word_any K hKok q d6 ov w6 hp6
  have hpos:(K.at_ q).pos=endPos l q:=by unfold Ctx.at_ endPos;rw[hKw,hKe]
  have k99:=hp6.blk
  clear k9
  have k9:=k9'
  clear bel
  have bel:=Below.refl w6.heap.size w6
  cases ov with
  |true=>
   have hpa:parAt l (Rs.bad (α:=α) q true)=(0,13):=by unfold parAt;rw[if_neg (by omega),h2];rfl
   refine Za ?_
   refine Zk11 0 1 3 4 5 6 7 8 9 10 18 (Zt (Cd.block (Zsr ?_)))
   refine Zv (Runs.loadB rfl rfl Tryz.underlying60 rfl k9 rfl) ?_
   refine Zv (Runs.nilCheck rfl rfl) ?_
   refine Zf 3 Tryz.underlying92 ?_
   refine Zv (Runs.loadB rfl rfl Tryz.underlying4 rfl k99 rfl) ?_
   refine Za ?_
   refine Zk12 0 1 3 4 5 6 7 8 9 10 18 29 (Zt ?_)
   refine Cd.condT rfl rfl ?_
   refine Zsr ?_
   refine Za ?_
   refine Za ?_
   refine Zk12 0 1 3 4 5 6 7 8 9 10 18 29 (Zt (Cd.ret (Post.block_ret (Post.then_ret ?_))))
   refine Post.end2 rfl rfl rfl (.inl rfl) ?_
   unfold ParR
   rw[hpa]
   exact⟨bfin.trans (bel.mono (by have:=bfin.size;omega)),kfin.step bel,rfl,fun h=>by cases h⟩
  |false=>
   have hpa:parAt l (Rs.bad (α:=α) q false)=(endPos l q,11):=by unfold parAt;rw[if_neg (by omega),h2];rfl
   have hwf:=fun W (hb:Below w6.heap.size w6 W)=>word_any K hKok q d6 false W (hp6.step hKok.le hb)
   refine Za ?_
   refine Zk11 0 1 3 4 5 6 7 8 9 10 18 (Zt (Cd.block (Zsr ?_)))
   refine Zv (Runs.loadB rfl rfl Tryz.underlying60 rfl k9 rfl) ?_
   refine Zv (Runs.nilCheck rfl rfl) ?_
   refine Zf 3 Tryz.underlying92 ?_
   refine Zv (Runs.loadB rfl rfl Tryz.underlying4 rfl k99 rfl) ?_
   refine Za ?_
   refine Zk12 0 1 3 4 5 6 7 8 9 10 18 29 (Zt ?_)
   refine Cd.condF rfl rfl ?_
   refine Zsr ?_
   refine Zm ?_
   refine Zv (Runs.not rfl rfl) ?_
   refine Za ?_
   refine Zk13 0 1 3 4 5 6 7 8 9 10 18 29 34 (Zt ?_)
   refine Cd.condT rfl rfl ?_
   refine Zsr ?_
   refine Zv (Runs.loadB rfl rfl Tryz.underlying60 rfl k9 rfl) ?_
   refine Zc (Ze Tryz.func49) (hwf _ bel) ?_
   rintro e w7 ⟨rfl,hb7⟩
   refine⟨_,rfl,?_⟩
   replace bel:=bel.step hb7
   replace k9:=k9.step hb7
   replace k99:=k99.step hb7
   refine Zv (Runs.field rfl rfl (run_field_Word _ _ _ _ _)) ?_
   refine Za ?_
   refine Za ?_
   refine Zk13 0 1 3 4 5 6 7 8 9 10 18 29 34 (Zt (Cd.ret (Post.block_ret (Post.then_ret ?_))))
   refine Post.end2 rfl rfl rfl (.inl rfl) ?_
   unfold ParR
   rw[hpa]
   refine⟨bfin.trans (bel.mono (by have:=bfin.size;omega)),kfin.step bel,?_,fun h=>by cases h⟩
   rw[←hpos]
 ·rw[hr]
  rintro e w6 ⟨hf,kp,rfl,⟨d6,hp6⟩,hov⟩
  refine⟨_,rfl,?_⟩
  have k9':=kp.blk k9
  have kfin:Kp w w6:=((Kp.refl w).step bel).trans kp
  have bfin:Below h w w6:=(bel.mono hh).trans (hf.below (Nat.le_refl _) (by omega))
  have hpos:(K.at_ q).pos=endPos l q:=by unfold Ctx.at_ endPos;rw[hKw,hKe]
  have k99:=hp6.blk
  clear k9
  have k9:=k9'
  clear bel
  have bel:=Below.refl w6.heap.size w6
  rw[hKw] at *
  refine Za ?_
  refine Zk11 0 1 3 4 5 6 7 8 9 10 18 (Zt (Cd.block (Zsr ?_)))
  refine Zv (Runs.loadB rfl rfl Tryz.underlying60 rfl k9 rfl) ?_
  refine Zv (Runs.nilCheck rfl rfl) ?_
  refine Zf 3 Tryz.underlying92 ?_
  refine Zv (Runs.loadB rfl rfl Tryz.underlying4 rfl k99 rfl) ?_
  refine Za ?_
  refine Zk12 0 1 3 4 5 6 7 8 9 10 18 29 (Zt ?_)
  refine Cd.condF rfl rfl ?_
  refine Zsr ?_
  refine Zm ?_
  refine Zv (Runs.not rfl rfl) ?_
  refine Za ?_
  refine Zk13 0 1 3 4 5 6 7 8 9 10 18 29 34 (Zt ?_)
  refine Cd.cond rfl (fun h=> ?_) (fun h=> ?_)
  ·have hq:q≠(lexAll l).1.length:=by simpa using h
   have hpa:parAt l (Rs.ok x q)=(endPos l q,11):=by unfold parAt;rw[if_neg (by omega),h2];exact if_neg hq
   have hwf:=fun W (hb:Below w6.heap.size w6 W)=>word_any K hKok q d6 false W (hp6.step hKok.le hb)
   refine Zsr ?_
   refine Zv (Runs.loadB rfl rfl Tryz.underlying60 rfl k9 rfl) ?_
   refine Zc (Ze Tryz.func49) (hwf _ bel) ?_
   rintro e w7 ⟨rfl,hb7⟩
   refine⟨_,rfl,?_⟩
   replace bel:=bel.step hb7
   replace k9:=k9.step hb7
   replace k99:=k99.step hb7
   refine Zv (Runs.field rfl rfl (run_field_Word _ _ _ _ _)) ?_
   refine Za ?_
   refine Za ?_
   refine Zk13 0 1 3 4 5 6 7 8 9 10 18 29 34 (Zt (Cd.ret (Post.block_ret (Post.then_ret ?_))))
   refine Post.end2 rfl rfl rfl (.inl rfl) ?_
   unfold ParR
   rw[hpa]
   refine⟨bfin.trans (bel.mono (by have:=bfin.size;omega)),kfin.step bel,?_,fun h=>by cases h⟩
   rw[←hpos]
  ·have hq:q=(lexAll l).1.length:=by simpa using h
   have hpa:parAt l (Rs.ok x q)=(0,0):=by unfold parAt;rw[if_neg (by omega),h2];exact if_pos hq
   refine Cd.skip (Post.block_normal (Ztq ?_))
   refine Za ?_
   refine Za ?_
   refine Zk13 0 1 3 4 5 6 7 8 9 10 18 29 34 (Zt (Cd.ret ?_))
   refine Post.end2 rfl rfl rfl (.inl rfl) ?_
   unfold ParR
   rw[hpa]
   exact⟨bfin.trans (bel.mono (by have:=bfin.size;omega)),kfin.step bel,rfl,fun _=>⟨x,q,rfl,hov⟩⟩
end Go.Proofs.YtaamkfajnpobfaaGreat
namespace Go.Proofs.YtaamkfajnpobfaaGreat
open Go.RowKit
def InT (gt:Nat)(W0:World)(x:Tm)(W:World):Prop:=∃(S:Nat→Prop) (v:Value),Blk W gt 25 v.cells∧RepT W S x v∧∀b,S b→W0.heap.size≤b∧b<W.heap.size
theorem parseC_any (K:Ctx)(hK:K.Ok)(n gt h:Nat)(W:World)(pw:PW K W 0 0 false)(kt:Blk W gt 25 #[.int .i64 0, .string {data:= #[]}, .slice none 0 0, .slice none 0 0]) (hg:gt<K.g) (hh:h≤gt) (hKA:∀ad,K.A=some ad→ad.block≠gt) (hne:fuelT K.ws n 0 0≠ .out):
  Calls Tryz.prog 23 #[.pointer (some ⟨K.g,0,none⟩), .pointer (some ⟨gt,0,none⟩)] W (PRk K h W (fuelT K.ws n 0 0) (InT gt W)):=by
 have hcl:=hasT_all K hK n 0 0 W pw hne
 have hlt:=pw.blk.lt
 have hle:=hK.le
 have bel:=Below.refl W.heap.size W
 refine Zs 5 Tryz.func23 ?_
 refine Zr ?_
 refine Zm ?_
 rcases Rs.ok_or hne with ⟨q,ov,hr⟩|⟨x,q,hr⟩
 ·rw[hr] at hcl⊢
  refine Seq.callB (Ze Tryz.func24) rfl hcl ?_
  rintro e w6 ⟨hf,rfl,d6,hp6⟩
  refine⟨_,rfl,fun a ha=>⟨ha.defers,?_⟩⟩
  exact⟨hf,rfl,d6,hp6⟩
 rw[hr] at hcl⊢
 refine Zc (Ze Tryz.func24) (hcl) ?_
 rintro e wq ⟨hf,v,rfl,pwq,S,hrep,hS⟩
 refine⟨_,rfl,?_⟩
 have kp0:=(Kp.refl W).fz pw.blk hf
 have k98:=kt.fz hf (by omega)
 have hs98:=k98.lt
 have k98':=k98
 obtain⟨A,c,A',c',rfl⟩:=hrep.form
 have hq:=pwq.blk.lt
 clear bel
 have bel:=Below.refl wq.heap.size wq
 refine Zo 4 k98 ?_
 intro w1 pw1
 replace k98:=pw1.blk
 refine Zk2 0 1 ?_
 refine Post.end0 rfl (.inr rfl) ?_
 have hsz:=pw1.size
 have hbl:∀k,k≠gt→k<wq.heap.size→w1.heap[k]? =wq.heap[k]? :=fun k hk hl=>pw1.grown.block k hl (fun e=>hk (by injection e))
 have hrd:Reads w1 K.B 4 K.A K.ws.length (wdCells K.ws):=⟨pwq.rd.1,fun h0=>by
  obtain⟨ad,e1,e2,e3⟩:=pwq.rd.2 h0
  exact⟨ad,e1,e2,fun j u hu=>(World.cell?_of_block (by rw[block_of_add];exact hbl _ (hKA ad e1) (by omega))).trans (e3 j u hu)⟩⟩
 have k98z:Blk w1 gt 25 (Value.agg #[Value.int .i64 x.op,Value.string (strOf x.name),Value.slice A x.exprs.length c,Value.slice A' x.terms.length c']).cells:=k98
 have kgz:Blk w1 K.g 92 _:=pwq.blk.put pw1 (by omega)
 exact⟨⟨pw1.grown.os.trans hf.os,pw1.grown.tape.trans hf.tape,pw1.grown.output.trans hf.output,by have:=hf.size;omega,fun k hk hne=>(hbl k (by omega) (by omega)).trans (hf.block k (by omega) hne)⟩,kp0.put k98' pw1 trivial,⟨_,rfl⟩,⟨kgz,hrd,pwq.p_le,pwq.d_le⟩,S,_,k98z,hrep.mono (fun _ h=>h) (fun a ha=>World.cell?_of_block (hbl _ (by have:=(hS _ ha).1;have:=kt.lt;omega) (hS _ ha).2)),fun b hb=>⟨(hS b hb).1,by have:=(hS b hb).2;omega⟩⟩
end Go.Proofs.YtaamkfajnpobfaaGreat
namespace Go.Proofs.YtaamkfajnpobfaaGreat
open Go.RowKit
theorem right_all (t:Tm)(B:Nat)(v:Value)(w:World)(hrep:RepB w B t v)(hB:B≤w.heap.size):Calls Tryz.prog 25 #[v] w fun en w'=>en= .returned (.bool (rightT t))∧Grow w w':=by
 have hs:=fun W (hb:Below w.heap.size w W)=>sizeTerm_all t.nodes t 0 B v W (Nat.le_refl _) (by omega) (hrep.below (hb.mono hB)) (Nat.le_trans hB hb.size)
 have hbt:=fun W (hb:Below w.heap.size w W)=>built_any t.nodes t B v W (Nat.le_refl _) (hrep.below (hb.mono hB)) (Nat.le_trans hB hb.size)
 have hc:=szU_cnt t
 have hdn:=t.depth_nodes
 have hres:(decide (t.nodes≤200)&&decide (t.depth≤16))=(decide ((szU t 0).1≤200)&&decide ((szU t 0).2≤16)):=by
  obtain⟨c1,c2⟩:=hc
  rw[Bool.eq_iff_iff]
  simp only[Bool.and_eq_true,decide_eq_true_eq]
  constructor
  ·rintro⟨h1,h2⟩
   rw[c2 (by omega)]
   omega
  ·rintro⟨h1,h2⟩
   have h3:t.nodes≤200:=by omega
   rw[c2 (by omega)] at h2
   omega
 unfold rightT
 rw[hres]
 obtain⟨A,c,A',c',rfl,-⟩:=hrep.open
 have bel:=Below.refl w.heap.size w
 generalize (szU t 0)=s at *
 refine Zs 10 Tryz.func25 ?_
 refine Zsr ?_
 refine Seq.box rfl rfl rfl rfl rfl ?_
 intro g1 w1 n1
 have e1:=Nat.le_trans bel.size n1.ge
 replace bel:=bel.step n1.below
 have k1:=n1.blk
 refine Za ?_
 refine Zk3 0 1 2 (Ztq ?_)
 refine Zv (Runs.loadW rfl rfl Tryz.underlying25 rfl k1 (m:=4) (by kernel_rfl) rfl) ?_
 refine Zc (Ze Tryz.func57) (hs _ bel) ?_
 rintro en w5 ⟨rfl,hb5⟩
 refine⟨_,rfl,?_⟩
 replace bel:=bel.step hb5
 replace k1:=k1.step hb5
 refine Zc (Ze Tryz.func58) (szSmall_any s.1 s.2 _) ?_
 rintro en w6 ⟨rfl,hb6⟩
 refine⟨_,rfl,?_⟩
 replace bel:=bel.step hb6
 replace k1:=k1.step hb6
 refine Zm ?_
 refine SeqC.start ?_
 refine Zco (fun hcx=>Runs.loadW rfl rfl Tryz.underlying25 rfl k1 (m:=4) (by kernel_rfl) rfl) ?_
 refine SeqC.nextC rfl rfl rfl rfl rfl rfl rfl (fun hcx=>Ze Tryz.func59) (fun hcx=>hbt _ bel) ?_
 intro w2 hw2
 replace bel:=bel.step hw2
 replace k1:=k1.step hw2
 refine SeqC.and rfl rfl rfl rfl rfl rfl rfl ?_
 refine Za ?_
 refine Zk3 0 1 2 (Zt (Cd.ret ?_))
 refine Post.end1 rfl rfl (.inl rfl) ?_
 exact⟨ret1 (bool_eq (by cases (decide (s.1≤200)&&decide (s.2≤16))<;>rfl)),bel⟩
end Go.Proofs.YtaamkfajnpobfaaGreat
namespace Go.Proofs.YtaamkfajnpobfaaGreat
section
variable {α β:Type}
def Mono (f:Nat→Nat→Rs α):Prop:=∀p d a q,f p d= .ok a q→p<q
def Def (f:Nat→Nat→Rs α)(m:Nat):Prop:=∀p d,m≤p→f p d≠ .out
theorem Def.up {f:Nat→Nat→Rs α}{m m':Nat}(h:Def f m)(hm:m≤m'):Def f m':=fun p d hp=>h p d (by omega)
theorem Rs.bind_eq_ok {r:Rs α}{f:α→Nat→Rs β}{b:β}{q:Nat}(h:r.bind f= .ok b q):∃a p,r= .ok a p∧f a p= .ok b q:=by
 cases r with
 |out=>cases h
 |bad p o=>cases h
 |ok a p=>exact⟨a,p,rfl,h⟩
theorem Rs.bind_ne_out {r:Rs α}{f:α→Nat→Rs β}(h:r≠ .out)(hf:∀a p,r= .ok a p→f a p≠ .out):r.bind f≠ .out:=by
 cases r with
 |out=>exact absurd rfl h
 |bad p o=>exact fun h=>by cases h
 |ok a p=>exact hf a p rfl
theorem signQ_ok {ws:List Wd}{s:List Nat}{p q:Nat}{u:Unit}(h:signQ ws s p= .ok u q):q=p+1∧isS ws p s=true:=by
 unfold signQ at h
 split at h
 ·rename_i hs
  injection h with _ h
  exact⟨h.symm,hs⟩
 ·cases h
theorem signQ_def (ws:List Wd)(s:List Nat)(p:Nat):signQ ws s p≠ .out:=by
 unfold signQ
 split<;>exact fun h=>by cases h
theorem enterP_ok {p d q:Nat}{u:Unit}(h:enterP p d= .ok u q):q=p∧d<64:=by
 unfold enterP at h
 split at h
 ·cases h
 ·injection h with _ h
  exact⟨h.symm,by omega⟩
theorem enterP_def (p d:Nat):enterP p d≠ .out:=by
 unfold enterP
 split<;>exact fun h=>by cases h
theorem partsP_mono (ws:List Wd):∀(ones:List (Nat→Nat→Rs α)),(∀f∈ones,Mono f)→∀first p d xs q,partsP ws ones first p d= .ok xs q→p≤q
 | [],_,first,p,d,xs,q,h=>by injection h with _ h;omega
 |f::r,hm,first,p,d,xs,q,h=>by
  rw[partsP] at h
  obtain⟨u,p1,h1,h⟩:=Rs.bind_eq_ok h
  obtain⟨x,p2,h2,h⟩:=Rs.bind_eq_ok h
  obtain⟨ys,p3,h3,h⟩:=Rs.bind_eq_ok h
  injection h with _ h
  have e1:p≤p1:=by
   split at h1
   ·injection h1 with _ h1;omega
   ·have:=(signQ_ok h1).1;omega
  have e2:=hm f (by simp) _ _ _ _ h2
  have e3:=partsP_mono ws r (fun g hg=>hm g (by simp[hg])) _ _ _ _ _ h3
  omega
theorem partsP_def (ws:List Wd)(m:Nat):∀(ones:List (Nat→Nat→Rs α)),(∀f∈ones,Mono f∧Def f m)→∀first p d,m≤p→partsP ws ones first p d≠ .out
 | [],_,first,p,d,_=>fun h=>by cases h
 |f::r,hm,first,p,d,hp=>by
  rw[partsP]
  refine Rs.bind_ne_out ?_ fun u p1 h1=> ?_
  ·split
   ·exact fun h=>by cases h
   ·exact signQ_def _ _ _
  have e1:p≤p1:=by
   split at h1
   ·injection h1 with _ h1;omega
   ·have:=(signQ_ok h1).1;omega
  refine Rs.bind_ne_out ((hm f (by simp)).2 _ _ (by omega)) fun x p2 h2=> ?_
  have e2:=(hm f (by simp)).1 _ _ _ _ h2
  refine Rs.bind_ne_out (partsP_def ws m r (fun g hg=>hm g (by simp[hg])) _ _ _ (by omega)) fun ys p3 h3=> ?_
  exact fun h=>by cases h
theorem withinP_mono (ws:List Wd)(ones:List (Nat→Nat→Rs α))(hm:∀f∈ones,Mono f){p d:Nat}{xs:List α}{q:Nat}(h:withinP ws ones p d= .ok xs q):p+2≤q:=by
 unfold withinP at h
 obtain⟨u,p1,h1,h⟩:=Rs.bind_eq_ok h
 obtain⟨u2,p2,h2,h⟩:=Rs.bind_eq_ok h
 obtain⟨ys,p3,h3,h⟩:=Rs.bind_eq_ok h
 obtain⟨u3,p4,h4,h⟩:=Rs.bind_eq_ok h
 injection h with _ h
 have:=(signQ_ok h1).1
 have:=(enterP_ok h2).1
 have:=partsP_mono ws ones hm _ _ _ _ _ h3
 have:=(signQ_ok h4).1
 omega
theorem withinP_def (ws:List Wd)(ones:List (Nat→Nat→Rs α)){p:Nat}(d:Nat)(hm:∀f∈ones,Mono f∧Def f (p+1)):withinP ws ones p d≠ .out:=by
 unfold withinP
 refine Rs.bind_ne_out (signQ_def _ _ _) fun u p1 h1=> ?_
 refine Rs.bind_ne_out (enterP_def _ _) fun u2 p2 h2=> ?_
 have:=(signQ_ok h1).1
 have:=(enterP_ok h2).1
 refine Rs.bind_ne_out (partsP_def ws (p+1) ones hm _ _ _ (by omega)) fun xs p3 h3=> ?_
 refine Rs.bind_ne_out (signQ_def _ _ _) fun u3 p4 h4=> ?_
 exact fun h=>by cases h
theorem nameP_eq {ws:List Wd}{p q:Nat}{x:List Nat}(h:nameP ws p= .ok x q):q=p+1∧x=(wAt ws p).text∧(wAt ws p).kind=3∧reservedB (wAt ws p).text=false:=by
 unfold nameP at h
 split at h
 ·rename_i hs
  injection h with h1 h
  exact⟨h.symm,h1.symm,hs.1,hs.2⟩
 ·cases h
theorem nameP_def (ws:List Wd)(p:Nat):nameP ws p≠ .out:=by
 unfold nameP
 split<;>exact fun h=>by cases h
theorem calledP_mono {ws:List Wd}{E0:Nat→Nat→Rs Ex}(hE:Mono E0){op:Int}{k p d:Nat}{x:Ex}{q:Nat}(h:calledP ws E0 op k p d= .ok x q):p<q:=by
 unfold calledP at h
 obtain⟨xs,p1,h1,h⟩:=Rs.bind_eq_ok h
 injection h with _ h
 have:=withinP_mono ws _ (fun f hf=>(List.mem_replicate.1 hf).2▸hE) h1
 omega
theorem calledP_def {ws:List Wd}{E0:Nat→Nat→Rs Ex}(hE:Mono E0){op:Int}{k p d:Nat}(hd:Def E0 (p+1)):calledP ws E0 op k p d≠ .out:=by
 unfold calledP
 refine Rs.bind_ne_out (withinP_def ws _ d fun f hf=>(List.mem_replicate.1 hf).2▸⟨hE,hd.up (by omega)⟩) fun xs p1 h1=> ?_
 exact fun h=>by cases h
theorem atomP_mono {ws:List Wd}{E0:Nat→Nat→Rs Ex}(hE:Mono E0):Mono (atomP ws E0):=by
 intro p d x q h
 unfold atomP at h
 repeat' split at h
 all_goals first
  |exact calledP_mono hE h
  |(injection h with _ h;omega)
  |(obtain⟨nm,p1,h1,h⟩:=Rs.bind_eq_ok h;injection h with _ h;have:=(nameP_eq h1).1;omega)
  |(obtain⟨xs,p1,h1,h⟩:=Rs.bind_eq_ok h;injection h with _ h;have:=withinP_mono ws _ (fun f hf=>(List.mem_singleton.1 hf)▸hE) h1;omega)
  |cases h
theorem atomP_def {ws:List Wd}{E0:Nat→Nat→Rs Ex}(hE:Mono E0){p d:Nat}(hd:Def E0 (p+1)):atomP ws E0 p d≠ .out:=by
 unfold atomP
 repeat' split
 all_goals first
  |exact calledP_def hE hd
  |exact fun h=>by cases h
  |exact Rs.bind_ne_out (nameP_def _ _) fun nm p1 h1=>fun h=>by cases h
  |exact Rs.bind_ne_out (withinP_def ws _ d fun f hf=>(List.mem_singleton.1 hf)▸⟨hE,hd⟩) fun xs p1 h1=>fun h=>by cases h
theorem aheadP_mono {S:Nat→Nat→Rs Ex}(hS:Mono S)(op:Int):Mono (aheadP S op):=by
 intro p d x q h
 unfold aheadP at h
 obtain⟨u,p1,h1,h⟩:=Rs.bind_eq_ok h
 obtain⟨y,p2,h2,h⟩:=Rs.bind_eq_ok h
 injection h with _ h
 have:=(enterP_ok h1).1
 have:=hS _ _ _ _ h2
 omega
theorem aheadP_def {S:Nat→Nat→Rs Ex}(op:Int){p d:Nat}(hS:Def S (p+1)):aheadP S op p d≠ .out:=by
 unfold aheadP
 refine Rs.bind_ne_out (enterP_def _ _) fun u p1 h1=> ?_
 have:=(enterP_ok h1).1
 exact Rs.bind_ne_out (hS _ _ (by omega)) fun y p2 h2=>fun h=>by cases h
theorem unaryP_mono {ws:List Wd}{S E0:Nat→Nat→Rs Ex}(hS:Mono S)(hE:Mono E0):Mono (unaryP ws S E0):=by
 intro p d x q h
 unfold unaryP at h
 split at h
 ·exact aheadP_mono hS _ _ _ _ _ h
 ·split at h
  ·exact aheadP_mono hS _ _ _ _ _ h
  ·exact atomP_mono hE _ _ _ _ h
theorem unaryP_def {ws:List Wd}{S E0:Nat→Nat→Rs Ex}(hE:Mono E0){p d:Nat}(hS:Def S (p+1))(hd:Def E0 (p+1)):unaryP ws S E0 p d≠ .out:=by
 unfold unaryP
 split
 ·exact aheadP_def _ hS
 ·split
  ·exact aheadP_def _ hS
  ·exact atomP_def hE hd
end
structure PMono (f:PF):Prop where
 E:∀lvl,Mono (f.E lvl)
 L:∀lvl x p d a q,f.L lvl x p d= .ok a q→p≤q
 S:Mono f.S
theorem loopP_mono {ws:List Wd}{f:PF}(h:PMono f){lvl:Nat}{x:Ex}{p d:Nat}{a:Ex}{q:Nat}(hl:loopP ws f lvl x p d= .ok a q):p≤q:=by
 unfold loopP at hl
 cases ho:opAt ws lvl p with
 |none=>rw[ho] at hl;injection hl with _ hl;omega
 |some op=>
  rw[ho] at hl
  obtain⟨r,p1,h1,hl⟩:=Rs.bind_eq_ok hl
  have:=h.E _ _ _ _ _ h1
  split at hl
  ·injection hl with _ hl;omega
  ·have:=h.L _ _ _ _ _ _ hl;omega
theorem levN_mono {L:Nat→Ex→Nat→Nat→Rs Ex}{S:Nat→Nat→Rs Ex}(hL:∀lvl x p d a q,L lvl x p d= .ok a q→p≤q)(hS:Mono S):∀j,Mono (levN L S j)
 |0=>hS
 |j+1=>fun p d a q h=>by
  rw[levN] at h
  obtain⟨x,p1,h1,h⟩:=Rs.bind_eq_ok h
  have:=levN_mono hL hS j _ _ _ _ h1
  have:=hL _ _ _ _ _ _ h
  omega
theorem fuelP_mono (ws:List Wd):∀n,PMono (fuelP ws n)
 |0=>⟨fun _ _ _ _ _ h=>(by cases h),fun _ _ _ _ _ _ h=>(by cases h),fun _ _ _ _ h=>(by cases h)⟩
 |n+1=>by
  have ih:=fuelP_mono ws n
  have hL:∀lvl x p d a q,loopP ws (fuelP ws n) lvl x p d= .ok a q→p≤q:=fun lvl x p d a q h=>loopP_mono ih h
  have hS:=unaryP_mono (ws:=ws) ih.S (ih.E 0)
  exact⟨fun lvl=>levN_mono hL hS _,hL,hS⟩
theorem opAt_lt {ws:List Wd}{lvl p:Nat}{op:Int}(h:opAt ws lvl p=some op):p<ws.length:=by
 rcases Nat.lt_or_ge p ws.length with h1|h1
 ·exact h1
 ·unfold opAt wAt at h
  rw[List.getD_eq_getElem?_getD,List.getElem?_eq_none h1] at h
  simp at h
structure PDef (f:PF)(m:Nat):Prop where
 E:∀lvl,Def (f.E lvl) m
 L:∀lvl x p d,m≤p→f.L lvl x p d≠ .out
 S:Def f.S m
theorem loopP_def {ws:List Wd}{f:PF}(hm:PMono f){m:Nat}(h:PDef f (m+1)){lvl:Nat}{x:Ex}{p d:Nat}(hp:m≤p):loopP ws f lvl x p d≠ .out:=by
 unfold loopP
 cases ho:opAt ws lvl p with
 |none=>exact fun h=>by cases h
 |some op=>
  refine Rs.bind_ne_out (h.E _ _ _ (by omega)) fun r p1 h1=> ?_
  have:=hm.E _ _ _ _ _ h1
  split
  ·exact fun h=>by cases h
  ·exact h.L _ _ _ _ (by omega)
theorem levN_def {L:Nat→Ex→Nat→Nat→Rs Ex}{S:Nat→Nat→Rs Ex}{m:Nat}(hLm:∀lvl x p d a q,L lvl x p d= .ok a q→p≤q)(hSm:Mono S)(hL:∀lvl x p d,m≤p→L lvl x p d≠ .out)(hS:Def S m):∀j,Def (levN L S j) m
 |0=>hS
 |j+1=>fun p d hp=>by
  rw[levN]
  refine Rs.bind_ne_out (levN_def hLm hSm hL hS j _ _ hp) fun x p1 h1=> ?_
  have:=levN_mono hLm hSm j _ _ _ _ h1
  exact hL _ _ _ _ (by omega)
theorem wAt_end {ws:List Wd}{p:Nat}(h:ws.length≤p):wAt ws p=⟨-1,[],0,0⟩:=by
 unfold wAt
 rw[List.getD_eq_getElem?_getD,List.getElem?_eq_none h]
 rfl
theorem unaryP_end {ws:List Wd}{p:Nat}(h:ws.length≤p)(S E0:Nat→Nat→Rs Ex)(d:Nat):unaryP ws S E0 p d= .bad p false:=by
 unfold unaryP isS atomP
 rw[wAt_end h]
 rfl
theorem loopP_end {ws:List Wd}{p:Nat}(h:ws.length≤p)(f:PF)(lvl:Nat)(x:Ex)(d:Nat):loopP ws f lvl x p d= .ok x p:=by
 unfold loopP
 cases ho:opAt ws lvl p with
 |none=>rfl
 |some op=>have:=opAt_lt ho;omega
theorem fuelP_def (ws:List Wd):∀n m,ws.length<n+1+m→PDef (fuelP ws (n+1)) m
 |0,m,h=>by
  have im:=fuelP_mono ws 0
  have hLm:∀lvl x p d a q,loopP ws (fuelP ws 0) lvl x p d= .ok a q→p≤q:=fun lvl x p d a q h=>loopP_mono im h
  have hSm:=unaryP_mono (ws:=ws) im.S (im.E 0)
  have hL:∀lvl x p d,m≤p→loopP ws (fuelP ws 0) lvl x p d≠ .out:=fun lvl x p d hp=>by rw[loopP_end (by omega)];exact fun h=>by cases h
  have hS:Def (unaryP ws (fuelP ws 0).S ((fuelP ws 0).E 0)) m:=fun p d hp=>by rw[unaryP_end (by omega)];exact fun h=>by cases h
  exact⟨fun lvl=>levN_def hLm hSm hL hS _,hL,hS⟩
 |n+1,m,h=>by
  have ih:=fuelP_def ws n (m+1) (by omega)
  have im:=fuelP_mono ws (n+1)
  have hLm:∀lvl x p d a q,loopP ws (fuelP ws (n+1)) lvl x p d= .ok a q→p≤q:=fun lvl x p d a q h=>loopP_mono im h
  have hSm:=unaryP_mono (ws:=ws) im.S (im.E 0)
  have hL:∀lvl x p d,m≤p→loopP ws (fuelP ws (n+1)) lvl x p d≠ .out:=fun lvl x p d hp=>loopP_def im ih hp
  have hS:Def (unaryP ws (fuelP ws (n+1)).S ((fuelP ws (n+1)).E 0)) m:=fun p d hp=>unaryP_def (im.E 0) (ih.S.up (by omega)) ((ih.E 0).up (by omega))
  exact⟨fun lvl=>levN_def hLm hSm hL hS _,hL,hS⟩
theorem Rs.map_ok {α β:Type}{r:Rs α}{f:α→β}{b:β}{q:Nat}(h:r.map f= .ok b q):∃a,r= .ok a q∧b=f a:=by
 unfold Rs.map at h
 obtain⟨a,p,h1,h⟩:=Rs.bind_eq_ok h
 injection h with h2 h3
 exact⟨a,by rw[h1,h3],h2.symm⟩
theorem onesP_mem {E0:Nat→Nat→Rs Ex}{T:Nat→Nat→Rs Tm}{n m:Nat}{f:Nat→Nat→Rs Part}(h:f∈onesP E0 T n m):f=(fun p d=>(E0 p d).map .inl)∨f=(fun p d=>(T p d).map .inr):=by
 unfold onesP at h
 rcases List.mem_append.1 h with h|h
 ·exact .inl (List.mem_replicate.1 h).2
 ·exact .inr (List.mem_replicate.1 h).2
theorem onesP_mono {E0:Nat→Nat→Rs Ex}{T:Nat→Nat→Rs Tm}(hE:Mono E0)(hT:Mono T){n m:Nat}:∀f∈onesP E0 T n m,Mono f:=fun f hf p d a q h=>by
 rcases onesP_mem hf with rfl|rfl
 ·obtain⟨x,h1,-⟩:=Rs.map_ok h
  exact hE _ _ _ _ h1
 ·obtain⟨x,h1,-⟩:=Rs.map_ok h
  exact hT _ _ _ _ h1
theorem onesP_def {E0:Nat→Nat→Rs Ex}{T:Nat→Nat→Rs Tm}{k:Nat}(hE:Def E0 k)(hT:Def T k){n m:Nat}:∀f∈onesP E0 T n m,Def f k:=fun f hf p d hp=>by
 rcases onesP_mem hf with rfl|rfl
 ·exact Rs.bind_ne_out (hE _ _ hp) fun a q h=>fun h=>by cases h
 ·exact Rs.bind_ne_out (hT _ _ hp) fun a q h=>fun h=>by cases h
theorem termP_mono {ws:List Wd}{E0:Nat→Nat→Rs Ex}{T:Nat→Nat→Rs Tm}(hE:Mono E0)(hT:Mono T):Mono (termP ws E0 T):=by
 intro p d x q h
 unfold termP at h
 repeat' split at h
 ·cases h
 ·injection h with _ h;omega
 ·obtain⟨xs,p1,h1,h⟩:=Rs.bind_eq_ok h
  injection h with _ h
  have:=withinP_mono ws _ (fun f hf=>(List.mem_singleton.1 hf)▸fun p d a q h=>by have:=(nameP_eq h).1;omega) h1
  omega
 ·cases h
 ·obtain⟨xs,p1,h1,h⟩:=Rs.bind_eq_ok h
  injection h with _ h
  have:=withinP_mono ws _ (onesP_mono hE hT) h1
  omega
theorem termP_def {ws:List Wd}{E0:Nat→Nat→Rs Ex}{T:Nat→Nat→Rs Tm}(hE:Mono E0)(hT:Mono T){p d:Nat}(dE:Def E0 (p+1))(dT:Def T (p+1)):termP ws E0 T p d≠ .out:=by
 unfold termP
 repeat' split
 ·exact fun h=>by cases h
 ·exact fun h=>by cases h
 ·refine Rs.bind_ne_out (withinP_def ws _ d fun f hf=>(List.mem_singleton.1 hf)▸⟨fun p d a q h=>by have:=(nameP_eq h).1;omega,fun p d _=>nameP_def ws p⟩) fun xs p1 h1=>fun h=>by cases h
 ·exact fun h=>by cases h
 ·refine Rs.bind_ne_out (withinP_def ws _ d fun f hf=>⟨onesP_mono hE hT f hf,onesP_def (dE.up (by omega)) (dT.up (by omega)) f hf⟩) fun xs p1 h1=>fun h=>by cases h
theorem fuelT_mono (ws:List Wd):∀n,Mono (fuelT ws n)
 |0=>fun _ _ _ _ h=>(by cases h)
 |n+1=>fun p d x q h=>termP_mono ((fuelP_mono ws (n+1)).E 0) (fuelT_mono ws n) p d x q h
theorem termP_end {ws:List Wd}{p:Nat}(h:ws.length≤p)(E0:Nat→Nat→Rs Ex)(T:Nat→Nat→Rs Tm)(d:Nat):termP ws E0 T p d= .bad p false:=by
 unfold termP
 rw[wAt_end h]
 rfl
theorem fuelT_def (ws:List Wd):∀n m,ws.length<n+1+m→Def (fuelT ws (n+1)) m
 |0,m,h=>fun p d hp=>by
  show termP ws _ _ p d≠ .out
  rw[termP_end (by omega)]
  exact fun h=>by cases h
 |n+1,m,h=>fun p d hp=>by
  have hE:=(fuelP_def ws (n+1) (m+1) (by omega)).E 0
  have hT:=fuelT_def ws n (m+1) (by omega)
  exact termP_def ((fuelP_mono ws (n+2)).E 0) (fuelT_mono ws (n+1)) (hE.up (by omega)) (hT.up (by omega))
def exprQ (ws:List Wd):Rs Ex:=(fuelP ws (ws.length+1)).E 0 0 0
def termQ (ws:List Wd):Rs Tm:=fuelT ws (ws.length+1) 0 0
theorem termQ_ne (ws:List Wd):termQ ws≠ .out:=fuelT_def ws ws.length 0 (by omega) 0 0 (Nat.le_refl _)
end Go.Proofs.YtaamkfajnpobfaaGreat
namespace Go.Proofs.YtaamkfajnpobfaaGreat
open Go.RowKit
section
variable {P:Program} {n:Nat} {F:List (Nat × Value)} {w:World} {v v':Value}
theorem Post.endC3 {fn:Func}{R:Ending→World→Prop}{e:Exit}{p q s g:Nat}{ty t:TypeId}{cs:Array Value}{dsc:TypeDesc}(hr:fn.results= #[.cell p ty, .tmp q, .tmp s]) (hl:look F p=some (.pointer (some ⟨g,0,none⟩))) (hq:look F q=some v) (hq':look F s=some v') (hb:Blk w g t cs) (hu:P.underlying ty=some dsc)
  (hd:(match dsc with| .struct _| .array _ _=>true|_=>false)=true) {m:Nat} (hs:sizeIs P ty m=true) (hm:cs.size=m) (he:e= .ret∨e= .normal) (h:R (.returned (.tuple #[.agg cs,v,v'])) w):Post (bodyPost P fn R) e n F w:=by
 refine Post.end_ (fun a ha=> ?_) he h
 ·have hp':a.tmps[p]?.getD undef= .pointer (some ⟨g,0,none⟩):=by simp[ha.slot p _ hl]
  have e:=run_loadVar_row (P:=P) w g t ty cs (0,0) dsc hb hu (by cases dsc<;>first|rfl|(simp at hd)) (by obtain⟨inf,hi,hsz⟩:=sizeIs_spec hs;rw[hi,hm,←hsz];rfl)
  simp[results,hr,hp',asAddr,e,ha.slot q _ hq,ha.slot s _ hq']
end
def zeroTm:Tm:= .mk 0 [] [] []
def zeroEx:Ex:= .mk 0 0 [] []
theorem RepT.zero (W:World)(S:Nat→Prop):RepT W S zeroTm (.agg #[.int .i64 0, .string (strOf []), .slice none 0 0, .slice none 0 0]):=
 .mk (vs:=[]) (us:=[]) rfl rfl (by simp) (by simp) (by unfold I64;decide) (by simp) (by simp) (fun i e v h=>by simp at h) (fun i e v h=>by simp at h) (fun h=>absurd rfl h) (fun h=>absurd rfl h)
theorem RepE.zero (W:World)(S:Nat→Prop):RepE W S zeroEx (.agg #[.int .i64 0, .int .i64 0, .string (strOf []), .slice none 0 0]):=
 .mk (vs:=[]) rfl (by simp) (by unfold I64;decide) (by unfold I64;decide) (by simp) (by simp) (fun i e v h=>by simp at h) (fun h=>absurd rfl h)
def parseT (l:List Nat):Tm × Nat × Int:=if(parAt l (termQ (lexAll l).1)).2≠0 then(zeroTm,(parAt l (termQ (lexAll l).1)).1,(parAt l (termQ (lexAll l).1)).2) else match termQ (lexAll l).1 with
 | .ok x _=>if rightT x=true then(x,0,0) else(zeroTm,0,13)
 |_=>(zeroTm,0,0)
theorem parAt_zero {α:Type}{l:List Nat}{r:Rs α}(h:(parAt l r).2=0):(parAt l r).1=0:=by
 unfold parAt at h⊢
 by_cases h4:4000<l.length
 ·rw[if_pos h4]
 ·rw[if_neg h4] at h⊢
  cases h2:(lexAll l).2 with
  |some p=>rw[h2] at h;cases h
  |none=>
   rw[h2] at h
   cases r with
   |out=>rfl
   |bad p ov=>cases ov<;>cases h
   |ok a p=>
    dsimp only at h⊢
    split at h
    ·rename_i h3;rw[if_pos h3]
    ·cases h
theorem InT.kept {gt:Nat}{w W0 W W':World}{a:Tm}{g:Nat}(h:InT gt W0 a W)(hgt:gt<w.heap.size)(h2:w.heap.size≤g)(h3:g<W0.heap.size)(h4:W0.heap.size≤W.heap.size)(h5:W.heap.size≤W'.heap.size)(h6:∀k,k<W.heap.size→k≠g→W'.heap[k]? =W.heap[k]?):InT gt w a W':=by
 obtain⟨S,v,h7,h8,h9⟩:=h
 refine⟨S,v,?_,h8.mono (fun _ h=>h) (fun p hp=>World.cell?_of_block (h6 _ (h9 _ hp).2 (by have:=(h9 _ hp).1;omega))),fun b hb=>⟨by have:=(h9 b hb).1;omega,by have:=(h9 b hb).2;omega⟩⟩
 unfold Blk at h7⊢
 rw[h6 gt (by omega) (by omega)]
 exact h7
theorem run_build_T0 (w:World):(Instr.build 25 #[]).run Tryz.prog w= .ok (.agg #[.int .i64 0, .string (strOf []), .slice none 0 0, .slice none 0 0]) w:=by kernel_rfl
theorem parse_any (l:List Nat)(w:World)(hl:∀x∈l,x<256)(hlen:l.length≤9223372036854775807):
  Calls Tryz.prog 7 #[.string (strOf l)] w fun e w'=>Below w.heap.size w w'∧∃(v:Value) (S:Nat→Prop),e= .returned (.tuple #[v, .int .i64 ((parseT l).2.1:Int), .int .i64 (parseT l).2.2])∧RepT w' S (parseT l).1 v∧∀b,S b→w.heap.size≤b∧b<w'.heap.size:=by
 have bel:=Below.refl w.heap.size w
 refine Zs 27 Tryz.func7 ?_
 refine Zsr ?_
 refine Zl zero_api_Term ?_
 intro g2 w1 n2
 have e2:=Nat.le_trans bel.size n2.ge
 replace bel:=bel.step n2.below
 have k2:=n2.blk
 refine Za ?_
 refine Za ?_
 refine Zk4 0 2 3 4 (Ztq ?_)
 refine Zl zero_api_Term ?_
 intro g5 w2 n5
 have e5:=Nat.le_trans bel.size n5.ge
 have l5:=Nat.lt_of_lt_of_le k2.lt n5.ge
 replace bel:=bel.step n5.below
 replace k2:=k2.step n5.below
 have k5:=n5.blk
 refine Zk5 0 2 3 4 5 (Ztq ?_)
 refine Zm ?_
 refine Zv (Runs.makeFunc (v:= .func (.func 23) #[] #[.pointer (some ⟨g5,0,none⟩)]) rfl (show evL _ _=some [] from rfl) (show evL _ _=some [.pointer (some ⟨g5,0,none⟩)] from rfl) rfl) ?_
 have hg5:=k5.lt
 have hps:=parsed_any l hl hlen 23 [.pointer (some ⟨g5,0,none⟩)] g5 (termQ (lexAll l).1) (InT g5) (InT g5 w2) w2 (Nat.le_of_lt hg5) (fun args w=>run_enter Tryz.func23 (by kernel_rfl) rfl args w) (termQ_ne _)
  (fun a W0 W W' g h1 h2 h3 h4 h5 h6=>h1.kept hg5 h2 h3 h4 h5 h6)
  (fun K hK hw h2 hg hA W hb hp=>by
   have:=parseC_any K hK ((lexAll l).1.length+1) g5 g5 W hp (k5.step hb) (by omega) (Nat.le_refl _) (fun ad ha=>by have:=hA ad ha;omega) (by rw[hw];exact termQ_ne _)
   rw[hw] at this
   exact this)
 refine Zc (Ze Tryz.func22) (hps) ?_
 rintro e w6 ⟨hb6,kp6,rfl,hok⟩
 refine⟨_,rfl,?_⟩
 have bel6:Below w.heap.size w w6:=bel.trans (hb6.mono e5)
 have k2':Blk w6 g2 25 _:=(show w6.heap[g2]? =w2.heap[g2]? from hb6.block g2 l5).trans k2
 have hlt6:=bel6.size
 clear bel k5 k2
 have bel:=bel6
 have k2:=k2'
 have hA:=parAt_zero (l:=l) (r:=termQ (lexAll l).1)
 obtain⟨z,hz⟩:∃z,(parAt l (termQ (lexAll l).1)).2=z:=⟨_,rfl⟩
 obtain⟨y,hy⟩:∃y,(parAt l (termQ (lexAll l).1)).1=y:=⟨_,rfl⟩
 rw[hz] at hok hA⊢
 rw[hy] at hA⊢
 by_cases hz0:z=0
 ·obtain⟨x,q,hx,S,v,k5,hrep,hS⟩:=hok hz0
  have hps2:parseT l=if rightT x=true then(x,0,0) else(zeroTm,0,13):=by unfold parseT;rw[if_neg (by rw[hz];exact fun h=>h hz0),hx]
  obtain rfl:=hA hz0
  subst hz0
  have hrb:RepB w6 w6.heap.size x v:=hrep.mono (fun b hb=>(hS b hb).2) (fun _ _=>rfl)
  obtain⟨A,c,A',c',rfl⟩:=hrep.form
  have hri:=right_all x w6.heap.size _ w6 hrb (Nat.le_refl _)
  have k5:Blk w6 g5 25 #[.int .i64 x.op, .string (strOf x.name), .slice A x.exprs.length c, .slice A' x.terms.length c']:=k5
  generalize rightT x=b at *
  refine Zm ?_
  refine Zv (Runs.extract rfl rfl rfl) ?_
  refine Zv (Runs.extract rfl rfl rfl) ?_
  refine Za ?_
  refine Za ?_
  refine Zk7 0 2 3 4 5 6 7 (Zts (Zsr ?_))
  refine Zm ?_
  refine Zv ((Runs.eqlI rfl rfl rfl).isT (rfl)) ?_
  refine Zm ?_
  refine Seq.valG (Runs.loadW rfl rfl Tryz.underlying25 rfl k5 (m:=4) (by kernel_rfl) rfl) rfl rfl rfl rfl rfl ?_
  refine Seq.callG (Ze Tryz.func25) rfl rfl rfl rfl rfl (hri) ?_
  rintro e w7 ⟨rfl,hb7⟩
  refine⟨_,rfl,?_⟩
  replace bel:=bel.step hb7
  replace k2:=k2.step hb7
  replace k5:=k5.step hb7
  refine Seq.valG (Runs.not rfl rfl) rfl rfl rfl rfl rfl ?_
  refine Zv (Runs.pickT rfl rfl rfl) ?_
  have hw67:=hb7.size
  cases b with
  |true=>
   refine Zk8 0 2 3 4 5 6 7 20 (Zt ?_)
   refine Cd.condF rfl rfl ?_
   refine Cd.skip (Zts (Zsr ?_))
   refine Zm ?_
   refine Zv (Runs.neqI rfl rfl rfl) ?_
   refine Zk9 0 2 3 4 5 6 7 20 22 (Zt ?_)
   refine Cd.condF rfl (by simp) ?_
   refine Cd.skip (Ztq ?_)
   refine Zv (Runs.loadW rfl rfl Tryz.underlying25 rfl k5 (m:=4) (by kernel_rfl) rfl) ?_
   refine Zo 4 k2 ?_
   intro w3 pw3
   replace bel:=bel.put k2 pw3 e2
   replace k5:=k5.put pw3 (by omega)
   replace k2:=pw3.blk
   refine Za ?_
   refine Za ?_
   refine Zk9 0 2 3 4 5 6 7 20 22 (Zt (Cd.ret ?_))
   refine Post.endC3 rfl rfl rfl rfl k2 Tryz.underlying25 rfl (m:=4) (by kernel_rfl) rfl (.inl rfl) ?_
   rw[hps2,if_pos rfl]
   have hsz:=pw3.size
   refine⟨bel, .agg #[.int .i64 x.op, .string (strOf x.name), .slice A x.exprs.length c, .slice A' x.terms.length c'],S,rfl,hrep.mono (fun _ h=>h) fun p hp=>World.cell?_of_block ?_,fun b hb=> ?_⟩
   ·have:=hS _ hp
    exact(pw3.grown.block _ (by omega) (fun e=>by injection e with e;omega)).trans (hb7.block _ this.2)
   ·have:=hS b hb
    have:=hb6.size
    omega
  |false=>
   refine Zk8 0 2 3 4 5 6 7 20 (Zt ?_)
   refine Cd.condT rfl rfl ?_
   refine Zr ?_
   refine Za ?_
   refine Zk8 0 2 3 4 5 6 7 20 (Zts (Zsr ?_))
   refine Zm ?_
   refine Zv (Runs.neqI rfl rfl rfl) ?_
   refine Zk9 0 2 3 4 5 6 7 20 22 (Zt ?_)
   refine Cd.condT rfl (by simp) ?_
   refine Zsr ?_
   refine Zv (Runs.build rfl rfl (run_build_T0 _)) ?_
   refine Zm ?_
   refine Zm ?_
   refine Zo 4 k2 ?_
   intro w3 pw3
   replace bel:=bel.put k2 pw3 e2
   replace k5:=k5.put pw3 (by omega)
   replace k2:=pw3.blk
   refine Za ?_
   refine Za ?_
   refine Zk9 0 2 3 4 5 6 7 20 22 (Zt (Cd.ret (Post.then_ret ?_)))
   refine Post.endC3 rfl rfl rfl rfl k2 Tryz.underlying25 rfl (m:=4) (by kernel_rfl) rfl (.inl rfl) ?_
   rw[hps2,if_neg (by simp)]
   exact⟨bel, .agg #[.int .i64 0, .string (strOf []), .slice none 0 0, .slice none 0 0],fun _=>False,rfl,RepT.zero _ _,fun b h=>h.elim⟩
 ·have hps2:parseT l=(zeroTm,y,z):=by unfold parseT;rw[if_pos (by rw[hz];exact hz0),hy,hz]
  refine Zm ?_
  refine Zv (Runs.extract rfl rfl rfl) ?_
  refine Zv (Runs.extract rfl rfl rfl) ?_
  refine Za ?_
  refine Za ?_
  refine Zk7 0 2 3 4 5 6 7 (Zts (Zsr ?_))
  refine Zm ?_
  refine Zv ((Runs.eqlI rfl rfl rfl).isF (hz0)) ?_
  refine Zm ?_
  refine Seq.skipG rfl rfl rfl rfl rfl rfl ?_
  refine Seq.skipG rfl rfl rfl rfl rfl rfl ?_
  refine Seq.skipG rfl rfl rfl rfl rfl rfl ?_
  refine Zv (Runs.pickF rfl rfl rfl) ?_
  refine Zk8 0 2 3 4 5 6 7 20 (Zt ?_)
  refine Cd.condF rfl rfl ?_
  refine Cd.skip (Zts (Zsr ?_))
  refine Zm ?_
  refine Zv (Runs.neqI rfl rfl rfl) ?_
  refine Zk9 0 2 3 4 5 6 7 20 22 (Zt ?_)
  refine Cd.condT rfl (by simpa using hz0) ?_
  refine Zsr ?_
  refine Zv (Runs.build rfl rfl (run_build_T0 _)) ?_
  refine Zm ?_
  refine Zm ?_
  refine Zo 4 k2 ?_
  intro w3 pw3
  replace bel:=bel.put k2 pw3 e2
  replace k2:=pw3.blk
  refine Za ?_
  refine Za ?_
  refine Zk9 0 2 3 4 5 6 7 20 22 (Zt (Cd.ret (Post.then_ret ?_)))
  refine Post.endC3 rfl rfl rfl rfl k2 Tryz.underlying25 rfl (m:=4) (by kernel_rfl) rfl (.inl rfl) ?_
  rw[hps2]
  exact⟨bel, .agg #[.int .i64 0, .string (strOf []), .slice none 0 0, .slice none 0 0],fun _=>False,rfl,RepT.zero _ _,fun b h=>h.elim⟩
end Go.Proofs.YtaamkfajnpobfaaGreat
namespace Go.Proofs.YtaamkfajnpobfaaGreat
open Go.RowKit
def InE (gt:Nat)(W0:World)(x:Ex)(W:World):Prop:=∃(S:Nat→Prop) (v:Value),Blk W gt 35 v.cells∧RepE W S x v∧∀b,S b→W0.heap.size≤b∧b<W.heap.size
def parseX (l:List Nat):Ex × Nat × Int:=if(parAt l (exprQ (lexAll l).1)).2≠0 then(zeroEx,(parAt l (exprQ (lexAll l).1)).1,(parAt l (exprQ (lexAll l).1)).2) else match exprQ (lexAll l).1 with
 | .ok x _=>if rightB x=true then(x,0,0) else(zeroEx,0,13)
 |_=>(zeroEx,0,0)
theorem InE.kept {gt:Nat}{w W0 W W':World}{a:Ex}{g:Nat}(h:InE gt W0 a W)(hgt:gt<w.heap.size)(h2:w.heap.size≤g)(h3:g<W0.heap.size)(h4:W0.heap.size≤W.heap.size)(h5:W.heap.size≤W'.heap.size)(h6:∀k,k<W.heap.size→k≠g→W'.heap[k]? =W.heap[k]?):InE gt w a W':=by
 obtain⟨S,v,h7,h8,h9⟩:=h
 refine⟨S,v,?_,h8.mono (fun _ h=>h) (fun p hp=>World.cell?_of_block (h6 _ (h9 _ hp).2 (by have:=(h9 _ hp).1;omega))),fun b hb=>⟨by have:=(h9 b hb).1;omega,by have:=(h9 b hb).2;omega⟩⟩
 unfold Blk at h7⊢
 rw[h6 gt (by omega) (by omega)]
 exact h7
end Go.Proofs.YtaamkfajnpobfaaGreat
namespace Go.Proofs.YtaamkfajnpobfaaGreat
open Go.RowKit
theorem sameExpr_any (N:Nat):∀(e:Ex) (B:Nat) (v u:Value) (w:World),e.nodes≤N→Rep w B e v→Rep w B e u→B≤w.heap.size→Calls Tryz.prog 12 #[v,u] w fun en w'=>en= .returned (.bool true)∧Grow w w':=by
 induction N with
 |zero=>intro e B v u w hN;have:=e.nodes_pos;omega
 |succ N ih=>
 intro e B v u w hN hrep hrep' hB
 obtain⟨A,c,rfl,hv⟩:=hrep.open
 obtain⟨A',c',rfl,hv'⟩:=hrep'.open
 have bel:=Below.refl w.heap.size w
 have h60:=hv.h60
 have hnm:=hv.name
 refine Zs 53 Tryz.func12 ?_
 refine Zsr ?_
 refine Seq.box rfl rfl rfl rfl rfl ?_
 intro g2 w1 n2
 have e2:=Nat.le_trans bel.size n2.ge
 replace bel:=bel.step n2.below
 have k2:=n2.blk
 refine Seq.box rfl rfl rfl rfl rfl ?_
 intro g3 w2 n3
 have e3:=Nat.le_trans bel.size n3.ge
 have l3:=Nat.lt_of_lt_of_le k2.lt n3.ge
 replace bel:=bel.step n3.below
 replace k2:=k2.step n3.below
 have k3:=n3.blk
 refine Za ?_
 refine Zk5 0 1 2 3 4 (Zts (Zsr ?_))
 refine Zf 0 Tryz.underlying35 ?_
 refine Zv (Runs.loadB rfl rfl Tryz.underlying3 rfl k2 rfl) ?_
 refine Zf 0 Tryz.underlying35 ?_
 refine Zv (Runs.loadB rfl rfl Tryz.underlying3 rfl k3 rfl) ?_
 refine Zv (Runs.neqI rfl rfl rfl) ?_
 refine Zm ?_
 refine SeqC.start ?_
 refine Zco (fun hcx=>Runs.fieldB 1 rfl rfl Tryz.underlying35 rfl (by kernel_rfl)) ?_
 refine SeqC.next rfl rfl rfl rfl rfl rfl rfl (fun hcx=>Runs.loadB rfl rfl Tryz.underlying2 rfl k2 rfl) ?_
 refine SeqC.next rfl rfl rfl rfl rfl rfl rfl (fun hcx=>Runs.fieldB 1 rfl rfl Tryz.underlying35 rfl (by kernel_rfl)) ?_
 refine SeqC.next rfl rfl rfl rfl rfl rfl rfl (fun hcx=>Runs.loadB rfl rfl Tryz.underlying2 rfl k3 rfl) ?_
 refine SeqC.next rfl rfl rfl rfl rfl rfl rfl (fun hcx=>Runs.neqI rfl rfl rfl) ?_
 refine SeqC.or rfl rfl rfl rfl rfl rfl rfl ?_
 refine Zm ?_
 refine SeqC.start ?_
 refine Zco (fun hcx=>Runs.fieldB 2 rfl rfl Tryz.underlying35 rfl (by kernel_rfl)) ?_
 refine SeqC.next rfl rfl rfl rfl rfl rfl rfl (fun hcx=>Runs.loadB rfl rfl Tryz.underlying9 rfl k2 rfl) ?_
 refine SeqC.next rfl rfl rfl rfl rfl rfl rfl (fun hcx=>Runs.fieldB 2 rfl rfl Tryz.underlying35 rfl (by kernel_rfl)) ?_
 refine SeqC.next rfl rfl rfl rfl rfl rfl rfl (fun hcx=>Runs.loadB rfl rfl Tryz.underlying9 rfl k3 rfl) ?_
 refine SeqC.next rfl rfl rfl rfl rfl rfl rfl (fun hcx=>Runs.neqL (a:=e.name) (b:=e.name) rfl rfl rfl hnm hnm) ?_
 refine SeqC.or rfl rfl rfl rfl rfl rfl rfl ?_
 refine Zm ?_
 refine SeqC.start ?_
 refine Zco (fun hcx=>Runs.fieldB 3 rfl rfl Tryz.underlying35 rfl (by kernel_rfl)) ?_
 refine SeqC.next rfl rfl rfl rfl rfl rfl rfl (fun hcx=>Runs.loadB rfl rfl Tryz.underlying22 rfl k2 rfl) ?_
 refine SeqC.next rfl rfl rfl rfl rfl rfl rfl (fun hcx=>Runs.len rfl rfl Tryz.underlying22) ?_
 refine SeqC.next rfl rfl rfl rfl rfl rfl rfl (fun hcx=>Runs.fieldB 3 rfl rfl Tryz.underlying35 rfl (by kernel_rfl)) ?_
 refine SeqC.next rfl rfl rfl rfl rfl rfl rfl (fun hcx=>Runs.loadB rfl rfl Tryz.underlying22 rfl k3 rfl) ?_
 refine SeqC.next rfl rfl rfl rfl rfl rfl rfl (fun hcx=>Runs.len rfl rfl Tryz.underlying22) ?_
 refine SeqC.next rfl rfl rfl rfl rfl rfl rfl (fun hcx=>Runs.neqI rfl rfl rfl) ?_
 refine SeqC.or rfl rfl rfl rfl rfl rfl rfl ?_
 refine Zk6 0 1 2 3 4 33 (Zt ?_)
 refine Cd.condF rfl (by simp) ?_
 refine Cd.skip (Zts (Zsr ?_))
 refine Za ?_
 refine Zk7 0 1 2 3 4 5 33 (Zt (Cd.block ?_))
 refine Cd.loop (σ:=Nat) (fun i=>[(2, .pointer (some ⟨g2,0,none⟩)),(3, .pointer (some ⟨g3,0,none⟩)),(5, .int .i64 (i:Int))])
  (fun i wr=>i≤e.args.length∧Below w.heap.size w wr∧Blk wr g2 35 #[.int .i64 e.op, .int .i64 e.n, .string (strOf e.name), .slice A e.args.length c]∧Blk wr g3 35 #[.int .i64 e.op, .int .i64 e.n, .string (strOf e.name), .slice A' e.args.length c']) (fun i=>e.args.length-i) 0 ⟨Nat.zero_le _,bel,k2,k3⟩ ⟨rfl,rfl,rfl,trivial⟩ ?_
 clear bel k2 k3
 rintro i wr ⟨hi,bel,k2,k3⟩
 refine Cd.seq (Zsr ?_)
 refine Zm ?_
 refine Zf 3 Tryz.underlying35 ?_
 refine Zv (Runs.loadB rfl rfl Tryz.underlying22 rfl k2 rfl) ?_
 refine Zv (Runs.len rfl rfl Tryz.underlying22) ?_
 refine Zv (Runs.lss rfl rfl rfl) ?_
 refine Zk4 2 3 5 38 (Zt ?_)
 refine Cd.condD rfl (fun hc=> ?_) (fun hc=> ?_)
 ·obtain⟨x,hx⟩:∃x,e.args[i]? =some x:=⟨_,List.getElem?_eq_getElem (show i<e.args.length by omega)⟩
  obtain⟨ad,Ax,cx,rfl,hbl,hrx,hc⟩:=hv.arg i x hx
  obtain⟨ad',Ax',cx',rfl,hbl',hrx',hc'⟩:=hv'.arg i x hx
  have hxm:=List.mem_of_getElem? hx
  have hxn:=Ex.arg_nodes hxm
  have hc:=fun W (hb:Below w.heap.size w W) j u hj=>((hb.mono hB).cell (p:=(ad.add (i*4)).add j) (by rw[block_of_add,block_of_add];exact hbl)).trans (hc j u hj)
  have hc':=fun W (hb:Below w.heap.size w W) j u hj=>((hb.mono hB).cell (p:=(ad'.add (i*4)).add j) (by rw[block_of_add,block_of_add];exact hbl')).trans (hc' j u hj)
  have hrec:=fun W (hb:Below w.heap.size w W)=>ih x B _ _ W (by omega) (hrx.below (hb.mono hB)) (hrx'.below (hb.mono hB)) (Nat.le_trans hB hb.size)
  refine Cd.skip (Zts (Cd.block (Cd.seq ?_)))
  refine Cd.draw 12 (by kernel_rfl) [] (.inl rfl) rfl Grow Grow.refl (fun _ _ _=>Grow.trans) ?_
  intro w3 hw3 zw3
  replace bel:=bel.step hw3
  replace k2:=k2.step hw3
  replace k3:=k3.step hw3
  have zbel:=bel.size
  have zlt:=k3.lt
  refine Zd (fun w hG=>Runs.fieldB 3 rfl rfl Tryz.underlying35 rfl (by kernel_rfl)) ?_
  refine Zd (fun w hG=>Runs.loadB rfl rfl Tryz.underlying22 rfl (k2.step hG) rfl) ?_
  refine Zdm ?_
  refine Zd (fun w hG=>Runs.indexN rfl rfl rfl Tryz.underlying22 (s:=4) (by kernel_rfl) (j:=i) rfl (by omega)) ?_
  refine Zd (fun w hG=>Runs.loadF (ps:=[.int .i64 x.op, .int .i64 x.n, .string (strOf x.name), .slice Ax x.args.length cx]) rfl rfl Tryz.underlying35 rfl (m:=4) (by kernel_rfl) rfl (hc _ (bel.step hG))) ?_
  refine Zd (fun w hG=>Runs.fieldB 3 rfl rfl Tryz.underlying35 rfl (by kernel_rfl)) ?_
  refine Zd (fun w hG=>Runs.loadB rfl rfl Tryz.underlying22 rfl (k3.step hG) rfl) ?_
  refine Zdm ?_
  refine Zd (fun w hG=>Runs.indexN rfl rfl rfl Tryz.underlying22 (s:=4) (by kernel_rfl) (j:=i) rfl (by omega)) ?_
  refine Zd (fun w hG=>Runs.loadF (ps:=[.int .i64 x.op, .int .i64 x.n, .string (strOf x.name), .slice Ax' x.args.length cx']) rfl rfl Tryz.underlying35 rfl (m:=4) (by kernel_rfl) rfl (hc' _ (bel.step hG))) ?_
  refine Dr.callV rfl (fun w=>Ze Tryz.func12) rfl (fun w hG=>hrec w (bel.step hG)) ?_
  refine Zd (fun w hG=>Runs.not rfl rfl) ?_
  refine Dr.nil ?_
  refine FinX.done (F':=[(2,_),(3,_),(5,_),(38,_),(52,_)]) rfl ⟨rfl,rfl,rfl,rfl,rfl,trivial⟩ ?_
  intro w4 hw4 fw4
  replace bel:=bel.step hw4
  replace k2:=k2.step hw4
  replace k3:=k3.step hw4
  refine Zk5 2 3 5 38 52 (Zt ?_)
  refine Cd.condF rfl rfl ?_
  refine Cd.skip (Post.block_normal (Ztr ?_))
  refine Zm ?_
  refine Za_ ?_
  refine Za ?_
  refine Zk5 2 3 5 38 52 ?_
  exact Post.round (i+1) ⟨rfl,rfl,rfl,trivial⟩ ⟨by omega,bel,k2,k3⟩ (by omega)
 ·skip
  refine Cd.exit (Post.then_exit (Post.round_exit (Post.block_exit (Ztq ?_))))
  refine Za ?_
  refine Zk5 2 3 4 5 38 (Zt (Cd.ret ?_))
  refine Post.end1 rfl rfl (.inl rfl) ?_
  exact⟨rfl,bel⟩
theorem sameTerm_any (N:Nat):∀(t:Tm) (B:Nat) (v u:Value) (w:World),t.nodes≤N→RepB w B t v→RepB w B t u→B≤w.heap.size→Calls Tryz.prog 8 #[v,u] w fun en w'=>en= .returned (.bool true)∧Grow w w':=by
 induction N with
 |zero=>intro t B v u w hN;have:=t.nodes_pos;omega
 |succ N ih=>
 intro t B v u w hN hrep hrep' hB
 obtain⟨A,c,D,d,rfl,hv⟩:=hrep.open
 obtain⟨A',c',D',d',rfl,hv'⟩:=hrep'.open
 have bel:=Below.refl w.heap.size w
 have h60:=hv.h60
 have h60':=hv.h60'
 have hnm:=hv.name
 refine Zs 75 Tryz.func8 ?_
 refine Zsr ?_
 refine Seq.box rfl rfl rfl rfl rfl ?_
 intro g2 w1 n2
 have e2:=Nat.le_trans bel.size n2.ge
 replace bel:=bel.step n2.below
 have k2:=n2.blk
 refine Seq.box rfl rfl rfl rfl rfl ?_
 intro g3 w2 n3
 have e3:=Nat.le_trans bel.size n3.ge
 have l3:=Nat.lt_of_lt_of_le k2.lt n3.ge
 replace bel:=bel.step n3.below
 replace k2:=k2.step n3.below
 have k3:=n3.blk
 refine Za ?_
 refine Zk5 0 1 2 3 4 (Zts (Zsr ?_))
 refine Zf 0 Tryz.underlying25 ?_
 refine Zv (Runs.loadB rfl rfl Tryz.underlying3 rfl k2 rfl) ?_
 refine Zf 0 Tryz.underlying25 ?_
 refine Zv (Runs.loadB rfl rfl Tryz.underlying3 rfl k3 rfl) ?_
 refine Zv (Runs.neqI rfl rfl rfl) ?_
 refine Zm ?_
 refine SeqC.start ?_
 refine Zco (fun hcx=>Runs.fieldB 1 rfl rfl Tryz.underlying25 rfl (by kernel_rfl)) ?_
 refine SeqC.next rfl rfl rfl rfl rfl rfl rfl (fun hcx=>Runs.loadB rfl rfl Tryz.underlying9 rfl k2 rfl) ?_
 refine SeqC.next rfl rfl rfl rfl rfl rfl rfl (fun hcx=>Runs.fieldB 1 rfl rfl Tryz.underlying25 rfl (by kernel_rfl)) ?_
 refine SeqC.next rfl rfl rfl rfl rfl rfl rfl (fun hcx=>Runs.loadB rfl rfl Tryz.underlying9 rfl k3 rfl) ?_
 refine SeqC.next rfl rfl rfl rfl rfl rfl rfl (fun hcx=>Runs.neqL (a:=t.name) (b:=t.name) rfl rfl rfl hnm hnm) ?_
 refine SeqC.or rfl rfl rfl rfl rfl rfl rfl ?_
 refine Zm ?_
 refine SeqC.start ?_
 refine Zco (fun hcx=>Runs.fieldB 2 rfl rfl Tryz.underlying25 rfl (by kernel_rfl)) ?_
 refine SeqC.next rfl rfl rfl rfl rfl rfl rfl (fun hcx=>Runs.loadB rfl rfl Tryz.underlying22 rfl k2 rfl) ?_
 refine SeqC.next rfl rfl rfl rfl rfl rfl rfl (fun hcx=>Runs.len rfl rfl Tryz.underlying22) ?_
 refine SeqC.next rfl rfl rfl rfl rfl rfl rfl (fun hcx=>Runs.fieldB 2 rfl rfl Tryz.underlying25 rfl (by kernel_rfl)) ?_
 refine SeqC.next rfl rfl rfl rfl rfl rfl rfl (fun hcx=>Runs.loadB rfl rfl Tryz.underlying22 rfl k3 rfl) ?_
 refine SeqC.next rfl rfl rfl rfl rfl rfl rfl (fun hcx=>Runs.len rfl rfl Tryz.underlying22) ?_
 refine SeqC.next rfl rfl rfl rfl rfl rfl rfl (fun hcx=>Runs.neqI rfl rfl rfl) ?_
 refine SeqC.or rfl rfl rfl rfl rfl rfl rfl ?_
 refine Zm ?_
 refine SeqC.start ?_
 refine Zco (fun hcx=>Runs.fieldB 3 rfl rfl Tryz.underlying25 rfl (by kernel_rfl)) ?_
 refine SeqC.next rfl rfl rfl rfl rfl rfl rfl (fun hcx=>Runs.loadB rfl rfl Tryz.underlying23 rfl k2 rfl) ?_
 refine SeqC.next rfl rfl rfl rfl rfl rfl rfl (fun hcx=>Runs.len rfl rfl Tryz.underlying23) ?_
 refine SeqC.next rfl rfl rfl rfl rfl rfl rfl (fun hcx=>Runs.fieldB 3 rfl rfl Tryz.underlying25 rfl (by kernel_rfl)) ?_
 refine SeqC.next rfl rfl rfl rfl rfl rfl rfl (fun hcx=>Runs.loadB rfl rfl Tryz.underlying23 rfl k3 rfl) ?_
 refine SeqC.next rfl rfl rfl rfl rfl rfl rfl (fun hcx=>Runs.len rfl rfl Tryz.underlying23) ?_
 refine SeqC.next rfl rfl rfl rfl rfl rfl rfl (fun hcx=>Runs.neqI rfl rfl rfl) ?_
 refine SeqC.or rfl rfl rfl rfl rfl rfl rfl ?_
 refine Zk6 0 1 2 3 4 36 (Zt ?_)
 refine Cd.condF rfl (by simp) ?_
 refine Cd.skip (Zts (Zsr ?_))
 refine Za ?_
 refine Zk7 0 1 2 3 4 5 36 (Zt (Cd.block ?_))
 refine Cd.loop (σ:=Nat) (fun i=>[(2, .pointer (some ⟨g2,0,none⟩)),(3, .pointer (some ⟨g3,0,none⟩)),(5, .int .i64 (i:Int))])
  (fun i wr=>i≤t.exprs.length∧Below w.heap.size w wr∧Blk wr g2 25 #[.int .i64 t.op, .string (strOf t.name), .slice A t.exprs.length c, .slice D t.terms.length d]∧Blk wr g3 25 #[.int .i64 t.op, .string (strOf t.name), .slice A' t.exprs.length c', .slice D' t.terms.length d']) (fun i=>t.exprs.length-i) 0 ⟨Nat.zero_le _,bel,k2,k3⟩ ⟨rfl,rfl,rfl,trivial⟩ ?_
 clear bel k2 k3
 rintro i wr ⟨hi,bel,k2,k3⟩
 refine Cd.seq (Zsr ?_)
 refine Zm ?_
 refine Zf 2 Tryz.underlying25 ?_
 refine Zv (Runs.loadB rfl rfl Tryz.underlying22 rfl k2 rfl) ?_
 refine Zv (Runs.len rfl rfl Tryz.underlying22) ?_
 refine Zv (Runs.lss rfl rfl rfl) ?_
 refine Zk4 2 3 5 41 (Zt ?_)
 refine Cd.condD rfl (fun hc=> ?_) (fun hc=> ?_)
 ·obtain⟨x,hx⟩:∃x,t.exprs[i]? =some x:=⟨_,List.getElem?_eq_getElem (show i<t.exprs.length by omega)⟩
  obtain⟨ad,Ax,cx,rfl,hbl,hrx,hc⟩:=hv.expr i x hx
  obtain⟨ad',Ax',cx',rfl,hbl',hrx',hc'⟩:=hv'.expr i x hx
  have hc:=fun W (hb:Below w.heap.size w W) j u hj=>((hb.mono hB).cell (p:=(ad.add (i*4)).add j) (by rw[block_of_add,block_of_add];exact hbl)).trans (hc j u hj)
  have hc':=fun W (hb:Below w.heap.size w W) j u hj=>((hb.mono hB).cell (p:=(ad'.add (i*4)).add j) (by rw[block_of_add,block_of_add];exact hbl')).trans (hc' j u hj)
  have hrec:=fun W (hb:Below w.heap.size w W)=>sameExpr_any x.nodes x B _ _ W (Nat.le_refl _) (hrx.below (hb.mono hB)) (hrx'.below (hb.mono hB)) (Nat.le_trans hB hb.size)
  refine Cd.skip (Zts (Cd.block (Cd.seq ?_)))
  refine Cd.draw 12 (by kernel_rfl) [] (.inl rfl) rfl Grow Grow.refl (fun _ _ _=>Grow.trans) ?_
  intro w3 hw3 zw3
  replace bel:=bel.step hw3
  replace k2:=k2.step hw3
  replace k3:=k3.step hw3
  have zbel:=bel.size
  have zlt:=k3.lt
  refine Zd (fun w hG=>Runs.fieldB 2 rfl rfl Tryz.underlying25 rfl (by kernel_rfl)) ?_
  refine Zd (fun w hG=>Runs.loadB rfl rfl Tryz.underlying22 rfl (k2.step hG) rfl) ?_
  refine Zdm ?_
  refine Zd (fun w hG=>Runs.indexN rfl rfl rfl Tryz.underlying22 (s:=4) (by kernel_rfl) (j:=i) rfl (by omega)) ?_
  refine Zd (fun w hG=>Runs.loadF (ps:=[.int .i64 x.op, .int .i64 x.n, .string (strOf x.name), .slice Ax x.args.length cx]) rfl rfl Tryz.underlying35 rfl (m:=4) (by kernel_rfl) rfl (hc _ (bel.step hG))) ?_
  refine Zd (fun w hG=>Runs.fieldB 2 rfl rfl Tryz.underlying25 rfl (by kernel_rfl)) ?_
  refine Zd (fun w hG=>Runs.loadB rfl rfl Tryz.underlying22 rfl (k3.step hG) rfl) ?_
  refine Zdm ?_
  refine Zd (fun w hG=>Runs.indexN rfl rfl rfl Tryz.underlying22 (s:=4) (by kernel_rfl) (j:=i) rfl (by omega)) ?_
  refine Zd (fun w hG=>Runs.loadF (ps:=[.int .i64 x.op, .int .i64 x.n, .string (strOf x.name), .slice Ax' x.args.length cx']) rfl rfl Tryz.underlying35 rfl (m:=4) (by kernel_rfl) rfl (hc' _ (bel.step hG))) ?_
  refine Dr.callV rfl (fun w=>Ze Tryz.func12) rfl (fun w hG=>hrec w (bel.step hG)) ?_
  refine Zd (fun w hG=>Runs.not rfl rfl) ?_
  refine Dr.nil ?_
  refine FinX.done (F':=[(2,_),(3,_),(5,_),(41,_),(55,_)]) rfl ⟨rfl,rfl,rfl,rfl,rfl,trivial⟩ ?_
  intro w4 hw4 fw4
  replace bel:=bel.step hw4
  replace k2:=k2.step hw4
  replace k3:=k3.step hw4
  refine Zk5 2 3 5 41 55 (Zt ?_)
  refine Cd.condF rfl rfl ?_
  refine Cd.skip (Post.block_normal (Ztr ?_))
  refine Zm ?_
  refine Za_ ?_
  refine Za ?_
  refine Zk5 2 3 5 41 55 ?_
  exact Post.round (i+1) ⟨rfl,rfl,rfl,trivial⟩ ⟨by omega,bel,k2,k3⟩ (by omega)
 ·skip
  refine Cd.exit (Post.then_exit (Post.round_exit (Post.block_exit (Zts (Zsr ?_)))))
  refine Za ?_
  refine Zk5 2 3 5 6 41 (Zt (Cd.block ?_))
  refine Cd.loop (σ:=Nat) (fun i=>[(2, .pointer (some ⟨g2,0,none⟩)),(3, .pointer (some ⟨g3,0,none⟩)),(6, .int .i64 (i:Int))])
   (fun i wr=>i≤t.terms.length∧Below w.heap.size w wr∧Blk wr g2 25 #[.int .i64 t.op, .string (strOf t.name), .slice A t.exprs.length c, .slice D t.terms.length d]∧Blk wr g3 25 #[.int .i64 t.op, .string (strOf t.name), .slice A' t.exprs.length c', .slice D' t.terms.length d']) (fun i=>t.terms.length-i) 0 ⟨Nat.zero_le _,bel,k2,k3⟩ ⟨rfl,rfl,rfl,trivial⟩ ?_
  clear bel k2 k3
  rintro i wr ⟨hi,bel,k2,k3⟩
  refine Cd.seq (Zsr ?_)
  refine Zm ?_
  refine Zf 3 Tryz.underlying25 ?_
  refine Zv (Runs.loadB rfl rfl Tryz.underlying23 rfl k2 rfl) ?_
  refine Zv (Runs.len rfl rfl Tryz.underlying23) ?_
  refine Zv (Runs.lss rfl rfl rfl) ?_
  refine Zk4 2 3 6 60 (Zt ?_)
  refine Cd.condD rfl (fun hc=> ?_) (fun hc=> ?_)
  ·obtain⟨x,hx⟩:∃x,t.terms[i]? =some x:=⟨_,List.getElem?_eq_getElem (show i<t.terms.length by omega)⟩
   obtain⟨ad,A1,A2,c1,c2,rfl,hbl,hrx,hc⟩:=hv.term i x hx
   obtain⟨ad',A1',A2',c1',c2',rfl,hbl',hrx',hc'⟩:=hv'.term i x hx
   have hxm:=List.mem_of_getElem? hx
   have hxn:=Tm.term_nodes hxm
   have hc:=fun W (hb:Below w.heap.size w W) j u hj=>((hb.mono hB).cell (p:=(ad.add (i*4)).add j) (by rw[block_of_add,block_of_add];exact hbl)).trans (hc j u hj)
   have hc':=fun W (hb:Below w.heap.size w W) j u hj=>((hb.mono hB).cell (p:=(ad'.add (i*4)).add j) (by rw[block_of_add,block_of_add];exact hbl')).trans (hc' j u hj)
   have hrec:=fun W (hb:Below w.heap.size w W)=>ih x B _ _ W (by omega) (hrx.below (hb.mono hB)) (hrx'.below (hb.mono hB)) (Nat.le_trans hB hb.size)
   refine Cd.skip (Zts (Cd.block (Cd.seq ?_)))
   refine Cd.draw 12 (by kernel_rfl) [] (.inl rfl) rfl Grow Grow.refl (fun _ _ _=>Grow.trans) ?_
   intro w3 hw3 zw3
   replace bel:=bel.step hw3
   replace k2:=k2.step hw3
   replace k3:=k3.step hw3
   have zbel:=bel.size
   have zlt:=k3.lt
   refine Zd (fun w hG=>Runs.fieldB 3 rfl rfl Tryz.underlying25 rfl (by kernel_rfl)) ?_
   refine Zd (fun w hG=>Runs.loadB rfl rfl Tryz.underlying23 rfl (k2.step hG) rfl) ?_
   refine Zdm ?_
   refine Zd (fun w hG=>Runs.indexN rfl rfl rfl Tryz.underlying23 (s:=4) (by kernel_rfl) (j:=i) rfl (by omega)) ?_
   refine Zd (fun w hG=>Runs.loadF (ps:=[.int .i64 x.op, .string (strOf x.name), .slice A1 x.exprs.length c1, .slice A2 x.terms.length c2]) rfl rfl Tryz.underlying25 rfl (m:=4) (by kernel_rfl) rfl (hc _ (bel.step hG))) ?_
   refine Zd (fun w hG=>Runs.fieldB 3 rfl rfl Tryz.underlying25 rfl (by kernel_rfl)) ?_
   refine Zd (fun w hG=>Runs.loadB rfl rfl Tryz.underlying23 rfl (k3.step hG) rfl) ?_
   refine Zdm ?_
   refine Zd (fun w hG=>Runs.indexN rfl rfl rfl Tryz.underlying23 (s:=4) (by kernel_rfl) (j:=i) rfl (by omega)) ?_
   refine Zd (fun w hG=>Runs.loadF (ps:=[.int .i64 x.op, .string (strOf x.name), .slice A1' x.exprs.length c1', .slice A2' x.terms.length c2']) rfl rfl Tryz.underlying25 rfl (m:=4) (by kernel_rfl) rfl (hc' _ (bel.step hG))) ?_
   refine Dr.callV rfl (fun w=>Ze Tryz.func8) rfl (fun w hG=>hrec w (bel.step hG)) ?_
   refine Zd (fun w hG=>Runs.not rfl rfl) ?_
   refine Dr.nil ?_
   refine FinX.done (F':=[(2,_),(3,_),(6,_),(60,_),(74,_)]) rfl ⟨rfl,rfl,rfl,rfl,rfl,trivial⟩ ?_
   intro w4 hw4 fw4
   replace bel:=bel.step hw4
   replace k2:=k2.step hw4
   replace k3:=k3.step hw4
   refine Zk5 2 3 6 60 74 (Zt ?_)
   refine Cd.condF rfl rfl ?_
   refine Cd.skip (Post.block_normal (Ztr ?_))
   refine Zm ?_
   refine Za_ ?_
   refine Za ?_
   refine Zk5 2 3 6 60 74 ?_
   exact Post.round (i+1) ⟨rfl,rfl,rfl,trivial⟩ ⟨by omega,bel,k2,k3⟩ (by omega)
  ·skip
   refine Cd.exit (Post.then_exit (Post.round_exit (Post.block_exit (Ztq ?_))))
   refine Za ?_
   refine Zk5 2 3 4 6 60 (Zt (Cd.ret ?_))
   refine Post.end1 rfl rfl (.inl rfl) ?_
   exact⟨rfl,bel⟩
end Go.Proofs.YtaamkfajnpobfaaGreat
namespace Go.Proofs.YtaamkfajnpobfaaGreat
open Go.RowKit
def sampT:List Nat:=[119,104,101,110,40,100,97,121,32,62,61,32,50,48,50,52,45,48,49,45,51,49,44,32,111,110,101,40,85,83,68,41,41]
def wantE:Ex:= .mk 15 0 [] [.mk 4 0 [] [], .mk 2 19753 [] []]
def wantU:Tm:= .mk 2 [85,83,68] [] []
def wantT:Tm:= .mk 7 [] [wantE] [wantU]
theorem RepT.name (w:World)(S:Nat→Prop)(o:Int)(nm:List Nat)(ho:I64 o)(hn:∀d∈nm,d<256)(hl:nm.length≤9223372036854775807):RepT w S (.mk o nm [] []) (.agg #[.int .i64 o, .string (strOf nm), .slice none 0 0, .slice none 0 0]):=
 RepT.mk (es:=[]) (ts:=[]) (vs:=[]) (us:=[]) rfl rfl (by decide) (by decide) ho hn hl (fun i e v he=>by cases he) (fun i e v he=>by cases he) (fun h=>absurd rfl h) fun h=>absurd rfl h
end Go.Proofs.YtaamkfajnpobfaaGreat
namespace Go.Proofs.YtaamkfajnpobfaaGreat
open Go.RowKit
def Begin (c:Nat):Prop:=c≠32∧c≠9∧c≠10∧c≠35
end Go.Proofs.YtaamkfajnpobfaaGreat
namespace Go.Proofs.YtaamkfajnpobfaaGreat
open Go.RowKit
def Bnd (l:List Nat)(p:Nat):Prop:=∀c d,0<p→l[p-1]? =some c→l[p]? =some d→partB c=true→partB d=true→False
end Go.Proofs.YtaamkfajnpobfaaGreat
namespace Go.Proofs.YtaamkfajnpobfaaGreat
open Go.RowKit
theorem Bnd.drop {l:List Nat}{p m:Nat}(h:Bnd l (p+m))(hm:0<m):Bnd (l.drop p) m:=by
 intro c d h0 hc hd
 rw[List.getElem?_drop] at hc hd
 exact h c d (by omega) (by rw[←hc];congr 1;omega) hd
end Go.Proofs.YtaamkfajnpobfaaGreat
namespace Go.Proofs.YtaamkfajnpobfaaGreat
section
variable {α β:Type} {ws:List Wd} {j:Nat}
def Goes (j:Nat)(r r':Rs α):Prop:=∀a q,r= .ok a q→(q≤j∧r'= .ok a q)∨(j<q∧(r'= .bad j false∨∃a',r'= .ok a' j))
def Stops (j:Nat)(r r':Rs α):Prop:=∀a q,r= .ok a q→(q≤j∧r'= .ok a q)∨(j<q∧r'= .bad j false)
theorem Stops.goes {r r':Rs α}(h:Stops j r r'):Goes j r r':=fun a q e=>(h a q e).imp id fun h=>⟨h.1, .inl h.2⟩
def Cut (j:Nat)(f f':Nat→Nat→Rs α)(m:Nat):Prop:=∀p d,m≤p→p≤j→Goes j (f p d) (f' p d)
def CutS (j:Nat)(f f':Nat→Nat→Rs α)(m:Nat):Prop:=∀p d,m≤p→p≤j→Stops j (f p d) (f' p d)
theorem Cut.up {f f':Nat→Nat→Rs α}{m m':Nat}(h:Cut j f f' m)(hm:m≤m'):Cut j f f' m':=fun p d h1 h2=>h p d (by omega) h2
theorem Stops.bind {r r':Rs α}{f f':α→Nat→Rs β}(h:Stops j r r')(hq:∀a p b q,f a p= .ok b q→p≤q)(hf:∀a p,r= .ok a p→p≤j→Stops j (f a p) (f' a p)):Stops j (r.bind f) (r'.bind f'):=fun b q e=>by
 obtain⟨a,p,h1,e⟩:=Rs.bind_eq_ok e
 have:=hq _ _ _ _ e
 rcases h a p h1 with ⟨h2,h3⟩|⟨h2,h3⟩
 ·rw[h3];exact hf a p h1 h2 b q e
 ·rw[h3];exact .inr ⟨by omega,rfl⟩
theorem Stops.same {a:α}{p:Nat}(h:p≤j):Stops j (.ok a p) (.ok a p):=fun b q e=>by
 injection e with e1 e2
 subst e1 e2
 exact .inl ⟨h,rfl⟩
theorem Stops.bad {p:Nat}{o:Bool}{r':Rs α}:Stops j (.bad p o) r':=fun b q e=>by cases e
theorem map_fst (k:Nat)(f f':Nat→Nat→Rs α):(List.replicate k (f,f')).map Prod.fst=List.replicate k f:=by rw[List.map_replicate]
theorem map_snd (k:Nat)(f f':Nat→Nat→Rs α):(List.replicate k (f,f')).map Prod.snd=List.replicate k f':=by rw[List.map_replicate]
theorem Goes.bind {r r':Rs α}{f f':α→Nat→Rs β}(h:Goes j r r')(hq:∀a p b q,f a p= .ok b q→p≤q)(hf:∀a p,r= .ok a p→p≤j→Goes j (f a p) (f' a p))(he:∀a,∃b,f' a j= .ok b j):Goes j (r.bind f) (r'.bind f'):=fun b q e=>by
 obtain⟨a,p,h1,e⟩:=Rs.bind_eq_ok e
 have:=hq _ _ _ _ e
 rcases h a p h1 with ⟨h2,h3⟩|⟨h2,h3|⟨a',h3⟩⟩
 ·rw[h3];exact hf a p h1 h2 b q e
 ·rw[h3];exact .inr ⟨by omega, .inl rfl⟩
 ·rw[h3]
  obtain⟨b',hb⟩:=he a'
  exact .inr ⟨by omega, .inr ⟨b',hb⟩⟩
theorem Goes.same {a:α}{p:Nat}(h:p≤j):Goes j (.ok a p) (.ok a p):=(Stops.same h).goes
end
structure CutF (j:Nat)(f f':PF)(m:Nat):Prop where
 E:∀lvl,Cut j (f.E lvl) (f'.E lvl) m
 L:∀lvl x p d,m≤p→p≤j→Goes j (f.L lvl x p d) (f'.L lvl x p d)
 S:Cut j f.S f'.S m
 fin:m≤j→∀lvl x d,f'.L lvl x j d= .ok x j
theorem Goes.map {α β:Type}{j:Nat}{r r':Rs α}(h:Goes j r r')(f:α→β):Goes j (r.map f) (r'.map f):=h.bind (fun a p b q e=>by injection e with _ e;omega) (fun a p _ hp=>Goes.same hp) (fun a=>⟨_,rfl⟩)
end Go.Proofs.YtaamkfajnpobfaaGreat
namespace Go.Proofs.YtaamkfajnpobfaaGreat
section
variable {α β:Type} {ws:List Wd}
def Le (r r':Rs α):Prop:=r≠ .out→r'=r
theorem Le.refl (r:Rs α):Le r r:=fun _=>rfl
theorem Le.bind {r r':Rs α}{f f':α→Nat→Rs β}(h:Le r r')(hf:∀a p,Le (f a p) (f' a p)):Le (r.bind f) (r'.bind f'):=fun hne=>by
 have h1:=h (Rs.bind_ne hne)
 rw[h1]
 cases r with
 |out=>rfl
 |bad p o=>rfl
 |ok a p=>exact hf a p hne
def LeF (f f':Nat→Nat→Rs α):Prop:=∀p d,Le (f p d) (f' p d)
theorem parts_le:∀(M:List ((Nat→Nat→Rs α) × (Nat→Nat→Rs α))),(∀x∈M,LeF x.1 x.2)→∀first p d,Le (partsP ws (M.map Prod.fst) first p d) (partsP ws (M.map Prod.snd) first p d)
 | [],_,first,p,d=>Le.refl _
 |x::M,hM,first,p,d=>by
  rw[List.map_cons,List.map_cons,partsP,partsP]
  refine(Le.refl _).bind fun u p1=> ?_
  refine(hM x (by simp) p1 d).bind fun y p2=> ?_
  exact(parts_le M (fun z hz=>hM z (by simp[hz])) false p2 d).bind fun ys p3=>Le.refl _
theorem within_le (M:List ((Nat→Nat→Rs α) × (Nat→Nat→Rs α)))(hM:∀x∈M,LeF x.1 x.2):LeF (withinP ws (M.map Prod.fst)) (withinP ws (M.map Prod.snd)):=fun p d=>by
 unfold withinP
 refine(Le.refl _).bind fun u p1=> ?_
 refine(Le.refl _).bind fun u2 p2=> ?_
 refine(parts_le M hM true p2 (d+1)).bind fun xs p3=> ?_
 exact Le.refl _
theorem called_le {E0 E0':Nat→Nat→Rs Ex}(hE:LeF E0 E0')(op:Int)(k p d:Nat):Le (calledP ws E0 op k p d) (calledP ws E0' op k p d):=by
 unfold calledP
 have:=within_le (ws:=ws) (List.replicate k (E0,E0')) (fun x hx=>by rw[(List.mem_replicate.1 hx).2];exact hE) (p+1) d
 rw[map_fst,map_snd] at this
 exact this.bind fun xs q=>Le.refl _
theorem atom_le {E0 E0':Nat→Nat→Rs Ex}(hE:LeF E0 E0'):LeF (atomP ws E0) (atomP ws E0'):=fun p d=>by
 unfold atomP
 split
 ·exact Le.refl _
 split
 ·exact Le.refl _
 split
 ·split
  ·exact Le.refl _
  split
  ·exact called_le hE 9 2 p d
  split
  ·exact called_le hE 10 2 p d
  split
  ·exact called_le hE 21 3 p d
  exact Le.refl _
 split
 ·exact(within_le (ws:=ws) [(E0,E0')] (fun x hx=>by rw[List.mem_singleton.1 hx];exact hE) p d).bind fun xs q=>Le.refl _
 exact Le.refl _
theorem ahead_le {S S':Nat→Nat→Rs Ex}(hS:LeF S S')(op:Int):LeF (aheadP S op) (aheadP S' op):=fun p d=>by
 unfold aheadP
 refine(Le.refl _).bind fun u p1=> ?_
 exact(hS _ _).bind fun x q=>Le.refl _
theorem unary_le {S S' E0 E0':Nat→Nat→Rs Ex}(hS:LeF S S')(hE:LeF E0 E0'):LeF (unaryP ws S E0) (unaryP ws S' E0'):=fun p d=>by
 unfold unaryP
 split
 ·exact ahead_le hS 19 p d
 split
 ·exact ahead_le hS 20 p d
 exact atom_le hE p d
structure LeP (f f':PF):Prop where
 E:∀lvl,LeF (f.E lvl) (f'.E lvl)
 L:∀lvl x p d,Le (f.L lvl x p d) (f'.L lvl x p d)
 S:LeF f.S f'.S
theorem loop_le {f f':PF}(h:LeP f f')(lvl:Nat)(x:Ex)(p d:Nat):Le (loopP ws f lvl x p d) (loopP ws f' lvl x p d):=by
 unfold loopP
 cases opAt ws lvl p with
 |none=>exact Le.refl _
 |some op=>
  refine(h.E (lvl+1) (p+1) d).bind fun r q=> ?_
  split
  ·exact Le.refl _
  ·exact h.L _ _ _ _
theorem lev_le {L L':Nat→Ex→Nat→Nat→Rs Ex}{S S':Nat→Nat→Rs Ex}(hL:∀lvl x p d,Le (L lvl x p d) (L' lvl x p d))(hS:LeF S S'):∀i,LeF (levN L S i) (levN L' S' i)
 |0=>hS
 |i+1=>fun p d=>by
  rw[levN,levN]
  exact(lev_le hL hS i p d).bind fun x q=>hL _ _ _ _
theorem fuel_le (ws:List Wd):∀n,LeP (fuelP ws n) (fuelP ws (n+1))
 |0=>⟨fun lvl p d h=>absurd rfl h,fun lvl x p d h=>absurd rfl h,fun p d h=>absurd rfl h⟩
 |n+1=>by
  have ih:=fuel_le ws n
  have hL:=loop_le (ws:=ws) ih
  have hS:=unary_le (ws:=ws) ih.S (ih.E 0)
  exact⟨fun lvl=>lev_le hL hS _,hL,hS⟩
end
def fullP (ws:List Wd):PF:=fuelP ws (ws.length+1)
def fullT (ws:List Wd):Nat→Nat→Rs Tm:=fuelT ws (ws.length+1)
theorem full_def (ws:List Wd):PDef (fullP ws) 0:=fuelP_def ws ws.length 0 (by omega)
theorem full_L (ws:List Wd)(lvl:Nat)(x:Ex)(p d:Nat):(fullP ws).L lvl x p d=loopP ws (fullP ws) lvl x p d:=((fuel_le ws (ws.length+1)).L lvl x p d ((full_def ws).L lvl x p d (Nat.zero_le _))).symm
theorem full_S (ws:List Wd)(p d:Nat):(fullP ws).S p d=unaryP ws (fullP ws).S ((fullP ws).E 0) p d:=((fuel_le ws (ws.length+1)).S p d ((full_def ws).S p d (Nat.zero_le _))).symm
theorem full_E (ws:List Wd)(lvl p d:Nat)(h:lvl<5):(fullP ws).E lvl p d=((fullP ws).E (lvl+1) p d).bind fun x p=>(fullP ws).L lvl x p d:=fuelP_E ws ws.length lvl p d h
theorem full_E5 (ws:List Wd)(p d:Nat):(fullP ws).E 5 p d=(fullP ws).S p d:=rfl
end Go.Proofs.YtaamkfajnpobfaaGreat
namespace Go.Proofs.YtaamkfajnpobfaaGreat
theorem Rs.bind_ret {α:Type}(r:Rs α):r.bind (fun x q=> .ok x q)=r:=by cases r<;>rfl
def goP (f:PF)(lvl:Nat):Nat→Ex→Nat→Nat→Rs Ex
 |0,x,p,_=> .ok x p
 |k+1,x,p,d=>(f.L (lvl+k) x p d).bind fun y q=>goP f lvl k y q d
theorem goP_snoc (f:PF)(lvl:Nat):∀k x p d,goP f lvl (k+1) x p d=(goP f (lvl+1) k x p d).bind fun y q=>f.L lvl y q d
 |0,x,p,d=>by
  show(f.L (lvl+0) x p d).bind (fun y q=>Rs.ok y q)=_
  rw[Rs.bind_ret]
  rfl
 |k+1,x,p,d=>by
  rw[goP]
  have:(fun y q=>goP f lvl (k+1) y q d)=fun y q=>(goP f (lvl+1) k y q d).bind fun y q=>f.L lvl y q d:=by
   funext y q
   exact goP_snoc f lvl k y q d
  rw[this,←Rs.bind_assoc,show lvl+(k+1)=lvl+1+k by omega]
  rfl
theorem full_go (ws:List Wd)(p d:Nat):∀k lvl,lvl+k=5→(fullP ws).E lvl p d=((fullP ws).S p d).bind fun x q=>goP (fullP ws) lvl k x q d
 |0,lvl,h=>by
  obtain rfl:lvl=5:=by omega
  rw[full_E5]
  exact(Rs.bind_ret _).symm
 |k+1,lvl,h=>by
  rw[full_E ws lvl p d (by omega),full_go ws p d k (lvl+1) (by omega),Rs.bind_assoc]
  congr 1
  funext x q
  exact(goP_snoc _ _ _ _ _ _).symm
def powL (t:List Nat):Option (Nat × Int):=
 if t=[124] then some (0,18) else if t=[38] then some (1,17) else if t=[60] then some (2,11) else if t=[60,61] then some (2,12) else if t=[61] then some (2,13) else if t=[33,61] then some (2,14)
 else if t=[62,61] then some (2,15) else if t=[62] then some (2,16) else if t=[43] then some (3,5) else if t=[45] then some (3,6) else if t=[42] then some (4,7) else if t=[47] then some (4,8) else none
def powAt (ws:List Wd)(p:Nat):Option (Nat × Int):=if(wAt ws p).kind=0 then powL (wAt ws p).text else none
def allS:List (List Nat):=[[124],[38],[60],[60,61],[61],[33,61],[62,61],[62],[43],[45],[42],[47]]
def atL (lvl:Nat)(t:List Nat):Option Int:=match powL t with
 |some (i,op)=>if i=lvl then some op else none
 |none=>none
theorem atL_in:∀lvl,lvl<5→∀t∈allS,(if t∈signsAt lvl then(opsAt lvl)[(signsAt lvl).idxOf t]? else none)=atL lvl t:=by decide+kernel
theorem signs_all:∀lvl,lvl<5→∀t∈signsAt lvl,t∈allS:=by decide+kernel
theorem powL_none {t:List Nat}(h:t∉allS):powL t=none:=by
 unfold allS at h
 simp only[List.mem_cons,List.not_mem_nil,or_false,not_or] at h
 unfold powL
 simp[h]
theorem opAt_pow (ws:List Wd)(lvl p:Nat)(h:lvl<5):opAt ws lvl p=match powAt ws p with
 |some (i,op)=>if i=lvl then some op else none
 |none=>none:=by
 unfold opAt powAt
 by_cases hk:(wAt ws p).kind=0
 ·rw[if_neg (by simp[hk]),if_pos hk]
  generalize (wAt ws p).text=t
  by_cases ht:t∈allS
  ·exact atL_in lvl h t ht
  ·rw[powL_none ht,if_neg (fun h2=>ht (signs_all lvl h t h2))]
 ·rw[if_pos (by simpa using hk),if_neg hk]
theorem goP_none (ws:List Wd)(lvl:Nat){p:Nat}:∀k x d,lvl+k≤5→(∀i op,powAt ws p=some (i,op)→i<lvl∨lvl+k≤i)→goP (fullP ws) lvl k x p d= .ok x p
 |0,x,d,_,_=>rfl
 |k+1,x,d,hk,h=>by
  rw[goP,full_L]
  have ho:opAt ws (lvl+k) p=none:=by
   rw[opAt_pow ws (lvl+k) p (by omega)]
   cases hp:powAt ws p with
   |none=>rfl
   |some z=>
    obtain⟨i,op⟩:=z
    have:=h i op hp
    dsimp only
    rw[if_neg (by omega)]
  unfold loopP
  rw[ho]
  exact goP_none ws lvl k x d (by omega) fun i op hp=>by have:=h i op hp;have h2:=opAt_pow ws (lvl+k) p (by omega);rw[ho,hp] at h2;dsimp only at h2;split at h2;cases h2;omega
theorem goP_step (ws:List Wd)(lvl:Nat){p i:Nat}{op:Int}(hp:powAt ws p=some (i,op)):∀k x d,lvl+k≤5→lvl≤i→i<lvl+k→goP (fullP ws) lvl k x p d=((fullP ws).E (i+1) (p+1) d).bind fun r q=>goP (fullP ws) lvl (if i=2 then 2-lvl else i-lvl+1) (mk2 op x r) q d
 |0,x,d,_,h1,h2=>by omega
 |k+1,x,d,hk,h1,h2=>by
  rw[goP,full_L]
  unfold loopP
  have ho:=opAt_pow ws (lvl+k) p (by omega)
  rw[hp] at ho
  dsimp only at ho
  by_cases hi:i=lvl+k
  ·rw[if_pos hi] at ho
   rw[ho]
   dsimp only
   rw[Rs.bind_assoc,←hi]
   congr 1
   funext r q
   by_cases h3:i=2
   ·rw[if_pos h3,if_pos h3,show k=2-lvl by omega]
    rfl
   ·rw[if_neg h3,if_neg h3,show i-lvl+1=k+1 by omega,goP,hi]
  ·rw[if_neg hi] at ho
   rw[ho]
   exact goP_step ws lvl hp k x d (by omega) h1 (by omega)
end Go.Proofs.YtaamkfajnpobfaaGreat
namespace Go.Proofs.YtaamkfajnpobfaaGreat
def WsB (ws:List Wd):Prop:=∀x∈ws,WdB x
section
variable {α:Type} {ws:List Wd}
end
def BuE (f:Nat→Nat→Rs Ex):Prop:=∀p d x q,f p d= .ok x q→builtB x=true
structure BuF (f:PF):Prop where
 E:∀lvl,BuE (f.E lvl)
 L:∀lvl x p d y q,builtB x=true→f.L lvl x p d= .ok y q→builtB y=true
 S:BuE f.S
def BuT (f:Nat→Nat→Rs Tm):Prop:=∀p d x q,f p d= .ok x q→builtT x=true
end Go.Proofs.YtaamkfajnpobfaaGreat
namespace Go.Proofs.YtaamkfajnpobfaaGreat
def NdE (f:Nat→Nat→Rs Ex):Prop:=∀p d x q,f p d= .ok x q→x.nodes+p≤q
structure NdF (f:PF):Prop where
 E:∀lvl,NdE (f.E lvl)
 L:∀lvl x p d y q,f.L lvl x p d= .ok y q→y.nodes+p≤q+x.nodes
 S:NdE f.S
def NdT (f:Nat→Nat→Rs Tm):Prop:=∀p d x q,f p d= .ok x q→x.nodes+p≤q
def Part.nodes:Part→Nat
 | .inl e=>e.nodes
 | .inr t=>t.nodes
end Go.Proofs.YtaamkfajnpobfaaGreat
namespace Go.Proofs.YtaamkfajnpobfaaGreat
abbrev Tok:=Int × List Nat × Int
def Wd.tok (x:Wd):Tok:=(x.kind,x.text,x.n)
inductive Lex:List Nat→List Tok→Prop
 |nil {l:List Nat} (h:blankN l=l.length):Lex l []
 |cons {l t:List Nat} {k n:Int} {T:List Tok} (h:nextW (l.drop (blankN l))=some (k,t,n)) (hr:Lex ((l.drop (blankN l)).drop t.length) T):Lex l ((k,t,n)::T)
theorem Lex.words {l:List Nat}{T:List Tok}(h:Lex l T):∀(L:List Nat) (p f:Nat),L.drop p=l→p≤L.length→L.length+1≤f+p→∃ws,lexW f L (p+blankN l)=(ws,none)∧ws.map Wd.tok=T:=by
 induction h with
 | @nil l h=>
  intro L p f hd hp hf
  have hl:l.length=L.length-p:=by rw[←hd,List.length_drop]
  exact⟨[],lexW_end _ _ _ (by omega),rfl⟩
 | @cons l t k n T h hr ih=>
  intro L p f hd hp hf
  obtain⟨h1,h2,h3⟩:=nextW_spec h
  have hl:l.length=L.length-p:=by rw[←hd,List.length_drop]
  rw[List.length_drop] at h3
  have hb:=blankN_le l
  have hdd:L.drop (p+blankN l)=l.drop (blankN l):=by rw[←hd,List.drop_drop]
  obtain⟨f,rfl⟩:∃f',f=f'+1:=⟨f-1,by omega⟩
  have hdr:L.drop (p+blankN l+t.length)=(l.drop (blankN l)).drop t.length:=by rw[←hdd,List.drop_drop]
  obtain⟨ws,hw,hm⟩:=ih L (p+blankN l+t.length) f hdr (by omega) (by omega)
  refine⟨⟨k,t,n,p+blankN l⟩::ws,?_,?_⟩
  ·rw[lexW_step f L _ (by omega),hdd,h]
   dsimp only
   rw[hdr,hw]
  ·rw[List.map_cons,hm]
   rfl
theorem Lex.all {l:List Nat}{T:List Tok}(h:Lex l T):(lexAll l).2=none∧(lexAll l).1.map Wd.tok=T:=by
 obtain⟨ws,hw,hm⟩:=h.words l 0 (l.length+1) rfl (Nat.zero_le _) (by omega)
 rw[Nat.zero_add] at hw
 unfold lexAll
 rw[hw]
 exact⟨rfl,hm⟩
theorem blankN_b {c:Nat}(h:blankB c=true)(l:List Nat):blankN (c::l)=blankN l+1:=by rw[blankN_step,if_pos h]
theorem blankN_0 {c:Nat}(h:blankB c=false)(h2:c≠35)(l:List Nat):blankN (c::l)=0:=by rw[blankN_step,if_neg (by rw[h];simp),if_neg h2]
theorem lex_blank {c:Nat}{l:List Nat}{T:List Tok}(hb:blankB c=true)(h:Lex l T):Lex (c::l) T:=by
 cases h with
 |nil h=>exact .nil (by rw[blankN_b hb,h];rfl)
 |cons h hr=>exact .cons (by rw[blankN_b hb,List.drop_succ_cons];exact h) (by rw[blankN_b hb,List.drop_succ_cons];exact hr)
theorem lex_blanks {b l:List Nat}{T:List Tok}(hb:∀c∈b,blankB c=true)(h:Lex l T):Lex (b++l) T:=by
 induction b with
 |nil=>exact h
 |cons c b ih=>exact lex_blank (hb c (by simp)) (ih fun d hd=>hb d (by simp[hd]))
theorem lex_tok {t r:List Nat}{k n:Int}{T:List Tok}(hn:nextW (t++r)=some (k,t,n)∧blankN (t++r)=0)(h:Lex r T):Lex (t++r) ((k,t,n)::T):=by
 refine .cons (by rw[hn.2];exact hn.1) ?_
 rw[hn.2,List.drop_zero,List.drop_left]
 exact h
def Good (r:List Nat):Prop:=∀c q,r=c::q→c=32∨c=44∨c=41∨c=10∨c=40
theorem good_nil:Good []:=fun c q h=>by cases h
theorem good_c {c:Nat}{r:List Nat}(h:c=32∨c=44∨c=41∨c=10∨c=40):Good (c::r):=fun d q e=>by injection e with e1 _;subst e1;exact h
theorem Good.part {r:List Nat}(h:Good r):r=[]∨∃c q,r=c::q∧partB c=false∧digB c=false∧c≠45:=by
 cases r with
 |nil=>exact .inl rfl
 |cons c q=>refine .inr ⟨c,q,rfl,?_⟩;rcases h c q rfl with rfl|rfl|rfl|rfl|rfl<;>decide
theorem run_full {p:Nat→Bool}{t:List Nat}(ht:∀x∈t,p x=true){r:List Nat}(hr:r=[]∨∃c q,r=c::q∧p c=false):runN p (t++r)=t.length:=by
 rcases hr with rfl|⟨c,q,rfl,hc⟩
 ·rw[List.append_nil];exact runN_full p t ht
 ·exact runN_stop_at p t q c ht hc
theorem sign_next {s:List Nat}(hs:s∈signsL){r:List Nat}(hr:∀c q,r=c::q→c≠61):nextW (s++r)=some (0,s,0)∧blankN (s++r)=0:=by
 have hsw:signW (s++r)=some s:=by
  simp only[signsL,List.mem_cons,List.not_mem_nil,or_false] at hs
  cases r with
  |nil=>rcases hs with rfl|rfl|rfl|rfl|rfl|rfl|rfl|rfl|rfl|rfl|rfl|rfl|rfl|rfl|rfl|rfl<;>decide
  |cons c q=>
   have:=hr c q rfl
   rcases hs with rfl|rfl|rfl|rfl|rfl|rfl|rfl|rfl|rfl|rfl|rfl|rfl|rfl|rfl|rfl|rfl<;>simp[signW,signsL,this]
 obtain⟨-,c,q,rfl,h1,h2,h3,h4⟩:=sign_again s hs []
 refine⟨?_,?_⟩
 ·have e:(c::q)++r=c::(q++r):=rfl
  rw[e,nextW_cons,h1,if_neg (by simp),h2,if_neg (by simp),←e,hsw]
  rfl
 ·exact blankN_0 h3 h4 _
theorem name_next {t:List Nat}(h:namedB t=true){r:List Nat}(hr:Good r):nextW (t++r)=some (3,t,0)∧blankN (t++r)=0:=by
 unfold namedB at h
 simp only[Bool.and_eq_true,decide_eq_true_eq] at h
 cases t with
 |nil=>simp at h
 |cons c q=>
  have hc:letB c=true:=by first|exact h.1.2|exact h.2|exact h.1.1.2|simpa using h.1.2
  have hrun:runN partB (c::q)=(c::q).length:=by first|exact h.2|exact h.1.2|simpa using h.2
  have h16:(c::q).length≤16:=by first|exact h.1.1.2|exact h.1.2|exact h.1.1.1
  have hall:∀x∈c::q,partB x=true:=by have:=runN_all partB (c::q);rw[hrun,List.take_length] at this;exact this
  have hr2:runN partB ((c::q)++r)=(c::q).length:=run_full hall (by rcases hr.part with h|⟨d,p,h1,h2,-⟩;exact .inl h;exact .inr ⟨d,p,h1,h2⟩)
  have hd:digB c=false:=by
   unfold letB at hc
   unfold digB
   simp at hc⊢
   omega
  refine⟨?_,?_⟩
  ·have e:(c::q)++r=c::(q++r):=rfl
   rw[e,nextW_cons,hd,if_neg (by simp),if_pos hc,←e,hr2,if_pos h16,List.take_left]
  ·refine blankN_0 ?_ ?_ _
   ·unfold letB at hc
    unfold blankB
    simp at hc⊢
    omega
   ·rintro rfl
    revert hc
    decide
theorem rounds_numN (u:Nat)(h:u<10^20):Rounds u 0 (numN u):=by
 have hex:∃N,(List.range 21).find? (fun N=> !(decide (0<u/10^N)||decide (N≤0)))=some N:=by
  cases hf:(List.range 21).find? (fun N=> !(decide (0<u/10^N)||decide (N≤0))) with
  |some N=>exact⟨N,rfl⟩
  |none=>
   have:=List.find?_eq_none.1 hf 20 (by simp)
   rw[Nat.div_eq_of_lt h] at this
   simp at this
 obtain⟨N,hN⟩:=hex
 have hn:numN u=N:=by unfold numN;rw[hN];rfl
 rw[hn]
 rw[List.find?_range_eq_some] at hN
 obtain⟨h1,h2,h3⟩:=hN
 refine⟨fun k hk=> ?_,?_⟩
 ·have:=h3 k hk
  simp only[Bool.not_not,Bool.or_eq_true,decide_eq_true_eq] at this
  exact this
 ·simp only[Bool.not_eq_true',Bool.or_eq_false_iff,decide_eq_false_iff_not] at h1
  rintro(h|h)
  ·exact h1.1 h
  ·exact h1.2 h
theorem num_next {n:Int}(h0:0≤n)(h1:n≤9223372036854775807){r:List Nat}(hr:Good r):nextW (numT n++r)=some (1,numT n,n)∧blankN (numT n++r)=0:=by
 obtain⟨F,B,hf⟩:=form_of_printed n 0 _ (rounds_numN n.natAbs (by omega))
 have he:=hf.eq
 have hB:B=[]:=List.eq_nil_of_length_eq_zero hf.len
 subst hB
 have hT:numT n=F:=by
  unfold numT
  rw[he]
  unfold FormL
  rw[if_neg (by omega),if_neg (by omega),List.append_nil]
  rfl
 rw[hT]
 have hdg:∀x∈F,digB x=true:=fun x hx=>by have:=hf.f x hx;unfold isDg at this;unfold digB;simp;exact this
 have hpt:∀x∈F,partB x=true:=fun x hx=>by unfold partB;rw[hdg x hx];simp
 have hrun:runN partB (F++r)=F.length:=run_full hpt (by rcases hr.part with h|⟨d,p,h1,h2,-⟩;exact .inl h;exact .inr ⟨d,p,h1,h2⟩)
 have hval:valD F=n.natAbs:=by have:=hf.val;rwa [List.append_nil] at this
 obtain⟨c,q,hc⟩:∃c q,F=c::q:=by
  cases F with
  |nil=>have:=hf.pos;simp at this
  |cons c q=>exact⟨c,q,rfl⟩
 have hdc:digB c=true:=hdg c (by rw[hc];simp)
 have hno:dayOk (F++r)=false:=by
  rw[Bool.eq_false_iff]
  intro h
  unfold dayOk at h
  simp only[Bool.and_eq_true,decide_eq_true_eq] at h
  obtain⟨⟨h10,-⟩,hd⟩:=h
  unfold dateOk at hd
  simp only[Bool.and_eq_true,decide_eq_true_eq] at hd
  obtain⟨⟨⟨-,h4⟩,-⟩,hok⟩:=hd
  rw[List.getElem?_take_of_lt (by omega)] at h4
  rcases Nat.lt_or_ge 4 F.length with h5|h5
  ·rw[List.getElem?_append_left h5] at h4
   have:=hdg 45 (List.mem_of_getElem? h4)
   revert this;decide
  ·rcases hr.part with rfl|⟨d,p,rfl,g1,g2,g3⟩
   ·simp at h10;omega
   ·rcases Nat.eq_or_lt_of_le h5 with h6|h6
    ·rw[List.getElem?_append_right (by omega),h6,Nat.sub_self] at h4
     injection h4 with h4
     exact g3 h4
    ·have hm:d∈(((F++d::p).take 10).take 4).drop 0:=by
      rw[List.drop_zero,List.take_take,show min 4 10=4 from rfl]
      refine List.mem_of_getElem? (i:=F.length) ?_
      rw[List.getElem?_take_of_lt h6,List.getElem?_append_right (Nat.le_refl _),Nat.sub_self]
      rfl
     rw[numZ_none hm g2] at hok
     unfold ofOk at hok
     simp at hok
 refine⟨?_,?_⟩
 ·have e:F++r=c::(q++r):=by rw[hc];rfl
  rw[e,nextW_cons,if_pos hdc,←e,hno,if_neg (by simp),hrun,List.take_left]
  have ha:amt0 F=some n:=by
   unfold amt0
   rw[if_pos ⟨by rw[List.all_eq_true];exact hdg,hf.lead,by rw[hval];omega⟩,hval]
   congr 1
   omega
  rw[ha]
  rfl
 ·rw[hc]
  refine blankN_0 ?_ ?_ _
  ·unfold digB at hdc
   unfold blankB
   simp at hdc⊢
   omega
  ·rintro rfl
   revert hdc
   decide
theorem digR_raw4 (v:Nat)(h:v≤9999):rawV (digR v 4)=v:=by
 simp[digR,rawV]
 omega
theorem digR_raw2 (v:Nat)(h:v≤99):rawV (digR v 2)=v:=by
 simp[digR,rawV]
 omega
theorem day_next {n:Int}(h0:0≤n)(h1:n≤2932896){r:List Nat}(hr:Good r):nextW (dayT n.toNat++r)=some (2,dayT n.toNat,n)∧blankN (dayT n.toNat++r)=0:=by
 obtain⟨m,rfl⟩:∃m:Nat,n=m:=⟨n.toNat,by omega⟩
 rw[Int.toNat_natCast]
 obtain⟨q,hq⟩:∃q,(m+719468)/146097=q:=⟨_,rfl⟩
 obtain⟨e,he⟩:∃e,(m+719468)%146097=e:=⟨_,rfl⟩
 have hel:e<146097:=by rw[←he];exact Nat.mod_lt _ (by decide)
 have hqe:m+719468=q*146097+e:=by rw[←hq,←he];omega
 obtain⟨z1,z2,z3,z4,z5⟩:=civ_qe m q e hqe hel
 have hok:=ofOk_of m _ _ _ (by omega) z1 z2 z3 z4 z5
 have hbd:=ofOk_bd hok
 have hT:=dayT_of m q e hq he
 have hlen:(dayT m).length=10:=dayT_len m
 rw[hT] at hlen
 obtain⟨y,hy⟩:∃y,y=cY q e:=⟨_,rfl⟩
 obtain⟨mo,hmo⟩:∃y,y=cM e:=⟨_,rfl⟩
 obtain⟨d,hd⟩:∃y,y=dT e:=⟨_,rfl⟩
 rw[←hy,←hmo,←hd] at z1 hok hbd hT hlen
 have t1:(printD y mo d).take 4=digR y 4:=rfl
 have t2:((printD y mo d).take 7).drop 5=digR mo 2:=rfl
 have t3:((printD y mo d).take 10).drop 8=digR d 2:=rfl
 obtain⟨g1,g2⟩:=day_law (printD y mo d) hlen
 rw[t1,t2,t3,digR_raw4 y (by omega),digR_raw2 mo (by omega),digR_raw2 d (by omega)] at g1 g2
 have hdok:dateOk (printD y mo d)=true:=g1.2 ⟨hok,by rw[Int.toNat_natCast,Int.toNat_natCast,Int.toNat_natCast]⟩
 have hz:=g2 hdok
 rw[z1] at hz
 rw[hT]
 have htk:(printD y mo d++r).take 10=printD y mo d:=by rw[←hlen];exact List.take_left
 have hday:dayOk (printD y mo d++r)=true:=by
  unfold dayOk
  rw[htk,hdok]
  rcases hr.part with rfl|⟨c,p,rfl,k1,k2,k3⟩
  ·rw[List.append_nil,hlen]
   rfl
  ·have h32:(printD y mo d++c::p).getD 10 0=c:=by
    rw[List.getD_eq_getElem?_getD,←hlen,List.getElem?_append_right (Nat.le_refl _),Nat.sub_self]
    rfl
   have hl10:10≤(printD y mo d++c::p).length:=by
    rw[List.length_append,hlen]
    exact Nat.le_add_right 10 _
   rw[h32,k1,decide_eq_true hl10,Bool.and_false]
   rfl
 obtain⟨c,p,hc,hdc⟩:∃c p,printD y mo d=c::p∧digB c=true:=by
  refine⟨48+y/10^3%10,_,rfl,?_⟩
  have hm:=Nat.mod_lt (y/10^3) (show 0<10 by decide)
  unfold digB
  rw[decide_eq_true (Nat.le_add_right _ _),decide_eq_true (show 48+y/10^3%10≤57 from Nat.add_le_add_left (Nat.le_of_lt_succ hm) 48)]
  rfl
 refine⟨?_,?_⟩
 ·have e:printD y mo d++r=c::(p++r):=by rw[hc];rfl
  rw[e,nextW_cons,if_pos hdc,←e,if_pos hday,htk,hz]
 ·rw[hc]
  refine blankN_0 ?_ ?_ _
  ·unfold digB at hdc
   unfold blankB
   simp at hdc⊢
   omega
  ·rintro rfl
   revert hdc
   decide
end Go.Proofs.YtaamkfajnpobfaaGreat
namespace Go.Proofs.YtaamkfajnpobfaaGreat
def lpK:Tok:=(0,[40],0)
def rpK:Tok:=(0,[41],0)
def cmK:Tok:=(0,[44],0)
def parK (least:Int)(x:Int × List Tok):List Tok:=if x.1<least then lpK::(x.2++[rpK]) else x.2
def joinK:List (List Tok)→List Tok
 | []=>[]
 |s::r=>s++r.flatMap fun t=>cmK::t
def callW (op:Int):List Nat:=if op=9 then minW else if op=10 then maxW else ifW
def headK (op n:Int)(nm:List Nat)(l:List (Int × List Tok)):List Tok:=
 if op=1 then [(1,numT n,n)] else if op=2 then [(2,dayT n.toNat,n)] else if op=3 then [(3,nm,0)] else if op=4 then [(3,dayW,0)]
 else if(bindT op).2=6 then(0,(bindT op).1,0)::parK 6 (l.getD 0 (7,[]))
 else if(bindT op).2=3 then parK 4 (l.getD 0 (7,[]))++(0,(bindT op).1,0)::parK 4 (l.getD 1 (7,[]))
 else if(bindT op).2<6 then parK (bindT op).2 (l.getD 0 (7,[]))++(0,(bindT op).1,0)::parK ((bindT op).2+1) (l.getD 1 (7,[]))
 else(3,callW op,0)::lpK::(joinK (l.map (·.2))++[rpK])
mutual
def tokE:Ex→List Tok
 | .mk op n nm l=>headK op n nm (tokEL l)
def tokEL:List Ex→List (Int × List Tok)
 | []=>[]
 |e::r=>((bindT e.op).2,tokE e)::tokEL r
end
def pairK (e:Ex):Int × List Tok:=((bindT e.op).2,tokE e)
theorem tokEL_map:∀l,tokEL l=l.map pairK
 | []=>by rw[tokEL];rfl
 |e::r=>by rw[tokEL,tokEL_map r];rfl
theorem tokE_eq (e:Ex):tokE e=headK e.op e.n e.name (e.args.map pairK):=by
 cases e;rw[tokE,tokEL_map];rfl
mutual
def fitE:Ex→Bool
 | .mk _ n _ l=>decide (n≤9223372036854775807)&&fitL l
def fitL:List Ex→Bool
 | []=>true
 |e::r=>fitE e&&fitL r
end
theorem fitL_all:∀l,fitL l=l.all fitE
 | []=>by rw[fitL];rfl
 |e::r=>by rw[fitL,fitL_all r];rfl
theorem fitE_inv {e:Ex}(h:fitE e=true):e.n≤9223372036854775807∧∀x∈e.args,fitE x=true:=by
 cases e with
 |mk op n nm l=>
  rw[fitE,fitL_all,Bool.and_eq_true,decide_eq_true_eq,List.all_eq_true] at h
  exact h
structure Lx (l:List Nat)(T:List Tok):Prop where
 head:∃c q,l=c::q∧c≠61
 lex:∀r Tr,Good r→Lex r Tr→Lex (l++r) (T++Tr)
theorem Good.ne {r:List Nat}(h:Good r):∀c q,r=c::q→c≠61:=fun c q e=>by rcases h c q e with rfl|rfl|rfl|rfl|rfl<;>decide
theorem Lx.ne {l:List Nat}{T:List Tok}(h:Lx l T)(r:List Nat):∀c q,l++r=c::q→c≠61:=fun c q e=>by
 obtain⟨d,p,rfl,hd⟩:=h.head
 injection e with e _
 rw[←e]
 exact hd
theorem lex_sign {s r:List Nat}{T:List Tok}(hs:s∈signsL)(hr:∀c q,r=c::q→c≠61)(h:Lex r T):Lex (s++r) ((0,s,0)::T):=lex_tok (sign_next hs hr) h
theorem Lx.tok {t:List Nat}{k n:Int}(hh:∃c q,t=c::q∧c≠61)(h:∀r,Good r→nextW (t++r)=some (k,t,n)∧blankN (t++r)=0):Lx t [(k,t,n)]:=⟨hh,fun r _ hr hl=>lex_tok (h r hr) hl⟩
theorem Lx.par {l:List Nat}{T:List Tok}(h:Lx l T):Lx ([40]++l++[41]) (lpK::(T++[rpK])):=by
 refine⟨⟨40,_,rfl,by decide⟩,fun r Tr hr hl=> ?_⟩
 have h1:Lex ([41]++r) (rpK::Tr):=lex_sign (by decide) hr.ne hl
 have h2:=h.lex _ _ (good_c (r:=r) (by decide:(41:Nat)=32∨(41:Nat)=44∨(41:Nat)=41∨(41:Nat)=10∨(41:Nat)=40)) h1
 have h3:=lex_sign (s:=[40]) (by decide) (h.ne _) h2
 have e1: [40]++l++[41]++r=[40]++(l++([41]++r)):=by simp
 have e2:lpK::(T++[rpK])++Tr=lpK::(T++rpK::Tr):=by simp
 rw[e1,e2]
 exact h3
theorem Lx.bin {a b s:List Nat}{Ta Tb:List Tok}(ha:Lx a Ta)(hs:s∈signsL)(hb:Lx b Tb):Lx (a++[32]++s++[32]++b) (Ta++(0,s,0)::Tb):=by
 obtain⟨c,q,hc,hne⟩:=ha.head
 refine⟨⟨c,q++[32]++s++[32]++b,by rw[hc];rfl,hne⟩,fun r Tr hr hl=> ?_⟩
 have h1:=lex_blank (c:=32) (by decide) (hb.lex r Tr hr hl)
 have h2:Lex (s++32::(b++r)) ((0,s,0)::(Tb++Tr)):=lex_sign hs (fun c q e=>by injection e with e _;rw[←e];decide) h1
 have h3:=ha.lex _ _ (good_c (r:=s++32::(b++r)) (.inl rfl)) (lex_blank (c:=32) (by decide) h2)
 have e1:a++[32]++s++[32]++b++r=a++32::(s++32::(b++r)):=by simp
 have e2:Ta++(0,s,0)::Tb++Tr=Ta++(0,s,0)::(Tb++Tr):=by simp
 rw[e1,e2]
 exact h3
theorem Lx.un {b s:List Nat}{Tb:List Tok}(hs:s∈signsL)(hs1:∃c q,s=c::q∧c≠61)(hb:Lx b Tb):Lx (s++b) ((0,s,0)::Tb):=by
 obtain⟨c,q,hc,hne⟩:=hs1
 refine⟨⟨c,q++b,by rw[hc];rfl,hne⟩,fun r Tr hr hl=> ?_⟩
 rw[List.append_assoc]
 exact lex_sign hs (hb.ne r) (hb.lex r Tr hr hl)
theorem join_tail (sep:List Nat)(hsep:∀c∈sep,blankB c=true):∀(L:List (List Nat × List Tok)),(∀x∈L,Lx x.1 x.2)→∀r Tr,Good r→Lex r Tr→Good ((L.flatMap fun x=>[44]++sep++x.1)++r)∧Lex ((L.flatMap fun x=>[44]++sep++x.1)++r) ((L.flatMap fun x=>cmK::x.2)++Tr)
 | [],_,r,Tr,hr,hl=>⟨hr,hl⟩
 |x::L,h,r,Tr,hr,hl=>by
  obtain⟨h1,h2⟩:=join_tail sep hsep L (fun y hy=>h y (by simp[hy])) r Tr hr hl
  have hx:=h x (by simp)
  have h3:=lex_blanks hsep (hx.lex _ _ h1 h2)
  have h4:=lex_sign (s:=[44]) (by decide) (r:=sep++(x.1++((L.flatMap fun x=>[44]++sep++x.1)++r))) (fun c q e=>by
   cases sep with
   |nil=>exact hx.ne _ c q e
   |cons d p=>
    injection e with e _
    rw[←e]
    rintro rfl
    have:=hsep 61 (by simp)
    revert this;decide) h3
  have e1:(x::L).flatMap (fun x=>[44]++sep++x.1)++r=[44]++(sep++(x.1++((L.flatMap fun x=>[44]++sep++x.1)++r))):=by simp[List.flatMap_cons]
  have e2:(x::L).flatMap (fun x=>cmK::x.2)++Tr=cmK::(x.2++((L.flatMap fun x=>cmK::x.2)++Tr)):=by simp[List.flatMap_cons]
  rw[e1,e2]
  exact⟨good_c (.inr (.inl rfl)),h4⟩
theorem Lx.join:∀(L:List (List Nat × List Tok)),L≠ []→(∀x∈L,Lx x.1 x.2)→Lx (joinT (L.map Prod.fst)) (joinK (L.map Prod.snd))
 | [],h,_=>absurd rfl h
 |x::L,_,h=>by
  have hx:=h x (by simp)
  obtain⟨c,q,hc,hne⟩:=hx.head
  refine⟨⟨c,q++((L.map Prod.fst).flatMap fun t=>[44,32]++t),by rw[List.map_cons,joinT,hc];rfl,hne⟩,fun r Tr hr hl=> ?_⟩
  obtain⟨h1,h2⟩:=join_tail [32] (by decide) L (fun y hy=>h y (by simp[hy])) r Tr hr hl
  have h3:=hx.lex _ _ h1 h2
  have e1:joinT ((x::L).map Prod.fst)++r=x.1++((L.flatMap fun x=>[44]++[32]++x.1)++r):=by
   rw[List.map_cons,joinT,List.append_assoc,List.flatMap_map]
   rfl
  have e2:joinK ((x::L).map Prod.snd)++Tr=x.2++((L.flatMap fun x=>cmK::x.2)++Tr):=by
   rw[List.map_cons,joinK,List.append_assoc,List.flatMap_map]
  rw[e1,e2]
  exact h3
theorem Lx.call {w l:List Nat}{T:List Tok}(hw:namedB w=true)(h:Lx l T):Lx (w++[40]++l++[41]) ((3,w,0)::lpK::(T++[rpK])):=by
 have hp:=h.par
 obtain⟨c,q,hc⟩:∃c q,w=c::q:=by
  cases w with
  |nil=>exact absurd hw (by decide)
  |cons c q=>exact⟨c,q,rfl⟩
 have hne:c≠61:=by
  rintro rfl
  rw[hc] at hw
  unfold namedB at hw
  have:letB ((61::q).getD 0 0)=false:=by show letB 61=false;decide
  rw[this] at hw
  simp at hw
 refine⟨⟨c,q++[40]++l++[41],by rw[hc];rfl,hne⟩,fun r Tr hr hl=> ?_⟩
 have h1:=hp.lex r Tr hr hl
 have h2:=lex_tok (name_next hw (r:=[40]++l++[41]++r) (good_c (r:=l++[41]++r) (.inr (.inr (.inr (.inr rfl)))))) h1
 have e1:w++[40]++l++[41]++r=w++([40]++l++[41]++r):=by simp
 rw[e1]
 exact h2
theorem parT_lx {least b:Int}{l:List Nat}{T:List Tok}(h:Lx l T):Lx (parT least (b,l)) (parK least (b,T)):=by
 unfold parT parK
 dsimp only
 split
 ·exact h.par
 ·exact h
theorem bin_forms {op:Int}(h:(5≤op∧op≤8)∨(11≤op∧op≤18)):∃(i:Nat) (s:List Nat),i<5∧s∈signsL∧powL s=some (i,op)∧bindT op=(s,(i:Int)+1)∧
  (∀n nm x y,headT op n nm [x,y]=parT (if i=2 then 4 else(i:Int)+1) x++[32]++s++[32]++parT ((i:Int)+2) y)∧(∀n nm x y,headK op n nm [x,y]=parK (if i=2 then 4 else(i:Int)+1) x++(0,s,0)::parK ((i:Int)+2) y):=by
 have ho:op=5∨op=6∨op=7∨op=8∨op=11∨op=12∨op=13∨op=14∨op=15∨op=16∨op=17∨op=18:=by omega
 rcases ho with rfl|rfl|rfl|rfl|rfl|rfl|rfl|rfl|rfl|rfl|rfl|rfl
 ·exact⟨3,[43],by decide,by decide,by decide,by decide,fun _ _ _ _=>rfl,fun _ _ _ _=>rfl⟩
 ·exact⟨3,[45],by decide,by decide,by decide,by decide,fun _ _ _ _=>rfl,fun _ _ _ _=>rfl⟩
 ·exact⟨4,[42],by decide,by decide,by decide,by decide,fun _ _ _ _=>rfl,fun _ _ _ _=>rfl⟩
 ·exact⟨4,[47],by decide,by decide,by decide,by decide,fun _ _ _ _=>rfl,fun _ _ _ _=>rfl⟩
 ·exact⟨2,[60],by decide,by decide,by decide,by decide,fun _ _ _ _=>rfl,fun _ _ _ _=>rfl⟩
 ·exact⟨2,[60,61],by decide,by decide,by decide,by decide,fun _ _ _ _=>rfl,fun _ _ _ _=>rfl⟩
 ·exact⟨2,[61],by decide,by decide,by decide,by decide,fun _ _ _ _=>rfl,fun _ _ _ _=>rfl⟩
 ·exact⟨2,[33,61],by decide,by decide,by decide,by decide,fun _ _ _ _=>rfl,fun _ _ _ _=>rfl⟩
 ·exact⟨2,[62,61],by decide,by decide,by decide,by decide,fun _ _ _ _=>rfl,fun _ _ _ _=>rfl⟩
 ·exact⟨2,[62],by decide,by decide,by decide,by decide,fun _ _ _ _=>rfl,fun _ _ _ _=>rfl⟩
 ·exact⟨1,[38],by decide,by decide,by decide,by decide,fun _ _ _ _=>rfl,fun _ _ _ _=>rfl⟩
 ·exact⟨0,[124],by decide,by decide,by decide,by decide,fun _ _ _ _=>rfl,fun _ _ _ _=>rfl⟩
theorem un_forms {op:Int}(h:op=19∨op=20):∃s:List Nat,(s=[33]∨s=[45])∧bindT op=(s,6)∧(op=if s=[33] then 19 else 20)∧(∀n nm x,headT op n nm [x]=s++parT 6 x)∧(∀n nm x,headK op n nm [x]=(0,s,0)::parK 6 x):=by
 rcases h with rfl|rfl
 ·exact⟨[33], .inl rfl,by decide,by decide,fun _ _ _=>rfl,fun _ _ _=>rfl⟩
 ·exact⟨[45], .inr rfl,by decide,by decide,fun _ _ _=>rfl,fun _ _ _=>rfl⟩
theorem call_forms {op:Int}(h:op=9∨op=10∨op=21):namedB (callW op)=true∧(bindT op).2=7∧(∀n nm l,headT op n nm l=callW op++[40]++joinT (l.map (·.2))++[41])∧(∀n nm l,headK op n nm l=(3,callW op,0)::lpK::(joinK (l.map (·.2))++[rpK])):=by
 rcases h with rfl|rfl|rfl<;>exact⟨by decide,by decide,fun _ _ _=>rfl,fun _ _ _=>rfl⟩
theorem arity_ops {op:Int}{k:Nat}(h:arityZ op=(k:Int)):(k=0∧1≤op∧op≤4)∨(k=2∧((5≤op∧op≤8)∨(11≤op∧op≤18)))∨(k=2∧(op=9∨op=10))∨(k=1∧(op=19∨op=20))∨(k=3∧op=21):=by
 unfold arityZ at h
 split at h
 ·omega
 split at h
 ·omega
 split at h
 ·omega
 split at h<;>omega
theorem head_ne {t:List Nat}{k n:Int}(h:nextW t=some (k,t,n))(hk:k≠0):∃c q,t=c::q∧c≠61:=by
 cases t with
 |nil=>cases h
 |cons c q=>
  refine⟨c,q,rfl,?_⟩
  rintro rfl
  rw[nextW_cons,if_neg (by decide),if_neg (by decide)] at h
  cases hs:signW (61::q) with
  |none=>rw[hs] at h;cases h
  |some s=>
   rw[hs] at h
   injection h with h
   injection h with h _
   exact hk h.symm
theorem Lx.tok' {t:List Nat}{k n:Int}(hk:k≠0)(h:∀r,Good r→nextW (t++r)=some (k,t,n)∧blankN (t++r)=0):Lx t [(k,t,n)]:=
 Lx.tok (by have:=(h [] good_nil).1;rw[List.append_nil] at this;exact head_ne this hk) h
theorem exprT_lx (N:Nat):∀e:Ex,e.nodes≤N→builtB e=true→fitE e=true→Lx (exprT e) (tokE e):=by
 induction N with
 |zero=>intro e h;have:=e.nodes_pos;omega
 |succ N ih=>
  intro e hn hb hf
  obtain⟨hh,ha⟩:=builtB_inv hb
  obtain⟨h1,h2,h3,h4,h5,h6⟩:=headB_inv hh
  obtain⟨f1,f2⟩:=fitE_inv hf
  have hx:∀x∈e.args,Lx (exprT x) (tokE x):=fun x hx=>ih x (by have:=Ex.arg_nodes hx;omega) (ha x hx) (f2 x hx)
  rw[exprT_eq,tokE_eq]
  obtain⟨op,n,nm,l⟩:=e
  simp only[Ex.op,Ex.n,Ex.name,Ex.args] at *
  rcases arity_ops h1 with ⟨hk,ho⟩|⟨hk,ho⟩|⟨hk,ho⟩|⟨hk,ho⟩|⟨hk,ho⟩
  ·obtain rfl:=List.eq_nil_of_length_eq_zero hk
   have ho4:op=1∨op=2∨op=3∨op=4:=by omega
   rcases ho4 with rfl|rfl|rfl|rfl
   ·exact Lx.tok' (by decide) (fun r hr=>num_next h4 f1 hr)
   ·exact Lx.tok' (by decide) (fun r hr=>day_next h4 (h5 rfl) hr)
   ·have hfr:=h6 rfl
    unfold freeB at hfr
    rw[Bool.and_eq_true] at hfr
    exact Lx.tok' (by decide) (fun r hr=>name_next hfr.1 hr)
   ·exact(Lx.tok' (by decide) (fun r hr=>name_next (by decide) hr):Lx dayW [(3,dayW,0)])
  ·obtain⟨i,s,-,hs,-,-,g1,g2⟩:=bin_forms ho
   match l,hk with
   | [x,y],_=>
    show Lx (headT op n nm [pairT x,pairT y]) (headK op n nm [pairK x,pairK y])
    rw[g1,g2]
    exact(parT_lx (hx x (by simp))).bin hs (parT_lx (hx y (by simp)))
  ·obtain⟨g0,-,g1,g2⟩:=call_forms (op:=op) (by omega)
   rw[g1,g2,List.map_map,List.map_map]
   have:=Lx.join (l.map fun x=>(exprT x,tokE x)) (by intro h;rw[List.map_eq_nil_iff] at h;rw[h] at hk;cases hk) (fun y hy=>by obtain⟨x,hx',rfl⟩:=List.mem_map.1 hy;exact hx x hx')
   rw[List.map_map,List.map_map] at this
   exact this.call g0
  ·obtain⟨s,hs,-,-,g1,g2⟩:=un_forms ho
   match l,hk with
   | [x],_=>
    show Lx (headT op n nm [pairT x]) (headK op n nm [pairK x])
    rw[g1,g2]
    exact(parT_lx (hx x (by simp))).un (by rcases hs with rfl|rfl<;>decide) (by rcases hs with rfl|rfl<;>exact⟨_,_,rfl,by decide⟩)
  ·obtain⟨g0,-,g1,g2⟩:=call_forms (op:=op) (by omega)
   rw[g1,g2,List.map_map,List.map_map]
   have:=Lx.join (l.map fun x=>(exprT x,tokE x)) (by intro h;rw[List.map_eq_nil_iff] at h;rw[h] at hk;cases hk) (fun y hy=>by obtain⟨x,hx',rfl⟩:=List.mem_map.1 hy;exact hx x hx')
   rw[List.map_map,List.map_map] at this
   exact this.call g0
end Go.Proofs.YtaamkfajnpobfaaGreat
namespace Go.Proofs.YtaamkfajnpobfaaGreat
theorem isS_iffB {ws:List Wd}{p:Nat}{s:List Nat}:isS ws p s=true↔(wAt ws p).kind=0∧(wAt ws p).text=s:=by
 unfold isS
 simp
theorem within_oneB (ws:List Wd)(E0:Nat→Nat→Rs Ex)(p d:Nat):((withinP ws [E0] p d).bind fun xs p=>Rs.ok (xs.getD 0 (.mk 0 0 [] [])) p)=(signQ ws [40] p).bind fun _ q=>(enterP q d).bind fun _ q=>(E0 q (d+1)).bind fun x q=>(signQ ws [41] q).bind fun _ q=> .ok x q:=by
 unfold withinP
 simp only[partsP,if_pos,Rs.bind_assoc,Rs.bind_ok]
 rfl
section
variable {ws:List Wd}
def At (ws:List Wd)(p:Nat)(T:List Tok):Prop:=∀j k t n,T[j]? =some (k,t,n)→(wAt ws (p+j)).kind=k∧(wAt ws (p+j)).text=t∧(wAt ws (p+j)).n=n
theorem At.left {p:Nat}{A B:List Tok}(h:At ws p (A++B)):At ws p A:=fun j k t n e=>h j k t n (by rw[List.getElem?_append_left (List.getElem?_eq_some_iff.1 e).1];exact e)
theorem At.right {p:Nat}{A B:List Tok}(h:At ws p (A++B)):At ws (p+A.length) B:=fun j k t n e=>by
 have:=h (A.length+j) k t n (by rw[List.getElem?_append_right (Nat.le_add_right _ _),Nat.add_sub_cancel_left];exact e)
 rw[Nat.add_assoc]
 exact this
theorem At.head {p:Nat}{k n:Int}{t:List Nat}{T:List Tok}(h:At ws p ((k,t,n)::T)):(wAt ws p).kind=k∧(wAt ws p).text=t∧(wAt ws p).n=n:=h 0 k t n rfl
theorem At.tail {p:Nat}{x:Tok}{T:List Tok}(h:At ws p (x::T)):At ws (p+1) T:=fun j k t n e=>by
 have:=h (j+1) k t n (by simpa using e)
 rw[show p+1+j=p+(j+1) by omega]
 exact this
theorem At.sign {p:Nat}{s:List Nat}{n:Int}{T:List Tok}(h:At ws p ((0,s,n)::T)):isS ws p s=true:=isS_iffB.2 ⟨h.head.1,h.head.2.1⟩
theorem At.signQ {p:Nat}{s:List Nat}{n:Int}{T:List Tok}(h:At ws p ((0,s,n)::T)):signQ ws s p= .ok () (p+1):=by
 unfold Go.Proofs.YtaamkfajnpobfaaGreat.signQ
 rw[if_pos h.sign]
theorem At.pow {p:Nat}{s:List Nat}{n:Int}{T:List Tok}(h:At ws p ((0,s,n)::T)):powAt ws p=powL s:=by
 unfold powAt
 rw[if_pos h.head.1,h.head.2.1]
def Nx (ws:List Wd)(p m:Nat):Prop:=∀i op,powAt ws p=some (i,op)→i<m
theorem Nx.of_none {p m:Nat}(h:powAt ws p=none):Nx ws p m:=fun i op e=>by rw[h] at e;cases e
theorem Nx.up {p m m':Nat}(h:Nx ws p m)(hm:m≤m'):Nx ws p m':=fun i op e=>Nat.lt_of_lt_of_le (h i op e) hm
def topE (e:Ex):Nat:=if(bindT e.op).2=3 then 2 else if(bindT e.op).2<6 then(bindT e.op).2.toNat else 5
structure Rd (ws:List Wd)(e:Ex):Prop where
 pos:1≤(bindT e.op).2
 low:∀(p d lvl:Nat),lvl≤5→(lvl:Int)+1≤(bindT e.op).2→d+2*e.depth≤64→At ws p (tokE e)→Nx ws (p+(tokE e).length) (topE e)→((fullP ws).S p d).bind (fun x q=>goP (fullP ws) lvl (5-lvl) x q d)=goP (fullP ws) lvl (topE e-lvl) e (p+(tokE e).length) d
 high:∀(p d:Nat),6≤(bindT e.op).2→d+2*e.depth≤64→At ws p (tokE e)→(fullP ws).S p d= .ok e (p+(tokE e).length)
theorem Rd.of_high {e:Ex}(hp:6≤(bindT e.op).2)(h:∀p d,d+2*e.depth≤64→At ws p (tokE e)→(fullP ws).S p d= .ok e (p+(tokE e).length)):Rd ws e:=
 ⟨by omega,fun p d lvl h1 h2 h3 h4 h5=>by
  have ht:topE e=5:=by unfold topE;rw[if_neg (by omega),if_neg (by omega)]
  rw[h p d h3 h4,Rs.bind_ok,ht],fun p d _ h2 h3=>h p d h2 h3⟩
theorem topE_bd {e:Ex}(h:1≤(bindT e.op).2):topE e≤5:=by
 unfold topE
 split
 ·omega
 split<;>omega
theorem enter_ok {p d:Nat}(h:d<64):enterP p d= .ok () p:=by
 unfold enterP
 rw[if_neg (by omega)]
theorem Rd.zero {e:Ex}(h:Rd ws e){p d:Nat}(hd:d+2*e.depth≤64)(ha:At ws p (tokE e))(hn:powAt ws (p+(tokE e).length)=none):(fullP ws).E 0 p d= .ok e (p+(tokE e).length):=by
 have hp:=h.pos
 rw[full_go ws p d 5 0 (by omega),h.low p d 0 (by omega) (by omega) hd ha (Nx.of_none hn)]
 have:=topE_bd hp
 exact goP_none ws 0 _ _ _ (by omega) fun i op e=>by rw[hn] at e;cases e
theorem Rd.par {e:Ex}(h:Rd ws e){p d:Nat}(hd:d+1+2*e.depth≤64)(ha:At ws p (lpK::(tokE e++[rpK]))):(fullP ws).S p d= .ok e (p+((tokE e).length+2)):=by
 have hl:=At.sign ha
 have ha1:=ha.tail
 have hr:=ha1.right
 have hz:=h.zero (p:=p+1) (d:=d+1) hd ha1.left (by rw[hr.pow];decide)
 have hdp:=e.depth_nodes
 have h1:isS ws p [33]=false:=by
  rw[Bool.eq_false_iff,Ne,isS_iffB]
  rintro⟨-,h2⟩
  rw[ha.head.2.1] at h2
  cases h2
 have h2:isS ws p [45]=false:=by
  rw[Bool.eq_false_iff,Ne,isS_iffB]
  rintro⟨-,h2⟩
  rw[ha.head.2.1] at h2
  cases h2
 rw[full_S]
 unfold unaryP
 rw[h1,if_neg (by simp),h2,if_neg (by simp)]
 unfold atomP
 rw[ha.head.1,if_neg (by decide),if_neg (by decide),if_neg (by decide),if_pos rfl,within_oneB,ha.signQ,Rs.bind_ok,enter_ok (by omega),Rs.bind_ok,hz,Rs.bind_ok,hr.signQ,Rs.bind_ok,show p+1+(tokE e).length+1=p+((tokE e).length+2) by omega]
theorem Rd.put {e:Ex}(h:Rd ws e){p d lvl:Nat}(hl:lvl≤5)(hd:d+1+2*e.depth≤64)(ha:At ws p (parK ((lvl:Int)+1) (pairK e)))(hn:Nx ws (p+(parK ((lvl:Int)+1) (pairK e)).length) lvl):(fullP ws).E lvl p d= .ok e (p+(parK ((lvl:Int)+1) (pairK e)).length):=by
 have hp:=h.pos
 have ht:=topE_bd hp
 rw[full_go ws p d (5-lvl) lvl (by omega)]
 by_cases hb:(bindT e.op).2<(lvl:Int)+1
 ·have hk:parK ((lvl:Int)+1) (pairK e)=lpK::(tokE e++[rpK]):=by unfold parK pairK;rw[if_pos hb]
  rw[hk] at ha hn⊢
  have hln:(lpK::(tokE e++[rpK])).length=(tokE e).length+2:=by simp
  rw[hln] at hn⊢
  rw[h.par hd ha,Rs.bind_ok]
  exact goP_none ws lvl _ _ _ (by omega) fun i op e=> .inl (hn i op e)
 ·have hk:parK ((lvl:Int)+1) (pairK e)=tokE e:=by unfold parK pairK;rw[if_neg hb]
  rw[hk] at ha hn⊢
  rw[h.low p d lvl hl (by omega) (by omega) ha (hn.up (by
   unfold topE
   split
   ·omega
   split<;>omega))]
  exact goP_none ws lvl _ _ _ (by omega) fun i op e=> .inl (hn i op e)
theorem parts_read {d:Nat}:∀(l:List Ex),(∀x∈l,Rd ws x∧d+2*x.depth≤64)→∀p,At ws p ((l.flatMap fun x=>cmK::tokE x)++[rpK])→partsP ws (List.replicate l.length ((fullP ws).E 0)) false p d= .ok l (p+(l.flatMap fun x=>cmK::tokE x).length)∧powAt ws p=none
 | [],_,p,ha=>⟨rfl,by rw[ha.pow];decide⟩
 |x::l,h,p,ha=>by
  have e1:((x::l).flatMap fun x=>cmK::tokE x)++[rpK]=cmK::(tokE x++((l.flatMap fun x=>cmK::tokE x)++[rpK])):=by simp[List.flatMap_cons]
  rw[e1] at ha
  obtain⟨i1,i2⟩:=parts_read l (fun y hy=>h y (by simp[hy])) _ ha.tail.right
  have hx:=(h x (by simp)).1.zero (h x (by simp)).2 ha.tail.left i2
  refine⟨?_,by rw[ha.pow];decide⟩
  rw[List.length_cons,List.replicate_succ,partsP_cons,if_neg (by simp),ha.signQ,Rs.bind_ok,hx,Rs.bind_ok,i1,Rs.bind_ok]
  congr 1
  simp[List.flatMap_cons]
  omega
theorem join_read {d:Nat}:∀(l:List Ex),(∀x∈l,Rd ws x∧d+2*x.depth≤64)→∀p,At ws p (joinK (l.map tokE)++[rpK])→partsP ws (List.replicate l.length ((fullP ws).E 0)) true p d= .ok l (p+(joinK (l.map tokE)).length)
 | [],_,p,_=>rfl
 |x::l,h,p,ha=>by
  have e1:joinK ((x::l).map tokE)=tokE x++l.flatMap fun x=>cmK::tokE x:=by rw[List.map_cons,joinK,List.flatMap_map]
  rw[e1,List.append_assoc] at ha
  obtain⟨i1,i2⟩:=parts_read l (fun y hy=>h y (by simp[hy])) _ ha.right
  have hx:=(h x (by simp)).1.zero (h x (by simp)).2 ha.left i2
  rw[List.length_cons,List.replicate_succ,partsP_cons,if_pos rfl,Rs.bind_ok,hx,Rs.bind_ok,i1,Rs.bind_ok,e1]
  congr 1
  rw[List.length_append]
  omega
theorem not_ahead {p:Nat}{k:Int}(h:(wAt ws p).kind=k)(hk:k≠0)(s:List Nat):isS ws p s=false:=by
 rw[Bool.eq_false_iff,Ne,isS_iffB]
 rintro⟨h2,-⟩
 exact hk (h.symm.trans h2)
theorem exprT_rd (N:Nat):∀e:Ex,e.nodes≤N→builtB e=true→Rd ws e:=by
 induction N with
 |zero=>intro e h;have:=e.nodes_pos;omega
 |succ N ih=>
  intro e hn hb
  obtain⟨hh,hba⟩:=builtB_inv hb
  obtain⟨h1,h2,h3,h4,h5,h6⟩:=headB_inv hh
  have hx:∀x∈e.args,Rd ws x∧x.depth<e.depth:=fun x hx=>⟨ih x (by have:=Ex.arg_nodes hx;omega) (hba x hx),Ex.arg_depth hx⟩
  have htk:=tokE_eq e
  obtain⟨op,n,nm,l⟩:=e
  simp only[Ex.op,Ex.n,Ex.name,Ex.args] at *
  have hde:1≤(Ex.mk op n nm l).depth:=by rw[Ex.depth_mk];omega
  rcases arity_ops h1 with ⟨hk,ho⟩|⟨hk,ho⟩|⟨hk,ho⟩|⟨hk,ho⟩|⟨hk,ho⟩
  ·obtain rfl:=List.eq_nil_of_length_eq_zero hk
   have ho4:op=1∨op=2∨op=3∨op=4:=by omega
   rcases ho4 with rfl|rfl|rfl|rfl
   ·obtain rfl:=h3.resolve_right (by decide)
    have ht:tokE (.mk 1 n [] [])=[(1,numT n,n)]:=htk
    refine Rd.of_high (show(6:Int)≤7 by decide) fun p d hd ha=> ?_
    rw[ht] at ha⊢
    have hk:=ha.head
    rw[full_S]
    unfold unaryP
    rw[not_ahead hk.1 (by decide),if_neg (by simp),not_ahead hk.1 (by decide),if_neg (by simp)]
    unfold atomP
    rw[hk.1,if_pos rfl,hk.2.2]
    rfl
   ·obtain rfl:=h3.resolve_right (by decide)
    have ht:tokE (.mk 2 n [] [])=[(2,dayT n.toNat,n)]:=htk
    refine Rd.of_high (show(6:Int)≤7 by decide) fun p d hd ha=> ?_
    rw[ht] at ha⊢
    have hk:=ha.head
    rw[full_S]
    unfold unaryP
    rw[not_ahead hk.1 (by decide),if_neg (by simp),not_ahead hk.1 (by decide),if_neg (by simp)]
    unfold atomP
    rw[hk.1,if_neg (by decide),if_pos rfl,hk.2.2]
    rfl
   ·obtain rfl:=h2.resolve_right (by decide)
    have ht:tokE (.mk 3 0 nm [])=[(3,nm,0)]:=htk
    have hfr:=h6 rfl
    unfold freeB at hfr
    rw[Bool.and_eq_true,Bool.not_eq_true'] at hfr
    refine Rd.of_high (show(6:Int)≤7 by decide) fun p d hd ha=> ?_
    rw[ht] at ha⊢
    have hk:=ha.head
    have hres:∀t,reservedB t=true→nm≠t:=fun t ht e=>by rw[e,ht] at hfr;cases hfr.2
    rw[full_S]
    unfold unaryP
    rw[not_ahead hk.1 (by decide),if_neg (by simp),not_ahead hk.1 (by decide),if_neg (by simp)]
    unfold atomP
    rw[hk.1,if_neg (by decide),if_neg (by decide),if_pos rfl,hk.2.1,if_neg (hres dayW (by decide)),if_neg (hres minW (by decide)),if_neg (hres maxW (by decide)),if_neg (hres ifW (by decide))]
    unfold nameP
    rw[hk.1,hk.2.1,if_pos ⟨rfl,hfr.2⟩,Rs.bind_ok]
    rfl
   ·obtain rfl:=h2.resolve_right (by decide)
    obtain rfl:=h3.resolve_right (by decide)
    have ht:tokE (.mk 4 0 [] [])=[(3,dayW,0)]:=htk
    refine Rd.of_high (show(6:Int)≤7 by decide) fun p d hd ha=> ?_
    rw[ht] at ha⊢
    have hk:=ha.head
    rw[full_S]
    unfold unaryP
    rw[not_ahead hk.1 (by decide),if_neg (by simp),not_ahead hk.1 (by decide),if_neg (by simp)]
    unfold atomP
    rw[hk.1,if_neg (by decide),if_neg (by decide),if_pos rfl,hk.2.1,if_pos rfl]
    rfl
  ·obtain rfl:=h2.resolve_right (by omega)
   obtain rfl:=h3.resolve_right (by omega)
   obtain⟨i,s,hi,hs,hps,hbd,-,g2⟩:=bin_forms ho
   match l,hk with
   | [x,y],_=>
    have ht:tokE (.mk op 0 [] [x,y])=parK (if i=2 then 4 else(i:Int)+1) (pairK x)++(0,s,0)::parK ((i:Int)+2) (pairK y):=by rw[htk];exact g2 0 [] (pairK x) (pairK y)
    obtain⟨rx,dx⟩:=hx x (by simp)
    obtain⟨ry,dy⟩:=hx y (by simp)
    have hb:(bindT (Ex.mk op 0 [] [x,y]).op).2=(i:Int)+1:=by show(bindT op).2=_;rw[hbd]
    have htop:topE (.mk op 0 [] [x,y])=if i=2 then 2 else i+1:=by
     unfold topE
     rw[hb]
     split
     ·rw[if_pos (by omega)]
     ·rw[if_pos (by omega),if_neg (by omega)]
      omega
    refine⟨by omega,fun p d lvl hl hbl hd ha hnx=> ?_,fun p d h6=>by omega⟩
    rw[hb] at hbl
    rw[htop] at hnx⊢
    rw[ht] at ha hnx⊢
    obtain⟨la,hla⟩:∃la:Int,la=if i=2 then 4 else(i:Int)+1:=⟨_,rfl⟩
    rw[←hla] at ha hnx⊢
    have hla2:(i:Int)+1≤la∧(i=2→la=4):=by rw[hla];split<;>omega
    have hpow:=ha.right.pow
    rw[hps] at hpow
    have hyA:=ha.right.tail
    have key:∃k,lvl+k≤5∧i<lvl+k∧((fullP ws).S p d).bind (fun x q=>goP (fullP ws) lvl (5-lvl) x q d)=goP (fullP ws) lvl k x (p+(parK la (pairK x)).length) d:=by
     by_cases hbx:(bindT x.op).2<la
     ·have hk:parK la (pairK x)=lpK::(tokE x++[rpK]):=by unfold parK pairK;rw[if_pos hbx]
      rw[hk] at ha⊢
      have hS:=rx.par (p:=p) (d:=d) (by omega) ha.left
      refine⟨5-lvl,by omega,by omega,?_⟩
      rw[hS,Rs.bind_ok]
      simp
     ·have hk:parK la (pairK x)=tokE x:=by unfold parK pairK;rw[if_neg hbx]
      rw[hk] at ha hpow⊢
      have htx:i<topE x:=by
       unfold topE
       split
       ·omega
       split<;>omega
      have htb:=topE_bd rx.pos
      refine⟨topE x-lvl,by omega,by omega,?_⟩
      exact rx.low p d lvl hl (by omega) (by omega) ha.left (fun j op' e=>by rw[hpow] at e;injection e with e;injection e with e _;omega)
    obtain⟨k,hk5,hik,hkey⟩:=key
    have hlen:p+(parK la (pairK x)++(0,s,0)::parK ((i:Int)+2) (pairK y)).length=p+(parK la (pairK x)).length+1+(parK ((i:Int)+2) (pairK y)).length:=by simp;omega
    rw[hlen] at hnx⊢
    have hc2:((i+1:Nat):Int)+1=(i:Int)+2:=by omega
    have hy:=ry.put (p:=p+(parK la (pairK x)).length+1) (d:=d) (lvl:=i+1) (by omega) (by omega) (by rw[hc2];exact hyA) (by rw[hc2];exact hnx.up (by split<;>omega))
    rw[hc2] at hy
    rw[hkey,goP_step ws lvl hpow k x d hk5 (by omega) hik,hy,Rs.bind_ok]
    congr 1
    split
    ·omega
    ·omega
  ·obtain rfl:=h2.resolve_right (by omega)
   obtain rfl:=h3.resolve_right (by omega)
   obtain⟨g0,g1,-,g2⟩:=call_forms (op:=op) (by omega)
   have ht:tokE (.mk op 0 [] l)=(3,callW op,0)::lpK::(joinK (l.map tokE)++[rpK]):=by rw[htk,g2,List.map_map];rfl
   refine Rd.of_high (by show 6≤(bindT op).2;omega) fun p d hd ha=> ?_
   rw[ht] at ha⊢
   have hk3:=ha.head
   have hj:=join_read (d:=d+1) l (fun x hx'=>⟨(hx x hx').1,by have:=(hx x hx').2;omega⟩) _ ha.tail.tail
   have hrp:=ha.tail.tail.right.signQ
   have hcall:calledP ws ((fullP ws).E 0) op l.length p d= .ok (.mk op 0 [] l) (p+((3,callW op,0)::lpK::(joinK (l.map tokE)++[rpK])).length):=by
    unfold calledP withinP
    rw[ha.tail.signQ,Rs.bind_ok,enter_ok (by omega),Rs.bind_ok,hj,Rs.bind_ok,hrp,Rs.bind_ok,Rs.bind_ok]
    congr 1
    simp
    omega
   rw[full_S]
   unfold unaryP
   rw[not_ahead hk3.1 (by decide),if_neg (by simp),not_ahead hk3.1 (by decide),if_neg (by simp)]
   unfold atomP
   rw[hk3.1,if_neg (by decide),if_neg (by decide),if_pos rfl,hk3.2.1,←hcall]
   rcases ho with rfl|rfl
   ·rw[if_neg (by decide),if_pos (by decide),hk]
   ·rw[if_neg (by decide),if_neg (by decide),if_pos (by decide),hk]
  ·obtain rfl:=h2.resolve_right (by omega)
   obtain rfl:=h3.resolve_right (by omega)
   obtain⟨s,hs,hbd,hop,-,g2⟩:=un_forms ho
   match l,hk with
   | [x],_=>
    have ht:tokE (.mk op 0 [] [x])=(0,s,0)::parK 6 (pairK x):=by rw[htk];exact g2 0 [] (pairK x)
    obtain⟨rx,dx⟩:=hx x (by simp)
    refine Rd.of_high (by show 6≤(bindT op).2;rw[hbd];exact Int.le_refl _) fun p d hd ha=> ?_
    rw[ht] at ha⊢
    have hS:(fullP ws).S (p+1) (d+1)= .ok x (p+1+(parK 6 (pairK x)).length):=by
     have hat:=ha.tail
     by_cases hbx:(bindT x.op).2<6
     ·have hk:parK 6 (pairK x)=lpK::(tokE x++[rpK]):=by unfold parK pairK;rw[if_pos hbx]
      rw[hk] at hat⊢
      rw[rx.par (by omega) hat]
      simp
     ·have hk:parK 6 (pairK x)=tokE x:=by unfold parK pairK;rw[if_neg hbx]
      rw[hk] at hat⊢
      exact rx.high _ _ (by omega) (by omega) hat
    have hah:aheadP (fullP ws).S op p d= .ok (.mk op 0 [] [x]) (p+((0,s,0)::parK 6 (pairK x)).length):=by
     unfold aheadP
     rw[enter_ok (by omega),Rs.bind_ok,hS,Rs.bind_ok]
     congr 1
     simp
     omega
    rw[full_S]
    unfold unaryP
    have hsg:=ha.sign
    rw[←hah]
    rcases hs with rfl|rfl
    ·rw[if_pos hsg]
     rw[if_pos rfl] at hop
     rw[hop]
    ·have h33:isS ws p [33]=false:=by
      rw[Bool.eq_false_iff,Ne,isS_iffB]
      rintro⟨-,h2⟩
      rw[ha.head.2.1] at h2
      cases h2
     rw[h33,if_neg (by simp),if_pos hsg]
     rw[if_neg (by decide)] at hop
     rw[hop]
  ·obtain rfl:=h2.resolve_right (by omega)
   obtain rfl:=h3.resolve_right (by omega)
   obtain⟨g0,g1,-,g2⟩:=call_forms (op:=op) (by omega)
   have ht:tokE (.mk op 0 [] l)=(3,callW op,0)::lpK::(joinK (l.map tokE)++[rpK]):=by rw[htk,g2,List.map_map];rfl
   refine Rd.of_high (by show 6≤(bindT op).2;omega) fun p d hd ha=> ?_
   rw[ht] at ha⊢
   have hk3:=ha.head
   have hj:=join_read (d:=d+1) l (fun x hx'=>⟨(hx x hx').1,by have:=(hx x hx').2;omega⟩) _ ha.tail.tail
   have hrp:=ha.tail.tail.right.signQ
   have hcall:calledP ws ((fullP ws).E 0) op l.length p d= .ok (.mk op 0 [] l) (p+((3,callW op,0)::lpK::(joinK (l.map tokE)++[rpK])).length):=by
    unfold calledP withinP
    rw[ha.tail.signQ,Rs.bind_ok,enter_ok (by omega),Rs.bind_ok,hj,Rs.bind_ok,hrp,Rs.bind_ok,Rs.bind_ok]
    congr 1
    simp
    omega
   rw[full_S]
   unfold unaryP
   rw[not_ahead hk3.1 (by decide),if_neg (by simp),not_ahead hk3.1 (by decide),if_neg (by simp)]
   unfold atomP
   rw[hk3.1,if_neg (by decide),if_neg (by decide),if_pos rfl,hk3.2.1,←hcall]
   subst ho
   rw[if_neg (by decide),if_neg (by decide),if_neg (by decide),if_pos (by decide),hk]
end
end Go.Proofs.YtaamkfajnpobfaaGreat
namespace Go.Proofs.YtaamkfajnpobfaaGreat
theorem at_words {ws:List Wd}{T:List Tok}(h:ws.map Wd.tok=T):At ws 0 T:=fun j k t n e=>by
 rw[←h,List.getElem?_map] at e
 rw[Nat.zero_add]
 cases hx:ws[j]? with
 |none=>rw[hx] at e;cases e
 |some x=>
  rw[hx] at e
  injection e with e
  unfold Wd.tok at e
  injection e with e1 e2
  injection e2 with e2 e3
  unfold wAt
  rw[List.getD_eq_getElem?_getD,hx]
  exact⟨e1,e2,e3⟩
def parC (least:Int)(x:Int × Nat):Nat:=if x.1<least then 1+x.2 else x.2
def headC (op:Int)(l:List (Int × Nat)):Nat:=
 if op=1 then 0 else if op=2 then 0 else if op=3 then 0 else if op=4 then 0
 else if(bindT op).2=6 then parC 6 (l.getD 0 (7,0))
 else if(bindT op).2=3 then parC 4 (l.getD 0 (7,0))+parC 4 (l.getD 1 (7,0))
 else if(bindT op).2<6 then parC (bindT op).2 (l.getD 0 (7,0))+parC ((bindT op).2+1) (l.getD 1 (7,0))
 else 1+(l.map (·.2)).sum
mutual
def cntE:Ex→Nat
 | .mk op _ _ l=>headC op (cntEL l)
def cntEL:List Ex→List (Int × Nat)
 | []=>[]
 |e::r=>((bindT e.op).2,cntE e)::cntEL r
end
def pairC (e:Ex):Int × Nat:=((bindT e.op).2,cntE e)
end Go.Proofs.YtaamkfajnpobfaaGreat
namespace Go.Proofs.YtaamkfajnpobfaaGreat
def nameK (t:Tm):List (List Tok):=if t.op=2 then [[(3,t.name,0)]] else []
def headKT (op:Int)(nm:List Nat)(l m:List (List Tok)):List Tok:=if op=1 then [(3,zeroW,0)] else(3,wordT op,0)::lpK::(joinK ((if op=2 then [[(3,nm,0)]] else [])++l++m)++[rpK])
mutual
def tokT:Tm→List Tok
 | .mk op nm es l=>headKT op nm (es.map tokE) (tokTL l)
def tokTL:List Tm→List (List Tok)
 | []=>[]
 |t::r=>tokT t::tokTL r
end
theorem tokTL_map:∀l,tokTL l=l.map tokT
 | []=>by rw[tokTL];rfl
 |e::r=>by rw[tokTL,tokTL_map r];rfl
theorem tokT_eq (t:Tm):tokT t=headKT t.op t.name (t.exprs.map tokE) (t.terms.map tokT):=by
 cases t;rw[tokT,tokTL_map];rfl
mutual
def fitT:Tm→Bool
 | .mk _ _ es l=>es.all fitE&&fitTL l
def fitTL:List Tm→Bool
 | []=>true
 |t::r=>fitT t&&fitTL r
end
theorem fitTL_all:∀l,fitTL l=l.all fitT
 | []=>by rw[fitTL];rfl
 |e::r=>by rw[fitTL,fitTL_all r];rfl
theorem fitT_inv {t:Tm}(h:fitT t=true):(∀x∈t.exprs,fitE x=true)∧∀x∈t.terms,fitT x=true:=by
 cases t with
 |mk op nm es l=>
  rw[fitT,fitTL_all,Bool.and_eq_true,List.all_eq_true,List.all_eq_true] at h
  exact h
theorem arT_ops {op:Int}{n m:Nat}(h:arT op=((n:Int),(m:Int))):(op=1∧n=0∧m=0)∨(op=2∧n=0∧m=0)∨(op=3∧n=0∧m=1)∨((op=4∨op=5)∧n=0∧m=2)∨((op=6∨op=7∨op=8∨op=9)∧n=1∧m=1):=by
 unfold arT at h
 split at h
 ·injection h;omega
 split at h
 ·injection h;omega
 split at h
 ·injection h;omega
 split at h
 ·injection h;omega
 ·injection h;omega
def rowsK (t:Tm)(f:Tm→List Nat):List (List Nat × List Tok):=(if t.op=2 then [(t.name,[(3,t.name,0)])] else [])++t.exprs.map (fun x=>(exprT x,tokE x))++t.terms.map (fun x=>(f x,tokT x))
theorem rowsK_fst (t:Tm)(f:Tm→List Nat):(rowsK t f).map Prod.fst=(if t.op=2 then [t.name] else [])++t.exprs.map exprT++t.terms.map f:=by
 unfold rowsK
 rw[List.map_append,List.map_append,List.map_map,List.map_map]
 congr 2
 split<;>rfl
theorem rowsK_snd (t:Tm)(f:Tm→List Nat):(rowsK t f).map Prod.snd=(if t.op=2 then [[(3,t.name,0)]] else [])++t.exprs.map tokE++t.terms.map tokT:=by
 unfold rowsK
 rw[List.map_append,List.map_append,List.map_map,List.map_map]
 congr 2
 split<;>rfl
theorem rowsK_ne {t:Tm}{f:Tm→List Nat}(h:arT t.op=((t.exprs.length:Int),(t.terms.length:Int)))(h1:t.op≠1):rowsK t f≠ []:=fun h0=>by
 have hl:(rowsK t f).length=0:=by rw[h0];rfl
 unfold rowsK at hl
 rw[List.length_append,List.length_append,List.length_map,List.length_map] at hl
 rcases arT_ops h with ⟨h2,-⟩|⟨h2,-⟩|⟨-,-,h2⟩|⟨-,-,h2⟩|⟨-,-,h2⟩
 ·exact h1 h2
 ·rw[if_pos h2] at hl;simp at hl
 ·omega
 ·omega
 ·omega
theorem word_named {op:Int}(h1:1≤op)(h2:op≤9):namedB (wordT op)=true:=by
 have key:∀j:Fin 9,namedB (wordsT.getD j.val [])=true:=by decide
 unfold wordT
 exact key ⟨(op-1).toNat,by omega⟩
theorem rowsK_lx {t:Tm}{f:Tm→List Nat}(hb:builtT t=true)(hf:fitT t=true)(hx:∀x∈t.terms,Lx (f x) (tokT x)):∀x∈rowsK t f,Lx x.1 x.2:=by
 obtain⟨hh,he,-⟩:=builtT_inv hb
 obtain⟨-,a2,-⟩:=(headTB_iff _ _ _ _).1 hh
 obtain⟨f1,-⟩:=fitT_inv hf
 intro x hm
 unfold rowsK at hm
 rcases List.mem_append.1 hm with hm|hm
 ·rcases List.mem_append.1 hm with hm|hm
  ·split at hm
   ·rename_i h2
    obtain rfl:=List.mem_singleton.1 hm
    have hfr:=a2 h2
    unfold freeB at hfr
    rw[Bool.and_eq_true] at hfr
    exact Lx.tok' (by decide) (fun r hr=>name_next hfr.1 hr)
   ·cases hm
  ·obtain⟨e,hm2,rfl⟩:=List.mem_map.1 hm
   exact exprT_lx e.nodes e (Nat.le_refl _) (he e hm2) (f1 e hm2)
 ·obtain⟨u,hm2,rfl⟩:=List.mem_map.1 hm
  exact hx u hm2
theorem termT_lx (N:Nat):∀t:Tm,t.nodes≤N→builtT t=true→fitT t=true→Lx (termT t) (tokT t):=by
 induction N with
 |zero=>intro t h;have:=t.nodes_pos;omega
 |succ N ih=>
  intro t hn hb hf
  obtain⟨hh,-,ht⟩:=builtT_inv hb
  obtain⟨a1,-,-⟩:=(headTB_iff _ _ _ _).1 hh
  obtain⟨-,f2⟩:=fitT_inv hf
  have hx:=rowsK_lx (f:=termT) hb hf fun x hx=>ih x (by have:=Tm.term_nodes hx;omega) (ht x hx) (f2 x hx)
  rw[termT_eq,tokT_eq]
  unfold headKT
  split
  ·exact Lx.tok' (by decide) (fun r hr=>name_next (by decide) hr)
  ·rename_i h1
   have h9:1≤t.op∧t.op≤9:=by rcases arT_ops a1 with h|h|h|h|h<;>omega
   have:=(Lx.join _ (rowsK_ne (f:=termT) a1 h1) hx).call (word_named h9.1 h9.2)
   rw[rowsK_fst,rowsK_snd] at this
   exact this
theorem segs_lex {m:List Nat}(hm:∀c∈m,blankB c=true):∀(L:List (List Nat × List Tok)),L≠ []→(∀x∈L,Lx x.1 x.2)→∀r Tr,Good r→Lex r Tr→Lex (segs m (L.map Prod.fst)++r) (joinK (L.map Prod.snd)++Tr)
 | [],h,_,_,_,_,_=>absurd rfl h
 |x::L,_,h,r,Tr,hr,hl=>by
  have hs:∀c∈10::m,blankB c=true:=fun c hc=>by
   rcases List.mem_cons.1 hc with rfl|hc
   ·decide
   ·exact hm c hc
  obtain⟨h1,h2⟩:=join_tail (10::m) hs L (fun y hy=>h y (by simp[hy])) r Tr hr hl
  have h3:=lex_blanks hs ((h x (by simp)).lex _ _ h1 h2)
  have e1:segs m ((x::L).map Prod.fst)++r=(10::m)++(x.1++((L.flatMap fun x=>[44]++(10::m)++x.1)++r)):=by
   rw[List.map_cons,segs,List.flatMap_map]
   simp
  have e2:joinK ((x::L).map Prod.snd)++Tr=x.2++((L.flatMap fun x=>cmK::x.2)++Tr):=by
   rw[List.map_cons,joinK,List.append_assoc,List.flatMap_map]
  rw[e1,e2]
  exact h3
theorem blanksT_b (n:Nat):∀c∈blanksT n,blankB c=true:=fun x hx=>by rw[(List.mem_replicate.1 hx).2];decide
theorem linesT_lx (N:Nat):∀(t:Tm) (d:Nat),t.nodes≤N→builtT t=true→fitT t=true→Lx (linesT d t) (tokT t):=by
 induction N with
 |zero=>intro t d h;have:=t.nodes_pos;omega
 |succ N ih=>
  intro t d hn hb hf
  obtain⟨hh,-,ht⟩:=builtT_inv hb
  obtain⟨a1,-,a3⟩:=(headTB_iff _ _ _ _).1 hh
  obtain⟨-,f2⟩:=fitT_inv hf
  rw[linesT_eq]
  split
  ·exact termT_lx t.nodes t (Nat.le_refl _) hb hf
  ·rename_i hne
   have hx:=rowsK_lx (f:=linesT (d+1)) hb hf fun x hx=>ih x (d+1) (by have:=Tm.term_nodes hx;omega) (ht x hx) (f2 x hx)
   have hops:=arT_ops a1
   have hl:t.terms.length≠0:=fun h=>hne (List.eq_nil_of_length_eq_zero h)
   have h1:t.op≠1:=by omega
   have h2:t.op≠2:=by omega
   have h9:1≤t.op∧t.op≤9:=by omega
   have hw:=word_named h9.1 h9.2
   have hfst:=rowsK_fst t (linesT (d+1))
   have hsnd:=rowsK_snd t (linesT (d+1))
   rw[if_neg h2,List.nil_append] at hfst hsnd
   obtain⟨c,q,hc⟩:∃c q,wordT t.op=c::q:=by
    cases hwt:wordT t.op with
    |nil=>rw[hwt] at hw;exact absurd hw (by decide)
    |cons c q=>exact⟨c,q,rfl⟩
   have hcne:c≠61:=by
    rintro rfl
    rw[hc] at hw
    unfold namedB at hw
    have:letB ((61::q).getD 0 0)=false:=by show letB 61=false;decide
    rw[this] at hw
    simp at hw
   have htk:tokT t=(3,wordT t.op,0)::lpK::(joinK (t.exprs.map tokE++t.terms.map tokT)++[rpK]):=by
    rw[tokT_eq]
    unfold headKT
    rw[if_neg h1,if_neg h2,List.nil_append]
   refine⟨⟨c,q++[40]++segs (blanksT (d+1)) (rowsT d t)++[10]++blanksT d++[41],by rw[hc];rfl,hcne⟩,fun r Tr hr hlex=> ?_⟩
   have g1:Lex ([41]++r) (rpK::Tr):=lex_sign (by decide) hr.ne hlex
   have g2:Lex ((10::blanksT d)++([41]++r)) (rpK::Tr):=lex_blanks (fun x hx=>by
    rcases List.mem_cons.1 hx with rfl|hx
    ·decide
    ·exact blanksT_b d x hx) g1
   have g3:=segs_lex (blanksT_b (d+1)) _ (rowsK_ne (f:=linesT (d+1)) a1 h1) hx _ _ (good_c (.inr (.inr (.inr (.inl rfl))))) g2
   rw[hfst,hsnd] at g3
   have g4:=lex_sign (s:=[40]) (by decide) (fun c q e=>by
    obtain⟨y,l,hyl⟩:∃y l,t.exprs.map exprT++t.terms.map (linesT (d+1))=y::l:=by
     cases hz:t.exprs.map exprT++t.terms.map (linesT (d+1)) with
     |nil=>have:=congrArg List.length hz;rw[List.length_append,List.length_map,List.length_map] at this;simp only[List.length_nil] at this;omega
     |cons y l=>exact⟨y,l,rfl⟩
    rw[hyl] at e
    injection e with e _
    rw[←e]
    decide) g3
   have g5:=lex_tok (name_next hw (r:=[40]++(segs (blanksT (d+1)) (t.exprs.map exprT++t.terms.map (linesT (d+1)))++((10::blanksT d)++([41]++r)))) (good_c (.inr (.inr (.inr (.inr rfl)))))) g4
   rw[htk]
   have e1:wordT t.op++[40]++segs (blanksT (d+1)) (rowsT d t)++[10]++blanksT d++[41]++r=wordT t.op++([40]++(segs (blanksT (d+1)) (t.exprs.map exprT++t.terms.map (linesT (d+1)))++((10::blanksT d)++([41]++r)))):=by
    unfold rowsT
    simp
   have e2:(3,wordT t.op,0)::lpK::(joinK (t.exprs.map tokE++t.terms.map tokT)++[rpK])++Tr=(3,wordT t.op,0)::(lpK::(joinK (t.exprs.map tokE++t.terms.map tokT)++(rpK::Tr))):=by simp
   rw[e1,e2]
   exact g5
section
variable {ws:List Wd}
theorem Le.trans {α:Type}{r r' r'':Rs α}(h:Le r r')(k:Le r' r''):Le r r'':=fun hne=>by
 have h1:=h hne
 rw[←h1] at hne⊢
 exact k hne
theorem fuel_les (ws:List Wd)(n:Nat):∀j lvl p d,Le ((fuelP ws n).E lvl p d) ((fuelP ws (n+j)).E lvl p d)
 |0,_,_,_=>Le.refl _
 |j+1,lvl,p,d=>(fuel_les ws n j lvl p d).trans ((fuel_le ws (n+j)).E lvl p d)
theorem fuel_E (ws:List Wd){n k p d lvl:Nat}(hn:n+1+k=ws.length+1)(hk:k≤p):(fuelP ws (n+1)).E lvl p d=(fullP ws).E lvl p d:=by
 have h1:=(fuelP_def ws n k (by omega)).E lvl p d hk
 have h2:=fuel_les ws (n+1) k lvl p d
 rw[hn] at h2
 exact(h2 h1).symm
theorem parts_gen {α:Type}{k d:Nat}:∀(L:List ((Nat→Nat→Rs α) × α × List Tok)),(∀z∈L,∀p,k≤p→At ws p z.2.2→powAt ws (p+z.2.2.length)=none→z.1 p d= .ok z.2.1 (p+z.2.2.length))→∀p,k≤p→At ws p ((L.flatMap fun z=>cmK::z.2.2)++[rpK])→partsP ws (L.map Prod.fst) false p d= .ok (L.map fun z=>z.2.1) (p+(L.flatMap fun z=>cmK::z.2.2).length)∧powAt ws p=none
 | [],_,p,_,ha=>⟨rfl,by rw[ha.pow];decide⟩
 |z::L,h,p,hk,ha=>by
  have e1:((z::L).flatMap fun z=>cmK::z.2.2)++[rpK]=cmK::(z.2.2++((L.flatMap fun z=>cmK::z.2.2)++[rpK])):=by simp[List.flatMap_cons]
  rw[e1] at ha
  obtain⟨i1,i2⟩:=parts_gen L (fun y hy=>h y (by simp[hy])) _ (by omega) ha.tail.right
  have hx:=h z (by simp) _ (by omega) ha.tail.left i2
  refine⟨?_,by rw[ha.pow];decide⟩
  rw[List.map_cons,partsP_cons,if_neg (by simp),ha.signQ,Rs.bind_ok,hx,Rs.bind_ok,i1,Rs.bind_ok]
  congr 1
  simp[List.flatMap_cons]
  omega
theorem join_gen {α:Type}{k d:Nat}:∀(L:List ((Nat→Nat→Rs α) × α × List Tok)),(∀z∈L,∀p,k≤p→At ws p z.2.2→powAt ws (p+z.2.2.length)=none→z.1 p d= .ok z.2.1 (p+z.2.2.length))→∀p,k≤p→At ws p (joinK (L.map fun z=>z.2.2)++[rpK])→partsP ws (L.map Prod.fst) true p d= .ok (L.map fun z=>z.2.1) (p+(joinK (L.map fun z=>z.2.2)).length)
 | [],_,p,_,_=>rfl
 |z::L,h,p,hk,ha=>by
  have e1:joinK ((z::L).map fun z=>z.2.2)=z.2.2++L.flatMap fun z=>cmK::z.2.2:=by rw[List.map_cons,joinK,List.flatMap_map]
  rw[e1,List.append_assoc] at ha
  obtain⟨i1,i2⟩:=parts_gen L (fun y hy=>h y (by simp[hy])) _ (by omega) ha.right
  have hx:=h z (by simp) _ hk ha.left i2
  rw[List.map_cons,partsP_cons,if_pos rfl,Rs.bind_ok,hx,Rs.bind_ok,i1,Rs.bind_ok,e1]
  congr 1
  rw[List.length_append]
  omega
theorem within_gen {α:Type}{k d p:Nat}{L:List ((Nat→Nat→Rs α) × α × List Tok)}(h:∀z∈L,∀p,k≤p→At ws p z.2.2→powAt ws (p+z.2.2.length)=none→z.1 p (d+1)= .ok z.2.1 (p+z.2.2.length))(hk:k≤p+1)(hd:d<64)(ha:At ws p (lpK::(joinK (L.map fun z=>z.2.2)++[rpK]))):withinP ws (L.map Prod.fst) p d= .ok (L.map fun z=>z.2.1) (p+(lpK::(joinK (L.map fun z=>z.2.2)++[rpK])).length):=by
 have hj:=join_gen L h (p+1) hk ha.tail
 unfold withinP
 rw[ha.signQ,Rs.bind_ok,enter_ok hd,Rs.bind_ok,hj,Rs.bind_ok,ha.tail.right.signQ,Rs.bind_ok]
 congr 1
 simp
 omega
theorem words_T {op:Int}(h:3≤op∧op≤9):wordT op≠zeroW∧wordT op≠oneW∧(termsW (wordT op)).1=op∧arT op=(((termsW (wordT op)).2.1:Int),((termsW (wordT op)).2.2:Int)):=by
 have:op=3∨op=4∨op=5∨op=6∨op=7∨op=8∨op=9:=by omega
 rcases this with rfl|rfl|rfl|rfl|rfl|rfl|rfl<;>decide
theorem term_read (N:Nat):∀(t:Tm) (p d k n:Nat),t.nodes≤N→builtT t=true→k≤p→n+1+k=ws.length+1→d+2*t.depth≤64→At ws p (tokT t)→fuelT ws (n+1) p d= .ok t (p+(tokT t).length):=by
 induction N with
 |zero=>intro t p d k n h;have:=t.nodes_pos;omega
 |succ N ih=>
  intro t p d k n hN hb hk hn hd ha
  obtain⟨hh,he,ht⟩:=builtT_inv hb
  obtain⟨a1,a2,a3⟩:=(headTB_iff _ _ _ _).1 hh
  have hdp:∀x∈t.exprs,x.depth<t.depth:=fun x hx=>Tm.expr_depth hx
  have hdt:∀x∈t.terms,x.depth<t.depth:=fun x hx=>Tm.term_depth hx
  have hnt:∀x∈t.terms,x.nodes<t.nodes:=fun x hx=>Tm.term_nodes hx
  have htk:=tokT_eq t
  show termP ws ((fuelP ws (n+1)).E 0) (fuelT ws n) p d=_
  obtain⟨op,nm,es,l⟩:=t
  simp only[Tm.op,Tm.name,Tm.exprs,Tm.terms] at *
  have hd1:1≤(Tm.mk op nm es l).depth:=by unfold Tm.depth;omega
  unfold headKT at htk
  have hops:=arT_ops a1
  unfold termP
  by_cases h1:op=1
  ·subst h1
   obtain rfl:=List.eq_nil_of_length_eq_zero (show es.length=0 by omega)
   obtain rfl:=List.eq_nil_of_length_eq_zero (show l.length=0 by omega)
   obtain rfl:=a3 (by decide)
   rw[if_pos rfl] at htk
   rw[htk] at ha⊢
   rw[ha.head.1,if_neg (by decide),ha.head.2.1,if_pos rfl]
   rfl
  rw[if_neg h1] at htk
  by_cases h2:op=2
  ·subst h2
   obtain rfl:=List.eq_nil_of_length_eq_zero (show es.length=0 by omega)
   obtain rfl:=List.eq_nil_of_length_eq_zero (show l.length=0 by omega)
   have hfr:=a2 rfl
   unfold freeB at hfr
   rw[Bool.and_eq_true,Bool.not_eq_true'] at hfr
   rw[if_pos rfl] at htk
   rw[htk] at ha⊢
   have hw:=within_gen (ws:=ws) (k:=0) (d:=d) (p:=p+1) (L:=[((fun p _=>nameP ws p),nm,[(3,nm,0)])]) (fun z hz p hk ha hp=>by
    obtain rfl:=List.mem_singleton.1 hz
    dsimp only at ha⊢
    unfold nameP
    rw[ha.head.1,ha.head.2.1,if_pos ⟨rfl,hfr.2⟩]
    rfl) (Nat.zero_le _) (by omega) ha.tail
   rw[ha.head.1,if_neg (by decide),ha.head.2.1,if_neg (by decide),if_pos (by decide)]
   have hw:withinP ws [fun p _=>nameP ws p] (p+1) d=_:=hw
   rw[hw,Rs.bind_ok]
   congr 1
  rw[if_neg h2] at htk
  obtain⟨w1,w2,w3,w4⟩:=words_T (op:=op) (by omega)
  obtain rfl:=a3 h2
  rw[List.nil_append] at htk
  rw[htk] at ha⊢
  have hpl:p<ws.length:=by
   rcases Nat.lt_or_ge p ws.length with h|h
   ·exact h
   ·have:=ha.head.1
    rw[wAt_end h] at this
    cases this
  obtain⟨n,rfl⟩:∃n',n=n'+1:=⟨n-1,by omega⟩
  rw[w4] at a1
  injection a1 with b1 b2
  obtain⟨E0,hE0⟩:∃E0,E0=(fuelP ws (n+1+1)).E 0:=⟨_,rfl⟩
  have hones:onesP E0 (fuelT ws (n+1)) (termsW (wordT op)).2.1 (termsW (wordT op)).2.2=(es.map (fun e=>((fun p d=>(E0 p d).map Sum.inl:Nat→Nat→Rs Part),(Sum.inl e:Part),tokE e))++l.map (fun t=>((fun p d=>(fuelT ws (n+1) p d).map Sum.inr:Nat→Nat→Rs Part),(Sum.inr t:Part),tokT t))).map Prod.fst:=by
   unfold onesP
   rw[List.map_append,List.map_map,List.map_map]
   congr 1
   ·rw[show(termsW (wordT op)).2.1=es.length by omega]
    exact List.map_const'.symm
   ·rw[show(termsW (wordT op)).2.2=l.length by omega]
    exact List.map_const'.symm
  have htoks:joinK ((es.map (fun e=>((fun p d=>(E0 p d).map Sum.inl:Nat→Nat→Rs Part),(Sum.inl e:Part),tokE e))++l.map (fun t=>((fun p d=>(fuelT ws (n+1) p d).map Sum.inr:Nat→Nat→Rs Part),(Sum.inr t:Part),tokT t))).map fun z=>z.2.2)=joinK (es.map tokE++l.map tokT):=by
   rw[List.map_append,List.map_map,List.map_map]
   rfl
  have hw:=within_gen (ws:=ws) (k:=k+1) (d:=d) (p:=p+1) (L:=es.map (fun e=>((fun p d=>(E0 p d).map Sum.inl:Nat→Nat→Rs Part),(Sum.inl e:Part),tokE e))++l.map (fun t=>((fun p d=>(fuelT ws (n+1) p d).map Sum.inr:Nat→Nat→Rs Part),(Sum.inr t:Part),tokT t))) (fun z hz p' hk' ha' hp'=>by
   rcases List.mem_append.1 hz with hz|hz
   ·obtain⟨e,hm,rfl⟩:=List.mem_map.1 hz
    dsimp only at ha' hp'⊢
    have:=(exprT_rd (ws:=ws) e.nodes e (Nat.le_refl _) (he e hm)).zero (p:=p') (d:=d+1) (by have:=hdp e hm;omega) ha' hp'
    rw[hE0,fuel_E ws hn (by omega),this]
    rfl
   ·obtain⟨t,hm,rfl⟩:=List.mem_map.1 hz
    dsimp only at ha' hp'⊢
    have:=ih t p' (d+1) (k+1) n (by have:=hnt t hm;omega) (ht t hm) hk' (by omega) (by have:=hdt t hm;omega) ha'
    rw[this]
    rfl) (by omega) (by omega) (by rw[htoks];exact ha.tail)
  rw[ha.head.1,if_neg (by decide),ha.head.2.1,if_neg w1,if_neg w2,if_neg (by omega),←hE0,hones,hw,Rs.bind_ok,w3]
  have x1:exprsOf ((es.map (fun e=>((fun p d=>(E0 p d).map Sum.inl:Nat→Nat→Rs Part),(Sum.inl e:Part),tokE e))++l.map (fun t=>((fun p d=>(fuelT ws (n+1) p d).map Sum.inr:Nat→Nat→Rs Part),(Sum.inr t:Part),tokT t))).map fun z=>z.2.1)=es:=by
   unfold exprsOf
   rw[List.map_append,List.map_map,List.map_map,List.filterMap_append,List.filterMap_map,List.filterMap_map]
   have y1:∀es:List Ex,es.filterMap (fun e=>some e)=es:=fun es=>by simp
   have y2:∀l:List Tm,l.filterMap (fun _=>(none:Option Ex))=[]:=fun l=>by simp
   have h1:=y1 es
   have h2:=y2 l
   exact((congrArg (· ++_) h1).trans (congrArg (es++ ·) h2)).trans (List.append_nil _)
  have x2:termsOf2 ((es.map (fun e=>((fun p d=>(E0 p d).map Sum.inl:Nat→Nat→Rs Part),(Sum.inl e:Part),tokE e))++l.map (fun t=>((fun p d=>(fuelT ws (n+1) p d).map Sum.inr:Nat→Nat→Rs Part),(Sum.inr t:Part),tokT t))).map fun z=>z.2.1)=l:=by
   unfold termsOf2
   rw[List.map_append,List.map_map,List.map_map,List.filterMap_append,List.filterMap_map,List.filterMap_map]
   have y1:∀l:List Tm,l.filterMap (fun e=>some e)=l:=fun es=>by simp
   have y2:∀l:List Ex,l.filterMap (fun _=>(none:Option Tm))=[]:=fun l=>by simp
   have h1:=y2 es
   have h2:=y1 l
   exact(congrArg (· ++_) h1).trans (congrArg ([]++ ·) h2)
  rw[x1,x2,htoks]
  congr 1
  simp
  omega
end
theorem term_back {t:Tm}(hr:rightT t=true)(hf:fitT t=true){s:List Nat}(hlx:Lx s (tokT t))(h4:s.length≤4000):parseT s=(t,0,0):=by
 have hr0:=hr
 unfold rightT at hr
 simp only[Bool.and_eq_true,decide_eq_true_eq] at hr
 have hlx:=hlx.lex [] [] good_nil (.nil rfl)
 rw[List.append_nil,List.append_nil] at hlx
 obtain⟨h1,h2⟩:=hlx.all
 have hlen:(tokT t).length=(lexAll s).1.length:=by rw[←h2,List.length_map]
 have hz:=term_read (ws:=(lexAll s).1) t.nodes t 0 0 0 (lexAll s).1.length (Nat.le_refl _) hr.2 (Nat.le_refl _) rfl (by omega) (at_words h2)
 rw[Nat.zero_add] at hz
 have hq:termQ (lexAll s).1= .ok t (tokT t).length:=hz
 have hpa:parAt s (termQ (lexAll s).1)=(0,0):=by
  unfold parAt
  rw[if_neg (by omega),h1,hq]
  exact if_pos hlen
 unfold parseT
 rw[hpa,if_neg (by simp),hq]
 dsimp only
 rw[if_pos hr0]
theorem termT_back {t:Tm}(hr:rightT t=true)(hf:fitT t=true)(h4:(termT t).length≤4000):parseT (termT t)=(t,0,0):=by
 have h:=hr
 unfold rightT at h
 simp only[Bool.and_eq_true] at h
 exact term_back hr hf (termT_lx t.nodes t (Nat.le_refl _) h.2 hf) h4
theorem linesT_back {t:Tm}(hr:rightT t=true)(hf:fitT t=true)(h4:(linesT 0 t).length≤4000):parseT (linesT 0 t)=(t,0,0):=by
 have h:=hr
 unfold rightT at h
 simp only[Bool.and_eq_true] at h
 exact term_back hr hf (linesT_lx t.nodes t 0 (Nat.le_refl _) h.2 hf) h4
theorem RepE.fitX {w:World}{S:Nat→Prop}{e:Ex}{v:Value}(h:RepE w S e v):fitE e=true:=by
 induction h with
 | @mk op n nm args A c vs hl h60 hop hn hnm hnl hr hA ih=>
  rw[fitE,fitL_all,Bool.and_eq_true,decide_eq_true_eq,List.all_eq_true]
  refine⟨hn.2,fun x hx=> ?_⟩
  obtain⟨i,hi,rfl⟩:=List.getElem_of_mem hx
  exact ih i _ _ (List.getElem?_eq_getElem hi) (List.getElem?_eq_getElem (by omega))
end Go.Proofs.YtaamkfajnpobfaaGreat
namespace Go.Proofs.YtaamkfajnpobfaaGreat
open Go.ChangeShapes Go.WideShapes Go.Deep Go.RowKit
end Go.Proofs.YtaamkfajnpobfaaGreat
namespace Go.Proofs.YtaamkfajnpobfaaGreat
open Go.RowKit
theorem RepT.fit {w:World}{S:Nat→Prop}{t:Tm}{v:Value}(h:RepT w S t v):fitT t=true:=by
 induction h with
 | @mk op nm es ts A A' c c' vs us hl hl' h60 h60' hop hnm hnl hr hr' hA hA' ih=>
  rw[fitT,fitTL_all,Bool.and_eq_true,List.all_eq_true,List.all_eq_true]
  refine⟨fun x hx=> ?_,fun x hx=> ?_⟩
  ·obtain⟨i,hi,rfl⟩:=List.getElem_of_mem hx
   exact(hr i _ _ (List.getElem?_eq_getElem hi) (List.getElem?_eq_getElem (by omega))).fitX
  ·obtain⟨i,hi,rfl⟩:=List.getElem_of_mem hx
   exact ih i _ _ (List.getElem?_eq_getElem hi) (List.getElem?_eq_getElem (by omega))
structure RsB (lo hi:Nat)(S:Nat→Prop)(x:Tm)(v:Value)(W:World):Prop where
 rep:RepT W S x v
 bd:∀b,S b→lo≤b∧b<hi
 hi_le:hi≤W.heap.size
theorem RsB.step {lo hi:Nat}{S:Nat→Prop}{x:Tm}{v:Value}{W W':World}(r:RsB lo hi S x v W)(h:Below W.heap.size W W'):RsB lo hi S x v W':=
 ⟨r.rep.mono (fun _ h=>h) (fun a ha=>h.cell (Nat.lt_of_lt_of_le (r.bd _ ha).2 r.hi_le)),r.bd,Nat.le_trans r.hi_le h.size⟩
theorem RsB.put {lo hi g:Nat}{T:TypeId}{cur cs:Array Value}{S:Nat→Prop}{x:Tm}{v:Value}{W W':World}(r:RsB lo hi S x v W)(_k:Blk W g T cur)(p:Put W W' g T cs){E:Prop}(_e:E)(hne:g<lo∨hi≤g:=by omega):RsB lo hi S x v W':=
 ⟨r.rep.mono (fun _ h=>h) (fun a ha=>World.cell?_of_block (p.grown.block _ (Nat.lt_of_lt_of_le (r.bd _ ha).2 r.hi_le) (fun e=>by injection e with e;have:=r.bd _ ha;omega))),r.bd,Nat.le_trans r.hi_le (Nat.le_of_eq p.size.symm)⟩
theorem run_build_T0b (w:World):(Instr.build 25 #[]).run Tryz.prog w= .ok (.agg #[.int .i64 0, .string {data:= #[]}, .slice none 0 0, .slice none 0 0]) w:=by kernel_rfl
theorem last_any (n cE cN cD cT cM cP:Nat)(AE AN AD AT AM AP:Option Addr)(ts:List Tm)(w:World)(h60:ts.length≤1000)(hr:TreeT w w.heap.size ts AT AM AP):
  Calls Tryz.prog 19 #[treeK n ts.length AE AN AD AT AM AP cE cN cD cT cM cP] w fun en w'=>(en= .returned (.tuple #[.agg #[.int .i64 0, .string {data:= #[]}, .slice none 0 0, .slice none 0 0], .bool false])∨
   ∃t A1 A2 c1 c2,t∈ts∧rightT t=true∧RepB w w.heap.size t (.agg #[.int .i64 t.op, .string (strOf t.name), .slice A1 t.exprs.length c1, .slice A2 t.terms.length c2])∧en= .returned (.tuple #[.agg #[.int .i64 t.op, .string (strOf t.name), .slice A1 t.exprs.length c1, .slice A2 t.terms.length c2], .bool true]))∧Grow w w':=by
 have bel:=Below.refl w.heap.size w
 obtain⟨e,he⟩:∃e,e=ts.getD (ts.length-1) (.mk 0 [] [] []):=⟨_,rfl⟩
 have hget:ts.length≠0→ts[ts.length-1]? =some e:=fun h=>by rw[he,List.getD_eq_getElem?_getD,List.getElem?_eq_getElem (show ts.length-1<ts.length by omega)];rfl
 have hright:∀W',Below w.heap.size w W'→ts.length≠0→Calls Tryz.prog 41 #[.agg #[.slice AE n cE, .slice AN n cN, .slice AD n cD, .slice AT ts.length cT, .slice AM ts.length cM, .slice AP ts.length cP], .int .i64 ((ts.length:Int)-1)] W' fun en w'=>en= .returned (.bool (rightT e))∧Grow W' w':=fun W' hb h0=>by
  have:=treeRightT_any (ts.length-1) n cE cN cD cT cM cP AE AN AD AT AM AP ts e W' ((hr.below hb).more hb.size) (hget h0)
  rw[show((ts.length-1:Nat):Int)=(ts.length:Int)-1 by omega] at this
  exact this
 unfold treeK
 refine Zs 24 Tryz.func19 ?_
 refine Zsr ?_
 refine Seq.box rfl rfl rfl rfl rfl ?_
 intro g1 w1 n1
 have e1:=Nat.le_trans bel.size n1.ge
 replace bel:=bel.step n1.below
 have k1:=n1.blk
 refine Zl zero_api_Term ?_
 intro g2 w2 n2
 have e2:=Nat.le_trans bel.size n2.ge
 have l2:=Nat.lt_of_lt_of_le k1.lt n2.ge
 replace bel:=bel.step n2.below
 replace k1:=k1.step n2.below
 have k2:=n2.blk
 refine Za ?_
 refine Zk4 0 1 2 3 (Ztq ?_)
 refine Zf 3 Tryz.underlying45 ?_
 refine Zv (Runs.loadB rfl rfl Tryz.underlying23 rfl k1 rfl) ?_
 refine Zv (Runs.len rfl rfl Tryz.underlying23) ?_
 refine Za ?_
 refine Zk5 0 1 2 3 4 (Zts (Zsr ?_))
 refine Zm ?_
 refine Zv (Runs.eqlI rfl rfl rfl) ?_
 refine Zm ?_
 refine SeqC.start ?_
 refine Zco (fun hcx=>Runs.loadW rfl rfl Tryz.underlying45 rfl k1 (m:=6) (by kernel_rfl) rfl) ?_
 refine SeqC.next rfl rfl rfl rfl rfl rfl rfl (fun hcx=>Runs.move rfl rfl) ?_
 refine SeqC.next rfl rfl rfl rfl rfl rfl rfl (fun hcx=>Runs.subI rfl rfl rfl (by omega) (by omega)) ?_
 refine SeqC.nextC rfl rfl rfl rfl rfl rfl rfl (fun hcx=>Ze Tryz.func41) (fun hcx=>hright _ bel (fun h=>by simp at hcx;exact hcx.2 (List.eq_nil_of_length_eq_zero h))) ?_
 intro w3 hw3
 replace bel:=bel.step hw3
 replace k1:=k1.step hw3
 replace k2:=k2.step hw3
 refine SeqC.next rfl rfl rfl rfl rfl rfl rfl (fun hcx=>Runs.not rfl rfl) ?_
 refine SeqC.or rfl rfl rfl rfl rfl rfl rfl ?_
 refine Zk6 0 1 2 3 4 16 (Zt ?_)
 refine Cd.cond rfl (fun hc2=> ?_) (fun hc2=> ?_)
 ·skip
  refine Zsr ?_
  refine Zv (Runs.build rfl rfl (run_build_T0b _)) ?_
  refine Zo 4 k2 ?_
  intro w4 pw4
  replace bel:=bel.put k2 pw4 e2
  replace k1:=k1.put pw4 (by omega)
  replace k2:=pw4.blk
  refine Za ?_
  refine Zk6 0 1 2 3 4 16 (Zt (Cd.ret (Post.then_ret ?_)))
  refine Post.endC2 rfl rfl rfl k2 Tryz.underlying25 rfl (m:=4) (by kernel_rfl) rfl (.inl rfl) ?_
  exact⟨.inl rfl,bel⟩
 ·obtain⟨h0,hrb⟩:ts.length≠0∧rightT e=true:=by simpa using hc2
  obtain⟨ad,A1,A2,d1,d2,rfl,hadb,hrep,hcell⟩:=hr.term _ e (hget h0)
  have hcE:∀W',Below w.heap.size w W'→∀(q:Nat) (u:Value),([.int .i64 e.op, .string (strOf e.name), .slice A1 e.exprs.length d1, .slice A2 e.terms.length d2]:List Value)[q]? =some u→W'.cell? ((ad.add ((ts.length-1)*4)).add q)=some u:=fun W' hW q u hq=>(hW.cell (by rw[block_of_add,block_of_add];exact hadb)).trans (hcell q u hq)
  refine Cd.skip (Ztq ?_)
  refine Zf 3 Tryz.underlying45 ?_
  refine Zv (Runs.loadB rfl rfl Tryz.underlying23 rfl k1 rfl) ?_
  refine Zm ?_
  refine Zv (Runs.subI rfl rfl rfl (by omega) (by omega)) ?_
  refine Zv (Runs.indexN rfl rfl rfl Tryz.underlying23 (s:=4) (by kernel_rfl) (j:=ts.length-1) (by omega) (by omega)) ?_
  refine Zv (Runs.loadF (ps:=[.int .i64 e.op, .string (strOf e.name), .slice A1 e.exprs.length d1, .slice A2 e.terms.length d2]) rfl rfl Tryz.underlying25 rfl (m:=4) (by kernel_rfl) rfl (hcE _ bel)) ?_
  refine Zo 4 k2 ?_
  intro w4 pw4
  replace bel:=bel.put k2 pw4 e2
  replace k1:=k1.put pw4 (by omega)
  replace k2:=pw4.blk
  refine Za ?_
  refine Zk6 0 1 2 3 4 16 (Zt (Cd.ret ?_))
  refine Post.endC2 rfl rfl rfl k2 Tryz.underlying25 rfl (m:=4) (by kernel_rfl) rfl (.inl rfl) ?_
  exact⟨.inr ⟨e,A1,A2,d1,d2,List.mem_of_getElem? (hget h0),hrb,hrep,rfl⟩,bel⟩
end Go.Proofs.YtaamkfajnpobfaaGreat
namespace Go.Proofs.YtaamkfajnpobfaaGreat
open Go.ChangeShapes Go.WideShapes Go.ChangeAt Go.Deep Go.RowKit
theorem LfAt.more {w:World}{B B':Nat}{A:Option Addr}{xs:List Lf}(h:LfAt w B A xs)(hb:B≤B'):LfAt w B' A xs:=fun i x hx=>by
 obtain⟨ad,A',c,e1,e2,e3,e4⟩:=h i x hx
 exact⟨ad,A',c,e1,Nat.lt_of_lt_of_le e2 hb,e3.more hb,e4⟩
theorem KnAt.more {w:World}{B B':Nat}{A:Option Addr}{xs:List Kn}(h:KnAt w B A xs)(hb:B≤B'):KnAt w B' A xs:=fun i x hx=>by
 obtain⟨ad,A1,A2,c1,c2,e1,e2,e3,e3',e4⟩:=h i x hx
 exact⟨ad,A1,A2,c1,c2,e1,Nat.lt_of_lt_of_le e2 hb,e3.more hb,e3'.more hb,e4⟩
theorem walk_pback (A AK:Option Addr)(n c nK cK:Nat)(xs:List Lf)(ks:List Kn)(W:World)(hl:xs.length=n)(hx:∀x∈xs,x.rng)(hr:LfAt W W.heap.size A xs)(hlK:ks.length=nK)(hxK:∀x∈ks,x.rng)(hrK:KnAt W W.heap.size AK ks):Calls Tryz.prog 6 #[.slice A n c, .slice AK nK cK] W fun e w'=>e= .returned (.bool true)∧Below W.heap.size W w':=by
 have bel:=Below.refl W.heap.size W
 refine Zs 90 Tryz.func6 ?_
 refine Zsr ?_
 refine Za ?_
 refine Zk3 0 1 4 (Zts (Zsr ?_))
 refine Zm ?_
 refine Zm ?_
 refine Zc (Ze Tryz.func14) (greatK_any n c nK cK A AK _) ?_
 rintro e w5 ⟨rfl,hb5⟩
 refine⟨_,rfl,?_⟩
 replace bel:=bel.step hb5
 refine Zk4 0 1 4 19 (Zt ?_)
 refine Cd.cond rfl (fun hc=> ?_) (fun hc=> ?_)
 ·skip
  refine Zsr ?_
  refine Zc (Ze Tryz.func15) (awake20_any _) ?_
  rintro e w6 ⟨rfl,hb6⟩
  refine⟨_,rfl,?_⟩
  replace bel:=bel.step hb6
  refine Za ?_
  refine Zk4 0 1 4 19 (Zt (Cd.ret (Post.then_ret ?_)))
  refine Post.end1 rfl rfl (.inl rfl) ?_
  exact⟨rfl,bel⟩
 have h60:n≤60∧nK≤60:=by simp at hc;omega
 refine Cd.skip (Ztq ?_)
 refine Zm ?_
 refine Zm ?_
 refine Zc (Ze Tryz.func16) (buildK_any n c nK cK A AK xs ks _ hl h60.1 hx ((hr.below bel).more bel.size) hlK h60.2 hxK ((hrK.below bel).more bel.size)) ?_
 rintro e WB ⟨⟨v,rfl,hbr⟩,hb6⟩
 refine⟨_,rfl,?_⟩
 replace bel:=bel.step hb6
 obtain⟨AE,AN,AD,AT,AM,AP,cE,cN,cD,cT,cM,cP,hv,tr,tt⟩:=hbr.tree
 have hdep:=termsOf_depth (treesOf xs) 60 (fun e he=>Nat.le_trans (treesOf_depth xs e he) (by omega)) ks
 have hlen:=termsOf_length (treesOf xs) ks
 clear hbr
 obtain⟨es,hes⟩:∃es,es=treesOf xs:=⟨_,rfl⟩
 obtain⟨ts,hts⟩:∃ts,ts=termsOf (treesOf xs) ks:=⟨_,rfl⟩
 rw[←hts] at hv tt hdep hlen
 rw[←hes] at hv tr
 subst hv
 have bel0:=bel
 replace bel:=Below.refl WB.heap.size WB
 refine Zc (Ze Tryz.func19) (last_any es.length cE cN cD cT cM cP AE AN AD AT AM AP ts _ (by omega) tt) ?_
 rintro en w7 ⟨ho,hb7⟩
 rcases ho with rfl|⟨t,A1,A2,d1,d2,htm,hrt,hrep,rfl⟩
 ·refine⟨_,rfl,?_⟩
  replace bel:=bel.step hb7
  refine Zm ?_
  refine Zv (Runs.extract rfl rfl rfl) ?_
  refine Zv (Runs.extract rfl rfl rfl) ?_
  refine Zl zero_api_Term ?_
  intro g5 w1 n5
  have e5:=Nat.le_trans bel.size n5.ge
  replace bel:=bel.step n5.below
  have k5:=n5.blk
  refine Zo 4 k5 ?_
  intro w2 pw2
  replace bel:=bel.put k5 pw2 e5
  replace k5:=pw2.blk
  refine Za ?_
  refine Zk6 0 1 4 5 6 19 (Zts (Zsr ?_))
  refine Zm ?_
  refine Zv (Runs.not rfl rfl) ?_
  refine Zk7 0 1 4 5 6 19 29 (Zt ?_)
  refine Cd.condT rfl rfl ?_
  refine Zsr ?_
  refine Zc (Ze Tryz.func15) (awake20_any _) ?_
  rintro en w8 ⟨rfl,hb8⟩
  refine⟨_,rfl,?_⟩
  replace bel:=bel.step hb8
  replace k5:=k5.step hb8
  refine Za ?_
  refine Zk7 0 1 4 5 6 19 29 (Zt (Cd.ret (Post.then_ret ?_)))
  refine Post.end1 rfl rfl (.inl rfl) ?_
  exact⟨rfl,bel0.trans (bel.mono bel0.size)⟩
 refine⟨_,rfl,?_⟩
 replace bel:=bel.step hb7
 refine Zm ?_
 refine Zv (Runs.extract rfl rfl rfl) ?_
 refine Zv (Runs.extract rfl rfl rfl) ?_
 refine Zl zero_api_Term ?_
 intro g5 w1 n5
 have e5:=Nat.le_trans bel.size n5.ge
 replace bel:=bel.step n5.below
 have k5:=n5.blk
 refine Zo 4 k5 ?_
 intro w2 pw2
 replace bel:=bel.put k5 pw2 e5
 replace k5:=pw2.blk
 refine Za ?_
 refine Zk6 0 1 4 5 6 19 (Zts (Zsr ?_))
 refine Zm ?_
 refine Zv (Runs.not rfl rfl) ?_
 refine Zk7 0 1 4 5 6 19 29 (Zt ?_)
 refine Cd.condF rfl rfl ?_
 have k5:Blk _ g5 25 #[.int .i64 t.op, .string (strOf t.name), .slice A1 t.exprs.length d1, .slice A2 t.terms.length d2]:=k5
 have hde:=hdep t htm
 have hfit:=hrep.fit
 have hrepC:∀W',Below WB.heap.size WB W'→RepB W' W'.heap.size t _:=fun W' hb=>(hrep.below hb).more hb.size
 obtain⟨hn2,hd2,hbt⟩:=rightT_spec hrt
 have e1:textR t=termT t:=by unfold textR;rw[if_pos hrt]
 have e2:linesR t=linesT 0 t:=by unfold linesR;rw[if_pos hrt]
 have hpt:=fun W' hb=>printTerm_any t _ W' (by omega) (hrepC W' hb)
 have hpl:=fun W' hb=>printLines_any t _ W' (by omega) (hrepC W' hb)
 rw[hrt,e1] at hpt
 rw[hrt,e2] at hpl
 have hb1:=(termT_bd t.nodes t (Nat.le_refl _) hbt).2
 have hb2:=(linesT_bd t.nodes t 0 (Nat.le_refl _) hbt (by omega)).2
 have hp1:=termT_back hrt hfit
 have hp2:=linesT_back hrt hfit
 have hor:∀T:List Nat,((prText true T).2=4)∨(prText true T=(T,0)∧T.length≤4000):=fun T=>by
  unfold prText
  rw[if_neg (by decide)]
  split
  ·exact .inl rfl
  ·exact .inr ⟨rfl,by omega⟩
 have ho1:=hor (termT t)
 have ho2:=hor (linesT 0 t)
 obtain⟨⟨s1,n1⟩,hs1⟩:∃z,prText true (termT t)=z:=⟨_,rfl⟩
 obtain⟨⟨s2,n2⟩,hs2⟩:∃z,prText true (linesT 0 t)=z:=⟨_,rfl⟩
 rw[hs1] at ho1 hpt
 rw[hs2] at ho2 hpl
 have hq1:n1=0→(∀x∈s1,x<256)∧s1.length≤4000∧parseT s1=(t,0,0):=fun h=>by
  rcases ho1 with h4|⟨h4,h5⟩
  ·rw[h] at h4;cases h4
  ·injection h4 with h4 _
   rw[h4]
   exact⟨hb1,h5,hp1 h5⟩
 have hq2:n2=0→(∀x∈s2,x<256)∧s2.length≤4000∧parseT s2=(t,0,0):=fun h=>by
  rcases ho2 with h4|⟨h4,h5⟩
  ·rw[h] at h4;cases h4
  ·injection h4 with h4 _
   rw[h4]
   exact⟨hb2,h5,hp2 h5⟩
 have hn1:n1=4∨n1=0:=by
  rcases ho1 with h4|⟨h4,h5⟩
  ·exact .inl h4
  ·injection h4 with _ h4;exact .inr h4
 have hn2':n2=4∨n2=0:=by
  rcases ho2 with h4|⟨h4,h5⟩
  ·exact .inl h4
  ·injection h4 with _ h4;exact .inr h4
 clear hor ho1 ho2 hp1 hp2 hb1 hb2
 refine Cd.skip (Ztq ?_)
 refine Zv (Runs.loadW rfl rfl Tryz.underlying25 rfl k5 (m:=4) (by kernel_rfl) rfl) ?_
 refine Zc (Ze Tryz.func20) (hpt _ bel) ?_
 rintro en w8 ⟨rfl,hb8⟩
 refine⟨_,rfl,?_⟩
 replace bel:=bel.step hb8
 replace k5:=k5.step hb8
 refine Zm ?_
 refine Zv (Runs.extract rfl rfl rfl) ?_
 refine Zv (Runs.extract rfl rfl rfl) ?_
 refine Za ?_
 refine Za ?_
 refine Zk9 0 1 4 5 6 7 8 19 29 (Ztq ?_)
 refine Zv (Runs.loadW rfl rfl Tryz.underlying25 rfl k5 (m:=4) (by kernel_rfl) rfl) ?_
 refine Zc (Ze Tryz.func21) (hpl _ bel) ?_
 rintro en w9 ⟨rfl,hb9⟩
 refine⟨_,rfl,?_⟩
 replace bel:=bel.step hb9
 replace k5:=k5.step hb9
 refine Zm ?_
 refine Zv (Runs.extract rfl rfl rfl) ?_
 refine Zv (Runs.extract rfl rfl rfl) ?_
 refine Za ?_
 refine Za ?_
 refine Zk11 0 1 4 5 6 7 8 9 10 19 29 (Zt ?_)
 refine Cd.seqJ (σ:=Unit) (fun _=>[(5, .pointer (some ⟨g5,0,none⟩)),(8, .int .i64 n1),(9, .string (strOf s2)),(10, .int .i64 n2)]) (fun _ wr=>Below WB.heap.size WB wr∧Blk wr g5 25 #[.int .i64 t.op, .string (strOf t.name), .slice A1 t.exprs.length d1, .slice A2 t.terms.length d2]) ?_ ?_
 ·skip
  refine Zsr ?_
  refine Zm ?_
  refine Zv (Runs.eqlI rfl rfl rfl) ?_
  refine Zk12 0 1 4 5 6 7 8 9 10 19 29 42 (Zt ?_)
  refine Cd.condD rfl (fun hc=> ?_) (fun hc=> ?_)
  ·obtain⟨h256,h4,hps⟩:=hq1 hc
   have hcall:=fun W=>parse_any s1 W h256 (by omega)
   simp only[hps] at hcall
   refine Zsr ?_
   refine Zm ?_
   refine Zc (Ze Tryz.func7) (hcall _) ?_
   rintro en w10 ⟨hb10,v,S,rfl,hrepY,hSY⟩
   obtain⟨B1,f1,B2,f2,hvX⟩:=hrepY.form
   subst hvX
   refine⟨_,rfl,?_⟩
   replace bel:=bel.step hb10
   replace k5:=k5.step hb10
   have rs:RsB _ w10.heap.size S t (.agg #[.int .i64 t.op, .string (strOf t.name), .slice B1 t.exprs.length f1, .slice B2 t.terms.length f2]) w10:=⟨hrepY,hSY,Nat.le_refl _⟩
   refine Zm ?_
   refine Zv (Runs.extract rfl rfl rfl) ?_
   refine Zv (Runs.extract rfl rfl rfl) ?_
   refine Zv (Runs.extract rfl rfl rfl) ?_
   refine Zl zero_api_Term ?_
   intro g11 w3 n11
   have q11:=n11.ge
   have e11:=Nat.le_trans bel.size n11.ge
   have l11:=Nat.lt_of_lt_of_le k5.lt n11.ge
   replace bel:=bel.step n11.below
   replace k5:=k5.step n11.below
   replace rs:=rs.step n11.below
   have k11:=n11.blk
   refine Zo 4 k11 ?_
   intro w4 pw4
   replace bel:=bel.put k11 pw4 e11
   replace k5:=k5.put pw4 (by omega)
   replace rs:=rs.put k11 pw4 e11
   replace k11:=pw4.blk
   refine Za ?_
   refine Za ?_
   refine Zk14 0 1 4 5 6 7 8 9 10 11 13 19 29 42 (Ztq ?_)
   have k11:Blk _ g11 25 #[.int .i64 t.op, .string (strOf t.name), .slice B1 t.exprs.length f1, .slice B2 t.terms.length f2]:=k11
   refine Zm ?_
   refine Zv (Runs.neqI rfl rfl rfl) ?_
   refine Zm ?_
   refine SeqC.start ?_
   refine Zco (fun hcx=>Runs.loadW rfl rfl Tryz.underlying25 rfl k5 (m:=4) (by kernel_rfl) rfl) ?_
   refine SeqC.next rfl rfl rfl rfl rfl rfl rfl (fun hcx=>Runs.loadW rfl rfl Tryz.underlying25 rfl k11 (m:=4) (by kernel_rfl) rfl) ?_
   refine SeqC.nextC rfl rfl rfl rfl rfl rfl rfl (fun hcx=>Ze Tryz.func8) (fun hcx=>sameTerm_any t.nodes t _ _ _ _ (Nat.le_refl _) (hrepC _ bel) (rs.rep.mono (fun b hb=>Nat.lt_of_lt_of_le (rs.bd b hb).2 rs.hi_le) (fun _ _=>rfl)) (Nat.le_refl _)) ?_
   intro w5 hw5
   replace bel:=bel.step hw5
   replace k5:=k5.step hw5
   replace rs:=rs.step hw5
   replace k11:=k11.step hw5
   refine SeqC.next rfl rfl rfl rfl rfl rfl rfl (fun hcx=>Runs.not rfl rfl) ?_
   refine SeqC.or rfl rfl rfl rfl rfl rfl rfl ?_
   refine Zk15 0 1 4 5 6 7 8 9 10 11 13 19 29 42 56 (Zt ?_)
   refine Cd.condF rfl (by simp) ?_
   refine Cd.skip ?_
   exact Post.join () ⟨rfl,rfl,rfl,rfl,trivial⟩ ⟨bel,k5⟩
  ·skip
   refine Cd.skip ?_
   exact Post.join () ⟨rfl,rfl,rfl,rfl,trivial⟩ ⟨bel,k5⟩
 clear bel k5
 rintro u wj ⟨bel,k5⟩
 refine Cd.seqJ (σ:=Unit) (fun _=>[(8, .int .i64 n1),(10, .int .i64 n2)]) (fun _ wr=>Below WB.heap.size WB wr) ?_ ?_
 ·skip
  refine Zsr ?_
  refine Zm ?_
  refine Zv (Runs.eqlI rfl rfl rfl) ?_
  refine Zk5 5 8 9 10 58 (Zt ?_)
  refine Cd.condD rfl (fun hc=> ?_) (fun hc=> ?_)
  ·obtain⟨h256,h4,hps⟩:=hq2 hc
   have hcall:=fun W=>parse_any s2 W h256 (by omega)
   simp only[hps] at hcall
   refine Zsr ?_
   refine Zm ?_
   refine Zc (Ze Tryz.func7) (hcall _) ?_
   rintro en w11 ⟨hb11,v,S,rfl,hrepY,hSY⟩
   obtain⟨B1,f1,B2,f2,hvX⟩:=hrepY.form
   subst hvX
   refine⟨_,rfl,?_⟩
   replace bel:=bel.step hb11
   replace k5:=k5.step hb11
   have rs:RsB _ w11.heap.size S t (.agg #[.int .i64 t.op, .string (strOf t.name), .slice B1 t.exprs.length f1, .slice B2 t.terms.length f2]) w11:=⟨hrepY,hSY,Nat.le_refl _⟩
   refine Zm ?_
   refine Zv (Runs.extract rfl rfl rfl) ?_
   refine Zv (Runs.extract rfl rfl rfl) ?_
   refine Zv (Runs.extract rfl rfl rfl) ?_
   refine Zl zero_api_Term ?_
   intro g14 w3 n14
   have q14:=n14.ge
   have e14:=Nat.le_trans bel.size n14.ge
   have l14:=Nat.lt_of_lt_of_le k5.lt n14.ge
   replace bel:=bel.step n14.below
   replace k5:=k5.step n14.below
   replace rs:=rs.step n14.below
   have k14:=n14.blk
   refine Zo 4 k14 ?_
   intro w4 pw4
   replace bel:=bel.put k14 pw4 e14
   replace k5:=k5.put pw4 (by omega)
   replace rs:=rs.put k14 pw4 e14
   replace k14:=pw4.blk
   refine Za ?_
   refine Za ?_
   refine Zk7 5 8 9 10 14 16 58 (Ztq ?_)
   have k14:Blk _ g14 25 #[.int .i64 t.op, .string (strOf t.name), .slice B1 t.exprs.length f1, .slice B2 t.terms.length f2]:=k14
   refine Zm ?_
   refine Zv (Runs.neqI rfl rfl rfl) ?_
   refine Zm ?_
   refine SeqC.start ?_
   refine Zco (fun hcx=>Runs.loadW rfl rfl Tryz.underlying25 rfl k5 (m:=4) (by kernel_rfl) rfl) ?_
   refine SeqC.next rfl rfl rfl rfl rfl rfl rfl (fun hcx=>Runs.loadW rfl rfl Tryz.underlying25 rfl k14 (m:=4) (by kernel_rfl) rfl) ?_
   refine SeqC.nextC rfl rfl rfl rfl rfl rfl rfl (fun hcx=>Ze Tryz.func8) (fun hcx=>sameTerm_any t.nodes t _ _ _ _ (Nat.le_refl _) (hrepC _ bel) (rs.rep.mono (fun b hb=>Nat.lt_of_lt_of_le (rs.bd b hb).2 rs.hi_le) (fun _ _=>rfl)) (Nat.le_refl _)) ?_
   intro w5 hw5
   replace bel:=bel.step hw5
   replace k5:=k5.step hw5
   replace rs:=rs.step hw5
   replace k14:=k14.step hw5
   refine SeqC.next rfl rfl rfl rfl rfl rfl rfl (fun hcx=>Runs.not rfl rfl) ?_
   refine SeqC.or rfl rfl rfl rfl rfl rfl rfl ?_
   refine Zk8 5 8 9 10 14 16 58 72 (Zt ?_)
   refine Cd.condF rfl (by simp) ?_
   refine Cd.skip ?_
   exact Post.join () ⟨rfl,rfl,trivial⟩ bel
  ·skip
   refine Cd.skip ?_
   exact Post.join () ⟨rfl,rfl,trivial⟩ bel
 clear bel k5
 rintro u wj bel
 refine Zsr ?_
 refine Zm ?_
 refine Zv (Runs.eqlI rfl rfl rfl) ?_
 refine Zm ?_
 refine SeqC.start ?_
 refine Zco (fun hcx=>Runs.move rfl rfl) ?_
 refine SeqC.next rfl rfl rfl rfl rfl rfl rfl (fun hcx=>Runs.eqlI rfl rfl rfl) ?_
 refine SeqC.or rfl rfl rfl rfl rfl rfl rfl ?_
 refine Zm ?_
 refine SeqC.start ?_
 refine Zco (fun hcx=>Runs.move rfl rfl) ?_
 refine SeqC.next rfl rfl rfl rfl rfl rfl rfl (fun hcx=>Runs.eqlI rfl rfl rfl) ?_
 refine SeqC.next rfl rfl rfl rfl rfl rfl rfl (fun hcx=>Runs.move rfl rfl) ?_
 refine Zco (fun hcx=>Runs.move rfl rfl) ?_
 refine SeqC.next rfl rfl rfl rfl rfl rfl rfl (fun hcx=>Runs.eqlI rfl rfl rfl) ?_
 refine SeqC.orG rfl rfl rfl rfl rfl rfl rfl rfl rfl rfl rfl ?_
 refine SeqC.and rfl rfl rfl rfl rfl rfl rfl ?_
 refine Zm ?_
 refine SeqC.start ?_
 refine SeqC.openC rfl rfl rfl rfl rfl rfl rfl (fun hcx=>Ze Tryz.func15) (fun hcx=>awake20_any _) ?_
 intro w3 hw3
 replace bel:=bel.step hw3
 refine SeqC.and rfl rfl rfl rfl rfl rfl rfl ?_
 refine Za ?_
 refine Zk3 4 8 10 (Zt (Cd.ret ?_))
 refine Post.end1 rfl rfl (.inl rfl) ?_
 refine⟨ret1 (bool_eq ?_),bel0.trans (bel.mono bel0.size)⟩
 rcases hn1 with rfl|rfl<;>rcases hn2' with rfl|rfl<;>decide
end Go.Proofs.YtaamkfajnpobfaaGreat
