/-
  Texts that were joined: CivB, TNumH, TreJ, TreK, TreL, KN, TreM, TreN, TreO, TreP, TrmA, TrmB, TrmC, TrmD, TrmE, TrmF, TrmG, TrmH, TrmI, TrmJ, TrmK, TrmL, TrmM, TrmN, TrmO, TrmP, ParA, PanA, PanB, PanC, PanD, KS, PanE, PanF. Conditions: what each theorem names.
-/
import Derived.Test.YtaamkfajnpobfaaGreatW2
set_option linter.unusedSectionVars false
namespace Go.Proofs.YtaamkfajnpobfaaGreat
open Go.RowKit
section
variable {P:Program} {n:Nat} {F:List (Nat × Value)} {w:World} {v:Value}
theorem Post.end4 {fn:Func}{R:Ending→World→Prop}{t u s r:Nat}{v' v'' v3:Value}{e:Exit}(hr:fn.results= #[.tmp t, .tmp u, .tmp s, .tmp r]) (hl:look F t=some v) (hl':look F u=some v') (hl'':look F s=some v'') (hl3:look F r=some v3) (he:e= .ret∨e= .normal) (h:R (.returned (.tuple #[v,v',v'',v3])) w):Post (bodyPost P fn R) e n F w:=
 Post.end_ (fun a ha=>by simp[results,hr,ha.slot t v hl,ha.slot u v' hl',ha.slot s v'' hl'',ha.slot r v3 hl3]) he h
end
theorem ret4 {x x' y y' z z' u u':Value}(h:x=x')(h2:y=y')(h3:z=z')(h4:u=u'):Ending.returned (.tuple #[x,y,z,u])= .returned (.tuple #[x',y',z',u']):=by rw[h,h2,h3,h4]
theorem Own.lit {w:World}{B g n size:Nat}{e:TypeId}{cs:Array Value}(k:Blk w g e cs)(hB:B≤g)(hs:cs.size=n*size)(hn:n≤maxLen):Own w B e size (.slice (some ⟨g,0,none⟩) n n) n cs.toList:=
 ⟨⟨by simpa using hs, .inr ⟨g,n,cs,rfl,hB,k,Nat.le_refl _,hn,hs,List.take_of_length_le (by simp[hs])⟩⟩⟩
theorem bt_one (l:List Nat):∀u∈Bt l,u.oneCell'=true:=by
 intro u hu
 simp[Bt] at hu
 obtain⟨d,-,rfl⟩:=hu
 rfl
theorem Own.base {w:World}{B B' size n:Nat}{e:TypeId}{v:Value}{xs:List Value}(h:Own w B e size v n xs)(hb:B'≤B):Own w B' e size v n xs:=⟨⟨h.row.1,h.row.2.imp id fun⟨g,cap,cur,e1,e2,r⟩=>⟨g,cap,cur,e1,Nat.le_trans hb e2,r⟩⟩⟩
theorem dateIs_any (n:Nat)(w:World)(h:n≤2932896):Calls Tryz.prog 155 #[.int .i64 (n:Int)] w fun e w'=>e= .returned (.bool true)∧Grow w w':=by
 have bel:=Below.refl w.heap.size w
 refine Zs 9 Tryz.func155 ?_
 refine Zsr ?_
 refine Za ?_
 refine Zk2 0 2 (Ztq ?_)
 refine Zm ?_
 refine Zv (Runs.geq rfl rfl rfl) ?_
 refine Zm ?_
 refine SeqC.start ?_
 refine Zco (fun hcx=>Runs.move rfl rfl) ?_
 refine SeqC.next rfl rfl rfl rfl rfl rfl rfl (fun hcx=>Runs.leq rfl rfl rfl) ?_
 refine SeqC.and rfl rfl rfl rfl rfl rfl rfl ?_
 refine Za ?_
 refine Zk2 0 2 (Zt (Cd.ret ?_))
 refine Post.end1 rfl rfl (.inl rfl) ?_
 exact⟨ret1 (bool_eq (by simp;omega)),bel⟩
theorem yT_int (e:Nat)(he:e<146097):(yT e:Int)=e-(365*(eraY e:Int)+(eraY e:Int)/4-(eraY e:Int)/100)∧yT e<366:=by
 obtain⟨h1,h2,h3⟩:=era_of e he
 obtain⟨l1,l2⟩:=eraS_leap (eraY e)
 have:=eraS_int (eraY e) h1
 unfold yT
 omega
theorem mT_int (e:Nat)(he:e<146097):(mT e:Int)=(5*(yT e:Int)+2)/153∧mT e≤11∧(153*mT e+2)/5≤yT e:=by
 have h:=(yT_int e he).2
 obtain⟨m1,m2,-⟩:=month_table (yT e) h
 have hm:mT e=(5*yT e+2)/153:=rfl
 rw[←hm] at m1 m2
 omega
theorem civil_any (n q e:Nat)(w:World)(h:n≤2932896)(hq:(n+719468)/146097=q)(he:(n+719468)%146097=e):Calls Tryz.prog 126 #[.int .i64 (n:Int)] w fun en w'=>en= .returned (.tuple #[.int .i64 (cY q e:Int), .int .i64 (cM e:Int), .int .i64 (dT e:Int), .bool true])∧Grow w w':=by
 have bel:=Below.refl w.heap.size w
 have hel:e<146097:=by rw[←he];exact Nat.mod_lt _ (by decide)
 have hq2:((n:Int)+719468)/146097=(q:Int):=by omega
 have he2:((n:Int)+719468)%146097=(e:Int):=by omega
 have hq3:q≤30:=by omega
 obtain⟨e1,e2,e3⟩:=era_of e hel
 obtain⟨y1,y2⟩:=yT_int e hel
 obtain⟨m1,m2,m3⟩:=mT_int e hel
 have hd:dT e=yT e-(153*mT e+2)/5+1:=rfl
 have hy:((e:Int)-(e:Int)/1460+(e:Int)/36524-(e:Int)/146096)/365=(eraY e:Int):=by unfold eraY;omega
 have hcY:cY q e=if 10≤mT e then q*400+eraY e+1 else q*400+eraY e:=rfl
 have hcM:cM e=if 10≤mT e then mT e-9 else mT e+3:=rfl
 generalize cY q e=cy at *
 generalize cM e=cm at *
 generalize dT e=dd at *
 generalize mT e=m at *
 generalize yT e=t at *
 generalize eraY e=y at *
 clear hq he e2 e3
 refine Zs 68 Tryz.func126 ?_
 refine Zsr ?_
 refine Za ?_
 refine Za ?_
 refine Za ?_
 refine Za ?_
 refine Zk5 0 2 3 4 5 (Zts (Zsr ?_))
 refine Zm ?_
 refine Zc (Ze Tryz.func155) (dateIs_any n _ h) ?_
 rintro en w5 ⟨rfl,hb5⟩
 refine⟨_,rfl,?_⟩
 replace bel:=bel.step hb5
 refine Zv (Runs.not rfl rfl) ?_
 refine Zk6 0 2 3 4 5 15 (Zt ?_)
 refine Cd.condF rfl rfl ?_
 refine Cd.skip (Ztq ?_)
 refine Zm ?_
 refine Za_ ?_
 refine Za ?_
 refine Zk7 0 2 3 4 5 6 15 (Ztq ?_)
 refine Zm ?_
 refine Zv ((Runs.remN rfl rfl rfl (by omega) (by omega)).cast (v':= .int .i64 (e:Int)) (int_eq he2)) ?_
 refine Za ?_
 refine Zk8 0 2 3 4 5 6 7 15 (Ztq ?_)
 refine Zm ?_
 refine Zm ?_
 refine Zv (Runs.quoI rfl rfl rfl (by omega) (by omega) (by omega)) ?_
 refine Zv (Runs.subI rfl rfl rfl (by omega) (by omega)) ?_
 refine Zm ?_
 refine Zv (Runs.quoI rfl rfl rfl (by omega) (by omega) (by omega)) ?_
 refine Za_ ?_
 refine Zm ?_
 refine Zv (Runs.quoI rfl rfl rfl (by omega) (by omega) (by omega)) ?_
 refine Zv (Runs.subI rfl rfl rfl (by omega) (by omega)) ?_
 refine Zv ((Runs.quoI rfl rfl rfl (by omega) (by omega) (by omega)).cast (v':= .int .i64 (y:Int)) (int_eq hy)) ?_
 refine Za ?_
 refine Zk9 0 2 3 4 5 6 7 8 15 (Ztq ?_)
 refine Zm ?_
 refine Zm ?_
 refine Zv (Runs.mulI rfl rfl rfl (by omega) (by omega)) ?_
 refine Zm ?_
 refine Zv (Runs.quoI rfl rfl rfl (by omega) (by omega) (by omega)) ?_
 refine Za_ ?_
 refine Zm ?_
 refine Zv (Runs.quoI rfl rfl rfl (by omega) (by omega) (by omega)) ?_
 refine Zv (Runs.subI rfl rfl rfl (by omega) (by omega)) ?_
 refine Zv ((Runs.subI rfl rfl rfl (by omega) (by omega)).cast (v':= .int .i64 (t:Int)) (int_eq (by omega))) ?_
 refine Za ?_
 refine Zk10 0 2 3 4 5 6 7 8 9 15 (Ztq ?_)
 refine Zm ?_
 refine Zv (Runs.mulI rfl rfl rfl (by omega) (by omega)) ?_
 refine Za_ ?_
 refine Zv ((Runs.quoI rfl rfl rfl (by omega) (by omega) (by omega)).cast (v':= .int .i64 (m:Int)) (int_eq (by omega))) ?_
 refine Za ?_
 refine Zk11 0 2 3 4 5 6 7 8 9 10 15 (Ztq ?_)
 refine Zm ?_
 refine Zm ?_
 refine Zv (Runs.mulI rfl rfl rfl (by omega) (by omega)) ?_
 refine Za_ ?_
 refine Zv (Runs.quoI rfl rfl rfl (by omega) (by omega) (by omega)) ?_
 refine Zv (Runs.subI rfl rfl rfl (by omega) (by omega)) ?_
 refine Zv ((Runs.addI rfl rfl rfl (by omega) (by omega)).cast (v':= .int .i64 (dd:Int)) (int_eq (by omega))) ?_
 refine Za ?_
 refine Zk12 0 2 3 4 5 6 7 8 9 10 11 15 (Ztq ?_)
 refine Zm ?_
 refine Zv ((Runs.quoI rfl rfl rfl (by omega) (by omega) (by omega)).cast (v':= .int .i64 (q:Int)) (int_eq hq2)) ?_
 refine Zv (Runs.mulI rfl rfl rfl (by omega) (by omega)) ?_
 refine Zm ?_
 refine Za_ ?_
 refine Za ?_
 refine Zk13 0 2 3 4 5 6 7 8 9 10 11 12 15 (Zts (Zsr ?_))
 refine Zm ?_
 refine Zv (Runs.geq rfl rfl rfl) ?_
 refine Zk14 0 2 3 4 5 6 7 8 9 10 11 12 15 58 (Zt ?_)
 refine Cd.condD rfl (fun hc=> ?_) (fun hc=> ?_)
 ·rw[if_pos (by omega)] at hcY hcM
  subst hcY hcM
  refine Zsr ?_
  refine Zm ?_
  refine Za_ ?_
  refine Zm ?_
  refine Zv (Runs.subI rfl rfl rfl (by omega) (by omega)) ?_
  refine Zm ?_
  refine Za ?_
  refine Za ?_
  refine Za ?_
  refine Za ?_
  refine Zk14 0 2 3 4 5 6 7 8 9 10 11 12 15 58 (Zt (Cd.ret (Post.then_ret ?_)))
  refine Post.end4 rfl rfl rfl rfl rfl (.inl rfl) ?_
  exact⟨ret4 (int_eq (by omega)) (int_eq (by omega)) rfl rfl,bel⟩
 ·rw[if_neg (by omega)] at hcY hcM
  subst hcY hcM
  refine Cd.skip (Ztq ?_)
  refine Zm ?_
  refine Zm ?_
  refine Za_ ?_
  refine Zm ?_
  refine Za ?_
  refine Za ?_
  refine Za ?_
  refine Za ?_
  refine Zk14 0 2 3 4 5 6 7 8 9 10 11 12 15 58 (Zt (Cd.ret ?_))
  refine Post.end4 rfl rfl rfl rfl rfl (.inl rfl) ?_
  exact⟨ret4 (int_eq (by omega)) (int_eq (by omega)) rfl rfl,bel⟩
theorem two_any (v:Nat)(w:World)(h:v≤100000):Calls Tryz.prog 127 #[.int .i64 (v:Int)] w fun en w'=>(∃sv,en= .returned sv∧Own w' w.heap.size 5 1 sv 2 (Bt [48+v/10%10,48+v%10]))∧Grow w w':=by
 have bel:=Below.refl w.heap.size w
 refine Zs 13 Tryz.func127 ?_
 refine Zsr ?_
 refine Za ?_
 refine Zk2 0 2 (Ztq ?_)
 refine Zm ?_
 refine Zv (Runs.quoI rfl rfl rfl (by omega) (by omega) (by omega)) ?_
 refine Zv (Runs.remN rfl rfl rfl (by omega) (by omega)) ?_
 refine Za_ ?_
 refine Zv (Runs.convI rfl rfl Tryz.underlying3 Tryz.underlying5 (wrapB (by omega) (by omega))) ?_
 refine Zm ?_
 refine Zv (Runs.remN rfl rfl rfl (by omega) (by omega)) ?_
 refine Za_ ?_
 refine Zv (Runs.convI rfl rfl Tryz.underlying3 Tryz.underlying5 (wrapB (by omega) (by omega))) ?_
 refine Seq.slice (vs:=[_,_]) (s:=1) rfl rfl rfl Tryz.underlying125 (by kernel_rfl) (zero_uint8) (by omega) (by omega) ⟨rfl,rfl,trivial⟩ rfl rfl rfl ?_
 intro g12 w1 n12
 have e12:=Nat.le_trans bel.size n12.ge
 replace bel:=bel.step n12.below
 have k12:=n12.blk
 refine Za ?_
 refine Zk2 0 2 (Zt (Cd.ret ?_))
 refine Post.end1 rfl rfl (.inl rfl) ?_
 have hc:(flatC [.int .u8 (48+(v:Int)/10%10), .int .u8 (48+(v:Int)%10)]).toArray=(Bt [48+v/10%10,48+v%10]).toArray:=by
  simp[flatC,Value.cells,Bt]
 rw[hc] at k12
 exact⟨⟨_,rfl,Own.lit k12 e12 (by simp[Bt]) (by simp[maxLen])⟩,bel⟩
theorem eg_two:∀args w,(callFunc 127 args).run Tryz.prog w= .ok (.enter 127 args) w:=fun args w=>run_enter Tryz.func127 (by kernel_rfl) rfl args w
theorem digR_two (v:Nat):digR v 2=[48+v/10%10,48+v%10]:=by simp[digR]
theorem digR_four (v:Nat):digR v 4=[48+v/100/10%10,48+v/100%10]++[48+v/10%10,48+v%10]:=by
 simp[digR,Nat.div_div_eq_div_mul]
theorem dayPrint_any (n:Nat)(w:World)(h:n≤2932896):Calls Tryz.prog 87 #[.int .i64 (n:Int)] w fun en w'=>en= .returned (.string (strOf (dayT n)))∧Grow w w':=by
 have bel:=Below.refl w.heap.size w
 obtain⟨q,hq⟩:∃q,(n+719468)/146097=q:=⟨_,rfl⟩
 obtain⟨e,he⟩:∃e,(n+719468)%146097=e:=⟨_,rfl⟩
 have hciv:=fun W=>civil_any n q e W h hq he
 have hel:e<146097:=by rw[←he];exact Nat.mod_lt _ (by decide)
 obtain⟨z1,z2,z3,z4,z5⟩:=civ_qe n q e (by omega) hel
 have hok:=ofOk_of n _ _ _ h z1 z2 z3 z4 z5
 obtain⟨o1,o2,o3,o4,o5,o6⟩:=ofOk_bd hok
 rw[dayT_of n q e hq he]
 generalize cY q e=y at *
 generalize cM e=m at *
 generalize dT e=d at *
 clear hq he z1
 refine Zs 42 Tryz.func87 ?_
 refine Zsr ?_
 refine Za ?_
 refine Zk2 0 2 (Ztq ?_)
 refine Zm ?_
 refine Zc (Ze Tryz.func126) (hciv _) ?_
 rintro en w5 ⟨rfl,hb5⟩
 refine⟨_,rfl,?_⟩
 replace bel:=bel.step hb5
 refine Zm ?_
 refine Zv (Runs.extract rfl rfl rfl) ?_
 refine Zv (Runs.extract rfl rfl rfl) ?_
 refine Zv (Runs.extract rfl rfl rfl) ?_
 refine Zv (Runs.extract rfl rfl rfl) ?_
 refine Za ?_
 refine Za ?_
 refine Za ?_
 refine Za ?_
 refine Zk6 0 2 3 4 5 6 (Zts (Zsr ?_))
 refine Zm ?_
 refine Zv (Runs.not rfl rfl) ?_
 refine Zk7 0 2 3 4 5 6 17 (Zt ?_)
 refine Cd.condF rfl rfl ?_
 refine Cd.skip (Ztq ?_)
 refine Za ?_
 refine Zk8 0 2 3 4 5 6 7 17 (Ztq ?_)
 refine Zm ?_
 refine Zm ?_
 refine Zv ((Runs.quoI rfl rfl rfl (by omega) (by omega) (by omega)).cast (v':= .int .i64 ((y/100:Nat):Int)) (int_eq (show(y:Int)/100=((y/100:Nat):Int) by omega))) ?_
 refine Seq.call (Enters.value (first:=[]) (cap:=[]) rfl rfl rfl eg_two) rfl rfl rfl (two_any (y/100) _ (by omega)) ?_
 rintro en w6 ⟨⟨s1,rfl,own⟩,hb6⟩
 refine⟨_,rfl,?_⟩
 replace own:=own.base bel.size
 replace bel:=bel.step hb6
 refine Zm ?_
 refine Zm ?_
 refine Seq.call (Enters.value (first:=[]) (cap:=[]) rfl rfl rfl eg_two) rfl rfl rfl (two_any y _ (by omega)) ?_
 rintro en w7 ⟨⟨s2,rfl,own2⟩,hb7⟩
 refine⟨_,rfl,?_⟩
 replace bel:=bel.step hb7
 replace own:=own.step hb7
 obtain⟨A2,c2,rfl,rd2⟩:=own2.reads
 refine Seq.append rfl rfl rfl Tryz.underlying125 (by kernel_rfl) zero_uint8 rfl (by decide) (b:=1) (by kernel_rfl) own (rd2) (bt_one _) bel.size (by simp only[maxLen];omega) (by omega) rfl rfl rfl ?_
 clear own
 intro vw1 w1 own haw1
 replace bel:=bel.trans haw1.below
 clear own2
 refine Za ?_
 refine Zk9 0 2 3 4 5 6 7 8 17 (Ztq ?_)
 refine Zm ?_
 refine Seq.slice (vs:=[_]) (s:=1) rfl rfl rfl Tryz.underlying125 (by kernel_rfl) (zero_uint8) (by omega) (by omega) ⟨rfl,trivial⟩ rfl rfl rfl ?_
 intro g27 w2 n27
 have e27:=Nat.le_trans bel.size n27.ge
 replace bel:=bel.step n27.below
 replace own:=own.step n27.below
 have k27:=n27.blk
 refine Seq.append rfl rfl rfl Tryz.underlying125 (by kernel_rfl) zero_uint8 rfl (by decide) (b:=1) (by kernel_rfl) own (Reads.blk k27 1 rfl) (by intro x hx;simp[flatC,Value.cells] at hx;rw[hx];rfl) bel.size (by simp only[maxLen];omega) (by omega) rfl rfl rfl ?_
 clear own
 intro vw3 w3 own haw3
 replace bel:=bel.trans haw3.below
 refine Zm ?_
 refine Zm ?_
 refine Seq.call (Enters.value (first:=[]) (cap:=[]) rfl rfl rfl eg_two) rfl rfl rfl (two_any m _ (by omega)) ?_
 rintro en w8 ⟨⟨s3,rfl,own3⟩,hb8⟩
 refine⟨_,rfl,?_⟩
 replace bel:=bel.step hb8
 replace own:=own.step hb8
 obtain⟨A3,c3,rfl,rd3⟩:=own3.reads
 refine Seq.append rfl rfl rfl Tryz.underlying125 (by kernel_rfl) zero_uint8 rfl (by decide) (b:=1) (by kernel_rfl) own (rd3) (bt_one _) bel.size (by simp only[maxLen];omega) (by omega) rfl rfl rfl ?_
 clear own
 intro vw4 w4 own haw4
 replace bel:=bel.trans haw4.below
 clear own3
 refine Za ?_
 refine Zk9 0 2 3 4 5 6 7 8 17 (Ztq ?_)
 refine Zm ?_
 refine Seq.slice (vs:=[_]) (s:=1) rfl rfl rfl Tryz.underlying125 (by kernel_rfl) (zero_uint8) (by omega) (by omega) ⟨rfl,trivial⟩ rfl rfl rfl ?_
 intro g34 w5 n34
 have e34:=Nat.le_trans bel.size n34.ge
 replace bel:=bel.step n34.below
 replace own:=own.step n34.below
 have k34:=n34.blk
 refine Seq.append rfl rfl rfl Tryz.underlying125 (by kernel_rfl) zero_uint8 rfl (by decide) (b:=1) (by kernel_rfl) own (Reads.blk k34 1 rfl) (by intro x hx;simp[flatC,Value.cells] at hx;rw[hx];rfl) bel.size (by simp only[maxLen];omega) (by omega) rfl rfl rfl ?_
 clear own
 intro vw6 w6 own haw6
 replace bel:=bel.trans haw6.below
 refine Zm ?_
 refine Zm ?_
 refine Seq.call (Enters.value (first:=[]) (cap:=[]) rfl rfl rfl eg_two) rfl rfl rfl (two_any d _ (by omega)) ?_
 rintro en w9 ⟨⟨s4,rfl,own4⟩,hb9⟩
 refine⟨_,rfl,?_⟩
 replace bel:=bel.step hb9
 replace own:=own.step hb9
 obtain⟨A4,c4,rfl,rd4⟩:=own4.reads
 refine Seq.append rfl rfl rfl Tryz.underlying125 (by kernel_rfl) zero_uint8 rfl (by decide) (b:=1) (by kernel_rfl) own (rd4) (bt_one _) bel.size (by simp only[maxLen];omega) (by omega) rfl rfl rfl ?_
 clear own
 intro vw7 w7 own haw7
 replace bel:=bel.trans haw7.below
 clear own4
 refine Za ?_
 refine Zk9 0 2 3 4 5 6 7 8 17 (Ztq ?_)
 refine Zm ?_
 obtain⟨A5,c5,rfl,rd5⟩:=own.reads
 have hbt:Bt [48+y/100/10%10,48+y/100%10]++Bt [48+y/10%10,48+y%10]++(flatC [.int .u8 45]).toArray.toList++Bt [48+m/10%10,48+m%10]++(flatC [.int .u8 45]).toArray.toList++Bt [48+d/10%10,48+d%10]=Bt (printD y m d):=by
  unfold printD
  rw[digR_four,digR_two,digR_two]
  simp[Bt,flatC,Value.cells]
 rw[hbt] at rd5
 refine Zv (Runs.convBS rfl rfl Tryz.underlying125 Tryz.underlying5 Tryz.underlying9 rd5 (printD_lt y m d)) ?_
 refine Za ?_
 refine Zk9 0 2 3 4 5 6 7 8 17 (Zt (Cd.ret ?_))
 refine Post.end1 rfl rfl (.inl rfl) ?_
 exact⟨rfl,bel⟩
end Go.Proofs.YtaamkfajnpobfaaGreat
namespace Go.Proofs.YtaamkfajnpobfaaGreat
open Go.RowKit
structure Only (w0 w:World)(g:Nat):Prop where
 row:w0.grownBy w (some g)
theorem Only.step {w0 w w':World}{g:Nat}(h:Only w0 w g)(hb:Below w.heap.size w w'):Only w0 w' g:=⟨only_below h.row hb⟩
theorem Only.put {w0 w w':World}{g B:Nat}{T:TypeId}{cur cs:Array Value}(h:Only w0 w g)(_k:Blk w g T cur)(p:Put w w' g T cs)(_e:B≤g):Only w0 w' g:=⟨only_trans h.row p.grown⟩
def turned (xs:List Value)(n i j:Nat):Option Value:=if j<i∨n≤j+i then xs[n-1-j]? else xs[j]?
theorem reverse_any (g n cap:Nat)(cur:Array Value)(xs:List Value)(w:World)(hb:Blk w g 5 cur)(hc:n≤cap)(hn:n≤1000000000)(hs:cur.size=cap)(hx:∀j,j<n→cur[j]? =xs[j]?)(hl:xs.length=n)(h1:∀u∈xs,∃z,u= .int .u8 z):
  Calls Tryz.prog 125 #[.slice (some ⟨g,0,none⟩) n cap] w fun e w'=>∃cur',e= .returned (.tuple #[])∧Blk w' g 5 cur'∧cur'.size=cap∧(∀j,j<n→cur'[j]? =xs.reverse[j]?)∧Only w w' g:=by
 refine Zs 28 Tryz.func125 ?_
 refine Zsr ?_
 refine Zm ?_
 refine Zv (Runs.len rfl rfl Tryz.underlying125) ?_
 refine Zv (Runs.subI rfl rfl rfl (by omega) (by omega)) ?_
 refine Za ?_
 refine Za ?_
 refine Zk3 0 2 3 (Zt (Cd.block ?_))
 refine Cd.loop (σ:=Nat × Array Value) (fun s=>[(0, .slice (some ⟨g,0,none⟩) n cap),(2, .int .i64 (s.1:Int)),(3, .int .i64 ((n:Int)-1-s.1))])
  (fun s wr=>s.1≤n∧Blk wr g 5 s.2∧s.2.size=cap∧(∀j,j<n→s.2[j]? =turned xs n s.1 j)∧Only w wr g) (fun s=>n-s.1) (0,cur) ⟨Nat.zero_le _,hb,hs,fun j hj=>by dsimp only;rw[hx j hj];unfold turned;rw[if_neg (by omega)],⟨World.grownBy.refl _ _⟩⟩
  ⟨rfl,rfl,congrArg (fun x=>some (Value.int .i64 x)) (show(n:Int)-1=(n:Int)-1-((0:Nat):Int) by omega),trivial⟩ ?_
 clear hb hs hx cur
 rintro⟨i,cs⟩ wr ⟨hi,k0,hs,hx,hgr⟩
 dsimp only at hi k0 hs hx hgr⊢
 have e0:0≤g:=Nat.zero_le g
 refine Cd.seq (Zsr ?_)
 refine Zm ?_
 refine Zm ?_
 refine Zv (Runs.lss rfl rfl rfl) ?_
 refine Zk4 0 2 3 9 (Zt ?_)
 refine Cd.condD rfl (fun hc=> ?_) (fun hc=> ?_)
 ·have hlt:i<n-1-i:=by omega
  have get:∀j,j<n→∃z,xs[j]? =some (.int .u8 z):=fun j hj=>by
   obtain⟨z,hz⟩:=h1 xs[j] (List.getElem_mem (by omega))
   exact⟨z,by rw[List.getElem?_eq_getElem (by omega),hz]⟩
  obtain⟨za,ha⟩:=get (n-1-i) (by omega)
  obtain⟨zb,hb⟩:=get i (by omega)
  have ca:cs[n-1-i]? =some (.int .u8 za):=by rw[hx _ (by omega),turned,if_neg (by omega),ha]
  have cb:cs[i]? =some (.int .u8 zb):=by rw[hx _ (by omega),turned,if_neg (by omega),hb]
  refine Cd.skip (Zts (Cd.block ?_))
  refine Cd.draw 12 (by kernel_rfl) [2,3] (.inr (fun _ _ d _ _ h=>by cases d<;>exact h)) rfl Grow Grow.refl (fun _ _ _=>Grow.trans) ?_
  intro w1 hw1 zw1
  replace k0:=k0.step hw1
  replace hgr:=hgr.step hw1
  have zlt:=k0.lt
  refine Zdm ?_
  refine Zdm ?_
  refine Dr.late rfl rfl (fun w=>Runs.move rfl rfl) Grow.refl rfl ?_
  refine Dr.late rfl rfl (fun w=>Runs.move rfl rfl) Grow.refl rfl ?_
  refine Zdm ?_
  refine Zdm ?_
  refine Zd (fun w hG=>Runs.indexB rfl rfl rfl Tryz.underlying125 (by kernel_rfl) (j:=n-1-i) (by omega) (by omega)) ?_
  refine Zd (fun w hG=>Runs.loadB rfl rfl Tryz.underlying5 rfl (k0.step hG) ca) ?_
  refine Zdm ?_
  refine Zdm ?_
  refine Zd (fun w hG=>Runs.indexB rfl rfl rfl Tryz.underlying125 (by kernel_rfl) (j:=i) (by omega) (by omega)) ?_
  refine Zd (fun w hG=>Runs.loadB rfl rfl Tryz.underlying5 rfl (k0.step hG) cb) ?_
  refine Dr.nil ?_
  refine FinX.done (F':=[(0,_),(2,_),(3,_),(9,_),(14,_),(15,_),(16,_),(17,_),(21,_),(25,_)]) rfl ⟨rfl,rfl,rfl,rfl,rfl,rfl,rfl,rfl,rfl,rfl,trivial⟩ ?_
  intro w2 hw2 fw2
  replace k0:=k0.step hw2
  replace hgr:=hgr.step hw2
  refine Zv (Runs.indexB rfl rfl rfl Tryz.underlying125 (by kernel_rfl) (j:=i) (by omega) (by omega)) ?_
  refine Seq.store1 rfl rfl rfl (by kernel_rfl) rfl rfl k0 (cb) rfl rfl ?_
  intro w3 pw3
  replace hgr:=hgr.put k0 pw3 e0
  replace k0:=pw3.blk
  refine Zv (Runs.indexB rfl rfl rfl Tryz.underlying125 (by kernel_rfl) (j:=n-1-i) (by omega) (by omega)) ?_
  have ca2:(cs.setIfInBounds i (.int .u8 za))[n-1-i]? =some (.int .u8 za):=by rw[Array.getElem?_setIfInBounds_ne (by omega)];exact ca
  refine Seq.store1 rfl rfl rfl (by kernel_rfl) rfl rfl k0 (ca2) rfl rfl ?_
  intro w4 pw4
  replace hgr:=hgr.put k0 pw4 e0
  replace k0:=pw4.blk
  refine Zk4 0 2 3 9 (Post.block_normal (Ztr ?_))
  refine Zm ?_
  refine Za_ ?_
  refine Zm ?_
  refine Zv (Runs.subI rfl rfl rfl (by omega) (by omega)) ?_
  refine Za ?_
  refine Za ?_
  refine Zk4 0 2 3 9 ?_
  rw[show(i:Int)+1=((i+1:Nat):Int) by omega,show(n:Int)-1-(i:Int)-1=(n:Int)-1-((i+1:Nat):Int) by omega]
  refine Post.round (i+1,(cs.setIfInBounds i (.int .u8 za)).setIfInBounds (n-1-i) (.int .u8 zb)) ⟨rfl,rfl,rfl,trivial⟩ ⟨by dsimp only;omega,k0,by simp[hs],fun j hj=> ?_,hgr⟩ (by dsimp only;omega)
  dsimp only
  have hin:n-1-i<(cs.setIfInBounds i (.int .u8 za)).size:=by rw[Array.size_setIfInBounds];omega
  by_cases hj1:j=n-1-i
  ·subst hj1
   rw[Array.getElem?_setIfInBounds_self_of_lt hin,turned,if_pos (by omega),show n-1-(n-1-i)=i by omega,hb]
  ·rw[Array.getElem?_setIfInBounds_ne (by omega)]
   by_cases hj2:j=i
   ·subst hj2
    rw[Array.getElem?_setIfInBounds_self_of_lt (by omega),turned,if_pos (by omega),ha]
   ·rw[Array.getElem?_setIfInBounds_ne (by omega),hx j hj]
    unfold turned
    by_cases hc2:j<i∨n≤j+i
    ·rw[if_pos hc2,if_pos (by omega)]
    ·rw[if_neg hc2,if_neg (by omega)]
 ·skip
  refine Cd.exit (Post.then_exit (Post.round_exit (Post.block_exit ?_)))
  refine Post.end0 rfl (.inr rfl) ?_
  refine⟨cs,rfl,k0,hs,fun j hj=> ?_,hgr⟩
  rw[hx j hj,List.getElem?_reverse (by omega),hl]
  unfold turned
  by_cases hc2:j<i∨n≤j+i
  ·rw[if_pos hc2]
  ·rw[if_neg hc2]
   rw[show n-1-j=j by omega]
theorem Own.blk {w:World}{B n:Nat}{e:TypeId}{v:Value}{xs:List Value}(h:Own w B e 1 v n xs)(h0:0<n):∃g cap cur,v= .slice (some ⟨g,0,none⟩) n cap∧B≤g∧Blk w g e cur∧n≤cap∧cap≤maxLen∧cur.size=cap∧xs.length=n∧∀j,j<n→cur[j]? =xs[j]? :=by
 obtain⟨hl,⟨_,h1⟩|⟨g,cap,cur,rfl,h1,h2,h3,h4,h5,h6⟩⟩:=h.row
 ·omega
 ·refine⟨g,cap,cur,rfl,h1,h2,h3,h4,by omega,by omega,fun j hj=> ?_⟩
  rw[←h6,List.getElem?_take_of_lt (by omega)]
  simp
set_option maxHeartbeats 1000000 in
theorem print_any (n:Int)(d:Nat)(w:World)(hn:I64 n)(hd:d≤9):
  Calls Tryz.prog 86 #[.int .i64 n, .int .i64 (d:Int)] w fun e w'=>(∃N,Rounds n.natAbs d N∧N≤20∧e= .returned (.string (strOf (printed n d N))))∧Grow w w':=by
 have bel:=Below.refl w.heap.size w
 have hu:n.natAbs≤9223372036854775808:=by have:=hn.1;have:=hn.2;omega
 refine Zs 53 Tryz.func86 ?_
 refine Zsr ?_
 refine Za ?_
 refine Zk3 0 1 4 (Zts (Zsr ?_))
 refine Zm ?_
 refine Zv (Runs.lss rfl rfl rfl) ?_
 refine Zm ?_
 refine SeqC.start ?_
 refine Zco (fun hcx=>Runs.move rfl rfl) ?_
 refine SeqC.next rfl rfl rfl rfl rfl rfl rfl (fun hcx=>Runs.gtr rfl rfl rfl) ?_
 refine SeqC.or rfl rfl rfl rfl rfl rfl rfl ?_
 refine Zk4 0 1 4 13 (Zt ?_)
 refine Cd.cond rfl (fun h=> ?_) (fun h=> ?_)
 ·exfalso
  simp at h
  omega
 clear h
 refine Cd.skip (Ztq ?_)
 refine Za ?_
 refine Zk5 0 1 4 5 13 (Zts (Zsr ?_))
 refine Zm ?_
 refine Zc (Ze Tryz.func124) (size_nat _ _ hn) ?_
 rintro e w3 ⟨rfl,rfl⟩
 refine⟨_,rfl,?_⟩
 refine Za ?_
 refine Za ?_
 refine Zk7 0 1 4 5 6 7 13 (Zt (Cd.block ?_))
 generalize hun:n.natAbs=u at *
 have own:=Own.nil w w.heap.size 5 1
 refine Cd.loop (σ:=Nat × Value) (fun s=>[(0, .int .i64 n),(1, .int .i64 (d:Int)),(5,s.2),(6, .int .u64 ((u/10^s.1:Nat):Int)),(7, .int .i64 (s.1:Int))])
  (fun s wr=>s.1≤20∧Below w.heap.size w wr∧Own wr w.heap.size 5 1 s.2 (prB u d s.1).length (Bt (prB u d s.1))∧∀j,j<s.1→0<u/10^j∨j≤d) (fun s=>20-s.1) (0, .slice none 0 0) ⟨by simp,bel,own,fun j hj=>absurd hj (by simp)⟩ ⟨rfl,rfl,rfl,congrArg (fun x:Nat=>some (Value.int .u64 (x:Int))) (show u=u/10^0 by simp),rfl,trivial⟩ ?_
 clear bel
 clear own
 rintro⟨k,v⟩ wr ⟨hk,bel,own,hgo⟩
 dsimp only at hk own hgo⊢
 refine Cd.seq (Zsr ?_)
 refine Zm ?_
 refine Zv (Runs.gtr rfl rfl rfl) ?_
 refine Zm ?_
 refine SeqC.start ?_
 refine Zco (fun hcx=>Runs.move rfl rfl) ?_
 refine SeqC.next rfl rfl rfl rfl rfl rfl rfl (fun hcx=>Runs.move rfl rfl) ?_
 refine SeqC.next rfl rfl rfl rfl rfl rfl rfl (fun hcx=>Runs.leq rfl rfl rfl) ?_
 refine SeqC.or rfl rfl rfl rfl rfl rfl rfl ?_
 refine Zk6 0 1 5 6 7 22 (Zt ?_)
 have hlen:=prB_len u d k
 have hdk:u/10^k≤u:=Nat.div_le_self _ _
 have hdt:=div_ten u k
 have hpr:prB u d (k+1)=prB u d k++(if k=d∧0<d then [46] else [])++[48+u/10^k%10]:=rfl
 generalize hq:u/10^k=q at *
 refine Cd.cond rfl (fun hc=> ?_) (fun hc=> ?_)
 ·have hgo1:0<q∨k≤d:=by simp at hc;omega
  have hk20:k<20:=by
   rcases Nat.lt_or_ge k 20 with h|h
   ·exact h
   ·obtain rfl:k=20:=by omega
    have:u/10^20=0:=Nat.div_eq_of_lt (by omega)
    omega
  have hgo2:∀j,j<k+1→0<u/10^j∨j≤d:=fun j hj=>by
   rcases Nat.lt_or_ge j k with h|h
   ·exact hgo j h
   ·obtain rfl:j=k:=by omega
    rw[hq];exact hgo1
  refine Cd.skip (Zts (Cd.block ?_))
  refine Cd.seqJ (σ:=Value) (fun v=>[(0, .int .i64 n),(1, .int .i64 (d:Int)),(5,v),(6, .int .u64 (q:Int)),(7, .int .i64 (k:Int))]) (fun v wr=>Below w.heap.size w wr∧Own wr w.heap.size 5 1 v (prB u d k++if k=d∧0<d then [46] else []).length (Bt (prB u d k++if k=d∧0<d then [46] else []))) ?_ ?_
  ·skip
   refine Zsr ?_
   refine Zm ?_
   refine Zm ?_
   refine Zv (Runs.eqlI rfl rfl rfl) ?_
   refine Zm ?_
   refine SeqC.start ?_
   refine Zco (fun hcx=>Runs.move rfl rfl) ?_
   refine SeqC.next rfl rfl rfl rfl rfl rfl rfl (fun hcx=>Runs.gtr rfl rfl rfl) ?_
   refine SeqC.and rfl rfl rfl rfl rfl rfl rfl ?_
   refine Zk7 0 1 5 6 7 22 31 (Zt ?_)
   refine Cd.cond rfl (fun hp=> ?_) (fun hp=> ?_)
   ·rw[if_pos (by simp at hp;omega)]
    refine Zr ?_
    refine Zm ?_
    refine Seq.slice (vs:=[_]) (s:=1) rfl rfl rfl Tryz.underlying125 (by kernel_rfl) (zero_uint8) (by omega) (by omega) ⟨rfl,trivial⟩ rfl rfl rfl ?_
    intro g33 w1 n33
    have e33:=Nat.le_trans bel.size n33.ge
    replace bel:=bel.step n33.below
    replace own:=own.step n33.below
    have k33:=n33.blk
    refine Seq.append rfl rfl rfl Tryz.underlying125 (by kernel_rfl) zero_uint8 rfl (by decide) (b:=1) (by kernel_rfl) own (Reads.blk k33 1 rfl) (by intro x hx;simp[flatC,Value.cells] at hx;rw[hx];rfl) bel.size (by simp only[maxLen];omega) (by omega) rfl rfl rfl ?_
    clear own
    intro vw2 w2 own haw2
    replace bel:=bel.trans haw2.below
    refine Za ?_
    refine Zk7 0 1 5 6 7 22 31 ?_
    exact Post.join _ ⟨rfl,rfl,rfl,rfl,rfl,trivial⟩ ⟨bel,by rw[List.length_append,Bt_append];exact own⟩
   ·rw[if_neg (by simp at hp;omega)]
    refine Cd.skip ?_
    exact Post.join _ ⟨rfl,rfl,rfl,rfl,rfl,trivial⟩ ⟨bel,by rw[List.append_nil];exact own⟩
  clear own bel hc
  rintro v wr ⟨bel,own⟩
  have hl2:(prB u d k++if k=d∧0<d then [46] else []).length≤2*k+1:=by rw[List.length_append];split<;>simp<;>omega
  generalize prB u d k++(if k=d∧0<d then [46] else [])=pre at *
  refine Zsr ?_
  refine Zm ?_
  refine Zm ?_
  refine Zv (Runs.remL 10 rfl rfl rfl rfl (by omega)) ?_
  refine Zv (Runs.addU rfl rfl rfl (by omega) (by omega)) ?_
  refine Zv (Runs.convI rfl rfl Tryz.underlying162 Tryz.underlying5 (wrapB (by omega) (by omega))) ?_
  refine Seq.slice (vs:=[_]) (s:=1) rfl rfl rfl Tryz.underlying125 (by kernel_rfl) (zero_uint8) (by omega) (by omega) ⟨rfl,trivial⟩ rfl rfl rfl ?_
  intro g40 w1 n40
  have e40:=Nat.le_trans bel.size n40.ge
  replace bel:=bel.step n40.below
  replace own:=own.step n40.below
  have k40:=n40.blk
  refine Seq.append rfl rfl rfl Tryz.underlying125 (by kernel_rfl) zero_uint8 rfl (by decide) (b:=1) (by kernel_rfl) own (Reads.blk k40 1 rfl) (by intro x hx;simp[flatC,Value.cells] at hx;rw[hx];rfl) bel.size (by simp only[maxLen];omega) (by omega) rfl rfl rfl ?_
  clear own
  intro vw2 w2 own haw2
  replace bel:=bel.trans haw2.below
  refine Za ?_
  refine Zk5 0 1 5 6 7 (Ztr ?_)
  refine Zm ?_
  refine Zv (Runs.quoLU 10 rfl rfl rfl rfl (by omega) (by omega)) ?_
  refine Za ?_
  refine Zk5 0 1 5 6 7 (Post.block_normal (Ztr ?_))
  refine Zm ?_
  refine Za_ ?_
  refine Za ?_
  refine Zk5 0 1 5 6 7 ?_
  refine Post.round (k+1,_) ⟨rfl,rfl,rfl,congrArg (fun x:Nat=>some (Value.int .u64 (x:Int))) hdt,rfl,trivial⟩ ⟨by dsimp only;omega,bel,?_,hgo2⟩ (by dsimp only;omega)
  dsimp only
  rw[hpr,List.length_append,Bt_append]
  exact own
 ·have hstop:Rounds u d k:=⟨hgo,by rw[hq];simp at hc;omega⟩
  have hk1:0<k:=by simp at hc;omega
  refine Cd.exit (Post.then_exit (Post.round_exit (Post.block_exit (Zt ?_))))
  refine Cd.seqJ (σ:=Value) (fun v=>[(5,v)]) (fun v wr=>Below w.heap.size w wr∧Own wr w.heap.size 5 1 v (prB u d k++if n<0 then [45] else []).length (Bt (prB u d k++if n<0 then [45] else []))) ?_ ?_
  ·skip
   refine Zsr ?_
   refine Zm ?_
   refine Zv (Runs.lss rfl rfl rfl) ?_
   refine Zk7 0 1 5 6 7 22 45 (Zt ?_)
   refine Cd.condD rfl (fun hp=> ?_) (fun hp=> ?_)
   ·rw[if_pos hp]
    refine Zr ?_
    refine Zm ?_
    refine Seq.slice (vs:=[_]) (s:=1) rfl rfl rfl Tryz.underlying125 (by kernel_rfl) (zero_uint8) (by omega) (by omega) ⟨rfl,trivial⟩ rfl rfl rfl ?_
    intro g47 w1 n47
    have e47:=Nat.le_trans bel.size n47.ge
    replace bel:=bel.step n47.below
    replace own:=own.step n47.below
    have k47:=n47.blk
    refine Seq.append rfl rfl rfl Tryz.underlying125 (by kernel_rfl) zero_uint8 rfl (by decide) (b:=1) (by kernel_rfl) own (Reads.blk k47 1 rfl) (by intro x hx;simp[flatC,Value.cells] at hx;rw[hx];rfl) bel.size (by simp only[maxLen];omega) (by omega) rfl rfl rfl ?_
    clear own
    intro vw2 w2 own haw2
    replace bel:=bel.trans haw2.below
    refine Za ?_
    refine Zk7 0 1 5 6 7 22 45 ?_
    exact Post.join _ ⟨rfl,trivial⟩ ⟨bel,by rw[List.length_append,Bt_append];exact own⟩
   ·rw[if_neg hp]
    refine Cd.skip ?_
    exact Post.join _ ⟨rfl,trivial⟩ ⟨bel,by rw[List.append_nil];exact own⟩
  clear own bel hc
  rintro v wr ⟨bel,own⟩
  have hpos:0<(prB u d k++if n<0 then [45] else []).length:=by rw[List.length_append];omega
  have hl3:(prB u d k++if n<0 then [45] else []).length≤41:=by rw[List.length_append];split<;>simp<;>omega
  have hlt:∀x∈(prB u d k++if n<0 then [45] else []),x<256:=fun x hx=>by
   rcases List.mem_append.1 hx with hx|hx
   ·exact prB_lt u d k x hx
   ·split at hx
    ·simp at hx;omega
    ·simp at hx
  have hprd:printed n d k=(prB u d k++if n<0 then [45] else []).reverse:=by unfold printed;rw[hun]
  obtain⟨g,cap,cur,rfl,hBg,kb,hnc,hcm,hsz,hxl,hcur⟩:=own.blk hpos
  generalize prB u d k++(if n<0 then [45] else [])=l at *
  refine Zsr ?_
  refine Zm ?_
  refine Zc (Ze Tryz.func125) (reverse_any g l.length cap cur (Bt l) _ kb hnc (by omega) hsz hcur hxl (fun x hx=>by unfold Bt at hx;obtain⟨z,_,rfl⟩:=List.mem_map.1 hx;exact⟨_,rfl⟩)) ?_
  rintro e w9 ⟨cur',rfl,kb',hsz',hcur',honly⟩
  refine⟨_,rfl,?_⟩
  replace bel:=bel.trans (only_to_below honly.row hBg kb.lt)
  have hrd:Reads w9 w9.heap.size 1 (some ⟨g,0,none⟩) l.length (Bt l.reverse):=by
   refine⟨by rw[length_Bt];simp,fun _=>⟨_,rfl,kb'.lt,fun j x hx=> ?_⟩⟩
   have hplain:(⟨g,0,none⟩:Addr).add j=⟨g,j,none⟩:=by unfold Addr.add;split<;>simp_all
   rw[hplain,cell_of_row _ _ _ _ _ _ kb']
   have hj:j<l.length:=by
    rcases Nat.lt_or_ge j l.length with h|h
    ·exact h
    ·rw[get_Bt,List.getElem?_eq_none (by simpa using h)] at hx;cases hx
   rw[hcur' j hj]
   unfold Bt at hx⊢
   rw[←List.map_reverse]
   exact hx
  refine Zk1 5 (Ztq ?_)
  refine Zm ?_
  refine Zv (Runs.convBS rfl rfl Tryz.underlying125 Tryz.underlying5 Tryz.underlying9 hrd (fun x hx=>hlt x (List.mem_reverse.1 hx))) ?_
  refine Za ?_
  refine Zk2 4 5 (Zt (Cd.ret ?_))
  refine Post.end1 rfl rfl (.inl rfl) ?_
  exact⟨⟨k,hstop,by omega,by rw[hprd]⟩,bel⟩
end Go.Proofs.YtaamkfajnpobfaaGreat
namespace Go.Proofs.YtaamkfajnpobfaaGreat
open Go.RowKit
def numN (u:Nat):Nat:=((List.range 21).find? fun N=> !(decide (0<u/10^N)||decide (N≤0))).getD 0
theorem numN_of {u N:Nat}(h:Rounds u 0 N)(hN:N≤20):numN u=N:=by
 have hf:(List.range 21).find? (fun N=> !(decide (0<u/10^N)||decide (N≤0)))=some N:=by
  rw[List.find?_range_eq_some]
  refine⟨?_,List.mem_range.2 (by omega),fun j hj=> ?_⟩
  ·have:=h.2
   simp only[not_or] at this
   simp only[Bool.not_eq_true',Bool.or_eq_false_iff,decide_eq_false_iff_not]
   exact this
  ·have:=h.1 j hj
   simp only[Bool.not_not,Bool.or_eq_true,decide_eq_true_eq]
   exact this
 unfold numN
 rw[hf];rfl
def numT (n:Int):List Nat:=printed n 0 (numN n.natAbs)
theorem numN_le (u:Nat):numN u≤20:=by
 unfold numN
 cases h:(List.range 21).find? (fun N=> !(decide (0<u/10^N)||decide (N≤0))) with
 |none=>exact Nat.zero_le _
 |some N=>have:=List.mem_range.1 (List.mem_of_find?_eq_some h);show N≤20;omega
theorem numT_len (n:Int):(numT n).length≤41:=by
 unfold numT printed
 have h1:=numN_le n.natAbs
 have h2:=prB_len n.natAbs 0 (numN n.natAbs)
 rw[List.length_reverse,List.length_append]
 split<;>simp<;>omega
theorem numT_lt (n:Int):∀x∈numT n,x<256:=by
 intro x hx
 unfold numT printed at hx
 rw[List.mem_reverse,List.mem_append] at hx
 rcases hx with hx|hx
 ·exact prB_lt _ _ _ x hx
 ·split at hx<;>simp at hx;omega
theorem numPrintC (n:Int)(w:World)(hn:I64 n):Calls Tryz.prog 86 #[.int .i64 n, .int .i64 0] w fun e w'=>e= .returned (.string (strOf (numT n)))∧Grow w w':=
 (print_any n 0 w hn (by decide)).mono fun e w' ⟨⟨N,h1,h2,h3⟩,h4⟩=>⟨by rw[h3];unfold numT;rw[numN_of h1 h2],h4⟩
theorem dayT_len (n:Nat):(dayT n).length=10:=by unfold dayT printD;simp[digR_len]
theorem dayT_lt (n:Nat):∀x∈dayT n,x<256:=printD_lt _ _ _
def signS:List (List Nat):=[[43],[45],[42],[47],[],[],[60],[60,61],[61],[33,61],[62,61],[62],[38],[124],[33],[45]]
def signP:List Int:=[4,4,5,5,7,7,3,3,3,3,3,3,2,1,6,6]
def bindT (op:Int):List Nat × Int:=if op<5∨20<op then([],7) else(signS.getD (op-5).toNat [],signP.getD (op-5).toNat 7)
def parT (least:Int)(x:Int × List Nat):List Nat:=if x.1<least then [40]++x.2++[41] else x.2
def joinT:List (List Nat)→List Nat
 | []=>[]
 |s::r=>s++(r.flatMap fun t=>[44,32]++t)
theorem joinT_snoc (l:List (List Nat))(x:List Nat):joinT (l++[x])=if l=[] then x else joinT l++[44,32]++x:=by
 cases l with
 |nil=>simp[joinT]
 |cons s r=>simp[joinT]
def headT (op n:Int)(nm:List Nat)(l:List (Int × List Nat)):List Nat:=
 if op=1 then numT n else if op=2 then dayT n.toNat else if op=3 then nm else if op=4 then [100,97,121]
 else if(bindT op).2=6 then(bindT op).1++parT 6 (l.getD 0 (7,[]))
 else if(bindT op).2=3 then parT 4 (l.getD 0 (7,[]))++[32]++(bindT op).1++[32]++parT 4 (l.getD 1 (7,[]))
 else if(bindT op).2<6 then parT (bindT op).2 (l.getD 0 (7,[]))++[32]++(bindT op).1++[32]++parT ((bindT op).2+1) (l.getD 1 (7,[]))
 else(if op=9 then [109,105,110,40] else if op=10 then [109,97,120,40] else [105,102,40])++joinT (l.map (·.2))++[41]
mutual
def exprT:Ex→List Nat
 | .mk op n nm l=>headT op n nm (exprTL l)
def exprTL:List Ex→List (Int × List Nat)
 | []=>[]
 |e::r=>((bindT e.op).2,exprT e)::exprTL r
end
def pairT (e:Ex):Int × List Nat:=((bindT e.op).2,exprT e)
theorem exprTL_map:∀l,exprTL l=l.map pairT
 | []=>by rw[exprTL];rfl
 |e::r=>by rw[exprTL,exprTL_map r];rfl
theorem exprT_eq (e:Ex):exprT e=headT e.op e.n e.name (e.args.map pairT):=by
 cases e;rw[exprT,exprTL_map];rfl
def inT (e:Ex)(least:Int):List Nat:=parT least (pairT e)
theorem headB_inv {op n:Int}{nm:List Nat}{k:Nat}(h:headB op n nm k=true):arityZ op=(k:Int)∧(n=0∨op=1∨op=2)∧(nm=[]∨op=3)∧0≤n∧(op=2→n≤2932896)∧(op=3→freeB nm=true):=
 Classical.byContradiction fun hn=>by rw[headB_false hn] at h;cases h
theorem builtB_inv {e:Ex}(h:builtB e=true):headB e.op e.n e.name e.args.length=true∧∀x∈e.args,builtB x=true:=by
 rw[builtB_eq,Bool.and_eq_true,List.all_eq_true] at h
 exact h
theorem arity_op {op:Int}{k:Nat}(h:arityZ op=(k:Int)):1≤op∧op≤21∧(op≤4→k=0)∧(5≤op→op≤18→k=2)∧(op=19∨op=20→k=1)∧(op=21→k=3):=by
 unfold arityZ at h
 repeat' split at h
 all_goals omega
theorem free_len {nm:List Nat}(h:freeB nm=true):nm.length≤16:=by
 unfold freeB namedB at h
 simp at h
 omega
theorem bindT_len (op:Int):(bindT op).1.length≤2∧(∀x∈(bindT op).1,x<256)∧1≤(bindT op).2∧(bindT op).2≤7:=by
 unfold bindT
 split
 ·simp
 ·rename_i h
  have:(op-5).toNat<16:=by omega
  generalize (op-5).toNat=j at *
  have key:∀j:Fin 16,(signS.getD j.val []).length≤2∧(∀x∈signS.getD j.val [],x<256)∧1≤signP.getD j.val 7∧signP.getD j.val 7≤7:=by decide
  exact key ⟨j,this⟩
theorem parT_len (least:Int)(x:Int × List Nat):(parT least x).length≤x.2.length+2∧((∀d∈x.2,d<256)→∀d∈parT least x,d<256):=by
 unfold parT
 split
 ·refine⟨by simp,fun h d hd=> ?_⟩
  simp only[List.mem_append,List.mem_singleton] at hd
  rcases hd with (hd|hd)|hd
  ·omega
  ·exact h d hd
  ·omega
 ·exact⟨by omega,fun h=>h⟩
theorem run_all {l:List Nat}(h:runN partB l=l.length):∀x∈l,partB x=true:=by
 induction l with
 |nil=>intro x hx;cases hx
 |cons c r ih=>
  rw[runN_cons] at h
  intro x hx
  split at h
  ·rename_i hc
   rcases List.mem_cons.1 hx with rfl|hx
   ·exact hc
   ·exact ih (by rw[List.length_cons] at h;omega) x hx
  ·simp at h
theorem free_lt {nm:List Nat}(h:freeB nm=true):∀x∈nm,x<256:=by
 unfold freeB namedB at h
 simp at h
 intro x hx
 have:=run_all h.1.2 x hx
 unfold partB letB digB at this
 simp at this
 omega
theorem bt3 {P:Nat→Prop}{a b c:List Nat}(ha:∀x∈a,P x)(hb:∀x∈b,P x)(hc:∀x∈c,P x):∀x∈a++b++c,P x:=by
 intro x hx
 simp only[List.mem_append] at hx
 rcases hx with (h|h)|h
 ·exact ha x h
 ·exact hb x h
 ·exact hc x h
theorem join_lt {l:List (List Nat)}(h:∀t∈l,∀x∈t,x<256):∀x∈joinT l,x<256:=by
 cases l with
 |nil=>intro x hx;cases hx
 |cons s r=>
  intro x hx
  unfold joinT at hx
  simp only[List.mem_append,List.mem_flatMap,List.mem_cons,List.not_mem_nil,or_false] at hx
  rcases hx with hx|⟨t,ht,hx|hx⟩
  ·exact h s List.mem_cons_self x hx
  ·omega
  ·exact h t (List.mem_cons_of_mem _ ht) x hx
theorem snd_pairT (l:List Ex):(l.map pairT).map (·.2)=l.map exprT:=by rw[List.map_map];rfl
theorem joinT_cons2 (s t:List Nat)(r:List (List Nat)):joinT (s::t::r)=s++[44,32]++joinT (t::r):=by simp[joinT]
theorem joinT_len:∀l:List Ex,(∀x∈l,(exprT x).length≤50*x.nodes)→(joinT (l.map exprT)).length≤50*nodesL l+2*l.length
 | [],_=>by simp[joinT]
 | [x],h=>by have:=h x List.mem_cons_self;simp[joinT,nodesL];omega
 |x::y::r,h=>by
  have h1:=h x List.mem_cons_self
  have h2:=joinT_len (y::r) fun z hz=>h z (List.mem_cons_of_mem _ hz)
  rw[nodesL,List.map_cons,List.map_cons,joinT_cons2,←List.map_cons]
  simp only[List.length_append,List.length_cons,List.length_nil] at h2⊢
  omega
theorem exprT_bd (N:Nat):∀e:Ex,e.nodes≤N→builtB e=true→(exprT e).length≤50*e.nodes∧∀d∈exprT e,d<256:=by
 induction N with
 |zero=>intro e hN;have:=e.nodes_pos;omega
 |succ N ih=>
  intro e hN hb
  obtain⟨hh,ha⟩:=builtB_inv hb
  obtain⟨h1,h2,h3,h4,h5,h6⟩:=headB_inv hh
  obtain⟨o1,o2,o3,o4,o5,o6⟩:=arity_op h1
  obtain⟨b1,b2,b3,b4⟩:=bindT_len e.op
  have harg:∀x∈e.args,(exprT x).length≤50*x.nodes∧∀d∈exprT x,d<256:=fun x hx=>ih x (by have:=Ex.arg_nodes hx;omega) (ha x hx)
  have hpar:∀x∈e.args,∀least,(parT least (pairT x)).length≤50*x.nodes+2∧∀d∈parT least (pairT x),d<256:=fun x hx least=>by
   have h:=parT_len least (pairT x)
   have h2:=harg x hx
   exact⟨by have:=h.1;have e:(pairT x).2=exprT x:=rfl;rw[e] at this;omega,h.2 h2.2⟩
  have hn:e.nodes=1+nodesL e.args:=by cases e;exact Ex.nodes_mk _ _ _ _
  rw[exprT_eq]
  unfold headT
  have k1:∀x∈([40]:List Nat),x<256:=by decide
  have k2:∀x∈([32]:List Nat),x<256:=by decide
  have k3:∀x∈([41]:List Nat),x<256:=by decide
  split
  ·exact⟨by have:=numT_len e.n;omega,numT_lt _⟩
  ·split
   ·exact⟨by rw[dayT_len];omega,dayT_lt _⟩
   ·split
    ·rename_i h
     exact⟨by have:=free_len (h6 h);omega,free_lt (h6 h)⟩
    ·split
     ·exact⟨by simp;omega,by decide⟩
     ·have hlen:1≤e.args.length∧e.args.length≤3:=by omega
      obtain⟨x,r,hx⟩:∃x r,e.args=x::r:=by
       cases hx:e.args with
       |nil=>rw[hx] at hlen;simp at hlen
       |cons x r=>exact⟨x,r,rfl⟩
      have px:=hpar x (by rw[hx];exact List.mem_cons_self)
      rw[hx] at hn
      rw[nodesL] at hn
      split
      ·rw[hx]
       obtain⟨p1,p2⟩:=px 6
       refine⟨by rw[List.length_append];show _+(parT 6 (pairT x)).length≤_;omega,fun d hd=> ?_⟩
       rcases List.mem_append.1 hd with hd|hd
       ·exact b2 d hd
       ·exact p2 d hd
      ·rename_i hp6
       have hbin:(bindT e.op).2<6→∃y r',r=y::r':=fun hlt=>by
        have hop:e.op≤18:=by
         rcases Int.lt_or_le 18 e.op with h|h
         ·exfalso
          have:e.op=19∨e.op=20∨e.op=21:=by omega
          rcases this with h|h|h<;>rw[h] at hlt<;>revert hlt<;>decide
         ·exact h
        have:=o4 (by omega) hop
        rw[hx] at this
        cases r with
        |nil=>simp at this
        |cons y r'=>exact⟨y,r',rfl⟩
       split
       ·rename_i hp3
        obtain⟨y,r',rfl⟩:=hbin (by omega)
        have py:=hpar y (by rw[hx];exact List.mem_cons_of_mem _ List.mem_cons_self)
        rw[nodesL] at hn
        rw[hx]
        obtain⟨p1,p2⟩:=px 4
        obtain⟨q1,q2⟩:=py 4
        refine⟨?_,bt3 (bt3 p2 k2 b2) k2 q2⟩
        simp only[List.length_append,List.length_cons,List.length_nil]
        show(parT 4 (pairT x)).length+_+_+_+(parT 4 (pairT y)).length≤_
        omega
       ·split
        ·rename_i hp5
         obtain⟨y,r',rfl⟩:=hbin hp5
         have py:=hpar y (by rw[hx];exact List.mem_cons_of_mem _ List.mem_cons_self)
         rw[nodesL] at hn
         rw[hx]
         obtain⟨p1,p2⟩:=px (bindT e.op).2
         obtain⟨q1,q2⟩:=py ((bindT e.op).2+1)
         refine⟨?_,bt3 (bt3 p2 k2 b2) k2 q2⟩
         simp only[List.length_append,List.length_cons,List.length_nil]
         show(parT (bindT e.op).2 (pairT x)).length+_+_+_+(parT ((bindT e.op).2+1) (pairT y)).length≤_
         omega
        ·have hj:=joinT_len e.args fun z hz=>(harg z hz).1
         rw[snd_pairT]
         refine⟨?_,bt3 ?_ (join_lt fun t ht=> ?_) k3⟩
         ·rw[hx,nodesL] at hj
          rw[hx] at hlen⊢
          simp only[List.length_append,List.length_cons,List.length_nil] at hj hlen⊢
          split
          ·simp only[List.length_cons,List.length_nil];omega
          ·split<;>simp only[List.length_cons,List.length_nil]<;>omega
         ·split
          ·decide
          ·split<;>decide
         ·simp only[List.mem_map] at ht
          obtain⟨z,hz,rfl⟩:=ht
          exact(harg z hz).2
end Go.Proofs.YtaamkfajnpobfaaGreat
namespace Go.Proofs.YtaamkfajnpobfaaGreat
open Go.RowKit
theorem joinT_take (l:List (List Nat))(k:Nat):(joinT (l.take k)).length≤(joinT l).length:=by
 cases l with
 |nil=>simp[joinT]
 |cons s r=>
  cases k with
  |zero=>exact Nat.zero_le _
  |succ k=>
   rw[List.take_succ_cons]
   conv=>rhs;rw[←List.take_append_drop k r]
   simp only[joinT]
   rw[List.flatMap_append]
   simp only[List.length_append]
   omega
end Go.Proofs.YtaamkfajnpobfaaGreat
namespace Go.Proofs.YtaamkfajnpobfaaGreat
open Go.RowKit
end Go.Proofs.YtaamkfajnpobfaaGreat
namespace Go.Proofs.YtaamkfajnpobfaaGreat
open Go.RowKit
section
variable {P:Program} {Q:Exit→Act→World→Prop} {n:Nat} {F F':List (Nat × Value)} {w:World}
def JoinD (n:Nat)(F:List (Nat × Value))(J:Inhabited (List Deferred)→World→Prop)(a:Act)(w:World):Prop:=∃I,@Fr I n F a∧J I w
theorem Cd.seqD {x y:Code}(F':List (Nat × Value))(J:Inhabited (List Deferred)→World→Prop)(hx:Cd P x (Exit.then (JoinD n F' J) Q) n F w)(hy:∀I w,J I w→ @Cd I P y Q n F' w):Cd P (.seq x y) Q n F w:=
 fun a ha=>wp_seq (Code.wp_mono (fun e a w q=>by
  cases e with
  |normal=>obtain⟨I,hF,hJ⟩:=q;exact hy I w hJ a hF
  |exit id=>exact q
  |goto l=>exact q
  |ret=>exact q
  |panic ch=>exact q
  |outgrown=>exact q) (hx a ha))
theorem Post.joinD {I:Inhabited (List Deferred)}{J:Inhabited (List Deferred)→World→Prop}(hs:Sub F' F)(hJ:J I w): @Post I (Exit.then (JoinD n F' J) Q) .normal n F w:=fun _ ha=>⟨I,ha.sub hs,hJ⟩
end
end Go.Proofs.YtaamkfajnpobfaaGreat
namespace Go.Proofs.YtaamkfajnpobfaaGreat
open Go.RowKit
theorem opSign_any (op:Int)(w:World):Calls Tryz.prog 81 #[.int .i64 op] w fun e w'=>e= .returned (.tuple #[.string (strOf (bindT op).1), .int .i64 (bindT op).2])∧Grow w w':=by
 have bel:=Below.refl w.heap.size w
 refine Zs 33 Tryz.func81 ?_
 refine Zsr ?_
 refine Za ?_
 refine Za ?_
 refine Zk3 0 2 3 (Zts (Zsr ?_))
 refine Zm ?_
 refine Zk4 0 2 3 4 (Zt (Cd.block (Zsr ?_)))
 refine Zv (Runs.eqlI rfl rfl rfl) ?_
 refine Za ?_
 refine Zk5 0 2 3 4 5 (Zt ?_)
 refine Cd.condD rfl (fun h18=> ?_) (fun h18=> ?_)
 ·skip
  refine Zsr ?_
  refine Za ?_
  refine Za ?_
  refine Zk5 0 2 3 4 5 (Zt (Cd.ret (Post.block_ret (Post.then_ret ?_))))
  refine Post.end2 rfl rfl rfl (.inl rfl) ?_
  subst h18
  exact⟨rfl,bel⟩
 refine Zsr ?_
 refine Zv (Runs.eqlI rfl rfl rfl) ?_
 refine Za ?_
 refine Zk6 0 2 3 4 5 7 (Zt ?_)
 refine Cd.condD rfl (fun h17=> ?_) (fun h17=> ?_)
 ·skip
  refine Zsr ?_
  refine Za ?_
  refine Za ?_
  refine Zk6 0 2 3 4 5 7 (Zt (Cd.ret (Post.block_ret (Post.then_ret ?_))))
  refine Post.end2 rfl rfl rfl (.inl rfl) ?_
  subst h17
  exact⟨rfl,bel⟩
 refine Zsr ?_
 refine Zv (Runs.eqlI rfl rfl rfl) ?_
 refine Za ?_
 refine Zk7 0 2 3 4 5 7 9 (Zt ?_)
 refine Cd.condD rfl (fun h11=> ?_) (fun h11=> ?_)
 ·skip
  refine Zsr ?_
  refine Za ?_
  refine Za ?_
  refine Zk7 0 2 3 4 5 7 9 (Zt (Cd.ret (Post.block_ret (Post.then_ret ?_))))
  refine Post.end2 rfl rfl rfl (.inl rfl) ?_
  subst h11
  exact⟨rfl,bel⟩
 refine Zsr ?_
 refine Zv (Runs.eqlI rfl rfl rfl) ?_
 refine Za ?_
 refine Zk8 0 2 3 4 5 7 9 11 (Zt ?_)
 refine Cd.condD rfl (fun h12=> ?_) (fun h12=> ?_)
 ·skip
  refine Zsr ?_
  refine Za ?_
  refine Za ?_
  refine Zk8 0 2 3 4 5 7 9 11 (Zt (Cd.ret (Post.block_ret (Post.then_ret ?_))))
  refine Post.end2 rfl rfl rfl (.inl rfl) ?_
  subst h12
  exact⟨rfl,bel⟩
 refine Zsr ?_
 refine Zv (Runs.eqlI rfl rfl rfl) ?_
 refine Za ?_
 refine Zk9 0 2 3 4 5 7 9 11 13 (Zt ?_)
 refine Cd.condD rfl (fun h13=> ?_) (fun h13=> ?_)
 ·skip
  refine Zsr ?_
  refine Za ?_
  refine Za ?_
  refine Zk9 0 2 3 4 5 7 9 11 13 (Zt (Cd.ret (Post.block_ret (Post.then_ret ?_))))
  refine Post.end2 rfl rfl rfl (.inl rfl) ?_
  subst h13
  exact⟨rfl,bel⟩
 refine Zsr ?_
 refine Zv (Runs.eqlI rfl rfl rfl) ?_
 refine Za ?_
 refine Zk10 0 2 3 4 5 7 9 11 13 15 (Zt ?_)
 refine Cd.condD rfl (fun h14=> ?_) (fun h14=> ?_)
 ·skip
  refine Zsr ?_
  refine Za ?_
  refine Za ?_
  refine Zk10 0 2 3 4 5 7 9 11 13 15 (Zt (Cd.ret (Post.block_ret (Post.then_ret ?_))))
  refine Post.end2 rfl rfl rfl (.inl rfl) ?_
  subst h14
  exact⟨rfl,bel⟩
 refine Zsr ?_
 refine Zv (Runs.eqlI rfl rfl rfl) ?_
 refine Za ?_
 refine Zk11 0 2 3 4 5 7 9 11 13 15 17 (Zt ?_)
 refine Cd.condD rfl (fun h15=> ?_) (fun h15=> ?_)
 ·skip
  refine Zsr ?_
  refine Za ?_
  refine Za ?_
  refine Zk11 0 2 3 4 5 7 9 11 13 15 17 (Zt (Cd.ret (Post.block_ret (Post.then_ret ?_))))
  refine Post.end2 rfl rfl rfl (.inl rfl) ?_
  subst h15
  exact⟨rfl,bel⟩
 refine Zsr ?_
 refine Zv (Runs.eqlI rfl rfl rfl) ?_
 refine Za ?_
 refine Zk12 0 2 3 4 5 7 9 11 13 15 17 19 (Zt ?_)
 refine Cd.condD rfl (fun h16=> ?_) (fun h16=> ?_)
 ·skip
  refine Zsr ?_
  refine Za ?_
  refine Za ?_
  refine Zk12 0 2 3 4 5 7 9 11 13 15 17 19 (Zt (Cd.ret (Post.block_ret (Post.then_ret ?_))))
  refine Post.end2 rfl rfl rfl (.inl rfl) ?_
  subst h16
  exact⟨rfl,bel⟩
 refine Zsr ?_
 refine Zv (Runs.eqlI rfl rfl rfl) ?_
 refine Za ?_
 refine Zk13 0 2 3 4 5 7 9 11 13 15 17 19 21 (Zt ?_)
 refine Cd.condD rfl (fun h5=> ?_) (fun h5=> ?_)
 ·skip
  refine Zsr ?_
  refine Za ?_
  refine Za ?_
  refine Zk13 0 2 3 4 5 7 9 11 13 15 17 19 21 (Zt (Cd.ret (Post.block_ret (Post.then_ret ?_))))
  refine Post.end2 rfl rfl rfl (.inl rfl) ?_
  subst h5
  exact⟨rfl,bel⟩
 refine Zsr ?_
 refine Zv (Runs.eqlI rfl rfl rfl) ?_
 refine Za ?_
 refine Zk14 0 2 3 4 5 7 9 11 13 15 17 19 21 23 (Zt ?_)
 refine Cd.condD rfl (fun h6=> ?_) (fun h6=> ?_)
 ·skip
  refine Zsr ?_
  refine Za ?_
  refine Za ?_
  refine Zk14 0 2 3 4 5 7 9 11 13 15 17 19 21 23 (Zt (Cd.ret (Post.block_ret (Post.then_ret ?_))))
  refine Post.end2 rfl rfl rfl (.inl rfl) ?_
  subst h6
  exact⟨rfl,bel⟩
 refine Zsr ?_
 refine Zv (Runs.eqlI rfl rfl rfl) ?_
 refine Za ?_
 refine Zk15 0 2 3 4 5 7 9 11 13 15 17 19 21 23 25 (Zt ?_)
 refine Cd.condD rfl (fun h7=> ?_) (fun h7=> ?_)
 ·skip
  refine Zsr ?_
  refine Za ?_
  refine Za ?_
  refine Zk15 0 2 3 4 5 7 9 11 13 15 17 19 21 23 25 (Zt (Cd.ret (Post.block_ret (Post.then_ret ?_))))
  refine Post.end2 rfl rfl rfl (.inl rfl) ?_
  subst h7
  exact⟨rfl,bel⟩
 refine Zsr ?_
 refine Zv (Runs.eqlI rfl rfl rfl) ?_
 refine Za ?_
 refine Zk16 0 2 3 4 5 7 9 11 13 15 17 19 21 23 25 27 (Zt ?_)
 refine Cd.condD rfl (fun h8=> ?_) (fun h8=> ?_)
 ·skip
  refine Zsr ?_
  refine Za ?_
  refine Za ?_
  refine Zk16 0 2 3 4 5 7 9 11 13 15 17 19 21 23 25 27 (Zt (Cd.ret (Post.block_ret (Post.then_ret ?_))))
  refine Post.end2 rfl rfl rfl (.inl rfl) ?_
  subst h8
  exact⟨rfl,bel⟩
 refine Zsr ?_
 refine Zv (Runs.eqlI rfl rfl rfl) ?_
 refine Za ?_
 refine Zk17 0 2 3 4 5 7 9 11 13 15 17 19 21 23 25 27 29 (Zt ?_)
 refine Cd.condD rfl (fun h19=> ?_) (fun h19=> ?_)
 ·skip
  refine Zsr ?_
  refine Za ?_
  refine Za ?_
  refine Zk17 0 2 3 4 5 7 9 11 13 15 17 19 21 23 25 27 29 (Zt (Cd.ret (Post.block_ret (Post.then_ret ?_))))
  refine Post.end2 rfl rfl rfl (.inl rfl) ?_
  subst h19
  exact⟨rfl,bel⟩
 refine Zsr ?_
 refine Zv (Runs.eqlI rfl rfl rfl) ?_
 refine Za ?_
 refine Zk18 0 2 3 4 5 7 9 11 13 15 17 19 21 23 25 27 29 31 (Zt ?_)
 refine Cd.condD rfl (fun h20=> ?_) (fun h20=> ?_)
 ·skip
  refine Zsr ?_
  refine Za ?_
  refine Za ?_
  refine Zk18 0 2 3 4 5 7 9 11 13 15 17 19 21 23 25 27 29 31 (Zt (Cd.ret (Post.block_ret (Post.then_ret ?_))))
  refine Post.end2 rfl rfl rfl (.inl rfl) ?_
  subst h20
  exact⟨rfl,bel⟩
 refine Cd.skip (Post.block_normal (Ztq ?_))
 refine Za ?_
 refine Za ?_
 refine Zk18 0 2 3 4 5 7 9 11 13 15 17 19 21 23 25 27 29 31 (Zt (Cd.ret ?_))
 refine Post.end2 rfl rfl rfl (.inl rfl) ?_
 have hb:bindT op=([],7):=by
  unfold bindT
  by_cases h:op<5∨20<op
  ·rw[if_pos h]
  ·have:op=9∨op=10:=by omega
   rcases this with rfl|rfl<;>rfl
 rw[hb]
 exact⟨rfl,bel⟩
theorem WrRet.trans {B g:Nat}{bs:List Nat}{w w1 w2:World}{e:Ending}(h:Wt B w w1)(k:WrRet B g bs w1 e w2):WrRet B g bs w e w2:=⟨k.1,h.wt k.2.1,k.2.2⟩
theorem list_any (B g f n:Nat)(cp:List Value)(word bs:List Nat)(ts:List (List Nat))(w:World)(h:Bw w B g bs)(hw:∀d∈word,d<256)(hwl:word.length≤100)(hn:ts.length=n)(hn9:n≤1000)(hts:∀t∈ts,∀d∈t,d<256)(hj:(joinT ts).length≤20000)(hl:bs.length≤900000000)
  (eg:∀args w,(callFunc f args).run Tryz.prog w= .ok (.enter f args) w)
  (one:∀(i:Nat) (t:List Nat),ts[i]? =some t→∀W bs',Wt B w W→Bw W B g bs'→bs'.length≤bs.length+50000→Calls Tryz.prog f ([]++[Value.int .i64 (i:Int)]++cp).toArray W (WrRet B g (bs'++t) W)):
  Calls Tryz.prog 84 #[.pointer (some ⟨g,0,none⟩), .string (strOf word), .int .i64 (n:Int), .func (.func f) #[] cp.toArray] w (WrRet B g (bs++word++[40]++joinT ts++[41]) w):=by
 have wt:=Wt.refl B w
 have wr:=h
 refine Zs 33 Tryz.func84 ?_
 refine Zsr ?_
 refine Zm ?_
 refine Zv (Runs.nilCheck rfl rfl) ?_
 refine Zf 0 Tryz.underlying129 ?_
 refine Zm ?_
 refine Zv (Runs.addL (b:=[40]) rfl rfl rfl (by simp only[List.length_cons,List.length_nil];omega)) ?_
 have k40:∀d∈word++[40],d<256:=fun d hd=>by
  rcases List.mem_append.1 hd with hd|hd
  ·exact hw d hd
  ·simp at hd;omega
 refine Zc (Ze Tryz.func82) ((writeS_both B g (word++[40]) bs _ wr k40 (by simp only[List.length_append,List.length_cons,List.length_nil];omega)).1) ?_
 clear wr
 rintro e w1 ⟨⟨_,rfl⟩,fw1,wr⟩
 refine⟨_,rfl,?_⟩
 replace wt:=wt.wt fw1
 rw[←List.append_assoc] at wr
 obtain⟨pre,hpre⟩:∃pre,pre=bs++word++[40]:=⟨_,rfl⟩
 have hprel:pre.length≤bs.length+101:=by rw[hpre];simp only[List.length_append,List.length_cons,List.length_nil];omega
 rw[←hpre] at wr⊢
 refine Zk4 0 1 2 3 (Zts (Zsr ?_))
 refine Zm ?_
 refine Zm ?_
 refine Zk6 0 1 2 3 15 16 (Zt (Cd.block ?_))
 refine Cd.loop (σ:=Nat) (fun k=>[(0, .pointer (some ⟨g,0,none⟩)),(1, .string (strOf word)),(2, .int .i64 (n:Int)),(3, .func (.func f) #[] cp.toArray),(15, .int .i64 (n:Int)),(16, .int .i64 (k:Int))]) (fun k wr'=>k≤n∧Wt B w wr'∧Bw wr' B g (pre++joinT (ts.take k))) (fun k=>n-k) 0 ⟨Nat.zero_le _,wt,by simpa[joinT] using wr⟩ ⟨rfl,rfl,rfl,rfl,rfl,rfl,trivial⟩ ?_
 clear wt wr
 rintro k w9 ⟨hk,wt,wr⟩
 have hbk:=joinT_take ts k
 refine Zsr ?_
 refine Zv (Runs.lss rfl rfl rfl) ?_
 refine Zk7 0 1 2 3 15 16 17 (Zts ?_)
 refine Cd.condD rfl (fun hc=> ?_) (fun hc=> ?_)
 ·obtain⟨t,ht⟩:∃t,ts[k]? =some t:=⟨_,List.getElem?_eq_getElem (by omega)⟩
  have htk:ts.take (k+1)=ts.take k++[t]:=by rw[List.take_add_one,ht];rfl
  have hbk1:=joinT_take ts (k+1)
  rw[htk,joinT_snoc] at hbk1
  refine Cd.skip (Zts (Cd.block (Zsr ?_)))
  refine Zm ?_
  refine Za ?_
  refine Zk8 0 1 2 3 8 15 16 17 (Zts (Zsr ?_))
  refine Zm ?_
  refine Zv (Runs.gtr rfl rfl rfl) ?_
  refine Zk9 0 1 2 3 8 15 16 17 20 (Zt ?_)
  refine Cd.condD rfl (fun hc=> ?_) (fun hc=> ?_)
  ·have hne:ts.take k≠ []:=fun h0=>by have:=congrArg List.length h0;rw[List.length_take,List.length_nil] at this;omega
   rw[if_neg hne] at hbk1
   refine Zr ?_
   refine Zm ?_
   refine Zv (Runs.nilCheck rfl rfl) ?_
   refine Zf 0 Tryz.underlying129 ?_
   refine Zc (Ze Tryz.func82) ((writeS_both B g [44,32] _ _ wr (by decide) (by simp only[List.length_append,List.length_cons,List.length_nil];omega)).1) ?_
   clear wr
   rintro e w2 ⟨⟨_,rfl⟩,fw2,wr⟩
   refine⟨_,rfl,?_⟩
   replace wt:=wt.wt fw2
   refine Zk9 0 1 2 3 8 15 16 17 20 (Ztr ?_)
   refine Zm ?_
   refine Zm ?_
   refine Seq.call (Enters.value (first:=[]) rfl rfl rfl eg) rfl rfl rfl (one k t ht _ _ wt wr (by simp only[List.length_append,List.length_cons,List.length_nil];omega)) ?_
   clear wr
   rintro e w10 ⟨⟨_,rfl⟩,f10,wr⟩
   refine⟨_,rfl,?_⟩
   replace wt:=wt.wt f10
   refine Zk9 0 1 2 3 8 15 16 17 20 (Post.block_normal (Ztr ?_))
   refine Za_ ?_
   refine Zm ?_
   refine Zk9 0 1 2 3 8 15 16 17 20 ?_
   refine Post.round (k+1) ⟨rfl,rfl,rfl,rfl,rfl,rfl,trivial⟩ ⟨by omega,wt,?_⟩ (by omega)
   rw[htk,joinT_snoc,if_neg hne]
   simpa only[List.append_assoc] using wr
  ·obtain rfl:k=0:=by omega
   refine Cd.skip (Ztr ?_)
   refine Zm ?_
   refine Zm ?_
   refine Seq.call (Enters.value (first:=[]) rfl rfl rfl eg) rfl rfl rfl (one 0 t ht _ _ wt wr (by simp only[List.length_append,List.take_zero];simp only[joinT,List.length_nil];omega)) ?_
   clear wr
   rintro e w10 ⟨⟨_,rfl⟩,f10,wr⟩
   refine⟨_,rfl,?_⟩
   replace wt:=wt.wt f10
   refine Zk9 0 1 2 3 8 15 16 17 20 (Post.block_normal (Ztr ?_))
   refine Za_ ?_
   refine Zm ?_
   refine Zk9 0 1 2 3 8 15 16 17 20 ?_
   refine Post.round 1 ⟨rfl,rfl,rfl,rfl,rfl,rfl,trivial⟩ ⟨by omega,wt,?_⟩ (by omega)
   rw[htk]
   simpa[joinT] using wr
 ·obtain rfl:k=n:=by omega
  rw[List.take_of_length_le (by omega)] at wr
  refine Cd.exit (Post.then_exit (Post.round_exit (Post.block_exit (Ztr ?_))))
  refine Zm ?_
  refine Zv (Runs.nilCheck rfl rfl) ?_
  refine Zf 0 Tryz.underlying129 ?_
  refine Zc (Ze Tryz.func82) ((writeS_both B g [41] _ _ wr (by decide) (by simp only[List.length_append,List.length_cons,List.length_nil];omega)).1) ?_
  clear wr
  rintro e w2 ⟨⟨_,rfl⟩,fw2,wr⟩
  refine⟨_,rfl,?_⟩
  replace wt:=wt.wt fw2
  refine Zk7 0 1 2 3 15 16 17 ?_
  refine Post.end0 rfl (.inr rfl) ?_
  exact⟨⟨_,rfl⟩,wt,wr⟩
end Go.Proofs.YtaamkfajnpobfaaGreat
namespace Go.Proofs.YtaamkfajnpobfaaGreat
open Go.RowKit
def RecW (B g L:Nat)(w:World)(e:Ex)(A:Option Addr):Prop:=∀(i:Nat) (x:Ex),e.args[i]? =some x→∃ad A' c',A=some ad∧
 (∀W,Below B w W→∀(j:Nat) (u:Value),([.int .i64 x.op, .int .i64 x.n, .string (strOf x.name), .slice A' x.args.length c']:List Value)[j]? =some u→W.cell? ((ad.add (i*4)).add j)=some u)∧
 (∀W bs' least,Below B w W→Bw W B g bs'→I64 least→bs'.length≤L→Calls Tryz.prog 40 #[.pointer (some ⟨g,0,none⟩), .agg #[.int .i64 x.op, .int .i64 x.n, .string (strOf x.name), .slice A' x.args.length c'], .int .i64 least] W (WrRet B g (bs'++inT x least) W))
theorem inT_one (x:Ex):inT x 1=exprT x:=by
 unfold inT parT
 rw[if_neg (by have:=(bindT_len x.op).2.2.1;show¬(bindT x.op).2<1;omega)]
 rfl
theorem exprArg_of (B g L g3 g4 c i:Nat)(A:Option Addr)(e x:Ex)(bs:List Nat)(w W:World)(h:RecW B g L w e A)(hb:Below B w W)(k3:Blk W g3 83 #[.pointer (some ⟨g,0,none⟩)]) (k4:Blk W g4 35 #[.int .i64 e.op, .int .i64 e.n, .string (strOf e.name), .slice A e.args.length c]) (wr:Bw W B g bs) (hL:bs.length≤L) (hx:e.args[i]? =some x):
  Calls Tryz.prog 85 #[.int .i64 (i:Int), .pointer (some ⟨g3,0,none⟩), .pointer (some ⟨g4,0,none⟩)] W (WrRet B g (bs++exprT x) W):=by
 obtain⟨ad,A',c',rfl,hc,hcall⟩:=h i x hx
 have hi:=(List.getElem?_eq_some_iff.1 hx).1
 have hBW:=wr.size
 have hcall:=fun W' (hb2:Below W.heap.size W W') (wr':Bw W' B g bs)=>hcall W' bs 1 (hb.trans (hb2.mono hBW)) wr' (by unfold I64;omega) hL
 rw[inT_one] at hcall
 have hc:=fun W' (hb2:Below W.heap.size W W')=>hc W' (hb.trans (hb2.mono hBW))
 have bel:=Below.refl W.heap.size W
 have wt:=Wt.refl B W
 refine Zs 11 Tryz.func85 ?_
 refine Cd.draw 6 (by kernel_rfl) [] (.inl rfl) rfl Grow Grow.refl (fun _ _ _=>Grow.trans) ?_
 intro w1 hw1 zw1
 replace bel:=bel.step hw1
 replace wt:=wt.step hw1
 replace wr:=wr.step hw1
 replace k3:=k3.step hw1
 replace k4:=k4.step hw1
 have zbel:=bel.size
 have zlt:=k4.lt
 refine Zd (fun w hG=>Runs.loadB rfl rfl Tryz.underlying83 rfl (k3.step hG) rfl) ?_
 refine Zd (fun w hG=>Runs.fieldB 3 rfl rfl Tryz.underlying35 rfl (by kernel_rfl)) ?_
 refine Zd (fun w hG=>Runs.loadB rfl rfl Tryz.underlying22 rfl (k4.step hG) rfl) ?_
 refine Zdm ?_
 refine Zd (fun w hG=>Runs.indexN rfl rfl rfl Tryz.underlying22 (s:=4) (by kernel_rfl) (j:=i) rfl (by omega)) ?_
 refine Zd (fun w hG=>Runs.loadF (ps:=[.int .i64 x.op, .int .i64 x.n, .string (strOf x.name), .slice A' x.args.length c']) rfl rfl Tryz.underlying35 rfl (m:=4) (by kernel_rfl) rfl (hc _ (bel.step hG))) ?_
 refine Dr.nil ?_
 refine FinX.done (F':=[(0,_),(1,_),(2,_),(4,_),(9,_)]) rfl ⟨rfl,rfl,rfl,rfl,rfl,trivial⟩ ?_
 intro w2 hw2 fw2
 replace bel:=bel.step hw2
 replace wt:=wt.step hw2
 replace wr:=wr.step hw2
 replace k3:=k3.step hw2
 replace k4:=k4.step hw2
 have hcc:=hcall _ bel wr
 clear bel
 refine Zc (Ze Tryz.func40) (hcc) ?_
 clear wr
 rintro e w3 ⟨⟨_,rfl⟩,fw3,wr⟩
 refine⟨_,rfl,?_⟩
 replace wt:=wt.wt fw3
 refine Zk3 0 1 2 ?_
 refine Post.end0 rfl (.inr rfl) ?_
 exact⟨⟨_,rfl⟩,wt,wr⟩
theorem eg_arg:∀args w,(callFunc 85 args).run Tryz.prog w= .ok (.enter 85 args) w:=fun args w=>run_enter Tryz.func85 (by kernel_rfl) rfl args w
theorem exprArgs_of (B g L g3 g4 c:Nat)(A:Option Addr)(e:Ex)(word bs:List Nat)(w W:World)(h:RecW B g L w e A)(hb:Below B w W)(k3:Blk W g3 83 #[.pointer (some ⟨g,0,none⟩)]) (k4:Blk W g4 35 #[.int .i64 e.op, .int .i64 e.n, .string (strOf e.name), .slice A e.args.length c]) (wr:Bw W B g bs) (hL:bs.length+50000≤L) (hL2:L≤900000000)
  (hw:∀d∈word,d<256) (hwl:word.length≤100) (hbt:∀x∈e.args,builtB x=true) (hn:e.args.length≤1000) (hj:(joinT (e.args.map exprT)).length≤20000):
  Calls Tryz.prog 83 #[.string (strOf word), .pointer (some ⟨g3,0,none⟩), .pointer (some ⟨g4,0,none⟩)] W (WrRet B g (bs++word++[40]++joinT (e.args.map exprT)++[41]) W):=by
 have wt:=Wt.refl B W
 have hBW:=wr.size
 have hl:(e.args.map exprT).length=e.args.length:=List.length_map _
 have hlist:=list_any B g 85 e.args.length [.pointer (some ⟨g3,0,none⟩), .pointer (some ⟨g4,0,none⟩)] word bs (e.args.map exprT) W wr hw hwl hl hn (fun t ht=>by obtain⟨x,hx,rfl⟩:=List.mem_map.1 ht;exact(exprT_bd x.nodes x (Nat.le_refl _) (hbt x hx)).2) hj (by omega) eg_arg
  (fun i t ht W' bs' hwt hwr hlen=>by
   rw[List.getElem?_map] at ht
   cases hx:e.args[i]? with
   |none=>rw[hx] at ht;cases ht
   |some x=>
    rw[hx] at ht
    injection ht with ht
    subst ht
    exact exprArg_of B g L g3 g4 c i A e x bs' w W' h (hb.trans (hwt.to hBW)) (k3.wt hwt) (k4.wt hwt) hwr (by omega) hx)
 refine Zs 11 Tryz.func83 ?_
 refine Zr ?_
 refine Zv (Runs.loadB rfl rfl Tryz.underlying83 rfl k3 rfl) ?_
 refine Zm ?_
 refine Zf 3 Tryz.underlying35 ?_
 refine Zv (Runs.loadB rfl rfl Tryz.underlying22 rfl k4 rfl) ?_
 refine Zv (Runs.len rfl rfl Tryz.underlying22) ?_
 refine Zv (Runs.makeFunc (v:= .func (.func 85) #[] #[.pointer (some ⟨g3,0,none⟩), .pointer (some ⟨g4,0,none⟩)]) rfl (show evL _ _=some [] from rfl) (show evL _ _=some [.pointer (some ⟨g3,0,none⟩), .pointer (some ⟨g4,0,none⟩)] from rfl) rfl) ?_
 refine Zc (Ze Tryz.func84) (hlist) ?_
 clear wr
 rintro e w1 ⟨⟨_,rfl⟩,fw1,wr⟩
 refine⟨_,rfl,?_⟩
 replace wt:=wt.wt fw1
 refine Zk3 0 1 2 ?_
 refine Post.end0 rfl (.inr rfl) ?_
 exact⟨⟨_,rfl⟩,wt,wr⟩
theorem eg_args:∀args w,(callFunc 83 args).run Tryz.prog w= .ok (.enter 83 args) w:=fun args w=>run_enter Tryz.func83 (by kernel_rfl) rfl args w
theorem eg_write:∀args w,(callFunc 82 args).run Tryz.prog w= .ok (.enter 82 args) w:=fun args w=>run_enter Tryz.func82 (by kernel_rfl) rfl args w
def ExJ (Q:Exit→Act→World→Prop)(B g g3 g4 n m:Nat)(bs T:List Nat)(cs:Array Value)(w:World)(I:Inhabited (List Deferred))(wc:World):Prop:=
 Wt B w wc∧Blk wc g3 83 #[.pointer (some ⟨g,0,none⟩)]∧Blk wc g4 35 cs∧∃bs0,Bw wc B g bs0∧bs0.length≤m∧∀wx ex,(ex=Exit.ret∨ex=Exit.normal)→Wt B w wx→Bw wx B g (bs0++T)→ @Post I Q ex n [] wx
theorem Cd.seqE {P:Program}{Q:Exit→Act→World→Prop}{n:Nat}{F:List (Nat × Value)}{wc:World}{x y:Code}(F':List (Nat × Value))(B g g3 g4 m:Nat)(bs T:List Nat)(cs:Array Value)(w:World)(hx:Cd P x (Exit.then (JoinD n F' (ExJ Q B g g3 g4 n m bs T cs w)) Q) n F wc)(hy:∀I w2,ExJ Q B g g3 g4 n m bs T cs w I w2→ @Cd I P y Q n F' w2):Cd P (.seq x y) Q n F wc:=Cd.seqD F' _ hx hy
theorem exprW_any (N:Nat):∀(e:Ex) (B g:Nat) (bs:List Nat) (v:Value) (least:Int) (w:World),e.nodes≤N→e.nodes≤200→builtB e=true→Rep w B e v→Bw w B g bs→I64 least→bs.length+100000*e.depth≤100000000→
  Calls Tryz.prog 40 #[.pointer (some ⟨g,0,none⟩),v, .int .i64 least] w (WrRet B g (bs++inT e least) w):=by
 induction N with
 |zero=>intro e B g bs v least w hN;have:=e.nodes_pos;omega
 |succ N ih=>
 intro e B g bs v least w hN h200 hbt hrep hbw hleast hbs
 obtain⟨A,c,rfl,hv⟩:=hrep.open
 have hbd:=exprT_bd e.nodes e (Nat.le_refl _) hbt
 obtain⟨hh,hargs⟩:=builtB_inv hbt
 obtain⟨h1,h2,h3,h4,h5,h6⟩:=headB_inv hh
 obtain⟨o1,o2,o3,o4,o5,o6⟩:=arity_op h1
 obtain⟨b1,b2,b3,b4⟩:=bindT_len e.op
 have hBW:=hbw.size
 have hT:=exprT_eq e
 unfold headT at hT
 have hrec:RecW B g (bs.length+60000) w e A:=fun i x hx=>by
  obtain⟨ad,A',c',e1,e2,e3,e4⟩:=hv.arg i x hx
  have hmem:=List.mem_of_getElem? hx
  have hnd:=Ex.arg_nodes hmem
  have hdp:=Ex.arg_depth hmem
  have hbx:=hargs x hmem
  exact⟨ad,A',c',e1,fun W hb j u hu=>(hb.cell (by rw[block_of_add,block_of_add];omega)).trans (e4 j u hu),fun W bs' least hb hwr hls hlen=>ih x B g bs' _ least W (by omega) (by omega) hbx (e3.below hb) hwr hls (by omega)⟩
 have hjl:(joinT (e.args.map exprT)).length≤20000:=by
  have:=joinT_len e.args fun z hz=>(exprT_bd z.nodes z (Nat.le_refl _) (hargs z hz)).1
  have hn:e.nodes=1+nodesL e.args:=by cases e;exact Ex.nodes_mk _ _ _ _
  have:e.args.length≤3:=by omega
  omega
 have hl3:e.args.length≤3:=by omega
 have wt:=Wt.refl B w
 have wr:=hbw
 refine Calls.startD 114 Tryz.func40 rfl rfl rfl ?_
 refine Zsr ?_
 refine Seq.box rfl rfl rfl rfl rfl ?_
 intro g3 w1 n3
 replace wt:=wt.step n3.below
 replace wr:=wr.step n3.below
 have k3:=n3.blk
 refine Seq.box rfl rfl rfl rfl rfl ?_
 intro g4 w2 n4
 have l4:=Nat.lt_of_lt_of_le k3.lt n4.ge
 replace wt:=wt.step n4.below
 replace wr:=wr.step n4.below
 replace k3:=k3.step n4.below
 have k4:=n4.blk
 refine Zk5 0 1 2 3 4 (Ztq ?_)
 refine Zf 0 Tryz.underlying35 ?_
 refine Zv (Runs.loadB rfl rfl Tryz.underlying3 rfl k4 rfl) ?_
 refine Zc (Ze Tryz.func81) (opSign_any e.op _) ?_
 rintro en w5 ⟨rfl,hb5⟩
 refine⟨_,rfl,?_⟩
 replace wt:=wt.step hb5
 replace wr:=wr.step hb5
 replace k3:=k3.step hb5
 replace k4:=k4.step hb5
 refine Zm ?_
 refine Zv (Runs.extract rfl rfl rfl) ?_
 refine Zv (Runs.extract rfl rfl rfl) ?_
 refine Za ?_
 refine Za ?_
 refine Zk7 0 1 2 3 4 6 7 (Zt ?_)
 refine Cd.seqE [(3, .pointer (some ⟨g3,0,none⟩)),(4, .pointer (some ⟨g4,0,none⟩)),(6, .string (strOf (bindT e.op).1)),(7, .int .i64 (bindT e.op).2)] B g g3 g4 (bs.length+1) bs (exprT e) #[.int .i64 e.op, .int .i64 e.n, .string (strOf e.name), .slice A e.args.length c] w ?_ ?_
 ·skip
  refine Zsr ?_
  refine Zm ?_
  refine Zm ?_
  refine Zv (Runs.lss rfl rfl rfl) ?_
  refine Zk8 0 1 2 3 4 6 7 18 (Zt ?_)
  refine Cd.condD rfl (fun hc=> ?_) (fun hc=> ?_)
  ·have hin:inT e least=[40]++exprT e++[41]:=by
    unfold inT parT
    rw[if_pos (show(pairT e).1<least from hc)]
    rfl
   refine Zsr ?_
   refine Zv (Runs.loadB rfl rfl Tryz.underlying83 rfl k3 rfl) ?_
   refine Zv (Runs.nilCheck rfl rfl) ?_
   refine Zf 0 Tryz.underlying129 ?_
   refine Zc (Ze Tryz.func82) ((writeS_both B g [40] bs _ wr (by decide) (by simp only[List.length_cons,List.length_nil];omega)).1) ?_
   clear wr
   rintro e w3 ⟨⟨_,rfl⟩,fw3,wr⟩
   refine⟨_,rfl,?_⟩
   replace wt:=wt.wt fw3
   replace k3:=k3.wt fw3
   replace k4:=k4.wt fw3
   refine Zk8 0 1 2 3 4 6 7 18 (Ztr ?_)
   refine Zv (Runs.loadB rfl rfl Tryz.underlying83 rfl k3 rfl) ?_
   refine Zv (Runs.nilCheck rfl rfl) ?_
   refine Zf 0 Tryz.underlying129 ?_
   refine Seq.defer_ rfl rfl rfl rfl ?_
   intro I hI
   refine Zk8 0 1 2 3 4 6 7 18 ?_
   refine Post.joinD ⟨rfl,rfl,rfl,rfl,trivial⟩ ⟨wt,k3,k4,bs++[40],wr,by simp,fun wx ex hex wtx wrx=> ?_⟩
   refine Post.endD1 hI rfl hex eg_write ((writeS_both B g [41] _ wx wrx (by decide) (by simp only[List.length_append,List.length_cons,List.length_nil];omega)).2 .returning) fun en w' hw=> ?_
   refine⟨hw.1,⟨_,rfl⟩,wtx.wt hw.2.1,?_⟩
   rw[hin]
   simpa only[List.append_assoc] using hw.2.2
  ·have hin:inT e least=exprT e:=by
    unfold inT parT
    rw[if_neg (show¬(pairT e).1<least from hc)]
    rfl
   refine Cd.skip ?_
   refine Post.joinD ⟨rfl,rfl,rfl,rfl,trivial⟩ ⟨wt,k3,k4,bs,wr,by omega,fun wx ex hex wtx wrx=> ?_⟩
   refine Post.endD0 rfl hex ?_
   rw[hin]
   exact⟨⟨_,rfl⟩,wtx,wrx⟩
 clear wt wr k3 k4
 rintro I w8 ⟨wt,k3,k4,bs0,wr,hb0,hend⟩
 have hpre:B≤w8.heap.size:=wr.size
 refine Zsr ?_
 refine Zv (Runs.makeFunc (v:= .func (.func 83) #[] #[.pointer (some ⟨g3,0,none⟩), .pointer (some ⟨g4,0,none⟩)]) rfl (show evL _ _=some [] from rfl) (show evL _ _=some [.pointer (some ⟨g3,0,none⟩), .pointer (some ⟨g4,0,none⟩)] from rfl) rfl) ?_
 refine Za ?_
 refine Zk5 3 4 6 7 8 (Ztq ?_)
 refine Zf 0 Tryz.underlying35 ?_
 refine Zv (Runs.loadB rfl rfl Tryz.underlying3 rfl k4 rfl) ?_
 refine Zk6 3 4 6 7 8 28 (Zt (Cd.block (Zsr ?_)))
 refine Zv (Runs.eqlI rfl rfl rfl) ?_
 refine Za ?_
 refine Zk7 3 4 6 7 8 28 56 (Zt ?_)
 refine Cd.condD rfl (fun c1=> ?_) (fun c1=> ?_)
 ·rw[if_pos c1] at hT
  refine Cd.draw 6 (by kernel_rfl) [] (.inl rfl) rfl Grow Grow.refl (fun _ _ _=>Grow.trans) ?_
  intro w3 hw3 zw3
  replace wt:=wt.step hw3
  replace wr:=wr.step hw3
  replace k3:=k3.step hw3
  replace k4:=k4.step hw3
  have zlt:=k4.lt
  refine Zd (fun w hG=>Runs.loadB rfl rfl Tryz.underlying83 rfl (k3.step hG) rfl) ?_
  refine Zd (fun w hG=>Runs.nilCheck rfl rfl) ?_
  refine Zd (fun w hG=>Runs.fieldB 0 rfl rfl Tryz.underlying129 rfl (by kernel_rfl)) ?_
  refine Zd (fun w hG=>Runs.fieldB 1 rfl rfl Tryz.underlying35 rfl (by kernel_rfl)) ?_
  refine Zd (fun w hG=>Runs.loadB rfl rfl Tryz.underlying2 rfl (k4.step hG) rfl) ?_
  refine Dr.callV rfl (fun w=>Ze Tryz.func86) rfl (fun w hG=>numPrintC e.n w hv.n) ?_
  refine Dr.nil ?_
  refine FinX.done (F':=[(3,_),(4,_),(6,_),(7,_),(8,_),(28,_),(56,_),(60,_),(63,_)]) rfl ⟨rfl,rfl,rfl,rfl,rfl,rfl,rfl,rfl,rfl,trivial⟩ ?_
  intro w4 hw4 fw4
  replace wt:=wt.step hw4
  replace wr:=wr.step hw4
  replace k3:=k3.step hw4
  replace k4:=k4.step hw4
  refine Zc (Ze Tryz.func82) ((writeS_both B g (numT e.n) bs0 _ wr (numT_lt _) (by have:=numT_len e.n;omega)).1) ?_
  clear wr
  rintro e w5 ⟨⟨_,rfl⟩,fw5,wr⟩
  refine⟨_,rfl,?_⟩
  replace wt:=wt.wt fw5
  replace k3:=k3.wt fw5
  replace k4:=k4.wt fw5
  refine Zk7 3 4 6 7 8 28 56 (Post.block_normal ?_)
  refine Post.weak (F':=[]) trivial ?_
  exact hend _ _ (.inr rfl) wt (by rw[hT];exact wr)
 rw[if_neg c1] at hT
 refine Zsr ?_
 refine Zv (Runs.eqlI rfl rfl rfl) ?_
 refine Za ?_
 refine Zk8 3 4 6 7 8 28 56 65 (Zt ?_)
 refine Cd.condD rfl (fun c2=> ?_) (fun c2=> ?_)
 ·rw[if_pos c2] at hT
  have hday:∀W,Calls Tryz.prog 87 #[.int .i64 e.n] W fun e1 w'=>e1= .returned (.string (strOf (dayT e.n.toNat)))∧Grow W w':=fun W=>by
   have:=dayPrint_any e.n.toNat W (by have:=h5 c2;omega)
   rwa [Int.toNat_of_nonneg h4] at this
  refine Cd.draw 6 (by kernel_rfl) [] (.inl rfl) rfl Grow Grow.refl (fun _ _ _=>Grow.trans) ?_
  intro w3 hw3 zw3
  replace wt:=wt.step hw3
  replace wr:=wr.step hw3
  replace k3:=k3.step hw3
  replace k4:=k4.step hw3
  have zlt:=k4.lt
  refine Zd (fun w hG=>Runs.loadB rfl rfl Tryz.underlying83 rfl (k3.step hG) rfl) ?_
  refine Zd (fun w hG=>Runs.nilCheck rfl rfl) ?_
  refine Zd (fun w hG=>Runs.fieldB 0 rfl rfl Tryz.underlying129 rfl (by kernel_rfl)) ?_
  refine Zd (fun w hG=>Runs.fieldB 1 rfl rfl Tryz.underlying35 rfl (by kernel_rfl)) ?_
  refine Zd (fun w hG=>Runs.loadB rfl rfl Tryz.underlying2 rfl (k4.step hG) rfl) ?_
  refine Dr.callV rfl (fun w=>Ze Tryz.func87) rfl (fun w hG=>hday w) ?_
  refine Dr.nil ?_
  refine FinX.done (F':=[(3,_),(4,_),(6,_),(7,_),(8,_),(28,_),(56,_),(65,_),(69,_),(72,_)]) rfl ⟨rfl,rfl,rfl,rfl,rfl,rfl,rfl,rfl,rfl,rfl,trivial⟩ ?_
  intro w4 hw4 fw4
  replace wt:=wt.step hw4
  replace wr:=wr.step hw4
  replace k3:=k3.step hw4
  replace k4:=k4.step hw4
  refine Zc (Ze Tryz.func82) ((writeS_both B g (dayT e.n.toNat) bs0 _ wr (dayT_lt _) (by have:=dayT_len e.n.toNat;omega)).1) ?_
  clear wr
  rintro e w5 ⟨⟨_,rfl⟩,fw5,wr⟩
  refine⟨_,rfl,?_⟩
  replace wt:=wt.wt fw5
  replace k3:=k3.wt fw5
  replace k4:=k4.wt fw5
  refine Zk8 3 4 6 7 8 28 56 65 (Post.block_normal ?_)
  refine Post.weak (F':=[]) trivial ?_
  exact hend _ _ (.inr rfl) wt (by rw[hT];exact wr)
 rw[if_neg c2] at hT
 refine Zsr ?_
 refine Zv (Runs.eqlI rfl rfl rfl) ?_
 refine Za ?_
 refine Zk9 3 4 6 7 8 28 56 65 74 (Zt ?_)
 refine Cd.condD rfl (fun c3=> ?_) (fun c3=> ?_)
 ·rw[if_pos c3] at hT
  refine Cd.draw 5 (by kernel_rfl) [] (.inl rfl) rfl Grow Grow.refl (fun _ _ _=>Grow.trans) ?_
  intro w3 hw3 zw3
  replace wt:=wt.step hw3
  replace wr:=wr.step hw3
  replace k3:=k3.step hw3
  replace k4:=k4.step hw3
  have zlt:=k4.lt
  refine Zd (fun w hG=>Runs.loadB rfl rfl Tryz.underlying83 rfl (k3.step hG) rfl) ?_
  refine Zd (fun w hG=>Runs.nilCheck rfl rfl) ?_
  refine Zd (fun w hG=>Runs.fieldB 0 rfl rfl Tryz.underlying129 rfl (by kernel_rfl)) ?_
  refine Zd (fun w hG=>Runs.fieldB 2 rfl rfl Tryz.underlying35 rfl (by kernel_rfl)) ?_
  refine Zd (fun w hG=>Runs.loadB rfl rfl Tryz.underlying9 rfl (k4.step hG) rfl) ?_
  refine Dr.nil ?_
  refine FinX.done (F':=[(3,_),(4,_),(6,_),(7,_),(8,_),(28,_),(56,_),(65,_),(74,_),(78,_),(80,_)]) rfl ⟨rfl,rfl,rfl,rfl,rfl,rfl,rfl,rfl,rfl,rfl,rfl,trivial⟩ ?_
  intro w4 hw4 fw4
  replace wt:=wt.step hw4
  replace wr:=wr.step hw4
  replace k3:=k3.step hw4
  replace k4:=k4.step hw4
  refine Zc (Ze Tryz.func82) ((writeS_both B g e.name bs0 _ wr (free_lt (h6 c3)) (by have:=free_len (h6 c3);omega)).1) ?_
  clear wr
  rintro e w5 ⟨⟨_,rfl⟩,fw5,wr⟩
  refine⟨_,rfl,?_⟩
  replace wt:=wt.wt fw5
  replace k3:=k3.wt fw5
  replace k4:=k4.wt fw5
  refine Zk9 3 4 6 7 8 28 56 65 74 (Post.block_normal ?_)
  refine Post.weak (F':=[]) trivial ?_
  exact hend _ _ (.inr rfl) wt (by rw[hT];exact wr)
 rw[if_neg c3] at hT
 refine Zsr ?_
 refine Zv (Runs.eqlI rfl rfl rfl) ?_
 refine Za ?_
 refine Zk10 3 4 6 7 8 28 56 65 74 82 (Zt ?_)
 refine Cd.condD rfl (fun c4=> ?_) (fun c4=> ?_)
 ·rw[if_pos c4] at hT
  refine Zr ?_
  refine Zv (Runs.loadB rfl rfl Tryz.underlying83 rfl k3 rfl) ?_
  refine Zv (Runs.nilCheck rfl rfl) ?_
  refine Zf 0 Tryz.underlying129 ?_
  refine Zc (Ze Tryz.func82) ((writeS_both B g [100,97,121] bs0 _ wr (by decide) (by simp only[List.length_cons,List.length_nil];omega)).1) ?_
  clear wr
  rintro e w3 ⟨⟨_,rfl⟩,fw3,wr⟩
  refine⟨_,rfl,?_⟩
  replace wt:=wt.wt fw3
  replace k3:=k3.wt fw3
  replace k4:=k4.wt fw3
  refine Zk10 3 4 6 7 8 28 56 65 74 82 (Post.block_normal ?_)
  refine Post.weak (F':=[]) trivial ?_
  exact hend _ _ (.inr rfl) wt (by rw[hT];exact wr)
 rw[if_neg c4] at hT
 refine Zsr ?_
 refine Zv (Runs.eqlI rfl rfl rfl) ?_
 refine Za ?_
 refine Zk11 3 4 6 7 8 28 56 65 74 82 88 (Zt ?_)
 refine Cd.condD rfl (fun c9=> ?_) (fun c9=> ?_)
 ·have hb:bindT e.op=([],7):=by rw[c9];rfl
  rw[if_neg (by rw[hb];decide),if_neg (by rw[hb];decide),if_neg (by rw[hb];decide),if_pos c9,snd_pairT] at hT
  refine Zr ?_
  refine Zm ?_
  refine Seq.call (Enters.value (first:=[]) (cap:=[.pointer (some ⟨g3,0,none⟩), .pointer (some ⟨g4,0,none⟩)]) rfl rfl rfl eg_args) rfl rfl rfl (exprArgs_of B g (bs.length+60000) g3 g4 c A e [109,105,110] bs0 w _ hrec (wt.to hBW) k3 k4 wr (by omega) (by omega) (by decide) (by decide) hargs (by omega) hjl) ?_
  clear wr
  rintro en w9 ⟨⟨_,rfl⟩,f9,wr⟩
  refine⟨_,rfl,?_⟩
  replace wt:=wt.wt f9
  refine Zk11 3 4 6 7 8 28 56 65 74 82 88 (Post.block_normal ?_)
  refine Post.weak (F':=[]) trivial ?_
  exact hend _ _ (.inr rfl) wt (by rw[hT];simpa only[List.append_assoc,List.cons_append,List.nil_append] using wr)
 refine Zsr ?_
 refine Zv (Runs.eqlI rfl rfl rfl) ?_
 refine Za ?_
 refine Zk12 3 4 6 7 8 28 56 65 74 82 88 92 (Zt ?_)
 refine Cd.condD rfl (fun c10=> ?_) (fun c10=> ?_)
 ·have hb:bindT e.op=([],7):=by rw[c10];rfl
  rw[if_neg (by rw[hb];decide),if_neg (by rw[hb];decide),if_neg (by rw[hb];decide),if_neg c9,if_pos c10,snd_pairT] at hT
  refine Zr ?_
  refine Zm ?_
  refine Seq.call (Enters.value (first:=[]) (cap:=[.pointer (some ⟨g3,0,none⟩), .pointer (some ⟨g4,0,none⟩)]) rfl rfl rfl eg_args) rfl rfl rfl (exprArgs_of B g (bs.length+60000) g3 g4 c A e [109,97,120] bs0 w _ hrec (wt.to hBW) k3 k4 wr (by omega) (by omega) (by decide) (by decide) hargs (by omega) hjl) ?_
  clear wr
  rintro en w9 ⟨⟨_,rfl⟩,f9,wr⟩
  refine⟨_,rfl,?_⟩
  replace wt:=wt.wt f9
  refine Zk12 3 4 6 7 8 28 56 65 74 82 88 92 (Post.block_normal ?_)
  refine Post.weak (F':=[]) trivial ?_
  exact hend _ _ (.inr rfl) wt (by rw[hT];simpa only[List.append_assoc,List.cons_append,List.nil_append] using wr)
 refine Zsr ?_
 refine Zv (Runs.eqlI rfl rfl rfl) ?_
 refine Za ?_
 refine Zk13 3 4 6 7 8 28 56 65 74 82 88 92 96 (Zt ?_)
 refine Cd.condD rfl (fun c21=> ?_) (fun c21=> ?_)
 ·have hb:bindT e.op=([],7):=by rw[c21];rfl
  rw[if_neg (by rw[hb];decide),if_neg (by rw[hb];decide),if_neg (by rw[hb];decide),if_neg c9,if_neg c10,snd_pairT] at hT
  refine Zr ?_
  refine Zm ?_
  refine Seq.call (Enters.value (first:=[]) (cap:=[.pointer (some ⟨g3,0,none⟩), .pointer (some ⟨g4,0,none⟩)]) rfl rfl rfl eg_args) rfl rfl rfl (exprArgs_of B g (bs.length+60000) g3 g4 c A e [105,102] bs0 w _ hrec (wt.to hBW) k3 k4 wr (by omega) (by omega) (by decide) (by decide) hargs (by omega) hjl) ?_
  clear wr
  rintro en w9 ⟨⟨_,rfl⟩,f9,wr⟩
  refine⟨_,rfl,?_⟩
  replace wt:=wt.wt f9
  refine Zk13 3 4 6 7 8 28 56 65 74 82 88 92 96 (Post.block_normal ?_)
  refine Post.weak (F':=[]) trivial ?_
  exact hend _ _ (.inr rfl) wt (by rw[hT];simpa only[List.append_assoc,List.cons_append,List.nil_append] using wr)
 refine Cd.seq (Zsr ?_)
 refine Zv (Runs.eqlI rfl rfl rfl) ?_
 refine Za ?_
 refine Zk14 3 4 6 7 8 28 56 65 74 82 88 92 96 100 (Zt ?_)
 refine Cd.condD rfl (fun c19=> ?_) (fun c19=> ?_)
 ·skip
  refine Cd.skip (Zt ?_)
  refine Cd.condT rfl (decide_eq_true c19) ?_
  have hb:(bindT e.op).2=6:=by rw[c19];rfl
  have hlen1:e.args.length=1:=o5 (by omega)
  obtain⟨x,hx⟩:∃x,e.args=[x]:=List.length_eq_one_iff.1 hlen1
  obtain⟨ad,A0,A0',rfl,hcx,hcallx⟩:=hrec 0 x (by rw[hx];rfl)
  rw[if_pos hb,hx,show([x].map pairT).getD 0 (7,[])=pairT x from rfl] at hT
  refine Zsr ?_
  refine Zv (Runs.loadB rfl rfl Tryz.underlying83 rfl k3 rfl) ?_
  refine Zv (Runs.nilCheck rfl rfl) ?_
  refine Zf 0 Tryz.underlying129 ?_
  refine Zm ?_
  refine Zc (Ze Tryz.func82) ((writeS_both B g (bindT e.op).1 bs0 _ wr b2 (by omega)).1) ?_
  clear wr
  rintro e w3 ⟨⟨_,rfl⟩,fw3,wr⟩
  refine⟨_,rfl,?_⟩
  replace wt:=wt.wt fw3
  replace k3:=k3.wt fw3
  replace k4:=k4.wt fw3
  refine Zk14 3 4 6 7 8 28 56 65 74 82 88 92 96 100 (Zt ?_)
  refine Cd.draw 5 (by kernel_rfl) [] (.inl rfl) rfl Grow Grow.refl (fun _ _ _=>Grow.trans) ?_
  intro w4 hw4 zw4
  replace wt:=wt.step hw4
  replace wr:=wr.step hw4
  replace k3:=k3.step hw4
  replace k4:=k4.step hw4
  have zlt:=k4.lt
  refine Zd (fun w hG=>Runs.loadB rfl rfl Tryz.underlying83 rfl (k3.step hG) rfl) ?_
  refine Zd (fun w hG=>Runs.fieldB 3 rfl rfl Tryz.underlying35 rfl (by kernel_rfl)) ?_
  refine Zd (fun w hG=>Runs.loadB rfl rfl Tryz.underlying22 rfl (k4.step hG) rfl) ?_
  refine Zd (fun w hG=>Runs.indexN rfl rfl rfl Tryz.underlying22 (s:=4) (by kernel_rfl) (j:=0) rfl (by omega)) ?_
  refine Zd (fun w hG=>Runs.loadF (ps:=[.int .i64 x.op, .int .i64 x.n, .string (strOf x.name), .slice A0 x.args.length A0']) rfl rfl Tryz.underlying35 rfl (m:=4) (by kernel_rfl) rfl (hcx _ ((wt.to hBW).trans (hG.mono wr.size)))) ?_
  refine Dr.nil ?_
  refine FinX.done (F':=[(3,_),(4,_),(6,_),(7,_),(8,_),(28,_),(56,_),(65,_),(74,_),(82,_),(88,_),(92,_),(96,_),(100,_),(108,_),(112,_)]) rfl ⟨rfl,rfl,rfl,rfl,rfl,rfl,rfl,rfl,rfl,rfl,rfl,rfl,rfl,rfl,rfl,rfl,trivial⟩ ?_
  intro w5 hw5 fw5
  replace wt:=wt.step hw5
  replace wr:=wr.step hw5
  replace k3:=k3.step hw5
  replace k4:=k4.step hw5
  refine Zc (Ze Tryz.func40) (hcallx _ _ 6 (wt.to hBW) wr (by unfold I64;omega) (by rw[List.length_append];omega)) ?_
  clear wr
  rintro e w6 ⟨⟨_,rfl⟩,fw6,wr⟩
  refine⟨_,rfl,?_⟩
  replace wt:=wt.wt fw6
  refine Zk14 3 4 6 7 8 28 56 65 74 82 88 92 96 100 (Post.block_normal ?_)
  refine Post.weak (F':=[]) trivial ?_
  exact hend _ _ (.inr rfl) wt (by rw[hT];simpa only[List.append_assoc,inT] using wr)
 refine Zr ?_
 refine Zv (Runs.eqlI rfl rfl rfl) ?_
 refine Za ?_
 refine Zk14 3 4 6 7 8 28 56 65 74 82 88 92 96 100 (Zt ?_)
 refine Cd.condD rfl (fun c20=> ?_) (fun c20=> ?_)
 ·skip
  have hb:(bindT e.op).2=6:=by rw[c20];rfl
  have hlen1:e.args.length=1:=o5 (by omega)
  obtain⟨x,hx⟩:∃x,e.args=[x]:=List.length_eq_one_iff.1 hlen1
  obtain⟨ad,A0,A0',rfl,hcx,hcallx⟩:=hrec 0 x (by rw[hx];rfl)
  rw[if_pos hb,hx,show([x].map pairT).getD 0 (7,[])=pairT x from rfl] at hT
  refine Zsr ?_
  refine Zv (Runs.loadB rfl rfl Tryz.underlying83 rfl k3 rfl) ?_
  refine Zv (Runs.nilCheck rfl rfl) ?_
  refine Zf 0 Tryz.underlying129 ?_
  refine Zm ?_
  refine Zc (Ze Tryz.func82) ((writeS_both B g (bindT e.op).1 bs0 _ wr b2 (by omega)).1) ?_
  clear wr
  rintro e w3 ⟨⟨_,rfl⟩,fw3,wr⟩
  refine⟨_,rfl,?_⟩
  replace wt:=wt.wt fw3
  replace k3:=k3.wt fw3
  replace k4:=k4.wt fw3
  refine Zk14 3 4 6 7 8 28 56 65 74 82 88 92 96 100 (Zt ?_)
  refine Cd.draw 5 (by kernel_rfl) [] (.inl rfl) rfl Grow Grow.refl (fun _ _ _=>Grow.trans) ?_
  intro w4 hw4 zw4
  replace wt:=wt.step hw4
  replace wr:=wr.step hw4
  replace k3:=k3.step hw4
  replace k4:=k4.step hw4
  have zlt:=k4.lt
  refine Zd (fun w hG=>Runs.loadB rfl rfl Tryz.underlying83 rfl (k3.step hG) rfl) ?_
  refine Zd (fun w hG=>Runs.fieldB 3 rfl rfl Tryz.underlying35 rfl (by kernel_rfl)) ?_
  refine Zd (fun w hG=>Runs.loadB rfl rfl Tryz.underlying22 rfl (k4.step hG) rfl) ?_
  refine Zd (fun w hG=>Runs.indexN rfl rfl rfl Tryz.underlying22 (s:=4) (by kernel_rfl) (j:=0) rfl (by omega)) ?_
  refine Zd (fun w hG=>Runs.loadF (ps:=[.int .i64 x.op, .int .i64 x.n, .string (strOf x.name), .slice A0 x.args.length A0']) rfl rfl Tryz.underlying35 rfl (m:=4) (by kernel_rfl) rfl (hcx _ ((wt.to hBW).trans (hG.mono wr.size)))) ?_
  refine Dr.nil ?_
  refine FinX.done (F':=[(3,_),(4,_),(6,_),(7,_),(8,_),(28,_),(56,_),(65,_),(74,_),(82,_),(88,_),(92,_),(96,_),(100,_),(108,_),(112,_)]) rfl ⟨rfl,rfl,rfl,rfl,rfl,rfl,rfl,rfl,rfl,rfl,rfl,rfl,rfl,rfl,rfl,rfl,trivial⟩ ?_
  intro w5 hw5 fw5
  replace wt:=wt.step hw5
  replace wr:=wr.step hw5
  replace k3:=k3.step hw5
  replace k4:=k4.step hw5
  refine Zc (Ze Tryz.func40) (hcallx _ _ 6 (wt.to hBW) wr (by unfold I64;omega) (by rw[List.length_append];omega)) ?_
  clear wr
  rintro e w6 ⟨⟨_,rfl⟩,fw6,wr⟩
  refine⟨_,rfl,?_⟩
  replace wt:=wt.wt fw6
  refine Zk14 3 4 6 7 8 28 56 65 74 82 88 92 96 100 (Post.block_normal ?_)
  refine Post.weak (F':=[]) trivial ?_
  exact hend _ _ (.inr rfl) wt (by rw[hT];simpa only[List.append_assoc,inT] using wr)
 have hop:e.op=5∨e.op=6∨e.op=7∨e.op=8∨e.op=11∨e.op=12∨e.op=13∨e.op=14∨e.op=15∨e.op=16∨e.op=17∨e.op=18:=by omega
 have hp:(bindT e.op).2<6:=by rcases hop with h|h|h|h|h|h|h|h|h|h|h|h<;>rw[h]<;>decide
 have hlen2:e.args.length=2:=o4 (by omega) (by omega)
 obtain⟨x,y,hxy⟩:∃x y,e.args=[x,y]:=by
  cases h:e.args with
  |nil=>rw[h] at hlen2;simp at hlen2
  |cons x r=>cases r with
   |nil=>rw[h] at hlen2;simp at hlen2
   |cons y r=>cases r with
    |nil=>exact⟨x,y,rfl⟩
    |cons z r=>rw[h] at hlen2;simp at hlen2
 obtain⟨ad,A0,A0',rfl,hcx,hcallx⟩:=hrec 0 x (by rw[hxy];rfl)
 obtain⟨ad',A1,A1',had,hcy,hcally⟩:=hrec 1 y (by rw[hxy];rfl)
 injection had with had
 subst had
 have hil:∀l,(inT x l).length≤20000:=fun l=>by
  have h1:=(parT_len l (pairT x)).1
  have e1:(pairT x).2=exprT x:=rfl
  have h2:=(exprT_bd x.nodes x (Nat.le_refl _) (hargs x (by rw[hxy];exact List.mem_cons_self))).1
  have h3:x.nodes<e.nodes:=Ex.arg_nodes (by rw[hxy];exact List.mem_cons_self)
  rw[e1] at h1
  unfold inT
  omega
 rw[if_neg (by omega),hxy,show([x,y].map pairT).getD 0 (7,[])=pairT x from rfl,show([x,y].map pairT).getD 1 (7,[])=pairT y from rfl] at hT
 refine Zsr ?_
 refine Zm ?_
 refine Za ?_
 refine Zk15 3 4 6 7 8 9 28 56 65 74 82 88 92 96 100 (Zts (Zsr ?_))
 refine Zm ?_
 refine Zv (Runs.eqlI rfl rfl rfl) ?_
 refine Zk16 3 4 6 7 8 9 28 31 56 65 74 82 88 92 96 100 (Zt ?_)
 refine Cd.condD rfl (fun c3'=> ?_) (fun c3'=> ?_)
 ·rw[if_pos c3',show(4:Int)=(bindT e.op).2+1 by omega] at hT
  refine Zr ?_
  refine Zm ?_
  refine Za_ ?_
  refine Za ?_
  refine Zk16 3 4 6 7 8 9 28 31 56 65 74 82 88 92 96 100 (Zts ?_)
  refine Cd.draw 6 (by kernel_rfl) [] (.inl rfl) rfl Grow Grow.refl (fun _ _ _=>Grow.trans) ?_
  intro w3 hw3 zw3
  replace wt:=wt.step hw3
  replace wr:=wr.step hw3
  replace k3:=k3.step hw3
  replace k4:=k4.step hw3
  have zlt:=k4.lt
  refine Zd (fun w hG=>Runs.loadB rfl rfl Tryz.underlying83 rfl (k3.step hG) rfl) ?_
  refine Zd (fun w hG=>Runs.fieldB 3 rfl rfl Tryz.underlying35 rfl (by kernel_rfl)) ?_
  refine Zd (fun w hG=>Runs.loadB rfl rfl Tryz.underlying22 rfl (k4.step hG) rfl) ?_
  refine Zd (fun w hG=>Runs.indexN rfl rfl rfl Tryz.underlying22 (s:=4) (by kernel_rfl) (j:=0) rfl (by omega)) ?_
  refine Zd (fun w hG=>Runs.loadF (ps:=[.int .i64 x.op, .int .i64 x.n, .string (strOf x.name), .slice A0 x.args.length A0']) rfl rfl Tryz.underlying35 rfl (m:=4) (by kernel_rfl) rfl (hcx _ ((wt.to hBW).trans (hG.mono wr.size)))) ?_
  refine Zdm ?_
  refine Dr.nil ?_
  refine FinX.done (F':=[(3,_),(4,_),(6,_),(7,_),(8,_),(9,_),(28,_),(31,_),(34,_),(38,_),(39,_),(56,_),(65,_),(74,_),(82,_),(88,_),(92,_),(96,_),(100,_)]) rfl ⟨rfl,rfl,rfl,rfl,rfl,rfl,rfl,rfl,rfl,rfl,rfl,rfl,rfl,rfl,rfl,rfl,rfl,rfl,rfl,trivial⟩ ?_
  intro w4 hw4 fw4
  replace wt:=wt.step hw4
  replace wr:=wr.step hw4
  replace k3:=k3.step hw4
  replace k4:=k4.step hw4
  refine Zc (Ze Tryz.func40) (hcallx _ _ ((bindT e.op).2+1) (wt.to hBW) wr (by unfold I64;omega) (by omega)) ?_
  clear wr
  rintro e w5 ⟨⟨_,rfl⟩,fw5,wr⟩
  refine⟨_,rfl,?_⟩
  replace wt:=wt.wt fw5
  replace k3:=k3.wt fw5
  replace k4:=k4.wt fw5
  refine Zk16 3 4 6 7 8 9 28 31 56 65 74 82 88 92 96 100 (Ztq ?_)
  refine Zv (Runs.loadB rfl rfl Tryz.underlying83 rfl k3 rfl) ?_
  refine Zv (Runs.nilCheck rfl rfl) ?_
  refine Zf 0 Tryz.underlying129 ?_
  refine Zm ?_
  refine Zv (Runs.addL (a:=[32]) rfl rfl rfl (by simp only[List.length_cons,List.length_nil];omega)) ?_
  refine Zv (Runs.addL (b:=[32]) rfl rfl rfl (by simp only[List.length_append,List.length_cons,List.length_nil];omega)) ?_
  have i0:=hil ((bindT e.op).2+1)
  refine Zc (Ze Tryz.func82) ((writeS_both B g ([32]++(bindT e.op).1++[32]) _ _ wr (bt3 (by decide) b2 (by decide)) (by simp only[List.length_append,List.length_cons,List.length_nil];omega)).1) ?_
  clear wr
  rintro e w6 ⟨⟨_,rfl⟩,fw6,wr⟩
  refine⟨_,rfl,?_⟩
  replace wt:=wt.wt fw6
  replace k3:=k3.wt fw6
  replace k4:=k4.wt fw6
  refine Zk16 3 4 6 7 8 9 28 31 56 65 74 82 88 92 96 100 (Zt ?_)
  refine Cd.draw 7 (by kernel_rfl) [] (.inl rfl) rfl Grow Grow.refl (fun _ _ _=>Grow.trans) ?_
  intro w7 hw7 zw7
  replace wt:=wt.step hw7
  replace wr:=wr.step hw7
  replace k3:=k3.step hw7
  replace k4:=k4.step hw7
  have zlt:=k4.lt
  refine Zd (fun w hG=>Runs.loadB rfl rfl Tryz.underlying83 rfl (k3.step hG) rfl) ?_
  refine Zd (fun w hG=>Runs.fieldB 3 rfl rfl Tryz.underlying35 rfl (by kernel_rfl)) ?_
  refine Zd (fun w hG=>Runs.loadB rfl rfl Tryz.underlying22 rfl (k4.step hG) rfl) ?_
  refine Zd (fun w hG=>Runs.indexN rfl rfl rfl Tryz.underlying22 (s:=4) (by kernel_rfl) (j:=1) rfl (by omega)) ?_
  refine Zd (fun w hG=>Runs.loadF (ps:=[.int .i64 y.op, .int .i64 y.n, .string (strOf y.name), .slice A1 y.args.length A1']) rfl rfl Tryz.underlying35 rfl (m:=4) (by kernel_rfl) rfl (hcy _ ((wt.to hBW).trans (hG.mono wr.size)))) ?_
  refine Zdm ?_
  refine Zd (fun w hG=>Runs.addI rfl rfl rfl (by omega) (by omega)) ?_
  refine Dr.nil ?_
  refine FinX.done (F':=[(3,_),(4,_),(6,_),(7,_),(8,_),(9,_),(28,_),(31,_),(48,_),(52,_),(54,_),(56,_),(65,_),(74,_),(82,_),(88,_),(92,_),(96,_),(100,_)]) rfl ⟨rfl,rfl,rfl,rfl,rfl,rfl,rfl,rfl,rfl,rfl,rfl,rfl,rfl,rfl,rfl,rfl,rfl,rfl,rfl,trivial⟩ ?_
  intro w8 hw8 fw8
  replace wt:=wt.step hw8
  replace wr:=wr.step hw8
  replace k3:=k3.step hw8
  replace k4:=k4.step hw8
  refine Zc (Ze Tryz.func40) (hcally _ _ ((bindT e.op).2+1) (wt.to hBW) wr (by unfold I64;omega) (by simp only[List.length_append,List.length_cons,List.length_nil];omega)) ?_
  clear wr
  rintro e w9 ⟨⟨_,rfl⟩,fw9,wr⟩
  refine⟨_,rfl,?_⟩
  replace wt:=wt.wt fw9
  refine Zk16 3 4 6 7 8 9 28 31 56 65 74 82 88 92 96 100 (Post.block_normal ?_)
  refine Post.weak (F':=[]) trivial ?_
  exact hend _ _ (.inr rfl) wt (by rw[hT];simpa only[List.append_assoc,inT] using wr)
 ·rw[if_neg c3',if_pos hp] at hT
  refine Cd.skip (Zts ?_)
  refine Cd.draw 6 (by kernel_rfl) [] (.inl rfl) rfl Grow Grow.refl (fun _ _ _=>Grow.trans) ?_
  intro w3 hw3 zw3
  replace wt:=wt.step hw3
  replace wr:=wr.step hw3
  replace k3:=k3.step hw3
  replace k4:=k4.step hw3
  have zlt:=k4.lt
  refine Zd (fun w hG=>Runs.loadB rfl rfl Tryz.underlying83 rfl (k3.step hG) rfl) ?_
  refine Zd (fun w hG=>Runs.fieldB 3 rfl rfl Tryz.underlying35 rfl (by kernel_rfl)) ?_
  refine Zd (fun w hG=>Runs.loadB rfl rfl Tryz.underlying22 rfl (k4.step hG) rfl) ?_
  refine Zd (fun w hG=>Runs.indexN rfl rfl rfl Tryz.underlying22 (s:=4) (by kernel_rfl) (j:=0) rfl (by omega)) ?_
  refine Zd (fun w hG=>Runs.loadF (ps:=[.int .i64 x.op, .int .i64 x.n, .string (strOf x.name), .slice A0 x.args.length A0']) rfl rfl Tryz.underlying35 rfl (m:=4) (by kernel_rfl) rfl (hcx _ ((wt.to hBW).trans (hG.mono wr.size)))) ?_
  refine Zdm ?_
  refine Dr.nil ?_
  refine FinX.done (F':=[(3,_),(4,_),(6,_),(7,_),(8,_),(9,_),(28,_),(31,_),(34,_),(38,_),(39,_),(56,_),(65,_),(74,_),(82,_),(88,_),(92,_),(96,_),(100,_)]) rfl ⟨rfl,rfl,rfl,rfl,rfl,rfl,rfl,rfl,rfl,rfl,rfl,rfl,rfl,rfl,rfl,rfl,rfl,rfl,rfl,trivial⟩ ?_
  intro w4 hw4 fw4
  replace wt:=wt.step hw4
  replace wr:=wr.step hw4
  replace k3:=k3.step hw4
  replace k4:=k4.step hw4
  refine Zc (Ze Tryz.func40) (hcallx _ _ (bindT e.op).2 (wt.to hBW) wr (by unfold I64;omega) (by omega)) ?_
  clear wr
  rintro e w5 ⟨⟨_,rfl⟩,fw5,wr⟩
  refine⟨_,rfl,?_⟩
  replace wt:=wt.wt fw5
  replace k3:=k3.wt fw5
  replace k4:=k4.wt fw5
  refine Zk16 3 4 6 7 8 9 28 31 56 65 74 82 88 92 96 100 (Ztq ?_)
  refine Zv (Runs.loadB rfl rfl Tryz.underlying83 rfl k3 rfl) ?_
  refine Zv (Runs.nilCheck rfl rfl) ?_
  refine Zf 0 Tryz.underlying129 ?_
  refine Zm ?_
  refine Zv (Runs.addL (a:=[32]) rfl rfl rfl (by simp only[List.length_cons,List.length_nil];omega)) ?_
  refine Zv (Runs.addL (b:=[32]) rfl rfl rfl (by simp only[List.length_append,List.length_cons,List.length_nil];omega)) ?_
  have i0:=hil (bindT e.op).2
  refine Zc (Ze Tryz.func82) ((writeS_both B g ([32]++(bindT e.op).1++[32]) _ _ wr (bt3 (by decide) b2 (by decide)) (by simp only[List.length_append,List.length_cons,List.length_nil];omega)).1) ?_
  clear wr
  rintro e w6 ⟨⟨_,rfl⟩,fw6,wr⟩
  refine⟨_,rfl,?_⟩
  replace wt:=wt.wt fw6
  replace k3:=k3.wt fw6
  replace k4:=k4.wt fw6
  refine Zk16 3 4 6 7 8 9 28 31 56 65 74 82 88 92 96 100 (Zt ?_)
  refine Cd.draw 7 (by kernel_rfl) [] (.inl rfl) rfl Grow Grow.refl (fun _ _ _=>Grow.trans) ?_
  intro w7 hw7 zw7
  replace wt:=wt.step hw7
  replace wr:=wr.step hw7
  replace k3:=k3.step hw7
  replace k4:=k4.step hw7
  have zlt:=k4.lt
  refine Zd (fun w hG=>Runs.loadB rfl rfl Tryz.underlying83 rfl (k3.step hG) rfl) ?_
  refine Zd (fun w hG=>Runs.fieldB 3 rfl rfl Tryz.underlying35 rfl (by kernel_rfl)) ?_
  refine Zd (fun w hG=>Runs.loadB rfl rfl Tryz.underlying22 rfl (k4.step hG) rfl) ?_
  refine Zd (fun w hG=>Runs.indexN rfl rfl rfl Tryz.underlying22 (s:=4) (by kernel_rfl) (j:=1) rfl (by omega)) ?_
  refine Zd (fun w hG=>Runs.loadF (ps:=[.int .i64 y.op, .int .i64 y.n, .string (strOf y.name), .slice A1 y.args.length A1']) rfl rfl Tryz.underlying35 rfl (m:=4) (by kernel_rfl) rfl (hcy _ ((wt.to hBW).trans (hG.mono wr.size)))) ?_
  refine Zdm ?_
  refine Zd (fun w hG=>Runs.addI rfl rfl rfl (by omega) (by omega)) ?_
  refine Dr.nil ?_
  refine FinX.done (F':=[(3,_),(4,_),(6,_),(7,_),(8,_),(9,_),(28,_),(31,_),(48,_),(52,_),(54,_),(56,_),(65,_),(74,_),(82,_),(88,_),(92,_),(96,_),(100,_)]) rfl ⟨rfl,rfl,rfl,rfl,rfl,rfl,rfl,rfl,rfl,rfl,rfl,rfl,rfl,rfl,rfl,rfl,rfl,rfl,rfl,trivial⟩ ?_
  intro w8 hw8 fw8
  replace wt:=wt.step hw8
  replace wr:=wr.step hw8
  replace k3:=k3.step hw8
  replace k4:=k4.step hw8
  refine Zc (Ze Tryz.func40) (hcally _ _ ((bindT e.op).2+1) (wt.to hBW) wr (by unfold I64;omega) (by simp only[List.length_append,List.length_cons,List.length_nil];omega)) ?_
  clear wr
  rintro e w9 ⟨⟨_,rfl⟩,fw9,wr⟩
  refine⟨_,rfl,?_⟩
  replace wt:=wt.wt fw9
  refine Zk16 3 4 6 7 8 9 28 31 56 65 74 82 88 92 96 100 (Post.block_normal ?_)
  refine Post.weak (F':=[]) trivial ?_
  exact hend _ _ (.inr rfl) wt (by rw[hT];simpa only[List.append_assoc,inT] using wr)
end Go.Proofs.YtaamkfajnpobfaaGreat
namespace Go.Proofs.YtaamkfajnpobfaaGreat
open Go.RowKit
def prText (right:Bool)(T:List Nat):List Nat × Int:=if right=false then([],1) else if 4000<T.length then([],4) else(T,0)
theorem run_build_writer (w:World):(Instr.build 129 #[]).run Tryz.prog w= .ok (.agg #[.pointer none, .slice none 0 0]) w:=by kernel_rfl
theorem printed_any (right:Bool)(T:List Nat)(f:Nat)(cp:List Value)(w:World)(eg:∀args w,(callFunc f args).run Tryz.prog w= .ok (.enter f args) w)(hTl:T.length≤1000000)
  (hw:right=true→∀W g,Below w.heap.size w W→Bw W w.heap.size g []→Calls Tryz.prog f ([]++[Value.pointer (some ⟨g,0,none⟩)]++cp).toArray W (WrRet w.heap.size g T W)):
  Calls Tryz.prog 38 #[.bool right, .func (.func f) #[] cp.toArray] w fun e w'=>e= .returned (.tuple #[.string (strOf (prText right T).1), .int .i64 (prText right T).2])∧Grow w w':=by
 have bel:=Below.refl w.heap.size w
 unfold prText
 refine Zs 23 Tryz.func38 ?_
 refine Zsr ?_
 refine Za ?_
 refine Za ?_
 refine Zk4 0 1 4 5 (Zts (Zsr ?_))
 refine Zm ?_
 refine Zv (Runs.not rfl rfl) ?_
 refine Zk5 0 1 4 5 8 (Zt ?_)
 refine Cd.cond rfl (fun hc=> ?_) (fun hc=> ?_)
 ·obtain rfl:right=false:=by simpa using hc
  refine Zsr ?_
  refine Za ?_
  refine Za ?_
  refine Zk5 0 1 4 5 8 (Zt (Cd.ret (Post.then_ret ?_)))
  refine Post.end2 rfl rfl rfl (.inl rfl) ?_
  exact⟨rfl,bel⟩
 ·obtain rfl:right=true:=by simpa using hc
  have hw:=hw rfl
  refine Cd.skip (Ztq ?_)
  refine Zv (Runs.build rfl rfl (run_build_writer _)) ?_
  refine Seq.box rfl rfl rfl rfl rfl ?_
  intro g10 w1 n10
  have e10:=Nat.le_trans bel.size n10.ge
  replace bel:=bel.step n10.below
  have k10:=n10.blk
  refine Za ?_
  refine Zk6 0 1 4 5 6 8 (Ztq ?_)
  refine Zm ?_
  refine Zm ?_
  have wr:Bw _ w.heap.size g10 []:=⟨e10,fun d hd=>(by cases hd),_,_, .inl rfl,k10,Own.nil _ _ _ _,fun _=>rfl⟩
  have wt:=Wt.grow (B:=w.heap.size) bel
  refine Seq.call (Enters.value (first:=[]) rfl rfl rfl eg) rfl rfl rfl (hw _ g10 bel wr) ?_
  clear wr
  rintro en w9 ⟨⟨_,rfl⟩,f9,wr⟩
  refine⟨_,rfl,?_⟩
  replace wt:=wt.wt f9
  refine Zk6 0 1 4 5 6 8 (Zts (Zsr ?_))
  refine Zm ?_
  refine Zv (Runs.nilCheck rfl rfl) ?_
  refine Zf 0 Tryz.underlying129 ?_
  have hBw:=wr.size
  refine Zc (Ze Tryz.func79) (blen_any w.heap.size g10 _ _ wr) ?_
  rintro en w10 ⟨rfl,hb10⟩
  refine⟨_,rfl,?_⟩
  replace wt:=wt.step hb10
  replace wr:=wr.step hb10
  refine Zv (Runs.gtr rfl rfl rfl) ?_
  refine Zk7 0 1 4 5 6 8 18 (Zt ?_)
  refine Cd.condD rfl (fun hc=> ?_) (fun hc=> ?_)
  ·skip
   refine Zsr ?_
   refine Za ?_
   refine Za ?_
   refine Zk7 0 1 4 5 6 8 18 (Zt (Cd.ret (Post.then_ret ?_)))
   refine Post.end2 rfl rfl rfl (.inl rfl) ?_
   rw[if_neg (by decide),if_pos (by omega)]
   exact⟨rfl,wt.to (Nat.le_refl _)⟩
  ·skip
   refine Cd.skip (Ztq ?_)
   refine Zm ?_
   refine Zv (Runs.nilCheck rfl rfl) ?_
   refine Zf 0 Tryz.underlying129 ?_
   refine Zc (Ze Tryz.func80) (bstring_any w.heap.size g10 _ _ wr (by omega)) ?_
   rintro en w11 ⟨rfl,hb11⟩
   refine⟨_,rfl,?_⟩
   have hfin:=(wt.to (Nat.le_refl _)).trans hb11
   refine Za ?_
   refine Za ?_
   refine Zk7 0 1 4 5 6 8 18 (Zt (Cd.ret ?_))
   refine Post.end2 rfl rfl rfl (.inl rfl) ?_
   rw[if_neg (by decide),if_neg (by omega)]
   exact⟨by simp,hfin⟩
theorem exprCall_of (e:Ex)(A:Option Addr)(B g g1 c:Nat)(w W:World)(hbt:builtB e=true)(h200:e.nodes≤200)(hrep:Rep w B (e) (.agg #[.int .i64 e.op, .int .i64 e.n, .string (strOf e.name), .slice A e.args.length c])) (hb:Below B w W) (k1:Blk W g1 35 #[.int .i64 e.op, .int .i64 e.n, .string (strOf e.name), .slice A e.args.length c]) (wr:Bw W B g []):
  Calls Tryz.prog 39 #[.pointer (some ⟨g,0,none⟩), .pointer (some ⟨g1,0,none⟩)] W (WrRet B g (exprT e) W):=by
 have hdn:=e.depth_nodes
 have hex:=exprW_any e.nodes e B g [] _ 1 W (Nat.le_refl _) h200 hbt (hrep.below hb) wr (by unfold I64;omega) (by simp only[List.length_nil];omega)
 rw[inT_one,List.nil_append] at hex
 have wt:=Wt.refl B W
 refine Zs 6 Tryz.func39 ?_
 refine Zr ?_
 refine Zm ?_
 refine Zv (Runs.loadW rfl rfl Tryz.underlying35 rfl k1 (m:=4) (by kernel_rfl) rfl) ?_
 refine Zc (Ze Tryz.func40) (hex) ?_
 clear wr
 rintro e w1 ⟨⟨_,rfl⟩,fw1,wr⟩
 refine⟨_,rfl,?_⟩
 replace wt:=wt.wt fw1
 refine Zk2 0 1 ?_
 refine Post.end0 rfl (.inr rfl) ?_
 exact⟨⟨_,rfl⟩,wt,wr⟩
theorem eg_expr1:∀args w,(callFunc 39 args).run Tryz.prog w= .ok (.enter 39 args) w:=fun args w=>run_enter Tryz.func39 (by kernel_rfl) rfl args w
def printE (e:Ex):List Nat × Int:=prText (rightB e) (exprT e)
theorem printExpr_any (e:Ex)(v:Value)(w:World)(hd:e.depth≤900)(hrep:Rep w w.heap.size e v):Calls Tryz.prog 18 #[v] w fun en w'=>en= .returned (.tuple #[.string (strOf (printE e).1), .int .i64 (printE e).2])∧Grow w w':=by
 obtain⟨A,c,rfl,hv⟩:=hrep.open
 have bel:=Below.refl w.heap.size w
 have hpr:printE e=prText (rightB e) (if rightB e=true then exprT e else []):=by
  unfold printE prText
  cases rightB e<;>rfl
 rw[hpr]
 have hre:∀W,Below w.heap.size w W→Calls Tryz.prog 32 #[.agg #[.int .i64 e.op, .int .i64 e.n, .string (strOf e.name), .slice A e.args.length c]] W fun en w'=>en= .returned (.bool (rightB e))∧Grow W w':=fun W hb=>rightExpr_any e w.heap.size _ W hd (hrep.below hb) hb.size
 have hTl:(if rightB e=true then exprT e else []).length≤1000000:=by
  split
  ·rename_i h
   unfold rightB at h
   simp at h
   have:=(exprT_bd e.nodes e (Nat.le_refl _) h.2).1
   omega
  ·simp
 refine Zs 10 Tryz.func18 ?_
 refine Zsr ?_
 refine Seq.box rfl rfl rfl rfl rfl ?_
 intro g1 w1 n1
 have e1:=Nat.le_trans bel.size n1.ge
 replace bel:=bel.step n1.below
 have k1:=n1.blk
 refine Za ?_
 refine Za ?_
 refine Zk4 0 1 2 3 (Ztq ?_)
 refine Zv (Runs.loadW rfl rfl Tryz.underlying35 rfl k1 (m:=4) (by kernel_rfl) rfl) ?_
 refine Zc (Ze Tryz.func32) (hre _ bel) ?_
 rintro en w5 ⟨rfl,hb5⟩
 refine⟨_,rfl,?_⟩
 replace bel:=bel.step hb5
 replace k1:=k1.step hb5
 refine Zv (Runs.makeFunc (v:= .func (.func 39) #[] #[.pointer (some ⟨g1,0,none⟩)]) rfl (show evL _ _=some [] from rfl) (show evL _ _=some [.pointer (some ⟨g1,0,none⟩)] from rfl) rfl) ?_
 refine Zc (Ze Tryz.func38) (printed_any (rightB e) (if rightB e=true then exprT e else []) 39 [.pointer (some ⟨g1,0,none⟩)] _ eg_expr1 hTl (fun hr W g hb hw=>by rw[if_pos hr];unfold rightB at hr;simp at hr;exact exprCall_of e A _ g g1 c _ W hr.2 hr.1.1 ((hrep.below bel).more bel.size) hb (k1.step hb) hw)) ?_
 rintro en w6 ⟨rfl,hb6⟩
 refine⟨_,rfl,?_⟩
 replace bel:=bel.step hb6
 replace k1:=k1.step hb6
 refine Zv (Runs.extract rfl rfl rfl) ?_
 refine Zv (Runs.extract rfl rfl rfl) ?_
 refine Za ?_
 refine Za ?_
 refine Zk4 0 1 2 3 (Zt (Cd.ret ?_))
 refine Post.end2 rfl rfl rfl (.inl rfl) ?_
 exact⟨rfl,bel⟩
end Go.Proofs.YtaamkfajnpobfaaGreat
namespace Go.Proofs.YtaamkfajnpobfaaGreat
open Go.RowKit
theorem great_any (n c:Nat)(A:Option Addr)(w:World):Calls Tryz.prog 14 #[.slice A n c, .slice none 0 0] w fun e w'=>e= .returned (.bool (decide (60<n)))∧Grow w w':=by
 have bel:=Below.refl w.heap.size w
 refine Zs 13 Tryz.func14 ?_
 refine Zsr ?_
 refine Za ?_
 refine Zk3 0 1 4 (Ztq ?_)
 refine Zm ?_
 refine Zv (Runs.len rfl rfl Tryz.underlying41) ?_
 refine Zv (Runs.gtr rfl rfl rfl) ?_
 refine Zm ?_
 refine SeqC.start ?_
 refine Zco (fun hcx=>Runs.move rfl rfl) ?_
 refine SeqC.next rfl rfl rfl rfl rfl rfl rfl (fun hcx=>Runs.len rfl rfl Tryz.underlying54) ?_
 refine SeqC.next rfl rfl rfl rfl rfl rfl rfl (fun hcx=>Runs.gtr rfl rfl rfl) ?_
 refine SeqC.or rfl rfl rfl rfl rfl rfl rfl ?_
 refine Za ?_
 refine Zk3 0 1 4 (Zt (Cd.ret ?_))
 refine Post.end1 rfl rfl (.inl rfl) ?_
 exact⟨ret1 (bool_eq (by cases h:decide (60<n)<;>simp at h⊢ <;>omega)),bel⟩
theorem Rep.two {w:World}{g:Nat}{o:Int}{a b:Ex}{va vb:Value}{cs:Array Value}(k:Blk w g 35 cs)(hcs:cs.toList=flatC [va,vb])(ho:I64 o)(ha:Rep w w.heap.size a va)(hb:Rep w w.heap.size b vb):
  Rep w w.heap.size (.mk o 0 [] [a,b]) (.agg #[.int .i64 o, .int .i64 0, .string (strOf []), .slice (some ⟨g,0,none⟩) 2 2]):=by
 refine RepE.mk (args:=[a,b]) (vs:=[va,vb]) rfl (by simp) ho (by unfold I64;omega) (by simp) (by simp) (fun i e v he hv=> ?_) fun _=> ?_
 ·match i,he,hv with
  |0,he,hv=>injection he with he;injection hv with hv;subst he hv;exact ha
  |1,he,hv=>injection he with he;injection hv with hv;subst he hv;exact hb
  |i+2,he,hv=>cases he
 ·refine⟨⟨g,0,none⟩,rfl,k.lt,fun j u hu=> ?_⟩
  rw[←hcs] at hu
  have hadd:(⟨g,0,none⟩:Addr).add j=⟨g,j,none⟩:=by unfold Addr.add;split<;>simp_all
  rw[hadd,k.cell j]
  simpa using hu
theorem Rep.const (w:World)(o z:Int)(B:Nat)(ho:I64 o)(hz:I64 z):Rep w B (.mk o z [] []) (.agg #[.int .i64 o, .int .i64 z, .string (strOf []), .slice none 0 0]):=
 RepE.mk (args:=[]) (vs:=[]) rfl (by decide) ho hz (by simp) (by simp) (fun i e v he=>by cases he) fun h=>absurd rfl h
def cE (z:Int):Ex:= .mk 1 z [] []
def sE (a b:Ex):Ex:= .mk 6 0 [] [a,b]
theorem print_a:printE (sE (sE (cE 1) (cE 2)) (cE 3))=([49,32,45,32,50,32,45,32,51],0):=by decide+kernel
theorem print_b:printE (sE (cE 3) (sE (cE 1) (cE 2)))=([51,32,45,32,40,49,32,45,32,50,41],0):=by decide+kernel
theorem depth_a:(sE (sE (cE 1) (cE 2)) (cE 3)).depth≤900:=by decide+kernel
theorem depth_b:(sE (cE 3) (sE (cE 1) (cE 2))).depth≤900:=by decide+kernel
theorem run_build_c (a b:Int)(w:World):(Instr.build 35 #[(0, .int .i64 a),(1, .int .i64 b)]).run Tryz.prog w= .ok (.agg #[.int .i64 a, .int .i64 b, .string (strOf []), .slice none 0 0]) w:=by
 have hu:=Tryz.underlying35
 go_simp
 rfl
theorem run_build_s (a:Int)(g:Nat)(w:World):(Instr.build 35 #[(0, .int .i64 a),(3, .slice (some ⟨g,0,none⟩) 2 2)]).run Tryz.prog w= .ok (.agg #[.int .i64 a, .int .i64 0, .string (strOf []), .slice (some ⟨g,0,none⟩) 2 2]) w:=by
 have hu:=Tryz.underlying35
 go_simp
 rfl
theorem Rep.step {w w':World}{e:Ex}{v:Value}(h:Rep w w.heap.size e v)(hb:Below w.heap.size w w'):Rep w' w'.heap.size e v:=(h.below hb).more hb.size
theorem awake20_any (w:World):Calls Tryz.prog 15 #[] w fun e w'=>e= .returned (.bool true)∧Grow w w':=by
 have bel:=Below.refl w.heap.size w
 refine Zs 41 Tryz.func15 ?_
 refine Zsr ?_
 refine Za ?_
 refine Zk1 0 (Ztq ?_)
 refine Zv (Runs.build rfl rfl (run_build_c 1 1 _)) ?_
 refine Zv (Runs.build rfl rfl (run_build_c 1 2 _)) ?_
 refine Seq.slice (vs:=[_,_]) (s:=4) rfl rfl rfl Tryz.underlying22 (by kernel_rfl) (zero_api_Expr) (by omega) (by omega) ⟨rfl,rfl,trivial⟩ rfl rfl rfl ?_
 intro g8 w1 n8
 have e8:=Nat.le_trans bel.size n8.ge
 replace bel:=bel.step n8.below
 have k8:=n8.blk
 refine Za ?_
 refine Zk2 0 1 (Ztq ?_)
 refine Zm ?_
 have r1:∀W z,I64 z→Rep W W.heap.size (cE z) (.agg #[.int .i64 1, .int .i64 z, .string (strOf []), .slice none 0 0]):=fun W z hz=>Rep.const W 1 z _ (by unfold I64;omega) hz
 have i1:I64 1:=by unfold I64;omega
 have i2:I64 2:=by unfold I64;omega
 have i3:I64 3:=by unfold I64;omega
 have i6:I64 6:=by unfold I64;omega
 have hab:Rep _ _ (sE (cE 1) (cE 2)) _:=Rep.two k8 rfl i6 (r1 _ 1 i1) (r1 _ 2 i2)
 refine Zv (Runs.build rfl rfl (run_build_s 6 g8 _)) ?_
 refine Zv (Runs.build rfl rfl (run_build_c 1 3 _)) ?_
 refine Seq.slice (vs:=[_,_]) (s:=4) rfl rfl rfl Tryz.underlying22 (by kernel_rfl) (zero_api_Expr) (by omega) (by omega) ⟨rfl,rfl,trivial⟩ rfl rfl rfl ?_
 intro g13 w2 n13
 have e13:=Nat.le_trans bel.size n13.ge
 replace bel:=bel.step n13.below
 replace hab:=hab.step n13.below
 have k13:=n13.blk
 refine Zv (Runs.build rfl rfl (run_build_s 6 g13 _)) ?_
 have ha:=printExpr_any _ _ _ depth_a (Rep.two k13 rfl i6 hab (r1 _ 3 i3))
 rw[print_a] at ha
 refine Zc (Ze Tryz.func18) (ha) ?_
 rintro en w5 ⟨rfl,hb5⟩
 refine⟨_,rfl,?_⟩
 replace bel:=bel.step hb5
 replace hab:=hab.step hb5
 refine Zm ?_
 refine Zv (Runs.extract rfl rfl rfl) ?_
 refine Zv (Runs.extract rfl rfl rfl) ?_
 refine Za ?_
 refine Za ?_
 refine Zk4 0 1 2 3 (Ztq ?_)
 refine Zv (Runs.build rfl rfl (run_build_c 1 3 _)) ?_
 refine Zm ?_
 refine Zv (Runs.build rfl rfl (run_build_s 6 g8 _)) ?_
 refine Seq.slice (vs:=[_,_]) (s:=4) rfl rfl rfl Tryz.underlying22 (by kernel_rfl) (zero_api_Expr) (by omega) (by omega) ⟨rfl,rfl,trivial⟩ rfl rfl rfl ?_
 intro g22 w3 n22
 have e22:=Nat.le_trans bel.size n22.ge
 replace bel:=bel.step n22.below
 replace hab:=hab.step n22.below
 have k22:=n22.blk
 refine Zv (Runs.build rfl rfl (run_build_s 6 g22 _)) ?_
 have hb:=printExpr_any _ _ _ depth_b (Rep.two k22 rfl i6 (r1 _ 3 i3) hab)
 rw[print_b] at hb
 refine Zc (Ze Tryz.func18) (hb) ?_
 rintro en w6 ⟨rfl,hb6⟩
 refine⟨_,rfl,?_⟩
 replace bel:=bel.step hb6
 replace hab:=hab.step hb6
 refine Zm ?_
 refine Zv (Runs.extract rfl rfl rfl) ?_
 refine Zv (Runs.extract rfl rfl rfl) ?_
 refine Za ?_
 refine Za ?_
 refine Zk6 0 1 2 3 4 5 (Ztq ?_)
 refine Zm ?_
 refine Zv (Runs.eqlI rfl rfl rfl) ?_
 refine Zm ?_
 refine SeqC.start ?_
 refine Zco (fun hcx=>Runs.move rfl rfl) ?_
 refine SeqC.next rfl rfl rfl rfl rfl rfl rfl (fun hcx=>Runs.eqlS rfl rfl rfl) ?_
 refine SeqC.and rfl rfl rfl rfl rfl rfl rfl ?_
 refine Zm ?_
 refine SeqC.start ?_
 refine Zco (fun hcx=>Runs.move rfl rfl) ?_
 refine SeqC.next rfl rfl rfl rfl rfl rfl rfl (fun hcx=>Runs.eqlI rfl rfl rfl) ?_
 refine SeqC.and rfl rfl rfl rfl rfl rfl rfl ?_
 refine Zm ?_
 refine SeqC.start ?_
 refine Zco (fun hcx=>Runs.move rfl rfl) ?_
 refine SeqC.next rfl rfl rfl rfl rfl rfl rfl (fun hcx=>Runs.eqlS rfl rfl rfl) ?_
 refine SeqC.and rfl rfl rfl rfl rfl rfl rfl ?_
 refine Za ?_
 refine Zk6 0 1 2 3 4 5 (Zt (Cd.ret ?_))
 refine Post.end1 rfl rfl (.inl rfl) ?_
 have e1:strOf [49,32,45,32,50,32,45,32,51]= {data:= #[49,32,45,32,50,32,45,32,51]}:=rfl
 have e2:strOf [51,32,45,32,40,49,32,45,32,50,41]= {data:= #[51,32,45,32,40,49,32,45,32,50,41]}:=rfl
 exact⟨ret1 (bool_eq (by simp[e1,e2])),bel⟩
end Go.Proofs.YtaamkfajnpobfaaGreat
namespace Go.Proofs.YtaamkfajnpobfaaGreat
open Go.RowKit
inductive Tm where
 |mk (op:Int) (name:List Nat) (exprs:List Ex) (terms:List Tm)
def Tm.op:Tm→Int| .mk op _ _ _=>op
def Tm.name:Tm→List Nat| .mk _ nm _ _=>nm
def Tm.exprs:Tm→List Ex| .mk _ _ l _=>l
def Tm.terms:Tm→List Tm| .mk _ _ _ l=>l
mutual
def Tm.nodes:Tm→Nat
 | .mk _ _ es l=>1+nodesL es+nodesM l
def nodesM:List Tm→Nat
 | []=>0
 |e::r=>e.nodes+nodesM r
end
mutual
def Tm.depth:Tm→Nat
 | .mk _ _ es l=>1+max (depthL es) (depthM l)
def depthM:List Tm→Nat
 | []=>0
 |e::r=>max e.depth (depthM r)
end
theorem Tm.nodes_mk (op:Int)(nm:List Nat)(es:List Ex)(l:List Tm):(Tm.mk op nm es l).nodes=1+nodesL es+nodesM l:=by rw[Tm.nodes]
theorem Tm.depth_mk (op:Int)(nm:List Nat)(es:List Ex)(l:List Tm):(Tm.mk op nm es l).depth=1+max (depthL es) (depthM l):=by rw[Tm.depth]
theorem Tm.nodes_eq (t:Tm):t.nodes=1+nodesL t.exprs+nodesM t.terms:=by cases t;exact Tm.nodes_mk _ _ _ _
theorem Tm.depth_eq (t:Tm):t.depth=1+max (depthL t.exprs) (depthM t.terms):=by cases t;exact Tm.depth_mk _ _ _ _
theorem Tm.nodes_pos (t:Tm):0<t.nodes:=by have:=t.nodes_eq;omega
mutual
theorem Tm.depth_nodes:∀t:Tm,t.depth≤t.nodes
 | .mk _ _ es l=>by unfold Tm.depth Tm.nodes;have:=depthM_nodesM l;have:=depthL_nodesL es;omega
theorem depthM_nodesM:∀l:List Tm,depthM l≤nodesM l
 | []=>Nat.le_refl _
 |e::r=>by unfold depthM nodesM;have:=Tm.depth_nodes e;have:=depthM_nodesM r;omega
end
inductive RepT (w:World)(S:Nat→Prop):Tm→Value→Prop
 |mk {op:Int} {nm:List Nat} {es:List Ex} {ts:List Tm} {A A':Option Addr} {c c':Nat} {vs us:List Value} (hl:vs.length=es.length) (hl':us.length=ts.length) (h60:es.length≤1000) (h60':ts.length≤1000) (hop:I64 op) (hnm:∀d∈nm,d<256) (hnl:nm.length≤9223372036854775807)
   (hr:∀(i:Nat) (e:Ex) (v:Value),es[i]? =some e→vs[i]? =some v→RepE w S e v) (hr':∀(i:Nat) (t:Tm) (v:Value),ts[i]? =some t→us[i]? =some v→RepT w S t v) (hA:Rows w S A (flatC vs)) (hA':Rows w S A' (flatC us)):RepT w S (.mk op nm es ts) (.agg #[.int .i64 op, .string (strOf nm), .slice A es.length c, .slice A' ts.length c'])
theorem Rows.mono {w w':World}{S S':Nat→Prop}{A:Option Addr}{xs:List Value}(h:Rows w S A xs)(hS:∀b,S b→S' b)(hc:∀p:Addr,S p.block→w'.cell? p=w.cell? p):Rows w' S' A xs:=fun hne=>by
 obtain⟨ad,e1,e2,e3⟩:=h hne
 exact⟨ad,e1,hS _ e2,fun j u hu=>(hc _ (by rw[block_of_add];exact e2)).trans (e3 j u hu)⟩
theorem RepT.mono {w w':World}{S S':Nat→Prop}{t:Tm}{v:Value}(h:RepT w S t v)(hS:∀b,S b→S' b)(hc:∀p:Addr,S p.block→w'.cell? p=w.cell? p):RepT w' S' t v:=by
 induction h with
 |mk hl hl' h60 h60' hop hnm hnl hr hr' hA hA' ih=>exact .mk hl hl' h60 h60' hop hnm hnl (fun i e v he hv=>(hr i e v he hv).mono hS hc) ih (hA.mono hS hc) (hA'.mono hS hc)
def RepB (w:World)(B:Nat)(t:Tm)(v:Value):Prop:=RepT w (· <B) t v
theorem RepB.below {w w':World}{B:Nat}{t:Tm}{v:Value}(h:RepB w B t v)(hb:Below B w w'):RepB w' B t v:=RepT.mono h (fun _ h=>h) (fun _ hp=>hb.cell hp)
theorem RepB.more {w:World}{B B':Nat}{t:Tm}{v:Value}(h:RepB w B t v)(hb:B≤B'):RepB w B' t v:=RepT.mono h (fun _ h=>Nat.lt_of_lt_of_le h hb) (fun _ _=>rfl)
theorem RepB.step {w w':World}{t:Tm}{v:Value}(h:RepB w w.heap.size t v)(hb:Below w.heap.size w w'):RepB w' w'.heap.size t v:=(h.below hb).more hb.size
theorem RepT.cells4 {w:World}{S:Nat→Prop}{t:Tm}{v:Value}(h:RepT w S t v):v.cells.size=4:=by
 cases h;rfl
theorem RepT.form {w:World}{S:Nat→Prop}{t:Tm}{v:Value}(h:RepT w S t v):∃A c A' c',v= .agg #[.int .i64 t.op, .string (strOf t.name), .slice A t.exprs.length c, .slice A' t.terms.length c']:=by
 cases h;exact⟨_,_,_,_,rfl⟩
def ExAt (w:World)(B:Nat)(es:List Ex)(A:Option Addr):Prop:=∀i x,es[i]? =some x→∃ad A' c',A=some ad∧ad.block<B∧Rep w B x (.agg #[.int .i64 x.op, .int .i64 x.n, .string (strOf x.name), .slice A' x.args.length c'])∧∀(j:Nat) (u:Value),([.int .i64 x.op, .int .i64 x.n, .string (strOf x.name), .slice A' x.args.length c']:List Value)[j]? =some u→w.cell? ((ad.add (i*4)).add j)=some u
def tmV (x:Tm)(A A':Option Addr)(c c':Nat):List Value:=[.int .i64 x.op, .string (strOf x.name), .slice A x.exprs.length c, .slice A' x.terms.length c']
def TmAt (w:World)(B:Nat)(ts:List Tm)(A:Option Addr):Prop:=∀i x,ts[i]? =some x→∃ad A1 A2 c1 c2,A=some ad∧ad.block<B∧RepB w B x (.agg #[.int .i64 x.op, .string (strOf x.name), .slice A1 x.exprs.length c1, .slice A2 x.terms.length c2])∧∀(j:Nat) (u:Value),(tmV x A1 A2 c1 c2)[j]? =some u→w.cell? ((ad.add (i*4)).add j)=some u
theorem ExAt.below {w w':World}{B:Nat}{es:List Ex}{A:Option Addr}(h:ExAt w B es A)(hb:Below B w w'):ExAt w' B es A:=fun i x hx=>by
 obtain⟨ad,A',c',e1,e2,e3,e4⟩:=h i x hx
 exact⟨ad,A',c',e1,e2,e3.below hb,fun j u hu=>(hb.cell (by rw[block_of_add,block_of_add];exact e2)).trans (e4 j u hu)⟩
theorem TmAt.below {w w':World}{B:Nat}{ts:List Tm}{A:Option Addr}(h:TmAt w B ts A)(hb:Below B w w'):TmAt w' B ts A:=fun i x hx=>by
 obtain⟨ad,A1,A2,c1,c2,e1,e2,e3,e4⟩:=h i x hx
 exact⟨ad,A1,A2,c1,c2,e1,e2,e3.below hb,fun j u hu=>(hb.cell (by rw[block_of_add,block_of_add];exact e2)).trans (e4 j u hu)⟩
theorem exAt_of {w:World}{B:Nat}{es:List Ex}{vs:List Value}{A:Option Addr}(hl:vs.length=es.length)(hr:∀(i:Nat) (e:Ex) (v:Value),es[i]? =some e→vs[i]? =some v→RepE w (· <B) e v)(hA:Rows w (· <B) A (flatC vs)):ExAt w B es A:=fun i x hx=>by
 have hi:=(List.getElem?_eq_some_iff.1 hx).1
 obtain⟨v,hv⟩:∃v,vs[i]? =some v:=⟨_,List.getElem?_eq_getElem (by omega)⟩
 have hrx:=hr i x v hx hv
 have h4:∀y∈vs,y.cells.size=4:=fun y hy=>by
  obtain⟨k,hk,rfl⟩:=List.getElem_of_mem hy
  obtain⟨z,hz⟩:∃z,es[k]? =some z:=⟨_,List.getElem?_eq_getElem (by omega)⟩
  exact(hr k z _ hz (List.getElem?_eq_getElem hk)).cells4
 obtain⟨A',c',rfl⟩:=hrx.form
 have hne:flatC vs≠ []:=fun h0=>by have:=flatC_at h4 hv 0 _ rfl;rw[h0] at this;cases this
 obtain⟨ad,rfl,hb,hc⟩:=hA hne
 exact⟨ad,A',c',rfl,hb,hrx,fun j u hu=>by rw[add_of_add];exact hc _ _ (flatC_at h4 hv j u (by simpa[Value.cells] using hu))⟩
theorem tmAt_of {w:World}{B:Nat}{ts:List Tm}{vs:List Value}{A:Option Addr}(hl:vs.length=ts.length)(hr:∀(i:Nat) (e:Tm) (v:Value),ts[i]? =some e→vs[i]? =some v→RepT w (· <B) e v)(hA:Rows w (· <B) A (flatC vs)):TmAt w B ts A:=fun i x hx=>by
 have hi:=(List.getElem?_eq_some_iff.1 hx).1
 obtain⟨v,hv⟩:∃v,vs[i]? =some v:=⟨_,List.getElem?_eq_getElem (by omega)⟩
 have hrx:=hr i x v hx hv
 have h4:∀y∈vs,y.cells.size=4:=fun y hy=>by
  obtain⟨k,hk,rfl⟩:=List.getElem_of_mem hy
  obtain⟨z,hz⟩:∃z,ts[k]? =some z:=⟨_,List.getElem?_eq_getElem (by omega)⟩
  exact(hr k z _ hz (List.getElem?_eq_getElem hk)).cells4
 obtain⟨A1,c1,A2,c2,rfl⟩:=hrx.form
 have hne:flatC vs≠ []:=fun h0=>by have:=flatC_at h4 hv 0 _ rfl;rw[h0] at this;cases this
 obtain⟨ad,rfl,hb,hc⟩:=hA hne
 exact⟨ad,A1,A2,c1,c2,rfl,hb,hrx,fun j u hu=>by rw[add_of_add];exact hc _ _ (flatC_at h4 hv j u (by simpa[Value.cells,tmV] using hu))⟩
structure RepTV (w:World)(B:Nat)(t:Tm)(A A':Option Addr):Prop where
 h60:t.exprs.length≤1000
 h60':t.terms.length≤1000
 op:I64 t.op
 name:∀d∈t.name,d<256
 nlen:t.name.length≤9223372036854775807
 expr:ExAt w B t.exprs A
 term:TmAt w B t.terms A'
theorem RepB.open {w:World}{B:Nat}{t:Tm}{v:Value}(h:RepB w B t v):∃A c A' c',v= .agg #[.int .i64 t.op, .string (strOf t.name), .slice A t.exprs.length c, .slice A' t.terms.length c']∧RepTV w B t A A':=by
 have h':RepT w (· <B) t v:=h
 cases h' with
 | @mk op nm es ts A A' c c' vs us hl hl' h60 h60' hop hnm hnl hr hr' hA hA'=>
  exact⟨A,c,A',c',rfl,h60,h60',hop,hnm,hnl,exAt_of hl hr hA,tmAt_of hl' hr' hA'⟩
theorem RepTV.below {w w':World}{B:Nat}{t:Tm}{A A':Option Addr}(h:RepTV w B t A A')(hb:Below B w w'):RepTV w' B t A A':=⟨h.h60,h.h60',h.op,h.name,h.nlen,h.expr.below hb,h.term.below hb⟩
end Go.Proofs.YtaamkfajnpobfaaGreat
namespace Go.Proofs.YtaamkfajnpobfaaGreat
open Go.RowKit
def szX (s:Int × Int):List Ex→Int × Int
 | []=>s
 |e::r=>szX (withS s (szE e)) r
mutual
def szT:Tm→Int × Int
 | .mk _ _ es l=>szM (szX (1,1) es) l
def szM (s:Int × Int):List Tm→Int × Int
 | []=>s
 |t::r=>if 1000≤s.1 then(1000,1000) else szM (withS s (szT t)) r
end
theorem szX_Sz:∀(l:List Ex) (s:Int × Int),Sz s→Sz (szX s l)
 | [],_,h=>h
 |e::r,s,h=>szX_Sz r _ (withS_Sz h (szE_Sz e))
mutual
theorem szT_Sz:∀t,Sz (szT t)
 | .mk op nm es l=>by rw[szT];exact szM_Sz _ (szX_Sz es _ ⟨by simp,by simp⟩) l
theorem szM_Sz:∀(s:Int × Int),Sz s→∀l,Sz (szM s l)
 |s,h,[]=>by rw[szM];exact h
 |s,h,e::r=>by
  rw[szM]
  split
  ·exact⟨by simp,by simp⟩
  ·exact szM_Sz _ (withS_Sz h (szT_Sz e)) r
end
theorem withS_cnt {s t:Int × Int}{n d n' d':Nat}(h:Cnt s n d)(k:Cnt t n' d')(h2:d≤n)(h3:d'≤n'):Cnt (withS s t) (n+n') (max d (1+d'))∨(1000≤n+n'∧Cnt (withS s t) (n+n') (max d (1+d'))):=by
 obtain⟨a,b⟩:=h
 obtain⟨a',b'⟩:=k
 left
 refine⟨by unfold withS;simp only;omega,fun h=> ?_⟩
 unfold withS
 simp only
 rw[b (by omega),b' (by omega)]
 omega
theorem szX_cnt:∀(l:List Ex) (s:Int × Int) (n d:Nat),Cnt s n d→1≤d→d≤n→Cnt (szX s l) (n+nodesL l) (max d (1+depthL l))∧max d (1+depthL l)≤n+nodesL l
 | [],s,n,d,h,h1,h2=>by
  rw[nodesL,depthL,show max d (1+0)=d by omega]
  exact⟨h,by omega⟩
 |e::r,s,n,d,h,h1,h2=>by
  rw[nodesL,depthL]
  have he:=szE_cnt e
  have hn:=Ex.depth_nodes e
  have hp:=e.nodes_pos
  have hw:=(withS_cnt h he h2 hn).elim id (fun h=>h.2)
  have:=szX_cnt r _ _ _ hw (by omega) (by omega)
  rw[show n+(e.nodes+nodesL r)=n+e.nodes+nodesL r by omega,show max d (1+max e.depth (depthL r))=max (max d (1+e.depth)) (1+depthL r) by omega]
  exact this
mutual
theorem szT_cnt:∀t,Cnt (szT t) t.nodes t.depth
 | .mk op nm es l=>by
  rw[szT,Tm.nodes_mk,Tm.depth_mk]
  have h0:Cnt (1,1) 1 1:=⟨(by show(1:Int)=min ((1:Nat):Int) 1000;omega),fun _=>rfl⟩
  obtain⟨h1,h2⟩:=szX_cnt es (1,1) 1 1 h0 (Nat.le_refl _) (Nat.le_refl _)
  have:=szM_cnt _ _ _ h1 (by omega) h2 l
  rwa [show max (max 1 (1+depthL es)) (1+depthM l)=1+max (depthL es) (depthM l) by omega] at this
theorem szM_cnt:∀(s:Int × Int) (n d:Nat),Cnt s n d→1≤d→d≤n→∀l,Cnt (szM s l) (n+nodesM l) (max d (1+depthM l))
 |s,n,d,h,h1,h2,[]=>by
  rw[szM,nodesM,depthM,show max d (1+0)=d by omega]
  exact h
 |s,n,d,h,h1,h2,e::r=>by
  rw[szM,nodesM,depthM]
  have he:=szT_cnt e
  have hn:=Tm.depth_nodes e
  have hp:=e.nodes_pos
  split
  ·obtain⟨a,b⟩:=h
   exact⟨by simp only;omega,fun h=>by omega⟩
  ·have hw:=(withS_cnt h he h2 hn).elim id (fun h=>h.2)
   have:=szM_cnt _ _ _ hw (by omega) (by omega) r
   rw[show n+(e.nodes+nodesM r)=n+e.nodes+nodesM r by omega,show max d (1+max e.depth (depthM r))=max (max d (1+e.depth)) (1+depthM r) by omega]
   exact this
end
def szY (at_:Nat)(s:Int × Int):List Ex→Int × Int
 | []=>s
 |e::r=>szY at_ (withS s (szF e (at_+1))) r
mutual
def szU:Tm→Nat→Int × Int
 | .mk _ _ es l,at_=>szV at_ (szY at_ (1,1) es) l
def szV (at_:Nat)(s:Int × Int):List Tm→Int × Int
 | []=>s
 |t::r=>if 1000≤at_∨1000≤s.1 then(1000,1000) else szV at_ (withS s (szU t (at_+1))) r
end
theorem szV_cons (at_:Nat)(s:Int × Int)(e:Tm)(r:List Tm):szV at_ s (e::r)=if 1000≤at_∨1000≤s.1 then(1000,1000) else szV at_ (withS s (szU e (at_+1))) r:=by rw[szV]
theorem szV_nil (at_:Nat)(s:Int × Int):szV at_ s []=s:=by rw[szV]
theorem szY_Sz (at_:Nat):∀(l:List Ex) (s:Int × Int),Sz s→Sz (szY at_ s l)
 | [],_,h=>h
 |e::r,s,h=>szY_Sz at_ r _ (withS_Sz h (szF_Sz e _))
mutual
theorem szU_Sz:∀(t:Tm) (at_:Nat),Sz (szU t at_)
 | .mk op nm es l,at_=>by rw[szU];exact szV_Sz at_ _ (szY_Sz at_ es _ ⟨by simp,by simp⟩) l
theorem szV_Sz:∀(at_:Nat) (s:Int × Int),Sz s→∀l,Sz (szV at_ s l)
 |at_,s,h,[]=>by rw[szV];exact h
 |at_,s,h,e::r=>by
  rw[szV]
  split
  ·exact⟨by simp,by simp⟩
  ·exact szV_Sz at_ _ (withS_Sz h (szU_Sz e _)) r
end
theorem withS_top {t:Int × Int}(h:Sz t):withS (1000,1000) t=(1000,1000):=by
 unfold Sz at h
 unfold withS
 simp only[Prod.mk.injEq]
 omega
theorem szY_big (at_:Nat):∀(l:List Ex),szY at_ (1000,1000) l=(1000,1000)
 | []=>rfl
 |e::r=>by rw[szY,withS_top (szF_Sz e _)];exact szY_big at_ r
theorem szV_big (at_:Nat)(l:List Tm):szV at_ (1000,1000) l=(1000,1000):=by
 cases l with
 |nil=>rw[szV_nil]
 |cons e r=>rw[szV_cons,if_pos (.inr (by decide))]
theorem szY_or (at_:Nat):∀(l:List Ex) (s:Int × Int),Sz s→szY at_ s l=szX s l∨(szY at_ s l=(1000,1000)∧1001≤depthL l+at_)
 | [],s,h=> .inl rfl
 |e::r,s,h=>by
  rw[szY,szX,depthL]
  rcases szF_or e (at_+1) with h3|⟨h3,h4⟩
  ·rw[h3]
   rcases szY_or at_ r (withS s (szE e)) (withS_Sz h (szE_Sz e)) with h5|⟨h5,h6⟩
   ·exact .inl h5
   ·exact .inr ⟨h5,by omega⟩
  ·rw[h3,withS_big h,szY_big]
   exact .inr ⟨rfl,by omega⟩
mutual
theorem szU_or:∀(t:Tm) (at_:Nat),szU t at_=szT t∨(szU t at_=(1000,1000)∧1002≤t.depth+at_)
 | .mk op nm es l,at_=>by
  rw[szU,szT,Tm.depth_mk]
  rcases szY_or at_ es (1,1) ⟨by simp,by simp⟩ with h0|⟨h0,h1⟩
  ·rw[h0]
   rcases szV_or at_ _ (szX_Sz es (1,1) ⟨by simp,by simp⟩) l with h|⟨h1,h2⟩
   ·exact .inl h
   ·exact .inr ⟨h1,by omega⟩
  ·rw[h0,szV_big]
   exact .inr ⟨rfl,by omega⟩
theorem szV_or:∀(at_:Nat) (s:Int × Int),Sz s→∀l,szV at_ s l=szM s l∨(szV at_ s l=(1000,1000)∧1001≤depthM l+at_)
 |at_,s,h,[]=>by rw[szV,szM];exact .inl rfl
 |at_,s,h,e::r=>by
  rw[szV,szM,depthM]
  have hd:0<e.depth:=by rw[e.depth_eq];omega
  by_cases h1:1000≤s.1
  ·rw[if_pos (.inr h1),if_pos h1];exact .inl rfl
  ·by_cases h2:1000≤at_
   ·rw[if_pos (.inl h2)];exact .inr ⟨rfl,by omega⟩
   ·rw[if_neg (by omega),if_neg h1]
    rcases szU_or e (at_+1) with h3|⟨h3,h4⟩
    ·rw[h3]
     rcases szV_or at_ (withS s (szT e)) (withS_Sz h (szT_Sz e)) r with h5|⟨h5,h6⟩
     ·exact .inl h5
     ·exact .inr ⟨h5,by omega⟩
    ·rw[h3,withS_big h,szV_big]
     exact .inr ⟨rfl,by omega⟩
end
end Go.Proofs.YtaamkfajnpobfaaGreat
namespace Go.Proofs.YtaamkfajnpobfaaGreat
open Go.RowKit
def arT (op:Int):Int × Int:=if op=1∨op=2 then(0,0) else if op=3 then(0,1) else if op=4∨op=5 then(0,2) else if op=6∨op=7∨op=8∨op=9 then(1,1) else(-1,-1)
def headTB (op:Int)(nm:List Nat)(n m:Nat):Bool:=decide (arT op=((n:Int),(m:Int)))&& !(decide (op=2)&& !freeB nm)&& !(decide (op≠2)&&decide (nm≠ []))
mutual
def builtT:Tm→Bool
 | .mk op nm es l=>headTB op nm es.length l.length&&es.all builtB&&builtTL l
def builtTL:List Tm→Bool
 | []=>true
 |e::r=>builtT e&&builtTL r
end
def rightT (t:Tm):Bool:=decide (t.nodes≤200)&&decide (t.depth≤16)&&builtT t
end Go.Proofs.YtaamkfajnpobfaaGreat
namespace Go.Proofs.YtaamkfajnpobfaaGreat
open Go.RowKit
end Go.Proofs.YtaamkfajnpobfaaGreat
namespace Go.Proofs.YtaamkfajnpobfaaGreat
open Go.RowKit
structure Kn where
 op:Int
 name:List Nat
 exprs:List Int
 terms:List Int
structure Kn.rng (x:Kn):Prop where
 op:I64 x.op
 name:∀d∈x.name,d<256
 nlen:x.name.length≤9223372036854775807
def zMuch (t:Tm):Int:=(toldZ (t.nodes:Int) (t.depth:Int)).1
def zDeep (t:Tm):Int:=(toldZ (t.nodes:Int) (t.depth:Int)).2
def sumM:List Tm→Int
 | []=>0
 |e::r=>zMuch e+sumM r
def maxM:List Tm→Int
 | []=>0
 |e::r=>max (zDeep e) (maxM r)
def pickM (ts:List Tm)(ks:List Int):List Tm:=ks.filterMap fun k=>if ts.length=0 then none else ts[earl k ts.length]?
def knotT (es:List Ex)(ts:List Tm)(x:Kn):Tm:= .mk x.op x.name (pickK es (x.exprs.take 3)) (pickM ts (x.terms.take 4))
def addT (es:List Ex)(ts:List Tm)(x:Kn):List Tm:=ts++[knotT es ts x]
def termsOf (es:List Ex)(ks:List Kn):List Tm:=ks.foldl (addT es) []
def KnAt (w:World)(B:Nat)(A:Option Addr)(xs:List Kn):Prop:=∀i x,xs[i]? =some x→∃ad A1 A2 c1 c2,A=some ad∧ad.block<B∧Reads w B 1 A1 x.exprs.length (DI x.exprs)∧Reads w B 1 A2 x.terms.length (DI x.terms)∧∀(j:Nat) (u:Value),([.int .i64 x.op, .string (strOf x.name), .slice A1 x.exprs.length c1, .slice A2 x.terms.length c2]:List Value)[j]? =some u→w.cell? ((ad.add (i*4)).add j)=some u
theorem KnAt.below {w w':World}{B:Nat}{A:Option Addr}{xs:List Kn}(h:KnAt w B A xs)(hb:Below B w w'):KnAt w' B A xs:=fun i x hx=>by
 obtain⟨ad,A1,A2,c1,c2,e1,e2,e3,e3',e4⟩:=h i x hx
 exact⟨ad,A1,A2,c1,c2,e1,e2,e3.below hb,e3'.below hb,fun j u hu=>(hb.cell (by rw[block_of_add,block_of_add];exact e2)).trans (e4 j u hu)⟩
structure ForestT (w:World)(T:List Nat)(ts:List Tm)(vs:List Value):Prop where
 len:vs.length=ts.length
 lt:∀b∈T,b<w.heap.size
 rep:∀(i:Nat) (e:Tm) (v:Value),ts[i]? =some e→vs[i]? =some v→RepT w (· ∈T) e v
section
variable {w w':World} {T:List Nat} {ts:List Tm} {vs:List Value}
theorem ForestT.keep (h:ForestT w T ts vs)(hs:w.heap.size≤w'.heap.size)(hb:∀b∈T,w'.heap[b]? =w.heap[b]?):ForestT w' T ts vs:=
 ⟨h.len,fun b hm=>Nat.lt_of_lt_of_le (h.lt b hm) hs,fun i e v he hv=>(h.rep i e v he hv).mono (fun _ h=>h) (fun p hp=>World.cell?_of_block (hb p.block hp))⟩
theorem ForestT.step (h:ForestT w T ts vs)(hb:Below w.heap.size w w'):ForestT w' T ts vs:=h.keep hb.size (fun b hm=>hb.block b (h.lt b hm))
theorem ForestT.grown {row:Option Nat}(h:ForestT w T ts vs)(hg:w.grownBy w' row)(hne:∀b,row=some b→b∉T):ForestT w' T ts vs:=h.keep hg.size (fun b hm=>hg.block b (h.lt b hm) (fun e=>hne b e.symm hm))
theorem ForestT.nil (w:World)(T:List Nat)(hlt:∀b∈T,b<w.heap.size):ForestT w T [] []:=⟨rfl,hlt,fun i e v h=>by cases h⟩
theorem ForestT.cells (h:ForestT w T ts vs):sizes 4 vs:=by
 have:∀v∈vs,v.cells.size=4:=fun v hv=>by
  obtain⟨k,hk,rfl⟩:=List.getElem_of_mem hv
  obtain⟨z,hz⟩:∃z,ts[k]? =some z:=⟨_,List.getElem?_eq_getElem (by have:=h.len;omega)⟩
  exact(h.rep k z _ hz (List.getElem?_eq_getElem hk)).cells4
 clear h
 induction vs with
 |nil=>trivial
 |cons v r ih=>exact⟨this v List.mem_cons_self,ih (fun u hu=>this u (List.mem_cons_of_mem _ hu))⟩
theorem ForestT.app {B:Nat}{v:Value}(h:ForestT w T ts vs)(hv:Apart v T)(ha:App w w' B v):ForestT w' T ts vs:=h.grown ha.grown fun b e=>hv b e
theorem ForestT.put {g B:Nat}{t:TypeId}{cur cs:Array Value}(h:ForestT w T ts vs)(_k:Blk w g t cur)(p:Put w w' g t cs)(_e:B≤g)(hne:g∉T:=by assumption):ForestT w' T ts vs:=
 h.grown p.grown fun b e=>by injection e with e;exact e▸hne
end
theorem rows_of {w:World}{B len:Nat}{ty:TypeId}{vA:Value}{avs:List Value}{S:Nat→Prop}(hA:Own w B ty 4 vA len (flatC avs))(hS:∀b,vA.ownBlock=some b→S b):∃A c,vA= .slice A len c∧(0<len→Rows w S A (flatC avs)):=by
 obtain⟨A,c,rfl,hrd⟩:=hA.reads
 refine⟨A,c,rfl,fun h0 hne=> ?_⟩
 obtain⟨ad,rfl,-,hc⟩:=hrd.2 h0
 exact⟨ad,rfl,hS _ rfl,hc⟩
theorem rows_nil {w:World}{S:Nat→Prop}{A:Option Addr}{avs:List Value}(h:avs.length=0):Rows w S A (flatC avs):=fun hne=>by
 rw[List.eq_nil_of_length_eq_zero h] at hne
 exact absurd rfl hne
theorem ForestT.more {w:World}{T:List Nat}{ts args:List Tm}{eargs:List Ex}{vs avs evs:List Value}{B B':Nat}{o:Int}{nm:List Nat}{vE vT:Value}(h:ForestT w T ts vs)(hle:evs.length=eargs.length)(hl:avs.length=args.length)(h60':eargs.length≤1000)(h60:args.length≤1000)(hop:I64 o)(hnm:∀d∈nm,d<256)(hnl:nm.length≤9223372036854775807)
  (hre:∀(i:Nat) (e:Ex) (v:Value),eargs[i]? =some e→evs[i]? =some v→RepE w (· ∈T) e v) (hr:∀(i:Nat) (e:Tm) (v:Value),args[i]? =some e→avs[i]? =some v→RepT w (· ∈T) e v) (hE:Own w B' 35 4 vE eargs.length (flatC evs)) (hA:Own w B 25 4 vT args.length (flatC avs)):
  ForestT w (blocksOf vE++(blocksOf vT++T)) (ts++[.mk o nm eargs args]) (vs++[.agg #[.int .i64 o, .string (strOf nm),vE,vT]]):=by
 have hbE:=hE.blockLt
 have hbT:=hA.blockLt
 obtain⟨AE,cE,rfl,hRE⟩:=rows_of (S:=(· ∈blocksOf vE++(blocksOf vT++T))) hE (fun b hb=>List.mem_append_left _ (mem_blocksOf.2 hb))
 obtain⟨AT,cT,rfl,hRT⟩:=rows_of (S:=(· ∈blocksOf (.slice AE eargs.length cE)++(blocksOf vT++T))) hA (fun b hb=>List.mem_append_right _ (List.mem_append_left _ (mem_blocksOf.2 hb)))
 refine⟨by rw[List.length_append,List.length_append,h.len];rfl,fun b hm=> ?_,fun i e v he hvi=> ?_⟩
 ·rcases List.mem_append.1 hm with hm|hm
  ·exact(hbE b (mem_blocksOf.1 hm)).2
  ·rcases List.mem_append.1 hm with hm|hm
   ·exact(hbT b (mem_blocksOf.1 hm)).2
   ·exact h.lt b hm
 ·rcases Nat.lt_or_ge i ts.length with hi|hi
  ·rw[List.getElem?_append_left hi] at he
   rw[List.getElem?_append_left (by rw[h.len];exact hi)] at hvi
   exact(h.rep i e v he hvi).mono (fun b hb=>List.mem_append_right _ (List.mem_append_right _ hb)) (fun _ _=>rfl)
  ·rw[List.getElem?_append_right hi] at he
   rw[List.getElem?_append_right (by rw[h.len];exact hi),h.len] at hvi
   have h0:i-ts.length=0:=by
    have:=(List.getElem?_eq_some_iff.1 he).1
    simp at this
    exact this
   rw[h0] at he hvi
   injection he with he
   injection hvi with hvi
   subst he hvi
   refine .mk hle hl h60' h60 hop hnm hnl (fun i e v he hv=>(hre i e v he hv).mono (fun b hb=>List.mem_append_right _ (List.mem_append_right _ hb)) (fun _ _=>rfl)) (fun i e v he hv=>(hr i e v he hv).mono (fun b hb=>List.mem_append_right _ (List.mem_append_right _ hb)) (fun _ _=>rfl)) ?_ ?_
   ·rcases Nat.eq_zero_or_pos eargs.length with h0|h0
    ·exact rows_nil (by omega)
    ·exact hRE h0
   ·rcases Nat.eq_zero_or_pos args.length with h0|h0
    ·exact rows_nil (by omega)
    ·exact hRT h0
end Go.Proofs.YtaamkfajnpobfaaGreat
namespace Go.Proofs.YtaamkfajnpobfaaGreat
open Go.RowKit
theorem Only.low {w0 w w':World}{g:Nat}(h:Only w0 w g)(hb:Below w0.heap.size w w'):Only w0 w' g:=
 ⟨⟨hb.os.trans h.row.os,hb.tape.trans h.row.tape,hb.output.trans h.row.output,Nat.le_trans h.row.size hb.size,fun i hi hne=>(hb.block i hi).trans (h.row.block i hi hne)⟩⟩
def BuiltK (es:List Ex)(ts:List Tm)(v:Value)(w:World):Prop:=∃T T' B B' vs us vE vN vD vT vM vP,v= .agg #[vE,vN,vD,vT,vM,vP]∧Forest w T es vs∧ForestT w T' ts us∧Own w B 35 4 vE es.length (flatC vs)∧Own w B 3 1 vN es.length (DI (es.map zNodes))∧Own w B 3 1 vD es.length (DI (es.map zDepth))∧
 Own w B' 25 4 vT ts.length (flatC us)∧Own w B' 3 1 vM ts.length (DI (ts.map zMuch))∧Own w B' 3 1 vP ts.length (DI (ts.map zDeep))
end Go.Proofs.YtaamkfajnpobfaaGreat
namespace Go.Proofs.YtaamkfajnpobfaaGreat
open Go.RowKit
def treeK (n m:Nat)(AE AN AD AT AM AP:Option Addr)(cE cN cD cT cM cP:Nat):Value:= .agg #[.slice AE n cE, .slice AN n cN, .slice AD n cD, .slice AT m cT, .slice AM m cM, .slice AP m cP]
structure TreeT (w:World)(B:Nat)(ts:List Tm)(AT AM AP:Option Addr):Prop where
 term:TmAt w B ts AT
 much:Reads w B 1 AM ts.length (DI (ts.map zMuch))
 deep:Reads w B 1 AP ts.length (DI (ts.map zDeep))
theorem TreeT.below {w w':World}{B:Nat}{ts:List Tm}{AT AM AP:Option Addr}(h:TreeT w B ts AT AM AP)(hb:Below B w w'):TreeT w' B ts AT AM AP:=⟨h.term.below hb,h.much.below hb,h.deep.below hb⟩
theorem TmAt.more {w:World}{B B':Nat}{ts:List Tm}{A:Option Addr}(h:TmAt w B ts A)(hb:B≤B'):TmAt w B' ts A:=fun i x hx=>by
 obtain⟨ad,A1,A2,c1,c2,e1,e2,e3,e4⟩:=h i x hx
 exact⟨ad,A1,A2,c1,c2,e1,Nat.lt_of_lt_of_le e2 hb,e3.more hb,e4⟩
theorem TreeT.more {w:World}{B B':Nat}{ts:List Tm}{AT AM AP:Option Addr}(h:TreeT w B ts AT AM AP)(hb:B≤B'):TreeT w B' ts AT AM AP:=⟨h.term.more hb,h.much.more hb,h.deep.more hb⟩
theorem tmAt_own {w:World}{T:List Nat}{ts:List Tm}{vs:List Value}{B c:Nat}{A:Option Addr}(ft:ForestT w T ts vs)(hE:Own w B 25 4 (.slice A ts.length c) ts.length (flatC vs)):TmAt w w.heap.size ts A:=fun i e he=>by
 have h4:∀y∈vs,y.cells.size=4:=sizes_spec ft.cells
 obtain⟨A',c',hv,hr⟩:=hE.reads
 injection hv with e1 _ _
 subst e1
 have hi:=(List.getElem?_eq_some_iff.1 he).1
 obtain⟨ev,hev⟩:∃ev,vs[i]? =some ev:=⟨_,List.getElem?_eq_getElem (by rw[ft.len];omega)⟩
 have hre:=ft.rep i e ev he hev
 obtain⟨A1,c1,A2,c2,rfl⟩:=hre.form
 obtain⟨ad,rfl,hb,hc⟩:=hr.2 (by omega)
 exact⟨ad,A1,A2,c1,c2,rfl,hb,hre.mono (fun b hm=>ft.lt b hm) (fun _ _=>rfl),fun j u hu=>by rw[add_of_add];exact hc _ _ (flatC_at h4 hev j u (by simpa[Value.cells,tmV] using hu))⟩
theorem BuiltK.tree {es:List Ex}{ts:List Tm}{v:Value}{w:World}(h:BuiltK es ts v w):∃AE AN AD AT AM AP cE cN cD cT cM cP,v=treeK es.length ts.length AE AN AD AT AM AP cE cN cD cT cM cP∧TreeR w w.heap.size es AE AN AD∧TreeT w w.heap.size ts AT AM AP:=by
 obtain⟨T,T',B,B',vs,us,vE,vN,vD,vT,vM,vP,rfl,fo,ft,oE,oN,oD,oT,oM,oP⟩:=h
 have hb:BuiltR B es (.agg #[vE,vN,vD, .slice none 0 0, .slice none 0 0, .slice none 0 0]) w:=⟨T,vs,vE,vN,vD,rfl,fo,oE,oN,oD⟩
 obtain⟨AE,AN,AD,cE,cN,cD,hv,tr⟩:=hb.tree
 obtain⟨AT,cT,rfl,-⟩:=oT.reads
 obtain⟨AM,cM,rfl,hM⟩:=oM.reads
 obtain⟨AP,cP,rfl,hP⟩:=oP.reads
 unfold treeV at hv
 have e1:vE= .slice AE es.length cE∧vN= .slice AN es.length cN∧vD= .slice AD es.length cD:=by simpa using hv
 obtain⟨rfl,rfl,rfl⟩:=e1
 exact⟨AE,AN,AD,AT,AM,AP,cE,cN,cD,cT,cM,cP,rfl,tr,tmAt_own ft oT,hM,hP⟩
end Go.Proofs.YtaamkfajnpobfaaGreat
namespace Go.Proofs.YtaamkfajnpobfaaGreat
open Go.RowKit
def wordsT:List (List Nat):=[[122,101,114,111],[111,110,101],[103,105,118,101],[97,110,100],[111,114],[115,99,97,108,101],[119,104,101,110],[117,110,116,105,108],[97,110,121,116,105,109,101]]
def wordT (op:Int):List Nat:=wordsT.getD (op-1).toNat []
mutual
def termT:Tm→List Nat
 | .mk op nm es l=>if op=1 then [122,101,114,111] else wordT op++[40]++joinT ((if op=2 then [nm] else [])++es.map exprT++termTL l)++[41]
def termTL:List Tm→List (List Nat)
 | []=>[]
 |t::r=>termT t::termTL r
end
end Go.Proofs.YtaamkfajnpobfaaGreat
namespace Go.Proofs.YtaamkfajnpobfaaGreat
open Go.RowKit
end Go.Proofs.YtaamkfajnpobfaaGreat
namespace Go.Proofs.YtaamkfajnpobfaaGreat
open Go.RowKit
def strs (l:List (List Nat)):List Value:=l.map fun s=> .string (strOf s)
end Go.Proofs.YtaamkfajnpobfaaGreat
namespace Go.Proofs.YtaamkfajnpobfaaGreat
open Go.RowKit
def blanksT (n:Nat):List Nat:=List.replicate (2*n) 32
def segs (m:List Nat):List (List Nat)→List Nat
 | []=>[]
 |x::r=>[10]++m++x++r.flatMap fun y=>[44,10]++m++y
mutual
def linesT (deep:Nat):Tm→List Nat
 | .mk op nm es l=>if l=[] then termT (.mk op nm es l) else wordT op++[40]++segs (blanksT (deep+1)) (es.map exprT++linesTL (deep+1) l)++[10]++blanksT deep++[41]
def linesTL (deep:Nat):List Tm→List (List Nat)
 | []=>[]
 |t::r=>linesT deep t::linesTL deep r
end
def rowsT (deep:Nat)(t:Tm):List (List Nat):=t.exprs.map exprT++t.terms.map (linesT (deep+1))
end Go.Proofs.YtaamkfajnpobfaaGreat
namespace Go.Proofs.YtaamkfajnpobfaaGreat
open Go.RowKit
def linesA (m word:List Nat)(rows:List (List Nat))(k:Nat):List Nat:=word++[40]++segs m (rows.take k)++(if k=0∨k=rows.length then [10] else [44,10])
end Go.Proofs.YtaamkfajnpobfaaGreat
namespace Go.Proofs.YtaamkfajnpobfaaGreat
open Go.RowKit
def blanks128:List Nat:=List.replicate 128 32
end Go.Proofs.YtaamkfajnpobfaaGreat
namespace Go.Proofs.YtaamkfajnpobfaaGreat
open Go.RowKit
def RecT (B g L:Nat)(t:Tm):Prop:=∀(x:Tm) (A1 A2:Option Addr) (c1 c2:Nat),x∈t.terms→∀(W:World) (bs':List Nat),RepB W B x (.agg (tmV x A1 A2 c1 c2).toArray)→Bw W B g bs'→bs'.length≤L→Calls Tryz.prog 43 #[.pointer (some ⟨g,0,none⟩), .agg (tmV x A1 A2 c1 c2).toArray] W (WrRet B g (bs'++termT x) W)
def rowsP (t:Tm):List (List Nat):=t.exprs.map exprT++t.terms.map termT
end Go.Proofs.YtaamkfajnpobfaaGreat
namespace Go.Proofs.YtaamkfajnpobfaaGreat
open Go.RowKit
def RecS (B g L d:Nat)(t:Tm):Prop:=∀(x:Tm) (A1 A2:Option Addr) (c1 c2:Nat),x∈t.terms→∀(W:World) (bs':List Nat),RepB W B x (.agg (tmV x A1 A2 c1 c2).toArray)→Bw W B g bs'→bs'.length≤L→Calls Tryz.prog 45 #[.pointer (some ⟨g,0,none⟩), .agg (tmV x A1 A2 c1 c2).toArray, .int .i64 ((d+1:Nat):Int)] W (WrRet B g (bs'++linesT (d+1) x) W)
end Go.Proofs.YtaamkfajnpobfaaGreat
namespace Go.Proofs.YtaamkfajnpobfaaGreat
open Go.RowKit
def textR (t:Tm):List Nat:=if rightT t=true then termT t else []
def linesR (t:Tm):List Nat:=if rightT t=true then linesT 0 t else []
end Go.Proofs.YtaamkfajnpobfaaGreat
namespace Go.Proofs.YtaamkfajnpobfaaGreat
inductive Rs (α:Type) where
 |out
 |bad (pos:Nat) (over:Bool)
 |ok (a:α) (pos:Nat)
def Rs.bind {α β:Type}(r:Rs α)(f:α→Nat→Rs β):Rs β:=match r with
 | .out=> .out
 | .bad p o=> .bad p o
 | .ok a p=>f a p
section
variable {α β:Type}
theorem Rs.bind_bad (p:Nat)(o:Bool)(f:α→Nat→Rs β):(Rs.bad p o).bind f= .bad p o:=rfl
theorem Rs.bind_ok (a:α)(p:Nat)(f:α→Nat→Rs β):(Rs.ok a p).bind f=f a p:=rfl
theorem Rs.bind_assoc {γ:Type}(r:Rs α)(f:α→Nat→Rs β)(g:β→Nat→Rs γ):(r.bind f).bind g=r.bind fun a p=>(f a p).bind g:=by cases r<;>rfl
theorem Rs.bind_ne {r:Rs α}{f:α→Nat→Rs β}(h:r.bind f≠ .out):r≠ .out:=fun e=>h (by rw[e];rfl)
theorem Rs.ok_or {r:Rs α}(h:r≠ .out):(∃p o,r= .bad p o)∨∃a p,r= .ok a p:=by
 cases r with
 |out=>exact absurd rfl h
 |bad p o=>exact .inl ⟨p,o,rfl⟩
 |ok a p=>exact .inr ⟨a,p,rfl⟩
end
def wAt (ws:List Wd)(p:Nat):Wd:=ws.getD p ⟨-1,[],0,0⟩
def isS (ws:List Wd)(p:Nat)(s:List Nat):Bool:=decide ((wAt ws p).kind=0)&&decide ((wAt ws p).text=s)
def signQ (ws:List Wd)(s:List Nat)(p:Nat):Rs Unit:=if isS ws p s=true then .ok () (p+1) else .bad p false
def enterP (p d:Nat):Rs Unit:=if 64<d+1 then .bad p true else .ok () p
def signsAt:Nat→List (List Nat)
 |0=>[[124]]
 |1=>[[38]]
 |2=>[[60],[60,61],[61],[33,61],[62,61],[62]]
 |3=>[[43],[45]]
 |4=>[[42],[47]]
 |_=>[]
def opsAt:Nat→List Int
 |0=>[18]
 |1=>[17]
 |2=>[11,12,13,14,15,16]
 |3=>[5,6]
 |4=>[7,8]
 |_=>[]
def opAt (ws:List Wd)(lvl p:Nat):Option Int:=if(wAt ws p).kind≠0 then none else if(wAt ws p).text∈signsAt lvl then(opsAt lvl)[(signsAt lvl).idxOf (wAt ws p).text]? else none
def mk2 (op:Int)(a b:Ex):Ex:= .mk op 0 [] [a,b]
def dayW:List Nat:=[100,97,121]
def minW:List Nat:=[109,105,110]
def maxW:List Nat:=[109,97,120]
def ifW:List Nat:=[105,102]
def zeroW:List Nat:=[122,101,114,111]
def oneW:List Nat:=[111,110,101]
def partsP {α:Type}(ws:List Wd):List (Nat→Nat→Rs α)→Bool→Nat→Nat→Rs (List α)
 | [],_,p,_=> .ok [] p
 |one::r,first,p,d=>(if first=true then Rs.ok () p else signQ ws [44] p).bind fun _ p=>(one p d).bind fun x p=>(partsP ws r false p d).bind fun xs p=> .ok (x::xs) p
def withinP {α:Type}(ws:List Wd)(ones:List (Nat→Nat→Rs α))(p d:Nat):Rs (List α):=(signQ ws [40] p).bind fun _ p=>(enterP p d).bind fun _ p=>(partsP ws ones true p (d+1)).bind fun xs p=>(signQ ws [41] p).bind fun _ p=> .ok xs p
def calledP (ws:List Wd)(E0:Nat→Nat→Rs Ex)(op:Int)(k p d:Nat):Rs Ex:=(withinP ws (List.replicate k E0) (p+1) d).bind fun xs p=> .ok (.mk op 0 [] xs) p
def nameP (ws:List Wd)(p:Nat):Rs (List Nat):=if(wAt ws p).kind=3∧reservedB (wAt ws p).text=false then .ok (wAt ws p).text (p+1) else .bad p false
def atomP (ws:List Wd)(E0:Nat→Nat→Rs Ex)(p d:Nat):Rs Ex:=
 if(wAt ws p).kind=1 then .ok (.mk 1 (wAt ws p).n [] []) (p+1)
 else if(wAt ws p).kind=2 then .ok (.mk 2 (wAt ws p).n [] []) (p+1)
 else if(wAt ws p).kind=3 then
  if(wAt ws p).text=dayW then .ok (.mk 4 0 [] []) (p+1)
  else if(wAt ws p).text=minW then calledP ws E0 9 2 p d
  else if(wAt ws p).text=maxW then calledP ws E0 10 2 p d
  else if(wAt ws p).text=ifW then calledP ws E0 21 3 p d
  else(nameP ws p).bind fun nm p=> .ok (.mk 3 0 nm []) p
 else if(wAt ws p).kind=0 then(withinP ws [E0] p d).bind fun xs p=> .ok (xs.getD 0 (.mk 0 0 [] [])) p
 else .bad p false
def aheadP (S:Nat→Nat→Rs Ex)(op:Int)(p d:Nat):Rs Ex:=(enterP p d).bind fun _ p=>(S (p+1) (d+1)).bind fun x p=> .ok (.mk op 0 [] [x]) p
def unaryP (ws:List Wd)(S:Nat→Nat→Rs Ex)(E0:Nat→Nat→Rs Ex)(p d:Nat):Rs Ex:=
 if isS ws p [33]=true then aheadP S 19 p d else if isS ws p [45]=true then aheadP S 20 p d else atomP ws E0 p d
structure PF where
 E:Nat→Nat→Nat→Rs Ex
 L:Nat→Ex→Nat→Nat→Rs Ex
 S:Nat→Nat→Rs Ex
def levN (L:Nat→Ex→Nat→Nat→Rs Ex)(S:Nat→Nat→Rs Ex):Nat→Nat→Nat→Rs Ex
 |0,p,d=>S p d
 |j+1,p,d=>(levN L S j p d).bind fun x p=>L (4-j) x p d
def loopP (ws:List Wd)(f:PF)(lvl:Nat)(left:Ex)(p d:Nat):Rs Ex:=match opAt ws lvl p with
 |none=> .ok left p
 |some op=>(f.E (lvl+1) (p+1) d).bind fun r p=>if lvl=2 then .ok (mk2 op left r) p else f.L lvl (mk2 op left r) p d
def stepP (ws:List Wd)(f:PF):PF where
 E:=fun lvl p d=>levN (loopP ws f) (unaryP ws f.S (f.E 0)) (5-lvl) p d
 L:=loopP ws f
 S:=unaryP ws f.S (f.E 0)
def fuelP (ws:List Wd):Nat→PF
 |0=>⟨fun _ _ _=> .out,fun _ _ _ _=> .out,fun _ _=> .out⟩
 |n+1=>stepP ws (fuelP ws n)
theorem fuelP_E (ws:List Wd)(n lvl p d:Nat)(h:lvl<5):(fuelP ws (n+1)).E lvl p d=((fuelP ws (n+1)).E (lvl+1) p d).bind fun x p=>(fuelP ws (n+1)).L lvl x p d:=by
 show levN (loopP ws (fuelP ws n)) (unaryP ws (fuelP ws n).S ((fuelP ws n).E 0)) (5-lvl) p d=(levN (loopP ws (fuelP ws n)) (unaryP ws (fuelP ws n).S ((fuelP ws n).E 0)) (5-(lvl+1)) p d).bind _
 have e:5-lvl=(5-(lvl+1))+1:=by omega
 have e2:4-(5-(lvl+1))=lvl:=by omega
 rw[e,levN,e2]
 rfl
def termsW (t:List Nat):Int × Nat × Nat:=
 if t=[103,105,118,101] then(3,0,1) else if t=[97,110,100] then(4,0,2) else if t=[111,114] then(5,0,2) else if t=[115,99,97,108,101] then(6,1,1)
 else if t=[119,104,101,110] then(7,1,1) else if t=[117,110,116,105,108] then(8,1,1) else if t=[97,110,121,116,105,109,101] then(9,1,1) else(0,0,0)
abbrev Part:=Ex ⊕ Tm
def Rs.map {α β:Type}(r:Rs α)(f:α→β):Rs β:=r.bind fun a p=> .ok (f a) p
def onesP (E0:Nat→Nat→Rs Ex)(T:Nat→Nat→Rs Tm)(n m:Nat):List (Nat→Nat→Rs Part):=List.replicate n (fun p d=>(E0 p d).map .inl)++List.replicate m (fun p d=>(T p d).map .inr)
def exprsOf (l:List Part):List Ex:=l.filterMap fun x=>match x with| .inl e=>some e| .inr _=>none
def termsOf2 (l:List Part):List Tm:=l.filterMap fun x=>match x with| .inl _=>none| .inr t=>some t
def termP (ws:List Wd)(E0:Nat→Nat→Rs Ex)(T:Nat→Nat→Rs Tm)(p d:Nat):Rs Tm:=
 if(wAt ws p).kind≠3 then .bad p false
 else if(wAt ws p).text=zeroW then .ok (.mk 1 [] [] []) (p+1)
 else if(wAt ws p).text=oneW then(withinP ws [fun p _=>nameP ws p] (p+1) d).bind fun xs p=> .ok (.mk 2 (xs.getD 0 []) [] []) p
 else if(termsW (wAt ws p).text).1=0 then .bad p false
 else(withinP ws (onesP E0 T (termsW (wAt ws p).text).2.1 (termsW (wAt ws p).text).2.2) (p+1) d).bind fun xs q=> .ok (.mk (termsW (wAt ws p).text).1 [] (exprsOf xs) (termsOf2 xs)) q
def fuelT (ws:List Wd):Nat→Nat→Nat→Rs Tm
 |0,_,_=> .out
 |n+1,p,d=>termP ws ((fuelP ws (n+1)).E 0) (fuelT ws n) p d
def allP {α:Type}(ws:List Wd)(r:Rs α):Rs α:=match r with
 | .ok a p=>if p=ws.length then .ok a p else .bad p false
 |r=>r
end Go.Proofs.YtaamkfajnpobfaaGreat
namespace Go.Proofs.YtaamkfajnpobfaaGreat
open Go.RowKit
section
variable {P:Program} {ops:Array Oper} {Q:Exit→Act→World→Prop} {rest:List Oper} {o:Oper} {n d:Nat} {F F':List (Nat × Value)} {w w':World} {v:Value}
theorem Seq.callB {I:Inhabited (List Deferred)}{f:FuncId}{args:Array Value}{R:Ending→World→Prop}(he:Enters P (evF F) o w f args)(hg:o.guard=none)(hc:Calls P f args w R)
  (h:∀e w',R e w'→∃ch,e= .panicked ch∧Post Q (.panic ch) n F w'):Seq P ops Q (o::rest) n F w:=by
 intro a ha
 refine wpList_plain hg fun K hK=> ?_
 unfold Oper.wp
 rw[he a.eval ha.ev,Oper.upon_enter]
 refine hc.mono fun e w' hR=> ?_
 obtain⟨ch,rfl,hp⟩:=h e w' hR
 exact hp _ ha
theorem Seq.panic_ {I:Inhabited (List Deferred)}{x:Operand}{u:Value}(ho:o.op= .panic x)(hx:evF F x=some v)(hg:o.guard=none)(hr:(Instr.panic v).run P w= .halt (.panic u) w)(h:Post Q (.panic [{v:=u,recovered:=false}]) n F w):Seq P ops Q (o::rest) n F w:=by
 intro a ha
 refine wpList_plain hg fun K hK=> ?_
 unfold Oper.wp
 have:(execOp a.eval o).run P w= .halt (.panic u) w:=by
  unfold execOp
  simp only[ho]
  rw[ha.ev _ _ hx]
  simp only[Sem.run_bind,hr]
  rfl
 rw[this,Oper.upon_panic]
 exact h _ ha
end
structure Fz (h g:Nat)(w w':World):Prop where
 os:w'.os=w.os
 tape:w'.tape=w.tape
 output:w'.output=w.output
 size:w.heap.size≤w'.heap.size
 block:∀k,k<h→k≠g→w'.heap[k]? =w.heap[k]?
class PutAt (E:Prop) (h g g':Nat):Prop where
 ok:E→h≤g'∨g'=g
instance {h g g':Nat}:PutAt (h≤g') h g g':=⟨.inl⟩
instance {h g g':Nat}:PutAt (g'=g) h g g':=⟨.inr⟩
section
variable {h g:Nat} {w w' w'':World}
theorem Fz.refl (h g:Nat)(w:World):Fz h g w w:=⟨rfl,rfl,rfl,Nat.le_refl _,fun _ _ _=>rfl⟩
theorem Fz.trans (a:Fz h g w w')(b:Fz h g w' w''):Fz h g w w'':=⟨b.os.trans a.os,b.tape.trans a.tape,b.output.trans a.output,Nat.le_trans a.size b.size,fun k hk hne=>(b.block k hk hne).trans (a.block k hk hne)⟩
theorem Fz.less {h':Nat}(a:Fz h g w w')(hh:h'≤h):Fz h' g w w':=⟨a.os,a.tape,a.output,a.size,fun k hk=>a.block k (by omega)⟩
theorem Fz.of (hb:Below h w w'):Fz h g w w':=⟨hb.os,hb.tape,hb.output,hb.size,fun k hk _=>hb.block k hk⟩
theorem Fz.step (a:Fz h g w w')(hb:Below w'.heap.size w' w'')(hh:h≤w.heap.size:=by exact Nat.le_refl _):Fz h g w w'':=a.trans (Fz.of (hb.mono (Nat.le_trans hh a.size)))
theorem Fz.call (a:Fz h g w w')(b:Fz w'.heap.size g w' w'')(hh:h≤w.heap.size:=by exact Nat.le_refl _):Fz h g w w'':=a.trans (b.less (Nat.le_trans hh a.size))
theorem Fz.put {g':Nat}{T:TypeId}{cur cs:Array Value}{E:Prop}[at_:PutAt E h g g'](a:Fz h g w w')(_k:Blk w' g' T cur)(p:Put w' w'' g' T cs)(e:E):Fz h g w w'':=
 a.trans ⟨p.grown.os,p.grown.tape,p.grown.output,p.grown.size,fun k hk hne=>by
  rcases Nat.lt_or_ge k w'.heap.size with hs|hs
  ·exact p.grown.block k hs (fun e'=>by injection e' with e';rcases at_.ok e with h1|h1<;>omega)
  ·have h1:w'.heap[k]? =none:=by simpa using hs
   have h2:w''.heap[k]? =none:=by have:=p.size;simp;omega
   rw[h1,h2]⟩
theorem Fz.below {B:Nat}(a:Fz h g w w')(h1:B≤h)(h2:B≤g):Below B w w':=⟨a.os,a.tape,a.output,a.size,fun k hk=>a.block k (by omega) (by omega)⟩
theorem Blk.fz {k:Nat}{T:TypeId}{cs:Array Value}(b:Blk w k T cs)(a:Fz w.heap.size g w w')(hne:k≠g:=by omega):Blk w' k T cs:=by
 have h1:=a.block k b.lt hne
 unfold Blk at b⊢
 rw[h1]
 exact b
end
structure Ctx where
 B:Nat
 g:Nat
 c:Nat
 en:Nat
 A:Option Addr
 ws:List Wd
structure Ctx.Ok (K:Ctx):Prop where
 le:K.B≤K.g
 len:K.ws.length≤4000
 en:K.en≤4000
 word:∀x∈K.ws,I64 x.kind∧I64 x.n∧(∀c∈x.text,c<256)∧x.text.length≤4000∧x.pos≤4000
def Ctx.at_ (K:Ctx)(p:Nat):Wd:=K.ws.getD p ⟨-1,[],0,K.en⟩
def wdV (x:Wd):Value:= .agg #[.int .i64 x.kind, .string (strOf x.text), .int .i64 x.n, .int .i64 (x.pos:Int)]
theorem Ctx.at_kind (K:Ctx)(p:Nat):(K.at_ p).kind=(wAt K.ws p).kind∧(K.at_ p).text=(wAt K.ws p).text∧(K.at_ p).n=(wAt K.ws p).n:=by
 unfold Ctx.at_ wAt
 rw[List.getD_eq_getElem?_getD,List.getD_eq_getElem?_getD]
 cases K.ws[p]? <;>exact⟨rfl,rfl,rfl⟩
theorem Ctx.Ok.at_ {K:Ctx}(h:K.Ok)(p:Nat):I64 (K.at_ p).kind∧I64 (K.at_ p).n∧(∀c∈(K.at_ p).text,c<256)∧(K.at_ p).text.length≤4000∧(K.at_ p).pos≤4000:=by
 unfold Ctx.at_
 rw[List.getD_eq_getElem?_getD]
 cases hp:K.ws[p]? with
 |none=>exact⟨show I64 (-1) by unfold I64;decide,show I64 0 by unfold I64;decide,by simp,by simp,h.en⟩
 |some x=>exact h.word x (List.mem_of_getElem? hp)
structure PW (K:Ctx)(w:World)(p d:Nat)(ov:Bool):Prop where
 blk:Blk w K.g 92 #[.slice K.A K.ws.length K.c, .int .i64 (p:Int), .int .i64 (d:Int), .bool ov, .int .i64 (K.en:Int)]
 rd:Reads w K.B 4 K.A K.ws.length (wdCells K.ws)
 p_le:p≤K.ws.length
 d_le:d≤64∨(ov=true∧d≤65)
theorem Reads.fz {w w':World}{K:Ctx}{g h B size n:Nat}{A:Option Addr}{xs:List Value}(r:Reads w B size A n xs)(a:Fz h g w w')(h1:B≤h)(h2:B≤g):Reads w' B size A n xs:=r.below (a.below h1 h2)
theorem PW.step {K:Ctx}{w w':World}{p d:Nat}{ov:Bool}(h:PW K w p d ov)(hk:K.B≤K.g)(hb:Below w.heap.size w w'):PW K w' p d ov:=⟨h.blk.step hb,h.rd.below (hb.mono (by have:=h.blk.lt;omega)),h.p_le,h.d_le⟩
def stopCh:List PanicEntry:=[{v:= .iface 145 (.agg #[]),recovered:=false}]
def PRh {α:Type}(K:Ctx)(h:Nat)(w:World)(d:Nat)(r:Rs α)(okv:α→Value→World→Prop)(e:Ending)(w':World):Prop:=
 Fz h K.g w w'∧match r with
 | .out=>False
 | .bad p ov=>e= .panicked stopCh∧∃d,PW K w' p d ov
 | .ok a p=>∃v,e= .returned v∧PW K w' p d false∧okv a v w'
abbrev PR {α:Type}(K:Ctx)(w:World)(d:Nat)(r:Rs α)(okv:α→Value→World→Prop)(e:Ending)(w':World):Prop:=PRh K w.heap.size w d r okv e w'
theorem PRh.less {α:Type}{K:Ctx}{h h':Nat}{w w':World}{d:Nat}{r:Rs α}{okv:α→Value→World→Prop}{e:Ending}(hr:PRh K h w d r okv e w')(hh:h'≤h):PRh K h' w d r okv e w':=⟨hr.1.less hh,hr.2⟩
theorem Runs.mkIface {P:Program}{E:Operand→Option Value}{o:Oper}{w:World}{x:Operand}{T:TypeId}{v u:Value}(ho:o.op= .makeInterface T x)(hx:E x=some v)(hr:(Instr.makeInterface T v).run P w= .ok u w):Runs P E o w u w:=fun ρ h=>by
 unfold execOp;simp only[ho];rw[h _ _ hx];simp only[Sem.run_bind,hr,Result.andThen_ok];rfl
theorem run_build_stop (w:World):(Instr.build 145 #[]).run Tryz.prog w= .ok (.agg #[]) w:=by kernel_rfl
theorem fail_any (g:Nat)(w:World):Calls Tryz.prog 50 #[.pointer (some ⟨g,0,none⟩)] w fun e w'=>e= .panicked stopCh∧Grow w w':=by
 have bel:=Below.refl w.heap.size w
 refine Zs 4 Tryz.func50 ?_
 refine Zr ?_
 refine Zv (Runs.build rfl rfl (run_build_stop _)) ?_
 refine Zv (Runs.mkIface (u:= .iface 145 (.agg #[])) rfl rfl (by kernel_rfl)) ?_
 refine Seq.panic_ rfl rfl rfl (by rfl) ?_
 exact fun a ha=>⟨ha.defers,rfl,bel⟩
end Go.Proofs.YtaamkfajnpobfaaGreat
namespace Go.Proofs.YtaamkfajnpobfaaGreat
open Go.RowKit
theorem wdCells_row:∀(ws:List Wd) (p:Nat) (x:Wd),ws[p]? =some x→∀(q:Nat) (u:Value),([.int .i64 x.kind, .string (strOf x.text), .int .i64 x.n, .int .i64 (x.pos:Int)]:List Value)[q]? =some u→(wdCells ws)[p*4+q]? =some u
 | [],p,x,h,_,_,_=>by simp at h
 |y::r,0,x,h,q,u,hu=>by
  simp at h
  subst h
  have hq:=(List.getElem?_eq_some_iff.1 hu).1
  rw[Nat.zero_mul,Nat.zero_add]
  show(([.int .i64 y.kind, .string (strOf y.text), .int .i64 y.n, .int .i64 (y.pos:Int)]:List Value)++wdCells r)[q]? =some u
  rw[List.getElem?_append_left hq]
  exact hu
 |y::r,p+1,x,h,q,u,hu=>by
  have ih:=wdCells_row r p x (by simpa using h) q u hu
  show(([.int .i64 y.kind, .string (strOf y.text), .int .i64 y.n, .int .i64 (y.pos:Int)]:List Value)++wdCells r)[(p+1)*4+q]? =some u
  rw[List.getElem?_append_right (by simp;omega),←ih]
  congr 1
  simp
  omega
theorem run_build_word (a d:Int)(w:World):(Instr.build 95 #[(0, .int .i64 a),(3, .int .i64 d)]).run Tryz.prog w= .ok (.agg #[.int .i64 a, .string (strOf []), .int .i64 0, .int .i64 d]) w:=by
 have hu:=Tryz.underlying95
 go_simp
 rfl
theorem word_any (K:Ctx)(hK:K.Ok)(p d:Nat)(ov:Bool)(w:World)(h:PW K w p d ov):Calls Tryz.prog 49 #[.pointer (some ⟨K.g,0,none⟩)] w fun e w'=>e= .returned (wdV (K.at_ p))∧Grow w w':=by
 have bel:=Below.refl w.heap.size w
 have k99:=h.blk
 have hrd:=h.rd
 have hlt:=h.blk.lt
 have hBg:=hK.le
 refine Zs 28 Tryz.func49 ?_
 refine Zsr ?_
 refine Zl zero_lex_Word ?_
 intro g2 w1 n2
 have e2:=Nat.le_trans bel.size n2.ge
 have l2:=Nat.lt_of_lt_of_le k99.lt n2.ge
 replace bel:=bel.step n2.below
 replace k99:=k99.step n2.below
 have k2:=n2.blk
 refine Zk2 0 2 (Zts (Cd.seq ?_))
 refine Cd.draw 9 (by kernel_rfl) [] (.inl rfl) rfl Grow Grow.refl (fun _ _ _=>Grow.trans) ?_
 intro w2 hw2 zw2
 replace bel:=bel.step hw2
 replace k99:=k99.step hw2
 replace k2:=k2.step hw2
 have zbel:=bel.size
 have zlt:=k2.lt
 refine Zdm ?_
 refine Zd (fun w hG=>Runs.nilCheck rfl rfl) ?_
 refine Zd (fun w hG=>Runs.fieldB 1 rfl rfl Tryz.underlying92 rfl (by kernel_rfl)) ?_
 refine Zd (fun w hG=>Runs.loadB rfl rfl Tryz.underlying3 rfl (k99.step hG) rfl) ?_
 refine Zdm ?_
 refine Zd (fun w hG=>Runs.nilCheck rfl rfl) ?_
 refine Zd (fun w hG=>Runs.fieldB 0 rfl rfl Tryz.underlying92 rfl (by kernel_rfl)) ?_
 refine Zd (fun w hG=>Runs.loadB rfl rfl Tryz.underlying88 rfl (k99.step hG) rfl) ?_
 refine Zd (fun w hG=>Runs.len rfl rfl Tryz.underlying88) ?_
 refine Dr.nil ?_
 refine FinX.done (F':=[(0,_),(2,_),(6,_),(11,_)]) rfl ⟨rfl,rfl,rfl,rfl,trivial⟩ ?_
 intro w3 hw3 fw3
 replace bel:=bel.step hw3
 replace k99:=k99.step hw3
 replace k2:=k2.step hw3
 refine Zv (Runs.lss rfl rfl rfl) ?_
 refine Zk3 0 2 12 (Zt ?_)
 refine Cd.condD rfl (fun hc=> ?_) (fun hc=> ?_)
 ·obtain⟨ad,hA,hadb,hcell⟩:=hrd.2 (by omega)
  obtain⟨x,hx⟩:∃x,K.ws[p]? =some x:=⟨_,List.getElem?_eq_getElem (by omega)⟩
  have hat:K.at_ p=x:=by unfold Ctx.at_;rw[List.getD_eq_getElem?_getD,hx];rfl
  have hce:∀W,Below w.heap.size w W→∀(q:Nat) (u:Value),([.int .i64 x.kind, .string (strOf x.text), .int .i64 x.n, .int .i64 (x.pos:Int)]:List Value)[q]? =some u→W.cell? ((ad.add (p*4)).add q)=some u:=fun W hb q u hu=>by
   rw[(hb.mono (show K.B≤w.heap.size by omega)).cell (by rw[block_of_add,block_of_add];exact hadb),add_of_add]
   exact hcell _ _ (wdCells_row K.ws p x hx q u hu)
  rw[hA] at k99
  refine Cd.seq ?_
  refine Cd.draw 8 (by kernel_rfl) [] (.inl rfl) rfl Grow Grow.refl (fun _ _ _=>Grow.trans) ?_
  intro w4 hw4 zw4
  replace bel:=bel.step hw4
  replace k99:=k99.step hw4
  replace k2:=k2.step hw4
  have zbel:=bel.size
  have zlt:=k2.lt
  refine Zdm ?_
  refine Zd (fun w hG=>Runs.nilCheck rfl rfl) ?_
  refine Zd (fun w hG=>Runs.fieldB 0 rfl rfl Tryz.underlying92 rfl (by kernel_rfl)) ?_
  refine Zd (fun w hG=>Runs.loadB rfl rfl Tryz.underlying88 rfl (k99.step hG) rfl) ?_
  refine Zdm ?_
  refine Zd (fun w hG=>Runs.nilCheck rfl rfl) ?_
  refine Zd (fun w hG=>Runs.fieldB 1 rfl rfl Tryz.underlying92 rfl (by kernel_rfl)) ?_
  refine Zd (fun w hG=>Runs.loadB rfl rfl Tryz.underlying3 rfl (k99.step hG) rfl) ?_
  refine Dr.nil ?_
  refine FinX.done (F':=[(0,_),(2,_),(12,_),(16,_),(20,_)]) rfl ⟨rfl,rfl,rfl,rfl,rfl,trivial⟩ ?_
  intro w5 hw5 fw5
  replace bel:=bel.step hw5
  replace k99:=k99.step hw5
  replace k2:=k2.step hw5
  refine Zv (Runs.indexN rfl rfl rfl Tryz.underlying88 (s:=4) (by kernel_rfl) (j:=p) rfl (by omega)) ?_
  refine Zv (Runs.loadF (ps:=[.int .i64 x.kind, .string (strOf x.text), .int .i64 x.n, .int .i64 (x.pos:Int)]) rfl rfl Tryz.underlying95 rfl (m:=4) (by kernel_rfl) rfl (hce _ bel)) ?_
  refine Zo 4 k2 ?_
  intro w6 pw6
  replace bel:=bel.put k2 pw6 e2
  replace k99:=k99.put pw6 (by omega)
  replace k2:=pw6.blk
  refine Zk3 0 2 12 (Zt (Cd.ret (Post.then_ret ?_)))
  refine Post.endC rfl rfl k2 Tryz.underlying95 rfl (m:=4) (by kernel_rfl) rfl (.inl rfl) ?_
  rw[hat]
  exact⟨rfl,bel⟩
 ·have hat:K.at_ p=⟨-1,[],0,K.en⟩:=by
   unfold Ctx.at_
   rw[List.getD_eq_getElem?_getD,List.getElem?_eq_none (by omega)]
   rfl
  refine Cd.skip (Ztq ?_)
  refine Zm ?_
  refine Zv (Runs.nilCheck rfl rfl) ?_
  refine Zf 4 Tryz.underlying92 ?_
  refine Zv (Runs.loadB rfl rfl Tryz.underlying3 rfl k99 rfl) ?_
  refine Zv (Runs.build rfl rfl (run_build_word (-1) _ _)) ?_
  refine Zo 4 k2 ?_
  intro w4 pw4
  replace bel:=bel.put k2 pw4 e2
  replace k99:=k99.put pw4 (by omega)
  replace k2:=pw4.blk
  refine Zk3 0 2 12 (Zt (Cd.ret ?_))
  refine Post.endC rfl rfl k2 Tryz.underlying95 rfl (m:=4) (by kernel_rfl) rfl (.inl rfl) ?_
  rw[hat]
  exact⟨rfl,bel⟩
theorem is_any (K:Ctx)(hK:K.Ok)(p d:Nat)(ov:Bool)(k:Int)(s:List Nat)(w:World)(h:PW K w p d ov)(hs:∀x∈s,x<256):Calls Tryz.prog 118 #[.pointer (some ⟨K.g,0,none⟩), .int .i64 k, .string (strOf s)] w fun e w'=>e= .returned (.bool (decide ((wAt K.ws p).kind=k)&&decide ((wAt K.ws p).text=s)))∧Grow w w':=by
 have bel:=Below.refl w.heap.size w
 obtain⟨a1,a2,a3,a4,a5⟩:=hK.at_ p
 obtain⟨b1,b2,b3⟩:=K.at_kind p
 rw[←b1,←b2]
 have hw:=fun W (hb:Below w.heap.size w W)=>word_any K hK p d ov W (h.step hK.le hb)
 unfold wdV at hw
 refine Zs 20 Tryz.func118 ?_
 refine Zsr ?_
 refine Za ?_
 refine Zk4 0 1 2 6 (Ztq ?_)
 refine Zm ?_
 refine Zc (Ze Tryz.func49) (hw _ bel) ?_
 rintro e w5 ⟨rfl,hb5⟩
 refine⟨_,rfl,?_⟩
 replace bel:=bel.step hb5
 refine Zl zero_lex_Word ?_
 intro g7 w1 n7
 have e7:=Nat.le_trans bel.size n7.ge
 replace bel:=bel.step n7.below
 have k7:=n7.blk
 refine Zo 4 k7 ?_
 intro w2 pw2
 replace bel:=bel.put k7 pw2 e7
 replace k7:=pw2.blk
 refine Zk5 0 1 2 6 7 (Ztq ?_)
 refine Zf 0 Tryz.underlying95 ?_
 refine Zv (Runs.loadB rfl rfl Tryz.underlying3 rfl k7 rfl) ?_
 refine Zm ?_
 refine Zv (Runs.eqlI rfl rfl rfl) ?_
 refine Zm ?_
 refine SeqC.start ?_
 refine Zco (fun hcx=>Runs.fieldB 1 rfl rfl Tryz.underlying95 rfl (by kernel_rfl)) ?_
 refine SeqC.next rfl rfl rfl rfl rfl rfl rfl (fun hcx=>Runs.loadB rfl rfl Tryz.underlying9 rfl k7 rfl) ?_
 refine SeqC.next rfl rfl rfl rfl rfl rfl rfl (fun hcx=>Runs.move rfl rfl) ?_
 refine SeqC.next rfl rfl rfl rfl rfl rfl rfl (fun hcx=>Runs.eqlL rfl rfl rfl a3 hs) ?_
 refine SeqC.and rfl rfl rfl rfl rfl rfl rfl ?_
 refine Za ?_
 refine Zk5 0 1 2 6 7 (Zt (Cd.ret ?_))
 refine Post.end1 rfl rfl (.inl rfl) ?_
 exact⟨rfl,bel⟩
theorem PW.next {K:Ctx}{w w':World}{p d:Nat}{ov:Bool}(h:PW K w p d ov)(hK:K.B≤K.g)(hp:p+1≤K.ws.length)(bel:Fz w.heap.size K.g w w')(hb:Blk w' K.g 92 #[.slice K.A K.ws.length K.c, .int .i64 ((p:Int)+1), .int .i64 (d:Int), .bool ov, .int .i64 (K.en:Int)]):PW K w' (p+1) d ov:=
 ⟨by rw[Int.natCast_add];exact hb,h.rd.below (bel.below (by have:=h.blk.lt;omega) hK),hp,h.d_le⟩
theorem signQ_any (K:Ctx)(hK:K.Ok)(p d:Nat)(s:List Nat)(w:World)(h:PW K w p d false)(hs:∀x∈s,x<256):Calls Tryz.prog 98 #[.pointer (some ⟨K.g,0,none⟩), .string (strOf s)] w (PR K w d (signQ K.ws s p) fun _ _ _=>True):=by
 have bel:=Fz.refl w.heap.size K.g w
 have k99:=h.blk
 have e99:K.g=K.g:=rfl
 have hlt:=h.blk.lt
 have hlen:=hK.len
 have hle:=h.p_le
 have hw:=is_any K hK p d false 0 s w h hs
 have hq:signQ K.ws s p=if(decide ((wAt K.ws p).kind=0)&&decide ((wAt K.ws p).text=s))=true then .ok () (p+1) else .bad p false:=rfl
 refine Zs 17 Tryz.func98 ?_
 refine Cd.seq (Zsr ?_)
 refine Zm ?_
 refine Zm ?_
 refine Zc (Ze Tryz.func118) (hw) ?_
 rintro e w5 ⟨rfl,hb5⟩
 refine⟨_,rfl,?_⟩
 replace bel:=bel.step hb5
 replace k99:=k99.step hb5
 refine Zv (Runs.not rfl rfl) ?_
 refine Zk3 0 1 7 (Zt ?_)
 refine Cd.cond rfl (fun hc=> ?_) (fun hc=> ?_)
 ·have hc:¬(decide ((wAt K.ws p).kind=0)&&decide ((wAt K.ws p).text=s))=true:=by rw[Bool.not_eq_true];simpa only[Bool.not_eq_true'] using hc
  rw[if_neg hc] at hq
  refine Zr ?_
  refine Zm ?_
  refine Seq.callB (Ze Tryz.func50) rfl (fail_any K.g _) ?_
  rintro e w6 ⟨rfl,hb6⟩
  refine⟨_,rfl,fun a ha=>⟨ha.defers,?_⟩⟩
  rw[hq]
  exact⟨bel.step hb6,rfl,d,⟨k99.step hb6,h.rd.below ((bel.step hb6).below (by have:=hK.le;omega) hK.le),h.p_le,h.d_le⟩⟩
 ·have hc:(decide ((wAt K.ws p).kind=0)&&decide ((wAt K.ws p).text=s))=true:=by simpa only[Bool.not_eq_false'] using hc
  rw[if_pos hc] at hq
  have hp:p+1≤K.ws.length:=by
   rcases Nat.lt_or_ge p K.ws.length with hp|hp
   ·exact hp
   ·simp only[Bool.and_eq_true,decide_eq_true_eq] at hc
    have h1:wAt K.ws p=⟨-1,[],0,0⟩:=by unfold wAt;rw[List.getD_eq_getElem?_getD,List.getElem?_eq_none hp];rfl
    rw[h1] at hc
    exact absurd hc.1 (by decide)
  refine Cd.skip (Ztr ?_)
  refine Zm ?_
  refine Zv (Runs.nilCheck rfl rfl) ?_
  refine Zf 1 Tryz.underlying92 ?_
  refine Zv (Runs.loadB rfl rfl Tryz.underlying3 rfl k99 rfl) ?_
  refine Za_ ?_
  refine Zv (Runs.nilCheck rfl rfl) ?_
  refine Zf 1 Tryz.underlying92 ?_
  refine Zq k99 ?_
  intro w1 pw1
  replace bel:=bel.put k99 pw1 e99
  replace k99:=pw1.blk
  refine Zk3 0 1 7 ?_
  refine Post.end0 rfl (.inr rfl) ?_
  rw[hq]
  exact⟨bel,_,rfl,h.next hK.le hp bel k99,trivial⟩
theorem enter_any (K:Ctx)(hK:K.Ok)(p d:Nat)(w:World)(h:PW K w p d false):Calls Tryz.prog 99 #[.pointer (some ⟨K.g,0,none⟩)] w (PR K w (d+1) (enterP p d) fun _ _ _=>True):=by
 have bel:=Fz.refl w.heap.size K.g w
 have k99:=h.blk
 have e99:K.g=K.g:=rfl
 have hlt:=h.blk.lt
 have hde:d≤64:=by rcases h.d_le with h|⟨h,-⟩;exact h;cases h
 have hle:=hK.le
 have hq:enterP p d=if 64<d+1 then .bad p true else .ok () p:=rfl
 refine Zs 19 Tryz.func99 ?_
 refine Zsr ?_
 refine Zm ?_
 refine Zv (Runs.nilCheck rfl rfl) ?_
 refine Zf 2 Tryz.underlying92 ?_
 refine Zv (Runs.loadB rfl rfl Tryz.underlying3 rfl k99 rfl) ?_
 refine Za_ ?_
 refine Zv (Runs.nilCheck rfl rfl) ?_
 refine Zf 2 Tryz.underlying92 ?_
 refine Zq k99 ?_
 intro w1 pw1
 replace bel:=bel.put k99 pw1 e99
 replace k99:=pw1.blk
 refine Zk1 0 (Ztq ?_)
 refine Zm ?_
 refine Zv (Runs.nilCheck rfl rfl) ?_
 refine Zf 2 Tryz.underlying92 ?_
 refine Zv (Runs.loadB rfl rfl Tryz.underlying3 rfl k99 rfl) ?_
 refine Zv (Runs.gtr rfl rfl rfl) ?_
 refine Zk2 0 13 (Zt ?_)
 refine Cd.condD rfl (fun hc=> ?_) (fun hc=> ?_)
 ·rw[if_pos (by omega)] at hq
  refine Zsr ?_
  refine Zm ?_
  refine Zv (Runs.nilCheck rfl rfl) ?_
  refine Zf 3 Tryz.underlying92 ?_
  refine Zq k99 ?_
  intro w2 pw2
  replace bel:=bel.put k99 pw2 e99
  replace k99:=pw2.blk
  refine Zk2 0 13 (Ztr ?_)
  refine Zm ?_
  refine Seq.callB (Ze Tryz.func50) rfl (fail_any K.g _) ?_
  rintro e w6 ⟨rfl,hb6⟩
  refine⟨_,rfl,fun a ha=>⟨ha.defers,?_⟩⟩
  rw[hq]
  exact⟨bel.step hb6,rfl,d+1,⟨by have:=k99.step hb6;rw[Int.natCast_add];exact this,h.rd.below ((bel.step hb6).below (by omega) hle),h.p_le, .inr ⟨rfl,by omega⟩⟩⟩
 ·rw[if_neg (by omega)] at hq
  refine Cd.skip ?_
  refine Post.end0 rfl (.inr rfl) ?_
  rw[hq]
  exact⟨bel,_,rfl,⟨by rw[Int.natCast_add];exact k99,h.rd.below (bel.below (by omega) hle),h.p_le, .inl (by omega)⟩,trivial⟩
end Go.Proofs.YtaamkfajnpobfaaGreat
namespace Go.Proofs.YtaamkfajnpobfaaGreat
open Go.RowKit
def idxZ (L:List (List Nat))(s:List Nat):Int:=if s∈L then(L.idxOf s:Int) else -1
theorem indexS_any (L:List (List Nat))(s:List Nat)(A:Option Addr)(c B:Nat)(w:World)(hr:Reads w B 1 A L.length (strV L))(hB:B≤w.heap.size)(hl:L.length≤1000)(hL:∀t∈L,∀x∈t,x<256)(hs:∀x∈s,x<256):
  Calls Tryz.prog 72 #[.slice A L.length c, .string (strOf s)] w fun e w'=>e= .returned (.int .i64 (idxZ L s))∧Grow w w':=by
 have bel:=Below.refl w.heap.size w
 refine Zs 19 Tryz.func72 ?_
 refine Zsr ?_
 refine Za ?_
 refine Zk3 0 1 4 (Zts (Zsr ?_))
 refine Zm ?_
 refine Zv (Runs.len rfl rfl Tryz.underlying114) ?_
 refine Zm ?_
 refine Zk5 0 1 4 7 8 (Zt (Cd.block ?_))
 refine Cd.loop (σ:=Nat) (fun k=>[(0, .slice A L.length c),(1, .string (strOf s)),(7, .int .i64 (L.length:Int)),(8, .int .i64 (k:Int))]) (fun k wr=>k≤L.length∧Below w.heap.size w wr∧∀t∈L.take k,t≠s) (fun k=>L.length-k) 0 ⟨Nat.zero_le _,bel,by simp⟩ ⟨rfl,rfl,rfl,rfl,trivial⟩ ?_
 clear bel
 rintro k wr ⟨hk,bel,hno⟩
 refine Zsr ?_
 refine Zv (Runs.lss rfl rfl rfl) ?_
 refine Zk5 0 1 7 8 9 (Zts ?_)
 refine Cd.condD rfl (fun hc=> ?_) (fun hc=> ?_)
 ·obtain⟨t,ht⟩:∃t,L[k]? =some t:=⟨_,List.getElem?_eq_getElem (by omega)⟩
  have hr:=hr.below (bel.mono hB)
  obtain⟨ad,rfl,-,hc⟩:=hr.2 (by omega)
  have hc:=hc k (.string (strOf t)) (by simp[strV,ht])
  have htk:L.take (k+1)=L.take k++[t]:=by rw[List.take_add_one,ht];rfl
  refine Cd.skip (Zts (Cd.block (Zsr ?_)))
  refine Zm ?_
  refine Za ?_
  refine Zk6 0 1 5 7 8 9 (Ztq ?_)
  refine Zm ?_
  refine Zm ?_
  refine Zm ?_
  refine Zv (Runs.index1 rfl rfl rfl Tryz.underlying114 (by kernel_rfl) (j:=k) rfl (by omega)) ?_
  refine Zv (Runs.load1 rfl rfl Tryz.underlying9 rfl hc) ?_
  refine Zv (Runs.eqlL rfl rfl rfl hs (hL t (List.mem_of_getElem? ht))) ?_
  refine Zk7 0 1 5 7 8 9 16 (Zt ?_)
  refine Cd.condD rfl (fun hc=> ?_) (fun hc=> ?_)
  ·skip
   refine Zsr ?_
   refine Zm ?_
   refine Za ?_
   refine Zk8 0 1 4 5 7 8 9 16 (Zt (Cd.ret (Post.block_ret (Post.then_ret (Post.round_ret (Post.block_ret (Post.then_ret ?_)))))))
   refine Post.end1 rfl rfl (.inl rfl) ?_
   have hi:L.idxOf s=k:=by
    have hlt:=(List.getElem?_eq_some_iff.1 ht).1
    have h1:L=L.take k++t::L.drop (k+1):=by
     rw[List.getElem?_eq_getElem hlt] at ht
     injection ht with ht
     rw[←ht,List.getElem_cons_drop,List.take_append_drop]
    rw[h1,List.idxOf_append,if_neg (fun hm=>hno s hm rfl),hc,List.idxOf_cons_self,List.length_take]
    omega
   unfold idxZ
   rw[if_pos (by rw[hc];exact List.mem_of_getElem? ht),hi]
   exact⟨rfl,bel⟩
  ·skip
   refine Cd.skip (Post.block_normal (Ztr ?_))
   refine Za_ ?_
   refine Zm ?_
   refine Zk7 0 1 5 7 8 9 16 ?_
   refine Post.round (k+1) ⟨rfl,rfl,rfl,rfl,trivial⟩ ⟨by omega,bel,fun u hu=> ?_⟩ (by omega)
   rw[htk] at hu
   rcases List.mem_append.1 hu with hu|hu
   ·exact hno u hu
   ·obtain rfl:=List.mem_singleton.1 hu
    exact fun e=>hc e.symm
 ·obtain rfl:k=L.length:=by omega
  rw[List.take_of_length_le (Nat.le_refl _)] at hno
  refine Cd.exit (Post.then_exit (Post.round_exit (Post.block_exit (Ztq ?_))))
  refine Za ?_
  refine Zk6 0 1 4 7 8 9 (Zt (Cd.ret ?_))
  refine Post.end1 rfl rfl (.inl rfl) ?_
  unfold idxZ
  rw[if_neg fun hm=>hno s hm rfl]
  exact⟨rfl,bel⟩
structure LvB (w:World)(g lvl ga gb c d:Nat)(cs:Array Value):Prop where
 lev:Blk w g 121 cs
 s0:cs[lvl*3]? =some (.slice (some ⟨ga,0,none⟩) (signsAt lvl).length c)
 s1:cs[lvl*3+1]? =some (.slice (some ⟨gb,0,none⟩) (opsAt lvl).length d)
 s2:cs[lvl*3+2]? =some (.bool (decide (lvl=2)))
 sg:Blk w ga 9 (strV (signsAt lvl)).toArray
 op:Blk w gb 3 (DI (opsAt lvl)).toArray
theorem zero_parse_level:zeroIs Tryz.prog 121=some (some (.agg #[.slice none 0 0, .slice none 0 0, .bool false])):=by kernel_rfl
theorem run_build_level (a b:Addr)(n c m d:Nat)(x:Bool)(w:World):(Instr.build 121 #[(0, .slice (some a) n c),(1, .slice (some b) m d),(2, .bool x)]).run Tryz.prog w= .ok (.agg #[.slice (some a) n c, .slice (some b) m d, .bool x]) w:=by
 have hu:=Tryz.underlying121
 go_simp
theorem levels_any (w:World):Calls Tryz.prog 70 #[] w fun e w'=>∃g,e= .returned (.slice (some ⟨g,0,none⟩) 5 5)∧Grow w w'∧∀lvl,lvl<5→∃ga gb c d cs,LvB w' g lvl ga gb c d cs:=by
 have bel:=Below.refl w.heap.size w
 refine Zs 17 Tryz.func70 ?_
 refine Zsr ?_
 refine Za ?_
 refine Zk1 0 (Ztq ?_)
 refine Seq.slice (vs:=[_]) (s:=1) rfl rfl rfl Tryz.underlying114 (by kernel_rfl) (zero_string) (by omega) (by omega) ⟨rfl,trivial⟩ rfl rfl rfl ?_
 intro g1 w1 n1
 have e1:=Nat.le_trans bel.size n1.ge
 replace bel:=bel.step n1.below
 have k1:=n1.blk
 refine Seq.slice (vs:=[_]) (s:=1) rfl rfl rfl Tryz.underlying43 (by kernel_rfl) (zero_int) (by omega) (by omega) ⟨rfl,trivial⟩ rfl rfl rfl ?_
 intro g2 w2 n2
 have e2:=Nat.le_trans bel.size n2.ge
 have l2:=Nat.lt_of_lt_of_le k1.lt n2.ge
 replace bel:=bel.step n2.below
 replace k1:=k1.step n2.below
 have k2:=n2.blk
 refine Zv (Runs.build rfl rfl (run_build_level _ _ _ _ _ _ _ _)) ?_
 refine Seq.slice (vs:=[_]) (s:=1) rfl rfl rfl Tryz.underlying114 (by kernel_rfl) (zero_string) (by omega) (by omega) ⟨rfl,trivial⟩ rfl rfl rfl ?_
 intro g4 w3 n4
 have e4:=Nat.le_trans bel.size n4.ge
 have l4:=Nat.lt_of_lt_of_le k2.lt n4.ge
 replace bel:=bel.step n4.below
 replace k1:=k1.step n4.below
 replace k2:=k2.step n4.below
 have k4:=n4.blk
 refine Seq.slice (vs:=[_]) (s:=1) rfl rfl rfl Tryz.underlying43 (by kernel_rfl) (zero_int) (by omega) (by omega) ⟨rfl,trivial⟩ rfl rfl rfl ?_
 intro g5 w4 n5
 have e5:=Nat.le_trans bel.size n5.ge
 have l5:=Nat.lt_of_lt_of_le k4.lt n5.ge
 replace bel:=bel.step n5.below
 replace k1:=k1.step n5.below
 replace k2:=k2.step n5.below
 replace k4:=k4.step n5.below
 have k5:=n5.blk
 refine Zv (Runs.build rfl rfl (run_build_level _ _ _ _ _ _ _ _)) ?_
 refine Seq.slice (vs:=[_,_,_,_,_,_]) (s:=1) rfl rfl rfl Tryz.underlying114 (by kernel_rfl) (zero_string) (by omega) (by omega) ⟨rfl,rfl,rfl,rfl,rfl,rfl,trivial⟩ rfl rfl rfl ?_
 intro g7 w5 n7
 have e7:=Nat.le_trans bel.size n7.ge
 have l7:=Nat.lt_of_lt_of_le k5.lt n7.ge
 replace bel:=bel.step n7.below
 replace k1:=k1.step n7.below
 replace k2:=k2.step n7.below
 replace k4:=k4.step n7.below
 replace k5:=k5.step n7.below
 have k7:=n7.blk
 refine Seq.slice (vs:=[_,_,_,_,_,_]) (s:=1) rfl rfl rfl Tryz.underlying43 (by kernel_rfl) (zero_int) (by omega) (by omega) ⟨rfl,rfl,rfl,rfl,rfl,rfl,trivial⟩ rfl rfl rfl ?_
 intro g8 w6 n8
 have e8:=Nat.le_trans bel.size n8.ge
 have l8:=Nat.lt_of_lt_of_le k7.lt n8.ge
 replace bel:=bel.step n8.below
 replace k1:=k1.step n8.below
 replace k2:=k2.step n8.below
 replace k4:=k4.step n8.below
 replace k5:=k5.step n8.below
 replace k7:=k7.step n8.below
 have k8:=n8.blk
 refine Zv (Runs.build rfl rfl (run_build_level _ _ _ _ _ _ _ _)) ?_
 refine Seq.slice (vs:=[_,_]) (s:=1) rfl rfl rfl Tryz.underlying114 (by kernel_rfl) (zero_string) (by omega) (by omega) ⟨rfl,rfl,trivial⟩ rfl rfl rfl ?_
 intro g10 w7 n10
 have e10:=Nat.le_trans bel.size n10.ge
 have l10:=Nat.lt_of_lt_of_le k8.lt n10.ge
 replace bel:=bel.step n10.below
 replace k1:=k1.step n10.below
 replace k2:=k2.step n10.below
 replace k4:=k4.step n10.below
 replace k5:=k5.step n10.below
 replace k7:=k7.step n10.below
 replace k8:=k8.step n10.below
 have k10:=n10.blk
 refine Seq.slice (vs:=[_,_]) (s:=1) rfl rfl rfl Tryz.underlying43 (by kernel_rfl) (zero_int) (by omega) (by omega) ⟨rfl,rfl,trivial⟩ rfl rfl rfl ?_
 intro g11 w8 n11
 have e11:=Nat.le_trans bel.size n11.ge
 have l11:=Nat.lt_of_lt_of_le k10.lt n11.ge
 replace bel:=bel.step n11.below
 replace k1:=k1.step n11.below
 replace k2:=k2.step n11.below
 replace k4:=k4.step n11.below
 replace k5:=k5.step n11.below
 replace k7:=k7.step n11.below
 replace k8:=k8.step n11.below
 replace k10:=k10.step n11.below
 have k11:=n11.blk
 refine Zv (Runs.build rfl rfl (run_build_level _ _ _ _ _ _ _ _)) ?_
 refine Seq.slice (vs:=[_,_]) (s:=1) rfl rfl rfl Tryz.underlying114 (by kernel_rfl) (zero_string) (by omega) (by omega) ⟨rfl,rfl,trivial⟩ rfl rfl rfl ?_
 intro g13 w9 n13
 have e13:=Nat.le_trans bel.size n13.ge
 have l13:=Nat.lt_of_lt_of_le k11.lt n13.ge
 replace bel:=bel.step n13.below
 replace k1:=k1.step n13.below
 replace k2:=k2.step n13.below
 replace k4:=k4.step n13.below
 replace k5:=k5.step n13.below
 replace k7:=k7.step n13.below
 replace k8:=k8.step n13.below
 replace k10:=k10.step n13.below
 replace k11:=k11.step n13.below
 have k13:=n13.blk
 refine Seq.slice (vs:=[_,_]) (s:=1) rfl rfl rfl Tryz.underlying43 (by kernel_rfl) (zero_int) (by omega) (by omega) ⟨rfl,rfl,trivial⟩ rfl rfl rfl ?_
 intro g14 w10 n14
 have e14:=Nat.le_trans bel.size n14.ge
 have l14:=Nat.lt_of_lt_of_le k13.lt n14.ge
 replace bel:=bel.step n14.below
 replace k1:=k1.step n14.below
 replace k2:=k2.step n14.below
 replace k4:=k4.step n14.below
 replace k5:=k5.step n14.below
 replace k7:=k7.step n14.below
 replace k8:=k8.step n14.below
 replace k10:=k10.step n14.below
 replace k11:=k11.step n14.below
 replace k13:=k13.step n14.below
 have k14:=n14.blk
 refine Zv (Runs.build rfl rfl (run_build_level _ _ _ _ _ _ _ _)) ?_
 refine Seq.slice (vs:=[_,_,_,_,_]) (s:=3) rfl rfl rfl Tryz.underlying116 (by kernel_rfl) (zero_parse_level) (by omega) (by omega) ⟨rfl,rfl,rfl,rfl,rfl,trivial⟩ rfl rfl rfl ?_
 intro g16 w11 n16
 have e16:=Nat.le_trans bel.size n16.ge
 have l16:=Nat.lt_of_lt_of_le k14.lt n16.ge
 replace bel:=bel.step n16.below
 replace k1:=k1.step n16.below
 replace k2:=k2.step n16.below
 replace k4:=k4.step n16.below
 replace k5:=k5.step n16.below
 replace k7:=k7.step n16.below
 replace k8:=k8.step n16.below
 replace k10:=k10.step n16.below
 replace k11:=k11.step n16.below
 replace k13:=k13.step n16.below
 replace k14:=k14.step n16.below
 have k16:=n16.blk
 refine Za ?_
 refine Zk1 0 (Zt (Cd.ret ?_))
 refine Post.end1 rfl rfl (.inl rfl) ?_
 refine⟨_,rfl,bel,fun lvl hlvl=> ?_⟩
 match lvl,hlvl with
 |0,_=>exact⟨_,_,_,_,_,k16,rfl,rfl,rfl,k1,k2⟩
 |1,_=>exact⟨_,_,_,_,_,k16,rfl,rfl,rfl,k4,k5⟩
 |2,_=>exact⟨_,_,_,_,_,k16,rfl,rfl,rfl,k7,k8⟩
 |3,_=>exact⟨_,_,_,_,_,k16,rfl,rfl,rfl,k10,k11⟩
 |4,_=>exact⟨_,_,_,_,_,k16,rfl,rfl,rfl,k13,k14⟩
theorem name_any (K:Ctx)(hK:K.Ok)(p d:Nat)(w:World)(h:PW K w p d false):Calls Tryz.prog 53 #[.pointer (some ⟨K.g,0,none⟩)] w (PR K w d (nameP K.ws p) fun nm v _=>v= .string (strOf nm)):=by
 have bel:=Fz.refl w.heap.size K.g w
 have k99:=h.blk
 have e99:K.g=K.g:=rfl
 have hlt:=h.blk.lt
 have hlen:=hK.len
 have hle:=h.p_le
 obtain⟨a1,a2,a3,a4,a5⟩:=hK.at_ p
 obtain⟨b1,b2,b3⟩:=K.at_kind p
 have hw:=fun W (hb:Below w.heap.size w W)=>word_any K hK p d false W (h.step hK.le hb)
 unfold wdV at hw
 have hres:=fun W=>reserved_any (K.at_ p).text W a3
 have hq:nameP K.ws p=if(K.at_ p).kind=3∧reservedB (K.at_ p).text=false then .ok (K.at_ p).text (p+1) else .bad p false:=by rw[b1,b2];rfl
 refine Zs 25 Tryz.func53 ?_
 refine Zsr ?_
 refine Za ?_
 refine Zk2 0 2 (Ztq ?_)
 refine Zm ?_
 refine Zc (Ze Tryz.func49) (hw _ (Below.refl _ _)) ?_
 rintro e w5 ⟨rfl,hb5⟩
 refine⟨_,rfl,?_⟩
 replace bel:=bel.step hb5
 replace k99:=k99.step hb5
 refine Zl zero_lex_Word ?_
 intro g3 w1 n3
 have e3:=Nat.le_trans bel.size n3.ge
 have l3:=Nat.lt_of_lt_of_le k99.lt n3.ge
 replace bel:=bel.step n3.below
 replace k99:=k99.step n3.below
 have k3:=n3.blk
 refine Zo 4 k3 ?_
 intro w2 pw2
 replace bel:=bel.put k3 pw2 e3
 replace k99:=k99.put pw2 (by omega)
 replace k3:=pw2.blk
 refine Zk3 0 2 3 (Zts (Zsr ?_))
 refine Zf 0 Tryz.underlying95 ?_
 refine Zv (Runs.loadB rfl rfl Tryz.underlying3 rfl k3 rfl) ?_
 refine Zv (Runs.neqI rfl rfl rfl) ?_
 refine Zm ?_
 refine SeqC.start ?_
 refine Zco (fun hcx=>Runs.fieldB 1 rfl rfl Tryz.underlying95 rfl (by kernel_rfl)) ?_
 refine SeqC.next rfl rfl rfl rfl rfl rfl rfl (fun hcx=>Runs.loadB rfl rfl Tryz.underlying9 rfl k3 rfl) ?_
 refine SeqC.nextC rfl rfl rfl rfl rfl rfl rfl (fun hcx=>Ze Tryz.func100) (fun hcx=>hres _) ?_
 intro w3 hw3
 replace bel:=bel.step hw3
 replace k99:=k99.step hw3
 replace k3:=k3.step hw3
 refine SeqC.or rfl rfl rfl rfl rfl rfl rfl ?_
 refine Zk4 0 2 3 13 (Zt ?_)
 refine Cd.cond rfl (fun hc=> ?_) (fun hc=> ?_)
 ·have hc:¬((K.at_ p).kind=3∧reservedB (K.at_ p).text=false):=by
   rintro⟨c1,c2⟩
   simp[c1,c2] at hc
  rw[if_neg hc] at hq
  refine Zr ?_
  refine Zm ?_
  refine Seq.callB (Ze Tryz.func50) rfl (fail_any K.g _) ?_
  rintro e w6 ⟨rfl,hb6⟩
  refine⟨_,rfl,fun a ha=>⟨ha.defers,?_⟩⟩
  rw[hq]
  exact⟨bel.step hb6,rfl,d,⟨k99.step hb6,h.rd.below ((bel.step hb6).below (by have:=hK.le;omega) hK.le),h.p_le,h.d_le⟩⟩
 ·have hc:(K.at_ p).kind=3∧reservedB (K.at_ p).text=false:=by
   simpa using hc
  rw[if_pos hc] at hq
  have hp:p+1≤K.ws.length:=by
   rcases Nat.lt_or_ge p K.ws.length with hp|hp
   ·exact hp
   ·have h1:(K.at_ p).kind= -1:=by unfold Ctx.at_;rw[List.getD_eq_getElem?_getD,List.getElem?_eq_none hp];rfl
    rw[h1] at hc
    exact absurd hc.1 (by decide)
  refine Cd.skip (Ztq ?_)
  refine Zm ?_
  refine Zv (Runs.nilCheck rfl rfl) ?_
  refine Zf 1 Tryz.underlying92 ?_
  refine Zv (Runs.loadB rfl rfl Tryz.underlying3 rfl k99 rfl) ?_
  refine Za_ ?_
  refine Zv (Runs.nilCheck rfl rfl) ?_
  refine Zf 1 Tryz.underlying92 ?_
  refine Zq k99 ?_
  intro w4 pw4
  replace bel:=bel.put k99 pw4 e99
  replace k3:=k3.put pw4 (by omega)
  replace k99:=pw4.blk
  refine Zk4 0 2 3 13 (Ztq ?_)
  refine Zf 1 Tryz.underlying95 ?_
  refine Zv (Runs.loadB rfl rfl Tryz.underlying9 rfl k3 rfl) ?_
  refine Za ?_
  refine Zk4 0 2 3 13 (Zt (Cd.ret ?_))
  refine Post.end1 rfl rfl (.inl rfl) ?_
  rw[hq]
  exact⟨bel,_,rfl,h.next hK.le hp bel k99,rfl⟩
end Go.Proofs.YtaamkfajnpobfaaGreat
namespace Go.Proofs.YtaamkfajnpobfaaGreat
open Go.RowKit
theorem Ctx.Ok.le_of {K:Ctx}(hK:K.Ok){w:World}{p d:Nat}{ov:Bool}(h:PW K w p d ov):K.B≤w.heap.size:=by have:=hK.le;have:=h.blk.lt;omega
theorem signQ_ne (ws:List Wd)(s:List Nat)(p:Nat):signQ ws s p≠ .out:=by unfold signQ;split<;>simp
theorem enterP_ne (p d:Nat):enterP p d≠ .out:=by unfold enterP;split<;>simp
theorem nameP_ne (ws:List Wd)(p:Nat):nameP ws p≠ .out:=by unfold nameP;split<;>simp
theorem partsP_cons {α:Type}(ws:List Wd)(one:Nat→Nat→Rs α)(r:List (Nat→Nat→Rs α))(first:Bool)(p d:Nat):partsP ws (one::r) first p d=(if first=true then Rs.ok () p else signQ ws [44] p).bind fun _ p=>(one p d).bind fun x p=>(partsP ws r false p d).bind fun xs p=> .ok (x::xs) p:=rfl
theorem PW.deep {K:Ctx}{w:World}{p d:Nat}(h:PW K w p d false):d≤64:=by
 rcases h.d_le with h|⟨h,-⟩
 ·exact h
 ·cases h
theorem PRh.mono {α:Type}{K:Ctx}{h d:Nat}{w w':World}{r:Rs α}{ok1 ok2:α→Value→World→Prop}{e:Ending}(hr:PRh K h w d r ok1 e w')(hm:∀a v w',ok1 a v w'→ok2 a v w'):PRh K h w d r ok2 e w':=by
 refine⟨hr.1,?_⟩
 cases r with
 |out=>exact hr.2
 |bad p o=>exact hr.2
 |ok a p=>obtain⟨v,h1,h2,h3⟩:=hr.2;exact⟨v,h1,h2,hm _ _ _ h3⟩
theorem within_any {α:Type}(K:Ctx)(hK:K.Ok)(h0:Nat)(ones:List (Nat→Nat→Rs α))(fs:List (Nat × List Value))(AP:Option Addr)(cP:Nat)(M:List α→World→Prop)(p d:Nat)(w:World)(h:PW K w p d false)(hh0:h0≤w.heap.size)
  (hlen:fs.length=ones.length) (hn:ones.length≤10) (hM0:M [] w) (hMs:∀(xs:List α) (W W':World) (p d:Nat),M xs W→PW K W p d false→Fz W.heap.size K.g W W'→M xs W')
  (hMr:∀(xs:List α) (W:World) (i f:Nat) (cp:List Value),M xs W→fs[i]? =some (f,cp)→∃ad,AP=some ad∧W.cell? (ad.add i)=some (.func (.func f) #[] cp.toArray))
  (heg:∀(i f:Nat) (cp:List Value),fs[i]? =some (f,cp)→∀args w,(callFunc f args).run Tryz.prog w= .ok (.enter f args) w)
  (hone:∀(i f:Nat) (cp:List Value) (one:Nat→Nat→Rs α),fs[i]? =some (f,cp)→ones[i]? =some one→∀(xs:List α) (W:World) (p:Nat),xs.length=i→PW K W p (d+1) false→h0≤W.heap.size→M xs W→one p (d+1)≠ .out→Calls Tryz.prog f cp.toArray W (PRh K h0 W (d+1) (one p (d+1)) fun x _ W'=>M (xs++[x]) W'))
  (hne:withinP K.ws ones p d≠ .out):
  Calls Tryz.prog 51 #[.pointer (some ⟨K.g,0,none⟩), .slice AP fs.length cP] w (PRh K h0 w d (withinP K.ws ones p d) fun xs _ W'=>M xs W'):=by
 have bel:=Fz.refl h0 K.g w
 have pw:=h
 have e99:K.g=K.g:=rfl
 have hlt:=h.blk.lt
 have hle:=hK.le
 obtain⟨R,hR⟩:∃R,R=withinP K.ws ones p d:=⟨_,rfl⟩
 rw[←hR] at hne⊢
 have hRu:R=(signQ K.ws [40] p).bind fun _ p=>(enterP p d).bind fun _ p=>(partsP K.ws ones true p (d+1)).bind fun xs p=>(signQ K.ws [41] p).bind fun _ p=> .ok xs p:=hR
 clear hR
 have hsg:=signQ_any K hK p d [40] w h (by decide)
 refine Zs 33 Tryz.func51 ?_
 refine Zsr ?_
 refine Zm ?_
 rcases Rs.ok_or (signQ_ne K.ws [40] p) with ⟨p1,o1,hr1⟩|⟨u1,p1,hr1⟩
 ·rw[hr1] at hsg hRu
  refine Seq.callB (Ze Tryz.func98) rfl hsg ?_
  rintro e w6 ⟨hf,rfl,d6,hp6⟩
  refine⟨_,rfl,fun a ha=>⟨ha.defers,?_⟩⟩
  rw[hRu]
  exact⟨hf.less hh0,rfl,d6,hp6⟩
 rw[hr1] at hsg hRu
 replace hRu:R=(enterP p1 d).bind fun _ p=>(partsP K.ws ones true p (d+1)).bind fun xs p=>(signQ K.ws [41] p).bind fun _ p=> .ok xs p:=hRu
 refine Zc (Ze Tryz.func98) (hsg) ?_
 rintro e w5 ⟨hf5,v5,rfl,pw,-⟩
 refine⟨_,rfl,?_⟩
 replace bel:=bel.call hf5 hh0
 have hs5:=bel.size
 have hM5:=hMs _ _ _ _ _ hM0 h hf5
 have hen:=enter_any K hK p1 d w5 pw
 have pwo:=pw
 refine Zk2 0 1 (Ztq ?_)
 refine Zm ?_
 rcases Rs.ok_or (enterP_ne p1 d) with ⟨p2,o2,hr2⟩|⟨u2,p2,hr2⟩
 ·rw[hr2] at hen hRu
  refine Seq.callB (Ze Tryz.func99) rfl hen ?_
  rintro e w6 ⟨hf,rfl,d6,hp6⟩
  refine⟨_,rfl,fun a ha=>⟨ha.defers,?_⟩⟩
  rw[hRu]
  exact⟨bel.call hf hh0,rfl,d6,hp6⟩
 rw[hr2] at hen hRu
 replace hRu:R=(partsP K.ws ones true p2 (d+1)).bind fun xs p=>(signQ K.ws [41] p).bind fun _ p=> .ok xs p:=hRu
 refine Zc (Ze Tryz.func99) (hen) ?_
 rintro e w6 ⟨hf6,v6,rfl,pw,-⟩
 refine⟨_,rfl,?_⟩
 replace bel:=bel.call hf6 hh0
 have hs6:=bel.size
 have hM6:=hMs _ _ _ _ _ hM5 pwo hf6
 obtain⟨R0,hR0⟩:∃R0,R0=partsP K.ws ones true p2 (d+1):=⟨_,rfl⟩
 rw[←hR0] at hRu
 have hne0:R0≠ .out:=Rs.bind_ne (by rw[←hRu];exact hne)
 refine Zk2 0 1 (Zts (Zsr ?_))
 refine Zm ?_
 refine Zv (Runs.len rfl rfl Tryz.underlying101) ?_
 refine Zm ?_
 refine Zk5 0 1 10 11 12 (Zt (Cd.block ?_))
 refine Cd.loop (σ:=Nat × Nat × List α) (fun s=>[(0, .pointer (some ⟨K.g,0,none⟩)),(10, .slice AP fs.length cP),(11, .int .i64 (fs.length:Int)),(12, .int .i64 (s.1:Int))])
  (fun s wr=>s.1≤ones.length∧PW K wr s.2.1 (d+1) false∧Fz h0 K.g w wr∧M s.2.2 wr∧s.2.2.length=s.1∧R0=(partsP K.ws (ones.drop s.1) (decide (s.1=0)) s.2.1 (d+1)).bind fun ys p=> .ok (s.2.2++ys) p)
  (fun s=>ones.length-s.1) (0,p2,[]) ⟨Nat.zero_le _,pw,bel,hM6,rfl,by rw[hR0];show _=(partsP K.ws ones true p2 (d+1)).bind _;cases partsP K.ws ones true p2 (d+1)<;>rfl⟩ ⟨rfl,rfl,rfl,rfl,trivial⟩ ?_
 clear bel pw hM6 hM5 hM0 hR0
 rintro⟨i,pi,xs⟩ wr ⟨hi,pw,bel,hM,hxl,hinv⟩
 dsimp only at hi pw hM hxl hinv⊢
 have hsr:=bel.size
 refine Zsr ?_
 refine Zv (Runs.lss rfl rfl rfl) ?_
 refine Zk5 0 10 11 12 13 (Zts ?_)
 refine Cd.condD rfl (fun hc=> ?_) (fun hc=> ?_)
 ·obtain⟨one,ho⟩:∃one,ones[i]? =some one:=⟨_,List.getElem?_eq_getElem (by omega)⟩
  obtain⟨⟨f,cp⟩,hfc⟩:∃f,fs[i]? =some f:=⟨_,List.getElem?_eq_getElem (by omega)⟩
  obtain⟨ad,hA,hcl⟩:=hMr xs wr i f cp hM hfc
  have hdr:ones.drop i=one::ones.drop (i+1):=by
   have hlt:=(List.getElem?_eq_some_iff.1 ho).1
   rw[List.drop_eq_getElem_cons hlt]
   rw[List.getElem?_eq_getElem hlt] at ho
   injection ho with ho
   rw[ho]
  rw[hdr] at hinv
  rw[hA]
  refine Cd.skip (Zts (Cd.block (Zsr ?_)))
  refine Zm ?_
  refine Zv (Runs.index1 rfl rfl rfl Tryz.underlying101 (by kernel_rfl) (j:=i) rfl (by omega)) ?_
  refine Zv (Runs.load1 rfl rfl Tryz.underlying1 rfl hcl) ?_
  refine Za ?_
  refine Za ?_
  refine Zk7 0 4 5 10 11 12 13 (Zt ?_)
  refine Cd.seqJ (σ:=Nat) (fun _=>[(0, .pointer (some ⟨K.g,0,none⟩)),(5, .func (.func f) #[] cp.toArray),(10, .slice (some ad) fs.length cP),(11, .int .i64 (fs.length:Int)),(12, .int .i64 (i:Int))]) (fun pj wj=>PW K wj pj (d+1) false∧Fz h0 K.g w wj∧M xs wj∧R0=(one pj (d+1)).bind fun x p=>(partsP K.ws (ones.drop (i+1)) false p (d+1)).bind fun ys p=> .ok (xs++(x::ys)) p) ?_ ?_
  ·skip
   refine Zsr ?_
   refine Zm ?_
   refine Zv (Runs.gtr rfl rfl rfl) ?_
   refine Zk8 0 4 5 10 11 12 13 18 (Zt ?_)
   refine Cd.condD rfl (fun hc=> ?_) (fun hc=> ?_)
   ·have hinv:R0=(signQ K.ws [44] pi).bind fun _ p=>(one p (d+1)).bind fun x p=>(partsP K.ws (ones.drop (i+1)) false p (d+1)).bind fun ys p=> .ok (xs++(x::ys)) p:=by
     rw[hinv,partsP_cons,decide_eq_false (show¬i=0 by omega),if_neg (by decide)]
     simp only[Rs.bind_assoc]
     rfl
    have hsg:=signQ_any K hK pi (d+1) [44] wr pw (by decide)
    have pwo:=pw
    refine Zr ?_
    refine Zm ?_
    rcases Rs.ok_or (signQ_ne K.ws [44] pi) with ⟨p1,o1,hr1⟩|⟨u1,p1,hr1⟩
    ·rw[hr1] at hsg hinv
     refine Seq.callB (Ze Tryz.func98) rfl hsg ?_
     rintro e w7 ⟨hf,rfl,d6,hp6⟩
     refine⟨_,rfl,fun a ha=>⟨ha.defers,?_⟩⟩
     rw[hRu,hinv]
     exact⟨bel.call hf hh0,rfl,d6,hp6⟩
    rw[hr1] at hsg hinv
    refine Zc (Ze Tryz.func98) (hsg) ?_
    rintro e w7 ⟨hf7,v7,rfl,pw,-⟩
    refine⟨_,rfl,?_⟩
    refine Zk8 0 4 5 10 11 12 13 18 ?_
    exact Post.join p1 ⟨rfl,rfl,rfl,rfl,rfl,trivial⟩ ⟨pw,bel.call hf7 hh0,hMs _ _ _ _ _ hM pwo hf7,hinv⟩
   ·obtain rfl:i=0:=by omega
    refine Cd.skip ?_
    refine Post.join pi ⟨rfl,rfl,rfl,rfl,rfl,trivial⟩ ⟨pw,bel,hM,?_⟩
    rw[hinv,partsP_cons,decide_eq_true rfl,if_pos rfl]
    simp only[Rs.bind_assoc,Rs.bind_ok]
  clear bel pw hM hinv
  rintro pj wj ⟨pw,bel,hM,hinv⟩
  have hsj:=bel.size
  have hne1:one pj (d+1)≠ .out:=Rs.bind_ne (by rw[←hinv];exact hne0)
  have hcall:=hone i f cp one hfc ho xs wj pj hxl pw (by omega) hM hne1
  refine Zr ?_
  refine Zm ?_
  rcases Rs.ok_or hne1 with ⟨p1,o1,hr1⟩|⟨x,p1,hr1⟩
  ·rw[hr1] at hcall hinv
   refine Seq.callB (Enters.value (first:=[]) (cap:=cp) rfl rfl rfl (heg i f cp hfc)) rfl hcall ?_
   rintro e w7 ⟨hf,rfl,d6,hp6⟩
   refine⟨_,rfl,fun a ha=>⟨ha.defers,?_⟩⟩
   rw[hRu,hinv]
   exact⟨bel.trans hf,rfl,d6,hp6⟩
  rw[hr1] at hcall hinv
  refine Seq.call (Enters.value (first:=[]) (cap:=cp) rfl rfl rfl (heg i f cp hfc)) rfl rfl rfl hcall ?_
  rintro e w7 ⟨hf7,v7,rfl,pw,hM⟩
  refine⟨_,rfl,?_⟩
  refine Zk5 0 5 10 11 12 (Post.block_normal (Ztr ?_))
  refine Za_ ?_
  refine Zm ?_
  refine Zk5 0 5 10 11 12 ?_
  refine Post.round (i+1,p1,xs++[x]) ⟨rfl,rfl,rfl,rfl,trivial⟩ ⟨by dsimp only;omega,pw,bel.trans hf7,hM,by dsimp only;rw[List.length_append,hxl];rfl,?_⟩ (by dsimp only;omega)
  dsimp only
  rw[hinv,decide_eq_false (show¬i+1=0 by omega),Rs.bind_ok]
  simp only[List.append_assoc,List.cons_append,List.nil_append]
 ·obtain rfl:i=ones.length:=by omega
  rw[List.drop_of_length_le (Nat.le_refl _)] at hinv
  have hinv:R0= .ok xs pi:=by rw[hinv];unfold partsP;rw[Rs.bind_ok,List.append_nil]
  rw[hinv] at hRu
  replace hRu:R=(signQ K.ws [41] pi).bind fun _ p=> .ok xs p:=hRu
  have hsg:=signQ_any K hK pi (d+1) [41] wr pw (by decide)
  have pwo:=pw
  refine Cd.exit (Post.then_exit (Post.round_exit (Post.block_exit (Ztq ?_))))
  refine Zm ?_
  rcases Rs.ok_or (signQ_ne K.ws [41] pi) with ⟨p1,o1,hr1⟩|⟨u1,p1,hr1⟩
  ·rw[hr1] at hsg hRu
   refine Seq.callB (Ze Tryz.func98) rfl hsg ?_
   rintro e w7 ⟨hf,rfl,d6,hp6⟩
   refine⟨_,rfl,fun a ha=>⟨ha.defers,?_⟩⟩
   rw[hRu]
   exact⟨bel.call hf hh0,rfl,d6,hp6⟩
  rw[hr1] at hsg hRu
  refine Zc (Ze Tryz.func98) (hsg) ?_
  rintro e w7 ⟨hf7,v7,rfl,pw,-⟩
  refine⟨_,rfl,?_⟩
  replace bel:=bel.call hf7 hh0
  have hM:=hMs _ _ _ _ _ hM pwo hf7
  have k99:=pw.blk
  have hd64:=pw.deep
  have loc:=Fz.refl w7.heap.size K.g w7
  refine Zk5 0 10 11 12 13 (Ztr ?_)
  refine Zm ?_
  refine Zv (Runs.nilCheck rfl rfl) ?_
  refine Zf 2 Tryz.underlying92 ?_
  refine Zv (Runs.loadB rfl rfl Tryz.underlying3 rfl k99 rfl) ?_
  refine Zv (Runs.subI rfl rfl rfl (by omega) (by omega)) ?_
  refine Zv (Runs.nilCheck rfl rfl) ?_
  refine Zf 2 Tryz.underlying92 ?_
  refine Zq k99 ?_
  intro w1 pw1
  replace bel:=bel.put k99 pw1 e99
  replace loc:=loc.put k99 pw1 e99
  replace k99:=pw1.blk
  refine Zk5 0 10 11 12 13 ?_
  refine Post.end0 rfl (.inr rfl) ?_
  rw[hRu]
  have hcast:((d+1:Nat):Int)-1=(d:Int):=by omega
  rw[hcast] at k99
  exact⟨bel,_,rfl,⟨k99,pw.rd.below (loc.below (hK.le_of pw) hle),pw.p_le, .inl (by omega)⟩,hMs _ _ _ _ _ hM pw loc⟩
end Go.Proofs.YtaamkfajnpobfaaGreat
namespace Go.Proofs.YtaamkfajnpobfaaGreat
open Go.RowKit
variable [Inhabited (List Deferred)]
theorem look_app (A B:List (Nat × Value))(t:Nat):look (A++B) t=match look A t with|some v=>some v|none=>look B t:=by
 induction A with
 |nil=>rfl
 |cons x r ih=>
  obtain⟨k,v⟩:=x
  show(bif Nat.beq k t then some v else look (r++B) t)=match (bif Nat.beq k t then some v else look r t) with|some v=>some v|none=>look B t
  cases Nat.beq k t with
  |true=>rfl
  |false=>exact ih
def slotsF (S:Nat→Bool):Nat→List Oper→List Value→List (Nat × Value)
 |k,o::r,v::vs=>match o.dst with
  |some d=>bif S k then(d,v)::slotsF S (k+1) r vs else slotsF S (k+1) r vs
  |none=>slotsF S (k+1) r vs
 |_,_,_=>[]
theorem slotsF_look {S:Nat→Bool}:∀ {l:List Oper} {vs:List Value} {k t:Nat} {v:Value},look (slotsF S k l vs) t=some v→∃(j:Nat) (o:Oper),l[j]? =some o∧o.dst=some t∧vs[j]? =some v∧S (k+j)=true
 | [],_,_,_,_,h=>by simp[slotsF,look] at h
 |_::_,[],_,_,_,h=>by simp[slotsF,look] at h
 |o::r,v::vs,k,t,u,h=>by
  unfold slotsF at h
  have up:look (slotsF S (k+1) r vs) t=some u→∃(j:Nat) (o':Oper),(o::r)[j]? =some o'∧o'.dst=some t∧(v::vs)[j]? =some u∧S (k+j)=true:=fun h=>by
   obtain⟨j,o',h1,h2,h3,h4⟩:=slotsF_look h
   exact⟨j+1,o',by simpa using h1,h2,by simpa using h3,by rw[show k+(j+1)=k+1+j from by omega];exact h4⟩
  cases hd:o.dst with
  |none=>rw[hd] at h;exact up h
  |some d=>
   rw[hd] at h
   simp only at h
   cases hS:S k with
   |false=>rw[hS] at h;exact up h
   |true=>
    rw[hS,cond_true] at h
    rcases look_put h with ⟨rfl,rfl⟩|⟨_,h⟩
    ·exact⟨0,o,rfl,hd,rfl,hS⟩
    ·exact up h
theorem slotsF_mem {S:Nat→Bool}:∀ {l:List Oper} {vs:List Value} {k j:Nat} {o:Oper} {d:Nat} {v:Value},l[j]? =some o→o.dst=some d→vs[j]? =some v→S (k+j)=true→(∀i o',l[i]? =some o'→i≠j→o'.dst≠some d)→look (slotsF S k l vs) d=some v
 | [],_,_,_,_,_,_,h,_,_,_,_=>by simp at h
 |_::_,[],_,_,_,_,_,_,_,h,_,_=>by simp at h
 |o0::r,v0::vs,k,0,o,d,v,h1,h2,h3,h4,h5=>by
  simp at h1 h3
  subst h1 h3
  unfold slotsF
  rw[h2]
  simp only
  rw[Nat.add_zero] at h4
  rw[h4,cond_true]
  unfold look
  rw[Nat.beq_refl]
  rfl
 |o0::r,v0::vs,k,j+1,o,d,v,h1,h2,h3,h4,h5=>by
  have ih:=slotsF_mem (S:=S) (l:=r) (vs:=vs) (k:=k+1) (j:=j) (o:=o) (d:=d) (v:=v) (by simpa using h1) h2 (by simpa using h3) (by rw[show k+1+j=k+(j+1) from by omega];exact h4) (fun i o' hi hne=>h5 (i+1) o' (by simpa using hi) (by omega))
  unfold slotsF
  cases hd:o0.dst with
  |none=>exact ih
  |some d0=>
   simp only
   cases S k with
   |false=>exact ih
   |true=>
    have hne:d0≠d:=fun e=>h5 0 o0 rfl (by omega) (by rw[hd,e])
    rw[cond_true]
    unfold look
    have:Nat.beq d0 d=false:=by
     cases hb:Nat.beq d0 d with
     |false=>rfl
     |true=>exact absurd (Nat.eq_of_beq_eq_true hb) hne
    rw[this,cond_false]
    exact ih
section
variable {P:Program} {Q:Exit→Act→World→Prop} {n:Nat} {F0:List (Nat × Value)}
def frameG (l:List Oper)(F0:List (Nat × Value))(vs:List Value)(S:Nat→Bool)(o:Oper):List (Nat × Value):=slotsF (fun k=>memB (direct o) k) 0 l vs++(F0++slotsF S 0 l vs)
def AfterG {σT:Type}(l:List Oper)(n:Nat)(F0:List (Nat × Value))(vs:σT→List Value)(X:σT→(Nat→Bool)→World→Prop)(S:Nat→Bool)(k:Nat)(a:Act)(w:World):Prop:=
 ∃σ,Fr n F0 a∧(∀(j:Nat) (o:Oper) (d:Nat) (v:Value),l[j]? =some o→o.dst=some d→updC S k j=true→(vs σ)[j]? =some v→a.tmps[d]? =some v)∧X σ (updC S k) w
def DownC (l:List Oper)(S:Nat→Bool):Prop:=∀(i:Nat) (o:Oper),l[i]? =some o→S i=true→∀x∈direct o,S x=true
def StepG {σT:Type}(P:Program)(ops:Array Oper)(Q:Exit→Act→World→Prop)(l:List Oper)(n:Nat)(F0:List (Nat × Value))(vs:σT→List Value)(X:σT→(Nat→Bool)→World→Prop)(k:Nat)(o:Oper):Prop:=
 ∀(σ:σT) (S:Nat→Bool) (w:World),S k=false→(∀x∈direct o,S x=true)→DownC l S→X σ S w→Seq P ops (Exit.then (AfterG l n F0 vs X S k) Q) [o] n (frameG l F0 (vs σ) S o) w
theorem oper_then {o:Oper}{a:Act}{w:World}{K K':Act→World→Prop}(h:o.wp P a w K (Exit.then K' Q)):o.wp P a w K Q:=by
 unfold Oper.wp at *
 unfold Oper.upon at *
 split at h<;>exact h
theorem done_slots {l:List Oper}{keys:List Nat}(hchk:chkInit n keys 0 [] l=true){j:Nat}{o:Oper}{d:Nat}(h:l[j]? =some o)(hd:o.dst=some d):d<n∧d∉keys∧∀i o',l[i]? =some o'→i≠j→o'.dst≠some d:=by
 obtain⟨-,h2⟩:=chkInit_spec hchk j o h
 obtain⟨a1,-,a3,a4⟩:=h2 d hd
 exact⟨a1,a3,a4⟩
theorem Post.afterG {σT:Type}{l:List Oper}{vs:σT→List Value}{X:σT→(Nat→Bool)→World→Prop}{σ σ':σT}{S:Nat→Bool}{k d:Nat}{o:Oper}{u:Value}{w':World}(hchk:chkInit n (keysOf F0) 0 [] l=true)(ho:l[k]? =some o)(hd:o.dst=some d)(hpre:∀x∈direct o,S x=true)(hu:(vs σ')[k]? =some u)(hj:∀j,S j=true→(vs σ')[j]? =(vs σ)[j]?)(hX:X σ' (updC S k) w'):
  Post (Exit.then (AfterG l n F0 vs X S k) Q) .normal n ((d,u)::frameG l F0 (vs σ) S o) w':=by
 intro a ha
 obtain⟨b1,b2,b3⟩:=done_slots hchk ho hd
 have hF:∀t v,look F0 t=some v→a.tmps[t]? =some v:=fun t v ht=>by
  have hk:=look_keys ht
  have hnone:∀S',look (slotsF S' 0 l (vs σ)) t=none:=fun S'=>by
   cases hl:look (slotsF S' 0 l (vs σ)) t with
   |none=>rfl
   |some x=>
    obtain⟨j,o',h1,h2,-,-⟩:=slotsF_look hl
    exact absurd hk (done_slots hchk h1 h2).2.1
  refine ha.slot t v ?_
  unfold look
  cases hb:Nat.beq d t with
  |true=>rw[Nat.eq_of_beq_eq_true hb] at b2;exact absurd hk b2
  |false=>
   rw[cond_false]
   unfold frameG
   rw[look_app,hnone]
   simp only
   rw[look_app,ht]
 refine⟨σ',⟨ha.size,ha.defers,hF⟩,fun j o' d' v h1 h2 h3 h4=> ?_,hX⟩
 by_cases hjk:j=k
 ·subst hjk
  rw[ho] at h1
  injection h1 with h1
  subst h1
  rw[hd] at h2
  injection h2 with h2
  subst h2
  rw[hu] at h4
  injection h4 with h4
  subst h4
  exact ha.slot d u (by unfold look;rw[Nat.beq_refl];rfl)
 ·have hS:S j=true:=by unfold updC at h3;rwa [if_neg hjk] at h3
  have hv:(vs σ)[j]? =some v:=by rw[←hj j hS];exact h4
  obtain⟨c1,c2,c3⟩:=done_slots hchk h1 h2
  refine ha.slot d' v ?_
  have hne:d≠d':=fun e=>b3 j o' h1 hjk (by rw[h2,e])
  unfold look
  have hb:Nat.beq d d'=false:=by
   cases hb:Nat.beq d d' with
   |false=>rfl
   |true=>exact absurd (Nat.eq_of_beq_eq_true hb) hne
  rw[hb,cond_false]
  unfold frameG
  rw[look_app]
  have h0:look (slotsF S 0 l (vs σ)) d'=some v:=slotsF_mem h1 h2 hv (by rw[Nat.zero_add];exact hS) c3
  cases hl:look (slotsF (fun k=>memB (direct o) k) 0 l (vs σ)) d' with
  |none=>
   simp only
   rw[look_app]
   cases hf:look F0 d' with
   |none=>simp only;exact h0
   |some y=>exact absurd (look_keys hf) c2
  |some x=>
   obtain⟨i,oi,e1,e2,e3,-⟩:=slotsF_look hl
   have:i=j:=by
    by_cases hij:i=j
    ·exact hij
    ·exact absurd e2 (c3 i oi e1 hij)
   subst this
   rw[hv] at e3
   exact e3.symm
theorem Post.afterG0 {σT:Type}{l:List Oper}{vs:σT→List Value}{X:σT→(Nat→Bool)→World→Prop}{σ σ':σT}{S:Nat→Bool}{k:Nat}{o:Oper}{w':World}(hchk:chkInit n (keysOf F0) 0 [] l=true)(ho:l[k]? =some o)(hd:o.dst=none)(hj:∀j,S j=true→(vs σ')[j]? =(vs σ)[j]?)(hX:X σ' (updC S k) w'):
  Post (Exit.then (AfterG l n F0 vs X S k) Q) .normal n (frameG l F0 (vs σ) S o) w':=by
 intro a ha
 have hF:∀t v,look F0 t=some v→a.tmps[t]? =some v:=fun t v ht=>by
  have hk:=look_keys ht
  have hnone:∀S',look (slotsF S' 0 l (vs σ)) t=none:=fun S'=>by
   cases hl:look (slotsF S' 0 l (vs σ)) t with
   |none=>rfl
   |some x=>
    obtain⟨j,o',h1,h2,-,-⟩:=slotsF_look hl
    exact absurd hk (done_slots hchk h1 h2).2.1
  refine ha.slot t v ?_
  unfold frameG
  rw[look_app,hnone]
  simp only
  rw[look_app,ht]
 refine⟨σ',⟨ha.size,ha.defers,hF⟩,fun j o' d' v h1 h2 h3 h4=> ?_,hX⟩
 have hjk:j≠k:=fun e=>by
  subst e
  rw[ho] at h1
  injection h1 with h1
  subst h1
  rw[hd] at h2
  cases h2
 have hS:S j=true:=by unfold updC at h3;rwa [if_neg hjk] at h3
 have hv:(vs σ)[j]? =some v:=by rw[←hj j hS];exact h4
 obtain⟨c1,c2,c3⟩:=done_slots hchk h1 h2
 refine ha.slot d' v ?_
 unfold frameG
 rw[look_app]
 have h0:look (slotsF S 0 l (vs σ)) d'=some v:=slotsF_mem h1 h2 hv (by rw[Nat.zero_add];exact hS) c3
 cases hl:look (slotsF (fun k=>memB (direct o) k) 0 l (vs σ)) d' with
 |none=>
  simp only
  rw[look_app]
  cases hf:look F0 d' with
  |none=>simp only;exact h0
  |some y=>exact absurd (look_keys hf) c2
 |some x=>
  obtain⟨i,oi,e1,e2,e3,-⟩:=slotsF_look hl
  have:i=j:=by
   by_cases hij:i=j
   ·exact hij
   ·exact absurd e2 (c3 i oi e1 hij)
  subst this
  rw[hv] at e3
  exact e3.symm
def allF:List Oper→List Value→List (Nat × Value)→List (Nat × Value)
 |o::r,v::vs,F=>match o.dst with
  |some d=>(d,v)::allF r vs F
  |none=>allF r vs F
 |_,_,F=>F
theorem allF_look:∀ {l:List Oper} {vs:List Value} {F:List (Nat × Value)} {t:Nat} {v:Value},look (allF l vs F) t=some v→(∃(j:Nat) (o:Oper),l[j]? =some o∧o.dst=some t∧vs[j]? =some v)∨look F t=some v
 | [],_,_,_,_,h=> .inr h
 |_::_,[],_,_,_,h=> .inr h
 |o::r,u::vs,F,t,v,h=>by
  have up:look (allF r vs F) t=some v→(∃(j:Nat) (o':Oper),(o::r)[j]? =some o'∧o'.dst=some t∧(u::vs)[j]? =some v)∨look F t=some v:=fun h=>by
   rcases allF_look h with ⟨j,o',h1,h2,h3⟩|h
   ·exact .inl ⟨j+1,o',by simpa using h1,h2,by simpa using h3⟩
   ·exact .inr h
  unfold allF at h
  cases hd:o.dst with
  |none=>rw[hd] at h;exact up h
  |some d=>
   rw[hd] at h
   simp only at h
   rcases look_put h with ⟨rfl,rfl⟩|⟨_,h⟩
   ·exact .inl ⟨0,o,rfl,hd,rfl⟩
   ·exact up h
theorem rep_getD (m i:Nat):(Array.replicate m false).getD i false=false:=by by_cases h:i<m<;>simp[h]
def inAll (ds:List Nat):Nat→Bool
 |0=>true
 |k+1=>memB ds k&&inAll ds k
theorem inAll_spec {ds:List Nat}:∀ {m:Nat},inAll ds m=true→∀i,i<m→i∈ds
 |0,_,i,hi=>by omega
 |m+1,h,i,hi=>by
  unfold inAll at h
  simp only[Bool.and_eq_true] at h
  rcases Nat.lt_or_ge i m with h1|h1
  ·exact inAll_spec h.2 i h1
  ·obtain rfl:i=m:=by omega
   exact memB_spec h.1
def chkRest (m:Nat):List Oper→Bool
 | []=>true
 |o::r=>inAll (direct o) m&&ltAll m (direct o)&&chkTail (m+1) r
theorem Cd.drawG {σT:Type}(m:Nat){id:Nat}{l:List Oper}{w:World}(hm:P.follows .mixedOrders=true)(hchk:chkInit n (keysOf F0) 0 [] (l.take m)=true)(hrest:chkRest (l.take m).length (l.drop m)=true)(vs:σT→List Value)(X:σT→(Nat→Bool)→World→Prop)(σ0:σT)
  (h0:∀w0,Below w.heap.size w w0→w0.heap.size=w.heap.size→X σ0 (fun _=>false) w0)
  (hstep:∀(k:Nat) (o:Oper),(l.take m)[k]? =some o→StepG P l.toArray Q (l.take m) n F0 vs X k o)
  (hfin:∀(σ:σT) (S:Nat→Bool) (w:World),(∀i,i<(l.take m).length→S i=true)→X σ S w→Seq P l.toArray Q (l.drop m) n (allF (l.take m) (vs σ) F0) w):Cd P (.region id l.toArray true) Q n F0 w:=by
 have hops:l.toArray=(l.take m++l.drop m).toArray:=by rw[List.take_append_drop]
 revert hchk hrest hstep hfin
 generalize l.take m=init at *
 generalize l.drop m=tail at *
 intro hchk hrest hstep hfin
 generalize l.toArray=ops at *
 intro a ha
 refine wp_region_any hm ?_
 have hw0:=h0 {w with drawn:=w.drawn+1} ⟨rfl,rfl,rfl,Nat.le_refl _,fun _ _=>rfl⟩ rfl
 have c1:=chkInit_spec hchk
 have hsz:ops.size=init.length+tail.length:=by rw[hops];simp
 have hat:∀i,i<init.length→ops[i]? =init[i]? :=fun i hi=>by rw[hops];simp[List.getElem?_append_left hi]
 have hat2:∀r,ops[init.length+r]? =tail[r]? :=fun r=>by rw[hops];simp[List.getElem?_append_right]
 have t0:∀o,tail[0]? =some o→(∀x∈direct o,x<init.length)∧∀i,i<init.length→i∈direct o:=by
  intro o ho
  cases tail with
  |nil=>simp at ho
  |cons o1 r=>
   obtain rfl:o1=o:=by simpa using ho
   unfold chkRest at hrest
   simp only[Bool.and_eq_true] at hrest
   exact⟨ltAll_spec hrest.1.2,inAll_spec hrest.1.1⟩
 have ts:∀i o,tail[i+1]? =some o→(∀x∈direct o,x<init.length+1+i)∧init.length+1+i-1∈direct o:=by
  intro i o ho
  cases tail with
  |nil=>simp at ho
  |cons o1 r=>
   unfold chkRest at hrest
   simp only[Bool.and_eq_true] at hrest
   exact chkTail_spec hrest.2 i o (by simpa using ho)
 have key:∀(fuel:Nat) (listed:Array Bool) (σ:σT) (a:Act) (w:World),listed.size=ops.size→DownC init (fun j=>listed.getD j false)→(∀i,init.length≤i→i<ops.size→listed.getD i true=false)→Fr n F0 a→(∀(j:Nat) (o:Oper) (d:Nat) (v:Value),init[j]? =some o→o.dst=some d→listed.getD j false=true→(vs σ)[j]? =some v→a.tmps[d]? =some v)→X σ (fun j=>listed.getD j false) w→left listed ops.size≤fuel→wpAny P .any ops Q fuel listed a w:=by
  have fin:∀(fuel:Nat) (listed:Array Bool) (σ:σT) (a:Act) (w:World),listed.size=ops.size→(∀i,i<init.length→listed.getD i true=true)→(∀i,init.length≤i→i<ops.size→listed.getD i true=false)→Fr n F0 a→(∀(j:Nat) (o:Oper) (d:Nat) (v:Value),init[j]? =some o→o.dst=some d→listed.getD j false=true→(vs σ)[j]? =some v→a.tmps[d]? =some v)→X σ (fun j=>listed.getD j false) w→left listed ops.size≤fuel→wpAny P .any ops Q fuel listed a w:=by
   intro fuel listed σ a w hl hall hts hF hD hX hf
   have hb:∀i,i<init.length→listed.getD i false=true:=fun i hi=>by
    have h1:=hall i hi
    have h2:i<listed.size:=by omega
    simp[h2] at h1⊢
    exact h1
   have hleft:∀k,k≤ops.size→left listed k=k-init.length:=by
    intro k
    induction k with
    |zero=>intro _;show 0=0-init.length;omega
    |succ k ihk=>
     intro hk
     unfold left
     rw[ihk (by omega)]
     rcases Nat.lt_or_ge k init.length with h1|h1
     ·rw[if_pos (hall k h1)];omega
     ·rw[if_neg (by rw[hts k h1 (by omega)];simp)];omega
   refine phase2 hops (fun o ho=>(t0 o ho).1) ts fuel 0 listed a w hl (Nat.zero_le _) (fun i hi=>hall i (by omega)) (fun i hi hi2=>hts i (by omega) hi2) (by have:=hleft ops.size (Nat.le_refl _);omega) ?_
   rw[List.drop_zero]
   refine hfin σ _ w hb hX a ⟨hF.size,hF.defers,fun t v ht=> ?_⟩
   rcases allF_look ht with ⟨j,o,h1,h2,h3⟩|h
   ·exact hD j o t v h1 h2 (hb j (List.getElem?_eq_some_iff.1 h1).1) h3
   ·exact hF.slot t v h
  intro fuel
  induction fuel with
  |zero=>
   intro listed σ a w hl hdc hts hF hD hX hf
   have hall:=left_zero (Nat.le_zero.1 hf)
   exact fin 0 listed σ a w hl (fun i hi=>hall i (by omega)) hts hF hD hX hf
  |succ fuel ih=>
   intro listed σ a w hl hdc hts hF hD hX hf
   by_cases hdone:∀i,i<init.length→listed.getD i true=true
   ·exact fin _ listed σ a w hl hdone hts hF hD hX hf
   have hex:∃i,i∈Region.ready .any ops listed:=by
    refine Classical.byContradiction fun hno=>hdone ?_
    have this:∀i,(∀j,j<i→j<init.length→listed.getD j true=true)→i<init.length→listed.getD i true=true:=fun i hlt hi=>by
     cases hb:listed.getD i true with
     |true=>rfl
     |false=>
      exfalso
      refine hno ⟨i,ready_iff.2 ⟨hb,init[i],by rw[hat i hi,List.getElem?_eq_getElem hi],fun x hx=> ?_⟩⟩
      have hxi:=(c1 i _ (List.getElem?_eq_getElem hi)).1 x hx
      have h1:=hlt x (by omega) (by omega)
      have h2:x<listed.size:=by omega
      simp[h2] at h1⊢
      exact h1
    have all:∀m i,i≤m→i<init.length→listed.getD i true=true:=by
     intro m
     induction m using Nat.strongRecOn with
     |_ m ihm=>intro i him hi;exact this i (fun j hj hjl=>ihm j (by omega) j (Nat.le_refl _) hjl) hi
    exact fun i hi=>all i i (Nat.le_refl _) hi
   refine⟨fun hnil=>(by obtain⟨i,hi⟩:=hex;rw[hnil] at hi;cases hi),fun i hi=> ?_⟩
   ·obtain⟨g1,o,ho,g2⟩:=ready_iff.1 hi
    have hio:=(Array.getElem?_eq_some_iff.1 ho).1
    have hil:i<init.length:=by
     rcases Nat.lt_or_ge i init.length with h|h
     ·exact h
     ·exfalso
      obtain⟨q,rfl⟩:∃q,i=init.length+q:=⟨i-init.length,by omega⟩
      rw[hat2] at ho
      cases q with
      |zero=>
       refine hdone fun j hj=> ?_
       have h1:=g2 j ((t0 o ho).2 j hj)
       have h2:j<listed.size:=by omega
       simp[h2] at h1⊢
       exact h1
      |succ q=>
       have h1:=g2 _ (ts q o ho).2
       have h2:=hts (init.length+1+q-1) (by omega) (by omega)
       rw[getD_both h2] at h1
       cases h1
    rw[hat i hil] at ho
    have hSi:listed.getD i false=false:=getD_both g1
    have hst:=hstep i o ho σ (fun j=>listed.getD j false) w hSi g2 hdc hX a ⟨hF.size,hF.defers,fun t v ht=>by
     unfold frameG at ht
     rw[look_app] at ht
     cases h1:look (slotsF (fun k=>memB (direct o) k) 0 init (vs σ)) t with
     |some x=>
      rw[h1] at ht
      injection ht with ht
      subst ht
      obtain⟨j,oj,e1,e2,e3,e4⟩:=slotsF_look h1
      rw[Nat.zero_add] at e4
      exact hD j oj t x e1 e2 (g2 j (memB_spec e4)) e3
     |none=>
      rw[h1] at ht
      simp only at ht
      rw[look_app] at ht
      cases h2:look F0 t with
      |some x=>
       rw[h2] at ht
       injection ht with ht
       subst ht
       exact hF.slot t x h2
      |none=>
       rw[h2] at ht
       simp only at ht
       obtain⟨j,oj,e1,e2,e3,e4⟩:=slotsF_look ht
       rw[Nat.zero_add] at e4
       exact hD j oj t v e1 e2 e4 e3⟩
    have hupd:(fun j=>(listed.setIfInBounds i true).getD j false)=updC (fun j=>listed.getD j false) i:=by
     funext j
     unfold updC
     by_cases e:i=j
     ·subst e;simp[getD_set_self false (show i<listed.size by omega)]
     ·rw[getD_set_ne false e,if_neg (fun h=>e h.symm)]
    have next:∀a' w',AfterG init n F0 vs X (fun j=>listed.getD j false) i a' w'→wpAny P .any ops Q fuel (listed.setIfInBounds i true) a' w':=by
     rintro a' w' ⟨σ',h1,h2,h3⟩
     rw[←hupd] at h3
     refine ih _ σ' a' w' (by simp[hl]) ?_ (fun j h4 h5=>by rw[getD_set_ne true (by omega)];exact hts j h4 h5) h1 (fun j oj d v e1 e2 e3 e4=>h2 j oj d v e1 e2 (by rw[←hupd];exact e3) e4) h3 ?_
     ·intro i2 o2 e1 e2 x hx
      simp only at e2⊢
      by_cases e:i=i2
      ·subst e
       rw[ho] at e1
       injection e1 with e1
       subst e1
       exact getD_set_true (g2 x hx)
      ·rw[getD_set_ne false e] at e2
       exact getD_set_true (hdc i2 o2 e1 e2 x hx)
     ·have:=left_set (listed:=listed) (i:=i) (by omega) g1 ops.size
      rw[if_pos hio] at this
      omega
    unfold wpOp
    rw[hat i hil,ho]
    simp only
    unfold wpList at hst
    by_cases hwant:Region.wanted o (yielded ops a.tmps)=true
    ·rw[if_pos hwant] at hst⊢
     rcases hst with hst|⟨h1,h2⟩
     ·exact .inl (Oper.wp_mono next (oper_then (Oper.wp_mono (fun a' w' h=>h) hst)))
     ·exact .inr ⟨h1,h2⟩
    ·rw[if_neg hwant] at hst⊢
     exact next _ _ hst
 refine key ops.size _ σ0 a _ (by simp) (fun i o _ h=> ?_) (fun i _ h=>by simp[h]) ha (fun j o d v _ _ h _=> ?_) ?_ ?_
 ·simp only[rep_getD] at h;cases h
 ·rw[rep_getD] at h;cases h
 ·have hrep:(fun j=>(Array.replicate ops.size false).getD j false)=fun _=>false:=funext fun i=>rep_getD _ i
  rw[hrep]
  exact hw0
 ·have:∀k,left (Array.replicate ops.size false) k≤k:=by
   intro k
   induction k with
   |zero=>exact Nat.le_refl _
   |succ k ih=>unfold left;split<;>omega
  exact this _
end
end Go.Proofs.YtaamkfajnpobfaaGreat
namespace Go.Proofs.YtaamkfajnpobfaaGreat
open Go.RowKit
structure Kp (w w':World):Prop where
 size:w.heap.size≤w'.heap.size
 keep:∀k t cs,Blk w k t cs→t≠25→t≠35→t≠92→Blk w' k t cs
section
variable {w w' w'':World}
theorem Kp.refl (w:World):Kp w w:=⟨Nat.le_refl _,fun _ _ _ h _ _ _=>h⟩
theorem Kp.trans (a:Kp w w')(b:Kp w' w''):Kp w w'':=⟨Nat.le_trans a.size b.size,fun k t cs h h1 h2 h3=>b.keep k t cs (a.keep k t cs h h1 h2 h3) h1 h2 h3⟩
theorem Kp.step (a:Kp w w')(b:Below w'.heap.size w' w''):Kp w w'':=a.trans ⟨b.size,fun _ _ _ h _ _ _=>h.step b⟩
theorem Kp.fz {g:Nat}{cs:Array Value}(a:Kp w w')(k:Blk w' g 92 cs)(b:Fz w'.heap.size g w' w''):Kp w w'':=a.trans ⟨b.size,fun i t cs h _ _ h3=>h.fz b fun e=>h3 (by
 subst e
 have h1:w'.heap[i]? =_:=h
 have h2:w'.heap[i]? =_:=k
 rw[h1] at h2
 injection h2 with h2
 injection h2)⟩
theorem Kp.put {g:Nat}{E:Prop}{T:TypeId}{cur cs:Array Value}(a:Kp w w')(k:Blk w' g T cur)(p:Put w' w'' g T cs)(_e:E)(hT:(T=25∨T=35∨T=92)∨w.heap.size≤g:=by first|exact .inl (by decide)|exact .inr (by omega)):Kp w w'':=by
 refine⟨Nat.le_trans a.size (Nat.le_of_eq p.size.symm),fun i t cs h h1 h2 h3=> ?_⟩
 rcases hT with hT|hg
 ·exact(a.keep i t cs h h1 h2 h3).put p ((a.keep i t cs h h1 h2 h3).ne k (by rcases hT with rfl|rfl|rfl<;>assumption))
 ·exact(a.keep i t cs h h1 h2 h3).put p (by have:=h.lt;omega)
theorem Kp.app {B n size:Nat}{e:TypeId}{v:Value}{xs:List Value}(a:Kp w w')(o:Own w' B e size v n xs)(ha:App w' w'' B v)(hT:e=25∨e=35:=by decide):Kp w w'':=
 a.trans ⟨ha.below.size,fun i t cs h h1 h2 _=>h.grown ha.grown (fun e'=>own_blk_ne o.row h (by rcases hT with rfl|rfl<;>exact fun e=>by first|exact h1 e.symm|exact h2 e.symm) e'.symm)⟩
end
theorem Kp.blk {w w':World}{k:Nat}{t:TypeId}{cs:Array Value}(a:Kp w w')(h:Blk w k t cs)(h1:t≠25:=by decide)(h2:t≠35:=by decide)(h3:t≠92:=by decide):Blk w' k t cs:=a.keep k t cs h h1 h2 h3
structure ArgQ (W:World)(h gt:Nat)(es:List Ex)(ts:List Tm)(evs tvs:List Value)(vE vT:Value)(S:Nat→Prop):Prop where
 lenE:evs.length=es.length
 lenT:tvs.length=ts.length
 ownE:Own W h 35 4 vE es.length (flatC evs)
 ownT:Own W h 25 4 vT ts.length (flatC tvs)
 repE:∀(i:Nat) (e:Ex) (v:Value),es[i]? =some e→evs[i]? =some v→RepE W S e v
 repT:∀(i:Nat) (t:Tm) (v:Value),ts[i]? =some t→tvs[i]? =some v→RepT W S t v
 away:∀b,S b→h≤b∧b<W.heap.size∧b≠gt∧vE.ownBlock≠some b∧vT.ownBlock≠some b
 neE:vE.ownBlock≠some gt
 neT:vT.ownBlock≠some gt
section
variable {W W':World} {h gt g:Nat} {es:List Ex} {ts:List Tm} {evs tvs:List Value} {vE vT:Value} {S:Nat→Prop}
theorem Own.keepRow {B n size:Nat}{e:TypeId}{v:Value}{xs:List Value}(o:Own W B e size v n xs)(hs:W.heap.size≤W'.heap.size)(hb:∀b,v.ownBlock=some b→W'.heap[b]? =W.heap[b]?):Own W' B e size v n xs:=by
 obtain⟨h1,⟨h2,h3⟩|⟨g,cap,cur,rfl,e2,e3,e4⟩⟩:=o.row
 ·exact⟨h1, .inl ⟨h2,h3⟩⟩
 ·exact⟨h1, .inr ⟨g,cap,cur,rfl,e2,(hb g rfl).trans e3,e4⟩⟩
theorem ArgQ.keep (a:ArgQ W h gt es ts evs tvs vE vT S)(hs:W.heap.size≤W'.heap.size)(hb:∀b,h≤b→b<W.heap.size→b≠gt→W'.heap[b]? =W.heap[b]?):ArgQ W' h gt es ts evs tvs vE vT S:=by
 have hS:∀p:Addr,S p.block→W'.cell? p=W.cell? p:=fun p hp=>by
  obtain⟨b1,b2,b3,-,-⟩:=a.away _ hp
  exact World.cell?_of_block (hb _ b1 b2 b3)
 refine⟨a.lenE,a.lenT,a.ownE.keepRow hs fun b e=> ?_,a.ownT.keepRow hs fun b e=> ?_,fun i e v h1 h2=>(a.repE i e v h1 h2).mono (fun _ h=>h) hS,fun i e v h1 h2=>(a.repT i e v h1 h2).mono (fun _ h=>h) hS,fun b hb=> ?_,a.neE,a.neT⟩
 ·obtain⟨h1,h2⟩:=a.ownE.blockLt b e
  exact hb b h1 h2 fun e'=>a.neE (by rw[e,e'])
 ·obtain⟨h1,h2⟩:=a.ownT.blockLt b e
  exact hb b h1 h2 fun e'=>a.neT (by rw[e,e'])
 ·obtain⟨b1,b2,b3,b4,b5⟩:=a.away b hb
  exact⟨b1,by omega,b3,b4,b5⟩
theorem ArgQ.fz (a:ArgQ W h gt es ts evs tvs vE vT S)(f:Fz W.heap.size g W W')(hg:g<h):ArgQ W' h gt es ts evs tvs vE vT S:=a.keep f.size fun b h1 h2 _=>f.block b h2 (by omega)
theorem ArgQ.step (a:ArgQ W h gt es ts evs tvs vE vT S)(f:Below W.heap.size W W'):ArgQ W' h gt es ts evs tvs vE vT S:=a.keep f.size fun b _ h2 _=>f.block b h2
theorem ArgQ.put {T:TypeId}{cur cs:Array Value}{B:Nat}(a:ArgQ W h gt es ts evs tvs vE vT S)(_k:Blk W gt T cur)(p:Put W W' gt T cs)(_e:B≤gt):ArgQ W' h gt es ts evs tvs vE vT S:=a.keep (Nat.le_of_eq p.size.symm) fun b _ h2 h3=>p.grown.block b h2 fun e=>h3 (by injection e)
end
theorem Own.setLast {w:World}{B s n:Nat}{e:TypeId}{v:Value}{xs ys:List Value}(o:Own w B e s v (n+1) (xs++ys))(hl:xs.length=n*s):∃g cap cur,v= .slice (some ⟨g,0,none⟩) (n+1) cap∧B≤g∧g<w.heap.size∧Blk w g e cur∧n*s+s≤cur.size∧
  ∀(w':World) (cs:Array Value),cs.size=s→Put w w' g e (cur.toList.take (n*s)++(cs.toList++cur.toList.drop (n*s+cs.size))).toArray→Own w' B e s v (n+1) (xs++cs.toList):=by
 obtain⟨h1,⟨-,h3⟩|⟨g,cap,cur,rfl,e2,e3,e4,e5,e6,e7⟩⟩:=o.row
 ·omega
 ·have hk:Blk w g e cur:=e3
  have hm:(n+1)*s≤cap*s:=Nat.mul_le_mul_right s e4
  have hns:(n+1)*s=n*s+s:=Nat.succ_mul n s
  refine⟨g,cap,cur,rfl,e2,hk.lt,hk,by omega,fun w' cs hcs p=>⟨?_, .inr ⟨g,cap,_,rfl,e2,p.blk,e4,e5,?_,?_⟩⟩⟩
  ·have:cs.toList.length=s:=by simpa using hcs
   rw[List.length_append,hl,this,hns]
  ·have h9:cur.toList.length=cap*s:=by simpa using e6
   have:cs.toList.length=s:=by simpa using hcs
   simp only[List.size_toArray,List.length_append,List.length_take,List.length_drop,this,h9,hcs]
   omega
  ·have h9:cur.toList.length=cap*s:=by simpa using e6
   have h10:cs.toList.length=s:=by simpa using hcs
   have htk:cur.toList.take (n*s)=xs:=by
    have:=congrArg (List.take (n*s)) e7
    rw[List.take_take,Nat.min_eq_left (by omega),←hl,List.take_left' rfl] at this
    rw[←hl]
    exact this
   rw[htk,←List.append_assoc,hns,List.take_left' (by rw[List.length_append,hl,h10])]
theorem Own.two {W:World}{B B' n m s s':Nat}{e e':TypeId}{v u:Value}{xs ys:List Value}(o:Own W B e s v n xs)(o':Own W B' e' s' u m ys)(hne:e≠e'):Two v u:=fun b h1 h2=>by
 obtain⟨-,⟨rfl,-⟩|⟨g,cap,cur,rfl,-,e3,-⟩⟩:=o.row
 ·cases h1
 obtain⟨-,⟨rfl,-⟩|⟨g',cap',cur',rfl,-,e3',-⟩⟩:=o'.row
 ·cases h2
 injection h1 with h1
 injection h2 with h2
 have h1:g=b:=h1
 have h2:g'=b:=h2
 subst h1
 subst h2
 rw[e3] at e3'
 injection e3' with e3'
 injection e3' with _ e3'
 exact hne e3'
theorem ArgQ.addE {W W':World}{h gt:Nat}{es:List Ex}{ts:List Tm}{evs tvs:List Value}{vE vT vE':Value}{S S':Nat→Prop}(a:ArgQ W h gt es ts evs tvs vE vT S){x:Ex}{v:Value}(hr:RepE W S' x v)(hS':∀b,S' b→h≤b∧b<W.heap.size∧b≠gt∧vE.ownBlock≠some b∧vT.ownBlock≠some b)
  (o:Own W' h 35 4 vE' (es.length+1) (flatC evs++v.cells.toList)) (hs:W.heap.size≤W'.heap.size) (hb:∀b,h≤b→b<W.heap.size→b≠gt→vE.ownBlock≠some b→W'.heap[b]? =W.heap[b]?) (hv':vE'.ownBlock=vE.ownBlock∨∃N,vE'.ownBlock=some N∧W.heap.size≤N) (hgt:gt<W.heap.size):
  ArgQ W' h gt (es++[x]) ts (evs++[v]) tvs vE' vT (fun b=>S b∨S' b):=by
 have htwo:Two vE vT:=a.ownE.two a.ownT (by decide)
 have hS:∀b,(S b∨S' b)→h≤b∧b<W.heap.size∧b≠gt∧vE.ownBlock≠some b∧vT.ownBlock≠some b:=fun b hb=>hb.elim (a.away b) (hS' b)
 have hc:∀p:Addr,(S p.block∨S' p.block)→W'.cell? p=W.cell? p:=fun p hp=>by
  obtain⟨b1,b2,b3,b4,-⟩:=hS _ hp
  exact World.cell?_of_block (hb _ b1 b2 b3 b4)
 have hneE:∀b,b<W.heap.size→vE.ownBlock≠some b→vE'.ownBlock≠some b:=fun b h1 h2 h3=>by
  rcases hv' with e|⟨N,e,hN⟩
  ·exact h2 (by rw[←e,h3])
  ·rw[e] at h3;injection h3 with h3;omega
 refine⟨by simp[a.lenE],a.lenT,?_,a.ownT.keepRow hs fun b e=> ?_,fun i e u h1 h2=> ?_,fun i t u h1 h2=>(a.repT i t u h1 h2).mono (fun _ h=> .inl h) (fun p hp=>hc p (.inl hp)),fun b hb'=> ?_,hneE gt hgt a.neE,a.neT⟩
 ·have hf:flatC (evs++[v])=flatC evs++v.cells.toList:=by rw[flatC_append];simp[flatC]
  rw[hf,List.length_append]
  exact o
 ·obtain⟨h1,h2⟩:=a.ownT.blockLt b e
  exact hb b h1 h2 (fun e'=>a.neT (by rw[e,e'])) (fun e'=>htwo b e' e)
 ·rcases Nat.lt_or_ge i es.length with hi|hi
  ·rw[List.getElem?_append_left hi] at h1
   rw[List.getElem?_append_left (by rw[a.lenE];exact hi)] at h2
   exact(a.repE i e u h1 h2).mono (fun _ h=> .inl h) (fun p hp=>hc p (.inl hp))
  ·rw[List.getElem?_append_right hi] at h1
   rw[List.getElem?_append_right (by rw[a.lenE];exact hi),a.lenE] at h2
   have h0:i-es.length=0:=by
    have:=(List.getElem?_eq_some_iff.1 h1).1
    simp at this
    exact this
   rw[h0] at h1 h2
   injection h1 with h1
   injection h2 with h2
   subst h1 h2
   exact hr.mono (fun _ h=> .inr h) (fun p hp=>hc p (.inr hp))
 ·obtain⟨b1,b2,b3,b4,b5⟩:=hS b hb'
  exact⟨b1,by omega,b3,hneE b b2 b4,b5⟩
theorem ArgQ.addT {W W':World}{h gt:Nat}{es:List Ex}{ts:List Tm}{evs tvs:List Value}{vE vT vT':Value}{S S':Nat→Prop}(a:ArgQ W h gt es ts evs tvs vE vT S){x:Tm}{v:Value}(hr:RepT W S' x v)(hS':∀b,S' b→h≤b∧b<W.heap.size∧b≠gt∧vE.ownBlock≠some b∧vT.ownBlock≠some b)
  (o:Own W' h 25 4 vT' (ts.length+1) (flatC tvs++v.cells.toList)) (hs:W.heap.size≤W'.heap.size) (hb:∀b,h≤b→b<W.heap.size→b≠gt→vT.ownBlock≠some b→W'.heap[b]? =W.heap[b]?) (hv':vT'.ownBlock=vT.ownBlock∨∃N,vT'.ownBlock=some N∧W.heap.size≤N) (hgt:gt<W.heap.size):
  ArgQ W' h gt es (ts++[x]) evs (tvs++[v]) vE vT' (fun b=>S b∨S' b):=by
 have htwo:Two vE vT:=a.ownE.two a.ownT (by decide)
 have hS:∀b,(S b∨S' b)→h≤b∧b<W.heap.size∧b≠gt∧vE.ownBlock≠some b∧vT.ownBlock≠some b:=fun b hb=>hb.elim (a.away b) (hS' b)
 have hc:∀p:Addr,(S p.block∨S' p.block)→W'.cell? p=W.cell? p:=fun p hp=>by
  obtain⟨b1,b2,b3,-,b4⟩:=hS _ hp
  exact World.cell?_of_block (hb _ b1 b2 b3 b4)
 have hneT:∀b,b<W.heap.size→vT.ownBlock≠some b→vT'.ownBlock≠some b:=fun b h1 h2 h3=>by
  rcases hv' with e|⟨N,e,hN⟩
  ·exact h2 (by rw[←e,h3])
  ·rw[e] at h3;injection h3 with h3;omega
 refine⟨a.lenE,by simp[a.lenT],a.ownE.keepRow hs fun b e=> ?_,?_,fun i e u h1 h2=>(a.repE i e u h1 h2).mono (fun _ h=> .inl h) (fun p hp=>hc p (.inl hp)),fun i t u h1 h2=> ?_,fun b hb'=> ?_,a.neE,hneT gt hgt a.neT⟩
 ·obtain⟨h1,h2⟩:=a.ownE.blockLt b e
  exact hb b h1 h2 (fun e'=>a.neE (by rw[e,e'])) (fun e'=>htwo b e e')
 ·have hf:flatC (tvs++[v])=flatC tvs++v.cells.toList:=by rw[flatC_append];simp[flatC]
  rw[hf,List.length_append]
  exact o
 ·rcases Nat.lt_or_ge i ts.length with hi|hi
  ·rw[List.getElem?_append_left hi] at h1
   rw[List.getElem?_append_left (by rw[a.lenT];exact hi)] at h2
   exact(a.repT i t u h1 h2).mono (fun _ h=> .inl h) (fun p hp=>hc p (.inl hp))
  ·rw[List.getElem?_append_right hi] at h1
   rw[List.getElem?_append_right (by rw[a.lenT];exact hi),a.lenT] at h2
   have h0:i-ts.length=0:=by
    have:=(List.getElem?_eq_some_iff.1 h1).1
    simp at this
    exact this
   rw[h0] at h1 h2
   injection h1 with h1
   injection h2 with h2
   subst h1 h2
   exact hr.mono (fun _ h=> .inr h) (fun p hp=>hc p (.inr hp))
 ·obtain⟨b1,b2,b3,b4,b5⟩:=hS b hb'
  exact⟨b1,by omega,b3,b4,hneT b b2 b5⟩
end Go.Proofs.YtaamkfajnpobfaaGreat
namespace Go.Proofs.YtaamkfajnpobfaaGreat
open Go.RowKit
def okE (W:World)(x:Ex)(v:Value)(W':World):Prop:=∃S:Nat→Prop,RepE W' S x v∧∀b,S b→W.heap.size≤b∧b<W'.heap.size
def okT (W:World)(x:Tm)(v:Value)(W':World):Prop:=∃S:Nat→Prop,RepT W' S x v∧∀b,S b→W.heap.size≤b∧b<W'.heap.size
structure XA {α:Type}(Rep:World→(Nat→Prop)→α→Value→Prop)(K:Ctx)(w1:World)(p d:Nat)(r:Rs α)(done made:Bool)(S':Nat→Prop)(v:Value)(g7:Nat)(zt:TypeId)(zc:Array Value)(w:World):Prop where
 fz:Fz w1.heap.size K.g w1 w
 pre:done=false→PW K w p d false
 post:done=true→∃x p',r= .ok x p'∧PW K w p' d false∧Rep w S' x v∧∀b,S' b→w1.heap.size≤b∧b<w.heap.size
 new:made=true→w1.heap.size≤g7∧Blk w g7 zt zc∧(done=true→¬S' g7)
theorem Blk.fzN {w w':World}{k g:Nat}{T T':TypeId}{cs cs':Array Value}{h:Nat}(b:Blk w k T cs)(q:Blk w g T' cs')(a:Fz h g w w')(hh:w.heap.size≤h)(hne:T≠T':=by decide):Blk w' k T cs:=b.fz (a.less hh) (b.ne q hne)
theorem RepT.ones {w:World}{S:Nat→Prop}{t:Tm}{v:Value}(h:RepT w S t v):v.cells.size=4∧∀u∈v.cells.toList,u.oneCell'=true:=by
 obtain⟨A,c,A',c',rfl⟩:=h.form
 refine⟨rfl,fun u hu=> ?_⟩
 simp[Value.cells] at hu
 rcases hu with rfl|rfl|rfl|rfl<;>rfl
theorem RepE.ones {w:World}{S:Nat→Prop}{t:Ex}{v:Value}(h:RepE w S t v):v.cells.size=4∧∀u∈v.cells.toList,u.oneCell'=true:=by
 obtain⟨A,c,rfl⟩:=h.form
 refine⟨rfl,fun u hu=> ?_⟩
 simp[Value.cells] at hu
 rcases hu with rfl|rfl|rfl|rfl<;>rfl
theorem zero_bool:zeroIs Tryz.prog 4=some (some (.bool false)):=by kernel_rfl
theorem ones_of:∀ {l:List Value},(∀u∈l,u.oneCell'=true)→ones l
 | [],_=>trivial
 |v::r,h=>⟨h v List.mem_cons_self,ones_of fun u hu=>h u (List.mem_cons_of_mem _ hu)⟩
end Go.Proofs.YtaamkfajnpobfaaGreat
