/-
  Texts that were joined: CivA, DateC, BigA, BigB, BigC, BigD, BigE, BigF, BigG, BigH, BigI, TBigK, TNumR, TNumS, DateD, CivB, TNumH, TreJ, TreK, TreL, KN, TreM, TreN, TreO, TreP, TrmA, TrmB, TrmC, TrmD, TrmE, TrmF, TrmG, TrmH, TrmI, TrmJ, TrmK, TrmL, TrmM, TrmN, TrmO, TrmP, ParA, PanA, PanB, PanC. Conditions: what each theorem names.
-/
import Derived.Test.YtigoimhndlnhfaaGreatH1
set_option linter.unusedSectionVars false
namespace Go.Proofs.YtigoimhndlnhfaaGreat
open Go.RowKit
def dZ (y:Nat):Nat:=365*y+y/4-y/100+y/400
def fm (e:Nat):Nat:=(e-e/1460+e/36524-e/146096)/365
theorem uP (e:Nat)(h:e+1≤146096):e-e/1460+e/36524-e/146096≤(e+1)-(e+1)/1460+(e+1)/36524-(e+1)/146096:=by omega
theorem uy (k:Nat):∀e,e+k≤146096→e-e/1460+e/36524-e/146096≤(e+k)-(e+k)/1460+(e+k)/36524-(e+k)/146096:=by
 induction k with
 |zero=>intro e _;exact Nat.le_refl _
 |succ k ih=>intro e h;exact Nat.le_trans (ih e (by omega)) (uP (e+k) (by omega))
theorem pO {e e':Nat}(h:e≤e')(h1:e'≤146096):fm e≤fm e':=by
 obtain⟨k,rfl⟩:∃k,e'=e+k:=⟨e'-e,by omega⟩;exact Nat.div_le_div_right (uy k e h1)
def BA (y:Nat):Bool:=Nat.beq (fm (dZ y)) y&&Nat.beq (fm (dZ (y+1)-1)) y&&Nat.blt (dZ y) (dZ (y+1))&&Nat.ble (dZ (y+1)) 146097
theorem xk:((List.range 20).all fun a=>(List.range 20).all fun b=>BA (20*a+b))=true:=by decide+kernel
theorem sB (y:Nat)(h:y<400):fm (dZ y)=y∧fm (dZ (y+1)-1)=y∧dZ y<dZ (y+1)∧dZ (y+1)≤146097:=by
 have h1:=List.all_eq_true.1 (List.all_eq_true.1 xk (y/20) (List.mem_range.2 (by omega))) (y%20) (List.mem_range.2 (by omega));rw[show 20*(y/20)+y%20=y by omega] at h1;unfold BA at h1;simp only[Bool.and_eq_true] at h1;obtain⟨⟨⟨a,b⟩,c⟩,d⟩:=h1;exact⟨Nat.eq_of_beq_eq_true a,Nat.eq_of_beq_eq_true b,Nat.le_of_ble_eq_true c,Nat.le_of_ble_eq_true d⟩
theorem uI:dZ 400=146097:=by decide+kernel
theorem xH (e:Nat)(h:e<146097):∃y,y<400∧dZ y≤e∧e<dZ (y+1):=by
 have key:∀k,k≤400→e<dZ k→∃y,y<400∧dZ y≤e∧e<dZ (y+1):=by
  intro k
  induction k with
  |zero=>intro _ h;exact absurd h (Nat.not_lt_zero _)
  |succ k ih=>
   intro hk he;rcases Nat.lt_or_ge e (dZ k) with h1|h1
   ·exact ih (by omega) h1
   ·exact⟨k,by omega,h1,he⟩
 exact key 400 (Nat.le_refl _) (by rw[uI];exact h)
theorem s9 (e:Nat)(h:e<146097):fm e<400∧dZ (fm e)≤e∧e<dZ (fm e+1):=by
 obtain⟨y,h1,h2,h3⟩:=xH e h;obtain⟨t1,t2,t3,t4⟩:=sB y h1;have a:=pO h2 (by omega);have b:=pO (e:=e) (e':=dZ (y+1)-1) (by omega) (by omega);have:fm e=y:=by omega
 rw[this];exact⟨h1,h2,h3⟩
def AB (m:Nat):Nat:=[31,30,31,30,31,31,30,31,30,31,31,29].getD m 0
def Bn (t:Nat):Bool:=Nat.ble ((5*t+2)/153) 11&&Nat.ble ((153*((5*t+2)/153)+2)/5) t&&Nat.blt (t-(153*((5*t+2)/153)+2)/5) (AB ((5*t+2)/153))&&(!(Nat.beq (t-(153*((5*t+2)/153)+2)/5) 28&&Nat.beq ((5*t+2)/153) 11)||Nat.beq t 365)
theorem xm:((List.range 19).all fun a=>(List.range 20).all fun b=>Nat.ble 366 (20*a+b)||Bn (20*a+b))=true:=by decide+kernel
theorem lK (t:Nat)(h:t<366):(5*t+2)/153≤11∧(153*((5*t+2)/153)+2)/5≤t∧t-(153*((5*t+2)/153)+2)/5<AB ((5*t+2)/153)∧(t-(153*((5*t+2)/153)+2)/5=28→(5*t+2)/153=11→t=365):=by
 have h1:=List.all_eq_true.1 (List.all_eq_true.1 xm (t/20) (List.mem_range.2 (by omega))) (t%20) (List.mem_range.2 (by omega));rw[show 20*(t/20)+t%20=t by omega] at h1
 have h0:Nat.ble 366 t=false:=by
  cases hb:Nat.ble 366 t with
  |false=>rfl
  |true=>have:=Nat.le_of_ble_eq_true hb;omega
 rw[h0,Bool.false_or] at h1;unfold Bn at h1;simp only[Bool.and_eq_true] at h1;obtain⟨⟨⟨a,b⟩,c⟩,d⟩:=h1;refine⟨Nat.le_of_ble_eq_true a,Nat.le_of_ble_eq_true b,Nat.le_of_ble_eq_true c,fun e1 e2=> ?_⟩;rw[e1,e2] at d;exact Nat.eq_of_beq_eq_true (by simpa using d)
theorem sy (q y:Nat)(h:jO ((y:Int)+1)=true):jO (((q*400+y:Nat):Int)+1)=true:=by
 rw[lD] at *;omega
theorem wo (q y:Nat)(h:y<400)(mm d:Int):(((q*400+y:Nat):Int))/400*146097+(((q*400+y:Nat):Int)%400*365+((q*400+y:Nat):Int)%400/4-((q*400+y:Nat):Int)%400/100+((153*mm+2)/5+d-1))-719468=q*146097+((y:Int)*365+y/4-y/100)+((153*mm+2)/5+d-1)-719468:=by
 have a1:(((q*400+y:Nat):Int))/400=q:=by omega
 have a2:((q*400+y:Nat):Int)%400=y:=by omega
 rw[a1,a2];omega
theorem pU (y:Nat):dZ (y+1)-dZ y≤366∧(dZ (y+1)-dZ y=366→jO ((y:Int)+1)=true):=by
 unfold dZ;refine⟨by omega,fun h=> ?_⟩;rw[lD];omega
theorem rp (y:Nat)(h:y<400):(dZ y:Int)=(y:Int)*365+y/4-y/100:=by unfold dZ;omega
theorem xU (n q e y t m d:Nat)(hn:n+719468=q*146097+e)(h1:y<400)(h2:dZ y≤e)(h3:e<dZ (y+1))(ht:t=e-dZ y)(hm:m=(5*t+2)/153)(hd:d=t-(153*m+2)/5+1):
  gC (if 10≤m then q*400+y+1 else q*400+y:Nat) (if 10≤m then m-9 else m+3:Nat) d=n∧1≤(if 10≤m then m-9 else m+3)∧(if 10≤m then m-9 else m+3)≤12∧1≤d∧(d:Int)≤bE (if 10≤m then q*400+y+1 else q*400+y:Nat) (if 10≤m then m-9 else m+3:Nat):=by
 obtain⟨l1,l2⟩:=pU y;have hlp:t=365→jO (((q*400+y:Nat):Int)+1)=true:=fun h=>sy q y (l2 (by omega));have hi:=rp y h1;have hsh:=wo q y h1;obtain⟨m1,m2,m3,m4⟩:=lK t (by omega);rw[←hm] at m1 m2 m3 m4
 have hzz:∀mm:Int,mm=m→(q:Int)*146097+((y:Int)*365+y/4-y/100)+((153*mm+2)/5+(d:Int)-1)-719468=n:=by
  rintro mm rfl;rw[←hi];omega
 clear hi l1 l2 h2 h3 hn;obtain⟨yy,hyy⟩:∃yy,yy=q*400+y:=⟨_,rfl⟩;rw[←hyy] at hlp hsh⊢;clear hyy
 by_cases hm10:10≤m
 ·simp only[hm10,if_true]
  refine⟨?_,by omega,by omega,by omega,?_⟩
  ·unfold gC pN ofM
   rw[if_pos (by omega),if_pos (by omega),show(((yy+1:Nat):Int)-1)=(yy:Int) by omega,hsh];exact hzz _ (by omega)
  ·have:m=10∨m=11:=by omega
   rcases this with rfl|rfl
   ·replace m3:t-(153*10+2)/5<31:=m3
    unfold bE;simp;omega
   ·replace m3:t-(153*11+2)/5<29:=m3
    unfold bE;simp;split
    ·omega
    ·rename_i hl
     have:t≠365:=fun h=>hl (hlp h);omega
 ·simp only[hm10,if_false]
  refine⟨?_,by omega,by omega,by omega,?_⟩
  ·unfold gC pN ofM
   rw[if_neg (by omega),if_neg (by omega),hsh];exact hzz _ (by omega)
  ·have:m=0∨m=1∨m=2∨m=3∨m=4∨m=5∨m=6∨m=7∨m=8∨m=9:=by omega
   clear hzz hsh hlp hm10 m1 m4;rcases this with rfl|rfl|rfl|rfl|rfl|rfl|rfl|rfl|rfl|rfl<;>(simp[AB] at m3;unfold bE;simp;omega)
def yT (e:Nat):Nat:=e-dZ (fm e)
def mT (e:Nat):Nat:=(5*yT e+2)/153
def dT (e:Nat):Nat:=yT e-(153*mT e+2)/5+1
def cY (q e:Nat):Nat:=if 10≤mT e then q*400+fm e+1 else q*400+fm e
def cM (e:Nat):Nat:=if 10≤mT e then mT e-9 else mT e+3
theorem Ay (n q e:Nat)(hn:n+719468=q*146097+e)(he:e<146097):gC (cY q e) (cM e) (dT e)=n∧1≤cM e∧cM e≤12∧1≤dT e∧(dT e:Int)≤bE (cY q e) (cM e):=by
 obtain⟨h1,h2,h3⟩:=s9 _ he;have:=xU n q e (fm e) (yT e) (mT e) (dT e) hn h1 h2 h3 rfl rfl rfl;unfold cY cM;exact this
theorem yr (n:Nat)(y m d:Nat)(h:n≤2932896)(hz:gC y m d=n)(h2:1≤m)(h3:m≤12)(h4:1≤d)(h5:(d:Int)≤bE y m):iV y m d=true:=by
 have hday:=xf (y:Int) (m:Int) (d:Int)
 have hlo:(1970:Int)≤y:=by
  rcases Int.lt_or_le (y:Int) 1970 with hlt|hge
  ·exfalso
   have h6:=mA (y:=(y:Int)+1) (y':=1970) (by omega);have hs:=rH;have hdec:=s8 (y:Int);rcases Nat.lt_or_ge m 12 with hm12|hm12
   ·have hmn:=nN (y:Int) (m:Int) (by omega) (by omega)
    have hm2:=mr (y:=(y:Int)) (m:=(m:Int)+1) (m':=12) (by omega) (by omega) (by omega);omega
   ·have h12:(m:Int)=12:=by omega
    rw[h12] at hday h5 hz;have:bE (y:Int) 12=31:=by unfold bE;simp
    omega
  ·exact hge
 have hhi:(y:Int)≤9999:=by
  rcases Int.lt_or_le 9999 (y:Int) with hlt|hge
  ·exfalso
   have h6:=mA (y:=10000) (y':=(y:Int)) (by omega);have hs:=tN;have hm:=mr (y:=(y:Int)) (m:=1) (m':=(m:Int)) (by omega) (by omega) (by omega);omega
  ·exact hge
 unfold iV;simp only[Bool.and_eq_true,decide_eq_true_eq];exact⟨⟨⟨hlo,hhi⟩,by omega⟩,h5⟩
def rO (n:Nat):List Nat:=j7 (cY ((n+719468)/146097) ((n+719468)%146097)) (cM ((n+719468)%146097)) (dT ((n+719468)%146097))
theorem ym (n q e:Nat)(hq:(n+719468)/146097=q)(he:(n+719468)%146097=e):rO n=j7 (cY q e) (cM e) (dT e):=by subst hq he;rfl
theorem oO (y m d:Nat):∀x∈j7 y m d,x<256:=by
 intro x hx;unfold j7 at hx;simp only[List.mem_append] at hx;rcases hx with (((h|h)|h)|h)|h
 ·exact qC _ _ x h
 ·simp at h;omega
 ·exact qC _ _ x h
 ·simp at h;omega
 ·exact qC _ _ x h
section
variable {P:Program} {n:Nat} {F:List (Nat × Value)} {w:World} {v:Value}
theorem ab.By {fn:Func}{R:Ending→World→Prop}{t u s r:Nat}{v' v'' v3:Value}{e:Exit}(hr:fn.results= #[.tmp t, .tmp u, .tmp s, .tmp r]) (hl:look F t=some v) (hl':look F u=some v') (hl'':look F s=some v'') (hl3:look F r=some v3) (he:e= .ret∨e= .normal) (h:R (.returned (.tuple #[v,v',v'',v3])) w):ab (bodyPost P fn R) e n F w:=
 ab.end_ (fun a ha=>by simp[results,hr,ha.slot t v hl,ha.slot u v' hl',ha.slot s v'' hl'',ha.slot r v3 hl3]) he h
end
theorem Bz {x x' y y' z z' u u':Value}(h:x=x')(h2:y=y')(h3:z=z')(h4:u=u'):Ending.returned (.tuple #[x,y,z,u])= .returned (.tuple #[x',y',z',u']):=by rw[h,h2,h3,h4]
theorem Own.lit {w:World}{B g n size:Nat}{e:TypeId}{cs:Array Value}(k:aE w g e cs)(hB:B≤g)(hs:cs.size=n*size)(hn:n≤maxLen):Own w B e size (.slice (some ⟨g,0,none⟩) n n) n cs.toList:=
 ⟨⟨by simpa using hs, .inr ⟨g,n,cs,rfl,hB,k,Nat.le_refl _,hn,hs,List.take_of_length_le (by simp[hs])⟩⟩⟩
theorem tC (l:List Nat):∀u∈Bt l,u.oneCell'=true:=by
 intro u hu;simp[Bt] at hu;obtain⟨d,-,rfl⟩:=hu;rfl
theorem Own.base {w:World}{B B' size n:Nat}{e:TypeId}{v:Value}{xs:List Value}(h:Own w B e size v n xs)(hb:B'≤B):Own w B' e size v n xs:=⟨⟨h.row.1,h.row.2.imp id fun⟨g,cap,cur,e1,e2,r⟩=>⟨g,cap,cur,e1,Nat.le_trans hb e2,r⟩⟩⟩
theorem tu (n:Nat)(w:World)(h:n≤2932896):Calls Tryz.prog 236 #[.int .i64 (n:Int)] w fun e w'=>e= .returned (.bool true)∧Grow w w':=by
 have bel:=Below.refl w.heap.size w;refine Zs 9 Tryz.func236 ?_;refine ah ?_;refine Za ?_;refine cZ 0 2 (az ?_);refine Zm ?_;refine oo ?_;refine Zm ?_;refine ar.start ?_;refine bB (fun hcx=>aa.move rfl rfl) ?_;refine Zn (fun hcx=>aa.leq rfl rfl rfl) ?_;refine dL ?_;refine Za ?_;refine cZ 0 2 (Zt (Cd.ret ?_));refine aP ?_;exact⟨aO (aB (by simp;omega)),bel⟩
theorem xK (e:Nat)(he:e<146097):(yT e:Int)=e-(365*(fm e:Int)+(fm e:Int)/4-(fm e:Int)/100)∧yT e<366:=by
 obtain⟨h1,h2,h3⟩:=s9 e he;obtain⟨l1,l2⟩:=pU (fm e);have:=rp (fm e) h1;unfold yT;omega
theorem Al (e:Nat)(he:e<146097):(mT e:Int)=(5*(yT e:Int)+2)/153∧mT e≤11∧(153*mT e+2)/5≤yT e:=by
 have h:=(xK e he).2;obtain⟨m1,m2,-⟩:=lK (yT e) h;have hm:mT e=(5*yT e+2)/153:=rfl;rw[←hm] at m1 m2;omega
theorem uU (n q e:Nat)(w:World)(h:n≤2932896)(hq:(n+719468)/146097=q)(he:(n+719468)%146097=e):Calls Tryz.prog 218 #[.int .i64 (n:Int)] w fun en w'=>en= .returned (.tuple #[.int .i64 (cY q e:Int), .int .i64 (cM e:Int), .int .i64 (dT e:Int), .bool true])∧Grow w w':=by
 have bel:=Below.refl w.heap.size w;have hel:e<146097:=by rw[←he];exact Nat.mod_lt _ (by decide)
 have hq2:((n:Int)+719468)/146097=(q:Int):=by omega
 have he2:((n:Int)+719468)%146097=(e:Int):=by omega
 have hq3:q≤30:=by omega
 obtain⟨e1,e2,e3⟩:=s9 e hel;obtain⟨y1,y2⟩:=xK e hel;obtain⟨m1,m2,m3⟩:=Al e hel;have hd:dT e=yT e-(153*mT e+2)/5+1:=rfl;have hy:((e:Int)-(e:Int)/1460+(e:Int)/36524-(e:Int)/146096)/365=(fm e:Int):=by unfold fm;omega
 have hcY:cY q e=if 10≤mT e then q*400+fm e+1 else q*400+fm e:=rfl;have hcM:cM e=if 10≤mT e then mT e-9 else mT e+3:=rfl
 generalize cY q e=cy at *
 generalize cM e=cm at *
 generalize dT e=dd at *
 generalize mT e=m at *
 generalize yT e=t at *
 generalize fm e=y at *
 clear hq he e2 e3;refine Zs 68 Tryz.func218 ?_;refine ah ?_;refine Za ?_;refine Za ?_;refine Za ?_;refine Za ?_;refine aL 0 2 3 4 5 (aH (ah ?_));refine Zm ?_;refine Zc (Ze Tryz.func236) (tu n _ h) ?_;rintro en w5 ⟨rfl,hb5⟩;refine⟨_,rfl,?_⟩;replace bel:=bel.step hb5;refine gU ?_;refine aV 0 2 3 4 5 15 (Zt ?_);refine Cd.aI rfl rfl ?_;refine Cd.skip (az ?_);refine Zm ?_;refine dq ?_;refine Za ?_;refine ba 0 2 3 4 5 6 15 (az ?_);refine Zm ?_;refine Zv ((aa.ou rfl rfl rfl (by omega) (by omega)).cast (v':= .int .i64 (e:Int)) (int_eq he2)) ?_;refine Za ?_;refine bO 0 2 3 4 5 6 7 15 (az ?_);refine Zm ?_;refine Zm ?_;refine Zv (aa.jV rfl rfl rfl (by omega) (by omega) (by omega)) ?_;refine qq ?_;refine Zm ?_;refine Zv (aa.jV rfl rfl rfl (by omega) (by omega) (by omega)) ?_;refine dq ?_;refine Zm ?_;refine Zv (aa.jV rfl rfl rfl (by omega) (by omega) (by omega)) ?_;refine qq ?_;refine Zv ((aa.jV rfl rfl rfl (by omega) (by omega) (by omega)).cast (v':= .int .i64 (y:Int)) (int_eq hy)) ?_;refine Za ?_;refine cw 0 2 3 4 5 6 7 8 15 (az ?_);refine Zm ?_;refine Zm ?_;refine Zv (aa.qD rfl rfl rfl (by omega) (by omega)) ?_;refine Zm ?_;refine Zv (aa.jV rfl rfl rfl (by omega) (by omega) (by omega)) ?_;refine dq ?_;refine Zm ?_;refine Zv (aa.jV rfl rfl rfl (by omega) (by omega) (by omega)) ?_;refine qq ?_;refine Zv ((aa.AR rfl rfl rfl (by omega) (by omega)).cast (v':= .int .i64 (t:Int)) (int_eq (by omega))) ?_;refine Za ?_;refine dr 0 2 3 4 5 6 7 8 9 15 (az ?_);refine Zm ?_;refine Zv (aa.qD rfl rfl rfl (by omega) (by omega)) ?_;refine dq ?_;refine Zv ((aa.jV rfl rfl rfl (by omega) (by omega) (by omega)).cast (v':= .int .i64 (m:Int)) (int_eq (by omega))) ?_;refine Za ?_;refine ct 0 2 3 4 5 6 7 8 9 10 15 (az ?_);refine Zm ?_;refine Zm ?_;refine Zv (aa.qD rfl rfl rfl (by omega) (by omega)) ?_;refine dq ?_;refine Zv (aa.jV rfl rfl rfl (by omega) (by omega) (by omega)) ?_;refine qq ?_;refine Zv ((aa.oE rfl rfl rfl (by omega) (by omega)).cast (v':= .int .i64 (dd:Int)) (int_eq (by omega))) ?_;refine Za ?_;refine eZ 0 2 3 4 5 6 7 8 9 10 11 15 (az ?_);refine Zm ?_;refine Zv ((aa.jV rfl rfl rfl (by omega) (by omega) (by omega)).cast (v':= .int .i64 (q:Int)) (int_eq hq2)) ?_;refine Zv (aa.qD rfl rfl rfl (by omega) (by omega)) ?_;refine Zm ?_;refine dq ?_;refine Za ?_;refine iW 0 2 3 4 5 6 7 8 9 10 11 12 15 (aH (ah ?_));refine Zm ?_;refine oo ?_;refine gM 0 2 3 4 5 6 7 8 9 10 11 12 15 58 (Zt ?_);refine Cd.ao rfl (fun hc=> ?_) (fun hc=> ?_)
 ·rw[if_pos (by omega)] at hcY hcM
  subst hcY hcM;refine ah ?_;refine Zm ?_;refine dq ?_;refine Zm ?_;refine qq ?_;refine Zm ?_;refine Za ?_;refine Za ?_;refine Za ?_;refine Za ?_;refine gM 0 2 3 4 5 6 7 8 9 10 11 12 15 58 (Zt (Cd.ret (ab.ae ?_)));refine ab.By rfl rfl rfl rfl rfl (.inl rfl) ?_;exact⟨Bz (int_eq (by omega)) (int_eq (by omega)) rfl rfl,bel⟩
 ·rw[if_neg (by omega)] at hcY hcM
  subst hcY hcM;refine Cd.skip (az ?_);refine Zm ?_;refine Zm ?_;refine dq ?_;refine Zm ?_;refine Za ?_;refine Za ?_;refine Za ?_;refine Za ?_;refine gM 0 2 3 4 5 6 7 8 9 10 11 12 15 58 (Zt (Cd.ret ?_));refine ab.By rfl rfl rfl rfl rfl (.inl rfl) ?_;exact⟨Bz (int_eq (by omega)) (int_eq (by omega)) rfl rfl,bel⟩
theorem ml (v:Nat)(w:World)(h:v≤100000):Calls Tryz.prog 219 #[.int .i64 (v:Int)] w fun en w'=>(∃sv,en= .returned sv∧Own w' w.heap.size 5 1 sv 2 (Bt [48+v/10%10,48+v%10]))∧Grow w w':=by
 have bel:=Below.refl w.heap.size w;refine Zs 13 Tryz.func219 ?_;refine ah ?_;refine Za ?_;refine cZ 0 2 (az ?_);refine Zm ?_;refine Zv (aa.jV rfl rfl rfl (by omega) (by omega) (by omega)) ?_;refine Zv (aa.ou rfl rfl rfl (by omega) (by omega)) ?_;refine dq ?_;refine Zv (aa.fe rfl rfl Tryz.underlying3 Tryz.underlying5 (nT (by omega) (by omega))) ?_;refine Zm ?_;refine Zv (aa.ou rfl rfl rfl (by omega) (by omega)) ?_;refine dq ?_;refine Zv (aa.fe rfl rfl Tryz.underlying3 Tryz.underlying5 (nT (by omega) (by omega))) ?_;refine Seq.slice (vs:=[_,_]) (s:=1) rfl rfl rfl Tryz.underlying64 (by kernel_rfl) (bf) (by omega) (by omega) ⟨rfl,rfl,trivial⟩ rfl rfl rfl ?_;intro g12 w1 n12;have e12:=Nat.le_trans bel.size n12.ge;replace bel:=bel.step n12.below;have k12:=n12.an;refine Za ?_;refine cZ 0 2 (Zt (Cd.ret ?_));refine aP ?_
 have hc:(aC [.int .u8 (48+(v:Int)/10%10), .int .u8 (48+(v:Int)%10)]).toArray=(Bt [48+v/10%10,48+v%10]).toArray:=by
  simp[aC,Value.cells,Bt]
 rw[hc] at k12;exact⟨⟨_,rfl,Own.lit k12 e12 (by simp[Bt]) (by simp[maxLen])⟩,bel⟩
theorem p5:∀args w,(callFunc 219 args).run Tryz.prog w= .ok (.enter 219 args) w:=fun args w=>aF Tryz.func219 (by kernel_rfl) rfl args w
theorem qN (v:Nat):mg v 2=[48+v/10%10,48+v%10]:=by simp[mg]
theorem vd (v:Nat):mg v 4=[48+v/100/10%10,48+v/100%10]++[48+v/10%10,48+v%10]:=by
 simp[mg,Nat.div_div_eq_div_mul]
theorem qp (n:Nat)(w:World)(h:n≤2932896):Calls Tryz.prog 185 #[.int .i64 (n:Int)] w fun en w'=>en= .returned (.string (strOf (rO n)))∧Grow w w':=by
 have bel:=Below.refl w.heap.size w;obtain⟨q,hq⟩:∃q,(n+719468)/146097=q:=⟨_,rfl⟩;obtain⟨e,he⟩:∃e,(n+719468)%146097=e:=⟨_,rfl⟩;have hciv:=fun W=>uU n q e W h hq he;have hel:e<146097:=by rw[←he];exact Nat.mod_lt _ (by decide)
 obtain⟨z1,z2,z3,z4,z5⟩:=Ay n q e (by omega) hel;have hok:=yr n _ _ _ h z1 z2 z3 z4 z5;obtain⟨o1,o2,o3,o4,o5,o6⟩:=zo hok;rw[ym n q e hq he]
 generalize cY q e=y at *
 generalize cM e=m at *
 generalize dT e=d at *
 clear hq he z1;refine Zs 42 Tryz.func185 ?_;refine ah ?_;refine Za ?_;refine cZ 0 2 (az ?_);refine Zm ?_;refine Zc (Ze Tryz.func218) (hciv _) ?_;rintro en w5 ⟨rfl,hb5⟩;refine⟨_,rfl,?_⟩;replace bel:=bel.step hb5;refine Zm ?_;refine Zx ?_;refine Zx ?_;refine Zx ?_;refine Zx ?_;refine Za ?_;refine Za ?_;refine Za ?_;refine Za ?_;refine aV 0 2 3 4 5 6 (aH (ah ?_));refine Zm ?_;refine gU ?_;refine ba 0 2 3 4 5 6 17 (Zt ?_);refine Cd.aI rfl rfl ?_;refine Cd.skip (az ?_);refine Za ?_;refine bO 0 2 3 4 5 6 7 17 (az ?_);refine Zm ?_;refine Zm ?_;refine Zv ((aa.jV rfl rfl rfl (by omega) (by omega) (by omega)).cast (v':= .int .i64 ((y/100:Nat):Int)) (int_eq (show(y:Int)/100=((y/100:Nat):Int) by omega))) ?_;refine Seq.call (Enters.value (first:=[]) (cap:=[]) rfl rfl rfl p5) rfl rfl rfl (ml (y/100) _ (by omega)) ?_;rintro en w6 ⟨⟨s1,rfl,own⟩,hb6⟩;refine⟨_,rfl,?_⟩;replace own:=own.base bel.size;replace bel:=bel.step hb6;refine Zm ?_;refine Zm ?_;refine Seq.call (Enters.value (first:=[]) (cap:=[]) rfl rfl rfl p5) rfl rfl rfl (ml y _ (by omega)) ?_;rintro en w7 ⟨⟨s2,rfl,own2⟩,hb7⟩;refine⟨_,rfl,?_⟩;replace bel:=bel.step hb7;replace own:=own.step hb7;obtain⟨A2,c2,rfl,rd2⟩:=own2.reads;refine Seq.append rfl rfl rfl Tryz.underlying64 (by kernel_rfl) bf rfl (by decide) (b:=1) (by kernel_rfl) own (rd2) (tC _) bel.size (by simp only[maxLen];omega) (by omega) rfl rfl rfl ?_;clear own;intro vw1 w1 own haw1;replace bel:=bel.trans haw1.below;clear own2;refine Za ?_;refine cw 0 2 3 4 5 6 7 8 17 (az ?_);refine Zm ?_;refine Seq.slice (vs:=[_]) (s:=1) rfl rfl rfl Tryz.underlying64 (by kernel_rfl) (bf) (by omega) (by omega) ⟨rfl,trivial⟩ rfl rfl rfl ?_;intro g27 w2 n27;have e27:=Nat.le_trans bel.size n27.ge;replace bel:=bel.step n27.below;replace own:=own.step n27.below;have k27:=n27.an;refine Seq.append rfl rfl rfl Tryz.underlying64 (by kernel_rfl) bf rfl (by decide) (b:=1) (by kernel_rfl) own (Reads.an k27 1 rfl) (by intro x hx;simp[aC,Value.cells] at hx;rw[hx];rfl) bel.size (by simp only[maxLen];omega) (by omega) rfl rfl rfl ?_;clear own;intro vw3 w3 own haw3;replace bel:=bel.trans haw3.below;refine Zm ?_;refine Zm ?_;refine Seq.call (Enters.value (first:=[]) (cap:=[]) rfl rfl rfl p5) rfl rfl rfl (ml m _ (by omega)) ?_;rintro en w8 ⟨⟨s3,rfl,own3⟩,hb8⟩;refine⟨_,rfl,?_⟩;replace bel:=bel.step hb8;replace own:=own.step hb8;obtain⟨A3,c3,rfl,rd3⟩:=own3.reads;refine Seq.append rfl rfl rfl Tryz.underlying64 (by kernel_rfl) bf rfl (by decide) (b:=1) (by kernel_rfl) own (rd3) (tC _) bel.size (by simp only[maxLen];omega) (by omega) rfl rfl rfl ?_;clear own;intro vw4 w4 own haw4;replace bel:=bel.trans haw4.below;clear own3;refine Za ?_;refine cw 0 2 3 4 5 6 7 8 17 (az ?_);refine Zm ?_;refine Seq.slice (vs:=[_]) (s:=1) rfl rfl rfl Tryz.underlying64 (by kernel_rfl) (bf) (by omega) (by omega) ⟨rfl,trivial⟩ rfl rfl rfl ?_;intro g34 w5 n34;have e34:=Nat.le_trans bel.size n34.ge;replace bel:=bel.step n34.below;replace own:=own.step n34.below;have k34:=n34.an;refine Seq.append rfl rfl rfl Tryz.underlying64 (by kernel_rfl) bf rfl (by decide) (b:=1) (by kernel_rfl) own (Reads.an k34 1 rfl) (by intro x hx;simp[aC,Value.cells] at hx;rw[hx];rfl) bel.size (by simp only[maxLen];omega) (by omega) rfl rfl rfl ?_;clear own;intro vw6 w6 own haw6;replace bel:=bel.trans haw6.below;refine Zm ?_;refine Zm ?_;refine Seq.call (Enters.value (first:=[]) (cap:=[]) rfl rfl rfl p5) rfl rfl rfl (ml d _ (by omega)) ?_;rintro en w9 ⟨⟨s4,rfl,own4⟩,hb9⟩;refine⟨_,rfl,?_⟩;replace bel:=bel.step hb9;replace own:=own.step hb9;obtain⟨A4,c4,rfl,rd4⟩:=own4.reads;refine Seq.append rfl rfl rfl Tryz.underlying64 (by kernel_rfl) bf rfl (by decide) (b:=1) (by kernel_rfl) own (rd4) (tC _) bel.size (by simp only[maxLen];omega) (by omega) rfl rfl rfl ?_;clear own;intro vw7 w7 own haw7;replace bel:=bel.trans haw7.below;clear own4;refine Za ?_;refine cw 0 2 3 4 5 6 7 8 17 (az ?_);refine Zm ?_;obtain⟨A5,c5,rfl,rd5⟩:=own.reads
 have hbt:Bt [48+y/100/10%10,48+y/100%10]++Bt [48+y/10%10,48+y%10]++(aC [.int .u8 45]).toArray.toList++Bt [48+m/10%10,48+m%10]++(aC [.int .u8 45]).toArray.toList++Bt [48+d/10%10,48+d%10]=Bt (j7 y m d):=by
  unfold j7;rw[vd,qN,qN];simp[Bt,aC,Value.cells]
 rw[hbt] at rd5;refine Zv (aa.tJ rfl rfl Tryz.underlying64 Tryz.underlying5 Tryz.underlying9 rd5 (oO y m d)) ?_;refine Za ?_;refine cw 0 2 3 4 5 6 7 8 17 (Zt (Cd.ret ?_));refine aP ?_;exact⟨rfl,bel⟩
structure rM (w0 w:World)(g:Nat):Prop where
 row:w0.grownBy w (some g)
theorem rM.step {w0 w w':World}{g:Nat}(h:rM w0 w g)(hb:Below w.heap.size w w'):rM w0 w' g:=⟨mV h.row hb⟩
theorem rM.put {w0 w w':World}{g B:Nat}{T:TypeId}{cur cs:Array Value}(h:rM w0 w g)(_k:aE w g T cur)(p:gI w w' g T cs)(_e:B≤g):rM w0 w' g:=⟨mJ h.row p.grown⟩
def bj (xs:List Value)(n i j:Nat):Option Value:=if j<i∨n≤j+i then xs[n-1-j]? else xs[j]?
theorem re (g n cap:Nat)(cur:Array Value)(xs:List Value)(w:World)(hb:aE w g 5 cur)(hc:n≤cap)(hn:n≤1000000000)(hs:cur.size=cap)(hx:∀j,j<n→cur[j]? =xs[j]?)(hl:xs.length=n)(h1:∀u∈xs,∃z,u= .int .u8 z):
  Calls Tryz.prog 217 #[.slice (some ⟨g,0,none⟩) n cap] w fun e w'=>∃cur',e= .returned (.tuple #[])∧aE w' g 5 cur'∧cur'.size=cap∧(∀j,j<n→cur'[j]? =xs.reverse[j]?)∧rM w w' g:=by
 refine Zs 28 Tryz.func217 ?_;refine ah ?_;refine Zm ?_;refine Zv (aa.len rfl rfl Tryz.underlying64) ?_;refine qq ?_;refine Za ?_;refine Za ?_;refine bk 0 2 3 (Zt (Cd.block ?_))
 refine Cd.loop (σ:=Nat × Array Value) (fun s=>[(0, .slice (some ⟨g,0,none⟩) n cap),(2, .int .i64 (s.1:Int)),(3, .int .i64 ((n:Int)-1-s.1))])
  (fun s wr=>s.1≤n∧aE wr g 5 s.2∧s.2.size=cap∧(∀j,j<n→s.2[j]? =bj xs n s.1 j)∧rM w wr g) (fun s=>n-s.1) (0,cur) ⟨Nat.zero_le _,hb,hs,fun j hj=>by dsimp only;rw[hx j hj];unfold bj;rw[if_neg (by omega)],⟨World.grownBy.refl _ _⟩⟩
  ⟨rfl,rfl,congrArg (fun x=>some (Value.int .i64 x)) (show(n:Int)-1=(n:Int)-1-((0:Nat):Int) by omega),trivial⟩ ?_
 clear hb hs hx cur;rintro⟨i,cs⟩ wr ⟨hi,k0,hs,hx,hgr⟩;dsimp only at hi k0 hs hx hgr⊢;have e0:0≤g:=Nat.zero_le g;refine Cd.seq (ah ?_);refine Zm ?_;refine Zm ?_;refine eU ?_;refine aS 0 2 3 9 (Zt ?_);refine Cd.ao rfl (fun hc=> ?_) (fun hc=> ?_)
 ·have hlt:i<n-1-i:=by omega
  have get:∀j,j<n→∃z,xs[j]? =some (.int .u8 z):=fun j hj=>by
   obtain⟨z,hz⟩:=h1 xs[j] (List.getElem_mem (by omega));exact⟨z,by rw[List.getElem?_eq_getElem (by omega),hz]⟩
  obtain⟨za,ha⟩:=get (n-1-i) (by omega);obtain⟨zb,hb⟩:=get i (by omega);have ca:cs[n-1-i]? =some (.int .u8 za):=by rw[hx _ (by omega),bj,if_neg (by omega),ha]
  have cb:cs[i]? =some (.int .u8 zb):=by rw[hx _ (by omega),bj,if_neg (by omega),hb]
  refine Cd.skip (aH (Cd.block ?_));refine Cd.draw 12 (by kernel_rfl) [2,3] (.inr (fun _ _ d _ _ h=>by cases d<;>exact h)) rfl Grow Grow.refl (fun _ _ _=>Grow.trans) ?_;intro w1 hw1 zw1;replace k0:=k0.step hw1;replace hgr:=hgr.step hw1;have zlt:=k0.lt;refine fN ?_;refine fN ?_;refine Dr.late rfl rfl (fun w=>aa.move rfl rfl) Grow.refl rfl ?_;refine Dr.late rfl rfl (fun w=>aa.move rfl rfl) Grow.refl rfl ?_;refine fN ?_;refine fN ?_;refine Zd (fun w hG=>aa.mP rfl rfl rfl Tryz.underlying64 (by kernel_rfl) (j:=n-1-i) (by omega) (by omega)) ?_;refine Zd (fun w hG=>aa.ak rfl rfl Tryz.underlying5 rfl (k0.step hG) ca) ?_;refine fN ?_;refine fN ?_;refine Zd (fun w hG=>aa.mP rfl rfl rfl Tryz.underlying64 (by kernel_rfl) (j:=i) (by omega) (by omega)) ?_;refine Zd (fun w hG=>aa.ak rfl rfl Tryz.underlying5 rfl (k0.step hG) cb) ?_;refine Dr.nil ?_;refine bH.done (F':=[(0,_),(2,_),(3,_),(9,_),(14,_),(15,_),(16,_),(17,_),(21,_),(25,_)]) rfl ⟨rfl,rfl,rfl,rfl,rfl,rfl,rfl,rfl,rfl,rfl,trivial⟩ ?_;intro w2 hw2 fw2;replace k0:=k0.step hw2;replace hgr:=hgr.step hw2;refine Zv (aa.mP rfl rfl rfl Tryz.underlying64 (by kernel_rfl) (j:=i) (by omega) (by omega)) ?_;refine Seq.nE rfl rfl rfl (by kernel_rfl) rfl rfl k0 (cb) rfl rfl ?_;intro w3 pw3;replace hgr:=hgr.put k0 pw3 e0;replace k0:=pw3.an;refine Zv (aa.mP rfl rfl rfl Tryz.underlying64 (by kernel_rfl) (j:=n-1-i) (by omega) (by omega)) ?_;have ca2:(cs.setIfInBounds i (.int .u8 za))[n-1-i]? =some (.int .u8 za):=by rw[Array.getElem?_setIfInBounds_ne (by omega)];exact ca
  refine Seq.nE rfl rfl rfl (by kernel_rfl) rfl rfl k0 (ca2) rfl rfl ?_;intro w4 pw4;replace hgr:=hgr.put k0 pw4 e0;replace k0:=pw4.an;refine aS 0 2 3 9 (ab.ag (et ?_));refine Zm ?_;refine dq ?_;refine Zm ?_;refine qq ?_;refine Za ?_;refine Za ?_;refine aS 0 2 3 9 ?_;rw[show(i:Int)+1=((i+1:Nat):Int) by omega,show(n:Int)-1-(i:Int)-1=(n:Int)-1-((i+1:Nat):Int) by omega];refine ab.round (i+1,(cs.setIfInBounds i (.int .u8 za)).setIfInBounds (n-1-i) (.int .u8 zb)) ⟨rfl,rfl,rfl,trivial⟩ ⟨by dsimp only;omega,k0,by simp[hs],fun j hj=> ?_,hgr⟩ (by dsimp only;omega);dsimp only;have hin:n-1-i<(cs.setIfInBounds i (.int .u8 za)).size:=by rw[Array.size_setIfInBounds];omega
  by_cases hj1:j=n-1-i
  ·subst hj1
   rw[Array.getElem?_setIfInBounds_self_of_lt hin,bj,if_pos (by omega),show n-1-(n-1-i)=i by omega,hb]
  ·rw[Array.getElem?_setIfInBounds_ne (by omega)]
   by_cases hj2:j=i
   ·subst hj2
    rw[Array.getElem?_setIfInBounds_self_of_lt (by omega),bj,if_pos (by omega),ha]
   ·rw[Array.getElem?_setIfInBounds_ne (by omega),hx j hj]
    unfold bj
    by_cases hc2:j<i∨n≤j+i
    ·rw[if_pos hc2,if_pos (by omega)]
    ·rw[if_neg hc2,if_neg (by omega)]
 ·skip
  refine Cd.exit (ab.aD (ab.ay (ab.aA ?_)));refine ab.du rfl (.inr rfl) ?_;refine⟨cs,rfl,k0,hs,fun j hj=> ?_,hgr⟩;rw[hx j hj,List.getElem?_reverse (by omega),hl];unfold bj
  by_cases hc2:j<i∨n≤j+i
  ·rw[if_pos hc2]
  ·rw[if_neg hc2]
   rw[show n-1-j=j by omega]
theorem Own.an {w:World}{B n:Nat}{e:TypeId}{v:Value}{xs:List Value}(h:Own w B e 1 v n xs)(h0:0<n):∃g cap cur,v= .slice (some ⟨g,0,none⟩) n cap∧B≤g∧aE w g e cur∧n≤cap∧cap≤maxLen∧cur.size=cap∧xs.length=n∧∀j,j<n→cur[j]? =xs[j]? :=by
 obtain⟨hl,⟨_,h1⟩|⟨g,cap,cur,rfl,h1,h2,h3,h4,h5,h6⟩⟩:=h.row
 ·omega
 ·refine⟨g,cap,cur,rfl,h1,h2,h3,h4,by omega,by omega,fun j hj=> ?_⟩
  rw[←h6,List.getElem?_take_of_lt (by omega)];simp
set_option maxHeartbeats 1000000 in
theorem uE (n:Int)(d:Nat)(w:World)(hn:bu n)(hd:d≤9):
  Calls Tryz.prog 184 #[.int .i64 n, .int .i64 (d:Int)] w fun e w'=>(∃N,sP n.natAbs d N∧N≤20∧e= .returned (.string (strOf (printed n d N))))∧Grow w w':=by
 have bel:=Below.refl w.heap.size w;have hu:n.natAbs≤9223372036854775808:=by have:=hn.1;have:=hn.2;omega
 refine Zs 53 Tryz.func184 ?_;refine ah ?_;refine Za ?_;refine bk 0 1 4 (aH (ah ?_));refine Zm ?_;refine eU ?_;refine Zm ?_;refine ar.start ?_;refine bB (fun hcx=>aa.move rfl rfl) ?_;refine Zn (fun hcx=>aa.gtr rfl rfl rfl) ?_;refine fh ?_;refine aS 0 1 4 13 (Zt ?_);refine Cd.cond rfl (fun h=> ?_) (fun h=> ?_)
 ·exfalso
  simp at h;omega
 clear h;refine Cd.skip (az ?_);refine Za ?_;refine aL 0 1 4 5 13 (aH (ah ?_));refine Zm ?_;refine Zc (Ze Tryz.func216) (ng _ _ hn) ?_;rintro e w3 ⟨rfl,rfl⟩;refine⟨_,rfl,?_⟩;refine Za ?_;refine Za ?_;refine ba 0 1 4 5 6 7 13 (Zt (Cd.block ?_))
 generalize hun:n.natAbs=u at *
 have own:=Own.nil w w.heap.size 5 1
 refine Cd.loop (σ:=Nat × Value) (fun s=>[(0, .int .i64 n),(1, .int .i64 (d:Int)),(5,s.2),(6, .int .u64 ((u/10^s.1:Nat):Int)),(7, .int .i64 (s.1:Int))])
  (fun s wr=>s.1≤20∧Below w.heap.size w wr∧Own wr w.heap.size 5 1 s.2 (mw u d s.1).length (Bt (mw u d s.1))∧∀j,j<s.1→0<u/10^j∨j≤d) (fun s=>20-s.1) (0, .slice none 0 0) ⟨by simp,bel,own,fun j hj=>absurd hj (by simp)⟩ ⟨rfl,rfl,rfl,congrArg (fun x:Nat=>some (Value.int .u64 (x:Int))) (show u=u/10^0 by simp),rfl,trivial⟩ ?_
 clear bel;clear own;rintro⟨k,v⟩ wr ⟨hk,bel,own,hgo⟩;dsimp only at hk own hgo⊢;refine Cd.seq (ah ?_);refine Zm ?_;refine qK ?_;refine Zm ?_;refine ar.start ?_;refine bB (fun hcx=>aa.move rfl rfl) ?_;refine jL ?_;refine Zn (fun hcx=>aa.leq rfl rfl rfl) ?_;refine fh ?_;refine aV 0 1 5 6 7 22 (Zt ?_);have hlen:=qh u d k;have hdk:u/10^k≤u:=Nat.div_le_self _ _;have hdt:=zh u k;have hpr:mw u d (k+1)=mw u d k++(if k=d∧0<d then [46] else [])++[48+u/10^k%10]:=rfl
 generalize hq:u/10^k=q at *
 refine Cd.cond rfl (fun hc=> ?_) (fun hc=> ?_)
 ·have hgo1:0<q∨k≤d:=by simp at hc;omega
  have hk20:k<20:=by
   rcases Nat.lt_or_ge k 20 with h|h
   ·exact h
   ·obtain rfl:k=20:=by omega
    have:u/10^20=0:=Nat.div_eq_of_lt (by omega);omega
  have hgo2:∀j,j<k+1→0<u/10^j∨j≤d:=fun j hj=>by
   rcases Nat.lt_or_ge j k with h|h
   ·exact hgo j h
   ·obtain rfl:j=k:=by omega
    rw[hq];exact hgo1
  refine Cd.skip (aH (Cd.block ?_));refine Cd.kH (σ:=Value) (fun v=>[(0, .int .i64 n),(1, .int .i64 (d:Int)),(5,v),(6, .int .u64 (q:Int)),(7, .int .i64 (k:Int))]) (fun v wr=>Below w.heap.size w wr∧Own wr w.heap.size 5 1 v (mw u d k++if k=d∧0<d then [46] else []).length (Bt (mw u d k++if k=d∧0<d then [46] else []))) ?_ ?_
  ·skip
   refine ah ?_;refine Zm ?_;refine Zm ?_;refine aX ?_;refine Zm ?_;refine ar.start ?_;refine bB (fun hcx=>aa.move rfl rfl) ?_;refine Zn (fun hcx=>aa.gtr rfl rfl rfl) ?_;refine dL ?_;refine ba 0 1 5 6 7 22 31 (Zt ?_);refine Cd.cond rfl (fun hp=> ?_) (fun hp=> ?_)
   ·rw[if_pos (by simp at hp;omega)]
    refine Zr ?_;refine Zm ?_;refine Seq.slice (vs:=[_]) (s:=1) rfl rfl rfl Tryz.underlying64 (by kernel_rfl) (bf) (by omega) (by omega) ⟨rfl,trivial⟩ rfl rfl rfl ?_;intro g33 w1 n33;have e33:=Nat.le_trans bel.size n33.ge;replace bel:=bel.step n33.below;replace own:=own.step n33.below;have k33:=n33.an;refine Seq.append rfl rfl rfl Tryz.underlying64 (by kernel_rfl) bf rfl (by decide) (b:=1) (by kernel_rfl) own (Reads.an k33 1 rfl) (by intro x hx;simp[aC,Value.cells] at hx;rw[hx];rfl) bel.size (by simp only[maxLen];omega) (by omega) rfl rfl rfl ?_;clear own;intro vw2 w2 own haw2;replace bel:=bel.trans haw2.below;refine Za ?_;refine ba 0 1 5 6 7 22 31 ?_;exact ab.join _ ⟨rfl,rfl,rfl,rfl,rfl,trivial⟩ ⟨bel,by rw[List.length_append,gR];exact own⟩
   ·rw[if_neg (by simp at hp;omega)]
    refine Cd.skip ?_;exact ab.join _ ⟨rfl,rfl,rfl,rfl,rfl,trivial⟩ ⟨bel,by rw[List.append_nil];exact own⟩
  clear own bel hc;rintro v wr ⟨bel,own⟩;have hl2:(mw u d k++if k=d∧0<d then [46] else []).length≤2*k+1:=by rw[List.length_append];split<;>simp<;>omega
  generalize mw u d k++(if k=d∧0<d then [46] else [])=pre at *
  refine ah ?_;refine Zm ?_;refine Zm ?_;refine Zv (aa.BJ 10 rfl rfl rfl rfl (by omega)) ?_;refine Zv (aa.BR rfl rfl rfl (by omega) (by omega)) ?_;refine Zv (aa.fe rfl rfl Tryz.underlying94 Tryz.underlying5 (nT (by omega) (by omega))) ?_;refine Seq.slice (vs:=[_]) (s:=1) rfl rfl rfl Tryz.underlying64 (by kernel_rfl) (bf) (by omega) (by omega) ⟨rfl,trivial⟩ rfl rfl rfl ?_;intro g40 w1 n40;have e40:=Nat.le_trans bel.size n40.ge;replace bel:=bel.step n40.below;replace own:=own.step n40.below;have k40:=n40.an;refine Seq.append rfl rfl rfl Tryz.underlying64 (by kernel_rfl) bf rfl (by decide) (b:=1) (by kernel_rfl) own (Reads.an k40 1 rfl) (by intro x hx;simp[aC,Value.cells] at hx;rw[hx];rfl) bel.size (by simp only[maxLen];omega) (by omega) rfl rfl rfl ?_;clear own;intro vw2 w2 own haw2;replace bel:=bel.trans haw2.below;refine Za ?_;refine aL 0 1 5 6 7 (et ?_);refine Zm ?_;refine Zv (aa.Bc 10 rfl rfl rfl rfl (by omega) (by omega)) ?_;refine Za ?_;refine aL 0 1 5 6 7 (ab.ag (et ?_));refine Zm ?_;refine dq ?_;refine Za ?_;refine aL 0 1 5 6 7 ?_;refine ab.round (k+1,_) ⟨rfl,rfl,rfl,congrArg (fun x:Nat=>some (Value.int .u64 (x:Int))) hdt,rfl,trivial⟩ ⟨by dsimp only;omega,bel,?_,hgo2⟩ (by dsimp only;omega);dsimp only;rw[hpr,List.length_append,gR];exact own
 ·have hstop:sP u d k:=⟨hgo,by rw[hq];simp at hc;omega⟩
  have hk1:0<k:=by simp at hc;omega
  refine Cd.exit (ab.aD (ab.ay (ab.aA (Zt ?_))));refine Cd.kH (σ:=Value) (fun v=>[(5,v)]) (fun v wr=>Below w.heap.size w wr∧Own wr w.heap.size 5 1 v (mw u d k++if n<0 then [45] else []).length (Bt (mw u d k++if n<0 then [45] else []))) ?_ ?_
  ·skip
   refine ah ?_;refine Zm ?_;refine eU ?_;refine ba 0 1 5 6 7 22 45 (Zt ?_);refine Cd.ao rfl (fun hp=> ?_) (fun hp=> ?_)
   ·rw[if_pos hp]
    refine Zr ?_;refine Zm ?_;refine Seq.slice (vs:=[_]) (s:=1) rfl rfl rfl Tryz.underlying64 (by kernel_rfl) (bf) (by omega) (by omega) ⟨rfl,trivial⟩ rfl rfl rfl ?_;intro g47 w1 n47;have e47:=Nat.le_trans bel.size n47.ge;replace bel:=bel.step n47.below;replace own:=own.step n47.below;have k47:=n47.an;refine Seq.append rfl rfl rfl Tryz.underlying64 (by kernel_rfl) bf rfl (by decide) (b:=1) (by kernel_rfl) own (Reads.an k47 1 rfl) (by intro x hx;simp[aC,Value.cells] at hx;rw[hx];rfl) bel.size (by simp only[maxLen];omega) (by omega) rfl rfl rfl ?_;clear own;intro vw2 w2 own haw2;replace bel:=bel.trans haw2.below;refine Za ?_;refine ba 0 1 5 6 7 22 45 ?_;exact ab.join _ ⟨rfl,trivial⟩ ⟨bel,by rw[List.length_append,gR];exact own⟩
   ·rw[if_neg hp]
    refine Cd.skip ?_;exact ab.join _ ⟨rfl,trivial⟩ ⟨bel,by rw[List.append_nil];exact own⟩
  clear own bel hc;rintro v wr ⟨bel,own⟩;have hpos:0<(mw u d k++if n<0 then [45] else []).length:=by rw[List.length_append];omega
  have hl3:(mw u d k++if n<0 then [45] else []).length≤41:=by rw[List.length_append];split<;>simp<;>omega
  have hlt:∀x∈(mw u d k++if n<0 then [45] else []),x<256:=fun x hx=>by
   rcases List.mem_append.1 hx with hx|hx
   ·exact sY u d k x hx
   ·split at hx
    ·simp at hx;omega
    ·simp at hx
  have hprd:printed n d k=(mw u d k++if n<0 then [45] else []).reverse:=by unfold printed;rw[hun]
  obtain⟨g,cap,cur,rfl,hBg,kb,hnc,hcm,hsz,hxl,hcur⟩:=own.an hpos
  generalize mw u d k++(if n<0 then [45] else [])=l at *
  refine ah ?_;refine Zm ?_;refine Zc (Ze Tryz.func217) (re g l.length cap cur (Bt l) _ kb hnc (by omega) hsz hcur hxl (fun x hx=>by unfold Bt at hx;obtain⟨z,_,rfl⟩:=List.mem_map.1 hx;exact⟨_,rfl⟩)) ?_;rintro e w9 ⟨cur',rfl,kb',hsz',hcur',honly⟩;refine⟨_,rfl,?_⟩;replace bel:=bel.trans (gh honly.row hBg kb.lt)
  have hrd:Reads w9 w9.heap.size 1 (some ⟨g,0,none⟩) l.length (Bt l.reverse):=by
   refine⟨by rw[jh];simp,fun _=>⟨_,rfl,kb'.lt,fun j x hx=> ?_⟩⟩;have hplain:(⟨g,0,none⟩:Addr).add j=⟨g,j,none⟩:=by unfold Addr.add;split<;>simp_all
   rw[hplain,cell_of_row _ _ _ _ _ _ kb']
   have hj:j<l.length:=by
    rcases Nat.lt_or_ge j l.length with h|h
    ·exact h
    ·rw[kX,List.getElem?_eq_none (by simpa using h)] at hx;cases hx
   rw[hcur' j hj];unfold Bt at hx⊢;rw[←List.map_reverse];exact hx
  refine Am 5 (az ?_);refine Zm ?_;refine Zv (aa.tJ rfl rfl Tryz.underlying64 Tryz.underlying5 Tryz.underlying9 hrd (fun x hx=>hlt x (List.mem_reverse.1 hx))) ?_;refine Za ?_;refine cZ 4 5 (Zt (Cd.ret ?_));refine aP ?_;exact⟨⟨k,hstop,by omega,by rw[hprd]⟩,bel⟩
def vg (u:Nat):Nat:=((List.range 21).find? fun N=> !(decide (0<u/10^N)||decide (N≤0))).getD 0
theorem zr {u N:Nat}(h:sP u 0 N)(hN:N≤20):vg u=N:=by
 have hf:(List.range 21).find? (fun N=> !(decide (0<u/10^N)||decide (N≤0)))=some N:=by
  rw[List.find?_range_eq_some];refine⟨?_,List.mem_range.2 (by omega),fun j hj=> ?_⟩
  ·have:=h.2
   simp only[not_or] at this;simp only[Bool.not_eq_true',Bool.or_eq_false_iff,decide_eq_false_iff_not];exact this
  ·have:=h.1 j hj
   simp only[Bool.not_not,Bool.or_eq_true,decide_eq_true_eq];exact this
 unfold vg;rw[hf];rfl
def rF (n:Int):List Nat:=printed n 0 (vg n.natAbs)
theorem yI (u:Nat):vg u≤20:=by
 unfold vg
 cases h:(List.range 21).find? (fun N=> !(decide (0<u/10^N)||decide (N≤0))) with
 |none=>exact Nat.zero_le _
 |some N=>have:=List.mem_range.1 (List.mem_of_find?_eq_some h);show N≤20;omega
theorem rv (n:Int):(rF n).length≤41:=by
 unfold rF printed;have h1:=yI n.natAbs;have h2:=qh n.natAbs 0 (vg n.natAbs);rw[List.length_reverse,List.length_append];split<;>simp<;>omega
theorem ui (n:Int):∀x∈rF n,x<256:=by
 intro x hx;unfold rF printed at hx;rw[List.mem_reverse,List.mem_append] at hx;rcases hx with hx|hx
 ·exact sY _ _ _ x hx
 ·split at hx<;>simp at hx;omega
theorem vI (n:Int)(w:World)(hn:bu n):Calls Tryz.prog 184 #[.int .i64 n, .int .i64 0] w fun e w'=>e= .returned (.string (strOf (rF n)))∧Grow w w':=
 (uE n 0 w hn (by decide)).mono fun e w' ⟨⟨N,h1,h2,h3⟩,h4⟩=>⟨by rw[h3];unfold rF;rw[zr h1 h2],h4⟩
theorem ru (n:Nat):(rO n).length=10:=by unfold rO j7;simp[xQ]
theorem ub (n:Nat):∀x∈rO n,x<256:=oO _ _ _
def xh:List (List Nat):=[[43],[45],[42],[47],[],[],[60],[60,61],[61],[33,61],[62,61],[62],[38],[124],[33],[45]]
def xp:List Int:=[4,4,5,5,7,7,3,3,3,3,3,3,2,1,6,6]
def bw (op:Int):List Nat × Int:=if op<5∨20<op then([],7) else(xh.getD (op-5).toNat [],xp.getD (op-5).toNat 7)
def hO (least:Int)(x:Int × List Nat):List Nat:=if x.1<least then [40]++x.2++[41] else x.2
def bY:List (List Nat)→List Nat
 | []=>[]
 |s::r=>s++(r.flatMap fun t=>[44,32]++t)
theorem mG (l:List (List Nat))(x:List Nat):bY (l++[x])=if l=[] then x else bY l++[44,32]++x:=by
 cases l with
 |nil=>simp[bY]
 |cons s r=>simp[bY]
def tO (op n:Int)(nm:List Nat)(l:List (Int × List Nat)):List Nat:=
 if op=1 then rF n else if op=2 then rO n.toNat else if op=3 then nm else if op=4 then [100,97,121]
 else if(bw op).2=6 then(bw op).1++hO 6 (l.getD 0 (7,[]))
 else if(bw op).2=3 then hO 4 (l.getD 0 (7,[]))++[32]++(bw op).1++[32]++hO 4 (l.getD 1 (7,[]))
 else if(bw op).2<6 then hO (bw op).2 (l.getD 0 (7,[]))++[32]++(bw op).1++[32]++hO ((bw op).2+1) (l.getD 1 (7,[]))
 else(if op=9 then [109,105,110,40] else if op=10 then [109,97,120,40] else [105,102,40])++bY (l.map (·.2))++[41]
mutual
def bN:Ex→List Nat
 | .mk op n nm l=>tO op n nm (ni l)
def ni:List Ex→List (Int × List Nat)
 | []=>[]
 |e::r=>((bw e.op).2,bN e)::ni r
end
def cU (e:Ex):Int × List Nat:=((bw e.op).2,bN e)
theorem mN:∀l,ni l=l.map cU
 | []=>by rw[ni];rfl
 |e::r=>by rw[ni,mN r];rfl
theorem rl (e:Ex):bN e=tO e.op e.n e.name (e.args.map cU):=by
 cases e;rw[bN,mN];rfl
def ud (e:Ex)(least:Int):List Nat:=hO least (cU e)
theorem lu {op n:Int}{nm:List Nat}{k:Nat}(h:kG op n nm k=true):dW op=(k:Int)∧(n=0∨op=1∨op=2)∧(nm=[]∨op=3)∧0≤n∧(op=2→n≤2932896)∧(op=3→gG nm=true):=
 Classical.byContradiction fun hn=>by rw[lV hn] at h;cases h
theorem j2 {e:Ex}(h:bQ e=true):kG e.op e.n e.name e.args.length=true∧∀x∈e.args,bQ x=true:=by
 rw[o7,Bool.and_eq_true,List.all_eq_true] at h;exact h
theorem mX {op:Int}{k:Nat}(h:dW op=(k:Int)):1≤op∧op≤21∧(op≤4→k=0)∧(5≤op→op≤18→k=2)∧(op=19∨op=20→k=1)∧(op=21→k=3):=by
 unfold dW at h
 repeat' split at h
 all_goals omega
theorem kn {nm:List Nat}(h:gG nm=true):nm.length≤16:=by
 unfold gG cg at h;simp at h;omega
theorem lq (op:Int):(bw op).1.length≤2∧(∀x∈(bw op).1,x<256)∧1≤(bw op).2∧(bw op).2≤7:=by
 unfold bw;split
 ·simp
 ·rename_i h
  have:(op-5).toNat<16:=by omega
  generalize (op-5).toNat=j at *
  have key:∀j:Fin 16,(xh.getD j.val []).length≤2∧(∀x∈xh.getD j.val [],x<256)∧1≤xp.getD j.val 7∧xp.getD j.val 7≤7:=by decide
  exact key ⟨j,this⟩
theorem rh (least:Int)(x:Int × List Nat):(hO least x).length≤x.2.length+2∧((∀d∈x.2,d<256)→∀d∈hO least x,d<256):=by
 unfold hO;split
 ·refine⟨by simp,fun h d hd=> ?_⟩
  simp only[List.mem_append,List.mem_singleton] at hd;rcases hd with (hd|hd)|hd
  ·omega
  ·exact h d hd
  ·omega
 ·exact⟨by omega,fun h=>h⟩
theorem yH {l:List Nat}(h:runN bl l=l.length):∀x∈l,bl x=true:=by
 induction l with
 |nil=>intro x hx;cases hx
 |cons c r ih=>
  rw[eF] at h;intro x hx;split at h
  ·rename_i hc
   rcases List.mem_cons.1 hx with rfl|hx
   ·exact hc
   ·exact ih (by rw[List.length_cons] at h;omega) x hx
  ·simp at h
theorem mn {nm:List Nat}(h:gG nm=true):∀x∈nm,x<256:=by
 unfold gG cg at h;simp at h;intro x hx;have:=yH h.1.2 x hx;unfold bl qF fP at this;simp at this;omega
theorem yM {P:Nat→Prop}{a b c:List Nat}(ha:∀x∈a,P x)(hb:∀x∈b,P x)(hc:∀x∈c,P x):∀x∈a++b++c,P x:=by
 intro x hx;simp only[List.mem_append] at hx;rcases hx with (h|h)|h
 ·exact ha x h
 ·exact hb x h
 ·exact hc x h
theorem tW {l:List (List Nat)}(h:∀t∈l,∀x∈t,x<256):∀x∈bY l,x<256:=by
 cases l with
 |nil=>intro x hx;cases hx
 |cons s r=>
  intro x hx;unfold bY at hx;simp only[List.mem_append,List.mem_flatMap,List.mem_cons,List.not_mem_nil,or_false] at hx;rcases hx with hx|⟨t,ht,hx|hx⟩
  ·exact h s List.mem_cons_self x hx
  ·omega
  ·exact h t (List.mem_cons_of_mem _ ht) x hx
theorem jj (l:List Ex):(l.map cU).map (·.2)=l.map bN:=by rw[List.map_map];rfl
theorem lP (s t:List Nat)(r:List (List Nat)):bY (s::t::r)=s++[44,32]++bY (t::r):=by simp[bY]
theorem ln:∀l:List Ex,(∀x∈l,(bN x).length≤50*x.nodes)→(bY (l.map bN)).length≤50*bz l+2*l.length
 | [],_=>by simp[bY]
 | [x],h=>by have:=h x List.mem_cons_self;simp[bY,bz];omega
 |x::y::r,h=>by
  have h1:=h x List.mem_cons_self;have h2:=ln (y::r) fun z hz=>h z (List.mem_cons_of_mem _ hz);rw[bz,List.map_cons,List.map_cons,lP,←List.map_cons];simp only[List.length_append,List.length_cons,List.length_nil] at h2⊢;omega
theorem eo (N:Nat):∀e:Ex,e.nodes≤N→bQ e=true→(bN e).length≤50*e.nodes∧∀d∈bN e,d<256:=by
 induction N with
 |zero=>intro e hN;have:=e.bI;omega
 |succ N ih=>
  intro e hN hb;obtain⟨hh,ha⟩:=j2 hb;obtain⟨h1,h2,h3,h4,h5,h6⟩:=lu hh;obtain⟨o1,o2,o3,o4,o5,o6⟩:=mX h1;obtain⟨b1,b2,b3,b4⟩:=lq e.op;have harg:∀x∈e.args,(bN x).length≤50*x.nodes∧∀d∈bN x,d<256:=fun x hx=>ih x (by have:=Ex.eD hx;omega) (ha x hx)
  have hpar:∀x∈e.args,∀least,(hO least (cU x)).length≤50*x.nodes+2∧∀d∈hO least (cU x),d<256:=fun x hx least=>by
   have h:=rh least (cU x);have h2:=harg x hx;exact⟨by have:=h.1;have e:(cU x).2=bN x:=rfl;rw[e] at this;omega,h.2 h2.2⟩
  have hn:e.nodes=1+bz e.args:=by cases e;exact Ex.fG _ _ _ _
  rw[rl];unfold tO;have k1:∀x∈([40]:List Nat),x<256:=by decide
  have k2:∀x∈([32]:List Nat),x<256:=by decide
  have k3:∀x∈([41]:List Nat),x<256:=by decide
  split
  ·exact⟨by have:=rv e.n;omega,ui _⟩
  ·split
   ·exact⟨by rw[ru];omega,ub _⟩
   ·split
    ·rename_i h
     exact⟨by have:=kn (h6 h);omega,mn (h6 h)⟩
    ·split
     ·exact⟨by simp;omega,by decide⟩
     ·have hlen:1≤e.args.length∧e.args.length≤3:=by omega
      obtain⟨x,r,hx⟩:∃x r,e.args=x::r:=by
       cases hx:e.args with
       |nil=>rw[hx] at hlen;simp at hlen
       |cons x r=>exact⟨x,r,rfl⟩
      have px:=hpar x (by rw[hx];exact List.mem_cons_self);rw[hx] at hn;rw[bz] at hn;split
      ·rw[hx]
       obtain⟨p1,p2⟩:=px 6;refine⟨by rw[List.length_append];show _+(hO 6 (cU x)).length≤_;omega,fun d hd=> ?_⟩;rcases List.mem_append.1 hd with hd|hd
       ·exact b2 d hd
       ·exact p2 d hd
      ·rename_i hp6
       have hbin:(bw e.op).2<6→∃y r',r=y::r':=fun hlt=>by
        have hop:e.op≤18:=by
         rcases Int.lt_or_le 18 e.op with h|h
         ·exfalso
          have:e.op=19∨e.op=20∨e.op=21:=by omega
          rcases this with h|h|h<;>rw[h] at hlt<;>revert hlt<;>decide
         ·exact h
        have:=o4 (by omega) hop;rw[hx] at this
        cases r with
        |nil=>simp at this
        |cons y r'=>exact⟨y,r',rfl⟩
       split
       ·rename_i hp3
        obtain⟨y,r',rfl⟩:=hbin (by omega);have py:=hpar y (by rw[hx];exact List.mem_cons_of_mem _ List.mem_cons_self);rw[bz] at hn;rw[hx];obtain⟨p1,p2⟩:=px 4;obtain⟨q1,q2⟩:=py 4;refine⟨?_,yM (yM p2 k2 b2) k2 q2⟩;simp only[List.length_append,List.length_cons,List.length_nil];show(hO 4 (cU x)).length+_+_+_+(hO 4 (cU y)).length≤_;omega
       ·split
        ·rename_i hp5
         obtain⟨y,r',rfl⟩:=hbin hp5;have py:=hpar y (by rw[hx];exact List.mem_cons_of_mem _ List.mem_cons_self);rw[bz] at hn;rw[hx];obtain⟨p1,p2⟩:=px (bw e.op).2;obtain⟨q1,q2⟩:=py ((bw e.op).2+1);refine⟨?_,yM (yM p2 k2 b2) k2 q2⟩;simp only[List.length_append,List.length_cons,List.length_nil];show(hO (bw e.op).2 (cU x)).length+_+_+_+(hO ((bw e.op).2+1) (cU y)).length≤_;omega
        ·have hj:=ln e.args fun z hz=>(harg z hz).1
         rw[jj];refine⟨?_,yM ?_ (tW fun t ht=> ?_) k3⟩
         ·rw[hx,bz] at hj
          rw[hx] at hlen⊢;simp only[List.length_append,List.length_cons,List.length_nil] at hj hlen⊢;split
          ·simp only[List.length_cons,List.length_nil];omega
          ·split<;>simp only[List.length_cons,List.length_nil]<;>omega
         ·split
          ·decide
          ·split<;>decide
         ·simp only[List.mem_map] at ht
          obtain⟨z,hz,rfl⟩:=ht;exact(harg z hz).2
theorem nZ (l:List (List Nat))(k:Nat):(bY (l.take k)).length≤(bY l).length:=by
 cases l with
 |nil=>simp[bY]
 |cons s r=>
  cases k with
  |zero=>exact Nat.zero_le _
  |succ k=>
   rw[List.take_succ_cons]
   conv=>rhs;rw[←List.take_append_drop k r]
   simp only[bY];rw[List.flatMap_append];simp only[List.length_append];omega
section
variable {P:Program} {Q:Exit→Act→World→Prop} {n:Nat} {F F':List (Nat × Value)} {w:World}
def wE (n:Nat)(F:List (Nat × Value))(J:Inhabited (List Deferred)→World→Prop)(a:Act)(w:World):Prop:=∃I,@Fr I n F a∧J I w
theorem Cd.BZ {x y:Code}(F':List (Nat × Value))(J:Inhabited (List Deferred)→World→Prop)(hx:Cd P x (Exit.then (wE n F' J) Q) n F w)(hy:∀I w,J I w→ @Cd I P y Q n F' w):Cd P (.seq x y) Q n F w:=
 fun a ha=>wp_seq (Code.wp_mono (fun e a w q=>by
  cases e with
  |normal=>obtain⟨I,hF,hJ⟩:=q;exact hy I w hJ a hF
  |exit id=>exact q
  |goto l=>exact q
  |ret=>exact q
  |panic ch=>exact q
  |outgrown=>exact q) (hx a ha))
theorem ab.zO {I:Inhabited (List Deferred)}{J:Inhabited (List Deferred)→World→Prop}(hs:Sub F' F)(hJ:J I w): @ab I (Exit.then (wE n F' J) Q) .normal n F w:=fun _ ha=>⟨I,ha.sub hs,hJ⟩
end
theorem s6 (op:Int)(w:World):Calls Tryz.prog 181 #[.int .i64 op] w fun e w'=>e= .returned (.tuple #[.string (strOf (bw op).1), .int .i64 (bw op).2])∧Grow w w':=by
 have bel:=Below.refl w.heap.size w;refine Zs 33 Tryz.func181 ?_;refine ah ?_;refine Za ?_;refine Za ?_;refine bk 0 2 3 (aH (ah ?_));refine Zm ?_;refine aS 0 2 3 4 (Zt (Cd.block (ah ?_)));refine aX ?_;refine Za ?_;refine aL 0 2 3 4 5 (Zt ?_);refine Cd.ao rfl (fun h18=> ?_) (fun h18=> ?_)
 ·skip
  refine ah ?_;refine Za ?_;refine Za ?_;refine aL 0 2 3 4 5 (Zt (Cd.ret (ab.af (ab.ae ?_))));refine cG ?_;subst h18;exact⟨rfl,bel⟩
 refine ah ?_;refine aX ?_;refine Za ?_;refine aV 0 2 3 4 5 7 (Zt ?_);refine Cd.ao rfl (fun h17=> ?_) (fun h17=> ?_)
 ·skip
  refine ah ?_;refine Za ?_;refine Za ?_;refine aV 0 2 3 4 5 7 (Zt (Cd.ret (ab.af (ab.ae ?_))));refine cG ?_;subst h17;exact⟨rfl,bel⟩
 refine ah ?_;refine aX ?_;refine Za ?_;refine ba 0 2 3 4 5 7 9 (Zt ?_);refine Cd.ao rfl (fun h11=> ?_) (fun h11=> ?_)
 ·skip
  refine ah ?_;refine Za ?_;refine Za ?_;refine ba 0 2 3 4 5 7 9 (Zt (Cd.ret (ab.af (ab.ae ?_))));refine cG ?_;subst h11;exact⟨rfl,bel⟩
 refine ah ?_;refine aX ?_;refine Za ?_;refine bO 0 2 3 4 5 7 9 11 (Zt ?_);refine Cd.ao rfl (fun h12=> ?_) (fun h12=> ?_)
 ·skip
  refine ah ?_;refine Za ?_;refine Za ?_;refine bO 0 2 3 4 5 7 9 11 (Zt (Cd.ret (ab.af (ab.ae ?_))));refine cG ?_;subst h12;exact⟨rfl,bel⟩
 refine ah ?_;refine aX ?_;refine Za ?_;refine cw 0 2 3 4 5 7 9 11 13 (Zt ?_);refine Cd.ao rfl (fun h13=> ?_) (fun h13=> ?_)
 ·skip
  refine ah ?_;refine Za ?_;refine Za ?_;refine cw 0 2 3 4 5 7 9 11 13 (Zt (Cd.ret (ab.af (ab.ae ?_))));refine cG ?_;subst h13;exact⟨rfl,bel⟩
 refine ah ?_;refine aX ?_;refine Za ?_;refine dr 0 2 3 4 5 7 9 11 13 15 (Zt ?_);refine Cd.ao rfl (fun h14=> ?_) (fun h14=> ?_)
 ·skip
  refine ah ?_;refine Za ?_;refine Za ?_;refine dr 0 2 3 4 5 7 9 11 13 15 (Zt (Cd.ret (ab.af (ab.ae ?_))));refine cG ?_;subst h14;exact⟨rfl,bel⟩
 refine ah ?_;refine aX ?_;refine Za ?_;refine ct 0 2 3 4 5 7 9 11 13 15 17 (Zt ?_);refine Cd.ao rfl (fun h15=> ?_) (fun h15=> ?_)
 ·skip
  refine ah ?_;refine Za ?_;refine Za ?_;refine ct 0 2 3 4 5 7 9 11 13 15 17 (Zt (Cd.ret (ab.af (ab.ae ?_))));refine cG ?_;subst h15;exact⟨rfl,bel⟩
 refine ah ?_;refine aX ?_;refine Za ?_;refine eZ 0 2 3 4 5 7 9 11 13 15 17 19 (Zt ?_);refine Cd.ao rfl (fun uB=> ?_) (fun uB=> ?_)
 ·skip
  refine ah ?_;refine Za ?_;refine Za ?_;refine eZ 0 2 3 4 5 7 9 11 13 15 17 19 (Zt (Cd.ret (ab.af (ab.ae ?_))));refine cG ?_;subst uB;exact⟨rfl,bel⟩
 refine ah ?_;refine aX ?_;refine Za ?_;refine iW 0 2 3 4 5 7 9 11 13 15 17 19 21 (Zt ?_);refine Cd.ao rfl (fun h5=> ?_) (fun h5=> ?_)
 ·skip
  refine ah ?_;refine Za ?_;refine Za ?_;refine iW 0 2 3 4 5 7 9 11 13 15 17 19 21 (Zt (Cd.ret (ab.af (ab.ae ?_))));refine cG ?_;subst h5;exact⟨rfl,bel⟩
 refine ah ?_;refine aX ?_;refine Za ?_;refine gM 0 2 3 4 5 7 9 11 13 15 17 19 21 23 (Zt ?_);refine Cd.ao rfl (fun h6=> ?_) (fun h6=> ?_)
 ·skip
  refine ah ?_;refine Za ?_;refine Za ?_;refine gM 0 2 3 4 5 7 9 11 13 15 17 19 21 23 (Zt (Cd.ret (ab.af (ab.ae ?_))));refine cG ?_;subst h6;exact⟨rfl,bel⟩
 refine ah ?_;refine aX ?_;refine Za ?_;refine zA 0 2 3 4 5 7 9 11 13 15 17 19 21 23 25 (Zt ?_);refine Cd.ao rfl (fun h7=> ?_) (fun h7=> ?_)
 ·skip
  refine ah ?_;refine Za ?_;refine Za ?_;refine zA 0 2 3 4 5 7 9 11 13 15 17 19 21 23 25 (Zt (Cd.ret (ab.af (ab.ae ?_))));refine cG ?_;subst h7;exact⟨rfl,bel⟩
 refine ah ?_;refine aX ?_;refine Za ?_;refine mc 0 2 3 4 5 7 9 11 13 15 17 19 21 23 25 27 (Zt ?_);refine Cd.ao rfl (fun h8=> ?_) (fun h8=> ?_)
 ·skip
  refine ah ?_;refine Za ?_;refine Za ?_;refine mc 0 2 3 4 5 7 9 11 13 15 17 19 21 23 25 27 (Zt (Cd.ret (ab.af (ab.ae ?_))));refine cG ?_;subst h8;exact⟨rfl,bel⟩
 refine ah ?_;refine aX ?_;refine Za ?_;refine AS 0 2 3 4 5 7 9 11 13 15 17 19 21 23 25 27 29 (Zt ?_);refine Cd.ao rfl (fun h19=> ?_) (fun h19=> ?_)
 ·skip
  refine ah ?_;refine Za ?_;refine Za ?_;refine AS 0 2 3 4 5 7 9 11 13 15 17 19 21 23 25 27 29 (Zt (Cd.ret (ab.af (ab.ae ?_))));refine cG ?_;subst h19;exact⟨rfl,bel⟩
 refine ah ?_;refine aX ?_;refine Za ?_;refine Au 0 2 3 4 5 7 9 11 13 15 17 19 21 23 25 27 29 31 (Zt ?_);refine Cd.ao rfl (fun h20=> ?_) (fun h20=> ?_)
 ·skip
  refine ah ?_;refine Za ?_;refine Za ?_;refine Au 0 2 3 4 5 7 9 11 13 15 17 19 21 23 25 27 29 31 (Zt (Cd.ret (ab.af (ab.ae ?_))));refine cG ?_;subst h20;exact⟨rfl,bel⟩
 refine Cd.skip (ab.ag (az ?_));refine Za ?_;refine Za ?_;refine Au 0 2 3 4 5 7 9 11 13 15 17 19 21 23 25 27 29 31 (Zt (Cd.ret ?_));refine cG ?_
 have hb:bw op=([],7):=by
  unfold bw
  by_cases h:op<5∨20<op
  ·rw[if_pos h]
  ·have:op=9∨op=10:=by omega
   rcases this with rfl|rfl<;>rfl
 rw[hb];exact⟨rfl,bel⟩
theorem rC (B g f n:Nat)(cp:List Value)(word bs:List Nat)(ts:List (List Nat))(w:World)(h:Bw w B g bs)(hw:∀d∈word,d<256)(hwl:word.length≤100)(hn:ts.length=n)(hn9:n≤1000)(hts:∀t∈ts,∀d∈t,d<256)(hj:(bY ts).length≤20000)(hl:bs.length≤900000000)
  (eg:∀args w,(callFunc f args).run Tryz.prog w= .ok (.enter f args) w)
  (one:∀(i:Nat) (t:List Nat),ts[i]? =some t→∀W bs',Wt B w W→Bw W B g bs'→bs'.length≤bs.length+50000→Calls Tryz.prog f ([]++[Value.int .i64 (i:Int)]++cp).toArray W (ff B g (bs'++t) W)):
  Calls Tryz.prog 175 #[.pointer (some ⟨g,0,none⟩), .string (strOf word), .int .i64 (n:Int), .func (.func f) #[] cp.toArray] w (ff B g (bs++word++[40]++bY ts++[41]) w):=by
 have wt:=Wt.refl B w;have wr:=h;refine Zs 33 Tryz.func175 ?_;refine ah ?_;refine Zm ?_;refine Zv (aa.nilCheck rfl rfl) ?_;refine Zf 0 Tryz.underlying232 ?_;refine Zm ?_;refine Zv (aa.rZ (b:=[40]) rfl rfl rfl (by simp only[List.length_cons,List.length_nil];omega)) ?_
 have k40:∀d∈word++[40],d<256:=fun d hd=>by
  rcases List.mem_append.1 hd with hd|hd
  ·exact hw d hd
  ·simp at hd;omega
 refine Zc (Ze Tryz.func174) ((bo B g (word++[40]) bs _ wr k40 (by simp only[List.length_append,List.length_cons,List.length_nil];omega)).1) ?_;clear wr;rintro e w1 ⟨⟨_,rfl⟩,fw1,wr⟩;refine⟨_,rfl,?_⟩;replace wt:=wt.wt fw1;rw[←List.append_assoc] at wr;obtain⟨pre,hpre⟩:∃pre,pre=bs++word++[40]:=⟨_,rfl⟩;have hprel:pre.length≤bs.length+101:=by rw[hpre];simp only[List.length_append,List.length_cons,List.length_nil];omega
 rw[←hpre] at wr⊢;refine aS 0 1 2 3 (aH (ah ?_));refine Zm ?_;refine Zm ?_;refine aV 0 1 2 3 15 16 (Zt (Cd.block ?_));refine Cd.loop (σ:=Nat) (fun k=>[(0, .pointer (some ⟨g,0,none⟩)),(1, .string (strOf word)),(2, .int .i64 (n:Int)),(3, .func (.func f) #[] cp.toArray),(15, .int .i64 (n:Int)),(16, .int .i64 (k:Int))]) (fun k wr'=>k≤n∧Wt B w wr'∧Bw wr' B g (pre++bY (ts.take k))) (fun k=>n-k) 0 ⟨Nat.zero_le _,wt,by simpa[bY] using wr⟩ ⟨rfl,rfl,rfl,rfl,rfl,rfl,trivial⟩ ?_;clear wt wr;rintro k w9 ⟨hk,wt,wr⟩;have hbk:=nZ ts k;refine ah ?_;refine eU ?_;refine ba 0 1 2 3 15 16 17 (aH ?_);refine Cd.ao rfl (fun hc=> ?_) (fun hc=> ?_)
 ·obtain⟨t,ht⟩:∃t,ts[k]? =some t:=⟨_,List.getElem?_eq_getElem (by omega)⟩
  have htk:ts.take (k+1)=ts.take k++[t]:=by rw[List.take_add_one,ht];rfl
  have hbk1:=nZ ts (k+1);rw[htk,mG] at hbk1;refine Cd.skip (aH (Cd.block (ah ?_)));refine Zm ?_;refine Za ?_;refine bO 0 1 2 3 8 15 16 17 (aH (ah ?_));refine Zm ?_;refine qK ?_;refine cw 0 1 2 3 8 15 16 17 20 (Zt ?_);refine Cd.ao rfl (fun hc=> ?_) (fun hc=> ?_)
  ·have hne:ts.take k≠ []:=fun h0=>by have:=congrArg List.length h0;rw[List.length_take,List.length_nil] at this;omega
   rw[if_neg hne] at hbk1;refine Zr ?_;refine Zm ?_;refine Zv (aa.nilCheck rfl rfl) ?_;refine Zf 0 Tryz.underlying232 ?_;refine Zc (Ze Tryz.func174) ((bo B g [44,32] _ _ wr (by decide) (by simp only[List.length_append,List.length_cons,List.length_nil];omega)).1) ?_;clear wr;rintro e w2 ⟨⟨_,rfl⟩,fw2,wr⟩;refine⟨_,rfl,?_⟩;replace wt:=wt.wt fw2;refine cw 0 1 2 3 8 15 16 17 20 (et ?_);refine Zm ?_;refine Zm ?_;refine Seq.call (Enters.value (first:=[]) rfl rfl rfl eg) rfl rfl rfl (one k t ht _ _ wt wr (by simp only[List.length_append,List.length_cons,List.length_nil];omega)) ?_;clear wr;rintro e w10 ⟨⟨_,rfl⟩,f10,wr⟩;refine⟨_,rfl,?_⟩;replace wt:=wt.wt f10;refine cw 0 1 2 3 8 15 16 17 20 (ab.ag (et ?_));refine dq ?_;refine Zm ?_;refine cw 0 1 2 3 8 15 16 17 20 ?_;refine ab.round (k+1) ⟨rfl,rfl,rfl,rfl,rfl,rfl,trivial⟩ ⟨by omega,wt,?_⟩ (by omega);rw[htk,mG,if_neg hne]
   simpa only[List.append_assoc] using wr
  ·obtain rfl:k=0:=by omega
   refine Cd.skip (et ?_);refine Zm ?_;refine Zm ?_;refine Seq.call (Enters.value (first:=[]) rfl rfl rfl eg) rfl rfl rfl (one 0 t ht _ _ wt wr (by simp only[List.length_append,List.take_zero];simp only[bY,List.length_nil];omega)) ?_;clear wr;rintro e w10 ⟨⟨_,rfl⟩,f10,wr⟩;refine⟨_,rfl,?_⟩;replace wt:=wt.wt f10;refine cw 0 1 2 3 8 15 16 17 20 (ab.ag (et ?_));refine dq ?_;refine Zm ?_;refine cw 0 1 2 3 8 15 16 17 20 ?_;refine ab.round 1 ⟨rfl,rfl,rfl,rfl,rfl,rfl,trivial⟩ ⟨by omega,wt,?_⟩ (by omega);rw[htk]
   simpa[bY] using wr
 ·obtain rfl:k=n:=by omega
  rw[List.take_of_length_le (by omega)] at wr;refine Cd.exit (ab.aD (ab.ay (ab.aA (et ?_))));refine Zm ?_;refine Zv (aa.nilCheck rfl rfl) ?_;refine Zf 0 Tryz.underlying232 ?_;refine Zc (Ze Tryz.func174) ((bo B g [41] _ _ wr (by decide) (by simp only[List.length_append,List.length_cons,List.length_nil];omega)).1) ?_;clear wr;rintro e w2 ⟨⟨_,rfl⟩,fw2,wr⟩;refine⟨_,rfl,?_⟩;replace wt:=wt.wt fw2;refine ba 0 1 2 3 15 16 17 ?_;refine ab.du rfl (.inr rfl) ?_;exact⟨⟨_,rfl⟩,wt,wr⟩
def AH (B g L:Nat)(w:World)(e:Ex)(A:Option Addr):Prop:=∀(i:Nat) (x:Ex),e.args[i]? =some x→∃ad A' c',A=some ad∧
 (∀W,Below B w W→∀(j:Nat) (u:Value),([.int .i64 x.op, .int .i64 x.n, .string (strOf x.name), .slice A' x.args.length c']:List Value)[j]? =some u→W.cell? ((ad.add (i*4)).add j)=some u)∧
 (∀W bs' least,Below B w W→Bw W B g bs'→bu least→bs'.length≤L→Calls Tryz.prog 138 #[.pointer (some ⟨g,0,none⟩), .agg #[.int .i64 x.op, .int .i64 x.n, .string (strOf x.name), .slice A' x.args.length c'], .int .i64 least] W (ff B g (bs'++ud x least) W))
theorem p8 (x:Ex):ud x 1=bN x:=by
 unfold ud hO;rw[if_neg (by have:=(lq x.op).2.2.1;show¬(bw x.op).2<1;omega)];rfl
theorem sO (B g L g3 g4 c i:Nat)(A:Option Addr)(e x:Ex)(bs:List Nat)(w W:World)(h:AH B g L w e A)(hb:Below B w W)(k3:aE W g3 192 #[.pointer (some ⟨g,0,none⟩)]) (k4:aE W g4 105 #[.int .i64 e.op, .int .i64 e.n, .string (strOf e.name), .slice A e.args.length c]) (wr:Bw W B g bs) (hL:bs.length≤L) (hx:e.args[i]? =some x):
  Calls Tryz.prog 183 #[.int .i64 (i:Int), .pointer (some ⟨g3,0,none⟩), .pointer (some ⟨g4,0,none⟩)] W (ff B g (bs++bN x) W):=by
 obtain⟨ad,A',c',rfl,hc,hcall⟩:=h i x hx;have hi:=(List.getElem?_eq_some_iff.1 hx).1;have hBW:=wr.size;have hcall:=fun W' (hb2:Below W.heap.size W W') (wr':Bw W' B g bs)=>hcall W' bs 1 (hb.trans (hb2.mono hBW)) wr' (by unfold bu;omega) hL;rw[p8] at hcall;have hc:=fun W' (hb2:Below W.heap.size W W')=>hc W' (hb.trans (hb2.mono hBW));have bel:=Below.refl W.heap.size W;have wt:=Wt.refl B W;refine Zs 11 Tryz.func183 ?_;refine gm 6 ?_;intro w1 hw1 zw1;replace bel:=bel.step hw1;replace wt:=wt.step hw1;replace wr:=wr.step hw1;replace k3:=k3.step hw1;replace k4:=k4.step hw1;have zbel:=bel.size;have zlt:=k4.lt;refine fb Tryz.underlying192 k3 ?_;refine gw 3 Tryz.underlying105 ?_;refine fb Tryz.underlying68 k4 ?_;refine fN ?_;refine Zd (fun w hG=>aa.aU rfl rfl rfl Tryz.underlying68 (s:=4) (by kernel_rfl) (j:=i) rfl (by omega)) ?_;refine Zd (fun w hG=>aa.b7 (ps:=[.int .i64 x.op, .int .i64 x.n, .string (strOf x.name), .slice A' x.args.length c']) rfl rfl Tryz.underlying105 rfl (m:=4) (by kernel_rfl) rfl (hc _ (bel.step hG))) ?_;refine Dr.nil ?_;refine bH.done (F':=[(0,_),(1,_),(2,_),(4,_),(9,_)]) rfl ⟨rfl,rfl,rfl,rfl,rfl,trivial⟩ ?_;intro w2 hw2 fw2;replace bel:=bel.step hw2;replace wt:=wt.step hw2;replace wr:=wr.step hw2;replace k3:=k3.step hw2;replace k4:=k4.step hw2;have hcc:=hcall _ bel wr;clear bel;refine Zc (Ze Tryz.func138) (hcc) ?_;clear wr;rintro e w3 ⟨⟨_,rfl⟩,fw3,wr⟩;refine⟨_,rfl,?_⟩;replace wt:=wt.wt fw3;refine bk 0 1 2 ?_;refine ab.du rfl (.inr rfl) ?_;exact⟨⟨_,rfl⟩,wt,wr⟩
theorem Az:∀args w,(callFunc 183 args).run Tryz.prog w= .ok (.enter 183 args) w:=fun args w=>aF Tryz.func183 (by kernel_rfl) rfl args w
theorem iQ (B g L g3 g4 c:Nat)(A:Option Addr)(e:Ex)(word bs:List Nat)(w W:World)(h:AH B g L w e A)(hb:Below B w W)(k3:aE W g3 192 #[.pointer (some ⟨g,0,none⟩)]) (k4:aE W g4 105 #[.int .i64 e.op, .int .i64 e.n, .string (strOf e.name), .slice A e.args.length c]) (wr:Bw W B g bs) (hL:bs.length+50000≤L) (hL2:L≤900000000)
  (hw:∀d∈word,d<256) (hwl:word.length≤100) (hbt:∀x∈e.args,bQ x=true) (hn:e.args.length≤1000) (hj:(bY (e.args.map bN)).length≤20000):
  Calls Tryz.prog 182 #[.string (strOf word), .pointer (some ⟨g3,0,none⟩), .pointer (some ⟨g4,0,none⟩)] W (ff B g (bs++word++[40]++bY (e.args.map bN)++[41]) W):=by
 have wt:=Wt.refl B W;have hBW:=wr.size;have hl:(e.args.map bN).length=e.args.length:=List.length_map _
 have hlist:=rC B g 183 e.args.length [.pointer (some ⟨g3,0,none⟩), .pointer (some ⟨g4,0,none⟩)] word bs (e.args.map bN) W wr hw hwl hl hn (fun t ht=>by obtain⟨x,hx,rfl⟩:=List.mem_map.1 ht;exact(eo x.nodes x (Nat.le_refl _) (hbt x hx)).2) hj (by omega) Az
  (fun i t ht W' bs' hwt hwr hlen=>by
   rw[List.getElem?_map] at ht
   cases hx:e.args[i]? with
   |none=>rw[hx] at ht;cases ht
   |some x=>
    rw[hx] at ht;injection ht with ht
    subst ht;exact sO B g L g3 g4 c i A e x bs' w W' h (hb.trans (hwt.to hBW)) (k3.wt hwt) (k4.wt hwt) hwr (by omega) hx)
 refine Zs 11 Tryz.func182 ?_;refine Zr ?_;refine ZL Tryz.underlying192 k3 ?_;refine Zm ?_;refine Zf 3 Tryz.underlying105 ?_;refine ZL Tryz.underlying68 k4 ?_;refine Zv (aa.len rfl rfl Tryz.underlying68) ?_;refine Zv (aa.makeFunc (v:= .func (.func 183) #[] #[.pointer (some ⟨g3,0,none⟩), .pointer (some ⟨g4,0,none⟩)]) rfl (show fc _ _=some [] from rfl) (show fc _ _=some [.pointer (some ⟨g3,0,none⟩), .pointer (some ⟨g4,0,none⟩)] from rfl) rfl) ?_;refine Zc (Ze Tryz.func175) (hlist) ?_;clear wr;rintro e w1 ⟨⟨_,rfl⟩,fw1,wr⟩;refine⟨_,rfl,?_⟩;replace wt:=wt.wt fw1;refine bk 0 1 2 ?_;refine ab.du rfl (.inr rfl) ?_;exact⟨⟨_,rfl⟩,wt,wr⟩
theorem ql:∀args w,(callFunc 182 args).run Tryz.prog w= .ok (.enter 182 args) w:=fun args w=>aF Tryz.func182 (by kernel_rfl) rfl args w
theorem yf:∀args w,(callFunc 174 args).run Tryz.prog w= .ok (.enter 174 args) w:=fun args w=>aF Tryz.func174 (by kernel_rfl) rfl args w
def Ca (Q:Exit→Act→World→Prop)(B g g3 g4 n m:Nat)(bs T:List Nat)(cs:Array Value)(w:World)(I:Inhabited (List Deferred))(wc:World):Prop:=
 Wt B w wc∧aE wc g3 192 #[.pointer (some ⟨g,0,none⟩)]∧aE wc g4 105 cs∧∃bs0,Bw wc B g bs0∧bs0.length≤m∧∀wx ex,(ex=Exit.ret∨ex=Exit.normal)→Wt B w wx→Bw wx B g (bs0++T)→ @ab I Q ex n [] wx
theorem Cd.BY {P:Program}{Q:Exit→Act→World→Prop}{n:Nat}{F:List (Nat × Value)}{wc:World}{x y:Code}(F':List (Nat × Value))(B g g3 g4 m:Nat)(bs T:List Nat)(cs:Array Value)(w:World)(hx:Cd P x (Exit.then (wE n F' (Ca Q B g g3 g4 n m bs T cs w)) Q) n F wc)(hy:∀I w2,Ca Q B g g3 g4 n m bs T cs w I w2→ @Cd I P y Q n F' w2):Cd P (.seq x y) Q n F wc:=Cd.BZ F' _ hx hy
theorem pk (N:Nat):∀(e:Ex) (B g:Nat) (bs:List Nat) (v:Value) (least:Int) (w:World),e.nodes≤N→e.nodes≤200→bQ e=true→jQ w B e v→Bw w B g bs→bu least→bs.length+100000*e.depth≤100000000→
  Calls Tryz.prog 138 #[.pointer (some ⟨g,0,none⟩),v, .int .i64 least] w (ff B g (bs++ud e least) w):=by
 induction N with
 |zero=>intro e B g bs v least w hN;have:=e.bI;omega
 |succ N ih=>
 intro e B g bs v least w hN h200 hbt hrep hbw hleast hbs;obtain⟨A,c,rfl,hv⟩:=hrep.open;have hbd:=eo e.nodes e (Nat.le_refl _) hbt;obtain⟨hh,hargs⟩:=j2 hbt;obtain⟨h1,h2,h3,h4,h5,h6⟩:=lu hh;obtain⟨o1,o2,o3,o4,o5,o6⟩:=mX h1;obtain⟨b1,b2,b3,b4⟩:=lq e.op;have hBW:=hbw.size;have hT:=rl e;unfold tO at hT
 have hrec:AH B g (bs.length+60000) w e A:=fun i x hx=>by
  obtain⟨ad,A',c',e1,e2,e3,e4⟩:=hv.arg i x hx;have hmem:=List.mem_of_getElem? hx;have hnd:=Ex.eD hmem;have hdp:=Ex.pb hmem;have hbx:=hargs x hmem;exact⟨ad,A',c',e1,fun W hb j u hu=>(hb.cell (by rw[ai,ai];omega)).trans (e4 j u hu),fun W bs' least hb hwr hls hlen=>ih x B g bs' _ least W (by omega) (by omega) hbx (e3.below hb) hwr hls (by omega)⟩
 have hjl:(bY (e.args.map bN)).length≤20000:=by
  have:=ln e.args fun z hz=>(eo z.nodes z (Nat.le_refl _) (hargs z hz)).1;have hn:e.nodes=1+bz e.args:=by cases e;exact Ex.fG _ _ _ _
  have:e.args.length≤3:=by omega
  omega
 have hl3:e.args.length≤3:=by omega
 have wt:=Wt.refl B w;have wr:=hbw;refine Calls.yk 114 Tryz.func138 rfl rfl rfl ?_;refine ah ?_;refine Seq.box rfl rfl rfl rfl rfl ?_;intro g3 w1 n3;replace wt:=wt.step n3.below;replace wr:=wr.step n3.below;have k3:=n3.an;refine Seq.box rfl rfl rfl rfl rfl ?_;intro g4 w2 n4;have l4:=Nat.lt_of_lt_of_le k3.lt n4.ge;replace wt:=wt.step n4.below;replace wr:=wr.step n4.below;replace k3:=k3.step n4.below;have k4:=n4.an;refine aL 0 1 2 3 4 (az ?_);refine Zf 0 Tryz.underlying105 ?_;refine ZL Tryz.underlying3 k4 ?_;refine Zc (Ze Tryz.func181) (s6 e.op _) ?_;rintro en w5 ⟨rfl,hb5⟩;refine⟨_,rfl,?_⟩;replace wt:=wt.step hb5;replace wr:=wr.step hb5;replace k3:=k3.step hb5;replace k4:=k4.step hb5;refine Zm ?_;refine Zx ?_;refine Zx ?_;refine Za ?_;refine Za ?_;refine ba 0 1 2 3 4 6 7 (Zt ?_);refine Cd.BY [(3, .pointer (some ⟨g3,0,none⟩)),(4, .pointer (some ⟨g4,0,none⟩)),(6, .string (strOf (bw e.op).1)),(7, .int .i64 (bw e.op).2)] B g g3 g4 (bs.length+1) bs (bN e) #[.int .i64 e.op, .int .i64 e.n, .string (strOf e.name), .slice A e.args.length c] w ?_ ?_
 ·skip
  refine ah ?_;refine Zm ?_;refine Zm ?_;refine eU ?_;refine bO 0 1 2 3 4 6 7 18 (Zt ?_);refine Cd.ao rfl (fun hc=> ?_) (fun hc=> ?_)
  ·have hin:ud e least=[40]++bN e++[41]:=by
    unfold ud hO;rw[if_pos (show(cU e).1<least from hc)];rfl
   refine ah ?_;refine ZL Tryz.underlying192 k3 ?_;refine Zv (aa.nilCheck rfl rfl) ?_;refine Zf 0 Tryz.underlying232 ?_;refine Zc (Ze Tryz.func174) ((bo B g [40] bs _ wr (by decide) (by simp only[List.length_cons,List.length_nil];omega)).1) ?_;clear wr;rintro e w3 ⟨⟨_,rfl⟩,fw3,wr⟩;refine⟨_,rfl,?_⟩;replace wt:=wt.wt fw3;replace k3:=k3.wt fw3;replace k4:=k4.wt fw3;refine bO 0 1 2 3 4 6 7 18 (et ?_);refine ZL Tryz.underlying192 k3 ?_;refine Zv (aa.nilCheck rfl rfl) ?_;refine Zf 0 Tryz.underlying232 ?_;refine Seq.Aa rfl rfl rfl rfl ?_;intro I hI;refine bO 0 1 2 3 4 6 7 18 ?_;refine ab.zO ⟨rfl,rfl,rfl,rfl,trivial⟩ ⟨wt,k3,k4,bs++[40],wr,by simp,fun wx ex hex wtx wrx=> ?_⟩;refine ab.Bj hI rfl hex yf ((bo B g [41] _ wx wrx (by decide) (by simp only[List.length_append,List.length_cons,List.length_nil];omega)).2 .returning) fun en w' hw=> ?_;refine⟨hw.1,⟨_,rfl⟩,wtx.wt hw.2.1,?_⟩;rw[hin]
   simpa only[List.append_assoc] using hw.2.2
  ·have hin:ud e least=bN e:=by
    unfold ud hO;rw[if_neg (show¬(cU e).1<least from hc)];rfl
   refine Cd.skip ?_;refine ab.zO ⟨rfl,rfl,rfl,rfl,trivial⟩ ⟨wt,k3,k4,bs,wr,by omega,fun wx ex hex wtx wrx=> ?_⟩;refine ab.Bf rfl hex ?_;rw[hin];exact⟨⟨_,rfl⟩,wtx,wrx⟩
 clear wt wr k3 k4;rintro I w8 ⟨wt,k3,k4,bs0,wr,hb0,hend⟩;have hpre:B≤w8.heap.size:=wr.size;refine ah ?_;refine Zv (aa.makeFunc (v:= .func (.func 182) #[] #[.pointer (some ⟨g3,0,none⟩), .pointer (some ⟨g4,0,none⟩)]) rfl (show fc _ _=some [] from rfl) (show fc _ _=some [.pointer (some ⟨g3,0,none⟩), .pointer (some ⟨g4,0,none⟩)] from rfl) rfl) ?_;refine Za ?_;refine aL 3 4 6 7 8 (az ?_);refine Zf 0 Tryz.underlying105 ?_;refine ZL Tryz.underlying3 k4 ?_;refine aV 3 4 6 7 8 28 (Zt (Cd.block (ah ?_)));refine aX ?_;refine Za ?_;refine ba 3 4 6 7 8 28 56 (Zt ?_);refine Cd.ao rfl (fun c1=> ?_) (fun c1=> ?_)
 ·rw[if_pos c1] at hT
  refine gm 6 ?_;intro w3 hw3 zw3;replace wt:=wt.step hw3;replace wr:=wr.step hw3;replace k3:=k3.step hw3;replace k4:=k4.step hw3;have zlt:=k4.lt;refine fb Tryz.underlying192 k3 ?_;refine Zd (fun w hG=>aa.nilCheck rfl rfl) ?_;refine gw 0 Tryz.underlying232 ?_;refine gw 1 Tryz.underlying105 ?_;refine fb Tryz.underlying2 k4 ?_;refine Dr.cu rfl (fun w=>Ze Tryz.func184) rfl (fun w hG=>vI e.n w hv.n) ?_;refine Dr.nil ?_;refine bH.done (F':=[(3,_),(4,_),(6,_),(7,_),(8,_),(28,_),(56,_),(60,_),(63,_)]) rfl ⟨rfl,rfl,rfl,rfl,rfl,rfl,rfl,rfl,rfl,trivial⟩ ?_;intro w4 hw4 fw4;replace wt:=wt.step hw4;replace wr:=wr.step hw4;replace k3:=k3.step hw4;replace k4:=k4.step hw4;refine Zc (Ze Tryz.func174) ((bo B g (rF e.n) bs0 _ wr (ui _) (by have:=rv e.n;omega)).1) ?_;clear wr;rintro e w5 ⟨⟨_,rfl⟩,fw5,wr⟩;refine⟨_,rfl,?_⟩;replace wt:=wt.wt fw5;replace k3:=k3.wt fw5;replace k4:=k4.wt fw5;refine ba 3 4 6 7 8 28 56 (ab.ag ?_);refine ab.dB (F':=[]) trivial ?_;exact hend _ _ (.inr rfl) wt (by rw[hT];exact wr)
 rw[if_neg c1] at hT;refine ah ?_;refine aX ?_;refine Za ?_;refine bO 3 4 6 7 8 28 56 65 (Zt ?_);refine Cd.ao rfl (fun c2=> ?_) (fun c2=> ?_)
 ·rw[if_pos c2] at hT
  have hday:∀W,Calls Tryz.prog 185 #[.int .i64 e.n] W fun e1 w'=>e1= .returned (.string (strOf (rO e.n.toNat)))∧Grow W w':=fun W=>by
   have:=qp e.n.toNat W (by have:=h5 c2;omega)
   rwa [Int.toNat_of_nonneg h4] at this
  refine gm 6 ?_;intro w3 hw3 zw3;replace wt:=wt.step hw3;replace wr:=wr.step hw3;replace k3:=k3.step hw3;replace k4:=k4.step hw3;have zlt:=k4.lt;refine fb Tryz.underlying192 k3 ?_;refine Zd (fun w hG=>aa.nilCheck rfl rfl) ?_;refine gw 0 Tryz.underlying232 ?_;refine gw 1 Tryz.underlying105 ?_;refine fb Tryz.underlying2 k4 ?_;refine Dr.cu rfl (fun w=>Ze Tryz.func185) rfl (fun w hG=>hday w) ?_;refine Dr.nil ?_;refine bH.done (F':=[(3,_),(4,_),(6,_),(7,_),(8,_),(28,_),(56,_),(65,_),(69,_),(72,_)]) rfl ⟨rfl,rfl,rfl,rfl,rfl,rfl,rfl,rfl,rfl,rfl,trivial⟩ ?_;intro w4 hw4 fw4;replace wt:=wt.step hw4;replace wr:=wr.step hw4;replace k3:=k3.step hw4;replace k4:=k4.step hw4;refine Zc (Ze Tryz.func174) ((bo B g (rO e.n.toNat) bs0 _ wr (ub _) (by have:=ru e.n.toNat;omega)).1) ?_;clear wr;rintro e w5 ⟨⟨_,rfl⟩,fw5,wr⟩;refine⟨_,rfl,?_⟩;replace wt:=wt.wt fw5;replace k3:=k3.wt fw5;replace k4:=k4.wt fw5;refine bO 3 4 6 7 8 28 56 65 (ab.ag ?_);refine ab.dB (F':=[]) trivial ?_;exact hend _ _ (.inr rfl) wt (by rw[hT];exact wr)
 rw[if_neg c2] at hT;refine ah ?_;refine aX ?_;refine Za ?_;refine cw 3 4 6 7 8 28 56 65 74 (Zt ?_);refine Cd.ao rfl (fun c3=> ?_) (fun c3=> ?_)
 ·rw[if_pos c3] at hT
  refine gm 5 ?_;intro w3 hw3 zw3;replace wt:=wt.step hw3;replace wr:=wr.step hw3;replace k3:=k3.step hw3;replace k4:=k4.step hw3;have zlt:=k4.lt;refine fb Tryz.underlying192 k3 ?_;refine Zd (fun w hG=>aa.nilCheck rfl rfl) ?_;refine gw 0 Tryz.underlying232 ?_;refine gw 2 Tryz.underlying105 ?_;refine fb Tryz.underlying9 k4 ?_;refine Dr.nil ?_;refine bH.done (F':=[(3,_),(4,_),(6,_),(7,_),(8,_),(28,_),(56,_),(65,_),(74,_),(78,_),(80,_)]) rfl ⟨rfl,rfl,rfl,rfl,rfl,rfl,rfl,rfl,rfl,rfl,rfl,trivial⟩ ?_;intro w4 hw4 fw4;replace wt:=wt.step hw4;replace wr:=wr.step hw4;replace k3:=k3.step hw4;replace k4:=k4.step hw4;refine Zc (Ze Tryz.func174) ((bo B g e.name bs0 _ wr (mn (h6 c3)) (by have:=kn (h6 c3);omega)).1) ?_;clear wr;rintro e w5 ⟨⟨_,rfl⟩,fw5,wr⟩;refine⟨_,rfl,?_⟩;replace wt:=wt.wt fw5;replace k3:=k3.wt fw5;replace k4:=k4.wt fw5;refine cw 3 4 6 7 8 28 56 65 74 (ab.ag ?_);refine ab.dB (F':=[]) trivial ?_;exact hend _ _ (.inr rfl) wt (by rw[hT];exact wr)
 rw[if_neg c3] at hT;refine ah ?_;refine aX ?_;refine Za ?_;refine dr 3 4 6 7 8 28 56 65 74 82 (Zt ?_);refine Cd.ao rfl (fun c4=> ?_) (fun c4=> ?_)
 ·rw[if_pos c4] at hT
  refine Zr ?_;refine ZL Tryz.underlying192 k3 ?_;refine Zv (aa.nilCheck rfl rfl) ?_;refine Zf 0 Tryz.underlying232 ?_;refine Zc (Ze Tryz.func174) ((bo B g [100,97,121] bs0 _ wr (by decide) (by simp only[List.length_cons,List.length_nil];omega)).1) ?_;clear wr;rintro e w3 ⟨⟨_,rfl⟩,fw3,wr⟩;refine⟨_,rfl,?_⟩;replace wt:=wt.wt fw3;replace k3:=k3.wt fw3;replace k4:=k4.wt fw3;refine dr 3 4 6 7 8 28 56 65 74 82 (ab.ag ?_);refine ab.dB (F':=[]) trivial ?_;exact hend _ _ (.inr rfl) wt (by rw[hT];exact wr)
 rw[if_neg c4] at hT;refine ah ?_;refine aX ?_;refine Za ?_;refine ct 3 4 6 7 8 28 56 65 74 82 88 (Zt ?_);refine Cd.ao rfl (fun c9=> ?_) (fun c9=> ?_)
 ·have hb:bw e.op=([],7):=by rw[c9];rfl
  rw[if_neg (by rw[hb];decide),if_neg (by rw[hb];decide),if_neg (by rw[hb];decide),if_pos c9,jj] at hT;refine Zr ?_;refine Zm ?_;refine Seq.call (Enters.value (first:=[]) (cap:=[.pointer (some ⟨g3,0,none⟩), .pointer (some ⟨g4,0,none⟩)]) rfl rfl rfl ql) rfl rfl rfl (iQ B g (bs.length+60000) g3 g4 c A e [109,105,110] bs0 w _ hrec (wt.to hBW) k3 k4 wr (by omega) (by omega) (by decide) (by decide) hargs (by omega) hjl) ?_;clear wr;rintro en w9 ⟨⟨_,rfl⟩,f9,wr⟩;refine⟨_,rfl,?_⟩;replace wt:=wt.wt f9;refine ct 3 4 6 7 8 28 56 65 74 82 88 (ab.ag ?_);refine ab.dB (F':=[]) trivial ?_;exact hend _ _ (.inr rfl) wt (by rw[hT];simpa only[List.append_assoc,List.cons_append,List.nil_append] using wr)
 refine ah ?_;refine aX ?_;refine Za ?_;refine eZ 3 4 6 7 8 28 56 65 74 82 88 92 (Zt ?_);refine Cd.ao rfl (fun c10=> ?_) (fun c10=> ?_)
 ·have hb:bw e.op=([],7):=by rw[c10];rfl
  rw[if_neg (by rw[hb];decide),if_neg (by rw[hb];decide),if_neg (by rw[hb];decide),if_neg c9,if_pos c10,jj] at hT;refine Zr ?_;refine Zm ?_;refine Seq.call (Enters.value (first:=[]) (cap:=[.pointer (some ⟨g3,0,none⟩), .pointer (some ⟨g4,0,none⟩)]) rfl rfl rfl ql) rfl rfl rfl (iQ B g (bs.length+60000) g3 g4 c A e [109,97,120] bs0 w _ hrec (wt.to hBW) k3 k4 wr (by omega) (by omega) (by decide) (by decide) hargs (by omega) hjl) ?_;clear wr;rintro en w9 ⟨⟨_,rfl⟩,f9,wr⟩;refine⟨_,rfl,?_⟩;replace wt:=wt.wt f9;refine eZ 3 4 6 7 8 28 56 65 74 82 88 92 (ab.ag ?_);refine ab.dB (F':=[]) trivial ?_;exact hend _ _ (.inr rfl) wt (by rw[hT];simpa only[List.append_assoc,List.cons_append,List.nil_append] using wr)
 refine ah ?_;refine aX ?_;refine Za ?_;refine iW 3 4 6 7 8 28 56 65 74 82 88 92 96 (Zt ?_);refine Cd.ao rfl (fun c21=> ?_) (fun c21=> ?_)
 ·have hb:bw e.op=([],7):=by rw[c21];rfl
  rw[if_neg (by rw[hb];decide),if_neg (by rw[hb];decide),if_neg (by rw[hb];decide),if_neg c9,if_neg c10,jj] at hT;refine Zr ?_;refine Zm ?_;refine Seq.call (Enters.value (first:=[]) (cap:=[.pointer (some ⟨g3,0,none⟩), .pointer (some ⟨g4,0,none⟩)]) rfl rfl rfl ql) rfl rfl rfl (iQ B g (bs.length+60000) g3 g4 c A e [105,102] bs0 w _ hrec (wt.to hBW) k3 k4 wr (by omega) (by omega) (by decide) (by decide) hargs (by omega) hjl) ?_;clear wr;rintro en w9 ⟨⟨_,rfl⟩,f9,wr⟩;refine⟨_,rfl,?_⟩;replace wt:=wt.wt f9;refine iW 3 4 6 7 8 28 56 65 74 82 88 92 96 (ab.ag ?_);refine ab.dB (F':=[]) trivial ?_;exact hend _ _ (.inr rfl) wt (by rw[hT];simpa only[List.append_assoc,List.cons_append,List.nil_append] using wr)
 refine Cd.seq (ah ?_);refine aX ?_;refine Za ?_;refine gM 3 4 6 7 8 28 56 65 74 82 88 92 96 100 (Zt ?_);refine Cd.ao rfl (fun c19=> ?_) (fun c19=> ?_)
 ·skip
  refine Cd.skip (Zt ?_);refine Cd.aM rfl (decide_eq_true c19) ?_;have hb:(bw e.op).2=6:=by rw[c19];rfl
  have hlen1:e.args.length=1:=o5 (by omega);obtain⟨x,hx⟩:∃x,e.args=[x]:=List.length_eq_one_iff.1 hlen1;obtain⟨ad,A0,A0',rfl,hcx,hcallx⟩:=hrec 0 x (by rw[hx];rfl);rw[if_pos hb,hx,show([x].map cU).getD 0 (7,[])=cU x from rfl] at hT;refine ah ?_;refine ZL Tryz.underlying192 k3 ?_;refine Zv (aa.nilCheck rfl rfl) ?_;refine Zf 0 Tryz.underlying232 ?_;refine Zm ?_;refine Zc (Ze Tryz.func174) ((bo B g (bw e.op).1 bs0 _ wr b2 (by omega)).1) ?_;clear wr;rintro e w3 ⟨⟨_,rfl⟩,fw3,wr⟩;refine⟨_,rfl,?_⟩;replace wt:=wt.wt fw3;replace k3:=k3.wt fw3;replace k4:=k4.wt fw3;refine gM 3 4 6 7 8 28 56 65 74 82 88 92 96 100 (Zt ?_);refine gm 5 ?_;intro w4 hw4 zw4;replace wt:=wt.step hw4;replace wr:=wr.step hw4;replace k3:=k3.step hw4;replace k4:=k4.step hw4;have zlt:=k4.lt;refine fb Tryz.underlying192 k3 ?_;refine gw 3 Tryz.underlying105 ?_;refine fb Tryz.underlying68 k4 ?_;refine Zd (fun w hG=>aa.aU rfl rfl rfl Tryz.underlying68 (s:=4) (by kernel_rfl) (j:=0) rfl (by omega)) ?_;refine Zd (fun w hG=>aa.b7 (ps:=[.int .i64 x.op, .int .i64 x.n, .string (strOf x.name), .slice A0 x.args.length A0']) rfl rfl Tryz.underlying105 rfl (m:=4) (by kernel_rfl) rfl (hcx _ ((wt.to hBW).trans (hG.mono wr.size)))) ?_;refine Dr.nil ?_;refine bH.done (F':=[(3,_),(4,_),(6,_),(7,_),(8,_),(28,_),(56,_),(65,_),(74,_),(82,_),(88,_),(92,_),(96,_),(100,_),(108,_),(112,_)]) rfl ⟨rfl,rfl,rfl,rfl,rfl,rfl,rfl,rfl,rfl,rfl,rfl,rfl,rfl,rfl,rfl,rfl,trivial⟩ ?_;intro w5 hw5 fw5;replace wt:=wt.step hw5;replace wr:=wr.step hw5;replace k3:=k3.step hw5;replace k4:=k4.step hw5;refine Zc (Ze Tryz.func138) (hcallx _ _ 6 (wt.to hBW) wr (by unfold bu;omega) (by rw[List.length_append];omega)) ?_;clear wr;rintro e w6 ⟨⟨_,rfl⟩,fw6,wr⟩;refine⟨_,rfl,?_⟩;replace wt:=wt.wt fw6;refine gM 3 4 6 7 8 28 56 65 74 82 88 92 96 100 (ab.ag ?_);refine ab.dB (F':=[]) trivial ?_;exact hend _ _ (.inr rfl) wt (by rw[hT];simpa only[List.append_assoc,ud] using wr)
 refine Zr ?_;refine aX ?_;refine Za ?_;refine gM 3 4 6 7 8 28 56 65 74 82 88 92 96 100 (Zt ?_);refine Cd.ao rfl (fun c20=> ?_) (fun c20=> ?_)
 ·skip
  have hb:(bw e.op).2=6:=by rw[c20];rfl
  have hlen1:e.args.length=1:=o5 (by omega);obtain⟨x,hx⟩:∃x,e.args=[x]:=List.length_eq_one_iff.1 hlen1;obtain⟨ad,A0,A0',rfl,hcx,hcallx⟩:=hrec 0 x (by rw[hx];rfl);rw[if_pos hb,hx,show([x].map cU).getD 0 (7,[])=cU x from rfl] at hT;refine ah ?_;refine ZL Tryz.underlying192 k3 ?_;refine Zv (aa.nilCheck rfl rfl) ?_;refine Zf 0 Tryz.underlying232 ?_;refine Zm ?_;refine Zc (Ze Tryz.func174) ((bo B g (bw e.op).1 bs0 _ wr b2 (by omega)).1) ?_;clear wr;rintro e w3 ⟨⟨_,rfl⟩,fw3,wr⟩;refine⟨_,rfl,?_⟩;replace wt:=wt.wt fw3;replace k3:=k3.wt fw3;replace k4:=k4.wt fw3;refine gM 3 4 6 7 8 28 56 65 74 82 88 92 96 100 (Zt ?_);refine gm 5 ?_;intro w4 hw4 zw4;replace wt:=wt.step hw4;replace wr:=wr.step hw4;replace k3:=k3.step hw4;replace k4:=k4.step hw4;have zlt:=k4.lt;refine fb Tryz.underlying192 k3 ?_;refine gw 3 Tryz.underlying105 ?_;refine fb Tryz.underlying68 k4 ?_;refine Zd (fun w hG=>aa.aU rfl rfl rfl Tryz.underlying68 (s:=4) (by kernel_rfl) (j:=0) rfl (by omega)) ?_;refine Zd (fun w hG=>aa.b7 (ps:=[.int .i64 x.op, .int .i64 x.n, .string (strOf x.name), .slice A0 x.args.length A0']) rfl rfl Tryz.underlying105 rfl (m:=4) (by kernel_rfl) rfl (hcx _ ((wt.to hBW).trans (hG.mono wr.size)))) ?_;refine Dr.nil ?_;refine bH.done (F':=[(3,_),(4,_),(6,_),(7,_),(8,_),(28,_),(56,_),(65,_),(74,_),(82,_),(88,_),(92,_),(96,_),(100,_),(108,_),(112,_)]) rfl ⟨rfl,rfl,rfl,rfl,rfl,rfl,rfl,rfl,rfl,rfl,rfl,rfl,rfl,rfl,rfl,rfl,trivial⟩ ?_;intro w5 hw5 fw5;replace wt:=wt.step hw5;replace wr:=wr.step hw5;replace k3:=k3.step hw5;replace k4:=k4.step hw5;refine Zc (Ze Tryz.func138) (hcallx _ _ 6 (wt.to hBW) wr (by unfold bu;omega) (by rw[List.length_append];omega)) ?_;clear wr;rintro e w6 ⟨⟨_,rfl⟩,fw6,wr⟩;refine⟨_,rfl,?_⟩;replace wt:=wt.wt fw6;refine gM 3 4 6 7 8 28 56 65 74 82 88 92 96 100 (ab.ag ?_);refine ab.dB (F':=[]) trivial ?_;exact hend _ _ (.inr rfl) wt (by rw[hT];simpa only[List.append_assoc,ud] using wr)
 have hop:e.op=5∨e.op=6∨e.op=7∨e.op=8∨e.op=11∨e.op=12∨e.op=13∨e.op=14∨e.op=15∨e.op=16∨e.op=17∨e.op=18:=by omega
 have hp:(bw e.op).2<6:=by rcases hop with h|h|h|h|h|h|h|h|h|h|h|h<;>rw[h]<;>decide
 have hlen2:e.args.length=2:=o4 (by omega) (by omega)
 obtain⟨x,y,hxy⟩:∃x y,e.args=[x,y]:=by
  cases h:e.args with
  |nil=>rw[h] at hlen2;simp at hlen2
  |cons x r=>cases r with
   |nil=>rw[h] at hlen2;simp at hlen2
   |cons y r=>cases r with
    |nil=>exact⟨x,y,rfl⟩
    |cons z r=>rw[h] at hlen2;simp at hlen2
 obtain⟨ad,A0,A0',rfl,hcx,hcallx⟩:=hrec 0 x (by rw[hxy];rfl);obtain⟨ad',A1,A1',had,hcy,hcally⟩:=hrec 1 y (by rw[hxy];rfl);injection had with had
 subst had
 have hil:∀l,(ud x l).length≤20000:=fun l=>by
  have h1:=(rh l (cU x)).1;have e1:(cU x).2=bN x:=rfl;have h2:=(eo x.nodes x (Nat.le_refl _) (hargs x (by rw[hxy];exact List.mem_cons_self))).1;have h3:x.nodes<e.nodes:=Ex.eD (by rw[hxy];exact List.mem_cons_self);rw[e1] at h1;unfold ud;omega
 rw[if_neg (by omega),hxy,show([x,y].map cU).getD 0 (7,[])=cU x from rfl,show([x,y].map cU).getD 1 (7,[])=cU y from rfl] at hT;refine ah ?_;refine Zm ?_;refine Za ?_;refine zA 3 4 6 7 8 9 28 56 65 74 82 88 92 96 100 (aH (ah ?_));refine Zm ?_;refine aX ?_;refine mc 3 4 6 7 8 9 28 31 56 65 74 82 88 92 96 100 (Zt ?_);refine Cd.ao rfl (fun c3'=> ?_) (fun c3'=> ?_)
 ·rw[if_pos c3',show(4:Int)=(bw e.op).2+1 by omega] at hT
  refine Zr ?_;refine Zm ?_;refine dq ?_;refine Za ?_;refine mc 3 4 6 7 8 9 28 31 56 65 74 82 88 92 96 100 (aH ?_);refine gm 6 ?_;intro w3 hw3 zw3;replace wt:=wt.step hw3;replace wr:=wr.step hw3;replace k3:=k3.step hw3;replace k4:=k4.step hw3;have zlt:=k4.lt;refine fb Tryz.underlying192 k3 ?_;refine gw 3 Tryz.underlying105 ?_;refine fb Tryz.underlying68 k4 ?_;refine Zd (fun w hG=>aa.aU rfl rfl rfl Tryz.underlying68 (s:=4) (by kernel_rfl) (j:=0) rfl (by omega)) ?_;refine Zd (fun w hG=>aa.b7 (ps:=[.int .i64 x.op, .int .i64 x.n, .string (strOf x.name), .slice A0 x.args.length A0']) rfl rfl Tryz.underlying105 rfl (m:=4) (by kernel_rfl) rfl (hcx _ ((wt.to hBW).trans (hG.mono wr.size)))) ?_;refine fN ?_;refine Dr.nil ?_;refine bH.done (F':=[(3,_),(4,_),(6,_),(7,_),(8,_),(9,_),(28,_),(31,_),(34,_),(38,_),(39,_),(56,_),(65,_),(74,_),(82,_),(88,_),(92,_),(96,_),(100,_)]) rfl ⟨rfl,rfl,rfl,rfl,rfl,rfl,rfl,rfl,rfl,rfl,rfl,rfl,rfl,rfl,rfl,rfl,rfl,rfl,rfl,trivial⟩ ?_;intro w4 hw4 fw4;replace wt:=wt.step hw4;replace wr:=wr.step hw4;replace k3:=k3.step hw4;replace k4:=k4.step hw4;refine Zc (Ze Tryz.func138) (hcallx _ _ ((bw e.op).2+1) (wt.to hBW) wr (by unfold bu;omega) (by omega)) ?_;clear wr;rintro e w5 ⟨⟨_,rfl⟩,fw5,wr⟩;refine⟨_,rfl,?_⟩;replace wt:=wt.wt fw5;replace k3:=k3.wt fw5;replace k4:=k4.wt fw5;refine mc 3 4 6 7 8 9 28 31 56 65 74 82 88 92 96 100 (az ?_);refine ZL Tryz.underlying192 k3 ?_;refine Zv (aa.nilCheck rfl rfl) ?_;refine Zf 0 Tryz.underlying232 ?_;refine Zm ?_;refine Zv (aa.rZ (a:=[32]) rfl rfl rfl (by simp only[List.length_cons,List.length_nil];omega)) ?_;refine Zv (aa.rZ (b:=[32]) rfl rfl rfl (by simp only[List.length_append,List.length_cons,List.length_nil];omega)) ?_;have i0:=hil ((bw e.op).2+1);refine Zc (Ze Tryz.func174) ((bo B g ([32]++(bw e.op).1++[32]) _ _ wr (yM (by decide) b2 (by decide)) (by simp only[List.length_append,List.length_cons,List.length_nil];omega)).1) ?_;clear wr;rintro e w6 ⟨⟨_,rfl⟩,fw6,wr⟩;refine⟨_,rfl,?_⟩;replace wt:=wt.wt fw6;replace k3:=k3.wt fw6;replace k4:=k4.wt fw6;refine mc 3 4 6 7 8 9 28 31 56 65 74 82 88 92 96 100 (Zt ?_);refine gm 7 ?_;intro w7 hw7 zw7;replace wt:=wt.step hw7;replace wr:=wr.step hw7;replace k3:=k3.step hw7;replace k4:=k4.step hw7;have zlt:=k4.lt;refine fb Tryz.underlying192 k3 ?_;refine gw 3 Tryz.underlying105 ?_;refine fb Tryz.underlying68 k4 ?_;refine Zd (fun w hG=>aa.aU rfl rfl rfl Tryz.underlying68 (s:=4) (by kernel_rfl) (j:=1) rfl (by omega)) ?_;refine Zd (fun w hG=>aa.b7 (ps:=[.int .i64 y.op, .int .i64 y.n, .string (strOf y.name), .slice A1 y.args.length A1']) rfl rfl Tryz.underlying105 rfl (m:=4) (by kernel_rfl) rfl (hcy _ ((wt.to hBW).trans (hG.mono wr.size)))) ?_;refine fN ?_;refine Zd (fun w hG=>aa.oE rfl rfl rfl (by omega) (by omega)) ?_;refine Dr.nil ?_;refine bH.done (F':=[(3,_),(4,_),(6,_),(7,_),(8,_),(9,_),(28,_),(31,_),(48,_),(52,_),(54,_),(56,_),(65,_),(74,_),(82,_),(88,_),(92,_),(96,_),(100,_)]) rfl ⟨rfl,rfl,rfl,rfl,rfl,rfl,rfl,rfl,rfl,rfl,rfl,rfl,rfl,rfl,rfl,rfl,rfl,rfl,rfl,trivial⟩ ?_;intro w8 hw8 fw8;replace wt:=wt.step hw8;replace wr:=wr.step hw8;replace k3:=k3.step hw8;replace k4:=k4.step hw8;refine Zc (Ze Tryz.func138) (hcally _ _ ((bw e.op).2+1) (wt.to hBW) wr (by unfold bu;omega) (by simp only[List.length_append,List.length_cons,List.length_nil];omega)) ?_;clear wr;rintro e w9 ⟨⟨_,rfl⟩,fw9,wr⟩;refine⟨_,rfl,?_⟩;replace wt:=wt.wt fw9;refine mc 3 4 6 7 8 9 28 31 56 65 74 82 88 92 96 100 (ab.ag ?_);refine ab.dB (F':=[]) trivial ?_;exact hend _ _ (.inr rfl) wt (by rw[hT];simpa only[List.append_assoc,ud] using wr)
 ·rw[if_neg c3',if_pos hp] at hT
  refine Cd.skip (aH ?_);refine gm 6 ?_;intro w3 hw3 zw3;replace wt:=wt.step hw3;replace wr:=wr.step hw3;replace k3:=k3.step hw3;replace k4:=k4.step hw3;have zlt:=k4.lt;refine fb Tryz.underlying192 k3 ?_;refine gw 3 Tryz.underlying105 ?_;refine fb Tryz.underlying68 k4 ?_;refine Zd (fun w hG=>aa.aU rfl rfl rfl Tryz.underlying68 (s:=4) (by kernel_rfl) (j:=0) rfl (by omega)) ?_;refine Zd (fun w hG=>aa.b7 (ps:=[.int .i64 x.op, .int .i64 x.n, .string (strOf x.name), .slice A0 x.args.length A0']) rfl rfl Tryz.underlying105 rfl (m:=4) (by kernel_rfl) rfl (hcx _ ((wt.to hBW).trans (hG.mono wr.size)))) ?_;refine fN ?_;refine Dr.nil ?_;refine bH.done (F':=[(3,_),(4,_),(6,_),(7,_),(8,_),(9,_),(28,_),(31,_),(34,_),(38,_),(39,_),(56,_),(65,_),(74,_),(82,_),(88,_),(92,_),(96,_),(100,_)]) rfl ⟨rfl,rfl,rfl,rfl,rfl,rfl,rfl,rfl,rfl,rfl,rfl,rfl,rfl,rfl,rfl,rfl,rfl,rfl,rfl,trivial⟩ ?_;intro w4 hw4 fw4;replace wt:=wt.step hw4;replace wr:=wr.step hw4;replace k3:=k3.step hw4;replace k4:=k4.step hw4;refine Zc (Ze Tryz.func138) (hcallx _ _ (bw e.op).2 (wt.to hBW) wr (by unfold bu;omega) (by omega)) ?_;clear wr;rintro e w5 ⟨⟨_,rfl⟩,fw5,wr⟩;refine⟨_,rfl,?_⟩;replace wt:=wt.wt fw5;replace k3:=k3.wt fw5;replace k4:=k4.wt fw5;refine mc 3 4 6 7 8 9 28 31 56 65 74 82 88 92 96 100 (az ?_);refine ZL Tryz.underlying192 k3 ?_;refine Zv (aa.nilCheck rfl rfl) ?_;refine Zf 0 Tryz.underlying232 ?_;refine Zm ?_;refine Zv (aa.rZ (a:=[32]) rfl rfl rfl (by simp only[List.length_cons,List.length_nil];omega)) ?_;refine Zv (aa.rZ (b:=[32]) rfl rfl rfl (by simp only[List.length_append,List.length_cons,List.length_nil];omega)) ?_;have i0:=hil (bw e.op).2;refine Zc (Ze Tryz.func174) ((bo B g ([32]++(bw e.op).1++[32]) _ _ wr (yM (by decide) b2 (by decide)) (by simp only[List.length_append,List.length_cons,List.length_nil];omega)).1) ?_;clear wr;rintro e w6 ⟨⟨_,rfl⟩,fw6,wr⟩;refine⟨_,rfl,?_⟩;replace wt:=wt.wt fw6;replace k3:=k3.wt fw6;replace k4:=k4.wt fw6;refine mc 3 4 6 7 8 9 28 31 56 65 74 82 88 92 96 100 (Zt ?_);refine gm 7 ?_;intro w7 hw7 zw7;replace wt:=wt.step hw7;replace wr:=wr.step hw7;replace k3:=k3.step hw7;replace k4:=k4.step hw7;have zlt:=k4.lt;refine fb Tryz.underlying192 k3 ?_;refine gw 3 Tryz.underlying105 ?_;refine fb Tryz.underlying68 k4 ?_;refine Zd (fun w hG=>aa.aU rfl rfl rfl Tryz.underlying68 (s:=4) (by kernel_rfl) (j:=1) rfl (by omega)) ?_;refine Zd (fun w hG=>aa.b7 (ps:=[.int .i64 y.op, .int .i64 y.n, .string (strOf y.name), .slice A1 y.args.length A1']) rfl rfl Tryz.underlying105 rfl (m:=4) (by kernel_rfl) rfl (hcy _ ((wt.to hBW).trans (hG.mono wr.size)))) ?_;refine fN ?_;refine Zd (fun w hG=>aa.oE rfl rfl rfl (by omega) (by omega)) ?_;refine Dr.nil ?_;refine bH.done (F':=[(3,_),(4,_),(6,_),(7,_),(8,_),(9,_),(28,_),(31,_),(48,_),(52,_),(54,_),(56,_),(65,_),(74,_),(82,_),(88,_),(92,_),(96,_),(100,_)]) rfl ⟨rfl,rfl,rfl,rfl,rfl,rfl,rfl,rfl,rfl,rfl,rfl,rfl,rfl,rfl,rfl,rfl,rfl,rfl,rfl,trivial⟩ ?_;intro w8 hw8 fw8;replace wt:=wt.step hw8;replace wr:=wr.step hw8;replace k3:=k3.step hw8;replace k4:=k4.step hw8;refine Zc (Ze Tryz.func138) (hcally _ _ ((bw e.op).2+1) (wt.to hBW) wr (by unfold bu;omega) (by simp only[List.length_append,List.length_cons,List.length_nil];omega)) ?_;clear wr;rintro e w9 ⟨⟨_,rfl⟩,fw9,wr⟩;refine⟨_,rfl,?_⟩;replace wt:=wt.wt fw9;refine mc 3 4 6 7 8 9 28 31 56 65 74 82 88 92 96 100 (ab.ag ?_);refine ab.dB (F':=[]) trivial ?_;exact hend _ _ (.inr rfl) wt (by rw[hT];simpa only[List.append_assoc,ud] using wr)
def dy (right:Bool)(T:List Nat):List Nat × Int:=if right=false then([],1) else if 4000<T.length then([],4) else(T,0)
theorem lg (w:World):(Instr.build 232 #[]).run Tryz.prog w= .ok (.agg #[.pointer none, .slice none 0 0]) w:=by kernel_rfl
theorem lU (right:Bool)(T:List Nat)(f:Nat)(cp:List Value)(w:World)(eg:∀args w,(callFunc f args).run Tryz.prog w= .ok (.enter f args) w)(hTl:T.length≤1000000)
  (hw:right=true→∀W g,Below w.heap.size w W→Bw W w.heap.size g []→Calls Tryz.prog f ([]++[Value.pointer (some ⟨g,0,none⟩)]++cp).toArray W (ff w.heap.size g T W)):
  Calls Tryz.prog 129 #[.bool right, .func (.func f) #[] cp.toArray] w fun e w'=>e= .returned (.tuple #[.string (strOf (dy right T).1), .int .i64 (dy right T).2])∧Grow w w':=by
 have bel:=Below.refl w.heap.size w;unfold dy;refine Zs 23 Tryz.func129 ?_;refine ah ?_;refine Za ?_;refine Za ?_;refine aS 0 1 4 5 (aH (ah ?_));refine Zm ?_;refine gU ?_;refine aL 0 1 4 5 8 (Zt ?_);refine Cd.cond rfl (fun hc=> ?_) (fun hc=> ?_)
 ·obtain rfl:right=false:=by simpa using hc
  refine ah ?_;refine Za ?_;refine Za ?_;refine aL 0 1 4 5 8 (Zt (Cd.ret (ab.ae ?_)));refine cG ?_;exact⟨rfl,bel⟩
 ·obtain rfl:right=true:=by simpa using hc
  have hw:=hw rfl;refine Cd.skip (az ?_);refine Zv (aa.build rfl rfl (lg _)) ?_;refine Seq.box rfl rfl rfl rfl rfl ?_;intro g10 w1 n10;have e10:=Nat.le_trans bel.size n10.ge;replace bel:=bel.step n10.below;have k10:=n10.an;refine Za ?_;refine aV 0 1 4 5 6 8 (az ?_);refine Zm ?_;refine Zm ?_;have wr:Bw _ w.heap.size g10 []:=⟨e10,fun d hd=>(by cases hd),_,_, .inl rfl,k10,Own.nil _ _ _ _,fun _=>rfl⟩;have wt:=Wt.grow (B:=w.heap.size) bel;refine Seq.call (Enters.value (first:=[]) rfl rfl rfl eg) rfl rfl rfl (hw _ g10 bel wr) ?_;clear wr;rintro en w9 ⟨⟨_,rfl⟩,f9,wr⟩;refine⟨_,rfl,?_⟩;replace wt:=wt.wt f9;refine aV 0 1 4 5 6 8 (aH (ah ?_));refine Zm ?_;refine Zv (aa.nilCheck rfl rfl) ?_;refine Zf 0 Tryz.underlying232 ?_;have hBw:=wr.size;refine Zc (Ze Tryz.func172) (xV w.heap.size g10 _ _ wr) ?_;rintro en w10 ⟨rfl,hb10⟩;refine⟨_,rfl,?_⟩;replace wt:=wt.step hb10;replace wr:=wr.step hb10;refine qK ?_;refine ba 0 1 4 5 6 8 18 (Zt ?_);refine Cd.ao rfl (fun hc=> ?_) (fun hc=> ?_)
  ·skip
   refine ah ?_;refine Za ?_;refine Za ?_;refine ba 0 1 4 5 6 8 18 (Zt (Cd.ret (ab.ae ?_)));refine cG ?_;rw[if_neg (by decide),if_pos (by omega)];exact⟨rfl,wt.to (Nat.le_refl _)⟩
  ·skip
   refine Cd.skip (az ?_);refine Zm ?_;refine Zv (aa.nilCheck rfl rfl) ?_;refine Zf 0 Tryz.underlying232 ?_;refine Zc (Ze Tryz.func173) (ry w.heap.size g10 _ _ wr (by omega)) ?_;rintro en w11 ⟨rfl,hb11⟩;refine⟨_,rfl,?_⟩;have hfin:=(wt.to (Nat.le_refl _)).trans hb11;refine Za ?_;refine Za ?_;refine ba 0 1 4 5 6 8 18 (Zt (Cd.ret ?_));refine cG ?_;rw[if_neg (by decide),if_neg (by omega)];exact⟨by simp,hfin⟩
theorem rf (e:Ex)(A:Option Addr)(B g g1 c:Nat)(w W:World)(hbt:bQ e=true)(h200:e.nodes≤200)(hrep:jQ w B (e) (.agg #[.int .i64 e.op, .int .i64 e.n, .string (strOf e.name), .slice A e.args.length c])) (hb:Below B w W) (k1:aE W g1 105 #[.int .i64 e.op, .int .i64 e.n, .string (strOf e.name), .slice A e.args.length c]) (wr:Bw W B g []):
  Calls Tryz.prog 137 #[.pointer (some ⟨g,0,none⟩), .pointer (some ⟨g1,0,none⟩)] W (ff B g (bN e) W):=by
 have hdn:=e.bm;have hex:=pk e.nodes e B g [] _ 1 W (Nat.le_refl _) h200 hbt (hrep.below hb) wr (by unfold bu;omega) (by simp only[List.length_nil];omega);rw[p8,List.nil_append] at hex;have wt:=Wt.refl B W;refine Zs 6 Tryz.func137 ?_;refine Zr ?_;refine Zm ?_;refine ZW 4 Tryz.underlying105 k1 ?_;refine Zc (Ze Tryz.func138) (hex) ?_;clear wr;rintro e w1 ⟨⟨_,rfl⟩,fw1,wr⟩;refine⟨_,rfl,?_⟩;replace wt:=wt.wt fw1;refine cZ 0 1 ?_;refine ab.du rfl (.inr rfl) ?_;exact⟨⟨_,rfl⟩,wt,wr⟩
theorem xw:∀args w,(callFunc 137 args).run Tryz.prog w= .ok (.enter 137 args) w:=fun args w=>aF Tryz.func137 (by kernel_rfl) rfl args w
def fB (e:Ex):List Nat × Int:=dy (cz e) (bN e)
theorem ot (e:Ex)(v:Value)(w:World)(hd:e.depth≤900)(hrep:jQ w w.heap.size e v):Calls Tryz.prog 95 #[v] w fun en w'=>en= .returned (.tuple #[.string (strOf (fB e).1), .int .i64 (fB e).2])∧Grow w w':=by
 obtain⟨A,c,rfl,hv⟩:=hrep.open;have bel:=Below.refl w.heap.size w
 have hpr:fB e=dy (cz e) (if cz e=true then bN e else []):=by
  unfold fB dy
  cases cz e<;>rfl
 rw[hpr];have hre:∀W,Below w.heap.size w W→Calls Tryz.prog 136 #[.agg #[.int .i64 e.op, .int .i64 e.n, .string (strOf e.name), .slice A e.args.length c]] W fun en w'=>en= .returned (.bool (cz e))∧Grow W w':=fun W hb=>jI e w.heap.size _ W hd (hrep.below hb) hb.size
 have hTl:(if cz e=true then bN e else []).length≤1000000:=by
  split
  ·rename_i h
   unfold cz at h;simp at h;have:=(eo e.nodes e (Nat.le_refl _) h.2).1;omega
  ·simp
 refine Zs 10 Tryz.func95 ?_;refine ah ?_;refine Seq.box rfl rfl rfl rfl rfl ?_;intro g1 w1 n1;have e1:=Nat.le_trans bel.size n1.ge;replace bel:=bel.step n1.below;have k1:=n1.an;refine Za ?_;refine Za ?_;refine aS 0 1 2 3 (az ?_);refine ZW 4 Tryz.underlying105 k1 ?_;refine Zc (Ze Tryz.func136) (hre _ bel) ?_;rintro en w5 ⟨rfl,hb5⟩;refine⟨_,rfl,?_⟩;replace bel:=bel.step hb5;replace k1:=k1.step hb5;refine Zv (aa.makeFunc (v:= .func (.func 137) #[] #[.pointer (some ⟨g1,0,none⟩)]) rfl (show fc _ _=some [] from rfl) (show fc _ _=some [.pointer (some ⟨g1,0,none⟩)] from rfl) rfl) ?_;refine Zc (Ze Tryz.func129) (lU (cz e) (if cz e=true then bN e else []) 137 [.pointer (some ⟨g1,0,none⟩)] _ xw hTl (fun hr W g hb hw=>by rw[if_pos hr];unfold cz at hr;simp at hr;exact rf e A _ g g1 c _ W hr.2 hr.1.1 ((hrep.below bel).more bel.size) hb (k1.step hb) hw)) ?_;rintro en w6 ⟨rfl,hb6⟩;refine⟨_,rfl,?_⟩;replace bel:=bel.step hb6;replace k1:=k1.step hb6;refine Zx ?_;refine Zx ?_;refine Za ?_;refine Za ?_;refine aS 0 1 2 3 (Zt (Cd.ret ?_));refine cG ?_;exact⟨rfl,bel⟩
theorem lJ (a b:Int)(w:World):(Instr.build 105 #[(0, .int .i64 a),(1, .int .i64 b)]).run Tryz.prog w= .ok (.agg #[.int .i64 a, .int .i64 b, .string (strOf []), .slice none 0 0]) w:=by
 have hu:=Tryz.underlying105
 go_simp
 rfl
theorem qQ (a:Int)(g:Nat)(w:World):(Instr.build 105 #[(0, .int .i64 a),(3, .slice (some ⟨g,0,none⟩) 2 2)]).run Tryz.prog w= .ok (.agg #[.int .i64 a, .int .i64 0, .string (strOf []), .slice (some ⟨g,0,none⟩) 2 2]) w:=by
 have hu:=Tryz.underlying105
 go_simp
 rfl
inductive Tm where
 |mk (op:Int) (name:List Nat) (exprs:List Ex) (aw:List Tm)
def Tm.op:Tm→Int| .mk op _ _ _=>op
def Tm.name:Tm→List Nat| .mk _ nm _ _=>nm
def Tm.exprs:Tm→List Ex| .mk _ _ l _=>l
def Tm.aw:Tm→List Tm| .mk _ _ _ l=>l
mutual
def Tm.nodes:Tm→Nat
 | .mk _ _ es l=>1+bz es+dV l
def dV:List Tm→Nat
 | []=>0
 |e::r=>e.nodes+dV r
end
mutual
def Tm.depth:Tm→Nat
 | .mk _ _ es l=>1+max (bG es) (dw l)
def dw:List Tm→Nat
 | []=>0
 |e::r=>max e.depth (dw r)
end
theorem Tm.fG (op:Int)(nm:List Nat)(es:List Ex)(l:List Tm):(Tm.mk op nm es l).nodes=1+bz es+dV l:=by rw[Tm.nodes]
theorem Tm.er (op:Int)(nm:List Nat)(es:List Ex)(l:List Tm):(Tm.mk op nm es l).depth=1+max (bG es) (dw l):=by rw[Tm.depth]
theorem Tm.kh (t:Tm):t.nodes=1+bz t.exprs+dV t.aw:=by cases t;exact Tm.fG _ _ _ _
theorem Tm.ku (t:Tm):t.depth=1+max (bG t.exprs) (dw t.aw):=by cases t;exact Tm.er _ _ _ _
theorem sT {l:List Tm}{t:Tm}(h:t∈l):t.nodes≤dV l:=by
 induction l with
 |nil=>cases h
 |cons x r ih=>
  unfold dV;rcases List.mem_cons.1 h with rfl|h
  ·omega
  ·have:=ih h;omega
theorem sC {l:List Tm}{t:Tm}(h:t∈l):t.depth≤dw l:=by
 induction l with
 |nil=>cases h
 |cons x r ih=>
  unfold dw;rcases List.mem_cons.1 h with rfl|h
  ·omega
  ·have:=ih h;omega
theorem Tm.dS {t x:Tm}(h:x∈t.aw):x.nodes<t.nodes:=by have:=sT h;have:=t.kh;omega
theorem Tm.nw {t x:Tm}(h:x∈t.aw):x.depth<t.depth:=by have:=sC h;have:=t.ku;omega
theorem Tm.sK {t:Tm}{x:Ex}(h:x∈t.exprs):x.nodes<t.nodes:=by have:=mF h;have:=t.kh;omega
theorem Tm.sE {t:Tm}{x:Ex}(h:x∈t.exprs):x.depth<t.depth:=by have:=nc h;have:=t.ku;omega
theorem Tm.bI (t:Tm):0<t.nodes:=by have:=t.kh;omega
mutual
theorem Tm.bm:∀t:Tm,t.depth≤t.nodes
 | .mk _ _ es l=>by unfold Tm.depth Tm.nodes;have:=jy l;have:=eN es;omega
theorem jy:∀l:List Tm,dw l≤dV l
 | []=>Nat.le_refl _
 |e::r=>by unfold dw dV;have:=Tm.bm e;have:=jy r;omega
end
inductive dC (w:World)(S:Nat→Prop):Tm→Value→Prop
 |mk {op:Int} {nm:List Nat} {es:List Ex} {ts:List Tm} {A A':Option Addr} {c c':Nat} {vs us:List Value} (hl:vs.length=es.length) (hl':us.length=ts.length) (dK:es.length≤1000) (iG:ts.length≤1000) (hop:bu op) (hnm:∀d∈nm,d<256) (hnl:nm.length≤9223372036854775807)
   (hr:∀(i:Nat) (e:Ex) (v:Value),es[i]? =some e→vs[i]? =some v→bX w S e v) (hr':∀(i:Nat) (t:Tm) (v:Value),ts[i]? =some t→us[i]? =some v→dC w S t v) (hA:Rows w S A (aC vs)) (hA':Rows w S A' (aC us)):dC w S (.mk op nm es ts) (.agg #[.int .i64 op, .string (strOf nm), .slice A es.length c, .slice A' ts.length c'])
theorem Rows.mono {w w':World}{S S':Nat→Prop}{A:Option Addr}{xs:List Value}(h:Rows w S A xs)(hS:∀b,S b→S' b)(hc:∀p:Addr,S p.block→w'.cell? p=w.cell? p):Rows w' S' A xs:=fun hne=>by
 obtain⟨ad,e1,e2,e3⟩:=h hne;exact⟨ad,e1,hS _ e2,fun j u hu=>(hc _ (by rw[ai];exact e2)).trans (e3 j u hu)⟩
theorem dC.mono {w w':World}{S S':Nat→Prop}{t:Tm}{v:Value}(h:dC w S t v)(hS:∀b,S b→S' b)(hc:∀p:Addr,S p.block→w'.cell? p=w.cell? p):dC w' S' t v:=by
 induction h with
 |mk hl hl' dK iG hop hnm hnl hr hr' hA hA' ih=>exact .mk hl hl' dK iG hop hnm hnl (fun i e v he hv=>(hr i e v he hv).mono hS hc) ih (hA.mono hS hc) (hA'.mono hS hc)
def dR (w:World)(B:Nat)(t:Tm)(v:Value):Prop:=dC w (· <B) t v
theorem dR.below {w w':World}{B:Nat}{t:Tm}{v:Value}(h:dR w B t v)(hb:Below B w w'):dR w' B t v:=dC.mono h (fun _ h=>h) (fun _ hp=>hb.cell hp)
theorem dR.more {w:World}{B B':Nat}{t:Tm}{v:Value}(h:dR w B t v)(hb:B≤B'):dR w B' t v:=dC.mono h (fun _ h=>Nat.lt_of_lt_of_le h hb) (fun _ _=>rfl)
theorem dC.oa {w:World}{S:Nat→Prop}{t:Tm}{v:Value}(h:dC w S t v):v.cells.size=4:=by
 cases h;rfl
theorem dC.form {w:World}{S:Nat→Prop}{t:Tm}{v:Value}(h:dC w S t v):∃A c A' c',v= .agg #[.int .i64 t.op, .string (strOf t.name), .slice A t.exprs.length c, .slice A' t.aw.length c']:=by
 cases h;exact⟨_,_,_,_,rfl⟩
def ma (w:World)(B:Nat)(es:List Ex)(A:Option Addr):Prop:=∀i x,es[i]? =some x→∃ad A' c',A=some ad∧ad.block<B∧jQ w B x (.agg #[.int .i64 x.op, .int .i64 x.n, .string (strOf x.name), .slice A' x.args.length c'])∧∀(j:Nat) (u:Value),([.int .i64 x.op, .int .i64 x.n, .string (strOf x.name), .slice A' x.args.length c']:List Value)[j]? =some u→w.cell? ((ad.add (i*4)).add j)=some u
def Aw (x:Tm)(A A':Option Addr)(c c':Nat):List Value:=[.int .i64 x.op, .string (strOf x.name), .slice A x.exprs.length c, .slice A' x.aw.length c']
def qE (w:World)(B:Nat)(ts:List Tm)(A:Option Addr):Prop:=∀i x,ts[i]? =some x→∃ad A1 A2 c1 c2,A=some ad∧ad.block<B∧dR w B x (.agg #[.int .i64 x.op, .string (strOf x.name), .slice A1 x.exprs.length c1, .slice A2 x.aw.length c2])∧∀(j:Nat) (u:Value),(Aw x A1 A2 c1 c2)[j]? =some u→w.cell? ((ad.add (i*4)).add j)=some u
theorem ma.below {w w':World}{B:Nat}{es:List Ex}{A:Option Addr}(h:ma w B es A)(hb:Below B w w'):ma w' B es A:=fun i x hx=>by
 obtain⟨ad,A',c',e1,e2,e3,e4⟩:=h i x hx;exact⟨ad,A',c',e1,e2,e3.below hb,fun j u hu=>(hb.cell (by rw[ai,ai];exact e2)).trans (e4 j u hu)⟩
theorem qE.below {w w':World}{B:Nat}{ts:List Tm}{A:Option Addr}(h:qE w B ts A)(hb:Below B w w'):qE w' B ts A:=fun i x hx=>by
 obtain⟨ad,A1,A2,c1,c2,e1,e2,e3,e4⟩:=h i x hx;exact⟨ad,A1,A2,c1,c2,e1,e2,e3.below hb,fun j u hu=>(hb.cell (by rw[ai,ai];exact e2)).trans (e4 j u hu)⟩
theorem yC {w:World}{B:Nat}{es:List Ex}{vs:List Value}{A:Option Addr}(hl:vs.length=es.length)(hr:∀(i:Nat) (e:Ex) (v:Value),es[i]? =some e→vs[i]? =some v→bX w (· <B) e v)(hA:Rows w (· <B) A (aC vs)):ma w B es A:=fun i x hx=>by
 have hi:=(List.getElem?_eq_some_iff.1 hx).1;obtain⟨v,hv⟩:∃v,vs[i]? =some v:=⟨_,List.getElem?_eq_getElem (by omega)⟩;have hrx:=hr i x v hx hv
 have h4:∀y∈vs,y.cells.size=4:=fun y hy=>by
  obtain⟨k,hk,rfl⟩:=List.getElem_of_mem hy;obtain⟨z,hz⟩:∃z,es[k]? =some z:=⟨_,List.getElem?_eq_getElem (by omega)⟩;exact(hr k z _ hz (List.getElem?_eq_getElem hk)).oa
 obtain⟨A',c',rfl⟩:=hrx.form;have hne:aC vs≠ []:=fun h0=>by have:=eS h4 hv 0 _ rfl;rw[h0] at this;cases this
 obtain⟨ad,rfl,hb,hc⟩:=hA hne;exact⟨ad,A',c',rfl,hb,hrx,fun j u hu=>by rw[dY];exact hc _ _ (eS h4 hv j u (by simpa[Value.cells] using hu))⟩
theorem yD {w:World}{B:Nat}{ts:List Tm}{vs:List Value}{A:Option Addr}(hl:vs.length=ts.length)(hr:∀(i:Nat) (e:Tm) (v:Value),ts[i]? =some e→vs[i]? =some v→dC w (· <B) e v)(hA:Rows w (· <B) A (aC vs)):qE w B ts A:=fun i x hx=>by
 have hi:=(List.getElem?_eq_some_iff.1 hx).1;obtain⟨v,hv⟩:∃v,vs[i]? =some v:=⟨_,List.getElem?_eq_getElem (by omega)⟩;have hrx:=hr i x v hx hv
 have h4:∀y∈vs,y.cells.size=4:=fun y hy=>by
  obtain⟨k,hk,rfl⟩:=List.getElem_of_mem hy;obtain⟨z,hz⟩:∃z,ts[k]? =some z:=⟨_,List.getElem?_eq_getElem (by omega)⟩;exact(hr k z _ hz (List.getElem?_eq_getElem hk)).oa
 obtain⟨A1,c1,A2,c2,rfl⟩:=hrx.form;have hne:aC vs≠ []:=fun h0=>by have:=eS h4 hv 0 _ rfl;rw[h0] at this;cases this
 obtain⟨ad,rfl,hb,hc⟩:=hA hne;exact⟨ad,A1,A2,c1,c2,rfl,hb,hrx,fun j u hu=>by rw[dY];exact hc _ _ (eS h4 hv j u (by simpa[Value.cells,Aw] using hu))⟩
structure ph (w:World)(B:Nat)(t:Tm)(A A':Option Addr):Prop where
 dK:t.exprs.length≤1000
 iG:t.aw.length≤1000
 op:bu t.op
 name:∀d∈t.name,d<256
 xW:t.name.length≤9223372036854775807
 expr:ma w B t.exprs A
 term:qE w B t.aw A'
theorem dR.open {w:World}{B:Nat}{t:Tm}{v:Value}(h:dR w B t v):∃A c A' c',v= .agg #[.int .i64 t.op, .string (strOf t.name), .slice A t.exprs.length c, .slice A' t.aw.length c']∧ph w B t A A':=by
 have h':dC w (· <B) t v:=h
 cases h' with
 | @mk op nm es ts A A' c c' vs us hl hl' dK iG hop hnm hnl hr hr' hA hA'=>
  exact⟨A,c,A',c',rfl,dK,iG,hop,hnm,hnl,yC hl hr hA,yD hl' hr' hA'⟩
theorem ph.below {w w':World}{B:Nat}{t:Tm}{A A':Option Addr}(h:ph w B t A A')(hb:Below B w w'):ph w' B t A A':=⟨h.dK,h.iG,h.op,h.name,h.xW,h.expr.below hb,h.term.below hb⟩
def AN (s:Int × Int):List Ex→Int × Int
 | []=>s
 |e::r=>AN (cv s (rj e)) r
mutual
def uq:Tm→Int × Int
 | .mk _ _ es l=>xx (AN (1,1) es) l
def xx (s:Int × Int):List Tm→Int × Int
 | []=>s
 |t::r=>if 1000≤s.1 then(1000,1000) else xx (cv s (uq t)) r
end
theorem ti:∀(l:List Ex) (s:Int × Int),Sz s→Sz (AN s l)
 | [],_,h=>h
 |e::r,s,h=>ti r _ (db h (nI e))
mutual
theorem xC:∀t,Sz (uq t)
 | .mk op nm es l=>by rw[uq];exact wO _ (ti es _ ⟨by simp,by simp⟩) l
theorem wO:∀(s:Int × Int),Sz s→∀l,Sz (xx s l)
 |s,h,[]=>by rw[xx];exact h
 |s,h,e::r=>by
  rw[xx];split
  ·exact⟨by simp,by simp⟩
  ·exact wO _ (db h (xC e)) r
end
theorem pE {s t:Int × Int}{n d n' d':Nat}(h:sh s n d)(k:sh t n' d')(h2:d≤n)(h3:d'≤n'):sh (cv s t) (n+n') (max d (1+d'))∨(1000≤n+n'∧sh (cv s t) (n+n') (max d (1+d'))):=by
 obtain⟨a,b⟩:=h;obtain⟨a',b'⟩:=k
 left
 refine⟨by unfold cv;simp only;omega,fun h=> ?_⟩;unfold cv;simp only;rw[b (by omega),b' (by omega)];omega
theorem tT:∀(l:List Ex) (s:Int × Int) (n d:Nat),sh s n d→1≤d→d≤n→sh (AN s l) (n+bz l) (max d (1+bG l))∧max d (1+bG l)≤n+bz l
 | [],s,n,d,h,h1,h2=>by
  rw[bz,bG,show max d (1+0)=d by omega];exact⟨h,by omega⟩
 |e::r,s,n,d,h,h1,h2=>by
  rw[bz,bG];have he:=mB e;have hn:=Ex.bm e;have hp:=e.bI;have hw:=(pE h he h2 hn).elim id (fun h=>h.2);have:=tT r _ _ _ hw (by omega) (by omega);rw[show n+(e.nodes+bz r)=n+e.nodes+bz r by omega,show max d (1+max e.depth (bG r))=max (max d (1+e.depth)) (1+bG r) by omega];exact this
mutual
theorem mx:∀t,sh (uq t) t.nodes t.depth
 | .mk op nm es l=>by
  rw[uq,Tm.fG,Tm.er];have h0:sh (1,1) 1 1:=⟨(by show(1:Int)=min ((1:Nat):Int) 1000;omega),fun _=>rfl⟩;obtain⟨h1,h2⟩:=tT es (1,1) 1 1 h0 (Nat.le_refl _) (Nat.le_refl _);have:=uh _ _ _ h1 (by omega) h2 l
  rwa [show max (max 1 (1+bG es)) (1+dw l)=1+max (bG es) (dw l) by omega] at this
theorem uh:∀(s:Int × Int) (n d:Nat),sh s n d→1≤d→d≤n→∀l,sh (xx s l) (n+dV l) (max d (1+dw l))
 |s,n,d,h,h1,h2,[]=>by
  rw[xx,dV,dw,show max d (1+0)=d by omega];exact h
 |s,n,d,h,h1,h2,e::r=>by
  rw[xx,dV,dw];have he:=mx e;have hn:=Tm.bm e;have hp:=e.bI;split
  ·obtain⟨a,b⟩:=h
   exact⟨by simp only;omega,fun h=>by omega⟩
  ·have hw:=(pE h he h2 hn).elim id (fun h=>h.2)
   have:=uh _ _ _ hw (by omega) (by omega) r;rw[show n+(e.nodes+dV r)=n+e.nodes+dV r by omega,show max d (1+max e.depth (dw r))=max (max d (1+e.depth)) (1+dw r) by omega];exact this
end
theorem aK:br Tryz.prog 71=some (some (.agg #[.int .i64 0, .string {data:= #[]}, .slice none 0 0, .slice none 0 0])):=by kernel_rfl
def uK (at_:Nat)(s:Int × Int):List Ex→Int × Int
 | []=>s
 |e::r=>uK at_ (cv s (om e (at_+1))) r
mutual
def pW:Tm→Nat→Int × Int
 | .mk _ _ es l,at_=>qU at_ (uK at_ (1,1) es) l
def qU (at_:Nat)(s:Int × Int):List Tm→Int × Int
 | []=>s
 |t::r=>if 1000≤at_∨1000≤s.1 then(1000,1000) else qU at_ (cv s (pW t (at_+1))) r
end
theorem Ae (t:Tm)(at_:Nat):pW t at_=qU at_ (uK at_ (1,1) t.exprs) t.aw:=by cases t;rw[pW];rfl
theorem rn (at_:Nat)(s:Int × Int)(e:Tm)(r:List Tm):qU at_ s (e::r)=if 1000≤at_∨1000≤s.1 then(1000,1000) else qU at_ (cv s (pW e (at_+1))) r:=by rw[qU]
theorem tX (at_:Nat)(s:Int × Int):qU at_ s []=s:=by rw[qU]
theorem xI (at_:Nat):∀(l:List Ex) (s:Int × Int),Sz s→Sz (uK at_ s l)
 | [],_,h=>h
 |e::r,s,h=>xI at_ r _ (db h (lF e _))
mutual
theorem yb:∀(t:Tm) (at_:Nat),Sz (pW t at_)
 | .mk op nm es l,at_=>by rw[pW];exact yg at_ _ (xI at_ es _ ⟨by simp,by simp⟩) l
theorem yg:∀(at_:Nat) (s:Int × Int),Sz s→∀l,Sz (qU at_ s l)
 |at_,s,h,[]=>by rw[qU];exact h
 |at_,s,h,e::r=>by
  rw[qU];split
  ·exact⟨by simp,by simp⟩
  ·exact yg at_ _ (db h (yb e _)) r
end
theorem vB {t:Int × Int}(h:Sz t):cv (1000,1000) t=(1000,1000):=by
 unfold Sz at h;unfold cv;simp only[Prod.mk.injEq];omega
theorem tU (at_:Nat):∀(l:List Ex),uK at_ (1000,1000) l=(1000,1000)
 | []=>rfl
 |e::r=>by rw[uK,vB (lF e _)];exact tU at_ r
theorem tZ (at_:Nat)(l:List Tm):qU at_ (1000,1000) l=(1000,1000):=by
 cases l with
 |nil=>rw[tX]
 |cons e r=>rw[rn,if_pos (.inr (by decide))]
theorem xq (at_:Nat):∀(l:List Ex) (s:Int × Int),Sz s→uK at_ s l=AN s l∨(uK at_ s l=(1000,1000)∧1001≤bG l+at_)
 | [],s,h=> .inl rfl
 |e::r,s,h=>by
  rw[uK,AN,bG];rcases pX e (at_+1) with h3|⟨h3,h4⟩
  ·rw[h3]
   rcases xq at_ r (cv s (rj e)) (db h (nI e)) with h5|⟨h5,h6⟩
   ·exact .inl h5
   ·exact .inr ⟨h5,by omega⟩
  ·rw[h3,lp h,tU]
   exact .inr ⟨rfl,by omega⟩
mutual
theorem sn:∀(t:Tm) (at_:Nat),pW t at_=uq t∨(pW t at_=(1000,1000)∧1002≤t.depth+at_)
 | .mk op nm es l,at_=>by
  rw[pW,uq,Tm.er];rcases xq at_ es (1,1) ⟨by simp,by simp⟩ with h0|⟨h0,h1⟩
  ·rw[h0]
   rcases xA at_ _ (ti es (1,1) ⟨by simp,by simp⟩) l with h|⟨h1,h2⟩
   ·exact .inl h
   ·exact .inr ⟨h1,by omega⟩
  ·rw[h0,tZ]
   exact .inr ⟨rfl,by omega⟩
theorem xA:∀(at_:Nat) (s:Int × Int),Sz s→∀l,qU at_ s l=xx s l∨(qU at_ s l=(1000,1000)∧1001≤dw l+at_)
 |at_,s,h,[]=>by rw[qU,xx];exact .inl rfl
 |at_,s,h,e::r=>by
  rw[qU,xx,dw];have hd:0<e.depth:=by rw[e.ku];omega
  by_cases h1:1000≤s.1
  ·rw[if_pos (.inr h1),if_pos h1];exact .inl rfl
  ·by_cases h2:1000≤at_
   ·rw[if_pos (.inl h2)];exact .inr ⟨rfl,by omega⟩
   ·rw[if_neg (by omega),if_neg h1]
    rcases sn e (at_+1) with h3|⟨h3,h4⟩
    ·rw[h3]
     rcases xA at_ (cv s (uq e)) (db h (xC e)) r with h5|⟨h5,h6⟩
     ·exact .inl h5
     ·exact .inr ⟨h5,by omega⟩
    ·rw[h3,lp h,tZ]
     exact .inr ⟨rfl,by omega⟩
end
theorem zp (t:Tm):sh (pW t 0) t.nodes t.depth:=by
 rcases sn t 0 with h|⟨h1,h2⟩
 ·rw[h];exact mx t
 ·rw[h1]
  have:=t.bm;exact⟨by simp only;omega,fun h=>by omega⟩
theorem zm {t:Tm}{at_:Nat}(h:t.depth+at_≤900):pW t at_=uq t:=by
 rcases sn t at_ with h1|⟨h1,h2⟩
 ·exact h1
 ·omega
theorem ke (N:Nat):∀(t:Tm) (at_:Nat) (B:Nat) (v:Value) (w:World),t.nodes≤N→at_≤1000→dR w B t v→B≤w.heap.size→Calls Tryz.prog 140 #[v, .int .i64 (at_:Int)] w fun en w'=>en= .returned (.agg #[.int .i64 (pW t at_).1, .int .i64 (pW t at_).2])∧Grow w w':=by
 induction N with
 |zero=>intro t at_ B v w hN;have:=t.bI;omega
 |succ N ih=>
 intro t at_ B v w hN hdep hrep hB;obtain⟨A,c,A',c',rfl,hv⟩:=hrep.open;have bel:=Below.refl w.heap.size w;have hdp:0<t.depth:=by rw[t.ku];omega
 have dK:=hv.dK;have iG:=hv.iG;refine Zs 48 Tryz.func140 ?_;refine ah ?_;refine Seq.box rfl rfl rfl rfl rfl ?_;intro g2 w1 n2;have e2:=Nat.le_trans bel.size n2.ge;replace bel:=bel.step n2.below;have k2:=n2.an;refine Zl dv ?_;intro g4 w2 n4;have e4:=Nat.le_trans bel.size n4.ge;have l4:=Nat.lt_of_lt_of_le k2.lt n4.ge;replace bel:=bel.step n4.below;replace k2:=k2.step n4.below;have k4:=n4.an;refine aS 0 1 2 4 (az ?_);refine Zv (aa.build rfl rfl (dt _ _ _)) ?_;refine Zl dv ?_;intro g5 w3 n5;have e5:=Nat.le_trans bel.size n5.ge;have l5:=Nat.lt_of_lt_of_le k4.lt n5.ge;have l5_k2:=Nat.lt_of_lt_of_le k2.lt n5.ge;replace bel:=bel.step n5.below;replace k2:=k2.step n5.below;replace k4:=k4.step n5.below;have k5:=n5.an;refine Zo 2 k5 ?_;intro w4 pw4;replace bel:=bel.put k5 pw4 e5;replace k2:=k2.put pw4 (by omega);replace k4:=k4.put pw4 (by omega);replace k5:=pw4.an;refine aL 0 1 2 4 5 (aH (ah ?_));refine Zf 2 Tryz.underlying71 ?_;refine ZL Tryz.underlying68 k2 ?_;refine Zv (aa.len rfl rfl Tryz.underlying68) ?_;refine Zm ?_;refine bO 0 1 2 4 5 12 13 14 (Zt (Cd.block ?_))
 refine Cd.loop (σ:=Nat × (Int × Int)) (fun s=>[(1, .int .i64 (at_:Int)),(2, .pointer (some ⟨g2,0,none⟩)),(4, .pointer (some ⟨g4,0,none⟩)),(5, .pointer (some ⟨g5,0,none⟩)),(12, .slice A t.exprs.length c),(13, .int .i64 (t.exprs.length:Int)),(14, .int .i64 (s.1:Int))])
  (fun s wr=>s.1≤t.exprs.length∧Sz s.2∧uK at_ s.2 (t.exprs.drop s.1)=uK at_ (1,1) t.exprs∧Below w.heap.size w wr∧aE wr g2 71 #[.int .i64 t.op, .string (strOf t.name), .slice A t.exprs.length c, .slice A' t.aw.length c']∧aE wr g4 200 #[.int .i64 0, .int .i64 0]∧aE wr g5 200 #[.int .i64 s.2.1, .int .i64 s.2.2]) (fun s=>t.exprs.length-s.1) (0,(1,1)) ⟨Nat.zero_le _,⟨by simp,by simp⟩,rfl,bel,k2,k4,k5⟩ ⟨rfl,rfl,rfl,rfl,rfl,rfl,rfl,trivial⟩ ?_
 clear bel k2 k4 k5;rintro⟨k,s⟩ wr ⟨hk,hs,hsz,bel,k2,k4,k5⟩;simp only at hk hs hsz k5;show Cd _ _ _ _ [(1, .int .i64 (at_:Int)),(2, .pointer (some ⟨g2,0,none⟩)),(4, .pointer (some ⟨g4,0,none⟩)),(5, .pointer (some ⟨g5,0,none⟩)),(12, .slice A t.exprs.length c),(13, .int .i64 (t.exprs.length:Int)),(14, .int .i64 (k:Int))] _;refine ah ?_;refine eU ?_;refine bO 1 2 4 5 12 13 14 15 (aH ?_);refine Cd.ao rfl (fun hc=> ?_) (fun hc=> ?_)
 ·obtain⟨x,hx⟩:∃x,t.exprs[k]? =some x:=⟨_,List.getElem?_eq_getElem (show k<t.exprs.length by omega)⟩
  obtain⟨ad,Ax,cx,rfl,hbl,hrx,hc⟩:=hv.expr k x hx;have hxm:=List.mem_of_getElem? hx;have hxd:=Tm.sE hxm;have hc:=fun j u hj=>((bel.mono hB).cell (p:=(ad.add (k*4)).add j) (by rw[ai,ai];exact hbl)).trans (hc j u hj)
  have hdrop:t.exprs.drop k=x::t.exprs.drop (k+1):=by
   rw[List.drop_eq_getElem_cons (show k<t.exprs.length by omega)];congr 1;obtain⟨_,he⟩:=List.getElem?_eq_some_iff.1 hx;exact he
  rw[hdrop,uK] at hsz;have hrec:=fun W (hb:Below w.heap.size w W)=>ie x.nodes x (at_+1) B _ W (Nat.le_refl _) (by omega) (hrx.below (hb.mono hB)) (Nat.le_trans hB hb.size);have hxs:=lF x (at_+1);have hws:=db hs hxs;refine Cd.skip (aH (Cd.block (ah ?_)));refine Zv (aa.aU rfl rfl rfl Tryz.underlying68 (s:=4) (by kernel_rfl) (j:=k) rfl (by omega)) ?_;refine Zv (aa.b7 (ps:=[.int .i64 x.op, .int .i64 x.n, .string (strOf x.name), .slice Ax x.args.length cx]) rfl rfl Tryz.underlying105 rfl (m:=4) (by kernel_rfl) rfl hc) ?_;refine Zl au ?_;intro g7 w5 n7;have e7:=Nat.le_trans bel.size n7.ge;have l7:=Nat.lt_of_lt_of_le k5.lt n7.ge;have l7_k2:=Nat.lt_of_lt_of_le k2.lt n7.ge;have l7_k4:=Nat.lt_of_lt_of_le k4.lt n7.ge;replace bel:=bel.step n7.below;replace k2:=k2.step n7.below;replace k4:=k4.step n7.below;replace k5:=k5.step n7.below;have k7:=n7.an;refine Zo 4 k7 ?_;intro w6 pw6;replace bel:=bel.put k7 pw6 e7;replace k2:=k2.put pw6 (by omega);replace k4:=k4.put pw6 (by omega);replace k5:=k5.put pw6 (by omega);replace k7:=pw6.an;refine cw 1 2 4 5 7 12 13 14 15 (Zt ?_);refine gm 6 ?_;intro w7 hw7 zw7;replace bel:=bel.step hw7;replace k2:=k2.step hw7;replace k4:=k4.step hw7;replace k5:=k5.step hw7;replace k7:=k7.step hw7;have zbel:=bel.size;have zlt:=k7.lt;refine Zd (fun w hG=>aa.dx rfl rfl Tryz.underlying200 rfl (k5.step hG) (m:=2) (by kernel_rfl) rfl) ?_;refine Zd (fun w hG=>aa.dx rfl rfl Tryz.underlying105 rfl (k7.step hG) (m:=4) (by kernel_rfl) rfl) ?_;refine fN ?_;refine Zd (fun w hG=>aa.oE rfl rfl rfl (by omega) (by omega)) ?_;refine Dr.cu rfl (fun w=>Ze Tryz.func179) rfl (fun w hG=>hrec w (bel.step hG)) ?_;refine Dr.cu rfl (fun w=>Ze Tryz.func186) rfl (fun w hG=>mE s (om x (at_+1)) w hs.1 hs.2 hxs.1 hxs.2) ?_;refine Dr.nil ?_;refine bH.done (F':=[(1,_),(2,_),(4,_),(5,_),(7,_),(12,_),(13,_),(14,_),(15,_),(23,_)]) rfl ⟨rfl,rfl,rfl,rfl,rfl,rfl,rfl,rfl,rfl,rfl,trivial⟩ ?_;intro w8 hw8 fw8;replace bel:=bel.step hw8;replace k2:=k2.step hw8;replace k4:=k4.step hw8;replace k5:=k5.step hw8;replace k7:=k7.step hw8;refine Zo 2 k5 ?_;intro w9 pw9;replace bel:=bel.put k5 pw9 e5;replace k2:=k2.put pw9 (by omega);replace k4:=k4.put pw9 (by omega);replace k5:=pw9.an;refine cw 1 2 4 5 7 12 13 14 15 (ab.ag (et ?_));refine dq ?_;refine Zm ?_;refine cw 1 2 4 5 7 12 13 14 15 ?_;exact ab.round (k+1,cv s (om x (at_+1))) ⟨rfl,rfl,rfl,rfl,rfl,rfl,rfl,trivial⟩ ⟨by simp only;omega,hws,hsz,bel,k2,k4,k5⟩ (by simp only;omega)
 ·obtain rfl:k=t.exprs.length:=by omega
  rw[List.drop_of_length_le (Nat.le_refl _),uK] at hsz;have hT:=Ae t at_;rw[←hsz] at hT;refine Cd.exit (ab.aD (ab.ay (ab.aA (aH (ah ?_)))));refine Zf 3 Tryz.underlying71 ?_;refine ZL Tryz.underlying69 k2 ?_;refine Zv (aa.len rfl rfl Tryz.underlying69) ?_;refine Zm ?_;refine ct 1 2 4 5 12 13 14 15 26 27 28 (Zt (Cd.block ?_))
  refine Cd.loop (σ:=Nat × (Int × Int)) (fun s=>[(1, .int .i64 (at_:Int)),(4, .pointer (some ⟨g4,0,none⟩)),(5, .pointer (some ⟨g5,0,none⟩)),(26, .slice A' t.aw.length c'),(27, .int .i64 (t.aw.length:Int)),(28, .int .i64 (s.1:Int))])
   (fun s wr=>s.1≤t.aw.length∧Sz s.2∧qU at_ s.2 (t.aw.drop s.1)=pW t at_∧Below w.heap.size w wr∧aE wr g4 200 #[.int .i64 0, .int .i64 0]∧aE wr g5 200 #[.int .i64 s.2.1, .int .i64 s.2.2]) (fun s=>t.aw.length-s.1) (0,s) ⟨Nat.zero_le _,hs,hT.symm,bel,k4,k5⟩ ⟨rfl,rfl,rfl,rfl,rfl,rfl,trivial⟩ ?_
  clear bel k2 k4 k5;clear hs hsz hT;rintro⟨k,s⟩ wr ⟨hk,hs,hsz,bel,k4,k5⟩;simp only at hk hs hsz k5;show Cd _ _ _ _ [(1, .int .i64 (at_:Int)),(4, .pointer (some ⟨g4,0,none⟩)),(5, .pointer (some ⟨g5,0,none⟩)),(26, .slice A' t.aw.length c'),(27, .int .i64 (t.aw.length:Int)),(28, .int .i64 (k:Int))] _;refine ah ?_;refine eU ?_;refine ba 1 4 5 26 27 28 29 (aH ?_);refine Cd.ao rfl (fun hc=> ?_) (fun hc=> ?_)
  ·obtain⟨x,hx⟩:∃x,t.aw[k]? =some x:=⟨_,List.getElem?_eq_getElem (show k<t.aw.length by omega)⟩
   obtain⟨ad,A1,A2,c1,c2,rfl,hbl,hrx,hc⟩:=hv.term k x hx;have hxm:=List.mem_of_getElem? hx;have hxd:=Tm.nw hxm;have hxn:=Tm.dS hxm;have hc:=fun j u hj=>((bel.mono hB).cell (p:=(ad.add (k*4)).add j) (by rw[ai,ai];exact hbl)).trans (hc j u hj)
   have hdrop:t.aw.drop k=x::t.aw.drop (k+1):=by
    rw[List.drop_eq_getElem_cons (show k<t.aw.length by omega)];congr 1;obtain⟨_,he⟩:=List.getElem?_eq_some_iff.1 hx;exact he
   rw[hdrop,rn] at hsz;refine Cd.skip (aH (Cd.block (ah ?_)));refine Zv (aa.aU rfl rfl rfl Tryz.underlying69 (s:=4) (by kernel_rfl) (j:=k) rfl (by omega)) ?_;refine Zv (aa.b7 (ps:=[.int .i64 x.op, .string (strOf x.name), .slice A1 x.exprs.length c1, .slice A2 x.aw.length c2]) rfl rfl Tryz.underlying71 rfl (m:=4) (by kernel_rfl) rfl hc) ?_;refine Zl aK ?_;intro g9 w5 n9;have e9:=Nat.le_trans bel.size n9.ge;have l9:=Nat.lt_of_lt_of_le k5.lt n9.ge;have l9_k4:=Nat.lt_of_lt_of_le k4.lt n9.ge;replace bel:=bel.step n9.below;replace k4:=k4.step n9.below;replace k5:=k5.step n9.below;have k9:=n9.an;refine Zo 4 k9 ?_;intro w6 pw6;replace bel:=bel.put k9 pw6 e9;replace k4:=k4.put pw6 (by omega);replace k5:=k5.put pw6 (by omega);replace k9:=pw6.an;refine bO 1 4 5 9 26 27 28 29 (aH (ah ?_));refine Zm ?_;refine oo ?_;refine Zm ?_;refine ar.start ?_;refine bB (fun hcx=>aa.aj 0 rfl rfl Tryz.underlying200 rfl (by kernel_rfl)) ?_;refine Zn (fun hcx=>aa.ak rfl rfl Tryz.underlying3 rfl k5 rfl) ?_;refine Zn (fun hcx=>aa.geq rfl rfl rfl) ?_;refine fh ?_;refine cw 1 4 5 9 26 27 28 29 38 (Zt ?_);refine Cd.cond rfl (fun h=> ?_) (fun h=> ?_)
   ·simp at h
    rw[if_pos (by omega)] at hsz;refine ah ?_;refine Zv (aa.build rfl rfl (dt _ _ _)) ?_;refine Zo 2 k4 ?_;intro w7 pw7;replace bel:=bel.put k4 pw7 e4;replace k5:=k5.put pw7 (by omega);replace k9:=k9.put pw7 (by omega);replace k4:=pw7.an;refine cw 1 4 5 9 26 27 28 29 38 (Zt (Cd.ret (ab.ae (ab.af (ab.ae (ab.aJ (ab.af (ab.ae ?_))))))));refine iH 2 k4 Tryz.underlying200 ?_;rw[←hsz];exact⟨rfl,bel⟩
   ·simp at h
    rw[if_neg (by omega)] at hsz;have hrec:=fun W (hb:Below w.heap.size w W)=>ih x (at_+1) B _ W (by omega) (by omega) (hrx.below (hb.mono hB)) (Nat.le_trans hB hb.size);have hxs:=yb x (at_+1);have hws:=db hs hxs;refine Cd.skip (Zt ?_);refine gm 6 ?_;intro w7 hw7 zw7;replace bel:=bel.step hw7;replace k4:=k4.step hw7;replace k5:=k5.step hw7;replace k9:=k9.step hw7;have zbel:=bel.size;have zlt:=k9.lt;refine Zd (fun w hG=>aa.dx rfl rfl Tryz.underlying200 rfl (k5.step hG) (m:=2) (by kernel_rfl) rfl) ?_;refine Zd (fun w hG=>aa.dx rfl rfl Tryz.underlying71 rfl (k9.step hG) (m:=4) (by kernel_rfl) rfl) ?_;refine fN ?_;refine Zd (fun w hG=>aa.oE rfl rfl rfl (by omega) (by omega)) ?_;refine Dr.cu rfl (fun w=>Ze Tryz.func140) rfl (fun w hG=>hrec w (bel.step hG)) ?_;refine Dr.cu rfl (fun w=>Ze Tryz.func186) rfl (fun w hG=>mE s (pW x (at_+1)) w hs.1 hs.2 hxs.1 hxs.2) ?_;refine Dr.nil ?_;refine bH.done (F':=[(1,_),(4,_),(5,_),(9,_),(26,_),(27,_),(28,_),(29,_),(38,_),(45,_)]) rfl ⟨rfl,rfl,rfl,rfl,rfl,rfl,rfl,rfl,rfl,rfl,trivial⟩ ?_;intro w8 hw8 fw8;replace bel:=bel.step hw8;replace k4:=k4.step hw8;replace k5:=k5.step hw8;replace k9:=k9.step hw8;refine Zo 2 k5 ?_;intro w9 pw9;replace bel:=bel.put k5 pw9 e5;replace k4:=k4.put pw9 (by omega);replace k5:=pw9.an;refine cw 1 4 5 9 26 27 28 29 38 (ab.ag (et ?_));refine dq ?_;refine Zm ?_;refine cw 1 4 5 9 26 27 28 29 38 ?_;exact ab.round (k+1,cv s (pW x (at_+1))) ⟨rfl,rfl,rfl,rfl,rfl,rfl,trivial⟩ ⟨by simp only;omega,hws,hsz,bel,k4,k5⟩ (by simp only;omega)
  ·obtain rfl:k=t.aw.length:=by omega
   rw[List.drop_of_length_le (Nat.le_refl _),tX] at hsz;refine Cd.exit (ab.aD (ab.ay (ab.aA (az ?_))));refine ZW 2 Tryz.underlying200 k5 ?_;refine Zo 2 k4 ?_;intro w5 pw5;replace bel:=bel.put k4 pw5 e4;replace k5:=k5.put pw5 (by omega);replace k4:=pw5.an;refine ba 1 4 5 26 27 28 29 (Zt (Cd.ret ?_));refine iH 2 k4 Tryz.underlying200 ?_;rw[←hsz];exact⟨rfl,bel⟩
theorem km (N:Nat)(t:Tm)(at_:Nat)(B:Nat)(v:Value)(w:World)(hN:t.nodes≤N)(hd:t.depth+at_≤900)(hrep:dR w B t v)(hB:B≤w.heap.size):Calls Tryz.prog 140 #[v, .int .i64 (at_:Int)] w fun en w'=>en= .returned (.agg #[.int .i64 (uq t).1, .int .i64 (uq t).2])∧Grow w w':=by
 rw[←zm hd];exact ke N t at_ B v w hN (by omega) hrep hB
theorem sr (g:Nat)(cp:List Value)(p:Tm→Bool)(B:Nat)(A:Option Addr)(c:Nat)(l:List Tm)(w:World)(dK:l.length≤1000)(hv:qE w B l A)(hB:B≤w.heap.size)
  (eg:∀args w,(callFunc g args).run Tryz.prog w= .ok (.enter g args) w) (hp:∀x∈l,∀v W,Below w.heap.size w W→dR W B x v→Calls Tryz.prog g ([]++[v]++cp).toArray W fun en w'=>en= .returned (.bool (p x))∧Grow W w'):
  Calls Tryz.prog 220 #[.slice A l.length c, .func (.func g) #[] cp.toArray] w fun en w'=>en= .returned (.int .i64 (qS p l))∧Grow w w':=by
 have bel:=Below.refl w.heap.size w;obtain⟨n,hn⟩:∃n,n=l.length:=⟨_,rfl⟩;rw[←hn] at dK⊢;refine Zs 19 Tryz.func220 ?_;refine ah ?_;refine Za ?_;refine bk 0 1 4 (aH (ah ?_));refine Zm ?_;refine Zv (aa.len rfl rfl Tryz.underlying69) ?_;refine Zm ?_;refine aL 0 1 4 7 8 (Zt (Cd.block ?_))
 refine Cd.loop (σ:=Nat) (fun k=>[(0, .slice A n c),(1, .func (.func g) #[] cp.toArray),(7, .int .i64 (n:Int)),(8, .int .i64 (k:Int))])
  (fun k wr=>k≤n∧(∀y∈l.take k,p y=false)∧Below w.heap.size w wr) (fun k=>n-k) 0 ⟨Nat.zero_le _,by simp,bel⟩ ⟨rfl,rfl,rfl,rfl,trivial⟩ ?_
 clear bel;rintro k wr ⟨hk,hno,bel⟩;refine ah ?_;refine eU ?_;refine aL 0 1 7 8 9 (aH ?_);refine Cd.ao rfl (fun hc=> ?_) (fun hc=> ?_)
 ·obtain⟨x,hx⟩:∃x,l[k]? =some x:=⟨_,List.getElem?_eq_getElem (show k<l.length by omega)⟩
  obtain⟨ad,A1,A2,c1,c2,rfl,hbl,hrx,hc⟩:=hv k x hx;have hc:=fun j u hj=>((bel.mono hB).cell (p:=(ad.add (k*4)).add j) (by rw[ai,ai];exact hbl)).trans (hc j u hj);have htk:l.take (k+1)=l.take k++[x]:=by rw[List.take_add_one,hx];rfl
  refine Cd.skip (aH (Cd.block (ah ?_)));refine Zm ?_;refine Za ?_;refine aV 0 1 5 7 8 9 (az ?_);refine Zm ?_;refine Zm ?_;refine Zm ?_;refine Zv (aa.aU rfl rfl rfl Tryz.underlying69 (s:=4) (by kernel_rfl) (j:=k) rfl (by omega)) ?_;refine Zv (aa.b7 (ps:=[.int .i64 x.op, .string (strOf x.name), .slice A1 x.exprs.length c1, .slice A2 x.aw.length c2]) rfl rfl Tryz.underlying71 rfl (m:=4) (by kernel_rfl) rfl hc) ?_;refine Seq.call (Enters.value (first:=[]) (cap:=cp) rfl rfl rfl eg) rfl rfl rfl (hp x (List.mem_of_getElem? hx) _ _ bel (hrx.below (bel.mono hB))) ?_;rintro en w5 ⟨rfl,hb5⟩;refine⟨_,rfl,?_⟩;replace bel:=bel.step hb5;refine ba 0 1 5 7 8 9 16 (Zt ?_);refine Cd.cond rfl (fun h=> ?_) (fun h=> ?_)
  ·skip
   refine ah ?_;refine Zm ?_;refine Za ?_;refine bO 0 1 4 5 7 8 9 16 (Zt (Cd.ret (ab.af (ab.ae (ab.aJ (ab.af (ab.ae ?_)))))));refine aP ?_;exact⟨aO (int_eq (oQ hx h hno).symm),bel⟩
  ·skip
   refine Cd.skip (ab.ag (et ?_));refine dq ?_;refine Zm ?_;refine ba 0 1 5 7 8 9 16 ?_;refine ab.round (k+1) ⟨rfl,rfl,rfl,rfl,trivial⟩ ⟨by omega,fun y hy=> ?_,bel⟩ (by omega);rw[htk] at hy;rcases List.mem_append.1 hy with hy|hy
   ·exact hno y hy
   ·simp at hy;subst hy;exact h
 ·obtain rfl:k=n:=by omega
  rw[List.take_of_length_le (by omega)] at hno;refine Cd.exit (ab.aD (ab.ay (ab.aA (az ?_))));refine Za ?_;refine aV 0 1 4 7 8 9 (Zt (Cd.ret ?_));refine aP ?_;exact⟨aO (int_eq (pC hno).symm),bel⟩
theorem oz (g:Nat)(cp:List Value)(p:Tm→Bool)(B:Nat)(A:Option Addr)(c:Nat)(l:List Tm)(w:World)(dK:l.length≤1000)(hv:qE w B l A)(hB:B≤w.heap.size)
  (eg:∀args w,(callFunc g args).run Tryz.prog w= .ok (.enter g args) w) (hp:∀x∈l,∀v W,Below w.heap.size w W→dR W B x v→Calls Tryz.prog g ([]++[v]++cp).toArray W fun en w'=>en= .returned (.bool (p x))∧Grow W w'):
  Calls Tryz.prog 190 #[.slice A l.length c, .func (.func g) #[] cp.toArray] w fun en w'=>en= .returned (.bool (l.any p))∧Grow w w':=by
 have bel:=Below.refl w.heap.size w;have hc:=fun W (hb:Below w.heap.size w W)=>sr g cp p B A c l W dK (hv.below (hb.mono hB)) (Nat.le_trans hB hb.size) eg (fun x hx v W2 hb2 hr=>hp x hx v W2 (hb.trans (hb2.mono hb.size)) hr);have hany:=rL p l;obtain⟨n,hn⟩:∃n,n=l.length:=⟨_,rfl⟩;rw[←hn] at hc⊢;refine Zs 9 Tryz.func190 ?_;refine ah ?_;refine Za ?_;refine bk 0 1 4 (az ?_);refine Zm ?_;refine Zm ?_;refine Zc (Ze Tryz.func220) (hc _ bel) ?_;rintro en w5 ⟨rfl,hb5⟩;refine⟨_,rfl,?_⟩;replace bel:=bel.step hb5;refine oo ?_;refine Za ?_;refine bk 0 1 4 (Zt (Cd.ret ?_));refine aP ?_;exact⟨aO (aB hany),bel⟩
def yu (op:Int):Int × Int:=if op=1∨op=2 then(0,0) else if op=3 then(0,1) else if op=4∨op=5 then(0,2) else if op=6∨op=7∨op=8∨op=9 then(1,1) else(-1,-1)
theorem rz (op:Int)(w:World):Calls Tryz.prog 187 #[.int .i64 op] w fun e w'=>e= .returned (.tuple #[.int .i64 (yu op).1, .int .i64 (yu op).2])∧Grow w w':=by
 have bel:=Below.refl w.heap.size w;refine Zs 18 Tryz.func187 ?_
 by_cases h1:op=1
 ·subst h1
  refine ah ?_;refine Za ?_;refine Za ?_;refine bk 0 2 3 (aH (ah ?_));refine Zm ?_;refine aS 0 2 3 4 (Zt (Cd.block (Cd.seq (ah ?_))));refine aX ?_;refine Za ?_;refine aL 0 2 3 4 5 (Zt ?_);refine Cd.aM rfl rfl ?_;refine Cd.skip (Zt ?_);refine Cd.aM rfl rfl ?_;refine ah ?_;refine Za ?_;refine Za ?_;refine aL 0 2 3 4 5 (Zt (Cd.ret (ab.af (ab.ae ?_))));refine cG ?_;exact⟨rfl,bel⟩
 ·skip
  by_cases h2:op=2
  ·subst h2
   refine ah ?_;refine Za ?_;refine Za ?_;refine bk 0 2 3 (aH (ah ?_));refine Zm ?_;refine aS 0 2 3 4 (Zt (Cd.block (Cd.seq (ah ?_))));refine aX ?_;refine Za ?_;refine aL 0 2 3 4 5 (Zt ?_);refine Cd.aI rfl rfl ?_;refine Zr ?_;refine aX ?_;refine Za ?_;refine aL 0 2 3 4 5 (Zt ?_);refine Cd.aM rfl rfl ?_;refine ah ?_;refine Za ?_;refine Za ?_;refine aL 0 2 3 4 5 (Zt (Cd.ret (ab.af (ab.ae ?_))));refine cG ?_;exact⟨rfl,bel⟩
  ·skip
   by_cases h3:op=3
   ·subst h3
    refine ah ?_;refine Za ?_;refine Za ?_;refine bk 0 2 3 (aH (ah ?_));refine Zm ?_;refine aS 0 2 3 4 (Zt (Cd.block (Cd.seq (ah ?_))));refine aX ?_;refine Za ?_;refine aL 0 2 3 4 5 (Zt ?_);refine Cd.aI rfl rfl ?_;refine Zr ?_;refine aX ?_;refine Za ?_;refine aL 0 2 3 4 5 (Zt ?_);refine Cd.aI rfl rfl ?_;refine ah ?_;refine aX ?_;refine Za ?_;refine aV 0 2 3 4 5 8 (Zt ?_);refine Cd.aM rfl rfl ?_;refine ah ?_;refine Za ?_;refine Za ?_;refine aV 0 2 3 4 5 8 (Zt (Cd.ret (ab.af (ab.ae ?_))));refine cG ?_;exact⟨rfl,bel⟩
   ·skip
    by_cases h4:op=4
    ·subst h4
     refine ah ?_;refine Za ?_;refine Za ?_;refine bk 0 2 3 (aH (ah ?_));refine Zm ?_;refine aS 0 2 3 4 (Zt (Cd.block (Cd.seq (ah ?_))));refine aX ?_;refine Za ?_;refine aL 0 2 3 4 5 (Zt ?_);refine Cd.aI rfl rfl ?_;refine Zr ?_;refine aX ?_;refine Za ?_;refine aL 0 2 3 4 5 (Zt ?_);refine Cd.aI rfl rfl ?_;refine ah ?_;refine aX ?_;refine Za ?_;refine aV 0 2 3 4 5 8 (Zt ?_);refine Cd.aI rfl rfl ?_;refine Cd.seq (ah ?_);refine aX ?_;refine Za ?_;refine ba 0 2 3 4 5 8 10 (Zt ?_);refine Cd.aM rfl rfl ?_;refine Cd.skip (Zt ?_);refine Cd.aM rfl rfl ?_;refine ah ?_;refine Za ?_;refine Za ?_;refine ba 0 2 3 4 5 8 10 (Zt (Cd.ret (ab.af (ab.ae ?_))));refine cG ?_;exact⟨rfl,bel⟩
    ·skip
     by_cases h5:op=5
     ·subst h5
      refine ah ?_;refine Za ?_;refine Za ?_;refine bk 0 2 3 (aH (ah ?_));refine Zm ?_;refine aS 0 2 3 4 (Zt (Cd.block (Cd.seq (ah ?_))));refine aX ?_;refine Za ?_;refine aL 0 2 3 4 5 (Zt ?_);refine Cd.aI rfl rfl ?_;refine Zr ?_;refine aX ?_;refine Za ?_;refine aL 0 2 3 4 5 (Zt ?_);refine Cd.aI rfl rfl ?_;refine ah ?_;refine aX ?_;refine Za ?_;refine aV 0 2 3 4 5 8 (Zt ?_);refine Cd.aI rfl rfl ?_;refine Cd.seq (ah ?_);refine aX ?_;refine Za ?_;refine ba 0 2 3 4 5 8 10 (Zt ?_);refine Cd.aI rfl rfl ?_;refine Zr ?_;refine aX ?_;refine Za ?_;refine ba 0 2 3 4 5 8 10 (Zt ?_);refine Cd.aM rfl rfl ?_;refine ah ?_;refine Za ?_;refine Za ?_;refine ba 0 2 3 4 5 8 10 (Zt (Cd.ret (ab.af (ab.ae ?_))));refine cG ?_;exact⟨rfl,bel⟩
     ·skip
      by_cases h6:op=6
      ·subst h6
       refine ah ?_;refine Za ?_;refine Za ?_;refine bk 0 2 3 (aH (ah ?_));refine Zm ?_;refine aS 0 2 3 4 (Zt (Cd.block (Cd.seq (ah ?_))));refine aX ?_;refine Za ?_;refine aL 0 2 3 4 5 (Zt ?_);refine Cd.aI rfl rfl ?_;refine Zr ?_;refine aX ?_;refine Za ?_;refine aL 0 2 3 4 5 (Zt ?_);refine Cd.aI rfl rfl ?_;refine ah ?_;refine aX ?_;refine Za ?_;refine aV 0 2 3 4 5 8 (Zt ?_);refine Cd.aI rfl rfl ?_;refine Cd.seq (ah ?_);refine aX ?_;refine Za ?_;refine ba 0 2 3 4 5 8 10 (Zt ?_);refine Cd.aI rfl rfl ?_;refine Zr ?_;refine aX ?_;refine Za ?_;refine ba 0 2 3 4 5 8 10 (Zt ?_);refine Cd.aI rfl rfl ?_;refine Cd.seq (ah ?_);refine aX ?_;refine Za ?_;refine bO 0 2 3 4 5 8 10 13 (Zt ?_);refine Cd.aM rfl rfl ?_;refine Cd.skip (Zt ?_);refine Cd.aM rfl rfl ?_;refine ah ?_;refine Za ?_;refine Za ?_;refine bO 0 2 3 4 5 8 10 13 (Zt (Cd.ret (ab.af (ab.ae ?_))));refine cG ?_;exact⟨rfl,bel⟩
      ·skip
       by_cases h7:op=7
       ·subst h7
        refine ah ?_;refine Za ?_;refine Za ?_;refine bk 0 2 3 (aH (ah ?_));refine Zm ?_;refine aS 0 2 3 4 (Zt (Cd.block (Cd.seq (ah ?_))));refine aX ?_;refine Za ?_;refine aL 0 2 3 4 5 (Zt ?_);refine Cd.aI rfl rfl ?_;refine Zr ?_;refine aX ?_;refine Za ?_;refine aL 0 2 3 4 5 (Zt ?_);refine Cd.aI rfl rfl ?_;refine ah ?_;refine aX ?_;refine Za ?_;refine aV 0 2 3 4 5 8 (Zt ?_);refine Cd.aI rfl rfl ?_;refine Cd.seq (ah ?_);refine aX ?_;refine Za ?_;refine ba 0 2 3 4 5 8 10 (Zt ?_);refine Cd.aI rfl rfl ?_;refine Zr ?_;refine aX ?_;refine Za ?_;refine ba 0 2 3 4 5 8 10 (Zt ?_);refine Cd.aI rfl rfl ?_;refine Cd.seq (ah ?_);refine aX ?_;refine Za ?_;refine bO 0 2 3 4 5 8 10 13 (Zt ?_);refine Cd.aI rfl rfl ?_;refine ah ?_;refine aX ?_;refine Za ?_;refine bO 0 2 3 4 5 8 10 13 (Zt ?_);refine Cd.aM rfl rfl ?_;refine Cd.skip (Zt ?_);refine Cd.aM rfl rfl ?_;refine ah ?_;refine Za ?_;refine Za ?_;refine bO 0 2 3 4 5 8 10 13 (Zt (Cd.ret (ab.af (ab.ae ?_))));refine cG ?_;exact⟨rfl,bel⟩
       ·skip
        by_cases h8:op=8
        ·subst h8
         refine ah ?_;refine Za ?_;refine Za ?_;refine bk 0 2 3 (aH (ah ?_));refine Zm ?_;refine aS 0 2 3 4 (Zt (Cd.block (Cd.seq (ah ?_))));refine aX ?_;refine Za ?_;refine aL 0 2 3 4 5 (Zt ?_);refine Cd.aI rfl rfl ?_;refine Zr ?_;refine aX ?_;refine Za ?_;refine aL 0 2 3 4 5 (Zt ?_);refine Cd.aI rfl rfl ?_;refine ah ?_;refine aX ?_;refine Za ?_;refine aV 0 2 3 4 5 8 (Zt ?_);refine Cd.aI rfl rfl ?_;refine Cd.seq (ah ?_);refine aX ?_;refine Za ?_;refine ba 0 2 3 4 5 8 10 (Zt ?_);refine Cd.aI rfl rfl ?_;refine Zr ?_;refine aX ?_;refine Za ?_;refine ba 0 2 3 4 5 8 10 (Zt ?_);refine Cd.aI rfl rfl ?_;refine Cd.seq (ah ?_);refine aX ?_;refine Za ?_;refine bO 0 2 3 4 5 8 10 13 (Zt ?_);refine Cd.aI rfl rfl ?_;refine ah ?_;refine aX ?_;refine Za ?_;refine bO 0 2 3 4 5 8 10 13 (Zt ?_);refine Cd.aI rfl rfl ?_;refine ah ?_;refine aX ?_;refine Za ?_;refine bO 0 2 3 4 5 8 10 13 (Zt ?_);refine Cd.aM rfl rfl ?_;refine Cd.skip (Zt ?_);refine Cd.aM rfl rfl ?_;refine ah ?_;refine Za ?_;refine Za ?_;refine bO 0 2 3 4 5 8 10 13 (Zt (Cd.ret (ab.af (ab.ae ?_))));refine cG ?_;exact⟨rfl,bel⟩
        ·skip
         by_cases h9:op=9
         ·subst h9
          refine ah ?_;refine Za ?_;refine Za ?_;refine bk 0 2 3 (aH (ah ?_));refine Zm ?_;refine aS 0 2 3 4 (Zt (Cd.block (Cd.seq (ah ?_))));refine aX ?_;refine Za ?_;refine aL 0 2 3 4 5 (Zt ?_);refine Cd.aI rfl rfl ?_;refine Zr ?_;refine aX ?_;refine Za ?_;refine aL 0 2 3 4 5 (Zt ?_);refine Cd.aI rfl rfl ?_;refine ah ?_;refine aX ?_;refine Za ?_;refine aV 0 2 3 4 5 8 (Zt ?_);refine Cd.aI rfl rfl ?_;refine Cd.seq (ah ?_);refine aX ?_;refine Za ?_;refine ba 0 2 3 4 5 8 10 (Zt ?_);refine Cd.aI rfl rfl ?_;refine Zr ?_;refine aX ?_;refine Za ?_;refine ba 0 2 3 4 5 8 10 (Zt ?_);refine Cd.aI rfl rfl ?_;refine Cd.seq (ah ?_);refine aX ?_;refine Za ?_;refine bO 0 2 3 4 5 8 10 13 (Zt ?_);refine Cd.aI rfl rfl ?_;refine ah ?_;refine aX ?_;refine Za ?_;refine bO 0 2 3 4 5 8 10 13 (Zt ?_);refine Cd.aI rfl rfl ?_;refine ah ?_;refine aX ?_;refine Za ?_;refine bO 0 2 3 4 5 8 10 13 (Zt ?_);refine Cd.aI rfl rfl ?_;refine Zr ?_;refine aX ?_;refine Za ?_;refine bO 0 2 3 4 5 8 10 13 (Zt ?_);refine Cd.aM rfl rfl ?_;refine ah ?_;refine Za ?_;refine Za ?_;refine bO 0 2 3 4 5 8 10 13 (Zt (Cd.ret (ab.af (ab.ae ?_))));refine cG ?_;exact⟨rfl,bel⟩
         ·skip
          refine ah ?_;refine Za ?_;refine Za ?_;refine bk 0 2 3 (aH (ah ?_));refine Zm ?_;refine aS 0 2 3 4 (Zt (Cd.block (Cd.seq (ah ?_))));refine aX ?_;refine Za ?_;refine aL 0 2 3 4 5 (Zt ?_);refine Cd.aI rfl (decide_eq_false h1) ?_;refine Zr ?_;refine aX ?_;refine Za ?_;refine aL 0 2 3 4 5 (Zt ?_);refine Cd.aI rfl (decide_eq_false h2) ?_;refine ah ?_;refine aX ?_;refine Za ?_;refine aV 0 2 3 4 5 8 (Zt ?_);refine Cd.aI rfl (decide_eq_false h3) ?_;refine Cd.seq (ah ?_);refine aX ?_;refine Za ?_;refine ba 0 2 3 4 5 8 10 (Zt ?_);refine Cd.aI rfl (decide_eq_false h4) ?_;refine Zr ?_;refine aX ?_;refine Za ?_;refine ba 0 2 3 4 5 8 10 (Zt ?_);refine Cd.aI rfl (decide_eq_false h5) ?_;refine Cd.seq (ah ?_);refine aX ?_;refine Za ?_;refine bO 0 2 3 4 5 8 10 13 (Zt ?_);refine Cd.aI rfl (decide_eq_false h6) ?_;refine ah ?_;refine aX ?_;refine Za ?_;refine bO 0 2 3 4 5 8 10 13 (Zt ?_);refine Cd.aI rfl (decide_eq_false h7) ?_;refine ah ?_;refine aX ?_;refine Za ?_;refine bO 0 2 3 4 5 8 10 13 (Zt ?_);refine Cd.aI rfl (decide_eq_false h8) ?_;refine Zr ?_;refine aX ?_;refine Za ?_;refine bO 0 2 3 4 5 8 10 13 (Zt ?_);refine Cd.aI rfl (decide_eq_false h9) ?_;refine Cd.skip (ab.ag (az ?_));refine Za ?_;refine Za ?_;refine bO 0 2 3 4 5 8 10 13 (Zt (Cd.ret ?_));refine cG ?_;have hb:yu op=(-1,-1):=by unfold yu;rw[if_neg (by omega),if_neg h3,if_neg (by omega),if_neg (by omega)]
          rw[hb];exact⟨rfl,bel⟩
def gD (op:Int)(nm:List Nat)(n m:Nat):Bool:=decide (yu op=((n:Int),(m:Int)))&& !(decide (op=2)&& !gG nm)&& !(decide (op≠2)&&decide (nm≠ []))
mutual
def cS:Tm→Bool
 | .mk op nm es l=>gD op nm es.length l.length&&es.all bQ&&ki l
def ki:List Tm→Bool
 | []=>true
 |e::r=>cS e&&ki r
end
theorem lX:∀l,ki l=l.all cS
 | []=>by rw[ki];rfl
 |e::r=>by rw[ki,lX r];rfl
theorem pS (t:Tm):cS t=(gD t.op t.name t.exprs.length t.aw.length&&t.exprs.all bQ&&t.aw.all cS):=by
 cases t;rw[cS,lX];rfl
theorem tA:∀args w,(callFunc 189 args).run Tryz.prog w= .ok (.enter 189 args) w:=fun args w=>aF Tryz.func189 (by kernel_rfl) rfl args w
theorem sD:∀args w,(callFunc 191 args).run Tryz.prog w= .ok (.enter 191 args) w:=fun args w=>aF Tryz.func191 (by kernel_rfl) rfl args w
theorem pg (N:Nat):∀(t:Tm) (B:Nat) (v:Value) (w:World),t.nodes≤N→dR w B t v→B≤w.heap.size→Calls Tryz.prog 142 #[v] w fun en w'=>en= .returned (.bool (cS t))∧Grow w w':=by
 induction N with
 |zero=>intro t B v w hN;have:=t.bI;omega
 |succ N ih=>
 intro t B v w hN hrep hB;obtain⟨A,c,A',c',rfl,hv⟩:=hrep.open;have bel:=Below.refl w.heap.size w;have hnm:=hv.name;have hnl:=hv.xW;have dK:=hv.dK;have iG:=hv.iG;have hbt:=pS t;have hdum:sz w B (.mk 1 0 [] t.exprs) A c:=⟨hv.dK,by show bu 1;unfold bu;omega,by show bu 0;unfold bu;omega,fun d hd=>(by cases hd),by show(0:Nat)≤_;omega,fun i x hx=>hv.expr i x hx⟩
 have hcl:=fun W (hb:Below w.heap.size w W)=>gq 189 [] (fun x=> !bQ x) B A c (.mk 1 0 [] t.exprs) W (hdum.below (hb.mono hB)) (Nat.le_trans hB hb.size) tA (fun x hx v W2 hb2 hr=>by
  have hs2:=Nat.le_trans hB (Nat.le_trans hb.size hb2.size);have hrec:=fun W3 (hb3:Below W2.heap.size W2 W3)=>gn x.nodes x B v W3 (Nat.le_refl _) (hr.below (hb3.mono hs2)) (Nat.le_trans hs2 hb3.size);obtain⟨Ax,cx,rfl,-⟩:=hr.open;have bel:=Below.refl W2.heap.size W2
  generalize bQ x=q at *
  refine Zs 6 Tryz.func189 ?_;refine ah ?_;refine Seq.box rfl rfl rfl rfl rfl ?_;intro g1 w1 n1;have e1:=Nat.le_trans bel.size n1.ge;replace bel:=bel.step n1.below;have k1:=n1.an;refine Za ?_;refine bk 0 1 2 (az ?_);refine ZW 4 Tryz.underlying105 k1 ?_;refine Zc (Ze Tryz.func180) (hrec _ bel) ?_;rintro en w5 ⟨rfl,hb5⟩;refine⟨_,rfl,?_⟩;replace bel:=bel.step hb5;replace k1:=k1.step hb5;refine gU ?_;refine Za ?_;refine bk 0 1 2 (Zt (Cd.ret ?_));refine aP ?_;exact⟨rfl,bel⟩)
 have hcl2:=fun W (hb:Below w.heap.size w W)=>oz 191 [] (fun x=> !cS x) B A' c' t.aw W hv.iG (hv.term.below (hb.mono hB)) (Nat.le_trans hB hb.size) sD (fun x hx v W2 hb2 hr=>by
  have hxn:=Tm.dS hx;have hs2:=Nat.le_trans hB (Nat.le_trans hb.size hb2.size);have hrec:=fun W3 (hb3:Below W2.heap.size W2 W3)=>ih x B v W3 (by omega) (hr.below (hb3.mono hs2)) (Nat.le_trans hs2 hb3.size);obtain⟨A1,c1,A2,c2,rfl,-⟩:=hr.open;have bel:=Below.refl W2.heap.size W2
  generalize cS x=q at *
  refine Zs 6 Tryz.func191 ?_;refine ah ?_;refine Seq.box rfl rfl rfl rfl rfl ?_;intro g1 w1 n1;have e1:=Nat.le_trans bel.size n1.ge;replace bel:=bel.step n1.below;have k1:=n1.an;refine Za ?_;refine bk 0 1 2 (az ?_);refine ZW 4 Tryz.underlying71 k1 ?_;refine Zc (Ze Tryz.func142) (hrec _ bel) ?_;rintro en w5 ⟨rfl,hb5⟩;refine⟨_,rfl,?_⟩;replace bel:=bel.step hb5;replace k1:=k1.step hb5;refine gU ?_;refine Za ?_;refine bk 0 1 2 (Zt (Cd.ret ?_));refine aP ?_;exact⟨rfl,bel⟩)
 replace hcl:∀W,Below w.heap.size w W→Calls Tryz.prog 107 #[.slice A t.exprs.length c, .func (.func 189) #[] #[]] W fun en w'=>en= .returned (.bool (t.exprs.any fun x=> !bQ x))∧Grow W w':=hcl;refine Zs 54 Tryz.func142 ?_;refine ah ?_;refine Seq.box rfl rfl rfl rfl rfl ?_;intro g1 w1 n1;have e1:=Nat.le_trans bel.size n1.ge;replace bel:=bel.step n1.below;have k1:=n1.an;refine Za ?_;refine bk 0 1 2 (az ?_);refine Zf 0 Tryz.underlying71 ?_;refine ZL Tryz.underlying3 k1 ?_;refine Zc (Ze Tryz.func187) (rz t.op _) ?_;rintro en w5 ⟨rfl,hb5⟩;refine⟨_,rfl,?_⟩;replace bel:=bel.step hb5;replace k1:=k1.step hb5;refine Zm ?_;refine Zx ?_;refine Zx ?_;refine Za ?_;refine Za ?_;refine aL 0 1 2 3 4 (aH (ah ?_));refine Zm ?_;refine Zf 2 Tryz.underlying71 ?_;refine ZL Tryz.underlying68 k1 ?_;refine Zv (aa.len rfl rfl Tryz.underlying68) ?_;refine jq ?_;refine Zm ?_;refine ar.start ?_;refine bB (fun hcx=>aa.move rfl rfl) ?_;refine Zn (fun hcx=>aa.aj 3 rfl rfl Tryz.underlying71 rfl (by kernel_rfl)) ?_;refine Zn (fun hcx=>aa.ak rfl rfl Tryz.underlying69 rfl k1 rfl) ?_;refine Zn (fun hcx=>aa.len rfl rfl Tryz.underlying69) ?_;refine Zn (fun hcx=>aa.bT rfl rfl rfl) ?_;refine fh ?_;refine Zm ?_;refine ar.start ?_;refine bB (fun hcx=>aa.aj 0 rfl rfl Tryz.underlying71 rfl (by kernel_rfl)) ?_;refine Zn (fun hcx=>aa.ak rfl rfl Tryz.underlying3 rfl k1 rfl) ?_;refine Zn (fun hcx=>aa.fK rfl rfl rfl) ?_;refine jL ?_;refine bB (fun hcx=>aa.aj 1 rfl rfl Tryz.underlying71 rfl (by kernel_rfl)) ?_;refine Zn (fun hcx=>aa.ak rfl rfl Tryz.underlying9 rfl k1 rfl) ?_;refine ar.aW rfl rfl rfl rfl rfl rfl rfl (fun hcx=>Ze Tryz.func188) (fun hcx=>rA t.name _ hnm hnl) ?_;intro w2 hw2;replace bel:=bel.step hw2;replace k1:=k1.step hw2;refine Zn (fun hcx=>aa.not rfl rfl) ?_;refine ar.tv rfl rfl rfl rfl rfl rfl rfl rfl rfl rfl rfl ?_;refine fh ?_;refine Zm ?_;refine ar.start ?_;refine bB (fun hcx=>aa.aj 0 rfl rfl Tryz.underlying71 rfl (by kernel_rfl)) ?_;refine Zn (fun hcx=>aa.ak rfl rfl Tryz.underlying3 rfl k1 rfl) ?_;refine Zn (fun hcx=>aa.bT rfl rfl rfl) ?_;refine jL ?_;refine bB (fun hcx=>aa.aj 1 rfl rfl Tryz.underlying71 rfl (by kernel_rfl)) ?_;refine Zn (fun hcx=>aa.ak rfl rfl Tryz.underlying9 rfl k1 rfl) ?_;refine Zn (fun hcx=>aa.kW (a:=t.name) (b:=[]) rfl rfl rfl hnm (by decide)) ?_;refine ar.tv rfl rfl rfl rfl rfl rfl rfl rfl rfl rfl rfl ?_;refine fh ?_;refine aV 0 1 2 3 4 43 (Zt ?_);refine Cd.cond rfl (fun h=> ?_) (fun h=> ?_)
 ·have hhead:gD t.op t.name t.exprs.length t.aw.length=false:=by
   cases hq:gD t.op t.name t.exprs.length t.aw.length with
   |false=>rfl
   |true=>
    exfalso;unfold gD at hq;simp at hq h;obtain⟨⟨a,b⟩,c⟩:=hq;rw[a] at h;simp at h;rcases h with ⟨x,y⟩|⟨x,y⟩
    ·rcases b with b|b
     ·exact b x
     ·rw[b] at y;cases y
    ·rcases c with c|c
     ·exact x c
     ·exact y c
  rw[hhead] at hbt;refine ah ?_;refine Za ?_;refine aV 0 1 2 3 4 43 (Zt (Cd.ret (ab.ae ?_)));refine aP ?_;rw[hbt];exact⟨rfl,bel⟩
 ·have hhead:gD t.op t.name t.exprs.length t.aw.length=true:=by
   unfold gD;simp at h⊢;obtain⟨⟨⟨a1,a2⟩,b⟩,c⟩:=h;refine⟨⟨Prod.ext a1 a2,?_⟩,?_⟩
   ·by_cases h2:t.op=2
    ·exact .inr (b h2)
    ·exact .inl h2
   ·by_cases h2:t.op=2
    ·exact .inl h2
    ·exact .inr (c h2)
  rw[hhead] at hbt;refine Cd.skip (az ?_);refine Zf 2 Tryz.underlying71 ?_;refine ZL Tryz.underlying68 k1 ?_;refine Zc (Ze Tryz.func107) (hcl _ bel) ?_;rintro en w6 ⟨rfl,hb6⟩;refine⟨_,rfl,?_⟩;replace bel:=bel.step hb6;replace k1:=k1.step hb6;refine gU ?_;refine Zm ?_;refine ar.start ?_;refine bB (fun hcx=>aa.aj 3 rfl rfl Tryz.underlying71 rfl (by kernel_rfl)) ?_;refine Zn (fun hcx=>aa.ak rfl rfl Tryz.underlying69 rfl k1 rfl) ?_;refine ar.aW rfl rfl rfl rfl rfl rfl rfl (fun hcx=>Ze Tryz.func190) (fun hcx=>hcl2 _ bel) ?_;intro w3 hw3;replace bel:=bel.step hw3;replace k1:=k1.step hw3;refine Zn (fun hcx=>aa.not rfl rfl) ?_;refine dL ?_;refine Za ?_;refine aV 0 1 2 3 4 43 (Zt (Cd.ret ?_));refine aP ?_;refine⟨aO (aB ?_),bel⟩;rw[hbt,List.all_eq_not_any_not,List.all_eq_not_any_not,Bool.true_and]
def bK (t:Tm):Bool:=decide (t.nodes≤200)&&decide (t.depth≤16)&&cS t
theorem pF (t:Tm)(B:Nat)(v:Value)(w:World)(hd:t.depth≤900)(hrep:dR w B t v)(hB:B≤w.heap.size):Calls Tryz.prog 99 #[v] w fun en w'=>en= .returned (.bool (bK t))∧Grow w w':=by
 have hs:=fun W (hb:Below w.heap.size w W)=>km t.nodes t 0 B v W (Nat.le_refl _) (by omega) (hrep.below (hb.mono hB)) (Nat.le_trans hB hb.size);have hbt:=fun W (hb:Below w.heap.size w W)=>pg t.nodes t B v W (Nat.le_refl _) (hrep.below (hb.mono hB)) (Nat.le_trans hB hb.size);have hc:=mx t;have hdn:=t.bm
 have hres:(decide (t.nodes≤200)&&decide (t.depth≤16))=(decide ((uq t).1≤200)&&decide ((uq t).2≤16)):=by
  obtain⟨c1,c2⟩:=hc;rw[Bool.eq_iff_iff];simp only[Bool.and_eq_true,decide_eq_true_eq]
  constructor
  ·rintro⟨h1,h2⟩
   rw[c2 (by omega)];omega
  ·rintro⟨h1,h2⟩
   have h3:t.nodes≤200:=by omega
   rw[c2 (by omega)] at h2;omega
 unfold bK;rw[hres];obtain⟨A,c,A',c',rfl,-⟩:=hrep.open;have bel:=Below.refl w.heap.size w
 generalize (uq t)=s at *
 refine Zs 10 Tryz.func99 ?_;refine ah ?_;refine Seq.box rfl rfl rfl rfl rfl ?_;intro g1 w1 n1;have e1:=Nat.le_trans bel.size n1.ge;replace bel:=bel.step n1.below;have k1:=n1.an;refine Za ?_;refine bk 0 1 2 (az ?_);refine ZW 4 Tryz.underlying71 k1 ?_;refine Zc (Ze Tryz.func140) (hs _ bel) ?_;rintro en w5 ⟨rfl,hb5⟩;refine⟨_,rfl,?_⟩;replace bel:=bel.step hb5;replace k1:=k1.step hb5;refine Zc (Ze Tryz.func141) (fZ s.1 s.2 _) ?_;rintro en w6 ⟨rfl,hb6⟩;refine⟨_,rfl,?_⟩;replace bel:=bel.step hb6;replace k1:=k1.step hb6;refine Zm ?_;refine ar.start ?_;refine bB (fun hcx=>aa.dx rfl rfl Tryz.underlying71 rfl k1 (m:=4) (by kernel_rfl) rfl) ?_;refine ar.aW rfl rfl rfl rfl rfl rfl rfl (fun hcx=>Ze Tryz.func142) (fun hcx=>hbt _ bel) ?_;intro w2 hw2;replace bel:=bel.step hw2;replace k1:=k1.step hw2;refine dL ?_;refine Za ?_;refine bk 0 1 2 (Zt (Cd.ret ?_));refine aP ?_;exact⟨aO (aB (by cases (decide (s.1≤200)&&decide (s.2≤16))<;>rfl)),bel⟩
theorem nJ (op:Int)(nm:List Nat)(n m:Nat):gD op nm n m=true↔yu op=((n:Int),(m:Int))∧(op=2→gG nm=true)∧(op≠2→nm=[]):=by
 unfold gD;simp
 constructor
 ·rintro⟨⟨a,b⟩,c⟩
  refine⟨a,fun h=> ?_,fun h=> ?_⟩
  ·rcases b with b|b
   ·exact absurd h b
   ·exact b
  ·rcases c with c|c
   ·exact absurd c h
   ·exact c
 ·rintro⟨a,b,c⟩
  refine⟨⟨a,?_⟩,?_⟩
  ·by_cases h2:op=2
   ·exact .inr (b h2)
   ·exact .inl h2
  ·by_cases h2:op=2
   ·exact .inl h2
   ·exact .inr (c h2)
theorem Av {op:Int}{n m:Nat}(h:yu op=((n:Int),(m:Int))):1≤op∧op≤9∧n≤1∧m≤2:=by
 unfold yu at h
 repeat' split at h
 all_goals (have h1:=congrArg Prod.fst h;have h2:=congrArg Prod.snd h;simp only at h1 h2;omega)
section
variable {w w':World} {T:List Nat} {ts:List Tm} {vs:List Value}
end
def qx:List (List Nat):=[[122,101,114,111],[111,110,101],[103,105,118,101],[97,110,100],[111,114],[115,99,97,108,101],[119,104,101,110],[117,110,116,105,108],[97,110,121,116,105,109,101]]
def lS (op:Int):List Nat:=qx.getD (op-1).toNat []
mutual
def cQ:Tm→List Nat
 | .mk op nm es l=>if op=1 then [122,101,114,111] else lS op++[40]++bY ((if op=2 then [nm] else [])++es.map bN++nS l)++[41]
def nS:List Tm→List (List Nat)
 | []=>[]
 |t::r=>cQ t::nS r
end
theorem nA:∀l,nS l=l.map cQ
 | []=>by rw[nS];rfl
 |e::r=>by rw[nS,nA r];rfl
theorem rQ (t:Tm):cQ t=if t.op=1 then [122,101,114,111] else lS t.op++[40]++bY ((if t.op=2 then [t.name] else [])++t.exprs.map bN++t.aw.map cQ)++[41]:=by
 cases t;rw[cQ,nA];rfl
theorem oA (op:Int)(w:World)(h1:1≤op)(h2:op≤9):Calls Tryz.prog 176 #[.int .i64 op] w fun e w'=>e= .returned (.string (strOf (lS op)))∧Grow w w':=by
 have bel:=Below.refl w.heap.size w;refine Zs 20 Tryz.func176 ?_;refine ah ?_;refine Za ?_;refine cZ 0 2 (aH (ah ?_));refine Zm ?_;refine bk 0 2 3 (Zt (Cd.block (ah ?_)));refine aX ?_;refine Za ?_;refine aS 0 2 3 4 (Zt ?_);refine Cd.ao rfl (fun g1=> ?_) (fun g1=> ?_)
 ·skip
  refine ah ?_;refine Za ?_;refine aS 0 2 3 4 (Zt (Cd.ret (ab.af (ab.ae ?_))));refine aP ?_;subst g1;exact⟨rfl,bel⟩
 refine ah ?_;refine aX ?_;refine Za ?_;refine aL 0 2 3 4 6 (Zt ?_);refine Cd.ao rfl (fun h3=> ?_) (fun h3=> ?_)
 ·skip
  refine ah ?_;refine Za ?_;refine aL 0 2 3 4 6 (Zt (Cd.ret (ab.af (ab.ae ?_))));refine aP ?_;subst h3;exact⟨rfl,bel⟩
 refine ah ?_;refine aX ?_;refine Za ?_;refine aV 0 2 3 4 6 8 (Zt ?_);refine Cd.ao rfl (fun h4=> ?_) (fun h4=> ?_)
 ·skip
  refine ah ?_;refine Za ?_;refine aV 0 2 3 4 6 8 (Zt (Cd.ret (ab.af (ab.ae ?_))));refine aP ?_;subst h4;exact⟨rfl,bel⟩
 refine ah ?_;refine aX ?_;refine Za ?_;refine ba 0 2 3 4 6 8 10 (Zt ?_);refine Cd.ao rfl (fun h5=> ?_) (fun h5=> ?_)
 ·skip
  refine ah ?_;refine Za ?_;refine ba 0 2 3 4 6 8 10 (Zt (Cd.ret (ab.af (ab.ae ?_))));refine aP ?_;subst h5;exact⟨rfl,bel⟩
 refine ah ?_;refine aX ?_;refine Za ?_;refine bO 0 2 3 4 6 8 10 12 (Zt ?_);refine Cd.ao rfl (fun h6=> ?_) (fun h6=> ?_)
 ·skip
  refine ah ?_;refine Za ?_;refine bO 0 2 3 4 6 8 10 12 (Zt (Cd.ret (ab.af (ab.ae ?_))));refine aP ?_;subst h6;exact⟨rfl,bel⟩
 refine ah ?_;refine aX ?_;refine Za ?_;refine cw 0 2 3 4 6 8 10 12 14 (Zt ?_);refine Cd.ao rfl (fun h7=> ?_) (fun h7=> ?_)
 ·skip
  refine ah ?_;refine Za ?_;refine cw 0 2 3 4 6 8 10 12 14 (Zt (Cd.ret (ab.af (ab.ae ?_))));refine aP ?_;subst h7;exact⟨rfl,bel⟩
 refine ah ?_;refine aX ?_;refine Za ?_;refine dr 0 2 3 4 6 8 10 12 14 16 (Zt ?_);refine Cd.ao rfl (fun h8=> ?_) (fun h8=> ?_)
 ·skip
  refine ah ?_;refine Za ?_;refine dr 0 2 3 4 6 8 10 12 14 16 (Zt (Cd.ret (ab.af (ab.ae ?_))));refine aP ?_;subst h8;exact⟨rfl,bel⟩
 refine ah ?_;refine aX ?_;refine Za ?_;refine ct 0 2 3 4 6 8 10 12 14 16 18 (Zt ?_);refine Cd.ao rfl (fun h9=> ?_) (fun h9=> ?_)
 ·skip
  refine ah ?_;refine Za ?_;refine ct 0 2 3 4 6 8 10 12 14 16 18 (Zt (Cd.ret (ab.af (ab.ae ?_))));refine aP ?_;subst h9;exact⟨rfl,bel⟩
 refine Cd.skip (ab.ag (az ?_));refine Za ?_;refine ct 0 2 3 4 6 8 10 12 14 16 18 (Zt (Cd.ret ?_));refine aP ?_;obtain rfl:op=2:=by omega
 exact⟨rfl,bel⟩
theorem ib {t:Tm}(h:cS t=true):gD t.op t.name t.exprs.length t.aw.length=true∧(∀x∈t.exprs,bQ x=true)∧∀x∈t.aw,cS x=true:=by
 rw[pS,Bool.and_eq_true,Bool.and_eq_true,List.all_eq_true,List.all_eq_true] at h;exact⟨h.1.1,h.1.2,h.2⟩
theorem oU (op:Int):(lS op).length≤7∧∀x∈lS op,x<256:=by
 unfold lS
 generalize (op-1).toNat=j
 rcases Nat.lt_or_ge j 9 with h|h
 ·have key:∀j:Fin 9,(qx.getD j.val []).length≤7∧∀x∈qx.getD j.val [],x<256:=by decide
  exact key ⟨j,h⟩
 ·rw[List.getD_eq_getElem?_getD,List.getElem?_eq_none (show qx.length≤j from h)]
  simp
theorem qP:∀l:List (List Nat),(bY l).length≤(l.map fun t=>t.length+2).sum
 | []=>by simp[bY]
 | [x]=>by simp[bY]
 |x::y::r=>by
  have h2:=qP (y::r);rw[lP];simp only[List.length_append,List.length_cons,List.length_nil,List.map_cons,List.sum_cons] at h2⊢;omega
theorem oT:∀l:List Ex,(∀x∈l,(bN x).length≤50*x.nodes)→((l.map bN).map fun t=>t.length+2).sum≤60*bz l
 | [],_=>by simp
 |x::r,h=>by
  have h1:=h x List.mem_cons_self;have h2:=oT r fun z hz=>h z (List.mem_cons_of_mem _ hz);have hp:=x.bI;rw[bz,List.map_cons,List.map_cons,List.sum_cons];omega
theorem oP:∀l:List Tm,(∀x∈l,(cQ x).length+2≤60*x.nodes)→((l.map cQ).map fun t=>t.length+2).sum≤60*dV l
 | [],_=>by simp
 |x::r,h=>by
  have h1:=h x List.mem_cons_self;have h2:=oP r fun z hz=>h z (List.mem_cons_of_mem _ hz);rw[dV,List.map_cons,List.map_cons,List.sum_cons];omega
theorem iJ (N:Nat):∀t:Tm,t.nodes≤N→cS t=true→(cQ t).length+2≤60*t.nodes∧∀d∈cQ t,d<256:=by
 induction N with
 |zero=>intro t hN;have:=t.bI;omega
 |succ N ih=>
  intro t hN hb;obtain⟨hh,he,ht⟩:=ib hb;obtain⟨a1,a2,a3⟩:=(nJ _ _ _ _).1 hh;have hn:=t.kh;have hE:=oT t.exprs fun x hx=>(eo x.nodes x (Nat.le_refl _) (he x hx)).1;have hT:=oP t.aw fun x hx=>(ih x (by have:=Tm.dS hx;omega) (ht x hx)).1;have hw:=oU t.op;rw[rQ];split
  ·exact⟨by simp;omega,by decide⟩
  ·have hj:=qP ((if t.op=2 then [t.name] else [])++t.exprs.map bN++t.aw.map cQ)
   rw[List.map_append,List.map_append,List.sum_append,List.sum_append] at hj
   have hnm:((if t.op=2 then [t.name] else []).map fun t=>t.length+2).sum≤18:=by
    split
    ·rename_i h
     have:=kn (a2 h);simp;omega
    ·simp
   refine⟨by simp only[List.length_append,List.length_cons,List.length_nil];omega,yM (fun x hx=> ?_) (tW fun u hu=> ?_) (by decide)⟩
   ·rcases List.mem_append.1 hx with hx|hx
    ·exact hw.2 x hx
    ·simp at hx;omega
   ·rcases List.mem_append.1 hu with hu|hu
    ·rcases List.mem_append.1 hu with hu|hu
     ·split at hu
      ·rename_i h
       obtain rfl:=List.mem_singleton.1 hu;exact mn (a2 h)
      ·cases hu
     ·obtain⟨x,hx,rfl⟩:=List.mem_map.1 hu
      exact(eo x.nodes x (Nat.le_refl _) (he x hx)).2
    ·obtain⟨x,hx,rfl⟩:=List.mem_map.1 hu
     exact(ih x (by have:=Tm.dS hx;omega) (ht x hx)).2
theorem ur (B g i:Nat)(t:Tm)(A A':Option Addr)(c c' f:Nat)(fst cp:List Value)(bs T:List Nat)(W:World)(hv:ph W B t A A')(h200:t.nodes≤200)(hbt:cS t=true)(wr:Bw W B g bs)(hl:bs.length≤60000000)
  (eg:∀args w,(callFunc f args).run Tryz.prog w= .ok (.enter f args) w) (hi:i<t.exprs.length+t.aw.length)
  (hT:∀x,t.exprs[i]? =some x→T=bN x)
  (hS:∀k x A1 A2 c1 c2,t.aw[k]? =some x→i=t.exprs.length+k→∀W',Wt B W W'→dR W' B x (.agg (Aw x A1 A2 c1 c2).toArray)→Bw W' B g bs→Calls Tryz.prog f (fst++[Value.agg (Aw x A1 A2 c1 c2).toArray]++cp).toArray W' (ff B g (bs++T) W')):
  Calls Tryz.prog 178 #[.pointer (some ⟨g,0,none⟩), .agg #[.int .i64 t.op, .string (strOf t.name), .slice A t.exprs.length c, .slice A' t.aw.length c'], .int .i64 (i:Int), .func (.func f) fst.toArray cp.toArray] W (ff B g (bs++T) W):=by
 obtain⟨hh,hexp,hter⟩:=ib hbt;have hBW:=wr.size;have dK:=hv.dK;have h61:=hv.iG;have wt:=Wt.refl B W;refine Zs 31 Tryz.func178 ?_;refine ah ?_;refine Seq.box rfl rfl rfl rfl rfl ?_;intro g5 w1 n5;replace wt:=wt.step n5.below;replace wr:=wr.step n5.below;have k5:=n5.an;refine aL 0 1 2 3 5 (aH (ah ?_));refine Zm ?_;refine Zf 2 Tryz.underlying71 ?_;refine ZL Tryz.underlying68 k5 ?_;refine Zv (aa.len rfl rfl Tryz.underlying68) ?_;refine eU ?_;refine aV 0 1 2 3 5 12 (Zt ?_);refine Cd.ao rfl (fun hc=> ?_) (fun hc=> ?_)
 ·obtain⟨y,hy⟩:∃y,t.exprs[i]? =some y:=⟨_,List.getElem?_eq_getElem (by omega)⟩
  obtain⟨ad,Ax,cx,rfl,hbl,hrx,hce⟩:=hv.expr i y hy;have hxm:=List.mem_of_getElem? hy;have hxn:=Tm.sK hxm;have hxd:=y.bm;have hce:=fun j u hj=>((wt.to hBW).cell (p:=(ad.add (i*4)).add j) (by rw[ai,ai];exact hbl)).trans (hce j u hj);have hex:=pk y.nodes y B g bs _ 1 _ (Nat.le_refl _) (by omega) (hexp y hxm) (hrx.below (wt.to hBW)) wr (by unfold bu;omega) (by omega);rw[p8,←hT y hy] at hex;refine ah ?_;refine Zm ?_;refine Zf 2 Tryz.underlying71 ?_;refine ZL Tryz.underlying68 k5 ?_;refine Zm ?_;refine Zv (aa.aU rfl rfl rfl Tryz.underlying68 (s:=4) (by kernel_rfl) (j:=i) rfl (by omega)) ?_;refine Zv (aa.b7 (ps:=[.int .i64 y.op, .int .i64 y.n, .string (strOf y.name), .slice Ax y.args.length cx]) rfl rfl Tryz.underlying105 rfl (m:=4) (by kernel_rfl) rfl hce) ?_;refine Zc (Ze Tryz.func138) (hex) ?_;clear wr;rintro e w2 ⟨⟨_,rfl⟩,fw2,wr⟩;refine⟨_,rfl,?_⟩;replace wt:=wt.wt fw2;refine aV 0 1 2 3 5 12 (Zt (Cd.ret (ab.ae ?_)));refine ab.du rfl (.inl rfl) ?_;exact⟨⟨_,rfl⟩,wt,wr⟩
 ·obtain⟨k,rfl⟩:∃k,i=t.exprs.length+k:=⟨i-t.exprs.length,by omega⟩
  obtain⟨y,hy⟩:∃y,t.aw[k]? =some y:=⟨_,List.getElem?_eq_getElem (by omega)⟩;obtain⟨ad,A1,A2,d1,d2,rfl,hbl,hrx,hce⟩:=hv.term k y hy;have hce:=fun j u hj=>((wt.to hBW).cell (p:=(ad.add (k*4)).add j) (by rw[ai,ai];exact hbl)).trans (hce j u hj);have hsub:=hS k y A1 A2 d1 d2 hy rfl _ wt (hrx.below (wt.to hBW)) wr;refine Cd.skip (et ?_);refine Zm ?_;refine Zf 3 Tryz.underlying71 ?_;refine ZL Tryz.underlying69 k5 ?_;refine Zm ?_;refine Zf 2 Tryz.underlying71 ?_;refine ZL Tryz.underlying68 k5 ?_;refine Zv (aa.len rfl rfl Tryz.underlying68) ?_;refine qq ?_;refine Zv (aa.aU rfl rfl rfl Tryz.underlying69 (s:=4) (by kernel_rfl) (j:=k) (by omega) (by omega)) ?_;refine Zv (aa.b7 (ps:=[.int .i64 y.op, .string (strOf y.name), .slice A1 y.exprs.length d1, .slice A2 y.aw.length d2]) rfl rfl Tryz.underlying71 rfl (m:=4) (by kernel_rfl) rfl hce) ?_;refine Seq.call (Enters.value (first:=fst) (cap:=cp) rfl rfl rfl eg) rfl rfl rfl hsub ?_;clear wr;rintro e w9 ⟨⟨_,rfl⟩,f9,wr⟩;refine⟨_,rfl,?_⟩;replace wt:=wt.wt f9;refine aV 0 1 2 3 5 12 ?_;refine ab.du rfl (.inr rfl) ?_;exact⟨⟨_,rfl⟩,wt,wr⟩
theorem yQ:∀args w,(callFunc 131 args).run Tryz.prog w= .ok (.enter 131 args) w:=fun args w=>aF Tryz.func131 (by kernel_rfl) rfl args w
theorem wy:∀args w,(callFunc 177 args).run Tryz.prog w= .ok (.enter 177 args) w:=fun args w=>aF Tryz.func177 (by kernel_rfl) rfl args w
def Bs (B g L:Nat)(t:Tm):Prop:=∀(x:Tm) (A1 A2:Option Addr) (c1 c2:Nat),x∈t.aw→∀(W:World) (bs':List Nat),dR W B x (.agg (Aw x A1 A2 c1 c2).toArray)→Bw W B g bs'→bs'.length≤L→Calls Tryz.prog 131 #[.pointer (some ⟨g,0,none⟩), .agg (Aw x A1 A2 c1 c2).toArray] W (ff B g (bs'++cQ x) W)
def gJ (t:Tm):List (List Nat):=t.exprs.map bN++t.aw.map cQ
theorem tD {t:Tm}{i:Nat}{x:Ex}(h:t.exprs[i]? =some x):(gJ t)[i]? =some (bN x):=by
 have:=(List.getElem?_eq_some_iff.1 h).1;unfold gJ;rw[List.getElem?_append_left (by simp;omega),List.getElem?_map,h];rfl
theorem sI {t:Tm}{k:Nat}{x:Tm}(h:t.aw[k]? =some x):(gJ t)[t.exprs.length+k]? =some (cQ x):=by
 unfold gJ;rw[List.getElem?_append_right (by simp),List.length_map,Nat.add_sub_cancel_left,List.getElem?_map,h];rfl
theorem sL (B g L g2 g3 i c c':Nat)(A A':Option Addr)(t:Tm)(bs T:List Nat)(w W:World)(h:Bs B g L t)(hv:ph w B t A A')(h200:t.nodes≤200)(hbt:cS t=true)(hb:Below B w W)(k2:aE W g2 192 #[.pointer (some ⟨g,0,none⟩)]) (k3:aE W g3 71 #[.int .i64 t.op, .string (strOf t.name), .slice A t.exprs.length c, .slice A' t.aw.length c']) (wr:Bw W B g bs) (hL:bs.length≤L) (hL2:L≤60000000) (hT:(gJ t)[i]? =some T):
  Calls Tryz.prog 177 #[.int .i64 (i:Int), .pointer (some ⟨g2,0,none⟩), .pointer (some ⟨g3,0,none⟩)] W (ff B g (bs++T) W):=by
 have hBW:=wr.size;have hi:=(List.getElem?_eq_some_iff.1 hT).1;have hi:i<t.exprs.length+t.aw.length:=by unfold gJ at hi;simpa using hi
 have hpart:=ur B g i t A A' c c' 131 [.pointer (some ⟨g,0,none⟩)] [] bs T W (hv.below hb) h200 hbt wr (by omega) yQ hi
  (fun x hx=>by rw[tD hx] at hT;injection hT with hT;exact hT.symm)
  (fun k x A1 A2 c1 c2 hx hik W' hb' hr hw=>by
   subst hik;rw[sI hx] at hT;injection hT with hT
   subst hT;exact h x A1 A2 c1 c2 (List.mem_of_getElem? hx) W' bs hr hw hL)
 have wt:=Wt.refl B W;refine Zs 10 Tryz.func177 ?_;refine Zr ?_;refine ZL Tryz.underlying192 k2 ?_;refine ZW 4 Tryz.underlying71 k3 ?_;refine Zm ?_;refine ZL Tryz.underlying192 k2 ?_;refine Zv (aa.makeFunc (v:= .func (.func 131) #[.pointer (some ⟨g,0,none⟩)] #[]) rfl (show fc _ _=some [.pointer (some ⟨g,0,none⟩)] from rfl) (show fc _ _=some [] from rfl) rfl) ?_;refine Zc (Ze Tryz.func178) (hpart) ?_;clear wr;rintro e w1 ⟨⟨_,rfl⟩,fw1,wr⟩;refine⟨_,rfl,?_⟩;replace wt:=wt.wt fw1;refine bk 0 1 2 ?_;refine ab.du rfl (.inr rfl) ?_;exact⟨⟨_,rfl⟩,wt,wr⟩
theorem vD (N:Nat):∀(t:Tm) (B g:Nat) (bs:List Nat) (v:Value) (w:World),t.nodes≤N→t.nodes≤200→cS t=true→dR w B t v→Bw w B g bs→bs.length+100000*t.depth≤50000000→
  Calls Tryz.prog 131 #[.pointer (some ⟨g,0,none⟩),v] w (ff B g (bs++cQ t) w):=by
 induction N with
 |zero=>intro t B g bs v w hN;have:=t.bI;omega
 |succ N ih=>
 intro t B g bs v w hN h200 hbt hrep hbw hbs;obtain⟨A,c,A',c',rfl,hv⟩:=hrep.open;obtain⟨hh,hexp,hter⟩:=ib hbt;obtain⟨a1,a2,a3⟩:=(nJ _ _ _ _).1 hh;obtain⟨p1,p2,p3,p4⟩:=Av a1;have hBW:=hbw.size;have hT:=rQ t;have hbd:=iJ t.nodes t (Nat.le_refl _) hbt;have dK:=hv.dK;have h61:=hv.iG
 have hrec:Bs B g (bs.length+60000) t:=fun x A1 A2 c1 c2 hx W bs' hr hw hl=>by
  have hnd:=Tm.dS hx;have hdp:=Tm.nw hx;exact ih x B g bs' _ W (by omega) (by omega) (hter x hx) hr hw (by omega)
 have wt:=Wt.refl B w;have wr:=hbw;refine Zs 35 Tryz.func131 ?_;refine ah ?_;refine Seq.box rfl rfl rfl rfl rfl ?_;intro g2 w1 n2;replace wt:=wt.step n2.below;replace wr:=wr.step n2.below;have k2:=n2.an;refine Seq.box rfl rfl rfl rfl rfl ?_;intro g3 w2 n3;have l3:=Nat.lt_of_lt_of_le k2.lt n3.ge;replace wt:=wt.step n3.below;replace wr:=wr.step n3.below;replace k2:=k2.step n3.below;have k3:=n3.an;refine aS 0 1 2 3 (az ?_);refine Zf 0 Tryz.underlying71 ?_;refine ZL Tryz.underlying3 k3 ?_;refine aL 0 1 2 3 5 (Zt (Cd.block (ah ?_)));refine aX ?_;refine Za ?_;refine aV 0 1 2 3 5 19 (Zt ?_);refine Cd.ao rfl (fun h1=> ?_) (fun h1=> ?_)
 ·rw[if_pos h1] at hT
  refine Zr ?_;refine ZL Tryz.underlying192 k2 ?_;refine Zv (aa.nilCheck rfl rfl) ?_;refine Zf 0 Tryz.underlying232 ?_;refine Zc (Ze Tryz.func174) ((bo B g [122,101,114,111] bs _ wr (by decide) (by simp only[List.length_cons,List.length_nil];omega)).1) ?_;clear wr;rintro e w3 ⟨⟨_,rfl⟩,fw3,wr⟩;refine⟨_,rfl,?_⟩;replace wt:=wt.wt fw3;refine aV 0 1 2 3 5 19 (ab.ag ?_);refine ab.du rfl (.inr rfl) ?_;rw[hT];exact⟨⟨_,rfl⟩,wt,wr⟩
 rw[if_neg h1] at hT;refine ah ?_;refine aX ?_;refine Za ?_;refine ba 0 1 2 3 5 19 25 (Zt ?_);refine Cd.ao rfl (fun h2=> ?_) (fun h2=> ?_)
 ·have hnm:=kn (a2 h2)
  have hnl:=mn (a2 h2)
  have he0:t.exprs=[]∧t.aw=[]:=by
   rw[h2] at a1;have e1:yu 2=(0,0):=rfl;rw[e1] at a1;injection a1 with x1 x2
   exact⟨List.eq_nil_of_length_eq_zero (by omega),List.eq_nil_of_length_eq_zero (by omega)⟩
  have hT2:cQ t=[111,110,101,40]++t.name++[41]:=by
   rw[hT,if_pos h2,he0.1,he0.2,h2];simp[bY];rfl
  refine gm 7 ?_;intro w3 hw3 zw3;replace wt:=wt.step hw3;replace wr:=wr.step hw3;replace k2:=k2.step hw3;replace k3:=k3.step hw3;have zlt:=k3.lt;refine fb Tryz.underlying192 k2 ?_;refine Zd (fun w hG=>aa.nilCheck rfl rfl) ?_;refine gw 0 Tryz.underlying232 ?_;refine gw 1 Tryz.underlying71 ?_;refine fb Tryz.underlying9 k3 ?_;refine Zd (fun w hG=>aa.rZ (a:=[111,110,101,40]) rfl rfl rfl (by simp only[List.length_cons,List.length_nil];omega)) ?_;refine Zd (fun w hG=>aa.rZ (b:=[41]) rfl rfl rfl (by simp only[List.length_append,List.length_cons,List.length_nil];omega)) ?_;refine Dr.nil ?_;refine bH.done (F':=[(0,_),(1,_),(2,_),(3,_),(5,_),(19,_),(25,_),(29,_),(33,_)]) rfl ⟨rfl,rfl,rfl,rfl,rfl,rfl,rfl,rfl,rfl,trivial⟩ ?_;intro w4 hw4 fw4;replace wt:=wt.step hw4;replace wr:=wr.step hw4;replace k2:=k2.step hw4;replace k3:=k3.step hw4;refine Zc (Ze Tryz.func174) ((bo B g ([111,110,101,40]++t.name++[41]) bs _ wr (yM (by decide) hnl (by decide)) (by simp only[List.length_append,List.length_cons,List.length_nil];omega)).1) ?_;clear wr;rintro e w5 ⟨⟨_,rfl⟩,fw5,wr⟩;refine⟨_,rfl,?_⟩;replace wt:=wt.wt fw5;refine ba 0 1 2 3 5 19 25 (ab.ag ?_);refine ab.du rfl (.inr rfl) ?_;rw[hT2];exact⟨⟨_,rfl⟩,wt,wr⟩
 rw[if_neg h2,List.nil_append] at hT;have hjr:t.exprs.map bN++t.aw.map cQ=gJ t:=rfl;rw[hjr] at hT;have hrl:(gJ t).length=t.exprs.length+t.aw.length:=by unfold gJ;simp
 have hwl:=oU t.op
 have hjl:(bY (gJ t)).length≤20000:=by
  have:=hbd.1;rw[hT] at this;simp only[List.length_append,List.length_cons,List.length_nil] at this;omega
 have hrows:∀u∈gJ t,∀d∈u,d<256:=fun u hu=>by
  unfold gJ at hu;rcases List.mem_append.1 hu with hu|hu
  ·obtain⟨z,hz,rfl⟩:=List.mem_map.1 hu
   exact(eo z.nodes z (Nat.le_refl _) (hexp z hz)).2
  ·obtain⟨z,hz,rfl⟩:=List.mem_map.1 hu
   exact(iJ z.nodes z (Nat.le_refl _) (hter z hz)).2
 have hword:∀W,Calls Tryz.prog 176 #[.int .i64 t.op] W fun e w'=>e= .returned (.string (strOf (lS t.op)))∧Grow W w':=fun W=>oA t.op W p1 p2;refine gm 12 ?_;intro w3 hw3 zw3;replace wt:=wt.step hw3;replace wr:=wr.step hw3;replace k2:=k2.step hw3;replace k3:=k3.step hw3;have zlt:=k3.lt;refine fb Tryz.underlying192 k2 ?_;refine gw 0 Tryz.underlying71 ?_;refine fb Tryz.underlying3 k3 ?_;refine Dr.cu rfl (fun w=>Ze Tryz.func176) rfl (fun w hG=>hword w) ?_;refine gw 2 Tryz.underlying71 ?_;refine fb Tryz.underlying68 k3 ?_;refine Zd (fun w hG=>aa.len rfl rfl Tryz.underlying68) ?_;refine gw 3 Tryz.underlying71 ?_;refine fb Tryz.underlying69 k3 ?_;refine Zd (fun w hG=>aa.len rfl rfl Tryz.underlying69) ?_;refine Zd (fun w hG=>aa.oE rfl rfl rfl (by omega) (by omega)) ?_;refine Zd (fun w hG=>aa.makeFunc (v:= .func (.func 177) #[] #[.pointer (some ⟨g2,0,none⟩), .pointer (some ⟨g3,0,none⟩)]) rfl (show fc _ _=some [] from rfl) (show fc _ _=some [.pointer (some ⟨g2,0,none⟩), .pointer (some ⟨g3,0,none⟩)] from rfl) rfl) ?_;refine Dr.nil ?_;refine bH.done (F':=[(0,_),(1,_),(2,_),(3,_),(5,_),(6,_),(9,_),(16,_),(17,_),(19,_),(25,_)]) rfl ⟨rfl,rfl,rfl,rfl,rfl,rfl,rfl,rfl,rfl,rfl,rfl,trivial⟩ ?_;intro w4 hw4 fw4;replace wt:=wt.step hw4;replace wr:=wr.step hw4;replace k2:=k2.step hw4;replace k3:=k3.step hw4
 have hlist:=rC B g 177 (t.exprs.length+t.aw.length) [.pointer (some ⟨g2,0,none⟩), .pointer (some ⟨g3,0,none⟩)] (lS t.op) bs (gJ t) _ wr hwl.2 (by omega) hrl (by omega) hrows hjl (by omega) wy
  (fun i u hu W' bs' hwt hwr hlen=>sL B g (bs.length+60000) g2 g3 i c c' A A' t bs' u w W' hrec hv h200 hbt ((wt.wt hwt).to hBW) (k2.wt hwt) (k3.wt hwt) hwr (by omega) (by omega) hu)
 refine Zc (Ze Tryz.func175) (hlist) ?_;clear wr;rintro e w5 ⟨⟨_,rfl⟩,fw5,wr⟩;refine⟨_,rfl,?_⟩;replace wt:=wt.wt fw5;refine ba 0 1 2 3 5 19 25 (ab.ag ?_);refine ab.du rfl (.inr rfl) ?_;rw[hT];exact⟨⟨_,rfl⟩,wt,by simpa only[List.append_assoc] using wr⟩
theorem r5 (t:Tm)(A A':Option Addr)(B g g1 c c':Nat)(w W:World)(hbt:cS t=true)(h200:t.nodes≤200)(hrep:dR w B t (.agg #[.int .i64 t.op, .string (strOf t.name), .slice A t.exprs.length c, .slice A' t.aw.length c'])) (hb:Below B w W) (k1:aE W g1 71 #[.int .i64 t.op, .string (strOf t.name), .slice A t.exprs.length c, .slice A' t.aw.length c']) (wr:Bw W B g []):
  Calls Tryz.prog 130 #[.pointer (some ⟨g,0,none⟩), .pointer (some ⟨g1,0,none⟩)] W (ff B g (cQ t) W):=by
 have hdn:=t.bm;have hex:=vD t.nodes t B g [] _ W (Nat.le_refl _) h200 hbt (hrep.below hb) wr (by simp only[List.length_nil];omega);rw[List.nil_append] at hex;have wt:=Wt.refl B W;refine Zs 6 Tryz.func130 ?_;refine Zr ?_;refine Zm ?_;refine ZW 4 Tryz.underlying71 k1 ?_;refine Zc (Ze Tryz.func131) (hex) ?_;clear wr;rintro e w1 ⟨⟨_,rfl⟩,fw1,wr⟩;refine⟨_,rfl,?_⟩;replace wt:=wt.wt fw1;refine cZ 0 1 ?_;refine ab.du rfl (.inr rfl) ?_;exact⟨⟨_,rfl⟩,wt,wr⟩
theorem wL:∀args w,(callFunc 130 args).run Tryz.prog w= .ok (.enter 130 args) w:=fun args w=>aF Tryz.func130 (by kernel_rfl) rfl args w
theorem jc {t:Tm}(h:bK t=true):t.nodes≤200∧t.depth≤16∧cS t=true:=by
 unfold bK at h;simp at h;exact⟨h.1.1,h.1.2,h.2⟩
def iZ (t:Tm):List Nat:=if bK t=true then cQ t else []
theorem uS (t:Tm):(iZ t).length≤1000000:=by
 unfold iZ;split
 ·rename_i h
  obtain⟨h1,h2,h3⟩:=jc h;have:=(iJ t.nodes t (Nat.le_refl _) h3).1;omega
 ·simp
theorem jH (t:Tm)(v:Value)(w:World)(hd:t.depth≤900)(hrep:dR w w.heap.size t v):Calls Tryz.prog 82 #[v] w fun en w'=>en= .returned (.tuple #[.string (strOf (dy (bK t) (iZ t)).1), .int .i64 (dy (bK t) (iZ t)).2])∧Grow w w':=by
 obtain⟨A,c,A',c',rfl,hv⟩:=hrep.open;have bel:=Below.refl w.heap.size w;have hre:∀W,Below w.heap.size w W→Calls Tryz.prog 99 #[.agg #[.int .i64 t.op, .string (strOf t.name), .slice A t.exprs.length c, .slice A' t.aw.length c']] W fun en w'=>en= .returned (.bool (bK t))∧Grow W w':=fun W hb=>pF t w.heap.size _ W hd (hrep.below hb) hb.size;refine Zs 10 Tryz.func82 ?_;refine ah ?_;refine Seq.box rfl rfl rfl rfl rfl ?_;intro g1 w1 n1;have e1:=Nat.le_trans bel.size n1.ge;replace bel:=bel.step n1.below;have k1:=n1.an;refine Za ?_;refine Za ?_;refine aS 0 1 2 3 (az ?_);refine ZW 4 Tryz.underlying71 k1 ?_;refine Zc (Ze Tryz.func99) (hre _ bel) ?_;rintro en w5 ⟨rfl,hb5⟩;refine⟨_,rfl,?_⟩;replace bel:=bel.step hb5;replace k1:=k1.step hb5;refine Zv (aa.makeFunc (v:= .func (.func 130) #[] #[.pointer (some ⟨g1,0,none⟩)]) rfl (show fc _ _=some [] from rfl) (show fc _ _=some [.pointer (some ⟨g1,0,none⟩)] from rfl) rfl) ?_;refine Zc (Ze Tryz.func129) (lU (bK t) (iZ t) 130 [.pointer (some ⟨g1,0,none⟩)] _ wL (uS t) (fun hr W g hb hw=>by unfold iZ;rw[if_pos hr];obtain⟨h1,h2,h3⟩:=jc hr;exact r5 t A A' _ g g1 c c' _ W h3 h1 ((hrep.below bel).more bel.size) hb (k1.step hb) hw)) ?_;rintro en w6 ⟨rfl,hb6⟩;refine⟨_,rfl,?_⟩;replace bel:=bel.step hb6;replace k1:=k1.step hb6;refine Zx ?_;refine Zx ?_;refine Za ?_;refine Za ?_;refine aS 0 1 2 3 (Zt (Cd.ret ?_));refine cG ?_;exact⟨rfl,bel⟩
inductive Rs (α:Type) where
 |out
 |bad (pos:Nat) (over:Bool)
 |ok (a:α) (pos:Nat)
def Rs.bind {α β:Type}(r:Rs α)(f:α→Nat→Rs β):Rs β:=match r with
 | .out=> .out
 | .bad p o=> .bad p o
 | .ok a p=>f a p
section
variable {α β:Type}
theorem Rs.eJ (a:α)(p:Nat)(f:α→Nat→Rs β):(Rs.ok a p).bind f=f a p:=rfl
theorem Rs.bind_assoc {γ:Type}(r:Rs α)(f:α→Nat→Rs β)(g:β→Nat→Rs γ):(r.bind f).bind g=r.bind fun a p=>(f a p).bind g:=by cases r<;>rfl
theorem Rs.dP {r:Rs α}{f:α→Nat→Rs β}(h:r.bind f≠ .out):r≠ .out:=fun e=>h (by rw[e];rfl)
theorem Rs.bZ {r:Rs α}(h:r≠ .out):(∃p o,r= .bad p o)∨∃a p,r= .ok a p:=by
 cases r with
 |out=>exact absurd rfl h
 |bad p o=>exact .inl ⟨p,o,rfl⟩
 |ok a p=>exact .inr ⟨a,p,rfl⟩
end
def ez (ws:List Wd)(p:Nat):Wd:=ws.getD p ⟨-1,[],0,0⟩
def uO (ws:List Wd)(p:Nat)(s:List Nat):Bool:=decide ((ez ws p).kind=0)&&decide ((ez ws p).text=s)
def dO (ws:List Wd)(s:List Nat)(p:Nat):Rs Unit:=if uO ws p s=true then .ok () (p+1) else .bad p false
def dX (p d:Nat):Rs Unit:=if 64<d+1 then .bad p true else .ok () p
def bV:Nat→List (List Nat)
 |0=>[[124]]
 |1=>[[38]]
 |2=>[[60],[60,61],[61],[33,61],[62,61],[62]]
 |3=>[[43],[45]]
 |4=>[[42],[47]]
 |_=>[]
def iy:Nat→List Int
 |0=>[18]
 |1=>[17]
 |2=>[11,12,13,14,15,16]
 |3=>[5,6]
 |4=>[7,8]
 |_=>[]
def opAt (ws:List Wd)(lvl p:Nat):Option Int:=if(ez ws p).kind≠0 then none else if(ez ws p).text∈bV lvl then(iy lvl)[(bV lvl).idxOf (ez ws p).text]? else none
def zj (op:Int)(a b:Ex):Ex:= .mk op 0 [] [a,b]
def Ak:List Nat:=[100,97,121]
def Ag:List Nat:=[109,105,110]
def zY:List Nat:=[109,97,120]
def BK:List Nat:=[105,102]
def wW:List Nat:=[122,101,114,111]
def An:List Nat:=[111,110,101]
def cn {α:Type}(ws:List Wd):List (Nat→Nat→Rs α)→Bool→Nat→Nat→Rs (List α)
 | [],_,p,_=> .ok [] p
 |one::r,first,p,d=>(if first=true then Rs.ok () p else dO ws [44] p).bind fun _ p=>(one p d).bind fun x p=>(cn ws r false p d).bind fun xs p=> .ok (x::xs) p
def bW {α:Type}(ws:List Wd)(bt:List (Nat→Nat→Rs α))(p d:Nat):Rs (List α):=(dO ws [40] p).bind fun _ p=>(dX p d).bind fun _ p=>(cn ws bt true p (d+1)).bind fun xs p=>(dO ws [41] p).bind fun _ p=> .ok xs p
def dn (ws:List Wd)(E0:Nat→Nat→Rs Ex)(op:Int)(k p d:Nat):Rs Ex:=(bW ws (List.replicate k E0) (p+1) d).bind fun xs p=> .ok (.mk op 0 [] xs) p
def eA (ws:List Wd)(p:Nat):Rs (List Nat):=if(ez ws p).kind=3∧dF (ez ws p).text=false then .ok (ez ws p).text (p+1) else .bad p false
def iC (ws:List Wd)(E0:Nat→Nat→Rs Ex)(p d:Nat):Rs Ex:=
 if(ez ws p).kind=1 then .ok (.mk 1 (ez ws p).n [] []) (p+1)
 else if(ez ws p).kind=2 then .ok (.mk 2 (ez ws p).n [] []) (p+1)
 else if(ez ws p).kind=3 then
  if(ez ws p).text=Ak then .ok (.mk 4 0 [] []) (p+1)
  else if(ez ws p).text=Ag then dn ws E0 9 2 p d
  else if(ez ws p).text=zY then dn ws E0 10 2 p d
  else if(ez ws p).text=BK then dn ws E0 21 3 p d
  else(eA ws p).bind fun nm p=> .ok (.mk 3 0 nm []) p
 else if(ez ws p).kind=0 then(bW ws [E0] p d).bind fun xs p=> .ok (xs.getD 0 (.mk 0 0 [] [])) p
 else .bad p false
def fa (S:Nat→Nat→Rs Ex)(op:Int)(p d:Nat):Rs Ex:=(dX p d).bind fun _ p=>(S (p+1) (d+1)).bind fun x p=> .ok (.mk op 0 [] [x]) p
def cN (ws:List Wd)(S:Nat→Nat→Rs Ex)(E0:Nat→Nat→Rs Ex)(p d:Nat):Rs Ex:=
 if uO ws p [33]=true then fa S 19 p d else if uO ws p [45]=true then fa S 20 p d else iC ws E0 p d
structure PF where
 E:Nat→Nat→Nat→Rs Ex
 L:Nat→Ex→Nat→Nat→Rs Ex
 S:Nat→Nat→Rs Ex
def qJ (L:Nat→Ex→Nat→Nat→Rs Ex)(S:Nat→Nat→Rs Ex):Nat→Nat→Nat→Rs Ex
 |0,p,d=>S p d
 |j+1,p,d=>(qJ L S j p d).bind fun x p=>L (4-j) x p d
def eB (ws:List Wd)(f:PF)(lvl:Nat)(left:Ex)(p d:Nat):Rs Ex:=match opAt ws lvl p with
 |none=> .ok left p
 |some op=>(f.E (lvl+1) (p+1) d).bind fun r p=>if lvl=2 then .ok (zj op left r) p else f.L lvl (zj op left r) p d
def Bd (ws:List Wd)(f:PF):PF where
 E:=fun lvl p d=>qJ (eB ws f) (cN ws f.S (f.E 0)) (5-lvl) p d
 L:=eB ws f
 S:=cN ws f.S (f.E 0)
def bp (ws:List Wd):Nat→PF
 |0=>⟨fun _ _ _=> .out,fun _ _ _ _=> .out,fun _ _=> .out⟩
 |n+1=>Bd ws (bp ws n)
theorem yq (ws:List Wd)(n lvl p d:Nat)(h:lvl<5):(bp ws (n+1)).E lvl p d=((bp ws (n+1)).E (lvl+1) p d).bind fun x p=>(bp ws (n+1)).L lvl x p d:=by
 show qJ (eB ws (bp ws n)) (cN ws (bp ws n).S ((bp ws n).E 0)) (5-lvl) p d=(qJ (eB ws (bp ws n)) (cN ws (bp ws n).S ((bp ws n).E 0)) (5-(lvl+1)) p d).bind _;have e:5-lvl=(5-(lvl+1))+1:=by omega
 have e2:4-(5-(lvl+1))=lvl:=by omega
 rw[e,qJ,e2];rfl
def dU (t:List Nat):Int × Nat × Nat:=
 if t=[103,105,118,101] then(3,0,1) else if t=[97,110,100] then(4,0,2) else if t=[111,114] then(5,0,2) else if t=[115,99,97,108,101] then(6,1,1)
 else if t=[119,104,101,110] then(7,1,1) else if t=[117,110,116,105,108] then(8,1,1) else if t=[97,110,121,116,105,109,101] then(9,1,1) else(0,0,0)
abbrev Part:=Ex ⊕ Tm
def Rs.map {α β:Type}(r:Rs α)(f:α→β):Rs β:=r.bind fun a p=> .ok (f a) p
def iv (E0:Nat→Nat→Rs Ex)(T:Nat→Nat→Rs Tm)(n m:Nat):List (Nat→Nat→Rs Part):=List.replicate n (fun p d=>(E0 p d).map .inl)++List.replicate m (fun p d=>(T p d).map .inr)
def dI (l:List Part):List Ex:=l.filterMap fun x=>match x with| .inl e=>some e| .inr _=>none
def cI (l:List Part):List Tm:=l.filterMap fun x=>match x with| .inl _=>none| .inr t=>some t
def fV (ws:List Wd)(E0:Nat→Nat→Rs Ex)(T:Nat→Nat→Rs Tm)(p d:Nat):Rs Tm:=
 if(ez ws p).kind≠3 then .bad p false
 else if(ez ws p).text=wW then .ok (.mk 1 [] [] []) (p+1)
 else if(ez ws p).text=An then(bW ws [fun p _=>eA ws p] (p+1) d).bind fun xs p=> .ok (.mk 2 (xs.getD 0 []) [] []) p
 else if(dU (ez ws p).text).1=0 then .bad p false
 else(bW ws (iv E0 T (dU (ez ws p).text).2.1 (dU (ez ws p).text).2.2) (p+1) d).bind fun xs q=> .ok (.mk (dU (ez ws p).text).1 [] (dI xs) (cI xs)) q
def lI (ws:List Wd):Nat→Nat→Nat→Rs Tm
 |0,_,_=> .out
 |n+1,p,d=>fV ws ((bp ws (n+1)).E 0) (lI ws n) p d
section
variable {P:Program} {ops:Array Oper} {Q:Exit→Act→World→Prop} {rest:List Oper} {o:Oper} {n d:Nat} {F F':List (Nat × Value)} {w w':World} {v:Value}
theorem Seq.bJ {I:Inhabited (List Deferred)}{f:FuncId}{args:Array Value}{R:Ending→World→Prop}(he:Enters P (dg F) o w f args)(hg:o.guard=none)(hc:Calls P f args w R)
  (h:∀e w',R e w'→∃ch,e= .panicked ch∧ab Q (.panic ch) n F w'):Seq P ops Q (o::rest) n F w:=by
 intro a ha;refine wpList_plain hg fun K hK=> ?_;unfold Oper.wp;rw[he a.eval ha.ev,Oper.upon_enter];refine hc.mono fun e w' hR=> ?_;obtain⟨ch,rfl,hp⟩:=h e w' hR;exact hp _ ha
theorem Seq.Ad {I:Inhabited (List Deferred)}{x:Operand}{u:Value}(ho:o.op= .panic x)(hx:dg F x=some v)(hg:o.guard=none)(hr:(Instr.panic v).run P w= .halt (.panic u) w)(h:ab Q (.panic [{v:=u,recovered:=false}]) n F w):Seq P ops Q (o::rest) n F w:=by
 intro a ha;refine wpList_plain hg fun K hK=> ?_;unfold Oper.wp
 have:(execOp a.eval o).run P w= .halt (.panic u) w:=by
  unfold execOp;simp only[ho];rw[ha.ev _ _ hx];simp only[Sem.run_bind,hr];rfl
 rw[this,Oper.upon_panic];exact h _ ha
end
structure Fz (h g:Nat)(w w':World):Prop where
 os:w'.os=w.os
 tape:w'.tape=w.tape
 output:w'.output=w.output
 size:w.heap.size≤w'.heap.size
 block:∀k,k<h→k≠g→w'.heap[k]? =w.heap[k]?
class PutAt (E:Prop) (h g g':Nat):Prop where
 ok:E→h≤g'∨g'=g
instance {h g g':Nat}:PutAt (h≤g') h g g':=⟨.inl⟩
instance {h g g':Nat}:PutAt (g'=g) h g g':=⟨.inr⟩
section
variable {h g:Nat} {w w' w'':World}
theorem Fz.refl (h g:Nat)(w:World):Fz h g w w:=⟨rfl,rfl,rfl,Nat.le_refl _,fun _ _ _=>rfl⟩
theorem Fz.trans (a:Fz h g w w')(b:Fz h g w' w''):Fz h g w w'':=⟨b.os.trans a.os,b.tape.trans a.tape,b.output.trans a.output,Nat.le_trans a.size b.size,fun k hk hne=>(b.block k hk hne).trans (a.block k hk hne)⟩
theorem Fz.less {h':Nat}(a:Fz h g w w')(hh:h'≤h):Fz h' g w w':=⟨a.os,a.tape,a.output,a.size,fun k hk=>a.block k (by omega)⟩
theorem Fz.of (hb:Below h w w'):Fz h g w w':=⟨hb.os,hb.tape,hb.output,hb.size,fun k hk _=>hb.block k hk⟩
theorem Fz.step (a:Fz h g w w')(hb:Below w'.heap.size w' w'')(hh:h≤w.heap.size:=by exact Nat.le_refl _):Fz h g w w'':=a.trans (Fz.of (hb.mono (Nat.le_trans hh a.size)))
theorem Fz.call (a:Fz h g w w')(b:Fz w'.heap.size g w' w'')(hh:h≤w.heap.size:=by exact Nat.le_refl _):Fz h g w w'':=a.trans (b.less (Nat.le_trans hh a.size))
theorem Fz.put {g':Nat}{T:TypeId}{cur cs:Array Value}{E:Prop}[at_:PutAt E h g g'](a:Fz h g w w')(_k:aE w' g' T cur)(p:gI w' w'' g' T cs)(e:E):Fz h g w w'':=
 a.trans ⟨p.grown.os,p.grown.tape,p.grown.output,p.grown.size,fun k hk hne=>by
  rcases Nat.lt_or_ge k w'.heap.size with hs|hs
  ·exact p.grown.block k hs (fun e'=>by injection e' with e';rcases at_.ok e with h1|h1<;>omega)
  ·have h1:w'.heap[k]? =none:=by simpa using hs
   have h2:w''.heap[k]? =none:=by have:=p.size;simp;omega
   rw[h1,h2]⟩
theorem Fz.below {B:Nat}(a:Fz h g w w')(h1:B≤h)(h2:B≤g):Below B w w':=⟨a.os,a.tape,a.output,a.size,fun k hk=>a.block k (by omega) (by omega)⟩
theorem aE.fz {k:Nat}{T:TypeId}{cs:Array Value}(b:aE w k T cs)(a:Fz w.heap.size g w w')(hne:k≠g:=by omega):aE w' k T cs:=by
 have h1:=a.block k b.lt hne;unfold aE at b⊢;rw[h1];exact b
end
structure Ctx where
 B:Nat
 g:Nat
 c:Nat
 en:Nat
 A:Option Addr
 ws:List Wd
structure Ctx.Ok (K:Ctx):Prop where
 le:K.B≤K.g
 len:K.ws.length≤4000
 en:K.en≤4000
 word:∀x∈K.ws,bu x.kind∧bu x.n∧(∀c∈x.text,c<256)∧x.text.length≤4000∧x.pos≤4000
def Ctx.at_ (K:Ctx)(p:Nat):Wd:=K.ws.getD p ⟨-1,[],0,K.en⟩
def AO (x:Wd):Value:= .agg #[.int .i64 x.kind, .string (strOf x.text), .int .i64 x.n, .int .i64 (x.pos:Int)]
theorem Ctx.ji (K:Ctx)(p:Nat):(K.at_ p).kind=(ez K.ws p).kind∧(K.at_ p).text=(ez K.ws p).text∧(K.at_ p).n=(ez K.ws p).n:=by
 unfold Ctx.at_ ez;rw[List.getD_eq_getElem?_getD,List.getD_eq_getElem?_getD]
 cases K.ws[p]? <;>exact⟨rfl,rfl,rfl⟩
theorem Ctx.Ok.at_ {K:Ctx}(h:K.Ok)(p:Nat):bu (K.at_ p).kind∧bu (K.at_ p).n∧(∀c∈(K.at_ p).text,c<256)∧(K.at_ p).text.length≤4000∧(K.at_ p).pos≤4000:=by
 unfold Ctx.at_;rw[List.getD_eq_getElem?_getD]
 cases hp:K.ws[p]? with
 |none=>exact⟨show bu (-1) by unfold bu;decide,show bu 0 by unfold bu;decide,by simp,by simp,h.en⟩
 |some x=>exact h.word x (List.mem_of_getElem? hp)
structure PW (K:Ctx)(w:World)(p d:Nat)(ov:Bool):Prop where
 an:aE w K.g 219 #[.slice K.A K.ws.length K.c, .int .i64 (p:Int), .int .i64 (d:Int), .bool ov, .int .i64 (K.en:Int)]
 rd:Reads w K.B 4 K.A K.ws.length (dQ K.ws)
 cj:p≤K.ws.length
 cD:d≤64∨(ov=true∧d≤65)
theorem PW.step {K:Ctx}{w w':World}{p d:Nat}{ov:Bool}(h:PW K w p d ov)(hk:K.B≤K.g)(hb:Below w.heap.size w w'):PW K w' p d ov:=⟨h.an.step hb,h.rd.below (hb.mono (by have:=h.an.lt;omega)),h.cj,h.cD⟩
def lr:List PanicEntry:=[{v:= .iface 261 (.agg #[]),recovered:=false}]
def qM {α:Type}(K:Ctx)(h:Nat)(w:World)(d:Nat)(r:Rs α)(okv:α→Value→World→Prop)(e:Ending)(w':World):Prop:=
 Fz h K.g w w'∧match r with
 | .out=>False
 | .bad p ov=>e= .panicked lr∧∃d,PW K w' p d ov
 | .ok a p=>∃v,e= .returned v∧PW K w' p d false∧okv a v w'
abbrev PR {α:Type}(K:Ctx)(w:World)(d:Nat)(r:Rs α)(okv:α→Value→World→Prop)(e:Ending)(w':World):Prop:=qM K w.heap.size w d r okv e w'
theorem aa.yS {P:Program}{E:Operand→Option Value}{o:Oper}{w:World}{x:Operand}{T:TypeId}{v u:Value}(ho:o.op= .makeInterface T x)(hx:E x=some v)(hr:(Instr.makeInterface T v).run P w= .ok u w):aa P E o w u w:=fun ρ h=>by
 unfold execOp;simp only[ho];rw[h _ _ hx];simp only[Sem.run_bind,hr,Result.andThen_ok];rfl
theorem mL (w:World):(Instr.build 261 #[]).run Tryz.prog w= .ok (.agg #[]) w:=by kernel_rfl
theorem gO (g:Nat)(w:World):Calls Tryz.prog 165 #[.pointer (some ⟨g,0,none⟩)] w fun e w'=>e= .panicked lr∧Grow w w':=by
 have bel:=Below.refl w.heap.size w;refine Zs 4 Tryz.func165 ?_;refine Zr ?_;refine Zv (aa.build rfl rfl (mL _)) ?_;refine Zv (aa.yS (u:= .iface 261 (.agg #[])) rfl rfl (by kernel_rfl)) ?_;refine Seq.Ad rfl rfl rfl (by rfl) ?_;exact fun a ha=>⟨ha.defers,rfl,bel⟩
theorem lT:∀(ws:List Wd) (p:Nat) (x:Wd),ws[p]? =some x→∀(q:Nat) (u:Value),([.int .i64 x.kind, .string (strOf x.text), .int .i64 x.n, .int .i64 (x.pos:Int)]:List Value)[q]? =some u→(dQ ws)[p*4+q]? =some u
 | [],p,x,h,_,_,_=>by simp at h
 |y::r,0,x,h,q,u,hu=>by
  simp at h;subst h;have hq:=(List.getElem?_eq_some_iff.1 hu).1;rw[Nat.zero_mul,Nat.zero_add];show(([.int .i64 y.kind, .string (strOf y.text), .int .i64 y.n, .int .i64 (y.pos:Int)]:List Value)++dQ r)[q]? =some u;rw[List.getElem?_append_left hq];exact hu
 |y::r,p+1,x,h,q,u,hu=>by
  have ih:=lT r p x (by simpa using h) q u hu;show(([.int .i64 y.kind, .string (strOf y.text), .int .i64 y.n, .int .i64 (y.pos:Int)]:List Value)++dQ r)[(p+1)*4+q]? =some u;rw[List.getElem?_append_right (by simp;omega),←ih];congr 1;simp;omega
theorem nB (a d:Int)(w:World):(Instr.build 221 #[(0, .int .i64 a),(3, .int .i64 d)]).run Tryz.prog w= .ok (.agg #[.int .i64 a, .string (strOf []), .int .i64 0, .int .i64 d]) w:=by
 have hu:=Tryz.underlying221
 go_simp
 rfl
theorem eR (K:Ctx)(hK:K.Ok)(p d:Nat)(ov:Bool)(w:World)(h:PW K w p d ov):Calls Tryz.prog 164 #[.pointer (some ⟨K.g,0,none⟩)] w fun e w'=>e= .returned (AO (K.at_ p))∧Grow w w':=by
 have bel:=Below.refl w.heap.size w;have k99:=h.an;have hrd:=h.rd;have hlt:=h.an.lt;have hBg:=hK.le;refine Zs 28 Tryz.func164 ?_;refine ah ?_;refine Zl aZ ?_;intro g2 w1 n2;have e2:=Nat.le_trans bel.size n2.ge;have l2:=Nat.lt_of_lt_of_le k99.lt n2.ge;replace bel:=bel.step n2.below;replace k99:=k99.step n2.below;have k2:=n2.an;refine cZ 0 2 (aH (Cd.seq ?_));refine gm 9 ?_;intro w2 hw2 zw2;replace bel:=bel.step hw2;replace k99:=k99.step hw2;replace k2:=k2.step hw2;have zbel:=bel.size;have zlt:=k2.lt;refine fN ?_;refine Zd (fun w hG=>aa.nilCheck rfl rfl) ?_;refine gw 1 Tryz.underlying219 ?_;refine fb Tryz.underlying3 k99 ?_;refine fN ?_;refine Zd (fun w hG=>aa.nilCheck rfl rfl) ?_;refine gw 0 Tryz.underlying219 ?_;refine fb Tryz.underlying215 k99 ?_;refine Zd (fun w hG=>aa.len rfl rfl Tryz.underlying215) ?_;refine Dr.nil ?_;refine bH.done (F':=[(0,_),(2,_),(6,_),(11,_)]) rfl ⟨rfl,rfl,rfl,rfl,trivial⟩ ?_;intro w3 hw3 fw3;replace bel:=bel.step hw3;replace k99:=k99.step hw3;replace k2:=k2.step hw3;refine eU ?_;refine bk 0 2 12 (Zt ?_);refine Cd.ao rfl (fun hc=> ?_) (fun hc=> ?_)
 ·obtain⟨ad,hA,hadb,hcell⟩:=hrd.2 (by omega)
  obtain⟨x,hx⟩:∃x,K.ws[p]? =some x:=⟨_,List.getElem?_eq_getElem (by omega)⟩;have hat:K.at_ p=x:=by unfold Ctx.at_;rw[List.getD_eq_getElem?_getD,hx];rfl
  have hce:∀W,Below w.heap.size w W→∀(q:Nat) (u:Value),([.int .i64 x.kind, .string (strOf x.text), .int .i64 x.n, .int .i64 (x.pos:Int)]:List Value)[q]? =some u→W.cell? ((ad.add (p*4)).add q)=some u:=fun W hb q u hu=>by
   rw[(hb.mono (show K.B≤w.heap.size by omega)).cell (by rw[ai,ai];exact hadb),dY];exact hcell _ _ (lT K.ws p x hx q u hu)
  rw[hA] at k99;refine Cd.seq ?_;refine gm 8 ?_;intro w4 hw4 zw4;replace bel:=bel.step hw4;replace k99:=k99.step hw4;replace k2:=k2.step hw4;have zbel:=bel.size;have zlt:=k2.lt;refine fN ?_;refine Zd (fun w hG=>aa.nilCheck rfl rfl) ?_;refine gw 0 Tryz.underlying219 ?_;refine fb Tryz.underlying215 k99 ?_;refine fN ?_;refine Zd (fun w hG=>aa.nilCheck rfl rfl) ?_;refine gw 1 Tryz.underlying219 ?_;refine fb Tryz.underlying3 k99 ?_;refine Dr.nil ?_;refine bH.done (F':=[(0,_),(2,_),(12,_),(16,_),(20,_)]) rfl ⟨rfl,rfl,rfl,rfl,rfl,trivial⟩ ?_;intro w5 hw5 fw5;replace bel:=bel.step hw5;replace k99:=k99.step hw5;replace k2:=k2.step hw5;refine Zv (aa.aU rfl rfl rfl Tryz.underlying215 (s:=4) (by kernel_rfl) (j:=p) rfl (by omega)) ?_;refine Zv (aa.b7 (ps:=[.int .i64 x.kind, .string (strOf x.text), .int .i64 x.n, .int .i64 (x.pos:Int)]) rfl rfl Tryz.underlying221 rfl (m:=4) (by kernel_rfl) rfl (hce _ bel)) ?_;refine Zo 4 k2 ?_;intro w6 pw6;replace bel:=bel.put k2 pw6 e2;replace k99:=k99.put pw6 (by omega);replace k2:=pw6.an;refine bk 0 2 12 (Zt (Cd.ret (ab.ae ?_)));refine iH 4 k2 Tryz.underlying221 ?_;rw[hat];exact⟨rfl,bel⟩
 ·have hat:K.at_ p=⟨-1,[],0,K.en⟩:=by
   unfold Ctx.at_;rw[List.getD_eq_getElem?_getD,List.getElem?_eq_none (by omega)];rfl
  refine Cd.skip (az ?_);refine Zm ?_;refine Zv (aa.nilCheck rfl rfl) ?_;refine Zf 4 Tryz.underlying219 ?_;refine ZL Tryz.underlying3 k99 ?_;refine Zv (aa.build rfl rfl (nB (-1) _ _)) ?_;refine Zo 4 k2 ?_;intro w4 pw4;replace bel:=bel.put k2 pw4 e2;replace k99:=k99.put pw4 (by omega);replace k2:=pw4.an;refine bk 0 2 12 (Zt (Cd.ret ?_));refine iH 4 k2 Tryz.underlying221 ?_;rw[hat];exact⟨rfl,bel⟩
theorem xB (K:Ctx)(hK:K.Ok)(p d:Nat)(ov:Bool)(k:Int)(s:List Nat)(w:World)(h:PW K w p d ov)(hs:∀x∈s,x<256):Calls Tryz.prog 221 #[.pointer (some ⟨K.g,0,none⟩), .int .i64 k, .string (strOf s)] w fun e w'=>e= .returned (.bool (decide ((ez K.ws p).kind=k)&&decide ((ez K.ws p).text=s)))∧Grow w w':=by
 have bel:=Below.refl w.heap.size w;obtain⟨a1,a2,a3,a4,a5⟩:=hK.at_ p;obtain⟨b1,b2,b3⟩:=K.ji p;rw[←b1,←b2];have hw:=fun W (hb:Below w.heap.size w W)=>eR K hK p d ov W (h.step hK.le hb);unfold AO at hw;refine Zs 20 Tryz.func221 ?_;refine ah ?_;refine Za ?_;refine aS 0 1 2 6 (az ?_);refine Zm ?_;refine Zc (Ze Tryz.func164) (hw _ bel) ?_;rintro e w5 ⟨rfl,hb5⟩;refine⟨_,rfl,?_⟩;replace bel:=bel.step hb5;refine Zl aZ ?_;intro g7 w1 n7;have e7:=Nat.le_trans bel.size n7.ge;replace bel:=bel.step n7.below;have k7:=n7.an;refine Zo 4 k7 ?_;intro w2 pw2;replace bel:=bel.put k7 pw2 e7;replace k7:=pw2.an;refine aL 0 1 2 6 7 (az ?_);refine Zf 0 Tryz.underlying221 ?_;refine ZL Tryz.underlying3 k7 ?_;refine Zm ?_;refine aX ?_;refine Zm ?_;refine ar.start ?_;refine bB (fun hcx=>aa.aj 1 rfl rfl Tryz.underlying221 rfl (by kernel_rfl)) ?_;refine Zn (fun hcx=>aa.ak rfl rfl Tryz.underlying9 rfl k7 rfl) ?_;refine jL ?_;refine Zn (fun hcx=>aa.ck rfl rfl rfl a3 hs) ?_;refine dL ?_;refine Za ?_;refine aL 0 1 2 6 7 (Zt (Cd.ret ?_));refine aP ?_;exact⟨rfl,bel⟩
theorem PW.next {K:Ctx}{w w':World}{p d:Nat}{ov:Bool}(h:PW K w p d ov)(hK:K.B≤K.g)(hp:p+1≤K.ws.length)(bel:Fz w.heap.size K.g w w')(hb:aE w' K.g 219 #[.slice K.A K.ws.length K.c, .int .i64 ((p:Int)+1), .int .i64 (d:Int), .bool ov, .int .i64 (K.en:Int)]):PW K w' (p+1) d ov:=
 ⟨by rw[Int.natCast_add];exact hb,h.rd.below (bel.below (by have:=h.an.lt;omega) hK),hp,h.cD⟩
theorem kT (K:Ctx)(hK:K.Ok)(p d:Nat)(s:List Nat)(w:World)(h:PW K w p d false)(hs:∀x∈s,x<256):Calls Tryz.prog 208 #[.pointer (some ⟨K.g,0,none⟩), .string (strOf s)] w (PR K w d (dO K.ws s p) fun _ _ _=>True):=by
 have bel:=Fz.refl w.heap.size K.g w;have k99:=h.an;have e99:K.g=K.g:=rfl;have hlt:=h.an.lt;have hlen:=hK.len;have hle:=h.cj;have hw:=xB K hK p d false 0 s w h hs;have hq:dO K.ws s p=if(decide ((ez K.ws p).kind=0)&&decide ((ez K.ws p).text=s))=true then .ok () (p+1) else .bad p false:=rfl;refine Zs 17 Tryz.func208 ?_;refine Cd.seq (ah ?_);refine Zm ?_;refine Zm ?_;refine Zc (Ze Tryz.func221) (hw) ?_;rintro e w5 ⟨rfl,hb5⟩;refine⟨_,rfl,?_⟩;replace bel:=bel.step hb5;replace k99:=k99.step hb5;refine gU ?_;refine bk 0 1 7 (Zt ?_);refine Cd.cond rfl (fun hc=> ?_) (fun hc=> ?_)
 ·have hc:¬(decide ((ez K.ws p).kind=0)&&decide ((ez K.ws p).text=s))=true:=by rw[Bool.not_eq_true];simpa only[Bool.not_eq_true'] using hc
  rw[if_neg hc] at hq;refine Zr ?_;refine Zm ?_;refine Seq.bJ (Ze Tryz.func165) rfl (gO K.g _) ?_;rintro e w6 ⟨rfl,hb6⟩;refine⟨_,rfl,fun a ha=>⟨ha.defers,?_⟩⟩;rw[hq];exact⟨bel.step hb6,rfl,d,⟨k99.step hb6,h.rd.below ((bel.step hb6).below (by have:=hK.le;omega) hK.le),h.cj,h.cD⟩⟩
 ·have hc:(decide ((ez K.ws p).kind=0)&&decide ((ez K.ws p).text=s))=true:=by simpa only[Bool.not_eq_false'] using hc
  rw[if_pos hc] at hq
  have hp:p+1≤K.ws.length:=by
   rcases Nat.lt_or_ge p K.ws.length with hp|hp
   ·exact hp
   ·simp only[Bool.and_eq_true,decide_eq_true_eq] at hc
    have h1:ez K.ws p=⟨-1,[],0,0⟩:=by unfold ez;rw[List.getD_eq_getElem?_getD,List.getElem?_eq_none hp];rfl
    rw[h1] at hc;exact absurd hc.1 (by decide)
  refine Cd.skip (et ?_);refine Zm ?_;refine Zv (aa.nilCheck rfl rfl) ?_;refine Zf 1 Tryz.underlying219 ?_;refine ZL Tryz.underlying3 k99 ?_;refine dq ?_;refine Zv (aa.nilCheck rfl rfl) ?_;refine Zf 1 Tryz.underlying219 ?_;refine Zq k99 ?_;intro w1 pw1;replace bel:=bel.put k99 pw1 e99;replace k99:=pw1.an;refine bk 0 1 7 ?_;refine ab.du rfl (.inr rfl) ?_;rw[hq];exact⟨bel,_,rfl,h.next hK.le hp bel k99,trivial⟩
theorem kR (K:Ctx)(hK:K.Ok)(p d:Nat)(w:World)(h:PW K w p d false):Calls Tryz.prog 209 #[.pointer (some ⟨K.g,0,none⟩)] w (PR K w (d+1) (dX p d) fun _ _ _=>True):=by
 have bel:=Fz.refl w.heap.size K.g w;have k99:=h.an;have e99:K.g=K.g:=rfl;have hlt:=h.an.lt;have hde:d≤64:=by rcases h.cD with h|⟨h,-⟩;exact h;cases h
 have hle:=hK.le;have hq:dX p d=if 64<d+1 then .bad p true else .ok () p:=rfl;refine Zs 19 Tryz.func209 ?_;refine ah ?_;refine Zm ?_;refine Zv (aa.nilCheck rfl rfl) ?_;refine Zf 2 Tryz.underlying219 ?_;refine ZL Tryz.underlying3 k99 ?_;refine dq ?_;refine Zv (aa.nilCheck rfl rfl) ?_;refine Zf 2 Tryz.underlying219 ?_;refine Zq k99 ?_;intro w1 pw1;replace bel:=bel.put k99 pw1 e99;replace k99:=pw1.an;refine Am 0 (az ?_);refine Zm ?_;refine Zv (aa.nilCheck rfl rfl) ?_;refine Zf 2 Tryz.underlying219 ?_;refine ZL Tryz.underlying3 k99 ?_;refine qK ?_;refine cZ 0 13 (Zt ?_);refine Cd.ao rfl (fun hc=> ?_) (fun hc=> ?_)
 ·rw[if_pos (by omega)] at hq
  refine ah ?_;refine Zm ?_;refine Zv (aa.nilCheck rfl rfl) ?_;refine Zf 3 Tryz.underlying219 ?_;refine Zq k99 ?_;intro w2 pw2;replace bel:=bel.put k99 pw2 e99;replace k99:=pw2.an;refine cZ 0 13 (et ?_);refine Zm ?_;refine Seq.bJ (Ze Tryz.func165) rfl (gO K.g _) ?_;rintro e w6 ⟨rfl,hb6⟩;refine⟨_,rfl,fun a ha=>⟨ha.defers,?_⟩⟩;rw[hq];exact⟨bel.step hb6,rfl,d+1,⟨by have:=k99.step hb6;rw[Int.natCast_add];exact this,h.rd.below ((bel.step hb6).below (by omega) hle),h.cj, .inr ⟨rfl,by omega⟩⟩⟩
 ·rw[if_neg (by omega)] at hq
  refine Cd.skip ?_;refine ab.du rfl (.inr rfl) ?_;rw[hq];exact⟨bel,_,rfl,⟨by rw[Int.natCast_add];exact k99,h.rd.below (bel.below (by omega) hle),h.cj, .inl (by omega)⟩,trivial⟩
def jU (L:List (List Nat))(s:List Nat):Int:=if s∈L then(L.idxOf s:Int) else -1
theorem sV (L:List (List Nat))(s:List Nat)(A:Option Addr)(c B:Nat)(w:World)(hr:Reads w B 1 A L.length (iK L))(hB:B≤w.heap.size)(hl:L.length≤1000)(hL:∀t∈L,∀x∈t,x<256)(hs:∀x∈s,x<256):
  Calls Tryz.prog 139 #[.slice A L.length c, .string (strOf s)] w fun e w'=>e= .returned (.int .i64 (jU L s))∧Grow w w':=by
 have bel:=Below.refl w.heap.size w;refine Zs 19 Tryz.func139 ?_;refine ah ?_;refine Za ?_;refine bk 0 1 4 (aH (ah ?_));refine Zm ?_;refine Zv (aa.len rfl rfl Tryz.underlying66) ?_;refine Zm ?_;refine aL 0 1 4 7 8 (Zt (Cd.block ?_));refine Cd.loop (σ:=Nat) (fun k=>[(0, .slice A L.length c),(1, .string (strOf s)),(7, .int .i64 (L.length:Int)),(8, .int .i64 (k:Int))]) (fun k wr=>k≤L.length∧Below w.heap.size w wr∧∀t∈L.take k,t≠s) (fun k=>L.length-k) 0 ⟨Nat.zero_le _,bel,by simp⟩ ⟨rfl,rfl,rfl,rfl,trivial⟩ ?_;clear bel;rintro k wr ⟨hk,bel,hno⟩;refine ah ?_;refine eU ?_;refine aL 0 1 7 8 9 (aH ?_);refine Cd.ao rfl (fun hc=> ?_) (fun hc=> ?_)
 ·obtain⟨t,ht⟩:∃t,L[k]? =some t:=⟨_,List.getElem?_eq_getElem (by omega)⟩
  have hr:=hr.below (bel.mono hB);obtain⟨ad,rfl,-,hc⟩:=hr.2 (by omega);have hc:=hc k (.string (strOf t)) (by simp[iK,ht]);have htk:L.take (k+1)=L.take k++[t]:=by rw[List.take_add_one,ht];rfl
  refine Cd.skip (aH (Cd.block (ah ?_)));refine Zm ?_;refine Za ?_;refine aV 0 1 5 7 8 9 (az ?_);refine Zm ?_;refine Zm ?_;refine Zm ?_;refine Zv (aa.gA rfl rfl rfl Tryz.underlying66 (by kernel_rfl) (j:=k) rfl (by omega)) ?_;refine Zv (aa.jN rfl rfl Tryz.underlying9 rfl hc) ?_;refine Zv (aa.ck rfl rfl rfl hs (hL t (List.mem_of_getElem? ht))) ?_;refine ba 0 1 5 7 8 9 16 (Zt ?_);refine Cd.ao rfl (fun hc=> ?_) (fun hc=> ?_)
  ·skip
   refine ah ?_;refine Zm ?_;refine Za ?_;refine bO 0 1 4 5 7 8 9 16 (Zt (Cd.ret (ab.af (ab.ae (ab.aJ (ab.af (ab.ae ?_)))))));refine aP ?_
   have hi:L.idxOf s=k:=by
    have hlt:=(List.getElem?_eq_some_iff.1 ht).1
    have h1:L=L.take k++t::L.drop (k+1):=by
     rw[List.getElem?_eq_getElem hlt] at ht;injection ht with ht
     rw[←ht,List.getElem_cons_drop,List.take_append_drop]
    rw[h1,List.idxOf_append,if_neg (fun hm=>hno s hm rfl),hc,List.idxOf_cons_self,List.length_take];omega
   unfold jU;rw[if_pos (by rw[hc];exact List.mem_of_getElem? ht),hi];exact⟨rfl,bel⟩
  ·skip
   refine Cd.skip (ab.ag (et ?_));refine dq ?_;refine Zm ?_;refine ba 0 1 5 7 8 9 16 ?_;refine ab.round (k+1) ⟨rfl,rfl,rfl,rfl,trivial⟩ ⟨by omega,bel,fun u hu=> ?_⟩ (by omega);rw[htk] at hu;rcases List.mem_append.1 hu with hu|hu
   ·exact hno u hu
   ·obtain rfl:=List.mem_singleton.1 hu
    exact fun e=>hc e.symm
 ·obtain rfl:k=L.length:=by omega
  rw[List.take_of_length_le (Nat.le_refl _)] at hno;refine Cd.exit (ab.aD (ab.ay (ab.aA (az ?_))));refine Za ?_;refine aV 0 1 4 7 8 9 (Zt (Cd.ret ?_));refine aP ?_;unfold jU;rw[if_neg fun hm=>hno s hm rfl];exact⟨rfl,bel⟩
structure Cg (w:World)(g lvl ga gb c d:Nat)(cs:Array Value):Prop where
 BU:aE w g 248 cs
 s0:cs[lvl*3]? =some (.slice (some ⟨ga,0,none⟩) (bV lvl).length c)
 s1:cs[lvl*3+1]? =some (.slice (some ⟨gb,0,none⟩) (iy lvl).length d)
 s2:cs[lvl*3+2]? =some (.bool (decide (lvl=2)))
 sg:aE w ga 9 (iK (bV lvl)).toArray
 op:aE w gb 3 (DI (iy lvl)).toArray
theorem kZ:br Tryz.prog 248=some (some (.agg #[.slice none 0 0, .slice none 0 0, .bool false])):=by kernel_rfl
theorem da (a b:Addr)(n c m d:Nat)(x:Bool)(w:World):(Instr.build 248 #[(0, .slice (some a) n c),(1, .slice (some b) m d),(2, .bool x)]).run Tryz.prog w= .ok (.agg #[.slice (some a) n c, .slice (some b) m d, .bool x]) w:=by
 have hu:=Tryz.underlying248
 go_simp
theorem mR (w:World):Calls Tryz.prog 195 #[] w fun e w'=>∃g,e= .returned (.slice (some ⟨g,0,none⟩) 5 5)∧Grow w w'∧∀lvl,lvl<5→∃ga gb c d cs,Cg w' g lvl ga gb c d cs:=by
 have bel:=Below.refl w.heap.size w;refine Zs 17 Tryz.func195 ?_;refine ah ?_;refine Za ?_;refine Am 0 (az ?_);refine Seq.slice (vs:=[_]) (s:=1) rfl rfl rfl Tryz.underlying66 (by kernel_rfl) (cd) (by omega) (by omega) ⟨rfl,trivial⟩ rfl rfl rfl ?_;intro g1 w1 n1;have e1:=Nat.le_trans bel.size n1.ge;replace bel:=bel.step n1.below;have k1:=n1.an;refine Seq.slice (vs:=[_]) (s:=1) rfl rfl rfl Tryz.underlying96 (by kernel_rfl) (eu) (by omega) (by omega) ⟨rfl,trivial⟩ rfl rfl rfl ?_;intro g2 w2 n2;have e2:=Nat.le_trans bel.size n2.ge;have l2:=Nat.lt_of_lt_of_le k1.lt n2.ge;replace bel:=bel.step n2.below;replace k1:=k1.step n2.below;have k2:=n2.an;refine Zv (aa.build rfl rfl (da _ _ _ _ _ _ _ _)) ?_;refine Seq.slice (vs:=[_]) (s:=1) rfl rfl rfl Tryz.underlying66 (by kernel_rfl) (cd) (by omega) (by omega) ⟨rfl,trivial⟩ rfl rfl rfl ?_;intro g4 w3 n4;have e4:=Nat.le_trans bel.size n4.ge;have l4:=Nat.lt_of_lt_of_le k2.lt n4.ge;replace bel:=bel.step n4.below;replace k1:=k1.step n4.below;replace k2:=k2.step n4.below;have k4:=n4.an;refine Seq.slice (vs:=[_]) (s:=1) rfl rfl rfl Tryz.underlying96 (by kernel_rfl) (eu) (by omega) (by omega) ⟨rfl,trivial⟩ rfl rfl rfl ?_;intro g5 w4 n5;have e5:=Nat.le_trans bel.size n5.ge;have l5:=Nat.lt_of_lt_of_le k4.lt n5.ge;replace bel:=bel.step n5.below;replace k1:=k1.step n5.below;replace k2:=k2.step n5.below;replace k4:=k4.step n5.below;have k5:=n5.an;refine Zv (aa.build rfl rfl (da _ _ _ _ _ _ _ _)) ?_;refine Seq.slice (vs:=[_,_,_,_,_,_]) (s:=1) rfl rfl rfl Tryz.underlying66 (by kernel_rfl) (cd) (by omega) (by omega) ⟨rfl,rfl,rfl,rfl,rfl,rfl,trivial⟩ rfl rfl rfl ?_;intro g7 w5 n7;have e7:=Nat.le_trans bel.size n7.ge;have l7:=Nat.lt_of_lt_of_le k5.lt n7.ge;replace bel:=bel.step n7.below;replace k1:=k1.step n7.below;replace k2:=k2.step n7.below;replace k4:=k4.step n7.below;replace k5:=k5.step n7.below;have k7:=n7.an;refine Seq.slice (vs:=[_,_,_,_,_,_]) (s:=1) rfl rfl rfl Tryz.underlying96 (by kernel_rfl) (eu) (by omega) (by omega) ⟨rfl,rfl,rfl,rfl,rfl,rfl,trivial⟩ rfl rfl rfl ?_;intro g8 w6 n8;have e8:=Nat.le_trans bel.size n8.ge;have l8:=Nat.lt_of_lt_of_le k7.lt n8.ge;replace bel:=bel.step n8.below;replace k1:=k1.step n8.below;replace k2:=k2.step n8.below;replace k4:=k4.step n8.below;replace k5:=k5.step n8.below;replace k7:=k7.step n8.below;have k8:=n8.an;refine Zv (aa.build rfl rfl (da _ _ _ _ _ _ _ _)) ?_;refine Seq.slice (vs:=[_,_]) (s:=1) rfl rfl rfl Tryz.underlying66 (by kernel_rfl) (cd) (by omega) (by omega) ⟨rfl,rfl,trivial⟩ rfl rfl rfl ?_;intro g10 w7 n10;have e10:=Nat.le_trans bel.size n10.ge;have l10:=Nat.lt_of_lt_of_le k8.lt n10.ge;replace bel:=bel.step n10.below;replace k1:=k1.step n10.below;replace k2:=k2.step n10.below;replace k4:=k4.step n10.below;replace k5:=k5.step n10.below;replace k7:=k7.step n10.below;replace k8:=k8.step n10.below;have k10:=n10.an;refine Seq.slice (vs:=[_,_]) (s:=1) rfl rfl rfl Tryz.underlying96 (by kernel_rfl) (eu) (by omega) (by omega) ⟨rfl,rfl,trivial⟩ rfl rfl rfl ?_;intro g11 w8 n11;have e11:=Nat.le_trans bel.size n11.ge;have l11:=Nat.lt_of_lt_of_le k10.lt n11.ge;replace bel:=bel.step n11.below;replace k1:=k1.step n11.below;replace k2:=k2.step n11.below;replace k4:=k4.step n11.below;replace k5:=k5.step n11.below;replace k7:=k7.step n11.below;replace k8:=k8.step n11.below;replace k10:=k10.step n11.below;have k11:=n11.an;refine Zv (aa.build rfl rfl (da _ _ _ _ _ _ _ _)) ?_;refine Seq.slice (vs:=[_,_]) (s:=1) rfl rfl rfl Tryz.underlying66 (by kernel_rfl) (cd) (by omega) (by omega) ⟨rfl,rfl,trivial⟩ rfl rfl rfl ?_;intro g13 w9 n13;have e13:=Nat.le_trans bel.size n13.ge;have l13:=Nat.lt_of_lt_of_le k11.lt n13.ge;replace bel:=bel.step n13.below;replace k1:=k1.step n13.below;replace k2:=k2.step n13.below;replace k4:=k4.step n13.below;replace k5:=k5.step n13.below;replace k7:=k7.step n13.below;replace k8:=k8.step n13.below;replace k10:=k10.step n13.below;replace k11:=k11.step n13.below;have k13:=n13.an;refine Seq.slice (vs:=[_,_]) (s:=1) rfl rfl rfl Tryz.underlying96 (by kernel_rfl) (eu) (by omega) (by omega) ⟨rfl,rfl,trivial⟩ rfl rfl rfl ?_;intro g14 w10 n14;have e14:=Nat.le_trans bel.size n14.ge;have l14:=Nat.lt_of_lt_of_le k13.lt n14.ge;replace bel:=bel.step n14.below;replace k1:=k1.step n14.below;replace k2:=k2.step n14.below;replace k4:=k4.step n14.below;replace k5:=k5.step n14.below;replace k7:=k7.step n14.below;replace k8:=k8.step n14.below;replace k10:=k10.step n14.below;replace k11:=k11.step n14.below;replace k13:=k13.step n14.below;have k14:=n14.an;refine Zv (aa.build rfl rfl (da _ _ _ _ _ _ _ _)) ?_;refine Seq.slice (vs:=[_,_,_,_,_]) (s:=3) rfl rfl rfl Tryz.underlying244 (by kernel_rfl) (kZ) (by omega) (by omega) ⟨rfl,rfl,rfl,rfl,rfl,trivial⟩ rfl rfl rfl ?_;intro g16 w11 n16;have e16:=Nat.le_trans bel.size n16.ge;have l16:=Nat.lt_of_lt_of_le k14.lt n16.ge;replace bel:=bel.step n16.below;replace k1:=k1.step n16.below;replace k2:=k2.step n16.below;replace k4:=k4.step n16.below;replace k5:=k5.step n16.below;replace k7:=k7.step n16.below;replace k8:=k8.step n16.below;replace k10:=k10.step n16.below;replace k11:=k11.step n16.below;replace k13:=k13.step n16.below;replace k14:=k14.step n16.below;have k16:=n16.an;refine Za ?_;refine Am 0 (Zt (Cd.ret ?_));refine aP ?_;refine⟨_,rfl,bel,fun lvl hlvl=> ?_⟩
 match lvl,hlvl with
 |0,_=>exact⟨_,_,_,_,_,k16,rfl,rfl,rfl,k1,k2⟩
 |1,_=>exact⟨_,_,_,_,_,k16,rfl,rfl,rfl,k4,k5⟩
 |2,_=>exact⟨_,_,_,_,_,k16,rfl,rfl,rfl,k7,k8⟩
 |3,_=>exact⟨_,_,_,_,_,k16,rfl,rfl,rfl,k10,k11⟩
 |4,_=>exact⟨_,_,_,_,_,k16,rfl,rfl,rfl,k13,k14⟩
theorem vj (t:List Nat)(w:World)(ht:∀x∈t,x<256):Calls Tryz.prog 169 #[.string (strOf t)] w fun e w'=>e= .returned (.tuple #[.int .i64 (dU t).1, .int .i64 ((dU t).2.1:Int), .int .i64 ((dU t).2.2:Int)])∧Grow w w':=by
 have bel:=Below.refl w.heap.size w;unfold dU;refine Zs 20 Tryz.func169 ?_;refine ah ?_;refine Za ?_;refine Za ?_;refine Za ?_;refine aS 0 2 3 4 (aH (ah ?_));refine Zm ?_;refine aL 0 2 3 4 5 (Zt (Cd.block (ah ?_)));refine Zv (aa.ck (b:=[103,105,118,101]) rfl rfl rfl ht (by decide)) ?_;refine Za ?_;refine aV 0 2 3 4 5 6 (Zt ?_);refine Cd.ao rfl (fun hc=> ?_) (fun h0=> ?_)
 ·rw[if_pos hc]
  refine ah ?_;refine Za ?_;refine Za ?_;refine Za ?_;refine aV 0 2 3 4 5 6 (Zt (Cd.ret (ab.af (ab.ae ?_))));refine ab.kE rfl rfl rfl rfl (.inl rfl) ?_;exact⟨rfl,bel⟩
 refine ah ?_;refine Zv (aa.ck (b:=[97,110,100]) rfl rfl rfl ht (by decide)) ?_;refine Za ?_;refine ba 0 2 3 4 5 6 8 (Zt ?_);refine Cd.ao rfl (fun hc=> ?_) (fun h1=> ?_)
 ·rw[if_neg h0,if_pos hc]
  refine ah ?_;refine Za ?_;refine Za ?_;refine Za ?_;refine ba 0 2 3 4 5 6 8 (Zt (Cd.ret (ab.af (ab.ae ?_))));refine ab.kE rfl rfl rfl rfl (.inl rfl) ?_;exact⟨rfl,bel⟩
 refine ah ?_;refine Zv (aa.ck (b:=[111,114]) rfl rfl rfl ht (by decide)) ?_;refine Za ?_;refine bO 0 2 3 4 5 6 8 10 (Zt ?_);refine Cd.ao rfl (fun hc=> ?_) (fun h2=> ?_)
 ·rw[if_neg h0,if_neg h1,if_pos hc]
  refine ah ?_;refine Za ?_;refine Za ?_;refine Za ?_;refine bO 0 2 3 4 5 6 8 10 (Zt (Cd.ret (ab.af (ab.ae ?_))));refine ab.kE rfl rfl rfl rfl (.inl rfl) ?_;exact⟨rfl,bel⟩
 refine ah ?_;refine Zv (aa.ck (b:=[115,99,97,108,101]) rfl rfl rfl ht (by decide)) ?_;refine Za ?_;refine cw 0 2 3 4 5 6 8 10 12 (Zt ?_);refine Cd.ao rfl (fun hc=> ?_) (fun h3=> ?_)
 ·rw[if_neg h0,if_neg h1,if_neg h2,if_pos hc]
  refine ah ?_;refine Za ?_;refine Za ?_;refine Za ?_;refine cw 0 2 3 4 5 6 8 10 12 (Zt (Cd.ret (ab.af (ab.ae ?_))));refine ab.kE rfl rfl rfl rfl (.inl rfl) ?_;exact⟨rfl,bel⟩
 refine ah ?_;refine Zv (aa.ck (b:=[119,104,101,110]) rfl rfl rfl ht (by decide)) ?_;refine Za ?_;refine dr 0 2 3 4 5 6 8 10 12 14 (Zt ?_);refine Cd.ao rfl (fun hc=> ?_) (fun h4=> ?_)
 ·rw[if_neg h0,if_neg h1,if_neg h2,if_neg h3,if_pos hc]
  refine ah ?_;refine Za ?_;refine Za ?_;refine Za ?_;refine dr 0 2 3 4 5 6 8 10 12 14 (Zt (Cd.ret (ab.af (ab.ae ?_))));refine ab.kE rfl rfl rfl rfl (.inl rfl) ?_;exact⟨rfl,bel⟩
 refine ah ?_;refine Zv (aa.ck (b:=[117,110,116,105,108]) rfl rfl rfl ht (by decide)) ?_;refine Za ?_;refine ct 0 2 3 4 5 6 8 10 12 14 16 (Zt ?_);refine Cd.ao rfl (fun hc=> ?_) (fun h5=> ?_)
 ·rw[if_neg h0,if_neg h1,if_neg h2,if_neg h3,if_neg h4,if_pos hc]
  refine ah ?_;refine Za ?_;refine Za ?_;refine Za ?_;refine ct 0 2 3 4 5 6 8 10 12 14 16 (Zt (Cd.ret (ab.af (ab.ae ?_))));refine ab.kE rfl rfl rfl rfl (.inl rfl) ?_;exact⟨rfl,bel⟩
 refine ah ?_;refine Zv (aa.ck (b:=[97,110,121,116,105,109,101]) rfl rfl rfl ht (by decide)) ?_;refine Za ?_;refine eZ 0 2 3 4 5 6 8 10 12 14 16 18 (Zt ?_);refine Cd.ao rfl (fun hc=> ?_) (fun h6=> ?_)
 ·rw[if_neg h0,if_neg h1,if_neg h2,if_neg h3,if_neg h4,if_neg h5,if_pos hc]
  refine ah ?_;refine Za ?_;refine Za ?_;refine Za ?_;refine eZ 0 2 3 4 5 6 8 10 12 14 16 18 (Zt (Cd.ret (ab.af (ab.ae ?_))));refine ab.kE rfl rfl rfl rfl (.inl rfl) ?_;exact⟨rfl,bel⟩
 refine Cd.skip (ab.ag (az ?_));refine Za ?_;refine Za ?_;refine Za ?_;refine eZ 0 2 3 4 5 6 8 10 12 14 16 18 (Zt (Cd.ret ?_));refine ab.kE rfl rfl rfl rfl (.inl rfl) ?_;rw[if_neg h0,if_neg h1,if_neg h2,if_neg h3,if_neg h4,if_neg h5,if_neg h6];exact⟨rfl,bel⟩
theorem rJ (K:Ctx)(hK:K.Ok)(p d:Nat)(w:World)(h:PW K w p d false):Calls Tryz.prog 168 #[.pointer (some ⟨K.g,0,none⟩)] w (PR K w d (eA K.ws p) fun nm v _=>v= .string (strOf nm)):=by
 have bel:=Fz.refl w.heap.size K.g w;have k99:=h.an;have e99:K.g=K.g:=rfl;have hlt:=h.an.lt;have hlen:=hK.len;have hle:=h.cj;obtain⟨a1,a2,a3,a4,a5⟩:=hK.at_ p;obtain⟨b1,b2,b3⟩:=K.ji p;have hw:=fun W (hb:Below w.heap.size w W)=>eR K hK p d false W (h.step hK.le hb);unfold AO at hw;have hres:=fun W=>kI (K.at_ p).text W a3;have hq:eA K.ws p=if(K.at_ p).kind=3∧dF (K.at_ p).text=false then .ok (K.at_ p).text (p+1) else .bad p false:=by rw[b1,b2];rfl
 refine Zs 25 Tryz.func168 ?_;refine ah ?_;refine Za ?_;refine cZ 0 2 (az ?_);refine Zm ?_;refine Zc (Ze Tryz.func164) (hw _ (Below.refl _ _)) ?_;rintro e w5 ⟨rfl,hb5⟩;refine⟨_,rfl,?_⟩;replace bel:=bel.step hb5;replace k99:=k99.step hb5;refine Zl aZ ?_;intro g3 w1 n3;have e3:=Nat.le_trans bel.size n3.ge;have l3:=Nat.lt_of_lt_of_le k99.lt n3.ge;replace bel:=bel.step n3.below;replace k99:=k99.step n3.below;have k3:=n3.an;refine Zo 4 k3 ?_;intro w2 pw2;replace bel:=bel.put k3 pw2 e3;replace k99:=k99.put pw2 (by omega);replace k3:=pw2.an;refine bk 0 2 3 (aH (ah ?_));refine Zf 0 Tryz.underlying221 ?_;refine ZL Tryz.underlying3 k3 ?_;refine jq ?_;refine Zm ?_;refine ar.start ?_;refine bB (fun hcx=>aa.aj 1 rfl rfl Tryz.underlying221 rfl (by kernel_rfl)) ?_;refine Zn (fun hcx=>aa.ak rfl rfl Tryz.underlying9 rfl k3 rfl) ?_;refine ar.aW rfl rfl rfl rfl rfl rfl rfl (fun hcx=>Ze Tryz.func210) (fun hcx=>hres _) ?_;intro w3 hw3;replace bel:=bel.step hw3;replace k99:=k99.step hw3;replace k3:=k3.step hw3;refine fh ?_;refine aS 0 2 3 13 (Zt ?_);refine Cd.cond rfl (fun hc=> ?_) (fun hc=> ?_)
 ·have hc:¬((K.at_ p).kind=3∧dF (K.at_ p).text=false):=by
   rintro⟨c1,c2⟩;simp[c1,c2] at hc
  rw[if_neg hc] at hq;refine Zr ?_;refine Zm ?_;refine Seq.bJ (Ze Tryz.func165) rfl (gO K.g _) ?_;rintro e w6 ⟨rfl,hb6⟩;refine⟨_,rfl,fun a ha=>⟨ha.defers,?_⟩⟩;rw[hq];exact⟨bel.step hb6,rfl,d,⟨k99.step hb6,h.rd.below ((bel.step hb6).below (by have:=hK.le;omega) hK.le),h.cj,h.cD⟩⟩
 ·have hc:(K.at_ p).kind=3∧dF (K.at_ p).text=false:=by
   simpa using hc
  rw[if_pos hc] at hq
  have hp:p+1≤K.ws.length:=by
   rcases Nat.lt_or_ge p K.ws.length with hp|hp
   ·exact hp
   ·have h1:(K.at_ p).kind= -1:=by unfold Ctx.at_;rw[List.getD_eq_getElem?_getD,List.getElem?_eq_none hp];rfl
    rw[h1] at hc;exact absurd hc.1 (by decide)
  refine Cd.skip (az ?_);refine Zm ?_;refine Zv (aa.nilCheck rfl rfl) ?_;refine Zf 1 Tryz.underlying219 ?_;refine ZL Tryz.underlying3 k99 ?_;refine dq ?_;refine Zv (aa.nilCheck rfl rfl) ?_;refine Zf 1 Tryz.underlying219 ?_;refine Zq k99 ?_;intro w4 pw4;replace bel:=bel.put k99 pw4 e99;replace k3:=k3.put pw4 (by omega);replace k99:=pw4.an;refine aS 0 2 3 13 (az ?_);refine Zf 1 Tryz.underlying221 ?_;refine ZL Tryz.underlying9 k3 ?_;refine Za ?_;refine aS 0 2 3 13 (Zt (Cd.ret ?_));refine aP ?_;rw[hq];exact⟨bel,_,rfl,h.next hK.le hp bel k99,rfl⟩
end Go.Proofs.YtigoimhndlnhfaaGreat