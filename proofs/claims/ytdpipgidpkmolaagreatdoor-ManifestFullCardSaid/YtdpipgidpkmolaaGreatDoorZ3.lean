/-
  Texts that were joined: WcB, WcC, NfA, EditE, EditF, NfB, NfC, NhA, WeC, WdA, WdB, WeD, WgA, WgB, WgC, NfD, WfA, NhB, SrtP, SrtA, SrtC, SrtD, SrtE, SrtF, SrtI, SrtG. Conditions: what each theorem names.
-/
import Derived.Test.YtdpipgidpkmolaaGreatDoorZ2
set_option linter.unusedSectionVars false
namespace Go.Proofs.YtdpipgidpkmolaaGreatDoor
open Go.RowKit
structure Dk.calm (D:Dk):Prop where
 off:D.off=false
 armed:D.armed=false
theorem tick_calm {D:Dk}(h:D.calm):D.tick=D:=by unfold Dk.tick;rw[if_neg (by simp[h.off]),if_neg (by simp[h.armed])]
theorem beginE_calm {D:Dk}(h:D.calm){ns:List (List Nat)}(hn:∀s∈ns,nameOk s=true):D.beginE ns=0:=by
 unfold Dk.beginE
 rw[tick_calm h,h.off,if_neg (by simp),if_pos (List.all_eq_true.2 hn)]
theorem thereE_calm {D:Dk}(h:D.calm){ns:List (List Nat)}(hn:∀s∈ns,nameOk s=true)(x:List Nat):D.thereE ns x=if(D.get x).isSome then 0 else 7:=by
 unfold Dk.thereE
 rw[beginE_calm h hn,if_neg (by simp)]
theorem mem_names {D:Dk}{x:List Nat}:x∈D.files.map (·.1)↔(D.get x).isSome=true:=by
 unfold Dk.get
 rw[Option.isSome_map,List.find?_isSome]
 constructor
 ·intro h
  obtain⟨p,hp,rfl⟩:=List.mem_map.1 h
  exact⟨p,hp,by simp⟩
 ·rintro⟨p,hp,e⟩
  exact List.mem_map.2 ⟨p,hp,by simpa using e⟩
theorem map_get (fs:List (List Nat × Fil))(a:List Nat)(f:Fil)(x:List Nat):((fs.map fun p=>if p.1=a then(p.1,f) else p).find? (fun p=>decide (p.1=x))).map (·.2)=if x=a then((fs.find? fun p=>decide (p.1=x)).map fun _=>f) else(fs.find? fun p=>decide (p.1=x)).map (·.2):=by
 have hq:((fun p:List Nat × Fil=>decide (p.1=x))∘fun p:List Nat × Fil=>if p.1=a then(p.1,f) else p)=fun p=>decide (p.1=x):=by
  funext p
  simp only[Function.comp]
  split<;>rfl
 rw[List.find?_map,hq]
 cases e:fs.find? (fun p=>decide (p.1=x)) with
 |none=>simp
 |some p=>
  have h1:=List.find?_some e
  simp only[decide_eq_true_eq] at h1
  subst h1
  by_cases h2:p.1=a<;>simp[h2]
theorem putL_get (fs:List (List Nat × Fil))(a:List Nat)(f:Fil)(x:List Nat):((putL fs a f).find? (fun p=>decide (p.1=x))).map (·.2)=if x=a then some f else(fs.find? fun p=>decide (p.1=x)).map (·.2):=by
 unfold putL
 split
 ·rename_i h
  rw[map_get]
  split
  ·rename_i e
   subst e
   cases e2:fs.find? (fun p=>decide (p.1=x)) with
   |none=>rw[e2] at h;cases h
   |some p=>rfl
  ·rfl
 ·rename_i h
  rw[List.find?_append]
  split
  ·rename_i e
   subst e
   have:fs.find? (fun p=>decide (p.1=x))=none:=by
    cases e2:fs.find? (fun p=>decide (p.1=x)) with
    |none=>rfl
    |some p=>rw[e2] at h;exact absurd rfl h
   rw[this]
   simp
  ·rename_i e
   have h1: [(a,f)].find? (fun p=>decide (p.1=x))=none:=by
    rw[List.find?_cons_of_neg (by simpa using fun e2=>e e2.symm)]
    rfl
   rw[h1,Option.or_none]
theorem get_append {D:Dk}{a s:List Nat}(h:D.appendE a s=0)(x:List Nat):(D.append a s).get x=if x=a then some ⟨(D.fileOf a).data++s,(D.fileOf a).safe⟩ else D.get x:=by
 have:D.append a s= {D.tick with files:=putL D.files a ⟨(D.fileOf a).data++s,(D.fileOf a).safe⟩}:=by unfold Dk.append;rw[if_pos h]
 rw[this]
 exact putL_get _ _ _ _
theorem append_room (D:Dk)(a s:List Nat):(D.append a s).room=D.room:=by unfold Dk.append;split<;>exact tick_room D
theorem append_calm {D:Dk}{a s:List Nat}(h:D.calm):(D.append a s).calm:=by
 unfold Dk.append
 split
 ·exact⟨by show D.tick.off=_;rw[tick_calm h];exact h.off,by show D.tick.armed=_;rw[tick_calm h];exact h.armed⟩
 ·rw[tick_calm h];exact h
theorem append_len (D:Dk)(a s:List Nat):(D.append a s).files.length≤D.files.length+1:=by
 unfold Dk.append
 split
 ·show(putL _ _ _).length≤_
  rw[putL_len]
  split<;>omega
 ·rw[tick_files];omega
theorem get_sync {D:Dk}(hc:D.calm){a:List Nat}{f:Fil}(ha:nameOk a=true)(hf:D.get a=some f)(x:List Nat):(D.sync a).get x=if x=a then some {f with safe:=f.data.length} else D.get x:=by
 have h0:D.thereE [a] a=0:=by rw[thereE_calm hc (by simpa using ha),hf];rfl
 have:D.sync a=D.set a {f with safe:=f.data.length}:=by unfold Dk.sync;rw[if_pos h0,hf,tick_calm hc]
 rw[this]
 show((D.files.map _).find? _).map _=_
 rw[map_get]
 split
 ·rename_i e
  subst e
  unfold Dk.get at hf
  cases e2:D.files.find? (fun p=>decide (p.1=x)) with
  |none=>rw[e2] at hf;cases hf
  |some p=>rfl
 ·rfl
theorem sync_len (D:Dk)(a:List Nat):(D.sync a).files.length=D.files.length:=by
 unfold Dk.sync
 split
 ·split
  ·unfold Dk.set;simp[tick_files]
  ·rw[tick_files]
 ·rw[tick_files]
theorem sync_room (D:Dk)(a:List Nat):(D.sync a).room=D.room:=by
 unfold Dk.sync
 split
 ·split
  ·exact tick_room D
  ·exact tick_room D
 ·exact tick_room D
theorem sync_calm {D:Dk}{a:List Nat}(h:D.calm):(D.sync a).calm:=by
 unfold Dk.sync
 split
 ·split
  ·exact⟨by show D.tick.off=_;rw[tick_calm h];exact h.off,by show D.tick.armed=_;rw[tick_calm h];exact h.armed⟩
  ·rw[tick_calm h];exact h
 ·rw[tick_calm h];exact h
theorem sync_used {D:Dk}{a:List Nat}(hn:(D.files.map (·.1)).Nodup):(D.sync a).used=D.used:=by
 unfold Dk.sync
 split
 ·split
  ·rename_i f hf
   unfold Dk.set Dk.used
   show((usedL (D.tick.files.map _):Nat):Int)=_
   rw[tick_files,usedL_set]
   intro p hp e
   have h1:=get_mem hf
   have h2:(D.files.map (·.1)).Nodup:=hn
   obtain⟨i,hi,hip⟩:=List.getElem_of_mem hp
   obtain⟨j,hj,hjp⟩:=List.getElem_of_mem h1
   have h3:(D.files.map (·.1))[i]? =(D.files.map (·.1))[j]? :=by
    rw[List.getElem?_map,List.getElem?_map,List.getElem?_eq_getElem hi,List.getElem?_eq_getElem hj,hip,hjp]
    simp[e]
   have h4:=(List.getElem?_inj (by rw[List.length_map];exact hi) h2).1 h3
   subst h4
   rw[hip] at hjp
   rw[hjp]
  ·exact tick_used D
 ·exact tick_used D
theorem sync_names (D:Dk)(a:List Nat):(D.sync a).files.map (·.1)=D.files.map (·.1):=by
 unfold Dk.sync
 split
 ·split
  ·unfold Dk.set
   show(D.tick.files.map _).map _=_
   rw[tick_files,List.map_map]
   refine List.map_congr_left fun p _=> ?_
   simp only[Function.comp]
   split<;>rfl
  ·rw[tick_files]
 ·rw[tick_files]
theorem putL_nodup {fs:List (List Nat × Fil)}{a:List Nat}{f:Fil}(h:(fs.map (·.1)).Nodup):((putL fs a f).map (·.1)).Nodup:=by
 unfold putL
 split
 ·rw[List.map_map]
  have:((fun p:List Nat × Fil=>p.1)∘fun p:List Nat × Fil=>if p.1=a then(p.1,f) else p)=fun p=>p.1:=by
   funext p
   simp only[Function.comp]
   split<;>rfl
  rw[this]
  exact h
 ·rename_i h1
  rw[List.map_append,List.nodup_append]
  refine⟨h,by simp,?_⟩
  intro x hx b hb
  simp at hb
  subst hb
  intro e
  subst e
  obtain⟨p,hp,e2⟩:=List.mem_map.1 hx
  apply h1
  rw[List.find?_isSome]
  exact⟨p,hp,by simpa using e2⟩
theorem append_nodup {D:Dk}{a s:List Nat}(h:(D.files.map (·.1)).Nodup):((D.append a s).files.map (·.1)).Nodup:=by
 unfold Dk.append
 split
 ·exact putL_nodup h
 ·rw[tick_files];exact h
theorem append_used {D:Dk}{a s:List Nat}(hn:(D.files.map (·.1)).Nodup)(hE:D.appendE a s=0):(D.append a s).used=D.used+(s.length:Int):=by
 have hA:D.append a s= {D.tick with files:=putL D.files a ⟨(D.fileOf a).data++s,(D.fileOf a).safe⟩}:=by unfold Dk.append;rw[if_pos hE]
 have hu:=usedL_put (nm:=a) ⟨(D.fileOf a).data++s,(D.fileOf a).safe⟩ hn
 have e:getL D.files a=D.fileOf a:=rfl
 rw[e] at hu
 simp only[List.length_append] at hu
 rw[hA]
 show((usedL (putL D.files a _):Nat):Int)=((usedL D.files:Nat):Int)+_
 omega
theorem appendE_calm {D:Dk}{a s:List Nat}(hc:D.calm)(ha:nameOk a=true)(h1:(D.get a).isSome=true∨D.files.length<200)(h2:(D.fileOf a).data.length+s.length≤1048576)(h3:(s.length:Int)≤D.room-D.used):D.appendE a s=0:=by
 unfold Dk.appendE
 rw[beginE_calm hc (by simpa using ha),if_neg (by simp),if_neg,if_neg (by omega),if_neg (by omega)]
 rintro⟨h4,h5⟩
 rcases h1 with h1|h1
 ·rw[h1] at h4;cases h4
 ·omega
end Go.Proofs.YtdpipgidpkmolaaGreatDoor
namespace Go.Proofs.YtdpipgidpkmolaaGreatDoor
open Go.RowKit
def full (s:List Nat):Fil:=⟨s,s.length⟩
theorem app_sync {D:Dk}{a s:List Nat}(hc:D.calm)(hn:(D.files.map (·.1)).Nodup)(ha:nameOk a=true)(h1:(D.get a).isSome=true∨D.files.length<200)(h2:(D.fileOf a).data.length+s.length≤1048576)(h3:(s.length:Int)≤D.room-D.used):
  D.appendE a s=0∧(D.append a s).thereE [a] a=0∧((D.append a s).sync a).calm∧(((D.append a s).sync a).files.map (·.1)).Nodup∧((D.append a s).sync a).room=D.room∧((D.append a s).sync a).used=D.used+(s.length:Int)∧((D.append a s).sync a).files.length≤D.files.length+1∧∀x,((D.append a s).sync a).get x=if x=a then some (full ((D.fileOf a).data++s)) else D.get x:=by
 have hE:=appendE_calm hc ha h1 h2 h3
 have hg:=get_append hE
 have hc1:=append_calm (a:=a) (s:=s) hc
 have hn1:=append_nodup (a:=a) (s:=s) hn
 have hga:=hg a
 rw[if_pos rfl] at hga
 refine⟨hE,?_,sync_calm hc1,?_,?_,?_,?_,fun x=> ?_⟩
 ·rw[thereE_calm hc1 (by simpa using ha),hga];rfl
 ·rw[sync_names];exact hn1
 ·rw[sync_room,append_room]
 ·rw[sync_used hn1,append_used hn hE]
 ·rw[sync_len];exact append_len D a s
 ·rw[get_sync hc1 ha hga,hg x]
  by_cases e:x=a
  ·rw[if_pos e,if_pos e];rfl
  ·rw[if_neg e,if_neg e,if_neg e]
theorem lay_calm {D:Dk}{nm:List Nat}{num count:Nat}{s:List Nat}(hc:D.calm)(hn:(D.files.map (·.1)).Nodup)(hnl:nm.length≤8)(hnum:num≤999999)(h1:(D.get (fileN nm num logK)).isSome=true∨D.files.length+2≤200)(h1':(D.get (fileN nm num ackK)).isSome=true∨D.files.length+2≤200)
  (h2:(D.fileOf (fileN nm num logK)).data.length+s.length≤1048576) (h2':(D.fileOf (fileN nm num ackK)).data.length+12≤1048576) (h3:(s.length:Int)+12≤D.room-D.used):
  (D.lay nm num count s).2=0∧(D.lay nm num count s).1.calm∧((D.lay nm num count s).1.files.map (·.1)).Nodup∧(D.lay nm num count s).1.room=D.room∧(D.lay nm num count s).1.used=D.used+(s.length:Int)+12∧(D.lay nm num count s).1.files.length≤D.files.length+2∧
  ∀x,(D.lay nm num count s).1.get x=if x=fileN nm num ackK then some (full ((D.fileOf (fileN nm num ackK)).data++markN (count+1))) else if x=fileN nm num logK then some (full ((D.fileOf (fileN nm num logK)).data++s)) else D.get x:=by
 have hne:fileN nm num ackK≠fileN nm num logK:=fun e=>by
  have:=(fileN_inj hnum hnum e).2
  revert this
  decide
 have hok:∀k:List Nat,k.length=4→nameOk (fileN nm num k)=true:=fun k hk=>by
  have hl:=fileN_len (nm:=nm) (k:=k) hnum
  unfold nameOk
  rw[Bool.and_eq_true,decide_eq_true_eq,decide_eq_true_eq]
  refine⟨fun e=> ?_,by omega⟩
  rw[e] at hl
  simp at hl
  omega
 have hlg:=hok logK rfl
 have hak:=hok ackK rfl
 obtain⟨lg,hlg0⟩:∃x,x=fileN nm num logK:=⟨_,rfl⟩
 obtain⟨ak,hak0⟩:∃x,x=fileN nm num ackK:=⟨_,rfl⟩
 unfold Dk.lay Dk.note
 rw[←hlg0] at h1 h2 hne hlg
 rw[←hak0] at h1' h2' hne hak
 rw[←hlg0,←hak0]
 obtain⟨a1,a2,a3,a4,a5,a6,a7,a8⟩:=app_sync (D:=D) (a:=lg) (s:=s) hc hn hlg (h1.imp_right fun h=>by omega) h2 (by omega)
 rw[if_neg (by omega),if_neg (by omega)]
 obtain⟨E,hE⟩:∃E,E=(D.append lg s).sync lg:=⟨_,rfl⟩
 rw[←hE] at a3 a4 a5 a6 a7 a8
 rw[←hE]
 have hga:E.get ak=D.get ak:=by rw[a8,if_neg hne]
 have hfa:E.fileOf ak=D.fileOf ak:=by rw[fileOf_eq,fileOf_eq,hga]
 obtain⟨b1,b2,b3,b4,b5,b6,b7,b8⟩:=app_sync (D:=E) (a:=ak) (s:=markN (count+1)) a3 a4 hak (h1'.imp (fun h=>by rw[hga];exact h) fun h=>by omega) (by rw[hfa,markN_len];exact h2') (by rw[markN_len,a5,a6];omega)
 rw[if_neg (by omega)]
 refine⟨b2,b3,b4,by rw[b5,a5],by rw[b6,a6,markN_len];omega,Nat.le_trans b7 (by omega),fun x=> ?_⟩
 rw[b8,hfa]
 by_cases e:x=ak
 ·rw[if_pos e,if_pos e]
 ·rw[if_neg e,if_neg e,a8]
structure LogIs (D:Dk)(nm:List Nat)(segs:List (Nat × List (List Nat))):Prop where
 calm:D.calm
 nd:(D.files.map (·.1)).Nodup
 inc:(segs.map (·.1)).Pairwise (· < ·)
 le:∀s∈segs,s.1≤999999
 recs:∀s∈segs,s.2≠ []∧(∀r∈s.2,Byt r∧r.length≤131072)∧s.2.length≤131072
 log:∀s∈segs,D.get (fileN nm s.1 logK)=some (full (framesN s.2))
 ack:∀s∈segs,D.get (fileN nm s.1 ackK)=some (full (marksN s.2.length))
 own:∀x,(D.get x).isSome=true→∃s∈segs,x=fileN nm s.1 logK∨x=fileN nm s.1 ackK
def recsOf (segs:List (Nat × List (List Nat))):List (Nat × List Nat):=segs.flatMap fun s=>s.2.map fun r=>(s.1,r)
def nextN:Nat→List (Nat × List (List Nat))→Nat
 |num,[]=>num
 |_,s::r=>nextN (s.1+1) r
theorem recsOf_app (a b:List (Nat × List (List Nat))):recsOf (a++b)=recsOf a++recsOf b:=by simp[recsOf]
theorem nextN_app (a:List (Nat × List (List Nat)))(s:Nat × List (List Nat)):∀num,nextN num (a++[s])=s.1+1:=by
 induction a with
 |nil=>intro num;rfl
 |cons x a ih=>intro num;exact ih _
theorem LogIs.nil {room:Int}{nm:List Nat}:LogIs (Dk.new room) nm []:=⟨⟨rfl,rfl⟩,by simp[Dk.new],by simp,by simp,by simp,by simp,by simp,fun x hx=>by cases hx⟩
structure WlIs (D:Dk)(nm:List Nat)(W:Wl)(segs:List (Nat × List (List Nat))):Prop where
 log:LogIs D nm segs
 broken:W.broken=false
 at_:(W.count=0∧W.size=0∧∀s∈segs,s.1<W.num)∨∃ini l,segs=ini++[(W.num,l)]∧W.count=l.length∧W.size=(framesN l).length
theorem WlIs.opened {D:Dk}{nm:List Nat}{segs:List (Nat × List (List Nat))}(h:LogIs D nm segs):WlIs D nm ⟨nextN 0 segs,0,0,false⟩ segs:=by
 refine⟨h,rfl, .inl ⟨rfl,rfl,fun s hs=> ?_⟩⟩
 show s.1<nextN 0 segs
 rcases List.eq_nil_or_concat segs with e|⟨ini,t,e⟩
 ·rw[e] at hs;cases hs
 ·rw[List.concat_eq_append] at e
  subst e
  rw[nextN_app]
  rcases List.mem_append.1 hs with h1|h1
  ·have:=h.inc
   rw[List.map_append,List.pairwise_append] at this
   have:=this.2.2 s.1 (List.mem_map.2 ⟨s,h1,rfl⟩) t.1 (by simp)
   omega
  ·simp at h1;subst h1;omega
theorem WlIs.last {D:Dk}{nm:List Nat}{W:Wl}{segs:List (Nat × List (List Nat))}(h:WlIs D nm W segs):∃ini l,(if W.count=0 then segs=ini∧l=[] else segs=ini++[(W.num,l)])∧(∀s∈ini,s.1<W.num)∧W.count=l.length∧W.size=(framesN l).length:=by
 rcases h.at_ with ⟨h1,h2,h3⟩|⟨ini,l,h1,h2,h3⟩
 ·exact⟨segs,[],by rw[if_pos h1];exact⟨rfl,rfl⟩,h3,h1,h2⟩
 ·have hm:(W.num,l)∈segs:=by rw[h1];simp
  have hne:=(h.log.recs _ hm).1
  have hc:¬(W.count=0):=by
   rw[h2]
   intro e
   exact hne (List.eq_nil_of_length_eq_zero e)
  refine⟨ini,l,by rw[if_neg hc];exact h1,fun s hs=> ?_,h2,h3⟩
  have:=h.log.inc
  rw[h1,List.map_append,List.pairwise_append] at this
  exact this.2.2 s.1 (List.mem_map.2 ⟨s,hs,rfl⟩) W.num (by simp)
theorem WlIs.append {D:Dk}{nm data:List Nat}{W:Wl}{segs:List (Nat × List (List Nat))}(h:WlIs D nm W segs)(hnl:nm.length≤8)(hd:Byt data)(hdl:data.length≤131072)(hnum:W.num≤999999)(hcnt:W.count+1≤80000)(hsz:W.size+(data.length+12)≤1048576)(hfl:D.files.length+2≤200)(hroom:(data.length:Int)+36≤D.room-D.used):
  ∃D' segs',appW W D nm data=(⟨W.num,W.count+1,W.size+(data.length+12),false⟩,D',0)∧WlIs D' nm ⟨W.num,W.count+1,W.size+(data.length+12),false⟩ segs'∧recsOf segs'=recsOf segs++[(W.num,data)]∧D'.room=D.room∧D'.used=D.used+(data.length:Int)+24∧D'.files.length≤D.files.length+2:=by
 obtain⟨ini,l,hsegs,hini,hcl,hszl⟩:=h.last
 have hL:=h.log
 have hturn:W.turned data=W:=by unfold Wl.turned;rw[if_neg (by omega)]
 have hfrl:=frameN_len data
 have hrw:roomW D W.num W.count (data.length+12)=true:=by
  unfold roomW
  rw[Bool.and_eq_true,Bool.and_eq_true,Bool.or_eq_true,decide_eq_true_eq,decide_eq_true_eq,decide_eq_true_eq]
  exact⟨⟨by omega, .inr hfl⟩,hnum⟩
 have hlog:D.fileOf (fileN nm W.num logK)=full (framesN l):=by
  rw[fileOf_eq]
  by_cases hc:W.count=0
  ·rw[if_pos hc] at hsegs
   obtain⟨rfl,rfl⟩:=hsegs
   cases e:D.get (fileN nm W.num logK) with
   |none=>rfl
   |some f=>
    exfalso
    obtain⟨s,hs,e2⟩:=hL.own _ (by rw[e];rfl)
    have h3:=hini s hs
    have:W.num=s.1:=by rcases e2 with e2|e2<;>exact(fileN_inj hnum (hL.le s hs) e2).1
    omega
  ·rw[if_neg hc] at hsegs
   rw[hL.log (W.num,l) (by rw[hsegs];simp)]
   rfl
 have hack:D.fileOf (fileN nm W.num ackK)=full (marksN l.length):=by
  rw[fileOf_eq]
  by_cases hc:W.count=0
  ·rw[if_pos hc] at hsegs
   obtain⟨rfl,rfl⟩:=hsegs
   cases e:D.get (fileN nm W.num ackK) with
   |none=>rfl
   |some f=>
    exfalso
    obtain⟨s,hs,e2⟩:=hL.own _ (by rw[e];rfl)
    have h3:=hini s hs
    have:W.num=s.1:=by rcases e2 with e2|e2<;>exact(fileN_inj hnum (hL.le s hs) e2).1
    omega
  ·rw[if_neg hc] at hsegs
   rw[hL.ack (W.num,l) (by rw[hsegs];simp)]
   rfl
 have hml:=marksN_len l.length
 obtain⟨a1,a2,a3,a4,a5,a6,a7⟩:=lay_calm (D:=D) (nm:=nm) (num:=W.num) (count:=W.count) (s:=frameN data) hL.calm hL.nd hnl hnum (.inr hfl) (.inr hfl) (by rw[hlog];show(framesN l).length+_≤_;omega) (by rw[hack];show(marksN l.length).length+12≤_;omega) (by omega)
 obtain⟨E,hE⟩:∃E,E=(D.lay nm W.num W.count (frameN data)).1:=⟨_,rfl⟩
 rw[←hE] at a2 a3 a4 a5 a6 a7
 have hfr:framesN l++frameN data=framesN (l++[data]):=by rw[framesN_app,framesN_one]
 have hmr:marksN l.length++markN (W.count+1)=marksN (l++[data]).length:=by rw[hcl,List.length_append,List.length_singleton,marksN_succ]
 rw[hlog,hack] at a7
 have e1:(full (marksN l.length)).data=marksN l.length:=rfl
 have e2:(full (framesN l)).data=framesN l:=rfl
 rw[e1,e2,hfr,hmr] at a7
 refine⟨E,ini++[(W.num,l++[data])],?_,⟨⟨a2,a3,?_,?_,?_,?_,?_,?_⟩,rfl, .inr ⟨ini,l++[data],rfl,?_,?_⟩⟩,?_,a4,by rw[a5];omega,a6⟩
 ·unfold appW
  rw[hturn,if_neg (by omega),if_neg (by simp[h.broken]),if_neg (by simp[hrw]),if_neg (by simp[a1]),h.broken,hE]
 ·rw[List.map_append,List.pairwise_append]
  refine⟨?_,by simp,fun a ha b hb=> ?_⟩
  ·have:=hL.inc
   by_cases hc:W.count=0
   ·rw[if_pos hc] at hsegs;rw[hsegs.1] at this;exact this
   ·rw[if_neg hc] at hsegs;rw[hsegs,List.map_append,List.pairwise_append] at this;exact this.1
  ·obtain⟨s,hs,rfl⟩:=List.mem_map.1 ha
   simp at hb
   subst hb
   exact hini s hs
 all_goals
  have hsub:∀s∈ini,s∈segs:=fun s hs=>by
   by_cases hc:W.count=0
   ·rw[if_pos hc] at hsegs;rw[hsegs.1];exact hs
   ·rw[if_neg hc] at hsegs;rw[hsegs];exact List.mem_append_left _ hs
 ·intro s hs
  rcases List.mem_append.1 hs with hs|hs
  ·exact hL.le s (hsub s hs)
  ·simp at hs;subst hs;exact hnum
 ·intro s hs
  rcases List.mem_append.1 hs with hs|hs
  ·exact hL.recs s (hsub s hs)
  ·simp at hs
   subst hs
   refine⟨by simp,fun r hr=> ?_,by simp only[List.length_append,List.length_singleton];omega⟩
   rcases List.mem_append.1 hr with hr|hr
   ·by_cases hc:W.count=0
    ·rw[if_pos hc] at hsegs;rw[hsegs.2] at hr;cases hr
    ·rw[if_neg hc] at hsegs
     exact(hL.recs (W.num,l) (by rw[hsegs];simp)).2.1 r hr
   ·simp at hr;subst hr;exact⟨hd,hdl⟩
 ·intro s hs
  rw[a7]
  rcases List.mem_append.1 hs with hs|hs
  ·have h3:=hini s hs
   have n1:fileN nm s.1 logK≠fileN nm W.num ackK:=fun e=>by have:=(fileN_inj (hL.le s (hsub s hs)) hnum e).1;omega
   have n2:fileN nm s.1 logK≠fileN nm W.num logK:=fun e=>by have:=(fileN_inj (hL.le s (hsub s hs)) hnum e).1;omega
   rw[if_neg n1,if_neg n2]
   exact hL.log s (hsub s hs)
  ·simp at hs
   subst hs
   have n1:fileN nm W.num logK≠fileN nm W.num ackK:=fun e=>by
    have:=(fileN_inj hnum hnum e).2
    revert this
    decide
   rw[if_neg n1,if_pos rfl]
 ·intro s hs
  rw[a7]
  rcases List.mem_append.1 hs with hs|hs
  ·have h3:=hini s hs
   have n1:fileN nm s.1 ackK≠fileN nm W.num ackK:=fun e=>by have:=(fileN_inj (hL.le s (hsub s hs)) hnum e).1;omega
   have n2:fileN nm s.1 ackK≠fileN nm W.num logK:=fun e=>by have:=(fileN_inj (hL.le s (hsub s hs)) hnum e).1;omega
   rw[if_neg n1,if_neg n2]
   exact hL.ack s (hsub s hs)
  ·simp at hs
   subst hs
   rw[if_pos rfl]
 ·intro x hx
  rw[a7] at hx
  by_cases n1:x=fileN nm W.num ackK
  ·exact⟨(W.num,l++[data]),by simp, .inr n1⟩
  ·rw[if_neg n1] at hx
   by_cases n2:x=fileN nm W.num logK
   ·exact⟨(W.num,l++[data]),by simp, .inl n2⟩
   ·rw[if_neg n2] at hx
    obtain⟨s,hs,e⟩:=hL.own x hx
    by_cases hc:W.count=0
    ·rw[if_pos hc] at hsegs
     rw[hsegs.1] at hs
     exact⟨s,List.mem_append_left _ hs,e⟩
    ·rw[if_neg hc] at hsegs
     rw[hsegs] at hs
     rcases List.mem_append.1 hs with hs|hs
     ·exact⟨s,List.mem_append_left _ hs,e⟩
     ·simp at hs
      subst hs
      rcases e with e|e
      ·exact absurd e n2
      ·exact absurd e n1
 ·show W.count+1=_
  rw[List.length_append,List.length_singleton];omega
 ·show W.size+(data.length+12)=_
  rw[←hfr,List.length_append];omega
 ·rw[recsOf_app]
  have e3:recsOf [(W.num,l++[data])]=recsOf [(W.num,l)]++[(W.num,data)]:=by simp[recsOf]
  rw[e3,←List.append_assoc,←recsOf_app]
  congr 1
  by_cases hc:W.count=0
  ·rw[if_pos hc] at hsegs
   obtain⟨rfl,rfl⟩:=hsegs
   simp[recsOf]
  ·rw[if_neg hc] at hsegs
   rw[hsegs]
theorem appW_full {D:Dk}{nm data:List Nat}{W:Wl}(hbr:W.broken=false)(hdl:data.length≤131072)(hsz:W.size+(data.length+12)≤1048576)(hroom:¬((data.length:Int)+36≤D.room-D.used)):appW W D nm data=(W,D,5):=by
 have hturn:W.turned data=W:=by unfold Wl.turned;rw[if_neg (by omega)]
 have hrw:roomW D W.num W.count (data.length+12)=false:=by
  unfold roomW
  rw[decide_eq_false (by omega)]
  rfl
 unfold appW
 rw[hturn,if_neg (by omega),if_neg (by simp[hbr]),if_pos hrw]
end Go.Proofs.YtdpipgidpkmolaaGreatDoor
namespace Go.Proofs.YtdpipgidpkmolaaGreatDoor
open Go.RowKit
def curN:List Nat:=[67,85,82,82,69,78,84]
def freshN:List Nat:=[67,85,82,82,69,78,84,46,110,101,119]
def pointW (D:Dk)(gen:Nat):Dk × Int:=
 if D.thereE [freshN] freshN≠0∧D.thereE [freshN] freshN≠7 then(D.delete freshN,D.thereE [freshN] freshN)
 else if(D.delete freshN).appendE freshN (frameN (grp gen))≠0 then((D.delete freshN).append freshN (frameN (grp gen)),(D.delete freshN).appendE freshN (frameN (grp gen)))
 else if((D.delete freshN).append freshN (frameN (grp gen))).thereE [freshN] freshN≠0 then(((D.delete freshN).append freshN (frameN (grp gen))).sync freshN,((D.delete freshN).append freshN (frameN (grp gen))).thereE [freshN] freshN)
 else((((D.delete freshN).append freshN (frameN (grp gen))).sync freshN).rename freshN curN,(((D.delete freshN).append freshN (frameN (grp gen))).sync freshN).thereE [freshN,curN] freshN)
theorem sweep_none (B gd:Nat)(D:Dk)(fv:Value)(w:World)(dk:DkAt w B gd D)(h0:D.files.length=0):
  Calls Tryz.prog 22 #[.pointer (some ⟨gd,0,none⟩),fv] w fun e w'=>e= .returned (.tuple #[.slice none 0 0, .int .i64 0])∧Grow w w':=by
 have bel:=Below.refl w.heap.size w
 refine Zs 34 Tryz.func22 ?_
 refine Zsr ?_
 refine Za ?_
 refine Za ?_
 refine Zk4 0 1 4 5 (Ztq ?_)
 refine Za ?_
 refine Zk5 0 1 4 5 6 (Zts (Zsr ?_))
 refine Zm ?_
 refine Zc (Ze Tryz.func19) (names_any B gd D _ dk) ?_
 rintro e w6 ⟨v6,rfl,ownN,hb6⟩
 refine⟨_,rfl,?_⟩
 rw[h0] at ownN
 replace bel:=bel.step hb6
 replace dk:=dk.step hb6
 obtain⟨A6,c6,rfl,-⟩:=ownN.reads
 refine Zv (Runs.len rfl rfl Tryz.underlying54) ?_
 refine Zm ?_
 refine Zk8 0 1 4 5 6 11 12 13 (Zt (Cd.block ?_))
 refine Cd.loop (σ:=Unit) (fun _=>[(6, .slice none 0 0),(11, .slice A6 0 c6),(12, .int .i64 0),(13, .int .i64 0)]) (fun _ wr=>Below w.heap.size w wr) (fun _=>0) () bel ⟨rfl,rfl,rfl,rfl,trivial⟩ ?_
 clear bel
 rintro _ wr bel
 show Cd _ _ _ _ [(6, .slice none 0 0),(11, .slice A6 0 c6),(12, .int .i64 0),(13, .int .i64 0)] _
 refine Zsr ?_
 refine Zls ?_
 refine Zk5 6 11 12 13 14 (Zts ?_)
 refine Cd.cond rfl (fun h=> ?_) (fun h=> ?_)
 ·cases h
 ·skip
  refine Cd.exit (Post.then_exit (Post.round_exit (Post.block_exit (Ztq ?_))))
  refine Zm ?_
  refine Za ?_
  refine Za ?_
  refine Zk7 4 5 6 11 12 13 14 (Zt (Cd.ret ?_))
  refine Ze2 ?_
  exact⟨rfl,bel⟩
theorem name_any (gen:Nat)(w:World)(hg:gen≤675):Calls Tryz.prog 28 #[.int .i64 (gen:Int)] w fun e w'=>e= .returned (.string (strOf [109,97+gen/26,97+gen%26]))∧Grow w w':=by
 have bel:=Below.refl w.heap.size w
 refine Zs 13 Tryz.func28 ?_
 refine Zsr ?_
 refine Za ?_
 refine Zk2 0 2 (Ztq ?_)
 refine Zm ?_
 refine Zv (Runs.quoI rfl rfl rfl (by omega) (by omega) (by omega)) ?_
 refine Za_ ?_
 refine Zv (Runs.convI rfl rfl Tryz.underlying3 Tryz.underlying5 (wrapB (by omega) (by omega))) ?_
 refine Zm ?_
 refine Zv (Runs.remN rfl rfl rfl (by omega) (by omega)) ?_
 refine Za_ ?_
 refine Zv (Runs.convI rfl rfl Tryz.underlying3 Tryz.underlying5 (wrapB (by omega) (by omega))) ?_
 refine Seq.slice (vs:=[_,_,_]) (s:=1) rfl rfl rfl Tryz.underlying103 (by kernel_rfl) (zero_uint8) (by omega) (by omega) ⟨rfl,rfl,rfl,trivial⟩ rfl rfl rfl ?_
 intro g11 w1 n11
 have e11:=Nat.le_trans bel.size n11.ge
 replace bel:=bel.step n11.below
 have k11:=n11.blk
 have hrd:Reads w1 w1.heap.size 1 (some ⟨g11,0,none⟩) 3 (Bt [109,97+gen/26,97+gen%26]):=by
  have h:=Reads.blk (size:=1) k11 3 rfl
  have e:Bt [109,97+gen/26,97+gen%26]=[.int .u8 109, .int .u8 (97+(gen:Int)/26), .int .u8 (97+(gen:Int)%26)]:=by
   unfold Bt
   simp
  rw[e]
  exact h
 refine Zv (Runs.convBS rfl rfl Tryz.underlying103 Tryz.underlying5 Tryz.underlying9 hrd (fun x hx=>by simp at hx;omega)) ?_
 refine Za ?_
 refine Zk2 0 2 (Zt (Cd.ret ?_))
 refine Ze1 ?_
 exact⟨rfl,bel⟩
theorem Name_any (n:Nat)(w:World)(gv:Gv w)(h1:1≤n)(hn:n≤999999):Calls Tryz.prog 20 #[.int .i64 (n:Int)] w fun e w'=>e= .returned (.string (strOf (dig6 n++[46,116,97,98])))∧Grow w w':=by
 have bel:=Below.refl w.heap.size w
 have hdl:=decN_len 5 n (by omega)
 refine Zs 19 Tryz.func20 ?_
 refine Zsr ?_
 refine Za ?_
 refine Zk2 0 2 (Zts (Zsr ?_))
 refine Zm ?_
 refine Zls ?_
 refine Zm ?_
 refine SeqC.start ?_
 refine Zco (fun hcx=>Runs.move rfl rfl) ?_
 refine Zn (fun hcx=>Runs.gtr rfl rfl rfl) ?_
 refine Zor ?_
 refine Zk3 0 2 9 (Zt ?_)
 refine Cd.condF rfl (by simp;omega) ?_
 refine Cd.skip (Ztq ?_)
 refine Zm ?_
 refine Zc (Ze Tryz.func44) (itoa_any n _ gv (by omega)) ?_
 rintro e w5 ⟨rfl,hb5⟩
 refine⟨_,rfl,?_⟩
 replace bel:=bel.step hb5
 replace gv:=gv.step hb5
 refine Za ?_
 refine Zk4 0 2 3 9 (Ztq ?_)
 refine Zm ?_
 refine Zv (Runs.lenL rfl rfl Tryz.underlying9) ?_
 refine Zsu ?_
 refine Zc (Ze Tryz.func45) (repeatZ_any _ (6-(decN n).length) _ (by omega) (by omega)) ?_
 rintro e w6 ⟨rfl,hb6⟩
 refine⟨_,rfl,?_⟩
 replace bel:=bel.step hb6
 replace gv:=gv.step hb6
 refine Zm ?_
 refine Zv (Runs.addL rfl rfl rfl (by simp only[List.length_replicate];omega)) ?_
 refine Zv (Runs.addL (b:=[46,116,97,98]) rfl rfl rfl (by simp only[List.length_append,List.length_replicate,List.length_cons,List.length_nil];omega)) ?_
 refine Za ?_
 refine Zk4 0 2 3 9 (Zt (Cd.ret ?_))
 refine Ze1 ?_
 refine⟨?_,bel⟩
 have e:List.replicate (6-(decN n).length) 48++decN n++[46,116,97,98]=dig6 n++[46,116,97,98]:=by unfold dig6;rfl
 rw[e]
set_option maxHeartbeats 4000000 in
theorem point_any (B g0 gd:Nat)(D:Dk)(gen:Nat)(c1 c2 c3 c4 c5 c6 c7 c8:Value)(w:World)(gv:Gv w)(hgB:max 2 1 <B)(k0:Blk w g0 70 #[.pointer (some ⟨gd,0,none⟩),c1,c2,c3,c4,c5,c6,c7,c8]) (dk:DkAt w B gd D) (hg:gen<1000000):
  Calls Tryz.prog 49 #[.pointer (some ⟨g0,0,none⟩), .int .i64 (gen:Int)] w fun e w'=>e= .returned (.int .i64 (pointW D gen).2)∧DkAt w' B gd (pointW D gen).1∧Df B w w':=by
 have df:=Df.refl B w
 have hBw:=dk.size
 refine Zs 55 Tryz.func49 ?_
 refine Zsr ?_
 refine Za ?_
 refine Zk3 0 1 4 (Zts (Zsr ?_))
 refine Zm ?_
 refine Zv (Runs.nilCheck rfl rfl) ?_
 refine Zf 0 Tryz.underlying70 ?_
 refine ZL Tryz.underlying26 k0 ?_
 refine Zc (Ze Tryz.func46) (delete_d_any B gd D freshN _ dk (by decide) (by decide)) ?_
 clear dk
 rintro e w1 ⟨rfl,dk,fw1⟩
 refine⟨_,rfl,?_⟩
 replace df:=df.df fw1
 replace gv:=gv.df fw1
 replace k0:=k0.df fw1
 refine Za ?_
 refine Zk4 0 1 4 5 (Ztq ?_)
 refine Zm ?_
 refine Zni ?_
 refine Zm ?_
 refine SeqC.start ?_
 refine Zco (fun hcx=>Runs.move rfl rfl) ?_
 refine Zn (fun hcx=>Runs.neqI rfl rfl rfl) ?_
 refine Zan ?_
 refine Zk5 0 1 4 5 21 (Zt ?_)
 refine Cd.cond rfl (fun h=> ?_) (fun h=> ?_)
 ·have h':D.thereE [freshN] freshN≠0∧D.thereE [freshN] freshN≠7:=by
   have h2:(decide (D.thereE [freshN] freshN≠0)&&decide (D.thereE [freshN] freshN≠7))=true:=h
   rw[Bool.and_eq_true,decide_eq_true_eq,decide_eq_true_eq] at h2
   exact h2
  have hp:pointW D gen=(D.delete freshN,D.thereE [freshN] freshN):=by unfold pointW;rw[if_pos h']
  rw[hp]
  refine Zsr ?_
  refine Zm ?_
  refine Za ?_
  refine Zk5 0 1 4 5 21 (Zt (Cd.ret (Post.then_ret ?_)))
  refine Ze1 ?_
  exact⟨rfl,dk,df⟩
 have h':¬(D.thereE [freshN] freshN≠0∧D.thereE [freshN] freshN≠7):=by
  have h2:(decide (D.thereE [freshN] freshN≠0)&&decide (D.thereE [freshN] freshN≠7))=false:=h
  rw[Bool.and_eq_false_iff,decide_eq_false_iff_not,decide_eq_false_iff_not] at h2
  omega
 obtain⟨D1,hD1⟩:∃D1,D1=D.delete freshN:=⟨_,rfl⟩
 rw[←hD1] at dk
 obtain⟨F,hF⟩:∃F,F=frameN (grp gen):=⟨_,rfl⟩
 have hgl:=grp_len gen
 have hgb:=grp_lt (n:=gen) (by omega)
 have hFl:F.length≤22:=by rw[hF,frameN_len];omega
 have hFb:Byt F:=by rw[hF];exact frameN_lt hgb
 have hp:pointW D gen=if D1.appendE freshN F≠0 then(D1.append freshN F,D1.appendE freshN F) else if(D1.append freshN F).thereE [freshN] freshN≠0 then((D1.append freshN F).sync freshN,(D1.append freshN F).thereE [freshN] freshN) else(((D1.append freshN F).sync freshN).rename freshN curN,((D1.append freshN F).sync freshN).thereE [freshN,curN] freshN):=by
  rw[hD1,hF]
  unfold pointW
  rw[if_neg h']
 rw[hp]
 clear hp
 refine Cd.skip (Ztq ?_)
 have dk1:=dk
 have df1:=df
 have gv1:=gv
 have k01:=k0
 have bel:=Below.refl w1.heap.size w1
 clear dk df gv k0
 refine Zv (Runs.build rfl rfl (run_build_Wr0 _)) ?_
 refine Seq.box rfl rfl rfl rfl rfl ?_
 intro g24 w2 n24
 have e24:=Nat.le_trans bel.size n24.ge
 replace bel:=bel.step n24.below
 have k24:=n24.blk
 refine Za ?_
 refine Zk6 0 1 4 5 6 21 (Ztq ?_)
 refine Zm ?_
 refine Zm ?_
 have wr:Wr w2 g24 g24 []:=⟨Nat.le_refl _,fun d hd=>(by cases hd),_,k24,Own.nil _ _ _ _⟩
 have wf:=Wf.refl g24 w2
 have hg24:g24≤w2.heap.size:=Nat.le_of_lt n24.lt
 refine Zc (Ze Tryz.func70) (size_any g24 g24 gen [] _ wr (by omega) (by simp)) ?_
 clear wr
 rintro e w3 ⟨rfl,fw3,wr⟩
 refine⟨_,rfl,?_⟩
 replace wf:=wf.wf fw3
 rw[List.nil_append] at wr
 refine Zc (Ze Tryz.func74) (wbytes_any g24 g24 _ _ wr) ?_
 rintro e w7 ⟨rfl,hb7⟩
 refine⟨_,rfl,?_⟩
 replace wf:=wf.step hb7
 replace wr:=wr.step hb7
 have nb:=(gv1.step (bel.trans ((wf.to hg24).mono e24))).nib
 refine Zc (Ze Tryz.func75) (frame_any (grp gen) _ nb hgb (by omega)) ?_
 rw[if_pos (show(grp gen).length≤131072 by omega)]
 rintro e w8 ⟨rfl,hb8⟩
 refine⟨_,rfl,?_⟩
 replace wf:=wf.step hb8
 replace wr:=wr.step hb8
 have bb:=bel.trans ((wf.to hg24).mono e24)
 have dk:=dk1.step bb
 have df:=df1.step bb
 have gv:=gv1.step bb
 have k0:=k01.step bb
 clear dk1 df1 gv1 k01 wf wr nb bel bb
 rw[←hF]
 refine Zm ?_
 refine Zx ?_
 refine Zx ?_
 refine Za ?_
 refine Za ?_
 refine Zk7 0 1 4 5 6 7 21 (Zts (Zsr ?_))
 refine Zm ?_
 refine Zv (Runs.nilCheck rfl rfl) ?_
 refine Zf 0 Tryz.underlying70 ?_
 refine ZL Tryz.underlying26 k0 ?_
 refine Zm ?_
 refine Zc (Ze Tryz.func95) (append_d_any B gd D1 freshN F _ dk (by decide) hFb (by decide) (by omega)) ?_
 clear dk
 rintro e w4 ⟨rfl,dk,fw4⟩
 refine⟨_,rfl,?_⟩
 replace df:=df.df fw4
 replace gv:=gv.df fw4
 replace k0:=k0.df fw4
 refine Za ?_
 refine Zk8 0 1 4 5 6 7 9 21 (Ztq ?_)
 refine Zm ?_
 refine Zni ?_
 refine Zk9 0 1 4 5 6 7 9 21 40 (Zt ?_)
 refine Cd.cond rfl (fun h=> ?_) (fun h=> ?_)
 ·have h':D1.appendE freshN F≠0:=by simpa using h
  rw[if_pos h']
  refine Zsr ?_
  refine Zm ?_
  refine Za ?_
  refine Zk9 0 1 4 5 6 7 9 21 40 (Zt (Cd.ret (Post.then_ret ?_)))
  refine Ze1 ?_
  exact⟨rfl,dk,df⟩
 have h':¬D1.appendE freshN F≠0:=by simpa using h
 rw[if_neg h']
 obtain⟨D2,hD2⟩:∃D2,D2=D1.append freshN F:=⟨_,rfl⟩
 rw[←hD2] at dk
 rw[←hD2]
 refine Cd.skip (Zts (Zsr ?_))
 refine Zm ?_
 refine Zv (Runs.nilCheck rfl rfl) ?_
 refine Zf 0 Tryz.underlying70 ?_
 refine ZL Tryz.underlying26 k0 ?_
 refine Zc (Ze Tryz.func96) (sync_any B gd D2 freshN _ dk (by decide) (by decide)) ?_
 clear dk
 rintro e w5 ⟨rfl,dk,fw5⟩
 refine⟨_,rfl,?_⟩
 replace df:=df.df fw5
 replace gv:=gv.df fw5
 replace k0:=k0.df fw5
 refine Za ?_
 refine Zk10 0 1 4 5 6 7 9 10 21 40 (Ztq ?_)
 refine Zm ?_
 refine Zni ?_
 refine Zk11 0 1 4 5 6 7 9 10 21 40 48 (Zt ?_)
 refine Cd.cond rfl (fun h=> ?_) (fun h=> ?_)
 ·have h':D2.thereE [freshN] freshN≠0:=by simpa using h
  rw[if_pos h']
  refine Zsr ?_
  refine Zm ?_
  refine Za ?_
  refine Zk11 0 1 4 5 6 7 9 10 21 40 48 (Zt (Cd.ret (Post.then_ret ?_)))
  refine Ze1 ?_
  exact⟨rfl,dk,df⟩
 have h':¬D2.thereE [freshN] freshN≠0:=by simpa using h
 rw[if_neg h']
 obtain⟨D3,hD3⟩:∃D3,D3=D2.sync freshN:=⟨_,rfl⟩
 rw[←hD3] at dk
 rw[←hD3]
 refine Cd.skip (Ztq ?_)
 refine Zm ?_
 refine Zv (Runs.nilCheck rfl rfl) ?_
 refine Zf 0 Tryz.underlying70 ?_
 refine ZL Tryz.underlying26 k0 ?_
 refine Zc (Ze Tryz.func97) (rename_d_any B gd D3 freshN curN _ dk (by decide) (by decide) (by decide) (by decide)) ?_
 clear dk
 rintro e w6 ⟨rfl,dk,fw6⟩
 refine⟨_,rfl,?_⟩
 replace df:=df.df fw6
 replace gv:=gv.df fw6
 replace k0:=k0.df fw6
 refine Za ?_
 refine Zk11 0 1 4 5 6 7 9 10 21 40 48 (Zt (Cd.ret ?_))
 refine Ze1 ?_
 exact⟨rfl,dk,df⟩
end Go.Proofs.YtdpipgidpkmolaaGreatDoor
namespace Go.Proofs.YtdpipgidpkmolaaGreatDoor
open Go.RowKit
section
variable {P:Program} {E:Operand→Option Value} {o:Oper} {w:World} {x y:Operand} {T:TypeId}
end
theorem eg_within:∀args w,(callFunc 117 args).run Tryz.prog w= .ok (.enter 117 args) w:=fun args w=>run_enter Tryz.func117 (by kernel_rfl) rfl args w
def goodB (f:Fl)(nx:Int)(prev:Option Fl):Bool:=mayB f&&decide (f.num<nx)&&(match prev with|none=>true|some g=>decide (ordB g f<0))
def clashB (f g:Fl):Bool:=decide (f.num=g.num)||(decide (f.level=g.level)&&decide (0<f.level)&&ovB f g)
def rightFiles (nx:Int):Nat→List Fl→Bool
 |0,_=>true
 |k+1,fs=>rightFiles nx k fs&&(match fs[k]? with|none=>true|some f=>goodB f nx (if k=0 then none else fs[k-1]?)&& !((fs.take k).any (clashB f)))
def rightB (lg nx sq:Int)(fs:List Fl):Bool:=(decide (0≤lg)&&decide (lg≤999999))&&(decide (0≤nx)&&decide (nx≤999999))&&(decide (0≤sq)&&decide (sq≤4611686018427387904))&&decide (fs.length≤100)&&rightFiles nx fs.length fs
theorem rightFiles_succ {nx:Int}{k:Nat}{fs:List Fl}{f:Fl}(hf:fs[k]? =some f):rightFiles nx (k+1) fs=(rightFiles nx k fs&&(goodB f nx (if k=0 then none else fs[k-1]?)&& !((fs.take k).any (clashB f)))):=by
 rw[rightFiles,hf]
theorem rightFiles_mono {nx:Int}{fs:List Fl}{k:Nat}:∀j,rightFiles nx (k+j) fs=true→rightFiles nx k fs=true:=by
 intro j
 induction j with
 |zero=>exact id
 |succ j ih=>
  intro h
  rw[←Nat.add_assoc,rightFiles] at h
  simp only[Bool.and_eq_true] at h
  exact ih h.1
theorem rightFiles_no {nx:Int}{fs:List Fl}{k:Nat}(hk:k<fs.length)(h:rightFiles nx (k+1) fs=false):rightFiles nx fs.length fs=false:=by
 rw[Bool.eq_false_iff]
 intro h2
 have:=rightFiles_mono (k:=k+1) (fs.length-(k+1)) (by rw[show k+1+(fs.length-(k+1))=fs.length by omega];exact h2)
 rw[h] at this
 cases this
set_option maxHeartbeats 1000000 in
theorem right_any (lg nx sq:Int)(B:Nat)(A:Option Addr)(cap:Nat)(fs:List Fl)(w:World)(hr:Reads w B 6 A fs.length (fcs fs))(hB:B≤w.heap.size)(hok:∀f∈fs,f.ok)(hcap:fs.length≤cap):
  Calls Tryz.prog 60 #[.agg #[.int .i64 lg, .int .i64 nx, .int .i64 sq, .slice A fs.length cap]] w fun e w'=>e= .returned (.bool (rightB lg nx sq fs))∧Grow w w':=by
 have bel:=Below.refl w.heap.size w
 refine Zs 99 Tryz.func60 ?_
 refine Zsr ?_
 refine Seq.box rfl rfl rfl rfl rfl ?_
 intro g1 w1 n1
 have e1:=Nat.le_trans bel.size n1.ge
 replace bel:=bel.step n1.below
 have k1:=n1.blk
 refine Za ?_
 refine Zk3 0 1 2 (Ztq ?_)
 refine Za ?_
 refine Zk4 0 1 2 3 (Zts (Zsr ?_))
 refine Zm ?_
 refine Zf 0 Tryz.underlying38 ?_
 refine ZL Tryz.underlying3 k1 ?_
 refine Seq.call (Enters.value (first:=[]) (cap:=[]) rfl rfl rfl eg_within) rfl rfl rfl (within_any lg 999999 _) ?_
 rintro e w2 ⟨rfl,hb2⟩
 refine⟨_,rfl,?_⟩
 replace bel:=bel.step hb2
 replace k1:=k1.step hb2
 refine Zno ?_
 refine Zm ?_
 refine SeqC.start ?_
 refine Zco (fun hcx=>Runs.move rfl rfl) ?_
 refine Zn (fun hcx=>Runs.fieldB 1 rfl rfl Tryz.underlying38 rfl (by kernel_rfl)) ?_
 refine Zn (fun hcx=>Runs.loadB rfl rfl Tryz.underlying3 rfl k1 rfl) ?_
 refine SeqC.nextC rfl rfl rfl rfl rfl rfl rfl (fun hcx=>Enters.value (first:=[]) (cap:=[]) rfl rfl rfl eg_within) (fun hcx=>within_any nx 999999 _) ?_
 intro w2 hw2
 replace bel:=bel.step hw2
 replace k1:=k1.step hw2
 refine Zn (fun hcx=>Runs.not rfl rfl) ?_
 refine Zor ?_
 refine Zm ?_
 refine SeqC.start ?_
 refine Zco (fun hcx=>Runs.move rfl rfl) ?_
 refine Zn (fun hcx=>Runs.fieldB 2 rfl rfl Tryz.underlying38 rfl (by kernel_rfl)) ?_
 refine Zn (fun hcx=>Runs.loadB rfl rfl Tryz.underlying3 rfl k1 rfl) ?_
 refine SeqC.nextC rfl rfl rfl rfl rfl rfl rfl (fun hcx=>Enters.value (first:=[]) (cap:=[]) rfl rfl rfl eg_within) (fun hcx=>within_any sq 4611686018427387904 _) ?_
 intro w3 hw3
 replace bel:=bel.step hw3
 replace k1:=k1.step hw3
 refine Zn (fun hcx=>Runs.not rfl rfl) ?_
 refine Zor ?_
 refine Zm ?_
 refine SeqC.start ?_
 refine Zco (fun hcx=>Runs.fieldB 3 rfl rfl Tryz.underlying38 rfl (by kernel_rfl)) ?_
 refine Zn (fun hcx=>Runs.loadB rfl rfl Tryz.underlying36 rfl k1 rfl) ?_
 refine Zn (fun hcx=>Runs.len rfl rfl Tryz.underlying36) ?_
 refine Zn (fun hcx=>Runs.gtr rfl rfl rfl) ?_
 refine Zor ?_
 refine Zk5 0 1 2 3 32 (Zt ?_)
 refine Cd.cond rfl (fun h=> ?_) (fun h=> ?_)
 ·skip
  refine Zsr ?_
  refine Za ?_
  refine Zk5 0 1 2 3 32 (Zt (Cd.ret (Post.then_ret ?_)))
  refine Ze1 ?_
  refine⟨ret1 (bool_eq ?_),bel⟩
  symm
  rw[Bool.eq_false_iff]
  intro h2
  unfold rightB at h2
  simp at h h2
  omega
 have hsc:(decide (0≤lg)&&decide (lg≤999999))=true∧(decide (0≤nx)&&decide (nx≤999999))=true∧(decide (0≤sq)&&decide (sq≤4611686018427387904))=true∧fs.length≤100:=by simp at h⊢;omega
 have hrb:rightB lg nx sq fs=rightFiles nx fs.length fs:=by unfold rightB;rw[hsc.1,hsc.2.1,hsc.2.2.1,decide_eq_true hsc.2.2.2];simp
 have hn:=hsc.2.2.2
 rw[hrb]
 clear h hsc hrb
 refine Cd.skip (Zts (Zsr ?_))
 refine Zf 3 Tryz.underlying38 ?_
 refine ZL Tryz.underlying36 k1 ?_
 refine Zv (Runs.len rfl rfl Tryz.underlying36) ?_
 refine Zm ?_
 refine Zk8 0 1 2 3 32 34 35 36 (Zt (Cd.block ?_))
 refine Cd.loop (σ:=Nat) (fun k=>[(1, .pointer (some ⟨g1,0,none⟩)),(34, .slice A fs.length cap),(35, .int .i64 (fs.length:Int)),(36, .int .i64 (k:Int))])
  (fun k wr=>k≤fs.length∧rightFiles nx k fs=true∧Below w.heap.size w wr∧Blk wr g1 38 #[.int .i64 lg, .int .i64 nx, .int .i64 sq, .slice A fs.length cap]) (fun k=>fs.length-k) 0 ⟨Nat.zero_le _,rfl,bel,k1⟩ ⟨rfl,rfl,rfl,rfl,trivial⟩ ?_
 clear bel k1
 rintro k wr ⟨hk,hrt,bel,k1⟩
 refine Zsr ?_
 refine Zls ?_
 refine Zk5 1 34 35 36 37 (Zts ?_)
 refine Cd.condD rfl (fun hc=> ?_) (fun hc=> ?_)
 ·obtain⟨f,hf⟩:∃f,fs[k]? =some f:=⟨_,List.getElem?_eq_getElem (show k<fs.length by omega)⟩
  obtain⟨ad,rfl,hbl,hin,hcf⟩:=hr.fl (bel.mono hB) hf
  have hfo:=hok f (List.mem_of_getElem? hf)
  have hsu:=rightFiles_succ (nx:=nx) hf
  rw[hrt,Bool.true_and] at hsu
  have hno:=rightFiles_no (nx:=nx) (fs:=fs) hin
  refine Cd.skip (Zts (Cd.block (Zsr ?_)))
  refine Zm ?_
  refine Zv (Runs.indexN rfl rfl rfl Tryz.underlying36 (s:=6) (by kernel_rfl) (j:=k) rfl (by omega)) ?_
  refine Zv (Runs.loadF (ps:=[.int .i64 f.num, .int .i64 f.level, .string (strOf f.first), .string (strOf f.last), .int .i64 f.count, .int .i64 f.size]) rfl rfl Tryz.underlying81 rfl (m:=6) (by kernel_rfl) rfl hcf) ?_
  refine Zl zero_edit_File ?_
  intro g5 w4 n5
  have e5:=Nat.le_trans bel.size n5.ge
  have l5:=Nat.lt_of_lt_of_le k1.lt n5.ge
  replace bel:=bel.step n5.below
  replace k1:=k1.step n5.below
  have k5:=n5.blk
  refine Za ?_
  refine Zo 6 k5 ?_
  intro w5 pw5
  replace bel:=bel.put k5 pw5 e5
  replace k1:=k1.put pw5 (by omega)
  replace k5:=pw5.blk
  refine Zk7 1 4 5 34 35 36 37 (Zt ?_)
  refine Cd.seqJ (σ:=Unit) (fun _=>[(1, .pointer (some ⟨g1,0,none⟩)),(4, .int .i64 (k:Int)),(5, .pointer (some ⟨g5,0,none⟩)),(34, .slice (some ad) fs.length cap),(35, .int .i64 (fs.length:Int)),(36, .int .i64 (k:Int))]) (fun _ wr'=>goodB f nx (if k=0 then none else fs[k-1]?)=true∧Below w.heap.size w wr'∧Blk wr' g1 38 #[.int .i64 lg, .int .i64 nx, .int .i64 sq, .slice (some ad) fs.length cap]∧Blk wr' g5 81 f.cs) ?_ ?_
  ·skip
   refine Cd.seq ?_
   have hmay:=fun W=>may_any f W hfo
   have hbad:goodB f nx (if k=0 then none else fs[k-1]?)=false→rightFiles nx fs.length fs=false:=fun h=>hno (by rw[hsu,h];rfl)
   have hgd:goodB f nx (if k=0 then none else fs[k-1]?)=(mayB f&&decide (f.num<nx)&&(match (if k=0 then none else fs[k-1]?) with|none=>true|some g=>decide (ordB g f<0))):=rfl
   cases hm:mayB f with
   |false=>
    rw[hbad (by rw[hgd,hm];rfl)]
    simp only[hm] at hmay
    refine Zdr 25 ?_
    intro w6 hw6 zw6
    replace bel:=bel.step hw6
    replace k1:=k1.step hw6
    replace k5:=k5.step hw6
    have zbel:=bel.size
    have zlt:=k5.lt
    refine Zd (fun w hG=>Runs.loadW rfl rfl Tryz.underlying81 rfl (k5.step hG) (m:=6) (by kernel_rfl) rfl) ?_
    refine Dr.callV rfl (fun w=>Ze Tryz.func118) rfl (fun w hG=>hmay _) ?_
    refine Zd (fun w hG=>Runs.not rfl rfl) ?_
    refine Zdm ?_
    refine Zds ?_
    refine Zds ?_
    refine Zds ?_
    refine Zds ?_
    refine Zds ?_
    refine Zd (fun w hG=>Runs.pickT rfl rfl rfl) ?_
    refine Zdm ?_
    refine Zds ?_
    refine Zds ?_
    refine Zds ?_
    refine Dr.skipU rfl rfl rfl rfl ?_
    refine Dr.skipU rfl rfl rfl rfl ?_
    refine Dr.skipU rfl rfl rfl rfl ?_
    refine Dr.skipU rfl rfl rfl rfl ?_
    refine Dr.skipU rfl rfl rfl rfl ?_
    refine Dr.skipU rfl rfl rfl rfl ?_
    refine Dr.skipU rfl rfl rfl rfl ?_
    refine Dr.skipU rfl rfl rfl rfl ?_
    refine Dr.skipU rfl rfl rfl rfl ?_
    refine Zds ?_
    refine Zd (fun w hG=>Runs.pickT rfl rfl rfl) ?_
    refine Dr.nil ?_
    refine FinX.done (F':=[(1,_),(4,_),(5,_),(34,_),(35,_),(36,_),(37,_),(65,_)]) rfl ⟨rfl,rfl,rfl,rfl,rfl,rfl,rfl,rfl,trivial⟩ ?_
    intro w7 hw7 fw7
    replace bel:=bel.step hw7
    replace k1:=k1.step hw7
    replace k5:=k5.step hw7
    refine Zk8 1 4 5 34 35 36 37 65 (Zt ?_)
    refine Cd.condT rfl rfl ?_
    refine Zsr ?_
    refine Za ?_
    refine Zk9 1 2 4 5 34 35 36 37 65 (Zt (Cd.ret (Post.then_ret (Post.block_ret (Post.then_ret (Post.round_ret (Post.block_ret (Post.then_ret ?_))))))))
    refine Ze1 ?_
    exact⟨rfl,bel⟩
   |true=>
    simp only[hm] at hmay
    by_cases hlt:f.num<nx
    ·by_cases hk0:k=0
     ·skip
      refine Zdr 25 ?_
      intro w6 hw6 zw6
      replace bel:=bel.step hw6
      replace k1:=k1.step hw6
      replace k5:=k5.step hw6
      have zbel:=bel.size
      have zlt:=k5.lt
      refine Zd (fun w hG=>Runs.loadW rfl rfl Tryz.underlying81 rfl (k5.step hG) (m:=6) (by kernel_rfl) rfl) ?_
      refine Dr.callV rfl (fun w=>Ze Tryz.func118) rfl (fun w hG=>hmay _) ?_
      refine Zd (fun w hG=>Runs.not rfl rfl) ?_
      refine Zdm ?_
      refine Zdg (fun w hG=>Runs.fieldB 0 rfl rfl Tryz.underlying81 rfl (by kernel_rfl)) ?_
      refine Zdg (fun w hG=>Runs.loadB rfl rfl Tryz.underlying3 rfl (k5.step hG) rfl) ?_
      refine Zdg (fun w hG=>Runs.fieldB 1 rfl rfl Tryz.underlying38 rfl (by kernel_rfl)) ?_
      refine Zdg (fun w hG=>Runs.loadB rfl rfl Tryz.underlying3 rfl (k1.step hG) rfl) ?_
      refine Zdg (fun w hG=>(Runs.geq rfl rfl rfl).isF ((by omega))) ?_
      refine Zd (fun w hG=>Runs.pickF rfl rfl rfl) ?_
      refine Zdm ?_
      refine Zdg (fun w hG=>Runs.move rfl rfl) ?_
      refine Zdg (fun w hG=>(Runs.gtr rfl rfl rfl).isF ((by omega))) ?_
      refine Zdg (fun w hG=>Runs.move rfl rfl) ?_
      refine Zds ?_
      refine Zds ?_
      refine Zds ?_
      refine Zds ?_
      refine Zds ?_
      refine Zds ?_
      refine Zds ?_
      refine Zds ?_
      refine Zds ?_
      refine Zdg (fun w hG=>Runs.pickF rfl rfl rfl) ?_
      refine Zd (fun w hG=>Runs.pickF rfl rfl rfl) ?_
      refine Dr.nil ?_
      refine FinX.done (F':=[(1,_),(4,_),(5,_),(34,_),(35,_),(36,_),(37,_),(65,_)]) rfl ⟨rfl,rfl,rfl,rfl,rfl,rfl,rfl,rfl,trivial⟩ ?_
      intro w7 hw7 fw7
      replace bel:=bel.step hw7
      replace k1:=k1.step hw7
      replace k5:=k5.step hw7
      refine Zk8 1 4 5 34 35 36 37 65 (Zt ?_)
      refine Cd.condF rfl rfl ?_
      refine Cd.skip ?_
      exact Post.join () ⟨rfl,rfl,rfl,rfl,rfl,rfl,trivial⟩ ⟨by rw[hgd,hm,decide_eq_true hlt,if_pos hk0];rfl,bel,k1,k5⟩
     ·obtain⟨g,hg⟩:∃g,fs[k-1]? =some g:=⟨_,List.getElem?_eq_getElem (show k-1<fs.length by omega)⟩
      refine Zdr 25 ?_
      intro w6 hw6 zw6
      replace bel:=bel.step hw6
      replace k1:=k1.step hw6
      replace k5:=k5.step hw6
      have zbel:=bel.size
      have zlt:=k5.lt
      obtain⟨ad',had,-,-,hcg⟩:=hr.fl (bel.mono hB) hg
      injection had with had
      subst had
      refine Zd (fun w hG=>Runs.loadW rfl rfl Tryz.underlying81 rfl (k5.step hG) (m:=6) (by kernel_rfl) rfl) ?_
      refine Dr.callV rfl (fun w=>Ze Tryz.func118) rfl (fun w hG=>hmay _) ?_
      refine Zd (fun w hG=>Runs.not rfl rfl) ?_
      refine Zdm ?_
      refine Zdg (fun w hG=>Runs.fieldB 0 rfl rfl Tryz.underlying81 rfl (by kernel_rfl)) ?_
      refine Zdg (fun w hG=>Runs.loadB rfl rfl Tryz.underlying3 rfl (k5.step hG) rfl) ?_
      refine Zdg (fun w hG=>Runs.fieldB 1 rfl rfl Tryz.underlying38 rfl (by kernel_rfl)) ?_
      refine Zdg (fun w hG=>Runs.loadB rfl rfl Tryz.underlying3 rfl (k1.step hG) rfl) ?_
      refine Zdg (fun w hG=>(Runs.geq rfl rfl rfl).isF ((by omega))) ?_
      refine Zd (fun w hG=>Runs.pickF rfl rfl rfl) ?_
      refine Zdm ?_
      refine Zdg (fun w hG=>Runs.move rfl rfl) ?_
      refine Zdg (fun w hG=>(Runs.gtr rfl rfl rfl).isT ((by omega))) ?_
      refine Zdg (fun w hG=>Runs.move rfl rfl) ?_
      refine Zdg (fun w hG=>Runs.fieldB 3 rfl rfl Tryz.underlying38 rfl (by kernel_rfl)) ?_
      refine Zdg (fun w hG=>Runs.loadB rfl rfl Tryz.underlying36 rfl (k1.step hG) rfl) ?_
      refine Zdg (fun w hG=>Runs.move rfl rfl) ?_
      refine Zdg (fun w hG=>Runs.subI rfl rfl rfl (by omega) (by omega)) ?_
      refine Zdg (fun w hG=>Runs.indexN rfl rfl rfl Tryz.underlying36 (s:=6) (by kernel_rfl) (j:=k-1) (by omega) (by omega)) ?_
      refine Zdg (fun w hG=>Runs.loadF (ps:=[.int .i64 g.num, .int .i64 g.level, .string (strOf g.first), .string (strOf g.last), .int .i64 g.count, .int .i64 g.size]) rfl rfl Tryz.underlying81 rfl (m:=6) (by kernel_rfl) rfl (fun j v hj=>cell_grow (hcg j v hj) hG)) ?_
      refine Zdg (fun w hG=>Runs.loadW rfl rfl Tryz.underlying81 rfl (k5.step hG) (m:=6) (by kernel_rfl) rfl) ?_
      refine Dr.callVG rfl (fun w=>Ze Tryz.func66) rfl rfl rfl (fun w hG=>order_any g f _) ?_
      refine Zdg (fun w hG=>Runs.geq rfl rfl rfl) ?_
      refine Zdg (fun w hG=>Runs.pickT rfl rfl rfl) ?_
      refine Zd (fun w hG=>Runs.pickF rfl rfl rfl) ?_
      refine Dr.nil ?_
      refine FinX.done (F':=[(1,_),(4,_),(5,_),(34,_),(35,_),(36,_),(37,_),(65,_)]) rfl ⟨rfl,rfl,rfl,rfl,rfl,rfl,rfl,rfl,trivial⟩ ?_
      intro w7 hw7 fw7
      replace bel:=bel.step hw7
      replace k1:=k1.step hw7
      replace k5:=k5.step hw7
      refine Zk8 1 4 5 34 35 36 37 65 (Zt ?_)
      refine Cd.cond rfl (fun h=> ?_) (fun h=> ?_)
      ·rw[hbad (by rw[hgd,hm,decide_eq_true hlt,if_neg hk0,hg];simp at h⊢;omega)]
       refine Zsr ?_
       refine Za ?_
       refine Zk9 1 2 4 5 34 35 36 37 65 (Zt (Cd.ret (Post.then_ret (Post.block_ret (Post.then_ret (Post.round_ret (Post.block_ret (Post.then_ret ?_))))))))
       refine Ze1 ?_
       exact⟨rfl,bel⟩
      ·skip
       refine Cd.skip ?_
       exact Post.join () ⟨rfl,rfl,rfl,rfl,rfl,rfl,trivial⟩ ⟨by rw[hgd,hm,decide_eq_true hlt,if_neg hk0,hg];simp at h⊢;omega,bel,k1,k5⟩
    ·rw[hbad (by rw[hgd,hm,decide_eq_false hlt];rfl)]
     refine Zdr 25 ?_
     intro w6 hw6 zw6
     replace bel:=bel.step hw6
     replace k1:=k1.step hw6
     replace k5:=k5.step hw6
     have zbel:=bel.size
     have zlt:=k5.lt
     refine Zd (fun w hG=>Runs.loadW rfl rfl Tryz.underlying81 rfl (k5.step hG) (m:=6) (by kernel_rfl) rfl) ?_
     refine Dr.callV rfl (fun w=>Ze Tryz.func118) rfl (fun w hG=>hmay _) ?_
     refine Zd (fun w hG=>Runs.not rfl rfl) ?_
     refine Zdm ?_
     refine Zdg (fun w hG=>Runs.fieldB 0 rfl rfl Tryz.underlying81 rfl (by kernel_rfl)) ?_
     refine Zdg (fun w hG=>Runs.loadB rfl rfl Tryz.underlying3 rfl (k5.step hG) rfl) ?_
     refine Zdg (fun w hG=>Runs.fieldB 1 rfl rfl Tryz.underlying38 rfl (by kernel_rfl)) ?_
     refine Zdg (fun w hG=>Runs.loadB rfl rfl Tryz.underlying3 rfl (k1.step hG) rfl) ?_
     refine Zdg (fun w hG=>(Runs.geq rfl rfl rfl).isT ((by omega))) ?_
     refine Zd (fun w hG=>Runs.pickF rfl rfl rfl) ?_
     refine Zdm ?_
     refine Zds ?_
     refine Zds ?_
     refine Zds ?_
     refine Dr.skipU rfl rfl rfl rfl ?_
     refine Dr.skipU rfl rfl rfl rfl ?_
     refine Dr.skipU rfl rfl rfl rfl ?_
     refine Dr.skipU rfl rfl rfl rfl ?_
     refine Dr.skipU rfl rfl rfl rfl ?_
     refine Dr.skipU rfl rfl rfl rfl ?_
     refine Dr.skipU rfl rfl rfl rfl ?_
     refine Dr.skipU rfl rfl rfl rfl ?_
     refine Dr.skipU rfl rfl rfl rfl ?_
     refine Zds ?_
     refine Zd (fun w hG=>Runs.pickT rfl rfl rfl) ?_
     refine Dr.nil ?_
     refine FinX.done (F':=[(1,_),(4,_),(5,_),(34,_),(35,_),(36,_),(37,_),(65,_)]) rfl ⟨rfl,rfl,rfl,rfl,rfl,rfl,rfl,rfl,trivial⟩ ?_
     intro w7 hw7 fw7
     replace bel:=bel.step hw7
     replace k1:=k1.step hw7
     replace k5:=k5.step hw7
     refine Zk8 1 4 5 34 35 36 37 65 (Zt ?_)
     refine Cd.condT rfl rfl ?_
     refine Zsr ?_
     refine Za ?_
     refine Zk9 1 2 4 5 34 35 36 37 65 (Zt (Cd.ret (Post.then_ret (Post.block_ret (Post.then_ret (Post.round_ret (Post.block_ret (Post.then_ret ?_))))))))
     refine Ze1 ?_
     exact⟨rfl,bel⟩
  clear bel k1 k5
  rintro⟨⟩ wr ⟨hgood,bel,k1,k5⟩
  refine Zsr ?_
  refine Zf 3 Tryz.underlying38 ?_
  refine ZL Tryz.underlying36 k1 ?_
  refine Zm ?_
  refine Zv (Runs.sliceN (j:=k) rfl rfl rfl Tryz.underlying36 (s:=6) (by kernel_rfl) rfl (by omega)) ?_
  refine Zv (Runs.len rfl rfl Tryz.underlying36) ?_
  refine Zm ?_
  refine Zk9 1 4 5 34 35 36 69 70 71 (Zt (Cd.block ?_))
  refine Cd.loop (σ:=Nat) (fun j=>[(1, .pointer (some ⟨g1,0,none⟩)),(5, .pointer (some ⟨g5,0,none⟩)),(34, .slice (some ad) fs.length cap),(35, .int .i64 (fs.length:Int)),(36, .int .i64 (k:Int)),(69, .slice (some ad) k cap),(70, .int .i64 (k:Int)),(71, .int .i64 (j:Int))])
   (fun j wr=>j≤k∧(∀y∈fs.take j,clashB f y=false)∧Below w.heap.size w wr∧Blk wr g1 38 #[.int .i64 lg, .int .i64 nx, .int .i64 sq, .slice (some ad) fs.length cap]∧Blk wr g5 81 f.cs) (fun j=>k-j) 0 ⟨Nat.zero_le _,by simp,bel,k1,k5⟩ ⟨rfl,rfl,rfl,rfl,rfl,rfl,rfl,rfl,trivial⟩ ?_
  clear bel k1 k5
  rintro j wr2 ⟨hj,hcl,bel,k1,k5⟩
  refine Zsr ?_
  refine Zls ?_
  refine Zk9 1 5 34 35 36 69 70 71 72 (Zts ?_)
  refine Cd.condD rfl (fun hc=> ?_) (fun hc=> ?_)
  ·obtain⟨g,hg⟩:∃g,fs[j]? =some g:=⟨_,List.getElem?_eq_getElem (show j<fs.length by omega)⟩
   obtain⟨ad',had,-,-,hcg⟩:=hr.fl (bel.mono hB) hg
   injection had with had
   subst had
   have htk:fs.take (j+1)=fs.take j++[g]:=by rw[List.take_add_one,hg];rfl
   refine Cd.skip (Zts (Cd.block (Zsr ?_)))
   refine Zv (Runs.indexN rfl rfl rfl Tryz.underlying36 (s:=6) (by kernel_rfl) (j:=j) rfl (by omega)) ?_
   refine Zv (Runs.loadF (ps:=[.int .i64 g.num, .int .i64 g.level, .string (strOf g.first), .string (strOf g.last), .int .i64 g.count, .int .i64 g.size]) rfl rfl Tryz.underlying81 rfl (m:=6) (by kernel_rfl) rfl hcg) ?_
   refine Zl zero_edit_File ?_
   intro g7 w6 n7
   have e7:=Nat.le_trans bel.size n7.ge
   have l7:=Nat.lt_of_lt_of_le k5.lt n7.ge
   have l7_k1:=Nat.lt_of_lt_of_le k1.lt n7.ge
   replace bel:=bel.step n7.below
   replace k1:=k1.step n7.below
   replace k5:=k5.step n7.below
   have k7:=n7.blk
   refine Zo 6 k7 ?_
   intro w7 pw7
   replace bel:=bel.put k7 pw7 e7
   replace k1:=k1.put pw7 (by omega)
   replace k5:=k5.put pw7 (by omega)
   replace k7:=pw7.blk
   refine Zk10 1 5 7 34 35 36 69 70 71 72 (Ztq ?_)
   refine Zf 0 Tryz.underlying81 ?_
   refine ZL Tryz.underlying3 k5 ?_
   refine Zf 0 Tryz.underlying81 ?_
   refine ZL Tryz.underlying3 k7 ?_
   refine Zqi ?_
   refine Zm ?_
   refine SeqC.start ?_
   refine Zco (fun hcx=>Runs.fieldB 1 rfl rfl Tryz.underlying81 rfl (by kernel_rfl)) ?_
   refine Zn (fun hcx=>Runs.loadB rfl rfl Tryz.underlying3 rfl k5 rfl) ?_
   refine Zn (fun hcx=>Runs.fieldB 1 rfl rfl Tryz.underlying81 rfl (by kernel_rfl)) ?_
   refine Zn (fun hcx=>Runs.loadB rfl rfl Tryz.underlying3 rfl k7 rfl) ?_
   refine Zn (fun hcx=>Runs.eqlI rfl rfl rfl) ?_
   refine Znm ?_
   refine Zco (fun hcx=>Runs.fieldB 1 rfl rfl Tryz.underlying81 rfl (by kernel_rfl)) ?_
   refine Zn (fun hcx=>Runs.loadB rfl rfl Tryz.underlying3 rfl k5 rfl) ?_
   refine Zn (fun hcx=>Runs.gtr rfl rfl rfl) ?_
   refine SeqC.andG rfl rfl rfl rfl rfl rfl rfl rfl rfl rfl rfl ?_
   refine Znm ?_
   refine Zco (fun hcx=>Runs.loadW rfl rfl Tryz.underlying81 rfl k5 (m:=6) (by kernel_rfl) rfl) ?_
   refine Zn (fun hcx=>Runs.loadW rfl rfl Tryz.underlying81 rfl k7 (m:=6) (by kernel_rfl) rfl) ?_
   refine SeqC.nextC rfl rfl rfl rfl rfl rfl rfl (fun hcx=>Ze Tryz.func119) (fun hcx=>overlap_any f g _) ?_
   intro w8 hw8
   replace bel:=bel.step hw8
   replace k1:=k1.step hw8
   replace k5:=k5.step hw8
   replace k7:=k7.step hw8
   refine SeqC.andG rfl rfl rfl rfl rfl rfl rfl rfl rfl rfl rfl ?_
   refine Zor ?_
   refine Zk11 1 5 7 34 35 36 69 70 71 72 96 (Zt ?_)
   refine Cd.cond rfl (fun h=> ?_) (fun h=> ?_)
   ·have hany:(fs.take k).any (clashB f)=true:=by
     rw[List.any_eq_true]
     refine⟨g,?_,by unfold clashB;exact h⟩
     rw[List.mem_take_iff_getElem]
     obtain⟨h1,h2⟩:=List.getElem?_eq_some_iff.1 hg
     exact⟨j,by omega,h2⟩
    rw[hno (by rw[hsu,hany];simp)]
    refine Zsr ?_
    refine Za ?_
    refine Zk12 1 2 5 7 34 35 36 69 70 71 72 96 (Zt (Cd.ret (Post.block_ret (Post.then_ret (Post.round_ret (Post.block_ret (Post.block_ret (Post.then_ret (Post.round_ret (Post.block_ret (Post.then_ret ?_)))))))))))
    refine Ze1 ?_
    exact⟨rfl,bel⟩
   ·have hne:clashB f g=false:=by unfold clashB;exact h
    refine Cd.skip (Post.block_normal (Ztr ?_))
    refine Za_ ?_
    refine Zm ?_
    refine Zk11 1 5 7 34 35 36 69 70 71 72 96 ?_
    refine Post.round (j+1) ⟨rfl,rfl,rfl,rfl,rfl,rfl,rfl,rfl,trivial⟩ ⟨by omega,fun y hy=> ?_,bel,k1,k5⟩ (by omega)
    rw[htk] at hy
    rcases List.mem_append.1 hy with hy|hy
    ·exact hcl y hy
    ·simp at hy;subst hy;exact hne
  ·obtain rfl:j=k:=by omega
   have hany:(fs.take j).any (clashB f)=false:=by
    rw[List.any_eq_false]
    exact fun y hy=>by rw[hcl y hy];simp
   rw[hgood,hany] at hsu
   refine Cd.exit (Post.then_exit (Post.round_exit (Post.block_exit (Post.block_normal (Ztr ?_)))))
   refine Za_ ?_
   refine Zm ?_
   refine Zk9 1 5 34 35 36 69 70 71 72 ?_
   exact Post.round (j+1) ⟨rfl,rfl,rfl,rfl,trivial⟩ ⟨by omega,by rw[hsu];rfl,bel,k1⟩ (by omega)
 ·obtain rfl:k=fs.length:=by omega
  rw[hrt]
  refine Cd.exit (Post.then_exit (Post.round_exit (Post.block_exit (Ztq ?_))))
  refine Za ?_
  refine Zk6 1 2 34 35 36 37 (Zt (Cd.ret ?_))
  refine Ze1 ?_
  exact⟨rfl,bel⟩
end Go.Proofs.YtdpipgidpkmolaaGreatDoor
namespace Go.Proofs.YtdpipgidpkmolaaGreatDoor
open Go.RowKit
theorem clone_nil (w:World):Calls Tryz.prog 30 #[.slice none 0 0] w fun e w'=>e= .returned (.slice none 0 0)∧Grow w w':=by
 have bel:=Below.refl w.heap.size w
 refine Zs 8 Tryz.func30 ?_
 refine Zsr ?_
 refine Za ?_
 refine Zk2 0 2 (Zts (Zsr ?_))
 refine Zm ?_
 refine Zv (Runs.eqlN rfl rfl rfl Tryz.underlying36) ?_
 refine Zk3 0 2 4 (Zt ?_)
 refine Cd.condT rfl rfl ?_
 refine Zsr ?_
 refine Za ?_
 refine Zk3 0 2 4 (Zt (Cd.ret (Post.then_ret ?_)))
 refine Ze1 ?_
 exact⟨rfl,bel⟩
end Go.Proofs.YtdpipgidpkmolaaGreatDoor
namespace Go.Proofs.YtdpipgidpkmolaaGreatDoor
open Go.RowKit
section
variable {P:Program} {ops:Array Oper} {Q:Exit→Act→World→Prop} {n:Nat} {F0:List (Nat × Value)} {G:World→World→Prop} {w0:World} {CH:List Nat} {J:Nat→World→Prop} {L:List Nat} {B:Env→Prop} {k:Nat} {o:Oper} {r:List Oper} {Γ:Env} {Φ:Value→World→Prop}
end
structure Mf (B:Nat)(w w':World):Prop where
 below:Below (min B w.heap.size) w w'
 keep:∀k t cs,Blk w k t cs→t≠65→t≠100→t≠111→t≠70→Blk w' k t cs
section
variable {B:Nat} {w w' w'':World}
theorem Mf.refl (B:Nat)(w:World):Mf B w w:=⟨Below.refl _ _,fun _ _ _ h _ _ _ _=>h⟩
theorem Mf.trans (h:Mf B w w')(k:Mf B w' w''):Mf B w w'':=⟨h.below.trans (k.below.mono (by have:=h.below.size;omega)),fun i t cs hb h1 h2 h3 h4=>k.keep i t cs (h.keep i t cs hb h1 h2 h3 h4) h1 h2 h3 h4⟩
theorem Mf.mf (h:Mf B w w')(k:Mf B w' w''):Mf B w w'':=h.trans k
theorem Mf.lf (h:Mf B w w')(k:Lf B w' w''):Mf B w w'':=h.trans ⟨k.below,fun i t cs hb h1 h2 h3 _=>k.keep i t cs hb h1 h2 h3⟩
theorem Mf.df (h:Mf B w w')(k:Df B w' w''):Mf B w w'':=h.lf (Lf.of k)
theorem Mf.step (h:Mf B w w')(k:Below w'.heap.size w' w''):Mf B w w'':=h.df (Df.grow k)
theorem Mf.size (h:Mf B w w'):w.heap.size≤w'.heap.size:=h.below.size
theorem Mf.to (h:Mf B w w')(hB:B≤w.heap.size):Below B w w':=by have:=h.below;rwa [Nat.min_eq_left hB] at this
theorem Mf.putX {g:Nat}{T:TypeId}{cur cs:Array Value}(h:Mf B w w')(k:Blk w' g T cur)(p:Put w' w'' g T cs)(ht:(B≤g∧T=70)∨w.heap.size≤g):Mf B w w'':=by
 refine⟨h.below.trans (p.below (by omega) k.lt),fun i t cs' hb h3 h4 h5 h6=>(h.keep i t cs' hb h3 h4 h5 h6).grown p.grown (fun e=> ?_)⟩
 injection e with e
 have hb1:=h.keep i t cs' hb h3 h4 h5 h6
 have hb2:=hb.lt
 rcases ht with ⟨-,h2⟩|h1
 ·have h7:w'.heap[i]? =some (.cells cs' t):=hb1
  have h8:w'.heap[g]? =some (.cells cur T):=k
  rw[←e,h7] at h8
  injection h8 with h8
  injection h8 with _ h8
  exact h6 (h8.trans h2)
 ·omega
theorem Mf.put {B' g:Nat}{T:TypeId}{cur cs:Array Value}(h:Mf B w w')(k:Blk w' g T cur)(p:Put w' w'' g T cs)(e:B'≤g)(ht:(B≤B'∧T=70)∨w.heap.size≤B':=by first|exact .inl ⟨by omega,rfl⟩|exact .inr (by omega)):Mf B w w'':=
 h.putX k p (by rcases ht with ⟨h1,h2⟩|h1;exact .inl ⟨by omega,h2⟩;exact .inr (by omega))
theorem Gv.mf (h:Gv w)(f:Mf B w w')(hB:max 2 1 <B:=by omega):Gv w':=h.below f.below (by have:=h.top;omega)
end
def OpN (B gd:Nat)(nm:List Nat)(v:Value)(w:World):Prop:=∃g,v= .tuple #[.pointer (some ⟨g,0,none⟩), .slice none 0 0, .int .i64 0]∧B≤g∧Blk w g 111 ((⟨0,0,0,false⟩:Wl).cs gd nm)
theorem OpN.stable {B gd:Nat}{nm:List Nat}:∀v w w',Grow w w'→OpN B gd nm v w→OpN B gd nm v w':=fun _ _ _ h ⟨g,e,h1,h2⟩=>⟨g,e,h1,h2.step h⟩
def OpG (B gd:Nat)(nm:List Nat)(v:Value)(w:World):Prop:=∃g,v= .pointer (some ⟨g,0,none⟩)∧B≤g∧Blk w g 111 ((⟨0,0,0,false⟩:Wl).cs gd nm)
theorem OpG.stable {B gd:Nat}{nm:List Nat}:∀v w w',Grow w w'→OpG B gd nm v w→OpG B gd nm v w':=fun _ _ _ h ⟨g,e,h1,h2⟩=>⟨g,e,h1,h2.step h⟩
def NoNum (B gd:Nat)(D:Dk)(nm:List Nat):Prop:=∀g0 w,Gv w→Blk w g0 111 (wlCs gd nm 0 0 0 false)→DkAt w B gd D→Calls Tryz.prog 56 #[.pointer (some ⟨g0,0,none⟩)] w fun e w'=>∃v,e= .returned v∧Own w' w.heap.size 3 1 v 0 []∧Grow w w'
theorem noNum_empty {B gd:Nat}{D:Dk}{nm:List Nat}(hnm:Byt nm)(hnl:nm.length≤8)(h0:D.files=[]):NoNum B gd D nm:=fun g0 w gv k0 dk=>by
 refine(numbers_any B g0 gd D nm 0 0 0 false w gv k0 dk hnm hnl (fun p hp=>by rw[h0] at hp;cases hp)).mono fun e w' ⟨v,ns,e1,_,hm,own,hg⟩=> ?_
 have hns:ns=[]:=by
  refine List.eq_nil_iff_forall_not_mem.2 fun n hn=> ?_
  have h2:=((hm n).1 hn).2
  rw[h0] at h2
  simp at h2
 subst hns
 exact⟨v,e1,own,hg⟩
theorem openN_any (B gd:Nat)(D:Dk)(nm:List Nat)(w:World)(gv:Gv w)(dk:DkAt w B gd D)(hoff:D.off=false)(hr:rightN nm=true)(hnm:Byt nm)(hno:NoNum B gd D nm):
  Calls Tryz.prog 27 #[.pointer (some ⟨gd,0,none⟩), .string (strOf nm)] w fun e w'=>∃v,e= .returned v∧Grow w w'∧OpN B gd nm v w':=by
 have bel:=Below.refl w.heap.size w
 have hBw:=dk.size
 have hnl:nm.length≤8:=by
  unfold rightN at hr
  rw[Bool.and_eq_true,Bool.and_eq_true,decide_eq_true_eq,decide_eq_true_eq] at hr
  exact hr.2.2
 refine Zs 68 Tryz.func27 ?_
 refine Zsr ?_
 refine Za ?_
 refine Za ?_
 refine Za ?_
 refine Zk5 0 1 4 5 6 (Zts (Cd.block (Zsr ?_)))
 refine Zm ?_
 refine Zv (Runs.eqlP rfl rfl rfl Tryz.underlying26) ?_
 refine Zm ?_
 refine SeqC.start ?_
 refine Zco (fun hcx=>Runs.move rfl rfl) ?_
 refine SeqC.nextC rfl rfl rfl rfl rfl rfl rfl (fun hcx=>Ze Tryz.func54) (fun hcx=>right_w_any nm _ hnm (by omega)) ?_
 intro w1 hw1
 replace bel:=bel.step hw1
 replace dk:=dk.step hw1
 replace gv:=gv.step hw1
 rw[hr]
 refine Zn (fun hcx=>Runs.not rfl rfl) ?_
 refine Zor ?_
 refine Za ?_
 refine Zk6 0 1 4 5 6 15 (Zt ?_)
 refine Cd.condF rfl rfl ?_
 refine Zsr ?_
 refine Zm ?_
 refine Zc (Ze Tryz.func55) (on_any B gd D _ dk) ?_
 rw[hoff]
 rintro e w5 ⟨rfl,hb5⟩
 refine⟨_,rfl,?_⟩
 replace bel:=bel.step hb5
 replace dk:=dk.step hb5
 replace gv:=gv.step hb5
 refine Zno ?_
 refine Za ?_
 refine Zk7 0 1 4 5 6 15 23 (Zt ?_)
 refine Cd.condF rfl rfl ?_
 refine Cd.skip (Post.block_normal (Ztq ?_))
 refine Zm ?_
 refine Zm ?_
 have hsz5:=bel.size
 refine Zv (Runs.build rfl rfl (run_build_wal gd nm _)) ?_
 refine Seq.box rfl rfl rfl rfl rfl ?_
 intro g30 w2 n30
 have e30:=Nat.le_trans bel.size n30.ge
 replace bel:=bel.step n30.below
 replace dk:=dk.step n30.below
 replace gv:=gv.step n30.below
 have k30:=n30.blk
 refine Za ?_
 refine Zk8 0 1 4 5 6 7 15 23 (Ztq ?_)
 refine Za ?_
 refine Zk9 0 1 4 5 6 7 8 15 23 (Zts (Zsr ?_))
 refine Zm ?_
 have k30:Blk _ g30 111 (wlCs gd nm 0 0 0 false):=k30
 refine Zc (Ze Tryz.func56) (hno g30 _ gv k30 dk) ?_
 rintro e w7 ⟨v32,rfl,ownN,hb7⟩
 refine⟨_,rfl,?_⟩
 replace bel:=bel.step hb7
 replace dk:=dk.step hb7
 replace gv:=gv.step hb7
 replace k30:=k30.step hb7
 obtain⟨A,c,rfl,-⟩:=ownN.reads
 refine Zv (Runs.len rfl rfl Tryz.underlying40) ?_
 refine Zm ?_
 refine Zk12 0 1 4 5 6 7 8 15 23 32 33 34 (Zt (Cd.block ?_))
 refine Cd.loop (σ:=Unit) (fun _=>[(7, .pointer (some ⟨g30,0,none⟩)),(8, .slice none 0 0),(32, .slice A 0 c),(33, .int .i64 0),(34, .int .i64 0)]) (fun _ wr=>Below w.heap.size w wr∧Blk wr g30 111 (wlCs gd nm 0 0 0 false)) (fun _=>0) () ⟨bel,k30⟩ ⟨rfl,rfl,rfl,rfl,rfl,trivial⟩ ?_
 clear dk bel gv k30
 rintro _ wr ⟨bel,k30⟩
 show Cd _ _ _ _ [(7, .pointer (some ⟨g30,0,none⟩)),(8, .slice none 0 0),(32, .slice A 0 c),(33, .int .i64 0),(34, .int .i64 0)] _
 refine Zsr ?_
 refine Zls ?_
 refine Zk6 7 8 32 33 34 35 (Zts ?_)
 refine Cd.cond rfl (fun h=> ?_) (fun h=> ?_)
 ·cases h
 ·skip
  refine Cd.exit (Post.then_exit (Post.round_exit (Post.block_exit (Ztq ?_))))
  refine Zm ?_
  refine Zm ?_
  refine Za ?_
  refine Za ?_
  refine Za ?_
  refine Zk9 4 5 6 7 8 32 33 34 35 (Zt (Cd.ret ?_))
  refine Post.end3 rfl rfl rfl rfl (.inl rfl) ?_
  exact⟨_,rfl,bel,g30,rfl,by omega,k30⟩
theorem encB_few (lg nx sq:Int)(h1:I64 lg)(h2:I64 nx)(h3:I64 sq):Byt (encB lg nx sq [] [])∧(encB lg nx sq [] []).length≤100:=by
 unfold encB
 have a1:=grp_lt (sgn_lt h1)
 have a2:=grp_lt (sgn_lt h2)
 have a3:=grp_lt (sgn_lt h3)
 have a4:=grp_lt (n:=0) (by omega)
 have l1:=grp_len (sgn lg)
 have l2:=grp_len (sgn nx)
 have l3:=grp_len (sgn sq)
 have l4:=grp_len 0
 refine⟨?_,?_⟩
 ·intro d hd
  simp only[List.length_nil,List.flatMap_nil,List.append_nil,List.nil_append,List.mem_append] at hd
  rcases hd with h|h|h|h|h
  ·exact a1 d h
  ·exact a2 d h
  ·exact a3 d h
  ·exact a4 d h
  ·exact a4 d h
 ·simp only[List.length_nil,List.flatMap_nil,List.append_nil,List.nil_append,List.length_append]
  omega
set_option maxHeartbeats 4000000 in
theorem begin_new (B g0 gd gen:Nat)(D D1 D2:Dk)(W1:Wl)(nm:List Nat)(lg nx sq:Int)(c1 c2 c3 c4 c5 c6 c7 c8:Value)(w:World)(gv:Gv w)(hgB:max 2 1 <B)(e0:B≤g0)(k0:Blk w g0 70 #[.pointer (some ⟨gd,0,none⟩),c1,c2,c3,c4,c5,c6,c7,c8]) (dk:DkAt w B gd D) (h0:D.files.length=0) (hno:NoNum B gd D nm) (hoff:D.off=false) (hg:gen≤675) (hnm:nm=[109,97+gen/26,97+gen%26])
  (hlg:I64 lg) (hnx:I64 nx) (hsq:I64 sq) (hlaid:laidB lg nx sq [] []=true) (hA:appW ⟨0,0,0,false⟩ D nm (encB lg nx sq [] [])=(W1,D1,0)) (hp:pointW D1 gen=(D2,0)):
  Calls Tryz.prog 25 #[.pointer (some ⟨g0,0,none⟩), .int .i64 (gen:Int), .agg #[.int .i64 lg, .int .i64 nx, .int .i64 sq, .slice none 0 0, .slice none 0 0]] w fun e w'=>e= .returned (.int .i64 0)∧∃gl,Blk w' g0 70 #[.pointer (some ⟨gd,0,none⟩), .int .i64 (gen:Int), .pointer (some ⟨gl,0,none⟩),c3,c4,c5,c6,c7,c8]∧Blk w' gl 111 (W1.cs gd nm)∧B≤gl∧DkAt w' B gd D2∧Mf B w w':=by
 have mf:=Mf.refl B w
 have hBw:=dk.size
 refine Zs 65 Tryz.func25 ?_
 refine Zsr ?_
 refine Seq.box rfl rfl rfl rfl rfl ?_
 intro g4 w1 n4
 have l4:=Nat.lt_of_lt_of_le k0.lt n4.ge
 replace mf:=mf.step n4.below
 replace gv:=gv.step n4.below
 replace k0:=k0.step n4.below
 replace dk:=dk.step n4.below
 have k4:=n4.blk
 refine Seq.box rfl rfl rfl rfl rfl ?_
 intro g5 w2 n5
 have l5:=Nat.lt_of_lt_of_le k4.lt n5.ge
 have l5_k0:=Nat.lt_of_lt_of_le k0.lt n5.ge
 replace mf:=mf.step n5.below
 replace gv:=gv.step n5.below
 replace k0:=k0.step n5.below
 replace dk:=dk.step n5.below
 replace k4:=k4.step n5.below
 have k5:=n5.blk
 refine Za ?_
 refine Zk6 0 1 2 4 5 6 (Zts (Zsr ?_))
 refine Zm ?_
 refine Zv (Runs.nilCheck rfl rfl) ?_
 refine Zf 0 Tryz.underlying70 ?_
 refine ZL Tryz.underlying26 k0 ?_
 refine Zv (Runs.makeFunc (v:= .func (.func 48) #[] #[.pointer (some ⟨g4,0,none⟩)]) rfl (show evL _ _=some [] from rfl) (show evL _ _=some [.pointer (some ⟨g4,0,none⟩)] from rfl) rfl) ?_
 refine Zc (Ze Tryz.func22) (sweep_none B gd D _ _ dk h0) ?_
 rintro e w6 ⟨rfl,hb6⟩
 refine⟨_,rfl,?_⟩
 replace mf:=mf.step hb6
 replace gv:=gv.step hb6
 replace k0:=k0.step hb6
 replace dk:=dk.step hb6
 replace k4:=k4.step hb6
 replace k5:=k5.step hb6
 refine Zm ?_
 refine Zx ?_
 refine Zx ?_
 refine Za ?_
 refine Za ?_
 refine Zk7 0 1 2 4 5 6 8 (Ztq ?_)
 refine Zm ?_
 refine Zni ?_
 refine Zk8 0 1 2 4 5 6 8 23 (Zt ?_)
 refine Cd.condF rfl rfl ?_
 have hr:rightN nm=true:=by
  rw[hnm]
  unfold rightN
  simp
  omega
 have hnb:Byt nm:=by
  rw[hnm]
  intro d hd
  simp at hd
  omega
 have hnl:nm.length=3:=by rw[hnm];rfl
 have hnc:∀w,Calls Tryz.prog 28 #[.int .i64 (gen:Int)] w fun e w'=>e= .returned (.string (strOf nm))∧Grow w w':=fun w=>by
  rw[hnm]
  exact name_any gen w hg
 refine Cd.skip (Zts ?_)
 have hop:=openN_any B gd D nm
 refine Cd.draw 11 (by kernel_rfl) [9,10] (.inr (fun _ _ d _ _ h=>by cases d<;>exact h)) rfl Grow Grow.refl (fun _ _ _=>Grow.trans) ?_
 intro w3 hw3 zw3
 replace mf:=mf.step hw3
 replace gv:=gv.step hw3
 replace k0:=k0.step hw3
 replace dk:=dk.step hw3
 replace k4:=k4.step hw3
 replace k5:=k5.step hw3
 have zlt:=k5.lt
 refine Zdm ?_
 refine Zd (fun w hG=>Runs.nilCheck rfl rfl) ?_
 refine Zdf 0 Tryz.underlying70 ?_
 refine ZdL Tryz.underlying26 k0 ?_
 refine ZdL Tryz.underlying3 k4 ?_
 refine Dr.callV rfl (fun w=>Ze Tryz.func28) rfl (fun w hG=>hnc w) ?_
 refine Dr.call (Φ:=OpN B gd nm) rfl (fun w=>Ze Tryz.func27) rfl (OpN.stable) (fun w hG=>hop w (gv.step hG) (dk.step hG) hoff hr hnb hno) ?_
 refine Dr.val1 (j:=6) (Φ:=OpN B gd nm) Grow.refl rfl rfl rfl OpN.stable rfl (fun u w hG hu=>⟨_,Runs.move rfl rfl,hu⟩) ?_
 refine Dr.val1 (j:=7) (Φ:=OpG B gd nm) Grow.refl rfl rfl rfl OpG.stable rfl (fun u w hG hu=>by obtain⟨g,rfl,h⟩:=hu;exact⟨_,Runs.extract rfl rfl rfl,g,rfl,h⟩) ?_
 refine Dr.late1 (j:=7) rfl rfl rfl rfl (fun u w w' hG hu=>by obtain⟨g,rfl,h⟩:=hu;exact Runs.extract rfl rfl rfl) Grow.refl rfl ?_
 refine Dr.late1 (j:=7) rfl rfl rfl rfl (fun u w w' hG hu=>by obtain⟨g,rfl,h⟩:=hu;exact Runs.extract rfl rfl rfl) Grow.refl rfl ?_
 refine Dr.nil ?_
 refine FinX.open (j:=8) rfl ?_
 intro u8
 refine FinX.done (F':=[(0,_),(1,_),(2,_),(4,_),(5,_),(6,_),(8,_),(23,_),(33,_),(34,_),(35,_)]) rfl ⟨rfl,rfl,rfl,rfl,rfl,rfl,rfl,rfl,rfl,rfl,rfl,trivial⟩ ?_
 intro w4 hw4 fw4
 replace mf:=mf.step hw4
 replace gv:=gv.step hw4
 replace k0:=k0.step hw4
 replace dk:=dk.step hw4
 replace k4:=k4.step hw4
 replace k5:=k5.step hw4
 obtain⟨g9,rfl,e9,k9⟩:=fw4.2
 have hne9:=k0.neT k9
 have hne4:=k0.neT k4
 have hne5:=k0.neT k5
 refine Za ?_
 refine Za ?_
 refine Za ?_
 refine Zk10 0 1 2 4 5 6 8 9 11 23 (Zts (Zsr ?_))
 refine Zm ?_
 refine Zni ?_
 refine Zk11 0 1 2 4 5 6 8 9 11 23 37 (Zt ?_)
 refine Cd.condF rfl rfl ?_
 refine Cd.skip (Ztq ?_)
 refine ZW 5 Tryz.underlying47 k5 ?_
 obtain⟨b,hb⟩:∃b,b=encB lg nx sq [] []:=⟨_,rfl⟩
 rw[←hb] at hA
 have hbb:Byt b∧b.length≤100:=by
  rw[hb]
  exact encB_few lg nx sq hlg hnx hsq
 refine Zc (Ze Tryz.func32) (encode_any lg nx sq B none none 0 0 [] [] _ Reads.none_ Reads.none_ (Nat.le_trans hBw mf.size) hlg hnx hsq (by simp) (by simp) (by simp) (by simp) hlaid) ?_
 rw[←hb]
 rintro e w8 ⟨rfl,hb8⟩
 refine⟨_,rfl,?_⟩
 replace mf:=mf.step hb8
 replace gv:=gv.step hb8
 replace k0:=k0.step hb8
 replace dk:=dk.step hb8
 replace k4:=k4.step hb8
 replace k9:=k9.step hb8
 replace k5:=k5.step hb8
 refine Zm ?_
 refine Zx ?_
 refine Zx ?_
 refine Za ?_
 refine Za ?_
 refine Zk12 0 1 2 4 5 6 8 9 11 12 23 37 (Zts (Zsr ?_))
 refine Zm ?_
 refine Zqi ?_
 refine Zk13 0 1 2 4 5 6 8 9 11 12 23 37 45 (Zt ?_)
 refine Cd.condT rfl rfl ?_
 refine Zr ?_
 refine Zm ?_
 refine Zm ?_
 refine Zc (Ze Tryz.func33) (append_w_any B g9 gd D nm b ⟨0,0,0,false⟩ _ gv hgB e9 k9 dk hnb (by omega) (by simp) (by simp) (by simp) hbb.1 (by omega)) ?_
 clear k9 dk
 rintro e w5 ⟨rfl,k9,dk,fw5⟩
 refine⟨_,rfl,?_⟩
 replace mf:=mf.lf fw5
 replace gv:=gv.lf fw5
 replace k0:=k0.lf fw5
 replace k4:=k4.lf fw5
 replace k5:=k5.lf fw5
 rw[hA] at k9 dk
 rw[hA]
 refine Za ?_
 refine Zk13 0 1 2 4 5 6 8 9 11 12 23 37 45 (Zts (Zsr ?_))
 refine Zm ?_
 refine Zqi ?_
 refine Zk14 0 1 2 4 5 6 8 9 11 12 23 37 45 50 (Zt ?_)
 refine Cd.condT rfl rfl ?_
 refine Zr ?_
 refine Zm ?_
 refine ZL Tryz.underlying3 k4 ?_
 refine Zc (Ze Tryz.func49) (point_any B g0 gd D1 gen c1 c2 c3 c4 c5 c6 c7 c8 _ gv hgB k0 dk (by omega)) ?_
 clear dk
 rintro e w6 ⟨rfl,dk,fw6⟩
 refine⟨_,rfl,?_⟩
 replace mf:=mf.df fw6
 replace gv:=gv.df fw6
 replace k0:=k0.df fw6
 replace k4:=k4.df fw6
 replace k9:=k9.df fw6
 replace k5:=k5.df fw6
 rw[hp] at dk
 rw[hp]
 refine Za ?_
 refine Zk14 0 1 2 4 5 6 8 9 11 12 23 37 45 50 (Zts (Zsr ?_))
 refine Zm ?_
 refine Zqi ?_
 refine Zk15 0 1 2 4 5 6 8 9 11 12 23 37 45 50 55 (Zt ?_)
 refine Cd.condT rfl rfl ?_
 refine Zr ?_
 refine Zm ?_
 refine Zm ?_
 refine ZL Tryz.underlying3 k4 ?_
 refine Zm ?_
 refine Zv (Runs.nilCheck rfl rfl) ?_
 refine Zf 1 Tryz.underlying70 ?_
 refine Zq k0 ?_
 intro w7 pw7
 replace mf:=mf.put k0 pw7 e0
 replace gv:=gv.put k0 pw7 e0
 replace dk:=dk.put k0 pw7 e0
 replace k4:=k4.put pw7 (by omega)
 replace k9:=k9.put pw7 (by omega)
 replace k5:=k5.put pw7 (by omega)
 replace k0:=pw7.blk
 refine Zv (Runs.nilCheck rfl rfl) ?_
 refine Zf 2 Tryz.underlying70 ?_
 refine Zq k0 ?_
 intro w8 pw8
 replace mf:=mf.put k0 pw8 e0
 replace gv:=gv.put k0 pw8 e0
 replace dk:=dk.put k0 pw8 e0
 replace k4:=k4.put pw8 (by omega)
 replace k9:=k9.put pw8 (by omega)
 replace k5:=k5.put pw8 (by omega)
 replace k0:=pw8.blk
 refine Zk15 0 1 2 4 5 6 8 9 11 12 23 37 45 50 55 (Ztq ?_)
 refine Zm ?_
 refine Za ?_
 refine Zk15 0 1 2 4 5 6 8 9 11 12 23 37 45 50 55 (Zt (Cd.ret ?_))
 refine Ze1 ?_
 exact⟨rfl,g9,k0,k9,e9,dk,mf⟩
end Go.Proofs.YtdpipgidpkmolaaGreatDoor
namespace Go.Proofs.YtdpipgidpkmolaaGreatDoor
open Go.RowKit
theorem run_build_man (gd:Nat)(w:World):(Instr.build 70 #[(0, .pointer (some ⟨gd,0,none⟩))]).run Tryz.prog w= .ok (.agg #[.pointer (some ⟨gd,0,none⟩), .int .i64 0, .pointer none, .int .i64 0, .int .i64 0, .int .i64 0, .slice none 0 0, .int .i64 0, .bool false]) w:=by
 have hu:=Tryz.underlying70
 go_simp
theorem run_build_ed3 (a b c:Int)(w:World):(Instr.build 47 #[(0, .int .i64 a),(1, .int .i64 b),(2, .int .i64 c)]).run Tryz.prog w= .ok (.agg #[.int .i64 a, .int .i64 b, .int .i64 c, .slice none 0 0, .slice none 0 0]) w:=by
 have hu:=Tryz.underlying47
 go_simp
set_option maxHeartbeats 4000000 in
theorem open_new (B gd:Nat)(D D1 D2:Dk)(W1:Wl)(w:World)(gv:Gv w)(hgB:max 2 1 <B)(dk:DkAt w B gd D)(h0:D.files.length=0)(hno:NoNum B gd D [109,97,97])(hoff:D.off=false)(hrd:D.readE curN=7)(hA:appW ⟨0,0,0,false⟩ D [109,97,97] (encB (-1) 1 (-1) [] [])=(W1,D1,0))(hp:pointW D1 0=(D2,0)):
  Calls Tryz.prog 8 #[.pointer (some ⟨gd,0,none⟩)] w fun e w'=>∃gm gl,e= .returned (.tuple #[.pointer (some ⟨gm,0,none⟩), .int .i64 0])∧Blk w' gm 70 #[.pointer (some ⟨gd,0,none⟩), .int .i64 0, .pointer (some ⟨gl,0,none⟩), .int .i64 0, .int .i64 1, .int .i64 0, .slice none 0 0, .int .i64 1, .bool false]∧Blk w' gl 111 (W1.cs gd [109,97,97])∧B≤gm∧B≤gl∧DkAt w' B gd D2∧Mf B w w':=by
 have mf:=Mf.refl B w
 have hBw:=dk.size
 refine Zs 82 Tryz.func8 ?_
 refine Zsr ?_
 refine Za ?_
 refine Za ?_
 refine Zk3 0 2 3 (Zts (Zsr ?_))
 refine Zm ?_
 refine Zv (Runs.eqlP rfl rfl rfl Tryz.underlying26) ?_
 refine Zk4 0 2 3 15 (Zt ?_)
 refine Cd.condF rfl rfl ?_
 refine Cd.skip (Ztq ?_)
 refine Zm ?_
 refine Zc (Ze Tryz.func21) (read_d_any B gd D curN _ dk (by decide)) ?_
 rw[hrd]
 rintro e w6 ⟨rfl,hb6⟩
 refine⟨_,rfl,?_⟩
 replace mf:=mf.step hb6
 replace gv:=gv.step hb6
 replace dk:=dk.step hb6
 refine Zm ?_
 refine Zx ?_
 refine Zx ?_
 refine Za ?_
 refine Za ?_
 refine Zk6 0 2 3 4 5 15 (Ztq ?_)
 refine Zm ?_
 refine Zv (Runs.build rfl rfl (run_build_man gd _)) ?_
 refine Seq.box rfl rfl rfl rfl rfl ?_
 intro g23 w1 n23
 replace mf:=mf.step n23.below
 replace gv:=gv.step n23.below
 replace dk:=dk.step n23.below
 have k23:=n23.blk
 refine Za ?_
 refine Zk7 0 2 3 4 5 6 15 (Zts (Zsr ?_))
 refine Zm ?_
 refine Zqi ?_
 refine Zk8 0 2 3 4 5 6 15 25 (Zt ?_)
 refine Cd.condT rfl rfl ?_
 refine Cd.seq (Zsr ?_)
 refine Zm ?_
 refine Zc (Ze Tryz.func22) (sweep_none B gd D _ _ dk h0) ?_
 rintro e w7 ⟨rfl,hb7⟩
 refine⟨_,rfl,?_⟩
 replace mf:=mf.step hb7
 replace gv:=gv.step hb7
 replace dk:=dk.step hb7
 replace k23:=k23.step hb7
 refine Zm ?_
 refine Zx ?_
 refine Zx ?_
 refine Za ?_
 refine Za ?_
 refine Zk9 0 2 3 4 5 6 8 15 25 (Ztq ?_)
 refine Zm ?_
 refine Zni ?_
 refine Zk10 0 2 3 4 5 6 8 15 25 32 (Zt ?_)
 refine Cd.condF rfl rfl ?_
 refine Cd.skip (Zts (Zsr ?_))
 refine Zm ?_
 refine Zv (Runs.build rfl rfl (run_build_ed3 (-1) 1 (-1) _)) ?_
 have e23:B≤g23:=Nat.le_trans (Nat.le_trans hBw hb6.size) n23.ge
 refine Zc (Ze Tryz.func25) (begin_new B g23 gd 0 D D1 D2 W1 [109,97,97] (-1) 1 (-1) _ _ _ _ _ _ _ _ _ gv hgB e23 k23 dk h0 hno hoff (by omega) rfl ⟨by omega,by omega⟩ ⟨by omega,by omega⟩ ⟨by omega,by omega⟩ (by decide) hA hp) ?_
 clear k23 dk
 rintro e w2 ⟨rfl,g9,k23,k9,e9,dk,fw2⟩
 refine⟨_,rfl,?_⟩
 replace mf:=mf.mf fw2
 replace gv:=gv.mf fw2
 have hne9:=k23.neT k9
 refine Za ?_
 refine Zk11 0 2 3 4 5 6 8 9 15 25 32 (Ztq ?_)
 refine Zm ?_
 refine Zni ?_
 refine Zk12 0 2 3 4 5 6 8 9 15 25 32 38 (Zt ?_)
 refine Cd.condF rfl rfl ?_
 refine Cd.skip (Ztq ?_)
 refine Zm ?_
 refine Zm ?_
 refine Zv (Runs.nilCheck rfl rfl) ?_
 refine Zf 3 Tryz.underlying70 ?_
 refine Zv (Runs.fieldA 1 rfl rfl Tryz.underlying38 rfl (by kernel_rfl)) ?_
 refine Zq k23 ?_
 intro wx px
 replace px:Put _ wx g23 70 _:=px
 replace mf:=mf.put k23 px e23
 replace gv:=gv.put k23 px e23
 replace dk:=dk.put k23 px e23
 replace k9:=k9.put px (by omega)
 replace k23:=px.blk
 refine Zv (Runs.nilCheck rfl rfl) ?_
 refine Zf 7 Tryz.underlying70 ?_
 refine Zq k23 ?_
 intro w3 pw3
 replace mf:=mf.put k23 pw3 e23
 replace gv:=gv.put k23 pw3 e23
 replace dk:=dk.put k23 pw3 e23
 replace k9:=k9.put pw3 (by omega)
 replace k23:=pw3.blk
 refine Zk12 0 2 3 4 5 6 8 9 15 25 32 38 (Ztq ?_)
 refine Zm ?_
 refine Za ?_
 refine Za ?_
 refine Zk12 0 2 3 4 5 6 8 9 15 25 32 38 (Zt (Cd.ret (Post.then_ret ?_)))
 refine Ze2 ?_
 exact⟨g23,g9,rfl,k23,k9,e23,e9,dk,mf⟩
theorem zero_edit_Version:zeroIs Tryz.prog 38=some (some (.agg #[.int .i64 0, .int .i64 0, .int .i64 0, .slice none 0 0])):=by kernel_rfl
theorem Blk.sub {w:World}{g off:Nat}{T:TypeId}{cs:Array Value}{ps:List Value}(k:Blk w g T cs)(h:∀j v,ps[j]? =some v→cs[off+j]? =some v):∀(j:Nat) (v:Value),ps[j]? =some v→w.cell? ((⟨g,off,none⟩:Addr).add j)=some v:=fun j v hj=>by
 have e:(⟨g,off,none⟩:Addr).add j=⟨g,off+j,none⟩:=by unfold Addr.add;split<;>simp_all
 rw[e,cell_of_row _ _ _ _ _ _ k]
 exact h j v hj
theorem sub_four {a0 a1 a2 b0 b1 b2 b3 c0 c1:Value}:∀(j:Nat) (v:Value),[b0,b1,b2,b3][j]? =some v→ #[a0,a1,a2,b0,b1,b2,b3,c0,c1][3+j]? =some v
 |0,_,h=>h
 |1,_,h=>h
 |2,_,h=>h
 |3,_,h=>h
 |j+4,_,h=>by simp at h
theorem version_new (gm:Nat)(p c1 c2 c8:Value)(lg nx sq next:Int)(w:World)(k0:Blk w gm 70 #[p,c1,c2, .int .i64 lg, .int .i64 nx, .int .i64 sq, .slice none 0 0, .int .i64 next,c8]):Calls Tryz.prog 10 #[.pointer (some ⟨gm,0,none⟩)] w fun e w'=>e= .returned (.agg #[.int .i64 lg, .int .i64 next, .int .i64 sq, .slice none 0 0])∧Grow w w':=by
 have bel:=Below.refl w.heap.size w
 refine Zs 21 Tryz.func10 ?_
 refine Zsr ?_
 refine Zl zero_edit_Version ?_
 intro g2 w1 n2
 have e2:=Nat.le_trans bel.size n2.ge
 have l2:=Nat.lt_of_lt_of_le k0.lt n2.ge
 replace bel:=bel.step n2.below
 replace k0:=k0.step n2.below
 have k2:=n2.blk
 refine Zk2 0 2 (Zts (Zsr ?_))
 refine Zm ?_
 refine Zv (Runs.eqlP rfl rfl rfl Tryz.underlying28) ?_
 refine Zk3 0 2 5 (Zt ?_)
 refine Cd.condF rfl rfl ?_
 refine Cd.skip (Ztq ?_)
 refine Zm ?_
 refine Zv (Runs.nilCheck rfl rfl) ?_
 refine Zf 3 Tryz.underlying70 ?_
 refine Zv (Runs.loadF (ps:=[.int .i64 lg, .int .i64 nx, .int .i64 sq, .slice none 0 0]) rfl rfl Tryz.underlying38 rfl (m:=4) (by kernel_rfl) rfl (k0.sub sub_four)) ?_
 refine Zl zero_edit_Version ?_
 intro g3 w2 n3
 have e3:=Nat.le_trans bel.size n3.ge
 have l3:=Nat.lt_of_lt_of_le k2.lt n3.ge
 replace bel:=bel.step n3.below
 replace k0:=k0.step n3.below
 replace k2:=k2.step n3.below
 have k3:=n3.blk
 refine Zo 4 k3 ?_
 intro w3 pw3
 replace bel:=bel.put k3 pw3 e3
 replace k0:=k0.put pw3 (by omega)
 replace k2:=k2.put pw3 (by omega)
 replace k3:=pw3.blk
 refine Zk4 0 2 3 5 (Ztq ?_)
 refine Zm ?_
 refine Zv (Runs.nilCheck rfl rfl) ?_
 refine Zf 7 Tryz.underlying70 ?_
 refine ZL Tryz.underlying3 k0 ?_
 refine Zf 1 Tryz.underlying38 ?_
 refine Zq k3 ?_
 intro w4 pw4
 replace bel:=bel.put k3 pw4 e3
 replace k0:=k0.put pw4 (by omega)
 replace k2:=k2.put pw4 (by omega)
 replace k3:=pw4.blk
 refine Zk4 0 2 3 5 (Ztq ?_)
 refine Zf 3 Tryz.underlying38 ?_
 refine ZL Tryz.underlying36 k3 ?_
 refine Zc (Ze Tryz.func30) (clone_nil _) ?_
 rintro e w7 ⟨rfl,hb7⟩
 refine⟨_,rfl,?_⟩
 replace bel:=bel.step hb7
 replace k0:=k0.step hb7
 replace k2:=k2.step hb7
 replace k3:=k3.step hb7
 refine Zf 3 Tryz.underlying38 ?_
 refine Zq k3 ?_
 intro w5 pw5
 replace bel:=bel.put k3 pw5 e3
 replace k0:=k0.put pw5 (by omega)
 replace k2:=k2.put pw5 (by omega)
 replace k3:=pw5.blk
 refine Zk4 0 2 3 5 (Ztq ?_)
 refine ZW 4 Tryz.underlying38 k3 ?_
 refine Zo 4 k2 ?_
 intro w6 pw6
 replace bel:=bel.put k2 pw6 e2
 replace k0:=k0.put pw6 (by omega)
 replace k3:=k3.put pw6 (by omega)
 replace k2:=pw6.blk
 refine Zk4 0 2 3 5 (Zt (Cd.ret ?_))
 refine Zec 4 k2 Tryz.underlying38 ?_
 exact⟨rfl,bel⟩
end Go.Proofs.YtdpipgidpkmolaaGreatDoor
namespace Go.Proofs.YtdpipgidpkmolaaGreatDoor
open Go.RowKit
def genN (g:Nat):List Nat:=[109,97+g/26,97+g%26]
theorem genN_byt {g:Nat}(h:g≤675):Byt (genN g):=by
 intro d hd
 simp[genN] at hd
 omega
theorem breaks_any (e:Int)(w:World):Calls Tryz.prog 34 #[.int .i64 e] w fun r w'=>r= .returned (.bool (decide (e≠0)&&decide (e≠5)&&decide (e≠4)))∧Grow w w':=by
 have bel:=Below.refl w.heap.size w
 refine Zs 13 Tryz.func34 ?_
 refine Zsr ?_
 refine Za ?_
 refine Zk2 0 2 (Ztq ?_)
 refine Zm ?_
 refine Zni ?_
 refine Zm ?_
 refine SeqC.start ?_
 refine Zco (fun hcx=>Runs.move rfl rfl) ?_
 refine Zn (fun hcx=>Runs.neqI rfl rfl rfl) ?_
 refine Zan ?_
 refine Zm ?_
 refine SeqC.start ?_
 refine Zco (fun hcx=>Runs.move rfl rfl) ?_
 refine Zn (fun hcx=>Runs.neqI rfl rfl rfl) ?_
 refine Zan ?_
 refine Za ?_
 refine Zk2 0 2 (Zt (Cd.ret ?_))
 refine Ze1 ?_
 exact⟨rfl,bel⟩
set_option maxHeartbeats 4000000 in
theorem gen_cur (s:List Nat)(w:World)(gv:Gv w)(ha:∀c∈s,c<46∨46<c)(hb:Byt s)(hl:s.length≤1000000):Calls Tryz.prog 24 #[.string (strOf s)] w fun e w'=>e= .returned (.int .i64 (-1))∧Grow w w':=by
 have bel:=Below.refl w.heap.size w
 refine Zs 51 Tryz.func24 ?_
 refine Zsr ?_
 refine Za ?_
 refine Zk2 0 2 (Ztq ?_)
 refine Zm ?_
 refine Zc (Ze Tryz.func47) (cutNo_any s _ gv ha hb hl) ?_
 rintro e w5 ⟨rfl,hb5⟩
 refine⟨_,rfl,?_⟩
 replace bel:=bel.step hb5
 refine Zm ?_
 refine Zx ?_
 refine Zx ?_
 refine Zx ?_
 refine Za ?_
 refine Za ?_
 refine Za ?_
 refine Zk4 0 2 3 5 (Zts (Zsr ?_))
 refine Zm ?_
 refine Zno ?_
 refine Zm ?_
 refine Seq.skipG rfl rfl rfl rfl rfl rfl ?_
 refine Seq.skipG rfl rfl rfl rfl rfl rfl ?_
 refine Seq.skipG rfl rfl rfl rfl rfl rfl ?_
 refine Zv (Runs.pickT rfl rfl rfl) ?_
 refine Zm ?_
 refine Seq.skipG rfl rfl rfl rfl rfl rfl ?_
 refine Seq.skipG rfl rfl rfl rfl rfl rfl ?_
 refine Seq.skipG rfl rfl rfl rfl rfl rfl ?_
 refine Zv (Runs.pickT rfl rfl rfl) ?_
 refine Zk5 0 2 3 5 25 (Zt ?_)
 refine Cd.condT rfl rfl ?_
 refine Zsr ?_
 refine Za ?_
 refine Zk5 0 2 3 5 25 (Zt (Cd.ret (Post.then_ret ?_)))
 refine Ze1 ?_
 exact⟨rfl,bel⟩
set_option maxHeartbeats 4000000 in
theorem gen_log (g:Nat)(r:List Nat)(w:World)(gv:Gv w)(hg:g≤675)(hl:r.length≤1000):Calls Tryz.prog 24 #[.string (strOf (genN g++46::r))] w fun e w'=>e= .returned (.int .i64 (g:Int))∧Grow w w':=by
 have bel:=Below.refl w.heap.size w
 obtain⟨x,hx⟩:∃x,x=g/26:=⟨_,rfl⟩
 obtain⟨y,hy⟩:∃y,y=g%26:=⟨_,rfl⟩
 have hgx:g=x*26+y:=by omega
 have hx26:x<26:=by omega
 have hy26:y<26:=by omega
 have hnm:genN g=[109,97+x,97+y]:=by unfold genN;rw[←hx,←hy]
 rw[hnm]
 have hnb:Byt [109,97+x,97+y]:=by
  intro d hd
  simp at hd
  omega
 have hnb2:Byt [97+x,97+y]:=by
  intro d hd
  simp at hd
  omega
 clear hx hy hnm
 refine Zs 51 Tryz.func24 ?_
 refine Zsr ?_
 refine Za ?_
 refine Zk2 0 2 (Ztq ?_)
 refine Zm ?_
 refine Zc (Ze Tryz.func47) (cut_any [109,97+x,97+y] r _ gv (fun c hc=>by simp at hc;omega) hnb (by simp;omega)) ?_
 rintro e w5 ⟨rfl,hb5⟩
 refine⟨_,rfl,?_⟩
 replace bel:=bel.step hb5
 refine Zm ?_
 refine Zx ?_
 refine Zx ?_
 refine Zx ?_
 refine Za ?_
 refine Za ?_
 refine Za ?_
 refine Zk4 0 2 3 5 (Zts (Zsr ?_))
 refine Zm ?_
 refine Zno ?_
 refine Zm ?_
 refine Seq.valG (Runs.move rfl rfl) rfl rfl rfl rfl rfl ?_
 refine Seq.valG (Runs.lenL rfl rfl Tryz.underlying9) rfl rfl rfl rfl rfl ?_
 refine Seq.valG (Runs.neqI rfl rfl rfl) rfl rfl rfl rfl rfl ?_
 refine Zv (Runs.pickF rfl rfl rfl) ?_
 refine Zm ?_
 refine Seq.valG (Runs.move rfl rfl) rfl rfl rfl rfl rfl ?_
 refine Seq.valG (Runs.indexL rfl rfl rfl Tryz.underlying9 (j:=0) rfl rfl (by omega)) rfl rfl rfl rfl rfl ?_
 refine Seq.valG (Runs.neqI rfl rfl rfl) rfl rfl rfl rfl rfl ?_
 refine Zv (Runs.pickF rfl rfl rfl) ?_
 refine Zk5 0 2 3 5 25 (Zt ?_)
 refine Cd.condF rfl rfl ?_
 refine Cd.skip (Zts (Zsr ?_))
 refine Zm ?_
 refine Zv (Runs.sliceFrom (j:=1) rfl rfl rfl Tryz.underlying9 rfl (by simp)) ?_
 refine Seq.convSB rfl rfl Tryz.underlying9 Tryz.underlying103 Tryz.underlying5 hnb2 rfl rfl rfl ?_
 intro g6 c w2 hcc hn
 replace bel:=bel.step hn.below
 have hrd:Reads w2 w2.heap.size 1 (some ⟨g6,0,none⟩) 2 (Bt [97+x,97+y]):=hn.reads
 clear hn
 obtain⟨A,hA⟩:∃A,A=some (⟨g6,0,none⟩:Addr):=⟨_,rfl⟩
 rw[←hA] at hrd⊢
 clear hA
 have hb2:=Below.refl w2.heap.size w2
 have bel0:=bel
 clear bel
 have bel:=hb2
 refine Zv (Runs.len rfl rfl Tryz.underlying103) ?_
 refine Zm ?_
 refine Zk8 0 2 3 5 25 28 29 30 (Zt (Cd.block ?_))
 refine Cd.loop (σ:=Nat) (fun j=>[(3, .string (strOf [109,97+x,97+y])),(28, .slice A 2 c),(29, .int .i64 2),(30, .int .i64 (j:Int))]) (fun j wr=>j≤2∧Below w2.heap.size w2 wr) (fun j=>2-j) 0 ⟨Nat.zero_le _,bel⟩ ⟨rfl,rfl,rfl,rfl,trivial⟩ ?_
 clear bel
 rintro j wr ⟨hj,bel⟩
 refine Zsr ?_
 refine Zls ?_
 refine Zk5 3 28 29 30 31 (Zts ?_)
 refine Cd.condD rfl (fun hc=> ?_) (fun hc=> ?_)
 ·obtain⟨b,hb,hb1⟩:∃b,[97+x,97+y][j]? =some b∧97≤b∧b≤122:=by
   match j,hc with
   |0,_=>exact⟨_,rfl,by omega,by omega⟩
   |1,_=>exact⟨_,rfl,by omega,by omega⟩
   |j+2,hc=>omega
  obtain⟨ad,rfl,hbd,hcl⟩:=hrd.2 (by simp)
  have hcd:=(bel.cell (p:=ad.add j) (by rw[block_of_add];exact hbd)).trans (hcl j (.int .u8 (b:Int)) (by rw[get_Bt,hb];rfl))
  refine Cd.skip (Zts (Cd.block (Zsr ?_)))
  refine Zv (Runs.index1 rfl rfl rfl Tryz.underlying103 (by kernel_rfl) (j:=j) rfl (by omega)) ?_
  refine Zv (Runs.load1 rfl rfl Tryz.underlying5 rfl hcd) ?_
  refine Za ?_
  refine Zk6 3 7 28 29 30 31 (Ztq ?_)
  refine Zm ?_
  refine Zls ?_
  refine Zm ?_
  refine SeqC.start ?_
  refine Zco (fun hcx=>Runs.move rfl rfl) ?_
  refine Zn (fun hcx=>Runs.gtr rfl rfl rfl) ?_
  refine Zor ?_
  refine Zk7 3 7 28 29 30 31 39 (Zt ?_)
  refine Cd.condF rfl (by simp;omega) ?_
  refine Cd.skip (Post.block_normal (Ztr ?_))
  refine Za_ ?_
  refine Zm ?_
  refine Zk7 3 7 28 29 30 31 39 ?_
  refine Post.round (j+1) ⟨rfl,rfl,rfl,int_at (by omega),trivial⟩ ⟨by omega,bel⟩ (by omega)
 ·skip
  refine Cd.exit (Post.then_exit (Post.round_exit (Post.block_exit (Zts ?_))))
  refine Cd.weak (F':=[(3,_),(28,_),(29,_),(30,_),(31,_)]) ⟨rfl,rfl,rfl,rfl,rfl,trivial⟩ ?_
  refine Zdr 11 ?_
  intro w1 hw1 zw1
  replace bel:=bel.step hw1
  have zbel:=bel.size
  refine Zdm ?_
  refine Zd (fun w hG=>Runs.indexL rfl rfl rfl Tryz.underlying9 (j:=1) rfl rfl (by omega)) ?_
  refine Zd (fun w hG=>Runs.subW rfl rfl rfl (wrapB (by omega) (by omega))) ?_
  refine Zd (fun w hG=>Runs.convI rfl rfl Tryz.underlying5 Tryz.underlying3 (wrapI (by omega) (by omega))) ?_
  refine Zd (fun w hG=>Runs.mulI rfl rfl rfl (by omega) (by omega)) ?_
  refine Zdm ?_
  refine Zd (fun w hG=>Runs.indexL rfl rfl rfl Tryz.underlying9 (j:=2) rfl rfl (by omega)) ?_
  refine Zd (fun w hG=>Runs.subW rfl rfl rfl (wrapB (by omega) (by omega))) ?_
  refine Zd (fun w hG=>Runs.convI rfl rfl Tryz.underlying5 Tryz.underlying3 (wrapI (by omega) (by omega))) ?_
  refine Zd (fun w hG=>Runs.addI rfl rfl rfl (by omega) (by omega)) ?_
  refine Zd (fun w hG=>Runs.assign rfl rfl) ?_
  refine Dr.nil ?_
  refine FinX.done (F':=[(2,_),(3,_),(28,_),(29,_),(30,_),(31,_)]) rfl ⟨rfl,rfl,rfl,rfl,rfl,rfl,trivial⟩ ?_
  intro w2 hw2 fw2
  replace bel:=bel.step hw2
  refine Zk6 2 3 28 29 30 31 (Zt (Cd.ret ?_))
  refine Ze1 ?_
  exact⟨by rw[hgx];congr 2;omega,bel0.step bel⟩
end Go.Proofs.YtdpipgidpkmolaaGreatDoor
namespace Go.Proofs.YtdpipgidpkmolaaGreatDoor
open Go.RowKit
end Go.Proofs.YtdpipgidpkmolaaGreatDoor
namespace Go.Proofs.YtdpipgidpkmolaaGreatDoor
open Go.RowKit
theorem addr_add2 (ad:Addr)(a b:Nat):(ad.add a).add b=ad.add (a+b):=by
 unfold Addr.add
 by_cases ha:a=0
 ·subst ha;simp
 ·by_cases hb:b=0
  ·subst hb;simp[ha]
  ·simp[ha,hb,Nat.add_assoc]
theorem recsV_at {l:List (Nat × List Nat)}{i:Nat}{r:Nat × List Nat}(h:l[i]? =some r):∀(j:Nat) (v:Value),(recV r)[j]? =some v→(recsV l)[i*2+j]? =some v:=by
 intro j v hj
 have hj2:j<2:=(List.getElem?_eq_some_iff.1 hj).1
 induction l generalizing i with
 |nil=>cases h
 |cons x l ih=>
  have e:recsV (x::l)=recV x++recsV l:=by simp[recsV]
  have hx:(recV x).length=2:=rfl
  cases i with
  |zero=>
   injection h with h
   subst h
   rw[e,Nat.zero_mul,Nat.zero_add,List.getElem?_append_left (by omega)]
   exact hj
  |succ i=>
   rw[e,List.getElem?_append_right (by omega)]
   have:=ih (i:=i) (by simpa using h)
   rw[show(i+1)*2+j-(recV x).length=i*2+j by omega]
   exact this
theorem Reads.rec {w wr:World}{B n i:Nat}{A:Option Addr}{l:List (Nat × List Nat)}{r:Nat × List Nat}(h:Reads w B 2 A n (recsV l))(hb:Below B w wr)(hf:l[i]? =some r):∃ad,A=some ad∧ad.block<B∧i<n∧∀(j:Nat) (v:Value),(recV r)[j]? =some v→wr.cell? ((ad.add (i*2)).add j)=some v:=by
 have hl:=h.1
 rw[recsV_len] at hl
 have hi:=(List.getElem?_eq_some_iff.1 hf).1
 have hin:i<n:=by omega
 obtain⟨ad,rfl,hbl,hc⟩:=h.2 (by omega)
 exact⟨ad,rfl,hbl,hin,fun j v hj=>by
  rw[addr_add2]
  exact(hb.cell (by rw[block_of_add];exact hbl)).trans (hc _ _ (recsV_at hf j v hj))⟩
theorem Reads.rec_len {w:World}{B n:Nat}{A:Option Addr}{l:List (Nat × List Nat)}(h:Reads w B 2 A n (recsV l)):l.length=n:=by
 have hl:=h.1
 rw[recsV_len] at hl
 omega
section
variable {P:Program} {E:Operand→Option Value} {o:Oper} {w:World} {x:Operand} {T:TypeId}
end
end Go.Proofs.YtdpipgidpkmolaaGreatDoor
namespace Go.Proofs.YtdpipgidpkmolaaGreatDoor
open Go.RowKit
end Go.Proofs.YtdpipgidpkmolaaGreatDoor
namespace Go.Proofs.YtdpipgidpkmolaaGreatDoor
open Go.RowKit
theorem wipe_get (D:Dk)(x y:List Nat):(D.wipe x).get y=if y=x then none else D.get y:=by
 unfold Dk.get Dk.wipe
 show((D.files.filter fun p=>decide (p.1≠x)).find? (fun p=>decide (p.1=y))).map (fun(p:List Nat × Fil)=>p.2)=_
 rw[List.find?_filter]
 by_cases e:y=x
 ·rw[if_pos e]
  have:D.files.find? (fun a=>decide (decide (a.1≠x)=true∧decide (a.1=y)=true))=none:=by
   rw[List.find?_eq_none]
   intro p _
   simp
   intro h1 h2
   exact h1 (h2.trans e)
  rw[this]
  rfl
 ·rw[if_neg e]
  congr 2
  funext p
  by_cases h:p.1=y
  ·simp[h,e]
  ·simp[h]
theorem del_calm {D:Dk}{x:List Nat}(hc:D.calm)(hn:(D.files.map (·.1)).Nodup)(hx:nameOk x=true):
  D.dropE x=0∧(D.delete x).calm∧((D.delete x).files.map (·.1)).Nodup∧(D.delete x).room=D.room∧(D.delete x).used≤D.used∧(D.delete x).files.length≤D.files.length∧∀y,(D.delete x).get y=if y=x then none else D.get y:=by
 have hE:=thereE_calm hc (ns:=[x]) (by simpa using hx) x
 have ht:=tick_calm hc
 unfold Dk.dropE Dk.delete
 by_cases h:(D.get x).isSome=true
 ·rw[if_pos h] at hE
  rw[hE,if_neg (by decide),if_pos rfl,ht]
  have hu:=wipe_used (nm:=x) hn
  exact⟨rfl,⟨hc.off,hc.armed⟩,hn.sublist (List.Sublist.map _ List.filter_sublist),rfl,by omega,List.length_filter_le _ _,wipe_get D x⟩
 ·rw[if_neg h] at hE
  rw[hE,if_pos rfl,if_neg (by decide),ht]
  refine⟨rfl,hc,hn,rfl,Int.le_refl _,Nat.le_refl _,fun y=> ?_⟩
  by_cases e:y=x
  ·subst e
   rw[if_pos rfl]
   simpa using h
  ·rw[if_neg e]
theorem name_ok {nm k:List Nat}{n:Nat}(hnl:nm.length≤8)(hn:n≤999999)(hk:k.length=4):nameOk (fileN nm n k)=true:=by
 have hl:=fileN_len (nm:=nm) (k:=k) hn
 unfold nameOk
 rw[Bool.and_eq_true,decide_eq_true_eq,decide_eq_true_eq]
 refine⟨fun e=> ?_,by omega⟩
 rw[e] at hl
 simp at hl
 omega
section
variable {D:Dk} {W:Wl} {segs:List (Nat × List (List Nat))} {k:Nat}
end
end Go.Proofs.YtdpipgidpkmolaaGreatDoor
namespace Go.Proofs.YtdpipgidpkmolaaGreatDoor
open Go.RowKit
end Go.Proofs.YtdpipgidpkmolaaGreatDoor
namespace Go.Proofs.YtdpipgidpkmolaaGreatDoor
open Go.RowKit
end Go.Proofs.YtdpipgidpkmolaaGreatDoor
namespace Go.Proofs.YtdpipgidpkmolaaGreatDoor
open Go.RowKit
theorem rename_calm {D:Dk}{a b:List Nat}{f:Fil}(hc:D.calm)(hn:(D.files.map (·.1)).Nodup)(ha:nameOk a=true)(hb:nameOk b=true)(hf:D.get a=some f)(hne:a≠b):
  D.thereE [a,b] a=0∧(D.rename a b).calm∧((D.rename a b).files.map (·.1)).Nodup∧(D.rename a b).room=D.room∧(D.rename a b).used≤D.used∧(D.rename a b).files.length≤D.files.length∧∀x,(D.rename a b).get x=if x=b then some f else if x=a then none else D.get x:=by
 have h0:D.thereE [a,b] a=0:=by rw[thereE_calm hc (by simp[ha,hb]),hf];rfl
 have ht:=tick_calm hc
 have hR:D.rename a b= {(D.wipe b).wipe a with files:=((D.wipe b).wipe a).files++[(b,f)]}:=by
  unfold Dk.rename
  rw[if_neg (by rintro(h|h);exact h h0;exact hne h),hf,ht]
 have hn1:((D.wipe b).files.map (·.1)).Nodup:=hn.sublist (List.Sublist.map _ List.filter_sublist)
 have hn2:(((D.wipe b).wipe a).files.map (·.1)).Nodup:=hn1.sublist (List.Sublist.map _ List.filter_sublist)
 have hg1:(D.wipe b).get a=some f:=by rw[wipe_get,if_neg hne,hf]
 have hfo:(D.wipe b).fileOf a=f:=by rw[fileOf_eq,hg1];rfl
 have hu1:=wipe_used (nm:=a) hn1
 rw[hfo] at hu1
 have hu2:=wipe_used (nm:=b) hn
 have hnb:((D.wipe b).wipe a).get b=none:=by rw[wipe_get,if_neg (fun e=>hne e.symm),wipe_get,if_pos rfl]
 refine⟨h0,?_,?_,by rw[hR];rfl,?_,?_,fun x=> ?_⟩
 ·rw[hR];exact⟨hc.off,hc.armed⟩
 ·rw[hR]
  show((((D.wipe b).wipe a).files++[(b,f)]).map (·.1)).Nodup
  rw[List.map_append,List.nodup_append]
  refine⟨hn2,by simp,?_⟩
  intro y hy z hz
  simp at hz
  subst hz
  intro e
  subst e
  rw[mem_names,hnb] at hy
  cases hy
 ·rw[hR]
  show((usedL (((D.wipe b).wipe a).files++[(b,f)]):Nat):Int)≤_
  rw[usedL_app]
  have e2:usedL [(b,f)]=f.data.length:=by simp[usedL]
  have e3:((usedL ((D.wipe b).wipe a).files:Nat):Int)=((D.wipe b).wipe a).used:=rfl
  rw[e2]
  omega
 ·rw[hR]
  show(((D.wipe b).wipe a).files++[(b,f)]).length≤_
  have h3:(a,f)∈(D.wipe b).files:=by
   unfold Dk.wipe
   rw[List.mem_filter]
   exact⟨get_mem hf,by simpa using hne⟩
  have h4:((D.wipe b).wipe a).files.length<(D.wipe b).files.length:=by
   show((D.wipe b).files.filter _).length<_
   rw[List.length_filter_lt_length_iff_exists]
   exact⟨(a,f),h3,by simp⟩
  have h5:(D.wipe b).files.length≤D.files.length:=List.length_filter_le _ _
  rw[List.length_append,List.length_singleton]
  omega
 ·rw[hR]
  have hap:Dk.get {(D.wipe b).wipe a with files:=((D.wipe b).wipe a).files++[(b,f)]} x=(((D.wipe b).wipe a).get x).or (if x=b then some f else none):=by
   unfold Dk.get
   show((((D.wipe b).wipe a).files++[(b,f)]).find? _).map _=_
   rw[List.find?_append]
   cases e1:((D.wipe b).wipe a).files.find? (fun p=>decide (p.1=x)) with
   |some p=>rfl
   |none=>
    by_cases e:x=b
    ·subst e
     rw[if_pos rfl]
     simp
    ·rw[if_neg e]
     rw[List.find?_cons_of_neg (by simpa using fun e2=>e e2.symm)]
     rfl
  rw[hap]
  by_cases e:x=b
  ·subst e
   rw[if_pos rfl,if_pos rfl,hnb]
   rfl
  ·rw[if_neg e,if_neg e,Option.or_none,wipe_get,wipe_get,if_neg e]
end Go.Proofs.YtdpipgidpkmolaaGreatDoor
namespace Go.Proofs.YtdpipgidpkmolaaGreatDoor
open Go.RowKit
theorem point_calm {D:Dk}{gen:Nat}(hc:D.calm)(hn:(D.files.map (·.1)).Nodup)(hfew:D.files.length<200)(hroom:22≤D.room-D.used)(hno:D.get freshN=none):
  ∃D2,pointW D gen=(D2,0)∧D2.calm∧(D2.files.map (·.1)).Nodup∧D2.room=D.room∧D2.used≤D.used+22∧D2.files.length≤D.files.length+1∧∀x,D2.get x=if x=curN then some (full (frameN (grp gen))) else if x=freshN then none else D.get x:=by
 have hfr:nameOk freshN=true:=by decide
 have hcu:nameOk curN=true:=by decide
 have hgl:=grp_len gen
 have hFl:=frameN_len (grp gen)
 have h0:D.thereE [freshN] freshN=7:=by rw[thereE_calm hc (by simpa using hfr),hno];rfl
 obtain⟨-,a2,a3,a4,a5,a6,a7⟩:=del_calm hc hn hfr
 obtain⟨D1,hD1⟩:∃D1,D1=D.delete freshN:=⟨_,rfl⟩
 rw[←hD1] at a2 a3 a4 a5 a6 a7
 obtain⟨F,hF⟩:∃F,F=frameN (grp gen):=⟨_,rfl⟩
 rw[←hF] at hFl
 have hg1:D1.get freshN=none:=by rw[a7,if_pos rfl]
 have hfo:D1.fileOf freshN=full []:=by rw[fileOf_eq,hg1];rfl
 obtain⟨b1,b2,b3,b4,b5,b6,b7,b8⟩:=app_sync (D:=D1) (a:=freshN) (s:=F) a2 a3 hfr (.inr (by omega)) (by rw[hfo];show 0+_≤_;omega) (by omega)
 obtain⟨D2,hD2⟩:∃D2,D2=D1.append freshN F:=⟨_,rfl⟩
 rw[←hD2] at b2 b3 b4 b5 b6 b7 b8
 obtain⟨D3,hD3⟩:∃D3,D3=D2.sync freshN:=⟨_,rfl⟩
 rw[←hD3] at b3 b4 b5 b6 b7 b8
 have hg3:D3.get freshN=some (full F):=by
  rw[b8,if_pos rfl,hfo]
  rfl
 obtain⟨c1,c2,c3,c4,c5,c6,c7⟩:=rename_calm (D:=D3) (a:=freshN) (b:=curN) b3 b4 hfr hcu hg3 (by decide)
 refine⟨D3.rename freshN curN,?_,c2,c3,by rw[c4,b5,a4],by omega,by omega,fun x=> ?_⟩
 ·unfold pointW
  rw[←hD1,←hF,←hD2,←hD3,if_neg (by rw[h0];simp),if_neg (by rw[b1];simp),if_neg (by rw[b2];simp),c1]
 ·rw[c7,←hF]
  by_cases e1:x=curN
  ·rw[if_pos e1,if_pos e1]
  ·rw[if_neg e1,if_neg e1]
   by_cases e2:x=freshN
   ·rw[if_pos e2,if_pos e2]
   ·rw[if_neg e2,if_neg e2,b8,if_neg e2,a7,if_neg e2]
theorem leN_trans (a b c:List Nat)(h:leN a b=true)(k:leN b c=true):leN a c=true:=by
 unfold leN at h k⊢
 rw[decide_eq_true_eq] at h k⊢
 exact List.le_trans h k
theorem leN_total (a b:List Nat):(leN a b||leN b a)=true:=by
 unfold leN
 rw[Bool.or_eq_true,decide_eq_true_eq,decide_eq_true_eq]
 exact List.le_total _ _
theorem sortN_of {l r:List (List Nat)}(hn:l.Nodup)(hr:r.Nodup)(hm:∀x,x∈l↔x∈r)(hs:r.Pairwise fun a b=>leN a b=true)(ha:∀a∈r,∀b∈r,leN a b=true→leN b a=true→a=b):sortN l=r:=by
 have hp:(sortN l).Perm l:=List.mergeSort_perm _ _
 have hp2:l.Perm r:=(List.perm_ext_iff_of_nodup hn hr).2 hm
 have h1:(sortN l).Pairwise fun a b=>leN a b=true:=List.pairwise_mergeSort leN_trans leN_total l
 exact List.Perm.eq_of_pairwise (fun a b h2 h3=>ha a ((hp.trans hp2).mem_iff.1 h2) b h3) h1 hs (hp.trans hp2)
def logA:List Nat:=[109,97,97,46,48,48,48,48,48,48,46,108,111,103]
def ackA:List Nat:=[109,97,97,46,48,48,48,48,48,48,46,97,99,107]
theorem man_new:∃W1 D1 D2,appW ⟨0,0,0,false⟩ (Dk.new 1000) [109,97,97] (encB (-1) 1 (-1) [] [])=(W1,D1,0)∧pointW D1 0=(D2,0)∧sortN (D2.files.map (·.1))=[curN,ackA,logA]∧D2.files.length=3:=by
 obtain⟨hb,hbl⟩:=encB_few (-1) 1 (-1) ⟨by omega,by omega⟩ ⟨by omega,by omega⟩ ⟨by omega,by omega⟩
 obtain⟨b,hbe⟩:∃b,b=encB (-1) 1 (-1) [] []:=⟨_,rfl⟩
 rw[←hbe] at hb hbl⊢
 have hW:WlIs (Dk.new 1000) [109,97,97] ⟨0,0,0,false⟩ []:=WlIs.opened LogIs.nil
 have hused:(Dk.new 1000).used=0:=rfl
 have hroom:(Dk.new 1000).room=1000:=rfl
 have hfil:(Dk.new 1000).files.length=0:=rfl
 obtain⟨D1,segs,q1,q2,q3,q4,q5,q6⟩:=hW.append (data:=b) (by decide) hb (by omega) (by simp) (by simp) (by simp only;omega) (by omega) (by omega)
 have hL:=q2.log
 have hsegs:segs=[(0,[b])]:=by
  cases segs with
  |nil=>cases q3
  |cons s r=>
   have hs:=(hL.recs s List.mem_cons_self).1
   have e1:recsOf (s::r)=(s.2.map fun x=>(s.1,x))++recsOf r:=by simp[recsOf]
   have e2:recsOf ([]:List (Nat × List (List Nat)))=[]:=rfl
   rw[e1,e2,List.nil_append] at q3
   obtain⟨n,l⟩:=s
   simp only at q3 hs
   cases l with
   |nil=>exact absurd rfl hs
   |cons y l=>
    rw[List.map_cons,List.cons_append] at q3
    injection q3 with p1 p2
    injection p1 with p1 p3
    rw[List.append_eq_nil_iff] at p2
    obtain⟨p4,p5⟩:=p2
    have hl:l=[]:=by simpa using p4
    have hr:r=[]:=by
     cases r with
     |nil=>rfl
     |cons t r2=>
      exfalso
      have ht:=(hL.recs t (by simp)).1
      have e3:recsOf (t::r2)=(t.2.map fun x=>(t.1,x))++recsOf r2:=by simp[recsOf]
      rw[e3,List.append_eq_nil_iff] at p5
      have:=p5.1
      simp at this
      exact ht this
    rw[hl,hr,p1,p3]
 have eL:fileN [109,97,97] 0 logK=logA:=by unfold fileN dig6;rw[decN];rfl
 have eA:fileN [109,97,97] 0 ackK=ackA:=by unfold fileN dig6;rw[decN];rfl
 have hown:∀x,(D1.get x).isSome=true↔x=logA∨x=ackA:=fun x=>by
  constructor
  ·intro hx
   obtain⟨s,hs,e⟩:=hL.own x hx
   rw[hsegs] at hs
   simp at hs
   subst hs
   simp only at e
   rw[eL,eA] at e
   exact e
  ·intro hx
   have h1:=hL.log (0,[b]) (by rw[hsegs];simp)
   have h2:=hL.ack (0,[b]) (by rw[hsegs];simp)
   simp only at h1 h2
   rw[eL] at h1
   rw[eA] at h2
   rcases hx with e|e
   ·rw[e,h1];rfl
   ·rw[e,h2];rfl
 have hno:D1.get freshN=none:=by
  cases e:D1.get freshN with
  |none=>rfl
  |some f=>
   have h9:¬(freshN=logA∨freshN=ackA):=by decide
   exact absurd ((hown freshN).1 (by rw[e];rfl)) h9
 obtain⟨D2,r1,r2,r3,r4,r5,r6,r7⟩:=point_calm (D:=D1) (gen:=0) hL.calm hL.nd (by omega) (by omega) hno
 have hmem:∀x,x∈D2.files.map (·.1)↔x∈ [curN,ackA,logA]:=fun x=>by
  rw[mem_names,r7]
  by_cases e1:x=curN
  ·rw[if_pos e1,e1]
   simp
  ·rw[if_neg e1]
   by_cases e2:x=freshN
   ·rw[if_pos e2,e2]
    decide
   ·rw[if_neg e2,hown]
    simp[e1,or_comm]
 have hs:sortN (D2.files.map (·.1))=[curN,ackA,logA]:=sortN_of r3 (by decide) hmem (by decide) (by decide)
 refine⟨_,D1,D2,q1,r1,hs,?_⟩
 have hp:(sortN (D2.files.map (·.1))).Perm (D2.files.map (·.1)):=List.mergeSort_perm _ _
 have:=hp.length_eq
 rw[hs,List.length_map] at this
 exact this.symm
end Go.Proofs.YtdpipgidpkmolaaGreatDoor
namespace Go.Proofs.YtdpipgidpkmolaaGreatDoor
open Go.RowKit
section
variable {B:Nat} {w w' w'':World}
end
end Go.Proofs.YtdpipgidpkmolaaGreatDoor
namespace Go.Proofs.YtdpipgidpkmolaaGreatDoor
open Go.RowKit
def genOf:List Nat→Int
 |109::x::y::46::_=>((x:Int)-97)*26+((y:Int)-97)
 |_=> -1
def ManNm (s:List Nat):Prop:=s=curN∨∃g k,g≤675∧(k=logK∨k=ackK)∧s=fileN (genN g) 0 k
theorem genOf_gen {g:Nat}(h:g≤675)(r:List Nat):genOf (genN g++46::r)=(g:Int):=by
 show(((97+g/26:Nat):Int)-97)*26+(((97+g%26:Nat):Int)-97)=_
 omega
theorem fileN_gen (g:Nat)(k:List Nat):fileN (genN g) 0 k=genN g++46::(dig6 0++k):=by unfold fileN;simp
theorem ManNm.byt {s:List Nat}(h:ManNm s):Byt s∧s.length≤24∧nameOk s=true:=by
 rcases h with rfl|⟨g,k,hg,hk,rfl⟩
 ·exact⟨show∀c∈curN,c<256 by decide,by decide,by decide⟩
 ·have hb:=genN_byt hg
  have hl:(dig6 0).length=6:=dig6_len (by omega)
  have hkl:k.length=4:=by rcases hk with rfl|rfl<;>rfl
  refine⟨?_,?_,name_ok (show 3≤8 by decide) (by omega) hkl⟩
  ·rw[fileN_gen]
   intro c hc
   rcases List.mem_append.1 hc with hc|hc
   ·exact hb c hc
   ·rcases List.mem_cons.1 hc with hc|hc
    ·omega
    ·rcases List.mem_append.1 hc with hc|hc
     ·have:=dig6_lt 0 c hc;omega
     ·have h2:∀c∈k,c<256:=by rcases hk with rfl|rfl<;>decide
      exact h2 c hc
  ·rw[fileN_gen]
   simp only[List.length_append,List.length_cons,hl,hkl]
   show 3+_≤24
   omega
theorem gen_any (s:List Nat)(w:World)(gv:Gv w)(h:ManNm s):Calls Tryz.prog 24 #[.string (strOf s)] w fun e w'=>e= .returned (.int .i64 (genOf s))∧Grow w w':=by
 rcases h with rfl|⟨g,k,hg,hk,rfl⟩
 ·exact gen_cur curN w gv (by decide) (show∀c∈curN,c<256 by decide) (by decide)
 ·have hkl:k.length=4:=by rcases hk with rfl|rfl<;>rfl
  have hl:(dig6 0).length=6:=dig6_len (by omega)
  rw[fileN_gen,genOf_gen hg]
  exact gen_log g _ w gv hg (by simp[hl,hkl])
theorem begin1_any (s:List Nat)(z:Int)(g9:Nat)(w:World)(gv:Gv w)(h:ManNm s)(k9:Blk w g9 3 #[.int .i64 z]):Calls Tryz.prog 48 #[.string (strOf s), .pointer (some ⟨g9,0,none⟩)] w fun e w'=>e= .returned (.bool (decide (genOf s=z)))∧Grow w w':=by
 have bel:=Below.refl w.heap.size w
 have hgc:=fun W (hb:Below w.heap.size w W)=>gen_any s W (gv.step hb) h
 refine Zs 8 Tryz.func48 ?_
 refine Zsr ?_
 refine Za ?_
 refine Zk3 0 1 3 (Zts ?_)
 refine Cd.weak (F':=[(0,_),(1,_)]) ⟨rfl,rfl,trivial⟩ ?_
 refine Zdr 5 ?_
 intro w1 hw1 zw1
 replace bel:=bel.step hw1
 replace k9:=k9.step hw1
 have zbel:=bel.size
 have zlt:=k9.lt
 refine Zdm ?_
 refine Dr.callV rfl (fun w=>Ze Tryz.func24) rfl (fun w hG=>hgc w (bel.step hG)) ?_
 refine Zd (fun w hG=>(Runs.loadB rfl rfl Tryz.underlying3 rfl (k9.step hG) rfl)) ?_
 refine Zd (fun w hG=>Runs.eqlI rfl rfl rfl) ?_
 refine Zd (fun w hG=>Runs.assign rfl rfl) ?_
 refine Dr.nil ?_
 refine FinX.done (F':=[(0,_),(1,_),(3,_)]) rfl ⟨rfl,rfl,rfl,trivial⟩ ?_
 intro w2 hw2 fw2
 replace bel:=bel.step hw2
 replace k9:=k9.step hw2
 refine Zk3 0 1 3 (Zt (Cd.ret ?_))
 refine Ze1 ?_
 exact⟨rfl,bel⟩
theorem roll1_any (s:List Nat)(z:Int)(g9:Nat)(w:World)(gv:Gv w)(h:ManNm s)(k9:Blk w g9 3 #[.int .i64 z]):Calls Tryz.prog 37 #[.string (strOf s), .pointer (some ⟨g9,0,none⟩)] w fun e w'=>e= .returned (.bool (decide (genOf s=z)))∧Grow w w':=by
 have bel:=Below.refl w.heap.size w
 have hgc:=fun W (hb:Below w.heap.size w W)=>gen_any s W (gv.step hb) h
 refine Zs 8 Tryz.func37 ?_
 refine Zsr ?_
 refine Za ?_
 refine Zk3 0 1 3 (Zts ?_)
 refine Cd.weak (F':=[(0,_),(1,_)]) ⟨rfl,rfl,trivial⟩ ?_
 refine Zdr 5 ?_
 intro w1 hw1 zw1
 replace bel:=bel.step hw1
 replace k9:=k9.step hw1
 have zbel:=bel.size
 have zlt:=k9.lt
 refine Zdm ?_
 refine Dr.callV rfl (fun w=>Ze Tryz.func24) rfl (fun w hG=>hgc w (bel.step hG)) ?_
 refine Zd (fun w hG=>(Runs.loadB rfl rfl Tryz.underlying3 rfl (k9.step hG) rfl)) ?_
 refine Zd (fun w hG=>Runs.eqlI rfl rfl rfl) ?_
 refine Zd (fun w hG=>Runs.assign rfl rfl) ?_
 refine Dr.nil ?_
 refine FinX.done (F':=[(0,_),(1,_),(3,_)]) rfl ⟨rfl,rfl,rfl,trivial⟩ ?_
 intro w2 hw2 fw2
 replace bel:=bel.step hw2
 replace k9:=k9.step hw2
 refine Zk3 0 1 3 (Zt (Cd.ret ?_))
 refine Ze1 ?_
 exact⟨rfl,bel⟩
theorem eg_begin1:∀args w,(callFunc 48 args).run Tryz.prog w= .ok (.enter 48 args) w:=fun args w=>run_enter Tryz.func48 (by kernel_rfl) rfl args w
theorem eg_roll1:∀args w,(callFunc 37 args).run Tryz.prog w= .ok (.enter 37 args) w:=fun args w=>run_enter Tryz.func37 (by kernel_rfl) rfl args w
def NmB (w:World)(hi:Nat)(v:Value)(n:Nat)(l:List (List Nat)):Prop:=∃A c,v= .slice A n c∧(0<n→∃g cur,A=some ⟨g,0,none⟩∧g<hi∧Blk w g 9 cur∧∀(j:Nat) (s:List Nat),l[j]? =some s→cur[j]? =some (.string (strOf s)))
theorem NmB.own {w:World}{B n:Nat}{v:Value}{l:List (List Nat)}(h:Own w B 9 1 v n (Ts l)):NmB w w.heap.size v n l:=by
 obtain⟨hl,⟨h0,h1⟩|⟨g,cap,cur,h',h1,h2,h3,h4,h5,h6⟩⟩:=h.row
 ·obtain⟨A,c,hv,-⟩:=h.reads
  exact⟨A,c,hv,fun hn=>by omega⟩
 ·refine⟨_,_,h',fun _=>⟨g,cur,rfl,Blk.lt h2,h2,fun j s hx=> ?_⟩⟩
  have hx2:(Ts l)[j]? =some (.string (strOf s)):=by rw[get_Ts,hx];rfl
  rw[←h6] at hx2
  have:cur.toList[j]? =some (.string (strOf s)):=by
   rw[List.getElem?_take] at hx2
   split at hx2
   ·exact hx2
   ·cases hx2
  simpa using this
theorem NmB.step {w w':World}{hi n:Nat}{v:Value}{l:List (List Nat)}(h:NmB w hi v n l)(hb:Below w.heap.size w w'):NmB w' hi v n l:=by
 obtain⟨A,c,hv,h⟩:=h
 refine⟨A,c,hv,fun h0=> ?_⟩
 obtain⟨g,cur,e1,e2,e3,e4⟩:=h h0
 exact⟨g,cur,e1,e2,e3.step hb,e4⟩
theorem NmB.df {w w':World}{B hi n:Nat}{v:Value}{l:List (List Nat)}(h:NmB w hi v n l)(f:Df B w w'):NmB w' hi v n l:=by
 obtain⟨A,c,hv,h⟩:=h
 refine⟨A,c,hv,fun h0=> ?_⟩
 obtain⟨g,cur,e1,e2,e3,e4⟩:=h h0
 exact⟨g,cur,e1,e2,e3.df f,e4⟩
theorem NmB.app {w w':World}{B B2 hi n m size:Nat}{v u:Value}{e:TypeId}{xs:List Value}{l:List (List Nat)}(h:NmB w hi v n l)(o:Own w B e size u m xs)(ha:App w w' B2 u)(hB:hi≤B):NmB w' hi v n l:=by
 obtain⟨A,c,hv,h⟩:=h
 refine⟨A,c,hv,fun h0=> ?_⟩
 obtain⟨g,cur,e1,e2,e3,e4⟩:=h h0
 refine⟨g,cur,e1,e2,e3.grown ha.grown (fun e'=> ?_),e4⟩
 obtain⟨hl,⟨h0,h1⟩|⟨g',cap,cur',h',h1,-⟩⟩:=o.row
 ·rw[h0] at e';cases e'
 ·rw[h'] at e'
  injection e' with e'
  have e9:g=g':=e'
  omega
theorem NmB.at_ {w:World}{hi n j:Nat}{v:Value}{s:List Nat}{l:List (List Nat)}(h:NmB w hi v n l)(hj:j<n)(hs:l[j]? =some s):∃ad c,v= .slice (some ad) n c∧w.cell? (ad.add j)=some (.string (strOf s)):=by
 obtain⟨A,c,hv,h⟩:=h
 obtain⟨g,cur,e1,e2,e3,e4⟩:=h (by omega)
 refine⟨⟨g,0,none⟩,c,by rw[hv,e1],?_⟩
 have e:(⟨g,0,none⟩:Addr).add j=⟨g,j,none⟩:=by unfold Addr.add;split<;>simp_all
 rw[e,cell_of_row _ _ _ _ _ _ e3]
 exact e4 j s hs
structure SwpR (D:Dk)(q:List Nat→Prop)(D':Dk):Prop where
 calm:D'.calm
 nd:(D'.files.map (·.1)).Nodup
 room:D'.room=D.room
 used:D'.used≤D.used
 few:D'.files.length≤D.files.length
 gone:∀x,q x→D'.get x=none
 kept:∀x,¬q x→D'.get x=D.get x
set_option maxHeartbeats 4000000 in
theorem sweep_any (B gd:Nat)(D:Dk)(F:FuncId)(cap:Value)(p:List Nat→Bool)(w:World)(dk:DkAt w B gd D)(hc:D.calm)(hn:(D.files.map (·.1)).Nodup)(hF:∀args w,(callFunc F args).run Tryz.prog w= .ok (.enter F args) w)(hnm:∀s∈D.files.map (·.1),ManNm s)(hp:∀s W,ManNm s→Df B w W→Calls Tryz.prog F #[.string (strOf s),cap] W fun e w'=>e= .returned (.bool (p s))∧Grow W w'):
  Calls Tryz.prog 22 #[.pointer (some ⟨gd,0,none⟩), .func (.func F) #[] #[cap]] w fun e w'=>∃v D',e= .returned (.tuple #[v, .int .i64 0])∧DkAt w' B gd D'∧Df B w w'∧SwpR D (fun x=>p x=true) D':=by
 have df:=Df.refl B w
 obtain⟨names,hnames⟩:∃names,names=sortN (D.files.map (·.1)):=⟨_,rfl⟩
 have hperm:names.Perm (D.files.map (·.1)):=by rw[hnames];exact List.mergeSort_perm _ _
 have hmost:D.files.length≤200:=by obtain⟨m,l,F,c1,c2,h⟩:=dk;exact h.ok.most
 have hnlen:names.length=D.files.length:=by rw[hperm.length_eq,List.length_map]
 refine Zs 34 Tryz.func22 ?_
 refine Zsr ?_
 refine Za ?_
 refine Za ?_
 refine Zk4 0 1 4 5 (Ztq ?_)
 refine Za ?_
 refine Zk5 0 1 4 5 6 (Zts (Zsr ?_))
 refine Zm ?_
 refine Zc (Ze Tryz.func19) (names_any B gd D _ dk) ?_
 rintro e w6 ⟨v6,rfl,ownN,hb6⟩
 refine⟨_,rfl,?_⟩
 rw[←hnames] at ownN
 replace df:=df.step hb6
 replace dk:=dk.step hb6
 have nb:=NmB.own ownN
 obtain⟨A6,c6,rfl,-⟩:=ownN.reads
 refine Zv (Runs.len rfl rfl Tryz.underlying54) ?_
 refine Zm ?_
 refine Zk8 0 1 4 5 6 11 12 13 (Zt (Cd.block ?_))
 have own:=Own.nil w6 w6.heap.size 9 1
 obtain⟨S,hS⟩:∃S,S=w6.heap.size:=⟨_,rfl⟩
 rw[←hS] at own nb
 have hSw:w.heap.size≤S:=by rw[hS];exact df.size
 have hsw0:SwpR D (fun x=>p x=true∧x∈names.take 0) D:=⟨hc,hn,rfl,Int.le_refl _,Nat.le_refl _,fun x hx=>by simp at hx,fun x _=>rfl⟩
 have hfs:S≤w6.heap.size:=by omega
 refine Cd.loop (σ:=Nat × Nat × List Value × Value × Dk) (fun s=>[(0, .pointer (some ⟨gd,0,none⟩)),(1, .func (.func F) #[] #[cap]),(6,s.2.2.2.1),(11, .slice A6 D.files.length c6),(12, .int .i64 (D.files.length:Int)),(13, .int .i64 (s.1:Int))]) (fun s wr=>s.1≤D.files.length∧s.2.1≤s.1∧S≤wr.heap.size∧Df B w wr∧DkAt wr B gd s.2.2.2.2∧NmB wr S (.slice A6 D.files.length c6) D.files.length names∧Own wr S 9 1 s.2.2.2.1 s.2.1 s.2.2.1∧SwpR D (fun x=>p x=true∧x∈names.take s.1) s.2.2.2.2) (fun s=>D.files.length-s.1) (0,0,[], .slice none 0 0,D) ⟨Nat.zero_le _,Nat.le_refl _,hfs,df,dk,nb,own,hsw0⟩ ⟨rfl,rfl,rfl,rfl,rfl,rfl,trivial⟩ ?_
 clear df dk nb own hsw0 hfs
 rintro⟨j,m,xs,v,E⟩ wr ⟨hj,hm,hfs,df,dk,nb,own,hsw⟩
 simp only at hj hm hsw dk own
 show Cd _ _ _ _ [(0, .pointer (some ⟨gd,0,none⟩)),(1, .func (.func F) #[] #[cap]),(6,v),(11, .slice A6 D.files.length c6),(12, .int .i64 (D.files.length:Int)),(13, .int .i64 (j:Int))] _
 refine Zsr ?_
 refine Zls ?_
 refine Zk7 0 1 6 11 12 13 14 (Zts ?_)
 refine Cd.condD rfl (fun hc=> ?_) (fun hc=> ?_)
 ·obtain⟨s,hs⟩:∃s,names[j]? =some s:=⟨_,List.getElem?_eq_getElem (by omega)⟩
  have hms:ManNm s:=hnm s (hperm.mem_iff.1 (List.mem_of_getElem? hs))
  obtain⟨hsb,hsl,hso⟩:=hms.byt
  obtain⟨ad,c,hv,hcd⟩:=nb.at_ (by omega) hs
  injection hv with e1 _ e2
  subst e1 e2
  have hnj:names.take (j+1)=names.take j++[s]:=take_last hs
  refine Cd.skip (Zts (Cd.block (Zsr ?_)))
  refine Zv (Runs.index1 rfl rfl rfl Tryz.underlying54 (by kernel_rfl) (j:=j) rfl (by omega)) ?_
  refine Zv (Runs.load1 rfl rfl Tryz.underlying9 rfl hcd) ?_
  refine Za ?_
  refine Zk8 0 1 6 8 11 12 13 14 (Zts (Zsr ?_))
  refine Zm ?_
  refine Zm ?_
  refine Seq.call (Enters.value (first:=[]) (cap:=[cap]) rfl rfl rfl hF) rfl rfl rfl (hp s _ hms df) ?_
  rintro e w7 ⟨rfl,hb7⟩
  refine⟨_,rfl,?_⟩
  have hfs7:S≤w7.heap.size:=Nat.le_trans hfs hb7.size
  replace df:=df.step hb7
  replace dk:=dk.step hb7
  replace nb:=nb.step hb7
  replace own:=own.step hb7
  refine Zno ?_
  refine Zk9 0 1 6 8 11 12 13 14 20 (Zt ?_)
  refine Cd.cond rfl (fun h=> ?_) (fun h=> ?_)
  ·have hps:p s=false:=by
    have h':(!(p s))=true:=h
    cases e:p s<;>simp_all
   have hsw2:SwpR D (fun x=>p x=true∧x∈names.take (j+1)) E:=by
    refine⟨hsw.calm,hsw.nd,hsw.room,hsw.used,hsw.few,fun x hx=> ?_,fun x hx=>hsw.kept x fun h=>hx ⟨h.1,by rw[hnj];exact List.mem_append_left _ h.2⟩⟩
    rw[hnj,List.mem_append,List.mem_singleton] at hx
    obtain⟨h1,h2|h2⟩:=hx
    ·exact hsw.gone x ⟨h1,h2⟩
    ·subst h2
     rw[hps] at h1
     cases h1
   refine Cd.exit (Post.then_exit (Post.block_exit (Ztr ?_)))
   refine Za_ ?_
   refine Zm ?_
   refine Zk9 0 1 6 8 11 12 13 14 20 ?_
   refine Post.round (j+1,m,xs,v,E) ⟨rfl,rfl,rfl,rfl,rfl,int_at (by omega),trivial⟩ ⟨by simp only;omega,by simp only;omega,hfs7,df,dk,nb,own,hsw2⟩ (by simp only;omega)
  ·have hps:p s=true:=by
    have h':(!(p s))=false:=h
    cases e:p s<;>simp_all
   have hds:=del_calm hsw.calm hsw.nd hso
   have hns:s∉names.take j:=by
    have h1:names.Nodup:=hperm.nodup_iff.2 hn
    have h2:(names.take j++[s]).Nodup:=by
     rw[←hnj]
     exact h1.sublist (List.take_sublist _ _)
    intro h3
    rw[List.nodup_append] at h2
    exact h2.2.2 s h3 s (by simp) rfl
   have hE0:E.thereE [s] s=0:=by
    have h1:(D.get s).isSome=true:=mem_names.1 (hperm.mem_iff.1 (List.mem_of_getElem? hs))
    have h2:E.get s=D.get s:=hsw.kept s fun h=>hns h.2
    rw[thereE_calm hsw.calm (by simpa using hso),h2,if_pos h1]
   obtain⟨-,d2,d3,d4,d5,d6,d7⟩:=hds
   have hsw2:SwpR D (fun x=>p x=true∧x∈names.take (j+1)) (E.delete s):=by
    refine⟨d2,d3,by rw[d4,hsw.room],Int.le_trans d5 hsw.used,Nat.le_trans d6 hsw.few,fun x hx=> ?_,fun x hx=> ?_⟩
    ·rw[d7]
     by_cases e:x=s
     ·rw[if_pos e]
     ·rw[if_neg e]
      rw[hnj,List.mem_append,List.mem_singleton] at hx
      exact hsw.gone x ⟨hx.1,hx.2.resolve_right e⟩
    ·rw[d7]
     by_cases e:x=s
     ·subst e
      exact absurd ⟨hps,by rw[hnj];simp⟩ hx
     ·rw[if_neg e]
      exact hsw.kept x fun h=>hx ⟨h.1,by rw[hnj];exact List.mem_append_left _ h.2⟩
   refine Cd.skip (Zts (Zsr ?_))
   refine Zm ?_
   refine Zm ?_
   refine Zc (Ze Tryz.func46) (delete_d_any B gd E s _ dk hsb (by omega)) ?_
   clear dk
   rintro e w1 ⟨rfl,dk,fw1⟩
   refine⟨_,rfl,?_⟩
   replace df:=df.df fw1
   replace nb:=nb.df fw1
   replace own:=own.df fw1
   rw[hE0]
   have hfs8:S≤w1.heap.size:=Nat.le_trans hfs7 fw1.size
   refine Za ?_
   refine Zk10 0 1 6 8 9 11 12 13 14 20 (Ztq ?_)
   refine Zm ?_
   refine Zni ?_
   refine Zk11 0 1 6 8 9 11 12 13 14 20 25 (Zt ?_)
   refine Cd.condF rfl rfl ?_
   refine Cd.skip (Ztr ?_)
   refine Zm ?_
   refine Zm ?_
   refine Seq.slice (vs:=[_]) (s:=1) rfl rfl rfl Tryz.underlying54 (by kernel_rfl) (zero_string) (by omega) (by omega) ⟨rfl,trivial⟩ rfl rfl rfl ?_
   intro g30 w2 n30
   replace df:=df.step n30.below
   replace dk:=dk.step n30.below
   replace nb:=nb.step n30.below
   replace own:=own.step n30.below
   have k30:=n30.blk
   have hrx:=Reads.blk (size:=1) k30 1 rfl
   refine Seq.append rfl rfl rfl Tryz.underlying54 (by kernel_rfl) zero_string rfl (by decide) (b:=16) (by kernel_rfl) own hrx (by intro x hx;simp[flatC,Value.cells] at hx;rw[hx];rfl) (Nat.le_trans hfs8 (Nat.le_trans n30.ge (Nat.le_of_lt n30.lt))) (by simp only[maxLen];omega) (by omega) rfl rfl rfl ?_
   intro v2 wb own2 ha
   have hfs9:=Nat.le_trans (Nat.le_trans hfs8 (Nat.le_trans n30.ge (Nat.le_of_lt n30.lt))) ha.below.size
   replace dk:=dk.app own ha
   replace df:=df.app own ha hSw
   replace nb:=nb.app own ha (Nat.le_refl _)
   refine Za ?_
   refine Zk11 0 1 6 8 9 11 12 13 14 20 25 (Post.block_normal (Ztr ?_))
   refine Za_ ?_
   refine Zm ?_
   refine Zk11 0 1 6 8 9 11 12 13 14 20 25 ?_
   refine Post.round (j+1,m+1,_,v2,E.delete s) ⟨rfl,rfl,rfl,rfl,rfl,int_at (by omega),trivial⟩ ⟨by simp only;omega,by simp only;omega,hfs9,df,dk,nb,own2,hsw2⟩ (by simp only;omega)
 ·skip
  refine Cd.exit (Post.then_exit (Post.round_exit (Post.block_exit (Ztq ?_))))
  refine Zm ?_
  refine Za ?_
  refine Za ?_
  refine Zk9 0 1 4 5 6 11 12 13 14 (Zt (Cd.ret ?_))
  refine Ze2 ?_
  have hj2:j=D.files.length:=by omega
  refine⟨_,E,rfl,dk,df,⟨hsw.calm,hsw.nd,hsw.room,hsw.used,hsw.few,fun x hx=> ?_,fun x hx=>hsw.kept x fun h=>hx h.1⟩⟩
  cases e:D.get x with
  |none=>
   by_cases hx2:x∈names.take j
   ·exact hsw.gone x ⟨hx,hx2⟩
   ·rw[hsw.kept x fun h=>hx2 h.2,e]
  |some f=>
   refine hsw.gone x ⟨hx,?_⟩
   rw[List.take_of_length_le (by omega)]
   exact hperm.mem_iff.2 (mem_names.2 (by rw[e];rfl))
end Go.Proofs.YtdpipgidpkmolaaGreatDoor
namespace Go.Proofs.YtdpipgidpkmolaaGreatDoor
section
variable {α:Type} {le:α→α→Prop}
theorem get_mid (P:List α)(x:α)(Q:List α):(P++x::Q)[P.length]? =some x:=by
 rw[List.getElem?_append_right (Nat.le_refl _)];simp
theorem get_mid' {P:List α}{x:α}{Q:List α}{i:Nat}(h:i=P.length):(P++x::Q)[i]? =some x:=by rw[h];exact get_mid P x Q
theorem set_mid (P:List α)(x y:α)(Q:List α):(P++x::Q).set P.length y=P++y::Q:=by
 rw[List.set_append_right _ _ (Nat.le_refl _)];simp
theorem set_mid' {P:List α}{x y:α}{Q:List α}{i:Nat}(h:i=P.length):(P++x::Q).set i y=P++y::Q:=by rw[h];exact set_mid P x y Q
theorem swap_mid {P:List α}{x y:α}{Q:List α}{i j:Nat}(h:i=P.length)(hj:j=i+1):((P++x::y::Q).set i y).set j x=P++y::x::Q:=by
 rw[set_mid' h,show P++y::y::Q=(P++[y])++y::Q by simp,set_mid' (by simp[h,hj])]
 simp
theorem swap_mid' {P:List α}{x y:α}{Q:List α}{i j:Nat}(h:i=P.length)(hj:j=i+1):((P++x::y::Q).set j x).set i y=P++y::x::Q:=by
 rw[List.set_comm _ _ (by omega)]
 exact swap_mid h hj
def swB (d:List α)(a b i j:Nat):Option α:=if a≤j∧j<a+i then d[j-a+b]? else if b≤j∧j<b+i then d[j-b+a]? else d[j]?
theorem swB_step {d c:List α}{a b i:Nat}{x y:α}(hab:a+i<b)(hc:∀j,c[j]? =swB d a b i j)(hx:d[a+i]? =some x)(hy:d[b+i]? =some y)(hl:c.length=d.length)(hb:b+i<d.length):∀j,((c.set (a+i) y).set (b+i) x)[j]? =swB d a b (i+1) j:=fun j=>by
 unfold swB at hc⊢
 by_cases h1:j=b+i
 ·subst h1
  rw[List.getElem?_set_self (by rw[List.length_set];omega),if_neg (by omega),if_pos (by omega),show b+i-b+a=a+i by omega,hx]
 ·rw[List.getElem?_set_ne (by omega)]
  by_cases h2:j=a+i
  ·subst h2
   rw[List.getElem?_set_self (by omega),if_pos (by omega),show a+i-a+b=b+i by omega,hy]
  ·rw[List.getElem?_set_ne (by omega),hc j]
   by_cases h3:a≤j∧j<a+i
   ·rw[if_pos h3,if_pos (by omega)]
   ·rw[if_neg h3]
    by_cases h4:b≤j∧j<b+i
    ·rw[if_pos h4,if_neg (by omega),if_pos (by omega)]
    ·rw[if_neg h4,if_neg (by omega),if_neg (by omega)]
theorem swB_zero (d:List α)(a b:Nat):∀j,d[j]? =swB d a b 0 j:=fun j=>by
 unfold swB
 rw[if_neg (by omega),if_neg (by omega)]
theorem swB_end {P U M V S c:List α}(hn:U.length=V.length)(hc:∀j,c[j]? =swB (P++(U++(M++(V++S)))) P.length (P.length+U.length+M.length) U.length j):c=P++(V++(M++(U++S))):=by
 apply List.ext_getElem?
 intro j
 rw[hc j]
 unfold swB
 by_cases h0:j<P.length
 ·rw[if_neg (by omega),if_neg (by omega),List.getElem?_append_left h0,List.getElem?_append_left h0]
 ·rw[List.getElem?_append_right (l₁:=P) (l₂:=V++(M++(U++S))) (by omega)]
  by_cases h1:j<P.length+U.length
  ·rw[if_pos (by omega),List.getElem?_append_right (by omega),List.getElem?_append_right (by omega),List.getElem?_append_right (by omega),List.getElem?_append_left (l₁:=V) (by omega),List.getElem?_append_left (l₁:=V) (by omega)]
   congr 1
   omega
  ·rw[if_neg (by omega),List.getElem?_append_right (l₁:=V) (by omega)]
   by_cases h2:j<P.length+U.length+M.length
   ·rw[if_neg (by omega),List.getElem?_append_right (l₁:=P) (by omega),List.getElem?_append_right (l₁:=U) (by omega),List.getElem?_append_left (l₁:=M) (by omega),List.getElem?_append_left (l₁:=M) (by omega)]
    congr 1
    omega
   ·rw[List.getElem?_append_right (l₁:=M) (l₂:=U++S) (by omega)]
    by_cases h3:j<P.length+U.length+M.length+U.length
    ·rw[if_pos (by omega),List.getElem?_append_right (l₁:=P) (by omega),List.getElem?_append_left (l₁:=U) (by omega),List.getElem?_append_left (l₁:=U) (by omega)]
     congr 1
     omega
    ·rw[if_neg (by omega),List.getElem?_append_right (l₁:=P) (by omega),List.getElem?_append_right (l₁:=U) (by omega),List.getElem?_append_right (l₁:=M) (by omega),List.getElem?_append_right (l₁:=V) (by omega),List.getElem?_append_right (l₁:=U) (by omega)]
     congr 1
     omega
theorem pw_left {A B:List α}(h:(A++B).Pairwise le):A.Pairwise le:=(List.pairwise_append.1 h).1
theorem pw_right {A B:List α}(h:(A++B).Pairwise le):B.Pairwise le:=(List.pairwise_append.1 h).2.1
theorem pw_last {A:List α}{x y:α}(htr:∀a b c,le a b→le b c→le a c)(hrf:∀a,le a a)(h:(A++[x]).Pairwise le)(hy:y∈A++[x]):le y x:=by
 rcases List.mem_append.1 hy with hy|hy
 ·exact(List.pairwise_append.1 h).2.2 y hy x (by simp)
 ·simp at hy;subst hy;exact hrf _
theorem pw_head {B:List α}{x y:α}(hrf:∀a,le a a)(h:(x::B).Pairwise le)(hy:y∈x::B):le x y:=by
 rcases List.mem_cons.1 hy with hy|hy
 ·subst hy;exact hrf _
 ·exact(List.pairwise_cons.1 h).1 y hy
theorem pw_cross {A B:List α}(htr:∀a b c,le a b→le b c→le a c)(hrf:∀a,le a a)(hA:A.Pairwise le)(hB:B.Pairwise le)(h:A=[]∨B=[]∨∃A' x y B',A=A'++[x]∧B=y::B'∧le x y):∀a∈A,∀b∈B,le a b:=fun a ha b hb=>by
 rcases h with rfl|rfl|⟨A',x,y,B',rfl,rfl,hxy⟩
 ·cases ha
 ·cases hb
 ·exact htr _ _ _ (pw_last htr hrf hA ha) (htr _ _ _ hxy (pw_head hrf hB hb))
theorem two_halves {A1 A2 B1 B2 M1 M2:List α}(htr:∀a b c,le a b→le b c→le a c)(hrf:∀a,le a a)(hL:(A1++A2).Pairwise le)(hR:(B1++B2).Pairwise le)
  (h1:A1=[]∨B2=[]∨∃A' x y B',A1=A'++[x]∧B2=y::B'∧le x y) (h2:B1=[]∨A2=[]∨∃A' x y B',B1=A'++[x]∧A2=y::B'∧le x y)
  (p1:M1.Perm (A1++B1)) (s1:M1.Pairwise le) (p2:M2.Perm (A2++B2)) (s2:M2.Pairwise le):(M1++M2).Perm ((A1++A2)++(B1++B2))∧(M1++M2).Pairwise le:=by
 have c1:=pw_cross htr hrf (pw_left hL) (pw_right hR) h1
 have c2:=pw_cross htr hrf (pw_left hR) (pw_right hL) h2
 have c3:=(List.pairwise_append.1 hL).2.2
 have c4:=(List.pairwise_append.1 hR).2.2
 constructor
 ·refine(p1.append p2).trans ?_
  rw[List.append_assoc,List.append_assoc]
  refine List.Perm.append_left A1 ?_
  rw[←List.append_assoc,←List.append_assoc]
  exact(List.perm_append_comm (l₁:=B1) (l₂:=A2)).append_right B2
 ·refine List.pairwise_append.2 ⟨s1,s2,fun a ha b hb=> ?_⟩
  rcases List.mem_append.1 (p1.subset ha) with ha|ha<;>rcases List.mem_append.1 (p2.subset hb) with hb|hb
  ·exact c3 a ha b hb
  ·exact c1 a ha b hb
  ·exact c2 a ha b hb
  ·exact c4 a ha b hb
theorem put_sorted {A B:List α}{x:α}(htr:∀a b c,le a b→le b c→le a c)(hrf:∀a,le a a)(h:(A++B).Pairwise le)(h1:A=[]∨∃A' y,A=A'++[y]∧le y x)(h2:B=[]∨∃y B',B=y::B'∧le x y):(A++x::B).Pairwise le:=by
 obtain⟨a1,a2,a3⟩:=List.pairwise_append.1 h
 refine List.pairwise_append.2 ⟨a1,List.pairwise_cons.2 ⟨fun b hb=> ?_,a2⟩,fun a ha b hb=> ?_⟩
 ·rcases h2 with rfl|⟨y,B',rfl,hy⟩
  ·cases hb
  ·exact htr _ _ _ hy (pw_head hrf a2 hb)
 ·have hax:le a x:=by
   rcases h1 with rfl|⟨A',y,rfl,hy⟩
   ·cases ha
   ·exact htr _ _ _ (pw_last htr hrf a1 ha) hy
  rcases List.mem_cons.1 hb with rfl|hb
  ·exact hax
  ·exact a3 a ha b hb
end
end Go.Proofs.YtdpipgidpkmolaaGreatDoor
namespace Go.Proofs.YtdpipgidpkmolaaGreatDoor
open Go.RowKit
theorem bl_irr:∀x:List UInt8,Op.bytesLess x x=false
 | []=>rfl
 |a::x=>by rw[Op.bytesLess,bl_irr x];simp
theorem bl_tr:∀x y z:List UInt8,Op.bytesLess x y=true→Op.bytesLess y z=true→Op.bytesLess x z=true
 |_,_,[],_,h=>by rw[Op.bytesLess] at h;cases h
 |_,[],_::_,h,_=>by rw[Op.bytesLess] at h;cases h
 | [],_::_,_::_,_,_=>rfl
 |a::x,b::y,c::z,h1,h2=>by
  rw[Op.bytesLess] at h1 h2⊢
  simp only[Bool.or_eq_true,Bool.and_eq_true,decide_eq_true_eq,beq_iff_eq] at h1 h2⊢
  rcases h1 with h1|⟨rfl,h1⟩
  ·rcases h2 with h2|⟨rfl,h2⟩
   ·exact .inl (UInt8.lt_trans h1 h2)
   ·exact .inl h1
  ·rcases h2 with h2|⟨rfl,h2⟩
   ·exact .inl h2
   ·exact .inr ⟨rfl,bl_tr x y z h1 h2⟩
theorem bl_tot:∀x y:List UInt8,Op.bytesLess x y=false→Op.bytesLess y x=false→x=y
 | [],[],_,_=>rfl
 | [],_::_,h,_=>by rw[Op.bytesLess] at h;cases h
 |_::_,[],_,h=>by rw[Op.bytesLess] at h;cases h
 |a::x,b::y,h1,h2=>by
  rw[Op.bytesLess] at h1 h2
  simp only[Bool.or_eq_false_iff,Bool.and_eq_false_iff,decide_eq_false_iff_not,beq_eq_false_iff_ne] at h1 h2
  have hab:a=b:=by
   rcases UInt8.lt_or_lt_of_ne (a:=a) (b:=b)|>fun f=>(Decidable.em (a=b)).imp id f with h|h
   ·exact h
   ·rcases h with h|h
    ·exact absurd h h1.1
    ·exact absurd h h2.1
  subst hab
  rw[bl_tot x y (by rcases h1.2 with h|h;exact absurd rfl h;exact h) (by rcases h2.2 with h|h;exact absurd rfl h;exact h)]
def ltF (a b:Fl):Prop:=ordB a b<0
theorem cmpI_lt {a b:Int}:cmpI a b<0↔a<b:=by
 unfold cmpI
 split
 ·simp_all
 ·split<;>simp_all
theorem cmpS_lt {a b:List Nat}:cmpS a b<0↔ltB a b=true:=by
 unfold cmpS
 cases ltB a b with
 |true=>simp
 |false=>cases eqS a b<;>simp
theorem ltF_iff {f g:Fl}:ltF f g↔f.level<g.level∨(f.level=g.level∧((f.level=0∧g.num<f.num)∨(f.level≠0∧ltB f.first g.first=true))):=by
 unfold ltF ordB
 by_cases h1:f.level=g.level
 ·rw[if_neg (by simpa using h1)]
  by_cases h2:f.level=0
  ·rw[if_pos h2,cmpI_lt]
   constructor
   ·exact fun h=> .inr ⟨h1, .inl ⟨h2,h⟩⟩
   ·rintro(h|⟨-,⟨-,h⟩|⟨h,-⟩⟩)
    ·omega
    ·exact h
    ·exact absurd h2 h
  ·rw[if_neg h2,cmpS_lt]
   constructor
   ·exact fun h=> .inr ⟨h1, .inr ⟨h2,h⟩⟩
   ·rintro(h|⟨-,⟨h,-⟩|⟨-,h⟩⟩)
    ·omega
    ·exact absurd h h2
    ·exact h
 ·rw[if_pos h1,cmpI_lt]
  constructor
  ·exact .inl
  ·rintro(h|⟨h,-⟩)
   ·exact h
   ·exact absurd h h1
theorem ltB_irr (a:List Nat):ltB a a=false:=bl_irr _
theorem ltB_tr {a b c:List Nat}(h1:ltB a b=true)(h2:ltB b c=true):ltB a c=true:=bl_tr _ _ _ h1 h2
theorem ltB_neg {a b c:List Nat}(h1:ltB a b=false)(h2:ltB b c=false):ltB a c=false:=by
 cases h:ltB a c with
 |false=>rfl
 |true=>
  exfalso
  cases hcb:ltB c b with
  |true=>rw[ltB_tr h hcb] at h1;cases h1
  |false=>
   have e:(strOf b).toList=(strOf c).toList:=bl_tot _ _ h2 hcb
   have:ltB a b=true:=by unfold ltB;rw[e];exact h
   rw[this] at h1;cases h1
theorem ltF_irr (a:Fl):¬ltF a a:=by rw[ltF_iff];simp[ltB_irr]
def leF (a b:Fl):Prop:=¬ltF b a
theorem leF_rf (a:Fl):leF a a:=ltF_irr a
theorem leF_tr:∀a b c:Fl,leF a b→leF b c→leF a c:=fun a b c h1 h2 h3=>by
 unfold leF at h1 h2
 rw[ltF_iff] at h1 h2 h3
 rcases h3 with h3|⟨h3,⟨h4,h5⟩|⟨h4,h5⟩⟩
 ·by_cases hb:c.level<b.level
  ·exact h2 (.inl hb)
  ·exact h1 (.inl (by omega))
 ·by_cases hb:c.level=b.level
  ·by_cases hn:b.num<c.num
   ·exact h2 (.inr ⟨hb, .inl ⟨h4,hn⟩⟩)
   ·exact h1 (.inr ⟨by omega, .inl ⟨by omega,by omega⟩⟩)
  ·by_cases hb2:c.level<b.level
   ·exact h2 (.inl hb2)
   ·exact h1 (.inl (by omega))
 ·by_cases hb:c.level=b.level
  ·have x2:ltB c.first b.first=false:=by
    cases h:ltB c.first b.first with
    |false=>rfl
    |true=>exact absurd (.inr ⟨hb, .inr ⟨h4,h⟩⟩) h2
   have x1:ltB b.first a.first=false:=by
    cases h:ltB b.first a.first with
    |false=>rfl
    |true=>exact absurd (.inr ⟨by omega, .inr ⟨by omega,h⟩⟩) h1
   rw[ltB_neg x2 x1] at h5
   cases h5
  ·by_cases hb2:c.level<b.level
   ·exact h2 (.inl hb2)
   ·exact h1 (.inl (by omega))
theorem ltF_le {a b:Fl}(h:ltF a b):leF a b:=fun h2=>by
 rw[ltF_iff] at h h2
 rcases h with h|⟨h,⟨h4,h5⟩|⟨h4,h5⟩⟩<;>rcases h2 with g|⟨g,⟨g4,g5⟩|⟨g4,g5⟩⟩<;>first|omega|skip
 have:=ltB_tr g5 h5
 rw[ltB_irr] at this
 cases this
theorem fcs_append (a b:List Fl):fcs (a++b)=fcs a++fcs b:=by unfold fcs;rw[List.flatMap_append]
theorem fcs_one (f:Fl):fcs [f]=f.cs.toList:=by simp[fcs]
theorem fcs_set {d:List Fl}{j:Nat}{pad:List Value}(f:Fl)(h:j<d.length):((fcs d++pad).toArray.toList.take (6*j)++(f.cs.toList++(fcs d++pad).toArray.toList.drop (6*j+f.cs.size))).toArray=(fcs (d.set j f)++pad).toArray:=by
 have e:=cut_at (List.getElem?_eq_getElem h)
 have hs:f.cs.size=6:=rfl
 congr 1
 rw[hs]
 show(fcs d++pad).take (6*j)++(f.cs.toList++(fcs d++pad).drop (6*j+6))=fcs (d.set j f)++pad
 rw[List.set_eq_take_append_cons_drop,if_pos h]
 have h1:(fcs (d.take j)).length=6*j:=by rw[fcs_len,List.length_take];omega
 have e2:fcs d++pad=fcs (d.take j)++(fcs [d[j]]++(fcs (d.drop (j+1))++pad)):=by
  rw[←List.append_assoc (fcs [d[j]]),←fcs_append,←List.append_assoc,←fcs_append]
  congr 2
 have h2:(fcs [d[j]]).length=6:=by rw[fcs_len];rfl
 have t1:(fcs d++pad).take (6*j)=fcs (d.take j):=by rw[e2];exact List.take_left' h1
 have t2:(fcs d++pad).drop (6*j+6)=fcs (d.drop (j+1))++pad:=by rw[e2,←List.append_assoc];exact List.drop_left' (by rw[List.length_append];omega)
 rw[t1,t2]
 rw[show f::d.drop (j+1)=[f]++d.drop (j+1) from rfl,fcs_append,fcs_append,fcs_one]
 simp only[List.append_assoc]
theorem fcs_ld {d:List Fl}{j:Nat}{pad:List Value}{f:Fl}(h:d[j]? =some f):∀(i:Nat) (v:Value),f.cs.toList[i]? =some v→(fcs d++pad).toArray[6*j+i]? =some v:=fun i v hi=>by
 have hj:=(List.getElem?_eq_some_iff.1 h).1
 have h6:i<6:=(List.getElem?_eq_some_iff.1 hi).1
 rw[List.getElem?_toArray,List.getElem?_append_left (by rw[fcs_len];omega),Nat.mul_comm]
 exact fcs_at h i v hi
end Go.Proofs.YtdpipgidpkmolaaGreatDoor
namespace Go.Proofs.YtdpipgidpkmolaaGreatDoor
open Go.RowKit
structure Onl (w0 w:World)(g:Nat):Prop where
 row:w0.grownBy w (some g)
theorem Onl.step {w0 w w':World}{g:Nat}(h:Onl w0 w g)(hb:Below w.heap.size w w'):Onl w0 w' g:=⟨only_below h.row hb⟩
theorem Onl.trans {w0 w w':World}{g:Nat}(h:Onl w0 w g)(h':Onl w w' g):Onl w0 w' g:=⟨only_trans h.row h'.row⟩
theorem Onl.refl (w:World)(g:Nat):Onl w w g:=⟨only_of_below (Below.refl _ _) _⟩
theorem Seq.storeR {ops:Array Oper}{Q:Exit→Act→World→Prop}{rest:List Oper}{n:Nat}{F:List (Nat × Value)}{o:Oper}{x y:Operand}{T:TypeId}{w w0:World}{g j:Nat}{d:List Fl}{pad:List Value}{f:Fl}[Inhabited (List Deferred)](ho:o.op= .store T x y)(hx:evF F x=some (.pointer (some ⟨g,6*j,none⟩)))(hy:evF F y=some f.v)(hs:sizeIs Tryz.prog T 6=true)
  (k:Blk w g 81 (fcs d++pad).toArray) (hj:j<d.length) (only:Onl w0 w g) (hg:o.guard=none) (hd:o.dst=none)
  (h:∀w',Blk w' g 81 (fcs (d.set j f)++pad).toArray→Onl w0 w' g→Seq Tryz.prog ops Q rest n F w'):Seq Tryz.prog ops Q (o::rest) n F w:=by
 refine Seq.storeN (cs:=f.cs) ho hx hy rfl hs rfl ⟨rfl,rfl,rfl,rfl,rfl,rfl,trivial⟩ k (by have h6:f.cs.size=6:=rfl;rw[h6];simp[fcs_len];omega) hg hd fun w' p=> ?_
 have k':=p.blk
 rw[fcs_set f hj] at k'
 exact h w' k' ⟨only_trans only.row p.grown⟩
theorem swapR_any (g cap a b c n:Nat)(P U M V S:List Fl)(pad:List Value)(v:Value)(w:World)(hn:U.length=V.length)(hN:n=(P++(U++(M++(V++S)))).length)(h1:n≤1000000)(ha:a=P.length)(hb:b=P.length+U.length+M.length)(hcc:c=U.length)(k0:Blk w g 81 (fcs (P++(U++(M++(V++S))))++pad).toArray):
  Calls Tryz.prog 220 #[.slice (some ⟨g,0,none⟩) n cap, .int .i64 (a:Int), .int .i64 (b:Int), .int .i64 (c:Int),v] w fun e w'=>e= .returned (.tuple #[])∧Blk w' g 81 (fcs (P++(V++(M++(U++S))))++pad).toArray∧Onl w w' g:=by
 have only:=Onl.refl w g
 obtain⟨d,hd⟩:∃d,d=P++(U++(M++(V++S))):=⟨_,rfl⟩
 rw[←hd] at k0 hN
 have hdl:d.length=P.length+U.length+M.length+V.length+S.length:=by rw[hd];simp;omega
 refine Zs 38 Tryz.func220 ?_
 refine Zsr ?_
 refine Za ?_
 refine Zk5 0 1 2 3 10 (Zt (Cd.block ?_))
 refine Cd.loop (σ:=Nat × List Fl) (fun s=>[(0, .slice (some ⟨g,0,none⟩) n cap),(1, .int .i64 (a:Int)),(2, .int .i64 (b:Int)),(3, .int .i64 (c:Int)),(10, .int .i64 (s.1:Int))])
  (fun s wr=>s.1≤c∧s.2.length=d.length∧(∀j,s.2[j]? =swB d a b s.1 j)∧Blk wr g 81 (fcs (s.2)++pad).toArray∧Onl w wr g) (fun s=>c-s.1) (0,d) ⟨Nat.zero_le _,rfl,swB_zero d a b,k0,only⟩ ⟨rfl,rfl,rfl,rfl,rfl,trivial⟩ ?_
 clear k0 only
 rintro⟨i,q⟩ wr ⟨hi,hql,hq,k0,only⟩
 simp only at hi hql hq k0
 show Cd _ _ _ _ [(0, .slice (some ⟨g,0,none⟩) n cap),(1, .int .i64 (a:Int)),(2, .int .i64 (b:Int)),(3, .int .i64 (c:Int)),(10, .int .i64 (i:Int))] _
 refine Cd.seq (Zsr ?_)
 refine Zm ?_
 refine Zm ?_
 refine Zls ?_
 refine Zk6 0 1 2 3 10 13 (Zt ?_)
 refine Cd.condD rfl (fun hc=> ?_) (fun hc=> ?_)
 ·obtain⟨x,hx⟩:∃x,d[a+i]? =some x:=⟨_,List.getElem?_eq_getElem (show a+i<d.length by omega)⟩
  obtain⟨y,hy⟩:∃x,d[b+i]? =some x:=⟨_,List.getElem?_eq_getElem (show b+i<d.length by omega)⟩
  have hx':q[a+i]? =some x:=by rw[hq];unfold swB;rw[if_neg (by omega),if_neg (by omega)];exact hx
  have hy':q[b+i]? =some y:=by rw[hq];unfold swB;rw[if_neg (by omega),if_neg (by omega)];exact hy
  have hst:=swB_step (by omega) hq hx hy hql (by omega)
  refine Cd.skip (Zts (Cd.block ?_))
  refine Cd.draw 20 (by kernel_rfl) [4,5,6,7] (.inr (fun _ _ d _ _ h=>by cases d<;>exact h)) rfl Grow Grow.refl (fun _ _ _=>Grow.trans) ?_
  intro w1 hw1 zw1
  replace k0:=k0.step hw1
  replace only:=only.step hw1
  have zlt:=k0.lt
  refine Zdm ?_
  refine Zdm ?_
  refine Zdm ?_
  refine Zd (fun w hG=>Runs.addI rfl rfl rfl (by omega) (by omega)) ?_
  refine Dr.late rfl rfl (fun w=>Runs.move rfl rfl) Grow.refl rfl ?_
  refine Dr.late rfl rfl (fun w=>Runs.move rfl rfl) Grow.refl rfl ?_
  refine Dr.late rfl rfl (fun w=>Runs.move rfl rfl) Grow.refl rfl ?_
  refine Dr.late rfl rfl (fun w=>Runs.addI rfl rfl rfl (by omega) (by omega)) Grow.refl rfl ?_
  refine Zdm ?_
  refine Zdm ?_
  refine Zdm ?_
  refine Zd (fun w hG=>Runs.addI rfl rfl rfl (by omega) (by omega)) ?_
  refine Zd (fun w hG=>Runs.indexBN rfl rfl rfl Tryz.underlying36 (s:=6) (by kernel_rfl) (j:=b+i) (by omega) (by omega)) ?_
  refine Zd (fun w hG=>Runs.loadP (off:=6*(b+i)) (ps:=[.int .i64 y.num, .int .i64 y.level, .string (strOf y.first), .string (strOf y.last), .int .i64 y.count, .int .i64 y.size]) rfl rfl Tryz.underlying81 rfl (k0.step hG) (m:=6) (by kernel_rfl) rfl (fcs_ld hy')) ?_
  refine Zdm ?_
  refine Zdm ?_
  refine Zdm ?_
  refine Zd (fun w hG=>Runs.addI rfl rfl rfl (by omega) (by omega)) ?_
  refine Zd (fun w hG=>Runs.indexBN rfl rfl rfl Tryz.underlying36 (s:=6) (by kernel_rfl) (j:=a+i) (by omega) (by omega)) ?_
  refine Zd (fun w hG=>Runs.loadP (off:=6*(a+i)) (ps:=[.int .i64 x.num, .int .i64 x.level, .string (strOf x.first), .string (strOf x.last), .int .i64 x.count, .int .i64 x.size]) rfl rfl Tryz.underlying81 rfl (k0.step hG) (m:=6) (by kernel_rfl) rfl (fcs_ld hx')) ?_
  refine Dr.nil ?_
  refine FinX.done (F':=[(0,_),(1,_),(2,_),(3,_),(10,_),(13,_),(16,_),(19,_),(20,_),(23,_),(29,_),(35,_)]) rfl ⟨rfl,rfl,rfl,rfl,rfl,rfl,rfl,rfl,rfl,rfl,rfl,rfl,trivial⟩ ?_
  intro w2 hw2 fw2
  replace k0:=k0.step hw2
  replace only:=only.step hw2
  refine Zv (Runs.indexBN rfl rfl rfl Tryz.underlying36 (s:=6) (by kernel_rfl) (j:=a+i) (by omega) (by omega)) ?_
  refine Seq.storeR (f:=y) rfl rfl rfl (by kernel_rfl) k0 (by(try simp only[List.length_set]);omega) only rfl rfl ?_
  intro wz kz oz
  clear k0 only
  have k0:=kz
  have only:=oz
  clear kz oz
  refine Zv (Runs.indexBN rfl rfl rfl Tryz.underlying36 (s:=6) (by kernel_rfl) (j:=b+i) (by omega) (by omega)) ?_
  refine Seq.storeR (f:=x) rfl rfl rfl (by kernel_rfl) k0 (by(try simp only[List.length_set]);omega) only rfl rfl ?_
  intro wz kz oz
  clear k0 only
  have k0:=kz
  have only:=oz
  clear kz oz
  refine Zk6 0 1 2 3 10 13 (Post.block_normal (Ztr ?_))
  refine Zm ?_
  refine Za_ ?_
  refine Za ?_
  refine Zk6 0 1 2 3 10 13 ?_
  exact Post.round (i+1,(q.set (a+i) y).set (b+i) x) ⟨rfl,rfl,rfl,rfl,int_at (by omega),trivial⟩ ⟨by simp only;omega,by simp[hql],hst,k0,only⟩ (by simp only;omega)
 ·obtain rfl:i=c:=by omega
  subst ha hb hcc
  rw[hd] at hq
  rw[swB_end hn hq] at k0
  refine Cd.exit (Post.then_exit (Post.round_exit (Post.block_exit ?_)))
  refine Post.end0 rfl (.inr rfl) ?_
  exact⟨rfl,k0,only⟩
theorem rotateS_any (g cap a m b n:Nat)(P U V S:List Fl)(pad:List Value)(v:Value)(w:World)(hU:0<U.length)(hV:0<V.length)(hN:n=(P++(U++(V++S))).length)(h1:n≤1000000)(ha:a=P.length)(hm:m=a+U.length)(hb:b=m+V.length)(k0:Blk w g 81 (fcs (P++(U++(V++S)))++pad).toArray):
  Calls Tryz.prog 201 #[.slice (some ⟨g,0,none⟩) n cap, .int .i64 (a:Int), .int .i64 (m:Int), .int .i64 (b:Int),v] w fun e w'=>e= .returned (.tuple #[])∧Blk w' g 81 (fcs (P++(V++(U++S)))++pad).toArray∧Onl w w' g:=by
 have only:=Onl.refl w g
 simp only[List.length_append] at hN
 refine Zs 58 Tryz.func201 ?_
 refine Zsr ?_
 refine Zm ?_
 refine Zm ?_
 refine Zsu ?_
 refine Za ?_
 refine Zk6 0 1 2 3 4 10 (Ztq ?_)
 refine Zm ?_
 refine Zm ?_
 refine Zsu ?_
 refine Za ?_
 refine Zk7 0 1 2 3 4 10 11 (Zts (Cd.block ?_))
 refine Cd.loop (σ:=List Fl × List Fl × List Fl × List Fl) (fun s=>[(0, .slice (some ⟨g,0,none⟩) n cap),(2, .int .i64 (m:Int)),(4,v),(10, .int .i64 (s.2.1.length:Int)),(11, .int .i64 (s.2.2.1.length:Int))])
  (fun s wr=>0<s.2.1.length∧0<s.2.2.1.length∧m=P.length+s.1.length+s.2.1.length∧s.1++(s.2.2.1++(s.2.1++s.2.2.2))=V++U∧Blk wr g 81 (fcs (P++(s.1++(s.2.1++(s.2.2.1++(s.2.2.2++S)))))++pad).toArray∧Onl w wr g) (fun s=>s.2.1.length+s.2.2.1.length) ([],U,V,[]) ⟨hU,hV,by simp;omega,by simp,by simpa using k0,only⟩ ⟨rfl,rfl,rfl,int_at (by simp only;omega),int_at (by simp only;omega),trivial⟩ ?_
 clear k0 only
 rintro⟨D1,U1,V1,D2⟩ wr ⟨hU1,hV1,hm1,hD,k0,only⟩
 simp only at hU1 hV1 hm1 hD k0
 have hl:=congrArg List.length hD
 simp only[List.length_append] at hl
 show Cd _ _ _ _ [(0, .slice (some ⟨g,0,none⟩) n cap),(2, .int .i64 (m:Int)),(4,v),(10, .int .i64 (U1.length:Int)),(11, .int .i64 (V1.length:Int))] _
 refine Cd.seq (Zsr ?_)
 refine Zm ?_
 refine Zm ?_
 refine Zni ?_
 refine Zk6 0 2 4 10 11 20 (Zt ?_)
 refine Cd.cond rfl (fun h=> ?_) (fun h=> ?_)
 ·have h:U1.length≠V1.length:=by simp at h;omega
  refine Cd.skip (Zt (Cd.block (Zsr ?_)))
  refine Zm ?_
  refine Zm ?_
  refine Zgt ?_
  refine Zk7 0 2 4 10 11 20 23 (Zt ?_)
  refine Cd.condD rfl (fun hc=> ?_) (fun hc=> ?_)
  ·obtain⟨A,B,rfl,hA⟩:∃A B,U1=A++B∧A.length=V1.length:=⟨U1.take V1.length,U1.drop V1.length,(List.take_append_drop _ _).symm,by rw[List.length_take];omega⟩
   have k0:Blk wr g 81 (fcs ((P++D1)++(A++(B++(V1++(D2++S)))))++pad).toArray:=by simpa using k0
   have hAB:(A++B).length=A.length+B.length:=List.length_append
   simp only[List.length_append] at hm1 hl hU1 hc
   refine Zsr ?_
   refine Zm ?_
   refine Zm ?_
   refine Zm ?_
   refine Zsu ?_
   refine Zm ?_
   refine Zm ?_
   refine Zm ?_
   have hz1:(m:Int)-((A++B).length:Int)=((P++D1).length:Int):=by simp only[List.length_append];omega
   rw[hz1]
   refine Zc (Ze Tryz.func220) (swapR_any g cap (P++D1).length m V1.length n (P++D1) A B V1 (D2++S) pad v _ hA (by simp only[List.length_append];omega) h1 rfl (by simp only[List.length_append];omega) hA.symm k0) ?_
   rintro en w5 ⟨rfl,kz,oz⟩
   refine⟨_,rfl,?_⟩
   have only2:=only.trans oz
   clear k0 only
   have only:=only2
   clear only2 oz
   have k0:Blk w5 g 81 (fcs (P++((D1++V1)++(B++(A++(D2++S)))))++pad).toArray:=by simpa using kz
   clear kz
   refine Zk7 0 2 4 10 11 20 23 (Ztr ?_)
   refine Zm ?_
   refine Zm ?_
   refine Zsu ?_
   refine Za ?_
   refine Zk7 0 2 4 10 11 20 23 (Post.block_normal ?_)
   refine Post.round (D1++V1,B,A,D2) ⟨rfl,rfl,rfl,int_at (by simp only[List.length_append];omega),int_at (by simp only;omega),trivial⟩ ⟨by simp only;omega,by simp only;omega,by simp only[List.length_append];omega,by simpa using hD,k0,only⟩ (by simp only[List.length_append];omega)
  ·obtain⟨A,B,rfl,hB⟩:∃A B,V1=A++B∧B.length=U1.length:=⟨V1.take (V1.length-U1.length),V1.drop (V1.length-U1.length),(List.take_append_drop _ _).symm,by rw[List.length_drop];omega⟩
   have k0:Blk wr g 81 (fcs ((P++D1)++(U1++(A++(B++(D2++S)))))++pad).toArray:=by simpa using k0
   have hAB:(A++B).length=A.length+B.length:=List.length_append
   simp only[List.length_append] at hl hV1 hc h
   refine Zsr ?_
   refine Zm ?_
   refine Zm ?_
   refine Zm ?_
   refine Zsu ?_
   refine Zm ?_
   refine Zm ?_
   refine Za_ ?_
   refine Zm ?_
   refine Zsu ?_
   refine Zm ?_
   refine Zm ?_
   have hz1:(m:Int)-(U1.length:Int)=((P++D1).length:Int):=by simp only[List.length_append];omega
   have hz2:(m:Int)+((A++B).length:Int)-(U1.length:Int)=((m+A.length:Nat):Int):=by simp only[List.length_append];omega
   rw[hz1,hz2]
   refine Zc (Ze Tryz.func220) (swapR_any g cap (P++D1).length (m+A.length) U1.length n (P++D1) U1 A B (D2++S) pad v _ hB.symm (by simp only[List.length_append];omega) h1 rfl (by simp only[List.length_append];omega) rfl k0) ?_
   rintro en w5 ⟨rfl,kz,oz⟩
   refine⟨_,rfl,?_⟩
   have only2:=only.trans oz
   clear k0 only
   have only:=only2
   clear only2 oz
   have k0:Blk w5 g 81 (fcs (P++(D1++(B++(A++((U1++D2)++S)))))++pad).toArray:=by simpa using kz
   clear kz
   refine Zk7 0 2 4 10 11 20 23 (Ztr ?_)
   refine Zm ?_
   refine Zm ?_
   refine Zsu ?_
   refine Za ?_
   refine Zk7 0 2 4 10 11 20 23 (Post.block_normal ?_)
   refine Post.round (D1,B,A,U1++D2) ⟨rfl,rfl,rfl,int_at (by simp only;omega),int_at (by simp only[List.length_append];omega),trivial⟩ ⟨by simp only;omega,by simp only;omega,by simp only;omega,by simpa using hD,k0,only⟩ (by simp only[List.length_append];omega)
 ·have h:U1.length=V1.length:=by simp at h;omega
  have k0:Blk wr g 81 (fcs ((P++D1)++(U1++([]++(V1++(D2++S)))))++pad).toArray:=by simpa using k0
  refine Cd.exit (Post.then_exit (Post.round_exit (Post.block_exit (Ztr ?_))))
  refine Zm ?_
  refine Zm ?_
  refine Zm ?_
  refine Zsu ?_
  refine Zm ?_
  refine Zm ?_
  refine Zm ?_
  have hz1:(m:Int)-(U1.length:Int)=((P++D1).length:Int):=by simp only[List.length_append];omega
  rw[hz1]
  refine Zc (Ze Tryz.func220) (swapR_any g cap (P++D1).length m U1.length n (P++D1) U1 [] V1 (D2++S) pad v _ h (by simp only[List.length_append,List.length_nil];omega) h1 rfl (by simp only[List.length_append,List.length_nil];omega) rfl k0) ?_
  rintro en w5 ⟨rfl,kz,oz⟩
  refine⟨_,rfl,?_⟩
  have only2:=only.trans oz
  clear k0 only
  have only:=only2
  clear only2 oz
  have k0:Blk w5 g 81 (fcs (P++(V++(U++S)))++pad).toArray:=by
   have e:(P++D1)++(V1++([]++(U1++(D2++S))))=P++(V++(U++S)):=by
    rw[←List.append_assoc V U S,←hD]
    simp
   rw[←e]
   exact kz
  clear kz
  refine Zk6 0 2 4 10 11 20 ?_
  refine Post.end0 rfl (.inr rfl) ?_
  exact⟨rfl,k0,only⟩
end Go.Proofs.YtdpipgidpkmolaaGreatDoor
namespace Go.Proofs.YtdpipgidpkmolaaGreatDoor
open Go.RowKit
theorem eg_order:∀args w,(callFunc 66 args).run Tryz.prog w= .ok (.enter 66 args) w:=fun args w=>run_enter Tryz.func66 (by kernel_rfl) rfl args w
theorem nil_or_last {α:Type}(X:List α):X=[]∨∃L b,X=L++[b]:=by
 rcases List.eq_nil_or_concat X with h|⟨L,b,h⟩
 ·exact .inl h
 ·exact .inr ⟨L,b,by rw[h];simp⟩
theorem pw_one (L:List Fl):(L.take 1).Pairwise leF:=by
 cases L with
 |nil=>exact List.Pairwise.nil
 |cons x r=>simp
theorem insert_any (g cap a b n:Nat)(P L S:List Fl)(pad:List Value)(w:World)(hN:n=(P++(L++S)).length)(h1:n≤1000000)(ha:a=P.length)(hb:b=a+L.length)(k0:Blk w g 81 (fcs (P++(L++S))++pad).toArray):
  Calls Tryz.prog 157 #[.slice (some ⟨g,0,none⟩) n cap, .int .i64 (a:Int), .int .i64 (b:Int), .func (.func 66) #[] #[]] w fun e w'=>∃M,e= .returned (.tuple #[])∧M.Perm L∧M.Pairwise leF∧Blk w' g 81 (fcs (P++(M++S))++pad).toArray∧Onl w w' g:=by
 have only:=Onl.refl w g
 simp only[List.length_append] at hN
 refine Zs 53 Tryz.func157 ?_
 refine Zsr ?_
 refine Zm ?_
 refine Za_ ?_
 refine Za ?_
 refine Zk5 0 1 2 3 8 (Zt (Cd.block ?_))
 refine Cd.loop (σ:=Nat × List Fl) (fun s=>[(0, .slice (some ⟨g,0,none⟩) n cap),(1, .int .i64 (a:Int)),(2, .int .i64 (b:Int)),(3, .func (.func 66) #[] #[]),(8, .int .i64 ((a+s.1:Nat):Int))])
  (fun s wr=>1≤s.1∧(s.1≤L.length∨s.1=1)∧s.2.Perm (L.take s.1)∧s.2.Pairwise leF∧Blk wr g 81 (fcs (P++(s.2++(L.drop s.1++S)))++pad).toArray∧Onl w wr g) (fun s=>L.length-s.1) (1,L.take 1) ⟨Nat.le_refl _, .inr rfl,List.Perm.refl _,pw_one L,by rw[←List.append_assoc (L.take 1),List.take_append_drop];exact k0,only⟩ ⟨rfl,rfl,rfl,rfl,int_at (by simp only;omega),trivial⟩ ?_
 clear k0 only
 rintro⟨k,M⟩ wr ⟨hk1,hk2,hpm,hpw,k0,only⟩
 simp only at hk1 hk2 hpm hpw k0
 show Cd _ _ _ _ [(0, .slice (some ⟨g,0,none⟩) n cap),(1, .int .i64 (a:Int)),(2, .int .i64 (b:Int)),(3, .func (.func 66) #[] #[]),(8, .int .i64 ((a+k:Nat):Int))] _
 refine Cd.seq (Zsr ?_)
 refine Zm ?_
 refine Zm ?_
 refine Zls ?_
 refine Zk6 0 1 2 3 8 14 (Zt ?_)
 refine Cd.condD rfl (fun hc=> ?_) (fun hc=> ?_)
 ·obtain⟨y,hy⟩:∃y,L[k]? =some y:=⟨_,List.getElem?_eq_getElem (show k<L.length by omega)⟩
  have hdk:=drop_head hy
  have htk:=take_last hy
  have hMl:M.length=k:=by rw[hpm.length_eq,List.length_take];omega
  obtain⟨R,hR⟩:∃R,R=L.drop (k+1)++S:=⟨_,rfl⟩
  rw[hdk,List.cons_append,←hR] at k0
  have hRl:R.length=L.length-(k+1)+S.length:=by rw[hR];simp
  refine Cd.skip (Zts (Cd.block (Zsr ?_)))
  refine Zm ?_
  refine Za ?_
  refine Zk7 0 1 2 3 8 9 14 (Zt (Cd.block ?_))
  refine Cd.loop (σ:=List Fl × List Fl) (fun s=>[(0, .slice (some ⟨g,0,none⟩) n cap),(1, .int .i64 (a:Int)),(2, .int .i64 (b:Int)),(3, .func (.func 66) #[] #[]),(8, .int .i64 ((a+k:Nat):Int)),(9, .int .i64 ((a+s.1.length:Nat):Int))])
   (fun s wr=>s.1++s.2=M∧(s.2=[]∨∃z Y',s.2=z::Y'∧ltF y z)∧Blk wr g 81 (fcs (P++(s.1++y::(s.2++R)))++pad).toArray∧Onl w wr g) (fun s=>s.1.length) (M,[]) ⟨by simp, .inl rfl,k0,only⟩ ⟨rfl,rfl,rfl,rfl,rfl,int_at (by simp only;omega),trivial⟩ ?_
  clear k0 only
  rintro⟨X,Y⟩ wr ⟨hXY,hYh,k0,only⟩
  simp only at hXY hYh k0
  have hXYl:=congrArg List.length hXY
  rw[List.length_append] at hXYl
  show Cd _ _ _ _ [(0, .slice (some ⟨g,0,none⟩) n cap),(1, .int .i64 (a:Int)),(2, .int .i64 (b:Int)),(3, .func (.func 66) #[] #[]),(8, .int .i64 ((a+k:Nat):Int)),(9, .int .i64 ((a+X.length:Nat):Int))] _
  rcases nil_or_last X with rfl|⟨X',z,rfl⟩
  ·skip
   refine Cd.seq (Cd.seq ?_)
   refine Zdr 17 ?_
   intro w1 hw1 zw1
   replace k0:=k0.step hw1
   replace only:=only.step hw1
   have zlt:=k0.lt
   refine Zdm ?_
   refine Zdm ?_
   refine Zd (fun w hG=>(Runs.gtr rfl rfl rfl).isF (by simp)) ?_
   refine Zdm ?_
   refine Zds ?_
   refine Zds ?_
   refine Zds ?_
   refine Zds ?_
   refine Zds ?_
   refine Zds ?_
   refine Zds ?_
   refine Zds ?_
   refine Zds ?_
   refine Zds ?_
   refine Zds ?_
   refine Zds ?_
   refine Zd (fun w hG=>Runs.pickF rfl rfl rfl) ?_
   refine Dr.nil ?_
   refine FinX.done (F':=[(0,_),(1,_),(2,_),(3,_),(8,_),(9,_),(34,_)]) rfl ⟨rfl,rfl,rfl,rfl,rfl,rfl,rfl,trivial⟩ ?_
   intro w2 hw2 fw2
   replace k0:=k0.step hw2
   replace only:=only.step hw2
   refine Zk7 0 1 2 3 8 9 34 (Zt ?_)
   refine Cd.condF rfl rfl ?_
   refine Cd.exit (Post.then_exit (Post.round_exit (Post.block_exit (Post.block_normal (Ztr ?_)))))
   refine Zm ?_
   refine Za_ ?_
   refine Za ?_
   refine Zk7 0 1 2 3 8 9 34 ?_
   refine Post.round (k+1,[]++y::Y) ⟨rfl,rfl,rfl,rfl,int_at (by simp only;omega),trivial⟩ ⟨by simp only;omega,by simp only;omega,?_,?_,by rw[←hR];simpa using k0,only⟩ (by simp only;omega)
   ·show(y::Y).Perm _
    rw[htk]
    rw[List.nil_append] at hXY
    rw[hXY]
    exact(hpm.cons y).trans (List.perm_append_singleton y _).symm
   ·rw[←hXY] at hpw
    exact put_sorted leF_tr leF_rf hpw (.inl rfl) (hYh.imp id fun⟨z,Y',e,h⟩=>⟨z,Y',e,ltF_le h⟩)
  have hXl:(X'++[z]).length=X'.length+1:=by simp
  have hQl:(Y++R).length=Y.length+R.length:=List.length_append
  have k0':Blk wr g 81 (fcs ((P++X')++z::y::(Y++R))++pad).toArray:=by simpa using k0
  clear k0
  have k0:=k0'
  clear k0'
  obtain⟨d,hd⟩:∃d,d=(P++X')++z::y::(Y++R):=⟨_,rfl⟩
  have hdl:d.length=P.length+X'.length+2+(Y++R).length:=by rw[hd];simp only[List.length_append,List.length_cons];omega
  have hz:d[a+X'.length]? =some z:=by rw[hd];exact get_mid' (by simp only[List.length_append];omega)
  have hyy:d[a+X'.length+1]? =some y:=by rw[hd,show(P++X')++z::y::(Y++R)=((P++X')++[z])++y::(Y++R) by simp];exact get_mid' (by simp only[List.length_append,List.length_cons,List.length_nil];omega)
  have hsw:(d.set (a+X'.length+1) z).set (a+X'.length) y=(P++X')++y::z::(Y++R):=by rw[hd];exact swap_mid' (by simp only[List.length_append];omega) rfl
  rw[←hd] at k0
  by_cases hlt:ltF y z
  ·have hlt':ordB y z<0:=hlt
   refine Cd.seq (Cd.seq ?_)
   refine Zdr 17 ?_
   intro w1 hw1 zw1
   replace k0:=k0.step hw1
   replace only:=only.step hw1
   have zlt:=k0.lt
   refine Zdm ?_
   refine Zdm ?_
   refine Zd (fun w hG=>(Runs.gtr rfl rfl rfl).isT (by omega)) ?_
   refine Zdm ?_
   refine Zdg (fun w hG=>Runs.move rfl rfl) ?_
   refine Zdg (fun w hG=>Runs.move rfl rfl) ?_
   refine Zdg (fun w hG=>Runs.move rfl rfl) ?_
   refine Zdg (fun w hG=>Runs.indexBN rfl rfl rfl Tryz.underlying36 (s:=6) (by kernel_rfl) (j:=a+X'.length+1) (by omega) (by omega)) ?_
   refine Zdg (fun w hG=>Runs.loadP (off:=6*(a+X'.length+1)) (ps:=[.int .i64 y.num, .int .i64 y.level, .string (strOf y.first), .string (strOf y.last), .int .i64 y.count, .int .i64 y.size]) rfl rfl Tryz.underlying81 rfl (k0.step hG) (m:=6) (by kernel_rfl) rfl (fcs_ld hyy)) ?_
   refine Zdg (fun w hG=>Runs.move rfl rfl) ?_
   refine Zdg (fun w hG=>Runs.move rfl rfl) ?_
   refine Zdg (fun w hG=>Runs.subI rfl rfl rfl (by omega) (by omega)) ?_
   refine Zdg (fun w hG=>Runs.indexBN rfl rfl rfl Tryz.underlying36 (s:=6) (by kernel_rfl) (j:=a+X'.length) (by omega) (by omega)) ?_
   refine Zdg (fun w hG=>Runs.loadP (off:=6*(a+X'.length)) (ps:=[.int .i64 z.num, .int .i64 z.level, .string (strOf z.first), .string (strOf z.last), .int .i64 z.count, .int .i64 z.size]) rfl rfl Tryz.underlying81 rfl (k0.step hG) (m:=6) (by kernel_rfl) rfl (fcs_ld hz)) ?_
   refine Dr.callVG rfl (fun w=>Enters.value (first:=[]) (cap:=[]) rfl rfl rfl eg_order) rfl rfl rfl (fun w hG=>order_any y z w) ?_
   refine Zdg (fun w hG=>(Runs.lss rfl rfl rfl).isT (hlt')) ?_
   refine Zd (fun w hG=>Runs.pickT rfl rfl rfl) ?_
   refine Dr.nil ?_
   refine FinX.done (F':=[(0,_),(1,_),(2,_),(3,_),(8,_),(9,_),(34,_)]) rfl ⟨rfl,rfl,rfl,rfl,rfl,rfl,rfl,trivial⟩ ?_
   intro w2 hw2 fw2
   replace k0:=k0.step hw2
   replace only:=only.step hw2
   refine Zk7 0 1 2 3 8 9 34 (Zt ?_)
   refine Cd.condT rfl rfl ?_
   refine Cd.skip (Zts (Cd.block ?_))
   refine Cd.draw 14 (by kernel_rfl) [2,3,4] (.inr (fun _ _ d _ _ h=>by cases d<;>exact h)) rfl Grow Grow.refl (fun _ _ _=>Grow.trans) ?_
   intro w3 hw3 zw3
   replace k0:=k0.step hw3
   replace only:=only.step hw3
   have zlt:=k0.lt
   refine Zdm ?_
   refine Zdm ?_
   refine Dr.late rfl rfl (fun w=>Runs.move rfl rfl) Grow.refl rfl ?_
   refine Dr.late rfl rfl (fun w=>Runs.move rfl rfl) Grow.refl rfl ?_
   refine Dr.late rfl rfl (fun w=>Runs.subI rfl rfl rfl (by omega) (by omega)) Grow.refl rfl ?_
   refine Zdm ?_
   refine Zdm ?_
   refine Zd (fun w hG=>Runs.subI rfl rfl rfl (by omega) (by omega)) ?_
   refine Zd (fun w hG=>Runs.indexBN rfl rfl rfl Tryz.underlying36 (s:=6) (by kernel_rfl) (j:=a+X'.length) (by omega) (by omega)) ?_
   refine Zd (fun w hG=>Runs.loadP (off:=6*(a+X'.length)) (ps:=[.int .i64 z.num, .int .i64 z.level, .string (strOf z.first), .string (strOf z.last), .int .i64 z.count, .int .i64 z.size]) rfl rfl Tryz.underlying81 rfl (k0.step hG) (m:=6) (by kernel_rfl) rfl (fcs_ld hz)) ?_
   refine Zdm ?_
   refine Zdm ?_
   refine Zd (fun w hG=>Runs.indexBN rfl rfl rfl Tryz.underlying36 (s:=6) (by kernel_rfl) (j:=a+X'.length+1) (by omega) (by omega)) ?_
   refine Zd (fun w hG=>Runs.loadP (off:=6*(a+X'.length+1)) (ps:=[.int .i64 y.num, .int .i64 y.level, .string (strOf y.first), .string (strOf y.last), .int .i64 y.count, .int .i64 y.size]) rfl rfl Tryz.underlying81 rfl (k0.step hG) (m:=6) (by kernel_rfl) rfl (fcs_ld hyy)) ?_
   refine Dr.nil ?_
   refine FinX.done (F':=[(0,_),(1,_),(2,_),(3,_),(8,_),(9,_),(34,_),(37,_),(38,_),(39,_),(41,_),(46,_),(50,_)]) rfl ⟨rfl,rfl,rfl,rfl,rfl,rfl,rfl,rfl,rfl,rfl,rfl,rfl,rfl,trivial⟩ ?_
   intro w4 hw4 fw4
   replace k0:=k0.step hw4
   replace only:=only.step hw4
   refine Zv (Runs.indexBN rfl rfl rfl Tryz.underlying36 (s:=6) (by kernel_rfl) (j:=a+X'.length+1) (by omega) (by omega)) ?_
   refine Seq.storeR (f:=z) rfl rfl rfl (by kernel_rfl) k0 (by(try simp only[List.length_set]);omega) only rfl rfl ?_
   intro wz kz oz
   clear k0 only
   have k0:=kz
   have only:=oz
   clear kz oz
   refine Zv (Runs.indexBN rfl rfl rfl Tryz.underlying36 (s:=6) (by kernel_rfl) (j:=a+X'.length) (by omega) (by omega)) ?_
   refine Seq.storeR (f:=y) rfl rfl rfl (by kernel_rfl) k0 (by(try simp only[List.length_set]);omega) only rfl rfl ?_
   intro wz kz oz
   clear k0 only
   have k0:=kz
   have only:=oz
   clear kz oz
   rw[hsw] at k0
   refine Zk7 0 1 2 3 8 9 34 (Post.block_normal (Ztr ?_))
   refine Zm ?_
   refine Zsu ?_
   refine Za ?_
   refine Zk7 0 1 2 3 8 9 34 ?_
   refine Post.round (X',z::Y) ⟨rfl,rfl,rfl,rfl,rfl,int_at (by simp only;omega),trivial⟩ ⟨by rw[←hXY];simp, .inr ⟨z,Y,rfl,hlt⟩,by simpa using k0,only⟩ (by simp only;omega)
  ·have hlt':¬ordB y z<0:=hlt
   refine Cd.seq (Cd.seq ?_)
   refine Zdr 17 ?_
   intro w1 hw1 zw1
   replace k0:=k0.step hw1
   replace only:=only.step hw1
   have zlt:=k0.lt
   refine Zdm ?_
   refine Zdm ?_
   refine Zd (fun w hG=>(Runs.gtr rfl rfl rfl).isT (by omega)) ?_
   refine Zdm ?_
   refine Zdg (fun w hG=>Runs.move rfl rfl) ?_
   refine Zdg (fun w hG=>Runs.move rfl rfl) ?_
   refine Zdg (fun w hG=>Runs.move rfl rfl) ?_
   refine Zdg (fun w hG=>Runs.indexBN rfl rfl rfl Tryz.underlying36 (s:=6) (by kernel_rfl) (j:=a+X'.length+1) (by omega) (by omega)) ?_
   refine Zdg (fun w hG=>Runs.loadP (off:=6*(a+X'.length+1)) (ps:=[.int .i64 y.num, .int .i64 y.level, .string (strOf y.first), .string (strOf y.last), .int .i64 y.count, .int .i64 y.size]) rfl rfl Tryz.underlying81 rfl (k0.step hG) (m:=6) (by kernel_rfl) rfl (fcs_ld hyy)) ?_
   refine Zdg (fun w hG=>Runs.move rfl rfl) ?_
   refine Zdg (fun w hG=>Runs.move rfl rfl) ?_
   refine Zdg (fun w hG=>Runs.subI rfl rfl rfl (by omega) (by omega)) ?_
   refine Zdg (fun w hG=>Runs.indexBN rfl rfl rfl Tryz.underlying36 (s:=6) (by kernel_rfl) (j:=a+X'.length) (by omega) (by omega)) ?_
   refine Zdg (fun w hG=>Runs.loadP (off:=6*(a+X'.length)) (ps:=[.int .i64 z.num, .int .i64 z.level, .string (strOf z.first), .string (strOf z.last), .int .i64 z.count, .int .i64 z.size]) rfl rfl Tryz.underlying81 rfl (k0.step hG) (m:=6) (by kernel_rfl) rfl (fcs_ld hz)) ?_
   refine Dr.callVG rfl (fun w=>Enters.value (first:=[]) (cap:=[]) rfl rfl rfl eg_order) rfl rfl rfl (fun w hG=>order_any y z w) ?_
   refine Zdg (fun w hG=>(Runs.lss rfl rfl rfl).isF (hlt')) ?_
   refine Zd (fun w hG=>Runs.pickT rfl rfl rfl) ?_
   refine Dr.nil ?_
   refine FinX.done (F':=[(0,_),(1,_),(2,_),(3,_),(8,_),(9,_),(34,_)]) rfl ⟨rfl,rfl,rfl,rfl,rfl,rfl,rfl,trivial⟩ ?_
   intro w2 hw2 fw2
   replace k0:=k0.step hw2
   replace only:=only.step hw2
   refine Zk7 0 1 2 3 8 9 34 (Zt ?_)
   refine Cd.condF rfl rfl ?_
   refine Cd.exit (Post.then_exit (Post.round_exit (Post.block_exit (Post.block_normal (Ztr ?_)))))
   refine Zm ?_
   refine Za_ ?_
   refine Za ?_
   refine Zk7 0 1 2 3 8 9 34 ?_
   refine Post.round (k+1,(X'++[z])++y::Y) ⟨rfl,rfl,rfl,rfl,int_at (by simp only;omega),trivial⟩ ⟨by simp only;omega,by simp only;omega,?_,?_,by rw[←hR];rw[hd] at k0;simpa using k0,only⟩ (by simp only;omega)
   ·show((X'++[z])++y::Y).Perm _
    rw[htk]
    refine List.perm_middle.trans ?_
    rw[hXY]
    exact(hpm.cons y).trans (List.perm_append_singleton y _).symm
   ·rw[←hXY] at hpw
    exact put_sorted leF_tr leF_rf hpw (.inr ⟨X',z,rfl,hlt⟩) (hYh.imp id fun⟨z,Y',e,h⟩=>⟨z,Y',e,ltF_le h⟩)
 ·have hkL:L.length≤k:=by omega
  rw[List.take_of_length_le hkL] at hpm
  rw[List.drop_of_length_le hkL,List.nil_append] at k0
  refine Cd.exit (Post.then_exit (Post.round_exit (Post.block_exit ?_)))
  refine Post.end0 rfl (.inr rfl) ?_
  exact⟨M,rfl,hpm,hpw,k0,only⟩
end Go.Proofs.YtdpipgidpkmolaaGreatDoor
namespace Go.Proofs.YtdpipgidpkmolaaGreatDoor
open Go.RowKit
theorem get_in {P L Q:List Fl}{a c:Nat}{y:Fl}(ha:a=P.length)(h:L[c]? =some y):(P++(L++Q))[a+c]? =some y:=by
 have hc:=(List.getElem?_eq_some_iff.1 h).1
 rw[List.getElem?_append_right (by omega),List.getElem?_append_left (by omega),show a+c-P.length=c by omega]
 exact h
theorem get_in2 {P L R Q:List Fl}{m c:Nat}{y:Fl}(hm:m=P.length+L.length)(h:R[c]? =some y):(P++(L++(R++Q)))[m+c]? =some y:=by
 rw[←List.append_assoc P L]
 exact get_in (by rw[List.length_append];exact hm) h
set_option maxHeartbeats 2000000 in
theorem symOne_any (g cap a m b n:Nat)(P L R S:List Fl)(pad:List Value)(w:World)(hL0:L.length=1)(hR0:0<R.length)(hN:n=(P++(L++(R++S))).length)(h1:n≤1000000)(ha:a=P.length)(hm:m=a+L.length)(hb:b=m+R.length)(hR:R.Pairwise leF)(k0:Blk w g 81 (fcs (P++(L++(R++S)))++pad).toArray):
  Calls Tryz.prog 158 #[.slice (some ⟨g,0,none⟩) n cap, .int .i64 (a:Int), .int .i64 (m:Int), .int .i64 (b:Int), .func (.func 66) #[] #[]] w fun e w'=>∃M,e= .returned (.tuple #[])∧M.Perm (L++R)∧M.Pairwise leF∧Blk w' g 81 (fcs (P++(M++S))++pad).toArray∧Onl w w' g:=by
 have only:=Onl.refl w g
 simp only[List.length_append] at hN
 obtain⟨x,rfl⟩:∃x,L=[x]:=List.length_eq_one_iff.1 hL0
 simp only[List.length_cons,List.length_nil] at hm hN
 obtain⟨d,hd⟩:∃d,d=P++([x]++(R++S)):=⟨_,rfl⟩
 have hdl:d.length=n:=by rw[hd];simp only[List.length_append,List.length_cons,List.length_nil];omega
 have hxd:d[a]? =some x:=by rw[hd];exact get_in (L:=[x]) (c:=0) ha rfl
 have hRd:∀(c:Nat) (y:Fl),R[c]? =some y→d[m+c]? =some y:=fun c y h=>by rw[hd];exact get_in2 (L:=[x]) (by simp only[List.length_cons,List.length_nil];omega) h
 rw[←hd] at k0
 refine Zs 220 Tryz.func158 ?_
 refine Cd.seq (Zsr ?_)
 refine Zm ?_
 refine Zm ?_
 refine Zsu ?_
 refine Zqi ?_
 refine Zk6 0 1 2 3 4 28 (Zt ?_)
 refine Cd.condT rfl (decide_eq_true (by omega)) ?_
 refine Zsr ?_
 refine Zm ?_
 refine Za ?_
 refine Zk7 0 1 2 3 4 10 28 (Ztq ?_)
 refine Zm ?_
 refine Za ?_
 refine Zk8 0 1 2 3 4 10 11 28 (Zts (Cd.block ?_))
 refine Cd.loop (σ:=Nat × Nat) (fun s=>[(0, .slice (some ⟨g,0,none⟩) n cap),(1, .int .i64 (a:Int)),(2, .int .i64 (m:Int)),(3, .int .i64 (b:Int)),(4, .func (.func 66) #[] #[]),(10, .int .i64 ((m+s.1:Nat):Int)),(11, .int .i64 ((m+s.2:Nat):Int))])
  (fun s wr=>s.1≤s.2∧s.2≤R.length∧(s.1=0∨∃y,R[s.1-1]? =some y∧ltF y x)∧(s.2=R.length∨∃y,R[s.2]? =some y∧¬ltF y x)∧Blk wr g 81 (fcs (d)++pad).toArray∧Onl w wr g) (fun s=>s.2-s.1) (0,R.length) ⟨Nat.zero_le _,Nat.le_refl _, .inl rfl, .inl rfl,k0,only⟩ ⟨rfl,rfl,rfl,rfl,rfl,int_at (by simp only;omega),int_at (by simp only;omega),trivial⟩ ?_
 clear k0 only
 rintro⟨p,q⟩ wr ⟨hpq,hq,hp1,hq1,k0,only⟩
 simp only at hpq hq hp1 hq1
 show Cd _ _ _ _ [(0, .slice (some ⟨g,0,none⟩) n cap),(1, .int .i64 (a:Int)),(2, .int .i64 (m:Int)),(3, .int .i64 (b:Int)),(4, .func (.func 66) #[] #[]),(10, .int .i64 ((m+p:Nat):Int)),(11, .int .i64 ((m+q:Nat):Int))] _
 refine Cd.seq (Zsr ?_)
 refine Zm ?_
 refine Zm ?_
 refine Zls ?_
 refine Zk8 0 1 2 3 4 10 11 33 (Zt ?_)
 refine Cd.condD rfl (fun hc=> ?_) (fun hc=> ?_)
 ·obtain⟨hh,hh1,hh2⟩:∃h:Nat,2*h≤p+q∧p+q≤2*h+1:=⟨(p+q)/2,by omega,by omega⟩
  obtain⟨y,hy⟩:∃y,R[hh]? =some y:=⟨_,List.getElem?_eq_getElem (show hh<R.length by omega)⟩
  have hyd:=hRd hh y hy
  refine Cd.skip (Zt (Cd.block (Zsr ?_)))
  refine Zm ?_
  refine Zm ?_
  refine Za_ ?_
  refine Zv (Runs.convU (r:=m+p+(m+q)) rfl rfl Tryz.underlying3 Tryz.underlying143 (by omega)) ?_
  refine Zv ((Runs.shrL rfl rfl rfl (s:=1) rfl (by omega)).cast (v':= .int .u64 ((m+hh:Nat):Int)) (by rw[show(m+p+(m+q))/2^1=m+hh by omega])) ?_
  refine Zv (Runs.convI rfl rfl Tryz.underlying143 Tryz.underlying3 (wrapI (by omega) (by omega))) ?_
  refine Za ?_
  refine Zk9 0 1 2 3 4 10 11 12 33 (Zts ?_)
  by_cases hlt:ltF y x
  ·have hlt':ordB y x<0:=hlt
   refine Zdr 11 ?_
   intro w1 hw1 zw1
   replace k0:=k0.step hw1
   replace only:=only.step hw1
   have zlt:=k0.lt
   refine Zdm ?_
   refine Zdm ?_
   refine Zdm ?_
   refine Zd (fun w hG=>Runs.indexBN rfl rfl rfl Tryz.underlying36 (s:=6) (by kernel_rfl) (j:=m+hh) (by omega) (by omega)) ?_
   refine Zd (fun w hG=>Runs.loadP (off:=6*(m+hh)) (ps:=[.int .i64 y.num, .int .i64 y.level, .string (strOf y.first), .string (strOf y.last), .int .i64 y.count, .int .i64 y.size]) rfl rfl Tryz.underlying81 rfl (k0.step hG) (m:=6) (by kernel_rfl) rfl (fcs_ld hyd)) ?_
   refine Zdm ?_
   refine Zdm ?_
   refine Zd (fun w hG=>Runs.indexBN rfl rfl rfl Tryz.underlying36 (s:=6) (by kernel_rfl) (j:=a) (by omega) (by omega)) ?_
   refine Zd (fun w hG=>Runs.loadP (off:=6*(a)) (ps:=[.int .i64 x.num, .int .i64 x.level, .string (strOf x.first), .string (strOf x.last), .int .i64 x.count, .int .i64 x.size]) rfl rfl Tryz.underlying81 rfl (k0.step hG) (m:=6) (by kernel_rfl) rfl (fcs_ld hxd)) ?_
   refine Dr.callV rfl (fun w=>Enters.value (first:=[]) (cap:=[]) rfl rfl rfl eg_order) rfl (fun w hG=>order_any y x w) ?_
   refine Zd (fun w hG=>(Runs.lss rfl rfl rfl).isT (hlt')) ?_
   refine Dr.nil ?_
   refine FinX.done (F':=[(0,_),(1,_),(2,_),(3,_),(4,_),(10,_),(11,_),(12,_),(33,_),(50,_)]) rfl ⟨rfl,rfl,rfl,rfl,rfl,rfl,rfl,rfl,rfl,rfl,trivial⟩ ?_
   intro w2 hw2 fw2
   replace k0:=k0.step hw2
   replace only:=only.step hw2
   refine Zk10 0 1 2 3 4 10 11 12 33 50 (Zt ?_)
   refine Cd.condT rfl rfl ?_
   refine Zr ?_
   refine Zm ?_
   refine Za_ ?_
   refine Za ?_
   refine Zk10 0 1 2 3 4 10 11 12 33 50 (Post.block_normal ?_)
   exact Post.round (hh+1,q) ⟨rfl,rfl,rfl,rfl,rfl,int_at (by simp only;omega),rfl,trivial⟩ ⟨by simp only;omega,hq, .inr ⟨y,by simpa using hy,hlt⟩,hq1,k0,only⟩ (by simp only;omega)
  ·have hlt':¬ordB y x<0:=hlt
   refine Zdr 11 ?_
   intro w1 hw1 zw1
   replace k0:=k0.step hw1
   replace only:=only.step hw1
   have zlt:=k0.lt
   refine Zdm ?_
   refine Zdm ?_
   refine Zdm ?_
   refine Zd (fun w hG=>Runs.indexBN rfl rfl rfl Tryz.underlying36 (s:=6) (by kernel_rfl) (j:=m+hh) (by omega) (by omega)) ?_
   refine Zd (fun w hG=>Runs.loadP (off:=6*(m+hh)) (ps:=[.int .i64 y.num, .int .i64 y.level, .string (strOf y.first), .string (strOf y.last), .int .i64 y.count, .int .i64 y.size]) rfl rfl Tryz.underlying81 rfl (k0.step hG) (m:=6) (by kernel_rfl) rfl (fcs_ld hyd)) ?_
   refine Zdm ?_
   refine Zdm ?_
   refine Zd (fun w hG=>Runs.indexBN rfl rfl rfl Tryz.underlying36 (s:=6) (by kernel_rfl) (j:=a) (by omega) (by omega)) ?_
   refine Zd (fun w hG=>Runs.loadP (off:=6*(a)) (ps:=[.int .i64 x.num, .int .i64 x.level, .string (strOf x.first), .string (strOf x.last), .int .i64 x.count, .int .i64 x.size]) rfl rfl Tryz.underlying81 rfl (k0.step hG) (m:=6) (by kernel_rfl) rfl (fcs_ld hxd)) ?_
   refine Dr.callV rfl (fun w=>Enters.value (first:=[]) (cap:=[]) rfl rfl rfl eg_order) rfl (fun w hG=>order_any y x w) ?_
   refine Zd (fun w hG=>(Runs.lss rfl rfl rfl).isF (hlt')) ?_
   refine Dr.nil ?_
   refine FinX.done (F':=[(0,_),(1,_),(2,_),(3,_),(4,_),(10,_),(11,_),(12,_),(33,_),(50,_)]) rfl ⟨rfl,rfl,rfl,rfl,rfl,rfl,rfl,rfl,rfl,rfl,trivial⟩ ?_
   intro w2 hw2 fw2
   replace k0:=k0.step hw2
   replace only:=only.step hw2
   refine Zk10 0 1 2 3 4 10 11 12 33 50 (Zt ?_)
   refine Cd.condF rfl rfl ?_
   refine Zr ?_
   refine Zm ?_
   refine Za ?_
   refine Zk10 0 1 2 3 4 10 11 12 33 50 (Post.block_normal ?_)
   exact Post.round (p,hh) ⟨rfl,rfl,rfl,rfl,rfl,rfl,rfl,trivial⟩ ⟨by simp only;omega,by simp only;omega,hp1, .inr ⟨y,hy,hlt⟩,k0,only⟩ (by simp only;omega)
 ·obtain rfl:p=q:=by omega
  refine Cd.exit (Post.then_exit (Post.round_exit (Post.block_exit (Zts (Zsr ?_)))))
  refine Zm ?_
  refine Za ?_
  refine Zk9 0 1 2 3 4 10 11 13 33 (Zt (Cd.block ?_))
  rw[hd] at k0
  refine Cd.loop (σ:=Nat) (fun c=>[(0, .slice (some ⟨g,0,none⟩) n cap),(10, .int .i64 ((m+p:Nat):Int)),(13, .int .i64 ((a+c:Nat):Int))])
   (fun c wr=>c≤p∧Blk wr g 81 (fcs (P++(R.take c++x::(R.drop c++S)))++pad).toArray∧Onl w wr g) (fun c=>p-c) 0 ⟨Nat.zero_le _,by simpa using k0,only⟩ ⟨rfl,rfl,int_at (by omega),trivial⟩ ?_
  clear k0 only
  rintro c wr ⟨hcp,k0,only⟩
  refine Cd.seq (Zsr ?_)
  refine Zm ?_
  refine Zm ?_
  refine Zsu ?_
  refine Zls ?_
  refine Zk4 0 10 13 58 (Zt ?_)
  refine Cd.condD rfl (fun hc=> ?_) (fun hc=> ?_)
  ·obtain⟨y,hy⟩:∃y,R[c]? =some y:=⟨_,List.getElem?_eq_getElem (show c<R.length by omega)⟩
   have hdr:=drop_head hy
   have htk:=take_last hy
   have hcl:(R.take c).length=c:=by rw[List.length_take];omega
   have hdl2:(R.drop (c+1)++S).length=R.length-(c+1)+S.length:=by simp
   have k0':Blk wr g 81 (fcs ((P++R.take c)++x::y::(R.drop (c+1)++S))++pad).toArray:=by rw[hdr] at k0;simpa using k0
   clear k0
   have k0:=k0'
   clear k0'
   obtain⟨e,he⟩:∃e,e=(P++R.take c)++x::y::(R.drop (c+1)++S):=⟨_,rfl⟩
   have hel:e.length=n:=by rw[he];simp only[List.length_append,List.length_cons,hcl] at hdl2⊢;try omega
   have hex:e[a+c]? =some x:=by rw[he];exact get_mid' (by simp only[List.length_append];omega)
   have hey:e[a+c+1]? =some y:=by rw[he,show(P++R.take c)++x::y::(R.drop (c+1)++S)=((P++R.take c)++[x])++y::(R.drop (c+1)++S) by simp];exact get_mid' (by simp only[List.length_append,List.length_cons,List.length_nil];omega)
   have hsw:(e.set (a+c) y).set (a+c+1) x=(P++R.take c)++y::x::(R.drop (c+1)++S):=by rw[he];exact swap_mid (by simp only[List.length_append];omega) rfl
   rw[←he] at k0
   refine Cd.skip (Zts (Cd.block ?_))
   refine Cd.draw 14 (by kernel_rfl) [2,3,4] (.inr (fun _ _ d _ _ h=>by cases d<;>exact h)) rfl Grow Grow.refl (fun _ _ _=>Grow.trans) ?_
   intro w1 hw1 zw1
   replace k0:=k0.step hw1
   replace only:=only.step hw1
   have zlt:=k0.lt
   refine Zdm ?_
   refine Zdm ?_
   refine Dr.late rfl rfl (fun w=>Runs.move rfl rfl) Grow.refl rfl ?_
   refine Dr.late rfl rfl (fun w=>Runs.move rfl rfl) Grow.refl rfl ?_
   refine Dr.late rfl rfl (fun w=>Runs.addI rfl rfl rfl (by omega) (by omega)) Grow.refl rfl ?_
   refine Zdm ?_
   refine Zdm ?_
   refine Zd (fun w hG=>Runs.addI rfl rfl rfl (by omega) (by omega)) ?_
   refine Zd (fun w hG=>Runs.indexBN rfl rfl rfl Tryz.underlying36 (s:=6) (by kernel_rfl) (j:=a+c+1) (by omega) (by omega)) ?_
   refine Zd (fun w hG=>Runs.loadP (off:=6*(a+c+1)) (ps:=[.int .i64 y.num, .int .i64 y.level, .string (strOf y.first), .string (strOf y.last), .int .i64 y.count, .int .i64 y.size]) rfl rfl Tryz.underlying81 rfl (k0.step hG) (m:=6) (by kernel_rfl) rfl (fcs_ld hey)) ?_
   refine Zdm ?_
   refine Zdm ?_
   refine Zd (fun w hG=>Runs.indexBN rfl rfl rfl Tryz.underlying36 (s:=6) (by kernel_rfl) (j:=a+c) (by omega) (by omega)) ?_
   refine Zd (fun w hG=>Runs.loadP (off:=6*(a+c)) (ps:=[.int .i64 x.num, .int .i64 x.level, .string (strOf x.first), .string (strOf x.last), .int .i64 x.count, .int .i64 x.size]) rfl rfl Tryz.underlying81 rfl (k0.step hG) (m:=6) (by kernel_rfl) rfl (fcs_ld hex)) ?_
   refine Dr.nil ?_
   refine FinX.done (F':=[(0,_),(10,_),(13,_),(58,_),(61,_),(62,_),(63,_),(65,_),(70,_),(74,_)]) rfl ⟨rfl,rfl,rfl,rfl,rfl,rfl,rfl,rfl,rfl,rfl,trivial⟩ ?_
   intro w2 hw2 fw2
   replace k0:=k0.step hw2
   replace only:=only.step hw2
   refine Zv (Runs.indexBN rfl rfl rfl Tryz.underlying36 (s:=6) (by kernel_rfl) (j:=a+c) (by omega) (by omega)) ?_
   refine Seq.storeR (f:=y) rfl rfl rfl (by kernel_rfl) k0 (by(try simp only[List.length_set]);omega) only rfl rfl ?_
   intro wz kz oz
   clear k0 only
   have k0:=kz
   have only:=oz
   clear kz oz
   refine Zv (Runs.indexBN rfl rfl rfl Tryz.underlying36 (s:=6) (by kernel_rfl) (j:=a+c+1) (by omega) (by omega)) ?_
   refine Seq.storeR (f:=x) rfl rfl rfl (by kernel_rfl) k0 (by(try simp only[List.length_set]);omega) only rfl rfl ?_
   intro wz kz oz
   clear k0 only
   have k0:=kz
   have only:=oz
   clear kz oz
   rw[hsw] at k0
   refine Zk4 0 10 13 58 (Post.block_normal (Ztr ?_))
   refine Zm ?_
   refine Za_ ?_
   refine Za ?_
   refine Zk4 0 10 13 58 ?_
   exact Post.round (c+1) ⟨rfl,rfl,int_at (by omega),trivial⟩ ⟨by omega,by rw[htk];simpa using k0,only⟩ (by omega)
  ·obtain rfl:c=p:=by omega
   refine Cd.exit (Post.then_exit (Post.round_exit (Post.block_exit (Zt (Cd.ret (Post.then_ret ?_))))))
   refine Post.end0 rfl (.inl rfl) ?_
   refine⟨R.take c++x::R.drop c,rfl,?_,?_,by simpa using k0,only⟩
   ·refine List.perm_middle.trans ?_
    rw[List.take_append_drop]
    exact List.Perm.refl _
   ·refine put_sorted leF_tr leF_rf (by rw[List.take_append_drop];exact hR) ?_ ?_
    ·rcases hp1 with h|⟨y,hy,hlt⟩
     ·left;rw[h];rfl
     ·rcases Nat.eq_zero_or_pos c with h0|h0
      ·left;rw[h0];rfl
      ·right
       have:=take_last hy
       rw[show c-1+1=c by omega] at this
       exact⟨_,y,this,ltF_le hlt⟩
    ·rcases hq1 with h|⟨y,hy,hlt⟩
     ·left;rw[h];exact List.drop_of_length_le (Nat.le_refl _)
     ·right;exact⟨y,_,drop_head hy,hlt⟩
set_option maxHeartbeats 2000000 in
theorem symLast_any (g cap a m b n:Nat)(P L R S:List Fl)(pad:List Value)(w:World)(hL0:1<L.length)(hR0:R.length=1)(hN:n=(P++(L++(R++S))).length)(h1:n≤1000000)(ha:a=P.length)(hm:m=a+L.length)(hb:b=m+R.length)(hL:L.Pairwise leF)(k0:Blk w g 81 (fcs (P++(L++(R++S)))++pad).toArray):
  Calls Tryz.prog 158 #[.slice (some ⟨g,0,none⟩) n cap, .int .i64 (a:Int), .int .i64 (m:Int), .int .i64 (b:Int), .func (.func 66) #[] #[]] w fun e w'=>∃M,e= .returned (.tuple #[])∧M.Perm (L++R)∧M.Pairwise leF∧Blk w' g 81 (fcs (P++(M++S))++pad).toArray∧Onl w w' g:=by
 have only:=Onl.refl w g
 simp only[List.length_append] at hN
 obtain⟨x,rfl⟩:∃x,R=[x]:=List.length_eq_one_iff.1 hR0
 simp only[List.length_cons,List.length_nil] at hb hN
 obtain⟨d,hd⟩:∃d,d=P++(L++([x]++S)):=⟨_,rfl⟩
 have hdl:d.length=n:=by rw[hd];simp only[List.length_append,List.length_cons,List.length_nil];omega
 have hxd:d[m]? =some x:=by rw[hd];exact get_in2 (R:=[x]) (c:=0) (by omega) rfl
 have hLd:∀(c:Nat) (y:Fl),L[c]? =some y→d[a+c]? =some y:=fun c y h=>by rw[hd];exact get_in ha h
 rw[←hd] at k0
 refine Zs 220 Tryz.func158 ?_
 refine Cd.seq (Zsr ?_)
 refine Zm ?_
 refine Zm ?_
 refine Zsu ?_
 refine Zqi ?_
 refine Zk6 0 1 2 3 4 28 (Zt ?_)
 refine Cd.condF rfl (decide_eq_false (by omega)) ?_
 refine Cd.skip (Zts (Zsr ?_))
 refine Zm ?_
 refine Zm ?_
 refine Zsu ?_
 refine Zqi ?_
 refine Zk7 0 1 2 3 4 28 80 (Zt ?_)
 refine Cd.condT rfl (decide_eq_true (by omega)) ?_
 refine Zsr ?_
 refine Zm ?_
 refine Za ?_
 refine Zk8 0 1 2 3 4 14 28 80 (Ztq ?_)
 refine Zm ?_
 refine Za ?_
 refine Zk9 0 1 2 3 4 14 15 28 80 (Zts (Cd.block ?_))
 refine Cd.loop (σ:=Nat × Nat) (fun s=>[(0, .slice (some ⟨g,0,none⟩) n cap),(1, .int .i64 (a:Int)),(2, .int .i64 (m:Int)),(3, .int .i64 (b:Int)),(4, .func (.func 66) #[] #[]),(14, .int .i64 ((a+s.1:Nat):Int)),(15, .int .i64 ((a+s.2:Nat):Int))])
  (fun s wr=>s.1≤s.2∧s.2≤L.length∧(s.1=0∨∃y,L[s.1-1]? =some y∧¬ltF x y)∧(s.2=L.length∨∃y,L[s.2]? =some y∧ltF x y)∧Blk wr g 81 (fcs (d)++pad).toArray∧Onl w wr g) (fun s=>s.2-s.1) (0,L.length) ⟨Nat.zero_le _,Nat.le_refl _, .inl rfl, .inl rfl,k0,only⟩ ⟨rfl,rfl,rfl,rfl,rfl,int_at (by simp only;omega),int_at (by simp only;omega),trivial⟩ ?_
 clear k0 only
 rintro⟨p,q⟩ wr ⟨hpq,hq,hp1,hq1,k0,only⟩
 simp only at hpq hq hp1 hq1
 show Cd _ _ _ _ [(0, .slice (some ⟨g,0,none⟩) n cap),(1, .int .i64 (a:Int)),(2, .int .i64 (m:Int)),(3, .int .i64 (b:Int)),(4, .func (.func 66) #[] #[]),(14, .int .i64 ((a+p:Nat):Int)),(15, .int .i64 ((a+q:Nat):Int))] _
 refine Cd.seq (Zsr ?_)
 refine Zm ?_
 refine Zm ?_
 refine Zls ?_
 refine Zk8 0 1 2 3 4 14 15 85 (Zt ?_)
 refine Cd.condD rfl (fun hc=> ?_) (fun hc=> ?_)
 ·obtain⟨hh,hh1,hh2⟩:∃h:Nat,2*h≤p+q∧p+q≤2*h+1:=⟨(p+q)/2,by omega,by omega⟩
  obtain⟨y,hy⟩:∃y,L[hh]? =some y:=⟨_,List.getElem?_eq_getElem (show hh<L.length by omega)⟩
  have hyd:=hLd hh y hy
  refine Cd.skip (Zt (Cd.block (Zsr ?_)))
  refine Zm ?_
  refine Zm ?_
  refine Za_ ?_
  refine Zv (Runs.convU (r:=a+p+(a+q)) rfl rfl Tryz.underlying3 Tryz.underlying143 (by omega)) ?_
  refine Zv ((Runs.shrL rfl rfl rfl (s:=1) rfl (by omega)).cast (v':= .int .u64 ((a+hh:Nat):Int)) (by rw[show(a+p+(a+q))/2^1=a+hh by omega])) ?_
  refine Zv (Runs.convI rfl rfl Tryz.underlying143 Tryz.underlying3 (wrapI (by omega) (by omega))) ?_
  refine Za ?_
  refine Zk9 0 1 2 3 4 14 15 16 85 (Zts ?_)
  by_cases hlt:ltF x y
  ·have hlt':ordB x y<0:=hlt
   refine Zdr 12 ?_
   intro w1 hw1 zw1
   replace k0:=k0.step hw1
   replace only:=only.step hw1
   have zlt:=k0.lt
   refine Zdm ?_
   refine Zdm ?_
   refine Zdm ?_
   refine Zd (fun w hG=>Runs.indexBN rfl rfl rfl Tryz.underlying36 (s:=6) (by kernel_rfl) (j:=m) (by omega) (by omega)) ?_
   refine Zd (fun w hG=>Runs.loadP (off:=6*(m)) (ps:=[.int .i64 x.num, .int .i64 x.level, .string (strOf x.first), .string (strOf x.last), .int .i64 x.count, .int .i64 x.size]) rfl rfl Tryz.underlying81 rfl (k0.step hG) (m:=6) (by kernel_rfl) rfl (fcs_ld hxd)) ?_
   refine Zdm ?_
   refine Zdm ?_
   refine Zd (fun w hG=>Runs.indexBN rfl rfl rfl Tryz.underlying36 (s:=6) (by kernel_rfl) (j:=a+hh) (by omega) (by omega)) ?_
   refine Zd (fun w hG=>Runs.loadP (off:=6*(a+hh)) (ps:=[.int .i64 y.num, .int .i64 y.level, .string (strOf y.first), .string (strOf y.last), .int .i64 y.count, .int .i64 y.size]) rfl rfl Tryz.underlying81 rfl (k0.step hG) (m:=6) (by kernel_rfl) rfl (fcs_ld hyd)) ?_
   refine Dr.callV rfl (fun w=>Enters.value (first:=[]) (cap:=[]) rfl rfl rfl eg_order) rfl (fun w hG=>order_any x y w) ?_
   refine Zd (fun w hG=>(Runs.lss rfl rfl rfl).isT (hlt')) ?_
   refine Zd (fun w hG=>Runs.not rfl rfl) ?_
   refine Dr.nil ?_
   refine FinX.done (F':=[(0,_),(1,_),(2,_),(3,_),(4,_),(14,_),(15,_),(16,_),(85,_),(103,_)]) rfl ⟨rfl,rfl,rfl,rfl,rfl,rfl,rfl,rfl,rfl,rfl,trivial⟩ ?_
   intro w2 hw2 fw2
   replace k0:=k0.step hw2
   replace only:=only.step hw2
   refine Zk10 0 1 2 3 4 14 15 16 85 103 (Zt ?_)
   refine Cd.condF rfl rfl ?_
   refine Zr ?_
   refine Zm ?_
   refine Za ?_
   refine Zk10 0 1 2 3 4 14 15 16 85 103 (Post.block_normal ?_)
   exact Post.round (p,hh) ⟨rfl,rfl,rfl,rfl,rfl,rfl,rfl,trivial⟩ ⟨by simp only;omega,by simp only;omega,hp1, .inr ⟨y,hy,hlt⟩,k0,only⟩ (by simp only;omega)
  ·have hlt':¬ordB x y<0:=hlt
   refine Zdr 12 ?_
   intro w1 hw1 zw1
   replace k0:=k0.step hw1
   replace only:=only.step hw1
   have zlt:=k0.lt
   refine Zdm ?_
   refine Zdm ?_
   refine Zdm ?_
   refine Zd (fun w hG=>Runs.indexBN rfl rfl rfl Tryz.underlying36 (s:=6) (by kernel_rfl) (j:=m) (by omega) (by omega)) ?_
   refine Zd (fun w hG=>Runs.loadP (off:=6*(m)) (ps:=[.int .i64 x.num, .int .i64 x.level, .string (strOf x.first), .string (strOf x.last), .int .i64 x.count, .int .i64 x.size]) rfl rfl Tryz.underlying81 rfl (k0.step hG) (m:=6) (by kernel_rfl) rfl (fcs_ld hxd)) ?_
   refine Zdm ?_
   refine Zdm ?_
   refine Zd (fun w hG=>Runs.indexBN rfl rfl rfl Tryz.underlying36 (s:=6) (by kernel_rfl) (j:=a+hh) (by omega) (by omega)) ?_
   refine Zd (fun w hG=>Runs.loadP (off:=6*(a+hh)) (ps:=[.int .i64 y.num, .int .i64 y.level, .string (strOf y.first), .string (strOf y.last), .int .i64 y.count, .int .i64 y.size]) rfl rfl Tryz.underlying81 rfl (k0.step hG) (m:=6) (by kernel_rfl) rfl (fcs_ld hyd)) ?_
   refine Dr.callV rfl (fun w=>Enters.value (first:=[]) (cap:=[]) rfl rfl rfl eg_order) rfl (fun w hG=>order_any x y w) ?_
   refine Zd (fun w hG=>(Runs.lss rfl rfl rfl).isF (hlt')) ?_
   refine Zd (fun w hG=>Runs.not rfl rfl) ?_
   refine Dr.nil ?_
   refine FinX.done (F':=[(0,_),(1,_),(2,_),(3,_),(4,_),(14,_),(15,_),(16,_),(85,_),(103,_)]) rfl ⟨rfl,rfl,rfl,rfl,rfl,rfl,rfl,rfl,rfl,rfl,trivial⟩ ?_
   intro w2 hw2 fw2
   replace k0:=k0.step hw2
   replace only:=only.step hw2
   refine Zk10 0 1 2 3 4 14 15 16 85 103 (Zt ?_)
   refine Cd.condT rfl rfl ?_
   refine Zr ?_
   refine Zm ?_
   refine Za_ ?_
   refine Za ?_
   refine Zk10 0 1 2 3 4 14 15 16 85 103 (Post.block_normal ?_)
   exact Post.round (hh+1,q) ⟨rfl,rfl,rfl,rfl,rfl,int_at (by simp only;omega),rfl,trivial⟩ ⟨by simp only;omega,hq, .inr ⟨y,by simpa using hy,hlt⟩,hq1,k0,only⟩ (by simp only;omega)
 ·obtain rfl:p=q:=by omega
  refine Cd.exit (Post.then_exit (Post.round_exit (Post.block_exit (Zts (Zsr ?_)))))
  refine Zm ?_
  refine Za ?_
  refine Zk9 0 1 2 3 4 14 15 17 85 (Zt (Cd.block ?_))
  rw[hd] at k0
  refine Cd.loop (σ:=Nat) (fun c=>[(0, .slice (some ⟨g,0,none⟩) n cap),(14, .int .i64 ((a+p:Nat):Int)),(17, .int .i64 ((a+c:Nat):Int))])
   (fun c wr=>p≤c∧c≤L.length∧Blk wr g 81 (fcs (P++(L.take c++x::(L.drop c++S)))++pad).toArray∧Onl w wr g) (fun c=>c) L.length ⟨hq,Nat.le_refl _,by simpa using k0,only⟩ ⟨rfl,rfl,int_at (by omega),trivial⟩ ?_
  clear k0 only
  rintro c wr ⟨hcp,hcL,k0,only⟩
  refine Cd.seq (Zsr ?_)
  refine Zm ?_
  refine Zm ?_
  refine Zgt ?_
  refine Zk4 0 14 17 110 (Zt ?_)
  refine Cd.condD rfl (fun hc=> ?_) (fun hc=> ?_)
  ·obtain⟨c,rfl⟩:∃j,c=j+1:=⟨c-1,by omega⟩
   obtain⟨y,hy⟩:∃y,L[c]? =some y:=⟨_,List.getElem?_eq_getElem (show c<L.length by omega)⟩
   have hdr:=drop_head hy
   have htk:=take_last hy
   have hcl:(L.take c).length=c:=by rw[List.length_take];omega
   have hdl2:(L.drop (c+1)++S).length=L.length-(c+1)+S.length:=by simp
   have k0':Blk wr g 81 (fcs ((P++L.take c)++y::x::(L.drop (c+1)++S))++pad).toArray:=by rw[htk] at k0;simpa using k0
   clear k0
   have k0:=k0'
   clear k0'
   obtain⟨e,he⟩:∃e,e=(P++L.take c)++y::x::(L.drop (c+1)++S):=⟨_,rfl⟩
   have hel:e.length=n:=by rw[he];simp only[List.length_append,List.length_cons,hcl] at hdl2⊢;try omega
   have hey:e[a+c]? =some y:=by rw[he];exact get_mid' (by simp only[List.length_append];omega)
   have hex:e[a+c+1]? =some x:=by rw[he,show(P++L.take c)++y::x::(L.drop (c+1)++S)=((P++L.take c)++[y])++x::(L.drop (c+1)++S) by simp];exact get_mid' (by simp only[List.length_append,List.length_cons,List.length_nil];omega)
   have hsw:(e.set (a+c+1) y).set (a+c) x=(P++L.take c)++x::y::(L.drop (c+1)++S):=by rw[he];exact swap_mid' (by simp only[List.length_append];omega) rfl
   rw[←he] at k0
   refine Cd.skip (Zts (Cd.block ?_))
   refine Cd.draw 14 (by kernel_rfl) [2,3,4] (.inr (fun _ _ d _ _ h=>by cases d<;>exact h)) rfl Grow Grow.refl (fun _ _ _=>Grow.trans) ?_
   intro w1 hw1 zw1
   replace k0:=k0.step hw1
   replace only:=only.step hw1
   have zlt:=k0.lt
   refine Zdm ?_
   refine Zdm ?_
   refine Dr.late rfl rfl (fun w=>Runs.move rfl rfl) Grow.refl rfl ?_
   refine Dr.late rfl rfl (fun w=>Runs.move rfl rfl) Grow.refl rfl ?_
   refine Dr.late rfl rfl (fun w=>Runs.subI rfl rfl rfl (by omega) (by omega)) Grow.refl rfl ?_
   refine Zdm ?_
   refine Zdm ?_
   refine Zd (fun w hG=>Runs.subI rfl rfl rfl (by omega) (by omega)) ?_
   refine Zd (fun w hG=>Runs.indexBN rfl rfl rfl Tryz.underlying36 (s:=6) (by kernel_rfl) (j:=a+c) (by omega) (by omega)) ?_
   refine Zd (fun w hG=>Runs.loadP (off:=6*(a+c)) (ps:=[.int .i64 y.num, .int .i64 y.level, .string (strOf y.first), .string (strOf y.last), .int .i64 y.count, .int .i64 y.size]) rfl rfl Tryz.underlying81 rfl (k0.step hG) (m:=6) (by kernel_rfl) rfl (fcs_ld hey)) ?_
   refine Zdm ?_
   refine Zdm ?_
   refine Zd (fun w hG=>Runs.indexBN rfl rfl rfl Tryz.underlying36 (s:=6) (by kernel_rfl) (j:=a+c+1) (by omega) (by omega)) ?_
   refine Zd (fun w hG=>Runs.loadP (off:=6*(a+c+1)) (ps:=[.int .i64 x.num, .int .i64 x.level, .string (strOf x.first), .string (strOf x.last), .int .i64 x.count, .int .i64 x.size]) rfl rfl Tryz.underlying81 rfl (k0.step hG) (m:=6) (by kernel_rfl) rfl (fcs_ld hex)) ?_
   refine Dr.nil ?_
   refine FinX.done (F':=[(0,_),(14,_),(17,_),(110,_),(113,_),(114,_),(115,_),(117,_),(122,_),(126,_)]) rfl ⟨rfl,rfl,rfl,rfl,rfl,rfl,rfl,rfl,rfl,rfl,trivial⟩ ?_
   intro w2 hw2 fw2
   replace k0:=k0.step hw2
   replace only:=only.step hw2
   refine Zv (Runs.indexBN rfl rfl rfl Tryz.underlying36 (s:=6) (by kernel_rfl) (j:=a+c+1) (by omega) (by omega)) ?_
   refine Seq.storeR (f:=y) rfl rfl rfl (by kernel_rfl) k0 (by(try simp only[List.length_set]);omega) only rfl rfl ?_
   intro wz kz oz
   clear k0 only
   have k0:=kz
   have only:=oz
   clear kz oz
   refine Zv (Runs.indexBN rfl rfl rfl Tryz.underlying36 (s:=6) (by kernel_rfl) (j:=a+c) (by omega) (by omega)) ?_
   refine Seq.storeR (f:=x) rfl rfl rfl (by kernel_rfl) k0 (by(try simp only[List.length_set]);omega) only rfl rfl ?_
   intro wz kz oz
   clear k0 only
   have k0:=kz
   have only:=oz
   clear kz oz
   rw[hsw] at k0
   refine Zk4 0 14 17 110 (Post.block_normal (Ztr ?_))
   refine Zm ?_
   refine Zsu ?_
   refine Za ?_
   refine Zk4 0 14 17 110 ?_
   exact Post.round c ⟨rfl,rfl,int_at (by omega),trivial⟩ ⟨by omega,by omega,by rw[hdr];simpa using k0,only⟩ (by omega)
  ·obtain rfl:c=p:=by omega
   refine Cd.exit (Post.then_exit (Post.round_exit (Post.block_exit (Zt (Cd.ret (Post.then_ret ?_))))))
   refine Post.end0 rfl (.inl rfl) ?_
   refine⟨L.take c++x::L.drop c,rfl,?_,?_,by simpa using k0,only⟩
   ·refine List.perm_middle.trans ?_
    rw[List.take_append_drop]
    exact(List.perm_append_singleton x L).symm
   ·refine put_sorted leF_tr leF_rf (by rw[List.take_append_drop];exact hL) ?_ ?_
    ·rcases hp1 with h|⟨y,hy,hlt⟩
     ·left;rw[h];rfl
     ·rcases Nat.eq_zero_or_pos c with h0|h0
      ·left;rw[h0];rfl
      ·right
       have:=take_last hy
       rw[show c-1+1=c by omega] at this
       exact⟨_,y,this,hlt⟩
    ·rcases hq1 with h|⟨y,hy,hlt⟩
     ·left;rw[h];exact List.drop_of_length_le (Nat.le_refl _)
     ·right;exact⟨y,_,drop_head hy,ltF_le hlt⟩
end Go.Proofs.YtdpipgidpkmolaaGreatDoor
namespace Go.Proofs.YtdpipgidpkmolaaGreatDoor
open Go.RowKit
theorem last_at {P A Q:List Fl}{i:Nat}{x:Fl}(h:(P++(A++Q))[i]? =some x)(hi:i+1=P.length+A.length)(hA:0<A.length):∃A',A=A'++[x]:=by
 rcases nil_or_last A with rfl|⟨A',z,rfl⟩
 ·cases hA
 ·refine⟨A',?_⟩
  have hz:(A'++[z])[A'.length]? =some z:=get_mid A' z []
  have:=get_in (P:=P) (Q:=Q) rfl hz
  rw[show P.length+A'.length=i by simp only[List.length_append,List.length_cons,List.length_nil] at hi;omega,h] at this
  injection this with this
  rw[this]
theorem head_at {P A Q:List Fl}{i:Nat}{x:Fl}(h:(P++(A++Q))[i]? =some x)(hi:i=P.length)(hA:0<A.length):∃A',A=x::A':=by
 cases A with
 |nil=>cases hA
 |cons z r=>
  have hz:(z::r)[0]? =some z:=rfl
  have:=get_in (P:=P) (Q:=Q) rfl hz
  rw[show P.length+0=i by omega,h] at this
  injection this with this
  exact⟨r,by rw[this]⟩
set_option maxHeartbeats 4000000 in
theorem symM_any (N:Nat):∀(g cap a m b n:Nat) (P L R S:List Fl) (pad:List Value) (w:World),L.length+R.length≤N→0<L.length→0<R.length→n=(P++(L++(R++S))).length→n≤1000000→a=P.length→m=a+L.length→b=m+R.length→L.Pairwise leF→R.Pairwise leF→Blk w g 81 (fcs (P++(L++(R++S)))++pad).toArray→
  Calls Tryz.prog 158 #[.slice (some ⟨g,0,none⟩) n cap, .int .i64 (a:Int), .int .i64 (m:Int), .int .i64 (b:Int), .func (.func 66) #[] #[]] w fun e w'=>∃M,e= .returned (.tuple #[])∧M.Perm (L++R)∧M.Pairwise leF∧Blk w' g 81 (fcs (P++(M++S))++pad).toArray∧Onl w w' g:=by
 induction N with
 |zero=>intros;omega
 |succ N ih=>
 intro g cap a m b n P L R S pad w hsz hL0 hR0 hN h1 ha hm hb hL hR k0
 by_cases hL1:L.length=1
 ·exact symOne_any g cap a m b n P L R S pad w hL1 hR0 hN h1 ha hm hb hR k0
 by_cases hR1:R.length=1
 ·exact symLast_any g cap a m b n P L R S pad w (by omega) hR1 hN h1 ha hm hb hL k0
 have only:=Onl.refl w g
 have hN0:=hN
 simp only[List.length_append] at hN
 obtain⟨d,hd⟩:∃d,d=P++(L++(R++S)):=⟨_,rfl⟩
 have hdl:d.length=n:=by rw[hd];exact hN0.symm
 rw[←hd] at k0
 obtain⟨mid,hmid1,hmid2⟩:∃h:Nat,2*h≤a+b∧a+b≤2*h+1:=⟨(a+b)/2,by omega,by omega⟩
 obtain⟨nn,hnn⟩:∃nn,nn=mid+m:=⟨_,rfl⟩
 obtain⟨s0,r0,hsr1,hsr2⟩:∃s0 r0:Nat,(mid<m→s0+b=nn∧r0=mid)∧(m≤mid→s0=a∧r0=m):=by
  by_cases h:mid<m
  ·exact⟨nn-b,mid,fun _=>⟨by omega,rfl⟩,fun h2=>by omega⟩
  ·exact⟨a,m,fun h2=>by omega,fun _=>⟨rfl,rfl⟩⟩
 have hs0:a≤s0∧s0≤r0∧r0≤m∧r0≤mid∧nn≤s0+b∧m+r0≤nn:=by omega
 refine Zs 220 Tryz.func158 ?_
 refine Cd.seq (Zsr ?_)
 refine Zm ?_
 refine Zm ?_
 refine Zsu ?_
 refine Zqi ?_
 refine Zk6 0 1 2 3 4 28 (Zt ?_)
 refine Cd.condF rfl (decide_eq_false (by omega)) ?_
 refine Cd.skip (Zts (Zsr ?_))
 refine Zm ?_
 refine Zm ?_
 refine Zsu ?_
 refine Zqi ?_
 refine Zk7 0 1 2 3 4 28 80 (Zt ?_)
 refine Cd.condF rfl (decide_eq_false (by omega)) ?_
 refine Cd.skip (Ztq ?_)
 refine Zm ?_
 refine Zm ?_
 refine Za_ ?_
 refine Zv (Runs.convU (r:=a+b) rfl rfl Tryz.underlying3 Tryz.underlying143 (by omega)) ?_
 refine Zv ((Runs.shrL rfl rfl rfl (s:=1) rfl (by omega)).cast (v':= .int .u64 ((mid:Nat):Int)) (by rw[show(a+b)/2^1=mid by omega])) ?_
 refine Zv (Runs.convI rfl rfl Tryz.underlying143 Tryz.underlying3 (wrapI (by omega) (by omega))) ?_
 refine Za ?_
 refine Zk8 0 1 2 3 4 18 28 80 (Ztq ?_)
 refine Zm ?_
 refine Zm ?_
 refine Za_ ?_
 refine Za ?_
 refine Zk9 0 1 2 3 4 18 19 28 80 (Ztq ?_)
 refine Za ?_
 refine Za ?_
 refine Zk11 0 1 2 3 4 18 19 20 21 28 80 (Zt ?_)
 refine Cd.seqJ (σ:=Unit) (fun _=>[(0, .slice (some ⟨g,0,none⟩) n cap),(1, .int .i64 (a:Int)),(2, .int .i64 (m:Int)),(3, .int .i64 (b:Int)),(4, .func (.func 66) #[] #[]),(18, .int .i64 (mid:Int)),(19, .int .i64 (nn:Int)),(20, .int .i64 (s0:Int)),(21, .int .i64 (r0:Int))]) (fun _ wr=>Blk wr g 81 (fcs (d)++pad).toArray∧Onl w wr g) ?_ ?_
 ·skip
  refine Zsr ?_
  refine Zm ?_
  refine Zm ?_
  refine Zgt ?_
  refine Zk12 0 1 2 3 4 18 19 20 21 28 80 140 (Zt ?_)
  refine Cd.condD rfl (fun hc=> ?_) (fun hc=> ?_)
  ·skip
   refine Zsr ?_
   refine Zm ?_
   refine Zm ?_
   refine Zsu ?_
   refine Za ?_
   refine Zk12 0 1 2 3 4 18 19 20 21 28 80 140 (Ztr ?_)
   refine Zm ?_
   refine Za ?_
   refine Zk12 0 1 2 3 4 18 19 20 21 28 80 140 ?_
   exact Post.join () ⟨rfl,rfl,rfl,rfl,rfl,rfl,int_at (by omega),int_at (by omega),int_at (by omega),trivial⟩ ⟨k0,only⟩
  ·skip
   refine Zsr ?_
   refine Zm ?_
   refine Za ?_
   refine Zk12 0 1 2 3 4 18 19 20 21 28 80 140 (Ztr ?_)
   refine Zm ?_
   refine Za ?_
   refine Zk12 0 1 2 3 4 18 19 20 21 28 80 140 ?_
   exact Post.join () ⟨rfl,rfl,rfl,rfl,rfl,rfl,int_at (by omega),int_at (by omega),int_at (by omega),trivial⟩ ⟨k0,only⟩
 clear k0 only
 rintro⟨⟩ wr ⟨k0,only⟩
 refine Zsr ?_
 refine Zm ?_
 refine Zsu ?_
 refine Za ?_
 refine Zk10 0 1 2 3 4 18 19 20 21 22 (Zts (Cd.block ?_))
 obtain⟨pp,hpp⟩:∃pp,pp+1=nn:=⟨nn-1,by omega⟩
 refine Cd.loop (σ:=Nat × Nat) (fun s=>[(0, .slice (some ⟨g,0,none⟩) n cap),(1, .int .i64 (a:Int)),(2, .int .i64 (m:Int)),(3, .int .i64 (b:Int)),(4, .func (.func 66) #[] #[]),(18, .int .i64 (mid:Int)),(19, .int .i64 (nn:Int)),(20, .int .i64 (s.1:Int)),(21, .int .i64 (s.2:Int)),(22, .int .i64 (pp:Int))])
  (fun s wr=>s0≤s.1∧s.1≤s.2∧s.2≤r0∧(s.1=s0∨∃x y,d[s.1-1]? =some x∧d[pp-(s.1-1)]? =some y∧¬ltF y x)∧(s.2=r0∨∃x y,d[s.2]? =some x∧d[pp-s.2]? =some y∧ltF y x)∧Blk wr g 81 (fcs (d)++pad).toArray∧Onl w wr g) (fun s=>s.2-s.1) (s0,r0) ⟨Nat.le_refl _,hs0.2.1,Nat.le_refl _, .inl rfl, .inl rfl,k0,only⟩ ⟨rfl,rfl,rfl,rfl,rfl,rfl,rfl,rfl,rfl,int_at (by omega),trivial⟩ ?_
 clear k0 only
 rintro⟨s,r⟩ wr ⟨hs1,hsr,hr1,hsx,hrx,k0,only⟩
 simp only at hs1 hsr hr1 hsx hrx
 show Cd _ _ _ _ [(0, .slice (some ⟨g,0,none⟩) n cap),(1, .int .i64 (a:Int)),(2, .int .i64 (m:Int)),(3, .int .i64 (b:Int)),(4, .func (.func 66) #[] #[]),(18, .int .i64 (mid:Int)),(19, .int .i64 (nn:Int)),(20, .int .i64 (s:Int)),(21, .int .i64 (r:Int)),(22, .int .i64 (pp:Int))] _
 refine Cd.seq (Zsr ?_)
 refine Zm ?_
 refine Zm ?_
 refine Zls ?_
 refine Zk11 0 1 2 3 4 18 19 20 21 22 151 (Zt ?_)
 refine Cd.condD rfl (fun hc=> ?_) (fun hc=> ?_)
 ·obtain⟨c,hc1,hc2⟩:∃h:Nat,2*h≤s+r∧s+r≤2*h+1:=⟨(s+r)/2,by omega,by omega⟩
  obtain⟨x,hx⟩:∃y,d[c]? =some y:=⟨_,List.getElem?_eq_getElem (show c<d.length by omega)⟩
  obtain⟨y,hy⟩:∃y,d[pp-c]? =some y:=⟨_,List.getElem?_eq_getElem (show pp-c<d.length by omega)⟩
  refine Cd.skip (Zt (Cd.block (Zsr ?_)))
  refine Zm ?_
  refine Zm ?_
  refine Za_ ?_
  refine Zv (Runs.convU (r:=s+r) rfl rfl Tryz.underlying3 Tryz.underlying143 (by omega)) ?_
  refine Zv ((Runs.shrL rfl rfl rfl (s:=1) rfl (by omega)).cast (v':= .int .u64 ((c:Nat):Int)) (by rw[show(s+r)/2^1=c by omega])) ?_
  refine Zv (Runs.convI rfl rfl Tryz.underlying143 Tryz.underlying3 (wrapI (by omega) (by omega))) ?_
  refine Za ?_
  refine Zk12 0 1 2 3 4 18 19 20 21 22 23 151 (Zts ?_)
  by_cases hlt:ltF y x
  ·have hlt':ordB y x<0:=hlt
   refine Zdr 14 ?_
   intro w1 hw1 zw1
   replace k0:=k0.step hw1
   replace only:=only.step hw1
   have zlt:=k0.lt
   refine Zdm ?_
   refine Zdm ?_
   refine Zdm ?_
   refine Zdm ?_
   refine Zd (fun w hG=>Runs.subI rfl rfl rfl (by omega) (by omega)) ?_
   refine Zd (fun w hG=>Runs.indexBN rfl rfl rfl Tryz.underlying36 (s:=6) (by kernel_rfl) (j:=pp-c) (by omega) (by omega)) ?_
   refine Zd (fun w hG=>Runs.loadP (off:=6*(pp-c)) (ps:=[.int .i64 y.num, .int .i64 y.level, .string (strOf y.first), .string (strOf y.last), .int .i64 y.count, .int .i64 y.size]) rfl rfl Tryz.underlying81 rfl (k0.step hG) (m:=6) (by kernel_rfl) rfl (fcs_ld hy)) ?_
   refine Zdm ?_
   refine Zdm ?_
   refine Zd (fun w hG=>Runs.indexBN rfl rfl rfl Tryz.underlying36 (s:=6) (by kernel_rfl) (j:=c) (by omega) (by omega)) ?_
   refine Zd (fun w hG=>Runs.loadP (off:=6*(c)) (ps:=[.int .i64 x.num, .int .i64 x.level, .string (strOf x.first), .string (strOf x.last), .int .i64 x.count, .int .i64 x.size]) rfl rfl Tryz.underlying81 rfl (k0.step hG) (m:=6) (by kernel_rfl) rfl (fcs_ld hx)) ?_
   refine Dr.callV rfl (fun w=>Enters.value (first:=[]) (cap:=[]) rfl rfl rfl eg_order) rfl (fun w hG=>order_any y x w) ?_
   refine Zd (fun w hG=>(Runs.lss rfl rfl rfl).isT (hlt')) ?_
   refine Zd (fun w hG=>Runs.not rfl rfl) ?_
   refine Dr.nil ?_
   refine FinX.done (F':=[(0,_),(1,_),(2,_),(3,_),(4,_),(18,_),(19,_),(20,_),(21,_),(22,_),(23,_),(151,_),(171,_)]) rfl ⟨rfl,rfl,rfl,rfl,rfl,rfl,rfl,rfl,rfl,rfl,rfl,rfl,rfl,trivial⟩ ?_
   intro w2 hw2 fw2
   replace k0:=k0.step hw2
   replace only:=only.step hw2
   refine Zk13 0 1 2 3 4 18 19 20 21 22 23 151 171 (Zt ?_)
   refine Cd.condF rfl rfl ?_
   refine Zr ?_
   refine Zm ?_
   refine Za ?_
   refine Zk13 0 1 2 3 4 18 19 20 21 22 23 151 171 (Post.block_normal ?_)
   exact Post.round (s,c) ⟨rfl,rfl,rfl,rfl,rfl,rfl,rfl,rfl,rfl,rfl,trivial⟩ ⟨hs1,by simp only;omega,by simp only;omega,hsx, .inr ⟨x,y,hx,hy,hlt⟩,k0,only⟩ (by simp only;omega)
  ·have hlt':¬ordB y x<0:=hlt
   refine Zdr 14 ?_
   intro w1 hw1 zw1
   replace k0:=k0.step hw1
   replace only:=only.step hw1
   have zlt:=k0.lt
   refine Zdm ?_
   refine Zdm ?_
   refine Zdm ?_
   refine Zdm ?_
   refine Zd (fun w hG=>Runs.subI rfl rfl rfl (by omega) (by omega)) ?_
   refine Zd (fun w hG=>Runs.indexBN rfl rfl rfl Tryz.underlying36 (s:=6) (by kernel_rfl) (j:=pp-c) (by omega) (by omega)) ?_
   refine Zd (fun w hG=>Runs.loadP (off:=6*(pp-c)) (ps:=[.int .i64 y.num, .int .i64 y.level, .string (strOf y.first), .string (strOf y.last), .int .i64 y.count, .int .i64 y.size]) rfl rfl Tryz.underlying81 rfl (k0.step hG) (m:=6) (by kernel_rfl) rfl (fcs_ld hy)) ?_
   refine Zdm ?_
   refine Zdm ?_
   refine Zd (fun w hG=>Runs.indexBN rfl rfl rfl Tryz.underlying36 (s:=6) (by kernel_rfl) (j:=c) (by omega) (by omega)) ?_
   refine Zd (fun w hG=>Runs.loadP (off:=6*(c)) (ps:=[.int .i64 x.num, .int .i64 x.level, .string (strOf x.first), .string (strOf x.last), .int .i64 x.count, .int .i64 x.size]) rfl rfl Tryz.underlying81 rfl (k0.step hG) (m:=6) (by kernel_rfl) rfl (fcs_ld hx)) ?_
   refine Dr.callV rfl (fun w=>Enters.value (first:=[]) (cap:=[]) rfl rfl rfl eg_order) rfl (fun w hG=>order_any y x w) ?_
   refine Zd (fun w hG=>(Runs.lss rfl rfl rfl).isF (hlt')) ?_
   refine Zd (fun w hG=>Runs.not rfl rfl) ?_
   refine Dr.nil ?_
   refine FinX.done (F':=[(0,_),(1,_),(2,_),(3,_),(4,_),(18,_),(19,_),(20,_),(21,_),(22,_),(23,_),(151,_),(171,_)]) rfl ⟨rfl,rfl,rfl,rfl,rfl,rfl,rfl,rfl,rfl,rfl,rfl,rfl,rfl,trivial⟩ ?_
   intro w2 hw2 fw2
   replace k0:=k0.step hw2
   replace only:=only.step hw2
   refine Zk13 0 1 2 3 4 18 19 20 21 22 23 151 171 (Zt ?_)
   refine Cd.condT rfl rfl ?_
   refine Zr ?_
   refine Zm ?_
   refine Za_ ?_
   refine Za ?_
   refine Zk13 0 1 2 3 4 18 19 20 21 22 23 151 171 (Post.block_normal ?_)
   exact Post.round (c+1,r) ⟨rfl,rfl,rfl,rfl,rfl,rfl,rfl,int_at (by simp only;omega),rfl,rfl,trivial⟩ ⟨by simp only;omega,by simp only;omega,hr1, .inr ⟨x,y,by simpa using hx,by simpa using hy,hlt⟩,hrx,k0,only⟩ (by simp only;omega)
 ·obtain rfl:s=r:=by omega
  obtain⟨en,hen⟩:∃en,en+s=nn:=⟨nn-s,by omega⟩
  obtain⟨A1,A2,hLA,hA1⟩:∃A1 A2,L=A1++A2∧A1.length=s-a:=⟨L.take (s-a),L.drop (s-a),(List.take_append_drop _ _).symm,by rw[List.length_take];omega⟩
  obtain⟨B1,B2,hRB,hB1⟩:∃B1 B2,R=B1++B2∧B1.length=en-m:=⟨R.take (en-m),R.drop (en-m),(List.take_append_drop _ _).symm,by rw[List.length_take];omega⟩
  have hA2:A2.length=m-s:=by have:=congrArg List.length hLA;rw[List.length_append] at this;omega
  have hB2:B2.length=b-en:=by have:=congrArg List.length hRB;rw[List.length_append] at this;omega
  have hdA:d=(P++A1)++(A2++(B1++(B2++S))):=by rw[hd,hLA,hRB];simp
  have hx1:A1=[]∨B2=[]∨∃A' x y B',A1=A'++[x]∧B2=y::B'∧leF x y:=by
   by_cases e1:A1.length=0
   ·exact .inl (List.length_eq_zero_iff.1 e1)
   by_cases e2:B2.length=0
   ·exact .inr (.inl (List.length_eq_zero_iff.1 e2))
   rcases hsx with h|⟨x,y,hx,hy,hlt⟩
   ·exfalso;omega
   ·obtain⟨A',hA'⟩:=last_at (P:=P) (A:=A1) (Q:=A2++(B1++(B2++S))) (i:=s-1) (x:=x) (by rw[←hx,hdA];simp) (by omega) (by omega)
    obtain⟨B',hB'⟩:=head_at (P:=(P++L)++B1) (A:=B2) (Q:=S) (i:=pp-(s-1)) (x:=y) (by rw[←hy,hd,hRB];simp) (by simp only[List.length_append];omega) (by omega)
    exact .inr (.inr ⟨A',x,y,B',hA',hB',hlt⟩)
  have hx2:B1=[]∨A2=[]∨∃A' x y B',B1=A'++[x]∧A2=y::B'∧leF x y:=by
   by_cases e1:B1.length=0
   ·exact .inl (List.length_eq_zero_iff.1 e1)
   by_cases e2:A2.length=0
   ·exact .inr (.inl (List.length_eq_zero_iff.1 e2))
   rcases hrx with h|⟨x,y,hx,hy,hlt⟩
   ·exfalso;omega
   ·obtain⟨A',hA'⟩:=last_at (P:=P++L) (A:=B1) (Q:=B2++S) (i:=pp-s) (x:=y) (by rw[←hy,hd,hRB];simp) (by simp only[List.length_append];omega) (by omega)
    obtain⟨B',hB'⟩:=head_at (P:=P++A1) (A:=A2) (Q:=B1++(B2++S)) (i:=s) (x:=x) (by rw[←hx,hdA]) (by simp only[List.length_append];omega) (by omega)
    exact .inr (.inr ⟨A',y,x,B',hA',hB',ltF_le hlt⟩)
  rw[hdA] at k0
  refine Cd.exit (Post.then_exit (Post.round_exit (Post.block_exit (Ztq ?_))))
  refine Zm ?_
  refine Zm ?_
  refine Zsu ?_
  refine Za ?_
  refine Zk12 0 1 2 3 4 18 19 20 21 22 24 151 (Zt ?_)
  refine Cd.seqJ (σ:=Unit) (fun _=>[(0, .slice (some ⟨g,0,none⟩) n cap),(1, .int .i64 (a:Int)),(3, .int .i64 (b:Int)),(4, .func (.func 66) #[] #[]),(18, .int .i64 (mid:Int)),(20, .int .i64 (s:Int)),(24, .int .i64 (en:Int))]) (fun _ wr=>Blk wr g 81 (fcs (P++(A1++(B1++(A2++(B2++S)))))++pad).toArray∧Onl w wr g) ?_ ?_
  ·skip
   refine Zsr ?_
   refine Zm ?_
   refine Zm ?_
   refine Zls ?_
   refine Zm ?_
   refine SeqC.start ?_
   refine Zco (fun hcx=>Runs.move rfl rfl) ?_
   refine Znm ?_
   refine Zn (fun hcx=>Runs.lss rfl rfl rfl) ?_
   refine Zan ?_
   refine Zk13 0 1 2 3 4 18 19 20 21 22 24 151 185 (Zt ?_)
   refine Cd.cond rfl (fun h=> ?_) (fun h=> ?_)
   ·simp only[Bool.and_eq_true,decide_eq_true_eq] at h
    refine Zr ?_
    refine Zm ?_
    refine Zm ?_
    refine Zm ?_
    refine Zm ?_
    refine Zm ?_
    rw[show(nn:Int)-(s:Int)=(en:Int) by omega]
    refine Zc (Ze Tryz.func201) (rotateS_any g cap s m en n (P++A1) A2 B1 (B2++S) pad _ _ (by omega) (by omega) (by simp only[List.length_append];omega) h1 (by simp only[List.length_append];omega) (by omega) (by omega) k0) ?_
    rintro en w5 ⟨rfl,kz,oz⟩
    refine⟨_,rfl,?_⟩
    have only2:=only.trans oz
    clear k0 only
    have only:=only2
    clear only2 oz
    have k0:=kz
    rw[List.append_assoc] at k0
    clear kz
    refine Zk13 0 1 2 3 4 18 19 20 21 22 24 151 185 ?_
    exact Post.join () ⟨rfl,rfl,rfl,rfl,rfl,rfl,rfl,trivial⟩ ⟨k0,only⟩
   ·skip
    refine Cd.skip ?_
    have hk:(P++A1)++(A2++(B1++(B2++S)))=P++(A1++(B1++(A2++(B2++S)))):=by
     by_cases e:A2.length=0
     ·rw[List.length_eq_zero_iff.1 e];simp
     ·have:B1.length=0:=by
       simp only[Bool.and_eq_false_iff,decide_eq_false_iff_not] at h
       omega
      rw[List.length_eq_zero_iff.1 this];simp
    rw[hk] at k0
    exact Post.join () ⟨rfl,rfl,rfl,rfl,rfl,rfl,int_at (by omega),trivial⟩ ⟨k0,only⟩
  clear k0 only
  rintro⟨⟩ wr ⟨k0,only⟩
  refine Cd.seqJ (σ:=List Fl) (fun _=>[(0, .slice (some ⟨g,0,none⟩) n cap),(3, .int .i64 (b:Int)),(4, .func (.func 66) #[] #[]),(18, .int .i64 (mid:Int)),(24, .int .i64 (en:Int))]) (fun M1 wr=>M1.Perm (A1++B1)∧M1.Pairwise leF∧Blk wr g 81 (fcs (P++(M1++(A2++(B2++S))))++pad).toArray∧Onl w wr g) ?_ ?_
  ·skip
   refine Zsr ?_
   refine Zm ?_
   refine Zm ?_
   refine Zls ?_
   refine Zm ?_
   refine SeqC.start ?_
   refine Zco (fun hcx=>Runs.move rfl rfl) ?_
   refine Znm ?_
   refine Zn (fun hcx=>Runs.lss rfl rfl rfl) ?_
   refine Zan ?_
   refine Zk8 0 1 3 4 18 20 24 199 (Zt ?_)
   refine Cd.cond rfl (fun h=> ?_) (fun h=> ?_)
   ·simp only[Bool.and_eq_true,decide_eq_true_eq] at h
    refine Zr ?_
    refine Zm ?_
    refine Zm ?_
    refine Zm ?_
    refine Zm ?_
    refine Zm ?_
    refine Zc (Ze Tryz.func158) (ih g cap a s mid n P A1 B1 (A2++(B2++S)) pad _ (by omega) (by omega) (by omega) (by simp only[List.length_append];omega) h1 ha (by omega) (by omega) (by rw[hLA] at hL;exact pw_left hL) (by rw[hRB] at hR;exact pw_left hR) k0) ?_
    rintro en_ w5 ⟨M1,rfl,hp1,hw1,kz,oz⟩
    refine⟨_,rfl,?_⟩
    have only2:=only.trans oz
    clear k0 only
    have only:=only2
    have k0:=kz
    clear only2 oz kz
    refine Zk8 0 1 3 4 18 20 24 199 ?_
    exact Post.join M1 ⟨rfl,rfl,rfl,rfl,rfl,trivial⟩ ⟨hp1,hw1,k0,only⟩
   ·skip
    refine Cd.skip ?_
    refine Post.join (A1++B1) ⟨rfl,rfl,rfl,rfl,rfl,trivial⟩ ⟨List.Perm.refl _,?_,by simpa using k0,only⟩
    by_cases e:A1.length=0
    ·rw[List.length_eq_zero_iff.1 e]
     rw[hRB] at hR
     exact pw_left hR
    ·have:B1.length=0:=by
      simp only[Bool.and_eq_false_iff,decide_eq_false_iff_not] at h
      omega
     rw[List.length_eq_zero_iff.1 this,List.append_nil]
     rw[hLA] at hL
     exact pw_left hL
  clear k0 only
  rintro M1 wr ⟨hp1,hw1,k0,only⟩
  have hM1:M1.length=mid-a:=by rw[hp1.length_eq,List.length_append];omega
  have hfin:∀M2:List Fl,M2.Perm (A2++B2)→M2.Pairwise leF→(M1++M2).Perm (L++R)∧(M1++M2).Pairwise leF:=fun M2 p2 s2=>by
   rw[hLA,hRB]
   exact two_halves leF_tr leF_rf (by rw[←hLA];exact hL) (by rw[←hRB];exact hR) hx1 hx2 hp1 hw1 p2 s2
  refine Zsr ?_
  refine Zm ?_
  refine Zm ?_
  refine Zls ?_
  refine Zm ?_
  refine SeqC.start ?_
  refine Zco (fun hcx=>Runs.move rfl rfl) ?_
  refine Znm ?_
  refine Zn (fun hcx=>Runs.lss rfl rfl rfl) ?_
  refine Zan ?_
  refine Zk6 0 3 4 18 24 213 (Zt ?_)
  refine Cd.cond rfl (fun h=> ?_) (fun h=> ?_)
  ·simp only[Bool.and_eq_true,decide_eq_true_eq] at h
   have k0':Blk wr g 81 (fcs ((P++M1)++(A2++(B2++S)))++pad).toArray:=by simpa using k0
   clear k0
   have k0:=k0'
   clear k0'
   refine Zr ?_
   refine Zm ?_
   refine Zm ?_
   refine Zm ?_
   refine Zm ?_
   refine Zm ?_
   refine Zc (Ze Tryz.func158) (ih g cap mid en b n (P++M1) A2 B2 S pad _ (by omega) (by omega) (by omega) (by simp only[List.length_append];omega) h1 (by simp only[List.length_append];omega) (by omega) (by omega) (by rw[hLA] at hL;exact pw_right hL) (by rw[hRB] at hR;exact pw_right hR) k0) ?_
   rintro en_ w5 ⟨M2,rfl,hp2,hw2,kz,oz⟩
   refine⟨_,rfl,?_⟩
   have only2:=only.trans oz
   clear k0 only
   have only:=only2
   have k0:=kz
   clear only2 oz kz
   refine Zk6 0 3 4 18 24 213 ?_
   refine Post.end0 rfl (.inr rfl) ?_
   obtain⟨f1,f2⟩:=hfin M2 hp2 hw2
   exact⟨M1++M2,rfl,f1,f2,by simpa using k0,only⟩
  ·skip
   refine Cd.skip ?_
   refine Post.end0 rfl (.inr rfl) ?_
   obtain⟨f1,f2⟩:=hfin (A2++B2) (List.Perm.refl _) (by
    by_cases e:A2.length=0
    ·rw[List.length_eq_zero_iff.1 e]
     rw[hRB] at hR
     exact pw_right hR
    ·have:B2.length=0:=by
      simp only[Bool.and_eq_false_iff,decide_eq_false_iff_not] at h
      omega
     rw[List.length_eq_zero_iff.1 this,List.append_nil]
     rw[hLA] at hL
     exact pw_right hL)
   exact⟨M1++(A2++B2),rfl,f1,f2,by simpa using k0,only⟩
end Go.Proofs.YtdpipgidpkmolaaGreatDoor
namespace Go.Proofs.YtdpipgidpkmolaaGreatDoor
open Go.RowKit
theorem int_eqS {k:IntKind}{p q:Int}(h:p=q):some (Value.int k p)=some (.int k q):=by rw[h]
def RunsF (s:Nat)(l:List Fl):Prop:=∀i,((l.drop (i*s)).take s).Pairwise leF
theorem RunsF.nil (s:Nat):RunsF s []:=fun i=>by simp
theorem RunsF.snoc {s t:Nat}{X M:List Fl}(h:RunsF s X)(hX:X.length=t*s)(hM:M.length≤s)(hw:M.Pairwise leF):RunsF s (X++M):=fun i=>by
 rcases Nat.lt_trichotomy i t with hi|hi|hi
 ·have h1:(i+1)*s≤t*s:=Nat.mul_le_mul_right _ hi
  rw[Nat.add_mul,Nat.one_mul] at h1
  rw[List.drop_append_of_le_length (by omega),List.take_append_of_le_length (by rw[List.length_drop];omega)]
  exact h i
 ·subst hi
  rw[←hX,List.drop_left' rfl,List.take_of_length_le hM]
  exact hw
 ·have h1:(t+1)*s≤i*s:=Nat.mul_le_mul_right _ hi
  rw[Nat.add_mul,Nat.one_mul] at h1
  rw[List.drop_eq_nil_of_le (by rw[List.length_append];omega)]
  simp
theorem RunsF.one {s:Nat}{l:List Fl}(h:RunsF s l)(hl:l.length≤s):l.Pairwise leF:=by
 have:=h 0
 rwa [Nat.zero_mul,List.drop_zero,List.take_of_length_le hl] at this
theorem RunsF.head {s:Nat}{l:List Fl}(h:RunsF s l):(l.take s).Pairwise leF:=by
 have:=h 0
 rwa [Nat.zero_mul,List.drop_zero] at this
theorem RunsF.next {s:Nat}{l:List Fl}(h:RunsF s l):RunsF s (l.drop s):=fun i=>by
 rw[List.drop_drop,show s+i*s=(i+1)*s by rw[Nat.add_mul];omega]
 exact h (i+1)
theorem split3 (Y:List Fl)(s:Nat):Y=Y.take s++((Y.drop s).take s++(Y.drop s).drop s):=by rw[List.take_append_drop,List.take_append_drop]
set_option maxHeartbeats 4000000 in
theorem stableG_any (g cap n:Nat)(d:List Fl)(pad:List Value)(w:World)(hN:n=d.length)(h1:n≤100000)(k0:Blk w g 81 (fcs (d)++pad).toArray):
  Calls Tryz.prog 124 #[.slice (some ⟨g,0,none⟩) n cap, .int .i64 (n:Int), .func (.func 66) #[] #[]] w fun e w'=>∃M,e= .returned (.tuple #[])∧M.Perm d∧M.Pairwise leF∧Blk w' g 81 (fcs (M)++pad).toArray∧Onl w w' g:=by
 have only:=Onl.refl w g
 refine Zs 63 Tryz.func124 ?_
 refine Zsr ?_
 refine Za ?_
 refine Zk4 0 1 2 6 (Ztq ?_)
 refine Zm ?_
 refine Za ?_
 refine Za ?_
 refine Zk6 0 1 2 6 7 8 (Zts (Cd.block ?_))
 refine Cd.loop (σ:=Nat × List Fl) (fun s=>[(0, .slice (some ⟨g,0,none⟩) n cap),(1, .int .i64 (n:Int)),(2, .func (.func 66) #[] #[]),(6, .int .i64 20),(7, .int .i64 (s.1:Int)),(8, .int .i64 ((s.1:Int)+20))])
  (fun s wr=>s.1≤n∧s.2.length=s.1∧(∃t,s.1=t*20)∧RunsF 20 s.2∧s.2.Perm (d.take s.1)∧Blk wr g 81 (fcs (s.2++d.drop s.1)++pad).toArray∧Onl w wr g) (fun s=>n-s.1) (0,[]) ⟨Nat.zero_le _,rfl,⟨0,rfl⟩,RunsF.nil _,by simp,by simpa using k0,only⟩ ⟨rfl,rfl,rfl,rfl,rfl,rfl,trivial⟩ ?_
 clear k0 only
 rintro⟨a,M0⟩ wr ⟨ha,hM0,⟨t,hat⟩,hR,hp0,k0,only⟩
 simp only at ha hM0 hat hR hp0 k0
 show Cd _ _ _ _ [(0, .slice (some ⟨g,0,none⟩) n cap),(1, .int .i64 (n:Int)),(2, .func (.func 66) #[] #[]),(6, .int .i64 20),(7, .int .i64 (a:Int)),(8, .int .i64 ((a:Int)+20))] _
 have hdl:(d.drop a).length=n-a:=by rw[List.length_drop];omega
 refine Cd.seq (Zsr ?_)
 refine Zm ?_
 refine Zm ?_
 refine Zle ?_
 refine Zk7 0 1 2 6 7 8 13 (Zt ?_)
 refine Cd.condD rfl (fun hc=> ?_) (fun hc=> ?_)
 ·have hl20:((d.drop a).take 20).length=20:=by rw[List.length_take];omega
  have k0':Blk wr g 81 (fcs (M0++((d.drop a).take 20++(d.drop a).drop 20))++pad).toArray:=by rw[List.take_append_drop];exact k0
  clear k0
  have k0:=k0'
  clear k0'
  refine Cd.skip (Zt (Cd.block (Zsr ?_)))
  refine Zm ?_
  refine Zm ?_
  refine Zm ?_
  refine Zm ?_
  refine Zc (Ze Tryz.func157) (insert_any g cap a (a+20) n M0 ((d.drop a).take 20) ((d.drop a).drop 20) pad _ (by rw[List.take_append_drop,List.length_append];omega) (by omega) hM0.symm (by omega) k0) ?_
  rintro en w5 ⟨M,rfl,hp,hw,kz,oz⟩
  refine⟨_,rfl,?_⟩
  have only2:=only.trans oz
  clear k0 only
  have only:=only2
  have k0:=kz
  clear only2 oz kz
  have hMl:M.length=20:=by rw[hp.length_eq];exact hl20
  have hpp:(M0++M).Perm (d.take (a+20)):=by
   rw[List.take_add]
   exact hp0.append hp
  refine Zk7 0 1 2 6 7 8 13 (Ztq ?_)
  refine Zm ?_
  refine Za ?_
  refine Zk7 0 1 2 6 7 8 13 (Ztr ?_)
  refine Zm ?_
  refine Zm ?_
  refine Za_ ?_
  refine Za ?_
  refine Zk7 0 1 2 6 7 8 13 (Post.block_normal ?_)
  exact Post.round (a+20,M0++M) ⟨rfl,rfl,rfl,rfl,int_eqS (by omega),int_eqS (by simp only;omega),trivial⟩ ⟨by simp only;omega,by simp only[List.length_append];omega,⟨t+1,by simp only;omega⟩,hR.snoc (t:=t) (by omega) (by omega) hw,hpp,by rw[List.append_assoc,List.drop_drop] at *;exact k0,only⟩ (by simp only;omega)
 ·have k0':Blk wr g 81 (fcs (M0++(d.drop a++[]))++pad).toArray:=by rw[List.append_nil];exact k0
  clear k0
  have k0:=k0'
  clear k0'
  refine Cd.exit (Post.then_exit (Post.round_exit (Post.block_exit (Ztq ?_))))
  refine Zm ?_
  refine Zm ?_
  refine Zm ?_
  refine Zm ?_
  refine Zc (Ze Tryz.func157) (insert_any g cap a n n M0 (d.drop a) [] pad _ (by simp only[List.length_append,List.length_nil];omega) (by omega) hM0.symm (by omega) k0) ?_
  rintro en w5 ⟨M1,rfl,hp1,hw1,kz,oz⟩
  refine⟨_,rfl,?_⟩
  have only2:=only.trans oz
  clear k0 only
  have only:=only2
  have k0:Blk w5 g 81 (fcs (M0++M1)++pad).toArray:=by simpa using kz
  clear only2 oz kz
  have hM1:M1.length=n-a:=by rw[hp1.length_eq];exact hdl
  have hRR:RunsF 20 (M0++M1):=hR.snoc (t:=t) (by omega) (by omega) hw1
  have hpd:(M0++M1).Perm d:=by
   have:=hp0.append hp1
   rwa [List.take_append_drop] at this
  refine Zk7 0 1 2 6 7 8 13 (Zt (Cd.block ?_))
  refine Cd.loop (σ:=Nat × List Fl) (fun s=>[(0, .slice (some ⟨g,0,none⟩) n cap),(1, .int .i64 (n:Int)),(2, .func (.func 66) #[] #[]),(6, .int .i64 (s.1:Int))])
   (fun s wr=>0<s.1∧s.1≤1000000∧s.2.Perm d∧RunsF s.1 s.2∧Blk wr g 81 (fcs (s.2)++pad).toArray∧Onl w wr g) (fun s=>n-s.1) (20,M0++M1) ⟨by simp,by simp,hpd,hRR,k0,only⟩ ⟨rfl,rfl,rfl,rfl,trivial⟩ ?_
  clear k0 only
  rintro⟨bs,M⟩ wr ⟨hbs,hbs2,hpM,hRM,k0,only⟩
  simp only at hbs hbs2 hpM hRM k0
  show Cd _ _ _ _ [(0, .slice (some ⟨g,0,none⟩) n cap),(1, .int .i64 (n:Int)),(2, .func (.func 66) #[] #[]),(6, .int .i64 (bs:Int))] _
  refine Cd.seq (Zsr ?_)
  refine Zm ?_
  refine Zm ?_
  refine Zls ?_
  refine Zk5 0 1 2 6 30 (Zt ?_)
  refine Cd.condD rfl (fun hc=> ?_) (fun hc=> ?_)
  ·skip
   refine Cd.skip (Zt (Cd.block (Zsr ?_)))
   refine Zm ?_
   refine Zv (Runs.mulI rfl rfl rfl (by omega) (by omega)) ?_
   refine Za ?_
   refine Za ?_
   refine Zk7 0 1 2 6 7 8 30 (Zts (Cd.block ?_))
   refine Cd.loop (σ:=Nat × List Fl × List Fl) (fun s=>[(0, .slice (some ⟨g,0,none⟩) n cap),(1, .int .i64 (n:Int)),(2, .func (.func 66) #[] #[]),(6, .int .i64 (bs:Int)),(7, .int .i64 (s.1:Int)),(8, .int .i64 ((s.1:Int)+2*(bs:Int)))])
    (fun s wr=>s.1≤n∧s.2.1.length=s.1∧(∃t,s.1=t*(2*bs))∧RunsF (2*bs) s.2.1∧RunsF bs s.2.2∧(s.2.1++s.2.2).Perm d∧Blk wr g 81 (fcs (s.2.1++s.2.2)++pad).toArray∧Onl w wr g) (fun s=>n-s.1) (0,[],M) ⟨Nat.zero_le _,rfl,⟨0,by simp⟩,RunsF.nil _,hRM,hpM,k0,only⟩ ⟨rfl,rfl,rfl,rfl,rfl,int_eqS (by simp),trivial⟩ ?_
   clear k0 only
   rintro⟨a,X,Y⟩ wr ⟨ha,hX,⟨t,hat⟩,hRX,hRY,hpd,k0,only⟩
   simp only at ha hX hat hRX hRY hpd k0
   have hYl:Y.length=n-a:=by
    have:=hpd.length_eq
    rw[List.length_append] at this
    omega
   show Cd _ _ _ _ [(0, .slice (some ⟨g,0,none⟩) n cap),(1, .int .i64 (n:Int)),(2, .func (.func 66) #[] #[]),(6, .int .i64 (bs:Int)),(7, .int .i64 (a:Int)),(8, .int .i64 ((a:Int)+2*(bs:Int)))] _
   refine Cd.seq (Zsr ?_)
   refine Zm ?_
   refine Zm ?_
   refine Zle ?_
   refine Zk7 0 1 2 6 7 8 35 (Zt ?_)
   refine Cd.condD rfl (fun hc=> ?_) (fun hc=> ?_)
   ·have e3:=split3 Y bs
    have hl1:(Y.take bs).length=bs:=by rw[List.length_take];omega
    have hl2:((Y.drop bs).take bs).length=bs:=by rw[List.length_take,List.length_drop];omega
    have k0':Blk wr g 81 (fcs (X++(Y.take bs++((Y.drop bs).take bs++(Y.drop bs).drop bs)))++pad).toArray:=by rw[←e3];exact k0
    clear k0
    have k0:=k0'
    clear k0'
    refine Cd.skip (Zt (Cd.block (Zsr ?_)))
    refine Zm ?_
    refine Zm ?_
    refine Zm ?_
    refine Zm ?_
    refine Za_ ?_
    refine Zm ?_
    refine Zm ?_
    refine Zc (Ze Tryz.func158) (symM_any (2*bs) g cap a (a+bs) (a+2*bs) n X (Y.take bs) ((Y.drop bs).take bs) ((Y.drop bs).drop bs) pad _ (by omega) (by omega) (by omega) (by rw[←e3,List.length_append];omega) (by omega) hX.symm (by omega) (by omega) hRY.head hRY.next.head k0) ?_
    rintro en w6 ⟨M2,rfl,hp2,hw2,kz,oz⟩
    refine⟨_,rfl,?_⟩
    have only2:=only.trans oz
    clear k0 only
    have only:=only2
    have k0:=kz
    clear only2 oz kz
    have hM2:M2.length=2*bs:=by rw[hp2.length_eq,List.length_append];omega
    have hpd2:(X++M2++(Y.drop bs).drop bs).Perm d:=by
     rw[e3,←List.append_assoc,←List.append_assoc] at hpd
     refine List.Perm.trans ?_ hpd
     refine List.Perm.append_right _ ?_
     rw[List.append_assoc]
     exact List.Perm.append_left _ hp2
    refine Zk7 0 1 2 6 7 8 35 (Ztq ?_)
    refine Zm ?_
    refine Za ?_
    refine Zk7 0 1 2 6 7 8 35 (Ztr ?_)
    refine Zm ?_
    refine Zm ?_
    refine Zv (Runs.mulI rfl rfl rfl (by omega) (by omega)) ?_
    refine Za_ ?_
    refine Za ?_
    refine Zk7 0 1 2 6 7 8 35 (Post.block_normal ?_)
    exact Post.round (a+2*bs,X++M2,(Y.drop bs).drop bs) ⟨rfl,rfl,rfl,rfl,int_eqS (by omega),int_eqS (by simp only;omega),trivial⟩ ⟨by simp only;omega,by simp only[List.length_append];omega,⟨t+1,by simp only;rw[Nat.add_mul,Nat.one_mul];omega⟩,hRX.snoc (t:=t) (by omega) (by omega) hw2,hRY.next.next,hpd2,by rw[List.append_assoc];exact k0,only⟩ (by simp only;omega)
   ·skip
    refine Cd.exit (Post.then_exit (Post.round_exit (Post.block_exit (Zts (Zsr ?_)))))
    refine Zm ?_
    refine Zm ?_
    refine Za_ ?_
    refine Za ?_
    refine Zk8 0 1 2 6 7 8 9 35 (Ztq ?_)
    refine Zm ?_
    refine Zm ?_
    refine Zls ?_
    refine Zk9 0 1 2 6 7 8 9 35 54 (Zt ?_)
    refine Cd.condD rfl (fun hc=> ?_) (fun hc=> ?_)
    ·have hl1:(Y.take bs).length=bs:=by rw[List.length_take];omega
     have hl2:(Y.drop bs).length=n-a-bs:=by rw[List.length_drop];omega
     have k0':Blk wr g 81 (fcs (X++(Y.take bs++(Y.drop bs++[])))++pad).toArray:=by rw[List.append_nil,List.take_append_drop];exact k0
     clear k0
     have k0:=k0'
     clear k0'
     have hwn:=hRY.next.one (show(Y.drop bs).length≤bs by omega)
     refine Zr ?_
     refine Zm ?_
     refine Zm ?_
     refine Zm ?_
     refine Zm ?_
     refine Zm ?_
     refine Zc (Ze Tryz.func158) (symM_any (2*bs) g cap a (a+bs) n n X (Y.take bs) (Y.drop bs) [] pad _ (by omega) (by omega) (by omega) (by rw[List.append_nil,List.take_append_drop,List.length_append];omega) (by omega) hX.symm (by omega) (by omega) hRY.head hwn k0) ?_
     rintro en w6 ⟨M2,rfl,hp2,hw2,kz,oz⟩
     refine⟨_,rfl,?_⟩
     have only2:=only.trans oz
     clear k0 only
     have only:=only2
     have k0:Blk w6 g 81 (fcs (X++M2)++pad).toArray:=by simpa using kz
     clear only2 oz kz
     have hM2:M2.length=n-a:=by rw[hp2.length_eq,List.length_append];omega
     have hpd2:(X++M2).Perm d:=by
      refine List.Perm.trans ?_ hpd
      rw[List.take_append_drop] at hp2
      exact List.Perm.append_left _ hp2
     refine Zk9 0 1 2 6 7 8 9 35 54 (Ztr ?_)
     refine Zm ?_
     refine Zv (Runs.mulI rfl rfl rfl (by omega) (by omega)) ?_
     refine Za ?_
     refine Zk9 0 1 2 6 7 8 9 35 54 (Post.block_normal ?_)
     exact Post.round (2*bs,X++M2) ⟨rfl,rfl,rfl,int_eqS (by simp only;omega),trivial⟩ ⟨by simp only;omega,by simp only;omega,hpd2,hRX.snoc (t:=t) (by omega) (by omega) hw2,k0,only⟩ (by simp only;omega)
    ·skip
     refine Cd.skip (Ztr ?_)
     refine Zm ?_
     refine Zv (Runs.mulI rfl rfl rfl (by omega) (by omega)) ?_
     refine Za ?_
     refine Zk9 0 1 2 6 7 8 9 35 54 (Post.block_normal ?_)
     exact Post.round (2*bs,X++Y) ⟨rfl,rfl,rfl,int_eqS (by simp only;omega),trivial⟩ ⟨by simp only;omega,by simp only;omega,hpd,hRX.snoc (t:=t) (by omega) (by omega) (hRY.one (by omega)),k0,only⟩ (by simp only;omega)
  ·skip
   refine Cd.exit (Post.then_exit (Post.round_exit (Post.block_exit ?_)))
   refine Post.end0 rfl (.inr rfl) ?_
   exact⟨M,rfl,hpM,hRM.one (by rw[hpM.length_eq];omega),k0,only⟩
end Go.Proofs.YtdpipgidpkmolaaGreatDoor
namespace Go.Proofs.YtdpipgidpkmolaaGreatDoor
open Go.RowKit
end Go.Proofs.YtdpipgidpkmolaaGreatDoor
