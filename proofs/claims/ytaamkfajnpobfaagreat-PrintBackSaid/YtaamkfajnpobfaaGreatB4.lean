/-
  Texts that were joined: PanC, PanD, KS, PanE, PanF, PanG, PanH, PanI, PanJ. Conditions: what each theorem names.
-/
import Derived.Test.YtaamkfajnpobfaaGreatB3
set_option linter.unusedSectionVars false
namespace Go.Proofs.YtaamkfajnpobfaaGreat
open Go.RowKit
def idxZ (L:List (List Nat))(s:List Nat):Int:=if s∈L then(L.idxOf s:Int) else -1
theorem indexS_any (L:List (List Nat))(s:List Nat)(A:Option Addr)(c B:Nat)(w:World)(hr:Reads w B 1 A L.length (strV L))(hB:B≤w.heap.size)(hl:L.length≤1000)(hL:∀t∈L,∀x∈t,x<256)(hs:∀x∈s,x<256):
  Calls Tryz.prog 72 #[.slice A L.length c, .string (strOf s)] w fun e w'=>e= .returned (.int .i64 (idxZ L s))∧Grow w w':=by
 have bel:=Below.refl w.heap.size w
 refine Zs 19 Tryz.func72 ?_
 refine Zsr ?_
 refine Za ?_
 refine Zk3 0 1 4 (Zts (Zsr ?_))
 refine Zm ?_
 refine Zv (Runs.len rfl rfl Tryz.underlying114) ?_
 refine Zm ?_
 refine Zk5 0 1 4 7 8 (Zt (Cd.block ?_))
 refine Cd.loop (σ:=Nat) (fun k=>[(0, .slice A L.length c),(1, .string (strOf s)),(7, .int .i64 (L.length:Int)),(8, .int .i64 (k:Int))]) (fun k wr=>k≤L.length∧Below w.heap.size w wr∧∀t∈L.take k,t≠s) (fun k=>L.length-k) 0 ⟨Nat.zero_le _,bel,by simp⟩ ⟨rfl,rfl,rfl,rfl,trivial⟩ ?_
 clear bel
 rintro k wr ⟨hk,bel,hno⟩
 refine Zsr ?_
 refine Zv (Runs.lss rfl rfl rfl) ?_
 refine Zk5 0 1 7 8 9 (Zts ?_)
 refine Cd.condD rfl (fun hc=> ?_) (fun hc=> ?_)
 ·obtain⟨t,ht⟩:∃t,L[k]? =some t:=⟨_,List.getElem?_eq_getElem (by omega)⟩
  have hr:=hr.below (bel.mono hB)
  obtain⟨ad,rfl,-,hc⟩:=hr.2 (by omega)
  have hc:=hc k (.string (strOf t)) (by simp[strV,ht])
  have htk:L.take (k+1)=L.take k++[t]:=by rw[List.take_add_one,ht];rfl
  refine Cd.skip (Zts (Cd.block (Zsr ?_)))
  refine Zm ?_
  refine Za ?_
  refine Zk6 0 1 5 7 8 9 (Ztq ?_)
  refine Zm ?_
  refine Zm ?_
  refine Zm ?_
  refine Zv (Runs.index1 rfl rfl rfl Tryz.underlying114 (by kernel_rfl) (j:=k) rfl (by omega)) ?_
  refine Zv (Runs.load1 rfl rfl Tryz.underlying9 rfl hc) ?_
  refine Zv (Runs.eqlL rfl rfl rfl hs (hL t (List.mem_of_getElem? ht))) ?_
  refine Zk7 0 1 5 7 8 9 16 (Zt ?_)
  refine Cd.condD rfl (fun hc=> ?_) (fun hc=> ?_)
  ·skip
   refine Zsr ?_
   refine Zm ?_
   refine Za ?_
   refine Zk8 0 1 4 5 7 8 9 16 (Zt (Cd.ret (Post.block_ret (Post.then_ret (Post.round_ret (Post.block_ret (Post.then_ret ?_)))))))
   refine Post.end1 rfl rfl (.inl rfl) ?_
   have hi:L.idxOf s=k:=by
    have hlt:=(List.getElem?_eq_some_iff.1 ht).1
    have h1:L=L.take k++t::L.drop (k+1):=by
     rw[List.getElem?_eq_getElem hlt] at ht
     injection ht with ht
     rw[←ht,List.getElem_cons_drop,List.take_append_drop]
    rw[h1,List.idxOf_append,if_neg (fun hm=>hno s hm rfl),hc,List.idxOf_cons_self,List.length_take]
    omega
   unfold idxZ
   rw[if_pos (by rw[hc];exact List.mem_of_getElem? ht),hi]
   exact⟨rfl,bel⟩
  ·skip
   refine Cd.skip (Post.block_normal (Ztr ?_))
   refine Za_ ?_
   refine Zm ?_
   refine Zk7 0 1 5 7 8 9 16 ?_
   refine Post.round (k+1) ⟨rfl,rfl,rfl,rfl,trivial⟩ ⟨by omega,bel,fun u hu=> ?_⟩ (by omega)
   rw[htk] at hu
   rcases List.mem_append.1 hu with hu|hu
   ·exact hno u hu
   ·obtain rfl:=List.mem_singleton.1 hu
    exact fun e=>hc e.symm
 ·obtain rfl:k=L.length:=by omega
  rw[List.take_of_length_le (Nat.le_refl _)] at hno
  refine Cd.exit (Post.then_exit (Post.round_exit (Post.block_exit (Ztq ?_))))
  refine Za ?_
  refine Zk6 0 1 4 7 8 9 (Zt (Cd.ret ?_))
  refine Post.end1 rfl rfl (.inl rfl) ?_
  unfold idxZ
  rw[if_neg fun hm=>hno s hm rfl]
  exact⟨rfl,bel⟩
structure LvB (w:World)(g lvl ga gb c d:Nat)(cs:Array Value):Prop where
 lev:Blk w g 121 cs
 s0:cs[lvl*3]? =some (.slice (some ⟨ga,0,none⟩) (signsAt lvl).length c)
 s1:cs[lvl*3+1]? =some (.slice (some ⟨gb,0,none⟩) (opsAt lvl).length d)
 s2:cs[lvl*3+2]? =some (.bool (decide (lvl=2)))
 sg:Blk w ga 9 (strV (signsAt lvl)).toArray
 op:Blk w gb 3 (DI (opsAt lvl)).toArray
theorem zero_parse_level:zeroIs Tryz.prog 121=some (some (.agg #[.slice none 0 0, .slice none 0 0, .bool false])):=by kernel_rfl
theorem run_build_level (a b:Addr)(n c m d:Nat)(x:Bool)(w:World):(Instr.build 121 #[(0, .slice (some a) n c),(1, .slice (some b) m d),(2, .bool x)]).run Tryz.prog w= .ok (.agg #[.slice (some a) n c, .slice (some b) m d, .bool x]) w:=by
 have hu:=Tryz.underlying121
 go_simp
theorem levels_any (w:World):Calls Tryz.prog 70 #[] w fun e w'=>∃g,e= .returned (.slice (some ⟨g,0,none⟩) 5 5)∧Grow w w'∧∀lvl,lvl<5→∃ga gb c d cs,LvB w' g lvl ga gb c d cs:=by
 have bel:=Below.refl w.heap.size w
 refine Zs 17 Tryz.func70 ?_
 refine Zsr ?_
 refine Za ?_
 refine Zk1 0 (Ztq ?_)
 refine Seq.slice (vs:=[_]) (s:=1) rfl rfl rfl Tryz.underlying114 (by kernel_rfl) (zero_string) (by omega) (by omega) ⟨rfl,trivial⟩ rfl rfl rfl ?_
 intro g1 w1 n1
 have e1:=Nat.le_trans bel.size n1.ge
 replace bel:=bel.step n1.below
 have k1:=n1.blk
 refine Seq.slice (vs:=[_]) (s:=1) rfl rfl rfl Tryz.underlying43 (by kernel_rfl) (zero_int) (by omega) (by omega) ⟨rfl,trivial⟩ rfl rfl rfl ?_
 intro g2 w2 n2
 have e2:=Nat.le_trans bel.size n2.ge
 have l2:=Nat.lt_of_lt_of_le k1.lt n2.ge
 replace bel:=bel.step n2.below
 replace k1:=k1.step n2.below
 have k2:=n2.blk
 refine Zv (Runs.build rfl rfl (run_build_level _ _ _ _ _ _ _ _)) ?_
 refine Seq.slice (vs:=[_]) (s:=1) rfl rfl rfl Tryz.underlying114 (by kernel_rfl) (zero_string) (by omega) (by omega) ⟨rfl,trivial⟩ rfl rfl rfl ?_
 intro g4 w3 n4
 have e4:=Nat.le_trans bel.size n4.ge
 have l4:=Nat.lt_of_lt_of_le k2.lt n4.ge
 replace bel:=bel.step n4.below
 replace k1:=k1.step n4.below
 replace k2:=k2.step n4.below
 have k4:=n4.blk
 refine Seq.slice (vs:=[_]) (s:=1) rfl rfl rfl Tryz.underlying43 (by kernel_rfl) (zero_int) (by omega) (by omega) ⟨rfl,trivial⟩ rfl rfl rfl ?_
 intro g5 w4 n5
 have e5:=Nat.le_trans bel.size n5.ge
 have l5:=Nat.lt_of_lt_of_le k4.lt n5.ge
 replace bel:=bel.step n5.below
 replace k1:=k1.step n5.below
 replace k2:=k2.step n5.below
 replace k4:=k4.step n5.below
 have k5:=n5.blk
 refine Zv (Runs.build rfl rfl (run_build_level _ _ _ _ _ _ _ _)) ?_
 refine Seq.slice (vs:=[_,_,_,_,_,_]) (s:=1) rfl rfl rfl Tryz.underlying114 (by kernel_rfl) (zero_string) (by omega) (by omega) ⟨rfl,rfl,rfl,rfl,rfl,rfl,trivial⟩ rfl rfl rfl ?_
 intro g7 w5 n7
 have e7:=Nat.le_trans bel.size n7.ge
 have l7:=Nat.lt_of_lt_of_le k5.lt n7.ge
 replace bel:=bel.step n7.below
 replace k1:=k1.step n7.below
 replace k2:=k2.step n7.below
 replace k4:=k4.step n7.below
 replace k5:=k5.step n7.below
 have k7:=n7.blk
 refine Seq.slice (vs:=[_,_,_,_,_,_]) (s:=1) rfl rfl rfl Tryz.underlying43 (by kernel_rfl) (zero_int) (by omega) (by omega) ⟨rfl,rfl,rfl,rfl,rfl,rfl,trivial⟩ rfl rfl rfl ?_
 intro g8 w6 n8
 have e8:=Nat.le_trans bel.size n8.ge
 have l8:=Nat.lt_of_lt_of_le k7.lt n8.ge
 replace bel:=bel.step n8.below
 replace k1:=k1.step n8.below
 replace k2:=k2.step n8.below
 replace k4:=k4.step n8.below
 replace k5:=k5.step n8.below
 replace k7:=k7.step n8.below
 have k8:=n8.blk
 refine Zv (Runs.build rfl rfl (run_build_level _ _ _ _ _ _ _ _)) ?_
 refine Seq.slice (vs:=[_,_]) (s:=1) rfl rfl rfl Tryz.underlying114 (by kernel_rfl) (zero_string) (by omega) (by omega) ⟨rfl,rfl,trivial⟩ rfl rfl rfl ?_
 intro g10 w7 n10
 have e10:=Nat.le_trans bel.size n10.ge
 have l10:=Nat.lt_of_lt_of_le k8.lt n10.ge
 replace bel:=bel.step n10.below
 replace k1:=k1.step n10.below
 replace k2:=k2.step n10.below
 replace k4:=k4.step n10.below
 replace k5:=k5.step n10.below
 replace k7:=k7.step n10.below
 replace k8:=k8.step n10.below
 have k10:=n10.blk
 refine Seq.slice (vs:=[_,_]) (s:=1) rfl rfl rfl Tryz.underlying43 (by kernel_rfl) (zero_int) (by omega) (by omega) ⟨rfl,rfl,trivial⟩ rfl rfl rfl ?_
 intro g11 w8 n11
 have e11:=Nat.le_trans bel.size n11.ge
 have l11:=Nat.lt_of_lt_of_le k10.lt n11.ge
 replace bel:=bel.step n11.below
 replace k1:=k1.step n11.below
 replace k2:=k2.step n11.below
 replace k4:=k4.step n11.below
 replace k5:=k5.step n11.below
 replace k7:=k7.step n11.below
 replace k8:=k8.step n11.below
 replace k10:=k10.step n11.below
 have k11:=n11.blk
 refine Zv (Runs.build rfl rfl (run_build_level _ _ _ _ _ _ _ _)) ?_
 refine Seq.slice (vs:=[_,_]) (s:=1) rfl rfl rfl Tryz.underlying114 (by kernel_rfl) (zero_string) (by omega) (by omega) ⟨rfl,rfl,trivial⟩ rfl rfl rfl ?_
 intro g13 w9 n13
 have e13:=Nat.le_trans bel.size n13.ge
 have l13:=Nat.lt_of_lt_of_le k11.lt n13.ge
 replace bel:=bel.step n13.below
 replace k1:=k1.step n13.below
 replace k2:=k2.step n13.below
 replace k4:=k4.step n13.below
 replace k5:=k5.step n13.below
 replace k7:=k7.step n13.below
 replace k8:=k8.step n13.below
 replace k10:=k10.step n13.below
 replace k11:=k11.step n13.below
 have k13:=n13.blk
 refine Seq.slice (vs:=[_,_]) (s:=1) rfl rfl rfl Tryz.underlying43 (by kernel_rfl) (zero_int) (by omega) (by omega) ⟨rfl,rfl,trivial⟩ rfl rfl rfl ?_
 intro g14 w10 n14
 have e14:=Nat.le_trans bel.size n14.ge
 have l14:=Nat.lt_of_lt_of_le k13.lt n14.ge
 replace bel:=bel.step n14.below
 replace k1:=k1.step n14.below
 replace k2:=k2.step n14.below
 replace k4:=k4.step n14.below
 replace k5:=k5.step n14.below
 replace k7:=k7.step n14.below
 replace k8:=k8.step n14.below
 replace k10:=k10.step n14.below
 replace k11:=k11.step n14.below
 replace k13:=k13.step n14.below
 have k14:=n14.blk
 refine Zv (Runs.build rfl rfl (run_build_level _ _ _ _ _ _ _ _)) ?_
 refine Seq.slice (vs:=[_,_,_,_,_]) (s:=3) rfl rfl rfl Tryz.underlying116 (by kernel_rfl) (zero_parse_level) (by omega) (by omega) ⟨rfl,rfl,rfl,rfl,rfl,trivial⟩ rfl rfl rfl ?_
 intro g16 w11 n16
 have e16:=Nat.le_trans bel.size n16.ge
 have l16:=Nat.lt_of_lt_of_le k14.lt n16.ge
 replace bel:=bel.step n16.below
 replace k1:=k1.step n16.below
 replace k2:=k2.step n16.below
 replace k4:=k4.step n16.below
 replace k5:=k5.step n16.below
 replace k7:=k7.step n16.below
 replace k8:=k8.step n16.below
 replace k10:=k10.step n16.below
 replace k11:=k11.step n16.below
 replace k13:=k13.step n16.below
 replace k14:=k14.step n16.below
 have k16:=n16.blk
 refine Za ?_
 refine Zk1 0 (Zt (Cd.ret ?_))
 refine Post.end1 rfl rfl (.inl rfl) ?_
 refine⟨_,rfl,bel,fun lvl hlvl=> ?_⟩
 match lvl,hlvl with
 |0,_=>exact⟨_,_,_,_,_,k16,rfl,rfl,rfl,k1,k2⟩
 |1,_=>exact⟨_,_,_,_,_,k16,rfl,rfl,rfl,k4,k5⟩
 |2,_=>exact⟨_,_,_,_,_,k16,rfl,rfl,rfl,k7,k8⟩
 |3,_=>exact⟨_,_,_,_,_,k16,rfl,rfl,rfl,k10,k11⟩
 |4,_=>exact⟨_,_,_,_,_,k16,rfl,rfl,rfl,k13,k14⟩
theorem terms_any (t:List Nat)(w:World)(ht:∀x∈t,x<256):Calls Tryz.prog 54 #[.string (strOf t)] w fun e w'=>e= .returned (.tuple #[.int .i64 (termsW t).1, .int .i64 ((termsW t).2.1:Int), .int .i64 ((termsW t).2.2:Int)])∧Grow w w':=by
 have bel:=Below.refl w.heap.size w
 unfold termsW
 refine Zs 20 Tryz.func54 ?_
 refine Zsr ?_
 refine Za ?_
 refine Za ?_
 refine Za ?_
 refine Zk4 0 2 3 4 (Zts (Zsr ?_))
 refine Zm ?_
 refine Zk5 0 2 3 4 5 (Zt (Cd.block (Zsr ?_)))
 refine Zv (Runs.eqlL (b:=[103,105,118,101]) rfl rfl rfl ht (by decide)) ?_
 refine Za ?_
 refine Zk6 0 2 3 4 5 6 (Zt ?_)
 refine Cd.condD rfl (fun hc=> ?_) (fun h0=> ?_)
 ·rw[if_pos hc]
  refine Zsr ?_
  refine Za ?_
  refine Za ?_
  refine Za ?_
  refine Zk6 0 2 3 4 5 6 (Zt (Cd.ret (Post.block_ret (Post.then_ret ?_))))
  refine Post.end3 rfl rfl rfl rfl (.inl rfl) ?_
  exact⟨rfl,bel⟩
 refine Zsr ?_
 refine Zv (Runs.eqlL (b:=[97,110,100]) rfl rfl rfl ht (by decide)) ?_
 refine Za ?_
 refine Zk7 0 2 3 4 5 6 8 (Zt ?_)
 refine Cd.condD rfl (fun hc=> ?_) (fun h1=> ?_)
 ·rw[if_neg h0,if_pos hc]
  refine Zsr ?_
  refine Za ?_
  refine Za ?_
  refine Za ?_
  refine Zk7 0 2 3 4 5 6 8 (Zt (Cd.ret (Post.block_ret (Post.then_ret ?_))))
  refine Post.end3 rfl rfl rfl rfl (.inl rfl) ?_
  exact⟨rfl,bel⟩
 refine Zsr ?_
 refine Zv (Runs.eqlL (b:=[111,114]) rfl rfl rfl ht (by decide)) ?_
 refine Za ?_
 refine Zk8 0 2 3 4 5 6 8 10 (Zt ?_)
 refine Cd.condD rfl (fun hc=> ?_) (fun h2=> ?_)
 ·rw[if_neg h0,if_neg h1,if_pos hc]
  refine Zsr ?_
  refine Za ?_
  refine Za ?_
  refine Za ?_
  refine Zk8 0 2 3 4 5 6 8 10 (Zt (Cd.ret (Post.block_ret (Post.then_ret ?_))))
  refine Post.end3 rfl rfl rfl rfl (.inl rfl) ?_
  exact⟨rfl,bel⟩
 refine Zsr ?_
 refine Zv (Runs.eqlL (b:=[115,99,97,108,101]) rfl rfl rfl ht (by decide)) ?_
 refine Za ?_
 refine Zk9 0 2 3 4 5 6 8 10 12 (Zt ?_)
 refine Cd.condD rfl (fun hc=> ?_) (fun h3=> ?_)
 ·rw[if_neg h0,if_neg h1,if_neg h2,if_pos hc]
  refine Zsr ?_
  refine Za ?_
  refine Za ?_
  refine Za ?_
  refine Zk9 0 2 3 4 5 6 8 10 12 (Zt (Cd.ret (Post.block_ret (Post.then_ret ?_))))
  refine Post.end3 rfl rfl rfl rfl (.inl rfl) ?_
  exact⟨rfl,bel⟩
 refine Zsr ?_
 refine Zv (Runs.eqlL (b:=[119,104,101,110]) rfl rfl rfl ht (by decide)) ?_
 refine Za ?_
 refine Zk10 0 2 3 4 5 6 8 10 12 14 (Zt ?_)
 refine Cd.condD rfl (fun hc=> ?_) (fun h4=> ?_)
 ·rw[if_neg h0,if_neg h1,if_neg h2,if_neg h3,if_pos hc]
  refine Zsr ?_
  refine Za ?_
  refine Za ?_
  refine Za ?_
  refine Zk10 0 2 3 4 5 6 8 10 12 14 (Zt (Cd.ret (Post.block_ret (Post.then_ret ?_))))
  refine Post.end3 rfl rfl rfl rfl (.inl rfl) ?_
  exact⟨rfl,bel⟩
 refine Zsr ?_
 refine Zv (Runs.eqlL (b:=[117,110,116,105,108]) rfl rfl rfl ht (by decide)) ?_
 refine Za ?_
 refine Zk11 0 2 3 4 5 6 8 10 12 14 16 (Zt ?_)
 refine Cd.condD rfl (fun hc=> ?_) (fun h5=> ?_)
 ·rw[if_neg h0,if_neg h1,if_neg h2,if_neg h3,if_neg h4,if_pos hc]
  refine Zsr ?_
  refine Za ?_
  refine Za ?_
  refine Za ?_
  refine Zk11 0 2 3 4 5 6 8 10 12 14 16 (Zt (Cd.ret (Post.block_ret (Post.then_ret ?_))))
  refine Post.end3 rfl rfl rfl rfl (.inl rfl) ?_
  exact⟨rfl,bel⟩
 refine Zsr ?_
 refine Zv (Runs.eqlL (b:=[97,110,121,116,105,109,101]) rfl rfl rfl ht (by decide)) ?_
 refine Za ?_
 refine Zk12 0 2 3 4 5 6 8 10 12 14 16 18 (Zt ?_)
 refine Cd.condD rfl (fun hc=> ?_) (fun h6=> ?_)
 ·rw[if_neg h0,if_neg h1,if_neg h2,if_neg h3,if_neg h4,if_neg h5,if_pos hc]
  refine Zsr ?_
  refine Za ?_
  refine Za ?_
  refine Za ?_
  refine Zk12 0 2 3 4 5 6 8 10 12 14 16 18 (Zt (Cd.ret (Post.block_ret (Post.then_ret ?_))))
  refine Post.end3 rfl rfl rfl rfl (.inl rfl) ?_
  exact⟨rfl,bel⟩
 refine Cd.skip (Post.block_normal (Ztq ?_))
 refine Za ?_
 refine Za ?_
 refine Za ?_
 refine Zk12 0 2 3 4 5 6 8 10 12 14 16 18 (Zt (Cd.ret ?_))
 refine Post.end3 rfl rfl rfl rfl (.inl rfl) ?_
 rw[if_neg h0,if_neg h1,if_neg h2,if_neg h3,if_neg h4,if_neg h5,if_neg h6]
 exact⟨rfl,bel⟩
theorem name_any (K:Ctx)(hK:K.Ok)(p d:Nat)(w:World)(h:PW K w p d false):Calls Tryz.prog 53 #[.pointer (some ⟨K.g,0,none⟩)] w (PR K w d (nameP K.ws p) fun nm v _=>v= .string (strOf nm)):=by
 have bel:=Fz.refl w.heap.size K.g w
 have k99:=h.blk
 have e99:K.g=K.g:=rfl
 have hlt:=h.blk.lt
 have hlen:=hK.len
 have hle:=h.p_le
 obtain⟨a1,a2,a3,a4,a5⟩:=hK.at_ p
 obtain⟨b1,b2,b3⟩:=K.at_kind p
 have hw:=fun W (hb:Below w.heap.size w W)=>word_any K hK p d false W (h.step hK.le hb)
 unfold wdV at hw
 have hres:=fun W=>reserved_any (K.at_ p).text W a3
 have hq:nameP K.ws p=if(K.at_ p).kind=3∧reservedB (K.at_ p).text=false then .ok (K.at_ p).text (p+1) else .bad p false:=by rw[b1,b2];rfl
 refine Zs 25 Tryz.func53 ?_
 refine Zsr ?_
 refine Za ?_
 refine Zk2 0 2 (Ztq ?_)
 refine Zm ?_
 refine Zc (Ze Tryz.func49) (hw _ (Below.refl _ _)) ?_
 rintro e w5 ⟨rfl,hb5⟩
 refine⟨_,rfl,?_⟩
 replace bel:=bel.step hb5
 replace k99:=k99.step hb5
 refine Zl zero_lex_Word ?_
 intro g3 w1 n3
 have e3:=Nat.le_trans bel.size n3.ge
 have l3:=Nat.lt_of_lt_of_le k99.lt n3.ge
 replace bel:=bel.step n3.below
 replace k99:=k99.step n3.below
 have k3:=n3.blk
 refine Zo 4 k3 ?_
 intro w2 pw2
 replace bel:=bel.put k3 pw2 e3
 replace k99:=k99.put pw2 (by omega)
 replace k3:=pw2.blk
 refine Zk3 0 2 3 (Zts (Zsr ?_))
 refine Zf 0 Tryz.underlying95 ?_
 refine Zv (Runs.loadB rfl rfl Tryz.underlying3 rfl k3 rfl) ?_
 refine Zv (Runs.neqI rfl rfl rfl) ?_
 refine Zm ?_
 refine SeqC.start ?_
 refine Zco (fun hcx=>Runs.fieldB 1 rfl rfl Tryz.underlying95 rfl (by kernel_rfl)) ?_
 refine SeqC.next rfl rfl rfl rfl rfl rfl rfl (fun hcx=>Runs.loadB rfl rfl Tryz.underlying9 rfl k3 rfl) ?_
 refine SeqC.nextC rfl rfl rfl rfl rfl rfl rfl (fun hcx=>Ze Tryz.func100) (fun hcx=>hres _) ?_
 intro w3 hw3
 replace bel:=bel.step hw3
 replace k99:=k99.step hw3
 replace k3:=k3.step hw3
 refine SeqC.or rfl rfl rfl rfl rfl rfl rfl ?_
 refine Zk4 0 2 3 13 (Zt ?_)
 refine Cd.cond rfl (fun hc=> ?_) (fun hc=> ?_)
 ·have hc:¬((K.at_ p).kind=3∧reservedB (K.at_ p).text=false):=by
   rintro⟨c1,c2⟩
   simp[c1,c2] at hc
  rw[if_neg hc] at hq
  refine Zr ?_
  refine Zm ?_
  refine Seq.callB (Ze Tryz.func50) rfl (fail_any K.g _) ?_
  rintro e w6 ⟨rfl,hb6⟩
  refine⟨_,rfl,fun a ha=>⟨ha.defers,?_⟩⟩
  rw[hq]
  exact⟨bel.step hb6,rfl,d,⟨k99.step hb6,h.rd.below ((bel.step hb6).below (by have:=hK.le;omega) hK.le),h.p_le,h.d_le⟩⟩
 ·have hc:(K.at_ p).kind=3∧reservedB (K.at_ p).text=false:=by
   simpa using hc
  rw[if_pos hc] at hq
  have hp:p+1≤K.ws.length:=by
   rcases Nat.lt_or_ge p K.ws.length with hp|hp
   ·exact hp
   ·have h1:(K.at_ p).kind= -1:=by unfold Ctx.at_;rw[List.getD_eq_getElem?_getD,List.getElem?_eq_none hp];rfl
    rw[h1] at hc
    exact absurd hc.1 (by decide)
  refine Cd.skip (Ztq ?_)
  refine Zm ?_
  refine Zv (Runs.nilCheck rfl rfl) ?_
  refine Zf 1 Tryz.underlying92 ?_
  refine Zv (Runs.loadB rfl rfl Tryz.underlying3 rfl k99 rfl) ?_
  refine Za_ ?_
  refine Zv (Runs.nilCheck rfl rfl) ?_
  refine Zf 1 Tryz.underlying92 ?_
  refine Zq k99 ?_
  intro w4 pw4
  replace bel:=bel.put k99 pw4 e99
  replace k3:=k3.put pw4 (by omega)
  replace k99:=pw4.blk
  refine Zk4 0 2 3 13 (Ztq ?_)
  refine Zf 1 Tryz.underlying95 ?_
  refine Zv (Runs.loadB rfl rfl Tryz.underlying9 rfl k3 rfl) ?_
  refine Za ?_
  refine Zk4 0 2 3 13 (Zt (Cd.ret ?_))
  refine Post.end1 rfl rfl (.inl rfl) ?_
  rw[hq]
  exact⟨bel,_,rfl,h.next hK.le hp bel k99,rfl⟩
end Go.Proofs.YtaamkfajnpobfaaGreat
namespace Go.Proofs.YtaamkfajnpobfaaGreat
open Go.RowKit
theorem Ctx.Ok.le_of {K:Ctx}(hK:K.Ok){w:World}{p d:Nat}{ov:Bool}(h:PW K w p d ov):K.B≤w.heap.size:=by have:=hK.le;have:=h.blk.lt;omega
theorem signQ_ne (ws:List Wd)(s:List Nat)(p:Nat):signQ ws s p≠ .out:=by unfold signQ;split<;>simp
theorem enterP_ne (p d:Nat):enterP p d≠ .out:=by unfold enterP;split<;>simp
theorem nameP_ne (ws:List Wd)(p:Nat):nameP ws p≠ .out:=by unfold nameP;split<;>simp
theorem partsP_cons {α:Type}(ws:List Wd)(one:Nat→Nat→Rs α)(r:List (Nat→Nat→Rs α))(first:Bool)(p d:Nat):partsP ws (one::r) first p d=(if first=true then Rs.ok () p else signQ ws [44] p).bind fun _ p=>(one p d).bind fun x p=>(partsP ws r false p d).bind fun xs p=> .ok (x::xs) p:=rfl
theorem PW.deep {K:Ctx}{w:World}{p d:Nat}(h:PW K w p d false):d≤64:=by
 rcases h.d_le with h|⟨h,-⟩
 ·exact h
 ·cases h
theorem PRh.mono {α:Type}{K:Ctx}{h d:Nat}{w w':World}{r:Rs α}{ok1 ok2:α→Value→World→Prop}{e:Ending}(hr:PRh K h w d r ok1 e w')(hm:∀a v w',ok1 a v w'→ok2 a v w'):PRh K h w d r ok2 e w':=by
 refine⟨hr.1,?_⟩
 cases r with
 |out=>exact hr.2
 |bad p o=>exact hr.2
 |ok a p=>obtain⟨v,h1,h2,h3⟩:=hr.2;exact⟨v,h1,h2,hm _ _ _ h3⟩
theorem within_any {α:Type}(K:Ctx)(hK:K.Ok)(h0:Nat)(ones:List (Nat→Nat→Rs α))(fs:List (Nat × List Value))(AP:Option Addr)(cP:Nat)(M:List α→World→Prop)(p d:Nat)(w:World)(h:PW K w p d false)(hh0:h0≤w.heap.size)
  (hlen:fs.length=ones.length) (hn:ones.length≤10) (hM0:M [] w) (hMs:∀(xs:List α) (W W':World) (p d:Nat),M xs W→PW K W p d false→Fz W.heap.size K.g W W'→M xs W')
  (hMr:∀(xs:List α) (W:World) (i f:Nat) (cp:List Value),M xs W→fs[i]? =some (f,cp)→∃ad,AP=some ad∧W.cell? (ad.add i)=some (.func (.func f) #[] cp.toArray))
  (heg:∀(i f:Nat) (cp:List Value),fs[i]? =some (f,cp)→∀args w,(callFunc f args).run Tryz.prog w= .ok (.enter f args) w)
  (hone:∀(i f:Nat) (cp:List Value) (one:Nat→Nat→Rs α),fs[i]? =some (f,cp)→ones[i]? =some one→∀(xs:List α) (W:World) (p:Nat),xs.length=i→PW K W p (d+1) false→h0≤W.heap.size→M xs W→one p (d+1)≠ .out→Calls Tryz.prog f cp.toArray W (PRh K h0 W (d+1) (one p (d+1)) fun x _ W'=>M (xs++[x]) W'))
  (hne:withinP K.ws ones p d≠ .out):
  Calls Tryz.prog 51 #[.pointer (some ⟨K.g,0,none⟩), .slice AP fs.length cP] w (PRh K h0 w d (withinP K.ws ones p d) fun xs _ W'=>M xs W'):=by
 have bel:=Fz.refl h0 K.g w
 have pw:=h
 have e99:K.g=K.g:=rfl
 have hlt:=h.blk.lt
 have hle:=hK.le
 obtain⟨R,hR⟩:∃R,R=withinP K.ws ones p d:=⟨_,rfl⟩
 rw[←hR] at hne⊢
 have hRu:R=(signQ K.ws [40] p).bind fun _ p=>(enterP p d).bind fun _ p=>(partsP K.ws ones true p (d+1)).bind fun xs p=>(signQ K.ws [41] p).bind fun _ p=> .ok xs p:=hR
 clear hR
 have hsg:=signQ_any K hK p d [40] w h (by decide)
 refine Zs 33 Tryz.func51 ?_
 refine Zsr ?_
 refine Zm ?_
 rcases Rs.ok_or (signQ_ne K.ws [40] p) with ⟨p1,o1,hr1⟩|⟨u1,p1,hr1⟩
 ·rw[hr1] at hsg hRu
  refine Seq.callB (Ze Tryz.func98) rfl hsg ?_
  rintro e w6 ⟨hf,rfl,d6,hp6⟩
  refine⟨_,rfl,fun a ha=>⟨ha.defers,?_⟩⟩
  rw[hRu]
  exact⟨hf.less hh0,rfl,d6,hp6⟩
 rw[hr1] at hsg hRu
 replace hRu:R=(enterP p1 d).bind fun _ p=>(partsP K.ws ones true p (d+1)).bind fun xs p=>(signQ K.ws [41] p).bind fun _ p=> .ok xs p:=hRu
 refine Zc (Ze Tryz.func98) (hsg) ?_
 rintro e w5 ⟨hf5,v5,rfl,pw,-⟩
 refine⟨_,rfl,?_⟩
 replace bel:=bel.call hf5 hh0
 have hs5:=bel.size
 have hM5:=hMs _ _ _ _ _ hM0 h hf5
 have hen:=enter_any K hK p1 d w5 pw
 have pwo:=pw
 refine Zk2 0 1 (Ztq ?_)
 refine Zm ?_
 rcases Rs.ok_or (enterP_ne p1 d) with ⟨p2,o2,hr2⟩|⟨u2,p2,hr2⟩
 ·rw[hr2] at hen hRu
  refine Seq.callB (Ze Tryz.func99) rfl hen ?_
  rintro e w6 ⟨hf,rfl,d6,hp6⟩
  refine⟨_,rfl,fun a ha=>⟨ha.defers,?_⟩⟩
  rw[hRu]
  exact⟨bel.call hf hh0,rfl,d6,hp6⟩
 rw[hr2] at hen hRu
 replace hRu:R=(partsP K.ws ones true p2 (d+1)).bind fun xs p=>(signQ K.ws [41] p).bind fun _ p=> .ok xs p:=hRu
 refine Zc (Ze Tryz.func99) (hen) ?_
 rintro e w6 ⟨hf6,v6,rfl,pw,-⟩
 refine⟨_,rfl,?_⟩
 replace bel:=bel.call hf6 hh0
 have hs6:=bel.size
 have hM6:=hMs _ _ _ _ _ hM5 pwo hf6
 obtain⟨R0,hR0⟩:∃R0,R0=partsP K.ws ones true p2 (d+1):=⟨_,rfl⟩
 rw[←hR0] at hRu
 have hne0:R0≠ .out:=Rs.bind_ne (by rw[←hRu];exact hne)
 refine Zk2 0 1 (Zts (Zsr ?_))
 refine Zm ?_
 refine Zv (Runs.len rfl rfl Tryz.underlying101) ?_
 refine Zm ?_
 refine Zk5 0 1 10 11 12 (Zt (Cd.block ?_))
 refine Cd.loop (σ:=Nat × Nat × List α) (fun s=>[(0, .pointer (some ⟨K.g,0,none⟩)),(10, .slice AP fs.length cP),(11, .int .i64 (fs.length:Int)),(12, .int .i64 (s.1:Int))])
  (fun s wr=>s.1≤ones.length∧PW K wr s.2.1 (d+1) false∧Fz h0 K.g w wr∧M s.2.2 wr∧s.2.2.length=s.1∧R0=(partsP K.ws (ones.drop s.1) (decide (s.1=0)) s.2.1 (d+1)).bind fun ys p=> .ok (s.2.2++ys) p)
  (fun s=>ones.length-s.1) (0,p2,[]) ⟨Nat.zero_le _,pw,bel,hM6,rfl,by rw[hR0];show _=(partsP K.ws ones true p2 (d+1)).bind _;cases partsP K.ws ones true p2 (d+1)<;>rfl⟩ ⟨rfl,rfl,rfl,rfl,trivial⟩ ?_
 clear bel pw hM6 hM5 hM0 hR0
 rintro⟨i,pi,xs⟩ wr ⟨hi,pw,bel,hM,hxl,hinv⟩
 dsimp only at hi pw hM hxl hinv⊢
 have hsr:=bel.size
 refine Zsr ?_
 refine Zv (Runs.lss rfl rfl rfl) ?_
 refine Zk5 0 10 11 12 13 (Zts ?_)
 refine Cd.condD rfl (fun hc=> ?_) (fun hc=> ?_)
 ·obtain⟨one,ho⟩:∃one,ones[i]? =some one:=⟨_,List.getElem?_eq_getElem (by omega)⟩
  obtain⟨⟨f,cp⟩,hfc⟩:∃f,fs[i]? =some f:=⟨_,List.getElem?_eq_getElem (by omega)⟩
  obtain⟨ad,hA,hcl⟩:=hMr xs wr i f cp hM hfc
  have hdr:ones.drop i=one::ones.drop (i+1):=by
   have hlt:=(List.getElem?_eq_some_iff.1 ho).1
   rw[List.drop_eq_getElem_cons hlt]
   rw[List.getElem?_eq_getElem hlt] at ho
   injection ho with ho
   rw[ho]
  rw[hdr] at hinv
  rw[hA]
  refine Cd.skip (Zts (Cd.block (Zsr ?_)))
  refine Zm ?_
  refine Zv (Runs.index1 rfl rfl rfl Tryz.underlying101 (by kernel_rfl) (j:=i) rfl (by omega)) ?_
  refine Zv (Runs.load1 rfl rfl Tryz.underlying1 rfl hcl) ?_
  refine Za ?_
  refine Za ?_
  refine Zk7 0 4 5 10 11 12 13 (Zt ?_)
  refine Cd.seqJ (σ:=Nat) (fun _=>[(0, .pointer (some ⟨K.g,0,none⟩)),(5, .func (.func f) #[] cp.toArray),(10, .slice (some ad) fs.length cP),(11, .int .i64 (fs.length:Int)),(12, .int .i64 (i:Int))]) (fun pj wj=>PW K wj pj (d+1) false∧Fz h0 K.g w wj∧M xs wj∧R0=(one pj (d+1)).bind fun x p=>(partsP K.ws (ones.drop (i+1)) false p (d+1)).bind fun ys p=> .ok (xs++(x::ys)) p) ?_ ?_
  ·skip
   refine Zsr ?_
   refine Zm ?_
   refine Zv (Runs.gtr rfl rfl rfl) ?_
   refine Zk8 0 4 5 10 11 12 13 18 (Zt ?_)
   refine Cd.condD rfl (fun hc=> ?_) (fun hc=> ?_)
   ·have hinv:R0=(signQ K.ws [44] pi).bind fun _ p=>(one p (d+1)).bind fun x p=>(partsP K.ws (ones.drop (i+1)) false p (d+1)).bind fun ys p=> .ok (xs++(x::ys)) p:=by
     rw[hinv,partsP_cons,decide_eq_false (show¬i=0 by omega),if_neg (by decide)]
     simp only[Rs.bind_assoc]
     rfl
    have hsg:=signQ_any K hK pi (d+1) [44] wr pw (by decide)
    have pwo:=pw
    refine Zr ?_
    refine Zm ?_
    rcases Rs.ok_or (signQ_ne K.ws [44] pi) with ⟨p1,o1,hr1⟩|⟨u1,p1,hr1⟩
    ·rw[hr1] at hsg hinv
     refine Seq.callB (Ze Tryz.func98) rfl hsg ?_
     rintro e w7 ⟨hf,rfl,d6,hp6⟩
     refine⟨_,rfl,fun a ha=>⟨ha.defers,?_⟩⟩
     rw[hRu,hinv]
     exact⟨bel.call hf hh0,rfl,d6,hp6⟩
    rw[hr1] at hsg hinv
    refine Zc (Ze Tryz.func98) (hsg) ?_
    rintro e w7 ⟨hf7,v7,rfl,pw,-⟩
    refine⟨_,rfl,?_⟩
    refine Zk8 0 4 5 10 11 12 13 18 ?_
    exact Post.join p1 ⟨rfl,rfl,rfl,rfl,rfl,trivial⟩ ⟨pw,bel.call hf7 hh0,hMs _ _ _ _ _ hM pwo hf7,hinv⟩
   ·obtain rfl:i=0:=by omega
    refine Cd.skip ?_
    refine Post.join pi ⟨rfl,rfl,rfl,rfl,rfl,trivial⟩ ⟨pw,bel,hM,?_⟩
    rw[hinv,partsP_cons,decide_eq_true rfl,if_pos rfl]
    simp only[Rs.bind_assoc,Rs.bind_ok]
  clear bel pw hM hinv
  rintro pj wj ⟨pw,bel,hM,hinv⟩
  have hsj:=bel.size
  have hne1:one pj (d+1)≠ .out:=Rs.bind_ne (by rw[←hinv];exact hne0)
  have hcall:=hone i f cp one hfc ho xs wj pj hxl pw (by omega) hM hne1
  refine Zr ?_
  refine Zm ?_
  rcases Rs.ok_or hne1 with ⟨p1,o1,hr1⟩|⟨x,p1,hr1⟩
  ·rw[hr1] at hcall hinv
   refine Seq.callB (Enters.value (first:=[]) (cap:=cp) rfl rfl rfl (heg i f cp hfc)) rfl hcall ?_
   rintro e w7 ⟨hf,rfl,d6,hp6⟩
   refine⟨_,rfl,fun a ha=>⟨ha.defers,?_⟩⟩
   rw[hRu,hinv]
   exact⟨bel.trans hf,rfl,d6,hp6⟩
  rw[hr1] at hcall hinv
  refine Seq.call (Enters.value (first:=[]) (cap:=cp) rfl rfl rfl (heg i f cp hfc)) rfl rfl rfl hcall ?_
  rintro e w7 ⟨hf7,v7,rfl,pw,hM⟩
  refine⟨_,rfl,?_⟩
  refine Zk5 0 5 10 11 12 (Post.block_normal (Ztr ?_))
  refine Za_ ?_
  refine Zm ?_
  refine Zk5 0 5 10 11 12 ?_
  refine Post.round (i+1,p1,xs++[x]) ⟨rfl,rfl,rfl,rfl,trivial⟩ ⟨by dsimp only;omega,pw,bel.trans hf7,hM,by dsimp only;rw[List.length_append,hxl];rfl,?_⟩ (by dsimp only;omega)
  dsimp only
  rw[hinv,decide_eq_false (show¬i+1=0 by omega),Rs.bind_ok]
  simp only[List.append_assoc,List.cons_append,List.nil_append]
 ·obtain rfl:i=ones.length:=by omega
  rw[List.drop_of_length_le (Nat.le_refl _)] at hinv
  have hinv:R0= .ok xs pi:=by rw[hinv];unfold partsP;rw[Rs.bind_ok,List.append_nil]
  rw[hinv] at hRu
  replace hRu:R=(signQ K.ws [41] pi).bind fun _ p=> .ok xs p:=hRu
  have hsg:=signQ_any K hK pi (d+1) [41] wr pw (by decide)
  have pwo:=pw
  refine Cd.exit (Post.then_exit (Post.round_exit (Post.block_exit (Ztq ?_))))
  refine Zm ?_
  rcases Rs.ok_or (signQ_ne K.ws [41] pi) with ⟨p1,o1,hr1⟩|⟨u1,p1,hr1⟩
  ·rw[hr1] at hsg hRu
   refine Seq.callB (Ze Tryz.func98) rfl hsg ?_
   rintro e w7 ⟨hf,rfl,d6,hp6⟩
   refine⟨_,rfl,fun a ha=>⟨ha.defers,?_⟩⟩
   rw[hRu]
   exact⟨bel.call hf hh0,rfl,d6,hp6⟩
  rw[hr1] at hsg hRu
  refine Zc (Ze Tryz.func98) (hsg) ?_
  rintro e w7 ⟨hf7,v7,rfl,pw,-⟩
  refine⟨_,rfl,?_⟩
  replace bel:=bel.call hf7 hh0
  have hM:=hMs _ _ _ _ _ hM pwo hf7
  have k99:=pw.blk
  have hd64:=pw.deep
  have loc:=Fz.refl w7.heap.size K.g w7
  refine Zk5 0 10 11 12 13 (Ztr ?_)
  refine Zm ?_
  refine Zv (Runs.nilCheck rfl rfl) ?_
  refine Zf 2 Tryz.underlying92 ?_
  refine Zv (Runs.loadB rfl rfl Tryz.underlying3 rfl k99 rfl) ?_
  refine Zv (Runs.subI rfl rfl rfl (by omega) (by omega)) ?_
  refine Zv (Runs.nilCheck rfl rfl) ?_
  refine Zf 2 Tryz.underlying92 ?_
  refine Zq k99 ?_
  intro w1 pw1
  replace bel:=bel.put k99 pw1 e99
  replace loc:=loc.put k99 pw1 e99
  replace k99:=pw1.blk
  refine Zk5 0 10 11 12 13 ?_
  refine Post.end0 rfl (.inr rfl) ?_
  rw[hRu]
  have hcast:((d+1:Nat):Int)-1=(d:Int):=by omega
  rw[hcast] at k99
  exact⟨bel,_,rfl,⟨k99,pw.rd.below (loc.below (hK.le_of pw) hle),pw.p_le, .inl (by omega)⟩,hMs _ _ _ _ _ hM pw loc⟩
end Go.Proofs.YtaamkfajnpobfaaGreat
namespace Go.Proofs.YtaamkfajnpobfaaGreat
open Go.RowKit
variable [Inhabited (List Deferred)]
theorem look_app (A B:List (Nat × Value))(t:Nat):look (A++B) t=match look A t with|some v=>some v|none=>look B t:=by
 induction A with
 |nil=>rfl
 |cons x r ih=>
  obtain⟨k,v⟩:=x
  show(bif Nat.beq k t then some v else look (r++B) t)=match (bif Nat.beq k t then some v else look r t) with|some v=>some v|none=>look B t
  cases Nat.beq k t with
  |true=>rfl
  |false=>exact ih
def slotsF (S:Nat→Bool):Nat→List Oper→List Value→List (Nat × Value)
 |k,o::r,v::vs=>match o.dst with
  |some d=>bif S k then(d,v)::slotsF S (k+1) r vs else slotsF S (k+1) r vs
  |none=>slotsF S (k+1) r vs
 |_,_,_=>[]
theorem slotsF_look {S:Nat→Bool}:∀ {l:List Oper} {vs:List Value} {k t:Nat} {v:Value},look (slotsF S k l vs) t=some v→∃(j:Nat) (o:Oper),l[j]? =some o∧o.dst=some t∧vs[j]? =some v∧S (k+j)=true
 | [],_,_,_,_,h=>by simp[slotsF,look] at h
 |_::_,[],_,_,_,h=>by simp[slotsF,look] at h
 |o::r,v::vs,k,t,u,h=>by
  unfold slotsF at h
  have up:look (slotsF S (k+1) r vs) t=some u→∃(j:Nat) (o':Oper),(o::r)[j]? =some o'∧o'.dst=some t∧(v::vs)[j]? =some u∧S (k+j)=true:=fun h=>by
   obtain⟨j,o',h1,h2,h3,h4⟩:=slotsF_look h
   exact⟨j+1,o',by simpa using h1,h2,by simpa using h3,by rw[show k+(j+1)=k+1+j from by omega];exact h4⟩
  cases hd:o.dst with
  |none=>rw[hd] at h;exact up h
  |some d=>
   rw[hd] at h
   simp only at h
   cases hS:S k with
   |false=>rw[hS] at h;exact up h
   |true=>
    rw[hS,cond_true] at h
    rcases look_put h with ⟨rfl,rfl⟩|⟨_,h⟩
    ·exact⟨0,o,rfl,hd,rfl,hS⟩
    ·exact up h
theorem slotsF_mem {S:Nat→Bool}:∀ {l:List Oper} {vs:List Value} {k j:Nat} {o:Oper} {d:Nat} {v:Value},l[j]? =some o→o.dst=some d→vs[j]? =some v→S (k+j)=true→(∀i o',l[i]? =some o'→i≠j→o'.dst≠some d)→look (slotsF S k l vs) d=some v
 | [],_,_,_,_,_,_,h,_,_,_,_=>by simp at h
 |_::_,[],_,_,_,_,_,_,_,h,_,_=>by simp at h
 |o0::r,v0::vs,k,0,o,d,v,h1,h2,h3,h4,h5=>by
  simp at h1 h3
  subst h1 h3
  unfold slotsF
  rw[h2]
  simp only
  rw[Nat.add_zero] at h4
  rw[h4,cond_true]
  unfold look
  rw[Nat.beq_refl]
  rfl
 |o0::r,v0::vs,k,j+1,o,d,v,h1,h2,h3,h4,h5=>by
  have ih:=slotsF_mem (S:=S) (l:=r) (vs:=vs) (k:=k+1) (j:=j) (o:=o) (d:=d) (v:=v) (by simpa using h1) h2 (by simpa using h3) (by rw[show k+1+j=k+(j+1) from by omega];exact h4) (fun i o' hi hne=>h5 (i+1) o' (by simpa using hi) (by omega))
  unfold slotsF
  cases hd:o0.dst with
  |none=>exact ih
  |some d0=>
   simp only
   cases S k with
   |false=>exact ih
   |true=>
    have hne:d0≠d:=fun e=>h5 0 o0 rfl (by omega) (by rw[hd,e])
    rw[cond_true]
    unfold look
    have:Nat.beq d0 d=false:=by
     cases hb:Nat.beq d0 d with
     |false=>rfl
     |true=>exact absurd (Nat.eq_of_beq_eq_true hb) hne
    rw[this,cond_false]
    exact ih
section
variable {P:Program} {Q:Exit→Act→World→Prop} {n:Nat} {F0:List (Nat × Value)}
def frameG (l:List Oper)(F0:List (Nat × Value))(vs:List Value)(S:Nat→Bool)(o:Oper):List (Nat × Value):=slotsF (fun k=>memB (direct o) k) 0 l vs++(F0++slotsF S 0 l vs)
def AfterG {σT:Type}(l:List Oper)(n:Nat)(F0:List (Nat × Value))(vs:σT→List Value)(X:σT→(Nat→Bool)→World→Prop)(S:Nat→Bool)(k:Nat)(a:Act)(w:World):Prop:=
 ∃σ,Fr n F0 a∧(∀(j:Nat) (o:Oper) (d:Nat) (v:Value),l[j]? =some o→o.dst=some d→updC S k j=true→(vs σ)[j]? =some v→a.tmps[d]? =some v)∧X σ (updC S k) w
def DownC (l:List Oper)(S:Nat→Bool):Prop:=∀(i:Nat) (o:Oper),l[i]? =some o→S i=true→∀x∈direct o,S x=true
def StepG {σT:Type}(P:Program)(ops:Array Oper)(Q:Exit→Act→World→Prop)(l:List Oper)(n:Nat)(F0:List (Nat × Value))(vs:σT→List Value)(X:σT→(Nat→Bool)→World→Prop)(k:Nat)(o:Oper):Prop:=
 ∀(σ:σT) (S:Nat→Bool) (w:World),S k=false→(∀x∈direct o,S x=true)→DownC l S→X σ S w→Seq P ops (Exit.then (AfterG l n F0 vs X S k) Q) [o] n (frameG l F0 (vs σ) S o) w
theorem oper_then {o:Oper}{a:Act}{w:World}{K K':Act→World→Prop}(h:o.wp P a w K (Exit.then K' Q)):o.wp P a w K Q:=by
 unfold Oper.wp at *
 unfold Oper.upon at *
 split at h<;>exact h
theorem done_slots {l:List Oper}{keys:List Nat}(hchk:chkInit n keys 0 [] l=true){j:Nat}{o:Oper}{d:Nat}(h:l[j]? =some o)(hd:o.dst=some d):d<n∧d∉keys∧∀i o',l[i]? =some o'→i≠j→o'.dst≠some d:=by
 obtain⟨-,h2⟩:=chkInit_spec hchk j o h
 obtain⟨a1,-,a3,a4⟩:=h2 d hd
 exact⟨a1,a3,a4⟩
theorem Post.afterG {σT:Type}{l:List Oper}{vs:σT→List Value}{X:σT→(Nat→Bool)→World→Prop}{σ σ':σT}{S:Nat→Bool}{k d:Nat}{o:Oper}{u:Value}{w':World}(hchk:chkInit n (keysOf F0) 0 [] l=true)(ho:l[k]? =some o)(hd:o.dst=some d)(hpre:∀x∈direct o,S x=true)(hu:(vs σ')[k]? =some u)(hj:∀j,S j=true→(vs σ')[j]? =(vs σ)[j]?)(hX:X σ' (updC S k) w'):
  Post (Exit.then (AfterG l n F0 vs X S k) Q) .normal n ((d,u)::frameG l F0 (vs σ) S o) w':=by
 intro a ha
 obtain⟨b1,b2,b3⟩:=done_slots hchk ho hd
 have hF:∀t v,look F0 t=some v→a.tmps[t]? =some v:=fun t v ht=>by
  have hk:=look_keys ht
  have hnone:∀S',look (slotsF S' 0 l (vs σ)) t=none:=fun S'=>by
   cases hl:look (slotsF S' 0 l (vs σ)) t with
   |none=>rfl
   |some x=>
    obtain⟨j,o',h1,h2,-,-⟩:=slotsF_look hl
    exact absurd hk (done_slots hchk h1 h2).2.1
  refine ha.slot t v ?_
  unfold look
  cases hb:Nat.beq d t with
  |true=>rw[Nat.eq_of_beq_eq_true hb] at b2;exact absurd hk b2
  |false=>
   rw[cond_false]
   unfold frameG
   rw[look_app,hnone]
   simp only
   rw[look_app,ht]
 refine⟨σ',⟨ha.size,ha.defers,hF⟩,fun j o' d' v h1 h2 h3 h4=> ?_,hX⟩
 by_cases hjk:j=k
 ·subst hjk
  rw[ho] at h1
  injection h1 with h1
  subst h1
  rw[hd] at h2
  injection h2 with h2
  subst h2
  rw[hu] at h4
  injection h4 with h4
  subst h4
  exact ha.slot d u (by unfold look;rw[Nat.beq_refl];rfl)
 ·have hS:S j=true:=by unfold updC at h3;rwa [if_neg hjk] at h3
  have hv:(vs σ)[j]? =some v:=by rw[←hj j hS];exact h4
  obtain⟨c1,c2,c3⟩:=done_slots hchk h1 h2
  refine ha.slot d' v ?_
  have hne:d≠d':=fun e=>b3 j o' h1 hjk (by rw[h2,e])
  unfold look
  have hb:Nat.beq d d'=false:=by
   cases hb:Nat.beq d d' with
   |false=>rfl
   |true=>exact absurd (Nat.eq_of_beq_eq_true hb) hne
  rw[hb,cond_false]
  unfold frameG
  rw[look_app]
  have h0:look (slotsF S 0 l (vs σ)) d'=some v:=slotsF_mem h1 h2 hv (by rw[Nat.zero_add];exact hS) c3
  cases hl:look (slotsF (fun k=>memB (direct o) k) 0 l (vs σ)) d' with
  |none=>
   simp only
   rw[look_app]
   cases hf:look F0 d' with
   |none=>simp only;exact h0
   |some y=>exact absurd (look_keys hf) c2
  |some x=>
   obtain⟨i,oi,e1,e2,e3,-⟩:=slotsF_look hl
   have:i=j:=by
    by_cases hij:i=j
    ·exact hij
    ·exact absurd e2 (c3 i oi e1 hij)
   subst this
   rw[hv] at e3
   exact e3.symm
theorem Post.afterG0 {σT:Type}{l:List Oper}{vs:σT→List Value}{X:σT→(Nat→Bool)→World→Prop}{σ σ':σT}{S:Nat→Bool}{k:Nat}{o:Oper}{w':World}(hchk:chkInit n (keysOf F0) 0 [] l=true)(ho:l[k]? =some o)(hd:o.dst=none)(hj:∀j,S j=true→(vs σ')[j]? =(vs σ)[j]?)(hX:X σ' (updC S k) w'):
  Post (Exit.then (AfterG l n F0 vs X S k) Q) .normal n (frameG l F0 (vs σ) S o) w':=by
 intro a ha
 have hF:∀t v,look F0 t=some v→a.tmps[t]? =some v:=fun t v ht=>by
  have hk:=look_keys ht
  have hnone:∀S',look (slotsF S' 0 l (vs σ)) t=none:=fun S'=>by
   cases hl:look (slotsF S' 0 l (vs σ)) t with
   |none=>rfl
   |some x=>
    obtain⟨j,o',h1,h2,-,-⟩:=slotsF_look hl
    exact absurd hk (done_slots hchk h1 h2).2.1
  refine ha.slot t v ?_
  unfold frameG
  rw[look_app,hnone]
  simp only
  rw[look_app,ht]
 refine⟨σ',⟨ha.size,ha.defers,hF⟩,fun j o' d' v h1 h2 h3 h4=> ?_,hX⟩
 have hjk:j≠k:=fun e=>by
  subst e
  rw[ho] at h1
  injection h1 with h1
  subst h1
  rw[hd] at h2
  cases h2
 have hS:S j=true:=by unfold updC at h3;rwa [if_neg hjk] at h3
 have hv:(vs σ)[j]? =some v:=by rw[←hj j hS];exact h4
 obtain⟨c1,c2,c3⟩:=done_slots hchk h1 h2
 refine ha.slot d' v ?_
 unfold frameG
 rw[look_app]
 have h0:look (slotsF S 0 l (vs σ)) d'=some v:=slotsF_mem h1 h2 hv (by rw[Nat.zero_add];exact hS) c3
 cases hl:look (slotsF (fun k=>memB (direct o) k) 0 l (vs σ)) d' with
 |none=>
  simp only
  rw[look_app]
  cases hf:look F0 d' with
  |none=>simp only;exact h0
  |some y=>exact absurd (look_keys hf) c2
 |some x=>
  obtain⟨i,oi,e1,e2,e3,-⟩:=slotsF_look hl
  have:i=j:=by
   by_cases hij:i=j
   ·exact hij
   ·exact absurd e2 (c3 i oi e1 hij)
  subst this
  rw[hv] at e3
  exact e3.symm
def allF:List Oper→List Value→List (Nat × Value)→List (Nat × Value)
 |o::r,v::vs,F=>match o.dst with
  |some d=>(d,v)::allF r vs F
  |none=>allF r vs F
 |_,_,F=>F
theorem allF_look:∀ {l:List Oper} {vs:List Value} {F:List (Nat × Value)} {t:Nat} {v:Value},look (allF l vs F) t=some v→(∃(j:Nat) (o:Oper),l[j]? =some o∧o.dst=some t∧vs[j]? =some v)∨look F t=some v
 | [],_,_,_,_,h=> .inr h
 |_::_,[],_,_,_,h=> .inr h
 |o::r,u::vs,F,t,v,h=>by
  have up:look (allF r vs F) t=some v→(∃(j:Nat) (o':Oper),(o::r)[j]? =some o'∧o'.dst=some t∧(u::vs)[j]? =some v)∨look F t=some v:=fun h=>by
   rcases allF_look h with ⟨j,o',h1,h2,h3⟩|h
   ·exact .inl ⟨j+1,o',by simpa using h1,h2,by simpa using h3⟩
   ·exact .inr h
  unfold allF at h
  cases hd:o.dst with
  |none=>rw[hd] at h;exact up h
  |some d=>
   rw[hd] at h
   simp only at h
   rcases look_put h with ⟨rfl,rfl⟩|⟨_,h⟩
   ·exact .inl ⟨0,o,rfl,hd,rfl⟩
   ·exact up h
theorem rep_getD (m i:Nat):(Array.replicate m false).getD i false=false:=by by_cases h:i<m<;>simp[h]
def inAll (ds:List Nat):Nat→Bool
 |0=>true
 |k+1=>memB ds k&&inAll ds k
theorem inAll_spec {ds:List Nat}:∀ {m:Nat},inAll ds m=true→∀i,i<m→i∈ds
 |0,_,i,hi=>by omega
 |m+1,h,i,hi=>by
  unfold inAll at h
  simp only[Bool.and_eq_true] at h
  rcases Nat.lt_or_ge i m with h1|h1
  ·exact inAll_spec h.2 i h1
  ·obtain rfl:i=m:=by omega
   exact memB_spec h.1
def chkRest (m:Nat):List Oper→Bool
 | []=>true
 |o::r=>inAll (direct o) m&&ltAll m (direct o)&&chkTail (m+1) r
theorem Cd.drawG {σT:Type}(m:Nat){id:Nat}{l:List Oper}{w:World}(hm:P.follows .mixedOrders=true)(hchk:chkInit n (keysOf F0) 0 [] (l.take m)=true)(hrest:chkRest (l.take m).length (l.drop m)=true)(vs:σT→List Value)(X:σT→(Nat→Bool)→World→Prop)(σ0:σT)
  (h0:∀w0,Below w.heap.size w w0→w0.heap.size=w.heap.size→X σ0 (fun _=>false) w0)
  (hstep:∀(k:Nat) (o:Oper),(l.take m)[k]? =some o→StepG P l.toArray Q (l.take m) n F0 vs X k o)
  (hfin:∀(σ:σT) (S:Nat→Bool) (w:World),(∀i,i<(l.take m).length→S i=true)→X σ S w→Seq P l.toArray Q (l.drop m) n (allF (l.take m) (vs σ) F0) w):Cd P (.region id l.toArray true) Q n F0 w:=by
 have hops:l.toArray=(l.take m++l.drop m).toArray:=by rw[List.take_append_drop]
 revert hchk hrest hstep hfin
 generalize l.take m=init at *
 generalize l.drop m=tail at *
 intro hchk hrest hstep hfin
 generalize l.toArray=ops at *
 intro a ha
 refine wp_region_any hm ?_
 have hw0:=h0 {w with drawn:=w.drawn+1} ⟨rfl,rfl,rfl,Nat.le_refl _,fun _ _=>rfl⟩ rfl
 have c1:=chkInit_spec hchk
 have hsz:ops.size=init.length+tail.length:=by rw[hops];simp
 have hat:∀i,i<init.length→ops[i]? =init[i]? :=fun i hi=>by rw[hops];simp[List.getElem?_append_left hi]
 have hat2:∀r,ops[init.length+r]? =tail[r]? :=fun r=>by rw[hops];simp[List.getElem?_append_right]
 have t0:∀o,tail[0]? =some o→(∀x∈direct o,x<init.length)∧∀i,i<init.length→i∈direct o:=by
  intro o ho
  cases tail with
  |nil=>simp at ho
  |cons o1 r=>
   obtain rfl:o1=o:=by simpa using ho
   unfold chkRest at hrest
   simp only[Bool.and_eq_true] at hrest
   exact⟨ltAll_spec hrest.1.2,inAll_spec hrest.1.1⟩
 have ts:∀i o,tail[i+1]? =some o→(∀x∈direct o,x<init.length+1+i)∧init.length+1+i-1∈direct o:=by
  intro i o ho
  cases tail with
  |nil=>simp at ho
  |cons o1 r=>
   unfold chkRest at hrest
   simp only[Bool.and_eq_true] at hrest
   exact chkTail_spec hrest.2 i o (by simpa using ho)
 have key:∀(fuel:Nat) (listed:Array Bool) (σ:σT) (a:Act) (w:World),listed.size=ops.size→DownC init (fun j=>listed.getD j false)→(∀i,init.length≤i→i<ops.size→listed.getD i true=false)→Fr n F0 a→(∀(j:Nat) (o:Oper) (d:Nat) (v:Value),init[j]? =some o→o.dst=some d→listed.getD j false=true→(vs σ)[j]? =some v→a.tmps[d]? =some v)→X σ (fun j=>listed.getD j false) w→left listed ops.size≤fuel→wpAny P .any ops Q fuel listed a w:=by
  have fin:∀(fuel:Nat) (listed:Array Bool) (σ:σT) (a:Act) (w:World),listed.size=ops.size→(∀i,i<init.length→listed.getD i true=true)→(∀i,init.length≤i→i<ops.size→listed.getD i true=false)→Fr n F0 a→(∀(j:Nat) (o:Oper) (d:Nat) (v:Value),init[j]? =some o→o.dst=some d→listed.getD j false=true→(vs σ)[j]? =some v→a.tmps[d]? =some v)→X σ (fun j=>listed.getD j false) w→left listed ops.size≤fuel→wpAny P .any ops Q fuel listed a w:=by
   intro fuel listed σ a w hl hall hts hF hD hX hf
   have hb:∀i,i<init.length→listed.getD i false=true:=fun i hi=>by
    have h1:=hall i hi
    have h2:i<listed.size:=by omega
    simp[h2] at h1⊢
    exact h1
   have hleft:∀k,k≤ops.size→left listed k=k-init.length:=by
    intro k
    induction k with
    |zero=>intro _;show 0=0-init.length;omega
    |succ k ihk=>
     intro hk
     unfold left
     rw[ihk (by omega)]
     rcases Nat.lt_or_ge k init.length with h1|h1
     ·rw[if_pos (hall k h1)];omega
     ·rw[if_neg (by rw[hts k h1 (by omega)];simp)];omega
   refine phase2 hops (fun o ho=>(t0 o ho).1) ts fuel 0 listed a w hl (Nat.zero_le _) (fun i hi=>hall i (by omega)) (fun i hi hi2=>hts i (by omega) hi2) (by have:=hleft ops.size (Nat.le_refl _);omega) ?_
   rw[List.drop_zero]
   refine hfin σ _ w hb hX a ⟨hF.size,hF.defers,fun t v ht=> ?_⟩
   rcases allF_look ht with ⟨j,o,h1,h2,h3⟩|h
   ·exact hD j o t v h1 h2 (hb j (List.getElem?_eq_some_iff.1 h1).1) h3
   ·exact hF.slot t v h
  intro fuel
  induction fuel with
  |zero=>
   intro listed σ a w hl hdc hts hF hD hX hf
   have hall:=left_zero (Nat.le_zero.1 hf)
   exact fin 0 listed σ a w hl (fun i hi=>hall i (by omega)) hts hF hD hX hf
  |succ fuel ih=>
   intro listed σ a w hl hdc hts hF hD hX hf
   by_cases hdone:∀i,i<init.length→listed.getD i true=true
   ·exact fin _ listed σ a w hl hdone hts hF hD hX hf
   have hex:∃i,i∈Region.ready .any ops listed:=by
    refine Classical.byContradiction fun hno=>hdone ?_
    have this:∀i,(∀j,j<i→j<init.length→listed.getD j true=true)→i<init.length→listed.getD i true=true:=fun i hlt hi=>by
     cases hb:listed.getD i true with
     |true=>rfl
     |false=>
      exfalso
      refine hno ⟨i,ready_iff.2 ⟨hb,init[i],by rw[hat i hi,List.getElem?_eq_getElem hi],fun x hx=> ?_⟩⟩
      have hxi:=(c1 i _ (List.getElem?_eq_getElem hi)).1 x hx
      have h1:=hlt x (by omega) (by omega)
      have h2:x<listed.size:=by omega
      simp[h2] at h1⊢
      exact h1
    have all:∀m i,i≤m→i<init.length→listed.getD i true=true:=by
     intro m
     induction m using Nat.strongRecOn with
     |_ m ihm=>intro i him hi;exact this i (fun j hj hjl=>ihm j (by omega) j (Nat.le_refl _) hjl) hi
    exact fun i hi=>all i i (Nat.le_refl _) hi
   refine⟨fun hnil=>(by obtain⟨i,hi⟩:=hex;rw[hnil] at hi;cases hi),fun i hi=> ?_⟩
   ·obtain⟨g1,o,ho,g2⟩:=ready_iff.1 hi
    have hio:=(Array.getElem?_eq_some_iff.1 ho).1
    have hil:i<init.length:=by
     rcases Nat.lt_or_ge i init.length with h|h
     ·exact h
     ·exfalso
      obtain⟨q,rfl⟩:∃q,i=init.length+q:=⟨i-init.length,by omega⟩
      rw[hat2] at ho
      cases q with
      |zero=>
       refine hdone fun j hj=> ?_
       have h1:=g2 j ((t0 o ho).2 j hj)
       have h2:j<listed.size:=by omega
       simp[h2] at h1⊢
       exact h1
      |succ q=>
       have h1:=g2 _ (ts q o ho).2
       have h2:=hts (init.length+1+q-1) (by omega) (by omega)
       rw[getD_both h2] at h1
       cases h1
    rw[hat i hil] at ho
    have hSi:listed.getD i false=false:=getD_both g1
    have hst:=hstep i o ho σ (fun j=>listed.getD j false) w hSi g2 hdc hX a ⟨hF.size,hF.defers,fun t v ht=>by
     unfold frameG at ht
     rw[look_app] at ht
     cases h1:look (slotsF (fun k=>memB (direct o) k) 0 init (vs σ)) t with
     |some x=>
      rw[h1] at ht
      injection ht with ht
      subst ht
      obtain⟨j,oj,e1,e2,e3,e4⟩:=slotsF_look h1
      rw[Nat.zero_add] at e4
      exact hD j oj t x e1 e2 (g2 j (memB_spec e4)) e3
     |none=>
      rw[h1] at ht
      simp only at ht
      rw[look_app] at ht
      cases h2:look F0 t with
      |some x=>
       rw[h2] at ht
       injection ht with ht
       subst ht
       exact hF.slot t x h2
      |none=>
       rw[h2] at ht
       simp only at ht
       obtain⟨j,oj,e1,e2,e3,e4⟩:=slotsF_look ht
       rw[Nat.zero_add] at e4
       exact hD j oj t v e1 e2 e4 e3⟩
    have hupd:(fun j=>(listed.setIfInBounds i true).getD j false)=updC (fun j=>listed.getD j false) i:=by
     funext j
     unfold updC
     by_cases e:i=j
     ·subst e;simp[getD_set_self false (show i<listed.size by omega)]
     ·rw[getD_set_ne false e,if_neg (fun h=>e h.symm)]
    have next:∀a' w',AfterG init n F0 vs X (fun j=>listed.getD j false) i a' w'→wpAny P .any ops Q fuel (listed.setIfInBounds i true) a' w':=by
     rintro a' w' ⟨σ',h1,h2,h3⟩
     rw[←hupd] at h3
     refine ih _ σ' a' w' (by simp[hl]) ?_ (fun j h4 h5=>by rw[getD_set_ne true (by omega)];exact hts j h4 h5) h1 (fun j oj d v e1 e2 e3 e4=>h2 j oj d v e1 e2 (by rw[←hupd];exact e3) e4) h3 ?_
     ·intro i2 o2 e1 e2 x hx
      simp only at e2⊢
      by_cases e:i=i2
      ·subst e
       rw[ho] at e1
       injection e1 with e1
       subst e1
       exact getD_set_true (g2 x hx)
      ·rw[getD_set_ne false e] at e2
       exact getD_set_true (hdc i2 o2 e1 e2 x hx)
     ·have:=left_set (listed:=listed) (i:=i) (by omega) g1 ops.size
      rw[if_pos hio] at this
      omega
    unfold wpOp
    rw[hat i hil,ho]
    simp only
    unfold wpList at hst
    by_cases hwant:Region.wanted o (yielded ops a.tmps)=true
    ·rw[if_pos hwant] at hst⊢
     rcases hst with hst|⟨h1,h2⟩
     ·exact .inl (Oper.wp_mono next (oper_then (Oper.wp_mono (fun a' w' h=>h) hst)))
     ·exact .inr ⟨h1,h2⟩
    ·rw[if_neg hwant] at hst⊢
     exact next _ _ hst
 refine key ops.size _ σ0 a _ (by simp) (fun i o _ h=> ?_) (fun i _ h=>by simp[h]) ha (fun j o d v _ _ h _=> ?_) ?_ ?_
 ·simp only[rep_getD] at h;cases h
 ·rw[rep_getD] at h;cases h
 ·have hrep:(fun j=>(Array.replicate ops.size false).getD j false)=fun _=>false:=funext fun i=>rep_getD _ i
  rw[hrep]
  exact hw0
 ·have:∀k,left (Array.replicate ops.size false) k≤k:=by
   intro k
   induction k with
   |zero=>exact Nat.le_refl _
   |succ k ih=>unfold left;split<;>omega
  exact this _
end
end Go.Proofs.YtaamkfajnpobfaaGreat
namespace Go.Proofs.YtaamkfajnpobfaaGreat
open Go.RowKit
structure Kp (w w':World):Prop where
 size:w.heap.size≤w'.heap.size
 keep:∀k t cs,Blk w k t cs→t≠25→t≠35→t≠92→Blk w' k t cs
section
variable {w w' w'':World}
theorem Kp.refl (w:World):Kp w w:=⟨Nat.le_refl _,fun _ _ _ h _ _ _=>h⟩
theorem Kp.trans (a:Kp w w')(b:Kp w' w''):Kp w w'':=⟨Nat.le_trans a.size b.size,fun k t cs h h1 h2 h3=>b.keep k t cs (a.keep k t cs h h1 h2 h3) h1 h2 h3⟩
theorem Kp.step (a:Kp w w')(b:Below w'.heap.size w' w''):Kp w w'':=a.trans ⟨b.size,fun _ _ _ h _ _ _=>h.step b⟩
theorem Kp.fz {g:Nat}{cs:Array Value}(a:Kp w w')(k:Blk w' g 92 cs)(b:Fz w'.heap.size g w' w''):Kp w w'':=a.trans ⟨b.size,fun i t cs h _ _ h3=>h.fz b fun e=>h3 (by
 subst e
 have h1:w'.heap[i]? =_:=h
 have h2:w'.heap[i]? =_:=k
 rw[h1] at h2
 injection h2 with h2
 injection h2)⟩
theorem Kp.put {g:Nat}{E:Prop}{T:TypeId}{cur cs:Array Value}(a:Kp w w')(k:Blk w' g T cur)(p:Put w' w'' g T cs)(_e:E)(hT:(T=25∨T=35∨T=92)∨w.heap.size≤g:=by first|exact .inl (by decide)|exact .inr (by omega)):Kp w w'':=by
 refine⟨Nat.le_trans a.size (Nat.le_of_eq p.size.symm),fun i t cs h h1 h2 h3=> ?_⟩
 rcases hT with hT|hg
 ·exact(a.keep i t cs h h1 h2 h3).put p ((a.keep i t cs h h1 h2 h3).ne k (by rcases hT with rfl|rfl|rfl<;>assumption))
 ·exact(a.keep i t cs h h1 h2 h3).put p (by have:=h.lt;omega)
theorem Kp.app {B n size:Nat}{e:TypeId}{v:Value}{xs:List Value}(a:Kp w w')(o:Own w' B e size v n xs)(ha:App w' w'' B v)(hT:e=25∨e=35:=by decide):Kp w w'':=
 a.trans ⟨ha.below.size,fun i t cs h h1 h2 _=>h.grown ha.grown (fun e'=>own_blk_ne o.row h (by rcases hT with rfl|rfl<;>exact fun e=>by first|exact h1 e.symm|exact h2 e.symm) e'.symm)⟩
end
theorem Kp.blk {w w':World}{k:Nat}{t:TypeId}{cs:Array Value}(a:Kp w w')(h:Blk w k t cs)(h1:t≠25:=by decide)(h2:t≠35:=by decide)(h3:t≠92:=by decide):Blk w' k t cs:=a.keep k t cs h h1 h2 h3
structure ArgQ (W:World)(h gt:Nat)(es:List Ex)(ts:List Tm)(evs tvs:List Value)(vE vT:Value)(S:Nat→Prop):Prop where
 lenE:evs.length=es.length
 lenT:tvs.length=ts.length
 ownE:Own W h 35 4 vE es.length (flatC evs)
 ownT:Own W h 25 4 vT ts.length (flatC tvs)
 repE:∀(i:Nat) (e:Ex) (v:Value),es[i]? =some e→evs[i]? =some v→RepE W S e v
 repT:∀(i:Nat) (t:Tm) (v:Value),ts[i]? =some t→tvs[i]? =some v→RepT W S t v
 away:∀b,S b→h≤b∧b<W.heap.size∧b≠gt∧vE.ownBlock≠some b∧vT.ownBlock≠some b
 neE:vE.ownBlock≠some gt
 neT:vT.ownBlock≠some gt
section
variable {W W':World} {h gt g:Nat} {es:List Ex} {ts:List Tm} {evs tvs:List Value} {vE vT:Value} {S:Nat→Prop}
theorem Own.keepRow {B n size:Nat}{e:TypeId}{v:Value}{xs:List Value}(o:Own W B e size v n xs)(hs:W.heap.size≤W'.heap.size)(hb:∀b,v.ownBlock=some b→W'.heap[b]? =W.heap[b]?):Own W' B e size v n xs:=by
 obtain⟨h1,⟨h2,h3⟩|⟨g,cap,cur,rfl,e2,e3,e4⟩⟩:=o.row
 ·exact⟨h1, .inl ⟨h2,h3⟩⟩
 ·exact⟨h1, .inr ⟨g,cap,cur,rfl,e2,(hb g rfl).trans e3,e4⟩⟩
theorem ArgQ.keep (a:ArgQ W h gt es ts evs tvs vE vT S)(hs:W.heap.size≤W'.heap.size)(hb:∀b,h≤b→b<W.heap.size→b≠gt→W'.heap[b]? =W.heap[b]?):ArgQ W' h gt es ts evs tvs vE vT S:=by
 have hS:∀p:Addr,S p.block→W'.cell? p=W.cell? p:=fun p hp=>by
  obtain⟨b1,b2,b3,-,-⟩:=a.away _ hp
  exact World.cell?_of_block (hb _ b1 b2 b3)
 refine⟨a.lenE,a.lenT,a.ownE.keepRow hs fun b e=> ?_,a.ownT.keepRow hs fun b e=> ?_,fun i e v h1 h2=>(a.repE i e v h1 h2).mono (fun _ h=>h) hS,fun i e v h1 h2=>(a.repT i e v h1 h2).mono (fun _ h=>h) hS,fun b hb=> ?_,a.neE,a.neT⟩
 ·obtain⟨h1,h2⟩:=a.ownE.blockLt b e
  exact hb b h1 h2 fun e'=>a.neE (by rw[e,e'])
 ·obtain⟨h1,h2⟩:=a.ownT.blockLt b e
  exact hb b h1 h2 fun e'=>a.neT (by rw[e,e'])
 ·obtain⟨b1,b2,b3,b4,b5⟩:=a.away b hb
  exact⟨b1,by omega,b3,b4,b5⟩
theorem ArgQ.fz (a:ArgQ W h gt es ts evs tvs vE vT S)(f:Fz W.heap.size g W W')(hg:g<h):ArgQ W' h gt es ts evs tvs vE vT S:=a.keep f.size fun b h1 h2 _=>f.block b h2 (by omega)
theorem ArgQ.step (a:ArgQ W h gt es ts evs tvs vE vT S)(f:Below W.heap.size W W'):ArgQ W' h gt es ts evs tvs vE vT S:=a.keep f.size fun b _ h2 _=>f.block b h2
theorem ArgQ.put {T:TypeId}{cur cs:Array Value}{B:Nat}(a:ArgQ W h gt es ts evs tvs vE vT S)(_k:Blk W gt T cur)(p:Put W W' gt T cs)(_e:B≤gt):ArgQ W' h gt es ts evs tvs vE vT S:=a.keep (Nat.le_of_eq p.size.symm) fun b _ h2 h3=>p.grown.block b h2 fun e=>h3 (by injection e)
end
theorem Own.setLast {w:World}{B s n:Nat}{e:TypeId}{v:Value}{xs ys:List Value}(o:Own w B e s v (n+1) (xs++ys))(hl:xs.length=n*s):∃g cap cur,v= .slice (some ⟨g,0,none⟩) (n+1) cap∧B≤g∧g<w.heap.size∧Blk w g e cur∧n*s+s≤cur.size∧
  ∀(w':World) (cs:Array Value),cs.size=s→Put w w' g e (cur.toList.take (n*s)++(cs.toList++cur.toList.drop (n*s+cs.size))).toArray→Own w' B e s v (n+1) (xs++cs.toList):=by
 obtain⟨h1,⟨-,h3⟩|⟨g,cap,cur,rfl,e2,e3,e4,e5,e6,e7⟩⟩:=o.row
 ·omega
 ·have hk:Blk w g e cur:=e3
  have hm:(n+1)*s≤cap*s:=Nat.mul_le_mul_right s e4
  have hns:(n+1)*s=n*s+s:=Nat.succ_mul n s
  refine⟨g,cap,cur,rfl,e2,hk.lt,hk,by omega,fun w' cs hcs p=>⟨?_, .inr ⟨g,cap,_,rfl,e2,p.blk,e4,e5,?_,?_⟩⟩⟩
  ·have:cs.toList.length=s:=by simpa using hcs
   rw[List.length_append,hl,this,hns]
  ·have h9:cur.toList.length=cap*s:=by simpa using e6
   have:cs.toList.length=s:=by simpa using hcs
   simp only[List.size_toArray,List.length_append,List.length_take,List.length_drop,this,h9,hcs]
   omega
  ·have h9:cur.toList.length=cap*s:=by simpa using e6
   have h10:cs.toList.length=s:=by simpa using hcs
   have htk:cur.toList.take (n*s)=xs:=by
    have:=congrArg (List.take (n*s)) e7
    rw[List.take_take,Nat.min_eq_left (by omega),←hl,List.take_left' rfl] at this
    rw[←hl]
    exact this
   rw[htk,←List.append_assoc,hns,List.take_left' (by rw[List.length_append,hl,h10])]
theorem Own.two {W:World}{B B' n m s s':Nat}{e e':TypeId}{v u:Value}{xs ys:List Value}(o:Own W B e s v n xs)(o':Own W B' e' s' u m ys)(hne:e≠e'):Two v u:=fun b h1 h2=>by
 obtain⟨-,⟨rfl,-⟩|⟨g,cap,cur,rfl,-,e3,-⟩⟩:=o.row
 ·cases h1
 obtain⟨-,⟨rfl,-⟩|⟨g',cap',cur',rfl,-,e3',-⟩⟩:=o'.row
 ·cases h2
 injection h1 with h1
 injection h2 with h2
 have h1:g=b:=h1
 have h2:g'=b:=h2
 subst h1
 subst h2
 rw[e3] at e3'
 injection e3' with e3'
 injection e3' with _ e3'
 exact hne e3'
theorem ArgQ.addE {W W':World}{h gt:Nat}{es:List Ex}{ts:List Tm}{evs tvs:List Value}{vE vT vE':Value}{S S':Nat→Prop}(a:ArgQ W h gt es ts evs tvs vE vT S){x:Ex}{v:Value}(hr:RepE W S' x v)(hS':∀b,S' b→h≤b∧b<W.heap.size∧b≠gt∧vE.ownBlock≠some b∧vT.ownBlock≠some b)
  (o:Own W' h 35 4 vE' (es.length+1) (flatC evs++v.cells.toList)) (hs:W.heap.size≤W'.heap.size) (hb:∀b,h≤b→b<W.heap.size→b≠gt→vE.ownBlock≠some b→W'.heap[b]? =W.heap[b]?) (hv':vE'.ownBlock=vE.ownBlock∨∃N,vE'.ownBlock=some N∧W.heap.size≤N) (hgt:gt<W.heap.size):
  ArgQ W' h gt (es++[x]) ts (evs++[v]) tvs vE' vT (fun b=>S b∨S' b):=by
 have htwo:Two vE vT:=a.ownE.two a.ownT (by decide)
 have hS:∀b,(S b∨S' b)→h≤b∧b<W.heap.size∧b≠gt∧vE.ownBlock≠some b∧vT.ownBlock≠some b:=fun b hb=>hb.elim (a.away b) (hS' b)
 have hc:∀p:Addr,(S p.block∨S' p.block)→W'.cell? p=W.cell? p:=fun p hp=>by
  obtain⟨b1,b2,b3,b4,-⟩:=hS _ hp
  exact World.cell?_of_block (hb _ b1 b2 b3 b4)
 have hneE:∀b,b<W.heap.size→vE.ownBlock≠some b→vE'.ownBlock≠some b:=fun b h1 h2 h3=>by
  rcases hv' with e|⟨N,e,hN⟩
  ·exact h2 (by rw[←e,h3])
  ·rw[e] at h3;injection h3 with h3;omega
 refine⟨by simp[a.lenE],a.lenT,?_,a.ownT.keepRow hs fun b e=> ?_,fun i e u h1 h2=> ?_,fun i t u h1 h2=>(a.repT i t u h1 h2).mono (fun _ h=> .inl h) (fun p hp=>hc p (.inl hp)),fun b hb'=> ?_,hneE gt hgt a.neE,a.neT⟩
 ·have hf:flatC (evs++[v])=flatC evs++v.cells.toList:=by rw[flatC_append];simp[flatC]
  rw[hf,List.length_append]
  exact o
 ·obtain⟨h1,h2⟩:=a.ownT.blockLt b e
  exact hb b h1 h2 (fun e'=>a.neT (by rw[e,e'])) (fun e'=>htwo b e' e)
 ·rcases Nat.lt_or_ge i es.length with hi|hi
  ·rw[List.getElem?_append_left hi] at h1
   rw[List.getElem?_append_left (by rw[a.lenE];exact hi)] at h2
   exact(a.repE i e u h1 h2).mono (fun _ h=> .inl h) (fun p hp=>hc p (.inl hp))
  ·rw[List.getElem?_append_right hi] at h1
   rw[List.getElem?_append_right (by rw[a.lenE];exact hi),a.lenE] at h2
   have h0:i-es.length=0:=by
    have:=(List.getElem?_eq_some_iff.1 h1).1
    simp at this
    exact this
   rw[h0] at h1 h2
   injection h1 with h1
   injection h2 with h2
   subst h1 h2
   exact hr.mono (fun _ h=> .inr h) (fun p hp=>hc p (.inr hp))
 ·obtain⟨b1,b2,b3,b4,b5⟩:=hS b hb'
  exact⟨b1,by omega,b3,hneE b b2 b4,b5⟩
theorem ArgQ.addT {W W':World}{h gt:Nat}{es:List Ex}{ts:List Tm}{evs tvs:List Value}{vE vT vT':Value}{S S':Nat→Prop}(a:ArgQ W h gt es ts evs tvs vE vT S){x:Tm}{v:Value}(hr:RepT W S' x v)(hS':∀b,S' b→h≤b∧b<W.heap.size∧b≠gt∧vE.ownBlock≠some b∧vT.ownBlock≠some b)
  (o:Own W' h 25 4 vT' (ts.length+1) (flatC tvs++v.cells.toList)) (hs:W.heap.size≤W'.heap.size) (hb:∀b,h≤b→b<W.heap.size→b≠gt→vT.ownBlock≠some b→W'.heap[b]? =W.heap[b]?) (hv':vT'.ownBlock=vT.ownBlock∨∃N,vT'.ownBlock=some N∧W.heap.size≤N) (hgt:gt<W.heap.size):
  ArgQ W' h gt es (ts++[x]) evs (tvs++[v]) vE vT' (fun b=>S b∨S' b):=by
 have htwo:Two vE vT:=a.ownE.two a.ownT (by decide)
 have hS:∀b,(S b∨S' b)→h≤b∧b<W.heap.size∧b≠gt∧vE.ownBlock≠some b∧vT.ownBlock≠some b:=fun b hb=>hb.elim (a.away b) (hS' b)
 have hc:∀p:Addr,(S p.block∨S' p.block)→W'.cell? p=W.cell? p:=fun p hp=>by
  obtain⟨b1,b2,b3,-,b4⟩:=hS _ hp
  exact World.cell?_of_block (hb _ b1 b2 b3 b4)
 have hneT:∀b,b<W.heap.size→vT.ownBlock≠some b→vT'.ownBlock≠some b:=fun b h1 h2 h3=>by
  rcases hv' with e|⟨N,e,hN⟩
  ·exact h2 (by rw[←e,h3])
  ·rw[e] at h3;injection h3 with h3;omega
 refine⟨a.lenE,by simp[a.lenT],a.ownE.keepRow hs fun b e=> ?_,?_,fun i e u h1 h2=>(a.repE i e u h1 h2).mono (fun _ h=> .inl h) (fun p hp=>hc p (.inl hp)),fun i t u h1 h2=> ?_,fun b hb'=> ?_,a.neE,hneT gt hgt a.neT⟩
 ·obtain⟨h1,h2⟩:=a.ownE.blockLt b e
  exact hb b h1 h2 (fun e'=>a.neE (by rw[e,e'])) (fun e'=>htwo b e e')
 ·have hf:flatC (tvs++[v])=flatC tvs++v.cells.toList:=by rw[flatC_append];simp[flatC]
  rw[hf,List.length_append]
  exact o
 ·rcases Nat.lt_or_ge i ts.length with hi|hi
  ·rw[List.getElem?_append_left hi] at h1
   rw[List.getElem?_append_left (by rw[a.lenT];exact hi)] at h2
   exact(a.repT i t u h1 h2).mono (fun _ h=> .inl h) (fun p hp=>hc p (.inl hp))
  ·rw[List.getElem?_append_right hi] at h1
   rw[List.getElem?_append_right (by rw[a.lenT];exact hi),a.lenT] at h2
   have h0:i-ts.length=0:=by
    have:=(List.getElem?_eq_some_iff.1 h1).1
    simp at this
    exact this
   rw[h0] at h1 h2
   injection h1 with h1
   injection h2 with h2
   subst h1 h2
   exact hr.mono (fun _ h=> .inr h) (fun p hp=>hc p (.inr hp))
 ·obtain⟨b1,b2,b3,b4,b5⟩:=hS b hb'
  exact⟨b1,by omega,b3,b4,hneT b b2 b5⟩
end Go.Proofs.YtaamkfajnpobfaaGreat
namespace Go.Proofs.YtaamkfajnpobfaaGreat
open Go.RowKit
def okE (W:World)(x:Ex)(v:Value)(W':World):Prop:=∃S:Nat→Prop,RepE W' S x v∧∀b,S b→W.heap.size≤b∧b<W'.heap.size
def okT (W:World)(x:Tm)(v:Value)(W':World):Prop:=∃S:Nat→Prop,RepT W' S x v∧∀b,S b→W.heap.size≤b∧b<W'.heap.size
structure XA {α:Type}(Rep:World→(Nat→Prop)→α→Value→Prop)(K:Ctx)(w1:World)(p d:Nat)(r:Rs α)(done made:Bool)(S':Nat→Prop)(v:Value)(g7:Nat)(zt:TypeId)(zc:Array Value)(w:World):Prop where
 fz:Fz w1.heap.size K.g w1 w
 pre:done=false→PW K w p d false
 post:done=true→∃x p',r= .ok x p'∧PW K w p' d false∧Rep w S' x v∧∀b,S' b→w1.heap.size≤b∧b<w.heap.size
 new:made=true→w1.heap.size≤g7∧Blk w g7 zt zc∧(done=true→¬S' g7)
theorem Blk.fzN {w w':World}{k g:Nat}{T T':TypeId}{cs cs':Array Value}{h:Nat}(b:Blk w k T cs)(q:Blk w g T' cs')(a:Fz h g w w')(hh:w.heap.size≤h)(hne:T≠T':=by decide):Blk w' k T cs:=b.fz (a.less hh) (b.ne q hne)
theorem RepT.ones {w:World}{S:Nat→Prop}{t:Tm}{v:Value}(h:RepT w S t v):v.cells.size=4∧∀u∈v.cells.toList,u.oneCell'=true:=by
 obtain⟨A,c,A',c',rfl⟩:=h.form
 refine⟨rfl,fun u hu=> ?_⟩
 simp[Value.cells] at hu
 rcases hu with rfl|rfl|rfl|rfl<;>rfl
theorem RepE.ones {w:World}{S:Nat→Prop}{t:Ex}{v:Value}(h:RepE w S t v):v.cells.size=4∧∀u∈v.cells.toList,u.oneCell'=true:=by
 obtain⟨A,c,rfl⟩:=h.form
 refine⟨rfl,fun u hu=> ?_⟩
 simp[Value.cells] at hu
 rcases hu with rfl|rfl|rfl|rfl<;>rfl
theorem zero_bool:zeroIs Tryz.prog 4=some (some (.bool false)):=by kernel_rfl
theorem ones_of:∀ {l:List Value},(∀u∈l,u.oneCell'=true)→ones l
 | [],_=>trivial
 |v::r,h=>⟨h v List.mem_cons_self,ones_of fun u hu=>h u (List.mem_cons_of_mem _ hu)⟩
theorem subC_any (K:Ctx)(hK:K.Ok)(h0 gt b0 b1 d p:Nat)(op:Int)(nm:List Nat)(es:List Ex)(ts:List Tm)(evs tvs:List Value)(vE vT:Value)(S0:Nat→Prop)(T:Nat→Nat→Rs Tm)(w:World)(pw:PW K w p d false)(hg0:K.g<h0)(hgt:h0≤gt)(hh:h0≤w.heap.size)
  (kt:Blk w gt 25 #[.int .i64 op, .string (strOf nm),vE,vT]) (kb0:Blk w b0 103 #[.pointer (some ⟨gt,0,none⟩)]) (kb1:Blk w b1 60 #[.pointer (some ⟨K.g,0,none⟩)]) (aq:ArgQ w h0 gt es ts evs tvs vE vT S0) (hl:ts.length≤10)
  (hc:∀W,PW K W p d false→Fz w.heap.size K.g w W→Calls Tryz.prog 24 #[.pointer (some ⟨K.g,0,none⟩)] W (PR K W d (T p d) (okT W))) (hne:T p d≠ .out):
  Calls Tryz.prog 102 #[.pointer (some ⟨b0,0,none⟩), .pointer (some ⟨b1,0,none⟩)] w (PRh K h0 w d (T p d) fun x _ W'=>Kp w W'∧∃evs tvs vE vT S,Blk W' gt 25 #[.int .i64 op, .string (strOf nm),vE,vT]∧ArgQ W' h0 gt es (ts++[x]) evs tvs vE vT S):=by
 have hle:=hK.le
 have hgg:K.g<w.heap.size:=pw.blk.lt
 have hgtl:gt<w.heap.size:=kt.lt
 obtain⟨AE,cE,rfl,-⟩:=aq.ownE.reads
 obtain⟨AT,cT,rfl,-⟩:=aq.ownT.reads
 refine Zs 27 Tryz.func102 ?_
 refine Cd.seq ?_
 refine Cd.drawG (σT:=Nat × Bool) 3 (by kernel_rfl) rfl rfl (fun σ=>[.pointer (some ⟨σ.1,0,none⟩),undef,undef]) (fun σ S W=>Below w.heap.size w W∧(S 0=true→w.heap.size≤σ.1∧Blk W σ.1 4 #[.bool σ.2])) ((0,false)) ?_ ?_ ?_
 ·intro w0 hb0 hs0
  exact⟨hb0,fun h=>by cases h⟩
 ·intro k o ho
  match k,ho with
  |0,ho=>
   injection ho with ho
   subst ho
   intro σ S w hS hpre hdc hX
   refine Zl zero_bool ?_
   intro g2 w' n2
   refine Seq.nil ?_
   exact Post.afterG (σ:=σ) (σ':=(g2,false)) rfl rfl rfl hpre rfl (fun j hj=>by cases j with|zero=>rw[hS] at hj;cases hj|succ j=>rfl) ⟨hX.1.trans (n2.below.mono hX.1.size),fun _=>⟨Nat.le_trans hX.1.size n2.ge,n2.blk⟩⟩
  |1,ho=>
   injection ho with ho
   subst ho
   intro σ S w hS hpre hdc hX
   have h2:=hX.2 (hpre 0 (memB_spec rfl))
   refine Zq h2.2 ?_
   intro w' pq
   refine Seq.nil ?_
   exact Post.afterG0 (σ:=σ) (σ':=(σ.1,true)) rfl rfl rfl (fun _ _=>rfl) ⟨pq.below_of hX.1 h2.1 h2.2.lt,fun _=>⟨h2.1,pq.blk⟩⟩
  |2,ho=>
   injection ho with ho
   subst ho
   intro σ S w hS hpre hdc hX
   have h2:=hX.2 (hpre 0 (memB_spec rfl))
   refine Zq h2.2 ?_
   intro w' pq
   refine Seq.nil ?_
   exact Post.afterG0 (σ:=σ) (σ':=(σ.1,false)) rfl rfl rfl (fun _ _=>rfl) ⟨pq.below_of hX.1 h2.1 h2.2.lt,fun _=>⟨h2.1,pq.blk⟩⟩
  |k+3,ho=>simp at ho
 rintro⟨g2,b2⟩ S w2 hS ⟨bel2,hX⟩
 obtain⟨e2,k2⟩:=hX (hS 0 (by decide))
 dsimp only at e2 k2
 have pw2:=pw.step hle bel2
 have kt2:=kt.step bel2
 have kb02:=kb0.step bel2
 have kb12:=kb1.step bel2
 have aq2:=aq.step bel2
 have hs2:=bel2.size
 have fz2:Fz w.heap.size K.g w w2:=Fz.of bel2
 have kp2:Kp w w2:=(Kp.refl w).step bel2
 have hh2:h0≤w2.heap.size:=by omega
 clear pw kt kb0 kb1 aq hX
 have hcall:∀W,PW K W p d false→Fz w2.heap.size K.g w2 W→Calls Tryz.prog 24 #[.pointer (some ⟨K.g,0,none⟩)] W (PR K W d (T p d) (okT W)):=fun W h1 h2=>hc W h1 (fz2.trans (h2.less hs2))
 refine Zv (Runs.loadB rfl rfl Tryz.underlying4 rfl k2 rfl) ?_
 refine Zk3 0 1 3 (Zt ?_)
 refine Cd.cond rfl (fun hcn=> ?_) (fun hcn=> ?_)
 ·skip
  refine Cd.seq ?_
  refine Cd.drawG (σT:=Value × (Nat→Prop) × Nat) 8 (by kernel_rfl) rfl rfl (fun σ=>[.pointer (some ⟨gt,0,none⟩), .pointer (some ⟨gt,0,none⟩), .pointer (some ⟨gt,3,none⟩), .slice AT ts.length cT, .pointer (some ⟨K.g,0,none⟩),σ.1, .int .i64 (ts.length:Int), .slice (some ⟨σ.2.2,0,none⟩) 1 1]) (fun σ S W=>XA RepT K w2 p d (T p d) (S 5) (S 7) σ.2.1 σ.1 σ.2.2 25 #[.int .i64 0, .string {data:= #[]}, .slice none 0 0, .slice none 0 0] W) ((undef,fun _=>False,0)) ?_ ?_ ?_
  ·intro w0 hb0 hs0
   exact⟨Fz.of hb0,fun _=>pw2.step hle hb0,fun h=>(by cases h),fun h=>(by cases h)⟩
  ·intro k o ho
   match k,ho with
   |0,ho=>
    injection ho with ho
    subst ho
    intro σ S w hS hpre hdc hX
    refine Seq.val (Runs.loadB (g:=b0) (i:=0) rfl rfl Tryz.underlying103 rfl (kb02.fzN pw2.blk hX.fz (Nat.le_refl _)) rfl) rfl rfl rfl (Seq.nil ?_)
    exact Post.afterG rfl rfl rfl hpre rfl (fun _ _=>rfl) hX
   |1,ho=>
    injection ho with ho
    subst ho
    intro σ S w hS hpre hdc hX
    refine Seq.val (Runs.nilCheck rfl rfl) rfl rfl rfl (Seq.nil ?_)
    exact Post.afterG rfl rfl rfl hpre rfl (fun _ _=>rfl) hX
   |2,ho=>
    injection ho with ho
    subst ho
    intro σ S w hS hpre hdc hX
    refine Seq.val (Runs.fieldA 3 rfl rfl Tryz.underlying25 rfl (by kernel_rfl)) rfl rfl rfl (Seq.nil ?_)
    exact Post.afterG rfl rfl rfl hpre rfl (fun _ _=>rfl) hX
   |3,ho=>
    injection ho with ho
    subst ho
    intro σ S w hS hpre hdc hX
    refine Seq.val (Runs.loadB (g:=gt) (i:=3) rfl rfl Tryz.underlying23 rfl (kt2.fz hX.fz (by omega)) rfl) rfl rfl rfl (Seq.nil ?_)
    exact Post.afterG rfl rfl rfl hpre rfl (fun _ _=>rfl) hX
   |4,ho=>
    injection ho with ho
    subst ho
    intro σ S w hS hpre hdc hX
    refine Seq.val (Runs.loadB (g:=b1) (i:=0) rfl rfl Tryz.underlying60 rfl (kb12.fzN pw2.blk hX.fz (Nat.le_refl _)) rfl) rfl rfl rfl (Seq.nil ?_)
    exact Post.afterG rfl rfl rfl hpre rfl (fun _ _=>rfl) hX
   |5,ho=>
    injection ho with ho
    subst ho
    intro σ S w hS hpre hdc hX
    have hcl:=hcall w (hX.pre hS) hX.fz
    rcases Rs.ok_or hne with ⟨q,ov,hr⟩|⟨x,q,hr⟩
    ·rw[hr] at hcl
     refine Seq.callB (Ze Tryz.func24) rfl hcl ?_
     rintro e w6 ⟨hf,rfl,d6,hp6⟩
     refine⟨_,rfl,fun a ha=>⟨ha.defers,?_⟩⟩
     rw[hr]
     exact⟨(fz2.trans ((hX.fz.call hf).less hs2)).less hh,rfl,d6,hp6⟩
    ·rw[hr] at hcl
     refine Zc (Ze Tryz.func24) hcl ?_
     rintro e w6 ⟨hf,v6,rfl,hp6,S6,hr6,hb6⟩
     refine⟨_,rfl,Seq.nil ?_⟩
     have hsz:=hX.fz.size
     refine Post.afterG (σ:=σ) (σ':=(v6,S6,σ.2.2)) rfl rfl rfl hpre rfl (fun j hj=> ?_) ⟨hX.fz.call hf,(fun h=>by cases h),fun _=>⟨x,q,hr,hp6,hr6,fun b hb=>⟨by have:=(hb6 b hb).1;omega,(hb6 b hb).2⟩⟩,fun hm=> ?_⟩
     ·match j,hj with
      |0,_=>rfl
      |1,_=>rfl
      |2,_=>rfl
      |3,_=>rfl
      |4,_=>rfl
      |5,hj=>rw[hS] at hj;cases hj
      |6,_=>rfl
      |7,_=>rfl
      |j+8,_=>rfl
     ·obtain⟨m1,m2,-⟩:=hX.new hm
      exact⟨m1,m2.fz hf (by omega),fun _ hb=>Nat.lt_irrefl _ (Nat.lt_of_lt_of_le m2.lt (hb6 _ hb).1)⟩
   |6,ho=>
    injection ho with ho
    subst ho
    intro σ S w hS hpre hdc hX
    refine Seq.val (Runs.len rfl rfl Tryz.underlying23) rfl rfl rfl (Seq.nil ?_)
    exact Post.afterG rfl rfl rfl hpre rfl (fun _ _=>rfl) hX
   |7,ho=>
    injection ho with ho
    subst ho
    intro σ S w hS hpre hdc hX
    refine Seq.slice (vs:=[.agg #[.int .i64 0, .string {data:= #[]}, .slice none 0 0, .slice none 0 0]]) (s:=4) rfl rfl rfl Tryz.underlying23 (by kernel_rfl) zero_api_Term (by omega) (by omega) ⟨rfl,trivial⟩ rfl rfl rfl ?_
    intro g7 w' n7
    refine Seq.nil ?_
    have hsz:=hX.fz.size
    refine Post.afterG (σ:=σ) (σ':=(σ.1,σ.2.1,g7)) rfl rfl rfl hpre rfl (fun j hj=> ?_) ⟨hX.fz.step n7.below,fun h=>(hX.pre h).step hle n7.below,fun h=> ?_,fun _=>⟨Nat.le_trans hsz n7.ge,n7.blk,fun h hb=> ?_⟩⟩
    ·match j,hj with
     |0,_=>rfl
     |1,_=>rfl
     |2,_=>rfl
     |3,_=>rfl
     |4,_=>rfl
     |5,_=>rfl
     |6,_=>rfl
     |7,hj=>rw[hS] at hj;cases hj
     |j+8,_=>rfl
    ·obtain⟨x,q,q1,q2,q3,q4⟩:=hX.post h
     exact⟨x,q,q1,q2.step hle n7.below,q3.mono (fun _ h=>h) (fun a ha=>n7.below.cell (q4 _ ha).2),fun b hb=>⟨(q4 b hb).1,Nat.lt_of_lt_of_le (q4 b hb).2 n7.below.size⟩⟩
    ·obtain⟨x,q,q1,q2,q3,q4⟩:=hX.post h
     exact Nat.lt_irrefl _ (Nat.lt_of_lt_of_le (q4 _ hb).2 n7.ge)
   |k+8,ho=>simp at ho
  ·rintro⟨v5,S5,g7⟩ S w3 hS hX
   obtain⟨x,q,hr,pw3,hrep,haway⟩:=hX.post (hS 5 (by decide))
   obtain⟨e7,k7,hn7⟩:=hX.new (hS 7 (by decide))
   dsimp only at hrep haway e7 k7
   have fz3:=hX.fz
   clear hX
   have hs3:=fz3.size
   have k90:=kt2.fz fz3 (by omega)
   have aq3:=aq2.fz fz3 hg0
   have kp3:Kp w w3:=kp2.fz pw2.blk fz3
   have e90:h0≤gt:=hgt
   have bel:Fz h0 K.g w w3:=(fz2.trans (fz3.less hs2)).less hh
   have hh3:h0≤w3.heap.size:=by omega
   have hown:=aq3.ownT
   have hones:=hrep.ones
   rw[hr]
   refine Seq.append2 rfl rfl rfl Tryz.underlying23 (by kernel_rfl) zero_api_Term rfl (by decide) (b:=72) (by kernel_rfl) hown (Reads.blk (size:=4) k7 1 rfl) (by intro z hz;simp at hz;rcases hz with rfl|rfl|rfl|rfl<;>rfl) hh3 (by simp only[maxLen];omega) (by omega) rfl rfl rfl ?_
   intro v' w4 hown' happ hv'
   obtain⟨AV,cV,hvV,-⟩:=hown'.reads
   subst hvV
   have k90':=k90.grown happ.grown (fun e=>aq3.neT e.symm)
   have pw4:PW K w4 q d false:=⟨pw3.blk.grown happ.grown (fun e=>by have:=hown.blockLt _ e.symm;omega),pw3.rd.below (happ.below.mono (by omega)),pw3.p_le,pw3.d_le⟩
   have kp4:=kp3.app hown happ
   have bel4:Fz h0 K.g w w4:=bel.trans (Fz.of happ.below)
   have hs4:=happ.below.size
   have hgrow:=happ.grown
   clear bel k90 kp3
   have bel:=bel4
   have k90:=k90'
   have kp:=kp4
   have pwk:=pw4.blk
   refine Zv (Runs.nilCheck rfl rfl) ?_
   refine Zf 3 Tryz.underlying25 ?_
   refine Zq k90 ?_
   intro w1 pw1
   replace bel:=bel.put k90 pw1 e90
   replace kp:=kp.put k90 pw1 e90
   replace k90:=pw1.blk
   refine Zk6 0 1 3 9 10 12 (Ztr ?_)
   have hb5:∀b,b<w3.heap.size→b≠gt→(Value.slice AT ts.length cT).ownBlock≠some b→w1.heap[b]? =w3.heap[b]? :=fun b h1 h2 h3=>(pw1.grown.block b (by omega) (fun e=>h2 (by injection e))).trans (hgrow.block b h1 (fun e=>h3 e.symm))
   have hvown:∀b,(Value.slice AV (ts.length+1) cV).ownBlock=some b→b≠gt:=fun b e1 e2=>by
    rcases hv' with e|e
    ·exact aq3.neT (by rw[←e,e1,e2])
    ·rw[e] at e1;injection e1 with e1;omega
   have hown5:Own w1 h0 25 4 (.slice AV (ts.length+1) cV) (ts.length+1) (flatC tvs++_):=hown'.keepRow (Nat.le_of_eq pw1.size.symm) fun b e=>pw1.grown.block b ((hown'.blockLt b e).2) (fun e'=>hvown b e (by injection e'))
   have hlv:(flatC tvs).length=ts.length*4:=hown.row.1
   obtain⟨gv,cap,cur,hvv,hgv,hgvl,kv,hfit,hset⟩:=hown5.setLast hlv
   have hgne:gv≠gt:=hvown gv (by rw[hvv];rfl)
   obtain⟨rfl,rfl⟩:AV=some ⟨gv,0,none⟩∧cV=cap:=by injection hvv with h1 _ h3;exact⟨h1,h3⟩
   have haddr:(⟨gv,0,none⟩:Addr).add (ts.length*4)=⟨gv,ts.length*4,none⟩:=by unfold Addr.add;split<;>simp_all
   refine Zv (Runs.indexN rfl rfl rfl Tryz.underlying23 (s:=4) (by kernel_rfl) (j:=ts.length) rfl (by omega)) ?_
   rw[haddr]
   refine Seq.storeN rfl rfl rfl rfl (m:=4) (by kernel_rfl) hones.1 (ones_of hones.2) kv (by rw[hones.1];exact hfit) rfl rfl ?_
   intro w6 p6
   have hown6:=hset w6 v5.cells hones.1 p6
   have kp6:Kp w w6:=kp.put kv p6 hgv
   have bel6:Fz h0 K.g w w6:=bel.put kv p6 hgv
   have k906:=k90.put p6 (fun e=>hgne e.symm)
   have pw6:PW K w6 q d false:=⟨(pwk.put pw1 (by omega)).put p6 (by omega),(pw4.rd.below (pw1.below (by omega) k90'.lt)).below (p6.below (by omega) hgvl),pw3.p_le,pw3.d_le⟩
   have hsl:=p6.size
   have hsl2:=pw1.size
   have aq6:=aq3.addT hrep (fun b hb=>⟨by have:=(haway b hb).1;omega,(haway b hb).2,by have:=(haway b hb).1;omega,fun e=>by have:=(aq2.ownE.blockLt b e).2;have:=(haway b hb).1;omega,fun e=>by have:=(aq2.ownT.blockLt b e).2;have:=(haway b hb).1;omega⟩) hown6 (by omega)
    (fun b _ h2 h3 h4=>(p6.grown.block b (by omega) (fun e=>by
     injection e with e
     rcases hv' with e'|e'
     ·exact h4 (by rw[←e',e];rfl)
     ·injection e' with e'
      have e':gv=w3.heap.size:=e'
      omega)).trans (hb5 b h2 h3 h4))
    (hv'.elim .inl fun e=> .inr ⟨_,e,Nat.le_refl _⟩) (by omega)
   refine Zk6 0 1 3 9 10 12 ?_
   refine Post.end0 rfl (.inr rfl) ?_
   exact⟨bel6,_,rfl,pw6,kp6,_,_,_,_,_,k906,aq6⟩
 ·skip
  refine Cd.drawG (σT:=Value × (Nat→Prop) × Nat × Value) 9 (by kernel_rfl) rfl rfl (fun σ=>[.pointer (some ⟨gt,0,none⟩), .pointer (some ⟨gt,0,none⟩), .pointer (some ⟨gt,0,none⟩), .pointer (some ⟨gt,3,none⟩), .slice AT ts.length cT, .pointer (some ⟨K.g,0,none⟩),σ.1, .slice (some ⟨σ.2.2.1,0,none⟩) 1 1,σ.2.2.2]) (fun σ S W=>(S 8=false→XA RepT K w2 p d (T p d) (S 6) (S 7) σ.2.1 σ.1 σ.2.2.1 25 σ.1.cells W)∧(S 8=true→∃x q,T p d= .ok x q∧Kp w2 W∧Fz h0 K.g w2 W∧PW K W q d false∧Blk W gt 25 #[.int .i64 op, .string (strOf nm), .slice AE es.length cE, .slice AT ts.length cT]∧∃S',ArgQ W h0 gt es (ts++[x]) evs (tvs++[σ.1]) (.slice AE es.length cE) σ.2.2.2 S')) ((undef,fun _=>False,0,undef)) ?_ ?_ ?_
  ·intro w0 hb0 hs0
   exact⟨fun _=>⟨Fz.of hb0,fun _=>pw2.step hle hb0,fun h=>(by cases h),fun h=>(by cases h)⟩,fun h=>(by cases h)⟩
  ·intro k o ho
   match k,ho with
   |0,ho=>
    injection ho with ho
    subst ho
    intro σ S w hS hpre hdc hX
    have hb:Blk w b0 103 #[.pointer (some ⟨gt,0,none⟩)]:=by
     cases h8:S 8 with
     |false=>exact kb02.fzN pw2.blk (hX.1 h8).fz (Nat.le_refl _)
     |true=>obtain⟨x,q,-,hkp,-⟩:=hX.2 h8;exact hkp.blk kb02
    refine Seq.val (Runs.loadB (g:=b0) (i:=0) rfl rfl Tryz.underlying103 rfl hb rfl) rfl rfl rfl (Seq.nil ?_)
    exact Post.afterG rfl rfl rfl hpre rfl (fun _ _=>rfl) hX
   |1,ho=>
    injection ho with ho
    subst ho
    intro σ S w hS hpre hdc hX
    have hb:Blk w b0 103 #[.pointer (some ⟨gt,0,none⟩)]:=by
     cases h8:S 8 with
     |false=>exact kb02.fzN pw2.blk (hX.1 h8).fz (Nat.le_refl _)
     |true=>obtain⟨x,q,-,hkp,-⟩:=hX.2 h8;exact hkp.blk kb02
    refine Seq.val (Runs.loadB (g:=b0) (i:=0) rfl rfl Tryz.underlying103 rfl hb rfl) rfl rfl rfl (Seq.nil ?_)
    exact Post.afterG rfl rfl rfl hpre rfl (fun _ _=>rfl) hX
   |2,ho=>
    injection ho with ho
    subst ho
    intro σ S w hS hpre hdc hX
    refine Seq.val (Runs.nilCheck rfl rfl) rfl rfl rfl (Seq.nil ?_)
    exact Post.afterG rfl rfl rfl hpre rfl (fun _ _=>rfl) hX
   |3,ho=>
    injection ho with ho
    subst ho
    intro σ S w hS hpre hdc hX
    refine Seq.val (Runs.fieldA 3 rfl rfl Tryz.underlying25 rfl (by kernel_rfl)) rfl rfl rfl (Seq.nil ?_)
    exact Post.afterG rfl rfl rfl hpre rfl (fun _ _=>rfl) hX
   |4,ho=>
    injection ho with ho
    subst ho
    intro σ S w hS hpre hdc hX
    have h8:S 8=false:=by
     cases h8:S 8 with
     |false=>rfl
     |true=>have:=hdc 8 _ rfl h8 4 (memB_spec rfl);rw[hS] at this;cases this
    refine Seq.val (Runs.loadB (g:=gt) (i:=3) rfl rfl Tryz.underlying23 rfl (kt2.fz (hX.1 h8).fz (by omega)) rfl) rfl rfl rfl (Seq.nil ?_)
    exact Post.afterG rfl rfl rfl hpre rfl (fun _ _=>rfl) hX
   |5,ho=>
    injection ho with ho
    subst ho
    intro σ S w hS hpre hdc hX
    have hb:Blk w b1 60 #[.pointer (some ⟨K.g,0,none⟩)]:=by
     cases h8:S 8 with
     |false=>exact kb12.fzN pw2.blk (hX.1 h8).fz (Nat.le_refl _)
     |true=>obtain⟨x,q,-,hkp,-⟩:=hX.2 h8;exact hkp.blk kb12
    refine Seq.val (Runs.loadB (g:=b1) (i:=0) rfl rfl Tryz.underlying60 rfl hb rfl) rfl rfl rfl (Seq.nil ?_)
    exact Post.afterG rfl rfl rfl hpre rfl (fun _ _=>rfl) hX
   |6,ho=>
    injection ho with ho
    subst ho
    intro σ S w hS hpre hdc hX
    have h8:S 8=false:=by
     cases h8:S 8 with
     |false=>rfl
     |true=>have:=hdc 8 _ rfl h8 6 (memB_spec rfl);rw[hS] at this;cases this
    have h7:S 7=false:=by
     cases h7:S 7 with
     |false=>rfl
     |true=>have:=hdc 7 _ rfl h7 6 (memB_spec rfl);rw[hS] at this;cases this
    have hXa:=hX.1 h8
    have hcl:=hcall w (hXa.pre hS) hXa.fz
    rcases Rs.ok_or hne with ⟨q,ov,hr⟩|⟨x,q,hr⟩
    ·rw[hr] at hcl
     refine Seq.callB (Ze Tryz.func24) rfl hcl ?_
     rintro e w6 ⟨hf,rfl,d6,hp6⟩
     refine⟨_,rfl,fun a ha=>⟨ha.defers,?_⟩⟩
     rw[hr]
     exact⟨(fz2.trans ((hXa.fz.call hf).less hs2)).less hh,rfl,d6,hp6⟩
    ·rw[hr] at hcl
     refine Zc (Ze Tryz.func24) hcl ?_
     rintro e w6 ⟨hf,v6,rfl,hp6,S6,hr6,hb6⟩
     refine⟨_,rfl,Seq.nil ?_⟩
     have hsz:=hXa.fz.size
     refine Post.afterG (σ:=σ) (σ':=(v6,S6,σ.2.2.1,σ.2.2.2)) rfl rfl rfl hpre rfl (fun j hj=> ?_) ⟨fun _=>⟨hXa.fz.call hf,(fun h=>by cases h),fun _=>⟨x,q,hr,hp6,hr6,fun b hb=>⟨by have:=(hb6 b hb).1;omega,(hb6 b hb).2⟩⟩,fun hm=> ?_⟩,fun hm=> ?_⟩
     ·match j,hj with
      |0,_=>rfl
      |1,_=>rfl
      |2,_=>rfl
      |3,_=>rfl
      |4,_=>rfl
      |5,_=>rfl
      |6,hj=>rw[hS] at hj;cases hj
      |7,hj=>rw[h7] at hj;cases hj
      |8,_=>rfl
      |j+9,_=>rfl
     ·have hm:S 7=true:=hm
      rw[h7] at hm;cases hm
     ·have hm:S 8=true:=hm
      rw[h8] at hm;cases hm
   |7,ho=>
    injection ho with ho
    subst ho
    intro σ S w hS hpre hdc hX
    have h8:S 8=false:=by
     cases h8:S 8 with
     |false=>rfl
     |true=>have:=hdc 8 _ rfl h8 7 (memB_spec rfl);rw[hS] at this;cases this
    have hXa:=hX.1 h8
    obtain⟨x,q,q1,q2,q3,q4⟩:=hXa.post (hpre 6 (memB_spec rfl))
    have hones:=q3.ones
    refine Seq.slice (vs:=[σ.1]) (s:=4) rfl rfl rfl Tryz.underlying23 (by kernel_rfl) zero_api_Term (by omega) (by omega) ⟨hones.1,trivial⟩ rfl rfl rfl ?_
    intro g7 w' n7
    refine Seq.nil ?_
    have hsz:=hXa.fz.size
    have hcells:(flatC [σ.1]).toArray=σ.1.cells:=by simp[flatC]
    have n7b:=n7.blk
    rw[hcells] at n7b
    refine Post.afterG (σ:=σ) (σ':=(σ.1,σ.2.1,g7,σ.2.2.2)) rfl rfl rfl hpre rfl (fun j hj=> ?_) ⟨fun _=>⟨hXa.fz.step n7.below,fun h=>(hXa.pre h).step hle n7.below,fun h=> ?_,fun _=>⟨Nat.le_trans hsz n7.ge,n7b,fun h hb=> ?_⟩⟩,fun hm=> ?_⟩
    ·match j,hj with
     |0,_=>rfl
     |1,_=>rfl
     |2,_=>rfl
     |3,_=>rfl
     |4,_=>rfl
     |5,_=>rfl
     |6,_=>rfl
     |7,hj=>rw[hS] at hj;cases hj
     |8,_=>rfl
     |j+9,_=>rfl
    ·exact⟨x,q,q1,q2.step hle n7.below,q3.mono (fun _ h=>h) (fun a ha=>n7.below.cell (q4 _ ha).2),fun b hb=>⟨(q4 b hb).1,Nat.lt_of_lt_of_le (q4 b hb).2 n7.below.size⟩⟩
    ·exact Nat.lt_irrefl _ (Nat.lt_of_lt_of_le (q4 _ hb).2 n7.ge)
    ·have hm:S 8=true:=hm
     rw[h8] at hm;cases hm
   |8,ho=>
    injection ho with ho
    subst ho
    intro σ S w hS hpre hdc hX
    have hXa:=hX.1 hS
    obtain⟨x,q,hr,pw3,hrep,haway⟩:=hXa.post (hpre 6 (memB_spec rfl))
    obtain⟨e7,k7,hn7⟩:=hXa.new (hpre 7 (memB_spec rfl))
    have hones:=hrep.ones
    have hsz:=hXa.fz.size
    have aq3:=aq2.fz hXa.fz hg0
    have hown:=aq3.ownT
    have k90:=kt2.fz hXa.fz (by omega)
    refine Seq.append2 rfl rfl rfl Tryz.underlying23 (by kernel_rfl) zero_api_Term rfl (by decide) (b:=72) (by kernel_rfl) hown (Reads.blk (size:=4) k7 1 hones.1) hones.2 (by omega) (by simp only[maxLen];omega) (by omega) rfl rfl rfl ?_
    intro v' w4 hown' happ hv'
    refine Seq.nil ?_
    have hs4:=happ.below.size
    have aq6:=aq3.addT hrep (fun b hb=>⟨by have:=(haway b hb).1;omega,(haway b hb).2,by have:=(haway b hb).1;omega,fun e=>by have:=(aq2.ownE.blockLt b e).2;have:=(haway b hb).1;omega,fun e=>by have:=(aq2.ownT.blockLt b e).2;have:=(haway b hb).1;omega⟩) hown' hs4
     (fun b _ h2 h3 h4=>happ.grown.block b h2 (fun e=>h4 e.symm)) (hv'.elim .inl fun e=> .inr ⟨_,e,Nat.le_refl _⟩) (by omega)
    refine Post.afterG (σ:=σ) (σ':=(σ.1,σ.2.1,σ.2.2.1,v')) rfl rfl rfl hpre rfl (fun j hj=> ?_) ⟨(fun h=>by cases h),fun _=>⟨x,q,hr,((Kp.refl w2).fz pw2.blk hXa.fz).app hown happ,(hXa.fz.less hh2).trans (Fz.of happ.below),⟨pw3.blk.grown happ.grown (fun e=>by have:=hown.blockLt _ e.symm;omega),pw3.rd.below (happ.below.mono (by omega)),pw3.p_le,pw3.d_le⟩,k90.grown happ.grown (fun e=>aq3.neT e.symm),_,aq6⟩⟩
    match j,hj with
    |0,_=>rfl
    |1,_=>rfl
    |2,_=>rfl
    |3,_=>rfl
    |4,_=>rfl
    |5,_=>rfl
    |6,_=>rfl
    |7,_=>rfl
    |8,hj=>rw[hS] at hj;cases hj
    |j+9,_=>rfl
   |k+9,ho=>simp at ho
  ·rintro⟨v6,S6,g7,v8⟩ S w3 hS hX
   obtain⟨x,q,hr,kp3,fz3,pw3,k90,S',aq3⟩:=hX.2 (hS 8 (by decide))
   clear hX
   dsimp only at aq3
   have hs3:=fz3.size
   have e90:h0≤gt:=hgt
   have bel:Fz h0 K.g w w3:=(fz2.less hh).trans fz3
   have kp:=kp2.trans kp3
   have pwk:=pw3.blk
   have hlt3:=k90.lt
   rw[hr]
   obtain⟨AX,cX,hvX,-⟩:=aq3.ownT.reads
   subst hvX
   refine Zv (Runs.nilCheck rfl rfl) ?_
   refine Zf 3 Tryz.underlying25 ?_
   refine Zq k90 ?_
   intro w1 pw1
   replace bel:=bel.put k90 pw1 e90
   replace kp:=kp.put k90 pw1 e90
   replace aq3:=aq3.put k90 pw1 e90
   replace k90:=pw1.blk
   refine Zk3 0 1 3 ?_
   have pw5:PW K w1 q d false:=⟨pwk.put pw1 (by omega),pw3.rd.below (pw1.below (by omega) hlt3),pw3.p_le,pw3.d_le⟩
   refine Post.end0 rfl (.inr rfl) ?_
   exact⟨bel,_,rfl,pw5,kp,_,_,_,_,_,k90,aq3⟩
theorem condC_any (K:Ctx)(hK:K.Ok)(h0 gt b0 b1 d p:Nat)(op:Int)(nm:List Nat)(es:List Ex)(ts:List Tm)(evs tvs:List Value)(vE vT:Value)(S0:Nat→Prop)(T:Nat→Nat→Rs Ex)(w:World)(pw:PW K w p d false)(hg0:K.g<h0)(hgt:h0≤gt)(hh:h0≤w.heap.size)
  (kt:Blk w gt 25 #[.int .i64 op, .string (strOf nm),vE,vT]) (kb0:Blk w b0 103 #[.pointer (some ⟨gt,0,none⟩)]) (kb1:Blk w b1 60 #[.pointer (some ⟨K.g,0,none⟩)]) (aq:ArgQ w h0 gt es ts evs tvs vE vT S0) (hl:es.length≤10)
  (hc:∀W,PW K W p d false→Fz w.heap.size K.g w W→Calls Tryz.prog 31 #[.pointer (some ⟨K.g,0,none⟩), .int .i64 0] W (PR K W d (T p d) (okE W))) (hne:T p d≠ .out):
  Calls Tryz.prog 101 #[.pointer (some ⟨b0,0,none⟩), .pointer (some ⟨b1,0,none⟩)] w (PRh K h0 w d (T p d) fun x _ W'=>Kp w W'∧∃evs tvs vE vT S,Blk W' gt 25 #[.int .i64 op, .string (strOf nm),vE,vT]∧ArgQ W' h0 gt (es++[x]) ts evs tvs vE vT S):=by
 have hle:=hK.le
 have hgg:K.g<w.heap.size:=pw.blk.lt
 have hgtl:gt<w.heap.size:=kt.lt
 obtain⟨AE,cE,rfl,-⟩:=aq.ownE.reads
 obtain⟨AT,cT,rfl,-⟩:=aq.ownT.reads
 refine Zs 27 Tryz.func101 ?_
 refine Cd.seq ?_
 refine Cd.drawG (σT:=Nat × Bool) 3 (by kernel_rfl) rfl rfl (fun σ=>[.pointer (some ⟨σ.1,0,none⟩),undef,undef]) (fun σ S W=>Below w.heap.size w W∧(S 0=true→w.heap.size≤σ.1∧Blk W σ.1 4 #[.bool σ.2])) ((0,false)) ?_ ?_ ?_
 ·intro w0 hb0 hs0
  exact⟨hb0,fun h=>by cases h⟩
 ·intro k o ho
  match k,ho with
  |0,ho=>
   injection ho with ho
   subst ho
   intro σ S w hS hpre hdc hX
   refine Zl zero_bool ?_
   intro g2 w' n2
   refine Seq.nil ?_
   exact Post.afterG (σ:=σ) (σ':=(g2,false)) rfl rfl rfl hpre rfl (fun j hj=>by cases j with|zero=>rw[hS] at hj;cases hj|succ j=>rfl) ⟨hX.1.trans (n2.below.mono hX.1.size),fun _=>⟨Nat.le_trans hX.1.size n2.ge,n2.blk⟩⟩
  |1,ho=>
   injection ho with ho
   subst ho
   intro σ S w hS hpre hdc hX
   have h2:=hX.2 (hpre 0 (memB_spec rfl))
   refine Zq h2.2 ?_
   intro w' pq
   refine Seq.nil ?_
   exact Post.afterG0 (σ:=σ) (σ':=(σ.1,true)) rfl rfl rfl (fun _ _=>rfl) ⟨pq.below_of hX.1 h2.1 h2.2.lt,fun _=>⟨h2.1,pq.blk⟩⟩
  |2,ho=>
   injection ho with ho
   subst ho
   intro σ S w hS hpre hdc hX
   have h2:=hX.2 (hpre 0 (memB_spec rfl))
   refine Zq h2.2 ?_
   intro w' pq
   refine Seq.nil ?_
   exact Post.afterG0 (σ:=σ) (σ':=(σ.1,false)) rfl rfl rfl (fun _ _=>rfl) ⟨pq.below_of hX.1 h2.1 h2.2.lt,fun _=>⟨h2.1,pq.blk⟩⟩
  |k+3,ho=>simp at ho
 rintro⟨g2,b2⟩ S w2 hS ⟨bel2,hX⟩
 obtain⟨e2,k2⟩:=hX (hS 0 (by decide))
 dsimp only at e2 k2
 have pw2:=pw.step hle bel2
 have kt2:=kt.step bel2
 have kb02:=kb0.step bel2
 have kb12:=kb1.step bel2
 have aq2:=aq.step bel2
 have hs2:=bel2.size
 have fz2:Fz w.heap.size K.g w w2:=Fz.of bel2
 have kp2:Kp w w2:=(Kp.refl w).step bel2
 have hh2:h0≤w2.heap.size:=by omega
 clear pw kt kb0 kb1 aq hX
 have hcall:∀W,PW K W p d false→Fz w2.heap.size K.g w2 W→Calls Tryz.prog 31 #[.pointer (some ⟨K.g,0,none⟩), .int .i64 0] W (PR K W d (T p d) (okE W)):=fun W h1 h2=>hc W h1 (fz2.trans (h2.less hs2))
 refine Zv (Runs.loadB rfl rfl Tryz.underlying4 rfl k2 rfl) ?_
 refine Zk3 0 1 3 (Zt ?_)
 refine Cd.cond rfl (fun hcn=> ?_) (fun hcn=> ?_)
 ·skip
  refine Cd.seq ?_
  refine Cd.drawG (σT:=Value × (Nat→Prop) × Nat) 8 (by kernel_rfl) rfl rfl (fun σ=>[.pointer (some ⟨gt,0,none⟩), .pointer (some ⟨gt,0,none⟩), .pointer (some ⟨gt,2,none⟩), .slice AE es.length cE, .pointer (some ⟨K.g,0,none⟩),σ.1, .int .i64 (es.length:Int), .slice (some ⟨σ.2.2,0,none⟩) 1 1]) (fun σ S W=>XA RepE K w2 p d (T p d) (S 5) (S 7) σ.2.1 σ.1 σ.2.2 35 #[.int .i64 0, .int .i64 0, .string {data:= #[]}, .slice none 0 0] W) ((undef,fun _=>False,0)) ?_ ?_ ?_
  ·intro w0 hb0 hs0
   exact⟨Fz.of hb0,fun _=>pw2.step hle hb0,fun h=>(by cases h),fun h=>(by cases h)⟩
  ·intro k o ho
   match k,ho with
   |0,ho=>
    injection ho with ho
    subst ho
    intro σ S w hS hpre hdc hX
    refine Seq.val (Runs.loadB (g:=b0) (i:=0) rfl rfl Tryz.underlying103 rfl (kb02.fzN pw2.blk hX.fz (Nat.le_refl _)) rfl) rfl rfl rfl (Seq.nil ?_)
    exact Post.afterG rfl rfl rfl hpre rfl (fun _ _=>rfl) hX
   |1,ho=>
    injection ho with ho
    subst ho
    intro σ S w hS hpre hdc hX
    refine Seq.val (Runs.nilCheck rfl rfl) rfl rfl rfl (Seq.nil ?_)
    exact Post.afterG rfl rfl rfl hpre rfl (fun _ _=>rfl) hX
   |2,ho=>
    injection ho with ho
    subst ho
    intro σ S w hS hpre hdc hX
    refine Seq.val (Runs.fieldA 2 rfl rfl Tryz.underlying25 rfl (by kernel_rfl)) rfl rfl rfl (Seq.nil ?_)
    exact Post.afterG rfl rfl rfl hpre rfl (fun _ _=>rfl) hX
   |3,ho=>
    injection ho with ho
    subst ho
    intro σ S w hS hpre hdc hX
    refine Seq.val (Runs.loadB (g:=gt) (i:=2) rfl rfl Tryz.underlying22 rfl (kt2.fz hX.fz (by omega)) rfl) rfl rfl rfl (Seq.nil ?_)
    exact Post.afterG rfl rfl rfl hpre rfl (fun _ _=>rfl) hX
   |4,ho=>
    injection ho with ho
    subst ho
    intro σ S w hS hpre hdc hX
    refine Seq.val (Runs.loadB (g:=b1) (i:=0) rfl rfl Tryz.underlying60 rfl (kb12.fzN pw2.blk hX.fz (Nat.le_refl _)) rfl) rfl rfl rfl (Seq.nil ?_)
    exact Post.afterG rfl rfl rfl hpre rfl (fun _ _=>rfl) hX
   |5,ho=>
    injection ho with ho
    subst ho
    intro σ S w hS hpre hdc hX
    have hcl:=hcall w (hX.pre hS) hX.fz
    rcases Rs.ok_or hne with ⟨q,ov,hr⟩|⟨x,q,hr⟩
    ·rw[hr] at hcl
     refine Seq.callB (Ze Tryz.func31) rfl hcl ?_
     rintro e w6 ⟨hf,rfl,d6,hp6⟩
     refine⟨_,rfl,fun a ha=>⟨ha.defers,?_⟩⟩
     rw[hr]
     exact⟨(fz2.trans ((hX.fz.call hf).less hs2)).less hh,rfl,d6,hp6⟩
    ·rw[hr] at hcl
     refine Zc (Ze Tryz.func31) hcl ?_
     rintro e w6 ⟨hf,v6,rfl,hp6,S6,hr6,hb6⟩
     refine⟨_,rfl,Seq.nil ?_⟩
     have hsz:=hX.fz.size
     refine Post.afterG (σ:=σ) (σ':=(v6,S6,σ.2.2)) rfl rfl rfl hpre rfl (fun j hj=> ?_) ⟨hX.fz.call hf,(fun h=>by cases h),fun _=>⟨x,q,hr,hp6,hr6,fun b hb=>⟨by have:=(hb6 b hb).1;omega,(hb6 b hb).2⟩⟩,fun hm=> ?_⟩
     ·match j,hj with
      |0,_=>rfl
      |1,_=>rfl
      |2,_=>rfl
      |3,_=>rfl
      |4,_=>rfl
      |5,hj=>rw[hS] at hj;cases hj
      |6,_=>rfl
      |7,_=>rfl
      |j+8,_=>rfl
     ·obtain⟨m1,m2,-⟩:=hX.new hm
      exact⟨m1,m2.fz hf (by omega),fun _ hb=>Nat.lt_irrefl _ (Nat.lt_of_lt_of_le m2.lt (hb6 _ hb).1)⟩
   |6,ho=>
    injection ho with ho
    subst ho
    intro σ S w hS hpre hdc hX
    refine Seq.val (Runs.len rfl rfl Tryz.underlying22) rfl rfl rfl (Seq.nil ?_)
    exact Post.afterG rfl rfl rfl hpre rfl (fun _ _=>rfl) hX
   |7,ho=>
    injection ho with ho
    subst ho
    intro σ S w hS hpre hdc hX
    refine Seq.slice (vs:=[.agg #[.int .i64 0, .int .i64 0, .string {data:= #[]}, .slice none 0 0]]) (s:=4) rfl rfl rfl Tryz.underlying22 (by kernel_rfl) zero_api_Expr (by omega) (by omega) ⟨rfl,trivial⟩ rfl rfl rfl ?_
    intro g7 w' n7
    refine Seq.nil ?_
    have hsz:=hX.fz.size
    refine Post.afterG (σ:=σ) (σ':=(σ.1,σ.2.1,g7)) rfl rfl rfl hpre rfl (fun j hj=> ?_) ⟨hX.fz.step n7.below,fun h=>(hX.pre h).step hle n7.below,fun h=> ?_,fun _=>⟨Nat.le_trans hsz n7.ge,n7.blk,fun h hb=> ?_⟩⟩
    ·match j,hj with
     |0,_=>rfl
     |1,_=>rfl
     |2,_=>rfl
     |3,_=>rfl
     |4,_=>rfl
     |5,_=>rfl
     |6,_=>rfl
     |7,hj=>rw[hS] at hj;cases hj
     |j+8,_=>rfl
    ·obtain⟨x,q,q1,q2,q3,q4⟩:=hX.post h
     exact⟨x,q,q1,q2.step hle n7.below,q3.mono (fun _ h=>h) (fun a ha=>n7.below.cell (q4 _ ha).2),fun b hb=>⟨(q4 b hb).1,Nat.lt_of_lt_of_le (q4 b hb).2 n7.below.size⟩⟩
    ·obtain⟨x,q,q1,q2,q3,q4⟩:=hX.post h
     exact Nat.lt_irrefl _ (Nat.lt_of_lt_of_le (q4 _ hb).2 n7.ge)
   |k+8,ho=>simp at ho
  ·rintro⟨v5,S5,g7⟩ S w3 hS hX
   obtain⟨x,q,hr,pw3,hrep,haway⟩:=hX.post (hS 5 (by decide))
   obtain⟨e7,k7,hn7⟩:=hX.new (hS 7 (by decide))
   dsimp only at hrep haway e7 k7
   have fz3:=hX.fz
   clear hX
   have hs3:=fz3.size
   have k90:=kt2.fz fz3 (by omega)
   have aq3:=aq2.fz fz3 hg0
   have kp3:Kp w w3:=kp2.fz pw2.blk fz3
   have e90:h0≤gt:=hgt
   have bel:Fz h0 K.g w w3:=(fz2.trans (fz3.less hs2)).less hh
   have hh3:h0≤w3.heap.size:=by omega
   have hown:=aq3.ownE
   have hones:=hrep.ones
   rw[hr]
   refine Seq.append2 rfl rfl rfl Tryz.underlying22 (by kernel_rfl) zero_api_Expr rfl (by decide) (b:=56) (by kernel_rfl) hown (Reads.blk (size:=4) k7 1 rfl) (by intro z hz;simp at hz;rcases hz with rfl|rfl|rfl|rfl<;>rfl) hh3 (by simp only[maxLen];omega) (by omega) rfl rfl rfl ?_
   intro v' w4 hown' happ hv'
   obtain⟨AV,cV,hvV,-⟩:=hown'.reads
   subst hvV
   have k90':=k90.grown happ.grown (fun e=>aq3.neE e.symm)
   have pw4:PW K w4 q d false:=⟨pw3.blk.grown happ.grown (fun e=>by have:=hown.blockLt _ e.symm;omega),pw3.rd.below (happ.below.mono (by omega)),pw3.p_le,pw3.d_le⟩
   have kp4:=kp3.app hown happ
   have bel4:Fz h0 K.g w w4:=bel.trans (Fz.of happ.below)
   have hs4:=happ.below.size
   have hgrow:=happ.grown
   clear bel k90 kp3
   have bel:=bel4
   have k90:=k90'
   have kp:=kp4
   have pwk:=pw4.blk
   refine Zv (Runs.nilCheck rfl rfl) ?_
   refine Zf 2 Tryz.underlying25 ?_
   refine Zq k90 ?_
   intro w1 pw1
   replace bel:=bel.put k90 pw1 e90
   replace kp:=kp.put k90 pw1 e90
   replace k90:=pw1.blk
   refine Zk6 0 1 3 9 10 12 (Ztr ?_)
   have hb5:∀b,b<w3.heap.size→b≠gt→(Value.slice AE es.length cE).ownBlock≠some b→w1.heap[b]? =w3.heap[b]? :=fun b h1 h2 h3=>(pw1.grown.block b (by omega) (fun e=>h2 (by injection e))).trans (hgrow.block b h1 (fun e=>h3 e.symm))
   have hvown:∀b,(Value.slice AV (es.length+1) cV).ownBlock=some b→b≠gt:=fun b e1 e2=>by
    rcases hv' with e|e
    ·exact aq3.neE (by rw[←e,e1,e2])
    ·rw[e] at e1;injection e1 with e1;omega
   have hown5:Own w1 h0 35 4 (.slice AV (es.length+1) cV) (es.length+1) (flatC evs++_):=hown'.keepRow (Nat.le_of_eq pw1.size.symm) fun b e=>pw1.grown.block b ((hown'.blockLt b e).2) (fun e'=>hvown b e (by injection e'))
   have hlv:(flatC evs).length=es.length*4:=hown.row.1
   obtain⟨gv,cap,cur,hvv,hgv,hgvl,kv,hfit,hset⟩:=hown5.setLast hlv
   have hgne:gv≠gt:=hvown gv (by rw[hvv];rfl)
   obtain⟨rfl,rfl⟩:AV=some ⟨gv,0,none⟩∧cV=cap:=by injection hvv with h1 _ h3;exact⟨h1,h3⟩
   have haddr:(⟨gv,0,none⟩:Addr).add (es.length*4)=⟨gv,es.length*4,none⟩:=by unfold Addr.add;split<;>simp_all
   refine Zv (Runs.indexN rfl rfl rfl Tryz.underlying22 (s:=4) (by kernel_rfl) (j:=es.length) rfl (by omega)) ?_
   rw[haddr]
   refine Seq.storeN rfl rfl rfl rfl (m:=4) (by kernel_rfl) hones.1 (ones_of hones.2) kv (by rw[hones.1];exact hfit) rfl rfl ?_
   intro w6 p6
   have hown6:=hset w6 v5.cells hones.1 p6
   have kp6:Kp w w6:=kp.put kv p6 hgv
   have bel6:Fz h0 K.g w w6:=bel.put kv p6 hgv
   have k906:=k90.put p6 (fun e=>hgne e.symm)
   have pw6:PW K w6 q d false:=⟨(pwk.put pw1 (by omega)).put p6 (by omega),(pw4.rd.below (pw1.below (by omega) k90'.lt)).below (p6.below (by omega) hgvl),pw3.p_le,pw3.d_le⟩
   have hsl:=p6.size
   have hsl2:=pw1.size
   have aq6:=aq3.addE hrep (fun b hb=>⟨by have:=(haway b hb).1;omega,(haway b hb).2,by have:=(haway b hb).1;omega,fun e=>by have:=(aq2.ownE.blockLt b e).2;have:=(haway b hb).1;omega,fun e=>by have:=(aq2.ownT.blockLt b e).2;have:=(haway b hb).1;omega⟩) hown6 (by omega)
    (fun b _ h2 h3 h4=>(p6.grown.block b (by omega) (fun e=>by
     injection e with e
     rcases hv' with e'|e'
     ·exact h4 (by rw[←e',e];rfl)
     ·injection e' with e'
      have e':gv=w3.heap.size:=e'
      omega)).trans (hb5 b h2 h3 h4))
    (hv'.elim .inl fun e=> .inr ⟨_,e,Nat.le_refl _⟩) (by omega)
   refine Zk6 0 1 3 9 10 12 ?_
   refine Post.end0 rfl (.inr rfl) ?_
   exact⟨bel6,_,rfl,pw6,kp6,_,_,_,_,_,k906,aq6⟩
 ·skip
  refine Cd.drawG (σT:=Value × (Nat→Prop) × Nat × Value) 9 (by kernel_rfl) rfl rfl (fun σ=>[.pointer (some ⟨gt,0,none⟩), .pointer (some ⟨gt,0,none⟩), .pointer (some ⟨gt,0,none⟩), .pointer (some ⟨gt,2,none⟩), .slice AE es.length cE, .pointer (some ⟨K.g,0,none⟩),σ.1, .slice (some ⟨σ.2.2.1,0,none⟩) 1 1,σ.2.2.2]) (fun σ S W=>(S 8=false→XA RepE K w2 p d (T p d) (S 6) (S 7) σ.2.1 σ.1 σ.2.2.1 35 σ.1.cells W)∧(S 8=true→∃x q,T p d= .ok x q∧Kp w2 W∧Fz h0 K.g w2 W∧PW K W q d false∧Blk W gt 25 #[.int .i64 op, .string (strOf nm), .slice AE es.length cE, .slice AT ts.length cT]∧∃S',ArgQ W h0 gt (es++[x]) ts (evs++[σ.1]) tvs σ.2.2.2 (.slice AT ts.length cT) S')) ((undef,fun _=>False,0,undef)) ?_ ?_ ?_
  ·intro w0 hb0 hs0
   exact⟨fun _=>⟨Fz.of hb0,fun _=>pw2.step hle hb0,fun h=>(by cases h),fun h=>(by cases h)⟩,fun h=>(by cases h)⟩
  ·intro k o ho
   match k,ho with
   |0,ho=>
    injection ho with ho
    subst ho
    intro σ S w hS hpre hdc hX
    have hb:Blk w b0 103 #[.pointer (some ⟨gt,0,none⟩)]:=by
     cases h8:S 8 with
     |false=>exact kb02.fzN pw2.blk (hX.1 h8).fz (Nat.le_refl _)
     |true=>obtain⟨x,q,-,hkp,-⟩:=hX.2 h8;exact hkp.blk kb02
    refine Seq.val (Runs.loadB (g:=b0) (i:=0) rfl rfl Tryz.underlying103 rfl hb rfl) rfl rfl rfl (Seq.nil ?_)
    exact Post.afterG rfl rfl rfl hpre rfl (fun _ _=>rfl) hX
   |1,ho=>
    injection ho with ho
    subst ho
    intro σ S w hS hpre hdc hX
    have hb:Blk w b0 103 #[.pointer (some ⟨gt,0,none⟩)]:=by
     cases h8:S 8 with
     |false=>exact kb02.fzN pw2.blk (hX.1 h8).fz (Nat.le_refl _)
     |true=>obtain⟨x,q,-,hkp,-⟩:=hX.2 h8;exact hkp.blk kb02
    refine Seq.val (Runs.loadB (g:=b0) (i:=0) rfl rfl Tryz.underlying103 rfl hb rfl) rfl rfl rfl (Seq.nil ?_)
    exact Post.afterG rfl rfl rfl hpre rfl (fun _ _=>rfl) hX
   |2,ho=>
    injection ho with ho
    subst ho
    intro σ S w hS hpre hdc hX
    refine Seq.val (Runs.nilCheck rfl rfl) rfl rfl rfl (Seq.nil ?_)
    exact Post.afterG rfl rfl rfl hpre rfl (fun _ _=>rfl) hX
   |3,ho=>
    injection ho with ho
    subst ho
    intro σ S w hS hpre hdc hX
    refine Seq.val (Runs.fieldA 2 rfl rfl Tryz.underlying25 rfl (by kernel_rfl)) rfl rfl rfl (Seq.nil ?_)
    exact Post.afterG rfl rfl rfl hpre rfl (fun _ _=>rfl) hX
   |4,ho=>
    injection ho with ho
    subst ho
    intro σ S w hS hpre hdc hX
    have h8:S 8=false:=by
     cases h8:S 8 with
     |false=>rfl
     |true=>have:=hdc 8 _ rfl h8 4 (memB_spec rfl);rw[hS] at this;cases this
    refine Seq.val (Runs.loadB (g:=gt) (i:=2) rfl rfl Tryz.underlying22 rfl (kt2.fz (hX.1 h8).fz (by omega)) rfl) rfl rfl rfl (Seq.nil ?_)
    exact Post.afterG rfl rfl rfl hpre rfl (fun _ _=>rfl) hX
   |5,ho=>
    injection ho with ho
    subst ho
    intro σ S w hS hpre hdc hX
    have hb:Blk w b1 60 #[.pointer (some ⟨K.g,0,none⟩)]:=by
     cases h8:S 8 with
     |false=>exact kb12.fzN pw2.blk (hX.1 h8).fz (Nat.le_refl _)
     |true=>obtain⟨x,q,-,hkp,-⟩:=hX.2 h8;exact hkp.blk kb12
    refine Seq.val (Runs.loadB (g:=b1) (i:=0) rfl rfl Tryz.underlying60 rfl hb rfl) rfl rfl rfl (Seq.nil ?_)
    exact Post.afterG rfl rfl rfl hpre rfl (fun _ _=>rfl) hX
   |6,ho=>
    injection ho with ho
    subst ho
    intro σ S w hS hpre hdc hX
    have h8:S 8=false:=by
     cases h8:S 8 with
     |false=>rfl
     |true=>have:=hdc 8 _ rfl h8 6 (memB_spec rfl);rw[hS] at this;cases this
    have h7:S 7=false:=by
     cases h7:S 7 with
     |false=>rfl
     |true=>have:=hdc 7 _ rfl h7 6 (memB_spec rfl);rw[hS] at this;cases this
    have hXa:=hX.1 h8
    have hcl:=hcall w (hXa.pre hS) hXa.fz
    rcases Rs.ok_or hne with ⟨q,ov,hr⟩|⟨x,q,hr⟩
    ·rw[hr] at hcl
     refine Seq.callB (Ze Tryz.func31) rfl hcl ?_
     rintro e w6 ⟨hf,rfl,d6,hp6⟩
     refine⟨_,rfl,fun a ha=>⟨ha.defers,?_⟩⟩
     rw[hr]
     exact⟨(fz2.trans ((hXa.fz.call hf).less hs2)).less hh,rfl,d6,hp6⟩
    ·rw[hr] at hcl
     refine Zc (Ze Tryz.func31) hcl ?_
     rintro e w6 ⟨hf,v6,rfl,hp6,S6,hr6,hb6⟩
     refine⟨_,rfl,Seq.nil ?_⟩
     have hsz:=hXa.fz.size
     refine Post.afterG (σ:=σ) (σ':=(v6,S6,σ.2.2.1,σ.2.2.2)) rfl rfl rfl hpre rfl (fun j hj=> ?_) ⟨fun _=>⟨hXa.fz.call hf,(fun h=>by cases h),fun _=>⟨x,q,hr,hp6,hr6,fun b hb=>⟨by have:=(hb6 b hb).1;omega,(hb6 b hb).2⟩⟩,fun hm=> ?_⟩,fun hm=> ?_⟩
     ·match j,hj with
      |0,_=>rfl
      |1,_=>rfl
      |2,_=>rfl
      |3,_=>rfl
      |4,_=>rfl
      |5,_=>rfl
      |6,hj=>rw[hS] at hj;cases hj
      |7,hj=>rw[h7] at hj;cases hj
      |8,_=>rfl
      |j+9,_=>rfl
     ·have hm:S 7=true:=hm
      rw[h7] at hm;cases hm
     ·have hm:S 8=true:=hm
      rw[h8] at hm;cases hm
   |7,ho=>
    injection ho with ho
    subst ho
    intro σ S w hS hpre hdc hX
    have h8:S 8=false:=by
     cases h8:S 8 with
     |false=>rfl
     |true=>have:=hdc 8 _ rfl h8 7 (memB_spec rfl);rw[hS] at this;cases this
    have hXa:=hX.1 h8
    obtain⟨x,q,q1,q2,q3,q4⟩:=hXa.post (hpre 6 (memB_spec rfl))
    have hones:=q3.ones
    refine Seq.slice (vs:=[σ.1]) (s:=4) rfl rfl rfl Tryz.underlying22 (by kernel_rfl) zero_api_Expr (by omega) (by omega) ⟨hones.1,trivial⟩ rfl rfl rfl ?_
    intro g7 w' n7
    refine Seq.nil ?_
    have hsz:=hXa.fz.size
    have hcells:(flatC [σ.1]).toArray=σ.1.cells:=by simp[flatC]
    have n7b:=n7.blk
    rw[hcells] at n7b
    refine Post.afterG (σ:=σ) (σ':=(σ.1,σ.2.1,g7,σ.2.2.2)) rfl rfl rfl hpre rfl (fun j hj=> ?_) ⟨fun _=>⟨hXa.fz.step n7.below,fun h=>(hXa.pre h).step hle n7.below,fun h=> ?_,fun _=>⟨Nat.le_trans hsz n7.ge,n7b,fun h hb=> ?_⟩⟩,fun hm=> ?_⟩
    ·match j,hj with
     |0,_=>rfl
     |1,_=>rfl
     |2,_=>rfl
     |3,_=>rfl
     |4,_=>rfl
     |5,_=>rfl
     |6,_=>rfl
     |7,hj=>rw[hS] at hj;cases hj
     |8,_=>rfl
     |j+9,_=>rfl
    ·exact⟨x,q,q1,q2.step hle n7.below,q3.mono (fun _ h=>h) (fun a ha=>n7.below.cell (q4 _ ha).2),fun b hb=>⟨(q4 b hb).1,Nat.lt_of_lt_of_le (q4 b hb).2 n7.below.size⟩⟩
    ·exact Nat.lt_irrefl _ (Nat.lt_of_lt_of_le (q4 _ hb).2 n7.ge)
    ·have hm:S 8=true:=hm
     rw[h8] at hm;cases hm
   |8,ho=>
    injection ho with ho
    subst ho
    intro σ S w hS hpre hdc hX
    have hXa:=hX.1 hS
    obtain⟨x,q,hr,pw3,hrep,haway⟩:=hXa.post (hpre 6 (memB_spec rfl))
    obtain⟨e7,k7,hn7⟩:=hXa.new (hpre 7 (memB_spec rfl))
    have hones:=hrep.ones
    have hsz:=hXa.fz.size
    have aq3:=aq2.fz hXa.fz hg0
    have hown:=aq3.ownE
    have k90:=kt2.fz hXa.fz (by omega)
    refine Seq.append2 rfl rfl rfl Tryz.underlying22 (by kernel_rfl) zero_api_Expr rfl (by decide) (b:=56) (by kernel_rfl) hown (Reads.blk (size:=4) k7 1 hones.1) hones.2 (by omega) (by simp only[maxLen];omega) (by omega) rfl rfl rfl ?_
    intro v' w4 hown' happ hv'
    refine Seq.nil ?_
    have hs4:=happ.below.size
    have aq6:=aq3.addE hrep (fun b hb=>⟨by have:=(haway b hb).1;omega,(haway b hb).2,by have:=(haway b hb).1;omega,fun e=>by have:=(aq2.ownE.blockLt b e).2;have:=(haway b hb).1;omega,fun e=>by have:=(aq2.ownT.blockLt b e).2;have:=(haway b hb).1;omega⟩) hown' hs4
     (fun b _ h2 h3 h4=>happ.grown.block b h2 (fun e=>h4 e.symm)) (hv'.elim .inl fun e=> .inr ⟨_,e,Nat.le_refl _⟩) (by omega)
    refine Post.afterG (σ:=σ) (σ':=(σ.1,σ.2.1,σ.2.2.1,v')) rfl rfl rfl hpre rfl (fun j hj=> ?_) ⟨(fun h=>by cases h),fun _=>⟨x,q,hr,((Kp.refl w2).fz pw2.blk hXa.fz).app hown happ,(hXa.fz.less hh2).trans (Fz.of happ.below),⟨pw3.blk.grown happ.grown (fun e=>by have:=hown.blockLt _ e.symm;omega),pw3.rd.below (happ.below.mono (by omega)),pw3.p_le,pw3.d_le⟩,k90.grown happ.grown (fun e=>aq3.neE e.symm),_,aq6⟩⟩
    match j,hj with
    |0,_=>rfl
    |1,_=>rfl
    |2,_=>rfl
    |3,_=>rfl
    |4,_=>rfl
    |5,_=>rfl
    |6,_=>rfl
    |7,_=>rfl
    |8,hj=>rw[hS] at hj;cases hj
    |j+9,_=>rfl
   |k+9,ho=>simp at ho
  ·rintro⟨v6,S6,g7,v8⟩ S w3 hS hX
   obtain⟨x,q,hr,kp3,fz3,pw3,k90,S',aq3⟩:=hX.2 (hS 8 (by decide))
   clear hX
   dsimp only at aq3
   have hs3:=fz3.size
   have e90:h0≤gt:=hgt
   have bel:Fz h0 K.g w w3:=(fz2.less hh).trans fz3
   have kp:=kp2.trans kp3
   have pwk:=pw3.blk
   have hlt3:=k90.lt
   rw[hr]
   obtain⟨AX,cX,hvX,-⟩:=aq3.ownE.reads
   subst hvX
   refine Zv (Runs.nilCheck rfl rfl) ?_
   refine Zf 2 Tryz.underlying25 ?_
   refine Zq k90 ?_
   intro w1 pw1
   replace bel:=bel.put k90 pw1 e90
   replace kp:=kp.put k90 pw1 e90
   replace aq3:=aq3.put k90 pw1 e90
   replace k90:=pw1.blk
   refine Zk3 0 1 3 ?_
   have pw5:PW K w1 q d false:=⟨pwk.put pw1 (by omega),pw3.rd.below (pw1.below (by omega) hlt3),pw3.p_le,pw3.d_le⟩
   refine Post.end0 rfl (.inr rfl) ?_
   exact⟨bel,_,rfl,pw5,kp,_,_,_,_,_,k90,aq3⟩
end Go.Proofs.YtaamkfajnpobfaaGreat
namespace Go.Proofs.YtaamkfajnpobfaaGreat
open Go.RowKit
structure XB (K:Ctx)(h0 gt d q:Nat)(op z:Int)(nm:List Nat)(m:Nat)(base:List Value)(vE:Value)(gv cap:Nat)(v:Value)(set stored:Bool)(w2 W3 w:World):Prop where
 own:Own w h0 35 4 (.slice (some ⟨gv,0,none⟩) (m+1) cap) (m+1) (base++(bif set then v.cells.toList else [.int .i64 0, .int .i64 0, .string {data:= #[]}, .slice none 0 0]))
 box:Blk w gt 35 #[.int .i64 op, .int .i64 z, .string (strOf nm),bif stored then .slice (some ⟨gv,0,none⟩) (m+1) cap else vE]
 pw:PW K w q d false
 kp:Kp w2 w
 fz:Fz h0 K.g w2 w
 hs:W3.heap.size≤w.heap.size
 hb:∀b,b<W3.heap.size→b≠gt→vE.ownBlock≠some b→w.heap[b]? =W3.heap[b]?
 hv:some gv=vE.ownBlock∨gv=W3.heap.size
 ne:gv≠gt
theorem calledC_any (K:Ctx)(hK:K.Ok)(h0 gt b1 d p:Nat)(op z:Int)(nm:List Nat)(es:List Ex)(evs:List Value)(vE:Value)(S0:Nat→Prop)(T:Nat→Nat→Rs Ex)(wa:World)(pw:PW K wa p d false)(hg0:K.g<h0)(hgt:h0≤gt)(hh:h0≤wa.heap.size)
  (kt:Blk wa gt 35 #[.int .i64 op, .int .i64 z, .string (strOf nm),vE]) (kb1:Blk wa b1 60 #[.pointer (some ⟨K.g,0,none⟩)]) (aq:ArgQ wa h0 gt es [] evs [] vE (.slice none 0 0) S0) (hl:es.length≤10)
  (hc:∀W,PW K W p d false→Fz wa.heap.size K.g wa W→Calls Tryz.prog 31 #[.pointer (some ⟨K.g,0,none⟩), .int .i64 0] W (PR K W d (T p d) (okE W))) (hne:T p d≠ .out):
  Calls Tryz.prog 162 #[.pointer (some ⟨gt,0,none⟩), .pointer (some ⟨b1,0,none⟩)] wa (PRh K h0 wa d (T p d) fun x _ W'=>Kp wa W'∧∃evs vE S,Blk W' gt 35 #[.int .i64 op, .int .i64 z, .string (strOf nm),vE]∧ArgQ W' h0 gt (es++[x]) [] evs [] vE (.slice none 0 0) S):=by
 have hle:=hK.le
 have hgg:K.g<wa.heap.size:=pw.blk.lt
 have hgtl:gt<wa.heap.size:=kt.lt
 obtain⟨AE,cE,rfl,-⟩:=aq.ownE.reads
 refine Zs 11 Tryz.func162 ?_
 refine Cd.drawG (σT:=Value × (Nat→Prop) × Nat × Nat × Nat × World) 11 (by kernel_rfl) rfl rfl (fun σ=>[.pointer (some ⟨gt,3,none⟩), .slice AE es.length cE, .pointer (some ⟨K.g,0,none⟩),σ.1, .int .i64 (es.length:Int), .slice (some ⟨σ.2.2.1,0,none⟩) 1 1, .slice (some ⟨σ.2.2.2.1,0,none⟩) (es.length+1) σ.2.2.2.2.1, .pointer (some ((⟨σ.2.2.2.1,0,none⟩:Addr).add (es.length*4))),undef, .pointer (some ⟨gt,3,none⟩),undef]) (fun σ S W=>(S 6=false→XA RepE K wa p d (T p d) (S 3) (S 5) σ.2.1 σ.1 σ.2.2.1 35 #[.int .i64 0, .int .i64 0, .string {data:= #[]}, .slice none 0 0] W)∧(S 6=true→∃x q,T p d= .ok x q∧XA RepE K wa p d (T p d) true true σ.2.1 σ.1 σ.2.2.1 35 #[.int .i64 0, .int .i64 0, .string {data:= #[]}, .slice none 0 0] σ.2.2.2.2.2∧XB K h0 gt d q op z nm es.length (flatC evs) (.slice AE es.length cE) σ.2.2.2.1 σ.2.2.2.2.1 σ.1 (S 8) (S 10) wa σ.2.2.2.2.2 W)) ((undef,fun _=>False,0,0,0,wa)) ?_ ?_ ?_
 ·intro w0 hb0 hs0
  exact⟨fun _=>⟨Fz.of hb0,fun _=>pw.step hle hb0,fun h=>(by cases h),fun h=>(by cases h)⟩,fun h=>(by cases h)⟩
 ·intro k o ho
  match k,ho with
  |0,ho=>
   injection ho with ho
   subst ho
   intro σ S w hS hpre hdc hX
   refine Seq.val (Runs.fieldA 3 rfl rfl Tryz.underlying35 rfl (by kernel_rfl)) rfl rfl rfl (Seq.nil ?_)
   exact Post.afterG rfl rfl rfl hpre rfl (fun _ _=>rfl) hX
  |1,ho=>
   injection ho with ho
   subst ho
   intro σ S w hS hpre hdc hX
   have h6:S 6=false:=by
    cases h6:S 6 with
    |false=>rfl
    |true=>have:=hdc 6 _ rfl h6 1 (memB_spec rfl);rw[hS] at this;cases this
   refine Seq.val (Runs.loadB (g:=gt) (i:=3) rfl rfl Tryz.underlying22 rfl (kt.fz (hX.1 h6).fz (by omega)) rfl) rfl rfl rfl (Seq.nil ?_)
   exact Post.afterG rfl rfl rfl hpre rfl (fun _ _=>rfl) hX
  |2,ho=>
   injection ho with ho
   subst ho
   intro σ S w hS hpre hdc hX
   have hb:Blk w b1 60 #[.pointer (some ⟨K.g,0,none⟩)]:=by
    cases h6:S 6 with
    |false=>exact kb1.fzN pw.blk (hX.1 h6).fz (Nat.le_refl _)
    |true=>obtain⟨x,q,-,-,hB⟩:=hX.2 h6;exact hB.kp.blk kb1
   refine Seq.val (Runs.loadB (g:=b1) (i:=0) rfl rfl Tryz.underlying60 rfl hb rfl) rfl rfl rfl (Seq.nil ?_)
   exact Post.afterG rfl rfl rfl hpre rfl (fun _ _=>rfl) hX
  |3,ho=>
   injection ho with ho
   subst ho
   intro σ S w hS hpre hdc hX
   have h6:S 6=false:=by
    cases h6:S 6 with
    |false=>rfl
    |true=>have:=hdc 6 _ rfl h6 3 (memB_spec rfl);rw[hS] at this;cases this
   have hXa:=hX.1 h6
   have hcl:=hc w (hXa.pre hS) hXa.fz
   rcases Rs.ok_or hne with ⟨q,ov,hr⟩|⟨x,q,hr⟩
   ·rw[hr] at hcl
    refine Seq.callB (Ze Tryz.func31) rfl hcl ?_
    rintro e w6 ⟨hf,rfl,d6,hp6⟩
    refine⟨_,rfl,fun a ha=>⟨ha.defers,?_⟩⟩
    rw[hr]
    exact⟨(hXa.fz.call hf).less hh,rfl,d6,hp6⟩
   ·rw[hr] at hcl
    refine Zc (Ze Tryz.func31) hcl ?_
    rintro e w6 ⟨hf,v6,rfl,hp6,S6,hr6,hb6⟩
    refine⟨_,rfl,Seq.nil ?_⟩
    have hsz:=hXa.fz.size
    refine Post.afterG (σ:=σ) (σ':=(v6,S6,σ.2.2)) rfl rfl rfl hpre rfl (fun j hj=> ?_) ⟨fun _=>⟨hXa.fz.call hf,(fun h=>by cases h),fun _=>⟨x,q,hr,hp6,hr6,fun b hb=>⟨by have:=(hb6 b hb).1;omega,(hb6 b hb).2⟩⟩,fun hm=> ?_⟩,fun hm=> ?_⟩
    ·match j,hj with
     |0,_=>rfl
     |1,_=>rfl
     |2,_=>rfl
     |3,hj=>rw[hS] at hj;cases hj
     |4,_=>rfl
     |5,_=>rfl
     |6,_=>rfl
     |7,_=>rfl
     |8,_=>rfl
     |9,_=>rfl
     |10,_=>rfl
     |j+11,_=>rfl
    ·obtain⟨m1,m2,-⟩:=hXa.new hm
     exact⟨m1,m2.fz hf (by omega),fun _ hb=>Nat.lt_irrefl _ (Nat.lt_of_lt_of_le m2.lt (hb6 _ hb).1)⟩
    ·have hm:S 6=true:=hm
     rw[h6] at hm;cases hm
  |4,ho=>
   injection ho with ho
   subst ho
   intro σ S w hS hpre hdc hX
   refine Seq.val (Runs.len rfl rfl Tryz.underlying22) rfl rfl rfl (Seq.nil ?_)
   exact Post.afterG rfl rfl rfl hpre rfl (fun _ _=>rfl) hX
  |5,ho=>
   injection ho with ho
   subst ho
   intro σ S w hS hpre hdc hX
   have h6:S 6=false:=by
    cases h6:S 6 with
    |false=>rfl
    |true=>have:=hdc 6 _ rfl h6 5 (memB_spec rfl);rw[hS] at this;cases this
   have hXa:=hX.1 h6
   refine Seq.slice (vs:=[.agg #[.int .i64 0, .int .i64 0, .string {data:= #[]}, .slice none 0 0]]) (s:=4) rfl rfl rfl Tryz.underlying22 (by kernel_rfl) zero_api_Expr (by omega) (by omega) ⟨rfl,trivial⟩ rfl rfl rfl ?_
   intro g7 wa' n7
   refine Seq.nil ?_
   have hsz:=hXa.fz.size
   refine Post.afterG (σ:=σ) (σ':=(σ.1,σ.2.1,g7,σ.2.2.2)) rfl rfl rfl hpre rfl (fun j hj=> ?_) ⟨fun _=>⟨hXa.fz.step n7.below,fun h=>(hXa.pre h).step hle n7.below,fun h=> ?_,fun _=>⟨Nat.le_trans hsz n7.ge,n7.blk,fun h hb=> ?_⟩⟩,fun hm=> ?_⟩
   ·match j,hj with
    |0,_=>rfl
    |1,_=>rfl
    |2,_=>rfl
    |3,_=>rfl
    |4,_=>rfl
    |5,hj=>rw[hS] at hj;cases hj
    |6,_=>rfl
    |7,_=>rfl
    |8,_=>rfl
    |9,_=>rfl
    |10,_=>rfl
    |j+11,_=>rfl
   ·obtain⟨x,q,q1,q2,q3,q4⟩:=hXa.post h
    exact⟨x,q,q1,q2.step hle n7.below,q3.mono (fun _ h=>h) (fun a ha=>n7.below.cell (q4 _ ha).2),fun b hb=>⟨(q4 b hb).1,Nat.lt_of_lt_of_le (q4 b hb).2 n7.below.size⟩⟩
   ·obtain⟨x,q,q1,q2,q3,q4⟩:=hXa.post h
    exact Nat.lt_irrefl _ (Nat.lt_of_lt_of_le (q4 _ hb).2 n7.ge)
   ·have hm:S 6=true:=hm
    rw[h6] at hm;cases hm
  |6,ho=>
   injection ho with ho
   subst ho
   intro σ S w hS hpre hdc hX
   have hXa0:=hX.1 hS
   have d3:S 3=true:=hpre 3 (memB_spec rfl)
   have d5:S 5=true:=hpre 5 (memB_spec rfl)
   have hXa:XA RepE K wa p d (T p d) true true σ.2.1 σ.1 σ.2.2.1 35 #[.int .i64 0, .int .i64 0, .string {data:= #[]}, .slice none 0 0] w:=by rw[d3,d5] at hXa0;exact hXa0
   obtain⟨x,q,hr,pw3,hrep,haway⟩:=hXa.post rfl
   obtain⟨e7,k7,hn7⟩:=hXa.new rfl
   have hsz:=hXa.fz.size
   have aq3:=aq.fz hXa.fz hg0
   have hown:=aq3.ownE
   have k90:=kt.fz hXa.fz (by omega)
   refine Seq.append2 rfl rfl rfl Tryz.underlying22 (by kernel_rfl) zero_api_Expr rfl (by decide) (b:=56) (by kernel_rfl) hown (Reads.blk (size:=4) k7 1 rfl) (by intro z hz;simp at hz;rcases hz with rfl|rfl|rfl|rfl<;>rfl) (by omega) (by simp only[maxLen];omega) (by omega) rfl rfl rfl ?_
   intro v' w4 hown' happ hv'
   refine Seq.nil ?_
   have hs4:=happ.below.size
   have hlv:(flatC evs).length=es.length*4:=hown.row.1
   obtain⟨gv,cap,cur,rfl,-⟩:=Own.setLast (n:=es.length) (xs:=flatC evs) hown' hlv
   have hd8:S 8=false:=by
    cases h:S 8 with
    |false=>rfl
    |true=>have:=hdc 8 _ rfl h 6 (memB_spec rfl);rw[hS] at this;cases this
   have hd10:S 10=false:=by
    cases h:S 10 with
    |false=>rfl
    |true=>have:=hdc 10 _ rfl h 6 (memB_spec rfl);rw[hS] at this;cases this
   have hd7:S 7=false:=by
    cases h:S 7 with
    |false=>rfl
    |true=>have:=hdc 7 _ rfl h 6 (memB_spec rfl);rw[hS] at this;cases this
   have hgvne:gv≠gt:=fun e=>by
    subst e
    rcases hv' with e|e
    ·exact aq3.neE (by rw[←e];rfl)
    ·injection e with e
     have e:gv=w.heap.size:=e
     have:=k90.lt
     omega
   refine Post.afterG (σ:=σ) (σ':=(σ.1,σ.2.1,σ.2.2.1,gv,cap,w)) rfl rfl rfl hpre rfl (fun j hj=> ?_) ⟨(fun h=>by cases h),fun _=>⟨x,q,hr,hXa,?_⟩⟩
   ·match j,hj with
    |0,_=>rfl
    |1,_=>rfl
    |2,_=>rfl
    |3,_=>rfl
    |4,_=>rfl
    |5,_=>rfl
    |6,hj=>rw[hS] at hj;cases hj
    |7,hj=>rw[hd7] at hj;cases hj
    |8,_=>rfl
    |9,_=>rfl
    |10,_=>rfl
    |j+11,_=>rfl
   ·have e8:updC S 6 8=false:=hd8
    have e10:updC S 6 10=false:=hd10
    rw[e8,e10]
    exact⟨hown',k90.grown happ.grown (fun e=>aq3.neE e.symm),⟨pw3.blk.grown happ.grown (fun e=>by have:=hown.blockLt _ e.symm;omega),pw3.rd.below (happ.below.mono (by omega)),pw3.p_le,pw3.d_le⟩,((Kp.refl wa).fz pw.blk hXa.fz).app hown happ,(hXa.fz.less hh).trans (Fz.of happ.below),hs4,fun b h1 _ h3=>happ.grown.block b h1 (fun e=>h3 e.symm),hv'.elim (fun e=> .inl e) (fun e=> .inr (by injection e)),hgvne⟩
  |7,ho=>
   injection ho with ho
   subst ho
   intro σ S w hS hpre hdc hX
   refine Seq.val (Runs.indexN rfl rfl rfl Tryz.underlying22 (s:=4) (by kernel_rfl) (j:=es.length) rfl (by omega)) rfl rfl rfl (Seq.nil ?_)
   exact Post.afterG rfl rfl rfl hpre rfl (fun _ _=>rfl) hX
  |8,ho=>
   injection ho with ho
   subst ho
   intro σ S w hS hpre hdc hX
   obtain⟨x,q,hr,hXa,hB⟩:=hX.2 (hpre 6 (memB_spec rfl))
   obtain⟨x',q',hr',hp',hrep,haway'⟩:=hXa.post rfl
   have hones:=hrep.ones
   have hB8:Own w h0 35 4 (.slice (some ⟨σ.2.2.2.1,0,none⟩) (es.length+1) σ.2.2.2.2.1) (es.length+1) (flatC evs++[.int .i64 0, .int .i64 0, .string {data:= #[]}, .slice none 0 0]):=by
    have:=hB.own
    rw[hS] at this
    exact this
   have hlv:(flatC evs).length=es.length*4:=aq.ownE.row.1
   obtain⟨gv,cap,cur,hvv,hgv,hgvl,kv,hfit,hset⟩:=hB8.setLast hlv
   have hgv2:σ.2.2.2.1=gv:=by injection hvv with h1;injection h1 with h1;injection h1
   rw[←hgv2] at hgv hgvl kv hset
   have haddr:(⟨σ.2.2.2.1,0,none⟩:Addr).add (es.length*4)=⟨σ.2.2.2.1,es.length*4,none⟩:=by unfold Addr.add;split<;>simp_all
   refine Seq.storeN (g:=σ.2.2.2.1) (off:=es.length*4) rfl (congrArg (fun a=>some (Value.pointer (some a))) haddr) rfl rfl (m:=4) (by kernel_rfl) hones.1 (ones_of hones.2) kv (by rw[hones.1];exact hfit) rfl rfl ?_
   intro w6 p6
   refine Seq.nil ?_
   have hne:=hB.ne
   have hsz:=hXa.fz.size
   have hown6:=hset w6 σ.1.cells hones.1 p6
   have hcv:cap=σ.2.2.2.2.1:=by injection hvv with _ _ h3;exact h3.symm
   refine Post.afterG0 (σ:=σ) (σ':=σ) rfl rfl rfl (fun _ _=>rfl) ⟨(fun h=>by have h:S 6=false:=h;rw[hpre 6 (memB_spec rfl)] at h;cases h),fun _=>⟨x,q,hr,hXa,?_⟩⟩
   exact⟨by have:=hown6;exact this,hB.box.put p6 (fun e=>hne e.symm),⟨hB.pw.blk.put p6 (by omega),hB.pw.rd.below (p6.below (by omega) hgvl),hB.pw.p_le,hB.pw.d_le⟩,hB.kp.put kv p6 hgv,hB.fz.put kv p6 hgv,Nat.le_trans hB.hs (Nat.le_of_eq p6.size.symm),fun b h1 h2 h3=>(p6.grown.block b (Nat.lt_of_lt_of_le h1 hB.hs) (fun e=>by
    injection e with e
    rcases hB.hv with e'|e'
    ·exact h3 (by rw[←e',e])
    ·omega)).trans (hB.hb b h1 h2 h3),hB.hv,hne⟩
  |9,ho=>
   injection ho with ho
   subst ho
   intro σ S w hS hpre hdc hX
   refine Seq.val (Runs.fieldA 3 rfl rfl Tryz.underlying35 rfl (by kernel_rfl)) rfl rfl rfl (Seq.nil ?_)
   exact Post.afterG rfl rfl rfl hpre rfl (fun _ _=>rfl) hX
  |10,ho=>
   injection ho with ho
   subst ho
   intro σ S w hS hpre hdc hX
   obtain⟨x,q,hr,hXa,hB⟩:=hX.2 (hpre 6 (memB_spec rfl))
   have hbox:=hB.box
   refine Zq hbox ?_
   intro w6 p6
   refine Seq.nil ?_
   have hne:=hB.ne
   have hown:=hB.own
   refine Post.afterG0 (σ:=σ) (σ':=σ) rfl rfl rfl (fun _ _=>rfl) ⟨(fun h=>by have h:S 6=false:=h;rw[hpre 6 (memB_spec rfl)] at h;cases h),fun _=>⟨x,q,hr,hXa,?_⟩⟩
   exact⟨hown.keepRow (Nat.le_of_eq p6.size.symm) (fun b e=>p6.grown.block b (hown.blockLt b e).2 (fun e'=>by
    have e1:σ.2.2.2.1=b:=by injection e
    have e2:b=gt:=by injection e'
    exact hne (e1.trans e2))),p6.blk,⟨hB.pw.blk.put p6 (by omega),hB.pw.rd.below (p6.below (by omega) hbox.lt),hB.pw.p_le,hB.pw.d_le⟩,hB.kp.put hbox p6 hgt,hB.fz.put hbox p6 hgt,Nat.le_trans hB.hs (Nat.le_of_eq p6.size.symm),fun b h1 h2 h3=>(p6.grown.block b (Nat.lt_of_lt_of_le h1 hB.hs) (fun e=>h2 (by injection e))).trans (hB.hb b h1 h2 h3),hB.hv,hne⟩
  |k+11,ho=>simp at ho
 rintro⟨v5,S5,g7,gv,cap,W3⟩ S w9 hS hX
 obtain⟨x,q,hr,hXa,hB⟩:=hX.2 (hS 6 (by decide))
 obtain⟨x',q',hr',-,hrep,haway⟩:=hXa.post rfl
 rw[hr] at hr'
 injection hr' with e1 e2
 subst e1 e2
 dsimp only at hrep haway hXa hB
 rw[hS 8 (by decide),hS 10 (by decide)] at hB
 have aq3:=aq.fz hXa.fz hg0
 have hsz:=hXa.fz.size
 rw[hr]
 have hfin:=aq3.addE hrep (fun b hb=>⟨by have:=(haway b hb).1;omega,(haway b hb).2,by have:=(haway b hb).1;omega,fun e=>by have:=(aq.ownE.blockLt b e).2;have:=(haway b hb).1;omega,fun e=>by cases e⟩) hB.own hB.hs
  (fun b _ h2 h3 h4=>hB.hb b h2 h3 h4) (hB.hv.elim .inl fun e=> .inr ⟨_,rfl,Nat.le_of_eq e.symm⟩) (by omega)
 refine Zk2 0 1 ?_
 refine Post.end0 rfl (.inr rfl) ?_
 exact⟨hB.fz,_,rfl,hB.pw,hB.kp,_,_,_,hB.box,hfin⟩
end Go.Proofs.YtaamkfajnpobfaaGreat
namespace Go.Proofs.YtaamkfajnpobfaaGreat
open Go.RowKit
section
variable {W:World} {h gt:Nat} {es:List Ex} {ts:List Tm} {evs tvs:List Value} {vE vT:Value} {S:Nat→Prop}
theorem Own.rows {B n size:Nat}{e:TypeId}{v:Value}{xs:List Value}{S':Nat→Prop}(o:Own W B e size v n xs)(hS:∀b,v.ownBlock=some b→S' b):∃A c,v= .slice A n c∧Rows W S' A xs:=by
 obtain⟨h1,⟨rfl,rfl⟩|⟨g,cap,cur,rfl,e2,e3,e4,e5,e6,e7⟩⟩:=o.row
 ·refine⟨none,0,rfl,fun hne=> ?_⟩
  rw[Nat.zero_mul] at h1
  exact absurd (List.eq_nil_of_length_eq_zero h1) hne
 ·obtain⟨A,c,hv,hr⟩:=o.reads
  injection hv with e1 _ _
  subst e1
  refine⟨_,cap,rfl,fun hne=> ?_⟩
  rcases Nat.eq_zero_or_pos n with h0|h0
  ·subst h0
   rw[Nat.zero_mul] at h1
   exact absurd (List.eq_nil_of_length_eq_zero h1) hne
  ·obtain⟨ad,hA,hb,hc⟩:=hr.2 h0
   injection hA with hA
   subst hA
   exact⟨_,rfl,hS _ rfl,hc⟩
def blksQ (S:Nat→Prop)(vE vT:Value)(b:Nat):Prop:=S b∨vE.ownBlock=some b∨vT.ownBlock=some b
theorem ArgQ.bounds (a:ArgQ W h gt es ts evs tvs vE vT S):∀b,blksQ S vE vT b→h≤b∧b<W.heap.size∧b≠gt:=fun b hb=>by
 rcases hb with hb|hb|hb
 ·obtain⟨h1,h2,h3,-,-⟩:=a.away b hb
  exact⟨h1,h2,h3⟩
 ·obtain⟨h1,h2⟩:=a.ownE.blockLt b hb
  exact⟨h1,h2,fun e=>a.neE (by rw[hb,e])⟩
 ·obtain⟨h1,h2⟩:=a.ownT.blockLt b hb
  exact⟨h1,h2,fun e=>a.neT (by rw[hb,e])⟩
theorem ArgQ.ex (a:ArgQ W h gt es ts evs tvs vE vT S)(op z:Int)(nm:List Nat)(h1:I64 op)(h2:I64 z)(h3:∀d∈nm,d<256)(h4:nm.length≤9223372036854775807)(hl:es.length≤1000):RepE W (blksQ S vE vT) (.mk op z nm es) (.agg #[.int .i64 op, .int .i64 z, .string (strOf nm),vE]):=by
 obtain⟨A,c,hv,hr⟩:=a.ownE.rows (S':=blksQ S vE vT) (fun b hb=> .inr (.inl hb))
 rw[hv]
 rw[hv] at hr a
 exact RepE.mk a.lenE hl h1 h2 h3 h4 (fun i e v e1 e2=>(a.repE i e v e1 e2).mono (fun _ h=> .inl h) (fun _ _=>rfl)) hr
theorem ArgQ.tm (a:ArgQ W h gt es ts evs tvs vE vT S)(op:Int)(nm:List Nat)(h1:I64 op)(h3:∀d∈nm,d<256)(h4:nm.length≤9223372036854775807)(hl:es.length≤1000)(hl':ts.length≤1000):RepT W (blksQ S vE vT) (.mk op nm es ts) (.agg #[.int .i64 op, .string (strOf nm),vE,vT]):=by
 obtain⟨A,c,hv,hr⟩:=a.ownE.rows (S':=blksQ S vE vT) (fun b hb=> .inr (.inl hb))
 obtain⟨A',c',hv',hr'⟩:=a.ownT.rows (S':=blksQ S vE vT) (fun b hb=> .inr (.inr hb))
 rw[hv,hv']
 rw[hv,hv'] at hr hr' a
 exact RepT.mk a.lenE a.lenT hl hl' h1 h3 h4 (fun i e v e1 e2=>(a.repE i e v e1 e2).mono (fun _ h=> .inl h) (fun _ _=>rfl)) (fun i e v e1 e2=>(a.repT i e v e1 e2).mono (fun _ h=> .inl h) (fun _ _=>rfl)) hr hr'
end
theorem ArgQ.nil (W:World)(h gt:Nat):ArgQ W h gt [] [] [] [] (.slice none 0 0) (.slice none 0 0) (fun _=>False):=
 ⟨rfl,rfl,Own.nil _ _ _ _,Own.nil _ _ _ _,fun i e v h1=>by simp at h1,fun i e v h1=>by simp at h1,fun b h=>h.elim,(by intro h;cases h),(by intro h;cases h)⟩
theorem eg_called:∀args w,(callFunc 162 args).run Tryz.prog w= .ok (.enter 162 args) w:=fun args w=>run_enter Tryz.func162 (by kernel_rfl) rfl args w
theorem zero_func__:zeroIs Tryz.prog 1=some (some .nilFunc):=by kernel_rfl
theorem run_build_Eop (a:Int)(w:World):(Instr.build 35 #[(0, .int .i64 a)]).run Tryz.prog w= .ok (.agg #[.int .i64 a, .int .i64 0, .string (strOf []), .slice none 0 0]) w:=by
 have hu:=Tryz.underlying35
 go_simp
 rfl
theorem partsP_len {α:Type}(ws:List Wd):∀(ones:List (Nat→Nat→Rs α)) (first:Bool) (p d:Nat) (xs:List α) (q:Nat),partsP ws ones first p d= .ok xs q→xs.length=ones.length
 | [],_,p,d,xs,q,h=>by
  unfold partsP at h
  injection h with h
  rw[←h]
  rfl
 |one::r,first,p,d,xs,q,h=>by
  rw[partsP_cons] at h
  cases h1:(if first=true then Rs.ok () p else signQ ws [44] p) with
  |out=>rw[h1] at h;cases h
  |bad a b=>rw[h1] at h;cases h
  |ok u p1=>
   rw[h1,Rs.bind_ok] at h
   cases h2:one p1 d with
   |out=>rw[h2] at h;cases h
   |bad a b=>rw[h2] at h;cases h
   |ok x p2=>
    rw[h2,Rs.bind_ok] at h
    cases h3:partsP ws r false p2 d with
    |out=>rw[h3] at h;cases h
    |bad a b=>rw[h3] at h;cases h
    |ok ys p3=>
     rw[h3,Rs.bind_ok] at h
     injection h with h _
     rw[←h,List.length_cons,List.length_cons,partsP_len ws r false p2 d ys p3 h3]
theorem withinP_len {α:Type}{ws:List Wd}{ones:List (Nat→Nat→Rs α)}{p d:Nat}{xs:List α}{q:Nat}(h:withinP ws ones p d= .ok xs q):xs.length=ones.length:=by
 unfold withinP at h
 cases h1:signQ ws [40] p with
 |out=>rw[h1] at h;cases h
 |bad a b=>rw[h1] at h;cases h
 |ok u p1=>
  rw[h1,Rs.bind_ok] at h
  cases h2:enterP p1 d with
  |out=>rw[h2] at h;cases h
  |bad a b=>rw[h2] at h;cases h
  |ok u p2=>
   rw[h2,Rs.bind_ok] at h
   cases h3:partsP ws ones true p2 (d+1) with
   |out=>rw[h3] at h;cases h
   |bad a b=>rw[h3] at h;cases h
   |ok ys p3=>
    rw[h3,Rs.bind_ok] at h
    cases h4:signQ ws [41] p3 with
    |out=>rw[h4] at h;cases h
    |bad a b=>rw[h4] at h;cases h
    |ok u p4=>
     rw[h4,Rs.bind_ok] at h
     injection h with h _
     rw[←h]
     exact partsP_len ws ones true p2 (d+1) ys p3 h3
theorem Kp.own {w W:World}{B n size:Nat}{e:TypeId}{v:Value}{xs:List Value}(a:Kp w W)(o:Own w B e size v n xs)(h1:e≠25:=by decide)(h2:e≠35:=by decide)(h3:e≠92:=by decide):Own W B e size v n xs:=by
 obtain⟨r1,⟨r2,r3⟩|⟨g,cap,cur,rfl,e2,e3,e4⟩⟩:=o.row
 ·exact⟨r1, .inl ⟨r2,r3⟩⟩
 ·exact⟨r1, .inr ⟨g,cap,cur,rfl,e2,a.keep g e cur e3 h1 h2 h3,e4⟩⟩
def HasE (K:Ctx)(E0:Nat→Nat→Rs Ex):Prop:=∀p d W,PW K W p d false→E0 p d≠ .out→Calls Tryz.prog 31 #[.pointer (some ⟨K.g,0,none⟩), .int .i64 0] W (PR K W d (E0 p d) (okE W))
theorem called_any (K:Ctx)(hK:K.Ok)(E0:Nat→Nat→Rs Ex)(hE:HasE K E0)(op:Int)(k p d:Nat)(w:World)(pw:PW K w p d false)(hp:p+1≤K.ws.length)(hop:I64 op)(hk:k≤3)(hne:calledP K.ws E0 op k p d≠ .out):
  Calls Tryz.prog 152 #[.pointer (some ⟨K.g,0,none⟩), .int .i64 op, .int .i64 (k:Int)] w (PR K w d (calledP K.ws E0 op k p d) (okE w)):=by
 have bel:=Fz.refl w.heap.size K.g w
 have k99:=pw.blk
 have e99:K.g=K.g:=rfl
 have hlt:=pw.blk.lt
 have hlen:=hK.len
 have hle:=hK.le
 refine Zs 30 Tryz.func152 ?_
 refine Zsr ?_
 refine Seq.box rfl rfl rfl rfl rfl ?_
 intro g3 w1 n3
 have e3:=Nat.le_trans bel.size n3.ge
 have l3:=Nat.lt_of_lt_of_le k99.lt n3.ge
 replace bel:=bel.step n3.below
 replace k99:=k99.step n3.below
 have k3:=n3.blk
 refine Zl zero_api_Expr ?_
 intro g6 w2 n6
 have e6:=Nat.le_trans bel.size n6.ge
 have l6:=Nat.lt_of_lt_of_le k3.lt n6.ge
 replace bel:=bel.step n6.below
 replace k99:=k99.step n6.below
 replace k3:=k3.step n6.below
 have k6:=n6.blk
 refine Zk5 0 1 2 3 6 (Ztq ?_)
 refine Zv (Runs.loadB rfl rfl Tryz.underlying60 rfl k3 rfl) ?_
 refine Zv (Runs.nilCheck rfl rfl) ?_
 refine Zf 1 Tryz.underlying92 ?_
 refine Zv (Runs.loadB rfl rfl Tryz.underlying3 rfl k99 rfl) ?_
 refine Za_ ?_
 refine Zv (Runs.nilCheck rfl rfl) ?_
 refine Zf 1 Tryz.underlying92 ?_
 refine Zq k99 ?_
 intro w3 pw3
 replace bel:=bel.put k99 pw3 e99
 replace k3:=k3.put pw3 (by omega)
 replace k6:=k6.put pw3 (by omega)
 replace k99:=pw3.blk
 refine Zk5 0 1 2 3 6 (Ztq ?_)
 refine Zm ?_
 refine Zv (Runs.build rfl rfl (run_build_Eop op _)) ?_
 refine Zl zero_api_Expr ?_
 intro g7 w4 n7
 have e7:=Nat.le_trans bel.size n7.ge
 have l7:=Nat.lt_of_lt_of_le k6.lt n7.ge
 replace bel:=bel.step n7.below
 replace k99:=k99.step n7.below
 replace k3:=k3.step n7.below
 replace k6:=k6.step n7.below
 have k7:=n7.blk
 refine Zo 4 k7 ?_
 intro w5 pw5
 replace bel:=bel.put k7 pw5 e7
 replace k99:=k99.put pw5 (by omega)
 replace k3:=k3.put pw5 (by omega)
 replace k6:=k6.put pw5 (by omega)
 replace k7:=pw5.blk
 refine Zk6 0 1 2 3 6 7 (Ztq ?_)
 refine Za ?_
 refine Zk7 0 1 2 3 6 7 8 (Zts (Zsr ?_))
 refine Zm ?_
 refine Zm ?_
 refine Zk9 0 1 2 3 6 7 8 18 19 (Zt (Cd.block ?_))
 have pwl:=pw.next hle hp bel k99
 obtain⟨wl,hwl⟩:∃wl,wl=w5:=⟨_,rfl⟩
 rw[←hwl] at pwl bel k3 k6 k7 k99⊢
 have bel0:=bel
 have l37:g3<g7:=by omega
 have hgg7:K.g<g7:=by omega
 have hs0:=bel.size
 replace bel:=Below.refl wl.heap.size wl
 refine Cd.loop (σ:=Nat × Value) (fun s=>[(3, .pointer (some ⟨g3,0,none⟩)),(6, .pointer (some ⟨g6,0,none⟩)),(7, .pointer (some ⟨g7,0,none⟩)),(8,s.2),(18, .int .i64 (k:Int)),(19, .int .i64 (s.1:Int))]) (fun s wr=>s.1≤k∧Below wl.heap.size wl wr∧Own wr wl.heap.size 1 1 s.2 s.1 (List.replicate s.1 (.func (.func 162) #[] #[.pointer (some ⟨g7,0,none⟩), .pointer (some ⟨g3,0,none⟩)]))) (fun s=>k-s.1) (0, .slice none 0 0) ⟨Nat.zero_le _,bel,Own.nil _ _ _ _⟩ ⟨rfl,rfl,rfl,rfl,rfl,rfl,trivial⟩ ?_
 clear bel
 rintro⟨i,v⟩ wr ⟨hi,bel,own⟩
 dsimp only at hi own⊢
 refine Zsr ?_
 refine Zv (Runs.lss rfl rfl rfl) ?_
 refine Zk7 3 6 7 8 18 19 20 (Zts ?_)
 refine Cd.condD rfl (fun hc=> ?_) (fun hc=> ?_)
 ·skip
  refine Cd.skip (Zts (Cd.block (Zr ?_)))
  refine Zm ?_
  refine Zv (Runs.makeFunc (v:= .func (.func 162) #[] #[.pointer (some ⟨g7,0,none⟩), .pointer (some ⟨g3,0,none⟩)]) rfl (show evL _ _=some [] from rfl) (show evL _ _=some [.pointer (some ⟨g7,0,none⟩), .pointer (some ⟨g3,0,none⟩)] from rfl) rfl) ?_
  refine Seq.slice (vs:=[_]) (s:=1) rfl rfl rfl Tryz.underlying101 (by kernel_rfl) (zero_func__) (by omega) (by omega) ⟨rfl,trivial⟩ rfl rfl rfl ?_
  intro g23 w6 n23
  have e23:=Nat.le_trans bel.size n23.ge
  replace bel:=bel.step n23.below
  replace own:=own.step n23.below
  have k23:=n23.blk
  refine Seq.append rfl rfl rfl Tryz.underlying101 (by kernel_rfl) zero_func__ rfl (by decide) (b:=8) (by kernel_rfl) own (Reads.blk k23 1 rfl) (by intro x hx;simp[flatC,Value.cells] at hx;rw[hx];rfl) bel.size (by simp only[maxLen];omega) (by omega) rfl rfl rfl ?_
  clear own
  intro vw7 w7 own haw7
  replace bel:=bel.trans haw7.below
  refine Za ?_
  refine Zk7 3 6 7 8 18 19 20 (Post.block_normal (Ztr ?_))
  refine Za_ ?_
  refine Zm ?_
  refine Zk7 3 6 7 8 18 19 20 ?_
  refine Post.round (i+1,_) ⟨rfl,rfl,rfl,rfl,rfl,rfl,trivial⟩ ⟨by dsimp only;omega,bel,?_⟩ (by dsimp only;omega)
  dsimp only
  rw[List.replicate_succ']
  exact own
 obtain rfl:i=k:=by omega
 have pw9:=pwl.step hle bel
 replace k3:=k3.step bel
 replace k6:=k6.step bel
 replace k7:=k7.step bel
 obtain⟨AP,cP,rfl,-⟩:=own.reads
 have hsr:=bel.size
 obtain⟨R,hR⟩:∃R,R=withinP K.ws (List.replicate i E0) (p+1) d:=⟨_,rfl⟩
 have hcd:calledP K.ws E0 op i p d=R.bind fun xs p=> .ok (.mk op 0 [] xs) p:=by rw[hR];rfl
 have hneR:R≠ .out:=Rs.bind_ne (by rw[←hcd];exact hne)
 have hfl:(List.replicate i (162,[Value.pointer (some ⟨g7,0,none⟩),Value.pointer (some ⟨g3,0,none⟩)])).length=i:=List.length_replicate
 have hrepl:∀ {β:Type} {x y:β} {j:Nat},(List.replicate i x)[j]? =some y→y=x∧j<i:=fun {β x y j} h=>by
  have h1:=(List.getElem?_eq_some_iff.1 h).1
  rw[List.length_replicate] at h1
  rw[List.getElem?_replicate,if_pos h1] at h
  injection h with h
  exact⟨h.symm,h1⟩
 have hwi:=within_any K hK g7 (List.replicate i E0) (List.replicate i (162,[Value.pointer (some ⟨g7,0,none⟩),Value.pointer (some ⟨g3,0,none⟩)])) AP cP
  (fun xs W=>Kp wr W∧∃evs vE S,Blk W g7 35 #[.int .i64 op, .int .i64 0, .string (strOf []),vE]∧ArgQ W g7 g7 xs [] evs [] vE (.slice none 0 0) S) (p+1) d wr pw9 (by have:=k7.lt;omega) (by rw[List.length_replicate,List.length_replicate]) (by rw[List.length_replicate];omega)
  ⟨Kp.refl wr,[],_,_,k7,ArgQ.nil wr g7 g7⟩
  (fun xs W W' p d hM hp hf=>by
   obtain⟨kp,evs,vE,S,kt,aq⟩:=hM
   exact⟨kp.fz hp.blk hf,evs,vE,S,kt.fz hf (by omega),aq.fz hf hgg7⟩)
  (fun xs W j f cp hM hj=>by
   obtain⟨kp,-⟩:=hM
   obtain⟨e1,hji⟩:=hrepl hj
   injection e1 with e1 e2
   subst e1 e2
   obtain⟨A',c',hv,hr⟩:=(kp.own own).reads
   injection hv with hv _ _
   subst hv
   obtain⟨ad,hA,-,hc⟩:=hr.2 (by omega)
   exact⟨ad,hA,hc j _ (by rw[List.getElem?_replicate,if_pos hji])⟩)
  (fun j f cp hj=>by
   obtain⟨e1,-⟩:=hrepl hj
   injection e1 with e1 e2
   subst e1
   exact eg_called)
  (fun j f cp one hj ho xs W p' hxl hpw hW hM hne1=>by
   obtain⟨e1,hji⟩:=hrepl hj
   injection e1 with e1 e2
   subst e1 e2
   obtain⟨e3,-⟩:=hrepl ho
   subst e3
   obtain⟨kp,evs,vE,S,kt,aq⟩:=hM
   exact(calledC_any K hK g7 g7 g3 (d+1) p' op 0 [] xs evs vE S one W hpw hgg7 (Nat.le_refl _) hW kt (kp.blk k3) aq (by omega) (fun W' h1 _=>hE p' (d+1) W' h1 hne1) hne1).mono fun e W' hq=>hq.mono fun a v W' h=>⟨kp.trans h.1,h.2⟩)
  (by rw[←hR];exact hneR)
 rw[←hR,hfl] at hwi
 have e0:Fz w.heap.size K.g w wr:=bel0.step bel
 refine Cd.exit (Post.then_exit (Post.round_exit (Post.block_exit (Ztq ?_))))
 refine Zv (Runs.loadB rfl rfl Tryz.underlying60 rfl k3 rfl) ?_
 refine Zm ?_
 rcases Rs.ok_or hneR with ⟨q,ov,hr⟩|⟨xs,q,hr⟩
 ·rw[hr] at hwi hcd
  refine Seq.callB (Ze Tryz.func51) rfl hwi ?_
  rintro e w6 ⟨hf,rfl,d6,hp6⟩
  refine⟨_,rfl,fun a ha=>⟨ha.defers,?_⟩⟩
  rw[hcd]
  exact⟨e0.trans (hf.less (by omega)),rfl,d6,hp6⟩
 rw[hr] at hwi hcd
 replace hcd:calledP K.ws E0 op i p d= .ok (.mk op 0 [] xs) q:=hcd
 have k6lt:g6<g7:=by omega
 refine Zc (Ze Tryz.func51) (hwi) ?_
 rintro e wq ⟨hf,v6,rfl,pwq,kp6,evs,vE,S,kt6,aq6⟩
 refine⟨_,rfl,?_⟩
 have k66:Blk wq g6 35 #[.int .i64 0, .int .i64 0, .string {data:= #[]}, .slice none 0 0]:=by
  have k6:Blk wr g6 35 #[.int .i64 0, .int .i64 0, .string {data:= #[]}, .slice none 0 0]:=k6
  have h1:=hf.block g6 k6lt (by omega)
  unfold Blk at k6⊢
  rw[h1]
  exact k6
 have e1:Fz w.heap.size K.g w wq:=e0.trans (hf.less (by omega))
 clear hwi
 obtain⟨AX,cX,hvX,-⟩:=aq6.ownE.reads
 subst hvX
 clear k6 k7 bel bel0 k3
 have k6:=k66
 have k7:=kt6
 have bel:=e1
 have hxl:xs.length=i:=by
  have:=withinP_len (hR.symm.trans hr)
  rw[List.length_replicate] at this
  exact this
 have e6:w.heap.size≤g6:=by omega
 have hrx:=aq6.ex op 0 [] hop (by unfold I64;omega) (by simp) (by simp) (by omega)
 have hbn:=aq6.bounds
 have hlq:=k6.lt
 refine Zk7 3 6 7 8 18 19 20 (Ztq ?_)
 refine Zv (Runs.loadW rfl rfl Tryz.underlying35 rfl k7 (m:=4) (by kernel_rfl) rfl) ?_
 refine Zo 4 k6 ?_
 intro w6 pw6
 replace bel:=bel.put k6 pw6 e6
 replace k7:=k7.put pw6 (by omega)
 replace k6:=pw6.blk
 refine Zk7 3 6 7 8 18 19 20 (Zt (Cd.ret ?_))
 refine Post.endC rfl rfl k6 Tryz.underlying35 rfl (m:=4) (by kernel_rfl) rfl (.inl rfl) ?_
 rw[hcd]
 have hsz:=pw6.size
 refine⟨bel,_,rfl,⟨pwq.blk.put pw6 (by omega),pwq.rd.below (pw6.below (by omega) hlq),pwq.p_le,pwq.d_le⟩,_,hrx.mono (fun _ h=>h) (fun a ha=>World.cell?_of_block (pw6.grown.block _ (hbn _ ha).2.1 (fun e=>by injection e with e;have:=(hbn _ ha).1;omega))),fun b hb=> ?_⟩
 obtain⟨h1,h2,-⟩:=hbn b hb
 exact⟨by omega,by omega⟩
end Go.Proofs.YtaamkfajnpobfaaGreat
namespace Go.Proofs.YtaamkfajnpobfaaGreat
open Go.RowKit
theorem Put.all {w w':World}{g m:Nat}{T:TypeId}{cs vc:Array Value}(p:Put w w' g T (cs.toList.take 0++(vc.toList++cs.toList.drop (0+vc.size))).toArray)(h1:vc.size=m)(h2:cs.size=m):Blk w' g T vc:=by
 have hcells:(cs.toList.take 0++(vc.toList++cs.toList.drop (0+vc.size))).toArray=vc:=by
  have:cs.toList.drop (0+vc.size)=[]:=List.drop_of_length_le (by rw[h1];simp[h2])
  rw[this]
  simp
 have:=p.blk
 rwa [hcells] at this
theorem PW.to {K:Ctx}{w W:World}{p d:Nat}{ov:Bool}(h:PW K w p d ov)(hK:K.B≤K.g)(bel:Fz w.heap.size K.g w W)(hb:Blk W K.g 92 #[.slice K.A K.ws.length K.c, .int .i64 (p:Int), .int .i64 (d:Int), .bool ov, .int .i64 (K.en:Int)]):PW K W p d ov:=
 ⟨hb,h.rd.below (bel.below (by have:=h.blk.lt;omega) hK),h.p_le,h.d_le⟩
theorem eg_atom:∀args w,(callFunc 153 args).run Tryz.prog w= .ok (.enter 153 args) w:=fun args w=>run_enter Tryz.func153 (by kernel_rfl) rfl args w
theorem run_build_En (a:Int)(s:List Nat)(w:World):(Instr.build 35 #[(0, .int .i64 a),(2, .string (strOf s))]).run Tryz.prog w= .ok (.agg #[.int .i64 a, .int .i64 0, .string (strOf s), .slice none 0 0]) w:=by
 have hu:=Tryz.underlying35
 go_simp
def OneE (h g:Nat)(xs:List Ex)(W:World):Prop:=∃cs,Blk W g 35 cs∧cs.size=4∧∀x,xs[0]? =some x→∃(S:Nat→Prop) (v:Value),cs=v.cells∧RepE W S x v∧∀b,S b→h≤b∧b<W.heap.size∧b≠g
theorem OneE.fz {h g q:Nat}{xs:List Ex}{W W':World}(m:OneE h g xs W)(f:Fz W.heap.size q W W')(hq:q<h)(hg:h≤g):OneE h g xs W':=by
 obtain⟨cs,h1,h2,h3⟩:=m
 refine⟨cs,h1.fz f (by omega),h2,fun x hx=> ?_⟩
 obtain⟨S,v,e1,e2,e3⟩:=h3 x hx
 refine⟨S,v,e1,e2.mono (fun _ h=>h) (fun a ha=>World.cell?_of_block (f.block _ (e3 _ ha).2.1 (by have:=(e3 _ ha).1;omega))),fun b hb=> ?_⟩
 obtain⟨b1,b2,b3⟩:=e3 b hb
 exact⟨b1,Nat.lt_of_lt_of_le b2 f.size,b3⟩
theorem atomC_any (K:Ctx)(hK:K.Ok)(h0 b1 gt d p:Nat)(T:Nat→Nat→Rs Ex)(w:World)(pw:PW K w p d false)(hg0:K.g<h0)(hgt:h0≤gt)(hh:h0≤w.heap.size)(kb1:Blk w b1 60 #[.pointer (some ⟨K.g,0,none⟩)]) (kt:OneE h0 gt [] w)
  (hc:∀W,PW K W p d false→Fz w.heap.size K.g w W→Calls Tryz.prog 31 #[.pointer (some ⟨K.g,0,none⟩), .int .i64 0] W (PR K W d (T p d) (okE W))) (hne:T p d≠ .out):
  Calls Tryz.prog 153 #[.pointer (some ⟨b1,0,none⟩), .pointer (some ⟨gt,0,none⟩)] w (PRh K h0 w d (T p d) fun x _ W'=>Kp w W'∧OneE h0 gt [x] W'):=by
 have hle:=hK.le
 have bel:=Fz.refl w.heap.size K.g w
 have k1:=kb1
 have hcl:=hc w pw bel
 refine Zs 4 Tryz.func153 ?_
 refine Zr ?_
 refine Zv (Runs.loadB rfl rfl Tryz.underlying60 rfl k1 rfl) ?_
 rcases Rs.ok_or hne with ⟨q,ov,hr⟩|⟨x,q,hr⟩
 ·rw[hr] at hcl
  refine Seq.callB (Ze Tryz.func31) rfl hcl ?_
  rintro e w6 ⟨hf,rfl,d6,hp6⟩
  refine⟨_,rfl,fun a ha=>⟨ha.defers,?_⟩⟩
  rw[hr]
  exact⟨hf.less hh,rfl,d6,hp6⟩
 rw[hr] at hcl⊢
 refine Zc (Ze Tryz.func31) (hcl) ?_
 rintro e wq ⟨hf,v6,rfl,pwq,S,hrep,hb⟩
 refine⟨_,rfl,?_⟩
 obtain⟨cs,h1,h2,-⟩:=kt
 have kq:=h1.fz hf (by omega)
 have hones:=hrep.ones
 have hlt:=h1.lt
 refine Seq.storeN rfl rfl rfl rfl (m:=4) (by kernel_rfl) hones.1 (ones_of hones.2) kq (by rw[hones.1,h2];omega) rfl rfl ?_
 intro w7 p7
 refine Zk2 0 1 ?_
 refine Post.end0 rfl (.inr rfl) ?_
 have hs:=p7.size
 have hcells:(cs.toList.take 0++(v6.cells.toList++cs.toList.drop (0+v6.cells.size))).toArray=v6.cells:=by
  have:cs.toList.drop (0+v6.cells.size)=[]:=List.drop_of_length_le (by rw[hones.1];simp[h2])
  rw[this]
  simp
 have kb:=p7.blk
 rw[hcells] at kb
 refine⟨(hf.less hh).trans ((Fz.refl h0 K.g wq).put kq p7 hgt),_,rfl,⟨pwq.blk.put p7 (by omega),pwq.rd.below (p7.below (by omega) kq.lt),pwq.p_le,pwq.d_le⟩,((Kp.refl w).fz pw.blk hf).put kq p7 hgt,_,kb,hones.1,fun y hy=> ?_⟩
 simp at hy
 subst hy
 exact⟨S,v6,rfl,hrep.mono (fun _ h=>h) (fun a ha=>World.cell?_of_block (p7.grown.block _ (hb _ ha).2 (fun e=>by injection e with e;have:=(hb _ ha).1;omega))),fun b hb'=>⟨by have:=(hb b hb').1;omega,by have:=(hb b hb').2;omega,by have:=(hb b hb').1;omega⟩⟩
theorem atom_any (K:Ctx)(hK:K.Ok)(E0:Nat→Nat→Rs Ex)(hE:HasE K E0)(p d:Nat)(w:World)(pw:PW K w p d false)(hne:atomP K.ws E0 p d≠ .out):
  Calls Tryz.prog 119 #[.pointer (some ⟨K.g,0,none⟩)] w (PR K w d (atomP K.ws E0 p d) (okE w)):=by
 have bel:=Fz.refl w.heap.size K.g w
 have k99:=pw.blk
 have e99:K.g=K.g:=rfl
 have hlt:=pw.blk.lt
 have hlen:=hK.len
 have hle:=hK.le
 have hpl:=pw.p_le
 obtain⟨a1,a2,a3,a4,a5⟩:=hK.at_ p
 obtain⟨b1,b2,b3⟩:=K.at_kind p
 have hw:=fun W h=>word_any K hK p d false W h
 unfold wdV at hw
 have hq:atomP K.ws E0 p d=if(K.at_ p).kind=1 then .ok (.mk 1 (K.at_ p).n [] []) (p+1) else if(K.at_ p).kind=2 then .ok (.mk 2 (K.at_ p).n [] []) (p+1) else if(K.at_ p).kind=3 then
   if(K.at_ p).text=dayW then .ok (.mk 4 0 [] []) (p+1) else if(K.at_ p).text=minW then calledP K.ws E0 9 2 p d else if(K.at_ p).text=maxW then calledP K.ws E0 10 2 p d else if(K.at_ p).text=ifW then calledP K.ws E0 21 3 p d else(nameP K.ws p).bind fun nm p=> .ok (.mk 3 0 nm []) p
  else if(K.at_ p).kind=0 then(withinP K.ws [E0] p d).bind fun xs p=> .ok (xs.getD 0 (.mk 0 0 [] [])) p else .bad p false:=by rw[b1,b2,b3];rfl
 have hp:(K.at_ p).kind≠ -1→p+1≤K.ws.length:=fun hk=>by
  rcases Nat.lt_or_ge p K.ws.length with h|h
  ·exact h
  ·exact absurd (by unfold Ctx.at_;rw[List.getD_eq_getElem?_getD,List.getElem?_eq_none h];rfl) hk
 refine Zs 58 Tryz.func119 ?_
 refine Zsr ?_
 refine Seq.box rfl rfl rfl rfl rfl ?_
 intro g1 w1 n1
 have e1:=Nat.le_trans bel.size n1.ge
 have l1:=Nat.lt_of_lt_of_le k99.lt n1.ge
 replace bel:=bel.step n1.below
 replace k99:=k99.step n1.below
 have k1:=n1.blk
 refine Zl zero_api_Expr ?_
 intro g2 w2 n2
 have e2:=Nat.le_trans bel.size n2.ge
 have l2:=Nat.lt_of_lt_of_le k1.lt n2.ge
 replace bel:=bel.step n2.below
 replace k99:=k99.step n2.below
 replace k1:=k1.step n2.below
 have k2:=n2.blk
 refine Zk3 0 1 2 (Ztq ?_)
 refine Zv (Runs.loadB rfl rfl Tryz.underlying60 rfl k1 rfl) ?_
 refine Zc (Ze Tryz.func49) (hw _ (pw.to hle bel k99)) ?_
 rintro e w5 ⟨rfl,hb5⟩
 refine⟨_,rfl,?_⟩
 replace bel:=bel.step hb5
 replace k99:=k99.step hb5
 replace k1:=k1.step hb5
 replace k2:=k2.step hb5
 refine Zl zero_lex_Word ?_
 intro g3 w3 n3
 have e3:=Nat.le_trans bel.size n3.ge
 have l3:=Nat.lt_of_lt_of_le k2.lt n3.ge
 replace bel:=bel.step n3.below
 replace k99:=k99.step n3.below
 replace k1:=k1.step n3.below
 replace k2:=k2.step n3.below
 have k3:=n3.blk
 refine Zo 4 k3 ?_
 intro w4 pw4
 replace bel:=bel.put k3 pw4 e3
 replace k99:=k99.put pw4 (by omega)
 replace k1:=k1.put pw4 (by omega)
 replace k2:=k2.put pw4 (by omega)
 replace k3:=pw4.blk
 refine Zk4 0 1 2 3 (Ztq ?_)
 refine Zl zero_api_Expr ?_
 intro g4 w5 n4
 have e4:=Nat.le_trans bel.size n4.ge
 have l4:=Nat.lt_of_lt_of_le k3.lt n4.ge
 replace bel:=bel.step n4.below
 replace k99:=k99.step n4.below
 replace k1:=k1.step n4.below
 replace k2:=k2.step n4.below
 replace k3:=k3.step n4.below
 have k4:=n4.blk
 refine Zk5 0 1 2 3 4 (Zts (Zsr ?_))
 refine Zf 0 Tryz.underlying95 ?_
 refine Zv (Runs.loadB rfl rfl Tryz.underlying3 rfl k3 rfl) ?_
 refine Zk6 0 1 2 3 4 8 (Zt (Cd.block (Zsr ?_)))
 refine Zv (Runs.eqlI rfl rfl rfl) ?_
 refine Za ?_
 refine Zk7 0 1 2 3 4 8 11 (Zt ?_)
 refine Cd.condD rfl (fun c1=> ?_) (fun c1=> ?_)
 ·rw[if_pos c1] at hq
  have hp1:=hp (by omega)
  refine Zr ?_
  refine Zf 2 Tryz.underlying95 ?_
  refine Zv (Runs.loadB rfl rfl Tryz.underlying2 rfl k3 rfl) ?_
  refine Zv (Runs.build rfl rfl (run_build_c 1 _ _)) ?_
  refine Zo 4 k4 ?_
  intro w6 pw6
  replace bel:=bel.put k4 pw6 e4
  replace k99:=k99.put pw6 (by omega)
  replace k1:=k1.put pw6 (by omega)
  replace k2:=k2.put pw6 (by omega)
  replace k3:=k3.put pw6 (by omega)
  replace k4:=pw6.blk
  refine Zk7 0 1 2 3 4 8 11 (Post.block_normal (Ztq ?_))
  refine Zv (Runs.loadB rfl rfl Tryz.underlying60 rfl k1 rfl) ?_
  refine Zv (Runs.nilCheck rfl rfl) ?_
  refine Zf 1 Tryz.underlying92 ?_
  refine Zv (Runs.loadB rfl rfl Tryz.underlying3 rfl k99 rfl) ?_
  refine Za_ ?_
  refine Zv (Runs.nilCheck rfl rfl) ?_
  refine Zf 1 Tryz.underlying92 ?_
  refine Zq k99 ?_
  intro w7 pw7
  replace bel:=bel.put k99 pw7 e99
  replace k1:=k1.put pw7 (by omega)
  replace k2:=k2.put pw7 (by omega)
  replace k3:=k3.put pw7 (by omega)
  replace k4:=k4.put pw7 (by omega)
  replace k99:=pw7.blk
  refine Zk7 0 1 2 3 4 8 11 (Ztq ?_)
  refine Zv (Runs.loadW rfl rfl Tryz.underlying35 rfl k4 (m:=4) (by kernel_rfl) rfl) ?_
  refine Zo 4 k2 ?_
  intro w8 pw8
  replace bel:=bel.put k2 pw8 e2
  replace k99:=k99.put pw8 (by omega)
  replace k1:=k1.put pw8 (by omega)
  replace k3:=k3.put pw8 (by omega)
  replace k4:=k4.put pw8 (by omega)
  replace k2:=pw8.blk
  refine Zk7 0 1 2 3 4 8 11 (Zt (Cd.ret ?_))
  refine Post.endC rfl rfl k2 Tryz.underlying35 rfl (m:=4) (by kernel_rfl) rfl (.inl rfl) ?_
  rw[hq]
  exact⟨bel,_,rfl,pw.next hle hp1 bel k99,fun _=>False,RepE.mk (args:=[]) (vs:=[]) rfl (by simp) (by unfold I64;omega) a2 (by simp) (by simp) (fun i e v h=>by simp at h) (fun h=>absurd rfl h),fun b hb=>hb.elim⟩
 rw[if_neg c1] at hq
 refine Zsr ?_
 refine Zv (Runs.eqlI rfl rfl rfl) ?_
 refine Za ?_
 refine Zk8 0 1 2 3 4 8 11 16 (Zt ?_)
 refine Cd.condD rfl (fun c2=> ?_) (fun c2=> ?_)
 ·rw[if_pos c2] at hq
  have hp1:=hp (by omega)
  refine Zr ?_
  refine Zf 2 Tryz.underlying95 ?_
  refine Zv (Runs.loadB rfl rfl Tryz.underlying2 rfl k3 rfl) ?_
  refine Zv (Runs.build rfl rfl (run_build_c 2 _ _)) ?_
  refine Zo 4 k4 ?_
  intro w6 pw6
  replace bel:=bel.put k4 pw6 e4
  replace k99:=k99.put pw6 (by omega)
  replace k1:=k1.put pw6 (by omega)
  replace k2:=k2.put pw6 (by omega)
  replace k3:=k3.put pw6 (by omega)
  replace k4:=pw6.blk
  refine Zk8 0 1 2 3 4 8 11 16 (Post.block_normal (Ztq ?_))
  refine Zv (Runs.loadB rfl rfl Tryz.underlying60 rfl k1 rfl) ?_
  refine Zv (Runs.nilCheck rfl rfl) ?_
  refine Zf 1 Tryz.underlying92 ?_
  refine Zv (Runs.loadB rfl rfl Tryz.underlying3 rfl k99 rfl) ?_
  refine Za_ ?_
  refine Zv (Runs.nilCheck rfl rfl) ?_
  refine Zf 1 Tryz.underlying92 ?_
  refine Zq k99 ?_
  intro w7 pw7
  replace bel:=bel.put k99 pw7 e99
  replace k1:=k1.put pw7 (by omega)
  replace k2:=k2.put pw7 (by omega)
  replace k3:=k3.put pw7 (by omega)
  replace k4:=k4.put pw7 (by omega)
  replace k99:=pw7.blk
  refine Zk8 0 1 2 3 4 8 11 16 (Ztq ?_)
  refine Zv (Runs.loadW rfl rfl Tryz.underlying35 rfl k4 (m:=4) (by kernel_rfl) rfl) ?_
  refine Zo 4 k2 ?_
  intro w8 pw8
  replace bel:=bel.put k2 pw8 e2
  replace k99:=k99.put pw8 (by omega)
  replace k1:=k1.put pw8 (by omega)
  replace k3:=k3.put pw8 (by omega)
  replace k4:=k4.put pw8 (by omega)
  replace k2:=pw8.blk
  refine Zk8 0 1 2 3 4 8 11 16 (Zt (Cd.ret ?_))
  refine Post.endC rfl rfl k2 Tryz.underlying35 rfl (m:=4) (by kernel_rfl) rfl (.inl rfl) ?_
  rw[hq]
  exact⟨bel,_,rfl,pw.next hle hp1 bel k99,fun _=>False,RepE.mk (args:=[]) (vs:=[]) rfl (by simp) (by unfold I64;omega) a2 (by simp) (by simp) (fun i e v h=>by simp at h) (fun h=>absurd rfl h),fun b hb=>hb.elim⟩
 rw[if_neg c2] at hq
 refine Zsr ?_
 refine Zv (Runs.eqlI rfl rfl rfl) ?_
 refine Za ?_
 refine Zk9 0 1 2 3 4 8 11 16 21 (Zt ?_)
 refine Cd.condD rfl (fun c3=> ?_) (fun c3=> ?_)
 ·rw[if_pos c3] at hq
  have hp1:=hp (by omega)
  refine Zsr ?_
  refine Zf 1 Tryz.underlying95 ?_
  refine Zv (Runs.loadB rfl rfl Tryz.underlying9 rfl k3 rfl) ?_
  refine Zk10 0 1 2 3 4 8 11 16 21 24 (Zt (Cd.block (Zsr ?_)))
  refine Zv (Runs.eqlL (b:=dayW) rfl rfl rfl a3 (by decide)) ?_
  refine Za ?_
  refine Zk11 0 1 2 3 4 8 11 16 21 24 28 (Zt ?_)
  refine Cd.condD rfl (fun c4=> ?_) (fun c4=> ?_)
  ·rw[if_pos c4] at hq
   refine Zr ?_
   refine Zv (Runs.build rfl rfl (run_build_Eop 4 _)) ?_
   refine Zo 4 k4 ?_
   intro w6 pw6
   replace bel:=bel.put k4 pw6 e4
   replace k99:=k99.put pw6 (by omega)
   replace k1:=k1.put pw6 (by omega)
   replace k2:=k2.put pw6 (by omega)
   replace k3:=k3.put pw6 (by omega)
   replace k4:=pw6.blk
   refine Zk11 0 1 2 3 4 8 11 16 21 24 28 (Post.block_normal (Post.block_normal (Ztq ?_)))
   refine Zv (Runs.loadB rfl rfl Tryz.underlying60 rfl k1 rfl) ?_
   refine Zv (Runs.nilCheck rfl rfl) ?_
   refine Zf 1 Tryz.underlying92 ?_
   refine Zv (Runs.loadB rfl rfl Tryz.underlying3 rfl k99 rfl) ?_
   refine Za_ ?_
   refine Zv (Runs.nilCheck rfl rfl) ?_
   refine Zf 1 Tryz.underlying92 ?_
   refine Zq k99 ?_
   intro w7 pw7
   replace bel:=bel.put k99 pw7 e99
   replace k1:=k1.put pw7 (by omega)
   replace k2:=k2.put pw7 (by omega)
   replace k3:=k3.put pw7 (by omega)
   replace k4:=k4.put pw7 (by omega)
   replace k99:=pw7.blk
   refine Zk11 0 1 2 3 4 8 11 16 21 24 28 (Ztq ?_)
   refine Zv (Runs.loadW rfl rfl Tryz.underlying35 rfl k4 (m:=4) (by kernel_rfl) rfl) ?_
   refine Zo 4 k2 ?_
   intro w8 pw8
   replace bel:=bel.put k2 pw8 e2
   replace k99:=k99.put pw8 (by omega)
   replace k1:=k1.put pw8 (by omega)
   replace k3:=k3.put pw8 (by omega)
   replace k4:=k4.put pw8 (by omega)
   replace k2:=pw8.blk
   refine Zk11 0 1 2 3 4 8 11 16 21 24 28 (Zt (Cd.ret ?_))
   refine Post.endC rfl rfl k2 Tryz.underlying35 rfl (m:=4) (by kernel_rfl) rfl (.inl rfl) ?_
   rw[hq]
   exact⟨bel,_,rfl,pw.next hle hp1 bel k99,fun _=>False,RepE.mk (args:=[]) (vs:=[]) rfl (by simp) (by unfold I64;omega) (by unfold I64;omega) (by simp) (by simp) (fun i e v h=>by simp at h) (fun h=>absurd rfl h),fun b hb=>hb.elim⟩
  rw[if_neg c4] at hq
  refine Zsr ?_
  refine Zv (Runs.eqlL (b:=minW) rfl rfl rfl a3 (by decide)) ?_
  refine Za ?_
  refine Zk12 0 1 2 3 4 8 11 16 21 24 28 31 (Zt ?_)
  refine Cd.condD rfl (fun c5=> ?_) (fun c5=> ?_)
  ·rw[if_pos c5] at hq
   refine Zsr ?_
   refine Zv (Runs.loadB rfl rfl Tryz.underlying60 rfl k1 rfl) ?_
   have hcd:=called_any K hK E0 hE 9 2 p d _ (pw.to hle bel k99) hp1 (by unfold I64;omega) (by omega) (by rw[←hq];exact hne)
   rw[←hq] at hcd
   have hs0:=bel.size
   have hk2:=k2.lt
   rcases Rs.ok_or hne with ⟨q,ov,hr⟩|⟨x,q,hr⟩
   ·rw[hr] at hcd
    refine Seq.callB (Ze Tryz.func152) rfl hcd ?_
    rintro e w8 ⟨hf,rfl,d6,hp6⟩
    refine⟨_,rfl,fun a ha=>⟨ha.defers,?_⟩⟩
    rw[hr]
    exact⟨bel.call hf,rfl,d6,hp6⟩
   rw[hr] at hcd
   refine Zc (Ze Tryz.func152) (hcd) ?_
   rintro e wq ⟨hf,v6,rfl,pwq,S,hrep,hb⟩
   refine⟨_,rfl,?_⟩
   replace bel:=bel.call hf
   replace k2:=k2.fz hf (by omega)
   have hones:=hrep.ones
   refine Seq.storeN rfl rfl rfl rfl (m:=4) (by kernel_rfl) hones.1 (ones_of hones.2) k2 (by rw[hones.1];exact Nat.le_refl _) rfl rfl ?_
   intro w9 p9
   have pw9:=p9.all hones.1 rfl
   have pb9:=bel.put k2 p9 e2
   have hlt2:=k2.lt
   clear k2 bel
   have k2:=pw9
   have bel:=pb9
   obtain⟨AX,cX,hvX⟩:=hrep.form
   refine Zk12 0 1 2 3 4 8 11 16 21 24 28 31 (Zt (Cd.ret (Post.block_ret (Post.block_ret (Post.then_ret ?_)))))
   subst hvX
   refine Post.endC rfl rfl k2 Tryz.underlying35 rfl (m:=4) (by kernel_rfl) rfl (.inl rfl) ?_
   rw[hr]
   refine⟨bel,_,rfl,⟨pwq.blk.put p9 (by omega),pwq.rd.below (p9.below (by omega) hlt2),pwq.p_le,pwq.d_le⟩,S,hrep.mono (fun _ h=>h) (fun a ha=>World.cell?_of_block (p9.grown.block _ (hb _ ha).2 (fun e=>by injection e with e;have:=(hb _ ha).1;omega))),fun b hb'=> ?_⟩
   obtain⟨h1,h2⟩:=hb b hb'
   have:=p9.size
   exact⟨by omega,by omega⟩
  rw[if_neg c5] at hq
  refine Zsr ?_
  refine Zv (Runs.eqlL (b:=maxW) rfl rfl rfl a3 (by decide)) ?_
  refine Za ?_
  refine Zk13 0 1 2 3 4 8 11 16 21 24 28 31 35 (Zt ?_)
  refine Cd.condD rfl (fun c6=> ?_) (fun c6=> ?_)
  ·rw[if_pos c6] at hq
   refine Zsr ?_
   refine Zv (Runs.loadB rfl rfl Tryz.underlying60 rfl k1 rfl) ?_
   have hcd:=called_any K hK E0 hE 10 2 p d _ (pw.to hle bel k99) hp1 (by unfold I64;omega) (by omega) (by rw[←hq];exact hne)
   rw[←hq] at hcd
   have hs0:=bel.size
   have hk2:=k2.lt
   rcases Rs.ok_or hne with ⟨q,ov,hr⟩|⟨x,q,hr⟩
   ·rw[hr] at hcd
    refine Seq.callB (Ze Tryz.func152) rfl hcd ?_
    rintro e w8 ⟨hf,rfl,d6,hp6⟩
    refine⟨_,rfl,fun a ha=>⟨ha.defers,?_⟩⟩
    rw[hr]
    exact⟨bel.call hf,rfl,d6,hp6⟩
   rw[hr] at hcd
   refine Zc (Ze Tryz.func152) (hcd) ?_
   rintro e wq ⟨hf,v6,rfl,pwq,S,hrep,hb⟩
   refine⟨_,rfl,?_⟩
   replace bel:=bel.call hf
   replace k2:=k2.fz hf (by omega)
   have hones:=hrep.ones
   refine Seq.storeN rfl rfl rfl rfl (m:=4) (by kernel_rfl) hones.1 (ones_of hones.2) k2 (by rw[hones.1];exact Nat.le_refl _) rfl rfl ?_
   intro w9 p9
   have pw9:=p9.all hones.1 rfl
   have pb9:=bel.put k2 p9 e2
   have hlt2:=k2.lt
   clear k2 bel
   have k2:=pw9
   have bel:=pb9
   obtain⟨AX,cX,hvX⟩:=hrep.form
   refine Zk13 0 1 2 3 4 8 11 16 21 24 28 31 35 (Zt (Cd.ret (Post.block_ret (Post.block_ret (Post.then_ret ?_)))))
   subst hvX
   refine Post.endC rfl rfl k2 Tryz.underlying35 rfl (m:=4) (by kernel_rfl) rfl (.inl rfl) ?_
   rw[hr]
   refine⟨bel,_,rfl,⟨pwq.blk.put p9 (by omega),pwq.rd.below (p9.below (by omega) hlt2),pwq.p_le,pwq.d_le⟩,S,hrep.mono (fun _ h=>h) (fun a ha=>World.cell?_of_block (p9.grown.block _ (hb _ ha).2 (fun e=>by injection e with e;have:=(hb _ ha).1;omega))),fun b hb'=> ?_⟩
   obtain⟨h1,h2⟩:=hb b hb'
   have:=p9.size
   exact⟨by omega,by omega⟩
  rw[if_neg c6] at hq
  refine Zsr ?_
  refine Zv (Runs.eqlL (b:=ifW) rfl rfl rfl a3 (by decide)) ?_
  refine Za ?_
  refine Zk14 0 1 2 3 4 8 11 16 21 24 28 31 35 39 (Zt ?_)
  refine Cd.condD rfl (fun c7=> ?_) (fun c7=> ?_)
  ·rw[if_pos c7] at hq
   refine Zsr ?_
   refine Zv (Runs.loadB rfl rfl Tryz.underlying60 rfl k1 rfl) ?_
   have hcd:=called_any K hK E0 hE 21 3 p d _ (pw.to hle bel k99) hp1 (by unfold I64;omega) (by omega) (by rw[←hq];exact hne)
   rw[←hq] at hcd
   have hs0:=bel.size
   have hk2:=k2.lt
   rcases Rs.ok_or hne with ⟨q,ov,hr⟩|⟨x,q,hr⟩
   ·rw[hr] at hcd
    refine Seq.callB (Ze Tryz.func152) rfl hcd ?_
    rintro e w8 ⟨hf,rfl,d6,hp6⟩
    refine⟨_,rfl,fun a ha=>⟨ha.defers,?_⟩⟩
    rw[hr]
    exact⟨bel.call hf,rfl,d6,hp6⟩
   rw[hr] at hcd
   refine Zc (Ze Tryz.func152) (hcd) ?_
   rintro e wq ⟨hf,v6,rfl,pwq,S,hrep,hb⟩
   refine⟨_,rfl,?_⟩
   replace bel:=bel.call hf
   replace k2:=k2.fz hf (by omega)
   have hones:=hrep.ones
   refine Seq.storeN rfl rfl rfl rfl (m:=4) (by kernel_rfl) hones.1 (ones_of hones.2) k2 (by rw[hones.1];exact Nat.le_refl _) rfl rfl ?_
   intro w9 p9
   have pw9:=p9.all hones.1 rfl
   have pb9:=bel.put k2 p9 e2
   have hlt2:=k2.lt
   clear k2 bel
   have k2:=pw9
   have bel:=pb9
   obtain⟨AX,cX,hvX⟩:=hrep.form
   refine Zk14 0 1 2 3 4 8 11 16 21 24 28 31 35 39 (Zt (Cd.ret (Post.block_ret (Post.block_ret (Post.then_ret ?_)))))
   subst hvX
   refine Post.endC rfl rfl k2 Tryz.underlying35 rfl (m:=4) (by kernel_rfl) rfl (.inl rfl) ?_
   rw[hr]
   refine⟨bel,_,rfl,⟨pwq.blk.put p9 (by omega),pwq.rd.below (p9.below (by omega) hlt2),pwq.p_le,pwq.d_le⟩,S,hrep.mono (fun _ h=>h) (fun a ha=>World.cell?_of_block (p9.grown.block _ (hb _ ha).2 (fun e=>by injection e with e;have:=(hb _ ha).1;omega))),fun b hb'=> ?_⟩
   obtain⟨h1,h2⟩:=hb b hb'
   have:=p9.size
   exact⟨by omega,by omega⟩
  rw[if_neg c7] at hq
  have hnm:=name_any K hK p d _ (pw.to hle bel k99)
  refine Zsr ?_
  refine Zv (Runs.loadB rfl rfl Tryz.underlying60 rfl k1 rfl) ?_
  rcases Rs.ok_or (nameP_ne K.ws p) with ⟨q,ov,hr⟩|⟨x,q,hr⟩
  ·rw[hr] at hnm hq
   refine Seq.callB (Ze Tryz.func53) rfl hnm ?_
   rintro e w8 ⟨hf,rfl,d6,hp6⟩
   refine⟨_,rfl,fun a ha=>⟨ha.defers,?_⟩⟩
   rw[hq]
   exact⟨bel.call hf,rfl,d6,hp6⟩
  have hx:x=(K.at_ p).text:=by
   unfold nameP at hr
   split at hr
   ·injection hr with hr;rw[←hr,b2]
   ·cases hr
  rw[hr] at hnm hq
  replace hq:atomP K.ws E0 p d= .ok (.mk 3 0 x []) q:=hq
  refine Zc (Ze Tryz.func53) (hnm) ?_
  rintro e wq ⟨hf,v6,rfl,pwq,rfl⟩
  refine⟨_,rfl,?_⟩
  replace bel:=bel.call hf
  replace k2:=k2.fz hf (by omega)
  replace k99:=pwq.blk
  have loc:=Fz.refl wq.heap.size K.g wq
  have hlt2:=k2.lt
  refine Zv (Runs.build rfl rfl (run_build_En 3 _ _)) ?_
  refine Zo 4 k2 ?_
  intro w6 pw6
  replace bel:=bel.put k2 pw6 e2
  replace k99:=k99.put pw6 (by omega)
  replace k2:=pw6.blk
  refine Zk14 0 1 2 3 4 8 11 16 21 24 28 31 35 39 (Zt (Cd.ret (Post.block_ret (Post.block_ret (Post.then_ret ?_)))))
  refine Post.endC rfl rfl k2 Tryz.underlying35 rfl (m:=4) (by kernel_rfl) rfl (.inl rfl) ?_
  rw[hq]
  exact⟨bel,_,rfl,⟨k99,pwq.rd.below (pw6.below (by omega) hlt2),pwq.p_le,pwq.d_le⟩,fun _=>False,RepE.mk (args:=[]) (vs:=[]) rfl (by simp) (by unfold I64;omega) (by unfold I64;omega) (by rw[hx];exact a3) (by rw[hx];omega) (fun i e v h=>by simp at h) (fun h=>absurd rfl h),fun b hb=>hb.elim⟩
 rw[if_neg c3] at hq
 refine Zsr ?_
 refine Zv (Runs.eqlI rfl rfl rfl) ?_
 refine Za ?_
 refine Zk10 0 1 2 3 4 8 11 16 21 43 (Zt ?_)
 refine Cd.condD rfl (fun c8=> ?_) (fun c8=> ?_)
 ·rw[if_pos c8] at hq
  refine Zsr ?_
  refine Zv (Runs.loadB rfl rfl Tryz.underlying60 rfl k1 rfl) ?_
  refine Zv (Runs.makeFunc (v:= .func (.func 153) #[] #[.pointer (some ⟨g1,0,none⟩), .pointer (some ⟨g4,0,none⟩)]) rfl (show evL _ _=some [] from rfl) (show evL _ _=some [.pointer (some ⟨g1,0,none⟩), .pointer (some ⟨g4,0,none⟩)] from rfl) rfl) ?_
  refine Seq.slice (vs:=[_]) (s:=1) rfl rfl rfl Tryz.underlying101 (by kernel_rfl) (zero_func__) (by omega) (by omega) ⟨rfl,trivial⟩ rfl rfl rfl ?_
  intro g47 w6 n47
  have e47:=Nat.le_trans bel.size n47.ge
  have l47:=Nat.lt_of_lt_of_le k4.lt n47.ge
  replace bel:=bel.step n47.below
  replace k99:=k99.step n47.below
  replace k1:=k1.step n47.below
  replace k2:=k2.step n47.below
  replace k3:=k3.step n47.below
  replace k4:=k4.step n47.below
  have k47:=n47.blk
  have pw8:=pw.to hle bel k99
  obtain⟨wr,hwr⟩:∃wr,wr=w6:=⟨_,rfl⟩
  rw[←hwr] at pw8 bel k1 k2 k4 k47⊢
  obtain⟨R,hR⟩:∃R,R=withinP K.ws [E0] p d:=⟨_,rfl⟩
  rw[←hR] at hq
  have hneR:R≠ .out:=Rs.bind_ne (by rw[←hq];exact hne)
  have hgg4:K.g<g4:=by omega
  have hwi:=within_any K hK g4 [E0] [(153,[Value.pointer (some ⟨g1,0,none⟩),Value.pointer (some ⟨g4,0,none⟩)])] (some ⟨g47,0,none⟩) 1
   (fun xs W=>Kp wr W∧OneE g4 g4 xs W) p d wr pw8 (Nat.le_of_lt k4.lt) rfl (by simp)
   ⟨Kp.refl wr,_,k4,rfl,fun x hx=>by simp at hx⟩
   (fun xs W W' p d hM hp hf=>⟨hM.1.fz hp.blk hf,hM.2.fz hf hgg4 (Nat.le_refl _)⟩)
   (fun xs W j f cp hM hj=>by
    match j,hj with
    |0,hj=>
     simp at hj
     obtain⟨e1,e2⟩:=hj
     subst e1 e2
     refine⟨_,rfl,?_⟩
     have hb:=(hM.1.blk k47).cell 0
     exact hb
    |j+1,hj=>simp at hj)
   (fun j f cp hj=>by
    match j,hj with
    |0,hj=>
     simp at hj
     obtain⟨e1,e2⟩:=hj
     subst e1
     exact eg_atom
    |j+1,hj=>simp at hj)
   (fun j f cp one hj ho xs W p' hxl hpw hW hM hne1=>by
    match j,hj,ho,hxl with
    |0,hj,ho,hxl=>
     simp at hj ho
     obtain⟨e1,e2⟩:=hj
     subst e1 e2 ho
     have hx0:xs=[]:=List.eq_nil_of_length_eq_zero hxl
     subst hx0
     exact(atomC_any K hK g4 g1 g4 (d+1) p' E0 W hpw hgg4 (Nat.le_refl _) hW (hM.1.blk k1) hM.2 (fun W' h1 _=>hE p' (d+1) W' h1 hne1) hne1).mono fun e W' hq=>hq.mono fun a v W' h=>⟨hM.1.trans h.1,h.2⟩
    |j+1,hj,_,_=>simp at hj)
   (by rw[←hR];exact hneR)
  rw[←hR] at hwi
  rcases Rs.ok_or hneR with ⟨q,ov,hr⟩|⟨xs,q,hr⟩
  ·rw[hr] at hwi hq
   refine Seq.callB (Ze Tryz.func51) rfl hwi ?_
   rintro e w8 ⟨hf,rfl,d6,hp6⟩
   refine⟨_,rfl,fun a ha=>⟨ha.defers,?_⟩⟩
   rw[hq]
   exact⟨bel.trans (hf.less (by omega)),rfl,d6,hp6⟩
  have hxl:=withinP_len (hR.symm.trans hr)
  obtain⟨x,rfl⟩:∃x,xs=[x]:=by
   match xs,hxl with
   | [x],_=>exact⟨x,rfl⟩
  rw[hr] at hwi hq
  replace hq:atomP K.ws E0 p d= .ok x q:=hq
  refine Zc (Ze Tryz.func51) (hwi) ?_
  rintro e wq ⟨hf,v6,rfl,pwq,kpq,cs,k4q,hcs4,hx⟩
  refine⟨_,rfl,?_⟩
  obtain⟨S,v,rfl,hrep,hb⟩:=hx x rfl
  have k2q:Blk wq g2 35 #[.int .i64 0, .int .i64 0, .string {data:= #[]}, .slice none 0 0]:=by
   have h2:Blk wr g2 35 #[.int .i64 0, .int .i64 0, .string {data:= #[]}, .slice none 0 0]:=k2
   have h1:=hf.block g2 (by omega) (by omega)
   unfold Blk at h2⊢
   rw[h1]
   exact h2
  have belq:Fz w.heap.size K.g w wq:=bel.trans (hf.less (by omega))
  clear bel k1 k2 k3 k4 k47 k99
  have bel:=belq
  have k2:=k2q
  obtain⟨AX,cX,hvX⟩:=hrep.form
  subst hvX
  have k4:=k4q
  have hlt2:=k2.lt
  refine Zk10 0 1 2 3 4 8 11 16 21 43 (Ztq ?_)
  refine Zv (Runs.loadW rfl rfl Tryz.underlying35 rfl k4 (m:=4) (by kernel_rfl) rfl) ?_
  refine Zo 4 k2 ?_
  intro w7 pw7
  replace bel:=bel.put k2 pw7 e2
  replace k4:=k4.put pw7 (by omega)
  replace k2:=pw7.blk
  refine Zk10 0 1 2 3 4 8 11 16 21 43 (Zt (Cd.ret (Post.block_ret (Post.then_ret ?_))))
  refine Post.endC rfl rfl k2 Tryz.underlying35 rfl (m:=4) (by kernel_rfl) rfl (.inl rfl) ?_
  rw[hq]
  refine⟨bel,_,rfl,⟨pwq.blk.put pw7 (by omega),pwq.rd.below (pw7.below (by omega) hlt2),pwq.p_le,pwq.d_le⟩,S,hrep.mono (fun _ h=>h) (fun a ha=>World.cell?_of_block (pw7.grown.block _ (hb _ ha).2.1 (fun e=>by injection e with e;have:=(hb _ ha).1;omega))),fun b hb'=> ?_⟩
  obtain⟨h1,h2,h3⟩:=hb b hb'
  have:=pw7.size
  exact⟨by omega,by omega⟩
 rw[if_neg c8] at hq
 refine Zr ?_
 refine Zv (Runs.loadB rfl rfl Tryz.underlying60 rfl k1 rfl) ?_
 refine Seq.callB (Ze Tryz.func50) rfl (fail_any K.g _) ?_
 rintro e w6 ⟨rfl,hb6⟩
 refine⟨_,rfl,fun a ha=>⟨ha.defers,?_⟩⟩
 rw[hq]
 exact⟨bel.step hb6,rfl,d,pw.to hle (bel.step hb6) (k99.step hb6)⟩
theorem run_build_s1 (a:Int)(g:Nat)(w:World):(Instr.build 35 #[(0, .int .i64 a),(3, .slice (some ⟨g,0,none⟩) 1 1)]).run Tryz.prog w= .ok (.agg #[.int .i64 a, .int .i64 0, .string (strOf []), .slice (some ⟨g,0,none⟩) 1 1]) w:=by
 have hu:=Tryz.underlying35
 go_simp
 rfl
structure ReS (lo hi:Nat)(S:Nat→Prop)(x:Ex)(v:Value)(W:World):Prop where
 rep:RepE W S x v
 bd:∀b,S b→lo≤b∧b<hi
 hi_le:hi≤W.heap.size
theorem ReS.step {lo hi:Nat}{S:Nat→Prop}{x:Ex}{v:Value}{W W':World}(r:ReS lo hi S x v W)(h:Below W.heap.size W W'):ReS lo hi S x v W':=
 ⟨r.rep.mono (fun _ h=>h) (fun a ha=>h.cell (Nat.lt_of_lt_of_le (r.bd _ ha).2 r.hi_le)),r.bd,Nat.le_trans r.hi_le h.size⟩
theorem ReS.put {lo hi g:Nat}{T:TypeId}{cur cs:Array Value}{S:Nat→Prop}{x:Ex}{v:Value}{W W':World}(r:ReS lo hi S x v W)(_k:Blk W g T cur)(p:Put W W' g T cs){E:Prop}(_e:E)(hne:g<lo∨hi≤g:=by omega):ReS lo hi S x v W':=
 ⟨r.rep.mono (fun _ h=>h) (fun a ha=>World.cell?_of_block (p.grown.block _ (Nat.lt_of_lt_of_le (r.bd _ ha).2 r.hi_le) (fun e=>by injection e with e;have:=r.bd _ ha;omega))),r.bd,Nat.le_trans r.hi_le (Nat.le_of_eq p.size.symm)⟩
def HasS (K:Ctx)(S0:Nat→Nat→Rs Ex):Prop:=∀p d W,PW K W p d false→S0 p d≠ .out→Calls Tryz.prog 71 #[.pointer (some ⟨K.g,0,none⟩)] W (PR K W d (S0 p d) (okE W))
theorem unary_any (K:Ctx)(hK:K.Ok)(S0 E0:Nat→Nat→Rs Ex)(hS:HasS K S0)(hE:HasE K E0)(p d:Nat)(w:World)(pw:PW K w p d false)(hne:unaryP K.ws S0 E0 p d≠ .out):
  Calls Tryz.prog 71 #[.pointer (some ⟨K.g,0,none⟩)] w (PR K w d (unaryP K.ws S0 E0 p d) (okE w)):=by
 have bel:=Fz.refl w.heap.size K.g w
 have k99:=pw.blk
 have e99:K.g=K.g:=rfl
 have hlt:=pw.blk.lt
 have hlen:=hK.len
 have hle:=hK.le
 have hpl:=pw.p_le
 have his:=fun(s:List Nat) (hs:∀x∈s,x<256) W h=>is_any K hK p d false 0 s W h hs
 have hq:unaryP K.ws S0 E0 p d=if isS K.ws p [33]=true then aheadP S0 19 p d else if isS K.ws p [45]=true then aheadP S0 20 p d else atomP K.ws E0 p d:=rfl
 have hp:∀s,isS K.ws p s=true→p+1≤K.ws.length:=fun s hk=>by
  rcases Nat.lt_or_ge p K.ws.length with h|h
  ·exact h
  ·unfold isS at hk
   have h1:wAt K.ws p=⟨-1,[],0,0⟩:=by unfold wAt;rw[List.getD_eq_getElem?_getD,List.getElem?_eq_none h];rfl
   rw[h1] at hk
   simp at hk
 refine Zs 35 Tryz.func71 ?_
 refine Zsr ?_
 refine Zl zero_api_Expr ?_
 intro g2 w1 n2
 have e2:=Nat.le_trans bel.size n2.ge
 have l2:=Nat.lt_of_lt_of_le k99.lt n2.ge
 replace bel:=bel.step n2.below
 replace k99:=k99.step n2.below
 have k2:=n2.blk
 refine Zk2 0 2 (Ztq ?_)
 refine Za ?_
 refine Zk3 0 2 3 (Zts (Cd.block (Zsr ?_)))
 refine Zm ?_
 refine Zc (Ze Tryz.func118) (his [33] (by decide) _ (pw.to hle bel k99)) ?_
 rintro e w5 ⟨rfl,hb5⟩
 refine⟨_,rfl,?_⟩
 replace bel:=bel.step hb5
 replace k99:=k99.step hb5
 replace k2:=k2.step hb5
 refine Za ?_
 refine Zk4 0 2 3 7 (Zt ?_)
 refine Cd.cond rfl (fun c1=> ?_) (fun c1=> ?_)
 ·have c1:isS K.ws p [33]=true:=c1
  have hp1:=hp _ c1
  rw[if_pos c1] at hq
  have hen:=enter_any K hK p d _ (pw.to hle bel k99)
  refine Zr ?_
  refine Za ?_
  refine Zk4 0 2 3 7 (Post.block_normal (Ztq ?_))
  refine Zm ?_
  rcases Rs.ok_or (enterP_ne p d) with ⟨p2,o2,hr2⟩|⟨u2,p2,hr2⟩
  ·unfold aheadP at hq
   rw[hr2] at hen hq
   refine Seq.callB (Ze Tryz.func99) rfl hen ?_
   rintro e w6 ⟨hf,rfl,d6,hp6⟩
   refine⟨_,rfl,fun a ha=>⟨ha.defers,?_⟩⟩
   rw[hq]
   exact⟨bel.call hf,rfl,d6,hp6⟩
  have hp2:p2=p:=by
   unfold enterP at hr2
   split at hr2
   ·cases hr2
   ·injection hr2 with _ h;exact h.symm
  subst hp2
  unfold aheadP at hq
  rw[hr2] at hen hq
  replace hq:unaryP K.ws S0 E0 p2 d=(S0 (p2+1) (d+1)).bind fun x p=> .ok (.mk 19 0 [] [x]) p:=hq
  have hne1:S0 (p2+1) (d+1)≠ .out:=Rs.bind_ne (by rw[←hq];exact hne)
  refine Zc (Ze Tryz.func99) (hen) ?_
  rintro e we ⟨hfe,v6,rfl,pwe,-⟩
  refine⟨_,rfl,?_⟩
  replace bel:=bel.call hfe
  replace k2:=k2.fz hfe (by omega)
  replace k99:=pwe.blk
  have loc:=Fz.refl we.heap.size K.g we
  refine Zk4 0 2 3 7 (Ztq ?_)
  refine Zm ?_
  refine Zv (Runs.nilCheck rfl rfl) ?_
  refine Zf 1 Tryz.underlying92 ?_
  refine Zv (Runs.loadB rfl rfl Tryz.underlying3 rfl k99 rfl) ?_
  refine Za_ ?_
  refine Zv (Runs.nilCheck rfl rfl) ?_
  refine Zf 1 Tryz.underlying92 ?_
  refine Zq k99 ?_
  intro w2 pw2
  replace bel:=bel.put k99 pw2 e99
  replace k2:=k2.put pw2 (by omega)
  replace loc:=loc.put k99 pw2 e99
  replace k99:=pw2.blk
  refine Zk4 0 2 3 7 (Ztq ?_)
  refine Zm ?_
  have pwn:=pwe.next hle hp1 loc k99
  have hun:=hS (p2+1) (d+1) _ pwn hne1
  rcases Rs.ok_or hne1 with ⟨q,ov,hr⟩|⟨x,q,hr⟩
  ·rw[hr] at hun hq
   refine Seq.callB (Ze Tryz.func71) rfl hun ?_
   rintro e w6 ⟨hf,rfl,d6,hp6⟩
   refine⟨_,rfl,fun a ha=>⟨ha.defers,?_⟩⟩
   rw[hq]
   exact⟨bel.call hf,rfl,d6,hp6⟩
  rw[hr] at hun hq
  replace hq:unaryP K.ws S0 E0 p2 d= .ok (.mk 19 0 [] [x]) q:=hq
  have hk2:=k2.lt
  have hsb:=bel.size
  refine Zc (Ze Tryz.func71) (hun) ?_
  rintro e wq ⟨hf,v6,rfl,pwq,S,hrep,hb⟩
  refine⟨_,rfl,?_⟩
  replace bel:=bel.call hf
  replace k2:=k2.fz hf (by omega)
  replace k99:=pwq.blk
  have hones:=hrep.ones
  have hsf:=hf.size
  have rs:ReS _ wq.heap.size S x v6 wq:=⟨hrep,hb,Nat.le_refl _⟩
  clear loc
  obtain⟨AX,cX,hvX⟩:=hrep.form
  subst hvX
  have hd64:=pwq.deep
  refine Zl zero_api_Expr ?_
  intro g4 w3 n4
  have q4:=n4.ge
  have e4:=Nat.le_trans bel.size n4.ge
  have l4:=Nat.lt_of_lt_of_le k2.lt n4.ge
  replace bel:=bel.step n4.below
  replace k99:=k99.step n4.below
  replace k2:=k2.step n4.below
  replace rs:=rs.step n4.below
  have k4:=n4.blk
  refine Zo 4 k4 ?_
  intro w4 pw4
  replace bel:=bel.put k4 pw4 e4
  replace k99:=k99.put pw4 (by omega)
  replace k2:=k2.put pw4 (by omega)
  replace rs:=rs.put k4 pw4 e4
  replace k4:=pw4.blk
  refine Zk5 0 2 3 4 7 (Ztq ?_)
  refine Zm ?_
  refine Zv (Runs.nilCheck rfl rfl) ?_
  refine Zf 2 Tryz.underlying92 ?_
  refine Zv (Runs.loadB rfl rfl Tryz.underlying3 rfl k99 rfl) ?_
  refine Zv (Runs.subI rfl rfl rfl (by omega) (by omega)) ?_
  refine Zv (Runs.nilCheck rfl rfl) ?_
  refine Zf 2 Tryz.underlying92 ?_
  refine Zq k99 ?_
  intro w5 pw5
  replace bel:=bel.put k99 pw5 e99
  replace k2:=k2.put pw5 (by omega)
  replace rs:=rs.put k99 pw5 e99
  replace k4:=k4.put pw5 (by omega)
  replace k99:=pw5.blk
  refine Zk5 0 2 3 4 7 (Ztq ?_)
  refine Zm ?_
  refine Zv (Runs.loadW rfl rfl Tryz.underlying35 rfl k4 (m:=4) (by kernel_rfl) rfl) ?_
  refine Seq.slice (vs:=[_]) (s:=4) rfl rfl rfl Tryz.underlying22 (by kernel_rfl) (zero_api_Expr) (by omega) (by omega) ⟨rfl,trivial⟩ rfl rfl rfl ?_
  intro g33 w6 n33
  have q33:=n33.ge
  have e33:=Nat.le_trans bel.size n33.ge
  have l33:=Nat.lt_of_lt_of_le k4.lt n33.ge
  replace bel:=bel.step n33.below
  replace k99:=k99.step n33.below
  replace k2:=k2.step n33.below
  replace rs:=rs.step n33.below
  replace k4:=k4.step n33.below
  have k33:=n33.blk
  refine Zv (Runs.build rfl rfl (run_build_s1 19 _ _)) ?_
  refine Zo 4 k2 ?_
  intro w7 pw7
  replace bel:=bel.put k2 pw7 e2
  replace k99:=k99.put pw7 (by omega)
  replace rs:=rs.put k2 pw7 e2
  replace k4:=k4.put pw7 (by omega)
  replace k33:=k33.put pw7 (by omega)
  replace k2:=pw7.blk
  refine Zk5 0 2 3 4 7 (Zt (Cd.ret ?_))
  refine Post.endC rfl rfl k2 Tryz.underlying35 rfl (m:=4) (by kernel_rfl) rfl (.inl rfl) ?_
  have hcast:((d+1:Nat):Int)-1=(d:Int):=by omega
  rw[hcast] at k99
  rw[hq]
  have hadd:(⟨g33,0,none⟩:Addr).add=fun j=>⟨g33,j,none⟩:=by funext j;unfold Addr.add;split<;>simp_all
  refine⟨bel,_,rfl,⟨k99,pw.rd.below (bel.below (by omega) hle),pwq.p_le, .inl (by omega)⟩,(fun b=>S b∨b=g33),RepE.mk (args:=[x]) (vs:=[.agg #[.int .i64 x.op, .int .i64 x.n, .string (strOf x.name), .slice AX x.args.length cX]]) rfl (by simp) (by unfold I64;omega) (by unfold I64;omega) (by simp) (by simp) (fun i e v h1 h2=> ?_) (fun _=>⟨⟨g33,0,none⟩,rfl, .inr rfl,fun j u hu=> ?_⟩),fun b hb'=> ?_⟩
  ·match i,h1,h2 with
   |0,h1,h2=>
    simp at h1 h2
    subst h1 h2
    exact rs.rep.mono (fun _ h=> .inl h) (fun _ _=>rfl)
   |i+1,h1,_=>simp at h1
  ·rw[hadd,k33.cell j]
   have hu2:(flatC [Value.agg #[.int .i64 x.op, .int .i64 x.n, .string (strOf x.name), .slice AX x.args.length cX]]).toArray[j]? =some u:=by simpa using hu
   exact hu2
  ·rcases hb' with hb'|rfl
   ·obtain⟨h1,h2⟩:=hb b hb'
    have:=rs.hi_le
    exact⟨by omega,by omega⟩
   ·exact⟨by omega,k33.lt⟩
 have c1:isS K.ws p [33]=false:=c1
 rw[if_neg (by rw[c1];simp)] at hq
 refine Zsr ?_
 refine Zm ?_
 refine Zc (Ze Tryz.func118) (his [45] (by decide) _ (pw.to hle bel k99)) ?_
 rintro e w6 ⟨rfl,hb6⟩
 refine⟨_,rfl,?_⟩
 replace bel:=bel.step hb6
 replace k99:=k99.step hb6
 replace k2:=k2.step hb6
 refine Za ?_
 refine Zk5 0 2 3 7 10 (Zt ?_)
 refine Cd.cond rfl (fun c2=> ?_) (fun c2=> ?_)
 ·have c2:isS K.ws p [45]=true:=c2
  have hp1:=hp _ c2
  rw[if_pos c2] at hq
  have hen:=enter_any K hK p d _ (pw.to hle bel k99)
  refine Zr ?_
  refine Za ?_
  refine Zk5 0 2 3 7 10 (Post.block_normal (Ztq ?_))
  refine Zm ?_
  rcases Rs.ok_or (enterP_ne p d) with ⟨p2,o2,hr2⟩|⟨u2,p2,hr2⟩
  ·unfold aheadP at hq
   rw[hr2] at hen hq
   refine Seq.callB (Ze Tryz.func99) rfl hen ?_
   rintro e w6 ⟨hf,rfl,d6,hp6⟩
   refine⟨_,rfl,fun a ha=>⟨ha.defers,?_⟩⟩
   rw[hq]
   exact⟨bel.call hf,rfl,d6,hp6⟩
  have hp2:p2=p:=by
   unfold enterP at hr2
   split at hr2
   ·cases hr2
   ·injection hr2 with _ h;exact h.symm
  subst hp2
  unfold aheadP at hq
  rw[hr2] at hen hq
  replace hq:unaryP K.ws S0 E0 p2 d=(S0 (p2+1) (d+1)).bind fun x p=> .ok (.mk 20 0 [] [x]) p:=hq
  have hne1:S0 (p2+1) (d+1)≠ .out:=Rs.bind_ne (by rw[←hq];exact hne)
  refine Zc (Ze Tryz.func99) (hen) ?_
  rintro e we ⟨hfe,v6,rfl,pwe,-⟩
  refine⟨_,rfl,?_⟩
  replace bel:=bel.call hfe
  replace k2:=k2.fz hfe (by omega)
  replace k99:=pwe.blk
  have loc:=Fz.refl we.heap.size K.g we
  refine Zk5 0 2 3 7 10 (Ztq ?_)
  refine Zm ?_
  refine Zv (Runs.nilCheck rfl rfl) ?_
  refine Zf 1 Tryz.underlying92 ?_
  refine Zv (Runs.loadB rfl rfl Tryz.underlying3 rfl k99 rfl) ?_
  refine Za_ ?_
  refine Zv (Runs.nilCheck rfl rfl) ?_
  refine Zf 1 Tryz.underlying92 ?_
  refine Zq k99 ?_
  intro w2 pw2
  replace bel:=bel.put k99 pw2 e99
  replace k2:=k2.put pw2 (by omega)
  replace loc:=loc.put k99 pw2 e99
  replace k99:=pw2.blk
  refine Zk5 0 2 3 7 10 (Ztq ?_)
  refine Zm ?_
  have pwn:=pwe.next hle hp1 loc k99
  have hun:=hS (p2+1) (d+1) _ pwn hne1
  rcases Rs.ok_or hne1 with ⟨q,ov,hr⟩|⟨x,q,hr⟩
  ·rw[hr] at hun hq
   refine Seq.callB (Ze Tryz.func71) rfl hun ?_
   rintro e w6 ⟨hf,rfl,d6,hp6⟩
   refine⟨_,rfl,fun a ha=>⟨ha.defers,?_⟩⟩
   rw[hq]
   exact⟨bel.call hf,rfl,d6,hp6⟩
  rw[hr] at hun hq
  replace hq:unaryP K.ws S0 E0 p2 d= .ok (.mk 20 0 [] [x]) q:=hq
  have hk2:=k2.lt
  have hsb:=bel.size
  refine Zc (Ze Tryz.func71) (hun) ?_
  rintro e wq ⟨hf,v6,rfl,pwq,S,hrep,hb⟩
  refine⟨_,rfl,?_⟩
  replace bel:=bel.call hf
  replace k2:=k2.fz hf (by omega)
  replace k99:=pwq.blk
  have hones:=hrep.ones
  have hsf:=hf.size
  have rs:ReS _ wq.heap.size S x v6 wq:=⟨hrep,hb,Nat.le_refl _⟩
  clear loc
  obtain⟨AX,cX,hvX⟩:=hrep.form
  subst hvX
  have hd64:=pwq.deep
  refine Zl zero_api_Expr ?_
  intro g4 w3 n4
  have q4:=n4.ge
  have e4:=Nat.le_trans bel.size n4.ge
  have l4:=Nat.lt_of_lt_of_le k2.lt n4.ge
  replace bel:=bel.step n4.below
  replace k99:=k99.step n4.below
  replace k2:=k2.step n4.below
  replace rs:=rs.step n4.below
  have k4:=n4.blk
  refine Zo 4 k4 ?_
  intro w4 pw4
  replace bel:=bel.put k4 pw4 e4
  replace k99:=k99.put pw4 (by omega)
  replace k2:=k2.put pw4 (by omega)
  replace rs:=rs.put k4 pw4 e4
  replace k4:=pw4.blk
  refine Zk6 0 2 3 4 7 10 (Ztq ?_)
  refine Zm ?_
  refine Zv (Runs.nilCheck rfl rfl) ?_
  refine Zf 2 Tryz.underlying92 ?_
  refine Zv (Runs.loadB rfl rfl Tryz.underlying3 rfl k99 rfl) ?_
  refine Zv (Runs.subI rfl rfl rfl (by omega) (by omega)) ?_
  refine Zv (Runs.nilCheck rfl rfl) ?_
  refine Zf 2 Tryz.underlying92 ?_
  refine Zq k99 ?_
  intro w5 pw5
  replace bel:=bel.put k99 pw5 e99
  replace k2:=k2.put pw5 (by omega)
  replace rs:=rs.put k99 pw5 e99
  replace k4:=k4.put pw5 (by omega)
  replace k99:=pw5.blk
  refine Zk6 0 2 3 4 7 10 (Ztq ?_)
  refine Zm ?_
  refine Zv (Runs.loadW rfl rfl Tryz.underlying35 rfl k4 (m:=4) (by kernel_rfl) rfl) ?_
  refine Seq.slice (vs:=[_]) (s:=4) rfl rfl rfl Tryz.underlying22 (by kernel_rfl) (zero_api_Expr) (by omega) (by omega) ⟨rfl,trivial⟩ rfl rfl rfl ?_
  intro g33 w6 n33
  have q33:=n33.ge
  have e33:=Nat.le_trans bel.size n33.ge
  have l33:=Nat.lt_of_lt_of_le k4.lt n33.ge
  replace bel:=bel.step n33.below
  replace k99:=k99.step n33.below
  replace k2:=k2.step n33.below
  replace rs:=rs.step n33.below
  replace k4:=k4.step n33.below
  have k33:=n33.blk
  refine Zv (Runs.build rfl rfl (run_build_s1 20 _ _)) ?_
  refine Zo 4 k2 ?_
  intro w7 pw7
  replace bel:=bel.put k2 pw7 e2
  replace k99:=k99.put pw7 (by omega)
  replace rs:=rs.put k2 pw7 e2
  replace k4:=k4.put pw7 (by omega)
  replace k33:=k33.put pw7 (by omega)
  replace k2:=pw7.blk
  refine Zk6 0 2 3 4 7 10 (Zt (Cd.ret ?_))
  refine Post.endC rfl rfl k2 Tryz.underlying35 rfl (m:=4) (by kernel_rfl) rfl (.inl rfl) ?_
  have hcast:((d+1:Nat):Int)-1=(d:Int):=by omega
  rw[hcast] at k99
  rw[hq]
  have hadd:(⟨g33,0,none⟩:Addr).add=fun j=>⟨g33,j,none⟩:=by funext j;unfold Addr.add;split<;>simp_all
  refine⟨bel,_,rfl,⟨k99,pw.rd.below (bel.below (by omega) hle),pwq.p_le, .inl (by omega)⟩,(fun b=>S b∨b=g33),RepE.mk (args:=[x]) (vs:=[.agg #[.int .i64 x.op, .int .i64 x.n, .string (strOf x.name), .slice AX x.args.length cX]]) rfl (by simp) (by unfold I64;omega) (by unfold I64;omega) (by simp) (by simp) (fun i e v h1 h2=> ?_) (fun _=>⟨⟨g33,0,none⟩,rfl, .inr rfl,fun j u hu=> ?_⟩),fun b hb'=> ?_⟩
  ·match i,h1,h2 with
   |0,h1,h2=>
    simp at h1 h2
    subst h1 h2
    exact rs.rep.mono (fun _ h=> .inl h) (fun _ _=>rfl)
   |i+1,h1,_=>simp at h1
  ·rw[hadd,k33.cell j]
   have hu2:(flatC [Value.agg #[.int .i64 x.op, .int .i64 x.n, .string (strOf x.name), .slice AX x.args.length cX]]).toArray[j]? =some u:=by simpa using hu
   exact hu2
  ·rcases hb' with hb'|rfl
   ·obtain⟨h1,h2⟩:=hb b hb'
    have:=rs.hi_le
    exact⟨by omega,by omega⟩
   ·exact⟨by omega,k33.lt⟩
 have c2:isS K.ws p [45]=false:=c2
 rw[if_neg (by rw[c2];simp)] at hq
 rw[hq] at hne
 have hat:=atom_any K hK E0 hE p d _ (pw.to hle bel k99) hne
 refine Zsr ?_
 refine Zm ?_
 rcases Rs.ok_or hne with ⟨q,ov,hr⟩|⟨x,q,hr⟩
 ·rw[hr] at hat
  refine Seq.callB (Ze Tryz.func119) rfl hat ?_
  rintro e w8 ⟨hf,rfl,d6,hp6⟩
  refine⟨_,rfl,fun a ha=>⟨ha.defers,?_⟩⟩
  rw[hq,hr]
  exact⟨bel.call hf,rfl,d6,hp6⟩
 rw[hr] at hat
 have hk2:=k2.lt
 have hsb:=bel.size
 refine Zc (Ze Tryz.func119) (hat) ?_
 rintro e wq ⟨hf,v6,rfl,pwq,S,hrep,hb⟩
 refine⟨_,rfl,?_⟩
 replace bel:=bel.call hf
 replace k2:=k2.fz hf (by omega)
 obtain⟨AX,cX,hvX⟩:=hrep.form
 subst hvX
 have hlt2:=k2.lt
 refine Zo 4 k2 ?_
 intro w2 pw2
 replace bel:=bel.put k2 pw2 e2
 replace k2:=pw2.blk
 refine Zk5 0 2 3 7 10 (Zt (Cd.ret (Post.block_ret (Post.then_ret ?_))))
 refine Post.endC rfl rfl k2 Tryz.underlying35 rfl (m:=4) (by kernel_rfl) rfl (.inl rfl) ?_
 rw[hq,hr]
 refine⟨bel,_,rfl,⟨pwq.blk.put pw2 (by omega),pwq.rd.below (pw2.below (by omega) hlt2),pwq.p_le,pwq.d_le⟩,S,hrep.mono (fun _ h=>h) (fun a ha=>World.cell?_of_block (pw2.grown.block _ (hb _ ha).2 (fun e=>by injection e with e;have:=(hb _ ha).1;omega))),fun b hb'=> ?_⟩
 obtain⟨h1,h2⟩:=hb b hb'
 have:=pw2.size
 exact⟨by omega,by omega⟩
end Go.Proofs.YtaamkfajnpobfaaGreat
namespace Go.Proofs.YtaamkfajnpobfaaGreat
open Go.RowKit
def HasL (K:Ctx)(n lvl:Nat):Prop:=∀p d W,PW K W p d false→(fuelP K.ws n).E lvl p d≠ .out→Calls Tryz.prog 31 #[.pointer (some ⟨K.g,0,none⟩), .int .i64 (lvl:Int)] W (PR K W d ((fuelP K.ws n).E lvl p d) (okE W))
theorem expr_top (K:Ctx)(hK:K.Ok)(n:Nat)(hS:HasS K (fuelP K.ws (n+1)).S):HasL K (n+1) 5:=by
 intro p d w pw hne
 have he:(fuelP K.ws (n+1)).E 5 p d=(fuelP K.ws (n+1)).S p d:=rfl
 rw[he] at hne⊢
 have bel:=Fz.refl w.heap.size K.g w
 have k99:=pw.blk
 have e99:K.g=K.g:=rfl
 have hlt:=pw.blk.lt
 have hle:=hK.le
 refine Zs 66 Tryz.func31 ?_
 refine Zsr ?_
 refine Zl zero_api_Expr ?_
 intro g4 w1 n4
 have e4:=Nat.le_trans bel.size n4.ge
 have l4:=Nat.lt_of_lt_of_le k99.lt n4.ge
 replace bel:=bel.step n4.below
 replace k99:=k99.step n4.below
 have k4:=n4.blk
 refine Zk3 0 1 4 (Ztq ?_)
 refine Zc (Ze Tryz.func70) (levels_any _) ?_
 rintro e w5 ⟨gl,rfl,hb5,-⟩
 refine⟨_,rfl,?_⟩
 replace bel:=bel.step hb5
 replace k99:=k99.step hb5
 replace k4:=k4.step hb5
 refine Za ?_
 refine Zk4 0 1 4 5 (Zts (Zsr ?_))
 refine Zm ?_
 refine Zm ?_
 refine Zv (Runs.len rfl rfl Tryz.underlying116) ?_
 refine Zv (Runs.eqlI rfl rfl rfl) ?_
 refine Zk5 0 1 4 5 13 (Zt ?_)
 refine Cd.condT rfl (by decide) ?_
 have hun:=hS p d _ (pw.to hle bel k99) hne
 refine Zsr ?_
 refine Zm ?_
 rcases Rs.ok_or hne with ⟨q,ov,hr⟩|⟨x,q,hr⟩
 ·rw[hr] at hun
  refine Seq.callB (Ze Tryz.func71) rfl hun ?_
  rintro e w8 ⟨hf,rfl,d6,hp6⟩
  refine⟨_,rfl,fun a ha=>⟨ha.defers,?_⟩⟩
  rw[hr]
  exact⟨bel.call hf,rfl,d6,hp6⟩
 rw[hr] at hun⊢
 have hk4:=k4.lt
 have hsb:=bel.size
 refine Zc (Ze Tryz.func71) (hun) ?_
 rintro e wq ⟨hf,v6,rfl,pwq,S,hrep,hb⟩
 refine⟨_,rfl,?_⟩
 replace bel:=bel.call hf
 replace k4:=k4.fz hf (by omega)
 obtain⟨AX,cX,hvX⟩:=hrep.form
 subst hvX
 have hlt2:=k4.lt
 refine Zo 4 k4 ?_
 intro w2 pw2
 replace bel:=bel.put k4 pw2 e4
 replace k4:=pw2.blk
 refine Zk5 0 1 4 5 13 (Zt (Cd.ret (Post.then_ret ?_)))
 refine Post.endC rfl rfl k4 Tryz.underlying35 rfl (m:=4) (by kernel_rfl) rfl (.inl rfl) ?_
 refine⟨bel,_,rfl,⟨pwq.blk.put pw2 (by omega),pwq.rd.below (pw2.below (by omega) hlt2),pwq.p_le,pwq.d_le⟩,S,hrep.mono (fun _ h=>h) (fun a ha=>World.cell?_of_block (pw2.grown.block _ (hb _ ha).2 (fun e=>by injection e with e;have:=(hb _ ha).1;omega))),fun b hb'=> ?_⟩
 obtain⟨h1,h2⟩:=hb b hb'
 have:=pw2.size
 exact⟨by omega,by omega⟩
theorem opAt_none {ws:List Wd}{lvl p:Nat}(h:(wAt ws p).kind≠0∨idxZ (signsAt lvl) (wAt ws p).text<0):opAt ws lvl p=none:=by
 unfold opAt
 split
 ·rfl
 ·rename_i hk
  rcases h with h|h
  ·exact absurd h hk
  ·unfold idxZ at h
   split at h
   ·omega
   ·rename_i hm
    rw[if_neg hm]
theorem opAt_some {ws:List Wd}{lvl p:Nat}(h1:(wAt ws p).kind=0)(h2:¬idxZ (signsAt lvl) (wAt ws p).text<0):∃(i:Nat) (op:Int),idxZ (signsAt lvl) (wAt ws p).text=(i:Int)∧i<(opsAt lvl).length∧(opsAt lvl)[i]? =some op∧opAt ws lvl p=some op∧I64 op:=by
 have hlen:∀lvl,(signsAt lvl).length=(opsAt lvl).length:=fun lvl=>by
  unfold signsAt opsAt
  split<;>rfl
 unfold idxZ at h2⊢
 split at h2
 ·rename_i hm
  rw[if_pos hm]
  have hi:=List.idxOf_lt_length_of_mem hm
  rw[hlen] at hi
  obtain⟨op,hop⟩:∃op,(opsAt lvl)[(signsAt lvl).idxOf (wAt ws p).text]? =some op:=⟨_,List.getElem?_eq_getElem hi⟩
  refine⟨_,op,rfl,hi,hop,?_,?_⟩
  ·unfold opAt
   rw[if_neg (by simp[h1]),if_pos hm,hop]
  ·have hm2:=List.mem_of_getElem? hop
   have:∀lvl,∀x∈opsAt lvl,I64 x:=fun lvl=>by
    unfold opsAt
    split<;>simp[I64]
   exact this lvl op hm2
 ·omega
def MadeE (lo hi ex:Nat)(x:Ex)(v:Value)(W:World):Prop:=hi≤W.heap.size∧∃S:Nat→Prop,RepE W S x v∧∀b,S b→lo<b∧b<hi∧b≠ex
theorem MadeE.keep {lo hi ex:Nat}{x:Ex}{v:Value}{W W':World}(m:MadeE lo hi ex x v W)(hs:W.heap.size≤W'.heap.size)(hb:∀b,lo<b→b<hi→b≠ex→W'.heap[b]? =W.heap[b]?):MadeE lo hi ex x v W':=by
 obtain⟨h0,S,h1,h2⟩:=m
 exact⟨Nat.le_trans h0 hs,S,h1.mono (fun _ h=>h) (fun a ha=>World.cell?_of_block (hb _ (h2 _ ha).1 (h2 _ ha).2.1 (h2 _ ha).2.2)),h2⟩
theorem MadeE.step {lo hi ex:Nat}{x:Ex}{v:Value}{W W':World}(m:MadeE lo hi ex x v W)(h:Below W.heap.size W W'):MadeE lo hi ex x v W':=m.keep h.size fun b _ h2 _=>h.block b (Nat.lt_of_lt_of_le h2 m.1)
theorem MadeE.fz {lo hi ex g:Nat}{x:Ex}{v:Value}{W W':World}(m:MadeE lo hi ex x v W)(h:Fz W.heap.size g W W')(hg:g≤lo):MadeE lo hi ex x v W':=m.keep h.size fun b h1 h2 _=>h.block b (Nat.lt_of_lt_of_le h2 m.1) (by omega)
theorem MadeE.put {lo hi ex g:Nat}{x:Ex}{v:Value}{T:TypeId}{cur cs:Array Value}{W W':World}{E:Prop}(m:MadeE lo hi ex x v W)(_k:Blk W g T cur)(p:Put W W' g T cs)(_e:E)(hg:g≤lo∨g=ex∨hi≤g:=by omega):MadeE lo hi ex x v W':=
 m.keep (Nat.le_of_eq p.size.symm) fun b h1 h2 h3=>p.grown.block b (Nat.lt_of_lt_of_le h2 m.1) (fun e=>by injection e with e;omega)
theorem MadeE.but {lo hi ex g:Nat}{x:Ex}{v:Value}{W:World}(m:MadeE lo hi ex x v W)(hg:hi≤g):MadeE lo hi g x v W:=by
 obtain⟨h0,S,h1,h2⟩:=m
 exact⟨h0,S,h1,fun b h=>⟨(h2 b h).1,(h2 b h).2.1,fun e=>by have:=(h2 b h).2.1;omega⟩⟩
theorem MadeE.up {lo hi ex:Nat}{x:Ex}{v:Value}{W:World}(m:MadeE lo hi ex x v W):MadeE lo W.heap.size ex x v W:=by
 obtain⟨h0,S,h1,h2⟩:=m
 exact⟨Nat.le_refl _,S,h1,fun b h=>⟨(h2 b h).1,Nat.lt_of_lt_of_le (h2 b h).2.1 h0,(h2 b h).2.2⟩⟩
abbrev exC (x:Ex)(A:Option Addr)(c:Nat):Array Value:= #[.int .i64 x.op, .int .i64 x.n, .string (strOf x.name), .slice A x.args.length c]
theorem expr_any (K:Ctx)(hK:K.Ok)(n lvl:Nat)(hlt5:lvl<5)(hup:HasL K (n+1) (lvl+1))(hall:∀m,m≤n→HasL K m (lvl+1)):HasL K (n+1) lvl:=by
 intro p d w pw hne
 have he:=fuelP_E K.ws n lvl p d hlt5
 obtain⟨R,hR⟩:∃R,R=(fuelP K.ws (n+1)).E lvl p d:=⟨_,rfl⟩
 rw[←hR] at hne⊢
 rw[←hR] at he
 have bel:=Fz.refl w.heap.size K.g w
 have k99:=pw.blk
 have e99:K.g=K.g:=rfl
 have hlt:=pw.blk.lt
 have hle:=hK.le
 have hlen:=hK.len
 have hne1:(fuelP K.ws (n+1)).E (lvl+1) p d≠ .out:=Rs.bind_ne (by rw[←he];exact hne)
 refine Zs 66 Tryz.func31 ?_
 refine Zsr ?_
 refine Zl zero_api_Expr ?_
 intro g4 w1 n4
 have e4:=Nat.le_trans bel.size n4.ge
 have l4:=Nat.lt_of_lt_of_le k99.lt n4.ge
 replace bel:=bel.step n4.below
 replace k99:=k99.step n4.below
 have k4:=n4.blk
 refine Zk3 0 1 4 (Ztq ?_)
 refine Zc (Ze Tryz.func70) (levels_any _) ?_
 rintro e wlv ⟨gl,rfl,hb5,hlv⟩
 refine⟨_,rfl,?_⟩
 obtain⟨ga,gb,cc,dd,csl,lv⟩:=hlv lvl hlt5
 replace bel:=bel.step hb5
 replace k99:=k99.step hb5
 replace k4:=k4.step hb5
 have kp:=Kp.refl wlv
 refine Za ?_
 refine Zk4 0 1 4 5 (Zts (Zsr ?_))
 refine Zm ?_
 refine Zm ?_
 refine Zv (Runs.len rfl rfl Tryz.underlying116) ?_
 refine Zv (Runs.eqlI rfl rfl rfl) ?_
 refine Zk5 0 1 4 5 13 (Zt ?_)
 refine Cd.condF rfl (decide_eq_false (by omega)) ?_
 refine Cd.skip (Ztq ?_)
 refine Zm ?_
 refine Zm ?_
 refine Za_ ?_
 have hcl:=hup p d _ (pw.to hle bel k99) hne1
 have hcast:((lvl+1:Nat):Int)=(lvl:Int)+1:=by omega
 rw[hcast] at hcl
 rcases Rs.ok_or hne1 with ⟨q,ov,hr⟩|⟨x,q,hr⟩
 ·rw[hr] at hcl he
  refine Seq.callB (Ze Tryz.func31) rfl hcl ?_
  rintro e w8 ⟨hf,rfl,d6,hp6⟩
  refine⟨_,rfl,fun a ha=>⟨ha.defers,?_⟩⟩
  rw[he]
  exact⟨bel.call hf,rfl,d6,hp6⟩
 rw[hr] at hcl he
 replace he:R=(fuelP K.ws (n+1)).L lvl x q d:=he
 have hk4:=k4.lt
 have hsb:=bel.size
 refine Zc (Ze Tryz.func31) (hcl) ?_
 rintro e wq ⟨hf,v6,rfl,pwq,S,hrep,hb⟩
 refine⟨_,rfl,?_⟩
 replace bel:=bel.call hf
 replace k4:=k4.fz hf (by omega)
 replace kp:=kp.fz k99 hf
 replace k99:=pwq.blk
 obtain⟨AX,cX,hvX⟩:=hrep.form
 subst hvX
 have rs:MadeE g4 wq.heap.size 0 x (.agg (exC x AX cX)) wq:=⟨Nat.le_refl _,S,hrep,fun b h=>⟨by have:=(hb b h).1;omega,(hb b h).2,by have:=(hb b h).1;omega⟩⟩
 refine Zl zero_api_Expr ?_
 intro g6 w2 n6
 have q6:=n6.ge
 have e6:=Nat.le_trans bel.size n6.ge
 have l6:=Nat.lt_of_lt_of_le k4.lt n6.ge
 replace bel:=bel.step n6.below
 replace k99:=k99.step n6.below
 replace k4:=k4.step n6.below
 replace kp:=kp.step n6.below
 replace rs:=rs.step n6.below
 have k6:=n6.blk
 refine Zo 4 k6 ?_
 intro w3 pw3
 replace bel:=bel.put k6 pw3 e6
 replace k99:=k99.put pw3 (by omega)
 replace k4:=k4.put pw3 (by omega)
 replace kp:=kp.put k6 pw3 e6
 replace rs:=rs.put k6 pw3 e6
 replace k6:=pw3.blk
 refine Zk6 0 1 4 5 6 13 (Zt (Cd.block ?_))
 have h46:g4<g6:=by have:=hf.size;omega
 have h96:K.g<g6:=by omega
 refine Cd.loop (σ:=Nat × Ex × (Option Addr × Nat) × Nat) (fun s=>[(0, .pointer (some ⟨K.g,0,none⟩)),(1, .int .i64 (lvl:Int)),(4, .pointer (some ⟨g4,0,none⟩)),(5, .slice (some ⟨gl,0,none⟩) 5 5),(6, .pointer (some ⟨g6,0,none⟩))])
  (fun s wr=>PW K wr s.2.2.2 d false∧Fz w.heap.size K.g w wr∧Blk wr g4 35 #[.int .i64 0, .int .i64 0, .string {data:= #[]}, .slice none 0 0]∧Blk wr g6 35 (exC s.2.1 s.2.2.1.1 s.2.2.1.2)∧Kp wlv wr∧MadeE g4 wr.heap.size g6 s.2.1 (.agg (exC s.2.1 s.2.2.1.1 s.2.2.1.2)) wr∧s.1≤n+1∧R=(fuelP K.ws s.1).L lvl s.2.1 s.2.2.2 d)
  (fun s=>s.1) (n+1,x,(AX,cX),q) ⟨⟨k99,pw.rd.below (bel.below (by omega) hle),pwq.p_le,pwq.d_le⟩,bel,k4,k6,kp,(rs.but q6).up,Nat.le_refl _,he⟩ ⟨rfl,rfl,rfl,rfl,rfl,trivial⟩ ?_
 clear bel k4 k6 kp rs k99 he hne1 hr hcl
 rintro⟨m,left,⟨AL,cL⟩,pl⟩ wr ⟨pw1,bel,k4,k6,kp,rs,hm,he⟩
 dsimp only at pw1 k6 rs hm he⊢
 have k99:=pw1.blk
 have h4r:=k4.lt
 have hkps:=kp.size
 obtain⟨m,rfl⟩:∃m',m=m'+1:=by
  cases m with
  |zero=>exact absurd he (by intro h;exact hne (by rw[h];rfl))
  |succ m=>exact⟨m,rfl⟩
 have hstep:R=loopP K.ws (fuelP K.ws m) lvl left pl d:=he
 clear he
 obtain⟨b1,b2,b3⟩:=K.at_kind pl
 obtain⟨a1,a2,a3,a4,a5⟩:=hK.at_ pl
 have hsig:∀t∈signsAt lvl,∀x∈t,x<256:=by
  have:∀lvl,∀t∈signsAt lvl,∀x∈t,x<256:=fun lvl=>by
   unfold signsAt
   split<;>decide
  exact this lvl
 have hw:=word_any K hK pl d false wr pw1
 unfold wdV at hw
 refine Cd.block (Zsr ?_)
 refine Zm ?_
 refine Zc (Ze Tryz.func49) (hw) ?_
 rintro e w8 ⟨rfl,hb8⟩
 refine⟨_,rfl,?_⟩
 have hs8:=hb8.size
 replace bel:=bel.step hb8
 replace k99:=k99.step hb8
 replace k4:=k4.step hb8
 replace kp:=kp.step hb8
 replace rs:=rs.step hb8
 replace k6:=k6.step hb8
 refine Zl zero_lex_Word ?_
 intro g7 w4 n7
 have q7:=n7.ge
 have e7:=Nat.le_trans bel.size n7.ge
 have l7:=Nat.lt_of_lt_of_le k6.lt n7.ge
 replace bel:=bel.step n7.below
 replace k99:=k99.step n7.below
 replace k4:=k4.step n7.below
 replace kp:=kp.step n7.below
 replace rs:=rs.step n7.below
 replace k6:=k6.step n7.below
 have k7:=n7.blk
 refine Zo 4 k7 ?_
 intro w5 pw5
 replace bel:=bel.put k7 pw5 e7
 replace k99:=k99.put pw5 (by omega)
 replace k4:=k4.put pw5 (by omega)
 replace kp:=kp.put k7 pw5 e7
 replace rs:=rs.put k7 pw5 e7
 replace k6:=k6.put pw5 (by omega)
 replace k7:=pw5.blk
 refine Zk6 0 1 4 5 6 7 (Zts ?_)
 have haddL:Value.pointer (some ((⟨gl,0,none⟩:Addr).add (lvl*3)))= .pointer (some ⟨gl,lvl*3,none⟩):=by
  have:(⟨gl,0,none⟩:Addr).add (lvl*3)=⟨gl,lvl*3,none⟩:=by unfold Addr.add;split<;>simp_all
  rw[this]
 have hsl:(signsAt lvl).length≤1000:=by
  have:∀lvl,(signsAt lvl).length≤1000:=fun lvl=>by
   unfold signsAt
   split<;>simp
  exact this lvl
 have hsv:(strV (signsAt lvl)).toArray.size=(signsAt lvl).length*1:=by simp[strV]
 refine Cd.draw 8 (by kernel_rfl) [] (.inl rfl) rfl Grow Grow.refl (fun _ _ _=>Grow.trans) ?_
 intro w6 hw6 zw6
 replace bel:=bel.step hw6
 replace k99:=k99.step hw6
 replace k4:=k4.step hw6
 replace kp:=kp.step hw6
 replace rs:=rs.step hw6
 replace k6:=k6.step hw6
 replace k7:=k7.step hw6
 have zbel:=bel.size
 have zlt:=k7.lt
 have kl:Blk _ gl 121 csl:=kp.blk lv.lev
 have ksg:=kp.blk lv.sg
 have kop:=kp.blk lv.op
 refine Zdm ?_
 refine Zdm ?_
 refine Zd (fun w hG=>(Runs.indexN rfl rfl rfl Tryz.underlying116 (s:=3) (by kernel_rfl) (j:=lvl) rfl (by omega)).cast haddL) ?_
 refine Zd (fun w hG=>Runs.fieldA 0 rfl rfl Tryz.underlying121 rfl (by kernel_rfl)) ?_
 refine Zd (fun w hG=>Runs.loadB (g:=gl) (i:=lvl*3) rfl rfl Tryz.underlying114 rfl (kl.step hG) lv.s0) ?_
 refine Zd (fun w hG=>Runs.fieldB 1 rfl rfl Tryz.underlying95 rfl (by kernel_rfl)) ?_
 refine Zd (fun w hG=>Runs.loadB rfl rfl Tryz.underlying9 rfl (k7.step hG) rfl) ?_
 refine Dr.callV rfl (fun w=>Ze Tryz.func72) rfl (fun w hG=>indexS_any (signsAt lvl) (K.at_ pl).text (some ⟨ga,0,none⟩) cc w.heap.size w (Reads.blk (ksg.step hG) _ hsv) (Nat.le_refl _) hsl hsig a3) ?_
 refine Dr.nil ?_
 refine FinX.done (F':=[(0,_),(1,_),(4,_),(5,_),(6,_),(7,_),(29,_)]) rfl ⟨rfl,rfl,rfl,rfl,rfl,rfl,rfl,trivial⟩ ?_
 intro w7 hw7 fw7
 replace bel:=bel.step hw7
 replace k99:=k99.step hw7
 replace k4:=k4.step hw7
 replace kp:=kp.step hw7
 replace rs:=rs.step hw7
 replace k6:=k6.step hw7
 replace k7:=k7.step hw7
 clear kl ksg kop
 refine Za ?_
 refine Zk7 0 1 4 5 6 7 8 (Zts (Zsr ?_))
 refine Zf 0 Tryz.underlying95 ?_
 refine Zv (Runs.loadB rfl rfl Tryz.underlying3 rfl k7 rfl) ?_
 refine Zv (Runs.neqI rfl rfl rfl) ?_
 refine Zm ?_
 refine SeqC.start ?_
 refine Zco (fun hcx=>Runs.move rfl rfl) ?_
 refine SeqC.next rfl rfl rfl rfl rfl rfl rfl (fun hcx=>Runs.lss rfl rfl rfl) ?_
 refine SeqC.or rfl rfl rfl rfl rfl rfl rfl ?_
 refine Zk8 0 1 4 5 6 7 8 36 (Zt ?_)
 have pwc:PW K _ pl d false:=⟨k99,pw.rd.below (bel.below (by omega) hle),pw1.p_le,pw1.d_le⟩
 refine Cd.cond rfl (fun hc=> ?_) (fun hc=> ?_)
 ·have hop:opAt K.ws lvl pl=none:=opAt_none (by
   rw[←b1,←b2]
   simpa using hc)
  have hres:R= .ok left pl:=by rw[hstep];unfold loopP;rw[hop]
  have hlt4:=k4.lt
  have hlt6:=k6.lt
  refine Zsr ?_
  refine Zv (Runs.loadW rfl rfl Tryz.underlying35 rfl k6 (m:=4) (by kernel_rfl) rfl) ?_
  refine Zo 4 k4 ?_
  intro w8 pw8
  replace bel:=bel.put k4 pw8 e4
  replace k99:=k99.put pw8 (by omega)
  replace kp:=kp.put k4 pw8 e4
  replace rs:=rs.put k4 pw8 e4
  replace k6:=k6.put pw8 (by omega)
  replace k7:=k7.put pw8 (by omega)
  replace k4:=pw8.blk
  refine Zk8 0 1 4 5 6 7 8 36 (Zt (Cd.ret (Post.then_ret (Post.block_ret (Post.round_ret (Post.block_ret ?_))))))
  refine Post.endC rfl rfl k4 Tryz.underlying35 rfl (m:=4) (by kernel_rfl) rfl (.inl rfl) ?_
  rw[hres]
  have kk:=k99
  obtain⟨hhi,S',hrep',hb'⟩:=rs
  exact⟨bel,_,rfl,⟨k99,pw.rd.below (bel.below (by omega) hle),pw1.p_le,pw1.d_le⟩,S',hrep',fun b h=>⟨by have:=(hb' b h).1;omega,by have:=(hb' b h).2.1;omega⟩⟩
 obtain⟨hk0,hix⟩:(wAt K.ws pl).kind=0∧¬idxZ (signsAt lvl) (wAt K.ws pl).text<0:=by
  rw[←b1,←b2]
  simpa using hc
 obtain⟨ix,op,hix1,hix2,hopi,hop,hop64⟩:=opAt_some hk0 hix
 rw[←b2] at hix1
 have hstep2:R=((fuelP K.ws m).E (lvl+1) (pl+1) d).bind fun r p=>if lvl=2 then .ok (mk2 op left r) p else(fuelP K.ws m).L lvl (mk2 op left r) p d:=by rw[hstep];unfold loopP;rw[hop]
 have hp1:pl+1≤K.ws.length:=by
  rcases Nat.lt_or_ge pl K.ws.length with h|h
  ·exact h
  ·have h1:wAt K.ws pl=⟨-1,[],0,0⟩:=by unfold wAt;rw[List.getD_eq_getElem?_getD,List.getElem?_eq_none h];rfl
   rw[h1] at hk0
   exact absurd hk0 (by decide)
 have hne2:(fuelP K.ws m).E (lvl+1) (pl+1) d≠ .out:=Rs.bind_ne (by rw[←hstep2];exact hne)
 rw[hix1]
 refine Cd.skip (Ztq ?_)
 refine Zm ?_
 refine Zv (Runs.nilCheck rfl rfl) ?_
 refine Zf 1 Tryz.underlying92 ?_
 refine Zv (Runs.loadB rfl rfl Tryz.underlying3 rfl k99 rfl) ?_
 refine Za_ ?_
 refine Zv (Runs.nilCheck rfl rfl) ?_
 refine Zf 1 Tryz.underlying92 ?_
 refine Zq k99 ?_
 intro w8 pw8
 replace bel:=bel.put k99 pw8 e99
 replace k4:=k4.put pw8 (by omega)
 replace kp:=kp.put k99 pw8 e99
 replace rs:=rs.put k99 pw8 e99
 replace k6:=k6.put pw8 (by omega)
 replace k7:=k7.put pw8 (by omega)
 replace k99:=pw8.blk
 refine Zk8 0 1 4 5 6 7 8 36 (Zts ?_)
 have kl:Blk _ gl 121 csl:=kp.blk lv.lev
 have kop:=kp.blk lv.op
 have haddI:Value.pointer (some ((⟨gb,0,none⟩:Addr).add ix))= .pointer (some ⟨gb,ix,none⟩):=by
  have:(⟨gb,0,none⟩:Addr).add ix=⟨gb,ix,none⟩:=by unfold Addr.add;split<;>simp_all
  rw[this]
 have hopc:(DI (opsAt lvl)).toArray[ix]? =some (.int .i64 op):=by
  rw[List.getElem?_toArray,get_DI,hopi];rfl
 have pwn:PW K w8 (pl+1) d false:=⟨by rw[Int.natCast_add];exact k99,pw.rd.below (bel.below (by omega) hle),hp1,pw1.d_le⟩
 have hw8g:K.g<w8.heap.size:=k99.lt
 have hxl:=hall m (by omega)
 refine Cd.drawG (σT:=Value × (Nat→Prop) × Nat) 15 (by kernel_rfl) rfl rfl (fun σ=>[.slice (some ⟨gl,0,none⟩) 5 5, .int .i64 (lvl:Int), .pointer (some ⟨gl,lvl*3,none⟩), .pointer (some ⟨gl,lvl*3+1,none⟩), .slice (some ⟨gb,0,none⟩) (opsAt lvl).length dd, .int .i64 (ix:Int), .pointer (some ⟨gb,ix,none⟩), .int .i64 op, .agg (exC left AL cL), .pointer (some ⟨K.g,0,none⟩), .int .i64 (lvl:Int), .int .i64 ((lvl:Int)+1),σ.1, .slice (some ⟨σ.2.2,0,none⟩) 2 2, .agg #[.int .i64 op, .int .i64 0, .string (strOf []), .slice (some ⟨σ.2.2,0,none⟩) 2 2]]) (fun σ S W=>XA RepE K w8 (pl+1) d ((fuelP K.ws m).E (lvl+1) (pl+1) d) (S 12) (S 13) σ.2.1 σ.1 σ.2.2 35 (flatC [.agg (exC left AL cL),σ.1]).toArray W) ((undef,fun _=>False,0)) ?_ ?_ ?_
 ·intro w0 hb0 hs0
  exact⟨Fz.of hb0,fun _=>pwn.step hle hb0,fun h=>(by cases h),fun h=>(by cases h)⟩
 ·intro k o ho
  match k,ho with
  |0,ho=>
   injection ho with ho
   subst ho
   intro σ S w hS hpre hdc hX
   refine Seq.val (Runs.move rfl rfl) rfl rfl rfl (Seq.nil ?_)
   exact Post.afterG rfl rfl rfl hpre rfl (fun _ _=>rfl) hX
  |1,ho=>
   injection ho with ho
   subst ho
   intro σ S w hS hpre hdc hX
   refine Seq.val (Runs.move rfl rfl) rfl rfl rfl (Seq.nil ?_)
   exact Post.afterG rfl rfl rfl hpre rfl (fun _ _=>rfl) hX
  |2,ho=>
   injection ho with ho
   subst ho
   intro σ S w hS hpre hdc hX
   refine Seq.val ((Runs.indexN rfl rfl rfl Tryz.underlying116 (s:=3) (by kernel_rfl) (j:=lvl) rfl (by omega)).cast haddL) rfl rfl rfl (Seq.nil ?_)
   exact Post.afterG rfl rfl rfl hpre rfl (fun _ _=>rfl) hX
  |3,ho=>
   injection ho with ho
   subst ho
   intro σ S w hS hpre hdc hX
   refine Seq.val (Runs.fieldA 1 rfl rfl Tryz.underlying121 rfl (by kernel_rfl)) rfl rfl rfl (Seq.nil ?_)
   exact Post.afterG rfl rfl rfl hpre rfl (fun _ _=>rfl) hX
  |4,ho=>
   injection ho with ho
   subst ho
   intro σ S w hS hpre hdc hX
   refine Seq.val (Runs.loadB (g:=gl) (i:=lvl*3+1) rfl rfl Tryz.underlying43 rfl (kl.fzN k99 hX.fz (Nat.le_refl _)) lv.s1) rfl rfl rfl (Seq.nil ?_)
   exact Post.afterG rfl rfl rfl hpre rfl (fun _ _=>rfl) hX
  |5,ho=>
   injection ho with ho
   subst ho
   intro σ S w hS hpre hdc hX
   refine Seq.val (Runs.move rfl rfl) rfl rfl rfl (Seq.nil ?_)
   exact Post.afterG rfl rfl rfl hpre rfl (fun _ _=>rfl) hX
  |6,ho=>
   injection ho with ho
   subst ho
   intro σ S w hS hpre hdc hX
   refine Seq.val ((Runs.index1 rfl rfl rfl Tryz.underlying43 (by kernel_rfl) (j:=ix) rfl hix2).cast haddI) rfl rfl rfl (Seq.nil ?_)
   exact Post.afterG rfl rfl rfl hpre rfl (fun _ _=>rfl) hX
  |7,ho=>
   injection ho with ho
   subst ho
   intro σ S w hS hpre hdc hX
   refine Seq.val (Runs.loadB (g:=gb) (i:=ix) rfl rfl Tryz.underlying3 rfl (kop.fzN k99 hX.fz (Nat.le_refl _)) hopc) rfl rfl rfl (Seq.nil ?_)
   exact Post.afterG rfl rfl rfl hpre rfl (fun _ _=>rfl) hX
  |8,ho=>
   injection ho with ho
   subst ho
   intro σ S w hS hpre hdc hX
   refine Seq.val (Runs.loadW rfl rfl Tryz.underlying35 rfl (k6.fz hX.fz (by omega)) (m:=4) (by kernel_rfl) rfl) rfl rfl rfl (Seq.nil ?_)
   exact Post.afterG rfl rfl rfl hpre rfl (fun _ _=>rfl) hX
  |9,ho=>
   injection ho with ho
   subst ho
   intro σ S w hS hpre hdc hX
   refine Seq.val (Runs.move rfl rfl) rfl rfl rfl (Seq.nil ?_)
   exact Post.afterG rfl rfl rfl hpre rfl (fun _ _=>rfl) hX
  |10,ho=>
   injection ho with ho
   subst ho
   intro σ S w hS hpre hdc hX
   refine Seq.val (Runs.move rfl rfl) rfl rfl rfl (Seq.nil ?_)
   exact Post.afterG rfl rfl rfl hpre rfl (fun _ _=>rfl) hX
  |11,ho=>
   injection ho with ho
   subst ho
   intro σ S w hS hpre hdc hX
   refine Seq.val (Runs.addI rfl rfl rfl (by omega) (by omega)) rfl rfl rfl (Seq.nil ?_)
   exact Post.afterG rfl rfl rfl hpre rfl (fun _ _=>rfl) hX
  |12,ho=>
   injection ho with ho
   subst ho
   intro σ S w hS hpre hdc hX
   have h13:S 13=false:=by
    cases h:S 13 with
    |false=>rfl
    |true=>have:=hdc 13 _ rfl h 12 (memB_spec rfl);rw[hS] at this;cases this
   have hcl:=hxl (pl+1) d w (hX.pre hS) hne2
   rw[hcast] at hcl
   rcases Rs.ok_or hne2 with ⟨q2,ov,hr⟩|⟨y,q2,hr⟩
   ·rw[hr] at hcl
    refine Seq.callB (Ze Tryz.func31) rfl hcl ?_
    rintro e w6 ⟨hf,rfl,d6,hp6⟩
    refine⟨_,rfl,fun a ha=>⟨ha.defers,?_⟩⟩
    rw[hstep2,hr]
    exact⟨bel.call (hX.fz.call hf),rfl,d6,hp6⟩
   ·rw[hr] at hcl
    refine Zc (Ze Tryz.func31) hcl ?_
    rintro e w6 ⟨hf,v6,rfl,hp6,S6,hr6,hb6⟩
    refine⟨_,rfl,Seq.nil ?_⟩
    have hsz:=hX.fz.size
    refine Post.afterG (σ:=σ) (σ':=(v6,S6,σ.2.2)) rfl rfl rfl hpre rfl (fun j hj=> ?_) ⟨hX.fz.call hf,(fun h=>by cases h),fun _=>⟨y,q2,hr,hp6,hr6,fun b hb=>⟨by have:=(hb6 b hb).1;omega,(hb6 b hb).2⟩⟩,fun hm=> ?_⟩
    ·match j,hj with
     |0,_=>rfl
     |1,_=>rfl
     |2,_=>rfl
     |3,_=>rfl
     |4,_=>rfl
     |5,_=>rfl
     |6,_=>rfl
     |7,_=>rfl
     |8,_=>rfl
     |9,_=>rfl
     |10,_=>rfl
     |11,_=>rfl
     |12,hj=>rw[hS] at hj;cases hj
     |13,_=>rfl
     |14,_=>rfl
     |j+15,_=>rfl
    ·have hm:S 13=true:=hm
     rw[h13] at hm;cases hm
  |13,ho=>
   injection ho with ho
   subst ho
   intro σ S w hS hpre hdc hX
   obtain⟨y,q2,q1,pz,q3,q4⟩:=hX.post (hpre 12 (memB_spec rfl))
   have hones:=q3.ones
   have h14:S 14=false:=by
    cases h:S 14 with
    |false=>rfl
    |true=>have:=hdc 14 _ rfl h 13 (memB_spec rfl);rw[hS] at this;cases this
   refine Seq.slice (vs:=[.agg (exC left AL cL),σ.1]) (s:=4) rfl rfl rfl Tryz.underlying22 (by kernel_rfl) zero_api_Expr (by omega) (by omega) ⟨rfl,hones.1,trivial⟩ rfl rfl rfl ?_
   intro g7 w' n7
   refine Seq.nil ?_
   have hsz:=hX.fz.size
   refine Post.afterG (σ:=σ) (σ':=(σ.1,σ.2.1,g7)) rfl rfl rfl hpre rfl (fun j hj=> ?_) ⟨hX.fz.step n7.below,fun h=>(hX.pre h).step hle n7.below,fun h=> ?_,fun _=>⟨Nat.le_trans hsz n7.ge,n7.blk,fun h hb=> ?_⟩⟩
   ·match j,hj with
    |0,_=>rfl
    |1,_=>rfl
    |2,_=>rfl
    |3,_=>rfl
    |4,_=>rfl
    |5,_=>rfl
    |6,_=>rfl
    |7,_=>rfl
    |8,_=>rfl
    |9,_=>rfl
    |10,_=>rfl
    |11,_=>rfl
    |12,_=>rfl
    |13,hj=>rw[hS] at hj;cases hj
    |14,hj=>rw[h14] at hj;cases hj
    |j+15,_=>rfl
   ·exact⟨y,q2,q1,pz.step hle n7.below,q3.mono (fun _ h=>h) (fun a ha=>n7.below.cell (q4 _ ha).2),fun b hb=>⟨(q4 b hb).1,Nat.lt_of_lt_of_le (q4 b hb).2 n7.below.size⟩⟩
   ·exact Nat.lt_irrefl _ (Nat.lt_of_lt_of_le (q4 _ hb).2 n7.ge)
  |14,ho=>
   injection ho with ho
   subst ho
   intro σ S w hS hpre hdc hX
   refine Seq.val (Runs.build rfl rfl (run_build_s _ _ _)) rfl rfl rfl (Seq.nil ?_)
   exact Post.afterG rfl rfl rfl hpre rfl (fun _ _=>rfl) hX
  |k+15,ho=>simp at ho
 rintro⟨vy,Sy,g58⟩ S2 wz hS2 hX
 obtain⟨y,q2,hr2,pwz,hrepy,hby⟩:=hX.post (hS2 12 (by decide))
 obtain⟨e58,k58,hn58⟩:=hX.new (hS2 13 (by decide))
 dsimp only at hrepy hby e58 k58 hn58
 have hn58:=hn58 (hS2 12 (by decide))
 have fzz:=hX.fz
 clear hX
 have hs8:=bel.size
 have hszz:=fzz.size
 have hl4:=k4.lt
 have hl6:=k6.lt
 have belz:=bel.call fzz
 have k4z:=k4.fz fzz (by omega)
 have k6z:=k6.fz fzz (by omega)
 have kpz:=kp.fz k99 fzz
 have rsz:=rs.fz fzz (by omega)
 obtain⟨AY,cY,hvY⟩:=hrepy.form
 subst hvY
 obtain⟨hhi,Sl,hrepl,hbl⟩:=rsz
 have hhi8:=rs.1
 have hadd58:(⟨g58,0,none⟩:Addr).add=fun j=>⟨g58,j,none⟩:=by funext j;unfold Addr.add;split<;>simp_all
 have rs2:MadeE g4 wz.heap.size g6 (mk2 op left y) (.agg (exC (mk2 op left y) (some ⟨g58,0,none⟩) 2)) wz:=by
  refine⟨Nat.le_refl _,fun b=>Sl b∨Sy b∨b=g58,RepE.mk (args:=[left,y]) (vs:=[.agg (exC left AL cL), .agg (exC y AY cY)]) rfl (by simp) hop64 (by unfold I64;omega) (by simp) (by simp) (fun i e v h1 h2=> ?_) (fun _=>⟨⟨g58,0,none⟩,rfl, .inr (.inr rfl),fun j u hu=> ?_⟩),fun b hb=> ?_⟩
  ·match i,h1,h2 with
   |0,h1,h2=>
    simp at h1 h2
    subst h1 h2
    exact hrepl.mono (fun _ h=> .inl h) (fun _ _=>rfl)
   |1,h1,h2=>
    simp at h1 h2
    subst h1 h2
    exact hrepy.mono (fun _ h=> .inr (.inl h)) (fun _ _=>rfl)
   |i+2,h1,_=>simp at h1
  ·rw[hadd58,k58.cell j]
   have hu2:(flatC [Value.agg (exC left AL cL),Value.agg (exC y AY cY)]).toArray[j]? =some u:=by simpa using hu
   exact hu2
  ·rcases hb with hb|hb|rfl
   ·obtain⟨h1,h2,h3⟩:=hbl b hb
    exact⟨h1,by omega,h3⟩
   ·obtain⟨h1,h2⟩:=hby b hb
    exact⟨by omega,h2,by omega⟩
   ·exact⟨by omega,k58.lt,by omega⟩
 have hstep3:R=if lvl=2 then .ok (mk2 op left y) q2 else(fuelP K.ws m).L lvl (mk2 op left y) q2 d:=by rw[hstep2,hr2];rfl
 clear bel k4 k6 kp rs k99 k7 kl kop
 have bel:=belz
 have k4:=k4z
 have k6:=k6z
 have kp:=kpz
 have rs:=rs2
 have k99:=pwz.blk
 refine Zo 4 k6 ?_
 intro w9 pw9
 replace bel:=bel.put k6 pw9 e6
 replace kp:=kp.put k6 pw9 e6
 replace rs:=rs.put k6 pw9 e6
 replace k99:=k99.put pw9 (by omega)
 replace k4:=k4.put pw9 (by omega)
 replace k6:=pw9.blk
 refine Zk8 0 1 4 5 6 7 8 36 (Ztq ?_)
 refine Zm ?_
 refine Zm ?_
 have kl:Blk _ gl 121 csl:=kp.blk lv.lev
 refine Zv ((Runs.indexN rfl rfl rfl Tryz.underlying116 (s:=3) (by kernel_rfl) (j:=lvl) rfl (by omega)).cast haddL) ?_
 refine Zv (Runs.fieldA 2 rfl rfl Tryz.underlying121 rfl (by kernel_rfl)) ?_
 refine Zv (Runs.loadB (g:=gl) (i:=lvl*3+2) rfl rfl Tryz.underlying4 rfl kl lv.s2) ?_
 refine Zk9 0 1 4 5 6 7 8 36 64 (Zt ?_)
 refine Cd.condD rfl (fun h2=> ?_) (fun h2=> ?_)
 ·rw[if_pos h2] at hstep3
  have hlt4:=k4.lt
  refine Zsr ?_
  refine Zv (Runs.loadW rfl rfl Tryz.underlying35 rfl k6 (m:=4) (by kernel_rfl) rfl) ?_
  refine Zo 4 k4 ?_
  intro w10 pw10
  replace bel:=bel.put k4 pw10 e4
  replace kp:=kp.put k4 pw10 e4
  replace rs:=rs.put k4 pw10 e4
  replace k99:=k99.put pw10 (by omega)
  replace k6:=k6.put pw10 (by omega)
  replace k4:=pw10.blk
  refine Zk9 0 1 4 5 6 7 8 36 64 (Zt (Cd.ret (Post.block_ret (Post.round_ret (Post.block_ret ?_)))))
  refine Post.endC rfl rfl k4 Tryz.underlying35 rfl (m:=4) (by kernel_rfl) rfl (.inl rfl) ?_
  rw[hstep3]
  obtain⟨hhi2,S',hrep',hb'⟩:=rs
  exact⟨bel,_,rfl,⟨k99,pw.rd.below (bel.below (by omega) hle),pwz.p_le,pwz.d_le⟩,S',hrep',fun b h=>⟨by have:=(hb' b h).1;omega,by have:=(hb' b h).2.1;omega⟩⟩
 ·rw[if_neg h2] at hstep3
  refine Cd.skip (Post.block_normal ?_)
  exact Post.round (m,mk2 op left y,(some ⟨g58,0,none⟩,2),q2) ⟨rfl,rfl,rfl,rfl,rfl,trivial⟩ ⟨⟨k99,pw.rd.below (bel.below (by omega) hle),pwz.p_le,pwz.d_le⟩,bel,k4,k6,kp,rs.up,by dsimp only;omega,hstep3⟩ (by dsimp only;omega)
theorem has_all (K:Ctx)(hK:K.Ok)(n:Nat):(∀m,m≤n→HasS K (fuelP K.ws m).S∧∀lvl,lvl≤5→HasL K m lvl):=by
 induction n with
 |zero=>
  intro m hm
  obtain rfl:m=0:=by omega
  exact⟨fun p d W _ h=>absurd rfl h,fun lvl _ p d W _ h=>absurd rfl h⟩
 |succ n ih=>
  intro m hm
  rcases Nat.lt_or_ge m (n+1) with h|h
  ·exact ih m (by omega)
  obtain rfl:m=n+1:=by omega
  obtain⟨i1,i2⟩:=ih n (Nat.le_refl _)
  have hS:HasS K (fuelP K.ws (n+1)).S:=fun p d W hp hne=>by
   have e:(fuelP K.ws (n+1)).S p d=unaryP K.ws (fuelP K.ws n).S ((fuelP K.ws n).E 0) p d:=rfl
   rw[e] at hne⊢
   exact unary_any K hK _ _ i1 (fun p d W hp hne=>i2 0 (by omega) p d W hp hne) p d W hp hne
  refine⟨hS,fun lvl hl=> ?_⟩
  have key:∀j lvl,lvl+j=5→HasL K (n+1) lvl:=by
   intro j
   induction j with
   |zero=>intro lvl h;obtain rfl:lvl=5:=(by omega);exact expr_top K hK n hS
   |succ j ihj=>intro lvl h;exact expr_any K hK n lvl (by omega) (ihj (lvl+1) (by omega)) (fun m hm=>(ih m hm).2 (lvl+1) (by omega))
  exact key (5-lvl) lvl (by omega)
end Go.Proofs.YtaamkfajnpobfaaGreat
