/-
  LevelRests: what is taken, dropped, added: all plain facts. No condition.
-/
import Derived.Test.YthcimkhnijnmgaaRstD
namespace Go.Proofs.Ythcimkhnijnmgaa
open Go.RowKit

theorem uni_fl : ∀ {q : List Fl}, q.Pairwise (fun a b => a.num ≠ b.num) → ∀ {a : Fl}, a ∈ q → q.find? (fun g => decide (g.num = a.num)) = some a
  | [], _, a, h => by cases h
  | x :: r, hp, a, h => by
    obtain ⟨h1, h2⟩ := List.pairwise_cons.1 hp
    rcases List.mem_cons.1 h with rfl | h
    · rw [List.find?_cons_of_pos (by simp)]
    · rw [List.find?_cons_of_neg (by simpa using h1 a h)]
      exact uni_fl h2 h
theorem erase_filter (n : Int) : ∀ {q : List Fl}, q.Pairwise (fun a b => a.num ≠ b.num) → q.eraseP (fun f => decide (f.num = n)) = q.filter (fun f => !decide (f.num = n))
  | [], _ => rfl
  | x :: r, hp => by
    obtain ⟨h1, h2⟩ := List.pairwise_cons.1 hp
    by_cases hx : x.num = n
    · rw [List.eraseP_cons_of_pos (by simpa using hx), List.filter_cons_of_neg (by simpa using hx)]
      refine (List.filter_eq_self.2 fun f hf => ?_).symm
      have := h1 f hf
      simpa using fun e : f.num = n => this (hx.trans e.symm)
    · rw [List.eraseP_cons_of_neg (by simpa using hx), List.filter_cons_of_pos (by simpa using hx), erase_filter n h2]
theorem dr_filter : ∀ (l : List Int) {q : List Fl}, q.Pairwise (fun a b => a.num ≠ b.num) → l.Nodup → (∀ n ∈ l, ∃ f ∈ q, f.num = n) → Dr q l (q.filter (fun f => !(l.contains f.num)))
  | [], q, _, _, _ => by
    exact (List.filter_eq_self.2 (by simp)).symm
  | n :: r, q, hp, hn, hm => by
    obtain ⟨n1, n2⟩ := List.nodup_cons.1 hn
    obtain ⟨f, hf, hfn⟩ := hm n List.mem_cons_self
    refine ⟨⟨f, hf, by simpa using hfn⟩, ?_⟩
    rw [erase_filter n hp]
    have := dr_filter r (q := q.filter (fun f => !decide (f.num = n))) (hp.filter _) n2 fun m hmr => by
      obtain ⟨g, hg, hgm⟩ := hm m (List.mem_cons_of_mem _ hmr)
      refine ⟨g, List.mem_filter.2 ⟨hg, ?_⟩, hgm⟩
      have : g.num ≠ n := fun e => n1 (by rw [← e, hgm]; exact hmr)
      simpa using this
    rw [List.filter_filter] at this
    have he : (fun a : Fl => (!(r.contains a.num)) && !decide (a.num = n)) = fun f : Fl => !((n :: r).contains f.num) := by
      funext a
      rw [List.contains_cons, Bool.not_or, Bool.and_comm]
      congr 2
    rw [he] at this
    exact this
theorem dr_len : ∀ (l : List Int) {q rem : List Fl}, Dr q l rem → rem.length + l.length = q.length
  | [], q, rem, h => by
    have h : q = rem := h
    rw [h]; rfl
  | n :: r, q, rem, h => by
    obtain ⟨⟨f, hf, hp⟩, h⟩ := h
    have h1 := dr_len r h
    have h2 := List.length_eraseP_of_mem (p := fun f : Fl => decide (f.num = n)) hf hp
    have h3 := List.length_pos_of_mem hf
    simp only [List.length_cons]
    omega
theorem uni_fs : ∀ {q : List Lv.File}, q.Pairwise (fun a b => a.num ≠ b.num) → ∀ {a b : Lv.File}, a ∈ q → b ∈ q → a.num = b.num → a = b
  | [], _, a, _, h, _, _ => by cases h
  | x :: r, hp, a, b, ha, hb, e => by
    obtain ⟨h1, h2⟩ := List.pairwise_cons.1 hp
    rcases List.mem_cons.1 ha with ea | ha' <;> rcases List.mem_cons.1 hb with eb | hb'
    · rw [ea, eb]
    · rw [ea] at e; exact absurd e (h1 b hb')
    · rw [eb] at e; exact absurd e.symm (h1 a ha')
    · exact uni_fs h2 ha' hb' e
theorem over_sym (f g : Lv.File) : Lv.overB f g = Lv.overB g f := by unfold Lv.overB; exact Bool.and_comm _ _
/-- All that is needed of what is taken. -/
theorem rests_plain {lg nx sq n : Int} {fs : List Lv.File} (hR : Lv.RightP lg nx sq fs) (hlen : fs.length ≤ 30) (hnx : nx ≤ 999990) (hT : Lv.takeFrom fs n ≠ []) :
    ∃ f0 r rem x, Lv.takeFrom fs n = f0 :: r ∧ 0 ≤ n ∧ n < 4 ∧ x = Fl.mk nx (n + 1) (bytesOf (Lv.loOf f0 (Lv.takeFrom fs n ++ Lv.takeInto fs n))) (bytesOf (Lv.hiOf f0 (Lv.takeFrom fs n ++ Lv.takeInto fs n))) 1 1 ∧
      (∀ (i : Nat) (f : Lv.File), (Lv.takeFrom fs n ++ Lv.takeInto fs n)[i]? = some f → (fs.map flOf).find? (fun g => decide (g.num = f.num)) = some (flOf f)) ∧
      Dr (fs.map flOf) ((Lv.takeFrom fs n ++ Lv.takeInto fs n).map (·.num)) rem ∧ rem.length + (Lv.takeFrom fs n ++ Lv.takeInto fs n).length = fs.length ∧ laidB (-1) (nx + 1) (-1) ((Lv.takeFrom fs n ++ Lv.takeInto fs n).map (·.num)) [x] = true ∧ x.ok ∧ rightB lg nx sq (fs.map flOf) = true ∧ ∀ M : List Fl, M.Perm (rem ++ [x]) → M.Pairwise leF → rightB lg (nx + 1) sq M = true := by
  obtain ⟨r1, r2, r3, r4, r5, r6, r7, hF, hP⟩ := hR
  have hgood := right_good (⟨r1, r2, r3, r4, r5, r6, r7, hF, hP⟩ : Lv.RightP lg nx sq fs)
  obtain ⟨hn0, hn4, hTm, f0, r, hfr, hI, hTs⟩ := take_sp hT
  obtain ⟨T, hTe⟩ : ∃ T, T = Lv.takeFrom fs n := ⟨_, rfl⟩
  obtain ⟨I, hIe⟩ : ∃ I, I = Lv.takeInto fs n := ⟨_, rfl⟩
  rw [← hTe] at hTm hfr ⊢
  rw [← hIe] at hI ⊢
  have hf0 : f0 ∈ T := by rw [hfr]; exact List.mem_cons_self
  rw [← hfr] at hI hTs
  have hpn : fs.Pairwise (fun a b => a.num ≠ b.num) := by
    rw [List.pairwise_iff_getElem]
    intro i j hi hj hij
    exact fun e => (hP j i fs[j] fs[i] hij (List.getElem?_eq_getElem hj) (List.getElem?_eq_getElem hi)).1 e.symm
  have hdis : ∀ f ∈ fs, ∀ g ∈ fs, f ≠ g → f.level = g.level → 0 < f.level → Lv.overB f g = false := fun f hf g hg hne hl h0 => by
    obtain ⟨i, hi, rfl⟩ := List.getElem_of_mem hf
    obtain ⟨j, hj, rfl⟩ := List.getElem_of_mem hg
    rcases Nat.lt_trichotomy i j with h | h | h
    · rw [over_sym]
      exact (hP j i fs[j] fs[i] h (List.getElem?_eq_getElem hj) (List.getElem?_eq_getElem hi)).2.2 hl.symm (by omega)
    · subst h; exact absurd rfl hne
    · exact (hP i j fs[i] fs[j] h (List.getElem?_eq_getElem hi) (List.getElem?_eq_getElem hj)).2.2 hl h0
  have hIm : ∀ f ∈ I, f ∈ fs ∧ f.level = n + 1 := fun f hf => by
    rw [hI] at hf
    obtain ⟨a, b, -⟩ := into_mem.1 hf
    exact ⟨a, b⟩
  have hLm : ∀ f ∈ T ++ I, f ∈ fs := fun f hf => by
    rcases List.mem_append.1 hf with h | h
    · exact (hTm f h).1
    · exact (hIm f h).1
  have hIs : I.Sublist fs := by rw [hI]; unfold Lv.withinS; exact List.filter_sublist.trans List.filter_sublist
  have hnd : ((T ++ I).map (·.num)).Nodup := by
    show List.Pairwise _ _
    rw [List.pairwise_map, List.pairwise_append]
    refine ⟨?_, hpn.sublist hIs, fun a ha b hb e => ?_⟩
    · rcases hTs with h | h
      · rw [hfr, h]
        simp
      · exact hpn.sublist h
    · have := uni_fs hpn (hTm a ha).1 (hIm b hb).1 e
      have h1 := (hTm a ha).2
      have h2 := (hIm b hb).2
      rw [this] at h1
      omega
  have hpf : (fs.map flOf).Pairwise (fun a b => a.num ≠ b.num) := by rw [List.pairwise_map]; exact hpn
  have hdr := dr_filter ((T ++ I).map (·.num)) hpf hnd fun m hm => by
    obtain ⟨f, hf, rfl⟩ := List.mem_map.1 hm
    exact ⟨flOf f, List.mem_map_of_mem (hLm f hf), rfl⟩
  obtain ⟨rem, hrem⟩ : ∃ rem, rem = (fs.map flOf).filter (fun f => !(((T ++ I).map (·.num)).contains f.num)) := ⟨_, rfl⟩
  rw [← hrem] at hdr
  have hlr := dr_len _ hdr
  rw [List.length_map, List.length_map] at hlr
  have hf0L : f0 ∈ T ++ I := List.mem_append_left _ hf0
  obtain ⟨⟨F, hFm, eF⟩, lo2⟩ := lo_sp hf0L
  obtain ⟨⟨E, hEm, eE⟩, hi2⟩ := hi_sp hf0L
  have hFo := hF F (hLm F hFm)
  have hEo := hF E (hLm E hEm)
  have h0o := hF f0 (hLm f0 hf0L)
  obtain ⟨x, hx⟩ : ∃ x, x = Fl.mk nx (n + 1) (bytesOf (Lv.loOf f0 (T ++ I))) (bytesOf (Lv.hiOf f0 (T ++ I))) 1 1 := ⟨_, rfl⟩
  have hnx1 : 1 ≤ nx := by have := h0o.1; have := h0o.2.1; omega
  have hle : Op.bytesLess (Lv.hiOf f0 (T ++ I)).toList (Lv.loOf f0 (T ++ I)).toList = false := bl_neg (bl_neg (hi2 f0 hf0L) (ok_le h0o)) (lo2 f0 hf0L)
  have hfl : (Lv.loOf f0 (T ++ I)).size = F.first.size ∧ (Lv.hiOf f0 (T ++ I)).size = E.last.size := by rw [eF, eE]; exact ⟨rfl, rfl⟩
  obtain ⟨-, -, -, -, s1, -, s3, -⟩ := hFo
  obtain ⟨-, -, -, -, -, s2, -, s4, -⟩ := hEo
  have hmx : mayB x = true := by
    rw [hx]
    unfold mayB leB
    dsimp only
    rw [ltB_fl, eqS_fl, bytesOf_len, bytesOf_len, hfl.1, hfl.2]
    simp only [Bool.and_eq_true, decide_eq_true_eq, Bool.or_eq_true]
    refine ⟨⟨⟨⟨⟨⟨⟨⟨⟨⟨hnx1, by omega⟩, by omega⟩, by omega⟩, ⟨by omega, by omega⟩⟩, ⟨by omega, by omega⟩⟩, ?_⟩, by omega⟩, by omega⟩, by omega⟩, by omega⟩
    cases e1 : Op.bytesLess (Lv.loOf f0 (T ++ I)).toList (Lv.hiOf f0 (T ++ I)).toList with
    | true => exact .inl rfl
    | false => right; rw [bl_tot _ _ e1 hle]; simp
  have hcl : (rem ++ [x]).Pairwise fun g f => clashB f g = false := by
    rw [List.pairwise_append]
    refine ⟨?_, List.pairwise_singleton _ _, fun g hg f hf => ?_⟩
    · rw [hrem]
      exact (hgood.pair.imp fun h => h.2).filter _
    · simp at hf
      subst hf
      rw [hrem, List.mem_filter] at hg
      obtain ⟨hg1, hg2⟩ := hg
      obtain ⟨G, hG, rfl⟩ := List.mem_map.1 hg1
      have hGn : G.num < nx := (hF G hG).2.1
      have hGI : G ∉ I := fun h => by
        have : ((T ++ I).map (·.num)).contains (flOf G).num = true := by
          rw [List.contains_iff_mem]
          exact List.mem_map.2 ⟨G, List.mem_append_right _ h, rfl⟩
        rw [this] at hg2
        cases hg2
      rw [hx]
      unfold clashB
      rw [Bool.or_eq_false_iff]
      refine ⟨decide_eq_false (show nx ≠ G.num by omega), ?_⟩
      by_cases hGl : G.level = n + 1
      · have := left_out hF hdis hn0 hf0 (fun f hf => (hTm f hf).1) hI hG hGl hGI
        unfold ovB
        rw [show ltB (bytesOf (Lv.hiOf f0 (T ++ I))) (flOf G).first = Op.bytesLess (Lv.hiOf f0 (T ++ I)).toList G.first.toList from ltB_fl _ _, show ltB (flOf G).last (bytesOf (Lv.loOf f0 (T ++ I))) = Op.bytesLess G.last.toList (Lv.loOf f0 (T ++ I)).toList from ltB_fl _ _]
        rcases this with h | h <;> rw [h] <;> simp
      · rw [show decide (n + 1 = (flOf G).level) = false from decide_eq_false (fun h => hGl h.symm)]
        simp
  have hmay : ∀ f ∈ rem ++ [x], mayB f = true ∧ f.num < nx + 1 := fun f hf => by
    rcases List.mem_append.1 hf with h | h
    · rw [hrem, List.mem_filter] at h
      obtain ⟨a, b⟩ := hgood.may f h.1
      exact ⟨a, by omega⟩
    · simp at h
      subst h
      exact ⟨hmx, by rw [hx]; show nx < nx + 1; omega⟩
  have hdl : (T ++ I).length ≤ 30 := by omega
  refine ⟨f0, r, rem, x, hfr, hn0, hn4, hx, fun i f hf => ?_, hdr, hlr, ?_, ?_, good_right hgood ⟨r1, r2⟩ ⟨r3, r4⟩ ⟨r5, r6⟩ (by rw [List.length_map]; exact r7), fun M hM hs => ?_⟩
  · have hfL := hLm f (List.mem_of_getElem? hf)
    exact uni_fl hpf (List.mem_map_of_mem (f := flOf) hfL)
  · unfold laidB
    have h1 : ([x].any badF) = false := by
      rw [hx]
      unfold badF
      simp only [List.any_cons, List.any_nil, Bool.or_false, Bool.or_eq_false_iff, decide_eq_false_iff_not]
      rw [bytesOf_len, bytesOf_len, hfl.1, hfl.2]
      omega
    have h2 : (((T ++ I).map (·.num)).any fun n => decide (n < 0)) = false := by
      rw [List.any_eq_false]
      intro m hm
      obtain ⟨f, hf, rfl⟩ := List.mem_map.1 hm
      have := (hF f (hLm f hf)).1
      simp
      omega
    rw [h1, h2]
    simp only [Bool.and_eq_true, decide_eq_true_eq, List.length_map, List.length_cons, List.length_nil]
    exact ⟨⟨⟨by omega, by omega⟩, rfl⟩, rfl⟩
  · rw [hx]; exact ⟨bytesOf_lt _, bytesOf_lt _⟩
  · have hMl : M.length = rem.length + 1 := by rw [hM.length_eq]; simp
    have : 1 ≤ (T ++ I).length := by rw [hfr]; simp
    exact good_right (good_sorted hmay hcl hM hs) ⟨r1, r2⟩ ⟨by omega, by omega⟩ ⟨r5, r6⟩ (by omega)
end Go.Proofs.Ythcimkhnijnmgaa
