/-
  edit.Encode: what it lays. Condition: the lists are within reach.
-/
import Derived.Test.YthnnephcohljeaaCodB
import Derived.Test.YthnnephcohljeaaEditD
namespace Go.Proofs.Ythnnephcohljeaa
open Go.RowKit

/-- One of some lists, by its place. -/
def nthL {α : Type} (d : α) : List α → Nat → α
  | [], _ => d
  | x :: _, 0 => x
  | _ :: r, k + 1 => nthL d r k
theorem enc1_any (B g n : Nat) (bs : List Nat) (w : World) (h : Wr w B g bs) (hn : n < 9223372036854775808) (hl : bs.length + 10 ≤ 1000000000) :
    Calls Try.prog 31 #[.pointer (some ⟨g, 0, none⟩), .int .i64 (n : Int)] w fun e w' => e = .returned (.tuple #[]) ∧ Wf B w w' ∧ Wr w' B g (bs ++ grp n) := by
  have wf := Wf.refl B w
  have wr := h
  refine Calls.start 7 Try.func31 rfl rfl rfl ?_
  refine Cd.region ?_
  refine Seq.val (Runs.move rfl rfl) rfl rfl rfl ?_
  refine Seq.val (Runs.move rfl rfl) rfl rfl rfl ?_
  refine Seq.call (Enters.func rfl rfl rfl (run_enter Try.func32 (by kernel_rfl) rfl)) rfl rfl rfl (size_any B g n _ _ wr hn hl) ?_
  clear wr
  rintro e w1 ⟨rfl, fw1, wr⟩
  refine ⟨_, rfl, ?_⟩
  replace wf := wf.wf fw1
  refine Seq.nil ?_
  refine Post.weak (F' := [(0, _), (1, _)]) ⟨rfl, rfl, trivial⟩ ?_
  refine Post.end0 rfl (.inr rfl) ?_
  exact ⟨rfl, wf, wr⟩
def DN (l : List Nat) : List Int := l.map fun (z : Nat) => (z : Int)
/-- A file, as it is laid. -/
structure Fn where
  num : Nat
  level : Nat
  first : List Nat
  last : List Nat
  count : Nat
  size : Nat
def Fn.fl (f : Fn) : Fl := ⟨f.num, f.level, f.first, f.last, f.count, f.size⟩
def txt (s : List Nat) : List Nat := grp s.length ++ s
def Fn.bytes (f : Fn) : List Nat := grp f.num ++ (grp f.level ++ (txt f.first ++ (txt f.last ++ (grp f.count ++ grp f.size))))
structure Fn.ok (f : Fn) : Prop where
  num : f.num < 9223372036854775808
  level : f.level < 9223372036854775808
  count : f.count < 9223372036854775808
  size : f.size < 9223372036854775808
  first : ∀ d ∈ f.first, d < 256
  last : ∀ d ∈ f.last, d < 256
  first80 : f.first.length ≤ 80
  last80 : f.last.length ≤ 80
theorem Fn.len {f : Fn} (h : f.ok) : f.bytes.length ≤ 220 := by
  have h1 := grp_len f.num
  have h2 := grp_len f.level
  have h3 := grp_len f.first.length
  have h4 := grp_len f.last.length
  have h5 := grp_len f.count
  have h6 := grp_len f.size
  have h7 := h.first80
  have h8 := h.last80
  simp only [Fn.bytes, txt, List.length_append]
  omega
theorem enc2_any (B g : Nat) (f : Fn) (bs : List Nat) (w : World) (h : Wr w B g bs) (hf : f.ok) (hl : bs.length + 220 ≤ 1000000000) :
    Calls Try.prog 34 #[.pointer (some ⟨g, 0, none⟩), f.fl.v] w fun e w' => e = .returned (.tuple #[]) ∧ Wf B w w' ∧ Wr w' B g (bs ++ f.bytes) := by
  have wf := Wf.refl B w
  have wr := h
  have h1 := grp_len f.num
  have h2 := grp_len f.level
  have h3 := grp_len f.first.length
  have h4 := grp_len f.last.length
  have h5 := grp_len f.count
  have h6 := grp_len f.size
  have h7 := hf.first80
  have h8 := hf.last80
  refine Calls.start 23 Try.func34 rfl rfl rfl ?_
  refine Cd.seq ?_
  refine Cd.region ?_
  refine Seq.box rfl rfl rfl rfl rfl ?_
  intro g3 w1 n3
  have e3 := Nat.le_trans wf.below.size n3.ge
  replace wf := wf.step n3.below
  replace wr := wr.step n3.below
  have k3 := n3.blk
  refine Seq.nil ?_
  refine Post.weak (F' := [(0, _), (1, _), (3, _)]) ⟨rfl, rfl, rfl, trivial⟩ ?_
  refine Post.then_ ?_
  refine Cd.drawJ 19 (by kernel_rfl) [] [3, 6, 9, 12, 15, 18] (fun i h => by cases h) rfl rfl (.inl rfl) rfl (Wf B) (Wf.refl B) (fun _ _ _ => Wf.trans) (fun c w => Wr w B g (nthL [] [bs, bs ++ grp f.num, bs ++ grp f.num ++ grp f.level, bs ++ grp f.num ++ grp f.level ++ txt f.first, bs ++ grp f.num ++ grp f.level ++ txt f.first ++ txt f.last, bs ++ grp f.num ++ grp f.level ++ txt f.first ++ txt f.last ++ grp f.count, bs ++ grp f.num ++ grp f.level ++ txt f.first ++ txt f.last ++ grp f.count ++ grp f.size] c)) ?_
  intro w2 hw2 zw2
  replace wf := wf.step hw2
  replace wr := wr.step hw2
  replace k3 := k3.step hw2
  refine ⟨wr, ?_⟩
  have zlt := k3.lt
  refine DJ.val rfl (Wf.refl B) rfl (fun w hG => Runs.move rfl rfl) rfl ?_
  refine DJ.val rfl (Wf.refl B) rfl (fun w hG => Runs.fieldB 0 rfl rfl Try.underlying28 rfl (by kernel_rfl)) rfl ?_
  refine DJ.val rfl (Wf.refl B) rfl (fun w hG => Runs.loadB rfl rfl Try.underlying3 rfl (k3.wf hG) rfl) rfl ?_
  refine DJ.chain 0 rfl rfl (fun w => Enters.func rfl rfl rfl (run_enter Try.func32 (by kernel_rfl) rfl)) rfl (fun w hG wr => size_any B g f.num _ _ wr hf.num (by omega)) ?_
  refine DJ.val rfl (Wf.refl B) rfl (fun w hG => Runs.fieldB 1 rfl rfl Try.underlying28 rfl (by kernel_rfl)) rfl ?_
  refine DJ.val rfl (Wf.refl B) rfl (fun w hG => Runs.loadB rfl rfl Try.underlying3 rfl (k3.wf hG) rfl) rfl ?_
  refine DJ.chain 1 rfl rfl (fun w => Enters.func rfl rfl rfl (run_enter Try.func32 (by kernel_rfl) rfl)) rfl (fun w hG wr => size_any B g f.level _ _ wr hf.level (by simp only [nthL, List.length_append]; omega)) ?_
  refine DJ.val rfl (Wf.refl B) rfl (fun w hG => Runs.fieldB 2 rfl rfl Try.underlying28 rfl (by kernel_rfl)) rfl ?_
  refine DJ.val rfl (Wf.refl B) rfl (fun w hG => Runs.loadB rfl rfl Try.underlying9 rfl (k3.wf hG) rfl) rfl ?_
  refine DJ.chain 2 rfl rfl (fun w => Enters.func rfl rfl rfl (run_enter Try.func35 (by kernel_rfl) rfl)) rfl (fun w hG wr => text_any B g f.first _ _ wr hf.first (by simp only [nthL, List.length_append]; omega)) ?_
  refine DJ.val rfl (Wf.refl B) rfl (fun w hG => Runs.fieldB 3 rfl rfl Try.underlying28 rfl (by kernel_rfl)) rfl ?_
  refine DJ.val rfl (Wf.refl B) rfl (fun w hG => Runs.loadB rfl rfl Try.underlying9 rfl (k3.wf hG) rfl) rfl ?_
  refine DJ.chain 3 rfl rfl (fun w => Enters.func rfl rfl rfl (run_enter Try.func35 (by kernel_rfl) rfl)) rfl (fun w hG wr => text_any B g f.last _ _ wr hf.last (by simp only [nthL, txt, List.length_append]; omega)) ?_
  refine DJ.val rfl (Wf.refl B) rfl (fun w hG => Runs.fieldB 4 rfl rfl Try.underlying28 rfl (by kernel_rfl)) rfl ?_
  refine DJ.val rfl (Wf.refl B) rfl (fun w hG => Runs.loadB rfl rfl Try.underlying3 rfl (k3.wf hG) rfl) rfl ?_
  refine DJ.chain 4 rfl rfl (fun w => Enters.func rfl rfl rfl (run_enter Try.func32 (by kernel_rfl) rfl)) rfl (fun w hG wr => size_any B g f.count _ _ wr hf.count (by simp only [nthL, txt, List.length_append]; omega)) ?_
  refine DJ.val rfl (Wf.refl B) rfl (fun w hG => Runs.fieldB 5 rfl rfl Try.underlying28 rfl (by kernel_rfl)) rfl ?_
  refine DJ.val rfl (Wf.refl B) rfl (fun w hG => Runs.loadB rfl rfl Try.underlying3 rfl (k3.wf hG) rfl) rfl ?_
  refine DJ.chain 5 rfl rfl (fun w => Enters.func rfl rfl rfl (run_enter Try.func32 (by kernel_rfl) rfl)) rfl (fun w hG wr => size_any B g f.size _ _ wr hf.size (by simp only [nthL, txt, List.length_append]; omega)) ?_
  refine DJ.nil ?_
  refine FinX.done (F' := [(0, _), (1, _), (3, _)]) rfl ⟨rfl, rfl, rfl, trivial⟩ ?_
  intro w3 hw3 fw3
  replace wf := wf.wf hw3
  replace k3 := k3.wf hw3
  clear wr
  have wr := fw3
  refine Seq.nil ?_
  refine Post.weak (F' := [(0, _), (1, _), (3, _)]) ⟨rfl, rfl, rfl, trivial⟩ ?_
  refine Post.end0 rfl (.inr rfl) ?_
  exact ⟨rfl, wf, by have wr' : Wr _ B g (bs ++ grp f.num ++ grp f.level ++ txt f.first ++ txt f.last ++ grp f.count ++ grp f.size) := wr; simpa only [Fn.bytes, List.append_assoc] using wr'⟩
theorem zero_edit_File : zeroIs Try.prog 28 = some (some (.agg #[.int .i64 0, .int .i64 0, .string { data := #[] }, .string { data := #[] }, .int .i64 0, .int .i64 0])) := by kernel_rfl
theorem eg_enc1 : ∀ args w, (callFunc 31 args).run Try.prog w = .ok (.enter 31 args) w := fun args w => run_enter Try.func31 (by kernel_rfl) rfl args w
theorem eg_enc2 : ∀ args w, (callFunc 34 args).run Try.prog w = .ok (.enter 34 args) w := fun args w => run_enter Try.func34 (by kernel_rfl) rfl args w
theorem flat_take {α : Type} (f : α → List Nat) {l : List α} {k : Nat} {x : α} (h : l[k]? = some x) : (l.take (k + 1)).flatMap f = (l.take k).flatMap f ++ f x := by
  rw [List.take_add_one, h, List.flatMap_append]
  simp
theorem flat_len {α : Type} (f : α → List Nat) (m : Nat) : ∀ {l : List α}, (∀ x ∈ l, (f x).length ≤ m) → (l.flatMap f).length ≤ l.length * m
  | [], _ => by simp
  | x :: r, h => by
    have h1 := h x List.mem_cons_self
    have h2 := flat_len f m (l := r) (fun y hy => h y (List.mem_cons_of_mem _ hy))
    rw [List.flatMap_cons, List.length_append, List.length_cons, Nat.add_mul]
    omega
theorem putN_any (B g B2 cap : Nat) (A : Option Addr) (l : List Nat) (bs : List Nat) (w : World) (h : Wr w B g bs) (hr : Reads w B2 1 A l.length (DI (DN l))) (hB : B2 ≤ B) (hn : ∀ n ∈ l, n < 9223372036854775808) (hlen : l.length ≤ 1000) (hl : bs.length ≤ 900000000) :
    Calls Try.prog 30 #[.pointer (some ⟨g, 0, none⟩), .slice A l.length cap, .func (.func 31) #[] #[]] w fun e w' => e = .returned (.tuple #[]) ∧ Wf B w w' ∧ Wr w' B g (bs ++ (grp l.length ++ l.flatMap grp)) := by
  have wf := Wf.refl B w
  have wr := h
  have hBw := h.size
  have hg := grp_len l.length
  generalize hn0 : l.length = n at *
  refine Calls.start 23 Try.func30 rfl rfl rfl ?_
  refine Cd.seq ?_
  refine Cd.region ?_
  refine Seq.val (Runs.move rfl rfl) rfl rfl rfl ?_
  refine Seq.val (Runs.move rfl rfl) rfl rfl rfl ?_
  refine Seq.val (Runs.len rfl rfl Try.underlying30) rfl rfl rfl ?_
  refine Seq.call (Enters.func rfl rfl rfl (run_enter Try.func32 (by kernel_rfl) rfl)) rfl rfl rfl (size_any B g n _ _ wr (by omega) (by omega)) ?_
  clear wr
  rintro e w1 ⟨rfl, fw1, wr⟩
  refine ⟨_, rfl, ?_⟩
  replace wf := wf.wf fw1
  refine Seq.nil ?_
  refine Post.weak (F' := [(0, _), (1, _), (2, _)]) ⟨rfl, rfl, rfl, trivial⟩ ?_
  refine Post.then_ ?_
  refine Cd.seq ?_
  refine Cd.region ?_
  refine Seq.val (Runs.move rfl rfl) rfl rfl rfl ?_
  refine Seq.val (Runs.len rfl rfl Try.underlying30) rfl rfl rfl ?_
  refine Seq.val (Runs.move rfl rfl) rfl rfl rfl ?_
  refine Seq.nil ?_
  refine Post.weak (F' := [(0, _), (1, _), (2, _), (12, _), (13, _), (14, _)]) ⟨rfl, rfl, rfl, rfl, rfl, rfl, trivial⟩ ?_
  refine Post.then_ ?_
  refine Cd.block ?_
  refine Cd.loop (σ := Nat) (fun k => [(0, .pointer (some ⟨g, 0, none⟩)), (2, .func (.func 31) #[] #[]), (12, .slice A n cap), (13, .int .i64 (n : Int)), (14, .int .i64 (k : Int))])
    (fun k wr => k ≤ n ∧ Wf B w wr ∧ Wr wr B g (bs ++ grp n ++ (l.take k).flatMap grp)) (fun k => n - k) 0 ⟨Nat.zero_le _, wf, by simpa using wr⟩ ⟨rfl, rfl, rfl, rfl, rfl, trivial⟩ ?_
  clear wf wr
  rintro k wr0 ⟨hk, wf, wr⟩
  have hlt := flat_len grp 10 (l := l.take k) (fun x _ => grp_len x)
  rw [List.length_take] at hlt
  refine Cd.seq ?_
  refine Cd.region ?_
  refine Seq.val (Runs.lss rfl rfl rfl) rfl rfl rfl ?_
  refine Seq.nil ?_
  refine Post.weak (F' := [(0, _), (2, _), (12, _), (13, _), (14, _), (15, _)]) ⟨rfl, rfl, rfl, rfl, rfl, rfl, trivial⟩ ?_
  refine Post.then_ ?_
  refine Cd.seq ?_
  refine Cd.condD rfl (fun hc => ?_) (fun hc => ?_)
  · obtain ⟨x, hx⟩ : ∃ x, l[k]? = some x := ⟨_, List.getElem?_eq_getElem (show k < l.length by omega)⟩
    obtain ⟨ad, rfl, hbl, hc⟩ := hr.2 (by omega)
    have hc := ((wf.to hBw).cell (p := ad.add k) (by rw [block_of_add]; omega)).trans (hc k (.int .i64 (x : Int)) (by simp [DI, DN, hx]))
    refine Cd.skip ?_
    refine Post.then_ ?_
    refine Cd.seq ?_
    refine Cd.block ?_
    refine Cd.seq ?_
    refine Cd.region ?_
    refine Seq.val (Runs.index1 rfl rfl rfl Try.underlying30 (by kernel_rfl) (j := k) rfl (by omega)) rfl rfl rfl ?_
    refine Seq.val (Runs.load1 rfl rfl Try.underlying3 rfl hc) rfl rfl rfl ?_
    refine Seq.val (Runs.assign rfl rfl) rfl rfl rfl ?_
    refine Seq.nil ?_
    refine Post.weak (F' := [(0, _), (2, _), (7, _), (12, _), (13, _), (14, _), (15, _)]) ⟨rfl, rfl, rfl, rfl, rfl, rfl, rfl, trivial⟩ ?_
    refine Post.then_ ?_
    refine Cd.region ?_
    refine Seq.val (Runs.move rfl rfl) rfl rfl rfl ?_
    refine Seq.val (Runs.move rfl rfl) rfl rfl rfl ?_
    refine Seq.val (Runs.move rfl rfl) rfl rfl rfl ?_
    refine Seq.call (Enters.value (first := []) (cap := []) rfl rfl rfl eg_enc1) rfl rfl rfl (enc1_any B g x _ _ wr (hn x (List.mem_of_getElem? hx)) (by simp only [List.length_append]; omega)) ?_
    clear wr
    rintro e w5 ⟨rfl, f5, wr⟩
    refine ⟨_, rfl, ?_⟩
    replace wf := wf.wf f5
    rw [List.append_assoc, ← flat_take grp hx] at wr
    refine Seq.nil ?_
    refine Post.weak (F' := [(0, _), (2, _), (7, _), (12, _), (13, _), (14, _), (15, _)]) ⟨rfl, rfl, rfl, rfl, rfl, rfl, rfl, trivial⟩ ?_
    refine Post.block_normal ?_
    refine Post.then_ ?_
    refine Cd.region ?_
    refine Seq.val (Runs.addI rfl rfl rfl (by omega) (by omega)) rfl rfl rfl ?_
    refine Seq.val (Runs.move rfl rfl) rfl rfl rfl ?_
    refine Seq.nil ?_
    refine Post.weak (F' := [(0, _), (2, _), (7, _), (12, _), (13, _), (14, _), (15, _)]) ⟨rfl, rfl, rfl, rfl, rfl, rfl, rfl, trivial⟩ ?_
    exact Post.round (k + 1) ⟨rfl, rfl, rfl, rfl, rfl, trivial⟩ ⟨by omega, wf, wr⟩ (by omega)
  · obtain rfl : k = n := by omega
    rw [List.take_of_length_le (by omega), List.append_assoc] at wr
    refine Cd.exit ?_
    refine Post.then_exit ?_
    refine Post.round_exit ?_
    refine Post.block_exit ?_
    refine Post.end0 rfl (.inr rfl) ?_
    exact ⟨rfl, wf, wr⟩
theorem putF_any (B g B2 cap : Nat) (A : Option Addr) (l : List Fn) (bs : List Nat) (w : World) (h : Wr w B g bs) (hr : Reads w B2 6 A l.length (fcs (l.map Fn.fl))) (hB : B2 ≤ B) (hn : ∀ f ∈ l, f.ok) (hlen : l.length ≤ 1000) (hl : bs.length ≤ 900000000) :
    Calls Try.prog 33 #[.pointer (some ⟨g, 0, none⟩), .slice A l.length cap, .func (.func 34) #[] #[]] w fun e w' => e = .returned (.tuple #[]) ∧ Wf B w w' ∧ Wr w' B g (bs ++ (grp l.length ++ l.flatMap Fn.bytes)) := by
  have wf := Wf.refl B w
  have wr := h
  have hBw := h.size
  have hg := grp_len l.length
  generalize hn0 : l.length = n at *
  refine Calls.start 23 Try.func33 rfl rfl rfl ?_
  refine Cd.seq ?_
  refine Cd.region ?_
  refine Seq.val (Runs.move rfl rfl) rfl rfl rfl ?_
  refine Seq.val (Runs.move rfl rfl) rfl rfl rfl ?_
  refine Seq.val (Runs.len rfl rfl Try.underlying36) rfl rfl rfl ?_
  refine Seq.call (Enters.func rfl rfl rfl (run_enter Try.func32 (by kernel_rfl) rfl)) rfl rfl rfl (size_any B g n _ _ wr (by omega) (by omega)) ?_
  clear wr
  rintro e w1 ⟨rfl, fw1, wr⟩
  refine ⟨_, rfl, ?_⟩
  replace wf := wf.wf fw1
  refine Seq.nil ?_
  refine Post.weak (F' := [(0, _), (1, _), (2, _)]) ⟨rfl, rfl, rfl, trivial⟩ ?_
  refine Post.then_ ?_
  refine Cd.seq ?_
  refine Cd.region ?_
  refine Seq.val (Runs.move rfl rfl) rfl rfl rfl ?_
  refine Seq.val (Runs.len rfl rfl Try.underlying36) rfl rfl rfl ?_
  refine Seq.val (Runs.move rfl rfl) rfl rfl rfl ?_
  refine Seq.nil ?_
  refine Post.weak (F' := [(0, _), (1, _), (2, _), (12, _), (13, _), (14, _)]) ⟨rfl, rfl, rfl, rfl, rfl, rfl, trivial⟩ ?_
  refine Post.then_ ?_
  refine Cd.block ?_
  refine Cd.loop (σ := Nat) (fun k => [(0, .pointer (some ⟨g, 0, none⟩)), (2, .func (.func 34) #[] #[]), (12, .slice A n cap), (13, .int .i64 (n : Int)), (14, .int .i64 (k : Int))])
    (fun k wr => k ≤ n ∧ Wf B w wr ∧ Wr wr B g (bs ++ grp n ++ (l.take k).flatMap Fn.bytes)) (fun k => n - k) 0 ⟨Nat.zero_le _, wf, by simpa using wr⟩ ⟨rfl, rfl, rfl, rfl, rfl, trivial⟩ ?_
  clear wf wr
  rintro k wr0 ⟨hk, wf, wr⟩
  have hlt := flat_len Fn.bytes 220 (l := l.take k) (fun x hx => Fn.len (hn x (List.mem_of_mem_take hx)))
  rw [List.length_take] at hlt
  refine Cd.seq ?_
  refine Cd.region ?_
  refine Seq.val (Runs.lss rfl rfl rfl) rfl rfl rfl ?_
  refine Seq.nil ?_
  refine Post.weak (F' := [(0, _), (2, _), (12, _), (13, _), (14, _), (15, _)]) ⟨rfl, rfl, rfl, rfl, rfl, rfl, trivial⟩ ?_
  refine Post.then_ ?_
  refine Cd.seq ?_
  refine Cd.condD rfl (fun hc => ?_) (fun hc => ?_)
  · obtain ⟨x, hx⟩ : ∃ x, l[k]? = some x := ⟨_, List.getElem?_eq_getElem (show k < l.length by omega)⟩
    have hxm : (l.map Fn.fl)[k]? = some x.fl := by rw [List.getElem?_map, hx]; rfl
    obtain ⟨ad, rfl, hbl, hin, hc⟩ := hr.fl ((wf.to hBw).mono hB) hxm
    refine Cd.skip ?_
    refine Post.then_ ?_
    refine Cd.seq ?_
    refine Cd.block ?_
    refine Cd.seq ?_
    refine Cd.region ?_
    refine Seq.val (Runs.indexN rfl rfl rfl Try.underlying36 (s := 6) (by kernel_rfl) (j := k) rfl (by omega)) rfl rfl rfl ?_
    refine Seq.val (Runs.loadF (ps := [.int .i64 x.num, .int .i64 x.level, .string (strOf x.first), .string (strOf x.last), .int .i64 x.count, .int .i64 x.size]) rfl rfl Try.underlying28 rfl (m := 6) (by kernel_rfl) rfl hc) rfl rfl rfl ?_
    refine Seq.alloc rfl (run_zero zero_edit_File) rfl rfl rfl ?_
    intro g7 w2 n7
    have e7 := Nat.le_trans wf.below.size n7.ge
    replace wf := wf.step n7.below
    replace wr := wr.step n7.below
    have k7 := n7.blk
    refine Seq.storeN rfl rfl rfl rfl (m := 6) (by kernel_rfl) rfl (by repeat' first | exact trivial | apply And.intro | rfl | assumption) k7 (by simp [Value.cells]) rfl rfl ?_
    intro w3 pw3
    replace wf := wf.put k7 pw3 e7
    replace wr := wr.put k7 pw3 e7
    replace k7 := pw3.blk
    refine Seq.nil ?_
    refine Post.weak (F' := [(0, _), (2, _), (7, _), (12, _), (13, _), (14, _), (15, _)]) ⟨rfl, rfl, rfl, rfl, rfl, rfl, rfl, trivial⟩ ?_
    refine Post.then_ ?_
    refine Cd.region ?_
    refine Seq.val (Runs.move rfl rfl) rfl rfl rfl ?_
    refine Seq.val (Runs.move rfl rfl) rfl rfl rfl ?_
    refine Seq.val (Runs.loadW rfl rfl Try.underlying28 rfl k7 (m := 6) (by kernel_rfl) rfl) rfl rfl rfl ?_
    refine Seq.call (Enters.value (first := []) (cap := []) rfl rfl rfl eg_enc2) rfl rfl rfl (enc2_any B g x _ _ wr (hn x (List.mem_of_getElem? hx)) (by simp only [List.length_append]; omega)) ?_
    clear wr
    rintro e w5 ⟨rfl, f5, wr⟩
    refine ⟨_, rfl, ?_⟩
    replace wf := wf.wf f5
    rw [List.append_assoc, ← flat_take Fn.bytes hx] at wr
    refine Seq.nil ?_
    refine Post.weak (F' := [(0, _), (2, _), (7, _), (12, _), (13, _), (14, _), (15, _)]) ⟨rfl, rfl, rfl, rfl, rfl, rfl, rfl, trivial⟩ ?_
    refine Post.block_normal ?_
    refine Post.then_ ?_
    refine Cd.region ?_
    refine Seq.val (Runs.addI rfl rfl rfl (by omega) (by omega)) rfl rfl rfl ?_
    refine Seq.val (Runs.move rfl rfl) rfl rfl rfl ?_
    refine Seq.nil ?_
    refine Post.weak (F' := [(0, _), (2, _), (7, _), (12, _), (13, _), (14, _), (15, _)]) ⟨rfl, rfl, rfl, rfl, rfl, rfl, rfl, trivial⟩ ?_
    exact Post.round (k + 1) ⟨rfl, rfl, rfl, rfl, rfl, trivial⟩ ⟨by omega, wf, wr⟩ (by omega)
  · obtain rfl : k = n := by omega
    rw [List.take_of_length_le (by omega), List.append_assoc] at wr
    refine Cd.exit ?_
    refine Post.then_exit ?_
    refine Post.round_exit ?_
    refine Post.block_exit ?_
    refine Post.end0 rfl (.inr rfl) ?_
    exact ⟨rfl, wf, wr⟩
end Go.Proofs.Ythnnephcohljeaa
