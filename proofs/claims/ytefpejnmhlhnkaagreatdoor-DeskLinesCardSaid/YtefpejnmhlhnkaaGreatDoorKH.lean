/-
  append to a slice of the call's own; bytes as text. No condition.
-/
import Derived.Test.YtefpejnmhlhnkaaGreatDoorKG
set_option linter.unusedSectionVars false
namespace Go.Proofs.YtefpejnmhlhnkaaGreatDoor
open Go.RowKit
variable [Inhabited (List Deferred)]

/-- A slice of the call's own. -/
structure Own (w : World) (B : Nat) (e : TypeId) (size : Nat) (v : Value) (n : Nat) (xs : List Value) : Prop where
  row : w.ownsRow B e size v n xs
section
variable {w w' : World} {B size n : Nat} {e : TypeId} {v : Value} {xs : List Value}
theorem Own.nil (w : World) (B : Nat) (e : TypeId) (size : Nat) : Own w B e size (.slice none 0 0) 0 [] := ⟨World.ownsRow_nil _ _ _ _⟩
theorem Own.step (h : Own w B e size v n xs) (hb : Below w.heap.size w w') : Own w' B e size v n xs := ⟨own_below h.row hb⟩
theorem Own.put {g B' : Nat} {T : TypeId} {cur cs : Array Value} (h : Own w B e size v n xs) (k : Blk w g T cur) (p : Put w w' g T cs) (_e : B' ≤ g) (hne : e ≠ T := by decide) : Own w' B e size v n xs := ⟨h.row.kept p.grown (own_ne_blk h.row k hne)⟩
theorem Own.reads (h : Own w B e size v n xs) : ∃ A c, v = .slice A n c ∧ Reads w w.heap.size size A n xs := reads_own h.row
theorem Reads.blk {g : Nat} {T : TypeId} {cs : Array Value} (k : Blk w g T cs) (m : Nat) (hm : cs.size = m * size) : Reads w w.heap.size size (some ⟨g, 0, none⟩) m cs.toList := by
  refine ⟨by simpa using hm, fun _ => ⟨_, rfl, k.lt, fun j u hu => ?_⟩⟩
  have hplain : (⟨g, 0, none⟩ : Addr).add j = ⟨g, j, none⟩ := by unfold Addr.add; split <;> simp_all
  rw [hplain, cell_of_row _ _ _ _ _ _ k]
  simpa using hu
/-- What append leaves. -/
structure App (w w' : World) (B : Nat) (v : Value) : Prop where
  below : Below B w w'
  grown : w.grownBy w' v.ownBlock
end
section
variable {P : Program} {ops : Array Oper} {Q : Exit → Act → World → Prop} {rest : List Oper} {o : Oper} {n d : Nat} {F : List (Nat × Value)} {w : World} {v : Value} {x y : Operand}
theorem Seq.append {t e B B2 size b k m c : Nat} {A : Option Addr} {z : Value} {xs news : List Value} (ho : o.op = .call { callee := .builtin .append, args := #[x, y], argTypes := #[t, t] }) (hx : evF F x = some v) (hy : evF F y = some (.slice A m c)) (ht : P.underlying t = some (.slice e)) (hs : sizeIs P e size = true) (hz : zeroIs P e = some (some z)) (hzs : z.cells.size = size) (hsz : 0 < size) (hby : (P.info? e).map (·.bytes) = some b)
    (hown : Own w B e size v k xs) (hr : Reads w B2 size A m news) (h1 : ∀ u ∈ news, u.oneCell' = true) (hB : B ≤ w.heap.size) (h63 : k + m ≤ maxLen) (hbytes : (k + m) * b ≤ 140737488355328) (hg : o.guard = none) (hd : o.dst = some d) (hn : Nat.blt d n = true)
    (h : ∀ v' w', Own w' B e size v' (k + m) (xs ++ news) → App w w' B v → Seq P ops Q rest n ((d, v') :: F) w') : Seq P ops Q (o :: rest) n F w := by
  obtain ⟨i, hi, hisz⟩ := sizeIs_spec hs
  have hz' : i.zero = some z := by unfold zeroIs at hz; rw [hi] at hz; injection hz
  have hb' : i.bytes = b := by rw [hi] at hby; injection hby
  obtain ⟨v', w', hrun, h2, h3, _⟩ := run_append_any (P := P) w B t o.type e i z size b ht hi hz' hisz hb' hzs hsz v k xs hown.row B2 A m c news hr h1 h63 hbytes hB
  refine Seq.val (v := v') (w' := w') (fun ρ hρ => ?_) hg hd hn (h v' w' ⟨h2⟩ ⟨?_, h3⟩)
  · unfold execOp
    simp only [ho, resolve, invoke, builtin, Sem.run_bind, Sem.run_pure, Result.andThen_ok, List.map_toArray, List.map_cons, List.map_nil, hρ _ _ hx, hρ _ _ hy, hrun]
  · refine ⟨h3.os, h3.tape, h3.output, h3.size, fun j hj => h3.block j (by omega) fun e' => ?_⟩
    rcases hown.row.2 with ⟨rfl, _⟩ | ⟨g, cap, cur, rfl, hBg, _⟩
    · cases e'
    · injection e' with e'
      have : j = g := e'
      omega
end
/-- Bytes, as cells; as text. -/
def Bt (l : List Nat) : List Value := l.map fun (d : Nat) => Value.int .u8 (d : Int)
def strOf (l : List Nat) : ByteArray := ⟨(l.map UInt8.ofNat).toArray⟩
theorem length_Bt (l : List Nat) : (Bt l).length = l.length := by simp [Bt]
theorem get_Bt (l : List Nat) (k : Nat) : (Bt l)[k]? = l[k]?.map fun (d : Nat) => Value.int .u8 (d : Int) := by simp [Bt]
theorem Bt_append (a b : List Nat) : Bt (a ++ b) = Bt a ++ Bt b := by simp [Bt]
section
variable {P : Program} {E : Operand → Option Value} {o : Oper} {w : World} {x : Operand}
theorem Runs.convBS {T T' e B n c : Nat} {A : Option Addr} {l : List Nat} (ho : o.op = .convert T T' x) (hx : E x = some (.slice A n c)) (hT : P.underlying T = some (.slice e)) (he : P.underlying e = some (.int .u8)) (hd : P.underlying T' = some .string) (hr : Reads w B 1 A n (Bt l)) (hl : ∀ d ∈ l, d < 256) :
    Runs P E o w (.string (strOf l)) w := fun ρ h => by
  have hlen : l.length = n := by have := hr.1; rw [length_Bt] at this; omega
  unfold execOp
  simp only [ho]; rw [h _ _ hx]
  suffices hh : (convert T T' (.slice A n c)).run P w = .ok (.string (strOf l)) w by simp only [Sem.run_bind, hh, Result.andThen_ok]; rfl
  rcases Nat.eq_zero_or_pos n with h0 | h0
  · subst h0
    obtain rfl : l = [] := List.eq_nil_of_length_eq_zero hlen
    rcases A with _ | ad
    · rw [run_convert_bytes_nil w T e hT he 0 c T' hd]; rfl
    · exact run_convert_bytes_back w T T' e ad c [] hT he hd (fun j hj => absurd hj (by simp))
  · obtain ⟨ad, rfl, _, hc⟩ := hr.2 h0
    have := run_convert_bytes_back w T T' e ad c (l.map UInt8.ofNat) hT he hd (fun j hj => by
      rw [List.length_map] at hj
      have h1 := hc j (.int .u8 ((l[j] : Nat) : Int)) (by rw [get_Bt, List.getElem?_eq_getElem hj]; rfl)
      rw [h1]
      have h2 := hl l[j] (List.getElem_mem hj)
      rw [List.getElem_map, UInt8.toNat_ofNat', Nat.mod_eq_of_lt h2])
    rw [List.length_map, hlen] at this
    exact this
end
end Go.Proofs.YtefpejnmhlhnkaaGreatDoor
