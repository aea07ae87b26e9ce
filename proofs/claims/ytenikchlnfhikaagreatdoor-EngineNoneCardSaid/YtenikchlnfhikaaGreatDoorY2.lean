/-
  Texts that were joined: IM0. Conditions: what each theorem names.
-/
import Derived.Orders
import Derived.Below
import Derived.Laws.Sem
import Derived.ArgAppend
import Derived.Laws.IdiomCopy
import Derived.Laws.OwnMore
import Derived.Laws.Strings
import Derived.Laws.Tables
import Derived.Laws.MakeOwn
import Derived.Great.BuildSlice
set_option linter.unusedSectionVars false
set_option linter.unusedVariables false
set_option linter.unusedSimpArgs false
set_option linter.unusedVariables false
namespace Go.RI
open Go
noncomputable section

def cd {β : Type} (c : Bool) (a b : β) : β := @Bool.rec (fun _ => β) b a c
def an (a b : Bool) : Bool := @Bool.rec (fun _ => Bool) false b a
def nt (a : Bool) : Bool := @Bool.rec (fun _ => Bool) true false a
def on {α β : Type} (o : Option α) (b : β) (k : α → β) : β := @Option.rec α (fun _ => β) b k o
def ol {α β : Type} (l : List α) (b : β) (k : α → List α → β) : β := @List.rec α (fun _ => β) b (fun x r _ => k x r) l

inductive Tr (α : Type) where
  | lf
  | nd (l : Tr α) (v : Option α) (r : Tr α)
def Tr.get {α : Type} (t : Tr α) : Nat → Option α := @Tr.rec α (fun _ => Nat → Option α) (fun _ => none)
  (fun _ v _ gl gr n => cd (Nat.beq n 0) v (cd (Nat.beq (Nat.mod n 2) 1) (gl (Nat.div n 2)) (gr (Nat.pred (Nat.div n 2))))) t
def Tr.one {α β : Type} (f : Nat) : Nat → α → (Tr α → β) → β := @Nat.rec (fun _ => Nat → α → (Tr α → β) → β) (fun _ _ k => k .lf)
  (fun _ ih n v k => cd (Nat.beq n 0) (k (.nd .lf (some v) .lf)) (cd (Nat.beq (Nat.mod n 2) 1) (ih (Nat.div n 2) v (fun t => k (.nd t none .lf))) (ih (Nat.pred (Nat.div n 2)) v (fun t => k (.nd .lf none t))))) f
def Tr.set {α β : Type} (t : Tr α) : Nat → α → (Tr α → β) → β := @Tr.rec α (fun _ => Nat → α → (Tr α → β) → β) (fun n v k => Tr.one (Nat.succ n) n v k)
  (fun l x r sl sr n v k => cd (Nat.beq n 0) (k (.nd l (some v) r)) (cd (Nat.beq (Nat.mod n 2) 1) (sl (Nat.div n 2) v (fun t => k (.nd t x r))) (sr (Nat.pred (Nat.div n 2)) v (fun t => k (.nd l x t))))) t

/-- A number, reckoned before it is handed on. -/
def sN {β : Type} (n : Nat) (k : Nat → β) : β := @Nat.rec (fun _ => β) (k 0) (fun p _ => k (Nat.succ p)) n
def sI {β : Type} (i : Int) (k : Int → β) : β := @Int.rec (fun _ => β) (fun n => sN n fun n => k (.ofNat n)) (fun n => sN n fun n => k (.negSucc n)) i
def sB {β : Type} (b : Bool) (k : Bool → β) : β := @Bool.rec (fun _ => β) (k false) (k true) b

inductive Pl where
  | own (b g o : Nat)
  | var (b o : Nat)
inductive V where
  | bool (b : Bool)
  | int (k : IntKind) (n : Int)
  | str (l : List Nat)
  | ptr (a : Option Pl)
  | sl (a : Option Pl) (n : Nat) (c : Nat)
  | sg (a : Pl) (n w : Nat)
  | mp (r : Option Nat)
  | ch (r : Option Nat)
  | fn (f : Fn) (first captured : List V)
  | nilF
  | ifc (t : TypeId) (v : V)
  | nilI
  | agg (l : List V)
  | tup (l : List V)
  | un (n : Nat)
structure Me where
  k : V
  v : V
  b : Nat
inductive Ob where
  | row (t : TypeId) (n g : Nat) (z : Nat) (c : Tr V)
  | map (l : List Me) (c : Nat)
  | it (m : Option Nat) (since : Nat) (seen : List Nat) (last : Nat)
  | si (l : List Nat) (p : Nat)
  | chan (cap : Nat) (l : List V) (shut : Bool) (a b : Nat)
structure St where
  h : Tr Ob
  nx : Nat
structure Df where
  f : FuncId
  l : List V
structure Fm where
  t : Tr V
  d : List Df
inductive Rv where
  | no
  | ok (v : V) (s : St)
structure Tb where
  ty : Nat → Option TypeInfo
  fn : Nat → Option Func
  gl : Nat → Nat → Option V
  hd : Nat → Bool

/-- One kind of value, or nothing. -/
def onInt {β : Type} (v : V) : β → (IntKind → Int → β) → β := @V.rec (fun _ => β → (IntKind → Int → β) → β) (fun _ => Unit)
  (fun _ n _ => n) (fun k i _ f => f k i) (fun _ n _ => n) (fun _ n _ => n) (fun _ _ _ n _ => n) (fun _ _ _ n _ => n) (fun _ n _ => n) (fun _ n _ => n) (fun _ _ _ _ _ n _ => n) (fun n _ => n) (fun _ _ _ n _ => n) (fun n _ => n) (fun _ _ n _ => n) (fun _ _ n _ => n) (fun _ n _ => n) () (fun _ _ _ _ => ()) v
def onBool {β : Type} (v : V) : β → (Bool → β) → β := @V.rec (fun _ => β → (Bool → β) → β) (fun _ => Unit)
  (fun b _ f => f b) (fun _ _ n _ => n) (fun _ n _ => n) (fun _ n _ => n) (fun _ _ _ n _ => n) (fun _ _ _ n _ => n) (fun _ n _ => n) (fun _ n _ => n) (fun _ _ _ _ _ n _ => n) (fun n _ => n) (fun _ _ _ n _ => n) (fun n _ => n) (fun _ _ n _ => n) (fun _ _ n _ => n) (fun _ n _ => n) () (fun _ _ _ _ => ()) v
def onStr {β : Type} (v : V) : β → (List Nat → β) → β := @V.rec (fun _ => β → (List Nat → β) → β) (fun _ => Unit)
  (fun _ n _ => n) (fun _ _ n _ => n) (fun l _ f => f l) (fun _ n _ => n) (fun _ _ _ n _ => n) (fun _ _ _ n _ => n) (fun _ n _ => n) (fun _ n _ => n) (fun _ _ _ _ _ n _ => n) (fun n _ => n) (fun _ _ _ n _ => n) (fun n _ => n) (fun _ _ n _ => n) (fun _ _ n _ => n) (fun _ n _ => n) () (fun _ _ _ _ => ()) v
def onPtr {β : Type} (v : V) : β → (Pl → β) → β := @V.rec (fun _ => β → (Pl → β) → β) (fun _ => Unit)
  (fun _ n _ => n) (fun _ _ n _ => n) (fun _ n _ => n) (fun a n f => on a n f) (fun _ _ _ n _ => n) (fun _ _ _ n _ => n) (fun _ n _ => n) (fun _ n _ => n) (fun _ _ _ _ _ n _ => n) (fun n _ => n) (fun _ _ _ n _ => n) (fun n _ => n) (fun _ _ n _ => n) (fun _ _ n _ => n) (fun _ n _ => n) () (fun _ _ _ _ => ()) v
/-- A slice of some cells: where, how many. -/
def onSl {β : Type} (v : V) : β → (Pl → Nat → β) → β := @V.rec (fun _ => β → (Pl → Nat → β) → β) (fun _ => Unit)
  (fun _ n _ => n) (fun _ _ n _ => n) (fun _ n _ => n) (fun _ n _ => n) (fun a m _ n f => on a n (fun p => f p m)) (fun p m _ n f => f p m) (fun _ n _ => n) (fun _ n _ => n) (fun _ _ _ _ _ n _ => n) (fun n _ => n) (fun _ _ _ n _ => n) (fun n _ => n) (fun _ _ n _ => n) (fun _ _ n _ => n) (fun _ n _ => n) () (fun _ _ _ _ => ()) v
def onAgg {β : Type} (v : V) : β → (List V → β) → β := @V.rec (fun _ => β → (List V → β) → β) (fun _ => Unit)
  (fun _ n _ => n) (fun _ _ n _ => n) (fun _ n _ => n) (fun _ n _ => n) (fun _ _ _ n _ => n) (fun _ _ _ n _ => n) (fun _ n _ => n) (fun _ n _ => n) (fun _ _ _ _ _ n _ => n) (fun n _ => n) (fun _ _ _ n _ => n) (fun n _ => n) (fun l _ n f => f l) (fun _ _ n _ => n) (fun _ n _ => n) () (fun _ _ _ _ => ()) v
def onTup {β : Type} (v : V) : β → (List V → β) → β := @V.rec (fun _ => β → (List V → β) → β) (fun _ => Unit)
  (fun _ n _ => n) (fun _ _ n _ => n) (fun _ n _ => n) (fun _ n _ => n) (fun _ _ _ n _ => n) (fun _ _ _ n _ => n) (fun _ n _ => n) (fun _ n _ => n) (fun _ _ _ _ _ n _ => n) (fun n _ => n) (fun _ _ _ n _ => n) (fun n _ => n) (fun _ _ n _ => n) (fun l _ n f => f l) (fun _ n _ => n) () (fun _ _ _ _ => ()) v
def onFn {β : Type} (v : V) : β → (Fn → List V → List V → β) → β := @V.rec (fun _ => β → (Fn → List V → List V → β) → β) (fun _ => Unit)
  (fun _ n _ => n) (fun _ _ n _ => n) (fun _ n _ => n) (fun _ n _ => n) (fun _ _ _ n _ => n) (fun _ _ _ n _ => n) (fun _ n _ => n) (fun _ n _ => n) (fun g a b _ _ n f => f g a b) (fun n _ => n) (fun _ _ _ n _ => n) (fun n _ => n) (fun _ _ n _ => n) (fun _ _ n _ => n) (fun _ n _ => n) () (fun _ _ _ _ => ()) v
def onIfc {β : Type} (v : V) : β → (TypeId → V → β) → β := @V.rec (fun _ => β → (TypeId → V → β) → β) (fun _ => Unit)
  (fun _ n _ => n) (fun _ _ n _ => n) (fun _ n _ => n) (fun _ n _ => n) (fun _ _ _ n _ => n) (fun _ _ _ n _ => n) (fun _ n _ => n) (fun _ n _ => n) (fun _ _ _ _ _ n _ => n) (fun n _ => n) (fun t v _ n f => f t v) (fun n _ => n) (fun _ _ n _ => n) (fun _ _ n _ => n) (fun _ n _ => n) () (fun _ _ _ _ => ()) v
def onMp {β : Type} (v : V) : β → (Option Nat → β) → β := @V.rec (fun _ => β → (Option Nat → β) → β) (fun _ => Unit)
  (fun _ n _ => n) (fun _ _ n _ => n) (fun _ n _ => n) (fun _ n _ => n) (fun _ _ _ n _ => n) (fun _ _ _ n _ => n) (fun r n f => f r) (fun _ n _ => n) (fun _ _ _ _ _ n _ => n) (fun n _ => n) (fun _ _ _ n _ => n) (fun n _ => n) (fun _ _ n _ => n) (fun _ _ n _ => n) (fun _ n _ => n) () (fun _ _ _ _ => ()) v
/-- The cells of a value. -/
def V.cs (v : V) : List V := onAgg v [v] fun l => l
def onRow {β : Type} (o : Ob) : β → (TypeId → Nat → Nat → Nat → Tr V → β) → β := @Ob.rec (fun _ => β → (TypeId → Nat → Nat → Nat → Tr V → β) → β)
  (fun t n g z c _ f => f t n g z c) (fun _ _ n _ => n) (fun _ _ _ _ n _ => n) (fun _ _ n _ => n) (fun _ _ _ _ _ n _ => n) o
def onMap {β : Type} (o : Ob) : β → (List Me → Nat → β) → β := @Ob.rec (fun _ => β → (List Me → Nat → β) → β)
  (fun _ _ _ _ _ n _ => n) (fun l c _ f => f l c) (fun _ _ _ _ n _ => n) (fun _ _ n _ => n) (fun _ _ _ _ _ n _ => n) o
def onOwn {β : Type} (p : Pl) : β → (Nat → Nat → Nat → β) → β := @Pl.rec (fun _ => β → (Nat → Nat → Nat → β) → β) (fun b g o _ f => f b g o) (fun _ _ n _ => n) p
def onNat {β : Type} (v : V) (b : β) (k : Nat → β) : β := onInt v b fun _ i => @Int.rec (fun _ => β) k (fun _ => b) i
/-- A type's shape. -/
def onStruct {β : Type} (d : TypeDesc) (b : β) (k : Array Field → β) : β := match d with | .struct fs => k fs | _ => b
def onSlice {β : Type} (d : TypeDesc) (b : β) (k : TypeId → β) : β := match d with | .slice e => k e | _ => b

def toVs (f : Value → Option V) : List Value → Option (List V)
  | [] => some []
  | x :: r => match f x with
    | none => none
    | some v => match toVs f r with
      | none => none
      | some l => some (v :: l)
def toV : Nat → Value → Option V
  | 0, _ => none
  | f + 1, v => match v with
    | .bool b => some (.bool b)
    | .int k n => some (.int k n)
    | .string s => some (.str (s.data.toList.map UInt8.toNat))
    | .pointer none => some (.ptr none)
    | .slice none 0 0 => some (.sl none 0 0)
    | .map none => some (.mp none)
    | .chan none => some (.ch none)
    | .nilFunc => some .nilF
    | .nilIface => some .nilI
    | .func fn a b => match toVs (toV f) a.toList, toVs (toV f) b.toList with
      | some a, some b => some (.fn fn a b)
      | _, _ => none
    | .iface t v => match toV f v with
      | some v => some (.ifc t v)
      | none => none
    | .agg c => match toVs (toV f) c.toList with
      | some l => some (.agg l)
      | none => none
    | .tuple c => match toVs (toV f) c.toList with
      | some l => some (.tup l)
      | none => none
    | _ => none
def ev (m : Fm) (x : Operand) : Option V := @Operand.rec (fun _ => Fm → Option V) (fun t m => m.t.get t) (fun v _ => toV 4 v) (fun g _ => some (.ptr (some (.var g 0)))) (fun f _ => some (.fn (.func f) [] [])) x m

section
variable (T : Tb)
def und (t : TypeId) : Option TypeDesc := match T.ty t with
  | none => none
  | some i => match i.desc with
    | .named _ u => (match T.ty u with
      | none => none
      | some j => some j.desc)
    | d => some d
def siz (t : TypeId) : Option Nat := on (T.ty t) none fun i => some i.size
def zer (t : TypeId) : Option V := on (T.ty t) none fun i => on i.zero none fun z => toV 4 z
def isAg (t : TypeId) : Option Bool := match und T t with
  | none => none
  | some (.struct _) => some true
  | some (.array _ _) => some true
  | some _ => some false
/-- How many cells, one by one or as a whole: none: it is no such type. -/
def ldK (t : TypeId) : Option (Option Nat) := match isAg T t, siz T t with
  | some true, some n => some (some n)
  | some false, some n => some none
  | _, _ => none
def fldK (t : TypeId) (f : Nat) : Option (Nat × Option Nat) := match und T t with
  | some (.struct fs) => (match fs.toList[f]? with
    | some f => (match ldK T f.type with
      | some k => some (f.offset, k)
      | none => none)
    | none => none)
  | _ => none
/-- The place of a field that has cells. -/
def fldO (t : TypeId) (f : Nat) : Option Nat := match und T t with
  | some (.struct fs) => (match fs.toList[f]? with
    | some f => (match siz T f.type with
      | some (_ + 1) => some f.offset
      | _ => none)
    | none => none)
  | _ => none
/-- How wide a slice's elements are. -/
def slK (t : TypeId) : Option Nat := match und T t with
  | some (.slice e) => siz T e
  | _ => none
def arK (t : TypeId) : Option (Nat × Nat × TypeId) := match und T t with
  | some (.array n e) => (match siz T e with
    | some w => some (n, w, e)
    | none => none)
  | _ => none
def isStr (t : TypeId) : Bool := match und T t with
  | some .string => true
  | _ => false
def ifcK (t : TypeId) : Bool := match und T t with
  | none => false
  | some (.interface _) => false
  | some _ => true
def isNo {α : Type} (o : Option α) : Bool := on o true fun _ => false
def len {α : Type} (l : List α) : Nat := @List.rec α (fun _ => Nat) 0 (fun _ _ n => Nat.succ n) l

def rdN (c : Tr V) (n : Nat) : Nat → Option (List V) := @Nat.rec (fun _ => Nat → Option (List V)) (fun _ => some [])
  (fun _ ih o => on (c.get o) none fun v => on (ih (Nat.succ o)) none fun r => some (v :: r)) n
def rdG (b : Nat) (n : Nat) : Nat → Option (List V) := @Nat.rec (fun _ => Nat → Option (List V)) (fun _ => some [])
  (fun _ ih o => on (T.gl b o) none fun v => on (ih (Nat.succ o)) none fun r => some (v :: r)) n
/-- A row that is reached by a place. -/
def row {β : Type} (s : St) (b g o n : Nat) (bad : β) (k : Tr V → β) : β := on (s.h.get b) bad fun ob => onRow ob bad fun _ z g' _ c => cd (an (Nat.beq g g') (Nat.ble (Nat.add o n) z)) (k c) bad
def rd (s : St) (p : Pl) (n : Nat) : Option (List V) := @Pl.rec (fun _ => Tb → St → Nat → Option (List V)) (fun b g o _ s n => row s b g o n none fun c => rdN c n o) (fun b o T _ n => rdG T b n o) p T s n
def rd1 (s : St) (p : Pl) : Option V := @Pl.rec (fun _ => Tb → St → Option V) (fun b g o _ s => row s b g o 1 none fun c => c.get o) (fun b o T _ => T.gl b o) p T s
def ldv (s : St) (t : TypeId) (p : Pl) : Option V := on (ldK T t) none fun k => on k (rd1 T s p) fun n => on (rd T s p n) none fun l => some (.agg l)
def wrL {β : Type} (l : List V) : Nat → Tr V → (Tr V → β) → β := @List.rec V (fun _ => Nat → Tr V → (Tr V → β) → β) (fun _ c k => k c)
  (fun v _ ih o c k => c.set o v fun c => sN (Nat.succ o) fun o => ih o c k) l
/-- What one cell can hold. -/
def one1 (v : V) : Bool := @V.rec (fun _ => Bool) (fun _ => Unit) (fun _ => true) (fun _ _ => true) (fun _ => true) (fun _ => true) (fun _ _ _ => true) (fun _ _ _ => true) (fun _ => true) (fun _ => true) (fun _ _ _ _ _ => true) true (fun _ _ _ => true) true (fun _ _ => false) (fun _ _ => false) (fun _ => true) () (fun _ _ _ _ => ()) v
def all1 (l : List V) : Bool := @List.rec V (fun _ => Bool) true (fun v _ ih => an (one1 v) ih) l
def wr (s : St) (p : Pl) (l : List V) : Rv := onOwn p .no fun b g o => on (s.h.get b) .no fun ob => onRow ob .no fun t z g' fz c =>
  cd (an (an (Nat.beq g g') (Nat.ble (Nat.add o (len l)) z)) (an (Nat.blt fz 2) (all1 l))) (wrL l o c fun c => s.h.set b (.row t z g' fz c) fun h => .ok (.tup []) ⟨h, s.nx⟩) .no
/-- A new row. -/
def mk (s : St) (t : TypeId) (l : List V) (fz : Nat) (k : Nat → St → Rv) : Rv :=
  wrL l 0 .lf fun c => sN (len l) fun n => s.h.set s.nx (.row t n 0 fz c) fun h => sN (Nat.succ s.nx) fun x => k s.nx ⟨h, x⟩
/-- A new thing. -/
def mkO (s : St) (o : Ob) (k : Nat → St → Rv) : Rv :=
  s.h.set s.nx o fun h => sN (Nat.succ s.nx) fun x => k s.nx ⟨h, x⟩
def mkP (s : St) (t : TypeId) (l : List V) : Rv := mk s t l 0 fun b s => .ok (.ptr (some (.own b 0 0))) s

def kn (k : IntKind) : Nat := @IntKind.rec (fun _ => Nat) 0 1 2 3 4 5 6 7 k
def iLt (a b : Int) : Bool := @Int.rec (fun _ => Int → Bool) (fun a b => @Int.rec (fun _ => Bool) (fun b => Nat.blt a b) (fun _ => false) b) (fun a b => @Int.rec (fun _ => Bool) (fun _ => true) (fun b => Nat.blt b a) b) a b
def iEq (a b : Int) : Bool := @Int.rec (fun _ => Int → Bool) (fun a b => @Int.rec (fun _ => Bool) (fun b => Nat.beq a b) (fun _ => false) b) (fun a b => @Int.rec (fun _ => Bool) (fun _ => false) (fun b => Nat.beq a b) b) a b
/-- Behind the greatest number of a kind. -/
def top (k : IntKind) : Nat := @IntKind.rec (fun _ => Nat) 128 32768 2147483648 9223372036854775808 256 65536 4294967296 18446744073709551616 k
def wrp (k : IntKind) (n : Int) : Int := @Int.rec (fun _ => IntKind → Int) (fun a k => cd (Nat.blt a (top k)) (.ofNat a) (k.wrap (.ofNat a))) (fun a k => k.wrap (.negSucc a)) n k
def intR (k : IntKind) (n : Int) (s : St) : Rv := sI n fun n => .ok (.int k n) s
def boolR (b : Bool) (s : St) : Rv := sB b fun b => .ok (.bool b) s
def iAdd (a b : Int) : Int := @Int.rec (fun _ => Int → Int) (fun a b => @Int.rec (fun _ => Int) (fun b => .ofNat (Nat.add a b)) (fun b => Int.add (.ofNat a) (.negSucc b)) b) (fun a b => Int.add (.negSucc a) b) a b
def iSub (a b : Int) : Int := @Int.rec (fun _ => Int → Int) (fun a b => @Int.rec (fun _ => Int) (fun b => cd (Nat.ble b a) (.ofNat (Nat.sub a b)) (Int.sub (.ofNat a) (.ofNat b))) (fun b => Int.sub (.ofNat a) (.negSucc b)) b) (fun a b => Int.sub (.negSucc a) b) a b
def bitR (op : Nat → Nat → Nat) (k : IntKind) (a b : Int) (s : St) : Rv := @Int.rec (fun _ => Rv) (fun x => @Int.rec (fun _ => Rv) (fun y => cd (an (Nat.blt x (top k)) (Nat.blt y (top k))) (sN (op x y) fun n => .ok (.int k (.ofNat n)) s) .no) (fun _ => bitW op k a b s) b) (fun _ => bitW op k a b s) a
where bitW (op : Nat → Nat → Nat) (k : IntKind) (a b : Int) (s : St) : Rv := intR k (k.wrap (Int.ofNat (op (BitVec.ofInt k.bits a).toNat (BitVec.ofInt k.bits b).toNat))) s
def iop (op : BinOp) : IntKind → Int → Int → St → Rv := @BinOp.rec (fun _ => IntKind → Int → Int → St → Rv)
  (fun k a b s => intR k (wrp k (iAdd a b)) s) (fun k a b s => intR k (wrp k (iSub a b)) s) (fun k a b s => intR k (wrp k (Int.mul a b)) s)
  (fun k a b s => cd (iEq b 0) .no (intR k (wrp k (Int.tdiv a b)) s)) (fun k a b s => cd (iEq b 0) .no (intR k (Int.tmod a b) s))
  (bitR Nat.land) (bitR Nat.lor) (bitR Nat.xor) (fun _ _ _ _ => .no) (fun _ _ _ _ => .no) (fun _ _ _ _ => .no)
  (fun _ a b s => boolR (iEq a b) s) (fun _ a b s => boolR (nt (iEq a b)) s) (fun _ a b s => boolR (iLt a b) s) (fun _ a b s => boolR (nt (iLt b a)) s) (fun _ a b s => boolR (iLt b a) s) (fun _ a b s => boolR (nt (iLt a b)) s) op
def bitsN (k : IntKind) : Nat := @IntKind.rec (fun _ => Nat) 8 16 32 64 8 16 32 64 k
def shl (k : IntKind) (a b : Int) (s : St) : Rv := @Int.rec (fun _ => Rv) (fun n => cd (Nat.ble n (bitsN k)) (intR k (wrp k (Int.mul a (.ofNat (Nat.pow 2 n)))) s) .no) (fun _ => .no) b
def shr (k : IntKind) (a b : Int) (s : St) : Rv := @Int.rec (fun _ => Rv) (fun n => cd (Nat.ble n (bitsN k)) (@Int.rec (fun _ => Rv) (fun a => sN (Nat.div a (Nat.pow 2 n)) fun n => .ok (.int k (.ofNat n)) s) (fun a => sN (Nat.div a (Nat.pow 2 n)) fun n => .ok (.int k (.negSucc n)) s) a) .no) (fun _ => .no) b
def lEq (a : List Nat) : List Nat → Bool := @List.rec Nat (fun _ => List Nat → Bool) (fun b => ol b true fun _ _ => false) (fun x _ ih b => ol b false fun y r => cd (Nat.beq x y) (ih r) false) a
def lLt (a : List Nat) : List Nat → Bool := @List.rec Nat (fun _ => List Nat → Bool) (fun b => ol b false fun _ _ => true) (fun x _ ih b => ol b false fun y r => cd (Nat.beq x y) (ih r) (Nat.blt x y)) a
def app {β : Type} (a : List Nat) : List Nat → (List Nat → β) → β := @List.rec Nat (fun _ => List Nat → (List Nat → β) → β) (fun y k => k y) (fun x _ ih y k => ih y fun r => k (x :: r)) a
def sop (op : BinOp) : List Nat → List Nat → St → Rv := @BinOp.rec (fun _ => List Nat → List Nat → St → Rv)
  (fun a b s => cd (Nat.blt (Nat.add (len a) (len b)) 9223372036854775808) (app a b fun l => .ok (.str l) s) .no) (fun _ _ _ => .no) (fun _ _ _ => .no) (fun _ _ _ => .no) (fun _ _ _ => .no) (fun _ _ _ => .no) (fun _ _ _ => .no) (fun _ _ _ => .no) (fun _ _ _ => .no) (fun _ _ _ => .no) (fun _ _ _ => .no)
  (fun a b s => boolR (lEq a b) s) (fun a b s => boolR (nt (lEq a b)) s) (fun a b s => boolR (lLt a b) s) (fun a b s => boolR (nt (lLt b a)) s) (fun a b s => boolR (lLt b a) s) (fun a b s => boolR (nt (lLt a b)) s) op
def ppl : Pl → Pl → Option Bool
  | .own b g o, .own b' g' o' => cd (an (Nat.beq b b') (Nat.beq g g')) (some (Nat.beq o o')) none
  | _, _ => none
def nth {α : Type} (l : List α) : Nat → Option α := @List.rec α (fun _ => Nat → Option α) (fun _ => none) (fun x _ ih n => cd (Nat.beq n 0) (some x) (ih (Nat.pred n))) l
def drp {α : Type} (n : Nat) : List α → List α := @Nat.rec (fun _ => List α → List α) (fun l => l) (fun _ ih l => ol l [] fun _ r => ih r) n
def tk {α β : Type} (n : Nat) : List α → (List α → β) → β := @Nat.rec (fun _ => List α → (List α → β) → β) (fun _ k => k []) (fun _ ih l k => ol l (k []) fun x r => ih r fun r => k (x :: r)) n
/-- Equal cells of plain kinds. -/
def eqC : V → V → Option Bool
  | .bool a, .bool b => some (match a with | true => b | false => nt b)
  | .int k a, .int k' b => cd (Nat.beq (kn k) (kn k')) (some (iEq a b)) none
  | .str a, .str b => some (lEq a b)
  | _, _ => none
/-- A part of a struct or an array. -/
def prt (t : TypeId) (l : List V) (o : Nat) : Option V := on (ldK T t) none fun k => on k (nth l o) fun n => some (.agg (tk n (drp o l) id))
/-- Of what is compared cell by cell: the types alone. -/
def flat : Nat → TypeId → Bool
  | 0, _ => false
  | f + 1, t => match und T t with
    | some .bool => true
    | some (.int _) => true
    | some .string => true
    | some (.struct fs) => an (nt (T.hd t)) (fs.toList.all fun x => an (x.name != "_") (flat f x.type))
    | some (.array _ e) => flat f e
    | _ => false
def eqFs (eq : TypeId → V → V → Option Bool) (x y : List V) : List Field → Option Bool
  | [] => some true
  | f :: r => cd (f.name == "_") none (on (prt T f.type x f.offset) none fun a => on (prt T f.type y f.offset) none fun b => on (eq f.type a b) none fun c => cd c (eqFs eq x y r) (some false))
def eqAs (eq : TypeId → V → V → Option Bool) (x y : List V) (e : TypeId) (w : Nat) : Nat → Nat → Option Bool
  | 0, _ => some true
  | n + 1, i => on (prt T e x (Nat.mul i w)) none fun a => on (prt T e y (Nat.mul i w)) none fun b => on (eq e a b) none fun c => cd c (eqAs eq x y e w n (Nat.succ i)) (some false)
/-- Values of such types. -/
def eqT : Nat → TypeId → V → V → Option Bool
  | 0, _, _, _ => none
  | f + 1, t, a, b => match und T t with
    | some .bool => onBool a none fun _ => eqC a b
    | some (.int _) => onInt a none fun _ _ => eqC a b
    | some .string => onStr a none fun _ => eqC a b
    | some (.struct fs) => cd (T.hd t) none (onAgg a none fun x => onAgg b none fun y => eqFs T (eqT f) x y fs.toList)
    | some (.array n e) => on (siz T e) none fun w => onAgg a none fun x => onAgg b none fun y => eqAs T (eqT f) x y e w n 0
    | _ => none
def eqPtr (e : TypeId) (a b : Option Pl) : Option Bool := on a (some (isNo b)) fun p => on b (some false) fun q => on (siz T e) none fun n => cd (Nat.beq n 0) none (ppl p q)
def eqV (t : TypeId) (a b : V) (c : Bool) : Option Bool := on (und T t) none fun d => match d with
  | .bool => eqT T 1 t a b
  | .pointer e => (match a, b with
    | .ptr p, .ptr q => eqPtr T e p q
    | _, _ => none)
  | .interface _ => (match a, b with
    | .nilI, .nilI => cd c (some true) none
    | .nilI, .ifc _ _ => some false
    | .ifc _ _, .nilI => some false
    | .ifc t a, .ifc u b => cd (Nat.beq t u) (on (T.ty t) none fun i => cd i.comparable (eqT T 1 t a b) none) (some false)
    | _, _ => none)
  | .slice _ => (match a, b with
    | .sl p _ _, .sl none _ _ => some (isNo p)
    | .sg _ _ _, .sl none _ _ => some false
    | _, _ => none)
  | .map _ _ => (match a, b with
    | .mp p, .mp none => some (isNo p)
    | _, _ => none)
  | .func _ _ _ => (match a, b with
    | .nilF, .nilF => some true
    | .fn _ _ _, .nilF => some false
    | _, _ => none)
  | .struct _ => cd (flat T 4 t) (eqT T 4 t a b) none
  | .array _ _ => cd (flat T 4 t) (eqT T 4 t a b) none
  | _ => none
def isC (x : Operand) : Bool := @Operand.rec (fun _ => Bool) (fun _ => false) (fun _ => true) (fun _ => false) (fun _ => false) x
def bopO (op : BinOp) (t : TypeId) (x y : Operand) (a b : V) (s : St) : Rv := match op with
    | .eql => on (eqV T t a b (or (isC x) (isC y))) .no fun b => boolR b s
    | .neq => on (eqV T t a b (or (isC x) (isC y))) .no fun b => boolR (nt b) s
    | _ => .no
def isSh (op : BinOp) : Nat := @BinOp.rec (fun _ => Nat) 0 0 0 0 0 0 0 0 1 2 0 0 0 0 0 0 0 op
def bopI (op : BinOp) (k : IntKind) (a : Int) (k' : IntKind) (b : Int) (s : St) : Rv :=
  cd (Nat.beq (isSh op) 0) (cd (Nat.beq (kn k) (kn k')) (iop op k a b s) .no) (cd (Nat.beq (isSh op) 1) (shl k a b s) (shr k a b s))
def bop (op : BinOp) (t : TypeId) (x y : Operand) (a b : V) (s : St) : Rv := onInt a (onStr a (bopO T op t x y a b s) fun x => onStr b .no fun y => sop op x y s) fun k i => onInt b .no fun k' j => bopI op k i k' j s
def pAdd {β : Type} (p : Pl) (n : Nat) (k : Pl → β) : β := @Pl.rec (fun _ => Nat → (Pl → β) → β) (fun b g o n k => sN (Nat.add o n) fun o => k (.own b g o)) (fun b o n k => sN (Nat.add o n) fun o => k (.var b o)) p n k
def partK (k : Option Nat) (l : List V) (o : Nat) (s : St) : Rv := on k (on (nth l o) .no fun v => .ok v s) fun n => tk n (drp o l) fun r => .ok (.agg r) s
def putL {β : Type} : List V → Nat → List V → (List V → β) → β
  | [], _, _, k => k []
  | x :: r, 0, [], k => k (x :: r)
  | _ :: r, 0, y :: l, k => putL r 0 l fun r => k (y :: r)
  | x :: r, n + 1, l, k => putL r n l fun r => k (x :: r)
def fillS (fs : List Field) (ps : List (Nat × Operand)) (m : Fm) (cs : List V) (s : St) : Rv := match ps with
  | [] => .ok (.agg cs) s
  | (i, x) :: r => on (nth fs i) .no fun f => on (ev m x) .no fun v => on (siz T f.type) .no fun n => cd (an (Nat.beq n (len v.cs)) (Nat.ble (Nat.add f.offset n) (len cs))) (putL cs f.offset v.cs fun cs => fillS fs r m cs s) .no
def fillA (n : Nat) (ps : List (Nat × Operand)) (m : Fm) (cs : List V) (k : List V → Rv) : Rv := match ps with
  | [] => k cs
  | (i, x) :: r => on (ev m x) .no fun v => cd (an (Nat.beq n (len v.cs)) (Nat.ble (Nat.add (Nat.mul i n) n) (len cs))) (putL cs (Nat.mul i n) v.cs fun cs => fillA n r m cs k) .no
def rep {β : Type} (z : List V) : Nat → (List V → β) → β
  | 0, k => k []
  | n + 1, k => rep z n fun r => k (z ++ r)
def stOk (fs : List Field) : Bool := fs.all fun f => nt (isNo (siz T f.type))
def bldS (t : TypeId) (ps : List (Nat × Operand)) (m : Fm) (s : St) : Rv := match und T t, zer T t with
  | some (.struct fs), some z => cd (stOk T fs.toList) (fillS T fs.toList ps m z.cs s) .no
  | some (.array _ e), some z => (match siz T e with
    | some n => fillA n ps m z.cs fun cs => .ok (.agg cs) s
    | none => .no)
  | _, _ => .no
def bldL (t : TypeId) (n : Nat) (ps : List (Nat × Operand)) (m : Fm) (s : St) : Rv := match und T t with
  | some (.slice e) => on (siz T e) .no fun w => on (zer T e) .no fun z => cd (an (an (Nat.ble (Nat.mul n w) 100000) (Nat.beq (len z.cs) w)) (Nat.blt 0 w)) (cd (Nat.beq n 0)
      (ol ps (mk s e [] 0 fun b s => .ok (.sl (some (.own b 0 0)) 0 0) s) fun _ _ => .no)
      (rep z.cs n fun cs => fillA w ps m cs fun cs => mk s e cs 0 fun b s => .ok (.sl (some (.own b 0 0)) n n) s)) .no
  | _ => .no
def natI (v : V) : Option Nat := onNat v none some
def mkS (t : TypeId) (a b : V) (s : St) : Rv := match und T t with
  | some (.slice e) => on (natI a) .no fun n => on (natI b) .no fun c => on (zer T e) .no fun z => on (T.ty e) .no fun i =>
     cd (an (an (Nat.ble n c) (Nat.ble (Nat.mul i.bytes c) 100000000)) (an (Nat.beq (len z.cs) i.size) (an (Nat.blt c 100000000) (Nat.blt 0 i.size))))
       (rep z.cs n fun cs => mk s e cs 0 fun b s => cd (Nat.beq n c) (.ok (.sl (some (.own b 0 0)) n n) s) (.ok (.sg (.own b 0 0) n i.size) s)) .no
  | _ => .no
def optI (m : Fm) (x : Option Operand) (d : Nat) : Option Nat := on x (some d) fun x => on (ev m x) none natI
def slcS (l : List Nat) (lo hi : Option Operand) (m : Fm) (s : St) : Rv := on (optI m lo 0) .no fun a => on (optI m hi (len l)) .no fun b =>
  cd (an (Nat.ble a b) (Nat.ble b (len l))) (tk (Nat.sub b a) (drp a l) fun l => .ok (.str l) s) .no
def slc (t : TypeId) (x : V) (lo hi mx : Option Operand) (m : Fm) (s : St) : Rv := cd (isStr T t) (cd (isNo mx) (onStr x .no fun l => slcS l lo hi m s) .no) (on (slK T t) .no fun w => match x with
  | .sl p n c => cd (or (isNo mx) (nt (isNo hi))) (on (optI m lo 0) .no fun a => on (optI m hi n) .no fun b => on (optI m mx c) .no fun d => cd (an (Nat.ble a b) (an (Nat.ble b d) (Nat.ble d c)))
        (sN (Nat.sub b a) fun n => sN (Nat.sub d a) fun c => (match p with
          | none => .ok (.sl none n c) s
          | some p => cd (Nat.beq a d) (.ok (.sl (some p) n c) s) (pAdd p (Nat.mul a w) fun p => .ok (.sl (some p) n c) s))) .no) .no
  | .sg p n w' => (match mx with
    | some _ => .no
    | none => on (optI m lo 0) .no fun a => on (optI m hi n) .no fun b => cd (an (Nat.beq w w') (an (Nat.ble a b) (an (Nat.ble b n) (or (Nat.beq a 0) (Nat.blt a n)))))
        (sN (Nat.sub b a) fun n => pAdd p (Nat.mul a w) fun p => .ok (.sg p n w) s) .no)
  | _ => .no)
def idx (t : TypeId) (x i : V) (s : St) : Rv := onNat i .no fun i => cd (isStr T t) (onStr x .no fun l => on (nth l i) .no fun c => .ok (.int .u8 (.ofNat c)) s) (match arK T t, x with
  | some (n, w, e), .agg l => bif Nat.blt i n then on (ldK T e) .no fun k => partK k l (Nat.mul i w) s else .no
  | _, _ => .no)
def idxA (t : TypeId) (x i : V) (s : St) : Rv := onNat i .no fun i => on (slK T t) (on (arK T t) .no fun q => onPtr x .no fun p => cd (Nat.blt i q.1) (pAdd p (Nat.mul i q.2.1) fun p => .ok (.ptr (some p)) s) .no)
  fun w => onSl x .no fun p n => cd (Nat.blt i n) (pAdd p (Nat.mul i w) fun p => .ok (.ptr (some p)) s) .no
def fldA (t : TypeId) (x : V) (f : Nat) (s : St) : Rv := on (fldO T t f) .no fun o => onPtr x .no fun p => pAdd p o fun p => .ok (.ptr (some p)) s
def fld (t : TypeId) (x : V) (f : Nat) (s : St) : Rv := on (fldK T t f) .no fun q => onAgg x .no fun l => partK q.2 l q.1 s
def bytesV (l : List Nat) : List V := @List.rec Nat (fun _ => List V) [] (fun x _ r => .int .u8 (.ofNat x) :: r) l
def strV {β : Type} (bad : β) (l : List V) : (List Nat → β) → β := @List.rec V (fun _ => (List Nat → β) → β) (fun k => k [])
  (fun v _ ih k => onInt v bad fun kd i => cd (Nat.beq (kn kd) 4) (@Int.rec (fun _ => β) (fun n => cd (Nat.blt n 256) (ih fun r => k (n :: r)) bad) (fun _ => bad) i) bad) l
/-- A place within a row: its type, how many cells from there on. -/
def rowT (s : St) (p : Pl) : Option (TypeId × Nat × Nat) := @Pl.rec (fun _ => St → Option (TypeId × Nat × Nat)) (fun b g o s => on (s.h.get b) none fun ob => onRow ob none fun t z g' _ _ => cd (Nat.beq g g') (some (t, z, o)) none) (fun _ _ _ => none) p s
/-- A struct's first field is of that type. -/
def fst0 (e t : TypeId) : Bool := match und T e with
  | some (.struct fs) => (match fs.toList with
    | f :: _ => an (Nat.beq f.type t) (an (Nat.beq f.offset 0) (nt (T.hd e)))
    | [] => false)
  | _ => false
def cnvB0 (t n : Nat) (q : TypeId × Nat × Nat) : Bool := an (Nat.beq q.2.2 0) (cd (Nat.beq q.1 t) (Nat.ble n q.2.1) (an (fst0 T q.1 t) (on (siz T q.1) false fun n1 => an (Nat.blt 0 n1) (Nat.ble n1 q.2.1))))
def cnvU (t : TypeId) (p : Option Pl) (back : Bool) (s : St) : Rv := on p (.ok (.ptr none) s) fun p => on (rowT s p) .no fun q => on (siz T t) .no fun n => cd (Nat.beq n 0) .no
  (cd (cd back (cnvB0 T t n q) (Nat.blt q.2.2 q.2.1)) (.ok (.ptr (some p)) s) .no)
def u8K (t : TypeId) : Bool := match und T t with
  | some (.int .u8) => true
  | _ => false
def cnvB (e : TypeId) (p : Pl) (n : Nat) (s : St) : Rv := cd (u8K T e) (on (rd T s p n) .no fun l => strV .no l fun l => .ok (.str l) s) .no
def cnv (a b : TypeId) (x : V) (s : St) : Rv := on (und T a) .no fun da => on (und T b) .no fun db => match da, db, x with
  | _, .int k, .int _ n => intR k (wrp k n) s
  | _, .string, .str l => .ok (.str l) s
  | _, .string, .int _ (.ofNat n) => cd (Nat.blt n 128) (.ok (.str [n]) s) .no
  | _, .slice e, .str l => cd (u8K T e) (mk s e (bytesV l) 1 fun b s => sN (len l) fun n => .ok (.sg (.own b 0 0) n 1) s) .no
  | .slice e, .string, .sl none _ _ => cd (u8K T e) (.ok (.str []) s) .no
  | .slice e, .string, .sl (some p) n _ => cnvB T e p n s
  | .slice e, .string, .sg p n _ => cnvB T e p n s
  | .pointer t, .unsafePointer, .ptr p => cnvU T t p false s
  | .unsafePointer, .pointer t, .ptr p => cnvU T t p true s
  | _, _, _ => .no
def unR (op : UnOp) (x : V) (s : St) : Rv := match op, x with
  | .neg, .int k n => intR k (wrp k (Int.neg n)) s
  | .xor, .int k (.ofNat n) => cd (an (Nat.blt 3 (kn k)) (Nat.blt n (top k))) (intR k (.ofNat (Nat.sub (Nat.pred (top k)) n)) s) .no
  | .not, .bool b => boolR (nt b) s
  | _, _ => .no
def asr (x : V) (t : TypeId) (ok : Bool) (s : St) : Rv := match und T t, x with
  | some (.interface _), _ => .no
  | some _, .ifc u v => bif Nat.beq u t then (match ok with
      | true => .ok (.tup [v, .bool true]) s
      | false => .ok v s) else (match ok, zer T t with
      | true, some z => .ok (.tup [z, .bool false]) s
      | _, _ => .no)
  | _, _ => .no
/-- A key's parts are all there. -/
def okFs (ok : TypeId → V → Bool) (x : List V) : List Field → Bool
  | [] => true
  | f :: r => cd (f.name == "_") false (on (prt T f.type x f.offset) false fun a => an (ok f.type a) (okFs ok x r))
def okAs (ok : TypeId → V → Bool) (x : List V) (e : TypeId) (w : Nat) : Nat → Nat → Bool
  | 0, _ => true
  | n + 1, i => on (prt T e x (Nat.mul i w)) false fun a => an (ok e a) (okAs ok x e w n (Nat.succ i))
def keyOk : Nat → TypeId → V → Bool
  | 0, _, _ => false
  | f + 1, t, a => match und T t with
    | some .bool => true
    | some (.int _) => true
    | some .string => true
    | some (.struct fs) => an (nt (T.hd t)) (onAgg a false fun x => okFs T (keyOk f) x fs.toList)
    | some (.array n e) => on (siz T e) false fun w => onAgg a false fun x => okAs T (keyOk f) x e w n 0
    | _ => false
/-- A map's keys are compared as they are: the place of one. -/
def find (t : TypeId) (k : V) : List Me → Nat → Option (Option Nat)
  | [], _ => some none
  | e :: r, i => on (eqT T 4 t k e.k) none fun c => cd c (some (some i)) (find t k r (Nat.succ i))
/-- All cells are the same, of plain kinds. -/
def eqP : List V → List V → Bool
  | [], [] => true
  | a :: x, b :: y => on (eqC a b) false fun c => an c (eqP x y)
  | _, _ => false
def keyEq (a b : V) : Bool := onAgg a (on (eqC a b) false id) fun x => onAgg b false fun y => eqP x y
/-- A map's types. -/
def mpK (t : TypeId) : Option (TypeId × TypeId) := match und T t with
  | some (.map kt e) => some (kt, e)
  | _ => none
def mapE (s : St) (r : Nat) : Option (List Me × Nat) := on (s.h.get r) none fun o => onMap o none fun l c => some (l, c)
def lkR (e : TypeId) (ok : Bool) (s : St) (v : Option V) : Rv := on v (on (zer T e) .no fun z => cd ok (.ok (.tup [z, .bool false]) s) (.ok z s)) fun v => cd ok (.ok (.tup [v, .bool true]) s) (.ok v s)
def lkp (t : TypeId) (x k : V) (ok : Bool) (s : St) : Rv := on (mpK T t) .no fun q => cd (keyOk T 4 q.1 k) (onMp x .no fun r => on r (lkR T q.2 ok s none) fun r => on (mapE s r) .no fun l => on (find T q.1 k l.1 0) .no fun j => on j (lkR T q.2 ok s none) fun j => on (nth l.1 j) .no fun e => lkR T q.2 ok s (some e.v)) .no
def putM (s : St) (r : Nat) (l : List Me) (c : Nat) (v : V) : Rv := sN c fun c => s.h.set r (.map l c) fun h => .ok v ⟨h, s.nx⟩
/-- A key's value put in, or a new key with it. -/
def upd (s : St) (r : Nat) (l : List Me) (c : Nat) (k : V) (j : Option Nat) (old : V → V) (new : V) (fv : V → Nat → V) : Rv := on j (putM s r (l ++ [⟨k, new, c⟩]) (Nat.succ c) (fv new c))
  fun j => on (nth l j) .no fun e => cd (keyEq k e.k) (putM s r (l.set j ⟨k, old e.v, e.b⟩) c (fv (old e.v) e.b)) .no
def mup (t : TypeId) (x k v : V) (s : St) : Rv := on (mpK T t) .no fun q => cd (keyOk T 4 q.1 k) (onMp x .no fun r => on r .no fun r => on (mapE s r) .no fun l => on (find T q.1 k l.1 0) .no fun j =>
  upd s r l.1 l.2 k j (fun _ => v) v (fun _ _ => .tup [])) .no
def mkE (t : TypeId) (x k : V) (s : St) : Rv := on (mpK T t) .no fun q => cd (keyOk T 4 q.1 k) (onMp x .no fun r => on r .no fun r => on (mapE s r) .no fun l => on (zer T q.2) .no fun z => on (find T q.1 k l.1 0) .no fun j =>
  upd s r l.1 l.2 k j (fun v => v) z (fun v b => .tup [v, .int .i64 (.ofNat b)])) .no
def putE (b : Nat) (v : V) : List Me → (List Me → Rv) → Rv
  | [], _ => .no
  | e :: r, k => bif Nat.beq e.b b then k (⟨e.k, v, b⟩ :: r) else putE b v r fun r => k (e :: r)
def enS (x b v : V) (s : St) : Rv := onMp x .no fun r => on r .no fun r => onNat b .no fun b => on (mapE s r) .no fun q => putE b v q.1 fun l => putM s r l q.2 (.tup [])
def evs (m : Fm) (l : List Operand) : Option (List V) := @List.rec Operand (fun _ => Option (List V)) (some []) (fun x _ ih => on (ev m x) none fun v => on ih none fun r => some (v :: r)) l
def lastN : List Nat → Nat
  | [] => 0
  | [x] => x
  | _ :: r => lastN r
def entR (b : Nat) : List Me → St → Rv
  | [], _ => .no
  | e :: r, s => bif Nat.beq e.b b then .ok (.tup [e.k, e.v]) s else entR b r s
def rng (t : TypeId) (x : V) (s : St) : Rv := match und T t, x with
    | some .string, .str l => mkO s (.si l 0) fun b s => .ok (.ptr (some (.own b 0 0))) s
    | some (.map _ _), .mp none => mkO s (.it none 0 [] 0) fun b s => .ok (.ptr (some (.own b 0 0))) s
    | some (.map _ _), .mp (some r) => on (mapE s r) .no fun q => mkO s (.it (some r) q.2 [] q.2) fun b s => .ok (.ptr (some (.own b 0 0))) s
    | _, _ => .no
def entB (b : Nat) (s : St) : Rv := match s.h.get b with
      | some (.it (some r) _ seen last) => on (mapE s r) .no fun q => cd (an (Nat.beq q.2 last) (nt seen.isEmpty)) (entR (lastN seen) q.1 s) .no
      | _ => .no
def ent (x : V) (s : St) : Rv := onPtr x .no fun p => onOwn p .no fun b g o => cd (an (Nat.beq g 0) (Nat.beq o 0)) (entB b s) .no
def sto (t : TypeId) (a v : V) (s : St) : Rv := on (siz T t) .no fun n => onPtr a .no fun p => cd (Nat.beq n (len v.cs)) (wr s p v.cs) .no
def lod (t : TypeId) (a : V) (s : St) : Rv := onPtr a .no fun p => on (ldv T s t p) .no fun v => .ok v s
def nilC (x : V) (s : St) : Rv := match x with
    | .ptr (some p) => .ok x s
    | .ifc t v => .ok x s
    | .fn (.func f) a b => .ok x s
    | _ => .no
def pck (m : Fm) (s : St) (a b : Operand) (c : V) : Rv := onBool c .no fun c => cd c (on (ev m a) .no fun v => .ok v s) (on (ev m b) .no fun v => .ok v s)
def mkF (f : Fn) (m : Fm) (s : St) (a b : List Operand) : Rv := on (evs m a) .no fun a => on (evs m b) .no fun b => .ok (.fn f a b) s
def chK (t : TypeId) : Option Nat := match und T t with
  | some (.chan _ e) => on (T.ty e) none fun i => some i.bytes
  | _ => none
def mkC (t : TypeId) (n : V) (s : St) : Rv := on (chK T t) .no fun b => onNat n .no fun n => cd (an (Nat.ble n 100000000) (Nat.ble (Nat.mul b n) 100000000)) (mkO s (.chan n [] false 0 0) fun b s => .ok (.ch (some b)) s) .no
/-- Operations that call nothing. -/
def opv (o : Op) : Tb → Fm → St → Rv := @Op.rec (fun _ => Tb → Fm → St → Rv)
  (fun x T m s => on (ev m x) .no fun v => .ok v s)
  (fun x T m s => on (ev m x) .no fun v => .ok v s)
  (fun c a b T m s => on (ev m c) .no (pck m s a b))
  (fun t T m s => on (zer T t) .no fun z => mkP s t z.cs)
  (fun t x T m s => on (ev m x) .no fun v => mkP s t v.cs)
  (fun t ps T m s => bldS T t ps.toList m s)
  (fun t n ps T m s => bldL T t n ps.toList m s)
  (fun t x k v T m s => on (ev m x) .no fun x => on (ev m k) .no fun k => on (ev m v) .no fun v => mup T t x k v s)
  (fun t a T m s => on (ev m a) .no fun a => lod T t a s)
  (fun t a x T m s => on (ev m a) .no fun a => on (ev m x) .no fun v => sto T t a v s)
  (fun _ _ _ _ => .no)
  (fun _ _ _ _ => .no)
  (fun x T m s => on (ev m x) .no fun v => nilC v s)
  (fun op t x y _ T m s => on (ev m x) .no fun a => on (ev m y) .no fun b => bop T op t x y a b s)
  (fun op _ x T m s => on (ev m x) .no fun v => unR op v s)
  (fun a b x T m s => on (ev m x) .no fun v => cnv T a b v s)
  (fun _ _ _ _ _ => .no)
  (fun t x T m s => cd (ifcK T t) (on (ev m x) .no fun v => .ok (.ifc t v) s) .no)
  (fun f a b T m s => mkF f m s a.toList b.toList)
  (fun _ q T m s => cd (isNo q) (mkO s (.map [] 0) fun b s => .ok (.mp (some b)) s) .no)
  (fun t n T m s => on (ev m n) .no fun n => mkC T t n s)
  (fun t a b T m s => on (ev m a) .no fun a => on (ev m b) .no fun b => mkS T t a b s)
  (fun t x lo hi mx T m s => on (ev m x) .no fun v => slc T t v lo hi mx m s)
  (fun t x f T m s => on (ev m x) .no fun v => fldA T t v f s)
  (fun t x f T m s => on (ev m x) .no fun v => fld T t v f s)
  (fun t x i T m s => on (ev m x) .no fun v => on (ev m i) .no fun i => idxA T t v i s)
  (fun t x i T m s => on (ev m x) .no fun v => on (ev m i) .no fun i => idx T t v i s)
  (fun t x k ok T m s => on (ev m x) .no fun v => on (ev m k) .no fun k => lkp T t v k ok s)
  (fun t x k v T m s => on (ev m x) .no fun x => on (ev m k) .no fun k => on (ev m v) .no fun v => mup T t x k v s)
  (fun t x k T m s => on (ev m x) .no fun x => on (ev m k) .no fun k => mkE T t x k s)
  (fun _ x b v T m s => on (ev m x) .no fun x => on (ev m b) .no fun b => on (ev m v) .no fun v => enS x b v s)
  (fun t x T m s => on (ev m x) .no fun x => rng T t x s)
  (fun _ _ _ _ _ => .no)
  (fun x T m s => on (ev m x) .no fun x => ent x s)
  (fun x _ t ok T m s => on (ev m x) .no fun v => asr T v t ok s)
  (fun x i T m s => on (ev m x) .no fun v => onTup v .no fun l => on (nth l i) .no fun v => .ok v s)
  (fun _ _ _ _ => .no) (fun _ _ _ _ => .no) (fun _ _ _ _ => .no) (fun _ _ _ _ => .no) (fun _ _ _ _ _ => .no) (fun _ _ _ _ _ _ => .no) (fun _ _ _ _ _ => .no) o
end
end
end Go.RI
namespace Go.RI
open Go
noncomputable section

inductive Ex where
  | nrm
  | ext (id : Nat)
  | ret
structure R where
  x : Ex
  s : St
  m : Fm
structure Rr where
  v : V
  s : St
inductive Oc (α : Type) where
  | no
  | one (a : α)
  | two (a b : Oc α)
def Oc.bnd {α β : Type} (o : Oc α) : (α → Oc β) → Oc β := @Oc.rec α (fun _ => (α → Oc β) → Oc β) (fun _ => .no) (fun a k => k a) (fun _ _ x y k => .two (x k) (y k)) o
def onEx {β : Type} (x : Ex) (n : β) (e : Nat → β) (r : β) : β := @Ex.rec (fun _ => β) n e r x

def putD (o : Oper) (v : V) (s : St) (m : Fm) : Oc R := on o.dst (.one ⟨.nrm, s, m⟩) fun d => m.t.set d v fun t => .one ⟨.nrm, s, ⟨t, m.d⟩⟩
def fin (o : Oper) (m : Fm) (r : Rv) : Oc R := @Rv.rec (fun _ => Oc R) .no (fun v s => putD o v s m) r
/-- Is a guarded operation wanted? -/
def want (all : List Oper) (m : Fm) (q : Nat × Bool) : Option Bool := on (nth all q.1) none fun oj => on oj.dst none fun t => on (m.t.get t) none fun v => match v with
        | .bool c => some (match q.2 with | true => c | false => nt c)
        | .tup [] => some false
        | _ => none

section
variable (T : Tb)
def und1 (t : List TypeId) : Option TypeDesc := ol t none fun t _ => und T t
/-- The cells that append lays behind. -/
def newC (s : St) (w : Nat) (x : V) (k : List V → Rv) : Rv := match x with
  | .str l => k (bytesV l)
  | .sl none _ _ => k []
  | .sl (some p) n _ => on (rd T s p (Nat.mul n w)) .no k
  | .sg p n _ => on (rd T s p (Nat.mul n w)) .no k
  | _ => .no
def lenV : V → Option Nat
  | .str l => some (len l)
  | .sl _ n _ => some n
  | .sg _ n _ => some n
  | _ => none
/-- What append's elements are: a type, its cells, its bytes. -/
def apK (t : List TypeId) : Option (TypeId × Nat × Nat) := match und1 T t with
  | some (.slice e) => on (T.ty e) none fun i => on (zer T e) none fun z => cd (an (Nat.blt 0 i.size) (Nat.beq (len z.cs) i.size)) (some (e, i.size, i.bytes)) none
  | _ => none
/-- The second argument's type is none of a number. -/
def zK : List TypeId → Bool
  | [_] => true
  | [_, u] => (match und T u with
    | some (.slice _) => true
    | some .string => true
    | _ => false)
  | _ => false
def apNew (s : St) (e : TypeId) (l : List V) (n w fz : Nat) : Rv := mk s e l fz fun b s => .ok (.sg (.own b 0 0) n w) s
def apSl (s : St) (e : TypeId) (w : Nat) (p : Option Pl) (n c n' : Nat) (x : V) : Rv := on p (newC T s w x fun l => apNew s e l n' w 0) fun p =>
  cd (Nat.ble n' c) (newC T s w x fun l => pAdd p (Nat.mul n w) fun q => match wr s q l with
                | .ok _ s => .ok (.sl (some p) n' c) s
                | .no => .no)
    (on (rd T s p (Nat.mul n w)) .no fun old => newC T s w x fun l => apNew s e (old ++ l) n' w 0)
def apOn (s : St) (e t : TypeId) (b z g fz : Nat) (c : Tr V) (n w : Nat) (l : List V) : Rv := cd (an (Nat.beq e t) (all1 l)) (wrL l z c fun c => sN (Nat.add z (len l)) fun z => sN (Nat.succ g) fun g => s.h.set b (.row t z g fz c) fun h => .ok (.sg (.own b g 0) n w) ⟨h, s.nx⟩) .no
def apMv (s : St) (e t : TypeId) (b o g fz : Nat) (n n' w : Nat) (l : List V) : Rv := cd (an (Nat.beq o 0) (an (Nat.beq e t) (all1 l))) (on (rd T s (.own b g o) (Nat.mul n w)) .no fun old => sN (Nat.succ g) fun g => s.h.set b (.row t 0 g 2 .lf) fun h => apNew ⟨h, s.nx⟩ e (old ++ l) n' w fz) .no
def apSg (s : St) (e : TypeId) (w : Nat) (p : Pl) (n n' : Nat) (x : V) : Rv := onOwn p .no fun b g o => on (s.h.get b) .no fun ob => onRow ob .no fun t z g' fz c =>
  cd (an (Nat.beq g g') (Nat.blt fz 2)) (newC T s w x fun l => cd (an (Nat.beq o 0) (Nat.beq (Nat.mul n w) z)) (apOn s e t b z g fz c n' w l) (apMv T s e t b o g fz n n' w l)) .no
def appV (s : St) (ts : List TypeId) (a x : V) : Rv := on (apK T ts) .no fun q => cd (an (zK T ts) (onStr x true fun _ => Nat.beq q.2.1 1)) (on (lenV x) .no fun k => match a with
      | .sl p n c => cd (Nat.beq k 0) (.ok a s) (sN (Nat.add n k) fun n' => cd (Nat.blt 1000000 (Nat.mul n' (Nat.succ q.2.2))) .no (apSl T s q.1 q.2.1 p n c n' x))
      | .sg p n w' => cd (Nat.beq q.2.1 w') (cd (Nat.beq k 0) (.ok a s) (sN (Nat.add n k) fun n' => cd (Nat.blt 1000000 (Nat.mul n' (Nat.succ q.2.2))) .no (apSg T s q.1 w' p n n' x))) .no
      | _ => .no) .no
def cpyV (s : St) (ts : List TypeId) (a x : V) : Rv := on (apK T ts) .no fun q => cd (onStr x true fun _ => Nat.beq q.2.1 1) (on (lenV a) .no fun n => on (lenV x) .no fun k => sN (cd (Nat.ble k n) k n) fun n =>
      let fin (p : Pl) : Rv := newC T s q.2.1 x fun l => tk (Nat.mul n q.2.1) l fun l => match wr s p l with
        | .ok _ s => .ok (.int .i64 (.ofNat n)) s
        | .no => .no
      match a with
      | .sl none _ _ => .ok (.int .i64 (.ofNat n)) s
      | .sl (some p) _ _ => fin p
      | .sg p _ _ => fin p
      | _ => .no) .no
def lnO (s : St) (d : TypeDesc) (x : V) : Rv := match d, x with
  | .array n _, _ => .ok (.int .i64 (.ofNat n)) s
  | .pointer a, _ => (match und T a with
    | some (.array n _) => .ok (.int .i64 (.ofNat n)) s
    | _ => .no)
  | .slice _, .sl none n _ => .ok (.int .i64 (.ofNat n)) s
  | .map _ _, .mp none => .ok (.int .i64 0) s
  | .map _ _, .mp (some r) => on (mapE s r) .no fun q => sN (len q.1) fun n => .ok (.int .i64 (.ofNat n)) s
  | .chan _ _, .ch none => .ok (.int .i64 0) s
  | .chan _ _, .ch (some r) => (match s.h.get r with
    | some (.chan _ l _ _ _) => sN (len l) fun n => .ok (.int .i64 (.ofNat n)) s
    | _ => .no)
  | _, _ => .no
def lnV (s : St) (ts : List TypeId) (x : V) : Rv := onStr x (on (und1 T ts) .no fun d => onSl x (lnO T s d x) fun _ n => onSlice d .no fun _ => .ok (.int .i64 (.ofNat n)) s) fun l => match und1 T ts with
  | some .string => sN (len l) fun n => .ok (.int .i64 (.ofNat n)) s
  | _ => .no
def mmG (mx : Bool) (s : St) (x : V) : List V → Rv
  | [] => (match x with
    | .int k a => .ok (.int k a) s
    | _ => .no)
  | y :: r => (match x, y with
    | .int k a, .int k' b => cd (cd mx (iLt a b) (iLt b a)) (mmG mx s (.int k b) r) (mmG mx s (.int k a) r)
    | _, _ => .no)
def mmV (mx : Bool) (s : St) (l : List V) : Rv := ol l .no fun x r => mmG mx s x r
def usK (ts : List TypeId) (t : TypeId) : Bool := match ts with
  | [q, _] => (match und T q with
    | some (.pointer e) => an (Nat.beq e t) (match siz T e with
      | some n => Nat.beq n 1
      | none => false)
    | _ => false)
  | _ => false
def usS (s : St) (ts : List TypeId) (p : Pl) (n : Nat) : Rv := onOwn p .no fun b g o => on (s.h.get b) .no fun ob => onRow ob .no fun t z g' fz c => cd (an (usK T ts t) (an (an (Nat.beq o 0) (Nat.beq g g')) (an (Nat.ble n z) (Nat.ble n 1000000)))) (on (rdN c n 0) .no fun l => strV .no l fun l => s.h.set b (.row t z g 2 c) fun h => .ok (.str l) ⟨h, s.nx⟩) .no
def bltO (b : Builtin) (ts : List TypeId) (l : List V) (s : St) : Rv := match b, l with
  | .copy, [a, x] => cpyV T s ts a x
  | .cap, [.sl _ _ c] => (match und1 T ts with
    | some (.slice _) => .ok (.int .i64 (.ofNat c)) s
    | _ => .no)
  | .delete, [.mp (some r), k] => (match und1 T ts with
    | some (.map kt _) => cd (keyOk T 4 kt k) (on (mapE s r) .no fun q => on (find T kt k q.1 0) .no fun j => on j (putM s r q.1 q.2 (.tup [])) fun j => putM s r (q.1.eraseIdx j) q.2 (.tup [])) .no
    | _ => .no)
  | .unsafeSliceData, [.sl none _ _] => .ok (.ptr none) s
  | .unsafeSliceData, [.sl (some p) _ c] => cd (Nat.beq c 0) .no (.ok (.ptr (some p)) s)
  | .unsafeSliceData, [.sg p n _] => cd (Nat.beq n 0) .no (.ok (.ptr (some p)) s)
  | .unsafeString, [.ptr p, .int .i64 (.ofNat n)] => ol ts .no fun _ _ => cd (Nat.beq n 0) (.ok (.str []) s) (on p .no fun p => usS T s ts p n)
  | .min, l => mmV false s l
  | .max, l => mmV true s l
  | .close, [.ch (some r)] => (match s.h.get r with
    | some (.chan n l false a b) => s.h.set r (.chan n l true a b) fun h => .ok (.tup []) ⟨h, s.nx⟩
    | _ => .no)
  | _, _ => .no
def bk (b : Builtin) : Nat := match b with
  | .append => 1
  | .len => 2
  | _ => 0
def bltn (b : Builtin) (ts : List TypeId) (l : List V) (s : St) : Rv := cd (Nat.beq (bk b) 0) (bltO T b ts l s) (ol l .no fun a r => cd (Nat.beq (bk b) 1) (ol r .no fun x r => ol r (appV T s ts a x) fun _ _ => .no) (ol r (lnV T s ts a) fun _ _ => .no))
/-- A method by its name. -/
def mth : List Method → String → Option Method
  | [], _ => none
  | m :: r, n => match m.name == n with
    | true => some m
    | false => mth r n
/-- A method of a type, if it takes the value as it is. -/
def mtK (t : TypeId) (n : String) : Option FuncId := match T.ty t, und T t with
      | some i, some d => (match mth i.methods.toList n with
        | some ⟨_, _, p, some (f, pr)⟩ => (match p.size, d, pr with
          | 0, .pointer _, true => some f
          | 0, .pointer _, false => none
          | 0, _, false => some f
          | _, _, _ => none)
        | _ => none)
      | _, _ => none
/-- What is called. -/
def tgt {β : Type} (m : Fm) (c : Call) (bad : β) (kf : FuncId → List V → β) (kb : Builtin → List TypeId → List V → β) : β := on (evs m c.args.toList) bad fun l => match c.callee with
  | .builtin b => kb b c.argTypes.toList l
  | .value f => on (ev m f) bad fun v => onFn v bad fun g a b => (match g with
    | .func f => kf f (a ++ (l ++ b))
    | _ => bad)
  | .invoke r n => on (ev m r) bad fun v => onIfc v bad fun t v => on (mtK T t n) bad fun f => kf f (v :: l)

variable (cal : FuncId → List V → St → Oc Rr)
/-- A map's next entry: each that may come. -/
def left (seen : List Nat) : List Me → List Me
  | [] => []
  | e :: r => bif seen.any (Nat.beq e.b) then left seen r else e :: left seen r
def alts (k : Me → Oc R) : List Me → Oc R
  | [] => .no
  | [e] => k e
  | e :: r => .two (k e) (alts k r)
def nxt (o : Oper) (str : Bool) (b : Nat) (s : St) (m : Fm) : Oc R := match s.h.get b with
  | some (.si l p) => cd str (cd (Nat.blt p (len l)) (on (nth l p) .no fun c => cd (Nat.blt c 128) (sN (Nat.succ p) fun q => s.h.set b (.si l q) fun h => putD o (.tup [.bool true, .int .i64 (.ofNat p), .int .i32 (.ofNat c)]) ⟨h, s.nx⟩ m) .no) (putD o (.tup [.bool false]) s m)) .no
  | some (.it none _ _ _) => cd str .no (putD o (.tup [.bool false]) s m)
  | some (.it (some r) since seen last) => on (mapE s r) .no fun q => cd (an (nt str) (an (Nat.ble since last) (q.1.all fun e => Nat.blt e.b since)))
        (ol (left seen q.1) (putD o (.tup [.bool false]) s m) fun e x => alts (fun e => s.h.set b (.it (some r) since (seen ++ [e.b]) q.2) fun h => putD o (.tup [.bool true, e.k, e.v]) ⟨h, s.nx⟩ m) (e :: x)) .no
  | _ => .no
def sel (o : Oper) (c : SelectCase) (s : St) (m : Fm) : Oc R := match ev m c.chan, zer T c.elem, c.send with
  | some (.ch (some r)), some z, none => (match s.h.get r with
    | some (.chan n [] true a b) => putD o (.tup [.int .i64 0, .bool false, z]) s m
    | some (.chan n [] false a b) => putD o (.tup [.int .i64 (.negSucc 0), .bool false, z]) s m
    | some (.chan n (v :: l) sh a b) => sN (Nat.succ b) fun b => s.h.set r (.chan n l sh a b) fun h => putD o (.tup [.int .i64 0, .bool true, v]) ⟨h, s.nx⟩ m
    | _ => .no)
  | some (.ch (some r)), some _, some x => (match ev m x, s.h.get r with
    | some v, some (.chan n l false a b) => bif Nat.blt (len l) n then sN (Nat.succ a) fun a => s.h.set r (.chan n (l ++ [v]) false a b) fun h => putD o (.tup [.int .i64 0, .bool false]) ⟨h, s.nx⟩ m
        else putD o (.tup [.int .i64 (.negSucc 0), .bool false]) s m
    | _, _ => .no)
  | _, _, _ => .no
/-- Operations that call, or put something off, or step on. -/
def opk (o : Op) : Nat := @Op.rec (fun _ => Nat)
  (fun _ => 0) (fun _ => 0) (fun _ _ _ => 0) (fun _ => 0) (fun _ _ => 0) (fun _ _ => 0) (fun _ _ _ => 0) (fun _ _ _ _ => 0) (fun _ _ => 0) (fun _ _ _ => 0) (fun _ => 0) (fun _ => 0) (fun _ => 0) (fun _ _ _ _ _ => 0) (fun _ _ _ => 0) (fun _ _ _ => 0) (fun _ _ => 0) (fun _ _ => 0) (fun _ _ _ => 0) (fun _ _ => 0) (fun _ _ => 0) (fun _ _ _ => 0) (fun _ _ _ _ _ => 0) (fun _ _ _ => 0) (fun _ _ _ => 0) (fun _ _ _ => 0) (fun _ _ _ => 0) (fun _ _ _ _ => 0) (fun _ _ _ _ => 0) (fun _ _ _ => 0) (fun _ _ _ _ => 0) (fun _ _ => 0) (fun _ _ => 2) (fun _ => 0) (fun _ _ _ _ => 0) (fun _ _ => 0) (fun _ => 1) (fun _ => 0) (fun _ => 2) (fun _ => 0) (fun _ _ => 0) (fun _ _ _ => 0) (fun _ _ => 2) o
def opC (o : Oper) (s : St) (m : Fm) (c : Call) : Oc R := tgt T m c .no (fun f l => (cal f l s).bnd fun r => putD o r.v r.s m) (fun b ts l => fin o m (bltn T b ts l s))
def op3 (o : Oper) (s : St) (m : Fm) : Oc R := match o.op with
    | .call c => opC T cal o s m c
    | .defer c => tgt T m c .no (fun f l => putD o (.tup []) s ⟨m.t, ⟨f, l⟩ :: m.d⟩) (fun _ _ _ => .no)
    | .next it str => on (ev m it) .no fun v => onPtr v .no fun p => onOwn p .no fun b g q => cd (an (Nat.beq g 0) (Nat.beq q 0)) (nxt o str b s m) .no
    | .select cs false => (match cs.toList with
      | [c] => sel T o c s m
      | _ => .no)
    | _ => .no
def op2 (o : Oper) (s : St) (m : Fm) : Oc R := cd (Nat.beq (opk o.op) 0) (fin o m (opv o.op T m s)) (op3 T cal o s m)
def op1 (all : List Oper) (o : Oper) (s : St) (m : Fm) : Oc R := on o.guard (op2 T cal o s m) fun q => on (want all m q) .no fun b => cd b (op2 T cal o s m) (putD o (.tup []) s m)
def seqO (all l : List Oper) : St → Fm → Oc R := @List.rec Oper (fun _ => St → Fm → Oc R) (fun s m => .one ⟨.nrm, s, m⟩) (fun o _ ih s m => (op1 T cal all o s m).bnd fun q => ih q.s q.m) l

/-! regions that draw their order -/
def bit (n i : Nat) : Bool := Nat.beq (Nat.mod (Nat.div n (Nat.pow 2 i)) 2) 1
def aheadE (t : Tr Nat) : List Edge → Nat → Nat
  | [], a => a
  | e :: r, a => aheadE t r (bif Region.binds .any e then Nat.lor (Nat.lor (Nat.pow 2 e.on) (on (t.get e.on) 0 id)) a else a)
/-- Those ahead of each, all the way. -/
def ahead : List Oper → Nat → Tr Nat → List Nat
  | [], _, _ => []
  | o :: r, i, t => sN (aheadE t o.after.toList 0) fun x => t.set i x fun t => x :: ahead r (Nat.succ i) t
/-- From which one on each waits for all. -/
def tailAt : List Nat → Nat → Nat → Nat
  | [], _, k => k
  | x :: r, i, k => bif Nat.beq (Nat.succ x) (Nat.pow 2 i) then tailAt r (Nat.succ i) k else tailAt r (Nat.succ i) (Nat.succ i)
def isEff : Op → Bool
  | .call c => (match c.callee with
    | .builtin .len => false
    | .builtin .min => false
    | .builtin .max => false
    | .builtin .cap => false
    | _ => true)
  | .store .. | .mapUpdate .. | .mapEntry .. | .insert .. | .entryStore .. | .next .. | .range .. | .select .. | .defer .. => true
  | _ => false
structure It where
  i : Nat
  o : Oper
  p : Nat
  e : Bool
structure Dn where
  i : Nat
  o : Oper
  m : Fm
  v : V
  nb : Option (Nat × Ob)
def named (o : Oper) (all : List Oper) : List Nat := (o.op.operands.toList.filterMap fun | .tmp t => some t | _ => none) ++ (match o.guard with
  | some (j, _) => (match nth all j with | some x => x.dst.toList | none => [])
  | none => [])
/-- Slots: each written once, read by none but such as wait. -/
def slotsOk (all : List Oper) (its : List It) : Bool := its.all fun a => match a.o.dst with
  | none => true
  | some d => its.all fun b => bif Nat.beq a.i b.i then nt ((named b.o all).any (Nat.beq d)) else an (match b.o.dst with | some e => nt (Nat.beq d e) | none => true) (bif bit b.p a.i then true else nt ((named b.o all).any (Nat.beq d)))
def plEq : Option Pl → Option Pl → Bool
  | none, none => true
  | some (.own b g o), some (.own b' g' o') => an (Nat.beq b b') (an (Nat.beq g g') (Nat.beq o o'))
  | some (.var b o), some (.var b' o') => an (Nat.beq b b') (Nat.beq o o')
  | _, _ => false
def onEq : Option Nat → Option Nat → Bool
  | none, none => true
  | some a, some b => Nat.beq a b
  | _, _ => false
def fnEq : Fn → Fn → Bool
  | .func f, .func g => Nat.beq f g
  | _, _ => false
mutual
def V.beq : V → V → Bool
  | .bool a, .bool b => (match a with | true => b | false => nt b)
  | .int k a, .int k' b => an (Nat.beq (kn k) (kn k')) (iEq a b)
  | .str a, .str b => lEq a b
  | .ptr a, .ptr b => plEq a b
  | .sl a n c, .sl b m d => an (plEq a b) (an (Nat.beq n m) (Nat.beq c d))
  | .sg a n c, .sg b m d => an (plEq (some a) (some b)) (an (Nat.beq n m) (Nat.beq c d))
  | .mp a, .mp b => onEq a b
  | .ch a, .ch b => onEq a b
  | .fn f a b, .fn g c d => an (fnEq f g) (an (beqs a c) (beqs b d))
  | .nilF, .nilF => true
  | .ifc t v, .ifc u w => an (Nat.beq t u) (V.beq v w)
  | .nilI, .nilI => true
  | .un a, .un b => Nat.beq a b
  | .agg a, .agg b => beqs a b
  | .tup a, .tup b => beqs a b
  | _, _ => false
def beqs : List V → List V → Bool
  | [], [] => true
  | a :: x, b :: y => an (V.beq a b) (beqs x y)
  | _, _ => false
end
def sameV (m : Fm) (s : St) (o : Op) (v : V) : Bool := match (match o with
          | .call c => tgt T m c Rv.no (fun _ _ => Rv.no) (fun b ts l => bltn T b ts l s)
          | op => opv op T m s) with
        | .ok u q => an (V.beq u v) (Nat.beq q.nx s.nx)
        | .no => false
/-- What has been reckoned is so still. -/
def again (all : List Oper) (p : Nat) (s : St) : List Dn → Bool
  | [] => true
  | d :: r => bif bit p d.i then again all p s r else (match d.nb with
    | some (b, .row t n g z c) => (match s.h.get b with
      | some (.row t' n' g' z' c') => an (an (an (Nat.beq t t') (Nat.beq z z')) (an (Nat.beq n n') (Nat.beq g g'))) (match rdN c n 0, rdN c' n 0 with
        | some x, some y => an (beqs x y) (again all p s r)
        | _, _ => false)
      | _ => false)
    | some (b, .map [] c) => (match s.h.get b with
      | some (.map [] c') => an (Nat.beq c c') (again all p s r)
      | _ => false)
    | some _ => false
    | none => (match d.o.guard with
      | none => an (sameV T d.m s d.o.op d.v) (again all p s r)
      | some q => (match want all d.m q with
        | some false => again all p s r
        | some true => an (sameV T d.m s d.o.op d.v) (again all p s r)
        | none => false)))
def pick (e : Bool) (dn : Nat) : List It → Option It
  | [] => none
  | a :: r => bif an (cd a.e e (nt e)) (Nat.beq (Nat.land a.p dn) a.p) then some a else pick e dn r
def rid (i : Nat) : List It → (List It → Oc R) → Oc R
  | [], k => k []
  | a :: r, k => bif Nat.beq a.i i then k r else rid i r fun r => k (a :: r)
/-- What an operation made; those ahead are as they were. -/
def madeK (all : List Oper) (s : St) (q : R) (ds : List Dn) (k : Option (Nat × Ob) → Oc R) : Oc R := cd (Nat.beq s.nx q.s.nx) (k none) (on (q.s.h.get s.nx) .no fun o => cd (again T all 0 q.s ds) (k (some (s.nx, o))) .no)
def valOf (o : Oper) (m : Fm) : V := on o.dst (.tup []) fun d => on (m.t.get d) (.tup []) id
def drw (all : List Oper) : Nat → List It → Nat → List Dn → St → Fm → Oc R
  | 0, _, _, _, _, _ => .no
  | f + 1, its, dn, ds, s, m => match its with
    | [] => .one ⟨.nrm, s, m⟩
    | _ => match pick false dn its with
      | some a => (op1 T cal all a.o s m).bnd fun q => madeK T all s q ds fun nb => sN (Nat.lor dn (Nat.pow 2 a.i)) fun dn => rid a.i its fun its => drw all f its dn (⟨a.i, a.o, m, valOf a.o q.m, nb⟩ :: ds) q.s q.m
      | none => match pick true dn its with
        | none => .no
        | some a => (op1 T cal all a.o s m).bnd fun q => cd (again T all a.p q.s ds)
            (sN (Nat.lor dn (Nat.pow 2 a.i)) fun dn => rid a.i its fun its => drw all f its dn ds q.s q.m) .no
def mkIt : List Oper → List Nat → Nat → List It
  | o :: r, p :: ps, i => ⟨i, o, p, isEff o.op⟩ :: mkIt r ps (Nat.succ i)
  | _, _, _ => []
structure Dr where
  its : List It
  n : Nat
  tl : List Oper
  ok : Bool
/-- Each effect waits for all that come ahead of it. -/
def chn : List It → Nat → Bool
  | [], _ => true
  | a :: r, k => match a.e with
    | true => an (Nat.beq (Nat.land a.p k) k) (chn r (Nat.lor k (Nat.pow 2 a.i)))
    | false => chn r k
def bk1 (i : Nat) : List Edge → Bool
  | [] => true
  | e :: r => an (cd (Nat.blt e.on i) true (nt (Region.binds .any e))) (bk1 i r)
/-- Edges lead back. -/
def bkE : List Oper → Nat → Bool
  | [], _ => true
  | o :: r, i => an (bk1 i o.after.toList) (bkE r (Nat.succ i))
def drOf (all : List Oper) : Dr :=
  let ps := ahead all 0 .lf
  let n := tailAt ps 0 0
  let its := (mkIt all ps 0).take n
  ⟨its, n, drp n all, an (slotsOk all its) (an (chn its 0) (bkE all 0))⟩
def drR (all : List Oper) (s : St) (m : Fm) : Oc R := @Dr.rec (fun _ => Oc R) (fun its n tl ok => cd ok ((drw T cal all (Nat.succ n) its 0 [] s m).bnd fun q => seqO T cal all tl q.s q.m) .no) (drOf all)
end

section
variable (T : Tb) (nat : FuncId → List V → St → Option (Oc Rr)) (dnat : FuncId → List V → St → Option St)
def res1 (T : Tb) (s : St) (m : Fm) (x : ResultVar) : Option V := @ResultVar.rec (fun _ => Option V) (fun t => m.t.get t) (fun a t => on (m.t.get a) none fun v => onPtr v none fun p => ldv T s t p) x
def resL (T : Tb) (s : St) (m : Fm) (l : List ResultVar) : Option (List V) := @List.rec ResultVar (fun _ => Option (List V)) (some []) (fun x _ ih => on (res1 T s m x) none fun v => on ih none fun r => some (v :: r)) l
def resV (l : List V) : V := ol l (.tup []) fun v r => ol r v fun _ _ => .tup l
def endC (T : Tb) (fn : Func) (m : Fm) (s : St) : Oc Rr := on (resL T s m fn.results.toList) .no fun l => .one ⟨resV l, s⟩
/-- A call that was put off: it puts off nothing itself. -/
def callD (T : Tb) (rec : Code → St → Fm → Oc R) (f : FuncId) (l : List V) (s : St) : Oc Rr := on (T.fn f) .no fun fn => on fn.body .no fun c => cd (Nat.ble (len l) fn.ntmps) (wrL l 0 .lf fun t => (rec c s ⟨t, []⟩).bnd fun r => ol r.m.d (onEx r.x (endC T fn r.m r.s) (fun _ => .no) (endC T fn r.m r.s)) fun _ _ => .no) .no
def runD (T : Tb) (dnat : FuncId → List V → St → Option St) (rec : Code → St → Fm → Oc R) : List Df → St → (St → Oc Rr) → Oc Rr
  | [], s, k => k s
  | d :: r, s, k => match dnat d.f d.l s with
    | some s => runD T dnat rec r s k
    | none => (callD T rec d.f d.l s).bnd fun q => runD T dnat rec r q.s k
def callB (fn : Func) (c : Code) (rec : Code → St → Fm → Oc R) (l : List V) (s : St) : Oc Rr :=
  cd (Nat.ble (len l) fn.ntmps) (wrL l 0 .lf fun t => (rec c s ⟨t, []⟩).bnd fun r => onEx r.x (runD T dnat rec r.m.d r.s (endC T fn r.m)) (fun _ => .no) (runD T dnat rec r.m.d r.s (endC T fn r.m))) .no
def callS (rec : Code → St → Fm → Oc R) (f : FuncId) (l : List V) (s : St) : Oc Rr := on (T.fn f) .no fun fn => on fn.body .no fun c => callB T dnat fn c rec l s
def exS (c : Code) : Tb → (Code → St → Fm → Oc R) → (FuncId → List V → St → Oc Rr) → St → Fm → Oc R := @Code.rec (fun _ => Tb → (Code → St → Fm → Oc R) → (FuncId → List V → St → Oc Rr) → St → Fm → Oc R)
  (fun _ _ _ s m => .one ⟨.nrm, s, m⟩)
  (fun _ ops d T _ cal s m => cd d (drR T cal ops.toList s m) (seqO T cal ops.toList ops.toList s m))
  (fun a b _ _ _ rec _ s m => (rec a s m).bnd fun r => onEx r.x (rec b r.s r.m) (fun _ => .one r) (.one r))
  (fun c a b _ _ _ rec _ s m => on (ev m c) .no fun v => onBool v .no fun t => cd t (rec a s m) (rec b s m))
  (fun id c _ _ rec _ s m => (rec c s m).bnd fun r => onEx r.x (.one r) (fun j => cd (Nat.beq j id) (.one ⟨.nrm, r.s, r.m⟩) (.one r)) (.one r))
  (fun c _ _ rec _ s m => (rec c s m).bnd fun r => onEx r.x (rec (.loop c) r.s r.m) (fun _ => .one r) (.one r))
  (fun _ _ _ _ _ _ _ _ _ _ _ => .no)
  (fun id _ _ _ s m => .one ⟨.ext id, s, m⟩)
  (fun _ _ _ _ _ _ _ => .no)
  (fun _ _ _ _ s m => .one ⟨.nrm, s, m⟩)
  (fun _ _ _ _ _ _ => .no)
  (fun _ _ _ s m => .one ⟨.ret, s, m⟩)
  (fun _ _ _ _ _ _ => .no) c
structure Both where
  e : Code → St → Fm → Oc R
  c : FuncId → List V → St → Oc Rr
/-- Pieces of code, and calls, of so many levels. -/
def both (n : Nat) : Both := @Nat.rec (fun _ => Both) ⟨fun _ _ _ => .no, fun _ _ _ => .no⟩ (fun _ ih => ⟨fun c s m => exS c T ih.e ih.c s m, fun f l s => on (nat f l s) (callS T dnat ih.e f l s) id⟩) n
end
end
end Go.RI
namespace Go.RI
open Go Go.RowKit

theorem cd_true {β : Type} (a b : β) : cd true a b = a := rfl
theorem cd_false {β : Type} (a b : β) : cd false a b = b := rfl
theorem cd_eq {β : Type} (c : Bool) (a b : β) : cd c a b = if c = true then a else b := by cases c <;> rfl
theorem an_eq (a b : Bool) : an a b = (a && b) := by cases a <;> rfl
theorem nt_eq (a : Bool) : nt a = !a := by cases a <;> rfl
theorem sN_eq {β : Type} (n : Nat) (k : Nat → β) : sN n k = k n := by cases n <;> rfl
theorem sI_eq {β : Type} (i : Int) (k : Int → β) : sI i k = k i := by cases i <;> exact sN_eq _ (fun n => k _)
theorem sB_eq {β : Type} (b : Bool) (k : Bool → β) : sB b k = k b := by cases b <;> rfl
theorem len_eq {α : Type} (l : List α) : len l = l.length := by
  induction l with
  | nil => rfl
  | cons x r ih => show Nat.succ (len r) = _; rw [ih]; rfl
theorem nth_eq {α : Type} (l : List α) : ∀ n, nth l n = l[n]? := by
  induction l with
  | nil => intro n; simp [nth]
  | cons x r ih =>
    intro n
    show cd (Nat.beq n 0) (some x) (nth r (Nat.pred n)) = _
    cases n with
    | zero => rfl
    | succ n => show nth r n = _; rw [ih]; simp
theorem drp_eq {α : Type} (n : Nat) : ∀ l : List α, drp n l = l.drop n := by
  induction n with
  | zero => intro l; rfl
  | succ n ih =>
    intro l
    cases l with
    | nil => rfl
    | cons x r => show drp n r = _; rw [ih]; rfl
theorem tk_eq {α β : Type} (n : Nat) : ∀ (l : List α) (k : List α → β), tk n l k = k (l.take n) := by
  induction n with
  | zero => intro l k; show k [] = _; simp
  | succ n ih =>
    intro l k
    cases l with
    | nil => rfl
    | cons x r => show tk n r (fun r => k (x :: r)) = _; rw [ih]; rfl
theorem app_eq {β : Type} (a : List Nat) : ∀ (y : List Nat) (k : List Nat → β), app a y k = k (a ++ y) := by
  induction a with
  | nil => intro y k; rfl
  | cons x r ih => intro y k; show app r y (fun r => k (x :: r)) = _; rw [ih]; rfl
theorem lEq_eq (a : List Nat) : ∀ b, lEq a b = decide (a = b) := by
  induction a with
  | nil => intro b; cases b <;> rfl
  | cons x r ih =>
    intro b
    cases b with
    | nil => rfl
    | cons y s =>
      show cd (Nat.beq x y) (lEq r s) false = _
      rw [ih, cd_eq]
      by_cases h : x = y
      · subst h; simp
      · simp [h]
theorem beq_iff {a b : Nat} : Nat.beq a b = true ↔ a = b := ⟨Nat.eq_of_beq_eq_true, fun h => h ▸ Nat.beq_refl a⟩

/-! trees -/
theorem Tr.get_lf {α : Type} (n : Nat) : (Tr.lf : Tr α).get n = none := rfl
theorem Tr.get_nd {α : Type} (l r : Tr α) (v : Option α) (n : Nat) : (Tr.nd l v r).get n = if n = 0 then v else if n % 2 = 1 then l.get (n / 2) else r.get (n / 2 - 1) := by
  show cd (Nat.beq n 0) v (cd (Nat.beq (Nat.mod n 2) 1) (l.get (Nat.div n 2)) (r.get (Nat.pred (Nat.div n 2)))) = _
  rw [cd_eq, cd_eq]
  simp only [beq_iff]
  rfl
theorem Tr.one_get {α β : Type} (f : Nat) : ∀ (n : Nat) (v : α), n < f → ∃ t : Tr α, (∀ k : Tr α → β, Tr.one f n v k = k t) ∧ ∀ m, t.get m = if m = n then some v else none := by
  induction f with
  | zero => intro n v h; omega
  | succ f ih =>
    intro n v h
    have e : ∀ k : Tr α → β, Tr.one (f + 1) n v k = cd (Nat.beq n 0) (k (.nd .lf (some v) .lf)) (cd (Nat.beq (Nat.mod n 2) 1) (Tr.one f (Nat.div n 2) v (fun t => k (.nd t none .lf))) (Tr.one f (Nat.pred (Nat.div n 2)) v (fun t => k (.nd .lf none t)))) := fun k => rfl
    by_cases h0 : n = 0
    · subst h0
      refine ⟨.nd .lf (some v) .lf, fun k => e k, fun m => ?_⟩
      rw [Tr.get_nd]
      by_cases hm : m = 0
      · simp [hm]
      · simp [hm, Tr.get_lf]
    · by_cases h1 : n % 2 = 1
      · obtain ⟨t, ht, hg⟩ := ih (n / 2) v (by omega)
        refine ⟨.nd t none .lf, fun k => ?_, fun m => ?_⟩
        · rw [e, cd_eq, if_neg (by rw [beq_iff]; exact h0), cd_eq, if_pos (by rw [beq_iff]; exact h1)]
          exact ht _
        · rw [Tr.get_nd]
          by_cases hm : m = 0
          · rw [if_pos hm, if_neg (by omega)]
          · rw [if_neg hm]
            by_cases hm1 : m % 2 = 1
            · rw [if_pos hm1, hg]
              by_cases hmn : m = n
              · rw [if_pos (by rw [hmn]), if_pos hmn]
              · rw [if_neg (by omega), if_neg hmn]
            · rw [if_neg hm1, Tr.get_lf, if_neg (by omega)]
      · obtain ⟨t, ht, hg⟩ := ih (n / 2 - 1) v (by omega)
        refine ⟨.nd .lf none t, fun k => ?_, fun m => ?_⟩
        · rw [e, cd_eq, if_neg (by rw [beq_iff]; exact h0), cd_eq, if_neg (by rw [beq_iff]; exact h1)]
          exact ht _
        · rw [Tr.get_nd]
          by_cases hm : m = 0
          · rw [if_pos hm, if_neg (by omega)]
          · rw [if_neg hm]
            by_cases hm1 : m % 2 = 1
            · rw [if_pos hm1, Tr.get_lf, if_neg (by omega)]
            · rw [if_neg hm1, hg]
              by_cases hmn : m = n
              · rw [if_pos (by rw [hmn]), if_pos hmn]
              · rw [if_neg (by omega), if_neg hmn]
theorem Tr.set_get {α β : Type} (t : Tr α) : ∀ (n : Nat) (v : α), ∃ t' : Tr α, (∀ k : Tr α → β, t.set n v k = k t') ∧ ∀ m, t'.get m = if m = n then some v else t.get m := by
  induction t with
  | lf =>
    intro n v
    obtain ⟨t, ht, hg⟩ := Tr.one_get (β := β) (n + 1) n v (by omega)
    exact ⟨t, ht, fun m => by rw [hg, Tr.get_lf]⟩
  | nd l x r ihl ihr =>
    intro n v
    have e : ∀ k : Tr α → β, (Tr.nd l x r).set n v k = cd (Nat.beq n 0) (k (.nd l (some v) r)) (cd (Nat.beq (Nat.mod n 2) 1) (l.set (Nat.div n 2) v (fun t => k (.nd t x r))) (r.set (Nat.pred (Nat.div n 2)) v (fun t => k (.nd l x t)))) := fun k => rfl
    by_cases h0 : n = 0
    · subst h0
      refine ⟨.nd l (some v) r, fun k => e k, fun m => ?_⟩
      rw [Tr.get_nd, Tr.get_nd]
      by_cases hm : m = 0 <;> simp [hm]
    · by_cases h1 : n % 2 = 1
      · obtain ⟨t, ht, hg⟩ := ihl (n / 2) v
        refine ⟨.nd t x r, fun k => ?_, fun m => ?_⟩
        · rw [e, cd_eq, if_neg (by rw [beq_iff]; exact h0), cd_eq, if_pos (by rw [beq_iff]; exact h1)]
          exact ht _
        · rw [Tr.get_nd, Tr.get_nd, hg]
          by_cases hm : m = 0
          · rw [if_pos hm, if_neg (by omega), if_pos hm]
          · rw [if_neg hm, if_neg hm]
            by_cases hm1 : m % 2 = 1
            · rw [if_pos hm1, if_pos hm1]
              by_cases hmn : m = n
              · rw [if_pos (by rw [hmn]), if_pos hmn]
              · rw [if_neg (by omega), if_neg hmn]
            · rw [if_neg hm1, if_neg hm1, if_neg (by omega)]
      · obtain ⟨t, ht, hg⟩ := ihr (n / 2 - 1) v
        refine ⟨.nd l x t, fun k => ?_, fun m => ?_⟩
        · rw [e, cd_eq, if_neg (by rw [beq_iff]; exact h0), cd_eq, if_neg (by rw [beq_iff]; exact h1)]
          exact ht _
        · rw [Tr.get_nd, Tr.get_nd, hg]
          by_cases hm : m = 0
          · rw [if_pos hm, if_neg (by omega), if_pos hm]
          · rw [if_neg hm, if_neg hm]
            by_cases hm1 : m % 2 = 1
            · rw [if_pos hm1, if_pos hm1, if_neg (by omega)]
            · rw [if_neg hm1, if_neg hm1]
              by_cases hmn : m = n
              · rw [if_pos (by rw [hmn]), if_pos hmn]
              · rw [if_neg (by omega), if_neg hmn]
/-- The tree with one more, spelt without the way it is handed on. -/
noncomputable def Tr.put {α : Type} (t : Tr α) (n : Nat) (v : α) : Tr α := t.set n v id
theorem Tr.one_put {α : Type} (f : Nat) : ∀ (n : Nat) (v : α) {β : Type} (k : Tr α → β), Tr.one f n v k = k (Tr.one f n v id) := by
  induction f with
  | zero => intro n v β k; rfl
  | succ f ih =>
    intro n v β k
    have e : ∀ {γ : Type} (k : Tr α → γ), Tr.one (f + 1) n v k = cd (Nat.beq n 0) (k (.nd .lf (some v) .lf)) (cd (Nat.beq (Nat.mod n 2) 1) (Tr.one f (Nat.div n 2) v (fun t => k (.nd t none .lf))) (Tr.one f (Nat.pred (Nat.div n 2)) v (fun t => k (.nd .lf none t)))) := fun k => rfl
    rw [e, e]
    cases Nat.beq n 0 with
    | true => rfl
    | false =>
      rw [cd_false, cd_false]
      cases Nat.beq (Nat.mod n 2) 1 with
      | true => rw [cd_true, cd_true, ih, ih (Nat.div n 2) v (fun t => id (Tr.nd t none .lf))]; rfl
      | false => rw [cd_false, cd_false, ih, ih (Nat.pred (Nat.div n 2)) v (fun t => id (Tr.nd .lf none t))]; rfl
theorem Tr.set_put {α : Type} (t : Tr α) : ∀ (n : Nat) (v : α) {β : Type} (k : Tr α → β), t.set n v k = k (t.put n v) := by
  unfold Tr.put
  induction t with
  | lf => intro n v β k; exact Tr.one_put (n + 1) n v k
  | nd l x r ihl ihr =>
    intro n v β k
    have e : ∀ {γ : Type} (k : Tr α → γ), (Tr.nd l x r).set n v k = cd (Nat.beq n 0) (k (.nd l (some v) r)) (cd (Nat.beq (Nat.mod n 2) 1) (l.set (Nat.div n 2) v (fun t => k (.nd t x r))) (r.set (Nat.pred (Nat.div n 2)) v (fun t => k (.nd l x t)))) := fun k => rfl
    rw [e, e]
    cases Nat.beq n 0 with
    | true => rfl
    | false =>
      rw [cd_false, cd_false]
      cases Nat.beq (Nat.mod n 2) 1 with
      | true => rw [cd_true, cd_true, ihl, ihl (Nat.div n 2) v (fun t => id (Tr.nd t x r))]; rfl
      | false => rw [cd_false, cd_false, ihr, ihr (Nat.pred (Nat.div n 2)) v (fun t => id (Tr.nd l x t))]; rfl
theorem Tr.get_put {α : Type} (t : Tr α) (n : Nat) (v : α) (m : Nat) : (t.put n v).get m = if m = n then some v else t.get m := by
  obtain ⟨t', h1, h2⟩ := Tr.set_get (β := Tr α) t n v
  unfold Tr.put
  rw [h1]
  exact h2 m
theorem Tr.get_put_self {α : Type} (t : Tr α) (n : Nat) (v : α) : (t.put n v).get n = some v := by rw [Tr.get_put, if_pos rfl]
theorem Tr.get_put_ne {α : Type} (t : Tr α) {n m : Nat} (v : α) (h : m ≠ n) : (t.put n v).get m = t.get m := by rw [Tr.get_put, if_neg h]
/-- Cells in a row. -/
noncomputable def wrT : List V → Nat → Tr V → Tr V
  | [], _, c => c
  | v :: r, o, c => wrT r (o + 1) (c.put o v)
theorem wrL_eq {β : Type} (l : List V) : ∀ (o : Nat) (c : Tr V) (k : Tr V → β), wrL l o c k = k (wrT l o c) := by
  induction l with
  | nil => intro o c k; rfl
  | cons v r ih =>
    intro o c k
    show c.set o v (fun c => sN (Nat.succ o) fun o => wrL r o c k) = _
    rw [Tr.set_put, sN_eq, ih]
    rfl
theorem wrT_get (l : List V) : ∀ (o : Nat) (c : Tr V) (m : Nat), (wrT l o c).get m = if o ≤ m ∧ m < o + l.length then l[m - o]? else c.get m := by
  induction l with
  | nil => intro o c m; rw [if_neg (by simp)]; rfl
  | cons v r ih =>
    intro o c m
    show (wrT r (o + 1) (c.put o v)).get m = _
    rw [ih, Tr.get_put]
    simp only [List.length_cons]
    by_cases h : m = o
    · subst h
      rw [if_neg (by omega), if_pos rfl, if_pos (by omega)]
      simp
    · by_cases h2 : o + 1 ≤ m ∧ m < o + 1 + r.length
      · rw [if_pos h2, if_pos (by omega)]
        obtain ⟨j, hj⟩ : ∃ j, m = o + 1 + j := ⟨m - (o + 1), by omega⟩
        subst hj
        rw [show o + 1 + j - (o + 1) = j by omega, show o + 1 + j - o = j + 1 by omega]
        simp
      · rw [if_neg h2, if_neg h, if_neg (by omega)]

/-! what was found -/
theorem on_ok {α : Type} {o : Option α} {k : α → Rv} {v : V} {s : St} (h : on o .no k = .ok v s) : ∃ a, o = some a ∧ k a = .ok v s := by
  cases o with
  | none => cases h
  | some a => exact ⟨a, rfl, h⟩
theorem on_some {α β : Type} {o : Option α} {k : α → Option β} {b : β} (h : on o none k = some b) : ∃ a, o = some a ∧ k a = some b := by
  cases o with
  | none => cases h
  | some a => exact ⟨a, rfl, h⟩
theorem cd_ok {c : Bool} {x : Rv} {v : V} {s : St} (h : cd c x .no = .ok v s) : c = true ∧ x = .ok v s := by
  cases c with
  | true => exact ⟨rfl, h⟩
  | false => cases h
theorem cd_some {β : Type} {c : Bool} {x : Option β} {b : β} (h : cd c x none = some b) : c = true ∧ x = some b := by
  cases c with
  | true => exact ⟨rfl, h⟩
  | false => cases h
theorem an_true {a b : Bool} (h : an a b = true) : a = true ∧ b = true := by
  cases a with
  | true => exact ⟨rfl, h⟩
  | false => cases h
theorem onInt_ok {x : V} {k : IntKind → Int → Rv} {v : V} {s : St} (h : onInt x .no k = .ok v s) : ∃ kd i, x = .int kd i ∧ k kd i = .ok v s := by
  cases x <;> first | exact ⟨_, _, rfl, h⟩ | cases h
theorem onBool_ok {x : V} {k : Bool → Rv} {v : V} {s : St} (h : onBool x .no k = .ok v s) : ∃ b, x = .bool b ∧ k b = .ok v s := by
  cases x <;> first | exact ⟨_, rfl, h⟩ | cases h
theorem onStr_ok {x : V} {k : List Nat → Rv} {v : V} {s : St} (h : onStr x .no k = .ok v s) : ∃ b, x = .str b ∧ k b = .ok v s := by
  cases x <;> first | exact ⟨_, rfl, h⟩ | cases h
theorem onPtr_ok {x : V} {k : Pl → Rv} {v : V} {s : St} (h : onPtr x .no k = .ok v s) : ∃ p, x = .ptr (some p) ∧ k p = .ok v s := by
  cases x with
  | ptr a => cases a with
    | none => cases h
    | some p => exact ⟨p, rfl, h⟩
  | _ => cases h
theorem onAgg_ok {x : V} {k : List V → Rv} {v : V} {s : St} (h : onAgg x .no k = .ok v s) : ∃ b, x = .agg b ∧ k b = .ok v s := by
  cases x <;> first | exact ⟨_, rfl, h⟩ | cases h
theorem onTup_ok {x : V} {k : List V → Rv} {v : V} {s : St} (h : onTup x .no k = .ok v s) : ∃ b, x = .tup b ∧ k b = .ok v s := by
  cases x <;> first | exact ⟨_, rfl, h⟩ | cases h
theorem onMp_ok {x : V} {k : Option Nat → Rv} {v : V} {s : St} (h : onMp x .no k = .ok v s) : ∃ b, x = .mp b ∧ k b = .ok v s := by
  cases x <;> first | exact ⟨_, rfl, h⟩ | cases h
theorem onOwn_ok {x : Pl} {k : Nat → Nat → Nat → Rv} {v : V} {s : St} (h : onOwn x .no k = .ok v s) : ∃ b g o, x = .own b g o ∧ k b g o = .ok v s := by
  cases x <;> first | exact ⟨_, _, _, rfl, h⟩ | cases h
theorem onRow_ok {x : Ob} {k : TypeId → Nat → Nat → Nat → Tr V → Rv} {v : V} {s : St} (h : onRow x .no k = .ok v s) : ∃ t n g z c, x = .row t n g z c ∧ k t n g z c = .ok v s := by
  cases x <;> first | exact ⟨_, _, _, _, _, rfl, h⟩ | cases h
theorem onNat_ok {x : V} {k : Nat → Rv} {v : V} {s : St} (h : onNat x .no k = .ok v s) : ∃ kd n, x = .int kd (.ofNat n) ∧ k n = .ok v s := by
  obtain ⟨kd, i, rfl, h⟩ := onInt_ok h
  cases i with
  | ofNat n => exact ⟨kd, n, rfl, h⟩
  | negSucc n => cases h
theorem onSl_ok {x : V} {k : Pl → Nat → Rv} {v : V} {s : St} (h : onSl x .no k = .ok v s) : ∃ p n, ((∃ c, x = .sl (some p) n c) ∨ ∃ w, x = .sg p n w) ∧ k p n = .ok v s := by
  cases x with
  | sl a n c => cases a with
    | none => cases h
    | some p => exact ⟨p, n, .inl ⟨c, rfl⟩, h⟩
  | sg p n w => exact ⟨p, n, .inr ⟨w, rfl⟩, h⟩
  | _ => cases h
theorem natI_some {x : V} {n : Nat} (h : natI x = some n) : ∃ k, x = .int k (.ofNat n) := by
  cases x with
  | int k i => cases i with
    | ofNat m => injection h with h; subst h; exact ⟨k, rfl⟩
    | negSucc m => cases h
  | _ => cases h
end Go.RI
namespace Go.RI
open Go Go.RowKit

/-- Where things lie: of a thing at a time its block, its place there, how many cells the block has. -/
abbrev Loc := Nat → Nat → Option (Nat × Nat × Nat)
def Loc.le (L L' : Loc) : Prop := ∀ b g x, L b g = some x → L' b g = some x
theorem Loc.le_refl (L : Loc) : L.le L := fun _ _ _ h => h
theorem Loc.le_trans {L M N : Loc} (h : L.le M) (k : M.le N) : L.le N := fun b g x e => k b g x (h b g x e)
def Loc.put (L : Loc) (b g : Nat) (x : Nat × Nat × Nat) : Loc := fun b' g' => if b' = b ∧ g' = g then some x else L b' g'
theorem Loc.le_put {L : Loc} {b g : Nat} (h : L b g = none) (x : Nat × Nat × Nat) : L.le (L.put b g x) := fun b' g' y e => by
  unfold Loc.put
  rw [if_neg (fun hh => by rw [hh.1, hh.2, h] at e; cases e)]
  exact e
theorem Loc.put_self (L : Loc) (b g : Nat) (x : Nat × Nat × Nat) : L.put b g x b g = some x := if_pos ⟨rfl, rfl⟩
theorem Loc.put_ne {L : Loc} {b g b' g' : Nat} {x : Nat × Nat × Nat} (h : ¬ (b' = b ∧ g' = g)) : L.put b g x b' g' = L b' g' := if_neg h

inductive RA (L : Loc) : Pl → Addr → Prop
  | own {b g o B base sz : Nat} : L b g = some (B, base, sz) → RA L (.own b g o) ⟨B, base + o, none⟩
  | var (b o : Nat) : RA L (.var b o) ⟨b, o, none⟩
theorem RA.mono {L L' : Loc} (hl : L.le L') {p : Pl} {a : Addr} (h : RA L p a) : RA L' p a := by
  cases h with
  | own h => exact .own (hl _ _ _ h)
  | var => exact .var _ _
/-- What symbols stand for; which things may not be laid meanwhile. -/
structure Env where
  un : Nat → Value
  res : Nat → Prop
instance : CoeFun Env (fun _ => Nat → Value) := ⟨Env.un⟩
mutual
/-- What a value stands for. -/
inductive RV (ρ : Env) (L : Loc) : V → Value → Prop
  | bool (b : Bool) : RV ρ L (.bool b) (.bool b)
  | int (k : IntKind) (n : Int) : RV ρ L (.int k n) (.int k n)
  | str (s : ByteArray) : RV ρ L (.str (s.data.toList.map UInt8.toNat)) (.string s)
  | ptr0 : RV ρ L (.ptr none) (.pointer none)
  | ptr {p : Pl} {a : Addr} : RA L p a → RV ρ L (.ptr (some p)) (.pointer (some a))
  | sl0 : RV ρ L (.sl none 0 0) (.slice none 0 0)
  | sl {p : Pl} {a : Addr} {n c : Nat} : RA L p a → n ≤ c → RV ρ L (.sl (some p) n c) (.slice (some a) n c)
  | sg {b g o n w B base sz c : Nat} : L b g = some (B, base, sz) → n ≤ c → base + o + c * w ≤ sz → RV ρ L (.sg (.own b g o) n w) (.slice (some ⟨B, base + o, none⟩) n c)
  | mp0 : RV ρ L (.mp none) (.map none)
  | mp {r R : Nat} : L r 0 = some (R, 0, 0) → RV ρ L (.mp (some r)) (.map (some R))
  | ch0 : RV ρ L (.ch none) (.chan none)
  | ch {r R : Nat} : L r 0 = some (R, 0, 0) → RV ρ L (.ch (some r)) (.chan (some R))
  | fn {f : Fn} {a b : List V} {x y : List Value} : RVs ρ L a x → RVs ρ L b y → RV ρ L (.fn f a b) (.func f x.toArray y.toArray)
  | nilF : RV ρ L .nilF .nilFunc
  | ifc {t : TypeId} {v : V} {x : Value} : RV ρ L v x → RV ρ L (.ifc t v) (.iface t x)
  | nilI : RV ρ L .nilI .nilIface
  | agg {l : List V} {x : List Value} : RVs ρ L l x → RV ρ L (.agg l) (.agg x.toArray)
  | tup {l : List V} {x : List Value} : RVs ρ L l x → RV ρ L (.tup l) (.tuple x.toArray)
  | un (n : Nat) : RV ρ L (.un n) (ρ n)
inductive RVs (ρ : Env) (L : Loc) : List V → List Value → Prop
  | nil : RVs ρ L [] []
  | cons {v : V} {x : Value} {l : List V} {r : List Value} : RV ρ L v x → RVs ρ L l r → RVs ρ L (v :: l) (x :: r)
end
section
variable {ρ : Env} {L L' : Loc}
mutual
theorem RV.mono (hl : L.le L') : ∀ {v : V} {x : Value}, RV ρ L v x → RV ρ L' v x
  | _, _, .bool b => .bool b
  | _, _, .int k n => .int k n
  | _, _, .str s => .str s
  | _, _, .ptr0 => .ptr0
  | _, _, .ptr h => .ptr (h.mono hl)
  | _, _, .sl0 => .sl0
  | _, _, .sl h h1 => .sl (h.mono hl) h1
  | _, _, .sg h h1 h2 => .sg (hl _ _ _ h) h1 h2
  | _, _, .mp0 => .mp0
  | _, _, .mp h => .mp (hl _ _ _ h)
  | _, _, .ch0 => .ch0
  | _, _, .ch h => .ch (hl _ _ _ h)
  | _, _, .fn h k => .fn (RVs.mono hl h) (RVs.mono hl k)
  | _, _, .nilF => .nilF
  | _, _, .ifc h => .ifc (RV.mono hl h)
  | _, _, .nilI => .nilI
  | _, _, .agg h => .agg (RVs.mono hl h)
  | _, _, .tup h => .tup (RVs.mono hl h)
  | _, _, .un n => .un n
theorem RVs.mono (hl : L.le L') : ∀ {l : List V} {x : List Value}, RVs ρ L l x → RVs ρ L' l x
  | _, _, .nil => .nil
  | _, _, .cons h k => .cons (RV.mono hl h) (RVs.mono hl k)
end
theorem RVs.length : ∀ {l : List V} {x : List Value}, RVs ρ L l x → l.length = x.length
  | _, _, .nil => rfl
  | _, _, .cons _ k => by simp [RVs.length k]
theorem RVs.get : ∀ {l : List V} {x : List Value}, RVs ρ L l x → ∀ {i : Nat} {v : V}, l[i]? = some v → ∃ u, x[i]? = some u ∧ RV ρ L v u
  | _, _, .nil, i, v, h => by simp at h
  | _, _, .cons h k, 0, v, e => by simp at e; subst e; exact ⟨_, rfl, h⟩
  | _, _, .cons h k, i + 1, v, e => by simpa using RVs.get k (by simpa using e)
theorem RVs.append : ∀ {l l' : List V} {x x' : List Value}, RVs ρ L l x → RVs ρ L l' x' → RVs ρ L (l ++ l') (x ++ x')
  | _, _, _, _, .nil, k => k
  | _, _, _, _, .cons h r, k => .cons h (RVs.append r k)
theorem RVs.take : ∀ {l : List V} {x : List Value}, RVs ρ L l x → ∀ n, RVs ρ L (l.take n) (x.take n)
  | _, _, .nil, n => by simp; exact .nil
  | _, _, .cons h r, 0 => .nil
  | _, _, .cons h r, n + 1 => .cons h (RVs.take r n)
theorem RVs.drop : ∀ {l : List V} {x : List Value}, RVs ρ L l x → ∀ n, RVs ρ L (l.drop n) (x.drop n)
  | _, _, .nil, n => by simp; exact .nil
  | _, _, .cons h r, 0 => .cons h r
  | _, _, .cons h r, n + 1 => RVs.drop r n
theorem RVs.of {l : List V} {x : List Value} (hn : l.length = x.length) (h : ∀ (i : Nat) (v : V) (u : Value), l[i]? = some v → x[i]? = some u → RV ρ L v u) : RVs ρ L l x := by
  induction l generalizing x with
  | nil => cases x with
    | nil => exact .nil
    | cons y r => simp at hn
  | cons v r ih => cases x with
    | nil => simp at hn
    | cons y s => exact .cons (h 0 v y rfl rfl) (ih (by simpa using hn) fun i v u e1 e2 => h (i + 1) v u (by simpa using e1) (by simpa using e2))
/-- Cells of a value. -/
theorem cells_one {x : Value} (h : x.oneCell' = true) : x.cells = #[x] := by cases x <;> first | rfl | cases h
theorem RV.cs (hun : ∀ n, (ρ n).oneCell' = true) {v : V} {x : Value} (h : RV ρ L v x) : RVs ρ L v.cs x.cells.toList := by
  cases h with
  | agg h => simpa [V.cs, onAgg, Value.cells] using h
  | un n => rw [cells_one (hun n)]; exact .cons (.un n) .nil
  | bool b => exact .cons (.bool b) .nil
  | int k n => exact .cons (.int k n) .nil
  | str s => exact .cons (.str s) .nil
  | ptr0 => exact .cons .ptr0 .nil
  | ptr h => exact .cons (.ptr h) .nil
  | sl0 => exact .cons .sl0 .nil
  | sl h h1 => exact .cons (.sl h h1) .nil
  | sg h h1 h2 => exact .cons (.sg h h1 h2) .nil
  | mp0 => exact .cons .mp0 .nil
  | mp h => exact .cons (.mp h) .nil
  | ch0 => exact .cons .ch0 .nil
  | ch h => exact .cons (.ch h) .nil
  | fn h k => exact .cons (.fn h k) .nil
  | nilF => exact .cons .nilF .nil
  | ifc h => exact .cons (.ifc h) .nil
  | nilI => exact .cons .nilI .nil
  | tup h => exact .cons (.tup h) .nil
end
end Go.RI
namespace Go.RI
open Go Go.RowKit

def Ob.g : Ob → Nat
  | .row _ _ g _ _ => g
  | _ => 0
inductive RMs (ρ : Env) (L : Loc) : List Me → List MapEntry → Prop
  | nil : RMs ρ L [] []
  | cons {e : Me} {x : MapEntry} {l : List Me} {r : List MapEntry} : RV ρ L e.k x.key → RV ρ L e.v x.val → e.b = x.born → RMs ρ L l r → RMs ρ L (e :: l) (x :: r)
inductive RN (L : Loc) : Option Nat → Option Nat → Prop
  | none : RN L none none
  | some {r R : Nat} : L r 0 = .some (R, 0, 0) → RN L (.some r) (.some R)
/-- What a block of ours is. -/
def RO (ρ : Env) (L : Loc) (B0 : Nat) (w : World) (b : Nat) : Ob → Prop
  | .row t n g z c => ∀ B base sz, L b g = some (B, base, sz) → B0 ≤ B ∧ base = 0 ∧ ∃ (C : Array Value) (fz : Nat × Nat), w.heap[B]? = some (.cells C t fz) ∧ C.size = sz ∧ base + n ≤ sz ∧ (z = 0 → fz = (0, 0)) ∧ (z = 1 → sz ≤ fz.1 ∨ fz.2 = 0) ∧ ∀ i v, i < n → c.get i = some v → ∃ x, C[base + i]? = some x ∧ RV ρ L v x
  | .map l c => ∀ B base sz, L b 0 = some (B, base, sz) → B0 ≤ B ∧ base = 0 ∧ ∃ es, w.heap[B]? = some (.map es c) ∧ RMs ρ L l es.toList
  | .it m since seen last => ∀ B base sz, L b 0 = some (B, base, sz) → B0 ≤ B ∧ base = 0 ∧ ∃ m', w.heap[B]? = some (.mapIter m' since seen.toArray last) ∧ RN L m m'
  | .si l p => ∀ B base sz, L b 0 = some (B, base, sz) → B0 ≤ B ∧ base = 0 ∧ ∃ s : ByteArray, w.heap[B]? = some (.stringIter s p) ∧ l = s.data.toList.map UInt8.toNat
  | .chan cap l sh x y => ∀ B base sz, L b 0 = some (B, base, sz) → B0 ≤ B ∧ base = 0 ∧ ∃ buf, w.heap[B]? = some (.chan cap buf sh x y false) ∧ RVs ρ L l buf.toList
structure Rel (ρ : Env) (w0 : World) (L : Loc) (s : St) (w : World) : Prop where
  below : Below w0.heap.size w0 w
  fresh : ∀ b g, s.nx ≤ b → L b g = none
  top : ∀ b o g, s.h.get b = some o → o.g < g → L b g = none
  res : ∀ b, ρ.res b → b < s.nx ∧ ∀ g, L b g = none
  obj : ∀ b o, s.h.get b = some o → RO ρ L w0.heap.size w b o
  inj : ∀ b b' o o' x x', b ≠ b' → s.h.get b = some o → s.h.get b' = some o' → L b o.g = some x → L b' o'.g = some x' → x.1 ≠ x'.1
structure Ctx (P : Program) (T : Tb) (ρ : Env) (w0 : World) : Prop where
  ty : ∀ t i, T.ty t = some i → P.info? t = some i
  fn : ∀ f fn, T.fn f = some fn → P.funcs[f]? = some fn
  gl : ∀ b o v, T.gl b o = some v → b < w0.heap.size ∧ ∃ x, w0.cell? ⟨b, o, none⟩ = some x ∧ ∀ L, RV ρ L v x
  un : ∀ n, (ρ n).oneCell' = true
  hd : ∀ t, T.hd t = false → P.stoodInHeld t = false
  mixed : P.follows .mixedOrders = true

section
variable {P : Program} {T : Tb} {ρ : Env} {w0 w w' : World} {L L' : Loc} {s s' : St}
theorem RMs.mono (hl : L.le L') : ∀ {l : List Me} {x : List MapEntry}, RMs ρ L l x → RMs ρ L' l x
  | _, _, .nil => .nil
  | _, _, .cons h k e r => .cons (h.mono hl) (k.mono hl) e (RMs.mono hl r)
theorem RN.mono (hl : L.le L') : ∀ {a b : Option Nat}, RN L a b → RN L' a b
  | _, _, .none => .none
  | _, _, .some h => .some (hl _ _ _ h)
/-- A block is what it was, in a greater map, wherever its cells are the same. -/
theorem RO.keep {B0 b : Nat} {o : Ob} (h : RO ρ L B0 w b o) (hl : L.le L') (hs : ∀ x, L' b o.g = some x → L b o.g = some x) (hw : ∀ x, L b o.g = some x → w'.heap[x.1]? = w.heap[x.1]?) : RO ρ L' B0 w' b o := by
  cases o with
  | row t n g z c =>
    intro B base sz e
    have e' := hs _ e
    obtain ⟨h1, h0, C, fz, h2, h3, h4, h5, h6, h7⟩ := h B base sz e'
    exact ⟨h1, h0, C, fz, (hw _ e').trans h2, h3, h4, h5, h6, fun i v hi hv => let ⟨x, a1, a2⟩ := h7 i v hi hv; ⟨x, a1, a2.mono hl⟩⟩
  | map l c =>
    intro B base sz e
    have e' := hs _ e
    obtain ⟨h1, h0, es, h2, h3⟩ := h B base sz e'
    exact ⟨h1, h0, es, (hw _ e').trans h2, h3.mono hl⟩
  | it m since seen last =>
    intro B base sz e
    have e' := hs _ e
    obtain ⟨h1, h0, m', h2, h3⟩ := h B base sz e'
    exact ⟨h1, h0, m', (hw _ e').trans h2, h3.mono hl⟩
  | si l p =>
    intro B base sz e
    have e' := hs _ e
    obtain ⟨h1, h0, m', h2, h3⟩ := h B base sz e'
    exact ⟨h1, h0, m', (hw _ e').trans h2, h3⟩
  | chan cap l sh x y =>
    intro B base sz e
    have e' := hs _ e
    obtain ⟨h1, h0, m', h2, h3⟩ := h B base sz e'
    exact ⟨h1, h0, m', (hw _ e').trans h2, h3.mono hl⟩
/-- Where a block lies there is one. -/
theorem RO.lt {B0 b : Nat} {o : Ob} (h : RO ρ L B0 w b o) {x : Nat × Nat × Nat} (e : L b o.g = some x) : x.1 < w.heap.size ∧ B0 ≤ x.1 := by
  have key : ∀ {i : Nat} {a : Obj}, w.heap[i]? = some a → i < w.heap.size := fun e => (Array.getElem?_eq_some_iff.1 e).1
  obtain ⟨B, base, sz⟩ := x
  cases o with
  | row t n g z c => obtain ⟨h1, _, C, fz, h2, _⟩ := h B base sz e; exact ⟨key h2, h1⟩
  | map l c => obtain ⟨h1, _, C, h2, _⟩ := h B base sz e; exact ⟨key h2, h1⟩
  | it m since seen last => obtain ⟨h1, _, C, h2, _⟩ := h B base sz e; exact ⟨key h2, h1⟩
  | si l p => obtain ⟨h1, _, C, h2, _⟩ := h B base sz e; exact ⟨key h2, h1⟩
  | chan cap l sh x y => obtain ⟨h1, _, C, h2, _⟩ := h B base sz e; exact ⟨key h2, h1⟩
/-- A draw. -/
theorem Rel.drew (h : Rel ρ w0 L s w) (n : Nat) : Rel ρ w0 L s { w with drawn := n } :=
  ⟨⟨h.below.os, h.below.tape, h.below.output, h.below.size, h.below.block⟩, h.fresh, h.top, h.res, fun b o hb => (h.obj b o hb).keep (L.le_refl) (fun _ e => e) (fun _ _ => rfl), h.inj⟩
/-- A thing more, of which nothing is there yet. -/
theorem Rel.more (h : Rel ρ w0 L s w) (o : Ob) : Rel ρ w0 L ⟨s.h.put s.nx o, s.nx + 1⟩ w := by
  refine ⟨h.below, fun b g hb => h.fresh b g (by simp at hb; omega), fun b o' g hb hg => ?_, fun b hb => ⟨Nat.lt_succ_of_lt (h.res b hb).1, (h.res b hb).2⟩, fun b o' hb => ?_, fun b b' o1 o2 x x' hne h1 h2 e1 e2 => ?_⟩
  · simp only [Tr.get_put] at hb
    by_cases e : b = s.nx
    · subst e
      exact h.fresh _ g (Nat.le_refl _)
    · rw [if_neg e] at hb
      exact h.top b o' g hb hg
  · simp only [Tr.get_put] at hb
    by_cases e : b = s.nx
    · subst e
      have hn : ∀ g, L s.nx g = none := fun g => h.fresh _ g (Nat.le_refl _)
      cases o' <;> · intro B base sz e; rw [hn] at e; cases e
    · rw [if_neg e] at hb
      exact h.obj b o' hb
  · simp only [Tr.get_put] at h1 h2
    have hn : ∀ g, L s.nx g = none := fun g => h.fresh _ g (Nat.le_refl _)
    by_cases e : b = s.nx
    · subst e; rw [hn] at e1; cases e1
    · by_cases e' : b' = s.nx
      · subst e'; rw [hn] at e2; cases e2
      · rw [if_neg e] at h1
        rw [if_neg e'] at h2
        exact h.inj b b' o1 o2 x x' hne h1 h2 e1 e2
/-- It is laid: a new block. -/
theorem Rel.lay (h : Rel ρ w0 L s w) {b : Nat} {o : Ob} (hb : s.h.get b = some o) (hlt : b < s.nx) (hnr : ¬ ρ.res b) (hL : L b o.g = none) (c : Obj) (sz : Nat)
    (ho : RO ρ (L.put b o.g (w.heap.size, 0, sz)) w0.heap.size (w.alloc c) b o) : Rel ρ w0 (L.put b o.g (w.heap.size, 0, sz)) s (w.alloc c) := by
  have hold : ∀ k, k < w.heap.size → (w.alloc c).heap[k]? = w.heap[k]? := fun k hk => Below.heap_alloc w c k hk
  refine ⟨h.below.alloc h.below.size c, fun b' g hb' => ?_, fun b' o' g hb' hg => ?_, fun b' hb' => ⟨(h.res b' hb').1, fun g => (Loc.put_ne (fun q => hnr (by rw [← q.1]; exact hb'))).trans ((h.res b' hb').2 g)⟩, fun b' o' hb' => ?_, fun b1 b2 o1 o2 x x' hne h1 h2 e1 e2 => ?_⟩
  · rw [Loc.put_ne (fun e => by omega)]; exact h.fresh b' g hb'
  · rw [Loc.put_ne (fun e => by
      obtain ⟨rfl, rfl⟩ := e
      rw [hb] at hb'
      injection hb' with hb'
      subst hb'
      omega)]
    exact h.top b' o' g hb' hg
  · by_cases e : b' = b
    · subst e
      rw [hb] at hb'
      injection hb' with hb'
      subst hb'
      exact ho
    · exact (h.obj b' o' hb').keep (Loc.le_put hL _) (fun x hx => by rw [Loc.put_ne (fun hh => e hh.1)] at hx; exact hx) (fun x hx => hold _ ((h.obj b' o' hb').lt hx).1)
  · by_cases c1 : b1 = b
    · subst c1
      rw [hb] at h1
      injection h1 with h1
      subst h1
      rw [Loc.put_self] at e1
      injection e1 with e1
      rw [Loc.put_ne (fun hh => hne hh.1.symm)] at e2
      have := ((h.obj b2 o2 h2).lt e2).1
      rw [← e1]
      exact fun q => by simp only at q; omega
    · rw [Loc.put_ne (fun hh => c1 hh.1)] at e1
      by_cases c2 : b2 = b
      · subst c2
        rw [hb] at h2
        injection h2 with h2
        subst h2
        rw [Loc.put_self] at e2
        injection e2 with e2
        have := ((h.obj b1 o1 h1).lt e1).1
        rw [← e2]
        exact fun q => by simp only at q; omega
      · rw [Loc.put_ne (fun hh => c2 hh.1)] at e2
        exact h.inj b1 b2 o1 o2 x x' hne h1 h2 e1 e2
theorem Rel.free (h : Rel ρ w0 L s w) : ¬ ρ.res s.nx := fun q => Nat.lt_irrefl _ (h.res _ q).1
theorem Rel.held (h : Rel ρ w0 L s w) {b g : Nat} {x : Nat × Nat × Nat} (e : L b g = some x) : ¬ ρ.res b := fun q => by have := (h.res _ q).2 g; rw [e] at this; cases this
/-- A thing is another one, at its place; the block of it alone is written. -/
theorem Rel.set (h : Rel ρ w0 L s w) {b : Nat} {o o' : Ob} (hb : s.h.get b = some o) (hg : o'.g = o.g) {w' : World} (hw : Below w0.heap.size w0 w')
    (ho : RO ρ L w0.heap.size w' b o') (hk : ∀ k, (∀ x, L b o.g = some x → k ≠ x.1) → k < w.heap.size → w'.heap[k]? = w.heap[k]?) : Rel ρ w0 L ⟨s.h.put b o', s.nx⟩ w' := by
  refine ⟨hw, h.fresh, fun b' u g hb' hg' => ?_, h.res, fun b' u hb' => ?_, fun b1 b2 o1 o2 x x' hne h1 h2 e1 e2 => ?_⟩
  · simp only [Tr.get_put] at hb'
    by_cases e : b' = b
    · subst e
      rw [if_pos rfl] at hb'
      injection hb' with hb'
      subst hb'
      exact h.top b' o g hb (by omega)
    · rw [if_neg e] at hb'
      exact h.top b' u g hb' hg'
  · simp only [Tr.get_put] at hb'
    by_cases e : b' = b
    · subst e
      rw [if_pos rfl] at hb'
      injection hb' with hb'
      subst hb'
      exact ho
    · rw [if_neg e] at hb'
      exact (h.obj b' u hb').keep (L.le_refl) (fun _ e => e) (fun x hx => hk _ (fun y hy q => h.inj b' b u o x y e hb' hb hx hy q) ((h.obj b' u hb').lt hx).1)
  · simp only [Tr.get_put] at h1 h2
    have up : ∀ {c : Nat} {u : Ob}, (if c = b then some o' else s.h.get c) = some u → ∃ u', s.h.get c = some u' ∧ u'.g = u.g := fun {c u} hu => by
      by_cases e : c = b
      · rw [if_pos e] at hu
        injection hu with hu
        subst hu
        exact ⟨o, e ▸ hb, hg.symm⟩
      · rw [if_neg e] at hu
        exact ⟨u, hu, rfl⟩
    obtain ⟨u1, k1, g1⟩ := up h1
    obtain ⟨u2, k2, g2⟩ := up h2
    exact h.inj b1 b2 u1 u2 x x' hne k1 k2 (by rw [g1]; exact e1) (by rw [g2]; exact e2)
/-- A thing at its next time: in the block that it had, or in a new one. -/
theorem Rel.turn (h : Rel ρ w0 L s w) {b : Nat} {o o' : Ob} (hb : s.h.get b = some o) (hlt : b < s.nx) (hnr : ¬ ρ.res b) (hg : o'.g = o.g + 1) {x : Nat × Nat × Nat} (hx : (∃ y, L b o.g = some y ∧ y.1 = x.1) ∨ w.heap.size ≤ x.1) {w' : World} (hw : Below w0.heap.size w0 w')
    (ho : RO ρ (L.put b (o.g + 1) x) w0.heap.size w' b o') (hk : ∀ k, k ≠ x.1 → k < w.heap.size → w'.heap[k]? = w.heap[k]?) : L.le (L.put b (o.g + 1) x) ∧ Rel ρ w0 (L.put b (o.g + 1) x) ⟨s.h.put b o', s.nx⟩ w' := by
  have hn : L b (o.g + 1) = none := h.top b o _ hb (Nat.lt_succ_self _)
  have hoth : ∀ (b' : Nat) (u : Ob) (y : Nat × Nat × Nat), b' ≠ b → s.h.get b' = some u → L b' u.g = some y → y.1 ≠ x.1 := fun b' u y hne hu hy q => by
    rcases hx with ⟨z, h1, h2⟩ | hx
    · exact h.inj b' b u o y z hne hu hb hy h1 (q.trans h2.symm)
    · have := ((h.obj b' u hu).lt hy).1
      omega
  refine ⟨Loc.le_put hn _, hw, fun b' g hb' => ?_, fun b' u g hb' hg' => ?_, fun b' hb' => ⟨(h.res b' hb').1, fun g => (Loc.put_ne (fun q => hnr (by rw [← q.1]; exact hb'))).trans ((h.res b' hb').2 g)⟩, fun b' u hb' => ?_, fun b1 b2 o1 o2 x1 x2 hne h1 h2 e1 e2 => ?_⟩
  · rw [Loc.put_ne (fun e => by have := e.1; simp only at hb'; omega)]; exact h.fresh b' g hb'
  · simp only [Tr.get_put] at hb'
    by_cases e : b' = b
    · subst e
      rw [if_pos rfl] at hb'
      injection hb' with hb'
      subst hb'
      rw [Loc.put_ne (fun e => by have := e.2; omega)]
      exact h.top b' o g hb (by omega)
    · rw [if_neg e] at hb'
      rw [Loc.put_ne (fun q => e q.1)]
      exact h.top b' u g hb' hg'
  · simp only [Tr.get_put] at hb'
    by_cases e : b' = b
    · subst e
      rw [if_pos rfl] at hb'
      injection hb' with hb'
      subst hb'
      exact ho
    · rw [if_neg e] at hb'
      exact (h.obj b' u hb').keep (Loc.le_put hn _) (fun y hy => by rw [Loc.put_ne (fun q => e q.1)] at hy; exact hy) (fun y hy => hk _ (hoth b' u y e hb' hy) ((h.obj b' u hb').lt hy).1)
  · simp only [Tr.get_put] at h1 h2
    by_cases c1 : b1 = b
    · subst c1
      rw [if_pos rfl] at h1
      injection h1 with h1
      subst h1
      rw [hg, Loc.put_self] at e1
      injection e1 with e1
      rw [if_neg (fun q => hne q.symm)] at h2
      rw [Loc.put_ne (fun q => hne q.1.symm)] at e2
      subst e1
      exact fun q => hoth b2 o2 x2 (fun q => hne q.symm) h2 e2 q.symm
    · rw [if_neg c1] at h1
      rw [Loc.put_ne (fun q => c1 q.1)] at e1
      by_cases c2 : b2 = b
      · subst c2
        rw [if_pos rfl] at h2
        injection h2 with h2
        subst h2
        rw [hg, Loc.put_self] at e2
        injection e2 with e2
        subst e2
        exact hoth b1 o1 x1 c1 h1 e1
      · rw [if_neg c2] at h2
        rw [Loc.put_ne (fun q => c2 q.1)] at e2
        exact h.inj b1 b2 o1 o2 x1 x2 hne h1 h2 e1 e2
/-- A thing is no longer anywhere. -/
theorem Rel.gone (h : Rel ρ w0 L s w) {b : Nat} {o o' : Ob} (hb : s.h.get b = some o) (hg : o'.g = o.g + 1) : Rel ρ w0 L ⟨s.h.put b o', s.nx⟩ w := by
  have hn : L b o'.g = none := h.top b o _ hb (by omega)
  refine ⟨h.below, h.fresh, fun b' u g hb' hg' => ?_, h.res, fun b' u hb' => ?_, fun b1 b2 o1 o2 x1 x2 hne h1 h2 e1 e2 => ?_⟩
  · simp only [Tr.get_put] at hb'
    by_cases e : b' = b
    · subst e
      rw [if_pos rfl] at hb'
      injection hb' with hb'
      subst hb'
      exact h.top b' o g hb (by omega)
    · rw [if_neg e] at hb'
      exact h.top b' u g hb' hg'
  · simp only [Tr.get_put] at hb'
    by_cases e : b' = b
    · subst e
      rw [if_pos rfl] at hb'
      injection hb' with hb'
      subst hb'
      cases o' <;> · intro B base sz e; have q := e.symm.trans hn; cases q
    · rw [if_neg e] at hb'
      exact h.obj b' u hb'
  · simp only [Tr.get_put] at h1 h2
    by_cases c1 : b1 = b
    · subst c1
      rw [if_pos rfl] at h1
      injection h1 with h1
      subst h1
      rw [hn] at e1
      cases e1
    · rw [if_neg c1] at h1
      by_cases c2 : b2 = b
      · subst c2
        rw [if_pos rfl] at h2
        injection h2 with h2
        subst h2
        rw [hn] at e2
        cases e2
      · rw [if_neg c2] at h2
        exact h.inj b1 b2 o1 o2 x1 x2 hne h1 h2 e1 e2
/-- Cells written in a row. -/
theorem heap_setCells (B : Nat) : ∀ (xs : List Value) (o : Nat) (w : World) (C : Array Value) (t : TypeId) (fz : Nat × Nat), w.heap[B]? = some (.cells C t fz) → o + xs.length ≤ C.size →
    ∃ C' : Array Value, (w.setCells B o xs).heap[B]? = some (.cells C' t fz) ∧ C'.size = C.size ∧ ∀ i, C'[i]? = if o ≤ i ∧ i < o + xs.length then xs[i - o]? else C[i]?
  | [], o, w, C, t, fz, h, _ => ⟨C, h, rfl, fun i => by rw [if_neg (by simp)]⟩
  | x :: r, o, w, C, t, fz, h, hle => by
    simp only [List.length_cons] at hle
    have h1 : (w.setCell ⟨B, o, none⟩ x).heap[B]? = some (.cells (C.setIfInBounds o x) t fz) := by
      have hlt := (Array.getElem?_eq_some_iff.1 h).1
      simp only [World.setCell, Array.getElem?_modify]
      simp [h]
    obtain ⟨C', a1, a2, a3⟩ := heap_setCells B r (o + 1) _ _ t fz h1 (by simp; omega)
    refine ⟨C', a1, by simpa using a2, fun i => ?_⟩
    rw [a3]
    simp only [List.length_cons]
    by_cases c : i = o
    · subst c
      rw [if_neg (by omega), if_pos (by omega)]
      simp [show i < C.size by omega]
    · by_cases d : o + 1 ≤ i ∧ i < o + 1 + r.length
      · rw [if_pos d, if_pos (by omega)]
        obtain ⟨j, rfl⟩ : ∃ j, i = o + 1 + j := ⟨i - (o + 1), by omega⟩
        rw [show o + 1 + j - (o + 1) = j by omega, show o + 1 + j - o = j + 1 by omega]
        simp
      · rw [if_neg d, if_neg (by omega), Array.getElem?_setIfInBounds_ne (by omega)]
theorem heap_setCells_ne (B : Nat) : ∀ (xs : List Value) (o : Nat) (w : World) (k : Nat), k ≠ B → (w.setCells B o xs).heap[k]? = w.heap[k]?
  | [], _, _, _, _ => rfl
  | x :: r, o, w, k, h => by rw [World.setCells, heap_setCells_ne B r _ _ k h]; exact Below.heap_setCell w _ x k h
theorem below_setCells {B0 B : Nat} (hB : B0 ≤ B) : ∀ (xs : List Value) (o : Nat) {a w : World}, Below B0 a w → Below B0 a (w.setCells B o xs)
  | [], _, _, _, h => h
  | x :: r, o, a, w, h => below_setCells hB r (o + 1) (h.setCell (p := ⟨B, o, none⟩) hB x)
theorem add_own (B o j : Nat) : (⟨B, o, none⟩ : Addr).add j = ⟨B, o + j, none⟩ := by unfold Addr.add; split <;> simp_all

/-! memory -/
theorem Rel.row (h : Rel ρ w0 L s w) {b g n z : Nat} {t : TypeId} {c : Tr V} (hb : s.h.get b = some (.row t n g z c)) {B base sz : Nat} (e : L b g = some (B, base, sz)) :
    w0.heap.size ≤ B ∧ base = 0 ∧ ∃ (C : Array Value) (fz : Nat × Nat), w.heap[B]? = some (.cells C t fz) ∧ C.size = sz ∧ base + n ≤ sz ∧ (z = 0 → fz = (0, 0)) ∧ (z = 1 → sz ≤ fz.1 ∨ fz.2 = 0) ∧ ∀ i v, i < n → c.get i = some v → ∃ x, C[base + i]? = some x ∧ RV ρ L v x := h.obj b _ hb B base sz e
theorem rdN_spec {c : Tr V} : ∀ {n o : Nat} {l : List V}, rdN c n o = some l → l.length = n ∧ ∀ i, i < n → c.get (o + i) = l[i]?
  | 0, o, l, h => by
    have : l = [] := by
      have h' : some [] = some l := h
      injection h' with h'; exact h'.symm
    subst this
    exact ⟨rfl, fun i hi => by omega⟩
  | n + 1, o, l, h => by
    have h' : on (c.get o) none (fun v => on (rdN c n (Nat.succ o)) none fun r => some (v :: r)) = some l := h
    obtain ⟨v, hv, h'⟩ := on_some h'
    obtain ⟨r, hr, h'⟩ := on_some h'
    injection h' with h'
    subst h'
    obtain ⟨a1, a2⟩ := rdN_spec hr
    refine ⟨by simp [a1], fun i hi => ?_⟩
    cases i with
    | zero => simpa using hv
    | succ i =>
      have := a2 i (by omega)
      rw [show o + (i + 1) = Nat.succ o + i by omega, this]
      simp
theorem rdG_spec {b : Nat} : ∀ {n o : Nat} {l : List V}, rdG T b n o = some l → l.length = n ∧ ∀ i, i < n → T.gl b (o + i) = l[i]?
  | 0, o, l, h => by
    have : l = [] := by
      have h' : some [] = some l := h
      injection h' with h'; exact h'.symm
    subst this
    exact ⟨rfl, fun i hi => by omega⟩
  | n + 1, o, l, h => by
    have h' : on (T.gl b o) none (fun v => on (rdG T b n (Nat.succ o)) none fun r => some (v :: r)) = some l := h
    obtain ⟨v, hv, h'⟩ := on_some h'
    obtain ⟨r, hr, h'⟩ := on_some h'
    injection h' with h'
    subst h'
    obtain ⟨a1, a2⟩ := rdG_spec hr
    refine ⟨by simp [a1], fun i hi => ?_⟩
    cases i with
    | zero => simpa using hv
    | succ i =>
      have := a2 i (by omega)
      rw [show o + (i + 1) = Nat.succ o + i by omega, this]
      simp
theorem row_some {β : Type} {s : St} {b g o n : Nat} {k : Tr V → Option β} {x : β} (h : row s b g o n none k = some x) : ∃ t z fz c, s.h.get b = some (.row t z g fz c) ∧ o + n ≤ z ∧ k c = some x := by
  unfold row at h
  obtain ⟨ob, hb, h⟩ := on_some h
  cases ob with
  | row t z g' fz c =>
    have h : cd (an (Nat.beq g g') (Nat.ble (Nat.add o n) z)) (k c) none = some x := h
    obtain ⟨h1, h3⟩ := cd_some h
    obtain ⟨h1, h2⟩ := an_true h1
    have := beq_iff.1 h1
    subst this
    exact ⟨t, z, fz, c, hb, Nat.le_of_ble_eq_true h2, h3⟩
  | _ => cases h
theorem list_ex {α β : Type} {n : Nat} {p : Nat → α → β → Prop} {l : List α} (hl : l.length = n) (h : ∀ i v, l[i]? = some v → ∃ x, p i v x) : ∃ xs : List β, xs.length = n ∧ ∀ i v x, l[i]? = some v → xs[i]? = some x → p i v x := by
  induction l generalizing n p with
  | nil => exact ⟨[], hl, fun i v x e => by simp at e⟩
  | cons a r ih =>
    obtain ⟨x, hx⟩ := h 0 a rfl
    obtain ⟨xs, h1, h2⟩ := ih (n := r.length) (p := fun i v x => p (i + 1) v x) rfl (fun i v e => h (i + 1) v (by simpa using e))
    refine ⟨x :: xs, by simp [h1, ← hl], fun i v y e1 e2 => ?_⟩
    cases i with
    | zero => simp at e1 e2; subst e1 e2; exact hx
    | succ i => exact h2 i v y (by simpa using e1) (by simpa using e2)
theorem Ctx.glob (hc : Ctx P T ρ w0) (h : Rel ρ w0 L s w) {b o : Nat} {v : V} (e : T.gl b o = some v) : ∃ x, w.cell? ⟨b, o, none⟩ = some x ∧ RV ρ L v x := by
  obtain ⟨h1, x, h2, h3⟩ := hc.gl b o v e
  exact ⟨x, (h.below.cell (p := ⟨b, o, none⟩) h1).trans h2, h3 L⟩
theorem cell_of {B o : Nat} {C : Array Value} {t : TypeId} {fz : Nat × Nat} {x : Value} (h : w.heap[B]? = some (.cells C t fz)) (e : C[o]? = some x) : w.cell? ⟨B, o, none⟩ = some x := by
  simp [World.cell?, h, e]
theorem rd_spec (hc : Ctx P T ρ w0) (h : Rel ρ w0 L s w) {p : Pl} {a : Addr} (ha : RA L p a) {n : Nat} {l : List V} (e : rd T s p n = some l) :
    ∃ xs, RVs ρ L l xs ∧ xs.length = n ∧ l.length = n ∧ ∀ j u, xs[j]? = some u → w.cell? (a.add j) = some u := by
  cases ha with
  | var b o =>
    obtain ⟨h1, h2⟩ := rdG_spec (show rdG T b n o = some l from e)
    obtain ⟨xs, k1, k2⟩ := list_ex (p := fun i v x => w.cell? ⟨b, o + i, none⟩ = some x ∧ RV ρ L v x) h1 (fun i v hv => hc.glob h (by rw [h2 i (by have := (List.getElem?_eq_some_iff.1 hv).1; omega)]; exact hv))
    refine ⟨xs, RVs.of (by rw [h1, k1]) (fun i v u e1 e2 => (k2 i v u e1 e2).2), k1, h1, fun j u hu => ?_⟩
    have hj := (List.getElem?_eq_some_iff.1 hu).1
    rw [add_own]
    exact (k2 j l[j] u (List.getElem?_eq_getElem (by omega)) hu).1
  | @own b g o B base sz hL =>
    obtain ⟨t, z, fz, c, hb, hle, hr⟩ := row_some (show row s b g o n none (fun c => rdN c n o) = some l from e)
    obtain ⟨h1, h2⟩ := rdN_spec hr
    obtain ⟨-, -, C, fz', a1, a2, a3, -, -, a4⟩ := h.row hb hL
    obtain ⟨xs, k1, k2⟩ := list_ex (p := fun i v x => C[base + (o + i)]? = some x ∧ RV ρ L v x) h1 (fun i v hv => by
      have hi := (List.getElem?_eq_some_iff.1 hv).1
      exact a4 (o + i) v (by omega) (by rw [h2 i (by omega)]; exact hv))
    refine ⟨xs, RVs.of (by rw [h1, k1]) (fun i v u e1 e2 => (k2 i v u e1 e2).2), k1, h1, fun j u hu => ?_⟩
    have hj := (List.getElem?_eq_some_iff.1 hu).1
    rw [add_own, Nat.add_assoc]
    exact cell_of a1 (k2 j l[j] u (List.getElem?_eq_getElem (by omega)) hu).1
theorem rd1_spec (hc : Ctx P T ρ w0) (h : Rel ρ w0 L s w) {p : Pl} {a : Addr} (ha : RA L p a) {v : V} (e : rd1 T s p = some v) : ∃ x, RV ρ L v x ∧ w.cell? a = some x := by
  cases ha with
  | var b o =>
    obtain ⟨x, h1, h2⟩ := hc.glob h (show T.gl b o = some v from e)
    exact ⟨x, h2, h1⟩
  | @own b g o B base sz hL =>
    obtain ⟨t, z, fz, c, hb, hle, hr⟩ := row_some (show row s b g o 1 none (fun c => c.get o) = some v from e)
    obtain ⟨-, -, C, fz', a1, a2, a3, -, -, a4⟩ := h.row hb hL
    obtain ⟨x, k1, k2⟩ := a4 o v (by omega) hr
    exact ⟨x, k2, cell_of a1 k1⟩
theorem all1_spec : ∀ {l : List V}, all1 l = true → ∀ v ∈ l, one1 v = true
  | [], _, v, h => by cases h
  | u :: r, h, v, hv => by
    have h : an (one1 u) (all1 r) = true := h
    obtain ⟨h1, h2⟩ := an_true h
    rcases List.mem_cons.1 hv with rfl | hv
    · exact h1
    · exact all1_spec h2 v hv
theorem one1_spec (hc : Ctx P T ρ w0) {v : V} {x : Value} (h : RV ρ L v x) (e : one1 v = true) : x.oneCell' = true := by
  cases h <;> first | rfl | (cases e; done) | exact hc.un _
theorem RVs.ones (hc : Ctx P T ρ w0) : ∀ {l : List V} {xs : List Value}, RVs ρ L l xs → all1 l = true → ∀ x ∈ xs, x.oneCell' = true
  | _, _, .nil, _, x, h => by cases h
  | _, _, .cons (v := v) (l := l) h r, e, x, hx => by
    have e : an (one1 v) (all1 l) = true := e
    obtain ⟨e1, e2⟩ := an_true e
    rcases List.mem_cons.1 hx with rfl | hx
    · exact one1_spec hc h e1
    · exact RVs.ones hc r e2 x hx
theorem wr_spec (hc : Ctx P T ρ w0) (h : Rel ρ w0 L s w) {p : Pl} {a : Addr} (ha : RA L p a) {l : List V} {xs : List Value} (hl : RVs ρ L l xs) {v : V} (e : wr s p l = .ok v s') :
    v = .tup [] ∧ ∃ w', (storeCells a xs).run P w = .ok () w' ∧ Rel ρ w0 L s' w' := by
  unfold wr at e
  obtain ⟨b, g, o, rfl, e⟩ := onOwn_ok e
  obtain ⟨ob, hb, e⟩ := on_ok e
  obtain ⟨t, z, g', fz, c, rfl, e⟩ := onRow_ok e
  obtain ⟨e1, e⟩ := cd_ok e
  obtain ⟨e1, e2⟩ := an_true e1
  obtain ⟨e0, e4⟩ := an_true e1
  obtain ⟨e2, e3⟩ := an_true e2
  have hg := beq_iff.1 e0
  subst hg
  rw [len_eq] at e4
  have hle : o + l.length ≤ z := Nat.le_of_ble_eq_true e4
  have hfz : fz < 2 := Nat.blt_eq.mp e2
  rw [wrL_eq, Tr.set_put] at e
  injection e with ev es
  cases ha with
  | @own _ _ _ B base sz hL =>
    obtain ⟨hB, hb0, C, f, a1, a2, a3, a4, a5, a6⟩ := h.row hb hL
    have hn := hl.length
    refine ⟨ev.symm, w.setCells B (base + o) xs, ?_, ?_⟩
    · have := run_storeCells_cells (P := P) B (base + o) xs 0 w (fun j hj => by
        have : base + o + j < C.size := by omega
        simp [World.cell?, a1, this]) (fun j hj => by
        simp only [World.frozen?, a1]
        have h2 : fz = 0 ∨ fz = 1 := by omega
        rcases h2 with h2 | h2
        · rw [a4 h2]; simp
        · have := a5 h2
          simp only [Bool.and_eq_false_iff, decide_eq_false_iff_not]
          omega) (hl.ones hc e3)
      simpa using this
    · rw [← es]
      obtain ⟨C', b1, b2, b3⟩ := heap_setCells B xs (base + o) w C t f a1 (by omega)
      refine h.set (o' := .row t z g fz (wrT l o c)) hb rfl (below_setCells hB xs (base + o) h.below) ?_ (fun k hk _ => heap_setCells_ne B xs _ w k (hk _ hL))
      intro B' base' sz' e'
      have e' : L b g = some (B', base', sz') := e'
      rw [hL] at e'
      injection e' with e'
      injection e' with e1' e2'
      injection e2' with e2' e3'
      subst e1' e2' e3'
      refine ⟨hB, hb0, C', f, b1, by omega, a3, a4, a5, fun i v hi hv => ?_⟩
      rw [wrT_get] at hv
      rw [b3]
      by_cases hin : o ≤ i ∧ i < o + l.length
      · rw [if_pos hin] at hv
        obtain ⟨u, k1, k2⟩ := hl.get hv
        exact ⟨u, by rw [if_pos (by omega), show base + i - (base + o) = i - o by omega]; exact k1, k2⟩
      · rw [if_neg hin] at hv
        obtain ⟨x, k1, k2⟩ := a6 i v hi hv
        exact ⟨x, by rw [if_neg (by omega)]; exact k1, k2⟩
end
end Go.RI
namespace Go.RI
open Go Go.RowKit
section
variable {P : Program} {T : Tb} {ρ : Env} {w0 w : World} {L : Loc} {s s' : St} {m : Fm} {v : V}

theorem und_spec (hc : Ctx P T ρ w0) {t : TypeId} {d : TypeDesc} (h : und T t = some d) : P.underlying t = some d := by
  unfold und at h
  cases hi : T.ty t with
  | none => rw [hi] at h; cases h
  | some i =>
    rw [hi] at h
    have hp := hc.ty t i hi
    unfold Program.underlying
    rw [hp]
    obtain ⟨desc, str, size, bytes, hp, al, fa, z, c, ms⟩ := i
    cases desc <;> simp only at h ⊢ <;> try exact h
    rename_i u
    cases hj : T.ty u with
    | none => rw [hj] at h; cases h
    | some j =>
      rw [hj] at h
      rw [hc.ty u j hj]
      exact h
theorem siz_spec (hc : Ctx P T ρ w0) {t : TypeId} {n : Nat} (h : siz T t = some n) : ∃ i, P.info? t = some i ∧ i.size = n := by
  obtain ⟨i, hi, h⟩ := on_some h
  injection h with h
  exact ⟨i, hc.ty t i hi, h⟩
theorem run_size (hc : Ctx P T ρ w0) {t : TypeId} {n : Nat} (h : siz T t = some n) (w : World) : (sizeOf t).run P w = .ok n w := by
  obtain ⟨i, hi, rfl⟩ := siz_spec hc h
  simp [sizeOf, typeInfo, hi]
theorem isAg_spec (hc : Ctx P T ρ w0) {t : TypeId} {b : Bool} (h : isAg T t = some b) (w : World) : (isAgg t).run P w = .ok b w := by
  unfold isAg at h
  cases hu : und T t with
  | none => rw [hu] at h; cases h
  | some d =>
    rw [hu] at h
    have hp := und_spec hc hu
    unfold isAgg
    simp only [Sem.run_bind, run_underlying hp, Result.andThen_ok]
    cases d <;> simp only [Option.some.injEq] at h <;> subst h <;> rfl
theorem bytes_eq (s : ByteArray) : s.data.toList.map UInt8.toNat = s.data.toList.map UInt8.toNat := rfl
mutual
theorem toV_spec : ∀ {n : Nat} {x : Value} {v : V}, toV n x = some v → ∀ {L : Loc}, RV ρ L v x
  | 0, _, _, h, _ => by cases h
  | n + 1, .bool b, _, h, _ => by injection h with h; subst h; exact .bool b
  | n + 1, .int k i, _, h, _ => by injection h with h; subst h; exact .int k i
  | n + 1, .float k i, _, h, _ => by cases h
  | n + 1, .complex k i j, _, h, _ => by cases h
  | n + 1, .string s, _, h, _ => by injection h with h; subst h; exact .str s
  | n + 1, .pointer none, _, h, _ => by injection h with h; subst h; exact .ptr0
  | n + 1, .pointer (some a), _, h, _ => by cases h
  | n + 1, .slice none 0 0, _, h, _ => by injection h with h; subst h; exact .sl0
  | n + 1, .slice none 0 (_ + 1), _, h, _ => by cases h
  | n + 1, .slice none (_ + 1) _, _, h, _ => by cases h
  | n + 1, .slice (some a) _ _, _, h, _ => by cases h
  | n + 1, .map none, _, h, _ => by injection h with h; subst h; exact .mp0
  | n + 1, .map (some a), _, h, _ => by cases h
  | n + 1, .chan none, _, h, _ => by injection h with h; subst h; exact .ch0
  | n + 1, .chan (some a), _, h, _ => by cases h
  | n + 1, .func f a b, v, h, L => by
    have h : (match toVs (toV n) a.toList, toVs (toV n) b.toList with
      | some a, some b => some (V.fn f a b)
      | _, _ => none) = some v := h
    cases ha : toVs (toV n) a.toList with
    | none => rw [ha] at h; cases h
    | some x =>
      cases hb : toVs (toV n) b.toList with
      | none => rw [ha, hb] at h; cases h
      | some y =>
        rw [ha, hb] at h
        injection h with h
        subst h
        have := RV.fn (f := f) (toVs_spec (L := L) ha) (toVs_spec (L := L) hb)
        simpa using this
  | n + 1, .nilFunc, _, h, _ => by injection h with h; subst h; exact .nilF
  | n + 1, .iface t x, v, h, L => by
    have h : (match toV n x with
      | some v => some (V.ifc t v)
      | none => none) = some v := h
    cases ha : toV n x with
    | none => rw [ha] at h; cases h
    | some y =>
      rw [ha] at h
      injection h with h
      subst h
      exact .ifc (toV_spec ha)
  | n + 1, .nilIface, _, h, _ => by injection h with h; subst h; exact .nilI
  | n + 1, .agg c, v, h, L => by
    have h : (match toVs (toV n) c.toList with
      | some l => some (V.agg l)
      | none => none) = some v := h
    cases ha : toVs (toV n) c.toList with
    | none => rw [ha] at h; cases h
    | some x =>
      rw [ha] at h
      injection h with h
      subst h
      have := RV.agg (toVs_spec (L := L) ha)
      simpa using this
  | n + 1, .tuple c, v, h, L => by
    have h : (match toVs (toV n) c.toList with
      | some l => some (V.tup l)
      | none => none) = some v := h
    cases ha : toVs (toV n) c.toList with
    | none => rw [ha] at h; cases h
    | some x =>
      rw [ha] at h
      injection h with h
      subst h
      have := RV.tup (toVs_spec (L := L) ha)
      simpa using this
theorem toVs_spec : ∀ {n : Nat} {x : List Value} {l : List V}, toVs (toV n) x = some l → ∀ {L : Loc}, RVs ρ L l x
  | n, [], _, h, _ => by injection h with h; subst h; exact .nil
  | n, x :: r, l, h, L => by
    have h : (match toV n x with
      | none => none
      | some v => match toVs (toV n) r with
        | none => none
        | some l => some (v :: l)) = some l := h
    cases ha : toV n x with
    | none => rw [ha] at h; cases h
    | some y =>
      cases hb : toVs (toV n) r with
      | none => rw [ha, hb] at h; cases h
      | some z =>
        rw [ha, hb] at h
        injection h with h
        subst h
        exact .cons (toV_spec ha) (toVs_spec hb)
end
theorem zer_spec (hc : Ctx P T ρ w0) {t : TypeId} {v : V} (h : zer T t = some v) : ∃ i z, P.info? t = some i ∧ i.zero = some z ∧ T.ty t = some i ∧ (∀ L, RV ρ L v z) ∧ ∀ w, (zeroValue t).run P w = .ok z w := by
  obtain ⟨i, hi, h⟩ := on_some h
  obtain ⟨z, hz, h⟩ := on_some h
  refine ⟨i, z, hc.ty t i hi, hz, hi, fun L => toV_spec h, fun w => ?_⟩
  simp [zeroValue, typeInfo, hc.ty t i hi, hz]

/-- What is known of operands. -/
def Opd (ρ : Env) (L : Loc) (m : Fm) (r : Operand → Value) (xs : Array Operand) : Prop := ∀ x ∈ xs, ∀ u, ev m x = some u → RV ρ L u (r x)
/-- An operation's run. -/
def Ran (P : Program) (r : Operand → Value) (o : Oper) (w : World) (x : Value) (w' : World) : Prop := (execOp r o).run P w = .ok (.value x) w' ∨ (x = undef ∧ (execOp r o).run P w = .ok .skip w')
/-- What an operation comes to. -/
def Good (P : Program) (ρ : Env) (w0 : World) (L : Loc) (r : Operand → Value) (o : Oper) (w : World) (v : V) (s' : St) : Prop := ∃ x w' L', L.le L' ∧ Rel ρ w0 L' s' w' ∧ RV ρ L' v x ∧ Ran P r o w x w'
/-- A new thing alone. -/
def Alloc (P : Program) (ρ : Env) (w0 : World) (L : Loc) (r : Operand → Value) (o : Oper) (w : World) (ob : Ob) (vf : Nat → V) : Prop :=
  ∃ (co : Obj) (xf : Nat → Value) (sz : Nat), (execOp r o).run P w = .ok (.value (xf w.heap.size)) (w.alloc co) ∧ ∀ b, L b 0 = none → w0.heap.size ≤ w.heap.size → RO ρ (L.put b 0 (w.heap.size, 0, sz)) w0.heap.size (w.alloc co) b ob ∧ RV ρ (L.put b 0 (w.heap.size, 0, sz)) (vf b) (xf w.heap.size)
theorem Good.read {r : Operand → Value} {o : Oper} {x : Value} (h : Rel ρ w0 L s w) (hv : RV ρ L v x) (hr : (execOp r o).run P w = .ok (.value x) w) : Good P ρ w0 L r o w v s := ⟨x, w, L, L.le_refl, h, hv, .inl hr⟩
theorem Good.alloc {r : Operand → Value} {o : Oper} {ob : Ob} {vf : Nat → V} (h : Rel ρ w0 L s w) (hg : ob.g = 0) (ha : Alloc P ρ w0 L r o w ob vf) : Good P ρ w0 L r o w (vf s.nx) ⟨s.h.put s.nx ob, s.nx + 1⟩ := by
  obtain ⟨co, xf, sz, h1, h2⟩ := ha
  have hn : L s.nx 0 = none := h.fresh _ 0 (Nat.le_refl _)
  obtain ⟨h3, h4⟩ := h2 s.nx hn h.below.size
  have h5 := (h.more ob).lay (b := s.nx) (o := ob) (Tr.get_put_self _ _ _) (by simp) h.free (by rw [hg]; exact hn) co sz (by rw [hg]; exact h3)
  rw [hg] at h5
  exact ⟨_, _, _, Loc.le_put hn _, h5, h4, .inl h1⟩
/-- A new row of cells: what is known of it, and perhaps more behind that. -/
theorem Alloc.rowG {r : Operand → Value} {o : Oper} {l : List V} {xs ys : List Value} {t : TypeId} {fz : Nat} {vf : Nat → V} {xf : Nat → Value} (hl : RVs ρ L l xs) (hfz : fz = 0)
    (hr : (execOp r o).run P w = .ok (.value (xf w.heap.size)) (w.alloc (.cells (xs ++ ys).toArray t))) (hv : ∀ (L' : Loc) b, L.le L' → L' b 0 = some (w.heap.size, 0, (xs ++ ys).length) → RV ρ L' (vf b) (xf w.heap.size)) :
    Alloc P ρ w0 L r o w (.row t l.length 0 fz (wrT l 0 .lf)) vf := by
  refine ⟨_, xf, (xs ++ ys).length, hr, fun b hb hw => ⟨?_, hv _ b (Loc.le_put hb _) (Loc.put_self _ _ _ _)⟩⟩
  intro B base sz e
  rw [Loc.put_self] at e
  injection e with e
  injection e with e1 e2
  injection e2 with e2 e3
  subst e1 e2 e3
  have hn := hl.length
  refine ⟨hw, rfl, (xs ++ ys).toArray, (0, 0), ?_, by simp, by simp; omega, fun _ => rfl, fun h1 => (by omega), fun i v hi hv' => ?_⟩
  · show (w.heap.push _)[w.heap.size]? = _
    simp
  · rw [wrT_get, if_pos (by omega)] at hv'
    obtain ⟨u, k1, k2⟩ := hl.get hv'
    have : i < xs.length := by omega
    exact ⟨u, by simpa [List.getElem?_append_left this] using k1, k2.mono (Loc.le_put hb _)⟩
theorem Alloc.row {r : Operand → Value} {o : Oper} {l : List V} {xs : List Value} {t : TypeId} {fz : Nat} {vf : Nat → V} {xf : Nat → Value} (hl : RVs ρ L l xs) (hfz : fz = 0)
    (hr : (execOp r o).run P w = .ok (.value (xf w.heap.size)) (w.alloc (.cells xs.toArray t))) (hv : ∀ (L' : Loc) b, L.le L' → L' b 0 = some (w.heap.size, 0, xs.length) → RV ρ L' (vf b) (xf w.heap.size)) :
    Alloc P ρ w0 L r o w (.row t l.length 0 fz (wrT l 0 .lf)) vf :=
  Alloc.rowG (ys := []) hl hfz (by simpa using hr) (by simpa using hv)
theorem mk_eq (s : St) (t : TypeId) (l : List V) (fz : Nat) (k : Nat → St → Rv) : mk s t l fz k = k s.nx ⟨s.h.put s.nx (.row t l.length 0 fz (wrT l 0 .lf)), s.nx + 1⟩ := by
  unfold mk
  rw [wrL_eq, sN_eq, Tr.set_put, sN_eq, len_eq]
theorem mkO_eq (s : St) (o : Ob) (k : Nat → St → Rv) : mkO s o k = k s.nx ⟨s.h.put s.nx o, s.nx + 1⟩ := by
  unfold mkO
  rw [Tr.set_put, sN_eq]
end
end Go.RI
namespace Go.RI
open Go Go.RowKit
section
variable {P : Program} {T : Tb} {ρ : Env} {w0 w : World} {L : Loc} {s s' : St} {m : Fm} {v : V} {r : Operand → Value} {o : Oper}

theorem ok_inj {v v' : V} {s s' : St} (h : Rv.ok v s = .ok v' s') : v = v' ∧ s = s' := by injection h with a b; exact ⟨a, b⟩
theorem ldK_spec (hc : Ctx P T ρ w0) {t : TypeId} {k : Option Nat} (h : ldK T t = some k) : (∀ n, k = some n → isAg T t = some true ∧ siz T t = some n) ∧ (k = none → isAg T t = some false) := by
  unfold ldK at h
  split at h
  · injection h with h; subst h
    exact ⟨fun n e => (by injection e with e; subst e; exact ⟨(by assumption), (by assumption)⟩), fun e => (by cases e)⟩
  · injection h with h; subst h
    exact ⟨fun n e => (by cases e), fun _ => (by assumption)⟩
  · cases h
theorem ldv_spec (hc : Ctx P T ρ w0) (h : Rel ρ w0 L s w) {p : Pl} {a : Addr} (ha : RA L p a) {t : TypeId} (e : ldv T s t p = some v) : ∃ x, RV ρ L v x ∧ (loadVar t a).run P w = .ok x w := by
  obtain ⟨k, hk, e⟩ := on_some e
  obtain ⟨k1, k2⟩ := ldK_spec hc hk
  cases k with
  | none =>
    have e : rd1 T s p = some v := e
    obtain ⟨x, h1, h2⟩ := rd1_spec hc h ha e
    refine ⟨x, h1, ?_⟩
    simp [loadVar, isAg_spec hc (k2 rfl), h2]
  | some n =>
    obtain ⟨j1, j2⟩ := k1 n rfl
    have e : on (rd T s p n) none (fun l => some (V.agg l)) = some v := e
    obtain ⟨l, hl, e⟩ := on_some e
    injection e with e
    subst e
    obtain ⟨xs, h1, h2, -, h3⟩ := rd_spec hc h ha hl
    refine ⟨_, .agg h1, ?_⟩
    have := run_loadCells_list (P := P) w a xs h3
    rw [h2] at this
    simp [loadVar, isAg_spec hc j1, run_size hc j2, this]
theorem op_move {x : Operand} (ho : o.op = .move x ∨ o.op = .assign x) (h : Rel ρ w0 L s w) (hr : Opd ρ L m r o.op.operands) (e : on (ev m x) Rv.no (fun v => Rv.ok v s) = .ok v s') : Good P ρ w0 L r o w v s' := by
  obtain ⟨u, hu, e⟩ := on_ok e
  obtain ⟨rfl, rfl⟩ := ok_inj e
  refine .read h (hr x (by rcases ho with ho | ho <;> simp [ho, Op.operands]) u hu) ?_
  rcases ho with ho | ho <;> · unfold execOp; simp only [ho]; rfl
theorem op_pick {c a b : Operand} (ho : o.op = .pick c a b) (h : Rel ρ w0 L s w) (hr : Opd ρ L m r o.op.operands) (e : on (ev m c) Rv.no (pck m s a b) = .ok v s') : Good P ρ w0 L r o w v s' := by
  obtain ⟨u, hu, e⟩ := on_ok e
  obtain ⟨t, rfl, e⟩ := onBool_ok e
  have hcv := hr c (by simp [ho, Op.operands]) _ hu
  generalize hx : r c = x at hcv
  cases hcv
  cases t with
  | true =>
    obtain ⟨u, hu, e⟩ := on_ok (show on (ev m a) Rv.no (fun v => Rv.ok v s) = .ok v s' from e)
    obtain ⟨rfl, rfl⟩ := ok_inj e
    refine .read h (hr a (by simp [ho, Op.operands]) u hu) ?_
    unfold execOp; simp only [ho, hx]; rfl
  | false =>
    obtain ⟨u, hu, e⟩ := on_ok (show on (ev m b) Rv.no (fun v => Rv.ok v s) = .ok v s' from e)
    obtain ⟨rfl, rfl⟩ := ok_inj e
    refine .read h (hr b (by simp [ho, Op.operands]) u hu) ?_
    unfold execOp; simp only [ho, hx]; rfl
theorem op_load {t : TypeId} {a : Operand} (hc : Ctx P T ρ w0) (ho : o.op = .load t a) (h : Rel ρ w0 L s w) (hr : Opd ρ L m r o.op.operands) (e : on (ev m a) Rv.no (fun a => lod T t a s) = .ok v s') : Good P ρ w0 L r o w v s' := by
  obtain ⟨u, hu, e⟩ := on_ok e
  obtain ⟨p, rfl, e⟩ := onPtr_ok e
  obtain ⟨v', hv, e⟩ := on_ok e
  obtain ⟨rfl, rfl⟩ := ok_inj e
  have hcv := hr a (by simp [ho, Op.operands]) _ hu
  generalize hx : r a = x at hcv
  cases hcv with
  | ptr ha =>
    obtain ⟨x, h1, h2⟩ := ldv_spec hc h ha hv
    refine .read h h1 ?_
    unfold execOp
    simp only [ho, hx]
    simp [Instr.loadAt, Instr.sureAddr, h2]
theorem op_store {t : TypeId} {a x : Operand} (hc : Ctx P T ρ w0) (ho : o.op = .store t a x) (h : Rel ρ w0 L s w) (hr : Opd ρ L m r o.op.operands) (e : on (ev m a) Rv.no (fun a => on (ev m x) Rv.no fun v => sto T t a v s) = .ok v s') : Good P ρ w0 L r o w v s' := by
  obtain ⟨u, hu, e⟩ := on_ok e
  obtain ⟨y, hy, e⟩ := on_ok e
  unfold sto at e
  obtain ⟨n, hn, e⟩ := on_ok e
  obtain ⟨p, rfl, e⟩ := onPtr_ok e
  obtain ⟨h1, e⟩ := cd_ok e
  have hlen := beq_iff.1 h1
  have hcv := hr a (by simp [ho, Op.operands]) _ hu
  have hyv := hr x (by simp [ho, Op.operands]) _ hy
  generalize hx : r a = xa at hcv
  cases hcv with
  | ptr ha =>
    have hcs := hyv.cs hc.un
    obtain ⟨rfl, w', h2, h3⟩ := wr_spec (P := P) hc h ha hcs e
    rw [len_eq, hcs.length] at hlen
    refine ⟨undef, w', L, L.le_refl, h3, .tup .nil, .inr ⟨rfl, ?_⟩⟩
    unfold execOp
    simp only [ho, hx]
    have hsz : ¬ (r x).cells.size ≠ n := by simp at hlen; simp [hlen]
    simp [Instr.storeAt, Instr.sureAddr, storeVar, run_size hc hn, hsz, h2]
theorem op_alloc {t : TypeId} (hc : Ctx P T ρ w0) (ho : o.op = .alloc t) {z : V} (hz : zer T t = some z) : Alloc P ρ w0 L r o w (.row t z.cs.length 0 0 (wrT z.cs 0 .lf)) (fun b => .ptr (some (.own b 0 0))) := by
  obtain ⟨i, z', h1, h2, -, h3, h4⟩ := zer_spec hc hz
  refine .row ((h3 L).cs hc.un) rfl (xf := fun B => .pointer (some ⟨B, 0, none⟩)) ?_ (fun L' b hl hb => .ptr (by simpa using RA.own (o := 0) hb))
  unfold execOp
  simp only [ho]
  simp [Instr.alloc, h4, newVar, newRow, newObj]
  rfl
theorem op_box {t : TypeId} {x : Operand} (hc : Ctx P T ρ w0) (ho : o.op = .box t x) (hr : Opd ρ L m r o.op.operands) {z : V} (hz : ev m x = some z) : Alloc P ρ w0 L r o w (.row t z.cs.length 0 0 (wrT z.cs 0 .lf)) (fun b => .ptr (some (.own b 0 0))) := by
  refine .row ((hr x (by simp [ho, Op.operands]) _ hz).cs hc.un) rfl (xf := fun B => .pointer (some ⟨B, 0, none⟩)) ?_ (fun L' b hl hb => .ptr (by simpa using RA.own (o := 0) hb))
  unfold execOp
  simp only [ho]
  simp [Instr.box, newVar, newRow, newObj]
  rfl
theorem op_nil {x : Operand} (ho : o.op = .nilCheck x) (h : Rel ρ w0 L s w) (hr : Opd ρ L m r o.op.operands) (e : on (ev m x) Rv.no (fun v => nilC v s) = .ok v s') : Good P ρ w0 L r o w v s' := by
  obtain ⟨u, hu, e⟩ := on_ok e
  have hcv := hr x (by simp [ho, Op.operands]) _ hu
  have hrun : ∀ y, r x = y → (match y with | .pointer none | .nilIface | .nilFunc | .func (.method _) _ _ => False | _ => True) → (execOp r o).run P w = .ok (.value y) w := by
    intro y hy hm
    unfold execOp
    simp only [ho, hy]
    cases y with
    | pointer a => cases a with
      | none => exact hm.elim
      | some a => rfl
    | func f a b => cases f <;> first | exact hm.elim | rfl
    | nilFunc => exact hm.elim
    | nilIface => exact hm.elim
    | _ => rfl
  unfold nilC at e
  split at e
  · obtain ⟨rfl, rfl⟩ := ok_inj e
    refine .read h hcv (hrun _ rfl ?_)
    generalize r x = y at hcv
    cases hcv; trivial
  · obtain ⟨rfl, rfl⟩ := ok_inj e
    refine .read h hcv (hrun _ rfl ?_)
    generalize r x = y at hcv
    cases hcv; trivial
  · obtain ⟨rfl, rfl⟩ := ok_inj e
    refine .read h hcv (hrun _ rfl ?_)
    generalize r x = y at hcv
    cases hcv; trivial
  · cases e
theorem op_iface {t : TypeId} {x : Operand} (hc : Ctx P T ρ w0) (ho : o.op = .makeInterface t x) (hu : ∃ d, und T t = some d ∧ ∀ a, d ≠ .interface a) (h : Rel ρ w0 L s w) (hr : Opd ρ L m r o.op.operands) (e : on (ev m x) Rv.no (fun v => Rv.ok (.ifc t v) s) = .ok v s') : Good P ρ w0 L r o w v s' := by
  obtain ⟨u, hu', e⟩ := on_ok e
  obtain ⟨rfl, rfl⟩ := ok_inj e
  obtain ⟨d, hd, hni⟩ := hu
  refine .read h (.ifc (hr x (by simp [ho, Op.operands]) u hu')) ?_
  unfold execOp
  simp only [ho]
  have : (Instr.makeInterface t (r x)).run P w = .ok (.iface t (r x)) w := by
    unfold Instr.makeInterface
    simp only [Sem.run_bind, run_underlying (und_spec hc hd), Result.andThen_ok]
    cases d <;> first | rfl | exact absurd rfl (hni _)
  simp [this]
theorem evs_spec : ∀ {l : List Operand} {vs : List V}, evs m l = some vs → (∀ x ∈ l, ∀ u, ev m x = some u → RV ρ L u (r x)) → RVs ρ L vs (l.map r)
  | [], vs, h, _ => by
    have h : some [] = some vs := h
    injection h with h; subst h; exact .nil
  | x :: q, vs, h, hr => by
    obtain ⟨v, hv, h⟩ := on_some (show on (ev m x) none (fun v => on (evs m q) none fun r => some (v :: r)) = some vs from h)
    obtain ⟨t, ht, h⟩ := on_some h
    injection h with h
    subst h
    exact .cons (hr x List.mem_cons_self v hv) (evs_spec ht fun y hy => hr y (List.mem_cons_of_mem _ hy))
theorem op_func {f : Fn} {a b : Array Operand} (ho : o.op = .makeFunc f a b) (h : Rel ρ w0 L s w) (hr : Opd ρ L m r o.op.operands) (e : mkF f m s a.toList b.toList = .ok v s') : Good P ρ w0 L r o w v s' := by
  obtain ⟨x, hx, e⟩ := on_ok e
  obtain ⟨y, hy, e⟩ := on_ok e
  obtain ⟨rfl, rfl⟩ := ok_inj e
  have h1 := evs_spec hx (fun z hz => hr z (by simp [ho, Op.operands]; exact .inl (by simpa using hz)))
  have h2 := evs_spec hy (fun z hz => hr z (by simp [ho, Op.operands]; exact .inr (by simpa using hz)))
  refine .read h (.fn h1 h2) ?_
  unfold execOp
  simp only [ho]
  simp [Instr.makeFunc]
  exact ⟨Array.ext' (by simp), Array.ext' (by simp)⟩
theorem op_extract {x : Operand} {i : Nat} (ho : o.op = .extract x i) (h : Rel ρ w0 L s w) (hr : Opd ρ L m r o.op.operands) (e : on (ev m x) Rv.no (fun v => onTup v Rv.no fun l => on (nth l i) Rv.no fun v => Rv.ok v s) = .ok v s') : Good P ρ w0 L r o w v s' := by
  obtain ⟨u, hu, e⟩ := on_ok e
  obtain ⟨l, rfl, e⟩ := onTup_ok e
  obtain ⟨y, hy, e⟩ := on_ok e
  obtain ⟨rfl, rfl⟩ := ok_inj e
  have hcv := hr x (by simp [ho, Op.operands]) _ hu
  generalize hx : r x = z at hcv
  cases hcv with
  | tup hl =>
    rw [nth_eq] at hy
    obtain ⟨q, h1, h2⟩ := hl.get hy
    refine .read h h2 ?_
    unfold execOp
    simp only [ho, hx]
    simp [Instr.extract, h1]
end
end Go.RI
namespace Go.RI
open Go Go.RowKit
section
variable {P : Program} {T : Tb} {ρ : Env} {w0 w : World} {L : Loc} {s s' : St} {m : Fm} {v : V} {r : Operand → Value} {o : Oper}

/-! places -/
def Pl.plus (p : Pl) (n : Nat) : Pl := match p with | .own b g o => .own b g (o + n) | .var b o => .var b (o + n)
theorem pAdd_eq {β : Type} (p : Pl) (n : Nat) (k : Pl → β) : pAdd p n k = k (p.plus n) := by
  cases p with
  | own b g o => exact sN_eq _ (fun o => k (.own b g o))
  | var b o => exact sN_eq _ (fun o => k (.var b o))
theorem RA.add {p : Pl} {a : Addr} (h : RA L p a) (n : Nat) : RA L (p.plus n) (a.add n) := by
  cases h with
  | @own b g o B base sz h => rw [add_own, Nat.add_assoc]; exact .own h
  | var b o => rw [add_own]; exact .var _ _
theorem fldO_spec (hc : Ctx P T ρ w0) {t : TypeId} {f o : Nat} (h : fldO T t f = some o) : ∃ fs fd n, P.underlying t = some (.struct fs) ∧ fs[f]? = some fd ∧ fd.offset = o ∧ siz T fd.type = some (n + 1) := by
  unfold fldO at h
  split at h
  · rename_i fs hu
    split at h
    · rename_i fd hf
      split at h
      · rename_i n hn
        injection h with h
        exact ⟨fs, fd, n, und_spec hc hu, by simpa using hf, h, hn⟩
      · cases h
    · cases h
  · cases h
theorem op_fieldAddr {t : TypeId} {x : Operand} {f : Nat} (hc : Ctx P T ρ w0) (ho : o.op = .fieldAddr t x f) (h : Rel ρ w0 L s w) (hr : Opd ρ L m r o.op.operands) (e : on (ev m x) Rv.no (fun v => fldA T t v f s) = .ok v s') : Good P ρ w0 L r o w v s' := by
  replace e := on_ok e
  obtain ⟨u, hu, e⟩ := e
  unfold fldA at e
  replace e := on_ok e
  obtain ⟨off, hoff, e⟩ := e
  replace e := onPtr_ok e
  obtain ⟨p, hq0, e⟩ := e
  subst hq0
  rw [pAdd_eq] at e
  obtain ⟨rfl, rfl⟩ := ok_inj e
  obtain ⟨fs, fd, n, h1, h2, rfl, h3⟩ := fldO_spec hc hoff
  have hcv := hr x (by simp [ho, Op.operands]) _ hu
  generalize hx : r x = z at hcv
  cases hcv with
  | ptr ha =>
    refine .read h (.ptr (ha.add fd.offset)) ?_
    unfold execOp
    simp only [ho, hx]
    simp [Instr.fieldAt, run_underlying h1, h2, Instr.sureAddr, fieldPlace, run_size hc h3]
theorem slK_spec (hc : Ctx P T ρ w0) {t : TypeId} {n : Nat} (h : slK T t = some n) : ∃ e, P.underlying t = some (.slice e) ∧ siz T e = some n := by
  unfold slK at h
  split at h
  · rename_i e hu
    exact ⟨e, und_spec hc hu, h⟩
  · cases h
theorem arK_spec (hc : Ctx P T ρ w0) {t : TypeId} {q : Nat × Nat × TypeId} (h : arK T t = some q) : P.underlying t = some (.array q.1 q.2.2) ∧ siz T q.2.2 = some q.2.1 := by
  unfold arK at h
  split at h
  · rename_i n e hu
    split at h
    · rename_i k hk
      injection h with h
      subst h
      exact ⟨und_spec hc hu, hk⟩
    · cases h
  · cases h
/-- A slice that holds some elements. -/
theorem slice_spec {p : Pl} {n : Nat} {x : V} {y : Value} (hx : (∃ c, x = .sl (some p) n c) ∨ ∃ w, x = .sg p n w) (h : RV ρ L x y) : ∃ a c, y = .slice (some a) n c ∧ RA L p a ∧ n ≤ c := by
  rcases hx with ⟨c, rfl⟩ | ⟨w, rfl⟩
  · cases h with
    | sl h h1 => exact ⟨_, _, rfl, h, h1⟩
  · cases h with
    | sg h h1 h2 => exact ⟨_, _, rfl, .own h, h1⟩
theorem op_indexAddr {t : TypeId} {x i : Operand} (hc : Ctx P T ρ w0) (ho : o.op = .indexAddr t x i) (h : Rel ρ w0 L s w) (hr : Opd ρ L m r o.op.operands) (e : on (ev m x) Rv.no (fun v => on (ev m i) Rv.no fun i => idxA T t v i s) = .ok v s') : Good P ρ w0 L r o w v s' := by
  replace e := on_ok e
  obtain ⟨u, hu, e⟩ := e
  replace e := on_ok e
  obtain ⟨j, hj, e⟩ := e
  unfold idxA at e
  replace e := onNat_ok e
  obtain ⟨kd, k, hq0, e⟩ := e
  subst hq0
  have hjv := hr i (by simp [ho, Op.operands]) _ hj
  generalize hy : r i = y at hjv
  cases hjv
  have hcv := hr x (by simp [ho, Op.operands]) _ hu
  cases hs : slK T t with
  | none =>
    rw [hs] at e
    replace e := on_ok (show on (arK T t) Rv.no _ = _ from e)
    obtain ⟨q, hq, e⟩ := e
    replace e := onPtr_ok e
    obtain ⟨p, hq0, e⟩ := e
    subst hq0
    replace e := cd_ok e
    obtain ⟨h1, e⟩ := e
    rw [pAdd_eq] at e
    obtain ⟨rfl, rfl⟩ := ok_inj e
    obtain ⟨h2, h3⟩ := arK_spec hc hq
    generalize hx : r x = z at hcv
    cases hcv with
    | ptr ha =>
      refine .read h (.ptr (ha.add (k * q.2.1))) ?_
      have hlt := Nat.blt_eq.mp h1
      unfold execOp
      simp only [ho, hx, hy]
      have : (0 : Int) ≤ Int.ofNat k ∧ Int.ofNat k < (q.1 : Int) := ⟨Int.natCast_nonneg k, by simpa using hlt⟩
      simp only [Instr.indexAt, asIntOf, Sem.run_bind, Sem.run_pure, Result.andThen_ok, run_underlying h2, Instr.sureAddr, if_pos this, run_size hc h3]
      rfl
  | some wd =>
    rw [hs] at e
    replace e := onSl_ok (show onSl u Rv.no _ = _ from e)
    obtain ⟨p, n, hsl, e⟩ := e
    replace e := cd_ok e
    obtain ⟨h1, e⟩ := e
    rw [pAdd_eq] at e
    obtain ⟨rfl, rfl⟩ := ok_inj e
    obtain ⟨el, h2, h3⟩ := slK_spec hc hs
    obtain ⟨a, c, hx, ha, hnc⟩ := slice_spec hsl hcv
    refine .read h (.ptr (ha.add (k * wd))) ?_
    have hlt := Nat.blt_eq.mp h1
    unfold execOp
    simp only [ho, hx, hy]
    have : (0 : Int) ≤ Int.ofNat k ∧ Int.ofNat k < (n : Int) := ⟨Int.natCast_nonneg k, by simpa using hlt⟩
    simp only [Instr.indexAt, asIntOf, Sem.run_bind, Sem.run_pure, Result.andThen_ok, run_underlying h2, if_pos this, run_size hc h3]
    rfl
/-- A part of a struct, or an array. -/
theorem partK_spec (hc : Ctx P T ρ w0) {t : TypeId} {k : Option Nat} (hk : ldK T t = some k) {l : List V} {xs : List Value} (hl : RVs ρ L l xs) {off : Nat} (e : partK k l off s = .ok v s') : s' = s ∧ ∃ x, RV ρ L v x ∧ (part t xs.toArray off).run P w = .ok x w := by
  obtain ⟨k1, k2⟩ := ldK_spec hc hk
  cases k with
  | none =>
    replace e := on_ok (show on (nth l off) Rv.no (fun v => Rv.ok v s) = _ from e)
    obtain ⟨y, hy, e⟩ := e
    obtain ⟨rfl, rfl⟩ := ok_inj e
    rw [nth_eq] at hy
    obtain ⟨u, h1, h2⟩ := hl.get hy
    refine ⟨rfl, u, h2, ?_⟩
    simp [part, isAg_spec hc (k2 rfl), h1]
  | some n =>
    obtain ⟨j1, j2⟩ := k1 n rfl
    have e : tk n (drp off l) (fun r => Rv.ok (.agg r) s) = .ok v s' := e
    rw [tk_eq, drp_eq] at e
    obtain ⟨rfl, rfl⟩ := ok_inj e
    refine ⟨rfl, _, .agg ((hl.drop off).take n), ?_⟩
    simp only [part, Sem.run_bind, isAg_spec hc j1, Result.andThen_ok, if_true, run_size hc j2, Sem.run_pure]
    congr 2
    apply Array.ext'
    simp [List.extract_eq_take_drop]
theorem op_field {t : TypeId} {x : Operand} {f : Nat} (hc : Ctx P T ρ w0) (ho : o.op = .field t x f) (h : Rel ρ w0 L s w) (hr : Opd ρ L m r o.op.operands) (e : on (ev m x) Rv.no (fun v => fld T t v f s) = .ok v s') : Good P ρ w0 L r o w v s' := by
  replace e := on_ok e
  obtain ⟨u, hu, e⟩ := e
  unfold fld at e
  replace e := on_ok e
  obtain ⟨q, hq, e⟩ := e
  replace e := onAgg_ok e
  obtain ⟨l, hq0, e⟩ := e
  subst hq0
  have hcv := hr x (by simp [ho, Op.operands]) _ hu
  generalize hx : r x = z at hcv
  cases hcv with
  | agg hl =>
    unfold fldK at hq
    split at hq
    · rename_i fs hfs
      split at hq
      · rename_i fd hfd
        split at hq
        · rename_i k hk
          injection hq with hq
          subst hq
          obtain ⟨rfl, y, h1, h2⟩ := partK_spec (w := w) hc hk hl e
          refine .read h h1 ?_
          have hfd' : fs[f]? = some fd := by simpa using hfd
          unfold execOp
          simp only [ho, hx]
          simp [Instr.field, run_underlying (und_spec hc hfs), hfd', asAgg, h2]
        · cases hq
      · cases hq
    · cases hq
theorem isStr_spec (hc : Ctx P T ρ w0) {t : TypeId} (h : isStr T t = true) : P.underlying t = some .string := by
  unfold isStr at h
  split at h
  · rename_i hu; exact und_spec hc hu
  · cases h
theorem bytes_get (s : ByteArray) {i c : Nat} (h : (s.data.toList.map UInt8.toNat)[i]? = some c) : ∃ b, s[i]? = some b ∧ b.toNat = c := by
  rw [List.getElem?_map] at h
  cases hb : s.data.toList[i]? with
  | none => rw [hb] at h; cases h
  | some b =>
    rw [hb] at h
    injection h with h
    refine ⟨b, ?_, h⟩
    have h1 : s.data[i]? = some b := by simpa using hb
    obtain ⟨h2, h3⟩ := Array.getElem?_eq_some_iff.1 h1
    have : i < s.size := h2
    rw [getElem?_pos s i this]
    exact congrArg some h3
theorem op_index {t : TypeId} {x i : Operand} (hc : Ctx P T ρ w0) (ho : o.op = .index t x i) (h : Rel ρ w0 L s w) (hr : Opd ρ L m r o.op.operands) (e : on (ev m x) Rv.no (fun v => on (ev m i) Rv.no fun i => idx T t v i s) = .ok v s') : Good P ρ w0 L r o w v s' := by
  replace e := on_ok e
  obtain ⟨u, hu, e⟩ := e
  replace e := on_ok e
  obtain ⟨j, hj, e⟩ := e
  unfold idx at e
  replace e := onNat_ok e
  obtain ⟨kd, k, hq0, e⟩ := e
  subst hq0
  have hjv := hr i (by simp [ho, Op.operands]) _ hj
  generalize hy : r i = y at hjv
  cases hjv
  have hcv := hr x (by simp [ho, Op.operands]) _ hu
  cases hs : isStr T t with
  | true =>
    rw [hs] at e
    replace e := onStr_ok (show onStr u Rv.no _ = _ from e)
    obtain ⟨l, hq0, e⟩ := e
    subst hq0
    replace e := on_ok e
    obtain ⟨c, hcc, e⟩ := e
    obtain ⟨rfl, rfl⟩ := ok_inj e
    generalize hx : r x = z at hcv
    cases hcv with
    | str sb =>
      rw [nth_eq] at hcc
      obtain ⟨b, h1, h2⟩ := bytes_get sb hcc
      refine .read h (.int .u8 (Int.ofNat c)) ?_
      have h0 : (0 : Int) ≤ Int.ofNat k := Int.natCast_nonneg k
      unfold execOp
      simp only [ho, hx, hy]
      simp only [Instr.index, asIntOf, Sem.run_bind, Sem.run_pure, Result.andThen_ok, run_underlying (isStr_spec hc hs), if_pos h0]
      have : (Int.ofNat k).toNat = k := rfl
      simp [this, h1, ← h2]
  | false =>
    rw [hs] at e
    split at e
    · rename_i n wd el l hq
      have e : cd (Nat.blt k n) (on (ldK T el) Rv.no fun k' => partK k' l (Nat.mul k wd) s) .no = .ok v s' := by
        rw [cd_eq]; rw [cd_false] at e
        simpa [cond_eq_ite] using e
      replace e := cd_ok e
      obtain ⟨h1, e⟩ := e
      replace e := on_ok e
      obtain ⟨k', hk', e⟩ := e
      obtain ⟨h2, h3⟩ := arK_spec hc hq
      generalize hx : r x = z at hcv
      cases hcv with
      | agg hl =>
        obtain ⟨rfl, q, g1, g2⟩ := partK_spec (w := w) hc hk' hl e
        refine .read h g1 ?_
        have hlt := Nat.blt_eq.mp h1
        have h0 : (0 : Int) ≤ Int.ofNat k ∧ Int.ofNat k < (n : Int) := ⟨Int.natCast_nonneg k, by simpa using hlt⟩
        unfold execOp
        simp only [ho, hx, hy]
        simp only [Instr.index, asIntOf, Sem.run_bind, Sem.run_pure, Result.andThen_ok, run_underlying h2, if_pos h0, run_size hc h3]
        have : (Int.ofNat k).toNat = k := rfl
        rw [this]
        simp only [show k * wd = Nat.mul k wd from rfl, g2, Result.andThen_ok]
    · cases e
end
end Go.RI
namespace Go.RI
open Go Go.RowKit
section
variable {P : Program} {T : Tb} {ρ : Env} {w0 w : World} {L : Loc} {s s' : St} {m : Fm} {v : V} {r : Operand → Value} {o : Oper}

theorem kn_inj {k k' : IntKind} (h : Nat.beq (kn k) (kn k') = true) : k = k' := by cases k <;> cases k' <;> first | rfl | cases h
theorem iEq_eq (a b : Int) : iEq a b = decide (a = b) := by
  cases a <;> cases b
  · rename_i x y
    show Nat.beq x y = _
    rw [Bool.eq_iff_iff, beq_iff, decide_eq_true_eq]
    exact ⟨fun h => by rw [h], fun h => by injection h⟩
  · rfl
  · rfl
  · rename_i x y
    show Nat.beq x y = _
    rw [Bool.eq_iff_iff, beq_iff, decide_eq_true_eq]
    exact ⟨fun h => by rw [h], fun h => by injection h⟩
theorem iLt_eq (a b : Int) : iLt a b = decide (a < b) := by
  cases a <;> cases b
  · rename_i x y
    show Nat.blt x y = _
    rw [Bool.eq_iff_iff, Nat.blt_eq, decide_eq_true_eq]
    exact Int.ofNat_lt.symm
  · rename_i x y
    show false = _
    have h1 := Int.negSucc_lt_zero y
    have h2 : (0 : Int) ≤ Int.ofNat x := Int.natCast_nonneg x
    exact (decide_eq_false (by omega)).symm
  · rename_i x y
    show true = _
    have h1 := Int.negSucc_lt_zero x
    have h2 : (0 : Int) ≤ Int.ofNat y := Int.natCast_nonneg y
    exact (decide_eq_true (by omega)).symm
  · rename_i x y
    show Nat.blt y x = _
    rw [Bool.eq_iff_iff, Nat.blt_eq, decide_eq_true_eq, Int.negSucc_eq, Int.negSucc_eq]
    omega
theorem iAdd_eq (a b : Int) : iAdd a b = a + b := by cases a <;> cases b <;> rfl
theorem iSub_eq (a b : Int) : iSub a b = a - b := by
  cases a with
  | negSucc a => rfl
  | ofNat a => cases b with
    | negSucc b => rfl
    | ofNat b =>
      show cd (Nat.ble b a) (Int.ofNat (Nat.sub a b)) (Int.sub (.ofNat a) (.ofNat b)) = _
      rw [cd_eq]
      split
      · rename_i h
        have h := Nat.le_of_ble_eq_true h
        show ((a - b : Nat) : Int) = (a : Int) - (b : Int)
        omega
      · rfl
theorem top_wrap (k : IntKind) {a : Nat} (h : a < top k) : k.wrap (a : Int) = a := by
  have key : ∀ (M H : Int), (a : Int) < H → H < M → (if (true && decide ((a : Int) % M ≥ H)) = true then (a : Int) % M - M else (a : Int) % M) = a := by
    intro M H h1 h2
    have : (a : Int) % M = a := Int.emod_eq_of_lt (Int.natCast_nonneg a) (by omega)
    rw [this, if_neg (by simp; omega)]
  have key2 : ∀ (M : Int), (a : Int) < M → (a : Int) % M = a := fun M h1 => Int.emod_eq_of_lt (Int.natCast_nonneg a) h1
  cases k <;> simp only [top] at h
  · exact key 256 128 (by omega) (by omega)
  · exact key 65536 32768 (by omega) (by omega)
  · exact key 4294967296 2147483648 (by omega) (by omega)
  · exact key 18446744073709551616 9223372036854775808 (by omega) (by omega)
  · exact key2 256 (by omega)
  · exact key2 65536 (by omega)
  · exact key2 4294967296 (by omega)
  · exact key2 18446744073709551616 (by omega)
theorem wrp_eq (k : IntKind) (n : Int) : wrp k n = k.wrap n := by
  cases n with
  | negSucc a => rfl
  | ofNat a =>
    show cd (Nat.blt a (top k)) (Int.ofNat a) (k.wrap (.ofNat a)) = _
    rw [cd_eq]
    split
    · rename_i h
      exact (top_wrap k (Nat.blt_eq.mp h)).symm
    · rfl
theorem le_not_lt (a b : Int) : decide (a ≤ b) = !decide (b < a) := by by_cases h : a ≤ b <;> simp [h] <;> omega
theorem intR_ok {k : IntKind} {n : Int} (h : intR k n s = .ok v s') : v = .int k n ∧ s' = s := by
  unfold intR at h
  rw [sI_eq] at h
  obtain ⟨rfl, rfl⟩ := ok_inj h
  exact ⟨rfl, rfl⟩
theorem boolR_ok {b : Bool} (h : boolR b s = .ok v s') : v = .bool b ∧ s' = s := by
  unfold boolR at h
  rw [sB_eq] at h
  obtain ⟨rfl, rfl⟩ := ok_inj h
  exact ⟨rfl, rfl⟩
/-- What a pure operation on values comes to. -/
def Pur (P : Program) (ρ : Env) (L : Loc) (s : St) (v : V) (s' : St) (q : Sem Value) (w : World) : Prop := s' = s ∧ ∃ z, RV ρ L v z ∧ q.run P w = .ok z w
theorem top_le (k : IntKind) : top k ≤ 2 ^ k.bits := by cases k <;> decide
theorem top_pow (k : IntKind) : ∃ n, top k = 2 ^ n ∧ n ≤ k.bits := by
  cases k
  · exact ⟨7, rfl, by decide⟩
  · exact ⟨15, rfl, by decide⟩
  · exact ⟨31, rfl, by decide⟩
  · exact ⟨63, rfl, by decide⟩
  · exact ⟨8, rfl, by decide⟩
  · exact ⟨16, rfl, by decide⟩
  · exact ⟨32, rfl, by decide⟩
  · exact ⟨64, rfl, by decide⟩
theorem bv_nat {k : IntKind} {a : Nat} (h : a < top k) : (BitVec.ofInt k.bits (a : Int)).toNat = a := by
  have := top_le k
  rw [BitVec.toNat_ofInt]
  have h2 : (a : Int) % (2 ^ k.bits : Nat) = a := Int.emod_eq_of_lt (Int.natCast_nonneg a) (by exact_mod_cast (by omega : a < 2 ^ k.bits))
  rw [h2]; rfl
theorem bitR_spec {b : BinOp} {op : Nat → Nat → Nat} {k : IntKind} {x y : Int} (hop : (b = .and ∧ op = Nat.land) ∨ (b = .or ∧ op = Nat.lor) ∨ (b = .xor ∧ op = Nat.xor)) (e : bitR op k x y s = .ok v s') : Pur P ρ L s v s' (Op.intBits b k x y) w := by
  have hw : bitR.bitW op k x y s = .ok v s' → Pur P ρ L s v s' (Op.intBits b k x y) w := by
    intro e
    obtain ⟨rfl, rfl⟩ := intR_ok (show intR k _ s = _ from e)
    refine ⟨rfl, _, .int _ _, ?_⟩
    rcases hop with ⟨rfl, rfl⟩ | ⟨rfl, rfl⟩ | ⟨rfl, rfl⟩
    · simp only [Op.intBits, BitVec.toNat_and]; rfl
    · simp only [Op.intBits, BitVec.toNat_or]; rfl
    · simp only [Op.intBits, BitVec.toNat_xor]; rfl
  cases x with
  | negSucc x => exact hw e
  | ofNat x =>
    cases y with
    | negSucc y => exact hw e
    | ofNat y =>
      replace e := cd_ok (show cd (an (Nat.blt x (top k)) (Nat.blt y (top k))) (sN (op x y) fun n => Rv.ok (.int k (.ofNat n)) s) .no = _ from e)
      obtain ⟨h1, e⟩ := e
      rw [sN_eq] at e
      obtain ⟨rfl, rfl⟩ := ok_inj e
      obtain ⟨h1, h2⟩ := an_true h1
      have h1 := Nat.blt_eq.mp h1
      have h2 := Nat.blt_eq.mp h2
      refine ⟨rfl, _, .int _ _, ?_⟩
      have hlt : op x y < top k := by
        obtain ⟨n, hn, -⟩ := top_pow k
        rw [hn] at h1 h2 ⊢
        rcases hop with ⟨-, rfl⟩ | ⟨-, rfl⟩ | ⟨-, rfl⟩
        · exact Nat.lt_of_le_of_lt Nat.and_le_left h1
        · exact Nat.or_lt_two_pow h1 h2
        · exact Nat.xor_lt_two_pow h1 h2
      rcases hop with ⟨rfl, rfl⟩ | ⟨rfl, rfl⟩ | ⟨rfl, rfl⟩
      · simp only [Op.intBits, BitVec.toNat_and, show Int.ofNat x = (x : Int) from rfl, show Int.ofNat y = (y : Int) from rfl, bv_nat h1, bv_nat h2]
        show Result.ok (Value.int k (k.wrap ((Nat.land x y : Nat) : Int))) w = _
        rw [top_wrap k hlt]; rfl
      · simp only [Op.intBits, BitVec.toNat_or, show Int.ofNat x = (x : Int) from rfl, show Int.ofNat y = (y : Int) from rfl, bv_nat h1, bv_nat h2]
        show Result.ok (Value.int k (k.wrap ((Nat.lor x y : Nat) : Int))) w = _
        rw [top_wrap k hlt]; rfl
      · simp only [Op.intBits, BitVec.toNat_xor, show Int.ofNat x = (x : Int) from rfl, show Int.ofNat y = (y : Int) from rfl, bv_nat h1, bv_nat h2]
        show Result.ok (Value.int k (k.wrap ((Nat.xor x y : Nat) : Int))) w = _
        rw [top_wrap k hlt]; rfl
theorem iop_spec {op : BinOp} {t : TypeId} {k : IntKind} {a b : Int} (hsh : isSh op = 0) (e : iop op k a b s = .ok v s') : Pur P ρ L s v s' (binOp op t (.int k a) (.int k b)) w := by
  have hz : ∀ {x : Rv}, cd (iEq b 0) .no x = .ok v s' → b ≠ 0 ∧ x = .ok v s' := by
    intro x h
    rw [iEq_eq, cd_eq] at h
    by_cases hb : b = 0
    · simp [hb] at h
    · simp [hb] at h; exact ⟨hb, h⟩
  cases op with
  | add => obtain ⟨rfl, rfl⟩ := intR_ok (show intR _ _ _ = _ from e); rw [wrp_eq, iAdd_eq]; exact ⟨rfl, _, .int _ _, by simp [binOp, Op.intArith]⟩
  | sub => obtain ⟨rfl, rfl⟩ := intR_ok (show intR _ _ _ = _ from e); rw [wrp_eq, iSub_eq]; exact ⟨rfl, _, .int _ _, by simp [binOp, Op.intArith]⟩
  | mul => obtain ⟨rfl, rfl⟩ := intR_ok (show intR _ _ _ = _ from e); rw [wrp_eq]; exact ⟨rfl, _, .int _ _, by simp [binOp, Op.intArith]⟩
  | quo =>
    replace e := hz e
    obtain ⟨hb, e⟩ := e
    obtain ⟨rfl, rfl⟩ := intR_ok e
    rw [wrp_eq]
    exact ⟨rfl, _, .int _ _, by simp [binOp, Op.intDiv, hb]⟩
  | rem =>
    replace e := hz e
    obtain ⟨hb, e⟩ := e
    obtain ⟨rfl, rfl⟩ := intR_ok e
    exact ⟨rfl, _, .int _ _, by simp [binOp, Op.intDiv, hb]⟩
  | and => simpa [Pur, binOp] using bitR_spec (P := P) (ρ := ρ) (L := L) (w := w) (.inl ⟨rfl, rfl⟩) e
  | or => simpa [Pur, binOp] using bitR_spec (P := P) (ρ := ρ) (L := L) (w := w) (.inr (.inl ⟨rfl, rfl⟩)) e
  | xor => simpa [Pur, binOp] using bitR_spec (P := P) (ρ := ρ) (L := L) (w := w) (.inr (.inr ⟨rfl, rfl⟩)) e
  | shl => cases hsh
  | shr => cases hsh
  | andNot => cases e
  | eql => obtain ⟨rfl, rfl⟩ := boolR_ok (show boolR _ _ = _ from e); rw [iEq_eq]; exact ⟨rfl, _, .bool _, by simp [binOp, Op.intCmp]; rfl⟩
  | neq => obtain ⟨rfl, rfl⟩ := boolR_ok (show boolR _ _ = _ from e); rw [iEq_eq, nt_eq]; exact ⟨rfl, _, .bool _, by simp [binOp, Op.intCmp]; rfl⟩
  | lss => obtain ⟨rfl, rfl⟩ := boolR_ok (show boolR _ _ = _ from e); rw [iLt_eq]; exact ⟨rfl, _, .bool _, by simp [binOp, Op.intCmp]⟩
  | leq => obtain ⟨rfl, rfl⟩ := boolR_ok (show boolR _ _ = _ from e); rw [iLt_eq, nt_eq, ← le_not_lt]; exact ⟨rfl, _, .bool _, by simp [binOp, Op.intCmp]⟩
  | gtr => obtain ⟨rfl, rfl⟩ := boolR_ok (show boolR _ _ = _ from e); rw [iLt_eq]; exact ⟨rfl, _, .bool _, by simp [binOp, Op.intCmp]⟩
  | geq => obtain ⟨rfl, rfl⟩ := boolR_ok (show boolR _ _ = _ from e); rw [iLt_eq, nt_eq, ← le_not_lt]; exact ⟨rfl, _, .bool _, by simp [binOp, Op.intCmp]⟩
end
end Go.RI
namespace Go.RI
open Go Go.RowKit
section
variable {P : Program} {T : Tb} {ρ : Env} {w0 w : World} {L : Loc} {s s' : St} {m : Fm} {v : V} {r : Operand → Value} {o : Oper}

theorem bitsN_eq (k : IntKind) : bitsN k = k.bits := by cases k <;> rfl
theorem shl_spec {t : TypeId} {k k' : IntKind} {a b : Int} (e : shl k a b s = .ok v s') : Pur P ρ L s v s' (binOp .shl t (.int k a) (.int k' b)) w := by
  cases b with
  | negSucc n => cases e
  | ofNat n =>
    replace e := cd_ok (show cd (Nat.ble n (bitsN k)) (intR k (wrp k (Int.mul a (.ofNat (Nat.pow 2 n)))) s) .no = _ from e)
    obtain ⟨h1, e⟩ := e
    obtain ⟨rfl, rfl⟩ := intR_ok e
    have h1 := Nat.le_of_ble_eq_true h1
    rw [bitsN_eq] at h1
    refine ⟨rfl, _, .int _ _, ?_⟩
    have h0 : ¬ (Int.ofNat n < 0) := by have := Int.natCast_nonneg n; simp
    have hm : min (Int.ofNat n).toNat k.bits = n := by simp [h1]
    simp only [binOp, Op.shift, if_neg h0, hm, Sem.run_pure, wrp_eq]
    congr 2
theorem shr_spec {t : TypeId} {k k' : IntKind} {a b : Int} (e : shr k a b s = .ok v s') : Pur P ρ L s v s' (binOp .shr t (.int k a) (.int k' b)) w := by
  cases b with
  | negSucc n => cases e
  | ofNat n =>
    replace e := cd_ok (c := Nat.ble n (bitsN k)) e
    obtain ⟨h1, e⟩ := e
    have h1 := Nat.le_of_ble_eq_true h1
    rw [bitsN_eq] at h1
    have h0 : ¬ (Int.ofNat n < 0) := by have := Int.natCast_nonneg n; simp
    have hm : min (Int.ofNat n).toNat k.bits = n := by simp [h1]
    have hp : (Int.ofNat (Nat.pow 2 n)) = (2 : Int) ^ n := by show ((2 ^ n : Nat) : Int) = _; simp
    cases a with
    | ofNat a =>
      replace e : sN (Nat.div a (Nat.pow 2 n)) (fun n => Rv.ok (.int k (.ofNat n)) s) = .ok v s' := e
      rw [sN_eq] at e
      obtain ⟨rfl, rfl⟩ := ok_inj e
      refine ⟨rfl, _, .int _ _, ?_⟩
      simp only [binOp, Op.shift, if_neg h0, hm, Sem.run_pure, ← hp]
      have := Int.ofNat_fdiv a (Nat.pow 2 n)
      simp only [Int.ofNat_eq_natCast]
      rw [← this]
      rfl
    | negSucc a =>
      replace e : sN (Nat.div a (Nat.pow 2 n)) (fun n => Rv.ok (.int k (.negSucc n)) s) = .ok v s' := e
      rw [sN_eq] at e
      obtain ⟨rfl, rfl⟩ := ok_inj e
      refine ⟨rfl, _, .int _ _, ?_⟩
      simp only [binOp, Op.shift, if_neg h0, hm, Sem.run_pure, ← hp]
      have h2 : 0 < Nat.pow 2 n := Nat.pow_pos (by omega)
      congr 2
      obtain ⟨q, hq⟩ : ∃ q, Nat.pow 2 n = q + 1 := ⟨Nat.pow 2 n - 1, by omega⟩
      rw [hq]
      rfl
theorem map_inj : ∀ {a b : List UInt8}, a.map UInt8.toNat = b.map UInt8.toNat → a = b
  | [], [], _ => rfl
  | [], _ :: _, h => by cases h
  | _ :: _, [], h => by cases h
  | x :: a, y :: b, h => by
    rw [List.map_cons, List.map_cons] at h
    injection h with h1 h2
    rw [UInt8.toNat_inj.1 h1, map_inj h2]
theorem bytes_inj {a b : ByteArray} : a.data.toList.map UInt8.toNat = b.data.toList.map UInt8.toNat ↔ a = b := by
  constructor
  · intro h
    have h2 : a.data = b.data := Array.ext' (map_inj h)
    cases a; cases b; simp at h2; rw [h2]
  · intro h; rw [h]
theorem bytesLess_eq : ∀ a b : List UInt8, Op.bytesLess a b = lLt (a.map UInt8.toNat) (b.map UInt8.toNat)
  | [], [] => rfl
  | _ :: _, [] => rfl
  | [], _ :: _ => rfl
  | a :: x, b :: y => by
    show (decide (a < b) || (a == b && Op.bytesLess x y)) = cd (Nat.beq a.toNat b.toNat) (lLt (x.map UInt8.toNat) (y.map UInt8.toNat)) (Nat.blt a.toNat b.toNat)
    rw [bytesLess_eq x y, cd_eq]
    by_cases h : a = b
    · subst h
      simp
    · have h1 : ¬ a.toNat = b.toNat := fun e => h (UInt8.toNat_inj.1 e)
      rw [if_neg (by rw [beq_iff]; exact h1)]
      have h2 : (a == b) = false := by simp [h]
      rw [h2, Bool.false_and, Bool.or_false, Bool.eq_iff_iff, Nat.blt_eq, decide_eq_true_eq]
      exact UInt8.lt_iff_toNat_lt
theorem sop_spec {op : BinOp} {t : TypeId} {x y : ByteArray} (e : sop op (x.data.toList.map UInt8.toNat) (y.data.toList.map UInt8.toNat) s = .ok v s') : Pur P ρ L s v s' (binOp op t (.string x) (.string y)) w := by
  have heq : lEq (x.data.toList.map UInt8.toNat) (y.data.toList.map UInt8.toNat) = (x.toList == y.toList) := by
    rw [lEq_eq, ByteArray.toList_eq, ByteArray.toList_eq, Bool.eq_iff_iff, decide_eq_true_eq, beq_iff_eq]
    exact ⟨map_inj, fun h => by rw [h]⟩
  have hlt : lLt (x.data.toList.map UInt8.toNat) (y.data.toList.map UInt8.toNat) = Op.bytesLess x.toList y.toList := by rw [ByteArray.toList_eq, ByteArray.toList_eq, bytesLess_eq]
  have hlt2 : lLt (y.data.toList.map UInt8.toNat) (x.data.toList.map UInt8.toNat) = !(Op.bytesLess x.toList y.toList || x.toList == y.toList) := by
    rw [ByteArray.toList_eq, ByteArray.toList_eq, bytesLess_eq]
    have : ∀ a b : List UInt8, lLt (b.map UInt8.toNat) (a.map UInt8.toNat) = !(lLt (a.map UInt8.toNat) (b.map UInt8.toNat) || a == b) := by
      intro a
      induction a with
      | nil => intro b; cases b <;> rfl
      | cons p q ih =>
        intro b
        cases b with
        | nil => rfl
        | cons p' q' =>
          show cd (Nat.beq p'.toNat p.toNat) (lLt (q'.map UInt8.toNat) (q.map UInt8.toNat)) (Nat.blt p'.toNat p.toNat) = !(cd (Nat.beq p.toNat p'.toNat) (lLt (q.map UInt8.toNat) (q'.map UInt8.toNat)) (Nat.blt p.toNat p'.toNat) || _)
          by_cases h : p.toNat = p'.toNat
          · have h' := UInt8.toNat_inj.1 h
            subst h'
            rw [Nat.beq_refl, cd_true, cd_true, ih]
            simp
          · rw [cd_eq, cd_eq, if_neg (by rw [beq_iff]; omega), if_neg (by rw [beq_iff]; omega)]
            have h1 : (p :: q == p' :: q') = false := by
              have : ¬ p = p' := fun e => h (by rw [e])
              simp [this]
            rw [h1, Bool.or_false, Bool.eq_iff_iff, Nat.blt_eq]
            simp only [Bool.not_eq_true', ← Bool.not_eq_true, Nat.blt_eq]
            omega
    exact this _ _
  cases op with
  | add =>
    replace e := cd_ok (c := Nat.blt _ _) e
    obtain ⟨h1, e⟩ := e
    rw [app_eq] at e
    obtain ⟨rfl, rfl⟩ := ok_inj e
    have h1 := Nat.blt_eq.mp h1
    rw [len_eq, len_eq] at h1
    have hsz : x.size + y.size < 9223372036854775808 := by
      simp at h1
      exact h1
    refine ⟨rfl, .string (x ++ y), ?_, ?_⟩
    · have := RV.str (ρ := ρ) (L := L) (x ++ y)
      rw [ByteArray.data_append] at this
      simpa using this
    · have h2 : ¬ (((x.size + y.size : Nat) : Int) > IntKind.i64.max) := by
        have : IntKind.i64.max = 9223372036854775807 := by decide
        rw [this]; omega
      simp only [binOp, Op.stringOp, if_neg h2, Sem.run_pure]
  | eql => obtain ⟨rfl, rfl⟩ := boolR_ok (show boolR _ _ = _ from e); rw [heq]; exact ⟨rfl, _, .bool _, rfl⟩
  | neq => obtain ⟨rfl, rfl⟩ := boolR_ok (show boolR _ _ = _ from e); rw [heq, nt_eq]; exact ⟨rfl, _, .bool _, rfl⟩
  | lss => obtain ⟨rfl, rfl⟩ := boolR_ok (show boolR _ _ = _ from e); rw [hlt]; exact ⟨rfl, _, .bool _, rfl⟩
  | leq => obtain ⟨rfl, rfl⟩ := boolR_ok (show boolR _ _ = _ from e); rw [hlt2, nt_eq, Bool.not_not]; exact ⟨rfl, _, .bool _, rfl⟩
  | gtr => obtain ⟨rfl, rfl⟩ := boolR_ok (show boolR _ _ = _ from e); rw [hlt2]; exact ⟨rfl, _, .bool _, rfl⟩
  | geq => obtain ⟨rfl, rfl⟩ := boolR_ok (show boolR _ _ = _ from e); rw [hlt, nt_eq]; exact ⟨rfl, _, .bool _, rfl⟩
  | _ => cases e
end
end Go.RI
namespace Go.RI
open Go Go.RowKit
section
variable {P : Program} {T : Tb} {ρ : Env} {w0 w : World} {L : Loc} {s s' : St} {m : Fm} {v : V} {r : Operand → Value} {o : Oper}

theorem prt_spec (hc : Ctx P T ρ w0) {t : TypeId} {l : List V} {off : Nat} {a : V} (h : prt T t l off = some a) {xs : List Value} (hl : RVs ρ L l xs) : ∃ x, RV ρ L a x ∧ ∀ w, (part t xs.toArray off).run P w = .ok x w := by
  unfold prt at h
  replace h := on_some h
  obtain ⟨k, hk, h⟩ := h
  obtain ⟨k1, k2⟩ := ldK_spec hc hk
  cases k with
  | none =>
    rw [nth_eq] at h
    obtain ⟨u, h1, h2⟩ := hl.get h
    refine ⟨u, h2, fun w => ?_⟩
    simp [part, isAg_spec hc (k2 rfl), h1]
  | some n =>
    obtain ⟨j1, j2⟩ := k1 n rfl
    have h : some (V.agg (tk n (drp off l) id)) = some a := h
    injection h with h
    subst h
    rw [tk_eq, drp_eq]
    refine ⟨_, .agg ((hl.drop off).take n), fun w => ?_⟩
    simp only [part, Sem.run_bind, isAg_spec hc j1, Result.andThen_ok, if_true, run_size hc j2, Sem.run_pure]
    congr 2
    apply Array.ext'
    simp [List.extract_eq_take_drop]
theorem ba_beq (p q : ByteArray) : (p == q) = decide (p = q) := by
  rw [show (p == q) = (p.data == q.data) from rfl, Bool.eq_iff_iff, beq_iff_eq, decide_eq_true_eq]
  constructor
  · intro h; cases p; cases q; simp at h; rw [h]
  · intro h; rw [h]
theorem eqC_spec {a b : V} {x y : Value} {c : Bool} (h : eqC a b = some c) (ha : RV ρ L a x) (hb : RV ρ L b y) :
    (∃ p q, x = .bool p ∧ y = .bool q ∧ c = (p == q)) ∨ (∃ k p q, x = .int k p ∧ y = .int k q ∧ c = (p == q)) ∨ (∃ p q, x = .string p ∧ y = .string q ∧ c = (p == q)) := by
  unfold eqC at h
  split at h
  · injection h with h
    cases ha; cases hb
    refine .inl ⟨_, _, rfl, rfl, ?_⟩
    rw [← h]
    rename_i p q
    cases p <;> cases q <;> rfl
  · replace h := cd_some h
    obtain ⟨h1, h⟩ := h
    have h1 := kn_inj h1
    subst h1
    injection h with h
    cases ha; cases hb
    refine .inr (.inl ⟨_, _, _, rfl, rfl, ?_⟩)
    rw [← h, iEq_eq]; rfl
  · injection h with h
    cases ha; cases hb
    refine .inr (.inr ⟨_, _, rfl, rfl, ?_⟩)
    rw [← h, lEq_eq, ba_beq, Bool.eq_iff_iff, decide_eq_true_eq, decide_eq_true_eq, bytes_inj]
  · cases h
def eqLoop (c : Bool) : Option Bool × Unit := (if c then none else some false, ())
theorem eqFs_spec (hc : Ctx P T ρ w0) {eq : TypeId → V → V → Option Bool} {d : Nat} (heq : ∀ t a b c x y, eq t a b = some c → RV ρ L a x → RV ρ L b y → (Op.equalIn d t x y).run P w = .ok c w) {l l' : List V} {xs ys : List Value} (hl : RVs ρ L l xs) (hl' : RVs ρ L l' ys) :
    ∀ {fs : List Field} {c : Bool}, eqFs T eq l l' fs = some c → (forIn (m := Sem) fs ((none, ()) : Option Bool × Unit) fun f __s =>
            if f.name = "_" then pure (ForInStep.yield (none, ()))
            else do
              let a ← part f.type xs.toArray f.offset
              let b ← part f.type ys.toArray f.offset
              let z ← Op.equalIn d f.type a b
              if z = false then pure (ForInStep.done (some false, ())) else pure (ForInStep.yield (none, ()))).run P w = .ok (eqLoop c) w
  | [], c, h => by injection h with h; subst h; rfl
  | f :: fs, c, h => by
    replace h : cd (f.name == "_") none _ = some c := h
    have hn : f.name ≠ "_" := by
      intro e
      rw [e] at h
      cases h
    have hn' : (f.name == "_") = false := by simp [hn]
    rw [hn', cd_false] at h
    replace h := on_some h
    obtain ⟨a, ha, h⟩ := h
    replace h := on_some h
    obtain ⟨b, hb, h⟩ := h
    replace h := on_some h
    obtain ⟨z, hz, h⟩ := h
    obtain ⟨x, h1, h2⟩ := prt_spec hc ha hl
    obtain ⟨y, h3, h4⟩ := prt_spec hc hb hl'
    have h5 := heq _ _ _ _ _ _ hz h1 h3
    cases z with
    | false =>
      have h : some false = some c := h
      injection h with h
      subst h
      simp [List.forIn_cons, hn, h2, h4, h5, eqLoop]
    | true =>
      have ih := eqFs_spec hc heq hl hl' (fs := fs) (c := c) h
      simp only [List.forIn_cons, if_neg hn, Sem.run_bind, h2, h4, h5, Result.andThen_ok]
      simp only [Bool.true_eq_false, if_false, Sem.run_pure, Result.andThen_ok]
      exact ih
theorem eqAs_spec (hc : Ctx P T ρ w0) {eq : TypeId → V → V → Option Bool} {d : Nat} (heq : ∀ t a b c x y, eq t a b = some c → RV ρ L a x → RV ρ L b y → (Op.equalIn d t x y).run P w = .ok c w) {l l' : List V} {xs ys : List Value} (hl : RVs ρ L l xs) (hl' : RVs ρ L l' ys) {e wd : Nat} :
    ∀ {n i : Nat} {c : Bool}, eqAs T eq l l' e wd n i = some c → (forIn (m := Sem) (List.range' i n) ((none, ()) : Option Bool × Unit) fun i __s => do
              let a ← part e xs.toArray (i * wd)
              let b ← part e ys.toArray (i * wd)
              let z ← Op.equalIn d e a b
              if z = false then pure (ForInStep.done (some false, ())) else pure (ForInStep.yield (none, ()))).run P w = .ok (eqLoop c) w
  | 0, i, c, h => by injection h with h; subst h; rfl
  | n + 1, i, c, h => by
    replace h : on (prt T e l (Nat.mul i wd)) none _ = some c := h
    replace h := on_some h
    obtain ⟨a, ha, h⟩ := h
    replace h := on_some h
    obtain ⟨b, hb, h⟩ := h
    replace h := on_some h
    obtain ⟨z, hz, h⟩ := h
    obtain ⟨x, h1, h2⟩ := prt_spec hc ha hl
    obtain ⟨y, h3, h4⟩ := prt_spec hc hb hl'
    have h5 := heq _ _ _ _ _ _ hz h1 h3
    have h2 : ∀ w, (part e xs.toArray (i * wd)).run P w = .ok x w := h2
    have h4 : ∀ w, (part e ys.toArray (i * wd)).run P w = .ok y w := h4
    cases z with
    | false =>
      have h : some false = some c := h
      injection h with h
      subst h
      simp [List.range'_succ, List.forIn_cons, h2, h4, h5, eqLoop]
    | true =>
      have ih := eqAs_spec hc heq hl hl' (n := n) (i := i + 1) (c := c) h
      simp only [List.range'_succ, List.forIn_cons, Sem.run_bind, h2, h4, h5, Result.andThen_ok]
      simp only [Bool.true_eq_false, if_false, Sem.run_pure, Result.andThen_ok]
      exact ih
theorem onAgg_some {β : Type} {x : V} {k : List V → Option β} {c : β} (h : onAgg x none k = some c) : ∃ l, x = .agg l ∧ k l = some c := by
  cases x <;> first | exact ⟨_, rfl, h⟩ | cases h
theorem onBool_some {β : Type} {x : V} {k : Bool → Option β} {c : β} (h : onBool x none k = some c) : ∃ b, x = .bool b ∧ k b = some c := by
  cases x <;> first | exact ⟨_, rfl, h⟩ | cases h
theorem onInt_some {β : Type} {x : V} {k : IntKind → Int → Option β} {c : β} (h : onInt x none k = some c) : ∃ kd i, x = .int kd i ∧ k kd i = some c := by
  cases x <;> first | exact ⟨_, _, rfl, h⟩ | cases h
theorem onStr_some {β : Type} {x : V} {k : List Nat → Option β} {c : β} (h : onStr x none k = some c) : ∃ b, x = .str b ∧ k b = some c := by
  cases x <;> first | exact ⟨_, rfl, h⟩ | cases h
theorem eqT_spec (hc : Ctx P T ρ w0) : ∀ (f : Nat) (t : TypeId) (a b : V) (c : Bool) (x y : Value), eqT T f t a b = some c → RV ρ L a x → RV ρ L b y → ∀ d, f ≤ d → (Op.equalIn d t x y).run P w = .ok c w
  | 0, _, _, _, _, _, _, h, _, _, _, _ => by cases h
  | f + 1, t, a, b, c, x, y, h, ha, hb, d, hd => by
    obtain ⟨d, rfl⟩ : ∃ d', d = d' + 1 := ⟨d - 1, by omega⟩
    have ih := fun t a b c x y h ha hb => eqT_spec hc f t a b c x y h ha hb d (by omega)
    unfold eqT at h
    cases hu : und T t with
    | none => rw [hu] at h; cases h
    | some dsc =>
      rw [hu] at h
      have hp := und_spec hc hu
      cases dsc with
      | bool =>
        replace h := onBool_some h
        obtain ⟨p, hq, h⟩ := h
        subst hq
        rcases eqC_spec h ha hb with ⟨p, q, rfl, rfl, rfl⟩ | ⟨k, p, q, rfl, rfl, rfl⟩ | ⟨p, q, rfl, rfl, rfl⟩ <;> cases ha
        simp [Op.equalIn, run_underlying hp]
      | int k =>
        replace h := onInt_some h
        obtain ⟨kd, i, hq, h⟩ := h
        subst hq
        rcases eqC_spec h ha hb with ⟨p, q, rfl, rfl, rfl⟩ | ⟨k, p, q, rfl, rfl, rfl⟩ | ⟨p, q, rfl, rfl, rfl⟩ <;> cases ha
        simp [Op.equalIn, run_underlying hp]
      | string =>
        replace h := onStr_some h
        obtain ⟨l, hq, h⟩ := h
        subst hq
        rcases eqC_spec h ha hb with ⟨p, q, rfl, rfl, rfl⟩ | ⟨k, p, q, rfl, rfl, rfl⟩ | ⟨p, q, rfl, rfl, rfl⟩ <;> cases ha
        simp [Op.equalIn, run_underlying hp]
      | struct fs =>
        have hh : T.hd t = false := by
          cases hh : T.hd t with
          | false => rfl
          | true => rw [hh] at h; cases h
        simp only [hh, cd_false] at h
        replace h := onAgg_some h
        obtain ⟨l, hq, h⟩ := h
        subst hq
        replace h := onAgg_some h
        obtain ⟨l', hq, h⟩ := h
        subst hq
        cases ha with
        | agg hl => cases hb with
          | agg hl' =>
            have key := eqFs_spec (w := w) hc (fun t a b c x y h ha hb => ih t a b c x y h ha hb) hl hl' h
            unfold Op.equalIn
            simp only [Sem.run_bind, run_underlying hp, Result.andThen_ok, program, Sem.run, hc.hd t hh]
            simp
            rw [← Array.forIn_toList, key]
            cases c <;> rfl
      | array n e =>
        replace h := on_some h
        obtain ⟨wd, hw, h⟩ := h
        replace h := onAgg_some h
        obtain ⟨l, hq, h⟩ := h
        subst hq
        replace h := onAgg_some h
        obtain ⟨l', hq, h⟩ := h
        subst hq
        cases ha with
        | agg hl => cases hb with
          | agg hl' =>
            have key := eqAs_spec (w := w) hc (fun t a b c x y h ha hb => ih t a b c x y h ha hb) hl hl' h
            unfold Op.equalIn
            simp only [Sem.run_bind, run_underlying hp, Result.andThen_ok, run_size hc hw]
            simp
            rw [key]
            cases c <;> rfl
      | _ => cases h
end
end Go.RI
namespace Go.RI
open Go Go.RowKit
section
variable {P : Program} {T : Tb} {ρ : Env} {w0 w : World} {L : Loc} {s s' : St} {m : Fm} {v : V} {r : Operand → Value} {o : Oper}

theorem flat_guard (hc : Ctx P T ρ w0) : ∀ (f : Nat) (t : TypeId), flat T f t = true → ∀ d, f ≤ d → P.eqGuardType d t = false
  | 0, _, h, _, _ => by cases h
  | f + 1, t, h, d, hd => by
    obtain ⟨d, rfl⟩ : ∃ d', d = d' + 1 := ⟨d - 1, by omega⟩
    have ih := fun t h => flat_guard hc f t h d (by omega)
    unfold flat at h
    unfold Program.eqGuardType
    cases hu : und T t with
    | none => rw [hu] at h; cases h
    | some dsc =>
      rw [hu] at h
      rw [und_spec hc hu]
      cases dsc with
      | struct fs =>
        have h : an (nt (T.hd t)) (fs.toList.all fun x => an (x.name != "_") (flat T f x.type)) = true := h
        obtain ⟨-, h⟩ := an_true h
        simp only
        rw [← Bool.not_eq_true]
        intro hany
        rw [← Array.any_toList, List.any_eq_true] at hany
        obtain ⟨x, hx, hx2⟩ := hany
        rw [List.all_eq_true] at h
        have := (an_true (h x hx)).2
        rw [ih _ this] at hx2
        simp at hx2
      | array n e => exact ih e h
      | bool => rfl
      | int k => rfl
      | string => rfl
      | _ => cases h
theorem depth_ge (P : Program) : 4 ≤ P.depth := by unfold Program.depth Made.depth; omega
theorem run_bin {op : BinOp} {t t' : TypeId} {x y : Operand} {z : Value} (ho : o.op = .binOp op t x y t') (hg : (eqGuard op t x y (r x) (r y)).run P w = .ok () w) (hb : (binOp op t (r x) (r y)).run P w = .ok z w) : (execOp r o).run P w = .ok (.value z) w := by
  unfold execOp
  simp only [ho]
  simp [hg, hb]
theorem guard_plain {op : BinOp} {t : TypeId} {x y : Operand} {a b : Value} (h1 : a ≠ .nilIface ∨ b ≠ .nilIface) (h2 : ∀ p, a ≠ .agg p) : (eqGuard op t x y a b).run P w = .ok () w := by
  unfold eqGuard
  cases op <;> try rfl
  all_goals
    cases a <;> cases b <;> first | rfl | (exact absurd rfl (h2 _)) | (rcases h1 with h1 | h1 <;> exact absurd rfl h1)
theorem guard_agg {op : BinOp} {t : TypeId} {x y : Operand} {a b : Array Value} (h : P.eqGuardType P.depth t = false) : (eqGuard op t x y (.agg a) (.agg b)).run P w = .ok () w := by
  unfold eqGuard
  cases op <;> try rfl
  all_goals simp [program, Sem.run, h]
theorem cd_none {β : Type} {c : Bool} {x : Option β} {b : β} (h : cd c none x = some b) : x = some b := by
  cases c with
  | true => cases h
  | false => exact h
theorem isC_spec {x : Operand} (h : isC x = true) : ∃ c, x = .const c := by cases x <;> first | exact ⟨_, rfl⟩ | cases h
theorem ppl_spec {p q : Pl} {c : Bool} (h : ppl p q = some c) {a b : Addr} (ha : RA L p a) (hb : RA L q b) : a.block = b.block ∧ c = (a == b) := by
  unfold ppl at h
  split at h
  · replace h := cd_some h
    obtain ⟨h1, h⟩ := h
    obtain ⟨h1, h2⟩ := an_true h1
    have h1 := beq_iff.1 h1
    have h2 := beq_iff.1 h2
    subst h1 h2
    injection h with h
    cases ha with
    | own e1 => cases hb with
      | own e2 =>
        rw [e1] at e2
        injection e2 with e2
        injection e2 with f1 f2
        injection f2 with f2 f3
        subst f1 f2
        refine ⟨rfl, ?_⟩
        rw [← h, Bool.eq_iff_iff, beq_iff, beq_iff_eq]
        constructor
        · intro e; rw [e]
        · intro e; injection e with _ e _; omega
  · cases h
theorem isNo_eq {α : Type} (o : Option α) : isNo o = o.isNone := by cases o <;> rfl
theorem equal_in {t : TypeId} {p q : Value} {c : Bool} (h : ∀ d, 4 ≤ d → (Op.equalIn (d + 1) t p q).run P w = .ok c w) : (Op.equal t p q).run P w = .ok c w := h 9999 (by omega)
set_option maxHeartbeats 4000000 in
/-- What two values' comparison comes to, and that nothing stands in its way. -/
theorem eqV_spec (hc : Ctx P T ρ w0) {op : BinOp} {t : TypeId} {x y : Operand} {a b : V} {c : Bool} (h : eqV T t a b (or (isC x) (isC y)) = some c) {p q : Value} (ha : RV ρ L a p) (hb : RV ρ L b q) :
    (eqGuard op t x y p q).run P w = .ok () w ∧ (Op.equal t p q).run P w = .ok c w := by
  unfold eqV at h
  replace h := on_some h
  obtain ⟨d, hu, h⟩ := h
  have hp := und_spec hc hu
  cases d with
  | bool =>
    have h : eqT T 1 t a b = some c := h
    refine ⟨?_, equal_in fun d hd => eqT_spec hc 1 t a b c p q h ha hb _ (by omega)⟩
    unfold eqT at h
    rw [hu] at h
    replace h := onBool_some h
    obtain ⟨u, hq, h⟩ := h
    subst hq
    cases ha
    exact guard_plain (.inl (by simp)) (by simp)
  | pointer e =>
    simp only at h
    split at h
    · rename_i p' q'
      cases p' with
      | none =>
        have h : some (isNo q') = some c := h
        injection h with h
        cases ha
        cases hb with
        | ptr0 => subst h; exact ⟨guard_plain (.inl (by simp)) (by simp), equal_in fun d hd => by simp [Op.equalIn, run_underlying hp, isNo, on]⟩
        | ptr hb => subst h; exact ⟨guard_plain (.inl (by simp)) (by simp), equal_in fun d hd => by simp [Op.equalIn, run_underlying hp, isNo, on]⟩
      | some p' =>
        cases q' with
        | none =>
          have h : some false = some c := h
          injection h with h
          subst h
          cases ha
          cases hb
          exact ⟨guard_plain (.inl (by simp)) (by simp), equal_in fun d hd => by simp [Op.equalIn, run_underlying hp]⟩
        | some q' =>
          have h : on (siz T e) none (fun n => cd (Nat.beq n 0) none (ppl p' q')) = some c := h
          replace h := on_some h
          obtain ⟨n, hn, h⟩ := h
          have hn0 : n ≠ 0 := by
            intro e0
            subst e0
            cases h
          have hb0 : Nat.beq n 0 = false := by
            cases hb0 : Nat.beq n 0 with
            | false => rfl
            | true => exact absurd (beq_iff.1 hb0) hn0
          rw [hb0, cd_false] at h
          cases ha with
          | ptr ha => cases hb with
            | ptr hb =>
              obtain ⟨h1, h2⟩ := ppl_spec h ha hb
              refine ⟨guard_plain (.inl (by simp)) (by simp), equal_in fun d hd => ?_⟩
              simp [Op.equalIn, run_underlying hp, run_size hc hn, hn0, sameAddr, h1, h2]
    · cases h
  | interface ms =>
    simp only at h
    split at h
    · replace h := cd_some h
      obtain ⟨h1, h⟩ := h
      injection h with h
      subst h
      cases ha
      cases hb
      refine ⟨?_, equal_in fun d hd => by simp [Op.equalIn, run_underlying hp]⟩
      unfold eqGuard
      cases op <;> try rfl
      all_goals
        rw [Bool.or_eq_true] at h1
        rcases h1 with h1 | h1
        · obtain ⟨k, rfl⟩ := isC_spec h1
          simp
        · obtain ⟨k, rfl⟩ := isC_spec h1
          simp
    · injection h with h
      subst h
      cases ha
      cases hb
      exact ⟨guard_plain (.inr (by simp)) (by simp), equal_in fun d hd => by simp [Op.equalIn, run_underlying hp]⟩
    · injection h with h
      subst h
      cases ha
      cases hb
      exact ⟨guard_plain (.inl (by simp)) (by simp), equal_in fun d hd => by simp [Op.equalIn, run_underlying hp]⟩
    · rename_i t1 a1 t2 b1
      cases ha with
      | ifc ha => cases hb with
        | ifc hb =>
          refine ⟨guard_plain (.inl (by simp)) (by simp), equal_in fun d hd => ?_⟩
          cases he : Nat.beq t1 t2 with
          | false =>
            rw [he, cd_false] at h
            injection h with h
            subst h
            have hne : t1 ≠ t2 := fun e => by rw [e, Nat.beq_refl] at he; cases he
            simp [Op.equalIn, run_underlying hp, hne]
          | true =>
            rw [he, cd_true] at h
            have he := beq_iff.1 he
            subst he
            replace h := on_some h
            obtain ⟨i, hi, h⟩ := h
            replace h := cd_some h
            obtain ⟨h1, h⟩ := h
            have key := eqT_spec (P := P) (w := w) hc 1 t1 a1 b1 c _ _ h ha hb d (by omega)
            have hi' := hc.ty _ _ hi
            simp [Op.equalIn, run_underlying hp, typeInfo, hi', h1, key]
    · cases h
  | slice e =>
    simp only at h
    split at h
    · rename_i p' n c' m k
      injection h with h
      cases hb
      cases ha with
      | sl0 => subst h; exact ⟨guard_plain (.inl (by simp)) (by simp), equal_in fun d hd => by simp [Op.equalIn, run_underlying hp, isNo, on]⟩
      | sl ha h1 => subst h; exact ⟨guard_plain (.inl (by simp)) (by simp), equal_in fun d hd => by simp [Op.equalIn, run_underlying hp, isNo, on]⟩
    · injection h with h
      subst h
      cases hb
      cases ha
      exact ⟨guard_plain (.inl (by simp)) (by simp), equal_in fun d hd => by simp [Op.equalIn, run_underlying hp]⟩
    · cases h
  | map k e =>
    simp only at h
    split at h
    · injection h with h
      cases hb
      cases ha with
      | mp0 => subst h; exact ⟨guard_plain (.inl (by simp)) (by simp), equal_in fun d hd => by simp [Op.equalIn, run_underlying hp, isNo, on]⟩
      | mp ha => subst h; exact ⟨guard_plain (.inl (by simp)) (by simp), equal_in fun d hd => by simp [Op.equalIn, run_underlying hp, isNo, on]⟩
    · cases h
  | func a1 b1 c1 =>
    simp only at h
    split at h
    · injection h with h
      subst h
      cases ha
      cases hb
      exact ⟨guard_plain (.inl (by simp)) (by simp), equal_in fun d hd => by simp [Op.equalIn, run_underlying hp]⟩
    · injection h with h
      subst h
      cases ha
      cases hb
      exact ⟨guard_plain (.inl (by simp)) (by simp), equal_in fun d hd => by simp [Op.equalIn, run_underlying hp]⟩
    · cases h
  | struct fs =>
    replace h : cd (flat T 4 t) (eqT T 4 t a b) none = some c := h
    replace h := cd_some h
    obtain ⟨h1, h⟩ := h
    refine ⟨?_, equal_in fun d hd => eqT_spec hc 4 t a b c p q h ha hb _ (by omega)⟩
    have hg := flat_guard hc 4 t h1 P.depth (depth_ge P)
    unfold eqT at h
    rw [hu] at h
    replace h := cd_none h
    replace h := onAgg_some h
    obtain ⟨l, hq, h⟩ := h
    subst hq
    replace h := onAgg_some h
    obtain ⟨l', hq, h⟩ := h
    subst hq
    cases ha with
    | agg ha => cases hb with
      | agg hb => exact guard_agg hg
  | array n e =>
    replace h : cd (flat T 4 t) (eqT T 4 t a b) none = some c := h
    replace h := cd_some h
    obtain ⟨h1, h⟩ := h
    refine ⟨?_, equal_in fun d hd => eqT_spec hc 4 t a b c p q h ha hb _ (by omega)⟩
    have hg := flat_guard hc 4 t h1 P.depth (depth_ge P)
    unfold eqT at h
    rw [hu] at h
    replace h := on_some h
    obtain ⟨wd, -, h⟩ := h
    replace h := onAgg_some h
    obtain ⟨l, hq, h⟩ := h
    subst hq
    replace h := onAgg_some h
    obtain ⟨l', hq, h⟩ := h
    subst hq
    cases ha with
    | agg ha => cases hb with
      | agg hb => exact guard_agg hg
  | _ => cases h
end
end Go.RI
namespace Go.RI
open Go Go.RowKit
section
variable {P : Program} {T : Tb} {ρ : Env} {w0 w : World} {L : Loc} {s s' : St} {m : Fm} {v : V} {r : Operand → Value} {o : Oper}

theorem onInt_none {x : V} {a : Rv} {k : IntKind → Int → Rv} {v : V} {s : St} (h : onInt x a k = .ok v s) : (∃ kd i, x = .int kd i ∧ k kd i = .ok v s) ∨ ((∀ kd i, x ≠ .int kd i) ∧ a = .ok v s) := by
  cases x <;> first | exact .inl ⟨_, _, rfl, h⟩ | exact .inr ⟨fun _ _ e => (by cases e), h⟩
theorem onStr_none {x : V} {a : Rv} {k : List Nat → Rv} {v : V} {s : St} (h : onStr x a k = .ok v s) : (∃ l, x = .str l ∧ k l = .ok v s) ∨ ((∀ l, x ≠ .str l) ∧ a = .ok v s) := by
  cases x <;> first | exact .inl ⟨_, rfl, h⟩ | exact .inr ⟨fun _ e => (by cases e), h⟩
/-- A value that is no number and no text, in the comparison's own words. -/
theorem eql_run {t : TypeId} {p q : Value} {c : Bool} (hq : (Op.equal t p q).run P w = .ok c w) (h : (∃ b, p = .bool b) ∨ (∃ b, p = .pointer b) ∨ (∃ b n c, p = .slice b n c) ∨ (∃ b, p = .map b) ∨ (∃ b, p = .chan b) ∨ (∃ f a b, p = .func f a b) ∨ p = .nilFunc ∨ (∃ t v, p = .iface t v) ∨ p = .nilIface ∨ (∃ c, p = .agg c)) :
    (binOp .eql t p q).run P w = .ok (.bool c) w ∧ (binOp .neq t p q).run P w = .ok (.bool !c) w := by
  rcases h with ⟨b, rfl⟩ | ⟨b, rfl⟩ | ⟨b, n, c, rfl⟩ | ⟨b, rfl⟩ | ⟨b, rfl⟩ | ⟨f, a, b, rfl⟩ | rfl | ⟨t, v, rfl⟩ | rfl | ⟨c, rfl⟩ <;>
  · constructor <;> · simp only [binOp, Sem.run_bind, hq, Result.andThen_ok, Sem.run_pure]
theorem not_num {a : V} {p : Value} (h : RV ρ L a p) (h1 : ∀ kd i, a ≠ .int kd i) (h2 : ∀ l, a ≠ .str l) (h3 : ∀ n, a ≠ .un n) (h4 : ∀ l, a ≠ .tup l) :
    (∃ b, p = .bool b) ∨ (∃ b, p = .pointer b) ∨ (∃ b n c, p = .slice b n c) ∨ (∃ b, p = .map b) ∨ (∃ b, p = .chan b) ∨ (∃ f a b, p = .func f a b) ∨ p = .nilFunc ∨ (∃ t v, p = .iface t v) ∨ p = .nilIface ∨ (∃ c, p = .agg c) := by
  cases h with
  | int k n => exact absurd rfl (h1 _ _)
  | str s => exact absurd rfl (h2 _)
  | un n => exact absurd rfl (h3 _)
  | tup h => exact absurd rfl (h4 _)
  | _ => simp
theorem eqV_kind {t : TypeId} {a b : V} {k c : Bool} (h : eqV T t a b k = some c) (h1 : ∀ kd i, a ≠ .int kd i) (h2 : ∀ l, a ≠ .str l) : (∀ n, a ≠ .un n) ∧ ∀ l, a ≠ .tup l := by
  unfold eqV at h
  replace h := on_some h
  obtain ⟨d, hu, h⟩ := h
  constructor
  · rintro n rfl
    cases d <;> simp only at h <;> try (cases h; done)
    all_goals first
      | (replace h := cd_some h; obtain ⟨-, h⟩ := h; unfold eqT at h; rw [hu] at h; simp only at h; first | (replace h := cd_none h; cases h) | (replace h := on_some h; obtain ⟨_, _, h⟩ := h; cases h))
      | (unfold eqT at h; rw [hu] at h; cases h)
  · rintro n rfl
    cases d <;> simp only at h <;> try (cases h; done)
    all_goals first
      | (replace h := cd_some h; obtain ⟨-, h⟩ := h; unfold eqT at h; rw [hu] at h; simp only at h; first | (replace h := cd_none h; cases h) | (replace h := on_some h; obtain ⟨_, _, h⟩ := h; cases h))
      | (unfold eqT at h; rw [hu] at h; cases h)
theorem op_bin {op : BinOp} {t t' : TypeId} {x y : Operand} (hc : Ctx P T ρ w0) (ho : o.op = .binOp op t x y t') (h : Rel ρ w0 L s w) (hr : Opd ρ L m r o.op.operands) (e : on (ev m x) Rv.no (fun a => on (ev m y) Rv.no fun b => bop T op t x y a b s) = .ok v s') : Good P ρ w0 L r o w v s' := by
  replace e := on_ok e
  obtain ⟨a, ha, e⟩ := e
  replace e := on_ok e
  obtain ⟨b, hb, e⟩ := e
  have hav := hr x (by simp [ho, Op.operands]) _ ha
  have hbv := hr y (by simp [ho, Op.operands]) _ hb
  unfold bop at e
  replace e := onInt_none e
  rcases e with ⟨kd, i, hq, e⟩ | ⟨hn1, e⟩
  · subst hq
    replace e := onInt_ok e
    obtain ⟨kd', j, hq, e⟩ := e
    subst hq
    generalize hx : r x = p at hav
    generalize hy : r y = q at hbv
    cases hav
    cases hbv
    have hg : (eqGuard op t x y (r x) (r y)).run P w = .ok () w := by rw [hx, hy]; exact guard_plain (.inl (by simp)) (by simp)
    have fin : Pur P ρ L s v s' (binOp op t (.int kd i) (.int kd' j)) w → Good P ρ w0 L r o w v s' := by
      rintro ⟨rfl, z, h1, h2⟩
      exact .read h h1 (run_bin ho hg (by rw [hx, hy]; exact h2))
    unfold bopI at e
    cases h0 : Nat.beq (isSh op) 0 with
    | true =>
      rw [h0, cd_true] at e
      replace e := cd_ok e
      obtain ⟨h1, e⟩ := e
      have h1 := kn_inj h1
      subst h1
      exact fin (iop_spec (beq_iff.1 h0) e)
    | false =>
      rw [h0, cd_false] at e
      cases op <;> first | (cases h0; done) | skip
      · exact fin (shl_spec e)
      · exact fin (shr_spec e)
  · replace e := onStr_none e
    rcases e with ⟨l, hq, e⟩ | ⟨hn2, e⟩
    · subst hq
      replace e := onStr_ok e
      obtain ⟨l', hq, e⟩ := e
      subst hq
      generalize hx : r x = p at hav
      generalize hy : r y = q at hbv
      cases hav
      cases hbv
      have hg : (eqGuard op t x y (r x) (r y)).run P w = .ok () w := by rw [hx, hy]; exact guard_plain (.inl (by simp)) (by simp)
      obtain ⟨rfl, z, h1, h2⟩ := sop_spec (P := P) (ρ := ρ) (L := L) (w := w) (t := t) e
      exact .read h h1 (run_bin ho hg (by rw [hx, hy]; exact h2))
    · unfold bopO at e
      split at e
      · replace e := on_ok e
        obtain ⟨c, hcc, e⟩ := e
        obtain ⟨rfl, rfl⟩ := boolR_ok e
        obtain ⟨h1, h2⟩ := eqV_spec (op := .eql) hc hcc hav hbv
        obtain ⟨h3, h4⟩ := eqV_kind hcc hn1 hn2
        exact .read h (.bool c) (run_bin ho h1 (eql_run h2 (not_num hav hn1 hn2 h3 h4)).1)
      · replace e := on_ok e
        obtain ⟨c, hcc, e⟩ := e
        obtain ⟨rfl, rfl⟩ := boolR_ok e
        obtain ⟨h1, h2⟩ := eqV_spec (op := .neq) hc hcc hav hbv
        obtain ⟨h3, h4⟩ := eqV_kind hcc hn1 hn2
        rw [nt_eq]
        exact .read h (.bool _) (run_bin ho h1 (eql_run h2 (not_num hav hn1 hn2 h3 h4)).2)
      · cases e
theorem op_un {op : UnOp} {t : TypeId} {x : Operand} (ho : o.op = .unOp op t x) (h : Rel ρ w0 L s w) (hr : Opd ρ L m r o.op.operands) (e : on (ev m x) Rv.no (fun v => unR op v s) = .ok v s') : Good P ρ w0 L r o w v s' := by
  replace e := on_ok e
  obtain ⟨a, ha, e⟩ := e
  have hav := hr x (by simp [ho, Op.operands]) _ ha
  generalize hx : r x = p at hav
  have fin : ∀ {z : Value}, RV ρ L v z → s' = s → (Op.unary op p).run P w = .ok z w → Good P ρ w0 L r o w v s' := by
    rintro z h1 rfl h2
    refine .read h h1 ?_
    unfold execOp
    simp only [ho, hx]
    simp [h2]
  unfold unR at e
  split at e
  · obtain ⟨rfl, rfl⟩ := intR_ok e
    cases hav
    refine fin (.int _ _) rfl ?_
    rename_i k n
    rw [wrp_eq]
    show Result.ok (Value.int k (k.wrap (0 - n))) w = _
    rw [Int.zero_sub]; rfl
  · rename_i k n
    cases hav
    replace e := cd_ok e
    obtain ⟨h1, e⟩ := e
    obtain ⟨h1, h2⟩ := an_true h1
    have h1 := Nat.blt_eq.mp h1
    have h2 := Nat.blt_eq.mp h2
    obtain ⟨rfl, rfl⟩ := intR_ok e
    refine fin (.int _ _) rfl ?_
    have key : ∀ (N : Nat) (hN : k.bits = N) (hs : k.signed = false) (ht : top k = 2 ^ N) (hm : k.max = (2 ^ N - 1 : Nat)), (Op.unary .xor (.int k (n : Int))).run P w = .ok (.int k (Int.ofNat (Nat.sub (Nat.pred (top k)) n))) w := by
      intro N hN hs ht hm
      have hpow : 0 < 2 ^ N := Nat.pow_pos (by omega)
      have hlt : 2 ^ N - 1 - n < top k := by omega
      have e1 : (BitVec.ofInt k.bits ((2 ^ N - 1 : Nat) : Int)).toNat = 2 ^ N - 1 := bv_nat (by omega)
      have e2 : (BitVec.ofInt k.bits (n : Int)).toNat = n := bv_nat h2
      have e3 : (2 ^ N - 1) ^^^ n = 2 ^ N - 1 - n := by
        have := BitVec.toNat_not (x := BitVec.ofNat N n)
        rw [← BitVec.xor_allOnes] at this
        simp only [BitVec.toNat_xor, BitVec.toNat_ofNat, BitVec.toNat_allOnes] at this
        rw [Nat.mod_eq_of_lt (by omega : n < 2 ^ N)] at this
        rw [Nat.xor_comm]; exact this
      simp only [Op.unary, hs, Bool.false_eq_true, if_false, hm, Op.intBits, BitVec.toNat_xor, e1, e2, e3, Sem.run_pure]
      rw [top_wrap k hlt, ht]
      rfl
    cases k <;> first | (simp [kn] at h1; done) | skip
    · exact key 8 rfl rfl rfl (by decide)
    · exact key 16 rfl rfl rfl (by decide)
    · exact key 32 rfl rfl rfl (by decide)
    · exact key 64 rfl rfl rfl (by decide)
  · obtain ⟨rfl, rfl⟩ := boolR_ok e
    cases hav
    exact fin (.bool _) rfl (by rw [nt_eq]; rfl)
  · cases e
end
end Go.RI
namespace Go.RI
open Go Go.RowKit
section
variable {P : Program} {T : Tb} {ρ : Env} {w0 w : World} {L : Loc} {s s' : St} {m : Fm} {v : V} {r : Operand → Value} {o : Oper}

theorem natI_rv {x : V} {n : Nat} (h : natI x = some n) {y : Value} (hy : RV ρ L x y) : ∃ k, y = .int k (n : Int) := by
  obtain ⟨k, rfl⟩ := natI_some h
  cases hy
  exact ⟨k, rfl⟩
theorem bound_run {k : IntKind} {n y : Nat} {code : BoundsCode} (h : n ≤ y) (w : World) : (Instr.sliceBound (.int k (n : Int)) y code).run P w = .ok n w := by
  have : (0 : Int) ≤ (n : Int) ∧ (n : Int) ≤ (y : Int) := ⟨Int.natCast_nonneg n, by omega⟩
  simp only [Instr.sliceBound, asIntOf, Sem.run_bind, Sem.run_pure, Result.andThen_ok, if_pos this]
  simp
theorem optI_spec {x : Option Operand} {d n : Nat} (h : optI m x d = some n) (hr : ∀ y, x = some y → ∀ u, ev m y = some u → RV ρ L u (r y)) : (x = none ∧ n = d) ∨ ∃ y k, x = some y ∧ r y = .int k (n : Int) := by
  cases x with
  | none =>
    have h : some d = some n := h
    injection h with h
    exact .inl ⟨rfl, h.symm⟩
  | some y =>
    have h : on (ev m y) none natI = some n := h
    replace h := on_some h
    obtain ⟨u, hu, h⟩ := h
    obtain ⟨k, hk⟩ := natI_rv h (hr y rfl u hu)
    exact .inr ⟨y, k, rfl, hk⟩
/-- The bounds of a slice expression. -/
theorem bounds_spec {isS : Bool} {len cap a b d : Nat} {lo hi mx : Option Operand} (h1 : optI m lo 0 = some a) (h2 : optI m hi len = some b) (h3 : optI m mx cap = some d) (hab : a ≤ b) (hbd : b ≤ d) (hdc : d ≤ cap) (hx : mx = none ∨ hi ≠ none)
    (hr : ∀ y, (lo = some y ∨ hi = some y ∨ mx = some y) → ∀ u, ev m y = some u → RV ρ L u (r y)) : (Instr.sliceBounds isS len cap (lo.map r) (hi.map r) (mx.map r)).run P w = .ok (a, b, d) w := by
  have k1 := optI_spec h1 (fun y hy => hr y (.inl hy))
  have k2 := optI_spec h2 (fun y hy => hr y (.inr (.inl hy)))
  have k3 := optI_spec h3 (fun y hy => hr y (.inr (.inr hy)))
  have l1 : ∀ (y d : Nat) (code : BoundsCode), a ≤ y → ((match lo.map r with
    | some v => (do let l ← Instr.sliceBound v y code; pure (l, y, d))
    | none => (do let l ← pure 0; pure (l, y, d)) : Sem (Nat × Nat × Nat))).run P w = .ok (a, y, d) w := by
    intro y d code hy
    rcases k1 with ⟨rfl, rfl⟩ | ⟨y1, q1, rfl, e1⟩
    · rfl
    · simp only [Option.map_some, e1, Sem.run_bind, bound_run hy, Result.andThen_ok, Sem.run_pure]
  rcases k3 with ⟨rfl, rfl⟩ | ⟨y3, q3, rfl, e3⟩
  · rcases k2 with ⟨rfl, rfl⟩ | ⟨y2, q2, rfl, e2⟩
    · simp only [Instr.sliceBounds, Option.map_none, Sem.run_bind, Sem.run_pure, Result.andThen_ok]
      exact l1 _ _ _ hab
    · simp only [Instr.sliceBounds, Option.map_none, Option.map_some, Sem.run_bind, Sem.run_pure, Result.andThen_ok, e2, bound_run hbd]
      exact l1 _ _ _ hab
  · rcases k2 with ⟨rfl, rfl⟩ | ⟨y2, q2, rfl, e2⟩
    · rcases hx with hx | hx
      · cases hx
      · exact absurd rfl hx
    · simp only [Instr.sliceBounds, Option.map_some, Sem.run_bind, Sem.run_pure, Result.andThen_ok, e2, e3, bound_run hbd, bound_run hdc]
      exact l1 _ _ _ hab
theorem op_slice {t : TypeId} {x : Operand} {lo hi mx : Option Operand} (hc : Ctx P T ρ w0) (ho : o.op = .slice t x lo hi mx) (h : Rel ρ w0 L s w) (hr : Opd ρ L m r o.op.operands) (e : on (ev m x) Rv.no (fun v => slc T t v lo hi mx m s) = .ok v s') : Good P ρ w0 L r o w v s' := by
  replace e := on_ok e
  obtain ⟨a, ha, e⟩ := e
  have hav := hr x (by simp [ho, Op.operands]) _ ha
  have hrs : ∀ y, (lo = some y ∨ hi = some y ∨ mx = some y) → ∀ u, ev m y = some u → RV ρ L u (r y) := by
    intro y hy
    refine hr y ?_
    rcases hy with rfl | rfl | rfl <;> simp [ho, Op.operands]
  unfold slc at e
  cases hs : isStr T t with
  | true =>
    rw [hs, cd_true] at e
    replace e := cd_ok e
    obtain ⟨hno, e⟩ := e
    have hmx0 : mx = none := by
      cases mx with
      | none => rfl
      | some y => cases hno
    replace e := onStr_ok e
    obtain ⟨l, hq, e⟩ := e
    subst hq
    generalize hx : r x = z at hav
    cases hav with
    | str sb =>
      unfold slcS at e
      replace e := on_ok e
      obtain ⟨a, h1, e⟩ := e
      replace e := on_ok e
      obtain ⟨b, h2, e⟩ := e
      replace e := cd_ok e
      obtain ⟨h4, e⟩ := e
      obtain ⟨h4, h5⟩ := an_true h4
      have h4 := Nat.le_of_ble_eq_true h4
      have h5 := Nat.le_of_ble_eq_true h5
      rw [tk_eq, drp_eq] at e
      obtain ⟨rfl, rfl⟩ := ok_inj e
      rw [len_eq] at h2 h5
      have hlen : (sb.data.toList.map UInt8.toNat).length = sb.size := by simp
      rw [hlen] at h2 h5
      have hb := bounds_spec (P := P) (w := w) (isS := false) (mx := none) h1 h2 (show optI m none sb.size = some sb.size from rfl) h4 h5 (Nat.le_refl _) (.inl rfl) (fun y hy => hrs y (hy.elim .inl fun hy => hy.elim (.inr ∘ .inl) (fun e => by cases e)))
      have hmx : mx = none := hmx0
      have hv : RV ρ L (.str (List.take (Nat.sub b a) (List.drop a (sb.data.toList.map UInt8.toNat)))) (.string (sb.extract a b)) := by
        have := RV.str (ρ := ρ) (L := L) (sb.extract a b)
        rw [ByteArray.data_extract, Array.toList_extract, List.extract_eq_take_drop, List.map_take, List.map_drop] at this
        exact this
      refine .read h hv ?_
      unfold execOp
      simp only [ho, hx, hmx]
      have hp := isStr_spec hc hs
      simp only [Instr.sliceAt, Instr.slice, Sem.run_bind, run_underlying hp, Result.andThen_ok, Option.map_none, Option.isSome_none, Bool.false_eq_true, if_false, Sem.run_pure]
      rw [show (Option.map r (none : Option Operand)) = none from rfl] at hb
      simp only [hb, Result.andThen_ok]
  | false =>
    rw [hs, cd_false] at e
    replace e := on_ok e
    obtain ⟨wd, hwd, e⟩ := e
    obtain ⟨el, hel, hsz⟩ := slK_spec hc hwd
    generalize hx : r x = z at hav
    have hrun : ∀ {A : Option Addr} {n c a b d : Nat}, z = .slice A n c → (Instr.sliceBounds true n c (lo.map r) (hi.map r) (mx.map r)).run P w = .ok (a, b, d) w → (execOp r o).run P w = .ok (.value (.slice (if d = a then A else A.map (·.add (a * wd))) (b - a) (d - a))) w := by
      intro A n c a b d hz hb
      unfold execOp
      simp only [ho, hx, hz]
      simp only [Instr.sliceAt, Instr.slice, Sem.run_bind, run_underlying hel, Result.andThen_ok, hb, run_size hc hsz, Sem.run_pure]
    split at e
    · rename_i p n c
      replace e := cd_ok e
      obtain ⟨hx1, e⟩ := e
      replace e := on_ok e
      obtain ⟨a, h1, e⟩ := e
      replace e := on_ok e
      obtain ⟨b, h2, e⟩ := e
      replace e := on_ok e
      obtain ⟨d, h3, e⟩ := e
      replace e := cd_ok e
      obtain ⟨h4, e⟩ := e
      obtain ⟨h4, h5⟩ := an_true h4
      obtain ⟨h5, h6⟩ := an_true h5
      have h4 := Nat.le_of_ble_eq_true h4
      have h5 := Nat.le_of_ble_eq_true h5
      have h6 := Nat.le_of_ble_eq_true h6
      have hx2 : mx = none ∨ hi ≠ none := by
        cases mx with
        | none => exact .inl rfl
        | some y => cases hi with
          | none => cases hx1
          | some y => exact .inr (by simp)
      have hb := bounds_spec (P := P) (w := w) (isS := true) h1 h2 h3 h4 h5 h6 hx2 hrs
      rw [sN_eq, sN_eq] at e
      cases hav with
      | sl0 =>
        obtain ⟨rfl, rfl⟩ := ok_inj e
        have hd : d = 0 := by omega
        subst hd
        have hb0 : b = 0 := by omega
        subst hb0
        have ha0 : a = 0 := by omega
        subst ha0
        exact .read h .sl0 (hrun rfl hb)
      | sl hp hnc =>
        have e : cd (Nat.beq a d) (Rv.ok (.sl (some _) (Nat.sub b a) (Nat.sub d a)) s) (pAdd _ (Nat.mul a wd) fun p => Rv.ok (.sl (some p) (Nat.sub b a) (Nat.sub d a)) s) = .ok v s' := e
        rw [cd_eq, pAdd_eq] at e
        have hr' := hrun rfl hb
        by_cases hda : d = a
        · subst hda
          rw [if_pos (Nat.beq_refl _)] at e
          obtain ⟨rfl, rfl⟩ := ok_inj e
          rw [if_pos rfl] at hr'
          exact .read h (.sl hp (show b - d ≤ d - d by omega)) hr'
        · rw [if_neg (by rw [beq_iff]; omega)] at e
          obtain ⟨rfl, rfl⟩ := ok_inj e
          rw [if_neg hda] at hr'
          exact .read h (.sl (hp.add (a * wd)) (show b - a ≤ d - a by omega)) hr'
    · rename_i p n w'
      split at e
      · cases e
      · replace e := on_ok e
        obtain ⟨a, h1, e⟩ := e
        replace e := on_ok e
        obtain ⟨b, h2, e⟩ := e
        replace e := cd_ok e
        obtain ⟨h7, e⟩ := e
        obtain ⟨h3, h7⟩ := an_true h7
        obtain ⟨h4, h5⟩ := an_true h7
        obtain ⟨h5, h6⟩ := an_true h5
        have h4 := Nat.le_of_ble_eq_true h4
        have h5 := Nat.le_of_ble_eq_true h5
        have h3 := beq_iff.1 h3
        subst h3
        have h6 : a = 0 ∨ a < n := by
          rw [Bool.or_eq_true] at h6
          rcases h6 with h6 | h6
          · exact .inl (beq_iff.1 h6)
          · exact .inr (Nat.blt_eq.mp h6)
        rw [sN_eq, pAdd_eq] at e
        obtain ⟨rfl, rfl⟩ := ok_inj e
        cases hav with
        | @sg b0 g0 o0 _ _ B base sz c hL hnc hroom =>
          have h3 : optI m (none : Option Operand) c = some c := rfl
          have hb := bounds_spec (P := P) (w := w) (isS := true) h1 h2 h3 h4 (by omega) (Nat.le_refl _) (.inl rfl) hrs
          have hr' := hrun rfl hb
          have hv : RV ρ L (.sg ((Pl.own b0 g0 o0).plus (Nat.mul a wd)) (Nat.sub b a) wd) (.slice (some ⟨B, base + (o0 + a * wd), none⟩) (b - a) (c - a)) := by
            refine .sg hL (by show b - a ≤ c - a; omega) ?_
            have : a * wd + (c - a) * wd = c * wd := by rw [← Nat.add_mul]; congr 1; omega
            show base + (o0 + a * wd) + (c - a) * wd ≤ sz
            omega
          refine .read h hv ?_
          rw [hr']
          by_cases hca : c = a
          · have : a = 0 := by omega
            subst this
            simp [hca]
          · rw [if_neg hca]
            simp [add_own, Nat.add_assoc]
    · cases e
end
end Go.RI
namespace Go.RI
open Go Go.RowKit
section
variable {P : Program} {T : Tb} {ρ : Env} {w0 w : World} {L : Loc} {s s' : St} {m : Fm} {v : V} {r : Operand → Value} {o : Oper}

/-! parts laid into cells -/
theorem putL_eq {β : Type} : ∀ (cs : List V) (o : Nat) (l : List V) (k : List V → β), putL cs o l k = k (cs.take o ++ (l.take (cs.length - o) ++ cs.drop (o + l.length)))
  | [], o, l, k => by simp [putL]
  | x :: r, 0, [], k => by simp [putL]
  | x :: r, 0, y :: l, k => by
    show putL r 0 l (fun r => k (y :: r)) = _
    rw [putL_eq r 0 l]
    simp
  | x :: r, n + 1, l, k => by
    show putL r n l (fun r => k (x :: r)) = _
    rw [putL_eq r n l]
    simp [show n + 1 + l.length = (n + l.length) + 1 by omega]
theorem fold_at : ∀ (l : List Value) (j off : Nat) (C : Array Value), off + j + l.length ≤ C.size → ((l.zipIdx j).foldl (fun (cs : Array Value) (x : Value × Nat) => cs.setIfInBounds (off + x.2) x.1) C).size = C.size ∧ ∀ i, ((l.zipIdx j).foldl (fun (cs : Array Value) (x : Value × Nat) => cs.setIfInBounds (off + x.2) x.1) C)[i]? = if off + j ≤ i ∧ i < off + j + l.length then l[i - (off + j)]? else C[i]?
  | [], j, off, C, h => ⟨rfl, fun i => by rw [if_neg (by simp)]; rfl⟩
  | x :: r, j, off, C, h => by
    simp only [List.length_cons] at h
    obtain ⟨h1, h2⟩ := fold_at r (j + 1) off (C.setIfInBounds (off + j) x) (by simp; omega)
    rw [List.zipIdx_cons, List.foldl_cons]
    refine ⟨by rw [h1]; simp, fun i => ?_⟩
    rw [h2]
    simp only [List.length_cons]
    by_cases c : i = off + j
    · subst c
      rw [if_neg (by omega), if_pos (by omega)]
      simp [show off + j < C.size by omega]
    · by_cases d : off + (j + 1) ≤ i ∧ i < off + (j + 1) + r.length
      · rw [if_pos d, if_pos (by omega)]
        obtain ⟨q, rfl⟩ : ∃ q, i = off + j + 1 + q := ⟨i - (off + j + 1), by omega⟩
        rw [show off + j + 1 + q - (off + (j + 1)) = q by omega, show off + j + 1 + q - (off + j) = q + 1 by omega]
        simp
      · rw [if_neg d, if_neg (by omega), Array.getElem?_setIfInBounds_ne (by omega)]
theorem fold_put (l : List Value) (off : Nat) (xs : List Value) (h : off + l.length ≤ xs.length) : (l.zipIdx 0).foldl (fun (cs : Array Value) (x : Value × Nat) => cs.setIfInBounds (off + x.2) x.1) xs.toArray = (xs.take off ++ (l ++ xs.drop (off + l.length))).toArray := by
  obtain ⟨h1, h2⟩ := fold_at l 0 off xs.toArray (by simpa using h)
  apply Array.ext_getElem?
  intro i
  rw [h2]
  simp only [Nat.add_zero, List.getElem?_toArray, List.getElem?_append, List.length_take, List.getElem?_take, List.getElem?_drop]
  rw [Nat.min_eq_left (by omega)]
  by_cases c1 : i < off
  · rw [if_neg (by omega), if_pos c1, if_pos c1]
  · rw [if_neg c1]
    by_cases c2 : i < off + l.length
    · rw [if_pos (by omega), if_pos (by omega)]
    · rw [if_neg (by omega), if_neg (by omega)]
      congr 1
      omega
theorem RVs.put {l cs : List V} {xs ys : List Value} (h : RVs ρ L cs xs) (k : RVs ρ L l ys) (o : Nat) (hle : o + l.length ≤ cs.length) : RVs ρ L (cs.take o ++ (l.take (cs.length - o) ++ cs.drop (o + l.length))) (xs.take o ++ (ys ++ xs.drop (o + ys.length))) := by
  rw [List.take_of_length_le (by omega : l.length ≤ cs.length - o), k.length]
  exact (h.take o).append (k.append (h.drop _))
/-- The parts of a struct. -/
theorem fillS_spec (hc : Ctx P T ρ w0) {fs : Array Field} : ∀ {ps : List (Nat × Operand)} {cs : List V} {xs : List Value}, fillS T fs.toList ps m cs s = .ok v s' → RVs ρ L cs xs → (∀ x ∈ ps.map (·.2), ∀ u, ev m x = some u → RV ρ L u (r x)) →
    s' = s ∧ ∃ l ys, v = .agg l ∧ RVs ρ L l ys ∧ ∀ (places : Array (Nat × Nat)), (∀ (i : Nat) (f : Field) (n : Nat), fs[i]? = some f → siz T f.type = some n → places[i]? = some (f.offset, n)) →
      Instr.fill (places[·]?) xs.toArray (ps.map fun x => (x.1, r x.2)) = some ys.toArray
  | [], cs, xs, e, h, hr => by
    obtain ⟨rfl, rfl⟩ := ok_inj e
    exact ⟨rfl, cs, xs, rfl, h, fun places hp => rfl⟩
  | (i, x) :: q, cs, xs, e, h, hr => by
    replace e : on (nth fs.toList i) Rv.no _ = .ok v s' := e
    replace e := on_ok e
    obtain ⟨f, hf, e⟩ := e
    replace e := on_ok e
    obtain ⟨u, hu, e⟩ := e
    replace e := on_ok e
    obtain ⟨n, hn, e⟩ := e
    replace e := cd_ok e
    obtain ⟨h1, e⟩ := e
    obtain ⟨h1, h2⟩ := an_true h1
    have h1 := beq_iff.1 h1
    have h2 := Nat.le_of_ble_eq_true h2
    rw [len_eq] at h1 h2
    have h2 : f.offset + n ≤ cs.length := h2
    rw [putL_eq] at e
    have hcs := (hr x (by simp) u hu).cs hc.un
    have hlx := hcs.length
    have hput := h.put hcs f.offset (by omega)
    obtain ⟨rfl, l, ys, rfl, h3, h4⟩ := fillS_spec hc e hput (fun y hy => hr y (by simp at hy ⊢; exact .inr hy))
    refine ⟨rfl, l, ys, rfl, h3, fun places hp => ?_⟩
    have h5 := h4 places hp
    rw [nth_eq] at hf
    have h6 := hp i f n (by simpa using hf) hn
    have hxl := h.length
    simp only [List.map_cons, Instr.fill, h6]
    have h7 : ¬ ((r x).cells.size ≠ n || f.offset + (r x).cells.size > xs.toArray.size) = true := by
      have : (r x).cells.size = n := by simp at hlx; omega
      simp [this]; omega
    rw [if_neg (by simpa using h7)]
    have h8 := fold_put (r x).cells.toList f.offset xs (by simp at hlx ⊢; omega)
    have h9 : (Array.foldl (fun (cs : Array Value) (x : Value × Nat) => cs.setIfInBounds (f.offset + x.2) x.1) xs.toArray (r x).cells.zipIdx) = (xs.take f.offset ++ ((r x).cells.toList ++ xs.drop (f.offset + (r x).cells.toList.length))).toArray := by
      rw [← h8, ← Array.foldl_toList, Array.toList_zipIdx]
    rw [h9]
    exact h5
end
end Go.RI
namespace Go.RI
open Go Go.RowKit
section
variable {P : Program} {T : Tb} {ρ : Env} {w0 w : World} {L : Loc} {s s' : St} {m : Fm} {v : V} {r : Operand → Value} {o : Oper}

theorem places_of {l : List Field} (h : ∀ f ∈ l, ∃ i, P.info? f.type = some i) : ∃ places : List (Nat × Nat), l.mapM (fun f => (P.info? f.type).map fun i => (f.offset, i.size)) = some places ∧ ∀ (k : Nat) (f : Field) (i : TypeInfo), l[k]? = some f → P.info? f.type = some i → places[k]? = some (f.offset, i.size) := by
  induction l with
  | nil => exact ⟨[], rfl, fun k f i e => by simp at e⟩
  | cons f l ih =>
    obtain ⟨places, h1, h2⟩ := ih (fun g hg => h g (List.mem_cons_of_mem _ hg))
    obtain ⟨i, hi⟩ := h f List.mem_cons_self
    refine ⟨(f.offset, i.size) :: places, by simp [List.mapM_cons, hi, h1], fun k g j e1 e2 => ?_⟩
    cases k with
    | zero =>
      simp at e1
      subst e1
      rw [hi] at e2
      injection e2 with e2
      subst e2
      rfl
    | succ k => simpa using h2 k g j (by simpa using e1) e2
theorem stOk_spec (hc : Ctx P T ρ w0) {fs : List Field} (h : stOk T fs = true) : ∀ f ∈ fs, ∃ i, P.info? f.type = some i := by
  intro f hf
  unfold stOk at h
  rw [List.all_eq_true] at h
  have := h f hf
  cases hs : siz T f.type with
  | none => rw [hs] at this; cases this
  | some n => obtain ⟨i, hi, -⟩ := siz_spec hc hs; exact ⟨i, hi⟩
/-- The parts of an array. -/
theorem fillA_spec (hc : Ctx P T ρ w0) {n : Nat} {k : List V → Rv} : ∀ {ps : List (Nat × Operand)} {cs : List V} {xs : List Value}, fillA n ps m cs k = .ok v s' → RVs ρ L cs xs → (∀ x ∈ ps.map (·.2), ∀ u, ev m x = some u → RV ρ L u (r x)) →
    ∃ l ys, k l = .ok v s' ∧ RVs ρ L l ys ∧ Instr.fill (fun i => some (i * n, n)) xs.toArray (ps.map fun x => (x.1, r x.2)) = some ys.toArray
  | [], cs, xs, e, h, hr => ⟨cs, xs, e, h, rfl⟩
  | (i, x) :: q, cs, xs, e, h, hr => by
    replace e : on (ev m x) Rv.no _ = .ok v s' := e
    replace e := on_ok e
    obtain ⟨u, hu, e⟩ := e
    replace e := cd_ok e
    obtain ⟨h1, e⟩ := e
    obtain ⟨h1, h2⟩ := an_true h1
    have h1 := beq_iff.1 h1
    have h2 := Nat.le_of_ble_eq_true h2
    rw [len_eq] at h1 h2
    have h2 : i * n + n ≤ cs.length := h2
    rw [putL_eq] at e
    have hcs := (hr x (by simp) u hu).cs hc.un
    have hlx := hcs.length
    have hput := h.put hcs (i * n) (by omega)
    obtain ⟨l, ys, h0, h3, h4⟩ := fillA_spec hc e hput (fun y hy => hr y (by simp at hy ⊢; exact .inr hy))
    refine ⟨l, ys, h0, h3, ?_⟩
    have hxl := h.length
    simp only [List.map_cons, Instr.fill]
    have h7 : ¬ ((r x).cells.size ≠ n || i * n + (r x).cells.size > xs.toArray.size) = true := by
      have : (r x).cells.size = n := by simp at hlx; omega
      simp [this]; omega
    rw [if_neg (by simpa using h7)]
    have h8 := fold_put (r x).cells.toList (i * n) xs (by simp at hlx ⊢; omega)
    have h9 : (Array.foldl (fun (cs : Array Value) (x : Value × Nat) => cs.setIfInBounds (i * n + x.2) x.1) xs.toArray (r x).cells.zipIdx) = (xs.take (i * n) ++ ((r x).cells.toList ++ xs.drop (i * n + (r x).cells.toList.length))).toArray := by
      rw [← h8, ← Array.foldl_toList, Array.toList_zipIdx]
    rw [h9]
    exact h4
theorem op_build {t : TypeId} {ps : Array (Nat × Operand)} (hc : Ctx P T ρ w0) (ho : o.op = .build t ps) (h : Rel ρ w0 L s w) (hr : Opd ρ L m r o.op.operands) (e : bldS T t ps.toList m s = .ok v s') : Good P ρ w0 L r o w v s' := by
  have hro : ∀ x ∈ ps.toList.map (·.2), ∀ u, ev m x = some u → RV ρ L u (r x) := fun x hx => hr x (by simpa [ho, Op.operands] using hx)
  have fin : ∀ {l : List V} {ys : List Value}, s' = s → v = .agg l → RVs ρ L l ys → P.built t (ps.map fun (i, x) => (i, r x)).toList = some ys.toArray → Good P ρ w0 L r o w v s' := by
    rintro l ys rfl rfl h1 h2
    refine .read h (.agg h1) ?_
    unfold execOp
    simp only [ho, Sem.run_bind, run_build w t _ _ h2, Result.andThen_ok, Sem.run_pure]
  have hmap : (ps.map fun (i, x) => (i, r x)).toList = ps.toList.map fun x => (x.1, r x.2) := by simp
  unfold bldS at e
  split at e
  · rename_i fs z hu hz
    replace e := cd_ok e
    obtain ⟨hok, e⟩ := e
    obtain ⟨i, z', g1, g2, -, g3, -⟩ := zer_spec hc hz
    obtain ⟨places, p1, p2⟩ := places_of (stOk_spec hc hok)
    obtain ⟨rfl, l, ys, rfl, h3, h4⟩ := fillS_spec hc e ((g3 L).cs hc.un) hro
    refine fin rfl rfl h3 ?_
    unfold Program.built
    rw [g1, und_spec hc hu]
    simp only [g2, p1]
    rw [hmap]
    have := h4 places.toArray (fun k f n hk hn => by
      obtain ⟨j, hj, rfl⟩ := siz_spec hc hn
      simpa using p2 k f j (by simpa using hk) hj)
    simpa using this
  · rename_i n e' z hu hz
    split at e
    · rename_i wd hw
      obtain ⟨i, z', g1, g2, -, g3, -⟩ := zer_spec hc hz
      obtain ⟨l, ys, h0, h3, h4⟩ := fillA_spec hc e ((g3 L).cs hc.un) hro
      obtain ⟨rfl, rfl⟩ := ok_inj h0
      obtain ⟨j, hj, rfl⟩ := siz_spec hc hw
      refine fin rfl rfl h3 ?_
      unfold Program.built
      rw [g1, und_spec hc hu]
      simp only [g2, hj]
      rw [hmap]
      simpa using h4
    · cases e
  · cases e
theorem rep_eq {β : Type} (z : List V) : ∀ (n : Nat) (k : List V → β), rep z n k = k (List.replicate n z).flatten
  | 0, k => rfl
  | n + 1, k => by
    show rep z n (fun r => k (z ++ r)) = _
    rw [rep_eq z n]
    rfl
theorem RVs.rep {z : List V} {x : List Value} (h : RVs ρ L z x) : ∀ n, RVs ρ L (List.replicate n z).flatten (List.replicate n x).flatten
  | 0 => .nil
  | n + 1 => h.append (RVs.rep h n)
theorem made_eq {z : Array Value} (hz : 0 < z.size) : ∀ n, (madeCells z (n * z.size)).toList = (List.replicate n z.toList).flatten := by
  intro n
  apply List.ext_getElem?
  intro i
  have key : ∀ n i, ((List.replicate n z.toList).flatten)[i]? = if i < n * z.size then z[i % z.size]? else none := by
    intro n
    induction n with
    | zero => intro i; simp
    | succ n ih =>
      intro i
      rw [List.replicate_succ, List.flatten_cons, List.getElem?_append]
      by_cases c : i < z.toList.length
      · have c' : i < z.size := by simpa using c
        rw [if_pos c, if_pos (by rw [Nat.succ_mul]; omega), Nat.mod_eq_of_lt c']
        simp
      · have c' : z.size ≤ i := by simpa using c
        rw [if_neg c, ih]
        have h1 : (i - z.toList.length) % z.size = i % z.size := by
          rw [Array.length_toList, ← Nat.mod_eq_sub_mod c']
        rw [h1]
        have h2 : (i - z.toList.length < n * z.size) ↔ (i < (n + 1) * z.size) := by
          rw [Array.length_toList, Nat.succ_mul]; omega
        by_cases d : i < (n + 1) * z.size
        · rw [if_pos d, if_pos (h2.2 d)]
        · rw [if_neg d, if_neg (fun q => d (h2.1 q))]
  rw [key]
  unfold madeCells
  by_cases c : i < n * z.size
  · have : i % z.size < z.size := Nat.mod_lt _ hz
    simp [c, this]
  · simp [c]
end
end Go.RI
