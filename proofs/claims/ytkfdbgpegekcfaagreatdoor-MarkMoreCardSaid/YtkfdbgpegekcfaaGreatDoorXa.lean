/-
  A logic over heaps on top of the kit's Code.wp: heaps, what one operation of the model does to a heap, in continuation style (A1: the words).
  What one operation of the model comes to, said of heaps (A2: the operations, and that what is said is so).
  Regions and code, said of heaps (A3: the predicate transformer W).
  That what A2 says of an operation is so (A4).
  That what A2 says of an operation is so, continued (A5).
  That what A2 says of an operation is so: all of them (A6).
  Every operation, as A2 says it, is as the model runs it (A7).
  Regions, as A3 says them, are as the model runs them (A8).
  Regions that draw, code, functions: as A3 says them, they are as the model runs them (A9).
  Code and functions: as A3 says them, they are as the model runs them (A10).
  Code and functions: as A3 says them, they are as the model runs them (A11).
  Code and functions: as A3 says them, they are as the model runs them (A12: W is sound; a printed function is what a call of it comes to).
  Functions: a printed function is what a call of it comes to (A13).
-/
import Derived.Orders
import Derived.Laws.Sem
import Derived.Laws.Tables
import Derived.Laws.Small
import Derived.Laws.StructEq
import Derived.Laws.Cells
import Derived.OrdersHeld
import Derived.Deep.LoopGhost

namespace Go.GL

abbrev H := Array Obj

def cell (h : H) (a : Addr) : Option Value :=
  match h[a.block]? with
  | some (.cells c _ _) => if a.spot.isSome then none else c[a.off]?
  | _ => none

def frz (h : H) (a : Addr) : Bool :=
  match h[a.block]? with
  | some (.cells _ _ (lo, hi)) => lo ≤ a.off && a.off < hi
  | _ => false

def setC (h : H) (a : Addr) (v : Value) : H :=
  h.modify a.block fun
    | .cells c elem frozen => .cells (if a.spot.isSome then c else c.setIfInBounds a.off v) elem frozen
    | o => o

def Same (w w' : World) : Prop := w'.tape = w.tape ∧ w'.os = w.os ∧ w'.output = w.output

theorem Same.refl (w : World) : Same w w := ⟨rfl, rfl, rfl⟩
theorem Same.trans {a b c : World} (h : Same a b) (h' : Same b c) : Same a c :=
  ⟨h'.1.trans h.1, h'.2.1.trans h.2.1, h'.2.2.trans h.2.2⟩

/-- A call comes back, and what came of it satisfies K, whatever else the world is. -/
def CallsH (P : Program) (f : FuncId) (args : Array Value) (h : H) (K : Value → H → Prop) : Prop :=
  ∀ w : World, w.heap = h → Calls P f args w fun e w' => ∃ v, e = .returned v ∧ Same w w' ∧ K v w'.heap

/-- What an operation may come to, said of heaps. -/
def RunS (P : Program) (s : Sem Next) (h : H) (K : Value → H → Prop) : Prop :=
  ∀ w : World, w.heap = h → match s.run P w with
    | .ok (.value v) w' => Same w w' ∧ K v w'.heap
    | .ok .skip w' => Same w w' ∧ K undef w'.heap
    | .ok (.enter f args) w' => Same w w' ∧ CallsH P f args w'.heap K
    | _ => False

/-- The same of an operation that gives a value. -/
def RunV (P : Program) (s : Sem Value) (h : H) (K : Value → H → Prop) : Prop :=
  ∀ w : World, w.heap = h → match s.run P w with
    | .ok v w' => Same w w' ∧ K v w'.heap
    | _ => False

def RunU (P : Program) (s : Sem Unit) (h : H) (K : H → Prop) : Prop :=
  ∀ w : World, w.heap = h → match s.run P w with
    | .ok _ w' => Same w w' ∧ K w'.heap
    | _ => False

/-! ### The words that a printed text is made of -/

def nilC (p : Option Addr) (K : Addr → Prop) : Prop := ∃ a, p = some a ∧ K a
def ldV (h : H) (a : Addr) (K : Value → Prop) : Prop := ∃ v, cell h a = some v ∧ K v
def exI (k : IntKind) (v : Value) (K : Int → Prop) : Prop := ∃ n, v = .int k n ∧ K n
def exB (v : Value) (K : Bool → Prop) : Prop := ∃ b, v = .bool b ∧ K b
def exS (v : Value) (K : ByteArray → Prop) : Prop := ∃ s, v = .string s ∧ K s
def exP (v : Value) (K : Option Addr → Prop) : Prop := ∃ p, v = .pointer p ∧ K p
def exL (v : Value) (K : Option Addr → Nat → Nat → Prop) : Prop := ∃ p n c, v = .slice p n c ∧ K p n c
def exM (v : Value) (K : Option Nat → Prop) : Prop := ∃ r, v = .map r ∧ K r
def exF (v : Value) (K : TypeId → Value → Prop) : Prop := ∃ t x, v = .iface t x ∧ K t x
def ldI (h : H) (a : Addr) (k : IntKind) (K : Int → Prop) : Prop := ∃ n, cell h a = some (.int k n) ∧ K n
def ldB (h : H) (a : Addr) (K : Bool → Prop) : Prop := ∃ b, cell h a = some (.bool b) ∧ K b
def ldS (h : H) (a : Addr) (K : ByteArray → Prop) : Prop := ∃ s, cell h a = some (.string s) ∧ K s
def ldP (h : H) (a : Addr) (K : Option Addr → Prop) : Prop := ∃ p, cell h a = some (.pointer p) ∧ K p
def ldL (h : H) (a : Addr) (K : Option Addr → Nat → Nat → Prop) : Prop := ∃ p n c, cell h a = some (.slice p n c) ∧ K p n c
def ldM (h : H) (a : Addr) (K : Option Nat → Prop) : Prop := ∃ r, cell h a = some (.map r) ∧ K r
def ldF (h : H) (a : Addr) (K : TypeId → Value → Prop) : Prop := ∃ t x, cell h a = some (.iface t x) ∧ K t x

def canSt (h : H) (a : Addr) : Prop := (∃ v, cell h a = some v) ∧ frz h a = false
def stC (h : H) (a : Addr) (v : Value) (K : H → Prop) : Prop := canSt h a ∧ K (setC h a v)
def newC (h : H) (cs : List Value) (t : TypeId) (K : Addr → H → Prop) : Prop := K ⟨h.size, 0, none⟩ (h.push (.cells ⟨cs⟩ t))
def idx (base : Option Addr) (len : Nat) (i : Int) (size : Nat) (K : Addr → Prop) : Prop :=
  ∃ a, base = some a ∧ 0 ≤ i ∧ i < len ∧ K (a.add (i.toNat * size))
def idxA (a : Addr) (len : Nat) (i : Int) (size : Nat) (K : Addr → Prop) : Prop := 0 ≤ i ∧ i < len ∧ K (a.add (i.toNat * size))
def slcBase (base : Option Addr) (cap lo size : Nat) : Option Addr := if cap = lo then base else base.map (·.add (lo * size))
def slc (base : Option Addr) (len cap size : Nat) (lo hi : Option Int) (K : Option Addr → Nat → Nat → Prop) : Prop :=
  ∃ l u : Nat, (match hi with | some i => i = (u : Int) | none => u = len) ∧ (match lo with | some i => i = (l : Int) | none => l = 0) ∧ l ≤ u ∧ u ≤ cap ∧
    K (slcBase base cap l size) (u - l) (cap - l)
def split (b : Bool) (X Y : Prop) : Prop := (b = true → X) ∧ (b = false → Y)
def need (p : Prop) (K : Prop) : Prop := p ∧ K
def callC (P : Program) (f : FuncId) (args : List Value) (h : H) (K : Value → H → Prop) : Prop := CallsH P f ⟨args⟩ h K
def rawV (P : Program) (s : Sem Value) (h : H) (K : Value → H → Prop) : Prop := RunV P s h K
def rawU (P : Program) (s : Sem Unit) (h : H) (K : H → Prop) : Prop := RunU P s h K
def rawN (P : Program) (s : Sem Next) (h : H) (K : Value → H → Prop) : Prop := RunS P s h K
/-- A join: what follows is said once. -/
def joinP {α : Sort _} (c : α) (f : α → Prop) : Prop := f c

/-- Bits of two numbers of one kind. -/
def bitsI (op : BinOp) (k : IntKind) (x y : Int) : Int :=
  let a := BitVec.ofInt k.bits x
  let b := BitVec.ofInt k.bits y
  k.wrap (match op with
    | .and => (a &&& b).toNat
    | .or => (a ||| b).toNat
    | .xor => (a ^^^ b).toNat
    | _ => (a &&& ~~~b).toNat)
def shlI (k : IntKind) (x y : Int) : Int := k.wrap (x * 2 ^ (min y.toNat k.bits))
def shrI (k : IntKind) (x y : Int) : Int := x.fdiv (2 ^ (min y.toNat k.bits))

/-! ### Slots -/

inductive Slot where
  | val (v : Value)
  | lit (b : Bool)

def Slot.v : Slot → Value
  | .val v => v
  | .lit b => .bool b

abbrev Env := List (Nat × Slot)

def Env.get : Env → Nat → Option Slot
  | [], _ => none
  | (i, s) :: r, t => match Nat.beq i t with
    | true => some s
    | false => Env.get r t

def ev (e : Env) : Operand → Option Slot
  | .tmp t => e.get t
  | .const v => match v with
    | .bool b => some (.lit b)
    | v => some (.val v)
  | .global g => some (.val (.pointer (some ⟨g, 0, none⟩)))
  | .func f => some (.val (.func (.func f) #[] #[]))

def evV (e : Env) (x : Operand) : Option Value := match ev e x with
  | some s => some s.v
  | none => none

/-- The operands' values; where one is missing: undef (every use asks that none is). -/
def rho (e : Env) (x : Operand) : Value := match evV e x with
  | some v => v
  | none => undef

def evs (e : Env) : List Operand → Option (List Value)
  | [] => some []
  | x :: r => match evV e x, evs e r with
    | some v, some vs => some (v :: vs)
    | _, _ => none

/-! ### What cells hold -/

inductive CK where
  | i (k : IntKind) | b | s | p | l | m | f | raw

def ckOf (P : Program) (t : TypeId) : Option CK := match P.underlying t with
  | some (.int k) => some (.i k)
  | some .bool => some .b
  | some .string => some .s
  | some (.pointer _) => some .p
  | some (.slice _) => some .l
  | some (.map _ _) => some .m
  | some (.interface _) => some .f
  | some (.func _ _ _) => some .raw
  | _ => none

/-- The kinds of a struct's or an array's cells, in order. -/
def flat (P : Program) : Nat → TypeId → Option (List CK)
  | 0, _ => none
  | n + 1, t => match P.underlying t with
    | some (.struct fs) => fs.toList.foldr (fun f r => match flat P n f.type, r with
        | some a, some b => some (a ++ b)
        | _, _ => none) (some [])
    | some (.array len e) => match flat P n e with
        | some a => some ((List.replicate len a).flatten)
        | none => none
    | _ => match ckOf P t with
        | some k => some [k]
        | none => none

def isAggT (P : Program) (t : TypeId) : Bool := match P.underlying t with
  | some (.struct _) | some (.array _ _) => true
  | _ => false

/-- v is of the kind: its parts handed on. -/
def exK : CK → Value → (Value → Prop) → Prop
  | .i k, v, K => exI k v fun n => K (.int k n)
  | .b, v, K => exB v fun b => K (.bool b)
  | .s, v, K => exS v fun s => K (.string s)
  | .p, v, K => exP v fun p => K (.pointer p)
  | .l, v, K => exL v fun p n c => K (.slice p n c)
  | .m, v, K => exM v fun r => K (.map r)
  | .f, v, K => exF v fun t x => K (.iface t x)
  | .raw, v, K => K v

def ldK (h : H) (a : Addr) : CK → (Value → Prop) → Prop
  | .i k, K => ldI h a k fun n => K (.int k n)
  | .b, K => ldB h a fun b => K (.bool b)
  | .s, K => ldS h a fun s => K (.string s)
  | .p, K => ldP h a fun p => K (.pointer p)
  | .l, K => ldL h a fun p n c => K (.slice p n c)
  | .m, K => ldM h a fun r => K (.map r)
  | .f, K => ldF h a fun t x => K (.iface t x)
  | .raw, K => ldV h a K

def ldKs (h : H) (a : Addr) (K : List Value → Prop) : Nat → List CK → List Value → Prop
  | _, [], acc => K acc.reverse
  | i, k :: ks, acc => ldK h (a.add i) k fun v => ldKs h a K (i + 1) ks (v :: acc)

def exVs (K : List Value → Prop) : List CK → List Value → List Value → Prop
  | [], [], acc => K acc.reverse
  | k :: ks, v :: vs, acc => exK k v fun v' => exVs K ks vs (v' :: acc)
  | _, _, _ => False

def exAgg (n : Nat) (v : Value) (K : List Value → Prop) : Prop := ∃ vs : List Value, vs.length = n ∧ v = .agg ⟨vs⟩ ∧ K vs
def exTup (n : Nat) (v : Value) (K : List Value → Prop) : Prop := ∃ vs : List Value, vs.length = n ∧ v = .tuple ⟨vs⟩ ∧ K vs
def exAgg1 (v : Value) (K : Value → Prop) : Prop := ∃ a, v = .agg #[a] ∧ K a
def exAgg2 (v : Value) (K : Value → Value → Prop) : Prop := ∃ a b, v = .agg #[a, b] ∧ K a b
def exAgg3 (v : Value) (K : Value → Value → Value → Prop) : Prop := ∃ a b c, v = .agg #[a, b, c] ∧ K a b c
def exAgg4 (v : Value) (K : Value → Value → Value → Value → Prop) : Prop := ∃ a b c d, v = .agg #[a, b, c, d] ∧ K a b c d
def exAgg5 (v : Value) (K : Value → Value → Value → Value → Value → Prop) : Prop := ∃ a b c d e, v = .agg #[a, b, c, d, e] ∧ K a b c d e
def exAgg6 (v : Value) (K : Value → Value → Value → Value → Value → Value → Prop) : Prop := ∃ a b c d e f, v = .agg #[a, b, c, d, e, f] ∧ K a b c d e f
def exTup0 (v : Value) (K : Prop) : Prop := v = .tuple #[] ∧ K
def exTup2 (v : Value) (K : Value → Value → Prop) : Prop := ∃ a b, v = .tuple #[a, b] ∧ K a b
def exTup3 (v : Value) (K : Value → Value → Value → Prop) : Prop := ∃ a b c, v = .tuple #[a, b, c] ∧ K a b c
def exTup4 (v : Value) (K : Value → Value → Value → Value → Prop) : Prop := ∃ a b c d, v = .tuple #[a, b, c, d] ∧ K a b c d
def exTup5 (v : Value) (K : Value → Value → Value → Value → Value → Prop) : Prop := ∃ a b c d e, v = .tuple #[a, b, c, d, e] ∧ K a b c d e

def depthT : Nat := 12

/-- The shape of a type that is no tuple: a struct or an array, and the kinds of its cells; of a result: many, and each. -/
abbrev Sh1 := Bool × List CK
abbrev Sh := Bool × List Sh1

def sh1T (P : Program) (t : TypeId) : Option Sh1 := match isAggT P t with
  | true => match flat P depthT t with
    | some ks => some (true, ks)
    | none => none
  | false => match ckOf P t with
    | some k => some (false, [k])
    | none => none

def sh1Ts (P : Program) : List TypeId → Option (List Sh1)
  | [] => some []
  | t :: ts => match sh1T P t, sh1Ts P ts with
    | some s, some r => some (s :: r)
    | _, _ => none

def shT (P : Program) (t : TypeId) : Option Sh := match P.underlying t with
  | some (.tuple ts) => match sh1Ts P ts.toList with
    | some l => some (true, l)
    | none => none
  | _ => match sh1T P t with
    | some s => some (false, [s])
    | none => none

/-- A value of a shape: its parts. -/
def ex1 (s : Sh1) (v : Value) (K : Value → Prop) : Prop := match s with
  | (true, ks) => match ks with
    | [k1] => exAgg1 v fun a => exVs (fun vs => K (.agg ⟨vs⟩)) [k1] [a] []
    | [k1, k2] => exAgg2 v fun a b => exVs (fun vs => K (.agg ⟨vs⟩)) [k1, k2] [a, b] []
    | [k1, k2, k3] => exAgg3 v fun a b c => exVs (fun vs => K (.agg ⟨vs⟩)) [k1, k2, k3] [a, b, c] []
    | [k1, k2, k3, k4] => exAgg4 v fun a b c d => exVs (fun vs => K (.agg ⟨vs⟩)) [k1, k2, k3, k4] [a, b, c, d] []
    | [k1, k2, k3, k4, k5] => exAgg5 v fun a b c d e => exVs (fun vs => K (.agg ⟨vs⟩)) [k1, k2, k3, k4, k5] [a, b, c, d, e] []
    | [k1, k2, k3, k4, k5, k6] => exAgg6 v fun a b c d e f => exVs (fun vs => K (.agg ⟨vs⟩)) [k1, k2, k3, k4, k5, k6] [a, b, c, d, e, f] []
    | ks => exAgg ks.length v fun vs => K (.agg ⟨vs⟩)
  | (false, [k]) => exK k v K
  | _ => K v

def ex1s (K : List Value → Prop) : List Sh1 → List Value → List Value → Prop
  | [], [], acc => K acc.reverse
  | s :: ss, v :: vs, acc => ex1 s v fun v' => ex1s K ss vs (v' :: acc)
  | _, _, _ => False

def exR (s : Sh) (v : Value) (K : Value → Prop) : Prop := match s with
  | (true, l) => match l with
    | [] => exTup0 v (K (.tuple #[]))
    | [a, b] => exTup2 v fun x y => ex1s (fun vs => K (.tuple ⟨vs⟩)) [a, b] [x, y] []
    | [a, b, c] => exTup3 v fun x y z => ex1s (fun vs => K (.tuple ⟨vs⟩)) [a, b, c] [x, y, z] []
    | [a, b, c, d] => exTup4 v fun x y z u => ex1s (fun vs => K (.tuple ⟨vs⟩)) [a, b, c, d] [x, y, z, u] []
    | [a, b, c, d, e] => exTup5 v fun x y z u s => ex1s (fun vs => K (.tuple ⟨vs⟩)) [a, b, c, d, e] [x, y, z, u, s] []
    | l => exTup l.length v fun vs => K (.tuple ⟨vs⟩)
  | (false, [s]) => ex1 s v K
  | _ => K v

/-- A value of type t, a tuple perhaps. -/
def exT (P : Program) (t : TypeId) (v : Value) (K : Value → Prop) : Prop := match shT P t with
  | some s => exR s v K
  | none => K v

end Go.GL

namespace Go.GL

def sizeT (P : Program) (t : TypeId) : Option Nat := match P.info? t with
  | some i => some i.size
  | none => none

def ikN : IntKind → Nat
  | .i8 => 0 | .i16 => 1 | .i32 => 2 | .i64 => 3 | .u8 => 4 | .u16 => 5 | .u32 => 6 | .u64 => 7

def oneC (v : Value) (K : Prop) : Prop := match v with
  | .agg _ => False
  | .tuple _ => False
  | _ => K

def stL : H → Addr → Nat → List Value → (H → Prop) → Prop
  | h, _, _, [], K => K h
  | h, a, i, v :: r, K => oneC v (stC h (a.add i) v fun h' => stL h' a (i + 1) r K)

def nilOp (x : Option Value) (K : Value → Prop) : Prop := match x with
  | some (.pointer p) => nilC p fun a => K (.pointer (some a))
  | some (.func (.func f) fs cs) => K (.func (.func f) fs cs)
  | some (.iface t v) => K (.iface t v)
  | _ => False

def ldOp (P : Program) (t : TypeId) (x : Option Value) (h : H) (K : Value → H → Prop) : Prop := match x with
  | some (.pointer (some a)) => match isAggT P t with
    | true => match flat P depthT t with
      | some ks => match sizeT P t with
        | some n => match Nat.beq ks.length n with
          | true => ldKs h a (fun vs => K (.agg ⟨vs⟩) h) 0 ks []
          | false => False
        | none => False
      | none => False
    | false => match ckOf P t with
      | some k => ldK h a k fun v => K v h
      | none => False
  | _ => False

def stOp (P : Program) (t : TypeId) (x : Option Value) (v : Option Value) (h : H) (K : Value → H → Prop) : Prop := match x with
  | some (.pointer (some a)) => match v with
    | some v => match sizeT P t with
      | some n => match v with
        | .agg ⟨vs⟩ => match Nat.beq vs.length n with
          | true => stL h a 0 vs fun h' => K undef h'
          | false => False
        | v => match Nat.beq 1 n with
          | true => stL h a 0 [v] fun h' => K undef h'
          | false => False
      | none => False
    | none => False
  | _ => False

def faOp (P : Program) (s : TypeId) (x : Option Value) (f : Nat) (K : Value → Prop) : Prop := match x with
  | some (.pointer (some a)) => match P.underlying s with
    | some (.struct fs) => match fs.toList[f]? with
      | some fd => match sizeT P fd.type with
        | some (_ + 1) => K (.pointer (some (a.add fd.offset)))
        | _ => False
      | none => False
    | _ => False
  | _ => False

def iaOp (P : Program) (t : TypeId) (x i : Option Value) (K : Value → Prop) : Prop := match x, i with
  | some (.slice base len _), some (.int _ n) => match P.underlying t with
    | some (.slice el) => match sizeT P el with
      | some sz => idx base len n sz fun a => K (.pointer (some a))
      | none => False
    | _ => False
  | some (.pointer (some a)), some (.int _ n) => match P.underlying t with
    | some (.array len el) => match sizeT P el with
      | some sz => idxA a len n sz fun a => K (.pointer (some a))
      | none => False
    | _ => False
  | _, _ => False

/-- A byte of a string; an element of one cell of an array value. -/
def sIdx (s : ByteArray) (i : Int) (K : Int → Prop) : Prop := 0 ≤ i ∧ ∃ b, s[i.toNat]? = some b ∧ K b.toNat
def ixOp (P : Program) (t : TypeId) (x i : Option Value) (K : Value → Prop) (raw : Value → Value → Prop) : Prop := match x, i with
  | some (.string s), some (.int _ n) => match P.underlying t with
    | some .string => sIdx s n fun b => K (.int .u8 b)
    | _ => False
  | some v, some (.int k n) => raw v (.int k n)
  | _, _ => False

/-- A slice's bound: none there, or a number. -/
def bnd (x : Option Operand) (e : Env) : Option (Option Int) := match x with
  | none => some none
  | some x => match evV e x with
    | some (.int _ n) => some (some n)
    | _ => none

def sslc (s : ByteArray) (lo hi : Option Int) (K : ByteArray → Prop) : Prop :=
  ∃ l u : Nat, (match hi with | some i => i = (u : Int) | none => u = s.size) ∧ (match lo with | some i => i = (l : Int) | none => l = 0) ∧ l ≤ u ∧ u ≤ s.size ∧ K (s.extract l u)

def slOp (P : Program) (t : TypeId) (x : Option Value) (lo hi : Option (Option Int)) (K : Value → Prop) : Prop := match x, lo, hi with
  | some (.slice b n c), some lo, some hi => match P.underlying t with
    | some (.slice el) => match sizeT P el with
      | some sz => slc b n c sz lo hi fun b n c => K (.slice b n c)
      | none => False
    | _ => False
  | some (.string s), some lo, some hi => match P.underlying t with
    | some .string => sslc s lo hi fun s => K (.string s)
    | _ => False
  | some (.pointer (some a)), some lo, some hi => match P.underlying t with
    | some (.array n el) => match sizeT P el with
      | some sz => slc (some a) n n sz lo hi fun b n c => K (.slice b n c)
      | none => False
    | _ => False
  | _, _, _ => False

def binRaw (P : Program) (op : BinOp) (t : TypeId) (x y : Operand) (vx vy : Value) (h : H) (K : Value → H → Prop) : Prop :=
  rawV P (do eqGuard op t x y vx vy; binOp op t vx vy) h K

def binI (op : BinOp) (k : IntKind) (a b : Int) (K : Value → Prop) : Prop := match op with
  | .add => K (.int k (k.wrap (a + b)))
  | .sub => K (.int k (k.wrap (a - b)))
  | .mul => K (.int k (k.wrap (a * b)))
  | .quo => need (b ≠ 0) (K (.int k (k.wrap (a.tdiv b))))
  | .rem => need (b ≠ 0) (K (.int k (a.tmod b)))
  | .and => K (.int k (bitsI .and k a b))
  | .or => K (.int k (bitsI .or k a b))
  | .xor => K (.int k (bitsI .xor k a b))
  | .andNot => K (.int k (bitsI .andNot k a b))
  | .eql => K (.bool (a == b))
  | .neq => K (.bool (a != b))
  | .lss => K (.bool (decide (a < b)))
  | .leq => K (.bool (decide (a ≤ b)))
  | .gtr => K (.bool (decide (a > b)))
  | .geq => K (.bool (decide (a ≥ b)))
  | _ => False

def binS (op : BinOp) (a b : ByteArray) (K : Value → Prop) : Prop := match op with
  | .add => need (((a.size + b.size : Nat) : Int) ≤ IntKind.i64.max) (K (.string (a ++ b)))
  | .eql => K (.bool (a.toList == b.toList))
  | .neq => K (.bool (!(a.toList == b.toList)))
  | _ => False

/-- Two structs of plain cells: are they the same? -/
def eqCells (P : Program) (K : Bool → Prop) : List Field → List Value → List Value → Prop
  | [], _, _ => K true
  | f :: fs, xs, ys => match xs[f.offset]? with
    | some x => match ys[f.offset]? with
      | some y => match x with
        | .int k a => match y with
          | .int k' b => match Nat.beq (ikN k) (ikN k') with
            | true => match P.underlying f.type with
              | some (.int _) => match fs with
                | [] => K (a == b)
                | fs => eqCells P (fun c => K ((a == b) && c)) fs xs ys
              | _ => False
            | false => False
          | _ => False
        | .bool a => match y with
          | .bool b => match P.underlying f.type with
            | some .bool => match fs with
              | [] => K (a == b)
              | fs => eqCells P (fun c => K ((a == b) && c)) fs xs ys
            | _ => False
          | _ => False
        | .string a => match y with
          | .string b => match P.underlying f.type with
            | some .string => match fs with
              | [] => K (a.toList == b.toList)
              | fs => eqCells P (fun c => K ((a.toList == b.toList) && c)) fs xs ys
            | _ => False
          | _ => False
        | _ => False
      | none => False
    | none => False

def plainNames : List Field → Bool
  | [] => true
  | f :: fs => match f.name == "_" with
    | true => false
    | false => plainNames fs

def eqStruct (P : Program) (t : TypeId) (xs ys : List Value) (K : Bool → Prop) : Prop := match P.underlying t with
  | some (.struct fs) => match P.stoodInHeld t with
    | false => match P.eqGuardType P.depth t with
      | false => match plainNames fs.toList with
        | true => eqCells P K fs.toList xs ys
        | false => False
      | true => False
    | true => False
  | _ => False

def binV (P : Program) (op : BinOp) (t : TypeId) (x y : Option Value) (K : Value → Prop) (raw : Value → Value → Prop) : Prop := match x with
  | some (.int k a) => match y with
    | some (.int k' b) => match op with
      | .shl => need (0 ≤ b) (K (.int k (shlI k a b)))
      | .shr => need (0 ≤ b) (K (.int k (shrI k a b)))
      | op => match Nat.beq (ikN k) (ikN k') with
        | true => binI op k a b K
        | false => False
    | _ => False
  | some (.string a) => match y with
    | some (.string b) => binS op a b K
    | _ => False
  | some (.bool a) => match y with
    | some (.bool b) => match P.underlying t with
      | some .bool => match op with
        | .eql => K (.bool (a == b))
        | .neq => K (.bool (!(a == b)))
        | _ => False
      | _ => False
    | _ => False
  | some (.pointer p) => match y with
    | some (.pointer none) => match P.underlying t with
      | some (.pointer _) => match op with
        | .eql => K (.bool p.isNone)
        | .neq => K (.bool (!p.isNone))
        | _ => False
      | _ => False
    | some y => raw (.pointer p) y
    | _ => False
  | some (.slice b n c) => match y with
    | some (.slice none _ _) => match P.underlying t with
      | some (.slice _) => match op with
        | .eql => K (.bool b.isNone)
        | .neq => K (.bool (!b.isNone))
        | _ => False
      | _ => False
    | some y => raw (.slice b n c) y
    | _ => False
  | some (.agg xs) => match y with
    | some (.agg ys) => match op with
      | .eql => eqStruct P t xs.toList ys.toList fun b => K (.bool b)
      | .neq => eqStruct P t xs.toList ys.toList fun b => K (.bool (!b))
      | _ => False
    | _ => False
  | some x => match y with
    | some y => raw x y
    | none => False
  | none => False

def unV (op : UnOp) (x : Option Value) (K : Value → Prop) : Prop := match op with
  | .neg => match x with
    | some (.int k n) => K (.int k (k.wrap (0 - n)))
    | _ => False
  | .xor => match x with
    | some (.int k n) => K (.int k (bitsI .xor k (match k.signed with | true => -1 | false => k.max) n))
    | _ => False
  | .not => match x with
    | some (.bool b) => K (.bool (!b))
    | _ => False
  | .plus => False

def cvV (P : Program) (s d : TypeId) (x : Option Value) (K : Value → Prop) (raw : Value → Prop) : Prop := match x with
  | some (.int k n) => match P.underlying d with
    | some (.int k') => match P.underlying s with
      | some _ => K (.int k' (k'.wrap n))
      | none => False
    | _ => raw (.int k n)
  | some x => raw x
  | none => False

def exOp (t : Option Value) (i : Nat) (K : Value → Prop) : Prop := match t with
  | some (.tuple vs) => match vs.toList[i]? with
    | some v => K v
    | none => False
  | _ => False

def fdOp (P : Program) (t : TypeId) (x : Option Value) (f : Nat) (K : Value → Prop) : Prop := match x with
  | some (.agg cs) => match P.underlying t with
    | some (.struct fs) => match fs.toList[f]? with
      | some fd => match P.underlying fd.type with
        | some (.struct _) => match sizeT P fd.type with
          | some n => K (.agg ⟨(cs.toList.drop fd.offset).take n⟩)
          | none => False
        | some (.array _ _) => match sizeT P fd.type with
          | some n => K (.agg ⟨(cs.toList.drop fd.offset).take n⟩)
          | none => False
        | some _ => match cs.toList[fd.offset]? with
          | some v => K v
          | none => False
        | none => False
      | none => False
    | _ => False
  | _ => False

/-- The parts' values. -/
def evp (e : Env) : List (Nat × Operand) → Option (List (Nat × Value))
  | [] => some []
  | (i, x) :: r => match evV e x, evp e r with
    | some v, some vs => some ((i, v) :: vs)
    | _, _ => none

def bdOp (P : Program) (t : TypeId) (ps : Option (List (Nat × Value))) (K : Value → Prop) : Prop := match ps with
  | some ps => match P.built t ps with
    | some cs => K (.agg ⟨cs.toList⟩)
    | none => False
  | none => False

def vCells (v : Value) : List Value := match v with
  | .agg cs => cs.toList
  | v => [v]

def boxOp (t : TypeId) (x : Option Value) (h : H) (K : Value → H → Prop) : Prop := match x with
  | some v => newC h (vCells v) t fun a h' => K (.pointer (some a)) h'
  | none => False

def zeroT (P : Program) (t : TypeId) : Option Value := match P.info? t with
  | some i => i.zero
  | none => none

def allocOp (P : Program) (t : TypeId) (h : H) (K : Value → H → Prop) : Prop := match zeroT P t with
  | some v => newC h (vCells v) t fun a h' => K (.pointer (some a)) h'
  | none => False

/-- The cells of a slice that is written out. -/
def builtSlice (P : Program) (el : TypeId) (len : Nat) (ps : List (Nat × Value)) : Option (List Value) := match sizeT P el, zeroT P el with
  | some size, some z => match Instr.fill (fun i => some (i * size, size)) ((Array.range (len * size)).map (z.cells[· % z.cells.size]!)) ps with
    | some cs => some cs.toList
    | none => none
  | _, _ => none

def bsOp (P : Program) (t : TypeId) (len : Nat) (ps : Option (List (Nat × Value))) (h : H) (K : Value → H → Prop) : Prop := match ps with
  | some ps => match P.underlying t with
    | some (.slice el) => match sizeT P el with
      | some size => match Nat.ble (len * size) 1000 with
        | true => match builtSlice P el len ps with
          | some cs => newC h cs el fun a h' => K (.slice (some a) len len) h'
          | none => False
        | false => False
      | none => False
    | _ => False
  | none => False

def lenOp (P : Program) (ts : List TypeId) (args : Option (List Value)) (K : Value → Prop) (raw : List Value → Prop) : Prop := match ts, args with
  | t :: _, some [x] => match x with
    | .slice _ n _ => match P.underlying t with
      | some (.slice _) => K (.int .i64 n)
      | _ => False
    | .string s => match P.underlying t with
      | some .string => K (.int .i64 s.size)
      | _ => False
    | x => raw [x]
  | _, _ => False

def blOp (P : Program) (b : Builtin) (ts : Array TypeId) (type : TypeId) (consts : Array Bool) (args : Option (List Value)) (h : H) (K KT : Value → H → Prop) : Prop := match args with
  | some args => match b with
    | .len => lenOp P ts.toList (some args) (fun v => K v h) fun l => rawN P (builtin .len ts type consts ⟨l⟩) h KT
    | b => rawN P (builtin b ts type consts ⟨args⟩) h KT
  | none => False

/-- A call of a function value. -/
def callVal (v : Value) (args : Array Value) : Sem Next := do let d ← Deferred.ofValue v args; invoke d.target d.args

def callOp (P : Program) (e : Env) (c : Call) (type : TypeId) (h : H) (K KT : Value → H → Prop) : Prop := match c.callee with
  | .value (.func f) => match evs e c.args.toList with
    | some args => rawN P (callFunc f ⟨args⟩) h KT
    | none => False
  | .value x => match evV e x, evs e c.args.toList with
    | some v, some args => rawN P (callVal v ⟨args⟩) h KT
    | _, _ => False
  | .invoke r name => match evV e r, evs e c.args.toList with
    | some v, some args => rawN P (callMethod v name ⟨args⟩) h KT
    | _, _ => False
  | .builtin b => blOp P b c.argTypes type (c.args.map fun | .const _ => true | _ => false) (evs e c.args.toList) h K KT

def someV (x : Option Value) (K : Value → Prop) : Prop := match x with
  | some v => K v
  | none => False

/-- What is opaque is taken apart by its type. -/
def apartK (P : Program) (t : TypeId) (K : Value → H → Prop) : Value → H → Prop := fun v h => exT P t v fun v' => K v' h

/-- An operation that neither reads nor writes memory. -/
def stillS (P : Program) (e : Env) (o : Oper) (K : Value → Prop) : Prop := match o.op with
  | .nilCheck x => nilOp (evV e x) K
  | .fieldAddr s x f => faOp P s (evV e x) f K
  | .indexAddr t x i => iaOp P t (evV e x) (evV e i) K
  | .index t x i => ixOp P t (evV e x) (evV e i) K fun _ _ => False
  | .slice t x lo hi none => slOp P t (evV e x) (bnd lo e) (bnd hi e) K
  | .binOp op t x y _ => binV P op t (evV e x) (evV e y) K fun _ _ => False
  | .unOp op _ x => unV op (evV e x) K
  | .convert s d x => cvV P s d (evV e x) K fun _ => False
  | .extract t i => exOp (evV e t) i K
  | .field t x f => fdOp P t (evV e x) f K
  | .build t ps => bdOp P t (evp e ps.toList) K
  | .makeInterface t x => match P.underlying t with
    | some (.interface _) => False
    | some _ => someV (evV e x) fun v => K (.iface t v)
    | none => False
  | .makeFunc fn first cap => match evs e first.toList, evs e cap.toList with
    | some fs, some cs => K (.func fn ⟨fs⟩ ⟨cs⟩)
    | _, _ => False
  | .call c => match c.callee with
    | .builtin .len => lenOp P c.argTypes.toList (evs e c.args.toList) K fun _ => False
    | _ => False
  | _ => False

/-- One operation (copies and picks are no part of it: they go slot by slot). -/
def opS (P : Program) (e : Env) (o : Oper) (h : H) (K : Value → H → Prop) : Prop := match o.op with
  | .load t x => ldOp P t (evV e x) h K
  | .store t x v => stOp P t (evV e x) (evV e v) h K
  | .index t x i => ixOp P t (evV e x) (evV e i) (fun v => K v h) fun vx vi => rawV P (Instr.index t vx vi) h (apartK P o.type K)
  | .binOp op t x y _ => binV P op t (evV e x) (evV e y) (fun v => K v h) fun vx vy => binRaw P op t x y vx vy h (apartK P o.type K)
  | .convert s d x => cvV P s d (evV e x) (fun v => K v h) fun vx => rawV P (convert s d vx) h (apartK P o.type K)
  | .box t x => boxOp t (evV e x) h K
  | .alloc t => allocOp P t h K
  | .buildSlice t n ps => bsOp P t n (evp e ps.toList) h K
  | .call c => callOp P e c o.type h K (apartK P o.type K)
  | .makeMap t none => rawV P (Instr.makeMap t none) h (apartK P o.type K)
  | .makeMap t (some x) => someV (evV e x) fun v => rawV P (Instr.makeMap t (some v)) h (apartK P o.type K)
  | .makeSlice t l c => someV (evV e l) fun vl => someV (evV e c) fun vc => rawV P (Instr.makeSlice t vl vc) h (apartK P o.type K)
  | .lookup t m k ok => someV (evV e m) fun vm => someV (evV e k) fun vk => rawV P (Instr.lookup t vm vk ok) h (apartK P o.type K)
  | .mapUpdate t m k x => someV (evV e m) fun vm => someV (evV e k) fun vk => someV (evV e x) fun vx => rawU P (Instr.mapUpdate t vm vk vx) h (K undef)
  | .insert t m k x => someV (evV e m) fun vm => someV (evV e k) fun vk => someV (evV e x) fun vx => rawU P (Instr.mapUpdate t vm vk vx) h (K undef)
  | .mapEntry t m k => someV (evV e m) fun vm => someV (evV e k) fun vk => rawV P (Instr.mapEntry t vm vk) h (apartK P o.type K)
  | .entryStore t m s x => someV (evV e m) fun vm => someV (evV e s) fun vs => someV (evV e x) fun vx => rawU P (Instr.entryStore t vm vs vx) h (K undef)
  | .range t x => someV (evV e x) fun v => rawV P (Instr.range t v) h fun v h => exP v fun p => K (.pointer p) h
  | .next it s => someV (evV e it) fun v => rawV P (Instr.next v s o.type) h K
  | .entry it => someV (evV e it) fun v => rawV P (Instr.entry v) h K
  | .typeAssert x t a ok => someV (evV e x) fun v => rawV P (Instr.typeAssert v t a ok) h (apartK P o.type K)
  | _ => stillS P e o fun v => K v h

end Go.GL

namespace Go.GL

/-! ### States that a loop or a join hands on: typed -/

def CT : CK → Type
  | .i _ => Int
  | .b => Bool
  | .s => ByteArray
  | .p => Option Addr
  | .l => Option Addr × Nat × Nat
  | .m => Option Nat
  | .f => TypeId × Value
  | .raw => Value

def CT.v : (k : CK) → CT k → Value
  | .i k, n => .int k n
  | .b, b => .bool b
  | .s, s => .string s
  | .p, p => .pointer p
  | .l, x => .slice x.1 x.2.1 x.2.2
  | .m, r => .map r
  | .f, x => .iface x.1 x.2
  | .raw, v => v

/-- What a value is as one of the kind. -/
def CT.of : (k : CK) → Value → Option (CT k)
  | .i k, .int k' n => match Nat.beq (ikN k) (ikN k') with
    | true => some n
    | false => none
  | .b, .bool b => some b
  | .s, .string s => some s
  | .p, .pointer p => some p
  | .l, .slice p n c => some (p, n, c)
  | .m, .map r => some r
  | .f, .iface t v => some (t, v)
  | .raw, v => some v
  | _, _ => none

def TK : List CK → Type
  | [] => Unit
  | k :: ks => CT k × TK ks

def TK.vs : (ks : List CK) → TK ks → List Value
  | [], _ => []
  | k :: ks, s => CT.v k s.1 :: TK.vs ks s.2

def TK.of : (ks : List CK) → List Value → Option (TK ks)
  | [], [] => some ()
  | k :: ks, v :: vs => match CT.of k v, TK.of ks vs with
    | some x, some y => some (x, y)
    | _, _ => none
  | _, _ => none

def CurK (k : CK) (R : Type) : Type := match k with
  | .i _ => Int → R
  | .b => Bool → R
  | .s => ByteArray → R
  | .p => Option Addr → R
  | .l => Option Addr → Nat → Nat → R
  | .m => Option Nat → R
  | .f => TypeId → Value → R
  | .raw => Value → R

def lamK {R : Type} : (k : CK) → (Value → R) → CurK k R
  | .i k, f => fun n => f (.int k n)
  | .b, f => fun b => f (.bool b)
  | .s, f => fun s => f (.string s)
  | .p, f => fun p => f (.pointer p)
  | .l, f => fun p n c => f (.slice p n c)
  | .m, f => fun r => f (.map r)
  | .f, f => fun t v => f (.iface t v)
  | .raw, f => fun v => f v

def appK {R : Type} (bad : R) : (k : CK) → CurK k R → Value → R
  | .i k, F, .int k' n => match Nat.beq (ikN k) (ikN k') with
    | true => F n
    | false => bad
  | .b, F, .bool b => F b
  | .s, F, .string s => F s
  | .p, F, .pointer p => F p
  | .l, F, .slice p n c => F p n c
  | .m, F, .map r => F r
  | .f, F, .iface t v => F t v
  | .raw, F, v => F v
  | _, _, _ => bad

def CurL : List CK → Type → Type
  | [], R => R
  | k :: ks, R => CurK k (CurL ks R)

def lamL {R : Type} : (ks : List CK) → (List Value → R) → CurL ks R
  | [], f => f []
  | k :: ks, f => lamK k fun v => lamL ks fun vs => f (v :: vs)

def botL {R : Type} (bad : R) : (ks : List CK) → CurL ks R
  | [] => bad
  | k :: ks => lamK k fun _ => botL bad ks

def appL {R : Type} (bad : R) : (ks : List CK) → CurL ks R → List Value → R
  | [], F, [] => F
  | k :: ks, F, v :: vs => appL bad ks (appK (botL bad ks) k F v) vs
  | _, _, _ => bad

/-- A loop: an invariant and a measure. -/
def loopT {σ : Type} (step : (σ → H → Prop) → σ → H → Prop) (s : σ) (h : H) : Prop :=
  ∃ (I : σ → H → Prop) (μ : σ → H → Nat), I s h ∧ ∀ s h, I s h → step (fun s' h' => I s' h' ∧ μ s' h' < μ s h) s h

/-! ### Which slots -/

def ckV (v : Value) : CK := match v with
  | .int k _ => .i k
  | .bool _ => .b
  | .string _ => .s
  | .pointer _ => .p
  | .slice _ _ _ => .l
  | .map _ => .m
  | .iface _ _ => .f
  | _ => .raw

def ckS (s : Slot) : Bool × List CK := match s with
  | .lit _ => (false, [.b])
  | .val v => match v with
    | .agg cs => (true, cs.toList.map ckV)
    | v => (false, [ckV v])

def memN (t : Nat) : List Nat → Bool
  | [] => false
  | i :: r => match Nat.beq i t with
    | true => true
    | false => memN t r

/-! What is reckoned is written out before it is handed on. -/

def outIK (k : IntKind) (K : IntKind → Prop) : Prop := match k with
  | .i8 => K .i8 | .i16 => K .i16 | .i32 => K .i32 | .i64 => K .i64
  | .u8 => K .u8 | .u16 => K .u16 | .u32 => K .u32 | .u64 => K .u64

def outCK (c : CK) (K : CK → Prop) : Prop := match c with
  | .i k => outIK k fun k => K (.i k)
  | .b => K .b | .s => K .s | .p => K .p | .l => K .l | .m => K .m | .f => K .f | .raw => K .raw

def outCKs : List CK → (List CK → Prop) → Prop
  | [], K => K []
  | c :: r, K => outCK c fun c => outCKs r fun r => K (c :: r)

def outB (b : Bool) (K : Bool → Prop) : Prop := match b with
  | true => K true
  | false => K false

/-- Slots of a set that the environment has, with their kinds. -/
def pickSlots (set : Nat) : Env → List Nat → (List (Nat × Bool × List CK) → Prop) → Prop
  | [], _, K => K []
  | x :: r, seen, K => match x with
    | (t, s) => match Nat.testBit set t with
      | false => pickSlots set r seen K
      | true => match memN t seen with
        | true => pickSlots set r seen K
        | false => outB (ckS s).1 fun a => outCKs (ckS s).2 fun ks => pickSlots set r (t :: seen) fun l => K ((t, a, ks) :: l)

/-- The environment without what is no more needed. -/
def pruneE (set : Nat) : Env → List Nat → (Env → Prop) → Prop
  | [], _, K => K []
  | x :: r, seen, K => match x with
    | (t, s) => match Nat.testBit set t with
      | false => pruneE set r seen K
      | true => match memN t seen with
        | true => pruneE set r seen K
        | false => pruneE set r (t :: seen) fun e => K ((t, s) :: e)

def kindsOf : List (Nat × Bool × List CK) → List CK
  | [] => []
  | (_, _, ks) :: r => ks ++ kindsOf r

/-- The values of the slots, one behind the other. -/
def valuesOf (e : Env) : List (Nat × Bool × List CK) → Option (List Value)
  | [] => some []
  | (t, agg, ks) :: r => match e.get t, valuesOf e r with
    | some s, some vs => match agg with
      | true => match s with
        | .val (.agg cs) => match Nat.beq cs.toList.length ks.length with
          | true => some (cs.toList ++ vs)
          | false => none
        | _ => none
      | false => match ks with
        | [_] => some (s.v :: vs)
        | _ => none
    | _, _ => none

/-- A value of a kind, its head written out. -/
def outV (c : CK) (v : Value) (K : Value → Prop) : Prop := match c with
  | .raw => K v
  | _ => match v with
    | .int k n => outIK k fun k => K (.int k n)
    | .bool b => K (.bool b)
    | .string s => K (.string s)
    | .pointer p => K (.pointer p)
    | .slice p n c => K (.slice p n c)
    | .map r => K (.map r)
    | .iface t v => K (.iface t v)
    | _ => False

def outVs : List CK → List Value → (List Value → List Value → Prop) → Prop
  | [], vs, K => K [] vs
  | c :: cs, vs, K => match vs with
    | v :: vs => outV c v fun v => outVs cs vs fun l r => K (v :: l) r
    | [] => False

/-- The environment with these values in the slots. -/
def laidK (e : Env) : List (Nat × Bool × List CK) → List Value → (Env → Prop) → Prop
  | [], _, K => K e
  | x :: r, vs, K => match x with
    | (t, agg, ks) => outVs ks vs fun l vs => match agg with
      | true => laidK e r vs fun e => K ((t, .val (.agg ⟨l⟩)) :: e)
      | false => match l with
        | [v] => laidK e r vs fun e => K ((t, .val v) :: e)
        | _ => False

def setOr (a b : Nat) : Nat := Nat.lor a b
def setOf (d : Option Nat) : Nat := match d with
  | some d => Nat.shiftLeft 1 d
  | none => 0

def opsAsg : List Oper → Nat
  | [] => 0
  | o :: r => setOr (setOf o.dst) (opsAsg r)

/-- What a code assigns. -/
def asg : Code → Nat
  | .region _ ops _ => opsAsg ops.toList
  | .seq a b => setOr (asg a) (asg b)
  | .cond _ a b => setOr (asg a) (asg b)
  | .block _ b => asg b
  | .loop b => asg b
  | _ => 0

/-- How many exits to a block. -/
def exits (id : Nat) : Code → Nat
  | .exit i => match Nat.beq i id with
    | true => 1
    | false => 0
  | .seq a b => exits id a + exits id b
  | .cond _ a b => exits id a + exits id b
  | .block _ b => exits id b
  | .loop b => exits id b
  | _ => 0

def guards : List Oper → Nat
  | [] => 0
  | o :: r => match o.guard with
    | some _ => 1
    | none => guards r

/-- How many ways lead through a code to its end. -/
def ways : Code → Nat
  | .skip => 1
  | .region _ ops _ => 1 + guards ops.toList
  | .seq a b => ways a * ways b
  | .cond _ a b => ways a + ways b
  | .block id b => ways b + exits id b
  | .loop _ => 0
  | _ => 0

/-- What is assigned on the ways that lead to a code's end (none), to an exit (some). -/
def asgM : Code → Option Nat → Nat
  | .region _ ops _, m => match m with
    | none => opsAsg ops.toList
    | some _ => 0
  | .seq a b, m => match m with
    | none => setOr (asgM a none) (asgM b none)
    | some id => setOr (asgM a (some id)) (match exits id b with
      | 0 => 0
      | _ => setOr (asgM a none) (asgM b (some id)))
  | .cond _ a b, m => match m with
    | none => setOr (match ways a with | 0 => 0 | _ => asgM a none) (match ways b with | 0 => 0 | _ => asgM b none)
    | some id => setOr (asgM a (some id)) (asgM b (some id))
  | .block i b, m => match m with
    | none => setOr (match ways b with | 0 => 0 | _ => asgM b none) (asgM b (some i))
    | some id => asgM b (some id)
  | .loop b, m => match m with
    | none => 0
    | some id => match exits id b with
      | 0 => 0
      | _ => setOr (asgM b none) (asgM b (some id))
  | _, _ => 0

def asgN (c : Code) : Nat := asgM c none

/-- Is it worth a join? -/
def heavy : Code → Bool
  | .skip => false
  | .ret => false
  | .exit _ => false
  | .cond _ a b => match heavy a with
    | true => true
    | false => heavy b
  | _ => true

/-! ### One operation, slot by slot -/

def putS (n : Nat) (e : Env) (d : Option Nat) (s : Slot) (K : Env → Prop) : Prop := match d with
  | none => K e
  | some d => match Nat.blt d n with
    | true => K ((d, s) :: e)
    | false => False

def opE (P : Program) (n : Nat) (e : Env) (o : Oper) (h : H) (K : Env → H → Prop) : Prop := match o.op with
  | .move x => match ev e x with
    | some s => putS n e o.dst s fun e => K e h
    | none => False
  | .assign x => match ev e x with
    | some s => putS n e o.dst s fun e => K e h
    | none => False
  | .pick c a b => match ev e c with
    | some (.lit true) => match ev e a with
      | some s => putS n e o.dst s fun e => K e h
      | none => False
    | some (.lit false) => match ev e b with
      | some s => putS n e o.dst s fun e => K e h
      | none => False
    | _ => False
  | .unOp .not _ x => match ev e x with
    | some (.lit b) => putS n e o.dst (.lit (!b)) fun e => K e h
    | some (.val (.bool b)) => putS n e o.dst (.val (.bool (!b))) fun e => K e h
    | _ => False
  | _ => opS P e o h fun v h' => putS n e o.dst (.val v) fun e => K e h'

/-- An operation under a guard whose outcome is known. -/
def opG (P : Program) (n : Nat) (e : Env) (o : Oper) (go : Bool) (h : H) (K : Env → H → Prop) : Prop := match go with
  | true => opE P n e o h K
  | false => putS n e o.dst (.val undef) fun e => K e h

def same2 (a b : Bool) : Bool := match a with
  | true => b
  | false => match b with
    | true => false
    | false => true

def opD (P : Program) (n : Nat) (ops : Array Oper) (e : Env) (o : Oper) (h : H) (K : Env → H → Prop) : Prop := match o.guard with
  | none => opE P n e o h K
  | some (j, want) => match ops.toList[j]? with
    | some oj => match oj.dst with
      | some t => match e.get t with
        | some (.lit b) => opG P n e o (same2 b want) h K
        | some (.val (.bool b)) => split b (opG P n ((t, .lit true) :: e) o (same2 true want) h K) (opG P n ((t, .lit false) :: e) o (same2 false want) h K)
        | some (.val (.tuple _)) => opG P n e o false h K
        | _ => False
      | none => False
    | none => False

def regW (P : Program) (n : Nat) (ops : Array Oper) (K : Env → H → Prop) : List Oper → Env → H → Prop
  | [], e, h => K e h
  | o :: r, e, h => opD P n ops e o h fun e h => regW P n ops K r e h

/-! ### A region that draws its order -/

/-- Reads memory, and no more. -/
def isLoad (o : Oper) : Bool := match o.op with
  | .load .. => true
  | _ => false

/-- May be an operation that neither reads nor writes memory. -/
def isStill (o : Oper) : Bool := match o.op with
  | .move _ => true
  | .assign _ => true
  | .pick .. => true
  | .nilCheck _ => true
  | .fieldAddr .. => true
  | .indexAddr .. => true
  | .index .. => true
  | .slice _ _ _ _ none => true
  | .extract .. => true
  | .field .. => true
  | .build .. => true
  | .makeInterface .. => true
  | .makeFunc .. => true
  | .unOp .. => true
  | .convert .. => true
  | .binOp .. => true
  | .call c => match c.callee with
    | .builtin .len => true
    | _ => false
  | _ => false

def edgesIn (done : List Nat) : List Edge → Bool
  | [] => true
  | x :: r => match Region.binds .any x with
    | false => edgesIn done r
    | true => match memN x.on done with
      | true => edgesIn done r
      | false => false

def hasEdge (i : Nat) : List Edge → Bool
  | [] => false
  | x :: r => match Region.binds .any x with
    | false => hasEdge i r
    | true => match Nat.beq x.on i with
      | true => true
      | false => hasEdge i r

/-- The operations, numbered, that may come now. -/
def readyW (done : List Nat) : Nat → List Oper → List (Nat × Oper)
  | _, [] => []
  | i, o :: r => match memN i done with
    | true => readyW done (i + 1) r
    | false => match edgesIn done o.after.toList with
      | true => (i, o) :: readyW done (i + 1) r
      | false => readyW done (i + 1) r

def firstW (p : Oper → Bool) : List (Nat × Oper) → Option (Nat × Oper)
  | [] => none
  | x :: r => match p x.2 with
    | true => some x
    | false => firstW p r

/-- Every other operation that has not come waits for this one or is apart from it. -/
def freeW (ops : Array Oper) (done : List Nat) (i : Nat) (oi : Oper) : Nat → List Oper → Bool
  | _, [] => true
  | j, oj :: r => match Nat.beq j i with
    | true => freeW ops done i oi (j + 1) r
    | false => match memN j done with
      | true => freeW ops done i oi (j + 1) r
      | false => match hasEdge i oj.after.toList with
        | true => freeW ops done i oi (j + 1) r
        | false => match oi.apart ops oj with
          | true => freeW ops done i oi (j + 1) r
          | false => false

def keepW (edges : List Edge) : List (Nat × (H → Prop)) → List (Nat × (H → Prop))
  | [] => []
  | x :: r => match hasEdge x.1 edges with
    | true => keepW edges r
    | false => x :: keepW edges r

def heldW : List (Nat × (H → Prop)) → H → Prop → Prop
  | [], _, K => K
  | x :: r, h, K => need (x.2 h) (heldW r h K)

/-- A quiet operation in a region that draws, under its guard: its slot. -/
def stillE (P : Program) (e : Env) (o : Oper) (K : Slot → Prop) : Prop := match o.op with
  | .move x => match ev e x with
    | some s => K s
    | none => False
  | .assign x => match ev e x with
    | some s => K s
    | none => False
  | .pick c a b => match ev e c with
    | some (.lit true) => match ev e a with
      | some s => K s
      | none => False
    | some (.lit false) => match ev e b with
      | some s => K s
      | none => False
    | _ => False
  | .unOp .not _ x => match ev e x with
    | some (.lit b) => K (.lit (!b))
    | some (.val (.bool b)) => K (.val (.bool (!b)))
    | _ => False
  | _ => stillS P e o fun v => K (.val v)

/-- Whether it is wanted: known, or parted. -/
def wantW (ops : Array Oper) (e : Env) (o : Oper) (K : Env → Bool → Prop) : Prop := match o.guard with
  | none => K e true
  | some (j, want) => match ops.toList[j]? with
    | some oj => match oj.dst with
      | some t => match e.get t with
        | some (.lit b) => K e (same2 b want)
        | some (.val (.bool b)) => split b (K ((t, .lit true) :: e) (same2 true want)) (K ((t, .lit false) :: e) (same2 false want))
        | some (.val (.tuple _)) => K e false
        | _ => False
      | none => False
    | none => False

abbrev Rec := List Nat → List (Nat × (H → Prop)) → Env → H → Prop

def drawOne (P : Program) (n : Nat) (ops : Array Oper) (next : Rec) (done : List Nat) (held : List (Nat × (H → Prop))) (e : Env) (h : H) (i : Nat) (o : Oper) : Prop :=
  wantW ops e o fun e go => match go with
    | false => putS n e o.dst (.val undef) fun e => next (i :: done) held e h
    | true => opS P e o h fun v h' => putS n e o.dst (.val v) fun e => heldW (keepW o.after.toList held) h' (next (i :: done) (keepW o.after.toList held) e h')

def drawAll (P : Program) (n : Nat) (ops : Array Oper) (next : Rec) (done : List Nat) (held : List (Nat × (H → Prop))) (e : Env) (h : H) : List (Nat × Oper) → Prop
  | [] => True
  | x :: r => match r with
    | [] => drawOne P n ops next done held e h x.1 x.2
    | r => need (drawOne P n ops next done held e h x.1 x.2) (drawAll P n ops next done held e h r)

def drawStill (P : Program) (n : Nat) (ops : Array Oper) (next : Rec) (done : List Nat) (held : List (Nat × (H → Prop))) (e : Env) (h : H) (i : Nat) (o : Oper) : Prop :=
  wantW ops e o fun e go => match go with
    | false => putS n e o.dst (.val undef) fun e => next (i :: done) held e h
    | true => stillE P e o fun s => putS n e o.dst s fun e => next (i :: done) held e h

def drawLoad (P : Program) (n : Nat) (ops : Array Oper) (next : Rec) (done : List Nat) (held : List (Nat × (H → Prop))) (e : Env) (h : H) (i : Nat) (o : Oper) : Prop :=
  wantW ops e o fun e go => match go with
    | false => putS n e o.dst (.val undef) fun e => next (i :: done) held e h
    | true => opS P e o h fun v _ => putS n e o.dst (.val v) fun e' => next (i :: done) ((i, fun h' => opS P e o h' fun v' _ => v' = v) :: held) e' h

def drawW (P : Program) (n : Nat) (ops : Array Oper) (K : Env → H → Prop) : Nat → Rec
  | 0 => fun _ _ _ _ => False
  | fuel + 1 => fun done held e h => match readyW done 0 ops.toList with
    | [] => K e h
    | x :: r => match firstW isStill (x :: r) with
      | some y => match freeW ops done y.1 y.2 0 ops.toList with
        | false => False
        | true => drawStill P n ops (drawW P n ops K fuel) done held e h y.1 y.2
      | none => match firstW isLoad (x :: r) with
        | some y => match freeW ops done y.1 y.2 0 ops.toList with
          | false => False
          | true => drawLoad P n ops (drawW P n ops K fuel) done held e h y.1 y.2
        | none => drawAll P n ops (drawW P n ops K fuel) done held e h (x :: r)

def noSel : List Oper → Bool
  | [] => true
  | o :: r => match o.op with
    | .select .. => false
    | _ => noSel r

/-! ### Code -/

inductive Ex where
  | normal
  | exit (id : Nat)
  | ret

/-- What follows a code that ends normally. -/
def thenW (next : Env → H → Prop) (Q : Ex → Env → H → Prop) : Ex → Env → H → Prop
  | .normal, e, h => next e h
  | x, e, h => Q x e h

def blockW (id : Nat) (Q : Ex → Env → H → Prop) : Ex → Env → H → Prop
  | .exit i, e, h => match Nat.beq i id with
    | true => Q .normal e h
    | false => Q (.exit i) e h
  | x, e, h => Q x e h

/-- Is a join to be made before b? -/
def joins (a b : Code) : Bool := match a with
  | .region _ _ _ => false
  | _ => match Nat.ble 2 (ways a) with
    | true => heavy b
    | false => false

/-- What follows is said once: 'next' over the slots that 'a' may turn. -/
def joinW (ks : List (Nat × Bool × List CK)) (e : Env) (next : Env → H → Prop) (first : (Env → H → Prop) → Prop) : Prop :=
  joinP (α := CurL (kindsOf ks) (H → Prop)) (lamL (kindsOf ks) fun vs h => laidK e ks vs fun e => next e h) fun J =>
    first fun e' h' => match valuesOf e' ks with
      | some vs => appL (fun _ => False) (kindsOf ks) J vs h'
      | none => False

def loopW (ks : List (Nat × Bool × List CK)) (e : Env) (h : H) (body : (Env → H → Prop) → Env → H → Prop) : Prop :=
  match valuesOf e ks with
  | some vs => match TK.of (kindsOf ks) vs with
    | some s0 => loopT (σ := TK (kindsOf ks)) (fun next s h => laidK e ks (TK.vs (kindsOf ks) s) fun e => body (fun e' h' => match valuesOf e' ks with
        | some vs => match TK.of (kindsOf ks) vs with
          | some s' => next s' h'
          | none => False
        | none => False) e h) s0 h
    | none => False
  | none => False

/-- The slot that a code tests first, if it begins with a test. -/
def tests : Code → Option Nat
  | .cond c _ _ => match c with
    | .tmp t => some t
    | _ => none
  | .seq a _ => tests a
  | .block _ b => tests b
  | _ => none

/-- Behind a code: what is no more needed goes, but for what is tested next. -/
def nextW (keep : Nat) (b : Code) (e : Env) (K : Env → Prop) : Prop := match tests b with
  | some t => pruneE (setOr keep (Nat.shiftLeft 1 t)) e [] K
  | none => pruneE keep e [] K

/-- The slots of a join: what is tested next, too. -/
def joinSlots (set : Nat) (b : Code) (e : Env) (K : List (Nat × Bool × List CK) → Prop) : Prop := match tests b with
  | some t => match Nat.testBit set t with
    | true => pickSlots set e [t] fun ks => K ((t, false, [.b]) :: ks)
    | false => pickSlots set e [] K
  | none => pickSlots set e [] K

def W (P : Program) (n keep : Nat) : Code → Env → H → (Ex → Env → H → Prop) → Prop
  | .skip, e, h, Q => Q .normal e h
  | .region _ ops draw, e, h, Q => match draw with
    | false => regW P n ops (fun e h => Q .normal e h) ops.toList e h
    | true => match noSel ops.toList with
      | true => drawW P n ops (fun e h => Q .normal e h) (ops.toList.length + 1) [] [] e h
      | false => False
  | .seq a b, e, h, Q => match joins a b with
    | false => W P n keep a e h (thenW (fun e h => nextW keep b e fun e => W P n keep b e h Q) Q)
    | true => pruneE keep e [] fun e0 => joinSlots (asgN a) b e0 fun ks => joinW ks e0 (fun e h => W P n keep b e h Q) fun next => W P n keep a e h (thenW next Q)
  | .cond c x y, e, h, Q => match ev e c with
    | some (.lit true) => W P n keep x e h Q
    | some (.lit false) => W P n keep y e h Q
    | some (.val (.bool b)) => split b (W P n keep x e h Q) (W P n keep y e h Q)
    | _ => False
  | .block id b, e, h, Q => W P n keep b e h (blockW id Q)
  | .loop b, e, h, Q => pruneE keep e [] fun e => pickSlots (asgN b) e [] fun ks => loopW ks e h fun next e h => W P n keep b e h (thenW next Q)
  | .exit id, e, h, Q => Q (.exit id) e h
  | .ret, e, h, Q => Q .ret e h
  | _, _, _, _ => False

/-! ### A function -/

def resW (P : Program) (e : Env) (h : H) : List ResultVar → (List Value → Prop) → Prop
  | [], K => K []
  | x :: r, K => match x with
    | .tmp t => match e.get t with
      | some s => resW P e h r fun vs => K (s.v :: vs)
      | none => False
    | .cell t ty => match e.get t with
      | some s => ldOp P ty (some s.v) h fun v _ => resW P e h r fun vs => K (v :: vs)
      | none => False

def oneV : List Value → Value
  | [v] => v
  | vs => .tuple ⟨vs⟩

def finW (P : Program) (rs : List ResultVar) (K : Value → H → Prop) : Ex → Env → H → Prop
  | .exit _, _, _ => False
  | _, e, h => resW P e h rs fun vs => K (oneV vs) h

def argsW : Nat → List Value → Env
  | _, [] => []
  | i, v :: r => (i, .val v) :: argsW (i + 1) r

def funW (P : Program) (fn : Func) (keep : Nat) (args : List Value) (h : H) (K : Value → H → Prop) : Prop := match fn.body with
  | some c => match Nat.ble args.length fn.ntmps with
    | true => W P fn.ntmps keep c (argsW 0 args) h (finW P fn.results.toList K)
    | false => False
  | none => False

/-! ### Results, part by part -/

def shKs : List Sh1 → List CK
  | [] => []
  | s :: r => s.2 ++ shKs r

def parts1 (s : Sh1) (v : Value) : Option (List Value) := match s.1 with
  | true => match v with
    | .agg cs => match Nat.beq cs.toList.length s.2.length with
      | true => some cs.toList
      | false => none
    | _ => none
  | false => match s.2 with
    | [_] => some [v]
    | _ => none

def parts1s : List Sh1 → List Value → Option (List Value)
  | [], [] => some []
  | s :: ss, v :: vs => match parts1 s v, parts1s ss vs with
    | some a, some b => some (a ++ b)
    | _, _ => none
  | _, _ => none

def partsS (s : Sh) (v : Value) : Option (List Value) := match s.1 with
  | true => match v with
    | .tuple vs => parts1s s.2 vs.toList
    | _ => none
  | false => parts1s s.2 [v]

/-- What follows a call, told by the parts of its result. -/
def resK (s : Sh) (K : CurL (shKs s.2) (H → Prop)) (v : Value) (h : H) : Prop := match partsS s v with
  | some vs => appL (fun _ => False) (shKs s.2) K vs h
  | none => False

/-- A call, told by the parts of its result. -/
def callK (P : Program) (f : FuncId) (args : List Value) (t : TypeId) (s : Sh) (h : H) (K : CurL (shKs s.2) (H → Prop)) : Prop :=
  rawN P (callFunc f ⟨args⟩) h (apartK P t (resK s K))

end Go.GL

namespace Go.GL

variable {P : Program} {e : Env} {ρ : Operand → Value}

def Agree (ρ : Operand → Value) (e : Env) : Prop := ∀ x v, evV e x = some v → ρ x = v

theorem info_of_sizeT {t : TypeId} {n : Nat} (h : sizeT P t = some n) : ∃ i, P.info? t = some i ∧ i.size = n := by
  unfold sizeT at h
  cases hi : P.info? t with
  | none => simp [hi] at h
  | some i => simp [hi] at h; exact ⟨i, rfl, h⟩

theorem run_sizeT {t : TypeId} {n : Nat} (h : sizeT P t = some n) (w : World) : (sizeOf t).run P w = .ok n w := by
  obtain ⟨i, hi, hn⟩ := info_of_sizeT h
  simp [sizeOf, typeInfo, hi, hn]

theorem run_und {t : TypeId} {d : TypeDesc} (h : P.underlying t = some d) (w : World) : (underlying t).run P w = .ok d w := by
  simp [underlying, h]

theorem run_isAgg_eq {t : TypeId} {d : TypeDesc} (h : P.underlying t = some d) (w : World) : (isAgg t).run P w = .ok (isAggT P t) w := by
  simp only [isAgg, Sem.run_bind, run_und h, Result.andThen_ok, isAggT, h]
  cases d <;> rfl

theorem toList_get {α : Type} (a : Array α) (i : Nat) : a.toList[i]? = a[i]? := by simp

def StillOk (P : Program) (s : Sem Next) (K : Value → Prop) : Prop := ∃ v, (∀ w, s.run P w = .ok (.value v) w) ∧ K v

theorem nil_sound {x : Operand} {K : Value → Prop} (hs : nilOp (evV e x) K) (ha : Agree ρ e) (o : Oper) (ho : o.op = .nilCheck x) :
    StillOk P (execOp ρ o) K := by
  cases hx : evV e x with
  | none => simp [hx, nilOp] at hs
  | some v =>
    have hr := ha x v hx
    rw [hx] at hs
    cases v with
    | pointer p =>
      obtain ⟨a, rfl, hk⟩ := hs
      exact ⟨_, fun w => by simp [execOp, ho, hr], hk⟩
    | func fn fs cs =>
      cases fn with
      | func f => exact ⟨_, fun w => by simp [execOp, ho, hr], hs⟩
      | _ => exact hs.elim
    | iface t v => exact ⟨_, fun w => by simp [execOp, ho, hr], hs⟩
    | _ => exact hs.elim

theorem fa_sound {s : TypeId} {x : Operand} {f : Nat} {K : Value → Prop} (hs : faOp P s (evV e x) f K) (ha : Agree ρ e) (o : Oper) (ho : o.op = .fieldAddr s x f) :
    StillOk P (execOp ρ o) K := by
  cases hx : evV e x with
  | none => simp [hx, faOp] at hs
  | some v =>
    have hr := ha x v hx
    rw [hx] at hs
    unfold faOp at hs
    split at hs
    · rename_i a heq
      simp only [Option.some.injEq] at heq
      subst heq
      split at hs
      · rename_i fs hu
        split at hs
        · rename_i fd hf
          split at hs
          · rename_i n hn
            refine ⟨_, fun w => ?_, hs⟩
            rw [toList_get] at hf
            simp [execOp, ho, Instr.fieldAt, run_und hu, hf, hr, Instr.sureAddr, fieldPlace, run_sizeT hn]
          · exact hs.elim
        · exact hs.elim
      · exact hs.elim
    · exact hs.elim

theorem ia_sound {t : TypeId} {x i : Operand} {K : Value → Prop} (hs : iaOp P t (evV e x) (evV e i) K) (ha : Agree ρ e) (o : Oper) (ho : o.op = .indexAddr t x i) :
    StillOk P (execOp ρ o) K := by
  unfold iaOp at hs
  split at hs
  · rename_i base len c k n hx hi
    have h1 := ha x _ hx
    have h2 := ha i _ hi
    split at hs
    · rename_i el hu
      split at hs
      · rename_i sz hz
        obtain ⟨a, rfl, h0, hlt, hk⟩ := hs
        refine ⟨_, fun w => ?_, hk⟩
        simp [execOp, ho, h1, h2, Instr.indexAt, asIntOf, run_und hu, run_sizeT hz, h0, hlt]
      · exact hs.elim
    · exact hs.elim
  · rename_i a k n hx hi
    have h1 := ha x _ hx
    have h2 := ha i _ hi
    split at hs
    · rename_i len el hu
      split at hs
      · rename_i sz hz
        obtain ⟨h0, hlt, hk⟩ := hs
        refine ⟨_, fun w => ?_, hk⟩
        simp [execOp, ho, h1, h2, Instr.indexAt, asIntOf, run_und hu, run_sizeT hz, h0, hlt, Instr.sureAddr]
      · exact hs.elim
    · exact hs.elim
  · exact hs.elim

theorem ix_sound {t : TypeId} {x i : Operand} {K : Value → Prop} (hs : ixOp P t (evV e x) (evV e i) K fun _ _ => False) (ha : Agree ρ e) (o : Oper) (ho : o.op = .index t x i) :
    StillOk P (execOp ρ o) K := by
  unfold ixOp at hs
  split at hs
  · rename_i s k n hx hi
    have h1 := ha x _ hx
    have h2 := ha i _ hi
    split at hs
    · rename_i hu
      obtain ⟨h0, b, hb, hk⟩ := hs
      refine ⟨_, fun w => ?_, hk⟩
      simp [execOp, ho, h1, h2, Instr.index, asIntOf, run_und hu, h0, hb]
    · exact hs.elim
  · exact hs.elim
  · exact hs.elim

theorem bnd_sound {x : Option Operand} {r : Option Int} (h : bnd x e = some r) (ha : Agree ρ e) :
    (x = none ∧ r = none) ∨ ∃ y k n, x = some y ∧ r = some n ∧ ρ y = .int k n := by
  unfold bnd at h
  cases x with
  | none => simp at h; exact .inl ⟨rfl, h.symm⟩
  | some y =>
    right
    simp only at h
    split at h
    · rename_i k n hv
      simp at h
      exact ⟨y, k, n, rfl, h.symm, ha y _ hv⟩
    · simp at h

theorem run_sliceBounds_gl {isS : Bool} {len cap : Nat} {lo hi : Option Operand} {rl rh : Option Int} {l u : Nat}
    (h1 : match rh with | some i => i = (u : Int) | none => u = len) (h2 : match rl with | some i => i = (l : Int) | none => l = 0) (h3 : l ≤ u) (h4 : u ≤ cap)
    (hl : bnd lo e = some rl) (hh : bnd hi e = some rh) (ha : Agree ρ e) (w : World) :
    (Instr.sliceBounds isS len cap (lo.map ρ) (hi.map ρ) none).run P w = .ok (l, u, cap) w := by
  have hu : (u : Int) ≤ cap := by omega
  have hlu : (l : Int) ≤ u := by omega
  rcases bnd_sound hl ha with ⟨rfl, rfl⟩ | ⟨y, k, n, rfl, rfl, hy⟩ <;> rcases bnd_sound hh ha with ⟨rfl, rfl⟩ | ⟨y', k', n', rfl, rfl, hy'⟩ <;> simp only at h1 h2 <;> subst h1 <;> subst h2 <;>
    simp [Instr.sliceBounds, Instr.sliceBound, asIntOf, *]

theorem sl_sound {t : TypeId} {x : Operand} {lo hi : Option Operand} {K : Value → Prop} (hs : slOp P t (evV e x) (bnd lo e) (bnd hi e) K) (ha : Agree ρ e) (o : Oper) (ho : o.op = .slice t x lo hi none) :
    StillOk P (execOp ρ o) K := by
  unfold slOp at hs
  split at hs
  · rename_i b n c rl rh hx hl hh
    have h1 := ha x _ hx
    split at hs
    · rename_i el hu
      split at hs
      · rename_i sz hz
        obtain ⟨l, u, hu1, hl1, h3, h4, hk⟩ := hs
        refine ⟨_, fun w => ?_, hk⟩
        have hb := run_sliceBounds_gl (P := P) (isS := true) hu1 hl1 h3 h4 hl hh ha w
        simp only [execOp, ho, h1, Instr.sliceAt, Sem.run_bind, run_und hu, Result.andThen_ok, Instr.slice, Option.map_none, hb, run_sizeT hz, Sem.run_pure, slcBase]
      · exact hs.elim
    · exact hs.elim
  · rename_i s rl rh hx hl hh
    have h1 := ha x _ hx
    split at hs
    · rename_i hu
      obtain ⟨l, u, hu1, hl1, h3, h4, hk⟩ := hs
      refine ⟨_, fun w => ?_, hk⟩
      have hb := run_sliceBounds_gl (P := P) (isS := false) hu1 hl1 h3 h4 hl hh ha w
      simp [execOp, ho, h1, Instr.sliceAt, run_und hu, Instr.slice, hb]
    · exact hs.elim
  · rename_i a rl rh hx hl hh
    have h1 := ha x _ hx
    split at hs
    · rename_i n el hu
      split at hs
      · rename_i sz hz
        obtain ⟨l, u, hu1, hl1, h3, h4, hk⟩ := hs
        refine ⟨_, fun w => ?_, hk⟩
        have hb := run_sliceBounds_gl (P := P) (isS := false) hu1 hl1 h3 h4 hl hh ha w
        simp only [execOp, ho, h1, Instr.sliceAt, Sem.run_bind, run_und hu, Result.andThen_ok, Instr.sureAddr, Option.map_none, hb, run_sizeT hz, Sem.run_pure, slcBase]
        by_cases hnl : n = l <;> simp [hnl]
      · exact hs.elim
    · exact hs.elim
  · exact hs.elim

theorem ikN_eq {k k' : IntKind} (h : Nat.beq (ikN k) (ikN k') = true) : k = k' := by
  cases k <;> cases k' <;> first | rfl | (simp [ikN] at h)

theorem binI_sound {op : BinOp} {k : IntKind} {a b : Int} {K : Value → Prop} (hs : binI op k a b K) (t : TypeId) :
    ∃ v, (∀ w, (binOp op t (.int k a) (.int k b)).run P w = .ok v w) ∧ K v := by
  cases op <;> simp only [binI] at hs
  case quo => exact ⟨_, fun w => by simp [binOp, Op.intDiv, hs.1], hs.2⟩
  case rem => exact ⟨_, fun w => by simp [binOp, Op.intDiv, hs.1], hs.2⟩
  all_goals exact ⟨_, fun w => by simp [binOp, Op.intArith, Op.intBits, Op.intCmp, bitsI], hs⟩

theorem eqGuard_plain (op : BinOp) (t : TypeId) (x y : Operand) (a b : Value) (w : World) (h : (∀ cs, a ≠ .agg cs) ∧ a ≠ .nilIface) : (eqGuard op t x y a b).run P w = .ok () w := by
  have key : (match a, b with
    | .nilIface, .nilIface => (do
      if (x matches .const _) || (y matches .const _) then return
      if ← Op.eqGuardIn Op.maxDepth t a b then unsupported (.noEntry "binop/eql: two nil values of an interface type with methods, neither of them the literal nil") : Sem Unit)
    | .agg _, .agg _ => do
      if !(← program).eqGuardType (← program).depth t then return
      if ← Op.eqGuardIn Op.maxDepth t a b then unsupported (.noEntry "binop/eql: two nil values of an interface type with methods, in a part of a struct or an array")
    | _, _ => pure ()).run P w = .ok () w := by
    split
    · exact absurd rfl h.2
    · exact absurd rfl (h.1 _)
    · rfl
  cases op <;> first | rfl | exact key

theorem binS_sound {op : BinOp} {a b : ByteArray} {K : Value → Prop} (hs : binS op a b K) (t : TypeId) :
    ∃ v, (∀ w, (binOp op t (.string a) (.string b)).run P w = .ok v w) ∧ K v := by
  cases op <;> simp only [binS] at hs
  case add => exact ⟨_, fun w => by
    have h3 : (a.size : Int) + b.size ≤ 9223372036854775807 := by have := hs.1; simpa [IntKind.max, IntKind.signed, IntKind.bits] using this
    simp [binOp, Op.stringOp]
    omega, hs.2⟩
  all_goals exact ⟨_, fun w => by simp [binOp, Op.stringOp], hs⟩

theorem eqCells_sound : ∀ (fs : List Field) (xs ys : Array Value) (K : Bool → Prop) (d : Nat), eqCells P K fs xs.toList ys.toList → plainNames fs = true →
    ∃ b, (∀ w, (Op.eqFields (d + 1) xs ys fs).run P w = .ok b w) ∧ K b
  | [], xs, ys, K, d, hs, _ => ⟨true, fun w => rfl, hs⟩
  | f :: fs, xs, ys, K, d, hs, hn => by
    have hne : f.name ≠ "_" := by
      intro h0
      simp [plainNames, h0] at hn
    have hn' : plainNames fs = true := by
      unfold plainNames at hn
      split at hn
      · cases hn
      · exact hn
    unfold eqCells at hs
    simp only [toList_get] at hs
    split at hs
    case h_2 => exact hs.elim
    rename_i x hx
    split at hs
    case h_2 => exact hs.elim
    rename_i y hy
    have hp : ∀ (d' : TypeDesc), P.underlying f.type = some d' → isAggT P f.type = false → ∀ w, (part f.type xs f.offset).run P w = .ok x w ∧ (part f.type ys f.offset).run P w = .ok y w := by
      intro d' hu ha w
      constructor <;> simp [part, run_isAgg_eq hu, ha, hx, hy]
    have step : ∀ (c : Bool) (d' : TypeDesc), P.underlying f.type = some d' → isAggT P f.type = false → (∀ w, (Op.equalIn (d + 1) f.type x y).run P w = .ok c w) →
        (match fs with
          | [] => K c
          | fs => eqCells P (fun c' => K (c && c')) fs xs.toList ys.toList) → ∃ b, (∀ w, (Op.eqFields (d + 1) xs ys (f :: fs)).run P w = .ok b w) ∧ K b := by
      intro c d' hu ha hc hk
      have hpw := hp d' hu ha
      cases fs with
      | nil =>
        refine ⟨c, fun w => ?_, hk⟩
        rw [Op.eqFields, if_pos hne]
        simp only [Sem.run_bind, (hpw w).1, (hpw w).2, Result.andThen_ok, hc]
        cases c <;> simp [Op.eqFields]
      | cons g gs =>
        obtain ⟨b, hb, hkb⟩ := eqCells_sound (g :: gs) xs ys _ d hk hn'
        refine ⟨c && b, fun w => ?_, hkb⟩
        rw [Op.eqFields, if_pos hne]
        simp only [Sem.run_bind, (hpw w).1, (hpw w).2, Result.andThen_ok, hc]
        cases c with
        | false => simp
        | true => simp [hb]
    cases x <;> cases y <;> first
      | exact hs.elim
      | skip
    case bool.bool a b =>
      cases hu : P.underlying f.type with
      | none => simp only [hu] at hs
      | some d' =>
        cases d' <;> simp only [hu] at hs
        refine step (a == b) _ hu (by simp [isAggT, hu]) (fun w => run_equalIn_bool' w d f.type a b hu) ?_
        revert hs
        cases fs <;> exact id
    case int.int k a k' b =>
      simp only at hs
      cases hk : Nat.beq (ikN k) (ikN k') with
      | false => simp only [hk] at hs
      | true =>
        obtain rfl := ikN_eq hk
        simp only [hk] at hs
        cases hu : P.underlying f.type with
        | none => simp only [hu] at hs
        | some d' =>
          cases d' <;> simp only [hu] at hs
          refine step (a == b) _ hu (by simp [isAggT, hu]) (fun w => run_equalIn_int w d f.type _ _ a b hu) ?_
          revert hs
          cases fs <;> exact id
    case string.string a b =>
      cases hu : P.underlying f.type with
      | none => simp only [hu] at hs
      | some d' =>
        cases d' <;> simp only [hu] at hs
        refine step (a.toList == b.toList) _ hu (by simp [isAggT, hu]) (fun w => run_equalIn_string w d f.type a b hu) ?_
        revert hs
        cases fs <;> exact id

end Go.GL

namespace Go.GL

variable {P : Program} {e : Env} {ρ : Operand → Value}

theorem eqStruct_sound {t : TypeId} {xs ys : Array Value} {K : Bool → Prop} (hs : eqStruct P t xs.toList ys.toList K) (x y : Operand) :
    ∃ b, (∀ w, (do eqGuard .eql t x y (.agg xs) (.agg ys); binOp .eql t (.agg xs) (.agg ys) : Sem Value).run P w = .ok (.bool b) w) ∧
      (∀ w, (do eqGuard .neq t x y (.agg xs) (.agg ys); binOp .neq t (.agg xs) (.agg ys) : Sem Value).run P w = .ok (.bool (!b)) w) ∧ K b := by
  unfold eqStruct at hs
  cases hu : P.underlying t with
  | none => simp only [hu] at hs
  | some d =>
    cases d <;> simp only [hu] at hs
    case struct fs =>
      cases h1 : P.stoodInHeld t <;> simp only [h1] at hs
      cases h2 : P.eqGuardType P.depth t <;> simp only [h2] at hs
      cases h3 : plainNames fs.toList <;> simp only [h3] at hs
      obtain ⟨b, hb, hk⟩ := eqCells_sound fs.toList xs ys K 9998 hs h3
      have hf : P.underlying t = some (.struct (P.fieldsOf t)) := by simp [Program.fieldsOf, hu]
      have hf2 : P.fieldsOf t = fs := by simp [Program.fieldsOf, hu]
      refine ⟨b, fun w => ?_, fun w => ?_, hk⟩
      · simp only [Sem.run_bind, run_eqGuard_agg w .eql t x y xs ys h2, Result.andThen_ok, run_eql_struct, run_equalIn_struct w 9999 t xs ys hf h1, hf2, hb]
      · simp only [Sem.run_bind, run_eqGuard_agg w .neq t x y xs ys h2, Result.andThen_ok, run_neq_struct, run_equalIn_struct w 9999 t xs ys hf h1, hf2, hb]

/-- What a two-sided operation comes to. -/
def BinOk (P : Program) (op : BinOp) (t : TypeId) (x y : Operand) (a b : Value) (K : Value → Prop) : Prop :=
  ∃ v, (∀ w, (do eqGuard op t x y a b; binOp op t a b : Sem Value).run P w = .ok v w) ∧ K v

theorem BinOk.of {op : BinOp} {t : TypeId} {x y : Operand} {a b : Value} {K : Value → Prop} (hg : (∀ cs, a ≠ .agg cs) ∧ a ≠ .nilIface)
    (h : ∃ v, (∀ w, (binOp op t a b).run P w = .ok v w) ∧ K v) : BinOk P op t x y a b K := by
  obtain ⟨v, hv, hk⟩ := h
  exact ⟨v, fun w => by simp only [Sem.run_bind, eqGuard_plain op t x y a b w hg, Result.andThen_ok, hv], hk⟩

theorem equal_bool {t : TypeId} (a b : Bool) (hu : P.underlying t = some .bool) (w : World) : (Op.equal t (.bool a) (.bool b)).run P w = .ok (a == b) w :=
  run_equalIn_bool' w 9999 t a b hu

theorem equal_ptr {t el : TypeId} (p : Option Addr) (hu : P.underlying t = some (.pointer el)) (w : World) : (Op.equal t (.pointer p) (.pointer none)).run P w = .ok p.isNone w := by
  show (Op.equalIn (9999 + 1) t (.pointer p) (.pointer none)).run P w = _
  unfold Op.equalIn
  simp only [Sem.run_bind, run_und hu, Result.andThen_ok]
  cases p <;> rfl

theorem equal_slice {t el : TypeId} (b : Option Addr) (n c n' c' : Nat) (hu : P.underlying t = some (.slice el)) (w : World) :
    (Op.equal t (.slice b n c) (.slice none n' c')).run P w = .ok b.isNone w := by
  show (Op.equalIn (9999 + 1) t (.slice b n c) (.slice none n' c')).run P w = _
  unfold Op.equalIn
  simp only [Sem.run_bind, run_und hu, Result.andThen_ok]
  cases b <;> rfl

theorem binOp_eql_ptr (t : TypeId) (p q : Option Addr) : binOp .eql t (.pointer p) (.pointer q) = (do pure (.bool (← Op.equal t (.pointer p) (.pointer q))) : Sem Value) := by
  cases p <;> cases q <;> rfl
theorem binOp_neq_ptr (t : TypeId) (p q : Option Addr) : binOp .neq t (.pointer p) (.pointer q) = (do pure (.bool (!(← Op.equal t (.pointer p) (.pointer q)))) : Sem Value) := by
  cases p <;> cases q <;> rfl

theorem bin_sound {op : BinOp} {t : TypeId} {x y : Operand} {K : Value → Prop} {raw : Value → Value → Prop} {vx vy : Option Value} (hs : binV P op t vx vy K raw) :
    ∃ a b, vx = some a ∧ vy = some b ∧ (BinOk P op t x y a b K ∨ raw a b) := by
  cases vx with
  | none => exact hs.elim
  | some a =>
    cases a with
    | int k a =>
      cases vy with
      | none => exact hs.elim
      | some b =>
        cases b with
        | int k' b =>
          refine ⟨_, _, rfl, rfl, .inl ?_⟩
          unfold binV at hs
          by_cases h1 : op = .shl
          · subst h1
            exact .of (by simp) ⟨_, fun w => by simp [binOp, Op.shift, Int.not_lt.2 hs.1, shlI], hs.2⟩
          · by_cases h2 : op = .shr
            · subst h2
              exact .of (by simp) ⟨_, fun w => by simp [binOp, Op.shift, Int.not_lt.2 hs.1, shrI], hs.2⟩
            · have hs' : (match Nat.beq (ikN k) (ikN k') with | true => binI op k a b K | false => False) := by
                cases op <;> first | exact hs | exact absurd rfl h1 | exact absurd rfl h2
              cases hk : Nat.beq (ikN k) (ikN k') with
              | false => simp only [hk] at hs'
              | true =>
                obtain rfl := ikN_eq hk
                simp only [hk] at hs'
                exact .of (by simp) (binI_sound hs' t)
        | _ => exact hs.elim
    | string a =>
      cases vy with
      | none => exact hs.elim
      | some b =>
        cases b with
        | string b => exact ⟨_, _, rfl, rfl, .inl (.of (by simp) (binS_sound hs t))⟩
        | _ => exact hs.elim
    | bool a =>
      cases vy with
      | none => exact hs.elim
      | some b =>
        cases b with
        | bool b =>
          refine ⟨_, _, rfl, rfl, .inl (.of (by simp) ?_)⟩
          unfold binV at hs
          cases hu : P.underlying t with
          | none => simp only [hu] at hs
          | some d =>
            cases d <;> simp only [hu] at hs
            cases op <;> first
              | exact hs.elim
              | exact ⟨_, fun w => by simp only [binOp, Sem.run_bind, equal_bool a b hu, Result.andThen_ok, Sem.run_pure], hs⟩
        | _ => exact hs.elim
    | pointer p =>
      cases vy with
      | none => exact hs.elim
      | some b =>
        refine ⟨_, _, rfl, rfl, ?_⟩
        by_cases hb : b = .pointer none
        · subst hb
          left
          refine .of (by simp) ?_
          unfold binV at hs
          cases hu : P.underlying t with
          | none => simp only [hu] at hs
          | some d =>
            cases d <;> simp only [hu] at hs
            cases op <;> first
              | exact hs.elim
              | exact ⟨_, fun w => by simp only [binOp_eql_ptr, Sem.run_bind, equal_ptr p hu, Result.andThen_ok, Sem.run_pure], hs⟩
              | exact ⟨_, fun w => by simp only [binOp_neq_ptr, Sem.run_bind, equal_ptr p hu, Result.andThen_ok, Sem.run_pure], hs⟩
        · right
          unfold binV at hs
          cases b <;> first | exact hs | skip
          case pointer q =>
            cases q with
            | none => exact absurd rfl hb
            | some q => exact hs
    | slice c n m =>
      cases vy with
      | none => exact hs.elim
      | some b =>
        refine ⟨_, _, rfl, rfl, ?_⟩
        by_cases hb : ∃ n' m', b = .slice none n' m'
        · obtain ⟨n', m', rfl⟩ := hb
          left
          refine .of (by simp) ?_
          unfold binV at hs
          cases hu : P.underlying t with
          | none => simp only [hu] at hs
          | some d =>
            cases d <;> simp only [hu] at hs
            cases op <;> first
              | exact hs.elim
              | exact ⟨_, fun w => by simp only [binOp, Sem.run_bind, equal_slice c n m n' m' hu, Result.andThen_ok, Sem.run_pure], hs⟩
        · right
          unfold binV at hs
          cases b <;> first | exact hs | skip
          case slice q n' m' =>
            cases q with
            | none => exact absurd ⟨_, _, rfl⟩ hb
            | some q => exact hs
    | agg xs =>
      cases vy with
      | none => exact hs.elim
      | some b =>
        cases b with
        | agg ys =>
          refine ⟨_, _, rfl, rfl, .inl ?_⟩
          unfold binV at hs
          cases op <;> first | exact hs.elim | skip
          case eql =>
            obtain ⟨b, h1, _, hk⟩ := eqStruct_sound hs x y
            exact ⟨_, h1, hk⟩
          case neq =>
            obtain ⟨b, _, h1, hk⟩ := eqStruct_sound hs x y
            exact ⟨_, h1, hk⟩
        | _ => exact hs.elim
    | _ =>
      cases vy with
      | none => exact hs.elim
      | some b => exact ⟨_, _, rfl, rfl, .inr hs⟩

theorem un_sound {op : UnOp} {t : TypeId} {x : Operand} {K : Value → Prop} (hs : unV op (evV e x) K) (ha : Agree ρ e) (o : Oper) (ho : o.op = .unOp op t x) :
    StillOk P (execOp ρ o) K := by
  cases hx : evV e x with
  | none => rw [hx] at hs; cases op <;> exact hs.elim
  | some v =>
    have hr := ha x v hx
    rw [hx] at hs
    cases op with
    | neg =>
      cases v with
      | int k n => exact ⟨_, fun w => by simp [execOp, ho, hr, Op.unary, Op.intArith], hs⟩
      | _ => exact hs.elim
    | xor =>
      cases v with
      | int k n =>
        refine ⟨_, fun w => ?_, hs⟩
        simp [execOp, ho, hr, Op.unary, Op.intBits, bitsI]
        cases k.signed <;> rfl
      | _ => exact hs.elim
    | not =>
      cases v with
      | bool b => exact ⟨_, fun w => by simp [execOp, ho, hr, Op.unary], hs⟩
      | _ => exact hs.elim
    | plus => exact hs.elim

theorem cv_sound {s d : TypeId} {x : Operand} {K : Value → Prop} {raw : Value → Prop} (hs : cvV P s d (evV e x) K raw) (ha : Agree ρ e) :
    ∃ v, ρ x = v ∧ ((∃ v', (∀ w, (convert s d v).run P w = .ok v' w) ∧ K v') ∨ raw v) := by
  cases hx : evV e x with
  | none => simp only [hx, cvV] at hs
  | some v =>
    refine ⟨v, ha x v hx, ?_⟩
    rw [hx] at hs
    by_cases hi : ∃ k n, v = .int k n
    · obtain ⟨k, n, rfl⟩ := hi
      unfold cvV at hs
      cases hu : P.underlying d with
      | none => simp only [hu] at hs; exact .inr hs
      | some dd =>
        cases dd <;> simp only [hu] at hs <;> first | exact .inr hs | skip
        case int k' =>
          cases hv : P.underlying s with
          | none => simp only [hv] at hs
          | some ds =>
            simp only [hv] at hs
            exact .inl ⟨_, fun w => by simp [convert, run_und hu, run_und hv, Conv.intToInt], hs⟩
    · right
      unfold cvV at hs
      cases v <;> first | exact hs | exact absurd ⟨_, _, rfl⟩ hi

theorem ex_sound {t : Operand} {i : Nat} {K : Value → Prop} (hs : exOp (evV e t) i K) (ha : Agree ρ e) (o : Oper) (ho : o.op = .extract t i) : StillOk P (execOp ρ o) K := by
  cases hx : evV e t with
  | none => simp only [hx, exOp] at hs
  | some v =>
    have hr := ha t v hx
    rw [hx] at hs
    cases v with
    | tuple vs =>
      unfold exOp at hs
      simp only [toList_get] at hs
      cases hv : vs[i]? with
      | none => simp only [hv] at hs
      | some v =>
        simp only [hv] at hs
        exact ⟨v, fun w => by simp [execOp, ho, hr, Instr.extract, hv], hs⟩
    | _ => exact hs.elim

theorem extract_eq (cs : Array Value) (o n : Nat) : cs.extract o (o + n) = ⟨(cs.toList.drop o).take n⟩ := by
  apply Array.ext'
  simp

theorem fd_sound {t : TypeId} {x : Operand} {f : Nat} {K : Value → Prop} (hs : fdOp P t (evV e x) f K) (ha : Agree ρ e) (o : Oper) (ho : o.op = .field t x f) : StillOk P (execOp ρ o) K := by
  cases hx : evV e x with
  | none => simp only [hx, fdOp] at hs
  | some v =>
    have hr := ha x v hx
    rw [hx] at hs
    cases v with
    | agg cs =>
      unfold fdOp at hs
      simp only [toList_get] at hs
      cases hu : P.underlying t with
      | none => simp only [hu] at hs
      | some d =>
        cases d <;> simp only [hu] at hs
        case struct fs =>
          cases hf : fs[f]? with
          | none => simp only [hf] at hs
          | some fd =>
            simp only [hf] at hs
            cases hu2 : P.underlying fd.type with
            | none => simp only [hu2] at hs
            | some d2 =>
              have hsimple : isAggT P fd.type = false → (match cs[fd.offset]? with | some v => K v | none => False) → StillOk P (execOp ρ o) K := by
                intro hagg hk
                cases hc : cs[fd.offset]? with
                | none => simp only [hc] at hk
                | some v =>
                  simp only [hc] at hk
                  exact ⟨v, fun w => by simp [execOp, ho, hr, Instr.field, run_und hu, hf, asAgg, part, run_isAgg_eq hu2, hagg, hc], hk⟩
              have hagg : isAggT P fd.type = true → (match sizeT P fd.type with | some n => K (.agg ⟨(cs.toList.drop fd.offset).take n⟩) | none => False) → StillOk P (execOp ρ o) K := by
                intro hagg hk
                cases hz : sizeT P fd.type with
                | none => simp only [hz] at hk
                | some n =>
                  simp only [hz] at hk
                  exact ⟨_, fun w => by simp only [execOp, ho, hr, Instr.field, Sem.run_bind, run_und hu, hf, asAgg, part, run_isAgg_eq hu2, hagg, Result.andThen_ok, run_sizeT hz, Sem.run_pure, if_true, extract_eq], hk⟩
              cases d2 <;> simp only [hu2] at hs <;> first
                | exact hsimple (by simp [isAggT, hu2]) hs
                | exact hagg (by simp [isAggT, hu2]) hs
    | _ => exact hs.elim

theorem evs_map : ∀ (xs : List Operand) (vs : List Value), evs e xs = some vs → Agree ρ e → xs.map ρ = vs
  | [], vs, h, _ => by simp [evs] at h; subst h; rfl
  | x :: xs, vs, h, ha => by
    unfold evs at h
    cases hx : evV e x with
    | none => simp [hx] at h
    | some v =>
      cases hr : evs e xs with
      | none => simp [hx, hr] at h
      | some r =>
        simp [hx, hr] at h
        subst h
        simp [ha x v hx, evs_map xs r hr ha]

theorem evp_map : ∀ (xs : List (Nat × Operand)) (vs : List (Nat × Value)), evp e xs = some vs → Agree ρ e → xs.map (fun p => (p.1, ρ p.2)) = vs
  | [], vs, h, _ => by simp [evp] at h; subst h; rfl
  | (i, x) :: xs, vs, h, ha => by
    unfold evp at h
    cases hx : evV e x with
    | none => simp [hx] at h
    | some v =>
      cases hr : evp e xs with
      | none => simp [hx, hr] at h
      | some r =>
        simp [hx, hr] at h
        subst h
        simp [ha x v hx, evp_map xs r hr ha]

theorem evs_arr {xs : Array Operand} {vs : List Value} (h : evs e xs.toList = some vs) (ha : Agree ρ e) : xs.map ρ = ⟨vs⟩ := by
  apply Array.ext'
  simpa using evs_map xs.toList vs h ha

theorem evp_arr {xs : Array (Nat × Operand)} {vs : List (Nat × Value)} (h : evp e xs.toList = some vs) (ha : Agree ρ e) : (xs.map fun (i, x) => (i, ρ x)) = ⟨vs⟩ := by
  apply Array.ext'
  simpa using evp_map xs.toList vs h ha

theorem bd_sound {t : TypeId} {ps : Array (Nat × Operand)} {K : Value → Prop} (hs : bdOp P t (evp e ps.toList) K) (ha : Agree ρ e) (o : Oper) (ho : o.op = .build t ps) : StillOk P (execOp ρ o) K := by
  cases hp : evp e ps.toList with
  | none => simp only [hp, bdOp] at hs
  | some l =>
    unfold bdOp at hs
    simp only [hp] at hs
    cases hb : P.built t l with
    | none => simp only [hb] at hs
    | some cs =>
      simp only [hb] at hs
      refine ⟨_, fun w => ?_, hs⟩
      have := run_build (P := P) w t ⟨l⟩ cs hb
      simp [execOp, ho, evp_arr hp ha, this]

theorem len_sound {ts : Array TypeId} {xs : Array Operand} {K : Value → Prop} {raw : List Value → Prop} (hs : lenOp P ts.toList (evs e xs.toList) K raw) (ha : Agree ρ e) (type : TypeId) (cs : Array Bool) :
    ∃ l, xs.map ρ = ⟨l⟩ ∧ ((∃ v, (∀ w, (builtin .len ts type cs ⟨l⟩).run P w = .ok (.value v) w) ∧ K v) ∨ raw l) := by
  unfold lenOp at hs
  split at hs
  case h_2 => exact hs.elim
  rename_i t r x hts hx
  refine ⟨_, evs_arr hx ha, ?_⟩
  have ht0 : ts[0]? = some t := by rw [← toList_get, hts]; rfl
  split at hs
  · split at hs
    · rename_i hu; exact .inl ⟨_, fun w => by simp [builtin, Builtin.len_, ht0, run_und hu, goInt], hs⟩
    · exact hs.elim
  · split at hs
    · rename_i hu; exact .inl ⟨_, fun w => by simp [builtin, Builtin.len_, ht0, run_und hu, goInt], hs⟩
    · exact hs.elim
  · exact .inr hs

theorem mi_sound {t : TypeId} {x : Operand} {K : Value → Prop} (hs : match P.underlying t with
    | some (.interface _) => False
    | some _ => someV (evV e x) fun v => K (.iface t v)
    | none => False) (ha : Agree ρ e) (o : Oper) (ho : o.op = .makeInterface t x) : StillOk P (execOp ρ o) K := by
  cases hu : P.underlying t with
  | none => simp only [hu] at hs
  | some d =>
    cases hx : evV e x with
    | none => cases d <;> simp only [hu, hx, someV] at hs
    | some v =>
      have hr := ha x v hx
      cases d <;> simp only [hu, hx, someV] at hs <;>
        exact ⟨_, fun w => by simp [execOp, ho, hr, Instr.makeInterface, run_und hu], hs⟩

theorem mf_sound {fn : Fn} {first cap : Array Operand} {K : Value → Prop} (hs : match evs e first.toList, evs e cap.toList with
    | some fs, some cs => K (.func fn ⟨fs⟩ ⟨cs⟩)
    | _, _ => False) (ha : Agree ρ e) (o : Oper) (ho : o.op = .makeFunc fn first cap) : StillOk P (execOp ρ o) K := by
  cases h1 : evs e first.toList with
  | none => simp only [h1] at hs
  | some fs =>
    cases h2 : evs e cap.toList with
    | none => simp only [h1, h2] at hs
    | some cs =>
      simp only [h1, h2] at hs
      exact ⟨_, fun w => by simp [execOp, ho, Instr.makeFunc, evs_arr h1 ha, evs_arr h2 ha], hs⟩

theorem still_sound {o : Oper} {K : Value → Prop} (hs : stillS P e o K) (ha : Agree ρ e) : StillOk P (execOp ρ o) K := by
  unfold stillS at hs
  split at hs
  · rename_i ho; exact nil_sound hs ha o ho
  · rename_i ho; exact fa_sound hs ha o ho
  · rename_i ho; exact ia_sound hs ha o ho
  · rename_i ho; exact ix_sound hs ha o ho
  · rename_i ho; exact sl_sound hs ha o ho
  · rename_i op t x y yt ho
    obtain ⟨a, b, hx, hy, h⟩ := bin_sound (x := x) (y := y) hs
    rcases h with ⟨v, hv, hk⟩ | h
    · refine ⟨v, fun w => ?_, hk⟩
      have h1 := ha x a hx
      have h2 := ha y b hy
      have := hv w
      simp only [execOp, ho, h1, h2, Sem.run_bind] at this ⊢
      rw [this]
      rfl
    · exact h.elim
  · rename_i ho; exact un_sound hs ha o ho
  · rename_i s d x ho
    obtain ⟨v, hv, h⟩ := cv_sound hs ha
    rcases h with ⟨v', h, hk⟩ | h
    · exact ⟨v', fun w => by simp [execOp, ho, hv, h], hk⟩
    · exact h.elim
  · rename_i ho; exact ex_sound hs ha o ho
  · rename_i ho; exact fd_sound hs ha o ho
  · rename_i ho; exact bd_sound hs ha o ho
  · rename_i ho; exact mi_sound hs ha o ho
  · rename_i ho; exact mf_sound hs ha o ho
  · rename_i c ho
    split at hs
    · rename_i hc
      obtain ⟨l, hl, h⟩ := len_sound hs ha o.type (c.args.map fun | .const _ => true | _ => false)
      rcases h with ⟨v, hv, hk⟩ | h
      · refine ⟨v, fun w => ?_, hk⟩
        simp only [execOp, ho, resolve, hc, hl, Sem.run_bind, Sem.run_pure, Result.andThen_ok, invoke]
        exact hv w
      · exact h.elim
    · exact hs.elim
  · exact hs.elim

end Go.GL

namespace Go.GL

variable {P : Program} {e : Env} {ρ : Operand → Value}

theorem RunS.of_still {s : Sem Next} {h : H} {K : Value → H → Prop} (hs : StillOk P s fun v => K v h) : RunS P s h K := by
  obtain ⟨v, hv, hk⟩ := hs
  intro w hw
  rw [hv w]
  exact ⟨Same.refl w, hw ▸ hk⟩

theorem RunS.of_v {s : Sem Value} {h : H} {K : Value → H → Prop} (hs : RunV P s h K) : RunS P (do pure (.value (← s))) h K := by
  intro w hw
  have := hs w hw
  simp only [Sem.run_bind, Sem.run_pure]
  generalize s.run P w = r at this
  cases r with
  | ok v w' => exact this
  | halt x w' => exact this.elim

theorem RunS.of_u {s : Sem Unit} {h : H} {K : Value → H → Prop} (hs : RunU P s h (K undef)) : RunS P (do s; pure .skip) h K := by
  intro w hw
  have := hs w hw
  simp only [Sem.run_bind, Sem.run_pure]
  generalize s.run P w = r at this
  cases r with
  | ok v w' => exact this
  | halt x w' => exact this.elim

theorem CallsH.mono {f : FuncId} {args : Array Value} {h : H} {K K' : Value → H → Prop} (hk : ∀ v h, K v h → K' v h) (hs : CallsH P f args h K) : CallsH P f args h K' :=
  fun w hw => Calls.mono (hs w hw) fun _ _ ⟨v, he, hsm, hkv⟩ => ⟨v, he, hsm, hk _ _ hkv⟩

theorem RunV.mono {s : Sem Value} {h : H} {K K' : Value → H → Prop} (hk : ∀ v h, K v h → K' v h) (hs : RunV P s h K) : RunV P s h K' := by
  intro w hw
  have := hs w hw
  generalize s.run P w = r at this
  cases r with
  | ok v w' => exact ⟨this.1, hk _ _ this.2⟩
  | halt x w' => exact this

theorem RunS.mono {s : Sem Next} {h : H} {K K' : Value → H → Prop} (hk : ∀ v h, K v h → K' v h) (hs : RunS P s h K) : RunS P s h K' := by
  intro w hw
  have := hs w hw
  generalize s.run P w = r at this
  cases r with
  | ok n w' =>
    cases n <;> first | exact this.elim | skip
    · exact ⟨this.1, hk _ _ this.2⟩
    · exact ⟨this.1, hk _ _ this.2⟩
    · exact ⟨this.1, CallsH.mono hk this.2⟩
  | halt x w' => exact this

/-! ### What is taken apart was whole -/

theorem exK_imp {k : CK} {v : Value} {K : Value → Prop} (h : exK k v K) : K v := by
  cases k
  case i => obtain ⟨n, rfl, hk⟩ := h; exact hk
  case b => obtain ⟨n, rfl, hk⟩ := h; exact hk
  case s => obtain ⟨n, rfl, hk⟩ := h; exact hk
  case p => obtain ⟨n, rfl, hk⟩ := h; exact hk
  case l => obtain ⟨p, n, c, rfl, hk⟩ := h; exact hk
  case m => obtain ⟨n, rfl, hk⟩ := h; exact hk
  case f => obtain ⟨t, x, rfl, hk⟩ := h; exact hk
  case raw => exact h

theorem exVs_imp {K : List Value → Prop} : ∀ {ks : List CK} {vs acc : List Value}, exVs K ks vs acc → K (acc.reverse ++ vs)
  | [], [], acc, h => by simpa [exVs] using h
  | [], _ :: _, _, h => h.elim
  | _ :: _, [], _, h => h.elim
  | k :: ks, v :: vs, acc, h => by
    have h1 := exK_imp h
    have := exVs_imp h1
    simpa using this

theorem ex1_imp {s : Sh1} {v : Value} {K : Value → Prop} (h : ex1 s v K) : K v := by
  unfold ex1 at h
  split at h
  · split at h
    · obtain ⟨a, rfl, h⟩ := h; exact exVs_imp h
    · obtain ⟨a, b, rfl, h⟩ := h; exact exVs_imp h
    · obtain ⟨a, b, c, rfl, h⟩ := h; exact exVs_imp h
    · obtain ⟨a, b, c, d, rfl, h⟩ := h; exact exVs_imp h
    · obtain ⟨a, b, c, d, x, rfl, h⟩ := h; exact exVs_imp h
    · obtain ⟨a, b, c, d, x, y, rfl, h⟩ := h; exact exVs_imp h
    · obtain ⟨vs, _, rfl, h⟩ := h; exact h
  · exact exK_imp h
  · exact h

theorem ex1s_imp {K : List Value → Prop} : ∀ {ks : List Sh1} {vs acc : List Value}, ex1s K ks vs acc → K (acc.reverse ++ vs)
  | [], [], acc, h => by simpa [ex1s] using h
  | [], _ :: _, _, h => h.elim
  | _ :: _, [], _, h => h.elim
  | k :: ks, v :: vs, acc, h => by
    have h1 := ex1_imp h
    have := ex1s_imp h1
    simpa using this

theorem exR_imp {s : Sh} {v : Value} {K : Value → Prop} (h : exR s v K) : K v := by
  unfold exR at h
  split at h
  · split at h
    · obtain ⟨rfl, h⟩ := h; exact h
    · obtain ⟨a, b, rfl, h⟩ := h; exact ex1s_imp h
    · obtain ⟨a, b, c, rfl, h⟩ := h; exact ex1s_imp h
    · obtain ⟨a, b, c, d, rfl, h⟩ := h; exact ex1s_imp h
    · obtain ⟨a, b, c, d, x, rfl, h⟩ := h; exact ex1s_imp h
    · obtain ⟨vs, _, rfl, h⟩ := h; exact h
  · exact ex1_imp h
  · exact h

theorem apart_imp {t : TypeId} {K : Value → H → Prop} {v : Value} {h : H} (hs : apartK P t K v h) : K v h := by
  unfold apartK exT at hs
  split at hs
  · exact exR_imp hs
  · exact hs

/-! ### Loads and stores -/

theorem ldK_imp {h : H} {a : Addr} {k : CK} {K : Value → Prop} (hs : ldK h a k K) : ∃ v, cell h a = some v ∧ K v := by
  cases k
  case i => obtain ⟨n, hc, hk⟩ := hs; exact ⟨_, hc, hk⟩
  case b => obtain ⟨n, hc, hk⟩ := hs; exact ⟨_, hc, hk⟩
  case s => obtain ⟨n, hc, hk⟩ := hs; exact ⟨_, hc, hk⟩
  case p => obtain ⟨n, hc, hk⟩ := hs; exact ⟨_, hc, hk⟩
  case l => obtain ⟨p, n, c, hc, hk⟩ := hs; exact ⟨_, hc, hk⟩
  case m => obtain ⟨n, hc, hk⟩ := hs; exact ⟨_, hc, hk⟩
  case f => obtain ⟨t, x, hc, hk⟩ := hs; exact ⟨_, hc, hk⟩
  case raw => obtain ⟨v, hc, hk⟩ := hs; exact ⟨_, hc, hk⟩

theorem ldKs_imp {h : H} {a : Addr} {K : List Value → Prop} : ∀ {ks : List CK} {i : Nat} {acc : List Value}, ldKs h a K i ks acc →
    ∃ vs : List Value, vs.length = ks.length ∧ (∀ j v, vs[j]? = some v → cell h (a.add (i + j)) = some v) ∧ K (acc.reverse ++ vs)
  | [], i, acc, hs => ⟨[], rfl, fun j v hv => by simp at hv, by simpa [ldKs] using hs⟩
  | k :: ks, i, acc, hs => by
    obtain ⟨v, hc, hk⟩ := ldK_imp hs
    obtain ⟨vs, hl, hvs, hk'⟩ := ldKs_imp hk
    refine ⟨v :: vs, by simp [hl], fun j u hu => ?_, by simpa using hk'⟩
    cases j with
    | zero => simp at hu; subst hu; exact hc
    | succ j =>
      have := hvs j u (by simpa using hu)
      rwa [show i + (j + 1) = i + 1 + j from by omega]

theorem run_load_gl {w : World} {a : Addr} {v : Value} (h : cell w.heap a = some v) : (load a).run P w = .ok v w := by
  have h' : w.cell? a = some v := h
  simp [h']

theorem ld_strong {t : TypeId} {x : Operand} {h : H} {K : Value → H → Prop} (hs : ldOp P t (evV e x) h K) (ha : Agree ρ e) :
    ∃ v, (∀ w : World, w.heap = h → (Instr.loadAt t (ρ x)).run P w = .ok v w) ∧ K v h := by
  cases hx : evV e x with
  | none => simp only [hx, ldOp] at hs
  | some v =>
    rw [ha x v hx]
    rw [hx] at hs
    unfold ldOp at hs
    split at hs
    case h_2 => exact hs.elim
    rename_i a heq
    simp only [Option.some.injEq] at heq
    subst heq
    cases hagg : isAggT P t with
    | true =>
      simp only [hagg] at hs
      cases hf : flat P depthT t with
      | none => simp only [hf] at hs
      | some ks =>
        simp only [hf] at hs
        cases hz : sizeT P t with
        | none => simp only [hz] at hs
        | some n =>
          simp only [hz] at hs
          cases hb : Nat.beq ks.length n with
          | false => simp only [hb] at hs
          | true =>
            simp only [hb] at hs
            obtain ⟨vs, hl, hvs, hk⟩ := ldKs_imp hs
            have hn : n = vs.length := by rw [hl]; exact (Nat.eq_of_beq_eq_true hb).symm
            have hd : ∃ d, P.underlying t = some d := by
              unfold isAggT at hagg
              cases hu : P.underlying t with
              | none => simp [hu] at hagg
              | some d => exact ⟨d, rfl⟩
            obtain ⟨d, hd⟩ := hd
            refine ⟨.agg ⟨vs⟩, fun w hw => ?_, by simpa using hk⟩
            subst hw
            have hload := run_loadCells_list (P := P) w a vs (fun j v hv => (by simpa using hvs j v hv : cell w.heap (a.add j) = some v))
            simp only [Instr.loadAt, Instr.sureAddr, Sem.run_bind, Sem.run_pure, Result.andThen_ok, loadVar, run_isAgg_eq hd, hagg, if_true, run_sizeT hz, hn, hload]
    | false =>
      simp only [hagg] at hs
      cases hck : ckOf P t with
      | none => simp only [hck] at hs
      | some k =>
        simp only [hck] at hs
        obtain ⟨v, hc, hk⟩ := ldK_imp hs
        have hd : ∃ d, P.underlying t = some d := by
          unfold ckOf at hck
          cases hu : P.underlying t with
          | none => simp [hu] at hck
          | some d => exact ⟨d, rfl⟩
        obtain ⟨d, hd⟩ := hd
        refine ⟨v, fun w hw => ?_, hk⟩
        subst hw
        simp only [Instr.loadAt, Instr.sureAddr, Sem.run_bind, Sem.run_pure, Result.andThen_ok, loadVar, run_isAgg_eq hd, hagg, Bool.false_eq_true, if_false, run_load_gl hc]

theorem ldOp_ptr {t : TypeId} {x : Option Value} {h : H} {K : Value → H → Prop} (hs : ldOp P t x h K) : ∃ a, x = some (.pointer (some a)) := by
  unfold ldOp at hs
  split at hs
  · exact ⟨_, rfl⟩
  · exact hs.elim

theorem ld_sound {t : TypeId} {x : Operand} {h : H} {K : Value → H → Prop} (hs : ldOp P t (evV e x) h K) (ha : Agree ρ e) : RunV P (Instr.loadAt t (ρ x)) h K := by
  obtain ⟨v, hv, hk⟩ := ld_strong hs ha
  intro w hw
  rw [hv w hw]
  exact ⟨Same.refl w, hw ▸ hk⟩

theorem run_store_gl {w : World} {a : Addr} {v : Value} (hv : v.oneCell' = true) (h : canSt w.heap a) : (store a v).run P w = .ok () (w.setCell a v) := by
  obtain ⟨⟨u, hu⟩, hf⟩ := h
  have hu' : w.cell? a = some u := hu
  have hf' : w.frozen? a = false := hf
  rw [run_store P w a v .plain hv]
  simp [hu', hf']

theorem oneC_imp {v : Value} {K : Prop} (h : oneC v K) : v.oneCell' = true ∧ K := by
  cases v <;> first | exact h.elim | exact ⟨rfl, h⟩

theorem stL_sound {a : Addr} : ∀ {vs : List Value} {i : Nat} {w : World} {K : H → Prop}, stL w.heap a i vs K →
    ∃ w', (storeCells a vs i).run P w = .ok () w' ∧ Same w w' ∧ K w'.heap
  | [], i, w, K, hs => ⟨w, rfl, Same.refl w, hs⟩
  | v :: vs, i, w, K, hs => by
    obtain ⟨hv, hc, hk⟩ := oneC_imp hs
    have h1 := run_store_gl (P := P) hv hc
    obtain ⟨w', h2, hsm, hk'⟩ := stL_sound (w := w.setCell (a.add i) v) hk
    refine ⟨w', ?_, hsm, hk'⟩
    simp only [storeCells, Sem.run_bind, h1, Result.andThen_ok, h2]

theorem st_sound {t : TypeId} {x y : Operand} {h : H} {K : Value → H → Prop} (hs : stOp P t (evV e x) (evV e y) h K) (ha : Agree ρ e) : RunU P (Instr.storeAt t (ρ x) (ρ y)) h (K undef) := by
  cases hx : evV e x with
  | none => simp only [hx, stOp] at hs
  | some v =>
    rw [ha x v hx]
    rw [hx] at hs
    unfold stOp at hs
    split at hs
    case h_2 => exact hs.elim
    rename_i a heq
    simp only [Option.some.injEq] at heq
    subst heq
    split at hs
    case h_2 => exact hs.elim
    rename_i u hy
    rw [ha y u hy]
    cases hz : sizeT P t with
    | none => simp only [hz] at hs
    | some n =>
      simp only [hz] at hs
      intro w hw
      subst hw
      have key : ∀ vs : List Value, u.cells = ⟨vs⟩ → vs.length = n → stL w.heap a 0 vs (fun h' => K undef h') → (match (Instr.storeAt t (.pointer (some a)) u).run P w with
          | .ok _ w' => Same w w' ∧ K undef w'.heap
          | _ => False) := by
        intro vs hcs hl hst
        obtain ⟨w', h2, hsm, hk'⟩ := stL_sound (P := P) hst
        have : (Instr.storeAt t (.pointer (some a)) u).run P w = .ok () w' := by
          simp only [Instr.storeAt, Instr.sureAddr, Sem.run_bind, Sem.run_pure, Result.andThen_ok, storeVar, run_sizeT hz, hcs]
          simp [hl, h2]
        rw [this]
        exact ⟨hsm, hk'⟩
      split at hs
      · rename_i vs
        cases hb : Nat.beq vs.length n with
        | false => simp only [hb] at hs
        | true =>
          simp only [hb] at hs
          exact key vs rfl (Nat.eq_of_beq_eq_true hb) hs
      · rename_i hne
        cases hb : Nat.beq 1 n with
        | false => simp only [hb] at hs
        | true =>
          simp only [hb] at hs
          refine key [u] ?_ (Nat.eq_of_beq_eq_true hb) hs
          cases u <;> first | rfl | skip
          case agg cs => exact absurd rfl (hne cs.toList)

theorem newVar_run (t : TypeId) (v : Value) (w : World) : (newVar t v).run P w = .ok ⟨w.heap.size, 0, none⟩ { w with heap := w.heap.push (.cells ⟨vCells v⟩ t) } := by
  cases v <;> rfl

theorem box_sound {t : TypeId} {x : Operand} {h : H} {K : Value → H → Prop} (hs : boxOp t (evV e x) h K) (ha : Agree ρ e) : RunV P (Instr.box t (ρ x)) h K := by
  cases hx : evV e x with
  | none => simp only [hx, boxOp] at hs
  | some v =>
    rw [ha x v hx]
    rw [hx] at hs
    intro w hw
    subst hw
    simp only [Instr.box, Sem.run_bind, newVar_run, Result.andThen_ok, Sem.run_pure]
    exact ⟨⟨rfl, rfl, rfl⟩, hs⟩

theorem run_zeroT {t : TypeId} {z : Value} (h : zeroT P t = some z) (w : World) : (zeroValue t).run P w = .ok z w := by
  unfold zeroT at h
  cases hi : P.info? t with
  | none => simp [hi] at h
  | some i => simp [hi] at h; simp [zeroValue, typeInfo, hi, h]

theorem alloc_sound {t : TypeId} {h : H} {K : Value → H → Prop} (hs : allocOp P t h K) : RunV P (Instr.alloc t true (.tuple #[])) h K := by
  cases hz : zeroT P t with
  | none => simp only [hz, allocOp] at hs
  | some v =>
    simp only [hz, allocOp] at hs
    intro w hw
    subst hw
    simp only [Instr.alloc, Sem.run_bind, run_zeroT hz, newVar_run, Result.andThen_ok, Sem.run_pure]
    exact ⟨⟨rfl, rfl, rfl⟩, hs⟩

theorem bs_sound {t : TypeId} {n : Nat} {ps : Array (Nat × Operand)} {h : H} {K : Value → H → Prop} (hs : bsOp P t n (evp e ps.toList) h K) (ha : Agree ρ e) :
    RunV P (Instr.buildSlice t n (ps.map fun (i, x) => (i, ρ x))) h K := by
  cases hp : evp e ps.toList with
  | none => simp only [hp, bsOp] at hs
  | some l =>
    rw [evp_arr hp ha]
    rw [hp] at hs
    unfold bsOp at hs
    cases hu : P.underlying t with
    | none => simp only [hu] at hs
    | some d =>
      cases d <;> simp only [hu] at hs
      case slice el =>
        cases hz : sizeT P el with
        | none => simp only [hz] at hs
        | some size =>
          simp only [hz] at hs
          cases hb : Nat.ble (n * size) 1000 with
          | false => simp only [hb] at hs
          | true =>
            simp only [hb] at hs
            have hle : n * size ≤ 1000 := Nat.le_of_ble_eq_true hb
            cases hbs : builtSlice P el n l with
            | none => simp only [hbs] at hs
            | some cs =>
              simp only [hbs] at hs
              unfold builtSlice at hbs
              simp only [hz] at hbs
              cases hzt : zeroT P el with
              | none => simp only [hzt] at hbs; cases hbs
              | some z =>
                simp only [hzt] at hbs
                split at hbs
                case h_2 => cases hbs
                rename_i cells hf
                simp only [Option.some.injEq] at hbs
                subst hbs
                intro w hw
                subst hw
                have hno : ¬ (n * size > 2 ^ 24) := by omega
                by_cases h0 : n * size = 0
                · have hr : ∀ f : Nat → Value, (Array.range (n * size)).map f = #[] := fun f => by
                    apply Array.ext'
                    simp [h0]
                  rw [hr] at hf
                  simp only [Instr.buildSlice, Sem.run_bind, run_und hu, Result.andThen_ok, run_sizeT hz, if_neg hno, if_pos h0, Sem.run_pure, hr, hf, newRow, run_newObj]
                  exact ⟨⟨rfl, rfl, rfl⟩, hs⟩
                · simp only [Instr.buildSlice, Sem.run_bind, run_und hu, Result.andThen_ok, run_sizeT hz, if_neg hno, if_neg h0, Sem.run_pure, run_zeroT hzt, hf, newRow, run_newObj]
                  exact ⟨⟨rfl, rfl, rfl⟩, hs⟩

end Go.GL

namespace Go.GL

variable {P : Program} {e : Env} {ρ : Operand → Value}

theorem someV_imp {x : Option Value} {K : Value → Prop} (h : someV x K) : ∃ v, x = some v ∧ K v := by
  cases x with
  | none => exact h.elim
  | some v => exact ⟨v, rfl, h⟩

theorem rawV_apart {s : Sem Value} {t : TypeId} {h : H} {K : Value → H → Prop} (hs : rawV P s h (apartK P t K)) : RunS P (do pure (.value (← s))) h K :=
  RunS.of_v (RunV.mono (fun _ _ => apart_imp) hs)

theorem rawN_apart {s : Sem Next} {t : TypeId} {h : H} {K : Value → H → Prop} (hs : rawN P s h (apartK P t K)) : RunS P s h K :=
  RunS.mono (fun _ _ => apart_imp) hs

theorem call_sound {c : Call} {type : TypeId} {h : H} {K : Value → H → Prop} (hs : callOp P e c type h K (apartK P type K)) (ha : Agree ρ e) :
    RunS P (do let d ← resolve ρ c type; invoke d.target d.args) h K := by
  unfold callOp at hs
  split at hs
  · rename_i f hc
    split at hs
    case h_2 => exact hs.elim
    rename_i args hargs
    have hf : ρ (.func f) = .func (.func f) #[] #[] := ha _ _ rfl
    have he : (do let d ← resolve ρ c type; invoke d.target d.args : Sem Next) = callFunc f ⟨args⟩ := by
      simp [resolve, hc, hf, Deferred.ofValue, invoke, evs_arr hargs ha]
    rw [he]
    exact rawN_apart hs
  · rename_i x hne hc
    split at hs
    case h_2 => exact hs.elim
    rename_i v args hx hargs
    have he : (do let d ← resolve ρ c type; invoke d.target d.args : Sem Next) = callVal v ⟨args⟩ := by
      simp only [resolve, hc, ha _ _ hx, evs_arr hargs ha, callVal]
    rw [he]
    exact rawN_apart hs
  · rename_i r name hc
    split at hs
    case h_2 => exact hs.elim
    rename_i v args hx hargs
    have he : (do let d ← resolve ρ c type; invoke d.target d.args : Sem Next) = callMethod v name ⟨args⟩ := by
      simp [resolve, hc, ha _ _ hx, evs_arr hargs ha, invoke]
    rw [he]
    exact rawN_apart hs
  · rename_i b hc
    unfold blOp at hs
    split at hs
    case h_2 => exact hs.elim
    rename_i args hargs
    have he : (do let d ← resolve ρ c type; invoke d.target d.args : Sem Next) = builtin b c.argTypes type (c.args.map fun | .const _ => true | _ => false) ⟨args⟩ := by
      simp only [resolve, hc, evs_arr hargs ha, pure_bind, invoke]
      rfl
    rw [he]
    split at hs
    · rw [← hargs] at hs
      obtain ⟨l, hl, h1⟩ := len_sound hs ha type (c.args.map fun | .const _ => true | _ => false)
      have : args = l := by
        have h2 := evs_arr hargs ha
        rw [hl] at h2
        simpa using h2.symm
      subst this
      rcases h1 with h1 | h1
      · exact RunS.of_still h1
      · exact rawN_apart h1
    · exact rawN_apart hs

theorem op_sound {o : Oper} {h : H} {K : Value → H → Prop} (hs : opS P e o h K) (ha : Agree ρ e) : RunS P (execOp ρ o) h K := by
  unfold opS at hs
  split at hs
  · rename_i t x ho
    simp only [execOp, ho]
    exact RunS.of_v (ld_sound hs ha)
  · rename_i t x y ho
    simp only [execOp, ho]
    exact RunS.of_u (st_sound hs ha)
  · rename_i t x i ho
    unfold ixOp at hs
    split at hs
    · rename_i s k n hx hi
      have : stillS P e o fun v => K v h := by
        unfold stillS
        rw [ho]
        simp only [ixOp, hx, hi]
        exact hs
      exact RunS.of_still (still_sound this ha)
    · rename_i v k n _ hx hi
      simp only [execOp, ho, ha _ _ hx, ha _ _ hi]
      exact rawV_apart hs
    · exact hs.elim
  · rename_i op t x y yt ho
    obtain ⟨a, b, hx, hy, h1⟩ := bin_sound (x := x) (y := y) hs
    simp only [execOp, ho, ha _ _ hx, ha _ _ hy]
    rcases h1 with ⟨v, hv, hk⟩ | h1
    · exact RunS.of_v fun w hw => by rw [hv w]; exact ⟨Same.refl w, hw ▸ hk⟩
    · exact rawV_apart h1
  · rename_i s d x ho
    obtain ⟨v, hv, h1⟩ := cv_sound hs ha
    simp only [execOp, ho, hv]
    rcases h1 with ⟨v', hv', hk⟩ | h1
    · exact RunS.of_v fun w hw => by rw [hv' w]; exact ⟨Same.refl w, hw ▸ hk⟩
    · exact rawV_apart h1
  · rename_i t x ho
    simp only [execOp, ho]
    exact RunS.of_v (box_sound hs ha)
  · rename_i t ho
    simp only [execOp, ho]
    exact RunS.of_v (alloc_sound hs)
  · rename_i t n ps ho
    simp only [execOp, ho]
    exact RunS.of_v (bs_sound hs ha)
  · rename_i c ho
    simp only [execOp, ho]
    exact call_sound hs ha
  · rename_i t ho
    simp only [execOp, ho]
    exact rawV_apart hs
  · rename_i t x ho
    obtain ⟨v, hx, h1⟩ := someV_imp hs
    simp only [execOp, ho, Option.map_some, ha _ _ hx]
    exact rawV_apart h1
  · rename_i t l c ho
    obtain ⟨vl, hl, h1⟩ := someV_imp hs
    obtain ⟨vc, hc, h2⟩ := someV_imp h1
    simp only [execOp, ho, ha _ _ hl, ha _ _ hc]
    exact rawV_apart h2
  · rename_i t m k ok ho
    obtain ⟨vm, hm, h1⟩ := someV_imp hs
    obtain ⟨vk, hk, h2⟩ := someV_imp h1
    simp only [execOp, ho, ha _ _ hm, ha _ _ hk]
    exact rawV_apart h2
  · rename_i t m k x ho
    obtain ⟨vm, hm, h1⟩ := someV_imp hs
    obtain ⟨vk, hk, h2⟩ := someV_imp h1
    obtain ⟨vx, hx, h3⟩ := someV_imp h2
    simp only [execOp, ho, ha _ _ hm, ha _ _ hk, ha _ _ hx]
    exact RunS.of_u h3
  · rename_i t m k x ho
    obtain ⟨vm, hm, h1⟩ := someV_imp hs
    obtain ⟨vk, hk, h2⟩ := someV_imp h1
    obtain ⟨vx, hx, h3⟩ := someV_imp h2
    simp only [execOp, ho, ha _ _ hm, ha _ _ hk, ha _ _ hx]
    exact RunS.of_u h3
  · rename_i t m k ho
    obtain ⟨vm, hm, h1⟩ := someV_imp hs
    obtain ⟨vk, hk, h2⟩ := someV_imp h1
    simp only [execOp, ho, ha _ _ hm, ha _ _ hk]
    exact rawV_apart h2
  · rename_i t m s x ho
    obtain ⟨vm, hm, h1⟩ := someV_imp hs
    obtain ⟨vk, hk, h2⟩ := someV_imp h1
    obtain ⟨vx, hx, h3⟩ := someV_imp h2
    simp only [execOp, ho, ha _ _ hm, ha _ _ hk, ha _ _ hx]
    exact RunS.of_u h3
  · rename_i t x ho
    obtain ⟨v, hx, h1⟩ := someV_imp hs
    simp only [execOp, ho, ha _ _ hx]
    exact RunS.of_v (RunV.mono (fun v h hk => by obtain ⟨p, rfl, hk⟩ := hk; exact hk) h1)
  · rename_i it s ho
    obtain ⟨v, hx, h1⟩ := someV_imp hs
    simp only [execOp, ho, ha _ _ hx]
    exact RunS.of_v h1
  · rename_i it ho
    obtain ⟨v, hx, h1⟩ := someV_imp hs
    simp only [execOp, ho, ha _ _ hx]
    exact RunS.of_v h1
  · rename_i x t a ok ho
    obtain ⟨v, hx, h1⟩ := someV_imp hs
    simp only [execOp, ho, ha _ _ hx]
    exact rawV_apart h1
  · exact RunS.of_still (still_sound hs ha)

/-! ### The frame -/

def Rel (n : Nat) (e : Env) (a : Act) : Prop := a.tmps.size = n ∧ a.defers = [] ∧ ∀ t s, e.get t = some s → a.tmps[t]? = some s.v

theorem Rel.agree {n : Nat} {a : Act} (h : Rel n e a) : Agree a.eval e := by
  intro x v hv
  cases x with
  | tmp t =>
    simp only [evV, ev] at hv
    cases hg : e.get t with
    | none => simp [hg] at hv
    | some s =>
      simp only [hg, Option.some.injEq] at hv
      have := h.2.2 t s hg
      simp [Act.eval, this, hv]
  | const c =>
    have : evV e (.const c) = some c := by
      simp only [evV, ev]
      cases c <;> rfl
    rw [this] at hv
    simp only [Option.some.injEq] at hv
    subst hv
    rfl
  | global g =>
    simp only [evV, ev, Slot.v, Option.some.injEq] at hv
    exact hv
  | func f =>
    simp only [evV, ev, Slot.v, Option.some.injEq] at hv
    exact hv

theorem get_cons (t d : Nat) (s : Slot) (e : Env) : Env.get ((d, s) :: e) t = if d = t then some s else Env.get e t := by
  simp only [Env.get]
  by_cases h : d = t
  · simp [h]
  · have hb : Nat.beq d t = false := by
      rw [← Bool.not_eq_true]
      exact fun hb => h (Nat.eq_of_beq_eq_true hb)
    simp [h, hb]

theorem Rel.put {n : Nat} {a : Act} (h : Rel n e a) {d : Nat} {s : Slot} (hd : Nat.blt d n = true) : Rel n ((d, s) :: e) (a.put (some d) s.v) := by
  obtain ⟨h1, h2, h3⟩ := h
  have hd' : d < a.tmps.size := by rw [h1]; exact Nat.lt_of_lt_of_le (Nat.lt_succ_self d) (Nat.le_of_ble_eq_true hd)
  refine ⟨by simp [Act.put, h1], by simp [Act.put, h2], fun t u hu => ?_⟩
  rw [get_cons] at hu
  by_cases hdt : d = t
  · subst hdt
    simp at hu
    subst hu
    simp [Act.put, hd']
  · rw [if_neg hdt] at hu
    have := h3 t u hu
    simp [Act.put, Array.getElem?_setIfInBounds_ne hdt, this]

theorem putS_imp {n : Nat} {a : Act} (hr : Rel n e a) {d : Option Nat} {s : Slot} {K : Env → Prop} (h : putS n e d s K) : ∃ e', Rel n e' (a.put d s.v) ∧ K e' := by
  cases d with
  | none => exact ⟨e, hr, h⟩
  | some d =>
    unfold putS at h
    cases hb : Nat.blt d n with
    | false => simp only [hb] at h
    | true =>
      simp only [hb] at h
      exact ⟨_, hr.put hb, h⟩

/-- What a step may go on with. -/
def Fits (n : Nat) (K : Env → H → Prop) (w0 : World) (a : Act) (w : World) : Prop := ∃ e, Rel n e a ∧ Same w0 w ∧ K e w.heap

theorem RunS.wp {o : Oper} {a : Act} {w : World} {K : Value → H → Prop} {next : Act → World → Prop} {Q : Exit → Act → World → Prop}
    (hs : RunS P (execOp a.eval o) w.heap K) (hn : ∀ v w', Same w w' → K v w'.heap → next (a.put o.dst v) w') : o.wp P a w next Q := by
  have := hs w rfl
  unfold Oper.wp
  generalize (execOp a.eval o).run P w = r at this
  cases r with
  | ok x w' =>
    cases x <;> first | exact this.elim | skip
    case value v => exact hn v w' this.1 this.2
    case skip => exact hn undef w' this.1 this.2
    case enter f args =>
      obtain ⟨hsm, hc⟩ := this
      show Calls P f args w' _
      refine Calls.mono (hc w' rfl) fun e w'' he => ?_
      obtain ⟨v, rfl, hsm2, hk⟩ := he
      exact hn v w'' (hsm.trans hsm2) hk
  | halt x w' => exact this.elim

/-- One operation, carried out. -/
theorem opE_sound {n : Nat} {o : Oper} {a : Act} {w : World} {K : Env → H → Prop} {Q : Exit → Act → World → Prop} (hr : Rel n e a) (hs : opE P n e o w.heap K) :
    o.wp P a w (Fits n K w) Q := by
  have hag := hr.agree
  have still : ∀ (s : Slot), (execOp a.eval o).run P w = .ok (.value s.v) w → putS n e o.dst s (fun e => K e w.heap) → o.wp P a w (Fits n K w) Q := by
    intro s hrun hp
    unfold Oper.wp
    rw [hrun]
    obtain ⟨e', hr', hk⟩ := putS_imp hr hp
    exact ⟨e', hr', Same.refl w, hk⟩
  have evs' : ∀ {x : Operand} {s : Slot}, ev e x = some s → a.eval x = s.v := fun {x s} h => hag x s.v (by simp [evV, h])
  have rest : opS P e o w.heap (fun v h' => putS n e o.dst (.val v) fun e => K e h') → o.wp P a w (Fits n K w) Q := by
    intro h
    refine RunS.wp (op_sound h hag) fun v w' hsm hp => ?_
    obtain ⟨e', hr', hk⟩ := putS_imp hr hp
    exact ⟨e', hr', hsm, hk⟩
  unfold opE at hs
  split at hs
  · rename_i x ho
    split at hs
    case h_2 => exact hs.elim
    rename_i s hx
    exact still s (by simp [execOp, ho, evs' hx]) hs
  · rename_i x ho
    split at hs
    case h_2 => exact hs.elim
    rename_i s hx
    exact still s (by simp [execOp, ho, evs' hx]) hs
  · rename_i c x y ho
    split at hs
    · rename_i hc
      split at hs
      case h_2 => exact hs.elim
      rename_i s hx
      exact still s (by simp [execOp, ho, evs' hx, evs' hc, Slot.v, asBool]) hs
    · rename_i hc
      split at hs
      case h_2 => exact hs.elim
      rename_i s hx
      exact still s (by simp [execOp, ho, evs' hx, evs' hc, Slot.v, asBool]) hs
    · exact hs.elim
  · rename_i t x ho
    split at hs
    · rename_i b hx
      exact still (.lit (!b)) (by simp [execOp, ho, evs' hx, Slot.v, Op.unary]) hs
    · rename_i b hx
      exact still (.val (.bool (!b))) (by simp [execOp, ho, evs' hx, Slot.v, Op.unary]) hs
    · exact hs.elim
  · exact rest hs

end Go.GL

namespace Go.GL

variable {P : Program}

theorem same2_eq (a b : Bool) : same2 a b = (a == b) := by cases a <;> cases b <;> rfl

theorem opG_sound {n : Nat} {e : Env} {ops : Array Oper} {o : Oper} {i : Nat} {go : Bool} {a : Act} {w : World} {K : Env → H → Prop} {Q : Exit → Act → World → Prop} (hi : ops[i]? = some o) (hr : Rel n e a)
    (hw : Region.wanted o (yielded ops a.tmps) = go) (hs : opG P n e o go w.heap K) : wpOp P ops Q i (Fits n K w) a w := by
  unfold wpOp
  simp only [hi, hw]
  cases go with
  | true => exact .inl (opE_sound hr hs)
  | false =>
    have hs' : putS n e o.dst (.val undef) (fun e => K e w.heap) := hs
    obtain ⟨e', hr', hk⟩ := putS_imp hr hs'
    exact ⟨e', hr', Same.refl w, hk⟩

theorem yielded_of {n : Nat} {e : Env} {ops : Array Oper} {a : Act} {j t : Nat} {oj : Oper} {s : Slot} (hr : Rel n e a) (hj : ops.toList[j]? = some oj) (hd : oj.dst = some t) (hg : e.get t = some s) :
    yielded ops a.tmps j = match s.v with | .bool b => some b | _ => none := by
  rw [toList_get] at hj
  have h1 := hr.2.2 t s hg
  unfold yielded
  simp only [hj, Option.bind_some, hd, h1]
  cases s.v <;> rfl

theorem Rel.lit {n : Nat} {e : Env} {a : Act} {t : Nat} {b : Bool} (hr : Rel n e a) (hg : e.get t = some (.val (.bool b))) : Rel n ((t, .lit b) :: e) a := by
  refine ⟨hr.1, hr.2.1, fun u s hu => ?_⟩
  rw [get_cons] at hu
  by_cases h : t = u
  · subst h
    simp at hu
    subst hu
    exact hr.2.2 t (.val (.bool b)) hg
  · rw [if_neg h] at hu
    exact hr.2.2 u s hu

/-- A guard, read: what is wanted, and the environment that knows it. -/
theorem want_sound {n : Nat} {e : Env} {ops : Array Oper} {o : Oper} {a : Act} {K : Env → Bool → Prop} (hr : Rel n e a) (hs : wantW ops e o K) :
    ∃ e', Rel n e' a ∧ K e' (Region.wanted o (yielded ops a.tmps)) := by
  unfold wantW at hs
  cases hg : o.guard with
  | none =>
    simp only [hg] at hs
    exact ⟨e, hr, by simpa [Region.wanted, hg] using hs⟩
  | some gw =>
    obtain ⟨j, want⟩ := gw
    simp only [hg] at hs
    split at hs
    case h_2 => exact hs.elim
    rename_i oj hj
    split at hs
    case h_2 => exact hs.elim
    rename_i t hd
    have hwant : Region.wanted o (yielded ops a.tmps) = (yielded ops a.tmps j == some want) := by simp [Region.wanted, hg]
    split at hs
    · rename_i b hb
      have := yielded_of hr hj hd hb
      refine ⟨e, hr, ?_⟩
      rw [hwant, this]
      rw [same2_eq] at hs
      simpa [Slot.v] using hs
    · rename_i b hb
      have := yielded_of hr hj hd hb
      have hr' := hr.lit hb
      refine ⟨_, hr', ?_⟩
      rw [hwant, this]
      obtain ⟨h1, h2⟩ := hs
      cases b with
      | true => simpa [Slot.v, same2_eq] using h1 rfl
      | false => simpa [Slot.v, same2_eq] using h2 rfl
    · rename_i vs hb
      have := yielded_of hr hj hd hb
      refine ⟨e, hr, ?_⟩
      rw [hwant, this]
      simpa [Slot.v] using hs
    · exact hs.elim

theorem opD_eq {n : Nat} {ops : Array Oper} {e : Env} {o : Oper} {h : H} {K : Env → H → Prop} : opD P n ops e o h K → wantW ops e o fun e go => opG P n e o go h K := by
  intro hs
  unfold opD at hs
  unfold wantW
  cases hg : o.guard with
  | none => simpa [hg, opG] using hs
  | some gw =>
    obtain ⟨j, want⟩ := gw
    simp only [hg] at hs ⊢
    exact hs

theorem opD_sound {n : Nat} {e : Env} {ops : Array Oper} {o : Oper} {i : Nat} {a : Act} {w : World} {K : Env → H → Prop} {Q : Exit → Act → World → Prop} (hi : ops[i]? = some o) (hr : Rel n e a)
    (hs : opD P n ops e o w.heap K) : wpOp P ops Q i (Fits n K w) a w := by
  obtain ⟨e', hr', hk⟩ := want_sound hr (opD_eq hs)
  exact opG_sound hi hr' rfl hk

theorem regW_sound {n : Nat} {ops : Array Oper} {K : Env → H → Prop} {Q : Exit → Act → World → Prop} {w0 : World} (hQ : ∀ a w, Fits n K w0 a w → Q .normal a w) :
    ∀ (l : List Oper) (k : Nat) (e : Env) (a : Act) (w : World), (∀ j, l[j]? = ops[k + j]?) → Rel n e a → Same w0 w → regW P n ops K l e w.heap → wpOps P ops Q (List.range' k l.length) a w
  | [], k, e, a, w, _, hr, hsm, hs => hQ a w ⟨e, hr, hsm, hs⟩
  | o :: l, k, e, a, w, hl, hr, hsm, hs => by
    have hi : ops[k]? = some o := by have := hl 0; simpa using this.symm
    have h1 := opD_sound (Q := Q) hi hr hs
    simp only [List.length_cons, List.range'_succ]
    rw [wpOps_cons]
    refine wpOp_mono (fun a' w' hf => ?_) h1
    obtain ⟨e', hr', hsm', hk⟩ := hf
    refine regW_sound hQ l (k + 1) e' a' w' (fun j => ?_) hr' (hsm.trans hsm') hk
    have := hl (j + 1)
    simp only [List.getElem?_cons_succ] at this
    rw [this, show k + 1 + j = k + (j + 1) from by omega]

/-! ### A region that draws -/

def keepS (ops : Array Oper) (i : Nat) (held : List (Nat × (World → Prop))) : List (Nat × (World → Prop)) := match ops[i]? with
  | some o => held.filter fun x => !hasEdge x.1 o.after.toList
  | none => held

theorem keepS_sub {ops : Array Oper} {i : Nat} {held : List (Nat × (World → Prop))} {x : Nat × (World → Prop)} (h : x ∈ keepS ops i held) : x ∈ held := by
  unfold keepS at h
  split at h
  · exact (List.mem_filter.1 h).1
  · exact h

theorem keepS_mono {ops : Array Oper} {i : Nat} {held held' : List (Nat × (World → Prop))} (hh : ∀ x ∈ held', x ∈ held) {x : Nat × (World → Prop)} (h : x ∈ keepS ops i held') : x ∈ keepS ops i held := by
  unfold keepS at *
  cases ho : ops[i]? with
  | some o =>
    simp only [ho] at h ⊢
    exact List.mem_filter.2 ⟨hh x (List.mem_filter.1 h).1, (List.mem_filter.1 h).2⟩
  | none =>
    simp only [ho] at h ⊢
    exact hh x h

def wpAnyS (P : Program) (ops : Array Oper) (Q : Exit → Act → World → Prop) : Nat → Array Bool → List (Nat × (World → Prop)) → Act → World → Prop
  | 0, listed, _, a, w => Region.ready .any ops listed = [] ∧ Q .normal a w
  | fuel + 1, listed, held, a, w =>
    (Region.ready .any ops listed = [] → Q .normal a w) ∧
    ∀ i ∈ Region.ready .any ops listed, wpOp P ops Q i (fun a' w' => (∀ x ∈ keepS ops i held, x.2 w') ∧ wpAnyS P ops Q fuel (listed.setIfInBounds i true) (keepS ops i held) a' w') a w

theorem wpAny_of_S {ops : Array Oper} {Q : Exit → Act → World → Prop} : ∀ (fuel : Nat) (listed : Array Bool) (held : List (Nat × (World → Prop))) (a : Act) (w : World), wpAnyS P ops Q fuel listed held a w → wpAny P .any ops Q fuel listed a w
  | 0, _, _, _, _, h => h
  | fuel + 1, _, _, _, _, h => ⟨h.1, fun i hi => wpOp_mono (fun a' w' h' => wpAny_of_S fuel _ _ a' w' h'.2) (h.2 i hi)⟩

theorem wpAnyS_mono {ops : Array Oper} {Q : Exit → Act → World → Prop} : ∀ (fuel : Nat) (listed : Array Bool) (held held' : List (Nat × (World → Prop))) (a : Act) (w : World), (∀ x ∈ held', x ∈ held) → wpAnyS P ops Q fuel listed held a w → wpAnyS P ops Q fuel listed held' a w
  | 0, _, _, _, _, _, _, h => h
  | fuel + 1, _, _, _, _, _, hh, h => ⟨h.1, fun i hi => wpOp_mono (fun a' w' h' => ⟨fun x hx => h'.1 x (keepS_mono hh hx), wpAnyS_mono fuel _ _ _ a' w' (fun _ hx => keepS_mono hh hx) h'.2⟩) (h.2 i hi)⟩

theorem hasEdge_spec {i : Nat} : ∀ {l : List Edge}, hasEdge i l = true ↔ ∃ x ∈ l, Region.binds .any x = true ∧ x.on = i
  | [] => by simp [hasEdge]
  | x :: l => by
    unfold hasEdge
    cases hb : Region.binds .any x with
    | false => simp [hb, hasEdge_spec (l := l)]
    | true =>
      cases hn : Nat.beq x.on i with
      | true => simp [hb, Nat.eq_of_beq_eq_true hn]
      | false =>
        have : x.on ≠ i := by
          intro h
          rw [h] at hn
          simp at hn
        simp [hb, this, hasEdge_spec (l := l)]

/-- An operation that may come now, and yields what it yields wherever T holds, may be taken first, if T holds behind whatever may come ahead of it. -/
theorem wpAnyS_first {ops : Array Oper} {Q : Exit → Act → World → Prop} {i : Nat} {oi : Oper} {v : Value} {T : World → Prop} (hi : ops[i]? = some oi) (hsel : ∀ (j : Nat) (o : Oper) cs b, ops[j]? = some o → o.op ≠ .select cs b)
    (hQ : ∀ c a w, Q (.panic c) (a.put oi.dst v) w → Q (.panic c) a w) :
    ∀ (fuel : Nat) (listed : Array Bool) (held : List (Nat × (World → Prop))) (a : Act) (w : World),
      (∀ j oj, ops[j]? = some oj → j ≠ i → listed.getD j true = false → (∀ e ∈ oj.after, Region.binds .any e = true → e.on ≠ i) → oi.apart ops oj = true) →
      i ∈ Region.ready .any ops listed → YieldsIf P ops T oi v a → T w → (∀ x ∈ held, x.2 w) →
      wpAnyS P ops Q fuel (listed.setIfInBounds i true) ((i, T) :: held) (a.put oi.dst v) w → wpAnyS P ops Q (fuel + 1) listed held a w := by
  intro fuel
  have taken : ∀ (fuel : Nat) (listed : Array Bool) (held : List (Nat × (World → Prop))) (a : Act) (w : World), YieldsIf P ops T oi v a → T w → (∀ x ∈ held, x.2 w) →
      wpAnyS P ops Q fuel (listed.setIfInBounds i true) ((i, T) :: held) (a.put oi.dst v) w →
      wpOp P ops Q i (fun a' w' => (∀ x ∈ keepS ops i held, x.2 w') ∧ wpAnyS P ops Q fuel (listed.setIfInBounds i true) (keepS ops i held) a' w') a w := by
    intro fuel listed held a w hy hT hheld H
    refine hy.wpOp hi hT ⟨fun x hx => hheld x (keepS_sub hx), wpAnyS_mono fuel _ _ _ _ _ (fun x hx => ?_) H⟩
    exact List.mem_cons_of_mem _ (keepS_sub hx)
  induction fuel with
  | zero =>
    intro listed held a w _ hr hy hT hheld H
    refine ⟨fun h => (by rw [h] at hr; cases hr), fun j hj => ?_⟩
    by_cases hji : j = i
    · subst hji; exact taken 0 listed held a w hy hT hheld H
    · have := ready_mono hj hji
      rw [H.1] at this
      cases this
  | succ fuel ih =>
    intro listed held a w hfree hr hy hT hheld H
    refine ⟨fun h => (by rw [h] at hr; cases hr), fun j hj => ?_⟩
    by_cases hji : j = i
    · subst hji; exact taken (fuel + 1) listed held a w hy hT hheld H
    · have h1 := H.2 j (ready_mono hj hji)
      obtain ⟨hjun, oj, hoj, hall⟩ := mem_ready.1 hj
      have hnot : ∀ e ∈ oj.after, Region.binds .any e = true → e.on ≠ i := fun e he hb heq => by
        have h1 := hall e he hb
        have h0 := (mem_ready.1 hr).1
        rw [heq] at h1
        rcases Nat.lt_or_ge i listed.size with h' | h'
        · simp [h'] at h0 h1; rw [h0] at h1; cases h1
        · simp [Array.getElem?_eq_none h'] at h1
      have hkeep : keepS ops j ((i, T) :: held) = (i, T) :: keepS ops j held := by
        have hne : hasEdge i oj.after.toList = false := by
          rw [← Bool.not_eq_true, hasEdge_spec]
          rintro ⟨e, he, hb, heq⟩
          exact hnot e (by simpa using he) hb heq
        simp [keepS, hoj, hne]
      rw [hkeep] at h1
      have h2 := wpOp_putIf hoj (hfree j oj hoj hji hjun hnot) (fun cs b => hsel i oi cs b hi) (fun cs b => hsel j oj cs b hoj) hQ hy h1
      have hfree' : ∀ k ok, ops[k]? = some ok → k ≠ i → (listed.setIfInBounds j true).getD k true = false →
          (∀ e ∈ ok.after, Region.binds .any e = true → e.on ≠ i) → oi.apart ops ok = true := fun k ok hk hki hun hno => by
        refine hfree k ok hk hki ?_ hno
        by_cases hjk : j = k
        · subst hjk; exact hjun
        · rw [getD_set_ne true hjk] at hun; exact hun
      refine wpOp_mono (fun a' w' h3 => ?_) h2
      obtain ⟨hy', hfacts, hrest⟩ := h3
      have hT' : T w' := hfacts (i, T) (List.mem_cons_self ..)
      have hheld' : ∀ x ∈ keepS ops j held, x.2 w' := fun x hx => hfacts x (List.mem_cons_of_mem _ hx)
      refine ⟨hheld', ih (listed.setIfInBounds j true) _ a' w' hfree' (ready_mono hr (Ne.symm hji)) hy' hT' hheld' ?_⟩
      rw [Array.setIfInBounds_comm _ _ hji]
      exact hrest

end Go.GL

namespace Go.GL

variable {P : Program}

/-- What has come: by number, and in the model's array. -/
def Listed (ops : Array Oper) (listed : Array Bool) (done : List Nat) : Prop := listed.size = ops.size ∧ ∀ i, listed.getD i false = memN i done

theorem memN_cons (t i : Nat) (r : List Nat) : memN t (i :: r) = if i = t then true else memN t r := by
  simp only [memN]
  by_cases h : i = t
  · simp [h]
  · have hb : Nat.beq i t = false := by
      rw [← Bool.not_eq_true]
      exact fun hb => h (Nat.eq_of_beq_eq_true hb)
    simp [h, hb]

theorem Listed.put {ops : Array Oper} {listed : Array Bool} {done : List Nat} (h : Listed ops listed done) {i : Nat} (hi : i < ops.size) : Listed ops (listed.setIfInBounds i true) (i :: done) := by
  refine ⟨by simp [h.1], fun j => ?_⟩
  rw [memN_cons]
  by_cases hij : i = j
  · subst hij
    have : i < listed.size := by rw [h.1]; exact hi
    simp [this]
  · rw [if_neg hij, getD_set_ne false hij]
    exact h.2 j

theorem edgesIn_spec {done : List Nat} : ∀ {l : List Edge}, edgesIn done l = true ↔ ∀ x ∈ l, Region.binds .any x = true → memN x.on done = true
  | [] => by simp [edgesIn]
  | x :: l => by
    unfold edgesIn
    cases hb : Region.binds .any x with
    | false => simp [hb, edgesIn_spec (l := l)]
    | true =>
      cases hm : memN x.on done with
      | true => simp [hm, edgesIn_spec (l := l)]
      | false => simp [hb, hm]

theorem mem_readyW {done : List Nat} {i : Nat} {o : Oper} : ∀ {l : List Oper} {k : Nat}, (i, o) ∈ readyW done k l ↔ ∃ j, i = k + j ∧ l[j]? = some o ∧ memN i done = false ∧ edgesIn done o.after.toList = true
  | [], k => by simp [readyW]
  | x :: l, k => by
    have ih := mem_readyW (done := done) (i := i) (o := o) (l := l) (k := k + 1)
    have tail : (∃ j, i = k + 1 + j ∧ l[j]? = some o ∧ memN i done = false ∧ edgesIn done o.after.toList = true) ↔
        ∃ j, i = k + (j + 1) ∧ (x :: l)[j + 1]? = some o ∧ memN i done = false ∧ edgesIn done o.after.toList = true := by
      constructor <;> rintro ⟨j, h1, h2⟩ <;> exact ⟨j, by omega, by simpa using h2⟩
    have split0 : (∃ j, i = k + j ∧ (x :: l)[j]? = some o ∧ memN i done = false ∧ edgesIn done o.after.toList = true) ↔
        (i = k ∧ x = o ∧ memN i done = false ∧ edgesIn done o.after.toList = true) ∨ ∃ j, i = k + (j + 1) ∧ (x :: l)[j + 1]? = some o ∧ memN i done = false ∧ edgesIn done o.after.toList = true := by
      constructor
      · rintro ⟨j, h1, h2, h3⟩
        cases j with
        | zero => left; exact ⟨by omega, by simpa using h2, h3⟩
        | succ j => right; exact ⟨j, h1, h2, h3⟩
      · rintro (⟨h1, h2, h3⟩ | ⟨j, h⟩)
        · exact ⟨0, by omega, by simp [h2], h3⟩
        · exact ⟨j + 1, h⟩
    rw [split0, ← tail, ← ih, readyW]
    cases hm : memN k done with
    | true =>
      constructor
      · exact fun h => .inr h
      · rintro (⟨rfl, _, h3, _⟩ | h)
        · rw [hm] at h3; cases h3
        · exact h
    | false =>
      cases he : edgesIn done x.after.toList with
      | true =>
        simp only [List.mem_cons, Prod.mk.injEq]
        constructor
        · rintro (⟨rfl, rfl⟩ | h)
          · exact .inl ⟨rfl, rfl, hm, he⟩
          · exact .inr h
        · rintro (⟨rfl, rfl, _⟩ | h)
          · exact .inl ⟨rfl, rfl⟩
          · exact .inr h
      | false =>
        constructor
        · exact fun h => .inr h
        · rintro (⟨rfl, rfl, _, h4⟩ | h)
          · rw [he] at h4; cases h4
          · exact h

theorem ready_iff {ops : Array Oper} {listed : Array Bool} {done : List Nat} (hL : Listed ops listed done) (i : Nat) :
    i ∈ Region.ready .any ops listed ↔ ∃ o, ops[i]? = some o ∧ (i, o) ∈ readyW done 0 ops.toList := by
  rw [mem_ready]
  constructor
  · rintro ⟨h0, o, ho, hall⟩
    refine ⟨o, ho, mem_readyW.2 ⟨i, by omega, by rw [toList_get]; exact ho, ?_, edgesIn_spec.2 fun x hx hb => ?_⟩⟩
    · rw [← hL.2 i]
      have hlt : i < listed.size := by rw [hL.1]; exact (Array.getElem?_eq_some_iff.1 ho).1
      simpa [hlt] using h0
    · rw [← hL.2]
      exact hall x (by simpa using hx) hb
  · rintro ⟨o, ho, hm⟩
    obtain ⟨j, hj, hlj, hmem, hed⟩ := mem_readyW.1 hm
    have hlt : i < listed.size := by rw [hL.1]; exact (Array.getElem?_eq_some_iff.1 ho).1
    refine ⟨?_, o, ho, fun x hx hb => ?_⟩
    · have := hL.2 i
      rw [hmem] at this
      simpa [hlt] using this
    · rw [hL.2]
      exact edgesIn_spec.1 hed x (by simpa using hx) hb

theorem firstW_mem {p : Oper → Bool} : ∀ {l : List (Nat × Oper)} {x : Nat × Oper}, firstW p l = some x → x ∈ l ∧ p x.2 = true
  | [], x, h => by simp [firstW] at h
  | y :: l, x, h => by
    unfold firstW at h
    cases hp : p y.2 with
    | true => simp [hp] at h; subst h; exact ⟨List.mem_cons_self .., hp⟩
    | false =>
      simp [hp] at h
      obtain ⟨h1, h2⟩ := firstW_mem h
      exact ⟨List.mem_cons_of_mem _ h1, h2⟩

theorem freeW_spec {ops : Array Oper} {done : List Nat} {i : Nat} {oi : Oper} : ∀ {l : List Oper} {k : Nat}, freeW ops done i oi k l = true →
    ∀ j oj, l[j]? = some oj → k + j ≠ i → memN (k + j) done = false → hasEdge i oj.after.toList = false → oi.apart ops oj = true
  | [], k, _, j, oj, hj, _, _, _ => by simp at hj
  | x :: l, k, h, j, oj, hj, hne, hm, he => by
    have ih : freeW ops done i oi (k + 1) l = true → oi.apart ops oj = true ∨ j = 0 := by
      intro h'
      cases j with
      | zero => exact .inr rfl
      | succ j => exact .inl (freeW_spec h' j oj (by simpa using hj) (by omega) (by rwa [show k + 1 + j = k + (j + 1) from by omega]) he)
    unfold freeW at h
    cases j with
    | succ j =>
      have h' : freeW ops done i oi (k + 1) l = true := by
        cases h1 : Nat.beq k i <;> simp only [h1] at h
        · cases h2 : memN k done <;> simp only [h2] at h
          · cases h3 : hasEdge i x.after.toList <;> simp only [h3] at h
            · cases h4 : oi.apart ops x <;> simp only [h4] at h
              · cases h
              · exact h
            · exact h
          · exact h
        · exact h
      rcases ih h' with h5 | h5
      · exact h5
      · cases h5
    | zero =>
      simp only [List.getElem?_cons_zero, Option.some.injEq] at hj
      subst hj
      have h1 : Nat.beq k i = false := by
        rw [← Bool.not_eq_true]
        exact fun hb => hne (by simpa using Nat.eq_of_beq_eq_true hb)
      simp only [Nat.add_zero] at hm
      simp only [h1, hm, he] at h
      cases h4 : oi.apart ops x <;> simp only [h4] at h
      · cases h
      · rfl

def NoSelect (ops : Array Oper) : Prop := ∀ (j : Nat) (o : Oper) cs b, ops[j]? = some o → o.op ≠ .select cs b

/-- Facts on heaps, as facts on worlds. -/
def asW (held : List (Nat × (H → Prop))) : List (Nat × (World → Prop)) := held.map fun x => (x.1, fun w => x.2 w.heap)

theorem keepW_asW {ops : Array Oper} {i : Nat} {o : Oper} (hi : ops[i]? = some o) : ∀ held : List (Nat × (H → Prop)), keepS ops i (asW held) = asW (keepW o.after.toList held) := by
  intro held
  unfold keepS
  simp only [hi]
  induction held with
  | nil => rfl
  | cons x r ih =>
    simp only [asW, List.map_cons, List.filter_cons, keepW] at ih ⊢
    cases hh : hasEdge x.1 o.after.toList with
    | true => simp [ih]
    | false => simp [ih]

theorem heldW_imp {h : H} {K : Prop} : ∀ {held : List (Nat × (H → Prop))}, heldW held h K → (∀ x ∈ held, x.2 h) ∧ K
  | [], hs => ⟨fun _ hx => (by cases hx), hs⟩
  | x :: r, hs => by
    obtain ⟨h1, h2⟩ := hs
    obtain ⟨h3, h4⟩ := heldW_imp h2
    refine ⟨fun y hy => ?_, h4⟩
    rcases List.mem_cons.1 hy with rfl | hy
    · exact h1
    · exact h3 y hy

theorem stillE_sound {n : Nat} {e : Env} {o : Oper} {a : Act} {K : Slot → Prop} (hr : Rel n e a) (hs : stillE P e o K) : ∃ s : Slot, (∀ w, (execOp a.eval o).run P w = .ok (.value s.v) w) ∧ K s := by
  have hag := hr.agree
  have evs' : ∀ {x : Operand} {s : Slot}, ev e x = some s → a.eval x = s.v := fun {x s} h => hag x s.v (by simp [evV, h])
  unfold stillE at hs
  split at hs
  · rename_i x ho
    split at hs
    case h_2 => exact hs.elim
    rename_i s hx
    exact ⟨s, fun w => by simp [execOp, ho, evs' hx], hs⟩
  · rename_i x ho
    split at hs
    case h_2 => exact hs.elim
    rename_i s hx
    exact ⟨s, fun w => by simp [execOp, ho, evs' hx], hs⟩
  · rename_i c x y ho
    split at hs
    · rename_i hc
      split at hs
      case h_2 => exact hs.elim
      rename_i s hx
      exact ⟨s, fun w => by simp [execOp, ho, evs' hx, evs' hc, Slot.v, asBool], hs⟩
    · rename_i hc
      split at hs
      case h_2 => exact hs.elim
      rename_i s hx
      exact ⟨s, fun w => by simp [execOp, ho, evs' hx, evs' hc, Slot.v, asBool], hs⟩
    · exact hs.elim
  · rename_i t x ho
    split at hs
    · rename_i b hx
      exact ⟨.lit (!b), fun w => by simp [execOp, ho, evs' hx, Slot.v, Op.unary], hs⟩
    · rename_i b hx
      exact ⟨.val (.bool (!b)), fun w => by simp [execOp, ho, evs' hx, Slot.v, Op.unary], hs⟩
    · exact hs.elim
  · obtain ⟨v, hv, hk⟩ := still_sound hs hag
    exact ⟨.val v, hv, hk⟩

/-- A next step that leads on. -/
def NextOk (P : Program) (n : Nat) (ops : Array Oper) (Q : Exit → Act → World → Prop) (w0 : World) (fuel : Nat) (next : Rec) : Prop :=
  ∀ (listed : Array Bool) (done : List Nat) (held : List (Nat × (H → Prop))) (e : Env) (a : Act) (w : World), Listed ops listed done → Rel n e a → Same w0 w → (∀ x ∈ held, x.2 w.heap) →
    next done held e w.heap → wpAnyS P ops Q fuel listed (asW held) a w

theorem asW_held {held : List (Nat × (H → Prop))} {w : World} (h : ∀ x ∈ held, x.2 w.heap) : ∀ x ∈ asW held, x.2 w := by
  intro x hx
  obtain ⟨y, hy, rfl⟩ := List.mem_map.1 hx
  exact h y hy

theorem free_imp {ops : Array Oper} {listed : Array Bool} {done : List Nat} {i : Nat} {oi : Oper} (hL : Listed ops listed done) (hf : freeW ops done i oi 0 ops.toList = true) :
    ∀ j oj, ops[j]? = some oj → j ≠ i → listed.getD j true = false → (∀ e ∈ oj.after, Region.binds .any e = true → e.on ≠ i) → oi.apart ops oj = true := by
  intro j oj hj hji hun hno
  refine freeW_spec hf j oj (by rw [toList_get]; exact hj) (by omega) ?_ ?_
  · rw [Nat.zero_add, ← hL.2 j]
    have hlt : j < listed.size := by rw [hL.1]; exact (Array.getElem?_eq_some_iff.1 hj).1
    simpa [hlt] using hun
  · rw [← Bool.not_eq_true, hasEdge_spec]
    rintro ⟨x, hx, hb, heq⟩
    exact hno x (by simpa using hx) hb heq

section
variable {n : Nat} {ops : Array Oper} {Q : Exit → Act → World → Prop} {w0 : World} {fuel : Nat} {next : Rec}

theorem held_add {ops : Array Oper} {Q : Exit → Act → World → Prop} : ∀ (fuel : Nat) (listed : Array Bool) (hd : List (Nat × (World → Prop))) (a : Act) (w : World), wpAnyS P ops Q fuel listed hd a w → ∀ hd', (∀ x ∈ hd', x ∈ hd ∨ ∀ w, x.2 w) → wpAnyS P ops Q fuel listed hd' a w := by
  intro fuel
  induction fuel with
  | zero => intro listed hd a w h hd' _; exact h
  | succ fuel ih =>
    intro listed hd a w h hd' hsub
    refine ⟨h.1, fun j hj => wpOp_mono (fun a' w' h' => ?_) (h.2 j hj)⟩
    have hk : ∀ x ∈ keepS ops j hd', x ∈ keepS ops j hd ∨ ∀ w, x.2 w := by
      intro x hx
      rcases hsub x (keepS_sub hx) with h1 | h1
      · left
        unfold keepS at hx ⊢
        cases ho : ops[j]? with
        | none => exact h1
        | some oj =>
          simp only [ho] at hx
          exact List.mem_filter.2 ⟨h1, (List.mem_filter.1 hx).2⟩
      · exact .inr h1
    refine ⟨fun x hx => ?_, ih _ _ a' w' h'.2 _ hk⟩
    rcases hk x hx with h1 | h1
    · exact h'.1 x h1
    · exact h1 w'

/-- What is taken first, whatever the world. -/
theorem take_still (hsel : NoSelect ops) (hQ : ∀ c a w, ¬ Q (.panic c) a w) (hn : NextOk P n ops Q w0 fuel next) {listed : Array Bool} {done : List Nat} {held : List (Nat × (H → Prop))} {a : Act} {w : World} {e' : Env}
    {i : Nat} {o : Oper} {v : Value} (hi : ops[i]? = some o) (hL : Listed ops listed done) (hrd : i ∈ Region.ready .any ops listed) (hf : freeW ops done i o 0 ops.toList = true) (hsm : Same w0 w) (hh : ∀ x ∈ held, x.2 w.heap)
    (hy : YieldsIf P ops (fun _ => True) o v a) (hr' : Rel n e' (a.put o.dst v)) (hk : next (i :: done) held e' w.heap) : wpAnyS P ops Q (fuel + 1) listed (asW held) a w := by
  have hlt : i < ops.size := (Array.getElem?_eq_some_iff.1 hi).1
  refine wpAnyS_first (T := fun _ => True) hi hsel (fun c a w h => absurd h (hQ c _ w)) fuel listed (asW held) a w (free_imp hL hf) hrd hy trivial (asW_held hh) ?_
  have h2 := hn (listed.setIfInBounds i true) (i :: done) held e' (a.put o.dst v) w (hL.put hlt) hr' hsm hh hk
  refine held_add _ _ _ _ _ h2 _ fun x hx => ?_
  rcases List.mem_cons.1 hx with rfl | hx
  · exact .inr fun _ => trivial
  · exact .inl hx

theorem drawStill_sound (hsel : NoSelect ops) (hQ : ∀ c a w, ¬ Q (.panic c) a w) (hn : NextOk P n ops Q w0 fuel next) {listed : Array Bool} {done : List Nat} {held : List (Nat × (H → Prop))} {e : Env} {a : Act} {w : World}
    {i : Nat} {o : Oper} (hi : ops[i]? = some o) (hL : Listed ops listed done) (hrd : i ∈ Region.ready .any ops listed) (hf : freeW ops done i o 0 ops.toList = true) (hr : Rel n e a) (hsm : Same w0 w) (hh : ∀ x ∈ held, x.2 w.heap)
    (hs : drawStill P n ops next done held e w.heap i o) : wpAnyS P ops Q (fuel + 1) listed (asW held) a w := by
  obtain ⟨e1, hr1, hk⟩ := want_sound hr hs
  cases hw : Region.wanted o (yielded ops a.tmps) with
  | false =>
    rw [hw] at hk
    have hk' : putS n e1 o.dst (.val undef) (fun e => next (i :: done) held e w.heap) := hk
    obtain ⟨e', hr', h3⟩ := putS_imp hr1 hk'
    exact take_still hsel hQ hn hi hL hrd hf hsm hh (.inr ⟨hw, rfl⟩) hr' h3
  | true =>
    rw [hw] at hk
    obtain ⟨s, hs1, hs2⟩ := stillE_sound hr1 hk
    obtain ⟨e', hr', h3⟩ := putS_imp hr1 hs2
    exact take_still hsel hQ hn hi hL hrd hf hsm hh (.inl ⟨hw, fun w _ => hs1 w⟩) hr' h3

theorem ldK_para {h : H} {a : Addr} {k : CK} {K : Value → Prop} (hs : ldK h a k K) : ∃ v, K v ∧ ∀ K' : Value → Prop, K' v → ldK h a k K' := by
  cases k
  case i => obtain ⟨n, hc, hk⟩ := hs; exact ⟨_, hk, fun K' hk' => ⟨_, hc, hk'⟩⟩
  case b => obtain ⟨n, hc, hk⟩ := hs; exact ⟨_, hk, fun K' hk' => ⟨_, hc, hk'⟩⟩
  case s => obtain ⟨n, hc, hk⟩ := hs; exact ⟨_, hk, fun K' hk' => ⟨_, hc, hk'⟩⟩
  case p => obtain ⟨n, hc, hk⟩ := hs; exact ⟨_, hk, fun K' hk' => ⟨_, hc, hk'⟩⟩
  case l => obtain ⟨p, n, c, hc, hk⟩ := hs; exact ⟨_, hk, fun K' hk' => ⟨_, _, _, hc, hk'⟩⟩
  case m => obtain ⟨n, hc, hk⟩ := hs; exact ⟨_, hk, fun K' hk' => ⟨_, hc, hk'⟩⟩
  case f => obtain ⟨t, x, hc, hk⟩ := hs; exact ⟨_, hk, fun K' hk' => ⟨_, _, hc, hk'⟩⟩
  case raw => obtain ⟨v, hc, hk⟩ := hs; exact ⟨_, hk, fun K' hk' => ⟨_, hc, hk'⟩⟩

theorem ldKs_para {h : H} {a : Addr} {K : List Value → Prop} : ∀ {ks : List CK} {i : Nat} {acc : List Value}, ldKs h a K i ks acc → ∃ vs, K vs ∧ ∀ K' : List Value → Prop, K' vs → ldKs h a K' i ks acc
  | [], i, acc, hs => ⟨_, hs, fun K' hk => hk⟩
  | k :: ks, i, acc, hs => by
    obtain ⟨v, hk, hp⟩ := ldK_para hs
    obtain ⟨vs, hk', hp'⟩ := ldKs_para hk
    exact ⟨vs, hk', fun K' h' => hp _ (hp' K' h')⟩

theorem ld_para {t : TypeId} {x : Option Value} {h : H} {K : Value → H → Prop} (hs : ldOp P t x h K) : ∃ v, K v h ∧ ∀ K' : Value → H → Prop, K' v h → ldOp P t x h K' := by
  unfold ldOp at hs ⊢
  split at hs
  case h_2 => exact hs.elim
  rename_i a
  cases hagg : isAggT P t with
  | true =>
    simp only [hagg] at hs ⊢
    cases hf : flat P depthT t with
    | none => simp only [hf] at hs
    | some ks =>
      simp only [hf] at hs ⊢
      cases hz : sizeT P t with
      | none => simp only [hz] at hs
      | some n =>
        simp only [hz] at hs ⊢
        cases hb : Nat.beq ks.length n with
        | false => simp only [hb] at hs
        | true =>
          simp only [hb] at hs ⊢
          obtain ⟨vs, hk, hp⟩ := ldKs_para hs
          exact ⟨_, hk, fun K' hk' => hp _ hk'⟩
  | false =>
    simp only [hagg] at hs ⊢
    cases hck : ckOf P t with
    | none => simp only [hck] at hs
    | some k =>
      simp only [hck] at hs ⊢
      obtain ⟨v, hk, hp⟩ := ldK_para hs
      exact ⟨_, hk, fun K' hk' => hp _ hk'⟩

theorem load_op {o : Oper} (h : isLoad o = true) : ∃ t x, o.op = .load t x := by
  unfold isLoad at h
  split at h
  · rename_i t x ho; exact ⟨_, _, ho⟩
  · cases h

theorem opS_load {e : Env} {o : Oper} {t : TypeId} {x : Operand} (ho : o.op = .load t x) (h : H) (K : Value → H → Prop) : opS P e o h K = ldOp P t (evV e x) h K := by
  unfold opS
  rw [ho]

theorem drawLoad_sound (hsel : NoSelect ops) (hQ : ∀ c a w, ¬ Q (.panic c) a w) (hn : NextOk P n ops Q w0 fuel next) {listed : Array Bool} {done : List Nat} {held : List (Nat × (H → Prop))} {e : Env} {a : Act} {w : World}
    {i : Nat} {o : Oper} (hld : isLoad o = true) (hi : ops[i]? = some o) (hL : Listed ops listed done) (hrd : i ∈ Region.ready .any ops listed) (hf : freeW ops done i o 0 ops.toList = true) (hr : Rel n e a) (hsm : Same w0 w) (hh : ∀ x ∈ held, x.2 w.heap)
    (hs : drawLoad P n ops next done held e w.heap i o) : wpAnyS P ops Q (fuel + 1) listed (asW held) a w := by
  have hlt : i < ops.size := (Array.getElem?_eq_some_iff.1 hi).1
  obtain ⟨t, x, ho⟩ := load_op hld
  obtain ⟨e1, hr1, hk⟩ := want_sound hr hs
  cases hw : Region.wanted o (yielded ops a.tmps) with
  | false =>
    rw [hw] at hk
    have hk' : putS n e1 o.dst (.val undef) (fun e => next (i :: done) held e w.heap) := hk
    obtain ⟨e', hr', h3⟩ := putS_imp hr1 hk'
    exact take_still hsel hQ hn hi hL hrd hf hsm hh (.inr ⟨hw, rfl⟩) hr' h3
  | true =>
    rw [hw] at hk
    have hk' : opS P e1 o w.heap fun v _ => putS n e1 o.dst (.val v) fun e' => next (i :: done) ((i, fun h' => opS P e1 o h' fun v' _ => v' = v) :: held) e' w.heap := hk
    rw [opS_load ho] at hk'
    obtain ⟨v, hp, hpara⟩ := ld_para hk'
    obtain ⟨e', hr', h3⟩ := putS_imp hr1 hp
    have hrun : ∀ w' : World, (opS P e1 o w'.heap fun v' _ => v' = v) → (execOp a.eval o).run P w' = .ok (.value v) w' := by
      intro w' hT
      rw [opS_load ho] at hT
      obtain ⟨v', hv', rfl⟩ := ld_strong hT hr1.agree
      simp [execOp, ho, hv' w' rfl]
    have hT : opS P e1 o w.heap fun v' _ => v' = v := by
      rw [opS_load ho]
      exact hpara _ rfl
    refine wpAnyS_first (T := fun w => opS P e1 o w.heap fun v' _ => v' = v) hi hsel (fun c a w h => absurd h (hQ c _ w)) fuel listed (asW held) a w (free_imp hL hf) hrd (.inl ⟨hw, hrun⟩) hT (asW_held hh) ?_
    refine hn (listed.setIfInBounds i true) (i :: done) ((i, fun h' => opS P e1 o h' fun v' _ => v' = v) :: held) e' (a.put o.dst v) w (hL.put hlt) hr' hsm (fun y hy => ?_) h3
    rcases List.mem_cons.1 hy with rfl | hy
    · exact hT
    · exact hh y hy

theorem drawOne_sound (hn : NextOk P n ops Q w0 fuel next) {listed : Array Bool} {done : List Nat} {held : List (Nat × (H → Prop))} {e : Env} {a : Act} {w : World}
    {i : Nat} {o : Oper} (hi : ops[i]? = some o) (hL : Listed ops listed done) (hr : Rel n e a) (hsm : Same w0 w) (hh : ∀ x ∈ held, x.2 w.heap)
    (hs : drawOne P n ops next done held e w.heap i o) : wpOp P ops Q i (fun a' w' => (∀ x ∈ keepS ops i (asW held), x.2 w') ∧ wpAnyS P ops Q fuel (listed.setIfInBounds i true) (keepS ops i (asW held)) a' w') a w := by
  have hlt : i < ops.size := (Array.getElem?_eq_some_iff.1 hi).1
  obtain ⟨e1, hr1, hk⟩ := want_sound hr hs
  unfold wpOp
  simp only [hi]
  cases hw : Region.wanted o (yielded ops a.tmps) with
  | false =>
    rw [hw] at hk
    simp only [Bool.false_eq_true, if_false]
    have hk' : putS n e1 o.dst (.val undef) (fun e => next (i :: done) held e w.heap) := hk
    obtain ⟨e', hr', h3⟩ := putS_imp hr1 hk'
    have h4 := hn (listed.setIfInBounds i true) (i :: done) held e' (a.put o.dst undef) w (hL.put hlt) hr' hsm hh h3
    exact ⟨fun x hx => asW_held hh x (keepS_sub hx), wpAnyS_mono fuel _ _ _ _ _ (fun x hx => keepS_sub hx) h4⟩
  | true =>
    rw [hw] at hk
    simp only [if_true]
    have hk' : opS P e1 o w.heap fun v h' => putS n e1 o.dst (.val v) fun e => heldW (keepW o.after.toList held) h' (next (i :: done) (keepW o.after.toList held) e h') := hk
    refine .inl (RunS.wp (op_sound hk' hr1.agree) fun v w' hsm' hp => ?_)
    obtain ⟨e', hr', h3⟩ := putS_imp hr1 hp
    obtain ⟨h4, h5⟩ := heldW_imp h3
    rw [keepW_asW hi]
    exact ⟨asW_held h4, hn (listed.setIfInBounds i true) (i :: done) _ e' _ w' (hL.put hlt) hr' (hsm.trans hsm') h4 h5⟩

theorem drawAll_sound (hn : NextOk P n ops Q w0 fuel next) {listed : Array Bool} {done : List Nat} {held : List (Nat × (H → Prop))} {e : Env} {a : Act} {w : World} (hL : Listed ops listed done) (hr : Rel n e a) (hsm : Same w0 w) (hh : ∀ x ∈ held, x.2 w.heap) :
    ∀ (l : List (Nat × Oper)), (∀ x ∈ l, ops[x.1]? = some x.2) → drawAll P n ops next done held e w.heap l →
      ∀ x ∈ l, wpOp P ops Q x.1 (fun a' w' => (∀ y ∈ keepS ops x.1 (asW held), y.2 w') ∧ wpAnyS P ops Q fuel (listed.setIfInBounds x.1 true) (keepS ops x.1 (asW held)) a' w') a w
  | [], _, _, x, hx => by cases hx
  | [y], hl, hs, x, hx => by
    rcases List.mem_cons.1 hx with rfl | hx
    · exact drawOne_sound hn (hl _ (List.mem_cons_self ..)) hL hr hsm hh hs
    · cases hx
  | y :: z :: r, hl, hs, x, hx => by
    obtain ⟨h1, h2⟩ := hs
    rcases List.mem_cons.1 hx with rfl | hx
    · exact drawOne_sound hn (hl _ (List.mem_cons_self ..)) hL hr hsm hh h1
    · exact drawAll_sound hn hL hr hsm hh (z :: r) (fun x hx => hl x (List.mem_cons_of_mem _ hx)) h2 x hx

end

end Go.GL

namespace Go.GL

variable {P : Program}

theorem RunS.false {s : Sem Next} {h : H} {K : Value → H → Prop} (hs : RunS P s h K) (hk : ∀ v h, ¬ K v h) : False := by
  have := hs { heap := h, tape := fun _ _ => 0, drawn := 0, os := default, output := #[] } rfl
  generalize s.run P _ = r at this
  cases r with
  | ok n w' =>
    cases n <;> first | exact this.elim | exact hk _ _ this.2 | skip
    obtain ⟨_, hc⟩ := this
    obtain ⟨e, w'', fr, ⟨v, _, _, hkv⟩, _⟩ := hc w' rfl []
    exact hk _ _ hkv
  | halt x w' => exact this

theorem putS_false {n : Nat} {e : Env} {d : Option Nat} {s : Slot} {K : Env → Prop} (h : putS n e d s K) (hk : ∀ e, ¬ K e) : False := by
  cases d with
  | none => exact hk _ h
  | some d =>
    unfold putS at h
    cases hb : Nat.blt d n <;> simp only [hb] at h
    exact hk _ h

theorem noSel_spec {ops : Array Oper} (h : noSel ops.toList = true) : NoSelect ops := by
  intro j o cs b hj heq
  rw [← toList_get] at hj
  revert j
  generalize ops.toList = l at h
  induction l with
  | nil => intro j hj; simp at hj
  | cons x l ih =>
    intro j hj
    unfold noSel at h
    cases j with
    | zero =>
      simp at hj
      subst hj
      rw [heq] at h
      cases h
    | succ j =>
      refine ih ?_ j (by simpa using hj)
      split at h
      · cases h
      · exact h

theorem drawW_sound {n : Nat} {ops : Array Oper} {Q : Exit → Act → World → Prop} {w0 : World} {K : Env → H → Prop} (hsel : NoSelect ops) (hQ : ∀ c a w, ¬ Q (.panic c) a w)
    (hK : ∀ a w, Fits n K w0 a w → Q .normal a w) : ∀ fuel, NextOk P n ops Q w0 fuel (drawW P n ops K (fuel + 1)) := by
  have empty : ∀ {listed done}, Listed ops listed done → readyW done 0 ops.toList = [] → Region.ready .any ops listed = [] := by
    intro listed done hL hrd
    apply List.eq_nil_iff_forall_not_mem.2
    intro i hi
    obtain ⟨o, _, hm⟩ := (ready_iff hL i).1 hi
    rw [hrd] at hm
    cases hm
  intro fuel
  induction fuel with
  | zero =>
    intro listed done held e a w hL hr hsm hh hs
    unfold drawW at hs
    cases hrd : readyW done 0 ops.toList with
    | nil =>
      simp only [hrd] at hs
      exact ⟨empty hL hrd, hK a w ⟨e, hr, hsm, hs⟩⟩
    | cons x r =>
      exfalso
      simp only [hrd] at hs
      cases h1 : firstW isStill (x :: r) with
      | some y =>
        simp only [h1] at hs
        cases h2 : freeW ops done y.1 y.2 0 ops.toList <;> simp only [h2] at hs
        obtain ⟨e1, hr1, hk⟩ := want_sound hr hs
        cases hw : Region.wanted y.2 (yielded ops a.tmps) with
        | false => rw [hw] at hk; exact putS_false (K := fun _ => False) hk fun _ h => h
        | true =>
          rw [hw] at hk
          obtain ⟨s, _, hs2⟩ := stillE_sound hr1 hk
          exact putS_false hs2 fun _ h => h
      | none =>
        simp only [h1] at hs
        cases h3 : firstW isLoad (x :: r) with
        | some y =>
          simp only [h3] at hs
          cases h2 : freeW ops done y.1 y.2 0 ops.toList <;> simp only [h2] at hs
          obtain ⟨e1, hr1, hk⟩ := want_sound hr hs
          cases hw : Region.wanted y.2 (yielded ops a.tmps) with
          | false => rw [hw] at hk; exact putS_false (K := fun _ => False) hk fun _ h => h
          | true =>
            rw [hw] at hk
            exact RunS.false (op_sound hk hr1.agree) fun v h hp => putS_false hp fun _ h => h
        | none =>
          simp only [h3] at hs
          have one : ∀ y : Nat × Oper, drawOne P n ops (drawW P n ops K 0) done held e w.heap y.1 y.2 → False := by
            intro y hs
            obtain ⟨e1, hr1, hk⟩ := want_sound hr hs
            cases hw : Region.wanted y.2 (yielded ops a.tmps) with
            | false => rw [hw] at hk; exact putS_false (K := fun _ => False) hk fun _ h => h
            | true =>
              rw [hw] at hk
              exact RunS.false (op_sound hk hr1.agree) fun v h hp => putS_false hp fun _ h => (heldW_imp h).2
          cases r with
          | nil => exact one x hs
          | cons z r => exact one x hs.1
  | succ fuel ih =>
    intro listed done held e a w hL hr hsm hh hs
    unfold drawW at hs
    cases hrd : readyW done 0 ops.toList with
    | nil =>
      simp only [hrd] at hs
      have hnil := empty hL hrd
      exact ⟨fun _ => hK a w ⟨e, hr, hsm, hs⟩, by rw [hnil]; simp⟩
    | cons x r =>
      simp only [hrd] at hs
      have memr : ∀ y ∈ x :: r, ops[y.1]? = some y.2 ∧ y.1 ∈ Region.ready .any ops listed := by
        intro y hy
        rw [← hrd] at hy
        obtain ⟨j, hj, hlj, hm, he⟩ := mem_readyW.1 hy
        have hoy : ops[y.1]? = some y.2 := by rw [← toList_get, hj, Nat.zero_add]; exact hlj
        exact ⟨hoy, (ready_iff hL y.1).2 ⟨y.2, hoy, hy⟩⟩
      cases h1 : firstW isStill (x :: r) with
      | some y =>
        simp only [h1] at hs
        cases h2 : freeW ops done y.1 y.2 0 ops.toList <;> simp only [h2] at hs
        obtain ⟨hy1, hy2⟩ := memr y (firstW_mem h1).1
        exact drawStill_sound hsel hQ ih hy1 hL hy2 h2 hr hsm hh hs
      | none =>
        simp only [h1] at hs
        cases h3 : firstW isLoad (x :: r) with
        | some y =>
          simp only [h3] at hs
          cases h2 : freeW ops done y.1 y.2 0 ops.toList <;> simp only [h2] at hs
          obtain ⟨hy1, hy2⟩ := memr y (firstW_mem h3).1
          exact drawLoad_sound hsel hQ ih (firstW_mem h3).2 hy1 hL hy2 h2 hr hsm hh hs
        | none =>
          simp only [h3] at hs
          have hall := drawAll_sound ih hL hr hsm hh (x :: r) (fun y hy => (memr y hy).1) hs
          refine ⟨fun h0 => ?_, fun i hi => ?_⟩
          · have := (memr x (List.mem_cons_self ..)).2
            rw [h0] at this
            cases this
          · obtain ⟨o, ho, hm⟩ := (ready_iff hL i).1 hi
            rw [hrd] at hm
            exact hall (i, o) hm

/-! ### What a code leaves as it was -/

def Kept (mask : Nat) (a a' : Act) : Prop := ∀ t, Nat.testBit mask t = false → a'.tmps[t]? = a.tmps[t]?

theorem Kept.refl (m : Nat) (a : Act) : Kept m a a := fun _ _ => rfl
theorem Kept.trans {m : Nat} {a b c : Act} (h : Kept m a b) (h' : Kept m b c) : Kept m a c := fun t ht => (h' t ht).trans (h t ht)
theorem Kept.left {m m' : Nat} {a a' : Act} (h : Kept m a a') : Kept (setOr m m') a a' := fun t ht => h t (by
  simp only [setOr] at ht
  have : (m ||| m').testBit t = false := ht
  rw [Nat.testBit_or] at this
  simp at this
  exact this.1)
theorem Kept.right {m m' : Nat} {a a' : Act} (h : Kept m' a a') : Kept (setOr m m') a a' := fun t ht => h t (by
  simp only [setOr] at ht
  have : (m ||| m').testBit t = false := ht
  rw [Nat.testBit_or] at this
  simp at this
  exact this.2)

theorem Kept.put {m : Nat} {a a' : Act} (h : Kept m a a') {d : Option Nat} {v : Value} (hd : ∀ t, d = some t → Nat.testBit m t = true) : Kept m a (a'.put d v) := by
  intro t ht
  cases d with
  | none => exact h t ht
  | some d =>
    have hne : d ≠ t := by
      rintro rfl
      rw [hd d rfl] at ht
      cases ht
    simp only [Act.put]
    rw [Array.getElem?_setIfInBounds_ne hne]
    exact h t ht

theorem bit_setOf (t : Nat) : Nat.testBit (setOf (some t)) t = true := by
  have h : setOf (some t) = 2 ^ t := by
    show 1 <<< t = 2 ^ t
    rw [Nat.one_shiftLeft]
  rw [h]
  exact Nat.testBit_two_pow_self

theorem bit_or (m m' t : Nat) : Nat.testBit (setOr m m') t = (Nat.testBit m t || Nat.testBit m' t) := Nat.testBit_or m m' t

theorem opsAsg_mem {o : Oper} {t : Nat} (hd : o.dst = some t) : ∀ l : List Oper, o ∈ l → Nat.testBit (opsAsg l) t = true := by
  intro l
  induction l with
  | nil => intro hm; cases hm
  | cons x l ih =>
    intro hm
    simp only [opsAsg]
    rw [bit_or]
    rcases List.mem_cons.1 hm with h | h
    · rw [← h, hd, bit_setOf, Bool.true_or]
    · rw [ih h, Bool.or_true]

/-- wpOp's next step has put a value into the operation's own slot, and no more. -/
theorem wpOp_kept {ops : Array Oper} {Q Q' : Exit → Act → World → Prop} {i : Nat} {K K' : Act → World → Prop} {a : Act} {w : World} {m : Nat} {a0 : Act} (hm : ∀ o ∈ ops.toList, ∀ t, o.dst = some t → Nat.testBit m t = true) (h0 : Kept m a0 a)
    (hQ : ∀ c a w, ¬ Q (.panic c) a w) (hQo : ∀ a w, ¬ Q .outgrown a w) (hk : ∀ a' w', Kept m a0 a' → K a' w' → K' a' w') (h : wpOp P ops Q i K a w) : wpOp P ops Q' i K' a w := by
  unfold wpOp at *
  cases ho : ops[i]? with
  | none => simp only [ho] at h ⊢; exact hk _ _ h0 h
  | some o =>
    have hmem : o ∈ ops.toList := by
      rw [← toList_get] at ho
      exact List.mem_of_getElem? ho
    have hput : ∀ v, Kept m a0 (a.put o.dst v) := fun v => h0.put (hm o hmem)
    simp only [ho] at h ⊢
    by_cases hw : Region.wanted o (yielded ops a.tmps) = true
    · simp only [hw, if_true] at h ⊢
      rcases h with h | ⟨_, a', w', h⟩
      · left
        unfold Oper.wp at *
        generalize (execOp a.eval o).run P w = r at *
        cases r with
        | ok n w' =>
          cases n <;> simp only [Oper.upon] at h ⊢
          case value v => exact hk _ _ (hput v) h
          case skip => exact hk _ _ (hput _) h
          case defer d =>
            refine hk _ _ ?_ h
            intro t ht
            have := hput undef t ht
            cases hdst : o.dst <;> simpa [Act.put, hdst] using this
          case enter f args =>
            refine Calls.mono h fun e w'' he => ?_
            cases e with
            | returned v => exact hk _ _ (hput v) he
            | panicked c => exact absurd he (hQ _ _ _)
            | outgrown =>
              obtain ⟨a', w', h⟩ := he
              exact absurd h (hQo _ _)
          case row row args => exact Rows.mono h fun v w'' he => hk _ _ (hput v) he
        | halt x w' =>
          cases x <;> simp only [Oper.upon] at h ⊢
          case panic v => exact absurd h (hQ _ _ _)
      · exact absurd h (hQo _ _)
    · simp only [hw] at h ⊢
      exact hk _ _ (hput _) h

theorem wpOps_kept {ops : Array Oper} {Q Q' : Exit → Act → World → Prop} {m : Nat} {a0 : Act} (hm : ∀ o ∈ ops.toList, ∀ t, o.dst = some t → Nat.testBit m t = true)
    (hQ : ∀ c a w, ¬ Q (.panic c) a w) (hQo : ∀ a w, ¬ Q .outgrown a w) (hq : ∀ a' w', Kept m a0 a' → Q .normal a' w' → Q' .normal a' w') :
    ∀ (l : List Nat) (a : Act) (w : World), Kept m a0 a → wpOps P ops Q l a w → wpOps P ops Q' l a w
  | [], a, w, h0, h => hq a w h0 h
  | i :: l, a, w, h0, h => by
    rw [wpOps_cons] at h ⊢
    exact wpOp_kept hm h0 hQ hQo (fun a' w' h1 h2 => wpOps_kept hm hQ hQo hq l a' w' h1 h2) h

theorem wpAny_kept {ops : Array Oper} {Q Q' : Exit → Act → World → Prop} {md : Region.Mode} {m : Nat} {a0 : Act} (hm : ∀ o ∈ ops.toList, ∀ t, o.dst = some t → Nat.testBit m t = true)
    (hQ : ∀ c a w, ¬ Q (.panic c) a w) (hQo : ∀ a w, ¬ Q .outgrown a w) (hq : ∀ a' w', Kept m a0 a' → Q .normal a' w' → Q' .normal a' w') :
    ∀ (fuel : Nat) (listed : Array Bool) (a : Act) (w : World), Kept m a0 a → wpAny P md ops Q fuel listed a w → wpAny P md ops Q' fuel listed a w
  | 0, _, a, w, h0, h => ⟨h.1, hq a w h0 h.2⟩
  | fuel + 1, _, a, w, h0, h => ⟨fun h1 => hq a w h0 (h.1 h1), fun i hi => wpOp_kept hm h0 hQ hQo (fun a' w' h1 h2 => wpAny_kept hm hQ hQo hq fuel _ a' w' h1 h2) (h.2 i hi)⟩

end Go.GL

namespace Go.GL

variable {P : Program}

theorem pruneE_spec {set : Nat} : ∀ {e : Env} {seen : List Nat} {K : Env → Prop}, pruneE set e seen K →
    ∃ e', K e' ∧ ∀ t s, e'.get t = some s → Nat.testBit set t = true ∧ memN t seen = false ∧ e.get t = some s
  | [], seen, K, h => ⟨[], h, fun t s hg => by simp [Env.get] at hg⟩
  | (t, s) :: r, seen, K, h => by
    simp only [pruneE] at h
    cases hb : Nat.testBit set t with
    | false =>
      simp only [hb] at h
      obtain ⟨e', hk, he⟩ := pruneE_spec h
      refine ⟨e', hk, fun u v hg => ?_⟩
      obtain ⟨h1, h2, h3⟩ := he u v hg
      refine ⟨h1, h2, ?_⟩
      rw [get_cons, if_neg (by rintro rfl; rw [hb] at h1; cases h1)]
      exact h3
    | true =>
      simp only [hb] at h
      cases hm : memN t seen with
      | true =>
        simp only [hm] at h
        obtain ⟨e', hk, he⟩ := pruneE_spec h
        refine ⟨e', hk, fun u v hg => ?_⟩
        obtain ⟨h1, h2, h3⟩ := he u v hg
        refine ⟨h1, h2, ?_⟩
        rw [get_cons, if_neg (by rintro rfl; rw [hm] at h2; cases h2)]
        exact h3
      | false =>
        simp only [hm] at h
        obtain ⟨e', hk, he⟩ := pruneE_spec h
        refine ⟨_, hk, fun u v hg => ?_⟩
        rw [get_cons] at hg
        by_cases htu : t = u
        · subst htu
          rw [if_pos rfl] at hg
          exact ⟨hb, hm, by rw [get_cons, if_pos rfl]; exact hg⟩
        · rw [if_neg htu] at hg
          obtain ⟨h1, h2, h3⟩ := he u v hg
          rw [memN_cons, if_neg htu] at h2
          exact ⟨h1, h2, by rw [get_cons, if_neg htu]; exact h3⟩

theorem outB_imp {b : Bool} {K : Bool → Prop} (h : outB b K) : K b := by cases b <;> exact h
theorem outIK_imp {k : IntKind} {K : IntKind → Prop} (h : outIK k K) : K k := by cases k <;> exact h
theorem outCK_imp {c : CK} {K : CK → Prop} (h : outCK c K) : K c := by
  cases c <;> first | exact h | exact outIK_imp (K := fun k => K (.i k)) h
theorem outCKs_imp : ∀ {cs : List CK} {K : List CK → Prop}, outCKs cs K → K cs
  | [], _, h => h
  | c :: _, K, h => outCKs_imp (K := fun r => K (c :: r)) (outCK_imp h)
theorem outV_imp {c : CK} {v : Value} {K : Value → Prop} (h : outV c v K) : K v := by
  cases c <;> first
    | exact h
    | (cases v <;> first | exact h.elim | exact h | exact outIK_imp (K := fun k => K (.int k _)) h)
theorem outVs_imp : ∀ {cs : List CK} {vs : List Value} {K : List Value → List Value → Prop}, outVs cs vs K → ∃ l r, vs = l ++ r ∧ l.length = cs.length ∧ K l r
  | [], vs, K, h => ⟨[], vs, rfl, rfl, h⟩
  | c :: cs, [], K, h => h.elim
  | c :: cs, v :: vs, K, h => by
    have h' : outV c v fun v => outVs cs vs fun l r => K (v :: l) r := h
    obtain ⟨l, r, h1, h2, h3⟩ := outVs_imp (outV_imp h')
    exact ⟨v :: l, r, by simp [h1], by simp [h2], h3⟩

theorem pickSlots_spec {set : Nat} : ∀ {e : Env} {seen : List Nat} {K : List (Nat × Bool × List CK) → Prop}, pickSlots set e seen K →
    ∃ ks, K ks ∧ ∀ t s, e.get t = some s → Nat.testBit set t = true → memN t seen = false → ∃ x ∈ ks, x.1 = t
  | [], seen, K, h => ⟨[], h, fun t s hg => by simp [Env.get] at hg⟩
  | (t, s) :: r, seen, K, h => by
    simp only [pickSlots] at h
    cases hb : Nat.testBit set t with
    | false =>
      simp only [hb] at h
      obtain ⟨ks, hk, hs⟩ := pickSlots_spec h
      refine ⟨ks, hk, fun u v hg h1 h2 => ?_⟩
      rw [get_cons, if_neg (by rintro rfl; rw [hb] at h1; cases h1)] at hg
      exact hs u v hg h1 h2
    | true =>
      simp only [hb] at h
      cases hm : memN t seen with
      | true =>
        simp only [hm] at h
        obtain ⟨ks, hk, hs⟩ := pickSlots_spec h
        refine ⟨ks, hk, fun u v hg h1 h2 => ?_⟩
        rw [get_cons, if_neg (by rintro rfl; rw [hm] at h2; cases h2)] at hg
        exact hs u v hg h1 h2
      | false =>
        simp only [hm] at h
        obtain ⟨ks, hk, hs⟩ := pickSlots_spec (outCKs_imp (outB_imp h))
        refine ⟨_, hk, fun u v hg h1 h2 => ?_⟩
        by_cases htu : t = u
        · exact ⟨_, List.mem_cons_self .., htu⟩
        · rw [get_cons, if_neg htu] at hg
          obtain ⟨x, hx, hxu⟩ := hs u v hg h1 (by rw [memN_cons, if_neg htu]; exact h2)
          exact ⟨x, List.mem_cons_of_mem _ hx, hxu⟩

theorem joinSlots_spec {set : Nat} {b : Code} {e : Env} {K : List (Nat × Bool × List CK) → Prop} (h : joinSlots set b e K) :
    ∃ ks, K ks ∧ ∀ t s, e.get t = some s → Nat.testBit set t = true → ∃ x ∈ ks, x.1 = t := by
  unfold joinSlots at h
  have base : pickSlots set e [] K → ∃ ks, K ks ∧ ∀ t s, e.get t = some s → Nat.testBit set t = true → ∃ x ∈ ks, x.1 = t := by
    intro h
    obtain ⟨ks, hk, hs⟩ := pickSlots_spec h
    exact ⟨ks, hk, fun t s hg h1 => hs t s hg h1 rfl⟩
  split at h
  · rename_i t _
    split at h
    · obtain ⟨ks, hk, hs⟩ := pickSlots_spec h
      refine ⟨_, hk, fun u s hg h1 => ?_⟩
      by_cases htu : t = u
      · exact ⟨_, List.mem_cons_self .., htu⟩
      · obtain ⟨x, hx, hxu⟩ := hs u s hg h1 (by rw [memN_cons, if_neg htu]; rfl)
        exact ⟨x, List.mem_cons_of_mem _ hx, hxu⟩
    · exact base h
  · exact base h

/-- The slots hold these values, one behind the other. -/
def Slots : List (Nat × Bool × List CK) → List Value → Act → Prop
  | [], _, _ => True
  | x :: r, vs, a => ∃ l vs' v, vs = l ++ vs' ∧ l.length = x.2.2.length ∧ a.tmps[x.1]? = some v ∧ (x.2.1 = true → v = .agg ⟨l⟩) ∧ (x.2.1 = false → l = [v]) ∧ Slots r vs' a

theorem valuesOf_slots {n : Nat} {e : Env} {a : Act} (hr : Rel n e a) : ∀ {ks : List (Nat × Bool × List CK)} {vs : List Value}, valuesOf e ks = some vs → Slots ks vs a
  | [], vs, _ => trivial
  | (t, agg, ks) :: r, vs, h => by
    unfold valuesOf at h
    cases hg : e.get t with
    | none => simp [hg] at h
    | some s =>
      cases hv : valuesOf e r with
      | none => simp [hg, hv] at h
      | some vs' =>
        have ht := hr.2.2 t s hg
        have hrest := valuesOf_slots hr hv
        simp only [hg, hv] at h
        cases agg with
        | true =>
          simp only at h
          split at h
          case h_2 => cases h
          rename_i cs
          cases hb : Nat.beq cs.toList.length ks.length with
          | false => simp only [hb] at h; cases h
          | true =>
            simp only [hb, Option.some.injEq] at h
            exact ⟨cs.toList, vs', _, h.symm, Nat.eq_of_beq_eq_true hb, ht, fun _ => rfl, (fun h => by cases h), hrest⟩
        | false =>
          simp only at h
          split at h
          case h_2 => cases h
          simp only [Option.some.injEq] at h
          exact ⟨[s.v], vs', s.v, h.symm, rfl, ht, (fun h => by cases h), fun _ => rfl, hrest⟩

theorem laidK_spec {e : Env} {a : Act} : ∀ {ks : List (Nat × Bool × List CK)} {vs : List Value} {ex : List Nat} {K : Env → Prop}, Slots ks vs a → laidK e ks vs K →
    (∀ t s, e.get t = some s → t ∉ ex → (∀ x ∈ ks, x.1 ≠ t) → a.tmps[t]? = some s.v) → ∃ e', K e' ∧ ∀ t s, e'.get t = some s → t ∉ ex → a.tmps[t]? = some s.v
  | [], vs, ex, K, _, h, hb => ⟨e, h, fun t s hg hx => hb t s hg hx (fun x hx => by cases hx)⟩
  | (t, agg, ks) :: r, vs, ex, K, hs, h, hb => by
    obtain ⟨l, vs', v, hvs, hl, hv, hagg, hone, hrest⟩ := hs
    simp only [laidK] at h
    obtain ⟨l2, r2, h1, h2, h3⟩ := outVs_imp h
    have hll : l2 = l ∧ r2 = vs' := by
      rw [hvs] at h1
      have hlen : l.length = l2.length := by rw [hl, h2]
      exact ⟨(List.append_inj_left h1 hlen).symm, (List.append_inj_right h1 hlen).symm⟩
    obtain ⟨rfl, rfl⟩ := hll
    have go : ∀ sl : Slot, sl.v = v → laidK e r r2 (fun e => K ((t, sl) :: e)) → ∃ e', K e' ∧ ∀ u s, e'.get u = some s → u ∉ ex → a.tmps[u]? = some s.v := by
      intro sl hsl hk
      obtain ⟨e1, hk1, h4⟩ := laidK_spec (ex := t :: ex) hrest hk (fun u s hg hx hn => hb u s hg (fun h => hx (List.mem_cons_of_mem _ h)) (fun x hxm => by
        rcases List.mem_cons.1 hxm with rfl | hxm
        · intro h; exact hx (by rw [← h]; exact List.mem_cons_self ..)
        · exact hn x hxm))
      refine ⟨_, hk1, fun u s hg hx => ?_⟩
      rw [get_cons] at hg
      by_cases htu : t = u
      · subst htu
        rw [if_pos rfl, Option.some.injEq] at hg
        subst hg
        rw [hsl]
        exact hv
      · rw [if_neg htu] at hg
        exact h4 u s hg (fun h => by
          rcases List.mem_cons.1 h with h | h
          · exact htu h.symm
          · exact hx h)
    cases agg with
    | true => exact go (.val (.agg ⟨l2⟩)) (hagg rfl).symm h3
    | false =>
      obtain rfl := hone rfl
      exact go (.val v) rfl h3

theorem CT.v_of : ∀ {k : CK} {v : Value} {x : CT k}, CT.of k v = some x → CT.v k x = v := by
  intro k v x h
  cases k <;> cases v <;> simp only [CT.of] at h <;> first
    | (cases h; done)
    | (cases h; rfl)
    | skip
  rename_i k k' n
  cases hb : Nat.beq (ikN k) (ikN k') with
  | false => simp only [hb] at h; cases h
  | true =>
    simp only [hb] at h
    cases h
    rw [ikN_eq hb]
    rfl

theorem TK.vs_of : ∀ {ks : List CK} {vs : List Value} {s : TK ks}, TK.of ks vs = some s → TK.vs ks s = vs
  | [], [], s, _ => rfl
  | [], _ :: _, s, h => by simp [TK.of] at h
  | _ :: _, [], s, h => by simp [TK.of] at h
  | k :: ks, v :: vs, s, h => by
    unfold TK.of at h
    cases h1 : CT.of k v with
    | none => simp [h1] at h
    | some x =>
      cases h2 : TK.of ks vs with
      | none => simp [h1, h2] at h
      | some y =>
        simp only [h1, h2] at h
        cases h
        simp only [TK.vs, CT.v_of h1, TK.vs_of h2]

abbrev noH : H → Prop := fun _ => False

theorem appK_lam {R : Type} (bad : R) (k : CK) (f : Value → R) (v : Value) : appK bad k (lamK k f) v = f v ∨ appK bad k (lamK k f) v = bad := by
  cases k <;> cases v <;> first
    | exact .inl rfl
    | exact .inr rfl
    | skip
  rename_i k k' n
  simp only [appK, lamK]
  cases hb : Nat.beq (ikN k) (ikN k') with
  | false => exact .inr rfl
  | true => rw [ikN_eq hb]; exact .inl rfl

theorem appL_nil {R : Type} (bad : R) (F : CurL [] R) : appL bad [] F [] = F := rfl
theorem appL_nc {R : Type} (bad : R) (F : CurL [] R) (v : Value) (vs : List Value) : appL bad [] F (v :: vs) = bad := rfl
theorem appL_cn {R : Type} (bad : R) (k : CK) (ks : List CK) (F : CurL (k :: ks) R) : appL bad (k :: ks) F [] = bad := rfl
theorem appL_cc {R : Type} (bad : R) (k : CK) (ks : List CK) (F : CurL (k :: ks) R) (v : Value) (vs : List Value) : appL bad (k :: ks) F (v :: vs) = appL bad ks (appK (botL bad ks) k F v) vs := rfl
theorem botL_c {R : Type} (bad : R) (k : CK) (ks : List CK) : botL bad (k :: ks) = lamK k fun _ => botL bad ks := rfl
theorem lamL_c {R : Type} (k : CK) (ks : List CK) (f : List Value → R) : lamL (k :: ks) f = lamK k fun v => lamL ks fun vs => f (v :: vs) := rfl

theorem appL_bot {R : Type} (bad : R) (ks : List CK) : ∀ vs : List Value, appL bad ks (botL bad ks) vs = bad := by
  induction ks with
  | nil =>
    intro vs
    cases vs with
    | nil => exact appL_nil bad _
    | cons v vs => exact appL_nc bad _ v vs
  | cons k ks ih =>
    intro vs
    cases vs with
    | nil => exact appL_cn bad k ks _
    | cons v vs =>
      rw [appL_cc, botL_c]
      have : appK (botL bad ks) k (lamK k fun _ => botL bad ks) v = botL bad ks := by
        rcases appK_lam (botL bad ks) k (fun _ => botL bad ks) v with h1 | h1 <;> exact h1
      rw [this]
      exact ih vs

theorem appL_lam {R : Type} (bad : R) (ks : List CK) : ∀ (g : List Value → R) (vs : List Value), appL bad ks (lamL ks g) vs = g vs ∨ appL bad ks (lamL ks g) vs = bad := by
  induction ks with
  | nil =>
    intro g vs
    cases vs with
    | nil => exact .inl (appL_nil bad _)
    | cons v vs => exact .inr (appL_nc bad _ v vs)
  | cons k ks ih =>
    intro g vs
    cases vs with
    | nil => exact .inr (appL_cn bad k ks _)
    | cons v vs =>
      rw [appL_cc, lamL_c]
      rcases appK_lam (botL bad ks) k (fun v => lamL ks fun vs => g (v :: vs)) v with h1 | h1
      · rw [h1]; exact ih (fun vs => g (v :: vs)) vs
      · rw [h1]; exact .inr (appL_bot bad ks vs)

theorem appL_lamL {ks : List CK} {g : List Value → H → Prop} {vs : List Value} {h : H} (hx : appL noH ks (lamL ks g) vs h) : g vs h := by
  rcases appL_lam noH ks g vs with h1 | h1
  · rw [h1] at hx; exact hx
  · rw [h1] at hx; exact hx.elim

theorem nextW_spec {keep : Nat} {b : Code} {e : Env} {K : Env → Prop} (h : nextW keep b e K) : ∃ e', K e' ∧ ∀ t s, e'.get t = some s → e.get t = some s := by
  unfold nextW at h
  split at h <;>
  · obtain ⟨e', hk, he⟩ := pruneE_spec h
    exact ⟨e', hk, fun t s hg => (he t s hg).2.2⟩

theorem Rel.sub {n : Nat} {e e' : Env} {a : Act} (hr : Rel n e a) (h : ∀ t s, e'.get t = some s → e.get t = some s) : Rel n e' a :=
  ⟨hr.1, hr.2.1, fun t s hg => hr.2.2 t s (h t s hg)⟩

/-- What a code that starts in a0 leads to. -/
def CodeOk (n : Nat) (QW : Ex → Env → H → Prop) (w0 : World) (c : Code) (a0 : Act) : Exit → Act → World → Prop
  | .normal, a, w => ways c ≠ 0 ∧ Kept (asgM c none) a0 a ∧ ∃ e, Rel n e a ∧ Same w0 w ∧ QW .normal e w.heap
  | .exit id, a, w => exits id c ≠ 0 ∧ Kept (asgM c (some id)) a0 a ∧ ∃ e, Rel n e a ∧ Same w0 w ∧ QW (.exit id) e w.heap
  | .ret, a, w => ∃ e, Rel n e a ∧ Same w0 w ∧ QW .ret e w.heap
  | _, _, _ => False

def OnlyN (K : Act → World → Prop) : Exit → Act → World → Prop
  | .normal, a, w => K a w
  | _, _, _ => False

end Go.GL

namespace Go.GL

variable {P : Program}

theorem CodeOk.noPanic {n : Nat} {QW : Ex → Env → H → Prop} {w0 : World} {c : Code} {a0 : Act} : ∀ ch a w, ¬ CodeOk n QW w0 c a0 (.panic ch) a w := fun _ _ _ h => h

theorem ways_region (id : Nat) (ops : Array Oper) (d : Bool) : ways (.region id ops d) ≠ 0 := by
  simp only [ways]
  omega

theorem region_kept {ops : Array Oper} : ∀ o ∈ ops.toList, ∀ t, o.dst = some t → Nat.testBit (opsAsg ops.toList) t = true := fun _ ho _ hd => opsAsg_mem hd _ ho

/-- A join, opened. -/
theorem joinW_spec {ks : List (Nat × Bool × List CK)} {e0 : Env} {next : Env → H → Prop} {first : (Env → H → Prop) → Prop} (h : joinW ks e0 next first) :
    ∃ J : Env → H → Prop, first J ∧ ∀ e' h', J e' h' → ∃ vs, valuesOf e' ks = some vs ∧ laidK e0 ks vs fun e => next e h' := by
  refine ⟨_, h, fun e' h' hj => ?_⟩
  cases hv : valuesOf e' ks with
  | none => simp only [hv] at hj
  | some vs =>
    simp only [hv] at hj
    exact ⟨vs, rfl, appL_lamL hj⟩

theorem W_sound {n keep : Nat} (hm : P.follows .mixedOrders = true) : ∀ (c : Code) (e : Env) (a : Act) (w : World) (QW : Ex → Env → H → Prop), Rel n e a → W P n keep c e w.heap QW → c.wp P (CodeOk n QW w c a) a w := by
  intro c
  induction c with
  | skip =>
    intro e a w QW hr h
    exact wp_skip ⟨by simp [ways], Kept.refl _ _, e, hr, Same.refl w, h⟩
  | region id ops draw =>
    intro e a w QW hr h
    have fin : ∀ a' w', Kept (opsAsg ops.toList) a a' → OnlyN (Fits n (fun e h => QW .normal e h) w) .normal a' w' → CodeOk n QW w (.region id ops draw) a .normal a' w' := by
      intro a' w' hk hf
      exact ⟨ways_region id ops draw, hk, hf⟩
    cases draw with
    | false =>
      refine wp_region ?_
      refine wpOps_kept (Q := OnlyN (Fits n (fun e h => QW .normal e h) w)) (a0 := a) region_kept (fun _ _ _ h => h) (fun _ _ h => h) fin _ a w (Kept.refl _ _) ?_
      have := regW_sound (P := P) (Q := OnlyN (Fits n (fun e h => QW .normal e h) w)) (w0 := w) (fun _ _ h => h) ops.toList 0 e a w (fun j => by rw [Nat.zero_add, toList_get]) hr (Same.refl w) h
      rwa [show List.range ops.size = List.range' 0 ops.toList.length from by rw [List.range_eq_range']; simp]
    | true =>
      simp only [W] at h
      cases hns : noSel ops.toList with
      | false => simp only [hns] at h
      | true =>
        simp only [hns] at h
        refine wp_region_any hm ?_
        refine wpAny_kept (Q := OnlyN (Fits n (fun e h => QW .normal e h) w)) (a0 := a) region_kept (fun _ _ _ h => h) (fun _ _ h => h) fin _ _ a _ (Kept.refl _ _) ?_
        have hd := drawW_sound (P := P) (n := n) (ops := ops) (Q := OnlyN (Fits n (fun e h => QW .normal e h) w)) (w0 := w) (K := fun e h => QW .normal e h) (noSel_spec hns) (fun _ _ _ h => h) (fun _ _ h => h) ops.toList.length
        have hL : Listed ops (Array.replicate ops.size false) [] := by
          refine ⟨by simp, fun i => ?_⟩
          by_cases hi : i < ops.size
          · simp [hi, memN]
          · simp [hi, memN]
        have := hd (Array.replicate ops.size false) [] [] e a { w with drawn := w.drawn + 1 } hL hr ⟨rfl, rfl, rfl⟩ (fun _ h => by cases h) h
        have h2 := wpAny_of_S _ _ _ _ _ this
        simpa using h2
  | seq x y ihx ihy =>
    intro e a w QW hr h
    refine wp_seq ?_
    -- what follows x
    have after : ∀ (a1 : Act) (w1 : World) (e2 : Env), ways x ≠ 0 → Kept (asgM x none) a a1 → Same w w1 → Rel n e2 a1 → W P n keep y e2 w1.heap QW → y.wp P (CodeOk n QW w (.seq x y) a) a1 w1 := by
      intro a1 w1 e2 hwx hk1 hsm1 hr2 hW
      refine wp_mono (ihy e2 a1 w1 QW hr2 hW) fun ex a2 w2 hq => ?_
      cases ex with
      | normal =>
        obtain ⟨h1, h2, e3, h3, h4, h5⟩ := hq
        exact ⟨Nat.mul_ne_zero hwx h1, (Kept.left hk1).trans (Kept.right h2), e3, h3, hsm1.trans h4, h5⟩
      | exit id =>
        obtain ⟨h1, h2, e3, h3, h4, h5⟩ := hq
        refine ⟨?_, ?_, e3, h3, hsm1.trans h4, h5⟩
        · show exits id x + exits id y ≠ 0
          omega
        · show Kept (setOr (asgM x (some id)) (match exits id y with | 0 => 0 | _ => setOr (asgM x none) (asgM y (some id)))) a a2
          obtain ⟨k, hk⟩ := Nat.exists_eq_succ_of_ne_zero h1
          rw [hk]
          exact Kept.right ((Kept.left hk1).trans (Kept.right h2))
      | ret =>
        obtain ⟨e3, h3, h4, h5⟩ := hq
        exact ⟨e3, h3, hsm1.trans h4, h5⟩
      | _ => exact hq.elim
    -- the ways that leave x elsewhere
    have leave : ∀ (J : Env → H → Prop) (ex : Exit) (a1 : Act) (w1 : World), ex ≠ .normal → CodeOk n (thenW J QW) w x a ex a1 w1 → CodeOk n QW w (.seq x y) a ex a1 w1 := by
      intro J ex a1 w1 hne hq
      cases ex with
      | normal => exact absurd rfl hne
      | exit id =>
        obtain ⟨h1, h2, e3, h3, h4, h5⟩ := hq
        refine ⟨?_, Kept.left h2, e3, h3, h4, h5⟩
        show exits id x + exits id y ≠ 0
        omega
      | ret =>
        obtain ⟨e3, h3, h4, h5⟩ := hq
        exact ⟨e3, h3, h4, h5⟩
      | _ => exact hq.elim
    simp only [W] at h
    cases hj : joins x y with
    | false =>
      simp only [hj] at h
      refine wp_mono (ihx e a w _ hr h) fun ex a1 w1 hq => ?_
      cases ex with
      | normal =>
        obtain ⟨h1, h2, e1, h3, h4, h5⟩ := hq
        obtain ⟨e2, h6, h7⟩ := nextW_spec h5
        exact after a1 w1 e2 h1 h2 h4 (h3.sub h7) h6
      | _ => exact leave _ _ a1 w1 (by simp) hq
    | true =>
      simp only [hj] at h
      obtain ⟨e0, h, he0⟩ := pruneE_spec h
      obtain ⟨ks, h, hks⟩ := joinSlots_spec h
      obtain ⟨J, h, hJ⟩ := joinW_spec h
      refine wp_mono (ihx e a w _ hr h) fun ex a1 w1 hq => ?_
      cases ex with
      | normal =>
        obtain ⟨h1, h2, e1, h3, h4, h5⟩ := hq
        obtain ⟨vs, hv, hl⟩ := hJ _ _ h5
        have hsl := valuesOf_slots h3 hv
        obtain ⟨e2, h6, h7⟩ := laidK_spec (ex := []) hsl hl (fun t s hg _ hn => by
          have h8 := (he0 t s hg).2.2
          have h9 : Nat.testBit (asgN x) t = false := by
            cases hb : Nat.testBit (asgN x) t with
            | false => rfl
            | true =>
              obtain ⟨x', hx', hxt⟩ := hks t s hg hb
              exact absurd hxt (hn x' hx')
          rw [h2 t h9]
          exact hr.2.2 t s h8)
        exact after a1 w1 e2 h1 h2 h4 ⟨h3.1, h3.2.1, fun t s hg => h7 t s hg (by simp)⟩ h6
      | _ => exact leave _ _ a1 w1 (by simp) hq
  | cond c x y ihx ihy =>
    intro e a w QW hr h
    have hag := hr.agree
    have go : ∀ (z : Code), (z = x ∨ z = y) → z.wp P (CodeOk n QW w z a) a w → z.wp P (CodeOk n QW w (.cond c x y) a) a w := by
      intro z hz hw
      refine wp_mono hw fun ex a1 w1 hq => ?_
      cases ex with
      | normal =>
        obtain ⟨h1, h2, h3⟩ := hq
        rcases hz with rfl | rfl
        · refine ⟨?_, ?_, h3⟩
          · show ways z + ways y ≠ 0
            omega
          · show Kept (setOr (match ways z with | 0 => 0 | _ => asgM z none) _) a a1
            obtain ⟨k, hk⟩ := Nat.exists_eq_succ_of_ne_zero h1
            rw [hk]
            exact Kept.left h2
        · refine ⟨?_, ?_, h3⟩
          · show ways x + ways z ≠ 0
            omega
          · show Kept (setOr _ (match ways z with | 0 => 0 | _ => asgM z none)) a a1
            obtain ⟨k, hk⟩ := Nat.exists_eq_succ_of_ne_zero h1
            rw [hk]
            exact Kept.right h2
      | exit id =>
        obtain ⟨h1, h2, h3⟩ := hq
        rcases hz with rfl | rfl
        · refine ⟨?_, Kept.left h2, h3⟩
          show exits id z + exits id y ≠ 0
          omega
        · refine ⟨?_, Kept.right h2, h3⟩
          show exits id x + exits id z ≠ 0
          omega
      | ret => exact hq
      | _ => exact hq.elim
    simp only [W] at h
    cases hc : ev e c with
    | none => simp only [hc] at h
    | some s =>
      have hcv : a.eval c = s.v := hag c s.v (by simp [evV, hc])
      cases s with
      | lit b =>
        cases b with
        | true =>
          simp only [hc] at h
          exact wp_cond_true hcv (go x (.inl rfl) (ihx e a w QW hr h))
        | false =>
          simp only [hc] at h
          exact wp_cond_false hcv (go y (.inr rfl) (ihy e a w QW hr h))
      | val v =>
        cases v <;> simp only [hc] at h
        case bool b =>
          exact wp_cond_split hcv (fun hb => go x (.inl rfl) (ihx e a w QW hr (h.1 hb))) (fun hb => go y (.inr rfl) (ihy e a w QW hr (h.2 hb)))
  | block id b ih =>
    intro e a w QW hr h
    refine wp_block (wp_mono (ih e a w (blockW id QW) hr h) fun ex a1 w1 hq => ?_)
    cases ex with
    | normal =>
      obtain ⟨h1, h2, e3, h3, h4, h5⟩ := hq
      refine ⟨?_, ?_, e3, h3, h4, h5⟩
      · show ways b + exits id b ≠ 0
        omega
      · show Kept (setOr (match ways b with | 0 => 0 | _ => asgM b none) (asgM b (some id))) a a1
        obtain ⟨k, hk⟩ := Nat.exists_eq_succ_of_ne_zero h1
        rw [hk]
        exact Kept.left h2
    | exit i =>
      obtain ⟨h1, h2, e3, h3, h4, h5⟩ := hq
      simp only [blockW] at h5
      by_cases hi : i = id
      · subst hi
        have hb : Nat.beq i i = true := by simp
        simp only [hb] at h5
        show (if i = i then _ else _)
        rw [if_pos rfl]
        refine ⟨?_, Kept.right h2, e3, h3, h4, h5⟩
        show ways b + exits i b ≠ 0
        omega
      · have hb : Nat.beq i id = false := by
          rw [← Bool.not_eq_true]
          exact fun hb => hi (Nat.eq_of_beq_eq_true hb)
        simp only [hb] at h5
        show (if i = id then _ else _)
        rw [if_neg hi]
        exact ⟨h1, h2, e3, h3, h4, h5⟩
    | ret => exact hq
    | _ => exact hq.elim
  | loop b ih =>
    intro e a w QW hr h
    simp only [W] at h
    obtain ⟨e0, h, he0⟩ := pruneE_spec h
    obtain ⟨ks, h, hks⟩ := pickSlots_spec h
    unfold loopW at h
    cases hv : valuesOf e0 ks with
    | none => simp only [hv] at h
    | some vs0 =>
      simp only [hv] at h
      cases hs0 : TK.of (kindsOf ks) vs0 with
      | none => simp only [hs0] at h
      | some s0 =>
        simp only [hs0] at h
        obtain ⟨I, μ, hI0, hround⟩ := h
        have hr0 : Rel n e0 a := hr.sub fun t s hg => (he0 t s hg).2.2
        refine wp_loop_ghost (fun m a' w' => ∃ s, μ s w'.heap = m ∧ I s w'.heap ∧ Slots ks (TK.vs (kindsOf ks) s) a' ∧ Kept (asgN b) a a' ∧ Same w w' ∧ a'.tmps.size = n ∧ a'.defers = []) (μ s0 w.heap)
          ⟨s0, rfl, hI0, by rw [TK.vs_of hs0]; exact valuesOf_slots hr0 hv, Kept.refl _ _, Same.refl w, hr.1, hr.2.1⟩ ?_
        rintro m a1 w1 ⟨s, rfl, hI, hsl, hk1, hsm1, hsz, hdf⟩
        have hb := hround s w1.heap hI
        obtain ⟨e2, hW, h7⟩ := laidK_spec (ex := []) hsl hb (fun t s hg _ hn => by
          have h9 : Nat.testBit (asgN b) t = false := by
            cases hbt : Nat.testBit (asgN b) t with
            | false => rfl
            | true =>
              obtain ⟨x', hx', hxt⟩ := hks t s hg hbt rfl
              exact absurd hxt (hn x' hx')
          rw [hk1 t h9]
          exact hr0.2.2 t s hg)
        have hr2 : Rel n e2 a1 := ⟨hsz, hdf, fun t s hg => h7 t s hg (by simp)⟩
        refine wp_mono (ih e2 a1 w1 _ hr2 hW) fun ex a2 w2 hq => ?_
        cases ex with
        | normal =>
          obtain ⟨h1, h2, e3, h3, h4, h5⟩ := hq
          simp only [thenW] at h5
          cases hv3 : valuesOf e3 ks with
          | none => simp only [hv3] at h5
          | some vs3 =>
            simp only [hv3] at h5
            cases hs3 : TK.of (kindsOf ks) vs3 with
            | none => simp only [hs3] at h5
            | some s3 =>
              simp only [hs3] at h5
              exact ⟨_, h5.2, s3, rfl, h5.1, by rw [TK.vs_of hs3]; exact valuesOf_slots h3 hv3, hk1.trans h2, hsm1.trans h4, h3.1, h3.2.1⟩
        | exit id =>
          obtain ⟨h1, h2, e3, h3, h4, h5⟩ := hq
          refine ⟨h1, ?_, e3, h3, hsm1.trans h4, h5⟩
          show Kept (match exits id b with | 0 => 0 | _ => setOr (asgM b none) (asgM b (some id))) a a2
          obtain ⟨k, hk⟩ := Nat.exists_eq_succ_of_ne_zero h1
          rw [hk]
          exact (Kept.left hk1).trans (Kept.right h2)
        | ret =>
          obtain ⟨e3, h3, h4, h5⟩ := hq
          exact ⟨e3, h3, hsm1.trans h4, h5⟩
        | _ => exact hq.elim
  | exit id =>
    intro e a w QW hr h
    exact wp_exit ⟨by simp [exits], Kept.refl _ _, e, hr, Same.refl w, h⟩
  | ret =>
    intro e a w QW hr h
    exact wp_ret ⟨e, hr, Same.refl w, h⟩
  | _ => intro e a w QW hr h; exact h.elim

end Go.GL

namespace Go.GL

variable {P : Program}

theorem argsW_get : ∀ (args : List Value) (i t : Nat) (s : Slot), (argsW i args).get t = some s → i ≤ t ∧ ∃ v, args[t - i]? = some v ∧ s = .val v
  | [], i, t, s, h => by simp [argsW, Env.get] at h
  | v :: r, i, t, s, h => by
    simp only [argsW] at h
    rw [get_cons] at h
    by_cases hit : i = t
    · subst hit
      rw [if_pos rfl] at h
      cases h
      exact ⟨Nat.le_refl _, v, by simp, rfl⟩
    · rw [if_neg hit] at h
      obtain ⟨h1, u, h2, h3⟩ := argsW_get r (i + 1) t s h
      refine ⟨by omega, u, ?_, h3⟩
      rw [show t - i = (t - (i + 1)) + 1 from by omega]
      simpa using h2

theorem argsW_rel (args : List Value) (n : Nat) (h : args.length ≤ n) : Rel n (argsW 0 args) { tmps := (⟨args⟩ : Array Value) ++ Array.replicate (n - (⟨args⟩ : Array Value).size) undef, defers := [] } := by
  refine ⟨by simp; omega, rfl, fun t s hg => ?_⟩
  obtain ⟨_, v, hv, rfl⟩ := argsW_get args 0 t s hg
  simp only [Nat.sub_zero] at hv
  have hlt : t < args.length := (List.getElem?_eq_some_iff.1 hv).1
  simp only [Slot.v]
  rw [Array.getElem?_append_left (by simpa using hlt)]
  simpa using hv

def resF (tmps : Array Value) : ResultVar → Sem Value
  | .tmp t => pure (tmps.getD t undef)
  | .cell a t => do loadVar t (← asAddr (tmps.getD a undef))

theorem resW_spec {n : Nat} {e : Env} {a : Act} {w : World} (hr : Rel n e a) : ∀ {rs : List ResultVar} {K : List Value → Prop}, resW P e w.heap rs K → ∃ vs, (rs.mapM (resF a.tmps)).run P w = .ok vs w ∧ K vs
  | [], K, h => ⟨[], rfl, h⟩
  | .tmp t :: r, K, h => by
    simp only [resW] at h
    cases hg : e.get t with
    | none => simp only [hg] at h
    | some s =>
      simp only [hg] at h
      obtain ⟨vs, h1, h2⟩ := resW_spec hr h
      have := hr.2.2 t s hg
      exact ⟨_, by simp [List.mapM_cons, resF, this, h1], h2⟩
  | .cell t ty :: r, K, h => by
    simp only [resW] at h
    cases hg : e.get t with
    | none => simp only [hg] at h
    | some s =>
      simp only [hg] at h
      have hev : evV e (.tmp t) = some s.v := by simp [evV, ev, hg]
      obtain ⟨ad, had⟩ := ldOp_ptr h
      rw [← hev] at h
      obtain ⟨v, hv, hk⟩ := ld_strong h hr.agree
      obtain ⟨vs, h1, h2⟩ := resW_spec hr hk
      have ht := hr.2.2 t s hg
      simp only [Option.some.injEq] at had
      have hload : (loadVar ty ad).run P w = .ok v w := by
        have := hv w rfl
        rw [show a.eval (.tmp t) = s.v from hr.agree _ _ hev, had] at this
        simpa [Instr.loadAt, Instr.sureAddr] using this
      refine ⟨_, ?_, h2⟩
      simp only [List.mapM_cons, resF, Sem.run_bind]
      simp [ht, had, asAddr, hload, h1]

theorem results_run {fn : Func} {tmps : Array Value} {w : World} {vs : List Value} (h : (fn.results.toList.mapM (resF tmps)).run P w = .ok vs w) : (results fn tmps).run P w = .ok (oneV vs) w := by
  have e : ∀ g : ResultVar → Sem Value, (∀ x, g x = resF tmps x) → Array.mapM g fn.results = Array.mapM (resF tmps) fn.results := fun g hg => by rw [funext hg]
  unfold results
  rw [e _ (fun x => by cases x <;> rfl)]
  simp only [Sem.run_bind, Array.mapM_eq_mapM_toList, Sem.run_map, h, Result.andThen_ok, Sem.run_pure]
  congr 1
  match vs with
  | [] => rfl
  | [v] => rfl
  | v :: u :: r => simp [oneV]

theorem funW_sound {f : FuncId} {fn : Func} {keep : Nat} {args : List Value} {h : H} {K : Value → H → Prop} (hm : P.follows .mixedOrders = true) (hf : P.funcs[f]? = some fn) (hs : funW P fn keep args h K) : CallsH P f ⟨args⟩ h K := by
  intro w hw
  subst hw
  unfold funW at hs
  cases hb : fn.body with
  | none => simp only [hb] at hs
  | some c =>
    simp only [hb] at hs
    cases hle : Nat.ble args.length fn.ntmps with
    | false => simp only [hle] at hs
    | true =>
      simp only [hle] at hs
      refine calls_of_wp hf hb (wp_mono (W_sound hm c _ _ w _ (argsW_rel args fn.ntmps (Nat.le_of_ble_eq_true hle)) hs) fun ex a1 w1 hq => ?_)
      have done : (∃ e, Rel fn.ntmps e a1 ∧ Same w w1 ∧ resW P e w1.heap fn.results.toList fun vs => K (oneV vs) w1.heap) →
          a1.defers = [] ∧ ∃ v, (results fn a1.tmps).run P w1 = .ok v w1 ∧ ∃ v', Ending.returned v = .returned v' ∧ Same w w1 ∧ K v' w1.heap := by
        rintro ⟨e, hr, hsm, hq⟩
        obtain ⟨vs, h1, h2⟩ := resW_spec hr hq
        exact ⟨hr.2.1, _, results_run h1, _, rfl, hsm, h2⟩
      cases ex with
      | normal =>
        obtain ⟨_, _, e, hr, hsm, hq⟩ := hq
        exact done ⟨e, hr, hsm, hq⟩
      | ret =>
        obtain ⟨e, hr, hsm, hq⟩ := hq
        exact done ⟨e, hr, hsm, hq⟩
      | exit id =>
        obtain ⟨_, _, e, hr, hsm, hq⟩ := hq
        exact hq.elim
      | _ => exact hq.elim

/-! ### Results, part by part -/

def fitK (k : CK) (v : Value) : Prop := exK k v fun _ => True
def fitL : List CK → List Value → Prop
  | [], [] => True
  | k :: ks, v :: vs => fitK k v ∧ fitL ks vs
  | _, _ => False

theorem exK_fit {k : CK} {v : Value} {K : Value → Prop} (hf : fitK k v) (hk : K v) : exK k v K := by
  cases k
  case i => obtain ⟨n, rfl, _⟩ := hf; exact ⟨n, rfl, hk⟩
  case b => obtain ⟨n, rfl, _⟩ := hf; exact ⟨n, rfl, hk⟩
  case s => obtain ⟨n, rfl, _⟩ := hf; exact ⟨n, rfl, hk⟩
  case p => obtain ⟨n, rfl, _⟩ := hf; exact ⟨n, rfl, hk⟩
  case l => obtain ⟨p, n, c, rfl, _⟩ := hf; exact ⟨p, n, c, rfl, hk⟩
  case m => obtain ⟨n, rfl, _⟩ := hf; exact ⟨n, rfl, hk⟩
  case f => obtain ⟨t, x, rfl, _⟩ := hf; exact ⟨t, x, rfl, hk⟩
  case raw => exact hk

theorem appK_fit {R : Type} (bad : R) (k : CK) (F : CurK k R) (v : Value) : appK bad k F v = bad ∨ fitK k v := by
  cases k <;> cases v <;> first
    | exact .inl rfl
    | exact .inr trivial
    | exact .inr ⟨_, rfl, trivial⟩
    | exact .inr ⟨_, _, rfl, trivial⟩
    | exact .inr ⟨_, _, _, rfl, trivial⟩
    | skip
  rename_i k k' n
  simp only [appK]
  cases hb : Nat.beq (ikN k) (ikN k') with
  | false => exact .inl rfl
  | true =>
    rw [ikN_eq hb]
    exact .inr ⟨_, rfl, trivial⟩

theorem appL_fit {R : Type} (bad : R) : ∀ (ks : List CK) (F : CurL ks R) (vs : List Value), appL bad ks F vs = bad ∨ fitL ks vs := by
  intro ks
  induction ks with
  | nil =>
    intro F vs
    cases vs with
    | nil => exact .inr trivial
    | cons v vs => exact .inl (appL_nc bad _ v vs)
  | cons k ks ih =>
    intro F vs
    cases vs with
    | nil => exact .inl (appL_cn bad k ks _)
    | cons v vs =>
      rw [appL_cc]
      rcases appK_fit (botL bad ks) k F v with h1 | h1
      · rw [h1]; exact .inl (appL_bot bad ks vs)
      · rcases ih (appK (botL bad ks) k F v) vs with h2 | h2
        · exact .inl h2
        · exact .inr ⟨h1, h2⟩

theorem exVs_fit {K : List Value → Prop} : ∀ {ks : List CK} {vs acc : List Value}, fitL ks vs → K (acc.reverse ++ vs) → exVs K ks vs acc
  | [], [], acc, _, h => by simpa [exVs] using h
  | [], _ :: _, _, hf, _ => hf.elim
  | _ :: _, [], _, hf, _ => hf.elim
  | k :: ks, v :: vs, acc, hf, h => exK_fit (K := fun v' => exVs K ks vs (v' :: acc)) hf.1 (exVs_fit hf.2 (by simpa using h))

theorem ex1_fit {s : Sh1} {v : Value} {l : List Value} {K : Value → Prop} (hp : parts1 s v = some l) (hf : fitL s.2 l) (hk : K v) : ex1 s v K := by
  obtain ⟨b, ks⟩ := s
  cases b with
  | false =>
    unfold parts1 at hp
    simp only at hp
    split at hp
    case h_2 => cases hp
    rename_i k _
    cases hp
    exact exK_fit hf.1 hk
  | true =>
    unfold parts1 at hp
    simp only at hp
    split at hp
    case h_2 => cases hp
    rename_i cs
    cases hb : Nat.beq cs.toList.length ks.length with
    | false => simp only [hb] at hp; cases hp
    | true =>
      simp only [hb] at hp
      cases hp
      have hl := Nat.eq_of_beq_eq_true hb
      obtain ⟨l⟩ := cs
      simp only at hl hf hk ⊢
      match ks, l, hl, hf with
      | [k1], [a], _, hf => exact ⟨a, rfl, exVs_fit hf hk⟩
      | [k1, k2], [a, b], _, hf => exact ⟨a, b, rfl, exVs_fit hf hk⟩
      | [k1, k2, k3], [a, b, c], _, hf => exact ⟨a, b, c, rfl, exVs_fit hf hk⟩
      | [k1, k2, k3, k4], [a, b, c, d], _, hf => exact ⟨a, b, c, d, rfl, exVs_fit hf hk⟩
      | [k1, k2, k3, k4, k5], [a, b, c, d, x], _, hf => exact ⟨a, b, c, d, x, rfl, exVs_fit hf hk⟩
      | [k1, k2, k3, k4, k5, k6], [a, b, c, d, x, y], _, hf => exact ⟨a, b, c, d, x, y, rfl, exVs_fit hf hk⟩
      | [], l, hl, _ => exact ⟨l, hl, rfl, hk⟩
      | _ :: _ :: _ :: _ :: _ :: _ :: _ :: _, l, hl, _ => exact ⟨l, hl, rfl, hk⟩

theorem fitL_append : ∀ {ks ks' : List CK} {a b : List Value}, a.length = ks.length → fitL (ks ++ ks') (a ++ b) → fitL ks a ∧ fitL ks' b
  | [], ks', [], b, _, h => ⟨trivial, h⟩
  | k :: ks, ks', v :: a, b, hl, h => by
    obtain ⟨h1, h2⟩ := fitL_append (by simpa using hl) h.2
    exact ⟨⟨h.1, h1⟩, h2⟩
  | [], _, _ :: _, _, hl, _ => by simp at hl
  | _ :: _, _, [], _, hl, _ => by simp at hl

theorem parts1_length {s : Sh1} {v : Value} {l : List Value} (hp : parts1 s v = some l) : l.length = s.2.length := by
  obtain ⟨b, ks⟩ := s
  cases b with
  | false =>
    unfold parts1 at hp
    simp only at hp
    split at hp
    case h_2 => cases hp
    cases hp
    rfl
  | true =>
    unfold parts1 at hp
    simp only at hp
    split at hp
    case h_2 => cases hp
    rename_i cs
    cases hb : Nat.beq cs.toList.length ks.length with
    | false => simp only [hb] at hp; cases hp
    | true =>
      simp only [hb] at hp
      cases hp
      exact Nat.eq_of_beq_eq_true hb

theorem ex1s_fit {K : List Value → Prop} : ∀ {ss : List Sh1} {vs l acc : List Value}, parts1s ss vs = some l → fitL (shKs ss) l → K (acc.reverse ++ vs) → ex1s K ss vs acc
  | [], [], l, acc, _, _, h => by simpa [ex1s] using h
  | [], _ :: _, _, _, hp, _, _ => by simp [parts1s] at hp
  | _ :: _, [], _, _, hp, _, _ => by simp [parts1s] at hp
  | s :: ss, v :: vs, l, acc, hp, hf, h => by
    unfold parts1s at hp
    cases h1 : parts1 s v with
    | none => simp [h1] at hp
    | some a =>
      cases h2 : parts1s ss vs with
      | none => simp [h1, h2] at hp
      | some b =>
        simp only [h1, h2, Option.some.injEq] at hp
        subst hp
        obtain ⟨h3, h4⟩ := fitL_append (parts1_length h1) hf
        exact ex1_fit (K := fun v' => ex1s K ss vs (v' :: acc)) h1 h3 (ex1s_fit h2 h4 (by simpa using h))

theorem parts1s_length : ∀ {ss : List Sh1} {vs l : List Value}, parts1s ss vs = some l → vs.length = ss.length
  | [], [], _, _ => rfl
  | [], _ :: _, _, hp => by simp [parts1s] at hp
  | _ :: _, [], _, hp => by simp [parts1s] at hp
  | s :: ss, v :: vs, l, hp => by
    unfold parts1s at hp
    cases h1 : parts1 s v with
    | none => simp [h1] at hp
    | some a =>
      cases h2 : parts1s ss vs with
      | none => simp [h1, h2] at hp
      | some b => simp [parts1s_length h2]

theorem exR_fit {s : Sh} {v : Value} {l : List Value} {K : Value → Prop} (hp : partsS s v = some l) (hf : fitL (shKs s.2) l) (hk : K v) : exR s v K := by
  obtain ⟨b, ss⟩ := s
  cases b with
  | false =>
    unfold partsS at hp
    simp only at hp
    match ss, hp, hf with
    | [s], hp, hf =>
      have := ex1s_fit (K := fun vs => vs = [v]) (acc := []) hp hf rfl
      unfold parts1s at hp
      cases h1 : parts1 s v with
      | none => simp [h1] at hp
      | some a =>
        simp only [h1, parts1s, Option.some.injEq] at hp
        subst hp
        simp only [shKs] at hf
        obtain ⟨h3, _⟩ := fitL_append (ks' := []) (b := []) (parts1_length h1) (by simpa using hf)
        exact ex1_fit h1 h3 hk
    | [], hp, hf => exact hk
    | _ :: _ :: _, hp, hf => exact hk
  | true =>
    unfold partsS at hp
    simp only at hp
    split at hp
    case h_2 => cases hp
    rename_i vs
    obtain ⟨vs⟩ := vs
    simp only at hp
    have hl := parts1s_length hp
    match ss, vs, hl, hp, hf with
    | [], [], _, hp, hf => exact ⟨rfl, hk⟩
    | [a, b], [x, y], _, hp, hf => exact ⟨x, y, rfl, ex1s_fit hp hf hk⟩
    | [a, b, c], [x, y, z], _, hp, hf => exact ⟨x, y, z, rfl, ex1s_fit hp hf hk⟩
    | [a, b, c, d], [x, y, z, u], _, hp, hf => exact ⟨x, y, z, u, rfl, ex1s_fit hp hf hk⟩
    | [a, b, c, d, g], [x, y, z, u, s], _, hp, hf => exact ⟨x, y, z, u, s, rfl, ex1s_fit hp hf hk⟩
    | [a], l, hl, _, _ => exact ⟨l, hl, rfl, hk⟩
    | _ :: _ :: _ :: _ :: _ :: _ :: _, l, hl, _, _ => exact ⟨l, hl, rfl, hk⟩

theorem resK_apart {t : TypeId} {s : Sh} (hs : shT P t = some s) {K : CurL (shKs s.2) (H → Prop)} {v : Value} {h : H} (hk : resK s K v h) : apartK P t (resK s K) v h := by
  unfold apartK exT
  rw [hs]
  have hk' := hk
  unfold resK at hk'
  cases hp : partsS s v with
  | none => simp only [hp] at hk'
  | some l =>
    simp only [hp] at hk'
    rcases appL_fit (fun _ => False) (shKs s.2) K l with h1 | h1
    · rw [h1] at hk'; exact hk'.elim
    · exact exR_fit hp h1 hk

/-- A call, out of the printed function. -/
theorem callK_of {f : FuncId} {fn : Func} {keep : Nat} {args : List Value} {t : TypeId} {s : Sh} {h : H} {K : CurL (shKs s.2) (H → Prop)} (hm : P.follows .mixedOrders = true) (hf : P.funcs[f]? = some fn)
    (hc : ∀ (args : Array Value) (w : World), (callFunc f args).run P w = .ok (.enter f args) w) (hs : shT P t = some s) (hw : funW P fn keep args h (resK s K)) : callK P f args t s h K := by
  intro w hw'
  rw [hc]
  exact ⟨Same.refl w, hw' ▸ CallsH.mono (fun _ _ hk => resK_apart hs hk) (funW_sound hm hf hw)⟩

end Go.GL
