/- A symbolic executor for the model's code: definitions. No condition. -/
import Derived.WalkKit
import Derived.Scope
import Derived.LoopN
import Derived.RangeFuncOwn
namespace Go.Proofs.Ythbojoiogjdbeaa.Sx
open Go

/-- What is read of memory that nobody writes. -/
inductive RC where
  | v (x : Value)
  | sl (cells : List RC) (n c : Nat)

/-- A cell, symbolically. Windows are named by numbers; 'ρ' says where a window lies. -/
inductive SC where
  | any
  | v (x : Value)
  | ptr (i o : Nat)
  | sl (i o n c : Nat)
  | fn (f : FuncId) (caps : List (Nat × Nat))
  | ro (cells : List RC) (n c : Nat)
  | rp (cells : List RC)

def RC.toSC : RC → SC
  | .v x => .v x
  | .sl cs n c => .ro cs n c

/-- A temporary. -/
inductive SV where
  | c (x : SC)
  | agg (xs : List SC)
  | tup (xs : List (Bool × List SC))
  | und (g : Bool) (x : SC)

/-- Where the windows lie: how many there are, the block and the first place of each. -/
structure Rho where
  n : Nat
  f : Nat → Nat × Nat
  w0 : World
  zone : Nat → Prop

def Rho.at (ρ : Rho) (i o : Nat) : Addr := ⟨(ρ.f i).1, (ρ.f i).2 + o, none⟩

structure Rho.le (ρ ρ' : Rho) : Prop where
  h1 : ρ.n ≤ ρ'.n
  h2 : ∀ i, i < ρ.n → ρ'.f i = ρ.f i
  h3 : ρ'.w0 = ρ.w0
  h4 : ρ'.zone = ρ.zone

mutual
def RC.rel (w0 : World) (zone : Nat → Prop) : RC → Value → Prop
  | .v x, y => y = x ∧ x.oneCell' = true
  | .sl cells n c, y => (n = 0 ∧ c = 0 ∧ ∃ p, y = .slice p 0 0) ∨ (n ≤ c ∧ ∃ b o, y = .slice (some ⟨b, o, none⟩) n c ∧ zone b ∧ RC.relL w0 zone b o cells)
def RC.relL (w0 : World) (zone : Nat → Prop) (b : Nat) : Nat → List RC → Prop
  | _, [] => True
  | k, r :: rs => (∃ v, w0.cell? ⟨b, k, none⟩ = some v ∧ RC.rel w0 zone r v) ∧ RC.relL w0 zone b (k + 1) rs
end

def SC.rel (ρ : Rho) : SC → Value → Prop
  | .any, y => y.oneCell' = true
  | .v x, y => y = x ∧ x.oneCell' = true
  | .ptr i o, y => i < ρ.n ∧ y = .pointer (some (ρ.at i o))
  | .sl i o n c, y => (n = 0 ∧ c = 0 ∧ ∃ p, y = .slice p 0 0) ∨ (i < ρ.n ∧ n ≤ c ∧ y = .slice (some (ρ.at i o)) n c)
  | .fn f caps, y => (∀ p ∈ caps, p.1 < ρ.n) ∧ y = .func (.func f) #[] (caps.map fun p => .pointer (some (ρ.at p.1 p.2))).toArray
  | .ro cells n c, y => RC.rel ρ.w0 ρ.zone (.sl cells n c) y
  | .rp cells, y => ∃ b o, y = .pointer (some ⟨b, o, none⟩) ∧ ρ.zone b ∧ RC.relL ρ.w0 ρ.zone b o cells

def RelL (ρ : Rho) (xs : List SC) (ys : List Value) : Prop :=
  xs.length = ys.length ∧ ∀ (j : Nat) (c : SC) (y : Value), xs[j]? = some c → ys[j]? = some y → c.rel ρ y

def relT (ρ : Rho) : Bool × List SC → Value → Prop
  | (true, cs), y => ∃ ys, y = .agg ys ∧ RelL ρ cs ys.toList
  | (false, [c]), y => c.rel ρ y
  | (false, _), _ => False

def SV.rel (ρ : Rho) : SV → Value → Prop
  | .c x, y => x.rel ρ y
  | .agg xs, y => ∃ ys, y = .agg ys ∧ RelL ρ xs ys.toList
  | .tup xs, y => ∃ ys : Array Value, y = .tuple ys ∧ xs.length = ys.size ∧ ∀ (j : Nat) (c : Bool × List SC) (z : Value), xs[j]? = some c → ys[j]? = some z → relT ρ c z
  | .und g x, y => (g = true → x.rel ρ y) ∧ (g = false → y = undef)

/-- A window: whether it is a whole block that may be written. -/
structure SB where
  own : Bool
  ty : TypeId
  cells : List SC

/-- A window that says nothing. -/
def SB.void (b : SB) : Bool := !b.own && b.cells.isEmpty

/-- A row that may be written: what is frozen of it lies behind its cells. -/
def rowAt (w : World) (b : Nat) (ty : TypeId) (cs : List Value) : Prop := ∃ fr : Nat × Nat, w.heap[b]? = some (.cells cs.toArray ty fr) ∧ (fr = (0, 0) ∨ cs.length ≤ fr.1)

structure Models (h : List SB) (ρ : Rho) (w : World) : Prop where
  n : ρ.n = h.length
  own : ∀ (i : Nat) (b : SB), h[i]? = some b → b.own = true → (ρ.f i).2 = 0 ∧ ∃ cs : List Value, rowAt w (ρ.f i).1 b.ty cs ∧ RelL ρ b.cells cs
  ro : ∀ (i : Nat) (b : SB), h[i]? = some b → ∀ (j : Nat) (c : SC), b.cells[j]? = some c → ∃ y, w.cell? (ρ.at i j) = some y ∧ c.rel ρ y
  sep : ∀ (i j : Nat) (bi bj : SB), i ≠ j → h[i]? = some bi → h[j]? = some bj → bi.own = true → bj.void = false → (ρ.f i).1 ≠ (ρ.f j).1
  lt : ∀ (i : Nat) (b : SB), h[i]? = some b → b.void = false → (ρ.f i).1 < w.heap.size
  zone : ∀ k, ρ.zone k → k < w.heap.size ∧ w.heap[k]? = ρ.w0.heap[k]?
  zsep : ∀ (k i : Nat) (b : SB), ρ.zone k → h[i]? = some b → b.own = true → (ρ.f i).1 ≠ k

/-- 'S': the blocks that may have been written. -/
structure Ext (S : Nat → Prop) (w w' : World) : Prop where
  os : w'.os = w.os
  tape : w'.tape = w.tape
  output : w'.output = w.output
  size : w.heap.size ≤ w'.heap.size
  block : ∀ k, k < w.heap.size → ¬ S k → w'.heap[k]? = w.heap[k]?

def ownB (h : List SB) (ρ : Rho) (k : Nat) : Prop := ∃ (i : Nat) (b : SB), h[i]? = some b ∧ b.own = true ∧ (ρ.f i).1 = k

/-- A new state of memory. -/
structure Step (h : List SB) (ρ : Rho) (w : World) (h' : List SB) (ρ' : Rho) (w' : World) : Prop where
  le : ρ.le ρ'
  models : Models h' ρ' w'
  fresh : ∀ i, ρ.n ≤ i → i < ρ'.n → w.heap.size ≤ (ρ'.f i).1
  ext : Ext (ownB h ρ) w w'
  flags : ∀ (i : Nat) (b : SB), i < ρ.n → h'[i]? = some b → b.own = true → ∃ b0, h[i]? = some b0 ∧ b0.own = true
  nonv : ∀ (i : Nat) (b : SB), i < ρ.n → h'[i]? = some b → b.void = false → ∃ b0, h[i]? = some b0 ∧ b0.void = false

/-- What a call comes to, said of symbols. -/
def Spec (P : Program) (f : FuncId) (args : List SV) (h : List SB) (K : SV → List SB → Prop) : Prop :=
  (∀ (vs : Array Value) (w : World), (callFunc f vs).run P w = .ok (.enter f vs) w) ∧
  ∀ (ρ : Rho) (w : World) (vs : Array Value), Models h ρ w → args.length = vs.size → (∀ (j : Nat) (s : SV) (y : Value), args[j]? = some s → vs[j]? = some y → s.rel ρ y) →
    Calls P f vs w fun e w' => ∃ (y : Value) (s : SV) (h' : List SB) (ρ' : Rho), e = .returned y ∧ Step h ρ w h' ρ' w' ∧ s.rel ρ' y ∧ K s h'

/-- A call that panics and leaves memory. -/
def SpecP (P : Program) (f : FuncId) (args : List SV) (h : List SB) (ch : List PanicEntry) : Prop :=
  (∀ (vs : Array Value) (w : World), (callFunc f vs).run P w = .ok (.enter f vs) w) ∧
  ∀ (ρ : Rho) (w : World) (vs : Array Value), Models h ρ w → args.length = vs.size → (∀ (j : Nat) (s : SV) (y : Value), args[j]? = some s → vs[j]? = some y → s.rel ρ y) →
    Calls P f vs w fun e w' => e = .panicked ch ∧ Ext (fun _ => False) w w'

/-! ### Types -/
inductive TD where
  | int (k : IntKind)
  | bool
  | str
  | ptr
  | slice (e : TypeId)
  | struct (fs : List (Nat × TypeId))
  | array (n : Nat) (e : TypeId)
  | func
  | iface
  | other

structure TI where
  desc : TD
  size : Nat
  bytes : Nat
  zero : List Value

def TD.agg : TD → Bool
  | .struct _ => true
  | .array .. => true
  | _ => false

/-! ### The state -/
structure NB where
  nm : Nat
  base : Nat

structure St where
  nm : NB
  tm : List (Nat × SV)
  hp : List SB

def look (t : Nat) : List (Nat × SV) → Option SV
  | [] => none
  | (u, s) :: r => bif t == u then some s else look t r

def put (d : Option Nat) (s : SV) (tm : List (Nat × SV)) : List (Nat × SV) :=
  match d with
  | none => tm
  | some t => go t s tm
where go (t : Nat) (s : SV) : List (Nat × SV) → List (Nat × SV)
  | [] => [(t, s)]
  | (u, x) :: r => bif t == u then (t, s) :: r else (u, x) :: go t s r

def trim (nm : Nat) : List (Nat × SV) → List (Nat × SV)
  | [] => []
  | (u, x) :: r => bif decide (u < nm) then (u, x) :: trim nm r else trim nm r

def constV : Value → Option SV
  | .agg cs => bif cs.toList.all Value.oneCell' then some (.agg (cs.toList.map .v)) else none
  | .tuple _ => none
  | x => some (.c (.v x))

/-- An operand where 'g' holds: what must hold besides, its value. -/
def ev (g : Bool) (tm : List (Nat × SV)) : Operand → Option (Prop × SV)
  | .tmp t => match look t tm with
    | some (.und u x) => some (g = true → u = true, .c x)
    | some s => some (True, s)
    | none => none
  | .const x => match constV x with
    | some s => some (True, s)
    | none => none
  | .func f => some (True, .c (.fn f []))
  | .global _ => none

def evs (g : Bool) (tm : List (Nat × SV)) : List Operand → Option (Prop × List SV)
  | [] => some (True, [])
  | o :: r => match ev g tm o, evs g tm r with
    | some (p, s), some (q, ss) => some (p ∧ q, s :: ss)
    | _, _ => none

/-! ### Operations -/
inductive OR where
  | bad
  | val (p : Prop) (s : SV)
  | mem (p : Prop) (s : SV) (h : List SB)
  | app (p : Prop) (need cap : Nat) (room : SV × List SB) (grow : Nat → SV × List SB)
  | conv (p : Prop) (n : Nat) (grow : Nat → SV × List SB)
  | call (p : Prop) (f : FuncId) (args : List SV)

def bitI (op : BinOp) (k : IntKind) (x y : Int) : Int :=
  match op with
  | .and => k.wrap (BitVec.ofInt k.bits x &&& BitVec.ofInt k.bits y).toNat
  | .or => k.wrap (BitVec.ofInt k.bits x ||| BitVec.ofInt k.bits y).toNat
  | .xor => k.wrap (BitVec.ofInt k.bits x ^^^ BitVec.ofInt k.bits y).toNat
  | _ => k.wrap (BitVec.ofInt k.bits x &&& ~~~ BitVec.ofInt k.bits y).toNat

def shI (k : IntKind) (y : Int) : Nat := min y.toNat k.bits

def binI (op : BinOp) (k : IntKind) (x y : Int) : OR :=
  match op with
  | .add => .val True (.c (.v (.int k (k.wrap (x + y)))))
  | .sub => .val True (.c (.v (.int k (k.wrap (x - y)))))
  | .mul => .val True (.c (.v (.int k (k.wrap (x * y)))))
  | .quo => .val (y ≠ 0) (.c (.v (.int k (k.wrap (x.tdiv y)))))
  | .rem => .val (y ≠ 0) (.c (.v (.int k (x.tmod y))))
  | .and => .val True (.c (.v (.int k (bitI .and k x y))))
  | .or => .val True (.c (.v (.int k (bitI .or k x y))))
  | .xor => .val True (.c (.v (.int k (bitI .xor k x y))))
  | .andNot => .val True (.c (.v (.int k (bitI .andNot k x y))))
  | .eql => .val True (.c (.v (.bool (decide (x = y)))))
  | .neq => .val True (.c (.v (.bool (!decide (x = y)))))
  | .lss => .val True (.c (.v (.bool (decide (x < y)))))
  | .leq => .val True (.c (.v (.bool (decide (x ≤ y)))))
  | .gtr => .val True (.c (.v (.bool (decide (y < x)))))
  | .geq => .val True (.c (.v (.bool (decide (y ≤ x)))))
  | _ => .bad

/-- Two aggregates of integers, cell by cell. -/
def eqCells : List SC → List SC → Option Bool
  | [], [] => some true
  | .v (.int k a) :: r, .v (.int k' b) :: s => if k = k' then (eqCells r s).map (decide (a = b) && ·) else none
  | .v (.bool a) :: r, .v (.bool b) :: s => (eqCells r s).map ((a == b) && ·)
  | _, _ => none

def isB : SC → Bool
  | .v (.bool _) => true
  | _ => false
def isBv : Value → Bool
  | .bool _ => true
  | _ => false

def binS (d : TD) (sz : List Bool) (flat : Bool) (op : BinOp) : SV → SV → OR
  | .c (.v (.int k a)), .c (.v (.int k' b)) => match op with
    | .shl => .val (0 ≤ b) (.c (.v (.int k (k.wrap (a * 2 ^ shI k b)))))
    | .shr => .val (0 ≤ b) (.c (.v (.int k (a.fdiv (2 ^ shI k b)))))
    | _ => if k = k' then binI op k a b else .bad
  | .c (.v (.bool a)), .c (.v (.bool b)) => match op, d with
    | .eql, .bool => .val True (.c (.v (.bool (a == b))))
    | .neq, .bool => .val True (.c (.v (.bool (!(a == b)))))
    | _, _ => .bad
  | .c (.v (.string a)), .c (.v (.string b)) => match op with
    | .eql => .val True (.c (.v (.bool (a.toList == b.toList))))
    | .neq => .val True (.c (.v (.bool (!(a.toList == b.toList)))))
    | .add => .val (a.size + b.size ≤ 9223372036854775807) (.c (.v (.string (a ++ b))))
    | _ => .bad
  | .c (.ptr _ _), .c (.v (.pointer none)) => match op, d with
    | .eql, .ptr => .val True (.c (.v (.bool false)))
    | .neq, .ptr => .val True (.c (.v (.bool true)))
    | _, _ => .bad
  | .c (.v (.pointer none)), .c (.v (.pointer none)) => match op, d with
    | .eql, .ptr => .val True (.c (.v (.bool true)))
    | .neq, .ptr => .val True (.c (.v (.bool false)))
    | _, _ => .bad
  | .c (.sl _ _ _ c), .c (.v (.slice none _ _)) => match op, d with
    | .eql, .slice _ => .val (0 < c) (.c (.v (.bool false)))
    | .neq, .slice _ => .val (0 < c) (.c (.v (.bool true)))
    | _, _ => .bad
  | .c (.ro _ _ c), .c (.v (.slice none _ _)) => match op, d with
    | .eql, .slice _ => .val (0 < c) (.c (.v (.bool false)))
    | .neq, .slice _ => .val (0 < c) (.c (.v (.bool true)))
    | _, _ => .bad
  | .c (.v (.slice none _ _)), .c (.v (.slice none _ _)) => match op, d with
    | .eql, .slice _ => .val True (.c (.v (.bool true)))
    | .neq, .slice _ => .val True (.c (.v (.bool false)))
    | _, _ => .bad
  | .agg xs, .agg ys => bif flat then match op, eqCells xs ys with
    | .eql, some b => .val (xs.map isB = sz) (.c (.v (.bool b)))
    | .neq, some b => .val (xs.map isB = sz) (.c (.v (.bool (!b))))
    | _, _ => .bad else .bad
  | .c (.v (.slice (some _) _ _)), .c (.v (.slice none _ _)) => match op, d with
    | .eql, .slice _ => .val True (.c (.v (.bool false)))
    | .neq, .slice _ => .val True (.c (.v (.bool true)))
    | _, _ => .bad
  | _, _ => .bad

def cellsOf : SV → Option (List SC)
  | .c x => some [x]
  | .agg xs => some xs
  | _ => none

def fillC (zero : List SC) (size : Nat → Option (Nat × Nat)) : List (Nat × SV) → Option (List SC)
  | [] => some zero
  | (i, s) :: r => match size i, cellsOf s with
    | some (off, n), some cs => if cs.length = n ∧ off + n ≤ zero.length then fillC (zero.take off ++ cs ++ zero.drop (off + n)) size r else none
    | _, _ => none

def placeOf (T : TypeId → Option TI) (fs : List (Nat × TypeId)) (i : Nat) : Option (Nat × Nat) :=
  match fs[i]? with
  | some (off, ft) => match T ft with
    | some ti => some (off, ti.size)
    | none => none
  | none => none

def isByte : SC → Bool
  | .v (.int .u8 n) => decide (0 ≤ n) && decide (n < 256)
  | _ => false

def byteOf : SC → UInt8
  | .v (.int .u8 n) => UInt8.ofNat n.toNat
  | _ => 0

def strOf (cs : List SC) : ByteArray := ⟨(cs.map byteOf).toArray⟩

def byteC (b : UInt8) : SC := .v (.int .u8 b.toNat)

def win (h : List SB) (i o n : Nat) : List SC :=
  match h[i]? with
  | some b => (b.cells.drop o).take n
  | none => []

/-- 'cs' laid into window 'i' at 'o'. -/
def lay (h : List SB) (i o : Nat) (cs : List SC) : List SB :=
  match h[i]? with
  | some b => h.set i { b with cells := b.cells.take o ++ cs ++ b.cells.drop (o + cs.length) }
  | none => h

def lenW (h : List SB) (i : Nat) : Nat := match h[i]? with
  | some b => b.cells.length
  | none => 0

def ownW (h : List SB) (i : Nat) : Bool := match h[i]? with
  | some b => b.own
  | none => false

def intOr : Option SV → Int → Option Int
  | none, d => some d
  | some (.c (.v (.int _ n))), _ => some n
  | _, _ => none

/-- A slice expression's operands, in their order. -/
def sliceOps (lo hi mx : Bool) (ss : List SV) : Option (Option SV × Option SV × Option SV) :=
  match lo, hi, mx, ss with
  | false, false, false, [] => some (none, none, none)
  | true, false, false, [l] => some (some l, none, none)
  | false, true, false, [h] => some (none, some h, none)
  | true, true, false, [l, h] => some (some l, some h, none)
  | false, true, true, [h, m] => some (none, some h, some m)
  | true, true, true, [l, h, m] => some (some l, some h, some m)
  | _, _, _, _ => none

/-- Cells that are read: of how many items, which. -/
def srcOf (h : List SB) (sz : Nat) : SC → Option (Prop × List SC × Nat)
  | .sl j q m _ => some (q + m * sz ≤ lenW h j, win h j q (m * sz), m)
  | .v (.slice none 0 0) => some (True, [], 0)
  | .ro cs m _ => some (m * sz ≤ cs.length, (cs.take (m * sz)).map RC.toSC, m)
  | .v (.slice (some _) 0 0) => some (True, [], 0)
  | _ => none

def opAppend (h : List SB) (e : TypeId) (ti : TI) (s : SV) (news : List SC) (m : Nat) : OR :=
  match s with
  | .c (.v (.slice none 0 0)) => .app (m * ti.bytes ≤ (if ti.bytes ≤ 1024 then 190000000000000 else 140737488355328) ∧ m ≤ maxLen) m 0 (s, h) fun c => (.c (.sl h.length 0 m c), h ++ [⟨true, e, news ++ (List.replicate (c - m) (ti.zero.map SC.v)).flatten⟩])
  | .c (.sl i o n c) => .app ((n + m) * ti.bytes ≤ (if ti.bytes ≤ 1024 then 190000000000000 else 140737488355328) ∧ n + m ≤ maxLen ∧ o + n * ti.size ≤ lenW h i ∧ (n + m ≤ c → (m = 0 ∨ ownW h i = true) ∧ o + (n + m) * ti.size ≤ lenW h i)) (n + m) c
      (.c (.sl i o (n + m) c), lay h i (o + n * ti.size) news)
      fun c' => (.c (.sl h.length 0 (n + m) c'), h ++ [⟨true, e, win h i o (n * ti.size) ++ news ++ (List.replicate (c' - (n + m)) (ti.zero.map SC.v)).flatten⟩])
  | .c (.ro cs n c) => .app ((n + m) * ti.bytes ≤ (if ti.bytes ≤ 1024 then 190000000000000 else 140737488355328) ∧ n + m ≤ maxLen ∧ n * ti.size ≤ cs.length ∧ (n + m ≤ c → m = 0)) (n + m) c
      (.c (.ro cs n c), h)
      fun c' => (.c (.sl h.length 0 (n + m) c'), h ++ [⟨true, e, (cs.take (n * ti.size)).map RC.toSC ++ news ++ (List.replicate (c' - (n + m)) (ti.zero.map SC.v)).flatten⟩])
  | _ => .bad

def opB (T : TypeId → Option TI) (h : List SB) (b : Builtin) (ts : List TypeId) (ss : List SV) : OR :=
  match b, ts, ss with
  | .len, [t], [.c (.sl _ _ n _)] => match T t with
    | some ⟨.slice _, _, _, _⟩ => .val True (.c (.v (.int .i64 n)))
    | _ => .bad
  | .len, [t], [.c (.v (.slice none n _))] => match T t with
    | some ⟨.slice _, _, _, _⟩ => .val True (.c (.v (.int .i64 n)))
    | _ => .bad
  | .len, [t], [.c (.v (.string s))] => match T t with
    | some ⟨.str, _, _, _⟩ => .val True (.c (.v (.int .i64 s.size)))
    | _ => .bad
  | .cap, [t], [.c (.sl _ _ _ c)] => match T t with
    | some ⟨.slice _, _, _, _⟩ => .val True (.c (.v (.int .i64 c)))
    | _ => .bad
  | .len, [t], [.c (.ro _ n _)] => match T t with
    | some ⟨.slice _, _, _, _⟩ => .val True (.c (.v (.int .i64 n)))
    | _ => .bad
  | .cap, [t], [.c (.ro _ _ c)] => match T t with
    | some ⟨.slice _, _, _, _⟩ => .val True (.c (.v (.int .i64 c)))
    | _ => .bad
  | .max, _, [.c (.v (.int k x)), .c (.v (.int _ y))] => .val True (.c (.v (.int k (if y > x then y else x))))
  | .min, _, [.c (.v (.int k x)), .c (.v (.int _ y))] => .val True (.c (.v (.int k (if y < x then y else x))))
  | .append, [t, t'], [s, .c y] => bif !(t == t') then .bad else match T t with
    | some ⟨.slice e, _, _, _⟩ => match T e with
      | some ti => match srcOf h ti.size y with
        | some (q, news, m) => match opAppend h e ti s news m with
          | .app p need cap room grow => .app (p ∧ q) need cap room grow
          | r => r
        | none => .bad
      | none => .bad
    | _ => .bad
  | .copy, [t, _], [.c (.sl i o n _), .c (.v (.string s))] => match T t with
    | some ⟨.slice e, _, _, _⟩ => match T e with
      | some ⟨.int .u8, _, _, _⟩ => .mem (ownW h i = true ∧ o + min s.size n ≤ lenW h i) (.c (.v (.int .i64 (min s.size n : Nat)))) (lay h i o ((s.data.toList.take (min s.size n)).map byteC))
      | _ => .bad
    | _ => .bad
  | .copy, [t, _], [.c (.sl i o n _), .c y] => match T t with
    | some ⟨.slice e, _, _, _⟩ => match T e with
      | some ti => match srcOf h ti.size y with
        | some (p, news, m) => .mem (p ∧ ownW h i = true ∧ o + min m n * ti.size ≤ lenW h i) (.c (.v (.int .i64 (min m n : Nat)))) (lay h i o (news.take (min m n * ti.size)))
        | none => .bad
      | none => .bad
    | _ => .bad
  | .copy, [t, _], [.c (.v (.slice none 0 0)), .c y] => match T t with
    | some ⟨.slice e, _, _, _⟩ => match T e with
      | some ti => match srcOf h ti.size y with
        | some _ => .val True (.c (.v (.int .i64 0)))
        | none => .bad
      | none => .bad
    | _ => .bad
  | .clear, [t], [.c (.sl i o n _)] => match T t with
    | some ⟨.slice e, _, _, _⟩ => match T e with
      | some ti => .mem (ownW h i = true ∧ o + n * ti.size ≤ lenW h i) (.tup []) (lay h i o (List.replicate n (ti.zero.map SC.v)).flatten)
      | none => .bad
    | _ => .bad
  | _, _, _ => .bad

def capsOf : List SV → Option (List (Nat × Nat))
  | [] => some []
  | .c (.ptr i o) :: r => (capsOf r).map ((i, o) :: ·)
  | _ :: _ => none

def opR (T : TypeId → Option TI) (flat : TypeId → Bool) (h : List SB) (op : Op) (ss : List SV) : OR :=
  match op, ss with
  | .move _, [s] => .val True s
  | .assign _, [s] => .val True s
  | .alloc e, [] => match T e with
    | some ti => .mem True (.c (.ptr h.length 0)) (h ++ [⟨true, e, ti.zero.map .v⟩])
    | none => .bad
  | .box e _, [s] => match cellsOf s with
    | some cs => .mem True (.c (.ptr h.length 0)) (h ++ [⟨true, e, cs⟩])
    | none => .bad
  | .build t ps, ss => match T t with
    | some ⟨.struct fs, _, _, z⟩ => match fillC (z.map .v) (placeOf T fs) ((ps.toList.map (·.1)).zip ss) with
      | some cs => .val True (.agg cs)
      | none => .bad
    | some ⟨.array _ e, _, _, z⟩ => match T e with
      | some ti => match fillC (z.map .v) (fun i => some (i * ti.size, ti.size)) ((ps.toList.map (·.1)).zip ss) with
        | some cs => .val True (.agg cs)
        | none => .bad
      | none => .bad
    | _ => .bad
  | .buildSlice t len ps, ss => match T t with
    | some ⟨.slice e, _, _, _⟩ => match T e with
      | some ti => match fillC ((List.replicate len (ti.zero.map SC.v)).flatten) (fun i => some (i * ti.size, ti.size)) ((ps.toList.map (·.1)).zip ss) with
        | some cs => .mem (len * ti.size ≤ 16777216) (.c (.sl h.length 0 len len)) (h ++ [⟨true, e, cs⟩])
        | none => .bad
      | none => .bad
    | _ => .bad
  | .load t _, [.c (.ptr i o)] => match T t with
    | some ti => bif ti.desc.agg then .val (o + ti.size ≤ lenW h i) (.agg (win h i o ti.size))
        else match h[i]? with
          | some b => .val (o < b.cells.length) (.c (b.cells.getD o .any))
          | none => .bad
    | none => .bad
  | .store t _ _, [.c (.ptr i o), s] => match T t, cellsOf s with
    | some ti, some cs => .mem (ownW h i = true ∧ cs.length = ti.size ∧ o + ti.size ≤ lenW h i) (.tup []) (lay h i o cs)
    | _, _ => .bad
  | .load t _, [.c (.rp cs)] => match T t with
    | some ti => bif ti.desc.agg then .val (ti.size ≤ cs.length) (.agg ((cs.take ti.size).map RC.toSC))
        else .val (0 < cs.length) (.c (cs.getD 0 (.v undef)).toSC)
    | none => .bad
  | .nilCheck _, [.c (.ptr i o)] => .val True (.c (.ptr i o))
  | .nilCheck _, [.c (.rp cs)] => .val True (.c (.rp cs))
  | .fieldAddr t _ f, [.c (.ptr i o)] => match T t with
    | some ⟨.struct fs, _, _, _⟩ => match fs[f]? with
      | some (off, ft) => match T ft with
        | some ti => .val (ti.size ≠ 0) (.c (.ptr i (o + off)))
        | none => .bad
      | none => .bad
    | _ => .bad
  | .fieldAddr t _ f, [.c (.rp cs)] => match T t with
    | some ⟨.struct fs, _, _, _⟩ => match fs[f]? with
      | some (off, ft) => match T ft with
        | some ti => .val (ti.size ≠ 0) (.c (.rp (cs.drop off)))
        | none => .bad
      | none => .bad
    | _ => .bad
  | .field t _ f, [.agg xs] => match T t with
    | some ⟨.struct fs, _, _, _⟩ => match fs[f]? with
      | some (off, ft) => match T ft with
        | some ti => bif ti.desc.agg then .val True (.agg ((xs.drop off).take ti.size)) else .val (off < xs.length) (.c (xs.getD off .any))
        | none => .bad
      | none => .bad
    | _ => .bad
  | .indexAddr t _ _, [.c (.sl i o n _), .c (.v (.int _ ix))] => match T t with
    | some ⟨.slice e, _, _, _⟩ => match T e with
      | some ti => .val (0 ≤ ix ∧ ix < n) (.c (.ptr i (o + ix.toNat * ti.size)))
      | none => .bad
    | _ => .bad
  | .indexAddr t _ _, [.c (.ptr i o), .c (.v (.int _ ix))] => match T t with
    | some ⟨.array n e, _, _, _⟩ => match T e with
      | some ti => .val (0 ≤ ix ∧ ix < n) (.c (.ptr i (o + ix.toNat * ti.size)))
      | none => .bad
    | _ => .bad
  | .indexAddr t _ _, [.c (.ro cs n _), .c (.v (.int _ ix))] => match T t with
    | some ⟨.slice e, _, _, _⟩ => match T e with
      | some ti => .val (0 ≤ ix ∧ ix < n) (.c (.rp (cs.drop (ix.toNat * ti.size))))
      | none => .bad
    | _ => .bad
  | .indexAddr t _ _, [.c (.rp cs), .c (.v (.int _ ix))] => match T t with
    | some ⟨.array n e, _, _, _⟩ => match T e with
      | some ti => .val (0 ≤ ix ∧ ix < n) (.c (.rp (cs.drop (ix.toNat * ti.size))))
      | none => .bad
    | _ => .bad
  | .index t _ _, [.agg xs, .c (.v (.int _ ix))] => match T t with
    | some ⟨.array n e, _, _, _⟩ => match T e with
      | some ti => bif ti.desc.agg then .val (0 ≤ ix ∧ ix < n) (.agg ((xs.drop (ix.toNat * ti.size)).take ti.size))
          else .val (0 ≤ ix ∧ ix < n ∧ ix.toNat * ti.size < xs.length) (.c (xs.getD (ix.toNat * ti.size) .any))
      | none => .bad
    | _ => .bad
  | .index t _ _, [.c (.v (.string s)), .c (.v (.int _ ix))] => match T t with
    | some ⟨.str, _, _, _⟩ => .val (0 ≤ ix ∧ ix < s.size) (.c (byteC (s.data.toList.getD ix.toNat 0)))
    | _ => .bad
  | .slice t _ lo hi mx, x :: r => match sliceOps lo.isSome hi.isSome mx.isSome r with
    | none => .bad
    | some (l, u, m) => match x, T t with
      | .c (.sl i o n c), some ⟨.slice e, _, _, _⟩ => match T e, intOr l 0, intOr u n, intOr m c with
        | some ti, some l, some u, some m => .val (0 ≤ l ∧ l ≤ u ∧ u ≤ m ∧ m ≤ c) (.c (.sl i (o + l.toNat * ti.size) (u.toNat - l.toNat) (m.toNat - l.toNat)))
        | _, _, _, _ => .bad
      | .c (.ro cs n c), some ⟨.slice e, _, _, _⟩ => match T e, intOr l 0, intOr u n, intOr m c with
        | some ti, some l, some u, some m => .val (0 ≤ l ∧ l ≤ u ∧ u ≤ m ∧ m ≤ c) (.c (.ro (cs.drop (l.toNat * ti.size)) (u.toNat - l.toNat) (m.toNat - l.toNat)))
        | _, _, _, _ => .bad
      | .c (.v (.slice none 0 0)), some ⟨.slice e, _, _, _⟩ => match T e, intOr l 0, intOr u 0, intOr m 0 with
        | some _, some l, some u, some m => .val (l = 0 ∧ u = 0 ∧ m = 0) x
        | _, _, _, _ => .bad
      | .c (.ptr i o), some ⟨.array n e, _, _, _⟩ => match T e, intOr l 0, intOr u n, intOr m n with
        | some ti, some l, some u, some m => .val (0 ≤ l ∧ l ≤ u ∧ u ≤ m ∧ m ≤ n) (.c (.sl i (o + l.toNat * ti.size) (u.toNat - l.toNat) (m.toNat - l.toNat)))
        | _, _, _, _ => .bad
      | .c (.v (.string s)), some ⟨.str, _, _, _⟩ => match intOr l 0, intOr u s.size, m with
        | some l, some u, none => .val (0 ≤ l ∧ l ≤ u ∧ u ≤ s.size) (.c (.v (.string (s.extract l.toNat u.toNat))))
        | _, _, _ => .bad
      | _, _ => .bad
  | .makeSlice t _ _, [.c (.v (.int _ l)), .c (.v (.int _ c))] => match T t with
    | some ⟨.slice e, _, _, _⟩ => match T e with
      | some ti => .mem (0 ≤ l ∧ l ≤ c ∧ c * ti.bytes ≤ 281474976710656 ∧ c < 9223372036854775808) (.c (.sl h.length 0 l.toNat c.toNat)) (h ++ [⟨true, e, (List.replicate c.toNat (ti.zero.map SC.v)).flatten⟩])
      | none => .bad
    | _ => .bad
  | .makeFunc (.func f) first _, ss => match first.size with
    | 0 => match capsOf ss with
      | some cs => .val True (.c (.fn f cs))
      | none => .bad
    | _ => .bad
  | .unOp .not _ _, [.c (.v (.bool b))] => .val True (.c (.v (.bool (!b))))
  | .unOp .neg _ _, [.c (.v (.int k n))] => .val True (.c (.v (.int k (k.wrap (0 - n)))))
  | .unOp .xor _ _, [.c (.v (.int k n))] => .val True (.c (.v (.int k (bitI .xor k (if k.signed then -1 else k.max) n))))
  | .binOp op t _ _ _, [a, b] => match T t with
    | some ti => binS ti.desc (ti.zero.map isBv) (flat t) op a b
    | none => .bad
  | .convert s d _, [.c (.v (.int _ n))] => match T s, T d with
    | some _, some ⟨.int k, _, _, _⟩ => .val True (.c (.v (.int k (k.wrap n))))
    | _, _ => .bad
  | .convert s d _, [.c (.sl i o n c)] => match T s, T d with
    | some ⟨.slice e, _, _, _⟩, some ⟨.str, _, _, _⟩ => match T e with
      | some ⟨.int .u8, _, _, _⟩ => .val (o + n ≤ lenW h i ∧ ∀ c ∈ win h i o n, isByte c = true) (.c (.v (.string (strOf (win h i o n)))))
      | _ => .bad
    | some ⟨.slice _, _, _, _⟩, some ⟨.slice e, _, _, _⟩ => match T e, h[i]? with
      | some ⟨.int .u8, _, _, _⟩, some b => .mem (s = d ∧ b.own = true ∧ 0 < c) (.c (.sl i o n c)) (h.set i ⟨false, b.ty, b.cells⟩)
      | _, _ => .bad
    | _, _ => .bad
  | .convert s d _, [.c (.ro cs n _)] => match T s, T d with
    | some ⟨.slice e, _, _, _⟩, some ⟨.str, _, _, _⟩ => match T e with
      | some ⟨.int .u8, _, _, _⟩ => .val (n ≤ cs.length ∧ ∀ c ∈ (cs.take n).map RC.toSC, isByte c = true) (.c (.v (.string (strOf ((cs.take n).map RC.toSC)))))
      | _ => .bad
    | _, _ => .bad
  | .convert s d _, [.c (.v (.slice none 0 0))] => match T s, T d with
    | some ⟨.slice e, _, _, _⟩, some ⟨.str, _, _, _⟩ => match T e with
      | some ⟨.int .u8, _, _, _⟩ => .val True (.c (.v (.string ByteArray.empty)))
      | _ => .bad
    | _, _ => .bad
  | .convert s d _, [.c (.v (.string x))] => match T s, T d with
    | some ⟨.str, _, _, _⟩, some ⟨.slice e, _, _, _⟩ => match T e with
      | some ⟨.int .u8, _, _, _⟩ => .conv (x.size ≤ maxLen) x.size fun c => (.c (.sl h.length 0 x.size c), h ++ [⟨true, e, x.data.toList.map byteC ++ List.replicate (c - x.size) (.v (.int .u8 0))⟩])
      | _ => .bad
    | _, _ => .bad
  | .extract _ j, [.tup xs] => match xs[j]? with
    | some (true, cs) => .val True (.agg cs)
    | some (false, [x]) => .val True (.c x)
    | _ => .bad
  | .call { callee := .value _, .. }, .c (.fn f caps) :: r => .call True f (r ++ caps.map fun p => .c (.ptr p.1 p.2))
  | .call { callee := .builtin b, argTypes := ts, .. }, ss => opB T h b ts.toList ss
  | _, _ => .bad

/-! ### The executor -/
inductive XE where
  | normal
  | exit (id : Nat)
  | ret
  | panic (ch : List PanicEntry)

def noP : XE → St → Prop
  | .panic _, _ => False
  | .normal, _ => True
  | .exit _, _ => True
  | .ret, _ => True

inductive KI where
  | code (c : Code)
  | ops (all : List Oper) (l : List (Oper × Bool))
  | blk (id : Nat)
  | scp
  | lp (J : St → Prop)
  | rnd (n : Nat) (c : Code)

def popTo (id : Nat) : List KI → Option (List KI)
  | [] => none
  | .blk j :: k => bif j == id then some k else popTo id k
  | .code _ :: k => popTo id k
  | .ops _ _ :: k => popTo id k
  | .scp :: k => popTo id k
  | .lp _ :: k => popTo id k
  | .rnd _ _ :: k => popTo id k

structure Cx where
  P : Program
  T : TypeId → Option TI
  flat : TypeId → Bool

/-- What holds when the body began. -/
structure Env where
  w : World
  h : List SB
  ρ : Rho
  nt : Nat
  df : List Deferred
  pins : List (Nat × Obj)

/-- Blocks for the deferred calls of rounds: they hold none. -/
def mkD (D : Nat) : Deferred := { target := .collected D, args := #[] }
def MarksOk (B : Nat) (Ds : List Nat) (w : World) : Prop := Ds.Nodup ∧ ∀ D ∈ Ds, B ≤ D ∧ w.heap[D]? = some (.deferred (some []))

/-- Blocks that are no cells, and stay. -/
def PinsOk (ps : List (Nat × Obj)) (w : World) : Prop := ∀ p ∈ ps, w.heap[p.1]? = some p.2 ∧ p.2.isCells = false

structure SatR (e : Env) (σ : St) (ρ : Rho) (a : Act) (w : World) : Prop where
  base : e.h.length = σ.nm.base ∧ e.ρ.n = e.h.length
  defers : (∃ Ds : List Nat, a.defers = Ds.map mkD ++ e.df ∧ MarksOk e.w.heap.size Ds w) ∧ PinsOk e.pins w
  size : a.tmps.size = e.nt
  step : Step e.h e.ρ e.w σ.hp ρ w
  tm : ∀ (t : Nat) (s : SV), look t σ.tm = some s → ∃ y, a.tmps[t]? = some y ∧ s.rel ρ y

def Sat (e : Env) (σ : St) (a : Act) (w : World) : Prop := ∃ ρ, SatR e σ ρ a w

/-- Operations in a given order; those that bear 'true' leave all blocks that are there. -/
def wpL (P : Program) (all : List Oper) (Q : Exit → Act → World → Prop) : List (Oper × Bool) → Act → World → Prop
  | [], a, w => Q .normal a w
  | (o, b) :: r, a, w =>
    if Region.wanted o (yielded all.toArray a.tmps) then o.wp P a w (fun a' w' => (b = true → Ext (fun _ => False) w w') ∧ wpL P all Q r a' w') Q
    else wpL P all Q r (a.put o.dst undef) w

def contQ (P : Program) (e : Env) : List KI → (Exit → Act → World → Prop) → Exit → Act → World → Prop
  | [], Q => Q
  | .code c :: k, Q => Exit.then (c.wp P (contQ P e k Q)) (contQ P e k Q)
  | .ops all l :: k, Q => Exit.then (wpL P all (contQ P e k Q) l) (contQ P e k Q)
  | .blk id :: k, Q => Exit.inBlock id (contQ P e k Q)
  | .scp :: k, Q => Exit.noGoto (contQ P e k Q)
  | .lp J :: k, Q => Exit.then (fun a w => ∃ σ, Sat e σ a w ∧ J σ) (contQ P e k Q)
  | .rnd n c :: k, Q => Exit.then (Code.rounds P c (contQ P e k Q) n) (contQ P e k Q)

def hatQ (e : Env) (Q : XE → St → Prop) : Exit → Act → World → Prop
  | .normal, a, w => ∃ σ, Sat e σ a w ∧ Q .normal σ
  | .ret, a, w => ∃ σ, Sat e σ a w ∧ Q .ret σ
  | .exit id, a, w => ∃ σ, Sat e σ a w ∧ Q (.exit id) σ
  | .panic ch, a, w => ∃ σ, Sat e σ a w ∧ Q (.panic ch) σ
  | _, _, _ => False

def dstOk (nt : Nat) (o : Oper) : Bool := match o.dst with
  | some d => decide (d < nt)
  | none => true

def codeOk (nt : Nat) : Code → Bool
  | .region _ ops _ => ops.toList.all (dstOk nt)
  | .seq a b => codeOk nt a && codeOk nt b
  | .cond _ a b => codeOk nt a && codeOk nt b
  | .block _ a => codeOk nt a
  | .scope a => codeOk nt a
  | .loop a => codeOk nt a
  | .rangeFunc _ ps a b => ps.toList.all (fun p => decide (p < nt)) && codeOk nt a && codeOk nt b
  | _ => true

def KI.ok (nt : Nat) : KI → Prop
  | .code c => codeOk nt c = true
  | .ops _ l => ∀ p ∈ l, dstOk nt p.1 = true
  | .rnd _ c => codeOk nt c = true
  | _ => True

def LoopGoal (P : Program) (c : Code) (k : List KI) (σ : St) (Q : XE → St → Prop) : Prop :=
  ∀ (e : Env) (a : Act) (w : World), codeOk e.nt c = true → (∀ i ∈ k, i.ok e.nt) → Sat e σ a w → (Code.loop c).wp P (contQ P e k (hatQ e Q)) a w

def DrawGoal (P : Program) (id : Nat) (ops : Array Oper) (k : List KI) (σ : St) (Q : XE → St → Prop) : Prop :=
  ∀ (e : Env) (a : Act) (w : World), (∀ o ∈ ops.toList, dstOk e.nt o = true) → (∀ i ∈ k, i.ok e.nt) → Sat e σ a w → (Code.region id ops true).wp P (contQ P e k (hatQ e Q)) a w

/-- A range over a function. -/
def RangeGoal (P : Program) (f : Operand) (ps : Array Tmp) (asg body : Code) (k : List KI) (σ : St) (Q : XE → St → Prop) : Prop :=
  ∀ (e : Env) (a : Act) (w : World), codeOk e.nt (Code.rangeFunc f ps asg body) = true → (∀ i ∈ k, i.ok e.nt) → Sat e σ a w → (Code.rangeFunc f ps asg body).wp P (contQ P e k (hatQ e Q)) a w

abbrev XN := List KI → St → (XE → St → Prop) → Prop

def mask (h : List SB) : List SB := h.map fun b => { b with own := false }

/-! ### Less may be known, and by other names -/
/-- All windows named are among those. -/
def SC.ids (p : Nat → Bool) : SC → Bool
  | .ptr i _ => p i
  | .sl i _ _ _ => p i
  | .fn _ caps => caps.all fun q => p q.1
  | _ => true

def SC.ren (r : Nat → Nat) : SC → SC
  | .any => .any
  | .v x => .v x
  | .ptr i o => .ptr (r i) o
  | .sl i o n c => .sl (r i) o n c
  | .fn f caps => .fn f (caps.map fun p => (r p.1, p.2))
  | .ro cs n c => .ro cs n c
  | .rp cs => .rp cs

def SV.ids (p : Nat → Bool) : SV → Bool
  | .c x => x.ids p
  | .agg xs => xs.all (SC.ids p)
  | .tup xs => xs.all fun q => q.2.all (SC.ids p)
  | .und _ x => x.ids p

def SV.ren (r : Nat → Nat) : SV → SV
  | .c x => .c (x.ren r)
  | .agg xs => .agg (xs.map (SC.ren r))
  | .tup xs => .tup (xs.map fun p => (p.1, p.2.map (SC.ren r)))
  | .und g x => .und g (x.ren r)

/-- Where a window of the new state comes from. -/
def srcW (π : List (Option Nat)) (k : Nat) : Nat := match π[k]? with
  | some (some i) => i
  | _ => 0
def isW (π : List (Option Nat)) (k : Nat) : Bool := match π[k]? with
  | some (some _) => true
  | _ => false

/-- A cell 's' is as good as 't' says. -/
def leC (π : List (Option Nat)) (s t : SC) : Prop :=
  (t.ids (isW π) = true ∧ s = t.ren (srcW π)) ∨ t = .any ∨ (∃ i o, t = .sl i o 0 0 ∧ (s = .v (.slice none 0 0) ∨ (∃ i' o', s = .sl i' o' 0 0) ∨ ∃ cs, s = .ro cs 0 0))

def leP (π : List (Option Nat)) : List SC → List SC → Prop
  | [], [] => True
  | s :: ss, t :: ts => leC π s t ∧ leP π ss ts
  | _, _ => False

def leL (π : List (Option Nat)) (ss ts : List SC) : Prop := ((ts.all (SC.ids (isW π))) = true ∧ ss = ts.map (SC.ren (srcW π))) ∨ leP π ss ts

def leT (π : List (Option Nat)) : List (Bool × List SC) → List (Bool × List SC) → Prop
  | [], [] => True
  | (b, xs) :: r, (b', ys) :: r' => b = b' ∧ leP π xs ys ∧ leT π r r'
  | _, _ => False

def leS (π : List (Option Nat)) : SV → SV → Prop
  | .c x, .c y => leC π x y
  | .agg xs, .agg ys => leP π xs ys
  | .tup xs, .tup ys => leT π xs ys
  | _, _ => False

def leV (π : List (Option Nat)) (s t : SV) : Prop := (t.ids (isW π) = true ∧ s = t.ren (srcW π)) ∨ leS π s t

def wkHp (π0 : List (Option Nat)) (h : List SB) : List (Option Nat) → List SB → Prop
  | [], [] => True
  | none :: π, bt :: ht => (bt.own = false ∧ bt.cells = []) ∧ wkHp π0 h π ht
  | some i :: π, bt :: ht => (match h[i]? with
    | some b => leL π0 b.cells bt.cells ∧ (bt.own = true → b.own = true ∧ b.ty = bt.ty)
    | none => False) ∧ wkHp π0 h π ht
  | _, _ => False

/-- The first windows stay where they are; no two come from one. -/
def piBase (B : Nat) : Nat → List (Option Nat) → Bool
  | k, [] => decide (B ≤ k)
  | k, some i :: π => (bif decide (k < B) then i == k else decide (B ≤ i)) && !(π.contains (some i)) && piBase B (k + 1) π
  | k, none :: π => decide (B ≤ k) && piBase B (k + 1) π

def wkTm (π : List (Option Nat)) (tm : List (Nat × SV)) : List (Nat × SV) → Prop
  | [] => True
  | (t, s) :: r => (match look t tm with
    | some s' => leV π s' s
    | none => False) ∧ wkTm π tm r

/-- What is known in 'σ' is known in 'τ', its windows by other names. -/
structure Wk (π : List (Option Nat)) (σ τ : St) : Prop where
  nm : σ.nm = τ.nm
  pi : piBase σ.nm.base 0 π = true
  hp : wkHp π σ.hp π τ.hp
  tm : wkTm π σ.tm τ.tm

/-- From here on; or from a state of which less is known. -/
def XWk (xn : XN) (k : List KI) (σ : St) (Q : XE → St → Prop) : Prop := xn k σ Q ∨ ∃ τ, (∀ (e : Env) (a : Act) (w : World), Sat e σ a w → Sat e τ a w) ∧ xn k τ Q

def CallGoal (P : Program) (xn : XN) (f : FuncId) (args : List SV) (dst : Option Tmp) (k : List KI) (σ : St) (Q : XE → St → Prop) : Prop :=
  (∃ K, Spec P f args σ.hp K ∧ ∀ s h', K s h' → XWk xn k ⟨σ.nm, put dst s σ.tm, h'⟩ Q) ∨ ∃ ch, SpecP P f args σ.hp ch ∧ Q (.panic ch) σ

/-- A call that leaves all blocks. -/
def CallGoalB (P : Program) (xn : XN) (f : FuncId) (args : List SV) (dst : Option Tmp) (k : List KI) (σ : St) (Q : XE → St → Prop) : Prop :=
  ∃ K, Spec P f args (mask σ.hp) K ∧ ∀ s h', K s h' → xn k ⟨σ.nm, put dst s σ.tm, σ.hp ++ h'.drop σ.hp.length⟩ Q

def XBr (xn : XN) (b : Bool) (kA kB : List KI) (σA σB : St) (Q : XE → St → Prop) : Prop :=
  (b = true → xn kA σA Q) ∧ (b = false → xn kB σB Q)

def XApp (xn : XN) (need cap : Nat) (dst : Option Tmp) (k : List KI) (nm : NB) (tm : List (Nat × SV)) (room : SV × List SB) (grow : Nat → SV × List SB) (Q : XE → St → Prop) : Prop :=
  (need ≤ cap → XWk xn k ⟨nm, put dst room.1 tm, room.2⟩ Q) ∧ (cap < need → ∀ c, need ≤ c → c ≤ maxLen → XWk xn k ⟨nm, put dst (grow c).1 tm, (grow c).2⟩ Q)

def XConv (xn : XN) (n : Nat) (dst : Option Tmp) (k : List KI) (nm : NB) (tm : List (Nat × SV)) (grow : Nat → SV × List SB) (Q : XE → St → Prop) : Prop :=
  ∀ c, n ≤ c → c ≤ maxLen → xn k ⟨nm, put dst (grow c).1 tm, (grow c).2⟩ Q

/-- The slot of a guard, and which Bool is wanted. -/
def guardSlot (all : List Oper) (o : Oper) : Option (Tmp × Bool) :=
  match o.guard with
  | some (j, want) => match all[j]? with
    | some ⟨some t, _, _, _, _, _⟩ => some (t, want)
    | _ => none
  | none => none

def guardVal (tm : List (Nat × SV)) : Option (Tmp × Bool) → Option Bool
  | some (t, want) => match look t tm with
    | some (.c (.v (.bool b))) => some (bif want then b else !b)
    | some (.und g (.v (.bool b))) => some (g && (bif want then b else !b))
    | _ => none
  | none => none

def drop (d : Option Nat) (tm : List (Nat × SV)) : List (Nat × SV) :=
  match d with
  | none => tm
  | some t => go t tm
where go (t : Nat) : List (Nat × SV) → List (Nat × SV)
  | [] => []
  | (u, x) :: r => bif t == u then go t r else (u, x) :: go t r

def undV (g : Bool) : SV → SV
  | .c x => .und g x
  | s => s

def isC : SV → Bool
  | .c _ => true
  | .agg _ => false
  | .tup _ => false
  | .und _ _ => false

def isStore : Op → Bool
  | .store .. => true
  | _ => false

/-- Does an operation of this kind leave all blocks that are there? -/
def leaves : Op → Bool
  | .store .. => false
  | .call { callee := .builtin .append, .. } => false
  | .call { callee := .builtin .copy, .. } => false
  | .move _ | .assign _ | .pick .. | .alloc _ | .box .. | .build .. | .buildSlice .. | .load .. | .nilCheck _ | .binOp .. | .unOp .. => true
  | .convert s d _ => s != d
  | .makeFunc .. | .makeSlice .. | .slice .. | .fieldAddr .. | .field .. | .indexAddr .. | .index .. | .extract .. | .makeInterface .. => true
  | .call { callee := .builtin .len, .. } | .call { callee := .builtin .cap, .. } | .call { callee := .builtin .min, .. } | .call { callee := .builtin .max, .. } => true
  | _ => false

def andR (p : Prop) : OR → OR
  | .val q s => .val (p ∧ q) s
  | .mem q s h => .mem (p ∧ q) s h
  | .app q need cap room grow => .app (p ∧ q) need cap room grow
  | .conv q n grow => .conv (p ∧ q) n grow
  | .call q f args => .call (p ∧ q) f args
  | .bad => .bad

def opE (cx : Cx) (g : Bool) (hp : List SB) (op : Op) : Option (Prop × List SV) → OR
  | some (p, ss) => andR p (opR cx.T cx.flat hp op ss)
  | none => .bad

def pickE (c : Option (Prop × SV)) (a b : Option (Prop × SV)) : OR :=
  match c, a, b with
  | some (p, .c (.v (.bool t))), some (q, .c (.v (.bool x))), some (r, .c (.v (.bool y))) => .val (p ∧ q ∧ r) (.c (.v (.bool (bif t then x else y))))
  | some (p, .c (.v (.bool t))), none, some (r, y) => .val (p ∧ t = false ∧ r) y
  | some (p, .c (.v (.bool t))), some (q, x), none => .val (p ∧ t = true ∧ q) x
  | some (p, .c (.v (.bool t))), some (q, x), some (_, .c .any) => .val (p ∧ t = true ∧ q) x
  | _, _, _ => .bad

def boolOf : Option (Prop × SV) → Bool
  | some (_, .c (.v (.bool t))) => t
  | _ => false

/-- An operation's outcome, its operands looked up; where 'g' holds. -/
def opG (cx : Cx) (g : Bool) (σ : St) (op : Op) : OR :=
  match op with
  | .pick c a b => pickE (ev g σ.tm c) (ev (g && boolOf (ev g σ.tm c)) σ.tm a) (ev (g && !boolOf (ev g σ.tm c)) σ.tm b)
  | op => opE cx g σ.hp op (evs g σ.tm op.operands.toList)

/-- One operation that is carried out. -/
def stepR (P : Program) (xn : XN) (ben : Bool) (o : Oper) (k : List KI) (σ : St) (Q : XE → St → Prop) : OR → Prop
  | .val p s => p ∧ xn k ⟨σ.nm, put o.dst s σ.tm, σ.hp⟩ Q
  | .mem p s h => p ∧ (ben = true → leaves o.op = true) ∧ xn k ⟨σ.nm, bif isStore o.op then drop o.dst σ.tm else put o.dst s σ.tm, h⟩ Q
  | .app p need cap room grow => p ∧ ben = false ∧ XApp xn need cap o.dst k σ.nm σ.tm room grow Q
  | .conv p n grow => p ∧ XConv xn n o.dst k σ.nm σ.tm grow Q
  | .call p f args => p ∧ bif ben then CallGoalB P xn f args o.dst k σ Q else CallGoal P xn f args o.dst k σ Q
  | .bad => False

/-- What an operation that is not wanted leaves. -/
def skipV : SV := .und false (.v (.bool false))

theorem skip_rel {ρ : Rho} : skipV.rel ρ undef := ⟨(fun h => by cases h), (fun _ => rfl)⟩

/-- One operation under a guard. -/
def stepU (P : Program) (xn : XN) (g : Bool) (ben : Bool) (o : Oper) (all : List Oper) (r : List (Oper × Bool)) (k : List KI) (σ : St) (Q : XE → St → Prop) : OR → Prop
  | .val p s => bif isC s then (g = true → p) ∧ xn (.ops all r :: k) ⟨σ.nm, put o.dst (undV g s) σ.tm, σ.hp⟩ Q
      else XBr xn g (.ops all (({ o with guard := none }, ben) :: r) :: k) (.ops all r :: k) σ ⟨σ.nm, put o.dst skipV σ.tm, σ.hp⟩ Q
  | .mem _ _ _ => XBr xn g (.ops all (({ o with guard := none }, ben) :: r) :: k) (.ops all r :: k) σ ⟨σ.nm, put o.dst skipV σ.tm, σ.hp⟩ Q
  | .app _ _ _ _ _ => XBr xn g (.ops all (({ o with guard := none }, ben) :: r) :: k) (.ops all r :: k) σ ⟨σ.nm, put o.dst skipV σ.tm, σ.hp⟩ Q
  | .conv _ _ _ => XBr xn g (.ops all (({ o with guard := none }, ben) :: r) :: k) (.ops all r :: k) σ ⟨σ.nm, put o.dst skipV σ.tm, σ.hp⟩ Q
  | .call _ _ _ => XBr xn g (.ops all (({ o with guard := none }, ben) :: r) :: k) (.ops all r :: k) σ ⟨σ.nm, put o.dst skipV σ.tm, σ.hp⟩ Q
  | .bad => g = false ∧ xn (.ops all r :: k) ⟨σ.nm, put o.dst skipV σ.tm, σ.hp⟩ Q

def stepX (cx : Cx) (xn : XN) : List KI → St → (XE → St → Prop) → Prop
  | [], σ, Q => Q .normal σ
  | .code .skip :: k, σ, Q => xn k σ Q
  | .code (.region _ ops false) :: k, σ, Q => xn (.ops ops.toList (ops.toList.map fun o => (o, false)) :: k) ⟨σ.nm, trim σ.nm.nm σ.tm, σ.hp⟩ Q
  | .code (.region id ops true) :: k, σ, Q => DrawGoal cx.P id ops k ⟨σ.nm, trim σ.nm.nm σ.tm, σ.hp⟩ Q
  | .code (.seq a b) :: k, σ, Q => xn (.code a :: .code b :: k) σ Q
  | .code (.cond c a b) :: k, σ, Q => match ev true σ.tm c with
    | some (p, .c (.v (.bool t))) => p ∧ XBr xn t (.code a :: k) (.code b :: k) σ σ Q
    | _ => False
  | .code (.block id c) :: k, σ, Q => xn (.code c :: .blk id :: k) σ Q
  | .code (.scope c) :: k, σ, Q => xn (.code c :: .scp :: k) σ Q
  | .code (.loop c) :: k, σ, Q => LoopGoal cx.P c k σ Q
  | .code (.exit id) :: k, σ, Q => match popTo id k with
    | some k' => xn k' σ Q
    | none => Q (.exit id) σ
  | .code .ret :: _, σ, Q => Q .ret σ
  | .code (.rangeFunc f ps asg body) :: k, σ, Q => RangeGoal cx.P f ps asg body k σ Q
  | .code _ :: _, _, _ => False
  | .ops _ [] :: k, σ, Q => xn k σ Q
  | .ops all ((o, ben) :: r) :: k, σ, Q => match o.guard with
    | none => stepR cx.P xn ben o (.ops all r :: k) σ Q (opG cx true σ o.op)
    | some _ => match guardVal σ.tm (guardSlot all o) with
      | some g => stepU cx.P xn g ben o all r k σ Q (opG cx g σ o.op)
      | none => False
  | .blk _ :: k, σ, Q => xn k σ Q
  | .scp :: k, σ, Q => xn k σ Q
  | .lp J :: _, σ, _ => J σ
  | .rnd 0 _ :: _, _, _ => False
  | .rnd (n + 1) c :: k, σ, Q => xn (.code c :: .rnd n c :: k) σ Q

def X (cx : Cx) : Nat → List KI → St → (XE → St → Prop) → Prop
  | 0, _, _, _ => False
  | n + 1, k, σ, Q => stepX cx (X cx n) k σ Q

section
variable {cx : Cx} {g : Bool} {nm : NB} {tm : List (Nat × SV)} {hp : List SB}
theorem G_0 {x} : opG cx g ⟨nm, tm, hp⟩ (.move x) = opE cx g hp (.move x) (evs g tm [x]) := rfl
theorem G_1 {x} : opG cx g ⟨nm, tm, hp⟩ (.assign x) = opE cx g hp (.assign x) (evs g tm [x]) := rfl
theorem G_2 {e} : opG cx g ⟨nm, tm, hp⟩ (.alloc e) = opE cx g hp (.alloc e) (evs g tm []) := rfl
theorem G_3 {e x} : opG cx g ⟨nm, tm, hp⟩ (.box e x) = opE cx g hp (.box e x) (evs g tm [x]) := rfl
theorem G_4 {t x} : opG cx g ⟨nm, tm, hp⟩ (.load t x) = opE cx g hp (.load t x) (evs g tm [x]) := rfl
theorem G_5 {t x y} : opG cx g ⟨nm, tm, hp⟩ (.store t x y) = opE cx g hp (.store t x y) (evs g tm [x, y]) := rfl
theorem G_6 {x} : opG cx g ⟨nm, tm, hp⟩ (.nilCheck x) = opE cx g hp (.nilCheck x) (evs g tm [x]) := rfl
theorem G_7 {o t x y u} : opG cx g ⟨nm, tm, hp⟩ (.binOp o t x y u) = opE cx g hp (.binOp o t x y u) (evs g tm [x, y]) := rfl
theorem G_8 {o t x} : opG cx g ⟨nm, tm, hp⟩ (.unOp o t x) = opE cx g hp (.unOp o t x) (evs g tm [x]) := rfl
theorem G_9 {s d x} : opG cx g ⟨nm, tm, hp⟩ (.convert s d x) = opE cx g hp (.convert s d x) (evs g tm [x]) := rfl
theorem G_10 {t x} : opG cx g ⟨nm, tm, hp⟩ (.makeInterface t x) = opE cx g hp (.makeInterface t x) (evs g tm [x]) := rfl
theorem G_11 {t x y} : opG cx g ⟨nm, tm, hp⟩ (.makeSlice t x y) = opE cx g hp (.makeSlice t x y) (evs g tm [x, y]) := rfl
theorem G_12 {t x f} : opG cx g ⟨nm, tm, hp⟩ (.fieldAddr t x f) = opE cx g hp (.fieldAddr t x f) (evs g tm [x]) := rfl
theorem G_13 {t x f} : opG cx g ⟨nm, tm, hp⟩ (.field t x f) = opE cx g hp (.field t x f) (evs g tm [x]) := rfl
theorem G_14 {t x y} : opG cx g ⟨nm, tm, hp⟩ (.indexAddr t x y) = opE cx g hp (.indexAddr t x y) (evs g tm [x, y]) := rfl
theorem G_15 {t x y} : opG cx g ⟨nm, tm, hp⟩ (.index t x y) = opE cx g hp (.index t x y) (evs g tm [x, y]) := rfl
theorem G_16 {x j} : opG cx g ⟨nm, tm, hp⟩ (.extract x j) = opE cx g hp (.extract x j) (evs g tm [x]) := rfl
theorem G_17 {t ps} : opG cx g ⟨nm, tm, hp⟩ (.build t ps) = opE cx g hp (.build t ps) (evs g tm (ps.toList.map (·.2)).toArray.toList) := rfl
theorem G_18 {t n ps} : opG cx g ⟨nm, tm, hp⟩ (.buildSlice t n ps) = opE cx g hp (.buildSlice t n ps) (evs g tm (ps.toList.map (·.2)).toArray.toList) := rfl
theorem G_19 {f a b} : opG cx g ⟨nm, tm, hp⟩ (.makeFunc f a b) = opE cx g hp (.makeFunc f a b) (evs g tm (a ++ b).toList) := rfl
theorem G_20 {t x l h m} : opG cx g ⟨nm, tm, hp⟩ (.slice t x l h m) = opE cx g hp (.slice t x l h m) (evs g tm (#[x] ++ l.toArray ++ h.toArray ++ m.toArray).toList) := rfl
theorem G_21 {f args ts} : opG cx g ⟨nm, tm, hp⟩ (.call ⟨.value f, args, ts⟩) = opE cx g hp (.call ⟨.value f, args, ts⟩) (evs g tm (#[f] ++ args).toList) := rfl
theorem G_22 {b args ts} : opG cx g ⟨nm, tm, hp⟩ (.call ⟨.builtin b, args, ts⟩) = opE cx g hp (.call ⟨.builtin b, args, ts⟩) (evs g tm (#[] ++ args).toList) := rfl
theorem G_pick {c a b} : opG cx g ⟨nm, tm, hp⟩ (.pick c a b) = pickE (ev g tm c) (ev (g && boolOf (ev g tm c)) tm a) (ev (g && !boolOf (ev g tm c)) tm b) := rfl
end

/-- What an operation reads of memory is the same. -/
def blkSame (w w' : World) : Value → Prop
  | .pointer (some a) => w'.heap[a.block]? = w.heap[a.block]?
  | .slice (some a) n _ => 0 < n → w'.heap[a.block]? = w.heap[a.block]?
  | _ => True

def Same (E : Operand → Value) (w w' : World) : Op → Prop
  | .load _ x => blkSame w w' (E x)
  | .convert _ _ x => blkSame w w' (E x)
  | _ => True

theorem Same.refl {E : Operand → Value} {w : World} {op : Op} : Same E w w op := by
  unfold Same blkSame
  split <;> first | trivial | (split <;> first | rfl | trivial | (intro _; rfl))

/-! ### One step at a time -/
section
variable {cx : Cx} {n : Nat} {k : List KI} {σ : St} {Q : XE → St → Prop}
theorem X_nil : X cx (n + 1) [] σ Q = Q .normal σ := rfl
theorem X_skip : X cx (n + 1) (.code .skip :: k) σ Q = X cx n k σ Q := rfl
theorem X_reg {id : Nat} {ops : Array Oper} {nm tm hp} : X cx (n + 1) (.code (.region id ops false) :: k) ⟨nm, tm, hp⟩ Q = X cx n (.ops ops.toList (ops.toList.map fun o => (o, false)) :: k) ⟨nm, trim nm.nm tm, hp⟩ Q := rfl
theorem X_dreg {id : Nat} {ops : Array Oper} {nm tm hp} : X cx (n + 1) (.code (.region id ops true) :: k) ⟨nm, tm, hp⟩ Q = DrawGoal cx.P id ops k ⟨nm, trim nm.nm tm, hp⟩ Q := rfl
theorem X_seq {a b : Code} : X cx (n + 1) (.code (.seq a b) :: k) σ Q = X cx n (.code a :: .code b :: k) σ Q := rfl
theorem X_cond {c : Operand} {a b : Code} : X cx (n + 1) (.code (.cond c a b) :: k) σ Q = match ev true σ.tm c with
    | some (p, .c (.v (.bool t))) => p ∧ XBr (X cx n) t (.code a :: k) (.code b :: k) σ σ Q
    | _ => False := rfl
theorem X_block {id : Nat} {c : Code} : X cx (n + 1) (.code (.block id c) :: k) σ Q = X cx n (.code c :: .blk id :: k) σ Q := rfl
theorem X_scope {c : Code} : X cx (n + 1) (.code (.scope c) :: k) σ Q = X cx n (.code c :: .scp :: k) σ Q := rfl
theorem X_loop {c : Code} : X cx (n + 1) (.code (.loop c) :: k) σ Q = LoopGoal cx.P c k σ Q := rfl
theorem X_exit {id : Nat} : X cx (n + 1) (.code (.exit id) :: k) σ Q = match popTo id k with
    | some k' => X cx n k' σ Q
    | none => Q (.exit id) σ := rfl
theorem X_ret : X cx (n + 1) (.code .ret :: k) σ Q = Q .ret σ := rfl
theorem X_rf {f : Operand} {ps : Array Tmp} {asg body : Code} : X cx (n + 1) (.code (.rangeFunc f ps asg body) :: k) σ Q = RangeGoal cx.P f ps asg body k σ Q := rfl
theorem X_ops_nil {all : List Oper} : X cx (n + 1) (.ops all [] :: k) σ Q = X cx n k σ Q := rfl
theorem X_op {all : List Oper} {dst op ty pos aft ben r} : X cx (n + 1) (.ops all ((⟨dst, op, ty, pos, aft, none⟩, ben) :: r) :: k) σ Q =
    stepR cx.P (X cx n) ben ⟨dst, op, ty, pos, aft, none⟩ (.ops all r :: k) σ Q (opG cx true σ op) := rfl
theorem X_opg {all : List Oper} {dst op ty pos aft g ben r} : X cx (n + 1) (.ops all ((⟨dst, op, ty, pos, aft, some g⟩, ben) :: r) :: k) σ Q =
    match guardVal σ.tm (guardSlot all ⟨dst, op, ty, pos, aft, some g⟩) with
    | some g' => stepU cx.P (X cx n) g' ben ⟨dst, op, ty, pos, aft, some g⟩ all r k σ Q (opG cx g' σ op)
    | none => False := rfl
theorem X_blk {id : Nat} : X cx (n + 1) (.blk id :: k) σ Q = X cx n k σ Q := rfl
theorem X_scp : X cx (n + 1) (.scp :: k) σ Q = X cx n k σ Q := rfl
theorem X_lp {J : St → Prop} : X cx (n + 1) (.lp J :: k) σ Q = J σ := rfl
theorem X_rnd {m : Nat} {c : Code} : X cx (n + 1) (.rnd (m + 1) c :: k) σ Q = X cx n (.code c :: .rnd m c :: k) σ Q := rfl
theorem XBr_t {xn : XN} {kA kB : List KI} {σA σB : St} : XBr xn true kA kB σA σB Q = xn kA σA Q := by simp [XBr]
theorem XBr_f {xn : XN} {kA kB : List KI} {σA σB : St} : XBr xn false kA kB σA σB Q = xn kB σB Q := by simp [XBr]
end

end Go.Proofs.Ythbojoiogjdbeaa.Sx
