/- A machine of values: what Go's code does, told over plain trees, lists that a call owns and boxes. Definitions alone. No condition. -/
import Derived.Laws.CopyRow
import Derived.Laws.IdiomCopy
import Derived.Laws.AppendOwn
import Derived.Below
import Derived.Deep.LoopGhost
import Derived.Laws.BytesArg
import Derived.Laws.BytesString
import Derived.Laws.MakeOwn
import Derived.Lib.ConvBytes
namespace Go.Proofs.Ytbmdncjnnlajnaa.M
open Go

/-- Plain values: numbers, bools, strings, lists (of elements of sz cells each), structs (their cells). -/
inductive T where
  | int (k : IntKind) (n : Int)
  | bool (b : Bool)
  | str (s : ByteArray)
  | list (sz : Nat) (es : List T)
  | agg (cs : List T)

def T.cells : T → List T
  | .agg cs => cs
  | x => [x]
def flat (es : List T) : List T := es.flatMap T.cells
def T.scal : T → Bool
  | .list .. | .agg .. => false
  | _ => true
/-- No list stands in the elements. -/
def Sc (es : List T) : Prop := ∀ t ∈ flat es, t.scal = true

/-- What one slot's cell may hold. -/
inductive C where
  | undef
  | t (x : T)
  | nil (sz : Nat)
  | nilp
  | own (id ver off len : Nat)
  | ptr (id off : Nat)
  | eptr (id ver idx sub : Nat)
  | vptr (sz : Nat) (es : List T) (idx sub : Nat)
  | fn (f : FuncId)

inductive A where
  | c (x : C)
  | g (cs : List C)
inductive AV where
  | a (x : A)
  | tup (xs : List A)

def A.cells : A → List C
  | .c x => [x]
  | .g cs => cs

inductive Blk where
  | arr (sz : Nat) (es : List T) (ver : Nat)
  | froz (sz : Nat) (es : List T) (ver : Nat)
  | box (cs : List C)

def find {α : Type} : List (Nat × α) → Nat → Option α
  | [], _ => none
  | (k, v) :: r, i => if k == i then some v else find r i
def put {α : Type} : List (Nat × α) → Nat → α → List (Nat × α)
  | [], i, v => [(i, v)]
  | (k, x) :: r, i, v => if k == i then (i, v) :: r else (k, x) :: put r i v

/-- The state of a call: its slots, its own blocks, the next block's number. -/
structure St where
  tm : List (Nat × AV)
  hp : List (Nat × Blk)
  nx : Nat
  N : Nat

def St.get (s : St) (t : Nat) : AV := (find s.tm t).getD (.a (.c .undef))
def St.set (s : St) (d : Option Nat) (v : AV) : St := match d with | some d => if d < s.N then { s with tm := put s.tm d v } else s | none => s
def St.upd (s : St) : List (Nat × Blk) → St
  | [] => s
  | (i, b) :: r => St.upd { s with hp := put s.hp i b } r

/-! ### Types -/
inductive TK where
  | int (k : IntKind) | bool | str | slice (e : Nat) | array (n e : Nat) | struct (fs : List (Nat × Nat)) | ptr (e : Nat) | other
structure TD where
  sz : Nat
  bytes : Nat
  z : List C
  k : TK
abbrev Tab := List (Nat × TD)
def TD.none : TD := ⟨0, 0, [], .other⟩
def tg (τ : Tab) (t : Nat) : TD := (find τ t).getD TD.none
def TD.ag (d : TD) : Bool := match d.k with | .array .. | .struct .. => true | _ => false
def TD.el (d : TD) : Nat := match d.k with | .slice e | .array _ e | .ptr e => e | _ => 0

def ofValue (sz : Nat) : Value → AV
  | .int k n => .a (.c (.t (.int k n)))
  | .bool b => .a (.c (.t (.bool b)))
  | .string s => .a (.c (.t (.str s)))
  | .slice none 0 0 => .a (.c (.nil sz))
  | .pointer none => .a (.c .nilp)
  | _ => .a (.c .undef)
def St.eval (τ : Tab) (s : St) (t : Nat) : Operand → AV
  | .tmp i => s.get i
  | .const v => ofValue (tg τ (tg τ t).el).sz v
  | .func f => .a (.c (.fn f))
  | .global _ => .a (.c .undef)

/-! ### Numbers -/
def binT (op : BinOp) (x y : T) (K : T → Prop) : Prop :=
  match x, y with
  | .int k a, .int k' b => match op with
    | .shl => 0 ≤ b ∧ K (.int k (k.wrap (a * 2 ^ (min b.toNat k.bits))))
    | .shr => 0 ≤ b ∧ K (.int k (a.fdiv (2 ^ (min b.toNat k.bits))))
    | op => k = k' ∧ match op with
      | .add => K (.int k (k.wrap (a + b)))
      | .sub => K (.int k (k.wrap (a - b)))
      | .mul => K (.int k (k.wrap (a * b)))
      | .quo => b ≠ 0 ∧ K (.int k (k.wrap (a.tdiv b)))
      | .rem => b ≠ 0 ∧ K (.int k (a.tmod b))
      | .and => K (.int k (k.wrap ((BitVec.ofInt k.bits a &&& BitVec.ofInt k.bits b).toNat)))
      | .or => K (.int k (k.wrap ((BitVec.ofInt k.bits a ||| BitVec.ofInt k.bits b).toNat)))
      | .xor => K (.int k (k.wrap ((BitVec.ofInt k.bits a ^^^ BitVec.ofInt k.bits b).toNat)))
      | .eql => K (.bool (a == b))
      | .neq => K (.bool (a != b))
      | .lss => K (.bool (decide (a < b)))
      | .leq => K (.bool (decide (a ≤ b)))
      | .gtr => K (.bool (decide (a > b)))
      | .geq => K (.bool (decide (a ≥ b)))
      | _ => False
  | .str a, .str b => match op with
    | .add => a.size + b.size ≤ 9223372036854775807 ∧ K (.str (a ++ b))
    | .eql => K (.bool (a.toList == b.toList))
    | .neq => K (.bool (!(a.toList == b.toList)))
    | .lss => K (.bool (Op.bytesLess a.toList b.toList))
    | .leq => K (.bool (Op.bytesLess a.toList b.toList || a.toList == b.toList))
    | .gtr => K (.bool (!(Op.bytesLess a.toList b.toList || a.toList == b.toList)))
    | .geq => K (.bool (!(Op.bytesLess a.toList b.toList)))
    | _ => False
  | .bool a, .bool b => match op with
    | .eql => K (.bool (a == b))
    | .neq => K (.bool (!(a == b)))
    | _ => False
  | _, _ => False

/-! ### Reading and writing of parts -/
def sealC : C → Option T
  | .t x => some x
  | .nil sz => some (.list sz [])
  | _ => none
def sealL : List C → Option (List T)
  | [] => some []
  | c :: r => match sealC c, sealL r with | some x, some xs => some (x :: xs) | _, _ => none
/-- A value that holds nothing of the call's own, as a plain value. -/
def sealA : A → Option T
  | .c x => sealC x
  | .g cs => (sealL cs).map T.agg
def openT : T → A
  | .agg cs => .g (cs.map C.t)
  | x => .c (.t x)

/-- A list of the call's own, live or frozen. -/
def arrOf (hp : List (Nat × Blk)) (i v : Nat) : Option (Nat × List T) :=
  match find hp i with
  | some (.arr sz es v') => if v == v' then some (sz, es) else none
  | some (.froz sz es v') => if v == v' then some (sz, es) else none
  | _ => none
def verOf (hp : List (Nat × Blk)) (i : Nat) : Nat :=
  match find hp i with
  | some (.arr _ _ v) => v
  | some (.froz _ _ v) => v
  | _ => 0
/-- A list as a plain list, whoever holds it. -/
def listOf (hp : List (Nat × Blk)) : C → Option (Nat × List T)
  | .t (.list sz es) => some (sz, es)
  | .nil sz => some (sz, [])
  | .own i v o n => (arrOf hp i v).map fun x => (x.1, (x.2.drop o).take n)
  | _ => none

/-- The cells of a part as a value of a type. -/
def partK (d : TD) (cs : List C) (off : Nat) (K : A → Prop) : Prop :=
  if d.ag then (off + d.sz ≤ cs.length ∧ K (.g ((cs.drop off).take d.sz))) else match cs[off]? with | some c => K (.c c) | none => False
def splice {α : Type} (l : List α) (off : Nat) (n : List α) : List α := l.take off ++ n ++ l.drop (off + n.length)

/-! ### Calls -/
/-- A box's cell between calls: a plain value, or a list that the box owns. -/
inductive BC where
  | t (x : T)
  | nil (sz : Nat)
  | arr (sz : Nat) (es : List T)
inductive AA where
  | v (x : T)
  | nilp
  | mb (cs : List BC)

end Go.Proofs.Ytbmdncjnnlajnaa.M
