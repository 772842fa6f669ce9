/- A machine of values: what Go's code does, told over plain trees, lists that a call owns and boxes. Definitions alone. No condition. -/
import Derived.Laws.CopyRow
import Derived.Laws.IdiomCopy
import Derived.Laws.AppendOwn
import Derived.Below
import Derived.Deep.LoopGhost
import Derived.Laws.BytesArg
import Derived.Laws.BytesString
import Derived.Laws.MakeOwn
import Derived.Lib.ConvBytes
import Derived.Laws.Pointers
/- A machine of values: what Go's code does, told over plain trees, lists that a call owns and boxes. Definitions alone. No condition. -/
namespace Go.Proofs.YtbmibaopkfenbaaDoor.M
open Go

/-- A slice value. -/
structure Sl where
  q : Option Addr
  n : Nat
  c : Nat
def Sl.v (x : Sl) : Value := .slice x.q x.n x.c
/-- Plain values: numbers, bools, strings, lists (of elements of sz cells each), structs (their cells); raw: a slice that is carried as it is. -/
inductive T where
  | int (k : IntKind) (n : Int)
  | bool (b : Bool)
  | str (s : ByteArray)
  | list (sz : Nat) (es : List T)
  | agg (cs : List T)
  | nilp
  | nils (sz : Nat)
  | bx (cs : List T)
  | raw (x : Sl)

def T.cells : T → List T
  | .agg cs => cs
  | x => [x]
def flat (es : List T) : List T := es.flatMap T.cells
def T.scal : T → Bool
  | .list .. | .agg .. | .bx .. | .nilp | .nils _ => false
  | _ => true
/-- No list stands in the elements. -/
def Sc (es : List T) : Prop := ∀ t ∈ flat es, t.scal = true

/-- What one slot's cell may hold. -/
inductive C where
  | undef
  | t (x : T)
  | nil (sz : Nat)
  | nilp
  | own (id ver off len : Nat)
  | ptr (id off : Nat)
  | eptr (id ver idx sub : Nat)
  | vptr (sz : Nat) (es : List T) (idx sub : Nat)
  | fn (f : FuncId)
  | clo (f : FuncId) (i : Nat)
  | mvo (k : Bool) (id ver len : Nat)

inductive A where
  | c (x : C)
  | g (cs : List C)
inductive AV where
  | a (x : A)
  | tup (xs : List A)

def A.cells : A → List C
  | .c x => [x]
  | .g cs => cs

inductive Blk where
  | arr (sz : Nat) (es : List T) (ver : Nat)
  | froz (sz : Nat) (es : List T) (ver : Nat)
  | box (cs : List C)

def find {α : Type} : List (Nat × α) → Nat → Option α
  | [], _ => none
  | (k, v) :: r, i => if k = i then some v else find r i
def put {α : Type} : List (Nat × α) → Nat → α → List (Nat × α)
  | [], i, v => [(i, v)]
  | (k, x) :: r, i, v => if k = i then (i, v) :: r else (k, x) :: put r i v

/-- The state of a call: its slots, its own blocks, the next block's number. -/
structure St where
  tm : List (Nat × AV)
  hp : List (Nat × Blk)
  nx : Nat
  N : Nat

def St.get (s : St) (t : Nat) : AV := (find s.tm t).getD (.a (.c .undef))
def St.set (s : St) (d : Option Nat) (v : AV) : St := match d with | some d => if d < s.N then { s with tm := (d, v) :: s.tm } else s | none => s
def St.upd (s : St) : List (Nat × Blk) → St
  | [] => s
  | (i, b) :: r => St.upd { s with hp := put s.hp i b } r

/-! ### Types -/
inductive TK where
  | int (k : IntKind) | bool | str | slice (e : Nat) | array (n e : Nat) | struct (fs : List (Nat × Nat)) | ptr (e : Nat) | other
structure TD where
  sz : Nat
  bytes : Nat
  z : List C
  k : TK
abbrev Tab := List (Nat × TD)
def TD.none : TD := ⟨0, 0, [], .other⟩
def tg (τ : Tab) (t : Nat) : TD := (find τ t).getD TD.none
def TD.ag (d : TD) : Bool := match d.k with | .array .. | .struct .. => true | _ => false
def TD.el (d : TD) : Nat := match d.k with | .slice e | .array _ e | .ptr e => e | _ => 0

def ofValue (sz : Nat) : Value → AV
  | .int k n => .a (.c (.t (.int k n)))
  | .bool b => .a (.c (.t (.bool b)))
  | .string s => .a (.c (.t (.str s)))
  | .slice none 0 0 => .a (.c (.nil sz))
  | .pointer none => .a (.c .nilp)
  | _ => .a (.c .undef)
def St.eval (τ : Tab) (s : St) (t : Nat) : Operand → AV
  | .tmp i => s.get i
  | .const v => ofValue (tg τ (tg τ t).el).sz v
  | .func f => .a (.c (.fn f))
  | .global _ => .a (.c .undef)

/-! ### Numbers -/
def andI (k : IntKind) (a b : Int) : Int := k.wrap ((BitVec.ofInt k.bits a &&& BitVec.ofInt k.bits b).toNat)
def orI (k : IntKind) (a b : Int) : Int := k.wrap ((BitVec.ofInt k.bits a ||| BitVec.ofInt k.bits b).toNat)
def xorI (k : IntKind) (a b : Int) : Int := k.wrap ((BitVec.ofInt k.bits a ^^^ BitVec.ofInt k.bits b).toNat)
def binT (op : BinOp) (x y : T) (K : T → Prop) : Prop :=
  match x, y with
  | .int k a, .int k' b => match op with
    | .shl => 0 ≤ b ∧ K (.int k (k.wrap (a * 2 ^ (min b.toNat k.bits))))
    | .shr => 0 ≤ b ∧ K (.int k (a.fdiv (2 ^ (min b.toNat k.bits))))
    | op => k = k' ∧ match op with
      | .add => K (.int k (k.wrap (a + b)))
      | .sub => K (.int k (k.wrap (a - b)))
      | .mul => K (.int k (k.wrap (a * b)))
      | .quo => b ≠ 0 ∧ K (.int k (k.wrap (a.tdiv b)))
      | .rem => b ≠ 0 ∧ K (.int k (a.tmod b))
      | .and => K (.int k (andI k a b))
      | .or => K (.int k (orI k a b))
      | .xor => K (.int k (xorI k a b))
      | .eql => K (.bool (a == b))
      | .neq => K (.bool (a != b))
      | .lss => K (.bool (decide (a < b)))
      | .leq => K (.bool (decide (a ≤ b)))
      | .gtr => K (.bool (decide (a > b)))
      | .geq => K (.bool (decide (a ≥ b)))
      | _ => False
  | .str a, .str b => match op with
    | .add => a.size + b.size ≤ 9223372036854775807 ∧ K (.str (a ++ b))
    | .eql => K (.bool (a.toList == b.toList))
    | .neq => K (.bool (!(a.toList == b.toList)))
    | .lss => K (.bool (Op.bytesLess a.toList b.toList))
    | .leq => K (.bool (Op.bytesLess a.toList b.toList || a.toList == b.toList))
    | .gtr => K (.bool (!(Op.bytesLess a.toList b.toList || a.toList == b.toList)))
    | .geq => K (.bool (!(Op.bytesLess a.toList b.toList)))
    | _ => False
  | .bool a, .bool b => match op with
    | .eql => K (.bool (a == b))
    | .neq => K (.bool (!(a == b)))
    | _ => False
  | _, _ => False

/-! ### Reading and writing of parts -/
def sealC : C → Option T
  | .t x => some x
  | .nil sz => some (.list sz [])
  | .nilp => some .nilp
  | _ => none
def sealL : List C → Option (List T)
  | [] => some []
  | c :: r => match sealC c, sealL r with | some x, some xs => some (x :: xs) | _, _ => none
/-- A value that holds nothing of the call's own, as a plain value. -/
def sealA : A → Option T
  | .c x => sealC x
  | .g cs => (sealL cs).map T.agg
def openT : T → A
  | .agg cs => .g (cs.map C.t)
  | .nilp => .c .nilp
  | .nils sz => .c (.nil sz)
  | x => .c (.t x)

/-- A list of the call's own, live or frozen. -/
def arrOf (hp : List (Nat × Blk)) (i v : Nat) : Option (Nat × List T) :=
  match find hp i with
  | some (.arr sz es v') => if v == v' then some (sz, es) else none
  | some (.froz sz es v') => if v == v' then some (sz, es) else none
  | _ => none
def verOf (hp : List (Nat × Blk)) (i : Nat) : Nat :=
  match find hp i with
  | some (.arr _ _ v) => v
  | some (.froz _ _ v) => v
  | _ => 0
/-- A list as a plain list, whoever holds it. -/
def listOf (hp : List (Nat × Blk)) : C → Option (Nat × List T)
  | .t (.list sz es) => some (sz, es)
  | .nil sz => some (sz, [])
  | .own i v o n => (arrOf hp i v).map fun x => (x.1, (x.2.drop o).take n)
  | _ => none

/-- The cells of a part as a value of a type. -/
def partK (d : TD) (cs : List C) (off : Nat) (K : A → Prop) : Prop :=
  if d.ag then (off + d.sz ≤ cs.length ∧ K (.g ((cs.drop off).take d.sz))) else match cs[off]? with | some c => K (.c c) | none => False
def splice {α : Type} (l : List α) (off : Nat) (n : List α) : List α := l.take off ++ n ++ l.drop (off + n.length)

/-! ### Calls -/
/-- A box's cell between calls: a plain value, or a list that the box owns. -/
inductive BC where
  | t (x : T)
  | nil (sz : Nat)
  | arr (sz : Nat) (es : List T)
inductive AA where
  | v (x : T)
  | nilp
  | fn (f : FuncId)
  | mb (cs : List BC)
  | clo (f : FuncId) (cs : List BC)
  | mv (sz : Nat) (es : List T)
  | ln (sz : Nat) (es : List T)
/-- How a function is called: its lists are the caller's own; which arguments' lists go over to it (k), or are lent to it (k + 100). -/
structure Md where
  own : Bool
  mv : List Nat

end Go.Proofs.YtbmibaopkfenbaaDoor.M

/- A machine of values: the library's tables: what holds of the memory at all times. Definitions and first lemmas. No condition. -/
namespace Go.Proofs.YtbmibaopkfenbaaDoor.M
open Go
/-- The number of the variable uint64pow10, and what it holds. -/
def gno : Option Nat := some 1
def gtab : Array Value := (List.map (fun z : Int => Value.int .u64 z) [1, 10, 100, 1000, 10000, 100000, 1000000, 10000000, 100000000, 1000000000, 10000000000, 100000000000, 1000000000000, 10000000000000, 100000000000000, 1000000000000000, 10000000000000000, 100000000000000000, 1000000000000000000, 10000000000000000000]).toArray
def GB (b : Nat) : Prop := gno = some b
def GInv (w : World) : Prop := ∀ b, GB b → ∃ t f, w.heap[b]? = some (.cells gtab t f)
theorem GInv.lt {w : World} (h : GInv w) {b : Nat} (hb : GB b) : b < w.heap.size := by
  obtain ⟨t, f, h1⟩ := h b hb
  exact (Array.getElem?_eq_some_iff.1 h1).1
theorem GInv.stay {w w' : World} (h : GInv w) (hw : ∀ b, GB b → w'.heap[b]? = w.heap[b]?) : GInv w' := fun b hb => by rw [hw b hb]; exact h b hb
/-- What a call may look at holds the library's tables. -/
structure GOk (G : Nat → Prop) (w : World) : Prop where
  lt : ∀ b, G b → b < w.heap.size
  inv : GInv w
  gb : ∀ b, GB b → G b
end Go.Proofs.YtbmibaopkfenbaaDoor.M

/- A machine of values: what a call's contract says, what each operation does, what code does. Definitions alone. No condition. -/
namespace Go.Proofs.YtbmibaopkfenbaaDoor.M
open Go

/-! ### What holds a plain value -/
inductive Hold (S : Addr → Option Value) : T → Value → Prop where
  | int (k : IntKind) (n : Int) : Hold S (.int k n) (.int k n)
  | bool (b : Bool) : Hold S (.bool b) (.bool b)
  | str (s : ByteArray) : Hold S (.str s) (.string s)
  | nilp : Hold S .nilp (.pointer none)
  | raw (x : Sl) : Hold S (.raw x) x.v
  | nils (sz : Nat) : Hold S (.nils sz) (.slice none 0 0)
  | nil (sz : Nat) : Hold S (.list sz []) (.slice none 0 0)
  | list (sz : Nat) (es : List T) (a : Addr) (n c : Nat) (vs : List Value) (hn : n = es.length) (hc : n ≤ c) (hsz : ∀ e ∈ es, e.cells.length = sz)
      (hl : vs.length = (flat es).length) (hv : ∀ (j : Nat) v, vs[j]? = some v → S (a.add j) = some v) (h1 : ∀ v ∈ vs, v.oneCell' = true)
      (hh : ∀ (j : Nat) t v, (flat es)[j]? = some t → vs[j]? = some v → Hold S t v) : Hold S (.list sz es) (.slice (some a) n c)
  | agg (cs : List T) (vs : List Value) (hl : vs.length = cs.length) (h1 : ∀ v ∈ vs, v.oneCell' = true)
      (hh : ∀ (j : Nat) t v, cs[j]? = some t → vs[j]? = some v → Hold S t v) : Hold S (.agg cs) (.agg vs.toArray)

def HoldL (S : Addr → Option Value) (ts : List T) (vs : List Value) : Prop :=
  vs.length = ts.length ∧ (∀ v ∈ vs, v.oneCell' = true) ∧ ∀ (j : Nat) t v, ts[j]? = some t → vs[j]? = some v → Hold S t v

open Classical in
/-- The memory in some blocks. -/
noncomputable def inV (G : Nat → Prop) (w : World) : Addr → Option Value := fun a => if G a.block then w.cell? a else none

/-- A list in a block of its own: room cells from base on. -/
def ArrOk (S : Addr → Option Value) (w : World) (b base room sz : Nat) (es : List T) : Prop :=
  ∃ vs : List Value, HoldL S (flat es) vs ∧ (∀ (j : Nat) v, vs[j]? = some v → w.cell? ⟨b, base + j, none⟩ = some v) ∧ (∀ e ∈ es, e.cells.length = sz) ∧ vs.length ≤ room ∧
    ∀ j, j < room → (w.cell? ⟨b, base + j, none⟩).isSome = true ∧ w.frozen? ⟨b, base + j, none⟩ = false

def BCOk (S : Addr → Option Value) (w : World) : BC → Value → List Nat → Prop
  | .t x, v, r => r = [] ∧ Hold S x v ∧ v.oneCell' = true
  | .nil _, v, r => r = [] ∧ v = .slice none 0 0
  | .arr sz es, v, r => (r = [] ∧ es = [] ∧ ∃ q, v = .slice q 0 0) ∨
      ∃ b base room cap, r = [b] ∧ v = .slice (some ⟨b, base, none⟩) es.length cap ∧ es.length ≤ cap ∧ cap * sz ≤ room ∧ Sc es ∧ ArrOk S w b base room sz es
/-- A list that is lent: it stays in its place. -/
def LnOk (S : Addr → Option Value) (w : World) (sz : Nat) (es : List T) (v : Value) (r : List Nat) : Prop :=
  ∃ b base room cap, r = [b] ∧ v = .slice (some ⟨b, base, none⟩) es.length cap ∧ es.length ≤ cap ∧ cap * sz ≤ room ∧ Sc es ∧ ArrOk S w b base room sz es
def BCsOk (S : Addr → Option Value) (w : World) : List BC → List Value → List Nat → Prop
  | [], vs, r => vs = [] ∧ r = []
  | c :: cs, vs, r => ∃ v vs' r1 r2, vs = v :: vs' ∧ r = r1 ++ r2 ∧ BCOk S w c v r1 ∧ BCsOk S w cs vs' r2
def BoxOk (S : Addr → Option Value) (w : World) (b : Nat) (cs : List BC) (r : List Nat) : Prop :=
  ∃ vs : List Value, BCsOk S w cs vs r ∧ ∀ (j : Nat) v, vs[j]? = some v → w.cell? ⟨b, j, none⟩ = some v ∧ w.frozen? ⟨b, j, none⟩ = false

def ArgOk (S : Addr → Option Value) (w : World) : AA → Value → List Nat → Prop
  | .v x, v, r => r = [] ∧ Hold S x v
  | .nilp, v, r => r = [] ∧ v = .pointer none
  | .fn f, v, r => r = [] ∧ v = .func (.func f) #[] #[]
  | .mb cs, v, r => ∃ b r', r = b :: r' ∧ v = .pointer (some ⟨b, 0, none⟩) ∧ BoxOk S w b cs r'
  | .mv sz es, v, r => BCOk S w (.arr sz es) v r
  | .ln sz es, v, r => LnOk S w sz es v r
  | .clo f cs, v, r => ∃ b r', r = b :: r' ∧ v = .func (.func f) #[] #[.pointer (some ⟨b, 0, none⟩)] ∧ BoxOk S w b cs r'
def ArgsOk (S : Addr → Option Value) (w : World) : List AA → List Value → List Nat → Prop
  | [], vs, r => vs = [] ∧ r = []
  | x :: xs, vs, r => ∃ v vs' r1 r2, vs = v :: vs' ∧ r = r1 ++ r2 ∧ ArgOk S w x v r1 ∧ ArgsOk S w xs vs' r2
/-- What the boxes that were handed over hold behind the call. -/
def OutsOk (S : Addr → Option Value) (w : World) : List AA → List Value → List (List BC) → List Nat → Prop
  | [], _, os, r => os = [] ∧ r = []
  | .mb cs :: xs, v :: vs, os, r => ∃ o os' b r1 r2, os = o :: os' ∧ o.length = cs.length ∧ r = b :: r1 ++ r2 ∧ v = .pointer (some ⟨b, 0, none⟩) ∧ BoxOk S w b o r1 ∧ OutsOk S w xs vs os' r2
  | .clo f cs :: xs, v :: vs, os, r => ∃ o os' b r1 r2, os = o :: os' ∧ o.length = cs.length ∧ r = b :: r1 ++ r2 ∧ v = .func (.func f) #[] #[.pointer (some ⟨b, 0, none⟩)] ∧ BoxOk S w b o r1 ∧ OutsOk S w xs vs os' r2
  | .ln sz es :: xs, v :: vs, os, r => ∃ es' os' r1 r2, os = [.arr sz es'] :: os' ∧ es'.length = es.length ∧ r = r1 ++ r2 ∧ LnOk S w sz es' v r1 ∧ OutsOk S w xs vs os' r2
  | _ :: xs, _ :: vs, os, r => OutsOk S w xs vs os r
  | _ :: _, [], _, _ => False

def ResC (own : Bool) (S : Addr → Option Value) (w : World) (x : T) (v : Value) (r : List Nat) : Prop :=
  match own, x with
  | true, .list sz es => BCOk S w (.arr sz es) v r
  | _, x => r = [] ∧ Hold S x v
def ResCs (own : Bool) (S : Addr → Option Value) (w : World) : List T → List Value → List Nat → Prop
  | [], vs, r => vs = [] ∧ r = []
  | x :: xs, vs, r => ∃ v vs' r1 r2, vs = v :: vs' ∧ r = r1 ++ r2 ∧ ResC own S w x v r1 ∧ v.oneCell' = true ∧ ResCs own S w xs vs' r2
def ResA (own : Bool) (S : Addr → Option Value) (w : World) (x : T) (v : Value) (r : List Nat) : Prop :=
  match x with
  | .agg cs => ∃ vs : List Value, v = .agg vs.toArray ∧ ResCs own S w cs vs r
  | .bx cs => ∃ (b : Nat) (r' : List Nat) (vs : List Value), r = b :: r' ∧ v = .pointer (some ⟨b, 0, none⟩) ∧ ResCs own S w cs vs r' ∧ ∀ (j : Nat) v, vs[j]? = some v → w.cell? ⟨b, j, none⟩ = some v ∧ w.frozen? ⟨b, j, none⟩ = false
  | x => ResC own S w x v r
def ResL (own : Bool) (S : Addr → Option Value) (w : World) : List T → List Value → List Nat → Prop
  | [], vs, r => vs = [] ∧ r = []
  | x :: xs, vs, r => ∃ v vs' r1 r2, vs = v :: vs' ∧ r = r1 ++ r2 ∧ ResA own S w x v r1 ∧ ResL own S w xs vs' r2
def ResOk (own : Bool) (S : Addr → Option Value) (w : World) (rs : List T) (v : Value) (r : List Nat) : Prop :=
  match rs with
  | [x] => ResA own S w x v r
  | rs => ∃ vs : List Value, v = .tuple vs.toArray ∧ ResL own S w rs vs r

/-- What was there has not turned, but for some blocks. -/
structure Fr (bs : List Nat) (w w' : World) : Prop where
  os : w'.os = w.os
  tape : w'.tape = w.tape
  output : w'.output = w.output
  size : w.heap.size ≤ w'.heap.size
  block : ∀ k, k < w.heap.size → k ∉ bs → w'.heap[k]? = w.heap[k]?
  stay : ∀ a, (w.cell? a).isSome = true → (w'.cell? a).isSome = true
  unfr : ∀ a, (w.cell? a).isSome = true → w.frozen? a = false → w'.frozen? a = false

/-- A call that hands back. -/
def CallV (P : Program) (f : FuncId) (args : Array Value) (w : World) (R : Value → World → Prop) : Prop :=
  ((callFunc f args).run P w = .ok (.enter f args) w ∧ Calls P f args w fun e w' => ∃ v, e = .returned v ∧ R v w') ∨ ∃ v w', (callFunc f args).run P w = .ok (.value v) w' ∧ R v w'

/-- A function's contract: with these arguments it hands back these results, and leaves these boxes. own: its lists are new memory; else they may be others' too. -/
def CS (P : Program) (own : Bool) (f : FuncId) (args : List AA) (rs : List T) (os : List (List BC)) : Prop :=
  ∀ (G : Nat → Prop) (w : World) (vals : List Value) (bs : List Nat), ArgsOk (inV G w) w args vals bs → bs.Nodup → (∀ b ∈ bs, b < w.heap.size ∧ ¬ G b) → GOk G w →
    CallV P f vals.toArray w fun v w' => ∃ r1 r2, Fr bs w w' ∧ ResOk own (inV (fun b => G b ∨ (w.heap.size ≤ b ∨ b ∈ bs) ∧ b ∉ r1 ++ r2) w') w' rs v r1 ∧
      OutsOk (inV (fun b => G b ∨ (w.heap.size ≤ b ∨ b ∈ bs) ∧ b ∉ r1 ++ r2) w') w' args vals os r2 ∧ (r1 ++ r2).Nodup ∧ ∀ b ∈ r1 ++ r2, b < w'.heap.size ∧ (b ∈ bs ∨ w.heap.size ≤ b)

/-! ### Handing over -/
def readC (hp : List (Nat × Blk)) : C → Option T
  | .t x => some x
  | c => (listOf hp c).map fun x => .list x.1 x.2
def readL (hp : List (Nat × Blk)) : List C → Option (List T)
  | [] => some []
  | c :: r => match readC hp c, readL hp r with | some x, some xs => some (x :: xs) | _, _ => none
def readA (hp : List (Nat × Blk)) : A → Option T
  | .c x => readC hp x
  | .g cs => (readL hp cs).map T.agg
/-- The call's own lists that stand in a value: by a call whose results may share them they are frozen. -/
def ownsC : C → List Nat
  | .own i _ _ _ => [i]
  | _ => []
def freeze (hp : List (Nat × Blk)) : List Nat → List (Nat × Blk)
  | [] => []
  | i :: r => match find hp i with | some (.arr sz es v) => (i, .froz sz es v) :: freeze hp r | _ => freeze hp r
def bcK (hp : List (Nat × Blk)) (c : C) (K : BC → Prop) : Prop :=
  match c with
  | .t x => K (.t x)
  | .nil sz => K (.nil sz)
  | .own i v 0 n => match find hp i with
    | some (.arr sz es v') => if v == v' then n = es.length ∧ Sc es ∧ K (.arr sz es) else False
    | _ => False
  | _ => False
def bcsK (hp : List (Nat × Blk)) : List C → (List BC → Prop) → Prop
  | [], K => K []
  | c :: r, K => bcK hp c fun x => bcsK hp r fun xs => K (x :: xs)
/-- One argument: what the callee sees; what of the call's own it holds (in a box: the box and its lists). -/
def argK (hp : List (Nat × Blk)) (x : AV) (K : AA → List Nat → Prop) : Prop :=
  match x with
  | .a (.c (.ptr i 0)) => match find hp i with | some (.box cs) => bcsK hp cs fun ys => K (.mb ys) (i :: cs.flatMap ownsC) | _ => False
  | .a (.c .nilp) => K .nilp []
  | .a (.c (.fn f)) => K (.fn f) []
  | .a (.c (.mvo k i v n)) => bcK hp (.own i v 0 n) fun x => match x with | .arr sz es => (match k with | true => K (.mv sz es) [i] | false => 0 < es.length ∧ K (.ln sz es) [i]) | _ => False
  | .a (.c (.clo f i)) => match find hp i with | some (.box cs) => bcsK hp cs fun ys => K (.clo f ys) (i :: cs.flatMap ownsC) | _ => False
  | .a x => match readA hp x with | some y => K (.v y) [] | none => False
  | _ => False
def argsK (hp : List (Nat × Blk)) : List AV → (List AA → List Nat → Prop) → Prop
  | [], K => K [] []
  | x :: r, K => argK hp x fun a i => argsK hp r fun as is => K (a :: as) (i ++ is)
/-- Results: lists become the call's own (own) or stay as they are. -/
def impC (own : Bool) (n : Nat) (x : T) : C × List (Nat × Blk) :=
  match own, x with
  | true, .list sz es => (.own n 0 0 es.length, [(n, .arr sz es 0)])
  | _, x => (.t x, [])
def impCs (own : Bool) (n : Nat) : List T → List C × List (Nat × Blk)
  | [] => ([], [])
  | x :: xs => let a := impC own n x; let r := impCs own (n + a.2.length) xs; (a.1 :: r.1, a.2 ++ r.2)
def impA (own : Bool) (n : Nat) (x : T) : A × List (Nat × Blk) :=
  match x with
  | .agg cs => let r := impCs own n cs; (.g r.1, r.2)
  | .bx cs => let r := impCs own (n + 1) cs; (.c (.ptr n 0), (n, .box r.1) :: r.2)
  | .nilp => (.c .nilp, [])
  | x => let r := impC own n x; (.c r.1, r.2)
def impL (own : Bool) (n : Nat) : List T → List A × List (Nat × Blk)
  | [] => ([], [])
  | x :: xs => let a := impA own n x; let r := impL own (n + a.2.length) xs; (a.1 :: r.1, a.2 ++ r.2)
def impR (own : Bool) (n : Nat) (rs : List T) : AV × List (Nat × Blk) :=
  match rs with
  | [x] => let a := impA own n x; (.a a.1, a.2)
  | rs => let a := impL own n rs; (.tup a.1, a.2)
/-- A box behind a call: a list stays under its number where there was one. -/
def outC (own : Bool) (n : Nat) (c : C) (x : BC) : C × List (Nat × Blk) :=
  match x, c with
  | .t x, .own i v _ _ => (if own && !x.scal then .undef else .t x, [(i, .froz 0 [] (v + 1))])
  | .t x, _ => (if own && !x.scal then .undef else .t x, [])
  | .nil sz, .own i v _ _ => (.nil sz, [(i, .froz 0 [] (v + 1))])
  | .nil sz, _ => (.nil sz, [])
  | .arr sz es, .own i v _ _ => (.own i (v + 1) 0 es.length, [(i, .arr sz es (v + 1))])
  | .arr sz es, _ => (.own n 0 0 es.length, [(n, .arr sz es 0)])
def outCs (own : Bool) (n : Nat) : List C → List BC → List C × List (Nat × Blk)
  | c :: cs, x :: xs => let a := outC own n c x; let r := outCs own (n + a.2.length) cs xs; (a.1 :: r.1, a.2 ++ r.2)
  | _, _ => ([], [])
def outsK (own : Bool) (hp : List (Nat × Blk)) (n : Nat) : List AV → List (List BC) → List (Nat × Blk)
  | .a (.c (.ptr i 0)) :: xs, o :: os => match find hp i with
    | some (.box cs) => let a := outCs own n cs o; (i, .box a.1) :: a.2 ++ outsK own hp (n + a.2.length) xs os
    | _ => []
  | .a (.c (.clo _ i)) :: xs, o :: os => match find hp i with
    | some (.box cs) => let a := outCs own n cs o; (i, .box a.1) :: a.2 ++ outsK own hp (n + a.2.length) xs os
    | _ => []
  | .a (.c (.mvo true i v _)) :: xs, os => (i, .froz 0 [] (v + 1)) :: outsK own hp n xs os
  | .a (.c (.mvo false i v _)) :: xs, [.arr sz es] :: os => (i, .arr sz es v) :: outsK own hp n xs os
  | _ :: xs, os => outsK own hp n xs os
  | _, _ => []
def ownsA : AV → List Nat
  | .a x => x.cells.flatMap ownsC
  | _ => []
def nodupB : List Nat → Bool
  | [] => true
  | x :: r => !r.contains x && nodupB r

/-- Lists that go over, or are lent. -/
def tagC (k : Bool) : C → C
  | .own i v 0 n => .mvo k i v n
  | .nil sz => (match k with | true => .t (.nils sz) | false => .nil sz)
  | c => c
def tagV (b : Bool) (k : Bool) (x : AV) : AV :=
  match b, x with
  | true, .a (.c c) => .a (.c (tagC k c))
  | _, x => x
def tagL (mv : List Nat) (k : Nat) : List AV → List AV
  | [] => []
  | x :: r => tagV (mv.contains k || mv.contains (k + 100)) (mv.contains k) x :: tagL mv (k + 1) r
def callK' (P : Program) (md : Nat → Md) (f : FuncId) (hp : List (Nat × Blk)) (n : Nat) (xs : List AV) (K : AV → List (Nat × Blk) → Prop) : Prop :=
  argsK hp xs fun as is => if nodupB is && (xs.flatMap ownsA).all (fun i => !is.contains i) then ∃ rs os, CS P (md f).own f as rs os ∧
    let a := impR (md f).own n rs
    let u := a.2 ++ outsK (md f).own hp (n + a.2.length) xs os
    if decide (u.length ≤ 16) then K a.1 ((if (md f).own then [] else freeze hp (xs.flatMap ownsA)) ++ u) else False else False
def callK (P : Program) (md : Nat → Md) (f : FuncId) (hp : List (Nat × Blk)) (n : Nat) (xs : List AV) (K : AV → List (Nat × Blk) → Prop) : Prop := callK' P md f hp n (tagL (md f).mv 0 xs) K

end Go.Proofs.YtbmibaopkfenbaaDoor.M

/- A machine of values: what each operation does, what code does. Definitions alone. No condition. -/
namespace Go.Proofs.YtbmibaopkfenbaaDoor.M
open Go

abbrev AV.c (x : C) : AV := .a (.c x)
abbrev AV.t (x : T) : AV := .a (.c (.t x))
def C.there : C → Bool
  | .undef => false
  | _ => true
def sealK (a : A) (K : T → Prop) : Prop := match sealA a with | some x => K x | none => False
def place (τ : Tab) (d : TD) (i : Nat) : Option (Nat × Nat) :=
  match d.k with
  | .struct fs => fs[i]?
  | .array _ e => some (i * (tg τ e).sz, e)
  | _ => none
def fillK (τ : Tab) (s : St) (d : TD) : List (Nat × Operand) → List C → (List C → Prop) → Prop
  | [], cs, K => K cs
  | (i, x) :: r, cs, K => match place τ d i with
    | some (off, ft) => match s.eval τ ft x with
      | .a a => if a.cells.length == (tg τ ft).sz && decide (off + (tg τ ft).sz ≤ cs.length) && a.cells.all C.there then fillK τ s d r (splice cs off a.cells) K else False
      | _ => False
    | none => False
def litK (τ : Tab) (s : St) (e : Nat) : List (Nat × Operand) → List T → (List T → Prop) → Prop
  | [], es, K => K es
  | (i, x) :: r, es, K => match s.eval τ e x with
      | .a a => if a.cells.length == (tg τ e).sz && decide (i < es.length) then sealK a fun y => litK τ s e r (es.set i y) K else False
      | _ => False
def T.num : T → Int
  | .int _ n => n
  | _ => 0
/-- A byte list as a string. -/
def bytes : List T → ByteArray
  | es => ⟨((es.map T.num).map fun n => UInt8.ofNat n.toNat).toArray⟩
def isByte : T → Prop
  | .int .u8 _ => True
  | _ => False
def ofBytes (s : ByteArray) : List T := s.data.toList.map fun b => .int .u8 b.toNat
def intA : AV → Option Int
  | .a (.c (.t (.int _ n))) => some n
  | _ => none
def putCell (e : T) (sb : Nat) (ys : List T) : T :=
  match e with
  | .agg cs => .agg (splice cs sb ys)
  | _ => ys.getD 0 (.bool false)

/-- What stands behind an append: a list's elements, or a string's bytes. -/
def srcOf (τ : Tab) (hp : List (Nat × Blk)) (e u : Nat) (b : C) : Option (Nat × List T) :=
  match (tg τ u).k with
  | .slice e' => if e' == e then listOf hp b else none
  | .str => match (tg τ e).k, b with
    | .int .u8, .t (.str s) => some (1, ofBytes s)
    | _, _ => none
  | _ => none
/-- The bounds of a cut. -/
def cutK (lo hi : Option AV) (len : Nat) (K : Nat → Nat → Prop) : Prop :=
  match (match hi with | none => some (len : Int) | some h => intA h), (match lo with | none => some 0 | some l => intA l) with
  | some h, some l => 0 ≤ l ∧ l ≤ h ∧ h ≤ len ∧ K l.toNat h.toNat
  | _, _ => False

/-- Zeros behind nothing. -/
def zerosK (τ : Tab) (n e u : Nat) (m : Int) (K : AV → List (Nat × Blk) → Prop) : Prop :=
  match find τ e, (tg τ u).k with
  | some d, .int _ => sealK (if d.ag then .g d.z else .c (d.z.getD 0 .undef)) fun z => if decide (0 < d.sz) && (d.ag || d.sz == 1) then
    0 < m ∧ d.bytes * m ≤ 140737488355328 ∧ m < 9223372036854775808 ∧ K (.c (.own n 0 0 m.toNat)) [(n, .arr d.sz (List.replicate m.toNat z) 0)] else False
  | _, _ => False

def op (P : Program) (τ : Tab) (md : Nat → Md) (o : Oper) (s : St) (n : Nat) (K : AV → List (Nat × Blk) → Prop) : Prop :=
  match o.op with
  | .move x | .assign x => K (s.eval τ o.type x) []
  | .pick c a b => match s.eval τ 0 c, s.eval τ o.type a, s.eval τ o.type b with
    | .a (.c (.t (.bool c))), .a (.c (.t (.bool a))), .a (.c (.t (.bool b))) => K (.t (.bool (if c then a else b))) []
    | .a (.c (.t (.bool c))), a, b => (c = true → K a []) ∧ (c = false → K b [])
    | _, _, _ => False
  | .alloc t => match find τ t with | some d => K (.c (.ptr n 0)) [(n, .box d.z)] | none => False
  | .box t x => match s.eval τ t x with | .a a => if a.cells.all C.there then K (.c (.ptr n 0)) [(n, .box a.cells)] else False | _ => False
  | .build t ps => match find τ t with | some d => if d.ag then fillK τ s d ps.toList d.z fun cs => K (.a (.g cs)) [] else False | none => False
  | .buildSlice t len ps => match find τ t with
    | some ⟨_, _, _, .slice e⟩ => match find τ e with
      | some d => sealK (if d.ag then .g d.z else .c (d.z.getD 0 .undef)) fun z =>
        if decide (len * d.sz ≤ 16777216) && decide (0 < d.sz) && (d.ag || d.sz == 1) then litK τ s e ps.toList (List.replicate len z) fun es => K (.c (.own n 0 0 len)) [(n, .arr d.sz es 0)] else False
      | none => False
    | _ => False
  | .load t x => match find τ t, s.eval τ 0 x with
    | some d, .a (.c (.ptr i off)) => match find s.hp i with | some (.box cs) => partK d cs off fun a => K (.a a) [] | _ => False
    | some d, .a (.c (.eptr i v ix sb)) => match arrOf s.hp i v with
      | some (_, es) => match es[ix]? with | some e => partK d (e.cells.map C.t) sb fun a => K (.a a) [] | none => False
      | none => False
    | some d, .a (.c (.vptr _ es ix sb)) => match es[ix]? with | some e => partK d (e.cells.map C.t) sb fun a => K (.a a) [] | none => False
    | _, _ => False
  | .store t x y => match find τ t, s.eval τ 0 x, s.eval τ t y with
    | some d, .a (.c (.ptr i off)), .a a => match find s.hp i with
      | some (.box cs) => if a.cells.length == d.sz && decide (off + d.sz ≤ cs.length) && a.cells.all C.there then K (.c .undef) [(i, .box (splice cs off a.cells))] else False
      | _ => False
    | some d, .a (.c (.eptr i v ix sb)), .a a => match find s.hp i with
      | some (.arr sz es v') => if v == v' && a.cells.length == d.sz && decide (0 < d.sz) then match es[ix]?, sealL a.cells with
        | some e, some ys => sb + d.sz ≤ e.cells.length ∧ K (.c .undef) [(i, .arr sz (es.set ix (putCell e sb ys)) v')]
        | _, _ => False else False
      | _ => False
    | _, _, _ => False
  | .nilCheck x => match s.eval τ 0 x with
    | .a (.c (.ptr i o)) => match find s.hp i with | some (.box _) => K (.c (.ptr i o)) [] | _ => False
    | .a (.c (.vptr a b c d)) => K (.c (.vptr a b c d)) []
    | _ => False
  | .binOp op t x y yt => match s.eval τ t x, s.eval τ yt y with
    | .a (.c (.t (.bool a))), .a (.c (.t (.bool b))) => match (tg τ t).k with | .bool => binT op (.bool a) (.bool b) fun r => K (.t r) [] | _ => False
    | .a (.c (.t a)), .a (.c (.t b)) => binT op a b fun r => K (.t r) []
    | _, _ => False
  | .unOp op t x => match op, s.eval τ t x with
    | .not, .a (.c (.t (.bool b))) => K (.t (.bool (!b))) []
    | .neg, .a (.c (.t (.int k n))) => K (.t (.int k (k.wrap (0 - n)))) []
    | _, _ => False
  | .convert src dst x => match (tg τ src).k, (tg τ dst).k, s.eval τ src x with
    | .int _, .int k, .a (.c (.t (.int _ n))) => K (.t (.int k (k.wrap n))) []
    | .str, .str, .a (.c (.t (.str b))) => K (.t (.str b)) []
    | .slice e, .str, .a (.c x) => match (tg τ e).k, listOf s.hp x with
      | .int .u8, some (_, es) => (∀ b ∈ es, isByte b) ∧ K (.t (.str (bytes es))) []
      | _, _ => False
    | .str, .slice e, .a (.c (.t (.str b))) => match (tg τ e).k with
      | .int .u8 => K (.c (.own n 0 0 b.size)) [(n, .arr 1 (ofBytes b) 0)]
      | _ => False
    | _, _, _ => False
  | .makeSlice t l c => match find τ t, s.eval τ 0 l, s.eval τ 0 c with
    | some ⟨_, _, _, .slice e⟩, .a (.c (.t (.int _ l))), .a (.c (.t (.int _ c))) => match find τ e with
      | some d => sealK (if d.ag then .g d.z else .c (d.z.getD 0 .undef)) fun z => if decide (0 < d.sz) && (d.ag || d.sz == 1) then
        0 ≤ l ∧ l ≤ c ∧ d.bytes * c ≤ 140737488355328 ∧ c < 9223372036854775808 ∧ K (.c (.own n 0 0 l.toNat)) [(n, .arr d.sz (List.replicate l.toNat z) 0)] else False
      | none => False
    | _, _, _ => False
  | .slice t x lo hi none => match (tg τ t).k, s.eval τ t x with
    | .str, .a (.c (.t (.str b))) => cutK (lo.map (s.eval τ 0)) (hi.map (s.eval τ 0)) b.size fun l h => K (.t (.str (b.extract l h))) []
    | .slice e, .a (.c (.t (.list sz es))) => if sz == (tg τ e).sz then cutK (lo.map (s.eval τ 0)) (hi.map (s.eval τ 0)) es.length fun l h => K (.t (.list sz ((es.drop l).take (h - l)))) [] else False
    | .slice e, .a (.c (.own i v off len)) => match arrOf s.hp i v with
      | some (sz, _) => if sz == (tg τ e).sz then cutK (lo.map (s.eval τ 0)) (hi.map (s.eval τ 0)) len fun l h => K (.c (.own i v (off + l) (h - l))) [] else False
      | none => False
    | .slice _, .a (.c (.nil sz)) => cutK (lo.map (s.eval τ 0)) (hi.map (s.eval τ 0)) 0 fun _ _ => K (.c (.nil sz)) []
    | _, _ => False
  | .fieldAddr t x f => match (tg τ t).k, s.eval τ 0 x with
    | .struct fs, .a (.c c) => match fs[f]? with
      | some (fo, ft) => if decide (0 < (tg τ ft).sz) then match c with
        | .ptr i off => match find s.hp i with | some (.box _) => K (.c (.ptr i (off + fo))) [] | _ => False
        | .eptr i v ix sb => match arrOf s.hp i v with | some _ => K (.c (.eptr i v ix (sb + fo))) [] | none => False
        | .vptr sz es ix sb => K (.c (.vptr sz es ix (sb + fo))) []
        | _ => False
        else False
      | none => False
    | _, _ => False
  | .field t x f => match (tg τ t).k, s.eval τ t x with
    | .struct fs, .a (.g cs) => match fs[f]? with
      | some (fo, ft) => match find τ ft with | some d => partK d cs fo fun a => K (.a a) [] | none => False
      | none => False
    | _, _ => False
  | .indexAddr t x i => match (tg τ t).k, s.eval τ t x, intA (s.eval τ 0 i) with
    | .slice e, .a (.c (.t (.list sz es))), some i => if sz == (tg τ e).sz then 0 ≤ i ∧ i < es.length ∧ K (.c (.vptr sz es i.toNat 0)) [] else False
    | .slice e, .a (.c (.own j v off len)), some i => match arrOf s.hp j v with
      | some (sz, _) => if sz == (tg τ e).sz then 0 ≤ i ∧ i < len ∧ K (.c (.eptr j v (off + i.toNat) 0)) [] else False
      | none => False
    | .array m e, .a (.c (.ptr j off)), some i => match find s.hp j with
      | some (.box _) => 0 ≤ i ∧ i < m ∧ K (.c (.ptr j (off + i.toNat * (tg τ e).sz))) []
      | _ => False
    | _, _, _ => False
  | .index t x i => match (tg τ t).k, s.eval τ t x, intA (s.eval τ 0 i) with
    | .str, .a (.c (.t (.str b))), some i => 0 ≤ i ∧ i < b.size ∧ K (.t (.int .u8 (b.data.getD i.toNat 0).toNat)) []
    | _, _, _ => False
  | .extract x i => match s.eval τ 0 x with
    | .tup xs => match xs[i]? with | some a => K (.a a) [] | none => False
    | _ => False
  | .call ⟨.value f, xs, ts⟩ => match s.eval τ 0 f with
    | .a (.c (.fn f)) => if xs.toList.length == ts.toList.length then callK P md f s.hp n ((xs.toList.zip ts.toList).map fun x => s.eval τ x.2 x.1) K else False
    | .a (.c (.clo f i)) => if xs.toList.length == ts.toList.length then callK P md f s.hp n (((xs.toList.zip ts.toList).map fun x => s.eval τ x.2 x.1) ++ [.a (.c (.ptr i 0))]) K else False
    | _ => False
  | .makeFunc (.func f) xs ys => match xs.toList, ys.toList with
    | [], [] => K (.c (.fn f)) []
    | [], [y] => match s.eval τ 0 y with
      | .a (.c (.ptr i 0)) => match find s.hp i with | some (.box _) => K (.c (.clo f i)) [] | _ => False
      | _ => False
    | _, _ => False
  | .call ⟨.builtin .len, xs, ts⟩ => match xs.toList, ts.toList with
    | [x], [t] => match (tg τ t).k, s.eval τ t x with
      | .str, .a (.c (.t (.str b))) => K (.t (.int .i64 b.size)) []
      | .slice _, .a (.c (.t (.list _ es))) => K (.t (.int .i64 es.length)) []
      | .slice _, .a (.c (.nil _)) => K (.t (.int .i64 0)) []
      | .slice _, .a (.c (.own i v _ len)) => match arrOf s.hp i v with | some _ => K (.t (.int .i64 len)) [] | none => False
      | _, _ => False
    | _, _ => False
  | .call ⟨.builtin .append, xs, ts⟩ => match xs.toList, ts.toList with
    | [x, y], [t, u] =>
      match (tg τ t).k, s.eval τ t x, s.eval τ u y with
      | .slice e, .a (.c (.nil _)), .a (.c (.t (.int _ m))) => zerosK τ n e u m K
      | .slice e, .a (.c a), .a (.c b) => match find τ e, srcOf τ s.hp e u b with
        | some d, some (sz, fs) => if sz == d.sz && decide (0 < d.sz) && decide (0 < d.bytes) then match a with
          | .nil _ => (fs.length * d.bytes ≤ 140737488355328) ∧ K (.c (.own n 0 0 fs.length)) [(n, .arr sz fs 0)]
          | .own i v 0 len => match find s.hp i with
            | some (.arr sz' es v') => if v == v' && sz' == sz then len = es.length ∧ (es.length + fs.length) * d.bytes ≤ 140737488355328 ∧ K (.c (.own i (v + 1) 0 (len + fs.length))) [(i, .arr sz (es ++ fs) (v + 1))] else False
            | _ => False
          | _ => False
          else False
        | _, _ => False
      | _, _, _ => False
    | _, _ => False
  | .call ⟨.builtin .cap, xs, ts⟩ => match xs.toList, ts.toList with
    | [x], [t] => match (tg τ t).k, s.eval τ t x with
      | .slice _, .a (.c (.nil _)) => K (.t (.int .i64 0)) []
      | _, _ => False
    | _, _ => False
  | .call ⟨.builtin .min, xs, ts⟩ => match xs.toList, ts.toList with
    | [x, y], [t, u] => match s.eval τ t x, s.eval τ u y with
      | .a (.c (.t (.int k a))), .a (.c (.t (.int _ b))) => K (.t (.int k (min a b))) []
      | _, _ => False
    | _, _ => False
  | .call ⟨.builtin .max, xs, ts⟩ => match xs.toList, ts.toList with
    | [x, y], [t, u] => match s.eval τ t x, s.eval τ u y with
      | .a (.c (.t (.int k a))), .a (.c (.t (.int _ b))) => K (.t (.int k (max a b))) []
      | _, _ => False
    | _, _ => False
  | .call ⟨.builtin .copy, xs, ts⟩ => match xs.toList, ts.toList with
    | [x, y], [t, u] => match (tg τ t).k, s.eval τ t x, s.eval τ u y with
      | .slice e, .a (.c (.own i v off len)), .a (.c b) => match find s.hp i, listOf s.hp b with
        | some (.arr sz es v'), some (sz', fs) => if v == v' && sz == sz' && sz == (tg τ e).sz then K (.t (.int .i64 (fs.take len).length)) [(i, .arr sz (splice es off (fs.take len)) v)] else False
        | _, _ => False
      | _, _, _ => False
    | _, _ => False
  | _ => False

/-- The Bool that an operation of the region has left. -/
def yieldA (ops : Array Oper) (s : St) (j : Nat) : Option (Option Bool) :=
  match (ops[j]?).bind (·.dst) with
  | some d => match s.get d with | .a (.c (.t (.bool b))) => some (some b) | .tup [] => some none | _ => none
  | none => none
def isB (o : Option Bool) (w : Bool) : Bool := match o with | some b => b == w | none => false
def wantA (ops : Array Oper) (s : St) (o : Oper) : Option Bool :=
  match o.guard with
  | none => some true
  | some (j, w) => (yieldA ops s j).map (isB · w)
def WOps (P : Program) (τ : Tab) (md : Nat → Md) (ops : Array Oper) : List Oper → Nat → St → (St → Prop) → Prop
  | [], n, s, K => K { s with nx := n }
  | o :: r, n, s, K => match wantA ops s o with
    | some b => (b = true → op P τ md o s n fun v u => WOps P τ md ops r (n + 16) ((s.upd u).set o.dst v) K) ∧ (b = false → WOps P τ md ops r (n + 16) (s.set o.dst (.tup [])) K)
    | none => False

end Go.Proofs.YtbmibaopkfenbaaDoor.M

/- A machine of values: how its states stand to the machine's; what code does. Definitions and first lemmas. No condition. -/
namespace Go.Proofs.YtbmibaopkfenbaaDoor.M
open Go
set_option linter.unusedSimpArgs false
set_option linter.unusedVariables false

structure Pl where
  b : Nat
  base : Nat
  room : Nat
/-- What a call was handed: the blocks that its views may lie in, the world then, the blocks that are its own from then on; where they lie. -/
structure Ctx where
  G : Nat → Prop
  w0 : World
  bs0 : List Nat
  pin : Nat → Option Pl
  gi : GInv w0 ∧ ∀ b, GB b → G b ∧ b ∉ bs0

def Blk.live : Blk → Bool
  | .froz .. => false
  | _ => true
def live (hp : List (Nat × Blk)) (i : Nat) : Prop := ∃ b, find hp i = some b ∧ b.live = true

open Classical in
/-- The memory that is none of the call's own live blocks. -/
noncomputable def Sv (G : Nat → Prop) (hp : List (Nat × Blk)) (μ : Nat → Option Pl) (w : World) : Addr → Option Value :=
  fun a => if G a.block ∧ ¬ ∃ i p, live hp i ∧ μ i = some p ∧ p.b = a.block then w.cell? a else none

def SlOk (p : Option Pl) (sz off len : Nat) (v : Value) : Prop :=
  match p with
  | none => off = 0 ∧ len = 0 ∧ ∃ q, v = .slice q 0 0
  | some p => ∃ a cap, v = .slice (some a) len cap ∧ (a = ⟨p.b, p.base + off * sz, none⟩ ∨ cap = 0) ∧ len ≤ cap ∧ (off + cap) * sz ≤ p.room

def VpOk (S : Addr → Option Value) (sz : Nat) (es : List T) (a : Addr) : Prop :=
  ∃ vs : List Value, HoldL S (flat es) vs ∧ (∀ (j : Nat) v, vs[j]? = some v → S (a.add j) = some v) ∧ ∀ e ∈ es, e.cells.length = sz

def COk (al : Nat → Prop) (hp : List (Nat × Blk)) (S : Addr → Option Value) (μ : Nat → Option Pl) : C → Value → Prop
  | .undef, _ => True
  | .t x, v => Hold S x v ∧ v.oneCell' = true
  | .nil _, v => v = .slice none 0 0
  | .nilp, v => v = .pointer none
  | .own i ver off len, v => (al i ∧ ver ≤ verOf hp i) ∧ v.oneCell' = true ∧ ∀ sz es, arrOf hp i ver = some (sz, es) → off + len ≤ es.length ∧ SlOk (μ i) sz off len v
  | .ptr i off, v => al i ∧ v.oneCell' = true ∧ ∀ cs, find hp i = some (.box cs) → ∃ p, μ i = some p ∧ v = .pointer (some ⟨p.b, off, none⟩)
  | .eptr i ver ix sb, v => (al i ∧ ver ≤ verOf hp i) ∧ v.oneCell' = true ∧ ∀ sz es, arrOf hp i ver = some (sz, es) → ∃ p, μ i = some p ∧ v = .pointer (some ⟨p.b, p.base + ix * sz + sb, none⟩)
  | .vptr sz es ix sb, v => ∃ a, v = .pointer (some (a.add (ix * sz + sb))) ∧ VpOk S sz es a
  | .fn f, v => v = .func (.func f) #[] #[]
  | .mvo _ i ver len, v => (al i ∧ ver ≤ verOf hp i) ∧ v.oneCell' = true ∧ ∀ sz es, arrOf hp i ver = some (sz, es) → 0 + len ≤ es.length ∧ SlOk (μ i) sz 0 len v
  | .clo f i, v => al i ∧ v.oneCell' = true ∧ ∀ cs, find hp i = some (.box cs) → ∃ p, μ i = some p ∧ v = .func (.func f) #[] #[.pointer (some ⟨p.b, 0, none⟩)]

def CsOk (al : Nat → Prop) (hp : List (Nat × Blk)) (S : Addr → Option Value) (μ : Nat → Option Pl) (cs : List C) (vs : List Value) : Prop :=
  vs.length = cs.length ∧ (∀ v ∈ vs, v.oneCell' = true) ∧ ∀ (j : Nat) c v, cs[j]? = some c → vs[j]? = some v → COk al hp S μ c v
def AOk (al : Nat → Prop) (hp : List (Nat × Blk)) (S : Addr → Option Value) (μ : Nat → Option Pl) : A → Value → Prop
  | .c x, v => COk al hp S μ x v
  | .g cs, v => ∃ vs : List Value, v = .agg vs.toArray ∧ CsOk al hp S μ cs vs
def AVOk (al : Nat → Prop) (hp : List (Nat × Blk)) (S : Addr → Option Value) (μ : Nat → Option Pl) : AV → Value → Prop
  | .a x, v => AOk al hp S μ x v
  | .tup xs, v => ∃ vs : List Value, v = .tuple vs.toArray ∧ vs.length = xs.length ∧ ∀ (j : Nat) x v, xs[j]? = some x → vs[j]? = some v → AOk al hp S μ x v

def BlkOk (al : Nat → Prop) (hp : List (Nat × Blk)) (S : Addr → Option Value) (μ : Nat → Option Pl) (w : World) : Blk → Option Pl → Prop
  | .arr _ es _, none => es = []
  | .arr sz es _, some p => ArrOk S w p.b p.base p.room sz es
  | .froz _ es _, none => es = []
  | .froz sz es _, some p => VpOk S sz es ⟨p.b, p.base, none⟩
  | .box _, none => False
  | .box cs, some p => p.base = 0 ∧ ∃ vs : List Value, CsOk al hp S μ cs vs ∧ ∀ (j : Nat) v, vs[j]? = some v → w.cell? ⟨p.b, j, none⟩ = some v ∧ w.frozen? ⟨p.b, j, none⟩ = false

/-- The call's own memory. -/
structure Mem (Γ : Ctx) (al : Nat → Prop) (hp : List (Nat × Blk)) (w : World) (μ : Nat → Option Pl) : Prop where
  fr : Fr Γ.bs0 Γ.w0 w
  gd : ∀ b, b ∈ Γ.bs0 ∨ Γ.w0.heap.size ≤ b → Γ.G b
  pin : ∀ i q, Γ.pin i = some q → al i ∧ (∀ cs, find hp i = some (.box cs) → ∃ p, μ i = some p ∧ p.b = q.b) ∧ ∀ sz es, arrOf hp i 0 = some (sz, es) → μ i = some q
  used : ∀ i b, find hp i = some b → al i
  mine : ∀ i p, live hp i → μ i = some p → p.b < w.heap.size ∧ (p.b ∈ Γ.bs0 ∨ Γ.w0.heap.size ≤ p.b)
  inj : ∀ i j p q, live hp i → live hp j → μ i = some p → μ j = some q → p.b = q.b → i = j
  blk : ∀ i b, find hp i = some b → BlkOk al hp (Sv Γ.G hp μ w) μ w b (μ i)

structure Rel (Γ : Ctx) (al : Nat → Prop) (s : St) (a : Act) (w : World) (μ : Nat → Option Pl) : Prop where
  mem : Mem Γ al s.hp w μ
  size : a.tmps.size = s.N
  tmp : ∀ t, AVOk al s.hp (Sv Γ.G s.hp μ w) μ (s.get t) (a.tmps.getD t undef)
  defers : a.defers = []

inductive X where
  | normal | exit (i : Nat) | ret
def X.is : X → Exit → Prop
  | .normal, .normal => True
  | .exit i, .exit j => i = j
  | .ret, .ret => True
  | _, _ => False

/-- What code does, said of the machine. -/
def WW (P : Program) (c : Code) (s : St) (Q : X → St → Prop) : Prop :=
  ∀ (Γ : Ctx) (a : Act) (w : World) (μ : Nat → Option Pl), Rel Γ (· < s.nx) s a w μ →
    c.wp P (fun e a' w' => ∃ x s' μ', x.is e ∧ Q x s' ∧ Rel Γ (· < s'.nx) s' a' w' μ') a w

/-- What code does, reckoned as far as it goes: loops and drawn regions are left. -/
def W (P : Program) (τ : Tab) (md : Nat → Md) : Code → St → (X → St → Prop) → Prop
  | .skip, s, Q => Q .normal s
  | .ret, s, Q => Q .ret s
  | .exit i, s, Q => Q (.exit i) s
  | .seq a b, s, Q => W P τ md a s fun e s' => match e with | .normal => W P τ md b s' Q | .exit i => Q (.exit i) s' | .ret => Q .ret s'
  | .cond c a b, s, Q => match s.eval τ 0 c with
    | .a (.c (.t (.bool c))) => (c = true → W P τ md a s Q) ∧ (c = false → W P τ md b s Q)
    | _ => False
  | .block i a, s, Q => W P τ md a s fun e s' => match e with | .exit j => if j == i then Q .normal s' else Q (.exit j) s' | .normal => Q .normal s' | .ret => Q .ret s'
  | .region _ ops false, s, Q => WOps P τ md ops ops.toList s.nx s (Q .normal)
  | .region i ops true, s, Q => WW P (.region i ops true) s Q
  | .loop c, s, Q => WW P (.loop c) s Q
  | .rangeFunc .., _, _ => False
  | .scope _, _, _ => False
  | .label _, _, _ => False
  | .goto _, _, _ => False
  | .refuse _, _, _ => False

/-! ### First lemmas -/
theorem Hold.mono {S S' : Addr → Option Value} (hS : ∀ a v, S a = some v → S' a = some v) {x : T} {v : Value} (h : Hold S x v) : Hold S' x v := by
  induction h with
  | int k n => exact .int k n
  | bool b => exact .bool b
  | str s => exact .str s
  | nilp => exact .nilp
  | raw v => exact .raw v
  | nils sz => exact .nils sz
  | nil sz => exact .nil sz
  | list sz es a n c vs hn hc hsz hl hv h1 hh ih => exact .list sz es a n c vs hn hc hsz hl (fun j v h => hS _ _ (hv j v h)) h1 ih
  | agg cs vs hl h1 hh ih => exact .agg cs vs hl h1 ih
theorem HoldL.mono {S S' : Addr → Option Value} (hS : ∀ a v, S a = some v → S' a = some v) {x : List T} {v : List Value} (h : HoldL S x v) : HoldL S' x v :=
  ⟨h.1, h.2.1, fun j t v a b => (h.2.2 j t v a b).mono hS⟩
theorem VpOk.mono {S S' : Addr → Option Value} (hS : ∀ a v, S a = some v → S' a = some v) {sz : Nat} {es : List T} {a : Addr} (h : VpOk S sz es a) : VpOk S' sz es a := by
  obtain ⟨vs, h1, h2, h3⟩ := h
  exact ⟨vs, h1.mono hS, fun j v h => hS _ _ (h2 j v h), h3⟩
theorem Hold.scal {S S' : Addr → Option Value} {x : T} {v : Value} (h : Hold S x v) (hx : x.scal = true) : Hold S' x v := by
  cases h <;> first | (simp [T.scal] at hx; done) | constructor

/-- How one state of the memory goes over into the next. -/
structure Ext (al al' : Nat → Prop) (hp hp' : List (Nat × Blk)) (S S' : Addr → Option Value) (μ μ' : Nat → Option Pl) : Prop where
  hal : ∀ i, al i → al' i
  hS : ∀ a v, S a = some v → S' a = some v
  ver : ∀ i, al i → verOf hp i ≤ verOf hp' i
  arr : ∀ i ver sz es', al i → ver ≤ verOf hp i → arrOf hp' i ver = some (sz, es') → ∃ es, arrOf hp i ver = some (sz, es) ∧ es.length ≤ es'.length ∧ μ' i = μ i
  box : ∀ i cs', al i → find hp' i = some (.box cs') → ∃ cs, find hp i = some (.box cs) ∧ μ' i = μ i

section
variable {al al' : Nat → Prop} {hp hp' : List (Nat × Blk)} {S S' : Addr → Option Value} {μ μ' : Nat → Option Pl}
theorem COk.mono (e : Ext al al' hp hp' S S' μ μ') {c : C} {v : Value} (h : COk al hp S μ c v) : COk al' hp' S' μ' c v := by
  cases c with
  | undef => trivial
  | t x => exact ⟨h.1.mono e.hS, h.2⟩
  | nil sz => exact h
  | nilp => exact h
  | own i ver off len =>
    refine ⟨⟨e.hal _ h.1.1, Nat.le_trans h.1.2 (e.ver _ h.1.1)⟩, h.2.1, fun sz es' h' => ?_⟩
    obtain ⟨es, h1, h2, h3⟩ := e.arr _ _ _ _ h.1.1 h.1.2 h'
    obtain ⟨h4, h5⟩ := h.2.2 _ _ h1
    exact ⟨by omega, by rw [h3]; exact h5⟩
  | ptr i off =>
    refine ⟨e.hal _ h.1, h.2.1, fun cs' h' => ?_⟩
    obtain ⟨cs, h1, h3⟩ := e.box _ _ h.1 h'
    obtain ⟨p, h4, h5⟩ := h.2.2 _ h1
    exact ⟨p, by rw [h3]; exact h4, h5⟩
  | eptr i ver ix sb =>
    refine ⟨⟨e.hal _ h.1.1, Nat.le_trans h.1.2 (e.ver _ h.1.1)⟩, h.2.1, fun sz es' h' => ?_⟩
    obtain ⟨es, h1, h2, h3⟩ := e.arr _ _ _ _ h.1.1 h.1.2 h'
    obtain ⟨p, h4, h5⟩ := h.2.2 _ _ h1
    exact ⟨p, by rw [h3]; exact h4, h5⟩
  | vptr sz es ix sb =>
    obtain ⟨a, h1, h2⟩ := h
    exact ⟨a, h1, h2.mono e.hS⟩
  | fn f => exact h
  | mvo k i ver len =>
    refine ⟨⟨e.hal _ h.1.1, Nat.le_trans h.1.2 (e.ver _ h.1.1)⟩, h.2.1, fun sz es' h' => ?_⟩
    obtain ⟨es, h1, h2, h3⟩ := e.arr _ _ _ _ h.1.1 h.1.2 h'
    obtain ⟨h4, h5⟩ := h.2.2 _ _ h1
    exact ⟨by omega, by rw [h3]; exact h5⟩
  | clo f i =>
    refine ⟨e.hal _ h.1, h.2.1, fun cs' h' => ?_⟩
    obtain ⟨cs, h1, h3⟩ := e.box _ _ h.1 h'
    obtain ⟨p, h4, h5⟩ := h.2.2 _ h1
    exact ⟨p, by rw [h3]; exact h4, h5⟩
theorem CsOk.mono (e : Ext al al' hp hp' S S' μ μ') {cs : List C} {vs : List Value} (h : CsOk al hp S μ cs vs) : CsOk al' hp' S' μ' cs vs :=
  ⟨h.1, h.2.1, fun j c v a b => (h.2.2 j c v a b).mono e⟩
theorem AOk.mono (e : Ext al al' hp hp' S S' μ μ') {x : A} {v : Value} (h : AOk al hp S μ x v) : AOk al' hp' S' μ' x v := by
  cases x with
  | c x => exact COk.mono e h
  | g cs => obtain ⟨vs, h1, h2⟩ := h; exact ⟨vs, h1, h2.mono e⟩
theorem AVOk.mono (e : Ext al al' hp hp' S S' μ μ') {x : AV} {v : Value} (h : AVOk al hp S μ x v) : AVOk al' hp' S' μ' x v := by
  cases x with
  | a x => exact AOk.mono e h
  | tup xs => obtain ⟨vs, h1, h2, h3⟩ := h; exact ⟨vs, h1, h2, fun j x v a b => (h3 j x v a b).mono e⟩
end

theorem Mem.pin' {Γ : Ctx} {al al' : Nat → Prop} {hp hp' : List (Nat × Blk)} {w : World} {μ μ' : Nat → Option Pl} {S S' : Addr → Option Value} (h : Mem Γ al hp w μ) (e : Ext al al' hp hp' S S' μ μ') (i : Nat) (q : Pl) (hq : Γ.pin i = some q) :
    al' i ∧ (∀ cs, find hp' i = some (.box cs) → ∃ p, μ' i = some p ∧ p.b = q.b) ∧ ∀ sz es, arrOf hp' i 0 = some (sz, es) → μ' i = some q := by
  obtain ⟨h1, h2, h3⟩ := h.pin i q hq
  refine ⟨e.hal _ h1, fun cs hcs => ?_, fun sz es hA => ?_⟩
  · obtain ⟨cs0, h4, h5⟩ := e.box i cs h1 hcs; rw [h5]; exact h2 _ h4
  · obtain ⟨es0, h4, _, h5⟩ := e.arr i 0 sz es h1 (Nat.zero_le _) hA; rw [h5]; exact h3 _ _ h4
theorem find_put {α : Type} (l : List (Nat × α)) (i j : Nat) (v : α) : find (put l i v) j = if i = j then some v else find l j := by
  induction l with
  | nil => simp [put, find]
  | cons x r ih =>
    obtain ⟨k, y⟩ := x
    simp only [put]
    by_cases h : k = i
    · subst h
      simp only [if_true, find]
      by_cases h2 : k = j
      · simp [h2]
      · simp [h2]
    · simp only [h, if_false, find, ih]
      by_cases h2 : k = j
      · subst h2; simp; intro h3; exact absurd h3.symm h
      · simp [h2]

theorem get_set (s : St) (d : Option Nat) (v : AV) (t : Nat) : (s.set d v).get t = if d = some t ∧ t < s.N then v else s.get t := by
  unfold St.set St.get
  cases d with
  | none => simp
  | some d =>
    by_cases h : d < s.N
    · simp only [h, if_true, find]
      by_cases h2 : d = t
      · subst h2; simp [h]
      · simp [h2]
    · simp only [h, if_false]
      by_cases h2 : d = t
      · subst h2; simp [h]
      · simp [h2]

theorem Rel.set {Γ : Ctx} {al : Nat → Prop} {s : St} {a : Act} {w : World} {μ : Nat → Option Pl} (h : Rel Γ al s a w μ) (d : Option Nat) (x : AV) (v : Value)
    (hx : AVOk al s.hp (Sv Γ.G s.hp μ w) μ x v) : Rel Γ al (s.set d x) (a.put d v) w μ := by
  have hhp : (s.set d x).hp = s.hp := by unfold St.set; cases d <;> simp; split <;> rfl
  have hN : (s.set d x).N = s.N := by unfold St.set; cases d <;> simp; split <;> rfl
  refine ⟨by rw [hhp]; exact h.mem, ?_, ?_, ?_⟩
  · rw [hN, ← h.size]; cases d <;> simp [Act.put]
  · intro t
    rw [hhp, get_set]
    have := h.tmp t
    cases d with
    | none => simpa [Act.put] using this
    | some d =>
      simp only [Act.put, Option.some.injEq]
      by_cases h2 : d = t
      · subst h2
        by_cases h3 : d < s.N
        · have : d < a.tmps.size := by rw [h.size]; exact h3
          simp [h3, Array.getD, this, hx]
        · have : ¬ d < a.tmps.size := by rw [h.size]; exact h3
          simp [h3, Array.getD, this]
          simpa [Array.getD, this] using h.tmp d
      · have e : (a.tmps.setIfInBounds d v).getD t undef = a.tmps.getD t undef := by
          simp [Array.getD_eq_getD_getElem?, Array.getElem?_setIfInBounds, h2]
        rw [e]; simpa [h2] using this
  · cases d <;> simp [Act.put, h.defers]

end Go.Proofs.YtbmibaopkfenbaaDoor.M

/- A machine of values: types' facts, and how the memory goes over. No condition. -/
namespace Go.Proofs.YtbmibaopkfenbaaDoor.M
open Go
set_option linter.unusedSimpArgs false
set_option linter.unusedVariables false

/-! ### Types -/
def zOk : C → Value → Prop
  | .t (.int k n), .int k' n' => k = k' ∧ n = n'
  | .t (.bool b), .bool b' => b = b'
  | .t (.str s), .string s' => s = s'
  | .nil _, .slice none 0 0 => True
  | .nilp, .pointer none => True
  | _, _ => False
def kOk (P : Program) (τ : Tab) (t : Nat) (d : TD) : Prop :=
  match d.k with
  | .int k => P.underlying t = some (.int k)
  | .bool => P.underlying t = some .bool
  | .str => P.underlying t = some .string
  | .slice e => P.underlying t = some (.slice e) ∧ (find τ e).isSome = true
  | .array n e => P.underlying t = some (.array n e) ∧ (find τ e).isSome = true
  | .struct fs => (∃ F : Array Field, P.underlying t = some (.struct F) ∧ F.toList.map (fun f => (f.offset, f.type)) = fs) ∧ ∀ f ∈ fs, (find τ f.2).isSome = true
  | .ptr e => P.underlying t = some (.pointer e)
  | .other => ∃ x, P.underlying t = some x ∧ (match x with | .struct _ | .array _ _ => False | _ => True)
structure TDok (P : Program) (τ : Tab) (t : Nat) (d : TD) : Prop where
  info : ∃ i z, P.info? t = some i ∧ i.size = d.sz ∧ i.bytes = d.bytes ∧ i.zero = some z ∧ z.cells.size = d.sz ∧ d.z.length = d.sz ∧ (∀ v ∈ z.cells.toList, v.oneCell' = true) ∧
    ∀ (j : Nat) c v, d.z[j]? = some c → z.cells.toList[j]? = some v → zOk c v
  k : kOk P τ t d
def TOk (P : Program) (τ : Tab) : Prop := ∀ t d, find τ t = some d → TDok P τ t d

theorem tg_of_find {τ : Tab} {t : Nat} {d : TD} (h : find τ t = some d) : tg τ t = d := by simp [tg, h]
theorem find_of_k {τ : Tab} {t : Nat} (h : (tg τ t).k ≠ .other) : find τ t = some (tg τ t) := by
  unfold tg at *
  cases hh : find τ t with
  | none => rw [hh] at h; exact absurd rfl h
  | some d => rfl

section
variable {P : Program} {τ : Tab}
theorem run_sizeOf' (hτ : TOk P τ) (w : World) {t : Nat} {d : TD} (h : find τ t = some d) : (sizeOf t).run P w = .ok d.sz w := by
  obtain ⟨i, z, h1, h2, _⟩ := (hτ t d h).info
  simp [sizeOf, typeInfo, h1, h2]
theorem run_isAgg' (hτ : TOk P τ) (w : World) {t : Nat} {d : TD} (h : find τ t = some d) : (isAgg t).run P w = .ok d.ag w := by
  have hk := (hτ t d h).k
  unfold kOk at hk
  unfold TD.ag
  cases hd : d.k <;> simp only [hd] at hk ⊢
  case struct fs => obtain ⟨⟨F, h1, _⟩, _⟩ := hk; simp [isAgg, run_underlying h1]
  case other =>
    obtain ⟨x, h1, h2⟩ := hk
    simp only [isAgg, Sem.run_bind, run_underlying h1, Result.andThen_ok]
    cases x <;> first | (simp at h2; done) | rfl
  case slice e => simp [isAgg, run_underlying hk.1]
  case array n e => simp [isAgg, run_underlying hk.1]
  all_goals simp [isAgg, run_underlying hk]
end

/-! ### Memory -/
theorem Fr.refl (bs : List Nat) (w : World) : Fr bs w w := ⟨rfl, rfl, rfl, Nat.le_refl _, fun _ _ _ => rfl, fun _ h => h, fun _ _ h => h⟩
theorem Fr.of (w w' : World) (bs : List Nat) (h1 : w'.os = w.os) (h2 : w'.tape = w.tape) (h3 : w'.output = w.output) (h4 : w.heap.size ≤ w'.heap.size) (h5 : ∀ k, k < w.heap.size → w'.heap[k]? = w.heap[k]?) : Fr bs w w' :=
  ⟨h1, h2, h3, h4, fun k hk _ => h5 k hk, fun a ha => by
    obtain ⟨v, hv⟩ := Option.isSome_iff_exists.1 ha
    rw [World.cell?_of_block (h5 _ (World.block_lt_of_cell? _ _ hv))]; exact ha, fun a ha hf => by
    obtain ⟨v, hv⟩ := Option.isSome_iff_exists.1 ha
    rw [World.frozen?_of_block (h5 _ (World.block_lt_of_cell? _ _ hv))]; exact hf⟩
theorem Fr.trans {bs bs' : List Nat} {a b c : World} (h : Fr bs a b) (k : Fr bs' b c) (hb : ∀ k ∈ bs', k < a.heap.size → k ∈ bs) : Fr bs a c :=
  ⟨k.os.trans h.os, k.tape.trans h.tape, k.output.trans h.output, Nat.le_trans h.size k.size, fun i hi hn =>
    (k.block i (Nat.lt_of_lt_of_le hi h.size) (fun hh => hn (hb i hh hi))).trans (h.block i hi hn), fun x hx => k.stay x (h.stay x hx), fun x hx hf => k.unfr x (h.stay x hx) (h.unfr x hx hf)⟩
theorem Fr.alloc (w : World) (o : Obj) : Fr [] w (w.alloc o) :=
  Fr.of _ _ _ rfl rfl rfl (by simp) fun k hk => heap_alloc_old w o k hk
theorem Fr.drew (w : World) : Fr [] w w.drew := Fr.of _ _ _ rfl rfl rfl (Nat.le_refl _) fun _ _ => rfl
theorem Fr.cell {bs : List Nat} {w w' : World} (h : Fr bs w w') {a : Addr} (ha : a.block < w.heap.size) (hn : a.block ∉ bs) : w'.cell? a = w.cell? a := World.cell?_of_block (h.block _ ha hn)
theorem Fr.frozen {bs : List Nat} {w w' : World} (h : Fr bs w w') {a : Addr} (ha : a.block < w.heap.size) (hn : a.block ∉ bs) : w'.frozen? a = w.frozen? a := World.frozen?_of_block (h.block _ ha hn)

theorem setCells_size (b : Nat) : ∀ (vs : List Value) (o : Nat) (w : World), (w.setCells b o vs).heap.size = w.heap.size
  | [], _, _ => rfl
  | v :: r, o, w => by rw [World.setCells, setCells_size b r, World.size_setCell]
theorem setCells_os (b : Nat) : ∀ (vs : List Value) (o : Nat) (w : World), (w.setCells b o vs).os = w.os
  | [], _, _ => rfl
  | v :: r, o, w => by rw [World.setCells, setCells_os b r]; rfl
theorem setCells_tape (b : Nat) : ∀ (vs : List Value) (o : Nat) (w : World), (w.setCells b o vs).tape = w.tape
  | [], _, _ => rfl
  | v :: r, o, w => by rw [World.setCells, setCells_tape b r]; rfl
theorem setCells_output (b : Nat) : ∀ (vs : List Value) (o : Nat) (w : World), (w.setCells b o vs).output = w.output
  | [], _, _ => rfl
  | v :: r, o, w => by rw [World.setCells, setCells_output b r]; rfl
theorem setCells_block (b : Nat) {k : Nat} (hk : k ≠ b) : ∀ (vs : List Value) (o : Nat) (w : World), (w.setCells b o vs).heap[k]? = w.heap[k]?
  | [], _, _ => rfl
  | v :: r, o, w => by rw [World.setCells, setCells_block b hk r]; exact RowKit.Below.heap_setCell _ _ _ _ hk

theorem setCells_stay (b : Nat) : ∀ (vs : List Value) (o : Nat) (w : World) (a : Addr), (w.cell? a).isSome = true → ((w.setCells b o vs).cell? a).isSome = true
  | [], _, _, _, h => h
  | v :: r, o, w, a, h => by
    rw [World.setCells]
    refine setCells_stay b r _ _ a ?_
    obtain ⟨x, hx⟩ := Option.isSome_iff_exists.1 h
    obtain ⟨y, hy⟩ := RowKit.cell?_setCell_some (p := ⟨b, o, none⟩) (x := v) hx
    rw [hy]; rfl
theorem Sv_some {G : Nat → Prop} {hp : List (Nat × Blk)} {μ : Nat → Option Pl} {w : World} {a : Addr} {v : Value} :
    Sv G hp μ w a = some v ↔ (G a.block ∧ ¬ ∃ i p, live hp i ∧ μ i = some p ∧ p.b = a.block) ∧ w.cell? a = some v := by
  unfold Sv
  split
  · rename_i h; exact ⟨fun h' => ⟨h, h'⟩, fun h' => h'.2⟩
  · rename_i h; exact ⟨fun h' => (by cases h'), fun h' => absurd h'.1 h⟩

theorem ArrOk.mono {S S' : Addr → Option Value} {w w' : World} {b base room sz : Nat} {es : List T} (hS : ∀ a v, S a = some v → S' a = some v)
    (hc : ∀ j, w'.cell? ⟨b, j, none⟩ = w.cell? ⟨b, j, none⟩) (hf : ∀ j, w'.frozen? ⟨b, j, none⟩ = w.frozen? ⟨b, j, none⟩) (h : ArrOk S w b base room sz es) : ArrOk S' w' b base room sz es := by
  obtain ⟨vs, h1, h2, h3, h4, h5⟩ := h
  exact ⟨vs, h1.mono hS, fun j v hv => by rw [hc]; exact h2 j v hv, h3, h4, fun j hj => by rw [hc, hf]; exact h5 j hj⟩

theorem BlkOk.mono {al al' : Nat → Prop} {hp hp' : List (Nat × Blk)} {S S' : Addr → Option Value} {μ μ' : Nat → Option Pl} (e : Ext al al' hp hp' S S' μ μ') {w w' : World} {b : Blk} {pl : Option Pl}
    (hc : b.live = true → ∀ p, pl = some p → ∀ j, w'.cell? ⟨p.b, j, none⟩ = w.cell? ⟨p.b, j, none⟩ ∧ w'.frozen? ⟨p.b, j, none⟩ = w.frozen? ⟨p.b, j, none⟩)
    (h : BlkOk al hp S μ w b pl) : BlkOk al' hp' S' μ' w' b pl := by
  cases b with
  | arr sz es ver =>
    cases pl with
    | none => exact h
    | some p => exact ArrOk.mono e.hS (fun j => (hc rfl p rfl j).1) (fun j => (hc rfl p rfl j).2) h
  | froz sz es ver =>
    cases pl with
    | none => exact h
    | some p => exact VpOk.mono e.hS h
  | box cs =>
    cases pl with
    | none => exact h
    | some p =>
      obtain ⟨h0, vs, h1, h2⟩ := h
      exact ⟨h0, vs, h1.mono e, fun j v hv => by rw [(hc rfl p rfl j).1, (hc rfl p rfl j).2]; exact h2 j v hv⟩

/-- The memory grows by blocks that are nobody's. -/
theorem Mem.grow {Γ : Ctx} {al al' : Nat → Prop} {hp : List (Nat × Blk)} {w w' : World} {μ : Nat → Option Pl} (h : Mem Γ al hp w μ) (hf : Fr [] w w') (ha : ∀ i, al i → al' i) :
    Mem Γ al' hp w' μ ∧ Ext al al' hp hp (Sv Γ.G hp μ w) (Sv Γ.G hp μ w') μ μ := by
  have e : Ext al al' hp hp (Sv Γ.G hp μ w) (Sv Γ.G hp μ w') μ μ := by
    refine ⟨ha, fun a v hv => ?_, fun i _ => Nat.le_refl _, fun i ver sz es' _ _ h' => ⟨es', h', Nat.le_refl _, rfl⟩, fun i cs' _ h' => ⟨cs', h', rfl⟩⟩
    rw [Sv_some] at hv ⊢
    exact ⟨hv.1, by rw [hf.cell (World.block_lt_of_cell? _ _ hv.2) (by simp)]; exact hv.2⟩
  refine ⟨⟨h.fr.trans hf (by simp), h.gd, h.pin' e, fun i b hb => ha _ (h.used i b hb), fun i p hi hp' => ?_, h.inj, fun i b hb => ?_⟩, e⟩
  · obtain ⟨h1, h2⟩ := h.mine i p hi hp'
    exact ⟨Nat.lt_of_lt_of_le h1 hf.size, h2⟩
  · refine BlkOk.mono e (fun hl p hp' j => ?_) (h.blk i b hb)
    have := (h.mine i p ⟨b, hb, hl⟩ hp').1
    exact ⟨hf.cell this (by simp), hf.frozen this (by simp)⟩

def setμ (μ : Nat → Option Pl) (n : Nat) (p : Option Pl) : Nat → Option Pl := fun i => if i = n then p else μ i

theorem arrOf_put_ne {hp : List (Nat × Blk)} {n i v : Nat} {b : Blk} (h : n ≠ i) : arrOf (put hp n b) i v = arrOf hp i v := by simp [arrOf, find_put, h]
theorem verOf_put_ne {hp : List (Nat × Blk)} {n i : Nat} {b : Blk} (h : n ≠ i) : verOf (put hp n b) i = verOf hp i := by simp [verOf, find_put, h]
theorem live_put {hp : List (Nat × Blk)} {n i : Nat} {b : Blk} : live (put hp n b) i ↔ if n = i then b.live = true else live hp i := by
  unfold live; rw [find_put]; split <;> simp

/-- A new block of the call's own. -/
theorem Mem.new {Γ : Ctx} {al al' : Nat → Prop} {hp : List (Nat × Blk)} {w w' : World} {μ : Nat → Option Pl} (h : Mem Γ al hp w μ) (hf : Fr [] w w') (ha : ∀ i, al i → al' i)
    {n : Nat} (hn : ¬ al n) (hn' : al' n) (b : Blk) (p : Option Pl) (hp1 : ∀ q, p = some q → w.heap.size ≤ q.b ∧ q.b < w'.heap.size) (hb : BlkOk al hp (Sv Γ.G hp μ w) μ w' b p) :
    Mem Γ al' (put hp n b) w' (setμ μ n p) ∧ Ext al al' hp (put hp n b) (Sv Γ.G hp μ w) (Sv Γ.G (put hp n b) (setμ μ n p) w') μ (setμ μ n p) := by
  have hfn : find hp n = none := by
    cases hh : find hp n with
    | none => rfl
    | some b => exact absurd (h.used n b hh) hn
  have e : Ext al al' hp (put hp n b) (Sv Γ.G hp μ w) (Sv Γ.G (put hp n b) (setμ μ n p) w') μ (setμ μ n p) := by
    refine ⟨ha, fun a v hv => ?_, fun i hi => ?_, fun i ver sz es' hi _ h' => ?_, fun i cs' hi h' => ?_⟩
    · rw [Sv_some] at hv ⊢
      have hlt := World.block_lt_of_cell? _ _ hv.2
      refine ⟨⟨hv.1.1, ?_⟩, by rw [hf.cell hlt (by simp)]; exact hv.2⟩
      rintro ⟨i, q, hl, hq, hqb⟩
      rw [live_put] at hl
      by_cases hni : n = i
      · subst hni
        have := (hp1 q (by simpa [setμ] using hq)).1
        omega
      · rw [if_neg hni] at hl
        exact hv.1.2 ⟨i, q, hl, by simpa [setμ, Ne.symm hni] using hq, hqb⟩
    · have hni : n ≠ i := fun e => hn (e ▸ hi)
      rw [verOf_put_ne hni]; exact Nat.le_refl _
    · have hni : n ≠ i := fun e => hn (e ▸ hi)
      rw [arrOf_put_ne hni] at h'
      exact ⟨es', h', Nat.le_refl _, by simp [setμ, Ne.symm hni]⟩
    · have hni : n ≠ i := fun e => hn (e ▸ hi)
      rw [find_put, if_neg hni] at h'
      exact ⟨cs', h', by simp [setμ, Ne.symm hni]⟩
  refine ⟨⟨h.fr.trans hf (by simp), h.gd, h.pin' e, fun i b' hb' => ?_, fun i q hi hq => ?_, fun i j q r hi hj hq hr hqr => ?_, fun i b' hb' => ?_⟩, e⟩
  · rw [find_put] at hb'
    by_cases hni : n = i
    · subst hni; exact hn'
    · rw [if_neg hni] at hb'; exact ha _ (h.used i b' hb')
  · rw [live_put] at hi
    by_cases hni : n = i
    · subst hni
      obtain ⟨h1, h2⟩ := hp1 q (by simpa [setμ] using hq)
      exact ⟨h2, .inr (Nat.le_trans h.fr.size h1)⟩
    · rw [if_neg hni] at hi
      obtain ⟨h1, h2⟩ := h.mine i q hi (by simpa [setμ, Ne.symm hni] using hq)
      exact ⟨Nat.lt_of_lt_of_le h1 hf.size, h2⟩
  · rw [live_put] at hi hj
    by_cases hni : n = i
    · by_cases hnj : n = j
      · omega
      · subst hni
        rw [if_neg hnj] at hj
        have h1 := (hp1 q (by simpa [setμ] using hq)).1
        have h2 := (h.mine j r hj (by simpa [setμ, Ne.symm hnj] using hr)).1
        omega
    · rw [if_neg hni] at hi
      by_cases hnj : n = j
      · subst hnj
        have h1 := (hp1 r (by simpa [setμ] using hr)).1
        have h2 := (h.mine i q hi (by simpa [setμ, Ne.symm hni] using hq)).1
        omega
      · rw [if_neg hnj] at hj
        exact h.inj i j q r hi hj (by simpa [setμ, Ne.symm hni] using hq) (by simpa [setμ, Ne.symm hnj] using hr) hqr
  · rw [find_put] at hb'
    by_cases hni : n = i
    · subst hni
      rw [if_pos rfl] at hb'
      obtain rfl := Option.some.inj hb'
      have : setμ μ n p n = p := by simp [setμ]
      rw [this]
      exact BlkOk.mono e (fun _ _ _ _ => ⟨rfl, rfl⟩) hb
    · rw [if_neg hni] at hb'
      have : setμ μ n p i = μ i := by simp [setμ, Ne.symm hni]
      rw [this]
      refine BlkOk.mono e (fun hl q hq j => ?_) (h.blk i b' hb')
      have := (h.mine i q ⟨b', hb', hl⟩ hq).1
      exact ⟨hf.cell this (by simp), hf.frozen this (by simp)⟩


/-- A live block is written, or told anew. -/
theorem Mem.write {Γ : Ctx} {al al' : Nat → Prop} {hp : List (Nat × Blk)} {w : World} {μ : Nat → Option Pl} (h : Mem Γ al hp w μ) (ha : ∀ i, al i → al' i)
    {i : Nat} {b b' : Blk} {p : Pl} (hb : find hp i = some b) (hl : b.live = true) (hl' : b'.live = true) (hp1 : μ i = some p) (o : Nat) (vs : List Value)
    (hv : verOf hp i ≤ verOf (put hp i b') i) (harr : ∀ ver sz es', ver ≤ verOf hp i → arrOf (put hp i b') i ver = some (sz, es') → ∃ es, arrOf hp i ver = some (sz, es) ∧ es.length ≤ es'.length)
    (hbox : ∀ cs', b' = .box cs' → ∃ cs, b = .box cs) (hB : BlkOk al hp (Sv Γ.G hp μ w) μ (w.setCells p.b o vs) b' (some p)) :
    Mem Γ al' (put hp i b') (w.setCells p.b o vs) μ ∧ Ext al al' hp (put hp i b') (Sv Γ.G hp μ w) (Sv Γ.G (put hp i b') μ (w.setCells p.b o vs)) μ μ := by
  have hli : live hp i := ⟨b, hb, hl⟩
  have hlive : ∀ j, live (put hp i b') j ↔ live hp j := fun j => by
    rw [live_put]
    by_cases hij : i = j
    · subst hij; simp [hl', hli]
    · simp [hij]
  have hcell : ∀ x : Addr, x.block ≠ p.b → (w.setCells p.b o vs).cell? x = w.cell? x := fun x hx => World.cell?_setCells_out _ _ _ _ _ (fun h => absurd h hx)
  have hblk : ∀ k, k ≠ p.b → (w.setCells p.b o vs).heap[k]? = w.heap[k]? := fun k hk => setCells_block _ hk _ _ _
  have hsz := setCells_size p.b vs o w
  have e : Ext al al' hp (put hp i b') (Sv Γ.G hp μ w) (Sv Γ.G (put hp i b') μ (w.setCells p.b o vs)) μ μ := by
    refine ⟨ha, fun a v hv => ?_, fun j hj => ?_, fun j ver sz es' hj hver h' => ?_, fun j cs' hj h' => ?_⟩
    · rw [Sv_some] at hv ⊢
      have hne : a.block ≠ p.b := fun hh => hv.1.2 ⟨i, p, hli, hp1, hh.symm⟩
      exact ⟨⟨hv.1.1, fun ⟨j, q, h1, h2, h3⟩ => hv.1.2 ⟨j, q, (hlive j).1 h1, h2, h3⟩⟩, by rw [hcell a hne]; exact hv.2⟩
    · by_cases hij : i = j
      · subst hij; exact hv
      · rw [verOf_put_ne hij]; exact Nat.le_refl _
    · by_cases hij : i = j
      · subst hij
        obtain ⟨es, h1, h2⟩ := harr _ _ _ hver h'
        exact ⟨es, h1, h2, rfl⟩
      · rw [arrOf_put_ne hij] at h'; exact ⟨es', h', Nat.le_refl _, rfl⟩
    · rw [find_put] at h'
      by_cases hij : i = j
      · subst hij
        rw [if_pos rfl] at h'
        obtain ⟨cs, h1⟩ := hbox _ (Option.some.inj h')
        exact ⟨cs, by rw [hb, h1], rfl⟩
      · rw [if_neg hij] at h'; exact ⟨cs', h', rfl⟩
  have hfr : Fr [p.b] w (w.setCells p.b o vs) := ⟨setCells_os _ _ _ _, setCells_tape _ _ _ _, setCells_output _ _ _ _, by rw [hsz]; exact Nat.le_refl _, fun k _ hk => hblk k (by simpa using hk), setCells_stay _ _ _ _, fun a _ hf => by rw [World.frozen?_setCells]; exact hf⟩
  refine ⟨⟨?_, h.gd, h.pin' e, fun j b'' hb'' => ?_, fun j q hj hq => ?_, fun j k q r hj hk hq hr hqr => h.inj j k q r ((hlive j).1 hj) ((hlive k).1 hk) hq hr hqr, fun j b'' hb'' => ?_⟩, e⟩
  · refine h.fr.trans hfr (fun k hk hlt => ?_)
    obtain rfl : k = p.b := by simpa using hk
    rcases (h.mine i p hli hp1).2 with h2 | h2
    · exact h2
    · omega
  · rw [find_put] at hb''
    by_cases hij : i = j
    · subst hij; exact ha _ (h.used _ _ hb)
    · rw [if_neg hij] at hb''; exact ha _ (h.used _ _ hb'')
  · rw [hsz]; exact h.mine j q ((hlive j).1 hj) hq
  · rw [find_put] at hb''
    by_cases hij : i = j
    · subst hij
      rw [if_pos rfl] at hb''
      obtain rfl := Option.some.inj hb''
      rw [hp1]
      exact BlkOk.mono e (fun _ _ _ _ => ⟨rfl, rfl⟩) hB
    · rw [if_neg hij] at hb''
      refine BlkOk.mono e (fun hl2 q hq k => ?_) (h.blk j b'' hb'')
      have hne : q.b ≠ p.b := fun hh => hij (h.inj i j p q hli ⟨b'', hb'', hl2⟩ hp1 hq hh.symm)
      exact ⟨hcell _ hne, World.frozen?_setCells _ _ _ _ _⟩


/-- A list of the call's own moves to a new place. -/
theorem Mem.move {Γ : Ctx} {al al' : Nat → Prop} {hp : List (Nat × Blk)} {w w' : World} {μ : Nat → Option Pl} (h : Mem Γ al hp w μ) (hf : Fr [] w w') (ha : ∀ i, al i → al' i)
    {n : Nat} {b0 : Blk} (hb0 : find hp n = some b0) (b : Blk) (p : Option Pl) (hv : verOf hp n ≤ verOf (put hp n b) n) (harr : ∀ ver, ver ≤ verOf hp n → arrOf (put hp n b) n ver = none) (hbox : ∀ cs, b ≠ .box cs)
    (hp1 : ∀ q, p = some q → w.heap.size ≤ q.b ∧ q.b < w'.heap.size) (hb : BlkOk al hp (Sv Γ.G hp μ w) μ w' b p) :
    Mem Γ al' (put hp n b) w' (setμ μ n p) ∧ Ext al al' hp (put hp n b) (Sv Γ.G hp μ w) (Sv Γ.G (put hp n b) (setμ μ n p) w') μ (setμ μ n p) := by
  have hlt : ∀ i q, live hp i → μ i = some q → q.b < w.heap.size := fun i q hi hq => (h.mine i q hi hq).1
  have e : Ext al al' hp (put hp n b) (Sv Γ.G hp μ w) (Sv Γ.G (put hp n b) (setμ μ n p) w') μ (setμ μ n p) := by
    refine ⟨ha, fun a v hv => ?_, fun i hi => ?_, fun i ver sz es' hi hver h' => ?_, fun i cs' hi h' => ?_⟩
    · rw [Sv_some] at hv ⊢
      have hlt := World.block_lt_of_cell? _ _ hv.2
      refine ⟨⟨hv.1.1, ?_⟩, by rw [hf.cell hlt (by simp)]; exact hv.2⟩
      rintro ⟨i, q, hl, hq, hqb⟩
      rw [live_put] at hl
      by_cases hni : n = i
      · subst hni
        have := (hp1 q (by simpa [setμ] using hq)).1
        omega
      · rw [if_neg hni] at hl
        exact hv.1.2 ⟨i, q, hl, by simpa [setμ, Ne.symm hni] using hq, hqb⟩
    · by_cases hni : n = i
      · subst hni; exact hv
      · rw [verOf_put_ne hni]; exact Nat.le_refl _
    · by_cases hni : n = i
      · subst hni; rw [harr ver hver] at h'; cases h'
      · rw [arrOf_put_ne hni] at h'
        exact ⟨es', h', Nat.le_refl _, by simp [setμ, Ne.symm hni]⟩
    · by_cases hni : n = i
      · subst hni; rw [find_put, if_pos rfl] at h'; exact absurd (Option.some.inj h') (hbox cs')
      · rw [find_put, if_neg hni] at h'
        exact ⟨cs', h', by simp [setμ, Ne.symm hni]⟩
  refine ⟨⟨h.fr.trans hf (by simp), h.gd, h.pin' e, fun i b' hb' => ?_, fun i q hi hq => ?_, fun i j q r hi hj hq hr hqr => ?_, fun i b' hb' => ?_⟩, e⟩
  · rw [find_put] at hb'
    by_cases hni : n = i
    · subst hni; exact ha _ (h.used n _ hb0)
    · rw [if_neg hni] at hb'; exact ha _ (h.used i b' hb')
  · rw [live_put] at hi
    by_cases hni : n = i
    · subst hni
      obtain ⟨h1, h2⟩ := hp1 q (by simpa [setμ] using hq)
      exact ⟨h2, .inr (Nat.le_trans h.fr.size h1)⟩
    · rw [if_neg hni] at hi
      obtain ⟨h1, h2⟩ := h.mine i q hi (by simpa [setμ, Ne.symm hni] using hq)
      exact ⟨Nat.lt_of_lt_of_le h1 hf.size, h2⟩
  · rw [live_put] at hi hj
    by_cases hni : n = i
    · by_cases hnj : n = j
      · omega
      · subst hni
        rw [if_neg hnj] at hj
        have h1 := (hp1 q (by simpa [setμ] using hq)).1
        have h2 := hlt j r hj (by simpa [setμ, Ne.symm hnj] using hr)
        omega
    · rw [if_neg hni] at hi
      by_cases hnj : n = j
      · subst hnj
        have h1 := (hp1 r (by simpa [setμ] using hr)).1
        have h2 := hlt i q hi (by simpa [setμ, Ne.symm hni] using hq)
        omega
      · rw [if_neg hnj] at hj
        exact h.inj i j q r hi hj (by simpa [setμ, Ne.symm hni] using hq) (by simpa [setμ, Ne.symm hnj] using hr) hqr
  · rw [find_put] at hb'
    by_cases hni : n = i
    · subst hni
      rw [if_pos rfl] at hb'
      obtain rfl := Option.some.inj hb'
      have : setμ μ n p n = p := by simp [setμ]
      rw [this]
      exact BlkOk.mono e (fun _ _ _ _ => ⟨rfl, rfl⟩) hb
    · rw [if_neg hni] at hb'
      have : setμ μ n p i = μ i := by simp [setμ, Ne.symm hni]
      rw [this]
      refine BlkOk.mono e (fun hl q hq j => ?_) (h.blk i b' hb')
      have := hlt i q ⟨b', hb', hl⟩ hq
      exact ⟨hf.cell this (by simp), hf.frozen this (by simp)⟩

/-- The library's tables stand, and none of the call's own blocks is one. -/
theorem Mem.ginv {Γ : Ctx} {al : Nat → Prop} {hp : List (Nat × Blk)} {w : World} {μ : Nat → Option Pl} (h : Mem Γ al hp w μ) : GInv w := Γ.gi.1.stay fun b hb => h.fr.block b (Γ.gi.1.lt hb) (Γ.gi.2 b hb).2
theorem Mem.gb {Γ : Ctx} {al : Nat → Prop} {hp : List (Nat × Blk)} {w : World} {μ : Nat → Option Pl} (h : Mem Γ al hp w μ) {b : Nat} (hb : GB b) : Γ.G b ∧ b < w.heap.size ∧ ∀ i p, live hp i → μ i = some p → p.b ≠ b :=
  ⟨(Γ.gi.2 b hb).1, Nat.lt_of_lt_of_le (Γ.gi.1.lt hb) h.fr.size, fun i p hi hp hh => by
    subst hh
    rcases (h.mine i p hi hp).2 with g | g
    · exact (Γ.gi.2 _ hb).2 g
    · exact absurd (Γ.gi.1.lt hb) (Nat.not_lt.2 g)⟩
end Go.Proofs.YtbmibaopkfenbaaDoor.M

/- A machine of values: each operation does on the machine what is told of it, part 1. No condition. -/
namespace Go.Proofs.YtbmibaopkfenbaaDoor.M
open Go
set_option linter.unusedSimpArgs false
set_option linter.unusedVariables false
set_option linter.unusedSectionVars false

def al16 (al : Nat → Prop) (n : Nat) : Nat → Prop := fun i => al i ∨ (n ≤ i ∧ i < n + 16)

/-- What is left to be shown behind an operation. -/
def Nxt (Γ : Ctx) (al : Nat → Prop) (s : St) (a : Act) (w : World) (μ : Nat → Option Pl) (n : Nat) (dst : Option Tmp) (K : AV → List (Nat × Blk) → Prop) (next : Act → World → Prop) : Prop :=
  ∀ v u val w' μ', K v u → Mem Γ (al16 al n) (s.upd u).hp w' μ' → Ext al (al16 al n) s.hp (s.upd u).hp (Sv Γ.G s.hp μ w) (Sv Γ.G (s.upd u).hp μ' w') μ μ' →
    AVOk (al16 al n) (s.upd u).hp (Sv Γ.G (s.upd u).hp μ' w') μ' v val → next (a.put dst val) w'

theorem wp_val {P : Program} {o : Oper} {a : Act} {w w' : World} {val : Value} {next : Act → World → Prop} {Q : Exit → Act → World → Prop}
    (hrun : (execOp a.eval o).run P w = .ok (.value val) w') (h : next (a.put o.dst val) w') : o.wp P a w next Q := by unfold Oper.wp; rw [hrun]; exact h

section
variable {P : Program} {τ : Tab} {Γ : Ctx} {al : Nat → Prop} {s : St} {a : Act} {w : World} {μ : Nat → Option Pl} {n : Nat} {dst : Option Tmp} {K : AV → List (Nat × Blk) → Prop} {next : Act → World → Prop}

theorem Nxt.same (N : Nxt Γ al s a w μ n dst K next) (R : Rel Γ al s a w μ) {w' : World} (hf : Fr [] w w') {v : AV} {val : Value} (hK : K v []) (hv : AVOk al s.hp (Sv Γ.G s.hp μ w) μ v val) : next (a.put dst val) w' := by
  obtain ⟨m, e⟩ := R.mem.grow hf (al' := al16 al n) (fun _ h => .inl h)
  exact N v [] val w' μ hK m e (hv.mono e)
theorem Nxt.quiet (N : Nxt Γ al s a w μ n dst K next) (R : Rel Γ al s a w μ) {v : AV} {val : Value} (hK : K v []) (hv : AVOk al s.hp (Sv Γ.G s.hp μ w) μ v val) : next (a.put dst val) w :=
  N.same R (Fr.refl _ _) hK hv
theorem Nxt.new (N : Nxt Γ al s a w μ n dst K next) (R : Rel Γ al s a w μ) (hn : ¬ al n) {w' : World} (hf : Fr [] w w') {v : AV} {val : Value} {b : Blk} {p : Option Pl} (hK : K v [(n, b)])
    (hp1 : ∀ q, p = some q → w.heap.size ≤ q.b ∧ q.b < w'.heap.size) (hb : BlkOk al s.hp (Sv Γ.G s.hp μ w) μ w' b p)
    (hv : AVOk (al16 al n) (put s.hp n b) (Sv Γ.G (put s.hp n b) (setμ μ n p) w') (setμ μ n p) v val) : next (a.put dst val) w' := by
  obtain ⟨m, e⟩ := R.mem.new hf (al' := al16 al n) (fun _ h => .inl h) hn (.inr ⟨Nat.le_refl _, by omega⟩) b p hp1 hb
  exact N v [(n, b)] val w' (setμ μ n p) hK m e hv

theorem Nxt.move (N : Nxt Γ al s a w μ n dst K next) (R : Rel Γ al s a w μ) {i : Nat} {b0 : Blk} (hb0 : find s.hp i = some b0) {w' : World} (hf : Fr [] w w') {v : AV} {val : Value} {b : Blk} {p : Option Pl} (hK : K v [(i, b)])
    (hv : verOf s.hp i ≤ verOf (put s.hp i b) i) (harr : ∀ ver, ver ≤ verOf s.hp i → arrOf (put s.hp i b) i ver = none) (hbox : ∀ cs, b ≠ .box cs)
    (hp1 : ∀ q, p = some q → w.heap.size ≤ q.b ∧ q.b < w'.heap.size) (hb : BlkOk al s.hp (Sv Γ.G s.hp μ w) μ w' b p)
    (hval : AVOk (al16 al n) (put s.hp i b) (Sv Γ.G (put s.hp i b) (setμ μ i p) w') (setμ μ i p) v val) : next (a.put dst val) w' := by
  obtain ⟨m, e⟩ := R.mem.move hf (al' := al16 al n) (fun _ h => .inl h) hb0 b p hv harr hbox hp1 hb
  exact N v [(i, b)] val w' (setμ μ i p) hK m e hval

theorem ofValue_ok (sz : Nat) (v : Value) : AVOk al s.hp (Sv Γ.G s.hp μ w) μ (ofValue sz v) v := by
  unfold ofValue
  split
  · exact ⟨.int _ _, rfl⟩
  · exact ⟨.bool _, rfl⟩
  · exact ⟨.str _, rfl⟩
  · exact rfl
  · exact rfl
  · trivial
theorem eval_ok (R : Rel Γ al s a w μ) (t : Nat) (x : Operand) : AVOk al s.hp (Sv Γ.G s.hp μ w) μ (s.eval τ t x) (a.eval x) := by
  cases x with
  | tmp i => exact R.tmp i
  | const v => exact ofValue_ok _ v
  | func f => exact rfl
  | global g => trivial

/-! A plain cell's value. -/
theorem t_int {S : Addr → Option Value} {k : IntKind} {n : Int} {v : Value} (h : Hold S (.int k n) v) : v = .int k n := by cases h; rfl
theorem t_bool {S : Addr → Option Value} {b : Bool} {v : Value} (h : Hold S (.bool b) v) : v = .bool b := by cases h; rfl
theorem t_str {S : Addr → Option Value} {b : ByteArray} {v : Value} (h : Hold S (.str b) v) : v = .string b := by cases h; rfl
theorem eval_int (R : Rel Γ al s a w μ) {t : Nat} {x : Operand} {k : IntKind} {n : Int} (h : s.eval τ t x = .a (.c (.t (.int k n)))) : a.eval x = .int k n := by
  have := eval_ok (τ := τ) R t x; rw [h] at this; exact t_int this.1
theorem eval_bool (R : Rel Γ al s a w μ) {t : Nat} {x : Operand} {b : Bool} (h : s.eval τ t x = .a (.c (.t (.bool b)))) : a.eval x = .bool b := by
  have := eval_ok (τ := τ) R t x; rw [h] at this; exact t_bool this.1
theorem eval_str (R : Rel Γ al s a w μ) {t : Nat} {x : Operand} {b : ByteArray} (h : s.eval τ t x = .a (.c (.t (.str b)))) : a.eval x = .string b := by
  have := eval_ok (τ := τ) R t x; rw [h] at this; exact t_str this.1

variable {o : Oper} {Q : Exit → Act → World → Prop} {md : Nat → Md}

theorem op_move (R : Rel Γ al s a w μ) {x : Operand} (ho : o.op = .move x ∨ o.op = .assign x) (hK : K (s.eval τ o.type x) []) (N : Nxt Γ al s a w μ n o.dst K next) : o.wp P a w next Q := by
  have hr : (execOp a.eval o).run P w = .ok (.value (a.eval x)) w := by rcases ho with ho | ho <;> simp [execOp, ho]
  exact wp_val hr (N.quiet R hK (eval_ok R _ _))

theorem op_pick (R : Rel Γ al s a w μ) {c x y : Operand} (ho : o.op = .pick c x y) (h : op P τ md o s n K) (N : Nxt Γ al s a w μ n o.dst K next) : o.wp P a w next Q := by
  simp only [op, ho] at h
  split at h
  · rename_i c' x' y' hc hx hy
    have e1 := eval_bool R hc
    have e2 := eval_bool R hx
    have e3 := eval_bool R hy
    refine wp_val (val := .bool (if c' then x' else y')) (by cases c' <;> simp [execOp, asBool, ho, e1, e2, e3]) (N.quiet R h ⟨.bool _, rfl⟩)
  · rename_i c' hc _
    have e1 := eval_bool R hc
    cases c' with
    | true => exact wp_val (val := a.eval x) (by simp [execOp, asBool, ho, e1]) (N.quiet R (h.1 rfl) (eval_ok R _ _))
    | false => exact wp_val (val := a.eval y) (by simp [execOp, asBool, ho, e1]) (N.quiet R (h.2 rfl) (eval_ok R _ _))
  · exact h.elim

theorem zOk_COk {c : C} {v : Value} (h : zOk c v) : COk al s.hp (Sv Γ.G s.hp μ w) μ c v := by
  unfold zOk at h
  split at h
  · obtain ⟨rfl, rfl⟩ := h; exact ⟨.int _ _, rfl⟩
  · subst h; exact ⟨.bool _, rfl⟩
  · subst h; exact ⟨.str _, rfl⟩
  · exact rfl
  · exact rfl
  · exact h.elim

/-- A new row of cells. -/
theorem new_row (w : World) (cs : Array Value) (t : TypeId) : (∀ (j : Nat) v, cs.toList[j]? = some v → (w.alloc (.cells cs t)).cell? ⟨w.heap.size, j, none⟩ = some v ∧ (w.alloc (.cells cs t)).frozen? ⟨w.heap.size, j, none⟩ = false) := by
  intro j v h
  refine ⟨?_, by simp⟩
  rw [World.cell?_alloc_new]
  simpa using h

theorem op_alloc (hτ : TOk P τ) (R : Rel Γ al s a w μ) (hn : ¬ al n) {t : TypeId} (ho : o.op = .alloc t) (h : op P τ md o s n K) (N : Nxt Γ al s a w μ n o.dst K next) : o.wp P a w next Q := by
  simp only [op, ho] at h
  split at h
  · rename_i d hd
    obtain ⟨i, z, h1, h2, h3, h4, h5, h6, h7, h8⟩ := (hτ t d hd).info
    refine wp_val (val := .pointer (some ⟨w.heap.size, 0, none⟩)) (w' := w.alloc (.cells z.cells t)) (by simp [execOp, ho, Instr.alloc, zeroValue, typeInfo, h1, h4, newVar, newRow]) ?_
    refine N.new R hn (Fr.alloc _ _) (p := some ⟨w.heap.size, 0, z.cells.size⟩) h (fun q hq => by obtain rfl := Option.some.inj hq; simp) ?_ ?_
    · exact ⟨rfl, z.cells.toList, ⟨by simp [h5, h6], h7, fun j c v a b => zOk_COk (h8 j c v a b)⟩, new_row _ _ _⟩
    · refine ⟨.inr ⟨Nat.le_refl _, by omega⟩, rfl, fun cs hcs => ⟨⟨w.heap.size, 0, z.cells.size⟩, by simp [setμ], rfl⟩⟩
  · exact h.elim

theorem COk.one {S : Addr → Option Value} {hp : List (Nat × Blk)} {c : C} {v : Value} (h : COk al hp S μ c v) (hc : c.there = true) : v.oneCell' = true := by
  cases c with
  | undef => simp [C.there] at hc
  | t x => exact h.2
  | nil sz => obtain rfl := h; rfl
  | nilp => obtain rfl := h; rfl
  | own i ver off len => exact h.2.1
  | ptr i off => exact h.2.1
  | eptr i ver ix sb => exact h.2.1
  | clo f i => exact h.2.1
  | mvo k i ver len => exact h.2.1
  | vptr sz es ix sb => obtain ⟨a, rfl, _⟩ := h; rfl
  | fn f => obtain rfl := h; rfl
end
end Go.Proofs.YtbmibaopkfenbaaDoor.M

/- A machine of values: each operation does on the machine what is told of it, part 2: reading. No condition. -/
namespace Go.Proofs.YtbmibaopkfenbaaDoor.M
open Go
set_option linter.unusedSimpArgs false
set_option linter.unusedVariables false
set_option linter.unusedSectionVars false

theorem add_add (a : Addr) (i j : Nat) : (a.add i).add j = a.add (i + j) := by
  unfold Addr.add
  by_cases hi : i = 0
  · subst hi; simp
  · by_cases hj : j = 0
    · subst hj; simp [hi]
    · have : ¬ (i = 0 ∧ j = 0) := fun h => hi h.1
      simp [hi, hj, Nat.add_assoc]
theorem add_mk (b o j : Nat) : (⟨b, o, none⟩ : Addr).add j = ⟨b, o + j, none⟩ := by
  unfold Addr.add; split <;> simp_all

theorem flat_cons (e : T) (r : List T) : flat (e :: r) = e.cells ++ flat r := by simp [flat]
theorem flat_append (a b : List T) : flat (a ++ b) = flat a ++ flat b := by simp [flat]
theorem flat_length {es : List T} {sz : Nat} (h : ∀ e ∈ es, e.cells.length = sz) : (flat es).length = es.length * sz := by
  induction es with
  | nil => simp [flat]
  | cons e r ih =>
    have h1 := h e (by simp)
    have h2 := ih (fun x hx => h x (by simp [hx]))
    rw [flat_cons, List.length_append, h1, h2, List.length_cons, Nat.succ_mul]; omega
theorem flat_drop {es : List T} {sz : Nat} (h : ∀ e ∈ es, e.cells.length = sz) (i : Nat) : (flat es).drop (i * sz) = flat (es.drop i) := by
  induction es generalizing i with
  | nil => simp [flat]
  | cons e r ih =>
    cases i with
    | zero => simp
    | succ i =>
      have h1 := h e (by simp)
      have h2 := ih (fun x hx => h x (by simp [hx])) i
      rw [flat_cons, List.drop_succ_cons, ← h2, Nat.succ_mul, Nat.add_comm, ← h1, List.drop_length_add_append]
theorem flat_take {es : List T} {sz : Nat} (h : ∀ e ∈ es, e.cells.length = sz) (i : Nat) : (flat es).take (i * sz) = flat (es.take i) := by
  induction es generalizing i with
  | nil => simp [flat]
  | cons e r ih =>
    cases i with
    | zero => simp [flat]
    | succ i =>
      have h1 := h e (by simp)
      have h2 := ih (fun x hx => h x (by simp [hx])) i
      rw [flat_cons, List.take_succ_cons, flat_cons, ← h2, Nat.succ_mul, Nat.add_comm, ← h1, List.take_length_add_append]
/-- An element's cells among all. -/
theorem flat_elem {es : List T} {sz : Nat} (h : ∀ e ∈ es, e.cells.length = sz) {i : Nat} {e : T} (he : es[i]? = some e) (j : Nat) (hj : j < sz) : (flat es)[i * sz + j]? = e.cells[j]? := by
  have h1 : es.drop i = e :: es.drop (i + 1) := by
    obtain ⟨hi, rfl⟩ := List.getElem?_eq_some_iff.1 he
    exact List.drop_eq_getElem_cons hi
  have h2 : e.cells.length = sz := h e (List.mem_of_getElem? he)
  rw [← List.getElem?_drop, flat_drop h, h1, flat_cons, List.getElem?_append_left (by omega)]

/-- The value of a part of some cells. -/
def pv (d : TD) (vs : List Value) (off : Nat) : Value := if d.ag then .agg ((vs.drop off).take d.sz).toArray else vs.getD off undef

theorem run_loadVar' {P : Program} {τ : Tab} (hτ : TOk P τ) (w : World) {t : Nat} {d : TD} (hd : find τ t = some d) (a : Addr) (vs : List Value) (off : Nat)
    (hv : ∀ (j : Nat) v, vs[j]? = some v → w.cell? (a.add j) = some v) (h1 : d.ag = true → off + d.sz ≤ vs.length) (h2 : d.ag = false → off < vs.length) :
    (loadVar t (a.add off)).run P w = .ok (pv d vs off) w := by
  unfold loadVar pv
  rw [Sem.run_bind, run_isAgg' hτ w hd]
  simp only [Result.andThen_ok]
  cases hag : d.ag with
  | true =>
    simp only [if_true]
    have hl : ((vs.drop off).take d.sz).length = d.sz := by simp; have := h1 hag; omega
    have := run_loadCells_list (P := P) w (a.add off) ((vs.drop off).take d.sz) (fun j v hj => by
      rw [add_add]; refine hv _ _ ?_
      have hlt : j < d.sz := by have := (List.getElem?_eq_some_iff.1 hj).1; omega
      rw [List.getElem?_take_of_lt hlt, List.getElem?_drop] at hj; exact hj)
    rw [hl] at this
    simp [run_sizeOf' hτ w hd, this]
  | false =>
    have hlt := h2 hag
    have hg : vs[off]? = some (vs.getD off undef) := by
      rw [List.getD_eq_getElem?_getD, List.getElem?_eq_getElem hlt]; rfl
    simp only [Bool.false_eq_true, if_false]
    simp [load, Sem.run, hv _ _ hg]

section
variable {P : Program} {τ : Tab} {Γ : Ctx} {al : Nat → Prop} {s : St} {a : Act} {w : World} {μ : Nat → Option Pl} {n : Nat} {K : AV → List (Nat × Blk) → Prop} {next : Act → World → Prop}
variable {o : Oper} {Q : Exit → Act → World → Prop} {md : Nat → Md} {hp : List (Nat × Blk)} {S : Addr → Option Value}

theorem part_ok {d : TD} {cs : List C} {vs : List Value} {off : Nat} {K : A → Prop} (hc : CsOk al hp S μ cs vs) (h : partK d cs off K) :
    ∃ x, K x ∧ AOk al hp S μ x (pv d vs off) ∧ (d.ag = true → off + d.sz ≤ vs.length) ∧ (d.ag = false → off < vs.length) := by
  unfold partK at h
  unfold pv
  cases hag : d.ag with
  | true =>
    rw [hag] at h
    simp only [if_true] at h
    refine ⟨_, h.2, ⟨_, rfl, ?_, ?_, ?_⟩, fun _ => by rw [hc.1]; exact h.1, fun h => (by cases h)⟩
    · simp [hc.1]
    · exact fun v hv => hc.2.1 v (List.mem_of_mem_drop (List.mem_of_mem_take hv))
    · intro j c v h1 h2
      have hlt : j < d.sz := by have := (List.getElem?_eq_some_iff.1 h1).1; simp at this; omega
      rw [List.getElem?_take_of_lt hlt, List.getElem?_drop] at h1 h2
      exact hc.2.2 _ _ _ h1 h2
  | false =>
    rw [hag] at h
    simp only [Bool.false_eq_true, if_false] at h
    split at h
    · rename_i c hcc
      have hlt : off < vs.length := by rw [hc.1]; exact (List.getElem?_eq_some_iff.1 hcc).1
      refine ⟨_, h, ?_, fun h => (by cases h), fun _ => hlt⟩
      have hg : vs[off]? = some (vs.getD off undef) := by
        rw [List.getD_eq_getElem?_getD, List.getElem?_eq_getElem hlt]; rfl
      simp only [Bool.false_eq_true, if_false]
      exact hc.2.2 _ _ _ hcc hg
    · exact h.elim

theorem CsOk_of_HoldL {ts : List T} {vs : List Value} (h : HoldL S ts vs) : CsOk al hp S μ (ts.map C.t) vs := by
  refine ⟨by simp [h.1], h.2.1, fun j c v h1 h2 => ?_⟩
  rw [List.getElem?_map, Option.map_eq_some_iff] at h1
  obtain ⟨t, h1, rfl⟩ := h1
  exact ⟨h.2.2 j t v h1 h2, h.2.1 v (List.mem_of_getElem? h2)⟩

/-- An element's cells, held. -/
theorem HoldL.elem {es : List T} {vs : List Value} {sz i : Nat} {e : T} (h : HoldL S (flat es) vs) (hsz : ∀ e ∈ es, e.cells.length = sz) (he : es[i]? = some e) :
    HoldL S e.cells ((vs.drop (i * sz)).take sz) := by
  have hl : e.cells.length = sz := hsz e (List.mem_of_getElem? he)
  have hi := (List.getElem?_eq_some_iff.1 he).1
  have hfl := flat_length hsz
  have hmul : (i + 1) * sz ≤ es.length * sz := Nat.mul_le_mul_right _ hi
  rw [Nat.succ_mul] at hmul
  refine ⟨by simp [h.1, hfl, hl]; omega, fun v hv => h.2.1 v (List.mem_of_mem_drop (List.mem_of_mem_take hv)), fun j t v h1 h2 => ?_⟩
  have hlt : j < sz := by have := (List.getElem?_eq_some_iff.1 h1).1; omega
  rw [List.getElem?_take_of_lt hlt, List.getElem?_drop] at h2
  rw [← flat_elem hsz he j hlt] at h1
  exact h.2.2 _ _ _ h1 h2

theorem arrOf_arr {hp : List (Nat × Blk)} {i v v' sz : Nat} {es : List T} (h : find hp i = some (.arr sz es v')) (hv : (v == v') = true) : arrOf hp i v = some (sz, es) := by simp [arrOf, h, hv]
theorem arrOf_froz {hp : List (Nat × Blk)} {i v v' sz : Nat} {es : List T} (h : find hp i = some (.froz sz es v')) (hv : (v == v') = true) : arrOf hp i v = some (sz, es) := by simp [arrOf, h, hv]

/-- A list of the call's own, live or frozen: its cells. -/
theorem arr_cells (M : Mem Γ al hp w μ) {i v sz : Nat} {es : List T} (h : arrOf hp i v = some (sz, es)) {p : Pl} (hp' : μ i = some p) :
    ∃ vs : List Value, HoldL (Sv Γ.G hp μ w) (flat es) vs ∧ (∀ (j : Nat) v, vs[j]? = some v → w.cell? ⟨p.b, p.base + j, none⟩ = some v) ∧ ∀ e ∈ es, e.cells.length = sz := by
  unfold arrOf at h
  split at h
  · rename_i sz' es' v' hf
    split at h
    · obtain ⟨rfl, rfl⟩ := Prod.mk.inj (Option.some.inj h)
      have := M.blk i _ hf
      rw [hp'] at this
      obtain ⟨vs, h1, h2, h3, _⟩ := this
      exact ⟨vs, h1, h2, h3⟩
    · cases h
  · rename_i sz' es' v' hf
    split at h
    · obtain ⟨rfl, rfl⟩ := Prod.mk.inj (Option.some.inj h)
      have := M.blk i _ hf
      rw [hp'] at this
      obtain ⟨vs, h1, h2, h3⟩ := this
      exact ⟨vs, h1, fun j v hv => by have := h2 j v hv; rw [add_mk, Sv_some] at this; exact this.2, h3⟩
    · cases h
  · cases h
theorem arr_none (M : Mem Γ al hp w μ) {i v sz : Nat} {es : List T} (h : arrOf hp i v = some (sz, es)) (hp' : μ i = none) : es = [] := by
  unfold arrOf at h
  split at h
  · rename_i sz' es' v' hf
    split at h
    · obtain ⟨rfl, rfl⟩ := Prod.mk.inj (Option.some.inj h)
      have := M.blk i _ hf
      rw [hp'] at this
      exact this
    · cases h
  · rename_i sz' es' v' hf
    split at h
    · obtain ⟨rfl, rfl⟩ := Prod.mk.inj (Option.some.inj h)
      have := M.blk i _ hf
      rw [hp'] at this
      exact this
    · cases h
  · cases h

theorem load_elem (hτ : TOk P τ) (R : Rel Γ al s a w μ) {t : TypeId} {x : Operand} (ho : o.op = .load t x) {d : TD} (hd : find τ t = some d) {es : List T} {vs : List Value} {sz ix sb : Nat} {e : T} {a0 : Addr}
    (hx : a.eval x = .pointer (some (a0.add (ix * sz + sb)))) (hH : HoldL (Sv Γ.G s.hp μ w) (flat es) vs) (hv : ∀ (j : Nat) v, vs[j]? = some v → w.cell? (a0.add j) = some v) (hsz : ∀ e ∈ es, e.cells.length = sz)
    (he : es[ix]? = some e) (h : partK d (e.cells.map C.t) sb fun a => K (.a a) []) (N : Nxt Γ al s a w μ n o.dst K next) : o.wp P a w next Q := by
  have hE := hH.elem hsz he
  obtain ⟨y, hK, hA, h1, h2⟩ := part_ok (CsOk_of_HoldL hE (al := al) (hp := s.hp) (μ := μ)) h
  have hr := run_loadVar' hτ w hd (a0.add (ix * sz)) ((vs.drop (ix * sz)).take sz) sb (fun j v hj => by
    have hlt : j < sz := by have := (List.getElem?_eq_some_iff.1 hj).1; simp at this; omega
    rw [List.getElem?_take_of_lt hlt, List.getElem?_drop] at hj
    rw [add_add]; exact hv _ _ hj) h1 h2
  rw [add_add] at hr
  exact wp_val (by simp [execOp, ho, Instr.loadAt, Instr.sureAddr, hx, hr]) (N.quiet R hK hA)

theorem op_load (hτ : TOk P τ) (R : Rel Γ al s a w μ) {t : TypeId} {x : Operand} (ho : o.op = .load t x) (h : op P τ md o s n K) (N : Nxt Γ al s a w μ n o.dst K next) : o.wp P a w next Q := by
  have hx := eval_ok (τ := τ) R 0 x
  simp only [op, ho] at h
  split at h
  · rename_i d i off hd he
    rw [he] at hx
    split at h
    · rename_i cs hb
      obtain ⟨p, hp1, hp2⟩ := hx.2.2 _ hb
      have hB := R.mem.blk _ _ hb
      rw [hp1] at hB
      obtain ⟨h0, vs, hC, hc⟩ := hB
      obtain ⟨y, hK, hA, h1, h2⟩ := part_ok hC h
      have hr := run_loadVar' hτ w hd ⟨p.b, 0, none⟩ vs off (fun j v hj => by rw [add_mk, Nat.zero_add]; exact (hc j v hj).1) h1 h2
      rw [add_mk, Nat.zero_add] at hr
      exact wp_val (by simp [execOp, ho, Instr.loadAt, Instr.sureAddr, hp2, hr]) (N.quiet R hK hA)
    · exact h.elim
  · rename_i d i v ix sb hd he
    rw [he] at hx
    have key : ∀ sz es, arrOf s.hp i v = some (sz, es) → ∀ e, es[ix]? = some e → (partK d (e.cells.map C.t) sb fun a => K (.a a) []) → o.wp P a w next Q := fun sz es hA e hee hp' => by
      obtain ⟨p, hp1, hp2⟩ := hx.2.2 _ _ hA
      obtain ⟨vs, h1, h2, h3⟩ := arr_cells R.mem hA hp1
      exact load_elem hτ R ho hd (a0 := ⟨p.b, p.base, none⟩) (by rw [hp2, add_mk, Nat.add_assoc]) h1 (fun j v hj => by rw [add_mk]; exact h2 j v hj) h3 hee hp' N
    split at h
    · rename_i hb
      split at h
      · rename_i e hee; exact key _ _ hb e hee h
      · exact h.elim
    · exact h.elim
  · rename_i d sz es ix sb hd he
    rw [he] at hx
    split at h
    · rename_i e hee
      obtain ⟨a0, h1, vs, h2, h3, h4⟩ := hx
      exact load_elem hτ R ho hd h1 h2 (fun j v hj => (Sv_some.1 (h3 j v hj)).2) h4 hee h N
    · exact h.elim
  · exact h.elim

theorem op_nilCheck (R : Rel Γ al s a w μ) {x : Operand} (ho : o.op = .nilCheck x) (h : op P τ md o s n K) (N : Nxt Γ al s a w μ n o.dst K next) : o.wp P a w next Q := by
  have hx := eval_ok (τ := τ) R 0 x
  have hx' := hx
  simp only [op, ho] at h
  split at h
  · rename_i i off he
    rw [he] at hx hx'
    split at h
    · rename_i cs hb
      obtain ⟨p, hp1, hp2⟩ := hx.2.2 _ hb
      exact wp_val (by simp [execOp, ho, hp2]) (N.quiet R h (hp2 ▸ hx'))
    · exact h.elim
  · rename_i he
    rw [he] at hx hx'
    obtain ⟨a0, h1, _⟩ := hx
    exact wp_val (by simp [execOp, ho, h1]) (N.quiet R h (h1 ▸ hx'))
  · exact h.elim

theorem op_extract (R : Rel Γ al s a w μ) {x : Operand} {i : Nat} (ho : o.op = .extract x i) (h : op P τ md o s n K) (N : Nxt Γ al s a w μ n o.dst K next) : o.wp P a w next Q := by
  have hx := eval_ok (τ := τ) R 0 x
  simp only [op, ho] at h
  split at h
  · rename_i xs he
    rw [he] at hx
    obtain ⟨vs, h1, h2, h3⟩ := hx
    split at h
    · rename_i y hy
      have hlt : i < vs.length := by rw [h2]; exact (List.getElem?_eq_some_iff.1 hy).1
      have hg : vs[i]? = some vs[i] := List.getElem?_eq_getElem hlt
      exact wp_val (val := vs[i]) (by simp [execOp, ho, h1, Instr.extract, hlt]) (N.quiet R h (h3 i _ _ hy hg))
    · exact h.elim
  · exact h.elim

theorem eval_len (R : Rel Γ al s a w μ) {v : Value} {i ver off len sz : Nat} {es : List T} (h : COk al s.hp (Sv Γ.G s.hp μ w) μ (.own i ver off len) v) (ha : arrOf s.hp i ver = some (sz, es)) :
    ∃ p cap, v = .slice p len cap := by
  obtain ⟨_, h2⟩ := h.2.2 _ _ ha
  unfold SlOk at h2
  split at h2
  · obtain ⟨_, rfl, q, rfl⟩ := h2; exact ⟨_, _, rfl⟩
  · obtain ⟨a, cap, rfl, _⟩ := h2; exact ⟨_, _, rfl⟩

theorem slice_of_list {S : Addr → Option Value} {sz : Nat} {es : List T} {v : Value} (h : Hold S (.list sz es) v) : ∃ p cap, v = .slice p es.length cap := by
  cases h with
  | nil => exact ⟨_, _, rfl⟩
  | list sz es a n c vs hn => subst hn; exact ⟨_, _, rfl⟩

theorem toList_one {α : Type} {x : α} {xs : Array α} (h : xs.toList = [x]) : xs = #[x] := by cases xs; simp_all
theorem toList_two {α : Type} {x y : α} {xs : Array α} (h : xs.toList = [x, y]) : xs = #[x, y] := by cases xs; simp_all

theorem op_len (hτ : TOk P τ) (R : Rel Γ al s a w μ) {xs : Array Operand} {ts : Array TypeId} (ho : o.op = .call ⟨.builtin .len, xs, ts⟩) (h : op P τ md o s n K) (N : Nxt Γ al s a w μ n o.dst K next) : o.wp P a w next Q := by
  simp only [op, ho] at h
  split at h
  · rename_i x t hxs hts
    obtain rfl := toList_one hxs
    obtain rfl := toList_one hts
    have hx := eval_ok (τ := τ) R t x
    have hsl : ∀ e p l c, (tg τ t).k = .slice e → a.eval x = .slice p l c → (execOp a.eval o).run P w = .ok (.value (.int .i64 l)) w := fun e p l c hk hx => by
      have hk' := (hτ t _ (find_of_k (by rw [hk]; simp))).k
      simp only [kOk, hk] at hk'
      simp [execOp, ho, resolve, invoke, builtin, Builtin.len_, run_underlying hk'.1, hx, goInt]
    split at h
    · rename_i b hk he
      have hk' := (hτ t _ (find_of_k (by rw [hk]; simp))).k
      simp only [kOk, hk] at hk'
      have he' := eval_str R he
      exact wp_val (val := .int .i64 b.size) (by simp [execOp, ho, resolve, invoke, builtin, Builtin.len_, run_underlying hk', he', goInt]) (N.quiet R h ⟨.int _ _, rfl⟩)
    · rename_i hk he
      rw [he] at hx
      obtain ⟨p, c, hx⟩ := slice_of_list hx.1
      exact wp_val (hsl _ _ _ _ hk hx) (N.quiet R h ⟨.int _ _, rfl⟩)
    · rename_i hk he
      rw [he] at hx
      exact wp_val (hsl _ _ _ _ hk hx) (N.quiet R h ⟨.int _ _, rfl⟩)
    · rename_i i v off len hk he
      rw [he] at hx
      split at h
      · rename_i hb
        obtain ⟨p, c, hx⟩ := eval_len R hx hb
        exact wp_val (hsl _ _ _ _ hk hx) (N.quiet R h ⟨.int _ _, rfl⟩)
      · exact h.elim
    · exact h.elim
  · exact h.elim

theorem op_index (hτ : TOk P τ) (R : Rel Γ al s a w μ) {t : TypeId} {x i : Operand} (ho : o.op = .index t x i) (h : op P τ md o s n K) (N : Nxt Γ al s a w μ n o.dst K next) : o.wp P a w next Q := by
  simp only [op, ho] at h
  split at h
  · rename_i b ix hk he hi
    have hk' := (hτ t _ (find_of_k (by rw [hk]; simp))).k
    simp only [kOk, hk] at hk'
    have he' := eval_str R he
    have hi' : ∃ k, a.eval i = .int k ix := by
      unfold intA at hi
      split at hi
      · rename_i k m hm; obtain rfl := Option.some.inj hi; exact ⟨k, eval_int R hm⟩
      · cases hi
    obtain ⟨k, hi'⟩ := hi'
    obtain ⟨h1, h2, h3⟩ := h
    have hlt : ix.toNat < b.size := by omega
    have hg : b[ix.toNat]? = some (b.data.getD ix.toNat 0) := by
      have hlt' : ix.toNat < b.data.size := hlt
      rw [getElem?_pos b ix.toNat hlt, Array.getD_eq_getD_getElem?, Array.getElem?_eq_getElem hlt']; rfl
    exact wp_val (val := .int .u8 (b.data.getD ix.toNat 0).toNat) (by simp [execOp, ho, Instr.index, asIntOf, run_underlying hk', he', hi', h1, hg]) (N.quiet R h3 ⟨.int _ _, rfl⟩)
  · exact h.elim

theorem intA_ok (R : Rel Γ al s a w μ) {t : Nat} {i : Operand} {ix : Int} (hi : intA (s.eval τ t i) = some ix) : ∃ k, a.eval i = .int k ix := by
  unfold intA at hi
  split at hi
  · rename_i k m hm; obtain rfl := Option.some.inj hi; exact ⟨k, eval_int R hm⟩
  · cases hi
end
end Go.Proofs.YtbmibaopkfenbaaDoor.M

/- A machine of values: each operation does on the machine what is told of it, part 3: addresses, numbers. No condition. -/
namespace Go.Proofs.YtbmibaopkfenbaaDoor.M
open Go
set_option linter.unusedSimpArgs false
set_option linter.unusedVariables false
set_option linter.unusedSectionVars false

section
variable {P : Program} {τ : Tab} {Γ : Ctx} {al : Nat → Prop} {s : St} {a : Act} {w : World} {μ : Nat → Option Pl} {n : Nat} {K : AV → List (Nat × Blk) → Prop} {next : Act → World → Prop}
variable {o : Oper} {Q : Exit → Act → World → Prop} {md : Nat → Md} {hp : List (Nat × Blk)} {S : Addr → Option Value}

theorem struct_of (hτ : TOk P τ) {t : Nat} {fs : List (Nat × Nat)} (hk : (tg τ t).k = .struct fs) : ∃ F : Array Field, P.underlying t = some (.struct F) ∧ F.toList.map (fun f => (f.offset, f.type)) = fs ∧ ∀ f ∈ fs, (find τ f.2).isSome = true := by
  have hk' := (hτ t _ (find_of_k (by rw [hk]; simp))).k
  simp only [kOk, hk] at hk'
  obtain ⟨⟨F, h1, h2⟩, h3⟩ := hk'
  exact ⟨F, h1, h2, h3⟩
theorem slice_of (hτ : TOk P τ) {t e : Nat} (hk : (tg τ t).k = .slice e) : P.underlying t = some (.slice e) ∧ ∃ d, find τ e = some d := by
  have hk' := (hτ t _ (find_of_k (by rw [hk]; simp))).k
  simp only [kOk, hk] at hk'
  exact ⟨hk'.1, Option.isSome_iff_exists.1 hk'.2⟩
theorem array_of (hτ : TOk P τ) {t e m : Nat} (hk : (tg τ t).k = .array m e) : P.underlying t = some (.array m e) ∧ ∃ d, find τ e = some d := by
  have hk' := (hτ t _ (find_of_k (by rw [hk]; simp))).k
  simp only [kOk, hk] at hk'
  exact ⟨hk'.1, Option.isSome_iff_exists.1 hk'.2⟩
theorem field_of {F : Array Field} {fs : List (Nat × Nat)} (h : F.toList.map (fun f => (f.offset, f.type)) = fs) {f fo ft : Nat} (hf : fs[f]? = some (fo, ft)) : ∃ fl, F[f]? = some fl ∧ fl.offset = fo ∧ fl.type = ft := by
  rw [← h, List.getElem?_map, Option.map_eq_some_iff] at hf
  obtain ⟨fl, h1, h2⟩ := hf
  simp only [Prod.mk.injEq] at h2
  exact ⟨fl, by simpa using h1, h2.1, h2.2⟩

theorem op_fieldAddr (hτ : TOk P τ) (R : Rel Γ al s a w μ) {t : TypeId} {x : Operand} {f : Nat} (ho : o.op = .fieldAddr t x f) (h : op P τ md o s n K) (N : Nxt Γ al s a w μ n o.dst K next) : o.wp P a w next Q := by
  have hx := eval_ok (τ := τ) R 0 x
  simp only [op, ho] at h
  split at h
  · rename_i fs c hk he
    obtain ⟨F, hu, hF, hfs⟩ := struct_of hτ hk
    rw [he] at hx
    split at h
    · rename_i fo ft hf
      obtain ⟨fl, hfl, hfo, hft⟩ := field_of hF hf
      obtain ⟨d, hd⟩ := Option.isSome_iff_exists.1 (hfs (fo, ft) (List.mem_of_getElem? hf))
      split at h
      · rename_i hsz
        have hsz' : ¬ d.sz = 0 := by
          have : tg τ ft = d := tg_of_find hd
          simp [this] at hsz; omega
        have hs := run_sizeOf' hτ w hd
        have hrun : ∀ ad : Addr, a.eval x = .pointer (some ad) → (execOp a.eval o).run P w = .ok (.value (.pointer (some (ad.add fo)))) w := fun ad hx => by
          simp [execOp, ho, Instr.fieldAt, run_underlying hu, hfl, hx, Instr.sureAddr, fieldPlace, hft, hs, hsz', hfo]
        split at h
        · rename_i i off
          split at h
          · rename_i cs hcs
            obtain ⟨p, h1, h2⟩ := hx.2.2 _ hcs
            exact wp_val (hrun _ h2) (N.quiet R h ⟨hx.1, rfl, fun cs hcs => ⟨p, h1, by rw [add_mk]⟩⟩)
          · exact h.elim
        · rename_i i v ix sb
          split at h
          · rename_i x hA
            obtain ⟨p, h1, h2⟩ := hx.2.2 _ _ hA
            exact wp_val (hrun _ h2) (N.quiet R h ⟨hx.1, rfl, fun sz' es' hA' => ⟨p, h1, by rw [hA] at hA'; obtain rfl := Option.some.inj hA'; rw [add_mk, Nat.add_assoc]⟩⟩)
          · exact h.elim
        · rename_i sz es ix sb
          obtain ⟨a0, h1, h2⟩ := hx
          exact wp_val (hrun _ h1) (N.quiet R h ⟨a0, by rw [add_add, Nat.add_assoc], h2⟩)
        · exact h.elim
      · exact h.elim
    · exact h.elim
  · exact h.elim

theorem op_field (hτ : TOk P τ) (R : Rel Γ al s a w μ) {t : TypeId} {x : Operand} {f : Nat} (ho : o.op = .field t x f) (h : op P τ md o s n K) (N : Nxt Γ al s a w μ n o.dst K next) : o.wp P a w next Q := by
  have hx := eval_ok (τ := τ) R t x
  simp only [op, ho] at h
  split at h
  · rename_i fs cs hk he
    obtain ⟨F, hu, hF, hfs⟩ := struct_of hτ hk
    rw [he] at hx
    obtain ⟨vs, hv, hC⟩ := hx
    split at h
    · rename_i fo ft hf
      obtain ⟨fl, hfl, hfo, hft⟩ := field_of hF hf
      split at h
      · rename_i d hd
        obtain ⟨y, hK, hA, h1, h2⟩ := part_ok hC h
        refine wp_val (val := pv d vs fo) ?_ (N.quiet R hK hA)
        have hs := run_sizeOf' hτ w hd
        have ha := run_isAgg' hτ w hd
        simp only [execOp, ho, Instr.field, hv]
        simp [run_underlying hu, hfl, asAgg, part, hft, ha, hfo, pv]
        cases hag : d.ag with
        | true => simp [hs]
        | false =>
          have hlt := h2 hag
          simp [hlt]
      · exact h.elim
    · exact h.elim
  · exact h.elim

theorem hold_list {sz : Nat} {es : List T} {v : Value} (h : Hold S (.list sz es) v) : (es = [] ∧ v = .slice none 0 0) ∨
    ∃ ad c vs, v = .slice (some ad) es.length c ∧ es.length ≤ c ∧ (∀ e ∈ es, e.cells.length = sz) ∧ HoldL S (flat es) vs ∧ ∀ (j : Nat) v, vs[j]? = some v → S (ad.add j) = some v := by
  cases h with
  | nil => exact .inl ⟨rfl, rfl⟩
  | list sz es ad n c vs hn hc hsz1 hl hv h1' hh => subst hn; exact .inr ⟨ad, c, vs, rfl, hc, hsz1, ⟨hl, h1', hh⟩, hv⟩

theorem indexAddr_slice (hτ : TOk P τ) {t e : TypeId} {d : TD} {x i : Operand} (ho : o.op = .indexAddr t x i) (hu : P.underlying t = some (.slice e)) (hd : find τ e = some d) {ad : Addr} {len c : Nat} {k : IntKind} {ix : Int}
    (hx : a.eval x = .slice (some ad) len c) (hi : a.eval i = .int k ix) (h1 : 0 ≤ ix) (h2 : ix < len) : (execOp a.eval o).run P w = .ok (.value (.pointer (some (ad.add (ix.toNat * d.sz))))) w := by
  have hs := run_sizeOf' hτ w hd
  simp [execOp, ho, Instr.indexAt, hi, hx, asIntOf, run_underlying hu, h1, h2, hs]

theorem op_indexAddr (hτ : TOk P τ) (R : Rel Γ al s a w μ) {t : TypeId} {x i : Operand} (ho : o.op = .indexAddr t x i) (h : op P τ md o s n K) (N : Nxt Γ al s a w μ n o.dst K next) : o.wp P a w next Q := by
  have hx := eval_ok (τ := τ) R t x
  simp only [op, ho] at h
  split at h
  · rename_i e sz es ix hk he hi
    obtain ⟨hu, d, hd⟩ := slice_of hτ hk
    obtain ⟨k, hi'⟩ := intA_ok R hi
    rw [he] at hx
    have htg : tg τ e = d := tg_of_find hd
    split at h
    · rename_i hsz
      obtain ⟨h1, h2, h3⟩ := h
      have hsz' : sz = d.sz := by simpa [htg] using hsz
      have hs := run_sizeOf' hτ w hd
      rcases hold_list hx.1 with ⟨rfl, _⟩ | ⟨ad, c, vs, hv, hc, hsz1, hH, hS⟩
      · simp at h2; omega
      · subst hsz'
        exact wp_val (indexAddr_slice hτ ho hu hd hv hi' h1 h2) (N.quiet R h3 ⟨ad, rfl, vs, hH, hS, hsz1⟩)
    · exact h.elim
  · rename_i e j v off len ix hk he hi
    obtain ⟨hu, d, hd⟩ := slice_of hτ hk
    obtain ⟨k, hi'⟩ := intA_ok R hi
    rw [he] at hx
    have htg : tg τ e = d := tg_of_find hd
    split at h
    · rename_i sz es hA
      split at h
      · rename_i hsz
        obtain ⟨h1, h2, h3⟩ := h
        have hsz' : sz = d.sz := by simpa [htg] using hsz
        obtain ⟨h4, h5⟩ := hx.2.2 _ _ hA
        cases hp : μ j with
        | none => rw [hp] at h5; obtain ⟨_, rfl, _⟩ := h5; omega
        | some p =>
          rw [hp] at h5
          obtain ⟨ad, cap, h6, h7, h8, h9⟩ := h5
          have h7' : ad = ⟨p.b, p.base + off * sz, none⟩ := by
            rcases h7 with h7 | h7
            · exact h7
            · omega
          subst h7'
          subst hsz'
          refine wp_val (indexAddr_slice hτ ho hu hd h6 hi' h1 h2) (N.quiet R h3 ⟨hx.1, rfl, fun sz' es' hA' => ?_⟩)
          rw [hA] at hA'
          obtain ⟨rfl, rfl⟩ := Prod.mk.inj (Option.some.inj hA')
          exact ⟨p, hp, by rw [add_mk, Nat.add_mul]; simp [Nat.add_assoc]⟩
      · exact h.elim
    · exact h.elim
  · rename_i m e j off ix hk he hi
    obtain ⟨hu, d, hd⟩ := array_of hτ hk
    obtain ⟨k, hi'⟩ := intA_ok R hi
    rw [he] at hx
    have htg : tg τ e = d := tg_of_find hd
    split at h
    · rename_i cs hb
      obtain ⟨h1, h2, h3⟩ := h
      obtain ⟨p, h4, h5⟩ := hx.2.2 _ hb
      have hs := run_sizeOf' hτ w hd
      refine wp_val (val := .pointer (some ((⟨p.b, off, none⟩ : Addr).add (ix.toNat * d.sz)))) ?_ (N.quiet R h3 ⟨hx.1, rfl, fun cs hcs => ⟨p, h4, by rw [add_mk, htg]⟩⟩)
      simp [execOp, ho, Instr.indexAt, hi', h5, asIntOf, run_underlying hu, h1, h2, hs, Instr.sureAddr]
    · exact h.elim
  · exact h.elim

theorem op_unOp (R : Rel Γ al s a w μ) {u : UnOp} {t : TypeId} {x : Operand} (ho : o.op = .unOp u t x) (h : op P τ md o s n K) (N : Nxt Γ al s a w μ n o.dst K next) : o.wp P a w next Q := by
  simp only [op, ho] at h
  split at h
  · rename_i b he
    have := eval_bool R he
    exact wp_val (val := .bool (!b)) (by simp [execOp, ho, Op.unary, this]) (N.quiet R h ⟨.bool _, rfl⟩)
  · rename_i k m he
    have := eval_int R he
    exact wp_val (val := .int k (k.wrap (0 - m))) (by simp [execOp, ho, Op.unary, Op.intArith, this]) (N.quiet R h ⟨.int _ _, rfl⟩)
  · exact h.elim
end
end Go.Proofs.YtbmibaopkfenbaaDoor.M

/- A machine of values: each operation does on the machine what is told of it, part 4: sums, cuts, boxes, strings. No condition. -/
namespace Go.Proofs.YtbmibaopkfenbaaDoor.M
open Go
set_option linter.unusedSimpArgs false
set_option linter.unusedVariables false
set_option linter.unusedSectionVars false

section
variable {P : Program} {τ : Tab} {Γ : Ctx} {al : Nat → Prop} {s : St} {a : Act} {w : World} {μ : Nat → Option Pl} {n : Nat} {K : AV → List (Nat × Blk) → Prop} {next : Act → World → Prop}
variable {o : Oper} {Q : Exit → Act → World → Prop} {md : Nat → Md} {hp : List (Nat × Blk)} {S : Addr → Option Value}

/-- A plain cell as a value. -/
def tv : T → Value
  | .int k n => .int k n
  | .bool b => .bool b
  | .str s => .string s
  | .raw x => x.v
  | _ => undef
theorem binT_ok (w : World) {op : BinOp} {t : TypeId} {x y : T} {K : T → Prop} (h : binT op x y K) (hb : ∀ b, x = .bool b → P.underlying t = some .bool) :
    ∃ r, K r ∧ (Go.binOp op t (tv x) (tv y)).run P w = .ok (tv r) w ∧ Hold S r (tv r) ∧ (tv r).oneCell' = true ∧ r.scal = true := by
  unfold binT at h
  split at h
  · rename_i k m k' m'
    split at h
    · obtain ⟨h1, h2⟩ := h
      have : ¬ m' < 0 := by omega
      exact ⟨_, h2, by simp [tv, Go.binOp, Op.shift, this], .int _ _, rfl, rfl⟩
    · obtain ⟨h1, h2⟩ := h
      have : ¬ m' < 0 := by omega
      exact ⟨_, h2, by simp [tv, Go.binOp, Op.shift, this], .int _ _, rfl, rfl⟩
    · obtain ⟨rfl, h⟩ := h
      split at h
      case h_4 => obtain ⟨h1, h2⟩ := h; exact ⟨_, h2, by simp [tv, Go.binOp, Op.intDiv, h1], .int _ _, rfl, rfl⟩
      case h_5 => obtain ⟨h1, h2⟩ := h; exact ⟨_, h2, by simp [tv, Go.binOp, Op.intDiv, h1], .int _ _, rfl, rfl⟩
      all_goals first
        | exact h.elim
        | (refine ⟨_, h, ?_, .int _ _, rfl, rfl⟩; first | (simp [tv, Go.binOp, Op.intArith]; done) | (simp only [tv, Go.binOp]; rw [if_neg (by simp)]; rfl))
        | (refine ⟨_, h, ?_, .bool _, rfl, rfl⟩; simp [tv, Go.binOp, Op.intCmp]; done)
  · rename_i b b'
    split at h
    · obtain ⟨h1, h2⟩ := h
      have h3 : ((b.size : Int) + (b'.size : Int)) ≤ 9223372036854775807 := by omega
      exact ⟨_, h2, by simp [tv, Go.binOp, Op.stringOp, h3], .str _, rfl, rfl⟩
    all_goals first
      | exact h.elim
      | exact ⟨_, h, by simp [tv, Go.binOp, Op.stringOp], .bool _, rfl, rfl⟩
  · rename_i b b'
    have hu := hb b rfl
    have he' : ∀ d, (Op.equalIn (d + 1) t (.bool b) (.bool b')).run P w = .ok (b == b') w := fun d => by simp [Op.equalIn, run_underlying hu]
    have he : (Op.equal t (.bool b) (.bool b')).run P w = .ok (b == b') w := he' 9999
    split at h
    · exact ⟨_, h, by simp [tv, Go.binOp, he], .bool _, rfl, rfl⟩
    · exact ⟨_, h, by simp [tv, Go.binOp, he], .bool _, rfl, rfl⟩
    · exact h.elim
  · exact h.elim

theorem binT_shape {op : BinOp} {x y : T} {K : T → Prop} (h : binT op x y K) : (x.scal = true ∧ y.scal = true) ∧ (∀ v, x ≠ .raw v) ∧ ∀ v, y ≠ .raw v := by
  unfold binT at h
  split at h <;> first | exact ⟨⟨rfl, rfl⟩, by simp, by simp⟩ | exact h.elim
theorem tv_of {x : T} {v : Value} (h : Hold S x v) (hx : x.scal = true) : v = tv x := by
  cases h <;> first | rfl | (simp [T.scal] at hx)

theorem op_binOp (hτ : TOk P τ) (R : Rel Γ al s a w μ) {b : BinOp} {t yt : TypeId} {x y : Operand} (ho : o.op = .binOp b t x y yt) (h : op P τ md o s n K) (N : Nxt Γ al s a w μ n o.dst K next) : o.wp P a w next Q := by
  have hx := eval_ok (τ := τ) R t x
  have hy := eval_ok (τ := τ) R yt y
  simp only [op, ho] at h
  have key : ∀ p q, s.eval τ t x = .a (.c (.t p)) → s.eval τ yt y = .a (.c (.t q)) → (∀ b, p = .bool b → P.underlying t = some .bool) → (binT b p q fun r => K (.t r) []) → o.wp P a w next Q := fun p q e1 e2 hb h => by
    rw [e1] at hx
    rw [e2] at hy
    obtain ⟨⟨s1, s2⟩, n1, n2⟩ := binT_shape h
    obtain ⟨r, hK, hr, hH, h1, _⟩ := binT_ok (P := P) (S := Sv Γ.G s.hp μ w) w h hb
    have ex := tv_of hx.1 s1
    have ey := tv_of hy.1 s2
    refine wp_val (val := tv r) ?_ (N.quiet R hK ⟨hH, h1⟩)
    have hg : (eqGuard b t x y (tv p) (tv q)).run P w = .ok () w := by
      clear h hr
      cases p <;> first | (simp [T.scal] at s1; done) | (exact absurd rfl (n1 _)) | skip
      all_goals cases q <;> first | (simp [T.scal] at s2; done) | (exact absurd rfl (n2 _)) | skip
      all_goals cases b <;> simp [eqGuard, tv]
    simp [execOp, ho, ex, ey, hg, hr]
  split at h
  · rename_i p q e1 e2
    split at h
    · rename_i hk
      have hk' := (hτ t _ (find_of_k (by rw [hk]; simp))).k
      simp only [kOk, hk] at hk'
      exact key _ _ e1 e2 (fun _ _ => hk') h
    · exact h.elim
  · rename_i p q hno e1 e2
    refine key _ _ e1 e2 (fun b hb => ?_) h
    subst hb
    have := (binT_shape h).1.2
    cases q <;> first | (simp [T.scal] at this; done) | (unfold binT at h; simp at h; done) | exact (hno _ _ rfl rfl).elim
  · exact h.elim
end
end Go.Proofs.YtbmibaopkfenbaaDoor.M

/- A machine of values: each operation does on the machine what is told of it, part 5: cuts, boxes, strings. No condition. -/
namespace Go.Proofs.YtbmibaopkfenbaaDoor.M
open Go
set_option linter.unusedSimpArgs false
set_option linter.unusedVariables false
set_option linter.unusedSectionVars false

section
variable {P : Program} {τ : Tab} {Γ : Ctx} {al : Nat → Prop} {s : St} {a : Act} {w : World} {μ : Nat → Option Pl} {n : Nat} {K : AV → List (Nat × Blk) → Prop} {next : Act → World → Prop}
variable {o : Oper} {Q : Exit → Act → World → Prop} {md : Nat → Md} {hp : List (Nat × Blk)} {S : Addr → Option Value}

theorem cut_ok (R : Rel Γ al s a w μ) {lo hi : Option Operand} {len : Nat} {K' : Nat → Nat → Prop} (h : cutK (lo.map (s.eval τ 0)) (hi.map (s.eval τ 0)) len K') :
    ∃ l h : Nat, K' l h ∧ l ≤ h ∧ h ≤ len ∧ ∀ (is : Bool) cap, len ≤ cap → (Instr.sliceBounds is len cap (lo.map a.eval) (hi.map a.eval) none).run P w = .ok (l, h, cap) w := by
  unfold cutK at h
  split at h
  · rename_i hh ll e1 e2
    obtain ⟨h1, h2, h3, h4⟩ := h
    have hb : ∀ {k : IntKind} {v : Int} {y : Nat} (code : BoundsCode), 0 ≤ v → v ≤ y → (Instr.sliceBound (.int k v) y code).run P w = .ok v.toNat w := fun code a b => by
      simp [Instr.sliceBound, asIntOf, a, b]
    refine ⟨ll.toNat, hh.toNat, h4, by omega, by omega, fun is cap hc => ?_⟩
    have hH : (match hi.map a.eval with | some v => Instr.sliceBound v cap (if is then .sliceAcap else .sliceAlen) | none => pure len : Sem Nat).run P w = .ok hh.toNat w := by
      cases hi with
      | none => simp at e1; subst e1; simp
      | some x =>
        obtain ⟨k, hx⟩ := intA_ok R (by simpa using e1)
        simp only [Option.map_some, hx]
        exact hb _ (by omega) (by omega)
    have hL : (match lo.map a.eval with | some v => Instr.sliceBound v hh.toNat .sliceB | none => pure 0 : Sem Nat).run P w = .ok ll.toNat w := by
      cases lo with
      | none => simp at e2; subst e2; simp
      | some x =>
        obtain ⟨k, hx⟩ := intA_ok R (by simpa using e2)
        simp only [Option.map_some, hx]
        exact hb _ (by omega) (by omega)
    unfold Instr.sliceBounds
    simp only [Option.isSome_none, Bool.false_eq_true, if_false]
    cases hi with
    | none =>
      simp only [Option.map_none] at hH ⊢
      simp only [Sem.run_bind, Sem.run_pure, Result.andThen_ok] at hH ⊢
      cases lo <;> simp_all
    | some x =>
      simp only [Option.map_some] at hH ⊢
      simp only [Sem.run_bind, Sem.run_pure, Result.andThen_ok, hH]
      cases lo <;> simp_all
  · exact h.elim

theorem op_box (R : Rel Γ al s a w μ) (hn : ¬ al n) {t : TypeId} {x : Operand} (ho : o.op = .box t x) (h : op P τ md o s n K) (N : Nxt Γ al s a w μ n o.dst K next) : o.wp P a w next Q := by
  have hx := eval_ok (τ := τ) R t x
  simp only [op, ho] at h
  split at h
  · rename_i y he
    rw [he] at hx
    split at h
    · rename_i hth
      have hcs : ∃ vs : List Value, (a.eval x).cells = vs.toArray ∧ CsOk al s.hp (Sv Γ.G s.hp μ w) μ y.cells vs := by
        cases y with
        | c c =>
          simp only [A.cells, List.all_cons, List.all_nil, Bool.and_true] at hth
          have h1 := COk.one hx hth
          refine ⟨[a.eval x], ?_, by simp [A.cells], by simpa using h1, fun j c' v h2 h3 => ?_⟩
          · cases hv : a.eval x <;> simp [hv, Value.oneCell'] at h1 <;> rfl
          · cases j with
            | zero => simp [A.cells] at h2 h3; subst h2; subst h3; exact hx
            | succ j => simp [A.cells] at h2
        | g cs =>
          obtain ⟨vs, hv, hC⟩ := hx
          exact ⟨vs, by rw [hv]; rfl, hC⟩
      obtain ⟨vs, hv, hC⟩ := hcs
      refine wp_val (val := .pointer (some ⟨w.heap.size, 0, none⟩)) (w' := w.alloc (.cells vs.toArray t)) (by simp [execOp, ho, Instr.box, newVar, newRow, hv]) ?_
      refine N.new R hn (Fr.alloc _ _) (p := some ⟨w.heap.size, 0, vs.length⟩) h (fun q hq => by obtain rfl := Option.some.inj hq; simp) ?_ ?_
      · exact ⟨rfl, vs, hC, fun j v hj => new_row w vs.toArray t j v (by simpa using hj)⟩
      · exact ⟨.inr ⟨Nat.le_refl _, by omega⟩, rfl, fun cs hcs => ⟨⟨w.heap.size, 0, vs.length⟩, by simp [setμ], rfl⟩⟩
    · exact h.elim
  · exact h.elim

theorem op_slice (hτ : TOk P τ) (R : Rel Γ al s a w μ) {t : TypeId} {x : Operand} {lo hi : Option Operand} (ho : o.op = .slice t x lo hi none) (h : op P τ md o s n K) (N : Nxt Γ al s a w μ n o.dst K next) : o.wp P a w next Q := by
  have hx := eval_ok (τ := τ) R t x
  simp only [op, ho] at h
  have hsl : ∀ {e : TypeId} {d : TD} {ad : Option Addr} {len cap l h : Nat}, P.underlying t = some (.slice e) → find τ e = some d → a.eval x = .slice ad len cap →
      (Instr.sliceBounds true len cap (lo.map a.eval) (hi.map a.eval) none).run P w = .ok (l, h, cap) w →
      (execOp a.eval o).run P w = .ok (.value (.slice (if cap = l then ad else ad.map (·.add (l * d.sz))) (h - l) (cap - l))) w := fun hu hd hx hb => by
    have hs := run_sizeOf' hτ w hd
    simp [execOp, ho, Instr.sliceAt, Instr.slice, run_underlying hu, hx, hb, hs]
  split at h
  · rename_i b hk he
    have hk' := (hτ t _ (find_of_k (by rw [hk]; simp))).k
    simp only [kOk, hk] at hk'
    have he' := eval_str R he
    obtain ⟨l, hh, hK, h1, h2, hr⟩ := cut_ok (P := P) R h
    refine wp_val (val := .string (b.extract l hh)) ?_ (N.quiet R hK ⟨.str _, rfl⟩)
    simp [execOp, ho, Instr.sliceAt, Instr.slice, run_underlying hk', he', hr false b.size (Nat.le_refl _)]
  · rename_i e sz es hk he
    obtain ⟨hu, d, hd⟩ := slice_of hτ hk
    have htg : tg τ e = d := tg_of_find hd
    rw [he] at hx
    split at h
    · rename_i hsz
      have hsz' : sz = d.sz := by simpa [htg] using hsz
      subst hsz'
      obtain ⟨l, hh, hK, h1, h2, hr⟩ := cut_ok (P := P) R h
      rcases hold_list hx.1 with ⟨rfl, hv⟩ | ⟨ad, c, vs, hv, hc, hsz1, hH, hS⟩
      · have : hh = 0 := by simpa using h2
        subst this
        have : l = 0 := by omega
        subst this
        refine wp_val (hsl hu hd hv (hr true 0 (by simp))) (N.quiet R hK ?_)
        simp
        exact ⟨.nil _, rfl⟩
      · refine wp_val (hsl hu hd hv (hr true c hc)) (N.quiet R hK ⟨?_, rfl⟩)
        have hfl := flat_length hsz1
        have hes : flat ((es.drop l).take (hh - l)) = ((flat es).drop (l * d.sz)).take ((hh - l) * d.sz) := by
          rw [flat_drop hsz1, flat_take (fun e he => hsz1 e (List.mem_of_mem_drop he))]
        have hlen : ((es.drop l).take (hh - l)).length = hh - l := by simp; omega
        have hmem : ∀ e ∈ (es.drop l).take (hh - l), e.cells.length = d.sz := fun e he => hsz1 e (List.mem_of_mem_drop (List.mem_of_mem_take he))
        have hle : l * d.sz + (hh - l) * d.sz ≤ es.length * d.sz := by rw [← Nat.add_mul]; exact Nat.mul_le_mul_right _ (by omega)
        by_cases hcl : c = l
        · have : hh = l := by omega
          subst this
          simp only [hcl, if_true, Nat.sub_self, List.take_zero]
          exact .list _ _ ad 0 0 [] rfl (Nat.le_refl _) (by simp) (by simp [flat]) (by simp) (by simp) (by simp)
        · rw [if_neg hcl]
          refine .list _ _ (ad.add (l * d.sz)) (hh - l) (c - l) ((vs.drop (l * d.sz)).take ((hh - l) * d.sz)) hlen.symm (by omega) hmem ?_ ?_ ?_ ?_
          · rw [hes]; simp [hH.1]
          · intro j v hj
            have hlt : j < (hh - l) * d.sz := by have := (List.getElem?_eq_some_iff.1 hj).1; simp at this; omega
            rw [List.getElem?_take_of_lt hlt, List.getElem?_drop] at hj
            rw [add_add]; exact hS _ _ hj
          · exact fun v hv => hH.2.1 v (List.mem_of_mem_drop (List.mem_of_mem_take hv))
          · intro j t v h3 h4
            rw [hes] at h3
            have hlt : j < (hh - l) * d.sz := by have := (List.getElem?_eq_some_iff.1 h4).1; simp at this; omega
            rw [List.getElem?_take_of_lt hlt, List.getElem?_drop] at h3 h4
            exact hH.2.2 _ _ _ h3 h4
    · exact h.elim
  · rename_i e i v off len hk he
    obtain ⟨hu, d, hd⟩ := slice_of hτ hk
    have htg : tg τ e = d := tg_of_find hd
    rw [he] at hx
    split at h
    · rename_i sz es hA
      split at h
      · rename_i hsz
        have hsz' : sz = d.sz := by simpa [htg] using hsz
        subst hsz'
        obtain ⟨l, hh, hK, h1, h2, hr⟩ := cut_ok (P := P) R h
        obtain ⟨h4, h5⟩ := hx.2.2 _ _ hA
        cases hp : μ i with
        | none =>
          rw [hp] at h5
          obtain ⟨rfl, rfl, q, hv⟩ := h5
          have : hh = 0 := by omega
          subst this
          have : l = 0 := by omega
          subst this
          refine wp_val (hsl hu hd hv (hr true 0 (by simp))) (N.quiet R hK ⟨hx.1, rfl, fun sz' es' hA' => ⟨by omega, ?_⟩⟩)
          rw [hp]; exact ⟨rfl, rfl, q, by simp⟩
        | some p =>
          rw [hp] at h5
          obtain ⟨ad, cap, hv, h7, h8, h9⟩ := h5
          refine wp_val (hsl hu hd hv (hr true cap h8)) (N.quiet R hK ⟨hx.1, rfl, fun sz' es' hA' => ?_⟩)
          rw [hA] at hA'
          obtain ⟨rfl, rfl⟩ := Prod.mk.inj (Option.some.inj hA')
          refine ⟨by omega, ?_⟩
          rw [hp]
          have hcap : (off + l + (cap - l)) * d.sz ≤ p.room := by
            have : off + l + (cap - l) = off + cap := by omega
            rw [this]; exact h9
          by_cases hcl : cap = l
          · exact ⟨ad, cap - l, by simp [hcl], .inr (by omega), by omega, hcap⟩
          · refine ⟨ad.add (l * d.sz), cap - l, by simp [hcl], .inl ?_, by omega, hcap⟩
            rcases h7 with h7 | h7
            · rw [h7, add_mk, Nat.add_mul, Nat.add_assoc]
            · omega
      · exact h.elim
    · exact h.elim
  · rename_i e sz hk he
    obtain ⟨hu, d, hd⟩ := slice_of hτ hk
    rw [he] at hx
    have hv : a.eval x = .slice none 0 0 := hx
    obtain ⟨l, hh, hK, h1, h2, hr⟩ := cut_ok (P := P) R h
    have : hh = 0 := by omega
    subst this
    have : l = 0 := by omega
    subst this
    refine wp_val (hsl hu hd hv (hr true 0 (Nat.le_refl _))) (N.quiet R hK ?_)
    simp [AVOk, AOk, COk]
  · exact h.elim
end
end Go.Proofs.YtbmibaopkfenbaaDoor.M

/- A machine of values: each operation does on the machine what is told of it, part 6: writing. No condition. -/
namespace Go.Proofs.YtbmibaopkfenbaaDoor.M
open Go
set_option linter.unusedSimpArgs false
set_option linter.unusedVariables false
set_option linter.unusedSectionVars false

theorem splice_length {α : Type} {l n : List α} {off : Nat} (h : off + n.length ≤ l.length) : (splice l off n).length = l.length := by simp [splice]; omega
theorem splice_get {α : Type} {l n : List α} {off : Nat} (h : off + n.length ≤ l.length) (j : Nat) :
    (splice l off n)[j]? = if j < off then l[j]? else if j < off + n.length then n[j - off]? else l[j]? := by
  unfold splice
  have hl : (l.take off).length = off := by simp; omega
  by_cases h1 : j < off
  · rw [if_pos h1, List.append_assoc, List.getElem?_append_left (by omega), List.getElem?_take_of_lt h1]
  · rw [if_neg h1, List.append_assoc, List.getElem?_append_right (by omega), hl]
    by_cases h2 : j < off + n.length
    · rw [if_pos h2, List.getElem?_append_left (by omega)]
    · rw [if_neg h2, List.getElem?_append_right (by omega), List.getElem?_drop]
      congr 1; omega

theorem setCells_splice {w : World} {b base off : Nat} {ovs vs : List Value} (h : off + vs.length ≤ ovs.length) (ho : ∀ (j : Nat) v, ovs[j]? = some v → w.cell? ⟨b, base + j, none⟩ = some v) (j : Nat) (v : Value)
    (hj : (splice ovs off vs)[j]? = some v) : (w.setCells b (base + off) vs).cell? ⟨b, base + j, none⟩ = some v := by
  rw [splice_get h] at hj
  have hs : ∀ i, i < vs.length → (w.cell? ⟨b, base + off + i, none⟩).isSome = true := fun i hi => by
    have hlt : off + i < ovs.length := by omega
    have := ho (off + i) _ (List.getElem?_eq_getElem hlt)
    rw [Nat.add_assoc, this]; rfl
  by_cases h1 : j < off
  · rw [if_pos h1] at hj
    rw [World.cell?_setCells_out _ _ _ _ _ (fun _ _ => .inl (by simp; omega))]
    exact ho _ _ hj
  · rw [if_neg h1] at hj
    by_cases h2 : j < off + vs.length
    · rw [if_pos h2] at hj
      have := World.cell?_setCells_in b vs (base + off) w hs (j - off) (by omega)
      rw [show base + off + (j - off) = base + j by omega] at this
      rw [this]
      rw [List.getElem?_eq_getElem (by omega)] at hj
      exact hj
    · rw [if_neg h2] at hj
      rw [World.cell?_setCells_out _ _ _ _ _ (fun _ _ => .inr (by simp; omega))]
      exact ho _ _ hj
theorem setCells_isSome {w : World} {b o : Nat} {vs : List Value} (hs : ∀ i, i < vs.length → (w.cell? ⟨b, o + i, none⟩).isSome = true) {j : Nat} (h : (w.cell? ⟨b, j, none⟩).isSome = true) : ((w.setCells b o vs).cell? ⟨b, j, none⟩).isSome = true := by
  by_cases h1 : o ≤ j ∧ j < o + vs.length
  · have := World.cell?_setCells_in b vs o w hs (j - o) (by omega)
    rw [show o + (j - o) = j by omega] at this
    rw [this]; rfl
  · rw [World.cell?_setCells_out _ _ _ _ _ (fun _ _ => by simp; omega)]; exact h

section
variable {P : Program} {τ : Tab} {Γ : Ctx} {al : Nat → Prop} {s : St} {a : Act} {w : World} {μ : Nat → Option Pl} {n : Nat} {K : AV → List (Nat × Blk) → Prop} {next : Act → World → Prop}
variable {o : Oper} {Q : Exit → Act → World → Prop} {md : Nat → Md} {hp : List (Nat × Blk)} {S : Addr → Option Value}

theorem A_cells {y : A} {v : Value} (hx : AOk al hp S μ y v) (hth : y.cells.all C.there = true) : ∃ vs : List Value, v.cells = vs.toArray ∧ CsOk al hp S μ y.cells vs := by
  cases y with
  | c c =>
    simp only [A.cells, List.all_cons, List.all_nil, Bool.and_true] at hth
    have h1 := COk.one hx hth
    refine ⟨[v], ?_, by simp [A.cells], by simpa using h1, fun j c' v' h2 h3 => ?_⟩
    · cases v <;> simp [Value.oneCell'] at h1 <;> rfl
    · cases j with
      | zero => simp [A.cells] at h2 h3; subst h2; subst h3; exact hx
      | succ j => simp [A.cells] at h2
  | g cs =>
    obtain ⟨vs, hv, hC⟩ := hx
    exact ⟨vs, by rw [hv]; rfl, hC⟩

theorem sealC_ok {c : C} {x : T} {v : Value} (h : COk al hp S μ c v) (hs : sealC c = some x) : Hold S x v := by
  cases c <;> simp [sealC] at hs
  · subst hs; exact h.1
  · subst hs; obtain rfl := h; exact .nil _
  · subst hs; obtain rfl := h; exact .nilp
theorem sealL_ok {cs : List C} : ∀ {xs : List T} {vs : List Value}, CsOk al hp S μ cs vs → sealL cs = some xs → HoldL S xs vs := by
  induction cs with
  | nil =>
    intro xs vs h hs
    simp [sealL] at hs; subst hs
    have := h.1; simp at this; subst this
    exact ⟨rfl, by simp, by simp⟩
  | cons c r ih =>
    intro xs vs h hs
    simp only [sealL] at hs
    split at hs
    · rename_i x xs' h1 h2
      obtain rfl := Option.some.inj hs
      cases vs with
      | nil => have := h.1; simp at this
      | cons v vs =>
        have hr : CsOk al hp S μ r vs := ⟨by have := h.1; simpa using this, fun u hu => h.2.1 u (by simp [hu]), fun j c' u a b => h.2.2 (j + 1) c' u (by simpa using a) (by simpa using b)⟩
        have := ih hr h2
        refine ⟨by simp [this.1], h.2.1, fun j t u a b => ?_⟩
        cases j with
        | zero => simp at a b; subst a; subst b; exact sealC_ok (h.2.2 0 c _ (by simp) (by simp)) h1
        | succ j => exact this.2.2 j t u (by simpa using a) (by simpa using b)
    · cases hs
theorem sealL_length {cs : List C} : ∀ {xs : List T}, sealL cs = some xs → xs.length = cs.length := by
  induction cs with
  | nil => intro xs h; simp [sealL] at h; subst h; rfl
  | cons c r ih =>
    intro xs hs
    simp only [sealL] at hs
    split at hs
    · rename_i x xs' h1 h2
      obtain rfl := Option.some.inj hs
      simp [ih h2]
    · cases hs
theorem one_of_hold {x : T} {v : Value} (h : Hold S x v) (h1 : v.oneCell' = true) : x.cells = [x] := by
  cases h <;> first | rfl | (simp [Value.oneCell'] at h1)

theorem flat_set {es : List T} {sz ix : Nat} {e e' : T} (hsz : ∀ e ∈ es, e.cells.length = sz) (he : es[ix]? = some e) (he' : e'.cells.length = sz) : flat (es.set ix e') = splice (flat es) (ix * sz) e'.cells := by
  obtain ⟨hi, rfl⟩ := List.getElem?_eq_some_iff.1 he
  have h1 : es.set ix e' = es.take ix ++ e' :: es.drop (ix + 1) := by rw [List.set_eq_take_append_cons_drop, if_pos hi]
  rw [h1, flat_append, flat_cons, splice, flat_take hsz, he']
  have : ix * sz + sz = (ix + 1) * sz := by rw [Nat.succ_mul]
  rw [this, flat_drop hsz, List.append_assoc]

theorem splice_HoldL {xs ys : List T} {vs us : List Value} {off : Nat} (h : HoldL S xs vs) (h' : HoldL S ys us) (hl : off + ys.length ≤ xs.length) : HoldL S (splice xs off ys) (splice vs off us) := by
  have e1 := h.1
  have e2 := h'.1
  have hl' : off + us.length ≤ vs.length := by omega
  refine ⟨by rw [splice_length hl, splice_length hl', e1], fun v hv => ?_, fun j t v a b => ?_⟩
  · simp only [splice, List.mem_append] at hv
    rcases hv with (hv | hv) | hv
    · exact h.2.1 v (List.mem_of_mem_take hv)
    · exact h'.2.1 v hv
    · exact h.2.1 v (List.mem_of_mem_drop hv)
  · rw [splice_get hl] at a
    rw [splice_get hl', e2] at b
    split at a
    · rename_i hj; rw [if_pos hj] at b; exact h.2.2 _ _ _ a b
    · rename_i hj
      rw [if_neg hj] at b
      split at a
      · rename_i hj2; rw [if_pos hj2] at b; exact h'.2.2 _ _ _ a b
      · rename_i hj2; rw [if_neg hj2] at b; exact h.2.2 _ _ _ a b
theorem splice_CsOk {xs ys : List C} {vs us : List Value} {off : Nat} (h : CsOk al hp S μ xs vs) (h' : CsOk al hp S μ ys us) (hl : off + ys.length ≤ xs.length) : CsOk al hp S μ (splice xs off ys) (splice vs off us) := by
  have e1 := h.1
  have e2 := h'.1
  have hl' : off + us.length ≤ vs.length := by omega
  refine ⟨by rw [splice_length hl, splice_length hl', e1], fun v hv => ?_, fun j t v a b => ?_⟩
  · simp only [splice, List.mem_append] at hv
    rcases hv with (hv | hv) | hv
    · exact h.2.1 v (List.mem_of_mem_take hv)
    · exact h'.2.1 v hv
    · exact h.2.1 v (List.mem_of_mem_drop hv)
  · rw [splice_get hl] at a
    rw [splice_get hl', e2] at b
    split at a
    · rename_i hj; rw [if_pos hj] at b; exact h.2.2 _ _ _ a b
    · rename_i hj
      rw [if_neg hj] at b
      split at a
      · rename_i hj2; rw [if_pos hj2] at b; exact h'.2.2 _ _ _ a b
      · rename_i hj2; rw [if_neg hj2] at b; exact h.2.2 _ _ _ a b

theorem splice_splice {xs ys : List T} {off sb sz : Nat} {cs : List T} (hc : (xs.drop off).take sz = cs) (hcl : cs.length = sz) (hb : sb + ys.length ≤ sz) (ho : off + sz ≤ xs.length) :
    splice xs off (splice cs sb ys) = splice xs (off + sb) ys := by
  apply List.ext_getElem?
  intro j
  have hl1 : (splice cs sb ys).length = sz := by rw [splice_length (by omega), hcl]
  rw [splice_get (l := xs) (off := off) (n := splice cs sb ys) (by omega), splice_get (l := xs) (off := off + sb) (n := ys) (by omega), hl1]
  by_cases h1 : j < off
  · rw [if_pos h1, if_pos (by omega)]
  · rw [if_neg h1]
    by_cases h2 : j < off + sz
    · rw [if_pos h2, splice_get (l := cs) (off := sb) (n := ys) (by omega)]
      by_cases h3 : j - off < sb
      · rw [if_pos h3, if_pos (by omega), ← hc, List.getElem?_take_of_lt (by omega), List.getElem?_drop]; congr 1; omega
      · rw [if_neg h3, if_neg (by omega : ¬ j < off + sb)]
        by_cases h4 : j - off < sb + ys.length
        · rw [if_pos h4, if_pos (by omega)]; congr 1; omega
        · rw [if_neg h4, if_neg (by omega), ← hc, List.getElem?_take_of_lt (by omega), List.getElem?_drop]; congr 1; omega
    · rw [if_neg h2, if_neg (by omega), if_neg (by omega)]

theorem run_storeVar' (hτ : TOk P τ) (w : World) {t : Nat} {d : TD} (hd : find τ t = some d) {b off : Nat} {v : Value} {vs : List Value} (hv : v.cells = vs.toArray) (hl : vs.length = d.sz)
    (hc : ∀ j, j < vs.length → (w.cell? ⟨b, off + j, none⟩).isSome = true) (hf : ∀ j, j < vs.length → w.frozen? ⟨b, off + j, none⟩ = false) (h1 : ∀ v ∈ vs, v.oneCell' = true) :
    (storeVar t ⟨b, off, none⟩ v).run P w = .ok () (w.setCells b off vs) := by
  have hst := run_storeCells_cells (P := P) b off vs 0 w (by simpa using hc) (by simpa using hf) h1
  unfold storeVar
  simp only [Nat.add_zero] at hst
  simp [run_sizeOf' hτ w hd, hv, hl, hst]

theorem wp_skip' {P : Program} {o : Oper} {a : Act} {w w' : World} {next : Act → World → Prop} {Q : Exit → Act → World → Prop}
    (hrun : (execOp a.eval o).run P w = .ok .skip w') (h : next (a.put o.dst undef) w') : o.wp P a w next Q := by unfold Oper.wp; rw [hrun]; exact h

theorem op_store (hτ : TOk P τ) (R : Rel Γ al s a w μ) {t : TypeId} {x y : Operand} (ho : o.op = .store t x y) (h : op P τ md o s n K) (N : Nxt Γ al s a w μ n o.dst K next) : o.wp P a w next Q := by
  have hx := eval_ok (τ := τ) R 0 x
  have hy := eval_ok (τ := τ) R t y
  simp only [op, ho] at h
  split at h
  · rename_i d i off ya hd he1 he2
    rw [he1] at hx
    rw [he2] at hy
    split at h
    · rename_i cs hb
      split at h
      · rename_i hcond
        simp only [Bool.and_eq_true, beq_iff_eq, decide_eq_true_eq] at hcond
        obtain ⟨⟨hl, hfit⟩, hth⟩ := hcond
        obtain ⟨vs, hv, hC⟩ := A_cells hy hth
        obtain ⟨p, hp1, hp2⟩ := hx.2.2 _ hb
        have hB := R.mem.blk _ _ hb
        rw [hp1] at hB
        obtain ⟨h0, ovs, hO, hc⟩ := hB
        have hvl : vs.length = d.sz := by rw [hC.1, hl]
        have hfit' : off + vs.length ≤ ovs.length := by rw [hO.1]; omega
        have hcell : ∀ j, j < vs.length → ∃ v, ovs[off + j]? = some v := fun j hj => ⟨_, List.getElem?_eq_getElem (by omega)⟩
        have hr := run_storeVar' hτ w hd (b := p.b) (off := off) hv hvl (fun j hj => by obtain ⟨v, e⟩ := hcell j hj; rw [(hc _ _ e).1]; rfl)
          (fun j hj => by obtain ⟨v, e⟩ := hcell j hj; exact (hc _ _ e).2) hC.2.1
        refine wp_skip' (w' := w.setCells p.b off vs) (by simp [execOp, ho, Instr.storeAt, Instr.sureAddr, hp2, hr]) ?_
        have hbo : BlkOk al s.hp (Sv Γ.G s.hp μ w) μ (w.setCells p.b off vs) (.box (splice cs off ya.cells)) (some p) := by
          refine ⟨h0, splice ovs off vs, splice_CsOk hO hC (by omega), fun j v hj => ⟨?_, ?_⟩⟩
          · have := setCells_splice (w := w) (b := p.b) (base := 0) hfit' (fun j v hj => by rw [Nat.zero_add]; exact (hc j v hj).1) j v hj
            simpa using this
          · rw [World.frozen?_setCells]
            have hlt : j < ovs.length := by have := (List.getElem?_eq_some_iff.1 hj).1; rw [splice_length hfit'] at this; exact this
            exact (hc j _ (List.getElem?_eq_getElem hlt)).2
        obtain ⟨m, e⟩ := R.mem.write (al' := al16 al n) (fun _ h => .inl h) hb rfl (b' := .box (splice cs off ya.cells)) rfl hp1 off vs
          (by simp [verOf, hb, find_put]) (fun ver sz es' _ h' => by simp [arrOf, find_put] at h') (fun cs' _ => ⟨cs, rfl⟩) hbo
        exact N (.c .undef) [(i, .box (splice cs off ya.cells))] undef _ μ h m e trivial
      · exact h.elim
    · exact h.elim
  · rename_i d i v ix sb ya hd he1 he2
    rw [he1] at hx
    rw [he2] at hy
    split at h
    · rename_i sz es v' hb
      split at h
      · rename_i hcond
        simp only [Bool.and_eq_true, beq_iff_eq, decide_eq_true_eq] at hcond
        obtain ⟨⟨rfl, hl⟩, h0⟩ := hcond
        split at h
        · rename_i e ys hee hys
          obtain ⟨hfit, hK⟩ := h
          have hth : ya.cells.all C.there = true := by
            have : ∀ cs : List C, ∀ xs, sealL cs = some xs → cs.all C.there = true := fun cs => by
              induction cs with
              | nil => intro xs _; rfl
              | cons c r ih =>
                intro xs hs
                simp only [sealL] at hs
                split at hs
                · rename_i x xs' h1 h2
                  simp only [List.all_cons, Bool.and_eq_true]
                  refine ⟨?_, ih _ h2⟩
                  cases c <;> simp [sealC] at h1 <;> rfl
                · cases hs
            exact this _ _ hys
          obtain ⟨vs, hv, hC⟩ := A_cells hy hth
          have hH := sealL_ok hC hys
          have hysl := sealL_length hys
          have hA : arrOf s.hp i v = some (sz, es) := by simp [arrOf, hb]
          obtain ⟨p, hp1, hp2⟩ := hx.2.2 _ _ hA
          have hB := R.mem.blk _ _ hb
          rw [hp1] at hB
          obtain ⟨ovs, hO, hc, hsz, hroom, hcells⟩ := hB
          have hesz := hsz e (List.mem_of_getElem? hee)
          have hix := (List.getElem?_eq_some_iff.1 hee).1
          have hfl := flat_length hsz
          have hmul : (ix + 1) * sz ≤ es.length * sz := Nat.mul_le_mul_right _ hix
          rw [Nat.succ_mul] at hmul
          have hvl : vs.length = d.sz := by rw [hC.1, hl]
          have hyl : ys.length = d.sz := by rw [hysl, hl]
          have hOl := hO.1
          have hr := run_storeVar' hτ w hd (b := p.b) (off := p.base + ix * sz + sb) hv hvl
            (fun j hj => by have := (hcells (ix * sz + sb + j) (by omega)).1; rw [show p.base + ix * sz + sb + j = p.base + (ix * sz + sb + j) by omega]; exact this)
            (fun j hj => by have := (hcells (ix * sz + sb + j) (by omega)).2; rw [show p.base + ix * sz + sb + j = p.base + (ix * sz + sb + j) by omega]; exact this) hC.2.1
          refine wp_skip' (w' := w.setCells p.b (p.base + ix * sz + sb) vs) (by simp [execOp, ho, Instr.storeAt, Instr.sureAddr, hp2, hr]) ?_
          have hpc : (putCell e sb ys).cells = splice e.cells sb ys := by
            cases e with
            | agg cs => rfl
            | _ =>
              simp only [T.cells, List.length_singleton] at hesz hfit
              have hsb : sb = 0 := by omega
              have hy1 : ys.length = 1 := by omega
              obtain ⟨y0, rfl⟩ : ∃ y0, ys = [y0] := by
                cases ys with
                | nil => simp at hy1
                | cons y r => cases r with
                  | nil => exact ⟨y, rfl⟩
                  | cons _ _ => simp at hy1
              subst hsb
              have hv0 : vs.length = 1 := by omega
              obtain ⟨v0, rfl⟩ : ∃ v0, vs = [v0] := by
                cases vs with
                | nil => simp at hv0
                | cons y r => cases r with
                  | nil => exact ⟨y, rfl⟩
                  | cons _ _ => simp at hv0
              have := one_of_hold (hH.2.2 0 y0 v0 rfl rfl) (hH.2.1 v0 (by simp))
              simp [putCell, splice, T.cells]
              exact this
          have hflat : flat (es.set ix (putCell e sb ys)) = splice (flat es) (ix * sz + sb) ys := by
            rw [flat_set hsz hee (by rw [hpc, splice_length (by omega), hesz]), hpc]
            refine splice_splice (sz := sz) ?_ hesz (by omega) (by omega)
            apply List.ext_getElem?
            intro j
            by_cases hj : j < sz
            · rw [List.getElem?_take_of_lt hj, List.getElem?_drop, flat_elem hsz hee j hj]
            · rw [List.getElem?_eq_none (by simp; omega), List.getElem?_eq_none (by omega)]
          have hbo : BlkOk al s.hp (Sv Γ.G s.hp μ w) μ (w.setCells p.b (p.base + ix * sz + sb) vs) (.arr sz (es.set ix (putCell e sb ys)) v) (some p) := by
            refine ⟨splice ovs (ix * sz + sb) vs, ?_, ?_, ?_, ?_, ?_⟩
            · rw [hflat]; exact splice_HoldL hO hH (by omega)
            · intro j u hj
              have := setCells_splice (w := w) (b := p.b) (base := p.base) (off := ix * sz + sb) (by omega) hc j u hj
              rwa [← Nat.add_assoc] at this
            · intro e' he'
              rcases List.mem_or_eq_of_mem_set he' with h' | h'
              · exact hsz _ h'
              · rw [h', hpc, splice_length (by omega), hesz]
            · rw [splice_length (by omega)]; exact hroom
            · intro j hj
              refine ⟨setCells_isSome (fun i hi => ?_) (hcells j hj).1, by rw [World.frozen?_setCells]; exact (hcells j hj).2⟩
              have := (hcells (ix * sz + sb + i) (by omega)).1
              rw [show p.base + ix * sz + sb + i = p.base + (ix * sz + sb + i) by omega]; exact this
          obtain ⟨m, e⟩ := R.mem.write (al' := al16 al n) (fun _ h => .inl h) hb rfl (b' := .arr sz (es.set ix (putCell e sb ys)) v) rfl hp1 (p.base + ix * sz + sb) vs
            (by simp [verOf, hb, find_put]) (fun ver sz' es' _ h' => by
              simp only [arrOf, find_put, if_true] at h'
              split at h'
              · rename_i hvv
                obtain ⟨rfl, rfl⟩ := Prod.mk.inj (Option.some.inj h')
                exact ⟨es, by simp only [arrOf, hb, hvv, if_true], by simp⟩
              · cases h') (fun cs' h' => by cases h') hbo
          exact N (.c .undef) _ undef _ μ hK m e trivial
        · exact h.elim
      · exact h.elim
    · exact h.elim
  · exact h.elim
end
end Go.Proofs.YtbmibaopkfenbaaDoor.M

/- A machine of values: each operation does on the machine what is told of it, part 7: lists that grow, strings. No condition. -/
namespace Go.Proofs.YtbmibaopkfenbaaDoor.M
open Go
set_option linter.unusedSimpArgs false
set_option linter.unusedVariables false
set_option linter.unusedSectionVars false

section
variable {P : Program} {τ : Tab} {Γ : Ctx} {al : Nat → Prop} {s : St} {a : Act} {w : World} {μ : Nat → Option Pl} {n : Nat} {K : AV → List (Nat × Blk) → Prop} {next : Act → World → Prop}
variable {o : Oper} {Q : Exit → Act → World → Prop} {md : Nat → Md} {hp : List (Nat × Blk)} {S : Addr → Option Value}

/-- A list that is read, whoever holds it. -/
theorem list_src (M : Mem Γ al hp w μ) {b : C} {v : Value} {sz : Nat} {fs : List T} (h : COk al hp (Sv Γ.G hp μ w) μ b v) (hl : listOf hp b = some (sz, fs)) :
    ((∃ q, v = .slice q 0 0) ∧ fs = []) ∨ ∃ ad cap vs, v = .slice (some ad) fs.length cap ∧ HoldL (Sv Γ.G hp μ w) (flat fs) vs ∧ (∀ (j : Nat) v, vs[j]? = some v → w.cell? (ad.add j) = some v) ∧ (∀ e ∈ fs, e.cells.length = sz) ∧ fs.length ≤ cap := by
  cases b with
  | t x =>
    cases x with
    | list sz' es =>
      simp only [listOf, Option.some.injEq, Prod.mk.injEq] at hl
      obtain ⟨rfl, rfl⟩ := hl
      rcases hold_list h.1 with ⟨rfl, hv⟩ | ⟨ad, c, vs, hv, hc, hsz, hH, hS⟩
      · exact .inl ⟨⟨_, hv⟩, rfl⟩
      · exact .inr ⟨ad, c, vs, hv, hH, fun j v hj => (Sv_some.1 (hS j v hj)).2, hsz, hc⟩
    | _ => simp [listOf] at hl
  | nil sz' =>
    simp only [listOf, Option.some.injEq, Prod.mk.injEq] at hl
    obtain ⟨rfl, rfl⟩ := hl
    exact .inl ⟨⟨_, h⟩, rfl⟩
  | own i ver off len =>
    simp only [listOf, Option.map_eq_some_iff] at hl
    obtain ⟨⟨sz', es⟩, hA, he⟩ := hl
    simp only [Prod.mk.injEq] at he
    obtain ⟨rfl, rfl⟩ := he
    obtain ⟨h4, h5⟩ := h.2.2 _ _ hA
    cases hp' : μ i with
    | none =>
      rw [hp'] at h5
      obtain ⟨rfl, rfl, q, rfl⟩ := h5
      exact .inl ⟨⟨q, rfl⟩, by simp⟩
    | some p =>
      rw [hp'] at h5
      obtain ⟨ad, cap, rfl, h7, h8, h9⟩ := h5
      have hlen : ((es.drop off).take len).length = len := by simp; omega
      obtain ⟨vs, h1, h2, h3⟩ := arr_cells M hA hp'
      have hmem : ∀ e ∈ (es.drop off).take len, e.cells.length = sz' := fun e he => h3 e (List.mem_of_mem_drop (List.mem_of_mem_take he))
      have hfl := flat_length h3
      have hes : flat ((es.drop off).take len) = ((flat es).drop (off * sz')).take (len * sz') := by
        rw [flat_drop h3, flat_take (fun e he => h3 e (List.mem_of_mem_drop he))]
      have hle : off * sz' + len * sz' ≤ es.length * sz' := by rw [← Nat.add_mul]; exact Nat.mul_le_mul_right _ (by omega)
      refine .inr ⟨ad, cap, (vs.drop (off * sz')).take (len * sz'), by rw [hlen], ⟨by rw [hes]; simp [h1.1], fun v hv => h1.2.1 v (List.mem_of_mem_drop (List.mem_of_mem_take hv)), fun j t v h3 h4 => ?_⟩, fun j v hj => ?_, hmem, by rw [hlen]; exact h8⟩
      · rw [hes] at h3
        have hlt : j < len * sz' := by have := (List.getElem?_eq_some_iff.1 h4).1; simp at this; omega
        rw [List.getElem?_take_of_lt hlt, List.getElem?_drop] at h3 h4
        exact h1.2.2 _ _ _ h3 h4
      · have hlt : j < len * sz' := by have := (List.getElem?_eq_some_iff.1 hj).1; simp at this; omega
        rw [List.getElem?_take_of_lt hlt, List.getElem?_drop] at hj
        rcases h7 with h7 | h7
        · rw [h7, add_mk, Nat.add_assoc]; exact h2 _ _ hj
        · have : len = 0 := by omega
          subst this; simp at hlt
  | _ => simp [listOf] at hl

theorem run_append_fit (w : World) {t u ty e : TypeId} {i : TypeInfo} (ht : P.underlying t = some (.slice e)) (hu : (∃ e', P.underlying u = some (.slice e')) ∨ P.underlying u = some .string) (hi : P.info? e = some i)
    {base : Option Addr} {yv : Value} {len cap m : Nat} {news : List Value} (hm : ∀ w, (Builtin.lenOf yv).run P w = .ok m w) (hf : (Builtin.firstCells i.size m yv).run P w = .ok news.toArray w) (hroom : len + m ≤ cap) {w' : World}
    (hst : ∀ ad, base = some ad → (storeCells (ad.add (len * i.size)) news).run P w = .ok () w') (hno : base = none → w' = w) :
    (Builtin.append_ #[t, u] ty #[.slice base len cap, yv]).run P w = .ok (.slice base (len + m) cap) w' := by
  rcases hu with ⟨e', hu⟩ | hu
  all_goals
    cases base with
    | none => obtain rfl := hno rfl; simp [Builtin.append_, run_underlying ht, run_underlying hu, sizeOf, typeInfo, hi, hm, hroom, hf]
    | some ad => simp [Builtin.append_, run_underlying ht, run_underlying hu, sizeOf, typeInfo, hi, hm, hroom, hf, hst ad rfl]

theorem run_append_more (w : World) {t u ty e : TypeId} {i : TypeInfo} {z : Value} (ht : P.underlying t = some (.slice e)) (hu : (∃ e', P.underlying u = some (.slice e')) ∨ P.underlying u = some .string) (hi : P.info? e = some i) (hz : i.zero = some z)
    {base : Option Addr} {yv : Value} {len cap m : Nat} {olds news : List Value} (hm : ∀ w, (Builtin.lenOf yv).run P w = .ok m w) (hf : (Builtin.firstCells i.size m yv).run P w.drew = .ok news.toArray w.drew) (ho : (Builtin.firstCells i.size len (.slice base len cap)).run P w.drew = .ok olds.toArray w.drew)
    (hroom : cap < len + m) (h63 : ((len + m : Nat) : Int) ≤ 9223372036854775807) (hfit : Builtin.nextslicecap (len + m) cap * i.bytes ≤ 281474976710656) :
    (Builtin.append_ #[t, u] ty #[.slice base len cap, yv]).run P w =
      .ok (.slice (some ⟨w.heap.size, 0, none⟩) (len + m) (grownCap w (len + m) cap e)) (w.drew.alloc (.cells (olds.toArray ++ news.toArray ++ Builtin.zeroCells z.cells (grownCap w (len + m) cap e - (len + m))) e)) := by
  have hn : ¬ (len + m ≤ cap) := by omega
  have h63' : ¬ (9223372036854775807 < ((len : Int) + (m : Int))) := by omega
  have h48' : ¬ (281474976710656 < Builtin.nextslicecap (len + m) cap * i.bytes) := by omega
  rcases hu with ⟨e', hu⟩ | hu
  all_goals
    simp [Builtin.append_, run_underlying ht, run_underlying hu, sizeOf, typeInfo, zeroValue, hi, hz, hm, hn, h63', h48', Question.forced, hf, ho, newRow, grownCap]
    congr 2
    apply Array.ext'
    simp [List.append_assoc]

theorem HoldL.append {xs ys : List T} {vs us : List Value} (h : HoldL S xs vs) (h' : HoldL S ys us) : HoldL S (xs ++ ys) (vs ++ us) := by
  refine ⟨by simp [h.1, h'.1], fun v hv => ?_, fun j t v a b => ?_⟩
  · rcases List.mem_append.1 hv with hv | hv
    · exact h.2.1 v hv
    · exact h'.2.1 v hv
  · by_cases hj : j < xs.length
    · rw [List.getElem?_append_left hj] at a
      rw [List.getElem?_append_left (by rw [h.1]; exact hj)] at b
      exact h.2.2 _ _ _ a b
    · rw [List.getElem?_append_right (by omega)] at a
      rw [List.getElem?_append_right (by rw [h.1]; omega), h.1] at b
      exact h'.2.2 _ _ _ a b

/-- A grown row, as a list of the call's own. -/
theorem grown_ok {es : List T} {vs rest : List Value} {sz : Nat} {e : TypeId} (w : World) (hH : HoldL S (flat es) vs) (hsz : ∀ e ∈ es, e.cells.length = sz) {w' : World} {cells : Array Value} (hc : cells.toList = vs ++ rest)
    (hw : w' = w.drew.alloc (.cells cells e)) : ArrOk S w' w.heap.size 0 (vs ++ rest).length sz es := by
  subst hw
  have hnew := new_row w.drew cells e
  refine ⟨vs, hH, fun j v hj => ?_, hsz, by simp, fun j hj => ?_⟩
  · rw [Nat.zero_add]
    have : (vs ++ rest)[j]? = some v := by rw [List.getElem?_append_left (List.getElem?_eq_some_iff.1 hj).1]; exact hj
    exact (hnew j v (by rw [hc]; exact this)).1
  · rw [Nat.zero_add]
    have := hnew j _ (by rw [hc]; exact List.getElem?_eq_getElem hj)
    exact ⟨by rw [show (w.heap.size) = w.drew.heap.size from rfl, this.1]; rfl, this.2⟩

theorem run_firstCells_zero (w : World) (sz : Nat) (q : Option Addr) (l c : Nat) : (Builtin.firstCells sz 0 (.slice q l c)).run P w = .ok ([] : List Value).toArray w := by
  cases q with
  | none => exact run_firstCells_none w sz 0 l c
  | some q => exact run_firstCells_some w sz 0 q l c [] (by simp) (by simp)
theorem firstCells_src (w : World) {sz : Nat} {fs : List T} {v : Value}
    (h : ((∃ q, v = .slice q 0 0) ∧ fs = []) ∨ ∃ ad cap vs, v = .slice (some ad) fs.length cap ∧ HoldL S (flat fs) vs ∧ (∀ (j : Nat) v, vs[j]? = some v → w.cell? (ad.add j) = some v) ∧ (∀ e ∈ fs, e.cells.length = sz) ∧ fs.length ≤ cap) :
    ∃ q c vs, v = .slice q fs.length c ∧ HoldL S (flat fs) vs ∧ (∀ e ∈ fs, e.cells.length = sz) ∧ vs.length = fs.length * sz ∧ (Builtin.firstCells sz fs.length (.slice q fs.length c)).run P w = .ok vs.toArray w ∧
      (Builtin.firstCells sz fs.length (.slice q fs.length c)).run P w.drew = .ok vs.toArray w.drew := by
  rcases h with ⟨⟨q, rfl⟩, rfl⟩ | ⟨ad, cap, vs, rfl, h1, h2, h3, h4⟩
  · exact ⟨q, 0, [], rfl, ⟨rfl, by simp, by simp⟩, by simp, by simp, run_firstCells_zero w sz q 0 0, run_firstCells_zero w.drew sz q 0 0⟩
  · have hl : vs.length = fs.length * sz := by rw [h1.1, flat_length h3]
    exact ⟨some ad, cap, vs, rfl, h1, h3, hl, run_firstCells_some w sz fs.length ad _ cap vs hl h2, run_firstCells_some w.drew sz fs.length ad _ cap vs hl h2⟩

/-- A list that outgrows its row. -/
theorem append_grow (w : World) {t u ty e : TypeId} {i : TypeInfo} {z : Value} (ht : P.underlying t = some (.slice e)) (hu : (∃ e', P.underlying u = some (.slice e')) ∨ P.underlying u = some .string) (hi : P.info? e = some i) (hz : i.zero = some z) (hzs : z.cells.size = i.size)
    {base : Option Addr} {yv : Value} {cap : Nat} {es fs : List T} {olds news : List Value} (hm : ∀ w, (Builtin.lenOf yv).run P w = .ok fs.length w) (hH : HoldL S (flat es) olds) (hH' : HoldL S (flat fs) news) (hsz : ∀ e ∈ es, e.cells.length = i.size) (hsz' : ∀ e ∈ fs, e.cells.length = i.size)
    (hf : (Builtin.firstCells i.size fs.length yv).run P w.drew = .ok news.toArray w.drew) (ho : (Builtin.firstCells i.size es.length (.slice base es.length cap)).run P w.drew = .ok olds.toArray w.drew)
    (hroom : cap < es.length + fs.length) (hpos : 0 < i.size) (hb : (es.length + fs.length) * i.bytes ≤ 140737488355328) (h63 : es.length + fs.length ≤ 9223372036854775807) :
    ∃ val w' p, (Builtin.append_ #[t, u] ty #[.slice base es.length cap, yv]).run P w = .ok val w' ∧ Fr [] w w' ∧ w.heap.size ≤ p.b ∧ p.b < w'.heap.size ∧ ArrOk S w' p.b p.base p.room i.size (es ++ fs) ∧
      SlOk (some p) i.size 0 (es.length + fs.length) val ∧ val.oneCell' = true := by
  have hr := run_append_more (P := P) (ty := ty) w ht hu hi hz hm hf ho hroom (by omega) (growslice_fits hroom hb)
  have hge := grownCap_ge w (es.length + fs.length) cap e
  refine ⟨_, _, ⟨w.heap.size, 0, ((olds ++ news) ++ (Builtin.zeroCells z.cells (grownCap w (es.length + fs.length) cap e - (es.length + fs.length))).toList).length⟩, hr, (Fr.drew w).trans (Fr.alloc _ _) (by simp), Nat.le_refl _, by simp, ?_, ?_, rfl⟩
  · refine grown_ok w (vs := olds ++ news) ?_ ?_ (by simp) rfl
    · rw [flat_append]; exact hH.append hH'
    · intro e he
      rcases List.mem_append.1 he with he | he
      · exact hsz e he
      · exact hsz' e he
  · refine ⟨⟨w.heap.size, 0, none⟩, grownCap w (es.length + fs.length) cap e, rfl, .inl (by simp), hge, ?_⟩
    have e1 := hH.1
    have e2 := hH'.1
    rw [flat_length hsz] at e1
    rw [flat_length hsz'] at e2
    simp only [List.length_append, Array.length_toList, size_zeroCells, hzs, e1, e2]
    rw [← Nat.add_mul, ← Nat.add_mul]
    refine Nat.mul_le_mul_right _ ?_
    omega

theorem bytes_src (w : World) (b : ByteArray) : ∃ vs : List Value, HoldL S (flat (ofBytes b)) vs ∧ (∀ e ∈ ofBytes b, e.cells.length = 1) ∧ vs.length = (ofBytes b).length * 1 ∧ ∀ w, (Builtin.firstCells 1 (ofBytes b).length (.string b)).run P w = .ok vs.toArray w := by
  have hl : (ofBytes b).length = b.size := by simp [ofBytes]
  have hfl : flat (ofBytes b) = ofBytes b := by
    unfold flat ofBytes
    generalize b.data.toList = l
    induction l with
    | nil => rfl
    | cons x r ih => simp only [List.map_cons, List.flatMap_cons, ih]; rfl
  refine ⟨b.data.toList.map fun c => .int .u8 c.toNat, ⟨by rw [hfl]; simp [ofBytes], fun v hv => ?_, fun j t v h1 h2 => ?_⟩, fun e he => ?_, by rw [hl]; simp, fun w => ?_⟩
  · obtain ⟨c, _, rfl⟩ := List.mem_map.1 hv; rfl
  · rw [hfl] at h1
    simp only [ofBytes, List.getElem?_map, Option.map_eq_some_iff] at h1 h2
    obtain ⟨c, hc, rfl⟩ := h1
    obtain ⟨c', hc', rfl⟩ := h2
    obtain rfl := Option.some.inj (hc.symm.trans hc')
    exact .int .u8 _
  · obtain ⟨c, _, rfl⟩ := List.mem_map.1 he; rfl
  · have he : b.extract 0 b.size = b := by simp
    simp [Builtin.firstCells, hl, he]
    apply Array.ext'; simp
/-- What stands behind an append, in the machine. -/
theorem src_ok (hτ : TOk P τ) (M : Mem Γ al hp w μ) {e u : Nat} {b : C} {v : Value} {sz : Nat} {fs : List T} (h : COk al hp (Sv Γ.G hp μ w) μ b v) (hl : srcOf τ hp e u b = some (sz, fs)) :
    ((∃ e', P.underlying u = some (.slice e')) ∨ P.underlying u = some .string) ∧ ∃ vs, (∀ w, (Builtin.lenOf v).run P w = .ok fs.length w) ∧ HoldL (Sv Γ.G hp μ w) (flat fs) vs ∧ (∀ e ∈ fs, e.cells.length = sz) ∧ vs.length = fs.length * sz ∧
      (Builtin.firstCells sz fs.length v).run P w = .ok vs.toArray w ∧ (Builtin.firstCells sz fs.length v).run P w.drew = .ok vs.toArray w.drew := by
  unfold srcOf at hl
  split at hl
  · rename_i e' hk
    split at hl
    · obtain ⟨q, c, vs, rfl, h1, h2, h3, h4, h5⟩ := firstCells_src (P := P) w (list_src M h hl)
      exact ⟨.inl ⟨e', (slice_of hτ hk).1⟩, vs, fun w => rfl, h1, h2, h3, h4, h5⟩
    · cases hl
  · rename_i hk
    split at hl
    · rename_i s hk1
      obtain ⟨rfl, rfl⟩ := Prod.mk.inj (Option.some.inj hl)
      have hv : v = .string s := by cases h.1; rfl
      subst hv
      have hk' := (hτ u _ (find_of_k (by rw [hk]; simp))).k
      obtain ⟨vs, h1, h2, h3, h4⟩ := bytes_src (P := P) (S := Sv Γ.G hp μ w) w s
      exact ⟨.inr (by simpa only [kOk, hk] using hk'), vs, fun w => by simp [Builtin.lenOf, ofBytes], h1, h2, h3, h4 w, h4 w.drew⟩
    · cases hl
  · cases hl

theorem op_append (hτ : TOk P τ) (R : Rel Γ al s a w μ) (hn : ¬ al n) {xs : Array Operand} {ts : Array TypeId} (ho : o.op = .call ⟨.builtin .append, xs, ts⟩) (h : op P τ md o s n K) (N : Nxt Γ al s a w μ n o.dst K next)
    (hz : ∀ x y t u e sz k m, xs = #[x, y] → ts = #[t, u] → (tg τ t).k = .slice e → s.eval τ t x = .a (.c (.nil sz)) → s.eval τ u y = .a (.c (.t (.int k m))) → zerosK τ n e u m K → o.wp P a w next Q) : o.wp P a w next Q := by
  simp only [op, ho] at h
  split at h
  · rename_i x y t u hxs hts
    obtain rfl := toList_two hxs
    obtain rfl := toList_two hts
    have hx := eval_ok (τ := τ) R t x
    have hy := eval_ok (τ := τ) R u y
    split at h
    · rename_i hk he1 he2
      exact hz _ _ _ _ _ _ _ _ rfl rfl hk he1 he2 h
    · rename_i e ca cb hne hk he1 he2
      rw [he1] at hx
      rw [he2] at hy
      obtain ⟨hu, _⟩ := slice_of hτ hk
      split at h
      · rename_i d sz fs hd hl
        obtain ⟨inf, z, i1, i2, i3, i4, i5, i6, i7, i8⟩ := (hτ e d hd).info
        split at h
        · rename_i hcond
          simp only [Bool.and_eq_true, beq_iff_eq, decide_eq_true_eq] at hcond
          obtain ⟨⟨rfl, hpos⟩, hbpos⟩ := hcond
          obtain ⟨hu', vs, hm, hH, hsz, hvl, hf1, hf2⟩ := src_ok hτ R.mem hy hl
          have hrun : ∀ {base : Option Addr} {len cap : Nat} {r : Value} {w' : World}, a.eval x = .slice base len cap → (Builtin.append_ #[t, u] o.type #[.slice base len cap, a.eval y]).run P w = .ok r w' →
              (execOp a.eval o).run P w = .ok (.value r) w' := fun h1 h2 => by
            simp [execOp, ho, resolve, invoke, builtin, h1, h2]
          have h63 : ∀ m : Nat, m * d.bytes ≤ 140737488355328 → m ≤ 9223372036854775807 := fun m h1 => by
            have : m * 1 ≤ m * d.bytes := Nat.mul_le_mul_left _ hbpos
            omega
          have hgrow := fun {base : Option Addr} {cap : Nat} {es : List T} {olds : List Value} => append_grow (P := P) (S := Sv Γ.G s.hp μ w) (ty := o.type) w hu hu' i1 i4 (by rw [i5, i2]) (base := base) (cap := cap) (es := es) (olds := olds) (yv := a.eval y) (fs := fs) (news := vs) hm
          rw [i2, i3] at hgrow
          have hfit := fun {base : Option Addr} {len cap : Nat} => run_append_fit (P := P) (ty := o.type) (base := base) (len := len) (cap := cap) (yv := a.eval y) (m := fs.length) (news := vs) w hu hu' i1 hm
          rw [i2] at hfit
          split at h
          · rename_i sz'
            obtain ⟨hb, hK⟩ := h
            by_cases h0 : fs.length = 0
            · have hfs : fs = [] := List.length_eq_zero_iff.1 h0
              subst hfs
              have hr := hfit (base := none) (len := 0) (cap := 0) hf1 (by simp) (w' := w) (by simp) (fun _ => rfl)
              exact wp_val (hrun hx hr) (N.new R hn (Fr.refl _ _) (p := none) hK (by simp) rfl ⟨⟨.inr ⟨Nat.le_refl _, by omega⟩, Nat.zero_le _⟩, rfl, fun sz es hA => by
                simp only [arrOf, find_put, if_true, beq_self_eq_true, Option.some.injEq, Prod.mk.injEq] at hA
                obtain ⟨rfl, rfl⟩ := hA
                refine ⟨Nat.le_refl _, ?_⟩
                simp only [setμ, if_true]
                exact ⟨rfl, rfl, none, rfl⟩⟩)
            · obtain ⟨val, w', p, hr, hfr, p1, p2, hA, hS, hone⟩ := hgrow (base := none) (cap := 0) (es := []) (olds := []) ⟨rfl, by simp, by simp⟩ hH (by simp) hsz hf2 (run_firstCells_none w.drew d.sz 0 0 0) (by simp; omega) hpos (by simpa using hb) (h63 _ (by simpa using hb))
              simp only [List.length_nil, Nat.zero_add, List.nil_append] at hr hA hS
              exact wp_val (hrun hx hr) (N.new R hn hfr (p := some p) hK (fun q hq => by obtain rfl := Option.some.inj hq; exact ⟨p1, p2⟩) hA ⟨⟨.inr ⟨Nat.le_refl _, by omega⟩, Nat.zero_le _⟩, hone, fun sz es hA => by
                simp only [arrOf, find_put, if_true, beq_self_eq_true, Option.some.injEq, Prod.mk.injEq] at hA
                obtain ⟨rfl, rfl⟩ := hA
                refine ⟨by omega, ?_⟩
                simp only [setμ, if_true]
                exact hS⟩)
          · rename_i i v len
            split at h
            · rename_i sz' es v' hb0
              split at h
              · rename_i hvv
                simp only [Bool.and_eq_true, beq_iff_eq] at hvv
                obtain ⟨rfl, rfl⟩ := hvv
                obtain ⟨rfl, hb, hK⟩ := h
                have hA : arrOf s.hp i v = some (d.sz, es) := by simp [arrOf, hb0]
                obtain ⟨h4, h5⟩ := hx.2.2 _ _ hA
                have hver : verOf s.hp i ≤ verOf (put s.hp i (.arr d.sz (es ++ fs) (v + 1))) i := by simp [verOf, find_put, hb0]
                have harr : ∀ ver, ver ≤ verOf s.hp i → arrOf (put s.hp i (.arr d.sz (es ++ fs) (v + 1))) i ver = none := fun ver hv => by
                  simp only [verOf, hb0] at hv
                  have : (ver == v + 1) = false := by simp; omega
                  simp [arrOf, find_put, this]
                have hval : ∀ {al' : Nat → Prop} {S' : Addr → Option Value} {μ' : Nat → Option Pl} {val : Value}, al' i → val.oneCell' = true → SlOk (μ' i) d.sz 0 (es.length + fs.length) val →
                    AVOk al' (put s.hp i (.arr d.sz (es ++ fs) (v + 1))) S' μ' (.c (.own i (v + 1) 0 (es.length + fs.length))) val := fun ha h1 h2 => by
                  refine ⟨⟨ha, by simp [verOf, find_put]⟩, h1, fun sz es' hA => ?_⟩
                  simp only [arrOf, find_put, if_true, beq_self_eq_true, Option.some.injEq, Prod.mk.injEq] at hA
                  obtain ⟨rfl, rfl⟩ := hA
                  exact ⟨by simp, h2⟩
                have hgrown : ∀ {base : Option Addr} {cap : Nat} {olds : List Value}, a.eval x = .slice base es.length cap → HoldL (Sv Γ.G s.hp μ w) (flat es) olds → (∀ e ∈ es, e.cells.length = d.sz) → (Builtin.firstCells d.sz es.length (.slice base es.length cap)).run P w.drew = .ok olds.toArray w.drew →
                    cap < es.length + fs.length → o.wp P a w next Q := fun hxv hO hszE hfo hroom => by
                  obtain ⟨val, w', p, hr, hfr, p1, p2, hA, hS, hone⟩ := hgrow hO hH hszE hsz hf2 hfo hroom hpos hb (h63 _ hb)
                  exact wp_val (hrun hxv hr) (N.move R hb0 hfr (p := some p) hK hver harr (by simp) (fun q hq => by obtain rfl := Option.some.inj hq; exact ⟨p1, p2⟩) hA (hval (.inl hx.1.1) hone (by simp only [setμ, if_true]; exact hS)))
                cases hp : μ i with
                | none =>
                  rw [hp] at h5
                  obtain ⟨_, hl0, q', hxv⟩ := h5
                  have hes : es = [] := List.length_eq_zero_iff.1 hl0
                  subst hes
                  by_cases h0 : fs.length = 0
                  · have hfs : fs = [] := List.length_eq_zero_iff.1 h0
                    subst hfs
                    have hvs : vs = [] := List.length_eq_zero_iff.1 (by simpa using hvl)
                    have hr := hfit (base := q') (len := 0) (cap := 0) hf1 (by simp) (w' := w) (by rw [hvs]; intro _ _; rfl) (fun _ => rfl)
                    exact wp_val (hrun hxv hr) (N.move R hb0 (Fr.refl _ _) (p := none) hK hver harr (by simp) (by simp) rfl (hval (.inl hx.1.1) rfl (by simp only [setμ, if_true]; exact ⟨rfl, rfl, q', rfl⟩)))
                  · exact hgrown hxv (olds := []) ⟨rfl, by simp, by simp⟩ (by simp) (run_firstCells_zero w.drew d.sz q' 0 0) (by simp; omega)
                | some p =>
                  rw [hp] at h5
                  obtain ⟨ad, cap, hxv, h7, h8, h9⟩ := h5
                  have hB := R.mem.blk _ _ hb0
                  rw [hp] at hB
                  obtain ⟨ovs, hO, hc, hszE, hroomE, hcells⟩ := hB
                  have hOl : ovs.length = es.length * d.sz := by rw [hO.1, flat_length hszE]
                  have hcad : ∀ (j : Nat) v, ovs[j]? = some v → w.cell? (ad.add j) = some v := fun j v hj => by
                    rcases h7 with h7 | h7
                    · rw [h7, add_mk, Nat.zero_mul, Nat.add_zero]; exact hc j v hj
                    · have : es.length = 0 := by omega
                      rw [this] at hOl
                      have := (List.getElem?_eq_some_iff.1 hj).1
                      omega
                  by_cases hroom : es.length + fs.length ≤ cap
                  · have hle : es.length * d.sz + fs.length * d.sz ≤ p.room := by
                      rw [← Nat.add_mul]; exact Nat.le_trans (Nat.mul_le_mul_right _ (by omega)) h9
                    have hst : ∀ ad', some ad = some ad' → (storeCells (ad'.add (es.length * d.sz)) vs).run P w = .ok () (w.setCells p.b (p.base + es.length * d.sz) vs) := fun ad' e => by
                      obtain rfl := Option.some.inj e
                      by_cases hc0 : cap = 0
                      · have : fs.length = 0 := by omega
                        rw [this] at hvl
                        have : vs = [] := List.length_eq_zero_iff.1 (by simpa using hvl)
                        subst this
                        rfl
                      · have h7' : ad = ⟨p.b, p.base + 0 * d.sz, none⟩ := by
                          rcases h7 with h7 | h7
                          · exact h7
                          · exact absurd h7 hc0
                        subst h7'
                        have := run_storeCells_cells (P := P) p.b (p.base + es.length * d.sz) vs 0 w
                          (fun j hj => by have := (hcells (es.length * d.sz + j) (by omega)).1; rw [show p.base + es.length * d.sz + 0 + j = p.base + (es.length * d.sz + j) by omega]; exact this)
                          (fun j hj => by have := (hcells (es.length * d.sz + j) (by omega)).2; rw [show p.base + es.length * d.sz + 0 + j = p.base + (es.length * d.sz + j) by omega]; exact this) hH.2.1
                        rw [add_mk, show p.base + 0 * d.sz + es.length * d.sz = p.base + es.length * d.sz by omega]
                        exact this
                    have hr := hfit (base := some ad) (len := es.length) (cap := cap) hf1 hroom (w' := w.setCells p.b (p.base + es.length * d.sz) vs) hst (by simp)
                    have hbo : BlkOk al s.hp (Sv Γ.G s.hp μ w) μ (w.setCells p.b (p.base + es.length * d.sz) vs) (.arr d.sz (es ++ fs) (v + 1)) (some p) := by
                      refine ⟨ovs ++ vs, by rw [flat_append]; exact hO.append hH, fun j u hj => ?_, fun e he => ?_, by rw [List.length_append]; omega, fun j hj => ?_⟩
                      · by_cases hjl : j < ovs.length
                        · rw [List.getElem?_append_left hjl] at hj
                          rw [World.cell?_setCells_out _ _ _ _ _ (fun _ _ => .inl (by simp; omega))]
                          exact hc j u hj
                        · rw [List.getElem?_append_right (by omega)] at hj
                          have hlt := (List.getElem?_eq_some_iff.1 hj).1
                          have := World.cell?_setCells_in p.b vs (p.base + es.length * d.sz) w (fun i hi => by have := (hcells (es.length * d.sz + i) (by omega)).1; rw [Nat.add_assoc]; exact this) (j - ovs.length) hlt
                          rw [show p.base + es.length * d.sz + (j - ovs.length) = p.base + j by omega] at this
                          rw [this]
                          rw [List.getElem?_eq_getElem hlt] at hj
                          exact hj
                      · rcases List.mem_append.1 he with he | he
                        · exact hszE e he
                        · exact hsz e he
                      · exact ⟨setCells_isSome (fun i hi => by have := (hcells (es.length * d.sz + i) (by omega)).1; rw [Nat.add_assoc]; exact this) (hcells j hj).1, by rw [World.frozen?_setCells]; exact (hcells j hj).2⟩
                    obtain ⟨m, e⟩ := R.mem.write (al' := al16 al n) (fun _ h => .inl h) hb0 rfl (b' := .arr d.sz (es ++ fs) (v + 1)) rfl hp (p.base + es.length * d.sz) vs hver
                      (fun ver sz es' hv h' => by rw [harr ver hv] at h'; cases h') (fun cs' h' => by cases h') hbo
                    refine wp_val (hrun hxv hr) (N _ [(i, .arr d.sz (es ++ fs) (v + 1))] _ _ μ hK m e (hval (.inl hx.1.1) rfl ?_))
                    rw [hp]
                    exact ⟨ad, cap, rfl, h7, hroom, h9⟩
                  · exact hgrown hxv hO hszE (run_firstCells_some w.drew d.sz es.length ad es.length cap ovs hOl hcad) (by omega)
              · exact h.elim
            · exact h.elim
          · exact h.elim
        · exact h.elim
      · exact h.elim
    · exact h.elim
  · exact h.elim
end
end Go.Proofs.YtbmibaopkfenbaaDoor.M

/- A machine of values: each operation does on the machine what is told of it, part 8: conversions, literals. No condition. -/
namespace Go.Proofs.YtbmibaopkfenbaaDoor.M
open Go
set_option linter.unusedSimpArgs false
set_option linter.unusedVariables false
set_option linter.unusedSectionVars false

section
variable {P : Program} {τ : Tab} {Γ : Ctx} {al : Nat → Prop} {s : St} {a : Act} {w : World} {μ : Nat → Option Pl} {n : Nat} {K : AV → List (Nat × Blk) → Prop} {next : Act → World → Prop}
variable {o : Oper} {Q : Exit → Act → World → Prop} {md : Nat → Md} {hp : List (Nat × Blk)} {S : Addr → Option Value}

theorem int_of (hτ : TOk P τ) {t : Nat} {k : IntKind} (hk : (tg τ t).k = .int k) : P.underlying t = some (.int k) := by
  have hk' := (hτ t _ (find_of_k (by rw [hk]; simp))).k
  simpa only [kOk, hk] using hk'
theorem str_of (hτ : TOk P τ) {t : Nat} (hk : (tg τ t).k = .str) : P.underlying t = some .string := by
  have hk' := (hτ t _ (find_of_k (by rw [hk]; simp))).k
  simpa only [kOk, hk] using hk'

theorem bytes_values {es : List T} (h : ∀ b ∈ es, isByte b) : es = (es.map T.num).map (T.int .u8) := by
  rw [List.map_map]
  conv => lhs; rw [← List.map_id es]
  refine List.map_congr_left fun b hb => ?_
  have := h b hb
  unfold isByte at this
  split at this
  · rfl
  · exact this.elim
theorem flat_ints {k : IntKind} (ns : List Int) : flat (ns.map (T.int k)) = ns.map (T.int k) := by
  induction ns with
  | nil => rfl
  | cons n r ih => rw [List.map_cons, flat_cons, ih]; rfl
theorem HoldL_ints {k : IntKind} {ns : List Int} {vs : List Value} (h : HoldL S (ns.map (T.int k)) vs) : vs = ns.map (Value.int k) := by
  apply List.ext_getElem?
  intro j
  rw [List.getElem?_map]
  cases hn : ns[j]? with
  | none =>
    have : ns.length ≤ j := by simpa using hn
    rw [List.getElem?_eq_none (by rw [h.1]; simpa using this)]; rfl
  | some m =>
    have hlt : j < vs.length := by rw [h.1]; simpa using (List.getElem?_eq_some_iff.1 hn).1
    have := h.2.2 j (.int k m) vs[j] (by rw [List.getElem?_map, hn]; rfl) (List.getElem?_eq_getElem hlt)
    rw [List.getElem?_eq_getElem hlt, t_int this]; rfl

theorem op_convert (hτ : TOk P τ) (R : Rel Γ al s a w μ) (hn : ¬ al n) {src dst : TypeId} {x : Operand} (ho : o.op = .convert src dst x) (h : op P τ md o s n K) (N : Nxt Γ al s a w μ n o.dst K next) : o.wp P a w next Q := by
  have hx := eval_ok (τ := τ) R src x
  simp only [op, ho] at h
  split at h
  · rename_i k' k k'' m h1 h2 he
    have u1 := int_of hτ h1
    have u2 := int_of hτ h2
    have e := eval_int R he
    exact wp_val (val := .int k (k.wrap m)) (by simp [execOp, ho, convert, run_underlying u1, run_underlying u2, e, Conv.intToInt]) (N.quiet R h ⟨.int _ _, rfl⟩)
  · rename_i b h1 h2 he
    have u1 := str_of hτ h1
    have u2 := str_of hτ h2
    have e := eval_str R he
    exact wp_val (val := .string b) (by simp [execOp, ho, convert, run_underlying u1, run_underlying u2, e]) (N.quiet R h ⟨.str _, rfl⟩)
  · rename_i e c h1 h2 he
    rw [he] at hx
    obtain ⟨u1, _⟩ := slice_of hτ h1
    have u2 := str_of hτ h2
    split at h
    · rename_i sz es hke hl
      obtain ⟨hby, hK⟩ := h
      have u3 := int_of hτ hke
      have hes := bytes_values hby
      have hlen : es.length = (es.map T.num).length := by simp
      have hbs : ∀ ad cap vs, a.eval x = .slice (some ad) es.length cap → HoldL (Sv Γ.G s.hp μ w) (flat es) vs → (∀ (j : Nat) v, vs[j]? = some v → w.cell? (ad.add j) = some v) → (execOp a.eval o).run P w = .ok (.value (.string (bytes es))) w := fun ad cap vs e1 e2 e3 => by
        rw [hes, flat_ints] at e2
        have e4 := HoldL_ints e2
        have e5 := run_loadCells_list (P := P) w ad vs e3
        have e6 : vs.length = es.length := by rw [e4]; simp
        rw [e6] at e5
        rw [e4] at e5
        have e7 := run_bytesToString (P := P) w ad es.length cap (es.map T.num) e5
        rw [foldl_push_bytes] at e7
        have e8 : bytes es = ⟨ByteArray.empty.data ++ ((es.map T.num).map fun n => UInt8.ofNat n.toNat).toArray⟩ := by
          unfold bytes; rw [show ByteArray.empty.data = #[] from rfl]; simp
        rw [e8]
        simp [execOp, ho, e1, run_convert_bytes_string w src dst e _ _ _ u1 u3 u2, e7]
      rcases list_src R.mem hx hl with ⟨⟨q, hv⟩, rfl⟩ | ⟨ad, cap, vs, hv, hH, hc, hsz, hcap⟩
      · refine wp_val (val := .string (bytes [])) ?_ (N.quiet R hK ⟨.str _, rfl⟩)
        cases q <;> simp [execOp, ho, hv, run_convert_bytes_string w src dst e _ _ _ u1 u3 u2, Conv.bytesToString, bytes, loadCells, loadCellsFrom] <;> rfl
      · exact wp_val (hbs ad cap vs hv hH hc) (N.quiet R hK ⟨.str _, rfl⟩)
    · exact h.elim
  · rename_i e b h1 h2 he
    have u1 := str_of hτ h1
    obtain ⟨u2, _⟩ := slice_of hτ h2
    have e' := eval_str R he
    split at h
    · rename_i hke
      have u3 := int_of hτ hke
      have hr := Lib.run_convert_string_bytes (P := P) w src dst e b u1 u2 u3
      refine wp_val (val := .slice (some ⟨w.heap.size, 0, none⟩) b.size (grownCap w b.size 0 e)) (w' := Lib.bytesWorld w e b) (by simp [execOp, ho, e', hr]) ?_
      have hfr : Fr [] w (Lib.bytesWorld w e b) := Fr.of _ _ _ rfl rfl rfl (by rw [Lib.bytesWorld_size]; omega) fun k hk => Lib.bytesWorld_at_old w e b k hk
      have hge := grownCap_ge w b.size 0 e
      have hcsz : (Lib.bytesCells w e b).size = grownCap w b.size 0 e := by
        have : b.data.size = b.size := rfl
        simp [Lib.bytesCells, this]; omega
      refine N.new R hn hfr (p := some ⟨w.heap.size, 0, grownCap w b.size 0 e⟩) h (fun q hq => by obtain rfl := Option.some.inj hq; rw [Lib.bytesWorld_size]; simp) ?_ ⟨⟨.inr ⟨Nat.le_refl _, by omega⟩, Nat.zero_le _⟩, rfl, fun sz es hA => ?_⟩
      · have hob : ofBytes b = (b.data.toList.map fun c => (c.toNat : Int)).map (T.int .u8) := by simp [ofBytes]
        refine ⟨(b.data.toList.map fun c => (c.toNat : Int)).map (Value.int .u8), ?_, ?_, ?_, ?_, ?_⟩
        · rw [hob, flat_ints]
          refine ⟨by simp, by simp [Value.oneCell'], fun j t v h1 h2 => ?_⟩
          rw [List.getElem?_map, Option.map_eq_some_iff] at h1 h2
          obtain ⟨m1, h3, rfl⟩ := h1
          obtain ⟨m2, h4, rfl⟩ := h2
          rw [h3] at h4
          obtain rfl := Option.some.inj h4
          exact .int _ _
        · intro j v hj
          have hlt : j < b.size := by have := (List.getElem?_eq_some_iff.1 hj).1; simpa using this
          rw [Nat.zero_add, Lib.bytesWorld_cell w e b j hlt]
          rw [List.getElem?_map, List.getElem?_map] at hj
          have hlt' : j < b.data.toList.length := by simpa using hlt
          rw [List.getElem?_eq_getElem hlt'] at hj
          simp only [Option.map_some] at hj
          rw [List.getD_eq_getElem?_getD, List.getElem?_eq_getElem hlt']
          exact hj
        · intro t ht
          simp only [ofBytes, List.mem_map] at ht
          obtain ⟨c, _, rfl⟩ := ht
          rfl
        · simp only [List.length_map, Array.length_toList]; exact hge
        · intro j hj
          have hlt : j < (Lib.bytesCells w e b).size := by rw [hcsz]; exact hj
          rw [Nat.zero_add]
          constructor
          · simp [World.cell?, Lib.bytesWorld_at_new, hlt]
          · simp [World.frozen?, Lib.bytesWorld_at_new]; omega
      · simp only [arrOf, find_put, if_true, beq_self_eq_true, Option.some.injEq, Prod.mk.injEq] at hA
        obtain ⟨rfl, rfl⟩ := hA
        refine ⟨by simp [ofBytes], ?_⟩
        simp only [setμ, if_true]
        exact ⟨_, _, rfl, .inl (by simp), hge, by show (0 + grownCap w b.size 0 e) * 1 ≤ grownCap w b.size 0 e; omega⟩
    · exact h.elim
  · exact h.elim

theorem zero_elem {d : TD} {z : T} {zs : List Value} (hl : d.z.length = d.sz) (hz : sealA (if d.ag then .g d.z else .c (d.z.getD 0 .undef)) = some z) (hpos : 0 < d.sz) (h1 : d.ag = false → d.sz = 1) (hc : zs.length = d.sz) (h2 : ∀ v ∈ zs, v.oneCell' = true)
    (hzo : ∀ (j : Nat) c v, d.z[j]? = some c → zs[j]? = some v → zOk c v) : HoldL S z.cells zs ∧ z.cells.length = d.sz := by
  have hC : CsOk (fun _ => True) [] S (fun _ => none) d.z zs := ⟨by omega, h2, fun j c v a b => by
    have := hzo j c v a b
    unfold zOk at this
    split at this
    · obtain ⟨rfl, rfl⟩ := this; exact ⟨.int _ _, rfl⟩
    · subst this; exact ⟨.bool _, rfl⟩
    · subst this; exact ⟨.str _, rfl⟩
    · exact rfl
    · exact rfl
    · exact this.elim⟩
  cases hag : d.ag with
  | true =>
    simp only [hag, if_true, sealA, Option.map_eq_some_iff] at hz
    obtain ⟨xs, h3, rfl⟩ := hz
    exact ⟨sealL_ok hC h3, by simp [T.cells, sealL_length h3, hl]⟩
  | false =>
    have h4 := h1 hag
    simp only [hag, Bool.false_eq_true, if_false, sealA] at hz
    obtain ⟨c0, hz0⟩ : ∃ c0, d.z = [c0] := by
      cases hh : d.z with
      | nil => rw [hh] at hl; simp at hl; omega
      | cons c r => cases r with
        | nil => exact ⟨c, rfl⟩
        | cons _ _ => rw [hh] at hl; simp at hl; omega
    obtain ⟨v0, hv0⟩ : ∃ v0, zs = [v0] := by
      cases hh : zs with
      | nil => rw [hh] at hc; simp at hc; omega
      | cons c r => cases r with
        | nil => exact ⟨c, rfl⟩
        | cons _ _ => rw [hh] at hc; simp at hc; omega
    subst hv0
    rw [hz0] at hz hC
    have h5 := sealC_ok (hC.2.2 0 c0 v0 rfl rfl) (by simpa using hz)
    have h6 := one_of_hold h5 (h2 v0 (by simp))
    rw [h6]
    refine ⟨⟨rfl, by simpa using h2 v0 (by simp), fun j t v a b => ?_⟩, by simp [h4]⟩
    cases j with
    | zero => simp at a b; subst a; subst b; exact h5
    | succ j => simp at a
end
end Go.Proofs.YtbmibaopkfenbaaDoor.M
