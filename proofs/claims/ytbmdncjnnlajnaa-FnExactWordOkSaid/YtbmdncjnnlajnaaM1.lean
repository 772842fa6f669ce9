/- A machine of values: what a call's contract says, what each operation does, what code does. Definitions alone. No condition. -/
import Derived.Test.YtbmdncjnnlajnaaM0
namespace Go.Proofs.Ytbmdncjnnlajnaa.M
open Go

/-! ### What holds a plain value -/
inductive Hold (S : Addr → Option Value) : T → Value → Prop where
  | int (k : IntKind) (n : Int) : Hold S (.int k n) (.int k n)
  | bool (b : Bool) : Hold S (.bool b) (.bool b)
  | str (s : ByteArray) : Hold S (.str s) (.string s)
  | nil (sz : Nat) : Hold S (.list sz []) (.slice none 0 0)
  | list (sz : Nat) (es : List T) (a : Addr) (n c : Nat) (vs : List Value) (hn : n = es.length) (hc : n ≤ c) (hsz : ∀ e ∈ es, e.cells.length = sz)
      (hl : vs.length = (flat es).length) (hv : ∀ (j : Nat) v, vs[j]? = some v → S (a.add j) = some v) (h1 : ∀ v ∈ vs, v.oneCell' = true)
      (hh : ∀ (j : Nat) t v, (flat es)[j]? = some t → vs[j]? = some v → Hold S t v) : Hold S (.list sz es) (.slice (some a) n c)
  | agg (cs : List T) (vs : List Value) (hl : vs.length = cs.length) (h1 : ∀ v ∈ vs, v.oneCell' = true)
      (hh : ∀ (j : Nat) t v, cs[j]? = some t → vs[j]? = some v → Hold S t v) : Hold S (.agg cs) (.agg vs.toArray)

def HoldL (S : Addr → Option Value) (ts : List T) (vs : List Value) : Prop :=
  vs.length = ts.length ∧ (∀ v ∈ vs, v.oneCell' = true) ∧ ∀ (j : Nat) t v, ts[j]? = some t → vs[j]? = some v → Hold S t v

open Classical in
/-- The memory in some blocks. -/
noncomputable def inV (G : Nat → Prop) (w : World) : Addr → Option Value := fun a => if G a.block then w.cell? a else none

/-- A list in a block of its own: room cells from base on. -/
def ArrOk (S : Addr → Option Value) (w : World) (b base room sz : Nat) (es : List T) : Prop :=
  ∃ vs : List Value, HoldL S (flat es) vs ∧ (∀ (j : Nat) v, vs[j]? = some v → w.cell? ⟨b, base + j, none⟩ = some v) ∧ (∀ e ∈ es, e.cells.length = sz) ∧ vs.length ≤ room ∧
    ∀ j, j < room → (w.cell? ⟨b, base + j, none⟩).isSome = true ∧ w.frozen? ⟨b, base + j, none⟩ = false

def BCOk (S : Addr → Option Value) (w : World) : BC → Value → List Nat → Prop
  | .t x, v, r => r = [] ∧ Hold S x v ∧ v.oneCell' = true
  | .nil _, v, r => r = [] ∧ v = .slice none 0 0
  | .arr sz es, v, r => (r = [] ∧ es = [] ∧ ∃ q, v = .slice q 0 0) ∨
      ∃ b base room cap, r = [b] ∧ v = .slice (some ⟨b, base, none⟩) es.length cap ∧ es.length ≤ cap ∧ cap * sz ≤ room ∧ Sc es ∧ ArrOk S w b base room sz es
def BCsOk (S : Addr → Option Value) (w : World) : List BC → List Value → List Nat → Prop
  | [], vs, r => vs = [] ∧ r = []
  | c :: cs, vs, r => ∃ v vs' r1 r2, vs = v :: vs' ∧ r = r1 ++ r2 ∧ BCOk S w c v r1 ∧ BCsOk S w cs vs' r2
def BoxOk (S : Addr → Option Value) (w : World) (b : Nat) (cs : List BC) (r : List Nat) : Prop :=
  ∃ vs : List Value, BCsOk S w cs vs r ∧ ∀ (j : Nat) v, vs[j]? = some v → w.cell? ⟨b, j, none⟩ = some v ∧ w.frozen? ⟨b, j, none⟩ = false

def ArgOk (S : Addr → Option Value) (w : World) : AA → Value → List Nat → Prop
  | .v x, v, r => r = [] ∧ Hold S x v
  | .nilp, v, r => r = [] ∧ v = .pointer none
  | .mb cs, v, r => ∃ b r', r = b :: r' ∧ v = .pointer (some ⟨b, 0, none⟩) ∧ BoxOk S w b cs r'
def ArgsOk (S : Addr → Option Value) (w : World) : List AA → List Value → List Nat → Prop
  | [], vs, r => vs = [] ∧ r = []
  | x :: xs, vs, r => ∃ v vs' r1 r2, vs = v :: vs' ∧ r = r1 ++ r2 ∧ ArgOk S w x v r1 ∧ ArgsOk S w xs vs' r2
/-- What the boxes that were handed over hold behind the call. -/
def OutsOk (S : Addr → Option Value) (w : World) : List AA → List Value → List (List BC) → List Nat → Prop
  | [], _, os, r => os = [] ∧ r = []
  | .mb cs :: xs, v :: vs, os, r => ∃ o os' b r1 r2, os = o :: os' ∧ o.length = cs.length ∧ r = b :: r1 ++ r2 ∧ v = .pointer (some ⟨b, 0, none⟩) ∧ BoxOk S w b o r1 ∧ OutsOk S w xs vs os' r2
  | _ :: xs, _ :: vs, os, r => OutsOk S w xs vs os r
  | _ :: _, [], _, _ => False

def ResC (own : Bool) (S : Addr → Option Value) (w : World) (x : T) (v : Value) (r : List Nat) : Prop :=
  match own, x with
  | true, .list sz es => BCOk S w (.arr sz es) v r
  | _, x => r = [] ∧ Hold S x v
def ResCs (own : Bool) (S : Addr → Option Value) (w : World) : List T → List Value → List Nat → Prop
  | [], vs, r => vs = [] ∧ r = []
  | x :: xs, vs, r => ∃ v vs' r1 r2, vs = v :: vs' ∧ r = r1 ++ r2 ∧ ResC own S w x v r1 ∧ v.oneCell' = true ∧ ResCs own S w xs vs' r2
def ResA (own : Bool) (S : Addr → Option Value) (w : World) (x : T) (v : Value) (r : List Nat) : Prop :=
  match x with
  | .agg cs => ∃ vs : List Value, v = .agg vs.toArray ∧ ResCs own S w cs vs r
  | x => ResC own S w x v r
def ResL (own : Bool) (S : Addr → Option Value) (w : World) : List T → List Value → List Nat → Prop
  | [], vs, r => vs = [] ∧ r = []
  | x :: xs, vs, r => ∃ v vs' r1 r2, vs = v :: vs' ∧ r = r1 ++ r2 ∧ ResA own S w x v r1 ∧ ResL own S w xs vs' r2
def ResOk (own : Bool) (S : Addr → Option Value) (w : World) (rs : List T) (v : Value) (r : List Nat) : Prop :=
  match rs with
  | [x] => ResA own S w x v r
  | rs => ∃ vs : List Value, v = .tuple vs.toArray ∧ ResL own S w rs vs r

/-- What was there has not turned, but for some blocks. -/
structure Fr (bs : List Nat) (w w' : World) : Prop where
  os : w'.os = w.os
  tape : w'.tape = w.tape
  output : w'.output = w.output
  size : w.heap.size ≤ w'.heap.size
  block : ∀ k, k < w.heap.size → k ∉ bs → w'.heap[k]? = w.heap[k]?

/-- A call that hands back. -/
def CallV (P : Program) (f : FuncId) (args : Array Value) (w : World) (R : Value → World → Prop) : Prop :=
  ((callFunc f args).run P w = .ok (.enter f args) w ∧ Calls P f args w fun e w' => ∃ v, e = .returned v ∧ R v w') ∨ ∃ v w', (callFunc f args).run P w = .ok (.value v) w' ∧ R v w'

/-- A function's contract: with these arguments it hands back these results, and leaves these boxes. own: its lists are new memory; else they may be others' too. -/
def CS (P : Program) (own : Bool) (f : FuncId) (args : List AA) (rs : List T) (os : List (List BC)) : Prop :=
  ∀ (G : Nat → Prop) (w : World) (vals : List Value) (bs : List Nat), ArgsOk (inV G w) w args vals bs → bs.Nodup → (∀ b ∈ bs, b < w.heap.size ∧ ¬ G b) → (∀ b, G b → b < w.heap.size) →
    CallV P f vals.toArray w fun v w' => ∃ r1 r2, Fr bs w w' ∧ ResOk own (inV (fun b => G b ∨ (w.heap.size ≤ b ∨ b ∈ bs) ∧ b ∉ r1 ++ r2) w') w' rs v r1 ∧
      OutsOk (inV (fun b => G b ∨ (w.heap.size ≤ b ∨ b ∈ bs) ∧ b ∉ r1 ++ r2) w') w' args vals os r2 ∧ (r1 ++ r2).Nodup ∧ ∀ b ∈ r1 ++ r2, b < w'.heap.size ∧ (b ∈ bs ∨ w.heap.size ≤ b)

/-! ### Handing over -/
def readC (hp : List (Nat × Blk)) : C → Option T
  | .t x => some x
  | c => (listOf hp c).map fun x => .list x.1 x.2
def readL (hp : List (Nat × Blk)) : List C → Option (List T)
  | [] => some []
  | c :: r => match readC hp c, readL hp r with | some x, some xs => some (x :: xs) | _, _ => none
def readA (hp : List (Nat × Blk)) : A → Option T
  | .c x => readC hp x
  | .g cs => (readL hp cs).map T.agg
/-- The call's own lists that stand in a value: by a call whose results may share them they are frozen. -/
def ownsC : C → List Nat
  | .own i _ _ _ => [i]
  | _ => []
def freeze (hp : List (Nat × Blk)) : List Nat → List (Nat × Blk)
  | [] => []
  | i :: r => match find hp i with | some (.arr sz es v) => (i, .froz sz es v) :: freeze hp r | _ => freeze hp r
def bcK (hp : List (Nat × Blk)) (c : C) (K : BC → Prop) : Prop :=
  match c with
  | .t x => K (.t x)
  | .nil sz => K (.nil sz)
  | .own i v 0 n => match find hp i with
    | some (.arr sz es v') => if v == v' then n = es.length ∧ Sc es ∧ K (.arr sz es) else False
    | _ => False
  | _ => False
def bcsK (hp : List (Nat × Blk)) : List C → (List BC → Prop) → Prop
  | [], K => K []
  | c :: r, K => bcK hp c fun x => bcsK hp r fun xs => K (x :: xs)
/-- One argument: what the callee sees; what of the call's own it holds (in a box: the box and its lists). -/
def argK (hp : List (Nat × Blk)) (x : AV) (K : AA → List Nat → Prop) : Prop :=
  match x with
  | .a (.c (.ptr i 0)) => match find hp i with | some (.box cs) => bcsK hp cs fun ys => K (.mb ys) (i :: cs.flatMap ownsC) | _ => False
  | .a (.c .nilp) => K .nilp []
  | .a x => match readA hp x with | some y => K (.v y) [] | none => False
  | _ => False
def argsK (hp : List (Nat × Blk)) : List AV → (List AA → List Nat → Prop) → Prop
  | [], K => K [] []
  | x :: r, K => argK hp x fun a i => argsK hp r fun as is => K (a :: as) (i ++ is)
/-- Results: lists become the call's own (own) or stay as they are. -/
def impC (own : Bool) (n : Nat) (x : T) : C × List (Nat × Blk) :=
  match own, x with
  | true, .list sz es => (.own n 0 0 es.length, [(n, .arr sz es 0)])
  | _, x => (.t x, [])
def impCs (own : Bool) (n : Nat) : List T → List C × List (Nat × Blk)
  | [] => ([], [])
  | x :: xs => let a := impC own n x; let r := impCs own (n + a.2.length) xs; (a.1 :: r.1, a.2 ++ r.2)
def impA (own : Bool) (n : Nat) (x : T) : A × List (Nat × Blk) :=
  match x with
  | .agg cs => let r := impCs own n cs; (.g r.1, r.2)
  | x => let r := impC own n x; (.c r.1, r.2)
def impL (own : Bool) (n : Nat) : List T → List A × List (Nat × Blk)
  | [] => ([], [])
  | x :: xs => let a := impA own n x; let r := impL own (n + a.2.length) xs; (a.1 :: r.1, a.2 ++ r.2)
def impR (own : Bool) (n : Nat) (rs : List T) : AV × List (Nat × Blk) :=
  match rs with
  | [x] => let a := impA own n x; (.a a.1, a.2)
  | rs => let a := impL own n rs; (.tup a.1, a.2)
/-- A box behind a call: a list stays under its number where there was one. -/
def outC (own : Bool) (n : Nat) (c : C) (x : BC) : C × List (Nat × Blk) :=
  match x, c with
  | .t x, .own i v _ _ => (if own && !x.scal then .undef else .t x, [(i, .froz 0 [] (v + 1))])
  | .t x, _ => (if own && !x.scal then .undef else .t x, [])
  | .nil sz, .own i v _ _ => (.nil sz, [(i, .froz 0 [] (v + 1))])
  | .nil sz, _ => (.nil sz, [])
  | .arr sz es, .own i v _ _ => (.own i (v + 1) 0 es.length, [(i, .arr sz es (v + 1))])
  | .arr sz es, _ => (.own n 0 0 es.length, [(n, .arr sz es 0)])
def outCs (own : Bool) (n : Nat) : List C → List BC → List C × List (Nat × Blk)
  | c :: cs, x :: xs => let a := outC own n c x; let r := outCs own (n + a.2.length) cs xs; (a.1 :: r.1, a.2 ++ r.2)
  | _, _ => ([], [])
def outsK (own : Bool) (hp : List (Nat × Blk)) (n : Nat) : List AV → List (List BC) → List (Nat × Blk)
  | .a (.c (.ptr i 0)) :: xs, o :: os => match find hp i with
    | some (.box cs) => let a := outCs own n cs o; (i, .box a.1) :: a.2 ++ outsK own hp (n + a.2.length) xs os
    | _ => []
  | _ :: xs, os => outsK own hp n xs os
  | _, _ => []
def ownsA : AV → List Nat
  | .a x => x.cells.flatMap ownsC
  | _ => []
def nodupB : List Nat → Bool
  | [] => true
  | x :: r => !r.contains x && nodupB r

def callK (P : Program) (md : Nat → Bool) (f : FuncId) (hp : List (Nat × Blk)) (n : Nat) (xs : List AV) (K : AV → List (Nat × Blk) → Prop) : Prop :=
  argsK hp xs fun as is => if nodupB is && (xs.flatMap ownsA).all (fun i => !is.contains i) then ∃ rs os, CS P (md f) f as rs os ∧
    let a := impR (md f) n rs
    let u := a.2 ++ outsK (md f) hp (n + a.2.length) xs os
    if decide (u.length ≤ 16) then K a.1 ((if md f then [] else freeze hp (xs.flatMap ownsA)) ++ u) else False else False

end Go.Proofs.Ytbmdncjnnlajnaa.M
