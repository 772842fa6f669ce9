/- A machine of values: what each operation does, what code does. Definitions alone. No condition. -/
import Derived.Test.YtbmdncjnnlajnaaM1
namespace Go.Proofs.Ytbmdncjnnlajnaa.M
open Go

abbrev AV.c (x : C) : AV := .a (.c x)
abbrev AV.t (x : T) : AV := .a (.c (.t x))
def C.there : C → Bool
  | .undef => false
  | _ => true
def sealK (a : A) (K : T → Prop) : Prop := match sealA a with | some x => K x | none => False
def place (τ : Tab) (d : TD) (i : Nat) : Option (Nat × Nat) :=
  match d.k with
  | .struct fs => fs[i]?
  | .array _ e => some (i * (tg τ e).sz, e)
  | _ => none
def fillK (τ : Tab) (s : St) (d : TD) : List (Nat × Operand) → List C → (List C → Prop) → Prop
  | [], cs, K => K cs
  | (i, x) :: r, cs, K => match place τ d i with
    | some (off, ft) => match s.eval τ ft x with
      | .a a => if a.cells.length == (tg τ ft).sz && decide (off + (tg τ ft).sz ≤ cs.length) && a.cells.all C.there then fillK τ s d r (splice cs off a.cells) K else False
      | _ => False
    | none => False
def litK (τ : Tab) (s : St) (e : Nat) : List (Nat × Operand) → List T → (List T → Prop) → Prop
  | [], es, K => K es
  | (i, x) :: r, es, K => match s.eval τ e x with
      | .a a => if a.cells.length == (tg τ e).sz && decide (i < es.length) then sealK a fun y => litK τ s e r (es.set i y) K else False
      | _ => False
def T.num : T → Int
  | .int _ n => n
  | _ => 0
/-- A byte list as a string. -/
def bytes : List T → ByteArray
  | es => ⟨((es.map T.num).map fun n => UInt8.ofNat n.toNat).toArray⟩
def isByte : T → Prop
  | .int .u8 _ => True
  | _ => False
def ofBytes (s : ByteArray) : List T := s.data.toList.map fun b => .int .u8 b.toNat
def intA : AV → Option Int
  | .a (.c (.t (.int _ n))) => some n
  | _ => none
def putCell (e : T) (sb : Nat) (ys : List T) : T :=
  match e with
  | .agg cs => .agg (splice cs sb ys)
  | _ => ys.getD 0 (.bool false)

/-- The bounds of a cut. -/
def cutK (lo hi : Option AV) (len : Nat) (K : Nat → Nat → Prop) : Prop :=
  match (match hi with | none => some (len : Int) | some h => intA h), (match lo with | none => some 0 | some l => intA l) with
  | some h, some l => 0 ≤ l ∧ l ≤ h ∧ h ≤ len ∧ K l.toNat h.toNat
  | _, _ => False

def op (P : Program) (τ : Tab) (md : Nat → Bool) (o : Oper) (s : St) (n : Nat) (K : AV → List (Nat × Blk) → Prop) : Prop :=
  match o.op with
  | .move x | .assign x => K (s.eval τ o.type x) []
  | .pick c a b => match s.eval τ 0 c, s.eval τ o.type a, s.eval τ o.type b with
    | .a (.c (.t (.bool c))), .a (.c (.t (.bool a))), .a (.c (.t (.bool b))) => K (.t (.bool (if c then a else b))) []
    | .a (.c (.t (.bool c))), a, b => (c = true → K a []) ∧ (c = false → K b [])
    | _, _, _ => False
  | .alloc t => match find τ t with | some d => K (.c (.ptr n 0)) [(n, .box d.z)] | none => False
  | .box t x => match s.eval τ t x with | .a a => if a.cells.all C.there then K (.c (.ptr n 0)) [(n, .box a.cells)] else False | _ => False
  | .build t ps => match find τ t with | some d => if d.ag then fillK τ s d ps.toList d.z fun cs => K (.a (.g cs)) [] else False | none => False
  | .buildSlice t len ps => match find τ t with
    | some ⟨_, _, _, .slice e⟩ => match find τ e with
      | some d => sealK (if d.ag then .g d.z else .c (d.z.getD 0 .undef)) fun z =>
        if decide (len * d.sz ≤ 16777216) && decide (0 < d.sz) && (d.ag || d.sz == 1) then litK τ s e ps.toList (List.replicate len z) fun es => K (.c (.own n 0 0 len)) [(n, .arr d.sz es 0)] else False
      | none => False
    | _ => False
  | .load t x => match find τ t, s.eval τ 0 x with
    | some d, .a (.c (.ptr i off)) => match find s.hp i with | some (.box cs) => partK d cs off fun a => K (.a a) [] | _ => False
    | some d, .a (.c (.eptr i v ix sb)) => match arrOf s.hp i v with
      | some (_, es) => match es[ix]? with | some e => partK d (e.cells.map C.t) sb fun a => K (.a a) [] | none => False
      | none => False
    | some d, .a (.c (.vptr _ es ix sb)) => match es[ix]? with | some e => partK d (e.cells.map C.t) sb fun a => K (.a a) [] | none => False
    | _, _ => False
  | .store t x y => match find τ t, s.eval τ 0 x, s.eval τ t y with
    | some d, .a (.c (.ptr i off)), .a a => match find s.hp i with
      | some (.box cs) => if a.cells.length == d.sz && decide (off + d.sz ≤ cs.length) && a.cells.all C.there then K (.c .undef) [(i, .box (splice cs off a.cells))] else False
      | _ => False
    | some d, .a (.c (.eptr i v ix sb)), .a a => match find s.hp i with
      | some (.arr sz es v') => if v == v' && a.cells.length == d.sz && decide (0 < d.sz) then match es[ix]?, sealL a.cells with
        | some e, some ys => sb + d.sz ≤ e.cells.length ∧ K (.c .undef) [(i, .arr sz (es.set ix (putCell e sb ys)) v')]
        | _, _ => False else False
      | _ => False
    | _, _, _ => False
  | .nilCheck x => match s.eval τ 0 x with
    | .a (.c (.ptr i o)) => match find s.hp i with | some (.box _) => K (.c (.ptr i o)) [] | _ => False
    | .a (.c (.vptr a b c d)) => K (.c (.vptr a b c d)) []
    | _ => False
  | .binOp op t x y yt => match s.eval τ t x, s.eval τ yt y with
    | .a (.c (.t (.bool a))), .a (.c (.t (.bool b))) => match (tg τ t).k with | .bool => binT op (.bool a) (.bool b) fun r => K (.t r) [] | _ => False
    | .a (.c (.t a)), .a (.c (.t b)) => binT op a b fun r => K (.t r) []
    | _, _ => False
  | .unOp op t x => match op, s.eval τ t x with
    | .not, .a (.c (.t (.bool b))) => K (.t (.bool (!b))) []
    | .neg, .a (.c (.t (.int k n))) => K (.t (.int k (k.wrap (0 - n)))) []
    | _, _ => False
  | .convert src dst x => match (tg τ src).k, (tg τ dst).k, s.eval τ src x with
    | .int _, .int k, .a (.c (.t (.int _ n))) => K (.t (.int k (k.wrap n))) []
    | .str, .str, .a (.c (.t (.str b))) => K (.t (.str b)) []
    | .slice e, .str, .a (.c x) => match (tg τ e).k, listOf s.hp x with
      | .int .u8, some (_, es) => (∀ b ∈ es, isByte b) ∧ K (.t (.str (bytes es))) []
      | _, _ => False
    | .str, .slice e, .a (.c (.t (.str b))) => match (tg τ e).k with
      | .int .u8 => K (.c (.own n 0 0 b.size)) [(n, .arr 1 (ofBytes b) 0)]
      | _ => False
    | _, _, _ => False
  | .makeSlice t l c => match find τ t, s.eval τ 0 l, s.eval τ 0 c with
    | some ⟨_, _, _, .slice e⟩, .a (.c (.t (.int _ l))), .a (.c (.t (.int _ c))) => match find τ e with
      | some d => sealK (if d.ag then .g d.z else .c (d.z.getD 0 .undef)) fun z => if decide (0 < d.sz) && (d.ag || d.sz == 1) then
        0 ≤ l ∧ l ≤ c ∧ d.bytes * c ≤ 140737488355328 ∧ c < 9223372036854775808 ∧ K (.c (.own n 0 0 l.toNat)) [(n, .arr d.sz (List.replicate l.toNat z) 0)] else False
      | none => False
    | _, _, _ => False
  | .slice t x lo hi none => match (tg τ t).k, s.eval τ t x with
    | .str, .a (.c (.t (.str b))) => cutK (lo.map (s.eval τ 0)) (hi.map (s.eval τ 0)) b.size fun l h => K (.t (.str (b.extract l h))) []
    | .slice e, .a (.c (.t (.list sz es))) => if sz == (tg τ e).sz then cutK (lo.map (s.eval τ 0)) (hi.map (s.eval τ 0)) es.length fun l h => K (.t (.list sz ((es.drop l).take (h - l)))) [] else False
    | .slice e, .a (.c (.own i v off len)) => match arrOf s.hp i v with
      | some (sz, _) => if sz == (tg τ e).sz then cutK (lo.map (s.eval τ 0)) (hi.map (s.eval τ 0)) len fun l h => K (.c (.own i v (off + l) (h - l))) [] else False
      | none => False
    | _, _ => False
  | .fieldAddr t x f => match (tg τ t).k, s.eval τ 0 x with
    | .struct fs, .a (.c c) => match fs[f]? with
      | some (fo, ft) => if decide (0 < (tg τ ft).sz) then match c with
        | .ptr i off => match find s.hp i with | some (.box _) => K (.c (.ptr i (off + fo))) [] | _ => False
        | .eptr i v ix sb => match arrOf s.hp i v with | some _ => K (.c (.eptr i v ix (sb + fo))) [] | none => False
        | .vptr sz es ix sb => K (.c (.vptr sz es ix (sb + fo))) []
        | _ => False
        else False
      | none => False
    | _, _ => False
  | .field t x f => match (tg τ t).k, s.eval τ t x with
    | .struct fs, .a (.g cs) => match fs[f]? with
      | some (fo, ft) => match find τ ft with | some d => partK d cs fo fun a => K (.a a) [] | none => False
      | none => False
    | _, _ => False
  | .indexAddr t x i => match (tg τ t).k, s.eval τ t x, intA (s.eval τ 0 i) with
    | .slice e, .a (.c (.t (.list sz es))), some i => if sz == (tg τ e).sz then 0 ≤ i ∧ i < es.length ∧ K (.c (.vptr sz es i.toNat 0)) [] else False
    | .slice e, .a (.c (.own j v off len)), some i => match arrOf s.hp j v with
      | some (sz, _) => if sz == (tg τ e).sz then 0 ≤ i ∧ i < len ∧ K (.c (.eptr j v (off + i.toNat) 0)) [] else False
      | none => False
    | .array m e, .a (.c (.ptr j off)), some i => match find s.hp j with
      | some (.box _) => 0 ≤ i ∧ i < m ∧ K (.c (.ptr j (off + i.toNat * (tg τ e).sz))) []
      | _ => False
    | _, _, _ => False
  | .index t x i => match (tg τ t).k, s.eval τ t x, intA (s.eval τ 0 i) with
    | .str, .a (.c (.t (.str b))), some i => 0 ≤ i ∧ i < b.size ∧ K (.t (.int .u8 (b.data.getD i.toNat 0).toNat)) []
    | _, _, _ => False
  | .extract x i => match s.eval τ 0 x with
    | .tup xs => match xs[i]? with | some a => K (.a a) [] | none => False
    | _ => False
  | .call ⟨.value f, xs, ts⟩ => match s.eval τ 0 f with
    | .a (.c (.fn f)) => if xs.toList.length == ts.toList.length then callK P md f s.hp n ((xs.toList.zip ts.toList).map fun x => s.eval τ x.2 x.1) K else False
    | _ => False
  | .call ⟨.builtin .len, xs, ts⟩ => match xs.toList, ts.toList with
    | [x], [t] => match (tg τ t).k, s.eval τ t x with
      | .str, .a (.c (.t (.str b))) => K (.t (.int .i64 b.size)) []
      | .slice _, .a (.c (.t (.list _ es))) => K (.t (.int .i64 es.length)) []
      | .slice _, .a (.c (.nil _)) => K (.t (.int .i64 0)) []
      | .slice _, .a (.c (.own i v _ len)) => match arrOf s.hp i v with | some _ => K (.t (.int .i64 len)) [] | none => False
      | _, _ => False
    | _, _ => False
  | .call ⟨.builtin .append, xs, ts⟩ => match xs.toList, ts.toList with
    | [x, y], [t, u] =>
      match (tg τ t).k, s.eval τ t x, s.eval τ u y with
      | .slice e, .a (.c a), .a (.c b) => match find τ e, (match (tg τ u).k with | .slice e' => if e' == e then listOf s.hp b else none | _ => none) with
        | some d, some (sz, fs) => if sz == d.sz && decide (0 < d.sz) && decide (0 < d.bytes) then match a with
          | .nil _ => (fs.length * d.bytes ≤ 140737488355328) ∧ K (.c (.own n 0 0 fs.length)) [(n, .arr sz fs 0)]
          | .own i v 0 len => match find s.hp i with
            | some (.arr sz' es v') => if v == v' && sz' == sz then len = es.length ∧ (es.length + fs.length) * d.bytes ≤ 140737488355328 ∧ K (.c (.own i (v + 1) 0 (len + fs.length))) [(i, .arr sz (es ++ fs) (v + 1))] else False
            | _ => False
          | _ => False
          else False
        | _, _ => False
      | _, _, _ => False
    | _, _ => False
  | _ => False

/-- The Bool that an operation of the region has left. -/
def yieldA (ops : Array Oper) (s : St) (j : Nat) : Option Bool :=
  match (ops[j]?).bind (·.dst) with
  | some d => match s.get d with | .a (.c (.t (.bool b))) => some b | _ => none
  | none => none
def wantA (ops : Array Oper) (s : St) (o : Oper) : Option Bool :=
  match o.guard with
  | none => some true
  | some (j, w) => (yieldA ops s j).map (· == w)
def WOps (P : Program) (τ : Tab) (md : Nat → Bool) (ops : Array Oper) : List Oper → Nat → St → (St → Prop) → Prop
  | [], n, s, K => K { s with nx := n }
  | o :: r, n, s, K => match wantA ops s o with
    | some b => (b = true → op P τ md o s n fun v u => WOps P τ md ops r (n + 16) ((s.upd u).set o.dst v) K) ∧ (b = false → WOps P τ md ops r (n + 16) (s.set o.dst (.c .undef)) K)
    | none => False

end Go.Proofs.Ytbmdncjnnlajnaa.M
