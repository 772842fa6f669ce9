/- A machine of values: how it is reckoned with simp: what is looked into, and when. No condition. Made by gen26.py out of M26.head and M2. -/
import Derived.Test.YtbmdncjnnlajnaaM25
namespace Go.Proofs.Ytbmdncjnnlajnaa.M
open Go
set_option linter.unusedSimpArgs false
set_option linter.unusedVariables false

/-- What is to be reckoned next. -/
def act (p : Prop) : Prop := p
/-- What stands beside this is not looked into. -/
inductive Shut {α : Sort _} (x : α) : Type where
  | one | two
def brK (c : Bool) (A B : Prop) (_ : Shut A) (_ : Shut B) : Prop := (c = true → A) ∧ (c = false → B)
def callE (P : Program) (own : Bool) (f : FuncId) (as : List AA) (R : List T → List (List BC) → Prop) (_ : Shut R) : Prop := ∃ rs os, CS P own f as rs os ∧ R rs os
def WWE (P : Program) (c : Code) (s : St) (Q : X → St → Prop) (_ : Shut c) (_ : Shut Q) : Prop := WW P c s Q
def callR (own : Bool) (hp : List (Nat × Blk)) (n : Nat) (xs : List AV) (K : AV → List (Nat × Blk) → Prop) (rs : List T) (os : List (List BC)) : Prop :=
  match impR own n rs with
  | (a, u) => match u ++ outsK own hp (n + u.length) xs os with
    | u => if decide (u.length ≤ 16) then K a ((if own then [] else freeze hp (xs.flatMap ownsA)) ++ u) else False
def wK (b : Option Bool) (A B : Prop) : Prop := match b with
  | some b => brK b A B .one .one
  | none => False
def retE (τ : Tab) (own : Bool) (rl : List ResultVar) (args : List AA) (s : St) (rs : List T) (os : List (List BC)) : Prop :=
  exL τ own s rl fun rs' is js => outX s.hp 0 args fun os' ks => if nodupB (is ++ ks) && js.all (fun j => !ks.contains j) then rs' = rs ∧ os' = os else False
def endK (τ : Tab) (own : Bool) (rl : List ResultVar) (args : List AA) (rs : List T) (os : List (List BC)) (x : X) (s : St) : Prop :=
  match x with
  | .exit _ => False
  | _ => retE τ own rl args s rs os

section
variable {P : Program} {τ : Tab} {md : Nat → Bool} {own : Bool}
theorem CS_act (hτ : TOk P τ) (md : Nat → Bool) {f : FuncId} {fn : Func} {c : Code} {N : Nat} (hf : P.funcs[f]? = some fn) (hb : fn.body = some c) (hname : (fn.name == "runtime.NumGoroutine") = false) (hN : fn.ntmps = N) {rl : List ResultVar} (hrl : fn.results.toList = rl)
    {args : List AA} {rs : List T} {os : List (List BC)} (hlen : args.length ≤ N) (h : act (W P τ md c (initS N args) (endK τ own rl args rs os))) : CS P own f args rs os := by
  subst hrl hN
  have e : (endK τ own fn.results.toList args rs os) = fun x s => x ≠ .exit 0 ∧ (match x with | .exit _ => False | _ => retK τ own fn args s fun rs' os' => rs' = rs ∧ os' = os) := by
    funext x s
    cases x <;> simp [endK, retE, retK]
  rw [e] at h
  exact CS_of_W hτ hf hb hname hlen h
theorem act_and {p q : Prop} : act (p ∧ q) = (p ∧ act q) := (rfl)
theorem act_False : act False = False := (rfl)
theorem act_region {i : Nat} {l : List Oper} {s : St} {Q : X → St → Prop} : act (W P τ md (.region i l.toArray false) s Q) = act (WOps P τ md l.toArray l s.nx s (Q .normal)) := (rfl)
theorem act_seq {a b : Code} {s : St} {Q : X → St → Prop} : act (W P τ md (.seq a b) s Q) = act (W P τ md a s fun e s' => match e with | .normal => W P τ md b s' Q | .exit i => Q (.exit i) s' | .ret => Q .ret s') := (rfl)
theorem act_block {i : Nat} {a : Code} {s : St} {Q : X → St → Prop} : act (W P τ md (.block i a) s Q) = act (W P τ md a s fun e s' => match e with | .exit j => if j == i then Q .normal s' else Q (.exit j) s' | .normal => Q .normal s' | .ret => Q .ret s') := (rfl)
theorem act_ret {s : St} {Q : X → St → Prop} : act (W P τ md .ret s Q) = act (Q .ret s) := (rfl)
theorem act_skip {s : St} {Q : X → St → Prop} : act (W P τ md .skip s Q) = act (Q .normal s) := (rfl)
theorem act_exit {i : Nat} {s : St} {Q : X → St → Prop} : act (W P τ md (.exit i) s Q) = act (Q (.exit i) s) := (rfl)
theorem act_loop {c : Code} {s : St} {Q : X → St → Prop} : act (W P τ md (.loop c) s Q) = WWE P (.loop c) s Q .one .one := (rfl)
theorem act_draw {i : Nat} {l : Array Oper} {s : St} {Q : X → St → Prop} : act (W P τ md (.region i l true) s Q) = WWE P (.region i l true) s Q .one .one := (rfl)
theorem act_cond {c : Operand} {a b : Code} {s : St} {Q : X → St → Prop} : act (W P τ md (.cond c a b) s Q) = act (match s.eval τ 0 c with
    | .a (.c (.t (.bool c))) => brK c (W P τ md a s Q) (W P τ md b s Q) .one .one
    | _ => False) := (rfl)
theorem act_true {A B : Prop} {a : Shut A} {b : Shut B} : act (brK true A B a b) = act A := by simp [brK, act]
theorem act_false {A B : Prop} {a : Shut A} {b : Shut B} : act (brK false A B a b) = act B := by simp [brK, act]
theorem act_split {c : Bool} {A B : Prop} {a : Shut A} {b : Shut B} (h1 : c = true → act A) (h2 : c = false → act B) : act (brK c A B a b) := ⟨h1, h2⟩
theorem act_wK {b : Bool} {A B : Prop} : act (wK (some b) A B) = act (brK b A B .one .one) := (rfl)
theorem act_nil {ops : Array Oper} {n : Nat} {s : St} {K : St → Prop} : act (WOps P τ md ops [] n s K) = act (K { s with nx := n }) := (rfl)
theorem act_cons {ops : Array Oper} {o : Oper} {r : List Oper} {n : Nat} {s : St} {K : St → Prop} : act (WOps P τ md ops (o :: r) n s K) =
    act (wK (wantA ops s o) (op P τ md o s n fun v u => WOps P τ md ops r (n + 16) ((s.upd u).set o.dst v) K) (WOps P τ md ops r (n + 16) (s.set o.dst (.c .undef)) K)) := (rfl)
theorem callKE {f : FuncId} {hp : List (Nat × Blk)} {n : Nat} {xs : List AV} {K : AV → List (Nat × Blk) → Prop} : callK P md f hp n xs K =
  argsK hp xs fun as is => if nodupB is && (xs.flatMap ownsA).all (fun i => !is.contains i) then callE P (md f) f as (callR (md f) hp n xs K) .one else False := (rfl)
theorem act_callE {f : FuncId} {as : List AA} {R : List T → List (List BC) → Prop} {x : Shut R} {rs : List T} {os : List (List BC)} (h : CS P own f as rs os) (hR : act (R rs os)) : act (callE P own f as R x) := ⟨rs, os, h, hR⟩
theorem act_callR {hp : List (Nat × Blk)} {n : Nat} {xs : List AV} {K : AV → List (Nat × Blk) → Prop} {rs : List T} {os : List (List BC)} : act (callR own hp n xs K rs os) = act (match impR own n rs with
  | (a, u) => match u ++ outsK own hp (n + u.length) xs os with
    | u => if decide (u.length ≤ 16) then K a ((if own then [] else freeze hp (xs.flatMap ownsA)) ++ u) else False) := (rfl)
theorem act_end_ret {rl : List ResultVar} {args : List AA} {rs : List T} {os : List (List BC)} {s : St} : act (endK τ own rl args rs os .ret s) = retE τ own rl args s rs os := (rfl)
theorem act_end_normal {rl : List ResultVar} {args : List AA} {rs : List T} {os : List (List BC)} {s : St} : act (endK τ own rl args rs os .normal s) = retE τ own rl args s rs os := (rfl)
section
variable {s : St} {n : Nat} {K : AV → List (Nat × Blk) → Prop}
theorem act_move {dd : Option Nat} {x : Operand} {ty : TypeId} {pp : String} {af : Array Edge} {gg : Option (Nat × Bool)} : act (M.op P τ md { dst := dd, op := .move x, type := ty, pos := pp, after := af, guard := gg } s n K) = act (K (s.eval τ ty x) []) := (rfl)
theorem act_assign {dd : Option Nat} {x : Operand} {ty : TypeId} {pp : String} {af : Array Edge} {gg : Option (Nat × Bool)} : act (M.op P τ md { dst := dd, op := .assign x, type := ty, pos := pp, after := af, guard := gg } s n K) = act (K (s.eval τ ty x) []) := (rfl)
theorem act_pick {dd : Option Nat} {c : Operand} {a : Operand} {b : Operand} {ty : TypeId} {pp : String} {af : Array Edge} {gg : Option (Nat × Bool)} : act (M.op P τ md { dst := dd, op := .pick c a b, type := ty, pos := pp, after := af, guard := gg } s n K) = act (match s.eval τ 0 c, s.eval τ ty a, s.eval τ ty b with
    | .a (.c (.t (.bool c))), .a (.c (.t (.bool a))), .a (.c (.t (.bool b))) => K (.t (.bool (if c then a else b))) []
    | .a (.c (.t (.bool c))), a, b => brK c (K a []) (K b []) .one .one
    | _, _, _ => False) := (rfl)
theorem act_alloc {dd : Option Nat} {t : TypeId} {ty : TypeId} {pp : String} {af : Array Edge} {gg : Option (Nat × Bool)} : act (M.op P τ md { dst := dd, op := .alloc t, type := ty, pos := pp, after := af, guard := gg } s n K) = act (match find τ t with | some d => K (.c (.ptr n 0)) [(n, .box d.z)] | none => False) := (rfl)
theorem act_box {dd : Option Nat} {t : TypeId} {x : Operand} {ty : TypeId} {pp : String} {af : Array Edge} {gg : Option (Nat × Bool)} : act (M.op P τ md { dst := dd, op := .box t x, type := ty, pos := pp, after := af, guard := gg } s n K) = act (match s.eval τ t x with | .a a => if a.cells.all C.there then K (.c (.ptr n 0)) [(n, .box a.cells)] else False | _ => False) := (rfl)
theorem act_build {dd : Option Nat} {t : TypeId} {ps : Array (Nat × Operand)} {ty : TypeId} {pp : String} {af : Array Edge} {gg : Option (Nat × Bool)} : act (M.op P τ md { dst := dd, op := .build t ps, type := ty, pos := pp, after := af, guard := gg } s n K) = act (match find τ t with | some d => if d.ag then fillK τ s d ps.toList d.z fun cs => K (.a (.g cs)) [] else False | none => False) := (rfl)
theorem act_buildSlice {dd : Option Nat} {t : TypeId} {len : Nat} {ps : Array (Nat × Operand)} {ty : TypeId} {pp : String} {af : Array Edge} {gg : Option (Nat × Bool)} : act (M.op P τ md { dst := dd, op := .buildSlice t len ps, type := ty, pos := pp, after := af, guard := gg } s n K) = act (match find τ t with
    | some ⟨_, _, _, .slice e⟩ => match find τ e with
      | some d => sealK (if d.ag then .g d.z else .c (d.z.getD 0 .undef)) fun z =>
        if decide (len * d.sz ≤ 16777216) && decide (0 < d.sz) && (d.ag || d.sz == 1) then litK τ s e ps.toList (List.replicate len z) fun es => K (.c (.own n 0 0 len)) [(n, .arr d.sz es 0)] else False
      | none => False
    | _ => False) := (rfl)
theorem act_load {dd : Option Nat} {t : TypeId} {x : Operand} {ty : TypeId} {pp : String} {af : Array Edge} {gg : Option (Nat × Bool)} : act (M.op P τ md { dst := dd, op := .load t x, type := ty, pos := pp, after := af, guard := gg } s n K) = act (match find τ t, s.eval τ 0 x with
    | some d, .a (.c (.ptr i off)) => match find s.hp i with | some (.box cs) => partK d cs off fun a => K (.a a) [] | _ => False
    | some d, .a (.c (.eptr i v ix sb)) => match arrOf s.hp i v with
      | some (_, es) => match es[ix]? with | some e => partK d (e.cells.map C.t) sb fun a => K (.a a) [] | none => False
      | none => False
    | some d, .a (.c (.vptr _ es ix sb)) => match es[ix]? with | some e => partK d (e.cells.map C.t) sb fun a => K (.a a) [] | none => False
    | _, _ => False) := (rfl)
theorem act_store {dd : Option Nat} {t : TypeId} {x : Operand} {y : Operand} {ty : TypeId} {pp : String} {af : Array Edge} {gg : Option (Nat × Bool)} : act (M.op P τ md { dst := dd, op := .store t x y, type := ty, pos := pp, after := af, guard := gg } s n K) = act (match find τ t, s.eval τ 0 x, s.eval τ t y with
    | some d, .a (.c (.ptr i off)), .a a => match find s.hp i with
      | some (.box cs) => if a.cells.length == d.sz && decide (off + d.sz ≤ cs.length) && a.cells.all C.there then K (.c .undef) [(i, .box (splice cs off a.cells))] else False
      | _ => False
    | some d, .a (.c (.eptr i v ix sb)), .a a => match find s.hp i with
      | some (.arr sz es v') => if v == v' && a.cells.length == d.sz && decide (0 < d.sz) then match es[ix]?, sealL a.cells with
        | some e, some ys => sb + d.sz ≤ e.cells.length ∧ K (.c .undef) [(i, .arr sz (es.set ix (putCell e sb ys)) v')]
        | _, _ => False else False
      | _ => False
    | _, _, _ => False) := (rfl)
theorem act_nilCheck {dd : Option Nat} {x : Operand} {ty : TypeId} {pp : String} {af : Array Edge} {gg : Option (Nat × Bool)} : act (M.op P τ md { dst := dd, op := .nilCheck x, type := ty, pos := pp, after := af, guard := gg } s n K) = act (match s.eval τ 0 x with
    | .a (.c (.ptr i o)) => match find s.hp i with | some (.box _) => K (.c (.ptr i o)) [] | _ => False
    | .a (.c (.vptr a b c d)) => K (.c (.vptr a b c d)) []
    | _ => False) := (rfl)
theorem act_binOp {dd : Option Nat} {op : BinOp} {t : TypeId} {x : Operand} {y : Operand} {yt : TypeId} {ty : TypeId} {pp : String} {af : Array Edge} {gg : Option (Nat × Bool)} : act (M.op P τ md { dst := dd, op := .binOp op t x y yt, type := ty, pos := pp, after := af, guard := gg } s n K) = act (match s.eval τ t x, s.eval τ yt y with
    | .a (.c (.t (.bool a))), .a (.c (.t (.bool b))) => match (tg τ t).k with | .bool => binT op (.bool a) (.bool b) fun r => K (.t r) [] | _ => False
    | .a (.c (.t a)), .a (.c (.t b)) => binT op a b fun r => K (.t r) []
    | _, _ => False) := (rfl)
theorem act_unOp {dd : Option Nat} {op : UnOp} {t : TypeId} {x : Operand} {ty : TypeId} {pp : String} {af : Array Edge} {gg : Option (Nat × Bool)} : act (M.op P τ md { dst := dd, op := .unOp op t x, type := ty, pos := pp, after := af, guard := gg } s n K) = act (match op, s.eval τ t x with
    | .not, .a (.c (.t (.bool b))) => K (.t (.bool (!b))) []
    | .neg, .a (.c (.t (.int k n))) => K (.t (.int k (k.wrap (0 - n)))) []
    | _, _ => False) := (rfl)
theorem act_convert {dd : Option Nat} {src : TypeId} {dst : TypeId} {x : Operand} {ty : TypeId} {pp : String} {af : Array Edge} {gg : Option (Nat × Bool)} : act (M.op P τ md { dst := dd, op := .convert src dst x, type := ty, pos := pp, after := af, guard := gg } s n K) = act (match (tg τ src).k, (tg τ dst).k, s.eval τ src x with
    | .int _, .int k, .a (.c (.t (.int _ n))) => K (.t (.int k (k.wrap n))) []
    | .str, .str, .a (.c (.t (.str b))) => K (.t (.str b)) []
    | .slice e, .str, .a (.c x) => match (tg τ e).k, listOf s.hp x with
      | .int .u8, some (_, es) => (∀ b ∈ es, isByte b) ∧ K (.t (.str (bytes es))) []
      | _, _ => False
    | .str, .slice e, .a (.c (.t (.str b))) => match (tg τ e).k with
      | .int .u8 => K (.c (.own n 0 0 b.size)) [(n, .arr 1 (ofBytes b) 0)]
      | _ => False
    | _, _, _ => False) := (rfl)
theorem act_makeSlice {dd : Option Nat} {t : TypeId} {l : Operand} {c : Operand} {ty : TypeId} {pp : String} {af : Array Edge} {gg : Option (Nat × Bool)} : act (M.op P τ md { dst := dd, op := .makeSlice t l c, type := ty, pos := pp, after := af, guard := gg } s n K) = act (match find τ t, s.eval τ 0 l, s.eval τ 0 c with
    | some ⟨_, _, _, .slice e⟩, .a (.c (.t (.int _ l))), .a (.c (.t (.int _ c))) => match find τ e with
      | some d => sealK (if d.ag then .g d.z else .c (d.z.getD 0 .undef)) fun z => if decide (0 < d.sz) && (d.ag || d.sz == 1) then
        0 ≤ l ∧ l ≤ c ∧ d.bytes * c ≤ 140737488355328 ∧ c < 9223372036854775808 ∧ K (.c (.own n 0 0 l.toNat)) [(n, .arr d.sz (List.replicate l.toNat z) 0)] else False
      | none => False
    | _, _, _ => False) := (rfl)
theorem act_slice {dd : Option Nat} {t : TypeId} {x : Operand} {lo : Option Operand} {hi : Option Operand} {ty : TypeId} {pp : String} {af : Array Edge} {gg : Option (Nat × Bool)} : act (M.op P τ md { dst := dd, op := .slice t x lo hi none, type := ty, pos := pp, after := af, guard := gg } s n K) = act (match (tg τ t).k, s.eval τ t x with
    | .str, .a (.c (.t (.str b))) => cutK (lo.map (s.eval τ 0)) (hi.map (s.eval τ 0)) b.size fun l h => K (.t (.str (b.extract l h))) []
    | .slice e, .a (.c (.t (.list sz es))) => if sz == (tg τ e).sz then cutK (lo.map (s.eval τ 0)) (hi.map (s.eval τ 0)) es.length fun l h => K (.t (.list sz ((es.drop l).take (h - l)))) [] else False
    | .slice e, .a (.c (.own i v off len)) => match arrOf s.hp i v with
      | some (sz, _) => if sz == (tg τ e).sz then cutK (lo.map (s.eval τ 0)) (hi.map (s.eval τ 0)) len fun l h => K (.c (.own i v (off + l) (h - l))) [] else False
      | none => False
    | _, _ => False) := (rfl)
theorem act_fieldAddr {dd : Option Nat} {t : TypeId} {x : Operand} {f : Nat} {ty : TypeId} {pp : String} {af : Array Edge} {gg : Option (Nat × Bool)} : act (M.op P τ md { dst := dd, op := .fieldAddr t x f, type := ty, pos := pp, after := af, guard := gg } s n K) = act (match (tg τ t).k, s.eval τ 0 x with
    | .struct fs, .a (.c c) => match fs[f]? with
      | some (fo, ft) => if decide (0 < (tg τ ft).sz) then match c with
        | .ptr i off => match find s.hp i with | some (.box _) => K (.c (.ptr i (off + fo))) [] | _ => False
        | .eptr i v ix sb => match arrOf s.hp i v with | some _ => K (.c (.eptr i v ix (sb + fo))) [] | none => False
        | .vptr sz es ix sb => K (.c (.vptr sz es ix (sb + fo))) []
        | _ => False
        else False
      | none => False
    | _, _ => False) := (rfl)
theorem act_field {dd : Option Nat} {t : TypeId} {x : Operand} {f : Nat} {ty : TypeId} {pp : String} {af : Array Edge} {gg : Option (Nat × Bool)} : act (M.op P τ md { dst := dd, op := .field t x f, type := ty, pos := pp, after := af, guard := gg } s n K) = act (match (tg τ t).k, s.eval τ t x with
    | .struct fs, .a (.g cs) => match fs[f]? with
      | some (fo, ft) => match find τ ft with | some d => partK d cs fo fun a => K (.a a) [] | none => False
      | none => False
    | _, _ => False) := (rfl)
theorem act_indexAddr {dd : Option Nat} {t : TypeId} {x : Operand} {i : Operand} {ty : TypeId} {pp : String} {af : Array Edge} {gg : Option (Nat × Bool)} : act (M.op P τ md { dst := dd, op := .indexAddr t x i, type := ty, pos := pp, after := af, guard := gg } s n K) = act (match (tg τ t).k, s.eval τ t x, intA (s.eval τ 0 i) with
    | .slice e, .a (.c (.t (.list sz es))), some i => if sz == (tg τ e).sz then 0 ≤ i ∧ i < es.length ∧ K (.c (.vptr sz es i.toNat 0)) [] else False
    | .slice e, .a (.c (.own j v off len)), some i => match arrOf s.hp j v with
      | some (sz, _) => if sz == (tg τ e).sz then 0 ≤ i ∧ i < len ∧ K (.c (.eptr j v (off + i.toNat) 0)) [] else False
      | none => False
    | .array m e, .a (.c (.ptr j off)), some i => match find s.hp j with
      | some (.box _) => 0 ≤ i ∧ i < m ∧ K (.c (.ptr j (off + i.toNat * (tg τ e).sz))) []
      | _ => False
    | _, _, _ => False) := (rfl)
theorem act_index {dd : Option Nat} {t : TypeId} {x : Operand} {i : Operand} {ty : TypeId} {pp : String} {af : Array Edge} {gg : Option (Nat × Bool)} : act (M.op P τ md { dst := dd, op := .index t x i, type := ty, pos := pp, after := af, guard := gg } s n K) = act (match (tg τ t).k, s.eval τ t x, intA (s.eval τ 0 i) with
    | .str, .a (.c (.t (.str b))), some i => 0 ≤ i ∧ i < b.size ∧ K (.t (.int .u8 (b.data.getD i.toNat 0).toNat)) []
    | _, _, _ => False) := (rfl)
theorem act_extract {dd : Option Nat} {x : Operand} {i : Nat} {ty : TypeId} {pp : String} {af : Array Edge} {gg : Option (Nat × Bool)} : act (M.op P τ md { dst := dd, op := .extract x i, type := ty, pos := pp, after := af, guard := gg } s n K) = act (match s.eval τ 0 x with
    | .tup xs => match xs[i]? with | some a => K (.a a) [] | none => False
    | _ => False) := (rfl)
theorem act_call {dd : Option Nat} {f : Operand} {xs : Array Operand} {ts : Array TypeId} {ty : TypeId} {pp : String} {af : Array Edge} {gg : Option (Nat × Bool)} : act (M.op P τ md { dst := dd, op := .call { callee := .value f, args := xs, argTypes := ts }, type := ty, pos := pp, after := af, guard := gg } s n K) = act (match s.eval τ 0 f with
    | .a (.c (.fn f)) => if xs.toList.length == ts.toList.length then callK P md f s.hp n ((xs.toList.zip ts.toList).map fun x => s.eval τ x.2 x.1) K else False
    | _ => False) := (rfl)
theorem act_len {dd : Option Nat} {xs : Array Operand} {ts : Array TypeId} {ty : TypeId} {pp : String} {af : Array Edge} {gg : Option (Nat × Bool)} : act (M.op P τ md { dst := dd, op := .call { callee := .builtin .len, args := xs, argTypes := ts }, type := ty, pos := pp, after := af, guard := gg } s n K) = act (match xs.toList, ts.toList with
    | [x], [t] => match (tg τ t).k, s.eval τ t x with
      | .str, .a (.c (.t (.str b))) => K (.t (.int .i64 b.size)) []
      | .slice _, .a (.c (.t (.list _ es))) => K (.t (.int .i64 es.length)) []
      | .slice _, .a (.c (.nil _)) => K (.t (.int .i64 0)) []
      | .slice _, .a (.c (.own i v _ len)) => match arrOf s.hp i v with | some _ => K (.t (.int .i64 len)) [] | none => False
      | _, _ => False
    | _, _ => False) := (rfl)
theorem act_append {dd : Option Nat} {xs : Array Operand} {ts : Array TypeId} {ty : TypeId} {pp : String} {af : Array Edge} {gg : Option (Nat × Bool)} : act (M.op P τ md { dst := dd, op := .call { callee := .builtin .append, args := xs, argTypes := ts }, type := ty, pos := pp, after := af, guard := gg } s n K) = act (match xs.toList, ts.toList with
    | [x, y], [t, u] =>
      match (tg τ t).k, s.eval τ t x, s.eval τ u y with
      | .slice e, .a (.c a), .a (.c b) => match find τ e, (match (tg τ u).k with | .slice e' => if e' == e then listOf s.hp b else none | _ => none) with
        | some d, some (sz, fs) => if sz == d.sz && decide (0 < d.sz) && decide (0 < d.bytes) then match a with
          | .nil _ => (fs.length * d.bytes ≤ 140737488355328) ∧ K (.c (.own n 0 0 fs.length)) [(n, .arr sz fs 0)]
          | .own i v 0 len => match find s.hp i with
            | some (.arr sz' es v') => if v == v' && sz' == sz then len = es.length ∧ (es.length + fs.length) * d.bytes ≤ 140737488355328 ∧ K (.c (.own i (v + 1) 0 (len + fs.length))) [(i, .arr sz (es ++ fs) (v + 1))] else False
            | _ => False
          | _ => False
          else False
        | _, _ => False
      | _, _, _ => False
    | _, _ => False) := (rfl)
end
end
attribute [go_sem] act_and act_False act_region act_seq act_block act_ret act_skip act_exit act_loop act_draw act_cond act_true act_false act_wK act_nil act_cons act_callR act_end_ret act_end_normal act_move act_assign act_pick act_alloc act_box act_build act_buildSlice act_load act_store act_nilCheck act_binOp act_unOp act_convert act_makeSlice act_slice act_fieldAddr act_field act_indexAddr act_index act_extract act_call act_len act_append callKE
attribute [go_sem] binT wantA yieldA initS initL initA initC initCs openT slots St.eval St.get St.set St.upd find put ofValue TD.el TD.ag AV.c AV.t retE exL exA exCs exC resA outX
  sealK sealA sealC sealL partK place fillK litK cutK intA putCell T.num C.there T.cells A.cells flat arrOf verOf listOf splice readC readL readA ownsC ownsA freeze bcK bcsK argK argsK impC impCs impA impL impR outC outCs outsK nodupB T.scal
attribute [go_sem] reduceIte Nat.reduceAdd Nat.reduceMul Nat.reduceSub Nat.reduceLT Nat.reduceLeDiff Nat.reduceBEq Nat.reduceEqDiff Bool.false_eq_true List.nil_append List.append_nil List.cons_append List.length_nil List.length_cons Option.getD_some Option.getD_none
  List.getElem?_toArray List.getElem?_cons_zero List.getElem?_cons_succ List.getElem?_nil Option.bind_some Option.map_some Option.map_none beq_self_eq_true true_and and_true beq_true
  List.take_succ_cons List.take_zero List.take_nil List.drop_succ_cons List.drop_zero List.drop_nil List.map_cons List.map_nil List.all_cons List.all_nil Bool.true_and Bool.and_true Bool.false_and Bool.and_false decide_true decide_false List.flatMap_cons List.flatMap_nil List.contains_cons List.contains_nil
  List.zip_cons_cons List.zip_nil_left List.zip_nil_right List.foldr_cons List.foldr_nil Bool.not_true Bool.not_false Bool.or_false Bool.false_or Bool.or_true Bool.true_or Int.toNat_zero List.replicate_zero
end Go.Proofs.Ytbmdncjnnlajnaa.M

