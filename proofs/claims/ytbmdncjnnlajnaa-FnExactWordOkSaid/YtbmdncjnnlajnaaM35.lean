/- A machine of values: contracts out of the kit's own, and what a contract gives back. No condition. -/
import Derived.Test.YtbmdncjnnlajnaaM34
import Derived.Laws.Externs
import Derived.Lib.Bytealg
namespace Go.Proofs.Ytbmdncjnnlajnaa.M
open Go
set_option linter.unusedSimpArgs false
set_option linter.unusedVariables false
set_option linter.unusedSectionVars false

/-- A plain number, bool or string as Go's value. -/
def T.val : T → Value
  | .int k n => .int k n
  | .bool b => .bool b
  | .str s => .string s
  | _ => undef
theorem hold_val {S : Addr → Option Value} {x : T} {v : Value} (hx : x.scal = true) (h : Hold S x v) : v = x.val := by
  cases h <;> first | rfl | (simp [T.scal] at hx; done)
theorem val_hold {S : Addr → Option Value} {x : T} (hx : x.scal = true) : Hold S x x.val := by
  cases x <;> first | (simp [T.scal] at hx; done) | constructor
theorem argsOk_scal {S : Addr → Option Value} {w : World} : ∀ {xs : List T} {vs : List Value} {bs : List Nat}, (∀ x ∈ xs, x.scal = true) → ArgsOk S w (xs.map AA.v) vs bs → vs = xs.map T.val ∧ bs = []
  | [], vs, bs, _, h => ⟨h.1, h.2⟩
  | x :: xs, vs, bs, hx, ⟨v, vs', r1, r2, h1, h2, h3, h4⟩ => by
    obtain ⟨h5, h6⟩ := argsOk_scal (fun x hx' => hx x (by simp [hx'])) h4
    obtain ⟨h7, h8⟩ := h3
    rw [h1, h2, h5, h6, h7, hold_val (hx x (by simp)) h8]
    exact ⟨rfl, rfl⟩
theorem scal_argsOk {S : Addr → Option Value} {w : World} : ∀ {xs : List T}, (∀ x ∈ xs, x.scal = true) → ArgsOk S w (xs.map AA.v) (xs.map T.val) []
  | [], _ => ⟨rfl, rfl⟩
  | x :: xs, hx => ⟨x.val, xs.map T.val, [], [], rfl, rfl, ⟨rfl, val_hold (hx x (by simp))⟩, scal_argsOk fun x hx' => hx x (by simp [hx'])⟩
theorem outsOk_none {S : Addr → Option Value} {w : World} : ∀ (xs : List T) (vs : List Value), vs.length = xs.length → OutsOk S w (xs.map AA.v) vs [] []
  | [], vs, _ => ⟨rfl, rfl⟩
  | x :: xs, [], h => by simp at h
  | x :: xs, v :: vs, h => outsOk_none xs vs (by simpa using h)
theorem resOk_scal {own : Bool} {S : Addr → Option Value} {w : World} {x : T} (hx : x.scal = true) : ResOk own S w [x] x.val [] := by
  show ResA own S w x x.val []
  cases x <;> first | (simp [T.scal] at hx; done) | (cases own <;> exact ⟨rfl, by constructor⟩)
theorem scal_resOk {own : Bool} {S : Addr → Option Value} {w : World} {x : T} {v : Value} {r : List Nat} (hx : x.scal = true) (h : ResOk own S w [x] v r) : v = x.val ∧ r = [] := by
  have h : ResA own S w x v r := h
  cases x <;> first | (simp [T.scal] at hx; done) | (cases own <;> exact ⟨hold_val rfl h.2, h.1⟩)

section
variable {P : Program} {own : Bool} {f : FuncId} {fn : Func}
/-- A contract of the kit: plain values in, one plain value out, the world as it was. -/
theorem CS_of_calls {c : Code} (hf : P.funcs[f]? = some fn) (hb : fn.body = some c) (hname : (fn.name == "runtime.NumGoroutine") = false) {xs : List T} {r : T} (hx : ∀ x ∈ xs, x.scal = true) (hr : r.scal = true)
    (h : ∀ w, Calls P f (xs.map T.val).toArray w fun e w' => e = .returned r.val ∧ w' = w) : CS P own f (xs.map AA.v) [r] [] := by
  intro G w vals bs hA hnd hbs hG
  obtain ⟨rfl, rfl⟩ := argsOk_scal hx hA
  have hname' : ¬ fn.name = "runtime.NumGoroutine" := by simpa using hname
  refine .inl ⟨by simp [callFunc, hf, hname', hb], (h w).mono fun e w' ⟨he, hw⟩ => ⟨_, he, [], [], ?_, resOk_scal hr, outsOk_none _ _ (by simp), by simp, by simp⟩⟩
  subst hw
  exact Fr.refl [] w'
/-- A function for which the model stands in. -/
theorem CS_of_value {xs : List T} {r : T} (hx : ∀ x ∈ xs, x.scal = true) (hr : r.scal = true) (h : ∀ w, (callFunc f (xs.map T.val).toArray).run P w = .ok (.value r.val) w) : CS P own f (xs.map AA.v) [r] [] := by
  intro G w vals bs hA hnd hbs hG
  obtain ⟨rfl, rfl⟩ := argsOk_scal hx hA
  exact .inr ⟨_, w, h w, [], [], Fr.refl [] w, resOk_scal hr, outsOk_none _ _ (by simp), by simp, by simp⟩
theorem CS_indexByteString (hf : P.funcs[f]? = some fn) (hname : (fn.name == "runtime.NumGoroutine") = false) (hb : fn.body.isNone = true) (hn : Extern.findNext fn = none) (he : Extern.find fn = some Extern.BytealgIndexByte.indexByte)
    (s : ByteArray) (c : Int) : CS P own f [.v (.str s), .v (.int .u8 c)] [.int .i64 (Lib.indexByte s.data.toList c.toNat.toUInt8)] [] := by
  refine CS_of_value (xs := [.str s, .int .u8 c]) (by simp [T.scal]) rfl fun w => ?_
  show (callFunc f #[.string s, .int .u8 c]).run P w = _
  rw [run_callFunc_extern hf hname hb hn he, Lib.run_indexByteString]
  rfl
/-- What a contract of a function with a body gives: a call that hands back. -/
theorem CS.calls {c : Code} (hf : P.funcs[f]? = some fn) (hb : fn.body = some c) (hname : (fn.name == "runtime.NumGoroutine") = false) {args : List AA} {r : T} (hr : r.scal = true) (h : CS P own f args [r] []) {w : World} {vals : List Value}
    (hA : ArgsOk (inV (· < w.heap.size) w) w args vals []) : Calls P f vals.toArray w fun e w' => e = .returned r.val ∧ RowKit.Below w.heap.size w w' := by
  have hname' : ¬ fn.name = "runtime.NumGoroutine" := by simpa using hname
  rcases h (· < w.heap.size) w vals [] hA (by simp) (by simp) (fun b hb => hb) with ⟨_, h⟩ | ⟨v, w', h, _⟩
  · refine h.mono fun e w' ⟨v, he, r1, r2, hF, hR, _⟩ => ?_
    obtain ⟨rfl, _⟩ := scal_resOk hr hR
    exact ⟨he, hF.os, hF.tape, hF.output, hF.size, fun k hk => hF.block k hk (by simp)⟩
  · simp [callFunc, hf, hname', hb] at h
end
end Go.Proofs.Ytbmdncjnnlajnaa.M
