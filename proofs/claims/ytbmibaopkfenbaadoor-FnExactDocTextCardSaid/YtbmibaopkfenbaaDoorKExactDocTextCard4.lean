/- A machine of values: what a contract says of deep trees; a contract out of what code does with them; a call. No condition. -/
import Derived.Test.YtbmibaopkfenbaaDoorKExactDocTextCard3
/- A machine of values: what a contract says of deep trees; a contract out of what code does with them; a call. No condition. -/
namespace Go.Proofs.YtbmibaopkfenbaaDoor.M
open Go
set_option linter.unusedSimpArgs false
set_option linter.unusedVariables false
set_option linter.unusedSectionVars false

/-- An argument: as ever, or a deep tree that is lent, and what becomes of it. -/
inductive DArg where
  | b (x : AA)
  | l (x x' : T)
def bA : List DArg → List AA
  | [] => []
  | .b x :: r => x :: bA r
  | .l _ _ :: r => bA r
def bV : List DArg → List Value → List Value
  | .b _ :: r, v :: vs => v :: bV r vs
  | .l _ _ :: r, _ :: vs => bV r vs
  | _, _ => []
/-- The deep trees that are lent, ahead of the call (false) and behind it (true). -/
def DLs (w : World) (k : Bool) : List DArg → List Value → List Nat → Prop
  | [], vs, r => vs = [] ∧ r = []
  | .b _ :: as, vs, r => ∃ v vs', vs = v :: vs' ∧ DLs w k as vs' r
  | .l x x' :: as, vs, r => ∃ v vs' r1 r2, vs = v :: vs' ∧ r = r1 ++ r2 ∧ DA w (match k with | true => x' | false => x) v r1 ∧ DLs w k as vs' r2
/-- A contract: the lists of the results are new memory, all the way down. -/
def CSD (P : Program) (f : FuncId) (args : List DArg) (rs : List T) (os : List (List BC)) : Prop :=
  ∀ (G : Nat → Prop) (w : World) (vals : List Value) (rb rd : List Nat), ArgsOk (inV G w) w (bA args) (bV args vals) rb → DLs w false args vals rd → (rb ++ rd).Nodup → (∀ b ∈ rb ++ rd, b < w.heap.size ∧ ¬ G b) → GOk G w →
    CallV P f vals.toArray w fun v w' => ∃ r1 r2 r3, Fr (rb ++ rd) w w' ∧ DRes w' rs v r1 ∧ OutsOk (inV (fun b => G b ∨ (w.heap.size ≤ b ∨ b ∈ rb ++ rd) ∧ b ∉ r1 ++ (r2 ++ r3)) w') w' (bA args) (bV args vals) os r2 ∧ DLs w' true args vals r3 ∧
      (r1 ++ (r2 ++ r3)).Nodup ∧ ∀ b ∈ r1 ++ (r2 ++ r3), b < w'.heap.size ∧ (b ∈ rb ++ rd ∨ w.heap.size ≤ b)

/-! ### Trees told by slices -/
def RCr (t x : T) (d : De) : Prop :=
  match t with
  | .list sz es => ∃ y, x = .raw y ∧ d = [(y, .list sz es)]
  | t => x = t ∧ t.scal = true ∧ d = []
def RCrL : List T → List T → De → Prop
  | [], xs, d => xs = [] ∧ d = []
  | t :: ts, xs, d => ∃ x xs' d1 d2, xs = x :: xs' ∧ d = d1 ++ d2 ∧ RCr t x d1 ∧ RCrL ts xs' d2
def RAr (t x : T) (d : De) : Prop :=
  match t with
  | .agg ts => ∃ xs, x = .agg xs ∧ RCrL ts xs d
  | t => RCr t x d
def RArL : List T → List T → De → Prop
  | [], xs, d => xs = [] ∧ d = []
  | t :: ts, xs, d => ∃ x xs' d1 d2, xs = x :: xs' ∧ d = d1 ++ d2 ∧ RAr t x d1 ∧ RArL ts xs' d2
/-- What a call's value is told as: any slices for the lists. -/
def ResV (rs : List T) (av : AV) (d : De) : Prop :=
  match rs with
  | [t] => ∃ x, av = .a (openT x) ∧ RAr t x d
  | rs => ∃ xs, av = .tup (xs.map openT) ∧ RArL rs xs d
/-- What the callee is handed, told by slices: what is lent, ahead of the call (k = false) or behind it. -/
def LnArgs (k : Bool) : List DArg → List AA → De → Prop
  | [], as, d => as = [] ∧ d = []
  | .b x :: r, as, d => ∃ as', as = x :: as' ∧ LnArgs k r as' d
  | .l t t' :: r, as, d => ∃ x as' d1 d2, as = .v x :: as' ∧ d = d1 ++ d2 ∧ RAr (match k with | true => t' | false => t) x d1 ∧ LnArgs k r as' d2

section
variable {P : Program} {τ : Tab} {md : Nat → Md} {Γ0 Γ : Ctx} {al : Nat → Prop} {s : St} {a : Act} {w w' : World} {μ : Nat → Option Pl} {d dl dr : De} {r : List Nat} {S S0' : Addr → Option Value}
theorem sl_of {sz : Nat} {es : List T} {v : Value} {r : List Nat} (h : DH w (.list sz es) v r) : ∃ y : Sl, v = y.v := by
  cases h with
  | sc _ _ hx _ => simp [T.scal] at hx
  | nil sz q => exact ⟨⟨q, 0, 0⟩, rfl⟩
  | list => exact ⟨⟨_, _, _⟩, rfl⟩
/-- A deep cell, told. -/
theorem RCr_of {t : T} {v : Value} {r : List Nat} (h : DH w t v r) : ∃ x e, RCr t x e ∧ (∀ S, Hold S x v) ∧ v.oneCell' = true ∧ DD w e r := by
  have h1 := h.one
  cases t with
  | list sz es =>
    obtain ⟨y, rfl⟩ := sl_of h
    exact ⟨.raw y, _, ⟨y, rfl, rfl⟩, fun _ => .raw y, h1, r, [], by simp, h, rfl⟩
  | _ => cases h with
    | sc _ _ hx hH => exact ⟨_, [], ⟨rfl, hx, rfl⟩, fun _ => hH.scal hx, h1, rfl⟩
theorem RCrL_of : ∀ {ts : List T} {vs : List Value} {r : List Nat}, DHL w ts vs r → ∃ xs e, RCrL ts xs e ∧ (∀ S, HoldL S xs vs) ∧ DD w e r
  | [], _, _, ⟨rfl, rfl⟩ => ⟨[], [], ⟨rfl, rfl⟩, fun _ => ⟨rfl, by simp, by simp⟩, rfl⟩
  | t :: ts, _, _, ⟨v, vs, r1, r2, rfl, rfl, h1, h2⟩ => by
    obtain ⟨x, d1, a1, a2, a3, a4⟩ := RCr_of h1
    obtain ⟨xs, d2, b1, b2, b3⟩ := RCrL_of h2
    refine ⟨x :: xs, d1 ++ d2, ⟨x, xs, d1, d2, rfl, rfl, a1, b1⟩, fun S => ⟨by simp [(b2 S).1], fun u hu => ?_, fun j t u p q => ?_⟩, a4.join b3⟩
    · rcases List.mem_cons.1 hu with rfl | hu
      · exact a3
      · exact (b2 S).2.1 u hu
    · cases j with
      | zero => simp at p q; subst p q; exact a2 S
      | succ j => exact (b2 S).2.2 j t u (by simpa using p) (by simpa using q)
theorem rar_C {t x : T} {e : De} (ht : ∀ ts, t ≠ .agg ts) (h : RAr t x e) : RCr t x e := by
  cases t <;> first | exact h | exact (ht _ rfl).elim
theorem c_rar {t x : T} {e : De} (ht : ∀ ts, t ≠ .agg ts) (h : RCr t x e) : RAr t x e := by
  cases t <;> first | exact h | exact (ht _ rfl).elim
theorem da_H {t : T} {v : Value} {r : List Nat} (ht : ∀ ts, t ≠ .agg ts) (h : DA w t v r) : DH w t v r := by
  cases t <;> first | exact h | exact (ht _ rfl).elim
theorem h_da {t : T} {v : Value} {r : List Nat} (ht : ∀ ts, t ≠ .agg ts) (h : DH w t v r) : DA w t v r := by
  cases t <;> first | exact h | exact (ht _ rfl).elim
theorem RAr_of {t : T} {v : Value} {r : List Nat} (h : DA w t v r) : ∃ x e, RAr t x e ∧ (∀ S, Hold S x v) ∧ DD w e r := by
  cases t with
  | agg ts =>
    obtain ⟨vs, rfl, h⟩ := h
    obtain ⟨xs, e, h1, h2, h3⟩ := RCrL_of h
    exact ⟨.agg xs, e, ⟨xs, rfl, h1⟩, fun S => .agg xs vs (h2 S).1 (h2 S).2.1 (h2 S).2.2, h3⟩
  | _ =>
    obtain ⟨x, e, h1, h2, _, h3⟩ := RCr_of (da_H (by simp) h)
    exact ⟨x, e, c_rar (by simp) h1, h2, h3⟩
theorem RArL_of : ∀ {ts : List T} {vs : List Value} {r : List Nat}, DAL w ts vs r → ∃ xs e, RArL ts xs e ∧ vs.length = xs.length ∧ (∀ (j : Nat) x v, xs[j]? = some x → vs[j]? = some v → ∀ S, Hold S x v) ∧ DD w e r
  | [], _, _, ⟨rfl, rfl⟩ => ⟨[], [], ⟨rfl, rfl⟩, rfl, by simp, rfl⟩
  | t :: ts, _, _, ⟨v, vs, r1, r2, rfl, rfl, h1, h2⟩ => by
    obtain ⟨x, d1, a1, a2, a4⟩ := RAr_of h1
    obtain ⟨xs, d2, b1, b2, b3, b4⟩ := RArL_of h2
    refine ⟨x :: xs, d1 ++ d2, ⟨x, xs, d1, d2, rfl, rfl, a1, b1⟩, by simp [b2], fun j x v p q => ?_, a4.join b4⟩
    cases j with
    | zero => simp at p q; subst p q; exact a2
    | succ j => exact b3 j x v (by simpa using p) (by simpa using q)
theorem ResV_of {rs : List T} {v : Value} {r : List Nat} (h : DRes w rs v r) : ∃ av e, ResV rs av e ∧ (∀ al hp S μ, AVOk al hp S μ av v) ∧ DD w e r := by
  unfold DRes at h
  unfold ResV
  split at h
  · obtain ⟨x, e, h1, h2, h3⟩ := RAr_of h
    exact ⟨_, e, ⟨x, rfl, h1⟩, fun _ _ S _ => openT_ok (h2 S), h3⟩
  · rename_i hne
    obtain ⟨vs, rfl, h⟩ := h
    obtain ⟨xs, e, h1, h2, h3, h4⟩ := RArL_of h
    refine ⟨.tup (xs.map openT), e, ?_, fun al hp S μ => ⟨vs, rfl, by simp [h2], fun j x v p q => ?_⟩, h4⟩
    · first
        | exact ⟨xs, rfl, h1⟩
        | (split
           · exact (hne _ rfl).elim
           · exact ⟨xs, rfl, h1⟩)
    · rw [List.getElem?_map, Option.map_eq_some_iff] at p
      obtain ⟨y, hy, rfl⟩ := p
      exact openT_ok (h3 j y v hy q S)

/-! A cell that is told holds what it tells. -/
theorem RCr_DH {t x : T} {v : Value} {e : De} {r : List Nat} (hH : Hold S x v) (h : RCr t x e) (hd : DD w e r) : DH w t v r := by
  unfold RCr at h
  split at h
  · obtain ⟨y, rfl, rfl⟩ := h
    obtain ⟨r1, _, rfl, h1, rfl⟩ := hd
    cases hH
    simpa using h1
  · obtain ⟨rfl, hs, rfl⟩ := h
    obtain rfl := hd
    exact .sc _ _ hs (hH.scal hs)
theorem RCrL_DH : ∀ {ts xs : List T} {e : De} {vs : List Value} {r : List Nat}, HoldL S xs vs → RCrL ts xs e → DD w e r → DHL w ts vs r
  | [], xs, e, vs, r, hH, h, hd => by
    obtain ⟨h1, h2⟩ := h
    subst h1 h2
    obtain rfl : vs = [] := List.eq_nil_of_length_eq_zero hH.1
    exact ⟨rfl, hd⟩
  | t :: ts, xs, e, vs, r, hH, h, hd => by
    obtain ⟨x, xs', d1, d2, rfl, rfl, h1, h2⟩ := h
    obtain ⟨r1, r2, rfl, g1, g2⟩ := hd.app
    cases vs with
    | nil => simp [HoldL] at hH
    | cons v vs => exact ⟨v, vs, r1, r2, rfl, rfl, RCr_DH (hH.2.2 0 x v rfl rfl) h1 g1, RCrL_DH ⟨by simpa using hH.1, fun u hu => hH.2.1 u (by simp [hu]), fun j t v a b => hH.2.2 (j + 1) t v (by simpa using a) (by simpa using b)⟩ h2 g2⟩
theorem RAr_DA {t x : T} {v : Value} {e : De} {r : List Nat} (hH : Hold S x v) (h : RAr t x e) (hd : DD w e r) : DA w t v r := by
  cases t with
  | agg ts =>
    obtain ⟨xs, rfl, h⟩ := h
    cases hH with
    | agg _ vs h1 h2 h3 => exact ⟨vs, rfl, RCrL_DH ⟨h1, h2, h3⟩ h hd⟩
  | _ => exact h_da (by simp) (RCr_DH hH (rar_C (by simp) h) hd)
/-- And back: with the same slices. -/
theorem RCr_DD {t x : T} {v : Value} {e : De} {r : List Nat} (hH : Hold S x v) (h : RCr t x e) (hd : DH w t v r) : DD w e r := by
  unfold RCr at h
  split at h
  · obtain ⟨y, rfl, rfl⟩ := h
    cases hH
    exact ⟨r, [], by simp, hd, rfl⟩
  · obtain ⟨rfl, hs, rfl⟩ := h
    cases hd with
    | sc => rfl
    | nil => simp [T.scal] at hs
    | list => simp [T.scal] at hs
theorem RCrL_DD : ∀ {ts xs : List T} {e : De} {vs : List Value} {r : List Nat}, HoldL S xs vs → RCrL ts xs e → DHL w ts vs r → DD w e r
  | [], xs, e, vs, r, hH, h, hd => by
    obtain ⟨h1, h2⟩ := h
    subst h1 h2
    exact hd.2
  | t :: ts, xs, e, vs, r, hH, h, hd => by
    obtain ⟨x, xs', d1, d2, rfl, rfl, h1, h2⟩ := h
    obtain ⟨v, vs', r1, r2, rfl, rfl, g1, g2⟩ := hd
    exact (RCr_DD (hH.2.2 0 x v rfl rfl) h1 g1).join (RCrL_DD ⟨by simpa using hH.1, fun u hu => hH.2.1 u (by simp [hu]), fun j t v a b => hH.2.2 (j + 1) t v (by simpa using a) (by simpa using b)⟩ h2 g2)
theorem RAr_DD {t x : T} {v : Value} {e : De} {r : List Nat} (hH : Hold S x v) (h : RAr t x e) (hd : DA w t v r) : DD w e r := by
  cases t with
  | agg ts =>
    obtain ⟨xs, rfl, h⟩ := h
    obtain ⟨vs, rfl, hd⟩ := hd
    cases hH with
    | agg _ vs' h1 h2 h3 => exact RCrL_DD ⟨h1, h2, h3⟩ h hd
  | _ => exact RCr_DD hH (rar_C (by simp) h) (da_H (by simp) hd)

/-! ### The beginning and the end -/
theorem args_split : ∀ {args : List DArg} {vals : List Value} {rb rd : List Nat}, ArgsOk S w (bA args) (bV args vals) rb → DLs w false args vals rd →
    ∃ as din, ArgsOk S w as vals rb ∧ DD w din rd ∧ LnArgs false args as din ∧ as.length = args.length
  | [], vals, rb, rd, h1, h => by
    obtain ⟨h2, h3⟩ := h
    subst h2 h3
    exact ⟨[], [], h1, rfl, ⟨rfl, rfl⟩, rfl⟩
  | .b x :: args, vals, rb, rd, h1, h => by
    obtain ⟨v, vals, rfl, h2⟩ := h
    obtain ⟨v', vs', r1, r2, e, rfl, g1, g2⟩ := h1
    obtain ⟨rfl, rfl⟩ : v = v' ∧ bV args vals = vs' := by simpa [bV] using e
    obtain ⟨as, din, k1, k2, k3, k4⟩ := args_split g2 h2
    exact ⟨x :: as, din, ⟨v, vals, r1, r2, rfl, rfl, g1, k1⟩, k2, ⟨as, rfl, k3⟩, by simp [k4]⟩
  | .l t t' :: args, vals, rb, rd, h1, h => by
    obtain ⟨v, vals, r1, r2, rfl, rfl, h2, h3⟩ := h
    obtain ⟨x, e1, a1, a2, a3⟩ := RAr_of h2
    obtain ⟨as, din, k1, k2, k3, k4⟩ := args_split (args := args) (vals := vals) h1 h3
    exact ⟨.v x :: as, e1 ++ din, ⟨v, vals, [], rb, rfl, rfl, ⟨rfl, a2 S⟩, k1⟩, a3.join k2, ⟨x, as, e1, din, rfl, rfl, a1, k3⟩, by simp [k4]⟩
/-- What was lent, behind the call: the same slices hold what they have become. -/
theorem args_back : ∀ {args : List DArg} {as : List AA} {vals : List Value} {rb : List Nat} {dout : De} {rd : List Nat}, ArgsOk S w as vals rb → LnArgs true args as dout → DD w' dout rd → DLs w' true args vals rd
  | [], as, vals, rb, dout, rd, h1, h2, h3 => by
    obtain ⟨g1, g2⟩ := h2
    subst g1 g2
    exact ⟨h1.1, h3⟩
  | .b x :: args, as, vals, rb, dout, rd, h1, h2, h3 => by
    obtain ⟨as', rfl, g⟩ := h2
    obtain ⟨v, vs, r1, r2, rfl, rfl, k1, k2⟩ := h1
    exact ⟨v, vs, rfl, args_back k2 g h3⟩
  | .l t t' :: args, as, vals, rb, dout, rd, h1, h2, h3 => by
    obtain ⟨x, as', d1, d2, rfl, rfl, g1, g2⟩ := h2
    obtain ⟨v, vs, r1, r2, rfl, rfl, k1, k2⟩ := h1
    obtain ⟨r3, r4, rfl, q1, q2⟩ := h3.app
    exact ⟨v, vs, r3, r4, rfl, rfl, RAr_DA k1.2 g1 q1, args_back k2 g2 q2⟩
theorem outs_back : ∀ {args : List DArg} {as : List AA} {vals : List Value} {rb : List Nat} {k : Bool} {d : De} {os : List (List BC)} {ro : List Nat}, ArgsOk S w as vals rb → LnArgs k args as d → OutsOk S0' w' as vals os ro → OutsOk S0' w' (bA args) (bV args vals) os ro
  | [], as, vals, rb, k, d, os, ro, h1, h2, h3 => by
    obtain ⟨g1, g2⟩ := h2
    subst g1 g2
    exact h3
  | .b x :: args, as, vals, rb, k, d, os, ro, h1, h2, h3 => by
    obtain ⟨as', rfl, g⟩ := h2
    obtain ⟨v, vs, r1, r2, rfl, rfl, k1, k2⟩ := h1
    cases x with
    | mb cs => obtain ⟨o, os', b, q1, q2, e1, e2, e3, e4, e5, e6⟩ := h3; exact ⟨o, os', b, q1, q2, e1, e2, e3, e4, e5, outs_back k2 g e6⟩
    | clo f cs => obtain ⟨o, os', b, q1, q2, e1, e2, e3, e4, e5, e6⟩ := h3; exact ⟨o, os', b, q1, q2, e1, e2, e3, e4, e5, outs_back k2 g e6⟩
    | ln sz es => obtain ⟨es', os', q1, q2, e1, e2, e3, e4, e5⟩ := h3; exact ⟨es', os', q1, q2, e1, e2, e3, e4, outs_back k2 g e5⟩
    | v x => exact outs_back (args := args) k2 g h3
    | nilp => exact outs_back (args := args) k2 g h3
    | fn f => exact outs_back (args := args) k2 g h3
    | mv sz es => exact outs_back (args := args) k2 g h3
  | .l t t' :: args, as, vals, rb, k, d, os, ro, h1, h2, h3 => by
    obtain ⟨x, as', d1, d2, rfl, rfl, g1, g2⟩ := h2
    obtain ⟨v, vs, r1, r2, rfl, rfl, k1, k2⟩ := h1
    exact outs_back (args := args) k2 g2 h3

/-! ### What code does, with deep trees beside it -/
def WWD (P : Program) (c : Code) (s : St) (d : De) (Q : X → St → De → Prop) : Prop :=
  ∀ (Γ0 : Ctx) (a : Act) (w : World), RelD Γ0 (· < s.nx) s d a w → c.wp P (fun e a' w' => ∃ x s' d', x.is e ∧ Q x s' d' ∧ RelD Γ0 (· < s'.nx) s' d' a' w') a w
/-- The end: the results, with slices for deep trees; what they hold, and what was lent. -/
def finD (rs : List T) (os : List (List BC)) (dout : De) (rs' : List T) (os' : List (List BC)) (d : De) : Prop := os' = os ∧ ∃ e rest, RAL rs' rs e ∧ d.Perm (e ++ (dout ++ rest))
def endD (τ : Tab) (rl : List ResultVar) (as : List AA) (rs : List T) (os : List (List BC)) (dout : De) (x : X) (s : St) (d : De) : Prop :=
  match x with
  | .exit _ => False
  | _ => ∃ rs' os', retE τ true rl as s rs' os' ∧ finD rs os dout rs' os' d
theorem CSD_of_WWD (hτ : TOk P τ) {f : FuncId} {fn : Func} {c : Code} {N : Nat} (hf : P.funcs[f]? = some fn) (hb : fn.body = some c) (hname : (fn.name == "runtime.NumGoroutine") = false) (hN : fn.ntmps = N) {rl : List ResultVar} (hrl : fn.results.toList = rl)
    {args : List DArg} {rs : List T} {os : List (List BC)} (hlen : args.length ≤ N) (h : ∀ as din, LnArgs false args as din → ∃ dout, LnArgs true args as dout ∧ WWD P c (initS N as) din (endD τ rl as rs os dout)) : CSD P f args rs os := by
  subst hN hrl
  intro G w vals rb rd hA hD hnd hbs hG
  have hname' : ¬ fn.name = "runtime.NumGoroutine" := by simpa using hname
  refine .inl ⟨by simp [callFunc, hf, hname', hb], ?_⟩
  obtain ⟨as, din, k1, k2, k3, k4⟩ := args_split hA hD
  obtain ⟨dout, k5, hW⟩ := h as din k3
  have hnd1 := (List.nodup_append.1 hnd)
  obtain ⟨pin, μ, R, hpin⟩ := entry_rel (N := fn.ntmps) k1 hnd1.1 (fun b hb => hbs b (by simp [hb])) (by omega) hG
  have R0 : RelD ⟨fun b => G b ∨ w.heap.size ≤ b ∨ b ∈ rb ++ rd, w, rb ++ rd, pin, ⟨hG.inv, fun b hb => ⟨.inl (hG.gb b hb), fun h => (hbs b h).2 (hG.gb b hb)⟩⟩⟩ (· < (initS fn.ntmps as).nx) (initS fn.ntmps as) din { tmps := vals.toArray ++ Array.replicate (fn.ntmps - vals.toArray.size) undef, defers := [] } w :=
    ⟨_, rd, μ, R, ⟨rfl, Fr.refl _ _, fun b hb => .inl (by simp [show b ∈ rb from hb]), fun b hb => by
      rcases hb with hb | hb | hb
      · exact .inl hb
      · exact .inr (.inl hb)
      · exact .inr (.inr (by simp [hb])), fun b hb => .inr (.inl hb), k2, hnd1.2.1, fun b hb => ⟨(hbs b (by simp [hb])).1, fun h => hnd1.2.2 b h b hb rfl, fun h => by
        rcases h with h | h | h
        · exact (hbs b (by simp [hb])).2 h
        · have := (hbs b (by simp [hb])).1; omega
        · exact hnd1.2.2 b h b hb rfl, .inl (by simp [hb])⟩, fun b hb => .inr (.inr hb)⟩⟩
  refine calls_of_wp hf hb (wp_mono (hW _ _ w R0) fun e a' w' ⟨x, s', d', hx, hq, R'⟩ => ?_)
  have fin : (∃ rs' os', retE τ true fn.results.toList as s' rs' os' ∧ finD rs os dout rs' os' d') → a'.defers = [] ∧ ∃ v, (results fn a'.tmps).run P w' = .ok v w' ∧ ∃ v2, Ending.returned v = .returned v2 ∧ ∃ r1 r2 r3, Fr (rb ++ rd) w w' ∧ DRes w' rs v2 r1 ∧
      OutsOk (inV (fun b => G b ∨ (w.heap.size ≤ b ∨ b ∈ rb ++ rd) ∧ b ∉ r1 ++ (r2 ++ r3)) w') w' (bA args) (bV args vals) os r2 ∧ DLs w' true args vals r3 ∧ (r1 ++ (r2 ++ r3)).Nodup ∧ ∀ b ∈ r1 ++ (r2 ++ r3), b < w'.heap.size ∧ (b ∈ rb ++ rd ∨ w.heap.size ≤ b) := fun hend => by
    obtain ⟨rs', os', hr, ho, e, rest, hal, hp⟩ := hend
    subst ho
    obtain ⟨Γ, r, μ', R', D⟩ := R'
    obtain ⟨v, r1, r2, h1, h2, h3, h4, h5⟩ := exit_ok hτ R' (by rw [D.pin]; exact hpin) (show retK τ true fn as s' (fun rs'' os'' => rs'' = rs' ∧ os'' = os') from hr)
    have hdw : DD w' d' r := D.dd.frame R'.mem.fr fun b hb => ⟨(D.out b hb).1, (D.out b hb).2.1⟩
    obtain ⟨q, hq, hd⟩ := hdw.perm hp
    obtain ⟨re, q2, rfl, hde, hd⟩ := hd.app
    obtain ⟨ro, rx, rfl, hdo, _⟩ := hd.app
    have hout : ∀ b ∈ re ++ ro, b < w'.heap.size ∧ ¬ Γ.G b ∧ (b ∈ rb ++ rd ∨ w.heap.size ≤ b) := fun b hb => by
      obtain ⟨g1, g2, g3, g4⟩ := D.out b (hq.mem_iff.2 (by rcases List.mem_append.1 hb with h | h <;> simp [h]))
      exact ⟨Nat.lt_of_lt_of_le g1 R'.mem.fr.size, g3, g4⟩
    have hqn : (re ++ (ro ++ rx)).Nodup := hq.nodup_iff.1 D.nd
    have hin : ∀ b ∈ r1 ++ r2, Γ.G b := fun b hb => R'.mem.gd b (h5 b hb).2
    obtain ⟨r1', hp1, hres⟩ := Res_deep h2 hal hde
    have hm1 : ∀ b, b ∈ r1' ↔ b ∈ r1 ∨ b ∈ re := fun b => by rw [hp1.mem_iff]; simp
    refine ⟨R'.defers, v, h1, v, rfl, r1', r2, ro, D.fr.trans R'.mem.fr fun k hk hlt => ?_, hres, ?_, args_back k1 k5 hdo, ?_, fun b hb => ?_⟩
    · rcases D.own k hk with h | h
      · exact h
      · exact absurd hlt (Nat.not_lt.2 h)
    · refine OutsOk.mono (fun x u hu => ?_) (outs_back k1 k5 h3)
      rw [inV_some] at hu ⊢
      refine ⟨?_, hu.2⟩
      rcases D.G _ hu.1.1 with h | h | h
      · exact .inl h
      · refine .inr ⟨.inl h, fun hb => ?_⟩
        rcases List.mem_append.1 hb with hb | hb
        · rcases (hm1 _).1 hb with hb | hb
          · exact hu.1.2 (by simp [hb])
          · exact (hout _ (by simp [hb])).2.1 hu.1.1
        · rcases List.mem_append.1 hb with hb | hb
          · exact hu.1.2 (by simp [hb])
          · exact (hout _ (by simp [hb])).2.1 hu.1.1
      · refine .inr ⟨.inr h, fun hb => ?_⟩
        rcases List.mem_append.1 hb with hb | hb
        · rcases (hm1 _).1 hb with hb | hb
          · exact hu.1.2 (by simp [hb])
          · exact (hout _ (by simp [hb])).2.1 hu.1.1
        · rcases List.mem_append.1 hb with hb | hb
          · exact hu.1.2 (by simp [hb])
          · exact (hout _ (by simp [hb])).2.1 hu.1.1
    · have key : ((r1 ++ re) ++ (r2 ++ ro)).Nodup := by
        have : ((r1 ++ r2) ++ (re ++ ro)).Nodup := by
          refine List.nodup_append.2 ⟨h4, ?_, fun x hx y hy hxy => ?_⟩
          · rw [← List.append_assoc] at hqn
            exact (List.nodup_append.1 hqn).1
          · subst hxy; exact (hout x hy).2.1 (hin x hx)
        exact (perm4 (.refl _) (.refl _) : ((r1 ++ r2) ++ (re ++ ro)).Perm _).nodup_iff.1 this
      exact ((hp1.append_right (r2 ++ ro)).nodup_iff).2 key
    · have hb' : b ∈ r1 ++ r2 ∨ b ∈ re ++ ro := by
        rcases List.mem_append.1 hb with h | h
        · rcases (hm1 b).1 h with h | h <;> simp [h]
        · rcases List.mem_append.1 h with h | h <;> simp [h]
      rcases hb' with h | h
      · refine ⟨(h5 b h).1, ?_⟩
        rcases (h5 b h).2 with g | g
        · exact D.own b g
        · exact .inr (Nat.le_trans D.fr.size g)
      · exact ⟨(hout b h).1, (hout b h).2.2⟩
  cases x with
  | normal =>
    obtain rfl : e = .normal := by cases e <;> first | rfl | exact hx.elim
    exact fin hq
  | exit j => exact hq.elim
  | ret =>
    obtain rfl : e = .ret := by cases e <;> first | rfl | exact hx.elim
    exact fin hq
end
end Go.Proofs.YtbmibaopkfenbaaDoor.M

/- A machine of values: code with deep trees beside it: its rules, and a call. No condition. -/
namespace Go.Proofs.YtbmibaopkfenbaaDoor.M
open Go
set_option linter.unusedSimpArgs false
set_option linter.unusedVariables false
set_option linter.unusedSectionVars false

def WWDE (P : Program) (c : Code) (s : St) (d : De) (Q : X → St → De → Prop) (_ : Shut c) (_ : Shut d) (_ : Shut Q) : Prop := WWD P c s d Q
def seqD (P : Program) (b : Code) (Q : X → St → De → Prop) (x : X) (s : St) (d : De) : Prop :=
  match x with
  | .normal => WWDE P b s d Q .one .one .one
  | .exit i => Q (.exit i) s d
  | .ret => Q .ret s d
def blockD (i : Nat) (Q : X → St → De → Prop) (x : X) (s : St) (d : De) : Prop :=
  match x with
  | .exit j => if j == i then Q .normal s d else Q (.exit j) s d
  | .normal => Q .normal s d
  | .ret => Q .ret s d
def baseD (Q : X → St → De → Prop) (d : De) (x : X) (s : St) : Prop := Q x s d
/-- The end of a round. -/
def nextD {ι : Type} (n : Nat) (S : ι → St) (D : ι → De) (m : ι → Nat) (i : ι) (s : St) (d : De) : Prop := ∃ j rest, m j < m i ∧ (S j).nx = n ∧ Reach n s (S j) ∧ d.Perm (D j ++ rest)
def loopD {ι : Type} (n : Nat) (S : ι → St) (D : ι → De) (m : ι → Nat) (i : ι) (Q : X → St → De → Prop) (x : X) (s : St) (d : De) : Prop :=
  match x with
  | .normal => nextD n S D m i s d
  | .exit e => Q (.exit e) s d
  | .ret => Q .ret s d

section
variable {P : Program} {τ : Tab} {md : Nat → Md} {Γ0 Γ : Ctx} {al al' : Nat → Prop} {s s' : St} {a : Act} {w w' : World} {μ : Nat → Option Pl} {d d' dl dr : De} {r : List Nat} {b c e : Code} {Q Q' : X → St → De → Prop} {n : Nat}
theorem act_seqD_normal : act (seqD P b Q .normal s d) = WWDE P b s d Q .one .one .one := (rfl)
theorem act_seqD_exit {i : Nat} : act (seqD P b Q (.exit i) s d) = act (Q (.exit i) s d) := (rfl)
theorem act_seqD_ret : act (seqD P b Q .ret s d) = act (Q .ret s d) := (rfl)
theorem act_blockD_exit {i j : Nat} : act (blockD i Q (.exit j) s d) = if j == i then act (Q .normal s d) else act (Q (.exit j) s d) := by
  show act (if (j == i) = true then Q .normal s d else Q (.exit j) s d) = _
  cases (j == i) <;> rfl
theorem act_blockD_normal {i : Nat} : act (blockD i Q .normal s d) = act (Q .normal s d) := (rfl)
theorem act_blockD_ret {i : Nat} : act (blockD i Q .ret s d) = act (Q .ret s d) := (rfl)
theorem act_baseD {x : X} : act (baseD Q d x s) = act (Q x s d) := (rfl)
theorem act_loopD_normal {ι : Type} {S : ι → St} {D : ι → De} {m : ι → Nat} {i : ι} : act (loopD n S D m i Q .normal s d) = nextD n S D m i s d := (rfl)
theorem act_loopD_exit {ι : Type} {S : ι → St} {D : ι → De} {m : ι → Nat} {i : ι} {j : Nat} : act (loopD n S D m i Q (.exit j) s d) = act (Q (.exit j) s d) := (rfl)
theorem act_loopD_ret {ι : Type} {S : ι → St} {D : ι → De} {m : ι → Nat} {i : ι} : act (loopD n S D m i Q .ret s d) = act (Q .ret s d) := (rfl)
def finE (τ : Tab) (rl : List ResultVar) (as : List AA) (rs : List T) (os : List (List BC)) (dout : De) (s : St) (d : De) : Prop := ∃ rs' os', retE τ true rl as s rs' os' ∧ finD rs os dout rs' os' d
theorem act_endD_ret {rl : List ResultVar} {as : List AA} {rs : List T} {os : List (List BC)} {dout : De} : act (endD τ rl as rs os dout .ret s d) = finE τ rl as rs os dout s d := (rfl)
theorem act_endD_normal {rl : List ResultVar} {as : List AA} {rs : List T} {os : List (List BC)} {dout : De} : act (endD τ rl as rs os dout .normal s d) = finE τ rl as rs os dout s d := (rfl)

theorem RelD.perm (h : RelD Γ0 al s d a w) {rest : De} (hp : d.Perm (d' ++ rest)) : RelD Γ0 al s d' a w := h.weak hp
theorem CSD_views (hτ : TOk P τ) {f : FuncId} {fn : Func} {N : Nat} (hf : P.funcs[f]? = some fn) (hb : fn.body = some c) (hname : (fn.name == "runtime.NumGoroutine") = false) (hN : fn.ntmps = N) {rl : List ResultVar} (hrl : fn.results.toList = rl)
    {xs : List AA} {rs : List T} {os : List (List BC)} (hlen : xs.length ≤ N) (h : WWDE P c (initS N xs) [] (endD τ rl xs rs os []) .one .one .one) : CSD P f (xs.map DArg.b) rs os := by
  have key : ∀ (k : Bool) (xs : List AA) (as : List AA) (din : De), LnArgs k (xs.map DArg.b) as din ↔ as = xs ∧ din = [] := fun k xs => by
    induction xs with
    | nil => intro as din; exact ⟨fun ⟨a, b⟩ => ⟨a, b⟩, fun ⟨a, b⟩ => ⟨a, b⟩⟩
    | cons x r ih =>
      intro as din
      constructor
      · rintro ⟨as', rfl, h⟩
        obtain ⟨rfl, rfl⟩ := (ih _ _).1 h
        exact ⟨rfl, rfl⟩
      · rintro ⟨rfl, rfl⟩
        exact ⟨r, rfl, (ih _ _).2 ⟨rfl, rfl⟩⟩
  refine CSD_of_WWD hτ hf hb hname hN hrl (by simpa using hlen) fun as din hln => ?_
  obtain ⟨rfl, rfl⟩ := (key _ _ _ _).1 hln
  exact ⟨[], (key _ _ _ _).2 ⟨rfl, rfl⟩, h⟩
theorem WWD.mono (h : WWD P c s d Q) (hq : ∀ x s d, Q x s d → Q' x s d) : WWD P c s d Q' := fun Γ0 a w R =>
  wp_mono (h Γ0 a w R) fun e a' w' ⟨x, s', d', hx, hQ, R'⟩ => ⟨x, s', d', hx, hq _ _ _ hQ, R'⟩
theorem WWD_act (hτ : TOk P τ) (md : Nat → Md) {x : Shut c} {y : Shut d} {z : Shut Q} (h : act (W P τ md c s (baseD Q d))) : WWDE P c s d Q x y z := fun Γ0 a w ⟨Γ, r, μ, R, D⟩ =>
  wp_mono (W_sound hτ c s _ h Γ a w μ R) fun e a' w' ⟨x, s', μ', hx, hq, R'⟩ => ⟨x, s', d, hx, hq, Γ, r, μ', R', D⟩
theorem WWD_seq {x : Shut (Code.seq b c)} {y : Shut d} {z : Shut Q} (h : WWDE P b s d (seqD P c Q) .one .one .one) : WWDE P (.seq b c) s d Q x y z := fun Γ0 a w R => by
  refine wp_seq (wp_mono (h Γ0 a w R) fun e a' w' ⟨x, s', d', hx, hq, R'⟩ => ?_)
  cases x with
  | normal =>
    obtain rfl : e = .normal := by cases e <;> first | rfl | exact hx.elim
    exact hq Γ0 a' w' R'
  | exit i =>
    obtain rfl : e = .exit i := by cases e <;> first | exact hx.elim | exact congrArg _ hx.symm
    exact ⟨_, s', d', hx, hq, R'⟩
  | ret =>
    obtain rfl : e = .ret := by cases e <;> first | rfl | exact hx.elim
    exact ⟨_, s', d', hx, hq, R'⟩
theorem WWD_seqB (hτ : TOk P τ) (md : Nat → Md) {x : Shut (Code.seq b c)} {y : Shut d} {z : Shut Q} (h : act (W P τ md b s (baseD (seqD P c Q) d))) : WWDE P (.seq b c) s d Q x y z := WWD_seq (WWD_act hτ md h)
theorem WWD_block {i : Nat} {x : Shut (Code.block i c)} {y : Shut d} {z : Shut Q} (h : WWDE P c s d (blockD i Q) .one .one .one) : WWDE P (.block i c) s d Q x y z := fun Γ0 a w R => by
  refine wp_block (wp_mono (h Γ0 a w R) fun e a' w' ⟨x, s', d', hx, hq, R'⟩ => ?_)
  cases x with
  | normal =>
    cases e <;> first | exact hx.elim | skip
    exact ⟨.normal, s', d', trivial, hq, R'⟩
  | exit j =>
    obtain ⟨k, rfl⟩ : ∃ k, e = .exit k := by cases e <;> first | exact ⟨_, rfl⟩ | exact hx.elim
    obtain rfl : j = k := hx
    simp only [Exit.inBlock]
    by_cases hji : j = i
    · subst hji
      simp only [blockD, beq_self_eq_true, if_true] at hq ⊢
      exact ⟨.normal, s', d', trivial, hq, R'⟩
    · have : (j == i) = false := by simpa using hji
      simp only [blockD, this, Bool.false_eq_true, if_false] at hq
      simp only [hji, if_false]
      exact ⟨.exit j, s', d', rfl, hq, R'⟩
  | ret =>
    cases e <;> first | exact hx.elim | skip
    exact ⟨.ret, s', d', trivial, hq, R'⟩
theorem RelD.tidy (R : RelD Γ0 (· < s.nx) s d a w) {ks hs : List Nat} {n : Nat} {S : St} {rest : De} (hsn : s.nx ≤ n) (h0 : tidyB hs n (M.tidy ks hs n s) = true) (h1 : M.tidy ks hs n s = S) (hp : d.Perm (d' ++ rest)) : RelD Γ0 (· < S.nx) S d' a w := by
  obtain ⟨Γ, r, μ, R, D⟩ := R.weak hp
  have hpn : ∀ i b, Γ.pin i = some b → i < n := fun i b hb => Nat.lt_of_lt_of_le (R.mem.pin i b hb).1 hsn
  have R0 := tidy_ok R hpn h0
  rw [h1] at R0
  have hn : S.nx = n := by rw [← h1]; rfl
  rw [hn]
  exact ⟨Γ, r, μ, R0, D⟩
theorem WWD_cut {x : Shut c} {y : Shut d} {z : Shut Q} (ks hs : List Nat) (n : Nat) (S : St) (d' rest : De) (hsn : s.nx ≤ n) (h0 : tidyB hs n (tidy ks hs n s) = true) (h1 : tidy ks hs n s = S) (hp : d.Perm (d' ++ rest)) (h : WWDE P c S d' Q .one .one .one) : WWDE P c s d Q x y z :=
  fun Γ0 a w R => h Γ0 a w (R.tidy hsn h0 h1 hp)
theorem WWD_loop {ι : Type} {x : Shut (Code.loop c)} {y : Shut d} {z : Shut Q} (ks hs : List Nat) (n : Nat) (S : ι → St) (D : ι → De) (m : ι → Nat) (i : ι) (rest : De) (hsn : s.nx ≤ n) (h0 : tidyB hs n (tidy ks hs n s) = true) (h1 : tidy ks hs n s = S i) (hp : d.Perm (D i ++ rest))
    (round : ∀ i, WWDE P c (S i) (D i) (loopD n S D m i Q) .one .one .one) : WWDE P (.loop c) s d Q x y z := fun Γ0 a w R => by
  have hnx : (S i).nx = n := by rw [← h1]; rfl
  have hpn0 : ∀ i b, Γ0.pin i = some b → i < n := fun i b hb => by
    obtain ⟨Γ, r, μ, R, D⟩ := R
    rw [← D.pin] at hb
    exact Nat.lt_of_lt_of_le (R.mem.pin i b hb).1 hsn
  refine wp_loop_ghost (fun k a w => ∃ i, m i = k ∧ (S i).nx = n ∧ RelD Γ0 (· < n) (S i) (D i) a w) (m i) ⟨i, rfl, hnx, by have := R.tidy hsn h0 h1 hp; rwa [hnx] at this⟩ fun k a w ⟨i, hk, hn, R⟩ => ?_
  subst hk
  refine wp_mono (round i Γ0 a w (by rw [hn]; exact R)) fun e a' w' ⟨x, s', d', hx, hq, R'⟩ => ?_
  cases x with
  | normal =>
    obtain rfl : e = .normal := by cases e <;> first | rfl | exact hx.elim
    obtain ⟨j, rest, h3, h4, h5, h6⟩ := hq
    obtain ⟨Γ, r, μ, R2, D2⟩ := R'.weak h6
    obtain ⟨μ2, R3⟩ := h5 Γ a' w' μ R2 (by rw [D2.pin]; exact hpn0)
    exact ⟨m j, h3, j, rfl, h4, Γ, r, μ2, R3, D2⟩
  | exit j =>
    obtain ⟨k, rfl⟩ : ∃ k, e = .exit k := by cases e <;> first | exact ⟨_, rfl⟩ | exact hx.elim
    exact ⟨.exit j, s', d', hx, hq, R'⟩
  | ret =>
    obtain rfl : e = .ret := by cases e <;> first | rfl | exact hx.elim
    exact ⟨.ret, s', d', hx, hq, R'⟩
theorem nextD_of {ι : Type} {S : ι → St} {D : ι → De} {m : ι → Nat} {i : ι} {ks hs : List Nat} (j : ι) (rest : De) (h1 : tidyB hs n (tidy ks hs n s) = true) (h2 : tidy ks hs n s = S j) (h3 : m j < m i) (h4 : d.Perm (D j ++ rest)) : nextD n S D m i s d :=
  ⟨j, rest, h3, by rw [← h2]; rfl, Reach.tidy h1 h2, h4⟩
end
attribute [go_sem] act_seqD_normal act_seqD_exit act_seqD_ret act_blockD_exit act_blockD_normal act_blockD_ret act_baseD act_loopD_normal act_loopD_exit act_loopD_ret act_endD_ret act_endD_normal
end Go.Proofs.YtbmibaopkfenbaaDoor.M

/- A machine of values: a call that takes or brings deep trees. No condition. -/
namespace Go.Proofs.YtbmibaopkfenbaaDoor.M
open Go
set_option linter.unusedSimpArgs false
set_option linter.unusedVariables false
set_option linter.unusedSectionVars false

/-- What a cell is seen as. -/
def RdC (hp : List (Nat × Blk)) (d : De) (c : C) (x : T) : Prop := (∃ y, c = .t (.raw y) ∧ (y, x) ∈ d) ∨ readC hp c = some x
def RdCs (hp : List (Nat × Blk)) (d : De) : List C → List T → Prop
  | [], xs => xs = []
  | c :: cs, xs => ∃ x xs', xs = x :: xs' ∧ RdC hp d c x ∧ RdCs hp d cs xs'
def RdA (hp : List (Nat × Blk)) (d : De) (y : A) (x : T) : Prop :=
  match y with
  | .c c => RdC hp d c x
  | .g cs => ∃ xs, x = .agg xs ∧ RdCs hp d cs xs
/-- The arguments; of the deep trees: what is seen (d), what is lent, what becomes of it. -/
def ArgV (hp : List (Nat × Blk)) (d : De) : List DArg → List AV → De → De → Prop
  | [], avs, e, e' => avs = [] ∧ e = [] ∧ e' = []
  | .b x :: as, avs, e, e' => ∃ y z avs', x = .v z ∧ avs = .a y :: avs' ∧ RdA hp d y z ∧ ArgV hp d as avs' e e'
  | .l t t' :: as, avs, e, e' => ∃ x avs' e1 e2 e1' e2', avs = .a (openT x) :: avs' ∧ e = e1 ++ e2 ∧ e' = e1' ++ e2' ∧ RAr t x e1 ∧ RAr t' x e1' ∧ ArgV hp d as avs' e2 e2'
def DCall (P : Program) (hp : List (Nat × Blk)) (f : FuncId) (avs : List AV) (d : De) (K : AV → De → Prop) : Prop :=
  ∃ args rs dl dl' dr, CSD P f args rs [] ∧ ArgV hp dr args avs dl dl' ∧ d.Perm (dl ++ dr) ∧ ∀ av dn, ResV rs av dn → K av (dn ++ (dl' ++ dr))

section
variable {P : Program} {τ : Tab} {md : Nat → Md} {Γ0 Γ : Ctx} {al al' : Nat → Prop} {s s' : St} {a : Act} {w w' : World} {μ : Nat → Option Pl} {d d' dl dl' dr : De} {r rl rr : List Nat} {b c e : Code} {Q Q' : X → St → De → Prop} {n : Nat} {S0 : Addr → Option Value} {hp : List (Nat × Blk)}
variable {o : Oper} {next : Act → World → Prop} {Q0 : Exit → Act → World → Prop}
theorem RdC_ok (M : Mem Γ al hp w μ) (hS : ∀ a v, Sv Γ.G hp μ w a = some v → S0 a = some v) (hown : ∀ i p, live hp i → μ i = some p → ∀ a, a.block = p.b → ∀ v, w.cell? a = some v → S0 a = some v)
    (hd : ∀ y x, (y, x) ∈ d → Hold S0 x y.v) {c : C} {v : Value} {x : T} (h : RdC hp d c x) (hc : COk al hp (Sv Γ.G hp μ w) μ c v) : Hold S0 x v := by
  rcases h with ⟨y, rfl, hy⟩ | h
  · obtain ⟨hH, _⟩ := hc
    cases hH
    exact hd y x hy
  · exact readC_ok M hS h hc fun i _ ⟨sz, es, ver, hb⟩ p hp => hown i p ⟨_, hb, rfl⟩ hp
theorem RdCs_ok (M : Mem Γ al hp w μ) (hS : ∀ a v, Sv Γ.G hp μ w a = some v → S0 a = some v) (hown : ∀ i p, live hp i → μ i = some p → ∀ a, a.block = p.b → ∀ v, w.cell? a = some v → S0 a = some v)
    (hd : ∀ y x, (y, x) ∈ d → Hold S0 x y.v) : ∀ {cs : List C} {vs : List Value} {xs : List T}, RdCs hp d cs xs → CsOk al hp (Sv Γ.G hp μ w) μ cs vs → HoldL S0 xs vs
  | [], vs, xs, h, hc => by
    obtain rfl := h
    obtain rfl : vs = [] := List.eq_nil_of_length_eq_zero hc.1
    exact ⟨rfl, by simp, by simp⟩
  | c :: cs, vs, xs, h, hc => by
    obtain ⟨x, xs', rfl, h1, h2⟩ := h
    cases vs with
    | nil => have := hc.1; simp at this
    | cons v vs =>
      have hr : CsOk al hp (Sv Γ.G hp μ w) μ cs vs := ⟨by have := hc.1; simpa using this, fun u hu => hc.2.1 u (by simp [hu]), fun j c' u a b => hc.2.2 (j + 1) c' u (by simpa using a) (by simpa using b)⟩
      have a1 := RdC_ok M hS hown hd h1 (hc.2.2 0 c v rfl rfl)
      have a2 := RdCs_ok M hS hown hd h2 hr
      refine ⟨by simp [a2.1], hc.2.1, fun j t u p q => ?_⟩
      cases j with
      | zero => simp at p q; subst p; subst q; exact a1
      | succ j => exact a2.2.2 j t u (by simpa using p) (by simpa using q)
theorem RdA_ok (M : Mem Γ al hp w μ) (hS : ∀ a v, Sv Γ.G hp μ w a = some v → S0 a = some v) (hown : ∀ i p, live hp i → μ i = some p → ∀ a, a.block = p.b → ∀ v, w.cell? a = some v → S0 a = some v)
    (hd : ∀ y x, (y, x) ∈ d → Hold S0 x y.v) {y : A} {v : Value} {x : T} (h : RdA hp d y x) (hc : AOk al hp (Sv Γ.G hp μ w) μ y v) : Hold S0 x v := by
  cases y with
  | c c => exact RdC_ok M hS hown hd h hc
  | g cs =>
    obtain ⟨xs, rfl, h⟩ := h
    obtain ⟨vs, rfl, hc⟩ := hc
    have := RdCs_ok M hS hown hd h hc
    exact .agg _ _ this.1 this.2.1 this.2.2
/-- A slot that tells a deep value holds what it tells. -/
theorem open_hold {S : Addr → Option Value} {t x : T} {e : De} {v : Value} (h : RAr t x e) (hc : AOk al hp S μ (openT x) v) : Hold S x v := by
  have key : ∀ {t x : T} {e : De}, RCr t x e → ∀ {v}, AOk al hp S μ (openT x) v → Hold S x v := fun {t x e} h v hc => by
    unfold RCr at h
    split at h
    · obtain ⟨y, rfl, _⟩ := h
      exact hc.1
    · obtain ⟨rfl, hs, _⟩ := h
      cases x <;> first | exact hc.1 | (simp [T.scal] at hs; done)
  cases t with
  | agg ts =>
    obtain ⟨xs, rfl, h⟩ := h
    obtain ⟨vs, rfl, hc⟩ := hc
    refine .agg xs vs (by have := hc.1; simpa using this) hc.2.1 fun j t v a b => ?_
    exact (hc.2.2 j (.t t) v (by rw [List.getElem?_map, a]; rfl) b).1
  | _ => exact key (rar_C (by simp) h) hc
theorem ArgV_ok (M : Mem Γ al hp w μ) (hS : ∀ a v, Sv Γ.G hp μ w a = some v → S0 a = some v) (hown : ∀ i p, live hp i → μ i = some p → ∀ a, a.block = p.b → ∀ v, w.cell? a = some v → S0 a = some v)
    (hd : ∀ y x, (y, x) ∈ dr → Hold S0 x y.v) : ∀ {args : List DArg} {avs : List AV} {vals : List Value} {dl dl' : De} {rl : List Nat}, ArgV hp dr args avs dl dl' → vals.length = avs.length → (∀ (j : Nat) x v, avs[j]? = some x → vals[j]? = some v → AVOk al hp (Sv Γ.G hp μ w) μ x v) → DD w dl rl →
      ArgsOk S0 w (bA args) (bV args vals) [] ∧ DLs w false args vals rl ∧ ∀ (w' : World) (r3 : List Nat), DLs w' true args vals r3 → DD w' dl' r3
  | [], avs, vals, dl, dl', rl, h, hl, hv, hdd => by
    obtain ⟨rfl, rfl, rfl⟩ := h
    obtain rfl : vals = [] := List.eq_nil_of_length_eq_zero (by simpa using hl)
    exact ⟨⟨rfl, rfl⟩, ⟨rfl, hdd⟩, fun w' r3 h => h.2⟩
  | .b x :: args, avs, vals, dl, dl', rl, h, hl, hv, hdd => by
    obtain ⟨y, z, avs', rfl, rfl, h1, h2⟩ := h
    cases vals with
    | nil => simp at hl
    | cons v vals =>
      obtain ⟨g1, g2, g3⟩ := ArgV_ok M hS hown hd h2 (by simpa using hl) (fun j x v a b => hv (j + 1) x v (by simpa using a) (by simpa using b)) hdd
      have hH := RdA_ok M hS hown hd h1 (hv 0 (.a y) v rfl rfl)
      refine ⟨⟨v, _, [], [], rfl, rfl, ⟨rfl, hH⟩, g1⟩, ⟨v, vals, rfl, g2⟩, fun w' r3 h => ?_⟩
      obtain ⟨v', vs', e, h⟩ := h
      obtain ⟨rfl, rfl⟩ : v = v' ∧ vals = vs' := by simpa using e
      exact g3 w' r3 h
  | .l t t' :: args, avs, vals, dl, dl', rl, h, hl, hv, hdd => by
    obtain ⟨x, avs', e1, e2, e1', e2', rfl, rfl, rfl, h1, h1', h2⟩ := h
    cases vals with
    | nil => simp at hl
    | cons v vals =>
      obtain ⟨r1, r2, rfl, q1, q2⟩ := hdd.app
      obtain ⟨g1, g2, g3⟩ := ArgV_ok M hS hown hd h2 (by simpa using hl) (fun j x v a b => hv (j + 1) x v (by simpa using a) (by simpa using b)) q2
      have hH := open_hold h1 (hv 0 (.a (openT x)) v rfl rfl)
      refine ⟨g1, ⟨v, vals, r1, r2, rfl, rfl, RAr_DA hH h1 q1, g2⟩, fun w' r3 h => ?_⟩
      obtain ⟨v', vs', r4, r5, e, rfl, k1, k2⟩ := h
      obtain ⟨rfl, rfl⟩ : v = v' ∧ vals = vs' := by simpa using e
      exact (RAr_DD hH h1' k1).join (g3 w' r5 k2)
/-- A call. -/
theorem DCall_ok (hR : RelD Γ0 al s d a w) {f : FuncId} {avs : List AV} {vals : List Value} {K : AV → De → Prop} (h : DCall P s.hp f avs d K) (hvl : vals.length = avs.length)
    (hvals : ∀ (Γ : Ctx) (μ : Nat → Option Pl), Rel Γ al s a w μ → ∀ (j : Nat) x v, avs[j]? = some x → vals[j]? = some v → AVOk al s.hp (Sv Γ.G s.hp μ w) μ x v)
    (hrun0 : (execOp a.eval o).run P w = (callFunc f vals.toArray).run P w)
    (hN : ∀ av d' v w', K av d' → RelD Γ0 al (s.set o.dst av) d' (a.put o.dst v) w' → next (a.put o.dst v) w') : o.wp P a w next Q0 := by
  obtain ⟨args, rs, dl, dl', dr, hC, hA, hp, hK⟩ := h
  obtain ⟨Γ, r, μ, R, D⟩ := hR
  obtain ⟨rl, rr, hnd, hrl, hrr, h1, h2, hturn⟩ := RelD.turn R D hp
  have hsub : ∀ b ∈ rr, b < w.heap.size ∧ b ∉ rl := fun b hb => ⟨hrr b hb, fun h => (List.nodup_append.1 hnd).2.2 b h b hb rfl⟩
  let G : Nat → Prop := fun b => b < w.heap.size ∧ b ∉ rl
  have hS : ∀ x v, Sv Γ.G s.hp μ w x = some v → inV G w x = some v := fun x v hv => by
    rw [Sv_some] at hv
    rw [inV_some]
    exact ⟨⟨World.block_lt_of_cell? _ _ hv.2, fun h => (hrl _ h).2 hv.1.1⟩, hv.2⟩
  have hown : ∀ i p, live s.hp i → μ i = some p → ∀ x : Addr, x.block = p.b → ∀ v, w.cell? x = some v → inV G w x = some v := fun i p hi hm x hx v hv => by
    rw [inV_some]
    refine ⟨⟨World.block_lt_of_cell? _ _ hv, fun h => (hrl _ h).2 ?_⟩, hv⟩
    rw [hx]
    exact R.mem.gd _ (R.mem.mine i p hi hm).2
  have hd : ∀ y x, (y, x) ∈ dr → Hold (inV G w) x y.v := fun y x hy => by
    obtain ⟨r1, g1, g2⟩ := h2.mem (y, x) hy
    exact g1.hold fun b hb => hsub b (g2 b hb)
  obtain ⟨g1, g2, g3⟩ := ArgV_ok R.mem hS hown hd hA hvl (hvals Γ μ R) h1
  have hCV := hC G w vals [] rl g1 g2 (by simpa using (List.nodup_append.1 hnd).1) (fun b hb => ⟨(hrl b (by simpa using hb)).1, fun h => h.2 (by simpa using hb)⟩) ⟨fun b hb => hb.1, R.mem.ginv, fun b hb => ⟨(R.mem.gb hb).2.1, fun h => (hrl b h).2 (R.mem.gb hb).1⟩⟩
  have fin : ∀ v w', (∃ r1 r2 r3, Fr ([] ++ rl) w w' ∧ DRes w' rs v r1 ∧ OutsOk (inV (fun b => G b ∨ (w.heap.size ≤ b ∨ b ∈ [] ++ rl) ∧ b ∉ r1 ++ (r2 ++ r3)) w') w' (bA args) (bV args vals) [] r2 ∧ DLs w' true args vals r3 ∧
      (r1 ++ (r2 ++ r3)).Nodup ∧ ∀ b ∈ r1 ++ (r2 ++ r3), b < w'.heap.size ∧ (b ∈ [] ++ rl ∨ w.heap.size ≤ b)) → next (a.put o.dst v) w' := fun v w' ⟨r1, r2, r3, c1, c2, _, c4, c5, c6⟩ => by
    obtain ⟨av, e, k1, k2, k3⟩ := ResV_of c2
    have k4 := g3 w' r3 c4
    have hnn : (r1 ++ r3).Nodup := by
      obtain ⟨a1, a2, a3⟩ := List.nodup_append.1 c5
      refine List.nodup_append.2 ⟨a1, (List.nodup_append.1 a2).2.1, fun x hx y hy => a3 x hx y (by simp [hy])⟩
    obtain ⟨Γ', R', D', hS'⟩ := hturn w' (e ++ dl') (r1 ++ r3) c1 (k3.join k4) hnn fun b hb => by
      have := c6 b (by rcases List.mem_append.1 hb with h | h <;> simp [h])
      simpa using this
    rw [List.append_assoc e] at D'
    exact hN av _ v w' (hK av e k1) ⟨Γ', _, μ, R'.set o.dst av v (k2 _ _ _ _), D'⟩
  rcases hCV with ⟨hrun, hcalls⟩ | ⟨v, w', hrun, hv⟩
  · unfold Oper.wp
    rw [hrun0, hrun]
    refine hcalls.mono fun e w' ⟨v, he, hv⟩ => ?_
    subst he
    exact fin v w' hv
  · exact wp_val (by rw [hrun0]; exact hrun) (fin v w' hv)

/-! ### Regions -/
theorem WOps_pre (hτ : TOk P τ) {ops : Array Oper} {Q0 : Exit → Act → World → Prop} {rest : List Oper} : ∀ (l : List Oper) (n : Nat) (s : St) (a : Act) (w : World) (μ : Nat → Option Pl) (K : St → Prop), WOps P τ md ops l n s K → Rel Γ (· < n) s a w μ →
    (∀ s' a' w' μ', K s' → Rel Γ (· < s'.nx) s' a' w' μ' → wpList P ops Q0 rest a' w') → wpList P ops Q0 (l ++ rest) a w
  | [], n, s, a, w, μ, K, h, R, hK => hK _ _ _ μ h ⟨R.mem, R.size, R.tmp, R.defers⟩
  | o :: l, n, s, a, w, μ, K, h, R, hK => by
    simp only [WOps] at h
    split at h
    · rename_i b hb
      have hw := want_ok R hb
      refine wpList_step (fun K' hK' => ?_)
      rw [hw]
      cases b with
      | true =>
        rw [if_pos rfl]
        refine op_sound hτ R (fun k _ => by omega) (h.1 rfl) (fun v u val w' μ' hk hm he hv => hK' _ _ ?_)
        rw [al16_lt] at hm he hv
        have R' : Rel Γ (· < n + 16) (s.upd u) a w' μ' := ⟨hm, by rw [upd_N]; exact R.size, fun t => by rw [upd_get]; exact (R.tmp t).mono he, R.defers⟩
        exact WOps_pre hτ l (n + 16) _ _ w' μ' K hk (R'.set o.dst v val hv) hK
      | false =>
        rw [if_neg (by simp)]
        refine hK' _ _ ?_
        have hm := R.mem.grow (Fr.refl [] w) (al' := (· < n + 16)) (fun i hi => by omega)
        have R' : Rel Γ (· < n + 16) s a w μ := ⟨hm.1, R.size, fun t => (R.tmp t).mono hm.2, R.defers⟩
        exact WOps_pre hτ l (n + 16) _ _ w μ K (h.2 rfl) (R'.set o.dst (.tup []) undef tup0_ok) hK
    · exact h.elim
/-- What stands behind the call in its region. -/
def restD (P : Program) (τ : Tab) (md : Nat → Md) (ops : Array Oper) (post : List Oper) (s : St) (dst : Option Nat) (Q : X → St → De → Prop) (av : AV) (d : De) : Prop := act (WOps P τ md ops post (s.nx + 16) (s.set dst av) (baseD Q d .normal))
def callD (P : Program) (τ : Tab) (md : Nat → Md) (ops : Array Oper) (o : Oper) (f : FuncId) (xs : List (Operand × TypeId)) (post : List Oper) (d : De) (Q : X → St → De → Prop) (s : St) : Prop :=
  wantA ops s o = some true ∧ DCall P s.hp f (xs.map fun x => s.eval τ x.2 x.1) d (restD P τ md ops post s o.dst Q)
theorem RelD.more (h : RelD Γ0 al s d a w) (ha : ∀ i, al i → al' i) : RelD Γ0 al' s d a w := by
  obtain ⟨Γ, r, μ, R, D⟩ := h
  have hm := R.mem.grow (Fr.refl [] w) (al' := al') ha
  exact ⟨Γ, r, μ, ⟨hm.1, R.size, fun t => (R.tmp t).mono hm.2, R.defers⟩, D⟩
theorem WWD_region (hτ : TOk P τ) (md : Nat → Md) {id : Nat} {l : List Oper} (k : Nat) {o : Oper} {f : FuncId} {xs : Array Operand} {ts : Array TypeId} (ho : l[k]? = some o) (hop : o.op = .call ⟨.value (.func f), xs, ts⟩) (hlen : xs.toList.length = ts.toList.length)
    {x : Shut (Code.region id l.toArray false)} {y : Shut d} {z : Shut Q} (h : act (WOps P τ md l.toArray (l.take k) s.nx s (callD P τ md l.toArray o f (xs.toList.zip ts.toList) (l.drop (k + 1)) d Q))) : WWDE P (.region id l.toArray false) s d Q x y z := fun Γ0 a w R => by
  obtain ⟨Γ, r, μ, R, D⟩ := R
  refine wp_region_list ?_
  have hl : l = l.take k ++ (o :: l.drop (k + 1)) := by
    obtain ⟨hk, hko⟩ := List.getElem?_eq_some_iff.1 ho
    rw [← hko, List.getElem_cons_drop, List.take_append_drop]
  have key : wpList P l.toArray (fun e a' w' => ∃ x s' d', x.is e ∧ Q x s' d' ∧ RelD Γ0 (· < s'.nx) s' d' a' w') (l.take k ++ (o :: l.drop (k + 1))) a w := ?_
  · rw [← hl] at key; exact key
  refine WOps_pre hτ (l.take k) s.nx s a w μ _ h R fun s1 a1 w1 μ1 hc R1 => ?_
  obtain ⟨hw, hc⟩ := hc
  refine wpList_step fun K' hK' => ?_
  rw [want_ok R1 hw, if_pos rfl]
  refine DCall_ok (vals := xs.toList.map a1.eval) ⟨Γ, r, μ1, R1, D⟩ hc (by simp only [List.length_map, List.length_zip, hlen, Nat.min_self]) (fun Γ μ R j x v p q => ?_) ?_ fun av d' v w' hk hR => hK' _ _ ?_
  · obtain ⟨t, y, rfl, rfl⟩ := zip_eval (τ := τ) (s := s1) (a := a1) xs.toList ts.toList hlen j x v p q
    exact eval_ok (τ := τ) R t y
  · have e : xs.map a1.eval = (xs.toList.map a1.eval).toArray := by cases xs; simp
    have hfv : a1.eval (.func f) = .func (.func f) #[] #[] := rfl
    simp [execOp, hop, resolve, hfv, Deferred.ofValue, invoke, e]
  · obtain ⟨Γ2, r2, μ2, R2, D2⟩ := hR.more (al' := (· < s1.nx + 16)) fun i hi => by omega
    exact WOps_sound hτ (l.drop (k + 1)) (s1.nx + 16) _ _ w' μ2 _ hk R2 fun s3 a3 w3 μ3 h3 R3 => ⟨.normal, s3, d', trivial, h3, Γ2, r2, μ3, R3, D2⟩
theorem act_callD {ops : Array Oper} {f : FuncId} {xs : List (Operand × TypeId)} {post : List Oper} : act (callD P τ md ops o f xs post d Q s) = (wantA ops s o = some true ∧ DCall P s.hp f (xs.map fun x => s.eval τ x.2 x.1) d (restD P τ md ops post s o.dst Q)) := (rfl)
end
attribute [go_sem] act_callD
end Go.Proofs.YtbmibaopkfenbaaDoor.M
