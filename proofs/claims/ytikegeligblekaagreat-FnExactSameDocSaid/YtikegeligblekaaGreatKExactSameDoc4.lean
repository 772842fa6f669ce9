/- A machine of values: code with deep trees beside it: its rules, and a call. No condition. -/
import Derived.Test.YtikegeligblekaaGreatKExactSameDoc3
/- A machine of values: code with deep trees beside it: its rules, and a call. No condition. -/
namespace Go.Proofs.YtikegeligblekaaGreat.M
open Go
set_option linter.unusedSimpArgs false
set_option linter.unusedVariables false
set_option linter.unusedSectionVars false

def WWDE (P : Program) (c : Code) (s : St) (d : De) (Q : X → St → De → Prop) (_ : Shut c) (_ : Shut d) (_ : Shut Q) : Prop := WWD P c s d Q
def seqD (P : Program) (b : Code) (Q : X → St → De → Prop) (x : X) (s : St) (d : De) : Prop :=
  match x with
  | .normal => WWDE P b s d Q .one .one .one
  | .exit i => Q (.exit i) s d
  | .ret => Q .ret s d
def blockD (i : Nat) (Q : X → St → De → Prop) (x : X) (s : St) (d : De) : Prop :=
  match x with
  | .exit j => if j == i then Q .normal s d else Q (.exit j) s d
  | .normal => Q .normal s d
  | .ret => Q .ret s d
def baseD (Q : X → St → De → Prop) (d : De) (x : X) (s : St) : Prop := Q x s d
/-- The end of a round. -/
def nextD {ι : Type} (n : Nat) (S : ι → St) (D : ι → De) (m : ι → Nat) (i : ι) (s : St) (d : De) : Prop := ∃ j rest, m j < m i ∧ (S j).nx = n ∧ Reach n s (S j) ∧ d.Perm (D j ++ rest)
def loopD {ι : Type} (n : Nat) (S : ι → St) (D : ι → De) (m : ι → Nat) (i : ι) (Q : X → St → De → Prop) (x : X) (s : St) (d : De) : Prop :=
  match x with
  | .normal => nextD n S D m i s d
  | .exit e => Q (.exit e) s d
  | .ret => Q .ret s d

section
variable {P : Program} {τ : Tab} {md : Nat → Md} {Γ0 Γ : Ctx} {al al' : Nat → Prop} {s s' : St} {a : Act} {w w' : World} {μ : Nat → Option Pl} {d d' dl dr : De} {r : List Nat} {b c e : Code} {Q Q' : X → St → De → Prop} {n : Nat}
theorem act_seqD_normal : act (seqD P b Q .normal s d) = WWDE P b s d Q .one .one .one := (rfl)
theorem act_seqD_exit {i : Nat} : act (seqD P b Q (.exit i) s d) = act (Q (.exit i) s d) := (rfl)
theorem act_seqD_ret : act (seqD P b Q .ret s d) = act (Q .ret s d) := (rfl)
theorem act_blockD_exit {i j : Nat} : act (blockD i Q (.exit j) s d) = if j == i then act (Q .normal s d) else act (Q (.exit j) s d) := by
  show act (if (j == i) = true then Q .normal s d else Q (.exit j) s d) = _
  cases (j == i) <;> rfl
theorem act_blockD_normal {i : Nat} : act (blockD i Q .normal s d) = act (Q .normal s d) := (rfl)
theorem act_blockD_ret {i : Nat} : act (blockD i Q .ret s d) = act (Q .ret s d) := (rfl)
theorem act_baseD {x : X} : act (baseD Q d x s) = act (Q x s d) := (rfl)
theorem act_loopD_normal {ι : Type} {S : ι → St} {D : ι → De} {m : ι → Nat} {i : ι} : act (loopD n S D m i Q .normal s d) = nextD n S D m i s d := (rfl)
theorem act_loopD_exit {ι : Type} {S : ι → St} {D : ι → De} {m : ι → Nat} {i : ι} {j : Nat} : act (loopD n S D m i Q (.exit j) s d) = act (Q (.exit j) s d) := (rfl)
theorem act_loopD_ret {ι : Type} {S : ι → St} {D : ι → De} {m : ι → Nat} {i : ι} : act (loopD n S D m i Q .ret s d) = act (Q .ret s d) := (rfl)
def finE (τ : Tab) (rl : List ResultVar) (as : List AA) (rs : List T) (os : List (List BC)) (dout : De) (s : St) (d : De) : Prop := ∃ rs' os', retE τ true rl as s rs' os' ∧ finD rs os dout rs' os' d
theorem act_endD_ret {rl : List ResultVar} {as : List AA} {rs : List T} {os : List (List BC)} {dout : De} : act (endD τ rl as rs os dout .ret s d) = finE τ rl as rs os dout s d := (rfl)
theorem act_endD_normal {rl : List ResultVar} {as : List AA} {rs : List T} {os : List (List BC)} {dout : De} : act (endD τ rl as rs os dout .normal s d) = finE τ rl as rs os dout s d := (rfl)

theorem RelD.perm (h : RelD Γ0 al s d a w) {rest : De} (hp : d.Perm (d' ++ rest)) : RelD Γ0 al s d' a w := h.weak hp
theorem CSD_views (hτ : TOk P τ) {f : FuncId} {fn : Func} {N : Nat} (hf : P.funcs[f]? = some fn) (hb : fn.body = some c) (hname : (fn.name == "runtime.NumGoroutine") = false) (hN : fn.ntmps = N) {rl : List ResultVar} (hrl : fn.results.toList = rl)
    {xs : List AA} {rs : List T} {os : List (List BC)} (hlen : xs.length ≤ N) (h : WWDE P c (initS N xs) [] (endD τ rl xs rs os []) .one .one .one) : CSD P f (xs.map DArg.b) rs os := by
  have key : ∀ (k : Bool) (xs : List AA) (as : List AA) (din : De), LnArgs k (xs.map DArg.b) as din ↔ as = xs ∧ din = [] := fun k xs => by
    induction xs with
    | nil => intro as din; exact ⟨fun ⟨a, b⟩ => ⟨a, b⟩, fun ⟨a, b⟩ => ⟨a, b⟩⟩
    | cons x r ih =>
      intro as din
      constructor
      · rintro ⟨as', rfl, h⟩
        obtain ⟨rfl, rfl⟩ := (ih _ _).1 h
        exact ⟨rfl, rfl⟩
      · rintro ⟨rfl, rfl⟩
        exact ⟨r, rfl, (ih _ _).2 ⟨rfl, rfl⟩⟩
  refine CSD_of_WWD hτ hf hb hname hN hrl (by simpa using hlen) fun as din hln => ?_
  obtain ⟨rfl, rfl⟩ := (key _ _ _ _).1 hln
  exact ⟨[], (key _ _ _ _).2 ⟨rfl, rfl⟩, h⟩
theorem WWD.mono (h : WWD P c s d Q) (hq : ∀ x s d, Q x s d → Q' x s d) : WWD P c s d Q' := fun Γ0 a w R =>
  wp_mono (h Γ0 a w R) fun e a' w' ⟨x, s', d', hx, hQ, R'⟩ => ⟨x, s', d', hx, hq _ _ _ hQ, R'⟩
theorem WWD_act (hτ : TOk P τ) (md : Nat → Md) {x : Shut c} {y : Shut d} {z : Shut Q} (h : act (W P τ md c s (baseD Q d))) : WWDE P c s d Q x y z := fun Γ0 a w ⟨Γ, r, μ, R, D⟩ =>
  wp_mono (W_sound hτ c s _ h Γ a w μ R) fun e a' w' ⟨x, s', μ', hx, hq, R'⟩ => ⟨x, s', d, hx, hq, Γ, r, μ', R', D⟩
theorem WWD_seq {x : Shut (Code.seq b c)} {y : Shut d} {z : Shut Q} (h : WWDE P b s d (seqD P c Q) .one .one .one) : WWDE P (.seq b c) s d Q x y z := fun Γ0 a w R => by
  refine wp_seq (wp_mono (h Γ0 a w R) fun e a' w' ⟨x, s', d', hx, hq, R'⟩ => ?_)
  cases x with
  | normal =>
    obtain rfl : e = .normal := by cases e <;> first | rfl | exact hx.elim
    exact hq Γ0 a' w' R'
  | exit i =>
    obtain rfl : e = .exit i := by cases e <;> first | exact hx.elim | exact congrArg _ hx.symm
    exact ⟨_, s', d', hx, hq, R'⟩
  | ret =>
    obtain rfl : e = .ret := by cases e <;> first | rfl | exact hx.elim
    exact ⟨_, s', d', hx, hq, R'⟩
theorem WWD_seqB (hτ : TOk P τ) (md : Nat → Md) {x : Shut (Code.seq b c)} {y : Shut d} {z : Shut Q} (h : act (W P τ md b s (baseD (seqD P c Q) d))) : WWDE P (.seq b c) s d Q x y z := WWD_seq (WWD_act hτ md h)
theorem WWD_block {i : Nat} {x : Shut (Code.block i c)} {y : Shut d} {z : Shut Q} (h : WWDE P c s d (blockD i Q) .one .one .one) : WWDE P (.block i c) s d Q x y z := fun Γ0 a w R => by
  refine wp_block (wp_mono (h Γ0 a w R) fun e a' w' ⟨x, s', d', hx, hq, R'⟩ => ?_)
  cases x with
  | normal =>
    cases e <;> first | exact hx.elim | skip
    exact ⟨.normal, s', d', trivial, hq, R'⟩
  | exit j =>
    obtain ⟨k, rfl⟩ : ∃ k, e = .exit k := by cases e <;> first | exact ⟨_, rfl⟩ | exact hx.elim
    obtain rfl : j = k := hx
    simp only [Exit.inBlock]
    by_cases hji : j = i
    · subst hji
      simp only [blockD, beq_self_eq_true, if_true] at hq ⊢
      exact ⟨.normal, s', d', trivial, hq, R'⟩
    · have : (j == i) = false := by simpa using hji
      simp only [blockD, this, Bool.false_eq_true, if_false] at hq
      simp only [hji, if_false]
      exact ⟨.exit j, s', d', rfl, hq, R'⟩
  | ret =>
    cases e <;> first | exact hx.elim | skip
    exact ⟨.ret, s', d', trivial, hq, R'⟩
theorem RelD.tidy (R : RelD Γ0 (· < s.nx) s d a w) {ks hs : List Nat} {n : Nat} {S : St} {rest : De} (hsn : s.nx ≤ n) (h0 : tidyB hs n (M.tidy ks hs n s) = true) (h1 : M.tidy ks hs n s = S) (hp : d.Perm (d' ++ rest)) : RelD Γ0 (· < S.nx) S d' a w := by
  obtain ⟨Γ, r, μ, R, D⟩ := R.weak hp
  have hpn : ∀ i b, Γ.pin i = some b → i < n := fun i b hb => Nat.lt_of_lt_of_le (R.mem.pin i b hb).1 hsn
  have R0 := tidy_ok R hpn h0
  rw [h1] at R0
  have hn : S.nx = n := by rw [← h1]; rfl
  rw [hn]
  exact ⟨Γ, r, μ, R0, D⟩
theorem WWD_cut {x : Shut c} {y : Shut d} {z : Shut Q} (ks hs : List Nat) (n : Nat) (S : St) (d' rest : De) (hsn : s.nx ≤ n) (h0 : tidyB hs n (tidy ks hs n s) = true) (h1 : tidy ks hs n s = S) (hp : d.Perm (d' ++ rest)) (h : WWDE P c S d' Q .one .one .one) : WWDE P c s d Q x y z :=
  fun Γ0 a w R => h Γ0 a w (R.tidy hsn h0 h1 hp)
theorem WWD_loop {ι : Type} {x : Shut (Code.loop c)} {y : Shut d} {z : Shut Q} (ks hs : List Nat) (n : Nat) (S : ι → St) (D : ι → De) (m : ι → Nat) (i : ι) (rest : De) (hsn : s.nx ≤ n) (h0 : tidyB hs n (tidy ks hs n s) = true) (h1 : tidy ks hs n s = S i) (hp : d.Perm (D i ++ rest))
    (round : ∀ i, WWDE P c (S i) (D i) (loopD n S D m i Q) .one .one .one) : WWDE P (.loop c) s d Q x y z := fun Γ0 a w R => by
  have hnx : (S i).nx = n := by rw [← h1]; rfl
  have hpn0 : ∀ i b, Γ0.pin i = some b → i < n := fun i b hb => by
    obtain ⟨Γ, r, μ, R, D⟩ := R
    rw [← D.pin] at hb
    exact Nat.lt_of_lt_of_le (R.mem.pin i b hb).1 hsn
  refine wp_loop_ghost (fun k a w => ∃ i, m i = k ∧ (S i).nx = n ∧ RelD Γ0 (· < n) (S i) (D i) a w) (m i) ⟨i, rfl, hnx, by have := R.tidy hsn h0 h1 hp; rwa [hnx] at this⟩ fun k a w ⟨i, hk, hn, R⟩ => ?_
  subst hk
  refine wp_mono (round i Γ0 a w (by rw [hn]; exact R)) fun e a' w' ⟨x, s', d', hx, hq, R'⟩ => ?_
  cases x with
  | normal =>
    obtain rfl : e = .normal := by cases e <;> first | rfl | exact hx.elim
    obtain ⟨j, rest, h3, h4, h5, h6⟩ := hq
    obtain ⟨Γ, r, μ, R2, D2⟩ := R'.weak h6
    obtain ⟨μ2, R3⟩ := h5 Γ a' w' μ R2 (by rw [D2.pin]; exact hpn0)
    exact ⟨m j, h3, j, rfl, h4, Γ, r, μ2, R3, D2⟩
  | exit j =>
    obtain ⟨k, rfl⟩ : ∃ k, e = .exit k := by cases e <;> first | exact ⟨_, rfl⟩ | exact hx.elim
    exact ⟨.exit j, s', d', hx, hq, R'⟩
  | ret =>
    obtain rfl : e = .ret := by cases e <;> first | rfl | exact hx.elim
    exact ⟨.ret, s', d', hx, hq, R'⟩
theorem nextD_of {ι : Type} {S : ι → St} {D : ι → De} {m : ι → Nat} {i : ι} {ks hs : List Nat} (j : ι) (rest : De) (h1 : tidyB hs n (tidy ks hs n s) = true) (h2 : tidy ks hs n s = S j) (h3 : m j < m i) (h4 : d.Perm (D j ++ rest)) : nextD n S D m i s d :=
  ⟨j, rest, h3, by rw [← h2]; rfl, Reach.tidy h1 h2, h4⟩
end
attribute [go_sem] act_seqD_normal act_seqD_exit act_seqD_ret act_blockD_exit act_blockD_normal act_blockD_ret act_baseD act_loopD_normal act_loopD_exit act_loopD_ret act_endD_ret act_endD_normal
end Go.Proofs.YtikegeligblekaaGreat.M

/- A machine of values: a call that takes or brings deep trees. No condition. -/
namespace Go.Proofs.YtikegeligblekaaGreat.M
open Go
set_option linter.unusedSimpArgs false
set_option linter.unusedVariables false
set_option linter.unusedSectionVars false

/-- What a cell is seen as. -/
def RdC (hp : List (Nat × Blk)) (d : De) (c : C) (x : T) : Prop := (∃ y, c = .t (.raw y) ∧ (y, x) ∈ d) ∨ readC hp c = some x
def RdCs (hp : List (Nat × Blk)) (d : De) : List C → List T → Prop
  | [], xs => xs = []
  | c :: cs, xs => ∃ x xs', xs = x :: xs' ∧ RdC hp d c x ∧ RdCs hp d cs xs'
def RdA (hp : List (Nat × Blk)) (d : De) (y : A) (x : T) : Prop :=
  match y with
  | .c c => RdC hp d c x
  | .g cs => ∃ xs, x = .agg xs ∧ RdCs hp d cs xs
/-- The arguments; of the deep trees: what is seen (d), what is lent, what becomes of it. -/
def ArgV (hp : List (Nat × Blk)) (d : De) : List DArg → List AV → De → De → Prop
  | [], avs, e, e' => avs = [] ∧ e = [] ∧ e' = []
  | .b x :: as, avs, e, e' => ∃ y z avs', x = .v z ∧ avs = .a y :: avs' ∧ RdA hp d y z ∧ ArgV hp d as avs' e e'
  | .l t t' :: as, avs, e, e' => ∃ x avs' e1 e2 e1' e2', avs = .a (openT x) :: avs' ∧ e = e1 ++ e2 ∧ e' = e1' ++ e2' ∧ RAr t x e1 ∧ RAr t' x e1' ∧ ArgV hp d as avs' e2 e2'
def DCall (P : Program) (hp : List (Nat × Blk)) (f : FuncId) (avs : List AV) (d : De) (K : AV → De → Prop) : Prop :=
  ∃ args rs dl dl' dr, CSD P f args rs [] ∧ ArgV hp dr args avs dl dl' ∧ d.Perm (dl ++ dr) ∧ ∀ av dn, ResV rs av dn → K av (dn ++ (dl' ++ dr))

section
variable {P : Program} {τ : Tab} {md : Nat → Md} {Γ0 Γ : Ctx} {al al' : Nat → Prop} {s s' : St} {a : Act} {w w' : World} {μ : Nat → Option Pl} {d d' dl dl' dr : De} {r rl rr : List Nat} {b c e : Code} {Q Q' : X → St → De → Prop} {n : Nat} {S0 : Addr → Option Value} {hp : List (Nat × Blk)}
variable {o : Oper} {next : Act → World → Prop} {Q0 : Exit → Act → World → Prop}
theorem RdC_ok (M : Mem Γ al hp w μ) (hS : ∀ a v, Sv Γ.G hp μ w a = some v → S0 a = some v) (hown : ∀ i p, live hp i → μ i = some p → ∀ a, a.block = p.b → ∀ v, w.cell? a = some v → S0 a = some v)
    (hd : ∀ y x, (y, x) ∈ d → Hold S0 x y.v) {c : C} {v : Value} {x : T} (h : RdC hp d c x) (hc : COk al hp (Sv Γ.G hp μ w) μ c v) : Hold S0 x v := by
  rcases h with ⟨y, rfl, hy⟩ | h
  · obtain ⟨hH, _⟩ := hc
    cases hH
    exact hd y x hy
  · exact readC_ok M hS h hc fun i _ ⟨sz, es, ver, hb⟩ p hp => hown i p ⟨_, hb, rfl⟩ hp
theorem RdCs_ok (M : Mem Γ al hp w μ) (hS : ∀ a v, Sv Γ.G hp μ w a = some v → S0 a = some v) (hown : ∀ i p, live hp i → μ i = some p → ∀ a, a.block = p.b → ∀ v, w.cell? a = some v → S0 a = some v)
    (hd : ∀ y x, (y, x) ∈ d → Hold S0 x y.v) : ∀ {cs : List C} {vs : List Value} {xs : List T}, RdCs hp d cs xs → CsOk al hp (Sv Γ.G hp μ w) μ cs vs → HoldL S0 xs vs
  | [], vs, xs, h, hc => by
    obtain rfl := h
    obtain rfl : vs = [] := List.eq_nil_of_length_eq_zero hc.1
    exact ⟨rfl, by simp, by simp⟩
  | c :: cs, vs, xs, h, hc => by
    obtain ⟨x, xs', rfl, h1, h2⟩ := h
    cases vs with
    | nil => have := hc.1; simp at this
    | cons v vs =>
      have hr : CsOk al hp (Sv Γ.G hp μ w) μ cs vs := ⟨by have := hc.1; simpa using this, fun u hu => hc.2.1 u (by simp [hu]), fun j c' u a b => hc.2.2 (j + 1) c' u (by simpa using a) (by simpa using b)⟩
      have a1 := RdC_ok M hS hown hd h1 (hc.2.2 0 c v rfl rfl)
      have a2 := RdCs_ok M hS hown hd h2 hr
      refine ⟨by simp [a2.1], hc.2.1, fun j t u p q => ?_⟩
      cases j with
      | zero => simp at p q; subst p; subst q; exact a1
      | succ j => exact a2.2.2 j t u (by simpa using p) (by simpa using q)
theorem RdA_ok (M : Mem Γ al hp w μ) (hS : ∀ a v, Sv Γ.G hp μ w a = some v → S0 a = some v) (hown : ∀ i p, live hp i → μ i = some p → ∀ a, a.block = p.b → ∀ v, w.cell? a = some v → S0 a = some v)
    (hd : ∀ y x, (y, x) ∈ d → Hold S0 x y.v) {y : A} {v : Value} {x : T} (h : RdA hp d y x) (hc : AOk al hp (Sv Γ.G hp μ w) μ y v) : Hold S0 x v := by
  cases y with
  | c c => exact RdC_ok M hS hown hd h hc
  | g cs =>
    obtain ⟨xs, rfl, h⟩ := h
    obtain ⟨vs, rfl, hc⟩ := hc
    have := RdCs_ok M hS hown hd h hc
    exact .agg _ _ this.1 this.2.1 this.2.2
/-- A slot that tells a deep value holds what it tells. -/
theorem open_hold {S : Addr → Option Value} {t x : T} {e : De} {v : Value} (h : RAr t x e) (hc : AOk al hp S μ (openT x) v) : Hold S x v := by
  have key : ∀ {t x : T} {e : De}, RCr t x e → ∀ {v}, AOk al hp S μ (openT x) v → Hold S x v := fun {t x e} h v hc => by
    unfold RCr at h
    split at h
    · obtain ⟨y, rfl, _⟩ := h
      exact hc.1
    · obtain ⟨rfl, hs, _⟩ := h
      cases x <;> first | exact hc.1 | (simp [T.scal] at hs; done)
  cases t with
  | agg ts =>
    obtain ⟨xs, rfl, h⟩ := h
    obtain ⟨vs, rfl, hc⟩ := hc
    refine .agg xs vs (by have := hc.1; simpa using this) hc.2.1 fun j t v a b => ?_
    exact (hc.2.2 j (.t t) v (by rw [List.getElem?_map, a]; rfl) b).1
  | _ => exact key (rar_C (by simp) h) hc
theorem ArgV_ok (M : Mem Γ al hp w μ) (hS : ∀ a v, Sv Γ.G hp μ w a = some v → S0 a = some v) (hown : ∀ i p, live hp i → μ i = some p → ∀ a, a.block = p.b → ∀ v, w.cell? a = some v → S0 a = some v)
    (hd : ∀ y x, (y, x) ∈ dr → Hold S0 x y.v) : ∀ {args : List DArg} {avs : List AV} {vals : List Value} {dl dl' : De} {rl : List Nat}, ArgV hp dr args avs dl dl' → vals.length = avs.length → (∀ (j : Nat) x v, avs[j]? = some x → vals[j]? = some v → AVOk al hp (Sv Γ.G hp μ w) μ x v) → DD w dl rl →
      ArgsOk S0 w (bA args) (bV args vals) [] ∧ DLs w false args vals rl ∧ ∀ (w' : World) (r3 : List Nat), DLs w' true args vals r3 → DD w' dl' r3
  | [], avs, vals, dl, dl', rl, h, hl, hv, hdd => by
    obtain ⟨rfl, rfl, rfl⟩ := h
    obtain rfl : vals = [] := List.eq_nil_of_length_eq_zero (by simpa using hl)
    exact ⟨⟨rfl, rfl⟩, ⟨rfl, hdd⟩, fun w' r3 h => h.2⟩
  | .b x :: args, avs, vals, dl, dl', rl, h, hl, hv, hdd => by
    obtain ⟨y, z, avs', rfl, rfl, h1, h2⟩ := h
    cases vals with
    | nil => simp at hl
    | cons v vals =>
      obtain ⟨g1, g2, g3⟩ := ArgV_ok M hS hown hd h2 (by simpa using hl) (fun j x v a b => hv (j + 1) x v (by simpa using a) (by simpa using b)) hdd
      have hH := RdA_ok M hS hown hd h1 (hv 0 (.a y) v rfl rfl)
      refine ⟨⟨v, _, [], [], rfl, rfl, ⟨rfl, hH⟩, g1⟩, ⟨v, vals, rfl, g2⟩, fun w' r3 h => ?_⟩
      obtain ⟨v', vs', e, h⟩ := h
      obtain ⟨rfl, rfl⟩ : v = v' ∧ vals = vs' := by simpa using e
      exact g3 w' r3 h
  | .l t t' :: args, avs, vals, dl, dl', rl, h, hl, hv, hdd => by
    obtain ⟨x, avs', e1, e2, e1', e2', rfl, rfl, rfl, h1, h1', h2⟩ := h
    cases vals with
    | nil => simp at hl
    | cons v vals =>
      obtain ⟨r1, r2, rfl, q1, q2⟩ := hdd.app
      obtain ⟨g1, g2, g3⟩ := ArgV_ok M hS hown hd h2 (by simpa using hl) (fun j x v a b => hv (j + 1) x v (by simpa using a) (by simpa using b)) q2
      have hH := open_hold h1 (hv 0 (.a (openT x)) v rfl rfl)
      refine ⟨g1, ⟨v, vals, r1, r2, rfl, rfl, RAr_DA hH h1 q1, g2⟩, fun w' r3 h => ?_⟩
      obtain ⟨v', vs', r4, r5, e, rfl, k1, k2⟩ := h
      obtain ⟨rfl, rfl⟩ : v = v' ∧ vals = vs' := by simpa using e
      exact (RAr_DD hH h1' k1).join (g3 w' r5 k2)
/-- A call. -/
theorem DCall_ok (hR : RelD Γ0 al s d a w) {f : FuncId} {avs : List AV} {vals : List Value} {K : AV → De → Prop} (h : DCall P s.hp f avs d K) (hvl : vals.length = avs.length)
    (hvals : ∀ (Γ : Ctx) (μ : Nat → Option Pl), Rel Γ al s a w μ → ∀ (j : Nat) x v, avs[j]? = some x → vals[j]? = some v → AVOk al s.hp (Sv Γ.G s.hp μ w) μ x v)
    (hrun0 : (execOp a.eval o).run P w = (callFunc f vals.toArray).run P w)
    (hN : ∀ av d' v w', K av d' → RelD Γ0 al (s.set o.dst av) d' (a.put o.dst v) w' → next (a.put o.dst v) w') : o.wp P a w next Q0 := by
  obtain ⟨args, rs, dl, dl', dr, hC, hA, hp, hK⟩ := h
  obtain ⟨Γ, r, μ, R, D⟩ := hR
  obtain ⟨rl, rr, hnd, hrl, hrr, h1, h2, hturn⟩ := RelD.turn R D hp
  have hsub : ∀ b ∈ rr, b < w.heap.size ∧ b ∉ rl := fun b hb => ⟨hrr b hb, fun h => (List.nodup_append.1 hnd).2.2 b h b hb rfl⟩
  let G : Nat → Prop := fun b => b < w.heap.size ∧ b ∉ rl
  have hS : ∀ x v, Sv Γ.G s.hp μ w x = some v → inV G w x = some v := fun x v hv => by
    rw [Sv_some] at hv
    rw [inV_some]
    exact ⟨⟨World.block_lt_of_cell? _ _ hv.2, fun h => (hrl _ h).2 hv.1.1⟩, hv.2⟩
  have hown : ∀ i p, live s.hp i → μ i = some p → ∀ x : Addr, x.block = p.b → ∀ v, w.cell? x = some v → inV G w x = some v := fun i p hi hm x hx v hv => by
    rw [inV_some]
    refine ⟨⟨World.block_lt_of_cell? _ _ hv, fun h => (hrl _ h).2 ?_⟩, hv⟩
    rw [hx]
    exact R.mem.gd _ (R.mem.mine i p hi hm).2
  have hd : ∀ y x, (y, x) ∈ dr → Hold (inV G w) x y.v := fun y x hy => by
    obtain ⟨r1, g1, g2⟩ := h2.mem (y, x) hy
    exact g1.hold fun b hb => hsub b (g2 b hb)
  obtain ⟨g1, g2, g3⟩ := ArgV_ok R.mem hS hown hd hA hvl (hvals Γ μ R) h1
  have hCV := hC G w vals [] rl g1 g2 (by simpa using (List.nodup_append.1 hnd).1) (fun b hb => ⟨(hrl b (by simpa using hb)).1, fun h => h.2 (by simpa using hb)⟩) fun b hb => hb.1
  have fin : ∀ v w', (∃ r1 r2 r3, Fr ([] ++ rl) w w' ∧ DRes w' rs v r1 ∧ OutsOk (inV (fun b => G b ∨ (w.heap.size ≤ b ∨ b ∈ [] ++ rl) ∧ b ∉ r1 ++ (r2 ++ r3)) w') w' (bA args) (bV args vals) [] r2 ∧ DLs w' true args vals r3 ∧
      (r1 ++ (r2 ++ r3)).Nodup ∧ ∀ b ∈ r1 ++ (r2 ++ r3), b < w'.heap.size ∧ (b ∈ [] ++ rl ∨ w.heap.size ≤ b)) → next (a.put o.dst v) w' := fun v w' ⟨r1, r2, r3, c1, c2, _, c4, c5, c6⟩ => by
    obtain ⟨av, e, k1, k2, k3⟩ := ResV_of c2
    have k4 := g3 w' r3 c4
    have hnn : (r1 ++ r3).Nodup := by
      obtain ⟨a1, a2, a3⟩ := List.nodup_append.1 c5
      refine List.nodup_append.2 ⟨a1, (List.nodup_append.1 a2).2.1, fun x hx y hy => a3 x hx y (by simp [hy])⟩
    obtain ⟨Γ', R', D', hS'⟩ := hturn w' (e ++ dl') (r1 ++ r3) c1 (k3.join k4) hnn fun b hb => by
      have := c6 b (by rcases List.mem_append.1 hb with h | h <;> simp [h])
      simpa using this
    rw [List.append_assoc e] at D'
    exact hN av _ v w' (hK av e k1) ⟨Γ', _, μ, R'.set o.dst av v (k2 _ _ _ _), D'⟩
  rcases hCV with ⟨hrun, hcalls⟩ | ⟨v, w', hrun, hv⟩
  · unfold Oper.wp
    rw [hrun0, hrun]
    refine hcalls.mono fun e w' ⟨v, he, hv⟩ => ?_
    subst he
    exact fin v w' hv
  · exact wp_val (by rw [hrun0]; exact hrun) (fin v w' hv)

/-! ### Regions -/
theorem WOps_pre (hτ : TOk P τ) {ops : Array Oper} {Q0 : Exit → Act → World → Prop} {rest : List Oper} : ∀ (l : List Oper) (n : Nat) (s : St) (a : Act) (w : World) (μ : Nat → Option Pl) (K : St → Prop), WOps P τ md ops l n s K → Rel Γ (· < n) s a w μ →
    (∀ s' a' w' μ', K s' → Rel Γ (· < s'.nx) s' a' w' μ' → wpList P ops Q0 rest a' w') → wpList P ops Q0 (l ++ rest) a w
  | [], n, s, a, w, μ, K, h, R, hK => hK _ _ _ μ h ⟨R.mem, R.size, R.tmp, R.defers⟩
  | o :: l, n, s, a, w, μ, K, h, R, hK => by
    simp only [WOps] at h
    split at h
    · rename_i b hb
      have hw := want_ok R hb
      refine wpList_step (fun K' hK' => ?_)
      rw [hw]
      cases b with
      | true =>
        rw [if_pos rfl]
        refine op_sound hτ R (fun k _ => by omega) (h.1 rfl) (fun v u val w' μ' hk hm he hv => hK' _ _ ?_)
        rw [al16_lt] at hm he hv
        have R' : Rel Γ (· < n + 16) (s.upd u) a w' μ' := ⟨hm, by rw [upd_N]; exact R.size, fun t => by rw [upd_get]; exact (R.tmp t).mono he, R.defers⟩
        exact WOps_pre hτ l (n + 16) _ _ w' μ' K hk (R'.set o.dst v val hv) hK
      | false =>
        rw [if_neg (by simp)]
        refine hK' _ _ ?_
        have hm := R.mem.grow (Fr.refl [] w) (al' := (· < n + 16)) (fun i hi => by omega)
        have R' : Rel Γ (· < n + 16) s a w μ := ⟨hm.1, R.size, fun t => (R.tmp t).mono hm.2, R.defers⟩
        exact WOps_pre hτ l (n + 16) _ _ w μ K (h.2 rfl) (R'.set o.dst (.tup []) undef tup0_ok) hK
    · exact h.elim
/-- What stands behind the call in its region. -/
def restD (P : Program) (τ : Tab) (md : Nat → Md) (ops : Array Oper) (post : List Oper) (s : St) (dst : Option Nat) (Q : X → St → De → Prop) (av : AV) (d : De) : Prop := act (WOps P τ md ops post (s.nx + 16) (s.set dst av) (baseD Q d .normal))
def callD (P : Program) (τ : Tab) (md : Nat → Md) (ops : Array Oper) (o : Oper) (f : FuncId) (xs : List (Operand × TypeId)) (post : List Oper) (d : De) (Q : X → St → De → Prop) (s : St) : Prop :=
  wantA ops s o = some true ∧ DCall P s.hp f (xs.map fun x => s.eval τ x.2 x.1) d (restD P τ md ops post s o.dst Q)
theorem RelD.more (h : RelD Γ0 al s d a w) (ha : ∀ i, al i → al' i) : RelD Γ0 al' s d a w := by
  obtain ⟨Γ, r, μ, R, D⟩ := h
  have hm := R.mem.grow (Fr.refl [] w) (al' := al') ha
  exact ⟨Γ, r, μ, ⟨hm.1, R.size, fun t => (R.tmp t).mono hm.2, R.defers⟩, D⟩
theorem WWD_region (hτ : TOk P τ) (md : Nat → Md) {id : Nat} {l : List Oper} (k : Nat) {o : Oper} {f : FuncId} {xs : Array Operand} {ts : Array TypeId} (ho : l[k]? = some o) (hop : o.op = .call ⟨.value (.func f), xs, ts⟩) (hlen : xs.toList.length = ts.toList.length)
    {x : Shut (Code.region id l.toArray false)} {y : Shut d} {z : Shut Q} (h : act (WOps P τ md l.toArray (l.take k) s.nx s (callD P τ md l.toArray o f (xs.toList.zip ts.toList) (l.drop (k + 1)) d Q))) : WWDE P (.region id l.toArray false) s d Q x y z := fun Γ0 a w R => by
  obtain ⟨Γ, r, μ, R, D⟩ := R
  refine wp_region_list ?_
  have hl : l = l.take k ++ (o :: l.drop (k + 1)) := by
    obtain ⟨hk, hko⟩ := List.getElem?_eq_some_iff.1 ho
    rw [← hko, List.getElem_cons_drop, List.take_append_drop]
  have key : wpList P l.toArray (fun e a' w' => ∃ x s' d', x.is e ∧ Q x s' d' ∧ RelD Γ0 (· < s'.nx) s' d' a' w') (l.take k ++ (o :: l.drop (k + 1))) a w := ?_
  · rw [← hl] at key; exact key
  refine WOps_pre hτ (l.take k) s.nx s a w μ _ h R fun s1 a1 w1 μ1 hc R1 => ?_
  obtain ⟨hw, hc⟩ := hc
  refine wpList_step fun K' hK' => ?_
  rw [want_ok R1 hw, if_pos rfl]
  refine DCall_ok (vals := xs.toList.map a1.eval) ⟨Γ, r, μ1, R1, D⟩ hc (by simp only [List.length_map, List.length_zip, hlen, Nat.min_self]) (fun Γ μ R j x v p q => ?_) ?_ fun av d' v w' hk hR => hK' _ _ ?_
  · obtain ⟨t, y, rfl, rfl⟩ := zip_eval (τ := τ) (s := s1) (a := a1) xs.toList ts.toList hlen j x v p q
    exact eval_ok (τ := τ) R t y
  · have e : xs.map a1.eval = (xs.toList.map a1.eval).toArray := by cases xs; simp
    have hfv : a1.eval (.func f) = .func (.func f) #[] #[] := rfl
    simp [execOp, hop, resolve, hfv, Deferred.ofValue, invoke, e]
  · obtain ⟨Γ2, r2, μ2, R2, D2⟩ := hR.more (al' := (· < s1.nx + 16)) fun i hi => by omega
    exact WOps_sound hτ (l.drop (k + 1)) (s1.nx + 16) _ _ w' μ2 _ hk R2 fun s3 a3 w3 μ3 h3 R3 => ⟨.normal, s3, d', trivial, h3, Γ2, r2, μ3, R3, D2⟩
theorem act_callD {ops : Array Oper} {f : FuncId} {xs : List (Operand × TypeId)} {post : List Oper} : act (callD P τ md ops o f xs post d Q s) = (wantA ops s o = some true ∧ DCall P s.hp f (xs.map fun x => s.eval τ x.2 x.1) d (restD P τ md ops post s o.dst Q)) := (rfl)
end
attribute [go_sem] act_callD
end Go.Proofs.YtikegeligblekaaGreat.M

/- A machine of values: regions that draw their order, with a call that takes or brings deep trees. No condition. -/
namespace Go.Proofs.YtikegeligblekaaGreat.M
open Go
set_option linter.unusedSimpArgs false
set_option linter.unusedVariables false
set_option linter.unusedSectionVars false

/-- Which of the operations, in the order that is walked, are done. -/
def onD (ord : List Nat) (listed : Array Bool) (i : Nat) : Bool := match ord[i]? with | some j => listed.getD j false | none => false
theorem stD_app : ∀ (A B : List (Oper × Out)) (D : Nat → Bool) (s : St), stD D (A ++ B) s = stD (fun i => D (i + A.length)) B (stD D A s)
  | [], B, D, s => rfl
  | x :: A, B, D, s => by
    rw [List.cons_append, stD, stD, stD_app A B]
    congr 1
theorem stD_same : ∀ (L : List (Oper × Out)) (D D' : Nat → Bool) (s : St), (∀ i, i < L.length → D i = D' i) → stD D L s = stD D' L s
  | [], D, D', s, _ => rfl
  | x :: L, D, D', s, h => by
    rw [stD, stD, h 0 (by simp)]
    exact stD_same L _ _ _ fun i hi => h (i + 1) (by simpa using hi)

section
variable {P : Program} {τ : Tab} {md : Nat → Md} {Γ0 Γ : Ctx} {al al' : Nat → Prop} {s s0 : St} {a : Act} {w w' : World} {μ : Nat → Option Pl} {d d' : De} {ops : Array Oper} {ord : List Nat} {listed : Array Bool} {L : List (Oper × Out)} {n : Nat}
variable {next : Act → World → Prop} {Q0 : Exit → Act → World → Prop}
theorem onD_set (hnd : ord.Nodup) {i j : Nat} (hj : ord[i]? = some j) (hlt : j < listed.size) (m : Nat) : onD ord (listed.setIfInBounds j true) m = if m = i then true else onD ord listed m := by
  unfold onD
  by_cases hm : m = i
  · subst hm; rw [hj]; simp [hlt]
  · rw [if_neg hm]
    cases ho : ord[m]? with
    | none => rfl
    | some q =>
      have : q ≠ j := fun h => by
        subst h
        obtain ⟨h1, h2⟩ := List.getElem?_eq_some_iff.1 hj
        obtain ⟨h3, h4⟩ := List.getElem?_eq_some_iff.1 ho
        rcases Nat.lt_or_gt_of_ne hm with h | h
        · exact List.pairwise_iff_getElem.1 hnd m i h3 h1 h (h4.trans h2.symm)
        · exact List.pairwise_iff_getElem.1 hnd i m h1 h3 h (h2.trans h4.symm)
      simp only
      exact getD_set_ne false (Ne.symm this)
/-- One operation, in whatever order. -/
theorem stepD (hτ : TOk P τ) (hnd : ord.Nodup) (hL : ∀ (i : Nat) x, L[i]? = some x → ∃ j, ord[i]? = some j ∧ ops[j]? = some x.1)
    (hap : ∀ (i i' : Nat) x y, i < i' → L[i]? = some x → L[i']? = some y → (∃ j, ord[i]? = some j ∧ Path ops j y.1) ∨ Apart ops x y)
    (hclO : ∀ (j : Nat) o, ops[j]? = some o → listed.getD j false = true → ∀ e ∈ o.after, Region.binds .any e = true → listed.getD e.on false = true)
    {i j : Nat} {x : Oper × Out} (hx : L[i]? = some x) (hj : ord[i]? = some j) (hlt : j < listed.size) (hF : Fact P τ md ops x (stD (fun m => decide (m < i)) L s0) (n + 16 * i)) (hDj : listed.getD j false = false)
    (haft : ∀ e ∈ x.1.after, Region.binds .any e = true → listed.getD e.on false = true) (R : RelD Γ0 (alD n (onD ord listed)) (stD (onD ord listed) L s0) d a w)
    (go : ∀ a' w', RelD Γ0 (alD n (onD ord (listed.setIfInBounds j true))) (stD (onD ord (listed.setIfInBounds j true)) L s0) d a' w' → next a' w') : wpOp P ops Q0 j next a w := by
  have hoj : ops[j]? = some x.1 := by
    obtain ⟨j', h1, h2⟩ := hL i x hx
    rw [hj] at h1; obtain rfl := Option.some.inj h1; exact h2
  have hDi : onD ord listed i = false := by unfold onD; rw [hj]; exact hDj
  have hon : ∀ m q, ord[m]? = some q → onD ord listed m = listed.getD q false := fun m q h => by unfold onD; rw [h]
  have hD' := onD_set (listed := listed) hnd hj hlt
  have tmA : ∀ t ∈ looks ops x.1, (stD (onD ord listed) L s0).get t = (stD (fun m => decide (m < i)) L s0).get t := fun t ht =>
    stD_get_congr L _ _ s0 s0 t rfl rfl fun m y hy hd => by
      rcases Nat.lt_trichotomy m i with hji | hji | hji
      · rw [decide_eq_true hji]
        rcases hap m i y x hji hy hx with ⟨q, hq, hP⟩ | hA
        · rw [hon m q hq]; exact hP.listed hclO haft
        · exact absurd ht (hA.a t hd).1
      · subst hji; simpa using hDi
      · rw [decide_eq_false (by omega)]
        cases hm : onD ord listed m with
        | false => rfl
        | true =>
          rcases hap i m x y hji hx hy with ⟨q, hq, hP⟩ | hA
          · obtain ⟨q2, hq2, ho2⟩ := hL m y hy
            rw [hon m q2 hq2] at hm
            have := hP.listed hclO (hclO q2 y.1 ho2 hm)
            rw [hj] at hq; obtain rfl := Option.some.inj hq
            rw [hDj] at this; cases this
          · exact absurd ht (hA.b t hd)
  have hpA : ∀ k ∈ x.2.rd, find (stD (onD ord listed) L s0).hp k = find (stD (fun m => decide (m < i)) L s0).hp k := fun k hk =>
    stD_find_congr L _ _ s0 s0 k rfl fun m y hy hd => by
      rcases Nat.lt_trichotomy m i with hji | hji | hji
      · rw [decide_eq_true hji]
        rcases hap m i y x hji hy hx with ⟨q, hq, hP⟩ | hA
        · rw [hon m q hq]; exact hP.listed hclO haft
        · exact absurd hk (hA.c k hd).1
      · subst hji; simpa using hDi
      · rw [decide_eq_false (by omega)]
        cases hm : onD ord listed m with
        | false => rfl
        | true =>
          rcases hap i m x y hji hx hy with ⟨q, hq, hP⟩ | hA
          · obtain ⟨q2, hq2, ho2⟩ := hL m y hy
            rw [hon m q2 hq2] at hm
            have := hP.listed hclO (hclO q2 y.1 ho2 hm)
            rw [hj] at hq; obtain rfl := Option.some.inj hq
            rw [hDj] at this; cases this
          · exact absurd hk (hA.d k hd)
  have hlater : ∀ (m : Nat) y, i < m → L[m]? = some y → onD ord (listed.setIfInBounds j true) m = true → Apart ops x y := fun m y hm hy hDm => by
    rw [hD', if_neg (by omega)] at hDm
    rcases hap i m x y hm hx hy with ⟨q, hq, hP⟩ | hA
    · obtain ⟨q2, hq2, ho2⟩ := hL m y hy
      rw [hon m q2 hq2] at hDm
      have := hP.listed hclO (hclO q2 y.1 ho2 hDm)
      rw [hj] at hq; obtain rfl := Option.some.inj hq
      rw [hDj] at this; cases this
    · exact hA
  have hLike : Like (step (stD (onD ord listed) L s0) x.1.dst x.2) (stD (onD ord (listed.setIfInBounds j true)) L s0) := by
    refine ⟨by rw [step_N, stD_N, stD_N], fun t => ?_, fun k => ?_⟩
    · rw [step_get, stD_N]
      have hne : x.1.dst ≠ some t → (stD (onD ord listed) L s0).get t = (stD (onD ord (listed.setIfInBounds j true)) L s0).get t := fun hd =>
        stD_get_congr L _ _ s0 s0 t rfl rfl fun m y hy hdm => by
          rw [hD']
          by_cases hm : m = i
          · subst hm; rw [hx] at hy; cases hy; exact absurd hdm hd
          · rw [if_neg hm]
      by_cases hd : x.1.dst = some t
      · by_cases hN : t < s0.N
        · rw [if_pos ⟨hd, hN⟩]
          exact (stD_get_last L _ s0 i x t hx (by rw [hD', if_pos rfl]) hd hN fun m y hm hy hDm => ((hlater m y hm hy hDm).a t hd).2).symm
        · rw [if_neg fun h => hN h.2, any_out L _ s0 t hN, any_out L _ s0 t hN]
      · rw [if_neg fun h => hd h.1]
        exact hne hd
    · by_cases hk : k ∈ x.2.u.map (·.1)
      · exact (stD_find_last L _ s0 _ i x k hx (by rw [hD', if_pos rfl]) hk fun m y hm hy hDm => ((hlater m y hm hy hDm).c k hk).2).symm
      · rw [step_find_out hk]
        refine stD_find_congr L _ _ s0 s0 k rfl fun m y hy hdm => ?_
        rw [hD']
        by_cases hm : m = i
        · subst hm; rw [hx] at hy; cases hy; exact absurd hdm hk
        · rw [if_neg hm]
  have hal : al16 (alD n (onD ord listed)) (n + 16 * i) = alD n (onD ord (listed.setIfInBounds j true)) := by
    funext k
    simp only [al16, alD, eq_iff_iff]
    constructor
    · rintro ((h | ⟨m, h1, h2⟩) | h)
      · exact .inl h
      · exact .inr ⟨m, by rw [hD']; split; · rfl
                          · exact h1, h2⟩
      · exact .inr ⟨i, by rw [hD', if_pos rfl], h⟩
    · rintro (h | ⟨m, h1, h2⟩)
      · exact .inl (.inl h)
      · rw [hD'] at h1
        by_cases hm : m = i
        · subst hm; exact .inr h2
        · rw [if_neg hm] at h1; exact .inl (.inr ⟨m, h1, h2⟩)
  obtain ⟨Γ, r, μ, R, DI⟩ := R
  have go' : ∀ a' w' μ', Rel Γ (al16 (alD n (onD ord listed)) (n + 16 * i)) (step (stD (onD ord listed) L s0) x.1.dst x.2) a' w' μ' → next a' w' := fun a' w' μ' R' => by
    rw [hal] at R'
    exact go a' w' ⟨Γ, r, μ', R'.like hLike, DI⟩
  unfold wpOp
  rw [hoj]
  simp only
  have hw0 : wantA ops (stD (onD ord listed) L s0) x.1 = wantA ops (stD (fun m => decide (m < i)) L s0) x.1 := wantA_eq tmA
  rcases hF with ⟨h1, h2, h3⟩ | ⟨h1, h2, h3⟩
  · rw [← hw0] at h1
    rw [want_ok R h1, if_pos rfl]
    left
    have hA : Agree ops x.1 (stD (fun m => decide (m < i)) L s0) (stD (onD ord listed) L s0) := ⟨tmA, fun k hk => hpA k (by rw [h2]; exact hk)⟩
    refine op_sound (md := md) hτ R (n := n + 16 * i) (K := fun v u => v = x.2.v ∧ u = x.2.u) (fun k hk hh => ?_) (by rw [op_frame hA]; exact h3 _ ⟨rfl, rfl⟩) (fun v u val w' μ' hk hm he hv => ?_)
    · rcases hh with hh | ⟨m, hj1, hj2⟩
      · omega
      · have : m = i := by omega
        subst this; rw [hDi] at hj1; cases hj1
    · obtain ⟨rfl, rfl⟩ := hk
      have R' : Rel Γ (al16 (alD n (onD ord listed)) (n + 16 * i)) ((stD (onD ord listed) L s0).upd x.2.u) a w' μ' := ⟨hm, by rw [upd_N]; exact R.size, fun t => by rw [upd_get]; exact (R.tmp t).mono he, R.defers⟩
      exact go' _ _ _ (R'.set x.1.dst x.2.v val hv)
  · rw [← hw0] at h1
    rw [want_ok R h1, if_neg (by simp)]
    have hm := R.mem.grow (Fr.refl [] w) (al' := al16 (alD n (onD ord listed)) (n + 16 * i)) (fun i hi => .inl hi)
    have R' : Rel Γ (al16 (alD n (onD ord listed)) (n + 16 * i)) (stD (onD ord listed) L s0) a w μ := ⟨hm.1, R.size, fun t => (R.tmp t).mono hm.2, R.defers⟩
    refine go' _ _ μ ?_
    have e : step (stD (onD ord listed) L s0) x.1.dst x.2 = (stD (onD ord listed) L s0).set x.1.dst (.tup []) := by rw [step, h2, h3]; rfl
    rw [e]
    exact R'.set x.1.dst (.tup []) undef tup0_ok

/-- What is known of a region in which one call takes or brings deep trees: the operations in an order: those ahead of the call (L1), the call (number k, place kc), those that hang on it. -/
structure DrawD (P : Program) (τ : Tab) (md : Nat → Md) (ops : Array Oper) (ord : List Nat) (L1 : List (Oper × Out)) (kc : Nat) (oc : Oper) (s0 : St) (n : Nat) (d : De) (Kp : AV → De → Prop) : Prop where
  nd : ord.Nodup
  all : ∀ j, j ∈ ord ↔ j < ops.size
  okc : ord[L1.length]? = some kc
  hoc : ops[kc]? = some oc
  hL : ∀ (i : Nat) x, L1[i]? = some x → ∃ j, ord[i]? = some j ∧ ops[j]? = some x.1
  hF : ∀ (i : Nat) x, L1[i]? = some x → Fact P τ md ops x (stD (fun m => decide (m < i)) L1 s0) (n + 16 * i)
  ap : ∀ (i i' : Nat) x y, i < i' → L1[i]? = some x → L1[i']? = some y → (∃ j, ord[i]? = some j ∧ Path ops j y.1) ∨ Apart ops x y
  apc : ∀ (i : Nat) x, L1[i]? = some x → (∃ j, ord[i]? = some j ∧ Path ops j oc) ∨ ∀ t, x.1.dst = some t → t ∉ looks ops oc
  dep : ∀ (i j : Nat) o, ord[i]? = some j → ops[j]? = some o → ∀ e ∈ o.after, Region.binds .any e = true → ∃ i', i' < i ∧ ord[i']? = some e.on
  post : ∀ (i j : Nat) o, L1.length < i → ord[i]? = some j → ops[j]? = some o → Path ops kc o
  want : wantA ops (stD (fun _ => true) L1 s0) oc = some true
  call : ∃ f xs ts, oc.op = .call ⟨.value (.func f), xs, ts⟩ ∧ xs.toList.length = ts.toList.length ∧ DCall P [] f ((xs.toList.zip ts.toList).map fun x => (stD (fun _ => true) L1 s0).eval τ x.2 x.1) d Kp
/-- What is known behind the call. -/
structure DrawP (P : Program) (τ : Tab) (md : Nat → Md) (ops : Array Oper) (ord : List Nat) (L1 : List (Oper × Out)) (oc : Oper) (s0 : St) (n : Nat) (av : AV) (Q0 : St → Prop) : Prop where
  ex : ∃ (L2 : List (Oper × Out)) (rd : List Nat), (L1 ++ (oc, ⟨av, [], rd⟩) :: L2).length = ops.size ∧
    (∀ (i : Nat) x, (L1 ++ (oc, ⟨av, [], rd⟩) :: L2)[i]? = some x → ∃ j, ord[i]? = some j ∧ ops[j]? = some x.1) ∧
    (∀ (i i' : Nat) x y, i < i' → (L1 ++ (oc, ⟨av, [], rd⟩) :: L2)[i]? = some x → (L1 ++ (oc, ⟨av, [], rd⟩) :: L2)[i']? = some y → (∃ j, ord[i]? = some j ∧ Path ops j y.1) ∨ Apart ops x y) ∧
    (∀ (i : Nat) x, i ≠ L1.length → (L1 ++ (oc, ⟨av, [], rd⟩) :: L2)[i]? = some x → Fact P τ md ops x (stD (fun m => decide (m < i)) (L1 ++ (oc, ⟨av, [], rd⟩) :: L2) s0) (n + 16 * i)) ∧
    Q0 (stD (fun _ => true) (L1 ++ (oc, ⟨av, [], rd⟩) :: L2) s0)
theorem ArgV_nil {hp : List (Nat × Blk)} {dr : De} : ∀ {args : List DArg} {avs : List AV} {e e' : De}, ArgV [] dr args avs e e' → ArgV hp dr args avs e e' := by
  have hc : ∀ {c : C} {x : T}, RdC [] dr c x → RdC hp dr c x := fun {c x} h => by
    rcases h with h | h
    · exact .inl h
    · refine .inr ?_
      unfold readC at h ⊢
      split at h
      · exact h
      · rename_i hno
        cases c <;> first | exact h | (simp [listOf, arrOf, find] at h; done) | (exact (hno _ rfl).elim)
  have hcs : ∀ {cs : List C} {xs : List T}, RdCs [] dr cs xs → RdCs hp dr cs xs := fun {cs} => by
    induction cs with
    | nil => exact fun h => h
    | cons c cs ih => rintro _ ⟨x, xs, rfl, h1, h2⟩; exact ⟨x, xs, rfl, hc h1, ih h2⟩
  have ha : ∀ {y : A} {x : T}, RdA [] dr y x → RdA hp dr y x := fun {y x} h => by
    cases y with
    | c c => exact hc h
    | g cs => obtain ⟨xs, rfl, h⟩ := h; exact ⟨xs, rfl, hcs h⟩
  intro args
  induction args with
  | nil => intro avs e e' h; exact h
  | cons x r ih =>
    intro avs e e' h
    cases x with
    | b x => obtain ⟨y, z, avs', rfl, rfl, h1, h2⟩ := h; exact ⟨y, z, avs', rfl, rfl, ha h1, ih h2⟩
    | l t t' => obtain ⟨x, avs', e1, e2, e1', e2', h1, h2, h3, h4, h5, h6⟩ := h; exact ⟨x, avs', e1, e2, e1', e2', h1, h2, h3, h4, h5, ih h6⟩
theorem anyD (hτ : TOk P τ) {L1 : List (Oper × Out)} {kc : Nat} {oc : Oper} {Kp : AV → De → Prop} (H : DrawD P τ md ops ord L1 kc oc s0 n d Kp) {Q : St → De → Prop} (HP : ∀ av d', Kp av d' → DrawP P τ md ops ord L1 oc s0 n av (fun s => Q s d'))
    (hQ : ∀ s' d' a w, Q s' d' → RelD Γ0 (alD n fun j => decide (j < ops.size)) s' d' a w → Q0 .normal a w) :
    ∀ (fuel : Nat) (listed : Array Bool) (a : Act) (w : World), listed.size = ops.size → (∀ (j : Nat) o, ops[j]? = some o → listed.getD j false = true → ∀ e ∈ o.after, Region.binds .any e = true → listed.getD e.on false = true) → listed.toList.count false ≤ fuel →
      ((listed.getD kc false = false ∧ RelD Γ0 (alD n (onD ord listed)) (stD (onD ord listed) L1 s0) d a w) ∨
        (listed.getD kc false = true ∧ ∃ (L : List (Oper × Out)) (d' : De), L.length = ops.size ∧ (∀ (i : Nat) x, L[i]? = some x → ∃ j, ord[i]? = some j ∧ ops[j]? = some x.1) ∧
          (∀ (i i' : Nat) x y, i < i' → L[i]? = some x → L[i']? = some y → (∃ j, ord[i]? = some j ∧ Path ops j y.1) ∨ Apart ops x y) ∧
          (∀ (i : Nat) x, i ≠ L1.length → L[i]? = some x → Fact P τ md ops x (stD (fun m => decide (m < i)) L s0) (n + 16 * i)) ∧ Q (stD (fun _ => true) L s0) d' ∧
          RelD Γ0 (alD n (onD ord listed)) (stD (onD ord listed) L s0) d' a w)) → wpAny P .any ops Q0 fuel listed a w := by
  have hfin : ∀ (listed : Array Bool) (a : Act) (w : World), listed.size = ops.size → Region.ready .any ops listed = [] →
      ((listed.getD kc false = false ∧ RelD Γ0 (alD n (onD ord listed)) (stD (onD ord listed) L1 s0) d a w) ∨
        (listed.getD kc false = true ∧ ∃ (L : List (Oper × Out)) (d' : De), L.length = ops.size ∧ (∀ (i : Nat) x, L[i]? = some x → ∃ j, ord[i]? = some j ∧ ops[j]? = some x.1) ∧
          (∀ (i i' : Nat) x y, i < i' → L[i]? = some x → L[i']? = some y → (∃ j, ord[i]? = some j ∧ Path ops j y.1) ∨ Apart ops x y) ∧
          (∀ (i : Nat) x, i ≠ L1.length → L[i]? = some x → Fact P τ md ops x (stD (fun m => decide (m < i)) L s0) (n + 16 * i)) ∧ Q (stD (fun _ => true) L s0) d' ∧
          RelD Γ0 (alD n (onD ord listed)) (stD (onD ord listed) L s0) d' a w)) → Q0 .normal a w := fun listed a w hsz hr hI => by
    have hall : ∀ i j, ord[i]? = some j → listed.getD j false = true := fun i => by
      induction i using Nat.strongRecOn with
      | _ i ih =>
        intro j hij
        cases hh : listed.getD j false with
        | true => rfl
        | false =>
          exfalso
          have hj : j < ops.size := (H.all j).1 (List.mem_of_getElem? hij)
          have hjl : j < listed.size := by omega
          have : j ∈ Region.ready .any ops listed := by
            rw [mem_ready]
            refine ⟨by simpa [hjl] using hh, ops[j], by simp [hj], fun e he hb => ?_⟩
            obtain ⟨i', h1, h2⟩ := H.dep i j _ hij (Array.getElem?_eq_getElem hj) e he hb
            exact ih i' h1 e.on h2
          rw [hr] at this
          cases this
    rcases hI with ⟨h1, _⟩ | ⟨_, L, d', g1, g2, _, _, g5, g6⟩
    · rw [hall _ _ H.okc] at h1; cases h1
    · have hord : ord.length = ops.size := by
        have h1 : ord.length ≤ ops.size := by
          have := H.nd.length_le_of_subset (l₂ := List.range ops.size) fun j hj => List.mem_range.2 ((H.all j).1 hj)
          simpa using this
        have h2 : ops.size ≤ ord.length := by
          have := (List.nodup_range (n := ops.size)).length_le_of_subset (l₂ := ord) fun j hj => (H.all j).2 (List.mem_range.1 hj)
          simpa using this
        omega
      have hD : ∀ i, onD ord listed i = decide (i < ops.size) := fun i => by
        unfold onD
        cases ho : ord[i]? with
        | none => rw [List.getElem?_eq_none_iff] at ho; simp; omega
        | some j =>
          have := (List.getElem?_eq_some_iff.1 ho).1
          simp only
          rw [hall i j ho]; simp; omega
      have e1 : stD (onD ord listed) L s0 = stD (fun _ => true) L s0 := stD_same L _ _ _ fun i hi => by rw [hD]; simp; omega
      rw [e1] at g6
      rw [show onD ord listed = fun j => decide (j < ops.size) from funext hD] at g6
      exact hQ _ d' a w g5 g6
  intro fuel
  induction fuel with
  | zero =>
    intro listed a w hsz hcl hct hI
    have hr : Region.ready .any ops listed = [] := by
      rw [List.eq_nil_iff_forall_not_mem]
      intro i hi
      rw [mem_ready] at hi
      have h0 := hi.1
      have hlt : i < listed.size := by
        rcases Nat.lt_or_ge i listed.size with h | h
        · exact h
        · simp [Array.getElem?_eq_none h] at h0
      have hmem : false ∈ listed.toList := by
        simp [hlt] at h0
        rw [← h0]; simp
      have := List.count_pos_iff.2 hmem
      omega
    exact ⟨hr, hfin listed a w hsz hr hI⟩
  | succ fuel ih =>
    intro listed a w hsz hcl hct hI
    refine ⟨fun hr => hfin listed a w hsz hr hI, fun j hj => ?_⟩
    rw [mem_ready] at hj
    obtain ⟨h0, o, ho, haft⟩ := hj
    have hlt : j < listed.size := by
      rcases Nat.lt_or_ge j listed.size with h | h
      · exact h
      · simp [Array.getElem?_eq_none h] at h0
    have hDj : listed.getD j false = false := by simpa [hlt] using h0
    have hset : ∀ m, (listed.setIfInBounds j true).getD m false = if m = j then true else listed.getD m false := fun m => by
      by_cases hm : m = j
      · subst hm; simp [hlt]
      · rw [if_neg hm]; exact getD_set_ne false (Ne.symm hm)
    have hcl' : ∀ (m : Nat) o', ops[m]? = some o' → (listed.setIfInBounds j true).getD m false = true → ∀ e ∈ o'.after, Region.binds .any e = true → (listed.setIfInBounds j true).getD e.on false = true := fun m o' ho' hm e he hb => by
      rw [hset] at hm
      by_cases hmj : m = j
      · subst hmj; rw [ho] at ho'; cases ho'; exact getD_set_true (haft e he hb)
      · rw [if_neg hmj] at hm; exact getD_set_true (hcl m o' ho' hm e he hb)
    have hct' : (listed.setIfInBounds j true).toList.count false ≤ fuel := by
      rw [Array.toList_setIfInBounds, List.count_set (by simpa using hlt)]
      have : listed.toList[j]'(by simpa using hlt) = false := by simpa [hlt] using h0
      rw [this]
      have e : ((true == false) = true) = False := by simp
      simp only [beq_self_eq_true, if_true, e, if_false]
      omega
    have hjo : j ∈ ord := (H.all j).2 (by omega)
    obtain ⟨i, hij⟩ := List.getElem?_of_mem hjo
    rcases hI with ⟨hk, R⟩ | ⟨hk, L, d', g1, g2, g3, g4, g5, R⟩
    · -- the call is not done yet
      rcases Nat.lt_trichotomy i L1.length with hi | hi | hi
      · have hx := List.getElem?_eq_getElem hi
        obtain ⟨j', q1, q2⟩ := H.hL i _ hx
        rw [hij] at q1; obtain rfl := Option.some.inj q1
        rw [ho] at q2; obtain rfl := Option.some.inj q2
        have hkj : kc ≠ j := fun h => by
          subst h
          obtain ⟨h3, h4⟩ := List.getElem?_eq_some_iff.1 hij
          obtain ⟨h5, h6⟩ := List.getElem?_eq_some_iff.1 H.okc
          exact List.pairwise_iff_getElem.1 H.nd i _ h3 h5 hi (h4.trans h6.symm)
        exact stepD hτ H.nd H.hL H.ap hcl hx hij hlt (H.hF i _ hx) hDj haft R fun a' w' R' => ih _ a' w' (by simpa using hsz) hcl' hct' (.inl ⟨by rw [hset, if_neg hkj]; exact hk, R'⟩)
      · subst hi
        have : j = kc := by have := H.okc; rw [hij] at this; exact Option.some.inj this
        subst this
        have : o = oc := by have := H.hoc; rw [ho] at this; exact Option.some.inj this
        subst this
        have hlate : ∀ m, L1.length < m → onD ord listed m = false := fun m hm => by
          unfold onD
          cases hq : ord[m]? with
          | none => rfl
          | some q =>
            simp only
            cases hh : listed.getD q false with
            | false => rfl
            | true =>
              have hqs : q < ops.size := (H.all q).1 (List.mem_of_getElem? hq)
              have hP := H.post m q _ hm hq (Array.getElem?_eq_getElem hqs)
              have := hP.listed hcl (hcl q _ (Array.getElem?_eq_getElem hqs) hh)
              rw [hk] at this; cases this
        have tmA : ∀ t ∈ looks ops o, (stD (onD ord listed) L1 s0).get t = (stD (fun _ => true) L1 s0).get t := fun t ht =>
          stD_get_congr L1 _ _ s0 s0 t rfl rfl fun m y hy hd => by
            rcases H.apc m y hy with ⟨q, hq, hP⟩ | hA
            · unfold onD; rw [hq]; exact hP.listed hcl haft
            · exact absurd ht (hA t hd)
        obtain ⟨f, xs, ts, hop, hlen, hC⟩ := H.call
        have hev : (xs.toList.zip ts.toList).map (fun x => (stD (onD ord listed) L1 s0).eval τ x.2 x.1) = (xs.toList.zip ts.toList).map fun x => (stD (fun _ => true) L1 s0).eval τ x.2 x.1 := by
          refine List.map_congr_left fun x hx => ?_
          have hxm : x.1 ∈ opers o.op := by
            rw [hop]
            have := (List.of_mem_zip hx).1
            simp [opers, this]
          obtain ⟨y, t⟩ := x
          cases y with
          | tmp i => exact tmA i (List.mem_append_right _ (List.mem_flatMap.2 ⟨_, hxm, by simp [tmpO]⟩))
          | _ => rfl
        unfold wpOp
        rw [ho]
        simp only
        obtain ⟨Γ, r, μ, R, DI⟩ := R
        rw [want_ok R (by rw [wantA_eq tmA]; exact H.want), if_pos rfl]
        left
        have hC' : DCall P (stD (onD ord listed) L1 s0).hp f ((xs.toList.zip ts.toList).map fun x => (stD (onD ord listed) L1 s0).eval τ x.2 x.1) d Kp := by
          rw [hev]
          obtain ⟨args, rs, dl, dl', dr, c1, c2, c3, c4⟩ := hC
          exact ⟨args, rs, dl, dl', dr, c1, ArgV_nil c2, c3, c4⟩
        refine DCall_ok (vals := xs.toList.map a.eval) ⟨Γ, r, μ, R, DI⟩ hC' (by simp only [List.length_map, List.length_zip, hlen, Nat.min_self]) (fun Γ μ R j x v p q => ?_) ?_ fun av d' v w' hkp hR => ?_
        · obtain ⟨t, y, rfl, rfl⟩ := zip_eval (τ := τ) (s := stD (onD ord listed) L1 s0) (a := a) xs.toList ts.toList hlen j x v p q
          exact eval_ok (τ := τ) R t y
        · have e : xs.map a.eval = (xs.toList.map a.eval).toArray := by cases xs; simp
          have hfv : a.eval (.func f) = .func (.func f) #[] #[] := rfl
          simp [execOp, hop, resolve, hfv, Deferred.ofValue, invoke, e]
        · obtain ⟨L2, rd, g1, g2, g3, g4, g5⟩ := (HP av d' hkp).ex
          refine ih _ _ w' (by simpa using hsz) hcl' hct' (.inr ⟨by rw [hset, if_pos rfl], _, d', g1, g2, g3, g4, g5, ?_⟩)
          have hD' := onD_set (listed := listed) H.nd hij hlt
          have e : stD (onD ord (listed.setIfInBounds j true)) (L1 ++ (o, ⟨av, [], rd⟩) :: L2) s0 = (stD (onD ord listed) L1 s0).set o.dst av := by
            rw [stD_app, stD, Nat.zero_add, hD', if_pos rfl, if_pos rfl]
            have e1 : stD (onD ord (listed.setIfInBounds j true)) L1 s0 = stD (onD ord listed) L1 s0 := stD_same L1 _ _ _ fun m hm => by rw [hD', if_neg (by omega)]
            rw [e1]
            have e2 : stD (fun i => onD ord (listed.setIfInBounds j true) (i + 1 + L1.length)) L2 (step (stD (onD ord listed) L1 s0) o.dst ⟨av, [], rd⟩) = stD (fun _ => false) L2 (step (stD (onD ord listed) L1 s0) o.dst ⟨av, [], rd⟩) :=
              stD_same L2 _ _ _ fun m _ => by rw [hD', if_neg (by omega)]; exact hlate _ (by omega)
            rw [e2, stD_none]
            rfl
          rw [e]
          refine hR.more fun m hm => ?_
          rcases hm with hm | ⟨q, hq1, hq2⟩
          · exact .inl hm
          · exact .inr ⟨q, by rw [hD']; split; · rfl
                              · exact hq1, hq2⟩
      · exfalso
        have hP := H.post i j o hi hij ho
        have := hP.listed hcl haft
        rw [hk] at this; cases this
    · -- the call is done
      have hi : i ≠ L1.length := fun h => by
        subst h
        have := H.okc
        rw [hij] at this; obtain rfl := Option.some.inj this
        rw [hk] at hDj; cases hDj
      have hord : i < L.length := by
        have h1 : ord.length ≤ ops.size := by
          have := H.nd.length_le_of_subset (l₂ := List.range ops.size) fun j hj => List.mem_range.2 ((H.all j).1 hj)
          simpa using this
        have := (List.getElem?_eq_some_iff.1 hij).1
        omega
      have hx := List.getElem?_eq_getElem hord
      obtain ⟨j', q1, q2⟩ := g2 i _ hx
      rw [hij] at q1; obtain rfl := Option.some.inj q1
      rw [ho] at q2; obtain rfl := Option.some.inj q2
      have hkj : kc ≠ j := fun h => by subst h; rw [hk] at hDj; cases hDj
      exact stepD hτ H.nd g2 g3 hcl hx hij hlt (g4 i _ hi hx) hDj haft R fun a' w' R' => ih _ a' w' (by simpa using hsz) hcl' hct' (.inr ⟨by rw [hset, if_neg hkj]; exact hk, L, d', g1, g2, g3, g4, g5, R'⟩)
end
end Go.Proofs.YtikegeligblekaaGreat.M

/- A machine of values: regions that draw their order with a deep call, in the engine's form. No condition. -/
namespace Go.Proofs.YtikegeligblekaaGreat.M
open Go
set_option linter.unusedSimpArgs false
set_option linter.unusedVariables false
set_option linter.unusedSectionVars false

def depO (ops : Array Oper) : List Nat → List Nat → Bool
  | _, [] => true
  | done, j :: r => (match ops[j]? with | some o => o.after.toList.all (fun e => !Region.binds .any e || done.contains e.on) | none => true) && depO ops (j :: done) r
def statO (ord : List Nat) (ops : Array Oper) (k kc : Nat) : Bool :=
  nodupB ord && ord.all (fun j => decide (j < ops.size)) && (List.range ops.size).all (fun j => ord.contains j) && depO ops [] ord &&
    (ord.drop (k + 1)).all (fun j => match ops[j]? with | some o => depF ops 4 o kc | none => false) && (ord[k]? == some kc)
def apO (ops : Array Oper) : List (Nat × Oper × List Nat × List Nat) → Bool
  | [] => true
  | x :: r => r.all (fun y => apartB ops x.2 y.2 || depF ops 4 y.2.1 x.1) && apO ops r
/-- The operations in the order that is walked. -/
def inO (l : List Oper) (o : Oper) (ord : List Nat) : List Oper := ord.map fun j => l.getD j o
def apcO (ops : Array Oper) (oc : Oper) (l : List (Nat × Oper)) : Bool := l.all fun x => depF ops 4 oc x.1 || (match x.2.dst with | some t => !(looks ops oc).contains t | none => true)
def endDr (l : List Oper) (o : Oper) (ord : List Nat) (Q : X → St → De → Prop) (d : De) (lg : Log) (s : St) : Prop := apO l.toArray (ord.zip ((inO l o ord).zip lg.reverse)) = true ∧ act (Q .normal s d)
def restDr (P : Program) (τ : Tab) (md : Nat → Md) (l : List Oper) (o : Oper) (ord : List Nat) (k : Nat) (lg : Log) (s : St) (Q : X → St → De → Prop) (av : AV) (d : De) : Prop :=
  act (DOps P τ md l.toArray (inO l o (ord.drop (k + 1))) (s.nx + 16) (s.set o.dst av) ((rdO s o, []) :: lg) (endDr l o ord Q d))
def callDr (P : Program) (τ : Tab) (md : Nat → Md) (l : List Oper) (o : Oper) (f : FuncId) (xs : List (Operand × TypeId)) (ord : List Nat) (k : Nat) (d : De) (Q : X → St → De → Prop) (lg : Log) (s : St) : Prop :=
  (apO l.toArray ((ord.take k).zip ((inO l o (ord.take k)).zip lg.reverse)) = true ∧ apcO l.toArray o ((ord.take k).zip (inO l o (ord.take k))) = true) ∧ wantA l.toArray s o = some true ∧
    DCall P [] f (xs.map fun x => s.eval τ x.2 x.1) d (restDr P τ md l o ord k lg s Q)

section
variable {P : Program} {τ : Tab} {md : Nat → Md} {Γ0 Γ : Ctx} {al al' : Nat → Prop} {s s0 : St} {a : Act} {w w' : World} {μ : Nat → Option Pl} {d d' : De} {ops : Array Oper} {ord : List Nat} {L : List (Oper × Out)} {n : Nat} {Q : X → St → De → Prop}
theorem depO_ok : ∀ {r done : List Nat}, depO ops done r = true → ∀ (i j : Nat) o, r[i]? = some j → ops[j]? = some o → ∀ e ∈ o.after, Region.binds .any e = true → e.on ∈ done ∨ ∃ i', i' < i ∧ r[i']? = some e.on
  | [], _, _, i, j, o, h, _, _, _, _ => by simp at h
  | q :: r, done, hd, i, j, o, h, ho, e, he, hb => by
    simp only [depO, Bool.and_eq_true] at hd
    obtain ⟨h1, h2⟩ := hd
    cases i with
    | zero =>
      obtain rfl : q = j := by simpa using h
      rw [ho] at h1
      have := List.all_eq_true.1 h1 e (by simpa using he)
      simp only [hb, Bool.not_true, Bool.false_or, List.contains_eq_mem, decide_eq_true_eq] at this
      exact .inl this
    | succ i =>
      rcases depO_ok h2 i j o (by simpa using h) ho e he hb with hh | ⟨i', g1, g2⟩
      · rcases List.mem_cons.1 hh with hh | hh
        · exact .inr ⟨0, by omega, by simp [hh]⟩
        · exact .inl hh
      · exact .inr ⟨i' + 1, by omega, by simpa using g2⟩
theorem apO_ok : ∀ {xs : List (Nat × Oper × Out)}, apO ops (xs.map fun x => (x.1, x.2.1, entry x.2.2)) = true → ∀ (i i' : Nat) x y, i < i' → xs[i]? = some x → xs[i']? = some y → Path ops x.1 y.2.1 ∨ Apart ops x.2 y.2
  | [], _, i, i', x, y, _, h, _ => by simp at h
  | z :: r, hh, i, i', x, y, hlt, hx, hy => by
    simp only [List.map_cons, apO, Bool.and_eq_true] at hh
    obtain ⟨h1, h2⟩ := hh
    cases i' with
    | zero => omega
    | succ i' =>
      cases i with
      | zero =>
        obtain rfl : z = x := by simpa using hx
        have hy' : r[i']? = some y := by simpa using hy
        have := List.all_eq_true.1 h1 (y.1, y.2.1, entry y.2.2) (List.mem_map.2 ⟨y, List.mem_of_getElem? hy', rfl⟩)
        rw [Bool.or_eq_true] at this
        rcases this with ha | hd
        · exact .inr (apartB_ok (x := z.2) (y := y.2) ha)
        · exact .inl (depF_ok hd)
      | succ i => exact apO_ok h2 i i' x y (by omega) (by simpa using hx) (by simpa using hy)
theorem upd_nx (u : List (Nat × Blk)) : ∀ (s : St) (m : Nat), St.upd { s with nx := m } u = { s.upd u with nx := m } := by
  induction u with
  | nil => intro s m; rfl
  | cons x r ih => intro s m; obtain ⟨i, b⟩ := x; rw [St.upd, St.upd]; exact ih { s with hp := put s.hp i b } m
theorem set_nx (s : St) (m : Nat) (dst : Option Nat) (v : AV) : St.set { s with nx := m } dst v = { s.set dst v with nx := m } := by
  unfold St.set
  cases dst with
  | none => rfl
  | some t => simp only; split <;> rfl
theorem step_nx (s : St) (m : Nat) (dst : Option Nat) (e : Out) : step { s with nx := m } dst e = { step s dst e with nx := m } := by rw [step, step, upd_nx, set_nx]
theorem stD_nx : ∀ (L : List (Oper × Out)) (D : Nat → Bool) (s : St) (m : Nat), stD D L { s with nx := m } = { stD D L s with nx := m }
  | [], D, s, m => rfl
  | x :: L, D, s, m => by
    rw [stD, stD]
    split
    · rw [step_nx, stD_nx L]
    · rw [stD_nx L]
theorem Fact_nx {x : Oper × Out} {m : Nat} (h : Fact P τ md ops x { s with nx := m } n) : Fact P τ md ops x s n := by
  rcases h with ⟨h1, h2, h3⟩ | ⟨h1, h2, h3⟩
  · refine .inl ⟨h1, h2, fun K' hK => ?_⟩
    have hA : Agree ops x.1 { s with nx := m } s := ⟨fun _ _ => rfl, fun _ _ => rfl⟩
    rw [op_frame hA]; exact h3 K' hK
  · exact .inr ⟨h1, h2, h3⟩
theorem zip_log {l : List Oper} {es : List Out} {idx : List Nat} : idx.zip (l.zip (es.map entry)) = (idx.zip (l.zip es)).map fun x => (x.1, x.2.1, entry x.2.2) := by
  rw [List.zip_map_right, List.zip_map_right]
  apply List.map_congr_left
  intro x _; rfl
theorem inO_get {l : List Oper} {o : Oper} {ord : List Nat} (hall : ∀ j ∈ ord, j < l.length) {i : Nat} {x : Oper} (h : (inO l o ord)[i]? = some x) : ∃ j, ord[i]? = some j ∧ l[j]? = some x := by
  unfold inO at h
  rw [List.getElem?_map, Option.map_eq_some_iff] at h
  obtain ⟨j, h1, h2⟩ := h
  have hj := hall j (List.mem_of_getElem? h1)
  refine ⟨j, h1, ?_⟩
  rw [List.getD_eq_getElem?_getD, List.getElem?_eq_getElem hj] at h2
  rw [List.getElem?_eq_getElem hj, ← h2]; rfl
theorem WWD_draw (hτ : TOk P τ) (hm : P.follows .mixedOrders = true) (md : Nat → Md) {id : Nat} {l : List Oper} (ord : List Nat) (k kc : Nat) {o : Oper} {f : FuncId} {xs : Array Operand} {ts : Array TypeId} (ho : l[kc]? = some o) (hop : o.op = .call ⟨.value (.func f), xs, ts⟩) (hlen : xs.toList.length = ts.toList.length)
    (hst : statO ord l.toArray k kc = true) {x : Shut (Code.region id l.toArray true)} {y : Shut d} {z : Shut Q}
    (h : act (DOps P τ md l.toArray (inO l o (ord.take k)) s.nx s [] (callDr P τ md l o f (xs.toList.zip ts.toList) ord k d Q))) : WWDE P (.region id l.toArray true) s d Q x y z := fun Γ0 a w R => by
  simp only [statO, Bool.and_eq_true, List.all_eq_true, decide_eq_true_eq, beq_iff_eq, List.contains_eq_mem, List.mem_range, List.size_toArray] at hst
  obtain ⟨⟨⟨⟨⟨s1, s2⟩, s3⟩, s4⟩, s5⟩, s6⟩ := hst
  have hnd := nodup_of_B s1
  have hall : ∀ j, j ∈ ord ↔ j < l.length := fun j => ⟨s2 j, s3 j⟩
  have hk : k < ord.length := (List.getElem?_eq_some_iff.1 s6).1
  have hol : ord.length = l.length := by
    have h1 := hnd.length_le_of_subset (l₂ := List.range l.length) fun j hj => List.mem_range.2 (s2 j hj)
    have h2 := (List.nodup_range (n := l.length)).length_le_of_subset (l₂ := ord) fun j hj => s3 j (List.mem_range.1 hj)
    simp only [List.length_range] at h1 h2
    omega
  have hops : ∀ j : Nat, l.toArray[j]? = l[j]? := fun j => List.getElem?_toArray
  obtain ⟨es1, a1, a2, ⟨⟨a3, a3'⟩, a4, a5⟩⟩ := DOps_run (inO l o (ord.take k)) s.nx s [] _ h
  have hl1 : (inO l o (ord.take k)).length = k := by simp [inO]; omega
  have hes1 : es1.length = k := by rw [a1, hl1]
  generalize hL1 : (inO l o (ord.take k)).zip es1 = L1 at a2 a4 a5
  have hL1l : L1.length = k := by rw [← hL1]; simp [hl1, hes1]
  rw [List.append_nil, List.reverse_reverse, zip_log, hL1] at a3
  have htk : ∀ (i j : Nat), (ord.take k)[i]? = some j → ord[i]? = some j := fun i j hh => by
    rw [List.getElem?_take] at hh; split at hh
    · exact hh
    · cases hh
  have hget1 : ∀ (i : Nat) q, L1[i]? = some q → ∃ j, (ord.take k)[i]? = some j ∧ l[j]? = some q.1 := fun i q hq => by
    rw [← hL1] at hq
    obtain ⟨g1, g2⟩ := List.getElem?_zip_eq_some.1 hq
    exact inO_get (fun j hj => s2 j (List.mem_of_mem_take hj)) g1
  have hap1 : ∀ (i i' : Nat) p q, i < i' → L1[i]? = some p → L1[i']? = some q → (∃ j, ord[i]? = some j ∧ Path l.toArray j q.1) ∨ Apart l.toArray p q := fun i i' p q hlt hp hq => by
    obtain ⟨j, j1, _⟩ := hget1 i p hp
    obtain ⟨j', j1', _⟩ := hget1 i' q hq
    rcases apO_ok a3 i i' (j, p) (j', q) hlt (by rw [List.getElem?_zip_eq_some]; exact ⟨j1, hp⟩) (by rw [List.getElem?_zip_eq_some]; exact ⟨j1', hq⟩) with h | h
    · exact .inl ⟨j, htk _ _ j1, h⟩
    · exact .inr h
  have H : DrawD P τ md l.toArray ord L1 kc o s s.nx d (restDr P τ md l o ord k ((es1.map entry).reverse ++ []) { stD (fun _ => true) L1 s with nx := s.nx + 16 * (inO l o (ord.take k)).length } Q) := by
    refine ⟨hnd, fun j => by rw [hall]; simp, by rw [hL1l]; exact s6, by rw [hops]; exact ho, fun i q hq => ?_, a2, hap1, fun i q hq => ?_, fun i j p hij hp e he hb => ?_, fun i j p hi hij hp => ?_, a4, f, xs, ts, hop, hlen, a5⟩
    · obtain ⟨j, j1, j2⟩ := hget1 i q hq
      exact ⟨j, htk _ _ j1, by rw [hops]; exact j2⟩
    · obtain ⟨j, j1, j2⟩ := hget1 i q hq
      have hz : (ord.take k |>.zip (inO l o (ord.take k)))[i]? = some (j, q.1) := by
        rw [List.getElem?_zip_eq_some]
        rw [← hL1] at hq
        exact ⟨j1, (List.getElem?_zip_eq_some.1 hq).1⟩
      have := List.all_eq_true.1 a3' (j, q.1) (List.mem_of_getElem? hz)
      rw [Bool.or_eq_true] at this
      rcases this with hh | hh
      · exact .inl ⟨j, htk _ _ j1, depF_ok hh⟩
      · refine .inr fun t ht => ?_
        rw [ht] at hh
        simpa using hh
    · rcases depO_ok s4 i j p hij hp e he hb with hh | hh
      · cases hh
      · exact hh
    · rw [hL1l] at hi
      have hm2 : j ∈ ord.drop (k + 1) := by
        refine List.mem_of_getElem? (i := i - (k + 1)) ?_
        rw [List.getElem?_drop, show k + 1 + (i - (k + 1)) = i by omega]; exact hij
      have := s5 j hm2
      rw [hp] at this
      exact depF_ok this
  obtain ⟨Γ, r, μ, R, D⟩ := R
  refine wp_region_any hm ?_
  have hm0 := R.mem.grow (w' := { w with drawn := w.drawn + 1 }) (Fr.of _ _ _ rfl rfl rfl (Nat.le_refl _) fun _ _ => rfl) (al' := (· < s.nx)) (fun i hi => hi)
  have R0 : Rel Γ (· < s.nx) s a { w with drawn := w.drawn + 1 } μ := ⟨hm0.1, R.size, fun t => (R.tmp t).mono hm0.2, R.defers⟩
  have e1 : onD ord (Array.replicate l.toArray.size false) = fun _ : Nat => false := by
    funext i; unfold onD
    cases ord[i]? with
    | none => rfl
    | some j => simp only; by_cases hj : j < l.length <;> simp [hj]
  refine anyD (Γ0 := Γ0) (md := md) hτ H (Q := fun s' d' => Q .normal { s' with nx := s.nx + 16 * l.length } d') (fun av d' hK => ?_) (fun s' d' a w hq R' => ?_) _ _ a _ (by simp) (fun j o' _ hj => ?_) (by simp [Array.toList_replicate]) (.inl ⟨?_, ?_⟩)
  · -- behind the call
    obtain ⟨es2, b1, b2, b3, b4⟩ := DOps_run (inO l o (ord.drop (k + 1))) _ _ _ _ hK
    have hl2 : (inO l o (ord.drop (k + 1))).length = l.length - (k + 1) := by simp [inO]; omega
    generalize hL2 : (inO l o (ord.drop (k + 1))).zip es2 = L2 at b2 b4
    have hL2l : L2.length = l.length - (k + 1) := by rw [← hL2]; simp [hl2, b1]
    generalize hrd : rdO { stD (fun _ => true) L1 s with nx := s.nx + 16 * (inO l o (ord.take k)).length } o = rd at b3
    have hLL : inO l o ord = inO l o (ord.take k) ++ (o :: inO l o (ord.drop (k + 1))) := by
      have h1 : ord = ord.take k ++ (kc :: ord.drop (k + 1)) := by
        obtain ⟨h2, h3⟩ := List.getElem?_eq_some_iff.1 s6
        rw [← h3, List.getElem_cons_drop, List.take_append_drop]
      have h4 : l.getD kc o = o := by rw [List.getD_eq_getElem?_getD, ho]; rfl
      unfold inO
      conv => lhs; rw [h1]
      rw [List.map_append, List.map_cons, h4]
    have hzip : (inO l o ord).zip (es1 ++ ⟨av, [], rd⟩ :: es2) = L1 ++ (o, ⟨av, [], rd⟩) :: L2 := by
      rw [hLL, List.zip_append (by rw [hl1, hes1]), List.zip_cons_cons, hL1, hL2]
    have hlog : ((es2.map entry).reverse ++ ((rd, []) :: ((es1.map entry).reverse ++ []))).reverse = (es1 ++ ⟨av, [], rd⟩ :: es2).map entry := by
      simp [entry]
    have b3' : apO l.toArray (ord.zip ((inO l o ord).zip ((es1 ++ ⟨av, [], rd⟩ :: es2).map entry))) = true := by
      rw [← hlog]; exact b3
    rw [zip_log, hzip] at b3'
    have hgetA : ∀ (i : Nat) q, (L1 ++ (o, ⟨av, [], rd⟩) :: L2)[i]? = some q → ∃ j, ord[i]? = some j ∧ l[j]? = some q.1 := fun i q hq => by
      rw [← hzip] at hq
      obtain ⟨g1, g2⟩ := List.getElem?_zip_eq_some.1 hq
      exact inO_get s2 g1
    have hst1 : stD (fun _ => true) (L1 ++ (o, ⟨av, [], rd⟩) :: L2) s = stD (fun _ => true) L2 ((stD (fun _ => true) L1 s).set o.dst av) := by
      rw [stD_app, stD, if_pos rfl]; rfl
    refine ⟨L2, rd, by simp [hL1l, hL2l]; omega, fun i q hq => ?_, fun i i' p q hlt hp hq => ?_, fun i q hi hq => ?_, ?_⟩
    · obtain ⟨j, j1, j2⟩ := hgetA i q hq
      exact ⟨j, j1, by rw [hops]; exact j2⟩
    · obtain ⟨j, j1, _⟩ := hgetA i p hp
      obtain ⟨j', j1', _⟩ := hgetA i' q hq
      rcases apO_ok b3' i i' (j, p) (j', q) hlt (by rw [List.getElem?_zip_eq_some]; exact ⟨j1, hp⟩) (by rw [List.getElem?_zip_eq_some]; exact ⟨j1', hq⟩) with h | h
      · exact .inl ⟨j, j1, h⟩
      · exact .inr h
    · rw [hL1l] at hi
      rcases Nat.lt_or_ge i k with hik | hik
      · rw [List.getElem?_append_left (by omega)] at hq
        have e2 : stD (fun m => decide (m < i)) (L1 ++ (o, ⟨av, [], rd⟩) :: L2) s = stD (fun m => decide (m < i)) L1 s := by
          rw [stD_app]
          have : (fun j => decide (j + L1.length < i)) = fun _ => false := by funext j; simp; omega
          rw [this, stD_none]
        rw [e2]
        exact a2 i q hq
      · have hik' : k + 1 ≤ i := by omega
        rw [List.getElem?_append_right (by omega), hL1l, show i - k = (i - (k + 1)) + 1 by omega, List.getElem?_cons_succ] at hq
        have hF := b2 _ q hq
        have e2 : stD (fun m => decide (m < i)) (L1 ++ (o, ⟨av, [], rd⟩) :: L2) s = stD (fun m => decide (m < i - (k + 1))) L2 ((stD (fun _ => true) L1 s).set o.dst av) := by
          rw [stD_app, stD, if_pos (by rw [Nat.zero_add, hL1l]; simp; omega)]
          have e3 : stD (fun m => decide (m < i)) L1 s = stD (fun _ => true) L1 s := stD_same L1 _ _ _ fun m hm => by simp; omega
          rw [e3]
          have e4 : (fun j => decide (j + 1 + L1.length < i)) = fun j => decide (j < i - (k + 1)) := by
            funext j
            rw [hL1l]
            by_cases hj : j < i - (k + 1)
            · rw [decide_eq_true hj, decide_eq_true (by omega)]
            · rw [decide_eq_false hj, decide_eq_false (by omega)]
          rw [e4]; rfl
        rw [e2]
        have e5 : s.nx + 16 * i = s.nx + 16 * (inO l o (ord.take k)).length + 16 + 16 * (i - (k + 1)) := by rw [hl1]; omega
        rw [e5]
        rw [set_nx, stD_nx] at hF
        exact Fact_nx hF
    · rw [hst1]
      rw [set_nx, stD_nx] at b4
      have e6 : s.nx + 16 * (inO l o (ord.take k)).length + 16 + 16 * (inO l o (ord.drop (k + 1))).length = s.nx + 16 * l.length := by rw [hl1, hl2]; omega
      dsimp only at b4
      rw [e6] at b4
      exact b4
  · obtain ⟨Γ, r, μ, R', D⟩ := R'
    refine ⟨.normal, _, d', trivial, hq, Γ, r, μ, ?_, D⟩
    have hal : (alD s.nx fun j => decide (j < l.toArray.size)) = (· < s.nx + 16 * l.length) := by
      funext k
      simp only [alD, eq_iff_iff, decide_eq_true_eq, List.size_toArray]
      constructor
      · rintro (h | ⟨j, h1, h2⟩) <;> omega
      · intro h
        rcases Nat.lt_or_ge k s.nx with hk | hk
        · exact .inl hk
        · exact .inr ⟨(k - s.nx) / 16, by omega, by omega, by omega⟩
    rw [hal] at R'
    exact ⟨R'.mem, R'.size, R'.tmp, R'.defers⟩
  · exfalso
    by_cases hjl : j < l.length <;> simp [hjl] at hj
  · by_cases hj : kc < l.length <;> simp [hj]
  · rw [e1, stD_none]
    have hal : (alD s.nx fun _ => false) = (· < s.nx) := by funext k; simp [alD]
    rw [hal]
    exact ⟨Γ, r, μ, R0, D⟩
theorem act_callDr {l : List Oper} {o : Oper} {f : FuncId} {xs : List (Operand × TypeId)} {k : Nat} {lg : Log} : act (callDr P τ md l o f xs ord k d Q lg s) =
    ((apO l.toArray ((ord.take k).zip ((inO l o (ord.take k)).zip lg.reverse)) = true ∧ apcO l.toArray o ((ord.take k).zip (inO l o (ord.take k))) = true) ∧ wantA l.toArray s o = some true ∧ DCall P [] f (xs.map fun x => s.eval τ x.2 x.1) d (restDr P τ md l o ord k lg s Q)) := (rfl)
theorem act_endDr {l : List Oper} {o : Oper} {lg : Log} : act (endDr l o ord Q d lg s) = (apO l.toArray (ord.zip ((inO l o ord).zip lg.reverse)) = true ∧ act (Q .normal s d)) := (rfl)
end
attribute [go_sem] act_callDr act_endDr inO List.getD_cons_zero List.getD_cons_succ
end Go.Proofs.YtikegeligblekaaGreat.M

/- A machine of values: a nil list told as one's own empty list, with deep trees beside it. No condition. -/
namespace Go.Proofs.YtikegeligblekaaGreat.M
open Go
set_option linter.unusedSimpArgs false
set_option linter.unusedVariables false
section
variable {P : Program} {c : Code} {s : St} {d : De} {Q : X → St → De → Prop}
/-- What a base step tells of the state alone holds with deep trees beside it. -/
theorem WWD_told {s2 : St} {x : Shut c} {y : Shut d} {z : Shut Q} (h0 : ∀ {Γ : Ctx} {a : Act} {w : World} {μ : Nat → Option Pl}, Rel Γ (· < s.nx) s a w μ → ∃ μ', Rel Γ (· < s2.nx) s2 a w μ') (h : WWDE P c s2 d Q .one .one .one) : WWDE P c s d Q x y z := fun Γ0 a w ⟨Γ, r, μ, R, D⟩ => by
  obtain ⟨μ', R'⟩ := h0 R
  exact h Γ0 a w ⟨Γ, r, μ', R', D⟩
theorem WWD_nilbox {x : Shut c} {y : Shut d} {z : Shut Q} (b j sz K : Nat) {cs : List C} (hb : find s.hp b = some (.box cs)) (hj : cs[j]? = some (.nil sz)) (hK : s.nx ≤ K)
    (h : WWDE P c { s with hp := put (put s.hp K (.arr sz [] 0)) b (.box (cs.set j (.own K 0 0 0))), nx := K + 1 } d Q .one .one .one) : WWDE P c s d Q x y z := by
  refine WWD_told (fun {Γ a w μ} R => ?_) h
  exact nilbox_rel b j sz K hb hj hK R
end
end Go.Proofs.YtikegeligblekaaGreat.M

/- A machine of values: functions that write into a deep tree's list that is lent to them; contracts without deep trees told as such with them. No condition. -/
namespace Go.Proofs.YtikegeligblekaaGreat.M
open Go
set_option linter.unusedSimpArgs false
set_option linter.unusedVariables false
set_option linter.unusedSectionVars false
def finO (sz : Nat) (es' : List T) (rs : List T) (rs' : List T) (os' : List (List BC)) (d : De) : Prop := ∃ esr' e dl rest, os' = [[.arr sz esr']] ∧ RAL rs' rs e ∧ RT (.list sz esr') (.list sz es') dl ∧ d.Perm (e ++ (dl ++ rest))
def finOE (τ : Tab) (rl : List ResultVar) (sz : Nat) (esr es' : List T) (x : T) (rs : List T) (s : St) (d : De) : Prop := ∃ rs' os', retE τ true rl [.ln sz esr, .v x] s rs' os' ∧ finO sz es' rs rs' os' d
def endO (τ : Tab) (rl : List ResultVar) (sz : Nat) (esr es' : List T) (x : T) (rs : List T) (xx : X) (s : St) (d : De) : Prop :=
  match xx with
  | .exit _ => False
  | _ => finOE τ rl sz esr es' x rs s d
section
variable {P : Program} {τ : Tab} {c : Code} {w w' : World} {S : Addr → Option Value}
theorem act_endO_ret {rl : List ResultVar} {sz : Nat} {esr es' : List T} {x : T} {rs : List T} {s : St} {d : De} : act (endO τ rl sz esr es' x rs .ret s d) = finOE τ rl sz esr es' x rs s d := (rfl)
theorem act_endO_normal {rl : List ResultVar} {sz : Nat} {esr es' : List T} {x : T} {rs : List T} {s : St} {d : De} : act (endO τ rl sz esr es' x rs .normal s d) = finOE τ rl sz esr es' x rs s d := (rfl)
theorem sc_RCrL : ∀ {ts xs : List T} {d : De}, RCrL ts xs d → ∀ x ∈ xs, x.scal = true
  | [], xs, d, h, x, hx => by obtain ⟨h1, _⟩ := h; subst h1; cases hx
  | t :: ts, xs, d, h, x, hx => by
    obtain ⟨x', xs', d1, d2, rfl, rfl, h1, h2⟩ := h
    rcases List.mem_cons.1 hx with rfl | hx
    · unfold RCr at h1
      split at h1
      · obtain ⟨y, rfl, _⟩ := h1; rfl
      · obtain ⟨rfl, hs, _⟩ := h1; exact hs
    · exact sc_RCrL h2 x hx
theorem CSD_open (hτ : TOk P τ) {f : FuncId} {fn : Func} {N : Nat} (hf : P.funcs[f]? = some fn) (hb : fn.body = some c) (hname : (fn.name == "runtime.NumGoroutine") = false) (hN : fn.ntmps = N) {rl : List ResultVar} (hrl : fn.results.toList = rl) (hlen : 2 ≤ N)
    {sz : Nat} {es es' : List T} {x : T} {rs : List T} (hx : x.scal = true)
    {ι : Type} (E : ι → List T) (Di : ι → De) (hcut : ∀ xs d, RCrL (flat es) xs d → ∃ i, flat (E i) = xs ∧ Di i = d ∧ (E i).length = es.length ∧ ∀ e ∈ E i, e.cells.length = sz)
    (h : ∀ i, WWDE P c (initS N [.ln sz (E i), .v x]) (Di i) (endO τ rl sz (E i) es' x rs) .one .one .one)
    (h0 : es = [] → es' = [] ∧ WWDE P c (initS N [.v (.list sz []), .v x]) [] (endD τ rl [.v (.list sz []), .v x] rs [] []) .one .one .one) : CSD P f [.l (.list sz es) (.list sz es'), .b (.v x)] rs [] := by
  intro G w vals rb rd hA hD hnd hbs hG
  obtain ⟨v, vals', r1, r2, rfl, rfl, hDA, v1, vals'', rfl, rfl, rfl⟩ := hD
  have hDA : DH w (.list sz es) v r1 := hDA
  obtain ⟨u, us, q1, q2, eq, rfl, ⟨rfl, hHx⟩, rfl, rfl⟩ := hA
  obtain rfl : v1 = u := by simpa [bV] using eq
  simp only [List.append_nil, List.nil_append] at hnd hbs ⊢
  cases hDA with
  | sc _ _ hs _ => simp [T.scal] at hs
  | nil _ q =>
    -- nothing is lent
    obtain ⟨he', hW⟩ := h0 rfl
    subst he'
    have hC : CSD P f ([AA.v (.list sz []), .v x].map DArg.b) rs [] := CSD_views hτ hf hb hname hN hrl (by simpa using hlen) hW
    have hnil : Hold (inV G w) (.list sz []) (.slice q 0 0) := DH.hold (.nil sz q) (by simp)
    have := hC G w [.slice q 0 0, v1] [] [] ⟨_, _, [], [], rfl, rfl, ⟨rfl, hnil⟩, _, _, [], [], rfl, rfl, ⟨rfl, hHx⟩, rfl, rfl⟩ ⟨_, _, rfl, _, _, rfl, rfl, rfl⟩ (by simp) (by simp) hG
    have imp : ∀ v w', (∃ r1 r2 r3, Fr ([] ++ []) w w' ∧ DRes w' rs v r1 ∧ OutsOk (inV (fun b => G b ∨ (w.heap.size ≤ b ∨ b ∈ ([] : List Nat) ++ []) ∧ b ∉ r1 ++ (r2 ++ r3)) w') w' (bA ([AA.v (.list sz []), .v x].map DArg.b)) (bV ([AA.v (.list sz []), .v x].map DArg.b) [.slice q 0 0, v1]) [] r2 ∧
        DLs w' true ([AA.v (.list sz []), .v x].map DArg.b) [.slice q 0 0, v1] r3 ∧ (r1 ++ (r2 ++ r3)).Nodup ∧ ∀ b ∈ r1 ++ (r2 ++ r3), b < w'.heap.size ∧ (b ∈ ([] : List Nat) ++ [] ∨ w.heap.size ≤ b)) →
        ∃ r1 r2 r3, Fr [] w w' ∧ DRes w' rs v r1 ∧ OutsOk (inV (fun b => G b ∨ (w.heap.size ≤ b ∨ b ∈ ([] : List Nat)) ∧ b ∉ r1 ++ (r2 ++ r3)) w') w' [.v x] [v1] [] r2 ∧ DLs w' true [.l (.list sz []) (.list sz []), .b (.v x)] [.slice q 0 0, v1] r3 ∧
          (r1 ++ (r2 ++ r3)).Nodup ∧ ∀ b ∈ r1 ++ (r2 ++ r3), b < w'.heap.size ∧ (b ∈ ([] : List Nat) ∨ w.heap.size ≤ b) := fun v w' ⟨r1, r2, r3, c1, c2, c3, c4, c5, c6⟩ => by
      obtain ⟨_, _, e1, _, _, e2, e3, e4⟩ := c4
      subst e4
      have c3' : ([] : List (List BC)) = [] ∧ r2 = [] := c3
      obtain ⟨_, rfl⟩ := c3'
      exact ⟨r1, [], [], c1, c2, ⟨rfl, rfl⟩, ⟨_, _, [], [], rfl, rfl, .nil sz q, _, _, rfl, rfl, rfl⟩, c5, fun b hb => c6 b hb⟩
    rcases this with ⟨hrun, hcalls⟩ | ⟨v, w', hrun, hv⟩
    · exact .inl ⟨hrun, hcalls.mono fun e w' ⟨v, he, hv⟩ => ⟨v, he, imp v w' hv⟩⟩
    · exact .inr ⟨v, w', hrun, imp v w' hv⟩
  | list _ _ b base cap room vs rss hcap hroom hsz hvr hv hfz hl hl2 hd =>
    subst hN hrl
    have hname' : ¬ fn.name = "runtime.NumGoroutine" := by simpa using hname
    refine .inl ⟨by simp [callFunc, hf, hname', hb], ?_⟩
    obtain ⟨xs, din, k1, k2, k3⟩ := RCrL_of (DHL_of hl hl2 hd)
    obtain ⟨ix, g1, rfl, g2, g3⟩ := hcut xs din k1
    have h := h ix
    generalize E ix = esr at g1 g2 g3 h
    generalize Di ix = din at k1 k3 h
    rw [← g1] at k1 k2
    have hsc : Sc esr := fun t ht => sc_RCrL k1 t ht
    have hln : LnOk (inV G w) w sz esr (.slice (some ⟨b, base, none⟩) es.length cap) [b] := by
      rw [← g2]
      exact ⟨b, base, room, cap, rfl, rfl, by omega, hroom, hsc, vs, k2 _, hv, g3, hvr, hfz⟩
    have hnd1 := List.nodup_cons.1 hnd
    obtain ⟨pin, μ, R, hpin⟩ := entry_rel (N := fn.ntmps) (args := [.ln sz esr, .v x]) (vals := [.slice (some ⟨b, base, none⟩) es.length cap, v1]) (bs := [b]) (G := G) (w := w) ⟨_, _, [b], [], rfl, rfl, hln, _, _, [], [], rfl, rfl, ⟨rfl, hHx⟩, rfl, rfl⟩ (by simp) (fun q hq => hbs q (by simp at hq; simp [hq])) hlen
    have R0 : RelD ⟨fun q => G q ∨ w.heap.size ≤ q ∨ q ∈ b :: rss.flatten, w, b :: rss.flatten, pin⟩ (· < (initS fn.ntmps [.ln sz esr, .v x]).nx) (initS fn.ntmps [.ln sz esr, .v x]) din { tmps := #[.slice (some ⟨b, base, none⟩) es.length cap, v1] ++ Array.replicate (fn.ntmps - #[Value.slice (some ⟨b, base, none⟩) es.length cap, v1].size) undef, defers := [] } w :=
      ⟨_, rss.flatten, μ, R, ⟨rfl, Fr.refl _ _, fun q hq => .inl (by simp at hq; simp [hq]), fun q hq => by
        rcases hq with hq | hq | hq
        · exact .inl hq
        · exact .inr (.inl hq)
        · exact .inr (.inr (by simp at hq; simp [hq])), fun q hq => .inr (.inl hq), k3, hnd1.2, fun q hq => ⟨(hbs q (by simp only [List.mem_cons]; exact .inr hq)).1, fun h => by
          simp at h; subst h; exact hnd1.1 hq, fun h => by
          rcases h with h | h | h
          · exact (hbs q (by simp only [List.mem_cons]; exact .inr hq)).2 h
          · have := (hbs q (by simp only [List.mem_cons]; exact .inr hq)).1; omega
          · simp at h; subst h; exact hnd1.1 hq, .inl (by simp only [List.mem_cons]; exact .inr hq)⟩, fun q hq => .inr (.inr hq)⟩⟩
    refine calls_of_wp hf hb (wp_mono (h _ _ w R0) fun e a' w' ⟨xx, s', d', hxx, hq, R'⟩ => ?_)
    have fin : finOE τ fn.results.toList sz esr es' x rs s' d' → a'.defers = [] ∧ ∃ v, (results fn a'.tmps).run P w' = .ok v w' ∧ ∃ v2, Ending.returned v = .returned v2 ∧ ∃ r1 r2 r3, Fr (b :: rss.flatten) w w' ∧ DRes w' rs v2 r1 ∧
        OutsOk (inV (fun q => G q ∨ (w.heap.size ≤ q ∨ q ∈ b :: rss.flatten) ∧ q ∉ r1 ++ (r2 ++ r3)) w') w' [.v x] [v1] [] r2 ∧ DLs w' true [.l (.list sz es) (.list sz es'), .b (.v x)] [.slice (some ⟨b, base, none⟩) es.length cap, v1] r3 ∧
        (r1 ++ (r2 ++ r3)).Nodup ∧ ∀ q ∈ r1 ++ (r2 ++ r3), q < w'.heap.size ∧ (q ∈ b :: rss.flatten ∨ w.heap.size ≤ q) := fun hend => by
      obtain ⟨rs', os', hr, esr', e, dl, rest, ho, hal, hrt, hp⟩ := hend
      subst ho
      obtain ⟨Γ, r, μ', R', D⟩ := R'
      obtain ⟨v, r1, r2, h1, h2, h3, h4, h5⟩ := exit_ok hτ R' (by rw [D.pin]; exact hpin) (show retK τ true fn [.ln sz esr, .v x] s' (fun rs'' os'' => rs'' = rs' ∧ os'' = [[.arr sz esr']]) from hr)
      have hdw : DD w' d' r := D.dd.frame R'.mem.fr fun b hb => ⟨(D.out b hb).1, (D.out b hb).2.1⟩
      obtain ⟨q, hq, hd⟩ := hdw.perm hp
      obtain ⟨re, q2, rfl, hde, hd⟩ := hd.app
      obtain ⟨ro, rx, rfl, hdo, _⟩ := hd.app
      obtain ⟨r1', hp1, hres⟩ := Res_deep h2 hal hde
      obtain ⟨es'', os'', ra, rb, eo, hel, rfl, hln', eos, rfl⟩ := h3
      simp only [List.cons.injEq, and_true, BC.arr.injEq, true_and] at eo
      obtain ⟨rfl, rfl⟩ := eo
      obtain ⟨b', base', room', cap', rfl, ev, i1, i2, i3, i4⟩ := hln'
      obtain ⟨r3, hp3, hdh⟩ := RT_deep (S := _) (w := w') (x := .list sz esr') (v := .slice (some ⟨b, base, none⟩) es.length cap) (r1 := [b']) (show BCOk _ w' (.arr sz esr') _ [b'] from .inr ⟨b', base', room', cap', rfl, ev, i1, i2, i3, i4⟩) hrt hdo
      rw [List.append_nil] at h4 h5
      have hout : ∀ q ∈ re ++ ro, q < w'.heap.size ∧ ¬ Γ.G q ∧ (q ∈ b :: rss.flatten ∨ w.heap.size ≤ q) := fun q' hq' => by
        obtain ⟨g1, g2, g3, g4⟩ := D.out q' (hq.mem_iff.2 (by rcases List.mem_append.1 hq' with h | h <;> simp [h]))
        exact ⟨Nat.lt_of_lt_of_le g1 R'.mem.fr.size, g3, g4⟩
      have hqn : (re ++ (ro ++ rx)).Nodup := hq.nodup_iff.1 D.nd
      have hin : ∀ q ∈ r1 ++ [b'], Γ.G q := fun q hq => R'.mem.gd q (h5 q hq).2
      refine ⟨R'.defers, v, h1, v, rfl, r1', [], r3, D.fr.trans R'.mem.fr fun k hk hlt => ?_, hres, ⟨rfl, rfl⟩, ⟨_, _, r3, [], rfl, (List.append_nil _).symm, hdh, _, _, rfl, rfl, rfl⟩, ?_, fun q' hq' => ?_⟩
      · rcases D.own k hk with h | h
        · exact h
        · exact absurd hlt (Nat.not_lt.2 h)
      · rw [List.nil_append]
        have key : ((r1 ++ re) ++ ([b'] ++ ro)).Nodup := by
          have : ((r1 ++ [b']) ++ (re ++ ro)).Nodup := by
            refine List.nodup_append.2 ⟨h4, ?_, fun x hx y hy hxy => ?_⟩
            · rw [← List.append_assoc] at hqn
              exact (List.nodup_append.1 hqn).1
            · subst hxy; exact (hout x hy).2.1 (hin x hx)
          exact (perm4 (.refl _) (.refl _) : ((r1 ++ [b']) ++ (re ++ ro)).Perm _).nodup_iff.1 this
        exact ((hp1.append hp3).nodup_iff).2 key
      · rw [List.nil_append] at hq'
        have hb' : q' ∈ r1 ++ [b'] ∨ q' ∈ re ++ ro := by
          rcases List.mem_append.1 hq' with h | h
          · rcases List.mem_append.1 (hp1.mem_iff.1 h) with h | h <;> simp [h]
          · rcases List.mem_append.1 (hp3.mem_iff.1 h) with h | h
            · left; rw [List.mem_append]; exact .inr h
            · simp [h]
        rcases hb' with h | h
        · refine ⟨(h5 q' h).1, ?_⟩
          rcases (h5 q' h).2 with g | g
          · exact D.own q' g
          · exact .inr (Nat.le_trans D.fr.size g)
        · exact ⟨(hout q' h).1, (hout q' h).2.2⟩
    cases xx with
    | normal =>
      obtain rfl : e = .normal := by cases e <;> first | rfl | exact hxx.elim
      exact fin hq
    | exit j => exact hq.elim
    | ret =>
      obtain rfl : e = .ret := by cases e <;> first | rfl | exact hxx.elim
      exact fin hq
end
attribute [go_sem] act_endO_ret act_endO_normal
end Go.Proofs.YtikegeligblekaaGreat.M

/- A machine of values: a deep tree's list that stands in a box is opened (told as a list of one's own), and closed again. No condition. -/
namespace Go.Proofs.YtikegeligblekaaGreat.M
open Go
set_option linter.unusedSimpArgs false
set_option linter.unusedVariables false
set_option linter.unusedSectionVars false
section
variable {P : Program} {Γ0 Γ : Ctx} {s : St} {a : Act} {w : World} {μ : Nat → Option Pl} {d d' dr : De} {r r' : List Nat}
/-- A new era, with a block more that is one's own: one that no view lies in. -/
theorem era_new {al : Nat → Prop} (R : Rel Γ al s a w μ) (D : DInv Γ0 Γ d r) {K : Nat} (ha : ∀ i, al i → i < K) (b : Blk) (p : Option Pl) (hp1 : ∀ q, p = some q → q.b < w.heap.size ∧ ¬ Γ.G q.b ∧ (q.b ∈ Γ0.bs0 ∨ Γ0.w0.heap.size ≤ q.b))
    (hB : ∀ al hp S μ, BlkOk al hp S μ w b p) (hd : DD w d' r') (hnd : r'.Nodup) (hr : ∀ k ∈ r', k < w.heap.size ∧ ¬ Γ.G k ∧ (∀ q, p = some q → q.b ≠ k) ∧ (k ∈ Γ0.bs0 ∨ Γ0.w0.heap.size ≤ k)) :
    ∃ Γ', Rel Γ' (· < K + 1) { s with hp := put s.hp K b, nx := K + 1 } a w (setμ μ K p) ∧ DInv Γ0 Γ' d' r' := by
  obtain ⟨L, hL⟩ := liveL s.hp μ
  have hpl : ∀ k, k ∈ p.toList.map Pl.b ↔ ∃ q, p = some q ∧ q.b = k := fun k => by cases p <;> simp [eq_comm]
  have hlive : ∀ i q, live s.hp i → μ i = some q → q.b < w.heap.size ∧ Γ.G q.b := fun i q hi hm => by
    obtain ⟨g1, g2⟩ := R.mem.mine i q hi hm
    exact ⟨g1, R.mem.gd _ g2⟩
  have hfn : find s.hp K = none := by
    cases hh : find s.hp K with
    | none => rfl
    | some b => exact absurd (ha _ (R.mem.used _ _ hh)) (Nat.lt_irrefl _)
  have e : Ext al (· < K + 1) s.hp (put s.hp K b) (Sv Γ.G s.hp μ w) (Sv (fun k => (Γ.G k ∧ k < w.heap.size) ∨ w.heap.size ≤ k ∨ ∃ q, p = some q ∧ q.b = k) (put s.hp K b) (setμ μ K p) w) μ (setμ μ K p) := by
    have hne : ∀ i, al i → K ≠ i := fun i hi e => by have := ha i hi; omega
    refine ⟨fun i hi => Nat.lt_succ_of_lt (ha i hi), fun x v hv => ?_, fun i hi => ?_, fun i ver sz es' hi _ h' => ?_, fun i cs' hi h' => ?_⟩
    · rw [Sv_some] at hv ⊢
      refine ⟨⟨.inl ⟨hv.1.1, World.block_lt_of_cell? _ _ hv.2⟩, ?_⟩, hv.2⟩
      rintro ⟨i, q, hl, hq, hqb⟩
      rw [live_put] at hl
      by_cases hni : K = i
      · subst hni
        have := (hp1 q (by simpa [setμ] using hq)).2.1
        exact this (by rw [hqb]; exact hv.1.1)
      · rw [if_neg hni] at hl
        exact hv.1.2 ⟨i, q, hl, by simpa [setμ, Ne.symm hni] using hq, hqb⟩
    · rw [verOf_put_ne (hne i hi)]; exact Nat.le_refl _
    · rw [arrOf_put_ne (hne i hi)] at h'
      exact ⟨es', h', Nat.le_refl _, by simp [setμ, Ne.symm (hne i hi)]⟩
    · rw [find_put, if_neg (hne i hi)] at h'
      exact ⟨cs', h', by simp [setμ, Ne.symm (hne i hi)]⟩
  refine ⟨⟨fun k => (Γ.G k ∧ k < w.heap.size) ∨ w.heap.size ≤ k ∨ ∃ q, p = some q ∧ q.b = k, w, p.toList.map Pl.b ++ L, Γ.pin⟩,
    ⟨⟨Fr.refl _ _, fun k hk => ?_, fun i q hq => R.mem.pin' e i q hq, fun i b' hb' => ?_, fun i q hi hq => ?_, fun i j q q' hi hj hq hq' hqq => ?_, fun i b' hb' => ?_⟩, R.size, fun t => (R.tmp t).mono e, R.defers⟩,
    ⟨D.pin, ?_, fun k hk => ?_, fun k hk => ?_, D.g0, hd, hnd, fun k hk => ?_, D.gb⟩⟩
  · rcases hk with hk | hk
    · rcases List.mem_append.1 hk with hk | hk
      · exact .inr (.inr ((hpl k).1 hk))
      · obtain ⟨i, q, g1, g2, g3⟩ := (hL k).1 hk
        subst g3; exact .inl ⟨(hlive i q g1 g2).2, (hlive i q g1 g2).1⟩
    · exact .inr (.inl hk)
  · rw [find_put] at hb'
    by_cases hni : K = i
    · subst hni; exact Nat.lt_succ_self _
    · rw [if_neg hni] at hb'; exact Nat.lt_succ_of_lt (ha _ (R.mem.used i b' hb'))
  · rw [live_put] at hi
    by_cases hni : K = i
    · subst hni
      have hq : p = some q := by simpa [setμ] using hq
      exact ⟨(hp1 q hq).1, .inl (List.mem_append.2 (.inl ((hpl _).2 ⟨q, hq, rfl⟩)))⟩
    · rw [if_neg hni] at hi
      have hq : μ i = some q := by simpa [setμ, Ne.symm hni] using hq
      exact ⟨(hlive i q hi hq).1, .inl (List.mem_append.2 (.inr ((hL _).2 ⟨i, q, hi, hq, rfl⟩)))⟩
  · rw [live_put] at hi hj
    by_cases hni : K = i <;> by_cases hnj : K = j
    · omega
    · subst hni
      rw [if_neg hnj] at hj
      have hq : p = some q := by simpa [setμ] using hq
      have hq' : μ j = some q' := by simpa [setμ, Ne.symm hnj] using hq'
      exact absurd (by rw [hqq]; exact (hlive j q' hj hq').2) (hp1 q hq).2.1
    · subst hnj
      rw [if_neg hni] at hi
      have hq' : p = some q' := by simpa [setμ] using hq'
      have hq : μ i = some q := by simpa [setμ, Ne.symm hni] using hq
      exact absurd (by rw [← hqq]; exact (hlive i q hi hq).2) (hp1 q' hq').2.1
    · rw [if_neg hni] at hi
      rw [if_neg hnj] at hj
      exact R.mem.inj i j q q' hi hj (by simpa [setμ, Ne.symm hni] using hq) (by simpa [setμ, Ne.symm hnj] using hq') hqq
  · rw [find_put] at hb'
    by_cases hni : K = i
    · subst hni
      rw [if_pos rfl] at hb'
      obtain rfl := Option.some.inj hb'
      have : setμ μ K p K = p := by simp [setμ]
      rw [this]
      exact hB _ _ _ _
    · rw [if_neg hni] at hb'
      have : setμ μ K p i = μ i := by simp [setμ, Ne.symm hni]
      rw [this]
      exact BlkOk.mono e (fun _ _ _ _ => ⟨rfl, rfl⟩) (R.mem.blk i b' hb')
  · exact D.fr.trans R.mem.fr fun k hk hlt => by
      rcases D.own k hk with h | h
      · exact h
      · omega
  · rcases List.mem_append.1 hk with hk | hk
    · obtain ⟨q, hq, rfl⟩ := (hpl k).1 hk
      exact (hp1 q hq).2.2
    · obtain ⟨i, q, g1, g2, g3⟩ := (hL k).1 hk
      subst g3
      rcases (R.mem.mine i q g1 g2).2 with h | h
      · exact D.own _ h
      · exact .inr (Nat.le_trans D.fr.size h)
  · rcases hk with hk | hk | ⟨q, hq, rfl⟩
    · exact D.G k hk.1
    · exact D.g0 k (Nat.le_trans D.fr.size (Nat.le_trans R.mem.fr.size hk))
    · rcases (hp1 q hq).2.2 with h | h
      · exact D.gb _ h
      · exact D.g0 _ h
  · obtain ⟨k1, k2, k3, k4⟩ := hr k hk
    refine ⟨k1, fun h => ?_, fun h => ?_, k4⟩
    · rcases List.mem_append.1 h with h | h
      · obtain ⟨q, hq, hh⟩ := (hpl k).1 h
        exact k3 q hq hh
      · obtain ⟨i, q, g1, g2, g3⟩ := (hL k).1 h
        subst g3; exact k2 (hlive i q g1 g2).2
    · rcases h with h | h | ⟨q, hq, h⟩
      · exact k2 h.1
      · omega
      · exact k3 q hq h
/-- A box's cell is told anew. -/
theorem cell_val {al : Nat → Prop} (R : Rel Γ al s a w μ) {b j : Nat} {cs : List C} (hb : find s.hp b = some (.box cs)) {c : C} (hj : cs[j]? = some c) :
    ∃ v, v.oneCell' = true ∧ COk al s.hp (Sv Γ.G s.hp μ w) μ c v ∧ ∀ c', COk al s.hp (Sv Γ.G s.hp μ w) μ c' v → Rel Γ al { s with hp := put s.hp b (.box (cs.set j c')) } a w μ := by
  have M := R.mem
  have hB := M.blk _ _ hb
  cases hp : μ b with
  | none => rw [hp] at hB; exact hB.elim
  | some p =>
    rw [hp] at hB
    obtain ⟨h0, vs, hC, hcv⟩ := hB
    obtain ⟨u, hu⟩ : ∃ u, vs[j]? = some u := ⟨_, List.getElem?_eq_getElem (by rw [hC.1]; exact (List.getElem?_eq_some_iff.1 hj).1)⟩
    refine ⟨u, hC.2.1 u (List.mem_of_getElem? hu), hC.2.2 _ _ _ hj hu, fun c' hc => ?_⟩
    have hw : ∀ w : World, w.setCells p.b 0 [] = w := fun w => rfl
    have hcs : CsOk al s.hp (Sv Γ.G s.hp μ w) μ (cs.set j c') vs := by
      refine ⟨by rw [List.length_set]; exact hC.1, hC.2.1, fun i c0 v hi hv => ?_⟩
      rw [List.getElem?_set] at hi
      by_cases hij : j = i
      · subst hij
        rw [if_pos rfl] at hi
        split at hi
        · obtain rfl := Option.some.inj hi
          rw [hu] at hv
          obtain rfl := Option.some.inj hv
          exact hc
        · cases hi
      · rw [if_neg hij] at hi
        exact hC.2.2 _ _ _ hi hv
    obtain ⟨M2, e2⟩ := M.write (al' := al) (fun _ h => h) hb rfl (b' := .box (cs.set j c')) rfl hp 0 [] (by simp [verOf, find_put, hb]) (fun ver sz' es' _ hh => by simp [arrOf, find_put] at hh) (fun cs' _ => ⟨_, rfl⟩)
      ⟨h0, vs, hcs, fun i v hv => by rw [hw]; exact hcv i v hv⟩
    rw [hw] at M2 e2
    exact ⟨M2, R.size, fun t => (R.tmp t).mono e2, R.defers⟩
theorem cell_anew {al : Nat → Prop} (R : Rel Γ al s a w μ) {b j : Nat} {cs : List C} (hb : find s.hp b = some (.box cs)) {c c' : C} (hj : cs[j]? = some c) (hc : ∀ v, v.oneCell' = true → COk al s.hp (Sv Γ.G s.hp μ w) μ c v → COk al s.hp (Sv Γ.G s.hp μ w) μ c' v) :
    Rel Γ al { s with hp := put s.hp b (.box (cs.set j c')) } a w μ := by
  obtain ⟨v, h1, h2, h3⟩ := cell_val R hb hj
  exact h3 c' (hc v h1 h2)
/-- A list in a box, opened. -/
theorem WWD_openbox {c : Code} {Q : X → St → De → Prop} {x : Shut c} {z : Shut Q} {xd : Shut d} {y : Sl} {sz K b j : Nat} {es : List T} {cs : List C} (hp : d.Perm ((y, .list sz es) :: dr)) (hb : find s.hp b = some (.box cs)) (hj : cs[j]? = some (.t (.raw y))) (hK : s.nx ≤ K)
    {ι : Type} (E : ι → List T) (Di : ι → De) (hcut : ∀ xs d, RCrL (flat es) xs d → ∃ i, flat (E i) = xs ∧ Di i = d ∧ (E i).length = es.length ∧ ∀ e ∈ E i, e.cells.length = sz)
    (h : ∀ i, WWDE P c { s with hp := put (put s.hp K (.arr sz (E i) 0)) b (.box (cs.set j (.own K 0 0 es.length))), nx := K + 1 } (Di i ++ dr) Q .one .one .one) : WWDE P c s d Q x xd z := fun Γ0 a w hR => by
  obtain ⟨Γ, r, μ, R, D⟩ := hR
  have hdw : DD w d r := D.dd.frame R.mem.fr fun b hb => ⟨(D.out b hb).1, (D.out b hb).2.1⟩
  obtain ⟨r', hr', hd'⟩ := hdw.perm hp
  obtain ⟨r1, r2, rfl, h1, h2⟩ := hd'
  have hnd : (r1 ++ r2).Nodup := hr'.nodup_iff.1 D.nd
  have hsz : Γ.w0.heap.size ≤ w.heap.size := R.mem.fr.size
  have hout : ∀ k ∈ r1 ++ r2, k < w.heap.size ∧ ¬ Γ.G k ∧ (k ∈ Γ0.bs0 ∨ Γ0.w0.heap.size ≤ k) := fun k hk => by
    obtain ⟨g1, _, g3, g4⟩ := D.out k (hr'.mem_iff.2 hk)
    exact ⟨Nat.lt_of_lt_of_le g1 hsz, g3, g4⟩
  obtain ⟨q, n, cap⟩ := y
  have hbK : K ≠ b := fun hh => by have := R.mem.used _ _ hb; omega
  have fin : ∀ (i : ι) (p : Option Pl) (r' : List Nat), (E i).length = es.length → (∀ q, p = some q → q.b < w.heap.size ∧ ¬ Γ.G q.b ∧ (q.b ∈ Γ0.bs0 ∨ Γ0.w0.heap.size ≤ q.b)) → (∀ al hp S μ, BlkOk al hp S μ w (.arr sz (E i) 0) p) → DD w (Di i ++ dr) r' → r'.Nodup →
      (∀ k ∈ r', k < w.heap.size ∧ ¬ Γ.G k ∧ (∀ q, p = some q → q.b ≠ k) ∧ (k ∈ Γ0.bs0 ∨ Γ0.w0.heap.size ≤ k)) → SlOk p sz 0 es.length (.slice q n cap) → c.wp P (fun e a' w' => ∃ x s' d', x.is e ∧ Q x s' d' ∧ RelD Γ0 (· < s'.nx) s' d' a' w') a w := fun i p r' hl hp1 hB hd hn hr hsl => by
    obtain ⟨Γ', R1, D1⟩ := era_new R D (fun i hi => Nat.lt_of_lt_of_le hi hK) (.arr sz (E i) 0) p hp1 hB hd hn hr
    have hb1 : find ({ s with hp := put s.hp K (.arr sz (E i) 0), nx := K + 1 } : St).hp b = some (.box cs) := by
      show find (put s.hp K _) b = _
      rw [find_put, if_neg hbK]; exact hb
    refine h i Γ0 a w ⟨Γ', r', _, cell_anew R1 hb1 hj (fun v hv hc => ?_), D1⟩
    have : v = .slice q n cap := by obtain ⟨hh, _⟩ := hc; cases hh; rfl
    subst this
    refine ⟨⟨Nat.lt_succ_self K, Nat.zero_le _⟩, rfl, fun sz' es' hA => ?_⟩
    have e1 : arrOf (put s.hp K (.arr sz (E i) 0)) K 0 = some (sz, E i) := by simp [arrOf, find_put]
    rw [show ({ s with hp := put s.hp K (.arr sz (E i) 0), nx := K + 1 } : St).hp = put s.hp K (.arr sz (E i) 0) from rfl, e1] at hA
    obtain ⟨rfl, rfl⟩ := Prod.mk.inj (Option.some.inj hA)
    exact ⟨by omega, by simpa [setμ] using hsl⟩
  cases h1 with
  | sc _ _ hx _ => simp [T.scal] at hx
  | nil _ q =>
    obtain ⟨i, g1, g2, g3, g4⟩ := hcut [] [] ⟨rfl, rfl⟩
    have hE : E i = [] := List.eq_nil_of_length_eq_zero (by rw [g3]; rfl)
    refine fin i none r2 g3 (by simp) (fun al hp S μ => hE) (by rw [g2]; exact h2) (by simpa using hnd) (fun k hk => ?_) ⟨rfl, rfl, q, rfl⟩
    obtain ⟨k1, k2, k3⟩ := hout k (by simp [hk])
    exact ⟨k1, k2, by simp, k3⟩
  | list _ _ b0 base _ room vs rss hcap hroom hsz' hvr hv hfz hl hl2 hd =>
    obtain ⟨xs, din, k1, k2, k3⟩ := RCrL_of (DHL_of hl hl2 hd)
    obtain ⟨i, g1, g2, g3, g4⟩ := hcut xs din k1
    have hnd' := List.nodup_cons.1 (by simpa using hnd : (b0 :: (rss.flatten ++ r2)).Nodup)
    refine fin i (some ⟨b0, base, room⟩) (rss.flatten ++ r2) g3 (fun q hq => by obtain rfl := Option.some.inj hq; exact hout b0 (by simp)) (fun al hp S μ => ⟨vs, by rw [g1]; exact k2 S, hv, g4, hvr, hfz⟩) (by rw [g2]; exact k3.join h2) hnd'.2 (fun k hk => ?_)
      ⟨⟨b0, base, none⟩, cap, rfl, .inl (by simp), hcap, by simpa using hroom⟩
    obtain ⟨q1, q2, q3⟩ := hout k (by simpa using Or.inr hk)
    exact ⟨q1, q2, fun q hq hh => by obtain rfl := Option.some.inj hq; subst hh; exact hnd'.1 hk, q3⟩
/-- A new era, with a list less that is one's own. -/
theorem era_close {al : Nat → Prop} (R : Rel Γ al s a w μ) (D : DInv Γ0 Γ d r) {N sz v : Nat} {es : List T} (hN : find s.hp N = some (.arr sz es v)) (hd : DD w d' r') (hnd : r'.Nodup)
    (hr : ∀ k ∈ r', k < w.heap.size ∧ (¬ Γ.G k ∨ ∃ q, μ N = some q ∧ q.b = k) ∧ (k ∈ Γ0.bs0 ∨ Γ0.w0.heap.size ≤ k)) :
    ∃ Γ', Rel Γ' al { s with hp := put s.hp N (.froz 0 [] (v + 1)) } a w (setμ μ N none) ∧ DInv Γ0 Γ' d' r' := by
  obtain ⟨L, hL⟩ := liveL (put s.hp N (.froz 0 [] (v + 1))) (setμ μ N none)
  have hliveN : live s.hp N := ⟨_, hN, rfl⟩
  have hverN : verOf s.hp N = v := by simp [verOf, hN]
  have hlv : ∀ i q, live (put s.hp N (.froz 0 [] (v + 1))) i → setμ μ N none i = some q → live s.hp i ∧ μ i = some q ∧ q.b < w.heap.size ∧ Γ.G q.b ∧ (∀ q', μ N = some q' → q'.b ≠ q.b) ∧ (q.b ∈ Γ.bs0 ∨ Γ.w0.heap.size ≤ q.b) := fun i q hi hq => by
    rw [live_put] at hi
    by_cases hni : N = i
    · subst hni; simp [setμ] at hq
    · rw [if_neg hni] at hi
      have hq : μ i = some q := by simpa [setμ, Ne.symm hni] using hq
      obtain ⟨g1, g2⟩ := R.mem.mine i q hi hq
      exact ⟨hi, hq, g1, R.mem.gd _ g2, fun q' hq' e => hni (R.mem.inj N i q' q hliveN hi hq' hq e), g2⟩
  have e : Ext al al s.hp (put s.hp N (.froz 0 [] (v + 1))) (Sv Γ.G s.hp μ w) (Sv (fun k => (Γ.G k ∧ k < w.heap.size ∧ ∀ q, μ N = some q → q.b ≠ k) ∨ w.heap.size ≤ k) (put s.hp N (.froz 0 [] (v + 1))) (setμ μ N none) w) μ (setμ μ N none) := by
    refine ⟨fun _ h => h, fun x u hv => ?_, fun i hi => ?_, fun i ver sz' es' hi hver h' => ?_, fun i cs' hi h' => ?_⟩
    · rw [Sv_some] at hv ⊢
      refine ⟨⟨.inl ⟨hv.1.1, World.block_lt_of_cell? _ _ hv.2, fun q hq hh => hv.1.2 ⟨N, q, hliveN, hq, hh⟩⟩, ?_⟩, hv.2⟩
      rintro ⟨i, q, hl, hq, hqb⟩
      obtain ⟨g1, g2, _⟩ := hlv i q hl hq
      exact hv.1.2 ⟨i, q, g1, g2, hqb⟩
    · by_cases hni : N = i
      · subst hni; rw [hverN]; simp [verOf, find_put]
      · rw [verOf_put_ne hni]; exact Nat.le_refl _
    · by_cases hni : N = i
      · subst hni
        rw [hverN] at hver
        simp only [arrOf, find_put, if_true] at h'
        split at h'
        · rename_i hh; simp at hh; omega
        · cases h'
      · rw [arrOf_put_ne hni] at h'
        exact ⟨es', h', Nat.le_refl _, by simp [setμ, Ne.symm hni]⟩
    · by_cases hni : N = i
      · subst hni; simp [find_put] at h'
      · rw [find_put, if_neg hni] at h'
        exact ⟨cs', h', by simp [setμ, Ne.symm hni]⟩
  refine ⟨⟨fun k => (Γ.G k ∧ k < w.heap.size ∧ ∀ q, μ N = some q → q.b ≠ k) ∨ w.heap.size ≤ k, w, L, Γ.pin⟩,
    ⟨⟨Fr.refl _ _, fun k hk => ?_, fun i q hq => R.mem.pin' e i q hq, fun i b' hb' => ?_, fun i q hi hq => ?_, fun i j q q' hi hj hq hq' hqq => ?_, fun i b' hb' => ?_⟩, R.size, fun t => (R.tmp t).mono e, R.defers⟩,
    ⟨D.pin, ?_, fun k hk => ?_, fun k hk => ?_, D.g0, hd, hnd, fun k hk => ?_, D.gb⟩⟩
  · rcases hk with hk | hk
    · obtain ⟨i, q, g1, g2, g3⟩ := (hL k).1 hk
      obtain ⟨_, _, k1, k2, k3, _⟩ := hlv i q g1 g2
      subst g3; exact .inl ⟨k2, k1, k3⟩
    · exact .inr hk
  · rw [find_put] at hb'
    by_cases hni : N = i
    · subst hni; exact R.mem.used _ _ hN
    · rw [if_neg hni] at hb'; exact R.mem.used i b' hb'
  · exact ⟨(hlv i q hi hq).2.2.1, .inl ((hL _).2 ⟨i, q, hi, hq, rfl⟩)⟩
  · obtain ⟨g1, g2, _⟩ := hlv i q hi hq
    obtain ⟨g3, g4, _⟩ := hlv j q' hj hq'
    exact R.mem.inj i j q q' g1 g3 g2 g4 hqq
  · rw [find_put] at hb'
    by_cases hni : N = i
    · subst hni
      rw [if_pos rfl] at hb'
      obtain rfl := Option.some.inj hb'
      have : setμ μ N none N = none := by simp [setμ]
      rw [this]
      rfl
    · rw [if_neg hni] at hb'
      have : setμ μ N none i = μ i := by simp [setμ, Ne.symm hni]
      rw [this]
      exact BlkOk.mono e (fun _ _ _ _ => ⟨rfl, rfl⟩) (R.mem.blk i b' hb')
  · exact D.fr.trans R.mem.fr fun k hk hlt => by
      rcases D.own k hk with h | h
      · exact h
      · omega
  · obtain ⟨i, q, g1, g2, g3⟩ := (hL k).1 hk
    obtain ⟨_, _, _, _, _, k4⟩ := hlv i q g1 g2
    subst g3
    rcases k4 with h | h
    · exact D.own _ h
    · exact .inr (Nat.le_trans D.fr.size h)
  · rcases hk with hk | hk
    · exact D.G k hk.1
    · exact D.g0 k (Nat.le_trans D.fr.size (Nat.le_trans R.mem.fr.size hk))
  · obtain ⟨k1, k2, k4⟩ := hr k hk
    have hG : ¬ (Γ.G k ∧ ∀ q, μ N = some q → q.b ≠ k) := fun ⟨h1, h2⟩ => by
      rcases k2 with h | ⟨q, hq, h⟩
      · exact h h1
      · exact h2 q hq h
    refine ⟨k1, fun h => ?_, fun h => ?_, k4⟩
    · obtain ⟨i, q, g1, g2, g3⟩ := (hL k).1 h
      obtain ⟨_, _, _, q2, q3, _⟩ := hlv i q g1 g2
      subst g3; exact hG ⟨q2, q3⟩
    · rcases h with h | h
      · exact hG ⟨h.1, h.2.2⟩
      · omega
/-- A list of one's own in a box, closed. -/
theorem WWD_closebox {c : Code} {Q : X → St → De → Prop} {x : Shut c} {z : Shut Q} {xd : Shut d} {sz N v b j n : Nat} {es : List T} {t : T} {e : De} {cs : List C} (hb : find s.hp b = some (.box cs)) (hj : cs[j]? = some (.own N v 0 n)) (hN : find s.hp N = some (.arr sz es v)) (hn : n = es.length) (hsc : Sc es)
    (hrt : RT (.list sz es) t e) (hp : d.Perm (e ++ dr)) (h : ∀ y, WWDE P c { s with hp := put (put s.hp b (.box (cs.set j (.t (.raw y))))) N (.froz 0 [] (v + 1)) } ((y, t) :: dr) Q .one .one .one) : WWDE P c s d Q x xd z := fun Γ0 a w hR => by
  obtain ⟨Γ, r, μ, R, D⟩ := hR
  subst hn
  have hdw : DD w d r := D.dd.frame R.mem.fr fun b hb => ⟨(D.out b hb).1, (D.out b hb).2.1⟩
  obtain ⟨r', hr', hd'⟩ := hdw.perm hp
  obtain ⟨re, rr, rfl, h1, h2⟩ := hd'.app
  have hnd : (re ++ rr).Nodup := hr'.nodup_iff.1 D.nd
  have hsz : Γ.w0.heap.size ≤ w.heap.size := R.mem.fr.size
  have hout : ∀ k ∈ re ++ rr, k < w.heap.size ∧ ¬ Γ.G k ∧ (k ∈ Γ0.bs0 ∨ Γ0.w0.heap.size ≤ k) := fun k hk => by
    obtain ⟨g1, _, g3, g4⟩ := D.out k (hr'.mem_iff.2 hk)
    exact ⟨Nat.lt_of_lt_of_le g1 hsz, g3, g4⟩
  have hbN : N ≠ b := fun hh => by subst hh; rw [hN] at hb; cases hb
  have key : ∀ u, COk (· < s.nx) s.hp (Sv Γ.G s.hp μ w) μ (.own N v 0 es.length) u → ∃ (y : Sl) (r1 : List Nat), u = y.v ∧ BCOk (Sv Γ.G s.hp μ w) w (.arr sz es) u r1 ∧ ∀ k ∈ r1, ∃ q, μ N = some q ∧ q.b = k := fun u hu => by
    have hA : arrOf s.hp N v = some (sz, es) := by simp [arrOf, hN]
    obtain ⟨_, hsl⟩ := hu.2.2 sz es hA
    have hBN := R.mem.blk _ _ hN
    unfold SlOk at hsl
    split at hsl
    · obtain ⟨_, hl, q, rfl⟩ := hsl
      exact ⟨⟨q, 0, 0⟩, [], rfl, .inl ⟨rfl, List.eq_nil_of_length_eq_zero hl, q, rfl⟩, by simp⟩
    · rename_i p hpN
      obtain ⟨a', cap, rfl, e1, e2, e3⟩ := hsl
      rw [hpN] at hBN
      rcases e1 with rfl | rfl
      · exact ⟨⟨_, _, _⟩, [p.b], rfl, .inr ⟨p.b, p.base, p.room, cap, rfl, by simp, e2, by simpa using e3, hsc, hBN⟩, fun k hk => by simp at hk; exact ⟨p, hpN, hk.symm⟩⟩
      · have h0 : es = [] := List.eq_nil_of_length_eq_zero (by omega)
        subst h0
        exact ⟨⟨some a', 0, 0⟩, [], rfl, .inl ⟨rfl, rfl, some a', rfl⟩, by simp⟩
  obtain ⟨u, hone, hu, hset⟩ := cell_val R hb hj
  obtain ⟨y, r1, rfl, hbc, hr1⟩ := key u hu
  have R2 := hset (.t (.raw y)) ⟨.raw y, hone⟩
  obtain ⟨rt, hpt, hdt⟩ := RT_deep (S := Sv Γ.G s.hp μ w) (w := w) (x := .list sz es) (v := y.v) (r1 := r1) hbc hrt h1
  have hN2 : find ({ s with hp := put s.hp b (.box (cs.set j (.t (.raw y)))) } : St).hp N = some (.arr sz es v) := by
    show find (put s.hp b _) N = _
    rw [find_put, if_neg (Ne.symm hbN)]; exact hN
  have hmine : ∀ k ∈ r1, k < w.heap.size ∧ Γ.G k ∧ (k ∈ Γ0.bs0 ∨ Γ0.w0.heap.size ≤ k) := fun k hk => by
    obtain ⟨q, hq, rfl⟩ := hr1 k hk
    obtain ⟨g1, g2⟩ := R.mem.mine N q ⟨_, hN, rfl⟩ hq
    refine ⟨g1, R.mem.gd _ g2, ?_⟩
    rcases g2 with h | h
    · exact D.own _ h
    · exact .inr (Nat.le_trans D.fr.size h)
  have hr1n : r1.Nodup := by
    rcases hbc with ⟨rfl, _⟩ | ⟨b', _, _, _, rfl, _⟩ <;> simp
  obtain ⟨Γ', R3, D3⟩ := era_close (d' := (y, t) :: dr) (r' := rt ++ rr) R2 D hN2 ⟨rt, rr, rfl, hdt, h2⟩ (by
    refine List.nodup_append.2 ⟨hpt.nodup_iff.2 (List.nodup_append.2 ⟨hr1n, (List.nodup_append.1 hnd).1, fun x hx y hy hxy => ?_⟩), (List.nodup_append.1 hnd).2.1, fun x hx y hy hxy => ?_⟩
    · subst hxy; exact (hout x (by simp [hy])).2.1 (hmine x hx).2.1
    · subst hxy
      rcases List.mem_append.1 (hpt.mem_iff.1 hx) with h | h
      · exact (hout x (by simp [hy])).2.1 (hmine x h).2.1
      · exact (List.nodup_append.1 hnd).2.2 x h x hy rfl) fun k hk => by
    rcases List.mem_append.1 hk with hk | hk
    · rcases List.mem_append.1 (hpt.mem_iff.1 hk) with h | h
      · exact ⟨(hmine k h).1, .inr (hr1 k h), (hmine k h).2.2⟩
      · obtain ⟨q1, q2, q3⟩ := hout k (by simp [h])
        exact ⟨q1, .inl q2, q3⟩
    · obtain ⟨q1, q2, q3⟩ := hout k (by simp [hk])
      exact ⟨q1, .inl q2, q3⟩
  exact h y Γ0 a w ⟨Γ', _, _, R3, D3⟩
theorem WWD_cond {τ : Tab} (hτ : TOk P τ) {o : Operand} {c e : Code} {q : Bool} {Q : X → St → De → Prop} {x : Shut (Code.cond o c e)} {xd : Shut d} {z : Shut Q} (hc : s.eval τ 0 o = .a (.c (.t (.bool q)))) (h1 : q = true → WWDE P c s d Q .one .one .one) (h2 : q = false → WWDE P e s d Q .one .one .one) :
    WWDE P (.cond o c e) s d Q x xd z := fun Γ0 a w hR => by
  obtain ⟨Γ, r, μ, R, D⟩ := hR
  have hv' := eval_bool R hc
  exact wp_cond_split hv' (fun hb => h1 hb Γ0 a w ⟨Γ, r, μ, R, D⟩) (fun hb => h2 hb Γ0 a w ⟨Γ, r, μ, R, D⟩)
theorem DH.view {x : T} {v : Value} {r : List Nat} {G : Nat → Prop} (h : DH w x v r) (hG : ∀ b ∈ r, G b) : ResC false (inV G w) w x v [] ∧ v.oneCell' = true := ⟨⟨rfl, h.hold hG⟩, h.one⟩
theorem DHL.view : ∀ {ts : List T} {vs : List Value} {r : List Nat} {G : Nat → Prop}, DHL w ts vs r → (∀ b ∈ r, G b) → ResCs false (inV G w) w ts vs []
  | [], _, _, _, ⟨rfl, rfl⟩, _ => ⟨rfl, rfl⟩
  | t :: ts, _, _, G, ⟨v, vs, r1, r2, rfl, rfl, h1, h2⟩, hG => by
    obtain ⟨a, b⟩ := h1.view (G := G) fun k hk => hG k (by simp [hk])
    exact ⟨v, vs, [], [], rfl, rfl, a, b, h2.view fun k hk => hG k (by simp [hk])⟩
theorem DA.view {x : T} {v : Value} {r : List Nat} {G : Nat → Prop} (h : DA w x v r) (hG : ∀ b ∈ r, G b) : ResA false (inV G w) w x v [] := by
  cases x with
  | agg cs =>
    obtain ⟨vs, rfl, h⟩ := h
    exact ⟨vs, rfl, h.view hG⟩
  | bx cs =>
    have h : DH w (.bx cs) v r := h
    cases h with
    | sc _ _ hx _ => simp [T.scal] at hx
  | _ => exact (DH.view (da_H (by simp) h) hG).1
theorem DAL.view : ∀ {ts : List T} {vs : List Value} {r : List Nat} {G : Nat → Prop}, DAL w ts vs r → (∀ b ∈ r, G b) → ResL false (inV G w) w ts vs []
  | [], _, _, _, ⟨rfl, rfl⟩, _ => ⟨rfl, rfl⟩
  | t :: ts, _, _, G, ⟨v, vs, r1, r2, rfl, rfl, h1, h2⟩, hG =>
    ⟨v, vs, [], [], rfl, rfl, DA.view h1 fun k hk => hG k (by simp [hk]), h2.view fun k hk => hG k (by simp [hk])⟩
theorem DRes.view {rs : List T} {v : Value} {r : List Nat} {G : Nat → Prop} (h : DRes w rs v r) (hG : ∀ b ∈ r, G b) : ResOk false (inV G w) w rs v [] := by
  unfold DRes at h
  unfold ResOk
  split at h
  · exact DA.view h hG
  · rename_i hne
    obtain ⟨vs, rfl, h⟩ := h
    split
    · exact (hne _ rfl).elim
    · exact ⟨vs, rfl, h.view hG⟩
/-- A contract with new memory, told with views. -/
theorem CS_view {f : FuncId} {xs : List AA} {rs : List T} (h : CSD P f (xs.map DArg.b) rs []) : CS P false f xs rs [] := by
  intro G w vals bs hA hnd hbs hG
  have hl : ∀ {xs : List AA} {vals : List Value} {bs : List Nat} {S : Addr → Option Value}, ArgsOk S w xs vals bs → DLs w false (xs.map DArg.b) vals [] ∧ bA (xs.map DArg.b) = xs ∧ bV (xs.map DArg.b) vals = vals := fun {xs} => by
    induction xs with
    | nil => intro vals bs S h; obtain ⟨rfl, rfl⟩ := h; exact ⟨⟨rfl, rfl⟩, rfl, rfl⟩
    | cons x r ih =>
      rintro _ _ S ⟨v, vs, r1, r2, rfl, rfl, _, h⟩
      obtain ⟨a, b, c⟩ := ih h
      exact ⟨⟨v, vs, rfl, a⟩, by simp [bA, b], by simp [bV, c]⟩
  obtain ⟨h1, h2, h3⟩ := hl hA
  have hb3 : ∀ {xs : List AA} {vals : List Value} {r : List Nat} {w' : World}, DLs w' true (xs.map DArg.b) vals r → r = [] := fun {xs} => by
    induction xs with
    | nil => intro vals r w' h; exact h.2
    | cons x q ih => rintro vals r w' ⟨_, _, rfl, h⟩; exact ih h
  have := h G w vals bs [] (by rw [h2, h3]; exact hA) h1 (by simpa using hnd) (fun b hb => hbs b (by simpa using hb)) hG
  have imp : ∀ v w', (∃ r1 r2 r3, Fr (bs ++ []) w w' ∧ DRes w' rs v r1 ∧ OutsOk (inV (fun b => G b ∨ (w.heap.size ≤ b ∨ b ∈ bs ++ []) ∧ b ∉ r1 ++ (r2 ++ r3)) w') w' (bA (xs.map DArg.b)) (bV (xs.map DArg.b) vals) [] r2 ∧ DLs w' true (xs.map DArg.b) vals r3 ∧ (r1 ++ (r2 ++ r3)).Nodup ∧
      ∀ b ∈ r1 ++ (r2 ++ r3), b < w'.heap.size ∧ (b ∈ bs ++ [] ∨ w.heap.size ≤ b)) → ∃ r1 r2, Fr bs w w' ∧ ResOk false (inV (fun b => G b ∨ (w.heap.size ≤ b ∨ b ∈ bs) ∧ b ∉ r1 ++ r2) w') w' rs v r1 ∧ OutsOk (inV (fun b => G b ∨ (w.heap.size ≤ b ∨ b ∈ bs) ∧ b ∉ r1 ++ r2) w') w' xs vals [] r2 ∧
      (r1 ++ r2).Nodup ∧ ∀ b ∈ r1 ++ r2, b < w'.heap.size ∧ (b ∈ bs ∨ w.heap.size ≤ b) := fun v w' ⟨r1, r2, r3, c1, c2, c3, c4, c5, c6⟩ => by
    obtain rfl := hb3 c4
    rw [h2, h3] at c3
    simp only [List.append_nil] at c1 c3 c5 c6
    refine ⟨[], r2, c1, DRes.view c2 fun b hb => .inr ⟨?_, fun hh => ?_⟩, OutsOk.mono (fun x u hu => ?_) c3, ?_, fun b hb => c6 b (by simpa using Or.inr hb)⟩
    · rcases (c6 b (by simp [hb])).2 with g | g
      · exact .inr g
      · exact .inl g
    · exact (List.nodup_append.1 c5).2.2 b hb b (by simpa using hh) rfl
    · rw [inV_some] at hu ⊢
      refine ⟨?_, hu.2⟩
      rcases hu.1 with g | g
      · exact .inl g
      · exact .inr ⟨g.1, fun hh => g.2 (by simpa using Or.inr hh)⟩
    · simpa using (List.nodup_append.1 c5).2.1
  rcases this with ⟨hrun, hcalls⟩ | ⟨v, w', hrun, hv⟩
  · exact .inl ⟨hrun, hcalls.mono fun e w' ⟨v, he, hv⟩ => ⟨v, he, imp v w' hv⟩⟩
  · exact .inr ⟨v, w', hrun, imp v w' hv⟩
end
end Go.Proofs.YtikegeligblekaaGreat.M
