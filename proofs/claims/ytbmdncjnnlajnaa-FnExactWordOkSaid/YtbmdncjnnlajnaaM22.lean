/- A machine of values: a function's contract out of what is reckoned of its code. No condition. -/
import Derived.Test.YtbmdncjnnlajnaaM21
namespace Go.Proofs.Ytbmdncjnnlajnaa.M
open Go
set_option linter.unusedSimpArgs false
set_option linter.unusedVariables false
set_option linter.unusedSectionVars false

/-! ### The beginning -/
def initC (n : Nat) : BC → C × List (Nat × Blk)
  | .t x => (.t x, [])
  | .nil sz => (.nil sz, [])
  | .arr sz es => (.own n 0 0 es.length, [(n, .arr sz es 0)])
def initCs (n : Nat) : List BC → List C × List (Nat × Blk)
  | [] => ([], [])
  | x :: xs => let a := initC n x; let r := initCs (n + a.2.length) xs; (a.1 :: r.1, a.2 ++ r.2)
def initA (n : Nat) : AA → AV × List (Nat × Blk)
  | .v x => (.a (openT x), [])
  | .nilp => (.c .nilp, [])
  | .mb cs => let r := initCs (n + 1) cs; (.c (.ptr n 0), (n, .box r.1) :: r.2)
def initL (n : Nat) : List AA → List AV × List (Nat × Blk)
  | [] => ([], [])
  | x :: xs => let a := initA n x; let r := initL (n + a.2.length) xs; (a.1 :: r.1, a.2 ++ r.2)
def slots (k : Nat) : List AV → List (Nat × AV)
  | [] => []
  | x :: xs => (k, x) :: slots (k + 1) xs
def initS (N : Nat) (args : List AA) : St := let r := initL 0 args; { tm := slots 0 r.1, hp := r.2, nx := r.2.length, N }

/-! ### The end -/
def exC (own : Bool) (hp : List (Nat × Blk)) (c : C) (K : T → List Nat → List Nat → Prop) : Prop :=
  match own with
  | true => match c with
    | .t x => if x.scal then K x [] [] else False
    | .nil sz => K (.list sz []) [] []
    | .own i v o n => match find hp i with
      | some (.arr sz es v') => if v == v' then o + n ≤ es.length ∧ Sc ((es.drop o).take n) ∧ K (.list sz ((es.drop o).take n)) [i] [] else False
      | _ => False
    | _ => False
  | false => match readC hp c with | some x => K x [] (ownsC c) | none => False
def exCs (own : Bool) (hp : List (Nat × Blk)) : List C → (List T → List Nat → List Nat → Prop) → Prop
  | [], K => K [] [] []
  | c :: r, K => exC own hp c fun x i j => exCs own hp r fun xs is js => K (x :: xs) (i ++ is) (j ++ js)
def exA (own : Bool) (hp : List (Nat × Blk)) (x : A) (K : T → List Nat → List Nat → Prop) : Prop :=
  match x with
  | .c c => exC own hp c K
  | .g cs => exCs own hp cs fun xs is js => K (.agg xs) is js
def resA (τ : Tab) (s : St) (r : ResultVar) (K : A → Prop) : Prop :=
  match r with
  | .tmp t => match s.get t with | .a x => K x | _ => False
  | .cell t ty => match s.get t, find τ ty with
    | .a (.c (.ptr i off)), some d => match find s.hp i with | some (.box cs) => partK d cs off K | _ => False
    | _, _ => False
def exL (τ : Tab) (own : Bool) (s : St) : List ResultVar → (List T → List Nat → List Nat → Prop) → Prop
  | [], K => K [] [] []
  | r :: rs, K => resA τ s r fun x => exA own s.hp x fun y i j => exL τ own s rs fun ys is js => K (y :: ys) (i ++ is) (j ++ js)
/-- What the boxes that came in hold in the end. -/
def outX (hp : List (Nat × Blk)) (n : Nat) : List AA → (List (List BC) → List Nat → Prop) → Prop
  | [], K => K [] []
  | .mb cs :: r, K => match find hp n with
    | some (.box cs') => if cs'.length == cs.length then bcsK hp cs' fun ys => outX hp (n + (initA n (.mb cs)).2.length) r fun os is => K (ys :: os) (n :: cs'.flatMap ownsC ++ is) else False
    | _ => False
  | x :: r, K => outX hp (n + (initA n x).2.length) r K
def retK (τ : Tab) (own : Bool) (fn : Func) (args : List AA) (s : St) (K : List T → List (List BC) → Prop) : Prop :=
  exL τ own s fn.results.toList fun rs is js => outX s.hp 0 args fun os ks => if nodupB (is ++ ks) && js.all (fun j => !ks.contains j) then K rs os else False

/-! ### What the end's reckoning says -/
def ExC (own : Bool) (hp : List (Nat × Blk)) (c : C) (x : T) (is js : List Nat) : Prop :=
  match own with
  | true => (x.scal = true ∧ c = .t x ∧ is = [] ∧ js = []) ∨ (∃ sz, c = .nil sz ∧ x = .list sz [] ∧ is = [] ∧ js = []) ∨
      ∃ i v o n sz es, c = .own i v o n ∧ find hp i = some (.arr sz es v) ∧ o + n ≤ es.length ∧ Sc ((es.drop o).take n) ∧ x = .list sz ((es.drop o).take n) ∧ is = [i] ∧ js = []
  | false => readC hp c = some x ∧ is = [] ∧ js = ownsC c
def ExCs (own : Bool) (hp : List (Nat × Blk)) : List C → List T → List Nat → List Nat → Prop
  | [], xs, is, js => xs = [] ∧ is = [] ∧ js = []
  | c :: r, xs, is, js => ∃ x xs' i i' j j', xs = x :: xs' ∧ is = i ++ i' ∧ js = j ++ j' ∧ ExC own hp c x i j ∧ ExCs own hp r xs' i' j'
def ExA (own : Bool) (hp : List (Nat × Blk)) (y : A) (x : T) (is js : List Nat) : Prop :=
  match y with
  | .c c => ExC own hp c x is js
  | .g cs => ∃ xs, x = .agg xs ∧ ExCs own hp cs xs is js

section
variable {P : Program} {τ : Tab} {Γ : Ctx} {al al' : Nat → Prop} {s : St} {a : Act} {w w' : World} {μ μ' : Nat → Option Pl} {n : Nat}
variable {hp hp' : List (Nat × Blk)} {S S0 S' : Addr → Option Value} {own : Bool}

theorem exC_iff {c : C} {K : T → List Nat → List Nat → Prop} (h : exC own hp c K) : ∃ x is js, ExC own hp c x is js ∧ K x is js := by
  unfold exC at h
  unfold ExC
  split at h
  · split at h
    · split at h
      · rename_i hs; exact ⟨_, _, _, .inl ⟨hs, rfl, rfl, rfl⟩, h⟩
      · exact h.elim
    · exact ⟨_, _, _, .inr (.inl ⟨_, rfl, rfl, rfl, rfl⟩), h⟩
    · split at h
      · rename_i hb
        split at h
        · rename_i hv
          simp only [beq_iff_eq] at hv; subst hv
          exact ⟨_, _, _, .inr (.inr ⟨_, _, _, _, _, _, rfl, hb, h.1, h.2.1, rfl, rfl, rfl⟩), h.2.2⟩
        · exact h.elim
      · exact h.elim
    · exact h.elim
  · split at h
    · rename_i hr; exact ⟨_, _, _, ⟨hr, rfl, rfl⟩, h⟩
    · exact h.elim
theorem exCs_iff : ∀ {cs : List C} {K : List T → List Nat → List Nat → Prop}, exCs own hp cs K → ∃ xs is js, ExCs own hp cs xs is js ∧ K xs is js
  | [], K, h => ⟨_, _, _, ⟨rfl, rfl, rfl⟩, h⟩
  | c :: cs, K, h => by
    obtain ⟨x, i, j, h1, h2⟩ := exC_iff h
    obtain ⟨xs, is, js, h3, h4⟩ := exCs_iff h2
    exact ⟨_, _, _, ⟨x, xs, i, is, j, js, rfl, rfl, rfl, h1, h3⟩, h4⟩
theorem exA_iff {y : A} {K : T → List Nat → List Nat → Prop} (h : exA own hp y K) : ∃ x is js, ExA own hp y x is js ∧ K x is js := by
  cases y with
  | c c => exact exC_iff h
  | g cs =>
    obtain ⟨xs, is, js, h1, h2⟩ := exCs_iff h
    exact ⟨_, _, _, ⟨xs, rfl, h1⟩, h2⟩

theorem sub_arr {b base room sz o n : Nat} {es : List T} (h : ArrOk S w b base room sz es) (hon : o + n ≤ es.length) (hr : (o + n) * sz ≤ room) : ArrOk S w b (base + o * sz) (room - o * sz) sz ((es.drop o).take n) := by
  obtain ⟨vs, h1, h2, h3, h4, h5⟩ := h
  have hmem : ∀ e ∈ (es.drop o).take n, e.cells.length = sz := fun e he => h3 e (List.mem_of_mem_drop (List.mem_of_mem_take he))
  have hes : flat ((es.drop o).take n) = ((flat es).drop (o * sz)).take (n * sz) := by
    rw [flat_drop h3, flat_take (fun e he => h3 e (List.mem_of_mem_drop he))]
  have hfl := flat_length h3
  have hle : o * sz + n * sz ≤ es.length * sz := by rw [← Nat.add_mul]; exact Nat.mul_le_mul_right _ hon
  rw [Nat.add_mul] at hr
  refine ⟨(vs.drop (o * sz)).take (n * sz), ⟨by rw [hes]; simp [h1.1], fun v hv => h1.2.1 v (List.mem_of_mem_drop (List.mem_of_mem_take hv)), fun j t v a b => ?_⟩, fun j v hj => ?_, hmem, by simp; omega, fun j hj => ?_⟩
  · rw [hes] at a
    have hlt : j < n * sz := by have := (List.getElem?_eq_some_iff.1 b).1; simp at this; omega
    rw [List.getElem?_take_of_lt hlt, List.getElem?_drop] at a b
    exact h1.2.2 _ _ _ a b
  · have hlt : j < n * sz := by have := (List.getElem?_eq_some_iff.1 hj).1; simp at this; omega
    rw [List.getElem?_take_of_lt hlt, List.getElem?_drop] at hj
    rw [Nat.add_assoc]; exact h2 _ _ hj
  · have := h5 (o * sz + j) (by omega)
    rwa [← Nat.add_assoc] at this

theorem ExC_ok (M : Mem Γ al hp w μ) (hS : ∀ a v, Sv Γ.G hp μ w a = some v → S0 a = some v) {c : C} {x : T} {v : Value} {is js : List Nat} (h : ExC own hp c x is js) (hc : COk al hp (Sv Γ.G hp μ w) μ c v)
    (hown : ∀ i ∈ js, (∃ sz es v, find hp i = some (.arr sz es v)) → ∀ p, μ i = some p → ∀ a, a.block = p.b → ∀ v, w.cell? a = some v → S0 a = some v) :
    ∃ r, ResC own S0 w x v r ∧ r.Sublist (is.filterMap (bOf μ)) ∧ (∀ i ∈ is, live hp i) := by
  unfold ExC at h
  split at h
  · rcases h with ⟨h1, rfl, rfl, rfl⟩ | ⟨sz, rfl, rfl, rfl, rfl⟩ | ⟨i, ver, o, n, sz, es, rfl, hb, hon, hsc, rfl, rfl, rfl⟩
    · refine ⟨[], ?_, by simp, by simp⟩
      have : ResC true S0 w x v [] ↔ ([] : List Nat) = [] ∧ Hold S0 x v := by
        unfold ResC; cases x <;> simp_all [T.scal]
      exact this.2 ⟨rfl, hc.1.mono hS⟩
    · obtain rfl := hc
      exact ⟨[], .inl ⟨rfl, rfl, none, rfl⟩, by simp, by simp⟩
    · have hA : arrOf hp i ver = some (sz, es) := by simp [arrOf, hb]
      obtain ⟨h4, h5⟩ := hc.2.2 _ _ hA
      have hli : live hp i := ⟨_, hb, rfl⟩
      have hB := M.blk _ _ hb
      have hlen : ((es.drop o).take n).length = n := by simp; omega
      cases hp' : μ i with
      | none =>
        rw [hp'] at h5
        obtain ⟨rfl, rfl, q, rfl⟩ := h5
        exact ⟨[], .inl ⟨rfl, by simp, q, rfl⟩, List.nil_sublist _, by simpa using hli⟩
      | some p =>
        rw [hp'] at h5 hB
        obtain ⟨ad, cap, rfl, h7, h8, h9⟩ := h5
        rcases h7 with h7 | h7
        · subst h7
          have hle : (o + n) * sz ≤ p.room := Nat.le_trans (Nat.mul_le_mul_right _ (by omega)) h9
          have hB' : ArrOk S0 w p.b p.base p.room sz es := ArrOk.mono hS (fun _ => rfl) (fun _ => rfl) hB
          refine ⟨[p.b], .inr ⟨p.b, p.base + o * sz, p.room - o * sz, cap, rfl, by rw [hlen], by rw [hlen]; exact h8, ?_, hsc, sub_arr hB' hon hle⟩, by simp [bOf, hp'], by simpa using hli⟩
          rw [Nat.add_mul] at h9; omega
        · subst h7
          have h0 : n = 0 := by omega
          subst h0
          exact ⟨[], .inl ⟨rfl, by simp, _, rfl⟩, List.nil_sublist _, by simpa using hli⟩
  · obtain ⟨h1, rfl, rfl⟩ := h
    refine ⟨[], ?_, by simp, by simp⟩
    show ([] : List Nat) = [] ∧ Hold S0 x v
    exact ⟨rfl, readC_ok M hS h1 hc hown⟩

theorem ExCs_ok (M : Mem Γ al hp w μ) (hS : ∀ a v, Sv Γ.G hp μ w a = some v → S0 a = some v) : ∀ {cs : List C} {xs : List T} {vs : List Value} {is js : List Nat}, ExCs own hp cs xs is js → CsOk al hp (Sv Γ.G hp μ w) μ cs vs →
    (∀ i ∈ js, (∃ sz es v, find hp i = some (.arr sz es v)) → ∀ p, μ i = some p → ∀ a, a.block = p.b → ∀ v, w.cell? a = some v → S0 a = some v) →
    ∃ r, ResCs own S0 w xs vs r ∧ r.Sublist (is.filterMap (bOf μ)) ∧ (∀ i ∈ is, live hp i)
  | [], xs, vs, is, js, h, hc, _ => by
    obtain ⟨rfl, rfl, rfl⟩ := h
    have := hc.1
    simp at this; subst this
    exact ⟨[], ⟨rfl, rfl⟩, by simp, by simp⟩
  | c :: cs, xs, vs, is, js, h, hc, hown => by
    obtain ⟨x, xs', i, i', j, j', rfl, rfl, rfl, h1, h2⟩ := h
    cases vs with
    | nil => have := hc.1; simp at this
    | cons v vs =>
      have hr : CsOk al hp (Sv Γ.G hp μ w) μ cs vs := ⟨by have := hc.1; simpa using this, fun u hu => hc.2.1 u (by simp [hu]), fun j c' u a b => hc.2.2 (j + 1) c' u (by simpa using a) (by simpa using b)⟩
      obtain ⟨r1, a1, a2, a3⟩ := ExC_ok M hS h1 (hc.2.2 0 c v rfl rfl) (fun k hk => hown k (List.mem_append.2 (.inl hk)))
      obtain ⟨r2, b1, b2, b3⟩ := ExCs_ok M hS h2 hr (fun k hk => hown k (List.mem_append.2 (.inr hk)))
      refine ⟨r1 ++ r2, ⟨v, vs, r1, r2, rfl, rfl, a1, hc.2.1 v (by simp), b1⟩, by rw [List.filterMap_append]; exact a2.append b2, fun k hk => ?_⟩
      rcases List.mem_append.1 hk with hk | hk
      · exact a3 k hk
      · exact b3 k hk

theorem ExC_noagg {c : C} {x : T} {v : Value} {is js : List Nat} (h : ExC own hp c x is js) (hc : COk al hp S μ c v) : ∀ cs, x ≠ .agg cs := fun cs e => by
  subst e
  unfold ExC at h
  split at h
  · rcases h with ⟨h1, _⟩ | ⟨sz, _, h1, _⟩ | ⟨_, _, _, _, _, _, _, _, _, _, h1, _⟩
    · simp [T.scal] at h1
    · cases h1
    · cases h1
  · obtain ⟨h1, _⟩ := h
    unfold readC at h1
    split at h1
    · obtain rfl := Option.some.inj h1
      have := hc.1
      cases this
      simp [COk, Value.oneCell'] at hc
    · simp only [Option.map_eq_some_iff] at h1
      obtain ⟨_, _, h2⟩ := h1
      cases h2

theorem ExA_ok (M : Mem Γ al hp w μ) (hS : ∀ a v, Sv Γ.G hp μ w a = some v → S0 a = some v) {y : A} {x : T} {v : Value} {is js : List Nat} (h : ExA own hp y x is js) (hc : AOk al hp (Sv Γ.G hp μ w) μ y v)
    (hown : ∀ i ∈ js, (∃ sz es v, find hp i = some (.arr sz es v)) → ∀ p, μ i = some p → ∀ a, a.block = p.b → ∀ v, w.cell? a = some v → S0 a = some v) :
    ∃ r, ResA own S0 w x v r ∧ r.Sublist (is.filterMap (bOf μ)) ∧ (∀ i ∈ is, live hp i) := by
  cases y with
  | c c =>
    obtain ⟨r, h1, h2⟩ := ExC_ok M hS h hc hown
    have hna := ExC_noagg h hc
    refine ⟨r, ?_, h2⟩
    unfold ResA
    split
    · rename_i cs; exact absurd rfl (hna cs)
    · exact h1
  | g cs =>
    obtain ⟨xs, rfl, h1⟩ := h
    obtain ⟨vs, rfl, hC⟩ := hc
    obtain ⟨r, h2, h3⟩ := ExCs_ok M hS h1 hC hown
    exact ⟨r, ⟨vs, rfl, h2⟩, h3⟩
end
end Go.Proofs.Ytbmdncjnnlajnaa.M
