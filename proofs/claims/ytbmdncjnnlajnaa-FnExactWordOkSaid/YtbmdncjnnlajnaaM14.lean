/- A machine of values: each operation does on the machine what is told of it, part 10: calls. No condition. -/
import Derived.Test.YtbmdncjnnlajnaaM13
namespace Go.Proofs.Ytbmdncjnnlajnaa.M
open Go
set_option linter.unusedSimpArgs false
set_option linter.unusedVariables false
set_option linter.unusedSectionVars false

theorem inV_some {G : Nat → Prop} {w : World} {a : Addr} {v : Value} : inV G w a = some v ↔ G a.block ∧ w.cell? a = some v := by
  unfold inV
  split
  · rename_i h; exact ⟨fun h' => ⟨h, h'⟩, fun h' => h'.2⟩
  · rename_i h; exact ⟨fun h' => (by cases h'), fun h' => absurd h'.1 h⟩

/-- A block behind a call, and its place. -/
abbrev E := Nat × Blk × Option Pl
def E.blk (e : E) : Option Nat := if e.2.1.live then e.2.2.map (·.b) else none
def EOk (S : Addr → Option Value) (w : World) (e : E) : Prop :=
  match e.2.1, e.2.2 with
  | .arr _ es _, none => es = []
  | .arr sz es _, some p => Sc es ∧ ArrOk S w p.b p.base p.room sz es
  | .froz _ es _, none => es = []
  | _, _ => False
def Fits (al : Nat → Prop) (hp : List (Nat × Blk)) (μ : Nat → Option Pl) (L : List E) : Prop := ∀ e ∈ L, al e.1 ∧ find hp e.1 = some e.2.1 ∧ μ e.1 = e.2.2

theorem Fits.app {al : Nat → Prop} {hp : List (Nat × Blk)} {μ : Nat → Option Pl} {L L' : List E} (h : Fits al hp μ (L ++ L')) : Fits al hp μ L ∧ Fits al hp μ L' :=
  ⟨fun e he => h e (List.mem_append.2 (.inl he)), fun e he => h e (List.mem_append.2 (.inr he))⟩

section
variable {P : Program} {τ : Tab} {Γ : Ctx} {al : Nat → Prop} {s : St} {a : Act} {w w' : World} {μ : Nat → Option Pl} {n : Nat} {K : AV → List (Nat × Blk) → Prop} {next : Act → World → Prop}
variable {o : Oper} {Q : Exit → Act → World → Prop} {md : Nat → Bool} {hp : List (Nat × Blk)} {S S' : Addr → Option Value}

theorem BCOk.one {x : BC} {v : Value} {r : List Nat} (h : BCOk S w x v r) : v.oneCell' = true := by
  cases x with
  | t x => exact h.2.2
  | nil sz => obtain ⟨_, rfl⟩ := h; rfl
  | arr sz es =>
    rcases h with ⟨_, _, q, rfl⟩ | ⟨b, base, room, cap, _, rfl, _⟩
    · rfl
    · rfl

/-- A list that comes back, as an entry. -/
theorem bc_arr {sz : Nat} {es : List T} {v : Value} {r : List Nat} (h : BCOk S w (.arr sz es) v r) (i ver : Nat) :
    ∃ p : Option Pl, (p.map (·.b)).toList = r ∧ EOk S w (i, .arr sz es ver, p) ∧ v.oneCell' = true ∧ SlOk p sz 0 es.length v := by
  rcases h with ⟨rfl, rfl, q, rfl⟩ | ⟨b, base, room, cap, rfl, rfl, h1, h2, h3, h4⟩
  · exact ⟨none, rfl, rfl, rfl, rfl, rfl, q, rfl⟩
  · exact ⟨some ⟨b, base, room⟩, rfl, ⟨h3, h4⟩, rfl, ⟨b, base, none⟩, cap, rfl, .inl (by simp), h1, by rw [Nat.zero_add]; exact h2⟩

theorem own_fits {al' : Nat → Prop} {hp' : List (Nat × Blk)} {μ' : Nat → Option Pl} {i sz ver : Nat} {es : List T} {p : Option Pl} {v : Value} (h1 : al' i) (h2 : find hp' i = some (.arr sz es ver)) (h3 : μ' i = p)
    (hone : v.oneCell' = true) (hs : SlOk p sz 0 es.length v) : COk al' hp' S' μ' (.own i ver 0 es.length) v := by
  refine ⟨⟨h1, by simp [verOf, h2]⟩, hone, fun sz' es' hA => ?_⟩
  simp only [arrOf, h2, beq_self_eq_true, if_true, Option.some.injEq, Prod.mk.injEq] at hA
  obtain ⟨rfl, rfl⟩ := hA
  exact ⟨by omega, by rw [h3]; exact hs⟩

theorem impC_ok {own : Bool} {x : T} {v : Value} {r : List Nat} (h : ResC own S w x v r) (hone : v.oneCell' = true) (n : Nat) :
    ∃ L : List E, L.map (fun e => (e.1, e.2.1)) = (impC own n x).2 ∧ L.filterMap E.blk = r ∧ (∀ e ∈ L, EOk S w e) ∧ L.map (·.1) = List.range' n L.length ∧
      ∀ al' hp' S' μ', Fits al' hp' μ' L → (own = false → ∀ a v, S a = some v → S' a = some v) → COk al' hp' S' μ' (impC own n x).1 v := by
  unfold ResC at h
  unfold impC
  split at h
  · rename_i sz es
    obtain ⟨p, h1, h2, h3, h4⟩ := bc_arr h n 0
    refine ⟨[(n, .arr sz es 0, p)], rfl, ?_, by simpa using h2, by simp, fun al' hp' S' μ' hf _ => ?_⟩
    · rw [← h1]; cases p <;> simp [E.blk, Blk.live]
    · obtain ⟨f1, f2, f3⟩ := hf _ (List.mem_singleton.2 rfl)
      exact own_fits f1 f2 f3 h3 h4
  · rename_i hno
    obtain ⟨rfl, hH⟩ := h
    refine ⟨[], rfl, rfl, by simp, rfl, fun al' hp' S' μ' _ hS => ⟨?_, hone⟩⟩
    cases own with
    | false => exact hH.mono (hS rfl)
    | true =>
      refine hH.scal ?_
      cases x with
      | list sz es => exact (hno sz es rfl rfl).elim
      | agg cs => cases hH; simp [Value.oneCell'] at hone
      | _ => rfl

theorem impCs_ok {own : Bool} : ∀ {xs : List T} {vs : List Value} {r : List Nat} (n : Nat), ResCs own S w xs vs r →
    ∃ L : List E, L.map (fun e => (e.1, e.2.1)) = (impCs own n xs).2 ∧ L.filterMap E.blk = r ∧ (∀ e ∈ L, EOk S w e) ∧ L.map (·.1) = List.range' n L.length ∧
      ∀ al' hp' S' μ', Fits al' hp' μ' L → (own = false → ∀ a v, S a = some v → S' a = some v) → CsOk al' hp' S' μ' (impCs own n xs).1 vs
  | [], vs, r, n, h => by
    obtain ⟨rfl, rfl⟩ := h
    exact ⟨[], rfl, rfl, by simp, rfl, fun _ _ _ _ _ _ => ⟨rfl, by simp, by simp [impCs]⟩⟩
  | x :: xs, vs, r, n, h => by
    obtain ⟨v, vs', r1, r2, rfl, rfl, h1, h2, h3⟩ := h
    obtain ⟨L1, a1, a2, a3, a4, a5⟩ := impC_ok h1 h2 n
    have hl : (impC own n x).2.length = L1.length := by rw [← a1]; simp
    obtain ⟨L2, b1, b2, b3, b4, b5⟩ := impCs_ok (n + L1.length) h3
    refine ⟨L1 ++ L2, by simp only [List.map_append, a1, b1, impCs, hl], by rw [List.filterMap_append, a2, b2], fun e he => ?_, ?_, fun al' hp' S' μ' hf hS => ?_⟩
    · rcases List.mem_append.1 he with he | he
      · exact a3 e he
      · exact b3 e he
    · rw [List.map_append, a4, b4, List.length_append, List.range'_append_1]
    · obtain ⟨f1, f2⟩ := hf.app
      have c1 := a5 al' hp' S' μ' f1 hS
      have c2 := b5 al' hp' S' μ' f2 hS
      simp only [impCs, hl]
      refine ⟨by simp [c2.1], fun u hu => ?_, fun j c u p q => ?_⟩
      · rcases List.mem_cons.1 hu with rfl | hu
        · exact h2
        · exact c2.2.1 u hu
      · cases j with
        | zero => simp at p q; subst p; subst q; exact c1
        | succ j => exact c2.2.2 j c u (by simpa using p) (by simpa using q)

theorem impA_ok {own : Bool} {x : T} {v : Value} {r : List Nat} (h : ResA own S w x v r) (n : Nat) :
    ∃ L : List E, L.map (fun e => (e.1, e.2.1)) = (impA own n x).2 ∧ L.filterMap E.blk = r ∧ (∀ e ∈ L, EOk S w e) ∧ L.map (·.1) = List.range' n L.length ∧
      ∀ al' hp' S' μ', Fits al' hp' μ' L → (own = false → ∀ a v, S a = some v → S' a = some v) → AOk al' hp' S' μ' (impA own n x).1 v := by
  unfold ResA at h
  split at h
  · rename_i cs
    obtain ⟨vs, rfl, h1⟩ := h
    obtain ⟨L, a1, a2, a3, a4, a5⟩ := impCs_ok n h1
    exact ⟨L, a1, a2, a3, a4, fun al' hp' S' μ' f hS => ⟨vs, rfl, a5 al' hp' S' μ' f hS⟩⟩
  · rename_i hno
    have hone : v.oneCell' = true := by
      unfold ResC at h
      split at h
      · exact BCOk.one h
      · obtain ⟨_, hH⟩ := h
        cases hH <;> first | rfl | exact (hno _ rfl).elim
    obtain ⟨L, a1, a2, a3, a4, a5⟩ := impC_ok h hone n
    have e : impA own n x = (.c (impC own n x).1, (impC own n x).2) := by
      unfold impA
      split
      · exact (hno _ rfl).elim
      · rfl
    rw [e]
    exact ⟨L, a1, a2, a3, a4, a5⟩

theorem impL_ok {own : Bool} : ∀ {xs : List T} {vs : List Value} {r : List Nat} (n : Nat), ResL own S w xs vs r →
    ∃ L : List E, L.map (fun e => (e.1, e.2.1)) = (impL own n xs).2 ∧ L.filterMap E.blk = r ∧ (∀ e ∈ L, EOk S w e) ∧ L.map (·.1) = List.range' n L.length ∧
      ∀ al' hp' S' μ', Fits al' hp' μ' L → (own = false → ∀ a v, S a = some v → S' a = some v) → vs.length = (impL own n xs).1.length ∧ ∀ (j : Nat) x v, (impL own n xs).1[j]? = some x → vs[j]? = some v → AOk al' hp' S' μ' x v
  | [], vs, r, n, h => by
    obtain ⟨rfl, rfl⟩ := h
    exact ⟨[], rfl, rfl, by simp, rfl, fun _ _ _ _ _ _ => ⟨rfl, by simp [impL]⟩⟩
  | x :: xs, vs, r, n, h => by
    obtain ⟨v, vs', r1, r2, rfl, rfl, h1, h3⟩ := h
    obtain ⟨L1, a1, a2, a3, a4, a5⟩ := impA_ok h1 n
    have hl : (impA own n x).2.length = L1.length := by rw [← a1]; simp
    obtain ⟨L2, b1, b2, b3, b4, b5⟩ := impL_ok (n + L1.length) h3
    refine ⟨L1 ++ L2, by simp only [List.map_append, a1, b1, impL, hl], by rw [List.filterMap_append, a2, b2], fun e he => ?_, ?_, fun al' hp' S' μ' hf hS => ?_⟩
    · rcases List.mem_append.1 he with he | he
      · exact a3 e he
      · exact b3 e he
    · rw [List.map_append, a4, b4, List.length_append, List.range'_append_1]
    · obtain ⟨f1, f2⟩ := hf.app
      have c1 := a5 al' hp' S' μ' f1 hS
      have c2 := b5 al' hp' S' μ' f2 hS
      simp only [impL, hl]
      refine ⟨by simp [c2.1], fun j c u p q => ?_⟩
      cases j with
      | zero => simp at p q; subst p; subst q; exact c1
      | succ j => exact c2.2 j c u (by simpa using p) (by simpa using q)

theorem impR_ok {own : Bool} {rs : List T} {v : Value} {r : List Nat} (h : ResOk own S w rs v r) (n : Nat) :
    ∃ L : List E, L.map (fun e => (e.1, e.2.1)) = (impR own n rs).2 ∧ L.filterMap E.blk = r ∧ (∀ e ∈ L, EOk S w e) ∧ L.map (·.1) = List.range' n L.length ∧
      ∀ al' hp' S' μ', Fits al' hp' μ' L → (own = false → ∀ a v, S a = some v → S' a = some v) → AVOk al' hp' S' μ' (impR own n rs).1 v := by
  unfold ResOk at h
  split at h
  · rename_i x
    obtain ⟨L, a1, a2, a3, a4, a5⟩ := impA_ok h n
    exact ⟨L, a1, a2, a3, a4, a5⟩
  · rename_i hno
    obtain ⟨vs, rfl, h1⟩ := h
    obtain ⟨L, a1, a2, a3, a4, a5⟩ := impL_ok n h1
    have e : impR own n rs = (.tup (impL own n rs).1, (impL own n rs).2) := by
      unfold impR
      split
      · exact (hno _ rfl).elim
      · rfl
    rw [e]
    exact ⟨L, a1, a2, a3, a4, fun al' hp' S' μ' f hS => ⟨vs, rfl, a5 al' hp' S' μ' f hS⟩⟩
end
end Go.Proofs.Ytbmdncjnnlajnaa.M
