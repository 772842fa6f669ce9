/- A machine of values: each operation does on the machine what is told of it, part 12: calls, what comes back. No condition. -/
import Derived.Test.YtbmdncjnnlajnaaM15
namespace Go.Proofs.Ytbmdncjnnlajnaa.M
open Go
set_option linter.unusedSimpArgs false
set_option linter.unusedVariables false
set_option linter.unusedSectionVars false

section
variable {P : Program} {τ : Tab} {Γ : Ctx} {al : Nat → Prop} {s : St} {a : Act} {w w' : World} {μ : Nat → Option Pl} {n : Nat} {K : AV → List (Nat × Blk) → Prop} {next : Act → World → Prop}
variable {o : Oper} {Q : Exit → Act → World → Prop} {md : Nat → Bool} {hp : List (Nat × Blk)} {S S0 S' : Addr → Option Value}

/-- What is asked of the numbers of entries that stand for some boxes' numbers and for some new ones. -/
structure Ids (hp : List (Nat × Blk)) (μ : Nat → Option Pl) (L : List E) (is : List Nat) (n m : Nat) : Prop where
  mem : ∀ e ∈ L, e.1 ∈ is ∨ (n ≤ e.1 ∧ e.1 < n + m)
  nd : is.Nodup → (∀ i ∈ is, ¬ (n ≤ i ∧ i < n + m)) → (L.map (·.1)).Nodup
  all : ∀ i ∈ is, ∃ e ∈ L, e.1 = i
  old : ∀ e ∈ L, e.1 ∈ is → (∃ cs cs', e.2.1 = .box cs' ∧ find hp e.1 = some (.box cs) ∧ e.2.2 = μ e.1) ∨ (∀ cs', e.2.1 ≠ .box cs') ∧ ∀ i, verOf [(i, e.2.1)] i = verOf hp e.1 + 1

theorem Ids.nil : Ids hp μ [] [] n 0 := ⟨by simp, by simp, by simp, by simp⟩
theorem Ids.app {L1 L2 : List E} {i1 i2 : List Nat} {m1 m2 : Nat} (h1 : Ids hp μ L1 i1 n m1) (h2 : Ids hp μ L2 i2 (n + m1) m2) (hno : ∀ i ∈ i1 ++ i2, ¬ (n ≤ i ∧ i < n + (m1 + m2))) : Ids hp μ (L1 ++ L2) (i1 ++ i2) n (m1 + m2) := by
  refine ⟨fun e he => ?_, fun hnd _ => ?_, fun i hi => ?_, fun e he hi => ?_⟩
  · rcases List.mem_append.1 he with he | he
    · rcases h1.mem e he with h | h
      · exact .inl (List.mem_append.2 (.inl h))
      · exact .inr ⟨h.1, by omega⟩
    · rcases h2.mem e he with h | h
      · exact .inl (List.mem_append.2 (.inr h))
      · exact .inr ⟨by omega, by omega⟩
  · obtain ⟨n1, n2, n3⟩ := List.nodup_append.1 hnd
    rw [List.map_append]
    refine List.nodup_append.2 ⟨h1.nd n1 (fun i hi hh => hno i (List.mem_append.2 (.inl hi)) ⟨hh.1, by omega⟩), h2.nd n2 (fun i hi hh => hno i (List.mem_append.2 (.inr hi)) ⟨by omega, by omega⟩), fun x hx y hy hxy => ?_⟩
    subst hxy
    obtain ⟨e, he, rfl⟩ := List.mem_map.1 hx
    obtain ⟨e', he', hee⟩ := List.mem_map.1 hy
    rcases h1.mem e he with m1 | m1
    · rcases h2.mem e' he' with m2 | m2
      · exact n3 _ m1 _ m2 hee.symm
      · exact hno _ (List.mem_append.2 (.inl m1)) ⟨by omega, by omega⟩
    · rcases h2.mem e' he' with m2 | m2
      · exact hno _ (List.mem_append.2 (.inr m2)) ⟨by omega, by omega⟩
      · omega
  · rcases List.mem_append.1 hi with hi | hi
    · obtain ⟨e, he, h⟩ := h1.all i hi; exact ⟨e, List.mem_append.2 (.inl he), h⟩
    · obtain ⟨e, he, h⟩ := h2.all i hi; exact ⟨e, List.mem_append.2 (.inr he), h⟩
  · rcases List.mem_append.1 he with he | he
    · rcases h1.mem e he with m1 | m1
      · exact h1.old e he m1
      · exact absurd ⟨m1.1, by omega⟩ (hno _ hi)
    · rcases h2.mem e he with m2 | m2
      · exact h2.old e he m2
      · exact absurd ⟨by omega, by omega⟩ (hno _ hi)

theorem Ids.one {i ver : Nat} {b : Blk} {p : Option Pl} (h : verOf hp i = ver) (hb : ∀ cs', b ≠ .box cs') (hv : ∀ j, verOf [(j, b)] j = ver + 1) : Ids hp μ [(i, b, p)] [i] n 1 :=
  ⟨fun e he => .inl (by rw [List.mem_singleton.1 he]; simp), fun _ _ => by simp, fun j hj => ⟨_, List.mem_singleton.2 rfl, (List.mem_singleton.1 hj).symm⟩, fun e he _ => by
    obtain rfl := List.mem_singleton.1 he
    exact .inr ⟨hb, fun j => by rw [h]; exact hv j⟩⟩
theorem Ids.new {b : Blk} {p : Option Pl} : Ids hp μ [(n, b, p)] [] n 1 :=
  ⟨fun e he => .inr (by rw [List.mem_singleton.1 he]; simp), fun _ _ => by simp, by simp, by simp⟩

theorem outC_ok {c : C} {x : BC} {v : Value} {r : List Nat} {own : Bool} (hb : bcK hp c fun _ => True) (h : BCOk S w x v r) (n : Nat) :
    ∃ L : List E, L.map (fun e => (e.1, e.2.1)) = (outC own n c x).2 ∧ L.filterMap E.blk = r ∧ (∀ e ∈ L, EOk S w e) ∧ Ids hp μ L (ownsC c) n L.length ∧
      ∀ al' hp' S' μ', Fits al' hp' μ' L → (own = false → ∀ a v, S a = some v → S' a = some v) → COk al' hp' S' μ' (outC own n c x).1 v := by
  have hver : ∀ i v o m, c = .own i v o m → verOf hp i = v := fun i v o m e => by
    subst e
    unfold bcK at hb
    split at hb <;> first | (rename_i e; cases e; done) | skip
    · rename_i i' v' n' e
      simp only [C.own.injEq] at e
      obtain ⟨rfl, rfl, rfl, rfl⟩ := e
      split at hb
      · rename_i sz es v' hf
        split at hb
        · rename_i hv; simp only [beq_iff_eq] at hv; simp [verOf, hf, hv]
        · exact hb.elim
      · exact hb.elim
    · exact hb.elim
  have htx : ∀ {x : T} {al' hp' S' μ'}, BCOk S w (.t x) v r → (own = false → ∀ a v, S a = some v → S' a = some v) → COk al' hp' S' μ' (if own && !x.scal then .undef else .t x) v := fun {x al' hp' S' μ'} h hS => by
    obtain ⟨_, h2, h3⟩ := h
    split
    · trivial
    · rename_i hc
      cases own with
      | false => exact ⟨h2.mono (hS rfl), h3⟩
      | true => exact ⟨h2.scal (by simpa using hc), h3⟩
  have hfroz : ∀ i v, verOf hp i = v → ∀ sz, Ids hp μ [((i, .froz sz [] (v + 1), none) : E)] [i] n 1 := fun i v hv sz => Ids.one hv (by simp) (fun j => by simp [verOf, find])
  cases x with
  | t x =>
    have hr : r = [] := h.1
    subst hr
    cases c with
    | own i ver o m => exact ⟨[(i, .froz 0 [] (ver + 1), none)], rfl, rfl, by simp [EOk], hfroz _ _ (hver _ _ _ _ rfl) 0, fun al' hp' S' μ' _ hS => htx h hS⟩
    | _ => exact ⟨[], rfl, rfl, by simp, Ids.nil, fun al' hp' S' μ' _ hS => htx h hS⟩
  | nil sz =>
    obtain ⟨rfl, rfl⟩ := h
    cases c with
    | own i ver o m => exact ⟨[(i, .froz 0 [] (ver + 1), none)], rfl, rfl, by simp [EOk], hfroz _ _ (hver _ _ _ _ rfl) 0, fun al' hp' S' μ' _ hS => rfl⟩
    | _ => exact ⟨[], rfl, rfl, by simp, Ids.nil, fun al' hp' S' μ' _ hS => rfl⟩
  | arr sz es =>
    have hone := BCOk.one h
    cases c with
    | own i ver o m =>
      obtain ⟨p, h1, h2, h3, h4⟩ := bc_arr h i (ver + 1)
      refine ⟨[(i, .arr sz es (ver + 1), p)], rfl, by rw [← h1]; cases p <;> simp [E.blk, Blk.live], by simpa using h2, Ids.one (hver _ _ _ _ rfl) (by simp) (fun j => by simp [verOf, find]), fun al' hp' S' μ' hf _ => ?_⟩
      obtain ⟨f1, f2, f3⟩ := hf _ (List.mem_singleton.2 rfl)
      exact own_fits f1 f2 f3 h3 h4
    | _ =>
      obtain ⟨p, h1, h2, h3, h4⟩ := bc_arr h n 0
      refine ⟨[(n, .arr sz es 0, p)], rfl, by rw [← h1]; cases p <;> simp [E.blk, Blk.live], by simpa using h2, Ids.new, fun al' hp' S' μ' hf _ => ?_⟩
      obtain ⟨f1, f2, f3⟩ := hf _ (List.mem_singleton.2 rfl)
      exact own_fits f1 f2 f3 h3 h4

theorem bcK_ex {c : C} {K : BC → Prop} (h : bcK hp c K) : ∃ x, K x := by
  unfold bcK at h
  split at h
  · exact ⟨_, h⟩
  · exact ⟨_, h⟩
  · split at h
    · split at h
      · exact ⟨_, h.2.2⟩
      · exact h.elim
    · exact h.elim
  · exact h.elim
theorem bcsK_cons {c : C} {cs : List C} (h : bcsK hp (c :: cs) fun _ => True) : bcK hp c (fun _ => True) ∧ bcsK hp cs fun _ => True := by
  simp only [bcsK] at h
  obtain ⟨x, hx⟩ := bcK_ex h
  exact ⟨bcK_mono (fun _ _ => trivial) h, bcsK_mono (fun _ _ => trivial) hx⟩

theorem outCs_ok {own : Bool} : ∀ {cs : List C} {xs : List BC} {vs : List Value} {r : List Nat} (n k : Nat), (bcsK hp cs fun _ => True) → xs.length = cs.length → BCsOk S w xs vs r → (∀ i ∈ cs.flatMap ownsC, ¬ (n ≤ i ∧ i < n + k)) → (outCs own n cs xs).2.length ≤ k →
    ∃ L : List E, L.map (fun e => (e.1, e.2.1)) = (outCs own n cs xs).2 ∧ L.filterMap E.blk = r ∧ (∀ e ∈ L, EOk S w e) ∧ Ids hp μ L (cs.flatMap ownsC) n L.length ∧ vs.length = cs.length ∧
      ∀ al' hp' S' μ', Fits al' hp' μ' L → (own = false → ∀ a v, S a = some v → S' a = some v) → CsOk al' hp' S' μ' (outCs own n cs xs).1 vs
  | [], xs, vs, r, n, k, _, hl, h, _, _ => by
    have : xs = [] := List.length_eq_zero_iff.1 hl
    subst this
    obtain ⟨rfl, rfl⟩ := h
    exact ⟨[], rfl, rfl, by simp, Ids.nil, rfl, fun _ _ _ _ _ _ => ⟨rfl, by simp, by simp [outCs]⟩⟩
  | c :: cs, [], vs, r, n, k, _, hl, h, _, _ => by simp at hl
  | c :: cs, x :: xs, vs, r, n, k, hb, hl, h, hno, hk => by
    obtain ⟨v, vs', r1, r2, rfl, rfl, h1, h3⟩ := h
    obtain ⟨hb1, hb2⟩ := bcsK_cons hb
    obtain ⟨L1, a1, a2, a3, a4, a5⟩ := outC_ok (own := own) (μ := μ) hb1 h1 n
    have hlen : (outC own n c x).2.length = L1.length := by rw [← a1]; simp
    simp only [outCs, hlen, List.length_append] at hk
    obtain ⟨L2, b1, b2, b3, b4, b5, b6⟩ := outCs_ok (own := own) (n + L1.length) (k - L1.length) hb2 (by simpa using hl) h3 (fun i hi hh => hno i (by rw [List.flatMap_cons]; exact List.mem_append.2 (.inr hi)) ⟨by omega, by omega⟩) (by omega)
    have hl2 : (outCs own (n + L1.length) cs xs).2.length = L2.length := by rw [← b1]; simp
    have hids : Ids hp μ (L1 ++ L2) (ownsC c ++ cs.flatMap ownsC) n (L1 ++ L2).length := by
      rw [List.length_append]
      exact Ids.app a4 b4 (fun i hi hh => hno i (by rw [List.flatMap_cons]; exact hi) ⟨by omega, by omega⟩)
    refine ⟨L1 ++ L2, by simp only [List.map_append, a1, b1, outCs, hlen], by rw [List.filterMap_append, a2, b2], fun e he => ?_, by rw [List.flatMap_cons]; exact hids, by simp [b5], fun al' hp' S' μ' hf hS => ?_⟩
    · rcases List.mem_append.1 he with he | he
      · exact a3 e he
      · exact b3 e he
    · obtain ⟨f1, f2⟩ := hf.app
      have c1 := a5 al' hp' S' μ' f1 hS
      have c2 := b6 al' hp' S' μ' f2 hS
      simp only [outCs, hlen]
      refine ⟨by simp [c2.1], fun u hu => ?_, fun j c u p q => ?_⟩
      · rcases List.mem_cons.1 hu with rfl | hu
        · exact BCOk.one h1
        · exact c2.2.1 u hu
      · cases j with
        | zero => simp at p q; subst p; subst q; exact c1
        | succ j => exact c2.2.2 j c u (by simpa using p) (by simpa using q)
end
end Go.Proofs.Ytbmdncjnnlajnaa.M
