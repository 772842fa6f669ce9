/- A machine of values: regions that draw their order, part 2: every order does the same. No condition. -/
import Derived.Test.YtbmdncjnnlajnaaM31
namespace Go.Proofs.Ytbmdncjnnlajnaa.M
open Go
set_option linter.unusedSimpArgs false
set_option linter.unusedVariables false
set_option linter.unusedSectionVars false

structure Apart (ops : Array Oper) (x y : Oper × Out) : Prop where
  a : ∀ t, x.1.dst = some t → t ∉ looks ops y.1 ∧ y.1.dst ≠ some t
  b : ∀ t, y.1.dst = some t → t ∉ looks ops x.1
  c : ∀ k ∈ x.2.u.map (·.1), k ∉ y.2.rd ∧ k ∉ y.2.u.map (·.1)
  d : ∀ k ∈ y.2.u.map (·.1), k ∉ x.2.rd
def Fact (P : Program) (τ : Tab) (md : Nat → Bool) (ops : Array Oper) (x : Oper × Out) (s : St) (n : Nat) : Prop :=
  (wantA ops s x.1 = some true ∧ x.2.rd = rdO s x.1 ∧ ∀ K' : AV → List (Nat × Blk) → Prop, K' x.2.v x.2.u → op P τ md x.1 s n K') ∨ (wantA ops s x.1 = some false ∧ x.2.v = .c .undef ∧ x.2.u = [])
def alD (n : Nat) (D : Nat → Bool) : Nat → Prop := fun i => i < n ∨ ∃ j, D j = true ∧ n + 16 * j ≤ i ∧ i < n + 16 * j + 16

theorem wantA_eq {ops : Array Oper} {o : Oper} {s s' : St} (h : ∀ t ∈ looks ops o, s'.get t = s.get t) : wantA ops s' o = wantA ops s o := by
  unfold wantA
  cases hg : o.guard with
  | none => rfl
  | some g =>
    obtain ⟨j, w⟩ := g
    simp only
    congr 1
    unfold yieldA
    cases ho : ops[j]? with
    | none => rfl
    | some x =>
      simp only [Option.bind_some]
      cases hd : x.dst with
      | none => rfl
      | some d =>
        simp only
        rw [h d (by simp [looks, hg, ho, hd])]

section
variable {P : Program} {τ : Tab} {Γ : Ctx} {md : Nat → Bool} {ops : Array Oper} {Q : Exit → Act → World → Prop} {L : List (Oper × Out)} {n : Nat} {s0 : St}

theorem any_out : ∀ (L : List (Oper × Out)) (D : Nat → Bool) (s : St) (t : Nat), ¬ t < s.N → (stD D L s).get t = s.get t
  | [], D, s, t, _ => rfl
  | x :: r, D, s, t, h => by
    rw [stD]
    split
    · rw [any_out r _ _ t (by rw [step_N]; exact h), step_get, if_neg fun hh => h hh.2]
    · exact any_out r _ _ t h
theorem any_fin {L : List (Oper × Out)} {n : Nat} {s0 : St} {ops : Array Oper} {Γ : Ctx} {Q : Exit → Act → World → Prop} (hops : ops.size = L.length) (hL : ∀ j : Nat, ops[j]? = (L[j]?).map (·.1))
    (hdep : ∀ (i : Nat) x, L[i]? = some x → ∀ e ∈ x.1.after, Region.binds .any e = true → e.on < i)
    (hQ : ∀ a w μ, Rel Γ (alD n fun j => decide (j < L.length)) (stD (fun _ => true) L s0) a w μ → Q .normal a w)
    {listed : Array Bool} {a : Act} {w : World} {μ : Nat → Option Pl} (hsz : listed.size = ops.size) (hr : Region.ready .any ops listed = [])
    (R : Rel Γ (alD n fun j => listed.getD j false) (stD (fun j => listed.getD j false) L s0) a w μ) : Q .normal a w := by
  have hall : ∀ j, j < ops.size → listed.getD j false = true := fun j => by
    induction j using Nat.strongRecOn with
    | _ j ihj =>
      intro hj
      cases hh : listed.getD j false with
      | true => rfl
      | false =>
        exfalso
        have hjl : j < listed.size := by omega
        have : j ∈ Region.ready .any ops listed := by
          rw [mem_ready]
          refine ⟨by simpa [hjl] using hh, ops[j], by simp [hj], fun e he hb => ?_⟩
          have hx := hL j
          rw [Array.getElem?_eq_getElem hj] at hx
          obtain ⟨x, hx1, hx2⟩ := Option.map_eq_some_iff.1 hx.symm
          have := hdep j x hx1 e (by rw [hx2]; exact he) hb
          exact ihj _ this (by omega)
        rw [hr] at this
        cases this
  have hD : (fun j => listed.getD j false) = fun j => decide (j < L.length) := by
    funext j
    by_cases hj : j < ops.size
    · rw [hall j hj, decide_eq_true (by omega)]
    · rw [decide_eq_false (by omega)]
      have : ¬ j < listed.size := by omega
      simp [this]
  rw [hD] at R
  refine hQ a w μ (R.like ⟨by rw [stD_N, stD_N], fun t => ?_, fun k => ?_⟩)
  · exact stD_get_congr L _ _ s0 s0 t rfl rfl fun j y hy _ => decide_eq_true (List.getElem?_eq_some_iff.1 hy).1
  · exact stD_find_congr L _ _ s0 s0 k rfl fun j y hy _ => decide_eq_true (List.getElem?_eq_some_iff.1 hy).1

theorem any_sound (hτ : TOk P τ) (hops : ops.size = L.length) (hL : ∀ j : Nat, ops[j]? = (L[j]?).map (·.1))
    (hF : ∀ (i : Nat) x, L[i]? = some x → Fact P τ md ops x (stD (fun j => decide (j < i)) L s0) (n + 16 * i))
    (hdep : ∀ (i : Nat) x, L[i]? = some x → ∀ e ∈ x.1.after, Region.binds .any e = true → e.on < i)
    (hap : ∀ (i j : Nat) x y, i < j → L[i]? = some x → L[j]? = some y → (∃ e ∈ y.1.after, Region.binds .any e = true ∧ e.on = i) ∨ Apart ops x y)
    (hQ : ∀ a w μ, Rel Γ (alD n fun j => decide (j < L.length)) (stD (fun _ => true) L s0) a w μ → Q .normal a w) :
    ∀ (fuel : Nat) (listed : Array Bool) (a : Act) (w : World) (μ : Nat → Option Pl), listed.size = ops.size →
      (∀ (j : Nat) x, L[j]? = some x → listed.getD j false = true → ∀ e ∈ x.1.after, Region.binds .any e = true → listed.getD e.on false = true) →
      listed.toList.count false ≤ fuel → Rel Γ (alD n fun j => listed.getD j false) (stD (fun j => listed.getD j false) L s0) a w μ → wpAny P .any ops Q fuel listed a w := by
  intro fuel
  induction fuel with
  | zero =>
    intro listed a w μ hsz hcl hct R
    have hr : Region.ready .any ops listed = [] := by
      rw [List.eq_nil_iff_forall_not_mem]
      intro i hi
      rw [mem_ready] at hi
      have h0 := hi.1
      have hlt : i < listed.size := by
        rcases Nat.lt_or_ge i listed.size with h | h
        · exact h
        · simp [Array.getElem?_eq_none h] at h0
      have hmem : false ∈ listed.toList := by
        simp [hlt] at h0
        rw [← h0]; simp
      have := List.count_pos_iff.2 hmem
      omega
    exact ⟨hr, any_fin hops hL hdep hQ hsz hr R⟩
  | succ fuel ih =>
    intro listed a w μ hsz hcl hct R
    refine ⟨fun hr => any_fin hops hL hdep hQ hsz hr R, fun i hi => ?_⟩
    rw [mem_ready] at hi
    obtain ⟨h0, o, ho, haft⟩ := hi
    have hlt : i < listed.size := by
      rcases Nat.lt_or_ge i listed.size with h | h
      · exact h
      · simp [Array.getElem?_eq_none h] at h0
    have hDi : listed.getD i false = false := by simpa [hlt] using h0
    obtain ⟨x, hx, hxo⟩ : ∃ x, L[i]? = some x ∧ x.1 = o := by
      have := hL i
      rw [ho] at this
      obtain ⟨x, h1, h2⟩ := Option.map_eq_some_iff.1 this.symm
      exact ⟨x, h1, h2⟩
    subst hxo
    have hD' : ∀ j, (listed.setIfInBounds i true).getD j false = if j = i then true else listed.getD j false := fun j => by
      by_cases hj : j = i
      · subst hj; simp [hlt]
      · rw [if_neg hj]; exact getD_set_ne false (Ne.symm hj)
    have tmA : ∀ t ∈ looks ops x.1, (stD (fun j => listed.getD j false) L s0).get t = (stD (fun j => decide (j < i)) L s0).get t := fun t ht =>
      stD_get_congr L _ _ s0 s0 t rfl rfl fun j y hy hd => by
        rcases Nat.lt_trichotomy j i with hji | hji | hji
        · rw [decide_eq_true hji]
          rcases hap j i y x hji hy hx with ⟨e, he, hb, heo⟩ | hA
          · rw [← heo]; exact haft e he hb
          · exact absurd ht (hA.a t hd).1
        · subst hji; simpa using hDi
        · rw [decide_eq_false (by omega)]
          cases hj : listed.getD j false with
          | false => rfl
          | true =>
            rcases hap i j x y hji hx hy with ⟨e, he, hb, heo⟩ | hA
            · have := hcl j y hy hj e he hb
              rw [heo, hDi] at this; cases this
            · exact absurd ht (hA.b t hd)
    have hpA : ∀ k ∈ x.2.rd, find (stD (fun j => listed.getD j false) L s0).hp k = find (stD (fun j => decide (j < i)) L s0).hp k := fun k hk =>
      stD_find_congr L _ _ s0 s0 k rfl fun j y hy hd => by
        rcases Nat.lt_trichotomy j i with hji | hji | hji
        · rw [decide_eq_true hji]
          rcases hap j i y x hji hy hx with ⟨e, he, hb, heo⟩ | hA
          · rw [← heo]; exact haft e he hb
          · exact absurd hk (hA.c k hd).1
        · subst hji; simpa using hDi
        · rw [decide_eq_false (by omega)]
          cases hj : listed.getD j false with
          | false => rfl
          | true =>
            rcases hap i j x y hji hx hy with ⟨e, he, hb, heo⟩ | hA
            · have := hcl j y hy hj e he hb
              rw [heo, hDi] at this; cases this
            · exact absurd hk (hA.d k hd)
    have hlater : ∀ (j : Nat) y, i < j → L[j]? = some y → (listed.setIfInBounds i true).getD j false = true → Apart ops x y := fun j y hj hy hDj => by
      rw [hD', if_neg (by omega)] at hDj
      rcases hap i j x y hj hx hy with ⟨e, he, hb, heo⟩ | hA
      · have := hcl j y hy hDj e he hb
        rw [heo, hDi] at this; cases this
      · exact hA
    have hLike : Like (step (stD (fun j => listed.getD j false) L s0) x.1.dst x.2) (stD (fun j => (listed.setIfInBounds i true).getD j false) L s0) := by
      refine ⟨by rw [step_N, stD_N, stD_N], fun t => ?_, fun k => ?_⟩
      · rw [step_get, stD_N]
        have hne : x.1.dst ≠ some t → (stD (fun j => listed.getD j false) L s0).get t = (stD (fun j => (listed.setIfInBounds i true).getD j false) L s0).get t := fun hd =>
          stD_get_congr L _ _ s0 s0 t rfl rfl fun j y hy hdj => by
            rw [hD']
            by_cases hj : j = i
            · subst hj; rw [hx] at hy; cases hy; exact absurd hdj hd
            · rw [if_neg hj]
        by_cases hd : x.1.dst = some t
        · by_cases hN : t < s0.N
          · rw [if_pos ⟨hd, hN⟩]
            exact (stD_get_last L _ s0 i x t hx (by rw [hD', if_pos rfl]) hd hN fun j y hj hy hDj => ((hlater j y hj hy hDj).a t hd).2).symm
          · rw [if_neg fun h => hN h.2, any_out L _ s0 t hN, any_out L _ s0 t hN]
        · rw [if_neg fun h => hd h.1]
          exact hne hd
      · by_cases hk : k ∈ x.2.u.map (·.1)
        · exact (stD_find_last L _ s0 _ i x k hx (by rw [hD', if_pos rfl]) hk fun j y hj hy hDj => ((hlater j y hj hy hDj).c k hk).2).symm
        · rw [step_find_out hk]
          refine stD_find_congr L _ _ s0 s0 k rfl fun j y hy hdj => ?_
          rw [hD']
          by_cases hj : j = i
          · subst hj; rw [hx] at hy; cases hy; exact absurd hdj hk
          · rw [if_neg hj]
    have hal : al16 (alD n fun j => listed.getD j false) (n + 16 * i) = alD n fun j => (listed.setIfInBounds i true).getD j false := by
      funext k
      simp only [al16, alD, eq_iff_iff]
      constructor
      · rintro ((h | ⟨j, h1, h2⟩) | h)
        · exact .inl h
        · exact .inr ⟨j, by rw [hD']; split; · rfl
                            · exact h1, h2⟩
        · exact .inr ⟨i, by rw [hD', if_pos rfl], h⟩
      · rintro (h | ⟨j, h1, h2⟩)
        · exact .inl (.inl h)
        · rw [hD'] at h1
          by_cases hj : j = i
          · subst hj; exact .inr h2
          · rw [if_neg hj] at h1; exact .inl (.inr ⟨j, h1, h2⟩)
    have go : ∀ a' w' μ', Rel Γ (al16 (alD n fun j => listed.getD j false) (n + 16 * i)) (step (stD (fun j => listed.getD j false) L s0) x.1.dst x.2) a' w' μ' → wpAny P .any ops Q fuel (listed.setIfInBounds i true) a' w' := fun a' w' μ' R' => by
      rw [hal] at R'
      refine ih _ a' w' μ' (by simpa using hsz) (fun j y hy hj e he hb => ?_) ?_ (R'.like hLike)
      · rw [hD'] at hj
        by_cases hji : j = i
        · subst hji; rw [hx] at hy; cases hy; exact getD_set_true (haft e he hb)
        · rw [if_neg hji] at hj; exact getD_set_true (hcl j y hy hj e he hb)
      · rw [Array.toList_setIfInBounds, List.count_set (by simpa using hlt)]
        have : listed.toList[i]'(by simpa using hlt) = false := by simpa [hlt] using h0
        rw [this]
        have e : ((true == false) = true) = False := by simp
        simp only [beq_self_eq_true, if_true, e, if_false]
        omega
    unfold wpOp
    rw [ho]
    simp only
    have hw0 : wantA ops (stD (fun j => listed.getD j false) L s0) x.1 = wantA ops (stD (fun j => decide (j < i)) L s0) x.1 := wantA_eq tmA
    rcases hF i x hx with ⟨h1, h2, h3⟩ | ⟨h1, h2, h3⟩
    · rw [← hw0] at h1
      rw [want_ok R h1, if_pos rfl]
      left
      have hA : Agree ops x.1 (stD (fun j => decide (j < i)) L s0) (stD (fun j => listed.getD j false) L s0) := ⟨tmA, fun k hk => hpA k (by rw [h2]; exact hk)⟩
      refine op_sound (md := md) hτ R (n := n + 16 * i) (K := fun v u => v = x.2.v ∧ u = x.2.u) (fun k hk hh => ?_) (by rw [op_frame hA]; exact h3 _ ⟨rfl, rfl⟩) (fun v u val w' μ' hk hm he hv => ?_)
      · rcases hh with hh | ⟨j, hj1, hj2⟩
        · omega
        · have : j = i := by omega
          subst this; dsimp only at hj1; rw [hDi] at hj1; cases hj1
      · obtain ⟨rfl, rfl⟩ := hk
        have R' : Rel Γ (al16 (alD n fun j => listed.getD j false) (n + 16 * i)) ((stD (fun j => listed.getD j false) L s0).upd x.2.u) a w' μ' := ⟨hm, by rw [upd_N]; exact R.size, fun t => by rw [upd_get]; exact (R.tmp t).mono he, R.defers⟩
        exact go _ _ _ (R'.set x.1.dst x.2.v val hv)
    · rw [← hw0] at h1
      rw [want_ok R h1, if_neg (by simp)]
      have hm := R.mem.grow (Fr.refl [] w) (al' := al16 (alD n fun j => listed.getD j false) (n + 16 * i)) (fun i hi => .inl hi)
      have R' : Rel Γ (al16 (alD n fun j => listed.getD j false) (n + 16 * i)) (stD (fun j => listed.getD j false) L s0) a w μ := ⟨hm.1, R.size, fun t => (R.tmp t).mono hm.2, R.defers⟩
      refine go _ _ μ ?_
      have e : step (stD (fun j => listed.getD j false) L s0) x.1.dst x.2 = (stD (fun j => listed.getD j false) L s0).set x.1.dst (.c .undef) := by rw [step, h2, h3]; rfl
      rw [e]
      exact R'.set x.1.dst (.c .undef) undef trivial
end
end Go.Proofs.Ytbmdncjnnlajnaa.M
