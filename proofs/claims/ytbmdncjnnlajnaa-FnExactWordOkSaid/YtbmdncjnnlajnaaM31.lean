/- A machine of values: regions that draw their order, part 1: the states. No condition. -/
import Derived.Test.YtbmdncjnnlajnaaM30
import Derived.Orders
namespace Go.Proofs.Ytbmdncjnnlajnaa.M
open Go
set_option linter.unusedSimpArgs false
set_option linter.unusedVariables false
set_option linter.unusedSectionVars false

/-- What one operation has brought. -/
structure Out where
  v : AV
  u : List (Nat × Blk)
  rd : List Nat
def step (s : St) (d : Option Nat) (e : Out) : St := (s.upd e.u).set d e.v
/-- The state behind some of the operations, in the text's order. -/
def stD : (Nat → Bool) → List (Oper × Out) → St → St
  | _, [], s => s
  | D, x :: r, s => stD (fun i => D (i + 1)) r (if D 0 = true then step s x.1.dst x.2 else s)

theorem set_N (s : St) (d : Option Nat) (v : AV) : (s.set d v).N = s.N := by unfold St.set; cases d <;> simp; split <;> rfl
theorem set_hp (s : St) (d : Option Nat) (v : AV) : (s.set d v).hp = s.hp := by unfold St.set; cases d <;> simp; split <;> rfl
theorem step_N (s : St) (d : Option Nat) (e : Out) : (step s d e).N = s.N := by rw [step, set_N, upd_N]
theorem step_get (s : St) (d : Option Nat) (e : Out) (t : Nat) : (step s d e).get t = if d = some t ∧ t < s.N then e.v else s.get t := by rw [step, get_set, upd_N, upd_get]
theorem step_hp (s : St) (d : Option Nat) (e : Out) : (step s d e).hp = updH s.hp e.u := by rw [step, set_hp, upd_hp]
theorem step_find_out {s : St} {d : Option Nat} {e : Out} {i : Nat} (h : i ∉ e.u.map (·.1)) : find (step s d e).hp i = find s.hp i := by
  rw [step_hp]; exact updH_none _ _ _ fun x hx hi => h (List.mem_map.2 ⟨x, hx, hi⟩)
theorem updH_same : ∀ (u : List (Nat × Blk)) (hp hp' : List (Nat × Blk)) (i : Nat), i ∈ u.map (·.1) ∨ find hp i = find hp' i → find (updH hp u) i = find (updH hp' u) i
  | [], hp, hp', i, h => by rcases h with h | h; · simp at h
                            · exact h
  | (j, b) :: r, hp, hp', i, h => by
    rw [updH, updH]
    refine updH_same r _ _ i ?_
    by_cases hr : i ∈ r.map (·.1)
    · exact .inl hr
    · refine .inr ?_
      rw [find_put, find_put]
      by_cases hj : j = i
      · rw [if_pos hj, if_pos hj]
      · rw [if_neg hj, if_neg hj]
        rcases h with h | h
        · simp only [List.map_cons, List.mem_cons] at h
          rcases h with h | h
          · exact absurd h.symm hj
          · exact absurd h hr
        · exact h
theorem step_find_in {s s' : St} {d d' : Option Nat} {e : Out} {i : Nat} (h : i ∈ e.u.map (·.1)) : find (step s d e).hp i = find (step s' d' e).hp i := by
  rw [step_hp, step_hp]; exact updH_same _ _ _ _ (.inl h)
theorem step_find_same {s s' : St} {d d' : Option Nat} {e : Out} {i : Nat} (h : find s.hp i = find s'.hp i) : find (step s d e).hp i = find (step s' d' e).hp i := by
  rw [step_hp, step_hp]; exact updH_same _ _ _ _ (.inr h)

theorem stD_N : ∀ (L : List (Oper × Out)) (D : Nat → Bool) (s : St), (stD D L s).N = s.N
  | [], D, s => rfl
  | x :: r, D, s => by rw [stD, stD_N r]; split; · exact step_N ..
                       · rfl
theorem stD_get_congr : ∀ (L : List (Oper × Out)) (D D' : Nat → Bool) (s s' : St) (t : Nat), s.N = s'.N → s.get t = s'.get t → (∀ (j : Nat) x, L[j]? = some x → x.1.dst = some t → D j = D' j) → (stD D L s).get t = (stD D' L s').get t
  | [], D, D', s, s', t, hN, h, _ => h
  | x :: r, D, D', s, s', t, hN, h, hD => by
    rw [stD, stD]
    refine stD_get_congr r _ _ _ _ t ?_ ?_ fun j y hy hd => hD (j + 1) y (by simpa using hy) hd
    · split <;> split <;> simp only [step_N, hN]
    · by_cases hd : x.1.dst = some t
      · rw [hD 0 x (by simp) hd]
        split
        · rw [step_get, step_get, hN, h]
        · exact h
      · have e : ∀ s : St, (step s x.1.dst x.2).get t = s.get t := fun s => by rw [step_get, if_neg fun hh => hd hh.1]
        split <;> split <;> simp only [e, h]
theorem stD_find_congr : ∀ (L : List (Oper × Out)) (D D' : Nat → Bool) (s s' : St) (t : Nat), find s.hp t = find s'.hp t → (∀ (j : Nat) x, L[j]? = some x → t ∈ x.2.u.map (·.1) → D j = D' j) → find (stD D L s).hp t = find (stD D' L s').hp t
  | [], D, D', s, s', t, h, _ => h
  | x :: r, D, D', s, s', t, h, hD => by
    rw [stD, stD]
    refine stD_find_congr r _ _ _ _ t ?_ fun j y hy hd => hD (j + 1) y (by simpa using hy) hd
    by_cases hd : t ∈ x.2.u.map (·.1)
    · rw [hD 0 x (by simp) hd]
      split
      · exact step_find_same h
      · exact h
    · have e : ∀ s : St, find (step s x.1.dst x.2).hp t = find s.hp t := fun s => step_find_out hd
      split <;> split <;> simp only [e, h]
theorem stD_none : ∀ (L : List (Oper × Out)) {s : St}, stD (fun _ => false) L s = s
  | [], s => rfl
  | x :: r, s => by rw [stD]; exact stD_none r
theorem stD_get_last : ∀ (L : List (Oper × Out)) (D : Nat → Bool) (s : St) (i : Nat) (x : Oper × Out) (t : Nat), L[i]? = some x → D i = true → x.1.dst = some t → t < s.N → (∀ (j : Nat) y, i < j → L[j]? = some y → D j = true → y.1.dst ≠ some t) → (stD D L s).get t = x.2.v
  | [], D, s, i, x, t, h, _, _, _, _ => by simp at h
  | y :: r, D, s, 0, x, t, h, hD, hd, hN, hl => by
    obtain rfl : y = x := by simpa using h
    rw [stD, if_pos hD]
    have : (stD (fun i => D (i + 1)) r (step s y.1.dst y.2)).get t = (stD (fun _ => false) r (step s y.1.dst y.2)).get t := stD_get_congr r _ _ _ _ t rfl rfl fun j z hz hdz => by
      cases hh : D (j + 1) with
      | false => rfl
      | true => exact absurd hdz (hl (j + 1) z (by omega) (by simpa using hz) hh)
    rw [this, stD_none r, step_get, if_pos ⟨hd, hN⟩]
  | y :: r, D, s, i + 1, x, t, h, hD, hd, hN, hl => by
    rw [stD]
    refine stD_get_last r _ _ i x t (by simpa using h) hD hd ?_ fun j z hj hz hDz => hl (j + 1) z (by omega) (by simpa using hz) hDz
    split
    · rw [step_N]; exact hN
    · exact hN
theorem stD_find_last : ∀ (L : List (Oper × Out)) (D : Nat → Bool) (s s0 : St) (i : Nat) (x : Oper × Out) (t : Nat), L[i]? = some x → D i = true → t ∈ x.2.u.map (·.1) → (∀ (j : Nat) y, i < j → L[j]? = some y → D j = true → t ∉ y.2.u.map (·.1)) → find (stD D L s).hp t = find (step s0 x.1.dst x.2).hp t
  | [], D, s, s0, i, x, t, h, _, _, _ => by simp at h
  | y :: r, D, s, s0, 0, x, t, h, hD, hd, hl => by
    obtain rfl : y = x := by simpa using h
    rw [stD, if_pos hD]
    have : find (stD (fun i => D (i + 1)) r (step s y.1.dst y.2)).hp t = find (stD (fun _ => false) r (step s y.1.dst y.2)).hp t := stD_find_congr r _ _ _ _ t rfl fun j z hz hdz => by
      cases hh : D (j + 1) with
      | false => rfl
      | true => exact absurd hdz (hl (j + 1) z (by omega) (by simpa using hz) hh)
    rw [this, stD_none r]
    exact step_find_in hd
  | y :: r, D, s, s0, i + 1, x, t, h, hD, hd, hl => by
    rw [stD]
    exact stD_find_last r _ _ s0 i x t (by simpa using h) hD hd fun j z hj hz hDz => hl (j + 1) z (by omega) (by simpa using hz) hDz

/-! ### States that look alike -/
structure Like (s s' : St) : Prop where
  N : s.N = s'.N
  tm : ∀ t, s.get t = s'.get t
  hp : ∀ i, find s.hp i = find s'.hp i
section
variable {Γ : Ctx} {al : Nat → Prop} {s s' : St} {a : Act} {w : World} {μ : Nat → Option Pl} {hp hp' : List (Nat × Blk)} {S : Addr → Option Value}
theorem COk.like (h : ∀ i, find hp i = find hp' i) {c : C} {v : Value} (hc : COk al hp S μ c v) : COk al hp' S μ c v := by
  have h1 : ∀ i v, arrOf hp i v = arrOf hp' i v := fun i v => by simp [arrOf, h i]
  have h2 : ∀ i, verOf hp i = verOf hp' i := fun i => by simp [verOf, h i]
  cases c <;> first | exact hc | (simp only [COk, h1, h2, h] at hc ⊢; exact hc)
theorem CsOk.like (h : ∀ i, find hp i = find hp' i) {c : List C} {v : List Value} (hc : CsOk al hp S μ c v) : CsOk al hp' S μ c v := ⟨hc.1, hc.2.1, fun j c v a b => (hc.2.2 j c v a b).like h⟩
theorem AOk.like (h : ∀ i, find hp i = find hp' i) {c : A} {v : Value} (hc : AOk al hp S μ c v) : AOk al hp' S μ c v := by
  cases c with
  | c c => exact COk.like h hc
  | g cs => obtain ⟨vs, h1, h2⟩ := hc; exact ⟨vs, h1, h2.like h⟩
theorem AVOk.like (h : ∀ i, find hp i = find hp' i) {c : AV} {v : Value} (hc : AVOk al hp S μ c v) : AVOk al hp' S μ c v := by
  cases c with
  | a c => exact AOk.like h hc
  | tup cs => obtain ⟨vs, h1, h2, h3⟩ := hc; exact ⟨vs, h1, h2, fun j x v a b => (h3 j x v a b).like h⟩
theorem live_like (h : ∀ i, find hp i = find hp' i) : live hp = live hp' := by funext i; simp [live, h i]
theorem Sv_like (h : ∀ i, find hp i = find hp' i) {G : Nat → Prop} : Sv G hp μ w = Sv G hp' μ w := by
  have e := live_like h
  unfold Sv
  generalize live hp = L at e ⊢
  subst e
  rfl
theorem Rel.like (R : Rel Γ al s a w μ) (h : Like s s') : Rel Γ al s' a w μ := by
  have hl := live_like h.hp
  have hS : Sv Γ.G s.hp μ w = Sv Γ.G s'.hp μ w := Sv_like h.hp
  refine ⟨⟨R.mem.fr, R.mem.gd, fun i b hb => ⟨(R.mem.pin i b hb).1, fun cs hcs => (R.mem.pin i b hb).2 cs (by rw [h.hp]; exact hcs)⟩, fun i b hb => R.mem.used i b (by rw [h.hp]; exact hb), fun i p hi hp => R.mem.mine i p (by rw [hl]; exact hi) hp,
    fun i j p q hi hj => R.mem.inj i j p q (by rw [hl]; exact hi) (by rw [hl]; exact hj), fun i b hb => ?_⟩, by rw [← h.N]; exact R.size, fun t => ?_, R.defers⟩
  · have hB := R.mem.blk i b (by rw [h.hp]; exact hb)
    rw [hS] at hB
    cases b with
    | arr sz es v => cases hp : μ i <;> rw [hp] at hB <;> exact hB
    | froz sz es v => cases hp : μ i <;> rw [hp] at hB <;> exact hB
    | box cs =>
      cases hp : μ i with
      | none => rw [hp] at hB; exact hB
      | some p =>
        rw [hp] at hB
        obtain ⟨g0, vs, g1, g2⟩ := hB
        exact ⟨g0, vs, g1.like h.hp, g2⟩
  · have := R.tmp t
    rw [hS, h.tm] at this
    exact this.like h.hp
end
end Go.Proofs.Ytbmdncjnnlajnaa.M
