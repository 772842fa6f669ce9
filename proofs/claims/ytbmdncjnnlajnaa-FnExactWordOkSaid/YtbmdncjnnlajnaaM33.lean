/- A machine of values: regions that draw their order, part 3: how one is reckoned. No condition. -/
import Derived.Test.YtbmdncjnnlajnaaM32
namespace Go.Proofs.Ytbmdncjnnlajnaa.M
open Go
set_option linter.unusedSimpArgs false
set_option linter.unusedVariables false
set_option linter.unusedSectionVars false

abbrev Log := List (List Nat × List Nat)
/-- As WOps; with a list of what each operation has looked at and changed. -/
def DOps (P : Program) (τ : Tab) (md : Nat → Bool) (ops : Array Oper) : List Oper → Nat → St → Log → (Log → St → Prop) → Prop
  | [], n, s, lg, K => K lg { s with nx := n }
  | o :: r, n, s, lg, K => match wantA ops s o with
    | some b => (b = true → op P τ md o s n fun v u => DOps P τ md ops r (n + 16) ((s.upd u).set o.dst v) ((rdO s o, u.map (·.1)) :: lg) K) ∧ (b = false → DOps P τ md ops r (n + 16) (s.set o.dst (.c .undef)) (([], []) :: lg) K)
    | none => False
def entry (e : Out) : List Nat × List Nat := (e.rd, e.u.map (·.1))

def depB (o : Oper) (i : Nat) : Bool := o.after.toList.any fun e => Region.binds .any e && e.on == i
def apartB (ops : Array Oper) (x y : Oper × List Nat × List Nat) : Bool :=
  (match x.1.dst with | some t => !(looks ops y.1).contains t && (match y.1.dst with | some t' => !(t' == t) | none => true) | none => true) &&
  (match y.1.dst with | some t => !(looks ops x.1).contains t | none => true) &&
  x.2.2.all (fun k => !y.2.1.contains k && !y.2.2.contains k) && y.2.2.all (fun k => !x.2.1.contains k)
def drawB (ops : Array Oper) : Nat → List (Oper × List Nat × List Nat) → Bool
  | _, [] => true
  | k, x :: r => x.1.after.toList.all (fun e => !Region.binds .any e || decide (e.on < k)) && r.all (fun y => depB y.1 k || apartB ops x y) && drawB ops (k + 1) r

section
variable {P : Program} {τ : Tab} {Γ : Ctx} {md : Nat → Bool} {ops : Array Oper}

theorem apartB_ok {x y : Oper × Out} (h : apartB ops (x.1, entry x.2) (y.1, entry y.2) = true) : Apart ops x y := by
  simp only [apartB, entry, Bool.and_eq_true] at h
  obtain ⟨⟨⟨h1, h2⟩, h3⟩, h4⟩ := h
  refine ⟨fun t ht => ?_, fun t ht => ?_, fun k hk => ?_, fun k hk => ?_⟩
  · rw [ht] at h1
    simp only [Bool.and_eq_true, Bool.not_eq_true', List.contains_eq_mem, decide_eq_false_iff_not] at h1
    refine ⟨h1.1, fun hy => ?_⟩
    rw [hy] at h1
    simp at h1
  · rw [ht] at h2
    simpa using h2
  · have := List.all_eq_true.1 h3 k hk
    simp only [Bool.and_eq_true, Bool.not_eq_true', List.contains_eq_mem, decide_eq_false_iff_not] at this
    exact this
  · have := List.all_eq_true.1 h4 k hk
    simpa using this
theorem drawB_ok : ∀ {L : List (Oper × Out)} {k : Nat}, drawB ops k (L.map fun x => (x.1, entry x.2)) = true →
    (∀ (i : Nat) x, L[i]? = some x → ∀ e ∈ x.1.after, Region.binds .any e = true → e.on < k + i) ∧
    (∀ (i j : Nat) x y, i < j → L[i]? = some x → L[j]? = some y → (∃ e ∈ y.1.after, Region.binds .any e = true ∧ e.on = k + i) ∨ Apart ops x y)
  | [], k, _ => ⟨by simp, by simp⟩
  | z :: r, k, h => by
    simp only [List.map_cons, drawB, Bool.and_eq_true] at h
    obtain ⟨⟨h1, h2⟩, h3⟩ := h
    obtain ⟨a, b⟩ := drawB_ok h3
    constructor
    · intro i x hx e he hb
      cases i with
      | zero =>
        obtain rfl : z = x := by simpa using hx
        have := List.all_eq_true.1 h1 e (by simpa using he)
        simp only [hb, Bool.not_true, Bool.false_or, decide_eq_true_eq] at this
        exact this
      | succ i => have := a i x (by simpa using hx) e he hb; omega
    · intro i j x y hij hx hy
      cases j with
      | zero => omega
      | succ j =>
        cases i with
        | zero =>
          obtain rfl : z = x := by simpa using hx
          have hy' : r[j]? = some y := by simpa using hy
          have := List.all_eq_true.1 h2 (y.1, entry y.2) (List.mem_map.2 ⟨y, List.mem_of_getElem? hy', rfl⟩)
          rw [Bool.or_eq_true] at this
          rcases this with hd | ha
          · left
            obtain ⟨e, he, hh⟩ := List.any_eq_true.1 hd
            simp only [Bool.and_eq_true, beq_iff_eq] at hh
            exact ⟨e, by simpa using he, hh.1, hh.2⟩
          · exact .inr (apartB_ok ha)
        | succ i =>
          rcases b i j x y (by omega) (by simpa using hx) (by simpa using hy) with ⟨e, h1, h2, h3⟩ | h
          · exact .inl ⟨e, h1, h2, by omega⟩
          · exact .inr h

theorem DOps_run : ∀ (l : List Oper) (n : Nat) (s : St) (lg : Log) (K : Log → St → Prop), DOps P τ md ops l n s lg K →
    ∃ es : List Out, es.length = l.length ∧ (∀ (i : Nat) x, (l.zip es)[i]? = some x → Fact P τ md ops x (stD (fun j => decide (j < i)) (l.zip es) s) (n + 16 * i)) ∧
      K ((es.map entry).reverse ++ lg) { stD (fun _ => true) (l.zip es) s with nx := n + 16 * l.length }
  | [], n, s, lg, K, h => ⟨[], rfl, by simp, h⟩
  | o :: r, n, s, lg, K, h => by
    simp only [DOps] at h
    have key : ∀ e : Out, Fact P τ md ops (o, e) s n → DOps P τ md ops r (n + 16) (step s o.dst e) (entry e :: lg) K →
        ∃ es : List Out, es.length = (o :: r).length ∧ (∀ (i : Nat) x, ((o :: r).zip es)[i]? = some x → Fact P τ md ops x (stD (fun j => decide (j < i)) ((o :: r).zip es) s) (n + 16 * i)) ∧
          K ((es.map entry).reverse ++ lg) { stD (fun _ => true) ((o :: r).zip es) s with nx := n + 16 * (o :: r).length } := fun e hf hK => by
      obtain ⟨es, h1, h2, h3⟩ := DOps_run r (n + 16) _ _ K hK
      refine ⟨e :: es, by simp [h1], fun i x hx => ?_, ?_⟩
      · rw [List.zip_cons_cons] at hx ⊢
        cases i with
        | zero =>
          obtain rfl : (o, e) = x := by simpa using hx
          have : (fun j => decide (j < 0)) = fun _ : Nat => false := by funext j; simp
          rw [this, stD_none]
          exact hf
        | succ i =>
          have := h2 i x (by simpa using hx)
          rw [stD]
          have e1 : (fun j => decide (j + 1 < i + 1)) = fun j => decide (j < i) := by funext j; simp
          dsimp only
          rw [e1, if_pos (by simp)]
          have e2 : n + 16 * (i + 1) = n + 16 + 16 * i := by omega
          rw [e2]
          exact this
      · rw [List.zip_cons_cons, stD, if_pos rfl, List.map_cons, List.reverse_cons, List.append_assoc, List.singleton_append]
        have e2 : n + 16 * (o :: r).length = n + 16 + 16 * r.length := by simp only [List.length_cons]; omega
        rw [e2]
        exact h3
    split at h
    · rename_i b hb
      cases b with
      | true =>
        obtain ⟨v, u, h1, h2⟩ := op_det (h.1 rfl)
        exact key ⟨v, u, rdO s o⟩ (.inl ⟨hb, rfl, h2⟩) h1
      | false => exact key ⟨.c .undef, [], []⟩ (.inr ⟨hb, rfl, rfl⟩) (h.2 rfl)
    · exact h.elim

theorem WW_draw (hτ : TOk P τ) (hm : P.follows .mixedOrders = true) {id : Nat} {l : List Oper} {s : St} {Q : X → St → Prop}
    (h : DOps P τ md l.toArray l s.nx s [] fun lg s' => drawB l.toArray 0 (l.zip lg.reverse) = true ∧ Q .normal s') : WW P (.region id l.toArray true) s Q := fun Γ a w μ R => by
  obtain ⟨es, h1, h2, h3, h4⟩ := DOps_run l s.nx s [] _ h
  have hz : l.zip (((es.map entry).reverse ++ []).reverse) = (l.zip es).map fun x => (x.1, entry x.2) := by
    rw [List.append_nil, List.reverse_reverse, List.zip_map_right]; rfl
  rw [hz] at h3
  obtain ⟨hd, ha⟩ := drawB_ok h3
  have hlen : (l.zip es).length = l.length := by simp [h1]
  refine wp_region_any hm ?_
  have hm0 := R.mem.grow (w' := { w with drawn := w.drawn + 1 }) ⟨rfl, rfl, rfl, Nat.le_refl _, fun _ _ _ => rfl⟩ (al' := (· < s.nx)) (fun i hi => hi)
  have R0 : Rel Γ (· < s.nx) s a { w with drawn := w.drawn + 1 } μ := ⟨hm0.1, R.size, fun t => (R.tmp t).mono hm0.2, R.defers⟩
  refine any_sound (Γ := Γ) (md := md) (L := l.zip es) (n := s.nx) (s0 := s) hτ (by simp [h1]) (fun j => ?_) (fun i x hx => h2 i x hx) (fun i x hx e he hb => by have := hd i x hx e he hb; omega)
    (fun i j x y hij hx hy => (ha i j x y hij hx hy).imp_left fun ⟨e, p, q, r⟩ => ⟨e, p, q, by omega⟩) (fun a' w' μ' R' => ?_) _ _ a _ μ (by simp) (fun j x _ hj => ?_) (by simp [Array.toList_replicate]) ?_
  · rw [List.getElem?_toArray]
    rcases Nat.lt_or_ge j l.length with hj | hj
    · rw [List.getElem?_eq_getElem hj, List.getElem?_eq_getElem (by omega)]; simp
    · rw [List.getElem?_eq_none hj, List.getElem?_eq_none (by omega)]; rfl
  · refine ⟨.normal, _, μ', trivial, h4, ?_⟩
    have hal : (alD s.nx fun j => decide (j < (l.zip es).length)) = (· < s.nx + 16 * l.length) := by
      funext k
      simp only [alD, eq_iff_iff, hlen, decide_eq_true_eq]
      constructor
      · rintro (h | ⟨j, h1, h2⟩) <;> omega
      · intro h
        rcases Nat.lt_or_ge k s.nx with hk | hk
        · exact .inl hk
        · exact .inr ⟨(k - s.nx) / 16, by omega, by omega, by omega⟩
    rw [hal] at R'
    exact ⟨R'.mem, R'.size, R'.tmp, R'.defers⟩
  · exfalso
    by_cases hjl : j < l.length <;> simp [hjl] at hj
  · have e1 : (fun j => (Array.replicate l.toArray.size false).getD j false) = fun _ : Nat => false := by
      funext j; by_cases hj : j < l.length <;> simp [hj]
    rw [e1, stD_none]
    have hal : (alD s.nx fun _ => false) = (· < s.nx) := by
      funext k; simp [alD]
    rw [hal]
    exact R0
end
end Go.Proofs.Ytbmdncjnnlajnaa.M
