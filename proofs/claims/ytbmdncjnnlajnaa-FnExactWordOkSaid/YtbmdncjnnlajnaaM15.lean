/- A machine of values: each operation does on the machine what is told of it, part 11: calls, what is handed over. No condition. -/
import Derived.Test.YtbmdncjnnlajnaaM14
namespace Go.Proofs.Ytbmdncjnnlajnaa.M
open Go
set_option linter.unusedSimpArgs false
set_option linter.unusedVariables false
set_option linter.unusedSectionVars false

section
variable {P : Program} {τ : Tab} {Γ : Ctx} {al : Nat → Prop} {s : St} {a : Act} {w w' : World} {μ : Nat → Option Pl} {n : Nat} {K : AV → List (Nat × Blk) → Prop} {next : Act → World → Prop}
variable {o : Oper} {Q : Exit → Act → World → Prop} {md : Nat → Bool} {hp : List (Nat × Blk)} {S S0 S' : Addr → Option Value}

/-- A number's block. -/
def bOf (μ : Nat → Option Pl) (i : Nat) : Option Nat := (μ i).map (·.b)

theorem bcK_ok (M : Mem Γ al hp w μ) (hS : ∀ a v, Sv Γ.G hp μ w a = some v → S0 a = some v) {c : C} {v : Value} {K : BC → Prop} (h : bcK hp c K) (hc : COk al hp (Sv Γ.G hp μ w) μ c v) (h1 : v.oneCell' = true) :
    ∃ x r, K x ∧ BCOk S0 w x v r ∧ r.Sublist ((ownsC c).filterMap (bOf μ)) ∧ ∀ i ∈ ownsC c, live hp i := by
  unfold bcK at h
  split at h
  · exact ⟨_, [], h, ⟨rfl, hc.1.mono hS, h1⟩, by simp [ownsC], by simp [ownsC]⟩
  · exact ⟨_, [], h, ⟨rfl, hc⟩, by simp [ownsC], by simp [ownsC]⟩
  · rename_i i ver n
    split at h
    · rename_i sz es v' hb
      split at h
      · rename_i hv
        obtain ⟨rfl, hsc, hK⟩ := h
        have hA : arrOf hp i ver = some (sz, es) := arrOf_arr hb hv
        obtain ⟨h4, h5⟩ := hc.2.2 _ _ hA
        have hlive : live hp i := ⟨_, hb, rfl⟩
        have hB := M.blk _ _ hb
        cases hp' : μ i with
        | none =>
          rw [hp'] at h5 hB
          obtain ⟨_, h6, q, rfl⟩ := h5
          rw [h6]
          exact ⟨_, [], hK, .inl ⟨rfl, hB, q, rfl⟩, List.nil_sublist _, by simpa [ownsC] using hlive⟩
        | some p =>
          rw [hp'] at h5 hB
          obtain ⟨ad, cap, rfl, h7, h8, h9⟩ := h5
          rcases h7 with h7 | h7
          · subst h7
            refine ⟨_, [p.b], hK, .inr ⟨p.b, p.base, p.room, cap, rfl, by simp, h8, by simpa using h9, hsc, ?_⟩, by simp [ownsC, bOf, hp'], by simpa [ownsC] using hlive⟩
            exact ArrOk.mono hS (fun _ => rfl) (fun _ => rfl) hB
          · subst h7
            have h0 : es.length = 0 := by omega
            rw [h0]
            exact ⟨_, [], hK, .inl ⟨rfl, List.length_eq_zero_iff.1 h0, _, rfl⟩, List.nil_sublist _, by simpa [ownsC] using hlive⟩
      · exact h.elim
    · exact h.elim
  · exact h.elim

theorem bcsK_ok (M : Mem Γ al hp w μ) (hS : ∀ a v, Sv Γ.G hp μ w a = some v → S0 a = some v) : ∀ {cs : List C} {vs : List Value} {K : List BC → Prop}, bcsK hp cs K → CsOk al hp (Sv Γ.G hp μ w) μ cs vs →
    ∃ xs r, K xs ∧ BCsOk S0 w xs vs r ∧ r.Sublist ((cs.flatMap ownsC).filterMap (bOf μ)) ∧ (∀ i ∈ cs.flatMap ownsC, live hp i) ∧ xs.length = cs.length
  | [], vs, K, h, hc => by
    have := hc.1
    simp at this; subst this
    exact ⟨[], [], h, ⟨rfl, rfl⟩, by simp, by simp, rfl⟩
  | c :: cs, vs, K, h, hc => by
    cases vs with
    | nil => have := hc.1; simp at this
    | cons v vs =>
      have hr : CsOk al hp (Sv Γ.G hp μ w) μ cs vs := ⟨by have := hc.1; simpa using this, fun u hu => hc.2.1 u (by simp [hu]), fun j c' u a b => hc.2.2 (j + 1) c' u (by simpa using a) (by simpa using b)⟩
      obtain ⟨x, r1, hK, b1, b2, b3⟩ := bcK_ok M hS h (hc.2.2 0 c v rfl rfl) (hc.2.1 v (by simp))
      obtain ⟨xs, r2, hK2, c1, c2, c3, c4⟩ := bcsK_ok M hS hK hr
      refine ⟨x :: xs, r1 ++ r2, hK2, ⟨v, vs, r1, r2, rfl, rfl, b1, c1⟩, ?_, ?_, by simp [c4]⟩
      · rw [List.flatMap_cons, List.filterMap_append]; exact b2.append c2
      · intro i hi
        rw [List.flatMap_cons, List.mem_append] at hi
        rcases hi with hi | hi
        · exact b3 i hi
        · exact c3 i hi

/-- What is read out of the call's own lists is seen. -/
theorem readC_ok (M : Mem Γ al hp w μ) (hS : ∀ a v, Sv Γ.G hp μ w a = some v → S0 a = some v) {c : C} {v : Value} {x : T} (h : readC hp c = some x) (hc : COk al hp (Sv Γ.G hp μ w) μ c v)
    (hown : ∀ i ∈ ownsC c, (∃ sz es v, find hp i = some (.arr sz es v)) → ∀ p, μ i = some p → ∀ a, a.block = p.b → ∀ v, w.cell? a = some v → S0 a = some v) : Hold S0 x v := by
  unfold readC at h
  split at h
  · obtain rfl := Option.some.inj h; exact hc.1.mono hS
  · rename_i hno
    simp only [Option.map_eq_some_iff] at h
    obtain ⟨⟨sz, fs⟩, hl, rfl⟩ := h
    cases c with
    | t x => exact (hno x rfl).elim
    | nil sz' =>
      simp only [listOf, Option.some.injEq, Prod.mk.injEq] at hl
      obtain ⟨rfl, rfl⟩ := hl
      obtain rfl := hc
      exact .nil _
    | own i ver off len =>
      have hsrc := list_src M hc hl
      rcases hsrc with ⟨⟨q, rfl⟩, rfl⟩ | ⟨ad, cap, vs, rfl, hH, hcell, hsz, hcap⟩
      · cases q with
        | none => exact .nil _
        | some q => exact .list _ [] q 0 0 [] rfl (Nat.le_refl _) (by simp) rfl (by simp) (by simp) (by simp)
      · simp only [listOf, Option.map_eq_some_iff] at hl
        obtain ⟨⟨sz', es⟩, hA, he⟩ := hl
        simp only [Prod.mk.injEq] at he
        obtain ⟨rfl, rfl⟩ := he
        obtain ⟨h4, h5⟩ := hc.2.2 _ _ hA
        refine .list _ _ ad _ cap vs rfl hcap hsz hH.1 (fun j v hj => ?_) hH.2.1 (fun j t v h1 h2 => (hH.2.2 j t v h1 h2).mono hS)
        have hcj := hcell j v hj
        cases hp' : μ i with
        | none =>
          rw [hp'] at h5
          obtain ⟨_, h6, q, hq⟩ := h5
          simp only [Value.slice.injEq] at hq
          have : vs = [] := by
            have := hH.1
            rw [flat_length hsz, hq.2.1] at this
            exact List.length_eq_zero_iff.1 (by simpa using this)
          subst this; simp at hj
        | some p =>
          rw [hp'] at h5
          obtain ⟨ad', cap', hv, h7, h8, h9⟩ := h5
          simp only [Value.slice.injEq, Option.some.injEq] at hv
          obtain ⟨rfl, hlen, rfl⟩ := hv
          rcases h7 with h7 | h7
          · by_cases hlive : ∃ sz es v, find hp i = some (.arr sz es v)
            · refine hown i (by simp [ownsC]) hlive p hp' _ ?_ _ hcj
              rw [h7, add_mk]
            · have hlt : j < len * sz' := by
                have h10 := hH.1
                rw [flat_length hsz, hlen] at h10
                rw [← h10]; exact (List.getElem?_eq_some_iff.1 hj).1
              obtain ⟨vf, hf⟩ : ∃ vf, find hp i = some (.froz sz' es vf) := by
                unfold arrOf at hA
                split at hA
                · rename_i hb; exact absurd ⟨_, _, _, hb⟩ hlive
                · rename_i sz2 es2 v2 hb
                  split at hA
                  · obtain ⟨rfl, rfl⟩ := Prod.mk.inj (Option.some.inj hA); exact ⟨_, hb⟩
                  · cases hA
                · cases hA
              have hB := M.blk _ _ hf
              rw [hp'] at hB
              obtain ⟨vs0, g1, g2, g3⟩ := hB
              have hmul : (off + len) * sz' ≤ es.length * sz' := Nat.mul_le_mul_right _ h4
              rw [Nat.add_mul] at hmul
              have hlt0 : off * sz' + j < vs0.length := by rw [g1.1, flat_length g3]; omega
              have g4 := g2 (off * sz' + j) _ (List.getElem?_eq_getElem hlt0)
              have e1 : ad.add j = (⟨p.b, p.base, none⟩ : Addr).add (off * sz' + j) := by rw [h7, add_mk, add_mk, Nat.add_assoc]
              rw [← e1] at g4
              have g5 := (Sv_some.1 g4).2
              rw [hcj] at g5
              rw [g5]
              exact hS _ _ g4
          · have : vs = [] := by
              have h10 := hH.1
              rw [flat_length hsz] at h10
              have : ((es.drop off).take len).length = 0 := by omega
              rw [this] at h10
              exact List.length_eq_zero_iff.1 (by simpa using h10)
            subst this; simp at hj
    | _ => simp [listOf] at hl
theorem readL_ok (M : Mem Γ al hp w μ) (hS : ∀ a v, Sv Γ.G hp μ w a = some v → S0 a = some v) : ∀ {cs : List C} {vs : List Value} {xs : List T}, readL hp cs = some xs → CsOk al hp (Sv Γ.G hp μ w) μ cs vs →
    (∀ i ∈ cs.flatMap ownsC, (∃ sz es v, find hp i = some (.arr sz es v)) → ∀ p, μ i = some p → ∀ a, a.block = p.b → ∀ v, w.cell? a = some v → S0 a = some v) → HoldL S0 xs vs
  | [], vs, xs, h, hc, _ => by
    simp [readL] at h; subst h
    have := hc.1
    simp at this; subst this
    exact ⟨rfl, by simp, by simp⟩
  | c :: cs, vs, xs, h, hc, hown => by
    simp only [readL] at h
    split at h
    · rename_i x xs' h1 h2
      obtain rfl := Option.some.inj h
      cases vs with
      | nil => have := hc.1; simp at this
      | cons v vs =>
        have hr : CsOk al hp (Sv Γ.G hp μ w) μ cs vs := ⟨by have := hc.1; simpa using this, fun u hu => hc.2.1 u (by simp [hu]), fun j c' u a b => hc.2.2 (j + 1) c' u (by simpa using a) (by simpa using b)⟩
        have a1 := readC_ok M hS h1 (hc.2.2 0 c v rfl rfl) (fun i hi => hown i (by rw [List.flatMap_cons]; exact List.mem_append.2 (.inl hi)))
        have a2 := readL_ok M hS h2 hr (fun i hi => hown i (by rw [List.flatMap_cons]; exact List.mem_append.2 (.inr hi)))
        refine ⟨by simp [a2.1], hc.2.1, fun j t u p q => ?_⟩
        cases j with
        | zero => simp at p q; subst p; subst q; exact a1
        | succ j => exact a2.2.2 j t u (by simpa using p) (by simpa using q)
    · cases h
theorem readA_ok (M : Mem Γ al hp w μ) (hS : ∀ a v, Sv Γ.G hp μ w a = some v → S0 a = some v) {y : A} {v : Value} {x : T} (h : readA hp y = some x) (hc : AOk al hp (Sv Γ.G hp μ w) μ y v)
    (hown : ∀ i ∈ y.cells.flatMap ownsC, (∃ sz es v, find hp i = some (.arr sz es v)) → ∀ p, μ i = some p → ∀ a, a.block = p.b → ∀ v, w.cell? a = some v → S0 a = some v) : Hold S0 x v := by
  cases y with
  | c c => exact readC_ok M hS h hc (fun i hi => hown i (by simpa [A.cells] using hi))
  | g cs =>
    simp only [readA, Option.map_eq_some_iff] at h
    obtain ⟨xs, h1, rfl⟩ := h
    obtain ⟨vs, rfl, hC⟩ := hc
    have := readL_ok M hS h1 hC (fun i hi => hown i (by simpa [A.cells] using hi))
    exact .agg _ _ this.1 this.2.1 this.2.2

/-- What is known of an argument that was handed over. -/
def Gave (hp : List (Nat × Blk)) (x : AV) (y : AA) (is : List Nat) : Prop :=
  match y with
  | .mb ys => ∃ i cs, x = .a (.c (.ptr i 0)) ∧ find hp i = some (.box cs) ∧ ys.length = cs.length ∧ is = i :: cs.flatMap ownsC ∧ bcsK hp cs (fun _ => True)
  | _ => (∀ i o, x ≠ .a (.c (.ptr i o))) ∧ is = []
def Gaves (hp : List (Nat × Blk)) : List AV → List AA → List Nat → Prop
  | [], [], is => is = []
  | x :: xs, y :: ys, is => ∃ i1 i2, is = i1 ++ i2 ∧ Gave hp x y i1 ∧ Gaves hp xs ys i2
  | _, _, _ => False

theorem bcK_mono {c : C} {K K' : BC → Prop} (hK : ∀ x, K x → K' x) (h : bcK hp c K) : bcK hp c K' := by
  unfold bcK at *
  split <;> simp_all
  split <;> simp_all
theorem bcsK_mono : ∀ {cs : List C} {K K' : List BC → Prop}, (∀ x, K x → K' x) → bcsK hp cs K → bcsK hp cs K'
  | [], K, K', hK, h => hK _ h
  | c :: cs, K, K', hK, h => bcK_mono (fun x hx => bcsK_mono (fun xs hxs => hK _ hxs) hx) h

theorem argK_ok (M : Mem Γ al hp w μ) (hS : ∀ a v, Sv Γ.G hp μ w a = some v → S0 a = some v) {x : AV} {v : Value} {K : AA → List Nat → Prop} (h : argK hp x K) (hx : AVOk al hp (Sv Γ.G hp μ w) μ x v)
    (hown : ∀ i ∈ ownsA x, (∃ sz es v, find hp i = some (.arr sz es v)) → ∀ p, μ i = some p → ∀ a, a.block = p.b → ∀ v, w.cell? a = some v → S0 a = some v) :
    ∃ y is r, K y is ∧ ArgOk S0 w y v r ∧ r.Sublist (is.filterMap (bOf μ)) ∧ (∀ i ∈ is, live hp i) ∧ Gave hp x y is := by
  unfold argK at h
  split at h
  · rename_i i
    split at h
    · rename_i cs hb
      obtain ⟨p, h1, rfl⟩ := hx.2.2 _ hb
      have hB := M.blk _ _ hb
      rw [h1] at hB
      obtain ⟨h0, vs, hC, hc⟩ := hB
      obtain ⟨ys, r, hK, b1, b2, b3, b4⟩ := bcsK_ok M hS h hC
      refine ⟨_, _, p.b :: r, hK, ⟨p.b, r, rfl, rfl, vs, b1, hc⟩, ?_, ?_, ⟨i, cs, rfl, hb, b4, rfl, bcsK_mono (fun _ _ => trivial) h⟩⟩
      · have : bOf μ i = some p.b := by simp [bOf, h1]
        rw [List.filterMap_cons_some this]
        exact b2.cons_cons _
      · intro j hj
        rcases List.mem_cons.1 hj with rfl | hj
        · exact ⟨_, hb, rfl⟩
        · exact b3 j hj
    · exact h.elim
  · exact ⟨_, _, [], h, ⟨rfl, hx⟩, by simp, by simp, fun i o e => (by cases e), rfl⟩
  · rename_i y hno1 hno2
    split at h
    · rename_i t ht
      have hH := readA_ok M hS ht hx hown
      refine ⟨_, _, [], h, ⟨rfl, hH⟩, by simp, by simp, fun i o e => ?_, rfl⟩
      simp only [AV.a.injEq] at e; subst e; simp [readA, readC, listOf] at ht
    · exact h.elim
  · exact h.elim

def boxId (hp : List (Nat × Blk)) : AV → List Nat
  | .a (.c (.ptr i 0)) => match find hp i with | some (.box cs) => i :: cs.flatMap ownsC | _ => []
  | _ => []
theorem boxId_plain {x : AV} (h : ∀ i o, x ≠ .a (.c (.ptr i o))) : boxId hp x = [] := by
  unfold boxId
  split
  · rename_i i; exact absurd rfl (h i 0)
  · rfl
theorem Gave.ids {x : AV} {y : AA} {is : List Nat} (h : Gave hp x y is) : is = boxId hp x := by
  cases y with
  | mb ys => obtain ⟨i, cs, rfl, hb, _, rfl, _⟩ := h; simp [boxId, hb]
  | v t => rw [boxId_plain h.1, h.2]
  | nilp => rw [boxId_plain h.1, h.2]
theorem Gaves.ids : ∀ {xs : List AV} {ys : List AA} {is : List Nat}, Gaves hp xs ys is → is = xs.flatMap (boxId hp)
  | [], [], is, h => h
  | x :: xs, y :: ys, is, h => by
    obtain ⟨i1, i2, rfl, h1, h2⟩ := h
    rw [List.flatMap_cons, h1.ids, Gaves.ids h2]
  | [], _ :: _, is, h => h.elim
  | _ :: _, [], is, h => h.elim
theorem bcK_live {c : C} {K : BC → Prop} (h : bcK hp c K) : (∃ x, K x) ∧ ∀ i ∈ ownsC c, live hp i := by
  unfold bcK at h
  split at h
  · exact ⟨⟨_, h⟩, by simp [ownsC]⟩
  · exact ⟨⟨_, h⟩, by simp [ownsC]⟩
  · split at h
    · rename_i hb
      split at h
      · exact ⟨⟨_, h.2.2⟩, fun i hi => by simp only [ownsC, List.mem_singleton] at hi; subst hi; exact ⟨_, hb, rfl⟩⟩
      · exact h.elim
    · exact h.elim
  · exact h.elim
theorem bcsK_live : ∀ {cs : List C} {K : List BC → Prop}, bcsK hp cs K → (∃ x, K x) ∧ ∀ i ∈ cs.flatMap ownsC, live hp i
  | [], K, h => ⟨⟨_, h⟩, by simp⟩
  | c :: cs, K, h => by
    obtain ⟨⟨x, h1⟩, h2⟩ := bcK_live h
    obtain ⟨⟨y, h3⟩, h4⟩ := bcsK_live h1
    refine ⟨⟨_, h3⟩, fun i hi => ?_⟩
    rw [List.flatMap_cons, List.mem_append] at hi
    rcases hi with hi | hi
    · exact h2 i hi
    · exact h4 i hi
theorem argK_ids {x : AV} {K : AA → List Nat → Prop} (h : argK hp x K) : (∃ y, K y (boxId hp x)) ∧ ∀ i ∈ boxId hp x, live hp i := by
  unfold argK at h
  split at h
  · rename_i i
    split at h
    · rename_i cs hb
      obtain ⟨⟨y, h1⟩, h2⟩ := bcsK_live h
      have e : boxId hp (.a (.c (.ptr i 0))) = i :: cs.flatMap ownsC := by simp [boxId, hb]
      rw [e]
      refine ⟨⟨_, h1⟩, fun j hj => ?_⟩
      rcases List.mem_cons.1 hj with rfl | hj
      · exact ⟨_, hb, rfl⟩
      · exact h2 j hj
    · exact h.elim
  · exact ⟨⟨_, h⟩, by simp [boxId]⟩
  · rename_i y hno1 hno2
    split at h
    · rename_i t ht
      have : boxId hp (.a y) = [] := boxId_plain (fun i o e => by simp only [AV.a.injEq] at e; subst e; simp [readA, readC, listOf] at ht)
      rw [this]
      exact ⟨⟨_, h⟩, by simp⟩
    · exact h.elim
  · exact h.elim
theorem argsK_ids : ∀ {xs : List AV} {K : List AA → List Nat → Prop}, argsK hp xs K → (∃ ys, K ys (xs.flatMap (boxId hp))) ∧ ∀ i ∈ xs.flatMap (boxId hp), live hp i
  | [], K, h => ⟨⟨_, h⟩, by simp⟩
  | x :: xs, K, h => by
    obtain ⟨⟨y, h1⟩, h2⟩ := argK_ids h
    obtain ⟨⟨ys, h3⟩, h4⟩ := argsK_ids h1
    refine ⟨⟨_, by rw [List.flatMap_cons]; exact h3⟩, fun i hi => ?_⟩
    rw [List.flatMap_cons, List.mem_append] at hi
    rcases hi with hi | hi
    · exact h2 i hi
    · exact h4 i hi

theorem argsK_ok (M : Mem Γ al hp w μ) (hS : ∀ a v, Sv Γ.G hp μ w a = some v → S0 a = some v) : ∀ {xs : List AV} {vs : List Value} {K : List AA → List Nat → Prop}, argsK hp xs K → vs.length = xs.length →
    (∀ (j : Nat) x v, xs[j]? = some x → vs[j]? = some v → AVOk al hp (Sv Γ.G hp μ w) μ x v) →
    (∀ i ∈ xs.flatMap ownsA, (∃ sz es v, find hp i = some (.arr sz es v)) → ∀ p, μ i = some p → ∀ a, a.block = p.b → ∀ v, w.cell? a = some v → S0 a = some v) →
    ∃ ys is r, K ys is ∧ ArgsOk S0 w ys vs r ∧ r.Sublist (is.filterMap (bOf μ)) ∧ (∀ i ∈ is, live hp i) ∧ Gaves hp xs ys is
  | [], vs, K, h, hl, _, _ => by
    simp at hl; subst hl
    exact ⟨[], [], [], h, ⟨rfl, rfl⟩, by simp, by simp, rfl⟩
  | x :: xs, vs, K, h, hl, hx, hown => by
    cases vs with
    | nil => simp at hl
    | cons v vs =>
      obtain ⟨y, is1, r1, hK, b1, b2, b3, b4⟩ := argK_ok M hS h (hx 0 x v rfl rfl) (fun i hi => hown i (by rw [List.flatMap_cons]; exact List.mem_append.2 (.inl hi)))
      obtain ⟨ys, is2, r2, hK2, c1, c2, c3, c4⟩ := argsK_ok M hS hK (by simpa using hl) (fun j x v p q => hx (j + 1) x v (by simpa using p) (by simpa using q)) (fun i hi => hown i (by rw [List.flatMap_cons]; exact List.mem_append.2 (.inr hi)))
      refine ⟨y :: ys, is1 ++ is2, r1 ++ r2, hK2, ⟨v, vs, r1, r2, rfl, rfl, b1, c1⟩, ?_, ?_, is1, is2, rfl, b4, c4⟩
      · rw [List.filterMap_append]; exact b2.append c2
      · intro i hi
        rcases List.mem_append.1 hi with hi | hi
        · exact b3 i hi
        · exact c3 i hi
end
end Go.Proofs.Ytbmdncjnnlajnaa.M
