/- A machine of values: a function's contract out of what is reckoned of its code, part 2. No condition. -/
import Derived.Test.YtbmdncjnnlajnaaM22
namespace Go.Proofs.Ytbmdncjnnlajnaa.M
open Go
set_option linter.unusedSimpArgs false
set_option linter.unusedVariables false
set_option linter.unusedSectionVars false

section
variable {P : Program} {τ : Tab} {Γ : Ctx} {al al' : Nat → Prop} {s : St} {a : Act} {w w' : World} {μ μ' : Nat → Option Pl} {n : Nat}
variable {hp hp' : List (Nat × Blk)} {S S0 S' : Addr → Option Value} {own : Bool}

/-! ### The end -/
theorem bcK_eq {c : C} {K : BC → Prop} (h : bcK hp c K) : ∃ x, K x ∧ bcK hp c fun y => y = x := by
  unfold bcK at h ⊢
  split at h
  · exact ⟨_, h, rfl⟩
  · exact ⟨_, h, rfl⟩
  · split at h
    · rename_i hb
      split at h
      · rename_i hv; exact ⟨_, h.2.2, by simp only [hb]; rw [if_pos hv]; exact ⟨h.1, h.2.1, by first | rfl | trivial⟩⟩
      · exact h.elim
    · exact h.elim
  · exact h.elim
theorem bcsK_eq : ∀ {cs : List C} {K : List BC → Prop}, bcsK hp cs K → ∃ xs, K xs ∧ bcsK hp cs fun ys => ys = xs
  | [], K, h => ⟨[], h, rfl⟩
  | c :: cs, K, h => by
    obtain ⟨x, h1, h2⟩ := bcK_eq h
    obtain ⟨xs, h3, h4⟩ := bcsK_eq h1
    exact ⟨x :: xs, h3, bcK_mono (fun y hy => bcsK_mono (fun ys hys => by rw [hy, hys]) h4) h2⟩

def OutR (hp : List (Nat × Blk)) (n : Nat) : List AA → List (List BC) → List Nat → Prop
  | [], os, ks => os = [] ∧ ks = []
  | .mb cs :: r, os, ks => ∃ ys os' ks' cs', os = ys :: os' ∧ find hp n = some (.box cs') ∧ cs'.length = cs.length ∧ (bcsK hp cs' fun zs => zs = ys) ∧ ks = n :: cs'.flatMap ownsC ++ ks' ∧ OutR hp (n + (initA n (.mb cs)).2.length) r os' ks'
  | x :: r, os, ks => OutR hp (n + (initA n x).2.length) r os ks
theorem outX_iff : ∀ {args : List AA} {n : Nat} {K : List (List BC) → List Nat → Prop}, outX hp n args K → ∃ os ks, K os ks ∧ OutR hp n args os ks
  | [], n, K, h => ⟨_, _, h, rfl, rfl⟩
  | .mb cs :: r, n, K, h => by
    simp only [outX] at h
    split at h
    · rename_i cs' hb
      split at h
      · rename_i hl
        obtain ⟨ys, h1, h2⟩ := bcsK_eq h
        obtain ⟨os, ks, h3, h4⟩ := outX_iff h1
        exact ⟨_, _, h3, ys, os, ks, cs', rfl, hb, by simpa using hl, h2, rfl, h4⟩
      · exact h.elim
    · exact h.elim
  | .v x :: r, n, K, h => by obtain ⟨os, ks, h1, h2⟩ := outX_iff (args := r) h; exact ⟨os, ks, h1, h2⟩
  | .nilp :: r, n, K, h => by obtain ⟨os, ks, h1, h2⟩ := outX_iff (args := r) h; exact ⟨os, ks, h1, h2⟩

/-- The boxes that came in lie where they lay. -/
def PinOk (pin : Nat → Option Nat) (n : Nat) : List AA → List Value → Prop
  | [], _ => True
  | .mb cs :: r, v :: vs => (∃ b, pin n = some b ∧ v = .pointer (some ⟨b, 0, none⟩)) ∧ PinOk pin (n + (initA n (.mb cs)).2.length) r vs
  | x :: r, _ :: vs => PinOk pin (n + (initA n x).2.length) r vs
  | _ :: _, [] => False

theorem OutR_ok (M : Mem Γ al hp w μ) (hS : ∀ a v, Sv Γ.G hp μ w a = some v → S0 a = some v) : ∀ {args : List AA} {vals : List Value} {os : List (List BC)} {ks : List Nat} {n : Nat}, OutR hp n args os ks → PinOk Γ.pin n args vals →
    ∃ r, OutsOk S0 w args vals os r ∧ r.Sublist (ks.filterMap (bOf μ)) ∧ (∀ i ∈ ks, live hp i)
  | [], vals, os, ks, n, h, _ => by
    obtain ⟨rfl, rfl⟩ := h
    exact ⟨[], ⟨rfl, rfl⟩, by simp, by simp⟩
  | .mb cs :: r, [], os, ks, n, h, hp => hp.elim
  | .v x :: r, [], os, ks, n, h, hp => hp.elim
  | .nilp :: r, [], os, ks, n, h, hp => hp.elim
  | .mb cs :: r, v :: vals, os, ks, n, h, hpin => by
    obtain ⟨ys, os', ks', cs', rfl, hb, hl, hK, rfl, h'⟩ := h
    obtain ⟨⟨b, hb1, rfl⟩, hpin'⟩ := hpin
    obtain ⟨p, hp1, rfl⟩ := (M.pin n b hb1).2 cs' hb
    have hB := M.blk _ _ hb
    rw [hp1] at hB
    obtain ⟨h0, vs, hC, hc⟩ := hB
    obtain ⟨zs, r1, rfl, b1, b2, b3, b4⟩ := bcsK_ok M hS hK hC
    obtain ⟨r2, c1, c2, c3⟩ := OutR_ok M hS h' hpin'
    refine ⟨p.b :: r1 ++ r2, ⟨zs, os', p.b, r1, r2, rfl, by rw [b4, hl], rfl, rfl, ⟨vs, b1, hc⟩, c1⟩, ?_, fun i hi => ?_⟩
    · have : bOf μ n = some p.b := by simp [bOf, hp1]
      rw [List.filterMap_append, List.filterMap_cons_some this]
      exact (b2.cons_cons _).append c2
    · simp only [List.cons_append, List.mem_cons, List.mem_append] at hi
      rcases hi with rfl | hi | hi
      · exact ⟨_, hb, rfl⟩
      · exact b3 i hi
      · exact c3 i hi
  | .v x :: r, v :: vals, os, ks, n, h, hpin => OutR_ok (args := r) M hS h hpin
  | .nilp :: r, v :: vals, os, ks, n, h, hpin => OutR_ok (args := r) M hS h hpin

def actR (tmps : Array Value) : ResultVar → Sem Value
  | .tmp t => pure (tmps.getD t undef)
  | .cell a t => do loadVar t (← asAddr (tmps.getD a undef))
def ExAs (own : Bool) (hp : List (Nat × Blk)) : List A → List T → List Nat → List Nat → Prop
  | [], xs, is, js => xs = [] ∧ is = [] ∧ js = []
  | c :: r, xs, is, js => ∃ x xs' i i' j j', xs = x :: xs' ∧ is = i ++ i' ∧ js = j ++ j' ∧ ExA own hp c x i j ∧ ExAs own hp r xs' i' j'

theorem resA_ok (hτ : TOk P τ) (R : Rel Γ al s a w μ) {r : ResultVar} {K : A → Prop} (h : resA τ s r K) : ∃ x v, K x ∧ AOk al s.hp (Sv Γ.G s.hp μ w) μ x v ∧ (actR a.tmps r).run P w = .ok v w := by
  cases r with
  | tmp t =>
    simp only [resA] at h
    have := R.tmp t
    split at h
    · rename_i x hx; rw [hx] at this; exact ⟨x, _, h, this, rfl⟩
    · exact h.elim
  | cell t ty =>
    simp only [resA] at h
    have := R.tmp t
    split at h
    · rename_i i off d ht hd
      rw [ht] at this
      split at h
      · rename_i cs hb
        obtain ⟨p, hp1, hp2⟩ := this.2.2 _ hb
        have hB := R.mem.blk _ _ hb
        rw [hp1] at hB
        obtain ⟨h0, vs, hC, hc⟩ := hB
        obtain ⟨y, hK, hA, h1, h2⟩ := part_ok hC h
        have hr := run_loadVar' hτ w hd ⟨p.b, 0, none⟩ vs off (fun j v hj => by rw [add_mk, Nat.zero_add]; exact (hc j v hj).1) h1 h2
        rw [add_mk, Nat.zero_add] at hr
        exact ⟨y, _, hK, hA, by simp [actR, hp2, asAddr, hr]⟩
      · exact h.elim
    · exact h.elim
theorem exL_ok (hτ : TOk P τ) (R : Rel Γ al s a w μ) : ∀ {rvs : List ResultVar} {K : List T → List Nat → List Nat → Prop}, exL τ own s rvs K →
    ∃ (as : List A) (vs : List Value) (ys : List T) (is js : List Nat), K ys is js ∧ (rvs.mapM (actR a.tmps)).run P w = .ok vs w ∧ vs.length = as.length ∧ (∀ (j : Nat) x v, as[j]? = some x → vs[j]? = some v → AOk al s.hp (Sv Γ.G s.hp μ w) μ x v) ∧ ExAs own s.hp as ys is js ∧ vs.length = rvs.length
  | [], K, h => ⟨[], [], [], [], [], h, by simp, rfl, by simp, ⟨rfl, rfl, rfl⟩, rfl⟩
  | r :: rs, K, h => by
    obtain ⟨x, v, h1, h2, h3⟩ := resA_ok hτ R h
    obtain ⟨y, i, j, h4, h5⟩ := exA_iff h1
    obtain ⟨as, vs, ys, is, js, h6, h7, h8, h9, h10, h11⟩ := exL_ok hτ R h5
    refine ⟨x :: as, v :: vs, _, _, _, h6, by simp [List.mapM_cons, h3, h7], by simp [h8], fun k x' v' p q => ?_, ⟨y, ys, i, is, j, js, rfl, rfl, rfl, h4, h10⟩, by simp [h11]⟩
    cases k with
    | zero => simp at p q; subst p; subst q; exact h2
    | succ k => exact h9 k x' v' (by simpa using p) (by simpa using q)
theorem ExAs_ok (M : Mem Γ al hp w μ) (hS : ∀ a v, Sv Γ.G hp μ w a = some v → S0 a = some v) : ∀ {as : List A} {xs : List T} {vs : List Value} {is js : List Nat}, ExAs own hp as xs is js → vs.length = as.length →
    (∀ (j : Nat) x v, as[j]? = some x → vs[j]? = some v → AOk al hp (Sv Γ.G hp μ w) μ x v) →
    (∀ i ∈ js, (∃ sz es v, find hp i = some (.arr sz es v)) → ∀ p, μ i = some p → ∀ a, a.block = p.b → ∀ v, w.cell? a = some v → S0 a = some v) →
    ∃ r, ResL own S0 w xs vs r ∧ r.Sublist (is.filterMap (bOf μ)) ∧ (∀ i ∈ is, live hp i) ∧ xs.length = vs.length
  | [], xs, vs, is, js, h, hl, _, _ => by
    obtain ⟨rfl, rfl, rfl⟩ := h
    simp at hl; subst hl
    exact ⟨[], ⟨rfl, rfl⟩, by simp, by simp, rfl⟩
  | c :: cs, xs, [], is, js, h, hl, _, _ => by simp at hl
  | c :: cs, xs, v :: vs, is, js, h, hl, hx, hown => by
    obtain ⟨x, xs', i, i', j, j', rfl, rfl, rfl, h1, h2⟩ := h
    obtain ⟨r1, a1, a2, a3⟩ := ExA_ok M hS h1 (hx 0 c v rfl rfl) (fun k hk => hown k (List.mem_append.2 (.inl hk)))
    obtain ⟨r2, b1, b2, b3, b4⟩ := ExAs_ok M hS h2 (by simpa using hl) (fun k x v p q => hx (k + 1) x v (by simpa using p) (by simpa using q)) (fun k hk => hown k (List.mem_append.2 (.inr hk)))
    refine ⟨r1 ++ r2, ⟨v, vs, r1, r2, rfl, rfl, a1, b1⟩, by rw [List.filterMap_append]; exact a2.append b2, fun k hk => ?_, by simp [b4]⟩
    rcases List.mem_append.1 hk with hk | hk
    · exact a3 k hk
    · exact b3 k hk

/-! ### The beginning -/
theorem initC_ok {x : BC} {v : Value} {r : List Nat} (h : BCOk S w x v r) (n : Nat) :
    ∃ L : List E, L.map (fun e => (e.1, e.2.1)) = (initC n x).2 ∧ L.filterMap E.blk = r ∧ (∀ e ∈ L, EOk S w e) ∧ L.map (·.1) = List.range' n L.length ∧
      ∀ al' hp' S' μ', Fits al' hp' μ' L → (∀ a v, S a = some v → S' a = some v) → COk al' hp' S' μ' (initC n x).1 v := by
  cases x with
  | t x => obtain ⟨rfl, h2, h3⟩ := h; exact ⟨[], rfl, rfl, by simp, rfl, fun _ _ _ _ _ hS => ⟨h2.mono hS, h3⟩⟩
  | nil sz => obtain ⟨rfl, rfl⟩ := h; exact ⟨[], rfl, rfl, by simp, rfl, fun _ _ _ _ _ _ => rfl⟩
  | arr sz es =>
    obtain ⟨p, h1, h2, h3, h4⟩ := bc_arr h n 0
    refine ⟨[(n, .arr sz es 0, p)], rfl, by rw [← h1]; cases p <;> simp [E.blk, Blk.live], by simpa using h2, by simp, fun al' hp' S' μ' hf _ => ?_⟩
    obtain ⟨f1, f2, f3⟩ := hf _ (List.mem_singleton.2 rfl)
    exact own_fits f1 f2 f3 h3 h4
theorem initCs_ok : ∀ {xs : List BC} {vs : List Value} {r : List Nat} (n : Nat), BCsOk S w xs vs r →
    ∃ L : List E, L.map (fun e => (e.1, e.2.1)) = (initCs n xs).2 ∧ L.filterMap E.blk = r ∧ (∀ e ∈ L, EOk S w e) ∧ L.map (·.1) = List.range' n L.length ∧
      ∀ al' hp' S' μ', Fits al' hp' μ' L → (∀ a v, S a = some v → S' a = some v) → CsOk al' hp' S' μ' (initCs n xs).1 vs
  | [], vs, r, n, h => by
    obtain ⟨rfl, rfl⟩ := h
    exact ⟨[], rfl, rfl, by simp, rfl, fun _ _ _ _ _ _ => ⟨rfl, by simp, by simp [initCs]⟩⟩
  | x :: xs, vs, r, n, h => by
    obtain ⟨v, vs', r1, r2, rfl, rfl, h1, h3⟩ := h
    obtain ⟨L1, a1, a2, a3, a4, a5⟩ := initC_ok h1 n
    have hl : (initC n x).2.length = L1.length := by rw [← a1]; simp
    obtain ⟨L2, b1, b2, b3, b4, b5⟩ := initCs_ok (n + L1.length) h3
    refine ⟨L1 ++ L2, by simp only [List.map_append, a1, b1, initCs, hl], by rw [List.filterMap_append, a2, b2], fun e he => ?_, ?_, fun al' hp' S' μ' hf hS => ?_⟩
    · rcases List.mem_append.1 he with he | he
      · exact a3 e he
      · exact b3 e he
    · rw [List.map_append, a4, b4, List.length_append, List.range'_append_1]
    · obtain ⟨f1, f2⟩ := hf.app
      have c1 := a5 al' hp' S' μ' f1 hS
      have c2 := b5 al' hp' S' μ' f2 hS
      simp only [initCs, hl]
      refine ⟨by simp [c2.1], fun u hu => ?_, fun j c u p q => ?_⟩
      · rcases List.mem_cons.1 hu with rfl | hu
        · exact BCOk.one h1
        · exact c2.2.1 u hu
      · cases j with
        | zero => simp at p q; subst p; subst q; exact c1
        | succ j => exact c2.2.2 j c u (by simpa using p) (by simpa using q)
theorem openT_ok {x : T} {v : Value} (h : Hold S x v) {al' : Nat → Prop} {hp' : List (Nat × Blk)} {μ' : Nat → Option Pl} : AOk al' hp' S μ' (openT x) v := by
  cases x with
  | agg cs =>
    cases h with
    | agg cs vs hl h1 hh => exact ⟨vs, rfl, CsOk_of_HoldL ⟨hl, h1, hh⟩⟩
  | list sz es => exact ⟨h, by cases h <;> rfl⟩
  | int k n => exact ⟨h, by cases h; rfl⟩
  | bool b => exact ⟨h, by cases h; rfl⟩
  | str b => exact ⟨h, by cases h; rfl⟩
theorem initA_ok {x : AA} {v : Value} {r : List Nat} (h : ArgOk S w x v r) (n : Nat) :
    ∃ L : List E, L.map (fun e => (e.1, e.2.1)) = (initA n x).2 ∧ L.filterMap E.blk = r ∧ L.map (·.1) = List.range' n L.length ∧
      (∀ al' hp' S' μ', Fits al' hp' μ' L → (∀ a v, S a = some v → S' a = some v) → AVOk al' hp' S' μ' (initA n x).1 v ∧ ∀ e ∈ L, BlkOk al' hp' S' μ' w e.2.1 e.2.2) ∧
      ∀ pin : Nat → Option Nat, (∀ e ∈ L, ∀ cs, e.2.1 = .box cs → pin e.1 = e.2.2.map (·.b)) → ∀ r vs, PinOk pin (n + (initA n x).2.length) r vs → PinOk pin n (x :: r) (v :: vs) := by
  cases x with
  | v x => obtain ⟨rfl, h2⟩ := h; exact ⟨[], rfl, rfl, rfl, fun _ _ _ _ _ hS => ⟨openT_ok (h2.mono hS), by simp⟩, fun _ _ _ _ h => h⟩
  | nilp => obtain ⟨rfl, rfl⟩ := h; exact ⟨[], rfl, rfl, rfl, fun _ _ _ _ _ _ => ⟨rfl, by simp⟩, fun _ _ _ _ h => h⟩
  | mb cs =>
    obtain ⟨b, r', rfl, rfl, ws, hC, hc⟩ := h
    obtain ⟨L, a1, a2, a3, a4, a5⟩ := initCs_ok (n + 1) hC
    refine ⟨(n, .box (initCs (n + 1) cs).1, some ⟨b, 0, 0⟩) :: L, by simp [initA, a1], by simp [E.blk, Blk.live, a2], by simp [a4, List.range'_succ], fun al' hp' S' μ' hf hS => ?_, fun pin hpin r vs h => ⟨⟨b, by rw [hpin _ (List.mem_cons_self ..) _ rfl]; rfl, rfl⟩, h⟩⟩
    obtain ⟨f1, f2, f3⟩ := hf _ (List.mem_cons_self ..)
    refine ⟨⟨f1, rfl, fun cs' _ => ⟨_, f3, rfl⟩⟩, fun e he => ?_⟩
    rcases List.mem_cons.1 he with rfl | he
    · exact ⟨rfl, ws, a5 al' hp' S' μ' (fun e he => hf e (by simp [he])) hS, hc⟩
    · exact (a3 e he).blk
theorem initL_ok : ∀ {xs : List AA} {vs : List Value} {r : List Nat} (n : Nat), ArgsOk S w xs vs r →
    ∃ L : List E, L.map (fun e => (e.1, e.2.1)) = (initL n xs).2 ∧ L.filterMap E.blk = r ∧ L.map (·.1) = List.range' n L.length ∧ vs.length = (initL n xs).1.length ∧
      (∀ al' hp' S' μ', Fits al' hp' μ' L → (∀ a v, S a = some v → S' a = some v) → (∀ (j : Nat) x v, (initL n xs).1[j]? = some x → vs[j]? = some v → AVOk al' hp' S' μ' x v) ∧ ∀ e ∈ L, BlkOk al' hp' S' μ' w e.2.1 e.2.2) ∧
      ∀ pin : Nat → Option Nat, (∀ e ∈ L, ∀ cs, e.2.1 = .box cs → pin e.1 = e.2.2.map (·.b)) → PinOk pin n xs vs
  | [], vs, r, n, h => by
    obtain ⟨rfl, rfl⟩ := h
    exact ⟨[], rfl, rfl, rfl, rfl, fun _ _ _ _ _ _ => ⟨by simp [initL], by simp⟩, fun _ _ => trivial⟩
  | x :: xs, vs, r, n, h => by
    obtain ⟨v, vs', r1, r2, rfl, rfl, h1, h3⟩ := h
    obtain ⟨L1, a1, a2, a4, a5, a6⟩ := initA_ok h1 n
    have hl : (initA n x).2.length = L1.length := by rw [← a1]; simp
    obtain ⟨L2, b1, b2, b4, b0, b5, b6⟩ := initL_ok (n + L1.length) h3
    refine ⟨L1 ++ L2, by simp only [List.map_append, a1, b1, initL, hl], by rw [List.filterMap_append, a2, b2], by rw [List.map_append, a4, b4, List.length_append, List.range'_append_1], by simp [initL, hl, b0], fun al' hp' S' μ' hf hS => ?_, fun pin hpin => ?_⟩
    · obtain ⟨f1, f2⟩ := hf.app
      have c1 := a5 al' hp' S' μ' f1 hS
      have c2 := b5 al' hp' S' μ' f2 hS
      simp only [initL, hl]
      refine ⟨fun j c u p q => ?_, fun e he => ?_⟩
      · cases j with
        | zero => simp at p q; subst p; subst q; exact c1.1
        | succ j => exact c2.1 j c u (by simpa using p) (by simpa using q)
      · rcases List.mem_append.1 he with he | he
        · exact c1.2 e he
        · exact c2.2 e he
    · exact a6 pin (fun e he => hpin e (List.mem_append.2 (.inl he))) xs vs' (by rw [hl]; exact b6 pin (fun e he => hpin e (List.mem_append.2 (.inr he))))
end
end Go.Proofs.Ytbmdncjnnlajnaa.M
