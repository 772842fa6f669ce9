/- A machine of values: each operation does on the machine what is told of it, part 6: writing. No condition. -/
import Derived.Test.YtbmdncjnnlajnaaM9
namespace Go.Proofs.Ytbmdncjnnlajnaa.M
open Go
set_option linter.unusedSimpArgs false
set_option linter.unusedVariables false
set_option linter.unusedSectionVars false

theorem splice_length {α : Type} {l n : List α} {off : Nat} (h : off + n.length ≤ l.length) : (splice l off n).length = l.length := by simp [splice]; omega
theorem splice_get {α : Type} {l n : List α} {off : Nat} (h : off + n.length ≤ l.length) (j : Nat) :
    (splice l off n)[j]? = if j < off then l[j]? else if j < off + n.length then n[j - off]? else l[j]? := by
  unfold splice
  have hl : (l.take off).length = off := by simp; omega
  by_cases h1 : j < off
  · rw [if_pos h1, List.append_assoc, List.getElem?_append_left (by omega), List.getElem?_take_of_lt h1]
  · rw [if_neg h1, List.append_assoc, List.getElem?_append_right (by omega), hl]
    by_cases h2 : j < off + n.length
    · rw [if_pos h2, List.getElem?_append_left (by omega)]
    · rw [if_neg h2, List.getElem?_append_right (by omega), List.getElem?_drop]
      congr 1; omega

theorem setCells_splice {w : World} {b base off : Nat} {ovs vs : List Value} (h : off + vs.length ≤ ovs.length) (ho : ∀ (j : Nat) v, ovs[j]? = some v → w.cell? ⟨b, base + j, none⟩ = some v) (j : Nat) (v : Value)
    (hj : (splice ovs off vs)[j]? = some v) : (w.setCells b (base + off) vs).cell? ⟨b, base + j, none⟩ = some v := by
  rw [splice_get h] at hj
  have hs : ∀ i, i < vs.length → (w.cell? ⟨b, base + off + i, none⟩).isSome = true := fun i hi => by
    have hlt : off + i < ovs.length := by omega
    have := ho (off + i) _ (List.getElem?_eq_getElem hlt)
    rw [Nat.add_assoc, this]; rfl
  by_cases h1 : j < off
  · rw [if_pos h1] at hj
    rw [World.cell?_setCells_out _ _ _ _ _ (fun _ _ => .inl (by simp; omega))]
    exact ho _ _ hj
  · rw [if_neg h1] at hj
    by_cases h2 : j < off + vs.length
    · rw [if_pos h2] at hj
      have := World.cell?_setCells_in b vs (base + off) w hs (j - off) (by omega)
      rw [show base + off + (j - off) = base + j by omega] at this
      rw [this]
      rw [List.getElem?_eq_getElem (by omega)] at hj
      exact hj
    · rw [if_neg h2] at hj
      rw [World.cell?_setCells_out _ _ _ _ _ (fun _ _ => .inr (by simp; omega))]
      exact ho _ _ hj
theorem setCells_isSome {w : World} {b o : Nat} {vs : List Value} (hs : ∀ i, i < vs.length → (w.cell? ⟨b, o + i, none⟩).isSome = true) {j : Nat} (h : (w.cell? ⟨b, j, none⟩).isSome = true) : ((w.setCells b o vs).cell? ⟨b, j, none⟩).isSome = true := by
  by_cases h1 : o ≤ j ∧ j < o + vs.length
  · have := World.cell?_setCells_in b vs o w hs (j - o) (by omega)
    rw [show o + (j - o) = j by omega] at this
    rw [this]; rfl
  · rw [World.cell?_setCells_out _ _ _ _ _ (fun _ _ => by simp; omega)]; exact h

section
variable {P : Program} {τ : Tab} {Γ : Ctx} {al : Nat → Prop} {s : St} {a : Act} {w : World} {μ : Nat → Option Pl} {n : Nat} {K : AV → List (Nat × Blk) → Prop} {next : Act → World → Prop}
variable {o : Oper} {Q : Exit → Act → World → Prop} {md : Nat → Bool} {hp : List (Nat × Blk)} {S : Addr → Option Value}

theorem A_cells {y : A} {v : Value} (hx : AOk al hp S μ y v) (hth : y.cells.all C.there = true) : ∃ vs : List Value, v.cells = vs.toArray ∧ CsOk al hp S μ y.cells vs := by
  cases y with
  | c c =>
    simp only [A.cells, List.all_cons, List.all_nil, Bool.and_true] at hth
    have h1 := COk.one hx hth
    refine ⟨[v], ?_, by simp [A.cells], by simpa using h1, fun j c' v' h2 h3 => ?_⟩
    · cases v <;> simp [Value.oneCell'] at h1 <;> rfl
    · cases j with
      | zero => simp [A.cells] at h2 h3; subst h2; subst h3; exact hx
      | succ j => simp [A.cells] at h2
  | g cs =>
    obtain ⟨vs, hv, hC⟩ := hx
    exact ⟨vs, by rw [hv]; rfl, hC⟩

theorem sealC_ok {c : C} {x : T} {v : Value} (h : COk al hp S μ c v) (hs : sealC c = some x) : Hold S x v := by
  cases c <;> simp [sealC] at hs
  · subst hs; exact h.1
  · subst hs; obtain rfl := h; exact .nil _
theorem sealL_ok {cs : List C} : ∀ {xs : List T} {vs : List Value}, CsOk al hp S μ cs vs → sealL cs = some xs → HoldL S xs vs := by
  induction cs with
  | nil =>
    intro xs vs h hs
    simp [sealL] at hs; subst hs
    have := h.1; simp at this; subst this
    exact ⟨rfl, by simp, by simp⟩
  | cons c r ih =>
    intro xs vs h hs
    simp only [sealL] at hs
    split at hs
    · rename_i x xs' h1 h2
      obtain rfl := Option.some.inj hs
      cases vs with
      | nil => have := h.1; simp at this
      | cons v vs =>
        have hr : CsOk al hp S μ r vs := ⟨by have := h.1; simpa using this, fun u hu => h.2.1 u (by simp [hu]), fun j c' u a b => h.2.2 (j + 1) c' u (by simpa using a) (by simpa using b)⟩
        have := ih hr h2
        refine ⟨by simp [this.1], h.2.1, fun j t u a b => ?_⟩
        cases j with
        | zero => simp at a b; subst a; subst b; exact sealC_ok (h.2.2 0 c _ (by simp) (by simp)) h1
        | succ j => exact this.2.2 j t u (by simpa using a) (by simpa using b)
    · cases hs
theorem sealL_length {cs : List C} : ∀ {xs : List T}, sealL cs = some xs → xs.length = cs.length := by
  induction cs with
  | nil => intro xs h; simp [sealL] at h; subst h; rfl
  | cons c r ih =>
    intro xs hs
    simp only [sealL] at hs
    split at hs
    · rename_i x xs' h1 h2
      obtain rfl := Option.some.inj hs
      simp [ih h2]
    · cases hs
theorem one_of_hold {x : T} {v : Value} (h : Hold S x v) (h1 : v.oneCell' = true) : x.cells = [x] := by
  cases h <;> first | rfl | (simp [Value.oneCell'] at h1)

theorem flat_set {es : List T} {sz ix : Nat} {e e' : T} (hsz : ∀ e ∈ es, e.cells.length = sz) (he : es[ix]? = some e) (he' : e'.cells.length = sz) : flat (es.set ix e') = splice (flat es) (ix * sz) e'.cells := by
  obtain ⟨hi, rfl⟩ := List.getElem?_eq_some_iff.1 he
  have h1 : es.set ix e' = es.take ix ++ e' :: es.drop (ix + 1) := by rw [List.set_eq_take_append_cons_drop, if_pos hi]
  rw [h1, flat_append, flat_cons, splice, flat_take hsz, he']
  have : ix * sz + sz = (ix + 1) * sz := by rw [Nat.succ_mul]
  rw [this, flat_drop hsz, List.append_assoc]

theorem splice_HoldL {xs ys : List T} {vs us : List Value} {off : Nat} (h : HoldL S xs vs) (h' : HoldL S ys us) (hl : off + ys.length ≤ xs.length) : HoldL S (splice xs off ys) (splice vs off us) := by
  have e1 := h.1
  have e2 := h'.1
  have hl' : off + us.length ≤ vs.length := by omega
  refine ⟨by rw [splice_length hl, splice_length hl', e1], fun v hv => ?_, fun j t v a b => ?_⟩
  · simp only [splice, List.mem_append] at hv
    rcases hv with (hv | hv) | hv
    · exact h.2.1 v (List.mem_of_mem_take hv)
    · exact h'.2.1 v hv
    · exact h.2.1 v (List.mem_of_mem_drop hv)
  · rw [splice_get hl] at a
    rw [splice_get hl', e2] at b
    split at a
    · rename_i hj; rw [if_pos hj] at b; exact h.2.2 _ _ _ a b
    · rename_i hj
      rw [if_neg hj] at b
      split at a
      · rename_i hj2; rw [if_pos hj2] at b; exact h'.2.2 _ _ _ a b
      · rename_i hj2; rw [if_neg hj2] at b; exact h.2.2 _ _ _ a b
theorem splice_CsOk {xs ys : List C} {vs us : List Value} {off : Nat} (h : CsOk al hp S μ xs vs) (h' : CsOk al hp S μ ys us) (hl : off + ys.length ≤ xs.length) : CsOk al hp S μ (splice xs off ys) (splice vs off us) := by
  have e1 := h.1
  have e2 := h'.1
  have hl' : off + us.length ≤ vs.length := by omega
  refine ⟨by rw [splice_length hl, splice_length hl', e1], fun v hv => ?_, fun j t v a b => ?_⟩
  · simp only [splice, List.mem_append] at hv
    rcases hv with (hv | hv) | hv
    · exact h.2.1 v (List.mem_of_mem_take hv)
    · exact h'.2.1 v hv
    · exact h.2.1 v (List.mem_of_mem_drop hv)
  · rw [splice_get hl] at a
    rw [splice_get hl', e2] at b
    split at a
    · rename_i hj; rw [if_pos hj] at b; exact h.2.2 _ _ _ a b
    · rename_i hj
      rw [if_neg hj] at b
      split at a
      · rename_i hj2; rw [if_pos hj2] at b; exact h'.2.2 _ _ _ a b
      · rename_i hj2; rw [if_neg hj2] at b; exact h.2.2 _ _ _ a b

theorem splice_splice {xs ys : List T} {off sb sz : Nat} {cs : List T} (hc : (xs.drop off).take sz = cs) (hcl : cs.length = sz) (hb : sb + ys.length ≤ sz) (ho : off + sz ≤ xs.length) :
    splice xs off (splice cs sb ys) = splice xs (off + sb) ys := by
  apply List.ext_getElem?
  intro j
  have hl1 : (splice cs sb ys).length = sz := by rw [splice_length (by omega), hcl]
  rw [splice_get (l := xs) (off := off) (n := splice cs sb ys) (by omega), splice_get (l := xs) (off := off + sb) (n := ys) (by omega), hl1]
  by_cases h1 : j < off
  · rw [if_pos h1, if_pos (by omega)]
  · rw [if_neg h1]
    by_cases h2 : j < off + sz
    · rw [if_pos h2, splice_get (l := cs) (off := sb) (n := ys) (by omega)]
      by_cases h3 : j - off < sb
      · rw [if_pos h3, if_pos (by omega), ← hc, List.getElem?_take_of_lt (by omega), List.getElem?_drop]; congr 1; omega
      · rw [if_neg h3, if_neg (by omega : ¬ j < off + sb)]
        by_cases h4 : j - off < sb + ys.length
        · rw [if_pos h4, if_pos (by omega)]; congr 1; omega
        · rw [if_neg h4, if_neg (by omega), ← hc, List.getElem?_take_of_lt (by omega), List.getElem?_drop]; congr 1; omega
    · rw [if_neg h2, if_neg (by omega), if_neg (by omega)]

theorem run_storeVar' (hτ : TOk P τ) (w : World) {t : Nat} {d : TD} (hd : find τ t = some d) {b off : Nat} {v : Value} {vs : List Value} (hv : v.cells = vs.toArray) (hl : vs.length = d.sz)
    (hc : ∀ j, j < vs.length → (w.cell? ⟨b, off + j, none⟩).isSome = true) (hf : ∀ j, j < vs.length → w.frozen? ⟨b, off + j, none⟩ = false) (h1 : ∀ v ∈ vs, v.oneCell' = true) :
    (storeVar t ⟨b, off, none⟩ v).run P w = .ok () (w.setCells b off vs) := by
  have hst := run_storeCells_cells (P := P) b off vs 0 w (by simpa using hc) (by simpa using hf) h1
  unfold storeVar
  simp only [Nat.add_zero] at hst
  simp [run_sizeOf' hτ w hd, hv, hl, hst]

theorem wp_skip' {P : Program} {o : Oper} {a : Act} {w w' : World} {next : Act → World → Prop} {Q : Exit → Act → World → Prop}
    (hrun : (execOp a.eval o).run P w = .ok .skip w') (h : next (a.put o.dst undef) w') : o.wp P a w next Q := by unfold Oper.wp; rw [hrun]; exact h

theorem op_store (hτ : TOk P τ) (R : Rel Γ al s a w μ) {t : TypeId} {x y : Operand} (ho : o.op = .store t x y) (h : op P τ md o s n K) (N : Nxt Γ al s a w μ n o.dst K next) : o.wp P a w next Q := by
  have hx := eval_ok (τ := τ) R 0 x
  have hy := eval_ok (τ := τ) R t y
  simp only [op, ho] at h
  split at h
  · rename_i d i off ya hd he1 he2
    rw [he1] at hx
    rw [he2] at hy
    split at h
    · rename_i cs hb
      split at h
      · rename_i hcond
        simp only [Bool.and_eq_true, beq_iff_eq, decide_eq_true_eq] at hcond
        obtain ⟨⟨hl, hfit⟩, hth⟩ := hcond
        obtain ⟨vs, hv, hC⟩ := A_cells hy hth
        obtain ⟨p, hp1, hp2⟩ := hx.2.2 _ hb
        have hB := R.mem.blk _ _ hb
        rw [hp1] at hB
        obtain ⟨h0, ovs, hO, hc⟩ := hB
        have hvl : vs.length = d.sz := by rw [hC.1, hl]
        have hfit' : off + vs.length ≤ ovs.length := by rw [hO.1]; omega
        have hcell : ∀ j, j < vs.length → ∃ v, ovs[off + j]? = some v := fun j hj => ⟨_, List.getElem?_eq_getElem (by omega)⟩
        have hr := run_storeVar' hτ w hd (b := p.b) (off := off) hv hvl (fun j hj => by obtain ⟨v, e⟩ := hcell j hj; rw [(hc _ _ e).1]; rfl)
          (fun j hj => by obtain ⟨v, e⟩ := hcell j hj; exact (hc _ _ e).2) hC.2.1
        refine wp_skip' (w' := w.setCells p.b off vs) (by simp [execOp, ho, Instr.storeAt, Instr.sureAddr, hp2, hr]) ?_
        have hbo : BlkOk al s.hp (Sv Γ.G s.hp μ w) μ (w.setCells p.b off vs) (.box (splice cs off ya.cells)) (some p) := by
          refine ⟨h0, splice ovs off vs, splice_CsOk hO hC (by omega), fun j v hj => ⟨?_, ?_⟩⟩
          · have := setCells_splice (w := w) (b := p.b) (base := 0) hfit' (fun j v hj => by rw [Nat.zero_add]; exact (hc j v hj).1) j v hj
            simpa using this
          · rw [World.frozen?_setCells]
            have hlt : j < ovs.length := by have := (List.getElem?_eq_some_iff.1 hj).1; rw [splice_length hfit'] at this; exact this
            exact (hc j _ (List.getElem?_eq_getElem hlt)).2
        obtain ⟨m, e⟩ := R.mem.write (al' := al16 al n) (fun _ h => .inl h) hb rfl (b' := .box (splice cs off ya.cells)) rfl hp1 off vs
          (by simp [verOf, hb, find_put]) (fun ver sz es' _ h' => by simp [arrOf, find_put] at h') (fun cs' _ => ⟨cs, rfl⟩) hbo
        exact N (.c .undef) [(i, .box (splice cs off ya.cells))] undef _ μ h m e trivial
      · exact h.elim
    · exact h.elim
  · rename_i d i v ix sb ya hd he1 he2
    rw [he1] at hx
    rw [he2] at hy
    split at h
    · rename_i sz es v' hb
      split at h
      · rename_i hcond
        simp only [Bool.and_eq_true, beq_iff_eq, decide_eq_true_eq] at hcond
        obtain ⟨⟨rfl, hl⟩, h0⟩ := hcond
        split at h
        · rename_i e ys hee hys
          obtain ⟨hfit, hK⟩ := h
          have hth : ya.cells.all C.there = true := by
            have : ∀ cs : List C, ∀ xs, sealL cs = some xs → cs.all C.there = true := fun cs => by
              induction cs with
              | nil => intro xs _; rfl
              | cons c r ih =>
                intro xs hs
                simp only [sealL] at hs
                split at hs
                · rename_i x xs' h1 h2
                  simp only [List.all_cons, Bool.and_eq_true]
                  refine ⟨?_, ih _ h2⟩
                  cases c <;> simp [sealC] at h1 <;> rfl
                · cases hs
            exact this _ _ hys
          obtain ⟨vs, hv, hC⟩ := A_cells hy hth
          have hH := sealL_ok hC hys
          have hysl := sealL_length hys
          have hA : arrOf s.hp i v = some (sz, es) := by simp [arrOf, hb]
          obtain ⟨p, hp1, hp2⟩ := hx.2.2 _ _ hA
          have hB := R.mem.blk _ _ hb
          rw [hp1] at hB
          obtain ⟨ovs, hO, hc, hsz, hroom, hcells⟩ := hB
          have hesz := hsz e (List.mem_of_getElem? hee)
          have hix := (List.getElem?_eq_some_iff.1 hee).1
          have hfl := flat_length hsz
          have hmul : (ix + 1) * sz ≤ es.length * sz := Nat.mul_le_mul_right _ hix
          rw [Nat.succ_mul] at hmul
          have hvl : vs.length = d.sz := by rw [hC.1, hl]
          have hyl : ys.length = d.sz := by rw [hysl, hl]
          have hOl := hO.1
          have hr := run_storeVar' hτ w hd (b := p.b) (off := p.base + ix * sz + sb) hv hvl
            (fun j hj => by have := (hcells (ix * sz + sb + j) (by omega)).1; rw [show p.base + ix * sz + sb + j = p.base + (ix * sz + sb + j) by omega]; exact this)
            (fun j hj => by have := (hcells (ix * sz + sb + j) (by omega)).2; rw [show p.base + ix * sz + sb + j = p.base + (ix * sz + sb + j) by omega]; exact this) hC.2.1
          refine wp_skip' (w' := w.setCells p.b (p.base + ix * sz + sb) vs) (by simp [execOp, ho, Instr.storeAt, Instr.sureAddr, hp2, hr]) ?_
          have hpc : (putCell e sb ys).cells = splice e.cells sb ys := by
            cases e with
            | agg cs => rfl
            | _ =>
              simp only [T.cells, List.length_singleton] at hesz hfit
              have hsb : sb = 0 := by omega
              have hy1 : ys.length = 1 := by omega
              obtain ⟨y0, rfl⟩ : ∃ y0, ys = [y0] := by
                cases ys with
                | nil => simp at hy1
                | cons y r => cases r with
                  | nil => exact ⟨y, rfl⟩
                  | cons _ _ => simp at hy1
              subst hsb
              have hv0 : vs.length = 1 := by omega
              obtain ⟨v0, rfl⟩ : ∃ v0, vs = [v0] := by
                cases vs with
                | nil => simp at hv0
                | cons y r => cases r with
                  | nil => exact ⟨y, rfl⟩
                  | cons _ _ => simp at hv0
              have := one_of_hold (hH.2.2 0 y0 v0 rfl rfl) (hH.2.1 v0 (by simp))
              simp [putCell, splice, T.cells]
              exact this
          have hflat : flat (es.set ix (putCell e sb ys)) = splice (flat es) (ix * sz + sb) ys := by
            rw [flat_set hsz hee (by rw [hpc, splice_length (by omega), hesz]), hpc]
            refine splice_splice (sz := sz) ?_ hesz (by omega) (by omega)
            apply List.ext_getElem?
            intro j
            by_cases hj : j < sz
            · rw [List.getElem?_take_of_lt hj, List.getElem?_drop, flat_elem hsz hee j hj]
            · rw [List.getElem?_eq_none (by simp; omega), List.getElem?_eq_none (by omega)]
          have hbo : BlkOk al s.hp (Sv Γ.G s.hp μ w) μ (w.setCells p.b (p.base + ix * sz + sb) vs) (.arr sz (es.set ix (putCell e sb ys)) v) (some p) := by
            refine ⟨splice ovs (ix * sz + sb) vs, ?_, ?_, ?_, ?_, ?_⟩
            · rw [hflat]; exact splice_HoldL hO hH (by omega)
            · intro j u hj
              have := setCells_splice (w := w) (b := p.b) (base := p.base) (off := ix * sz + sb) (by omega) hc j u hj
              rwa [← Nat.add_assoc] at this
            · intro e' he'
              rcases List.mem_or_eq_of_mem_set he' with h' | h'
              · exact hsz _ h'
              · rw [h', hpc, splice_length (by omega), hesz]
            · rw [splice_length (by omega)]; exact hroom
            · intro j hj
              refine ⟨setCells_isSome (fun i hi => ?_) (hcells j hj).1, by rw [World.frozen?_setCells]; exact (hcells j hj).2⟩
              have := (hcells (ix * sz + sb + i) (by omega)).1
              rw [show p.base + ix * sz + sb + i = p.base + (ix * sz + sb + i) by omega]; exact this
          obtain ⟨m, e⟩ := R.mem.write (al' := al16 al n) (fun _ h => .inl h) hb rfl (b' := .arr sz (es.set ix (putCell e sb ys)) v) rfl hp1 (p.base + ix * sz + sb) vs
            (by simp [verOf, hb, find_put]) (fun ver sz' es' _ h' => by
              simp only [arrOf, find_put, if_true] at h'
              split at h'
              · rename_i hvv
                obtain ⟨rfl, rfl⟩ := Prod.mk.inj (Option.some.inj h')
                exact ⟨es, by simp only [arrOf, hb, hvv, if_true], by simp⟩
              · cases h') (fun cs' h' => by cases h') hbo
          exact N (.c .undef) _ undef _ μ hK m e trivial
        · exact h.elim
      · exact h.elim
    · exact h.elim
  · exact h.elim
end
end Go.Proofs.Ytbmdncjnnlajnaa.M
