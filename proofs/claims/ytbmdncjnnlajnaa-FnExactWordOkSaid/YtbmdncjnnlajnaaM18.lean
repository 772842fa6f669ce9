/- A machine of values: each operation does on the machine what is told of it, part 14: calls. No condition. -/
import Derived.Test.YtbmdncjnnlajnaaM17
namespace Go.Proofs.Ytbmdncjnnlajnaa.M
open Go
set_option linter.unusedSimpArgs false
set_option linter.unusedVariables false
set_option linter.unusedSectionVars false

theorem verOf_find {hp : List (Nat × Blk)} {i : Nat} {b : Blk} (h : find hp i = some b) (j : Nat) : verOf hp i = verOf [(j, b)] j := by simp [verOf, h, find]
theorem arrOf_ver {hp : List (Nat × Blk)} {i v : Nat} {x : Nat × List T} (h : arrOf hp i v = some x) : v = verOf hp i := by
  unfold arrOf at h
  unfold verOf
  split at h
  · rename_i hb; split at h
    · rename_i hv; simpa [hb] using hv
    · cases h
  · rename_i hb; split at h
    · rename_i hv; simpa [hb] using hv
    · cases h
  · cases h

section
variable {P : Program} {τ : Tab} {Γ : Ctx} {al al' : Nat → Prop} {s : St} {a : Act} {w w' : World} {μ μ' : Nat → Option Pl} {n : Nat} {K : AV → List (Nat × Blk) → Prop} {next : Act → World → Prop}
variable {o : Oper} {Q : Exit → Act → World → Prop} {md : Nat → Bool} {hp hp' : List (Nat × Blk)} {S S0 S' : Addr → Option Value}

theorem blk_inj {L : List E} (hnd : (L.filterMap E.blk).Nodup) (hid : ∀ e ∈ L, ∀ e' ∈ L, e.1 = e'.1 → e = e') {e e' : E} (he : e ∈ L) (he' : e' ∈ L) {b : Nat} (h : e.blk = some b) (h' : e'.blk = some b) : e = e' := by
  induction L with
  | nil => cases he
  | cons x r ih =>
    have key : ∀ e'' ∈ r, e''.blk = some b → x.blk = some b → False := fun e'' h1 h2 h3 => by
      rw [List.filterMap_cons_some h3] at hnd
      exact (List.nodup_cons.1 hnd).1 (List.mem_filterMap.2 ⟨e'', h1, h2⟩)
    have hnd' : (r.filterMap E.blk).Nodup := by
      cases hx : x.blk with
      | none => rwa [List.filterMap_cons_none hx] at hnd
      | some c => rw [List.filterMap_cons_some hx] at hnd; exact (List.nodup_cons.1 hnd).2
    rcases List.mem_cons.1 he with h1 | h1
    · subst h1
      rcases List.mem_cons.1 he' with h2 | h2
      · exact h2.symm
      · exact (key _ h2 h' h).elim
    · rcases List.mem_cons.1 he' with h2 | h2
      · subst h2; exact (key _ h1 h h').elim
      · exact ih hnd' (fun e he e' he' => hid e (by simp [he]) e' (by simp [he'])) h1 h2

/-- Many blocks at once: what a call leaves. -/
theorem Mem.many (h : Mem Γ al hp w μ) {bs : List Nat} (hf : Fr bs w w') (ha : ∀ i, al i → al' i) {is : List Nat} (hbs : ∀ b ∈ bs, ∃ i ∈ is, live hp i ∧ bOf μ i = some b) {L : List E}
    (hsame : ∀ i, (∀ e ∈ L, e.1 ≠ i) → find hp' i = find hp i ∧ μ' i = μ i) (hfit : Fits al' hp' μ' L) (hall : ∀ i ∈ is, ∃ e ∈ L, e.1 = i)
    (hnd : (L.filterMap E.blk).Nodup) (hid : (L.map (·.1)).Nodup) (hnew : ∀ b ∈ L.filterMap E.blk, b < w'.heap.size ∧ (b ∈ bs ∨ w.heap.size ≤ b))
    (hold : ∀ e ∈ L, al e.1 → (∃ cs cs', e.2.1 = .box cs' ∧ find hp e.1 = some (.box cs) ∧ e.2.2 = μ e.1) ∨ (∀ cs', e.2.1 ≠ .box cs') ∧ ∀ i, verOf [(i, e.2.1)] i = verOf hp e.1 + 1)
    (hblk : (∀ a v, Sv Γ.G hp μ w a = some v → Sv Γ.G hp' μ' w' a = some v) → (∀ i p, live hp' i → μ' i = some p → (∃ e ∈ L, e.1 = i ∧ e.blk = some p.b) ∨ (live hp i ∧ μ i = some p ∧ p.b ∉ bs ∧ ∀ e ∈ L, e.1 ≠ i)) → ∀ e ∈ L, BlkOk al' hp' (Sv Γ.G hp' μ' w') μ' w' e.2.1 e.2.2) :
    Mem Γ al' hp' w' μ' ∧ Ext al al' hp hp' (Sv Γ.G hp μ w) (Sv Γ.G hp' μ' w') μ μ' ∧ ∀ i p, live hp' i → μ' i = some p → (∃ e ∈ L, e.1 = i ∧ e.blk = some p.b) ∨ (live hp i ∧ μ i = some p ∧ p.b ∉ bs ∧ ∀ e ∈ L, e.1 ≠ i) := by
  have hin : ∀ i, (∃ e ∈ L, e.1 = i) ∨ ∀ e ∈ L, e.1 ≠ i := fun i => by
    by_cases hh : ∃ e ∈ L, e.1 = i
    · exact .inl hh
    · exact .inr (fun e he h => hh ⟨e, he, h⟩)
  have hone : ∀ e ∈ L, ∀ e' ∈ L, e.1 = e'.1 → e = e' := fun e he e' he' heq => by
    clear hnd hnew hold hblk hfit hsame hall hin
    induction L with
    | nil => cases he
    | cons x r ih =>
      simp only [List.map_cons, List.nodup_cons] at hid
      rcases List.mem_cons.1 he with h1 | h1
      · subst h1
        rcases List.mem_cons.1 he' with h2 | h2
        · exact h2.symm
        · exact absurd (List.mem_map.2 ⟨e', h2, heq.symm⟩) hid.1
      · rcases List.mem_cons.1 he' with h2 | h2
        · subst h2; exact absurd (List.mem_map.2 ⟨e, h1, heq⟩) hid.1
        · exact ih hid.2 h1 h2
  -- a live block behind the call
  have hlive : ∀ i p, live hp' i → μ' i = some p → (∃ e ∈ L, e.1 = i ∧ e.blk = some p.b) ∨ (live hp i ∧ μ i = some p ∧ p.b ∉ bs ∧ ∀ e ∈ L, e.1 ≠ i) := fun i p hl hp' => by
    rcases hin i with ⟨e, he, rfl⟩ | hno
    · obtain ⟨_, f2, f3⟩ := hfit e he
      obtain ⟨b, h1, h2⟩ := hl
      rw [f2] at h1
      obtain rfl := Option.some.inj h1
      rw [f3] at hp'
      exact .inl ⟨e, he, rfl, by simp [E.blk, h2, hp']⟩
    · obtain ⟨h1, h2⟩ := hsame i hno
      have hl' : live hp i := by unfold live at hl ⊢; rwa [h1] at hl
      rw [h2] at hp'
      refine .inr ⟨hl', hp', fun hb => ?_, hno⟩
      obtain ⟨j, hj, hjl, hjb⟩ := hbs _ hb
      simp only [bOf, Option.map_eq_some_iff] at hjb
      obtain ⟨q, hq, hqb⟩ := hjb
      obtain rfl := h.inj i j p q hl' hjl hp' hq hqb.symm
      obtain ⟨e, he, h3⟩ := hall _ hj
      exact hno e he h3
  have hS : ∀ a v, Sv Γ.G hp μ w a = some v → Sv Γ.G hp' μ' w' a = some v := fun a v hv => by
    rw [Sv_some] at hv ⊢
    have hlt := World.block_lt_of_cell? _ _ hv.2
    have hnb : a.block ∉ bs := fun hb => by
      obtain ⟨j, _, hjl, hjb⟩ := hbs _ hb
      simp only [bOf, Option.map_eq_some_iff] at hjb
      obtain ⟨q, hq, hqb⟩ := hjb
      exact hv.1.2 ⟨j, q, hjl, hq, hqb⟩
    refine ⟨⟨hv.1.1, fun ⟨i, p, h1, h2, h3⟩ => ?_⟩, by rw [hf.cell hlt hnb]; exact hv.2⟩
    rcases hlive i p h1 h2 with ⟨e, he, _, heb⟩ | ⟨h4, h5, _⟩
    · rcases (hnew _ (List.mem_filterMap.2 ⟨e, he, heb⟩)).2 with h6 | h6
      · exact hnb (h3 ▸ h6)
      · omega
    · exact hv.1.2 ⟨i, p, h4, h5, h3⟩
  have e : Ext al al' hp hp' (Sv Γ.G hp μ w) (Sv Γ.G hp' μ' w') μ μ' := by
    refine ⟨ha, hS, fun i hi => ?_, fun i ver sz es' hi hver h' => ?_, fun i cs' hi h' => ?_⟩
    · rcases hin i with ⟨e, he, rfl⟩ | hno
      · have hfe := (hfit e he).2.1
        rcases hold e he hi with ⟨cs, cs', h1, h2, _⟩ | ⟨_, h2⟩
        · simp [verOf, h2]
        · rw [verOf_find hfe 0, h2]; omega
      · have := (hsame i hno).1
        simp [verOf, this]
    · rcases hin i with ⟨e, he, rfl⟩ | hno
      · have hfe := (hfit e he).2.1
        rcases hold e he hi with ⟨cs, cs', h1, h2, _⟩ | ⟨_, h2⟩
        · rw [h1] at hfe; simp [arrOf, hfe] at h'
        · have := arrOf_ver h'
          rw [verOf_find hfe 0, h2] at this
          omega
      · obtain ⟨h1, h2⟩ := hsame i hno
        refine ⟨es', ?_, Nat.le_refl _, h2⟩
        unfold arrOf at h' ⊢; rwa [h1] at h'
    · rcases hin i with ⟨e, he, rfl⟩ | hno
      · obtain ⟨_, hfe, hμ⟩ := hfit e he
        rcases hold e he hi with ⟨cs, cs2, h1, h2, h3⟩ | ⟨h1, _⟩
        · exact ⟨cs, h2, by rw [hμ, h3]⟩
        · rw [hfe] at h'; exact absurd (Option.some.inj h') (h1 cs')
      · obtain ⟨h1, h2⟩ := hsame i hno
        exact ⟨cs', by rw [← h1]; exact h', h2⟩
  have hmine : ∀ b ∈ bs, b ∈ Γ.bs0 ∨ Γ.w0.heap.size ≤ b := fun b hb => by
    obtain ⟨j, _, hjl, hjb⟩ := hbs _ hb
    simp only [bOf, Option.map_eq_some_iff] at hjb
    obtain ⟨q, hq, rfl⟩ := hjb
    exact (h.mine j q hjl hq).2
  refine ⟨⟨h.fr.trans hf (fun k hk hlt => ?_), h.gd, fun i b hb => ⟨ha _ (h.pin i b hb).1, fun cs hcs => ?_⟩, fun i b hb => ?_, fun i p hl hp' => ?_, fun i j p q hi hj hp1 hq1 hpq => ?_, fun i b hb => ?_⟩, e, hlive⟩
  · rcases hmine k hk with h1 | h1
    · exact h1
    · omega
  · obtain ⟨g1, g2⟩ := h.pin i b hb
    rcases hin i with ⟨e, he, rfl⟩ | hno
    · obtain ⟨_, f2, f3⟩ := hfit e he
      rw [f2] at hcs
      rcases hold e he g1 with ⟨cs0, cs1, h1, h2, h3⟩ | ⟨h1, _⟩
      · rw [f3, h3]; exact g2 cs0 h2
      · exact absurd (Option.some.inj hcs) (h1 cs)
    · rw [(hsame i hno).1] at hcs
      rw [(hsame i hno).2]; exact g2 cs hcs
  · rcases hin i with ⟨e, he, rfl⟩ | hno
    · exact (hfit e he).1
    · rw [(hsame i hno).1] at hb; exact ha _ (h.used i b hb)
  · rcases hlive i p hl hp' with ⟨e, he, _, heb⟩ | ⟨h4, h5, _⟩
    · obtain ⟨h1, h2⟩ := hnew _ (List.mem_filterMap.2 ⟨e, he, heb⟩)
      refine ⟨h1, ?_⟩
      rcases h2 with h2 | h2
      · exact hmine _ h2
      · exact .inr (Nat.le_trans h.fr.size h2)
    · obtain ⟨h1, h2⟩ := h.mine i p h4 h5
      exact ⟨Nat.lt_of_lt_of_le h1 hf.size, h2⟩
  · rcases hlive i p hi hp1 with ⟨e1, he1, rfl, hb1⟩ | ⟨g1, g2, g3, _⟩
    · rcases hlive j q hj hq1 with ⟨e2, he2, rfl, hb2⟩ | ⟨k1, k2, k3, _⟩
      · rw [← hpq] at hb2
        rw [blk_inj hnd hone he1 he2 hb1 hb2]
      · rcases (hnew _ (List.mem_filterMap.2 ⟨e1, he1, hb1⟩)).2 with h6 | h6
        · exact absurd (hpq ▸ h6) k3
        · have := (h.mine j q k1 k2).1; omega
    · rcases hlive j q hj hq1 with ⟨e2, he2, rfl, hb2⟩ | ⟨k1, k2, k3, _⟩
      · rcases (hnew _ (List.mem_filterMap.2 ⟨e2, he2, hb2⟩)).2 with h6 | h6
        · exact absurd (hpq ▸ h6) g3
        · have := (h.mine i p g1 g2).1; omega
      · exact h.inj i j p q g1 k1 g2 k2 hpq
  · rcases hin i with ⟨e, he, rfl⟩ | hno
    · obtain ⟨_, f2, f3⟩ := hfit e he
      rw [f2] at hb
      obtain rfl := Option.some.inj hb
      rw [f3]
      exact hblk hS hlive e he
    · obtain ⟨h1, h2⟩ := hsame i hno
      rw [h1] at hb
      rw [h2]
      refine BlkOk.mono e (fun hl p hp' j => ?_) (h.blk i b hb)
      have hl' : live hp i := ⟨b, hb, hl⟩
      have hlt := (h.mine i p hl' hp').1
      have hnb : p.b ∉ bs := fun hbb => by
        obtain ⟨k, hk, hkl, hkb⟩ := hbs _ hbb
        simp only [bOf, Option.map_eq_some_iff] at hkb
        obtain ⟨q, hq, hqb⟩ := hkb
        obtain rfl := h.inj i k p q hl' hkl hp' hq hqb.symm
        obtain ⟨e, he, h3⟩ := hall _ hk
        exact hno e he h3
      exact ⟨hf.cell hlt hnb, hf.frozen hlt hnb⟩
end
end Go.Proofs.Ytbmdncjnnlajnaa.M
