/- A machine of values: each operation does on the machine what is told of it, part 15: calls. No condition. -/
import Derived.Test.YtbmdncjnnlajnaaM18
namespace Go.Proofs.Ytbmdncjnnlajnaa.M
open Go
set_option linter.unusedSimpArgs false
set_option linter.unusedVariables false
set_option linter.unusedSectionVars false

def updH (hp : List (Nat × Blk)) : List (Nat × Blk) → List (Nat × Blk)
  | [] => hp
  | (i, b) :: r => updH (put hp i b) r
theorem upd_hp : ∀ (u : List (Nat × Blk)) (s : St), (s.upd u).hp = updH s.hp u
  | [], s => rfl
  | (i, b) :: r, s => by rw [St.upd, upd_hp r]; rfl
theorem updH_app : ∀ (u v : List (Nat × Blk)) (hp : List (Nat × Blk)), updH hp (u ++ v) = updH (updH hp u) v
  | [], v, hp => rfl
  | (i, b) :: r, v, hp => by rw [List.cons_append, updH, updH_app r v, updH]
theorem updH_none : ∀ (u : List (Nat × Blk)) (hp : List (Nat × Blk)) (i : Nat), (∀ e ∈ u, e.1 ≠ i) → find (updH hp u) i = find hp i
  | [], hp, i, _ => rfl
  | (j, b) :: r, hp, i, h => by
    rw [updH, updH_none r _ i (fun e he => h e (by simp [he])), find_put, if_neg (h (j, b) (by simp))]
theorem updH_mem : ∀ (u : List (Nat × Blk)) (hp : List (Nat × Blk)), (u.map (·.1)).Nodup → ∀ e ∈ u, find (updH hp u) e.1 = some e.2
  | [], hp, _, e, he => by cases he
  | (j, b) :: r, hp, h, e, he => by
    simp only [List.map_cons, List.nodup_cons] at h
    rw [updH]
    rcases List.mem_cons.1 he with he | he
    · subst he
      rw [updH_none r _ _ (fun e he heq => h.1 (List.mem_map.2 ⟨e, he, heq⟩)), find_put, if_pos rfl]
    · exact updH_mem r _ h.2 e he
theorem put_same {α : Type} : ∀ (l : List (Nat × α)) (i : Nat) (v : α), find l i = some v → put l i v = l
  | [], i, v, h => by simp [find] at h
  | (k, x) :: r, i, v, h => by
    simp only [find] at h
    simp only [put]
    by_cases hk : (k == i) = true
    · rw [if_pos hk] at h ⊢
      simp only [beq_iff_eq] at hk
      subst hk
      rw [Option.some.inj h]
    · rw [if_neg hk] at h ⊢
      rw [put_same r i v h]

section
variable {P : Program} {τ : Tab} {Γ : Ctx} {al al' al'' : Nat → Prop} {s : St} {a : Act} {w w' : World} {μ μ' μ'' : Nat → Option Pl} {n : Nat} {K : AV → List (Nat × Blk) → Prop} {next : Act → World → Prop}
variable {o : Oper} {Q : Exit → Act → World → Prop} {md : Nat → Bool} {hp hp' hp'' : List (Nat × Blk)} {S S0 S' S'' : Addr → Option Value}

theorem Ext.trans (h : Ext al al' hp hp' S S' μ μ') (k : Ext al' al'' hp' hp'' S' S'' μ' μ'') : Ext al al'' hp hp'' S S'' μ μ'' := by
  refine ⟨fun i hi => k.hal _ (h.hal _ hi), fun a v hv => k.hS _ _ (h.hS _ _ hv), fun i hi => Nat.le_trans (h.ver i hi) (k.ver i (h.hal _ hi)), fun i ver sz es' hi hv h' => ?_, fun i cs' hi h' => ?_⟩
  · obtain ⟨e1, h1, h2, h3⟩ := k.arr i ver sz es' (h.hal _ hi) (Nat.le_trans hv (h.ver i hi)) h'
    obtain ⟨e2, h4, h5, h6⟩ := h.arr i ver sz e1 hi hv h1
    exact ⟨e2, h4, Nat.le_trans h5 h2, by rw [h3, h6]⟩
  · obtain ⟨c1, h1, h2⟩ := k.box i cs' (h.hal _ hi) h'
    obtain ⟨c2, h3, h4⟩ := h.box i c1 hi h1
    exact ⟨c2, h3, by rw [h2, h4]⟩
theorem Ext.refl : Ext al al hp hp S S μ μ := ⟨fun _ h => h, fun _ _ h => h, fun _ _ => Nat.le_refl _, fun i ver sz es' _ _ h => ⟨es', h, Nat.le_refl _, rfl⟩, fun i cs' _ h => ⟨cs', h, rfl⟩⟩

theorem Mem.freeze1 (h : Mem Γ al hp w μ) {i sz v : Nat} {es : List T} (hb : find hp i = some (.arr sz es v)) :
    Mem Γ al (put hp i (.froz sz es v)) w μ ∧ Ext al al hp (put hp i (.froz sz es v)) (Sv Γ.G hp μ w) (Sv Γ.G (put hp i (.froz sz es v)) μ w) μ μ := by
  have hlive : ∀ j, live (put hp i (.froz sz es v)) j → live hp j ∧ i ≠ j := fun j hj => by
    rw [live_put] at hj
    by_cases hij : i = j
    · rw [if_pos hij] at hj; simp [Blk.live] at hj
    · rw [if_neg hij] at hj; exact ⟨hj, hij⟩
  have hli : live hp i := ⟨_, hb, rfl⟩
  have hS : ∀ a v', Sv Γ.G hp μ w a = some v' → Sv Γ.G (put hp i (.froz sz es v)) μ w a = some v' := fun a v' hv => by
    rw [Sv_some] at hv ⊢
    exact ⟨⟨hv.1.1, fun ⟨j, q, h1, h2, h3⟩ => hv.1.2 ⟨j, q, (hlive j h1).1, h2, h3⟩⟩, hv.2⟩
  have e : Ext al al hp (put hp i (.froz sz es v)) (Sv Γ.G hp μ w) (Sv Γ.G (put hp i (.froz sz es v)) μ w) μ μ := by
    refine ⟨fun _ h => h, hS, fun j _ => ?_, fun j ver sz' es' _ _ h' => ?_, fun j cs' _ h' => ?_⟩
    · by_cases hij : i = j
      · subst hij; simp [verOf, find_put, hb]
      · rw [verOf_put_ne hij]; exact Nat.le_refl _
    · by_cases hij : i = j
      · subst hij
        refine ⟨es', ?_, Nat.le_refl _, rfl⟩
        simp only [arrOf, find_put, if_true] at h'
        simp only [arrOf, hb]; exact h'
      · rw [arrOf_put_ne hij] at h'; exact ⟨es', h', Nat.le_refl _, rfl⟩
    · rw [find_put] at h'
      by_cases hij : i = j
      · rw [if_pos hij] at h'; cases h'
      · rw [if_neg hij] at h'; exact ⟨cs', h', rfl⟩
  refine ⟨⟨h.fr, h.gd, fun j b hb' => ⟨(h.pin j b hb').1, fun cs hcs => ?_⟩, fun j b hb' => ?_, fun j p hj hp => h.mine j p (hlive j hj).1 hp, fun j k p q hj hk hp hq hpq => h.inj j k p q (hlive j hj).1 (hlive k hk).1 hp hq hpq, fun j b hb' => ?_⟩, e⟩
  · rw [find_put] at hcs
    by_cases hij : i = j
    · rw [if_pos hij] at hcs; cases hcs
    · rw [if_neg hij] at hcs; exact (h.pin j b hb').2 cs hcs
  · rw [find_put] at hb'
    by_cases hij : i = j
    · subst hij; exact h.used _ _ hb
    · rw [if_neg hij] at hb'; exact h.used _ _ hb'
  · rw [find_put] at hb'
    by_cases hij : i = j
    · subst hij
      rw [if_pos rfl] at hb'
      obtain rfl := Option.some.inj hb'
      have hB := h.blk i _ hb
      cases hp : μ i with
      | none => rw [hp] at hB; exact hB
      | some p =>
        rw [hp] at hB
        obtain ⟨vs, h1, h2, h3, _⟩ := hB
        refine ⟨vs, h1.mono hS, fun j u hj => ?_, h3⟩
        rw [add_mk, Sv_some]
        refine ⟨⟨h.gd _ (h.mine i p hli hp).2, fun ⟨k, q, g1, g2, g3⟩ => ?_⟩, h2 j u hj⟩
        obtain ⟨g4, g5⟩ := hlive k g1
        exact g5 (h.inj i k p q hli g4 hp g2 g3.symm)
    · rw [if_neg hij] at hb'
      exact BlkOk.mono e (fun _ _ _ _ => ⟨rfl, rfl⟩) (h.blk j b hb')

theorem freeze_ok (hp0 : List (Nat × Blk)) : ∀ (ids : List Nat) {hp : List (Nat × Blk)}, Mem Γ al hp w μ → (∀ i, find hp i = find hp0 i ∨ ∃ sz es v, find hp0 i = some (.arr sz es v) ∧ find hp i = some (.froz sz es v)) →
    Mem Γ al (updH hp (freeze hp0 ids)) w μ ∧ Ext al al hp (updH hp (freeze hp0 ids)) (Sv Γ.G hp μ w) (Sv Γ.G (updH hp (freeze hp0 ids)) μ w) μ μ ∧
      (∀ i, find (updH hp (freeze hp0 ids)) i = find hp0 i ∨ ∃ sz es v, find hp0 i = some (.arr sz es v) ∧ find (updH hp (freeze hp0 ids)) i = some (.froz sz es v)) ∧
      ∀ i, (find hp i = find hp0 i ∧ i ∉ ids → find (updH hp (freeze hp0 ids)) i = find hp0 i) ∧ (∀ sz es v, find hp0 i = some (.arr sz es v) → (i ∈ ids ∨ find hp i = some (.froz sz es v)) → find (updH hp (freeze hp0 ids)) i = some (.froz sz es v))
  | [], hp, M, hh => ⟨M, Ext.refl, hh, fun i => ⟨fun h => h.1, fun sz es v _ h => by
      rcases h with h | h
      · cases h
      · exact h⟩⟩
  | i :: ids, hp, M, hh => by
    unfold freeze
    split
    · rename_i sz es v h0
      rw [updH]
      have step : ∃ _ : Mem Γ al (put hp i (.froz sz es v)) w μ, Ext al al hp (put hp i (.froz sz es v)) (Sv Γ.G hp μ w) (Sv Γ.G (put hp i (.froz sz es v)) μ w) μ μ := by
        rcases hh i with h1 | ⟨sz', es', v', h1, h2⟩
        · obtain ⟨m, e⟩ := M.freeze1 (h1.trans h0); exact ⟨m, e⟩
        · rw [h0] at h1
          obtain ⟨rfl, rfl, rfl⟩ := Blk.arr.inj (Option.some.inj h1)
          rw [put_same _ _ _ h2]; exact ⟨M, Ext.refl⟩
      obtain ⟨m, e⟩ := step
      have hh' : ∀ j, find (put hp i (.froz sz es v)) j = find hp0 j ∨ ∃ sz1 es1 v1, find hp0 j = some (.arr sz1 es1 v1) ∧ find (put hp i (.froz sz es v)) j = some (.froz sz1 es1 v1) := fun j => by
        simp only [find_put]
        by_cases hij : i = j
        · subst hij; exact .inr ⟨_, _, _, h0, by rw [if_pos rfl]⟩
        · simp only [if_neg hij]; exact hh j
      obtain ⟨g1, g2, g3, g4⟩ := freeze_ok hp0 ids m hh'
      refine ⟨g1, e.trans g2, g3, fun j => ⟨fun h => ?_, fun sz' es' v' h1 h2 => ?_⟩⟩
      · refine (g4 j).1 ⟨?_, fun hj => h.2 (by simp [hj])⟩
        have hij : i ≠ j := fun hij => h.2 (by simp [hij])
        rw [find_put, if_neg hij]; exact h.1
      · refine (g4 j).2 _ _ _ h1 ?_
        by_cases hij : i = j
        · subst hij
          rw [h0] at h1
          obtain ⟨rfl, rfl, rfl⟩ := Blk.arr.inj (Option.some.inj h1)
          exact .inr (by rw [find_put, if_pos rfl])
        · rcases h2 with h2 | h2
          · rcases List.mem_cons.1 h2 with h2 | h2
            · exact absurd h2.symm hij
            · exact .inl h2
          · exact .inr (by rw [find_put, if_neg hij]; exact h2)
    · rename_i hno
      obtain ⟨g1, g2, g3, g4⟩ := freeze_ok hp0 ids M hh
      refine ⟨g1, g2, g3, fun j => ⟨fun h => (g4 j).1 ⟨h.1, fun hj => h.2 (by simp [hj])⟩, fun sz' es' v' h1 h2 => (g4 j).2 _ _ _ h1 ?_⟩⟩
      rcases h2 with h2 | h2
      · rcases List.mem_cons.1 h2 with h2 | h2
        · subst h2; exact absurd h1 (hno _ _ _)
        · exact .inl h2
      · exact .inr h2
end
end Go.Proofs.Ytbmdncjnnlajnaa.M
