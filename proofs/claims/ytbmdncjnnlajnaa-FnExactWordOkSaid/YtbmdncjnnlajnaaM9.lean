/- A machine of values: each operation does on the machine what is told of it, part 5: cuts, boxes, strings. No condition. -/
import Derived.Test.YtbmdncjnnlajnaaM8
namespace Go.Proofs.Ytbmdncjnnlajnaa.M
open Go
set_option linter.unusedSimpArgs false
set_option linter.unusedVariables false
set_option linter.unusedSectionVars false

section
variable {P : Program} {τ : Tab} {Γ : Ctx} {al : Nat → Prop} {s : St} {a : Act} {w : World} {μ : Nat → Option Pl} {n : Nat} {K : AV → List (Nat × Blk) → Prop} {next : Act → World → Prop}
variable {o : Oper} {Q : Exit → Act → World → Prop} {md : Nat → Bool} {hp : List (Nat × Blk)} {S : Addr → Option Value}

theorem cut_ok (R : Rel Γ al s a w μ) {lo hi : Option Operand} {len : Nat} {K' : Nat → Nat → Prop} (h : cutK (lo.map (s.eval τ 0)) (hi.map (s.eval τ 0)) len K') :
    ∃ l h : Nat, K' l h ∧ l ≤ h ∧ h ≤ len ∧ ∀ (is : Bool) cap, len ≤ cap → (Instr.sliceBounds is len cap (lo.map a.eval) (hi.map a.eval) none).run P w = .ok (l, h, cap) w := by
  unfold cutK at h
  split at h
  · rename_i hh ll e1 e2
    obtain ⟨h1, h2, h3, h4⟩ := h
    have hb : ∀ {k : IntKind} {v : Int} {y : Nat} (code : BoundsCode), 0 ≤ v → v ≤ y → (Instr.sliceBound (.int k v) y code).run P w = .ok v.toNat w := fun code a b => by
      simp [Instr.sliceBound, asIntOf, a, b]
    refine ⟨ll.toNat, hh.toNat, h4, by omega, by omega, fun is cap hc => ?_⟩
    have hH : (match hi.map a.eval with | some v => Instr.sliceBound v cap (if is then .sliceAcap else .sliceAlen) | none => pure len : Sem Nat).run P w = .ok hh.toNat w := by
      cases hi with
      | none => simp at e1; subst e1; simp
      | some x =>
        obtain ⟨k, hx⟩ := intA_ok R (by simpa using e1)
        simp only [Option.map_some, hx]
        exact hb _ (by omega) (by omega)
    have hL : (match lo.map a.eval with | some v => Instr.sliceBound v hh.toNat .sliceB | none => pure 0 : Sem Nat).run P w = .ok ll.toNat w := by
      cases lo with
      | none => simp at e2; subst e2; simp
      | some x =>
        obtain ⟨k, hx⟩ := intA_ok R (by simpa using e2)
        simp only [Option.map_some, hx]
        exact hb _ (by omega) (by omega)
    unfold Instr.sliceBounds
    simp only [Option.isSome_none, Bool.false_eq_true, if_false]
    cases hi with
    | none =>
      simp only [Option.map_none] at hH ⊢
      simp only [Sem.run_bind, Sem.run_pure, Result.andThen_ok] at hH ⊢
      cases lo <;> simp_all
    | some x =>
      simp only [Option.map_some] at hH ⊢
      simp only [Sem.run_bind, Sem.run_pure, Result.andThen_ok, hH]
      cases lo <;> simp_all
  · exact h.elim

theorem op_box (R : Rel Γ al s a w μ) (hn : ¬ al n) {t : TypeId} {x : Operand} (ho : o.op = .box t x) (h : op P τ md o s n K) (N : Nxt Γ al s a w μ n o.dst K next) : o.wp P a w next Q := by
  have hx := eval_ok (τ := τ) R t x
  simp only [op, ho] at h
  split at h
  · rename_i y he
    rw [he] at hx
    split at h
    · rename_i hth
      have hcs : ∃ vs : List Value, (a.eval x).cells = vs.toArray ∧ CsOk al s.hp (Sv Γ.G s.hp μ w) μ y.cells vs := by
        cases y with
        | c c =>
          simp only [A.cells, List.all_cons, List.all_nil, Bool.and_true] at hth
          have h1 := COk.one hx hth
          refine ⟨[a.eval x], ?_, by simp [A.cells], by simpa using h1, fun j c' v h2 h3 => ?_⟩
          · cases hv : a.eval x <;> simp [hv, Value.oneCell'] at h1 <;> rfl
          · cases j with
            | zero => simp [A.cells] at h2 h3; subst h2; subst h3; exact hx
            | succ j => simp [A.cells] at h2
        | g cs =>
          obtain ⟨vs, hv, hC⟩ := hx
          exact ⟨vs, by rw [hv]; rfl, hC⟩
      obtain ⟨vs, hv, hC⟩ := hcs
      refine wp_val (val := .pointer (some ⟨w.heap.size, 0, none⟩)) (w' := w.alloc (.cells vs.toArray t)) (by simp [execOp, ho, Instr.box, newVar, newRow, hv]) ?_
      refine N.new R hn (Fr.alloc _ _) (p := some ⟨w.heap.size, 0, vs.length⟩) h (fun q hq => by obtain rfl := Option.some.inj hq; simp) ?_ ?_
      · exact ⟨rfl, vs, hC, fun j v hj => new_row w vs.toArray t j v (by simpa using hj)⟩
      · exact ⟨.inr ⟨Nat.le_refl _, by omega⟩, rfl, fun cs hcs => ⟨⟨w.heap.size, 0, vs.length⟩, by simp [setμ], rfl⟩⟩
    · exact h.elim
  · exact h.elim

theorem op_slice (hτ : TOk P τ) (R : Rel Γ al s a w μ) {t : TypeId} {x : Operand} {lo hi : Option Operand} (ho : o.op = .slice t x lo hi none) (h : op P τ md o s n K) (N : Nxt Γ al s a w μ n o.dst K next) : o.wp P a w next Q := by
  have hx := eval_ok (τ := τ) R t x
  simp only [op, ho] at h
  have hsl : ∀ {e : TypeId} {d : TD} {ad : Option Addr} {len cap l h : Nat}, P.underlying t = some (.slice e) → find τ e = some d → a.eval x = .slice ad len cap →
      (Instr.sliceBounds true len cap (lo.map a.eval) (hi.map a.eval) none).run P w = .ok (l, h, cap) w →
      (execOp a.eval o).run P w = .ok (.value (.slice (if cap = l then ad else ad.map (·.add (l * d.sz))) (h - l) (cap - l))) w := fun hu hd hx hb => by
    have hs := run_sizeOf' hτ w hd
    simp [execOp, ho, Instr.sliceAt, Instr.slice, run_underlying hu, hx, hb, hs]
  split at h
  · rename_i b hk he
    have hk' := (hτ t _ (find_of_k (by rw [hk]; simp))).k
    simp only [kOk, hk] at hk'
    have he' := eval_str R he
    obtain ⟨l, hh, hK, h1, h2, hr⟩ := cut_ok (P := P) R h
    refine wp_val (val := .string (b.extract l hh)) ?_ (N.quiet R hK ⟨.str _, rfl⟩)
    simp [execOp, ho, Instr.sliceAt, Instr.slice, run_underlying hk', he', hr false b.size (Nat.le_refl _)]
  · rename_i e sz es hk he
    obtain ⟨hu, d, hd⟩ := slice_of hτ hk
    have htg : tg τ e = d := tg_of_find hd
    rw [he] at hx
    split at h
    · rename_i hsz
      have hsz' : sz = d.sz := by simpa [htg] using hsz
      subst hsz'
      obtain ⟨l, hh, hK, h1, h2, hr⟩ := cut_ok (P := P) R h
      rcases hold_list hx.1 with ⟨rfl, hv⟩ | ⟨ad, c, vs, hv, hc, hsz1, hH, hS⟩
      · have : hh = 0 := by simpa using h2
        subst this
        have : l = 0 := by omega
        subst this
        refine wp_val (hsl hu hd hv (hr true 0 (by simp))) (N.quiet R hK ?_)
        simp
        exact ⟨.nil _, rfl⟩
      · refine wp_val (hsl hu hd hv (hr true c hc)) (N.quiet R hK ⟨?_, rfl⟩)
        have hfl := flat_length hsz1
        have hes : flat ((es.drop l).take (hh - l)) = ((flat es).drop (l * d.sz)).take ((hh - l) * d.sz) := by
          rw [flat_drop hsz1, flat_take (fun e he => hsz1 e (List.mem_of_mem_drop he))]
        have hlen : ((es.drop l).take (hh - l)).length = hh - l := by simp; omega
        have hmem : ∀ e ∈ (es.drop l).take (hh - l), e.cells.length = d.sz := fun e he => hsz1 e (List.mem_of_mem_drop (List.mem_of_mem_take he))
        have hle : l * d.sz + (hh - l) * d.sz ≤ es.length * d.sz := by rw [← Nat.add_mul]; exact Nat.mul_le_mul_right _ (by omega)
        by_cases hcl : c = l
        · have : hh = l := by omega
          subst this
          simp only [hcl, if_true, Nat.sub_self, List.take_zero]
          exact .list _ _ ad 0 0 [] rfl (Nat.le_refl _) (by simp) (by simp [flat]) (by simp) (by simp) (by simp)
        · rw [if_neg hcl]
          refine .list _ _ (ad.add (l * d.sz)) (hh - l) (c - l) ((vs.drop (l * d.sz)).take ((hh - l) * d.sz)) hlen.symm (by omega) hmem ?_ ?_ ?_ ?_
          · rw [hes]; simp [hH.1]
          · intro j v hj
            have hlt : j < (hh - l) * d.sz := by have := (List.getElem?_eq_some_iff.1 hj).1; simp at this; omega
            rw [List.getElem?_take_of_lt hlt, List.getElem?_drop] at hj
            rw [add_add]; exact hS _ _ hj
          · exact fun v hv => hH.2.1 v (List.mem_of_mem_drop (List.mem_of_mem_take hv))
          · intro j t v h3 h4
            rw [hes] at h3
            have hlt : j < (hh - l) * d.sz := by have := (List.getElem?_eq_some_iff.1 h4).1; simp at this; omega
            rw [List.getElem?_take_of_lt hlt, List.getElem?_drop] at h3 h4
            exact hH.2.2 _ _ _ h3 h4
    · exact h.elim
  · rename_i e i v off len hk he
    obtain ⟨hu, d, hd⟩ := slice_of hτ hk
    have htg : tg τ e = d := tg_of_find hd
    rw [he] at hx
    split at h
    · rename_i sz es hA
      split at h
      · rename_i hsz
        have hsz' : sz = d.sz := by simpa [htg] using hsz
        subst hsz'
        obtain ⟨l, hh, hK, h1, h2, hr⟩ := cut_ok (P := P) R h
        obtain ⟨h4, h5⟩ := hx.2.2 _ _ hA
        cases hp : μ i with
        | none =>
          rw [hp] at h5
          obtain ⟨rfl, rfl, q, hv⟩ := h5
          have : hh = 0 := by omega
          subst this
          have : l = 0 := by omega
          subst this
          refine wp_val (hsl hu hd hv (hr true 0 (by simp))) (N.quiet R hK ⟨hx.1, rfl, fun sz' es' hA' => ⟨by omega, ?_⟩⟩)
          rw [hp]; exact ⟨rfl, rfl, q, by simp⟩
        | some p =>
          rw [hp] at h5
          obtain ⟨ad, cap, hv, h7, h8, h9⟩ := h5
          refine wp_val (hsl hu hd hv (hr true cap h8)) (N.quiet R hK ⟨hx.1, rfl, fun sz' es' hA' => ?_⟩)
          rw [hA] at hA'
          obtain ⟨rfl, rfl⟩ := Prod.mk.inj (Option.some.inj hA')
          refine ⟨by omega, ?_⟩
          rw [hp]
          have hcap : (off + l + (cap - l)) * d.sz ≤ p.room := by
            have : off + l + (cap - l) = off + cap := by omega
            rw [this]; exact h9
          by_cases hcl : cap = l
          · exact ⟨ad, cap - l, by simp [hcl], .inr (by omega), by omega, hcap⟩
          · refine ⟨ad.add (l * d.sz), cap - l, by simp [hcl], .inl ?_, by omega, hcap⟩
            rcases h7 with h7 | h7
            · rw [h7, add_mk, Nat.add_mul, Nat.add_assoc]
            · omega
      · exact h.elim
    · exact h.elim
  · exact h.elim
end
end Go.Proofs.Ytbmdncjnnlajnaa.M
