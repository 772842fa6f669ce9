/- A machine of values: each operation does on the machine what is told of it, part 3: addresses, numbers. No condition. -/
import Derived.Test.YtbmdncjnnlajnaaM6
namespace Go.Proofs.Ytbmdncjnnlajnaa.M
open Go
set_option linter.unusedSimpArgs false
set_option linter.unusedVariables false
set_option linter.unusedSectionVars false

section
variable {P : Program} {τ : Tab} {Γ : Ctx} {al : Nat → Prop} {s : St} {a : Act} {w : World} {μ : Nat → Option Pl} {n : Nat} {K : AV → List (Nat × Blk) → Prop} {next : Act → World → Prop}
variable {o : Oper} {Q : Exit → Act → World → Prop} {md : Nat → Bool} {hp : List (Nat × Blk)} {S : Addr → Option Value}

theorem struct_of (hτ : TOk P τ) {t : Nat} {fs : List (Nat × Nat)} (hk : (tg τ t).k = .struct fs) : ∃ F : Array Field, P.underlying t = some (.struct F) ∧ F.toList.map (fun f => (f.offset, f.type)) = fs ∧ ∀ f ∈ fs, (find τ f.2).isSome = true := by
  have hk' := (hτ t _ (find_of_k (by rw [hk]; simp))).k
  simp only [kOk, hk] at hk'
  obtain ⟨⟨F, h1, h2⟩, h3⟩ := hk'
  exact ⟨F, h1, h2, h3⟩
theorem slice_of (hτ : TOk P τ) {t e : Nat} (hk : (tg τ t).k = .slice e) : P.underlying t = some (.slice e) ∧ ∃ d, find τ e = some d := by
  have hk' := (hτ t _ (find_of_k (by rw [hk]; simp))).k
  simp only [kOk, hk] at hk'
  exact ⟨hk'.1, Option.isSome_iff_exists.1 hk'.2⟩
theorem array_of (hτ : TOk P τ) {t e m : Nat} (hk : (tg τ t).k = .array m e) : P.underlying t = some (.array m e) ∧ ∃ d, find τ e = some d := by
  have hk' := (hτ t _ (find_of_k (by rw [hk]; simp))).k
  simp only [kOk, hk] at hk'
  exact ⟨hk'.1, Option.isSome_iff_exists.1 hk'.2⟩
theorem field_of {F : Array Field} {fs : List (Nat × Nat)} (h : F.toList.map (fun f => (f.offset, f.type)) = fs) {f fo ft : Nat} (hf : fs[f]? = some (fo, ft)) : ∃ fl, F[f]? = some fl ∧ fl.offset = fo ∧ fl.type = ft := by
  rw [← h, List.getElem?_map, Option.map_eq_some_iff] at hf
  obtain ⟨fl, h1, h2⟩ := hf
  simp only [Prod.mk.injEq] at h2
  exact ⟨fl, by simpa using h1, h2.1, h2.2⟩

theorem op_fieldAddr (hτ : TOk P τ) (R : Rel Γ al s a w μ) {t : TypeId} {x : Operand} {f : Nat} (ho : o.op = .fieldAddr t x f) (h : op P τ md o s n K) (N : Nxt Γ al s a w μ n o.dst K next) : o.wp P a w next Q := by
  have hx := eval_ok (τ := τ) R 0 x
  simp only [op, ho] at h
  split at h
  · rename_i fs c hk he
    obtain ⟨F, hu, hF, hfs⟩ := struct_of hτ hk
    rw [he] at hx
    split at h
    · rename_i fo ft hf
      obtain ⟨fl, hfl, hfo, hft⟩ := field_of hF hf
      obtain ⟨d, hd⟩ := Option.isSome_iff_exists.1 (hfs (fo, ft) (List.mem_of_getElem? hf))
      split at h
      · rename_i hsz
        have hsz' : ¬ d.sz = 0 := by
          have : tg τ ft = d := tg_of_find hd
          simp [this] at hsz; omega
        have hs := run_sizeOf' hτ w hd
        have hrun : ∀ ad : Addr, a.eval x = .pointer (some ad) → (execOp a.eval o).run P w = .ok (.value (.pointer (some (ad.add fo)))) w := fun ad hx => by
          simp [execOp, ho, Instr.fieldAt, run_underlying hu, hfl, hx, Instr.sureAddr, fieldPlace, hft, hs, hsz', hfo]
        split at h
        · rename_i i off
          split at h
          · rename_i cs hcs
            obtain ⟨p, h1, h2⟩ := hx.2.2 _ hcs
            exact wp_val (hrun _ h2) (N.quiet R h ⟨hx.1, rfl, fun cs hcs => ⟨p, h1, by rw [add_mk]⟩⟩)
          · exact h.elim
        · rename_i i v ix sb
          split at h
          · rename_i x hA
            obtain ⟨p, h1, h2⟩ := hx.2.2 _ _ hA
            exact wp_val (hrun _ h2) (N.quiet R h ⟨hx.1, rfl, fun sz' es' hA' => ⟨p, h1, by rw [hA] at hA'; obtain rfl := Option.some.inj hA'; rw [add_mk, Nat.add_assoc]⟩⟩)
          · exact h.elim
        · rename_i sz es ix sb
          obtain ⟨a0, h1, h2⟩ := hx
          exact wp_val (hrun _ h1) (N.quiet R h ⟨a0, by rw [add_add, Nat.add_assoc], h2⟩)
        · exact h.elim
      · exact h.elim
    · exact h.elim
  · exact h.elim

theorem op_field (hτ : TOk P τ) (R : Rel Γ al s a w μ) {t : TypeId} {x : Operand} {f : Nat} (ho : o.op = .field t x f) (h : op P τ md o s n K) (N : Nxt Γ al s a w μ n o.dst K next) : o.wp P a w next Q := by
  have hx := eval_ok (τ := τ) R t x
  simp only [op, ho] at h
  split at h
  · rename_i fs cs hk he
    obtain ⟨F, hu, hF, hfs⟩ := struct_of hτ hk
    rw [he] at hx
    obtain ⟨vs, hv, hC⟩ := hx
    split at h
    · rename_i fo ft hf
      obtain ⟨fl, hfl, hfo, hft⟩ := field_of hF hf
      split at h
      · rename_i d hd
        obtain ⟨y, hK, hA, h1, h2⟩ := part_ok hC h
        refine wp_val (val := pv d vs fo) ?_ (N.quiet R hK hA)
        have hs := run_sizeOf' hτ w hd
        have ha := run_isAgg' hτ w hd
        simp only [execOp, ho, Instr.field, hv]
        simp [run_underlying hu, hfl, asAgg, part, hft, ha, hfo, pv]
        cases hag : d.ag with
        | true => simp [hs]
        | false =>
          have hlt := h2 hag
          simp [hlt]
      · exact h.elim
    · exact h.elim
  · exact h.elim

theorem hold_list {sz : Nat} {es : List T} {v : Value} (h : Hold S (.list sz es) v) : (es = [] ∧ v = .slice none 0 0) ∨
    ∃ ad c vs, v = .slice (some ad) es.length c ∧ es.length ≤ c ∧ (∀ e ∈ es, e.cells.length = sz) ∧ HoldL S (flat es) vs ∧ ∀ (j : Nat) v, vs[j]? = some v → S (ad.add j) = some v := by
  cases h with
  | nil => exact .inl ⟨rfl, rfl⟩
  | list sz es ad n c vs hn hc hsz1 hl hv h1' hh => subst hn; exact .inr ⟨ad, c, vs, rfl, hc, hsz1, ⟨hl, h1', hh⟩, hv⟩

theorem indexAddr_slice (hτ : TOk P τ) {t e : TypeId} {d : TD} {x i : Operand} (ho : o.op = .indexAddr t x i) (hu : P.underlying t = some (.slice e)) (hd : find τ e = some d) {ad : Addr} {len c : Nat} {k : IntKind} {ix : Int}
    (hx : a.eval x = .slice (some ad) len c) (hi : a.eval i = .int k ix) (h1 : 0 ≤ ix) (h2 : ix < len) : (execOp a.eval o).run P w = .ok (.value (.pointer (some (ad.add (ix.toNat * d.sz))))) w := by
  have hs := run_sizeOf' hτ w hd
  simp [execOp, ho, Instr.indexAt, hi, hx, asIntOf, run_underlying hu, h1, h2, hs]

theorem op_indexAddr (hτ : TOk P τ) (R : Rel Γ al s a w μ) {t : TypeId} {x i : Operand} (ho : o.op = .indexAddr t x i) (h : op P τ md o s n K) (N : Nxt Γ al s a w μ n o.dst K next) : o.wp P a w next Q := by
  have hx := eval_ok (τ := τ) R t x
  simp only [op, ho] at h
  split at h
  · rename_i e sz es ix hk he hi
    obtain ⟨hu, d, hd⟩ := slice_of hτ hk
    obtain ⟨k, hi'⟩ := intA_ok R hi
    rw [he] at hx
    have htg : tg τ e = d := tg_of_find hd
    split at h
    · rename_i hsz
      obtain ⟨h1, h2, h3⟩ := h
      have hsz' : sz = d.sz := by simpa [htg] using hsz
      have hs := run_sizeOf' hτ w hd
      rcases hold_list hx.1 with ⟨rfl, _⟩ | ⟨ad, c, vs, hv, hc, hsz1, hH, hS⟩
      · simp at h2; omega
      · subst hsz'
        exact wp_val (indexAddr_slice hτ ho hu hd hv hi' h1 h2) (N.quiet R h3 ⟨ad, rfl, vs, hH, hS, hsz1⟩)
    · exact h.elim
  · rename_i e j v off len ix hk he hi
    obtain ⟨hu, d, hd⟩ := slice_of hτ hk
    obtain ⟨k, hi'⟩ := intA_ok R hi
    rw [he] at hx
    have htg : tg τ e = d := tg_of_find hd
    split at h
    · rename_i sz es hA
      split at h
      · rename_i hsz
        obtain ⟨h1, h2, h3⟩ := h
        have hsz' : sz = d.sz := by simpa [htg] using hsz
        obtain ⟨h4, h5⟩ := hx.2.2 _ _ hA
        cases hp : μ j with
        | none => rw [hp] at h5; obtain ⟨_, rfl, _⟩ := h5; omega
        | some p =>
          rw [hp] at h5
          obtain ⟨ad, cap, h6, h7, h8, h9⟩ := h5
          have h7' : ad = ⟨p.b, p.base + off * sz, none⟩ := by
            rcases h7 with h7 | h7
            · exact h7
            · omega
          subst h7'
          subst hsz'
          refine wp_val (indexAddr_slice hτ ho hu hd h6 hi' h1 h2) (N.quiet R h3 ⟨hx.1, rfl, fun sz' es' hA' => ?_⟩)
          rw [hA] at hA'
          obtain ⟨rfl, rfl⟩ := Prod.mk.inj (Option.some.inj hA')
          exact ⟨p, hp, by rw [add_mk, Nat.add_mul]; simp [Nat.add_assoc]⟩
      · exact h.elim
    · exact h.elim
  · rename_i m e j off ix hk he hi
    obtain ⟨hu, d, hd⟩ := array_of hτ hk
    obtain ⟨k, hi'⟩ := intA_ok R hi
    rw [he] at hx
    have htg : tg τ e = d := tg_of_find hd
    split at h
    · rename_i cs hb
      obtain ⟨h1, h2, h3⟩ := h
      obtain ⟨p, h4, h5⟩ := hx.2.2 _ hb
      have hs := run_sizeOf' hτ w hd
      refine wp_val (val := .pointer (some ((⟨p.b, off, none⟩ : Addr).add (ix.toNat * d.sz)))) ?_ (N.quiet R h3 ⟨hx.1, rfl, fun cs hcs => ⟨p, h4, by rw [add_mk, htg]⟩⟩)
      simp [execOp, ho, Instr.indexAt, hi', h5, asIntOf, run_underlying hu, h1, h2, hs, Instr.sureAddr]
    · exact h.elim
  · exact h.elim

theorem op_unOp (R : Rel Γ al s a w μ) {u : UnOp} {t : TypeId} {x : Operand} (ho : o.op = .unOp u t x) (h : op P τ md o s n K) (N : Nxt Γ al s a w μ n o.dst K next) : o.wp P a w next Q := by
  simp only [op, ho] at h
  split at h
  · rename_i b he
    have := eval_bool R he
    exact wp_val (val := .bool (!b)) (by simp [execOp, ho, Op.unary, this]) (N.quiet R h ⟨.bool _, rfl⟩)
  · rename_i k m he
    have := eval_int R he
    exact wp_val (val := .int k (k.wrap (0 - m))) (by simp [execOp, ho, Op.unary, Op.intArith, this]) (N.quiet R h ⟨.int _ _, rfl⟩)
  · exact h.elim
end
end Go.Proofs.Ytbmdncjnnlajnaa.M
