/- A machine of values: each operation does on the machine what is told of it, part 7: lists that grow, strings. No condition. -/
import Derived.Test.YtbmdncjnnlajnaaM10
namespace Go.Proofs.Ytbmdncjnnlajnaa.M
open Go
set_option linter.unusedSimpArgs false
set_option linter.unusedVariables false
set_option linter.unusedSectionVars false

section
variable {P : Program} {τ : Tab} {Γ : Ctx} {al : Nat → Prop} {s : St} {a : Act} {w : World} {μ : Nat → Option Pl} {n : Nat} {K : AV → List (Nat × Blk) → Prop} {next : Act → World → Prop}
variable {o : Oper} {Q : Exit → Act → World → Prop} {md : Nat → Bool} {hp : List (Nat × Blk)} {S : Addr → Option Value}

/-- A list that is read, whoever holds it. -/
theorem list_src (M : Mem Γ al hp w μ) {b : C} {v : Value} {sz : Nat} {fs : List T} (h : COk al hp (Sv Γ.G hp μ w) μ b v) (hl : listOf hp b = some (sz, fs)) :
    ((∃ q, v = .slice q 0 0) ∧ fs = []) ∨ ∃ ad cap vs, v = .slice (some ad) fs.length cap ∧ HoldL (Sv Γ.G hp μ w) (flat fs) vs ∧ (∀ (j : Nat) v, vs[j]? = some v → w.cell? (ad.add j) = some v) ∧ (∀ e ∈ fs, e.cells.length = sz) ∧ fs.length ≤ cap := by
  cases b with
  | t x =>
    cases x with
    | list sz' es =>
      simp only [listOf, Option.some.injEq, Prod.mk.injEq] at hl
      obtain ⟨rfl, rfl⟩ := hl
      rcases hold_list h.1 with ⟨rfl, hv⟩ | ⟨ad, c, vs, hv, hc, hsz, hH, hS⟩
      · exact .inl ⟨⟨_, hv⟩, rfl⟩
      · exact .inr ⟨ad, c, vs, hv, hH, fun j v hj => (Sv_some.1 (hS j v hj)).2, hsz, hc⟩
    | _ => simp [listOf] at hl
  | nil sz' =>
    simp only [listOf, Option.some.injEq, Prod.mk.injEq] at hl
    obtain ⟨rfl, rfl⟩ := hl
    exact .inl ⟨⟨_, h⟩, rfl⟩
  | own i ver off len =>
    simp only [listOf, Option.map_eq_some_iff] at hl
    obtain ⟨⟨sz', es⟩, hA, he⟩ := hl
    simp only [Prod.mk.injEq] at he
    obtain ⟨rfl, rfl⟩ := he
    obtain ⟨h4, h5⟩ := h.2.2 _ _ hA
    cases hp' : μ i with
    | none =>
      rw [hp'] at h5
      obtain ⟨rfl, rfl, q, rfl⟩ := h5
      exact .inl ⟨⟨q, rfl⟩, by simp⟩
    | some p =>
      rw [hp'] at h5
      obtain ⟨ad, cap, rfl, h7, h8, h9⟩ := h5
      have hlen : ((es.drop off).take len).length = len := by simp; omega
      obtain ⟨vs, h1, h2, h3⟩ := arr_cells M hA hp'
      have hmem : ∀ e ∈ (es.drop off).take len, e.cells.length = sz' := fun e he => h3 e (List.mem_of_mem_drop (List.mem_of_mem_take he))
      have hfl := flat_length h3
      have hes : flat ((es.drop off).take len) = ((flat es).drop (off * sz')).take (len * sz') := by
        rw [flat_drop h3, flat_take (fun e he => h3 e (List.mem_of_mem_drop he))]
      have hle : off * sz' + len * sz' ≤ es.length * sz' := by rw [← Nat.add_mul]; exact Nat.mul_le_mul_right _ (by omega)
      refine .inr ⟨ad, cap, (vs.drop (off * sz')).take (len * sz'), by rw [hlen], ⟨by rw [hes]; simp [h1.1], fun v hv => h1.2.1 v (List.mem_of_mem_drop (List.mem_of_mem_take hv)), fun j t v h3 h4 => ?_⟩, fun j v hj => ?_, hmem, by rw [hlen]; exact h8⟩
      · rw [hes] at h3
        have hlt : j < len * sz' := by have := (List.getElem?_eq_some_iff.1 h4).1; simp at this; omega
        rw [List.getElem?_take_of_lt hlt, List.getElem?_drop] at h3 h4
        exact h1.2.2 _ _ _ h3 h4
      · have hlt : j < len * sz' := by have := (List.getElem?_eq_some_iff.1 hj).1; simp at this; omega
        rw [List.getElem?_take_of_lt hlt, List.getElem?_drop] at hj
        rcases h7 with h7 | h7
        · rw [h7, add_mk, Nat.add_assoc]; exact h2 _ _ hj
        · have : len = 0 := by omega
          subst this; simp at hlt
  | _ => simp [listOf] at hl

theorem run_append_fit (w : World) {t u ty e e' : TypeId} {i : TypeInfo} (ht : P.underlying t = some (.slice e)) (hu : P.underlying u = some (.slice e')) (hi : P.info? e = some i)
    {base q : Option Addr} {len cap m c : Nat} {news : List Value} (hf : (Builtin.firstCells i.size m (.slice q m c)).run P w = .ok news.toArray w) (hroom : len + m ≤ cap) {w' : World}
    (hst : ∀ ad, base = some ad → (storeCells (ad.add (len * i.size)) news).run P w = .ok () w') (hno : base = none → w' = w) :
    (Builtin.append_ #[t, u] ty #[.slice base len cap, .slice q m c]).run P w = .ok (.slice base (len + m) cap) w' := by
  cases base with
  | none => obtain rfl := hno rfl; simp [Builtin.append_, run_underlying ht, run_underlying hu, sizeOf, typeInfo, hi, Builtin.lenOf, hroom, hf]
  | some ad => simp [Builtin.append_, run_underlying ht, run_underlying hu, sizeOf, typeInfo, hi, Builtin.lenOf, hroom, hf, hst ad rfl]

theorem run_append_more (w : World) {t u ty e e' : TypeId} {i : TypeInfo} {z : Value} (ht : P.underlying t = some (.slice e)) (hu : P.underlying u = some (.slice e')) (hi : P.info? e = some i) (hz : i.zero = some z)
    {base q : Option Addr} {len cap m c : Nat} {olds news : List Value} (hf : (Builtin.firstCells i.size m (.slice q m c)).run P w.drew = .ok news.toArray w.drew) (ho : (Builtin.firstCells i.size len (.slice base len cap)).run P w.drew = .ok olds.toArray w.drew)
    (hroom : cap < len + m) (h63 : ((len + m : Nat) : Int) ≤ 9223372036854775807) (hfit : Builtin.nextslicecap (len + m) cap * i.bytes ≤ 281474976710656) :
    (Builtin.append_ #[t, u] ty #[.slice base len cap, .slice q m c]).run P w =
      .ok (.slice (some ⟨w.heap.size, 0, none⟩) (len + m) (grownCap w (len + m) cap e)) (w.drew.alloc (.cells (olds.toArray ++ news.toArray ++ Builtin.zeroCells z.cells (grownCap w (len + m) cap e - (len + m))) e)) := by
  have hn : ¬ (len + m ≤ cap) := by omega
  have h63' : ¬ (9223372036854775807 < ((len : Int) + (m : Int))) := by omega
  have h48' : ¬ (281474976710656 < Builtin.nextslicecap (len + m) cap * i.bytes) := by omega
  simp [Builtin.append_, run_underlying ht, run_underlying hu, sizeOf, typeInfo, zeroValue, hi, hz, Builtin.lenOf, hn, h63', h48', Question.forced, hf, ho, newRow, grownCap]
  congr 2
  apply Array.ext'
  simp [List.append_assoc]

theorem HoldL.append {xs ys : List T} {vs us : List Value} (h : HoldL S xs vs) (h' : HoldL S ys us) : HoldL S (xs ++ ys) (vs ++ us) := by
  refine ⟨by simp [h.1, h'.1], fun v hv => ?_, fun j t v a b => ?_⟩
  · rcases List.mem_append.1 hv with hv | hv
    · exact h.2.1 v hv
    · exact h'.2.1 v hv
  · by_cases hj : j < xs.length
    · rw [List.getElem?_append_left hj] at a
      rw [List.getElem?_append_left (by rw [h.1]; exact hj)] at b
      exact h.2.2 _ _ _ a b
    · rw [List.getElem?_append_right (by omega)] at a
      rw [List.getElem?_append_right (by rw [h.1]; omega), h.1] at b
      exact h'.2.2 _ _ _ a b

/-- A grown row, as a list of the call's own. -/
theorem grown_ok {es : List T} {vs rest : List Value} {sz : Nat} {e : TypeId} (w : World) (hH : HoldL S (flat es) vs) (hsz : ∀ e ∈ es, e.cells.length = sz) {w' : World} {cells : Array Value} (hc : cells.toList = vs ++ rest)
    (hw : w' = w.drew.alloc (.cells cells e)) : ArrOk S w' w.heap.size 0 (vs ++ rest).length sz es := by
  subst hw
  have hnew := new_row w.drew cells e
  refine ⟨vs, hH, fun j v hj => ?_, hsz, by simp, fun j hj => ?_⟩
  · rw [Nat.zero_add]
    have : (vs ++ rest)[j]? = some v := by rw [List.getElem?_append_left (List.getElem?_eq_some_iff.1 hj).1]; exact hj
    exact (hnew j v (by rw [hc]; exact this)).1
  · rw [Nat.zero_add]
    have := hnew j _ (by rw [hc]; exact List.getElem?_eq_getElem hj)
    exact ⟨by rw [show (w.heap.size) = w.drew.heap.size from rfl, this.1]; rfl, this.2⟩

theorem run_firstCells_zero (w : World) (sz : Nat) (q : Option Addr) (l c : Nat) : (Builtin.firstCells sz 0 (.slice q l c)).run P w = .ok ([] : List Value).toArray w := by
  cases q with
  | none => exact run_firstCells_none w sz 0 l c
  | some q => exact run_firstCells_some w sz 0 q l c [] (by simp) (by simp)
theorem firstCells_src (w : World) {sz : Nat} {fs : List T} {v : Value}
    (h : ((∃ q, v = .slice q 0 0) ∧ fs = []) ∨ ∃ ad cap vs, v = .slice (some ad) fs.length cap ∧ HoldL S (flat fs) vs ∧ (∀ (j : Nat) v, vs[j]? = some v → w.cell? (ad.add j) = some v) ∧ (∀ e ∈ fs, e.cells.length = sz) ∧ fs.length ≤ cap) :
    ∃ q c vs, v = .slice q fs.length c ∧ HoldL S (flat fs) vs ∧ (∀ e ∈ fs, e.cells.length = sz) ∧ vs.length = fs.length * sz ∧ (Builtin.firstCells sz fs.length (.slice q fs.length c)).run P w = .ok vs.toArray w ∧
      (Builtin.firstCells sz fs.length (.slice q fs.length c)).run P w.drew = .ok vs.toArray w.drew := by
  rcases h with ⟨⟨q, rfl⟩, rfl⟩ | ⟨ad, cap, vs, rfl, h1, h2, h3, h4⟩
  · exact ⟨q, 0, [], rfl, ⟨rfl, by simp, by simp⟩, by simp, by simp, run_firstCells_zero w sz q 0 0, run_firstCells_zero w.drew sz q 0 0⟩
  · have hl : vs.length = fs.length * sz := by rw [h1.1, flat_length h3]
    exact ⟨some ad, cap, vs, rfl, h1, h3, hl, run_firstCells_some w sz fs.length ad _ cap vs hl h2, run_firstCells_some w.drew sz fs.length ad _ cap vs hl h2⟩

/-- A list that outgrows its row. -/
theorem append_grow (w : World) {t u ty e e' : TypeId} {i : TypeInfo} {z : Value} (ht : P.underlying t = some (.slice e)) (hu : P.underlying u = some (.slice e')) (hi : P.info? e = some i) (hz : i.zero = some z) (hzs : z.cells.size = i.size)
    {base q : Option Addr} {cap c : Nat} {es fs : List T} {olds news : List Value} (hH : HoldL S (flat es) olds) (hH' : HoldL S (flat fs) news) (hsz : ∀ e ∈ es, e.cells.length = i.size) (hsz' : ∀ e ∈ fs, e.cells.length = i.size)
    (hf : (Builtin.firstCells i.size fs.length (.slice q fs.length c)).run P w.drew = .ok news.toArray w.drew) (ho : (Builtin.firstCells i.size es.length (.slice base es.length cap)).run P w.drew = .ok olds.toArray w.drew)
    (hroom : cap < es.length + fs.length) (hpos : 0 < i.size) (hb : (es.length + fs.length) * i.bytes ≤ 140737488355328) (h63 : es.length + fs.length ≤ 9223372036854775807) :
    ∃ val w' p, (Builtin.append_ #[t, u] ty #[.slice base es.length cap, .slice q fs.length c]).run P w = .ok val w' ∧ Fr [] w w' ∧ w.heap.size ≤ p.b ∧ p.b < w'.heap.size ∧ ArrOk S w' p.b p.base p.room i.size (es ++ fs) ∧
      SlOk (some p) i.size 0 (es.length + fs.length) val ∧ val.oneCell' = true := by
  have hr := run_append_more (P := P) (ty := ty) w ht hu hi hz hf ho hroom (by omega) (growslice_fits hroom hb)
  have hge := grownCap_ge w (es.length + fs.length) cap e
  refine ⟨_, _, ⟨w.heap.size, 0, ((olds ++ news) ++ (Builtin.zeroCells z.cells (grownCap w (es.length + fs.length) cap e - (es.length + fs.length))).toList).length⟩, hr, (Fr.drew w).trans (Fr.alloc _ _) (by simp), Nat.le_refl _, by simp, ?_, ?_, rfl⟩
  · refine grown_ok w (vs := olds ++ news) ?_ ?_ (by simp) rfl
    · rw [flat_append]; exact hH.append hH'
    · intro e he
      rcases List.mem_append.1 he with he | he
      · exact hsz e he
      · exact hsz' e he
  · refine ⟨⟨w.heap.size, 0, none⟩, grownCap w (es.length + fs.length) cap e, rfl, .inl (by simp), hge, ?_⟩
    have e1 := hH.1
    have e2 := hH'.1
    rw [flat_length hsz] at e1
    rw [flat_length hsz'] at e2
    simp only [List.length_append, Array.length_toList, size_zeroCells, hzs, e1, e2]
    rw [← Nat.add_mul, ← Nat.add_mul]
    refine Nat.mul_le_mul_right _ ?_
    omega

theorem op_append (hτ : TOk P τ) (R : Rel Γ al s a w μ) (hn : ¬ al n) {xs : Array Operand} {ts : Array TypeId} (ho : o.op = .call ⟨.builtin .append, xs, ts⟩) (h : op P τ md o s n K) (N : Nxt Γ al s a w μ n o.dst K next) : o.wp P a w next Q := by
  simp only [op, ho] at h
  split at h
  · rename_i x y t u hxs hts
    obtain rfl := toList_two hxs
    obtain rfl := toList_two hts
    have hx := eval_ok (τ := τ) R t x
    have hy := eval_ok (τ := τ) R u y
    split at h
    · rename_i e ca cb hk he1 he2
      rw [he1] at hx
      rw [he2] at hy
      obtain ⟨hu, _⟩ := slice_of hτ hk
      split at h
      · rename_i d sz fs hd hl
        have hl2 : (∃ e', P.underlying u = some (.slice e')) ∧ listOf s.hp cb = some (sz, fs) := by
          split at hl
          · rename_i e' hk2
            split at hl
            · exact ⟨⟨e', (slice_of hτ hk2).1⟩, hl⟩
            · cases hl
          · cases hl
        obtain ⟨⟨e', hu'⟩, hl3⟩ := hl2
        obtain ⟨inf, z, i1, i2, i3, i4, i5, i6, i7, i8⟩ := (hτ e d hd).info
        split at h
        · rename_i hcond
          simp only [Bool.and_eq_true, beq_iff_eq, decide_eq_true_eq] at hcond
          obtain ⟨⟨rfl, hpos⟩, hbpos⟩ := hcond
          obtain ⟨q, c, vs, hyv, hH, hsz, hvl, hf1, hf2⟩ := firstCells_src (P := P) w (list_src R.mem hy hl3)
          have hrun : ∀ {base : Option Addr} {len cap : Nat} {r : Value} {w' : World}, a.eval x = .slice base len cap → (Builtin.append_ #[t, u] o.type #[.slice base len cap, .slice q fs.length c]).run P w = .ok r w' →
              (execOp a.eval o).run P w = .ok (.value r) w' := fun h1 h2 => by
            simp [execOp, ho, resolve, invoke, builtin, h1, hyv, h2]
          have h63 : ∀ m : Nat, m * d.bytes ≤ 140737488355328 → m ≤ 9223372036854775807 := fun m h1 => by
            have : m * 1 ≤ m * d.bytes := Nat.mul_le_mul_left _ hbpos
            omega
          have hgrow := fun {base : Option Addr} {cap : Nat} {es : List T} {olds : List Value} => append_grow (P := P) (S := Sv Γ.G s.hp μ w) (ty := o.type) w hu hu' i1 i4 (by rw [i5, i2]) (base := base) (cap := cap) (es := es) (olds := olds) (c := c) (q := q) (fs := fs) (news := vs)
          rw [i2, i3] at hgrow
          have hfit := fun {base : Option Addr} {len cap : Nat} => run_append_fit (P := P) (ty := o.type) (base := base) (len := len) (cap := cap) (q := q) (m := fs.length) (c := c) (news := vs) w hu hu' i1
          rw [i2] at hfit
          split at h
          · rename_i sz'
            obtain ⟨hb, hK⟩ := h
            by_cases h0 : fs.length = 0
            · have hfs : fs = [] := List.length_eq_zero_iff.1 h0
              subst hfs
              have hr := hfit (base := none) (len := 0) (cap := 0) hf1 (by simp) (w' := w) (by simp) (fun _ => rfl)
              exact wp_val (hrun hx hr) (N.new R hn (Fr.refl _ _) (p := none) hK (by simp) rfl ⟨⟨.inr ⟨Nat.le_refl _, by omega⟩, Nat.zero_le _⟩, rfl, fun sz es hA => by
                simp only [arrOf, find_put, if_true, beq_self_eq_true, Option.some.injEq, Prod.mk.injEq] at hA
                obtain ⟨rfl, rfl⟩ := hA
                refine ⟨Nat.le_refl _, ?_⟩
                simp only [setμ, if_true]
                exact ⟨rfl, rfl, none, rfl⟩⟩)
            · obtain ⟨val, w', p, hr, hfr, p1, p2, hA, hS, hone⟩ := hgrow (base := none) (cap := 0) (es := []) (olds := []) ⟨rfl, by simp, by simp⟩ hH (by simp) hsz hf2 (run_firstCells_none w.drew d.sz 0 0 0) (by simp; omega) hpos (by simpa using hb) (h63 _ (by simpa using hb))
              simp only [List.length_nil, Nat.zero_add, List.nil_append] at hr hA hS
              exact wp_val (hrun hx hr) (N.new R hn hfr (p := some p) hK (fun q hq => by obtain rfl := Option.some.inj hq; exact ⟨p1, p2⟩) hA ⟨⟨.inr ⟨Nat.le_refl _, by omega⟩, Nat.zero_le _⟩, hone, fun sz es hA => by
                simp only [arrOf, find_put, if_true, beq_self_eq_true, Option.some.injEq, Prod.mk.injEq] at hA
                obtain ⟨rfl, rfl⟩ := hA
                refine ⟨by omega, ?_⟩
                simp only [setμ, if_true]
                exact hS⟩)
          · rename_i i v len
            split at h
            · rename_i sz' es v' hb0
              split at h
              · rename_i hvv
                simp only [Bool.and_eq_true, beq_iff_eq] at hvv
                obtain ⟨rfl, rfl⟩ := hvv
                obtain ⟨rfl, hb, hK⟩ := h
                have hA : arrOf s.hp i v = some (d.sz, es) := by simp [arrOf, hb0]
                obtain ⟨h4, h5⟩ := hx.2.2 _ _ hA
                have hver : verOf s.hp i ≤ verOf (put s.hp i (.arr d.sz (es ++ fs) (v + 1))) i := by simp [verOf, find_put, hb0]
                have harr : ∀ ver, ver ≤ verOf s.hp i → arrOf (put s.hp i (.arr d.sz (es ++ fs) (v + 1))) i ver = none := fun ver hv => by
                  simp only [verOf, hb0] at hv
                  have : (ver == v + 1) = false := by simp; omega
                  simp [arrOf, find_put, this]
                have hval : ∀ {al' : Nat → Prop} {S' : Addr → Option Value} {μ' : Nat → Option Pl} {val : Value}, al' i → val.oneCell' = true → SlOk (μ' i) d.sz 0 (es.length + fs.length) val →
                    AVOk al' (put s.hp i (.arr d.sz (es ++ fs) (v + 1))) S' μ' (.c (.own i (v + 1) 0 (es.length + fs.length))) val := fun ha h1 h2 => by
                  refine ⟨⟨ha, by simp [verOf, find_put]⟩, h1, fun sz es' hA => ?_⟩
                  simp only [arrOf, find_put, if_true, beq_self_eq_true, Option.some.injEq, Prod.mk.injEq] at hA
                  obtain ⟨rfl, rfl⟩ := hA
                  exact ⟨by simp, h2⟩
                have hgrown : ∀ {base : Option Addr} {cap : Nat} {olds : List Value}, a.eval x = .slice base es.length cap → HoldL (Sv Γ.G s.hp μ w) (flat es) olds → (∀ e ∈ es, e.cells.length = d.sz) → (Builtin.firstCells d.sz es.length (.slice base es.length cap)).run P w.drew = .ok olds.toArray w.drew →
                    cap < es.length + fs.length → o.wp P a w next Q := fun hxv hO hszE hfo hroom => by
                  obtain ⟨val, w', p, hr, hfr, p1, p2, hA, hS, hone⟩ := hgrow hO hH hszE hsz hf2 hfo hroom hpos hb (h63 _ hb)
                  exact wp_val (hrun hxv hr) (N.move R hb0 hfr (p := some p) hK hver harr (by simp) (fun q hq => by obtain rfl := Option.some.inj hq; exact ⟨p1, p2⟩) hA (hval (.inl hx.1.1) hone (by simp only [setμ, if_true]; exact hS)))
                cases hp : μ i with
                | none =>
                  rw [hp] at h5
                  obtain ⟨_, hl0, q', hxv⟩ := h5
                  have hes : es = [] := List.length_eq_zero_iff.1 hl0
                  subst hes
                  by_cases h0 : fs.length = 0
                  · have hfs : fs = [] := List.length_eq_zero_iff.1 h0
                    subst hfs
                    have hvs : vs = [] := List.length_eq_zero_iff.1 (by simpa using hvl)
                    have hr := hfit (base := q') (len := 0) (cap := 0) hf1 (by simp) (w' := w) (by rw [hvs]; intro _ _; rfl) (fun _ => rfl)
                    exact wp_val (hrun hxv hr) (N.move R hb0 (Fr.refl _ _) (p := none) hK hver harr (by simp) (by simp) rfl (hval (.inl hx.1.1) rfl (by simp only [setμ, if_true]; exact ⟨rfl, rfl, q', rfl⟩)))
                  · exact hgrown hxv (olds := []) ⟨rfl, by simp, by simp⟩ (by simp) (run_firstCells_zero w.drew d.sz q' 0 0) (by simp; omega)
                | some p =>
                  rw [hp] at h5
                  obtain ⟨ad, cap, hxv, h7, h8, h9⟩ := h5
                  have hB := R.mem.blk _ _ hb0
                  rw [hp] at hB
                  obtain ⟨ovs, hO, hc, hszE, hroomE, hcells⟩ := hB
                  have hOl : ovs.length = es.length * d.sz := by rw [hO.1, flat_length hszE]
                  have hcad : ∀ (j : Nat) v, ovs[j]? = some v → w.cell? (ad.add j) = some v := fun j v hj => by
                    rcases h7 with h7 | h7
                    · rw [h7, add_mk, Nat.zero_mul, Nat.add_zero]; exact hc j v hj
                    · have : es.length = 0 := by omega
                      rw [this] at hOl
                      have := (List.getElem?_eq_some_iff.1 hj).1
                      omega
                  by_cases hroom : es.length + fs.length ≤ cap
                  · have hle : es.length * d.sz + fs.length * d.sz ≤ p.room := by
                      rw [← Nat.add_mul]; exact Nat.le_trans (Nat.mul_le_mul_right _ (by omega)) h9
                    have hst : ∀ ad', some ad = some ad' → (storeCells (ad'.add (es.length * d.sz)) vs).run P w = .ok () (w.setCells p.b (p.base + es.length * d.sz) vs) := fun ad' e => by
                      obtain rfl := Option.some.inj e
                      by_cases hc0 : cap = 0
                      · have : fs.length = 0 := by omega
                        rw [this] at hvl
                        have : vs = [] := List.length_eq_zero_iff.1 (by simpa using hvl)
                        subst this
                        rfl
                      · have h7' : ad = ⟨p.b, p.base + 0 * d.sz, none⟩ := by
                          rcases h7 with h7 | h7
                          · exact h7
                          · exact absurd h7 hc0
                        subst h7'
                        have := run_storeCells_cells (P := P) p.b (p.base + es.length * d.sz) vs 0 w
                          (fun j hj => by have := (hcells (es.length * d.sz + j) (by omega)).1; rw [show p.base + es.length * d.sz + 0 + j = p.base + (es.length * d.sz + j) by omega]; exact this)
                          (fun j hj => by have := (hcells (es.length * d.sz + j) (by omega)).2; rw [show p.base + es.length * d.sz + 0 + j = p.base + (es.length * d.sz + j) by omega]; exact this) hH.2.1
                        rw [add_mk, show p.base + 0 * d.sz + es.length * d.sz = p.base + es.length * d.sz by omega]
                        exact this
                    have hr := hfit (base := some ad) (len := es.length) (cap := cap) hf1 hroom (w' := w.setCells p.b (p.base + es.length * d.sz) vs) hst (by simp)
                    have hbo : BlkOk al s.hp (Sv Γ.G s.hp μ w) μ (w.setCells p.b (p.base + es.length * d.sz) vs) (.arr d.sz (es ++ fs) (v + 1)) (some p) := by
                      refine ⟨ovs ++ vs, by rw [flat_append]; exact hO.append hH, fun j u hj => ?_, fun e he => ?_, by rw [List.length_append]; omega, fun j hj => ?_⟩
                      · by_cases hjl : j < ovs.length
                        · rw [List.getElem?_append_left hjl] at hj
                          rw [World.cell?_setCells_out _ _ _ _ _ (fun _ _ => .inl (by simp; omega))]
                          exact hc j u hj
                        · rw [List.getElem?_append_right (by omega)] at hj
                          have hlt := (List.getElem?_eq_some_iff.1 hj).1
                          have := World.cell?_setCells_in p.b vs (p.base + es.length * d.sz) w (fun i hi => by have := (hcells (es.length * d.sz + i) (by omega)).1; rw [Nat.add_assoc]; exact this) (j - ovs.length) hlt
                          rw [show p.base + es.length * d.sz + (j - ovs.length) = p.base + j by omega] at this
                          rw [this]
                          rw [List.getElem?_eq_getElem hlt] at hj
                          exact hj
                      · rcases List.mem_append.1 he with he | he
                        · exact hszE e he
                        · exact hsz e he
                      · exact ⟨setCells_isSome (fun i hi => by have := (hcells (es.length * d.sz + i) (by omega)).1; rw [Nat.add_assoc]; exact this) (hcells j hj).1, by rw [World.frozen?_setCells]; exact (hcells j hj).2⟩
                    obtain ⟨m, e⟩ := R.mem.write (al' := al16 al n) (fun _ h => .inl h) hb0 rfl (b' := .arr d.sz (es ++ fs) (v + 1)) rfl hp (p.base + es.length * d.sz) vs hver
                      (fun ver sz es' hv h' => by rw [harr ver hv] at h'; cases h') (fun cs' h' => by cases h') hbo
                    refine wp_val (hrun hxv hr) (N _ [(i, .arr d.sz (es ++ fs) (v + 1))] _ _ μ hK m e (hval (.inl hx.1.1) rfl ?_))
                    rw [hp]
                    exact ⟨ad, cap, rfl, h7, hroom, h9⟩
                  · exact hgrown hxv hO hszE (run_firstCells_some w.drew d.sz es.length ad es.length cap ovs hOl hcad) (by omega)
              · exact h.elim
            · exact h.elim
          · exact h.elim
        · exact h.elim
      · exact h.elim
    · exact h.elim
  · exact h.elim
end
end Go.Proofs.Ytbmdncjnnlajnaa.M
