/- A machine of values: each operation does on the machine what is told of it, part 9: literals, new lists. No condition. -/
import Derived.Test.YtbmibaopkfenbaaDoorKExactDocTextCard1
/- A machine of values: each operation does on the machine what is told of it, part 9: literals, new lists. No condition. -/
namespace Go.Proofs.YtbmibaopkfenbaaDoor.M
open Go
set_option linter.unusedSimpArgs false
set_option linter.unusedVariables false
set_option linter.unusedSectionVars false

theorem foldl_put (off : Nat) : ∀ (vs : List Value) (k : Nat) (cells : Array Value), off + k + vs.length ≤ cells.size →
    ((vs.zipIdx k).foldl (fun cs (p : Value × Nat) => cs.setIfInBounds (off + p.2) p.1) cells).toList = splice cells.toList (off + k) vs
  | [], k, cells, h => by simp [splice]
  | v :: r, k, cells, h => by
    simp only [List.zipIdx_cons, List.foldl_cons]
    simp only [List.length_cons] at h
    rw [foldl_put off r (k + 1) _ (by simp; omega)]
    apply List.ext_getElem?
    intro j
    have hl : (cells.setIfInBounds (off + k) v).toList = cells.toList.set (off + k) v := by simp
    rw [hl, splice_get (by simp; omega), splice_get (by simp; omega)]
    by_cases h1 : j < off + k
    · rw [if_pos (by omega), if_pos h1, List.getElem?_set_ne (by omega)]
    · rw [if_neg h1]
      by_cases h2 : j = off + k
      · subst h2
        rw [if_pos (by omega), if_pos (by simp), List.getElem?_set_self (by simp; omega)]
        simp
      · rw [if_neg (by omega : ¬ j < off + (k + 1))]
        by_cases h3 : j < off + (k + 1) + r.length
        · rw [if_pos h3, if_pos (by simp; omega)]
          obtain ⟨m, hm⟩ : ∃ m, j - (off + k) = m + 1 := ⟨j - (off + k) - 1, by omega⟩
          rw [hm, List.getElem?_cons_succ]; congr 1; omega
        · rw [if_neg h3, if_neg (by simp; omega), List.getElem?_set_ne (by omega)]

theorem fill_step {place : Nat → Option (Nat × Nat)} {cells : Array Value} {i off size : Nat} {v : Value} {rest : List (Nat × Value)} (hp : place i = some (off, size)) (hs : v.cells.size = size) (hfit : off + size ≤ cells.size) :
    Instr.fill place cells ((i, v) :: rest) = Instr.fill place (splice cells.toList off v.cells.toList).toArray rest := by
  have h2 : ¬ (v.cells.size ≠ size ∨ off + v.cells.size > cells.size) := by omega
  simp only [Instr.fill, hp]
  rw [if_neg (by simpa using h2)]
  congr 1
  have := foldl_put off v.cells.toList 0 cells (by simp; omega)
  rw [Nat.add_zero] at this
  rw [← this]
  rw [← Array.foldl_toList, Array.toList_zipIdx]

section
variable {P : Program} {τ : Tab} {Γ : Ctx} {al : Nat → Prop} {s : St} {a : Act} {w : World} {μ : Nat → Option Pl} {n : Nat} {K : AV → List (Nat × Blk) → Prop} {next : Act → World → Prop}
variable {o : Oper} {Q : Exit → Act → World → Prop} {md : Nat → Md} {hp : List (Nat × Blk)} {S : Addr → Option Value}

theorem sealL_there : ∀ {cs : List C} {xs : List T}, sealL cs = some xs → cs.all C.there = true := fun {cs} => by
  induction cs with
  | nil => intro xs _; rfl
  | cons c r ih =>
    intro xs hs
    simp only [sealL] at hs
    split at hs
    · rename_i x xs' h1 h2
      simp only [List.all_cons, Bool.and_eq_true]
      refine ⟨?_, ih h2⟩
      cases c <;> simp [sealC] at h1 <;> rfl
    · cases hs
theorem sealA_ok {y : A} {v : Value} {x : T} (h : AOk al hp S μ y v) (hs : sealA y = some x) : ∃ vs : List Value, v.cells = vs.toArray ∧ HoldL S x.cells vs ∧ vs.length = y.cells.length := by
  have hth : y.cells.all C.there = true := by
    cases y with
    | c c => simp only [sealA] at hs; simp only [A.cells, List.all_cons, List.all_nil, Bool.and_true]; cases c <;> simp [sealC] at hs <;> rfl
    | g cs => simp only [sealA, Option.map_eq_some_iff] at hs; obtain ⟨xs, h1, _⟩ := hs; exact sealL_there h1
  obtain ⟨vs, hv, hC⟩ := A_cells h hth
  refine ⟨vs, hv, ?_, hC.1⟩
  cases y with
  | c c =>
    simp only [sealA] at hs
    have hl := hC.1
    simp only [A.cells, List.length_singleton] at hl
    obtain ⟨v0, rfl⟩ : ∃ v0, vs = [v0] := by
      cases vs with
      | nil => simp at hl
      | cons c r => cases r with
        | nil => exact ⟨c, rfl⟩
        | cons _ _ => simp at hl
    have h1 := sealC_ok (hC.2.2 0 c v0 rfl rfl) hs
    rw [one_of_hold h1 (hC.2.1 v0 (by simp))]
    refine ⟨rfl, hC.2.1, fun j t v a b => ?_⟩
    cases j with
    | zero => simp at a b; subst a; subst b; exact h1
    | succ j => simp at a
  | g cs =>
    simp only [sealA, Option.map_eq_some_iff] at hs
    obtain ⟨xs, h1, rfl⟩ := hs
    exact sealL_ok hC h1

theorem lit_ok (R : Rel Γ al s a w μ) {e : TypeId} {d : TD} (hd : find τ e = some d) : ∀ (ps : List (Nat × Operand)) (es : List T) (cells : List Value) (K : List T → Prop), litK τ s e ps es K → HoldL (Sv Γ.G s.hp μ w) (flat es) cells → (∀ x ∈ es, x.cells.length = d.sz) →
    ∃ es' cells', K es' ∧ Instr.fill (fun i => some (i * d.sz, d.sz)) cells.toArray (ps.map fun (p : Nat × Operand) => (p.1, a.eval p.2)) = some cells'.toArray ∧ HoldL (Sv Γ.G s.hp μ w) (flat es') cells' ∧ es'.length = es.length ∧ ∀ x ∈ es', x.cells.length = d.sz
  | [], es, cells, K, h, hH, hsz => ⟨es, cells, h, rfl, hH, rfl, hsz⟩
  | (i, x) :: r, es, cells, K, h, hH, hsz => by
    have htg : tg τ e = d := tg_of_find hd
    simp only [litK] at h
    have hx := eval_ok (τ := τ) R e x
    split at h
    · rename_i y he
      rw [he] at hx
      split at h
      · rename_i hcond
        simp only [Bool.and_eq_true, beq_iff_eq, decide_eq_true_eq, htg] at hcond
        unfold sealK at h
        split at h
        · rename_i z hz
          obtain ⟨vs, hv, hV, hvl⟩ := sealA_ok hx hz
          have hvl' : vs.length = d.sz := by rw [hvl, hcond.1]
          have hzl : z.cells.length = d.sz := by rw [← hV.1, hvl']
          have hcl : cells.length = es.length * d.sz := by rw [hH.1, flat_length hsz]
          have hmul : (i + 1) * d.sz ≤ es.length * d.sz := Nat.mul_le_mul_right _ hcond.2
          rw [Nat.succ_mul] at hmul
          have hflat : flat (es.set i z) = splice (flat es) (i * d.sz) z.cells := flat_set hsz (List.getElem?_eq_getElem hcond.2) hzl
          have hH' : HoldL (Sv Γ.G s.hp μ w) (flat (es.set i z)) (splice cells (i * d.sz) vs) := by
            rw [hflat]; exact splice_HoldL hH hV (by rw [hzl, flat_length hsz]; omega)
          have hsz' : ∀ x ∈ es.set i z, x.cells.length = d.sz := fun x hx => by
            rcases List.mem_or_eq_of_mem_set hx with h' | h'
            · exact hsz _ h'
            · rw [h']; exact hzl
          obtain ⟨es', cells', h1, h2, h3, h4, h5⟩ := lit_ok R hd r _ _ K h hH' hsz'
          refine ⟨es', cells', h1, ?_, h3, by simpa using h4, h5⟩
          rw [List.map_cons, fill_step (size := d.sz) rfl (by rw [hv]; simpa using hvl') (by simp; omega), hv]
          exact h2
        · exact h.elim
      · exact h.elim
    · exact h.elim

theorem flat_replicate {z : T} {sz : Nat} (hz : z.cells.length = sz) (hpos : 0 < sz) : ∀ (n j : Nat), j < n * sz → (flat (List.replicate n z))[j]? = z.cells[j % sz]?
  | 0, j, h => by simp at h
  | n + 1, j, h => by
    rw [List.replicate_succ, flat_cons]
    by_cases hj : j < sz
    · rw [List.getElem?_append_left (by omega), Nat.mod_eq_of_lt hj]
    · rw [List.getElem?_append_right (by omega), hz, flat_replicate hz hpos n _ (by rw [Nat.succ_mul] at h; omega)]
      congr 1
      conv => rhs; rw [← Nat.sub_add_cancel (Nat.le_of_not_lt hj), Nat.add_mod_right]

theorem made_ok {z : T} {zs : Array Value} {sz : Nat} (hpos : 0 < sz) (hH : HoldL S z.cells zs.toList) (hz : z.cells.length = sz) (n m : Nat) (hnm : n ≤ m) : HoldL S (flat (List.replicate n z)) ((madeCells zs (m * sz)).toList.take (n * sz)) := by
  have hzs : zs.size = sz := by have := hH.1; simp at this; omega
  have hfl : (flat (List.replicate n z)).length = n * sz := by rw [flat_length (sz := sz) (fun e he => by rw [(List.mem_replicate.1 he).2]; exact hz)]; simp
  have hle : n * sz ≤ m * sz := Nat.mul_le_mul_right _ hnm
  have hget : ∀ j, j < m * sz → (madeCells zs (m * sz)).toList[j]? = zs.toList[j % sz]? := fun j hj => by
    have : j % sz < zs.size := by rw [hzs]; exact Nat.mod_lt _ hpos
    simp [madeCells, hj, hzs]
    rw [Array.getElem?_eq_getElem this, getElem!_pos zs _ this]
  refine ⟨by rw [hfl, List.length_take, Array.length_toList, size_madeCells]; omega, fun v hv => ?_, fun j t v h1 h2 => ?_⟩
  · obtain ⟨j, hj⟩ := List.mem_iff_getElem?.1 hv
    have hlt : j < n * sz := by have := (List.getElem?_eq_some_iff.1 hj).1; simp at this; omega
    rw [List.getElem?_take_of_lt hlt, hget j (by omega)] at hj
    exact hH.2.1 v (List.mem_of_getElem? hj)
  · have hlt : j < n * sz := by have := (List.getElem?_eq_some_iff.1 h1).1; omega
    rw [flat_replicate hz hpos n j hlt] at h1
    rw [List.getElem?_take_of_lt hlt, hget j (by omega)] at h2
    exact hH.2.2 _ _ _ h1 h2

theorem op_buildSlice (hτ : TOk P τ) (R : Rel Γ al s a w μ) (hn : ¬ al n) {t : TypeId} {len : Nat} {ps : Array (Nat × Operand)} (ho : o.op = .buildSlice t len ps) (h : op P τ md o s n K) (N : Nxt Γ al s a w μ n o.dst K next) : o.wp P a w next Q := by
  simp only [op, ho] at h
  split at h
  · rename_i x1 x2 x3 e hd0
    have hk : (tg τ t).k = .slice e := by rw [tg_of_find hd0]
    obtain ⟨hu, _⟩ := slice_of hτ hk
    split at h
    · rename_i d hd
      unfold sealK at h
      split at h
      · rename_i z hz
        split at h
        · rename_i hcond
          simp only [Bool.and_eq_true, Bool.or_eq_true, beq_iff_eq, decide_eq_true_eq] at hcond
          obtain ⟨⟨hle, hpos⟩, hag⟩ := hcond
          obtain ⟨inf, zv, i1, i2, i3, i4, i5, i6, i7, i8⟩ := (hτ e d hd).info
          obtain ⟨hZ, hzl⟩ := zero_elem (S := Sv Γ.G s.hp μ w) i6 hz hpos (fun h => by rcases hag with h' | h'; (· rw [h] at h'; cases h'); (· exact h')) (by simpa using i5) i7 i8
          have hmade := made_ok hpos hZ hzl len len (Nat.le_refl _)
          rw [List.take_of_length_le (by simp [size_madeCells])] at hmade
          obtain ⟨es', cells', hK, hfill, hH', hlen, hsz'⟩ := lit_ok R hd ps.toList (List.replicate len z) _ _ h hmade (fun x hx => by rw [(List.mem_replicate.1 hx).2]; exact hzl)
          have hlen' : es'.length = len := by simpa using hlen
          have hcl : cells'.length = len * d.sz := by rw [hH'.1, flat_length hsz', hlen']
          have hnot : ¬ 16777216 < len * d.sz := by omega
          refine wp_val (val := .slice (some ⟨w.heap.size, 0, none⟩) len len) (w' := w.alloc (.cells cells'.toArray e)) ?_ ?_
          · have hfill' : Instr.fill (fun i => some (i * d.sz, d.sz)) (madeCells zv.cells (len * d.sz)) (ps.toList.map fun (x : Nat × Operand) => (x.1, a.eval x.2)) = some cells'.toArray := by
              rw [← hfill]
            have hs := run_sizeOf' hτ w hd
            have hz : (zeroValue e).run P w = .ok zv w := by simp [zeroValue, typeInfo, i1, i4]
            simp only [execOp, ho, Instr.buildSlice]
            simp [run_underlying hu, hs, hnot]
            by_cases h0 : len * d.sz = 0
            · rw [if_pos h0]
              have e0 : (Array.map (fun x => (default : Value)) (Array.range (len * d.sz))) = madeCells zv.cells (len * d.sz) := by rw [h0]; simp [madeCells, Array.range_zero']
              rw [e0, hfill']
              simp [newRow]
            · rw [if_neg h0, hz]
              simp only [Result.andThen_ok]
              rw [show (Array.map (fun x => zv.cells[x % zv.cells.size]!) (Array.range (len * d.sz))) = madeCells zv.cells (len * d.sz) from rfl, hfill']
              simp [newRow]
          · refine N.new R hn (Fr.alloc _ _) (p := some ⟨w.heap.size, 0, cells'.length⟩) hK (fun q hq => by obtain rfl := Option.some.inj hq; simp) ?_ ⟨⟨.inr ⟨Nat.le_refl _, by omega⟩, Nat.zero_le _⟩, rfl, fun sz es hA => ?_⟩
            · have hnew := new_row w cells'.toArray e
              exact ⟨cells', hH', fun j v hj => by rw [Nat.zero_add]; exact (hnew j v (by simpa using hj)).1, hsz', Nat.le_refl _, fun j hj => by
                have := hnew j cells'[j] (by simp [List.getElem?_eq_getElem hj])
                rw [Nat.zero_add]; exact ⟨by rw [this.1]; rfl, this.2⟩⟩
            · simp only [arrOf, find_put, if_true, beq_self_eq_true, Option.some.injEq, Prod.mk.injEq] at hA
              obtain ⟨rfl, rfl⟩ := hA
              refine ⟨by omega, ?_⟩
              simp only [setμ, if_true]
              exact ⟨_, _, rfl, .inl (by simp), Nat.le_refl _, by rw [hcl]; simp⟩
        · exact h.elim
      · exact h.elim
    · exact h.elim
  · exact h.elim

theorem op_makeSlice (hτ : TOk P τ) (R : Rel Γ al s a w μ) (hn : ¬ al n) {t : TypeId} {l c : Operand} (ho : o.op = .makeSlice t l c) (h : op P τ md o s n K) (N : Nxt Γ al s a w μ n o.dst K next) : o.wp P a w next Q := by
  simp only [op, ho] at h
  split at h
  · rename_i x1 x2 x3 e k1 L k2 Cc hd0 hL hC
    have hk : (tg τ t).k = .slice e := by rw [tg_of_find hd0]
    obtain ⟨hu, _⟩ := slice_of hτ hk
    have eL := eval_int R hL
    have eC := eval_int R hC
    split at h
    · rename_i d hd
      unfold sealK at h
      split at h
      · rename_i z hz
        split at h
        · rename_i hcond
          simp only [Bool.and_eq_true, Bool.or_eq_true, beq_iff_eq, decide_eq_true_eq] at hcond
          obtain ⟨hpos, hag⟩ := hcond
          obtain ⟨h1, h2, h3, h4, hK⟩ := h
          obtain ⟨inf, zv, i1, i2, i3, i4, i5, i6, i7, i8⟩ := (hτ e d hd).info
          obtain ⟨hZ, hzl⟩ := zero_elem (S := Sv Γ.G s.hp μ w) i6 hz hpos (fun h => by rcases hag with h' | h'; (· rw [h] at h'; cases h'); (· exact h')) (by simpa using i5) i7 i8
          have hmade := made_ok hpos hZ hzl L.toNat Cc.toNat (by omega)
          have hr := run_make (P := P) w t e inf zv hu i1 i4 k1 k2 L Cc h1 h2 (by rw [i3]; omega) (by omega)
          rw [i2] at hr
          refine wp_val (val := .slice (some ⟨w.heap.size, 0, none⟩) L.toNat Cc.toNat) (w' := w.alloc (.cells (madeCells zv.cells (Cc.toNat * d.sz)) e)) (by simp [execOp, ho, eL, eC, hr]) ?_
          refine N.new R hn (Fr.alloc _ _) (p := some ⟨w.heap.size, 0, Cc.toNat * d.sz⟩) hK (fun q hq => by obtain rfl := Option.some.inj hq; simp) ?_ ⟨⟨.inr ⟨Nat.le_refl _, by omega⟩, Nat.zero_le _⟩, rfl, fun sz es hA => ?_⟩
          · have hnew := new_row w (madeCells zv.cells (Cc.toNat * d.sz)) e
            refine ⟨_, hmade, fun j v hj => ?_, fun x hx => by rw [(List.mem_replicate.1 hx).2]; exact hzl, ?_, fun j hj => ?_⟩
            · rw [Nat.zero_add]
              have hlt : j < L.toNat * d.sz := by have := (List.getElem?_eq_some_iff.1 hj).1; simp at this; omega
              rw [List.getElem?_take_of_lt hlt] at hj
              exact (hnew j v hj).1
            · rw [List.length_take, Array.length_toList, size_madeCells]; exact Nat.min_le_right _ _
            · have hlt : j < (madeCells zv.cells (Cc.toNat * d.sz)).toList.length := by rw [Array.length_toList, size_madeCells]; exact hj
              have := hnew j _ (List.getElem?_eq_getElem hlt)
              rw [Nat.zero_add]; exact ⟨by rw [this.1]; rfl, this.2⟩
          · simp only [arrOf, find_put, if_true, beq_self_eq_true, Option.some.injEq, Prod.mk.injEq] at hA
            obtain ⟨rfl, rfl⟩ := hA
            refine ⟨by simp, ?_⟩
            simp only [setμ, if_true]
            exact ⟨_, _, rfl, .inl (by simp), by omega, by show (0 + Cc.toNat) * d.sz ≤ Cc.toNat * d.sz; rw [Nat.zero_add]; exact Nat.le_refl _⟩
        · exact h.elim
      · exact h.elim
    · exact h.elim
  · exact h.elim

theorem fill_ok (hτ : TOk P τ) (R : Rel Γ al s a w μ) {d : TD} {pl : Nat → Option (Nat × Nat)} (hpl : ∀ i off ft, place τ d i = some (off, ft) → pl i = some (off, (tg τ ft).sz)) :
    ∀ (ps : List (Nat × Operand)) (cs : List C) (cells : List Value) (K : List C → Prop), fillK τ s d ps cs K → CsOk al s.hp (Sv Γ.G s.hp μ w) μ cs cells →
    ∃ cs' cells', K cs' ∧ Instr.fill pl cells.toArray (ps.map fun (p : Nat × Operand) => (p.1, a.eval p.2)) = some cells'.toArray ∧ CsOk al s.hp (Sv Γ.G s.hp μ w) μ cs' cells'
  | [], cs, cells, K, h, hH => ⟨cs, cells, h, rfl, hH⟩
  | (i, x) :: r, cs, cells, K, h, hH => by
    simp only [fillK] at h
    split at h
    · rename_i off ft hp
      have hx := eval_ok (τ := τ) R ft x
      split at h
      · rename_i y he
        rw [he] at hx
        split at h
        · rename_i hcond
          simp only [Bool.and_eq_true, beq_iff_eq, decide_eq_true_eq] at hcond
          obtain ⟨vs, hv, hC⟩ := A_cells hx hcond.2
          have hvl : vs.length = (tg τ ft).sz := by rw [hC.1, hcond.1.1]
          have hcl := hH.1
          have hc2 := hcond.1.2
          obtain ⟨cs', cells', h1, h2, h3⟩ := fill_ok hτ R hpl r _ (splice cells off vs) K h (splice_CsOk hH hC (by rw [hcond.1.1]; omega))
          refine ⟨cs', cells', h1, ?_, h3⟩
          rw [List.map_cons, fill_step (size := (tg τ ft).sz) (hpl _ _ _ hp) (by rw [hv]; simpa using hvl) (by simp; omega), hv]
          exact h2
        · exact h.elim
      · exact h.elim
    · exact h.elim

theorem run_places' (hτ : TOk P τ) (w : World) : ∀ (fs : List Field), (∀ f ∈ fs, (find τ f.type).isSome = true) →
    (fs.mapM (m := Sem) fun f => Prod.mk f.offset <$> sizeOf f.type).run P w = .ok (fs.map fun f => (f.offset, (tg τ f.type).sz)) w
  | [], _ => by simp
  | f :: fs, h => by
    obtain ⟨d, hd⟩ := Option.isSome_iff_exists.1 (h f (by simp))
    have h1 := run_sizeOf' hτ w hd
    have h2 := run_places' hτ w fs (fun x hx => h x (by simp [hx]))
    have h3 : tg τ f.type = d := tg_of_find hd
    simp [List.mapM_cons, h1, h2, h3]

theorem op_build (hτ : TOk P τ) (R : Rel Γ al s a w μ) {t : TypeId} {ps : Array (Nat × Operand)} (ho : o.op = .build t ps) (h : op P τ md o s n K) (N : Nxt Γ al s a w μ n o.dst K next) : o.wp P a w next Q := by
  simp only [op, ho] at h
  split at h
  · rename_i d hd
    split at h
    · rename_i hag
      obtain ⟨inf, zv, i1, i2, i3, i4, i5, i6, i7, i8⟩ := (hτ t d hd).info
      have hz : (zeroValue t).run P w = .ok zv w := by simp [zeroValue, typeInfo, i1, i4]
      have hC0 : CsOk al s.hp (Sv Γ.G s.hp μ w) μ d.z zv.cells.toList := ⟨by simp [i5, i6], i7, fun j c v a b => zOk_COk (i8 j c v a b)⟩
      have fin : ∀ {pl : Nat → Option (Nat × Nat)}, (∀ i off ft, place τ d i = some (off, ft) → pl i = some (off, (tg τ ft).sz)) → (∀ cells' : Array Value, Instr.fill pl zv.cells (ps.toList.map fun (p : Nat × Operand) => (p.1, a.eval p.2)) = some cells' → (execOp a.eval o).run P w = .ok (.value (.agg cells')) w) → o.wp P a w next Q := fun hpl hrun => by
        obtain ⟨cs', cells', hK, hf, hC⟩ := fill_ok hτ R hpl ps.toList d.z zv.cells.toList _ h hC0
        exact wp_val (hrun cells'.toArray (by rw [← hf])) (N.quiet R hK ⟨cells', rfl, hC⟩)
      unfold TD.ag at hag
      split at hag
      · rename_i m e hk
        have hk' : (tg τ t).k = .array m e := by rw [tg_of_find hd]; exact hk
        obtain ⟨hu, d', hd'⟩ := array_of hτ hk'
        have hs := run_sizeOf' hτ w hd'
        refine fin (pl := fun i => some (i * d'.sz, d'.sz)) (fun i off ft hp => ?_) (fun cells' hf => ?_)
        · simp only [place, hk, Option.some.injEq, Prod.mk.injEq] at hp
          obtain ⟨rfl, rfl⟩ := hp
          rw [tg_of_find hd']
        · simp [execOp, ho, Instr.build, run_underlying hu, hz, hs, hf]
      · rename_i fs hk
        have hk' : (tg τ t).k = .struct fs := by rw [tg_of_find hd]; exact hk
        obtain ⟨F, hu, hF, hfs⟩ := struct_of hτ hk'
        have hall : ∀ f ∈ F.toList, (find τ f.type).isSome = true := fun f hf => hfs (f.offset, f.type) (by rw [← hF]; exact List.mem_map.2 ⟨f, hf, rfl⟩)
        have hpl := run_places' hτ w F.toList hall
        refine fin (pl := fun i => (F.toList.map fun f => (f.offset, (tg τ f.type).sz)).toArray[i]?) (fun i off ft hp => ?_) (fun cells' hf => ?_)
        · simp only [place, hk] at hp
          obtain ⟨fl, h1, h2, h3⟩ := field_of hF hp
          subst h2; subst h3
          have : F.toList[i]? = some fl := by simpa using h1
          simp [this]
        · have hf' : Instr.fill (fun x => (F.toList.map fun f => (f.offset, (tg τ f.type).sz))[x]?) zv.cells (ps.toList.map fun (p : Nat × Operand) => (p.1, a.eval p.2)) = some cells' := by rw [← hf]; simp
          simp only [List.getElem?_map, Array.getElem?_toList] at hf'
          simp [execOp, ho, Instr.build, run_underlying hu, hz, Array.mapM_eq_mapM_toList, hpl, hf']
      · cases hag
    · exact h.elim
  · exact h.elim
end
end Go.Proofs.YtbmibaopkfenbaaDoor.M

/- A machine of values: each operation does on the machine what is told of it, part 9b: zeros behind nothing, cap, min, max, copy. No condition. -/
namespace Go.Proofs.YtbmibaopkfenbaaDoor.M
open Go
set_option linter.unusedSimpArgs false
set_option linter.unusedVariables false
set_option linter.unusedSectionVars false

section
variable {P : Program} {τ : Tab} {Γ : Ctx} {al : Nat → Prop} {s : St} {a : Act} {w : World} {μ : Nat → Option Pl} {n : Nat} {K : AV → List (Nat × Blk) → Prop} {next : Act → World → Prop}
variable {o : Oper} {Q : Exit → Act → World → Prop} {md : Nat → Md}

theorem op_cap (hτ : TOk P τ) (R : Rel Γ al s a w μ) {xs : Array Operand} {ts : Array TypeId} (ho : o.op = .call ⟨.builtin .cap, xs, ts⟩) (h : op P τ md o s n K) (N : Nxt Γ al s a w μ n o.dst K next) : o.wp P a w next Q := by
  simp only [op, ho] at h
  split at h
  · rename_i x t hxs hts
    obtain rfl := toList_one hxs
    obtain rfl := toList_one hts
    have hx := eval_ok (τ := τ) R t x
    split at h
    · rename_i e sz hk he
      rw [he] at hx
      have hv : a.eval x = .slice none 0 0 := hx
      obtain ⟨hu, _⟩ := slice_of hτ hk
      exact wp_val (val := .int .i64 0) (by simp [execOp, ho, resolve, invoke, builtin, Builtin.cap_, run_underlying hu, hv, goInt]) (N.quiet R h ⟨.int _ _, rfl⟩)
    · exact h.elim
  · exact h.elim

theorem op_min (R : Rel Γ al s a w μ) {xs : Array Operand} {ts : Array TypeId} (ho : o.op = .call ⟨.builtin .min, xs, ts⟩) (h : op P τ md o s n K) (N : Nxt Γ al s a w μ n o.dst K next) : o.wp P a w next Q := by
  simp only [op, ho] at h
  split at h
  · rename_i x y t u hxs hts
    obtain rfl := toList_two hxs
    obtain rfl := toList_two hts
    split at h
    · rename_i k i k' j he1 he2
      have h1 := eval_int R he1
      have h2 := eval_int R he2
      have e : (if j < i then j else i) = min i j := by rw [Int.min_def]; split <;> split <;> omega
      exact wp_val (val := .int k (min i j)) (by simp [execOp, ho, resolve, invoke, builtin, Builtin.min_, Builtin.min2, h1, h2, e]) (N.quiet R h ⟨.int _ _, rfl⟩)
    · exact h.elim
  · exact h.elim

theorem op_max (R : Rel Γ al s a w μ) {xs : Array Operand} {ts : Array TypeId} (ho : o.op = .call ⟨.builtin .max, xs, ts⟩) (h : op P τ md o s n K) (N : Nxt Γ al s a w μ n o.dst K next) : o.wp P a w next Q := by
  simp only [op, ho] at h
  split at h
  · rename_i x y t u hxs hts
    obtain rfl := toList_two hxs
    obtain rfl := toList_two hts
    split at h
    · rename_i k i k' j he1 he2
      have h1 := eval_int R he1
      have h2 := eval_int R he2
      have e : (if j > i then j else i) = max i j := by rw [Int.max_def]; split <;> split <;> omega
      exact wp_val (val := .int k (max i j)) (by simp [execOp, ho, resolve, invoke, builtin, Builtin.max_, Builtin.max2, h1, h2, e]) (N.quiet R h ⟨.int _ _, rfl⟩)
    · exact h.elim
  · exact h.elim

theorem run_append_zeros (w : World) {t tn ty e : TypeId} {i : TypeInfo} {z : Value} {k kn : IntKind} (ht : P.underlying t = some (.slice e)) (htn : P.underlying tn = some (.int kn)) (hi : P.info? e = some i) (hz : i.zero = some z)
    (n : Nat) (h0 : 0 < n) (hs : 0 < i.size) (h63 : (n : Int) ≤ 9223372036854775807) (h48 : n * i.bytes ≤ 281474976710656) (hfit : Builtin.nextslicecap n 0 * i.bytes ≤ 281474976710656) :
    (Builtin.append_ #[t, tn] ty #[.slice none 0 0, .int k n]).run P w =
      .ok (.slice (some ⟨w.heap.size, 0, none⟩) n (grownCap w n 0 e)) (w.drew.alloc (.cells (Builtin.zeroCells z.cells n ++ Builtin.zeroCells z.cells (grownCap w n 0 e - n)) e)) := by
  have hn : n ≠ 0 := by omega
  have hw : IntKind.i64.wrap (n : Int) = n := by rw [IntKind.wrap_i64]; omega
  have h63' : ¬ (9223372036854775807 < (n : Int)) := by omega
  have h48' : ¬ (281474976710656 < Builtin.nextslicecap n 0 * i.bytes) := by omega
  have h48i : ¬ (281474976710656 < (n : Int) * (i.bytes : Int)) := by
    rw [← Int.natCast_mul]
    omega
  have hneg : ¬ ((n : Int) < 0) := by omega
  have hns : ¬ (n * i.size = 0) := Nat.mul_ne_zero hn (by omega)
  simp [Builtin.append_, run_underlying ht, run_underlying htn, sizeOf, typeInfo, zeroValue, hi, hz, asInt, asIntOf, hw, hn, hneg, hns, h63', h48', h48i, Question.forced, run_firstCells_none, newRow, grownCap]

theorem put_self {hp : List (Nat × Blk)} {i : Nat} {b : Blk} (h : find hp i = some b) : put hp i b = hp := by
  induction hp with
  | nil => simp [find] at h
  | cons x r ih =>
    obtain ⟨k, y⟩ := x
    simp only [find] at h
    simp only [put]
    split at h
    · rename_i hk
      obtain rfl := Option.some.inj h
      rw [if_pos hk, hk]
    · rename_i hk
      rw [if_neg hk, ih h]

theorem zeros_ok (hτ : TOk P τ) (R : Rel Γ al s a w μ) (hn : ¬ al n) {x y : Operand} {t u e : TypeId} {sz : Nat} {k : IntKind} {m : Int} (ho : o.op = .call ⟨.builtin .append, #[x, y], #[t, u]⟩) (hk : (tg τ t).k = .slice e) (he1 : s.eval τ t x = .a (.c (.nil sz))) (he2 : s.eval τ u y = .a (.c (.t (.int k m))))
    (h : zerosK τ n e u m K) (N : Nxt Γ al s a w μ n o.dst K next) : o.wp P a w next Q := by
  have hx := eval_ok (τ := τ) R t x
  rw [he1] at hx
  have hv : a.eval x = .slice none 0 0 := hx
  have hy := eval_int R he2
  obtain ⟨hu, _⟩ := slice_of hτ hk
  unfold zerosK at h
  split at h
  · rename_i d kn hd hku
    have hun := int_of hτ hku
    unfold sealK at h
    split at h
    · rename_i z hz
      split at h
      · rename_i hcond
        simp only [Bool.and_eq_true, Bool.or_eq_true, beq_iff_eq, decide_eq_true_eq] at hcond
        obtain ⟨hpos, hag⟩ := hcond
        obtain ⟨h1, h2, h3, hK⟩ := h
        obtain ⟨M, rfl⟩ : ∃ M : Nat, m = M := ⟨m.toNat, by omega⟩
        obtain ⟨inf, zv, i1, i2, i3, i4, i5, i6, i7, i8⟩ := (hτ e d hd).info
        obtain ⟨hZ, hzl⟩ := zero_elem (S := Sv Γ.G s.hp μ w) i6 hz hpos (fun h => by rcases hag with h' | h'; (· rw [h] at h'; cases h'); (· exact h')) (by simpa using i5) i7 i8
        have hmade := made_ok hpos hZ hzl M M (Nat.le_refl _)
        rw [List.take_of_length_le (by simp [size_madeCells])] at hmade
        have hzs : zv.cells.size = d.sz := by simpa using i5
        have hb : M * inf.bytes ≤ 140737488355328 := by
          have h9 : ((M * d.bytes : Nat) : Int) = (d.bytes : Int) * M := by rw [Int.natCast_mul, Int.mul_comm]
          rw [i3]; omega
        have hr := run_append_zeros (P := P) (ty := o.type) (k := k) w hu hun i1 i4 M (by omega) (by omega) (by omega) (by omega) (growslice_fits (by omega) hb)
        have hge := grownCap_ge w M 0 e
        refine wp_val (val := _) (w' := _) (by simp [execOp, ho, resolve, invoke, builtin, hv, hy, hr]; exact ⟨rfl, rfl⟩) ?_
        have hze : Builtin.zeroCells zv.cells M = madeCells zv.cells (M * d.sz) := by rw [← hzs]; rfl
        refine N.new R hn ((Fr.drew w).trans (Fr.alloc _ _) (by simp)) (p := some ⟨w.heap.size, 0, ((madeCells zv.cells (M * d.sz)).toList ++ (Builtin.zeroCells zv.cells (grownCap w M 0 e - M)).toList).length⟩) hK (fun q hq => by obtain rfl := Option.some.inj hq; simp)
          (grown_ok w (rest := (Builtin.zeroCells zv.cells (grownCap w M 0 e - M)).toList) hmade (fun x hx => by rw [(List.mem_replicate.1 hx).2]; exact hzl) (by simp [hze]) rfl) ⟨⟨.inr ⟨Nat.le_refl _, by omega⟩, Nat.zero_le _⟩, rfl, fun sz es hA => ?_⟩
        simp only [arrOf, find_put, if_true, beq_self_eq_true, Option.some.injEq, Prod.mk.injEq] at hA
        obtain ⟨rfl, rfl⟩ := hA
        refine ⟨by simp, ?_⟩
        simp only [setμ, if_true]
        refine ⟨_, _, rfl, .inl (by simp), hge, ?_⟩
        simp only [List.length_append, Array.length_toList, size_zeroCells, size_madeCells, hzs]
        rw [← Nat.add_mul]
        exact Nat.mul_le_mul_right _ (by omega)
      · exact h.elim
    · exact h.elim
  · exact h.elim

theorem splice_take {es : List T} {off : Nat} {fs : List T} {sz : Nat} (h : ∀ e ∈ es, e.cells.length = sz) (hf : ∀ e ∈ fs, e.cells.length = sz) : flat (splice es off fs) = splice (flat es) (off * sz) (flat fs) := by
  simp only [splice, flat_append]
  rw [flat_take h, show off * sz + (flat fs).length = (off + fs.length) * sz by rw [flat_length hf, Nat.add_mul], flat_drop h]

theorem op_copy (hτ : TOk P τ) (R : Rel Γ al s a w μ) {xs : Array Operand} {ts : Array TypeId} (ho : o.op = .call ⟨.builtin .copy, xs, ts⟩) (h : op P τ md o s n K) (N : Nxt Γ al s a w μ n o.dst K next) : o.wp P a w next Q := by
  simp only [op, ho] at h
  split at h
  · rename_i x y t u hxs hts
    obtain rfl := toList_two hxs
    obtain rfl := toList_two hts
    have hx := eval_ok (τ := τ) R t x
    have hy := eval_ok (τ := τ) R u y
    split at h
    · rename_i e i v off len b hk he1 he2
      rw [he1] at hx
      rw [he2] at hy
      obtain ⟨hu, d, hd⟩ := slice_of hτ hk
      have htg : tg τ e = d := tg_of_find hd
      split at h
      · rename_i sz es v' sz' fs hb hl
        split at h
        · rename_i hcond
          simp only [Bool.and_eq_true, beq_iff_eq] at hcond
          obtain ⟨⟨rfl, rfl⟩, hsz0⟩ := hcond
          rw [htg] at hsz0
          have hA : arrOf s.hp i v = some (sz, es) := by simp [arrOf, hb]
          obtain ⟨h4, h5⟩ := hx.2.2 _ _ hA
          obtain ⟨q, c, vs, hyv, hH, hsz, hvl, hf1, hf2⟩ := firstCells_src (P := P) w (list_src R.mem hy hl)
          obtain ⟨inf, zv, i1, i2, i3, i4, i5, i6, i7, i8⟩ := (hτ e d hd).info
          have htl : (fs.take len).length = Nat.min fs.length len := by rw [List.length_take]; exact Nat.min_comm _ _
          have hf : (Builtin.firstCells sz (Nat.min fs.length len) (.slice q fs.length c)).run P w = .ok (vs.take ((fs.take len).length * sz)).toArray w := by
            have hsrc := list_src R.mem hy hl
            rcases hsrc with ⟨⟨q', hv'⟩, rfl⟩ | ⟨ad, cap, vs', hv', g1, g2, g3, g4⟩
            · simp only [List.length_nil, Nat.zero_mul, List.length_eq_zero_iff] at hvl
              subst hvl
              simp only [List.length_nil, List.take_nil, Nat.zero_min, Nat.zero_mul]
              exact run_firstCells_zero w sz q 0 c
            · rw [hv'] at hyv
              obtain ⟨rfl, _, rfl⟩ := Value.slice.inj hyv
              have hvl' : vs'.length = fs.length * sz := by rw [g1.1, flat_length g3]
              have hvv : vs = vs' := by
                have := run_firstCells_some (P := P) w sz fs.length ad fs.length cap vs' hvl' g2
                rw [hf1] at this
                have := (Result.ok.inj this).1
                simpa using this
              subst hvv
              rw [htl]
              have hle : Nat.min fs.length len * sz ≤ fs.length * sz := Nat.mul_le_mul_right _ (Nat.min_le_left _ _)
              exact run_firstCells_some w sz (Nat.min fs.length len) ad fs.length cap _ (by rw [List.length_take]; omega) (fun j v hj => by
                have hlt : j < Nat.min fs.length len * sz := by have := (List.getElem?_eq_some_iff.1 hj).1; rw [List.length_take] at this; omega
                rw [List.getElem?_take_of_lt hlt] at hj
                exact g2 j v hj)
          have hsz2 : inf.size = sz := by rw [i2, hsz0]
          have hmem : ∀ e ∈ fs.take len, e.cells.length = sz := fun e he => hsz e (List.mem_of_mem_take he)
          have hflt : flat (fs.take len) = (flat fs).take ((fs.take len).length * sz) := by
            rw [flat_take hsz]
            congr 1
            rw [List.length_take]
            by_cases hlt : len ≤ fs.length
            · rw [Nat.min_eq_left hlt]
            · rw [Nat.min_eq_right (by omega), List.take_of_length_le (by omega), List.take_of_length_le (Nat.le_refl _)]
          have hH' : HoldL (Sv Γ.G s.hp μ w) (flat (fs.take len)) (vs.take ((fs.take len).length * sz)) := by
            refine ⟨by rw [hflt]; simp [hH.1], fun v hv => hH.2.1 v (List.mem_of_mem_take hv), fun j t v h3 h4 => ?_⟩
            have hlt : j < (fs.take len).length * sz := by have := (List.getElem?_eq_some_iff.1 h4).1; simp only [List.length_take] at this ⊢; omega
            rw [hflt] at h3
            rw [List.getElem?_take_of_lt hlt] at h3 h4
            exact hH.2.2 _ _ _ h3 h4
          have hrun : ∀ {base : Option Addr} {cap : Nat} {w' : World}, a.eval x = .slice base len cap → (∀ ad, base = some ad → (storeCells ad (vs.take ((fs.take len).length * sz))).run P w = .ok () w') → (base = none → w' = w) →
              (execOp a.eval o).run P w = .ok (.value (.int .i64 (fs.take len).length)) w' := fun {base cap w'} h1 h2 h3 => by
            cases base with
            | none => obtain rfl := h3 rfl; simp [execOp, ho, resolve, invoke, builtin, Builtin.copy_, run_underlying hu, sizeOf, typeInfo, i1, Builtin.lenOf, h1, hyv, hsz2, hf, goInt, htl]
            | some ad =>
              have h2' := h2 ad rfl
              rw [htl] at h2' hf
              simp [execOp, ho, resolve, invoke, builtin, Builtin.copy_, run_underlying hu, sizeOf, typeInfo, i1, Builtin.lenOf, h1, hyv, hsz2, hf, goInt, htl, h2']
          have hver : verOf (put s.hp i (.arr sz (splice es off (fs.take len)) v)) i = verOf s.hp i := by simp [verOf, hb, find_put]
          cases hp : μ i with
          | none =>
            rw [hp] at h5
            obtain ⟨rfl, rfl, q', hxv⟩ := h5
            have hB := R.mem.blk _ _ hb
            rw [hp] at hB
            have hes : es = [] := hB
            subst hes
            have hr := hrun hxv (w' := w) (by intro _ _; simp [storeCells]) (fun _ => rfl)
            have hput : put s.hp i (.arr sz (splice [] 0 (fs.take 0)) v) = s.hp := put_self (by simpa [splice] using hb)
            obtain ⟨m, e⟩ := R.mem.grow (Fr.refl [] w) (al' := al16 al n) (fun _ h => .inl h)
            exact wp_val hr (N _ _ _ _ μ h (by show Mem _ _ (put _ _ _) _ _; rw [hput]; exact m) (by show Ext _ _ _ (put _ _ _) _ (Sv _ (put _ _ _) _ _) _ _; rw [hput]; exact e) ⟨.int _ _, rfl⟩)
          | some p =>
            rw [hp] at h5
            obtain ⟨ad, cap, hxv, h7, h8, h9⟩ := h5
            have hB := R.mem.blk _ _ hb
            rw [hp] at hB
            obtain ⟨ovs, hO, hc, hszE, hroomE, hcells⟩ := hB
            have hOl : ovs.length = es.length * sz := by rw [hO.1, flat_length hszE]
            have hk2 : (fs.take len).length ≤ len := by rw [List.length_take]; exact Nat.min_le_left _ _
            have hle : off * sz + (fs.take len).length * sz ≤ es.length * sz := by rw [← Nat.add_mul]; exact Nat.mul_le_mul_right _ (by omega)
            have hvt : (vs.take ((fs.take len).length * sz)).length = (fs.take len).length * sz := by rw [hH'.1, flat_length hmem]
            have hst : ∀ ad', some ad = some ad' → (storeCells ad' (vs.take ((fs.take len).length * sz))).run P w = .ok () (w.setCells p.b (p.base + off * sz) (vs.take ((fs.take len).length * sz))) := fun ad' e => by
              obtain rfl := Option.some.inj e
              by_cases hc0 : cap = 0
              · have h0 : (fs.take len).length = 0 := by omega
                rw [h0, Nat.zero_mul, List.take_zero]
                rfl
              · have h7' : ad = ⟨p.b, p.base + off * sz, none⟩ := by
                  rcases h7 with h7 | h7
                  · exact h7
                  · exact absurd h7 hc0
                subst h7'
                exact run_storeCells_cells (P := P) p.b (p.base + off * sz) _ 0 w
                  (fun j hj => by have := (hcells (off * sz + j) (by omega)).1; rw [show p.base + off * sz + 0 + j = p.base + (off * sz + j) by omega]; exact this)
                  (fun j hj => by have := (hcells (off * sz + j) (by omega)).2; rw [show p.base + off * sz + 0 + j = p.base + (off * sz + j) by omega]; exact this) hH'.2.1
            have hr := hrun hxv hst (by simp)
            have hbo : BlkOk al s.hp (Sv Γ.G s.hp μ w) μ (w.setCells p.b (p.base + off * sz) (vs.take ((fs.take len).length * sz))) (.arr sz (splice es off (fs.take len)) v) (some p) := by
              refine ⟨splice ovs (off * sz) (vs.take ((fs.take len).length * sz)), ?_, ?_, ?_, ?_, ?_⟩
              · rw [splice_take hszE hmem]; exact splice_HoldL hO hH' (by rw [flat_length hmem, flat_length hszE]; exact hle)
              · intro j u hj
                have := setCells_splice (w := w) (b := p.b) (base := p.base) (off := off * sz) (by omega) hc j u hj
                exact this
              · intro e' he'
                simp only [splice, List.mem_append] at he'
                rcases he' with (h' | h') | h'
                · exact hszE _ (List.mem_of_mem_take h')
                · exact hmem _ h'
                · exact hszE _ (List.mem_of_mem_drop h')
              · rw [splice_length (by omega)]; exact hroomE
              · intro j hj
                refine ⟨setCells_isSome (fun i hi => ?_) (hcells j hj).1, by rw [World.frozen?_setCells]; exact (hcells j hj).2⟩
                have := (hcells (off * sz + i) (by omega)).1
                rw [show p.base + off * sz + i = p.base + (off * sz + i) by omega]; exact this
            obtain ⟨m, e⟩ := R.mem.write (al' := al16 al n) (fun _ h => .inl h) hb rfl (b' := .arr sz (splice es off (fs.take len)) v) rfl hp (p.base + off * sz) _
              (by simp [verOf, hb, find_put]) (fun ver sz' es' _ h' => by
                simp only [arrOf, find_put, if_true] at h'
                split at h'
                · rename_i hvv
                  obtain ⟨rfl, rfl⟩ := Prod.mk.inj (Option.some.inj h')
                  exact ⟨es, by simp only [arrOf, hb, hvv, if_true], by rw [splice_length (by omega)]; exact Nat.le_refl _⟩
                · cases h') (fun cs' h' => by cases h') hbo
            exact wp_val hr (N _ _ _ _ μ h m e ⟨.int _ _, rfl⟩)
        · exact h.elim
      · exact h.elim
    · exact h.elim
  · exact h.elim
end
end Go.Proofs.YtbmibaopkfenbaaDoor.M

/- A machine of values: each operation does on the machine what is told of it, part 10: calls. No condition. -/
namespace Go.Proofs.YtbmibaopkfenbaaDoor.M
open Go
set_option linter.unusedSimpArgs false
set_option linter.unusedVariables false
set_option linter.unusedSectionVars false

theorem inV_some {G : Nat → Prop} {w : World} {a : Addr} {v : Value} : inV G w a = some v ↔ G a.block ∧ w.cell? a = some v := by
  unfold inV
  split
  · rename_i h; exact ⟨fun h' => ⟨h, h'⟩, fun h' => h'.2⟩
  · rename_i h; exact ⟨fun h' => (by cases h'), fun h' => absurd h'.1 h⟩

/-- A block behind a call, and its place. -/
abbrev E := Nat × Blk × Option Pl
def E.blk (e : E) : Option Nat := if e.2.1.live then e.2.2.map (·.b) else none
def EOk (S : Addr → Option Value) (w : World) (e : E) : Prop :=
  match e.2.1, e.2.2 with
  | .arr _ es _, none => es = []
  | .arr sz es _, some p => Sc es ∧ ArrOk S w p.b p.base p.room sz es
  | .froz _ es _, none => es = []
  | _, _ => False
def Fits (al : Nat → Prop) (hp : List (Nat × Blk)) (μ : Nat → Option Pl) (L : List E) : Prop := ∀ e ∈ L, al e.1 ∧ find hp e.1 = some e.2.1 ∧ μ e.1 = e.2.2

theorem Fits.app {al : Nat → Prop} {hp : List (Nat × Blk)} {μ : Nat → Option Pl} {L L' : List E} (h : Fits al hp μ (L ++ L')) : Fits al hp μ L ∧ Fits al hp μ L' :=
  ⟨fun e he => h e (List.mem_append.2 (.inl he)), fun e he => h e (List.mem_append.2 (.inr he))⟩

section
variable {P : Program} {τ : Tab} {Γ : Ctx} {al : Nat → Prop} {s : St} {a : Act} {w w' : World} {μ : Nat → Option Pl} {n : Nat} {K : AV → List (Nat × Blk) → Prop} {next : Act → World → Prop}
variable {o : Oper} {Q : Exit → Act → World → Prop} {md : Nat → Md} {hp : List (Nat × Blk)} {S S' : Addr → Option Value}

theorem BCOk.one {x : BC} {v : Value} {r : List Nat} (h : BCOk S w x v r) : v.oneCell' = true := by
  cases x with
  | t x => exact h.2.2
  | nil sz => obtain ⟨_, rfl⟩ := h; rfl
  | arr sz es =>
    rcases h with ⟨_, _, q, rfl⟩ | ⟨b, base, room, cap, _, rfl, _⟩
    · rfl
    · rfl

/-- A list that comes back, as an entry. -/
theorem bc_arr {sz : Nat} {es : List T} {v : Value} {r : List Nat} (h : BCOk S w (.arr sz es) v r) (i ver : Nat) :
    ∃ p : Option Pl, (p.map (·.b)).toList = r ∧ EOk S w (i, .arr sz es ver, p) ∧ v.oneCell' = true ∧ SlOk p sz 0 es.length v := by
  rcases h with ⟨rfl, rfl, q, rfl⟩ | ⟨b, base, room, cap, rfl, rfl, h1, h2, h3, h4⟩
  · exact ⟨none, rfl, rfl, rfl, rfl, rfl, q, rfl⟩
  · exact ⟨some ⟨b, base, room⟩, rfl, ⟨h3, h4⟩, rfl, ⟨b, base, none⟩, cap, rfl, .inl (by simp), h1, by rw [Nat.zero_add]; exact h2⟩

theorem own_fits {al' : Nat → Prop} {hp' : List (Nat × Blk)} {μ' : Nat → Option Pl} {i sz ver : Nat} {es : List T} {p : Option Pl} {v : Value} (h1 : al' i) (h2 : find hp' i = some (.arr sz es ver)) (h3 : μ' i = p)
    (hone : v.oneCell' = true) (hs : SlOk p sz 0 es.length v) : COk al' hp' S' μ' (.own i ver 0 es.length) v := by
  refine ⟨⟨h1, by simp [verOf, h2]⟩, hone, fun sz' es' hA => ?_⟩
  simp only [arrOf, h2, beq_self_eq_true, if_true, Option.some.injEq, Prod.mk.injEq] at hA
  obtain ⟨rfl, rfl⟩ := hA
  exact ⟨by omega, by rw [h3]; exact hs⟩

theorem impC_ok {own : Bool} {x : T} {v : Value} {r : List Nat} (h : ResC own S w x v r) (hone : v.oneCell' = true) (n : Nat) :
    ∃ L : List E, L.map (fun e => (e.1, e.2.1)) = (impC own n x).2 ∧ L.filterMap E.blk = r ∧ (∀ e ∈ L, EOk S w e) ∧ L.map (·.1) = List.range' n L.length ∧
      ∀ al' hp' S' μ', Fits al' hp' μ' L → (own = false → ∀ a v, S a = some v → S' a = some v) → COk al' hp' S' μ' (impC own n x).1 v := by
  unfold ResC at h
  unfold impC
  split at h
  · rename_i sz es
    obtain ⟨p, h1, h2, h3, h4⟩ := bc_arr h n 0
    refine ⟨[(n, .arr sz es 0, p)], rfl, ?_, by simpa using h2, by simp, fun al' hp' S' μ' hf _ => ?_⟩
    · rw [← h1]; cases p <;> simp [E.blk, Blk.live]
    · obtain ⟨f1, f2, f3⟩ := hf _ (List.mem_singleton.2 rfl)
      exact own_fits f1 f2 f3 h3 h4
  · rename_i hno
    obtain ⟨rfl, hH⟩ := h
    refine ⟨[], rfl, rfl, by simp, rfl, fun al' hp' S' μ' _ hS => ⟨?_, hone⟩⟩
    cases own with
    | false => exact hH.mono (hS rfl)
    | true =>
      cases x with
      | list sz es => exact (hno sz es rfl rfl).elim
      | agg cs => cases hH; simp [Value.oneCell'] at hone
      | nilp => cases hH; exact .nilp
      | nils sz => cases hH; exact .nils sz
      | bx cs => cases hH
      | _ => exact hH.scal rfl

theorem impCs_ok {own : Bool} : ∀ {xs : List T} {vs : List Value} {r : List Nat} (n : Nat), ResCs own S w xs vs r →
    ∃ L : List E, L.map (fun e => (e.1, e.2.1)) = (impCs own n xs).2 ∧ L.filterMap E.blk = r ∧ (∀ e ∈ L, EOk S w e) ∧ L.map (·.1) = List.range' n L.length ∧
      ∀ al' hp' S' μ', Fits al' hp' μ' L → (own = false → ∀ a v, S a = some v → S' a = some v) → CsOk al' hp' S' μ' (impCs own n xs).1 vs
  | [], vs, r, n, h => by
    obtain ⟨rfl, rfl⟩ := h
    exact ⟨[], rfl, rfl, by simp, rfl, fun _ _ _ _ _ _ => ⟨rfl, by simp, by simp [impCs]⟩⟩
  | x :: xs, vs, r, n, h => by
    obtain ⟨v, vs', r1, r2, rfl, rfl, h1, h2, h3⟩ := h
    obtain ⟨L1, a1, a2, a3, a4, a5⟩ := impC_ok h1 h2 n
    have hl : (impC own n x).2.length = L1.length := by rw [← a1]; simp
    obtain ⟨L2, b1, b2, b3, b4, b5⟩ := impCs_ok (n + L1.length) h3
    refine ⟨L1 ++ L2, by simp only [List.map_append, a1, b1, impCs, hl], by rw [List.filterMap_append, a2, b2], fun e he => ?_, ?_, fun al' hp' S' μ' hf hS => ?_⟩
    · rcases List.mem_append.1 he with he | he
      · exact a3 e he
      · exact b3 e he
    · rw [List.map_append, a4, b4, List.length_append, List.range'_append_1]
    · obtain ⟨f1, f2⟩ := hf.app
      have c1 := a5 al' hp' S' μ' f1 hS
      have c2 := b5 al' hp' S' μ' f2 hS
      simp only [impCs, hl]
      refine ⟨by simp [c2.1], fun u hu => ?_, fun j c u p q => ?_⟩
      · rcases List.mem_cons.1 hu with rfl | hu
        · exact h2
        · exact c2.2.1 u hu
      · cases j with
        | zero => simp at p q; subst p; subst q; exact c1
        | succ j => exact c2.2.2 j c u (by simpa using p) (by simpa using q)

theorem EOk.blk {e : E} (h : EOk S w e) {al' : Nat → Prop} {hp' : List (Nat × Blk)} {μ' : Nat → Option Pl} : BlkOk al' hp' S' μ' w e.2.1 e.2.2 := by
  obtain ⟨i, b, p⟩ := e
  cases b with
  | arr sz es v =>
    cases p with
    | none => exact h
    | some p =>
      obtain ⟨hsc, vs, h1, h2, h3, h4, h5⟩ := h
      exact ⟨vs, ⟨h1.1, h1.2.1, fun j t v a b => (h1.2.2 j t v a b).scal (hsc t (List.mem_of_getElem? a))⟩, h2, h3, h4, h5⟩
  | froz sz es v =>
    cases p with
    | none => exact h
    | some p => exact h.elim
  | box cs => cases p <;> exact h.elim
theorem impA_ok {own : Bool} {x : T} {v : Value} {r : List Nat} (h : ResA own S w x v r) (n : Nat) :
    ∃ L : List E, L.map (fun e => (e.1, e.2.1)) = (impA own n x).2 ∧ L.filterMap E.blk = r ∧ L.map (·.1) = List.range' n L.length ∧
      ∀ al' hp' S' μ', Fits al' hp' μ' L → (own = false → ∀ a v, S a = some v → S' a = some v) → AOk al' hp' S' μ' (impA own n x).1 v ∧ ∀ e ∈ L, BlkOk al' hp' S' μ' w e.2.1 e.2.2 := by
  unfold ResA at h
  split at h
  · rename_i cs
    obtain ⟨vs, rfl, h1⟩ := h
    obtain ⟨L, a1, a2, a3, a4, a5⟩ := impCs_ok n h1
    exact ⟨L, a1, a2, a4, fun al' hp' S' μ' f hS => ⟨⟨vs, rfl, a5 al' hp' S' μ' f hS⟩, fun e he => (a3 e he).blk⟩⟩
  · rename_i cs
    obtain ⟨b, r', vs, rfl, rfl, h1, h2⟩ := h
    obtain ⟨L, a1, a2, a3, a4, a5⟩ := impCs_ok (n + 1) h1
    refine ⟨(n, .box (impCs own (n + 1) cs).1, some ⟨b, 0, 0⟩) :: L, by simp [impA, a1], by simp [E.blk, Blk.live, a2], by simp [a4, List.range'_succ], fun al' hp' S' μ' hf hS => ?_⟩
    obtain ⟨f1, f2, f3⟩ := hf _ (List.mem_cons_self ..)
    refine ⟨⟨f1, rfl, fun cs' _ => ⟨_, f3, rfl⟩⟩, fun e he => ?_⟩
    rcases List.mem_cons.1 he with rfl | he
    · exact ⟨rfl, vs, a5 al' hp' S' μ' (fun e he => hf e (by simp [he])) hS, h2⟩
    · exact (a3 e he).blk
  · rename_i hno hno2
    by_cases hnil : x = .nilp
    · subst hnil
      obtain ⟨rfl, hH⟩ : r = [] ∧ Hold S .nilp v := by cases own <;> exact h
      cases hH
      exact ⟨[], rfl, rfl, rfl, fun _ _ _ _ _ _ => ⟨rfl, by simp⟩⟩
    have hone : v.oneCell' = true := by
      unfold ResC at h
      split at h
      · exact BCOk.one h
      · obtain ⟨_, hH⟩ := h
        cases hH <;> first | rfl | exact (hno _ rfl).elim
    obtain ⟨L, a1, a2, a3, a4, a5⟩ := impC_ok h hone n
    have e : impA own n x = (.c (impC own n x).1, (impC own n x).2) := by
      unfold impA
      split
      · exact (hno _ rfl).elim
      · exact (hno2 _ rfl).elim
      · exact (hnil rfl).elim
      · rfl
    rw [e]
    exact ⟨L, a1, a2, a4, fun al' hp' S' μ' f hS => ⟨a5 al' hp' S' μ' f hS, fun e he => (a3 e he).blk⟩⟩

theorem impL_ok {own : Bool} : ∀ {xs : List T} {vs : List Value} {r : List Nat} (n : Nat), ResL own S w xs vs r →
    ∃ L : List E, L.map (fun e => (e.1, e.2.1)) = (impL own n xs).2 ∧ L.filterMap E.blk = r ∧ L.map (·.1) = List.range' n L.length ∧
      ∀ al' hp' S' μ', Fits al' hp' μ' L → (own = false → ∀ a v, S a = some v → S' a = some v) → (vs.length = (impL own n xs).1.length ∧ ∀ (j : Nat) x v, (impL own n xs).1[j]? = some x → vs[j]? = some v → AOk al' hp' S' μ' x v) ∧ ∀ e ∈ L, BlkOk al' hp' S' μ' w e.2.1 e.2.2
  | [], vs, r, n, h => by
    obtain ⟨rfl, rfl⟩ := h
    exact ⟨[], rfl, rfl, rfl, fun _ _ _ _ _ _ => ⟨⟨rfl, by simp [impL]⟩, by simp⟩⟩
  | x :: xs, vs, r, n, h => by
    obtain ⟨v, vs', r1, r2, rfl, rfl, h1, h3⟩ := h
    obtain ⟨L1, a1, a2, a4, a5⟩ := impA_ok h1 n
    have hl : (impA own n x).2.length = L1.length := by rw [← a1]; simp
    obtain ⟨L2, b1, b2, b4, b5⟩ := impL_ok (n + L1.length) h3
    refine ⟨L1 ++ L2, by simp only [List.map_append, a1, b1, impL, hl], by rw [List.filterMap_append, a2, b2], ?_, fun al' hp' S' μ' hf hS => ?_⟩
    · rw [List.map_append, a4, b4, List.length_append, List.range'_append_1]
    · obtain ⟨f1, f2⟩ := hf.app
      have c1 := a5 al' hp' S' μ' f1 hS
      have c2 := b5 al' hp' S' μ' f2 hS
      simp only [impL, hl]
      refine ⟨⟨by simp [c2.1.1], fun j c u p q => ?_⟩, fun e he => ?_⟩
      · cases j with
        | zero => simp at p q; subst p; subst q; exact c1.1
        | succ j => exact c2.1.2 j c u (by simpa using p) (by simpa using q)
      · rcases List.mem_append.1 he with he | he
        · exact c1.2 e he
        · exact c2.2 e he

theorem impR_ok {own : Bool} {rs : List T} {v : Value} {r : List Nat} (h : ResOk own S w rs v r) (n : Nat) :
    ∃ L : List E, L.map (fun e => (e.1, e.2.1)) = (impR own n rs).2 ∧ L.filterMap E.blk = r ∧ L.map (·.1) = List.range' n L.length ∧
      ∀ al' hp' S' μ', Fits al' hp' μ' L → (own = false → ∀ a v, S a = some v → S' a = some v) → AVOk al' hp' S' μ' (impR own n rs).1 v ∧ ∀ e ∈ L, BlkOk al' hp' S' μ' w e.2.1 e.2.2 := by
  unfold ResOk at h
  split at h
  · rename_i x
    obtain ⟨L, a1, a2, a4, a5⟩ := impA_ok h n
    exact ⟨L, a1, a2, a4, a5⟩
  · rename_i hno
    obtain ⟨vs, rfl, h1⟩ := h
    obtain ⟨L, a1, a2, a4, a5⟩ := impL_ok n h1
    have e : impR own n rs = (.tup (impL own n rs).1, (impL own n rs).2) := by
      unfold impR
      split
      · exact (hno _ rfl).elim
      · rfl
    rw [e]
    exact ⟨L, a1, a2, a4, fun al' hp' S' μ' f hS => ⟨⟨vs, rfl, (a5 al' hp' S' μ' f hS).1⟩, (a5 al' hp' S' μ' f hS).2⟩⟩
end
end Go.Proofs.YtbmibaopkfenbaaDoor.M

/- A machine of values: each operation does on the machine what is told of it, part 11: calls, what is handed over. No condition. -/
namespace Go.Proofs.YtbmibaopkfenbaaDoor.M
open Go
set_option linter.unusedSimpArgs false
set_option linter.unusedVariables false
set_option linter.unusedSectionVars false

section
variable {P : Program} {τ : Tab} {Γ : Ctx} {al : Nat → Prop} {s : St} {a : Act} {w w' : World} {μ : Nat → Option Pl} {n : Nat} {K : AV → List (Nat × Blk) → Prop} {next : Act → World → Prop}
variable {o : Oper} {Q : Exit → Act → World → Prop} {md : Nat → Md} {hp : List (Nat × Blk)} {S S0 S' : Addr → Option Value}

/-- A number's block. -/
def bOf (μ : Nat → Option Pl) (i : Nat) : Option Nat := (μ i).map (·.b)

theorem bcK_ok (M : Mem Γ al hp w μ) (hS : ∀ a v, Sv Γ.G hp μ w a = some v → S0 a = some v) {c : C} {v : Value} {K : BC → Prop} (h : bcK hp c K) (hc : COk al hp (Sv Γ.G hp μ w) μ c v) (h1 : v.oneCell' = true) :
    ∃ x r, K x ∧ BCOk S0 w x v r ∧ r.Sublist ((ownsC c).filterMap (bOf μ)) ∧ ∀ i ∈ ownsC c, live hp i := by
  unfold bcK at h
  split at h
  · exact ⟨_, [], h, ⟨rfl, hc.1.mono hS, h1⟩, by simp [ownsC], by simp [ownsC]⟩
  · exact ⟨_, [], h, ⟨rfl, hc⟩, by simp [ownsC], by simp [ownsC]⟩
  · rename_i i ver n
    split at h
    · rename_i sz es v' hb
      split at h
      · rename_i hv
        obtain ⟨rfl, hsc, hK⟩ := h
        have hA : arrOf hp i ver = some (sz, es) := arrOf_arr hb hv
        obtain ⟨h4, h5⟩ := hc.2.2 _ _ hA
        have hlive : live hp i := ⟨_, hb, rfl⟩
        have hB := M.blk _ _ hb
        cases hp' : μ i with
        | none =>
          rw [hp'] at h5 hB
          obtain ⟨_, h6, q, rfl⟩ := h5
          rw [h6]
          exact ⟨_, [], hK, .inl ⟨rfl, hB, q, rfl⟩, List.nil_sublist _, by simpa [ownsC] using hlive⟩
        | some p =>
          rw [hp'] at h5 hB
          obtain ⟨ad, cap, rfl, h7, h8, h9⟩ := h5
          rcases h7 with h7 | h7
          · subst h7
            refine ⟨_, [p.b], hK, .inr ⟨p.b, p.base, p.room, cap, rfl, by simp, h8, by simpa using h9, hsc, ?_⟩, by simp [ownsC, bOf, hp'], by simpa [ownsC] using hlive⟩
            exact ArrOk.mono hS (fun _ => rfl) (fun _ => rfl) hB
          · subst h7
            have h0 : es.length = 0 := by omega
            rw [h0]
            exact ⟨_, [], hK, .inl ⟨rfl, List.length_eq_zero_iff.1 h0, _, rfl⟩, List.nil_sublist _, by simpa [ownsC] using hlive⟩
      · exact h.elim
    · exact h.elim
  · exact h.elim

theorem bcsK_ok (M : Mem Γ al hp w μ) (hS : ∀ a v, Sv Γ.G hp μ w a = some v → S0 a = some v) : ∀ {cs : List C} {vs : List Value} {K : List BC → Prop}, bcsK hp cs K → CsOk al hp (Sv Γ.G hp μ w) μ cs vs →
    ∃ xs r, K xs ∧ BCsOk S0 w xs vs r ∧ r.Sublist ((cs.flatMap ownsC).filterMap (bOf μ)) ∧ (∀ i ∈ cs.flatMap ownsC, live hp i) ∧ xs.length = cs.length
  | [], vs, K, h, hc => by
    have := hc.1
    simp at this; subst this
    exact ⟨[], [], h, ⟨rfl, rfl⟩, by simp, by simp, rfl⟩
  | c :: cs, vs, K, h, hc => by
    cases vs with
    | nil => have := hc.1; simp at this
    | cons v vs =>
      have hr : CsOk al hp (Sv Γ.G hp μ w) μ cs vs := ⟨by have := hc.1; simpa using this, fun u hu => hc.2.1 u (by simp [hu]), fun j c' u a b => hc.2.2 (j + 1) c' u (by simpa using a) (by simpa using b)⟩
      obtain ⟨x, r1, hK, b1, b2, b3⟩ := bcK_ok M hS h (hc.2.2 0 c v rfl rfl) (hc.2.1 v (by simp))
      obtain ⟨xs, r2, hK2, c1, c2, c3, c4⟩ := bcsK_ok M hS hK hr
      refine ⟨x :: xs, r1 ++ r2, hK2, ⟨v, vs, r1, r2, rfl, rfl, b1, c1⟩, ?_, ?_, by simp [c4]⟩
      · rw [List.flatMap_cons, List.filterMap_append]; exact b2.append c2
      · intro i hi
        rw [List.flatMap_cons, List.mem_append] at hi
        rcases hi with hi | hi
        · exact b3 i hi
        · exact c3 i hi

/-- What is read out of the call's own lists is seen. -/
theorem readC_ok (M : Mem Γ al hp w μ) (hS : ∀ a v, Sv Γ.G hp μ w a = some v → S0 a = some v) {c : C} {v : Value} {x : T} (h : readC hp c = some x) (hc : COk al hp (Sv Γ.G hp μ w) μ c v)
    (hown : ∀ i ∈ ownsC c, (∃ sz es v, find hp i = some (.arr sz es v)) → ∀ p, μ i = some p → ∀ a, a.block = p.b → ∀ v, w.cell? a = some v → S0 a = some v) : Hold S0 x v := by
  unfold readC at h
  split at h
  · obtain rfl := Option.some.inj h; exact hc.1.mono hS
  · rename_i hno
    simp only [Option.map_eq_some_iff] at h
    obtain ⟨⟨sz, fs⟩, hl, rfl⟩ := h
    cases c with
    | t x => exact (hno x rfl).elim
    | nil sz' =>
      simp only [listOf, Option.some.injEq, Prod.mk.injEq] at hl
      obtain ⟨rfl, rfl⟩ := hl
      obtain rfl := hc
      exact .nil _
    | own i ver off len =>
      have hsrc := list_src M hc hl
      rcases hsrc with ⟨⟨q, rfl⟩, rfl⟩ | ⟨ad, cap, vs, rfl, hH, hcell, hsz, hcap⟩
      · cases q with
        | none => exact .nil _
        | some q => exact .list _ [] q 0 0 [] rfl (Nat.le_refl _) (by simp) rfl (by simp) (by simp) (by simp)
      · simp only [listOf, Option.map_eq_some_iff] at hl
        obtain ⟨⟨sz', es⟩, hA, he⟩ := hl
        simp only [Prod.mk.injEq] at he
        obtain ⟨rfl, rfl⟩ := he
        obtain ⟨h4, h5⟩ := hc.2.2 _ _ hA
        refine .list _ _ ad _ cap vs rfl hcap hsz hH.1 (fun j v hj => ?_) hH.2.1 (fun j t v h1 h2 => (hH.2.2 j t v h1 h2).mono hS)
        have hcj := hcell j v hj
        cases hp' : μ i with
        | none =>
          rw [hp'] at h5
          obtain ⟨_, h6, q, hq⟩ := h5
          simp only [Value.slice.injEq] at hq
          have : vs = [] := by
            have := hH.1
            rw [flat_length hsz, hq.2.1] at this
            exact List.length_eq_zero_iff.1 (by simpa using this)
          subst this; simp at hj
        | some p =>
          rw [hp'] at h5
          obtain ⟨ad', cap', hv, h7, h8, h9⟩ := h5
          simp only [Value.slice.injEq, Option.some.injEq] at hv
          obtain ⟨rfl, hlen, rfl⟩ := hv
          rcases h7 with h7 | h7
          · by_cases hlive : ∃ sz es v, find hp i = some (.arr sz es v)
            · refine hown i (by simp [ownsC]) hlive p hp' _ ?_ _ hcj
              rw [h7, add_mk]
            · have hlt : j < len * sz' := by
                have h10 := hH.1
                rw [flat_length hsz, hlen] at h10
                rw [← h10]; exact (List.getElem?_eq_some_iff.1 hj).1
              obtain ⟨vf, hf⟩ : ∃ vf, find hp i = some (.froz sz' es vf) := by
                unfold arrOf at hA
                split at hA
                · rename_i hb; exact absurd ⟨_, _, _, hb⟩ hlive
                · rename_i sz2 es2 v2 hb
                  split at hA
                  · obtain ⟨rfl, rfl⟩ := Prod.mk.inj (Option.some.inj hA); exact ⟨_, hb⟩
                  · cases hA
                · cases hA
              have hB := M.blk _ _ hf
              rw [hp'] at hB
              obtain ⟨vs0, g1, g2, g3⟩ := hB
              have hmul : (off + len) * sz' ≤ es.length * sz' := Nat.mul_le_mul_right _ h4
              rw [Nat.add_mul] at hmul
              have hlt0 : off * sz' + j < vs0.length := by rw [g1.1, flat_length g3]; omega
              have g4 := g2 (off * sz' + j) _ (List.getElem?_eq_getElem hlt0)
              have e1 : ad.add j = (⟨p.b, p.base, none⟩ : Addr).add (off * sz' + j) := by rw [h7, add_mk, add_mk, Nat.add_assoc]
              rw [← e1] at g4
              have g5 := (Sv_some.1 g4).2
              rw [hcj] at g5
              rw [g5]
              exact hS _ _ g4
          · have : vs = [] := by
              have h10 := hH.1
              rw [flat_length hsz] at h10
              have : ((es.drop off).take len).length = 0 := by omega
              rw [this] at h10
              exact List.length_eq_zero_iff.1 (by simpa using h10)
            subst this; simp at hj
    | _ => simp [listOf] at hl
theorem readL_ok (M : Mem Γ al hp w μ) (hS : ∀ a v, Sv Γ.G hp μ w a = some v → S0 a = some v) : ∀ {cs : List C} {vs : List Value} {xs : List T}, readL hp cs = some xs → CsOk al hp (Sv Γ.G hp μ w) μ cs vs →
    (∀ i ∈ cs.flatMap ownsC, (∃ sz es v, find hp i = some (.arr sz es v)) → ∀ p, μ i = some p → ∀ a, a.block = p.b → ∀ v, w.cell? a = some v → S0 a = some v) → HoldL S0 xs vs
  | [], vs, xs, h, hc, _ => by
    simp [readL] at h; subst h
    have := hc.1
    simp at this; subst this
    exact ⟨rfl, by simp, by simp⟩
  | c :: cs, vs, xs, h, hc, hown => by
    simp only [readL] at h
    split at h
    · rename_i x xs' h1 h2
      obtain rfl := Option.some.inj h
      cases vs with
      | nil => have := hc.1; simp at this
      | cons v vs =>
        have hr : CsOk al hp (Sv Γ.G hp μ w) μ cs vs := ⟨by have := hc.1; simpa using this, fun u hu => hc.2.1 u (by simp [hu]), fun j c' u a b => hc.2.2 (j + 1) c' u (by simpa using a) (by simpa using b)⟩
        have a1 := readC_ok M hS h1 (hc.2.2 0 c v rfl rfl) (fun i hi => hown i (by rw [List.flatMap_cons]; exact List.mem_append.2 (.inl hi)))
        have a2 := readL_ok M hS h2 hr (fun i hi => hown i (by rw [List.flatMap_cons]; exact List.mem_append.2 (.inr hi)))
        refine ⟨by simp [a2.1], hc.2.1, fun j t u p q => ?_⟩
        cases j with
        | zero => simp at p q; subst p; subst q; exact a1
        | succ j => exact a2.2.2 j t u (by simpa using p) (by simpa using q)
    · cases h
theorem readA_ok (M : Mem Γ al hp w μ) (hS : ∀ a v, Sv Γ.G hp μ w a = some v → S0 a = some v) {y : A} {v : Value} {x : T} (h : readA hp y = some x) (hc : AOk al hp (Sv Γ.G hp μ w) μ y v)
    (hown : ∀ i ∈ y.cells.flatMap ownsC, (∃ sz es v, find hp i = some (.arr sz es v)) → ∀ p, μ i = some p → ∀ a, a.block = p.b → ∀ v, w.cell? a = some v → S0 a = some v) : Hold S0 x v := by
  cases y with
  | c c => exact readC_ok M hS h hc (fun i hi => hown i (by simpa [A.cells] using hi))
  | g cs =>
    simp only [readA, Option.map_eq_some_iff] at h
    obtain ⟨xs, h1, rfl⟩ := h
    obtain ⟨vs, rfl, hC⟩ := hc
    have := readL_ok M hS h1 hC (fun i hi => hown i (by simpa [A.cells] using hi))
    exact .agg _ _ this.1 this.2.1 this.2.2

/-- A value that hands over no box. -/
def Plain (x : AV) : Prop := (∀ i o, x ≠ .a (.c (.ptr i o))) ∧ (∀ f i, x ≠ .a (.c (.clo f i))) ∧ ∀ k i v n, x ≠ .a (.c (.mvo k i v n))
/-- What is known of an argument that was handed over. -/
def Gave (hp : List (Nat × Blk)) (x : AV) (y : AA) (is : List Nat) : Prop :=
  match y with
  | .mb ys => ∃ i cs, x = .a (.c (.ptr i 0)) ∧ find hp i = some (.box cs) ∧ ys.length = cs.length ∧ is = i :: cs.flatMap ownsC ∧ bcsK hp cs (fun _ => True)
  | .clo f ys => ∃ i cs, x = .a (.c (.clo f i)) ∧ find hp i = some (.box cs) ∧ ys.length = cs.length ∧ is = i :: cs.flatMap ownsC ∧ bcsK hp cs (fun _ => True)
  | .mv sz es => ∃ i v n, x = .a (.c (.mvo true i v n)) ∧ find hp i = some (.arr sz es v) ∧ is = [i]
  | .ln sz es => ∃ i v n, x = .a (.c (.mvo false i v n)) ∧ find hp i = some (.arr sz es v) ∧ n = es.length ∧ 0 < es.length ∧ is = [i]
  | _ => Plain x ∧ is = []
def Gaves (hp : List (Nat × Blk)) : List AV → List AA → List Nat → Prop
  | [], [], is => is = []
  | x :: xs, y :: ys, is => ∃ i1 i2, is = i1 ++ i2 ∧ Gave hp x y i1 ∧ Gaves hp xs ys i2
  | _, _, _ => False

theorem bcK_mono {c : C} {K K' : BC → Prop} (hK : ∀ x, K x → K' x) (h : bcK hp c K) : bcK hp c K' := by
  unfold bcK at *
  split <;> simp_all
  split <;> simp_all
theorem bcsK_mono : ∀ {cs : List C} {K K' : List BC → Prop}, (∀ x, K x → K' x) → bcsK hp cs K → bcsK hp cs K'
  | [], K, K', hK, h => hK _ h
  | c :: cs, K, K', hK, h => bcK_mono (fun x hx => bcsK_mono (fun xs hxs => hK _ hxs) hx) h

theorem argK_ok (M : Mem Γ al hp w μ) (hS : ∀ a v, Sv Γ.G hp μ w a = some v → S0 a = some v) {x : AV} {v : Value} {K : AA → List Nat → Prop} (h : argK hp x K) (hx : AVOk al hp (Sv Γ.G hp μ w) μ x v)
    (hown : ∀ i ∈ ownsA x, (∃ sz es v, find hp i = some (.arr sz es v)) → ∀ p, μ i = some p → ∀ a, a.block = p.b → ∀ v, w.cell? a = some v → S0 a = some v) :
    ∃ y is r, K y is ∧ ArgOk S0 w y v r ∧ r.Sublist (is.filterMap (bOf μ)) ∧ (∀ i ∈ is, live hp i) ∧ Gave hp x y is := by
  unfold argK at h
  split at h
  · rename_i i
    split at h
    · rename_i cs hb
      obtain ⟨p, h1, rfl⟩ := hx.2.2 _ hb
      have hB := M.blk _ _ hb
      rw [h1] at hB
      obtain ⟨h0, vs, hC, hc⟩ := hB
      obtain ⟨ys, r, hK, b1, b2, b3, b4⟩ := bcsK_ok M hS h hC
      refine ⟨_, _, p.b :: r, hK, ⟨p.b, r, rfl, rfl, vs, b1, hc⟩, ?_, ?_, ⟨i, cs, rfl, hb, b4, rfl, bcsK_mono (fun _ _ => trivial) h⟩⟩
      · have : bOf μ i = some p.b := by simp [bOf, h1]
        rw [List.filterMap_cons_some this]
        exact b2.cons_cons _
      · intro j hj
        rcases List.mem_cons.1 hj with rfl | hj
        · exact ⟨_, hb, rfl⟩
        · exact b3 j hj
    · exact h.elim
  · exact ⟨_, _, [], h, ⟨rfl, hx⟩, by simp, by simp, ⟨fun i o e => (by cases e), fun f i e => (by cases e), fun k i v n e => (by cases e)⟩, rfl⟩
  · exact ⟨_, _, [], h, ⟨rfl, hx⟩, by simp, by simp, ⟨fun i o e => (by cases e), fun f i e => (by cases e), fun k i v n e => (by cases e)⟩, rfl⟩
  · rename_i k0 i v0 n0
    simp only [bcK] at h
    split at h
    · rename_i sz es v' hf
      split at h
      · rename_i hv
        obtain ⟨h1, h2, h3⟩ := h
        have hbc : bcK hp (.own i v0 0 n0) (fun x => x = .arr sz es) := by
          simp only [bcK, hf]; rw [if_pos hv]; exact ⟨h1, h2, by first | rfl | trivial⟩
        have hcc : COk al hp (Sv Γ.G hp μ w) μ (.own i v0 0 n0) v := hx
        obtain ⟨x, r, rfl, b1, b2, b3⟩ := bcK_ok M hS hbc hcc hcc.2.1
        simp only [beq_iff_eq] at hv
        subst hv
        cases k0 with
        | true => exact ⟨_, _, r, h3, b1, by simpa [ownsC] using b2, by simpa [ownsC] using b3, i, v0, n0, rfl, hf, rfl⟩
        | false =>
          refine ⟨_, _, r, h3.2, ?_, by simpa [ownsC] using b2, by simpa [ownsC] using b3, i, v0, n0, rfl, hf, h1, h3.1, rfl⟩
          rcases b1 with ⟨_, g, _⟩ | b1
          · have := h3.1; rw [g] at this; exact absurd this (Nat.lt_irrefl 0)
          · exact b1
      · exact h.elim
    · exact h.elim
  · rename_i f i
    split at h
    · rename_i cs hb
      obtain ⟨p, h1, rfl⟩ := hx.2.2 _ hb
      have hB := M.blk _ _ hb
      rw [h1] at hB
      obtain ⟨h0, vs, hC, hc⟩ := hB
      obtain ⟨ys, r, hK, b1, b2, b3, b4⟩ := bcsK_ok M hS h hC
      refine ⟨_, _, p.b :: r, hK, ⟨p.b, r, rfl, rfl, vs, b1, hc⟩, ?_, ?_, ⟨i, cs, rfl, hb, b4, rfl, bcsK_mono (fun _ _ => trivial) h⟩⟩
      · have : bOf μ i = some p.b := by simp [bOf, h1]
        rw [List.filterMap_cons_some this]
        exact b2.cons_cons _
      · intro j hj
        rcases List.mem_cons.1 hj with rfl | hj
        · exact ⟨_, hb, rfl⟩
        · exact b3 j hj
    · exact h.elim
  · rename_i y hno1 hno2 hno3 hno4 hno5
    split at h
    · rename_i t ht
      have hH := readA_ok M hS ht hx hown
      refine ⟨_, _, [], h, ⟨rfl, hH⟩, by simp, by simp, ⟨fun i o e => ?_, fun f i e => ?_, fun k i v n e => ?_⟩, rfl⟩ <;>
        (simp only [AV.a.injEq] at e; subst e; simp [readA, readC, listOf] at ht)
    · exact h.elim
  · exact h.elim

def boxId (hp : List (Nat × Blk)) : AV → List Nat
  | .a (.c (.ptr i 0)) => match find hp i with | some (.box cs) => i :: cs.flatMap ownsC | _ => []
  | .a (.c (.clo _ i)) => match find hp i with | some (.box cs) => i :: cs.flatMap ownsC | _ => []
  | .a (.c (.mvo _ i _ _)) => [i]
  | _ => []
theorem boxId_plain {x : AV} (h : Plain x) : boxId hp x = [] := by
  unfold boxId
  split
  · rename_i i; exact absurd rfl (h.1 i 0)
  · rename_i f i; exact absurd rfl (h.2.1 f i)
  · rename_i k i v n; exact absurd rfl (h.2.2 k i v n)
  · rfl
theorem Gave.ids {x : AV} {y : AA} {is : List Nat} (h : Gave hp x y is) : is = boxId hp x := by
  cases y with
  | mb ys => obtain ⟨i, cs, rfl, hb, _, rfl, _⟩ := h; simp [boxId, hb]
  | clo f ys => obtain ⟨i, cs, rfl, hb, _, rfl, _⟩ := h; simp [boxId, hb]
  | mv sz es => obtain ⟨i, v, n, rfl, hb, rfl⟩ := h; rfl
  | ln sz es => obtain ⟨i, v, n, rfl, hb, _, _, rfl⟩ := h; rfl
  | v t => rw [boxId_plain h.1, h.2]
  | nilp => rw [boxId_plain h.1, h.2]
  | fn f => rw [boxId_plain h.1, h.2]
theorem Gaves.ids : ∀ {xs : List AV} {ys : List AA} {is : List Nat}, Gaves hp xs ys is → is = xs.flatMap (boxId hp)
  | [], [], is, h => h
  | x :: xs, y :: ys, is, h => by
    obtain ⟨i1, i2, rfl, h1, h2⟩ := h
    rw [List.flatMap_cons, h1.ids, Gaves.ids h2]
  | [], _ :: _, is, h => h.elim
  | _ :: _, [], is, h => h.elim
theorem bcK_live {c : C} {K : BC → Prop} (h : bcK hp c K) : (∃ x, K x) ∧ ∀ i ∈ ownsC c, live hp i := by
  unfold bcK at h
  split at h
  · exact ⟨⟨_, h⟩, by simp [ownsC]⟩
  · exact ⟨⟨_, h⟩, by simp [ownsC]⟩
  · split at h
    · rename_i hb
      split at h
      · exact ⟨⟨_, h.2.2⟩, fun i hi => by simp only [ownsC, List.mem_singleton] at hi; subst hi; exact ⟨_, hb, rfl⟩⟩
      · exact h.elim
    · exact h.elim
  · exact h.elim
theorem bcsK_live : ∀ {cs : List C} {K : List BC → Prop}, bcsK hp cs K → (∃ x, K x) ∧ ∀ i ∈ cs.flatMap ownsC, live hp i
  | [], K, h => ⟨⟨_, h⟩, by simp⟩
  | c :: cs, K, h => by
    obtain ⟨⟨x, h1⟩, h2⟩ := bcK_live h
    obtain ⟨⟨y, h3⟩, h4⟩ := bcsK_live h1
    refine ⟨⟨_, h3⟩, fun i hi => ?_⟩
    rw [List.flatMap_cons, List.mem_append] at hi
    rcases hi with hi | hi
    · exact h2 i hi
    · exact h4 i hi
theorem argK_ids {x : AV} {K : AA → List Nat → Prop} (h : argK hp x K) : (∃ y, K y (boxId hp x)) ∧ ∀ i ∈ boxId hp x, live hp i := by
  unfold argK at h
  split at h
  · rename_i i
    split at h
    · rename_i cs hb
      obtain ⟨⟨y, h1⟩, h2⟩ := bcsK_live h
      have e : boxId hp (.a (.c (.ptr i 0))) = i :: cs.flatMap ownsC := by simp [boxId, hb]
      rw [e]
      refine ⟨⟨_, h1⟩, fun j hj => ?_⟩
      rcases List.mem_cons.1 hj with rfl | hj
      · exact ⟨_, hb, rfl⟩
      · exact h2 j hj
    · exact h.elim
  · exact ⟨⟨_, h⟩, by simp [boxId]⟩
  · exact ⟨⟨_, h⟩, by simp [boxId]⟩
  · rename_i k0 i v0 n0
    obtain ⟨⟨x, hK⟩, h2⟩ := bcK_live h
    cases x with
    | arr sz es => cases k0 with
      | true => exact ⟨⟨_, hK⟩, fun j hj => h2 j (by simpa [boxId, ownsC] using hj)⟩
      | false => exact ⟨⟨_, hK.2⟩, fun j hj => h2 j (by simpa [boxId, ownsC] using hj)⟩
    | _ => exact hK.elim
  · rename_i f i
    split at h
    · rename_i cs hb
      obtain ⟨⟨y, h1⟩, h2⟩ := bcsK_live h
      have e : boxId hp (.a (.c (.clo f i))) = i :: cs.flatMap ownsC := by simp [boxId, hb]
      rw [e]
      refine ⟨⟨_, h1⟩, fun j hj => ?_⟩
      rcases List.mem_cons.1 hj with rfl | hj
      · exact ⟨_, hb, rfl⟩
      · exact h2 j hj
    · exact h.elim
  · rename_i y hno1 hno2 hno3 hno4 hno5
    split at h
    · rename_i t ht
      have : boxId hp (.a y) = [] := boxId_plain ⟨fun i o e => by simp only [AV.a.injEq] at e; subst e; simp [readA, readC, listOf] at ht, fun f i e => by simp only [AV.a.injEq] at e; subst e; simp [readA, readC, listOf] at ht, fun k f i n e => by simp only [AV.a.injEq] at e; subst e; simp [readA, readC, listOf] at ht⟩
      rw [this]
      exact ⟨⟨_, h⟩, by simp⟩
    · exact h.elim
  · exact h.elim
theorem argsK_ids : ∀ {xs : List AV} {K : List AA → List Nat → Prop}, argsK hp xs K → (∃ ys, K ys (xs.flatMap (boxId hp))) ∧ ∀ i ∈ xs.flatMap (boxId hp), live hp i
  | [], K, h => ⟨⟨_, h⟩, by simp⟩
  | x :: xs, K, h => by
    obtain ⟨⟨y, h1⟩, h2⟩ := argK_ids h
    obtain ⟨⟨ys, h3⟩, h4⟩ := argsK_ids h1
    refine ⟨⟨_, by rw [List.flatMap_cons]; exact h3⟩, fun i hi => ?_⟩
    rw [List.flatMap_cons, List.mem_append] at hi
    rcases hi with hi | hi
    · exact h2 i hi
    · exact h4 i hi

theorem argsK_ok (M : Mem Γ al hp w μ) (hS : ∀ a v, Sv Γ.G hp μ w a = some v → S0 a = some v) : ∀ {xs : List AV} {vs : List Value} {K : List AA → List Nat → Prop}, argsK hp xs K → vs.length = xs.length →
    (∀ (j : Nat) x v, xs[j]? = some x → vs[j]? = some v → AVOk al hp (Sv Γ.G hp μ w) μ x v) →
    (∀ i ∈ xs.flatMap ownsA, (∃ sz es v, find hp i = some (.arr sz es v)) → ∀ p, μ i = some p → ∀ a, a.block = p.b → ∀ v, w.cell? a = some v → S0 a = some v) →
    ∃ ys is r, K ys is ∧ ArgsOk S0 w ys vs r ∧ r.Sublist (is.filterMap (bOf μ)) ∧ (∀ i ∈ is, live hp i) ∧ Gaves hp xs ys is
  | [], vs, K, h, hl, _, _ => by
    simp at hl; subst hl
    exact ⟨[], [], [], h, ⟨rfl, rfl⟩, by simp, by simp, rfl⟩
  | x :: xs, vs, K, h, hl, hx, hown => by
    cases vs with
    | nil => simp at hl
    | cons v vs =>
      obtain ⟨y, is1, r1, hK, b1, b2, b3, b4⟩ := argK_ok M hS h (hx 0 x v rfl rfl) (fun i hi => hown i (by rw [List.flatMap_cons]; exact List.mem_append.2 (.inl hi)))
      obtain ⟨ys, is2, r2, hK2, c1, c2, c3, c4⟩ := argsK_ok M hS hK (by simpa using hl) (fun j x v p q => hx (j + 1) x v (by simpa using p) (by simpa using q)) (fun i hi => hown i (by rw [List.flatMap_cons]; exact List.mem_append.2 (.inr hi)))
      refine ⟨y :: ys, is1 ++ is2, r1 ++ r2, hK2, ⟨v, vs, r1, r2, rfl, rfl, b1, c1⟩, ?_, ?_, is1, is2, rfl, b4, c4⟩
      · rw [List.filterMap_append]; exact b2.append c2
      · intro i hi
        rcases List.mem_append.1 hi with hi | hi
        · exact b3 i hi
        · exact c3 i hi
end
end Go.Proofs.YtbmibaopkfenbaaDoor.M

/- A machine of values: each operation does on the machine what is told of it, part 12: calls, what comes back. No condition. -/
namespace Go.Proofs.YtbmibaopkfenbaaDoor.M
open Go
set_option linter.unusedSimpArgs false
set_option linter.unusedVariables false
set_option linter.unusedSectionVars false

section
variable {P : Program} {τ : Tab} {Γ : Ctx} {al : Nat → Prop} {s : St} {a : Act} {w w' : World} {μ : Nat → Option Pl} {n : Nat} {K : AV → List (Nat × Blk) → Prop} {next : Act → World → Prop}
variable {o : Oper} {Q : Exit → Act → World → Prop} {md : Nat → Md} {hp : List (Nat × Blk)} {S S0 S' : Addr → Option Value}

/-- What is asked of the numbers of entries that stand for some boxes' numbers and for some new ones. -/
structure Ids (hp : List (Nat × Blk)) (μ : Nat → Option Pl) (L : List E) (is : List Nat) (n m : Nat) : Prop where
  mem : ∀ e ∈ L, e.1 ∈ is ∨ (n ≤ e.1 ∧ e.1 < n + m)
  nd : is.Nodup → (∀ i ∈ is, ¬ (n ≤ i ∧ i < n + m)) → (L.map (·.1)).Nodup
  all : ∀ i ∈ is, ∃ e ∈ L, e.1 = i
  old : ∀ e ∈ L, e.1 ∈ is → (∃ cs cs', e.2.1 = .box cs' ∧ find hp e.1 = some (.box cs) ∧ e.2.2 = μ e.1) ∨ ((∀ cs', e.2.1 ≠ .box cs') ∧ ∀ i, verOf [(i, e.2.1)] i = verOf hp e.1 + 1) ∨
    ∃ sz es es' v, e.2.1 = .arr sz es' v ∧ find hp e.1 = some (.arr sz es v) ∧ es.length ≤ es'.length ∧ e.2.2 = μ e.1

theorem Ids.nil : Ids hp μ [] [] n 0 := ⟨by simp, by simp, by simp, by simp⟩
theorem Ids.app {L1 L2 : List E} {i1 i2 : List Nat} {m1 m2 : Nat} (h1 : Ids hp μ L1 i1 n m1) (h2 : Ids hp μ L2 i2 (n + m1) m2) (hno : ∀ i ∈ i1 ++ i2, ¬ (n ≤ i ∧ i < n + (m1 + m2))) : Ids hp μ (L1 ++ L2) (i1 ++ i2) n (m1 + m2) := by
  refine ⟨fun e he => ?_, fun hnd _ => ?_, fun i hi => ?_, fun e he hi => ?_⟩
  · rcases List.mem_append.1 he with he | he
    · rcases h1.mem e he with h | h
      · exact .inl (List.mem_append.2 (.inl h))
      · exact .inr ⟨h.1, by omega⟩
    · rcases h2.mem e he with h | h
      · exact .inl (List.mem_append.2 (.inr h))
      · exact .inr ⟨by omega, by omega⟩
  · obtain ⟨n1, n2, n3⟩ := List.nodup_append.1 hnd
    rw [List.map_append]
    refine List.nodup_append.2 ⟨h1.nd n1 (fun i hi hh => hno i (List.mem_append.2 (.inl hi)) ⟨hh.1, by omega⟩), h2.nd n2 (fun i hi hh => hno i (List.mem_append.2 (.inr hi)) ⟨by omega, by omega⟩), fun x hx y hy hxy => ?_⟩
    subst hxy
    obtain ⟨e, he, rfl⟩ := List.mem_map.1 hx
    obtain ⟨e', he', hee⟩ := List.mem_map.1 hy
    rcases h1.mem e he with m1 | m1
    · rcases h2.mem e' he' with m2 | m2
      · exact n3 _ m1 _ m2 hee.symm
      · exact hno _ (List.mem_append.2 (.inl m1)) ⟨by omega, by omega⟩
    · rcases h2.mem e' he' with m2 | m2
      · exact hno _ (List.mem_append.2 (.inr m2)) ⟨by omega, by omega⟩
      · omega
  · rcases List.mem_append.1 hi with hi | hi
    · obtain ⟨e, he, h⟩ := h1.all i hi; exact ⟨e, List.mem_append.2 (.inl he), h⟩
    · obtain ⟨e, he, h⟩ := h2.all i hi; exact ⟨e, List.mem_append.2 (.inr he), h⟩
  · rcases List.mem_append.1 he with he | he
    · rcases h1.mem e he with m1 | m1
      · exact h1.old e he m1
      · exact absurd ⟨m1.1, by omega⟩ (hno _ hi)
    · rcases h2.mem e he with m2 | m2
      · exact h2.old e he m2
      · exact absurd ⟨by omega, by omega⟩ (hno _ hi)

theorem Ids.one {i ver : Nat} {b : Blk} {p : Option Pl} (h : verOf hp i = ver) (hb : ∀ cs', b ≠ .box cs') (hv : ∀ j, verOf [(j, b)] j = ver + 1) : Ids hp μ [(i, b, p)] [i] n 1 :=
  ⟨fun e he => .inl (by rw [List.mem_singleton.1 he]; simp), fun _ _ => by simp, fun j hj => ⟨_, List.mem_singleton.2 rfl, (List.mem_singleton.1 hj).symm⟩, fun e he _ => by
    obtain rfl := List.mem_singleton.1 he
    exact .inr (.inl ⟨hb, fun j => by rw [h]; exact hv j⟩)⟩
theorem Ids.new {b : Blk} {p : Option Pl} : Ids hp μ [(n, b, p)] [] n 1 :=
  ⟨fun e he => .inr (by rw [List.mem_singleton.1 he]; simp), fun _ _ => by simp, by simp, by simp⟩

theorem outC_ok {c : C} {x : BC} {v : Value} {r : List Nat} {own : Bool} (hb : bcK hp c fun _ => True) (h : BCOk S w x v r) (n : Nat) :
    ∃ L : List E, L.map (fun e => (e.1, e.2.1)) = (outC own n c x).2 ∧ L.filterMap E.blk = r ∧ (∀ e ∈ L, EOk S w e) ∧ Ids hp μ L (ownsC c) n L.length ∧
      ∀ al' hp' S' μ', Fits al' hp' μ' L → (own = false → ∀ a v, S a = some v → S' a = some v) → COk al' hp' S' μ' (outC own n c x).1 v := by
  have hver : ∀ i v o m, c = .own i v o m → verOf hp i = v := fun i v o m e => by
    subst e
    unfold bcK at hb
    split at hb <;> first | (rename_i e; cases e; done) | skip
    · rename_i i' v' n' e
      simp only [C.own.injEq] at e
      obtain ⟨rfl, rfl, rfl, rfl⟩ := e
      split at hb
      · rename_i sz es v' hf
        split at hb
        · rename_i hv; simp only [beq_iff_eq] at hv; simp [verOf, hf, hv]
        · exact hb.elim
      · exact hb.elim
    · exact hb.elim
  have htx : ∀ {x : T} {al' hp' S' μ'}, BCOk S w (.t x) v r → (own = false → ∀ a v, S a = some v → S' a = some v) → COk al' hp' S' μ' (if own && !x.scal then .undef else .t x) v := fun {x al' hp' S' μ'} h hS => by
    obtain ⟨_, h2, h3⟩ := h
    split
    · trivial
    · rename_i hc
      cases own with
      | false => exact ⟨h2.mono (hS rfl), h3⟩
      | true => exact ⟨h2.scal (by simpa using hc), h3⟩
  have hfroz : ∀ i v, verOf hp i = v → ∀ sz, Ids hp μ [((i, .froz sz [] (v + 1), none) : E)] [i] n 1 := fun i v hv sz => Ids.one hv (by simp) (fun j => by simp [verOf, find])
  cases x with
  | t x =>
    have hr : r = [] := h.1
    subst hr
    cases c with
    | own i ver o m => exact ⟨[(i, .froz 0 [] (ver + 1), none)], rfl, rfl, by simp [EOk], hfroz _ _ (hver _ _ _ _ rfl) 0, fun al' hp' S' μ' _ hS => htx h hS⟩
    | _ => exact ⟨[], rfl, rfl, by simp, Ids.nil, fun al' hp' S' μ' _ hS => htx h hS⟩
  | nil sz =>
    obtain ⟨rfl, rfl⟩ := h
    cases c with
    | own i ver o m => exact ⟨[(i, .froz 0 [] (ver + 1), none)], rfl, rfl, by simp [EOk], hfroz _ _ (hver _ _ _ _ rfl) 0, fun al' hp' S' μ' _ hS => rfl⟩
    | _ => exact ⟨[], rfl, rfl, by simp, Ids.nil, fun al' hp' S' μ' _ hS => rfl⟩
  | arr sz es =>
    have hone := BCOk.one h
    cases c with
    | own i ver o m =>
      obtain ⟨p, h1, h2, h3, h4⟩ := bc_arr h i (ver + 1)
      refine ⟨[(i, .arr sz es (ver + 1), p)], rfl, by rw [← h1]; cases p <;> simp [E.blk, Blk.live], by simpa using h2, Ids.one (hver _ _ _ _ rfl) (by simp) (fun j => by simp [verOf, find]), fun al' hp' S' μ' hf _ => ?_⟩
      obtain ⟨f1, f2, f3⟩ := hf _ (List.mem_singleton.2 rfl)
      exact own_fits f1 f2 f3 h3 h4
    | _ =>
      obtain ⟨p, h1, h2, h3, h4⟩ := bc_arr h n 0
      refine ⟨[(n, .arr sz es 0, p)], rfl, by rw [← h1]; cases p <;> simp [E.blk, Blk.live], by simpa using h2, Ids.new, fun al' hp' S' μ' hf _ => ?_⟩
      obtain ⟨f1, f2, f3⟩ := hf _ (List.mem_singleton.2 rfl)
      exact own_fits f1 f2 f3 h3 h4

theorem bcK_ex {c : C} {K : BC → Prop} (h : bcK hp c K) : ∃ x, K x := by
  unfold bcK at h
  split at h
  · exact ⟨_, h⟩
  · exact ⟨_, h⟩
  · split at h
    · split at h
      · exact ⟨_, h.2.2⟩
      · exact h.elim
    · exact h.elim
  · exact h.elim
theorem bcsK_cons {c : C} {cs : List C} (h : bcsK hp (c :: cs) fun _ => True) : bcK hp c (fun _ => True) ∧ bcsK hp cs fun _ => True := by
  simp only [bcsK] at h
  obtain ⟨x, hx⟩ := bcK_ex h
  exact ⟨bcK_mono (fun _ _ => trivial) h, bcsK_mono (fun _ _ => trivial) hx⟩

theorem outCs_ok {own : Bool} : ∀ {cs : List C} {xs : List BC} {vs : List Value} {r : List Nat} (n k : Nat), (bcsK hp cs fun _ => True) → xs.length = cs.length → BCsOk S w xs vs r → (∀ i ∈ cs.flatMap ownsC, ¬ (n ≤ i ∧ i < n + k)) → (outCs own n cs xs).2.length ≤ k →
    ∃ L : List E, L.map (fun e => (e.1, e.2.1)) = (outCs own n cs xs).2 ∧ L.filterMap E.blk = r ∧ (∀ e ∈ L, EOk S w e) ∧ Ids hp μ L (cs.flatMap ownsC) n L.length ∧ vs.length = cs.length ∧
      ∀ al' hp' S' μ', Fits al' hp' μ' L → (own = false → ∀ a v, S a = some v → S' a = some v) → CsOk al' hp' S' μ' (outCs own n cs xs).1 vs
  | [], xs, vs, r, n, k, _, hl, h, _, _ => by
    have : xs = [] := List.length_eq_zero_iff.1 hl
    subst this
    obtain ⟨rfl, rfl⟩ := h
    exact ⟨[], rfl, rfl, by simp, Ids.nil, rfl, fun _ _ _ _ _ _ => ⟨rfl, by simp, by simp [outCs]⟩⟩
  | c :: cs, [], vs, r, n, k, _, hl, h, _, _ => by simp at hl
  | c :: cs, x :: xs, vs, r, n, k, hb, hl, h, hno, hk => by
    obtain ⟨v, vs', r1, r2, rfl, rfl, h1, h3⟩ := h
    obtain ⟨hb1, hb2⟩ := bcsK_cons hb
    obtain ⟨L1, a1, a2, a3, a4, a5⟩ := outC_ok (own := own) (μ := μ) hb1 h1 n
    have hlen : (outC own n c x).2.length = L1.length := by rw [← a1]; simp
    simp only [outCs, hlen, List.length_append] at hk
    obtain ⟨L2, b1, b2, b3, b4, b5, b6⟩ := outCs_ok (own := own) (n + L1.length) (k - L1.length) hb2 (by simpa using hl) h3 (fun i hi hh => hno i (by rw [List.flatMap_cons]; exact List.mem_append.2 (.inr hi)) ⟨by omega, by omega⟩) (by omega)
    have hl2 : (outCs own (n + L1.length) cs xs).2.length = L2.length := by rw [← b1]; simp
    have hids : Ids hp μ (L1 ++ L2) (ownsC c ++ cs.flatMap ownsC) n (L1 ++ L2).length := by
      rw [List.length_append]
      exact Ids.app a4 b4 (fun i hi hh => hno i (by rw [List.flatMap_cons]; exact hi) ⟨by omega, by omega⟩)
    refine ⟨L1 ++ L2, by simp only [List.map_append, a1, b1, outCs, hlen], by rw [List.filterMap_append, a2, b2], fun e he => ?_, by rw [List.flatMap_cons]; exact hids, by simp [b5], fun al' hp' S' μ' hf hS => ?_⟩
    · rcases List.mem_append.1 he with he | he
      · exact a3 e he
      · exact b3 e he
    · obtain ⟨f1, f2⟩ := hf.app
      have c1 := a5 al' hp' S' μ' f1 hS
      have c2 := b6 al' hp' S' μ' f2 hS
      simp only [outCs, hlen]
      refine ⟨by simp [c2.1], fun u hu => ?_, fun j c u p q => ?_⟩
      · rcases List.mem_cons.1 hu with rfl | hu
        · exact BCOk.one h1
        · exact c2.2.1 u hu
      · cases j with
        | zero => simp at p q; subst p; subst q; exact c1
        | succ j => exact c2.2.2 j c u (by simpa using p) (by simpa using q)
end
end Go.Proofs.YtbmibaopkfenbaaDoor.M

/- A machine of values: each operation does on the machine what is told of it, part 13: calls, the memory behind. No condition. -/
namespace Go.Proofs.YtbmibaopkfenbaaDoor.M
open Go
set_option linter.unusedSimpArgs false
set_option linter.unusedVariables false
set_option linter.unusedSectionVars false

section
variable {P : Program} {τ : Tab} {Γ : Ctx} {al al' : Nat → Prop} {s : St} {a : Act} {w w' : World} {μ : Nat → Option Pl} {n : Nat} {K : AV → List (Nat × Blk) → Prop} {next : Act → World → Prop}
variable {o : Oper} {Q : Exit → Act → World → Prop} {md : Nat → Md} {hp : List (Nat × Blk)} {S S0 S' : Addr → Option Value}

theorem HoldL.scal {ts : List T} {vs : List Value} (h : HoldL S ts vs) (hs : ∀ t ∈ ts, t.scal = true) : HoldL S' ts vs :=
  ⟨h.1, h.2.1, fun j t v a b => (h.2.2 j t v a b).scal (hs t (List.mem_of_getElem? a))⟩
theorem Ids.box {i : Nat} {cs cs' : List C} (h : find hp i = some (.box cs)) : Ids hp μ [(i, .box cs', μ i)] [i] n 0 :=
  ⟨fun e he => .inl (by rw [List.mem_singleton.1 he]; simp), fun _ _ => by simp, fun j hj => ⟨_, List.mem_singleton.2 rfl, (List.mem_singleton.1 hj).symm⟩, fun e he _ => by
    obtain rfl := List.mem_singleton.1 he
    exact .inl ⟨cs, cs', rfl, h, rfl⟩⟩

theorem outsK_plain {own : Bool} {x : AV} {xs : List AV} {os : List (List BC)} (hne : Plain x) : outsK own hp n (x :: xs) os = outsK own hp n xs os := by
  cases x with
  | tup ys => cases os <;> rfl
  | a y =>
    cases y with
    | g cs => cases os <;> rfl
    | c c =>
      cases c with
      | ptr i o => exact absurd rfl (hne.1 i o)
      | clo f i => exact absurd rfl (hne.2.1 f i)
      | mvo k i v n => exact absurd rfl (hne.2.2 k i v n)
      | _ => cases os <;> rfl
theorem outsK_ok {own : Bool} (M : Mem Γ al hp w μ) {bs : List Nat} (hfr : Fr bs w w') : ∀ {xs : List AV} {ys : List AA} {vs : List Value} {os : List (List BC)} {is r : List Nat} (n k : Nat), Gaves hp xs ys is → OutsOk S w' ys vs os r →
    (∀ (j : Nat) x v, xs[j]? = some x → vs[j]? = some v → AVOk al hp (Sv Γ.G hp μ w) μ x v) → vs.length = xs.length → (∀ i ∈ is, ¬ (n ≤ i ∧ i < n + k)) → (outsK own hp n xs os).length ≤ k →
    ∃ (L : List E) (m : Nat), L.map (fun e => (e.1, e.2.1)) = outsK own hp n xs os ∧ L.filterMap E.blk = r ∧ Ids hp μ L is n m ∧ m ≤ L.length ∧
      ∀ al' hp' S' μ', Fits al' hp' μ' L → (own = false → ∀ a v, S a = some v → S' a = some v) → ∀ e ∈ L, BlkOk al' hp' S' μ' w' e.2.1 e.2.2
  | [], [], vs, os, is, r, n, k, hg, ho, _, _, _, _ => by
    obtain rfl := hg
    obtain ⟨rfl, rfl⟩ := ho
    exact ⟨[], 0, rfl, rfl, Ids.nil, Nat.le_refl _, by simp⟩
  | x :: xs, [], vs, os, is, r, n, k, hg, ho, _, _, _, _ => hg.elim
  | [], y :: ys, vs, os, is, r, n, k, hg, ho, _, _, _, _ => hg.elim
  | x :: xs, y :: ys, [], os, is, r, n, k, hg, ho, hx, hl, hno, _ => by simp at hl
  | x :: xs, y :: ys, v :: vs, os, is, r, n, k, hg, ho, hx, hl, hno, hk => by
    obtain ⟨i1, i2, rfl, g1, g2⟩ := hg
    have hx' := fun (j : Nat) x v (p : xs[j]? = some x) (q : vs[j]? = some v) => hx (j + 1) x v (by simpa using p) (by simpa using q)
    have hl' : vs.length = xs.length := by simpa using hl
    have plain : Plain x → i1 = [] → OutsOk S w' ys vs os r → ∃ (L : List E) (m : Nat), L.map (fun e => (e.1, e.2.1)) = outsK own hp n (x :: xs) os ∧ L.filterMap E.blk = r ∧ Ids hp μ L (i1 ++ i2) n m ∧ m ≤ L.length ∧
        ∀ al' hp' S' μ', Fits al' hp' μ' L → (own = false → ∀ a v, S a = some v → S' a = some v) → ∀ e ∈ L, BlkOk al' hp' S' μ' w' e.2.1 e.2.2 := fun hne h0 ho' => by
      subst h0
      have hK := outsK_plain (own := own) (hp := hp) (n := n) (xs := xs) (os := os) hne
      rw [hK] at hk ⊢
      exact outsK_ok M hfr n k g2 ho' hx' hl' hno hk
    cases y with
    | mb bcs =>
      obtain ⟨i, cs, rfl, hb, hbl, rfl, hbc⟩ := g1
      obtain ⟨o1, os', b, r1, r2, rfl, hol, rfl, hv, hbox, ho'⟩ := ho
      obtain ⟨p, hp1, hp2⟩ := (hx 0 _ _ rfl rfl).2.2 _ hb
      rw [hv] at hp2
      simp only [Value.pointer.injEq, Option.some.injEq, Addr.mk.injEq, and_true] at hp2
      subst hp2
      obtain ⟨ws, hC, hc⟩ := hbox
      have hK : outsK own hp n (.a (.c (.ptr i 0)) :: xs) (o1 :: os') = (i, .box (outCs own n cs o1).1) :: (outCs own n cs o1).2 ++ outsK own hp (n + (outCs own n cs o1).2.length) xs os' := by simp [outsK, hb]
      rw [hK] at hk ⊢
      simp only [List.cons_append, List.length_cons, List.length_append] at hk
      obtain ⟨L1, a1, a2, a3, a4, a5, a6⟩ := outCs_ok (own := own) (μ := μ) n k hbc (by rw [hol, hbl]) hC (fun j hj => hno j (by simp [hj])) (by omega)
      have hlen : (outCs own n cs o1).2.length = L1.length := by rw [← a1]; simp
      rw [hlen] at hk ⊢
      obtain ⟨L2, m2, b1, b2, b3, b4, b5⟩ := outsK_ok (own := own) M hfr (n + L1.length) (k - L1.length) g2 ho' hx' hl' (fun j hj hh => hno j (by simp [hj]) ⟨by omega, by omega⟩) (by omega)
      have hl2 : (outsK own hp (n + L1.length) xs os').length = L2.length := by rw [← b1]; simp
      have hB := M.blk _ _ hb
      rw [hp1] at hB
      have hids1 : Ids hp μ ((i, .box (outCs own n cs o1).1, μ i) :: L1) (i :: cs.flatMap ownsC) n L1.length := by
        have := Ids.app (m1 := 0) (m2 := L1.length) (Ids.box (μ := μ) (n := n) (cs' := (outCs own n cs o1).1) hb) a4 (fun j hj hh => hno j (by simp at hj ⊢; rcases hj with hj | hj; (· exact .inl hj); (· exact .inr (.inl hj))) ⟨by omega, by omega⟩)
        simpa using this
      refine ⟨((i, .box (outCs own n cs o1).1, μ i) :: L1) ++ L2, L1.length + m2, by simp [a1, b1], ?_, Ids.app hids1 b3 (fun j hj hh => hno j hj ⟨by omega, by omega⟩), by simp; omega, fun al' hp' S' μ' hf hS e he => ?_⟩
      · rw [List.filterMap_append, List.filterMap_cons, a2, b2]
        simp [E.blk, Blk.live, hp1]
      · obtain ⟨f1, f2⟩ := hf.app
        have f3 : Fits al' hp' μ' L1 := fun e he => f1 e (by simp [he])
        rcases List.mem_append.1 he with he | he
        · rcases List.mem_cons.1 he with rfl | he
          · show BlkOk al' hp' S' μ' w' (.box (outCs own n cs o1).1) (μ i)
            rw [hp1]
            exact ⟨hB.1, ws, a6 al' hp' S' μ' f3 hS, hc⟩
          · exact (a3 e he).blk
        · exact b5 al' hp' S' μ' f2 hS e he
    | clo f bcs =>
      obtain ⟨i, cs, rfl, hb, hbl, rfl, hbc⟩ := g1
      obtain ⟨o1, os', b, r1, r2, rfl, hol, rfl, hv, hbox, ho'⟩ := ho
      obtain ⟨p, hp1, hp2⟩ := (hx 0 _ _ rfl rfl).2.2 _ hb
      rw [hv] at hp2
      simp only [Value.func.injEq, Array.mk.injEq, List.cons.injEq, Value.pointer.injEq, Option.some.injEq, Addr.mk.injEq, and_true, true_and] at hp2
      subst hp2
      obtain ⟨ws, hC, hc⟩ := hbox
      have hK : outsK own hp n (.a (.c (.clo f i)) :: xs) (o1 :: os') = (i, .box (outCs own n cs o1).1) :: (outCs own n cs o1).2 ++ outsK own hp (n + (outCs own n cs o1).2.length) xs os' := by simp [outsK, hb]
      rw [hK] at hk ⊢
      simp only [List.cons_append, List.length_cons, List.length_append] at hk
      obtain ⟨L1, a1, a2, a3, a4, a5, a6⟩ := outCs_ok (own := own) (μ := μ) n k hbc (by rw [hol, hbl]) hC (fun j hj => hno j (by simp [hj])) (by omega)
      have hlen : (outCs own n cs o1).2.length = L1.length := by rw [← a1]; simp
      rw [hlen] at hk ⊢
      obtain ⟨L2, m2, b1, b2, b3, b4, b5⟩ := outsK_ok (own := own) M hfr (n + L1.length) (k - L1.length) g2 ho' hx' hl' (fun j hj hh => hno j (by simp [hj]) ⟨by omega, by omega⟩) (by omega)
      have hl2 : (outsK own hp (n + L1.length) xs os').length = L2.length := by rw [← b1]; simp
      have hB := M.blk _ _ hb
      rw [hp1] at hB
      have hids1 : Ids hp μ ((i, .box (outCs own n cs o1).1, μ i) :: L1) (i :: cs.flatMap ownsC) n L1.length := by
        have := Ids.app (m1 := 0) (m2 := L1.length) (Ids.box (μ := μ) (n := n) (cs' := (outCs own n cs o1).1) hb) a4 (fun j hj hh => hno j (by simp at hj ⊢; rcases hj with hj | hj; (· exact .inl hj); (· exact .inr (.inl hj))) ⟨by omega, by omega⟩)
        simpa using this
      refine ⟨((i, .box (outCs own n cs o1).1, μ i) :: L1) ++ L2, L1.length + m2, by simp [a1, b1], ?_, Ids.app hids1 b3 (fun j hj hh => hno j hj ⟨by omega, by omega⟩), by simp; omega, fun al' hp' S' μ' hf hS e he => ?_⟩
      · rw [List.filterMap_append, List.filterMap_cons, a2, b2]
        simp [E.blk, Blk.live, hp1]
      · obtain ⟨f1, f2⟩ := hf.app
        have f3 : Fits al' hp' μ' L1 := fun e he => f1 e (by simp [he])
        rcases List.mem_append.1 he with he | he
        · rcases List.mem_cons.1 he with rfl | he
          · show BlkOk al' hp' S' μ' w' (.box (outCs own n cs o1).1) (μ i)
            rw [hp1]
            exact ⟨hB.1, ws, a6 al' hp' S' μ' f3 hS, hc⟩
          · exact (a3 e he).blk
        · exact b5 al' hp' S' μ' f2 hS e he
    | v y => exact plain g1.1 g1.2 ho
    | nilp => exact plain g1.1 g1.2 ho
    | fn f => exact plain g1.1 g1.2 ho
    | mv sz es =>
      obtain ⟨i, v0, n0, rfl, hb, rfl⟩ := g1
      have hK : outsK own hp n (.a (.c (.mvo true i v0 n0)) :: xs) os = (i, .froz 0 [] (v0 + 1)) :: outsK own hp n xs os := by cases os <;> rfl
      rw [hK] at hk ⊢
      simp only [List.length_cons] at hk
      obtain ⟨L2, m2, b1, b2, b3, b4, b5⟩ := outsK_ok (own := own) M hfr n (k - 1) g2 ho hx' hl' (fun j hj hh => hno j (by simp [hj]) ⟨by omega, by omega⟩) (by omega)
      have hl2 : (outsK own hp n xs os).length = L2.length := by rw [← b1]; simp
      have hids1 : Ids hp μ [((i, .froz 0 [] (v0 + 1), none) : E)] [i] n 0 :=
        ⟨fun e he => .inl (by rw [List.mem_singleton.1 he]; simp), fun _ _ => by simp, fun j hj => ⟨_, List.mem_singleton.2 rfl, (List.mem_singleton.1 hj).symm⟩, fun e he _ => by
          obtain rfl := List.mem_singleton.1 he
          exact .inr (.inl ⟨by simp, fun j => by simp [verOf, find, hb]⟩)⟩
      have h2 := Ids.app (m1 := 0) (m2 := m2) hids1 b3 (fun j hj hh => hno j hj ⟨by omega, by omega⟩)
      rw [Nat.zero_add] at h2
      refine ⟨(i, .froz 0 [] (v0 + 1), none) :: L2, m2, by simp [b1], by simp [E.blk, Blk.live, b2], h2, by simp; omega, fun al' hp' S' μ' hf hS e he => ?_⟩
      rcases List.mem_cons.1 he with rfl | he
      · rfl
      · exact b5 al' hp' S' μ' (fun e he => hf e (by simp [he])) hS e he
    | ln sz es =>
      obtain ⟨i, v0, n0, rfl, hb, hn0, hpos, rfl⟩ := g1
      obtain ⟨es', os', r1, r2, rfl, hel, rfl, ⟨b, base, room, cap, rfl, hv, c1, c2, c3, hArr⟩, ho'⟩ := ho
      have hK : outsK own hp n (.a (.c (.mvo false i v0 n0)) :: xs) ([.arr sz es'] :: os') = (i, .arr sz es' v0) :: outsK own hp n xs os' := rfl
      rw [hK] at hk ⊢
      simp only [List.length_cons] at hk
      obtain ⟨L2, m2, b1, b2, b3, b4, b5⟩ := outsK_ok (own := own) M hfr n (k - 1) g2 ho' hx' hl' (fun j hj hh => hno j (by simp [hj]) ⟨by omega, by omega⟩) (by omega)
      have hl2 : (outsK own hp n xs os').length = L2.length := by rw [← b1]; simp
      have hA : arrOf hp i v0 = some (sz, es) := by simp [arrOf, hb]
      obtain ⟨_, h5⟩ := (hx 0 _ _ rfl rfl).2.2 _ _ hA
      have hB := M.blk _ _ hb
      cases hp1 : μ i with
      | none =>
        rw [hp1] at h5
        obtain ⟨_, h6, _⟩ := h5
        omega
      | some p =>
        rw [hp1] at h5 hB
        obtain ⟨ad, cap', hv', h7, h8, h9⟩ := h5
        rw [hv] at hv'
        simp only [Value.slice.injEq, Option.some.injEq] at hv'
        obtain ⟨hv1, hv2, hv3⟩ := hv'
        rcases h7 with h7 | h7
        · rw [h7] at hv1
          simp only [Addr.mk.injEq, and_true] at hv1
          obtain ⟨rfl, hbase⟩ := hv1
          have hbase' : base = p.base := by omega
          subst hbase'
          have hids1 : Ids hp μ [((i, .arr sz es' v0, μ i) : E)] [i] n 0 :=
            ⟨fun e he => .inl (by rw [List.mem_singleton.1 he]; simp), fun _ _ => by simp, fun j hj => ⟨_, List.mem_singleton.2 rfl, (List.mem_singleton.1 hj).symm⟩, fun e he _ => by
              obtain rfl := List.mem_singleton.1 he
              exact .inr (.inr ⟨sz, es, es', v0, rfl, hb, by omega, rfl⟩)⟩
          have h2 := Ids.app (m1 := 0) (m2 := m2) hids1 b3 (fun j hj hh => hno j hj ⟨by omega, by omega⟩)
          rw [Nat.zero_add] at h2
          refine ⟨(i, .arr sz es' v0, μ i) :: L2, m2, by simp [b1], by simp [E.blk, Blk.live, hp1, b2], h2, by simp; omega, fun al' hp' S' μ' hf hS e he => ?_⟩
          rcases List.mem_cons.1 he with rfl | he
          · show BlkOk al' hp' S' μ' w' (.arr sz es' v0) (μ i)
            rw [hp1]
            obtain ⟨vs1, d1, d2, d3, d4, d5⟩ := hArr
            obtain ⟨_, _, _, _, _, e5⟩ := hB
            refine ⟨vs1, d1.scal c3, d2, d3, ?_, fun j hj => ?_⟩
            · rw [d1.1, flat_length d3]
              have h10 : cap * sz ≤ p.room := by rw [Nat.zero_add] at h9; rw [hv3]; exact h9
              exact Nat.le_trans (Nat.mul_le_mul_right _ c1) h10
            · obtain ⟨f1, f2⟩ := e5 j hj
              exact ⟨hfr.stay _ f1, hfr.unfr _ f1 f2⟩
          · exact b5 al' hp' S' μ' (fun e he => hf e (by simp [he])) hS e he
        · omega
end
end Go.Proofs.YtbmibaopkfenbaaDoor.M

/- A machine of values: each operation does on the machine what is told of it, part 14: calls. No condition. -/
namespace Go.Proofs.YtbmibaopkfenbaaDoor.M
open Go
set_option linter.unusedSimpArgs false
set_option linter.unusedVariables false
set_option linter.unusedSectionVars false

theorem verOf_find {hp : List (Nat × Blk)} {i : Nat} {b : Blk} (h : find hp i = some b) (j : Nat) : verOf hp i = verOf [(j, b)] j := by simp [verOf, h, find]
theorem arrOf_ver {hp : List (Nat × Blk)} {i v : Nat} {x : Nat × List T} (h : arrOf hp i v = some x) : v = verOf hp i := by
  unfold arrOf at h
  unfold verOf
  split at h
  · rename_i hb; split at h
    · rename_i hv; simpa [hb] using hv
    · cases h
  · rename_i hb; split at h
    · rename_i hv; simpa [hb] using hv
    · cases h
  · cases h

section
variable {P : Program} {τ : Tab} {Γ : Ctx} {al al' : Nat → Prop} {s : St} {a : Act} {w w' : World} {μ μ' : Nat → Option Pl} {n : Nat} {K : AV → List (Nat × Blk) → Prop} {next : Act → World → Prop}
variable {o : Oper} {Q : Exit → Act → World → Prop} {md : Nat → Md} {hp hp' : List (Nat × Blk)} {S S0 S' : Addr → Option Value}

theorem blk_inj {L : List E} (hnd : (L.filterMap E.blk).Nodup) (hid : ∀ e ∈ L, ∀ e' ∈ L, e.1 = e'.1 → e = e') {e e' : E} (he : e ∈ L) (he' : e' ∈ L) {b : Nat} (h : e.blk = some b) (h' : e'.blk = some b) : e = e' := by
  induction L with
  | nil => cases he
  | cons x r ih =>
    have key : ∀ e'' ∈ r, e''.blk = some b → x.blk = some b → False := fun e'' h1 h2 h3 => by
      rw [List.filterMap_cons_some h3] at hnd
      exact (List.nodup_cons.1 hnd).1 (List.mem_filterMap.2 ⟨e'', h1, h2⟩)
    have hnd' : (r.filterMap E.blk).Nodup := by
      cases hx : x.blk with
      | none => rwa [List.filterMap_cons_none hx] at hnd
      | some c => rw [List.filterMap_cons_some hx] at hnd; exact (List.nodup_cons.1 hnd).2
    rcases List.mem_cons.1 he with h1 | h1
    · subst h1
      rcases List.mem_cons.1 he' with h2 | h2
      · exact h2.symm
      · exact (key _ h2 h' h).elim
    · rcases List.mem_cons.1 he' with h2 | h2
      · subst h2; exact (key _ h1 h h').elim
      · exact ih hnd' (fun e he e' he' => hid e (by simp [he]) e' (by simp [he'])) h1 h2

/-- Many blocks at once: what a call leaves. -/
theorem Mem.many (h : Mem Γ al hp w μ) {bs : List Nat} (hf : Fr bs w w') (ha : ∀ i, al i → al' i) {is : List Nat} (hbs : ∀ b ∈ bs, ∃ i ∈ is, live hp i ∧ bOf μ i = some b) {L : List E}
    (hsame : ∀ i, (∀ e ∈ L, e.1 ≠ i) → find hp' i = find hp i ∧ μ' i = μ i) (hfit : Fits al' hp' μ' L) (hall : ∀ i ∈ is, ∃ e ∈ L, e.1 = i)
    (hnd : (L.filterMap E.blk).Nodup) (hid : (L.map (·.1)).Nodup) (hnew : ∀ b ∈ L.filterMap E.blk, b < w'.heap.size ∧ (b ∈ bs ∨ w.heap.size ≤ b))
    (hold : ∀ e ∈ L, al e.1 → (∃ cs cs', e.2.1 = .box cs' ∧ find hp e.1 = some (.box cs) ∧ e.2.2 = μ e.1) ∨ ((∀ cs', e.2.1 ≠ .box cs') ∧ ∀ i, verOf [(i, e.2.1)] i = verOf hp e.1 + 1) ∨
      ∃ sz es es' v, e.2.1 = .arr sz es' v ∧ find hp e.1 = some (.arr sz es v) ∧ es.length ≤ es'.length ∧ e.2.2 = μ e.1)
    (hblk : (∀ a v, Sv Γ.G hp μ w a = some v → Sv Γ.G hp' μ' w' a = some v) → (∀ i p, live hp' i → μ' i = some p → (∃ e ∈ L, e.1 = i ∧ e.blk = some p.b) ∨ (live hp i ∧ μ i = some p ∧ p.b ∉ bs ∧ ∀ e ∈ L, e.1 ≠ i)) → ∀ e ∈ L, BlkOk al' hp' (Sv Γ.G hp' μ' w') μ' w' e.2.1 e.2.2) :
    Mem Γ al' hp' w' μ' ∧ Ext al al' hp hp' (Sv Γ.G hp μ w) (Sv Γ.G hp' μ' w') μ μ' ∧ ∀ i p, live hp' i → μ' i = some p → (∃ e ∈ L, e.1 = i ∧ e.blk = some p.b) ∨ (live hp i ∧ μ i = some p ∧ p.b ∉ bs ∧ ∀ e ∈ L, e.1 ≠ i) := by
  have hin : ∀ i, (∃ e ∈ L, e.1 = i) ∨ ∀ e ∈ L, e.1 ≠ i := fun i => by
    by_cases hh : ∃ e ∈ L, e.1 = i
    · exact .inl hh
    · exact .inr (fun e he h => hh ⟨e, he, h⟩)
  have hone : ∀ e ∈ L, ∀ e' ∈ L, e.1 = e'.1 → e = e' := fun e he e' he' heq => by
    clear hnd hnew hold hblk hfit hsame hall hin
    induction L with
    | nil => cases he
    | cons x r ih =>
      simp only [List.map_cons, List.nodup_cons] at hid
      rcases List.mem_cons.1 he with h1 | h1
      · subst h1
        rcases List.mem_cons.1 he' with h2 | h2
        · exact h2.symm
        · exact absurd (List.mem_map.2 ⟨e', h2, heq.symm⟩) hid.1
      · rcases List.mem_cons.1 he' with h2 | h2
        · subst h2; exact absurd (List.mem_map.2 ⟨e, h1, heq⟩) hid.1
        · exact ih hid.2 h1 h2
  -- a live block behind the call
  have hlive : ∀ i p, live hp' i → μ' i = some p → (∃ e ∈ L, e.1 = i ∧ e.blk = some p.b) ∨ (live hp i ∧ μ i = some p ∧ p.b ∉ bs ∧ ∀ e ∈ L, e.1 ≠ i) := fun i p hl hp' => by
    rcases hin i with ⟨e, he, rfl⟩ | hno
    · obtain ⟨_, f2, f3⟩ := hfit e he
      obtain ⟨b, h1, h2⟩ := hl
      rw [f2] at h1
      obtain rfl := Option.some.inj h1
      rw [f3] at hp'
      exact .inl ⟨e, he, rfl, by simp [E.blk, h2, hp']⟩
    · obtain ⟨h1, h2⟩ := hsame i hno
      have hl' : live hp i := by unfold live at hl ⊢; rwa [h1] at hl
      rw [h2] at hp'
      refine .inr ⟨hl', hp', fun hb => ?_, hno⟩
      obtain ⟨j, hj, hjl, hjb⟩ := hbs _ hb
      simp only [bOf, Option.map_eq_some_iff] at hjb
      obtain ⟨q, hq, hqb⟩ := hjb
      obtain rfl := h.inj i j p q hl' hjl hp' hq hqb.symm
      obtain ⟨e, he, h3⟩ := hall _ hj
      exact hno e he h3
  have hS : ∀ a v, Sv Γ.G hp μ w a = some v → Sv Γ.G hp' μ' w' a = some v := fun a v hv => by
    rw [Sv_some] at hv ⊢
    have hlt := World.block_lt_of_cell? _ _ hv.2
    have hnb : a.block ∉ bs := fun hb => by
      obtain ⟨j, _, hjl, hjb⟩ := hbs _ hb
      simp only [bOf, Option.map_eq_some_iff] at hjb
      obtain ⟨q, hq, hqb⟩ := hjb
      exact hv.1.2 ⟨j, q, hjl, hq, hqb⟩
    refine ⟨⟨hv.1.1, fun ⟨i, p, h1, h2, h3⟩ => ?_⟩, by rw [hf.cell hlt hnb]; exact hv.2⟩
    rcases hlive i p h1 h2 with ⟨e, he, _, heb⟩ | ⟨h4, h5, _⟩
    · rcases (hnew _ (List.mem_filterMap.2 ⟨e, he, heb⟩)).2 with h6 | h6
      · exact hnb (h3 ▸ h6)
      · omega
    · exact hv.1.2 ⟨i, p, h4, h5, h3⟩
  have e : Ext al al' hp hp' (Sv Γ.G hp μ w) (Sv Γ.G hp' μ' w') μ μ' := by
    refine ⟨ha, hS, fun i hi => ?_, fun i ver sz es' hi hver h' => ?_, fun i cs' hi h' => ?_⟩
    · rcases hin i with ⟨e, he, rfl⟩ | hno
      · have hfe := (hfit e he).2.1
        rcases hold e he hi with ⟨cs, cs', h1, h2, _⟩ | ⟨_, h2⟩ | ⟨sz, es, es', v, h1, h2, _⟩
        · simp [verOf, h2]
        · rw [verOf_find hfe 0, h2]; omega
        · rw [h1] at hfe; simp [verOf, h2, hfe]
      · have := (hsame i hno).1
        simp [verOf, this]
    · rcases hin i with ⟨e, he, rfl⟩ | hno
      · have hfe := (hfit e he).2.1
        rcases hold e he hi with ⟨cs, cs', h1, h2, _⟩ | ⟨_, h2⟩ | ⟨sz1, es1, es2, v, h1, h2, h3, h4⟩
        · rw [h1] at hfe; simp [arrOf, hfe] at h'
        · have := arrOf_ver h'
          rw [verOf_find hfe 0, h2] at this
          omega
        · have hv := arrOf_ver h'
          rw [h1] at hfe
          simp only [verOf, hfe] at hv
          subst hv
          simp only [arrOf, hfe, beq_self_eq_true, if_true, Option.some.injEq, Prod.mk.injEq] at h'
          obtain ⟨rfl, rfl⟩ := h'
          exact ⟨es1, by simp [arrOf, h2], h3, by rw [(hfit e he).2.2, h4]⟩
      · obtain ⟨h1, h2⟩ := hsame i hno
        refine ⟨es', ?_, Nat.le_refl _, h2⟩
        unfold arrOf at h' ⊢; rwa [h1] at h'
    · rcases hin i with ⟨e, he, rfl⟩ | hno
      · obtain ⟨_, hfe, hμ⟩ := hfit e he
        rcases hold e he hi with ⟨cs, cs2, h1, h2, h3⟩ | ⟨h1, _⟩ | ⟨_, _, _, _, h1, _⟩
        · exact ⟨cs, h2, by rw [hμ, h3]⟩
        · rw [hfe] at h'; exact absurd (Option.some.inj h') (h1 cs')
        · rw [hfe, h1] at h'; cases h'
      · obtain ⟨h1, h2⟩ := hsame i hno
        exact ⟨cs', by rw [← h1]; exact h', h2⟩
  have hmine : ∀ b ∈ bs, b ∈ Γ.bs0 ∨ Γ.w0.heap.size ≤ b := fun b hb => by
    obtain ⟨j, _, hjl, hjb⟩ := hbs _ hb
    simp only [bOf, Option.map_eq_some_iff] at hjb
    obtain ⟨q, hq, rfl⟩ := hjb
    exact (h.mine j q hjl hq).2
  refine ⟨⟨h.fr.trans hf (fun k hk hlt => ?_), h.gd, h.pin' e, fun i b hb => ?_, fun i p hl hp' => ?_, fun i j p q hi hj hp1 hq1 hpq => ?_, fun i b hb => ?_⟩, e, hlive⟩
  · rcases hmine k hk with h1 | h1
    · exact h1
    · omega
  · rcases hin i with ⟨e, he, rfl⟩ | hno
    · exact (hfit e he).1
    · rw [(hsame i hno).1] at hb; exact ha _ (h.used i b hb)
  · rcases hlive i p hl hp' with ⟨e, he, _, heb⟩ | ⟨h4, h5, _⟩
    · obtain ⟨h1, h2⟩ := hnew _ (List.mem_filterMap.2 ⟨e, he, heb⟩)
      refine ⟨h1, ?_⟩
      rcases h2 with h2 | h2
      · exact hmine _ h2
      · exact .inr (Nat.le_trans h.fr.size h2)
    · obtain ⟨h1, h2⟩ := h.mine i p h4 h5
      exact ⟨Nat.lt_of_lt_of_le h1 hf.size, h2⟩
  · rcases hlive i p hi hp1 with ⟨e1, he1, rfl, hb1⟩ | ⟨g1, g2, g3, _⟩
    · rcases hlive j q hj hq1 with ⟨e2, he2, rfl, hb2⟩ | ⟨k1, k2, k3, _⟩
      · rw [← hpq] at hb2
        rw [blk_inj hnd hone he1 he2 hb1 hb2]
      · rcases (hnew _ (List.mem_filterMap.2 ⟨e1, he1, hb1⟩)).2 with h6 | h6
        · exact absurd (hpq ▸ h6) k3
        · have := (h.mine j q k1 k2).1; omega
    · rcases hlive j q hj hq1 with ⟨e2, he2, rfl, hb2⟩ | ⟨k1, k2, k3, _⟩
      · rcases (hnew _ (List.mem_filterMap.2 ⟨e2, he2, hb2⟩)).2 with h6 | h6
        · exact absurd (hpq ▸ h6) g3
        · have := (h.mine i p g1 g2).1; omega
      · exact h.inj i j p q g1 k1 g2 k2 hpq
  · rcases hin i with ⟨e, he, rfl⟩ | hno
    · obtain ⟨_, f2, f3⟩ := hfit e he
      rw [f2] at hb
      obtain rfl := Option.some.inj hb
      rw [f3]
      exact hblk hS hlive e he
    · obtain ⟨h1, h2⟩ := hsame i hno
      rw [h1] at hb
      rw [h2]
      refine BlkOk.mono e (fun hl p hp' j => ?_) (h.blk i b hb)
      have hl' : live hp i := ⟨b, hb, hl⟩
      have hlt := (h.mine i p hl' hp').1
      have hnb : p.b ∉ bs := fun hbb => by
        obtain ⟨k, hk, hkl, hkb⟩ := hbs _ hbb
        simp only [bOf, Option.map_eq_some_iff] at hkb
        obtain ⟨q, hq, hqb⟩ := hkb
        obtain rfl := h.inj i k p q hl' hkl hp' hq hqb.symm
        obtain ⟨e, he, h3⟩ := hall _ hk
        exact hno e he h3
      exact ⟨hf.cell hlt hnb, hf.frozen hlt hnb⟩
end
end Go.Proofs.YtbmibaopkfenbaaDoor.M

/- A machine of values: each operation does on the machine what is told of it, part 15: calls. No condition. -/
namespace Go.Proofs.YtbmibaopkfenbaaDoor.M
open Go
set_option linter.unusedSimpArgs false
set_option linter.unusedVariables false
set_option linter.unusedSectionVars false

def updH (hp : List (Nat × Blk)) : List (Nat × Blk) → List (Nat × Blk)
  | [] => hp
  | (i, b) :: r => updH (put hp i b) r
theorem upd_hp : ∀ (u : List (Nat × Blk)) (s : St), (s.upd u).hp = updH s.hp u
  | [], s => rfl
  | (i, b) :: r, s => by rw [St.upd, upd_hp r]; rfl
theorem updH_app : ∀ (u v : List (Nat × Blk)) (hp : List (Nat × Blk)), updH hp (u ++ v) = updH (updH hp u) v
  | [], v, hp => rfl
  | (i, b) :: r, v, hp => by rw [List.cons_append, updH, updH_app r v, updH]
theorem updH_none : ∀ (u : List (Nat × Blk)) (hp : List (Nat × Blk)) (i : Nat), (∀ e ∈ u, e.1 ≠ i) → find (updH hp u) i = find hp i
  | [], hp, i, _ => rfl
  | (j, b) :: r, hp, i, h => by
    rw [updH, updH_none r _ i (fun e he => h e (by simp [he])), find_put, if_neg (h (j, b) (by simp))]
theorem updH_mem : ∀ (u : List (Nat × Blk)) (hp : List (Nat × Blk)), (u.map (·.1)).Nodup → ∀ e ∈ u, find (updH hp u) e.1 = some e.2
  | [], hp, _, e, he => by cases he
  | (j, b) :: r, hp, h, e, he => by
    simp only [List.map_cons, List.nodup_cons] at h
    rw [updH]
    rcases List.mem_cons.1 he with he | he
    · subst he
      rw [updH_none r _ _ (fun e he heq => h.1 (List.mem_map.2 ⟨e, he, heq⟩)), find_put, if_pos rfl]
    · exact updH_mem r _ h.2 e he
theorem put_same {α : Type} : ∀ (l : List (Nat × α)) (i : Nat) (v : α), find l i = some v → put l i v = l
  | [], i, v, h => by simp [find] at h
  | (k, x) :: r, i, v, h => by
    simp only [find] at h
    simp only [put]
    by_cases hk : k = i
    · rw [if_pos hk] at h ⊢
      subst hk
      rw [Option.some.inj h]
    · rw [if_neg hk] at h ⊢
      rw [put_same r i v h]

section
variable {P : Program} {τ : Tab} {Γ : Ctx} {al al' al'' : Nat → Prop} {s : St} {a : Act} {w w' : World} {μ μ' μ'' : Nat → Option Pl} {n : Nat} {K : AV → List (Nat × Blk) → Prop} {next : Act → World → Prop}
variable {o : Oper} {Q : Exit → Act → World → Prop} {md : Nat → Md} {hp hp' hp'' : List (Nat × Blk)} {S S0 S' S'' : Addr → Option Value}

theorem Ext.trans (h : Ext al al' hp hp' S S' μ μ') (k : Ext al' al'' hp' hp'' S' S'' μ' μ'') : Ext al al'' hp hp'' S S'' μ μ'' := by
  refine ⟨fun i hi => k.hal _ (h.hal _ hi), fun a v hv => k.hS _ _ (h.hS _ _ hv), fun i hi => Nat.le_trans (h.ver i hi) (k.ver i (h.hal _ hi)), fun i ver sz es' hi hv h' => ?_, fun i cs' hi h' => ?_⟩
  · obtain ⟨e1, h1, h2, h3⟩ := k.arr i ver sz es' (h.hal _ hi) (Nat.le_trans hv (h.ver i hi)) h'
    obtain ⟨e2, h4, h5, h6⟩ := h.arr i ver sz e1 hi hv h1
    exact ⟨e2, h4, Nat.le_trans h5 h2, by rw [h3, h6]⟩
  · obtain ⟨c1, h1, h2⟩ := k.box i cs' (h.hal _ hi) h'
    obtain ⟨c2, h3, h4⟩ := h.box i c1 hi h1
    exact ⟨c2, h3, by rw [h2, h4]⟩
theorem Ext.refl : Ext al al hp hp S S μ μ := ⟨fun _ h => h, fun _ _ h => h, fun _ _ => Nat.le_refl _, fun i ver sz es' _ _ h => ⟨es', h, Nat.le_refl _, rfl⟩, fun i cs' _ h => ⟨cs', h, rfl⟩⟩

theorem Mem.freeze1 (h : Mem Γ al hp w μ) {i sz v : Nat} {es : List T} (hb : find hp i = some (.arr sz es v)) :
    Mem Γ al (put hp i (.froz sz es v)) w μ ∧ Ext al al hp (put hp i (.froz sz es v)) (Sv Γ.G hp μ w) (Sv Γ.G (put hp i (.froz sz es v)) μ w) μ μ := by
  have hlive : ∀ j, live (put hp i (.froz sz es v)) j → live hp j ∧ i ≠ j := fun j hj => by
    rw [live_put] at hj
    by_cases hij : i = j
    · rw [if_pos hij] at hj; simp [Blk.live] at hj
    · rw [if_neg hij] at hj; exact ⟨hj, hij⟩
  have hli : live hp i := ⟨_, hb, rfl⟩
  have hS : ∀ a v', Sv Γ.G hp μ w a = some v' → Sv Γ.G (put hp i (.froz sz es v)) μ w a = some v' := fun a v' hv => by
    rw [Sv_some] at hv ⊢
    exact ⟨⟨hv.1.1, fun ⟨j, q, h1, h2, h3⟩ => hv.1.2 ⟨j, q, (hlive j h1).1, h2, h3⟩⟩, hv.2⟩
  have e : Ext al al hp (put hp i (.froz sz es v)) (Sv Γ.G hp μ w) (Sv Γ.G (put hp i (.froz sz es v)) μ w) μ μ := by
    refine ⟨fun _ h => h, hS, fun j _ => ?_, fun j ver sz' es' _ _ h' => ?_, fun j cs' _ h' => ?_⟩
    · by_cases hij : i = j
      · subst hij; simp [verOf, find_put, hb]
      · rw [verOf_put_ne hij]; exact Nat.le_refl _
    · by_cases hij : i = j
      · subst hij
        refine ⟨es', ?_, Nat.le_refl _, rfl⟩
        simp only [arrOf, find_put, if_true] at h'
        simp only [arrOf, hb]; exact h'
      · rw [arrOf_put_ne hij] at h'; exact ⟨es', h', Nat.le_refl _, rfl⟩
    · rw [find_put] at h'
      by_cases hij : i = j
      · rw [if_pos hij] at h'; cases h'
      · rw [if_neg hij] at h'; exact ⟨cs', h', rfl⟩
  refine ⟨⟨h.fr, h.gd, h.pin' e, fun j b hb' => ?_, fun j p hj hp => h.mine j p (hlive j hj).1 hp, fun j k p q hj hk hp hq hpq => h.inj j k p q (hlive j hj).1 (hlive k hk).1 hp hq hpq, fun j b hb' => ?_⟩, e⟩
  · rw [find_put] at hb'
    by_cases hij : i = j
    · subst hij; exact h.used _ _ hb
    · rw [if_neg hij] at hb'; exact h.used _ _ hb'
  · rw [find_put] at hb'
    by_cases hij : i = j
    · subst hij
      rw [if_pos rfl] at hb'
      obtain rfl := Option.some.inj hb'
      have hB := h.blk i _ hb
      cases hp : μ i with
      | none => rw [hp] at hB; exact hB
      | some p =>
        rw [hp] at hB
        obtain ⟨vs, h1, h2, h3, _⟩ := hB
        refine ⟨vs, h1.mono hS, fun j u hj => ?_, h3⟩
        rw [add_mk, Sv_some]
        refine ⟨⟨h.gd _ (h.mine i p hli hp).2, fun ⟨k, q, g1, g2, g3⟩ => ?_⟩, h2 j u hj⟩
        obtain ⟨g4, g5⟩ := hlive k g1
        exact g5 (h.inj i k p q hli g4 hp g2 g3.symm)
    · rw [if_neg hij] at hb'
      exact BlkOk.mono e (fun _ _ _ _ => ⟨rfl, rfl⟩) (h.blk j b hb')

theorem freeze_ok (hp0 : List (Nat × Blk)) : ∀ (ids : List Nat) {hp : List (Nat × Blk)}, Mem Γ al hp w μ → (∀ i, find hp i = find hp0 i ∨ ∃ sz es v, find hp0 i = some (.arr sz es v) ∧ find hp i = some (.froz sz es v)) →
    Mem Γ al (updH hp (freeze hp0 ids)) w μ ∧ Ext al al hp (updH hp (freeze hp0 ids)) (Sv Γ.G hp μ w) (Sv Γ.G (updH hp (freeze hp0 ids)) μ w) μ μ ∧
      (∀ i, find (updH hp (freeze hp0 ids)) i = find hp0 i ∨ ∃ sz es v, find hp0 i = some (.arr sz es v) ∧ find (updH hp (freeze hp0 ids)) i = some (.froz sz es v)) ∧
      ∀ i, (find hp i = find hp0 i ∧ i ∉ ids → find (updH hp (freeze hp0 ids)) i = find hp0 i) ∧ (∀ sz es v, find hp0 i = some (.arr sz es v) → (i ∈ ids ∨ find hp i = some (.froz sz es v)) → find (updH hp (freeze hp0 ids)) i = some (.froz sz es v))
  | [], hp, M, hh => ⟨M, Ext.refl, hh, fun i => ⟨fun h => h.1, fun sz es v _ h => by
      rcases h with h | h
      · cases h
      · exact h⟩⟩
  | i :: ids, hp, M, hh => by
    unfold freeze
    split
    · rename_i sz es v h0
      rw [updH]
      have step : ∃ _ : Mem Γ al (put hp i (.froz sz es v)) w μ, Ext al al hp (put hp i (.froz sz es v)) (Sv Γ.G hp μ w) (Sv Γ.G (put hp i (.froz sz es v)) μ w) μ μ := by
        rcases hh i with h1 | ⟨sz', es', v', h1, h2⟩
        · obtain ⟨m, e⟩ := M.freeze1 (h1.trans h0); exact ⟨m, e⟩
        · rw [h0] at h1
          obtain ⟨rfl, rfl, rfl⟩ := Blk.arr.inj (Option.some.inj h1)
          rw [put_same _ _ _ h2]; exact ⟨M, Ext.refl⟩
      obtain ⟨m, e⟩ := step
      have hh' : ∀ j, find (put hp i (.froz sz es v)) j = find hp0 j ∨ ∃ sz1 es1 v1, find hp0 j = some (.arr sz1 es1 v1) ∧ find (put hp i (.froz sz es v)) j = some (.froz sz1 es1 v1) := fun j => by
        simp only [find_put]
        by_cases hij : i = j
        · subst hij; exact .inr ⟨_, _, _, h0, by rw [if_pos rfl]⟩
        · simp only [if_neg hij]; exact hh j
      obtain ⟨g1, g2, g3, g4⟩ := freeze_ok hp0 ids m hh'
      refine ⟨g1, e.trans g2, g3, fun j => ⟨fun h => ?_, fun sz' es' v' h1 h2 => ?_⟩⟩
      · refine (g4 j).1 ⟨?_, fun hj => h.2 (by simp [hj])⟩
        have hij : i ≠ j := fun hij => h.2 (by simp [hij])
        rw [find_put, if_neg hij]; exact h.1
      · refine (g4 j).2 _ _ _ h1 ?_
        by_cases hij : i = j
        · subst hij
          rw [h0] at h1
          obtain ⟨rfl, rfl, rfl⟩ := Blk.arr.inj (Option.some.inj h1)
          exact .inr (by rw [find_put, if_pos rfl])
        · rcases h2 with h2 | h2
          · rcases List.mem_cons.1 h2 with h2 | h2
            · exact absurd h2.symm hij
            · exact .inl h2
          · exact .inr (by rw [find_put, if_neg hij]; exact h2)
    · rename_i hno
      obtain ⟨g1, g2, g3, g4⟩ := freeze_ok hp0 ids M hh
      refine ⟨g1, g2, g3, fun j => ⟨fun h => (g4 j).1 ⟨h.1, fun hj => h.2 (by simp [hj])⟩, fun sz' es' v' h1 h2 => (g4 j).2 _ _ _ h1 ?_⟩⟩
      rcases h2 with h2 | h2
      · rcases List.mem_cons.1 h2 with h2 | h2
        · subst h2; exact absurd h1 (hno _ _ _)
        · exact .inl h2
      · exact .inr h2
end
end Go.Proofs.YtbmibaopkfenbaaDoor.M

/- A machine of values: a call does on the machine what is told of it. No condition. -/
namespace Go.Proofs.YtbmibaopkfenbaaDoor.M
open Go
set_option linter.unusedSimpArgs false
set_option linter.unusedVariables false
set_option linter.unusedSectionVars false

section
variable {P : Program} {τ : Tab} {Γ : Ctx} {al al' al'' : Nat → Prop} {s : St} {a : Act} {w w' : World} {μ μ' μ'' : Nat → Option Pl} {n : Nat} {K : AV → List (Nat × Blk) → Prop} {next : Act → World → Prop}
variable {o : Oper} {Q : Exit → Act → World → Prop} {md : Nat → Md} {hp hp' hp'' : List (Nat × Blk)} {S S0 S' S'' : Addr → Option Value}

theorem nodup_of_B : ∀ {l : List Nat}, nodupB l = true → l.Nodup
  | [], _ => List.nodup_nil
  | x :: r, h => by
    simp only [nodupB, Bool.and_eq_true, Bool.not_eq_true', List.contains_eq_mem, decide_eq_false_iff_not] at h
    exact List.nodup_cons.2 ⟨h.1, nodup_of_B h.2⟩

theorem bOf_nodup (M : Mem Γ al hp w μ) : ∀ {is : List Nat}, is.Nodup → (∀ i ∈ is, live hp i) → (is.filterMap (bOf μ)).Nodup
  | [], _, _ => by simp
  | i :: is, h, hl => by
    obtain ⟨h1, h2⟩ := List.nodup_cons.1 h
    have ih := bOf_nodup M h2 (fun j hj => hl j (by simp [hj]))
    cases hb : bOf μ i with
    | none => rw [List.filterMap_cons_none hb]; exact ih
    | some b =>
      rw [List.filterMap_cons_some hb]
      refine List.nodup_cons.2 ⟨fun hm => ?_, ih⟩
      obtain ⟨j, hj, hjb⟩ := List.mem_filterMap.1 hm
      simp only [bOf, Option.map_eq_some_iff] at hb hjb
      obtain ⟨p, hp1, hp2⟩ := hb
      obtain ⟨q, hq1, hq2⟩ := hjb
      have := M.inj i j p q (hl i (by simp)) (hl j (by simp [hj])) hp1 hq1 (by rw [hp2, hq2])
      exact h1 (this ▸ hj)

/-- The memory behind a call, and its results. -/
theorem call_after {own : Bool} (MF : Mem Γ al hp' w μ) (eF : Ext al al hp hp' (Sv Γ.G hp μ w) (Sv Γ.G hp' μ w) μ μ) (M : Mem Γ al hp w μ) (hn : ∀ k, k < 16 → ¬ al (n + k)) {G : Nat → Prop} {bs is : List Nat} {xs : List AV} {ys : List AA} {vs : List Value} {rs : List T} {os : List (List BC)} {v : Value} {r1 r2 : List Nat}
    (hnd : is.Nodup) (hlive : ∀ i ∈ is, live hp i) (hsame : ∀ i ∈ is, find hp' i = find hp i) (hbs : ∀ b ∈ bs, b ∈ is.filterMap (bOf μ)) (hG : ∀ b, G b → b < w.heap.size ∧ b ∉ bs)
    (hG2 : own = false → ∀ b, G b → Γ.G b ∧ ¬ ∃ i p, live hp' i ∧ μ i = some p ∧ p.b = b)
    (hgave : Gaves hp xs ys is) (hx : ∀ (j : Nat) x v, xs[j]? = some x → vs[j]? = some v → AVOk al hp (Sv Γ.G hp μ w) μ x v) (hvl : vs.length = xs.length)
    (hf : Fr bs w w') (hR : ResOk own (inV (fun b => G b ∨ (w.heap.size ≤ b ∨ b ∈ bs) ∧ b ∉ r1 ++ r2) w') w' rs v r1) (hO : OutsOk (inV (fun b => G b ∨ (w.heap.size ≤ b ∨ b ∈ bs) ∧ b ∉ r1 ++ r2) w') w' ys vs os r2)
    (hrn : (r1 ++ r2).Nodup) (hrb : ∀ b ∈ r1 ++ r2, b < w'.heap.size ∧ (b ∈ bs ∨ w.heap.size ≤ b))
    (hlen : ((impR own n rs).2 ++ outsK own hp (n + (impR own n rs).2.length) xs os).length ≤ 16) :
    ∃ μ', Mem Γ (al16 al n) (updH hp' ((impR own n rs).2 ++ outsK own hp (n + (impR own n rs).2.length) xs os)) w' μ' ∧
      Ext al (al16 al n) hp (updH hp' ((impR own n rs).2 ++ outsK own hp (n + (impR own n rs).2.length) xs os)) (Sv Γ.G hp μ w) (Sv Γ.G (updH hp' ((impR own n rs).2 ++ outsK own hp (n + (impR own n rs).2.length) xs os)) μ' w') μ μ' ∧
      AVOk (al16 al n) (updH hp' ((impR own n rs).2 ++ outsK own hp (n + (impR own n rs).2.length) xs os)) (Sv Γ.G (updH hp' ((impR own n rs).2 ++ outsK own hp (n + (impR own n rs).2.length) xs os)) μ' w') μ' (impR own n rs).1 v := by
  obtain ⟨L1, a1, a2, a4, a5⟩ := impR_ok hR n
  have hl1 : (impR own n rs).2.length = L1.length := by rw [← a1]; simp
  rw [List.length_append, hl1] at hlen
  rw [hl1]
  have hal : ∀ i ∈ is, al i := fun i hi => by obtain ⟨b, hb, _⟩ := hlive i hi; exact M.used i b hb
  have hno : ∀ i ∈ is, ¬ (n ≤ i ∧ i < n + 16) := fun i hi hh => hn (i - n) (by omega) (by rw [show n + (i - n) = i by omega]; exact hal i hi)
  obtain ⟨L2, m2, b1, b2, b3, b4, b5⟩ := outsK_ok (own := own) M hf (n + L1.length) (16 - L1.length) hgave hO hx hvl (fun i hi hh => hno i hi ⟨by omega, by omega⟩) (by omega)
  have hl2 : (outsK own hp (n + L1.length) xs os).length = L2.length := by rw [← b1]; simp
  have hmap : (impR own n rs).2 ++ outsK own hp (n + L1.length) xs os = (L1 ++ L2).map (fun e => (e.1, e.2.1)) := by rw [List.map_append, a1, b1]
  rw [hmap]
  have hid : ((L1 ++ L2).map (·.1)).Nodup := by
    rw [List.map_append, a4]
    refine List.nodup_append.2 ⟨List.nodup_range', b3.nd hnd (fun i hi hh => hno i hi ⟨by omega, by omega⟩), fun x hx y hy hxy => ?_⟩
    subst hxy
    rw [List.mem_range'_1] at hx
    obtain ⟨e, he, rfl⟩ := List.mem_map.1 hy
    rcases b3.mem e he with h | h
    · exact hno _ h ⟨by omega, by omega⟩
    · omega
  have hids : ∀ e ∈ L1 ++ L2, e.1 ∈ is ∨ (n ≤ e.1 ∧ e.1 < n + 16) := fun e he => by
    rcases List.mem_append.1 he with he | he
    · have : e.1 ∈ L1.map (·.1) := List.mem_map.2 ⟨e, he, rfl⟩
      rw [a4, List.mem_range'_1] at this
      exact .inr ⟨by omega, by omega⟩
    · rcases b3.mem e he with h | h
      · exact .inl h
      · exact .inr ⟨by omega, by omega⟩
  -- the places behind
  let μ' : Nat → Option Pl := fun i => match (L1 ++ L2).find? (fun e => e.1 == i) with | some e => e.2.2 | none => μ i
  have hone : ∀ {L : List E}, (L.map (·.1)).Nodup → ∀ e ∈ L, L.find? (fun e' => e'.1 == e.1) = some e := fun {L} => by
    induction L with
    | nil => intro _ e he; cases he
    | cons x r ih =>
      intro hnd e he
      simp only [List.map_cons, List.nodup_cons] at hnd
      rcases List.mem_cons.1 he with h1 | h1
      · subst h1; simp
      · have : (x.1 == e.1) = false := by
          simp only [beq_eq_false_iff_ne]; exact fun hh => hnd.1 (List.mem_map.2 ⟨e, h1, hh.symm⟩)
        rw [List.find?_cons, this]
        exact ih hnd.2 e h1
  have hμ : ∀ e ∈ L1 ++ L2, μ' e.1 = e.2.2 := fun e he => by
    show (match (L1 ++ L2).find? (fun e' => e'.1 == e.1) with | some e => e.2.2 | none => μ e.1) = e.2.2
    rw [hone hid e he]
  have hμno : ∀ i, (∀ e ∈ L1 ++ L2, e.1 ≠ i) → μ' i = μ i := fun i hh => by
    have : (L1 ++ L2).find? (fun e' => e'.1 == i) = none := List.find?_eq_none.2 (fun e he => by simpa using hh e he)
    show (match (L1 ++ L2).find? (fun e' => e'.1 == i) with | some e => e.2.2 | none => μ i) = μ i
    rw [this]
  have hfit : Fits (al16 al n) (updH hp' ((L1 ++ L2).map (fun e => (e.1, e.2.1)))) μ' (L1 ++ L2) := fun e he => by
    refine ⟨?_, ?_, hμ e he⟩
    · rcases hids e he with h | h
      · exact .inl (hal _ h)
      · exact .inr h
    · exact updH_mem _ _ (by rw [List.map_map]; exact hid) (e.1, e.2.1) (List.mem_map.2 ⟨e, he, rfl⟩)
  have hblks : (L1 ++ L2).filterMap E.blk = r1 ++ r2 := by rw [List.filterMap_append, a2, b2]
  have hbs' : ∀ b ∈ bs, ∃ i ∈ is, live hp' i ∧ bOf μ i = some b := fun b hb => by
    obtain ⟨i, hi, hib⟩ := List.mem_filterMap.1 (hbs b hb)
    obtain ⟨bk, h1, h2⟩ := hlive i hi
    exact ⟨i, hi, ⟨bk, by rw [hsame i hi]; exact h1, h2⟩, hib⟩
  have hSub : own = false → (∀ i p, live (updH hp' ((L1 ++ L2).map (fun e => (e.1, e.2.1)))) i → μ' i = some p → (∃ e ∈ L1 ++ L2, e.1 = i ∧ e.blk = some p.b) ∨ (live hp' i ∧ μ i = some p ∧ p.b ∉ bs ∧ ∀ e ∈ L1 ++ L2, e.1 ≠ i)) →
      ∀ a v, inV (fun b => G b ∨ (w.heap.size ≤ b ∨ b ∈ bs) ∧ b ∉ r1 ++ r2) w' a = some v → Sv Γ.G (updH hp' ((L1 ++ L2).map (fun e => (e.1, e.2.1)))) μ' w' a = some v := fun ho hlv a v hv => by
    rw [inV_some] at hv
    rw [Sv_some]
    refine ⟨⟨?_, fun ⟨i, p, h1, h2, h3⟩ => ?_⟩, hv.2⟩
    · rcases hv.1 with h | ⟨h | h, _⟩
      · exact (hG2 ho _ h).1
      · exact MF.gd _ (.inr (Nat.le_trans MF.fr.size h))
      · obtain ⟨i, hi, hil, hib⟩ := hbs' _ h
        simp only [bOf, Option.map_eq_some_iff] at hib
        obtain ⟨p, hp1, hp2⟩ := hib
        rw [← hp2]; exact MF.gd _ (MF.mine i p hil hp1).2
    · rcases hlv i p h1 h2 with ⟨e, he, _, heb⟩ | ⟨h4, h5, h6, _⟩
      · have hr : a.block ∈ r1 ++ r2 := by rw [← h3, ← hblks]; exact List.mem_filterMap.2 ⟨e, he, heb⟩
        rcases hv.1 with h | h
        · obtain ⟨g1, g2⟩ := hG _ h
          rcases (hrb _ hr).2 with h7 | h7
          · exact g2 h7
          · omega
        · exact h.2 hr
      · rcases hv.1 with h | ⟨h | h, _⟩
        · exact (hG2 ho _ h).2 ⟨i, p, h4, h5, h3⟩
        · have := (MF.mine i p h4 h5).1; omega
        · exact h6 (h3 ▸ h)
  obtain ⟨M', e', hlv⟩ := MF.many (al' := al16 al n) (hp' := updH hp' ((L1 ++ L2).map (fun e => (e.1, e.2.1)))) (μ' := μ') hf (fun _ h => .inl h) hbs' (L := L1 ++ L2)
    (fun i hi => ⟨updH_none _ _ _ (fun e he => by obtain ⟨e', he', rfl⟩ := List.mem_map.1 he; exact hi e' he'), hμno i hi⟩) hfit
    (fun i hi => by obtain ⟨e, he, h⟩ := b3.all i hi; exact ⟨e, List.mem_append.2 (.inr he), h⟩) (by rw [hblks]; exact hrn) hid (fun b hb => by rw [hblks] at hb; exact hrb b hb)
    (fun e he hale => by
      have hmem : e.1 ∈ is := by
        rcases hids e he with h | h
        · exact h
        · exact absurd hale (by rw [show e.1 = n + (e.1 - n) by omega]; exact hn _ (by omega))
      have he2 : e ∈ L2 := by
        rcases List.mem_append.1 he with h | h
        · have : e.1 ∈ L1.map (·.1) := List.mem_map.2 ⟨e, h, rfl⟩
          rw [a4, List.mem_range'_1] at this
          exact absurd ⟨by omega, by omega⟩ (hno _ hmem)
        · exact h
      rcases b3.old e he2 hmem with ⟨cs, cs', h1, h2, h3⟩ | ⟨h1, h2⟩ | ⟨sz, es, es', v, h1, h2, h3⟩
      · exact .inl ⟨cs, cs', h1, by rw [hsame _ hmem]; exact h2, h3⟩
      · refine .inr (.inl ⟨h1, fun i => ?_⟩)
        have : verOf hp' e.1 = verOf hp e.1 := by simp [verOf, hsame _ hmem]
        rw [this]; exact h2 i
      · exact .inr (.inr ⟨sz, es, es', v, h1, by rw [hsame _ hmem]; exact h2, h3⟩))
    (fun _ hlv e he => by
      rcases List.mem_append.1 he with h | h
      · exact (a5 _ _ _ _ hfit.app.1 (fun ho => hSub ho hlv)).2 e h
      · exact b5 _ _ _ _ hfit.app.2 (fun ho => hSub ho hlv) e h)
  exact ⟨μ', M', eF.trans e', (a5 _ _ _ _ hfit.app.1 (fun ho => hSub ho hlv)).1⟩

theorem argsK_box : ∀ {xs : List AV} {K : List AA → List Nat → Prop}, argsK hp xs K → ∀ i, .a (.c (.ptr i 0)) ∈ xs → ∃ cs, find hp i = some (.box cs)
  | [], K, h, i, hi => by cases hi
  | x :: xs, K, h, i, hi => by
    simp only [argsK] at h
    rcases List.mem_cons.1 hi with rfl | hi
    · unfold argK at h
      simp only at h
      split at h
      · rename_i cs hb; exact ⟨cs, hb⟩
      · exact h.elim
    · obtain ⟨⟨y, hy⟩, _⟩ := argK_ids h
      exact argsK_box hy i hi
theorem tagL_ptr {mv : List Nat} {i : Nat} : ∀ {xs : List AV} {k : Nat}, .a (.c (.ptr i 0)) ∈ xs → .a (.c (.ptr i 0)) ∈ tagL mv k xs
  | [], k, h => by cases h
  | x :: r, k, h => by
    simp only [tagL, List.mem_cons]
    rcases List.mem_cons.1 h with rfl | h
    · left; cases (mv.contains k || mv.contains (k + 100)) <;> rfl
    · exact .inr (tagL_ptr h)
theorem zip_eval : ∀ (xs : List Operand) (ts : List TypeId), xs.length = ts.length → ∀ (j : Nat) x v, ((xs.zip ts).map fun x => s.eval τ x.2 x.1)[j]? = some x → (xs.map a.eval)[j]? = some v →
    ∃ t y, x = s.eval τ t y ∧ v = a.eval y
  | [], _, _, j, x, v, h1, h2 => by simp at h2
  | y :: xs, [], h, _, _, _, _, _ => by simp at h
  | y :: xs, t :: ts, h, 0, x, v, h1, h2 => by simp at h1 h2; exact ⟨t, y, h1.symm, h2.symm⟩
  | y :: xs, t :: ts, h, j + 1, x, v, h1, h2 => zip_eval xs ts (by simpa using h) j x v (by simpa using h1) (by simpa using h2)

/-- A call of a function with these values. -/
theorem call_ok' (R : Rel Γ al s a w μ) (hn : ∀ k, k < 16 → ¬ al (n + k)) {g : FuncId} {avs : List AV} {vals : List Value} (h : callK' P md g s.hp n avs K) (hvals : ∀ (j : Nat) x v, avs[j]? = some x → vals[j]? = some v → AVOk al s.hp (Sv Γ.G s.hp μ w) μ x v)
    (hvl : vals.length = avs.length) (hrun0 : (execOp a.eval o).run P w = (callFunc g vals.toArray).run P w) (N : Nxt Γ al s a w μ n o.dst K next) : o.wp P a w next Q := by
  unfold callK' at h
  obtain ⟨⟨ys0, hK0⟩, hlive0⟩ := argsK_ids h
  split at hK0
  · rename_i hck
    simp only [Bool.and_eq_true, List.all_eq_true, Bool.not_eq_true', List.contains_eq_mem, decide_eq_false_iff_not] at hck
    obtain ⟨hnd0, hdis⟩ := hck
    have hnd := nodup_of_B hnd0
    -- the state that is frozen where it must be
    obtain ⟨hpF, MF, eF, hsameF, hfrozF, hliveF, hpFeq⟩ : ∃ hpF, Mem Γ al hpF w μ ∧ Ext al al s.hp hpF (Sv Γ.G s.hp μ w) (Sv Γ.G hpF μ w) μ μ ∧ (∀ i, i ∉ avs.flatMap ownsA → find hpF i = find s.hp i) ∧
        ((md g).own = false → ∀ i ∈ avs.flatMap ownsA, ∀ sz es v, find s.hp i = some (.arr sz es v) → find hpF i = some (.froz sz es v)) ∧ (∀ i, live hpF i → live s.hp i) ∧ hpF = updH s.hp (if (md g).own then [] else freeze s.hp (avs.flatMap ownsA)) := by
      cases hmd : (md g).own with
      | true => exact ⟨s.hp, R.mem, Ext.refl, fun _ _ => rfl, fun h => (by cases h), fun _ h => h, rfl⟩
      | false =>
        obtain ⟨m1, e1, h0, h1⟩ := freeze_ok s.hp (avs.flatMap ownsA) R.mem (fun i => .inl rfl)
        refine ⟨_, m1, e1, fun i hi => (h1 i).1 ⟨rfl, hi⟩, fun _ i hi sz es v hf => (h1 i).2 sz es v hf (.inl hi), fun i ⟨b, h2, h3⟩ => ?_, rfl⟩
        rcases h0 i with h4 | ⟨_, _, _, _, h4⟩
        · exact ⟨b, h4 ▸ h2, h3⟩
        · rw [h4] at h2; obtain rfl := Option.some.inj h2; cases h3
    -- what the callee may look at
    let G : Nat → Prop := fun b => b < w.heap.size ∧ (∀ i ∈ avs.flatMap (boxId s.hp), bOf μ i ≠ some b) ∧ ((md g).own = false → Γ.G b ∧ ¬ ∃ i p, live hpF i ∧ μ i = some p ∧ p.b = b)
    have hS : ∀ a v, Sv Γ.G s.hp μ w a = some v → inV G w a = some v := fun a v hv => by
      have hv' := eF.hS a v hv
      rw [Sv_some] at hv hv'
      rw [inV_some]
      refine ⟨⟨World.block_lt_of_cell? _ _ hv.2, fun i hi hb => ?_, fun _ => hv'.1⟩, hv.2⟩
      simp only [bOf, Option.map_eq_some_iff] at hb
      obtain ⟨p, hp1, hp2⟩ := hb
      exact hv.1.2 ⟨i, p, hlive0 i hi, hp1, hp2⟩
    have hown : ∀ i ∈ avs.flatMap ownsA, (∃ sz es v, find s.hp i = some (.arr sz es v)) → ∀ p, μ i = some p → ∀ a, a.block = p.b → ∀ v, w.cell? a = some v → inV G w a = some v := fun i hi ⟨sz, es, v, hb⟩ p hp a ha v hv => by
      have hli : live s.hp i := ⟨_, hb, rfl⟩
      rw [inV_some]
      refine ⟨⟨World.block_lt_of_cell? _ _ hv, fun j hj hjb => ?_, fun hmd => ⟨?_, fun ⟨j, q, h1, h2, h3⟩ => ?_⟩⟩, hv⟩
      · simp only [bOf, Option.map_eq_some_iff] at hjb
        obtain ⟨q, hq1, hq2⟩ := hjb
        have := R.mem.inj i j p q hli (hlive0 j hj) hp hq1 (by rw [hq2, ha])
        subst this
        exact hdis i hi hj
      · rw [ha]; exact R.mem.gd _ (R.mem.mine i p hli hp).2
      · have := R.mem.inj i j p q hli (hliveF j h1) hp h2 (by rw [h3, ha])
        subst this
        obtain ⟨bj, hbj, hbl⟩ := h1
        rw [hfrozF hmd i hi _ _ _ hb] at hbj
        obtain rfl := Option.some.inj hbj
        cases hbl
    obtain ⟨ys, is, r, hK1, hA, hrs, hlive, hgave⟩ := argsK_ok R.mem hS h hvl hvals hown
    have his := hgave.ids
    subst his
    rw [if_pos (by simp only [Bool.and_eq_true, List.all_eq_true, Bool.not_eq_true', List.contains_eq_mem, decide_eq_false_iff_not]; exact ⟨hnd0, hdis⟩)] at hK1
    obtain ⟨rs, os, hCS, hK2⟩ := hK1
    dsimp only at hK2
    by_cases hle : ((impR ((md g).own) n rs).2 ++ outsK ((md g).own) s.hp (n + (impR ((md g).own) n rs).2.length) avs os).length ≤ 16
    · rw [if_pos (decide_eq_true hle)] at hK2
      have hnotown : ∀ i ∈ avs.flatMap (boxId s.hp), i ∉ avs.flatMap ownsA := fun i hi ho => hdis i ho hi
      have hrb : ∀ b ∈ r, b ∈ (avs.flatMap (boxId s.hp)).filterMap (bOf μ) := fun b hb => hrs.subset hb
      have hrlt : ∀ b ∈ r, b < w.heap.size ∧ ¬ G b := fun b hb => by
        obtain ⟨i, hi, hib⟩ := List.mem_filterMap.1 (hrb b hb)
        refine ⟨?_, fun hg => hg.2.1 i hi hib⟩
        simp only [bOf, Option.map_eq_some_iff] at hib
        obtain ⟨p, hp1, rfl⟩ := hib
        exact (R.mem.mine i p (hlive i hi) hp1).1
      have hC := hCS G w vals r hA (hrs.nodup (bOf_nodup R.mem hnd hlive)) hrlt ⟨fun b hb => hb.1, R.mem.ginv, fun b hb => ⟨(R.mem.gb hb).2.1, fun i hi hh => by
        simp only [bOf, Option.map_eq_some_iff] at hh
        obtain ⟨p, hp1, hp2⟩ := hh
        exact (R.mem.gb hb).2.2 i p (hlive0 i hi) hp1 hp2, fun _ => ⟨(R.mem.gb hb).1, fun ⟨i, p, h1, h2, h3⟩ => (R.mem.gb hb).2.2 i p (hliveF i h1) h2 h3⟩⟩⟩
      have fin : ∀ v w', (∃ r1 r2, Fr r w w' ∧ ResOk ((md g).own) (inV (fun b => G b ∨ (w.heap.size ≤ b ∨ b ∈ r) ∧ b ∉ r1 ++ r2) w') w' rs v r1 ∧
          OutsOk (inV (fun b => G b ∨ (w.heap.size ≤ b ∨ b ∈ r) ∧ b ∉ r1 ++ r2) w') w' ys vals os r2 ∧ (r1 ++ r2).Nodup ∧ ∀ b ∈ r1 ++ r2, b < w'.heap.size ∧ (b ∈ r ∨ w.heap.size ≤ b)) → next (a.put o.dst v) w' := fun v w' ⟨r1, r2, c1, c2, c3, c4, c5⟩ => by
        obtain ⟨μ', d1, d2, d3⟩ := call_after (own := (md g).own) MF eF R.mem hn hnd hlive (fun i hi => hsameF i (hnotown i hi)) hrb (fun b hb => ⟨hb.1, fun hr => (hrlt b hr).2 hb⟩) (fun hmd b hb => hb.2.2 hmd) hgave hvals hvl c1 c2 c3 c4 c5 hle
        have e : updH hpF ((impR ((md g).own) n rs).2 ++ outsK ((md g).own) s.hp (n + (impR ((md g).own) n rs).2.length) avs os) = (s.upd ((if (md g).own then [] else freeze s.hp (avs.flatMap ownsA)) ++ ((impR ((md g).own) n rs).2 ++ outsK ((md g).own) s.hp (n + (impR ((md g).own) n rs).2.length) avs os))).hp := by
          rw [hpFeq, ← updH_app, ← upd_hp]
        rw [e] at d1 d2 d3
        exact N _ _ v w' μ' hK2 d1 d2 d3
      rcases hC with ⟨hrun, hcalls⟩ | ⟨v, w', hrun, hv⟩
      · unfold Oper.wp
        rw [hrun0, hrun]
        refine hcalls.mono fun e w' ⟨v, he, hv⟩ => ?_
        subst he
        exact fin v w' hv
      · exact wp_val (by rw [hrun0]; exact hrun) (fin v w' hv)
    · rw [if_neg (by simpa using hle)] at hK2; exact hK2.elim
  · exact hK0.elim

theorem tagV_ok {b k : Bool} {x : AV} {v : Value} {S : Addr → Option Value} (h : AVOk al hp S μ x v) : AVOk al hp S μ (tagV b k x) v := by
  cases b with
  | false => cases x <;> exact h
  | true =>
    rcases x with ((c | g) | tt)
    · cases c with
      | own i v' o m =>
        cases o with
        | zero => exact h
        | succ o => exact h
      | nil sz =>
        obtain rfl : v = .slice none 0 0 := h
        cases k with
        | true => exact ⟨.nils sz, rfl⟩
        | false => rfl
      | _ => exact h
    · exact h
    · exact h
theorem tagL_length {mv : List Nat} : ∀ {xs : List AV} {k : Nat}, (tagL mv k xs).length = xs.length
  | [], _ => rfl
  | x :: r, k => by simp [tagL, tagL_length]
theorem tagL_get {mv : List Nat} : ∀ {xs : List AV} {k j : Nat} {y : AV}, (tagL mv k xs)[j]? = some y → ∃ x b k, xs[j]? = some x ∧ y = tagV b k x
  | [], k, j, y, h => by simp [tagL] at h
  | x :: r, k, 0, y, h => by simp [tagL] at h; exact ⟨x, _, _, rfl, h.symm⟩
  | x :: r, k, j + 1, y, h => tagL_get (xs := r) (k := k + 1) (by simpa [tagL] using h)
theorem call_ok (R : Rel Γ al s a w μ) (hn : ∀ k, k < 16 → ¬ al (n + k)) {g : FuncId} {avs : List AV} {vals : List Value} (h : callK P md g s.hp n avs K) (hvals : ∀ (j : Nat) x v, avs[j]? = some x → vals[j]? = some v → AVOk al s.hp (Sv Γ.G s.hp μ w) μ x v)
    (hvl : vals.length = avs.length) (hrun0 : (execOp a.eval o).run P w = (callFunc g vals.toArray).run P w) (N : Nxt Γ al s a w μ n o.dst K next) : o.wp P a w next Q :=
  call_ok' R hn h (fun j y v hy hv => by
    obtain ⟨x, b, k, h1, rfl⟩ := tagL_get hy
    exact tagV_ok (hvals j x v h1 hv)) (by rw [tagL_length]; exact hvl) hrun0 N
theorem op_call (R : Rel Γ al s a w μ) (hn : ∀ k, k < 16 → ¬ al (n + k)) {f : Operand} {xs : Array Operand} {ts : Array TypeId} (ho : o.op = .call ⟨.value f, xs, ts⟩) (h : op P τ md o s n K) (N : Nxt Γ al s a w μ n o.dst K next) : o.wp P a w next Q := by
  have hf0 := eval_ok (τ := τ) R 0 f
  have hvals : ∀ (hlen' : xs.toList.length = ts.toList.length) (j : Nat) x v, ((xs.toList.zip ts.toList).map fun x => s.eval τ x.2 x.1)[j]? = some x → (xs.toList.map a.eval)[j]? = some v → AVOk al s.hp (Sv Γ.G s.hp μ w) μ x v := fun hlen' j x v p q => by
    obtain ⟨t, y, rfl, rfl⟩ := zip_eval (τ := τ) (s := s) (a := a) xs.toList ts.toList hlen' j x v p q
    exact eval_ok (τ := τ) R t y
  have e : xs.map a.eval = (xs.toList.map a.eval).toArray := by cases xs; simp
  simp only [op, ho] at h
  split at h
  · rename_i g he
    rw [he] at hf0
    have hfv : a.eval f = .func (.func g) #[] #[] := hf0
    split at h
    · rename_i hlen
      have hlen' : xs.toList.length = ts.toList.length := by simpa using hlen
      exact call_ok R hn h (hvals hlen') (by simp only [List.length_map, List.length_zip, hlen', Nat.min_self]) (by simp [execOp, ho, resolve, hfv, Deferred.ofValue, invoke, e]) N
    · exact h.elim
  · rename_i g i he
    rw [he] at hf0
    split at h
    · rename_i hlen
      have hlen' : xs.toList.length = ts.toList.length := by simpa using hlen
      have hbox : ∃ cs, find s.hp i = some (.box cs) := by
        have h' := h
        unfold callK callK' at h'
        exact argsK_box h' i (tagL_ptr (by simp))
      obtain ⟨cs, hb⟩ := hbox
      obtain ⟨p, hp1, hfv⟩ := hf0.2.2 cs hb
      refine call_ok R hn h (vals := xs.toList.map a.eval ++ [.pointer (some ⟨p.b, 0, none⟩)]) (fun j x v hx hv => ?_) (by simp only [List.length_append, List.length_map, List.length_zip, hlen', Nat.min_self, List.length_cons, List.length_nil]) (by simp [execOp, ho, resolve, hfv, Deferred.ofValue, invoke, e]) N
      by_cases hj : j < xs.toList.length
      · rw [List.getElem?_append_left (by simp only [List.length_map, List.length_zip, hlen', Nat.min_self]; omega)] at hx
        rw [List.getElem?_append_left (by simpa using hj)] at hv
        exact hvals hlen' j x v hx hv
      · have hl1 : ((xs.toList.zip ts.toList).map fun x => s.eval τ x.2 x.1).length = xs.toList.length := by simp only [List.length_map, List.length_zip, hlen', Nat.min_self]
        rw [List.getElem?_append_right (by rw [hl1]; omega), hl1] at hx
        rw [List.getElem?_append_right (by rw [List.length_map]; omega), List.length_map] at hv
        have hj0 : j - xs.toList.length = 0 := by
          have := (List.getElem?_eq_some_iff.1 hv).1
          simp at this; omega
        rw [hj0] at hx hv
        obtain rfl := Option.some.inj hx
        obtain rfl := Option.some.inj hv
        exact ⟨hf0.1, rfl, fun cs' hb' => ⟨p, hp1, rfl⟩⟩
    · exact h.elim
  · exact h.elim
end
end Go.Proofs.YtbmibaopkfenbaaDoor.M

/- A machine of values: what is reckoned of code holds of the machine. No condition. -/
namespace Go.Proofs.YtbmibaopkfenbaaDoor.M
open Go
set_option linter.unusedSimpArgs false
set_option linter.unusedVariables false
set_option linter.unusedSectionVars false

section
variable {P : Program} {τ : Tab} {Γ : Ctx} {al : Nat → Prop} {s : St} {a : Act} {w : World} {μ : Nat → Option Pl} {n : Nat} {K : AV → List (Nat × Blk) → Prop} {next : Act → World → Prop}
variable {o : Oper} {Q : Exit → Act → World → Prop} {md : Nat → Md}

theorem op_sound (hτ : TOk P τ) (R : Rel Γ al s a w μ) (hn : ∀ k, k < 16 → ¬ al (n + k)) (h : op P τ md o s n K) (N : Nxt Γ al s a w μ n o.dst K next) : o.wp P a w next Q := by
  have hn0 : ¬ al n := hn 0 (by omega)
  cases ho : o.op with
  | move x => exact op_move R (.inl ho) (by simpa only [op, ho] using h) N
  | assign x => exact op_move R (.inr ho) (by simpa only [op, ho] using h) N
  | pick c x y => exact op_pick R ho h N
  | alloc t => exact op_alloc hτ R hn0 ho h N
  | box t x => exact op_box R hn0 ho h N
  | build t ps => exact op_build hτ R ho h N
  | buildSlice t l ps => exact op_buildSlice hτ R hn0 ho h N
  | load t x => exact op_load hτ R ho h N
  | store t x y => exact op_store hτ R ho h N
  | nilCheck x => exact op_nilCheck R ho h N
  | binOp b t x y u => exact op_binOp hτ R ho h N
  | unOp u t x => exact op_unOp R ho h N
  | convert t u x => exact op_convert hτ R hn0 ho h N
  | makeSlice t l c => exact op_makeSlice hτ R hn0 ho h N
  | slice t x lo hi mx =>
    cases mx with
    | none => exact op_slice hτ R ho h N
    | some m => simp only [op, ho] at h
  | fieldAddr t x f => exact op_fieldAddr hτ R ho h N
  | field t x f => exact op_field hτ R ho h N
  | indexAddr t x i => exact op_indexAddr hτ R ho h N
  | index t x i => exact op_index hτ R ho h N
  | extract x i => exact op_extract R ho h N
  | call c =>
    obtain ⟨f, xs, ts⟩ := c
    cases f with
    | value f => exact op_call R hn ho h N
    | invoke r m => simp only [op, ho] at h
    | builtin b =>
      cases b with
      | len => exact op_len hτ R ho h N
      | append => exact op_append hτ R hn0 ho h N fun x y t u e sz k m hxs hts hk he1 he2 hz => zeros_ok hτ R hn0 (by rw [ho, hxs, hts]) hk he1 he2 hz N
      | cap => exact op_cap hτ R ho h N
      | min => exact op_min R ho h N
      | max => exact op_max R ho h N
      | copy => exact op_copy hτ R ho h N
      | _ => simp only [op, ho] at h
  | makeFunc f xs ys =>
    cases f with
    | func g =>
      simp only [op, ho] at h
      split at h
      · rename_i hx hy
        obtain rfl : xs = #[] := by cases xs; simp_all
        obtain rfl : ys = #[] := by cases ys; simp_all
        exact N.quiet R (val := .func (.func g) #[] #[]) h rfl |> fun hh => wp_val (by simp [execOp, ho, Instr.makeFunc]) hh
      · rename_i y hx hy
        obtain rfl : xs = #[] := by cases xs; simp_all
        obtain rfl : ys = #[y] := by cases ys; simp_all
        have hy0 := eval_ok (τ := τ) R 0 y
        split at h
        · rename_i i he
          rw [he] at hy0
          split at h
          · rename_i cs hb
            obtain ⟨p, hp1, hv⟩ := hy0.2.2 cs hb
            exact N.quiet R (val := .func (.func g) #[] #[.pointer (some ⟨p.b, 0, none⟩)]) h ⟨hy0.1, rfl, fun cs' _ => ⟨p, hp1, rfl⟩⟩ |> fun hh => wp_val (by simp [execOp, ho, hv, Instr.makeFunc]) hh
          · exact h.elim
        · exact h.elim
      · exact h.elim
    | _ => simp only [op, ho] at h
  | _ => simp only [op, ho] at h

theorem tup0_ok {S : Addr → Option Value} {hp : List (Nat × Blk)} : AVOk al hp S μ (.tup []) undef := ⟨[], rfl, rfl, by simp⟩
theorem want_ok (R : Rel Γ al s a w μ) {ops : Array Oper} {b : Bool} (h : wantA ops s o = some b) : Region.wanted o (yielded ops a.tmps) = b := by
  unfold wantA at h
  unfold Region.wanted
  split at h
  · rename_i hg; rw [hg]; exact Option.some.inj h
  · rename_i j wv hg
    rw [hg]
    rw [Option.map_eq_some_iff] at h
    obtain ⟨b', h1, h2⟩ := h
    unfold yieldA at h1
    split at h1
    · rename_i d hd
      split at h1
      · rename_i b2 hb
        obtain rfl := Option.some.inj h1
        have := R.tmp d
        rw [hb] at this
        have hv := t_bool this.1
        have hv2 : a.tmps[d]? = some (.bool b2) := by
          rw [Array.getD_eq_getD_getElem?] at hv
          cases hh : a.tmps[d]? with
          | none => rw [hh] at hv; cases hv
          | some x => rw [hh] at hv; exact congrArg some hv
        have hy : yielded ops a.tmps j = some b2 := by simp [yielded, hd, hv2]
        simp only [hy, ← h2, isB]
        cases b2 <;> cases wv <;> rfl
      · rename_i hb
        obtain rfl := Option.some.inj h1
        have := R.tmp d
        rw [hb] at this
        obtain ⟨vs, hv, hl, _⟩ := this
        have hv2 : ∀ b, a.tmps[d]? ≠ some (.bool b) := fun b hh => by
          rw [Array.getD_eq_getD_getElem?, hh] at hv; cases hv
        have hy : yielded ops a.tmps j = none := by
          unfold yielded
          simp only [hd, Option.bind_some]
        simp only [hy, ← h2, isB]
        rfl
      · cases h1
    · cases h1

theorem al16_lt (n : Nat) : al16 (· < n) n = (· < n + 16) := by
  funext i; simp only [al16, eq_iff_iff]; omega

theorem upd_N (u : List (Nat × Blk)) : ∀ (s : St), (s.upd u).N = s.N := by
  induction u with
  | nil => intro s; rfl
  | cons x r ih => intro s; obtain ⟨i, b⟩ := x; rw [St.upd, ih]
theorem upd_get (u : List (Nat × Blk)) (t : Nat) : ∀ (s : St), (s.upd u).get t = s.get t := by
  induction u with
  | nil => intro s; rfl
  | cons x r ih => intro s; obtain ⟨i, b⟩ := x; rw [St.upd, ih]; rfl
theorem WOps_sound (hτ : TOk P τ) {ops : Array Oper} {Q : Exit → Act → World → Prop} : ∀ (l : List Oper) (n : Nat) (s : St) (a : Act) (w : World) (μ : Nat → Option Pl) (K : St → Prop), WOps P τ md ops l n s K → Rel Γ (· < n) s a w μ →
    (∀ s' a' w' μ', K s' → Rel Γ (· < s'.nx) s' a' w' μ' → Q .normal a' w') → wpList P ops Q l a w
  | [], n, s, a, w, μ, K, h, R, hK => hK _ _ _ μ h ⟨R.mem, R.size, R.tmp, R.defers⟩
  | o :: l, n, s, a, w, μ, K, h, R, hK => by
    simp only [WOps] at h
    split at h
    · rename_i b hb
      have hw := want_ok R hb
      refine wpList_step (fun K' hK' => ?_)
      rw [hw]
      cases b with
      | true =>
        rw [if_pos rfl]
        refine op_sound hτ R (fun k _ => by omega) (h.1 rfl) (fun v u val w' μ' hk hm he hv => hK' _ _ ?_)
        rw [al16_lt] at hm he hv
        have R' : Rel Γ (· < n + 16) (s.upd u) a w' μ' := ⟨hm, by rw [upd_N]; exact R.size, fun t => by rw [upd_get]; exact (R.tmp t).mono he, R.defers⟩
        exact WOps_sound hτ l (n + 16) _ _ w' μ' K hk (R'.set o.dst v val hv) hK
      | false =>
        rw [if_neg (by simp)]
        refine hK' _ _ ?_
        have hm := R.mem.grow (Fr.refl [] w) (al' := (· < n + 16)) (fun i hi => by omega)
        have R' : Rel Γ (· < n + 16) s a w μ := ⟨hm.1, R.size, fun t => (R.tmp t).mono hm.2, R.defers⟩
        exact WOps_sound hτ l (n + 16) _ _ w μ K (h.2 rfl) (R'.set o.dst (.tup []) undef tup0_ok) hK
    · exact h.elim

theorem W_sound (hτ : TOk P τ) : ∀ (c : Code) (s : St) (Q : X → St → Prop), W P τ md c s Q → WW P c s Q
  | .skip, s, Q, h => fun Γ a w μ R => wp_skip ⟨.normal, s, μ, trivial, h, R⟩
  | .ret, s, Q, h => fun Γ a w μ R => wp_ret ⟨.ret, s, μ, trivial, h, R⟩
  | .exit i, s, Q, h => fun Γ a w μ R => wp_exit ⟨.exit i, s, μ, rfl, h, R⟩
  | .seq c d, s, Q, h => fun Γ a w μ R => by
    refine wp_seq (wp_mono (W_sound hτ c s _ h Γ a w μ R) fun e a' w' ⟨x, s', μ', hx, hq, R'⟩ => ?_)
    cases x with
    | normal =>
      cases e <;> first | exact hx.elim | skip
      exact W_sound hτ d s' Q hq Γ a' w' μ' R'
    | exit i =>
      cases e <;> first | exact hx.elim | skip
      exact ⟨.exit i, s', μ', hx, hq, R'⟩
    | ret =>
      cases e <;> first | exact hx.elim | skip
      exact ⟨.ret, s', μ', hx, hq, R'⟩
  | .cond c x y, s, Q, h => fun Γ a w μ R => by
    simp only [W] at h
    split at h
    · rename_i b hb
      have hv := eval_bool R hb
      exact wp_cond_split hv (fun hb => W_sound hτ x s Q (h.1 hb) Γ a w μ R) (fun hb => W_sound hτ y s Q (h.2 hb) Γ a w μ R)
    · exact h.elim
  | .block i c, s, Q, h => fun Γ a w μ R => by
    refine wp_block (wp_mono (W_sound hτ c s _ h Γ a w μ R) fun e a' w' ⟨x, s', μ', hx, hq, R'⟩ => ?_)
    cases x with
    | normal =>
      cases e <;> first | exact hx.elim | skip
      exact ⟨.normal, s', μ', trivial, hq, R'⟩
    | exit j =>
      obtain ⟨k, rfl⟩ : ∃ k, e = .exit k := by cases e <;> first | exact ⟨_, rfl⟩ | exact hx.elim
      obtain rfl : j = k := hx
      simp only [Exit.inBlock]
      by_cases hji : j = i
      · subst hji
        simp only [beq_self_eq_true, if_true] at hq ⊢
        exact ⟨.normal, s', μ', trivial, hq, R'⟩
      · have : (j == i) = false := by simpa using hji
        simp only [this, Bool.false_eq_true, if_false] at hq
        simp only [hji, if_false]
        exact ⟨.exit j, s', μ', rfl, hq, R'⟩
    | ret =>
      cases e <;> first | exact hx.elim | skip
      exact ⟨.ret, s', μ', trivial, hq, R'⟩
  | .region i ops false, s, Q, h => fun Γ a w μ R => wp_region_list (WOps_sound hτ ops.toList s.nx s a w μ _ h R fun s' a' w' μ' hq R' => ⟨.normal, s', μ', trivial, hq, R'⟩)
  | .region i ops true, s, Q, h => h
  | .loop c, s, Q, h => h
  | .rangeFunc .., s, Q, h => h.elim
  | .scope _, s, Q, h => h.elim
  | .label _, s, Q, h => h.elim
  | .goto _, s, Q, h => h.elim
  | .refuse _, s, Q, h => h.elim

theorem WW.mono {c : Code} {s : St} {Q Q' : X → St → Prop} (h : WW P c s Q) (hq : ∀ x s, Q x s → Q' x s) : WW P c s Q' :=
  fun Γ a w μ R => wp_mono (h Γ a w μ R) fun e a' w' ⟨x, s', μ', hx, hQ, R'⟩ => ⟨x, s', μ', hx, hq _ _ hQ, R'⟩

/-! ### Forgetting, loops -/
def refC (hs : List Nat) : C → Bool
  | .own i _ _ _ => hs.contains i
  | .ptr i _ => hs.contains i
  | .eptr i _ _ _ => hs.contains i
  | .clo _ i => hs.contains i
  | .mvo _ i _ _ => hs.contains i
  | _ => true
def refA (hs : List Nat) (x : A) : Bool := x.cells.all (refC hs)
def refV (hs : List Nat) : AV → Bool
  | .a x => refA hs x
  | .tup xs => xs.all (refA hs)
/-- Only these slots and these blocks are kept; new numbers are taken from n on. -/
def tidy (ks hs : List Nat) (n : Nat) (s : St) : St := { tm := ks.map fun k => (k, s.get k), hp := s.hp.filter fun x => hs.contains x.1, nx := n, N := s.N }
def tidyB (hs : List Nat) (n : Nat) (s : St) : Bool :=
  s.tm.all (fun x => refV hs x.2) && s.hp.all (fun x => match x.2 with | .box cs => cs.all (refC hs) | _ => true) && hs.all (fun i => decide (i < n))

theorem find_filter {α : Type} (p : Nat → Bool) : ∀ (l : List (Nat × α)) (i : Nat), find (l.filter fun x => p x.1) i = if p i = true then find l i else none
  | [], i => by simp [find]
  | (k, v) :: r, i => by
    simp only [List.filter_cons]
    by_cases hk : p k = true
    · simp only [hk, if_true, find]
      by_cases hki : k = i
      · subst hki; simp [hk]
      · simp only [hki, if_false, find_filter p r i]
    · rw [if_neg hk, find_filter p r i]
      by_cases hki : k = i
      · subst hki; rw [if_neg hk, if_neg hk]
      · simp only [find]; rw [if_neg hki]
theorem find_map_get (s : St) : ∀ (ks : List Nat) (t : Nat), find (ks.map fun k => (k, s.get k)) t = if t ∈ ks then some (s.get t) else none
  | [], t => by simp [find]
  | k :: r, t => by
    simp only [List.map_cons, find, find_map_get s r t, List.mem_cons]
    by_cases h : k = t
    · subst h; simp
    · have : t ≠ k := fun e => h e.symm
      simp [h, this]

theorem COk.keep {hs : List Nat} {al al' : Nat → Prop} {hp hp' : List (Nat × Blk)} {S S' : Addr → Option Value} (hal : ∀ i ∈ hs, al' i) (hf : ∀ i ∈ hs, find hp' i = find hp i) (hS : ∀ a v, S a = some v → S' a = some v) {c : C} {v : Value}
    (hc : refC hs c = true) (h : COk al hp S μ c v) : COk al' hp' S' μ c v := by
  have hfa : ∀ i ∈ hs, ∀ v, arrOf hp' i v = arrOf hp i v := fun i hi v => by simp [arrOf, hf i hi]
  have hfv : ∀ i ∈ hs, verOf hp' i = verOf hp i := fun i hi => by simp [verOf, hf i hi]
  cases c with
  | undef => trivial
  | t x => exact ⟨h.1.mono hS, h.2⟩
  | nil sz => exact h
  | nilp => exact h
  | own i ver off len =>
    have hi : i ∈ hs := by simpa [refC] using hc
    exact ⟨⟨hal i hi, by rw [hfv i hi]; exact h.1.2⟩, h.2.1, fun sz es hA => h.2.2 sz es (by rw [← hfa i hi]; exact hA)⟩
  | ptr i off =>
    have hi : i ∈ hs := by simpa [refC] using hc
    exact ⟨hal i hi, h.2.1, fun cs hA => h.2.2 cs (by rw [← hf i hi]; exact hA)⟩
  | eptr i ver ix sb =>
    have hi : i ∈ hs := by simpa [refC] using hc
    exact ⟨⟨hal i hi, by rw [hfv i hi]; exact h.1.2⟩, h.2.1, fun sz es hA => h.2.2 sz es (by rw [← hfa i hi]; exact hA)⟩
  | vptr sz es ix sb => obtain ⟨a, h1, h2⟩ := h; exact ⟨a, h1, h2.mono hS⟩
  | fn f => exact h
  | mvo k i ver len =>
    have hi : i ∈ hs := by simpa [refC] using hc
    exact ⟨⟨hal i hi, by rw [hfv i hi]; exact h.1.2⟩, h.2.1, fun sz es hA => h.2.2 sz es (by rw [← hfa i hi]; exact hA)⟩
  | clo f i =>
    have hi : i ∈ hs := by simpa [refC] using hc
    exact ⟨hal i hi, h.2.1, fun cs hA => h.2.2 cs (by rw [← hf i hi]; exact hA)⟩
theorem CsOk.keep {hs : List Nat} {al al' : Nat → Prop} {hp hp' : List (Nat × Blk)} {S S' : Addr → Option Value} (hal : ∀ i ∈ hs, al' i) (hf : ∀ i ∈ hs, find hp' i = find hp i) (hS : ∀ a v, S a = some v → S' a = some v) {cs : List C} {vs : List Value}
    (hc : cs.all (refC hs) = true) (h : CsOk al hp S μ cs vs) : CsOk al' hp' S' μ cs vs :=
  ⟨h.1, h.2.1, fun j c v a b => COk.keep hal hf hS (List.all_eq_true.1 hc c (List.mem_of_getElem? a)) (h.2.2 j c v a b)⟩
theorem AOk.keep {hs : List Nat} {al al' : Nat → Prop} {hp hp' : List (Nat × Blk)} {S S' : Addr → Option Value} (hal : ∀ i ∈ hs, al' i) (hf : ∀ i ∈ hs, find hp' i = find hp i) (hS : ∀ a v, S a = some v → S' a = some v) {x : A} {v : Value}
    (hc : refA hs x = true) (h : AOk al hp S μ x v) : AOk al' hp' S' μ x v := by
  cases x with
  | c c => exact COk.keep hal hf hS (by simpa [refA, A.cells] using hc) h
  | g cs => obtain ⟨vs, h1, h2⟩ := h; exact ⟨vs, h1, CsOk.keep hal hf hS hc h2⟩
theorem AVOk.keep {hs : List Nat} {al al' : Nat → Prop} {hp hp' : List (Nat × Blk)} {S S' : Addr → Option Value} (hal : ∀ i ∈ hs, al' i) (hf : ∀ i ∈ hs, find hp' i = find hp i) (hS : ∀ a v, S a = some v → S' a = some v) {x : AV} {v : Value}
    (hc : refV hs x = true) (h : AVOk al hp S μ x v) : AVOk al' hp' S' μ x v := by
  cases x with
  | a x => exact AOk.keep hal hf hS hc h
  | tup xs => obtain ⟨vs, h1, h2, h3⟩ := h; exact ⟨vs, h1, h2, fun j x v a b => AOk.keep hal hf hS (List.all_eq_true.1 hc x (List.mem_of_getElem? a)) (h3 j x v a b)⟩

theorem tidy_ok {ks hs : List Nat} {n : Nat} (R : Rel Γ al s a w μ) (hpn : ∀ i b, Γ.pin i = some b → i < n) (h : tidyB hs n (tidy ks hs n s) = true) : Rel Γ (· < n) (tidy ks hs n s) a w μ := by
  unfold tidyB at h
  simp only [Bool.and_eq_true] at h
  obtain ⟨⟨h1, h2⟩, h3⟩ := h
  have hal : ∀ i ∈ hs, i < n := fun i hi => by
    have := List.all_eq_true.1 h3 i hi
    simpa using this
  have hfind : ∀ i, find (tidy ks hs n s).hp i = if hs.contains i = true then find s.hp i else none := fun i => find_filter (fun i => hs.contains i) s.hp i
  have hf : ∀ i ∈ hs, find (tidy ks hs n s).hp i = find s.hp i := fun i hi => by rw [hfind, if_pos (by simpa using hi)]
  have hin : ∀ i b, find (tidy ks hs n s).hp i = some b → i ∈ hs ∧ find s.hp i = some b := fun i b hb => by
    rw [hfind] at hb
    split at hb
    · rename_i hc; exact ⟨by simpa using hc, hb⟩
    · cases hb
  have hlive : ∀ i, live (tidy ks hs n s).hp i → live s.hp i := fun i ⟨b, hb, hl⟩ => ⟨b, (hin i b hb).2, hl⟩
  have hS : ∀ a v, Sv Γ.G s.hp μ w a = some v → Sv Γ.G (tidy ks hs n s).hp μ w a = some v := fun a v hv => by
    rw [Sv_some] at hv ⊢
    exact ⟨⟨hv.1.1, fun ⟨i, p, g1, g2, g3⟩ => hv.1.2 ⟨i, p, hlive i g1, g2, g3⟩⟩, hv.2⟩
  have hmem : ∀ (l : List (Nat × AV)) (t : Nat) (v : AV), find l t = some v → ∃ k, (k, v) ∈ l := fun l => by
    induction l with
    | nil => intro t v h; cases h
    | cons x r ih =>
      intro t v h
      obtain ⟨k, y⟩ := x
      simp only [find] at h
      split at h
      · obtain rfl := Option.some.inj h; exact ⟨k, by simp⟩
      · obtain ⟨k', hk'⟩ := ih t v h; exact ⟨k', by simp [hk']⟩
  have hmemB : ∀ (l : List (Nat × Blk)) (t : Nat) (v : Blk), find l t = some v → ∃ k, (k, v) ∈ l := fun l => by
    induction l with
    | nil => intro t v h; cases h
    | cons x r ih =>
      intro t v h
      obtain ⟨k, y⟩ := x
      simp only [find] at h
      split at h
      · obtain rfl := Option.some.inj h; exact ⟨k, by simp⟩
      · obtain ⟨k', hk'⟩ := ih t v h; exact ⟨k', by simp [hk']⟩
  refine ⟨⟨R.mem.fr, R.mem.gd, fun i b hb => ⟨hpn i b hb, fun cs hcs => (R.mem.pin i b hb).2.1 cs (hin i _ hcs).2, fun sz es hA => (R.mem.pin i b hb).2.2 sz es (by
    unfold arrOf at hA ⊢
    cases hg : find (tidy ks hs n s).hp i with
    | none => rw [hg] at hA; cases hA
    | some bk => rw [hg] at hA; rw [(hin i _ hg).2]; exact hA)⟩, fun i b hb => hal i (hin i b hb).1, fun i p hi hp => R.mem.mine i p (hlive i hi) hp, fun i j p q hi hj => R.mem.inj i j p q (hlive i hi) (hlive j hj), fun i b hb => ?_⟩, R.size, fun t => ?_, R.defers⟩
  · have hB := R.mem.blk i b (hin i b hb).2
    cases b with
    | arr sz es v =>
      cases hp : μ i with
      | none => rw [hp] at hB; exact hB
      | some p => rw [hp] at hB; exact ArrOk.mono hS (fun _ => rfl) (fun _ => rfl) hB
    | froz sz es v =>
      cases hp : μ i with
      | none => rw [hp] at hB; exact hB
      | some p => rw [hp] at hB; exact VpOk.mono hS hB
    | box cs =>
      cases hp : μ i with
      | none => rw [hp] at hB; exact hB
      | some p =>
        rw [hp] at hB
        obtain ⟨g0, vs, g1, g2⟩ := hB
        obtain ⟨k, hk⟩ := hmemB _ _ _ hb
        exact ⟨g0, vs, CsOk.keep hal hf hS (List.all_eq_true.1 h2 _ hk) g1, g2⟩
  · unfold St.get
    cases hg : find (tidy ks hs n s).tm t with
    | none => trivial
    | some v =>
      obtain ⟨k, hk⟩ := hmem _ _ _ hg
      have hv : s.get t = v := by
        have : find (ks.map fun k => (k, s.get k)) t = some v := hg
        rw [find_map_get] at this
        split at this
        · exact Option.some.inj this
        · cases this
      have := R.tmp t
      rw [hv] at this
      exact AVOk.keep hal hf hS (List.all_eq_true.1 h1 _ hk) this

/-- A state may be told as another one. -/
def Reach (n : Nat) (s S : St) : Prop :=
  ∀ (Γ : Ctx) (a : Act) (w : World) (μ : Nat → Option Pl), Rel Γ (· < s.nx) s a w μ → (∀ i b, Γ.pin i = some b → i < n) → ∃ μ', Rel Γ (· < n) S a w μ'
theorem Reach.tidy {ks hs : List Nat} {n : Nat} {s S : St} (h0 : tidyB hs n (M.tidy ks hs n s) = true) (h1 : M.tidy ks hs n s = S) : Reach n s S := fun Γ a w μ R hpn => ⟨μ, by
  have R2 := tidy_ok R hpn h0
  rwa [h1] at R2⟩

/-- A loop: the states S i, that go down by m; ks, hs: the slots and the blocks that are kept at its head. -/
theorem W_loop {ι : Type} {c : Code} {Q : X → St → Prop} (hτ : TOk P τ) (ks hs : List Nat) (n : Nat) (S : ι → St) (m : ι → Nat) (i : ι) {s : St} (hsn : s.nx ≤ n) (h0 : tidyB hs n (tidy ks hs n s) = true) (h1 : tidy ks hs n s = S i)
    (round : ∀ i, (S i).nx = n → W P τ md c (S i) fun x s => match x with | .normal => ∃ j, m j < m i ∧ (S j).nx = n ∧ Reach n s (S j) | .exit e => Q (.exit e) s | .ret => Q .ret s) : WW P (.loop c) s Q := fun Γ a w μ R => by
  have hnx : ∀ {s' : St} {j : ι}, tidy ks hs n s' = S j → (S j).nx = n := fun h => by rw [← h]; rfl
  have hpn : ∀ i b, Γ.pin i = some b → i < n := fun i b hb => Nat.lt_of_lt_of_le (R.mem.pin i b hb).1 hsn
  have R0 := tidy_ok R hpn h0
  rw [h1] at R0
  refine wp_loop_ghost (fun k a w => ∃ i μ, m i = k ∧ (S i).nx = n ∧ Rel Γ (· < n) (S i) a w μ) (m i) ⟨i, μ, rfl, hnx h1, R0⟩ fun k a w ⟨i, μ, hk, hn, R⟩ => ?_
  subst hk
  refine wp_mono (W_sound hτ c (S i) _ (round i hn) Γ a w μ (by rw [hn]; exact R)) fun e a' w' ⟨x, s', μ', hx, hq, R'⟩ => ?_
  cases x with
  | normal =>
    obtain rfl : e = .normal := by cases e <;> first | rfl | exact hx.elim
    obtain ⟨j, h3, h4, h5⟩ := hq
    obtain ⟨μ2, R2⟩ := h5 Γ a' w' μ' R' hpn
    exact ⟨m j, h3, j, μ2, rfl, h4, R2⟩
  | exit j =>
    obtain ⟨k, rfl⟩ : ∃ k, e = .exit k := by cases e <;> first | exact ⟨_, rfl⟩ | exact hx.elim
    exact ⟨.exit j, s', μ', hx, hq, R'⟩
  | ret =>
    obtain rfl : e = .ret := by cases e <;> first | rfl | exact hx.elim
    exact ⟨.ret, s', μ', hx, hq, R'⟩
end
end Go.Proofs.YtbmibaopkfenbaaDoor.M

/- A machine of values: a function's contract out of what is reckoned of its code. No condition. -/
namespace Go.Proofs.YtbmibaopkfenbaaDoor.M
open Go
set_option linter.unusedSimpArgs false
set_option linter.unusedVariables false
set_option linter.unusedSectionVars false

/-! ### The beginning -/
def initC (n : Nat) : BC → C × List (Nat × Blk)
  | .t x => (.t x, [])
  | .nil sz => (.nil sz, [])
  | .arr sz es => (.own n 0 0 es.length, [(n, .arr sz es 0)])
def initCs (n : Nat) : List BC → List C × List (Nat × Blk)
  | [] => ([], [])
  | x :: xs => let a := initC n x; let r := initCs (n + a.2.length) xs; (a.1 :: r.1, a.2 ++ r.2)
def initA (n : Nat) : AA → AV × List (Nat × Blk)
  | .v x => (.a (openT x), [])
  | .nilp => (.c .nilp, [])
  | .fn f => (.c (.fn f), [])
  | .mv sz es => (.c (.own n 0 0 es.length), [(n, .arr sz es 0)])
  | .ln sz es => (.c (.own n 0 0 es.length), [(n, .arr sz es 0)])
  | .mb cs => let r := initCs (n + 1) cs; (.c (.ptr n 0), (n, .box r.1) :: r.2)
  | .clo f cs => let r := initCs (n + 1) cs; (.c (.clo f n), (n, .box r.1) :: r.2)
def initL (n : Nat) : List AA → List AV × List (Nat × Blk)
  | [] => ([], [])
  | x :: xs => let a := initA n x; let r := initL (n + a.2.length) xs; (a.1 :: r.1, a.2 ++ r.2)
def slots (k : Nat) : List AV → List (Nat × AV)
  | [] => []
  | x :: xs => (k, x) :: slots (k + 1) xs
def initS (N : Nat) (args : List AA) : St := let r := initL 0 args; { tm := slots 0 r.1, hp := r.2, nx := r.2.length, N }

/-! ### The end -/
def exC (own : Bool) (hp : List (Nat × Blk)) (c : C) (K : T → List Nat → List Nat → Prop) : Prop :=
  match own with
  | true => match c with
    | .t x => if x.scal then K x [] [] else False
    | .nil sz => K (.list sz []) [] []
    | .own i v o n => match find hp i with
      | some (.arr sz es v') => if v == v' then o + n ≤ es.length ∧ Sc ((es.drop o).take n) ∧ K (.list sz ((es.drop o).take n)) [i] [] else False
      | _ => False
    | _ => False
  | false => match readC hp c with | some x => K x [] (ownsC c) | none => False
def exCs (own : Bool) (hp : List (Nat × Blk)) : List C → (List T → List Nat → List Nat → Prop) → Prop
  | [], K => K [] [] []
  | c :: r, K => exC own hp c fun x i j => exCs own hp r fun xs is js => K (x :: xs) (i ++ is) (j ++ js)
def exA (own : Bool) (hp : List (Nat × Blk)) (x : A) (K : T → List Nat → List Nat → Prop) : Prop :=
  match x with
  | .c (.ptr i 0) => match find hp i with
    | some (.box cs) => exCs own hp cs fun xs is js => K (.bx xs) (i :: is) js
    | _ => False
  | .c .nilp => K .nilp [] []
  | .c c => exC own hp c K
  | .g cs => exCs own hp cs fun xs is js => K (.agg xs) is js
def resA (τ : Tab) (s : St) (r : ResultVar) (K : A → Prop) : Prop :=
  match r with
  | .tmp t => match s.get t with | .a x => K x | _ => False
  | .cell t ty => match s.get t, find τ ty with
    | .a (.c (.ptr i off)), some d => match find s.hp i with | some (.box cs) => partK d cs off K | _ => False
    | _, _ => False
def exL (τ : Tab) (own : Bool) (s : St) : List ResultVar → (List T → List Nat → List Nat → Prop) → Prop
  | [], K => K [] [] []
  | r :: rs, K => resA τ s r fun x => exA own s.hp x fun y i j => exL τ own s rs fun ys is js => K (y :: ys) (i ++ is) (j ++ js)
/-- What the boxes that came in hold in the end. -/
def outX (hp : List (Nat × Blk)) (n : Nat) : List AA → (List (List BC) → List Nat → Prop) → Prop
  | [], K => K [] []
  | .mb cs :: r, K => match find hp n with
    | some (.box cs') => if cs'.length == cs.length then bcsK hp cs' fun ys => outX hp (n + (initA n (.mb cs)).2.length) r fun os is => K (ys :: os) (n :: cs'.flatMap ownsC ++ is) else False
    | _ => False
  | .clo f cs :: r, K => match find hp n with
    | some (.box cs') => if cs'.length == cs.length then bcsK hp cs' fun ys => outX hp (n + (initA n (.clo f cs)).2.length) r fun os is => K (ys :: os) (n :: cs'.flatMap ownsC ++ is) else False
    | _ => False
  | .ln sz es :: r, K => match find hp n with
    | some (.arr sz' es' v) => if v == 0 && sz' == sz then es'.length = es.length ∧ Sc es' ∧ outX hp (n + (initA n (.ln sz es)).2.length) r fun os is => K ([.arr sz es'] :: os) (n :: is) else False
    | _ => False
  | x :: r, K => outX hp (n + (initA n x).2.length) r K
def retK (τ : Tab) (own : Bool) (fn : Func) (args : List AA) (s : St) (K : List T → List (List BC) → Prop) : Prop :=
  exL τ own s fn.results.toList fun rs is js => outX s.hp 0 args fun os ks => if nodupB (is ++ ks) && js.all (fun j => !(is ++ ks).contains j) then K rs os else False

/-! ### What the end's reckoning says -/
def ExC (own : Bool) (hp : List (Nat × Blk)) (c : C) (x : T) (is js : List Nat) : Prop :=
  match own with
  | true => (x.scal = true ∧ c = .t x ∧ is = [] ∧ js = []) ∨ (∃ sz, c = .nil sz ∧ x = .list sz [] ∧ is = [] ∧ js = []) ∨
      ∃ i v o n sz es, c = .own i v o n ∧ find hp i = some (.arr sz es v) ∧ o + n ≤ es.length ∧ Sc ((es.drop o).take n) ∧ x = .list sz ((es.drop o).take n) ∧ is = [i] ∧ js = []
  | false => readC hp c = some x ∧ is = [] ∧ js = ownsC c
def ExCs (own : Bool) (hp : List (Nat × Blk)) : List C → List T → List Nat → List Nat → Prop
  | [], xs, is, js => xs = [] ∧ is = [] ∧ js = []
  | c :: r, xs, is, js => ∃ x xs' i i' j j', xs = x :: xs' ∧ is = i ++ i' ∧ js = j ++ j' ∧ ExC own hp c x i j ∧ ExCs own hp r xs' i' j'
def ExA (own : Bool) (hp : List (Nat × Blk)) (y : A) (x : T) (is js : List Nat) : Prop :=
  match y with
  | .c c => ExC own hp c x is js ∨ (∃ i cs xs is', c = .ptr i 0 ∧ find hp i = some (.box cs) ∧ x = .bx xs ∧ is = i :: is' ∧ ExCs own hp cs xs is' js) ∨ (c = .nilp ∧ x = .nilp ∧ is = [] ∧ js = [])
  | .g cs => ∃ xs, x = .agg xs ∧ ExCs own hp cs xs is js

section
variable {P : Program} {τ : Tab} {Γ : Ctx} {al al' : Nat → Prop} {s : St} {a : Act} {w w' : World} {μ μ' : Nat → Option Pl} {n : Nat}
variable {hp hp' : List (Nat × Blk)} {S S0 S' : Addr → Option Value} {own : Bool}

theorem exC_iff {c : C} {K : T → List Nat → List Nat → Prop} (h : exC own hp c K) : ∃ x is js, ExC own hp c x is js ∧ K x is js := by
  unfold exC at h
  unfold ExC
  split at h
  · split at h
    · split at h
      · rename_i hs; exact ⟨_, _, _, .inl ⟨hs, rfl, rfl, rfl⟩, h⟩
      · exact h.elim
    · exact ⟨_, _, _, .inr (.inl ⟨_, rfl, rfl, rfl, rfl⟩), h⟩
    · split at h
      · rename_i hb
        split at h
        · rename_i hv
          simp only [beq_iff_eq] at hv; subst hv
          exact ⟨_, _, _, .inr (.inr ⟨_, _, _, _, _, _, rfl, hb, h.1, h.2.1, rfl, rfl, rfl⟩), h.2.2⟩
        · exact h.elim
      · exact h.elim
    · exact h.elim
  · split at h
    · rename_i hr; exact ⟨_, _, _, ⟨hr, rfl, rfl⟩, h⟩
    · exact h.elim
theorem exCs_iff : ∀ {cs : List C} {K : List T → List Nat → List Nat → Prop}, exCs own hp cs K → ∃ xs is js, ExCs own hp cs xs is js ∧ K xs is js
  | [], K, h => ⟨_, _, _, ⟨rfl, rfl, rfl⟩, h⟩
  | c :: cs, K, h => by
    obtain ⟨x, i, j, h1, h2⟩ := exC_iff h
    obtain ⟨xs, is, js, h3, h4⟩ := exCs_iff h2
    exact ⟨_, _, _, ⟨x, xs, i, is, j, js, rfl, rfl, rfl, h1, h3⟩, h4⟩
theorem exA_iff {y : A} {K : T → List Nat → List Nat → Prop} (h : exA own hp y K) : ∃ x is js, ExA own hp y x is js ∧ K x is js := by
  unfold exA at h
  split at h
  · rename_i i
    split at h
    · rename_i cs hb
      obtain ⟨xs, is, js, h1, h2⟩ := exCs_iff h
      exact ⟨_, _, _, .inr (.inl ⟨i, cs, xs, is, rfl, hb, rfl, rfl, h1⟩), h2⟩
    · exact h.elim
  · exact ⟨_, _, _, .inr (.inr ⟨rfl, rfl, rfl, rfl⟩), h⟩
  · obtain ⟨x, is, js, h1, h2⟩ := exC_iff h
    exact ⟨_, _, _, .inl h1, h2⟩
  · obtain ⟨xs, is, js, h1, h2⟩ := exCs_iff h
    exact ⟨_, _, _, ⟨xs, rfl, h1⟩, h2⟩

theorem sub_arr {b base room sz o n : Nat} {es : List T} (h : ArrOk S w b base room sz es) (hon : o + n ≤ es.length) (hr : (o + n) * sz ≤ room) : ArrOk S w b (base + o * sz) (room - o * sz) sz ((es.drop o).take n) := by
  obtain ⟨vs, h1, h2, h3, h4, h5⟩ := h
  have hmem : ∀ e ∈ (es.drop o).take n, e.cells.length = sz := fun e he => h3 e (List.mem_of_mem_drop (List.mem_of_mem_take he))
  have hes : flat ((es.drop o).take n) = ((flat es).drop (o * sz)).take (n * sz) := by
    rw [flat_drop h3, flat_take (fun e he => h3 e (List.mem_of_mem_drop he))]
  have hfl := flat_length h3
  have hle : o * sz + n * sz ≤ es.length * sz := by rw [← Nat.add_mul]; exact Nat.mul_le_mul_right _ hon
  rw [Nat.add_mul] at hr
  refine ⟨(vs.drop (o * sz)).take (n * sz), ⟨by rw [hes]; simp [h1.1], fun v hv => h1.2.1 v (List.mem_of_mem_drop (List.mem_of_mem_take hv)), fun j t v a b => ?_⟩, fun j v hj => ?_, hmem, by simp; omega, fun j hj => ?_⟩
  · rw [hes] at a
    have hlt : j < n * sz := by have := (List.getElem?_eq_some_iff.1 b).1; simp at this; omega
    rw [List.getElem?_take_of_lt hlt, List.getElem?_drop] at a b
    exact h1.2.2 _ _ _ a b
  · have hlt : j < n * sz := by have := (List.getElem?_eq_some_iff.1 hj).1; simp at this; omega
    rw [List.getElem?_take_of_lt hlt, List.getElem?_drop] at hj
    rw [Nat.add_assoc]; exact h2 _ _ hj
  · have := h5 (o * sz + j) (by omega)
    rwa [← Nat.add_assoc] at this

theorem ExC_ok (M : Mem Γ al hp w μ) (hS : ∀ a v, Sv Γ.G hp μ w a = some v → S0 a = some v) {c : C} {x : T} {v : Value} {is js : List Nat} (h : ExC own hp c x is js) (hc : COk al hp (Sv Γ.G hp μ w) μ c v)
    (hown : ∀ i ∈ js, (∃ sz es v, find hp i = some (.arr sz es v)) → ∀ p, μ i = some p → ∀ a, a.block = p.b → ∀ v, w.cell? a = some v → S0 a = some v) :
    ∃ r, ResC own S0 w x v r ∧ r.Sublist (is.filterMap (bOf μ)) ∧ (∀ i ∈ is, live hp i) := by
  unfold ExC at h
  split at h
  · rcases h with ⟨h1, rfl, rfl, rfl⟩ | ⟨sz, rfl, rfl, rfl, rfl⟩ | ⟨i, ver, o, n, sz, es, rfl, hb, hon, hsc, rfl, rfl, rfl⟩
    · refine ⟨[], ?_, by simp, by simp⟩
      have : ResC true S0 w x v [] ↔ ([] : List Nat) = [] ∧ Hold S0 x v := by
        unfold ResC; cases x <;> simp_all [T.scal]
      exact this.2 ⟨rfl, hc.1.mono hS⟩
    · obtain rfl := hc
      exact ⟨[], .inl ⟨rfl, rfl, none, rfl⟩, by simp, by simp⟩
    · have hA : arrOf hp i ver = some (sz, es) := by simp [arrOf, hb]
      obtain ⟨h4, h5⟩ := hc.2.2 _ _ hA
      have hli : live hp i := ⟨_, hb, rfl⟩
      have hB := M.blk _ _ hb
      have hlen : ((es.drop o).take n).length = n := by simp; omega
      cases hp' : μ i with
      | none =>
        rw [hp'] at h5
        obtain ⟨rfl, rfl, q, rfl⟩ := h5
        exact ⟨[], .inl ⟨rfl, by simp, q, rfl⟩, List.nil_sublist _, by simpa using hli⟩
      | some p =>
        rw [hp'] at h5 hB
        obtain ⟨ad, cap, rfl, h7, h8, h9⟩ := h5
        rcases h7 with h7 | h7
        · subst h7
          have hle : (o + n) * sz ≤ p.room := Nat.le_trans (Nat.mul_le_mul_right _ (by omega)) h9
          have hB' : ArrOk S0 w p.b p.base p.room sz es := ArrOk.mono hS (fun _ => rfl) (fun _ => rfl) hB
          refine ⟨[p.b], .inr ⟨p.b, p.base + o * sz, p.room - o * sz, cap, rfl, by rw [hlen], by rw [hlen]; exact h8, ?_, hsc, sub_arr hB' hon hle⟩, by simp [bOf, hp'], by simpa using hli⟩
          rw [Nat.add_mul] at h9; omega
        · subst h7
          have h0 : n = 0 := by omega
          subst h0
          exact ⟨[], .inl ⟨rfl, by simp, _, rfl⟩, List.nil_sublist _, by simpa using hli⟩
  · obtain ⟨h1, rfl, rfl⟩ := h
    refine ⟨[], ?_, by simp, by simp⟩
    show ([] : List Nat) = [] ∧ Hold S0 x v
    exact ⟨rfl, readC_ok M hS h1 hc hown⟩

theorem ExCs_ok (M : Mem Γ al hp w μ) (hS : ∀ a v, Sv Γ.G hp μ w a = some v → S0 a = some v) : ∀ {cs : List C} {xs : List T} {vs : List Value} {is js : List Nat}, ExCs own hp cs xs is js → CsOk al hp (Sv Γ.G hp μ w) μ cs vs →
    (∀ i ∈ js, (∃ sz es v, find hp i = some (.arr sz es v)) → ∀ p, μ i = some p → ∀ a, a.block = p.b → ∀ v, w.cell? a = some v → S0 a = some v) →
    ∃ r, ResCs own S0 w xs vs r ∧ r.Sublist (is.filterMap (bOf μ)) ∧ (∀ i ∈ is, live hp i)
  | [], xs, vs, is, js, h, hc, _ => by
    obtain ⟨rfl, rfl, rfl⟩ := h
    have := hc.1
    simp at this; subst this
    exact ⟨[], ⟨rfl, rfl⟩, by simp, by simp⟩
  | c :: cs, xs, vs, is, js, h, hc, hown => by
    obtain ⟨x, xs', i, i', j, j', rfl, rfl, rfl, h1, h2⟩ := h
    cases vs with
    | nil => have := hc.1; simp at this
    | cons v vs =>
      have hr : CsOk al hp (Sv Γ.G hp μ w) μ cs vs := ⟨by have := hc.1; simpa using this, fun u hu => hc.2.1 u (by simp [hu]), fun j c' u a b => hc.2.2 (j + 1) c' u (by simpa using a) (by simpa using b)⟩
      obtain ⟨r1, a1, a2, a3⟩ := ExC_ok M hS h1 (hc.2.2 0 c v rfl rfl) (fun k hk => hown k (List.mem_append.2 (.inl hk)))
      obtain ⟨r2, b1, b2, b3⟩ := ExCs_ok M hS h2 hr (fun k hk => hown k (List.mem_append.2 (.inr hk)))
      refine ⟨r1 ++ r2, ⟨v, vs, r1, r2, rfl, rfl, a1, hc.2.1 v (by simp), b1⟩, by rw [List.filterMap_append]; exact a2.append b2, fun k hk => ?_⟩
      rcases List.mem_append.1 hk with hk | hk
      · exact a3 k hk
      · exact b3 k hk

theorem ExC_noagg {c : C} {x : T} {v : Value} {is js : List Nat} (h : ExC own hp c x is js) (hc : COk al hp S μ c v) : ∀ cs, x ≠ .agg cs ∧ x ≠ .bx cs := fun cs => by
  unfold ExC at h
  constructor
  all_goals
    intro e
    subst e
    split at h
    · rcases h with ⟨h1, _⟩ | ⟨sz, _, h1, _⟩ | ⟨_, _, _, _, _, _, _, _, _, _, h1, _⟩
      · simp [T.scal] at h1
      · cases h1
      · cases h1
    · obtain ⟨h1, _⟩ := h
      unfold readC at h1
      split at h1
      · obtain rfl := Option.some.inj h1
        have := hc.1
        cases this
        try simp [COk, Value.oneCell'] at hc
      · simp only [Option.map_eq_some_iff] at h1
        obtain ⟨_, _, h2⟩ := h1
        cases h2

theorem ExA_ok (M : Mem Γ al hp w μ) (hS : ∀ a v, Sv Γ.G hp μ w a = some v → S0 a = some v) {y : A} {x : T} {v : Value} {is js : List Nat} (h : ExA own hp y x is js) (hc : AOk al hp (Sv Γ.G hp μ w) μ y v)
    (hown : ∀ i ∈ js, (∃ sz es v, find hp i = some (.arr sz es v)) → ∀ p, μ i = some p → ∀ a, a.block = p.b → ∀ v, w.cell? a = some v → S0 a = some v) :
    ∃ r, ResA own S0 w x v r ∧ r.Sublist (is.filterMap (bOf μ)) ∧ (∀ i ∈ is, live hp i) := by
  cases y with
  | c c =>
    rcases h with h | ⟨i, cs, xs, is', rfl, hb, rfl, rfl, h⟩ | ⟨rfl, rfl, rfl, rfl⟩
    · obtain ⟨r, h1, h2⟩ := ExC_ok M hS h hc hown
      have hna := ExC_noagg h hc
      refine ⟨r, ?_, h2⟩
      unfold ResA
      split
      · rename_i cs; exact absurd rfl ((hna cs).1)
      · rename_i cs; exact absurd rfl ((hna cs).2)
      · exact h1
    · obtain ⟨p, hp1, rfl⟩ := hc.2.2 _ hb
      have hB := M.blk _ _ hb
      rw [hp1] at hB
      obtain ⟨h0, vs, hC, hcell⟩ := hB
      obtain ⟨r, h1, h2, h3⟩ := ExCs_ok M hS h hC hown
      refine ⟨p.b :: r, ⟨p.b, r, vs, rfl, rfl, h1, hcell⟩, ?_, fun j hj => ?_⟩
      · have : bOf μ i = some p.b := by simp [bOf, hp1]
        rw [List.filterMap_cons_some this]
        exact h2.cons_cons _
      · rcases List.mem_cons.1 hj with rfl | hj
        · exact ⟨_, hb, rfl⟩
        · exact h3 j hj
    · obtain rfl := hc
      refine ⟨[], ?_, by simp, by simp⟩
      show ResC own S0 w .nilp (.pointer none) []
      cases own <;> exact ⟨rfl, .nilp⟩
  | g cs =>
    obtain ⟨xs, rfl, h1⟩ := h
    obtain ⟨vs, rfl, hC⟩ := hc
    obtain ⟨r, h2, h3⟩ := ExCs_ok M hS h1 hC hown
    exact ⟨r, ⟨vs, rfl, h2⟩, h3⟩
end
end Go.Proofs.YtbmibaopkfenbaaDoor.M

/- A machine of values: a function's contract out of what is reckoned of its code, part 2. No condition. -/
namespace Go.Proofs.YtbmibaopkfenbaaDoor.M
open Go
set_option linter.unusedSimpArgs false
set_option linter.unusedVariables false
set_option linter.unusedSectionVars false

section
variable {P : Program} {τ : Tab} {Γ : Ctx} {al al' : Nat → Prop} {s : St} {a : Act} {w w' : World} {μ μ' : Nat → Option Pl} {n : Nat}
variable {hp hp' : List (Nat × Blk)} {S S0 S' : Addr → Option Value} {own : Bool}

/-! ### The end -/
theorem bcK_eq {c : C} {K : BC → Prop} (h : bcK hp c K) : ∃ x, K x ∧ bcK hp c fun y => y = x := by
  unfold bcK at h ⊢
  split at h
  · exact ⟨_, h, rfl⟩
  · exact ⟨_, h, rfl⟩
  · split at h
    · rename_i hb
      split at h
      · rename_i hv; exact ⟨_, h.2.2, by simp only [hb]; rw [if_pos hv]; exact ⟨h.1, h.2.1, by first | rfl | trivial⟩⟩
      · exact h.elim
    · exact h.elim
  · exact h.elim
theorem bcsK_eq : ∀ {cs : List C} {K : List BC → Prop}, bcsK hp cs K → ∃ xs, K xs ∧ bcsK hp cs fun ys => ys = xs
  | [], K, h => ⟨[], h, rfl⟩
  | c :: cs, K, h => by
    obtain ⟨x, h1, h2⟩ := bcK_eq h
    obtain ⟨xs, h3, h4⟩ := bcsK_eq h1
    exact ⟨x :: xs, h3, bcK_mono (fun y hy => bcsK_mono (fun ys hys => by rw [hy, hys]) h4) h2⟩

def OutR (hp : List (Nat × Blk)) (n : Nat) : List AA → List (List BC) → List Nat → Prop
  | [], os, ks => os = [] ∧ ks = []
  | .mb cs :: r, os, ks => ∃ ys os' ks' cs', os = ys :: os' ∧ find hp n = some (.box cs') ∧ cs'.length = cs.length ∧ (bcsK hp cs' fun zs => zs = ys) ∧ ks = n :: cs'.flatMap ownsC ++ ks' ∧ OutR hp (n + (initA n (.mb cs)).2.length) r os' ks'
  | .clo f cs :: r, os, ks => ∃ ys os' ks' cs', os = ys :: os' ∧ find hp n = some (.box cs') ∧ cs'.length = cs.length ∧ (bcsK hp cs' fun zs => zs = ys) ∧ ks = n :: cs'.flatMap ownsC ++ ks' ∧ OutR hp (n + (initA n (.clo f cs)).2.length) r os' ks'
  | .ln sz es :: r, os, ks => ∃ es' os' ks', os = [.arr sz es'] :: os' ∧ find hp n = some (.arr sz es' 0) ∧ es'.length = es.length ∧ Sc es' ∧ ks = n :: ks' ∧ OutR hp (n + (initA n (.ln sz es)).2.length) r os' ks'
  | x :: r, os, ks => OutR hp (n + (initA n x).2.length) r os ks
theorem outX_iff : ∀ {args : List AA} {n : Nat} {K : List (List BC) → List Nat → Prop}, outX hp n args K → ∃ os ks, K os ks ∧ OutR hp n args os ks
  | [], n, K, h => ⟨_, _, h, rfl, rfl⟩
  | .mb cs :: r, n, K, h => by
    simp only [outX] at h
    split at h
    · rename_i cs' hb
      split at h
      · rename_i hl
        obtain ⟨ys, h1, h2⟩ := bcsK_eq h
        obtain ⟨os, ks, h3, h4⟩ := outX_iff h1
        exact ⟨_, _, h3, ys, os, ks, cs', rfl, hb, by simpa using hl, h2, rfl, h4⟩
      · exact h.elim
    · exact h.elim
  | .clo f cs :: r, n, K, h => by
    simp only [outX] at h
    split at h
    · rename_i cs' hb
      split at h
      · rename_i hl
        obtain ⟨ys, h1, h2⟩ := bcsK_eq h
        obtain ⟨os, ks, h3, h4⟩ := outX_iff h1
        exact ⟨_, _, h3, ys, os, ks, cs', rfl, hb, by simpa using hl, h2, rfl, h4⟩
      · exact h.elim
    · exact h.elim
  | .ln sz es :: r, n, K, h => by
    simp only [outX] at h
    split at h
    · rename_i sz' es' v hb
      split at h
      · rename_i hv
        simp only [Bool.and_eq_true, beq_iff_eq] at hv
        obtain ⟨rfl, rfl⟩ := hv
        obtain ⟨h1, h2, h3⟩ := h
        obtain ⟨os, ks, h4, h5⟩ := outX_iff h3
        exact ⟨_, _, h4, es', os, ks, rfl, hb, h1, h2, rfl, h5⟩
      · exact h.elim
    · exact h.elim
  | .fn f :: r, n, K, h => by obtain ⟨os, ks, h1, h2⟩ := outX_iff (args := r) h; exact ⟨os, ks, h1, h2⟩
  | .mv sz es :: r, n, K, h => by obtain ⟨os, ks, h1, h2⟩ := outX_iff (args := r) h; exact ⟨os, ks, h1, h2⟩
  | .v x :: r, n, K, h => by obtain ⟨os, ks, h1, h2⟩ := outX_iff (args := r) h; exact ⟨os, ks, h1, h2⟩
  | .nilp :: r, n, K, h => by obtain ⟨os, ks, h1, h2⟩ := outX_iff (args := r) h; exact ⟨os, ks, h1, h2⟩

/-- The boxes that came in lie where they lay. -/
def PinOk (pin : Nat → Option Pl) (n : Nat) : List AA → List Value → Prop
  | [], _ => True
  | .mb cs :: r, v :: vs => (∃ q, pin n = some q ∧ v = .pointer (some ⟨q.b, 0, none⟩)) ∧ PinOk pin (n + (initA n (.mb cs)).2.length) r vs
  | .clo f cs :: r, v :: vs => (∃ q, pin n = some q ∧ v = .func (.func f) #[] #[.pointer (some ⟨q.b, 0, none⟩)]) ∧ PinOk pin (n + (initA n (.clo f cs)).2.length) r vs
  | .ln sz es :: r, v :: vs => (∃ q cap, pin n = some q ∧ v = .slice (some ⟨q.b, q.base, none⟩) es.length cap ∧ es.length ≤ cap ∧ cap * sz ≤ q.room) ∧ PinOk pin (n + (initA n (.ln sz es)).2.length) r vs
  | x :: r, _ :: vs => PinOk pin (n + (initA n x).2.length) r vs
  | _ :: _, [] => False

theorem OutR_ok (M : Mem Γ al hp w μ) (hS : ∀ a v, Sv Γ.G hp μ w a = some v → S0 a = some v) : ∀ {args : List AA} {vals : List Value} {os : List (List BC)} {ks : List Nat} {n : Nat}, OutR hp n args os ks → PinOk Γ.pin n args vals →
    ∃ r, OutsOk S0 w args vals os r ∧ r.Sublist (ks.filterMap (bOf μ)) ∧ (∀ i ∈ ks, live hp i)
  | [], vals, os, ks, n, h, _ => by
    obtain ⟨rfl, rfl⟩ := h
    exact ⟨[], ⟨rfl, rfl⟩, by simp, by simp⟩
  | .mb cs :: r, [], os, ks, n, h, hp => hp.elim
  | .clo f cs :: r, [], os, ks, n, h, hp => hp.elim
  | .fn f :: r, [], os, ks, n, h, hp => hp.elim
  | .mv sz es :: r, [], os, ks, n, h, hp => hp.elim
  | .ln sz es :: r, [], os, ks, n, h, hp => hp.elim
  | .v x :: r, [], os, ks, n, h, hp => hp.elim
  | .nilp :: r, [], os, ks, n, h, hp => hp.elim
  | .mb cs :: r, v :: vals, os, ks, n, h, hpin => by
    obtain ⟨ys, os', ks', cs', rfl, hb, hl, hK, rfl, h'⟩ := h
    obtain ⟨⟨q, hb1, rfl⟩, hpin'⟩ := hpin
    obtain ⟨p, hp1, hpq⟩ := (M.pin n q hb1).2.1 cs' hb
    rw [← hpq]
    have hB := M.blk _ _ hb
    rw [hp1] at hB
    obtain ⟨h0, vs, hC, hc⟩ := hB
    obtain ⟨zs, r1, rfl, b1, b2, b3, b4⟩ := bcsK_ok M hS hK hC
    obtain ⟨r2, c1, c2, c3⟩ := OutR_ok M hS h' hpin'
    refine ⟨p.b :: r1 ++ r2, ⟨zs, os', p.b, r1, r2, rfl, by rw [b4, hl], rfl, rfl, ⟨vs, b1, hc⟩, c1⟩, ?_, fun i hi => ?_⟩
    · have : bOf μ n = some p.b := by simp [bOf, hp1]
      rw [List.filterMap_append, List.filterMap_cons_some this]
      exact (b2.cons_cons _).append c2
    · simp only [List.cons_append, List.mem_cons, List.mem_append] at hi
      rcases hi with rfl | hi | hi
      · exact ⟨_, hb, rfl⟩
      · exact b3 i hi
      · exact c3 i hi
  | .clo f cs :: r, v :: vals, os, ks, n, h, hpin => by
    obtain ⟨ys, os', ks', cs', rfl, hb, hl, hK, rfl, h'⟩ := h
    obtain ⟨⟨q, hb1, rfl⟩, hpin'⟩ := hpin
    obtain ⟨p, hp1, hpq⟩ := (M.pin n q hb1).2.1 cs' hb
    rw [← hpq]
    have hB := M.blk _ _ hb
    rw [hp1] at hB
    obtain ⟨h0, vs, hC, hc⟩ := hB
    obtain ⟨zs, r1, rfl, b1, b2, b3, b4⟩ := bcsK_ok M hS hK hC
    obtain ⟨r2, c1, c2, c3⟩ := OutR_ok M hS h' hpin'
    refine ⟨p.b :: r1 ++ r2, ⟨zs, os', p.b, r1, r2, rfl, by rw [b4, hl], rfl, rfl, ⟨vs, b1, hc⟩, c1⟩, ?_, fun i hi => ?_⟩
    · have : bOf μ n = some p.b := by simp [bOf, hp1]
      rw [List.filterMap_append, List.filterMap_cons_some this]
      exact (b2.cons_cons _).append c2
    · simp only [List.cons_append, List.mem_cons, List.mem_append] at hi
      rcases hi with rfl | hi | hi
      · exact ⟨_, hb, rfl⟩
      · exact b3 i hi
      · exact c3 i hi
  | .ln sz es :: r, v :: vals, os, ks, n, h, hpin => by
    obtain ⟨es', os', ks', rfl, hb, hl, hsc, rfl, h'⟩ := h
    obtain ⟨⟨q, cap, hb1, rfl, hc1, hc2⟩, hpin'⟩ := hpin
    have hp1 : μ n = some q := (M.pin n q hb1).2.2 sz es' (by simp [arrOf, hb])
    have hB := M.blk _ _ hb
    rw [hp1] at hB
    obtain ⟨r2, c1, c2, c3⟩ := OutR_ok M hS h' hpin'
    refine ⟨[q.b] ++ r2, ⟨es', os', [q.b], r2, rfl, hl, rfl, ⟨q.b, q.base, q.room, cap, rfl, by rw [hl], by rw [hl]; exact hc1, hc2, hsc, ArrOk.mono hS (fun _ => rfl) (fun _ => rfl) hB⟩, c1⟩, ?_, fun i hi => ?_⟩
    · have : bOf μ n = some q.b := by simp [bOf, hp1]
      rw [List.filterMap_cons_some this]
      exact c2.cons_cons _
    · rcases List.mem_cons.1 hi with rfl | hi
      · exact ⟨_, hb, rfl⟩
      · exact c3 i hi
  | .v x :: r, v :: vals, os, ks, n, h, hpin => OutR_ok (args := r) M hS h hpin
  | .fn f :: r, v :: vals, os, ks, n, h, hpin => OutR_ok (args := r) M hS h hpin
  | .mv sz es :: r, v :: vals, os, ks, n, h, hpin => OutR_ok (args := r) M hS h hpin
  | .nilp :: r, v :: vals, os, ks, n, h, hpin => OutR_ok (args := r) M hS h hpin

def actR (tmps : Array Value) : ResultVar → Sem Value
  | .tmp t => pure (tmps.getD t undef)
  | .cell a t => do loadVar t (← asAddr (tmps.getD a undef))
def ExAs (own : Bool) (hp : List (Nat × Blk)) : List A → List T → List Nat → List Nat → Prop
  | [], xs, is, js => xs = [] ∧ is = [] ∧ js = []
  | c :: r, xs, is, js => ∃ x xs' i i' j j', xs = x :: xs' ∧ is = i ++ i' ∧ js = j ++ j' ∧ ExA own hp c x i j ∧ ExAs own hp r xs' i' j'

theorem resA_ok (hτ : TOk P τ) (R : Rel Γ al s a w μ) {r : ResultVar} {K : A → Prop} (h : resA τ s r K) : ∃ x v, K x ∧ AOk al s.hp (Sv Γ.G s.hp μ w) μ x v ∧ (actR a.tmps r).run P w = .ok v w := by
  cases r with
  | tmp t =>
    simp only [resA] at h
    have := R.tmp t
    split at h
    · rename_i x hx; rw [hx] at this; exact ⟨x, _, h, this, rfl⟩
    · exact h.elim
  | cell t ty =>
    simp only [resA] at h
    have := R.tmp t
    split at h
    · rename_i i off d ht hd
      rw [ht] at this
      split at h
      · rename_i cs hb
        obtain ⟨p, hp1, hp2⟩ := this.2.2 _ hb
        have hB := R.mem.blk _ _ hb
        rw [hp1] at hB
        obtain ⟨h0, vs, hC, hc⟩ := hB
        obtain ⟨y, hK, hA, h1, h2⟩ := part_ok hC h
        have hr := run_loadVar' hτ w hd ⟨p.b, 0, none⟩ vs off (fun j v hj => by rw [add_mk, Nat.zero_add]; exact (hc j v hj).1) h1 h2
        rw [add_mk, Nat.zero_add] at hr
        exact ⟨y, _, hK, hA, by simp [actR, hp2, asAddr, hr]⟩
      · exact h.elim
    · exact h.elim
theorem exL_ok (hτ : TOk P τ) (R : Rel Γ al s a w μ) : ∀ {rvs : List ResultVar} {K : List T → List Nat → List Nat → Prop}, exL τ own s rvs K →
    ∃ (as : List A) (vs : List Value) (ys : List T) (is js : List Nat), K ys is js ∧ (rvs.mapM (actR a.tmps)).run P w = .ok vs w ∧ vs.length = as.length ∧ (∀ (j : Nat) x v, as[j]? = some x → vs[j]? = some v → AOk al s.hp (Sv Γ.G s.hp μ w) μ x v) ∧ ExAs own s.hp as ys is js ∧ vs.length = rvs.length
  | [], K, h => ⟨[], [], [], [], [], h, by simp, rfl, by simp, ⟨rfl, rfl, rfl⟩, rfl⟩
  | r :: rs, K, h => by
    obtain ⟨x, v, h1, h2, h3⟩ := resA_ok hτ R h
    obtain ⟨y, i, j, h4, h5⟩ := exA_iff h1
    obtain ⟨as, vs, ys, is, js, h6, h7, h8, h9, h10, h11⟩ := exL_ok hτ R h5
    refine ⟨x :: as, v :: vs, _, _, _, h6, by simp [List.mapM_cons, h3, h7], by simp [h8], fun k x' v' p q => ?_, ⟨y, ys, i, is, j, js, rfl, rfl, rfl, h4, h10⟩, by simp [h11]⟩
    cases k with
    | zero => simp at p q; subst p; subst q; exact h2
    | succ k => exact h9 k x' v' (by simpa using p) (by simpa using q)
theorem ExAs_ok (M : Mem Γ al hp w μ) (hS : ∀ a v, Sv Γ.G hp μ w a = some v → S0 a = some v) : ∀ {as : List A} {xs : List T} {vs : List Value} {is js : List Nat}, ExAs own hp as xs is js → vs.length = as.length →
    (∀ (j : Nat) x v, as[j]? = some x → vs[j]? = some v → AOk al hp (Sv Γ.G hp μ w) μ x v) →
    (∀ i ∈ js, (∃ sz es v, find hp i = some (.arr sz es v)) → ∀ p, μ i = some p → ∀ a, a.block = p.b → ∀ v, w.cell? a = some v → S0 a = some v) →
    ∃ r, ResL own S0 w xs vs r ∧ r.Sublist (is.filterMap (bOf μ)) ∧ (∀ i ∈ is, live hp i) ∧ xs.length = vs.length
  | [], xs, vs, is, js, h, hl, _, _ => by
    obtain ⟨rfl, rfl, rfl⟩ := h
    simp at hl; subst hl
    exact ⟨[], ⟨rfl, rfl⟩, by simp, by simp, rfl⟩
  | c :: cs, xs, [], is, js, h, hl, _, _ => by simp at hl
  | c :: cs, xs, v :: vs, is, js, h, hl, hx, hown => by
    obtain ⟨x, xs', i, i', j, j', rfl, rfl, rfl, h1, h2⟩ := h
    obtain ⟨r1, a1, a2, a3⟩ := ExA_ok M hS h1 (hx 0 c v rfl rfl) (fun k hk => hown k (List.mem_append.2 (.inl hk)))
    obtain ⟨r2, b1, b2, b3, b4⟩ := ExAs_ok M hS h2 (by simpa using hl) (fun k x v p q => hx (k + 1) x v (by simpa using p) (by simpa using q)) (fun k hk => hown k (List.mem_append.2 (.inr hk)))
    refine ⟨r1 ++ r2, ⟨v, vs, r1, r2, rfl, rfl, a1, b1⟩, by rw [List.filterMap_append]; exact a2.append b2, fun k hk => ?_, by simp [b4]⟩
    rcases List.mem_append.1 hk with hk | hk
    · exact a3 k hk
    · exact b3 k hk

/-! ### The beginning -/
theorem initC_ok {x : BC} {v : Value} {r : List Nat} (h : BCOk S w x v r) (n : Nat) :
    ∃ L : List E, L.map (fun e => (e.1, e.2.1)) = (initC n x).2 ∧ L.filterMap E.blk = r ∧ (∀ e ∈ L, EOk S w e) ∧ L.map (·.1) = List.range' n L.length ∧
      ∀ al' hp' S' μ', Fits al' hp' μ' L → (∀ a v, S a = some v → S' a = some v) → COk al' hp' S' μ' (initC n x).1 v := by
  cases x with
  | t x => obtain ⟨rfl, h2, h3⟩ := h; exact ⟨[], rfl, rfl, by simp, rfl, fun _ _ _ _ _ hS => ⟨h2.mono hS, h3⟩⟩
  | nil sz => obtain ⟨rfl, rfl⟩ := h; exact ⟨[], rfl, rfl, by simp, rfl, fun _ _ _ _ _ _ => rfl⟩
  | arr sz es =>
    obtain ⟨p, h1, h2, h3, h4⟩ := bc_arr h n 0
    refine ⟨[(n, .arr sz es 0, p)], rfl, by rw [← h1]; cases p <;> simp [E.blk, Blk.live], by simpa using h2, by simp, fun al' hp' S' μ' hf _ => ?_⟩
    obtain ⟨f1, f2, f3⟩ := hf _ (List.mem_singleton.2 rfl)
    exact own_fits f1 f2 f3 h3 h4
theorem initCs_ok : ∀ {xs : List BC} {vs : List Value} {r : List Nat} (n : Nat), BCsOk S w xs vs r →
    ∃ L : List E, L.map (fun e => (e.1, e.2.1)) = (initCs n xs).2 ∧ L.filterMap E.blk = r ∧ (∀ e ∈ L, EOk S w e) ∧ L.map (·.1) = List.range' n L.length ∧
      ∀ al' hp' S' μ', Fits al' hp' μ' L → (∀ a v, S a = some v → S' a = some v) → CsOk al' hp' S' μ' (initCs n xs).1 vs
  | [], vs, r, n, h => by
    obtain ⟨rfl, rfl⟩ := h
    exact ⟨[], rfl, rfl, by simp, rfl, fun _ _ _ _ _ _ => ⟨rfl, by simp, by simp [initCs]⟩⟩
  | x :: xs, vs, r, n, h => by
    obtain ⟨v, vs', r1, r2, rfl, rfl, h1, h3⟩ := h
    obtain ⟨L1, a1, a2, a3, a4, a5⟩ := initC_ok h1 n
    have hl : (initC n x).2.length = L1.length := by rw [← a1]; simp
    obtain ⟨L2, b1, b2, b3, b4, b5⟩ := initCs_ok (n + L1.length) h3
    refine ⟨L1 ++ L2, by simp only [List.map_append, a1, b1, initCs, hl], by rw [List.filterMap_append, a2, b2], fun e he => ?_, ?_, fun al' hp' S' μ' hf hS => ?_⟩
    · rcases List.mem_append.1 he with he | he
      · exact a3 e he
      · exact b3 e he
    · rw [List.map_append, a4, b4, List.length_append, List.range'_append_1]
    · obtain ⟨f1, f2⟩ := hf.app
      have c1 := a5 al' hp' S' μ' f1 hS
      have c2 := b5 al' hp' S' μ' f2 hS
      simp only [initCs, hl]
      refine ⟨by simp [c2.1], fun u hu => ?_, fun j c u p q => ?_⟩
      · rcases List.mem_cons.1 hu with rfl | hu
        · exact BCOk.one h1
        · exact c2.2.1 u hu
      · cases j with
        | zero => simp at p q; subst p; subst q; exact c1
        | succ j => exact c2.2.2 j c u (by simpa using p) (by simpa using q)
theorem openT_ok {x : T} {v : Value} (h : Hold S x v) {al' : Nat → Prop} {hp' : List (Nat × Blk)} {μ' : Nat → Option Pl} : AOk al' hp' S μ' (openT x) v := by
  cases x with
  | agg cs =>
    cases h with
    | agg cs vs hl h1 hh => exact ⟨vs, rfl, CsOk_of_HoldL ⟨hl, h1, hh⟩⟩
  | list sz es => exact ⟨h, by cases h <;> rfl⟩
  | int k n => exact ⟨h, by cases h; rfl⟩
  | nilp => cases h; rfl
  | nils sz => cases h; rfl
  | bx cs => cases h
  | bool b => exact ⟨h, by cases h; rfl⟩
  | str b => exact ⟨h, by cases h; rfl⟩
  | raw x => exact ⟨h, by cases h; rfl⟩
theorem initA_ok {x : AA} {v : Value} {r : List Nat} (h : ArgOk S w x v r) (n : Nat) :
    ∃ L : List E, L.map (fun e => (e.1, e.2.1)) = (initA n x).2 ∧ L.filterMap E.blk = r ∧ L.map (·.1) = List.range' n L.length ∧
      (∀ al' hp' S' μ', Fits al' hp' μ' L → (∀ a v, S a = some v → S' a = some v) → AVOk al' hp' S' μ' (initA n x).1 v ∧ ∀ e ∈ L, BlkOk al' hp' S' μ' w e.2.1 e.2.2) ∧
      ∀ pin : Nat → Option Pl, (∀ e ∈ L, pin e.1 = e.2.2) → ∀ r vs, PinOk pin (n + (initA n x).2.length) r vs → PinOk pin n (x :: r) (v :: vs) := by
  cases x with
  | v x => obtain ⟨rfl, h2⟩ := h; exact ⟨[], rfl, rfl, rfl, fun _ _ _ _ _ hS => ⟨openT_ok (h2.mono hS), by simp⟩, fun _ _ _ _ h => h⟩
  | nilp => obtain ⟨rfl, rfl⟩ := h; exact ⟨[], rfl, rfl, rfl, fun _ _ _ _ _ _ => ⟨rfl, by simp⟩, fun _ _ _ _ h => h⟩
  | mv sz es =>
    obtain ⟨p, h1, h2, h3, h4⟩ := bc_arr h n 0
    refine ⟨[(n, .arr sz es 0, p)], rfl, by rw [← h1]; cases p <;> simp [E.blk, Blk.live], by simp, fun al' hp' S' μ' hf _ => ?_, fun _ _ _ _ h => h⟩
    obtain ⟨f1, f2, f3⟩ := hf _ (List.mem_singleton.2 rfl)
    exact ⟨own_fits (S' := S') f1 f2 f3 h3 h4, fun e he => by obtain rfl := List.mem_singleton.1 he; exact EOk.blk h2⟩
  | ln sz es =>
    obtain ⟨b, base, room, cap, rfl, rfl, c1, c2, c3, hA⟩ := h
    refine ⟨[(n, .arr sz es 0, some ⟨b, base, room⟩)], rfl, by simp [E.blk, Blk.live], by simp, fun al' hp' S' μ' hf hS => ?_, fun pin hpin r vs h => ⟨⟨⟨b, base, room⟩, cap, hpin _ (List.mem_singleton.2 rfl), rfl, c1, c2⟩, h⟩⟩
    obtain ⟨f1, f2, f3⟩ := hf _ (List.mem_singleton.2 rfl)
    refine ⟨⟨⟨f1, Nat.zero_le _⟩, rfl, fun sz' es' hA' => ?_⟩, fun e he => ?_⟩
    · simp only [arrOf, f2, beq_self_eq_true, if_true, Option.some.injEq, Prod.mk.injEq] at hA'
      obtain ⟨rfl, rfl⟩ := hA'
      refine ⟨by omega, ?_⟩
      rw [f3]
      exact ⟨_, cap, rfl, .inl (by simp), c1, by rw [Nat.zero_add]; exact c2⟩
    · obtain rfl := List.mem_singleton.1 he
      exact ArrOk.mono hS (fun _ => rfl) (fun _ => rfl) hA
  | fn f => obtain ⟨rfl, rfl⟩ := h; exact ⟨[], rfl, rfl, rfl, fun _ _ _ _ _ _ => ⟨rfl, by simp⟩, fun _ _ _ _ h => h⟩
  | mb cs =>
    obtain ⟨b, r', rfl, rfl, ws, hC, hc⟩ := h
    obtain ⟨L, a1, a2, a3, a4, a5⟩ := initCs_ok (n + 1) hC
    refine ⟨(n, .box (initCs (n + 1) cs).1, some ⟨b, 0, 0⟩) :: L, by simp [initA, a1], by simp [E.blk, Blk.live, a2], by simp [a4, List.range'_succ], fun al' hp' S' μ' hf hS => ?_, fun pin hpin r vs h => ⟨⟨⟨b, 0, 0⟩, hpin _ (List.mem_cons_self ..), rfl⟩, h⟩⟩
    obtain ⟨f1, f2, f3⟩ := hf _ (List.mem_cons_self ..)
    refine ⟨⟨f1, rfl, fun cs' _ => ⟨_, f3, rfl⟩⟩, fun e he => ?_⟩
    rcases List.mem_cons.1 he with rfl | he
    · exact ⟨rfl, ws, a5 al' hp' S' μ' (fun e he => hf e (by simp [he])) hS, hc⟩
    · exact (a3 e he).blk
  | clo f cs =>
    obtain ⟨b, r', rfl, rfl, ws, hC, hc⟩ := h
    obtain ⟨L, a1, a2, a3, a4, a5⟩ := initCs_ok (n + 1) hC
    refine ⟨(n, .box (initCs (n + 1) cs).1, some ⟨b, 0, 0⟩) :: L, by simp [initA, a1], by simp [E.blk, Blk.live, a2], by simp [a4, List.range'_succ], fun al' hp' S' μ' hf hS => ?_, fun pin hpin r vs h => ⟨⟨⟨b, 0, 0⟩, hpin _ (List.mem_cons_self ..), rfl⟩, h⟩⟩
    obtain ⟨f1, f2, f3⟩ := hf _ (List.mem_cons_self ..)
    refine ⟨⟨f1, rfl, fun cs' _ => ⟨_, f3, rfl⟩⟩, fun e he => ?_⟩
    rcases List.mem_cons.1 he with rfl | he
    · exact ⟨rfl, ws, a5 al' hp' S' μ' (fun e he => hf e (by simp [he])) hS, hc⟩
    · exact (a3 e he).blk
theorem initL_ok : ∀ {xs : List AA} {vs : List Value} {r : List Nat} (n : Nat), ArgsOk S w xs vs r →
    ∃ L : List E, L.map (fun e => (e.1, e.2.1)) = (initL n xs).2 ∧ L.filterMap E.blk = r ∧ L.map (·.1) = List.range' n L.length ∧ vs.length = (initL n xs).1.length ∧
      (∀ al' hp' S' μ', Fits al' hp' μ' L → (∀ a v, S a = some v → S' a = some v) → (∀ (j : Nat) x v, (initL n xs).1[j]? = some x → vs[j]? = some v → AVOk al' hp' S' μ' x v) ∧ ∀ e ∈ L, BlkOk al' hp' S' μ' w e.2.1 e.2.2) ∧
      ∀ pin : Nat → Option Pl, (∀ e ∈ L, pin e.1 = e.2.2) → PinOk pin n xs vs
  | [], vs, r, n, h => by
    obtain ⟨rfl, rfl⟩ := h
    exact ⟨[], rfl, rfl, rfl, rfl, fun _ _ _ _ _ _ => ⟨by simp [initL], by simp⟩, fun _ _ => trivial⟩
  | x :: xs, vs, r, n, h => by
    obtain ⟨v, vs', r1, r2, rfl, rfl, h1, h3⟩ := h
    obtain ⟨L1, a1, a2, a4, a5, a6⟩ := initA_ok h1 n
    have hl : (initA n x).2.length = L1.length := by rw [← a1]; simp
    obtain ⟨L2, b1, b2, b4, b0, b5, b6⟩ := initL_ok (n + L1.length) h3
    refine ⟨L1 ++ L2, by simp only [List.map_append, a1, b1, initL, hl], by rw [List.filterMap_append, a2, b2], by rw [List.map_append, a4, b4, List.length_append, List.range'_append_1], by simp [initL, hl, b0], fun al' hp' S' μ' hf hS => ?_, fun pin hpin => ?_⟩
    · obtain ⟨f1, f2⟩ := hf.app
      have c1 := a5 al' hp' S' μ' f1 hS
      have c2 := b5 al' hp' S' μ' f2 hS
      simp only [initL, hl]
      refine ⟨fun j c u p q => ?_, fun e he => ?_⟩
      · cases j with
        | zero => simp at p q; subst p; subst q; exact c1.1
        | succ j => exact c2.1 j c u (by simpa using p) (by simpa using q)
      · rcases List.mem_append.1 he with he | he
        · exact c1.2 e he
        · exact c2.2 e he
    · exact a6 pin (fun e he => hpin e (List.mem_append.2 (.inl he))) xs vs' (by rw [hl]; exact b6 pin (fun e he => hpin e (List.mem_append.2 (.inr he))))
end
end Go.Proofs.YtbmibaopkfenbaaDoor.M
