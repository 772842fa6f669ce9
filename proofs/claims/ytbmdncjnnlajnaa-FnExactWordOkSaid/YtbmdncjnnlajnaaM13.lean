/- A machine of values: each operation does on the machine what is told of it, part 9: literals, new lists. No condition. -/
import Derived.Test.YtbmdncjnnlajnaaM12
namespace Go.Proofs.Ytbmdncjnnlajnaa.M
open Go
set_option linter.unusedSimpArgs false
set_option linter.unusedVariables false
set_option linter.unusedSectionVars false

theorem foldl_put (off : Nat) : ∀ (vs : List Value) (k : Nat) (cells : Array Value), off + k + vs.length ≤ cells.size →
    ((vs.zipIdx k).foldl (fun cs (p : Value × Nat) => cs.setIfInBounds (off + p.2) p.1) cells).toList = splice cells.toList (off + k) vs
  | [], k, cells, h => by simp [splice]
  | v :: r, k, cells, h => by
    simp only [List.zipIdx_cons, List.foldl_cons]
    simp only [List.length_cons] at h
    rw [foldl_put off r (k + 1) _ (by simp; omega)]
    apply List.ext_getElem?
    intro j
    have hl : (cells.setIfInBounds (off + k) v).toList = cells.toList.set (off + k) v := by simp
    rw [hl, splice_get (by simp; omega), splice_get (by simp; omega)]
    by_cases h1 : j < off + k
    · rw [if_pos (by omega), if_pos h1, List.getElem?_set_ne (by omega)]
    · rw [if_neg h1]
      by_cases h2 : j = off + k
      · subst h2
        rw [if_pos (by omega), if_pos (by simp), List.getElem?_set_self (by simp; omega)]
        simp
      · rw [if_neg (by omega : ¬ j < off + (k + 1))]
        by_cases h3 : j < off + (k + 1) + r.length
        · rw [if_pos h3, if_pos (by simp; omega)]
          obtain ⟨m, hm⟩ : ∃ m, j - (off + k) = m + 1 := ⟨j - (off + k) - 1, by omega⟩
          rw [hm, List.getElem?_cons_succ]; congr 1; omega
        · rw [if_neg h3, if_neg (by simp; omega), List.getElem?_set_ne (by omega)]

theorem fill_step {place : Nat → Option (Nat × Nat)} {cells : Array Value} {i off size : Nat} {v : Value} {rest : List (Nat × Value)} (hp : place i = some (off, size)) (hs : v.cells.size = size) (hfit : off + size ≤ cells.size) :
    Instr.fill place cells ((i, v) :: rest) = Instr.fill place (splice cells.toList off v.cells.toList).toArray rest := by
  have h2 : ¬ (v.cells.size ≠ size ∨ off + v.cells.size > cells.size) := by omega
  simp only [Instr.fill, hp]
  rw [if_neg (by simpa using h2)]
  congr 1
  have := foldl_put off v.cells.toList 0 cells (by simp; omega)
  rw [Nat.add_zero] at this
  rw [← this]
  rw [← Array.foldl_toList, Array.toList_zipIdx]

section
variable {P : Program} {τ : Tab} {Γ : Ctx} {al : Nat → Prop} {s : St} {a : Act} {w : World} {μ : Nat → Option Pl} {n : Nat} {K : AV → List (Nat × Blk) → Prop} {next : Act → World → Prop}
variable {o : Oper} {Q : Exit → Act → World → Prop} {md : Nat → Bool} {hp : List (Nat × Blk)} {S : Addr → Option Value}

theorem sealL_there : ∀ {cs : List C} {xs : List T}, sealL cs = some xs → cs.all C.there = true := fun {cs} => by
  induction cs with
  | nil => intro xs _; rfl
  | cons c r ih =>
    intro xs hs
    simp only [sealL] at hs
    split at hs
    · rename_i x xs' h1 h2
      simp only [List.all_cons, Bool.and_eq_true]
      refine ⟨?_, ih h2⟩
      cases c <;> simp [sealC] at h1 <;> rfl
    · cases hs
theorem sealA_ok {y : A} {v : Value} {x : T} (h : AOk al hp S μ y v) (hs : sealA y = some x) : ∃ vs : List Value, v.cells = vs.toArray ∧ HoldL S x.cells vs ∧ vs.length = y.cells.length := by
  have hth : y.cells.all C.there = true := by
    cases y with
    | c c => simp only [sealA] at hs; simp only [A.cells, List.all_cons, List.all_nil, Bool.and_true]; cases c <;> simp [sealC] at hs <;> rfl
    | g cs => simp only [sealA, Option.map_eq_some_iff] at hs; obtain ⟨xs, h1, _⟩ := hs; exact sealL_there h1
  obtain ⟨vs, hv, hC⟩ := A_cells h hth
  refine ⟨vs, hv, ?_, hC.1⟩
  cases y with
  | c c =>
    simp only [sealA] at hs
    have hl := hC.1
    simp only [A.cells, List.length_singleton] at hl
    obtain ⟨v0, rfl⟩ : ∃ v0, vs = [v0] := by
      cases vs with
      | nil => simp at hl
      | cons c r => cases r with
        | nil => exact ⟨c, rfl⟩
        | cons _ _ => simp at hl
    have h1 := sealC_ok (hC.2.2 0 c v0 rfl rfl) hs
    rw [one_of_hold h1 (hC.2.1 v0 (by simp))]
    refine ⟨rfl, hC.2.1, fun j t v a b => ?_⟩
    cases j with
    | zero => simp at a b; subst a; subst b; exact h1
    | succ j => simp at a
  | g cs =>
    simp only [sealA, Option.map_eq_some_iff] at hs
    obtain ⟨xs, h1, rfl⟩ := hs
    exact sealL_ok hC h1

theorem lit_ok (R : Rel Γ al s a w μ) {e : TypeId} {d : TD} (hd : find τ e = some d) : ∀ (ps : List (Nat × Operand)) (es : List T) (cells : List Value) (K : List T → Prop), litK τ s e ps es K → HoldL (Sv Γ.G s.hp μ w) (flat es) cells → (∀ x ∈ es, x.cells.length = d.sz) →
    ∃ es' cells', K es' ∧ Instr.fill (fun i => some (i * d.sz, d.sz)) cells.toArray (ps.map fun (p : Nat × Operand) => (p.1, a.eval p.2)) = some cells'.toArray ∧ HoldL (Sv Γ.G s.hp μ w) (flat es') cells' ∧ es'.length = es.length ∧ ∀ x ∈ es', x.cells.length = d.sz
  | [], es, cells, K, h, hH, hsz => ⟨es, cells, h, rfl, hH, rfl, hsz⟩
  | (i, x) :: r, es, cells, K, h, hH, hsz => by
    have htg : tg τ e = d := tg_of_find hd
    simp only [litK] at h
    have hx := eval_ok (τ := τ) R e x
    split at h
    · rename_i y he
      rw [he] at hx
      split at h
      · rename_i hcond
        simp only [Bool.and_eq_true, beq_iff_eq, decide_eq_true_eq, htg] at hcond
        unfold sealK at h
        split at h
        · rename_i z hz
          obtain ⟨vs, hv, hV, hvl⟩ := sealA_ok hx hz
          have hvl' : vs.length = d.sz := by rw [hvl, hcond.1]
          have hzl : z.cells.length = d.sz := by rw [← hV.1, hvl']
          have hcl : cells.length = es.length * d.sz := by rw [hH.1, flat_length hsz]
          have hmul : (i + 1) * d.sz ≤ es.length * d.sz := Nat.mul_le_mul_right _ hcond.2
          rw [Nat.succ_mul] at hmul
          have hflat : flat (es.set i z) = splice (flat es) (i * d.sz) z.cells := flat_set hsz (List.getElem?_eq_getElem hcond.2) hzl
          have hH' : HoldL (Sv Γ.G s.hp μ w) (flat (es.set i z)) (splice cells (i * d.sz) vs) := by
            rw [hflat]; exact splice_HoldL hH hV (by rw [hzl, flat_length hsz]; omega)
          have hsz' : ∀ x ∈ es.set i z, x.cells.length = d.sz := fun x hx => by
            rcases List.mem_or_eq_of_mem_set hx with h' | h'
            · exact hsz _ h'
            · rw [h']; exact hzl
          obtain ⟨es', cells', h1, h2, h3, h4, h5⟩ := lit_ok R hd r _ _ K h hH' hsz'
          refine ⟨es', cells', h1, ?_, h3, by simpa using h4, h5⟩
          rw [List.map_cons, fill_step (size := d.sz) rfl (by rw [hv]; simpa using hvl') (by simp; omega), hv]
          exact h2
        · exact h.elim
      · exact h.elim
    · exact h.elim

theorem flat_replicate {z : T} {sz : Nat} (hz : z.cells.length = sz) (hpos : 0 < sz) : ∀ (n j : Nat), j < n * sz → (flat (List.replicate n z))[j]? = z.cells[j % sz]?
  | 0, j, h => by simp at h
  | n + 1, j, h => by
    rw [List.replicate_succ, flat_cons]
    by_cases hj : j < sz
    · rw [List.getElem?_append_left (by omega), Nat.mod_eq_of_lt hj]
    · rw [List.getElem?_append_right (by omega), hz, flat_replicate hz hpos n _ (by rw [Nat.succ_mul] at h; omega)]
      congr 1
      conv => rhs; rw [← Nat.sub_add_cancel (Nat.le_of_not_lt hj), Nat.add_mod_right]

theorem made_ok {z : T} {zs : Array Value} {sz : Nat} (hpos : 0 < sz) (hH : HoldL S z.cells zs.toList) (hz : z.cells.length = sz) (n m : Nat) (hnm : n ≤ m) : HoldL S (flat (List.replicate n z)) ((madeCells zs (m * sz)).toList.take (n * sz)) := by
  have hzs : zs.size = sz := by have := hH.1; simp at this; omega
  have hfl : (flat (List.replicate n z)).length = n * sz := by rw [flat_length (sz := sz) (fun e he => by rw [(List.mem_replicate.1 he).2]; exact hz)]; simp
  have hle : n * sz ≤ m * sz := Nat.mul_le_mul_right _ hnm
  have hget : ∀ j, j < m * sz → (madeCells zs (m * sz)).toList[j]? = zs.toList[j % sz]? := fun j hj => by
    have : j % sz < zs.size := by rw [hzs]; exact Nat.mod_lt _ hpos
    simp [madeCells, hj, hzs]
    rw [Array.getElem?_eq_getElem this, getElem!_pos zs _ this]
  refine ⟨by rw [hfl, List.length_take, Array.length_toList, size_madeCells]; omega, fun v hv => ?_, fun j t v h1 h2 => ?_⟩
  · obtain ⟨j, hj⟩ := List.mem_iff_getElem?.1 hv
    have hlt : j < n * sz := by have := (List.getElem?_eq_some_iff.1 hj).1; simp at this; omega
    rw [List.getElem?_take_of_lt hlt, hget j (by omega)] at hj
    exact hH.2.1 v (List.mem_of_getElem? hj)
  · have hlt : j < n * sz := by have := (List.getElem?_eq_some_iff.1 h1).1; omega
    rw [flat_replicate hz hpos n j hlt] at h1
    rw [List.getElem?_take_of_lt hlt, hget j (by omega)] at h2
    exact hH.2.2 _ _ _ h1 h2

theorem op_buildSlice (hτ : TOk P τ) (R : Rel Γ al s a w μ) (hn : ¬ al n) {t : TypeId} {len : Nat} {ps : Array (Nat × Operand)} (ho : o.op = .buildSlice t len ps) (h : op P τ md o s n K) (N : Nxt Γ al s a w μ n o.dst K next) : o.wp P a w next Q := by
  simp only [op, ho] at h
  split at h
  · rename_i x1 x2 x3 e hd0
    have hk : (tg τ t).k = .slice e := by rw [tg_of_find hd0]
    obtain ⟨hu, _⟩ := slice_of hτ hk
    split at h
    · rename_i d hd
      unfold sealK at h
      split at h
      · rename_i z hz
        split at h
        · rename_i hcond
          simp only [Bool.and_eq_true, Bool.or_eq_true, beq_iff_eq, decide_eq_true_eq] at hcond
          obtain ⟨⟨hle, hpos⟩, hag⟩ := hcond
          obtain ⟨inf, zv, i1, i2, i3, i4, i5, i6, i7, i8⟩ := (hτ e d hd).info
          obtain ⟨hZ, hzl⟩ := zero_elem (S := Sv Γ.G s.hp μ w) i6 hz hpos (fun h => by rcases hag with h' | h'; (· rw [h] at h'; cases h'); (· exact h')) (by simpa using i5) i7 i8
          have hmade := made_ok hpos hZ hzl len len (Nat.le_refl _)
          rw [List.take_of_length_le (by simp [size_madeCells])] at hmade
          obtain ⟨es', cells', hK, hfill, hH', hlen, hsz'⟩ := lit_ok R hd ps.toList (List.replicate len z) _ _ h hmade (fun x hx => by rw [(List.mem_replicate.1 hx).2]; exact hzl)
          have hlen' : es'.length = len := by simpa using hlen
          have hcl : cells'.length = len * d.sz := by rw [hH'.1, flat_length hsz', hlen']
          have hnot : ¬ 16777216 < len * d.sz := by omega
          refine wp_val (val := .slice (some ⟨w.heap.size, 0, none⟩) len len) (w' := w.alloc (.cells cells'.toArray e)) ?_ ?_
          · have hfill' : Instr.fill (fun i => some (i * d.sz, d.sz)) (madeCells zv.cells (len * d.sz)) (ps.toList.map fun (x : Nat × Operand) => (x.1, a.eval x.2)) = some cells'.toArray := by
              rw [← hfill]
            have hs := run_sizeOf' hτ w hd
            have hz : (zeroValue e).run P w = .ok zv w := by simp [zeroValue, typeInfo, i1, i4]
            simp only [execOp, ho, Instr.buildSlice]
            simp [run_underlying hu, hs, hnot]
            by_cases h0 : len * d.sz = 0
            · rw [if_pos h0]
              have e0 : (Array.map (fun x => (default : Value)) (Array.range (len * d.sz))) = madeCells zv.cells (len * d.sz) := by rw [h0]; simp [madeCells, Array.range_zero']
              rw [e0, hfill']
              simp [newRow]
            · rw [if_neg h0, hz]
              simp only [Result.andThen_ok]
              rw [show (Array.map (fun x => zv.cells[x % zv.cells.size]!) (Array.range (len * d.sz))) = madeCells zv.cells (len * d.sz) from rfl, hfill']
              simp [newRow]
          · refine N.new R hn (Fr.alloc _ _) (p := some ⟨w.heap.size, 0, cells'.length⟩) hK (fun q hq => by obtain rfl := Option.some.inj hq; simp) ?_ ⟨⟨.inr ⟨Nat.le_refl _, by omega⟩, Nat.zero_le _⟩, rfl, fun sz es hA => ?_⟩
            · have hnew := new_row w cells'.toArray e
              exact ⟨cells', hH', fun j v hj => by rw [Nat.zero_add]; exact (hnew j v (by simpa using hj)).1, hsz', Nat.le_refl _, fun j hj => by
                have := hnew j cells'[j] (by simp [List.getElem?_eq_getElem hj])
                rw [Nat.zero_add]; exact ⟨by rw [this.1]; rfl, this.2⟩⟩
            · simp only [arrOf, find_put, if_true, beq_self_eq_true, Option.some.injEq, Prod.mk.injEq] at hA
              obtain ⟨rfl, rfl⟩ := hA
              refine ⟨by omega, ?_⟩
              simp only [setμ, if_true]
              exact ⟨_, _, rfl, .inl (by simp), Nat.le_refl _, by rw [hcl]; simp⟩
        · exact h.elim
      · exact h.elim
    · exact h.elim
  · exact h.elim

theorem op_makeSlice (hτ : TOk P τ) (R : Rel Γ al s a w μ) (hn : ¬ al n) {t : TypeId} {l c : Operand} (ho : o.op = .makeSlice t l c) (h : op P τ md o s n K) (N : Nxt Γ al s a w μ n o.dst K next) : o.wp P a w next Q := by
  simp only [op, ho] at h
  split at h
  · rename_i x1 x2 x3 e k1 L k2 Cc hd0 hL hC
    have hk : (tg τ t).k = .slice e := by rw [tg_of_find hd0]
    obtain ⟨hu, _⟩ := slice_of hτ hk
    have eL := eval_int R hL
    have eC := eval_int R hC
    split at h
    · rename_i d hd
      unfold sealK at h
      split at h
      · rename_i z hz
        split at h
        · rename_i hcond
          simp only [Bool.and_eq_true, Bool.or_eq_true, beq_iff_eq, decide_eq_true_eq] at hcond
          obtain ⟨hpos, hag⟩ := hcond
          obtain ⟨h1, h2, h3, h4, hK⟩ := h
          obtain ⟨inf, zv, i1, i2, i3, i4, i5, i6, i7, i8⟩ := (hτ e d hd).info
          obtain ⟨hZ, hzl⟩ := zero_elem (S := Sv Γ.G s.hp μ w) i6 hz hpos (fun h => by rcases hag with h' | h'; (· rw [h] at h'; cases h'); (· exact h')) (by simpa using i5) i7 i8
          have hmade := made_ok hpos hZ hzl L.toNat Cc.toNat (by omega)
          have hr := run_make (P := P) w t e inf zv hu i1 i4 k1 k2 L Cc h1 h2 (by rw [i3]; omega) (by omega)
          rw [i2] at hr
          refine wp_val (val := .slice (some ⟨w.heap.size, 0, none⟩) L.toNat Cc.toNat) (w' := w.alloc (.cells (madeCells zv.cells (Cc.toNat * d.sz)) e)) (by simp [execOp, ho, eL, eC, hr]) ?_
          refine N.new R hn (Fr.alloc _ _) (p := some ⟨w.heap.size, 0, Cc.toNat * d.sz⟩) hK (fun q hq => by obtain rfl := Option.some.inj hq; simp) ?_ ⟨⟨.inr ⟨Nat.le_refl _, by omega⟩, Nat.zero_le _⟩, rfl, fun sz es hA => ?_⟩
          · have hnew := new_row w (madeCells zv.cells (Cc.toNat * d.sz)) e
            refine ⟨_, hmade, fun j v hj => ?_, fun x hx => by rw [(List.mem_replicate.1 hx).2]; exact hzl, ?_, fun j hj => ?_⟩
            · rw [Nat.zero_add]
              have hlt : j < L.toNat * d.sz := by have := (List.getElem?_eq_some_iff.1 hj).1; simp at this; omega
              rw [List.getElem?_take_of_lt hlt] at hj
              exact (hnew j v hj).1
            · rw [List.length_take, Array.length_toList, size_madeCells]; exact Nat.min_le_right _ _
            · have hlt : j < (madeCells zv.cells (Cc.toNat * d.sz)).toList.length := by rw [Array.length_toList, size_madeCells]; exact hj
              have := hnew j _ (List.getElem?_eq_getElem hlt)
              rw [Nat.zero_add]; exact ⟨by rw [this.1]; rfl, this.2⟩
          · simp only [arrOf, find_put, if_true, beq_self_eq_true, Option.some.injEq, Prod.mk.injEq] at hA
            obtain ⟨rfl, rfl⟩ := hA
            refine ⟨by simp, ?_⟩
            simp only [setμ, if_true]
            exact ⟨_, _, rfl, .inl (by simp), by omega, by show (0 + Cc.toNat) * d.sz ≤ Cc.toNat * d.sz; rw [Nat.zero_add]; exact Nat.le_refl _⟩
        · exact h.elim
      · exact h.elim
    · exact h.elim
  · exact h.elim

theorem fill_ok (hτ : TOk P τ) (R : Rel Γ al s a w μ) {d : TD} {pl : Nat → Option (Nat × Nat)} (hpl : ∀ i off ft, place τ d i = some (off, ft) → pl i = some (off, (tg τ ft).sz)) :
    ∀ (ps : List (Nat × Operand)) (cs : List C) (cells : List Value) (K : List C → Prop), fillK τ s d ps cs K → CsOk al s.hp (Sv Γ.G s.hp μ w) μ cs cells →
    ∃ cs' cells', K cs' ∧ Instr.fill pl cells.toArray (ps.map fun (p : Nat × Operand) => (p.1, a.eval p.2)) = some cells'.toArray ∧ CsOk al s.hp (Sv Γ.G s.hp μ w) μ cs' cells'
  | [], cs, cells, K, h, hH => ⟨cs, cells, h, rfl, hH⟩
  | (i, x) :: r, cs, cells, K, h, hH => by
    simp only [fillK] at h
    split at h
    · rename_i off ft hp
      have hx := eval_ok (τ := τ) R ft x
      split at h
      · rename_i y he
        rw [he] at hx
        split at h
        · rename_i hcond
          simp only [Bool.and_eq_true, beq_iff_eq, decide_eq_true_eq] at hcond
          obtain ⟨vs, hv, hC⟩ := A_cells hx hcond.2
          have hvl : vs.length = (tg τ ft).sz := by rw [hC.1, hcond.1.1]
          have hcl := hH.1
          have hc2 := hcond.1.2
          obtain ⟨cs', cells', h1, h2, h3⟩ := fill_ok hτ R hpl r _ (splice cells off vs) K h (splice_CsOk hH hC (by rw [hcond.1.1]; omega))
          refine ⟨cs', cells', h1, ?_, h3⟩
          rw [List.map_cons, fill_step (size := (tg τ ft).sz) (hpl _ _ _ hp) (by rw [hv]; simpa using hvl) (by simp; omega), hv]
          exact h2
        · exact h.elim
      · exact h.elim
    · exact h.elim

theorem run_places' (hτ : TOk P τ) (w : World) : ∀ (fs : List Field), (∀ f ∈ fs, (find τ f.type).isSome = true) →
    (fs.mapM (m := Sem) fun f => Prod.mk f.offset <$> sizeOf f.type).run P w = .ok (fs.map fun f => (f.offset, (tg τ f.type).sz)) w
  | [], _ => by simp
  | f :: fs, h => by
    obtain ⟨d, hd⟩ := Option.isSome_iff_exists.1 (h f (by simp))
    have h1 := run_sizeOf' hτ w hd
    have h2 := run_places' hτ w fs (fun x hx => h x (by simp [hx]))
    have h3 : tg τ f.type = d := tg_of_find hd
    simp [List.mapM_cons, h1, h2, h3]

theorem op_build (hτ : TOk P τ) (R : Rel Γ al s a w μ) {t : TypeId} {ps : Array (Nat × Operand)} (ho : o.op = .build t ps) (h : op P τ md o s n K) (N : Nxt Γ al s a w μ n o.dst K next) : o.wp P a w next Q := by
  simp only [op, ho] at h
  split at h
  · rename_i d hd
    split at h
    · rename_i hag
      obtain ⟨inf, zv, i1, i2, i3, i4, i5, i6, i7, i8⟩ := (hτ t d hd).info
      have hz : (zeroValue t).run P w = .ok zv w := by simp [zeroValue, typeInfo, i1, i4]
      have hC0 : CsOk al s.hp (Sv Γ.G s.hp μ w) μ d.z zv.cells.toList := ⟨by simp [i5, i6], i7, fun j c v a b => zOk_COk (i8 j c v a b)⟩
      have fin : ∀ {pl : Nat → Option (Nat × Nat)}, (∀ i off ft, place τ d i = some (off, ft) → pl i = some (off, (tg τ ft).sz)) → (∀ cells' : Array Value, Instr.fill pl zv.cells (ps.toList.map fun (p : Nat × Operand) => (p.1, a.eval p.2)) = some cells' → (execOp a.eval o).run P w = .ok (.value (.agg cells')) w) → o.wp P a w next Q := fun hpl hrun => by
        obtain ⟨cs', cells', hK, hf, hC⟩ := fill_ok hτ R hpl ps.toList d.z zv.cells.toList _ h hC0
        exact wp_val (hrun cells'.toArray (by rw [← hf])) (N.quiet R hK ⟨cells', rfl, hC⟩)
      unfold TD.ag at hag
      split at hag
      · rename_i m e hk
        have hk' : (tg τ t).k = .array m e := by rw [tg_of_find hd]; exact hk
        obtain ⟨hu, d', hd'⟩ := array_of hτ hk'
        have hs := run_sizeOf' hτ w hd'
        refine fin (pl := fun i => some (i * d'.sz, d'.sz)) (fun i off ft hp => ?_) (fun cells' hf => ?_)
        · simp only [place, hk, Option.some.injEq, Prod.mk.injEq] at hp
          obtain ⟨rfl, rfl⟩ := hp
          rw [tg_of_find hd']
        · simp [execOp, ho, Instr.build, run_underlying hu, hz, hs, hf]
      · rename_i fs hk
        have hk' : (tg τ t).k = .struct fs := by rw [tg_of_find hd]; exact hk
        obtain ⟨F, hu, hF, hfs⟩ := struct_of hτ hk'
        have hall : ∀ f ∈ F.toList, (find τ f.type).isSome = true := fun f hf => hfs (f.offset, f.type) (by rw [← hF]; exact List.mem_map.2 ⟨f, hf, rfl⟩)
        have hpl := run_places' hτ w F.toList hall
        refine fin (pl := fun i => (F.toList.map fun f => (f.offset, (tg τ f.type).sz)).toArray[i]?) (fun i off ft hp => ?_) (fun cells' hf => ?_)
        · simp only [place, hk] at hp
          obtain ⟨fl, h1, h2, h3⟩ := field_of hF hp
          subst h2; subst h3
          have : F.toList[i]? = some fl := by simpa using h1
          simp [this]
        · have hf' : Instr.fill (fun x => (F.toList.map fun f => (f.offset, (tg τ f.type).sz))[x]?) zv.cells (ps.toList.map fun (p : Nat × Operand) => (p.1, a.eval p.2)) = some cells' := by rw [← hf]; simp
          simp only [List.getElem?_map, Array.getElem?_toList] at hf'
          simp [execOp, ho, Instr.build, run_underlying hu, hz, Array.mapM_eq_mapM_toList, hpl, hf']
      · cases hag
    · exact h.elim
  · exact h.elim
end
end Go.Proofs.Ytbmdncjnnlajnaa.M
