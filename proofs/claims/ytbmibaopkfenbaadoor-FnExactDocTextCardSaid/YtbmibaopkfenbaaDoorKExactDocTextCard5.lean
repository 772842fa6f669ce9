/- A machine of values: a constant text as bytes (a literal's row, and the conversion of it to its own type, which marks it). No condition. -/
import Derived.Lib.SlBytesConst
import Derived.Test.YtbmibaopkfenbaaDoorKExactDocTextCard4
/- A machine of values: a constant text as bytes (a literal's row, and the conversion of it to its own type, which marks it). No condition. -/
namespace Go.Proofs.YtbmibaopkfenbaaDoor.M
open Go
set_option linter.unusedSimpArgs false
set_option linter.unusedVariables false
def litQ (P : Program) (τ : Tab) (md : Nat → Md) (ops : Array Oper) (d1 d2 : Nat) (e : Nat) (d : TD) (len : Nat) (ps : List (Nat × Operand)) (post : List Oper) (Q : X → St → Prop) (s : St) : Prop :=
  d1 < s.N ∧ litK τ s e ps (List.replicate len (.int .u8 0)) fun es => act (WOps P τ md ops post (s.nx + 32) (((s.upd [(s.nx, .arr 1 es 0)]).set (some d1) (.a (.c .undef))).set (some d2) (.a (.c (.own s.nx 0 0 len)))) (Q .normal))
section
variable {P : Program} {τ : Tab} {md : Nat → Md} {Q : X → St → Prop} {s : St}
theorem new_marked (w : World) (c : Array Value) (e : TypeId) : ∀ (j : Nat) v, c.toList[j]? = some v → (w.alloc (.cells c e (c.size, c.size + 1))).cell? ⟨w.heap.size, j, none⟩ = some v ∧ (w.alloc (.cells c e (c.size, c.size + 1))).frozen? ⟨w.heap.size, j, none⟩ = false := fun j v hj => by
  have h0 : (w.alloc (.cells c e (c.size, c.size + 1))).heap[w.heap.size]? = some (.cells c e (c.size, c.size + 1)) := by
    show (w.heap.push _)[w.heap.size]? = _
    rw [Array.getElem?_push, if_pos rfl]
  have hlt : j < c.size := by
    have := (List.getElem?_eq_some_iff.1 hj).1
    simpa using this
  have hc : c[j]? = some v := by simpa using hj
  constructor
  · unfold World.cell?
    rw [h0]
    exact hc
  · unfold World.frozen?
    rw [h0]
    show (decide (c.size ≤ j) && decide (j < c.size + 1)) = false
    simp; omega
theorem WWE_lit (hτ : TOk P τ) (md : Nat → Md) {id : Nat} {l : List Oper} (k : Nat) {o1 o2 : Oper} {t e d1 d2 len : Nat} {ps : Array (Nat × Operand)} {sb : Nat} {z : List C} {b b' : Nat} (ho1 : l[k]? = some o1) (ho2 : l[k + 1]? = some o2) (h1 : o1.op = .buildSlice t len ps) (h2 : o2.op = .convert t t (.tmp d1))
    (g1 : o1.guard = none) (g2 : o2.guard = none) (hd1 : o1.dst = some d1) (hd2 : o2.dst = some d2) (ht : find τ t = some ⟨sb, b, z, .slice e⟩) (he : find τ e = some ⟨1, b', [.t (.int .u8 0)], .int .u8⟩) (hlen : len ≤ 1000)
    {x : Shut (Code.region id l.toArray false)} {y : Shut Q} (h : act (WOps P τ md l.toArray (l.take k) s.nx s (litQ P τ md l.toArray d1 d2 e ⟨1, b', [.t (.int .u8 0)], .int .u8⟩ len ps.toList (l.drop (k + 2)) Q))) : WWE P (.region id l.toArray false) s Q x y := fun Γ a w μ R => by
  refine wp_region_list ?_
  have hl : l = l.take k ++ (o1 :: o2 :: l.drop (k + 2)) := by
    obtain ⟨hk, hko⟩ := List.getElem?_eq_some_iff.1 ho1
    obtain ⟨hk2, hko2⟩ := List.getElem?_eq_some_iff.1 ho2
    rw [← hko2, ← hko, List.getElem_cons_drop, List.getElem_cons_drop, List.take_append_drop]
  have key : wpList P l.toArray (fun e a' w' => ∃ x s' μ', x.is e ∧ Q x s' ∧ Rel Γ (· < s'.nx) s' a' w' μ') (l.take k ++ (o1 :: o2 :: l.drop (k + 2))) a w := ?_
  · rw [← hl] at key; exact key
  refine WOps_pre hτ (l.take k) s.nx s a w μ _ h R fun s1 a1 w1 μ1 hc R1 => ?_
  obtain ⟨hdN, hc⟩ := hc
  have hk : (tg τ t).k = .slice e := by rw [tg_of_find ht]
  obtain ⟨hu, _⟩ := slice_of hτ hk
  have hke : (tg τ e).k = .int .u8 := by rw [tg_of_find he]
  have hue := int_of hτ hke
  obtain ⟨inf, zv, i1, i2, i3, i4, i5, i6, i7, i8⟩ := (hτ e _ he).info
  obtain ⟨hZ, hzl⟩ := zero_elem (d := ⟨1, b', [.t (.int .u8 0)], .int .u8⟩) (z := .int .u8 0) (S := Sv Γ.G s1.hp μ1 w1) i6 rfl Nat.one_pos (fun h => rfl) (by simpa using i5) i7 i8
  have hmade := made_ok (sz := 1) Nat.one_pos hZ hzl len len (Nat.le_refl _)
  rw [List.take_of_length_le (by simp [size_madeCells])] at hmade
  obtain ⟨es', cells', hK, hfill, hH', hlen', hsz'⟩ := lit_ok R1 he ps.toList (List.replicate len (.int .u8 0)) _ _ hc hmade (fun x hx => by rw [(List.mem_replicate.1 hx).2]; exact hzl)
  have hlen2 : es'.length = len := by simpa using hlen'
  have hfl : (flat es').length = len := by rw [flat_length hsz', hlen2]; simp
  have hcl : cells'.length = len := by rw [hH'.1, hfl]
  refine wpList_step fun K' hK' => ?_
  rw [want_ok R1 (b := true) (by simp [wantA, g1]), if_pos rfl]
  refine wp_val (val := .slice (some ⟨w1.heap.size, 0, none⟩) len len) (w' := w1.alloc (.cells cells'.toArray e)) ?_ (hK' _ _ ?_)
  · have hfill' : Instr.fill (fun i => some (i * 1, 1)) (madeCells zv.cells (len * 1)) (ps.toList.map fun (x : Nat × Operand) => (x.1, a1.eval x.2)) = some cells'.toArray := by
      rw [← hfill]
    have hs := run_sizeOf' hτ w1 he
    have hz : (zeroValue e).run P w1 = .ok zv w1 := by simp [zeroValue, typeInfo, i1, i4]
    have hnot : ¬ 16777216 < len * 1 := by omega
    simp only [execOp, h1, Instr.buildSlice]
    simp [run_underlying hu, hs, hnot]
    by_cases h0 : len = 0
    · rw [if_pos h0]
      have e0 : (Array.map (fun x => (default : Value)) (Array.range len)) = madeCells zv.cells (len * 1) := by rw [h0]; simp [madeCells, Array.range_zero']
      have hfill2 : Instr.fill (fun i => some (i, 1)) (madeCells zv.cells (len * 1)) (ps.toList.map fun (x : Nat × Operand) => (x.1, a1.eval x.2)) = some cells'.toArray := by simpa using hfill'
      rw [e0, hfill2]
      simp [newRow]
      omega
    · rw [if_neg h0, hz]
      simp only [Result.andThen_ok]
      have hfill2 : Instr.fill (fun i => some (i, 1)) (madeCells zv.cells (len * 1)) (ps.toList.map fun (x : Nat × Operand) => (x.1, a1.eval x.2)) = some cells'.toArray := by simpa using hfill'
      rw [show (Array.map (fun x => zv.cells[x % zv.cells.size]!) (Array.range len)) = madeCells zv.cells (len * 1) by rw [Nat.mul_one]; rfl, hfill2]
      simp [newRow]
      omega
  · refine wpList_step fun K2 hK2 => ?_
    have hR1 : Rel Γ (· < s1.nx) s1 a1 w1 μ1 := R1
    have hd1a : d1 < a1.tmps.size := by rw [R1.size]; exact hdN
    have hev : (a1.put o1.dst (.slice (some ⟨w1.heap.size, 0, none⟩) len len)).eval (.tmp d1) = .slice (some ⟨w1.heap.size, 0, none⟩) len len := by
      rw [hd1]
      simp [Act.eval, Act.put, Array.getD, hd1a]
    have hcv := Lib.run_convert_bytes_const (P := P) w1 t e cells'.toArray len len hu hue
    have hwant : Region.wanted o2 (yielded l.toArray (a1.put o1.dst (.slice (some ⟨w1.heap.size, 0, none⟩) len len)).tmps) = true := by unfold Region.wanted; rw [g2]
    rw [hwant, if_pos rfl]
    refine wp_val (val := .slice (some ⟨w1.heap.size, 0, none⟩) len len) (w' := w1.alloc (.cells cells'.toArray e (cells'.toArray.size, cells'.toArray.size + 1))) ?_ (hK2 _ _ ?_)
    · simp only [execOp, h2, hev]
      rw [show (do let v ← convert t t (.slice (some ⟨w1.heap.size, 0, none⟩) len len); pure (Next.value v) : Sem Next) = _ from rfl]
      simp [hcv]
    · have hfr : Fr [] w1 (w1.alloc (.cells cells'.toArray e (cells'.toArray.size, cells'.toArray.size + 1))) := Fr.alloc _ _
      obtain ⟨m, ex⟩ := R1.mem.new hfr (al' := (· < s1.nx + 32)) (fun i hi => by omega) (n := s1.nx) (by omega) (by omega) (.arr 1 es' 0) (some ⟨w1.heap.size, 0, cells'.length⟩) (fun q hq => by obtain rfl := Option.some.inj hq; simp) (by
        have hnew := new_marked w1 cells'.toArray e
        exact ⟨cells', hH', fun j v hj => by rw [Nat.zero_add]; exact (hnew j v (by simpa using hj)).1, hsz', Nat.le_refl _, fun j hj => by
          have := hnew j cells'[j] (by simp [List.getElem?_eq_getElem hj])
          rw [Nat.zero_add]; exact ⟨by rw [this.1]; rfl, this.2⟩⟩)
      have R' : Rel Γ (· < s1.nx + 32) (s1.upd [(s1.nx, .arr 1 es' 0)]) a1 (w1.alloc (.cells cells'.toArray e (cells'.toArray.size, cells'.toArray.size + 1))) (setμ μ1 s1.nx (some ⟨w1.heap.size, 0, cells'.length⟩)) :=
        ⟨m, R1.size, fun t => (R1.tmp t).mono ex, R1.defers⟩
      have R2 := R'.set (some d1) (.a (.c .undef)) (.slice (some ⟨w1.heap.size, 0, none⟩) len len) trivial
      have R3 := R2.set (some d2) (.a (.c (.own s1.nx 0 0 len))) (.slice (some ⟨w1.heap.size, 0, none⟩) len len) (by
        have hh : ∀ x : St, x.hp = put s1.hp s1.nx (.arr 1 es' 0) → AVOk (· < s1.nx + 32) x.hp (Sv Γ.G x.hp (setμ μ1 s1.nx (some ⟨w1.heap.size, 0, cells'.length⟩)) (w1.alloc (.cells cells'.toArray e (cells'.toArray.size, cells'.toArray.size + 1)))) (setμ μ1 s1.nx (some ⟨w1.heap.size, 0, cells'.length⟩)) (.a (.c (.own s1.nx 0 0 len))) (.slice (some ⟨w1.heap.size, 0, none⟩) len len) := fun x hx => by
          rw [hx]
          refine ⟨⟨by show s1.nx < s1.nx + 32; omega, Nat.zero_le _⟩, rfl, fun sz es hA => ?_⟩
          simp only [arrOf, find_put, if_true, beq_self_eq_true, Option.some.injEq, Prod.mk.injEq] at hA
          obtain ⟨rfl, rfl⟩ := hA
          refine ⟨by omega, ?_⟩
          simp only [setμ, if_true]
          exact ⟨_, _, rfl, .inl (by simp), Nat.le_refl _, by rw [hcl]; simp⟩
        refine hh _ ?_
        unfold St.set
        dsimp only
        split <;> rfl)
      rw [← hd1, ← hd2] at R3
      have hnx : ((s1.upd [(s1.nx, Blk.arr 1 es' 0)]).set o1.dst (.a (.c .undef))).set o2.dst (.a (.c (.own s1.nx 0 0 len))) = ((s1.upd [(s1.nx, Blk.arr 1 es' 0)]).set (some d1) (.a (.c .undef))).set (some d2) (.a (.c (.own s1.nx 0 0 len))) := by rw [hd1, hd2]
      exact WOps_sound hτ (l.drop (k + 2)) (s1.nx + 32) _ _ _ _ _ hK (by rw [hd1, hd2] at R3; rw [hd1, hd2]; exact R3) fun s3 a3 w3 μ3 h3 R3 => ⟨.normal, s3, μ3, trivial, h3, R3⟩
theorem act_litQ {ops : Array Oper} {d1 d2 e : Nat} {d : TD} {len : Nat} {ps : List (Nat × Operand)} {post : List Oper} : act (litQ P τ md ops d1 d2 e d len ps post Q s) = (d1 < s.N ∧ act (litK τ s e ps (List.replicate len (.int .u8 0)) fun es => act (WOps P τ md ops post (s.nx + 32) (((s.upd [(s.nx, .arr 1 es 0)]).set (some d1) (.a (.c .undef))).set (some d2) (.a (.c (.own s.nx 0 0 len)))) (Q .normal)))) := (rfl)
theorem act_act {p : Prop} : act (act p) = act p := (rfl)
end
attribute [go_sem] act_litQ act_act
end Go.Proofs.YtbmibaopkfenbaaDoor.M

/- A machine of values: loops, blocks and code behind code, where a part is shown by a rule of its own. No condition. -/
namespace Go.Proofs.YtbmibaopkfenbaaDoor.M
open Go
set_option linter.unusedSimpArgs false
set_option linter.unusedVariables false
def blockE (i : Nat) (Q : X → St → Prop) (x : X) (s : St) : Prop :=
  match x with
  | .exit j => if j == i then Q .normal s else Q (.exit j) s
  | .normal => Q .normal s
  | .ret => Q .ret s
section
variable {P : Program} {τ : Tab} {md : Nat → Md} {Q : X → St → Prop} {s : St} {c b : Code}
theorem act_blockE_exit {i j : Nat} : act (blockE i Q (.exit j) s) = if j == i then act (Q .normal s) else act (Q (.exit j) s) := by
  show (if j == i then Q .normal s else Q (.exit j) s) = if j == i then Q .normal s else Q (.exit j) s
  rfl
theorem act_blockE_normal {i : Nat} : act (blockE i Q .normal s) = act (Q .normal s) := (rfl)
theorem act_blockE_ret {i : Nat} : act (blockE i Q .ret s) = act (Q .ret s) := (rfl)
theorem WWE_seqE {x : Shut (Code.seq b c)} {y : Shut Q} (h : WWE P b s (contK P c Q) .one .one) : WWE P (.seq b c) s Q x y := fun Γ a w μ R => by
  refine wp_seq (wp_mono (h Γ a w μ R) fun e a' w' ⟨x, s', μ', hx, hq, R'⟩ => ?_)
  cases x with
  | normal =>
    obtain rfl : e = .normal := by cases e <;> first | rfl | exact hx.elim
    exact hq Γ a' w' μ' R'
  | exit i =>
    obtain rfl : e = .exit i := by cases e <;> first | exact hx.elim | exact congrArg _ hx.symm
    exact ⟨_, s', μ', hx, hq, R'⟩
  | ret =>
    obtain rfl : e = .ret := by cases e <;> first | rfl | exact hx.elim
    exact ⟨_, s', μ', hx, hq, R'⟩
theorem WWE_block {i : Nat} {x : Shut (Code.block i c)} {y : Shut Q} (h : WWE P c s (blockE i Q) .one .one) : WWE P (.block i c) s Q x y := fun Γ a w μ R => by
  refine wp_block (wp_mono (h Γ a w μ R) fun e a' w' ⟨x, s', μ', hx, hq, R'⟩ => ?_)
  cases x with
  | normal =>
    cases e <;> first | exact hx.elim | skip
    exact ⟨.normal, s', μ', trivial, hq, R'⟩
  | exit j =>
    obtain ⟨k, rfl⟩ : ∃ k, e = .exit k := by cases e <;> first | exact ⟨_, rfl⟩ | exact hx.elim
    obtain rfl : j = k := hx
    simp only [Exit.inBlock]
    by_cases hji : j = i
    · subst hji
      simp only [blockE, beq_self_eq_true, if_true] at hq ⊢
      exact ⟨.normal, s', μ', trivial, hq, R'⟩
    · have : (j == i) = false := by simpa using hji
      simp only [blockE, this, Bool.false_eq_true, if_false] at hq
      simp only [hji, if_false]
      exact ⟨.exit j, s', μ', rfl, hq, R'⟩
  | ret =>
    cases e <;> first | exact hx.elim | skip
    exact ⟨.ret, s', μ', trivial, hq, R'⟩
theorem WWE_loop {ι : Type} {x : Shut (Code.loop c)} {y : Shut Q} (ks hs : List Nat) (n : Nat) (S : ι → St) (m : ι → Nat) (i : ι) (hsn : s.nx ≤ n) (h0 : tidyB hs n (tidy ks hs n s) = true) (h1 : tidy ks hs n s = S i)
    (round : ∀ i, WWE P c (S i) (loopQ ks hs n S m i Q) .one .one) : WWE P (.loop c) s Q x y := fun Γ a w μ R => by
  have hnx : ∀ {s' : St} {j : ι}, tidy ks hs n s' = S j → (S j).nx = n := fun h => by rw [← h]; rfl
  have hpn : ∀ i b, Γ.pin i = some b → i < n := fun i b hb => Nat.lt_of_lt_of_le (R.mem.pin i b hb).1 hsn
  have R0 := tidy_ok R hpn h0
  rw [h1] at R0
  refine wp_loop_ghost (fun k a w => ∃ i μ, m i = k ∧ (S i).nx = n ∧ Rel Γ (· < n) (S i) a w μ) (m i) ⟨i, μ, rfl, hnx h1, R0⟩ fun k a w ⟨i, μ, hk, hn, R⟩ => ?_
  subst hk
  refine wp_mono (round i Γ a w μ (by rw [hn]; exact R)) fun e a' w' ⟨x, s', μ', hx, hq, R'⟩ => ?_
  cases x with
  | normal =>
    obtain rfl : e = .normal := by cases e <;> first | rfl | exact hx.elim
    obtain ⟨j, h3, h4, h5⟩ := hq
    obtain ⟨μ2, R2⟩ := h5 Γ a' w' μ' R' hpn
    exact ⟨m j, h3, j, μ2, rfl, h4, R2⟩
  | exit j =>
    obtain ⟨k, rfl⟩ : ∃ k, e = .exit k := by cases e <;> first | exact ⟨_, rfl⟩ | exact hx.elim
    exact ⟨.exit j, s', μ', hx, hq, R'⟩
  | ret =>
    obtain rfl : e = .ret := by cases e <;> first | rfl | exact hx.elim
    exact ⟨.ret, s', μ', hx, hq, R'⟩
end
attribute [go_sem] act_blockE_exit act_blockE_normal act_blockE_ret
end Go.Proofs.YtbmibaopkfenbaaDoor.M
