/- A machine of values: each operation does on the machine what is told of it, part 2: reading. No condition. -/
import Derived.Test.YtbmdncjnnlajnaaM5
namespace Go.Proofs.Ytbmdncjnnlajnaa.M
open Go
set_option linter.unusedSimpArgs false
set_option linter.unusedVariables false
set_option linter.unusedSectionVars false

theorem add_add (a : Addr) (i j : Nat) : (a.add i).add j = a.add (i + j) := by
  unfold Addr.add
  by_cases hi : i = 0
  · subst hi; simp
  · by_cases hj : j = 0
    · subst hj; simp [hi]
    · have : ¬ (i = 0 ∧ j = 0) := fun h => hi h.1
      simp [hi, hj, Nat.add_assoc]
theorem add_mk (b o j : Nat) : (⟨b, o, none⟩ : Addr).add j = ⟨b, o + j, none⟩ := by
  unfold Addr.add; split <;> simp_all

theorem flat_cons (e : T) (r : List T) : flat (e :: r) = e.cells ++ flat r := by simp [flat]
theorem flat_append (a b : List T) : flat (a ++ b) = flat a ++ flat b := by simp [flat]
theorem flat_length {es : List T} {sz : Nat} (h : ∀ e ∈ es, e.cells.length = sz) : (flat es).length = es.length * sz := by
  induction es with
  | nil => simp [flat]
  | cons e r ih =>
    have h1 := h e (by simp)
    have h2 := ih (fun x hx => h x (by simp [hx]))
    rw [flat_cons, List.length_append, h1, h2, List.length_cons, Nat.succ_mul]; omega
theorem flat_drop {es : List T} {sz : Nat} (h : ∀ e ∈ es, e.cells.length = sz) (i : Nat) : (flat es).drop (i * sz) = flat (es.drop i) := by
  induction es generalizing i with
  | nil => simp [flat]
  | cons e r ih =>
    cases i with
    | zero => simp
    | succ i =>
      have h1 := h e (by simp)
      have h2 := ih (fun x hx => h x (by simp [hx])) i
      rw [flat_cons, List.drop_succ_cons, ← h2, Nat.succ_mul, Nat.add_comm, ← h1, List.drop_length_add_append]
theorem flat_take {es : List T} {sz : Nat} (h : ∀ e ∈ es, e.cells.length = sz) (i : Nat) : (flat es).take (i * sz) = flat (es.take i) := by
  induction es generalizing i with
  | nil => simp [flat]
  | cons e r ih =>
    cases i with
    | zero => simp [flat]
    | succ i =>
      have h1 := h e (by simp)
      have h2 := ih (fun x hx => h x (by simp [hx])) i
      rw [flat_cons, List.take_succ_cons, flat_cons, ← h2, Nat.succ_mul, Nat.add_comm, ← h1, List.take_length_add_append]
/-- An element's cells among all. -/
theorem flat_elem {es : List T} {sz : Nat} (h : ∀ e ∈ es, e.cells.length = sz) {i : Nat} {e : T} (he : es[i]? = some e) (j : Nat) (hj : j < sz) : (flat es)[i * sz + j]? = e.cells[j]? := by
  have h1 : es.drop i = e :: es.drop (i + 1) := by
    obtain ⟨hi, rfl⟩ := List.getElem?_eq_some_iff.1 he
    exact List.drop_eq_getElem_cons hi
  have h2 : e.cells.length = sz := h e (List.mem_of_getElem? he)
  rw [← List.getElem?_drop, flat_drop h, h1, flat_cons, List.getElem?_append_left (by omega)]

/-- The value of a part of some cells. -/
def pv (d : TD) (vs : List Value) (off : Nat) : Value := if d.ag then .agg ((vs.drop off).take d.sz).toArray else vs.getD off undef

theorem run_loadVar' {P : Program} {τ : Tab} (hτ : TOk P τ) (w : World) {t : Nat} {d : TD} (hd : find τ t = some d) (a : Addr) (vs : List Value) (off : Nat)
    (hv : ∀ (j : Nat) v, vs[j]? = some v → w.cell? (a.add j) = some v) (h1 : d.ag = true → off + d.sz ≤ vs.length) (h2 : d.ag = false → off < vs.length) :
    (loadVar t (a.add off)).run P w = .ok (pv d vs off) w := by
  unfold loadVar pv
  rw [Sem.run_bind, run_isAgg' hτ w hd]
  simp only [Result.andThen_ok]
  cases hag : d.ag with
  | true =>
    simp only [if_true]
    have hl : ((vs.drop off).take d.sz).length = d.sz := by simp; have := h1 hag; omega
    have := run_loadCells_list (P := P) w (a.add off) ((vs.drop off).take d.sz) (fun j v hj => by
      rw [add_add]; refine hv _ _ ?_
      have hlt : j < d.sz := by have := (List.getElem?_eq_some_iff.1 hj).1; omega
      rw [List.getElem?_take_of_lt hlt, List.getElem?_drop] at hj; exact hj)
    rw [hl] at this
    simp [run_sizeOf' hτ w hd, this]
  | false =>
    have hlt := h2 hag
    have hg : vs[off]? = some (vs.getD off undef) := by
      rw [List.getD_eq_getElem?_getD, List.getElem?_eq_getElem hlt]; rfl
    simp only [Bool.false_eq_true, if_false]
    simp [load, Sem.run, hv _ _ hg]

section
variable {P : Program} {τ : Tab} {Γ : Ctx} {al : Nat → Prop} {s : St} {a : Act} {w : World} {μ : Nat → Option Pl} {n : Nat} {K : AV → List (Nat × Blk) → Prop} {next : Act → World → Prop}
variable {o : Oper} {Q : Exit → Act → World → Prop} {md : Nat → Bool} {hp : List (Nat × Blk)} {S : Addr → Option Value}

theorem part_ok {d : TD} {cs : List C} {vs : List Value} {off : Nat} {K : A → Prop} (hc : CsOk al hp S μ cs vs) (h : partK d cs off K) :
    ∃ x, K x ∧ AOk al hp S μ x (pv d vs off) ∧ (d.ag = true → off + d.sz ≤ vs.length) ∧ (d.ag = false → off < vs.length) := by
  unfold partK at h
  unfold pv
  cases hag : d.ag with
  | true =>
    rw [hag] at h
    simp only [if_true] at h
    refine ⟨_, h.2, ⟨_, rfl, ?_, ?_, ?_⟩, fun _ => by rw [hc.1]; exact h.1, fun h => (by cases h)⟩
    · simp [hc.1]
    · exact fun v hv => hc.2.1 v (List.mem_of_mem_drop (List.mem_of_mem_take hv))
    · intro j c v h1 h2
      have hlt : j < d.sz := by have := (List.getElem?_eq_some_iff.1 h1).1; simp at this; omega
      rw [List.getElem?_take_of_lt hlt, List.getElem?_drop] at h1 h2
      exact hc.2.2 _ _ _ h1 h2
  | false =>
    rw [hag] at h
    simp only [Bool.false_eq_true, if_false] at h
    split at h
    · rename_i c hcc
      have hlt : off < vs.length := by rw [hc.1]; exact (List.getElem?_eq_some_iff.1 hcc).1
      refine ⟨_, h, ?_, fun h => (by cases h), fun _ => hlt⟩
      have hg : vs[off]? = some (vs.getD off undef) := by
        rw [List.getD_eq_getElem?_getD, List.getElem?_eq_getElem hlt]; rfl
      simp only [Bool.false_eq_true, if_false]
      exact hc.2.2 _ _ _ hcc hg
    · exact h.elim

theorem CsOk_of_HoldL {ts : List T} {vs : List Value} (h : HoldL S ts vs) : CsOk al hp S μ (ts.map C.t) vs := by
  refine ⟨by simp [h.1], h.2.1, fun j c v h1 h2 => ?_⟩
  rw [List.getElem?_map, Option.map_eq_some_iff] at h1
  obtain ⟨t, h1, rfl⟩ := h1
  exact ⟨h.2.2 j t v h1 h2, h.2.1 v (List.mem_of_getElem? h2)⟩

/-- An element's cells, held. -/
theorem HoldL.elem {es : List T} {vs : List Value} {sz i : Nat} {e : T} (h : HoldL S (flat es) vs) (hsz : ∀ e ∈ es, e.cells.length = sz) (he : es[i]? = some e) :
    HoldL S e.cells ((vs.drop (i * sz)).take sz) := by
  have hl : e.cells.length = sz := hsz e (List.mem_of_getElem? he)
  have hi := (List.getElem?_eq_some_iff.1 he).1
  have hfl := flat_length hsz
  have hmul : (i + 1) * sz ≤ es.length * sz := Nat.mul_le_mul_right _ hi
  rw [Nat.succ_mul] at hmul
  refine ⟨by simp [h.1, hfl, hl]; omega, fun v hv => h.2.1 v (List.mem_of_mem_drop (List.mem_of_mem_take hv)), fun j t v h1 h2 => ?_⟩
  have hlt : j < sz := by have := (List.getElem?_eq_some_iff.1 h1).1; omega
  rw [List.getElem?_take_of_lt hlt, List.getElem?_drop] at h2
  rw [← flat_elem hsz he j hlt] at h1
  exact h.2.2 _ _ _ h1 h2

theorem arrOf_arr {hp : List (Nat × Blk)} {i v v' sz : Nat} {es : List T} (h : find hp i = some (.arr sz es v')) (hv : (v == v') = true) : arrOf hp i v = some (sz, es) := by simp [arrOf, h, hv]
theorem arrOf_froz {hp : List (Nat × Blk)} {i v v' sz : Nat} {es : List T} (h : find hp i = some (.froz sz es v')) (hv : (v == v') = true) : arrOf hp i v = some (sz, es) := by simp [arrOf, h, hv]

/-- A list of the call's own, live or frozen: its cells. -/
theorem arr_cells (M : Mem Γ al hp w μ) {i v sz : Nat} {es : List T} (h : arrOf hp i v = some (sz, es)) {p : Pl} (hp' : μ i = some p) :
    ∃ vs : List Value, HoldL (Sv Γ.G hp μ w) (flat es) vs ∧ (∀ (j : Nat) v, vs[j]? = some v → w.cell? ⟨p.b, p.base + j, none⟩ = some v) ∧ ∀ e ∈ es, e.cells.length = sz := by
  unfold arrOf at h
  split at h
  · rename_i sz' es' v' hf
    split at h
    · obtain ⟨rfl, rfl⟩ := Prod.mk.inj (Option.some.inj h)
      have := M.blk i _ hf
      rw [hp'] at this
      obtain ⟨vs, h1, h2, h3, _⟩ := this
      exact ⟨vs, h1, h2, h3⟩
    · cases h
  · rename_i sz' es' v' hf
    split at h
    · obtain ⟨rfl, rfl⟩ := Prod.mk.inj (Option.some.inj h)
      have := M.blk i _ hf
      rw [hp'] at this
      obtain ⟨vs, h1, h2, h3⟩ := this
      exact ⟨vs, h1, fun j v hv => by have := h2 j v hv; rw [add_mk, Sv_some] at this; exact this.2, h3⟩
    · cases h
  · cases h
theorem arr_none (M : Mem Γ al hp w μ) {i v sz : Nat} {es : List T} (h : arrOf hp i v = some (sz, es)) (hp' : μ i = none) : es = [] := by
  unfold arrOf at h
  split at h
  · rename_i sz' es' v' hf
    split at h
    · obtain ⟨rfl, rfl⟩ := Prod.mk.inj (Option.some.inj h)
      have := M.blk i _ hf
      rw [hp'] at this
      exact this
    · cases h
  · rename_i sz' es' v' hf
    split at h
    · obtain ⟨rfl, rfl⟩ := Prod.mk.inj (Option.some.inj h)
      have := M.blk i _ hf
      rw [hp'] at this
      exact this
    · cases h
  · cases h

theorem load_elem (hτ : TOk P τ) (R : Rel Γ al s a w μ) {t : TypeId} {x : Operand} (ho : o.op = .load t x) {d : TD} (hd : find τ t = some d) {es : List T} {vs : List Value} {sz ix sb : Nat} {e : T} {a0 : Addr}
    (hx : a.eval x = .pointer (some (a0.add (ix * sz + sb)))) (hH : HoldL (Sv Γ.G s.hp μ w) (flat es) vs) (hv : ∀ (j : Nat) v, vs[j]? = some v → w.cell? (a0.add j) = some v) (hsz : ∀ e ∈ es, e.cells.length = sz)
    (he : es[ix]? = some e) (h : partK d (e.cells.map C.t) sb fun a => K (.a a) []) (N : Nxt Γ al s a w μ n o.dst K next) : o.wp P a w next Q := by
  have hE := hH.elem hsz he
  obtain ⟨y, hK, hA, h1, h2⟩ := part_ok (CsOk_of_HoldL hE (al := al) (hp := s.hp) (μ := μ)) h
  have hr := run_loadVar' hτ w hd (a0.add (ix * sz)) ((vs.drop (ix * sz)).take sz) sb (fun j v hj => by
    have hlt : j < sz := by have := (List.getElem?_eq_some_iff.1 hj).1; simp at this; omega
    rw [List.getElem?_take_of_lt hlt, List.getElem?_drop] at hj
    rw [add_add]; exact hv _ _ hj) h1 h2
  rw [add_add] at hr
  exact wp_val (by simp [execOp, ho, Instr.loadAt, Instr.sureAddr, hx, hr]) (N.quiet R hK hA)

theorem op_load (hτ : TOk P τ) (R : Rel Γ al s a w μ) {t : TypeId} {x : Operand} (ho : o.op = .load t x) (h : op P τ md o s n K) (N : Nxt Γ al s a w μ n o.dst K next) : o.wp P a w next Q := by
  have hx := eval_ok (τ := τ) R 0 x
  simp only [op, ho] at h
  split at h
  · rename_i d i off hd he
    rw [he] at hx
    split at h
    · rename_i cs hb
      obtain ⟨p, hp1, hp2⟩ := hx.2.2 _ hb
      have hB := R.mem.blk _ _ hb
      rw [hp1] at hB
      obtain ⟨h0, vs, hC, hc⟩ := hB
      obtain ⟨y, hK, hA, h1, h2⟩ := part_ok hC h
      have hr := run_loadVar' hτ w hd ⟨p.b, 0, none⟩ vs off (fun j v hj => by rw [add_mk, Nat.zero_add]; exact (hc j v hj).1) h1 h2
      rw [add_mk, Nat.zero_add] at hr
      exact wp_val (by simp [execOp, ho, Instr.loadAt, Instr.sureAddr, hp2, hr]) (N.quiet R hK hA)
    · exact h.elim
  · rename_i d i v ix sb hd he
    rw [he] at hx
    have key : ∀ sz es, arrOf s.hp i v = some (sz, es) → ∀ e, es[ix]? = some e → (partK d (e.cells.map C.t) sb fun a => K (.a a) []) → o.wp P a w next Q := fun sz es hA e hee hp' => by
      obtain ⟨p, hp1, hp2⟩ := hx.2.2 _ _ hA
      obtain ⟨vs, h1, h2, h3⟩ := arr_cells R.mem hA hp1
      exact load_elem hτ R ho hd (a0 := ⟨p.b, p.base, none⟩) (by rw [hp2, add_mk, Nat.add_assoc]) h1 (fun j v hj => by rw [add_mk]; exact h2 j v hj) h3 hee hp' N
    split at h
    · rename_i hb
      split at h
      · rename_i e hee; exact key _ _ hb e hee h
      · exact h.elim
    · exact h.elim
  · rename_i d sz es ix sb hd he
    rw [he] at hx
    split at h
    · rename_i e hee
      obtain ⟨a0, h1, vs, h2, h3, h4⟩ := hx
      exact load_elem hτ R ho hd h1 h2 (fun j v hj => (Sv_some.1 (h3 j v hj)).2) h4 hee h N
    · exact h.elim
  · exact h.elim

theorem op_nilCheck (R : Rel Γ al s a w μ) {x : Operand} (ho : o.op = .nilCheck x) (h : op P τ md o s n K) (N : Nxt Γ al s a w μ n o.dst K next) : o.wp P a w next Q := by
  have hx := eval_ok (τ := τ) R 0 x
  have hx' := hx
  simp only [op, ho] at h
  split at h
  · rename_i i off he
    rw [he] at hx hx'
    split at h
    · rename_i cs hb
      obtain ⟨p, hp1, hp2⟩ := hx.2.2 _ hb
      exact wp_val (by simp [execOp, ho, hp2]) (N.quiet R h (hp2 ▸ hx'))
    · exact h.elim
  · rename_i he
    rw [he] at hx hx'
    obtain ⟨a0, h1, _⟩ := hx
    exact wp_val (by simp [execOp, ho, h1]) (N.quiet R h (h1 ▸ hx'))
  · exact h.elim

theorem op_extract (R : Rel Γ al s a w μ) {x : Operand} {i : Nat} (ho : o.op = .extract x i) (h : op P τ md o s n K) (N : Nxt Γ al s a w μ n o.dst K next) : o.wp P a w next Q := by
  have hx := eval_ok (τ := τ) R 0 x
  simp only [op, ho] at h
  split at h
  · rename_i xs he
    rw [he] at hx
    obtain ⟨vs, h1, h2, h3⟩ := hx
    split at h
    · rename_i y hy
      have hlt : i < vs.length := by rw [h2]; exact (List.getElem?_eq_some_iff.1 hy).1
      have hg : vs[i]? = some vs[i] := List.getElem?_eq_getElem hlt
      exact wp_val (val := vs[i]) (by simp [execOp, ho, h1, Instr.extract, hlt]) (N.quiet R h (h3 i _ _ hy hg))
    · exact h.elim
  · exact h.elim

theorem eval_len (R : Rel Γ al s a w μ) {v : Value} {i ver off len sz : Nat} {es : List T} (h : COk al s.hp (Sv Γ.G s.hp μ w) μ (.own i ver off len) v) (ha : arrOf s.hp i ver = some (sz, es)) :
    ∃ p cap, v = .slice p len cap := by
  obtain ⟨_, h2⟩ := h.2.2 _ _ ha
  unfold SlOk at h2
  split at h2
  · obtain ⟨_, rfl, q, rfl⟩ := h2; exact ⟨_, _, rfl⟩
  · obtain ⟨a, cap, rfl, _⟩ := h2; exact ⟨_, _, rfl⟩

theorem slice_of_list {S : Addr → Option Value} {sz : Nat} {es : List T} {v : Value} (h : Hold S (.list sz es) v) : ∃ p cap, v = .slice p es.length cap := by
  cases h with
  | nil => exact ⟨_, _, rfl⟩
  | list sz es a n c vs hn => subst hn; exact ⟨_, _, rfl⟩

theorem toList_one {α : Type} {x : α} {xs : Array α} (h : xs.toList = [x]) : xs = #[x] := by cases xs; simp_all
theorem toList_two {α : Type} {x y : α} {xs : Array α} (h : xs.toList = [x, y]) : xs = #[x, y] := by cases xs; simp_all

theorem op_len (hτ : TOk P τ) (R : Rel Γ al s a w μ) {xs : Array Operand} {ts : Array TypeId} (ho : o.op = .call ⟨.builtin .len, xs, ts⟩) (h : op P τ md o s n K) (N : Nxt Γ al s a w μ n o.dst K next) : o.wp P a w next Q := by
  simp only [op, ho] at h
  split at h
  · rename_i x t hxs hts
    obtain rfl := toList_one hxs
    obtain rfl := toList_one hts
    have hx := eval_ok (τ := τ) R t x
    have hsl : ∀ e p l c, (tg τ t).k = .slice e → a.eval x = .slice p l c → (execOp a.eval o).run P w = .ok (.value (.int .i64 l)) w := fun e p l c hk hx => by
      have hk' := (hτ t _ (find_of_k (by rw [hk]; simp))).k
      simp only [kOk, hk] at hk'
      simp [execOp, ho, resolve, invoke, builtin, Builtin.len_, run_underlying hk'.1, hx, goInt]
    split at h
    · rename_i b hk he
      have hk' := (hτ t _ (find_of_k (by rw [hk]; simp))).k
      simp only [kOk, hk] at hk'
      have he' := eval_str R he
      exact wp_val (val := .int .i64 b.size) (by simp [execOp, ho, resolve, invoke, builtin, Builtin.len_, run_underlying hk', he', goInt]) (N.quiet R h ⟨.int _ _, rfl⟩)
    · rename_i hk he
      rw [he] at hx
      obtain ⟨p, c, hx⟩ := slice_of_list hx.1
      exact wp_val (hsl _ _ _ _ hk hx) (N.quiet R h ⟨.int _ _, rfl⟩)
    · rename_i hk he
      rw [he] at hx
      exact wp_val (hsl _ _ _ _ hk hx) (N.quiet R h ⟨.int _ _, rfl⟩)
    · rename_i i v off len hk he
      rw [he] at hx
      split at h
      · rename_i hb
        obtain ⟨p, c, hx⟩ := eval_len R hx hb
        exact wp_val (hsl _ _ _ _ hk hx) (N.quiet R h ⟨.int _ _, rfl⟩)
      · exact h.elim
    · exact h.elim
  · exact h.elim

theorem op_index (hτ : TOk P τ) (R : Rel Γ al s a w μ) {t : TypeId} {x i : Operand} (ho : o.op = .index t x i) (h : op P τ md o s n K) (N : Nxt Γ al s a w μ n o.dst K next) : o.wp P a w next Q := by
  simp only [op, ho] at h
  split at h
  · rename_i b ix hk he hi
    have hk' := (hτ t _ (find_of_k (by rw [hk]; simp))).k
    simp only [kOk, hk] at hk'
    have he' := eval_str R he
    have hi' : ∃ k, a.eval i = .int k ix := by
      unfold intA at hi
      split at hi
      · rename_i k m hm; obtain rfl := Option.some.inj hi; exact ⟨k, eval_int R hm⟩
      · cases hi
    obtain ⟨k, hi'⟩ := hi'
    obtain ⟨h1, h2, h3⟩ := h
    have hlt : ix.toNat < b.size := by omega
    have hg : b[ix.toNat]? = some (b.data.getD ix.toNat 0) := by
      have hlt' : ix.toNat < b.data.size := hlt
      rw [getElem?_pos b ix.toNat hlt, Array.getD_eq_getD_getElem?, Array.getElem?_eq_getElem hlt']; rfl
    exact wp_val (val := .int .u8 (b.data.getD ix.toNat 0).toNat) (by simp [execOp, ho, Instr.index, asIntOf, run_underlying hk', he', hi', h1, hg]) (N.quiet R h3 ⟨.int _ _, rfl⟩)
  · exact h.elim

theorem intA_ok (R : Rel Γ al s a w μ) {t : Nat} {i : Operand} {ix : Int} (hi : intA (s.eval τ t i) = some ix) : ∃ k, a.eval i = .int k ix := by
  unfold intA at hi
  split at hi
  · rename_i k m hm; obtain rfl := Option.some.inj hi; exact ⟨k, eval_int R hm⟩
  · cases hi
end
end Go.Proofs.Ytbmdncjnnlajnaa.M
