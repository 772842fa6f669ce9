/- A machine of values: each operation does on the machine what is told of it, part 1. No condition. -/
import Derived.Test.YtbmdncjnnlajnaaM4
import Derived.Laws.Pointers
namespace Go.Proofs.Ytbmdncjnnlajnaa.M
open Go
set_option linter.unusedSimpArgs false
set_option linter.unusedVariables false
set_option linter.unusedSectionVars false

def al16 (al : Nat → Prop) (n : Nat) : Nat → Prop := fun i => al i ∨ (n ≤ i ∧ i < n + 16)

/-- What is left to be shown behind an operation. -/
def Nxt (Γ : Ctx) (al : Nat → Prop) (s : St) (a : Act) (w : World) (μ : Nat → Option Pl) (n : Nat) (dst : Option Tmp) (K : AV → List (Nat × Blk) → Prop) (next : Act → World → Prop) : Prop :=
  ∀ v u val w' μ', K v u → Mem Γ (al16 al n) (s.upd u).hp w' μ' → Ext al (al16 al n) s.hp (s.upd u).hp (Sv Γ.G s.hp μ w) (Sv Γ.G (s.upd u).hp μ' w') μ μ' →
    AVOk (al16 al n) (s.upd u).hp (Sv Γ.G (s.upd u).hp μ' w') μ' v val → next (a.put dst val) w'

theorem wp_val {P : Program} {o : Oper} {a : Act} {w w' : World} {val : Value} {next : Act → World → Prop} {Q : Exit → Act → World → Prop}
    (hrun : (execOp a.eval o).run P w = .ok (.value val) w') (h : next (a.put o.dst val) w') : o.wp P a w next Q := by unfold Oper.wp; rw [hrun]; exact h

section
variable {P : Program} {τ : Tab} {Γ : Ctx} {al : Nat → Prop} {s : St} {a : Act} {w : World} {μ : Nat → Option Pl} {n : Nat} {dst : Option Tmp} {K : AV → List (Nat × Blk) → Prop} {next : Act → World → Prop}

theorem Nxt.same (N : Nxt Γ al s a w μ n dst K next) (R : Rel Γ al s a w μ) {w' : World} (hf : Fr [] w w') {v : AV} {val : Value} (hK : K v []) (hv : AVOk al s.hp (Sv Γ.G s.hp μ w) μ v val) : next (a.put dst val) w' := by
  obtain ⟨m, e⟩ := R.mem.grow hf (al' := al16 al n) (fun _ h => .inl h)
  exact N v [] val w' μ hK m e (hv.mono e)
theorem Nxt.quiet (N : Nxt Γ al s a w μ n dst K next) (R : Rel Γ al s a w μ) {v : AV} {val : Value} (hK : K v []) (hv : AVOk al s.hp (Sv Γ.G s.hp μ w) μ v val) : next (a.put dst val) w :=
  N.same R (Fr.refl _ _) hK hv
theorem Nxt.new (N : Nxt Γ al s a w μ n dst K next) (R : Rel Γ al s a w μ) (hn : ¬ al n) {w' : World} (hf : Fr [] w w') {v : AV} {val : Value} {b : Blk} {p : Option Pl} (hK : K v [(n, b)])
    (hp1 : ∀ q, p = some q → w.heap.size ≤ q.b ∧ q.b < w'.heap.size) (hb : BlkOk al s.hp (Sv Γ.G s.hp μ w) μ w' b p)
    (hv : AVOk (al16 al n) (put s.hp n b) (Sv Γ.G (put s.hp n b) (setμ μ n p) w') (setμ μ n p) v val) : next (a.put dst val) w' := by
  obtain ⟨m, e⟩ := R.mem.new hf (al' := al16 al n) (fun _ h => .inl h) hn (.inr ⟨Nat.le_refl _, by omega⟩) b p hp1 hb
  exact N v [(n, b)] val w' (setμ μ n p) hK m e hv

theorem Nxt.move (N : Nxt Γ al s a w μ n dst K next) (R : Rel Γ al s a w μ) {i : Nat} {b0 : Blk} (hb0 : find s.hp i = some b0) {w' : World} (hf : Fr [] w w') {v : AV} {val : Value} {b : Blk} {p : Option Pl} (hK : K v [(i, b)])
    (hv : verOf s.hp i ≤ verOf (put s.hp i b) i) (harr : ∀ ver, ver ≤ verOf s.hp i → arrOf (put s.hp i b) i ver = none) (hbox : ∀ cs, b ≠ .box cs)
    (hp1 : ∀ q, p = some q → w.heap.size ≤ q.b ∧ q.b < w'.heap.size) (hb : BlkOk al s.hp (Sv Γ.G s.hp μ w) μ w' b p)
    (hval : AVOk (al16 al n) (put s.hp i b) (Sv Γ.G (put s.hp i b) (setμ μ i p) w') (setμ μ i p) v val) : next (a.put dst val) w' := by
  obtain ⟨m, e⟩ := R.mem.move hf (al' := al16 al n) (fun _ h => .inl h) hb0 b p hv harr hbox hp1 hb
  exact N v [(i, b)] val w' (setμ μ i p) hK m e hval

theorem ofValue_ok (sz : Nat) (v : Value) : AVOk al s.hp (Sv Γ.G s.hp μ w) μ (ofValue sz v) v := by
  unfold ofValue
  split
  · exact ⟨.int _ _, rfl⟩
  · exact ⟨.bool _, rfl⟩
  · exact ⟨.str _, rfl⟩
  · exact rfl
  · exact rfl
  · trivial
theorem eval_ok (R : Rel Γ al s a w μ) (t : Nat) (x : Operand) : AVOk al s.hp (Sv Γ.G s.hp μ w) μ (s.eval τ t x) (a.eval x) := by
  cases x with
  | tmp i => exact R.tmp i
  | const v => exact ofValue_ok _ v
  | func f => exact rfl
  | global g => trivial

/-! A plain cell's value. -/
theorem t_int {S : Addr → Option Value} {k : IntKind} {n : Int} {v : Value} (h : Hold S (.int k n) v) : v = .int k n := by cases h; rfl
theorem t_bool {S : Addr → Option Value} {b : Bool} {v : Value} (h : Hold S (.bool b) v) : v = .bool b := by cases h; rfl
theorem t_str {S : Addr → Option Value} {b : ByteArray} {v : Value} (h : Hold S (.str b) v) : v = .string b := by cases h; rfl
theorem eval_int (R : Rel Γ al s a w μ) {t : Nat} {x : Operand} {k : IntKind} {n : Int} (h : s.eval τ t x = .a (.c (.t (.int k n)))) : a.eval x = .int k n := by
  have := eval_ok (τ := τ) R t x; rw [h] at this; exact t_int this.1
theorem eval_bool (R : Rel Γ al s a w μ) {t : Nat} {x : Operand} {b : Bool} (h : s.eval τ t x = .a (.c (.t (.bool b)))) : a.eval x = .bool b := by
  have := eval_ok (τ := τ) R t x; rw [h] at this; exact t_bool this.1
theorem eval_str (R : Rel Γ al s a w μ) {t : Nat} {x : Operand} {b : ByteArray} (h : s.eval τ t x = .a (.c (.t (.str b)))) : a.eval x = .string b := by
  have := eval_ok (τ := τ) R t x; rw [h] at this; exact t_str this.1

variable {o : Oper} {Q : Exit → Act → World → Prop} {md : Nat → Bool}

theorem op_move (R : Rel Γ al s a w μ) {x : Operand} (ho : o.op = .move x ∨ o.op = .assign x) (hK : K (s.eval τ o.type x) []) (N : Nxt Γ al s a w μ n o.dst K next) : o.wp P a w next Q := by
  have hr : (execOp a.eval o).run P w = .ok (.value (a.eval x)) w := by rcases ho with ho | ho <;> simp [execOp, ho]
  exact wp_val hr (N.quiet R hK (eval_ok R _ _))

theorem op_pick (R : Rel Γ al s a w μ) {c x y : Operand} (ho : o.op = .pick c x y) (h : op P τ md o s n K) (N : Nxt Γ al s a w μ n o.dst K next) : o.wp P a w next Q := by
  simp only [op, ho] at h
  split at h
  · rename_i c' x' y' hc hx hy
    have e1 := eval_bool R hc
    have e2 := eval_bool R hx
    have e3 := eval_bool R hy
    refine wp_val (val := .bool (if c' then x' else y')) (by cases c' <;> simp [execOp, asBool, ho, e1, e2, e3]) (N.quiet R h ⟨.bool _, rfl⟩)
  · rename_i c' hc _
    have e1 := eval_bool R hc
    cases c' with
    | true => exact wp_val (val := a.eval x) (by simp [execOp, asBool, ho, e1]) (N.quiet R (h.1 rfl) (eval_ok R _ _))
    | false => exact wp_val (val := a.eval y) (by simp [execOp, asBool, ho, e1]) (N.quiet R (h.2 rfl) (eval_ok R _ _))
  · exact h.elim

theorem zOk_COk {c : C} {v : Value} (h : zOk c v) : COk al s.hp (Sv Γ.G s.hp μ w) μ c v := by
  unfold zOk at h
  split at h
  · obtain ⟨rfl, rfl⟩ := h; exact ⟨.int _ _, rfl⟩
  · subst h; exact ⟨.bool _, rfl⟩
  · subst h; exact ⟨.str _, rfl⟩
  · exact rfl
  · exact rfl
  · exact h.elim

/-- A new row of cells. -/
theorem new_row (w : World) (cs : Array Value) (t : TypeId) : (∀ (j : Nat) v, cs.toList[j]? = some v → (w.alloc (.cells cs t)).cell? ⟨w.heap.size, j, none⟩ = some v ∧ (w.alloc (.cells cs t)).frozen? ⟨w.heap.size, j, none⟩ = false) := by
  intro j v h
  refine ⟨?_, by simp⟩
  rw [World.cell?_alloc_new]
  simpa using h

theorem op_alloc (hτ : TOk P τ) (R : Rel Γ al s a w μ) (hn : ¬ al n) {t : TypeId} (ho : o.op = .alloc t) (h : op P τ md o s n K) (N : Nxt Γ al s a w μ n o.dst K next) : o.wp P a w next Q := by
  simp only [op, ho] at h
  split at h
  · rename_i d hd
    obtain ⟨i, z, h1, h2, h3, h4, h5, h6, h7, h8⟩ := (hτ t d hd).info
    refine wp_val (val := .pointer (some ⟨w.heap.size, 0, none⟩)) (w' := w.alloc (.cells z.cells t)) (by simp [execOp, ho, Instr.alloc, zeroValue, typeInfo, h1, h4, newVar, newRow]) ?_
    refine N.new R hn (Fr.alloc _ _) (p := some ⟨w.heap.size, 0, z.cells.size⟩) h (fun q hq => by obtain rfl := Option.some.inj hq; simp) ?_ ?_
    · exact ⟨rfl, z.cells.toList, ⟨by simp [h5, h6], h7, fun j c v a b => zOk_COk (h8 j c v a b)⟩, new_row _ _ _⟩
    · refine ⟨.inr ⟨Nat.le_refl _, by omega⟩, rfl, fun cs hcs => ⟨⟨w.heap.size, 0, z.cells.size⟩, by simp [setμ], rfl⟩⟩
  · exact h.elim

theorem COk.one {S : Addr → Option Value} {hp : List (Nat × Blk)} {c : C} {v : Value} (h : COk al hp S μ c v) (hc : c.there = true) : v.oneCell' = true := by
  cases c with
  | undef => simp [C.there] at hc
  | t x => exact h.2
  | nil sz => obtain rfl := h; rfl
  | nilp => obtain rfl := h; rfl
  | own i ver off len => exact h.2.1
  | ptr i off => exact h.2.1
  | eptr i ver ix sb => exact h.2.1
  | vptr sz es ix sb => obtain ⟨a, rfl, _⟩ := h; rfl
  | fn f => obtain rfl := h; rfl
end
end Go.Proofs.Ytbmdncjnnlajnaa.M
