/- A machine of values: how its states stand to the machine's; what code does. Definitions and first lemmas. No condition. -/
import Derived.Test.YtbmdncjnnlajnaaM2
namespace Go.Proofs.Ytbmdncjnnlajnaa.M
open Go
set_option linter.unusedSimpArgs false
set_option linter.unusedVariables false

/-- What a call was handed: the blocks that its views may lie in, the world then, the blocks that are its own from then on. -/
structure Ctx where
  G : Nat → Prop
  w0 : World
  bs0 : List Nat
  pin : Nat → Option Nat
structure Pl where
  b : Nat
  base : Nat
  room : Nat

def Blk.live : Blk → Bool
  | .froz .. => false
  | _ => true
def live (hp : List (Nat × Blk)) (i : Nat) : Prop := ∃ b, find hp i = some b ∧ b.live = true

open Classical in
/-- The memory that is none of the call's own live blocks. -/
noncomputable def Sv (G : Nat → Prop) (hp : List (Nat × Blk)) (μ : Nat → Option Pl) (w : World) : Addr → Option Value :=
  fun a => if G a.block ∧ ¬ ∃ i p, live hp i ∧ μ i = some p ∧ p.b = a.block then w.cell? a else none

def SlOk (p : Option Pl) (sz off len : Nat) (v : Value) : Prop :=
  match p with
  | none => off = 0 ∧ len = 0 ∧ ∃ q, v = .slice q 0 0
  | some p => ∃ a cap, v = .slice (some a) len cap ∧ (a = ⟨p.b, p.base + off * sz, none⟩ ∨ cap = 0) ∧ len ≤ cap ∧ (off + cap) * sz ≤ p.room

def VpOk (S : Addr → Option Value) (sz : Nat) (es : List T) (a : Addr) : Prop :=
  ∃ vs : List Value, HoldL S (flat es) vs ∧ (∀ (j : Nat) v, vs[j]? = some v → S (a.add j) = some v) ∧ ∀ e ∈ es, e.cells.length = sz

def COk (al : Nat → Prop) (hp : List (Nat × Blk)) (S : Addr → Option Value) (μ : Nat → Option Pl) : C → Value → Prop
  | .undef, _ => True
  | .t x, v => Hold S x v ∧ v.oneCell' = true
  | .nil _, v => v = .slice none 0 0
  | .nilp, v => v = .pointer none
  | .own i ver off len, v => (al i ∧ ver ≤ verOf hp i) ∧ v.oneCell' = true ∧ ∀ sz es, arrOf hp i ver = some (sz, es) → off + len ≤ es.length ∧ SlOk (μ i) sz off len v
  | .ptr i off, v => al i ∧ v.oneCell' = true ∧ ∀ cs, find hp i = some (.box cs) → ∃ p, μ i = some p ∧ v = .pointer (some ⟨p.b, off, none⟩)
  | .eptr i ver ix sb, v => (al i ∧ ver ≤ verOf hp i) ∧ v.oneCell' = true ∧ ∀ sz es, arrOf hp i ver = some (sz, es) → ∃ p, μ i = some p ∧ v = .pointer (some ⟨p.b, p.base + ix * sz + sb, none⟩)
  | .vptr sz es ix sb, v => ∃ a, v = .pointer (some (a.add (ix * sz + sb))) ∧ VpOk S sz es a
  | .fn f, v => v = .func (.func f) #[] #[]

def CsOk (al : Nat → Prop) (hp : List (Nat × Blk)) (S : Addr → Option Value) (μ : Nat → Option Pl) (cs : List C) (vs : List Value) : Prop :=
  vs.length = cs.length ∧ (∀ v ∈ vs, v.oneCell' = true) ∧ ∀ (j : Nat) c v, cs[j]? = some c → vs[j]? = some v → COk al hp S μ c v
def AOk (al : Nat → Prop) (hp : List (Nat × Blk)) (S : Addr → Option Value) (μ : Nat → Option Pl) : A → Value → Prop
  | .c x, v => COk al hp S μ x v
  | .g cs, v => ∃ vs : List Value, v = .agg vs.toArray ∧ CsOk al hp S μ cs vs
def AVOk (al : Nat → Prop) (hp : List (Nat × Blk)) (S : Addr → Option Value) (μ : Nat → Option Pl) : AV → Value → Prop
  | .a x, v => AOk al hp S μ x v
  | .tup xs, v => ∃ vs : List Value, v = .tuple vs.toArray ∧ vs.length = xs.length ∧ ∀ (j : Nat) x v, xs[j]? = some x → vs[j]? = some v → AOk al hp S μ x v

def BlkOk (al : Nat → Prop) (hp : List (Nat × Blk)) (S : Addr → Option Value) (μ : Nat → Option Pl) (w : World) : Blk → Option Pl → Prop
  | .arr _ es _, none => es = []
  | .arr sz es _, some p => ArrOk S w p.b p.base p.room sz es
  | .froz _ es _, none => es = []
  | .froz sz es _, some p => VpOk S sz es ⟨p.b, p.base, none⟩
  | .box _, none => False
  | .box cs, some p => p.base = 0 ∧ ∃ vs : List Value, CsOk al hp S μ cs vs ∧ ∀ (j : Nat) v, vs[j]? = some v → w.cell? ⟨p.b, j, none⟩ = some v ∧ w.frozen? ⟨p.b, j, none⟩ = false

/-- The call's own memory. -/
structure Mem (Γ : Ctx) (al : Nat → Prop) (hp : List (Nat × Blk)) (w : World) (μ : Nat → Option Pl) : Prop where
  fr : Fr Γ.bs0 Γ.w0 w
  gd : ∀ b, b ∈ Γ.bs0 ∨ Γ.w0.heap.size ≤ b → Γ.G b
  pin : ∀ i b, Γ.pin i = some b → al i ∧ ∀ cs, find hp i = some (.box cs) → ∃ p, μ i = some p ∧ p.b = b
  used : ∀ i b, find hp i = some b → al i
  mine : ∀ i p, live hp i → μ i = some p → p.b < w.heap.size ∧ (p.b ∈ Γ.bs0 ∨ Γ.w0.heap.size ≤ p.b)
  inj : ∀ i j p q, live hp i → live hp j → μ i = some p → μ j = some q → p.b = q.b → i = j
  blk : ∀ i b, find hp i = some b → BlkOk al hp (Sv Γ.G hp μ w) μ w b (μ i)

structure Rel (Γ : Ctx) (al : Nat → Prop) (s : St) (a : Act) (w : World) (μ : Nat → Option Pl) : Prop where
  mem : Mem Γ al s.hp w μ
  size : a.tmps.size = s.N
  tmp : ∀ t, AVOk al s.hp (Sv Γ.G s.hp μ w) μ (s.get t) (a.tmps.getD t undef)
  defers : a.defers = []

inductive X where
  | normal | exit (i : Nat) | ret
def X.is : X → Exit → Prop
  | .normal, .normal => True
  | .exit i, .exit j => i = j
  | .ret, .ret => True
  | _, _ => False

/-- What code does, said of the machine. -/
def WW (P : Program) (c : Code) (s : St) (Q : X → St → Prop) : Prop :=
  ∀ (Γ : Ctx) (a : Act) (w : World) (μ : Nat → Option Pl), Rel Γ (· < s.nx) s a w μ →
    c.wp P (fun e a' w' => ∃ x s' μ', x.is e ∧ Q x s' ∧ Rel Γ (· < s'.nx) s' a' w' μ') a w

/-- What code does, reckoned as far as it goes: loops and drawn regions are left. -/
def W (P : Program) (τ : Tab) (md : Nat → Bool) : Code → St → (X → St → Prop) → Prop
  | .skip, s, Q => Q .normal s
  | .ret, s, Q => Q .ret s
  | .exit i, s, Q => Q (.exit i) s
  | .seq a b, s, Q => W P τ md a s fun e s' => match e with | .normal => W P τ md b s' Q | .exit i => Q (.exit i) s' | .ret => Q .ret s'
  | .cond c a b, s, Q => match s.eval τ 0 c with
    | .a (.c (.t (.bool c))) => (c = true → W P τ md a s Q) ∧ (c = false → W P τ md b s Q)
    | _ => False
  | .block i a, s, Q => W P τ md a s fun e s' => match e with | .exit j => if j == i then Q .normal s' else Q (.exit j) s' | .normal => Q .normal s' | .ret => Q .ret s'
  | .region _ ops false, s, Q => WOps P τ md ops ops.toList s.nx s (Q .normal)
  | .region i ops true, s, Q => WW P (.region i ops true) s Q
  | .loop c, s, Q => WW P (.loop c) s Q
  | .rangeFunc .., _, _ => False
  | .scope _, _, _ => False
  | .label _, _, _ => False
  | .goto _, _, _ => False
  | .refuse _, _, _ => False

/-! ### First lemmas -/
theorem Hold.mono {S S' : Addr → Option Value} (hS : ∀ a v, S a = some v → S' a = some v) {x : T} {v : Value} (h : Hold S x v) : Hold S' x v := by
  induction h with
  | int k n => exact .int k n
  | bool b => exact .bool b
  | str s => exact .str s
  | nil sz => exact .nil sz
  | list sz es a n c vs hn hc hsz hl hv h1 hh ih => exact .list sz es a n c vs hn hc hsz hl (fun j v h => hS _ _ (hv j v h)) h1 ih
  | agg cs vs hl h1 hh ih => exact .agg cs vs hl h1 ih
theorem HoldL.mono {S S' : Addr → Option Value} (hS : ∀ a v, S a = some v → S' a = some v) {x : List T} {v : List Value} (h : HoldL S x v) : HoldL S' x v :=
  ⟨h.1, h.2.1, fun j t v a b => (h.2.2 j t v a b).mono hS⟩
theorem VpOk.mono {S S' : Addr → Option Value} (hS : ∀ a v, S a = some v → S' a = some v) {sz : Nat} {es : List T} {a : Addr} (h : VpOk S sz es a) : VpOk S' sz es a := by
  obtain ⟨vs, h1, h2, h3⟩ := h
  exact ⟨vs, h1.mono hS, fun j v h => hS _ _ (h2 j v h), h3⟩
theorem Hold.scal {S S' : Addr → Option Value} {x : T} {v : Value} (h : Hold S x v) (hx : x.scal = true) : Hold S' x v := by
  cases h <;> first | (simp [T.scal] at hx; done) | constructor

/-- How one state of the memory goes over into the next. -/
structure Ext (al al' : Nat → Prop) (hp hp' : List (Nat × Blk)) (S S' : Addr → Option Value) (μ μ' : Nat → Option Pl) : Prop where
  hal : ∀ i, al i → al' i
  hS : ∀ a v, S a = some v → S' a = some v
  ver : ∀ i, al i → verOf hp i ≤ verOf hp' i
  arr : ∀ i ver sz es', al i → ver ≤ verOf hp i → arrOf hp' i ver = some (sz, es') → ∃ es, arrOf hp i ver = some (sz, es) ∧ es.length ≤ es'.length ∧ μ' i = μ i
  box : ∀ i cs', al i → find hp' i = some (.box cs') → ∃ cs, find hp i = some (.box cs) ∧ μ' i = μ i

section
variable {al al' : Nat → Prop} {hp hp' : List (Nat × Blk)} {S S' : Addr → Option Value} {μ μ' : Nat → Option Pl}
theorem COk.mono (e : Ext al al' hp hp' S S' μ μ') {c : C} {v : Value} (h : COk al hp S μ c v) : COk al' hp' S' μ' c v := by
  cases c with
  | undef => trivial
  | t x => exact ⟨h.1.mono e.hS, h.2⟩
  | nil sz => exact h
  | nilp => exact h
  | own i ver off len =>
    refine ⟨⟨e.hal _ h.1.1, Nat.le_trans h.1.2 (e.ver _ h.1.1)⟩, h.2.1, fun sz es' h' => ?_⟩
    obtain ⟨es, h1, h2, h3⟩ := e.arr _ _ _ _ h.1.1 h.1.2 h'
    obtain ⟨h4, h5⟩ := h.2.2 _ _ h1
    exact ⟨by omega, by rw [h3]; exact h5⟩
  | ptr i off =>
    refine ⟨e.hal _ h.1, h.2.1, fun cs' h' => ?_⟩
    obtain ⟨cs, h1, h3⟩ := e.box _ _ h.1 h'
    obtain ⟨p, h4, h5⟩ := h.2.2 _ h1
    exact ⟨p, by rw [h3]; exact h4, h5⟩
  | eptr i ver ix sb =>
    refine ⟨⟨e.hal _ h.1.1, Nat.le_trans h.1.2 (e.ver _ h.1.1)⟩, h.2.1, fun sz es' h' => ?_⟩
    obtain ⟨es, h1, h2, h3⟩ := e.arr _ _ _ _ h.1.1 h.1.2 h'
    obtain ⟨p, h4, h5⟩ := h.2.2 _ _ h1
    exact ⟨p, by rw [h3]; exact h4, h5⟩
  | vptr sz es ix sb =>
    obtain ⟨a, h1, h2⟩ := h
    exact ⟨a, h1, h2.mono e.hS⟩
  | fn f => exact h
theorem CsOk.mono (e : Ext al al' hp hp' S S' μ μ') {cs : List C} {vs : List Value} (h : CsOk al hp S μ cs vs) : CsOk al' hp' S' μ' cs vs :=
  ⟨h.1, h.2.1, fun j c v a b => (h.2.2 j c v a b).mono e⟩
theorem AOk.mono (e : Ext al al' hp hp' S S' μ μ') {x : A} {v : Value} (h : AOk al hp S μ x v) : AOk al' hp' S' μ' x v := by
  cases x with
  | c x => exact COk.mono e h
  | g cs => obtain ⟨vs, h1, h2⟩ := h; exact ⟨vs, h1, h2.mono e⟩
theorem AVOk.mono (e : Ext al al' hp hp' S S' μ μ') {x : AV} {v : Value} (h : AVOk al hp S μ x v) : AVOk al' hp' S' μ' x v := by
  cases x with
  | a x => exact AOk.mono e h
  | tup xs => obtain ⟨vs, h1, h2, h3⟩ := h; exact ⟨vs, h1, h2, fun j x v a b => (h3 j x v a b).mono e⟩
end

theorem find_put {α : Type} (l : List (Nat × α)) (i j : Nat) (v : α) : find (put l i v) j = if i = j then some v else find l j := by
  induction l with
  | nil => simp [put, find]
  | cons x r ih =>
    obtain ⟨k, y⟩ := x
    simp only [put]
    by_cases h : k = i
    · subst h
      simp only [beq_self_eq_true, if_true, find]
      by_cases h2 : k = j
      · simp [h2]
      · simp [h2]
    · have : (k == i) = false := by simpa using h
      simp only [this, Bool.false_eq_true, if_false, find, ih]
      by_cases h2 : k = j
      · subst h2; simp; intro h3; exact absurd h3.symm h
      · have h2' : (k == j) = false := by simpa using h2
        simp [h2']

theorem get_set (s : St) (d : Option Nat) (v : AV) (t : Nat) : (s.set d v).get t = if d = some t ∧ t < s.N then v else s.get t := by
  unfold St.set St.get
  cases d with
  | none => simp
  | some d =>
    by_cases h : d < s.N
    · simp only [h, if_true, find_put]
      by_cases h2 : d = t
      · subst h2; simp [h]
      · simp [h2]
    · simp only [h, if_false]
      by_cases h2 : d = t
      · subst h2; simp [h]
      · simp [h2]

theorem Rel.set {Γ : Ctx} {al : Nat → Prop} {s : St} {a : Act} {w : World} {μ : Nat → Option Pl} (h : Rel Γ al s a w μ) (d : Option Nat) (x : AV) (v : Value)
    (hx : AVOk al s.hp (Sv Γ.G s.hp μ w) μ x v) : Rel Γ al (s.set d x) (a.put d v) w μ := by
  have hhp : (s.set d x).hp = s.hp := by unfold St.set; cases d <;> simp; split <;> rfl
  have hN : (s.set d x).N = s.N := by unfold St.set; cases d <;> simp; split <;> rfl
  refine ⟨by rw [hhp]; exact h.mem, ?_, ?_, ?_⟩
  · rw [hN, ← h.size]; cases d <;> simp [Act.put]
  · intro t
    rw [hhp, get_set]
    have := h.tmp t
    cases d with
    | none => simpa [Act.put] using this
    | some d =>
      simp only [Act.put, Option.some.injEq]
      by_cases h2 : d = t
      · subst h2
        by_cases h3 : d < s.N
        · have : d < a.tmps.size := by rw [h.size]; exact h3
          simp [h3, Array.getD, this, hx]
        · have : ¬ d < a.tmps.size := by rw [h.size]; exact h3
          simp [h3, Array.getD, this]
          simpa [Array.getD, this] using h.tmp d
      · have e : (a.tmps.setIfInBounds d v).getD t undef = a.tmps.getD t undef := by
          simp [Array.getD_eq_getD_getElem?, Array.getElem?_setIfInBounds, h2]
        rw [e]; simpa [h2] using this
  · cases d <;> simp [Act.put, h.defers]

end Go.Proofs.Ytbmdncjnnlajnaa.M
