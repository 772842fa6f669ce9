/- A machine of values: types' facts, and how the memory goes over. No condition. -/
import Derived.Test.YtbmdncjnnlajnaaM3
namespace Go.Proofs.Ytbmdncjnnlajnaa.M
open Go
set_option linter.unusedSimpArgs false
set_option linter.unusedVariables false

/-! ### Types -/
def zOk : C → Value → Prop
  | .t (.int k n), .int k' n' => k = k' ∧ n = n'
  | .t (.bool b), .bool b' => b = b'
  | .t (.str s), .string s' => s = s'
  | .nil _, .slice none 0 0 => True
  | .nilp, .pointer none => True
  | _, _ => False
def kOk (P : Program) (τ : Tab) (t : Nat) (d : TD) : Prop :=
  match d.k with
  | .int k => P.underlying t = some (.int k)
  | .bool => P.underlying t = some .bool
  | .str => P.underlying t = some .string
  | .slice e => P.underlying t = some (.slice e) ∧ (find τ e).isSome = true
  | .array n e => P.underlying t = some (.array n e) ∧ (find τ e).isSome = true
  | .struct fs => (∃ F : Array Field, P.underlying t = some (.struct F) ∧ F.toList.map (fun f => (f.offset, f.type)) = fs) ∧ ∀ f ∈ fs, (find τ f.2).isSome = true
  | .ptr e => P.underlying t = some (.pointer e)
  | .other => ∃ x, P.underlying t = some x ∧ (match x with | .struct _ | .array _ _ => False | _ => True)
structure TDok (P : Program) (τ : Tab) (t : Nat) (d : TD) : Prop where
  info : ∃ i z, P.info? t = some i ∧ i.size = d.sz ∧ i.bytes = d.bytes ∧ i.zero = some z ∧ z.cells.size = d.sz ∧ d.z.length = d.sz ∧ (∀ v ∈ z.cells.toList, v.oneCell' = true) ∧
    ∀ (j : Nat) c v, d.z[j]? = some c → z.cells.toList[j]? = some v → zOk c v
  k : kOk P τ t d
def TOk (P : Program) (τ : Tab) : Prop := ∀ t d, find τ t = some d → TDok P τ t d

theorem tg_of_find {τ : Tab} {t : Nat} {d : TD} (h : find τ t = some d) : tg τ t = d := by simp [tg, h]
theorem find_of_k {τ : Tab} {t : Nat} (h : (tg τ t).k ≠ .other) : find τ t = some (tg τ t) := by
  unfold tg at *
  cases hh : find τ t with
  | none => rw [hh] at h; exact absurd rfl h
  | some d => rfl

section
variable {P : Program} {τ : Tab}
theorem run_sizeOf' (hτ : TOk P τ) (w : World) {t : Nat} {d : TD} (h : find τ t = some d) : (sizeOf t).run P w = .ok d.sz w := by
  obtain ⟨i, z, h1, h2, _⟩ := (hτ t d h).info
  simp [sizeOf, typeInfo, h1, h2]
theorem run_isAgg' (hτ : TOk P τ) (w : World) {t : Nat} {d : TD} (h : find τ t = some d) : (isAgg t).run P w = .ok d.ag w := by
  have hk := (hτ t d h).k
  unfold kOk at hk
  unfold TD.ag
  cases hd : d.k <;> simp only [hd] at hk ⊢
  case struct fs => obtain ⟨⟨F, h1, _⟩, _⟩ := hk; simp [isAgg, run_underlying h1]
  case other =>
    obtain ⟨x, h1, h2⟩ := hk
    simp only [isAgg, Sem.run_bind, run_underlying h1, Result.andThen_ok]
    cases x <;> first | (simp at h2; done) | rfl
  case slice e => simp [isAgg, run_underlying hk.1]
  case array n e => simp [isAgg, run_underlying hk.1]
  all_goals simp [isAgg, run_underlying hk]
end

/-! ### Memory -/
theorem Fr.refl (bs : List Nat) (w : World) : Fr bs w w := ⟨rfl, rfl, rfl, Nat.le_refl _, fun _ _ _ => rfl⟩
theorem Fr.trans {bs bs' : List Nat} {a b c : World} (h : Fr bs a b) (k : Fr bs' b c) (hb : ∀ k ∈ bs', k < a.heap.size → k ∈ bs) : Fr bs a c :=
  ⟨k.os.trans h.os, k.tape.trans h.tape, k.output.trans h.output, Nat.le_trans h.size k.size, fun i hi hn =>
    (k.block i (Nat.lt_of_lt_of_le hi h.size) (fun hh => hn (hb i hh hi))).trans (h.block i hi hn)⟩
theorem Fr.alloc (w : World) (o : Obj) : Fr [] w (w.alloc o) :=
  ⟨rfl, rfl, rfl, by simp, fun k hk _ => heap_alloc_old w o k hk⟩
theorem Fr.drew (w : World) : Fr [] w w.drew := ⟨rfl, rfl, rfl, Nat.le_refl _, fun _ _ _ => rfl⟩
theorem Fr.cell {bs : List Nat} {w w' : World} (h : Fr bs w w') {a : Addr} (ha : a.block < w.heap.size) (hn : a.block ∉ bs) : w'.cell? a = w.cell? a := World.cell?_of_block (h.block _ ha hn)
theorem Fr.frozen {bs : List Nat} {w w' : World} (h : Fr bs w w') {a : Addr} (ha : a.block < w.heap.size) (hn : a.block ∉ bs) : w'.frozen? a = w.frozen? a := World.frozen?_of_block (h.block _ ha hn)

theorem setCells_size (b : Nat) : ∀ (vs : List Value) (o : Nat) (w : World), (w.setCells b o vs).heap.size = w.heap.size
  | [], _, _ => rfl
  | v :: r, o, w => by rw [World.setCells, setCells_size b r, World.size_setCell]
theorem setCells_os (b : Nat) : ∀ (vs : List Value) (o : Nat) (w : World), (w.setCells b o vs).os = w.os
  | [], _, _ => rfl
  | v :: r, o, w => by rw [World.setCells, setCells_os b r]; rfl
theorem setCells_tape (b : Nat) : ∀ (vs : List Value) (o : Nat) (w : World), (w.setCells b o vs).tape = w.tape
  | [], _, _ => rfl
  | v :: r, o, w => by rw [World.setCells, setCells_tape b r]; rfl
theorem setCells_output (b : Nat) : ∀ (vs : List Value) (o : Nat) (w : World), (w.setCells b o vs).output = w.output
  | [], _, _ => rfl
  | v :: r, o, w => by rw [World.setCells, setCells_output b r]; rfl
theorem setCells_block (b : Nat) {k : Nat} (hk : k ≠ b) : ∀ (vs : List Value) (o : Nat) (w : World), (w.setCells b o vs).heap[k]? = w.heap[k]?
  | [], _, _ => rfl
  | v :: r, o, w => by rw [World.setCells, setCells_block b hk r]; exact RowKit.Below.heap_setCell _ _ _ _ hk

theorem Sv_some {G : Nat → Prop} {hp : List (Nat × Blk)} {μ : Nat → Option Pl} {w : World} {a : Addr} {v : Value} :
    Sv G hp μ w a = some v ↔ (G a.block ∧ ¬ ∃ i p, live hp i ∧ μ i = some p ∧ p.b = a.block) ∧ w.cell? a = some v := by
  unfold Sv
  split
  · rename_i h; exact ⟨fun h' => ⟨h, h'⟩, fun h' => h'.2⟩
  · rename_i h; exact ⟨fun h' => (by cases h'), fun h' => absurd h'.1 h⟩

theorem ArrOk.mono {S S' : Addr → Option Value} {w w' : World} {b base room sz : Nat} {es : List T} (hS : ∀ a v, S a = some v → S' a = some v)
    (hc : ∀ j, w'.cell? ⟨b, j, none⟩ = w.cell? ⟨b, j, none⟩) (hf : ∀ j, w'.frozen? ⟨b, j, none⟩ = w.frozen? ⟨b, j, none⟩) (h : ArrOk S w b base room sz es) : ArrOk S' w' b base room sz es := by
  obtain ⟨vs, h1, h2, h3, h4, h5⟩ := h
  exact ⟨vs, h1.mono hS, fun j v hv => by rw [hc]; exact h2 j v hv, h3, h4, fun j hj => by rw [hc, hf]; exact h5 j hj⟩

theorem BlkOk.mono {al al' : Nat → Prop} {hp hp' : List (Nat × Blk)} {S S' : Addr → Option Value} {μ μ' : Nat → Option Pl} (e : Ext al al' hp hp' S S' μ μ') {w w' : World} {b : Blk} {pl : Option Pl}
    (hc : b.live = true → ∀ p, pl = some p → ∀ j, w'.cell? ⟨p.b, j, none⟩ = w.cell? ⟨p.b, j, none⟩ ∧ w'.frozen? ⟨p.b, j, none⟩ = w.frozen? ⟨p.b, j, none⟩)
    (h : BlkOk al hp S μ w b pl) : BlkOk al' hp' S' μ' w' b pl := by
  cases b with
  | arr sz es ver =>
    cases pl with
    | none => exact h
    | some p => exact ArrOk.mono e.hS (fun j => (hc rfl p rfl j).1) (fun j => (hc rfl p rfl j).2) h
  | froz sz es ver =>
    cases pl with
    | none => exact h
    | some p => exact VpOk.mono e.hS h
  | box cs =>
    cases pl with
    | none => exact h
    | some p =>
      obtain ⟨h0, vs, h1, h2⟩ := h
      exact ⟨h0, vs, h1.mono e, fun j v hv => by rw [(hc rfl p rfl j).1, (hc rfl p rfl j).2]; exact h2 j v hv⟩

/-- The memory grows by blocks that are nobody's. -/
theorem Mem.grow {Γ : Ctx} {al al' : Nat → Prop} {hp : List (Nat × Blk)} {w w' : World} {μ : Nat → Option Pl} (h : Mem Γ al hp w μ) (hf : Fr [] w w') (ha : ∀ i, al i → al' i) :
    Mem Γ al' hp w' μ ∧ Ext al al' hp hp (Sv Γ.G hp μ w) (Sv Γ.G hp μ w') μ μ := by
  have e : Ext al al' hp hp (Sv Γ.G hp μ w) (Sv Γ.G hp μ w') μ μ := by
    refine ⟨ha, fun a v hv => ?_, fun i _ => Nat.le_refl _, fun i ver sz es' _ _ h' => ⟨es', h', Nat.le_refl _, rfl⟩, fun i cs' _ h' => ⟨cs', h', rfl⟩⟩
    rw [Sv_some] at hv ⊢
    exact ⟨hv.1, by rw [hf.cell (World.block_lt_of_cell? _ _ hv.2) (by simp)]; exact hv.2⟩
  refine ⟨⟨h.fr.trans hf (by simp), h.gd, fun i b hb => ⟨ha _ (h.pin i b hb).1, (h.pin i b hb).2⟩, fun i b hb => ha _ (h.used i b hb), fun i p hi hp' => ?_, h.inj, fun i b hb => ?_⟩, e⟩
  · obtain ⟨h1, h2⟩ := h.mine i p hi hp'
    exact ⟨Nat.lt_of_lt_of_le h1 hf.size, h2⟩
  · refine BlkOk.mono e (fun hl p hp' j => ?_) (h.blk i b hb)
    have := (h.mine i p ⟨b, hb, hl⟩ hp').1
    exact ⟨hf.cell this (by simp), hf.frozen this (by simp)⟩

def setμ (μ : Nat → Option Pl) (n : Nat) (p : Option Pl) : Nat → Option Pl := fun i => if i = n then p else μ i

theorem arrOf_put_ne {hp : List (Nat × Blk)} {n i v : Nat} {b : Blk} (h : n ≠ i) : arrOf (put hp n b) i v = arrOf hp i v := by simp [arrOf, find_put, h]
theorem verOf_put_ne {hp : List (Nat × Blk)} {n i : Nat} {b : Blk} (h : n ≠ i) : verOf (put hp n b) i = verOf hp i := by simp [verOf, find_put, h]
theorem live_put {hp : List (Nat × Blk)} {n i : Nat} {b : Blk} : live (put hp n b) i ↔ if n = i then b.live = true else live hp i := by
  unfold live; rw [find_put]; split <;> simp

/-- A new block of the call's own. -/
theorem Mem.new {Γ : Ctx} {al al' : Nat → Prop} {hp : List (Nat × Blk)} {w w' : World} {μ : Nat → Option Pl} (h : Mem Γ al hp w μ) (hf : Fr [] w w') (ha : ∀ i, al i → al' i)
    {n : Nat} (hn : ¬ al n) (hn' : al' n) (b : Blk) (p : Option Pl) (hp1 : ∀ q, p = some q → w.heap.size ≤ q.b ∧ q.b < w'.heap.size) (hb : BlkOk al hp (Sv Γ.G hp μ w) μ w' b p) :
    Mem Γ al' (put hp n b) w' (setμ μ n p) ∧ Ext al al' hp (put hp n b) (Sv Γ.G hp μ w) (Sv Γ.G (put hp n b) (setμ μ n p) w') μ (setμ μ n p) := by
  have hfn : find hp n = none := by
    cases hh : find hp n with
    | none => rfl
    | some b => exact absurd (h.used n b hh) hn
  have e : Ext al al' hp (put hp n b) (Sv Γ.G hp μ w) (Sv Γ.G (put hp n b) (setμ μ n p) w') μ (setμ μ n p) := by
    refine ⟨ha, fun a v hv => ?_, fun i hi => ?_, fun i ver sz es' hi _ h' => ?_, fun i cs' hi h' => ?_⟩
    · rw [Sv_some] at hv ⊢
      have hlt := World.block_lt_of_cell? _ _ hv.2
      refine ⟨⟨hv.1.1, ?_⟩, by rw [hf.cell hlt (by simp)]; exact hv.2⟩
      rintro ⟨i, q, hl, hq, hqb⟩
      rw [live_put] at hl
      by_cases hni : n = i
      · subst hni
        have := (hp1 q (by simpa [setμ] using hq)).1
        omega
      · rw [if_neg hni] at hl
        exact hv.1.2 ⟨i, q, hl, by simpa [setμ, Ne.symm hni] using hq, hqb⟩
    · have hni : n ≠ i := fun e => hn (e ▸ hi)
      rw [verOf_put_ne hni]; exact Nat.le_refl _
    · have hni : n ≠ i := fun e => hn (e ▸ hi)
      rw [arrOf_put_ne hni] at h'
      exact ⟨es', h', Nat.le_refl _, by simp [setμ, Ne.symm hni]⟩
    · have hni : n ≠ i := fun e => hn (e ▸ hi)
      rw [find_put, if_neg hni] at h'
      exact ⟨cs', h', by simp [setμ, Ne.symm hni]⟩
  refine ⟨⟨h.fr.trans hf (by simp), h.gd, fun i b' hb' => ⟨ha _ (h.pin i b' hb').1, fun cs hcs => ?_⟩, fun i b' hb' => ?_, fun i q hi hq => ?_, fun i j q r hi hj hq hr hqr => ?_, fun i b' hb' => ?_⟩, e⟩
  · have hni : n ≠ i := fun e => hn (e ▸ (h.pin i b' hb').1)
    rw [find_put, if_neg hni] at hcs
    obtain ⟨p', h1, h2⟩ := (h.pin i b' hb').2 cs hcs
    exact ⟨p', by simpa [setμ, Ne.symm hni] using h1, h2⟩
  · rw [find_put] at hb'
    by_cases hni : n = i
    · subst hni; exact hn'
    · rw [if_neg hni] at hb'; exact ha _ (h.used i b' hb')
  · rw [live_put] at hi
    by_cases hni : n = i
    · subst hni
      obtain ⟨h1, h2⟩ := hp1 q (by simpa [setμ] using hq)
      exact ⟨h2, .inr (Nat.le_trans h.fr.size h1)⟩
    · rw [if_neg hni] at hi
      obtain ⟨h1, h2⟩ := h.mine i q hi (by simpa [setμ, Ne.symm hni] using hq)
      exact ⟨Nat.lt_of_lt_of_le h1 hf.size, h2⟩
  · rw [live_put] at hi hj
    by_cases hni : n = i
    · by_cases hnj : n = j
      · omega
      · subst hni
        rw [if_neg hnj] at hj
        have h1 := (hp1 q (by simpa [setμ] using hq)).1
        have h2 := (h.mine j r hj (by simpa [setμ, Ne.symm hnj] using hr)).1
        omega
    · rw [if_neg hni] at hi
      by_cases hnj : n = j
      · subst hnj
        have h1 := (hp1 r (by simpa [setμ] using hr)).1
        have h2 := (h.mine i q hi (by simpa [setμ, Ne.symm hni] using hq)).1
        omega
      · rw [if_neg hnj] at hj
        exact h.inj i j q r hi hj (by simpa [setμ, Ne.symm hni] using hq) (by simpa [setμ, Ne.symm hnj] using hr) hqr
  · rw [find_put] at hb'
    by_cases hni : n = i
    · subst hni
      rw [if_pos rfl] at hb'
      obtain rfl := Option.some.inj hb'
      have : setμ μ n p n = p := by simp [setμ]
      rw [this]
      exact BlkOk.mono e (fun _ _ _ _ => ⟨rfl, rfl⟩) hb
    · rw [if_neg hni] at hb'
      have : setμ μ n p i = μ i := by simp [setμ, Ne.symm hni]
      rw [this]
      refine BlkOk.mono e (fun hl q hq j => ?_) (h.blk i b' hb')
      have := (h.mine i q ⟨b', hb', hl⟩ hq).1
      exact ⟨hf.cell this (by simp), hf.frozen this (by simp)⟩


/-- A live block is written, or told anew. -/
theorem Mem.write {Γ : Ctx} {al al' : Nat → Prop} {hp : List (Nat × Blk)} {w : World} {μ : Nat → Option Pl} (h : Mem Γ al hp w μ) (ha : ∀ i, al i → al' i)
    {i : Nat} {b b' : Blk} {p : Pl} (hb : find hp i = some b) (hl : b.live = true) (hl' : b'.live = true) (hp1 : μ i = some p) (o : Nat) (vs : List Value)
    (hv : verOf hp i ≤ verOf (put hp i b') i) (harr : ∀ ver sz es', ver ≤ verOf hp i → arrOf (put hp i b') i ver = some (sz, es') → ∃ es, arrOf hp i ver = some (sz, es) ∧ es.length ≤ es'.length)
    (hbox : ∀ cs', b' = .box cs' → ∃ cs, b = .box cs) (hB : BlkOk al hp (Sv Γ.G hp μ w) μ (w.setCells p.b o vs) b' (some p)) :
    Mem Γ al' (put hp i b') (w.setCells p.b o vs) μ ∧ Ext al al' hp (put hp i b') (Sv Γ.G hp μ w) (Sv Γ.G (put hp i b') μ (w.setCells p.b o vs)) μ μ := by
  have hli : live hp i := ⟨b, hb, hl⟩
  have hlive : ∀ j, live (put hp i b') j ↔ live hp j := fun j => by
    rw [live_put]
    by_cases hij : i = j
    · subst hij; simp [hl', hli]
    · simp [hij]
  have hcell : ∀ x : Addr, x.block ≠ p.b → (w.setCells p.b o vs).cell? x = w.cell? x := fun x hx => World.cell?_setCells_out _ _ _ _ _ (fun h => absurd h hx)
  have hblk : ∀ k, k ≠ p.b → (w.setCells p.b o vs).heap[k]? = w.heap[k]? := fun k hk => setCells_block _ hk _ _ _
  have hsz := setCells_size p.b vs o w
  have e : Ext al al' hp (put hp i b') (Sv Γ.G hp μ w) (Sv Γ.G (put hp i b') μ (w.setCells p.b o vs)) μ μ := by
    refine ⟨ha, fun a v hv => ?_, fun j hj => ?_, fun j ver sz es' hj hver h' => ?_, fun j cs' hj h' => ?_⟩
    · rw [Sv_some] at hv ⊢
      have hne : a.block ≠ p.b := fun hh => hv.1.2 ⟨i, p, hli, hp1, hh.symm⟩
      exact ⟨⟨hv.1.1, fun ⟨j, q, h1, h2, h3⟩ => hv.1.2 ⟨j, q, (hlive j).1 h1, h2, h3⟩⟩, by rw [hcell a hne]; exact hv.2⟩
    · by_cases hij : i = j
      · subst hij; exact hv
      · rw [verOf_put_ne hij]; exact Nat.le_refl _
    · by_cases hij : i = j
      · subst hij
        obtain ⟨es, h1, h2⟩ := harr _ _ _ hver h'
        exact ⟨es, h1, h2, rfl⟩
      · rw [arrOf_put_ne hij] at h'; exact ⟨es', h', Nat.le_refl _, rfl⟩
    · rw [find_put] at h'
      by_cases hij : i = j
      · subst hij
        rw [if_pos rfl] at h'
        obtain ⟨cs, h1⟩ := hbox _ (Option.some.inj h')
        exact ⟨cs, by rw [hb, h1], rfl⟩
      · rw [if_neg hij] at h'; exact ⟨cs', h', rfl⟩
  have hfr : Fr [p.b] w (w.setCells p.b o vs) := ⟨setCells_os _ _ _ _, setCells_tape _ _ _ _, setCells_output _ _ _ _, by rw [hsz]; exact Nat.le_refl _, fun k _ hk => hblk k (by simpa using hk)⟩
  refine ⟨⟨?_, h.gd, fun j b'' hb'' => ⟨ha _ (h.pin j b'' hb'').1, fun cs hcs => ?_⟩, fun j b'' hb'' => ?_, fun j q hj hq => ?_, fun j k q r hj hk hq hr hqr => h.inj j k q r ((hlive j).1 hj) ((hlive k).1 hk) hq hr hqr, fun j b'' hb'' => ?_⟩, e⟩
  · refine h.fr.trans hfr (fun k hk hlt => ?_)
    obtain rfl : k = p.b := by simpa using hk
    rcases (h.mine i p hli hp1).2 with h2 | h2
    · exact h2
    · omega
  · by_cases hij : i = j
    · subst hij
      rw [find_put, if_pos rfl] at hcs
      obtain ⟨cs0, h1⟩ := hbox _ (Option.some.inj hcs)
      exact (h.pin _ b'' hb'').2 cs0 (by rw [hb, h1])
    · rw [find_put, if_neg hij] at hcs; exact (h.pin _ b'' hb'').2 cs hcs
  · rw [find_put] at hb''
    by_cases hij : i = j
    · subst hij; exact ha _ (h.used _ _ hb)
    · rw [if_neg hij] at hb''; exact ha _ (h.used _ _ hb'')
  · rw [hsz]; exact h.mine j q ((hlive j).1 hj) hq
  · rw [find_put] at hb''
    by_cases hij : i = j
    · subst hij
      rw [if_pos rfl] at hb''
      obtain rfl := Option.some.inj hb''
      rw [hp1]
      exact BlkOk.mono e (fun _ _ _ _ => ⟨rfl, rfl⟩) hB
    · rw [if_neg hij] at hb''
      refine BlkOk.mono e (fun hl2 q hq k => ?_) (h.blk j b'' hb'')
      have hne : q.b ≠ p.b := fun hh => hij (h.inj i j p q hli ⟨b'', hb'', hl2⟩ hp1 hq hh.symm)
      exact ⟨hcell _ hne, World.frozen?_setCells _ _ _ _ _⟩


/-- A list of the call's own moves to a new place. -/
theorem Mem.move {Γ : Ctx} {al al' : Nat → Prop} {hp : List (Nat × Blk)} {w w' : World} {μ : Nat → Option Pl} (h : Mem Γ al hp w μ) (hf : Fr [] w w') (ha : ∀ i, al i → al' i)
    {n : Nat} {b0 : Blk} (hb0 : find hp n = some b0) (b : Blk) (p : Option Pl) (hv : verOf hp n ≤ verOf (put hp n b) n) (harr : ∀ ver, ver ≤ verOf hp n → arrOf (put hp n b) n ver = none) (hbox : ∀ cs, b ≠ .box cs)
    (hp1 : ∀ q, p = some q → w.heap.size ≤ q.b ∧ q.b < w'.heap.size) (hb : BlkOk al hp (Sv Γ.G hp μ w) μ w' b p) :
    Mem Γ al' (put hp n b) w' (setμ μ n p) ∧ Ext al al' hp (put hp n b) (Sv Γ.G hp μ w) (Sv Γ.G (put hp n b) (setμ μ n p) w') μ (setμ μ n p) := by
  have hlt : ∀ i q, live hp i → μ i = some q → q.b < w.heap.size := fun i q hi hq => (h.mine i q hi hq).1
  have e : Ext al al' hp (put hp n b) (Sv Γ.G hp μ w) (Sv Γ.G (put hp n b) (setμ μ n p) w') μ (setμ μ n p) := by
    refine ⟨ha, fun a v hv => ?_, fun i hi => ?_, fun i ver sz es' hi hver h' => ?_, fun i cs' hi h' => ?_⟩
    · rw [Sv_some] at hv ⊢
      have hlt := World.block_lt_of_cell? _ _ hv.2
      refine ⟨⟨hv.1.1, ?_⟩, by rw [hf.cell hlt (by simp)]; exact hv.2⟩
      rintro ⟨i, q, hl, hq, hqb⟩
      rw [live_put] at hl
      by_cases hni : n = i
      · subst hni
        have := (hp1 q (by simpa [setμ] using hq)).1
        omega
      · rw [if_neg hni] at hl
        exact hv.1.2 ⟨i, q, hl, by simpa [setμ, Ne.symm hni] using hq, hqb⟩
    · by_cases hni : n = i
      · subst hni; exact hv
      · rw [verOf_put_ne hni]; exact Nat.le_refl _
    · by_cases hni : n = i
      · subst hni; rw [harr ver hver] at h'; cases h'
      · rw [arrOf_put_ne hni] at h'
        exact ⟨es', h', Nat.le_refl _, by simp [setμ, Ne.symm hni]⟩
    · by_cases hni : n = i
      · subst hni; rw [find_put, if_pos rfl] at h'; exact absurd (Option.some.inj h') (hbox cs')
      · rw [find_put, if_neg hni] at h'
        exact ⟨cs', h', by simp [setμ, Ne.symm hni]⟩
  refine ⟨⟨h.fr.trans hf (by simp), h.gd, fun i b' hb' => ⟨ha _ (h.pin i b' hb').1, fun cs hcs => ?_⟩, fun i b' hb' => ?_, fun i q hi hq => ?_, fun i j q r hi hj hq hr hqr => ?_, fun i b' hb' => ?_⟩, e⟩
  · by_cases hni : n = i
    · subst hni; rw [find_put, if_pos rfl] at hcs; exact absurd (Option.some.inj hcs) (hbox cs)
    · rw [find_put, if_neg hni] at hcs
      obtain ⟨p', h1, h2⟩ := (h.pin i b' hb').2 cs hcs
      exact ⟨p', by simpa [setμ, Ne.symm hni] using h1, h2⟩
  · rw [find_put] at hb'
    by_cases hni : n = i
    · subst hni; exact ha _ (h.used n _ hb0)
    · rw [if_neg hni] at hb'; exact ha _ (h.used i b' hb')
  · rw [live_put] at hi
    by_cases hni : n = i
    · subst hni
      obtain ⟨h1, h2⟩ := hp1 q (by simpa [setμ] using hq)
      exact ⟨h2, .inr (Nat.le_trans h.fr.size h1)⟩
    · rw [if_neg hni] at hi
      obtain ⟨h1, h2⟩ := h.mine i q hi (by simpa [setμ, Ne.symm hni] using hq)
      exact ⟨Nat.lt_of_lt_of_le h1 hf.size, h2⟩
  · rw [live_put] at hi hj
    by_cases hni : n = i
    · by_cases hnj : n = j
      · omega
      · subst hni
        rw [if_neg hnj] at hj
        have h1 := (hp1 q (by simpa [setμ] using hq)).1
        have h2 := hlt j r hj (by simpa [setμ, Ne.symm hnj] using hr)
        omega
    · rw [if_neg hni] at hi
      by_cases hnj : n = j
      · subst hnj
        have h1 := (hp1 r (by simpa [setμ] using hr)).1
        have h2 := hlt i q hi (by simpa [setμ, Ne.symm hni] using hq)
        omega
      · rw [if_neg hnj] at hj
        exact h.inj i j q r hi hj (by simpa [setμ, Ne.symm hni] using hq) (by simpa [setμ, Ne.symm hnj] using hr) hqr
  · rw [find_put] at hb'
    by_cases hni : n = i
    · subst hni
      rw [if_pos rfl] at hb'
      obtain rfl := Option.some.inj hb'
      have : setμ μ n p n = p := by simp [setμ]
      rw [this]
      exact BlkOk.mono e (fun _ _ _ _ => ⟨rfl, rfl⟩) hb
    · rw [if_neg hni] at hb'
      have : setμ μ n p i = μ i := by simp [setμ, Ne.symm hni]
      rw [this]
      refine BlkOk.mono e (fun hl q hq j => ?_) (h.blk i b' hb')
      have := hlt i q ⟨b', hb', hl⟩ hq
      exact ⟨hf.cell this (by simp), hf.frozen this (by simp)⟩

end Go.Proofs.Ytbmdncjnnlajnaa.M
