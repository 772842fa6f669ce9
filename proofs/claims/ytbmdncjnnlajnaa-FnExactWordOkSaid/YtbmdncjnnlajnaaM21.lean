/- A machine of values: what is reckoned of code holds of the machine. No condition. -/
import Derived.Test.YtbmdncjnnlajnaaM20
namespace Go.Proofs.Ytbmdncjnnlajnaa.M
open Go
set_option linter.unusedSimpArgs false
set_option linter.unusedVariables false
set_option linter.unusedSectionVars false

section
variable {P : Program} {τ : Tab} {Γ : Ctx} {al : Nat → Prop} {s : St} {a : Act} {w : World} {μ : Nat → Option Pl} {n : Nat} {K : AV → List (Nat × Blk) → Prop} {next : Act → World → Prop}
variable {o : Oper} {Q : Exit → Act → World → Prop} {md : Nat → Bool}

theorem op_sound (hτ : TOk P τ) (R : Rel Γ al s a w μ) (hn : ∀ k, k < 16 → ¬ al (n + k)) (h : op P τ md o s n K) (N : Nxt Γ al s a w μ n o.dst K next) : o.wp P a w next Q := by
  have hn0 : ¬ al n := hn 0 (by omega)
  cases ho : o.op with
  | move x => exact op_move R (.inl ho) (by simpa only [op, ho] using h) N
  | assign x => exact op_move R (.inr ho) (by simpa only [op, ho] using h) N
  | pick c x y => exact op_pick R ho h N
  | alloc t => exact op_alloc hτ R hn0 ho h N
  | box t x => exact op_box R hn0 ho h N
  | build t ps => exact op_build hτ R ho h N
  | buildSlice t l ps => exact op_buildSlice hτ R hn0 ho h N
  | load t x => exact op_load hτ R ho h N
  | store t x y => exact op_store hτ R ho h N
  | nilCheck x => exact op_nilCheck R ho h N
  | binOp b t x y u => exact op_binOp hτ R ho h N
  | unOp u t x => exact op_unOp R ho h N
  | convert t u x => exact op_convert hτ R hn0 ho h N
  | makeSlice t l c => exact op_makeSlice hτ R hn0 ho h N
  | slice t x lo hi mx =>
    cases mx with
    | none => exact op_slice hτ R ho h N
    | some m => simp only [op, ho] at h
  | fieldAddr t x f => exact op_fieldAddr hτ R ho h N
  | field t x f => exact op_field hτ R ho h N
  | indexAddr t x i => exact op_indexAddr hτ R ho h N
  | index t x i => exact op_index hτ R ho h N
  | extract x i => exact op_extract R ho h N
  | call c =>
    obtain ⟨f, xs, ts⟩ := c
    cases f with
    | value f => exact op_call R hn ho h N
    | invoke r m => simp only [op, ho] at h
    | builtin b =>
      cases b with
      | len => exact op_len hτ R ho h N
      | append => exact op_append hτ R hn0 ho h N
      | _ => simp only [op, ho] at h
  | _ => simp only [op, ho] at h

theorem want_ok (R : Rel Γ al s a w μ) {ops : Array Oper} {b : Bool} (h : wantA ops s o = some b) : Region.wanted o (yielded ops a.tmps) = b := by
  unfold wantA at h
  unfold Region.wanted
  split at h
  · rename_i hg; rw [hg]; exact Option.some.inj h
  · rename_i j wv hg
    rw [hg]
    rw [Option.map_eq_some_iff] at h
    obtain ⟨b', h1, h2⟩ := h
    unfold yieldA at h1
    split at h1
    · rename_i d hd
      split at h1
      · rename_i b2 hb
        obtain rfl := Option.some.inj h1
        have := R.tmp d
        rw [hb] at this
        have hv := t_bool this.1
        have hv2 : a.tmps[d]? = some (.bool b2) := by
          rw [Array.getD_eq_getD_getElem?] at hv
          cases hh : a.tmps[d]? with
          | none => rw [hh] at hv; cases hv
          | some x => rw [hh] at hv; exact congrArg some hv
        have hy : yielded ops a.tmps j = some b2 := by simp [yielded, hd, hv2]
        simp only [hy, ← h2]
        cases b2 <;> cases wv <;> rfl
      · cases h1
    · cases h1

theorem al16_lt (n : Nat) : al16 (· < n) n = (· < n + 16) := by
  funext i; simp only [al16, eq_iff_iff]; omega

theorem upd_N (u : List (Nat × Blk)) : ∀ (s : St), (s.upd u).N = s.N := by
  induction u with
  | nil => intro s; rfl
  | cons x r ih => intro s; obtain ⟨i, b⟩ := x; rw [St.upd, ih]
theorem upd_get (u : List (Nat × Blk)) (t : Nat) : ∀ (s : St), (s.upd u).get t = s.get t := by
  induction u with
  | nil => intro s; rfl
  | cons x r ih => intro s; obtain ⟨i, b⟩ := x; rw [St.upd, ih]; rfl
theorem WOps_sound (hτ : TOk P τ) {ops : Array Oper} {Q : Exit → Act → World → Prop} : ∀ (l : List Oper) (n : Nat) (s : St) (a : Act) (w : World) (μ : Nat → Option Pl) (K : St → Prop), WOps P τ md ops l n s K → Rel Γ (· < n) s a w μ →
    (∀ s' a' w' μ', K s' → Rel Γ (· < s'.nx) s' a' w' μ' → Q .normal a' w') → wpList P ops Q l a w
  | [], n, s, a, w, μ, K, h, R, hK => hK _ _ _ μ h ⟨R.mem, R.size, R.tmp, R.defers⟩
  | o :: l, n, s, a, w, μ, K, h, R, hK => by
    simp only [WOps] at h
    split at h
    · rename_i b hb
      have hw := want_ok R hb
      refine wpList_step (fun K' hK' => ?_)
      rw [hw]
      cases b with
      | true =>
        rw [if_pos rfl]
        refine op_sound hτ R (fun k _ => by omega) (h.1 rfl) (fun v u val w' μ' hk hm he hv => hK' _ _ ?_)
        rw [al16_lt] at hm he hv
        have R' : Rel Γ (· < n + 16) (s.upd u) a w' μ' := ⟨hm, by rw [upd_N]; exact R.size, fun t => by rw [upd_get]; exact (R.tmp t).mono he, R.defers⟩
        exact WOps_sound hτ l (n + 16) _ _ w' μ' K hk (R'.set o.dst v val hv) hK
      | false =>
        rw [if_neg (by simp)]
        refine hK' _ _ ?_
        have hm := R.mem.grow (Fr.refl [] w) (al' := (· < n + 16)) (fun i hi => by omega)
        have R' : Rel Γ (· < n + 16) s a w μ := ⟨hm.1, R.size, fun t => (R.tmp t).mono hm.2, R.defers⟩
        exact WOps_sound hτ l (n + 16) _ _ w μ K (h.2 rfl) (R'.set o.dst (.c .undef) undef trivial) hK
    · exact h.elim

theorem W_sound (hτ : TOk P τ) : ∀ (c : Code) (s : St) (Q : X → St → Prop), W P τ md c s Q → WW P c s Q
  | .skip, s, Q, h => fun Γ a w μ R => wp_skip ⟨.normal, s, μ, trivial, h, R⟩
  | .ret, s, Q, h => fun Γ a w μ R => wp_ret ⟨.ret, s, μ, trivial, h, R⟩
  | .exit i, s, Q, h => fun Γ a w μ R => wp_exit ⟨.exit i, s, μ, rfl, h, R⟩
  | .seq c d, s, Q, h => fun Γ a w μ R => by
    refine wp_seq (wp_mono (W_sound hτ c s _ h Γ a w μ R) fun e a' w' ⟨x, s', μ', hx, hq, R'⟩ => ?_)
    cases x with
    | normal =>
      cases e <;> first | exact hx.elim | skip
      exact W_sound hτ d s' Q hq Γ a' w' μ' R'
    | exit i =>
      cases e <;> first | exact hx.elim | skip
      exact ⟨.exit i, s', μ', hx, hq, R'⟩
    | ret =>
      cases e <;> first | exact hx.elim | skip
      exact ⟨.ret, s', μ', hx, hq, R'⟩
  | .cond c x y, s, Q, h => fun Γ a w μ R => by
    simp only [W] at h
    split at h
    · rename_i b hb
      have hv := eval_bool R hb
      exact wp_cond_split hv (fun hb => W_sound hτ x s Q (h.1 hb) Γ a w μ R) (fun hb => W_sound hτ y s Q (h.2 hb) Γ a w μ R)
    · exact h.elim
  | .block i c, s, Q, h => fun Γ a w μ R => by
    refine wp_block (wp_mono (W_sound hτ c s _ h Γ a w μ R) fun e a' w' ⟨x, s', μ', hx, hq, R'⟩ => ?_)
    cases x with
    | normal =>
      cases e <;> first | exact hx.elim | skip
      exact ⟨.normal, s', μ', trivial, hq, R'⟩
    | exit j =>
      obtain ⟨k, rfl⟩ : ∃ k, e = .exit k := by cases e <;> first | exact ⟨_, rfl⟩ | exact hx.elim
      obtain rfl : j = k := hx
      simp only [Exit.inBlock]
      by_cases hji : j = i
      · subst hji
        simp only [beq_self_eq_true, if_true] at hq ⊢
        exact ⟨.normal, s', μ', trivial, hq, R'⟩
      · have : (j == i) = false := by simpa using hji
        simp only [this, Bool.false_eq_true, if_false] at hq
        simp only [hji, if_false]
        exact ⟨.exit j, s', μ', rfl, hq, R'⟩
    | ret =>
      cases e <;> first | exact hx.elim | skip
      exact ⟨.ret, s', μ', trivial, hq, R'⟩
  | .region i ops false, s, Q, h => fun Γ a w μ R => wp_region_list (WOps_sound hτ ops.toList s.nx s a w μ _ h R fun s' a' w' μ' hq R' => ⟨.normal, s', μ', trivial, hq, R'⟩)
  | .region i ops true, s, Q, h => h
  | .loop c, s, Q, h => h
  | .rangeFunc .., s, Q, h => h.elim
  | .scope _, s, Q, h => h.elim
  | .label _, s, Q, h => h.elim
  | .goto _, s, Q, h => h.elim
  | .refuse _, s, Q, h => h.elim

theorem WW.mono {c : Code} {s : St} {Q Q' : X → St → Prop} (h : WW P c s Q) (hq : ∀ x s, Q x s → Q' x s) : WW P c s Q' :=
  fun Γ a w μ R => wp_mono (h Γ a w μ R) fun e a' w' ⟨x, s', μ', hx, hQ, R'⟩ => ⟨x, s', μ', hx, hq _ _ hQ, R'⟩

/-! ### Forgetting, loops -/
def refC (hs : List Nat) : C → Bool
  | .own i _ _ _ => hs.contains i
  | .ptr i _ => hs.contains i
  | .eptr i _ _ _ => hs.contains i
  | _ => true
def refA (hs : List Nat) (x : A) : Bool := x.cells.all (refC hs)
def refV (hs : List Nat) : AV → Bool
  | .a x => refA hs x
  | .tup xs => xs.all (refA hs)
/-- Only these slots and these blocks are kept; new numbers are taken from n on. -/
def tidy (ks hs : List Nat) (n : Nat) (s : St) : St := { tm := s.tm.filter fun x => ks.contains x.1, hp := s.hp.filter fun x => hs.contains x.1, nx := n, N := s.N }
def tidyB (hs : List Nat) (n : Nat) (s : St) : Bool :=
  s.tm.all (fun x => refV hs x.2) && s.hp.all (fun x => match x.2 with | .box cs => cs.all (refC hs) | _ => true) && hs.all (fun i => decide (i < n) && s.hp.any fun x => x.1 == i)

theorem find_filter {α : Type} (p : Nat → Bool) : ∀ (l : List (Nat × α)) (i : Nat), find (l.filter fun x => p x.1) i = if p i = true then find l i else none
  | [], i => by simp [find]
  | (k, v) :: r, i => by
    simp only [List.filter_cons]
    by_cases hk : p k = true
    · simp only [hk, if_true, find]
      by_cases hki : (k == i) = true
      · simp only [beq_iff_eq] at hki; subst hki; simp [hk]
      · simp only [hki, if_false, find_filter p r i]; simp at hki ⊢
    · rw [if_neg hk, find_filter p r i]
      by_cases hki : (k == i) = true
      · simp only [beq_iff_eq] at hki; subst hki; rw [if_neg hk, if_neg hk]
      · simp only [find]; rw [if_neg hki]

theorem COk.keep {hs : List Nat} {al al' : Nat → Prop} {hp hp' : List (Nat × Blk)} {S S' : Addr → Option Value} (hal : ∀ i ∈ hs, al' i) (hf : ∀ i ∈ hs, find hp' i = find hp i) (hS : ∀ a v, S a = some v → S' a = some v) {c : C} {v : Value}
    (hc : refC hs c = true) (h : COk al hp S μ c v) : COk al' hp' S' μ c v := by
  have hfa : ∀ i ∈ hs, ∀ v, arrOf hp' i v = arrOf hp i v := fun i hi v => by simp [arrOf, hf i hi]
  have hfv : ∀ i ∈ hs, verOf hp' i = verOf hp i := fun i hi => by simp [verOf, hf i hi]
  cases c with
  | undef => trivial
  | t x => exact ⟨h.1.mono hS, h.2⟩
  | nil sz => exact h
  | nilp => exact h
  | own i ver off len =>
    have hi : i ∈ hs := by simpa [refC] using hc
    exact ⟨⟨hal i hi, by rw [hfv i hi]; exact h.1.2⟩, h.2.1, fun sz es hA => h.2.2 sz es (by rw [← hfa i hi]; exact hA)⟩
  | ptr i off =>
    have hi : i ∈ hs := by simpa [refC] using hc
    exact ⟨hal i hi, h.2.1, fun cs hA => h.2.2 cs (by rw [← hf i hi]; exact hA)⟩
  | eptr i ver ix sb =>
    have hi : i ∈ hs := by simpa [refC] using hc
    exact ⟨⟨hal i hi, by rw [hfv i hi]; exact h.1.2⟩, h.2.1, fun sz es hA => h.2.2 sz es (by rw [← hfa i hi]; exact hA)⟩
  | vptr sz es ix sb => obtain ⟨a, h1, h2⟩ := h; exact ⟨a, h1, h2.mono hS⟩
  | fn f => exact h
theorem CsOk.keep {hs : List Nat} {al al' : Nat → Prop} {hp hp' : List (Nat × Blk)} {S S' : Addr → Option Value} (hal : ∀ i ∈ hs, al' i) (hf : ∀ i ∈ hs, find hp' i = find hp i) (hS : ∀ a v, S a = some v → S' a = some v) {cs : List C} {vs : List Value}
    (hc : cs.all (refC hs) = true) (h : CsOk al hp S μ cs vs) : CsOk al' hp' S' μ cs vs :=
  ⟨h.1, h.2.1, fun j c v a b => COk.keep hal hf hS (List.all_eq_true.1 hc c (List.mem_of_getElem? a)) (h.2.2 j c v a b)⟩
theorem AOk.keep {hs : List Nat} {al al' : Nat → Prop} {hp hp' : List (Nat × Blk)} {S S' : Addr → Option Value} (hal : ∀ i ∈ hs, al' i) (hf : ∀ i ∈ hs, find hp' i = find hp i) (hS : ∀ a v, S a = some v → S' a = some v) {x : A} {v : Value}
    (hc : refA hs x = true) (h : AOk al hp S μ x v) : AOk al' hp' S' μ x v := by
  cases x with
  | c c => exact COk.keep hal hf hS (by simpa [refA, A.cells] using hc) h
  | g cs => obtain ⟨vs, h1, h2⟩ := h; exact ⟨vs, h1, CsOk.keep hal hf hS hc h2⟩
theorem AVOk.keep {hs : List Nat} {al al' : Nat → Prop} {hp hp' : List (Nat × Blk)} {S S' : Addr → Option Value} (hal : ∀ i ∈ hs, al' i) (hf : ∀ i ∈ hs, find hp' i = find hp i) (hS : ∀ a v, S a = some v → S' a = some v) {x : AV} {v : Value}
    (hc : refV hs x = true) (h : AVOk al hp S μ x v) : AVOk al' hp' S' μ x v := by
  cases x with
  | a x => exact AOk.keep hal hf hS hc h
  | tup xs => obtain ⟨vs, h1, h2, h3⟩ := h; exact ⟨vs, h1, h2, fun j x v a b => AOk.keep hal hf hS (List.all_eq_true.1 hc x (List.mem_of_getElem? a)) (h3 j x v a b)⟩

theorem tidy_ok {ks hs : List Nat} {n : Nat} (R : Rel Γ al s a w μ) (hpn : ∀ i b, Γ.pin i = some b → i < n) (h : tidyB hs n (tidy ks hs n s) = true) : Rel Γ (· < n) (tidy ks hs n s) a w μ := by
  unfold tidyB at h
  simp only [Bool.and_eq_true] at h
  obtain ⟨⟨h1, h2⟩, h3⟩ := h
  have hal : ∀ i ∈ hs, i < n := fun i hi => by
    have := List.all_eq_true.1 h3 i hi
    simp only [Bool.and_eq_true, decide_eq_true_eq] at this
    exact this.1
  have hfind : ∀ i, find (tidy ks hs n s).hp i = if hs.contains i = true then find s.hp i else none := fun i => find_filter (fun i => hs.contains i) s.hp i
  have hf : ∀ i ∈ hs, find (tidy ks hs n s).hp i = find s.hp i := fun i hi => by rw [hfind, if_pos (by simpa using hi)]
  have hin : ∀ i b, find (tidy ks hs n s).hp i = some b → i ∈ hs ∧ find s.hp i = some b := fun i b hb => by
    rw [hfind] at hb
    split at hb
    · rename_i hc; exact ⟨by simpa using hc, hb⟩
    · cases hb
  have hlive : ∀ i, live (tidy ks hs n s).hp i → live s.hp i := fun i ⟨b, hb, hl⟩ => ⟨b, (hin i b hb).2, hl⟩
  have hS : ∀ a v, Sv Γ.G s.hp μ w a = some v → Sv Γ.G (tidy ks hs n s).hp μ w a = some v := fun a v hv => by
    rw [Sv_some] at hv ⊢
    exact ⟨⟨hv.1.1, fun ⟨i, p, g1, g2, g3⟩ => hv.1.2 ⟨i, p, hlive i g1, g2, g3⟩⟩, hv.2⟩
  have hmem : ∀ (l : List (Nat × AV)) (t : Nat) (v : AV), find l t = some v → ∃ k, (k, v) ∈ l := fun l => by
    induction l with
    | nil => intro t v h; cases h
    | cons x r ih =>
      intro t v h
      obtain ⟨k, y⟩ := x
      simp only [find] at h
      split at h
      · obtain rfl := Option.some.inj h; exact ⟨k, by simp⟩
      · obtain ⟨k', hk'⟩ := ih t v h; exact ⟨k', by simp [hk']⟩
  have hmemB : ∀ (l : List (Nat × Blk)) (t : Nat) (v : Blk), find l t = some v → ∃ k, (k, v) ∈ l := fun l => by
    induction l with
    | nil => intro t v h; cases h
    | cons x r ih =>
      intro t v h
      obtain ⟨k, y⟩ := x
      simp only [find] at h
      split at h
      · obtain rfl := Option.some.inj h; exact ⟨k, by simp⟩
      · obtain ⟨k', hk'⟩ := ih t v h; exact ⟨k', by simp [hk']⟩
  refine ⟨⟨R.mem.fr, R.mem.gd, fun i b hb => ⟨hpn i b hb, fun cs hcs => (R.mem.pin i b hb).2 cs (hin i _ hcs).2⟩, fun i b hb => hal i (hin i b hb).1, fun i p hi hp => R.mem.mine i p (hlive i hi) hp, fun i j p q hi hj => R.mem.inj i j p q (hlive i hi) (hlive j hj), fun i b hb => ?_⟩, R.size, fun t => ?_, R.defers⟩
  · have hB := R.mem.blk i b (hin i b hb).2
    cases b with
    | arr sz es v =>
      cases hp : μ i with
      | none => rw [hp] at hB; exact hB
      | some p => rw [hp] at hB; exact ArrOk.mono hS (fun _ => rfl) (fun _ => rfl) hB
    | froz sz es v =>
      cases hp : μ i with
      | none => rw [hp] at hB; exact hB
      | some p => rw [hp] at hB; exact VpOk.mono hS hB
    | box cs =>
      cases hp : μ i with
      | none => rw [hp] at hB; exact hB
      | some p =>
        rw [hp] at hB
        obtain ⟨g0, vs, g1, g2⟩ := hB
        obtain ⟨k, hk⟩ := hmemB _ _ _ hb
        exact ⟨g0, vs, CsOk.keep hal hf hS (List.all_eq_true.1 h2 _ hk) g1, g2⟩
  · unfold St.get
    cases hg : find (tidy ks hs n s).tm t with
    | none => trivial
    | some v =>
      obtain ⟨k, hk⟩ := hmem _ _ _ hg
      have hv : s.get t = v := by
        have : find (s.tm.filter fun x => ks.contains x.1) t = some v := hg
        rw [find_filter (fun i => ks.contains i)] at this
        split at this
        · simp [St.get, this]
        · cases this
      have := R.tmp t
      rw [hv] at this
      exact AVOk.keep hal hf hS (List.all_eq_true.1 h1 _ hk) this

/-- A loop: the states S i, that go down by m; ks, hs: the slots and the blocks that are kept at its head. -/
theorem W_loop {ι : Type} {c : Code} {Q : X → St → Prop} (hτ : TOk P τ) (ks hs : List Nat) (n : Nat) (S : ι → St) (m : ι → Nat) (i : ι) {s : St} (hsn : s.nx ≤ n) (h0 : tidyB hs n (tidy ks hs n s) = true) (h1 : tidy ks hs n s = S i)
    (round : ∀ i, (S i).nx = n → W P τ md c (S i) fun x s => match x with | .normal => tidyB hs n (tidy ks hs n s) = true ∧ ∃ j, m j < m i ∧ tidy ks hs n s = S j | .exit e => Q (.exit e) s | .ret => Q .ret s) : WW P (.loop c) s Q := fun Γ a w μ R => by
  have hnx : ∀ {s' : St} {j : ι}, tidy ks hs n s' = S j → (S j).nx = n := fun h => by rw [← h]; rfl
  have hpn : ∀ i b, Γ.pin i = some b → i < n := fun i b hb => Nat.lt_of_lt_of_le (R.mem.pin i b hb).1 hsn
  have R0 := tidy_ok R hpn h0
  rw [h1] at R0
  refine wp_loop_ghost (fun k a w => ∃ i μ, m i = k ∧ (S i).nx = n ∧ Rel Γ (· < n) (S i) a w μ) (m i) ⟨i, μ, rfl, hnx h1, R0⟩ fun k a w ⟨i, μ, hk, hn, R⟩ => ?_
  subst hk
  refine wp_mono (W_sound hτ c (S i) _ (round i hn) Γ a w μ (by rw [hn]; exact R)) fun e a' w' ⟨x, s', μ', hx, hq, R'⟩ => ?_
  cases x with
  | normal =>
    obtain rfl : e = .normal := by cases e <;> first | rfl | exact hx.elim
    obtain ⟨h2, j, h3, h4⟩ := hq
    have R2 := tidy_ok R' hpn h2
    rw [h4] at R2
    exact ⟨m j, h3, j, μ', rfl, hnx h4, R2⟩
  | exit j =>
    obtain ⟨k, rfl⟩ : ∃ k, e = .exit k := by cases e <;> first | exact ⟨_, rfl⟩ | exact hx.elim
    exact ⟨.exit j, s', μ', hx, hq, R'⟩
  | ret =>
    obtain rfl : e = .ret := by cases e <;> first | rfl | exact hx.elim
    exact ⟨.ret, s', μ', hx, hq, R'⟩
end
end Go.Proofs.Ytbmdncjnnlajnaa.M
