/- Contracts for what is shown, part 1: numbers in figures. No condition. -/
import Derived.Lib.ItoaNum
import Derived.Test.YtbmibaopkfenbaaDoorKExactDocTextCard6
/- Contracts for what is shown, part 1: numbers in figures. No condition. -/
namespace Go.Proofs.YtbmibaopkfenbaaDoor.M
open Go Go.Proofs
set_option maxRecDepth 100000
set_option maxHeartbeats 2000000
set_option linter.unusedSimpArgs false
set_option linter.unusedVariables false
def bs (l : List UInt8) : ByteArray := ⟨l.toArray⟩
theorem bs_app (a b : List UInt8) : bs (a ++ b) = bs a ++ bs b := by
  apply ByteArray.ext
  simp [bs]
theorem bs_size (a : List UInt8) : (bs a).size = a.length := by simp [bs, ByteArray.size]
/-- A number in figures. -/
def decS (n : Int) : ByteArray := bs (Lib.itoa n)
theorem decD_len : ∀ (k u : Nat), u < 10 ^ (k + 1) → (Lib.decDigits u).length ≤ k + 1
  | 0, u, h => by rw [Lib.decDigits, dif_pos (by simpa using h)]; simp
  | k + 1, u, h => by
    rw [Lib.decDigits]
    split
    · simp
    · have := decD_len k (u / 10) (Nat.div_lt_of_lt_mul (by rw [Nat.pow_succ] at h; omega))
      simp; omega
theorem decS_size (n : Int) (h : n.natAbs < 10 ^ 18) : (decS n).size ≤ 19 := by
  unfold decS Lib.itoa
  rw [bs_size]
  split
  · have := decD_len 17 n.natAbs h
    simp; omega
  · have := decD_len 17 n.toNat (by omega)
    omega
theorem ew46 (n : Int) (h : n.natAbs < 10 ^ 18) : CS Tryd.prog false 31 [.v (.int .i64 n)] [.str (decS n)] [] := by
  have h18 : n.natAbs < 1000000000000000000 := h
  have hsz := decD_len 17 n.natAbs h
  refine CS_act tab_ok mdO Tryd.func31 rfl rfl Tryd.ntmps31 (rl := [.tmp 2]) rfl (Nat.le_of_ble_eq_true rfl) ?_
  simp only [go_sem]
  by_cases h0 : n = 0
  · subst h0
    simp only [go_sem]
    simp [decS, Lib.itoa, Lib.decDigits, bs]
  · have e0 : (n == 0) = false := by simp [h0]
    simp only [go_sem, e0]
    refine act_loop_of (md := mdO) tab_ok [0,3,4] [] 1000 (ι := {p : Int × List UInt8 // p.1.natAbs ≤ n.natAbs ∧ p.2.length ≤ 18 ∧ (p.1 < 0 → n < 0) ∧ (p.1 = 0 → p.2 = Lib.decDigits n.natAbs) ∧ (p.1 ≠ 0 → Lib.decDigits p.1.natAbs ++ p.2 = Lib.decDigits n.natAbs)})
      (fun p => ⟨[(0, .a (.c (.t (.int .i64 p.1.1)))), (3, .a (.c (.t (.bool (decide (n < 0)))))), (4, .a (.c (.t (.str (bs p.1.2)))))], [], 1000, 31⟩) (fun p => p.1.1.natAbs) ⟨(n, []), Nat.le_refl _, by simp, id, fun h => absurd h h0, fun _ => by simp⟩
      (Nat.le_of_ble_eq_true rfl) (by simp only [go_sem]) (by simp only [go_sem]; rfl) fun p => ?_
    obtain ⟨⟨m, l⟩, h1, h2, h3, h4, h5⟩ := p
    dsimp only at h1 h2 h3 h4 h5
    simp only [go_sem]
    by_cases hm : m = 0
    · have e1 : (m != 0) = false := by simp [hm]
      simp only [go_sem, e1]
      have hl := h4 hm
      by_cases hn : n < 0
      · have e2 : decide (n < 0) = true := by simp [hn]
        simp only [go_sem, e2]
        refine ⟨by rw [bs_size]; show 1 + _ ≤ _; omega, ?_⟩
        have : (⟨#[45]⟩ : ByteArray) = bs [45] := rfl
        rw [this, ← bs_app, hl]
        unfold decS Lib.itoa
        rw [if_pos hn]; rfl
      · have e2 : decide (n < 0) = false := by simp [hn]
        simp only [go_sem, e2]
        rw [hl]
        unfold decS Lib.itoa
        rw [if_neg hn, show n.toNat = n.natAbs by omega]
    · have e1 : (m != 0) = true := by simp [hm]
      have h6 := h5 hm
      have hl6 := congrArg List.length h6
      rw [List.length_append] at hl6
      have hd1 : 1 ≤ (Lib.decDigits m.natAbs).length := by
        rw [Lib.decDigits]; split <;> simp
      have hdig : ∀ d : Nat, d < 10 → bytes [T.int .u8 (IntKind.u8.wrap (IntKind.i64.wrap (48 + (d : Int))))] = bs [UInt8.ofNat (48 + d)] := fun d hd => by
        have : d = 0 ∨ d = 1 ∨ d = 2 ∨ d = 3 ∨ d = 4 ∨ d = 5 ∨ d = 6 ∨ d = 7 ∨ d = 8 ∨ d = 9 := by omega
        rcases this with rfl | rfl | rfl | rfl | rfl | rfl | rfl | rfl | rfl | rfl <;> rfl
      have hnext : Lib.decDigits m.natAbs = (if m.natAbs < 10 then [] else Lib.decDigits (m.natAbs / 10)) ++ [UInt8.ofNat (48 + m.natAbs % 10)] := by
        rw [Lib.decDigits]
        split
        · rw [Nat.mod_eq_of_lt (by assumption)]; rfl
        · rfl
      have hfin : ∀ q : Int, q.natAbs = m.natAbs / 10 → (q < 0 → n < 0) → q.natAbs ≤ n.natAbs ∧ (UInt8.ofNat (48 + m.natAbs % 10) :: l).length ≤ 18 ∧ (q < 0 → n < 0) ∧ (q = 0 → UInt8.ofNat (48 + m.natAbs % 10) :: l = Lib.decDigits n.natAbs) ∧ (q ≠ 0 → Lib.decDigits q.natAbs ++ UInt8.ofNat (48 + m.natAbs % 10) :: l = Lib.decDigits n.natAbs) := fun q hq hs => by
        refine ⟨by omega, by rw [List.length_cons]; omega, hs, fun h0 => ?_, fun h0 => ?_⟩
        · rw [← h6, hnext, if_pos (by omega)]; rfl
        · rw [← h6, hnext, if_neg (by omega), hq]; simp
      simp only [go_sem, e1]
      refine ⟨by decide, ?_⟩
      obtain ⟨u, hu⟩ : ∃ u : Nat, u = m.natAbs := ⟨_, rfl⟩
      rw [← hu] at hfin
      have hu10 : u % 10 < 10 := Nat.mod_lt _ (by decide)
      rcases Int.lt_or_gt_of_ne hm with hneg | hpos
      · obtain rfl : m = -(u : Int) := by omega
        have t1 : (-(u : Int)).tmod 10 = -((u % 10 : Nat) : Int) := by rw [Int.neg_tmod, Int.tmod_eq_emod_of_nonneg (by omega)]; rfl
        have t2 : (-(u : Int)).tdiv 10 = -((u / 10 : Nat) : Int) := by rw [Int.neg_tdiv, Int.tdiv_eq_ediv_of_nonneg (by omega)]; rfl
        have w1 : IntKind.i64.wrap (0 - -((u % 10 : Nat) : Int)) = ((u % 10 : Nat) : Int) := by rw [IntKind.wrap_i64]; omega
        have w2 : IntKind.i64.wrap (-((u / 10 : Nat) : Int)) = -((u / 10 : Nat) : Int) := by rw [IntKind.wrap_i64]; omega
        rw [t1]
        refine act_split (fun g => ?_) (fun g => ?_) <;> simp only [go_sem, w1, t2, w2] <;> simp only [decide_eq_true_eq, decide_eq_false_iff_not] at g
        · rw [hdig _ hu10]
          refine ⟨fun b hb => by simp at hb; subst hb; trivial, by rw [bs_size, bs_size, List.length_singleton]; omega, by decide, ?_⟩
          refine nextK_of ⟨(-((u / 10 : Nat) : Int), UInt8.ofNat (48 + u % 10) :: l), by dsimp only; exact hfin (-((u / 10 : Nat) : Int)) (by omega) (by omega)⟩ (by simp only [go_sem]) ?_ (by dsimp only; omega)
          simp only [go_sem]
          rw [← bs_app]; rfl
        · have g0 : -((u % 10 : Nat) : Int) = ((u % 10 : Nat) : Int) := by omega
          rw [g0, hdig _ hu10]
          refine ⟨fun b hb => by simp at hb; subst hb; trivial, by rw [bs_size, bs_size, List.length_singleton]; omega, by decide, ?_⟩
          refine nextK_of ⟨(-((u / 10 : Nat) : Int), UInt8.ofNat (48 + u % 10) :: l), by dsimp only; exact hfin (-((u / 10 : Nat) : Int)) (by omega) (by omega)⟩ (by simp only [go_sem]) ?_ (by dsimp only; omega)
          simp only [go_sem]
          rw [← bs_app]; rfl
      · obtain rfl : m = (u : Int) := by omega
        have t1 : ((u : Int)).tmod 10 = ((u % 10 : Nat) : Int) := by rw [Int.tmod_eq_emod_of_nonneg (by omega)]; rfl
        have t2 : ((u : Int)).tdiv 10 = ((u / 10 : Nat) : Int) := by rw [Int.tdiv_eq_ediv_of_nonneg (by omega)]; rfl
        have w2 : IntKind.i64.wrap ((u / 10 : Nat) : Int) = ((u / 10 : Nat) : Int) := by rw [IntKind.wrap_i64]; omega
        have e3 : decide (((u % 10 : Nat) : Int) < 0) = false := by rw [decide_eq_false_iff_not]; omega
        rw [t1]
        simp only [go_sem, e3, t2, w2]
        rw [hdig _ hu10]
        refine ⟨fun b hb => by simp at hb; subst hb; trivial, by rw [bs_size, bs_size, List.length_singleton]; omega, by decide, ?_⟩
        refine nextK_of ⟨(((u / 10 : Nat) : Int), UInt8.ofNat (48 + u % 10) :: l), by dsimp only; exact hfin (((u / 10 : Nat) : Int)) (by omega) (by omega)⟩ (by simp only [go_sem]) ?_ (by dsimp only; omega)
        simp only [go_sem]
        rw [← bs_app]; rfl
end Go.Proofs.YtbmibaopkfenbaaDoor.M

/- What is shown of a tree, part 2: the plain words, and how long it is. No condition. -/
namespace Go.Proofs.YtbmibaopkfenbaaDoor.M
open Go Go.Proofs
set_option maxRecDepth 100000
set_option maxHeartbeats 2000000
set_option linter.unusedSimpArgs false
set_option linter.unusedVariables false
def figN (x : Nat) : Nat := if x < 10 then 48 + x else 87 + x
def hexL (l : List UInt8) : List UInt8 := l.flatMap fun b => [UInt8.ofNat (figN (b.toNat / 16)), UInt8.ofNat (figN (b.toNat % 16))]
def dicL : List ByteArray → List (List UInt8) → List UInt8
  | k :: ks, x :: xs => 32 :: 47 :: k.data.toList ++ (32 :: x) ++ dicL ks xs
  | _, _ => []
/-- Texts with a blank between them. -/
def lstL : List (List UInt8) → List UInt8
  | [] => []
  | [x] => x
  | x :: y :: r => x ++ 32 :: lstL (y :: r)
mutual
def showO : Ob → List UInt8
  | .mk k n s ks kids =>
    if k = 1 then [110, 117, 108, 108] else if k = 2 then [116, 114, 117, 101] else if k = 3 then [102, 97, 108, 115, 101] else if k = 4 then Lib.itoa n
    else if k = 9 then Lib.itoa n ++ [32, 48, 32, 82] else if k = 5 then 47 :: s.data.toList else if k = 6 then 60 :: hexL s.data.toList ++ [62]
    else if k = 7 then 91 :: lstL (showL kids) ++ [93] else [60, 60] ++ dicL ks (showL kids) ++ [32, 62, 62]
def showL : List Ob → List (List UInt8)
  | [] => []
  | o :: r => showO o :: showL r
end
theorem showL_map : ∀ (l : List Ob), showL l = l.map showO
  | [] => by rw [showL]; rfl
  | o :: r => by rw [showL, showL_map r]; rfl
mutual
def ndO : Ob → Nat
  | .mk _ _ _ _ kids => 1 + ndL kids
def ndL : List Ob → Nat
  | [] => 0
  | o :: r => ndO o + ndL r
end
inductive OkO : Ob → Prop where
  | mk (k n : Int) (s : ByteArray) (ks : List ByteArray) (kids : List Ob) (hf : fieldsB k n s ks kids.length = true) (hk : ∀ o ∈ kids, OkO o) : OkO (.mk k n s ks kids)
mutual
theorem ok_of_cnt : ∀ (o : Ob) (d : Int), cntO o d ≤ 120 → OkO o ∧ (ndO o : Int) ≤ cntO o d
  | .mk k n s ks kids, d, h => by
    rw [cntO] at h ⊢
    split at h
    · omega
    · rename_i h1
      rw [if_neg h1]
      split at h
      · omega
      · rename_i h2
        rw [if_neg h2]
        obtain ⟨a, b⟩ := okL_of_cnt kids (d + 1) 1 (by omega) h
        refine ⟨.mk _ _ _ _ _ (by simpa using h2) a, ?_⟩
        rw [ndO]; omega
theorem okL_of_cnt : ∀ (l : List Ob) (d c : Int), 0 ≤ c → cntLO l d c ≤ 120 → (∀ o ∈ l, OkO o) ∧ c + (ndL l : Int) ≤ cntLO l d c
  | [], d, c, _, h => by rw [cntLO, ndL]; exact ⟨by simp, by omega⟩
  | o :: r, d, c, h0, h => by
    rw [cntLO] at h ⊢
    split at h
    · omega
    · rename_i h1
      rw [if_neg h1]
      have hg := cntO_ge o d
      obtain ⟨a, b⟩ := okL_of_cnt r d _ (by omega) h
      have hc : cntO o d ≤ 120 := by omega
      obtain ⟨a2, b2⟩ := ok_of_cnt o d hc
      refine ⟨fun x hx => ?_, ?_⟩
      · rcases List.mem_cons.1 hx with rfl | hx
        · exact a2
        · exact a x hx
      · rw [ndL]; omega
end
theorem ndO_pos : ∀ o : Ob, 1 ≤ ndO o
  | .mk _ _ _ _ _ => by rw [ndO]; omega
theorem lstL_len : ∀ (l : List (List UInt8)), (lstL l).length ≤ (l.map fun x => x.length + 1).sum
  | [] => by simp [lstL]
  | [x] => by simp [lstL]
  | x :: y :: r => by
    have := lstL_len (y :: r)
    simp only [lstL, List.length_append, List.length_cons, List.map_cons, List.sum_cons] at this ⊢
    omega
theorem dicL_len : ∀ (ks : List ByteArray) (l : List (List UInt8)), (∀ k ∈ ks, k.size ≤ 40) → (dicL ks l).length ≤ (l.map fun x => x.length + 43).sum
  | [], l, _ => by simp [dicL]
  | k :: ks, [], _ => by simp [dicL]
  | k :: ks, x :: l, h => by
    have := dicL_len ks l fun k hk => h k (by simp [hk])
    have hk : k.data.toList.length ≤ 40 := h k (by simp)
    simp only [dicL, List.length_append, List.length_cons, List.map_cons, List.sum_cons] at this ⊢
    omega
theorem wordB_size {s : ByteArray} (h : wordB s = true) : s.size ≤ 40 := by
  simp only [wordB, inBO, Bool.and_eq_true, decide_eq_true_eq] at h
  omega
theorem keysB_size {ks : List ByteArray} (h : keysB ks = true) : ∀ k ∈ ks, k.size ≤ 40 := fun k hk => by
  obtain ⟨i, hi⟩ := List.getElem?_of_mem hk
  have := List.all_eq_true.1 h i (List.mem_range.2 (List.getElem?_eq_some_iff.1 hi).1)
  simp only [keyB, hi, Bool.and_eq_true] at this
  exact wordB_size this.1
/-- What the fields of a right tree are. -/
theorem fields_of {k n : Int} {s : ByteArray} {ks : List ByteArray} {kl : Nat} (h : fieldsB k n s ks kl = true) : (k = 1 ∨ k = 2 ∨ k = 3 ∨ k = 7) ∨ (k = 4 ∧ -1000000000 ≤ n ∧ n ≤ 1000000000) ∨ (k = 5 ∧ s.size ≤ 40) ∨ (k = 6 ∧ s.size ≤ 200) ∨
    (k = 8 ∧ ks.length = kl ∧ ∀ x ∈ ks, x.size ≤ 40) ∨ (k = 9 ∧ 1 ≤ n ∧ n ≤ 1000000000) := by
  unfold fieldsB at h
  split at h
  · cases h
  · simp only at h
    split at h
    · rename_i h1; simp at h1; left; omega
    · split at h
      · rename_i h1; simp at h1; simp [inBO] at h; exact .inr (.inl ⟨h1, by omega, by omega⟩)
      · split at h
        · rename_i h1; simp at h1; simp at h; exact .inr (.inr (.inl ⟨h1, wordB_size h.2⟩))
        · split at h
          · rename_i h1; simp at h1; simp at h; exact .inr (.inr (.inr (.inl ⟨h1, h.2⟩)))
          · split at h
            · rename_i h1; simp at h1; simp at h; exact .inr (.inr (.inr (.inr (.inl ⟨h1, h.1.2, keysB_size h.2⟩))))
            · simp [inBO] at h; exact .inr (.inr (.inr (.inr (.inr (by omega)))))
theorem itoa_len {n : Int} (h1 : -1000000000 ≤ n) (h2 : n ≤ 1000000000) : (Lib.itoa n).length ≤ 19 := by
  have := decS_size n (by omega)
  rwa [decS, bs_size] at this
theorem hexL_len (l : List UInt8) : (hexL l).length = 2 * l.length := by
  induction l with
  | nil => rfl
  | cons b r ih => simp [hexL] at ih ⊢; omega
theorem sum_le' {α : Type} {f g : α → Nat} : ∀ {l : List α}, (∀ x ∈ l, f x ≤ g x) → (l.map f).sum ≤ (l.map g).sum
  | [], _ => by simp
  | x :: r, h => by
    have h1 := h x (by simp)
    have h2 := sum_le' (l := r) fun x hx => h x (by simp [hx])
    rw [List.map_cons, List.map_cons, List.sum_cons, List.sum_cons]; omega
mutual
theorem show_len : ∀ (o : Ob), OkO o → (showO o).length + 50 ≤ 500 * ndO o
  | .mk k n s ks kids, h => by
    cases h with
    | mk _ _ _ _ _ hf hk =>
      have hl := showL_len kids hk
      have e1 : ((showL kids).map fun x => x.length + 1).sum ≤ ((showL kids).map fun x => x.length + 50).sum := sum_le' fun x _ => by omega
      have e2 : ((showL kids).map fun x => x.length + 43).sum ≤ ((showL kids).map fun x => x.length + 50).sum := sum_le' fun x _ => by omega
      rw [ndO]
      rcases fields_of hf with (rfl | rfl | rfl | rfl) | ⟨rfl, h1, h2⟩ | ⟨rfl, h1⟩ | ⟨rfl, h1⟩ | ⟨rfl, h1, h2⟩ | ⟨rfl, h1, h2⟩
      · rw [showO]; simp; omega
      · rw [showO]; simp; omega
      · rw [showO]; simp; omega
      · have := lstL_len (showL kids)
        rw [showO]; simp; omega
      · have := itoa_len h1 h2
        rw [showO]; simp; omega
      · have : s.data.toList.length ≤ 40 := h1
        rw [showO]; simp at this ⊢; omega
      · have : s.data.toList.length ≤ 200 := h1
        rw [showO]; simp [hexL_len] at this ⊢; omega
      · have := dicL_len ks (showL kids) h2
        rw [showO]; simp; omega
      · have := itoa_len (n := n) (by omega) h2
        rw [showO]; simp; omega
theorem showL_len : ∀ (l : List Ob), (∀ o ∈ l, OkO o) → ((showL l).map fun x => x.length + 50).sum ≤ 500 * ndL l
  | [], _ => by simp [showL]
  | o :: r, h => by
    have h1 := show_len o (h o (by simp))
    have h2 := showL_len r fun o ho => h o (by simp [ho])
    rw [showL, ndL, List.map_cons, List.sum_cons]
    omega
end
end Go.Proofs.YtbmibaopkfenbaaDoor.M

/- Contracts for what is shown, part 3: the reference. No condition. -/
namespace Go.Proofs.YtbmibaopkfenbaaDoor.M
open Go Go.Proofs
set_option maxRecDepth 100000
set_option maxHeartbeats 4000000
set_option linter.unusedSimpArgs false
set_option linter.unusedVariables false
theorem ew47 (x : Nat) (h : x < 16) : CS Tryd.prog false 48 [.v (.int .i64 x)] [.int .u8 (figN x)] [] := by
  refine CS_act tab_ok mdO Tryd.func48 rfl rfl Tryd.ntmps48 (rl := [.tmp 2]) rfl (Nat.le_of_ble_eq_true rfl) ?_
  simp only [go_sem]
  by_cases hx : x < 10
  · have e1 : decide ((x : Int) < 10) = true := by simp; omega
    have e2 : IntKind.u8.wrap (IntKind.i64.wrap (48 + (x : Int))) = ((figN x : Nat) : Int) := by
      rw [IntKind.wrap_i64]; simp only [figN, if_pos hx, IntKind.wrap]; simp [IntKind.bits]; omega
    simp only [go_sem, e1, e2]
  · have e1 : decide ((x : Int) < 10) = false := by simp; omega
    have e2 : IntKind.u8.wrap (IntKind.i64.wrap (IntKind.i64.wrap (97 + (x : Int)) - 10)) = ((figN x : Nat) : Int) := by
      rw [IntKind.wrap_i64, IntKind.wrap_i64]; simp only [figN, if_neg hx, IntKind.wrap]; simp [IntKind.bits]; omega
    simp only [go_sem, e1, e2]
def hexT (l : List UInt8) : List T := l.flatMap fun b => [.int .u8 (figN (b.toNat / 16)), .int .u8 (figN (b.toNat % 16))]
theorem hexT_len (l : List UInt8) : (hexT l).length = 2 * l.length := by
  induction l with
  | nil => rfl
  | cons b r ih => simp [hexT] at ih ⊢; omega
theorem hexT_app (l : List UInt8) (b : UInt8) : hexT (l ++ [b]) = hexT l ++ [.int .u8 (figN (b.toNat / 16)), .int .u8 (figN (b.toNat % 16))] := by simp [hexT]
theorem bytes_app (a b : List T) : bytes (a ++ b) = bytes a ++ bytes b := by
  apply ByteArray.ext
  simp [bytes]
theorem bytes_hex (l : List UInt8) : bytes (hexT l) = bs (hexL l) := by
  induction l with
  | nil => rfl
  | cons b r ih =>
    have e : hexT (b :: r) = [.int .u8 (figN (b.toNat / 16)), .int .u8 (figN (b.toNat % 16))] ++ hexT r := rfl
    have e2 : hexL (b :: r) = [UInt8.ofNat (figN (b.toNat / 16)), UInt8.ofNat (figN (b.toNat % 16))] ++ hexL r := rfl
    rw [e, e2, bytes_app, bs_app, ih]
    rfl
theorem isByte_hex (l : List UInt8) : ∀ b ∈ hexT l, isByte b := fun b hb => by
  obtain ⟨x, _, hx⟩ := List.mem_flatMap.1 hb
  simp at hx
  rcases hx with rfl | rfl <;> trivial
abbrev W40 (o : Ob) : Prop := CS Tryd.prog false 23 [.v o.t] [.str (bs (showO o))] []
theorem ew40a (k n : Int) (s : ByteArray) (ks : List ByteArray) (kids : List Ob) (hk : k = 1 ∨ k = 2 ∨ k = 3) : W40 (.mk k n s ks kids) := by
  unfold W40
  rw [Ob.t_mk, showO]
  refine CS_act tab_ok mdO Tryd.func23 rfl rfl Tryd.ntmps23 (rl := [.tmp 2]) rfl (Nat.le_of_ble_eq_true rfl) ?_
  rcases hk with rfl | rfl | rfl <;> simp only [go_sem, Int.reduceBEq] <;> rfl
theorem ew40b (k n : Int) (s : ByteArray) (ks : List ByteArray) (kids : List Ob) (h1 : -1000000000 ≤ n) (h2 : n ≤ 1000000000) (hk : k = 4 ∨ k = 9) : W40 (.mk k n s ks kids) := by
  have hd := ew46 n (by omega)
  have hz := decS_size n (by omega)
  unfold W40
  rw [Ob.t_mk, showO]
  refine CS_act tab_ok mdO Tryd.func23 rfl rfl Tryd.ntmps23 (rl := [.tmp 2]) rfl (Nat.le_of_ble_eq_true rfl) ?_
  rcases hk with rfl | rfl <;> simp only [go_sem, Int.reduceBEq]
  · refine act_callE hd ?_
    simp only [go_sem]
    rfl
  · refine act_callE hd ?_
    simp only [go_sem]
    refine ⟨by show _ + 4 ≤ _; omega, ?_⟩
    have : (⟨#[32, 48, 32, 82]⟩ : ByteArray) = bs [32, 48, 32, 82] := rfl
    rw [this, decS, ← bs_app]
    rfl
theorem ew40c (n : Int) (s : ByteArray) (ks : List ByteArray) (kids : List Ob) (h1 : s.size ≤ 200) : W40 (.mk 5 n s ks kids) := by
  unfold W40
  rw [Ob.t_mk, showO]
  refine CS_act tab_ok mdO Tryd.func23 rfl rfl Tryd.ntmps23 (rl := [.tmp 2]) rfl (Nat.le_of_ble_eq_true rfl) ?_
  simp only [go_sem, Int.reduceBEq]
  refine ⟨by show 1 + _ ≤ _; omega, ?_⟩
  have : (⟨#[47]⟩ : ByteArray) ++ s = bs (47 :: s.data.toList) := by
    apply ByteArray.ext; simp [bs]
  rw [this]
  rfl
theorem ew40d (n : Int) (s : ByteArray) (ks : List ByteArray) (kids : List Ob) (h1 : s.size ≤ 200) : W40 (.mk 6 n s ks kids) := by
  have hsl : s.data.toList.length = s.size := rfl
  unfold W40
  rw [Ob.t_mk, showO]
  refine CS_act tab_ok mdO Tryd.func23 rfl rfl Tryd.ntmps23 (rl := [.tmp 2]) rfl (Nat.le_of_ble_eq_true rfl) ?_
  simp only [go_sem, Int.reduceBEq]
  refine act_loop_of (md := mdO) tab_ok [1,3,4] [0,288] 2000 (ι := {i : Nat // i ≤ s.size})
    (fun i => ⟨[(1, .a (.c (.ptr 0 0))), (3, .a (.c (.own 288 i.1 0 (1 + 2 * i.1)))), (4, .a (.c (.t (.int .i64 i.1))))],
      [(0, .box [.t (.int .i64 6), .t (.int .i64 n), .t (.str s), .t (.list 1 (ks.map T.str)), .t (.list 5 (kids.map Ob.t))]), (288, .arr 1 (.int .u8 60 :: hexT (s.data.toList.take i.1)) i.1)], 2000, 112⟩)
    (fun i => s.size - i.1) ⟨0, Nat.zero_le _⟩ (Nat.le_of_ble_eq_true rfl) (by simp only [go_sem]) (by simp only [go_sem]; rfl) fun i => ?_
  obtain ⟨i, hi⟩ := i
  dsimp only
  simp only [go_sem]
  have hlen : (hexT (s.data.toList.take i)).length = 2 * i := by rw [hexT_len, List.length_take]; omega
  by_cases hil : i < s.size
  · have e1 : decide ((i : Int) < s.size) = true := by simp; omega
    have hb : s.data.toList[i]? = some (s.data.getD i 0) := by
      have hh : i < s.data.size := hil
      rw [Array.getD, dif_pos hh, List.getElem?_eq_getElem (by simpa using hh)]
      simp
    have htk : s.data.toList.take (i + 1) = s.data.toList.take i ++ [s.data.getD i 0] := by rw [List.take_add_one, hb]; rfl
    have ht : ((i : Int)).toNat = i := rfl
    simp only [go_sem, e1]
    refine act_draw_of tab_ok mix mdO ?_
    simp only [go_sem, ht]
    generalize hB : s.data.getD i 0 = B at htk
    have hB8 : B.toNat < 256 := B.toNat_lt
    have w0 : IntKind.i64.wrap (B.toNat : Int) = (B.toNat : Int) := by rw [IntKind.wrap_i64]; omega
    have t1 : ((B.toNat : Int)).tdiv 16 = ((B.toNat / 16 : Nat) : Int) := by rw [Int.tdiv_eq_ediv_of_nonneg (by omega)]; rfl
    have t2 : ((B.toNat : Int)).tmod 16 = ((B.toNat % 16 : Nat) : Int) := by rw [Int.tmod_eq_emod_of_nonneg (by omega)]; rfl
    have w1 : IntKind.i64.wrap ((B.toNat / 16 : Nat) : Int) = ((B.toNat / 16 : Nat) : Int) := by rw [IntKind.wrap_i64]; omega
    refine ⟨by omega, by omega, by decide, ?_⟩
    rw [w0, t1, w1]
    refine act_callE (ew47 _ (by omega)) ?_
    simp only [go_sem, ht, hB]
    refine ⟨by omega, by omega, by decide, ?_⟩
    rw [w0, t2]
    refine act_callE (ew47 _ (Nat.mod_lt _ (by decide))) ?_
    simp only [go_sem]
    refine ⟨by rw [hlen]; omega, by rw [hlen]; omega, drawOk_of (by kernel_rfl), ?_⟩
    refine nextK_of ⟨i + 1, by omega⟩ (by simp only [go_sem]) ?_ (by dsimp only; omega)
    simp only [go_sem]
    rw [wrap64O (n := (i : Int) + 1) (by omega) (by omega), htk, hexT_app]
    rfl
  · obtain rfl : i = s.size := by omega
    have e1 : decide ((s.size : Int) < s.size) = false := by simp
    simp only [go_sem, e1]
    have hfull : s.data.toList.take s.size = s.data.toList := List.take_of_length_le (by omega)
    rw [hfull] at hlen ⊢
    rw [List.take_of_length_le (by simp [hlen]; omega)]
    refine ⟨by omega, by omega, fun b hb => ?_, ?_⟩
    · rcases List.mem_cons.1 hb with rfl | hb
      · trivial
      · rcases List.mem_append.1 hb with hb | hb
        · exact isByte_hex _ b hb
        · simp at hb; subst hb; trivial
    · have e : (T.int .u8 60 :: (hexT s.data.toList ++ [T.int .u8 62])) = [T.int .u8 60] ++ (hexT s.data.toList ++ [T.int .u8 62]) := rfl
      have e2 : (60 :: (hexL s.data.toList ++ [62]) : List UInt8) = [60] ++ (hexL s.data.toList ++ [62]) := rfl
      rw [e, bytes_app, bytes_app, bytes_hex]
      simp only [Int.reduceEq, if_false, if_true, List.cons_append]
      rw [e2, bs_app, bs_app]
      rfl
/-- Texts, joined as far as they are told. -/
theorem lstL_succ : ∀ (l : List (List UInt8)) (x : List UInt8), l ≠ [] → lstL (l ++ [x]) = lstL l ++ (32 :: x)
  | [], x, h => absurd rfl h
  | [y], x, _ => rfl
  | y :: z :: r, x, _ => by
    have := lstL_succ (z :: r) x (by simp)
    simp only [List.cons_append] at this ⊢
    rw [lstL, lstL, this]; simp
theorem lstL_pre (l : List (List UInt8)) (i : Nat) : (lstL (l.take i)).length ≤ (l.map fun x => x.length + 50).sum := by
  refine Nat.le_trans (lstL_len _) ?_
  induction l generalizing i with
  | nil => simp
  | cons x r ih =>
    cases i with
    | zero => simp
    | succ i =>
      have := ih i
      simp only [List.take_succ_cons, List.map_cons, List.sum_cons] at this ⊢
      omega
theorem ew40e (n : Int) (s : ByteArray) (ks : List ByteArray) (kids : List Ob) (hn : ndL kids ≤ 120) (hok : ∀ o ∈ kids, OkO o) (hkl : kids.length ≤ 1048576) (hh : ∀ o ∈ kids, W40 o) : W40 (.mk 7 n s ks kids) := by
  have hsl := showL_len kids hok
  have hpre := lstL_pre (showL kids)
  rw [showL_map] at hsl hpre
  unfold W40
  rw [Ob.t_mk, showO, showL_map]
  refine CS_act tab_ok mdO Tryd.func23 rfl rfl Tryd.ntmps23 (rl := [.tmp 2]) rfl (Nat.le_of_ble_eq_true rfl) ?_
  simp only [go_sem, Int.reduceBEq]
  refine act_loop_of (md := mdO) tab_ok [1,5,6] [0] 2000 (ι := {i : Nat // i ≤ kids.length})
    (fun i => ⟨[(1, .a (.c (.ptr 0 0))), (5, .a (.c (.t (.str (bs (91 :: lstL ((kids.map showO).take i.1))))))), (6, .a (.c (.t (.int .i64 i.1))))],
      [(0, .box [.t (.int .i64 7), .t (.int .i64 n), .t (.str s), .t (.list 1 (ks.map T.str)), .t (.list 5 (kids.map Ob.t))])], 2000, 112⟩)
    (fun i => kids.length - i.1) ⟨0, Nat.zero_le _⟩ (Nat.le_of_ble_eq_true rfl) (by simp only [go_sem]) (by simp only [go_sem]; rfl) fun i => ?_
  obtain ⟨i, hi⟩ := i
  dsimp only
  simp only [go_sem, List.length_map]
  have hp := hpre i
  by_cases hil : i < kids.length
  · have e1 : decide ((i : Int) < kids.length) = true := by simp; omega
    obtain ⟨x, hx⟩ : ∃ x, kids[i]? = some x := ⟨_, List.getElem?_eq_getElem hil⟩
    have hc := hh x (List.mem_of_getElem? hx)
    have hxl := show_len x (hok x (List.mem_of_getElem? hx))
    have hxn : ndO x ≤ 120 := by
      have key : ∀ {l : List Ob} {i : Nat}, l[i]? = some x → ndO x ≤ ndL l := fun {l} => by
        induction l with
        | nil => intro i h; simp at h
        | cons o r ih =>
          intro i h
          rw [ndL]
          cases i with
          | zero => simp at h; subst h; omega
          | succ i => have := ih (i := i) (by simpa using h); omega
      exact Nat.le_trans (key hx) hn
    have htk : (kids.map showO).take (i + 1) = (kids.map showO).take i ++ [showO x] := by rw [List.take_add_one, List.getElem?_map, hx]; rfl
    have w1 : IntKind.i64.wrap ((i : Int) + 1) = ((i + 1 : Nat) : Int) := wrap64O (by omega) (by omega)
    unfold W40 at hc
    obtain ⟨k', n', s', ks', kids'⟩ := x
    rw [Ob.t_mk] at hc
    simp only [go_sem, e1]
    by_cases h0 : 0 < i
    · have e2 : decide ((i : Int) > 0) = true := by simp; omega
      have hne : (kids.map showO).take i ≠ [] := by
        have hq : ((kids.map showO).take i).length = i := by simp; omega
        intro h; rw [h] at hq; simp at hq; omega
      simp only [go_sem, e2, List.getElem?_map, hx, Ob.t_mk, List.length_map]
      refine ⟨by rw [bs_size, List.length_cons]; show _ + 1 ≤ _; omega, by omega, by omega, ?_⟩
      refine act_callE hc ?_
      simp only [go_sem]
      have e3 : (⟨#[32]⟩ : ByteArray) = bs [32] := rfl
      rw [e3, ← bs_app, ← bs_app]
      refine ⟨by simp only [bs_size, List.length_append, List.length_cons, List.length_nil, List.cons_append, List.size_toArray]; omega, ?_⟩
      refine nextK_of ⟨i + 1, by omega⟩ (by simp only [go_sem]) ?_ (by dsimp only; omega)
      simp only [go_sem]
      rw [w1, htk, lstL_succ _ _ hne]
      simp
    · obtain rfl : i = 0 := by omega
      have e2 : decide (((0 : Nat) : Int) > 0) = false := rfl
      simp only [go_sem, e2, List.getElem?_map, hx, Ob.t_mk, List.length_map]
      refine ⟨by omega, by omega, ?_⟩
      refine act_callE hc ?_
      simp only [go_sem]
      rw [← bs_app]
      refine ⟨by simp only [bs_size, List.length_cons, List.take_zero, lstL, List.length_nil, List.size_toArray]; omega, ?_⟩
      refine nextK_of ⟨1, by omega⟩ (by simp only [go_sem]) ?_ (by dsimp only; omega)
      simp only [go_sem]
      rw [w1, htk]
      simp [lstL]
  · obtain rfl : i = kids.length := by omega
    have e1 : decide ((kids.length : Int) < kids.length) = false := by simp
    simp only [go_sem, e1]
    have hfull : (kids.map showO).take kids.length = kids.map showO := List.take_of_length_le (by simp)
    rw [hfull] at hp ⊢
    refine ⟨by rw [bs_size, List.length_cons]; show _ + 1 ≤ _; omega, ?_⟩
    have e3 : (⟨#[93]⟩ : ByteArray) = bs [93] := rfl
    rw [e3, ← bs_app]
    rfl
end Go.Proofs.YtbmibaopkfenbaaDoor.M

/- Contracts for what is shown, part 4: dicts; the reference's ShowObj. No condition. -/
namespace Go.Proofs.YtbmibaopkfenbaaDoor.M
open Go Go.Proofs
set_option maxRecDepth 100000
set_option maxHeartbeats 4000000
set_option linter.unusedSimpArgs false
set_option linter.unusedVariables false
theorem dicL_succ : ∀ {ks : List ByteArray} {l : List (List UInt8)} (k : ByteArray) (x : List UInt8), ks.length = l.length → dicL (ks ++ [k]) (l ++ [x]) = dicL ks l ++ (32 :: 47 :: k.data.toList ++ (32 :: x))
  | [], [], k, x, _ => by simp [dicL]
  | a :: ks, b :: l, k, x, h => by
    have := dicL_succ (ks := ks) (l := l) k x (by simpa using h)
    simp only [List.cons_append] at this ⊢
    rw [dicL, dicL, this]
    simp
theorem sum_take_le {α : Type} (f : α → Nat) : ∀ (l : List α) (i : Nat), ((l.take i).map f).sum ≤ (l.map f).sum
  | [], i => by simp
  | x :: r, 0 => by simp
  | x :: r, i + 1 => by
    have := sum_take_le f r i
    simp only [List.take_succ_cons, List.map_cons, List.sum_cons]; omega
theorem dicL_pre (ks : List ByteArray) (l : List (List UInt8)) (i : Nat) (h : ∀ k ∈ ks, k.size ≤ 40) : (dicL (ks.take i) (l.take i)).length ≤ (l.map fun x => x.length + 50).sum := by
  refine Nat.le_trans (dicL_len _ _ fun k hk => h k (List.mem_of_mem_take hk)) ?_
  exact Nat.le_trans (sum_le' fun x _ => by omega) (sum_take_le (fun x : List UInt8 => x.length + 50) l i)
theorem nd_mem {x : Ob} : ∀ {l : List Ob} {i : Nat}, l[i]? = some x → ndO x ≤ ndL l := fun {l} => by
  induction l with
  | nil => intro i h; simp at h
  | cons o r ih =>
    intro i h
    rw [ndL]
    cases i with
    | zero => simp at h; subst h; omega
    | succ i => have := ih (i := i) (by simpa using h); omega
theorem ew40f (n : Int) (s : ByteArray) (ks : List ByteArray) (kids : List Ob) (hn : ndL kids ≤ 120) (hok : ∀ o ∈ kids, OkO o) (hkl : kids.length ≤ 1048576) (hl : ks.length = kids.length) (hks : ∀ k ∈ ks, k.size ≤ 40) (hh : ∀ o ∈ kids, W40 o) : W40 (.mk 8 n s ks kids) := by
  have hsl := showL_len kids hok
  have hpre := fun i => dicL_pre ks (showL kids) i hks
  rw [showL_map] at hsl hpre
  unfold W40
  rw [Ob.t_mk, showO, showL_map]
  refine CS_act tab_ok mdO Tryd.func23 rfl rfl Tryd.ntmps23 (rl := [.tmp 2]) rfl (Nat.le_of_ble_eq_true rfl) ?_
  simp only [go_sem, Int.reduceBEq]
  refine act_loop_of (md := mdO) tab_ok [1,7,8] [0] 2000 (ι := {i : Nat // i ≤ kids.length})
    (fun i => ⟨[(1, .a (.c (.ptr 0 0))), (7, .a (.c (.t (.str (bs ([60, 60] ++ dicL (ks.take i.1) ((kids.map showO).take i.1))))))), (8, .a (.c (.t (.int .i64 i.1))))],
      [(0, .box [.t (.int .i64 8), .t (.int .i64 n), .t (.str s), .t (.list 1 (ks.map T.str)), .t (.list 5 (kids.map Ob.t))])], 2000, 112⟩)
    (fun i => kids.length - i.1) ⟨0, Nat.zero_le _⟩ (Nat.le_of_ble_eq_true rfl) (by simp only [go_sem]) (by simp only [go_sem]; rfl) fun i => ?_
  obtain ⟨i, hi⟩ := i
  dsimp only
  simp only [go_sem, List.length_map]
  have hp := hpre i
  by_cases hil : i < kids.length
  · have e1 : decide ((i : Int) < ks.length) = true := by simp; omega
    obtain ⟨x, hx⟩ : ∃ x, kids[i]? = some x := ⟨_, List.getElem?_eq_getElem hil⟩
    obtain ⟨q, hq⟩ : ∃ q, ks[i]? = some q := ⟨_, List.getElem?_eq_getElem (by omega)⟩
    have hqs : q.size ≤ 40 := hks q (List.mem_of_getElem? hq)
    obtain ⟨ql, rfl⟩ : ∃ ql, q = bs ql := ⟨q.data.toList, by apply ByteArray.ext; simp [bs]⟩
    have hqd : (bs ql).data.toList = ql := by simp [bs]
    rw [bs_size] at hqs
    have hc := hh x (List.mem_of_getElem? hx)
    have hxl := show_len x (hok x (List.mem_of_getElem? hx))
    have hxn : ndO x ≤ 120 := Nat.le_trans (nd_mem hx) hn
    have htk : (kids.map showO).take (i + 1) = (kids.map showO).take i ++ [showO x] := by rw [List.take_add_one, List.getElem?_map, hx]; rfl
    have htq : ks.take (i + 1) = ks.take i ++ [bs ql] := by rw [List.take_add_one, hq]; rfl
    have w1 : IntKind.i64.wrap ((i : Int) + 1) = ((i + 1 : Nat) : Int) := wrap64O (by omega) (by omega)
    unfold W40 at hc
    obtain ⟨k', n', s', ks', kids'⟩ := x
    rw [Ob.t_mk] at hc
    simp only [go_sem, e1]
    refine act_draw_of tab_ok mix mdO ?_
    simp only [go_sem, List.getElem?_map, hx, hq, Ob.t_mk, List.length_map]
    have e3 : (⟨#[32, 47]⟩ : ByteArray) = bs [32, 47] := rfl
    have e4 : (⟨#[32]⟩ : ByteArray) = bs [32] := rfl
    rw [e3, e4, ← bs_app, ← bs_app, ← bs_app]
    refine ⟨by simp only [bs_size, List.length_append, List.length_cons, List.length_nil, List.size_toArray]; omega, by omega, by omega, ?_⟩
    refine ⟨by simp only [bs_size, List.length_append, List.length_cons, List.length_nil, List.size_toArray]; omega, ?_⟩
    refine ⟨by simp only [bs_size, List.length_append, List.length_cons, List.length_nil, List.size_toArray]; omega, by omega, by omega, ?_⟩
    refine act_callE hc ?_
    simp only [go_sem]
    rw [← bs_app]
    refine ⟨by simp only [bs_size, List.length_append, List.length_cons, List.length_nil, List.size_toArray]; omega, drawOk_of (by kernel_rfl), ?_⟩
    refine nextK_of ⟨i + 1, by omega⟩ (by simp only [go_sem]) ?_ (by dsimp only; omega)
    simp only [go_sem]
    rw [w1, htk, htq, dicL_succ _ _ (by simp; omega), hqd]
    simp
  · obtain rfl : i = kids.length := by omega
    have e1 : decide ((kids.length : Int) < ks.length) = false := by simp; omega
    simp only [go_sem, e1]
    have hfull : (kids.map showO).take kids.length = kids.map showO := List.take_of_length_le (by simp)
    have hfull2 : ks.take kids.length = ks := List.take_of_length_le (by omega)
    rw [hfull, hfull2] at hp ⊢
    have e3 : (⟨#[32, 62, 62]⟩ : ByteArray) = bs [32, 62, 62] := rfl
    rw [e3, ← bs_app]
    refine ⟨by simp only [bs_size, List.length_append, List.length_cons, List.length_nil, List.size_toArray]; omega, ?_⟩
    rfl
theorem ew40s : ∀ o : Ob, OkO o → Tn o → ndO o ≤ 120 → W40 o
  | .mk k n s ks kids, h, hT, hn => by
    rw [ndO] at hn
    cases h with
    | mk _ _ _ _ _ hf hk =>
      cases hT with
      | mk _ _ _ _ _ t0 t1 tk t2 t3 =>
        have hh : ∀ o ∈ kids, W40 o := fun o ho => by
          obtain ⟨i, hi⟩ := List.getElem?_of_mem ho
          have := nd_mem hi
          exact ew40s o (hk o ho) (t3 o ho) (by omega)
        rcases fields_of hf with (rfl | rfl | rfl | rfl) | ⟨rfl, h1, h2⟩ | ⟨rfl, h1⟩ | ⟨rfl, h1⟩ | ⟨rfl, h1, h2⟩ | ⟨rfl, h1, h2⟩
        · exact ew40a _ _ _ _ _ (by omega)
        · exact ew40a _ _ _ _ _ (by omega)
        · exact ew40a _ _ _ _ _ (by omega)
        · exact ew40e _ _ _ _ (by omega) hk t2 hh
        · exact ew40b _ _ _ _ _ h1 h2 (by omega)
        · exact ew40c _ _ _ _ (by omega)
        · exact ew40d _ _ _ _ h1
        · exact ew40f _ _ _ _ (by omega) hk t2 h1 h2 hh
        · exact ew40b _ _ _ _ _ (by omega) h2 (by omega)
  decreasing_by
  have := List.sizeOf_lt_of_mem ho
  simp only [Ob.mk.sizeOf_spec]
  omega
/-- What ShowObj tells. -/
def shO (o : Ob) : ByteArray := if cntO o 0 ≤ 120 then bs (showO o) else ⟨#[]⟩
theorem ew26 (o : Ob) (hT : Tn o) : CS Tryd.prog false 7 [.v o.t] [.str (shO o), .bool (decide (cntO o 0 ≤ 120))] [] := by
  have hok := oc26 o hT
  have h40 : cntO o 0 ≤ 120 → W40 o := fun h => by
    obtain ⟨a, b⟩ := ok_of_cnt o 0 h
    exact ew40s o a hT (by omega)
  unfold shO
  unfold W40 at h40
  obtain ⟨k, n, s, ks, kids⟩ := o
  rw [Ob.t_mk] at hok h40 ⊢
  refine CS_act tab_ok mdO Tryd.func7 rfl rfl Tryd.ntmps7 (rl := [.tmp 2, .tmp 3]) rfl (Nat.le_of_ble_eq_true rfl) ?_
  simp only [go_sem]
  refine act_callE hok ?_
  by_cases h : cntO (.mk k n s ks kids) 0 ≤ 120
  · have e : decide (cntO (.mk k n s ks kids) 0 ≤ 120) = true := by simp [h]
    simp only [go_sem, e]
    refine act_callE (h40 h) ?_
    simp only [go_sem, if_pos h]
  · have e : decide (cntO (.mk k n s ks kids) 0 ≤ 120) = false := by simp [h]
    simp only [go_sem, e, if_neg h]
end Go.Proofs.YtbmibaopkfenbaaDoor.M
