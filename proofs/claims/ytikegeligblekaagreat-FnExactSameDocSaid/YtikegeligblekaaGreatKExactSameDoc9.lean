/- Contracts for what is shown, part 1: numbers in figures. No condition. -/
import Derived.Lib.ItoaNum
import Derived.Test.YtikegeligblekaaGreatKExactSameDoc8
/- Contracts for what is shown, part 1: numbers in figures. No condition. -/
namespace Go.Proofs.YtikegeligblekaaGreat.M
open Go Go.Proofs
set_option maxRecDepth 100000
set_option maxHeartbeats 2000000
set_option linter.unusedSimpArgs false
set_option linter.unusedVariables false
def bs (l : List UInt8) : ByteArray := ⟨l.toArray⟩
theorem bs_app (a b : List UInt8) : bs (a ++ b) = bs a ++ bs b := by
  apply ByteArray.ext
  simp [bs]
theorem bs_size (a : List UInt8) : (bs a).size = a.length := by simp [bs, ByteArray.size]
/-- A number in figures. -/
def decS (n : Int) : ByteArray := bs (Lib.itoa n)
theorem decD_len : ∀ (k u : Nat), u < 10 ^ (k + 1) → (Lib.decDigits u).length ≤ k + 1
  | 0, u, h => by rw [Lib.decDigits, dif_pos (by simpa using h)]; simp
  | k + 1, u, h => by
    rw [Lib.decDigits]
    split
    · simp
    · have := decD_len k (u / 10) (Nat.div_lt_of_lt_mul (by rw [Nat.pow_succ] at h; omega))
      simp; omega
theorem decS_size (n : Int) (h : n.natAbs < 10 ^ 18) : (decS n).size ≤ 19 := by
  unfold decS Lib.itoa
  rw [bs_size]
  split
  · have := decD_len 17 n.natAbs h
    simp; omega
  · have := decD_len 17 n.toNat (by omega)
    omega
theorem ew46 (n : Int) (h : n.natAbs < 10 ^ 18) : CS Tryz.prog false 24 [.v (.int .i64 n)] [.str (decS n)] [] := by
  have h18 : n.natAbs < 1000000000000000000 := h
  have hsz := decD_len 17 n.natAbs h
  refine CS_act tab_ok mdO Tryz.func24 rfl rfl Tryz.ntmps24 (rl := [.tmp 2]) rfl (Nat.le_of_ble_eq_true rfl) ?_
  simp only [go_sem]
  by_cases h0 : n = 0
  · subst h0
    simp only [go_sem]
    simp [decS, Lib.itoa, Lib.decDigits, bs]
  · have e0 : (n == 0) = false := by simp [h0]
    simp only [go_sem, e0]
    refine act_loop_of (md := mdO) tab_ok [0,3,4] [] 1000 (ι := {p : Int × List UInt8 // p.1.natAbs ≤ n.natAbs ∧ p.2.length ≤ 18 ∧ (p.1 < 0 → n < 0) ∧ (p.1 = 0 → p.2 = Lib.decDigits n.natAbs) ∧ (p.1 ≠ 0 → Lib.decDigits p.1.natAbs ++ p.2 = Lib.decDigits n.natAbs)})
      (fun p => ⟨[(0, .a (.c (.t (.int .i64 p.1.1)))), (3, .a (.c (.t (.bool (decide (n < 0)))))), (4, .a (.c (.t (.str (bs p.1.2)))))], [], 1000, 31⟩) (fun p => p.1.1.natAbs) ⟨(n, []), Nat.le_refl _, by simp, id, fun h => absurd h h0, fun _ => by simp⟩
      (Nat.le_of_ble_eq_true rfl) (by simp only [go_sem]) (by simp only [go_sem]; rfl) fun p => ?_
    obtain ⟨⟨m, l⟩, h1, h2, h3, h4, h5⟩ := p
    dsimp only at h1 h2 h3 h4 h5
    simp only [go_sem]
    by_cases hm : m = 0
    · have e1 : (m != 0) = false := by simp [hm]
      simp only [go_sem, e1]
      have hl := h4 hm
      by_cases hn : n < 0
      · have e2 : decide (n < 0) = true := by simp [hn]
        simp only [go_sem, e2]
        refine ⟨by rw [bs_size]; show 1 + _ ≤ _; omega, ?_⟩
        have : (⟨#[45]⟩ : ByteArray) = bs [45] := rfl
        rw [this, ← bs_app, hl]
        unfold decS Lib.itoa
        rw [if_pos hn]; rfl
      · have e2 : decide (n < 0) = false := by simp [hn]
        simp only [go_sem, e2]
        rw [hl]
        unfold decS Lib.itoa
        rw [if_neg hn, show n.toNat = n.natAbs by omega]
    · have e1 : (m != 0) = true := by simp [hm]
      have h6 := h5 hm
      have hl6 := congrArg List.length h6
      rw [List.length_append] at hl6
      have hd1 : 1 ≤ (Lib.decDigits m.natAbs).length := by
        rw [Lib.decDigits]; split <;> simp
      have hdig : ∀ d : Nat, d < 10 → bytes [T.int .u8 (IntKind.u8.wrap (IntKind.i64.wrap (48 + (d : Int))))] = bs [UInt8.ofNat (48 + d)] := fun d hd => by
        have : d = 0 ∨ d = 1 ∨ d = 2 ∨ d = 3 ∨ d = 4 ∨ d = 5 ∨ d = 6 ∨ d = 7 ∨ d = 8 ∨ d = 9 := by omega
        rcases this with rfl | rfl | rfl | rfl | rfl | rfl | rfl | rfl | rfl | rfl <;> rfl
      have hnext : Lib.decDigits m.natAbs = (if m.natAbs < 10 then [] else Lib.decDigits (m.natAbs / 10)) ++ [UInt8.ofNat (48 + m.natAbs % 10)] := by
        rw [Lib.decDigits]
        split
        · rw [Nat.mod_eq_of_lt (by assumption)]; rfl
        · rfl
      have hfin : ∀ q : Int, q.natAbs = m.natAbs / 10 → (q < 0 → n < 0) → q.natAbs ≤ n.natAbs ∧ (UInt8.ofNat (48 + m.natAbs % 10) :: l).length ≤ 18 ∧ (q < 0 → n < 0) ∧ (q = 0 → UInt8.ofNat (48 + m.natAbs % 10) :: l = Lib.decDigits n.natAbs) ∧ (q ≠ 0 → Lib.decDigits q.natAbs ++ UInt8.ofNat (48 + m.natAbs % 10) :: l = Lib.decDigits n.natAbs) := fun q hq hs => by
        refine ⟨by omega, by rw [List.length_cons]; omega, hs, fun h0 => ?_, fun h0 => ?_⟩
        · rw [← h6, hnext, if_pos (by omega)]; rfl
        · rw [← h6, hnext, if_neg (by omega), hq]; simp
      simp only [go_sem, e1]
      refine ⟨by decide, ?_⟩
      obtain ⟨u, hu⟩ : ∃ u : Nat, u = m.natAbs := ⟨_, rfl⟩
      rw [← hu] at hfin
      have hu10 : u % 10 < 10 := Nat.mod_lt _ (by decide)
      rcases Int.lt_or_gt_of_ne hm with hneg | hpos
      · obtain rfl : m = -(u : Int) := by omega
        have t1 : (-(u : Int)).tmod 10 = -((u % 10 : Nat) : Int) := by rw [Int.neg_tmod, Int.tmod_eq_emod_of_nonneg (by omega)]; rfl
        have t2 : (-(u : Int)).tdiv 10 = -((u / 10 : Nat) : Int) := by rw [Int.neg_tdiv, Int.tdiv_eq_ediv_of_nonneg (by omega)]; rfl
        have w1 : IntKind.i64.wrap (0 - -((u % 10 : Nat) : Int)) = ((u % 10 : Nat) : Int) := by rw [IntKind.wrap_i64]; omega
        have w2 : IntKind.i64.wrap (-((u / 10 : Nat) : Int)) = -((u / 10 : Nat) : Int) := by rw [IntKind.wrap_i64]; omega
        rw [t1]
        refine act_split (fun g => ?_) (fun g => ?_) <;> simp only [go_sem, w1, t2, w2] <;> simp only [decide_eq_true_eq, decide_eq_false_iff_not] at g
        · rw [hdig _ hu10]
          refine ⟨fun b hb => by simp at hb; subst hb; trivial, by rw [bs_size, bs_size, List.length_singleton]; omega, by decide, ?_⟩
          refine nextK_of ⟨(-((u / 10 : Nat) : Int), UInt8.ofNat (48 + u % 10) :: l), by dsimp only; exact hfin (-((u / 10 : Nat) : Int)) (by omega) (by omega)⟩ (by simp only [go_sem]) ?_ (by dsimp only; omega)
          simp only [go_sem]
          rw [← bs_app]; rfl
        · have g0 : -((u % 10 : Nat) : Int) = ((u % 10 : Nat) : Int) := by omega
          rw [g0, hdig _ hu10]
          refine ⟨fun b hb => by simp at hb; subst hb; trivial, by rw [bs_size, bs_size, List.length_singleton]; omega, by decide, ?_⟩
          refine nextK_of ⟨(-((u / 10 : Nat) : Int), UInt8.ofNat (48 + u % 10) :: l), by dsimp only; exact hfin (-((u / 10 : Nat) : Int)) (by omega) (by omega)⟩ (by simp only [go_sem]) ?_ (by dsimp only; omega)
          simp only [go_sem]
          rw [← bs_app]; rfl
      · obtain rfl : m = (u : Int) := by omega
        have t1 : ((u : Int)).tmod 10 = ((u % 10 : Nat) : Int) := by rw [Int.tmod_eq_emod_of_nonneg (by omega)]; rfl
        have t2 : ((u : Int)).tdiv 10 = ((u / 10 : Nat) : Int) := by rw [Int.tdiv_eq_ediv_of_nonneg (by omega)]; rfl
        have w2 : IntKind.i64.wrap ((u / 10 : Nat) : Int) = ((u / 10 : Nat) : Int) := by rw [IntKind.wrap_i64]; omega
        have e3 : decide (((u % 10 : Nat) : Int) < 0) = false := by rw [decide_eq_false_iff_not]; omega
        rw [t1]
        simp only [go_sem, e3, t2, w2]
        rw [hdig _ hu10]
        refine ⟨fun b hb => by simp at hb; subst hb; trivial, by rw [bs_size, bs_size, List.length_singleton]; omega, by decide, ?_⟩
        refine nextK_of ⟨(((u / 10 : Nat) : Int), UInt8.ofNat (48 + u % 10) :: l), by dsimp only; exact hfin (((u / 10 : Nat) : Int)) (by omega) (by omega)⟩ (by simp only [go_sem]) ?_ (by dsimp only; omega)
        simp only [go_sem]
        rw [← bs_app]; rfl
end Go.Proofs.YtikegeligblekaaGreat.M

/- What is shown of a tree, part 2: the plain words, and how long it is. No condition. -/
namespace Go.Proofs.YtikegeligblekaaGreat.M
open Go Go.Proofs
set_option maxRecDepth 100000
set_option maxHeartbeats 2000000
set_option linter.unusedSimpArgs false
set_option linter.unusedVariables false
def figN (x : Nat) : Nat := if x < 10 then 48 + x else 87 + x
def hexL (l : List UInt8) : List UInt8 := l.flatMap fun b => [UInt8.ofNat (figN (b.toNat / 16)), UInt8.ofNat (figN (b.toNat % 16))]
def dicL : List ByteArray → List (List UInt8) → List UInt8
  | k :: ks, x :: xs => 32 :: 47 :: k.data.toList ++ (32 :: x) ++ dicL ks xs
  | _, _ => []
/-- Texts with a blank between them. -/
def lstL : List (List UInt8) → List UInt8
  | [] => []
  | [x] => x
  | x :: y :: r => x ++ 32 :: lstL (y :: r)
mutual
def showO : Ob → List UInt8
  | .mk k n s ks kids =>
    if k = 1 then [110, 117, 108, 108] else if k = 2 then [116, 114, 117, 101] else if k = 3 then [102, 97, 108, 115, 101] else if k = 4 then Lib.itoa n
    else if k = 9 then Lib.itoa n ++ [32, 48, 32, 82] else if k = 5 then 47 :: s.data.toList else if k = 6 then 60 :: hexL s.data.toList ++ [62]
    else if k = 7 then 91 :: lstL (showL kids) ++ [93] else [60, 60] ++ dicL ks (showL kids) ++ [32, 62, 62]
def showL : List Ob → List (List UInt8)
  | [] => []
  | o :: r => showO o :: showL r
end
theorem showL_map : ∀ (l : List Ob), showL l = l.map showO
  | [] => by rw [showL]; rfl
  | o :: r => by rw [showL, showL_map r]; rfl
mutual
def ndO : Ob → Nat
  | .mk _ _ _ _ kids => 1 + ndL kids
def ndL : List Ob → Nat
  | [] => 0
  | o :: r => ndO o + ndL r
end
inductive OkO : Ob → Prop where
  | mk (k n : Int) (s : ByteArray) (ks : List ByteArray) (kids : List Ob) (hf : fieldsB k n s ks kids.length = true) (hk : ∀ o ∈ kids, OkO o) : OkO (.mk k n s ks kids)
mutual
theorem ok_of_cnt : ∀ (o : Ob) (d : Int), cntO o d ≤ 120 → OkO o ∧ (ndO o : Int) ≤ cntO o d
  | .mk k n s ks kids, d, h => by
    rw [cntO] at h ⊢
    split at h
    · omega
    · rename_i h1
      rw [if_neg h1]
      split at h
      · omega
      · rename_i h2
        rw [if_neg h2]
        obtain ⟨a, b⟩ := okL_of_cnt kids (d + 1) 1 (by omega) h
        refine ⟨.mk _ _ _ _ _ (by simpa using h2) a, ?_⟩
        rw [ndO]; omega
theorem okL_of_cnt : ∀ (l : List Ob) (d c : Int), 0 ≤ c → cntLO l d c ≤ 120 → (∀ o ∈ l, OkO o) ∧ c + (ndL l : Int) ≤ cntLO l d c
  | [], d, c, _, h => by rw [cntLO, ndL]; exact ⟨by simp, by omega⟩
  | o :: r, d, c, h0, h => by
    rw [cntLO] at h ⊢
    split at h
    · omega
    · rename_i h1
      rw [if_neg h1]
      have hg := cntO_ge o d
      obtain ⟨a, b⟩ := okL_of_cnt r d _ (by omega) h
      have hc : cntO o d ≤ 120 := by omega
      obtain ⟨a2, b2⟩ := ok_of_cnt o d hc
      refine ⟨fun x hx => ?_, ?_⟩
      · rcases List.mem_cons.1 hx with rfl | hx
        · exact a2
        · exact a x hx
      · rw [ndL]; omega
end
theorem ndO_pos : ∀ o : Ob, 1 ≤ ndO o
  | .mk _ _ _ _ _ => by rw [ndO]; omega
theorem lstL_len : ∀ (l : List (List UInt8)), (lstL l).length ≤ (l.map fun x => x.length + 1).sum
  | [] => by simp [lstL]
  | [x] => by simp [lstL]
  | x :: y :: r => by
    have := lstL_len (y :: r)
    simp only [lstL, List.length_append, List.length_cons, List.map_cons, List.sum_cons] at this ⊢
    omega
theorem dicL_len : ∀ (ks : List ByteArray) (l : List (List UInt8)), (∀ k ∈ ks, k.size ≤ 40) → (dicL ks l).length ≤ (l.map fun x => x.length + 43).sum
  | [], l, _ => by simp [dicL]
  | k :: ks, [], _ => by simp [dicL]
  | k :: ks, x :: l, h => by
    have := dicL_len ks l fun k hk => h k (by simp [hk])
    have hk : k.data.toList.length ≤ 40 := h k (by simp)
    simp only [dicL, List.length_append, List.length_cons, List.map_cons, List.sum_cons] at this ⊢
    omega
theorem wordB_size {s : ByteArray} (h : wordB s = true) : s.size ≤ 40 := by
  simp only [wordB, inBO, Bool.and_eq_true, decide_eq_true_eq] at h
  omega
theorem keysB_size {ks : List ByteArray} (h : keysB ks = true) : ∀ k ∈ ks, k.size ≤ 40 := fun k hk => by
  obtain ⟨i, hi⟩ := List.getElem?_of_mem hk
  have := List.all_eq_true.1 h i (List.mem_range.2 (List.getElem?_eq_some_iff.1 hi).1)
  simp only [keyB, hi, Bool.and_eq_true] at this
  exact wordB_size this.1
/-- What the fields of a right tree are. -/
theorem fields_of {k n : Int} {s : ByteArray} {ks : List ByteArray} {kl : Nat} (h : fieldsB k n s ks kl = true) : (k = 1 ∨ k = 2 ∨ k = 3 ∨ k = 7) ∨ (k = 4 ∧ -1000000000 ≤ n ∧ n ≤ 1000000000) ∨ (k = 5 ∧ s.size ≤ 40) ∨ (k = 6 ∧ s.size ≤ 200) ∨
    (k = 8 ∧ ks.length = kl ∧ ∀ x ∈ ks, x.size ≤ 40) ∨ (k = 9 ∧ 1 ≤ n ∧ n ≤ 1000000000) := by
  unfold fieldsB at h
  split at h
  · cases h
  · simp only at h
    split at h
    · rename_i h1; simp at h1; left; omega
    · split at h
      · rename_i h1; simp at h1; simp [inBO] at h; exact .inr (.inl ⟨h1, by omega, by omega⟩)
      · split at h
        · rename_i h1; simp at h1; simp at h; exact .inr (.inr (.inl ⟨h1, wordB_size h.2⟩))
        · split at h
          · rename_i h1; simp at h1; simp at h; exact .inr (.inr (.inr (.inl ⟨h1, h.2⟩)))
          · split at h
            · rename_i h1; simp at h1; simp at h; exact .inr (.inr (.inr (.inr (.inl ⟨h1, h.1.2, keysB_size h.2⟩))))
            · simp [inBO] at h; exact .inr (.inr (.inr (.inr (.inr (by omega)))))
theorem itoa_len {n : Int} (h1 : -1000000000 ≤ n) (h2 : n ≤ 1000000000) : (Lib.itoa n).length ≤ 19 := by
  have := decS_size n (by omega)
  rwa [decS, bs_size] at this
theorem hexL_len (l : List UInt8) : (hexL l).length = 2 * l.length := by
  induction l with
  | nil => rfl
  | cons b r ih => simp [hexL] at ih ⊢; omega
theorem sum_le' {α : Type} {f g : α → Nat} : ∀ {l : List α}, (∀ x ∈ l, f x ≤ g x) → (l.map f).sum ≤ (l.map g).sum
  | [], _ => by simp
  | x :: r, h => by
    have h1 := h x (by simp)
    have h2 := sum_le' (l := r) fun x hx => h x (by simp [hx])
    rw [List.map_cons, List.map_cons, List.sum_cons, List.sum_cons]; omega
mutual
theorem show_len : ∀ (o : Ob), OkO o → (showO o).length + 50 ≤ 500 * ndO o
  | .mk k n s ks kids, h => by
    cases h with
    | mk _ _ _ _ _ hf hk =>
      have hl := showL_len kids hk
      have e1 : ((showL kids).map fun x => x.length + 1).sum ≤ ((showL kids).map fun x => x.length + 50).sum := sum_le' fun x _ => by omega
      have e2 : ((showL kids).map fun x => x.length + 43).sum ≤ ((showL kids).map fun x => x.length + 50).sum := sum_le' fun x _ => by omega
      rw [ndO]
      rcases fields_of hf with (rfl | rfl | rfl | rfl) | ⟨rfl, h1, h2⟩ | ⟨rfl, h1⟩ | ⟨rfl, h1⟩ | ⟨rfl, h1, h2⟩ | ⟨rfl, h1, h2⟩
      · rw [showO]; simp; omega
      · rw [showO]; simp; omega
      · rw [showO]; simp; omega
      · have := lstL_len (showL kids)
        rw [showO]; simp; omega
      · have := itoa_len h1 h2
        rw [showO]; simp; omega
      · have : s.data.toList.length ≤ 40 := h1
        rw [showO]; simp at this ⊢; omega
      · have : s.data.toList.length ≤ 200 := h1
        rw [showO]; simp [hexL_len] at this ⊢; omega
      · have := dicL_len ks (showL kids) h2
        rw [showO]; simp; omega
      · have := itoa_len (n := n) (by omega) h2
        rw [showO]; simp; omega
theorem showL_len : ∀ (l : List Ob), (∀ o ∈ l, OkO o) → ((showL l).map fun x => x.length + 50).sum ≤ 500 * ndL l
  | [], _ => by simp [showL]
  | o :: r, h => by
    have h1 := show_len o (h o (by simp))
    have h2 := showL_len r fun o ho => h o (by simp [ho])
    rw [showL, ndL, List.map_cons, List.sum_cons]
    omega
end
end Go.Proofs.YtikegeligblekaaGreat.M

/- Contracts for Entry, part 1: the marks' texts, lists of strings with memory of their own, marked, held. No condition. -/
namespace Go.Proofs.YtikegeligblekaaGreat.M
open Go Go.Proofs
set_option maxRecDepth 100000
set_option maxHeartbeats 2000000
set_option linter.unusedSimpArgs false
set_option linter.unusedVariables false
@[go_sem] def mdE : Nat → Md := fun f => if false then ⟨true, []⟩ else ⟨false, []⟩
theorem flat_strs (l : List ByteArray) : flat (l.map T.str) = l.map T.str := by
  induction l with
  | nil => rfl
  | cons x r ih =>
    have e : flat (T.str x :: r.map T.str) = T.str x :: flat (r.map T.str) := rfl
    rw [List.map_cons, e, ih]
theorem sc_strs (l : List ByteArray) : Sc (l.map T.str) := by
  unfold Sc
  rw [flat_strs]
  intro t ht
  obtain ⟨s, _, rfl⟩ := List.mem_map.1 ht
  rfl
end Go.Proofs.YtikegeligblekaaGreat.M

/- Contracts for DocOk, part 1: items and documents, their copies, comparisons with themselves, sizes. No condition. -/
namespace Go.Proofs.YtikegeligblekaaGreat.M
open Go Go.Proofs
set_option maxRecDepth 100000
set_option maxHeartbeats 2000000
set_option linter.unusedSimpArgs false
structure It where
  num : Int
  k : Int
  n : Int
  s : ByteArray
  ks : List ByteArray
  kids : List Ob
  hd : Bool
  data : ByteArray
abbrev It.o (x : It) : Ob := .mk x.k x.n x.s x.ks x.kids
def It.t (x : It) : T := .agg [.int .i64 x.num, .int .i64 x.k, .int .i64 x.n, .str x.s, .list 1 (x.ks.map T.str), .list 5 (x.kids.map Ob.t), .bool x.hd, .str x.data]
theorem It.t_def (x : It) : x.t = .agg [.int .i64 x.num, .int .i64 x.k, .int .i64 x.n, .str x.s, .list 1 (x.ks.map T.str), .list 5 (x.kids.map Ob.t), .bool x.hd, .str x.data] := rfl
def its (l : List It) : T := .list 8 (l.map It.t)
def docT (l : List It) (root : Int) : T := .agg [its l, .int .i64 root]
abbrev it0 : T := .agg [.int .i64 0, .int .i64 0, .int .i64 0, .str ⟨#[]⟩, .list 1 [], .list 5 [], .bool false, .str ⟨#[]⟩]
theorem oc95 (x : It) (h : Sm x.o) : CS Tryz.prog false 30 [.v x.t] [x.t] [] := by
  have hc := oc21' x.o h
  rw [Ob.t_mk] at hc
  rw [It.t_def]
  refine CS_act tab_ok mdO Tryz.func30 rfl rfl Tryz.ntmps30 (rl := [.cell 2 39]) rfl (Nat.le_of_ble_eq_true rfl) ?_
  simp only [go_sem]
  refine act_callE hc ?_
  simp only [go_sem]
theorem oc70 (a : List It) (ha : a.length ≤ 1048576) (h : ∀ o ∈ a, Sm o.o) : CS Tryz.prog false 14 [.v (its a)] [its a] [] := by
  refine CS_act tab_ok mdO Tryz.func14 rfl rfl Tryz.ntmps14 (rl := [.tmp 2]) rfl (Nat.le_of_ble_eq_true rfl) ?_
  simp only [go_sem, its, List.length_map]
  refine ⟨by omega, by omega, by omega, by omega, ?_⟩
  refine act_loop_of (md := mdO) tab_ok [0,3,4] [48] 1000 (ι := {i : Nat // i ≤ a.length}) (fun i => ⟨[(0, .a (.c (.t (.list 8 (a.map It.t))))), (3, .a (.c (.own 48 0 0 a.length))), (4, .a (.c (.t (.int .i64 i.1))))], [(48, .arr 8 ((a.take i.1).map It.t ++ List.replicate (a.length - i.1) it0) 0)], 1000, 23⟩) (fun i => a.length - i.1) ⟨0, by omega⟩ (Nat.le_of_ble_eq_true rfl) (by simp only [go_sem]) (by simp only [go_sem]; simp) fun i => ?_
  obtain ⟨i, hi⟩ := i
  simp only [go_sem, List.length_map]
  refine act_split (fun h2 => ?_) (fun h2 => ?_) <;> simp only [go_sem] <;> simp only [decide_eq_true_eq, decide_eq_false_iff_not] at h2
  · obtain ⟨x, hx⟩ : ∃ x, a[i]? = some x := ⟨_, List.getElem?_eq_getElem (by omega)⟩
    have hc := oc95 x (h x (List.mem_of_getElem? hx))
    have hg := fill_get It.t it0 a i (by omega)
    have hf := fill_set It.t it0 a i x hx
    rw [It.t_def] at hc hf
    simp only [go_sem, List.getElem?_map, hx, List.length_map, hg, It.t_def]
    refine ⟨by omega, by omega, ?_⟩
    refine act_callE hc ?_
    simp only [go_sem, List.length_append, List.length_map, hg]
    refine ⟨by omega, by omega, ?_⟩
    refine nextK_of ⟨i + 1, by omega⟩ (by simp only [go_sem]) ?_ (by dsimp only; omega)
    simp only [go_sem]
    rw [wrap64O (by omega) (by omega), hf]; rfl
  · have : i = a.length := by omega
    subst this
    simp
    exact List.take_of_length_le (by simp)
theorem oc30 (a : List It) (r : Int) (ha : a.length ≤ 1048576) (h : ∀ o ∈ a, Sm o.o) : CS Tryz.prog false 6 [.v (docT a r)] [docT a r] [] := by
  have hc := oc70 a ha h
  unfold docT its at *
  refine CS_act tab_ok mdO Tryz.func6 rfl rfl Tryz.ntmps6 (rl := [.cell 2 29]) rfl (Nat.le_of_ble_eq_true rfl) ?_
  simp only [go_sem]
  refine act_callE hc ?_
  simp only [go_sem]
theorem oc40 (x : It) (h : Sm x.o) : CS Tryz.prog false 37 [.v x.t, .v x.t] [.bool true] [] := by
  have hc := oc23' x.o h
  rw [Ob.t_mk] at hc
  rw [It.t_def]
  refine CS_act tab_ok mdO Tryz.func37 rfl rfl Tryz.ntmps37 (rl := [.tmp 4]) rfl (Nat.le_of_ble_eq_true rfl) ?_
  simp only [go_sem, bne_self_eq_false, beq_self_eq_true]
  refine act_callE hc ?_
  simp only [go_sem, bne_self_eq_false, beq_self_eq_true]
theorem oc73 (a : List It) (ha : a.length ≤ 1048576) (hh : ∀ o ∈ a, Sm o.o) : CS Tryz.prog false 18 [.v (its a), .v (its a)] [.bool true] [] := by
  refine CS_act tab_ok mdO Tryz.func18 rfl rfl Tryz.ntmps18 (rl := [.tmp 4]) rfl (Nat.le_of_ble_eq_true rfl) ?_
  simp only [go_sem, its, List.length_map, bne_self_eq_false]
  refine act_loop_of (md := mdO) tab_ok [0,1,5] [] 1000 (ι := {i : Nat // i ≤ a.length}) (fun i => ⟨[(0, .a (.c (.t (.list 8 (a.map It.t))))), (1, .a (.c (.t (.list 8 (a.map It.t))))), (5, .a (.c (.t (.int .i64 i.1))))], [], 1000, 27⟩) (fun i => a.length - i.1) ⟨0, by omega⟩ (Nat.le_of_ble_eq_true rfl) (by simp only [go_sem]) (by simp only [go_sem]; rfl) fun i => ?_
  obtain ⟨i, hi⟩ := i
  simp only [go_sem, List.length_map]
  refine act_split (fun h => ?_) (fun h => ?_) <;> simp only [go_sem] <;> simp only [decide_eq_true_eq, decide_eq_false_iff_not] at h
  obtain ⟨x, hx⟩ : ∃ x, a[i]? = some x := ⟨_, List.getElem?_eq_getElem (by omega)⟩
  have hc := oc40 x (hh x (List.mem_of_getElem? hx))
  rw [It.t_def] at hc
  refine act_draw_of tab_ok mix mdO ?_
  simp only [go_sem, List.getElem?_map, hx, List.length_map, It.t_def]
  refine ⟨by omega, by omega, by omega, by omega, ?_⟩
  refine act_callE hc ?_
  simp only [go_sem]
  refine ⟨drawOk_of (by kernel_rfl), ?_⟩
  refine nextK_of ⟨i + 1, by omega⟩ (by simp only [go_sem]) ?_ (by dsimp only; omega)
  simp only [go_sem]
  rw [wrap64O (by omega) (by omega)]; rfl
theorem oc32 (a : List It) (r : Int) (ha : a.length ≤ 1048576) (h : ∀ o ∈ a, Sm o.o) : CS Tryz.prog false 8 [.v (docT a r), .v (docT a r)] [.bool true] [] := by
  have hc := oc73 a ha h
  unfold docT its at *
  refine CS_act tab_ok mdO Tryz.func8 rfl rfl Tryz.ntmps8 (rl := [.tmp 4]) rfl (Nat.le_of_ble_eq_true rfl) ?_
  simp only [go_sem, bne_self_eq_false]
  refine act_callE hc ?_
  simp only [go_sem, bne_self_eq_false]
def szI (x : It) (left : Int) : Int := if szO x.o left < 0 then -1 else if szO x.o left - x.data.size < 0 then -1 else szO x.o left - x.data.size
def szIL : List It → Int → Int
  | [], left => left
  | o :: r, left => if szI o left < 0 then -1 else szIL r (szI o left)
def szD (l : List It) (left : Int) : Int := if left - l.length < 0 then -1 else szIL l (left - l.length)
theorem szI_le (x : It) (l : Int) (h : 0 ≤ l) : szI x l ≤ l := by
  have := szO_le' x.o l h
  unfold szI
  split
  · omega
  · split <;> omega
theorem szI_neg (x : It) (l : Int) : szI x l < 0 → szI x l = -1 := by
  unfold szI
  split
  · intro _; rfl
  · split
    · intro _; rfl
    · intro h; omega
theorem szIL_neg : ∀ (l : List It) (x : Int), 0 ≤ x → szIL l x = -1 ∨ 0 ≤ szIL l x
  | [], x, h => by rw [szIL]; exact .inr h
  | o :: r, x, h => by
    rw [szIL]
    split
    · exact .inl rfl
    · exact szIL_neg r _ (by omega)
theorem szD_neg (l : List It) (x : Int) : szD l x < 0 → szD l x = -1 := by
  unfold szD
  split
  · intro _; rfl
  · rename_i h
    intro h2
    rcases szIL_neg l (x - l.length) (by omega) with h3 | h3 <;> omega
theorem oc94 (x : It) (hW : Wd x.o) (hs : x.data.size ≤ 9223372036854775807) (left : Int) (h0 : 0 ≤ left) (h1 : left ≤ 1048576) : CS Tryz.prog false 19 [.v x.t, .v (.int .i64 left)] [.int .i64 (szI x left)] [] := by
  have hc := oc19' x.o hW left h0 h1
  have hle := szO_le' x.o left h0
  unfold szI
  generalize szO x.o left = z at hc hle ⊢
  rw [Ob.t_mk] at hc
  rw [It.t_def]
  refine CS_act tab_ok mdO Tryz.func19 rfl rfl Tryz.ntmps19 (rl := [.tmp 4]) rfl (Nat.le_of_ble_eq_true rfl) ?_
  simp only [go_sem]
  refine act_callE hc ?_
  simp only [go_sem]
  refine act_split (fun h => ?_) (fun h => ?_) <;> simp only [go_sem] <;> simp only [decide_eq_true_eq, decide_eq_false_iff_not] at h
  · rw [if_pos h]
  rw [if_neg h]
  have hw := wrap64O (n := z - x.data.size) (by omega) (by omega)
  simp only [hw]
  refine act_split (fun h2 => ?_) (fun h2 => ?_) <;> simp only [go_sem] <;> simp only [decide_eq_true_eq, decide_eq_false_iff_not] at h2
  · rw [if_pos h2]
  · rw [if_neg h2, hw]
theorem oc67 (a : List It) (left : Int) (h0 : 0 ≤ left) (h1 : left ≤ 1048576) (hl : a.length ≤ 9223372036854775807) (hW : ∀ o ∈ a, Wd o.o ∧ o.data.size ≤ 9223372036854775807) :
    CS Tryz.prog false 9 [.v (its a), .v (.int .i64 left)] [.int .i64 (szD a left)] [] := by
  refine CS_act tab_ok mdO Tryz.func9 rfl rfl Tryz.ntmps9 (rl := [.tmp 4]) rfl (Nat.le_of_ble_eq_true rfl) ?_
  simp only [go_sem, its, List.length_map, wrap64O (n := left - a.length) (by omega) (by omega)]
  refine act_split (fun h => ?_) (fun h => ?_) <;> simp only [go_sem] <;> simp only [decide_eq_true_eq, decide_eq_false_iff_not] at h
  · simp [szD, h]
  refine act_loop_of (md := mdO) tab_ok [0,1,5] [] 1000 (ι := {p : Nat × Int // p.1 ≤ a.length ∧ 0 ≤ p.2 ∧ p.2 ≤ 1048576 ∧ szIL (a.drop p.1) p.2 = szD a left})
    (fun p => ⟨[(0, .a (.c (.t (.list 8 (a.map It.t))))), (1, .a (.c (.t (.int .i64 p.1.2)))), (5, .a (.c (.t (.int .i64 p.1.1))))], [], 1000, 27⟩) (fun p => a.length - p.1.1) ⟨(0, left - a.length), by omega, by omega, by omega, by simp [szD, h]⟩ (Nat.le_of_ble_eq_true rfl) (by simp only [go_sem]) (by simp only [go_sem]; rfl) fun p => ?_
  obtain ⟨⟨i, l⟩, hi, hl0, hl1, hz⟩ := p
  simp only [go_sem, List.length_map]
  refine act_split (fun h2 => ?_) (fun h2 => ?_) <;> simp only [go_sem] <;> simp only [decide_eq_true_eq, decide_eq_false_iff_not] at h2
  · obtain ⟨x, hx⟩ : ∃ x, a[i]? = some x := ⟨_, List.getElem?_eq_getElem (by omega)⟩
    have hw := hW x (List.mem_of_getElem? hx)
    have hc := oc94 x hw.1 hw.2 l hl0 hl1
    have hxl := szI_le x l hl0
    have hd : a.drop i = x :: a.drop (i + 1) := by
      rw [List.drop_eq_getElem_cons (by omega)]
      rw [List.getElem?_eq_getElem (by omega)] at hx; rw [Option.some.inj hx]
    dsimp only at hz
    rw [hd, szIL] at hz
    generalize szI x l = y at hc hxl hz
    rw [It.t_def] at hc
    simp only [go_sem, List.getElem?_map, hx, List.length_map, It.t_def]
    refine ⟨by omega, by omega, ?_⟩
    refine act_callE hc ?_
    simp only [go_sem]
    refine act_split (fun h3 => ?_) (fun h3 => ?_) <;> simp only [go_sem] <;> simp only [decide_eq_true_eq, decide_eq_false_iff_not] at h3
    · rw [if_pos h3] at hz
      rw [← hz]
    · rw [if_neg h3] at hz
      refine nextK_of ⟨(i + 1, y), by omega, by omega, by omega, hz⟩ (by simp only [go_sem]) ?_ (by dsimp only; omega)
      simp only [go_sem]
      rw [wrap64O (by omega) (by omega)]; rfl
  · have : i = a.length := by omega
    subst this
    dsimp only at hz
    rw [List.drop_length, szIL] at hz
    rw [← hz]
theorem oc28 (a : List It) (r left : Int) (h0 : 0 ≤ left) (h1 : left ≤ 1048576) (hl : a.length ≤ 9223372036854775807) (hW : ∀ o ∈ a, Wd o.o ∧ o.data.size ≤ 9223372036854775807) :
    CS Tryz.prog false 4 [.v (docT a r), .v (.int .i64 left)] [.int .i64 (szD a left)] [] := by
  have hc := oc67 a left h0 h1 hl hW
  have hn := szD_neg a left
  generalize szD a left = z at hc hn ⊢
  unfold docT its at *
  refine CS_act tab_ok mdO Tryz.func4 rfl rfl Tryz.ntmps4 (rl := [.tmp 4]) rfl (Nat.le_of_ble_eq_true rfl) ?_
  simp only [go_sem]
  refine act_callE hc ?_
  simp only [go_sem]
  refine act_split (fun h => ?_) (fun h => ?_) <;> simp only [go_sem] <;> simp only [decide_eq_true_eq, decide_eq_false_iff_not] at h
  rw [hn h]
/-- What a measured document is. -/
theorem tn_of_szD (l : List It) (x : Int) (hx : x ≤ 1048576) (h : 0 ≤ szD l x) : l.length ≤ 1048576 ∧ ∀ o ∈ l, Tn o.o ∧ o.data.size ≤ 1048576 := by
  unfold szD at h
  split at h
  · omega
  refine ⟨by omega, ?_⟩
  have key : ∀ (l : List It) (y : Int), 0 ≤ y → y ≤ 1048576 → 0 ≤ szIL l y → ∀ o ∈ l, Tn o.o ∧ o.data.size ≤ 1048576 := fun l => by
    induction l with
    | nil => intro y _ _ _ o ho; cases ho
    | cons a r ih =>
      intro y hy0 hy1 hh o ho
      rw [szIL] at hh
      split at hh
      · omega
      rename_i hn
      have hle := szI_le a y hy0
      rcases List.mem_cons.1 ho with rfl | ho
      · unfold szI at hn hle
        have := szO_le' o.o y hy0
        split at hn
        · omega
        split at hn
        · omega
        exact ⟨tn_of_sz o.o y hy1 (by omega), by omega⟩
      · exact ih _ (by omega) (by omega) hh o ho
  exact key l _ (by omega) (by omega) h
end Go.Proofs.YtikegeligblekaaGreat.M

/- Contracts for DocOk, part 2: what is looked for in lists. No condition. -/
namespace Go.Proofs.YtikegeligblekaaGreat.M
open Go Go.Proofs
set_option maxRecDepth 100000
set_option maxHeartbeats 2000000
set_option linter.unusedSimpArgs false
/-- The first place below n where p holds, or -1. -/
def firstF (p : Nat → Bool) (n : Nat) : Int := match (List.range n).find? p with | some i => i | none => -1
theorem firstF_hit {p : Nat → Bool} {n i : Nat} (h : ∀ j, j < i → p j = false) (hi : i < n) (hp : p i = true) : firstF p n = i := by
  unfold firstF
  have : (List.range n).find? p = some i := List.find?_range_eq_some.2 ⟨hp, List.mem_range.2 hi, fun j hj => by simp [h j hj]⟩
  rw [this]
theorem firstF_none {p : Nat → Bool} {n : Nat} (h : ∀ j, j < n → p j = false) : firstF p n = -1 := by
  unfold firstF
  have : (List.range n).find? p = none := List.find?_range_eq_none.2 fun j hj => by simp [h j hj]
  rw [this]
theorem firstF_cases (p : Nat → Bool) (n : Nat) : (firstF p n = -1 ∧ ∀ j, j < n → p j = false) ∨ ∃ i, i < n ∧ firstF p n = i ∧ p i = true ∧ ∀ j, j < i → p j = false := by
  cases h : (List.range n).find? p with
  | none =>
    have := List.find?_range_eq_none.1 h
    exact .inl ⟨by unfold firstF; rw [h], fun j hj => by simpa using this j hj⟩
  | some i =>
    obtain ⟨h1, h2, h3⟩ := List.find?_range_eq_some.1 h
    exact .inr ⟨i, List.mem_range.1 h2, by unfold firstF; rw [h], h1, fun j hj => by simpa using h3 j hj⟩
def keyP (a : List ByteArray) (v : ByteArray) (j : Nat) : Bool := match a[j]? with | some x => v.toList == x.toList | none => false
def keyAt (a : List ByteArray) (v : ByteArray) : Int := firstF (keyP a v) a.length
theorem oc57 (a : List ByteArray) (v : ByteArray) (ha : a.length ≤ 1048576) : CS Tryz.prog false 65 [.v (strs a), .v (.str v)] [.int .i64 (keyAt a v)] [] := by
  refine CS_act tab_ok mdO Tryz.func65 rfl rfl Tryz.ntmps65 (rl := [.tmp 4]) rfl (Nat.le_of_ble_eq_true rfl) ?_
  simp only [go_sem, strs, List.length_map]
  refine act_loop_of (md := mdO) tab_ok [0,1,7,8] [] 1000 (ι := {i : Nat // i ≤ a.length ∧ ∀ j, j < i → keyP a v j = false}) (fun i => ⟨[(0, .a (.c (.t (.list 1 (a.map T.str))))), (1, .a (.c (.t (.str v)))), (7, .a (.c (.t (.int .i64 a.length)))), (8, .a (.c (.t (.int .i64 i.1))))], [], 1000, 19⟩) (fun i => a.length - i.1) ⟨0, by omega, by simp⟩ (Nat.le_of_ble_eq_true rfl) (by simp only [go_sem]) (by simp only [go_sem]; rfl) fun i => ?_
  obtain ⟨i, hi, ht⟩ := i
  simp only [go_sem, List.length_map]
  refine act_split (fun h => ?_) (fun h => ?_) <;> simp only [go_sem] <;> simp only [decide_eq_true_eq, decide_eq_false_iff_not] at h
  · obtain ⟨x, hx⟩ : ∃ x, a[i]? = some x := ⟨_, List.getElem?_eq_getElem (by omega)⟩
    simp only [go_sem, List.getElem?_map, hx, List.length_map]
    refine ⟨by omega, by omega, ?_⟩
    refine act_split (fun h2 => ?_) (fun h2 => ?_) <;> simp only [go_sem]
    · unfold keyAt
      rw [firstF_hit ht (by omega) (by simp [keyP, hx, h2])]
    · refine nextK_of ⟨i + 1, by omega, all_succ ht (by simp [keyP, hx, h2])⟩ (by simp only [go_sem]) ?_ (by dsimp only; omega)
      simp only [go_sem]
      rw [wrap64O (by omega) (by omega)]; rfl
  · unfold keyAt
    rw [firstF_none fun j hj => ht j (by omega)]
def atB (k : Int) (ks : List ByteArray) (kl : Nat) (v : ByteArray) : Int := if (k == 8) = false then -1 else if ks.length = kl then keyAt ks v else -1
theorem oc53 (k n : Int) (s : ByteArray) (ks : List ByteArray) (kids : List Ob) (v : ByteArray) (ha : ks.length ≤ 1048576) : CS Tryz.prog false 40 [.v (Ob.mk k n s ks kids).t, .v (.str v)] [.int .i64 (atB k ks kids.length v)] [] := by
  rw [Ob.t_mk]
  unfold atB
  refine CS_act tab_ok mdO Tryz.func40 rfl rfl Tryz.ntmps40 (rl := [.tmp 4]) rfl (Nat.le_of_ble_eq_true rfl) ?_
  simp only [go_sem, List.length_map, bne]
  refine act_split (fun h => ?_) (fun h => ?_) <;> simp only [go_sem, h, List.length_map, bne]
  refine act_split_notO (fun h2 => ?_) (fun h2 => ?_) <;> simp only [go_sem, h2, List.length_map, bne]
  · rw [if_neg (by simp at h2; omega)]
  rw [if_pos (by simp at h2; omega)]
  refine act_loop_of (md := mdO) tab_ok [1,2,5] [0] 2000 (ι := {i : Nat // i ≤ ks.length ∧ ∀ j, j < i → keyP ks v j = false}) (fun i => ⟨[(1, .a (.c (.t (.str v)))), (2, .a (.c (.ptr 0 0))), (5, .a (.c (.t (.int .i64 i.1))))], [(0, .box [.t (.int .i64 k), .t (.int .i64 n), .t (.str s), .t (.list 1 (ks.map T.str)), .t (.list 5 (kids.map Ob.t))])], 2000, 33⟩) (fun i => ks.length - i.1) ⟨0, by omega, by simp⟩ (Nat.le_of_ble_eq_true rfl) (by simp only [go_sem]) (by simp only [go_sem]; rfl) fun i => ?_
  obtain ⟨i, hi, ht⟩ := i
  simp only [go_sem, List.length_map]
  refine act_split (fun h => ?_) (fun h => ?_) <;> simp only [go_sem] <;> simp only [decide_eq_true_eq, decide_eq_false_iff_not] at h
  · obtain ⟨x, hx⟩ : ∃ x, ks[i]? = some x := ⟨_, List.getElem?_eq_getElem (by omega)⟩
    simp only [go_sem, List.getElem?_map, hx, List.length_map]
    refine ⟨by omega, by omega, ?_⟩
    refine act_split (fun h2 => ?_) (fun h2 => ?_) <;> simp only [go_sem]
    · unfold keyAt
      rw [firstF_hit ht (by omega) (by simp only [keyP, hx]; rw [beq_iff_eq] at h2 ⊢; exact h2.symm)]
    · refine nextK_of ⟨i + 1, by omega, all_succ ht (by simp only [keyP, hx]; rw [beq_eq_false_iff_ne] at h2 ⊢; exact fun hh => h2 hh.symm)⟩ (by simp only [go_sem]) ?_ (by dsimp only; omega)
      simp only [go_sem]
      rw [wrap64O (by omega) (by omega)]; rfl
  · unfold keyAt
    rw [firstF_none fun j hj => ht j (by omega)]
def numP (a : List It) (n : Int) (j : Nat) : Bool := match a[j]? with | some x => x.num == n | none => false
def numAt (a : List It) (n : Int) : Int := firstF (numP a n) a.length
theorem oc69 (a : List It) (r num : Int) (ha : a.length ≤ 1048576) : CS Tryz.prog false 23 [.v (docT a r), .v (.int .i64 num)] [.int .i64 (numAt a num)] [] := by
  unfold docT its
  refine CS_act tab_ok mdO Tryz.func23 rfl rfl Tryz.ntmps23 (rl := [.tmp 4]) rfl (Nat.le_of_ble_eq_true rfl) ?_
  simp only [go_sem, List.length_map]
  refine act_loop_of (md := mdO) tab_ok [1,2,5] [0] 1000 (ι := {i : Nat // i ≤ a.length ∧ ∀ j, j < i → numP a num j = false}) (fun i => ⟨[(1, .a (.c (.t (.int .i64 num)))), (2, .a (.c (.ptr 0 0))), (5, .a (.c (.t (.int .i64 i.1))))], [(0, .box [.t (.list 8 (a.map It.t)), .t (.int .i64 r)])], 1000, 22⟩) (fun i => a.length - i.1) ⟨0, by omega, by simp⟩ (Nat.le_of_ble_eq_true rfl) (by simp only [go_sem]) (by simp only [go_sem]; rfl) fun i => ?_
  obtain ⟨i, hi, ht⟩ := i
  simp only [go_sem, List.length_map]
  refine act_split (fun h => ?_) (fun h => ?_) <;> simp only [go_sem] <;> simp only [decide_eq_true_eq, decide_eq_false_iff_not] at h
  · obtain ⟨x, hx⟩ : ∃ x, a[i]? = some x := ⟨_, List.getElem?_eq_getElem (by omega)⟩
    simp only [go_sem, List.getElem?_map, hx, List.length_map, It.t_def]
    refine ⟨by omega, by omega, ?_⟩
    refine act_split (fun h2 => ?_) (fun h2 => ?_) <;> simp only [go_sem]
    · unfold numAt
      rw [firstF_hit ht (by omega) (by simp only [numP, hx, h2])]
    · refine nextK_of ⟨i + 1, by omega, all_succ ht (by simp only [numP, hx, h2])⟩ (by simp only [go_sem]) ?_ (by dsimp only; omega)
      simp only [go_sem]
      rw [wrap64O (by omega) (by omega)]; rfl
  · unfold numAt
    rw [firstF_none fun j hj => ht j (by omega)]
theorem oc97 (x : It) (num : Int) : CS Tryz.prog false 50 [.v x.t, .mb [.t (.int .i64 num)]] [.bool (x.num == num)] [[.t (.int .i64 num)]] := by
  rw [It.t_def]
  refine CS_act tab_ok mdO Tryz.func50 rfl rfl Tryz.ntmps50 (rl := [.tmp 3]) rfl (Nat.le_of_ble_eq_true rfl) ?_
  simp only [go_sem]
theorem oc96 (a : List It) (num : Int) (ha : a.length ≤ 1048576) : CS Tryz.prog false 49 [.v (its a), .clo 50 [.t (.int .i64 num)]] [.int .i64 (numAt a num)] [[.t (.int .i64 num)]] := by
  unfold its
  refine CS_act tab_ok mdO Tryz.func49 rfl rfl Tryz.ntmps49 (rl := [.tmp 4]) rfl (Nat.le_of_ble_eq_true rfl) ?_
  simp only [go_sem, List.length_map]
  refine act_loop_of (md := mdO) tab_ok [0,1,7,8] [0] 1000 (ι := {i : Nat // i ≤ a.length ∧ ∀ j, j < i → numP a num j = false}) (fun i => ⟨[(0, .a (.c (.t (.list 8 (a.map It.t))))), (1, .a (.c (.clo 50 0))), (7, .a (.c (.t (.int .i64 a.length)))), (8, .a (.c (.t (.int .i64 i.1))))], [(0, .box [.t (.int .i64 num)])], 1000, 19⟩) (fun i => a.length - i.1) ⟨0, by omega, by simp⟩ (Nat.le_of_ble_eq_true rfl) (by simp only [go_sem]) (by simp only [go_sem]; rfl) fun i => ?_
  obtain ⟨i, hi, ht⟩ := i
  simp only [go_sem, List.length_map]
  refine act_split (fun h => ?_) (fun h => ?_) <;> simp only [go_sem] <;> simp only [decide_eq_true_eq, decide_eq_false_iff_not] at h
  · obtain ⟨x, hx⟩ : ∃ x, a[i]? = some x := ⟨_, List.getElem?_eq_getElem (by omega)⟩
    have hc := oc97 x num
    rw [It.t_def] at hc
    simp only [go_sem, List.getElem?_map, hx, List.length_map, It.t_def]
    refine ⟨by omega, by omega, ?_⟩
    refine act_callE hc ?_
    simp only [go_sem]
    refine act_split (fun h2 => ?_) (fun h2 => ?_) <;> simp only [go_sem]
    · unfold numAt
      rw [firstF_hit ht (by omega) (by simp only [numP, hx, h2])]
    · refine nextK_of ⟨i + 1, by omega, all_succ ht (by simp only [numP, hx, h2])⟩ (by simp only [go_sem]) ?_ (by dsimp only; omega)
      simp only [go_sem]
      rw [wrap64O (by omega) (by omega)]; rfl
  · unfold numAt
    rw [firstF_none fun j hj => ht j (by omega)]
theorem oc72 (a : List It) (r num : Int) (ha : a.length ≤ 1048576) : CS Tryz.prog false 32 [.v (docT a r), .v (.int .i64 num)] [.int .i64 (numAt a num)] [] := by
  have hc := oc96 a num ha
  unfold docT its at *
  refine CS_act tab_ok mdO Tryz.func32 rfl rfl Tryz.ntmps32 (rl := [.tmp 4]) rfl (Nat.le_of_ble_eq_true rfl) ?_
  simp only [go_sem]
  refine act_callE hc ?_
  simp only [go_sem]
end Go.Proofs.YtikegeligblekaaGreat.M

/- Contracts for DocOk, part 3: copies. No condition. -/
namespace Go.Proofs.YtikegeligblekaaGreat.M
open Go Go.Proofs
set_option maxRecDepth 100000
set_option maxHeartbeats 2000000
set_option linter.unusedSimpArgs false
abbrev zObj : List C := [.t (.int .i64 0), .t (.int .i64 0), .t (.str ⟨#[]⟩), .nil 1, .nil 5]
theorem take_map_succ {α β : Type} (f : α → β) (a : List α) (i : Nat) (x : α) (hx : a[i]? = some x) : (a.take i).map f ++ [f x] = (a.take (i + 1)).map f := by
  rw [List.take_add_one, hx]; simp
theorem oc58 (k n : Int) (s : ByteArray) (ks : List ByteArray) (kids : List Ob) (h1 : ks.length ≤ 1048576) (h2 : kids.length ≤ 1048576) (hh : ∀ o ∈ kids, CS Tryz.prog false 66 [.v o.t] [o.t] []) :
    CS Tryz.prog false 66 [.v (Ob.mk k n s ks kids).t] [(Ob.mk k n s ks kids).t] [] := by
  rw [Ob.t_mk]
  refine CS_act tab_ok mdO Tryz.func66 rfl rfl Tryz.ntmps66 (rl := [.cell 2 37]) rfl (Nat.le_of_ble_eq_true rfl) ?_
  simp only [go_sem, List.length_map]
  refine act_draw_of tab_ok mix mdO ?_
  simp only [go_sem, List.length_map]
  refine ⟨by omega, drawOk_of (by kernel_rfl), ?_⟩
  refine WWE_nilbox 208 4 5 900 rfl rfl (Nat.le_of_ble_eq_true rfl) ?_
  refine act_loop_of (md := mdO) tab_ok [2,3,18,19,20] [16,128,208,900] 1000 (ι := {i : Nat // i ≤ kids.length})
    (fun i => ⟨[(2, .a (.c (.ptr 16 0))), (3, .a (.c (.ptr 208 0))), (18, .a (.c (.t (.list 5 (kids.map Ob.t))))), (19, .a (.c (.t (.int .i64 kids.length)))), (20, .a (.c (.t (.int .i64 i.1))))],
      [(16, .box zObj), (128, .arr 1 (ks.map T.str) 1), (208, .box [.t (.int .i64 k), .t (.int .i64 n), .t (.str s), .own 128 1 0 ks.length, .own 900 i.1 0 i.1]), (900, .arr 5 ((kids.take i.1).map Ob.t) i.1)], 1000, 33⟩)
    (fun i => kids.length - i.1) ⟨0, by omega⟩ (Nat.le_of_ble_eq_true rfl) (by simp only [go_sem]) (by simp only [go_sem]; simp) fun i => ?_
  obtain ⟨i, hi⟩ := i
  simp only [go_sem]
  refine act_split (fun h3 => ?_) (fun h3 => ?_) <;> simp only [go_sem] <;> simp only [decide_eq_true_eq, decide_eq_false_iff_not] at h3
  · obtain ⟨x, hx⟩ : ∃ x, kids[i]? = some x := ⟨_, List.getElem?_eq_getElem (by omega)⟩
    have hc := hh x (List.mem_of_getElem? hx)
    have ht := take_map_succ Ob.t kids i x hx
    have hlt : ((kids.take i).map Ob.t).length = i := by simp; omega
    obtain ⟨k', n', s', ks', kids'⟩ := x
    rw [Ob.t_mk] at hc ht
    simp only [go_sem, List.getElem?_map, hx, List.length_map, Ob.t_mk]
    refine ⟨by omega, by omega, ?_⟩
    refine act_draw_of tab_ok mix mdO ?_
    simp only [go_sem]
    refine act_callE hc ?_
    simp only [go_sem, hlt]
    refine ⟨by omega, drawOk_of (by kernel_rfl), ?_⟩
    refine nextK_of ⟨i + 1, by omega⟩ (by simp only [go_sem]) ?_ (by dsimp only; omega)
    simp only [go_sem]
    rw [wrap64O (by omega) (by omega), ht]; rfl
  · have : i = kids.length := by omega
    subst this
    simp
    exact ⟨List.take_of_length_le (by simp), List.take_of_length_le (by simp)⟩
theorem oc58' : ∀ o : Ob, Sm o → CS Tryz.prog false 66 [.v o.t] [o.t] []
  | .mk k n s ks kids, h => by
    cases h with
    | mk _ _ _ _ _ h1 h2 h3 => exact oc58 k n s ks kids h1 h2 fun o ho => oc58' o (h3 o ho)
  decreasing_by
  have := List.sizeOf_lt_of_mem ho
  simp only [Ob.mk.sizeOf_spec]
  omega
theorem oc54 (k n : Int) (s : ByteArray) (ks : List ByteArray) (kids : List Ob) (h1 : ks.length ≤ 1048576) (h2 : kids.length ≤ 1048576) (hh : ∀ o ∈ kids, CS Tryz.prog false 41 [.v o.t] [o.t] []) :
    CS Tryz.prog false 41 [.v (Ob.mk k n s ks kids).t] [(Ob.mk k n s ks kids).t] [] := by
  rw [Ob.t_mk]
  refine CS_act tab_ok mdO Tryz.func41 rfl rfl Tryz.ntmps41 (rl := [.cell 2 37]) rfl (Nat.le_of_ble_eq_true rfl) ?_
  simp only [go_sem, List.length_map]
  refine ⟨by omega, ?_⟩
  refine act_loop_of (md := mdO) tab_ok [1,2,3,4] [0,16,32,128] 1000 (ι := {i : Nat // i ≤ kids.length})
    (fun i => ⟨[(1, .a (.c (.ptr 0 0))), (2, .a (.c (.ptr 16 0))), (3, .a (.c (.own 128 i.1 0 i.1))), (4, .a (.c (.t (.int .i64 i.1))))],
      [(0, .box [.t (.int .i64 k), .t (.int .i64 n), .t (.str s), .own 32 1 0 ks.length, .t (.list 5 (kids.map Ob.t))]), (16, .box zObj), (32, .arr 1 (ks.map T.str) 1), (128, .arr 5 ((kids.take i.1).map Ob.t) i.1)], 1000, 30⟩)
    (fun i => kids.length - i.1) ⟨0, by omega⟩ (Nat.le_of_ble_eq_true rfl) (by simp only [go_sem]) (by simp only [go_sem]; simp) fun i => ?_
  obtain ⟨i, hi⟩ := i
  simp only [go_sem, List.length_map]
  refine act_split (fun h3 => ?_) (fun h3 => ?_) <;> simp only [go_sem] <;> simp only [decide_eq_true_eq, decide_eq_false_iff_not] at h3
  · obtain ⟨x, hx⟩ : ∃ x, kids[i]? = some x := ⟨_, List.getElem?_eq_getElem (by omega)⟩
    have hc := hh x (List.mem_of_getElem? hx)
    have ht := take_map_succ Ob.t kids i x hx
    have hlt : ((kids.take i).map Ob.t).length = i := by simp; omega
    obtain ⟨k', n', s', ks', kids'⟩ := x
    rw [Ob.t_mk] at hc ht
    simp only [go_sem, List.getElem?_map, hx, List.length_map, Ob.t_mk]
    refine ⟨by omega, by omega, ?_⟩
    refine act_callE hc ?_
    simp only [go_sem, hlt]
    refine ⟨by omega, ?_⟩
    refine nextK_of ⟨i + 1, by omega⟩ (by simp only [go_sem]) ?_ (by dsimp only; omega)
    simp only [go_sem]
    rw [wrap64O (by omega) (by omega), ht]; rfl
  · have : i = kids.length := by omega
    subst this
    simp
    exact ⟨List.take_of_length_le (by simp), List.take_of_length_le (by simp)⟩
theorem oc54' : ∀ o : Ob, Sm o → CS Tryz.prog false 41 [.v o.t] [o.t] []
  | .mk k n s ks kids, h => by
    cases h with
    | mk _ _ _ _ _ h1 h2 h3 => exact oc54 k n s ks kids h1 h2 fun o ho => oc54' o (h3 o ho)
  decreasing_by
  have := List.sizeOf_lt_of_mem ho
  simp only [Ob.mk.sizeOf_spec]
  omega
end Go.Proofs.YtikegeligblekaaGreat.M

/- Contracts for DocOk, part 4: entries, items. No condition. -/
namespace Go.Proofs.YtikegeligblekaaGreat.M
open Go Go.Proofs
set_option maxRecDepth 100000
set_option maxHeartbeats 2000000
set_option linter.unusedSimpArgs false
theorem atB_cases (k : Int) (ks : List ByteArray) (kl : Nat) (v : ByteArray) : atB k ks kl v = -1 ∨ ∃ i : Nat, atB k ks kl v = i ∧ i < kl ∧ k = 8 := by
  unfold atB
  split
  · exact .inl rfl
  · rename_i h
    split
    · rename_i hl
      unfold keyAt
      rcases firstF_cases (keyP ks v) ks.length with h1 | ⟨i, h1, h2, _⟩
      · exact .inl h1.1
      · exact .inr ⟨i, h2, by omega, by simpa using h⟩
    · exact .inl rfl
def entryO (k : Int) (ks : List ByteArray) (kids : List Ob) (v : ByteArray) : Option Ob := if atB k ks kids.length v < 0 then none else kids[(atB k ks kids.length v).toNat]?
def entR : Option Ob → List T
  | some o => [o.t, .bool true]
  | none => [ob0, .bool false]
theorem oc20 (k n : Int) (s : ByteArray) (ks : List ByteArray) (kids : List Ob) (v : ByteArray) (hS : Sm (.mk k n s ks kids)) : CS Tryz.prog false 27 [.v (Ob.mk k n s ks kids).t, .v (.str v)] (entR (entryO k ks kids v)) [] := by
  obtain ⟨h1, h2, h3⟩ : ks.length ≤ 1048576 ∧ kids.length ≤ 1048576 ∧ ∀ o ∈ kids, Sm o := by cases hS; exact ⟨by assumption, by assumption, by assumption⟩
  have hc := oc53 k n s ks kids v h1
  have ha := atB_cases k ks kids.length v
  unfold entryO
  generalize atB k ks kids.length v = z at hc ha ⊢
  rw [Ob.t_mk] at hc ⊢
  refine CS_act tab_ok mdO Tryz.func27 rfl rfl Tryz.ntmps27 (rl := [.cell 4 37, .tmp 5]) rfl (Nat.le_of_ble_eq_true rfl) ?_
  simp only [go_sem]
  refine act_callE hc ?_
  simp only [go_sem]
  rcases ha with rfl | ⟨i, rfl, hi, _⟩
  · simp only [go_sem, entR]
  · have e : ¬ (i : Int) < 0 := by omega
    obtain ⟨x, hx⟩ : ∃ x, kids[i]? = some x := ⟨_, List.getElem?_eq_getElem hi⟩
    have hcc := oc54' x (h3 x (List.mem_of_getElem? hx))
    obtain ⟨k', n', s', ks', kids'⟩ := x
    rw [Ob.t_mk] at hcc
    simp only [go_sem, e, List.length_map, List.getElem?_map, hx, Ob.t_mk, entR]
    refine ⟨by omega, by omega, ?_⟩
    refine act_callE hcc ?_
    simp only [go_sem]
theorem oc22 (k n : Int) (s : ByteArray) (ks : List ByteArray) (kids : List Ob) (v : ByteArray) (hS : Sm (.mk k n s ks kids)) : CS Tryz.prog false 48 [.v (Ob.mk k n s ks kids).t, .v (.str v)] (entR (entryO k ks kids v)) [] := by
  obtain ⟨h1, h2, h3⟩ : ks.length ≤ 1048576 ∧ kids.length ≤ 1048576 ∧ ∀ o ∈ kids, Sm o := by cases hS; exact ⟨by assumption, by assumption, by assumption⟩
  have hc := oc57 ks v h1
  have ha := firstF_cases (keyP ks v) ks.length
  unfold entryO atB
  unfold keyAt at *
  generalize firstF (keyP ks v) ks.length = z at hc ha ⊢
  rw [Ob.t_mk]
  refine CS_act tab_ok mdO Tryz.func48 rfl rfl Tryz.ntmps48 (rl := [.cell 4 37, .tmp 5]) rfl (Nat.le_of_ble_eq_true rfl) ?_
  simp only [go_sem]
  refine act_callE hc ?_
  simp only [go_sem, bne]
  refine act_split (fun g => ?_) (fun g => ?_) <;> simp only [go_sem, g, List.length_map, bne]
  · refine act_split (fun g2 => ?_) (fun g2 => ?_) <;> simp only [go_sem, g2, bne]
    · have e0 : ks.length = kids.length := by simp at g2; omega
      rw [if_pos e0]
      rcases ha with ⟨rfl, _⟩ | ⟨i, hi, rfl, _⟩
      · simp only [go_sem, entR]
      · have e : ¬ (i : Int) < 0 := by omega
        obtain ⟨x, hx⟩ : ∃ x, kids[i]? = some x := ⟨_, List.getElem?_eq_getElem (by omega)⟩
        have hcc := oc58' x (h3 x (List.mem_of_getElem? hx))
        obtain ⟨k', n', s', ks', kids'⟩ := x
        rw [Ob.t_mk] at hcc
        simp only [go_sem, e, List.length_map, List.getElem?_map, hx, Ob.t_mk, entR]
        refine ⟨by omega, by omega, ?_⟩
        refine act_callE hcc ?_
        simp only [go_sem]
    · have e0 : ¬ ks.length = kids.length := by simp at g2; omega
      rw [if_neg e0]
      simp only [go_sem, entR]
  · simp only [entR]
abbrev lenS : ByteArray := ⟨#[76, 101, 110, 103, 116, 104]⟩
def lenI (x : It) : Int := match entryO x.k x.ks x.kids lenS with | some (.mk k n _ _ _) => if k == 4 then n else -1 | none => -1
theorem oc68 (x : It) (hS : Sm x.o) : CS Tryz.prog false 22 [.v x.t] [.int .i64 (lenI x)] [] := by
  have hc := oc20 x.k x.n x.s x.ks x.kids lenS hS
  unfold lenI
  generalize entryO x.k x.ks x.kids lenS = e at hc ⊢
  rw [Ob.t_mk] at hc
  rw [It.t_def]
  refine CS_act tab_ok mdO Tryz.func22 rfl rfl Tryz.ntmps22 (rl := [.tmp 2]) rfl (Nat.le_of_ble_eq_true rfl) ?_
  simp only [go_sem]
  refine act_callE hc ?_
  cases e with
  | none => simp only [go_sem, entR]
  | some o =>
    obtain ⟨k', n', s', ks', kids'⟩ := o
    simp only [go_sem, entR, Ob.t_mk, bne]
    refine act_split_notO (fun g => ?_) (fun g => ?_) <;> simp only [go_sem, g]
def dataB (x : It) : Bool := if x.hd then (match entryO x.k x.ks x.kids lenS with | some (.mk k n _ _ _) => k == 4 && decide (n = (x.data.size : Int)) | none => false) else x.data.toList == (⟨#[]⟩ : ByteArray).toList
def itB (x : It) : Bool := inBO x.num 1 99 && decide (cntO x.o 0 ≤ 120) && dataB x
theorem oc71 (x : It) (hT : Tn x.o) : CS Tryz.prog false 31 [.v x.t] [.bool (itB x)] [] := by
  have hc := oc22 x.k x.n x.s x.ks x.kids lenS hT.sm
  have ho := oc27 x.o hT
  unfold itB dataB
  generalize decide (cntO x.o 0 ≤ 120) = ok at ho ⊢
  generalize entryO x.k x.ks x.kids lenS = e at hc ⊢
  rw [Ob.t_mk] at hc ho
  rw [It.t_def]
  refine CS_act tab_ok mdO Tryz.func31 rfl rfl Tryz.ntmps31 (rl := [.tmp 2]) rfl (Nat.le_of_ble_eq_true rfl) ?_
  simp only [go_sem]
  refine act_callE (oc45 _ _ _) ?_
  simp only [go_sem]
  refine act_split (fun g => ?_) (fun g => ?_) <;> simp only [go_sem, g]
  refine act_callE ho ?_
  simp only [go_sem]
  refine act_split_notO (fun g2 => ?_) (fun g2 => ?_) <;> simp only [go_sem, g2]
  refine act_split_notO (fun g3 => ?_) (fun g3 => ?_) <;> simp only [go_sem, g3]
  refine act_callE hc ?_
  cases e with
  | none => simp only [go_sem, entR]
  | some o =>
    obtain ⟨k', n', s', ks', kids'⟩ := o
    simp only [go_sem, entR, Ob.t_mk]
    refine act_split (fun g4 => ?_) (fun g4 => ?_) <;> simp only [go_sem, g4]
    have e : (n' == (x.data.size : Int)) = decide (n' = (x.data.size : Int)) := by rw [Bool.eq_iff_iff]; simp
    rw [e]
end Go.Proofs.YtikegeligblekaaGreat.M

/- Contracts for Entry, part 2: copies of trees, in memory of their own all the way down. No condition. -/
namespace Go.Proofs.YtikegeligblekaaGreat.M
open Go Go.Proofs
set_option maxRecDepth 100000
set_option maxHeartbeats 2000000
set_option linter.unusedSimpArgs false
set_option linter.unusedVariables false
/-- A tree told by its slices. -/
def obR (o : Ob) (y z : Sl) : T := match o with | .mk k n s _ _ => .agg [.int .i64 k, .int .i64 n, .str s, .raw y, .raw z]
def obD (o : Ob) (y z : Sl) : De := match o with | .mk _ _ _ ks kids => [(y, strs ks), (z, obs kids)]
theorem RAr_ob {o : Ob} {x : T} {e : De} (h : RAr o.t x e) : ∃ y z, x = obR o y z ∧ e = obD o y z := by
  obtain ⟨k, n, s, ks, kids⟩ := o
  rw [Ob.t_mk] at h
  obtain ⟨xs, rfl, h⟩ := h
  obtain ⟨x1, r1, d1, e1, rfl, rfl, ⟨rfl, _, rfl⟩, h⟩ := h
  obtain ⟨x2, r2, d2, e2, rfl, rfl, ⟨rfl, _, rfl⟩, h⟩ := h
  obtain ⟨x3, r3, d3, e3, rfl, rfl, ⟨rfl, _, rfl⟩, h⟩ := h
  obtain ⟨x4, r4, d4, e4, rfl, rfl, ⟨y, rfl, rfl⟩, h⟩ := h
  obtain ⟨x5, r5, d5, e5, rfl, rfl, ⟨z, rfl, rfl⟩, h⟩ := h
  obtain ⟨rfl, rfl⟩ := h
  exact ⟨y, z, rfl, rfl⟩
/-- Trees, one behind the other. -/
def obRs : List Ob → List (Sl × Sl) → List T
  | o :: r, p :: ps => obR o p.1 p.2 :: obRs r ps
  | _, _ => []
def obDs : List Ob → List (Sl × Sl) → De
  | o :: r, p :: ps => obD o p.1 p.2 ++ obDs r ps
  | _, _ => []
theorem obRs_len : ∀ {l : List Ob} {ps : List (Sl × Sl)}, ps.length = l.length → (obRs l ps).length = l.length
  | [], [], _ => rfl
  | o :: r, p :: ps, h => by simp [obRs, obRs_len (l := r) (ps := ps) (by simpa using h)]
theorem obRs_app : ∀ {l : List Ob} {ps : List (Sl × Sl)} (o : Ob) (p : Sl × Sl), ps.length = l.length → obRs (l ++ [o]) (ps ++ [p]) = obRs l ps ++ [obR o p.1 p.2]
  | [], [], o, p, _ => rfl
  | a :: r, q :: ps, o, p, h => by simp [obRs, obRs_app (l := r) (ps := ps) o p (by simpa using h)]
theorem obDs_app : ∀ {l : List Ob} {ps : List (Sl × Sl)} (o : Ob) (p : Sl × Sl), ps.length = l.length → obDs (l ++ [o]) (ps ++ [p]) = obDs l ps ++ obD o p.1 p.2
  | [], [], o, p, _ => by simp [obDs]
  | a :: r, q :: ps, o, p, h => by simp [obDs, obDs_app (l := r) (ps := ps) o p (by simpa using h)]
theorem obR_cells (o : Ob) (y z : Sl) : (obR o y z).cells.length = 5 := by obtain ⟨k, n, s, ks, kids⟩ := o; rfl
theorem RCL_app : ∀ {a b c e : List T} {d1 d2 : De}, RCL a c d1 → RCL b e d2 → RCL (a ++ b) (c ++ e) (d1 ++ d2)
  | [], b, c, e, d1, d2, ⟨h1, h2⟩, h => by subst h1 h2; exact h
  | x :: a, b, c, e, d1, d2, ⟨t, ts, f1, f2, h1, h2, h3, h4⟩, h => by subst h1 h2; exact ⟨t, ts ++ e, f1, f2 ++ d2, rfl, by simp, h3, RCL_app h4 h⟩
theorem RCL_ob (o : Ob) (y z : Sl) : RCL (obR o y z).cells o.t.cells (obD o y z) := by
  obtain ⟨k, n, s, ks, kids⟩ := o
  rw [Ob.t_mk]
  exact ⟨_, _, [], _, rfl, rfl, ⟨rfl, rfl, rfl⟩, _, _, [], _, rfl, rfl, ⟨rfl, rfl, rfl⟩, _, _, [], _, rfl, rfl, ⟨rfl, rfl, rfl⟩, _, _, [(y, _)], _, rfl, rfl, rfl, _, _, [(z, _)], _, rfl, rfl, rfl, rfl, rfl⟩
theorem RCL_obs : ∀ {l : List Ob} {ps : List (Sl × Sl)}, ps.length = l.length → RCL (flat (obRs l ps)) (flat (l.map Ob.t)) (obDs l ps)
  | [], [], _ => ⟨rfl, rfl⟩
  | o :: r, p :: ps, h => by
    have := RCL_app (RCL_ob o p.1 p.2) (RCL_obs (l := r) (ps := ps) (by simpa using h))
    exact this
theorem RT_obs {l : List Ob} {ps : List (Sl × Sl)} (h : ps.length = l.length) : RT (.list 5 (obRs l ps)) (obs l) (obDs l ps) :=
  ⟨l.map Ob.t, rfl, by rw [List.length_map, obRs_len h], fun e he => by
    obtain ⟨o, _, rfl⟩ := List.mem_map.1 he
    cases o with | mk => rw [Ob.t_mk]; rfl, RCL_obs h⟩
theorem sc_obRs : ∀ {l : List Ob} {ps : List (Sl × Sl)}, ps.length = l.length → Sc (obRs l ps)
  | [], [], _ => by intro t ht; cases ht
  | o :: r, p :: ps, h => by
    intro t ht
    have e : flat (obRs (o :: r) (p :: ps)) = (obR o p.1 p.2).cells ++ flat (obRs r ps) := rfl
    rw [e] at ht
    rcases List.mem_append.1 ht with ht | ht
    · obtain ⟨k, n, s, ks, kids⟩ := o
      simp only [obR, T.cells, List.mem_cons, List.not_mem_nil, or_false] at ht
      rcases ht with rfl | rfl | rfl | rfl | rfl <;> rfl
    · exact sc_obRs (l := r) (ps := ps) (by simpa using h) t ht
theorem RCL_strs : ∀ (l : List ByteArray), RCL (l.map T.str) (l.map T.str) []
  | [] => ⟨rfl, rfl⟩
  | x :: r => ⟨_, _, [], [], rfl, rfl, ⟨rfl, rfl, rfl⟩, RCL_strs r⟩
theorem RT_strs (l : List ByteArray) : RT (.list 1 (l.map T.str)) (strs l) [] := ⟨l.map T.str, rfl, rfl, fun e he => by
  obtain ⟨s, _, rfl⟩ := List.mem_map.1 he; rfl, by rw [flat_strs]; exact RCL_strs l⟩
end Go.Proofs.YtikegeligblekaaGreat.M

/- Contracts for Entry, part 3: the program's copies of trees, in memory of their own all the way down; Entry. No condition. -/
namespace Go.Proofs.YtikegeligblekaaGreat.M
open Go Go.Proofs
set_option maxRecDepth 100000
set_option maxHeartbeats 2000000
set_option linter.unusedSimpArgs false
set_option linter.unusedVariables false
abbrev D31 (o : Ob) : Prop := CSD Tryz.prog 66 [.b (.v o.t)] [o.t] []
theorem d31 (k n : Int) (s : ByteArray) (ks : List ByteArray) (kids : List Ob) (h1 : ks.length ≤ 1048576) (h2 : kids.length ≤ 1048576) (hh : ∀ o ∈ kids, D31 o) : D31 (.mk k n s ks kids) := by
  unfold D31
  rw [Ob.t_mk]
  refine CSD_views (xs := [.v (.agg [.int .i64 k, .int .i64 n, .str s, .list 1 (ks.map T.str), .list 5 (kids.map Ob.t)])]) tab_ok Tryz.func66 rfl rfl Tryz.ntmps66 (rl := [.cell 2 37]) rfl (Nat.le_of_ble_eq_true rfl) ?_
  refine WWD_seqB tab_ok mdE ?_
  simp only [go_sem]
  refine WWD_seqB tab_ok mdE ?_
  simp only [go_sem]
  refine act_draw_of tab_ok mix mdE ?_
  simp only [go_sem, List.length_map]
  refine ⟨by omega, drawOk_of (by kernel_rfl), ?_⟩
  refine WWD_seq ?_
  refine WWD_seqB tab_ok mdE ?_
  simp only [go_sem, List.length_map]
  refine WWD_block ?_
  refine WWD_nilbox 208 4 5 900 rfl rfl (Nat.le_of_ble_eq_true rfl) ?_
  refine WWD_loop (ι := {p : Nat × List (Sl × Sl) // p.1 ≤ kids.length ∧ p.2.length = p.1}) [2,3,18,19,20] [16,128,208,900] 1000
    (fun p => ⟨[(2, .a (.c (.ptr 16 0))), (3, .a (.c (.ptr 208 0))), (18, .a (.c (.t (.list 5 (kids.map Ob.t))))), (19, .a (.c (.t (.int .i64 kids.length)))), (20, .a (.c (.t (.int .i64 p.1.1))))],
      [(16, .box zObj), (128, .arr 1 (ks.map T.str) 1), (208, .box [.t (.int .i64 k), .t (.int .i64 n), .t (.str s), .own 128 1 0 ks.length, .own 900 p.1.1 0 p.1.1]), (900, .arr 5 (obRs (kids.take p.1.1) p.1.2) p.1.1)], 1000, 33⟩)
    (fun p => obDs (kids.take p.1.1) p.1.2) (fun p => kids.length - p.1.1) ⟨(0, []), Nat.zero_le _, rfl⟩ [] (Nat.le_of_ble_eq_true rfl) (by simp only [go_sem]) (by simp only [go_sem]; simp [obRs]) (.refl _) fun p => ?_
  obtain ⟨⟨i, ps⟩, hi, hps⟩ := p
  dsimp only at hi hps
  have hps' : ps.length = (kids.take i).length := by rw [List.length_take]; omega
  refine WWD_seqB tab_ok mdE ?_
  simp only [go_sem]
  by_cases hil : i < kids.length
  · have e1 : decide ((i : Int) < kids.length) = true := by simp; omega
    refine WWD_seqB tab_ok mdE ?_
    simp only [go_sem, e1]
    refine WWD_seq ?_
    refine WWD_block ?_
    obtain ⟨x, hx⟩ : ∃ x, kids[i]? = some x := ⟨_, List.getElem?_eq_getElem (by omega)⟩
    have hc := hh x (List.mem_of_getElem? hx)
    have htk : kids.take (i + 1) = kids.take i ++ [x] := by rw [List.take_add_one, hx]; rfl
    obtain ⟨k', n', s', ks', kids'⟩ := x
    refine WWD_seqB tab_ok mdE ?_
    simp only [go_sem, List.getElem?_map, hx, List.length_map, Ob.t_mk]
    refine ⟨by omega, by omega, ?_⟩
    refine WWD_draw tab_ok mix mdE [0,1,2,3,4,5,6,7] 3 3 rfl rfl rfl (by kernel_rfl) ?_
    simp only [go_sem]
    refine ⟨⟨by kernel_rfl, by kernel_rfl⟩, ?_⟩
    refine ⟨[.b (.v (Ob.mk k' n' s' ks' kids').t)], [(Ob.mk k' n' s' ks' kids').t], [], [], _, hc, ⟨_, _, _, rfl, rfl, ?_, rfl, rfl, rfl⟩, .refl _, ?_⟩
    · rw [Ob.t_mk]
      exact ⟨_, rfl, _, _, rfl, .inr rfl, _, _, rfl, .inr rfl, _, _, rfl, .inr rfl, _, _, rfl, .inr rfl, _, _, rfl, .inr rfl, rfl⟩
    rintro _ _ ⟨_, rfl, h⟩
    obtain ⟨y, z, rfl, rfl⟩ := RAr_ob h
    have hlr : (obRs (kids.take i) ps).length = i := by rw [obRs_len hps', List.length_take]; omega
    have happ : obRs (kids.take i) ps ++ [.agg [.int .i64 k', .int .i64 n', .str s', .raw y, .raw z]] = obRs (kids.take (i + 1)) (ps ++ [(y, z)]) := by
      rw [htk, obRs_app _ _ hps']; rfl
    unfold restDr obR
    simp only [go_sem, hlr]
    refine ⟨by omega, by kernel_rfl, ?_⟩
    rw [happ]
    refine WWD_act tab_ok mdE ?_
    simp only [go_sem]
    refine nextD_of (ks := [2,3,18,19,20]) (hs := [16,128,208,900]) ⟨(i + 1, ps ++ [(y, z)]), by dsimp only; omega, by simp [hps]⟩ [] (by simp only [go_sem]) ?_ (by dsimp only; omega) ?_
    · simp only [go_sem]
      rw [wrap64O (by omega) (by omega)]; rfl
    · dsimp only
      rw [htk, obDs_app _ _ hps', List.append_nil]
      exact List.perm_append_comm
  · obtain rfl : i = kids.length := by omega
    have e1 : decide ((kids.length : Int) < kids.length) = false := by simp
    have e2 : kids.take kids.length = kids := List.take_of_length_le (Nat.le_refl _)
    have hps2 : ps.length = kids.length := hps
    refine WWD_seqB tab_ok mdE ?_
    simp only [go_sem, e1, e2]
    refine WWD_seqB tab_ok mdE ?_
    simp only [go_sem]
    refine WWD_act tab_ok mdE ?_
    simp only [go_sem]
    refine ⟨[.agg [.int .i64 k, .int .i64 n, .str s, .list 1 (ks.map T.str), .list 5 (obRs kids ps)]], [], ?_, rfl, obDs kids ps, [], ?_, by rw [List.nil_append, List.append_nil]⟩
    · simp only [go_sem]
      have hl := obRs_len hps2
      rw [List.take_of_length_le (by simp), List.take_of_length_le (by omega)]
      exact ⟨by simp, sc_strs ks, by omega, sc_obRs hps2, rfl⟩
    · exact ⟨_, [], _, [], rfl, (List.append_nil _).symm, ⟨_, rfl, _, _, [], _, rfl, rfl, ⟨rfl, rfl, rfl⟩, _, _, [], _, rfl, rfl, ⟨rfl, rfl, rfl⟩, _, _, [], _, rfl, rfl, ⟨rfl, rfl, rfl⟩, _, _, [], _, rfl, rfl, RT_strs ks, _, _, _, [], rfl, (List.append_nil _).symm, RT_obs hps2, rfl, rfl⟩, rfl, rfl⟩
theorem d31' : ∀ o : Ob, Sm o → D31 o
  | .mk k n s ks kids, h => by
    cases h with
    | mk _ _ _ _ _ h1 h2 h3 => exact d31 k n s ks kids h1 h2 fun o ho => d31' o (h3 o ho)
  decreasing_by
  have := List.sizeOf_lt_of_mem ho
  simp only [Ob.mk.sizeOf_spec]
  omega
theorem RT_nil (sz : Nat) : RT (.list sz []) (.list sz []) [] := ⟨[], rfl, rfl, by simp, rfl, rfl⟩
theorem RAL_ob0 : RAL [ob0, .bool false] [ob0, .bool false] [] :=
  ⟨_, _, [], [], rfl, rfl, ⟨_, rfl, _, _, [], _, rfl, rfl, ⟨rfl, rfl, rfl⟩, _, _, [], _, rfl, rfl, ⟨rfl, rfl, rfl⟩, _, _, [], _, rfl, rfl, ⟨rfl, rfl, rfl⟩, _, _, [], _, rfl, rfl, RT_nil 1, _, _, [], [], rfl, rfl, RT_nil 5, rfl, rfl⟩, _, _, [], [], rfl, rfl, ⟨rfl, rfl, rfl⟩, rfl, rfl⟩
theorem RA_ob (o : Ob) (y z : Sl) : RA (obR o y z) o.t (obD o y z) := by
  obtain ⟨k, n, s, ks, kids⟩ := o
  rw [Ob.t_mk]
  exact ⟨_, rfl, _, _, [], _, rfl, rfl, ⟨rfl, rfl, rfl⟩, _, _, [], _, rfl, rfl, ⟨rfl, rfl, rfl⟩, _, _, [], _, rfl, rfl, ⟨rfl, rfl, rfl⟩, _, _, [(y, _)], _, rfl, rfl, rfl, _, _, [(z, _)], [], rfl, rfl, rfl, rfl, rfl⟩
end Go.Proofs.YtikegeligblekaaGreat.M

/- Contracts with deep trees turned; how a tree is read. No condition. -/
namespace Go.Proofs.YtikegeligblekaaGreat.M
open Go Go.Proofs
set_option maxRecDepth 100000
set_option maxHeartbeats 2000000
set_option linter.unusedSimpArgs false
set_option linter.unusedVariables false
section
variable {P : Program} {f : FuncId} {own : Bool} {w w' : World}
theorem RCrL_obs : ∀ {a : List Ob} {xs : List T} {d : De}, RCrL (flat (a.map Ob.t)) xs d → ∃ ps : List (Sl × Sl), ps.length = a.length ∧ flat (obRs a ps) = xs ∧ obDs a ps = d
  | [], xs, d, h => by
    obtain ⟨h1, h2⟩ := h
    exact ⟨[], rfl, h1.symm, h2.symm⟩
  | o :: r, xs, d, h => by
    obtain ⟨k, n, s, ks, kids⟩ := o
    have e : flat ((Ob.mk k n s ks kids :: r).map Ob.t) = [.int .i64 k, .int .i64 n, .str s, strs ks, obs kids] ++ flat (r.map Ob.t) := by
      show (Ob.mk k n s ks kids).t.cells ++ flat (r.map Ob.t) = _
      rw [Ob.t_mk]; rfl
    rw [e] at h
    obtain ⟨x1, r1, d1, e1, rfl, rfl, ⟨rfl, _, rfl⟩, h⟩ := h
    obtain ⟨x2, r2, d2, e2, rfl, rfl, ⟨rfl, _, rfl⟩, h⟩ := h
    obtain ⟨x3, r3, d3, e3, rfl, rfl, ⟨rfl, _, rfl⟩, h⟩ := h
    obtain ⟨x4, r4, d4, e4, rfl, rfl, ⟨y, rfl, rfl⟩, h⟩ := h
    obtain ⟨x5, r5, d5, e5, rfl, rfl, ⟨z, rfl, rfl⟩, h⟩ := h
    obtain ⟨ps, g1, rfl, rfl⟩ := RCrL_obs h
    exact ⟨(y, z) :: ps, by simp [g1], rfl, rfl⟩
theorem RCrL_strs : ∀ {a : List ByteArray} {xs : List T} {d : De}, RCrL (a.map T.str) xs d → a.map T.str = xs ∧ d = []
  | [], xs, d, h => ⟨h.1.symm, h.2⟩
  | s :: r, xs, d, h => by
    obtain ⟨x, xs', d1, d2, rfl, rfl, ⟨rfl, _, rfl⟩, h⟩ := h
    obtain ⟨h1, h2⟩ := RCrL_strs h
    rw [List.map_cons, h1, h2]; exact ⟨rfl, rfl⟩
theorem bA_map : ∀ (xs : List AA), bA (xs.map DArg.b) = xs
  | [] => rfl
  | x :: r => by rw [List.map_cons, bA, bA_map r]
theorem DLs_map : ∀ {k : Bool} {xs : List AA} {vals : List Value} {r : List Nat}, DLs w k (xs.map DArg.b) vals r → r = [] ∧ bV (xs.map DArg.b) vals = vals ∧ ∀ (w' : World) (k' : Bool), DLs w' k' (xs.map DArg.b) vals []
  | k, [], vals, r, h => by
    obtain ⟨h1, h2⟩ := h
    subst h1 h2
    exact ⟨rfl, rfl, fun _ _ => ⟨rfl, rfl⟩⟩
  | k, x :: xs, vals, r, h => by
    obtain ⟨v, vs, rfl, h⟩ := h
    obtain ⟨h1, h2, h3⟩ := DLs_map h
    exact ⟨h1, by rw [List.map_cons, bV, h2], fun w' k' => ⟨v, vs, rfl, h3 w' k'⟩⟩
/-- A contract without deep trees, told with them. -/
theorem CSD_scal {xs : List AA} {x : T} (hx : x.scal = true) (h : CS P own f xs [x] []) : CSD P f (xs.map DArg.b) [x] [] := by
  intro G w vals rb rd hA hD hnd hbs hG
  obtain ⟨rfl, hv, hback⟩ := DLs_map hD
  rw [bA_map, hv] at hA
  rw [List.append_nil] at hnd hbs
  have imp : ∀ v w', (∃ r1 r2, Fr rb w w' ∧ ResOk own (inV (fun b => G b ∨ (w.heap.size ≤ b ∨ b ∈ rb) ∧ b ∉ r1 ++ r2) w') w' [x] v r1 ∧ OutsOk (inV (fun b => G b ∨ (w.heap.size ≤ b ∨ b ∈ rb) ∧ b ∉ r1 ++ r2) w') w' xs vals [] r2 ∧ (r1 ++ r2).Nodup ∧ ∀ b ∈ r1 ++ r2, b < w'.heap.size ∧ (b ∈ rb ∨ w.heap.size ≤ b)) →
      ∃ r1 r2 r3, Fr (rb ++ []) w w' ∧ DRes w' [x] v r1 ∧ OutsOk (inV (fun b => G b ∨ (w.heap.size ≤ b ∨ b ∈ rb ++ []) ∧ b ∉ r1 ++ (r2 ++ r3)) w') w' (bA (xs.map DArg.b)) (bV (xs.map DArg.b) vals) [] r2 ∧ DLs w' true (xs.map DArg.b) vals r3 ∧
        (r1 ++ (r2 ++ r3)).Nodup ∧ ∀ b ∈ r1 ++ (r2 ++ r3), b < w'.heap.size ∧ (b ∈ rb ++ [] ∨ w.heap.size ≤ b) := fun v w' ⟨r1, r2, c1, c2, c3, c4, c5⟩ => by
    obtain ⟨rfl, rfl⟩ := scal_resOk hx c2
    refine ⟨[], r2, [], by rw [List.append_nil]; exact c1, h_da (by intro ts h; subst h; simp [T.scal] at hx) (.sc _ _ hx (val_hold hx)), ?_, hback w' true, by simpa using c4, fun b hb => ?_⟩
    · rw [bA_map, hv]
      simpa using c3
    · have := c5 b (by simpa using hb)
      simpa using this
  rcases h G w vals rb hA hnd hbs hG with ⟨hrun, hcalls⟩ | ⟨v, w', hrun, hR⟩
  · exact .inl ⟨hrun, hcalls.mono fun e w' ⟨v, he, hR⟩ => ⟨v, he, imp v w' hR⟩⟩
  · exact .inr ⟨v, w', hrun, imp v w' hR⟩
/-- And back. -/
theorem CS_of_CSD {xs : List AA} {x : T} (hx : x.scal = true) (h : CSD P f (xs.map DArg.b) [x] []) : CS P own f xs [x] [] := by
  intro G w vals bs hA hnd hbs hG
  have hl : ∀ {xs : List AA} {vals : List Value} {bs : List Nat} {S : Addr → Option Value}, ArgsOk S w xs vals bs → DLs w false (xs.map DArg.b) vals [] := fun {xs} => by
    induction xs with
    | nil => intro vals bs S h; exact ⟨h.1, rfl⟩
    | cons x r ih => rintro _ _ S ⟨v, vs, r1, r2, rfl, rfl, _, h⟩; exact ⟨v, vs, rfl, ih h⟩
  have hD := hl hA
  obtain ⟨_, hv, _⟩ := DLs_map hD
  have imp : ∀ v w', (∃ r1 r2 r3, Fr (bs ++ []) w w' ∧ DRes w' [x] v r1 ∧ OutsOk (inV (fun b => G b ∨ (w.heap.size ≤ b ∨ b ∈ bs ++ []) ∧ b ∉ r1 ++ (r2 ++ r3)) w') w' (bA (xs.map DArg.b)) (bV (xs.map DArg.b) vals) [] r2 ∧ DLs w' true (xs.map DArg.b) vals r3 ∧
        (r1 ++ (r2 ++ r3)).Nodup ∧ ∀ b ∈ r1 ++ (r2 ++ r3), b < w'.heap.size ∧ (b ∈ bs ++ [] ∨ w.heap.size ≤ b)) →
      ∃ r1 r2, Fr bs w w' ∧ ResOk own (inV (fun b => G b ∨ (w.heap.size ≤ b ∨ b ∈ bs) ∧ b ∉ r1 ++ r2) w') w' [x] v r1 ∧ OutsOk (inV (fun b => G b ∨ (w.heap.size ≤ b ∨ b ∈ bs) ∧ b ∉ r1 ++ r2) w') w' xs vals [] r2 ∧ (r1 ++ r2).Nodup ∧ ∀ b ∈ r1 ++ r2, b < w'.heap.size ∧ (b ∈ bs ∨ w.heap.size ≤ b) := fun v w' ⟨r1, r2, r3, c1, c2, c3, c4, c5, c6⟩ => by
    obtain ⟨rfl, _, _⟩ := DLs_map c4
    have hH : DH w' x v r1 := da_H (by intro ts h; subst h; simp [T.scal] at hx) c2
    rw [bA_map, hv] at c3
    cases hH with
    | sc _ _ _ hH =>
      obtain rfl := hold_val hx hH
      rw [List.append_nil] at c1
      exact ⟨[], r2, c1, resOk_scal hx, by simpa using c3, by simpa using c5, fun b hb => by simpa using c6 b (by simpa using hb)⟩
    | nil => simp [T.scal] at hx
    | list => simp [T.scal] at hx
  have := h G w vals bs [] (by rw [bA_map, hv]; exact hA) hD (by simpa using hnd) (by simpa using hbs) hG
  rcases this with ⟨hrun, hcalls⟩ | ⟨v, w', hrun, hR⟩
  · exact .inl ⟨hrun, hcalls.mono fun e w' ⟨v, he, hR⟩ => ⟨v, he, imp v w' hR⟩⟩
  · exact .inr ⟨v, w', hrun, imp v w' hR⟩
end
theorem RdA_ob (hp : List (Nat × Blk)) (d : De) (k n : Int) (s : ByteArray) (ks : List ByteArray) (kids : List Ob) (y z : Sl) (h1 : (y, strs ks) ∈ d) (h2 : (z, obs kids) ∈ d) :
    RdA hp d (.g [.t (.int .i64 k), .t (.int .i64 n), .t (.str s), .t (.raw y), .t (.raw z)]) (Ob.mk k n s ks kids).t := by
  rw [Ob.t_mk]
  exact ⟨_, rfl, _, _, rfl, .inr rfl, _, _, rfl, .inr rfl, _, _, rfl, .inr rfl, _, _, rfl, .inl ⟨y, rfl, h1⟩, _, _, rfl, .inl ⟨z, rfl, h2⟩, rfl⟩
theorem RdA_obv (hp : List (Nat × Blk)) (d : De) (k n : Int) (s : ByteArray) (ks : List ByteArray) (kids : List Ob) :
    RdA hp d (.g [.t (.int .i64 k), .t (.int .i64 n), .t (.str s), .t (.list 1 (ks.map T.str)), .t (.list 5 (kids.map Ob.t))]) (Ob.mk k n s ks kids).t := by
  rw [Ob.t_mk]
  exact ⟨_, rfl, _, _, rfl, .inr rfl, _, _, rfl, .inr rfl, _, _, rfl, .inr rfl, _, _, rfl, .inr rfl, _, _, rfl, .inr rfl, rfl⟩
/-- What an entry is told as: a tree, and whether there is one. -/
def gOf : Option Ob → Ob
  | some o => o
  | none => .mk 0 0 ⟨#[]⟩ [] []
theorem entR_gOf (e : Option Ob) : entR e = [(gOf e).t, .bool e.isSome] := by
  cases e with
  | none => show [ob0, _] = [(Ob.mk 0 0 ⟨#[]⟩ [] []).t, _]; rw [Ob.t_mk]; rfl
  | some o => rfl
theorem entryO_mem {k : Int} {ks : List ByteArray} {kids : List Ob} {v : ByteArray} {o : Ob} (h : entryO k ks kids v = some o) : o ∈ kids := by
  unfold entryO at h
  split at h
  · cases h
  · exact List.mem_of_getElem? h
theorem ResV_ent {g : Ob} {b : Bool} {av : AV} {d : De} (h : ResV [g.t, .bool b] av d) : ∃ y z, av = .tup [openT (obR g y z), .c (.t (.bool b))] ∧ d = obD g y z := by
  obtain ⟨_, rfl, x, xs, d1, d2, rfl, rfl, h1, x2, xs2, d3, d4, rfl, rfl, ⟨rfl, _, rfl⟩, rfl, rfl⟩ := h
  obtain ⟨y, z, rfl, rfl⟩ := RAr_ob h1
  exact ⟨y, z, rfl, by simp⟩
theorem RAL_true : RAL [.bool true] [.bool true] [] := ⟨_, _, [], [], rfl, rfl, ⟨rfl, rfl, rfl⟩, rfl, rfl⟩
end Go.Proofs.YtikegeligblekaaGreat.M
