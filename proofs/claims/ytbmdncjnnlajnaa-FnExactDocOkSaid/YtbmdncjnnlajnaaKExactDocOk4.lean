/- FnExactDocOk: for all documents, right or not, the program's DocOk and the reference's answer alike, and the argument stays as it was. No condition. -/
import Derived.ChangeArms
import Derived.Test.YtbmdncjnnlajnaaKExactDocOk3
/- A machine of values: a list that is nil is told as a list of one's own without elements (so that a loop that appends to it has states of one shape). No condition. -/
namespace Go.Proofs.Ytbmdncjnnlajnaa.M
open Go
set_option linter.unusedSimpArgs false
set_option linter.unusedVariables false
section
variable {P : Program} {c : Code} {s : St} {Q : X → St → Prop}
theorem own_new {al : Nat → Prop} {hp : List (Nat × Blk)} {S : Addr → Option Value} {μ : Nat → Option Pl} {K sz : Nat} {v : Value} (hal : al K) (hf : find hp K = some (.arr sz [] 0)) (hμ : μ K = none) (hv : v = .slice none 0 0) : COk al hp S μ (.own K 0 0 0) v := by
  subst hv
  refine ⟨⟨hal, Nat.zero_le _⟩, rfl, fun sz' es h => ?_⟩
  have : arrOf hp K 0 = some (sz, []) := by simp [arrOf, hf]
  rw [this] at h
  obtain ⟨rfl, rfl⟩ := Prod.mk.inj (Option.some.inj h)
  rw [hμ]
  exact ⟨Nat.le_refl _, rfl, rfl, none, rfl⟩
theorem WWE_nilslot {x : Shut c} {y : Shut Q} (t sz K : Nat) (hs : s.get t = .a (.c (.nil sz))) (hK : s.nx ≤ K) (h : WWE P c { s with tm := (t, .a (.c (.own K 0 0 0))) :: s.tm, hp := put s.hp K (.arr sz [] 0), nx := K + 1 } Q .one .one) : WWE P c s Q x y := fun Γ a w μ R => by
  obtain ⟨M, e⟩ := R.mem.new (Fr.refl [] w) (al' := (· < K + 1)) (fun i hi => by omega) (n := K) (by omega) (by omega) (.arr sz [] 0) none (by simp) rfl
  refine h Γ a w _ ⟨M, R.size, fun t' => ?_, R.defers⟩
  show AVOk _ _ _ _ ((find ((t, AV.a (.c (.own K 0 0 0))) :: s.tm) t').getD _) _
  simp only [find]
  by_cases ht : t = t'
  · subst ht
    rw [if_pos rfl]
    have := R.tmp t
    rw [hs] at this
    exact own_new (al := (· < K + 1)) (S := Sv Γ.G (put s.hp K (.arr sz [] 0)) (setμ μ K none) w) (K := K) (hp := put s.hp K (.arr sz [] 0)) (μ := setμ μ K none) (sz := sz) (Nat.lt_succ_self K) (by rw [find_put, if_pos rfl]) (by simp [setμ]) this
  · rw [if_neg ht]
    exact (R.tmp t').mono e
theorem WWE_nilbox {x : Shut c} {y : Shut Q} (b j sz K : Nat) {cs : List C} (hb : find s.hp b = some (.box cs)) (hj : cs[j]? = some (.nil sz)) (hK : s.nx ≤ K)
    (h : WWE P c { s with hp := put (put s.hp K (.arr sz [] 0)) b (.box (cs.set j (.own K 0 0 0))), nx := K + 1 } Q .one .one) : WWE P c s Q x y := fun Γ a w μ R => by
  obtain ⟨M, e⟩ := R.mem.new (Fr.refl [] w) (al' := (· < K + 1)) (fun i hi => by omega) (n := K) (by omega) (by omega) (.arr sz [] 0) none (by simp) rfl
  have hbK : K ≠ b := fun hh => by have := R.mem.used _ _ hb; omega
  have hb' : find (put s.hp K (.arr sz [] 0)) b = some (.box cs) := by rw [find_put, if_neg hbK]; exact hb
  have hB := M.blk _ _ hb'
  cases hp : setμ μ K none b with
  | none => rw [hp] at hB; exact hB.elim
  | some p =>
    rw [hp] at hB
    obtain ⟨h0, vs, hC, hc⟩ := hB
    have hw : ∀ w : World, w.setCells p.b 0 [] = w := fun w => rfl
    have hcs : CsOk (· < K + 1) (put s.hp K (.arr sz [] 0)) (Sv Γ.G (put s.hp K (.arr sz [] 0)) (setμ μ K none) w) (setμ μ K none) (cs.set j (.own K 0 0 0)) vs := by
      refine ⟨by rw [List.length_set]; exact hC.1, hC.2.1, fun i c' v hi hv => ?_⟩
      rw [List.getElem?_set] at hi
      by_cases hij : j = i
      · subst hij
        rw [if_pos rfl] at hi
        split at hi
        · obtain rfl := Option.some.inj hi
          exact own_new (al := (· < K + 1)) (S := Sv Γ.G (put s.hp K (.arr sz [] 0)) (setμ μ K none) w) (K := K) (hp := put s.hp K (.arr sz [] 0)) (μ := setμ μ K none) (sz := sz) (Nat.lt_succ_self K) (by rw [find_put, if_pos rfl]) (by simp [setμ]) (hC.2.2 _ _ _ hj hv)
        · cases hi
      · rw [if_neg hij] at hi
        exact hC.2.2 _ _ _ hi hv
    obtain ⟨M2, e2⟩ := M.write (al' := (· < K + 1)) (fun _ h => h) hb' rfl (b' := .box (cs.set j (.own K 0 0 0))) rfl hp 0 [] (by simp [verOf, find_put, hbK, hb]) (fun ver sz' es' _ hh => by simp [arrOf, find_put] at hh) (fun cs' _ => ⟨_, rfl⟩)
      ⟨h0, vs, hcs, fun i v hv => by rw [hw]; exact hc i v hv⟩
    rw [hw] at M2 e2
    exact h Γ a w _ ⟨M2, R.size, fun t => ((R.tmp t).mono e).mono e2, R.defers⟩
end
attribute [go_sem] List.set_cons_zero List.set_cons_succ List.replicate_succ
end Go.Proofs.Ytbmdncjnnlajnaa.M

/- Contracts for DocOk, part 2: what is looked for in lists. No condition. -/
namespace Go.Proofs.Ytbmdncjnnlajnaa.M
open Go Go.Proofs
set_option maxRecDepth 100000
set_option maxHeartbeats 2000000
set_option linter.unusedSimpArgs false
/-- The first place below n where p holds, or -1. -/
def firstF (p : Nat → Bool) (n : Nat) : Int := match (List.range n).find? p with | some i => i | none => -1
theorem firstF_hit {p : Nat → Bool} {n i : Nat} (h : ∀ j, j < i → p j = false) (hi : i < n) (hp : p i = true) : firstF p n = i := by
  unfold firstF
  have : (List.range n).find? p = some i := List.find?_range_eq_some.2 ⟨hp, List.mem_range.2 hi, fun j hj => by simp [h j hj]⟩
  rw [this]
theorem firstF_none {p : Nat → Bool} {n : Nat} (h : ∀ j, j < n → p j = false) : firstF p n = -1 := by
  unfold firstF
  have : (List.range n).find? p = none := List.find?_range_eq_none.2 fun j hj => by simp [h j hj]
  rw [this]
theorem firstF_cases (p : Nat → Bool) (n : Nat) : (firstF p n = -1 ∧ ∀ j, j < n → p j = false) ∨ ∃ i, i < n ∧ firstF p n = i ∧ p i = true ∧ ∀ j, j < i → p j = false := by
  cases h : (List.range n).find? p with
  | none =>
    have := List.find?_range_eq_none.1 h
    exact .inl ⟨by unfold firstF; rw [h], fun j hj => by simpa using this j hj⟩
  | some i =>
    obtain ⟨h1, h2, h3⟩ := List.find?_range_eq_some.1 h
    exact .inr ⟨i, List.mem_range.1 h2, by unfold firstF; rw [h], h1, fun j hj => by simpa using h3 j hj⟩
def keyP (a : List ByteArray) (v : ByteArray) (j : Nat) : Bool := match a[j]? with | some x => v.toList == x.toList | none => false
def keyAt (a : List ByteArray) (v : ByteArray) : Int := firstF (keyP a v) a.length
theorem c57 (a : List ByteArray) (v : ByteArray) (ha : a.length ≤ 1048576) : CS Try.prog false 57 [.v (strs a), .v (.str v)] [.int .i64 (keyAt a v)] [] := by
  refine CS_act tab_ok md Try.func57 rfl rfl Try.ntmps57 (rl := [.tmp 4]) rfl (Nat.le_of_ble_eq_true rfl) ?_
  simp only [go_sem, strs, List.length_map]
  refine act_loop_of (md := md) tab_ok [0,1,7,8] [] 1000 (ι := {i : Nat // i ≤ a.length ∧ ∀ j, j < i → keyP a v j = false}) (fun i => ⟨[(0, .a (.c (.t (.list 1 (a.map T.str))))), (1, .a (.c (.t (.str v)))), (7, .a (.c (.t (.int .i64 a.length)))), (8, .a (.c (.t (.int .i64 i.1))))], [], 1000, 19⟩) (fun i => a.length - i.1) ⟨0, by omega, by simp⟩ (Nat.le_of_ble_eq_true rfl) (by simp only [go_sem]) (by simp only [go_sem]; rfl) fun i => ?_
  obtain ⟨i, hi, ht⟩ := i
  simp only [go_sem, List.length_map]
  refine act_split (fun h => ?_) (fun h => ?_) <;> simp only [go_sem] <;> simp only [decide_eq_true_eq, decide_eq_false_iff_not] at h
  · obtain ⟨x, hx⟩ : ∃ x, a[i]? = some x := ⟨_, List.getElem?_eq_getElem (by omega)⟩
    simp only [go_sem, List.getElem?_map, hx, List.length_map]
    refine ⟨by omega, by omega, ?_⟩
    refine act_split (fun h2 => ?_) (fun h2 => ?_) <;> simp only [go_sem]
    · unfold keyAt
      rw [firstF_hit ht (by omega) (by simp [keyP, hx, h2])]
    · refine nextK_of ⟨i + 1, by omega, all_succ ht (by simp [keyP, hx, h2])⟩ (by simp only [go_sem]) ?_ (by dsimp only; omega)
      simp only [go_sem]
      rw [wrap64 (by omega) (by omega)]; rfl
  · unfold keyAt
    rw [firstF_none fun j hj => ht j (by omega)]
def atB (k : Int) (ks : List ByteArray) (kl : Nat) (v : ByteArray) : Int := if (k == 8) = false then -1 else if ks.length = kl then keyAt ks v else -1
theorem c53 (k n : Int) (s : ByteArray) (ks : List ByteArray) (kids : List Ob) (v : ByteArray) (ha : ks.length ≤ 1048576) : CS Try.prog false 53 [.v (Ob.mk k n s ks kids).t, .v (.str v)] [.int .i64 (atB k ks kids.length v)] [] := by
  rw [Ob.t_mk]
  unfold atB
  refine CS_act tab_ok md Try.func53 rfl rfl Try.ntmps53 (rl := [.tmp 4]) rfl (Nat.le_of_ble_eq_true rfl) ?_
  simp only [go_sem, List.length_map, bne]
  refine act_split (fun h => ?_) (fun h => ?_) <;> simp only [go_sem, h, List.length_map, bne]
  refine act_split_not (fun h2 => ?_) (fun h2 => ?_) <;> simp only [go_sem, h2, List.length_map, bne]
  · rw [if_neg (by simp at h2; omega)]
  rw [if_pos (by simp at h2; omega)]
  refine act_loop_of (md := md) tab_ok [1,2,5] [0] 2000 (ι := {i : Nat // i ≤ ks.length ∧ ∀ j, j < i → keyP ks v j = false}) (fun i => ⟨[(1, .a (.c (.t (.str v)))), (2, .a (.c (.ptr 0 0))), (5, .a (.c (.t (.int .i64 i.1))))], [(0, .box [.t (.int .i64 k), .t (.int .i64 n), .t (.str s), .t (.list 1 (ks.map T.str)), .t (.list 5 (kids.map Ob.t))])], 2000, 33⟩) (fun i => ks.length - i.1) ⟨0, by omega, by simp⟩ (Nat.le_of_ble_eq_true rfl) (by simp only [go_sem]) (by simp only [go_sem]; rfl) fun i => ?_
  obtain ⟨i, hi, ht⟩ := i
  simp only [go_sem, List.length_map]
  refine act_split (fun h => ?_) (fun h => ?_) <;> simp only [go_sem] <;> simp only [decide_eq_true_eq, decide_eq_false_iff_not] at h
  · obtain ⟨x, hx⟩ : ∃ x, ks[i]? = some x := ⟨_, List.getElem?_eq_getElem (by omega)⟩
    simp only [go_sem, List.getElem?_map, hx, List.length_map]
    refine ⟨by omega, by omega, ?_⟩
    refine act_split (fun h2 => ?_) (fun h2 => ?_) <;> simp only [go_sem]
    · unfold keyAt
      rw [firstF_hit ht (by omega) (by simp only [keyP, hx]; rw [beq_iff_eq] at h2 ⊢; exact h2.symm)]
    · refine nextK_of ⟨i + 1, by omega, all_succ ht (by simp only [keyP, hx]; rw [beq_eq_false_iff_ne] at h2 ⊢; exact fun hh => h2 hh.symm)⟩ (by simp only [go_sem]) ?_ (by dsimp only; omega)
      simp only [go_sem]
      rw [wrap64 (by omega) (by omega)]; rfl
  · unfold keyAt
    rw [firstF_none fun j hj => ht j (by omega)]
def numP (a : List It) (n : Int) (j : Nat) : Bool := match a[j]? with | some x => x.num == n | none => false
def numAt (a : List It) (n : Int) : Int := firstF (numP a n) a.length
theorem c69 (a : List It) (r num : Int) (ha : a.length ≤ 1048576) : CS Try.prog false 69 [.v (docT a r), .v (.int .i64 num)] [.int .i64 (numAt a num)] [] := by
  unfold docT its
  refine CS_act tab_ok md Try.func69 rfl rfl Try.ntmps69 (rl := [.tmp 4]) rfl (Nat.le_of_ble_eq_true rfl) ?_
  simp only [go_sem, List.length_map]
  refine act_loop_of (md := md) tab_ok [1,2,5] [0] 1000 (ι := {i : Nat // i ≤ a.length ∧ ∀ j, j < i → numP a num j = false}) (fun i => ⟨[(1, .a (.c (.t (.int .i64 num)))), (2, .a (.c (.ptr 0 0))), (5, .a (.c (.t (.int .i64 i.1))))], [(0, .box [.t (.list 8 (a.map It.t)), .t (.int .i64 r)])], 1000, 22⟩) (fun i => a.length - i.1) ⟨0, by omega, by simp⟩ (Nat.le_of_ble_eq_true rfl) (by simp only [go_sem]) (by simp only [go_sem]; rfl) fun i => ?_
  obtain ⟨i, hi, ht⟩ := i
  simp only [go_sem, List.length_map]
  refine act_split (fun h => ?_) (fun h => ?_) <;> simp only [go_sem] <;> simp only [decide_eq_true_eq, decide_eq_false_iff_not] at h
  · obtain ⟨x, hx⟩ : ∃ x, a[i]? = some x := ⟨_, List.getElem?_eq_getElem (by omega)⟩
    simp only [go_sem, List.getElem?_map, hx, List.length_map, It.t_def]
    refine ⟨by omega, by omega, ?_⟩
    refine act_split (fun h2 => ?_) (fun h2 => ?_) <;> simp only [go_sem]
    · unfold numAt
      rw [firstF_hit ht (by omega) (by simp only [numP, hx, h2])]
    · refine nextK_of ⟨i + 1, by omega, all_succ ht (by simp only [numP, hx, h2])⟩ (by simp only [go_sem]) ?_ (by dsimp only; omega)
      simp only [go_sem]
      rw [wrap64 (by omega) (by omega)]; rfl
  · unfold numAt
    rw [firstF_none fun j hj => ht j (by omega)]
theorem c97 (x : It) (num : Int) : CS Try.prog false 97 [.v x.t, .mb [.t (.int .i64 num)]] [.bool (x.num == num)] [[.t (.int .i64 num)]] := by
  rw [It.t_def]
  refine CS_act tab_ok md Try.func97 rfl rfl Try.ntmps97 (rl := [.tmp 3]) rfl (Nat.le_of_ble_eq_true rfl) ?_
  simp only [go_sem]
theorem c96 (a : List It) (num : Int) (ha : a.length ≤ 1048576) : CS Try.prog false 96 [.v (its a), .clo 97 [.t (.int .i64 num)]] [.int .i64 (numAt a num)] [[.t (.int .i64 num)]] := by
  unfold its
  refine CS_act tab_ok md Try.func96 rfl rfl Try.ntmps96 (rl := [.tmp 4]) rfl (Nat.le_of_ble_eq_true rfl) ?_
  simp only [go_sem, List.length_map]
  refine act_loop_of (md := md) tab_ok [0,1,7,8] [0] 1000 (ι := {i : Nat // i ≤ a.length ∧ ∀ j, j < i → numP a num j = false}) (fun i => ⟨[(0, .a (.c (.t (.list 8 (a.map It.t))))), (1, .a (.c (.clo 97 0))), (7, .a (.c (.t (.int .i64 a.length)))), (8, .a (.c (.t (.int .i64 i.1))))], [(0, .box [.t (.int .i64 num)])], 1000, 19⟩) (fun i => a.length - i.1) ⟨0, by omega, by simp⟩ (Nat.le_of_ble_eq_true rfl) (by simp only [go_sem]) (by simp only [go_sem]; rfl) fun i => ?_
  obtain ⟨i, hi, ht⟩ := i
  simp only [go_sem, List.length_map]
  refine act_split (fun h => ?_) (fun h => ?_) <;> simp only [go_sem] <;> simp only [decide_eq_true_eq, decide_eq_false_iff_not] at h
  · obtain ⟨x, hx⟩ : ∃ x, a[i]? = some x := ⟨_, List.getElem?_eq_getElem (by omega)⟩
    have hc := c97 x num
    rw [It.t_def] at hc
    simp only [go_sem, List.getElem?_map, hx, List.length_map, It.t_def]
    refine ⟨by omega, by omega, ?_⟩
    refine act_callE hc ?_
    simp only [go_sem]
    refine act_split (fun h2 => ?_) (fun h2 => ?_) <;> simp only [go_sem]
    · unfold numAt
      rw [firstF_hit ht (by omega) (by simp only [numP, hx, h2])]
    · refine nextK_of ⟨i + 1, by omega, all_succ ht (by simp only [numP, hx, h2])⟩ (by simp only [go_sem]) ?_ (by dsimp only; omega)
      simp only [go_sem]
      rw [wrap64 (by omega) (by omega)]; rfl
  · unfold numAt
    rw [firstF_none fun j hj => ht j (by omega)]
theorem c72 (a : List It) (r num : Int) (ha : a.length ≤ 1048576) : CS Try.prog false 72 [.v (docT a r), .v (.int .i64 num)] [.int .i64 (numAt a num)] [] := by
  have hc := c96 a num ha
  unfold docT its at *
  refine CS_act tab_ok md Try.func72 rfl rfl Try.ntmps72 (rl := [.tmp 4]) rfl (Nat.le_of_ble_eq_true rfl) ?_
  simp only [go_sem]
  refine act_callE hc ?_
  simp only [go_sem]
end Go.Proofs.Ytbmdncjnnlajnaa.M

/- Contracts for DocOk, part 3: copies. No condition. -/
namespace Go.Proofs.Ytbmdncjnnlajnaa.M
open Go Go.Proofs
set_option maxRecDepth 100000
set_option maxHeartbeats 2000000
set_option linter.unusedSimpArgs false
abbrev zObj : List C := [.t (.int .i64 0), .t (.int .i64 0), .t (.str ⟨#[]⟩), .nil 1, .nil 5]
theorem take_map_succ {α β : Type} (f : α → β) (a : List α) (i : Nat) (x : α) (hx : a[i]? = some x) : (a.take i).map f ++ [f x] = (a.take (i + 1)).map f := by
  rw [List.take_add_one, hx]; simp
theorem c58 (k n : Int) (s : ByteArray) (ks : List ByteArray) (kids : List Ob) (h1 : ks.length ≤ 1048576) (h2 : kids.length ≤ 1048576) (hh : ∀ o ∈ kids, CS Try.prog false 58 [.v o.t] [o.t] []) :
    CS Try.prog false 58 [.v (Ob.mk k n s ks kids).t] [(Ob.mk k n s ks kids).t] [] := by
  rw [Ob.t_mk]
  refine CS_act tab_ok md Try.func58 rfl rfl Try.ntmps58 (rl := [.cell 2 37]) rfl (Nat.le_of_ble_eq_true rfl) ?_
  simp only [go_sem, List.length_map]
  refine act_draw_of tab_ok mix md ?_
  simp only [go_sem, List.length_map]
  refine ⟨by omega, drawOk_of (by kernel_rfl), ?_⟩
  refine WWE_nilbox 208 4 5 900 rfl rfl (Nat.le_of_ble_eq_true rfl) ?_
  refine act_loop_of (md := md) tab_ok [2,3,18,19,20] [16,128,208,900] 1000 (ι := {i : Nat // i ≤ kids.length})
    (fun i => ⟨[(2, .a (.c (.ptr 16 0))), (3, .a (.c (.ptr 208 0))), (18, .a (.c (.t (.list 5 (kids.map Ob.t))))), (19, .a (.c (.t (.int .i64 kids.length)))), (20, .a (.c (.t (.int .i64 i.1))))],
      [(16, .box zObj), (128, .arr 1 (ks.map T.str) 1), (208, .box [.t (.int .i64 k), .t (.int .i64 n), .t (.str s), .own 128 1 0 ks.length, .own 900 i.1 0 i.1]), (900, .arr 5 ((kids.take i.1).map Ob.t) i.1)], 1000, 33⟩)
    (fun i => kids.length - i.1) ⟨0, by omega⟩ (Nat.le_of_ble_eq_true rfl) (by simp only [go_sem]) (by simp only [go_sem]; simp) fun i => ?_
  obtain ⟨i, hi⟩ := i
  simp only [go_sem]
  refine act_split (fun h3 => ?_) (fun h3 => ?_) <;> simp only [go_sem] <;> simp only [decide_eq_true_eq, decide_eq_false_iff_not] at h3
  · obtain ⟨x, hx⟩ : ∃ x, kids[i]? = some x := ⟨_, List.getElem?_eq_getElem (by omega)⟩
    have hc := hh x (List.mem_of_getElem? hx)
    have ht := take_map_succ Ob.t kids i x hx
    have hlt : ((kids.take i).map Ob.t).length = i := by simp; omega
    obtain ⟨k', n', s', ks', kids'⟩ := x
    rw [Ob.t_mk] at hc ht
    simp only [go_sem, List.getElem?_map, hx, List.length_map, Ob.t_mk]
    refine ⟨by omega, by omega, ?_⟩
    refine act_draw_of tab_ok mix md ?_
    simp only [go_sem]
    refine act_callE hc ?_
    simp only [go_sem, hlt]
    refine ⟨by omega, drawOk_of (by kernel_rfl), ?_⟩
    refine nextK_of ⟨i + 1, by omega⟩ (by simp only [go_sem]) ?_ (by dsimp only; omega)
    simp only [go_sem]
    rw [wrap64 (by omega) (by omega), ht]; rfl
  · have : i = kids.length := by omega
    subst this
    simp
    exact ⟨List.take_of_length_le (by simp), List.take_of_length_le (by simp)⟩
theorem c58' : ∀ o : Ob, Sm o → CS Try.prog false 58 [.v o.t] [o.t] []
  | .mk k n s ks kids, h => by
    cases h with
    | mk _ _ _ _ _ h1 h2 h3 => exact c58 k n s ks kids h1 h2 fun o ho => c58' o (h3 o ho)
  decreasing_by
  have := List.sizeOf_lt_of_mem ho
  simp only [Ob.mk.sizeOf_spec]
  omega
theorem c54 (k n : Int) (s : ByteArray) (ks : List ByteArray) (kids : List Ob) (h1 : ks.length ≤ 1048576) (h2 : kids.length ≤ 1048576) (hh : ∀ o ∈ kids, CS Try.prog false 54 [.v o.t] [o.t] []) :
    CS Try.prog false 54 [.v (Ob.mk k n s ks kids).t] [(Ob.mk k n s ks kids).t] [] := by
  rw [Ob.t_mk]
  refine CS_act tab_ok md Try.func54 rfl rfl Try.ntmps54 (rl := [.cell 2 37]) rfl (Nat.le_of_ble_eq_true rfl) ?_
  simp only [go_sem, List.length_map]
  refine ⟨by omega, ?_⟩
  refine act_loop_of (md := md) tab_ok [1,2,3,4] [0,16,32,128] 1000 (ι := {i : Nat // i ≤ kids.length})
    (fun i => ⟨[(1, .a (.c (.ptr 0 0))), (2, .a (.c (.ptr 16 0))), (3, .a (.c (.own 128 i.1 0 i.1))), (4, .a (.c (.t (.int .i64 i.1))))],
      [(0, .box [.t (.int .i64 k), .t (.int .i64 n), .t (.str s), .own 32 1 0 ks.length, .t (.list 5 (kids.map Ob.t))]), (16, .box zObj), (32, .arr 1 (ks.map T.str) 1), (128, .arr 5 ((kids.take i.1).map Ob.t) i.1)], 1000, 30⟩)
    (fun i => kids.length - i.1) ⟨0, by omega⟩ (Nat.le_of_ble_eq_true rfl) (by simp only [go_sem]) (by simp only [go_sem]; simp) fun i => ?_
  obtain ⟨i, hi⟩ := i
  simp only [go_sem, List.length_map]
  refine act_split (fun h3 => ?_) (fun h3 => ?_) <;> simp only [go_sem] <;> simp only [decide_eq_true_eq, decide_eq_false_iff_not] at h3
  · obtain ⟨x, hx⟩ : ∃ x, kids[i]? = some x := ⟨_, List.getElem?_eq_getElem (by omega)⟩
    have hc := hh x (List.mem_of_getElem? hx)
    have ht := take_map_succ Ob.t kids i x hx
    have hlt : ((kids.take i).map Ob.t).length = i := by simp; omega
    obtain ⟨k', n', s', ks', kids'⟩ := x
    rw [Ob.t_mk] at hc ht
    simp only [go_sem, List.getElem?_map, hx, List.length_map, Ob.t_mk]
    refine ⟨by omega, by omega, ?_⟩
    refine act_callE hc ?_
    simp only [go_sem, hlt]
    refine ⟨by omega, ?_⟩
    refine nextK_of ⟨i + 1, by omega⟩ (by simp only [go_sem]) ?_ (by dsimp only; omega)
    simp only [go_sem]
    rw [wrap64 (by omega) (by omega), ht]; rfl
  · have : i = kids.length := by omega
    subst this
    simp
    exact ⟨List.take_of_length_le (by simp), List.take_of_length_le (by simp)⟩
theorem c54' : ∀ o : Ob, Sm o → CS Try.prog false 54 [.v o.t] [o.t] []
  | .mk k n s ks kids, h => by
    cases h with
    | mk _ _ _ _ _ h1 h2 h3 => exact c54 k n s ks kids h1 h2 fun o ho => c54' o (h3 o ho)
  decreasing_by
  have := List.sizeOf_lt_of_mem ho
  simp only [Ob.mk.sizeOf_spec]
  omega
end Go.Proofs.Ytbmdncjnnlajnaa.M

/- Contracts for DocOk, part 4: entries, items. No condition. -/
namespace Go.Proofs.Ytbmdncjnnlajnaa.M
open Go Go.Proofs
set_option maxRecDepth 100000
set_option maxHeartbeats 2000000
set_option linter.unusedSimpArgs false
theorem atB_cases (k : Int) (ks : List ByteArray) (kl : Nat) (v : ByteArray) : atB k ks kl v = -1 ∨ ∃ i : Nat, atB k ks kl v = i ∧ i < kl ∧ k = 8 := by
  unfold atB
  split
  · exact .inl rfl
  · rename_i h
    split
    · rename_i hl
      unfold keyAt
      rcases firstF_cases (keyP ks v) ks.length with h1 | ⟨i, h1, h2, _⟩
      · exact .inl h1.1
      · exact .inr ⟨i, h2, by omega, by simpa using h⟩
    · exact .inl rfl
def entryO (k : Int) (ks : List ByteArray) (kids : List Ob) (v : ByteArray) : Option Ob := if atB k ks kids.length v < 0 then none else kids[(atB k ks kids.length v).toNat]?
def entR : Option Ob → List T
  | some o => [o.t, .bool true]
  | none => [ob0, .bool false]
theorem c20 (k n : Int) (s : ByteArray) (ks : List ByteArray) (kids : List Ob) (v : ByteArray) (hS : Sm (.mk k n s ks kids)) : CS Try.prog false 20 [.v (Ob.mk k n s ks kids).t, .v (.str v)] (entR (entryO k ks kids v)) [] := by
  obtain ⟨h1, h2, h3⟩ : ks.length ≤ 1048576 ∧ kids.length ≤ 1048576 ∧ ∀ o ∈ kids, Sm o := by cases hS; exact ⟨by assumption, by assumption, by assumption⟩
  have hc := c53 k n s ks kids v h1
  have ha := atB_cases k ks kids.length v
  unfold entryO
  generalize atB k ks kids.length v = z at hc ha ⊢
  rw [Ob.t_mk] at hc ⊢
  refine CS_act tab_ok md Try.func20 rfl rfl Try.ntmps20 (rl := [.cell 4 37, .tmp 5]) rfl (Nat.le_of_ble_eq_true rfl) ?_
  simp only [go_sem]
  refine act_callE hc ?_
  simp only [go_sem]
  rcases ha with rfl | ⟨i, rfl, hi, _⟩
  · simp only [go_sem, entR]
  · have e : ¬ (i : Int) < 0 := by omega
    obtain ⟨x, hx⟩ : ∃ x, kids[i]? = some x := ⟨_, List.getElem?_eq_getElem hi⟩
    have hcc := c54' x (h3 x (List.mem_of_getElem? hx))
    obtain ⟨k', n', s', ks', kids'⟩ := x
    rw [Ob.t_mk] at hcc
    simp only [go_sem, e, List.length_map, List.getElem?_map, hx, Ob.t_mk, entR]
    refine ⟨by omega, by omega, ?_⟩
    refine act_callE hcc ?_
    simp only [go_sem]
theorem c22 (k n : Int) (s : ByteArray) (ks : List ByteArray) (kids : List Ob) (v : ByteArray) (hS : Sm (.mk k n s ks kids)) : CS Try.prog false 22 [.v (Ob.mk k n s ks kids).t, .v (.str v)] (entR (entryO k ks kids v)) [] := by
  obtain ⟨h1, h2, h3⟩ : ks.length ≤ 1048576 ∧ kids.length ≤ 1048576 ∧ ∀ o ∈ kids, Sm o := by cases hS; exact ⟨by assumption, by assumption, by assumption⟩
  have hc := c57 ks v h1
  have ha := firstF_cases (keyP ks v) ks.length
  unfold entryO atB
  unfold keyAt at *
  generalize firstF (keyP ks v) ks.length = z at hc ha ⊢
  rw [Ob.t_mk]
  refine CS_act tab_ok md Try.func22 rfl rfl Try.ntmps22 (rl := [.cell 4 37, .tmp 5]) rfl (Nat.le_of_ble_eq_true rfl) ?_
  simp only [go_sem]
  refine act_callE hc ?_
  simp only [go_sem, bne]
  refine act_split (fun g => ?_) (fun g => ?_) <;> simp only [go_sem, g, List.length_map, bne]
  · refine act_split (fun g2 => ?_) (fun g2 => ?_) <;> simp only [go_sem, g2, bne]
    · have e0 : ks.length = kids.length := by simp at g2; omega
      rw [if_pos e0]
      rcases ha with ⟨rfl, _⟩ | ⟨i, hi, rfl, _⟩
      · simp only [go_sem, entR]
      · have e : ¬ (i : Int) < 0 := by omega
        obtain ⟨x, hx⟩ : ∃ x, kids[i]? = some x := ⟨_, List.getElem?_eq_getElem (by omega)⟩
        have hcc := c58' x (h3 x (List.mem_of_getElem? hx))
        obtain ⟨k', n', s', ks', kids'⟩ := x
        rw [Ob.t_mk] at hcc
        simp only [go_sem, e, List.length_map, List.getElem?_map, hx, Ob.t_mk, entR]
        refine ⟨by omega, by omega, ?_⟩
        refine act_callE hcc ?_
        simp only [go_sem]
    · have e0 : ¬ ks.length = kids.length := by simp at g2; omega
      rw [if_neg e0]
      simp only [go_sem, entR]
  · simp only [entR]
abbrev lenS : ByteArray := ⟨#[76, 101, 110, 103, 116, 104]⟩
def lenI (x : It) : Int := match entryO x.k x.ks x.kids lenS with | some (.mk k n _ _ _) => if k == 4 then n else -1 | none => -1
theorem c68 (x : It) (hS : Sm x.o) : CS Try.prog false 68 [.v x.t] [.int .i64 (lenI x)] [] := by
  have hc := c20 x.k x.n x.s x.ks x.kids lenS hS
  unfold lenI
  generalize entryO x.k x.ks x.kids lenS = e at hc ⊢
  rw [Ob.t_mk] at hc
  rw [It.t_def]
  refine CS_act tab_ok md Try.func68 rfl rfl Try.ntmps68 (rl := [.tmp 2]) rfl (Nat.le_of_ble_eq_true rfl) ?_
  simp only [go_sem]
  refine act_callE hc ?_
  cases e with
  | none => simp only [go_sem, entR]
  | some o =>
    obtain ⟨k', n', s', ks', kids'⟩ := o
    simp only [go_sem, entR, Ob.t_mk, bne]
    refine act_split_not (fun g => ?_) (fun g => ?_) <;> simp only [go_sem, g]
def dataB (x : It) : Bool := if x.hd then (match entryO x.k x.ks x.kids lenS with | some (.mk k n _ _ _) => k == 4 && decide (n = (x.data.size : Int)) | none => false) else x.data.toList == (⟨#[]⟩ : ByteArray).toList
def itB (x : It) : Bool := inB x.num 1 99 && decide (cntO x.o 0 ≤ 120) && dataB x
theorem c71 (x : It) (hT : Tn x.o) : CS Try.prog false 71 [.v x.t] [.bool (itB x)] [] := by
  have hc := c22 x.k x.n x.s x.ks x.kids lenS hT.sm
  have ho := c27 x.o hT
  unfold itB dataB
  generalize decide (cntO x.o 0 ≤ 120) = ok at ho ⊢
  generalize entryO x.k x.ks x.kids lenS = e at hc ⊢
  rw [Ob.t_mk] at hc ho
  rw [It.t_def]
  refine CS_act tab_ok md Try.func71 rfl rfl Try.ntmps71 (rl := [.tmp 2]) rfl (Nat.le_of_ble_eq_true rfl) ?_
  simp only [go_sem]
  refine act_callE (c45 _ _ _) ?_
  simp only [go_sem]
  refine act_split (fun g => ?_) (fun g => ?_) <;> simp only [go_sem, g]
  refine act_callE ho ?_
  simp only [go_sem]
  refine act_split_not (fun g2 => ?_) (fun g2 => ?_) <;> simp only [go_sem, g2]
  refine act_split_not (fun g3 => ?_) (fun g3 => ?_) <;> simp only [go_sem, g3]
  refine act_callE hc ?_
  cases e with
  | none => simp only [go_sem, entR]
  | some o =>
    obtain ⟨k', n', s', ks', kids'⟩ := o
    simp only [go_sem, entR, Ob.t_mk]
    refine act_split (fun g4 => ?_) (fun g4 => ?_) <;> simp only [go_sem, g4]
    have e : (n' == (x.data.size : Int)) = decide (n' = (x.data.size : Int)) := by rw [Bool.eq_iff_iff]; simp
    rw [e]
end Go.Proofs.Ytbmdncjnnlajnaa.M

/- Contracts for DocOk, part 5: DocOk. No condition. -/
namespace Go.Proofs.Ytbmdncjnnlajnaa.M
open Go Go.Proofs
set_option maxRecDepth 100000
set_option maxHeartbeats 2000000
set_option linter.unusedSimpArgs false
def itP (a : List It) (i : Nat) : Bool :=
  match a[i]? with
  | some x => itB x && !(decide (i > 0) && match a[i - 1]? with | some y => decide (y.num ≥ x.num) | none => false)
  | none => true
def itsB (a : List It) : Bool := (List.range a.length).all (itP a)
theorem itsB_no {a : List It} {i : Nat} (hi : i < a.length) (h : itP a i = false) : itsB a = false := by
  unfold itsB
  rw [List.all_eq_false]
  exact ⟨i, List.mem_range.2 hi, by simp [h]⟩
theorem itsB_yes {a : List It} (h : ∀ j, j < a.length → itP a j = true) : itsB a = true := by
  unfold itsB
  exact List.all_eq_true.2 fun j hj => h j (List.mem_range.1 hj)
def rootB (a : List It) (r : Int) : Bool := decide (numAt a r ≥ 0) && match a[(numAt a r).toNat]? with | some x => x.k == 8 | none => false
def docB (a : List It) (r : Int) : Bool := decide ((a.length : Int) ≤ 30) && itsB a && rootB a r
theorem c31 (a : List It) (r : Int) (ha : a.length ≤ 1048576) (hT : ∀ o ∈ a, Tn o.o) : CS Try.prog false 31 [.v (docT a r)] [.bool (docB a r)] [] := by
  have hroot := c72 a r r ha
  have hcase := firstF_cases (numP a r) a.length
  unfold docT its at *
  refine CS_act tab_ok md Try.func31 rfl rfl Try.ntmps31 (rl := [.tmp 2]) rfl (Nat.le_of_ble_eq_true rfl) ?_
  simp only [go_sem, List.length_map]
  refine act_loop_of (md := md) tab_ok [1,7,8,9] [0] 1000 (ι := {i : Nat // i ≤ a.length ∧ ∀ j, j < i → itP a j = true}) (fun i => ⟨[(1, .a (.c (.ptr 0 0))), (7, .a (.c (.t (.list 8 (a.map It.t))))), (8, .a (.c (.t (.int .i64 a.length)))), (9, .a (.c (.t (.int .i64 i.1))))], [(0, .box [.t (.list 8 (a.map It.t)), .t (.int .i64 r)])], 1000, 56⟩) (fun i => a.length - i.1) ⟨0, by omega, by simp⟩ (Nat.le_of_ble_eq_true rfl) (by simp only [go_sem]) (by simp only [go_sem]; rfl) fun i => ?_
  obtain ⟨i, hi, ht⟩ := i
  simp only [go_sem, List.length_map]
  refine act_split (fun h => ?_) (fun h => ?_) <;> simp only [go_sem] <;> simp only [decide_eq_true_eq, decide_eq_false_iff_not] at h
  · obtain ⟨x, hx⟩ : ∃ x, a[i]? = some x := ⟨_, List.getElem?_eq_getElem (by omega)⟩
    have hc := c71 x (hT x (List.mem_of_getElem? hx))
    rw [It.t_def] at hc
    simp only [go_sem, List.getElem?_map, hx, List.length_map, It.t_def]
    refine ⟨by omega, by omega, ?_⟩
    refine act_draw_of tab_ok mix md ?_
    simp only [go_sem]
    refine act_callE hc ?_
    simp only [go_sem]
    refine act_split (fun h2 => ?_) (fun h2 => ?_) <;> simp only [go_sem, h2]
    · refine act_split (fun h3 => ?_) (fun h3 => ?_) <;> simp only [go_sem, h3] <;> simp only [decide_eq_true_eq, decide_eq_false_iff_not] at h3
      · obtain ⟨y, hy⟩ : ∃ y, a[i - 1]? = some y := ⟨_, List.getElem?_eq_getElem (by omega)⟩
        have e : ((i : Int) - 1).toNat = i - 1 := by omega
        simp only [go_sem, wrap64 (n := (i : Int) - 1) (by omega) (by omega), e, List.getElem?_map, hx, hy, List.length_map, It.t_def]
        refine ⟨by omega, by omega, drawOk_of (by kernel_rfl), ?_⟩
        refine act_split (fun h4 => ?_) (fun h4 => ?_) <;> simp only [go_sem, h4]
        · have hno := itsB_no (a := a) (i := i) (by omega) (by simp only [itP, hx, hy, h2, h4]; simp; omega)
          simp only [docB, hno, Bool.and_false, Bool.false_and]
        · refine nextK_of ⟨i + 1, by omega, all_succ ht (by simp only [itP, hx, hy, h2, h4]; simp)⟩ (by simp only [go_sem]) ?_ (by dsimp only; omega)
          simp only [go_sem]
          rw [wrap64 (by omega) (by omega)]; rfl
      · refine ⟨drawOk_of (by kernel_rfl), ?_⟩
        refine nextK_of ⟨i + 1, by omega, all_succ ht (by simp only [itP, hx, h2]; simp; omega)⟩ (by simp only [go_sem]) ?_ (by dsimp only; omega)
        simp only [go_sem]
        rw [wrap64 (by omega) (by omega)]; rfl
    · refine ⟨drawOk_of (by kernel_rfl), ?_⟩
      have hno := itsB_no (a := a) (i := i) (by omega) (by simp only [itP, hx, h2]; simp)
      simp only [docB, hno, Bool.and_false, Bool.false_and]
  · have hy := itsB_yes (a := a) fun j hj => ht j (by omega)
    refine act_callE hroot ?_
    simp only [go_sem, docB, rootB, hy, List.length_map]
    refine act_split (fun h5 => ?_) (fun h5 => ?_) <;> simp only [go_sem, h5]
    unfold numAt
    rcases hcase with ⟨h6, _⟩ | ⟨m, hm, h6, _⟩
    · rw [h6]; simp only [go_sem]
    · rw [h6]
      obtain ⟨x, hx⟩ : ∃ x, a[m]? = some x := ⟨_, List.getElem?_eq_getElem hm⟩
      have e : decide ((m : Int) ≥ 0) = true := by simp
      simp only [go_sem, e, List.length_map, List.getElem?_map, hx, It.t_def]
      exact ⟨by omega, by omega⟩
end Go.Proofs.Ytbmdncjnnlajnaa.M

/- Contracts for DocOk, part 6: the reference's DocOk; the law. No condition. -/
namespace Go.Proofs.Ytbmdncjnnlajnaa.M
open Go Go.Proofs
set_option maxRecDepth 100000
set_option maxHeartbeats 2000000
set_option linter.unusedSimpArgs false
theorem data_len (x : It) : dataB x = (if x.hd then x.k == 8 && !(lenI x != (x.data.size : Int)) else x.data.toList == (⟨#[]⟩ : ByteArray).toList) := by
  unfold dataB
  split
  · unfold lenI entryO
    rcases atB_cases x.k x.ks x.kids.length lenS with h | ⟨i, h, hi, hk⟩
    · rw [h, if_pos (by omega)]
      have : ((-1 : Int) != (x.data.size : Int)) = true := by simp
      simp only [this]; simp
    · rw [h, if_neg (by omega)]
      obtain ⟨o, ho⟩ : ∃ o, x.kids[i]? = some o := ⟨_, List.getElem?_eq_getElem hi⟩
      obtain ⟨k', n', s', ks', kids'⟩ := o
      simp only [Int.toNat_natCast, ho, hk]
      by_cases h4 : k' = 4
      · subst h4
        by_cases h5 : n' = (x.data.size : Int)
        · simp [h5]
        · simp [h5]
      · have : ((-1 : Int) != (x.data.size : Int)) = true := by simp
        simp [h4, this]
  · rfl
theorem c29 (a : List It) (r : Int) (ha : a.length ≤ 1048576) (hT : ∀ o ∈ a, Tn o.o) : CS Try.prog false 29 [.v (docT a r)] [.bool (docB a r)] [] := by
  have hroot := c69 a r r ha
  have hcase := firstF_cases (numP a r) a.length
  unfold docT its at *
  refine CS_act tab_ok md Try.func29 rfl rfl Try.ntmps29 (rl := [.tmp 2]) rfl (Nat.le_of_ble_eq_true rfl) ?_
  simp only [go_sem, List.length_map]
  refine act_split (fun h0 => ?_) (fun h0 => ?_) <;> simp only [go_sem] <;> simp only [decide_eq_true_eq, decide_eq_false_iff_not] at h0
  · have : decide ((a.length : Int) ≤ 30) = false := by simp; omega
    simp only [docB, this, Bool.false_and]
  have h30 : decide ((a.length : Int) ≤ 30) = true := by simp; omega
  refine act_loop_of (md := md) tab_ok [1,3] [0] 1000 (ι := {i : Nat // i ≤ a.length ∧ ∀ j, j < i → itP a j = true}) (fun i => ⟨[(1, .a (.c (.ptr 0 0))), (3, .a (.c (.t (.int .i64 i.1))))], [(0, .box [.t (.list 8 (a.map It.t)), .t (.int .i64 r)])], 1000, 90⟩) (fun i => a.length - i.1) ⟨0, by omega, by simp⟩ (Nat.le_of_ble_eq_true rfl) (by simp only [go_sem]) (by simp only [go_sem]; rfl) fun i => ?_
  obtain ⟨i, hi, ht⟩ := i
  simp only [go_sem, List.length_map]
  refine act_split (fun h => ?_) (fun h => ?_) <;> simp only [go_sem] <;> simp only [decide_eq_true_eq, decide_eq_false_iff_not] at h
  · obtain ⟨x, hx⟩ : ∃ x, a[i]? = some x := ⟨_, List.getElem?_eq_getElem (by omega)⟩
    have hTx := hT x (List.mem_of_getElem? hx)
    have ho := c26 x.o hTx
    have hl := fun b => c68 ⟨x.num, x.k, x.n, x.s, x.ks, x.kids, b, x.data⟩ hTx.sm
    have hd := data_len x
    have no : ∀ b, itP a i = b → b = false → itsB a = false := fun b h1 h2 => itsB_no (a := a) (i := i) (by omega) (by rw [h1, h2])
    have hP : itP a i = (inB x.num 1 99 && decide (cntO x.o 0 ≤ 120) && (if x.hd then x.k == 8 && !(lenI x != (x.data.size : Int)) else x.data.toList == (⟨#[]⟩ : ByteArray).toList) && !(decide (i > 0) && match a[i - 1]? with | some y => decide (y.num ≥ x.num) | none => false)) := by
      first | (simp only [itP, hx, itB, hd]; done) | (simp only [itP, hx, itB, hd]; rfl)
    generalize decide (cntO x.o 0 ≤ 120) = ok at ho hP
    have hli : ∀ b, lenI ⟨x.num, x.k, x.n, x.s, x.ks, x.kids, b, x.data⟩ = lenI x := fun _ => rfl
    simp only [hli, It.t_def] at hl
    generalize lenI x = li at hl hP
    rw [Ob.t_mk] at ho
    have hle : (i : Int) < a.length := by omega
    have hw1 := wrap64 (n := (i : Int) + 1) (by omega) (by omega)
    rcases Nat.eq_zero_or_pos i with hi0 | hpos
    · have hg : decide ((i : Int) > 0) = false := by simp; omega
      have hg' : decide (i > 0) = false := by simp; omega
      simp only [hg'] at hP
      simp only [go_sem, List.getElem?_map, hx, List.length_map, It.t_def]
      refine ⟨by omega, by omega, ?_⟩
      refine act_draw_of tab_ok mix md ?_
      simp only [go_sem]
      refine act_callE (c44 _ _ _) ?_
      simp only [go_sem]
      repeat' (first
        | (refine act_callE ho ?_; simp only [go_sem])
        | (refine act_callE (hl _) ?_; simp only [go_sem])
        | (refine ⟨drawOk_of (by kernel_rfl), ?_⟩)
        | (refine act_draw_of tab_ok mix md ?_; simp only [go_sem, bne])
        | (refine act_split_not (fun g => ?_) (fun g => ?_) <;> simp only [go_sem, g, hg, List.getElem?_map, hx, List.length_map, It.t_def])
        | (refine act_split (fun g => ?_) (fun g => ?_) <;> simp only [go_sem, g, hg, List.getElem?_map, hx, List.length_map, It.t_def])
        | (refine And.intro ?_ (And.intro ?_ ?_); omega; omega))
      all_goals first
        | (have h9 := no _ hP (by clear hP ho hl hroot hcase no ht; first | (simp [*]; done) | (simp_all; done)); simp only [docB, h9, Bool.and_false, Bool.false_and]; done)
        | (have h9 : itP a i = true := by rw [hP]; clear hP ho hl hroot hcase no ht; first | (simp [*]; done) | (simp_all; done)
           refine nextK_of ⟨i + 1, by omega, all_succ ht h9⟩ (by simp only [go_sem]) ?_ (by dsimp only; omega)
           simp only [go_sem]
           rw [hw1]; rfl)
    · obtain ⟨y, hy⟩ : ∃ y, a[i - 1]? = some y := ⟨_, List.getElem?_eq_getElem (by omega)⟩
      have e : ((i : Int) - 1).toNat = i - 1 := by omega
      have hw := wrap64 (n := (i : Int) - 1) (by omega) (by omega)
      have hg : decide ((i : Int) > 0) = true := by simp; omega
      have hg' : decide (i > 0) = true := by simp; omega
      simp only [hg', hy] at hP
      simp only [go_sem, List.getElem?_map, hx, List.length_map, It.t_def]
      refine ⟨by omega, by omega, ?_⟩
      refine act_draw_of tab_ok mix md ?_
      simp only [go_sem]
      refine act_callE (c44 _ _ _) ?_
      simp only [go_sem]
      repeat' (first
        | (refine act_callE ho ?_; simp only [go_sem])
        | (refine act_callE (hl _) ?_; simp only [go_sem])
        | (refine ⟨drawOk_of (by kernel_rfl), ?_⟩)
        | (refine act_draw_of tab_ok mix md ?_; simp only [go_sem, bne])
        | (refine act_split_not (fun g => ?_) (fun g => ?_) <;> simp only [go_sem, g, hg, hw, e, hy, List.getElem?_map, hx, List.length_map, It.t_def])
        | (refine act_split (fun g => ?_) (fun g => ?_) <;> simp only [go_sem, g, hg, hw, e, hy, List.getElem?_map, hx, List.length_map, It.t_def])
        | (refine And.intro ?_ (And.intro ?_ ?_); omega; omega))
      all_goals first
        | (have h9 := no _ hP (by clear hP ho hl hroot hcase no ht; first | (simp [*]; done) | (simp_all; done)); simp only [docB, h9, Bool.and_false, Bool.false_and]; done)
        | (have h9 : itP a i = true := by rw [hP]; clear hP ho hl hroot hcase no ht; first | (simp [*]; done) | (simp_all; done)
           refine nextK_of ⟨i + 1, by omega, all_succ ht h9⟩ (by simp only [go_sem]) ?_ (by dsimp only; omega)
           simp only [go_sem]
           rw [hw1]; rfl)
  · have hy := itsB_yes (a := a) fun j hj => ht j (by omega)
    refine act_callE hroot ?_
    simp only [go_sem, docB, rootB, hy, List.length_map, h30]
    unfold numAt
    rcases hcase with ⟨h6, _⟩ | ⟨m, hm, h6, _⟩
    · rw [h6]; simp only [go_sem]
    · rw [h6]
      obtain ⟨x, hx⟩ : ∃ x, a[m]? = some x := ⟨_, List.getElem?_eq_getElem hm⟩
      have e : decide ((m : Int) ≥ 0) = true := by simp
      simp only [go_sem, e, List.length_map, List.getElem?_map, hx, It.t_def]
      exact ⟨by omega, by omega⟩
end Go.Proofs.Ytbmdncjnnlajnaa.M

/- Contracts for DocOk, part 7: the law. No condition. -/
namespace Go.Proofs.Ytbmdncjnnlajnaa.M
open Go Go.Proofs
set_option maxRecDepth 100000
set_option maxHeartbeats 2000000
set_option linter.unusedSimpArgs false
theorem c8 (a : List It) (r : Int) (hl : a.length ≤ 9223372036854775807) (hW : ∀ o ∈ a, Wd o.o ∧ o.data.size ≤ 9223372036854775807) : CS Try.prog false 8 [.v (docT a r)] [.bool true] [] := by
  have h28 := c28 a r 1048576 (by omega) (by omega) hl hW
  have hrest : ¬ szD a 1048576 < 0 → CS Try.prog false 30 [.v (docT a r)] [docT a r] [] ∧ CS Try.prog false 29 [.v (docT a r)] [.bool (docB a r)] [] ∧ CS Try.prog false 31 [.v (docT a r)] [.bool (docB a r)] [] ∧ CS Try.prog false 32 [.v (docT a r), .v (docT a r)] [.bool true] [] := fun h => by
    obtain ⟨h1, h2⟩ := tn_of_szD a 1048576 (by omega) (by omega)
    exact ⟨c30 a r h1 fun o ho => (h2 o ho).1.sm, c29 a r h1 fun o ho => (h2 o ho).1, c31 a r h1 fun o ho => (h2 o ho).1, c32 a r h1 fun o ho => (h2 o ho).1.sm⟩
  generalize szD a 1048576 = z at h28 hrest
  generalize docB a r = b at hrest
  unfold docT its at *
  refine CS_act tab_ok md Try.func8 rfl rfl Try.ntmps8 (rl := [.tmp 2]) rfl (Nat.le_of_ble_eq_true rfl) ?_
  simp only [go_sem]
  refine act_callE h28 ?_
  simp only [go_sem]
  refine act_split (fun h => ?_) (fun h => ?_) <;> simp only [go_sem] <;> simp only [decide_eq_true_eq, decide_eq_false_iff_not] at h
  obtain ⟨h21, h26, h27, h23⟩ := hrest h
  refine act_callE h21 ?_
  simp only [go_sem]
  refine act_callE h26 ?_
  simp only [go_sem]
  refine act_callE h21 ?_
  simp only [go_sem]
  refine act_callE h27 ?_
  simp only [go_sem, bne_self_eq_false, beq_self_eq_true]
  refine act_draw_of tab_ok mix md ?_
  simp only [go_sem]
  refine act_callE h21 ?_
  simp only [go_sem]
  refine act_callE h23 ?_
  simp only [go_sem]
  exact drawOk_of (by kernel_rfl)
end Go.Proofs.Ytbmdncjnnlajnaa.M

/- A machine of values: what an argument reads as is held by its cells: numbers, strings, lists, structs. No condition. -/
namespace Go.Proofs.Ytbmdncjnnlajnaa.M
open Go
set_option linter.unusedVariables false
section
variable {H : Type} {enc : TypeId × Value → H} {sp : Nat → Bool} {held : Bool} {W : World} {n : Nat} {t e : TypeId} {sz : Nat} {good : List T → Prop}
noncomputable abbrev All (W : World) : Addr → Option Value := inV (· < W.heap.size) W
/-- Cells that read as data of type t, with so much fuel, are held, and good. -/
def At (enc : TypeId × Value → H) (sp : Nat → Bool) (held : Bool) (W : World) (n : Nat) (t : TypeId) (good : List T → Prop) : Prop :=
  ∀ cs y, DataW.trod enc Try.prog W 0 sp held n t cs = some y → ∃ ts, HoldL (All W) ts cs ∧ good ts
theorem At.mono {good' : List T → Prop} (h : At enc sp held W n t good) (hg : ∀ x, good x → good' x) : At enc sp held W n t good' := fun cs y hy => by
  obtain ⟨x, hx, hgx⟩ := h cs y hy
  exact ⟨x, hx, hg x hgx⟩
theorem At.zero : At enc sp held W 0 t good := fun cs y h => by simp [DataW.trod] at h
theorem HoldL.one {S : Addr → Option Value} {x : T} {v : Value} (h : Hold S x v) (h1 : v.oneCell' = true) : HoldL S [x] [v] :=
  ⟨rfl, by simp [h1], fun j t u a b => by
    cases j with
    | zero => cases a; cases b; exact h
    | succ j => simp at a⟩
theorem HoldL.appO {S : Addr → Option Value} {x y : List T} {u v : List Value} (h : HoldL S x u) (k : HoldL S y v) : HoldL S (x ++ y) (u ++ v) := by
  refine ⟨by simp [h.1, k.1], fun w hw => ?_, fun j t w a b => ?_⟩
  · rcases List.mem_append.1 hw with hw | hw
    · exact h.2.1 w hw
    · exact k.2.1 w hw
  · by_cases hj : j < x.length
    · rw [List.getElem?_append_left hj] at a
      rw [List.getElem?_append_left (by rw [h.1]; exact hj)] at b
      exact h.2.2 j t w a b
    · rw [List.getElem?_append_right (by omega)] at a
      rw [List.getElem?_append_right (by rw [h.1]; omega), h.1] at b
      exact k.2.2 _ t w a b
theorem HoldL.nil {S : Addr → Option Value} : HoldL S [] [] := ⟨rfl, by simp, by simp⟩
theorem At.int {k : IntKind} (ht : Try.prog.underlying t = some (.int k)) : At enc sp held W n t (fun ts => ∃ x, ts = [.int k x] ∧ (Lit.int k x).wf = true) := fun cs y h => by
  obtain ⟨x, rfl, _, hx⟩ := DataW.trod_int ht h
  exact ⟨[.int k x], HoldL.one (.int k x) rfl, x, rfl, hx⟩
theorem At.bool (ht : Try.prog.underlying t = some .bool) : At enc sp held W n t (fun ts => ∃ x, ts = [.bool x]) := fun cs y h => by
  obtain ⟨x, rfl, _⟩ := DataW.trod_bool ht h
  exact ⟨[.bool x], HoldL.one (.bool x) rfl, x, rfl⟩
theorem At.string (ht : Try.prog.underlying t = some .string) : At enc sp held W n t (fun ts => ∃ x, ts = [.str x] ∧ x.size ≤ 9223372036854775807) := fun cs y h => by
  obtain ⟨x, rfl, _, hx⟩ := DataW.trod_string ht h
  exact ⟨[.str x], HoldL.one (.str x) rfl, x, rfl, hx⟩
theorem pick {α : Type} {P : Nat → α → Prop} (len : Nat) (h : ∀ i, i < len → ∃ x, P i x) : ∃ xs : List α, xs.length = len ∧ ∀ i x, xs[i]? = some x → P i x := by
  induction len with
  | zero => exact ⟨[], rfl, fun i x h => by simp at h⟩
  | succ len ih =>
    obtain ⟨xs, hl, hx⟩ := ih (fun i hi => h i (by omega))
    obtain ⟨y, hy⟩ := h len (by omega)
    refine ⟨xs ++ [y], by simp [hl], fun i x hi => ?_⟩
    rcases Nat.lt_or_ge i xs.length with hlt | hge
    · rw [List.getElem?_append_left hlt] at hi
      exact hx i x hi
    · have : i = len := by
        have := (List.getElem?_eq_some_iff.1 hi).1
        rw [List.length_append, List.length_singleton] at this
        omega
      subst this
      have hxy : x = y := by rw [← hl] at hi; simpa using hi.symm
      rw [hxy]
      exact hy
/-- Rows one behind the other. -/
theorem rows {S : Addr → Option Value} {a : Addr} {mk : List T → T} : ∀ (rs : List (List T × List Value)) (k : Nat), (∀ i r, rs[i]? = some r → HoldL S r.1 r.2 ∧ r.2.length = sz ∧ (mk r.1).cells = r.1 ∧ ∀ (j : Nat) v, r.2[j]? = some v → S (a.add ((k + i) * sz + j)) = some v) →
    HoldL S (flat (rs.map fun r => mk r.1)) (rs.flatMap (·.2)) ∧ ∀ (j : Nat) v, (rs.flatMap (·.2))[j]? = some v → S (a.add (k * sz + j)) = some v
  | [], k, _ => ⟨HoldL.nil, by simp⟩
  | r :: rs, k, h => by
    obtain ⟨h1, h2, h3, h4⟩ := h 0 r rfl
    obtain ⟨g1, g2⟩ := rows rs (k + 1) fun i r hr => by
      have := h (i + 1) r hr
      rwa [show k + (i + 1) = k + 1 + i by omega] at this
    simp only [List.map_cons, List.flatMap_cons, flat_cons, h3]
    refine ⟨h1.appO g1, fun j v hj => ?_⟩
    by_cases hjl : j < r.2.length
    · rw [List.getElem?_append_left hjl] at hj
      simpa using h4 j v hj
    · rw [List.getElem?_append_right (by omega)] at hj
      have := g2 _ v hj
      rwa [show (k + 1) * sz + (j - r.2.length) = k * sz + j by rw [Nat.add_mul]; omega] at this
theorem At.slice (mk : List T → T) (ht : Try.prog.underlying t = some (.slice e)) (hc : Try.prog.cellsOf e = sz) (h : At enc sp held W n e good) (hmk : ∀ ts, good ts → (mk ts).cells = ts ∧ ts.length = sz) :
    At enc sp held W (n + 1) t (fun ts => ∃ tss : List (List T), ts = [.list sz (tss.map mk)] ∧ tss.length ≤ 9223372036854775807 ∧ ∀ x ∈ tss, good x) := by
  intro cs y hy
  rcases DataW.trod_slice ht hy with ⟨rfl, _⟩ | ⟨a, len, cap, elems, rest, m, hm, rfl, _, _, hlc, hcm, hel, hels, _, _⟩
  · exact ⟨[.list sz []], HoldL.one (.nil sz) rfl, [], rfl, by simp, by simp⟩
  · obtain rfl : n = m := by omega
    have one : ∀ i, i < len → ∃ r : List T × List Value, W.cells? 0 (a.add (i * Try.prog.cellsOf e)) (Try.prog.cellsOf e) = some r.2 ∧ HoldL (All W) r.1 r.2 ∧ good r.1 := by
      intro i hi
      have h1 := hels i hi
      rw [List.getElem?_eq_getElem (by omega)] at h1
      obtain ⟨c, hc1, hc2⟩ := Option.bind_eq_some_iff.1 h1
      obtain ⟨x, hx, hg⟩ := h c _ hc2
      exact ⟨(x, c), hc1, hx, hg⟩
    obtain ⟨rs, hl, hr⟩ := pick len one
    have key := rows (S := All W) (sz := sz) (a := a) (mk := mk) rs 0 fun i r hi => by
      obtain ⟨h1, h2, h3⟩ := hr i r hi
      rw [hc] at h1
      obtain ⟨_, hcl, hcells⟩ := World.cells?_some h1
      refine ⟨h2, by rw [h2.1, (hmk _ h3).2], (hmk _ h3).1, fun j v hj => ?_⟩
      have hj' := (List.getElem?_eq_some_iff.1 hj).1
      have h4 := hcells j (by omega)
      rw [hj, Addr.add_add] at h4
      have hlt := World.block_lt_of_cell? _ _ h4
      rw [Nat.zero_add]
      unfold All inV
      rw [if_pos hlt]
      exact h4
    have hgood : ∀ r ∈ rs, good r.1 := fun r hrm => by
      obtain ⟨i, hi, rfl⟩ := List.getElem_of_mem hrm
      exact (hr i _ (List.getElem?_eq_getElem hi)).2.2
    have hmap : (rs.map (·.1)).map mk = rs.map fun r => mk r.1 := by rw [List.map_map]; rfl
    refine ⟨[.list sz ((rs.map (·.1)).map mk)], HoldL.one ?_ rfl, rs.map (·.1), rfl, by unfold maxLen at hcm; simp; omega, fun x hx => ?_⟩
    · rw [hmap]
      refine .list sz _ a len cap (rs.flatMap (·.2)) (by simp [hl]) hlc (fun x hx => ?_) key.1.1 (fun j v hj => by simpa using key.2 j v hj) key.1.2.1 key.1.2.2
      obtain ⟨r, hrm, rfl⟩ := List.mem_map.1 hx
      have := hmk _ (hgood r hrm)
      rw [this.1, this.2]
    · obtain ⟨r, hrm, rfl⟩ := List.mem_map.1 hx
      exact hgood r hrm
/-- A struct's fields, one behind the other. -/
def From (enc : TypeId × Value → H) (sp : Nat → Bool) (held : Bool) (W : World) (n : Nat) (fs : List Field) (off sz : Nat) (good : List T → Prop) : Prop :=
  ∀ cs : List Value, cs.length = off + sz → (∀ f ∈ fs, ∃ y, DataW.trod enc Try.prog W 0 sp held n f.type ((cs.drop f.offset).take (Try.prog.cellsOf f.type)) = some y) → ∃ ts, HoldL (All W) ts (cs.drop off) ∧ good ts
theorem From.last {f : Field} {off : Nat} (hoff : f.offset = off) (hsz : Try.prog.cellsOf f.type = sz) (h : At enc sp held W n f.type good) : From enc sp held W n [f] off sz good := by
  intro cs hl hf
  obtain ⟨y, hy⟩ := hf f (by simp)
  rw [hoff, hsz, List.take_of_length_le (by rw [List.length_drop]; omega)] at hy
  exact h _ _ hy
theorem From.more {f : Field} {fs : List Field} {off sz' : Nat} {good' : List T → Prop} (hoff : f.offset = off) (hsz : Try.prog.cellsOf f.type = sz) (h : At enc sp held W n f.type good) (hs : From enc sp held W n fs (off + sz) sz' good') :
    From enc sp held W n (f :: fs) off (sz + sz') (fun ts => ∃ t1 t2, ts = t1 ++ t2 ∧ good t1 ∧ good' t2) := by
  intro cs hl hf
  obtain ⟨y, hy⟩ := hf f (by simp)
  rw [hoff, hsz] at hy
  obtain ⟨x0, hx0, hg0⟩ := h _ _ hy
  obtain ⟨x1, hx1, hg1⟩ := hs cs (by omega) (fun g hg => hf g (by simp [hg]))
  refine ⟨x0 ++ x1, ?_, x0, x1, rfl, hg0, hg1⟩
  have := hx0.appO hx1
  rwa [← List.drop_drop, List.take_append_drop] at this
theorem At.struct {fs : Array Field} (ht : Try.prog.underlying t = some (.struct fs)) (hsz : Try.prog.cellsOf t = sz) (h : From enc sp held W n fs.toList 0 sz good) : At enc sp held W (n + 1) t good := by
  intro cs y hy
  obtain ⟨xs, m, hm, _, hl, hxl, hfs⟩ := DataW.trod_struct ht hy
  obtain rfl : n = m := by omega
  obtain ⟨x, hx, hg⟩ := h cs (by omega) (fun fd hfd => by
    obtain ⟨i, hi, rfl⟩ := List.getElem_of_mem hfd
    have hi' : i < fs.size := by simpa using hi
    have h1 := hfs i fs[i] (by simp [hi'])
    rw [List.getElem?_eq_getElem (by omega)] at h1
    exact ⟨_, by simpa using h1⟩)
  exact ⟨x, by simpa using hx, hg⟩
end
end Go.Proofs.Ytbmdncjnnlajnaa.M

/- A tree that comes in: what an argument of the laws' Obj reads as is a tree, held by its cells. No condition. -/
namespace Go.Proofs.Ytbmdncjnnlajnaa.M
open Go
theorem map_ex {α β γ : Type} {f : α → γ} {g : β → γ} {P : β → Prop} : ∀ (l : List α), (∀ x ∈ l, ∃ y, P y ∧ g y = f x) → ∃ ys : List β, ys.map g = l.map f ∧ ys.length = l.length ∧ ∀ y ∈ ys, P y
  | [], _ => ⟨[], rfl, rfl, by simp⟩
  | x :: r, h => by
    obtain ⟨y, h1, h2⟩ := h x (by simp)
    obtain ⟨ys, h3, h4, h5⟩ := map_ex r fun x hx => h x (by simp [hx])
    exact ⟨y :: ys, by simp [h2, h3], by simp [h4], fun z hz => by
      rcases List.mem_cons.1 hz with rfl | hz
      · exact h1
      · exact h5 z hz⟩
section
variable {H : Type} {enc : TypeId × Value → H} {sp : Nat → Bool} {hd : Bool} {W : World}
def scalOf (ts : List T) : T := ts.getD 0 (.bool false)
theorem at30 (n : Nat) : At enc sp hd W n 30 (fun ts => ∃ ks : List ByteArray, ts = [.list 1 (ks.map T.str)] ∧ ks.length ≤ 9223372036854775807 ∧ ∀ s ∈ ks, s.size ≤ 9223372036854775807) := by
  cases n with
  | zero => exact At.zero
  | succ n =>
    refine (At.slice (sz := 1) scalOf Try.underlying30 (by kernel_rfl) (At.string Try.underlying9) fun ts ⟨x, hx, _⟩ => by subst hx; exact ⟨rfl, rfl⟩).mono fun ts ⟨tss, h1, h2, h3⟩ => ?_
    obtain ⟨ks, g1, g2, g3⟩ := map_ex (f := scalOf) (g := T.str) (P := fun s => s.size ≤ 9223372036854775807) tss fun x hx => by
      obtain ⟨s, hs, hl⟩ := h3 x hx
      exact ⟨s, hl, by subst hs; rfl⟩
    exact ⟨ks, by rw [h1, g1], by omega, g3⟩
set_option maxRecDepth 100000 in
theorem at33 : ∀ n, At enc sp hd W n 33 (fun ts => ∃ o : Ob, Wd o ∧ o.t = .agg ts) := fun n => by
  induction n using Nat.strongRecOn with
  | _ n ih =>
    cases n with
    | zero => exact At.zero
    | succ n =>
      have h31 : At enc sp hd W n 31 (fun ts => ∃ kids : List Ob, ts = [.list 5 (kids.map Ob.t)] ∧ kids.length ≤ 9223372036854775807 ∧ ∀ o ∈ kids, Wd o) := by
        cases n with
        | zero => exact At.zero
        | succ n =>
          refine (At.slice (sz := 5) T.agg Try.underlying31 (by kernel_rfl) (ih n (by omega)) fun ts ⟨o, _, ho⟩ => ⟨rfl, by cases o with | mk => rw [Ob.t_mk] at ho; cases ho; rfl⟩).mono fun ts ⟨tss, h1, h2, h3⟩ => ?_
          obtain ⟨ks, g1, g2, g3⟩ := map_ex (f := T.agg) (g := Ob.t) (P := Wd) tss fun x hx => h3 x hx
          exact ⟨ks, by rw [h1, g1], by omega, g3⟩
      refine (At.struct (sz := 5) Try.underlying33 (by kernel_rfl) (From.more (sz := 1) rfl (by kernel_rfl) (At.int Try.underlying3) (From.more (sz := 1) rfl (by kernel_rfl) (At.int Try.underlying3) (From.more (sz := 1) rfl (by kernel_rfl) (At.string Try.underlying9) (From.more (sz := 1) rfl (by kernel_rfl) (at30 n) (From.last (sz := 1) rfl (by kernel_rfl) h31)))))).mono fun ts hts => ?_
      obtain ⟨_, _, rfl, ⟨k, rfl, _⟩, _, _, rfl, ⟨m, rfl, _⟩, _, _, rfl, ⟨s, rfl, hs⟩, _, _, rfl, ⟨ks, rfl, hk1, hk2⟩, kids, rfl, hl1, hl2⟩ := hts
      exact ⟨.mk k m s ks kids, .mk _ _ _ _ _ hs hk1 hk2 hl1 hl2, by rw [Ob.t_mk]; rfl⟩
set_option maxRecDepth 10000 in
/-- A tree that came in. -/
theorem open_obj {v : Value} {d : DataW H} {ps : List MemPlace} {r : Reach} {b : Nat} (hv : Value.okWide Try.prog W r b 33 v) (h : DataW.Trod enc Try.prog W 0 sp hd 33 v d ps) : ∃ o : Ob, Wd o ∧ Hold (All W) o.t v := by
  obtain ⟨cs, rfl, hsz⟩ := WideShapes.okWide_struct Try.underlying33 hv
  obtain ⟨n, hn⟩ := h
  obtain ⟨ts, hH, o, ho, e⟩ := at33 n _ _ hn
  refine ⟨o, ho, ?_⟩
  rw [e]
  exact .agg ts cs.toList hH.1 hH.2.1 hH.2.2
end
end Go.Proofs.Ytbmdncjnnlajnaa.M

/- A document that comes in: what an argument of the laws' Doc reads as is a document, held by its cells. No condition. -/
namespace Go.Proofs.Ytbmdncjnnlajnaa.M
open Go
section
variable {H : Type} {enc : TypeId × Value → H} {sp : Nat → Bool} {hd : Bool} {W : World}
set_option maxRecDepth 100000 in
theorem at112 (n : Nat) : At enc sp hd W n 112 (fun ts => ∃ x : It, (Wd x.o ∧ x.data.size ≤ 9223372036854775807) ∧ x.t = .agg ts) := by
  cases n with
  | zero => exact At.zero
  | succ n =>
    refine (At.struct (sz := 8) Try.underlying112 (by kernel_rfl) (From.more (sz := 1) rfl (by kernel_rfl) (At.int Try.underlying3) (From.more (sz := 5) rfl (by kernel_rfl) (at33 n) (From.more (sz := 1) rfl (by kernel_rfl) (At.bool Try.underlying4) (From.last (sz := 1) rfl (by kernel_rfl) (At.string Try.underlying9)))))).mono fun ts hts => ?_
    obtain ⟨_, _, rfl, ⟨k, rfl, _⟩, _, _, rfl, ⟨o, ho, e⟩, _, _, rfl, ⟨b, rfl⟩, s, rfl, hs⟩ := hts
    obtain ⟨ok, on, os, oks, okids⟩ := o
    rw [Ob.t_mk] at e
    cases e
    exact ⟨⟨k, ok, on, os, oks, okids, b, s⟩, ⟨ho, hs⟩, rfl⟩
theorem at46 (n : Nat) : At enc sp hd W n 46 (fun ts => ∃ a : List It, ts = [.list 8 (a.map It.t)] ∧ a.length ≤ 9223372036854775807 ∧ ∀ x ∈ a, Wd x.o ∧ x.data.size ≤ 9223372036854775807) := by
  cases n with
  | zero => exact At.zero
  | succ n =>
    refine (At.slice (sz := 8) T.agg Try.underlying46 (by kernel_rfl) (at112 n) fun ts ⟨x, _, hx⟩ => ⟨rfl, by cases hx; rfl⟩).mono fun ts ⟨tss, h1, h2, h3⟩ => ?_
    obtain ⟨ks, g1, g2, g3⟩ := map_ex (f := T.agg) (g := It.t) (P := fun x => Wd x.o ∧ x.data.size ≤ 9223372036854775807) tss fun x hx => h3 x hx
    exact ⟨ks, by rw [h1, g1], by omega, g3⟩
set_option maxRecDepth 100000 in
/-- A document that came in. -/
theorem open_doc {v : Value} {d : DataW H} {ps : List MemPlace} {r : Reach} {b : Nat} (hv : Value.okWide Try.prog W r b 48 v) (h : DataW.Trod enc Try.prog W 0 sp hd 48 v d ps) :
    ∃ (a : List It) (root : Int), a.length ≤ 9223372036854775807 ∧ (∀ x ∈ a, Wd x.o ∧ x.data.size ≤ 9223372036854775807) ∧ Hold (All W) (docT a root) v := by
  obtain ⟨cs, rfl, hsz⟩ := WideShapes.okWide_struct Try.underlying48 hv
  obtain ⟨n, hn⟩ := h
  cases n with
  | zero => simp [DataW.trod] at hn
  | succ n =>
    have key : At enc sp hd W (n + 1) 48 _ := At.struct (sz := 2) Try.underlying48 (by kernel_rfl) (From.more (sz := 1) rfl (by kernel_rfl) (at46 n) (From.last (sz := 1) rfl (by kernel_rfl) (At.int Try.underlying3)))
    obtain ⟨ts, hH, _, _, rfl, ⟨a, rfl, ha1, ha2⟩, root, rfl, _⟩ := key _ _ hn
    exact ⟨a, root, ha1, ha2, .agg _ cs.toList hH.1 hH.2.1 hH.2.2⟩
end
end Go.Proofs.Ytbmdncjnnlajnaa.M

/- FnExactDocOk: for all documents, right or not, the program's DocOk and the reference's answer alike, and the argument stays as it was. No condition. -/
namespace Go.Proofs.Ytbmdncjnnlajnaa.fnExactDocOk
open Go.ChangeShapes Go.WideShapes Go.ChangeAt Go.RowKit
set_option linter.unusedVariables false
set_option maxRecDepth 100000 in
theorem lifted (os : Os) (started : os.Started) (H : Type) (enc : TypeId × Value → H) :
    ReturnsInHanded {} Try.checked os 8 .any (Rows.fnExactDocOkSpec.pre6 enc Try.prog Try.f8 Rows.fnExactDocOkRow.domain false) (Rows.fnExactDocOkSpec.post enc Try.prog Try.f8 false true false false) := by
  refine returnsInHanded_of_change_sized (C := Try.checked) Lift.own started (by kernel_rfl) Try.func8
    (ChangeSpec.witness6 (enc := enc) (C := Try.checked) false ⟨#[], #[.agg #[.slice none 0 0, .int .i64 0]], []⟩ 8 (by kernel_rfl) (by kernel_rfl) (by kernel_rfl) (by kernel_rfl)) ?_
  intro W base args ds gs before hval0 hW hcnd hsz0 _
  have hval : ∀ (j : Nat) t v, Try.f8.params[j]? = some t → args[j]? = some v → Value.okWide Try.prog W .any base t v := hval0
  have hW' := hW
  obtain ⟨p, q, hA0, hV, rfl, hfz, hnd⟩ := hW
  have hA : DataW.TrodAll enc Try.prog W 0 (fun _ => true) true Try.f8.params.toList args.toList ds p := hA0
  rw [Try.params8] at hA hval
  obtain ⟨v0, vs0, d0, ds0, p0, q0, hargs, rfl, rfl, h0, r0⟩ := trodAll_cons hA
  obtain ⟨rfl, rfl, rfl⟩ := trodAll_nil r0
  obtain rfl : args = #[v0] := by cases args; simp_all
  obtain ⟨rfl, rfl⟩ := trodVars_none hV
  obtain ⟨a, root, ha1, ha2, hold⟩ := M.open_doc (hval 0 48 v0 rfl rfl) h0
  refine (M.CS.calls Try.func8 rfl rfl rfl (M.c8 a root ha1 ha2) (vals := [v0]) ⟨v0, [], [], [], rfl, rfl, ⟨rfl, hold⟩, rfl, rfl⟩).mono fun e W' ⟨he, bel⟩ => ?_
  subst he
  exact ⟨_, rfl, Lift.close rfl rfl (by decide +kernel) hW' hA0 rfl bel⟩
theorem over : Rows.fnExactDocOkRow.holds Try.pinned (OpenSpec.ofChange Rows.fnExactDocOkSpec) :=
  OpenClaim.holds_of_wide 8 Try.f8 rfl rfl rfl rfl rfl rfl rfl ⟨rfl, rfl, rfl, rfl, rfl⟩ rfl rfl rfl rfl rfl (by kernel_rfl) Try.func8 (by kernel_rfl)
    (of_decide_eq_true (by kernel_rfl)) (by unfold Func.isWrapper; first | (rw [if_pos (by decide +kernel)]; kernel_rfl) | (rw [if_neg (by decide +kernel)]; exact ⟨rfl, rfl⟩))
    (fun os started H enc _ => lifted os started H enc)
end Go.Proofs.Ytbmdncjnnlajnaa.fnExactDocOk
namespace Go.Proofs.Ytbmdncjnnlajnaa
theorem fnExactDocOk_holds : Rows.FnExactDocOkSaid := fnExactDocOk.over
#print axioms fnExactDocOk_holds
end Go.Proofs.Ytbmdncjnnlajnaa
