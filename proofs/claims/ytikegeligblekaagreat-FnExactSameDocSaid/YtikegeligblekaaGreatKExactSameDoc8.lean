/- Contracts for ObjOk, part 1: lists of strings (mdO: no results of one's own). No condition. -/
import Derived.Test.YtikegeligblekaaGreatKExactSameDoc7
/- Contracts for ObjOk, part 1: lists of strings (mdO: no results of one's own). No condition. -/
namespace Go.Proofs.YtikegeligblekaaGreat.M
open Go Go.Proofs
set_option maxRecDepth 100000
set_option maxHeartbeats 2000000
@[go_sem] def mdO : Nat → Md := fun _ => ⟨false, []⟩
attribute [go_sem] List.getD_cons_zero Int.toNat_natCast Nat.zero_add
set_option linter.unusedSimpArgs false
theorem wrap64O {n : Int} (h0 : -9223372036854775808 ≤ n) (h1 : n < 9223372036854775808) : IntKind.wrap .i64 n = n := by
  simp only [IntKind.wrap, IntKind.bits, IntKind.signed]; simp; split <;> omega
theorem fill_set {α β : Type} (f : α → β) (z : β) (a : List α) (i : Nat) (x : α) (hx : a[i]? = some x) :
    ((a.take i).map f ++ List.replicate (a.length - i) z).set i (f x) = (a.take (i + 1)).map f ++ List.replicate (a.length - (i + 1)) z := by
  have hi : i < a.length := (List.getElem?_eq_some_iff.1 hx).1
  obtain ⟨k, hk⟩ : ∃ k, a.length - i = k + 1 := ⟨a.length - i - 1, by omega⟩
  have hk2 : a.length - (i + 1) = k := by omega
  rw [hk, hk2, List.set_append_right _ _ (by simp; omega), List.take_add_one, hx]
  have : i - ((a.take i).map f).length = 0 := by simp; omega
  rw [this, List.replicate_succ, List.set_cons_zero]
  simp
theorem fill_get {α β : Type} (f : α → β) (z : β) (a : List α) (i : Nat) (hi : i < a.length) : ((a.take i).map f ++ List.replicate (a.length - i) z)[i]? = some z := by
  rw [List.getElem?_append_right (by simp; omega)]
  rw [List.getElem?_replicate]
  simp; omega
def strs (l : List ByteArray) : T := .list 1 (l.map T.str)
theorem oc55 (a : List ByteArray) (ha : a.length ≤ 1048576) : CS Tryz.prog false 62 [.v (strs a)] [strs a] [] := by
  refine CS_act tab_ok mdO Tryz.func62 rfl rfl Tryz.ntmps62 (rl := [.tmp 2]) rfl (Nat.le_of_ble_eq_true rfl) ?_
  simp only [go_sem, strs, List.length_map]
  refine ⟨by omega, by omega, by omega, by omega, ?_⟩
  refine act_loop_of (md := mdO) tab_ok [0,3,4] [48] 1000 (ι := {i : Nat // i ≤ a.length}) (fun i => ⟨[(0, .a (.c (.t (.list 1 (a.map T.str))))), (3, .a (.c (.own 48 0 0 a.length))), (4, .a (.c (.t (.int .i64 i.1))))], [(48, .arr 1 ((a.take i.1).map T.str ++ List.replicate (a.length - i.1) (.str ⟨#[]⟩)) 0)], 1000, 22⟩) (fun i => a.length - i.1) ⟨0, by omega⟩ (Nat.le_of_ble_eq_true rfl) (by simp only [go_sem]) (by simp only [go_sem]; simp) fun i => ?_
  obtain ⟨i, hi⟩ := i
  simp only [go_sem, List.length_map]
  refine act_split (fun h => ?_) (fun h => ?_) <;> simp only [go_sem] <;> simp only [decide_eq_true_eq, decide_eq_false_iff_not] at h
  · obtain ⟨x, hx⟩ : ∃ x, a[i]? = some x := ⟨_, List.getElem?_eq_getElem (by omega)⟩
    have hg := fill_get T.str (.str ⟨#[]⟩) a i (by omega)
    simp only [go_sem, List.getElem?_map, hx, List.length_map, hg]
    refine ⟨by omega, by omega, by omega, by omega, ?_⟩
    refine nextK_of ⟨i + 1, by omega⟩ (by simp only [go_sem]) ?_ (by dsimp only; omega)
    simp only [go_sem]
    rw [wrap64O (by omega) (by omega), fill_set T.str _ a i x hx]; rfl
  · have : i = a.length := by omega
    subst this
    simp
    exact List.take_of_length_le (by simp)
end Go.Proofs.YtikegeligblekaaGreat.M

/- Contracts for ObjOk, part 2: the size of lists of strings. No condition. -/
namespace Go.Proofs.YtikegeligblekaaGreat.M
open Go Go.Proofs
set_option maxRecDepth 100000
set_option maxHeartbeats 2000000
set_option linter.unusedSimpArgs false
/-- What is left of a measure, or -1. -/
def szF : Int → List Nat → Int
  | left, [] => left
  | left, n :: r => if left - n < 0 then -1 else szF (left - n) r
theorem oc51 (a : List ByteArray) (left : Int) (h0 : 0 ≤ left) (h1 : left ≤ 1048576) (hl : a.length ≤ 9223372036854775807) (hs : ∀ s ∈ a, s.size ≤ 9223372036854775807) :
    CS Tryz.prog false 56 [.v (strs a), .v (.int .i64 left)] [.int .i64 (szF left (a.length :: a.map (·.size)))] [] := by
  refine CS_act tab_ok mdO Tryz.func56 rfl rfl Tryz.ntmps56 (rl := [.tmp 4]) rfl (Nat.le_of_ble_eq_true rfl) ?_
  simp only [go_sem, strs, List.length_map, wrap64O (n := left - a.length) (by omega) (by omega)]
  refine act_split (fun h => ?_) (fun h => ?_) <;> simp only [go_sem] <;> simp only [decide_eq_true_eq, decide_eq_false_iff_not] at h
  · simp [szF, h]
  refine act_loop_of (md := mdO) tab_ok [0,1,5] [] 1000 (ι := {p : Nat × Int // p.1 ≤ a.length ∧ 0 ≤ p.2 ∧ p.2 ≤ 1048576 ∧ szF p.2 ((a.map (·.size)).drop p.1) = szF (left - a.length) (a.map (·.size))})
    (fun p => ⟨[(0, .a (.c (.t (.list 1 (a.map T.str))))), (1, .a (.c (.t (.int .i64 p.1.2)))), (5, .a (.c (.t (.int .i64 p.1.1))))], [], 1000, 28⟩) (fun p => a.length - p.1.1) ⟨(0, left - a.length), by omega, by omega, by omega, rfl⟩ (Nat.le_of_ble_eq_true rfl) (by simp only [go_sem]) (by simp only [go_sem]; rfl) fun p => ?_
  obtain ⟨⟨i, l⟩, hi, hl0, hl1, hz⟩ := p
  simp only [go_sem, List.length_map]
  refine act_split (fun h2 => ?_) (fun h2 => ?_) <;> simp only [go_sem] <;> simp only [decide_eq_true_eq, decide_eq_false_iff_not] at h2
  · obtain ⟨x, hx⟩ : ∃ x, a[i]? = some x := ⟨_, List.getElem?_eq_getElem (by omega)⟩
    have hxs := hs x (List.mem_of_getElem? hx)
    have hd : (a.map (·.size)).drop i = x.size :: (a.map (·.size)).drop (i + 1) := by
      rw [List.drop_eq_getElem_cons (by simp; omega)]
      have : a[i]'(by omega) = x := by
        rw [List.getElem?_eq_getElem (by omega)] at hx; exact Option.some.inj hx
      simp [this]
    rw [hd, szF] at hz
    simp only [go_sem, List.getElem?_map, hx, List.length_map]
    refine ⟨by omega, by omega, ?_⟩
    rw [wrap64O (n := l - x.size) (by omega) (by omega)]
    refine act_split (fun h3 => ?_) (fun h3 => ?_) <;> simp only [go_sem] <;> simp only [decide_eq_true_eq, decide_eq_false_iff_not] at h3
    · rw [if_pos h3] at hz
      simp only [szF, if_neg h, ← hz]
    · rw [if_neg h3] at hz
      refine nextK_of ⟨(i + 1, l - x.size), by omega, by omega, by omega, hz⟩ (by simp only [go_sem]) ?_ (by dsimp only; omega)
      simp only [go_sem]
      rw [wrap64O (by omega) (by omega)]; rfl
  · have : i = a.length := by omega
    subst this
    rw [List.drop_of_length_le (by simp), szF] at hz
    simp only [szF, if_neg h, ← hz]
end Go.Proofs.YtikegeligblekaaGreat.M

/- Contracts for ObjOk, part 3: a list of strings against itself. No condition. -/
namespace Go.Proofs.YtikegeligblekaaGreat.M
open Go Go.Proofs
set_option maxRecDepth 100000
set_option maxHeartbeats 2000000
set_option linter.unusedSimpArgs false
theorem oc59 (a : List ByteArray) (ha : a.length ≤ 1048576) : CS Tryz.prog false 72 [.v (strs a), .v (strs a)] [.bool true] [] := by
  refine CS_act tab_ok mdO Tryz.func72 rfl rfl Tryz.ntmps72 (rl := [.tmp 4]) rfl (Nat.le_of_ble_eq_true rfl) ?_
  simp only [go_sem, strs, List.length_map, bne_self_eq_false]
  refine act_loop_of (md := mdO) tab_ok [0,1,5] [] 1000 (ι := {i : Nat // i ≤ a.length}) (fun i => ⟨[(0, .a (.c (.t (.list 1 (a.map T.str))))), (1, .a (.c (.t (.list 1 (a.map T.str))))), (5, .a (.c (.t (.int .i64 i.1))))], [], 1000, 26⟩) (fun i => a.length - i.1) ⟨0, by omega⟩ (Nat.le_of_ble_eq_true rfl) (by simp only [go_sem]) (by simp only [go_sem]; rfl) fun i => ?_
  obtain ⟨i, hi⟩ := i
  simp only [go_sem, List.length_map]
  refine act_split (fun h => ?_) (fun h => ?_) <;> simp only [go_sem] <;> simp only [decide_eq_true_eq, decide_eq_false_iff_not] at h
  obtain ⟨x, hx⟩ : ∃ x, a[i]? = some x := ⟨_, List.getElem?_eq_getElem (by omega)⟩
  refine act_draw_of tab_ok mix mdO ?_
  simp only [go_sem, List.getElem?_map, hx, List.length_map, beq_self_eq_true]
  refine ⟨by omega, by omega, by omega, by omega, drawOk_of (by kernel_rfl), ?_⟩
  refine nextK_of ⟨i + 1, by omega⟩ (by simp only [go_sem]) ?_ (by dsimp only; omega)
  simp only [go_sem]
  rw [wrap64O (by omega) (by omega)]; rfl
end Go.Proofs.YtikegeligblekaaGreat.M

/- Contracts for ObjOk, part 4: trees, and their copies. No condition. -/
namespace Go.Proofs.YtikegeligblekaaGreat.M
open Go Go.Proofs
set_option maxRecDepth 100000
set_option maxHeartbeats 2000000
set_option linter.unusedSimpArgs false
inductive Ob where
  | mk (kind num : Int) (text : ByteArray) (keys : List ByteArray) (kids : List Ob)
def Ob.t : Ob → T
  | .mk k n s ks kids => .agg [.int .i64 k, .int .i64 n, .str s, strs ks, .list 5 (kids.map Ob.t)]
def obs (l : List Ob) : T := .list 5 (l.map Ob.t)
theorem oc21 (k n : Int) (s : ByteArray) (ks : List ByteArray) (kids : List Ob) (h1 : ks.length ≤ 1048576) (h : CS Tryz.prog false 63 [.v (obs kids)] [obs kids] []) :
    CS Tryz.prog false 45 [.v (Ob.mk k n s ks kids).t] [(Ob.mk k n s ks kids).t] [] := by
  have e : (Ob.mk k n s ks kids).t = .agg [.int .i64 k, .int .i64 n, .str s, strs ks, obs kids] := by rw [Ob.t]; rfl
  rw [e]
  refine CS_act tab_ok mdO Tryz.func45 rfl rfl Tryz.ntmps45 (rl := [.cell 2 37]) rfl (Nat.le_of_ble_eq_true rfl) ?_
  simp only [go_sem, strs, obs]
  refine act_callE (oc55 ks h1) ?_
  simp only [go_sem, strs, obs]
  refine act_callE h ?_
  simp only [go_sem, strs, obs]
end Go.Proofs.YtikegeligblekaaGreat.M

/- Contracts for ObjOk, part 5: copies of lists of trees. No condition. -/
namespace Go.Proofs.YtikegeligblekaaGreat.M
open Go Go.Proofs
set_option maxRecDepth 100000
set_option maxHeartbeats 2000000
set_option linter.unusedSimpArgs false
theorem Ob.t_mk (k n : Int) (s : ByteArray) (ks : List ByteArray) (kids : List Ob) : (Ob.mk k n s ks kids).t = .agg [.int .i64 k, .int .i64 n, .str s, .list 1 (ks.map T.str), .list 5 (kids.map Ob.t)] := by rw [Ob.t]; rfl
abbrev ob0 : T := .agg [.int .i64 0, .int .i64 0, .str ⟨#[]⟩, .list 1 [], .list 5 []]
theorem oc56 (a : List Ob) (ha : a.length ≤ 1048576) (h : ∀ o ∈ a, CS Tryz.prog false 45 [.v o.t] [o.t] []) : CS Tryz.prog false 63 [.v (obs a)] [obs a] [] := by
  refine CS_act tab_ok mdO Tryz.func63 rfl rfl Tryz.ntmps63 (rl := [.tmp 2]) rfl (Nat.le_of_ble_eq_true rfl) ?_
  simp only [go_sem, obs, List.length_map]
  refine ⟨by omega, by omega, by omega, by omega, ?_⟩
  refine act_loop_of (md := mdO) tab_ok [0,3,4] [48] 1000 (ι := {i : Nat // i ≤ a.length}) (fun i => ⟨[(0, .a (.c (.t (.list 5 (a.map Ob.t))))), (3, .a (.c (.own 48 0 0 a.length))), (4, .a (.c (.t (.int .i64 i.1))))], [(48, .arr 5 ((a.take i.1).map Ob.t ++ List.replicate (a.length - i.1) ob0) 0)], 1000, 23⟩) (fun i => a.length - i.1) ⟨0, by omega⟩ (Nat.le_of_ble_eq_true rfl) (by simp only [go_sem]) (by simp only [go_sem]; simp) fun i => ?_
  obtain ⟨i, hi⟩ := i
  simp only [go_sem, List.length_map]
  refine act_split (fun h2 => ?_) (fun h2 => ?_) <;> simp only [go_sem] <;> simp only [decide_eq_true_eq, decide_eq_false_iff_not] at h2
  · obtain ⟨x, hx⟩ : ∃ x, a[i]? = some x := ⟨_, List.getElem?_eq_getElem (by omega)⟩
    have hc := h x (List.mem_of_getElem? hx)
    have hg := fill_get Ob.t ob0 a i (by omega)
    have hf := fill_set Ob.t ob0 a i x hx
    obtain ⟨k, n, s, ks, kids⟩ := x
    rw [Ob.t_mk] at hc hf
    simp only [go_sem, List.getElem?_map, hx, List.length_map, hg, Ob.t_mk]
    refine ⟨by omega, by omega, ?_⟩
    refine act_callE hc ?_
    simp only [go_sem, List.length_append, List.length_map, hg]
    refine ⟨by omega, by omega, ?_⟩
    refine nextK_of ⟨i + 1, by omega⟩ (by simp only [go_sem]) ?_ (by dsimp only; omega)
    simp only [go_sem]
    rw [wrap64O (by omega) (by omega), hf]; rfl
  · have : i = a.length := by omega
    subst this
    simp
    exact List.take_of_length_le (by simp)
end Go.Proofs.YtikegeligblekaaGreat.M

/- Contracts for ObjOk, part 6: copies of trees. No condition. -/
namespace Go.Proofs.YtikegeligblekaaGreat.M
open Go Go.Proofs
set_option linter.unusedSimpArgs false
/-- A tree whose lists are not long. -/
inductive Sm : Ob → Prop where
  | mk (k n : Int) (s : ByteArray) (ks : List ByteArray) (kids : List Ob) (h1 : ks.length ≤ 1048576) (h2 : kids.length ≤ 1048576) (h3 : ∀ o ∈ kids, Sm o) : Sm (.mk k n s ks kids)
theorem oc21' : ∀ o : Ob, Sm o → CS Tryz.prog false 45 [.v o.t] [o.t] []
  | .mk k n s ks kids, h => by
    cases h with
    | mk _ _ _ _ _ h1 h2 h3 => exact oc21 k n s ks kids h1 (oc56 kids h2 fun o ho => oc21' o (h3 o ho))
  decreasing_by
  have := List.sizeOf_lt_of_mem ho
  simp only [Ob.mk.sizeOf_spec]
  omega
end Go.Proofs.YtikegeligblekaaGreat.M

/- Contracts for ObjOk, part 7: a tree against itself. No condition. -/
namespace Go.Proofs.YtikegeligblekaaGreat.M
open Go Go.Proofs
set_option maxRecDepth 100000
set_option maxHeartbeats 2000000
set_option linter.unusedSimpArgs false
theorem oc23 (k n : Int) (s : ByteArray) (ks : List ByteArray) (kids : List Ob) (h1 : ks.length ≤ 1048576) (h : CS Tryz.prog false 73 [.v (obs kids), .v (obs kids)] [.bool true] []) :
    CS Tryz.prog false 55 [.v (Ob.mk k n s ks kids).t, .v (Ob.mk k n s ks kids).t] [.bool true] [] := by
  rw [Ob.t_mk]
  refine CS_act tab_ok mdO Tryz.func55 rfl rfl Tryz.ntmps55 (rl := [.tmp 4]) rfl (Nat.le_of_ble_eq_true rfl) ?_
  simp only [go_sem, bne_self_eq_false, beq_self_eq_true]
  refine act_callE (oc59 ks h1) ?_
  simp only [go_sem]
  refine act_callE h ?_
  simp only [go_sem]
end Go.Proofs.YtikegeligblekaaGreat.M

/- Contracts for ObjOk, part 8: lists of trees against themselves. No condition. -/
namespace Go.Proofs.YtikegeligblekaaGreat.M
open Go Go.Proofs
set_option maxRecDepth 100000
set_option maxHeartbeats 2000000
set_option linter.unusedSimpArgs false
theorem oc60 (a : List Ob) (ha : a.length ≤ 1048576) (hh : ∀ o ∈ a, CS Tryz.prog false 55 [.v o.t, .v o.t] [.bool true] []) : CS Tryz.prog false 73 [.v (obs a), .v (obs a)] [.bool true] [] := by
  refine CS_act tab_ok mdO Tryz.func73 rfl rfl Tryz.ntmps73 (rl := [.tmp 4]) rfl (Nat.le_of_ble_eq_true rfl) ?_
  simp only [go_sem, obs, List.length_map, bne_self_eq_false]
  refine act_loop_of (md := mdO) tab_ok [0,1,5] [] 1000 (ι := {i : Nat // i ≤ a.length}) (fun i => ⟨[(0, .a (.c (.t (.list 5 (a.map Ob.t))))), (1, .a (.c (.t (.list 5 (a.map Ob.t))))), (5, .a (.c (.t (.int .i64 i.1))))], [], 1000, 27⟩) (fun i => a.length - i.1) ⟨0, by omega⟩ (Nat.le_of_ble_eq_true rfl) (by simp only [go_sem]) (by simp only [go_sem]; rfl) fun i => ?_
  obtain ⟨i, hi⟩ := i
  simp only [go_sem, List.length_map]
  refine act_split (fun h => ?_) (fun h => ?_) <;> simp only [go_sem] <;> simp only [decide_eq_true_eq, decide_eq_false_iff_not] at h
  obtain ⟨x, hx⟩ : ∃ x, a[i]? = some x := ⟨_, List.getElem?_eq_getElem (by omega)⟩
  have hc := hh x (List.mem_of_getElem? hx)
  obtain ⟨k, n, s, ks, kids⟩ := x
  rw [Ob.t_mk] at hc
  refine act_draw_of tab_ok mix mdO ?_
  simp only [go_sem, List.getElem?_map, hx, List.length_map, Ob.t_mk]
  refine ⟨by omega, by omega, by omega, by omega, ?_⟩
  refine act_callE hc ?_
  simp only [go_sem]
  refine ⟨drawOk_of (by kernel_rfl), ?_⟩
  refine nextK_of ⟨i + 1, by omega⟩ (by simp only [go_sem]) ?_ (by dsimp only; omega)
  simp only [go_sem]
  rw [wrap64O (by omega) (by omega)]; rfl
theorem oc23' : ∀ o : Ob, Sm o → CS Tryz.prog false 55 [.v o.t, .v o.t] [.bool true] []
  | .mk k n s ks kids, h => by
    cases h with
    | mk _ _ _ _ _ h1 h2 h3 => exact oc23 k n s ks kids h1 (oc60 kids h2 fun o ho => oc23' o (h3 o ho))
  decreasing_by
  have := List.sizeOf_lt_of_mem ho
  simp only [Ob.mk.sizeOf_spec]
  omega
end Go.Proofs.YtikegeligblekaaGreat.M

/- Contracts for ObjOk, part 9: the size of trees. No condition. -/
namespace Go.Proofs.YtikegeligblekaaGreat.M
open Go Go.Proofs
set_option maxRecDepth 100000
set_option maxHeartbeats 2000000
set_option linter.unusedSimpArgs false
mutual
def szO : Ob → Int → Int
  | .mk _ _ s ks kids, left => if left - s.size < 0 then -1 else if szF (left - s.size) (ks.length :: ks.map (·.size)) < 0 then -1 else
    if szF (left - s.size) (ks.length :: ks.map (·.size)) - kids.length < 0 then -1 else szL kids (szF (left - s.size) (ks.length :: ks.map (·.size)) - kids.length)
def szL : List Ob → Int → Int
  | [], left => left
  | o :: r, left => if szO o left < 0 then -1 else szL r (szO o left)
end
theorem szF_le : ∀ (l : List Nat) (left : Int), 0 ≤ left → szF left l ≤ left
  | [], left, _ => by simp [szF]
  | n :: r, left, h => by
    rw [szF]
    split
    · omega
    · have := szF_le r (left - n) (by omega); omega
def szS (l : List Ob) (left : Int) : Int := if left - l.length < 0 then -1 else szL l (left - l.length)
theorem szO_mk (k n : Int) (s : ByteArray) (ks : List ByteArray) (kids : List Ob) (left : Int) : szO (.mk k n s ks kids) left = if left - s.size < 0 then -1 else if szF (left - s.size) (ks.length :: ks.map (·.size)) < 0 then -1 else szS kids (szF (left - s.size) (ks.length :: ks.map (·.size))) := by rw [szO, szS]
theorem szL_neg : ∀ (l : List Ob) (left : Int), 0 ≤ left → szL l left = -1 ∨ 0 ≤ szL l left
  | [], left, h => by rw [szL]; exact .inr h
  | o :: r, left, h => by
    rw [szL]
    split
    · exact .inl rfl
    · exact szL_neg r _ (by omega)
theorem szS_neg (l : List Ob) (left : Int) (h : szS l left < 0) : szS l left = -1 := by
  unfold szS at h ⊢
  split
  · rfl
  · rename_i h2
    rw [if_neg h2] at h
    rcases szL_neg l (left - l.length) (by omega) with h3 | h3
    · exact h3
    · omega
theorem oc19 (k n : Int) (s : ByteArray) (ks : List ByteArray) (kids : List Ob) (left : Int) (h0 : 0 ≤ left) (h1 : left ≤ 1048576) (hs : s.size ≤ 9223372036854775807) (hl : ks.length ≤ 9223372036854775807) (hk : ∀ s ∈ ks, s.size ≤ 9223372036854775807)
    (h : ∀ l : Int, 0 ≤ l → l ≤ 1048576 → CS Tryz.prog false 57 [.v (obs kids), .v (.int .i64 l)] [.int .i64 (szS kids l)] []) :
    CS Tryz.prog false 38 [.v (Ob.mk k n s ks kids).t, .v (.int .i64 left)] [.int .i64 (szO (.mk k n s ks kids) left)] [] := by
  rw [Ob.t_mk, szO_mk]
  refine CS_act tab_ok mdO Tryz.func38 rfl rfl Tryz.ntmps38 (rl := [.tmp 4]) rfl (Nat.le_of_ble_eq_true rfl) ?_
  simp only [go_sem, wrap64O (n := left - s.size) (by omega) (by omega)]
  refine act_split (fun h2 => ?_) (fun h2 => ?_) <;> simp only [go_sem] <;> simp only [decide_eq_true_eq, decide_eq_false_iff_not] at h2
  · rw [if_pos h2]
  rw [if_neg h2]
  have hle := szF_le (ks.length :: ks.map (·.size)) (left - s.size) (by omega)
  refine act_callE (oc51 ks _ (by omega) (by omega) hl hk) ?_
  simp only [go_sem]
  refine act_split (fun h3 => ?_) (fun h3 => ?_) <;> simp only [go_sem] <;> simp only [decide_eq_true_eq, decide_eq_false_iff_not] at h3
  · rw [if_pos h3]
  rw [if_neg h3]
  refine act_callE (h _ (by omega) (by omega)) ?_
  simp only [go_sem]
  refine act_split (fun h4 => ?_) (fun h4 => ?_) <;> simp only [go_sem] <;> simp only [decide_eq_true_eq, decide_eq_false_iff_not] at h4
  rw [szS_neg _ _ h4]
end Go.Proofs.YtikegeligblekaaGreat.M

/- Contracts for ObjOk, part 10: the size of lists of trees. No condition. -/
namespace Go.Proofs.YtikegeligblekaaGreat.M
open Go Go.Proofs
set_option maxRecDepth 100000
set_option maxHeartbeats 2000000
set_option linter.unusedSimpArgs false
theorem szO_le : ∀ (l : List Ob) (left : Int), 0 ≤ left → (∀ o ∈ l, ∀ x : Int, 0 ≤ x → szO o x ≤ x) → szL l left ≤ left
  | [], left, h, _ => by rw [szL]; omega
  | o :: r, left, h, ho => by
    rw [szL]
    split
    · omega
    · have h1 := ho o (by simp) left h
      have := szO_le r (szO o left) (by omega) fun o' h' => ho o' (by simp [h'])
      omega
theorem oc52 (a : List Ob) (left : Int) (h0 : 0 ≤ left) (h1 : left ≤ 1048576) (hl : a.length ≤ 9223372036854775807) (hle : ∀ o ∈ a, ∀ x : Int, 0 ≤ x → szO o x ≤ x)
    (hh : ∀ o ∈ a, ∀ x : Int, 0 ≤ x → x ≤ 1048576 → CS Tryz.prog false 38 [.v o.t, .v (.int .i64 x)] [.int .i64 (szO o x)] []) :
    CS Tryz.prog false 57 [.v (obs a), .v (.int .i64 left)] [.int .i64 (szS a left)] [] := by
  refine CS_act tab_ok mdO Tryz.func57 rfl rfl Tryz.ntmps57 (rl := [.tmp 4]) rfl (Nat.le_of_ble_eq_true rfl) ?_
  simp only [go_sem, obs, List.length_map, wrap64O (n := left - a.length) (by omega) (by omega)]
  refine act_split (fun h => ?_) (fun h => ?_) <;> simp only [go_sem] <;> simp only [decide_eq_true_eq, decide_eq_false_iff_not] at h
  · simp [szS, h]
  refine act_loop_of (md := mdO) tab_ok [0,1,5] [] 1000 (ι := {p : Nat × Int // p.1 ≤ a.length ∧ 0 ≤ p.2 ∧ p.2 ≤ 1048576 ∧ szL (a.drop p.1) p.2 = szS a left})
    (fun p => ⟨[(0, .a (.c (.t (.list 5 (a.map Ob.t))))), (1, .a (.c (.t (.int .i64 p.1.2)))), (5, .a (.c (.t (.int .i64 p.1.1))))], [], 1000, 27⟩) (fun p => a.length - p.1.1) ⟨(0, left - a.length), by omega, by omega, by omega, by simp [szS, h]⟩ (Nat.le_of_ble_eq_true rfl) (by simp only [go_sem]) (by simp only [go_sem]; rfl) fun p => ?_
  obtain ⟨⟨i, l⟩, hi, hl0, hl1, hz⟩ := p
  simp only [go_sem, List.length_map]
  refine act_split (fun h2 => ?_) (fun h2 => ?_) <;> simp only [go_sem] <;> simp only [decide_eq_true_eq, decide_eq_false_iff_not] at h2
  · obtain ⟨x, hx⟩ : ∃ x, a[i]? = some x := ⟨_, List.getElem?_eq_getElem (by omega)⟩
    have hc := hh x (List.mem_of_getElem? hx) l hl0 hl1
    have hxl := hle x (List.mem_of_getElem? hx) l hl0
    have hd : a.drop i = x :: a.drop (i + 1) := by
      rw [List.drop_eq_getElem_cons (by omega)]
      rw [List.getElem?_eq_getElem (by omega)] at hx; rw [Option.some.inj hx]
    dsimp only at hz
    rw [hd, szL] at hz
    generalize szO x l = y at hc hxl hz
    obtain ⟨k, n, s, ks, kids⟩ := x
    rw [Ob.t_mk] at hc
    simp only [go_sem, List.getElem?_map, hx, List.length_map, Ob.t_mk]
    refine ⟨by omega, by omega, ?_⟩
    refine act_callE hc ?_
    simp only [go_sem]
    refine act_split (fun h3 => ?_) (fun h3 => ?_) <;> simp only [go_sem] <;> simp only [decide_eq_true_eq, decide_eq_false_iff_not] at h3
    · rw [if_pos h3] at hz
      rw [← hz]
    · rw [if_neg h3] at hz
      refine nextK_of ⟨(i + 1, y), by omega, by omega, by omega, hz⟩ (by simp only [go_sem]) ?_ (by dsimp only; omega)
      simp only [go_sem]
      rw [wrap64O (by omega) (by omega)]; rfl
  · have : i = a.length := by omega
    subst this
    dsimp only at hz
    rw [List.drop_length, szL] at hz
    rw [← hz]
end Go.Proofs.YtikegeligblekaaGreat.M

/- Contracts: WordOk and what it calls (results as views). No condition. -/
namespace Go.Proofs.YtikegeligblekaaGreat.M
open Go Go.Proofs
set_option maxRecDepth 100000
set_option maxHeartbeats 2000000
set_option linter.unusedSimpArgs false
attribute [go_sem] beq_false
theorem act_split_notO {c : Bool} {A B : Prop} {a : Shut A} {b : Shut B} (h1 : c = false → act A) (h2 : c = true → act B) : act (brK (!c) A B a b) :=
  ⟨fun h => h1 (by simpa using h), fun h => h2 (by simpa using h)⟩
def inBO (x l m : Int) : Bool := decide (x ≥ l) && decide (x ≤ m)
theorem oc44 (x l m : Int) : CS Tryz.prog false 20 [.v (.int .i64 x), .v (.int .i64 l), .v (.int .i64 m)] [.bool (inBO x l m)] [] := by
  refine CS_act tab_ok mdO Tryz.func20 rfl rfl Tryz.ntmps20 (rl := [.tmp 6]) rfl (Nat.le_of_ble_eq_true rfl) ?_
  simp only [go_sem]
  refine act_split (fun h => ?_) (fun h => ?_) <;> simp only [go_sem, h, inBO]
theorem oc45 (x l m : Int) : CS Tryz.prog false 46 [.v (.int .i64 x), .v (.int .i64 l), .v (.int .i64 m)] [.bool (inBO x l m)] [] := by
  refine CS_act tab_ok mdO Tryz.func46 rfl rfl Tryz.ntmps46 (rl := [.tmp 6]) rfl (Nat.le_of_ble_eq_true rfl) ?_
  simp only [go_sem]
  refine act_split (fun h => ?_) (fun h => ?_) <;> simp only [go_sem, h, inBO]
  all_goals simp_all [inBO]
def markB (x : Int) : Bool := x == 40 || x == 41 || x == 60 || x == 62 || x == 91 || x == 93 || x == 123 || x == 125 || x == 47 || x == 37
theorem oc90 (x : Int) : CS Tryz.prog false 85 [.v (.int .u8 x)] [.bool (markB x)] [] := by
  refine CS_act tab_ok mdO Tryz.func85 rfl rfl Tryz.ntmps85 (rl := [.tmp 2]) rfl (Nat.le_of_ble_eq_true rfl) ?_
  simp only [go_sem]
  repeat' (first | (refine act_split_notO (fun h => ?_) (fun h => ?_) <;> simp only [go_sem, h]) | (refine act_split (fun h => ?_) (fun h => ?_) <;> simp only [go_sem, h]))
  all_goals simp_all [markB]
theorem oc116 (s : ByteArray) (c : Int) : CS Tryz.prog false 134 [.v (.str s), .v (.int .u8 c)] [.int .i64 (Lib.indexByte s.data.toList c.toNat.toUInt8)] [] :=
  CS_indexByteString Tryz.func134 (by kernel_rfl) (by kernel_rfl) (by kernel_rfl) (by kernel_rfl) s c
theorem oc110 (s : ByteArray) (c : Int) : CS Tryz.prog false 124 [.v (.str s), .v (.int .u8 c)] [.int .i64 (Lib.indexByte s.data.toList c.toNat.toUInt8)] [] := by
  refine CS_act tab_ok mdO Tryz.func124 rfl rfl Tryz.ntmps124 (rl := [.tmp 4]) rfl (Nat.le_of_ble_eq_true rfl) ?_
  simp only [go_sem]
  refine act_callE (oc116 _ _) ?_
  simp only [go_sem]
theorem oc91 (s : ByteArray) (c : Int) : CS Tryz.prog false 114 [.v (.str s), .v (.int .u8 c)] [.int .i64 (Lib.indexByte s.data.toList c.toNat.toUInt8)] [] := by
  refine CS_act tab_ok mdO Tryz.func114 rfl rfl Tryz.ntmps114 (rl := [.tmp 4]) rfl (Nat.le_of_ble_eq_true rfl) ?_
  simp only [go_sem]
  refine act_callE (oc110 _ _) ?_
  simp only [go_sem]
def plainB (x : Int) : Bool := inBO x 33 126 && !markB x
theorem oc49 (x : Int) : CS Tryz.prog false 74 [.v (.int .u8 x)] [.bool (plainB x)] [] := by
  refine CS_act tab_ok mdO Tryz.func74 rfl rfl Tryz.ntmps74 (rl := [.tmp 2]) rfl (Nat.le_of_ble_eq_true rfl) ?_
  simp only [go_sem]
  refine act_split (fun h => ?_) (fun h => ?_) <;> simp only [go_sem, h]
  · refine act_split (fun h2 => ?_) (fun h2 => ?_) <;> simp only [go_sem, h2]
    · refine act_callE (oc90 _) ?_
      simp only [go_sem]
      simp_all [plainB, inBO]
    · simp_all [plainB, inBO]; intros; omega
  · simp_all [plainB, inBO]; intros; omega
theorem mark_eq (x : Int) (h0 : 0 ≤ x) (h1 : x < 256) : decide (Lib.indexByte [40, 41, 60, 62, 91, 93, 123, 125, 47, 37] x.toNat.toUInt8 < 0) = !markB x := by
  obtain ⟨n, rfl⟩ : ∃ n : Nat, x = n := ⟨x.toNat, by omega⟩
  have hn : n < 256 := by omega
  have key : ∀ m : Fin 256, decide (Lib.indexByte [40, 41, 60, 62, 91, 93, 123, 125, 47, 37] (m.val : Int).toNat.toUInt8 < 0) = !markB (m.val : Int) := by decide +kernel
  exact key ⟨n, hn⟩
theorem oc50 (x : Int) (h0 : 0 ≤ x) (h1 : x < 256) : CS Tryz.prog false 107 [.v (.int .u8 x)] [.bool (plainB x)] [] := by
  refine CS_act tab_ok mdO Tryz.func107 rfl rfl Tryz.ntmps107 (rl := [.tmp 2]) rfl (Nat.le_of_ble_eq_true rfl) ?_
  simp only [go_sem, wrap64O (n := x) (by omega) (by omega)]
  refine act_callE (oc45 _ _ _) ?_
  simp only [go_sem]
  refine act_split (fun h => ?_) (fun h => ?_) <;> simp only [go_sem, h]
  · refine act_callE (oc91 _ _) ?_
    simp only [go_sem]
    have := mark_eq x h0 h1
    simp_all [plainB]
  · simp_all [plainB]
attribute [go_sem] Bool.not_not
def bt (s : ByteArray) (j : Nat) : Int := ((s.data.getD j 0).toNat : Int)
theorem bt_lt (s : ByteArray) (j : Nat) : 0 ≤ bt s j ∧ bt s j < 256 := by
  unfold bt; have := (s.data.getD j 0).toNat_lt; omega
def okB (x : Int) : Bool := plainB x && !(x == 35)
def wordB (s : ByteArray) : Bool := inBO s.size 1 40 && (List.range s.size).all fun j => okB (bt s j)
theorem wordB_no {s : ByteArray} {i : Nat} (hi : i < s.size) (h : okB (bt s i) = false) : wordB s = false := by
  unfold wordB
  rw [Bool.and_eq_false_iff]
  right
  rw [List.all_eq_false]
  exact ⟨i, List.mem_range.2 hi, by simp [h]⟩
theorem wordB_yes {s : ByteArray} (h : ∀ j, j < s.size → okB (bt s j) = true) : wordB s = inBO s.size 1 40 := by
  unfold wordB
  rw [List.all_eq_true.2 fun j hj => h j (List.mem_range.1 hj), Bool.and_true]
theorem wordB_long {s : ByteArray} (h : 40 < s.size) : wordB s = inBO s.size 1 40 := by
  have : inBO s.size 1 40 = false := by simp [inBO]; omega
  unfold wordB
  rw [this, Bool.false_and]
theorem oc18 (s : ByteArray) (hs : s.size ≤ 1048576) : CS Tryz.prog false 98 [.v (.str s)] [.bool (wordB s)] [] := by
  refine CS_act tab_ok mdO Tryz.func98 rfl rfl Tryz.ntmps98 (rl := [.tmp 2]) rfl (Nat.le_of_ble_eq_true rfl) ?_
  simp only [go_sem]
  refine act_loop_of (md := mdO) tab_ok [0,5,6] [] 1000 (ι := {i : Nat // i ≤ s.size ∧ ∀ j, j < i → okB (bt s j) = true}) (fun i => ⟨[(0, .a (.c (.t (.str s)))), (5, .a (.c (.t (.int .i64 s.size)))), (6, .a (.c (.t (.int .i64 i.1))))], [], 1000, 24⟩) (fun i => s.size - i.1) ⟨0, by omega, by simp⟩ (Nat.le_of_ble_eq_true rfl) (by simp only [go_sem]) (by simp only [go_sem]; rfl) fun i => ?_
  obtain ⟨i, hi, ht⟩ := i
  have hb := bt_lt s i
  simp only [go_sem]
  refine act_split (fun h => ?_) (fun h => ?_) <;> simp only [go_sem] <;> simp only [decide_eq_true_eq, decide_eq_false_iff_not] at h
  · refine ⟨by omega, by omega, ?_⟩
    have e : ((s.data.getD i 0).toNat : Int) = bt s i := rfl
    simp only [e]
    refine act_callE (oc50 _ hb.1 hb.2) ?_
    simp only [go_sem, e]
    refine act_split (fun h2 => ?_) (fun h2 => ?_) <;> simp only [go_sem, h2, e]
    · refine ⟨by omega, by omega, ?_⟩
      refine act_split (fun h3 => ?_) (fun h3 => ?_) <;> simp only [go_sem]
      · rw [wordB_no (i := i) (by omega) (by simp [okB, h3])]
      · refine nextK_of ⟨i + 1, by omega, fun j hj => ?_⟩ (by simp only [go_sem]) ?_ (by dsimp only; omega)
        · rcases Nat.lt_succ_iff_lt_or_eq.1 hj with hj | rfl
          · exact ht j hj
          · simp [okB, h2, h3]
        · simp only [go_sem]
          rw [wrap64O (by omega) (by omega)]; rfl
    · rw [wordB_no (i := i) (by omega) (by simp [okB, h2])]
  · refine act_callE (oc45 _ _ _) ?_
    simp only [go_sem]
    rw [wordB_yes fun j hj => ht j (by omega)]
theorem oc17 (s : ByteArray) (hs : s.size ≤ 1048576) : CS Tryz.prog false 58 [.v (.str s)] [.bool (wordB s)] [] := by
  refine CS_act tab_ok mdO Tryz.func58 rfl rfl Tryz.ntmps58 (rl := [.tmp 2]) rfl (Nat.le_of_ble_eq_true rfl) ?_
  simp only [go_sem]
  refine act_loop_of (md := mdO) tab_ok [0,3] [] 1000 (ι := {i : Nat // i ≤ s.size ∧ ∀ j, j < i → okB (bt s j) = true}) (fun i => ⟨[(0, .a (.c (.t (.str s)))), (3, .a (.c (.t (.int .i64 i.1))))], [], 1000, 29⟩) (fun i => s.size - i.1) ⟨0, by omega, by simp⟩ (Nat.le_of_ble_eq_true rfl) (by simp only [go_sem]) (by simp only [go_sem]; rfl) fun i => ?_
  obtain ⟨i, hi, ht⟩ := i
  have hb := bt_lt s i
  have e : ((s.data.getD i 0).toNat : Int) = bt s i := rfl
  simp only [go_sem]
  refine act_split (fun h => ?_) (fun h => ?_) <;> simp only [go_sem, h] <;> simp only [decide_eq_true_eq, decide_eq_false_iff_not] at h
  · refine act_split (fun h1 => ?_) (fun h1 => ?_) <;> simp only [go_sem, h1] <;> simp only [decide_eq_true_eq, decide_eq_false_iff_not] at h1
    · refine ⟨by omega, by omega, ?_⟩
      simp only [e]
      refine act_callE (oc49 _) ?_
      simp only [go_sem, e]
      refine act_split (fun h2 => ?_) (fun h2 => ?_) <;> simp only [go_sem, h2, e]
      · refine ⟨by omega, by omega, ?_⟩
        refine act_split (fun h3 => ?_) (fun h3 => ?_) <;> simp only [go_sem]
        · rw [wordB_no (i := i) (by omega) (by simp [okB, h3])]
        · refine nextK_of ⟨i + 1, by omega, fun j hj => ?_⟩ (by simp only [go_sem]) ?_ (by dsimp only; omega)
          · rcases Nat.lt_succ_iff_lt_or_eq.1 hj with hj | rfl
            · exact ht j hj
            · simp [okB, h2, h3]
          · simp only [go_sem]
            rw [wrap64O (by omega) (by omega)]; rfl
      · rw [wordB_no (i := i) (by omega) (by simp [okB, h2])]
    · refine act_callE (oc44 _ _ _) ?_
      simp only [go_sem]
      rw [wordB_long (by omega)]
  · refine act_callE (oc44 _ _ _) ?_
    simp only [go_sem]
    rw [wordB_yes fun j hj => ht j (by omega)]
end Go.Proofs.YtikegeligblekaaGreat.M

/- Contracts for ObjOk: the size of trees, tied. No condition. -/
namespace Go.Proofs.YtikegeligblekaaGreat.M
open Go Go.Proofs
set_option linter.unusedSimpArgs false
/-- A tree whose lists and strings are not wider than any machine's. -/
inductive Wd : Ob → Prop where
  | mk (k n : Int) (s : ByteArray) (ks : List ByteArray) (kids : List Ob) (h0 : s.size ≤ 9223372036854775807) (h1 : ks.length ≤ 9223372036854775807) (h2 : ∀ s ∈ ks, s.size ≤ 9223372036854775807)
      (h3 : kids.length ≤ 9223372036854775807) (h4 : ∀ o ∈ kids, Wd o) : Wd (.mk k n s ks kids)
theorem szO_le' : ∀ (o : Ob) (x : Int), 0 ≤ x → szO o x ≤ x
  | .mk k n s ks kids, x, h => by
    rw [szO_mk]
    split
    · omega
    · have h1 := szF_le (ks.length :: ks.map (·.size)) (x - s.size) (by omega)
      split
      · omega
      · rw [szS]
        split
        · omega
        · have := szO_le kids (szF (x - s.size) (ks.length :: ks.map (·.size)) - kids.length) (by omega) fun o ho => szO_le' o
          omega
  decreasing_by
  have := List.sizeOf_lt_of_mem ho
  simp only [Ob.mk.sizeOf_spec]
  omega
theorem oc19' (o : Ob) (h : Wd o) : ∀ left : Int, 0 ≤ left → left ≤ 1048576 → CS Tryz.prog false 38 [.v o.t, .v (.int .i64 left)] [.int .i64 (szO o left)] [] := by
  match o, h with
  | .mk k n s ks kids, h =>
    have hk : s.size ≤ 9223372036854775807 ∧ ks.length ≤ 9223372036854775807 ∧ (∀ s ∈ ks, s.size ≤ 9223372036854775807) ∧ kids.length ≤ 9223372036854775807 ∧ ∀ o ∈ kids, Wd o := by
      cases h; exact ⟨by assumption, by assumption, by assumption, by assumption, by assumption⟩
    have hr : ∀ o ∈ kids, ∀ left : Int, 0 ≤ left → left ≤ 1048576 → CS Tryz.prog false 38 [.v o.t, .v (.int .i64 left)] [.int .i64 (szO o left)] [] := fun o ho => oc19' o (hk.2.2.2.2 o ho)
    exact fun left h0 h1 => oc19 k n s ks kids left h0 h1 hk.1 hk.2.1 hk.2.2.1 fun l hl0 hl1 => oc52 kids l hl0 hl1 hk.2.2.2.1 (fun o _ => szO_le' o) hr
termination_by o
decreasing_by
  have := List.sizeOf_lt_of_mem ho
  simp only [Ob.mk.sizeOf_spec]
  omega
/-- A tree that is measured is small. -/
inductive Tn : Ob → Prop where
  | mk (k n : Int) (s : ByteArray) (ks : List ByteArray) (kids : List Ob) (h0 : s.size ≤ 1048576) (h1 : ks.length ≤ 1048576) (hk : ∀ s ∈ ks, s.size ≤ 1048576) (h2 : kids.length ≤ 1048576) (h3 : ∀ o ∈ kids, Tn o) : Tn (.mk k n s ks kids)
theorem Tn.sm : ∀ {o : Ob}, Tn o → Sm o
  | .mk _ _ _ _ kids, h => by
    cases h with
    | mk _ _ _ _ _ h0 h1 hk h2 h3 => exact .mk _ _ _ _ _ h1 h2 fun o ho => Tn.sm (h3 o ho)
  decreasing_by
  have := List.sizeOf_lt_of_mem ho
  simp only [Ob.mk.sizeOf_spec]
  omega
theorem szF_pos : ∀ (l : List Nat) (x : Int), x ≤ 1048576 → 0 ≤ szF x l → ∀ n ∈ l, n ≤ 1048576
  | [], _, _, _ => by simp
  | m :: r, x, hx, h => by
    rw [szF] at h
    split at h
    · omega
    · intro n hn
      rcases List.mem_cons.1 hn with rfl | hn
      · omega
      · exact szF_pos r _ (by omega) h n hn
theorem szL_pos : ∀ (l : List Ob) (x : Int), x ≤ 1048576 → 0 ≤ szL l x → ∀ o ∈ l, ∃ y : Int, y ≤ 1048576 ∧ 0 ≤ szO o y
  | [], _, _, _ => by simp
  | m :: r, x, hx, h => by
    rw [szL] at h
    split at h
    · omega
    · intro o ho
      rcases List.mem_cons.1 ho with rfl | ho
      · exact ⟨x, hx, by omega⟩
      · refine szL_pos r _ ?_ h o ho
        by_cases h0 : 0 ≤ x
        · have := szO_le' m x h0; omega
        · have : szO m x < 0 := by
            cases m with | mk k n s ks kids => rw [szO_mk, if_pos (by omega)]; omega
          omega
theorem tn_of_sz : ∀ (o : Ob) (x : Int), x ≤ 1048576 → 0 ≤ szO o x → Tn o
  | .mk k n s ks kids, x, hx, h => by
    rw [szO_mk] at h
    split at h
    · omega
    split at h
    · omega
    rename_i h1 h2
    have h3 := szF_le (ks.length :: ks.map (·.size)) (x - s.size) (by omega)
    have h4 := szF_pos _ _ (by omega) (Int.not_lt.1 h2)
    rw [szS] at h
    split at h
    · omega
    refine .mk _ _ _ _ _ (by omega) (h4 _ (by simp)) (fun t ht => h4 _ (by simp; exact .inr ⟨t, ht, rfl⟩)) (by omega) fun o ho => ?_
    obtain ⟨y, hy, h5⟩ := szL_pos kids _ (by omega) h o ho
    exact tn_of_sz o y hy h5
  decreasing_by
  have := List.sizeOf_lt_of_mem ho
  simp only [Ob.mk.sizeOf_spec]
  omega
end Go.Proofs.YtikegeligblekaaGreat.M

/- Contracts for ObjOk: keysOk, fieldsOk. No condition. -/
namespace Go.Proofs.YtikegeligblekaaGreat.M
open Go Go.Proofs
set_option maxRecDepth 100000
set_option maxHeartbeats 2000000
set_option linter.unusedSimpArgs false
def geB (a b : ByteArray) : Bool := !(Op.bytesLess a.toList b.toList)
def keyB (ks : List ByteArray) (i : Nat) : Bool :=
  match ks[i]? with
  | some x => wordB x && !(decide (i > 0) && match ks[i - 1]? with | some y => geB y x | none => false)
  | none => true
def keysB (ks : List ByteArray) : Bool := (List.range ks.length).all (keyB ks)
theorem keysB_no {ks : List ByteArray} {i : Nat} (hi : i < ks.length) (h : keyB ks i = false) : keysB ks = false := by
  unfold keysB
  rw [List.all_eq_false]
  exact ⟨i, List.mem_range.2 hi, by simp [h]⟩
theorem keysB_yes {ks : List ByteArray} (h : ∀ j, j < ks.length → keyB ks j = true) : keysB ks = true := by
  unfold keysB
  exact List.all_eq_true.2 fun j hj => h j (List.mem_range.1 hj)
theorem all_succ {p : Nat → Prop} {i : Nat} (h : ∀ j, j < i → p j) (h2 : p i) : ∀ j, j < i + 1 → p j := fun j hj => by
  rcases Nat.lt_succ_iff_lt_or_eq.1 hj with hj | rfl
  · exact h j hj
  · exact h2
theorem oc111 (a : List ByteArray) (ha : a.length ≤ 1048576) (hs : ∀ s ∈ a, s.size ≤ 1048576) : CS Tryz.prog false 99 [.v (strs a)] [.bool (keysB a)] [] := by
  refine CS_act tab_ok mdO Tryz.func99 rfl rfl Tryz.ntmps99 (rl := [.tmp 2]) rfl (Nat.le_of_ble_eq_true rfl) ?_
  simp only [go_sem, strs, List.length_map]
  refine act_loop_of (md := mdO) tab_ok [0,5,6,7] [] 1000 (ι := {i : Nat // i ≤ a.length ∧ ∀ j, j < i → keyB a j = true}) (fun i => ⟨[(0, .a (.c (.t (.list 1 (a.map T.str))))), (5, .a (.c (.t (.list 1 (a.map T.str))))), (6, .a (.c (.t (.int .i64 a.length)))), (7, .a (.c (.t (.int .i64 i.1))))], [], 1000, 29⟩) (fun i => a.length - i.1) ⟨0, by omega, by simp⟩ (Nat.le_of_ble_eq_true rfl) (by simp only [go_sem]) (by simp only [go_sem]; rfl) fun i => ?_
  obtain ⟨i, hi, ht⟩ := i
  simp only [go_sem, List.length_map]
  refine act_split (fun h => ?_) (fun h => ?_) <;> simp only [go_sem] <;> simp only [decide_eq_true_eq, decide_eq_false_iff_not] at h
  · obtain ⟨x, hx⟩ : ∃ x, a[i]? = some x := ⟨_, List.getElem?_eq_getElem (by omega)⟩
    have hb := hs x (List.mem_of_getElem? hx)
    simp only [go_sem, List.getElem?_map, hx, List.length_map]
    refine ⟨by omega, by omega, ?_⟩
    refine act_callE (oc18 _ hb) ?_
    simp only [go_sem]
    refine act_split (fun h2 => ?_) (fun h2 => ?_) <;> simp only [go_sem, h2]
    · refine act_split (fun h3 => ?_) (fun h3 => ?_) <;> simp only [go_sem, h3] <;> simp only [decide_eq_true_eq, decide_eq_false_iff_not] at h3
      · obtain ⟨y, hy⟩ : ∃ y, a[i - 1]? = some y := ⟨_, List.getElem?_eq_getElem (by omega)⟩
        have e : ((i : Int) - 1).toNat = i - 1 := by omega
        simp only [go_sem, wrap64O (n := (i : Int) - 1) (by omega) (by omega), e, List.getElem?_map, hx, hy, List.length_map]
        refine ⟨by omega, by omega, ?_⟩
        refine act_split_notO (fun h4 => ?_) (fun h4 => ?_) <;> simp only [go_sem, h4]
        · rw [keysB_no (i := i) (by omega) (by simp [keyB, hx, h2, hy, geB, h4]; omega)]
        · refine nextK_of ⟨i + 1, by omega, all_succ ht (by simp [keyB, hx, h2, hy, geB, h4])⟩ (by simp only [go_sem]) ?_ (by dsimp only; omega)
          simp only [go_sem]
          rw [wrap64O (by omega) (by omega)]; rfl
      · refine nextK_of ⟨i + 1, by omega, all_succ ht (by simp [keyB, hx, h2]; omega)⟩ (by simp only [go_sem]) ?_ (by dsimp only; omega)
        simp only [go_sem]
        rw [wrap64O (by omega) (by omega)]; rfl
    · rw [keysB_no (i := i) (by omega) (by simp [keyB, hx, h2])]
  · rw [keysB_yes fun j hj => ht j (by omega)]
/-- The fields of a tree are as its kind tells. -/
def fieldsB (k n : Int) (s : ByteArray) (ks : List ByteArray) (kl : Nat) : Bool :=
  if (k != 8 && decide (0 < ks.length)) || ((k != 8 && k != 7) && decide (0 < kl)) then false else
  let num := n == 0
  let txt := s.toList == (⟨#[]⟩ : ByteArray).toList
  if k == 1 || k == 2 || k == 3 || k == 7 then num && txt
  else if k == 4 then inBO n (-1000000000) 1000000000 && txt
  else if k == 5 then num && wordB s
  else if k == 6 then num && decide (s.size ≤ 200)
  else if k == 8 then num && txt && decide (ks.length = kl) && keysB ks
  else k == 9 && inBO n 1 1000000000 && txt
end Go.Proofs.YtikegeligblekaaGreat.M

/- Contracts for ObjOk: fieldsOk. No condition. -/
namespace Go.Proofs.YtikegeligblekaaGreat.M
open Go Go.Proofs
set_option maxRecDepth 100000
set_option maxHeartbeats 2000000
set_option linter.unusedSimpArgs false
attribute [go_sem] Bool.true_eq_false Int.reduceBEq Int.reduceBNe Int.reduceLT Int.reduceLE Int.reduceGT Int.reduceGE Int.reduceAdd Int.reduceSub Int.reduceMul Int.reduceNeg
theorem oc93 (k n : Int) (s : ByteArray) (ks : List ByteArray) (kids : List Ob) (h : Tn (.mk k n s ks kids)) :
    CS Tryz.prog false 80 [.v (Ob.mk k n s ks kids).t] [.bool (fieldsB k n s ks kids.length)] [] := by
  obtain ⟨g0, g1, g2, g3⟩ : s.size ≤ 1048576 ∧ ks.length ≤ 1048576 ∧ (∀ s ∈ ks, s.size ≤ 1048576) ∧ kids.length ≤ 1048576 := by cases h; exact ⟨by assumption, by assumption, by assumption, by assumption⟩
  rw [Ob.t_mk]
  have key : k = 1 ∨ k = 2 ∨ k = 3 ∨ k = 7 ∨ k = 4 ∨ k = 5 ∨ k = 6 ∨ k = 8 ∨ k = 9 ∨ ((k == 1) = false ∧ (k == 2) = false ∧ (k == 3) = false ∧ (k == 7) = false ∧ (k == 4) = false ∧ (k == 5) = false ∧ (k == 6) = false ∧ (k == 8) = false ∧ (k == 9) = false) := by
    simp only [beq_eq_false_iff_ne]; omega
  clear h
  rcases key with rfl | rfl | rfl | rfl | rfl | rfl | rfl | rfl | rfl | ⟨e1, e2, e3, e4, e5, e6, e7, e8, e9⟩
  all_goals
    refine CS_act tab_ok mdO Tryz.func80 rfl rfl Tryz.ntmps80 (rl := [.tmp 2]) rfl (Nat.le_of_ble_eq_true rfl) ?_
    simp only [go_sem, bne, List.length_map, *]
  all_goals
    repeat' (first
    | (refine act_callE (oc45 _ _ _) ?_; simp only [go_sem, *])
    | (refine act_callE (oc18 _ g0) ?_; simp only [go_sem, *])
    | (refine act_callE (oc111 _ g1 g2) ?_; simp only [go_sem, *])
    | (refine act_split_notO (fun h => ?_) (fun h => ?_) <;> simp only [go_sem, h, List.length_map, *])
    | (refine act_split (fun h => ?_) (fun h => ?_) <;> simp only [go_sem, h, List.length_map, *]))
  all_goals first | (simp_all [fieldsB]; done) | (simp_all [fieldsB]; omega) | (simp_all [fieldsB]; intros; omega) | skip
end Go.Proofs.YtikegeligblekaaGreat.M

/- Contracts for ObjOk: countOf, and the plain law of both counts. No condition. -/
namespace Go.Proofs.YtikegeligblekaaGreat.M
open Go Go.Proofs
set_option maxRecDepth 100000
set_option maxHeartbeats 2000000
set_option linter.unusedSimpArgs false
mutual
def cntO : Ob → Int → Int
  | .mk k n s ks kids, d => if 6 < d then 121 else if fieldsB k n s ks kids.length = false then 121 else cntLO kids (d + 1) 1
def cntLO : List Ob → Int → Int → Int
  | [], _, c => c
  | o :: r, d, c => if 120 < c + cntO o d then 121 else cntLO r d (c + cntO o d)
end
mutual
def lefO : Ob → Int → Int → Option Int
  | .mk k n s ks kids, d, left => if left - 1 < 0 then none else if 6 < d then none else if fieldsB k n s ks kids.length = false then none else lefL kids (d + 1) (left - 1)
def lefL : List Ob → Int → Int → Option Int
  | [], _, left => some left
  | o :: r, d, left => match lefO o d left with
    | some l => lefL r d l
    | none => none
end
theorem cntL_ge : ∀ (l : List Ob) (d c : Int), c ≤ 121 → (∀ o ∈ l, 1 ≤ cntO o d ∧ cntO o d ≤ 121) → c ≤ cntLO l d c ∧ cntLO l d c ≤ 121
  | [], d, c, h, _ => by rw [cntLO]; omega
  | o :: r, d, c, h, ho => by
    rw [cntLO]
    have h1 := ho o (by simp)
    split
    · omega
    · have := cntL_ge r d (c + cntO o d) (by omega) fun o' h' => ho o' (by simp [h'])
      omega
theorem cntO_ge : ∀ (o : Ob) (d : Int), 1 ≤ cntO o d ∧ cntO o d ≤ 121
  | .mk k n s ks kids, d => by
    rw [cntO]
    split
    · omega
    split
    · omega
    exact cntL_ge kids (d + 1) 1 (by omega) fun o ho => cntO_ge o (d + 1)
  decreasing_by
  have := List.sizeOf_lt_of_mem ho
  simp only [Ob.mk.sizeOf_spec]
  omega
theorem lefL_cnt : ∀ (l : List Ob) (d left c : Int), 0 ≤ c → 0 ≤ left → c + left ≤ 120 → (∀ o ∈ l, ∀ x : Int, 0 ≤ x → x ≤ 120 → lefO o d x = if cntO o d ≤ x then some (x - cntO o d) else none) →
    lefL l d left = if cntLO l d c ≤ c + left then some (c + left - cntLO l d c) else none
  | [], d, left, c, hc, h0, h1, _ => by
    rw [lefL, cntLO, if_pos (by omega)]
    congr 1; omega
  | o :: r, d, left, c, hc, h0, h1, ho => by
    have g := cntO_ge o d
    by_cases hc' : 0 ≤ c
    · rw [lefL, cntLO, ho o (by simp) left h0 (by omega)]
      by_cases h2 : cntO o d ≤ left
      · rw [if_pos h2, if_neg (show ¬ 120 < c + cntO o d by omega)]
        dsimp only
        rw [lefL_cnt r d (left - cntO o d) (c + cntO o d) (by omega) (by omega) (by omega) fun o' h' => ho o' (by simp [h'])]
        have : c + cntO o d + (left - cntO o d) = c + left := by omega
        rw [this]
      · rw [if_neg h2]
        dsimp only
        split
        · rw [if_neg (by omega)]
        · have := cntL_ge r d (c + cntO o d) (by omega) fun o' _ => cntO_ge o' d
          rw [if_neg (by omega)]
    · omega
theorem lefO_cnt : ∀ (o : Ob) (d left : Int), 0 ≤ left → left ≤ 120 → lefO o d left = if cntO o d ≤ left then some (left - cntO o d) else none
  | .mk k n s ks kids, d, left, h0, h1 => by
    have g := cntO_ge (.mk k n s ks kids) d
    by_cases hl : left - 1 < 0
    · rw [lefO, if_pos hl, if_neg (by omega)]
    rw [lefO, if_neg hl, cntO]
    split
    · rw [if_neg (by omega)]
    split
    · rw [if_neg (by omega)]
    rw [lefL_cnt kids (d + 1) (left - 1) 1 (by omega) (by omega) (by omega) fun o ho x hx0 hx1 => lefO_cnt o (d + 1) x hx0 hx1]
    have : 1 + (left - 1) = left := by omega
    rw [this]
  decreasing_by
  have := List.sizeOf_lt_of_mem ho
  simp only [Ob.mk.sizeOf_spec]
  omega
theorem oc66 (k n : Int) (s : ByteArray) (ks : List ByteArray) (kids : List Ob) (hT : Tn (.mk k n s ks kids)) (d : Int) (h0 : 0 ≤ d) (h1 : d ≤ 7)
    (hh : d + 1 ≤ 7 → ∀ o ∈ kids, CS Tryz.prog false 64 [.v o.t, .v (.int .i64 (d + 1))] [.int .i64 (cntO o (d + 1))] []) :
    CS Tryz.prog false 64 [.v (Ob.mk k n s ks kids).t, .v (.int .i64 d)] [.int .i64 (cntO (.mk k n s ks kids) d)] [] := by
  have hf := oc93 k n s ks kids hT
  have hkl : kids.length ≤ 1048576 := by cases hT; assumption
  rw [Ob.t_mk] at hf ⊢
  rw [cntO]
  refine CS_act tab_ok mdO Tryz.func64 rfl rfl Tryz.ntmps64 (rl := [.tmp 4]) rfl (Nat.le_of_ble_eq_true rfl) ?_
  simp only [go_sem]
  refine act_split_notO (fun h => ?_) (fun h => ?_) <;> simp only [go_sem, h] <;> simp only [decide_eq_true_eq, decide_eq_false_iff_not] at h
  rotate_left
  · rw [if_pos h]
  rw [if_neg h]
  refine act_callE hf ?_
  simp only [go_sem]
  refine act_split_notO (fun h2 => ?_) (fun h2 => ?_) <;> simp only [go_sem, h2]
  simp only [List.length_map]
  refine act_loop_of (md := mdO) tab_ok [1,5,16,17,18] [] 1000 (ι := {p : Nat × Int // p.1 ≤ kids.length ∧ 1 ≤ p.2 ∧ p.2 ≤ 120 ∧ cntLO (kids.drop p.1) (d + 1) p.2 = cntLO kids (d + 1) 1})
    (fun p => ⟨[(1, .a (.c (.t (.int .i64 d)))), (5, .a (.c (.t (.int .i64 p.1.2)))), (16, .a (.c (.t (.list 5 (kids.map Ob.t))))), (17, .a (.c (.t (.int .i64 kids.length)))), (18, .a (.c (.t (.int .i64 p.1.1))))], [], 1000, 32⟩)
    (fun p => kids.length - p.1.1) ⟨(0, 1), by omega, by omega, by omega, rfl⟩ (Nat.le_of_ble_eq_true rfl) (by simp only [go_sem]) (by simp only [go_sem]; rfl) fun p => ?_
  obtain ⟨⟨i, c⟩, hi, hc0, hc1, hz⟩ := p
  dsimp only at hi hc0 hc1 hz
  simp only [go_sem, List.length_map]
  refine act_split (fun h3 => ?_) (fun h3 => ?_) <;> simp only [go_sem] <;> simp only [decide_eq_true_eq, decide_eq_false_iff_not] at h3
  · obtain ⟨x, hx⟩ : ∃ x, kids[i]? = some x := ⟨_, List.getElem?_eq_getElem (by omega)⟩
    have hc := hh (by omega) x (List.mem_of_getElem? hx)
    have g := cntO_ge x (d + 1)
    have hd : kids.drop i = x :: kids.drop (i + 1) := by
      rw [List.drop_eq_getElem_cons (by omega)]
      rw [List.getElem?_eq_getElem (by omega)] at hx; rw [Option.some.inj hx]
    rw [hd, cntLO] at hz
    generalize cntO x (d + 1) = y at hc hz g
    obtain ⟨k', n', s', ks', kids'⟩ := x
    rw [Ob.t_mk] at hc
    simp only [go_sem, List.getElem?_map, hx, List.length_map, Ob.t_mk, wrap64O (n := d + 1) (by omega) (by omega)]
    refine ⟨by omega, by omega, ?_⟩
    refine act_callE hc ?_
    simp only [go_sem, wrap64O (n := c + y) (by omega) (by omega)]
    refine act_split (fun h4 => ?_) (fun h4 => ?_) <;> simp only [go_sem] <;> simp only [decide_eq_true_eq, decide_eq_false_iff_not] at h4
    · rw [if_pos h4] at hz
      rw [← hz]
    · rw [if_neg h4] at hz
      refine nextK_of ⟨(i + 1, c + y), by omega, by omega, by omega, hz⟩ (by simp only [go_sem]) ?_ (by dsimp only; omega)
      simp only [go_sem]
      rw [wrap64O (by omega) (by omega)]; rfl
  · have : i = kids.length := by omega
    subst this
    rw [List.drop_length, cntLO] at hz
    rw [← hz]
theorem oc66' (o : Ob) (hT : Tn o) : ∀ d : Int, 0 ≤ d → d ≤ 7 → CS Tryz.prog false 64 [.v o.t, .v (.int .i64 d)] [.int .i64 (cntO o d)] [] := by
  match o, hT with
  | .mk k n s ks kids, hT =>
    have hk : ∀ o ∈ kids, Tn o := by cases hT; assumption
    have hr : ∀ o ∈ kids, ∀ d : Int, 0 ≤ d → d ≤ 7 → CS Tryz.prog false 64 [.v o.t, .v (.int .i64 d)] [.int .i64 (cntO o d)] [] := fun o ho => oc66' o (hk o ho)
    exact fun d h0 h1 => oc66 k n s ks kids hT d h0 h1 fun h o ho => hr o ho (d + 1) (by omega) h
termination_by o
decreasing_by
  have := List.sizeOf_lt_of_mem ho
  simp only [Ob.mk.sizeOf_spec]
  omega
theorem oc27 (o : Ob) (hT : Tn o) : CS Tryz.prog false 47 [.v o.t] [.bool (decide (cntO o 0 ≤ 120))] [] := by
  have hc := oc66' o hT 0 (by omega) (by omega)
  obtain ⟨k, n, s, ks, kids⟩ := o
  rw [Ob.t_mk] at hc ⊢
  refine CS_act tab_ok mdO Tryz.func47 rfl rfl Tryz.ntmps47 (rl := [.tmp 2]) rfl (Nat.le_of_ble_eq_true rfl) ?_
  simp only [go_sem]
  refine act_callE hc ?_
  simp only [go_sem]
end Go.Proofs.YtikegeligblekaaGreat.M

/- Contracts for ObjOk: the reference's count, its loops. No condition. -/
namespace Go.Proofs.YtikegeligblekaaGreat.M
open Go Go.Proofs
set_option maxRecDepth 100000
set_option maxHeartbeats 2000000
set_option linter.unusedSimpArgs false
def preB (k n : Int) (s : ByteArray) (ks : List ByteArray) (kl : Nat) : Bool :=
  let num := k == 4 || k == 9
  let txt := k == 5 || k == 6
  let kds := k == 7 || k == 8
  (if k == 4 then inBO n (-1000000000) 1000000000 else if k == 9 then inBO n 1 1000000000 else if k == 5 then wordB s else if k == 6 then decide (s.size ≤ 200) else if k == 8 then decide (ks.length = kl) else k == 1 || k == 2 || k == 3 || k == 7)
    && !((!num && n != 0) || (!txt && !(s.toList == (⟨#[]⟩ : ByteArray).toList)) || (!kds && decide (0 < kl)) || (!(k == 8) && decide (0 < ks.length)))
mutual
def lefP : Ob → Int → Int → Bool × Int
  | .mk k n s ks kids, d, left => if left - 1 < 0 then (false, left - 1) else if 6 < d then (false, left - 1) else if preB k n s ks kids.length = false then (false, left - 1) else if keysB ks = false then (false, left - 1) else lefPL kids (d + 1) (left - 1)
def lefPL : List Ob → Int → Int → Bool × Int
  | [], _, left => (true, left)
  | o :: r, d, left => if (lefP o d left).1 = true then lefPL r d (lefP o d left).2 else (false, (lefP o d left).2)
end
theorem fields_pre (k n : Int) (s : ByteArray) (ks : List ByteArray) (kl : Nat) : fieldsB k n s ks kl = (preB k n s ks kl && keysB ks) := by
  have hk : ks.length = 0 → keysB ks = true := fun h => by rw [List.length_eq_zero_iff.1 h]; rfl
  unfold fieldsB preB
  simp only [bne]
  generalize inBO n (-1000000000) 1000000000 = b1
  generalize inBO n 1 1000000000 = b2
  generalize wordB s = b3
  generalize decide (s.size ≤ 200) = b4
  generalize (n == 0) = bn
  generalize (s.toList == (⟨#[]⟩ : ByteArray).toList) = bs
  generalize keysB ks = bk at hk ⊢
  generalize ks.length = kz at hk ⊢
  have key : k = 1 ∨ k = 2 ∨ k = 3 ∨ k = 7 ∨ k = 4 ∨ k = 5 ∨ k = 6 ∨ k = 8 ∨ k = 9 ∨ ((k == 1) = false ∧ (k == 2) = false ∧ (k == 3) = false ∧ (k == 7) = false ∧ (k == 4) = false ∧ (k == 5) = false ∧ (k == 6) = false ∧ (k == 8) = false ∧ (k == 9) = false) := by
    simp only [beq_eq_false_iff_ne]; omega
  rcases key with rfl | rfl | rfl | rfl | rfl | rfl | rfl | rfl | rfl | ⟨e1, e2, e3, e4, e5, e6, e7, e8, e9⟩
  all_goals
    rcases Nat.eq_zero_or_pos kl with rfl | hkl <;> rcases Nat.eq_zero_or_pos kz with rfl | hkz
  all_goals (try have hk := hk rfl)
  all_goals (try subst hk)
  all_goals (try simp only [e1, e2, e3, e4, e5, e6, e7, e8, e9])
  all_goals cases bn <;> cases bs <;> first | (simp; done) | simp_all
theorem lefL_P : ∀ (l : List Ob) (d x : Int), (∀ o ∈ l, ∀ x, lefO o d x = if (lefP o d x).1 = true then some (lefP o d x).2 else none) → lefL l d x = if (lefPL l d x).1 = true then some (lefPL l d x).2 else none
  | [], d, x, _ => by rw [lefL, lefPL]; rfl
  | o :: r, d, x, h => by
    rw [lefL, lefPL, h o (by simp) x]
    by_cases h1 : (lefP o d x).1 = true
    · simp only [h1, if_true]
      exact lefL_P r d _ fun o' h' => h o' (by simp [h'])
    · simp only [h1, if_false]; simp
theorem lefP_O : ∀ (o : Ob) (d l : Int), lefO o d l = if (lefP o d l).1 = true then some (lefP o d l).2 else none
  | .mk k n s ks kids, d, l => by
    rw [lefO, lefP]
    split
    · simp
    split
    · simp
    rw [fields_pre]
    by_cases h1 : preB k n s ks kids.length = false
    · simp [h1]
    by_cases h2 : keysB ks = false
    · simp [h1, h2]
    simp only [Bool.not_eq_false] at h1 h2
    simp only [h1, h2, Bool.and_true, Bool.true_eq_false, if_false]
    exact lefL_P kids (d + 1) (l - 1) fun o ho x => lefP_O o (d + 1) x
  decreasing_by
  have := List.sizeOf_lt_of_mem ho
  simp only [Ob.mk.sizeOf_spec]
  omega
theorem lefP_yes (o : Ob) (d x : Int) (h0 : 0 ≤ x) (h1 : x ≤ 120) : (lefP o d x).1 = decide (cntO o d ≤ x) ∧ ((lefP o d x).1 = true → (lefP o d x).2 = x - cntO o d) := by
  have h := lefP_O o d x
  rw [lefO_cnt o d x h0 h1] at h
  by_cases h2 : cntO o d ≤ x
  · rw [if_pos h2] at h
    split at h
    · rename_i h3; obtain h4 := Option.some.inj h; exact ⟨by rw [h3]; simp [h2], fun _ => h4.symm⟩
    · cases h
  · rw [if_neg h2] at h
    split at h
    · cases h
    · rename_i h3; exact ⟨by simp [h2, h3], fun h => absurd h h3⟩
abbrev L65 (o : Ob) (d left : Int) : Prop := CS Tryz.prog false 39 [.v o.t, .v (.int .i64 d), .mb [.t (.int .i64 left)]] [.bool (lefP o d left).1] [[.t (.int .i64 (lefP o d left).2)]]
theorem r65 (k n : Int) (s : ByteArray) (ks : List ByteArray) (kids : List Ob) (hT : Tn (.mk k n s ks kids)) (d left l0 : Int) (h0 : 0 ≤ d) (h1 : d ≤ 6) (h2 : 0 ≤ left) (h3 : left < 120)
    (hh : ∀ o ∈ kids, ∀ x : Int, 0 ≤ x → x ≤ 120 → L65 o (d + 1) x) (rs : List T) (os : List (List BC))
    (hr1 : keysB ks = false → rs = [.bool false] ∧ os = [[.t (.int .i64 left)]]) (hr2 : keysB ks = true → rs = [.bool (lefPL kids (d + 1) left).1] ∧ os = [[.t (.int .i64 (lefPL kids (d + 1) left).2)]]) {c : Code}
    (hc : subC Tryz.f39.body [true, true, true, true, true, true, true, true, true] = some c) :
    WWE Tryz.prog c ⟨[(1, .a (.c (.t (.int .i64 d)))), (2, .a (.c (.ptr 0 0))), (3, .a (.c (.ptr 1 0)))], [(0, .box [.t (.int .i64 left)]), (1, .box [.t (.int .i64 k), .t (.int .i64 n), .t (.str s), .t (.list 1 (ks.map T.str)), .t (.list 5 (kids.map Ob.t))])], 4000, 153⟩
      (endK tab false [.tmp 6] [.v (.agg [.int .i64 k, .int .i64 n, .str s, .list 1 (ks.map T.str), .list 5 (kids.map Ob.t)]), .v (.int .i64 d), .mb [.t (.int .i64 l0)]] rs os) .one .one := by
  obtain rfl := Option.some.inj hc
  clear hc
  refine WWE_of_act tab_ok mdO ?_
  simp only [go_sem]
  obtain ⟨g0, g1, g2, g3⟩ : s.size ≤ 1048576 ∧ ks.length ≤ 1048576 ∧ (∀ s ∈ ks, s.size ≤ 1048576) ∧ kids.length ≤ 1048576 := by cases hT; exact ⟨by assumption, by assumption, by assumption, by assumption⟩
  refine act_loop_of (md := mdO) tab_ok [1,2,3,11] [0,1] 6000 (ι := {i : Nat // i ≤ ks.length ∧ ∀ j, j < i → keyB ks j = true})
    (fun i => ⟨[(1, .a (.c (.t (.int .i64 d)))), (2, .a (.c (.ptr 0 0))), (3, .a (.c (.ptr 1 0))), (11, .a (.c (.t (.int .i64 i.1))))], [(0, .box [.t (.int .i64 left)]), (1, .box [.t (.int .i64 k), .t (.int .i64 n), .t (.str s), .t (.list 1 (ks.map T.str)), .t (.list 5 (kids.map Ob.t))])], 6000, 153⟩)
    (fun i => ks.length - i.1) ⟨0, by omega, by simp⟩ (Nat.le_of_ble_eq_true rfl) (by simp only [go_sem]) (by simp only [go_sem]; rfl) fun i => ?_
  obtain ⟨i, hi, ht⟩ := i
  simp only [go_sem, List.length_map]
  refine act_split (fun h => ?_) (fun h => ?_) <;> simp only [go_sem] <;> simp only [decide_eq_true_eq, decide_eq_false_iff_not] at h
  · obtain ⟨x, hx⟩ : ∃ x, ks[i]? = some x := ⟨_, List.getElem?_eq_getElem (by omega)⟩
    have hb := g2 x (List.mem_of_getElem? hx)
    refine act_draw_of tab_ok mix mdO ?_
    simp only [go_sem, List.getElem?_map, hx, List.length_map]
    refine ⟨by omega, by omega, ?_⟩
    refine act_callE (oc17 _ hb) ?_
    simp only [go_sem]
    refine act_split (fun h5 => ?_) (fun h5 => ?_) <;> simp only [go_sem, h5]
    · refine act_split (fun h3 => ?_) (fun h3 => ?_) <;> simp only [go_sem, h3] <;> simp only [decide_eq_true_eq, decide_eq_false_iff_not] at h3
      · obtain ⟨y, hy⟩ : ∃ y, ks[i - 1]? = some y := ⟨_, List.getElem?_eq_getElem (by omega)⟩
        have e : ((i : Int) - 1).toNat = i - 1 := by omega
        simp only [go_sem, wrap64O (n := (i : Int) - 1) (by omega) (by omega), e, List.getElem?_map, hx, hy, List.length_map]
        refine ⟨by omega, by omega, by omega, by omega, drawOk_of (by kernel_rfl), ?_⟩
        refine act_split_notO (fun h4 => ?_) (fun h4 => ?_) <;> simp only [go_sem, h4]
        · have := keysB_no (ks := ks) (i := i) (by omega) (by simp [keyB, hx, h5, hy, geB, h4]; omega)
          obtain ⟨rfl, rfl⟩ := hr1 this
          trivial
        · refine nextK_of ⟨i + 1, by omega, all_succ ht (by simp [keyB, hx, h5, hy, geB, h4])⟩ (by simp only [go_sem]) ?_ (by dsimp only; omega)
          simp only [go_sem]
          rw [wrap64O (by omega) (by omega)]; rfl
      · refine ⟨drawOk_of (by kernel_rfl), ?_⟩
        refine nextK_of ⟨i + 1, by omega, all_succ ht (by simp [keyB, hx, h5]; omega)⟩ (by simp only [go_sem]) ?_ (by dsimp only; omega)
        simp only [go_sem]
        rw [wrap64O (by omega) (by omega)]; rfl
    · refine ⟨drawOk_of (by kernel_rfl), ?_⟩
      have := keysB_no (ks := ks) (i := i) (by omega) (by simp [keyB, hx, h5])
      obtain ⟨rfl, rfl⟩ := hr1 this
      trivial
  · have hy := keysB_yes (ks := ks) fun j hj => ht j (by omega)
    obtain ⟨rfl, rfl⟩ := hr2 hy
    clear hr1 hr2
    refine act_loop_of (md := mdO) tab_ok [1,2,3,12] [0,1] 9000 (ι := {p : Nat × Int // p.1 ≤ kids.length ∧ 0 ≤ p.2 ∧ p.2 ≤ 120 ∧ lefPL (kids.drop p.1) (d + 1) p.2 = lefPL kids (d + 1) left})
      (fun p => ⟨[(1, .a (.c (.t (.int .i64 d)))), (2, .a (.c (.ptr 0 0))), (3, .a (.c (.ptr 1 0))), (12, .a (.c (.t (.int .i64 p.1.1))))], [(0, .box [.t (.int .i64 p.1.2)]), (1, .box [.t (.int .i64 k), .t (.int .i64 n), .t (.str s), .t (.list 1 (ks.map T.str)), .t (.list 5 (kids.map Ob.t))])], 9000, 153⟩)
      (fun p => kids.length - p.1.1) ⟨(0, left), by omega, by omega, by omega, rfl⟩ (Nat.le_of_ble_eq_true rfl) (by simp only [go_sem]) (by simp only [go_sem]; rfl) fun p => ?_
    obtain ⟨⟨j, l⟩, hj, hl0, hl1, hz⟩ := p
    dsimp only at hj hl0 hl1 hz
    simp only [go_sem, List.length_map]
    refine act_split (fun h6 => ?_) (fun h6 => ?_) <;> simp only [go_sem] <;> simp only [decide_eq_true_eq, decide_eq_false_iff_not] at h6
    · obtain ⟨x, hx⟩ : ∃ x, kids[j]? = some x := ⟨_, List.getElem?_eq_getElem (by omega)⟩
      have hc := hh x (List.mem_of_getElem? hx) l hl0 hl1
      have hp := lefP_yes x (d + 1) l hl0 hl1
      have hg := cntO_ge x (d + 1)
      have hd : kids.drop j = x :: kids.drop (j + 1) := by
        rw [List.drop_eq_getElem_cons (by omega)]
        rw [List.getElem?_eq_getElem (by omega)] at hx; rw [Option.some.inj hx]
      rw [hd, lefPL] at hz
      unfold L65 at hc
      generalize lefP x (d + 1) l = p at hc hz hp
      obtain ⟨b, y⟩ := p
      dsimp only at hc hz hp
      obtain ⟨k', n', s', ks', kids'⟩ := x
      rw [Ob.t_mk] at hc
      simp only [go_sem, List.getElem?_map, hx, List.length_map, Ob.t_mk, wrap64O (n := d + 1) (by omega) (by omega)]
      refine ⟨by omega, by omega, ?_⟩
      refine act_callE hc ?_
      simp only [go_sem]
      refine act_split_notO (fun h4 => ?_) (fun h4 => ?_) <;> simp only [go_sem] <;> subst h4
      · rw [if_neg (by simp)] at hz
        rw [← hz]; exact ⟨rfl, rfl⟩
      · rw [if_pos rfl] at hz
        have h7 := of_decide_eq_true hp.1.symm
        have h8 := hp.2 rfl
        refine nextK_of ⟨(j + 1, y), by omega, by omega, by omega, hz⟩ (by simp only [go_sem]) ?_ (by dsimp only; omega)
        simp only [go_sem]
        rw [wrap64O (by omega) (by omega)]; rfl
    · have : j = kids.length := by omega
      subst this
      rw [List.drop_length, lefPL] at hz
      rw [← hz]; exact ⟨rfl, rfl⟩
end Go.Proofs.YtikegeligblekaaGreat.M

/- Contracts for ObjOk: the reference's count. No condition. -/
namespace Go.Proofs.YtikegeligblekaaGreat.M
open Go Go.Proofs
set_option maxRecDepth 100000
set_option maxHeartbeats 2000000
set_option linter.unusedSimpArgs false
theorem oc65 (k n : Int) (s : ByteArray) (ks : List ByteArray) (kids : List Ob) (hT : Tn (.mk k n s ks kids)) (d left : Int) (h0 : 0 ≤ d) (h1 : d ≤ 7) (h2 : 0 ≤ left) (h3 : left ≤ 120)
    (hh : d + 1 ≤ 7 → ∀ o ∈ kids, ∀ x : Int, 0 ≤ x → x ≤ 120 → L65 o (d + 1) x) : L65 (.mk k n s ks kids) d left := by
  obtain ⟨g0, g1, g2, g3⟩ : s.size ≤ 1048576 ∧ ks.length ≤ 1048576 ∧ (∀ s ∈ ks, s.size ≤ 1048576) ∧ kids.length ≤ 1048576 := by cases hT; exact ⟨by assumption, by assumption, by assumption, by assumption⟩
  unfold L65
  rw [lefP, Ob.t_mk]
  refine CS_WW tab_ok Tryz.func39 rfl rfl Tryz.ntmps39 (rl := [.tmp 6]) rfl (Nat.le_of_ble_eq_true rfl) ?_
  have hw := wrap64O (n := left - 1) (by omega) (by omega)
  refine WWE_seq tab_ok mdO ?_
  simp only [go_sem]
  refine WWE_seq tab_ok mdO ?_
  simp only [go_sem, hw]
  refine WWE_seq tab_ok mdO ?_
  simp only [go_sem]
  refine act_split_notO (fun h => ?_) (fun h => ?_) <;> simp only [go_sem, h]
  rotate_left
  · simp only [decide_eq_true_eq] at h
    rw [if_pos h]; trivial
  simp only [decide_eq_false_iff_not] at h
  rw [if_neg h]
  refine act_split (fun h4 => ?_) (fun h4 => ?_) <;> simp only [go_sem]
  · simp only [decide_eq_true_eq] at h4
    rw [if_pos h4]; trivial
  simp only [decide_eq_false_iff_not] at h4
  rw [if_neg h4]
  refine WWE_seq tab_ok mdO ?_
  simp only [go_sem]
  refine WWE_seq tab_ok mdO ?_
  simp only [go_sem]
  refine WWE_seq tab_ok mdO ?_
  simp only [go_sem]
  refine WWE_seq tab_ok mdO ?_
  simp only [go_sem]
  have key : k = 1 ∨ k = 2 ∨ k = 3 ∨ k = 7 ∨ k = 4 ∨ k = 5 ∨ k = 6 ∨ k = 8 ∨ k = 9 ∨ ((k == 1) = false ∧ (k == 2) = false ∧ (k == 3) = false ∧ (k == 7) = false ∧ (k == 4) = false ∧ (k == 5) = false ∧ (k == 6) = false ∧ (k == 8) = false ∧ (k == 9) = false) := by
    simp only [beq_eq_false_iff_ne]; omega
  have hp : preB k n s ks kids.length = preB k n s ks kids.length := rfl
  conv at hp => rhs; unfold preB
  have rest := fun (hpre : preB k n s ks kids.length = true) => @r65 k n s ks kids hT d (left - 1) left h0 (by omega) (by omega) (by omega) (hh (by omega))
    [.bool (if preB k n s ks kids.length = false then (false, left - 1) else if keysB ks = false then (false, left - 1) else lefPL kids (d + 1) (left - 1)).1]
    [[.t (.int .i64 (if preB k n s ks kids.length = false then (false, left - 1) else if keysB ks = false then (false, left - 1) else lefPL kids (d + 1) (left - 1)).2)]]
    (fun hk => by simp [hpre, hk]) (fun hk => by simp [hpre, hk])
  generalize preB k n s ks kids.length = pb at hp rest ⊢
  rcases key with rfl | rfl | rfl | rfl | rfl | rfl | rfl | rfl | rfl | ⟨e1, e2, e3, e4, e5, e6, e7, e8, e9⟩
  all_goals (try simp only [e1, e2, e3, e4, e5, e6, e7, e8, e9] at hp)
  all_goals
    refine WWE_seq tab_ok mdO ?_
    simp only [go_sem, List.length_map]
    try simp only [e1, e2, e3, e4, e5, e6, e7, e8, e9, go_sem]
    repeat' (first
      | (refine act_callE (oc44 _ _ _) ?_; simp only [go_sem])
      | (refine act_callE (oc17 _ g0) ?_; simp only [go_sem])
      | (refine act_split_notO (fun h => ?_) (fun h => ?_) <;> simp only [go_sem, h])
      | (refine act_split (fun h => ?_) (fun h => ?_) <;> simp only [go_sem, h]))
  all_goals try
    refine WWE_seq tab_ok mdO ?_
    simp only [go_sem, List.length_map, bne]
    repeat' (first
      | (refine act_split_notO (fun h => ?_) (fun h => ?_) <;> simp only [go_sem, h, List.length_map])
      | (refine act_split (fun h => ?_) (fun h => ?_) <;> simp only [go_sem, h, List.length_map]))
  all_goals try
    refine WWE_cut [1,2,3] [0,1] 4000 _ (Nat.le_of_ble_eq_true rfl) (by simp only [go_sem]) (by simp only [go_sem]) (rest ?_ rfl)
  all_goals
    first
    | (have : pb = true := by
        rw [hp]; first | (simp_all; done) | (simp_all; omega)
       exact this)
    | (have : pb = false := by
        rw [hp]; first | (simp_all; done) | (simp_all; omega)
       rw [if_pos this]; exact ⟨rfl, rfl⟩)
end Go.Proofs.YtikegeligblekaaGreat.M

/- Contracts for ObjOk: the law. No condition. -/
namespace Go.Proofs.YtikegeligblekaaGreat.M
open Go Go.Proofs
set_option maxRecDepth 100000
set_option maxHeartbeats 2000000
set_option linter.unusedSimpArgs false
theorem oc65' (o : Ob) (hT : Tn o) : ∀ d left : Int, 0 ≤ d → d ≤ 7 → 0 ≤ left → left ≤ 120 → L65 o d left := by
  match o, hT with
  | .mk k n s ks kids, hT =>
    have hk : ∀ o ∈ kids, Tn o := by cases hT; assumption
    have hr : ∀ o ∈ kids, ∀ d left : Int, 0 ≤ d → d ≤ 7 → 0 ≤ left → left ≤ 120 → L65 o d left := fun o ho => oc65' o (hk o ho)
    exact fun d left h0 h1 h2 h3 => oc65 k n s ks kids hT d left h0 h1 h2 h3 fun h o ho x hx0 hx1 => hr o ho (d + 1) x (by omega) h hx0 hx1
termination_by o
decreasing_by
  have := List.sizeOf_lt_of_mem ho
  simp only [Ob.mk.sizeOf_spec]
  omega
theorem oc26 (o : Ob) (hT : Tn o) : CS Tryz.prog false 21 [.v o.t] [.bool (decide (cntO o 0 ≤ 120))] [] := by
  have hc := oc65' o hT 0 120 (by omega) (by omega) (by omega) (by omega)
  have he := (lefP_yes o 0 120 (by omega) (by omega)).1
  unfold L65 at hc
  rw [he] at hc
  generalize (lefP o 0 120).2 = y at hc
  generalize decide (cntO o 0 ≤ 120) = b at hc ⊢
  obtain ⟨k, n, s, ks, kids⟩ := o
  rw [Ob.t_mk] at hc ⊢
  refine CS_act tab_ok mdO Tryz.func21 rfl rfl Tryz.ntmps21 (rl := [.tmp 2]) rfl (Nat.le_of_ble_eq_true rfl) ?_
  simp only [go_sem]
  refine act_callE hc ?_
  simp only [go_sem]
end Go.Proofs.YtikegeligblekaaGreat.M
