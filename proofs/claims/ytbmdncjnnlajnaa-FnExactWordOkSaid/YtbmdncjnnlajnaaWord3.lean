/- Contracts: WordOk, part 3. No condition. -/
import Derived.Test.YtbmdncjnnlajnaaWord2
namespace Go.Proofs.Ytbmdncjnnlajnaa.M
open Go Go.Proofs
set_option maxRecDepth 100000
set_option maxHeartbeats 2000000
set_option linter.unusedSimpArgs false
attribute [go_sem] Bool.not_not
def bt (s : ByteArray) (j : Nat) : Int := ((s.data.getD j 0).toNat : Int)
theorem bt_lt (s : ByteArray) (j : Nat) : 0 ≤ bt s j ∧ bt s j < 256 := by
  unfold bt; have := (s.data.getD j 0).toNat_lt; omega
def okB (x : Int) : Bool := plainB x && !(x == 35)
def wordB (s : ByteArray) : Bool := inB s.size 1 40 && (List.range s.size).all fun j => okB (bt s j)
theorem wordB_no {s : ByteArray} {i : Nat} (hi : i < s.size) (h : okB (bt s i) = false) : wordB s = false := by
  unfold wordB
  rw [Bool.and_eq_false_iff]
  right
  rw [List.all_eq_false]
  exact ⟨i, List.mem_range.2 hi, by simp [h]⟩
theorem wordB_yes {s : ByteArray} (h : ∀ j, j < s.size → okB (bt s j) = true) : wordB s = inB s.size 1 40 := by
  unfold wordB
  rw [List.all_eq_true.2 fun j hj => h j (List.mem_range.1 hj), Bool.and_true]
theorem wordB_long {s : ByteArray} (h : 40 < s.size) : wordB s = inB s.size 1 40 := by
  have : inB s.size 1 40 = false := by simp [inB]; omega
  unfold wordB
  rw [this, Bool.false_and]
theorem c18 (s : ByteArray) (hs : s.size ≤ 1048576) : CS Try.prog true 18 [.v (.str s)] [.bool (wordB s)] [] := by
  refine CS_act tab_ok md Try.func18 rfl rfl Try.ntmps18 (rl := [.tmp 2]) rfl (Nat.le_of_ble_eq_true rfl) ?_
  simp only [go_sem]
  refine act_loop_of (md := md) tab_ok [0,5,6] [] 1000 (ι := {i : Nat // i ≤ s.size ∧ ∀ j, j < i → okB (bt s j) = true}) (fun i => ⟨[(0, .a (.c (.t (.str s)))), (5, .a (.c (.t (.int .i64 s.size)))), (6, .a (.c (.t (.int .i64 i.1))))], [], 1000, 24⟩) (fun i => s.size - i.1) ⟨0, by omega, by simp⟩ (Nat.le_of_ble_eq_true rfl) (by simp only [go_sem]) (by simp only [go_sem]; rfl) fun i => ?_
  obtain ⟨i, hi, ht⟩ := i
  have hb := bt_lt s i
  simp only [go_sem]
  refine act_split (fun h => ?_) (fun h => ?_) <;> simp only [go_sem] <;> simp only [decide_eq_true_eq, decide_eq_false_iff_not] at h
  · refine ⟨by omega, by omega, ?_⟩
    have e : ((s.data.getD (i : Int).toNat 0).toNat : Int) = bt s i := rfl
    simp only [e]
    refine act_callE (c50 _ hb.1 hb.2) ?_
    simp only [go_sem, e]
    refine act_split (fun h2 => ?_) (fun h2 => ?_) <;> simp only [go_sem, h2, e]
    · refine ⟨by omega, by omega, ?_⟩
      refine act_split (fun h3 => ?_) (fun h3 => ?_) <;> simp only [go_sem]
      · rw [wordB_no (i := i) (by omega) (by simp [okB, h3])]
      · refine nextK_of ⟨i + 1, by omega, fun j hj => ?_⟩ (by simp only [go_sem]) ?_ (by dsimp only; omega)
        · rcases Nat.lt_succ_iff_lt_or_eq.1 hj with hj | rfl
          · exact ht j hj
          · simp [okB, h2, h3]
        · simp only [go_sem]
          rw [wrap64 (by omega) (by omega)]; rfl
    · rw [wordB_no (i := i) (by omega) (by simp [okB, h2])]
  · refine act_callE (c45 _ _ _) ?_
    simp only [go_sem]
    rw [wordB_yes fun j hj => ht j (by omega)]
end Go.Proofs.Ytbmdncjnnlajnaa.M
