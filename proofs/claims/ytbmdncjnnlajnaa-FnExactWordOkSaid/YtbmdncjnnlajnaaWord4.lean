/- Contracts: WordOk, part 4: the reference and the law. No condition. -/
import Derived.Test.YtbmdncjnnlajnaaWord3
namespace Go.Proofs.Ytbmdncjnnlajnaa.M
open Go Go.Proofs
set_option maxRecDepth 100000
set_option maxHeartbeats 2000000
set_option linter.unusedSimpArgs false
theorem c17 (s : ByteArray) (hs : s.size ≤ 1048576) : CS Try.prog true 17 [.v (.str s)] [.bool (wordB s)] [] := by
  refine CS_act tab_ok md Try.func17 rfl rfl Try.ntmps17 (rl := [.tmp 2]) rfl (Nat.le_of_ble_eq_true rfl) ?_
  simp only [go_sem]
  refine act_loop_of (md := md) tab_ok [0,3] [] 1000 (ι := {i : Nat // i ≤ s.size ∧ ∀ j, j < i → okB (bt s j) = true}) (fun i => ⟨[(0, .a (.c (.t (.str s)))), (3, .a (.c (.t (.int .i64 i.1))))], [], 1000, 29⟩) (fun i => s.size - i.1) ⟨0, by omega, by simp⟩ (Nat.le_of_ble_eq_true rfl) (by simp only [go_sem]) (by simp only [go_sem]; rfl) fun i => ?_
  obtain ⟨i, hi, ht⟩ := i
  have hb := bt_lt s i
  have e : ((s.data.getD (i : Int).toNat 0).toNat : Int) = bt s i := rfl
  simp only [go_sem]
  refine act_split (fun h => ?_) (fun h => ?_) <;> simp only [go_sem, h] <;> simp only [decide_eq_true_eq, decide_eq_false_iff_not] at h
  · refine act_split (fun h1 => ?_) (fun h1 => ?_) <;> simp only [go_sem, h1] <;> simp only [decide_eq_true_eq, decide_eq_false_iff_not] at h1
    · refine ⟨by omega, by omega, ?_⟩
      simp only [e]
      refine act_callE (c49 _) ?_
      simp only [go_sem, e]
      refine act_split (fun h2 => ?_) (fun h2 => ?_) <;> simp only [go_sem, h2, e]
      · refine ⟨by omega, by omega, ?_⟩
        refine act_split (fun h3 => ?_) (fun h3 => ?_) <;> simp only [go_sem]
        · rw [wordB_no (i := i) (by omega) (by simp [okB, h3])]
        · refine nextK_of ⟨i + 1, by omega, fun j hj => ?_⟩ (by simp only [go_sem]) ?_ (by dsimp only; omega)
          · rcases Nat.lt_succ_iff_lt_or_eq.1 hj with hj | rfl
            · exact ht j hj
            · simp [okB, h2, h3]
          · simp only [go_sem]
            rw [wrap64 (by omega) (by omega)]; rfl
      · rw [wordB_no (i := i) (by omega) (by simp [okB, h2])]
    · refine act_callE (c44 _ _ _) ?_
      simp only [go_sem]
      rw [wordB_long (by omega)]
  · refine act_callE (c44 _ _ _) ?_
    simp only [go_sem]
    rw [wordB_yes fun j hj => ht j (by omega)]
theorem c5 (s : ByteArray) : CS Try.prog true 5 [.v (.str s)] [.bool true] [] := by
  refine CS_act tab_ok md Try.func5 rfl rfl Try.ntmps5 (rl := [.tmp 2]) rfl (Nat.le_of_ble_eq_true rfl) ?_
  simp only [go_sem]
  refine act_split (fun h => ?_) (fun h => ?_) <;> simp only [go_sem] <;> simp only [decide_eq_true_eq, decide_eq_false_iff_not] at h
  refine act_callE (c17 s (by omega)) ?_
  simp only [go_sem]
  refine act_callE (c18 s (by omega)) ?_
  simp only [go_sem]
end Go.Proofs.Ytbmdncjnnlajnaa.M
