/- FnExactBlockTypes' law: its walk. No condition. -/
import Derived.Test.YtkejldfbeccmmaaKExactBlockTypes5
/- FnExactBlockTypes' law: its walk. No condition. -/
namespace Go.Proofs.Ytkejldfbeccmmaa.M
open Go Go.Proofs
set_option maxRecDepth 100000
set_option maxHeartbeats 2000000
set_option linter.unusedSimpArgs false
set_option linter.unusedVariables false
theorem infL_ty {s : ByteArray} {m : Nat} : ∀ f r, r.at' ≤ 8 * s.size → r.out.length ≤ m → r.ty.length ≤ r.at' → (infL s m f r).ty.length ≤ 8 * s.size
  | 0, r, h1, h2, h3 => Nat.le_trans h3 h1
  | f + 1, r, h1, h2, h3 => by
    obtain ⟨b1, b2, b3, b4⟩ := bl_adv (s := s) (most := m) h1 h2 h3
    rw [infL]
    split
    · exact Nat.le_trans b3 b1
    · exact infL_ty f _ b1 b2 b3
theorem infR_ty {s : ByteArray} {most : Int} (h : (infR s most).code = 0) : (infR s most).ty.length ≤ 1000000 := by
  have hs := (infR_small h).1
  unfold infR at h ⊢
  by_cases hl : longB s most = true
  · rw [if_pos hl] at h; cases h
  · rw [if_neg hl]
    exact Nat.le_trans (infL_ty _ _ (by simp) (by simp) (by simp)) (by omega)
theorem tyT_ex (s : ByteArray) (most : Int) : ∃ L b, tyT (infR s most) = [.list 1 (nv L), .bool b] ∧ L.length ≤ 1000000 := by
  by_cases h : (infR s most).code = 0
  · exact ⟨_, _, if_pos h, infR_ty h⟩
  · exact ⟨[], _, if_neg h, by simp⟩
theorem c5 (s : ByteArray) (most : Int) : CS Try.prog true 5 [.v (.str s), .v (.int .i64 most)] [.bool true] [] := by
  obtain ⟨L, b, hL, hlen⟩ := tyT_ex s most
  have h16 := c16 s most
  have h17 := c17 s most
  rw [ty_eq, hL] at h16
  rw [hL] at h17
  have h18 := c18 L hlen
  have h20 := c20 1 L.length (by decide) hlen
  by_cases hn : L = []
  · subst hn
    have h19 := c19e 1
    refine CS_act tab_ok (md3 true) Try.func5 rfl rfl Try.ntmps5 (rl := [.tmp 4]) rfl (Nat.le_of_ble_eq_true rfl) ?_
    have eb : (b != b) = false := by cases b <;> rfl
    simp only [go_sem]
    by_cases hbig : s.size > 1048576
    · have e1 : decide ((s.size : Int) > 1048576) = true := by simp; omega
      simp only [go_sem, e1]
    have e1 : decide ((s.size : Int) > 1048576) = false := by simp; omega
    simp only [go_sem, e1]
    refine act_callE h16 ?_
    simp only [go_sem]
    refine act_callE h17 ?_
    simp only [go_sem]
    refine act_callE h18 ?_
    simp only [go_sem, eb]
    refine act_callE h19 ?_
    simp only [go_sem]
    refine act_callE h20 ?_
    have e2 : decide (((1 : Nat) : Int) < 0) = false := rfl
    have e3 : (((1 : Nat) : Int) != ((1 : Nat) : Int)) = false := rfl
    simp only [go_sem, e2, e3]
    refine act_callE h17 ?_
    simp only [go_sem]
    refine act_callE h18 ?_
    simp only [go_sem, eb]
    refine act_callE h20 ?_
    simp only [go_sem, e2, e3]
  · have hpos : 0 < L.length := List.length_pos_iff.2 hn
    have h19 := c19 L 1 hlen (by decide)
    refine CS_act tab_ok (md3 false) Try.func5 rfl rfl Try.ntmps5 (rl := [.tmp 4]) rfl (Nat.le_of_ble_eq_true rfl) ?_
    have eb : (b != b) = false := by cases b <;> rfl
    simp only [go_sem]
    by_cases hbig : s.size > 1048576
    · have e1 : decide ((s.size : Int) > 1048576) = true := by simp; omega
      simp only [go_sem, e1]
    have e1 : decide ((s.size : Int) > 1048576) = false := by simp; omega
    simp only [go_sem, e1]
    refine act_callE h16 ?_
    simp only [go_sem]
    refine act_callE h17 ?_
    simp only [go_sem]
    refine act_callE h18 ?_
    simp only [go_sem, eb]
    refine ⟨hpos, ?_⟩
    refine act_callE h19 ?_
    have hl := mkL_len 1 L.length
    have e2 : decide (((1 + L.length : Nat) : Int) < 0) = false := by simp; omega
    have e3 : (((1 + L.length : Nat) : Int) != ((1 + L.length : Nat) : Int)) = false := by simp
    have ht : List.take L.length (nv (mkL 1 L.length)) = nv (mkL 1 L.length) := List.take_of_length_le (by rw [len_nv, hl]; exact Nat.le_refl _)
    simp only [go_sem, ht]
    refine act_callE h20 ?_
    simp only [go_sem, e2, e3]
    refine act_callE h17 ?_
    simp only [go_sem, take_nv]
    refine act_callE h18 ?_
    simp only [go_sem, eb, ht]
    refine act_callE h20 ?_
    simp only [go_sem, e2, e3]
end Go.Proofs.Ytkejldfbeccmmaa.M
