/- Contracts: WordOk, part 2. No condition. -/
import Derived.Test.YtbmdncjnnlajnaaWord
namespace Go.Proofs.Ytbmdncjnnlajnaa.M
open Go Go.Proofs
set_option maxRecDepth 100000
set_option maxHeartbeats 2000000
set_option linter.unusedSimpArgs false
theorem c116 (s : ByteArray) (c : Int) : CS Try.prog true 116 [.v (.str s), .v (.int .u8 c)] [.int .i64 (Lib.indexByte s.data.toList c.toNat.toUInt8)] [] :=
  CS_indexByteString Try.func116 (by kernel_rfl) (by kernel_rfl) (by kernel_rfl) (by kernel_rfl) s c
theorem c110 (s : ByteArray) (c : Int) : CS Try.prog true 110 [.v (.str s), .v (.int .u8 c)] [.int .i64 (Lib.indexByte s.data.toList c.toNat.toUInt8)] [] := by
  refine CS_act tab_ok md Try.func110 rfl rfl Try.ntmps110 (rl := [.tmp 4]) rfl (Nat.le_of_ble_eq_true rfl) ?_
  simp only [go_sem]
  refine act_callE (c116 _ _) ?_
  simp only [go_sem]
theorem c91 (s : ByteArray) (c : Int) : CS Try.prog true 91 [.v (.str s), .v (.int .u8 c)] [.int .i64 (Lib.indexByte s.data.toList c.toNat.toUInt8)] [] := by
  refine CS_act tab_ok md Try.func91 rfl rfl Try.ntmps91 (rl := [.tmp 4]) rfl (Nat.le_of_ble_eq_true rfl) ?_
  simp only [go_sem]
  refine act_callE (c110 _ _) ?_
  simp only [go_sem]
def plainB (x : Int) : Bool := inB x 33 126 && !markB x
theorem c49 (x : Int) : CS Try.prog true 49 [.v (.int .u8 x)] [.bool (plainB x)] [] := by
  refine CS_act tab_ok md Try.func49 rfl rfl Try.ntmps49 (rl := [.tmp 2]) rfl (Nat.le_of_ble_eq_true rfl) ?_
  simp only [go_sem]
  refine act_split (fun h => ?_) (fun h => ?_) <;> simp only [go_sem, h]
  · refine act_split (fun h2 => ?_) (fun h2 => ?_) <;> simp only [go_sem, h2]
    · refine act_callE (c90 _) ?_
      simp only [go_sem]
      simp_all [plainB, inB]
    · simp_all [plainB, inB]; intros; omega
  · simp_all [plainB, inB]; intros; omega
theorem mark_eq (x : Int) (h0 : 0 ≤ x) (h1 : x < 256) : decide (Lib.indexByte [40, 41, 60, 62, 91, 93, 123, 125, 47, 37] x.toNat.toUInt8 < 0) = !markB x := by
  obtain ⟨n, rfl⟩ : ∃ n : Nat, x = n := ⟨x.toNat, by omega⟩
  have hn : n < 256 := by omega
  have key : ∀ m : Fin 256, decide (Lib.indexByte [40, 41, 60, 62, 91, 93, 123, 125, 47, 37] (m.val : Int).toNat.toUInt8 < 0) = !markB (m.val : Int) := by decide +kernel
  exact key ⟨n, hn⟩
theorem c50 (x : Int) (h0 : 0 ≤ x) (h1 : x < 256) : CS Try.prog true 50 [.v (.int .u8 x)] [.bool (plainB x)] [] := by
  refine CS_act tab_ok md Try.func50 rfl rfl Try.ntmps50 (rl := [.tmp 2]) rfl (Nat.le_of_ble_eq_true rfl) ?_
  simp only [go_sem, wrap64 (n := x) (by omega) (by omega)]
  refine act_callE (c45 _ _ _) ?_
  simp only [go_sem]
  refine act_split (fun h => ?_) (fun h => ?_) <;> simp only [go_sem, h]
  · refine act_callE (c91 _ _) ?_
    simp only [go_sem]
    have := mark_eq x h0 h1
    simp_all [plainB]
  · simp_all [plainB]
end Go.Proofs.Ytbmdncjnnlajnaa.M
