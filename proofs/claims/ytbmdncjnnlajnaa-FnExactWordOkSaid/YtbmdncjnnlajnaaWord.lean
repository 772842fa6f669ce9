/- Contracts: WordOk and what it calls. No condition. -/
import Derived.Test.YtbmdncjnnlajnaaTo
namespace Go.Proofs.Ytbmdncjnnlajnaa.M
open Go Go.Proofs
set_option maxRecDepth 100000
set_option maxHeartbeats 2000000
set_option linter.unusedSimpArgs false
@[go_sem] def md : Nat → Bool := fun _ => true
attribute [go_sem] beq_false
theorem act_split_not {c : Bool} {A B : Prop} {a : Shut A} {b : Shut B} (h1 : c = false → act A) (h2 : c = true → act B) : act (brK (!c) A B a b) :=
  ⟨fun h => h1 (by simpa using h), fun h => h2 (by simpa using h)⟩
theorem wrap64 {n : Int} (h0 : -9223372036854775808 ≤ n) (h1 : n < 9223372036854775808) : IntKind.wrap .i64 n = n := by
  simp only [IntKind.wrap, IntKind.bits, IntKind.signed]; simp; split <;> omega

def inB (x l m : Int) : Bool := decide (x ≥ l) && decide (x ≤ m)
theorem c44 (x l m : Int) : CS Try.prog true 44 [.v (.int .i64 x), .v (.int .i64 l), .v (.int .i64 m)] [.bool (inB x l m)] [] := by
  refine CS_act tab_ok md Try.func44 rfl rfl Try.ntmps44 (rl := [.tmp 6]) rfl (Nat.le_of_ble_eq_true rfl) ?_
  simp only [go_sem]
  refine act_split (fun h => ?_) (fun h => ?_) <;> simp only [go_sem, h, inB]
theorem c45 (x l m : Int) : CS Try.prog true 45 [.v (.int .i64 x), .v (.int .i64 l), .v (.int .i64 m)] [.bool (inB x l m)] [] := by
  refine CS_act tab_ok md Try.func45 rfl rfl Try.ntmps45 (rl := [.tmp 6]) rfl (Nat.le_of_ble_eq_true rfl) ?_
  simp only [go_sem]
  refine act_split (fun h => ?_) (fun h => ?_) <;> simp only [go_sem, h, inB]
  all_goals simp_all [inB]
def markB (x : Int) : Bool := x == 40 || x == 41 || x == 60 || x == 62 || x == 91 || x == 93 || x == 123 || x == 125 || x == 47 || x == 37
theorem c90 (x : Int) : CS Try.prog true 90 [.v (.int .u8 x)] [.bool (markB x)] [] := by
  refine CS_act tab_ok md Try.func90 rfl rfl Try.ntmps90 (rl := [.tmp 2]) rfl (Nat.le_of_ble_eq_true rfl) ?_
  simp only [go_sem]
  repeat' (first | (refine act_split_not (fun h => ?_) (fun h => ?_) <;> simp only [go_sem, h]) | (refine act_split (fun h => ?_) (fun h => ?_) <;> simp only [go_sem, h]))
  all_goals simp_all [markB]
end Go.Proofs.Ytbmdncjnnlajnaa.M
