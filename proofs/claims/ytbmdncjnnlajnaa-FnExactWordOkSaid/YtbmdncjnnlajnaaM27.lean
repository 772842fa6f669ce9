/- A machine of values: loops, in the engine's form. No condition. -/
import Derived.Test.YtbmdncjnnlajnaaM26
namespace Go.Proofs.Ytbmdncjnnlajnaa.M
open Go
set_option linter.unusedSimpArgs false
set_option linter.unusedVariables false

def loopQ {ι : Type} (ks hs : List Nat) (n : Nat) (S : ι → St) (m : ι → Nat) (i : ι) (Q : X → St → Prop) (x : X) (s : St) : Prop :=
  match x with
  | .normal => tidyB hs n (tidy ks hs n s) = true ∧ ∃ j, m j < m i ∧ tidy ks hs n s = S j
  | .exit e => Q (.exit e) s
  | .ret => Q .ret s
/-- The end of a round. -/
def nextK {ι : Type} (ks hs : List Nat) (n : Nat) (S : ι → St) (m : ι → Nat) (i : ι) (s : St) : Prop := tidyB hs n (tidy ks hs n s) = true ∧ ∃ j, m j < m i ∧ tidy ks hs n s = S j

section
variable {P : Program} {τ : Tab} {md : Nat → Bool} {ι : Type} {ks hs : List Nat} {n : Nat} {S : ι → St} {m : ι → Nat} {i : ι} {Q : X → St → Prop} {s : St}
theorem loopQ_normal : act (loopQ ks hs n S m i Q .normal s) = nextK ks hs n S m i s := (rfl)
theorem loopQ_exit {e : Nat} : act (loopQ ks hs n S m i Q (.exit e) s) = act (Q (.exit e) s) := (rfl)
theorem loopQ_ret : act (loopQ ks hs n S m i Q .ret s) = act (Q .ret s) := (rfl)
theorem nextK_of (j : ι) (h1 : tidyB hs n (tidy ks hs n s) = true) (h2 : tidy ks hs n s = S j) (h3 : m j < m i) : nextK ks hs n S m i s := ⟨h1, j, h3, h2⟩
theorem act_loop_of {c : Code} {x : Shut (Code.loop c)} {y : Shut Q} (hτ : TOk P τ) (ks hs : List Nat) (n : Nat) (S : ι → St) (m : ι → Nat) (i : ι) (hsn : s.nx ≤ n) (h0 : tidyB hs n (tidy ks hs n s) = true) (h1 : tidy ks hs n s = S i)
    (round : ∀ i, act (W P τ md c (S i) (loopQ ks hs n S m i Q))) : WWE P (.loop c) s Q x y := by
  refine W_loop (md := md) hτ ks hs n S m i hsn h0 h1 fun i _ => ?_
  exact (congrArg (W P τ md c (S i)) (by funext x s; cases x <;> rfl)).mp (round i)
end
attribute [go_sem] loopQ_normal loopQ_exit loopQ_ret tidy tidyB refC refA refV List.filter_cons List.filter_nil List.any_cons List.any_nil
end Go.Proofs.Ytbmdncjnnlajnaa.M
