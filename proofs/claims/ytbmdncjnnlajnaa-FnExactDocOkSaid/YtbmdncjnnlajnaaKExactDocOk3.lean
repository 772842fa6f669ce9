/- A machine of values: an operation's outcome is one. No condition. Made by gen29.py. -/
import Derived.Orders
import Derived.Laws.Externs
import Derived.Lib.Bytealg
import Derived.Test.YtbmdncjnnlajnaaRows
import Derived.ReadAgain
import Derived.WalkKit
import Derived.ProofKit
import Derived.OpenShut
import Derived.ShutString
import Derived.ChangeOld
import Derived.Below
import Derived.SizedLaws
import Derived.Test.YtbmdncjnnlajnaaProg
import Derived.Test.YtbmdncjnnlajnaaKExactDocOk2
/- A machine of values: an operation's outcome is one. No condition. Made by gen29.py. -/
namespace Go.Proofs.Ytbmdncjnnlajnaa.M
open Go
set_option linter.unusedSimpArgs false
set_option linter.unusedVariables false
set_option linter.unusedSectionVars false

theorem op_det {P : Program} {τ : Tab} {md : Nat → Bool} {o : Oper} {s : St} {n : Nat} {K : AV → List (Nat × Blk) → Prop} (h : op P τ md o s n K) :
    ∃ v u, K v u ∧ ∀ K' : AV → List (Nat × Blk) → Prop, K' v u → op P τ md o s n K' := by
  cases ho : o.op with
  | move x =>
    simp only [op, ho] at h ⊢
    (repeat' split at h) <;> ((try simp only [*, reduceIte, true_and]); first
      | exact h.elim
      | exact ⟨_, _, h, fun _ h' => h'⟩
      | exact ⟨_, _, h.2, fun _ h' => h'⟩
      | exact ⟨_, _, h.2.2, fun _ h' => h'⟩
      | exact ⟨_, _, h.2.2.2, fun _ h' => h'⟩
      | exact ⟨_, _, h.2.2.2.2, fun _ h' => h'⟩
      | exact ⟨_, _, h.2, fun _ h' => ⟨h.1, h'⟩⟩
      | exact ⟨_, _, h.2.2, fun _ h' => ⟨h.1, h.2.1, h'⟩⟩
      | exact ⟨_, _, h.2.2.2, fun _ h' => ⟨h.1, h.2.1, h.2.2.1, h'⟩⟩
      | exact ⟨_, _, h.2.2.2.2, fun _ h' => ⟨h.1, h.2.1, h.2.2.1, h.2.2.2.1, h'⟩⟩
      | (obtain ⟨x1, x2, x3⟩ := partK_det h; exact ⟨_, _, x2, fun _ h' => x3 _ h'⟩)
      | (obtain ⟨x1, x2, x3⟩ := fillK_det h; exact ⟨_, _, x2, fun _ h' => x3 _ h'⟩)
      | (obtain ⟨x1, x2, x3⟩ := binT_det h; exact ⟨_, _, x2, fun _ h' => x3 _ h'⟩)
      | (obtain ⟨x1, x4, x2, x3⟩ := cutK_det h; exact ⟨_, _, x2, fun _ h' => x3 _ h'⟩)
      | (obtain ⟨x1, x4, x2, x3⟩ := callK_det h; exact ⟨_, _, x2, fun _ h' => x3 _ h'⟩)
      | (obtain ⟨x1, x2, x3⟩ := h; subst x1; exact ⟨_, _, x3, fun _ h' => h'⟩)
      | skip)
  | assign x =>
    simp only [op, ho] at h ⊢
    (repeat' split at h) <;> ((try simp only [*, reduceIte, true_and]); first
      | exact h.elim
      | exact ⟨_, _, h, fun _ h' => h'⟩
      | exact ⟨_, _, h.2, fun _ h' => h'⟩
      | exact ⟨_, _, h.2.2, fun _ h' => h'⟩
      | exact ⟨_, _, h.2.2.2, fun _ h' => h'⟩
      | exact ⟨_, _, h.2.2.2.2, fun _ h' => h'⟩
      | exact ⟨_, _, h.2, fun _ h' => ⟨h.1, h'⟩⟩
      | exact ⟨_, _, h.2.2, fun _ h' => ⟨h.1, h.2.1, h'⟩⟩
      | exact ⟨_, _, h.2.2.2, fun _ h' => ⟨h.1, h.2.1, h.2.2.1, h'⟩⟩
      | exact ⟨_, _, h.2.2.2.2, fun _ h' => ⟨h.1, h.2.1, h.2.2.1, h.2.2.2.1, h'⟩⟩
      | (obtain ⟨x1, x2, x3⟩ := partK_det h; exact ⟨_, _, x2, fun _ h' => x3 _ h'⟩)
      | (obtain ⟨x1, x2, x3⟩ := fillK_det h; exact ⟨_, _, x2, fun _ h' => x3 _ h'⟩)
      | (obtain ⟨x1, x2, x3⟩ := binT_det h; exact ⟨_, _, x2, fun _ h' => x3 _ h'⟩)
      | (obtain ⟨x1, x4, x2, x3⟩ := cutK_det h; exact ⟨_, _, x2, fun _ h' => x3 _ h'⟩)
      | (obtain ⟨x1, x4, x2, x3⟩ := callK_det h; exact ⟨_, _, x2, fun _ h' => x3 _ h'⟩)
      | (obtain ⟨x1, x2, x3⟩ := h; subst x1; exact ⟨_, _, x3, fun _ h' => h'⟩)
      | skip)
  | alloc t =>
    simp only [op, ho] at h ⊢
    (repeat' split at h) <;> ((try simp only [*, reduceIte, true_and]); first
      | exact h.elim
      | exact ⟨_, _, h, fun _ h' => h'⟩
      | exact ⟨_, _, h.2, fun _ h' => h'⟩
      | exact ⟨_, _, h.2.2, fun _ h' => h'⟩
      | exact ⟨_, _, h.2.2.2, fun _ h' => h'⟩
      | exact ⟨_, _, h.2.2.2.2, fun _ h' => h'⟩
      | exact ⟨_, _, h.2, fun _ h' => ⟨h.1, h'⟩⟩
      | exact ⟨_, _, h.2.2, fun _ h' => ⟨h.1, h.2.1, h'⟩⟩
      | exact ⟨_, _, h.2.2.2, fun _ h' => ⟨h.1, h.2.1, h.2.2.1, h'⟩⟩
      | exact ⟨_, _, h.2.2.2.2, fun _ h' => ⟨h.1, h.2.1, h.2.2.1, h.2.2.2.1, h'⟩⟩
      | (obtain ⟨x1, x2, x3⟩ := partK_det h; exact ⟨_, _, x2, fun _ h' => x3 _ h'⟩)
      | (obtain ⟨x1, x2, x3⟩ := fillK_det h; exact ⟨_, _, x2, fun _ h' => x3 _ h'⟩)
      | (obtain ⟨x1, x2, x3⟩ := binT_det h; exact ⟨_, _, x2, fun _ h' => x3 _ h'⟩)
      | (obtain ⟨x1, x4, x2, x3⟩ := cutK_det h; exact ⟨_, _, x2, fun _ h' => x3 _ h'⟩)
      | (obtain ⟨x1, x4, x2, x3⟩ := callK_det h; exact ⟨_, _, x2, fun _ h' => x3 _ h'⟩)
      | (obtain ⟨x1, x2, x3⟩ := h; subst x1; exact ⟨_, _, x3, fun _ h' => h'⟩)
      | skip)
  | box t x =>
    simp only [op, ho] at h ⊢
    (repeat' split at h) <;> ((try simp only [*, reduceIte, true_and]); first
      | exact h.elim
      | exact ⟨_, _, h, fun _ h' => h'⟩
      | exact ⟨_, _, h.2, fun _ h' => h'⟩
      | exact ⟨_, _, h.2.2, fun _ h' => h'⟩
      | exact ⟨_, _, h.2.2.2, fun _ h' => h'⟩
      | exact ⟨_, _, h.2.2.2.2, fun _ h' => h'⟩
      | exact ⟨_, _, h.2, fun _ h' => ⟨h.1, h'⟩⟩
      | exact ⟨_, _, h.2.2, fun _ h' => ⟨h.1, h.2.1, h'⟩⟩
      | exact ⟨_, _, h.2.2.2, fun _ h' => ⟨h.1, h.2.1, h.2.2.1, h'⟩⟩
      | exact ⟨_, _, h.2.2.2.2, fun _ h' => ⟨h.1, h.2.1, h.2.2.1, h.2.2.2.1, h'⟩⟩
      | (obtain ⟨x1, x2, x3⟩ := partK_det h; exact ⟨_, _, x2, fun _ h' => x3 _ h'⟩)
      | (obtain ⟨x1, x2, x3⟩ := fillK_det h; exact ⟨_, _, x2, fun _ h' => x3 _ h'⟩)
      | (obtain ⟨x1, x2, x3⟩ := binT_det h; exact ⟨_, _, x2, fun _ h' => x3 _ h'⟩)
      | (obtain ⟨x1, x4, x2, x3⟩ := cutK_det h; exact ⟨_, _, x2, fun _ h' => x3 _ h'⟩)
      | (obtain ⟨x1, x4, x2, x3⟩ := callK_det h; exact ⟨_, _, x2, fun _ h' => x3 _ h'⟩)
      | (obtain ⟨x1, x2, x3⟩ := h; subst x1; exact ⟨_, _, x3, fun _ h' => h'⟩)
      | skip)
  | build t ps =>
    simp only [op, ho] at h ⊢
    (repeat' split at h) <;> ((try simp only [*, reduceIte, true_and]); first
      | exact h.elim
      | exact ⟨_, _, h, fun _ h' => h'⟩
      | exact ⟨_, _, h.2, fun _ h' => h'⟩
      | exact ⟨_, _, h.2.2, fun _ h' => h'⟩
      | exact ⟨_, _, h.2.2.2, fun _ h' => h'⟩
      | exact ⟨_, _, h.2.2.2.2, fun _ h' => h'⟩
      | exact ⟨_, _, h.2, fun _ h' => ⟨h.1, h'⟩⟩
      | exact ⟨_, _, h.2.2, fun _ h' => ⟨h.1, h.2.1, h'⟩⟩
      | exact ⟨_, _, h.2.2.2, fun _ h' => ⟨h.1, h.2.1, h.2.2.1, h'⟩⟩
      | exact ⟨_, _, h.2.2.2.2, fun _ h' => ⟨h.1, h.2.1, h.2.2.1, h.2.2.2.1, h'⟩⟩
      | (obtain ⟨x1, x2, x3⟩ := partK_det h; exact ⟨_, _, x2, fun _ h' => x3 _ h'⟩)
      | (obtain ⟨x1, x2, x3⟩ := fillK_det h; exact ⟨_, _, x2, fun _ h' => x3 _ h'⟩)
      | (obtain ⟨x1, x2, x3⟩ := binT_det h; exact ⟨_, _, x2, fun _ h' => x3 _ h'⟩)
      | (obtain ⟨x1, x4, x2, x3⟩ := cutK_det h; exact ⟨_, _, x2, fun _ h' => x3 _ h'⟩)
      | (obtain ⟨x1, x4, x2, x3⟩ := callK_det h; exact ⟨_, _, x2, fun _ h' => x3 _ h'⟩)
      | (obtain ⟨x1, x2, x3⟩ := h; subst x1; exact ⟨_, _, x3, fun _ h' => h'⟩)
      | skip)
  | load t x =>
    simp only [op, ho] at h ⊢
    (repeat' split at h) <;> ((try simp only [*, reduceIte, true_and]); first
      | exact h.elim
      | exact ⟨_, _, h, fun _ h' => h'⟩
      | exact ⟨_, _, h.2, fun _ h' => h'⟩
      | exact ⟨_, _, h.2.2, fun _ h' => h'⟩
      | exact ⟨_, _, h.2.2.2, fun _ h' => h'⟩
      | exact ⟨_, _, h.2.2.2.2, fun _ h' => h'⟩
      | exact ⟨_, _, h.2, fun _ h' => ⟨h.1, h'⟩⟩
      | exact ⟨_, _, h.2.2, fun _ h' => ⟨h.1, h.2.1, h'⟩⟩
      | exact ⟨_, _, h.2.2.2, fun _ h' => ⟨h.1, h.2.1, h.2.2.1, h'⟩⟩
      | exact ⟨_, _, h.2.2.2.2, fun _ h' => ⟨h.1, h.2.1, h.2.2.1, h.2.2.2.1, h'⟩⟩
      | (obtain ⟨x1, x2, x3⟩ := partK_det h; exact ⟨_, _, x2, fun _ h' => x3 _ h'⟩)
      | (obtain ⟨x1, x2, x3⟩ := fillK_det h; exact ⟨_, _, x2, fun _ h' => x3 _ h'⟩)
      | (obtain ⟨x1, x2, x3⟩ := binT_det h; exact ⟨_, _, x2, fun _ h' => x3 _ h'⟩)
      | (obtain ⟨x1, x4, x2, x3⟩ := cutK_det h; exact ⟨_, _, x2, fun _ h' => x3 _ h'⟩)
      | (obtain ⟨x1, x4, x2, x3⟩ := callK_det h; exact ⟨_, _, x2, fun _ h' => x3 _ h'⟩)
      | (obtain ⟨x1, x2, x3⟩ := h; subst x1; exact ⟨_, _, x3, fun _ h' => h'⟩)
      | skip)
  | store t x y =>
    simp only [op, ho] at h ⊢
    (repeat' split at h) <;> ((try simp only [*, reduceIte, true_and]); first
      | exact h.elim
      | exact ⟨_, _, h, fun _ h' => h'⟩
      | exact ⟨_, _, h.2, fun _ h' => h'⟩
      | exact ⟨_, _, h.2.2, fun _ h' => h'⟩
      | exact ⟨_, _, h.2.2.2, fun _ h' => h'⟩
      | exact ⟨_, _, h.2.2.2.2, fun _ h' => h'⟩
      | exact ⟨_, _, h.2, fun _ h' => ⟨h.1, h'⟩⟩
      | exact ⟨_, _, h.2.2, fun _ h' => ⟨h.1, h.2.1, h'⟩⟩
      | exact ⟨_, _, h.2.2.2, fun _ h' => ⟨h.1, h.2.1, h.2.2.1, h'⟩⟩
      | exact ⟨_, _, h.2.2.2.2, fun _ h' => ⟨h.1, h.2.1, h.2.2.1, h.2.2.2.1, h'⟩⟩
      | (obtain ⟨x1, x2, x3⟩ := partK_det h; exact ⟨_, _, x2, fun _ h' => x3 _ h'⟩)
      | (obtain ⟨x1, x2, x3⟩ := fillK_det h; exact ⟨_, _, x2, fun _ h' => x3 _ h'⟩)
      | (obtain ⟨x1, x2, x3⟩ := binT_det h; exact ⟨_, _, x2, fun _ h' => x3 _ h'⟩)
      | (obtain ⟨x1, x4, x2, x3⟩ := cutK_det h; exact ⟨_, _, x2, fun _ h' => x3 _ h'⟩)
      | (obtain ⟨x1, x4, x2, x3⟩ := callK_det h; exact ⟨_, _, x2, fun _ h' => x3 _ h'⟩)
      | (obtain ⟨x1, x2, x3⟩ := h; subst x1; exact ⟨_, _, x3, fun _ h' => h'⟩)
      | skip)
  | nilCheck x =>
    simp only [op, ho] at h ⊢
    (repeat' split at h) <;> ((try simp only [*, reduceIte, true_and]); first
      | exact h.elim
      | exact ⟨_, _, h, fun _ h' => h'⟩
      | exact ⟨_, _, h.2, fun _ h' => h'⟩
      | exact ⟨_, _, h.2.2, fun _ h' => h'⟩
      | exact ⟨_, _, h.2.2.2, fun _ h' => h'⟩
      | exact ⟨_, _, h.2.2.2.2, fun _ h' => h'⟩
      | exact ⟨_, _, h.2, fun _ h' => ⟨h.1, h'⟩⟩
      | exact ⟨_, _, h.2.2, fun _ h' => ⟨h.1, h.2.1, h'⟩⟩
      | exact ⟨_, _, h.2.2.2, fun _ h' => ⟨h.1, h.2.1, h.2.2.1, h'⟩⟩
      | exact ⟨_, _, h.2.2.2.2, fun _ h' => ⟨h.1, h.2.1, h.2.2.1, h.2.2.2.1, h'⟩⟩
      | (obtain ⟨x1, x2, x3⟩ := partK_det h; exact ⟨_, _, x2, fun _ h' => x3 _ h'⟩)
      | (obtain ⟨x1, x2, x3⟩ := fillK_det h; exact ⟨_, _, x2, fun _ h' => x3 _ h'⟩)
      | (obtain ⟨x1, x2, x3⟩ := binT_det h; exact ⟨_, _, x2, fun _ h' => x3 _ h'⟩)
      | (obtain ⟨x1, x4, x2, x3⟩ := cutK_det h; exact ⟨_, _, x2, fun _ h' => x3 _ h'⟩)
      | (obtain ⟨x1, x4, x2, x3⟩ := callK_det h; exact ⟨_, _, x2, fun _ h' => x3 _ h'⟩)
      | (obtain ⟨x1, x2, x3⟩ := h; subst x1; exact ⟨_, _, x3, fun _ h' => h'⟩)
      | skip)
  | binOp b t x y u =>
    simp only [op, ho] at h ⊢
    (repeat' split at h) <;> ((try simp only [*, reduceIte, true_and]); first
      | exact h.elim
      | exact ⟨_, _, h, fun _ h' => h'⟩
      | exact ⟨_, _, h.2, fun _ h' => h'⟩
      | exact ⟨_, _, h.2.2, fun _ h' => h'⟩
      | exact ⟨_, _, h.2.2.2, fun _ h' => h'⟩
      | exact ⟨_, _, h.2.2.2.2, fun _ h' => h'⟩
      | exact ⟨_, _, h.2, fun _ h' => ⟨h.1, h'⟩⟩
      | exact ⟨_, _, h.2.2, fun _ h' => ⟨h.1, h.2.1, h'⟩⟩
      | exact ⟨_, _, h.2.2.2, fun _ h' => ⟨h.1, h.2.1, h.2.2.1, h'⟩⟩
      | exact ⟨_, _, h.2.2.2.2, fun _ h' => ⟨h.1, h.2.1, h.2.2.1, h.2.2.2.1, h'⟩⟩
      | (obtain ⟨x1, x2, x3⟩ := partK_det h; exact ⟨_, _, x2, fun _ h' => x3 _ h'⟩)
      | (obtain ⟨x1, x2, x3⟩ := fillK_det h; exact ⟨_, _, x2, fun _ h' => x3 _ h'⟩)
      | (obtain ⟨x1, x2, x3⟩ := binT_det h; exact ⟨_, _, x2, fun _ h' => x3 _ h'⟩)
      | (obtain ⟨x1, x4, x2, x3⟩ := cutK_det h; exact ⟨_, _, x2, fun _ h' => x3 _ h'⟩)
      | (obtain ⟨x1, x4, x2, x3⟩ := callK_det h; exact ⟨_, _, x2, fun _ h' => x3 _ h'⟩)
      | (obtain ⟨x1, x2, x3⟩ := h; subst x1; exact ⟨_, _, x3, fun _ h' => h'⟩)
      | skip)
  | unOp u t x =>
    simp only [op, ho] at h ⊢
    (repeat' split at h) <;> ((try simp only [*, reduceIte, true_and]); first
      | exact h.elim
      | exact ⟨_, _, h, fun _ h' => h'⟩
      | exact ⟨_, _, h.2, fun _ h' => h'⟩
      | exact ⟨_, _, h.2.2, fun _ h' => h'⟩
      | exact ⟨_, _, h.2.2.2, fun _ h' => h'⟩
      | exact ⟨_, _, h.2.2.2.2, fun _ h' => h'⟩
      | exact ⟨_, _, h.2, fun _ h' => ⟨h.1, h'⟩⟩
      | exact ⟨_, _, h.2.2, fun _ h' => ⟨h.1, h.2.1, h'⟩⟩
      | exact ⟨_, _, h.2.2.2, fun _ h' => ⟨h.1, h.2.1, h.2.2.1, h'⟩⟩
      | exact ⟨_, _, h.2.2.2.2, fun _ h' => ⟨h.1, h.2.1, h.2.2.1, h.2.2.2.1, h'⟩⟩
      | (obtain ⟨x1, x2, x3⟩ := partK_det h; exact ⟨_, _, x2, fun _ h' => x3 _ h'⟩)
      | (obtain ⟨x1, x2, x3⟩ := fillK_det h; exact ⟨_, _, x2, fun _ h' => x3 _ h'⟩)
      | (obtain ⟨x1, x2, x3⟩ := binT_det h; exact ⟨_, _, x2, fun _ h' => x3 _ h'⟩)
      | (obtain ⟨x1, x4, x2, x3⟩ := cutK_det h; exact ⟨_, _, x2, fun _ h' => x3 _ h'⟩)
      | (obtain ⟨x1, x4, x2, x3⟩ := callK_det h; exact ⟨_, _, x2, fun _ h' => x3 _ h'⟩)
      | (obtain ⟨x1, x2, x3⟩ := h; subst x1; exact ⟨_, _, x3, fun _ h' => h'⟩)
      | skip)
  | convert t u x =>
    simp only [op, ho] at h ⊢
    (repeat' split at h) <;> ((try simp only [*, reduceIte, true_and]); first
      | exact h.elim
      | exact ⟨_, _, h, fun _ h' => h'⟩
      | exact ⟨_, _, h.2, fun _ h' => h'⟩
      | exact ⟨_, _, h.2.2, fun _ h' => h'⟩
      | exact ⟨_, _, h.2.2.2, fun _ h' => h'⟩
      | exact ⟨_, _, h.2.2.2.2, fun _ h' => h'⟩
      | exact ⟨_, _, h.2, fun _ h' => ⟨h.1, h'⟩⟩
      | exact ⟨_, _, h.2.2, fun _ h' => ⟨h.1, h.2.1, h'⟩⟩
      | exact ⟨_, _, h.2.2.2, fun _ h' => ⟨h.1, h.2.1, h.2.2.1, h'⟩⟩
      | exact ⟨_, _, h.2.2.2.2, fun _ h' => ⟨h.1, h.2.1, h.2.2.1, h.2.2.2.1, h'⟩⟩
      | (obtain ⟨x1, x2, x3⟩ := partK_det h; exact ⟨_, _, x2, fun _ h' => x3 _ h'⟩)
      | (obtain ⟨x1, x2, x3⟩ := fillK_det h; exact ⟨_, _, x2, fun _ h' => x3 _ h'⟩)
      | (obtain ⟨x1, x2, x3⟩ := binT_det h; exact ⟨_, _, x2, fun _ h' => x3 _ h'⟩)
      | (obtain ⟨x1, x4, x2, x3⟩ := cutK_det h; exact ⟨_, _, x2, fun _ h' => x3 _ h'⟩)
      | (obtain ⟨x1, x4, x2, x3⟩ := callK_det h; exact ⟨_, _, x2, fun _ h' => x3 _ h'⟩)
      | (obtain ⟨x1, x2, x3⟩ := h; subst x1; exact ⟨_, _, x3, fun _ h' => h'⟩)
      | skip)
  | fieldAddr t x f =>
    simp only [op, ho] at h ⊢
    (repeat' split at h) <;> ((try simp only [*, reduceIte, true_and]); first
      | exact h.elim
      | exact ⟨_, _, h, fun _ h' => h'⟩
      | exact ⟨_, _, h.2, fun _ h' => h'⟩
      | exact ⟨_, _, h.2.2, fun _ h' => h'⟩
      | exact ⟨_, _, h.2.2.2, fun _ h' => h'⟩
      | exact ⟨_, _, h.2.2.2.2, fun _ h' => h'⟩
      | exact ⟨_, _, h.2, fun _ h' => ⟨h.1, h'⟩⟩
      | exact ⟨_, _, h.2.2, fun _ h' => ⟨h.1, h.2.1, h'⟩⟩
      | exact ⟨_, _, h.2.2.2, fun _ h' => ⟨h.1, h.2.1, h.2.2.1, h'⟩⟩
      | exact ⟨_, _, h.2.2.2.2, fun _ h' => ⟨h.1, h.2.1, h.2.2.1, h.2.2.2.1, h'⟩⟩
      | (obtain ⟨x1, x2, x3⟩ := partK_det h; exact ⟨_, _, x2, fun _ h' => x3 _ h'⟩)
      | (obtain ⟨x1, x2, x3⟩ := fillK_det h; exact ⟨_, _, x2, fun _ h' => x3 _ h'⟩)
      | (obtain ⟨x1, x2, x3⟩ := binT_det h; exact ⟨_, _, x2, fun _ h' => x3 _ h'⟩)
      | (obtain ⟨x1, x4, x2, x3⟩ := cutK_det h; exact ⟨_, _, x2, fun _ h' => x3 _ h'⟩)
      | (obtain ⟨x1, x4, x2, x3⟩ := callK_det h; exact ⟨_, _, x2, fun _ h' => x3 _ h'⟩)
      | (obtain ⟨x1, x2, x3⟩ := h; subst x1; exact ⟨_, _, x3, fun _ h' => h'⟩)
      | skip)
  | field t x f =>
    simp only [op, ho] at h ⊢
    (repeat' split at h) <;> ((try simp only [*, reduceIte, true_and]); first
      | exact h.elim
      | exact ⟨_, _, h, fun _ h' => h'⟩
      | exact ⟨_, _, h.2, fun _ h' => h'⟩
      | exact ⟨_, _, h.2.2, fun _ h' => h'⟩
      | exact ⟨_, _, h.2.2.2, fun _ h' => h'⟩
      | exact ⟨_, _, h.2.2.2.2, fun _ h' => h'⟩
      | exact ⟨_, _, h.2, fun _ h' => ⟨h.1, h'⟩⟩
      | exact ⟨_, _, h.2.2, fun _ h' => ⟨h.1, h.2.1, h'⟩⟩
      | exact ⟨_, _, h.2.2.2, fun _ h' => ⟨h.1, h.2.1, h.2.2.1, h'⟩⟩
      | exact ⟨_, _, h.2.2.2.2, fun _ h' => ⟨h.1, h.2.1, h.2.2.1, h.2.2.2.1, h'⟩⟩
      | (obtain ⟨x1, x2, x3⟩ := partK_det h; exact ⟨_, _, x2, fun _ h' => x3 _ h'⟩)
      | (obtain ⟨x1, x2, x3⟩ := fillK_det h; exact ⟨_, _, x2, fun _ h' => x3 _ h'⟩)
      | (obtain ⟨x1, x2, x3⟩ := binT_det h; exact ⟨_, _, x2, fun _ h' => x3 _ h'⟩)
      | (obtain ⟨x1, x4, x2, x3⟩ := cutK_det h; exact ⟨_, _, x2, fun _ h' => x3 _ h'⟩)
      | (obtain ⟨x1, x4, x2, x3⟩ := callK_det h; exact ⟨_, _, x2, fun _ h' => x3 _ h'⟩)
      | (obtain ⟨x1, x2, x3⟩ := h; subst x1; exact ⟨_, _, x3, fun _ h' => h'⟩)
      | skip)
  | indexAddr t x i =>
    simp only [op, ho] at h ⊢
    (repeat' split at h) <;> ((try simp only [*, reduceIte, true_and]); first
      | exact h.elim
      | exact ⟨_, _, h, fun _ h' => h'⟩
      | exact ⟨_, _, h.2, fun _ h' => h'⟩
      | exact ⟨_, _, h.2.2, fun _ h' => h'⟩
      | exact ⟨_, _, h.2.2.2, fun _ h' => h'⟩
      | exact ⟨_, _, h.2.2.2.2, fun _ h' => h'⟩
      | exact ⟨_, _, h.2, fun _ h' => ⟨h.1, h'⟩⟩
      | exact ⟨_, _, h.2.2, fun _ h' => ⟨h.1, h.2.1, h'⟩⟩
      | exact ⟨_, _, h.2.2.2, fun _ h' => ⟨h.1, h.2.1, h.2.2.1, h'⟩⟩
      | exact ⟨_, _, h.2.2.2.2, fun _ h' => ⟨h.1, h.2.1, h.2.2.1, h.2.2.2.1, h'⟩⟩
      | (obtain ⟨x1, x2, x3⟩ := partK_det h; exact ⟨_, _, x2, fun _ h' => x3 _ h'⟩)
      | (obtain ⟨x1, x2, x3⟩ := fillK_det h; exact ⟨_, _, x2, fun _ h' => x3 _ h'⟩)
      | (obtain ⟨x1, x2, x3⟩ := binT_det h; exact ⟨_, _, x2, fun _ h' => x3 _ h'⟩)
      | (obtain ⟨x1, x4, x2, x3⟩ := cutK_det h; exact ⟨_, _, x2, fun _ h' => x3 _ h'⟩)
      | (obtain ⟨x1, x4, x2, x3⟩ := callK_det h; exact ⟨_, _, x2, fun _ h' => x3 _ h'⟩)
      | (obtain ⟨x1, x2, x3⟩ := h; subst x1; exact ⟨_, _, x3, fun _ h' => h'⟩)
      | skip)
  | index t x i =>
    simp only [op, ho] at h ⊢
    (repeat' split at h) <;> ((try simp only [*, reduceIte, true_and]); first
      | exact h.elim
      | exact ⟨_, _, h, fun _ h' => h'⟩
      | exact ⟨_, _, h.2, fun _ h' => h'⟩
      | exact ⟨_, _, h.2.2, fun _ h' => h'⟩
      | exact ⟨_, _, h.2.2.2, fun _ h' => h'⟩
      | exact ⟨_, _, h.2.2.2.2, fun _ h' => h'⟩
      | exact ⟨_, _, h.2, fun _ h' => ⟨h.1, h'⟩⟩
      | exact ⟨_, _, h.2.2, fun _ h' => ⟨h.1, h.2.1, h'⟩⟩
      | exact ⟨_, _, h.2.2.2, fun _ h' => ⟨h.1, h.2.1, h.2.2.1, h'⟩⟩
      | exact ⟨_, _, h.2.2.2.2, fun _ h' => ⟨h.1, h.2.1, h.2.2.1, h.2.2.2.1, h'⟩⟩
      | (obtain ⟨x1, x2, x3⟩ := partK_det h; exact ⟨_, _, x2, fun _ h' => x3 _ h'⟩)
      | (obtain ⟨x1, x2, x3⟩ := fillK_det h; exact ⟨_, _, x2, fun _ h' => x3 _ h'⟩)
      | (obtain ⟨x1, x2, x3⟩ := binT_det h; exact ⟨_, _, x2, fun _ h' => x3 _ h'⟩)
      | (obtain ⟨x1, x4, x2, x3⟩ := cutK_det h; exact ⟨_, _, x2, fun _ h' => x3 _ h'⟩)
      | (obtain ⟨x1, x4, x2, x3⟩ := callK_det h; exact ⟨_, _, x2, fun _ h' => x3 _ h'⟩)
      | (obtain ⟨x1, x2, x3⟩ := h; subst x1; exact ⟨_, _, x3, fun _ h' => h'⟩)
      | skip)
  | extract x i =>
    simp only [op, ho] at h ⊢
    (repeat' split at h) <;> ((try simp only [*, reduceIte, true_and]); first
      | exact h.elim
      | exact ⟨_, _, h, fun _ h' => h'⟩
      | exact ⟨_, _, h.2, fun _ h' => h'⟩
      | exact ⟨_, _, h.2.2, fun _ h' => h'⟩
      | exact ⟨_, _, h.2.2.2, fun _ h' => h'⟩
      | exact ⟨_, _, h.2.2.2.2, fun _ h' => h'⟩
      | exact ⟨_, _, h.2, fun _ h' => ⟨h.1, h'⟩⟩
      | exact ⟨_, _, h.2.2, fun _ h' => ⟨h.1, h.2.1, h'⟩⟩
      | exact ⟨_, _, h.2.2.2, fun _ h' => ⟨h.1, h.2.1, h.2.2.1, h'⟩⟩
      | exact ⟨_, _, h.2.2.2.2, fun _ h' => ⟨h.1, h.2.1, h.2.2.1, h.2.2.2.1, h'⟩⟩
      | (obtain ⟨x1, x2, x3⟩ := partK_det h; exact ⟨_, _, x2, fun _ h' => x3 _ h'⟩)
      | (obtain ⟨x1, x2, x3⟩ := fillK_det h; exact ⟨_, _, x2, fun _ h' => x3 _ h'⟩)
      | (obtain ⟨x1, x2, x3⟩ := binT_det h; exact ⟨_, _, x2, fun _ h' => x3 _ h'⟩)
      | (obtain ⟨x1, x4, x2, x3⟩ := cutK_det h; exact ⟨_, _, x2, fun _ h' => x3 _ h'⟩)
      | (obtain ⟨x1, x4, x2, x3⟩ := callK_det h; exact ⟨_, _, x2, fun _ h' => x3 _ h'⟩)
      | (obtain ⟨x1, x2, x3⟩ := h; subst x1; exact ⟨_, _, x3, fun _ h' => h'⟩)
      | skip)
  | pick c a b =>
    simp only [op, ho] at h ⊢
    split at h
    · exact ⟨_, _, h, fun _ h' => h'⟩
    · rename_i _ _ _ c' _ _
      cases hcc : c' with
      | true => exact ⟨_, _, h.1 hcc, fun _ h' => ⟨fun _ => h', fun hf => Bool.noConfusion hf⟩⟩
      | false => exact ⟨_, _, h.2 hcc, fun _ h' => ⟨fun hf => Bool.noConfusion hf, fun _ => h'⟩⟩
    · exact h.elim
  | buildSlice t l ps =>
    simp only [op, ho] at h ⊢
    split at h
    · split at h
      · obtain ⟨x1, x2, x3⟩ := sealK_det h
        split at x2
        · rename_i hc
          obtain ⟨x4, x5, x6⟩ := litK_det x2
          exact ⟨_, _, x5, fun _ h' => x3 _ (by rw [if_pos hc]; exact x6 _ h')⟩
        · exact x2.elim
      · exact h.elim
    · exact h.elim
  | makeSlice t l c =>
    simp only [op, ho] at h ⊢
    split at h
    · split at h
      · obtain ⟨x1, x2, x3⟩ := sealK_det h
        split at x2
        · rename_i hc
          exact ⟨_, _, x2.2.2.2.2, fun _ h' => x3 _ (by rw [if_pos hc]; exact ⟨x2.1, x2.2.1, x2.2.2.1, x2.2.2.2.1, h'⟩)⟩
        · exact x2.elim
      · exact h.elim
    · exact h.elim
  | slice t x lo hi mx =>
    cases mx with
    | some m => simp only [op, ho] at h
    | none =>
      simp only [op, ho] at h ⊢
      (repeat' split at h) <;> ((try simp only [*, reduceIte, true_and]); first
      | exact h.elim
      | exact ⟨_, _, h, fun _ h' => h'⟩
      | exact ⟨_, _, h.2, fun _ h' => h'⟩
      | exact ⟨_, _, h.2.2, fun _ h' => h'⟩
      | exact ⟨_, _, h.2.2.2, fun _ h' => h'⟩
      | exact ⟨_, _, h.2.2.2.2, fun _ h' => h'⟩
      | exact ⟨_, _, h.2, fun _ h' => ⟨h.1, h'⟩⟩
      | exact ⟨_, _, h.2.2, fun _ h' => ⟨h.1, h.2.1, h'⟩⟩
      | exact ⟨_, _, h.2.2.2, fun _ h' => ⟨h.1, h.2.1, h.2.2.1, h'⟩⟩
      | exact ⟨_, _, h.2.2.2.2, fun _ h' => ⟨h.1, h.2.1, h.2.2.1, h.2.2.2.1, h'⟩⟩
      | (obtain ⟨x1, x2, x3⟩ := partK_det h; exact ⟨_, _, x2, fun _ h' => x3 _ h'⟩)
      | (obtain ⟨x1, x2, x3⟩ := fillK_det h; exact ⟨_, _, x2, fun _ h' => x3 _ h'⟩)
      | (obtain ⟨x1, x2, x3⟩ := binT_det h; exact ⟨_, _, x2, fun _ h' => x3 _ h'⟩)
      | (obtain ⟨x1, x4, x2, x3⟩ := cutK_det h; exact ⟨_, _, x2, fun _ h' => x3 _ h'⟩)
      | (obtain ⟨x1, x4, x2, x3⟩ := callK_det h; exact ⟨_, _, x2, fun _ h' => x3 _ h'⟩)
      | (obtain ⟨x1, x2, x3⟩ := h; subst x1; exact ⟨_, _, x3, fun _ h' => h'⟩)
      | skip)
  | makeFunc f xs ys =>
    cases f with
    | func g =>
      simp only [op, ho] at h ⊢
      (repeat' split at h) <;> ((try simp only [*, reduceIte, true_and]); first
      | exact h.elim
      | exact ⟨_, _, h, fun _ h' => h'⟩
      | exact ⟨_, _, h.2, fun _ h' => h'⟩
      | exact ⟨_, _, h.2.2, fun _ h' => h'⟩
      | exact ⟨_, _, h.2.2.2, fun _ h' => h'⟩
      | exact ⟨_, _, h.2.2.2.2, fun _ h' => h'⟩
      | exact ⟨_, _, h.2, fun _ h' => ⟨h.1, h'⟩⟩
      | exact ⟨_, _, h.2.2, fun _ h' => ⟨h.1, h.2.1, h'⟩⟩
      | exact ⟨_, _, h.2.2.2, fun _ h' => ⟨h.1, h.2.1, h.2.2.1, h'⟩⟩
      | exact ⟨_, _, h.2.2.2.2, fun _ h' => ⟨h.1, h.2.1, h.2.2.1, h.2.2.2.1, h'⟩⟩
      | (obtain ⟨x1, x2, x3⟩ := partK_det h; exact ⟨_, _, x2, fun _ h' => x3 _ h'⟩)
      | (obtain ⟨x1, x2, x3⟩ := fillK_det h; exact ⟨_, _, x2, fun _ h' => x3 _ h'⟩)
      | (obtain ⟨x1, x2, x3⟩ := binT_det h; exact ⟨_, _, x2, fun _ h' => x3 _ h'⟩)
      | (obtain ⟨x1, x4, x2, x3⟩ := cutK_det h; exact ⟨_, _, x2, fun _ h' => x3 _ h'⟩)
      | (obtain ⟨x1, x4, x2, x3⟩ := callK_det h; exact ⟨_, _, x2, fun _ h' => x3 _ h'⟩)
      | (obtain ⟨x1, x2, x3⟩ := h; subst x1; exact ⟨_, _, x3, fun _ h' => h'⟩)
      | skip)
    | _ => simp only [op, ho] at h
  | call c =>
    obtain ⟨f, xs, ts⟩ := c
    cases f with
    | value f =>
      simp only [op, ho] at h ⊢
      (repeat' split at h) <;> ((try simp only [*, reduceIte, true_and]); first
      | exact h.elim
      | exact ⟨_, _, h, fun _ h' => h'⟩
      | exact ⟨_, _, h.2, fun _ h' => h'⟩
      | exact ⟨_, _, h.2.2, fun _ h' => h'⟩
      | exact ⟨_, _, h.2.2.2, fun _ h' => h'⟩
      | exact ⟨_, _, h.2.2.2.2, fun _ h' => h'⟩
      | exact ⟨_, _, h.2, fun _ h' => ⟨h.1, h'⟩⟩
      | exact ⟨_, _, h.2.2, fun _ h' => ⟨h.1, h.2.1, h'⟩⟩
      | exact ⟨_, _, h.2.2.2, fun _ h' => ⟨h.1, h.2.1, h.2.2.1, h'⟩⟩
      | exact ⟨_, _, h.2.2.2.2, fun _ h' => ⟨h.1, h.2.1, h.2.2.1, h.2.2.2.1, h'⟩⟩
      | (obtain ⟨x1, x2, x3⟩ := partK_det h; exact ⟨_, _, x2, fun _ h' => x3 _ h'⟩)
      | (obtain ⟨x1, x2, x3⟩ := fillK_det h; exact ⟨_, _, x2, fun _ h' => x3 _ h'⟩)
      | (obtain ⟨x1, x2, x3⟩ := binT_det h; exact ⟨_, _, x2, fun _ h' => x3 _ h'⟩)
      | (obtain ⟨x1, x4, x2, x3⟩ := cutK_det h; exact ⟨_, _, x2, fun _ h' => x3 _ h'⟩)
      | (obtain ⟨x1, x4, x2, x3⟩ := callK_det h; exact ⟨_, _, x2, fun _ h' => x3 _ h'⟩)
      | (obtain ⟨x1, x2, x3⟩ := h; subst x1; exact ⟨_, _, x3, fun _ h' => h'⟩)
      | skip)
    | invoke r m => simp only [op, ho] at h
    | builtin b =>
      cases b with
      | len =>
        simp only [op, ho] at h ⊢
        (repeat' split at h) <;> ((try simp only [*, reduceIte, true_and]); first
      | exact h.elim
      | exact ⟨_, _, h, fun _ h' => h'⟩
      | exact ⟨_, _, h.2, fun _ h' => h'⟩
      | exact ⟨_, _, h.2.2, fun _ h' => h'⟩
      | exact ⟨_, _, h.2.2.2, fun _ h' => h'⟩
      | exact ⟨_, _, h.2.2.2.2, fun _ h' => h'⟩
      | exact ⟨_, _, h.2, fun _ h' => ⟨h.1, h'⟩⟩
      | exact ⟨_, _, h.2.2, fun _ h' => ⟨h.1, h.2.1, h'⟩⟩
      | exact ⟨_, _, h.2.2.2, fun _ h' => ⟨h.1, h.2.1, h.2.2.1, h'⟩⟩
      | exact ⟨_, _, h.2.2.2.2, fun _ h' => ⟨h.1, h.2.1, h.2.2.1, h.2.2.2.1, h'⟩⟩
      | (obtain ⟨x1, x2, x3⟩ := partK_det h; exact ⟨_, _, x2, fun _ h' => x3 _ h'⟩)
      | (obtain ⟨x1, x2, x3⟩ := fillK_det h; exact ⟨_, _, x2, fun _ h' => x3 _ h'⟩)
      | (obtain ⟨x1, x2, x3⟩ := binT_det h; exact ⟨_, _, x2, fun _ h' => x3 _ h'⟩)
      | (obtain ⟨x1, x4, x2, x3⟩ := cutK_det h; exact ⟨_, _, x2, fun _ h' => x3 _ h'⟩)
      | (obtain ⟨x1, x4, x2, x3⟩ := callK_det h; exact ⟨_, _, x2, fun _ h' => x3 _ h'⟩)
      | (obtain ⟨x1, x2, x3⟩ := h; subst x1; exact ⟨_, _, x3, fun _ h' => h'⟩)
      | skip)
      | append =>
        simp only [op, ho] at h ⊢
        (repeat' split at h) <;> ((try simp only [*, reduceIte, true_and]); first
      | exact h.elim
      | exact ⟨_, _, h, fun _ h' => h'⟩
      | exact ⟨_, _, h.2, fun _ h' => h'⟩
      | exact ⟨_, _, h.2.2, fun _ h' => h'⟩
      | exact ⟨_, _, h.2.2.2, fun _ h' => h'⟩
      | exact ⟨_, _, h.2.2.2.2, fun _ h' => h'⟩
      | exact ⟨_, _, h.2, fun _ h' => ⟨h.1, h'⟩⟩
      | exact ⟨_, _, h.2.2, fun _ h' => ⟨h.1, h.2.1, h'⟩⟩
      | exact ⟨_, _, h.2.2.2, fun _ h' => ⟨h.1, h.2.1, h.2.2.1, h'⟩⟩
      | exact ⟨_, _, h.2.2.2.2, fun _ h' => ⟨h.1, h.2.1, h.2.2.1, h.2.2.2.1, h'⟩⟩
      | (obtain ⟨x1, x2, x3⟩ := partK_det h; exact ⟨_, _, x2, fun _ h' => x3 _ h'⟩)
      | (obtain ⟨x1, x2, x3⟩ := fillK_det h; exact ⟨_, _, x2, fun _ h' => x3 _ h'⟩)
      | (obtain ⟨x1, x2, x3⟩ := binT_det h; exact ⟨_, _, x2, fun _ h' => x3 _ h'⟩)
      | (obtain ⟨x1, x4, x2, x3⟩ := cutK_det h; exact ⟨_, _, x2, fun _ h' => x3 _ h'⟩)
      | (obtain ⟨x1, x4, x2, x3⟩ := callK_det h; exact ⟨_, _, x2, fun _ h' => x3 _ h'⟩)
      | (obtain ⟨x1, x2, x3⟩ := h; subst x1; exact ⟨_, _, x3, fun _ h' => h'⟩)
      | skip)
      | _ => simp only [op, ho] at h
  | _ => simp only [op, ho] at h
end Go.Proofs.Ytbmdncjnnlajnaa.M

/- A machine of values: an operation hangs on what it looks at alone. No condition. Made by gen30.py. -/
namespace Go.Proofs.Ytbmdncjnnlajnaa.M
open Go
set_option linter.unusedSimpArgs false
set_option linter.unusedVariables false
set_option linter.unusedSectionVars false

def idC : C → List Nat
  | .own i _ _ _ => [i]
  | .ptr i _ => [i]
  | .eptr i _ _ _ => [i]
  | .clo _ i => [i]
  | _ => []
def idA (x : A) : List Nat := x.cells.flatMap idC
def idV : AV → List Nat
  | .a x => idA x
  | .tup xs => xs.flatMap idA
/-- What a callee may reach. -/
def deepC (hp : List (Nat × Blk)) : C → List Nat
  | .ptr i _ => i :: (match find hp i with | some (.box cs) => cs.flatMap idC | _ => [])
  | .clo _ i => i :: (match find hp i with | some (.box cs) => cs.flatMap idC | _ => [])
  | c => idC c
def deepV (hp : List (Nat × Blk)) : AV → List Nat
  | .a x => x.cells.flatMap (deepC hp)
  | .tup _ => []
def opers : Op → List Operand
  | .move x | .assign x | .nilCheck x => [x]
  | .pick c a b => [c, a, b]
  | .box _ x | .load _ x | .unOp _ _ x | .convert _ _ x | .fieldAddr _ x _ | .field _ x _ | .extract x _ => [x]
  | .store _ x y | .binOp _ _ x y _ | .indexAddr _ x y | .index _ x y | .makeSlice _ x y => [x, y]
  | .build _ ps | .buildSlice _ _ ps => ps.toList.map (·.2)
  | .slice _ x lo hi _ => x :: (lo.toList ++ hi.toList)
  | .makeFunc _ xs ys => xs.toList ++ ys.toList
  | .call ⟨f, xs, _⟩ => (match f with | .value f => [f] | _ => []) ++ xs.toList
  | _ => []
def tmpO : Operand → List Nat
  | .tmp i => [i]
  | _ => []
def looks (ops : Array Oper) (o : Oper) : List Nat :=
  (match o.guard with | some (j, _) => (match ops[j]? with | some x => x.dst.toList | none => []) | none => []) ++ (opers o.op).flatMap tmpO
def rdO.tmpV (s : St) : Operand → AV
  | .tmp i => s.get i
  | _ => .a (.c .undef)
def rdO (s : St) (o : Oper) : List Nat :=
  match o.op with
  | .call ⟨.value f, xs, ts⟩ => deepV s.hp (rdO.tmpV s f) ++ xs.toList.flatMap fun x => deepV s.hp (rdO.tmpV s x)
  | p => (opers p).flatMap fun x => idV (rdO.tmpV s x)
structure Agree (ops : Array Oper) (o : Oper) (s s' : St) : Prop where
  tm : ∀ t ∈ looks ops o, s'.get t = s.get t
  hp : ∀ i ∈ rdO s o, find s'.hp i = find s.hp i

theorem idEval {τ : Tab} {s : St} {t : Nat} {x : Operand} {i : Nat} (h : i ∈ idV (s.eval τ t x)) : i ∈ idV (rdO.tmpV s x) := by
  cases x with
  | tmp j => exact h
  | const v =>
    exfalso
    simp only [St.eval, ofValue] at h
    split at h <;> simp [idV, idA, A.cells, idC] at h
  | func f => simp [St.eval, idV, idA, A.cells, idC] at h
  | global g => simp [St.eval, idV, idA, A.cells, idC] at h
def idEq (hp hp' : List (Nat × Blk)) : C → Prop
  | .own i _ _ _ => find hp' i = find hp i ∧ ∀ v, arrOf hp' i v = arrOf hp i v
  | .ptr i _ => find hp' i = find hp i
  | .clo _ i => find hp' i = find hp i
  | .eptr i _ _ _ => find hp' i = find hp i ∧ ∀ v, arrOf hp' i v = arrOf hp i v
  | _ => True
theorem arrOf_eq {hp hp' : List (Nat × Blk)} {i : Nat} (h : find hp' i = find hp i) (v : Nat) : arrOf hp' i v = arrOf hp i v := by simp [arrOf, h]
theorem idEq_of {hp hp' : List (Nat × Blk)} {c : C} (h : ∀ i ∈ idC c, find hp' i = find hp i) : idEq hp hp' c := by
  cases c <;> simp only [idEq, idC] at h ⊢ <;> first | trivial | exact ⟨h _ (by simp), arrOf_eq (h _ (by simp))⟩ | exact h _ (by simp)
theorem listOf_eq {hp hp' : List (Nat × Blk)} {c : C} (h : ∀ i ∈ idC c, find hp' i = find hp i) : listOf hp' c = listOf hp c := by
  cases c with
  | t x => cases x <;> rfl
  | own i v o n => simp only [listOf]; rw [arrOf_eq (h i (by simp [idC]))]
  | _ => rfl
theorem vEq {hp hp' : List (Nat × Blk)} {c : C} (h : ∀ i ∈ idV (.a (.c c)), find hp' i = find hp i) : idEq hp hp' c := idEq_of fun i hi => h i (by simpa [idV, idA, A.cells] using hi)
theorem vList {hp hp' : List (Nat × Blk)} {c : C} (h : ∀ i ∈ idV (.a (.c c)), find hp' i = find hp i) : listOf hp' c = listOf hp c := listOf_eq fun i hi => h i (by simpa [idV, idA, A.cells] using hi)

theorem deepEval {τ : Tab} {s : St} {t : Nat} {x : Operand} {i : Nat} (h : i ∈ deepV s.hp (s.eval τ t x)) : i ∈ deepV s.hp (rdO.tmpV s x) := by
  cases x with
  | tmp j => exact h
  | const v =>
    exfalso
    simp only [St.eval, ofValue] at h
    split at h <;> simp [deepV, A.cells, deepC, idC] at h
  | func f => simp [St.eval, deepV, A.cells, deepC, idC] at h
  | global g => simp [St.eval, deepV, A.cells, deepC, idC] at h
section
variable {hp hp' : List (Nat × Blk)}
theorem readC_fr {c : C} (h : ∀ i ∈ idC c, find hp' i = find hp i) : readC hp' c = readC hp c := by
  cases c <;> first | rfl | simp only [readC, listOf_eq h]
theorem readL_fr : ∀ {l : List C}, (∀ c ∈ l, ∀ i ∈ idC c, find hp' i = find hp i) → readL hp' l = readL hp l
  | [], _ => rfl
  | c :: r, h => by simp only [readL, readC_fr (h c (by simp)), readL_fr (l := r) fun c hc => h c (by simp [hc])]
theorem readA_fr {x : A} (h : ∀ c ∈ x.cells, ∀ i ∈ idC c, find hp' i = find hp i) : readA hp' x = readA hp x := by
  cases x with
  | c c => exact readC_fr (h c (by simp [A.cells]))
  | g cs => simp only [readA]; rw [readL_fr (hp := hp) (l := cs) h]
theorem bcK_fr {c : C} {K : BC → Prop} (h : ∀ i ∈ idC c, find hp' i = find hp i) : bcK hp' c K = bcK hp c K := by
  cases c with
  | own i v o n =>
    have := h i (by simp [idC])
    cases o <;> simp only [bcK, this]
  | _ => rfl
theorem bcsK_fr : ∀ {l : List C} {K : List BC → Prop}, (∀ c ∈ l, ∀ i ∈ idC c, find hp' i = find hp i) → bcsK hp' l K = bcsK hp l K
  | [], K, _ => rfl
  | c :: r, K, h => by
    have ih : ∀ K, bcsK hp' r K = bcsK hp r K := fun K => bcsK_fr fun c hc => h c (by simp [hc])
    simp only [bcsK, bcK_fr (h c (by simp)), ih]
theorem deep_id {x : A} {c : C} (hc : c ∈ x.cells) {i : Nat} (hi : i ∈ idC c) : i ∈ deepV hp (.a x) := by
  refine List.mem_flatMap.2 ⟨c, hc, ?_⟩
  cases c <;> simp only [deepC] <;> first | exact hi | (simp only [idC, List.mem_singleton] at hi; subst hi; simp)
theorem argK_fr {x : AV} {K : AA → List Nat → Prop} (h : ∀ i ∈ deepV hp x, find hp' i = find hp i) : argK hp' x K = argK hp x K := by
  unfold argK
  split
  · rename_i i
    have h1 := h i (by simp [deepV, A.cells, deepC])
    rw [h1]
    split
    · rename_i cs hf
      exact bcsK_fr fun c hc j hj => h j (by simp only [deepV, A.cells, List.flatMap_cons, List.flatMap_nil, List.append_nil, deepC, hf]; exact List.mem_cons_of_mem _ (List.mem_flatMap.2 ⟨c, hc, hj⟩))
    · rfl
  · rfl
  · rfl
  · rename_i f i
    have h1 := h i (by simp [deepV, A.cells, deepC])
    rw [h1]
    split
    · rename_i cs hf
      exact bcsK_fr fun c hc j hj => h j (by simp only [deepV, A.cells, List.flatMap_cons, List.flatMap_nil, List.append_nil, deepC, hf]; exact List.mem_cons_of_mem _ (List.mem_flatMap.2 ⟨c, hc, hj⟩))
    · rfl
  · rename_i x _ _ _ _
    rw [readA_fr (hp := hp) fun c hc i hi => h i (deep_id hc hi)]
  · rfl
theorem argsK_fr : ∀ {l : List AV} {K : List AA → List Nat → Prop}, (∀ x ∈ l, ∀ i ∈ deepV hp x, find hp' i = find hp i) → argsK hp' l K = argsK hp l K
  | [], K, _ => rfl
  | c :: r, K, h => by
    have ih : ∀ K, argsK hp' r K = argsK hp r K := fun K => argsK_fr fun c hc => h c (by simp [hc])
    simp only [argsK, argK_fr (h c (by simp)), ih]
theorem freeze_fr : ∀ {l : List Nat}, (∀ i ∈ l, find hp' i = find hp i) → freeze hp' l = freeze hp l
  | [], _ => rfl
  | i :: r, h => by simp only [freeze, h i (by simp), freeze_fr (l := r) fun c hc => h c (by simp [hc])]
theorem outsK_fr {own : Bool} : ∀ {xs : List AV} {os : List (List BC)} {n : Nat}, (∀ x ∈ xs, ∀ i ∈ deepV hp x, find hp' i = find hp i) → outsK own hp' n xs os = outsK own hp n xs os
  | [], os, n, _ => by cases os <;> rfl
  | x :: xs, os, n, h => by
    have ih : ∀ n os, outsK own hp' n xs os = outsK own hp n xs os := fun n os => outsK_fr fun c hc => h c (by simp [hc])
    rcases x with ((c | g) | tt)
    · cases c with
      | ptr i o =>
        cases o with
        | zero =>
          cases os with
          | nil => simp only [outsK, ih]
          | cons o os => simp only [outsK, h (.a (.c (.ptr i 0))) (by simp) i (by simp [deepV, A.cells, deepC]), ih]
        | succ o => simp only [outsK, ih]
      | clo f i =>
        cases os with
        | nil => simp only [outsK, ih]
        | cons o os => simp only [outsK, h (.a (.c (.clo f i))) (by simp) i (by simp [deepV, A.cells, deepC]), ih]
      | _ => simp only [outsK, ih]
    · simp only [outsK, ih]
    · simp only [outsK, ih]
theorem ownsA_sub {x : AV} {i : Nat} (h : i ∈ ownsA x) : i ∈ deepV hp x := by
  cases x with
  | tup xs => simp [ownsA] at h
  | a x =>
    obtain ⟨c, hc, hi⟩ := List.mem_flatMap.1 h
    refine deep_id hc ?_
    cases c <;> simp only [ownsC] at hi <;> first | exact hi | simp at hi
theorem callK_fr {P : Program} {md : Nat → Bool} {f : FuncId} {n : Nat} {xs : List AV} {K : AV → List (Nat × Blk) → Prop} (h : ∀ x ∈ xs, ∀ i ∈ deepV hp x, find hp' i = find hp i) : callK P md f hp' n xs K = callK P md f hp n xs K := by
  have h2 : freeze hp' (xs.flatMap ownsA) = freeze hp (xs.flatMap ownsA) := freeze_fr fun i hi => by
    obtain ⟨x, hx, hi⟩ := List.mem_flatMap.1 hi
    exact h x hx i (ownsA_sub hi)
  have h3 : ∀ own n os, outsK own hp' n xs os = outsK own hp n xs os := fun own n os => outsK_fr h
  unfold callK
  rw [argsK_fr h]
  simp only [h2, h3]
end
section
variable {P : Program} {τ : Tab} {md : Nat → Bool} {ops : Array Oper} {o : Oper} {s s' : St} {n : Nat} {K : AV → List (Nat × Blk) → Prop}
theorem agree_eval (hA : Agree ops o s s') {x : Operand} (hx : x ∈ opers o.op) (t : Nat) : s'.eval τ t x = s.eval τ t x := by
  cases x with
  | tmp i => exact hA.tm i (List.mem_append_right _ (List.mem_flatMap.2 ⟨_, hx, by simp [tmpO]⟩))
  | _ => rfl
theorem fillK_fr {d : TD} {K : List C → Prop} : ∀ {l : List (Nat × Operand)} {cs : List C}, (∀ x ∈ l, ∀ t, s'.eval τ t x.2 = s.eval τ t x.2) → fillK τ s' d l cs K = fillK τ s d l cs K
  | [], cs, h => rfl
  | (i, x) :: r, cs, h => by
    have ih : ∀ cs, fillK τ s' d r cs K = fillK τ s d r cs K := fun cs => fillK_fr fun y hy => h y (by simp [hy])
    have hx : ∀ t, s'.eval τ t x = s.eval τ t x := h (i, x) (by simp)
    simp only [fillK, hx, ih]
theorem litK_fr {e : Nat} {K : List T → Prop} : ∀ {l : List (Nat × Operand)} {cs : List T}, (∀ x ∈ l, ∀ t, s'.eval τ t x.2 = s.eval τ t x.2) → litK τ s' e l cs K = litK τ s e l cs K
  | [], cs, h => rfl
  | (i, x) :: r, cs, h => by
    have ih : ∀ cs, litK τ s' e r cs K = litK τ s e r cs K := fun cs => litK_fr fun y hy => h y (by simp [hy])
    have hx : ∀ t, s'.eval τ t x = s.eval τ t x := h (i, x) (by simp)
    simp only [litK, hx, ih]
theorem op_frame (hA : Agree ops o s s') : op P τ md o s' n K = op P τ md o s n K := by
  have hE : ∀ x ∈ opers o.op, ∀ t, s'.eval τ t x = s.eval τ t x := fun x hx t => agree_eval hA hx t
  have hV : ∀ x ∈ opers o.op, (∀ c, o.op ≠ .call c) → ∀ t, ∀ i ∈ idV (s.eval τ t x), find s'.hp i = find s.hp i := fun x hx hc t i hi => by
    refine hA.hp i ?_
    unfold rdO
    split
    · rename_i hh; exact absurd hh (hc _)
    · exact List.mem_flatMap.2 ⟨x, hx, idEval hi⟩
  cases ho : o.op with
  | move x =>
    have hx := hE x (by simp [opers, ho])
    simp only [op, ho, hx]
  | assign x =>
    have hx := hE x (by simp [opers, ho])
    simp only [op, ho, hx]
  | pick c a b =>
    have hc := hE c (by simp [opers, ho])
    have ha := hE a (by simp [opers, ho])
    have hb := hE b (by simp [opers, ho])
    simp only [op, ho, hc, ha, hb]
  | alloc t =>
    simp only [op, ho]
  | box t x =>
    have hx := hE x (by simp [opers, ho])
    simp only [op, ho, hx]
  | load t x =>
    have hx := hE x (by simp [opers, ho])
    have hv := hV x (by simp [opers, ho]) (by simp [ho]) 0
    simp only [op, ho, hx]
    generalize s.eval τ 0 x = v at hv ⊢
    (repeat' split) <;> first | rfl | (have hq := vEq hv; simp only [idEq] at hq; simp_all; done) | (have hl := vList hv; simp_all; done) | skip
  | store t x y =>
    have hx := hE x (by simp [opers, ho])
    have hy := hE y (by simp [opers, ho])
    have hv := hV x (by simp [opers, ho]) (by simp [ho]) 0
    simp only [op, ho, hx, hy]
    generalize s.eval τ 0 x = v at hv ⊢
    split <;> first | rfl | (have hq := vEq hv; simp only [idEq] at hq; simp only [hq]; done) | (have hl := vList hv; simp only [hl]; done) | skip
  | nilCheck x =>
    have hx := hE x (by simp [opers, ho])
    have hv := hV x (by simp [opers, ho]) (by simp [ho]) 0
    simp only [op, ho, hx]
    generalize s.eval τ 0 x = v at hv ⊢
    (repeat' split) <;> first | rfl | (have hq := vEq hv; simp only [idEq] at hq; simp_all; done) | (have hl := vList hv; simp_all; done) | skip
  | binOp b t x y u =>
    have hx := hE x (by simp [opers, ho])
    have hy := hE y (by simp [opers, ho])
    simp only [op, ho, hx, hy]
  | unOp u t x =>
    have hx := hE x (by simp [opers, ho])
    simp only [op, ho, hx]
  | convert t u x =>
    have hx := hE x (by simp [opers, ho])
    have hv := hV x (by simp [opers, ho]) (by simp [ho]) t
    simp only [op, ho, hx]
    generalize s.eval τ t x = v at hv ⊢
    (repeat' split) <;> first | rfl | (have hq := vEq hv; simp only [idEq] at hq; simp_all; done) | (have hl := vList hv; simp_all; done) | skip
  | makeSlice t l c =>
    have hl := hE l (by simp [opers, ho])
    have hc := hE c (by simp [opers, ho])
    simp only [op, ho, hl, hc]
  | fieldAddr t x f =>
    have hx := hE x (by simp [opers, ho])
    have hv := hV x (by simp [opers, ho]) (by simp [ho]) 0
    simp only [op, ho, hx]
    generalize s.eval τ 0 x = v at hv ⊢
    (repeat' split) <;> first | rfl | (have hq := vEq hv; simp only [idEq] at hq; simp_all; done) | (have hl := vList hv; simp_all; done) | skip
  | field t x f =>
    have hx := hE x (by simp [opers, ho])
    simp only [op, ho, hx]
  | indexAddr t x i =>
    have hx := hE x (by simp [opers, ho])
    have hi := hE i (by simp [opers, ho])
    have hv := hV x (by simp [opers, ho]) (by simp [ho]) t
    simp only [op, ho, hx, hi]
    generalize s.eval τ t x = v at hv ⊢
    (repeat' split) <;> first | rfl | (have hq := vEq hv; simp only [idEq] at hq; simp_all; done) | (have hl := vList hv; simp_all; done) | skip
  | index t x i =>
    have hx := hE x (by simp [opers, ho])
    have hi := hE i (by simp [opers, ho])
    simp only [op, ho, hx, hi]
  | extract x i =>
    have hx := hE x (by simp [opers, ho])
    simp only [op, ho, hx]
  | build t ps =>
    simp only [op, ho, fun d cs K => fillK_fr (τ := τ) (s := s) (s' := s') (d := d) (K := K) (l := ps.toList) (cs := cs) fun x hx t => hE x.2 (by simp only [opers, ho]; exact List.mem_map.2 ⟨x, hx, rfl⟩) t]
  | buildSlice t l ps =>
    simp only [op, ho, fun d cs K => litK_fr (τ := τ) (s := s) (s' := s') (e := d) (K := K) (l := ps.toList) (cs := cs) fun x hx t => hE x.2 (by simp only [opers, ho]; exact List.mem_map.2 ⟨x, hx, rfl⟩) t]
  | slice t x lo hi mx =>
    cases mx with
    | some m => simp only [op, ho]
    | none =>
      have hx := hE x (by simp [opers, ho])
      have hv := hV x (by simp [opers, ho]) (by simp [ho]) t
      have hlo : lo.map (s'.eval τ 0) = lo.map (s.eval τ 0) := by cases lo with | none => rfl | some y => simp [hE y (by simp [opers, ho])]
      have hhi : hi.map (s'.eval τ 0) = hi.map (s.eval τ 0) := by cases hi with | none => rfl | some y => simp [hE y (by simp [opers, ho])]
      simp only [op, ho, hx, hlo, hhi]
      generalize s.eval τ t x = v at hv ⊢
      split <;> first | rfl | (have hq := vEq hv; simp only [idEq] at hq; simp only [hq]; done) | (have hl := vList hv; simp only [hl]; done) | skip
  | makeFunc f xs ys =>
    have hy := fun y hy => hE y (by simp only [opers, ho]; exact List.mem_append_right _ hy)
    have hvy := fun y hy => hV y (by simp only [opers, ho]; exact List.mem_append_right _ hy) (by simp [ho])
    cases f <;> simp only [op, ho]
    split
    · rfl
    · rename_i y hx1 hy1
      have h1 := hy y (by rw [hy1]; simp)
      have h2 := hvy y (by rw [hy1]; simp)
      rw [h1]
      split
      · rename_i i he
        have h3 := h2 0 i (by rw [he]; simp [idV, idA, A.cells, idC])
        rw [h3]
      · rfl
    · rfl
  | call c =>
    obtain ⟨f, xs, ts⟩ := c
    cases f with
    | value f =>
      have hf := hE f (by simp [opers, ho])
      have hxs : ∀ (l : List (Operand × TypeId)), (∀ x ∈ l, x.1 ∈ xs.toList) → l.map (fun x => s'.eval τ x.2 x.1) = l.map (fun x => s.eval τ x.2 x.1) := fun l hl =>
        List.map_congr_left fun x hx => hE x.1 (by simp only [opers, ho]; exact List.mem_append_right _ (hl x hx)) x.2
      simp only [op, ho, hf, hxs _ fun x hx => (List.of_mem_zip hx).1]
      split
      · split
        · refine callK_fr fun v hv i hi => ?_
          obtain ⟨x, hx, rfl⟩ := List.mem_map.1 hv
          refine hA.hp i ?_
          unfold rdO
          rw [ho]
          exact List.mem_append_right _ (List.mem_flatMap.2 ⟨x.1, (List.of_mem_zip hx).1, deepEval hi⟩)
        · rfl
      · rename_i g k he
        split
        · refine callK_fr fun v hv i hi => ?_
          refine hA.hp i ?_
          unfold rdO
          rw [ho]
          rcases List.mem_append.1 hv with hv | hv
          · obtain ⟨x, hx, rfl⟩ := List.mem_map.1 hv
            exact List.mem_append_right _ (List.mem_flatMap.2 ⟨x.1, (List.of_mem_zip hx).1, deepEval hi⟩)
          · obtain rfl := List.mem_singleton.1 hv
            refine List.mem_append_left _ (deepEval (τ := τ) (t := 0) ?_)
            rw [he]
            simpa [deepV, A.cells, deepC] using hi
        · rfl
      · rfl
    | invoke r m => simp only [op, ho]
    | builtin b =>
      have hE' : ∀ x ∈ xs.toList, ∀ t, s'.eval τ t x = s.eval τ t x := fun x hx => hE x (by simp only [opers, ho]; exact List.mem_append_right _ hx)
      have hV' : ∀ x ∈ xs.toList, ∀ t, ∀ i ∈ idV (s.eval τ t x), find s'.hp i = find s.hp i := fun x hx t i hi => by
        refine hA.hp i ?_
        unfold rdO
        rw [ho]
        exact List.mem_flatMap.2 ⟨x, by simp only [opers]; exact List.mem_append_right _ hx, idEval hi⟩
      cases b with
      | len =>
        simp only [op, ho]
        split
        · rename_i x t h1 h2
          have hx := hE' x (by simp [h1])
          have hv := hV' x (by simp [h1]) t
          simp only [hx]
          generalize s.eval τ t x = v at hv ⊢
          split <;> first | rfl | (have hq := vEq hv; simp only [idEq] at hq; simp only [hq]; done) | (have hl := vList hv; simp only [hl]; done) | skip
        · rfl
      | append =>
        simp only [op, ho]
        split
        · rename_i x y t u h1 h2
          have hx := hE' x (by simp [h1])
          have hy := hE' y (by simp [h1])
          have hv := hV' x (by simp [h1]) t
          have hw := hV' y (by simp [h1]) u
          simp only [hx, hy]
          generalize s.eval τ t x = v at hv ⊢
          generalize s.eval τ u y = v' at hw ⊢
          split
          · rename_i e a b _
            simp only [vList hw]
            (repeat' split) <;> first | rfl | (have hq := vEq hv; simp only [idEq] at hq; simp_all; done) | skip
          · rfl
        · rfl
      | _ => simp only [op, ho]
  | _ => simp only [op, ho]
end
end Go.Proofs.Ytbmdncjnnlajnaa.M

/- A machine of values: regions that draw their order, part 1: the states. No condition. -/
namespace Go.Proofs.Ytbmdncjnnlajnaa.M
open Go
set_option linter.unusedSimpArgs false
set_option linter.unusedVariables false
set_option linter.unusedSectionVars false

/-- What one operation has brought. -/
structure Out where
  v : AV
  u : List (Nat × Blk)
  rd : List Nat
def step (s : St) (d : Option Nat) (e : Out) : St := (s.upd e.u).set d e.v
/-- The state behind some of the operations, in the text's order. -/
def stD : (Nat → Bool) → List (Oper × Out) → St → St
  | _, [], s => s
  | D, x :: r, s => stD (fun i => D (i + 1)) r (if D 0 = true then step s x.1.dst x.2 else s)

theorem set_N (s : St) (d : Option Nat) (v : AV) : (s.set d v).N = s.N := by unfold St.set; cases d <;> simp; split <;> rfl
theorem set_hp (s : St) (d : Option Nat) (v : AV) : (s.set d v).hp = s.hp := by unfold St.set; cases d <;> simp; split <;> rfl
theorem step_N (s : St) (d : Option Nat) (e : Out) : (step s d e).N = s.N := by rw [step, set_N, upd_N]
theorem step_get (s : St) (d : Option Nat) (e : Out) (t : Nat) : (step s d e).get t = if d = some t ∧ t < s.N then e.v else s.get t := by rw [step, get_set, upd_N, upd_get]
theorem step_hp (s : St) (d : Option Nat) (e : Out) : (step s d e).hp = updH s.hp e.u := by rw [step, set_hp, upd_hp]
theorem step_find_out {s : St} {d : Option Nat} {e : Out} {i : Nat} (h : i ∉ e.u.map (·.1)) : find (step s d e).hp i = find s.hp i := by
  rw [step_hp]; exact updH_none _ _ _ fun x hx hi => h (List.mem_map.2 ⟨x, hx, hi⟩)
theorem updH_same : ∀ (u : List (Nat × Blk)) (hp hp' : List (Nat × Blk)) (i : Nat), i ∈ u.map (·.1) ∨ find hp i = find hp' i → find (updH hp u) i = find (updH hp' u) i
  | [], hp, hp', i, h => by rcases h with h | h; · simp at h
                            · exact h
  | (j, b) :: r, hp, hp', i, h => by
    rw [updH, updH]
    refine updH_same r _ _ i ?_
    by_cases hr : i ∈ r.map (·.1)
    · exact .inl hr
    · refine .inr ?_
      rw [find_put, find_put]
      by_cases hj : j = i
      · rw [if_pos hj, if_pos hj]
      · rw [if_neg hj, if_neg hj]
        rcases h with h | h
        · simp only [List.map_cons, List.mem_cons] at h
          rcases h with h | h
          · exact absurd h.symm hj
          · exact absurd h hr
        · exact h
theorem step_find_in {s s' : St} {d d' : Option Nat} {e : Out} {i : Nat} (h : i ∈ e.u.map (·.1)) : find (step s d e).hp i = find (step s' d' e).hp i := by
  rw [step_hp, step_hp]; exact updH_same _ _ _ _ (.inl h)
theorem step_find_same {s s' : St} {d d' : Option Nat} {e : Out} {i : Nat} (h : find s.hp i = find s'.hp i) : find (step s d e).hp i = find (step s' d' e).hp i := by
  rw [step_hp, step_hp]; exact updH_same _ _ _ _ (.inr h)

theorem stD_N : ∀ (L : List (Oper × Out)) (D : Nat → Bool) (s : St), (stD D L s).N = s.N
  | [], D, s => rfl
  | x :: r, D, s => by rw [stD, stD_N r]; split; · exact step_N ..
                       · rfl
theorem stD_get_congr : ∀ (L : List (Oper × Out)) (D D' : Nat → Bool) (s s' : St) (t : Nat), s.N = s'.N → s.get t = s'.get t → (∀ (j : Nat) x, L[j]? = some x → x.1.dst = some t → D j = D' j) → (stD D L s).get t = (stD D' L s').get t
  | [], D, D', s, s', t, hN, h, _ => h
  | x :: r, D, D', s, s', t, hN, h, hD => by
    rw [stD, stD]
    refine stD_get_congr r _ _ _ _ t ?_ ?_ fun j y hy hd => hD (j + 1) y (by simpa using hy) hd
    · split <;> split <;> simp only [step_N, hN]
    · by_cases hd : x.1.dst = some t
      · rw [hD 0 x (by simp) hd]
        split
        · rw [step_get, step_get, hN, h]
        · exact h
      · have e : ∀ s : St, (step s x.1.dst x.2).get t = s.get t := fun s => by rw [step_get, if_neg fun hh => hd hh.1]
        split <;> split <;> simp only [e, h]
theorem stD_find_congr : ∀ (L : List (Oper × Out)) (D D' : Nat → Bool) (s s' : St) (t : Nat), find s.hp t = find s'.hp t → (∀ (j : Nat) x, L[j]? = some x → t ∈ x.2.u.map (·.1) → D j = D' j) → find (stD D L s).hp t = find (stD D' L s').hp t
  | [], D, D', s, s', t, h, _ => h
  | x :: r, D, D', s, s', t, h, hD => by
    rw [stD, stD]
    refine stD_find_congr r _ _ _ _ t ?_ fun j y hy hd => hD (j + 1) y (by simpa using hy) hd
    by_cases hd : t ∈ x.2.u.map (·.1)
    · rw [hD 0 x (by simp) hd]
      split
      · exact step_find_same h
      · exact h
    · have e : ∀ s : St, find (step s x.1.dst x.2).hp t = find s.hp t := fun s => step_find_out hd
      split <;> split <;> simp only [e, h]
theorem stD_none : ∀ (L : List (Oper × Out)) {s : St}, stD (fun _ => false) L s = s
  | [], s => rfl
  | x :: r, s => by rw [stD]; exact stD_none r
theorem stD_get_last : ∀ (L : List (Oper × Out)) (D : Nat → Bool) (s : St) (i : Nat) (x : Oper × Out) (t : Nat), L[i]? = some x → D i = true → x.1.dst = some t → t < s.N → (∀ (j : Nat) y, i < j → L[j]? = some y → D j = true → y.1.dst ≠ some t) → (stD D L s).get t = x.2.v
  | [], D, s, i, x, t, h, _, _, _, _ => by simp at h
  | y :: r, D, s, 0, x, t, h, hD, hd, hN, hl => by
    obtain rfl : y = x := by simpa using h
    rw [stD, if_pos hD]
    have : (stD (fun i => D (i + 1)) r (step s y.1.dst y.2)).get t = (stD (fun _ => false) r (step s y.1.dst y.2)).get t := stD_get_congr r _ _ _ _ t rfl rfl fun j z hz hdz => by
      cases hh : D (j + 1) with
      | false => rfl
      | true => exact absurd hdz (hl (j + 1) z (by omega) (by simpa using hz) hh)
    rw [this, stD_none r, step_get, if_pos ⟨hd, hN⟩]
  | y :: r, D, s, i + 1, x, t, h, hD, hd, hN, hl => by
    rw [stD]
    refine stD_get_last r _ _ i x t (by simpa using h) hD hd ?_ fun j z hj hz hDz => hl (j + 1) z (by omega) (by simpa using hz) hDz
    split
    · rw [step_N]; exact hN
    · exact hN
theorem stD_find_last : ∀ (L : List (Oper × Out)) (D : Nat → Bool) (s s0 : St) (i : Nat) (x : Oper × Out) (t : Nat), L[i]? = some x → D i = true → t ∈ x.2.u.map (·.1) → (∀ (j : Nat) y, i < j → L[j]? = some y → D j = true → t ∉ y.2.u.map (·.1)) → find (stD D L s).hp t = find (step s0 x.1.dst x.2).hp t
  | [], D, s, s0, i, x, t, h, _, _, _ => by simp at h
  | y :: r, D, s, s0, 0, x, t, h, hD, hd, hl => by
    obtain rfl : y = x := by simpa using h
    rw [stD, if_pos hD]
    have : find (stD (fun i => D (i + 1)) r (step s y.1.dst y.2)).hp t = find (stD (fun _ => false) r (step s y.1.dst y.2)).hp t := stD_find_congr r _ _ _ _ t rfl fun j z hz hdz => by
      cases hh : D (j + 1) with
      | false => rfl
      | true => exact absurd hdz (hl (j + 1) z (by omega) (by simpa using hz) hh)
    rw [this, stD_none r]
    exact step_find_in hd
  | y :: r, D, s, s0, i + 1, x, t, h, hD, hd, hl => by
    rw [stD]
    exact stD_find_last r _ _ s0 i x t (by simpa using h) hD hd fun j z hj hz hDz => hl (j + 1) z (by omega) (by simpa using hz) hDz

/-! ### States that look alike -/
structure Like (s s' : St) : Prop where
  N : s.N = s'.N
  tm : ∀ t, s.get t = s'.get t
  hp : ∀ i, find s.hp i = find s'.hp i
section
variable {Γ : Ctx} {al : Nat → Prop} {s s' : St} {a : Act} {w : World} {μ : Nat → Option Pl} {hp hp' : List (Nat × Blk)} {S : Addr → Option Value}
theorem COk.like (h : ∀ i, find hp i = find hp' i) {c : C} {v : Value} (hc : COk al hp S μ c v) : COk al hp' S μ c v := by
  have h1 : ∀ i v, arrOf hp i v = arrOf hp' i v := fun i v => by simp [arrOf, h i]
  have h2 : ∀ i, verOf hp i = verOf hp' i := fun i => by simp [verOf, h i]
  cases c <;> first | exact hc | (simp only [COk, h1, h2, h] at hc ⊢; exact hc)
theorem CsOk.like (h : ∀ i, find hp i = find hp' i) {c : List C} {v : List Value} (hc : CsOk al hp S μ c v) : CsOk al hp' S μ c v := ⟨hc.1, hc.2.1, fun j c v a b => (hc.2.2 j c v a b).like h⟩
theorem AOk.like (h : ∀ i, find hp i = find hp' i) {c : A} {v : Value} (hc : AOk al hp S μ c v) : AOk al hp' S μ c v := by
  cases c with
  | c c => exact COk.like h hc
  | g cs => obtain ⟨vs, h1, h2⟩ := hc; exact ⟨vs, h1, h2.like h⟩
theorem AVOk.like (h : ∀ i, find hp i = find hp' i) {c : AV} {v : Value} (hc : AVOk al hp S μ c v) : AVOk al hp' S μ c v := by
  cases c with
  | a c => exact AOk.like h hc
  | tup cs => obtain ⟨vs, h1, h2, h3⟩ := hc; exact ⟨vs, h1, h2, fun j x v a b => (h3 j x v a b).like h⟩
theorem live_like (h : ∀ i, find hp i = find hp' i) : live hp = live hp' := by funext i; simp [live, h i]
theorem Sv_like (h : ∀ i, find hp i = find hp' i) {G : Nat → Prop} : Sv G hp μ w = Sv G hp' μ w := by
  have e := live_like h
  unfold Sv
  generalize live hp = L at e ⊢
  subst e
  rfl
theorem Rel.like (R : Rel Γ al s a w μ) (h : Like s s') : Rel Γ al s' a w μ := by
  have hl := live_like h.hp
  have hS : Sv Γ.G s.hp μ w = Sv Γ.G s'.hp μ w := Sv_like h.hp
  refine ⟨⟨R.mem.fr, R.mem.gd, fun i b hb => ⟨(R.mem.pin i b hb).1, fun cs hcs => (R.mem.pin i b hb).2 cs (by rw [h.hp]; exact hcs)⟩, fun i b hb => R.mem.used i b (by rw [h.hp]; exact hb), fun i p hi hp => R.mem.mine i p (by rw [hl]; exact hi) hp,
    fun i j p q hi hj => R.mem.inj i j p q (by rw [hl]; exact hi) (by rw [hl]; exact hj), fun i b hb => ?_⟩, by rw [← h.N]; exact R.size, fun t => ?_, R.defers⟩
  · have hB := R.mem.blk i b (by rw [h.hp]; exact hb)
    rw [hS] at hB
    cases b with
    | arr sz es v => cases hp : μ i <;> rw [hp] at hB <;> exact hB
    | froz sz es v => cases hp : μ i <;> rw [hp] at hB <;> exact hB
    | box cs =>
      cases hp : μ i with
      | none => rw [hp] at hB; exact hB
      | some p =>
        rw [hp] at hB
        obtain ⟨g0, vs, g1, g2⟩ := hB
        exact ⟨g0, vs, g1.like h.hp, g2⟩
  · have := R.tmp t
    rw [hS, h.tm] at this
    exact this.like h.hp
end
end Go.Proofs.Ytbmdncjnnlajnaa.M

/- A machine of values: regions that draw their order, part 2: every order does the same. No condition. -/
namespace Go.Proofs.Ytbmdncjnnlajnaa.M
open Go
set_option linter.unusedSimpArgs false
set_option linter.unusedVariables false
set_option linter.unusedSectionVars false

/-- i must come ahead of o: a way of edges. -/
inductive Path (ops : Array Oper) (i : Nat) : Oper → Prop where
  | one (o : Oper) (e : Edge) (h : e ∈ o.after) (hb : Region.binds .any e = true) (hi : e.on = i) : Path ops i o
  | step (o o' : Oper) (e : Edge) (h : e ∈ o.after) (hb : Region.binds .any e = true) (ho : ops[e.on]? = some o') (k : Path ops i o') : Path ops i o
theorem Path.listed {ops : Array Oper} {listed : Nat → Bool} (hcl : ∀ (j : Nat) o, ops[j]? = some o → listed j = true → ∀ e ∈ o.after, Region.binds .any e = true → listed e.on = true) {i : Nat} {o : Oper} (h : Path ops i o)
    (ha : ∀ e ∈ o.after, Region.binds .any e = true → listed e.on = true) : listed i = true := by
  induction h with
  | one o e h hb hi => rw [← hi]; exact ha e h hb
  | step o o' e h hb ho k ih => exact ih (hcl _ _ ho (ha e h hb))
structure Apart (ops : Array Oper) (x y : Oper × Out) : Prop where
  a : ∀ t, x.1.dst = some t → t ∉ looks ops y.1 ∧ y.1.dst ≠ some t
  b : ∀ t, y.1.dst = some t → t ∉ looks ops x.1
  c : ∀ k ∈ x.2.u.map (·.1), k ∉ y.2.rd ∧ k ∉ y.2.u.map (·.1)
  d : ∀ k ∈ y.2.u.map (·.1), k ∉ x.2.rd
def Fact (P : Program) (τ : Tab) (md : Nat → Bool) (ops : Array Oper) (x : Oper × Out) (s : St) (n : Nat) : Prop :=
  (wantA ops s x.1 = some true ∧ x.2.rd = rdO s x.1 ∧ ∀ K' : AV → List (Nat × Blk) → Prop, K' x.2.v x.2.u → op P τ md x.1 s n K') ∨ (wantA ops s x.1 = some false ∧ x.2.v = .tup [] ∧ x.2.u = [])
def alD (n : Nat) (D : Nat → Bool) : Nat → Prop := fun i => i < n ∨ ∃ j, D j = true ∧ n + 16 * j ≤ i ∧ i < n + 16 * j + 16

theorem wantA_eq {ops : Array Oper} {o : Oper} {s s' : St} (h : ∀ t ∈ looks ops o, s'.get t = s.get t) : wantA ops s' o = wantA ops s o := by
  unfold wantA
  cases hg : o.guard with
  | none => rfl
  | some g =>
    obtain ⟨j, w⟩ := g
    simp only
    congr 1
    unfold yieldA
    cases ho : ops[j]? with
    | none => rfl
    | some x =>
      simp only [Option.bind_some]
      cases hd : x.dst with
      | none => rfl
      | some d =>
        simp only
        rw [h d (by simp [looks, hg, ho, hd])]

section
variable {P : Program} {τ : Tab} {Γ : Ctx} {md : Nat → Bool} {ops : Array Oper} {Q : Exit → Act → World → Prop} {L : List (Oper × Out)} {n : Nat} {s0 : St}

theorem any_out : ∀ (L : List (Oper × Out)) (D : Nat → Bool) (s : St) (t : Nat), ¬ t < s.N → (stD D L s).get t = s.get t
  | [], D, s, t, _ => rfl
  | x :: r, D, s, t, h => by
    rw [stD]
    split
    · rw [any_out r _ _ t (by rw [step_N]; exact h), step_get, if_neg fun hh => h hh.2]
    · exact any_out r _ _ t h
theorem any_fin {L : List (Oper × Out)} {n : Nat} {s0 : St} {ops : Array Oper} {Γ : Ctx} {Q : Exit → Act → World → Prop} (hops : ops.size = L.length) (hL : ∀ j : Nat, ops[j]? = (L[j]?).map (·.1))
    (hdep : ∀ (i : Nat) x, L[i]? = some x → ∀ e ∈ x.1.after, Region.binds .any e = true → e.on < i)
    (hQ : ∀ a w μ, Rel Γ (alD n fun j => decide (j < L.length)) (stD (fun _ => true) L s0) a w μ → Q .normal a w)
    {listed : Array Bool} {a : Act} {w : World} {μ : Nat → Option Pl} (hsz : listed.size = ops.size) (hr : Region.ready .any ops listed = [])
    (R : Rel Γ (alD n fun j => listed.getD j false) (stD (fun j => listed.getD j false) L s0) a w μ) : Q .normal a w := by
  have hall : ∀ j, j < ops.size → listed.getD j false = true := fun j => by
    induction j using Nat.strongRecOn with
    | _ j ihj =>
      intro hj
      cases hh : listed.getD j false with
      | true => rfl
      | false =>
        exfalso
        have hjl : j < listed.size := by omega
        have : j ∈ Region.ready .any ops listed := by
          rw [mem_ready]
          refine ⟨by simpa [hjl] using hh, ops[j], by simp [hj], fun e he hb => ?_⟩
          have hx := hL j
          rw [Array.getElem?_eq_getElem hj] at hx
          obtain ⟨x, hx1, hx2⟩ := Option.map_eq_some_iff.1 hx.symm
          have := hdep j x hx1 e (by rw [hx2]; exact he) hb
          exact ihj _ this (by omega)
        rw [hr] at this
        cases this
  have hD : (fun j => listed.getD j false) = fun j => decide (j < L.length) := by
    funext j
    by_cases hj : j < ops.size
    · rw [hall j hj, decide_eq_true (by omega)]
    · rw [decide_eq_false (by omega)]
      have : ¬ j < listed.size := by omega
      simp [this]
  rw [hD] at R
  refine hQ a w μ (R.like ⟨by rw [stD_N, stD_N], fun t => ?_, fun k => ?_⟩)
  · exact stD_get_congr L _ _ s0 s0 t rfl rfl fun j y hy _ => decide_eq_true (List.getElem?_eq_some_iff.1 hy).1
  · exact stD_find_congr L _ _ s0 s0 k rfl fun j y hy _ => decide_eq_true (List.getElem?_eq_some_iff.1 hy).1

theorem any_sound (hτ : TOk P τ) (hops : ops.size = L.length) (hL : ∀ j : Nat, ops[j]? = (L[j]?).map (·.1))
    (hF : ∀ (i : Nat) x, L[i]? = some x → Fact P τ md ops x (stD (fun j => decide (j < i)) L s0) (n + 16 * i))
    (hdep : ∀ (i : Nat) x, L[i]? = some x → ∀ e ∈ x.1.after, Region.binds .any e = true → e.on < i)
    (hap : ∀ (i j : Nat) x y, i < j → L[i]? = some x → L[j]? = some y → Path ops i y.1 ∨ Apart ops x y)
    (hQ : ∀ a w μ, Rel Γ (alD n fun j => decide (j < L.length)) (stD (fun _ => true) L s0) a w μ → Q .normal a w) :
    ∀ (fuel : Nat) (listed : Array Bool) (a : Act) (w : World) (μ : Nat → Option Pl), listed.size = ops.size →
      (∀ (j : Nat) x, L[j]? = some x → listed.getD j false = true → ∀ e ∈ x.1.after, Region.binds .any e = true → listed.getD e.on false = true) →
      listed.toList.count false ≤ fuel → Rel Γ (alD n fun j => listed.getD j false) (stD (fun j => listed.getD j false) L s0) a w μ → wpAny P .any ops Q fuel listed a w := by
  intro fuel
  induction fuel with
  | zero =>
    intro listed a w μ hsz hcl hct R
    have hr : Region.ready .any ops listed = [] := by
      rw [List.eq_nil_iff_forall_not_mem]
      intro i hi
      rw [mem_ready] at hi
      have h0 := hi.1
      have hlt : i < listed.size := by
        rcases Nat.lt_or_ge i listed.size with h | h
        · exact h
        · simp [Array.getElem?_eq_none h] at h0
      have hmem : false ∈ listed.toList := by
        simp [hlt] at h0
        rw [← h0]; simp
      have := List.count_pos_iff.2 hmem
      omega
    exact ⟨hr, any_fin hops hL hdep hQ hsz hr R⟩
  | succ fuel ih =>
    intro listed a w μ hsz hcl hct R
    refine ⟨fun hr => any_fin hops hL hdep hQ hsz hr R, fun i hi => ?_⟩
    rw [mem_ready] at hi
    obtain ⟨h0, o, ho, haft⟩ := hi
    have hlt : i < listed.size := by
      rcases Nat.lt_or_ge i listed.size with h | h
      · exact h
      · simp [Array.getElem?_eq_none h] at h0
    have hDi : listed.getD i false = false := by simpa [hlt] using h0
    have hclO : ∀ (j : Nat) o, ops[j]? = some o → listed.getD j false = true → ∀ e ∈ o.after, Region.binds .any e = true → listed.getD e.on false = true := fun j o' ho' => by
      have := hL j
      rw [ho'] at this
      obtain ⟨x, h1, h2⟩ := Option.map_eq_some_iff.1 this.symm
      subst h2
      exact hcl j x h1
    obtain ⟨x, hx, hxo⟩ : ∃ x, L[i]? = some x ∧ x.1 = o := by
      have := hL i
      rw [ho] at this
      obtain ⟨x, h1, h2⟩ := Option.map_eq_some_iff.1 this.symm
      exact ⟨x, h1, h2⟩
    subst hxo
    have hD' : ∀ j, (listed.setIfInBounds i true).getD j false = if j = i then true else listed.getD j false := fun j => by
      by_cases hj : j = i
      · subst hj; simp [hlt]
      · rw [if_neg hj]; exact getD_set_ne false (Ne.symm hj)
    have tmA : ∀ t ∈ looks ops x.1, (stD (fun j => listed.getD j false) L s0).get t = (stD (fun j => decide (j < i)) L s0).get t := fun t ht =>
      stD_get_congr L _ _ s0 s0 t rfl rfl fun j y hy hd => by
        rcases Nat.lt_trichotomy j i with hji | hji | hji
        · rw [decide_eq_true hji]
          rcases hap j i y x hji hy hx with hP | hA
          · exact hP.listed hclO haft
          · exact absurd ht (hA.a t hd).1
        · subst hji; simpa using hDi
        · rw [decide_eq_false (by omega)]
          cases hj : listed.getD j false with
          | false => rfl
          | true =>
            rcases hap i j x y hji hx hy with hP | hA
            · have := hP.listed hclO (hcl j y hy hj)
              rw [hDi] at this; cases this
            · exact absurd ht (hA.b t hd)
    have hpA : ∀ k ∈ x.2.rd, find (stD (fun j => listed.getD j false) L s0).hp k = find (stD (fun j => decide (j < i)) L s0).hp k := fun k hk =>
      stD_find_congr L _ _ s0 s0 k rfl fun j y hy hd => by
        rcases Nat.lt_trichotomy j i with hji | hji | hji
        · rw [decide_eq_true hji]
          rcases hap j i y x hji hy hx with hP | hA
          · exact hP.listed hclO haft
          · exact absurd hk (hA.c k hd).1
        · subst hji; simpa using hDi
        · rw [decide_eq_false (by omega)]
          cases hj : listed.getD j false with
          | false => rfl
          | true =>
            rcases hap i j x y hji hx hy with hP | hA
            · have := hP.listed hclO (hcl j y hy hj)
              rw [hDi] at this; cases this
            · exact absurd hk (hA.d k hd)
    have hlater : ∀ (j : Nat) y, i < j → L[j]? = some y → (listed.setIfInBounds i true).getD j false = true → Apart ops x y := fun j y hj hy hDj => by
      rw [hD', if_neg (by omega)] at hDj
      rcases hap i j x y hj hx hy with hP | hA
      · have := hP.listed hclO (hcl j y hy hDj)
        rw [hDi] at this; cases this
      · exact hA
    have hLike : Like (step (stD (fun j => listed.getD j false) L s0) x.1.dst x.2) (stD (fun j => (listed.setIfInBounds i true).getD j false) L s0) := by
      refine ⟨by rw [step_N, stD_N, stD_N], fun t => ?_, fun k => ?_⟩
      · rw [step_get, stD_N]
        have hne : x.1.dst ≠ some t → (stD (fun j => listed.getD j false) L s0).get t = (stD (fun j => (listed.setIfInBounds i true).getD j false) L s0).get t := fun hd =>
          stD_get_congr L _ _ s0 s0 t rfl rfl fun j y hy hdj => by
            rw [hD']
            by_cases hj : j = i
            · subst hj; rw [hx] at hy; cases hy; exact absurd hdj hd
            · rw [if_neg hj]
        by_cases hd : x.1.dst = some t
        · by_cases hN : t < s0.N
          · rw [if_pos ⟨hd, hN⟩]
            exact (stD_get_last L _ s0 i x t hx (by rw [hD', if_pos rfl]) hd hN fun j y hj hy hDj => ((hlater j y hj hy hDj).a t hd).2).symm
          · rw [if_neg fun h => hN h.2, any_out L _ s0 t hN, any_out L _ s0 t hN]
        · rw [if_neg fun h => hd h.1]
          exact hne hd
      · by_cases hk : k ∈ x.2.u.map (·.1)
        · exact (stD_find_last L _ s0 _ i x k hx (by rw [hD', if_pos rfl]) hk fun j y hj hy hDj => ((hlater j y hj hy hDj).c k hk).2).symm
        · rw [step_find_out hk]
          refine stD_find_congr L _ _ s0 s0 k rfl fun j y hy hdj => ?_
          rw [hD']
          by_cases hj : j = i
          · subst hj; rw [hx] at hy; cases hy; exact absurd hdj hk
          · rw [if_neg hj]
    have hal : al16 (alD n fun j => listed.getD j false) (n + 16 * i) = alD n fun j => (listed.setIfInBounds i true).getD j false := by
      funext k
      simp only [al16, alD, eq_iff_iff]
      constructor
      · rintro ((h | ⟨j, h1, h2⟩) | h)
        · exact .inl h
        · exact .inr ⟨j, by rw [hD']; split; · rfl
                            · exact h1, h2⟩
        · exact .inr ⟨i, by rw [hD', if_pos rfl], h⟩
      · rintro (h | ⟨j, h1, h2⟩)
        · exact .inl (.inl h)
        · rw [hD'] at h1
          by_cases hj : j = i
          · subst hj; exact .inr h2
          · rw [if_neg hj] at h1; exact .inl (.inr ⟨j, h1, h2⟩)
    have go : ∀ a' w' μ', Rel Γ (al16 (alD n fun j => listed.getD j false) (n + 16 * i)) (step (stD (fun j => listed.getD j false) L s0) x.1.dst x.2) a' w' μ' → wpAny P .any ops Q fuel (listed.setIfInBounds i true) a' w' := fun a' w' μ' R' => by
      rw [hal] at R'
      refine ih _ a' w' μ' (by simpa using hsz) (fun j y hy hj e he hb => ?_) ?_ (R'.like hLike)
      · rw [hD'] at hj
        by_cases hji : j = i
        · subst hji; rw [hx] at hy; cases hy; exact getD_set_true (haft e he hb)
        · rw [if_neg hji] at hj; exact getD_set_true (hcl j y hy hj e he hb)
      · rw [Array.toList_setIfInBounds, List.count_set (by simpa using hlt)]
        have : listed.toList[i]'(by simpa using hlt) = false := by simpa [hlt] using h0
        rw [this]
        have e : ((true == false) = true) = False := by simp
        simp only [beq_self_eq_true, if_true, e, if_false]
        omega
    unfold wpOp
    rw [ho]
    simp only
    have hw0 : wantA ops (stD (fun j => listed.getD j false) L s0) x.1 = wantA ops (stD (fun j => decide (j < i)) L s0) x.1 := wantA_eq tmA
    rcases hF i x hx with ⟨h1, h2, h3⟩ | ⟨h1, h2, h3⟩
    · rw [← hw0] at h1
      rw [want_ok R h1, if_pos rfl]
      left
      have hA : Agree ops x.1 (stD (fun j => decide (j < i)) L s0) (stD (fun j => listed.getD j false) L s0) := ⟨tmA, fun k hk => hpA k (by rw [h2]; exact hk)⟩
      refine op_sound (md := md) hτ R (n := n + 16 * i) (K := fun v u => v = x.2.v ∧ u = x.2.u) (fun k hk hh => ?_) (by rw [op_frame hA]; exact h3 _ ⟨rfl, rfl⟩) (fun v u val w' μ' hk hm he hv => ?_)
      · rcases hh with hh | ⟨j, hj1, hj2⟩
        · omega
        · have : j = i := by omega
          subst this; dsimp only at hj1; rw [hDi] at hj1; cases hj1
      · obtain ⟨rfl, rfl⟩ := hk
        have R' : Rel Γ (al16 (alD n fun j => listed.getD j false) (n + 16 * i)) ((stD (fun j => listed.getD j false) L s0).upd x.2.u) a w' μ' := ⟨hm, by rw [upd_N]; exact R.size, fun t => by rw [upd_get]; exact (R.tmp t).mono he, R.defers⟩
        exact go _ _ _ (R'.set x.1.dst x.2.v val hv)
    · rw [← hw0] at h1
      rw [want_ok R h1, if_neg (by simp)]
      have hm := R.mem.grow (Fr.refl [] w) (al' := al16 (alD n fun j => listed.getD j false) (n + 16 * i)) (fun i hi => .inl hi)
      have R' : Rel Γ (al16 (alD n fun j => listed.getD j false) (n + 16 * i)) (stD (fun j => listed.getD j false) L s0) a w μ := ⟨hm.1, R.size, fun t => (R.tmp t).mono hm.2, R.defers⟩
      refine go _ _ μ ?_
      have e : step (stD (fun j => listed.getD j false) L s0) x.1.dst x.2 = (stD (fun j => listed.getD j false) L s0).set x.1.dst (.tup []) := by rw [step, h2, h3]; rfl
      rw [e]
      exact R'.set x.1.dst (.tup []) undef tup0_ok
end
end Go.Proofs.Ytbmdncjnnlajnaa.M

/- A machine of values: regions that draw their order, part 3: how one is reckoned. No condition. -/
namespace Go.Proofs.Ytbmdncjnnlajnaa.M
open Go
set_option linter.unusedSimpArgs false
set_option linter.unusedVariables false
set_option linter.unusedSectionVars false

abbrev Log := List (List Nat × List Nat)
/-- As WOps; with a list of what each operation has looked at and changed. -/
def DOps (P : Program) (τ : Tab) (md : Nat → Bool) (ops : Array Oper) : List Oper → Nat → St → Log → (Log → St → Prop) → Prop
  | [], n, s, lg, K => K lg { s with nx := n }
  | o :: r, n, s, lg, K => match wantA ops s o with
    | some b => (b = true → op P τ md o s n fun v u => DOps P τ md ops r (n + 16) ((s.upd u).set o.dst v) ((rdO s o, u.map (·.1)) :: lg) K) ∧ (b = false → DOps P τ md ops r (n + 16) (s.set o.dst (.tup [])) (([], []) :: lg) K)
    | none => False
def entry (e : Out) : List Nat × List Nat := (e.rd, e.u.map (·.1))

def depB (o : Oper) (i : Nat) : Bool := o.after.toList.any fun e => Region.binds .any e && e.on == i
/-- By ways of no more than so many steps. -/
def depF (ops : Array Oper) : Nat → Oper → Nat → Bool
  | 0, o, i => depB o i
  | f + 1, o, i => depB o i || o.after.toList.any fun e => Region.binds .any e && match ops[e.on]? with | some o' => depF ops f o' i | none => false
def apartB (ops : Array Oper) (x y : Oper × List Nat × List Nat) : Bool :=
  (match x.1.dst with | some t => !(looks ops y.1).contains t && (match y.1.dst with | some t' => !(t' == t) | none => true) | none => true) &&
  (match y.1.dst with | some t => !(looks ops x.1).contains t | none => true) &&
  x.2.2.all (fun k => !y.2.1.contains k && !y.2.2.contains k) && y.2.2.all (fun k => !x.2.1.contains k)
def drawB (ops : Array Oper) : Nat → List (Oper × List Nat × List Nat) → Bool
  | _, [] => true
  | k, x :: r => x.1.after.toList.all (fun e => !Region.binds .any e || decide (e.on < k)) && r.all (fun y => apartB ops x y || depF ops 4 y.1 k) && drawB ops (k + 1) r

section
variable {P : Program} {τ : Tab} {Γ : Ctx} {md : Nat → Bool} {ops : Array Oper}

theorem apartB_ok {x y : Oper × Out} (h : apartB ops (x.1, entry x.2) (y.1, entry y.2) = true) : Apart ops x y := by
  simp only [apartB, entry, Bool.and_eq_true] at h
  obtain ⟨⟨⟨h1, h2⟩, h3⟩, h4⟩ := h
  refine ⟨fun t ht => ?_, fun t ht => ?_, fun k hk => ?_, fun k hk => ?_⟩
  · rw [ht] at h1
    simp only [Bool.and_eq_true, Bool.not_eq_true', List.contains_eq_mem, decide_eq_false_iff_not] at h1
    refine ⟨h1.1, fun hy => ?_⟩
    rw [hy] at h1
    simp at h1
  · rw [ht] at h2
    simpa using h2
  · have := List.all_eq_true.1 h3 k hk
    simp only [Bool.and_eq_true, Bool.not_eq_true', List.contains_eq_mem, decide_eq_false_iff_not] at this
    exact this
  · have := List.all_eq_true.1 h4 k hk
    simpa using this
theorem depB_ok {o : Oper} {i : Nat} (h : depB o i = true) : Path ops i o := by
  obtain ⟨e, he, hh⟩ := List.any_eq_true.1 h
  simp only [Bool.and_eq_true, beq_iff_eq] at hh
  exact .one o e (by simpa using he) hh.1 hh.2
theorem depF_ok : ∀ {f : Nat} {o : Oper} {i : Nat}, depF ops f o i = true → Path ops i o
  | 0, o, i, h => depB_ok h
  | f + 1, o, i, h => by
    simp only [depF, Bool.or_eq_true] at h
    rcases h with h | h
    · exact depB_ok h
    · obtain ⟨e, he, hh⟩ := List.any_eq_true.1 h
      rw [Bool.and_eq_true] at hh
      obtain ⟨h1, h2⟩ := hh
      split at h2
      · rename_i o' ho; exact .step o o' e (by simpa using he) h1 ho (depF_ok h2)
      · cases h2
theorem drawB_ok : ∀ {L : List (Oper × Out)} {k : Nat}, drawB ops k (L.map fun x => (x.1, entry x.2)) = true →
    (∀ (i : Nat) x, L[i]? = some x → ∀ e ∈ x.1.after, Region.binds .any e = true → e.on < k + i) ∧
    (∀ (i j : Nat) x y, i < j → L[i]? = some x → L[j]? = some y → Path ops (k + i) y.1 ∨ Apart ops x y)
  | [], k, _ => ⟨by simp, by simp⟩
  | z :: r, k, h => by
    simp only [List.map_cons, drawB, Bool.and_eq_true] at h
    obtain ⟨⟨h1, h2⟩, h3⟩ := h
    obtain ⟨a, b⟩ := drawB_ok h3
    constructor
    · intro i x hx e he hb
      cases i with
      | zero =>
        obtain rfl : z = x := by simpa using hx
        have := List.all_eq_true.1 h1 e (by simpa using he)
        simp only [hb, Bool.not_true, Bool.false_or, decide_eq_true_eq] at this
        exact this
      | succ i => have := a i x (by simpa using hx) e he hb; omega
    · intro i j x y hij hx hy
      cases j with
      | zero => omega
      | succ j =>
        cases i with
        | zero =>
          obtain rfl : z = x := by simpa using hx
          have hy' : r[j]? = some y := by simpa using hy
          have := List.all_eq_true.1 h2 (y.1, entry y.2) (List.mem_map.2 ⟨y, List.mem_of_getElem? hy', rfl⟩)
          rw [Bool.or_eq_true] at this
          rcases this with ha | hd
          · exact .inr (apartB_ok ha)
          · exact .inl (depF_ok hd)
        | succ i =>
          have := b i j x y (by omega) (by simpa using hx) (by simpa using hy)
          rwa [show k + 1 + i = k + (i + 1) by omega] at this

theorem DOps_run : ∀ (l : List Oper) (n : Nat) (s : St) (lg : Log) (K : Log → St → Prop), DOps P τ md ops l n s lg K →
    ∃ es : List Out, es.length = l.length ∧ (∀ (i : Nat) x, (l.zip es)[i]? = some x → Fact P τ md ops x (stD (fun j => decide (j < i)) (l.zip es) s) (n + 16 * i)) ∧
      K ((es.map entry).reverse ++ lg) { stD (fun _ => true) (l.zip es) s with nx := n + 16 * l.length }
  | [], n, s, lg, K, h => ⟨[], rfl, by simp, h⟩
  | o :: r, n, s, lg, K, h => by
    simp only [DOps] at h
    have key : ∀ e : Out, Fact P τ md ops (o, e) s n → DOps P τ md ops r (n + 16) (step s o.dst e) (entry e :: lg) K →
        ∃ es : List Out, es.length = (o :: r).length ∧ (∀ (i : Nat) x, ((o :: r).zip es)[i]? = some x → Fact P τ md ops x (stD (fun j => decide (j < i)) ((o :: r).zip es) s) (n + 16 * i)) ∧
          K ((es.map entry).reverse ++ lg) { stD (fun _ => true) ((o :: r).zip es) s with nx := n + 16 * (o :: r).length } := fun e hf hK => by
      obtain ⟨es, h1, h2, h3⟩ := DOps_run r (n + 16) _ _ K hK
      refine ⟨e :: es, by simp [h1], fun i x hx => ?_, ?_⟩
      · rw [List.zip_cons_cons] at hx ⊢
        cases i with
        | zero =>
          obtain rfl : (o, e) = x := by simpa using hx
          have : (fun j => decide (j < 0)) = fun _ : Nat => false := by funext j; simp
          rw [this, stD_none]
          exact hf
        | succ i =>
          have := h2 i x (by simpa using hx)
          rw [stD]
          have e1 : (fun j => decide (j + 1 < i + 1)) = fun j => decide (j < i) := by funext j; simp
          dsimp only
          rw [e1, if_pos (by simp)]
          have e2 : n + 16 * (i + 1) = n + 16 + 16 * i := by omega
          rw [e2]
          exact this
      · rw [List.zip_cons_cons, stD, if_pos rfl, List.map_cons, List.reverse_cons, List.append_assoc, List.singleton_append]
        have e2 : n + 16 * (o :: r).length = n + 16 + 16 * r.length := by simp only [List.length_cons]; omega
        rw [e2]
        exact h3
    split at h
    · rename_i b hb
      cases b with
      | true =>
        obtain ⟨v, u, h1, h2⟩ := op_det (h.1 rfl)
        exact key ⟨v, u, rdO s o⟩ (.inl ⟨hb, rfl, h2⟩) h1
      | false => exact key ⟨.tup [], [], []⟩ (.inr ⟨hb, rfl, rfl⟩) (h.2 rfl)
    · exact h.elim

theorem WW_draw (hτ : TOk P τ) (hm : P.follows .mixedOrders = true) {id : Nat} {l : List Oper} {s : St} {Q : X → St → Prop}
    (h : DOps P τ md l.toArray l s.nx s [] fun lg s' => drawB l.toArray 0 (l.zip lg.reverse) = true ∧ Q .normal s') : WW P (.region id l.toArray true) s Q := fun Γ a w μ R => by
  obtain ⟨es, h1, h2, h3, h4⟩ := DOps_run l s.nx s [] _ h
  have hz : l.zip (((es.map entry).reverse ++ []).reverse) = (l.zip es).map fun x => (x.1, entry x.2) := by
    rw [List.append_nil, List.reverse_reverse, List.zip_map_right]; rfl
  rw [hz] at h3
  obtain ⟨hd, ha⟩ := drawB_ok h3
  have hlen : (l.zip es).length = l.length := by simp [h1]
  refine wp_region_any hm ?_
  have hm0 := R.mem.grow (w' := { w with drawn := w.drawn + 1 }) ⟨rfl, rfl, rfl, Nat.le_refl _, fun _ _ _ => rfl⟩ (al' := (· < s.nx)) (fun i hi => hi)
  have R0 : Rel Γ (· < s.nx) s a { w with drawn := w.drawn + 1 } μ := ⟨hm0.1, R.size, fun t => (R.tmp t).mono hm0.2, R.defers⟩
  refine any_sound (Γ := Γ) (md := md) (L := l.zip es) (n := s.nx) (s0 := s) hτ (by simp [h1]) (fun j => ?_) (fun i x hx => h2 i x hx) (fun i x hx e he hb => by have := hd i x hx e he hb; omega)
    (fun i j x y hij hx hy => by have := ha i j x y hij hx hy; rwa [Nat.zero_add] at this) (fun a' w' μ' R' => ?_) _ _ a _ μ (by simp) (fun j x _ hj => ?_) (by simp [Array.toList_replicate]) ?_
  · rw [List.getElem?_toArray]
    rcases Nat.lt_or_ge j l.length with hj | hj
    · rw [List.getElem?_eq_getElem hj, List.getElem?_eq_getElem (by omega)]; simp
    · rw [List.getElem?_eq_none hj, List.getElem?_eq_none (by omega)]; rfl
  · refine ⟨.normal, _, μ', trivial, h4, ?_⟩
    have hal : (alD s.nx fun j => decide (j < (l.zip es).length)) = (· < s.nx + 16 * l.length) := by
      funext k
      simp only [alD, eq_iff_iff, hlen, decide_eq_true_eq]
      constructor
      · rintro (h | ⟨j, h1, h2⟩) <;> omega
      · intro h
        rcases Nat.lt_or_ge k s.nx with hk | hk
        · exact .inl hk
        · exact .inr ⟨(k - s.nx) / 16, by omega, by omega, by omega⟩
    rw [hal] at R'
    exact ⟨R'.mem, R'.size, R'.tmp, R'.defers⟩
  · exfalso
    by_cases hjl : j < l.length <;> simp [hjl] at hj
  · have e1 : (fun j => (Array.replicate l.toArray.size false).getD j false) = fun _ : Nat => false := by
      funext j; by_cases hj : j < l.length <;> simp [hj]
    rw [e1, stD_none]
    have hal : (alD s.nx fun _ => false) = (· < s.nx) := by
      funext k; simp [alD]
    rw [hal]
    exact R0
end
end Go.Proofs.Ytbmdncjnnlajnaa.M

/- A machine of values: regions that draw their order, in the engine's form. No condition. -/
namespace Go.Proofs.Ytbmdncjnnlajnaa.M
open Go
set_option linter.unusedSimpArgs false
set_option linter.unusedVariables false

def DrawOk (l : List Oper) (lg : Log) : Prop := drawB l.toArray 0 (l.zip lg.reverse) = true
theorem drawOk_of {l : List Oper} {lg : Log} (h : drawB l.toArray 0 (l.zip lg.reverse) = true) : DrawOk l lg := h
def drawQ (l : List Oper) (Q : X → St → Prop) (lg : Log) (s : St) : Prop := DrawOk l lg ∧ Q .normal s
section
variable {P : Program} {τ : Tab} {md : Nat → Bool} {n : Nat} {s : St} {lg : Log} {ops : Array Oper}
theorem act_dnil {K : Log → St → Prop} : act (DOps P τ md ops [] n s lg K) = act (K lg { s with nx := n }) := (rfl)
theorem act_dcons {o : Oper} {r : List Oper} {K : Log → St → Prop} : act (DOps P τ md ops (o :: r) n s lg K) =
    act (wK (wantA ops s o) (op P τ md o s n fun v u => DOps P τ md ops r (n + 16) ((s.upd u).set o.dst v) ((rdO s o, u.map (·.1)) :: lg) K) (DOps P τ md ops r (n + 16) (s.set o.dst (.tup [])) (([], []) :: lg) K)) := (rfl)
theorem act_drawQ {l : List Oper} {Q : X → St → Prop} : act (drawQ l Q lg s) = (DrawOk l lg ∧ act (Q .normal s)) := (rfl)
theorem act_draw_of (hτ : TOk P τ) (hm : P.follows .mixedOrders = true) (md : Nat → Bool) {id : Nat} {l : List Oper} {Q : X → St → Prop} {x : Shut (Code.region id l.toArray true)} {y : Shut Q}
    (h : act (DOps P τ md l.toArray l s.nx s [] (drawQ l Q))) : WWE P (.region id l.toArray true) s Q x y := WW_draw hτ hm h
end
attribute [go_sem] act_dnil act_dcons act_drawQ rdO rdO.tmpV opers idV idA idC deepV deepC Option.toList_some Option.toList_none
end Go.Proofs.Ytbmdncjnnlajnaa.M

/- A machine of values: contracts out of the kit's own, and what a contract gives back. No condition. -/
namespace Go.Proofs.Ytbmdncjnnlajnaa.M
open Go
set_option linter.unusedSimpArgs false
set_option linter.unusedVariables false
set_option linter.unusedSectionVars false

/-- A plain number, bool or string as Go's value. -/
def T.val : T → Value
  | .int k n => .int k n
  | .bool b => .bool b
  | .str s => .string s
  | _ => undef
theorem hold_val {S : Addr → Option Value} {x : T} {v : Value} (hx : x.scal = true) (h : Hold S x v) : v = x.val := by
  cases h <;> first | rfl | (simp [T.scal] at hx; done)
theorem val_hold {S : Addr → Option Value} {x : T} (hx : x.scal = true) : Hold S x x.val := by
  cases x <;> first | (simp [T.scal] at hx; done) | constructor
theorem argsOk_scal {S : Addr → Option Value} {w : World} : ∀ {xs : List T} {vs : List Value} {bs : List Nat}, (∀ x ∈ xs, x.scal = true) → ArgsOk S w (xs.map AA.v) vs bs → vs = xs.map T.val ∧ bs = []
  | [], vs, bs, _, h => ⟨h.1, h.2⟩
  | x :: xs, vs, bs, hx, ⟨v, vs', r1, r2, h1, h2, h3, h4⟩ => by
    obtain ⟨h5, h6⟩ := argsOk_scal (fun x hx' => hx x (by simp [hx'])) h4
    obtain ⟨h7, h8⟩ := h3
    rw [h1, h2, h5, h6, h7, hold_val (hx x (by simp)) h8]
    exact ⟨rfl, rfl⟩
theorem scal_argsOk {S : Addr → Option Value} {w : World} : ∀ {xs : List T}, (∀ x ∈ xs, x.scal = true) → ArgsOk S w (xs.map AA.v) (xs.map T.val) []
  | [], _ => ⟨rfl, rfl⟩
  | x :: xs, hx => ⟨x.val, xs.map T.val, [], [], rfl, rfl, ⟨rfl, val_hold (hx x (by simp))⟩, scal_argsOk fun x hx' => hx x (by simp [hx'])⟩
theorem outsOk_none {S : Addr → Option Value} {w : World} : ∀ (xs : List T) (vs : List Value), vs.length = xs.length → OutsOk S w (xs.map AA.v) vs [] []
  | [], vs, _ => ⟨rfl, rfl⟩
  | x :: xs, [], h => by simp at h
  | x :: xs, v :: vs, h => outsOk_none xs vs (by simpa using h)
theorem resOk_scal {own : Bool} {S : Addr → Option Value} {w : World} {x : T} (hx : x.scal = true) : ResOk own S w [x] x.val [] := by
  show ResA own S w x x.val []
  cases x <;> first | (simp [T.scal] at hx; done) | (cases own <;> exact ⟨rfl, by constructor⟩)
theorem scal_resOk {own : Bool} {S : Addr → Option Value} {w : World} {x : T} {v : Value} {r : List Nat} (hx : x.scal = true) (h : ResOk own S w [x] v r) : v = x.val ∧ r = [] := by
  have h : ResA own S w x v r := h
  cases x <;> first | (simp [T.scal] at hx; done) | (cases own <;> exact ⟨hold_val rfl h.2, h.1⟩)

section
variable {P : Program} {own : Bool} {f : FuncId} {fn : Func}
/-- A contract of the kit: plain values in, one plain value out, the world as it was. -/
theorem CS_of_calls {c : Code} (hf : P.funcs[f]? = some fn) (hb : fn.body = some c) (hname : (fn.name == "runtime.NumGoroutine") = false) {xs : List T} {r : T} (hx : ∀ x ∈ xs, x.scal = true) (hr : r.scal = true)
    (h : ∀ w, Calls P f (xs.map T.val).toArray w fun e w' => e = .returned r.val ∧ w' = w) : CS P own f (xs.map AA.v) [r] [] := by
  intro G w vals bs hA hnd hbs hG
  obtain ⟨rfl, rfl⟩ := argsOk_scal hx hA
  have hname' : ¬ fn.name = "runtime.NumGoroutine" := by simpa using hname
  refine .inl ⟨by simp [callFunc, hf, hname', hb], (h w).mono fun e w' ⟨he, hw⟩ => ⟨_, he, [], [], ?_, resOk_scal hr, outsOk_none _ _ (by simp), by simp, by simp⟩⟩
  subst hw
  exact Fr.refl [] w'
/-- A function for which the model stands in. -/
theorem CS_of_value {xs : List T} {r : T} (hx : ∀ x ∈ xs, x.scal = true) (hr : r.scal = true) (h : ∀ w, (callFunc f (xs.map T.val).toArray).run P w = .ok (.value r.val) w) : CS P own f (xs.map AA.v) [r] [] := by
  intro G w vals bs hA hnd hbs hG
  obtain ⟨rfl, rfl⟩ := argsOk_scal hx hA
  exact .inr ⟨_, w, h w, [], [], Fr.refl [] w, resOk_scal hr, outsOk_none _ _ (by simp), by simp, by simp⟩
theorem CS_indexByteString (hf : P.funcs[f]? = some fn) (hname : (fn.name == "runtime.NumGoroutine") = false) (hb : fn.body.isNone = true) (hn : Extern.findNext fn = none) (he : Extern.find fn = some Extern.BytealgIndexByte.indexByte)
    (s : ByteArray) (c : Int) : CS P own f [.v (.str s), .v (.int .u8 c)] [.int .i64 (Lib.indexByte s.data.toList c.toNat.toUInt8)] [] := by
  refine CS_of_value (xs := [.str s, .int .u8 c]) (by simp [T.scal]) rfl fun w => ?_
  show (callFunc f #[.string s, .int .u8 c]).run P w = _
  rw [run_callFunc_extern hf hname hb hn he, Lib.run_indexByteString]
  rfl
/-- What a contract of a function with a body gives: a call that hands back. -/
theorem CS.calls {c : Code} (hf : P.funcs[f]? = some fn) (hb : fn.body = some c) (hname : (fn.name == "runtime.NumGoroutine") = false) {args : List AA} {r : T} (hr : r.scal = true) (h : CS P own f args [r] []) {w : World} {vals : List Value}
    (hA : ArgsOk (inV (· < w.heap.size) w) w args vals []) : Calls P f vals.toArray w fun e w' => e = .returned r.val ∧ RowKit.Below w.heap.size w w' := by
  have hname' : ¬ fn.name = "runtime.NumGoroutine" := by simpa using hname
  rcases h (· < w.heap.size) w vals [] hA (by simp) (by simp) (fun b hb => hb) with ⟨_, h⟩ | ⟨v, w', h, _⟩
  · refine h.mono fun e w' ⟨v, he, r1, r2, hF, hR, _⟩ => ?_
    obtain ⟨rfl, _⟩ := scal_resOk hr hR
    exact ⟨he, hF.os, hF.tape, hF.output, hF.size, fun k hk => hF.block k hk (by simp)⟩
  · simp [callFunc, hf, hname', hb] at h
end
end Go.Proofs.Ytbmdncjnnlajnaa.M

/- A machine of values: cuts: code behind code, a state that is forgotten in part, a piece of a function's code. No condition. -/
namespace Go.Proofs.Ytbmdncjnnlajnaa.M
open Go
set_option linter.unusedSimpArgs false
set_option linter.unusedVariables false

def contK (P : Program) (b : Code) (Q : X → St → Prop) (x : X) (s : St) : Prop :=
  match x with
  | .normal => WWE P b s Q .one .one
  | .exit i => Q (.exit i) s
  | .ret => Q .ret s
/-- A piece of code: true: behind, false: ahead (or within). -/
def subC : Option Code → List Bool → Option Code
  | some (.seq _ b), true :: r => subC (some b) r
  | some (.seq a _), false :: r => subC (some a) r
  | some (.block _ a), _ :: r => subC (some a) r
  | some (.loop a), _ :: r => subC (some a) r
  | some (.cond _ a _), false :: r => subC (some a) r
  | some (.cond _ _ b), true :: r => subC (some b) r
  | c, [] => c
  | _, _ => none
section
variable {P : Program} {τ : Tab} {md : Nat → Bool} {own : Bool} {a b c : Code} {s : St} {Q : X → St → Prop}
theorem act_contK_normal : act (contK P b Q .normal s) = WWE P b s Q .one .one := (rfl)
theorem act_contK_exit {i : Nat} : act (contK P b Q (.exit i) s) = act (Q (.exit i) s) := (rfl)
theorem act_contK_ret : act (contK P b Q .ret s) = act (Q .ret s) := (rfl)
theorem CS_WW (hτ : TOk P τ) {f : FuncId} {fn : Func} {N : Nat} (hf : P.funcs[f]? = some fn) (hb : fn.body = some c) (hname : (fn.name == "runtime.NumGoroutine") = false) (hN : fn.ntmps = N) {rl : List ResultVar} (hrl : fn.results.toList = rl)
    {args : List AA} {rs : List T} {os : List (List BC)} (hlen : args.length ≤ N) (h : WWE P c (initS N args) (endK τ own rl args rs os) .one .one) : CS P own f args rs os := by
  subst hrl hN
  have e : (endK τ own fn.results.toList args rs os) = fun x s => x ≠ .exit 0 ∧ (match x with | .exit _ => False | _ => retK τ own fn args s fun rs' os' => rs' = rs ∧ os' = os) := by
    funext x s
    cases x <;> simp [endK, retE, retK]
  have h' : WW P c (initS fn.ntmps args) (endK τ own fn.results.toList args rs os) := h
  rw [e] at h'
  exact CS_of_WW hτ hf hb hname hlen h'
theorem WWE_of_act (hτ : TOk P τ) (md : Nat → Bool) {x : Shut c} {y : Shut Q} (h : act (W P τ md c s Q)) : WWE P c s Q x y := W_sound hτ c s Q h
theorem WWE_seq (hτ : TOk P τ) (md : Nat → Bool) {x : Shut (Code.seq a b)} {y : Shut Q} (h : act (W P τ md a s (contK P b Q))) : WWE P (.seq a b) s Q x y := fun Γ ac w μ R => by
  refine wp_seq (wp_mono (W_sound hτ a s _ h Γ ac w μ R) fun e a' w' ⟨x, s', μ', hx, hq, R'⟩ => ?_)
  cases x with
  | normal =>
    obtain rfl : e = .normal := by cases e <;> first | rfl | exact hx.elim
    exact hq Γ a' w' μ' R'
  | exit i =>
    obtain rfl : e = .exit i := by cases e <;> first | exact hx.elim | exact congrArg _ hx.symm
    exact ⟨_, s', μ', hx, hq, R'⟩
  | ret =>
    obtain rfl : e = .ret := by cases e <;> first | rfl | exact hx.elim
    exact ⟨_, s', μ', hx, hq, R'⟩
theorem WWE_cut {x : Shut c} {y : Shut Q} (ks hs : List Nat) (n : Nat) (S : St) (hsn : s.nx ≤ n) (h0 : tidyB hs n (tidy ks hs n s) = true) (h1 : tidy ks hs n s = S) (h : WWE P c S Q .one .one) : WWE P c s Q x y := fun Γ a w μ R => by
  have R0 := tidy_ok (n := n) R (fun i b hb => Nat.lt_of_lt_of_le (R.mem.pin i b hb).1 hsn) h0
  rw [h1] at R0
  have hn : S.nx = n := by rw [← h1]; rfl
  exact h Γ a w μ (by rw [hn]; exact R0)
end
attribute [go_sem] act_contK_normal act_contK_exit act_contK_ret
end Go.Proofs.Ytbmdncjnnlajnaa.M

/- What every row of this seat needs: the arguments of a call that only makes memory read behind it as they did. Conditions: the program's types are laid out, and the call leaves all elder blocks alone. -/
namespace Go.Proofs.Ytbmdncjnnlajnaa.Lift
open Go.ChangeShapes Go.WideShapes Go.ChangeAt Go.RowKit
theorem own : ownKnob Try.prog.godebug = none := by kernel_rfl
theorem kids : Kids Try.prog (· < Try.prog.types.size) := kids_rows (by kernel_rfl) (by kernel_rfl)
theorem full : ∀ t e, t < Try.prog.types.size → Try.prog.underlying t = some (.slice e) → 0 < Try.prog.cellsOf e := slices_full_of _ (by kernel_rfl)
section
variable {H : Type} {enc : TypeId × Value → H} {P : Program} {w w' : World} {base : Nat} {spare : Nat → Bool} {held : Bool}
theorem trodAll_carry : ∀ {ts : List TypeId} {vs : List Value} {ds : List (DataW H)} {ps : List MemPlace}, DataW.TrodAll enc P w base spare held ts vs ds ps → (∀ p ∈ ps, w.sameAt w' p) → DataW.TrodAll enc P w' base spare held ts vs ds ps
  | [], [], [], _, h, _ => h
  | _ :: _, _ :: _, _ :: _, _, ⟨p, q, ⟨n, h1⟩, h2, e⟩, hs => ⟨p, q, ⟨n, DataW.trod_carry n _ _ _ h1 (fun x hx => hs x (by rw [e]; exact List.mem_append_left _ hx))⟩, trodAll_carry h2 (fun x hx => hs x (by rw [e]; exact List.mem_append_right _ hx)), e⟩
theorem same_of_below (bel : Below w.heap.size w w') (p : MemPlace) (hp : p.block < w.heap.size) : w.sameAt w' p := by
  have h := bel.block p.block hp
  cases p with
  | cell b o => show w'.cell? ⟨b, o, none⟩ = w.cell? ⟨b, o, none⟩; exact bel.cell (p := ⟨b, o, none⟩) hp
  | map b => exact h
end
/-- The arguments read again. -/
theorem again {H : Type} {enc : TypeId × Value → H} {w w' : World} {ts : List TypeId} {vs : List Value} {ds : List (DataW H)} {ps : List MemPlace} (hts : ∀ t ∈ ts, t < Try.prog.types.size)
    (h : DataW.TrodAll enc Try.prog w 0 (fun _ => true) true ts vs ds ps) (hlt : ∀ p ∈ ps, p.block < w.heap.size) (bel : Below w.heap.size w w') :
    DataW.TrodAll enc Try.prog w' 0 (fun b => decide (b < w.heap.size)) true ts vs ds ps :=
  (trodAll_carry h (fun p hp => same_of_below bel p (hlt p hp))).respare kids full hts (fun p hp => decide_eq_true (hlt p hp))
/-- The end of a row: it answered true, and all elder memory stands. -/
theorem close {H : Type} {enc : TypeId × Value → H} {f : Func} {s : ChangeSpec} {W W' : World} {args : Array Value} {ds : List (DataW H)} {before p : List MemPlace} (hres : f.resultTypes = #[4]) (hvars : s.vars = []) (hts : ∀ t ∈ f.params.toList, t < Try.prog.types.size)
    (hW : DataW.Whole enc Try.prog f.params.toList s.vars false W args.toList ds [] before) (hA : DataW.TrodAll enc Try.prog W 0 (fun _ => true) true f.params.toList args.toList ds p)
    (hspec : s.fn H ds = { results := [.lit (.bool true)], args := ds }) (bel : Below W.heap.size W W') :
    s.post enc Try.prog f false true false false W args (.bool true) W' := by
  refine ⟨ds, [], before, [], p, [], hW, ?_, ?_, ?_, bel.frame _, fun h => by cases h⟩
  · rw [List.append_nil, hspec, hres]
    exact trodAll_mk1 (shut_bool Try.underlying4 _)
  · rw [List.append_nil, hspec]
    exact again hts hA hA.lt bel
  · rw [List.append_nil, hspec, hvars]
    rfl
end Go.Proofs.Ytbmdncjnnlajnaa.Lift

/- The table of types of the seat. Made by tab.py. -/
namespace Go.Proofs.Ytbmdncjnnlajnaa.M
open Go Go.Proofs
set_option maxRecDepth 100000
def tab : Tab := [
 (2, ⟨1, 8, [.t (.int .i64 0)], .int .i64⟩),
 (3, ⟨1, 8, [.t (.int .i64 0)], .int .i64⟩),
 (4, ⟨1, 1, [.t (.bool false)], .bool⟩),
 (5, ⟨1, 1, [.t (.int .u8 0)], .int .u8⟩),
 (6, ⟨1, 1, [.t (.int .u8 0)], .int .u8⟩),
 (7, ⟨4, 24, [.t (.int .i64 0), .t (.int .i64 0), .t (.bool false), .t (.int .u8 0)], .struct [(0, 2), (1, 3), (2, 4), (3, 6)]⟩),
 (8, ⟨4, 24, [.t (.int .i64 0), .t (.int .i64 0), .t (.bool false), .t (.int .u8 0)], .struct [(0, 2), (1, 3), (2, 4), (3, 6)]⟩),
 (9, ⟨1, 16, [.t (.str ⟨#[]⟩)], .str⟩),
 (10, ⟨1, 16, [.t (.str ⟨#[]⟩)], .str⟩),
 (11, ⟨1, 16, [.t (.str ⟨#[]⟩)], .str⟩),
 (12, ⟨1, 8, [.t (.int .u64 0)], .int .u64⟩),
 (13, ⟨2, 24, [.t (.str ⟨#[]⟩), .t (.int .u64 0)], .struct [(0, 9), (1, 12)]⟩),
 (14, ⟨2, 24, [.t (.str ⟨#[]⟩), .t (.int .u64 0)], .struct [(0, 9), (1, 12)]⟩),
 (15, ⟨1, 8, [.nilp], .ptr 133⟩),
 (16, ⟨1, 8, [.nilp], .ptr 136⟩),
 (17, ⟨1, 8, [.nilp], .ptr 146⟩),
 (18, ⟨1, 8, [.nilp], .struct [(0, 17)]⟩),
 (19, ⟨1, 8, [.nilp], .struct [(0, 17)]⟩),
 (21, ⟨1, 4, [.t (.int .i32 0)], .int .i32⟩),
 (22, ⟨3, 24, [.t (.int .i64 0), .t (.int .i64 0), .t (.int .i64 0)], .struct [(0, 3), (1, 3), (2, 3)]⟩),
 (23, ⟨3, 24, [.t (.int .i64 0), .t (.int .i64 0), .t (.int .i64 0)], .struct [(0, 3), (1, 3), (2, 3)]⟩),
 (25, ⟨3, 24, [.t (.int .i64 0), .t (.int .i64 0), .t (.int .i64 0)], .struct [(0, 3), (1, 3), (2, 3)]⟩),
 (30, ⟨1, 24, [.nil 1], .slice 9⟩),
 (31, ⟨1, 24, [.nil 5], .slice 33⟩),
 (32, ⟨5, 80, [.t (.int .i64 0), .t (.int .i64 0), .t (.str ⟨#[]⟩), .nil 1, .nil 5], .struct [(0, 3), (1, 3), (2, 9), (3, 30), (4, 31)]⟩),
 (33, ⟨5, 80, [.t (.int .i64 0), .t (.int .i64 0), .t (.str ⟨#[]⟩), .nil 1, .nil 5], .struct [(0, 3), (1, 3), (2, 9), (3, 30), (4, 31)]⟩),
 (35, ⟨1, 24, [.nil 5], .slice 37⟩),
 (36, ⟨5, 80, [.t (.int .i64 0), .t (.int .i64 0), .t (.str ⟨#[]⟩), .nil 1, .nil 5], .struct [(0, 3), (1, 3), (2, 9), (3, 30), (4, 35)]⟩),
 (37, ⟨5, 80, [.t (.int .i64 0), .t (.int .i64 0), .t (.str ⟨#[]⟩), .nil 1, .nil 5], .struct [(0, 3), (1, 3), (2, 9), (3, 30), (4, 35)]⟩),
 (46, ⟨1, 24, [.nil 8], .slice 112⟩),
 (47, ⟨2, 32, [.nil 8, .t (.int .i64 0)], .struct [(0, 46), (1, 3)]⟩),
 (48, ⟨2, 32, [.nil 8, .t (.int .i64 0)], .struct [(0, 46), (1, 3)]⟩),
 (51, ⟨1, 24, [.nil 8], .slice 65⟩),
 (52, ⟨2, 32, [.nil 8, .t (.int .i64 0)], .struct [(0, 51), (1, 3)]⟩),
 (53, ⟨2, 32, [.nil 8, .t (.int .i64 0)], .struct [(0, 51), (1, 3)]⟩),
 (59, ⟨1, 24, [.nil 1], .slice 5⟩),
 (64, ⟨8, 112, [.t (.int .i64 0), .t (.int .i64 0), .t (.int .i64 0), .t (.str ⟨#[]⟩), .nil 1, .nil 5, .t (.bool false), .t (.str ⟨#[]⟩)], .struct [(0, 3), (1, 37), (6, 4), (7, 9)]⟩),
 (65, ⟨8, 112, [.t (.int .i64 0), .t (.int .i64 0), .t (.int .i64 0), .t (.str ⟨#[]⟩), .nil 1, .nil 5, .t (.bool false), .t (.str ⟨#[]⟩)], .struct [(0, 3), (1, 37), (6, 4), (7, 9)]⟩),
 (88, ⟨1, 8, [.nilp], .ptr 3⟩),
 (97, ⟨1, 8, [.nilp], .ptr 120⟩),
 (111, ⟨8, 112, [.t (.int .i64 0), .t (.int .i64 0), .t (.int .i64 0), .t (.str ⟨#[]⟩), .nil 1, .nil 5, .t (.bool false), .t (.str ⟨#[]⟩)], .struct [(0, 3), (1, 33), (6, 4), (7, 9)]⟩),
 (112, ⟨8, 112, [.t (.int .i64 0), .t (.int .i64 0), .t (.int .i64 0), .t (.str ⟨#[]⟩), .nil 1, .nil 5, .t (.bool false), .t (.str ⟨#[]⟩)], .struct [(0, 3), (1, 33), (6, 4), (7, 9)]⟩),
 (119, ⟨3, 40, [.nil 1, .t (.int .i64 0), .t (.int .i64 0)], .struct [(0, 59), (1, 3), (2, 3)]⟩),
 (120, ⟨3, 40, [.nil 1, .t (.int .i64 0), .t (.int .i64 0)], .struct [(0, 59), (1, 3), (2, 3)]⟩),
 (124, ⟨1, 24, [.nil 1], .slice 3⟩),
 (128, ⟨1, 8, [.t (.int .u64 0)], .int .u64⟩),
 (132, ⟨4, 40, [.nilp, .nilp, .nilp, .t (.str ⟨#[]⟩)], .struct [(0, 17), (1, 17), (2, 17), (3, 9)]⟩),
 (133, ⟨4, 40, [.nilp, .nilp, .nilp, .t (.str ⟨#[]⟩)], .struct [(0, 17), (1, 17), (2, 17), (3, 9)]⟩),
 (134, ⟨0, 0, [], .array 0 16⟩),
 (135, ⟨0, 0, [], .struct [(0, 134)]⟩),
 (136, ⟨0, 0, [], .struct [(0, 134)]⟩),
 (138, ⟨1, 4, [.t (.int .u32 0)], .int .u32⟩),
 (139, ⟨1, 1, [.t (.int .u8 0)], .int .u8⟩),
 (140, ⟨1, 1, [.t (.int .u8 0)], .int .u8⟩),
 (142, ⟨1, 8, [.nilp], .ptr 5⟩),
 (143, ⟨1, 4, [.t (.int .i32 0)], .int .i32⟩),
 (144, ⟨1, 4, [.t (.int .i32 0)], .int .i32⟩)
]
theorem mix : Try.prog.follows .mixedOrders = true := by kernel_rfl
theorem tab_ok : TOk Try.prog tab := tabB_ok (by kernel_rfl)
@[go_sem] theorem f2 : find tab 2 = some ⟨1, 8, [.t (.int .i64 0)], .int .i64⟩ := rfl
@[go_sem] theorem t2 : tg tab 2 = ⟨1, 8, [.t (.int .i64 0)], .int .i64⟩ := rfl
@[go_sem] theorem f3 : find tab 3 = some ⟨1, 8, [.t (.int .i64 0)], .int .i64⟩ := rfl
@[go_sem] theorem t3 : tg tab 3 = ⟨1, 8, [.t (.int .i64 0)], .int .i64⟩ := rfl
@[go_sem] theorem f4 : find tab 4 = some ⟨1, 1, [.t (.bool false)], .bool⟩ := rfl
@[go_sem] theorem t4 : tg tab 4 = ⟨1, 1, [.t (.bool false)], .bool⟩ := rfl
@[go_sem] theorem f5 : find tab 5 = some ⟨1, 1, [.t (.int .u8 0)], .int .u8⟩ := rfl
@[go_sem] theorem t5 : tg tab 5 = ⟨1, 1, [.t (.int .u8 0)], .int .u8⟩ := rfl
@[go_sem] theorem f6 : find tab 6 = some ⟨1, 1, [.t (.int .u8 0)], .int .u8⟩ := rfl
@[go_sem] theorem t6 : tg tab 6 = ⟨1, 1, [.t (.int .u8 0)], .int .u8⟩ := rfl
@[go_sem] theorem f7 : find tab 7 = some ⟨4, 24, [.t (.int .i64 0), .t (.int .i64 0), .t (.bool false), .t (.int .u8 0)], .struct [(0, 2), (1, 3), (2, 4), (3, 6)]⟩ := rfl
@[go_sem] theorem t7 : tg tab 7 = ⟨4, 24, [.t (.int .i64 0), .t (.int .i64 0), .t (.bool false), .t (.int .u8 0)], .struct [(0, 2), (1, 3), (2, 4), (3, 6)]⟩ := rfl
@[go_sem] theorem f8 : find tab 8 = some ⟨4, 24, [.t (.int .i64 0), .t (.int .i64 0), .t (.bool false), .t (.int .u8 0)], .struct [(0, 2), (1, 3), (2, 4), (3, 6)]⟩ := rfl
@[go_sem] theorem t8 : tg tab 8 = ⟨4, 24, [.t (.int .i64 0), .t (.int .i64 0), .t (.bool false), .t (.int .u8 0)], .struct [(0, 2), (1, 3), (2, 4), (3, 6)]⟩ := rfl
@[go_sem] theorem f9 : find tab 9 = some ⟨1, 16, [.t (.str ⟨#[]⟩)], .str⟩ := rfl
@[go_sem] theorem t9 : tg tab 9 = ⟨1, 16, [.t (.str ⟨#[]⟩)], .str⟩ := rfl
@[go_sem] theorem f10 : find tab 10 = some ⟨1, 16, [.t (.str ⟨#[]⟩)], .str⟩ := rfl
@[go_sem] theorem t10 : tg tab 10 = ⟨1, 16, [.t (.str ⟨#[]⟩)], .str⟩ := rfl
@[go_sem] theorem f11 : find tab 11 = some ⟨1, 16, [.t (.str ⟨#[]⟩)], .str⟩ := rfl
@[go_sem] theorem t11 : tg tab 11 = ⟨1, 16, [.t (.str ⟨#[]⟩)], .str⟩ := rfl
@[go_sem] theorem f12 : find tab 12 = some ⟨1, 8, [.t (.int .u64 0)], .int .u64⟩ := rfl
@[go_sem] theorem t12 : tg tab 12 = ⟨1, 8, [.t (.int .u64 0)], .int .u64⟩ := rfl
@[go_sem] theorem f13 : find tab 13 = some ⟨2, 24, [.t (.str ⟨#[]⟩), .t (.int .u64 0)], .struct [(0, 9), (1, 12)]⟩ := rfl
@[go_sem] theorem t13 : tg tab 13 = ⟨2, 24, [.t (.str ⟨#[]⟩), .t (.int .u64 0)], .struct [(0, 9), (1, 12)]⟩ := rfl
@[go_sem] theorem f14 : find tab 14 = some ⟨2, 24, [.t (.str ⟨#[]⟩), .t (.int .u64 0)], .struct [(0, 9), (1, 12)]⟩ := rfl
@[go_sem] theorem t14 : tg tab 14 = ⟨2, 24, [.t (.str ⟨#[]⟩), .t (.int .u64 0)], .struct [(0, 9), (1, 12)]⟩ := rfl
@[go_sem] theorem f15 : find tab 15 = some ⟨1, 8, [.nilp], .ptr 133⟩ := rfl
@[go_sem] theorem t15 : tg tab 15 = ⟨1, 8, [.nilp], .ptr 133⟩ := rfl
@[go_sem] theorem f16 : find tab 16 = some ⟨1, 8, [.nilp], .ptr 136⟩ := rfl
@[go_sem] theorem t16 : tg tab 16 = ⟨1, 8, [.nilp], .ptr 136⟩ := rfl
@[go_sem] theorem f17 : find tab 17 = some ⟨1, 8, [.nilp], .ptr 146⟩ := rfl
@[go_sem] theorem t17 : tg tab 17 = ⟨1, 8, [.nilp], .ptr 146⟩ := rfl
@[go_sem] theorem f18 : find tab 18 = some ⟨1, 8, [.nilp], .struct [(0, 17)]⟩ := rfl
@[go_sem] theorem t18 : tg tab 18 = ⟨1, 8, [.nilp], .struct [(0, 17)]⟩ := rfl
@[go_sem] theorem f19 : find tab 19 = some ⟨1, 8, [.nilp], .struct [(0, 17)]⟩ := rfl
@[go_sem] theorem t19 : tg tab 19 = ⟨1, 8, [.nilp], .struct [(0, 17)]⟩ := rfl
@[go_sem] theorem f21 : find tab 21 = some ⟨1, 4, [.t (.int .i32 0)], .int .i32⟩ := rfl
@[go_sem] theorem t21 : tg tab 21 = ⟨1, 4, [.t (.int .i32 0)], .int .i32⟩ := rfl
@[go_sem] theorem f22 : find tab 22 = some ⟨3, 24, [.t (.int .i64 0), .t (.int .i64 0), .t (.int .i64 0)], .struct [(0, 3), (1, 3), (2, 3)]⟩ := rfl
@[go_sem] theorem t22 : tg tab 22 = ⟨3, 24, [.t (.int .i64 0), .t (.int .i64 0), .t (.int .i64 0)], .struct [(0, 3), (1, 3), (2, 3)]⟩ := rfl
@[go_sem] theorem f23 : find tab 23 = some ⟨3, 24, [.t (.int .i64 0), .t (.int .i64 0), .t (.int .i64 0)], .struct [(0, 3), (1, 3), (2, 3)]⟩ := rfl
@[go_sem] theorem t23 : tg tab 23 = ⟨3, 24, [.t (.int .i64 0), .t (.int .i64 0), .t (.int .i64 0)], .struct [(0, 3), (1, 3), (2, 3)]⟩ := rfl
@[go_sem] theorem f25 : find tab 25 = some ⟨3, 24, [.t (.int .i64 0), .t (.int .i64 0), .t (.int .i64 0)], .struct [(0, 3), (1, 3), (2, 3)]⟩ := rfl
@[go_sem] theorem t25 : tg tab 25 = ⟨3, 24, [.t (.int .i64 0), .t (.int .i64 0), .t (.int .i64 0)], .struct [(0, 3), (1, 3), (2, 3)]⟩ := rfl
@[go_sem] theorem f30 : find tab 30 = some ⟨1, 24, [.nil 1], .slice 9⟩ := rfl
@[go_sem] theorem t30 : tg tab 30 = ⟨1, 24, [.nil 1], .slice 9⟩ := rfl
@[go_sem] theorem f31 : find tab 31 = some ⟨1, 24, [.nil 5], .slice 33⟩ := rfl
@[go_sem] theorem t31 : tg tab 31 = ⟨1, 24, [.nil 5], .slice 33⟩ := rfl
@[go_sem] theorem f32 : find tab 32 = some ⟨5, 80, [.t (.int .i64 0), .t (.int .i64 0), .t (.str ⟨#[]⟩), .nil 1, .nil 5], .struct [(0, 3), (1, 3), (2, 9), (3, 30), (4, 31)]⟩ := rfl
@[go_sem] theorem t32 : tg tab 32 = ⟨5, 80, [.t (.int .i64 0), .t (.int .i64 0), .t (.str ⟨#[]⟩), .nil 1, .nil 5], .struct [(0, 3), (1, 3), (2, 9), (3, 30), (4, 31)]⟩ := rfl
@[go_sem] theorem f33 : find tab 33 = some ⟨5, 80, [.t (.int .i64 0), .t (.int .i64 0), .t (.str ⟨#[]⟩), .nil 1, .nil 5], .struct [(0, 3), (1, 3), (2, 9), (3, 30), (4, 31)]⟩ := rfl
@[go_sem] theorem t33 : tg tab 33 = ⟨5, 80, [.t (.int .i64 0), .t (.int .i64 0), .t (.str ⟨#[]⟩), .nil 1, .nil 5], .struct [(0, 3), (1, 3), (2, 9), (3, 30), (4, 31)]⟩ := rfl
@[go_sem] theorem f35 : find tab 35 = some ⟨1, 24, [.nil 5], .slice 37⟩ := rfl
@[go_sem] theorem t35 : tg tab 35 = ⟨1, 24, [.nil 5], .slice 37⟩ := rfl
@[go_sem] theorem f36 : find tab 36 = some ⟨5, 80, [.t (.int .i64 0), .t (.int .i64 0), .t (.str ⟨#[]⟩), .nil 1, .nil 5], .struct [(0, 3), (1, 3), (2, 9), (3, 30), (4, 35)]⟩ := rfl
@[go_sem] theorem t36 : tg tab 36 = ⟨5, 80, [.t (.int .i64 0), .t (.int .i64 0), .t (.str ⟨#[]⟩), .nil 1, .nil 5], .struct [(0, 3), (1, 3), (2, 9), (3, 30), (4, 35)]⟩ := rfl
@[go_sem] theorem f37 : find tab 37 = some ⟨5, 80, [.t (.int .i64 0), .t (.int .i64 0), .t (.str ⟨#[]⟩), .nil 1, .nil 5], .struct [(0, 3), (1, 3), (2, 9), (3, 30), (4, 35)]⟩ := rfl
@[go_sem] theorem t37 : tg tab 37 = ⟨5, 80, [.t (.int .i64 0), .t (.int .i64 0), .t (.str ⟨#[]⟩), .nil 1, .nil 5], .struct [(0, 3), (1, 3), (2, 9), (3, 30), (4, 35)]⟩ := rfl
@[go_sem] theorem f46 : find tab 46 = some ⟨1, 24, [.nil 8], .slice 112⟩ := rfl
@[go_sem] theorem t46 : tg tab 46 = ⟨1, 24, [.nil 8], .slice 112⟩ := rfl
@[go_sem] theorem f47 : find tab 47 = some ⟨2, 32, [.nil 8, .t (.int .i64 0)], .struct [(0, 46), (1, 3)]⟩ := rfl
@[go_sem] theorem t47 : tg tab 47 = ⟨2, 32, [.nil 8, .t (.int .i64 0)], .struct [(0, 46), (1, 3)]⟩ := rfl
@[go_sem] theorem f48 : find tab 48 = some ⟨2, 32, [.nil 8, .t (.int .i64 0)], .struct [(0, 46), (1, 3)]⟩ := rfl
@[go_sem] theorem t48 : tg tab 48 = ⟨2, 32, [.nil 8, .t (.int .i64 0)], .struct [(0, 46), (1, 3)]⟩ := rfl
@[go_sem] theorem f51 : find tab 51 = some ⟨1, 24, [.nil 8], .slice 65⟩ := rfl
@[go_sem] theorem t51 : tg tab 51 = ⟨1, 24, [.nil 8], .slice 65⟩ := rfl
@[go_sem] theorem f52 : find tab 52 = some ⟨2, 32, [.nil 8, .t (.int .i64 0)], .struct [(0, 51), (1, 3)]⟩ := rfl
@[go_sem] theorem t52 : tg tab 52 = ⟨2, 32, [.nil 8, .t (.int .i64 0)], .struct [(0, 51), (1, 3)]⟩ := rfl
@[go_sem] theorem f53 : find tab 53 = some ⟨2, 32, [.nil 8, .t (.int .i64 0)], .struct [(0, 51), (1, 3)]⟩ := rfl
@[go_sem] theorem t53 : tg tab 53 = ⟨2, 32, [.nil 8, .t (.int .i64 0)], .struct [(0, 51), (1, 3)]⟩ := rfl
@[go_sem] theorem f59 : find tab 59 = some ⟨1, 24, [.nil 1], .slice 5⟩ := rfl
@[go_sem] theorem t59 : tg tab 59 = ⟨1, 24, [.nil 1], .slice 5⟩ := rfl
@[go_sem] theorem f64 : find tab 64 = some ⟨8, 112, [.t (.int .i64 0), .t (.int .i64 0), .t (.int .i64 0), .t (.str ⟨#[]⟩), .nil 1, .nil 5, .t (.bool false), .t (.str ⟨#[]⟩)], .struct [(0, 3), (1, 37), (6, 4), (7, 9)]⟩ := rfl
@[go_sem] theorem t64 : tg tab 64 = ⟨8, 112, [.t (.int .i64 0), .t (.int .i64 0), .t (.int .i64 0), .t (.str ⟨#[]⟩), .nil 1, .nil 5, .t (.bool false), .t (.str ⟨#[]⟩)], .struct [(0, 3), (1, 37), (6, 4), (7, 9)]⟩ := rfl
@[go_sem] theorem f65 : find tab 65 = some ⟨8, 112, [.t (.int .i64 0), .t (.int .i64 0), .t (.int .i64 0), .t (.str ⟨#[]⟩), .nil 1, .nil 5, .t (.bool false), .t (.str ⟨#[]⟩)], .struct [(0, 3), (1, 37), (6, 4), (7, 9)]⟩ := rfl
@[go_sem] theorem t65 : tg tab 65 = ⟨8, 112, [.t (.int .i64 0), .t (.int .i64 0), .t (.int .i64 0), .t (.str ⟨#[]⟩), .nil 1, .nil 5, .t (.bool false), .t (.str ⟨#[]⟩)], .struct [(0, 3), (1, 37), (6, 4), (7, 9)]⟩ := rfl
@[go_sem] theorem f88 : find tab 88 = some ⟨1, 8, [.nilp], .ptr 3⟩ := rfl
@[go_sem] theorem t88 : tg tab 88 = ⟨1, 8, [.nilp], .ptr 3⟩ := rfl
@[go_sem] theorem f97 : find tab 97 = some ⟨1, 8, [.nilp], .ptr 120⟩ := rfl
@[go_sem] theorem t97 : tg tab 97 = ⟨1, 8, [.nilp], .ptr 120⟩ := rfl
@[go_sem] theorem f111 : find tab 111 = some ⟨8, 112, [.t (.int .i64 0), .t (.int .i64 0), .t (.int .i64 0), .t (.str ⟨#[]⟩), .nil 1, .nil 5, .t (.bool false), .t (.str ⟨#[]⟩)], .struct [(0, 3), (1, 33), (6, 4), (7, 9)]⟩ := rfl
@[go_sem] theorem t111 : tg tab 111 = ⟨8, 112, [.t (.int .i64 0), .t (.int .i64 0), .t (.int .i64 0), .t (.str ⟨#[]⟩), .nil 1, .nil 5, .t (.bool false), .t (.str ⟨#[]⟩)], .struct [(0, 3), (1, 33), (6, 4), (7, 9)]⟩ := rfl
@[go_sem] theorem f112 : find tab 112 = some ⟨8, 112, [.t (.int .i64 0), .t (.int .i64 0), .t (.int .i64 0), .t (.str ⟨#[]⟩), .nil 1, .nil 5, .t (.bool false), .t (.str ⟨#[]⟩)], .struct [(0, 3), (1, 33), (6, 4), (7, 9)]⟩ := rfl
@[go_sem] theorem t112 : tg tab 112 = ⟨8, 112, [.t (.int .i64 0), .t (.int .i64 0), .t (.int .i64 0), .t (.str ⟨#[]⟩), .nil 1, .nil 5, .t (.bool false), .t (.str ⟨#[]⟩)], .struct [(0, 3), (1, 33), (6, 4), (7, 9)]⟩ := rfl
@[go_sem] theorem f119 : find tab 119 = some ⟨3, 40, [.nil 1, .t (.int .i64 0), .t (.int .i64 0)], .struct [(0, 59), (1, 3), (2, 3)]⟩ := rfl
@[go_sem] theorem t119 : tg tab 119 = ⟨3, 40, [.nil 1, .t (.int .i64 0), .t (.int .i64 0)], .struct [(0, 59), (1, 3), (2, 3)]⟩ := rfl
@[go_sem] theorem f120 : find tab 120 = some ⟨3, 40, [.nil 1, .t (.int .i64 0), .t (.int .i64 0)], .struct [(0, 59), (1, 3), (2, 3)]⟩ := rfl
@[go_sem] theorem t120 : tg tab 120 = ⟨3, 40, [.nil 1, .t (.int .i64 0), .t (.int .i64 0)], .struct [(0, 59), (1, 3), (2, 3)]⟩ := rfl
@[go_sem] theorem f124 : find tab 124 = some ⟨1, 24, [.nil 1], .slice 3⟩ := rfl
@[go_sem] theorem t124 : tg tab 124 = ⟨1, 24, [.nil 1], .slice 3⟩ := rfl
@[go_sem] theorem f128 : find tab 128 = some ⟨1, 8, [.t (.int .u64 0)], .int .u64⟩ := rfl
@[go_sem] theorem t128 : tg tab 128 = ⟨1, 8, [.t (.int .u64 0)], .int .u64⟩ := rfl
@[go_sem] theorem f132 : find tab 132 = some ⟨4, 40, [.nilp, .nilp, .nilp, .t (.str ⟨#[]⟩)], .struct [(0, 17), (1, 17), (2, 17), (3, 9)]⟩ := rfl
@[go_sem] theorem t132 : tg tab 132 = ⟨4, 40, [.nilp, .nilp, .nilp, .t (.str ⟨#[]⟩)], .struct [(0, 17), (1, 17), (2, 17), (3, 9)]⟩ := rfl
@[go_sem] theorem f133 : find tab 133 = some ⟨4, 40, [.nilp, .nilp, .nilp, .t (.str ⟨#[]⟩)], .struct [(0, 17), (1, 17), (2, 17), (3, 9)]⟩ := rfl
@[go_sem] theorem t133 : tg tab 133 = ⟨4, 40, [.nilp, .nilp, .nilp, .t (.str ⟨#[]⟩)], .struct [(0, 17), (1, 17), (2, 17), (3, 9)]⟩ := rfl
@[go_sem] theorem f134 : find tab 134 = some ⟨0, 0, [], .array 0 16⟩ := rfl
@[go_sem] theorem t134 : tg tab 134 = ⟨0, 0, [], .array 0 16⟩ := rfl
@[go_sem] theorem f135 : find tab 135 = some ⟨0, 0, [], .struct [(0, 134)]⟩ := rfl
@[go_sem] theorem t135 : tg tab 135 = ⟨0, 0, [], .struct [(0, 134)]⟩ := rfl
@[go_sem] theorem f136 : find tab 136 = some ⟨0, 0, [], .struct [(0, 134)]⟩ := rfl
@[go_sem] theorem t136 : tg tab 136 = ⟨0, 0, [], .struct [(0, 134)]⟩ := rfl
@[go_sem] theorem f138 : find tab 138 = some ⟨1, 4, [.t (.int .u32 0)], .int .u32⟩ := rfl
@[go_sem] theorem t138 : tg tab 138 = ⟨1, 4, [.t (.int .u32 0)], .int .u32⟩ := rfl
@[go_sem] theorem f139 : find tab 139 = some ⟨1, 1, [.t (.int .u8 0)], .int .u8⟩ := rfl
@[go_sem] theorem t139 : tg tab 139 = ⟨1, 1, [.t (.int .u8 0)], .int .u8⟩ := rfl
@[go_sem] theorem f140 : find tab 140 = some ⟨1, 1, [.t (.int .u8 0)], .int .u8⟩ := rfl
@[go_sem] theorem t140 : tg tab 140 = ⟨1, 1, [.t (.int .u8 0)], .int .u8⟩ := rfl
@[go_sem] theorem f142 : find tab 142 = some ⟨1, 8, [.nilp], .ptr 5⟩ := rfl
@[go_sem] theorem t142 : tg tab 142 = ⟨1, 8, [.nilp], .ptr 5⟩ := rfl
@[go_sem] theorem f143 : find tab 143 = some ⟨1, 4, [.t (.int .i32 0)], .int .i32⟩ := rfl
@[go_sem] theorem t143 : tg tab 143 = ⟨1, 4, [.t (.int .i32 0)], .int .i32⟩ := rfl
@[go_sem] theorem f144 : find tab 144 = some ⟨1, 4, [.t (.int .i32 0)], .int .i32⟩ := rfl
@[go_sem] theorem t144 : tg tab 144 = ⟨1, 4, [.t (.int .i32 0)], .int .i32⟩ := rfl
end Go.Proofs.Ytbmdncjnnlajnaa.M

/- Contracts for ObjOk, part 1: lists of strings (md: no results of one's own). No condition. -/
namespace Go.Proofs.Ytbmdncjnnlajnaa.M
open Go Go.Proofs
set_option maxRecDepth 100000
set_option maxHeartbeats 2000000
@[go_sem] def md : Nat → Bool := fun _ => false
attribute [go_sem] List.getD_cons_zero Int.toNat_natCast Nat.zero_add
set_option linter.unusedSimpArgs false
theorem wrap64 {n : Int} (h0 : -9223372036854775808 ≤ n) (h1 : n < 9223372036854775808) : IntKind.wrap .i64 n = n := by
  simp only [IntKind.wrap, IntKind.bits, IntKind.signed]; simp; split <;> omega
theorem fill_set {α β : Type} (f : α → β) (z : β) (a : List α) (i : Nat) (x : α) (hx : a[i]? = some x) :
    ((a.take i).map f ++ List.replicate (a.length - i) z).set i (f x) = (a.take (i + 1)).map f ++ List.replicate (a.length - (i + 1)) z := by
  have hi : i < a.length := (List.getElem?_eq_some_iff.1 hx).1
  obtain ⟨k, hk⟩ : ∃ k, a.length - i = k + 1 := ⟨a.length - i - 1, by omega⟩
  have hk2 : a.length - (i + 1) = k := by omega
  rw [hk, hk2, List.set_append_right _ _ (by simp; omega), List.take_add_one, hx]
  have : i - ((a.take i).map f).length = 0 := by simp; omega
  rw [this, List.replicate_succ, List.set_cons_zero]
  simp
theorem fill_get {α β : Type} (f : α → β) (z : β) (a : List α) (i : Nat) (hi : i < a.length) : ((a.take i).map f ++ List.replicate (a.length - i) z)[i]? = some z := by
  rw [List.getElem?_append_right (by simp; omega)]
  rw [List.getElem?_replicate]
  simp; omega
def strs (l : List ByteArray) : T := .list 1 (l.map T.str)
theorem c55 (a : List ByteArray) (ha : a.length ≤ 1048576) : CS Try.prog false 55 [.v (strs a)] [strs a] [] := by
  refine CS_act tab_ok md Try.func55 rfl rfl Try.ntmps55 (rl := [.tmp 2]) rfl (Nat.le_of_ble_eq_true rfl) ?_
  simp only [go_sem, strs, List.length_map]
  refine ⟨by omega, by omega, by omega, by omega, ?_⟩
  refine act_loop_of (md := md) tab_ok [0,3,4] [48] 1000 (ι := {i : Nat // i ≤ a.length}) (fun i => ⟨[(0, .a (.c (.t (.list 1 (a.map T.str))))), (3, .a (.c (.own 48 0 0 a.length))), (4, .a (.c (.t (.int .i64 i.1))))], [(48, .arr 1 ((a.take i.1).map T.str ++ List.replicate (a.length - i.1) (.str ⟨#[]⟩)) 0)], 1000, 22⟩) (fun i => a.length - i.1) ⟨0, by omega⟩ (Nat.le_of_ble_eq_true rfl) (by simp only [go_sem]) (by simp only [go_sem]; simp) fun i => ?_
  obtain ⟨i, hi⟩ := i
  simp only [go_sem, List.length_map]
  refine act_split (fun h => ?_) (fun h => ?_) <;> simp only [go_sem] <;> simp only [decide_eq_true_eq, decide_eq_false_iff_not] at h
  · obtain ⟨x, hx⟩ : ∃ x, a[i]? = some x := ⟨_, List.getElem?_eq_getElem (by omega)⟩
    have hg := fill_get T.str (.str ⟨#[]⟩) a i (by omega)
    simp only [go_sem, List.getElem?_map, hx, List.length_map, hg]
    refine ⟨by omega, by omega, by omega, by omega, ?_⟩
    refine nextK_of ⟨i + 1, by omega⟩ (by simp only [go_sem]) ?_ (by dsimp only; omega)
    simp only [go_sem]
    rw [wrap64 (by omega) (by omega), fill_set T.str _ a i x hx]; rfl
  · have : i = a.length := by omega
    subst this
    simp
    exact List.take_of_length_le (by simp)
end Go.Proofs.Ytbmdncjnnlajnaa.M

/- Contracts for ObjOk, part 2: the size of lists of strings. No condition. -/
namespace Go.Proofs.Ytbmdncjnnlajnaa.M
open Go Go.Proofs
set_option maxRecDepth 100000
set_option maxHeartbeats 2000000
set_option linter.unusedSimpArgs false
/-- What is left of a measure, or -1. -/
def szF : Int → List Nat → Int
  | left, [] => left
  | left, n :: r => if left - n < 0 then -1 else szF (left - n) r
theorem c51 (a : List ByteArray) (left : Int) (h0 : 0 ≤ left) (h1 : left ≤ 1048576) (hl : a.length ≤ 9223372036854775807) (hs : ∀ s ∈ a, s.size ≤ 9223372036854775807) :
    CS Try.prog false 51 [.v (strs a), .v (.int .i64 left)] [.int .i64 (szF left (a.length :: a.map (·.size)))] [] := by
  refine CS_act tab_ok md Try.func51 rfl rfl Try.ntmps51 (rl := [.tmp 4]) rfl (Nat.le_of_ble_eq_true rfl) ?_
  simp only [go_sem, strs, List.length_map, wrap64 (n := left - a.length) (by omega) (by omega)]
  refine act_split (fun h => ?_) (fun h => ?_) <;> simp only [go_sem] <;> simp only [decide_eq_true_eq, decide_eq_false_iff_not] at h
  · simp [szF, h]
  refine act_loop_of (md := md) tab_ok [0,1,5] [] 1000 (ι := {p : Nat × Int // p.1 ≤ a.length ∧ 0 ≤ p.2 ∧ p.2 ≤ 1048576 ∧ szF p.2 ((a.map (·.size)).drop p.1) = szF (left - a.length) (a.map (·.size))})
    (fun p => ⟨[(0, .a (.c (.t (.list 1 (a.map T.str))))), (1, .a (.c (.t (.int .i64 p.1.2)))), (5, .a (.c (.t (.int .i64 p.1.1))))], [], 1000, 28⟩) (fun p => a.length - p.1.1) ⟨(0, left - a.length), by omega, by omega, by omega, rfl⟩ (Nat.le_of_ble_eq_true rfl) (by simp only [go_sem]) (by simp only [go_sem]; rfl) fun p => ?_
  obtain ⟨⟨i, l⟩, hi, hl0, hl1, hz⟩ := p
  simp only [go_sem, List.length_map]
  refine act_split (fun h2 => ?_) (fun h2 => ?_) <;> simp only [go_sem] <;> simp only [decide_eq_true_eq, decide_eq_false_iff_not] at h2
  · obtain ⟨x, hx⟩ : ∃ x, a[i]? = some x := ⟨_, List.getElem?_eq_getElem (by omega)⟩
    have hxs := hs x (List.mem_of_getElem? hx)
    have hd : (a.map (·.size)).drop i = x.size :: (a.map (·.size)).drop (i + 1) := by
      rw [List.drop_eq_getElem_cons (by simp; omega)]
      have : a[i]'(by omega) = x := by
        rw [List.getElem?_eq_getElem (by omega)] at hx; exact Option.some.inj hx
      simp [this]
    rw [hd, szF] at hz
    simp only [go_sem, List.getElem?_map, hx, List.length_map]
    refine ⟨by omega, by omega, ?_⟩
    rw [wrap64 (n := l - x.size) (by omega) (by omega)]
    refine act_split (fun h3 => ?_) (fun h3 => ?_) <;> simp only [go_sem] <;> simp only [decide_eq_true_eq, decide_eq_false_iff_not] at h3
    · rw [if_pos h3] at hz
      simp only [szF, if_neg h, ← hz]
    · rw [if_neg h3] at hz
      refine nextK_of ⟨(i + 1, l - x.size), by omega, by omega, by omega, hz⟩ (by simp only [go_sem]) ?_ (by dsimp only; omega)
      simp only [go_sem]
      rw [wrap64 (by omega) (by omega)]; rfl
  · have : i = a.length := by omega
    subst this
    rw [List.drop_of_length_le (by simp), szF] at hz
    simp only [szF, if_neg h, ← hz]
end Go.Proofs.Ytbmdncjnnlajnaa.M

/- Contracts for ObjOk, part 3: a list of strings against itself. No condition. -/
namespace Go.Proofs.Ytbmdncjnnlajnaa.M
open Go Go.Proofs
set_option maxRecDepth 100000
set_option maxHeartbeats 2000000
set_option linter.unusedSimpArgs false
theorem c59 (a : List ByteArray) (ha : a.length ≤ 1048576) : CS Try.prog false 59 [.v (strs a), .v (strs a)] [.bool true] [] := by
  refine CS_act tab_ok md Try.func59 rfl rfl Try.ntmps59 (rl := [.tmp 4]) rfl (Nat.le_of_ble_eq_true rfl) ?_
  simp only [go_sem, strs, List.length_map, bne_self_eq_false]
  refine act_loop_of (md := md) tab_ok [0,1,5] [] 1000 (ι := {i : Nat // i ≤ a.length}) (fun i => ⟨[(0, .a (.c (.t (.list 1 (a.map T.str))))), (1, .a (.c (.t (.list 1 (a.map T.str))))), (5, .a (.c (.t (.int .i64 i.1))))], [], 1000, 26⟩) (fun i => a.length - i.1) ⟨0, by omega⟩ (Nat.le_of_ble_eq_true rfl) (by simp only [go_sem]) (by simp only [go_sem]; rfl) fun i => ?_
  obtain ⟨i, hi⟩ := i
  simp only [go_sem, List.length_map]
  refine act_split (fun h => ?_) (fun h => ?_) <;> simp only [go_sem] <;> simp only [decide_eq_true_eq, decide_eq_false_iff_not] at h
  obtain ⟨x, hx⟩ : ∃ x, a[i]? = some x := ⟨_, List.getElem?_eq_getElem (by omega)⟩
  refine act_draw_of tab_ok mix md ?_
  simp only [go_sem, List.getElem?_map, hx, List.length_map, beq_self_eq_true]
  refine ⟨by omega, by omega, by omega, by omega, drawOk_of (by kernel_rfl), ?_⟩
  refine nextK_of ⟨i + 1, by omega⟩ (by simp only [go_sem]) ?_ (by dsimp only; omega)
  simp only [go_sem]
  rw [wrap64 (by omega) (by omega)]; rfl
end Go.Proofs.Ytbmdncjnnlajnaa.M

/- Contracts for ObjOk, part 4: trees, and their copies. No condition. -/
namespace Go.Proofs.Ytbmdncjnnlajnaa.M
open Go Go.Proofs
set_option maxRecDepth 100000
set_option maxHeartbeats 2000000
set_option linter.unusedSimpArgs false
inductive Ob where
  | mk (kind num : Int) (text : ByteArray) (keys : List ByteArray) (kids : List Ob)
def Ob.t : Ob → T
  | .mk k n s ks kids => .agg [.int .i64 k, .int .i64 n, .str s, strs ks, .list 5 (kids.map Ob.t)]
def obs (l : List Ob) : T := .list 5 (l.map Ob.t)
theorem c21 (k n : Int) (s : ByteArray) (ks : List ByteArray) (kids : List Ob) (h1 : ks.length ≤ 1048576) (h : CS Try.prog false 56 [.v (obs kids)] [obs kids] []) :
    CS Try.prog false 21 [.v (Ob.mk k n s ks kids).t] [(Ob.mk k n s ks kids).t] [] := by
  have e : (Ob.mk k n s ks kids).t = .agg [.int .i64 k, .int .i64 n, .str s, strs ks, obs kids] := by rw [Ob.t]; rfl
  rw [e]
  refine CS_act tab_ok md Try.func21 rfl rfl Try.ntmps21 (rl := [.cell 2 37]) rfl (Nat.le_of_ble_eq_true rfl) ?_
  simp only [go_sem, strs, obs]
  refine act_callE (c55 ks h1) ?_
  simp only [go_sem, strs, obs]
  refine act_callE h ?_
  simp only [go_sem, strs, obs]
end Go.Proofs.Ytbmdncjnnlajnaa.M

/- Contracts for ObjOk, part 5: copies of lists of trees. No condition. -/
namespace Go.Proofs.Ytbmdncjnnlajnaa.M
open Go Go.Proofs
set_option maxRecDepth 100000
set_option maxHeartbeats 2000000
set_option linter.unusedSimpArgs false
theorem Ob.t_mk (k n : Int) (s : ByteArray) (ks : List ByteArray) (kids : List Ob) : (Ob.mk k n s ks kids).t = .agg [.int .i64 k, .int .i64 n, .str s, .list 1 (ks.map T.str), .list 5 (kids.map Ob.t)] := by rw [Ob.t]; rfl
abbrev ob0 : T := .agg [.int .i64 0, .int .i64 0, .str ⟨#[]⟩, .list 1 [], .list 5 []]
theorem c56 (a : List Ob) (ha : a.length ≤ 1048576) (h : ∀ o ∈ a, CS Try.prog false 21 [.v o.t] [o.t] []) : CS Try.prog false 56 [.v (obs a)] [obs a] [] := by
  refine CS_act tab_ok md Try.func56 rfl rfl Try.ntmps56 (rl := [.tmp 2]) rfl (Nat.le_of_ble_eq_true rfl) ?_
  simp only [go_sem, obs, List.length_map]
  refine ⟨by omega, by omega, by omega, by omega, ?_⟩
  refine act_loop_of (md := md) tab_ok [0,3,4] [48] 1000 (ι := {i : Nat // i ≤ a.length}) (fun i => ⟨[(0, .a (.c (.t (.list 5 (a.map Ob.t))))), (3, .a (.c (.own 48 0 0 a.length))), (4, .a (.c (.t (.int .i64 i.1))))], [(48, .arr 5 ((a.take i.1).map Ob.t ++ List.replicate (a.length - i.1) ob0) 0)], 1000, 23⟩) (fun i => a.length - i.1) ⟨0, by omega⟩ (Nat.le_of_ble_eq_true rfl) (by simp only [go_sem]) (by simp only [go_sem]; simp) fun i => ?_
  obtain ⟨i, hi⟩ := i
  simp only [go_sem, List.length_map]
  refine act_split (fun h2 => ?_) (fun h2 => ?_) <;> simp only [go_sem] <;> simp only [decide_eq_true_eq, decide_eq_false_iff_not] at h2
  · obtain ⟨x, hx⟩ : ∃ x, a[i]? = some x := ⟨_, List.getElem?_eq_getElem (by omega)⟩
    have hc := h x (List.mem_of_getElem? hx)
    have hg := fill_get Ob.t ob0 a i (by omega)
    have hf := fill_set Ob.t ob0 a i x hx
    obtain ⟨k, n, s, ks, kids⟩ := x
    rw [Ob.t_mk] at hc hf
    simp only [go_sem, List.getElem?_map, hx, List.length_map, hg, Ob.t_mk]
    refine ⟨by omega, by omega, ?_⟩
    refine act_callE hc ?_
    simp only [go_sem, List.length_append, List.length_map, hg]
    refine ⟨by omega, by omega, ?_⟩
    refine nextK_of ⟨i + 1, by omega⟩ (by simp only [go_sem]) ?_ (by dsimp only; omega)
    simp only [go_sem]
    rw [wrap64 (by omega) (by omega), hf]; rfl
  · have : i = a.length := by omega
    subst this
    simp
    exact List.take_of_length_le (by simp)
end Go.Proofs.Ytbmdncjnnlajnaa.M

/- Contracts for ObjOk, part 6: copies of trees. No condition. -/
namespace Go.Proofs.Ytbmdncjnnlajnaa.M
open Go Go.Proofs
set_option linter.unusedSimpArgs false
/-- A tree whose lists are not long. -/
inductive Sm : Ob → Prop where
  | mk (k n : Int) (s : ByteArray) (ks : List ByteArray) (kids : List Ob) (h1 : ks.length ≤ 1048576) (h2 : kids.length ≤ 1048576) (h3 : ∀ o ∈ kids, Sm o) : Sm (.mk k n s ks kids)
theorem c21' : ∀ o : Ob, Sm o → CS Try.prog false 21 [.v o.t] [o.t] []
  | .mk k n s ks kids, h => by
    cases h with
    | mk _ _ _ _ _ h1 h2 h3 => exact c21 k n s ks kids h1 (c56 kids h2 fun o ho => c21' o (h3 o ho))
  decreasing_by
  have := List.sizeOf_lt_of_mem ho
  simp only [Ob.mk.sizeOf_spec]
  omega
end Go.Proofs.Ytbmdncjnnlajnaa.M

/- Contracts for ObjOk, part 7: a tree against itself. No condition. -/
namespace Go.Proofs.Ytbmdncjnnlajnaa.M
open Go Go.Proofs
set_option maxRecDepth 100000
set_option maxHeartbeats 2000000
set_option linter.unusedSimpArgs false
theorem c23 (k n : Int) (s : ByteArray) (ks : List ByteArray) (kids : List Ob) (h1 : ks.length ≤ 1048576) (h : CS Try.prog false 60 [.v (obs kids), .v (obs kids)] [.bool true] []) :
    CS Try.prog false 23 [.v (Ob.mk k n s ks kids).t, .v (Ob.mk k n s ks kids).t] [.bool true] [] := by
  rw [Ob.t_mk]
  refine CS_act tab_ok md Try.func23 rfl rfl Try.ntmps23 (rl := [.tmp 4]) rfl (Nat.le_of_ble_eq_true rfl) ?_
  simp only [go_sem, bne_self_eq_false, beq_self_eq_true]
  refine act_callE (c59 ks h1) ?_
  simp only [go_sem]
  refine act_callE h ?_
  simp only [go_sem]
end Go.Proofs.Ytbmdncjnnlajnaa.M

/- Contracts for ObjOk, part 8: lists of trees against themselves. No condition. -/
namespace Go.Proofs.Ytbmdncjnnlajnaa.M
open Go Go.Proofs
set_option maxRecDepth 100000
set_option maxHeartbeats 2000000
set_option linter.unusedSimpArgs false
theorem c60 (a : List Ob) (ha : a.length ≤ 1048576) (hh : ∀ o ∈ a, CS Try.prog false 23 [.v o.t, .v o.t] [.bool true] []) : CS Try.prog false 60 [.v (obs a), .v (obs a)] [.bool true] [] := by
  refine CS_act tab_ok md Try.func60 rfl rfl Try.ntmps60 (rl := [.tmp 4]) rfl (Nat.le_of_ble_eq_true rfl) ?_
  simp only [go_sem, obs, List.length_map, bne_self_eq_false]
  refine act_loop_of (md := md) tab_ok [0,1,5] [] 1000 (ι := {i : Nat // i ≤ a.length}) (fun i => ⟨[(0, .a (.c (.t (.list 5 (a.map Ob.t))))), (1, .a (.c (.t (.list 5 (a.map Ob.t))))), (5, .a (.c (.t (.int .i64 i.1))))], [], 1000, 27⟩) (fun i => a.length - i.1) ⟨0, by omega⟩ (Nat.le_of_ble_eq_true rfl) (by simp only [go_sem]) (by simp only [go_sem]; rfl) fun i => ?_
  obtain ⟨i, hi⟩ := i
  simp only [go_sem, List.length_map]
  refine act_split (fun h => ?_) (fun h => ?_) <;> simp only [go_sem] <;> simp only [decide_eq_true_eq, decide_eq_false_iff_not] at h
  obtain ⟨x, hx⟩ : ∃ x, a[i]? = some x := ⟨_, List.getElem?_eq_getElem (by omega)⟩
  have hc := hh x (List.mem_of_getElem? hx)
  obtain ⟨k, n, s, ks, kids⟩ := x
  rw [Ob.t_mk] at hc
  refine act_draw_of tab_ok mix md ?_
  simp only [go_sem, List.getElem?_map, hx, List.length_map, Ob.t_mk]
  refine ⟨by omega, by omega, by omega, by omega, ?_⟩
  refine act_callE hc ?_
  simp only [go_sem]
  refine ⟨drawOk_of (by kernel_rfl), ?_⟩
  refine nextK_of ⟨i + 1, by omega⟩ (by simp only [go_sem]) ?_ (by dsimp only; omega)
  simp only [go_sem]
  rw [wrap64 (by omega) (by omega)]; rfl
theorem c23' : ∀ o : Ob, Sm o → CS Try.prog false 23 [.v o.t, .v o.t] [.bool true] []
  | .mk k n s ks kids, h => by
    cases h with
    | mk _ _ _ _ _ h1 h2 h3 => exact c23 k n s ks kids h1 (c60 kids h2 fun o ho => c23' o (h3 o ho))
  decreasing_by
  have := List.sizeOf_lt_of_mem ho
  simp only [Ob.mk.sizeOf_spec]
  omega
end Go.Proofs.Ytbmdncjnnlajnaa.M

/- Contracts for ObjOk, part 9: the size of trees. No condition. -/
namespace Go.Proofs.Ytbmdncjnnlajnaa.M
open Go Go.Proofs
set_option maxRecDepth 100000
set_option maxHeartbeats 2000000
set_option linter.unusedSimpArgs false
mutual
def szO : Ob → Int → Int
  | .mk _ _ s ks kids, left => if left - s.size < 0 then -1 else if szF (left - s.size) (ks.length :: ks.map (·.size)) < 0 then -1 else
    if szF (left - s.size) (ks.length :: ks.map (·.size)) - kids.length < 0 then -1 else szL kids (szF (left - s.size) (ks.length :: ks.map (·.size)) - kids.length)
def szL : List Ob → Int → Int
  | [], left => left
  | o :: r, left => if szO o left < 0 then -1 else szL r (szO o left)
end
theorem szF_le : ∀ (l : List Nat) (left : Int), 0 ≤ left → szF left l ≤ left
  | [], left, _ => by simp [szF]
  | n :: r, left, h => by
    rw [szF]
    split
    · omega
    · have := szF_le r (left - n) (by omega); omega
def szS (l : List Ob) (left : Int) : Int := if left - l.length < 0 then -1 else szL l (left - l.length)
theorem szO_mk (k n : Int) (s : ByteArray) (ks : List ByteArray) (kids : List Ob) (left : Int) : szO (.mk k n s ks kids) left = if left - s.size < 0 then -1 else if szF (left - s.size) (ks.length :: ks.map (·.size)) < 0 then -1 else szS kids (szF (left - s.size) (ks.length :: ks.map (·.size))) := by rw [szO, szS]
theorem szL_neg : ∀ (l : List Ob) (left : Int), 0 ≤ left → szL l left = -1 ∨ 0 ≤ szL l left
  | [], left, h => by rw [szL]; exact .inr h
  | o :: r, left, h => by
    rw [szL]
    split
    · exact .inl rfl
    · exact szL_neg r _ (by omega)
theorem szS_neg (l : List Ob) (left : Int) (h : szS l left < 0) : szS l left = -1 := by
  unfold szS at h ⊢
  split
  · rfl
  · rename_i h2
    rw [if_neg h2] at h
    rcases szL_neg l (left - l.length) (by omega) with h3 | h3
    · exact h3
    · omega
theorem c19 (k n : Int) (s : ByteArray) (ks : List ByteArray) (kids : List Ob) (left : Int) (h0 : 0 ≤ left) (h1 : left ≤ 1048576) (hs : s.size ≤ 9223372036854775807) (hl : ks.length ≤ 9223372036854775807) (hk : ∀ s ∈ ks, s.size ≤ 9223372036854775807)
    (h : ∀ l : Int, 0 ≤ l → l ≤ 1048576 → CS Try.prog false 52 [.v (obs kids), .v (.int .i64 l)] [.int .i64 (szS kids l)] []) :
    CS Try.prog false 19 [.v (Ob.mk k n s ks kids).t, .v (.int .i64 left)] [.int .i64 (szO (.mk k n s ks kids) left)] [] := by
  rw [Ob.t_mk, szO_mk]
  refine CS_act tab_ok md Try.func19 rfl rfl Try.ntmps19 (rl := [.tmp 4]) rfl (Nat.le_of_ble_eq_true rfl) ?_
  simp only [go_sem, wrap64 (n := left - s.size) (by omega) (by omega)]
  refine act_split (fun h2 => ?_) (fun h2 => ?_) <;> simp only [go_sem] <;> simp only [decide_eq_true_eq, decide_eq_false_iff_not] at h2
  · rw [if_pos h2]
  rw [if_neg h2]
  have hle := szF_le (ks.length :: ks.map (·.size)) (left - s.size) (by omega)
  refine act_callE (c51 ks _ (by omega) (by omega) hl hk) ?_
  simp only [go_sem]
  refine act_split (fun h3 => ?_) (fun h3 => ?_) <;> simp only [go_sem] <;> simp only [decide_eq_true_eq, decide_eq_false_iff_not] at h3
  · rw [if_pos h3]
  rw [if_neg h3]
  refine act_callE (h _ (by omega) (by omega)) ?_
  simp only [go_sem]
  refine act_split (fun h4 => ?_) (fun h4 => ?_) <;> simp only [go_sem] <;> simp only [decide_eq_true_eq, decide_eq_false_iff_not] at h4
  rw [szS_neg _ _ h4]
end Go.Proofs.Ytbmdncjnnlajnaa.M

/- Contracts for ObjOk, part 10: the size of lists of trees. No condition. -/
namespace Go.Proofs.Ytbmdncjnnlajnaa.M
open Go Go.Proofs
set_option maxRecDepth 100000
set_option maxHeartbeats 2000000
set_option linter.unusedSimpArgs false
theorem szO_le : ∀ (l : List Ob) (left : Int), 0 ≤ left → (∀ o ∈ l, ∀ x : Int, 0 ≤ x → szO o x ≤ x) → szL l left ≤ left
  | [], left, h, _ => by rw [szL]; omega
  | o :: r, left, h, ho => by
    rw [szL]
    split
    · omega
    · have h1 := ho o (by simp) left h
      have := szO_le r (szO o left) (by omega) fun o' h' => ho o' (by simp [h'])
      omega
theorem c52 (a : List Ob) (left : Int) (h0 : 0 ≤ left) (h1 : left ≤ 1048576) (hl : a.length ≤ 9223372036854775807) (hle : ∀ o ∈ a, ∀ x : Int, 0 ≤ x → szO o x ≤ x)
    (hh : ∀ o ∈ a, ∀ x : Int, 0 ≤ x → x ≤ 1048576 → CS Try.prog false 19 [.v o.t, .v (.int .i64 x)] [.int .i64 (szO o x)] []) :
    CS Try.prog false 52 [.v (obs a), .v (.int .i64 left)] [.int .i64 (szS a left)] [] := by
  refine CS_act tab_ok md Try.func52 rfl rfl Try.ntmps52 (rl := [.tmp 4]) rfl (Nat.le_of_ble_eq_true rfl) ?_
  simp only [go_sem, obs, List.length_map, wrap64 (n := left - a.length) (by omega) (by omega)]
  refine act_split (fun h => ?_) (fun h => ?_) <;> simp only [go_sem] <;> simp only [decide_eq_true_eq, decide_eq_false_iff_not] at h
  · simp [szS, h]
  refine act_loop_of (md := md) tab_ok [0,1,5] [] 1000 (ι := {p : Nat × Int // p.1 ≤ a.length ∧ 0 ≤ p.2 ∧ p.2 ≤ 1048576 ∧ szL (a.drop p.1) p.2 = szS a left})
    (fun p => ⟨[(0, .a (.c (.t (.list 5 (a.map Ob.t))))), (1, .a (.c (.t (.int .i64 p.1.2)))), (5, .a (.c (.t (.int .i64 p.1.1))))], [], 1000, 27⟩) (fun p => a.length - p.1.1) ⟨(0, left - a.length), by omega, by omega, by omega, by simp [szS, h]⟩ (Nat.le_of_ble_eq_true rfl) (by simp only [go_sem]) (by simp only [go_sem]; rfl) fun p => ?_
  obtain ⟨⟨i, l⟩, hi, hl0, hl1, hz⟩ := p
  simp only [go_sem, List.length_map]
  refine act_split (fun h2 => ?_) (fun h2 => ?_) <;> simp only [go_sem] <;> simp only [decide_eq_true_eq, decide_eq_false_iff_not] at h2
  · obtain ⟨x, hx⟩ : ∃ x, a[i]? = some x := ⟨_, List.getElem?_eq_getElem (by omega)⟩
    have hc := hh x (List.mem_of_getElem? hx) l hl0 hl1
    have hxl := hle x (List.mem_of_getElem? hx) l hl0
    have hd : a.drop i = x :: a.drop (i + 1) := by
      rw [List.drop_eq_getElem_cons (by omega)]
      rw [List.getElem?_eq_getElem (by omega)] at hx; rw [Option.some.inj hx]
    dsimp only at hz
    rw [hd, szL] at hz
    generalize szO x l = y at hc hxl hz
    obtain ⟨k, n, s, ks, kids⟩ := x
    rw [Ob.t_mk] at hc
    simp only [go_sem, List.getElem?_map, hx, List.length_map, Ob.t_mk]
    refine ⟨by omega, by omega, ?_⟩
    refine act_callE hc ?_
    simp only [go_sem]
    refine act_split (fun h3 => ?_) (fun h3 => ?_) <;> simp only [go_sem] <;> simp only [decide_eq_true_eq, decide_eq_false_iff_not] at h3
    · rw [if_pos h3] at hz
      rw [← hz]
    · rw [if_neg h3] at hz
      refine nextK_of ⟨(i + 1, y), by omega, by omega, by omega, hz⟩ (by simp only [go_sem]) ?_ (by dsimp only; omega)
      simp only [go_sem]
      rw [wrap64 (by omega) (by omega)]; rfl
  · have : i = a.length := by omega
    subst this
    dsimp only at hz
    rw [List.drop_length, szL] at hz
    rw [← hz]
end Go.Proofs.Ytbmdncjnnlajnaa.M

/- Contracts: WordOk and what it calls (results as views). No condition. -/
namespace Go.Proofs.Ytbmdncjnnlajnaa.M
open Go Go.Proofs
set_option maxRecDepth 100000
set_option maxHeartbeats 2000000
set_option linter.unusedSimpArgs false
attribute [go_sem] beq_false
theorem act_split_not {c : Bool} {A B : Prop} {a : Shut A} {b : Shut B} (h1 : c = false → act A) (h2 : c = true → act B) : act (brK (!c) A B a b) :=
  ⟨fun h => h1 (by simpa using h), fun h => h2 (by simpa using h)⟩
def inB (x l m : Int) : Bool := decide (x ≥ l) && decide (x ≤ m)
theorem c44 (x l m : Int) : CS Try.prog false 44 [.v (.int .i64 x), .v (.int .i64 l), .v (.int .i64 m)] [.bool (inB x l m)] [] := by
  refine CS_act tab_ok md Try.func44 rfl rfl Try.ntmps44 (rl := [.tmp 6]) rfl (Nat.le_of_ble_eq_true rfl) ?_
  simp only [go_sem]
  refine act_split (fun h => ?_) (fun h => ?_) <;> simp only [go_sem, h, inB]
theorem c45 (x l m : Int) : CS Try.prog false 45 [.v (.int .i64 x), .v (.int .i64 l), .v (.int .i64 m)] [.bool (inB x l m)] [] := by
  refine CS_act tab_ok md Try.func45 rfl rfl Try.ntmps45 (rl := [.tmp 6]) rfl (Nat.le_of_ble_eq_true rfl) ?_
  simp only [go_sem]
  refine act_split (fun h => ?_) (fun h => ?_) <;> simp only [go_sem, h, inB]
  all_goals simp_all [inB]
def markB (x : Int) : Bool := x == 40 || x == 41 || x == 60 || x == 62 || x == 91 || x == 93 || x == 123 || x == 125 || x == 47 || x == 37
theorem c90 (x : Int) : CS Try.prog false 90 [.v (.int .u8 x)] [.bool (markB x)] [] := by
  refine CS_act tab_ok md Try.func90 rfl rfl Try.ntmps90 (rl := [.tmp 2]) rfl (Nat.le_of_ble_eq_true rfl) ?_
  simp only [go_sem]
  repeat' (first | (refine act_split_not (fun h => ?_) (fun h => ?_) <;> simp only [go_sem, h]) | (refine act_split (fun h => ?_) (fun h => ?_) <;> simp only [go_sem, h]))
  all_goals simp_all [markB]
theorem c116 (s : ByteArray) (c : Int) : CS Try.prog false 116 [.v (.str s), .v (.int .u8 c)] [.int .i64 (Lib.indexByte s.data.toList c.toNat.toUInt8)] [] :=
  CS_indexByteString Try.func116 (by kernel_rfl) (by kernel_rfl) (by kernel_rfl) (by kernel_rfl) s c
theorem c110 (s : ByteArray) (c : Int) : CS Try.prog false 110 [.v (.str s), .v (.int .u8 c)] [.int .i64 (Lib.indexByte s.data.toList c.toNat.toUInt8)] [] := by
  refine CS_act tab_ok md Try.func110 rfl rfl Try.ntmps110 (rl := [.tmp 4]) rfl (Nat.le_of_ble_eq_true rfl) ?_
  simp only [go_sem]
  refine act_callE (c116 _ _) ?_
  simp only [go_sem]
theorem c91 (s : ByteArray) (c : Int) : CS Try.prog false 91 [.v (.str s), .v (.int .u8 c)] [.int .i64 (Lib.indexByte s.data.toList c.toNat.toUInt8)] [] := by
  refine CS_act tab_ok md Try.func91 rfl rfl Try.ntmps91 (rl := [.tmp 4]) rfl (Nat.le_of_ble_eq_true rfl) ?_
  simp only [go_sem]
  refine act_callE (c110 _ _) ?_
  simp only [go_sem]
def plainB (x : Int) : Bool := inB x 33 126 && !markB x
theorem c49 (x : Int) : CS Try.prog false 49 [.v (.int .u8 x)] [.bool (plainB x)] [] := by
  refine CS_act tab_ok md Try.func49 rfl rfl Try.ntmps49 (rl := [.tmp 2]) rfl (Nat.le_of_ble_eq_true rfl) ?_
  simp only [go_sem]
  refine act_split (fun h => ?_) (fun h => ?_) <;> simp only [go_sem, h]
  · refine act_split (fun h2 => ?_) (fun h2 => ?_) <;> simp only [go_sem, h2]
    · refine act_callE (c90 _) ?_
      simp only [go_sem]
      simp_all [plainB, inB]
    · simp_all [plainB, inB]; intros; omega
  · simp_all [plainB, inB]; intros; omega
theorem mark_eq (x : Int) (h0 : 0 ≤ x) (h1 : x < 256) : decide (Lib.indexByte [40, 41, 60, 62, 91, 93, 123, 125, 47, 37] x.toNat.toUInt8 < 0) = !markB x := by
  obtain ⟨n, rfl⟩ : ∃ n : Nat, x = n := ⟨x.toNat, by omega⟩
  have hn : n < 256 := by omega
  have key : ∀ m : Fin 256, decide (Lib.indexByte [40, 41, 60, 62, 91, 93, 123, 125, 47, 37] (m.val : Int).toNat.toUInt8 < 0) = !markB (m.val : Int) := by decide +kernel
  exact key ⟨n, hn⟩
theorem c50 (x : Int) (h0 : 0 ≤ x) (h1 : x < 256) : CS Try.prog false 50 [.v (.int .u8 x)] [.bool (plainB x)] [] := by
  refine CS_act tab_ok md Try.func50 rfl rfl Try.ntmps50 (rl := [.tmp 2]) rfl (Nat.le_of_ble_eq_true rfl) ?_
  simp only [go_sem, wrap64 (n := x) (by omega) (by omega)]
  refine act_callE (c45 _ _ _) ?_
  simp only [go_sem]
  refine act_split (fun h => ?_) (fun h => ?_) <;> simp only [go_sem, h]
  · refine act_callE (c91 _ _) ?_
    simp only [go_sem]
    have := mark_eq x h0 h1
    simp_all [plainB]
  · simp_all [plainB]
attribute [go_sem] Bool.not_not
def bt (s : ByteArray) (j : Nat) : Int := ((s.data.getD j 0).toNat : Int)
theorem bt_lt (s : ByteArray) (j : Nat) : 0 ≤ bt s j ∧ bt s j < 256 := by
  unfold bt; have := (s.data.getD j 0).toNat_lt; omega
def okB (x : Int) : Bool := plainB x && !(x == 35)
def wordB (s : ByteArray) : Bool := inB s.size 1 40 && (List.range s.size).all fun j => okB (bt s j)
theorem wordB_no {s : ByteArray} {i : Nat} (hi : i < s.size) (h : okB (bt s i) = false) : wordB s = false := by
  unfold wordB
  rw [Bool.and_eq_false_iff]
  right
  rw [List.all_eq_false]
  exact ⟨i, List.mem_range.2 hi, by simp [h]⟩
theorem wordB_yes {s : ByteArray} (h : ∀ j, j < s.size → okB (bt s j) = true) : wordB s = inB s.size 1 40 := by
  unfold wordB
  rw [List.all_eq_true.2 fun j hj => h j (List.mem_range.1 hj), Bool.and_true]
theorem wordB_long {s : ByteArray} (h : 40 < s.size) : wordB s = inB s.size 1 40 := by
  have : inB s.size 1 40 = false := by simp [inB]; omega
  unfold wordB
  rw [this, Bool.false_and]
theorem c18 (s : ByteArray) (hs : s.size ≤ 1048576) : CS Try.prog false 18 [.v (.str s)] [.bool (wordB s)] [] := by
  refine CS_act tab_ok md Try.func18 rfl rfl Try.ntmps18 (rl := [.tmp 2]) rfl (Nat.le_of_ble_eq_true rfl) ?_
  simp only [go_sem]
  refine act_loop_of (md := md) tab_ok [0,5,6] [] 1000 (ι := {i : Nat // i ≤ s.size ∧ ∀ j, j < i → okB (bt s j) = true}) (fun i => ⟨[(0, .a (.c (.t (.str s)))), (5, .a (.c (.t (.int .i64 s.size)))), (6, .a (.c (.t (.int .i64 i.1))))], [], 1000, 24⟩) (fun i => s.size - i.1) ⟨0, by omega, by simp⟩ (Nat.le_of_ble_eq_true rfl) (by simp only [go_sem]) (by simp only [go_sem]; rfl) fun i => ?_
  obtain ⟨i, hi, ht⟩ := i
  have hb := bt_lt s i
  simp only [go_sem]
  refine act_split (fun h => ?_) (fun h => ?_) <;> simp only [go_sem] <;> simp only [decide_eq_true_eq, decide_eq_false_iff_not] at h
  · refine ⟨by omega, by omega, ?_⟩
    have e : ((s.data.getD i 0).toNat : Int) = bt s i := rfl
    simp only [e]
    refine act_callE (c50 _ hb.1 hb.2) ?_
    simp only [go_sem, e]
    refine act_split (fun h2 => ?_) (fun h2 => ?_) <;> simp only [go_sem, h2, e]
    · refine ⟨by omega, by omega, ?_⟩
      refine act_split (fun h3 => ?_) (fun h3 => ?_) <;> simp only [go_sem]
      · rw [wordB_no (i := i) (by omega) (by simp [okB, h3])]
      · refine nextK_of ⟨i + 1, by omega, fun j hj => ?_⟩ (by simp only [go_sem]) ?_ (by dsimp only; omega)
        · rcases Nat.lt_succ_iff_lt_or_eq.1 hj with hj | rfl
          · exact ht j hj
          · simp [okB, h2, h3]
        · simp only [go_sem]
          rw [wrap64 (by omega) (by omega)]; rfl
    · rw [wordB_no (i := i) (by omega) (by simp [okB, h2])]
  · refine act_callE (c45 _ _ _) ?_
    simp only [go_sem]
    rw [wordB_yes fun j hj => ht j (by omega)]
theorem c17 (s : ByteArray) (hs : s.size ≤ 1048576) : CS Try.prog false 17 [.v (.str s)] [.bool (wordB s)] [] := by
  refine CS_act tab_ok md Try.func17 rfl rfl Try.ntmps17 (rl := [.tmp 2]) rfl (Nat.le_of_ble_eq_true rfl) ?_
  simp only [go_sem]
  refine act_loop_of (md := md) tab_ok [0,3] [] 1000 (ι := {i : Nat // i ≤ s.size ∧ ∀ j, j < i → okB (bt s j) = true}) (fun i => ⟨[(0, .a (.c (.t (.str s)))), (3, .a (.c (.t (.int .i64 i.1))))], [], 1000, 29⟩) (fun i => s.size - i.1) ⟨0, by omega, by simp⟩ (Nat.le_of_ble_eq_true rfl) (by simp only [go_sem]) (by simp only [go_sem]; rfl) fun i => ?_
  obtain ⟨i, hi, ht⟩ := i
  have hb := bt_lt s i
  have e : ((s.data.getD i 0).toNat : Int) = bt s i := rfl
  simp only [go_sem]
  refine act_split (fun h => ?_) (fun h => ?_) <;> simp only [go_sem, h] <;> simp only [decide_eq_true_eq, decide_eq_false_iff_not] at h
  · refine act_split (fun h1 => ?_) (fun h1 => ?_) <;> simp only [go_sem, h1] <;> simp only [decide_eq_true_eq, decide_eq_false_iff_not] at h1
    · refine ⟨by omega, by omega, ?_⟩
      simp only [e]
      refine act_callE (c49 _) ?_
      simp only [go_sem, e]
      refine act_split (fun h2 => ?_) (fun h2 => ?_) <;> simp only [go_sem, h2, e]
      · refine ⟨by omega, by omega, ?_⟩
        refine act_split (fun h3 => ?_) (fun h3 => ?_) <;> simp only [go_sem]
        · rw [wordB_no (i := i) (by omega) (by simp [okB, h3])]
        · refine nextK_of ⟨i + 1, by omega, fun j hj => ?_⟩ (by simp only [go_sem]) ?_ (by dsimp only; omega)
          · rcases Nat.lt_succ_iff_lt_or_eq.1 hj with hj | rfl
            · exact ht j hj
            · simp [okB, h2, h3]
          · simp only [go_sem]
            rw [wrap64 (by omega) (by omega)]; rfl
      · rw [wordB_no (i := i) (by omega) (by simp [okB, h2])]
    · refine act_callE (c44 _ _ _) ?_
      simp only [go_sem]
      rw [wordB_long (by omega)]
  · refine act_callE (c44 _ _ _) ?_
    simp only [go_sem]
    rw [wordB_yes fun j hj => ht j (by omega)]
end Go.Proofs.Ytbmdncjnnlajnaa.M

/- Contracts for ObjOk: the size of trees, tied. No condition. -/
namespace Go.Proofs.Ytbmdncjnnlajnaa.M
open Go Go.Proofs
set_option linter.unusedSimpArgs false
/-- A tree whose lists and strings are not wider than any machine's. -/
inductive Wd : Ob → Prop where
  | mk (k n : Int) (s : ByteArray) (ks : List ByteArray) (kids : List Ob) (h0 : s.size ≤ 9223372036854775807) (h1 : ks.length ≤ 9223372036854775807) (h2 : ∀ s ∈ ks, s.size ≤ 9223372036854775807)
      (h3 : kids.length ≤ 9223372036854775807) (h4 : ∀ o ∈ kids, Wd o) : Wd (.mk k n s ks kids)
theorem szO_le' : ∀ (o : Ob) (x : Int), 0 ≤ x → szO o x ≤ x
  | .mk k n s ks kids, x, h => by
    rw [szO_mk]
    split
    · omega
    · have h1 := szF_le (ks.length :: ks.map (·.size)) (x - s.size) (by omega)
      split
      · omega
      · rw [szS]
        split
        · omega
        · have := szO_le kids (szF (x - s.size) (ks.length :: ks.map (·.size)) - kids.length) (by omega) fun o ho => szO_le' o
          omega
  decreasing_by
  have := List.sizeOf_lt_of_mem ho
  simp only [Ob.mk.sizeOf_spec]
  omega
theorem c19' (o : Ob) (h : Wd o) : ∀ left : Int, 0 ≤ left → left ≤ 1048576 → CS Try.prog false 19 [.v o.t, .v (.int .i64 left)] [.int .i64 (szO o left)] [] := by
  match o, h with
  | .mk k n s ks kids, h =>
    have hk : s.size ≤ 9223372036854775807 ∧ ks.length ≤ 9223372036854775807 ∧ (∀ s ∈ ks, s.size ≤ 9223372036854775807) ∧ kids.length ≤ 9223372036854775807 ∧ ∀ o ∈ kids, Wd o := by
      cases h; exact ⟨by assumption, by assumption, by assumption, by assumption, by assumption⟩
    have hr : ∀ o ∈ kids, ∀ left : Int, 0 ≤ left → left ≤ 1048576 → CS Try.prog false 19 [.v o.t, .v (.int .i64 left)] [.int .i64 (szO o left)] [] := fun o ho => c19' o (hk.2.2.2.2 o ho)
    exact fun left h0 h1 => c19 k n s ks kids left h0 h1 hk.1 hk.2.1 hk.2.2.1 fun l hl0 hl1 => c52 kids l hl0 hl1 hk.2.2.2.1 (fun o _ => szO_le' o) hr
termination_by o
decreasing_by
  have := List.sizeOf_lt_of_mem ho
  simp only [Ob.mk.sizeOf_spec]
  omega
/-- A tree that is measured is small. -/
inductive Tn : Ob → Prop where
  | mk (k n : Int) (s : ByteArray) (ks : List ByteArray) (kids : List Ob) (h0 : s.size ≤ 1048576) (h1 : ks.length ≤ 1048576) (hk : ∀ s ∈ ks, s.size ≤ 1048576) (h2 : kids.length ≤ 1048576) (h3 : ∀ o ∈ kids, Tn o) : Tn (.mk k n s ks kids)
theorem Tn.sm : ∀ {o : Ob}, Tn o → Sm o
  | .mk _ _ _ _ kids, h => by
    cases h with
    | mk _ _ _ _ _ h0 h1 hk h2 h3 => exact .mk _ _ _ _ _ h1 h2 fun o ho => Tn.sm (h3 o ho)
  decreasing_by
  have := List.sizeOf_lt_of_mem ho
  simp only [Ob.mk.sizeOf_spec]
  omega
theorem szF_pos : ∀ (l : List Nat) (x : Int), x ≤ 1048576 → 0 ≤ szF x l → ∀ n ∈ l, n ≤ 1048576
  | [], _, _, _ => by simp
  | m :: r, x, hx, h => by
    rw [szF] at h
    split at h
    · omega
    · intro n hn
      rcases List.mem_cons.1 hn with rfl | hn
      · omega
      · exact szF_pos r _ (by omega) h n hn
theorem szL_pos : ∀ (l : List Ob) (x : Int), x ≤ 1048576 → 0 ≤ szL l x → ∀ o ∈ l, ∃ y : Int, y ≤ 1048576 ∧ 0 ≤ szO o y
  | [], _, _, _ => by simp
  | m :: r, x, hx, h => by
    rw [szL] at h
    split at h
    · omega
    · intro o ho
      rcases List.mem_cons.1 ho with rfl | ho
      · exact ⟨x, hx, by omega⟩
      · refine szL_pos r _ ?_ h o ho
        by_cases h0 : 0 ≤ x
        · have := szO_le' m x h0; omega
        · have : szO m x < 0 := by
            cases m with | mk k n s ks kids => rw [szO_mk, if_pos (by omega)]; omega
          omega
theorem tn_of_sz : ∀ (o : Ob) (x : Int), x ≤ 1048576 → 0 ≤ szO o x → Tn o
  | .mk k n s ks kids, x, hx, h => by
    rw [szO_mk] at h
    split at h
    · omega
    split at h
    · omega
    rename_i h1 h2
    have h3 := szF_le (ks.length :: ks.map (·.size)) (x - s.size) (by omega)
    have h4 := szF_pos _ _ (by omega) (Int.not_lt.1 h2)
    rw [szS] at h
    split at h
    · omega
    refine .mk _ _ _ _ _ (by omega) (h4 _ (by simp)) (fun t ht => h4 _ (by simp; exact .inr ⟨t, ht, rfl⟩)) (by omega) fun o ho => ?_
    obtain ⟨y, hy, h5⟩ := szL_pos kids _ (by omega) h o ho
    exact tn_of_sz o y hy h5
  decreasing_by
  have := List.sizeOf_lt_of_mem ho
  simp only [Ob.mk.sizeOf_spec]
  omega
end Go.Proofs.Ytbmdncjnnlajnaa.M

/- Contracts for ObjOk: keysOk, fieldsOk. No condition. -/
namespace Go.Proofs.Ytbmdncjnnlajnaa.M
open Go Go.Proofs
set_option maxRecDepth 100000
set_option maxHeartbeats 2000000
set_option linter.unusedSimpArgs false
def geB (a b : ByteArray) : Bool := !(Op.bytesLess a.toList b.toList)
def keyB (ks : List ByteArray) (i : Nat) : Bool :=
  match ks[i]? with
  | some x => wordB x && !(decide (i > 0) && match ks[i - 1]? with | some y => geB y x | none => false)
  | none => true
def keysB (ks : List ByteArray) : Bool := (List.range ks.length).all (keyB ks)
theorem keysB_no {ks : List ByteArray} {i : Nat} (hi : i < ks.length) (h : keyB ks i = false) : keysB ks = false := by
  unfold keysB
  rw [List.all_eq_false]
  exact ⟨i, List.mem_range.2 hi, by simp [h]⟩
theorem keysB_yes {ks : List ByteArray} (h : ∀ j, j < ks.length → keyB ks j = true) : keysB ks = true := by
  unfold keysB
  exact List.all_eq_true.2 fun j hj => h j (List.mem_range.1 hj)
theorem all_succ {p : Nat → Prop} {i : Nat} (h : ∀ j, j < i → p j) (h2 : p i) : ∀ j, j < i + 1 → p j := fun j hj => by
  rcases Nat.lt_succ_iff_lt_or_eq.1 hj with hj | rfl
  · exact h j hj
  · exact h2
theorem c111 (a : List ByteArray) (ha : a.length ≤ 1048576) (hs : ∀ s ∈ a, s.size ≤ 1048576) : CS Try.prog false 111 [.v (strs a)] [.bool (keysB a)] [] := by
  refine CS_act tab_ok md Try.func111 rfl rfl Try.ntmps111 (rl := [.tmp 2]) rfl (Nat.le_of_ble_eq_true rfl) ?_
  simp only [go_sem, strs, List.length_map]
  refine act_loop_of (md := md) tab_ok [0,5,6,7] [] 1000 (ι := {i : Nat // i ≤ a.length ∧ ∀ j, j < i → keyB a j = true}) (fun i => ⟨[(0, .a (.c (.t (.list 1 (a.map T.str))))), (5, .a (.c (.t (.list 1 (a.map T.str))))), (6, .a (.c (.t (.int .i64 a.length)))), (7, .a (.c (.t (.int .i64 i.1))))], [], 1000, 29⟩) (fun i => a.length - i.1) ⟨0, by omega, by simp⟩ (Nat.le_of_ble_eq_true rfl) (by simp only [go_sem]) (by simp only [go_sem]; rfl) fun i => ?_
  obtain ⟨i, hi, ht⟩ := i
  simp only [go_sem, List.length_map]
  refine act_split (fun h => ?_) (fun h => ?_) <;> simp only [go_sem] <;> simp only [decide_eq_true_eq, decide_eq_false_iff_not] at h
  · obtain ⟨x, hx⟩ : ∃ x, a[i]? = some x := ⟨_, List.getElem?_eq_getElem (by omega)⟩
    have hb := hs x (List.mem_of_getElem? hx)
    simp only [go_sem, List.getElem?_map, hx, List.length_map]
    refine ⟨by omega, by omega, ?_⟩
    refine act_callE (c18 _ hb) ?_
    simp only [go_sem]
    refine act_split (fun h2 => ?_) (fun h2 => ?_) <;> simp only [go_sem, h2]
    · refine act_split (fun h3 => ?_) (fun h3 => ?_) <;> simp only [go_sem, h3] <;> simp only [decide_eq_true_eq, decide_eq_false_iff_not] at h3
      · obtain ⟨y, hy⟩ : ∃ y, a[i - 1]? = some y := ⟨_, List.getElem?_eq_getElem (by omega)⟩
        have e : ((i : Int) - 1).toNat = i - 1 := by omega
        simp only [go_sem, wrap64 (n := (i : Int) - 1) (by omega) (by omega), e, List.getElem?_map, hx, hy, List.length_map]
        refine ⟨by omega, by omega, ?_⟩
        refine act_split_not (fun h4 => ?_) (fun h4 => ?_) <;> simp only [go_sem, h4]
        · rw [keysB_no (i := i) (by omega) (by simp [keyB, hx, h2, hy, geB, h4]; omega)]
        · refine nextK_of ⟨i + 1, by omega, all_succ ht (by simp [keyB, hx, h2, hy, geB, h4])⟩ (by simp only [go_sem]) ?_ (by dsimp only; omega)
          simp only [go_sem]
          rw [wrap64 (by omega) (by omega)]; rfl
      · refine nextK_of ⟨i + 1, by omega, all_succ ht (by simp [keyB, hx, h2]; omega)⟩ (by simp only [go_sem]) ?_ (by dsimp only; omega)
        simp only [go_sem]
        rw [wrap64 (by omega) (by omega)]; rfl
    · rw [keysB_no (i := i) (by omega) (by simp [keyB, hx, h2])]
  · rw [keysB_yes fun j hj => ht j (by omega)]
/-- The fields of a tree are as its kind tells. -/
def fieldsB (k n : Int) (s : ByteArray) (ks : List ByteArray) (kl : Nat) : Bool :=
  if (k != 8 && decide (0 < ks.length)) || ((k != 8 && k != 7) && decide (0 < kl)) then false else
  let num := n == 0
  let txt := s.toList == (⟨#[]⟩ : ByteArray).toList
  if k == 1 || k == 2 || k == 3 || k == 7 then num && txt
  else if k == 4 then inB n (-1000000000) 1000000000 && txt
  else if k == 5 then num && wordB s
  else if k == 6 then num && decide (s.size ≤ 200)
  else if k == 8 then num && txt && decide (ks.length = kl) && keysB ks
  else k == 9 && inB n 1 1000000000 && txt
end Go.Proofs.Ytbmdncjnnlajnaa.M

/- Contracts for ObjOk: fieldsOk. No condition. -/
namespace Go.Proofs.Ytbmdncjnnlajnaa.M
open Go Go.Proofs
set_option maxRecDepth 100000
set_option maxHeartbeats 2000000
set_option linter.unusedSimpArgs false
attribute [go_sem] Bool.true_eq_false Int.reduceBEq Int.reduceBNe Int.reduceLT Int.reduceLE Int.reduceGT Int.reduceGE Int.reduceAdd Int.reduceSub Int.reduceMul Int.reduceNeg
theorem c93 (k n : Int) (s : ByteArray) (ks : List ByteArray) (kids : List Ob) (h : Tn (.mk k n s ks kids)) :
    CS Try.prog false 93 [.v (Ob.mk k n s ks kids).t] [.bool (fieldsB k n s ks kids.length)] [] := by
  obtain ⟨g0, g1, g2, g3⟩ : s.size ≤ 1048576 ∧ ks.length ≤ 1048576 ∧ (∀ s ∈ ks, s.size ≤ 1048576) ∧ kids.length ≤ 1048576 := by cases h; exact ⟨by assumption, by assumption, by assumption, by assumption⟩
  rw [Ob.t_mk]
  have key : k = 1 ∨ k = 2 ∨ k = 3 ∨ k = 7 ∨ k = 4 ∨ k = 5 ∨ k = 6 ∨ k = 8 ∨ k = 9 ∨ ((k == 1) = false ∧ (k == 2) = false ∧ (k == 3) = false ∧ (k == 7) = false ∧ (k == 4) = false ∧ (k == 5) = false ∧ (k == 6) = false ∧ (k == 8) = false ∧ (k == 9) = false) := by
    simp only [beq_eq_false_iff_ne]; omega
  clear h
  rcases key with rfl | rfl | rfl | rfl | rfl | rfl | rfl | rfl | rfl | ⟨e1, e2, e3, e4, e5, e6, e7, e8, e9⟩
  all_goals
    refine CS_act tab_ok md Try.func93 rfl rfl Try.ntmps93 (rl := [.tmp 2]) rfl (Nat.le_of_ble_eq_true rfl) ?_
    simp only [go_sem, bne, List.length_map, *]
  all_goals
    repeat' (first
    | (refine act_callE (c45 _ _ _) ?_; simp only [go_sem, *])
    | (refine act_callE (c18 _ g0) ?_; simp only [go_sem, *])
    | (refine act_callE (c111 _ g1 g2) ?_; simp only [go_sem, *])
    | (refine act_split_not (fun h => ?_) (fun h => ?_) <;> simp only [go_sem, h, List.length_map, *])
    | (refine act_split (fun h => ?_) (fun h => ?_) <;> simp only [go_sem, h, List.length_map, *]))
  all_goals first | (simp_all [fieldsB]; done) | (simp_all [fieldsB]; omega) | (simp_all [fieldsB]; intros; omega) | skip
end Go.Proofs.Ytbmdncjnnlajnaa.M

/- Contracts for ObjOk: countOf, and the plain law of both counts. No condition. -/
namespace Go.Proofs.Ytbmdncjnnlajnaa.M
open Go Go.Proofs
set_option maxRecDepth 100000
set_option maxHeartbeats 2000000
set_option linter.unusedSimpArgs false
mutual
def cntO : Ob → Int → Int
  | .mk k n s ks kids, d => if 6 < d then 121 else if fieldsB k n s ks kids.length = false then 121 else cntL kids (d + 1) 1
def cntL : List Ob → Int → Int → Int
  | [], _, c => c
  | o :: r, d, c => if 120 < c + cntO o d then 121 else cntL r d (c + cntO o d)
end
mutual
def lefO : Ob → Int → Int → Option Int
  | .mk k n s ks kids, d, left => if left - 1 < 0 then none else if 6 < d then none else if fieldsB k n s ks kids.length = false then none else lefL kids (d + 1) (left - 1)
def lefL : List Ob → Int → Int → Option Int
  | [], _, left => some left
  | o :: r, d, left => match lefO o d left with
    | some l => lefL r d l
    | none => none
end
theorem cntL_ge : ∀ (l : List Ob) (d c : Int), c ≤ 121 → (∀ o ∈ l, 1 ≤ cntO o d ∧ cntO o d ≤ 121) → c ≤ cntL l d c ∧ cntL l d c ≤ 121
  | [], d, c, h, _ => by rw [cntL]; omega
  | o :: r, d, c, h, ho => by
    rw [cntL]
    have h1 := ho o (by simp)
    split
    · omega
    · have := cntL_ge r d (c + cntO o d) (by omega) fun o' h' => ho o' (by simp [h'])
      omega
theorem cntO_ge : ∀ (o : Ob) (d : Int), 1 ≤ cntO o d ∧ cntO o d ≤ 121
  | .mk k n s ks kids, d => by
    rw [cntO]
    split
    · omega
    split
    · omega
    exact cntL_ge kids (d + 1) 1 (by omega) fun o ho => cntO_ge o (d + 1)
  decreasing_by
  have := List.sizeOf_lt_of_mem ho
  simp only [Ob.mk.sizeOf_spec]
  omega
theorem lefL_cnt : ∀ (l : List Ob) (d left c : Int), 0 ≤ c → 0 ≤ left → c + left ≤ 120 → (∀ o ∈ l, ∀ x : Int, 0 ≤ x → x ≤ 120 → lefO o d x = if cntO o d ≤ x then some (x - cntO o d) else none) →
    lefL l d left = if cntL l d c ≤ c + left then some (c + left - cntL l d c) else none
  | [], d, left, c, hc, h0, h1, _ => by
    rw [lefL, cntL, if_pos (by omega)]
    congr 1; omega
  | o :: r, d, left, c, hc, h0, h1, ho => by
    have g := cntO_ge o d
    by_cases hc' : 0 ≤ c
    · rw [lefL, cntL, ho o (by simp) left h0 (by omega)]
      by_cases h2 : cntO o d ≤ left
      · rw [if_pos h2, if_neg (show ¬ 120 < c + cntO o d by omega)]
        dsimp only
        rw [lefL_cnt r d (left - cntO o d) (c + cntO o d) (by omega) (by omega) (by omega) fun o' h' => ho o' (by simp [h'])]
        have : c + cntO o d + (left - cntO o d) = c + left := by omega
        rw [this]
      · rw [if_neg h2]
        dsimp only
        split
        · rw [if_neg (by omega)]
        · have := cntL_ge r d (c + cntO o d) (by omega) fun o' _ => cntO_ge o' d
          rw [if_neg (by omega)]
    · omega
theorem lefO_cnt : ∀ (o : Ob) (d left : Int), 0 ≤ left → left ≤ 120 → lefO o d left = if cntO o d ≤ left then some (left - cntO o d) else none
  | .mk k n s ks kids, d, left, h0, h1 => by
    have g := cntO_ge (.mk k n s ks kids) d
    by_cases hl : left - 1 < 0
    · rw [lefO, if_pos hl, if_neg (by omega)]
    rw [lefO, if_neg hl, cntO]
    split
    · rw [if_neg (by omega)]
    split
    · rw [if_neg (by omega)]
    rw [lefL_cnt kids (d + 1) (left - 1) 1 (by omega) (by omega) (by omega) fun o ho x hx0 hx1 => lefO_cnt o (d + 1) x hx0 hx1]
    have : 1 + (left - 1) = left := by omega
    rw [this]
  decreasing_by
  have := List.sizeOf_lt_of_mem ho
  simp only [Ob.mk.sizeOf_spec]
  omega
theorem c66 (k n : Int) (s : ByteArray) (ks : List ByteArray) (kids : List Ob) (hT : Tn (.mk k n s ks kids)) (d : Int) (h0 : 0 ≤ d) (h1 : d ≤ 7)
    (hh : d + 1 ≤ 7 → ∀ o ∈ kids, CS Try.prog false 66 [.v o.t, .v (.int .i64 (d + 1))] [.int .i64 (cntO o (d + 1))] []) :
    CS Try.prog false 66 [.v (Ob.mk k n s ks kids).t, .v (.int .i64 d)] [.int .i64 (cntO (.mk k n s ks kids) d)] [] := by
  have hf := c93 k n s ks kids hT
  have hkl : kids.length ≤ 1048576 := by cases hT; assumption
  rw [Ob.t_mk] at hf ⊢
  rw [cntO]
  refine CS_act tab_ok md Try.func66 rfl rfl Try.ntmps66 (rl := [.tmp 4]) rfl (Nat.le_of_ble_eq_true rfl) ?_
  simp only [go_sem]
  refine act_split_not (fun h => ?_) (fun h => ?_) <;> simp only [go_sem, h] <;> simp only [decide_eq_true_eq, decide_eq_false_iff_not] at h
  rotate_left
  · rw [if_pos h]
  rw [if_neg h]
  refine act_callE hf ?_
  simp only [go_sem]
  refine act_split_not (fun h2 => ?_) (fun h2 => ?_) <;> simp only [go_sem, h2]
  simp only [List.length_map]
  refine act_loop_of (md := md) tab_ok [1,5,16,17,18] [] 1000 (ι := {p : Nat × Int // p.1 ≤ kids.length ∧ 1 ≤ p.2 ∧ p.2 ≤ 120 ∧ cntL (kids.drop p.1) (d + 1) p.2 = cntL kids (d + 1) 1})
    (fun p => ⟨[(1, .a (.c (.t (.int .i64 d)))), (5, .a (.c (.t (.int .i64 p.1.2)))), (16, .a (.c (.t (.list 5 (kids.map Ob.t))))), (17, .a (.c (.t (.int .i64 kids.length)))), (18, .a (.c (.t (.int .i64 p.1.1))))], [], 1000, 32⟩)
    (fun p => kids.length - p.1.1) ⟨(0, 1), by omega, by omega, by omega, rfl⟩ (Nat.le_of_ble_eq_true rfl) (by simp only [go_sem]) (by simp only [go_sem]; rfl) fun p => ?_
  obtain ⟨⟨i, c⟩, hi, hc0, hc1, hz⟩ := p
  dsimp only at hi hc0 hc1 hz
  simp only [go_sem, List.length_map]
  refine act_split (fun h3 => ?_) (fun h3 => ?_) <;> simp only [go_sem] <;> simp only [decide_eq_true_eq, decide_eq_false_iff_not] at h3
  · obtain ⟨x, hx⟩ : ∃ x, kids[i]? = some x := ⟨_, List.getElem?_eq_getElem (by omega)⟩
    have hc := hh (by omega) x (List.mem_of_getElem? hx)
    have g := cntO_ge x (d + 1)
    have hd : kids.drop i = x :: kids.drop (i + 1) := by
      rw [List.drop_eq_getElem_cons (by omega)]
      rw [List.getElem?_eq_getElem (by omega)] at hx; rw [Option.some.inj hx]
    rw [hd, cntL] at hz
    generalize cntO x (d + 1) = y at hc hz g
    obtain ⟨k', n', s', ks', kids'⟩ := x
    rw [Ob.t_mk] at hc
    simp only [go_sem, List.getElem?_map, hx, List.length_map, Ob.t_mk, wrap64 (n := d + 1) (by omega) (by omega)]
    refine ⟨by omega, by omega, ?_⟩
    refine act_callE hc ?_
    simp only [go_sem, wrap64 (n := c + y) (by omega) (by omega)]
    refine act_split (fun h4 => ?_) (fun h4 => ?_) <;> simp only [go_sem] <;> simp only [decide_eq_true_eq, decide_eq_false_iff_not] at h4
    · rw [if_pos h4] at hz
      rw [← hz]
    · rw [if_neg h4] at hz
      refine nextK_of ⟨(i + 1, c + y), by omega, by omega, by omega, hz⟩ (by simp only [go_sem]) ?_ (by dsimp only; omega)
      simp only [go_sem]
      rw [wrap64 (by omega) (by omega)]; rfl
  · have : i = kids.length := by omega
    subst this
    rw [List.drop_length, cntL] at hz
    rw [← hz]
theorem c66' (o : Ob) (hT : Tn o) : ∀ d : Int, 0 ≤ d → d ≤ 7 → CS Try.prog false 66 [.v o.t, .v (.int .i64 d)] [.int .i64 (cntO o d)] [] := by
  match o, hT with
  | .mk k n s ks kids, hT =>
    have hk : ∀ o ∈ kids, Tn o := by cases hT; assumption
    have hr : ∀ o ∈ kids, ∀ d : Int, 0 ≤ d → d ≤ 7 → CS Try.prog false 66 [.v o.t, .v (.int .i64 d)] [.int .i64 (cntO o d)] [] := fun o ho => c66' o (hk o ho)
    exact fun d h0 h1 => c66 k n s ks kids hT d h0 h1 fun h o ho => hr o ho (d + 1) (by omega) h
termination_by o
decreasing_by
  have := List.sizeOf_lt_of_mem ho
  simp only [Ob.mk.sizeOf_spec]
  omega
theorem c27 (o : Ob) (hT : Tn o) : CS Try.prog false 27 [.v o.t] [.bool (decide (cntO o 0 ≤ 120))] [] := by
  have hc := c66' o hT 0 (by omega) (by omega)
  obtain ⟨k, n, s, ks, kids⟩ := o
  rw [Ob.t_mk] at hc ⊢
  refine CS_act tab_ok md Try.func27 rfl rfl Try.ntmps27 (rl := [.tmp 2]) rfl (Nat.le_of_ble_eq_true rfl) ?_
  simp only [go_sem]
  refine act_callE hc ?_
  simp only [go_sem]
end Go.Proofs.Ytbmdncjnnlajnaa.M

/- Contracts for ObjOk: the reference's count, its loops. No condition. -/
namespace Go.Proofs.Ytbmdncjnnlajnaa.M
open Go Go.Proofs
set_option maxRecDepth 100000
set_option maxHeartbeats 2000000
set_option linter.unusedSimpArgs false
def preB (k n : Int) (s : ByteArray) (ks : List ByteArray) (kl : Nat) : Bool :=
  let num := k == 4 || k == 9
  let txt := k == 5 || k == 6
  let kds := k == 7 || k == 8
  (if k == 4 then inB n (-1000000000) 1000000000 else if k == 9 then inB n 1 1000000000 else if k == 5 then wordB s else if k == 6 then decide (s.size ≤ 200) else if k == 8 then decide (ks.length = kl) else k == 1 || k == 2 || k == 3 || k == 7)
    && !((!num && n != 0) || (!txt && !(s.toList == (⟨#[]⟩ : ByteArray).toList)) || (!kds && decide (0 < kl)) || (!(k == 8) && decide (0 < ks.length)))
mutual
def lefP : Ob → Int → Int → Bool × Int
  | .mk k n s ks kids, d, left => if left - 1 < 0 then (false, left - 1) else if 6 < d then (false, left - 1) else if preB k n s ks kids.length = false then (false, left - 1) else if keysB ks = false then (false, left - 1) else lefPL kids (d + 1) (left - 1)
def lefPL : List Ob → Int → Int → Bool × Int
  | [], _, left => (true, left)
  | o :: r, d, left => if (lefP o d left).1 = true then lefPL r d (lefP o d left).2 else (false, (lefP o d left).2)
end
theorem fields_pre (k n : Int) (s : ByteArray) (ks : List ByteArray) (kl : Nat) : fieldsB k n s ks kl = (preB k n s ks kl && keysB ks) := by
  have hk : ks.length = 0 → keysB ks = true := fun h => by rw [List.length_eq_zero_iff.1 h]; rfl
  unfold fieldsB preB
  simp only [bne]
  generalize inB n (-1000000000) 1000000000 = b1
  generalize inB n 1 1000000000 = b2
  generalize wordB s = b3
  generalize decide (s.size ≤ 200) = b4
  generalize (n == 0) = bn
  generalize (s.toList == (⟨#[]⟩ : ByteArray).toList) = bs
  generalize keysB ks = bk at hk ⊢
  generalize ks.length = kz at hk ⊢
  have key : k = 1 ∨ k = 2 ∨ k = 3 ∨ k = 7 ∨ k = 4 ∨ k = 5 ∨ k = 6 ∨ k = 8 ∨ k = 9 ∨ ((k == 1) = false ∧ (k == 2) = false ∧ (k == 3) = false ∧ (k == 7) = false ∧ (k == 4) = false ∧ (k == 5) = false ∧ (k == 6) = false ∧ (k == 8) = false ∧ (k == 9) = false) := by
    simp only [beq_eq_false_iff_ne]; omega
  rcases key with rfl | rfl | rfl | rfl | rfl | rfl | rfl | rfl | rfl | ⟨e1, e2, e3, e4, e5, e6, e7, e8, e9⟩
  all_goals
    rcases Nat.eq_zero_or_pos kl with rfl | hkl <;> rcases Nat.eq_zero_or_pos kz with rfl | hkz
  all_goals (try have hk := hk rfl)
  all_goals (try subst hk)
  all_goals (try simp only [e1, e2, e3, e4, e5, e6, e7, e8, e9])
  all_goals cases bn <;> cases bs <;> first | (simp; done) | simp_all
theorem lefL_P : ∀ (l : List Ob) (d x : Int), (∀ o ∈ l, ∀ x, lefO o d x = if (lefP o d x).1 = true then some (lefP o d x).2 else none) → lefL l d x = if (lefPL l d x).1 = true then some (lefPL l d x).2 else none
  | [], d, x, _ => by rw [lefL, lefPL]; rfl
  | o :: r, d, x, h => by
    rw [lefL, lefPL, h o (by simp) x]
    by_cases h1 : (lefP o d x).1 = true
    · simp only [h1, if_true]
      exact lefL_P r d _ fun o' h' => h o' (by simp [h'])
    · simp only [h1, if_false]; simp
theorem lefP_O : ∀ (o : Ob) (d l : Int), lefO o d l = if (lefP o d l).1 = true then some (lefP o d l).2 else none
  | .mk k n s ks kids, d, l => by
    rw [lefO, lefP]
    split
    · simp
    split
    · simp
    rw [fields_pre]
    by_cases h1 : preB k n s ks kids.length = false
    · simp [h1]
    by_cases h2 : keysB ks = false
    · simp [h1, h2]
    simp only [Bool.not_eq_false] at h1 h2
    simp only [h1, h2, Bool.and_true, Bool.true_eq_false, if_false]
    exact lefL_P kids (d + 1) (l - 1) fun o ho x => lefP_O o (d + 1) x
  decreasing_by
  have := List.sizeOf_lt_of_mem ho
  simp only [Ob.mk.sizeOf_spec]
  omega
theorem lefP_yes (o : Ob) (d x : Int) (h0 : 0 ≤ x) (h1 : x ≤ 120) : (lefP o d x).1 = decide (cntO o d ≤ x) ∧ ((lefP o d x).1 = true → (lefP o d x).2 = x - cntO o d) := by
  have h := lefP_O o d x
  rw [lefO_cnt o d x h0 h1] at h
  by_cases h2 : cntO o d ≤ x
  · rw [if_pos h2] at h
    split at h
    · rename_i h3; obtain h4 := Option.some.inj h; exact ⟨by rw [h3]; simp [h2], fun _ => h4.symm⟩
    · cases h
  · rw [if_neg h2] at h
    split at h
    · cases h
    · rename_i h3; exact ⟨by simp [h2, h3], fun h => absurd h h3⟩
abbrev L65 (o : Ob) (d left : Int) : Prop := CS Try.prog false 65 [.v o.t, .v (.int .i64 d), .mb [.t (.int .i64 left)]] [.bool (lefP o d left).1] [[.t (.int .i64 (lefP o d left).2)]]
theorem r65 (k n : Int) (s : ByteArray) (ks : List ByteArray) (kids : List Ob) (hT : Tn (.mk k n s ks kids)) (d left l0 : Int) (h0 : 0 ≤ d) (h1 : d ≤ 6) (h2 : 0 ≤ left) (h3 : left < 120)
    (hh : ∀ o ∈ kids, ∀ x : Int, 0 ≤ x → x ≤ 120 → L65 o (d + 1) x) (rs : List T) (os : List (List BC))
    (hr1 : keysB ks = false → rs = [.bool false] ∧ os = [[.t (.int .i64 left)]]) (hr2 : keysB ks = true → rs = [.bool (lefPL kids (d + 1) left).1] ∧ os = [[.t (.int .i64 (lefPL kids (d + 1) left).2)]]) {c : Code}
    (hc : subC Try.f65.body [true, true, true, true, true, true, true, true, true] = some c) :
    WWE Try.prog c ⟨[(1, .a (.c (.t (.int .i64 d)))), (2, .a (.c (.ptr 0 0))), (3, .a (.c (.ptr 1 0)))], [(0, .box [.t (.int .i64 left)]), (1, .box [.t (.int .i64 k), .t (.int .i64 n), .t (.str s), .t (.list 1 (ks.map T.str)), .t (.list 5 (kids.map Ob.t))])], 4000, 153⟩
      (endK tab false [.tmp 6] [.v (.agg [.int .i64 k, .int .i64 n, .str s, .list 1 (ks.map T.str), .list 5 (kids.map Ob.t)]), .v (.int .i64 d), .mb [.t (.int .i64 l0)]] rs os) .one .one := by
  obtain rfl := Option.some.inj hc
  clear hc
  refine WWE_of_act tab_ok md ?_
  simp only [go_sem]
  obtain ⟨g0, g1, g2, g3⟩ : s.size ≤ 1048576 ∧ ks.length ≤ 1048576 ∧ (∀ s ∈ ks, s.size ≤ 1048576) ∧ kids.length ≤ 1048576 := by cases hT; exact ⟨by assumption, by assumption, by assumption, by assumption⟩
  refine act_loop_of (md := md) tab_ok [1,2,3,11] [0,1] 6000 (ι := {i : Nat // i ≤ ks.length ∧ ∀ j, j < i → keyB ks j = true})
    (fun i => ⟨[(1, .a (.c (.t (.int .i64 d)))), (2, .a (.c (.ptr 0 0))), (3, .a (.c (.ptr 1 0))), (11, .a (.c (.t (.int .i64 i.1))))], [(0, .box [.t (.int .i64 left)]), (1, .box [.t (.int .i64 k), .t (.int .i64 n), .t (.str s), .t (.list 1 (ks.map T.str)), .t (.list 5 (kids.map Ob.t))])], 6000, 153⟩)
    (fun i => ks.length - i.1) ⟨0, by omega, by simp⟩ (Nat.le_of_ble_eq_true rfl) (by simp only [go_sem]) (by simp only [go_sem]; rfl) fun i => ?_
  obtain ⟨i, hi, ht⟩ := i
  simp only [go_sem, List.length_map]
  refine act_split (fun h => ?_) (fun h => ?_) <;> simp only [go_sem] <;> simp only [decide_eq_true_eq, decide_eq_false_iff_not] at h
  · obtain ⟨x, hx⟩ : ∃ x, ks[i]? = some x := ⟨_, List.getElem?_eq_getElem (by omega)⟩
    have hb := g2 x (List.mem_of_getElem? hx)
    refine act_draw_of tab_ok mix md ?_
    simp only [go_sem, List.getElem?_map, hx, List.length_map]
    refine ⟨by omega, by omega, ?_⟩
    refine act_callE (c17 _ hb) ?_
    simp only [go_sem]
    refine act_split (fun h5 => ?_) (fun h5 => ?_) <;> simp only [go_sem, h5]
    · refine act_split (fun h3 => ?_) (fun h3 => ?_) <;> simp only [go_sem, h3] <;> simp only [decide_eq_true_eq, decide_eq_false_iff_not] at h3
      · obtain ⟨y, hy⟩ : ∃ y, ks[i - 1]? = some y := ⟨_, List.getElem?_eq_getElem (by omega)⟩
        have e : ((i : Int) - 1).toNat = i - 1 := by omega
        simp only [go_sem, wrap64 (n := (i : Int) - 1) (by omega) (by omega), e, List.getElem?_map, hx, hy, List.length_map]
        refine ⟨by omega, by omega, by omega, by omega, drawOk_of (by kernel_rfl), ?_⟩
        refine act_split_not (fun h4 => ?_) (fun h4 => ?_) <;> simp only [go_sem, h4]
        · have := keysB_no (ks := ks) (i := i) (by omega) (by simp [keyB, hx, h5, hy, geB, h4]; omega)
          obtain ⟨rfl, rfl⟩ := hr1 this
          trivial
        · refine nextK_of ⟨i + 1, by omega, all_succ ht (by simp [keyB, hx, h5, hy, geB, h4])⟩ (by simp only [go_sem]) ?_ (by dsimp only; omega)
          simp only [go_sem]
          rw [wrap64 (by omega) (by omega)]; rfl
      · refine ⟨drawOk_of (by kernel_rfl), ?_⟩
        refine nextK_of ⟨i + 1, by omega, all_succ ht (by simp [keyB, hx, h5]; omega)⟩ (by simp only [go_sem]) ?_ (by dsimp only; omega)
        simp only [go_sem]
        rw [wrap64 (by omega) (by omega)]; rfl
    · refine ⟨drawOk_of (by kernel_rfl), ?_⟩
      have := keysB_no (ks := ks) (i := i) (by omega) (by simp [keyB, hx, h5])
      obtain ⟨rfl, rfl⟩ := hr1 this
      trivial
  · have hy := keysB_yes (ks := ks) fun j hj => ht j (by omega)
    obtain ⟨rfl, rfl⟩ := hr2 hy
    clear hr1 hr2
    refine act_loop_of (md := md) tab_ok [1,2,3,12] [0,1] 9000 (ι := {p : Nat × Int // p.1 ≤ kids.length ∧ 0 ≤ p.2 ∧ p.2 ≤ 120 ∧ lefPL (kids.drop p.1) (d + 1) p.2 = lefPL kids (d + 1) left})
      (fun p => ⟨[(1, .a (.c (.t (.int .i64 d)))), (2, .a (.c (.ptr 0 0))), (3, .a (.c (.ptr 1 0))), (12, .a (.c (.t (.int .i64 p.1.1))))], [(0, .box [.t (.int .i64 p.1.2)]), (1, .box [.t (.int .i64 k), .t (.int .i64 n), .t (.str s), .t (.list 1 (ks.map T.str)), .t (.list 5 (kids.map Ob.t))])], 9000, 153⟩)
      (fun p => kids.length - p.1.1) ⟨(0, left), by omega, by omega, by omega, rfl⟩ (Nat.le_of_ble_eq_true rfl) (by simp only [go_sem]) (by simp only [go_sem]; rfl) fun p => ?_
    obtain ⟨⟨j, l⟩, hj, hl0, hl1, hz⟩ := p
    dsimp only at hj hl0 hl1 hz
    simp only [go_sem, List.length_map]
    refine act_split (fun h6 => ?_) (fun h6 => ?_) <;> simp only [go_sem] <;> simp only [decide_eq_true_eq, decide_eq_false_iff_not] at h6
    · obtain ⟨x, hx⟩ : ∃ x, kids[j]? = some x := ⟨_, List.getElem?_eq_getElem (by omega)⟩
      have hc := hh x (List.mem_of_getElem? hx) l hl0 hl1
      have hp := lefP_yes x (d + 1) l hl0 hl1
      have hg := cntO_ge x (d + 1)
      have hd : kids.drop j = x :: kids.drop (j + 1) := by
        rw [List.drop_eq_getElem_cons (by omega)]
        rw [List.getElem?_eq_getElem (by omega)] at hx; rw [Option.some.inj hx]
      rw [hd, lefPL] at hz
      unfold L65 at hc
      generalize lefP x (d + 1) l = p at hc hz hp
      obtain ⟨b, y⟩ := p
      dsimp only at hc hz hp
      obtain ⟨k', n', s', ks', kids'⟩ := x
      rw [Ob.t_mk] at hc
      simp only [go_sem, List.getElem?_map, hx, List.length_map, Ob.t_mk, wrap64 (n := d + 1) (by omega) (by omega)]
      refine ⟨by omega, by omega, ?_⟩
      refine act_callE hc ?_
      simp only [go_sem]
      refine act_split_not (fun h4 => ?_) (fun h4 => ?_) <;> simp only [go_sem] <;> subst h4
      · rw [if_neg (by simp)] at hz
        rw [← hz]; exact ⟨rfl, rfl⟩
      · rw [if_pos rfl] at hz
        have h7 := of_decide_eq_true hp.1.symm
        have h8 := hp.2 rfl
        refine nextK_of ⟨(j + 1, y), by omega, by omega, by omega, hz⟩ (by simp only [go_sem]) ?_ (by dsimp only; omega)
        simp only [go_sem]
        rw [wrap64 (by omega) (by omega)]; rfl
    · have : j = kids.length := by omega
      subst this
      rw [List.drop_length, lefPL] at hz
      rw [← hz]; exact ⟨rfl, rfl⟩
end Go.Proofs.Ytbmdncjnnlajnaa.M

/- Contracts for ObjOk: the reference's count. No condition. -/
namespace Go.Proofs.Ytbmdncjnnlajnaa.M
open Go Go.Proofs
set_option maxRecDepth 100000
set_option maxHeartbeats 2000000
set_option linter.unusedSimpArgs false
theorem c65 (k n : Int) (s : ByteArray) (ks : List ByteArray) (kids : List Ob) (hT : Tn (.mk k n s ks kids)) (d left : Int) (h0 : 0 ≤ d) (h1 : d ≤ 7) (h2 : 0 ≤ left) (h3 : left ≤ 120)
    (hh : d + 1 ≤ 7 → ∀ o ∈ kids, ∀ x : Int, 0 ≤ x → x ≤ 120 → L65 o (d + 1) x) : L65 (.mk k n s ks kids) d left := by
  obtain ⟨g0, g1, g2, g3⟩ : s.size ≤ 1048576 ∧ ks.length ≤ 1048576 ∧ (∀ s ∈ ks, s.size ≤ 1048576) ∧ kids.length ≤ 1048576 := by cases hT; exact ⟨by assumption, by assumption, by assumption, by assumption⟩
  unfold L65
  rw [lefP, Ob.t_mk]
  refine CS_WW tab_ok Try.func65 rfl rfl Try.ntmps65 (rl := [.tmp 6]) rfl (Nat.le_of_ble_eq_true rfl) ?_
  have hw := wrap64 (n := left - 1) (by omega) (by omega)
  refine WWE_seq tab_ok md ?_
  simp only [go_sem]
  refine WWE_seq tab_ok md ?_
  simp only [go_sem, hw]
  refine WWE_seq tab_ok md ?_
  simp only [go_sem]
  refine act_split_not (fun h => ?_) (fun h => ?_) <;> simp only [go_sem, h]
  rotate_left
  · simp only [decide_eq_true_eq] at h
    rw [if_pos h]; trivial
  simp only [decide_eq_false_iff_not] at h
  rw [if_neg h]
  refine act_split (fun h4 => ?_) (fun h4 => ?_) <;> simp only [go_sem]
  · simp only [decide_eq_true_eq] at h4
    rw [if_pos h4]; trivial
  simp only [decide_eq_false_iff_not] at h4
  rw [if_neg h4]
  refine WWE_seq tab_ok md ?_
  simp only [go_sem]
  refine WWE_seq tab_ok md ?_
  simp only [go_sem]
  refine WWE_seq tab_ok md ?_
  simp only [go_sem]
  refine WWE_seq tab_ok md ?_
  simp only [go_sem]
  have key : k = 1 ∨ k = 2 ∨ k = 3 ∨ k = 7 ∨ k = 4 ∨ k = 5 ∨ k = 6 ∨ k = 8 ∨ k = 9 ∨ ((k == 1) = false ∧ (k == 2) = false ∧ (k == 3) = false ∧ (k == 7) = false ∧ (k == 4) = false ∧ (k == 5) = false ∧ (k == 6) = false ∧ (k == 8) = false ∧ (k == 9) = false) := by
    simp only [beq_eq_false_iff_ne]; omega
  have hp : preB k n s ks kids.length = preB k n s ks kids.length := rfl
  conv at hp => rhs; unfold preB
  have rest := fun (hpre : preB k n s ks kids.length = true) => @r65 k n s ks kids hT d (left - 1) left h0 (by omega) (by omega) (by omega) (hh (by omega))
    [.bool (if preB k n s ks kids.length = false then (false, left - 1) else if keysB ks = false then (false, left - 1) else lefPL kids (d + 1) (left - 1)).1]
    [[.t (.int .i64 (if preB k n s ks kids.length = false then (false, left - 1) else if keysB ks = false then (false, left - 1) else lefPL kids (d + 1) (left - 1)).2)]]
    (fun hk => by simp [hpre, hk]) (fun hk => by simp [hpre, hk])
  generalize preB k n s ks kids.length = pb at hp rest ⊢
  rcases key with rfl | rfl | rfl | rfl | rfl | rfl | rfl | rfl | rfl | ⟨e1, e2, e3, e4, e5, e6, e7, e8, e9⟩
  all_goals (try simp only [e1, e2, e3, e4, e5, e6, e7, e8, e9] at hp)
  all_goals
    refine WWE_seq tab_ok md ?_
    simp only [go_sem, List.length_map]
    try simp only [e1, e2, e3, e4, e5, e6, e7, e8, e9, go_sem]
    repeat' (first
      | (refine act_callE (c44 _ _ _) ?_; simp only [go_sem])
      | (refine act_callE (c17 _ g0) ?_; simp only [go_sem])
      | (refine act_split_not (fun h => ?_) (fun h => ?_) <;> simp only [go_sem, h])
      | (refine act_split (fun h => ?_) (fun h => ?_) <;> simp only [go_sem, h]))
  all_goals try
    refine WWE_seq tab_ok md ?_
    simp only [go_sem, List.length_map, bne]
    repeat' (first
      | (refine act_split_not (fun h => ?_) (fun h => ?_) <;> simp only [go_sem, h, List.length_map])
      | (refine act_split (fun h => ?_) (fun h => ?_) <;> simp only [go_sem, h, List.length_map]))
  all_goals try
    refine WWE_cut [1,2,3] [0,1] 4000 _ (Nat.le_of_ble_eq_true rfl) (by simp only [go_sem]) (by simp only [go_sem]) (rest ?_ rfl)
  all_goals
    first
    | (have : pb = true := by
        rw [hp]; first | (simp_all; done) | (simp_all; omega)
       exact this)
    | (have : pb = false := by
        rw [hp]; first | (simp_all; done) | (simp_all; omega)
       rw [if_pos this]; exact ⟨rfl, rfl⟩)
end Go.Proofs.Ytbmdncjnnlajnaa.M

/- Contracts for ObjOk: the law. No condition. -/
namespace Go.Proofs.Ytbmdncjnnlajnaa.M
open Go Go.Proofs
set_option maxRecDepth 100000
set_option maxHeartbeats 2000000
set_option linter.unusedSimpArgs false
theorem c65' (o : Ob) (hT : Tn o) : ∀ d left : Int, 0 ≤ d → d ≤ 7 → 0 ≤ left → left ≤ 120 → L65 o d left := by
  match o, hT with
  | .mk k n s ks kids, hT =>
    have hk : ∀ o ∈ kids, Tn o := by cases hT; assumption
    have hr : ∀ o ∈ kids, ∀ d left : Int, 0 ≤ d → d ≤ 7 → 0 ≤ left → left ≤ 120 → L65 o d left := fun o ho => c65' o (hk o ho)
    exact fun d left h0 h1 h2 h3 => c65 k n s ks kids hT d left h0 h1 h2 h3 fun h o ho x hx0 hx1 => hr o ho (d + 1) x (by omega) h hx0 hx1
termination_by o
decreasing_by
  have := List.sizeOf_lt_of_mem ho
  simp only [Ob.mk.sizeOf_spec]
  omega
theorem c26 (o : Ob) (hT : Tn o) : CS Try.prog false 26 [.v o.t] [.bool (decide (cntO o 0 ≤ 120))] [] := by
  have hc := c65' o hT 0 120 (by omega) (by omega) (by omega) (by omega)
  have he := (lefP_yes o 0 120 (by omega) (by omega)).1
  unfold L65 at hc
  rw [he] at hc
  generalize (lefP o 0 120).2 = y at hc
  generalize decide (cntO o 0 ≤ 120) = b at hc ⊢
  obtain ⟨k, n, s, ks, kids⟩ := o
  rw [Ob.t_mk] at hc ⊢
  refine CS_act tab_ok md Try.func26 rfl rfl Try.ntmps26 (rl := [.tmp 2]) rfl (Nat.le_of_ble_eq_true rfl) ?_
  simp only [go_sem]
  refine act_callE hc ?_
  simp only [go_sem]
theorem c7 (o : Ob) (hW : Wd o) : CS Try.prog false 7 [.v o.t] [.bool true] [] := by
  have h19 := c19' o hW 1048576 (by omega) (by omega)
  have hrest : ¬ szO o 1048576 < 0 → CS Try.prog false 21 [.v o.t] [o.t] [] ∧ CS Try.prog false 26 [.v o.t] [.bool (decide (cntO o 0 ≤ 120))] [] ∧ CS Try.prog false 27 [.v o.t] [.bool (decide (cntO o 0 ≤ 120))] [] ∧ CS Try.prog false 23 [.v o.t, .v o.t] [.bool true] [] := fun h => by
    have hT := tn_of_sz o 1048576 (by omega) (by omega)
    exact ⟨c21' o hT.sm, c26 o hT, c27 o hT, c23' o hT.sm⟩
  generalize szO o 1048576 = z at h19 hrest
  generalize decide (cntO o 0 ≤ 120) = b at hrest
  obtain ⟨k, n, s, ks, kids⟩ := o
  rw [Ob.t_mk] at h19 hrest ⊢
  refine CS_act tab_ok md Try.func7 rfl rfl Try.ntmps7 (rl := [.tmp 2]) rfl (Nat.le_of_ble_eq_true rfl) ?_
  simp only [go_sem]
  refine act_callE h19 ?_
  simp only [go_sem]
  refine act_split (fun h => ?_) (fun h => ?_) <;> simp only [go_sem] <;> simp only [decide_eq_true_eq, decide_eq_false_iff_not] at h
  obtain ⟨h21, h26, h27, h23⟩ := hrest h
  refine act_callE h21 ?_
  simp only [go_sem]
  refine act_callE h26 ?_
  simp only [go_sem]
  refine act_callE h21 ?_
  simp only [go_sem]
  refine act_callE h27 ?_
  simp only [go_sem, bne_self_eq_false, beq_self_eq_true]
  refine act_draw_of tab_ok mix md ?_
  simp only [go_sem]
  refine act_callE h21 ?_
  simp only [go_sem]
  refine act_callE h23 ?_
  simp only [go_sem]
  exact drawOk_of (by kernel_rfl)
end Go.Proofs.Ytbmdncjnnlajnaa.M

/- Contracts for DocOk, part 1: items and documents, their copies, comparisons with themselves, sizes. No condition. -/
namespace Go.Proofs.Ytbmdncjnnlajnaa.M
open Go Go.Proofs
set_option maxRecDepth 100000
set_option maxHeartbeats 2000000
set_option linter.unusedSimpArgs false
structure It where
  num : Int
  k : Int
  n : Int
  s : ByteArray
  ks : List ByteArray
  kids : List Ob
  hd : Bool
  data : ByteArray
abbrev It.o (x : It) : Ob := .mk x.k x.n x.s x.ks x.kids
def It.t (x : It) : T := .agg [.int .i64 x.num, .int .i64 x.k, .int .i64 x.n, .str x.s, .list 1 (x.ks.map T.str), .list 5 (x.kids.map Ob.t), .bool x.hd, .str x.data]
theorem It.t_def (x : It) : x.t = .agg [.int .i64 x.num, .int .i64 x.k, .int .i64 x.n, .str x.s, .list 1 (x.ks.map T.str), .list 5 (x.kids.map Ob.t), .bool x.hd, .str x.data] := rfl
def its (l : List It) : T := .list 8 (l.map It.t)
def docT (l : List It) (root : Int) : T := .agg [its l, .int .i64 root]
abbrev it0 : T := .agg [.int .i64 0, .int .i64 0, .int .i64 0, .str ⟨#[]⟩, .list 1 [], .list 5 [], .bool false, .str ⟨#[]⟩]
theorem c95 (x : It) (h : Sm x.o) : CS Try.prog false 95 [.v x.t] [x.t] [] := by
  have hc := c21' x.o h
  rw [Ob.t_mk] at hc
  rw [It.t_def]
  refine CS_act tab_ok md Try.func95 rfl rfl Try.ntmps95 (rl := [.cell 2 65]) rfl (Nat.le_of_ble_eq_true rfl) ?_
  simp only [go_sem]
  refine act_callE hc ?_
  simp only [go_sem]
theorem c70 (a : List It) (ha : a.length ≤ 1048576) (h : ∀ o ∈ a, Sm o.o) : CS Try.prog false 70 [.v (its a)] [its a] [] := by
  refine CS_act tab_ok md Try.func70 rfl rfl Try.ntmps70 (rl := [.tmp 2]) rfl (Nat.le_of_ble_eq_true rfl) ?_
  simp only [go_sem, its, List.length_map]
  refine ⟨by omega, by omega, by omega, by omega, ?_⟩
  refine act_loop_of (md := md) tab_ok [0,3,4] [48] 1000 (ι := {i : Nat // i ≤ a.length}) (fun i => ⟨[(0, .a (.c (.t (.list 8 (a.map It.t))))), (3, .a (.c (.own 48 0 0 a.length))), (4, .a (.c (.t (.int .i64 i.1))))], [(48, .arr 8 ((a.take i.1).map It.t ++ List.replicate (a.length - i.1) it0) 0)], 1000, 23⟩) (fun i => a.length - i.1) ⟨0, by omega⟩ (Nat.le_of_ble_eq_true rfl) (by simp only [go_sem]) (by simp only [go_sem]; simp) fun i => ?_
  obtain ⟨i, hi⟩ := i
  simp only [go_sem, List.length_map]
  refine act_split (fun h2 => ?_) (fun h2 => ?_) <;> simp only [go_sem] <;> simp only [decide_eq_true_eq, decide_eq_false_iff_not] at h2
  · obtain ⟨x, hx⟩ : ∃ x, a[i]? = some x := ⟨_, List.getElem?_eq_getElem (by omega)⟩
    have hc := c95 x (h x (List.mem_of_getElem? hx))
    have hg := fill_get It.t it0 a i (by omega)
    have hf := fill_set It.t it0 a i x hx
    rw [It.t_def] at hc hf
    simp only [go_sem, List.getElem?_map, hx, List.length_map, hg, It.t_def]
    refine ⟨by omega, by omega, ?_⟩
    refine act_callE hc ?_
    simp only [go_sem, List.length_append, List.length_map, hg]
    refine ⟨by omega, by omega, ?_⟩
    refine nextK_of ⟨i + 1, by omega⟩ (by simp only [go_sem]) ?_ (by dsimp only; omega)
    simp only [go_sem]
    rw [wrap64 (by omega) (by omega), hf]; rfl
  · have : i = a.length := by omega
    subst this
    simp
    exact List.take_of_length_le (by simp)
theorem c30 (a : List It) (r : Int) (ha : a.length ≤ 1048576) (h : ∀ o ∈ a, Sm o.o) : CS Try.prog false 30 [.v (docT a r)] [docT a r] [] := by
  have hc := c70 a ha h
  unfold docT its at *
  refine CS_act tab_ok md Try.func30 rfl rfl Try.ntmps30 (rl := [.cell 2 53]) rfl (Nat.le_of_ble_eq_true rfl) ?_
  simp only [go_sem]
  refine act_callE hc ?_
  simp only [go_sem]
theorem c40 (x : It) (h : Sm x.o) : CS Try.prog false 40 [.v x.t, .v x.t] [.bool true] [] := by
  have hc := c23' x.o h
  rw [Ob.t_mk] at hc
  rw [It.t_def]
  refine CS_act tab_ok md Try.func40 rfl rfl Try.ntmps40 (rl := [.tmp 4]) rfl (Nat.le_of_ble_eq_true rfl) ?_
  simp only [go_sem, bne_self_eq_false, beq_self_eq_true]
  refine act_callE hc ?_
  simp only [go_sem, bne_self_eq_false, beq_self_eq_true]
theorem c73 (a : List It) (ha : a.length ≤ 1048576) (hh : ∀ o ∈ a, Sm o.o) : CS Try.prog false 73 [.v (its a), .v (its a)] [.bool true] [] := by
  refine CS_act tab_ok md Try.func73 rfl rfl Try.ntmps73 (rl := [.tmp 4]) rfl (Nat.le_of_ble_eq_true rfl) ?_
  simp only [go_sem, its, List.length_map, bne_self_eq_false]
  refine act_loop_of (md := md) tab_ok [0,1,5] [] 1000 (ι := {i : Nat // i ≤ a.length}) (fun i => ⟨[(0, .a (.c (.t (.list 8 (a.map It.t))))), (1, .a (.c (.t (.list 8 (a.map It.t))))), (5, .a (.c (.t (.int .i64 i.1))))], [], 1000, 27⟩) (fun i => a.length - i.1) ⟨0, by omega⟩ (Nat.le_of_ble_eq_true rfl) (by simp only [go_sem]) (by simp only [go_sem]; rfl) fun i => ?_
  obtain ⟨i, hi⟩ := i
  simp only [go_sem, List.length_map]
  refine act_split (fun h => ?_) (fun h => ?_) <;> simp only [go_sem] <;> simp only [decide_eq_true_eq, decide_eq_false_iff_not] at h
  obtain ⟨x, hx⟩ : ∃ x, a[i]? = some x := ⟨_, List.getElem?_eq_getElem (by omega)⟩
  have hc := c40 x (hh x (List.mem_of_getElem? hx))
  rw [It.t_def] at hc
  refine act_draw_of tab_ok mix md ?_
  simp only [go_sem, List.getElem?_map, hx, List.length_map, It.t_def]
  refine ⟨by omega, by omega, by omega, by omega, ?_⟩
  refine act_callE hc ?_
  simp only [go_sem]
  refine ⟨drawOk_of (by kernel_rfl), ?_⟩
  refine nextK_of ⟨i + 1, by omega⟩ (by simp only [go_sem]) ?_ (by dsimp only; omega)
  simp only [go_sem]
  rw [wrap64 (by omega) (by omega)]; rfl
theorem c32 (a : List It) (r : Int) (ha : a.length ≤ 1048576) (h : ∀ o ∈ a, Sm o.o) : CS Try.prog false 32 [.v (docT a r), .v (docT a r)] [.bool true] [] := by
  have hc := c73 a ha h
  unfold docT its at *
  refine CS_act tab_ok md Try.func32 rfl rfl Try.ntmps32 (rl := [.tmp 4]) rfl (Nat.le_of_ble_eq_true rfl) ?_
  simp only [go_sem, bne_self_eq_false]
  refine act_callE hc ?_
  simp only [go_sem, bne_self_eq_false]
def szI (x : It) (left : Int) : Int := if szO x.o left < 0 then -1 else if szO x.o left - x.data.size < 0 then -1 else szO x.o left - x.data.size
def szIL : List It → Int → Int
  | [], left => left
  | o :: r, left => if szI o left < 0 then -1 else szIL r (szI o left)
def szD (l : List It) (left : Int) : Int := if left - l.length < 0 then -1 else szIL l (left - l.length)
theorem szI_le (x : It) (l : Int) (h : 0 ≤ l) : szI x l ≤ l := by
  have := szO_le' x.o l h
  unfold szI
  split
  · omega
  · split <;> omega
theorem szI_neg (x : It) (l : Int) : szI x l < 0 → szI x l = -1 := by
  unfold szI
  split
  · intro _; rfl
  · split
    · intro _; rfl
    · intro h; omega
theorem szIL_neg : ∀ (l : List It) (x : Int), 0 ≤ x → szIL l x = -1 ∨ 0 ≤ szIL l x
  | [], x, h => by rw [szIL]; exact .inr h
  | o :: r, x, h => by
    rw [szIL]
    split
    · exact .inl rfl
    · exact szIL_neg r _ (by omega)
theorem szD_neg (l : List It) (x : Int) : szD l x < 0 → szD l x = -1 := by
  unfold szD
  split
  · intro _; rfl
  · rename_i h
    intro h2
    rcases szIL_neg l (x - l.length) (by omega) with h3 | h3 <;> omega
theorem c94 (x : It) (hW : Wd x.o) (hs : x.data.size ≤ 9223372036854775807) (left : Int) (h0 : 0 ≤ left) (h1 : left ≤ 1048576) : CS Try.prog false 94 [.v x.t, .v (.int .i64 left)] [.int .i64 (szI x left)] [] := by
  have hc := c19' x.o hW left h0 h1
  have hle := szO_le' x.o left h0
  unfold szI
  generalize szO x.o left = z at hc hle ⊢
  rw [Ob.t_mk] at hc
  rw [It.t_def]
  refine CS_act tab_ok md Try.func94 rfl rfl Try.ntmps94 (rl := [.tmp 4]) rfl (Nat.le_of_ble_eq_true rfl) ?_
  simp only [go_sem]
  refine act_callE hc ?_
  simp only [go_sem]
  refine act_split (fun h => ?_) (fun h => ?_) <;> simp only [go_sem] <;> simp only [decide_eq_true_eq, decide_eq_false_iff_not] at h
  · rw [if_pos h]
  rw [if_neg h]
  have hw := wrap64 (n := z - x.data.size) (by omega) (by omega)
  simp only [hw]
  refine act_split (fun h2 => ?_) (fun h2 => ?_) <;> simp only [go_sem] <;> simp only [decide_eq_true_eq, decide_eq_false_iff_not] at h2
  · rw [if_pos h2]
  · rw [if_neg h2, hw]
theorem c67 (a : List It) (left : Int) (h0 : 0 ≤ left) (h1 : left ≤ 1048576) (hl : a.length ≤ 9223372036854775807) (hW : ∀ o ∈ a, Wd o.o ∧ o.data.size ≤ 9223372036854775807) :
    CS Try.prog false 67 [.v (its a), .v (.int .i64 left)] [.int .i64 (szD a left)] [] := by
  refine CS_act tab_ok md Try.func67 rfl rfl Try.ntmps67 (rl := [.tmp 4]) rfl (Nat.le_of_ble_eq_true rfl) ?_
  simp only [go_sem, its, List.length_map, wrap64 (n := left - a.length) (by omega) (by omega)]
  refine act_split (fun h => ?_) (fun h => ?_) <;> simp only [go_sem] <;> simp only [decide_eq_true_eq, decide_eq_false_iff_not] at h
  · simp [szD, h]
  refine act_loop_of (md := md) tab_ok [0,1,5] [] 1000 (ι := {p : Nat × Int // p.1 ≤ a.length ∧ 0 ≤ p.2 ∧ p.2 ≤ 1048576 ∧ szIL (a.drop p.1) p.2 = szD a left})
    (fun p => ⟨[(0, .a (.c (.t (.list 8 (a.map It.t))))), (1, .a (.c (.t (.int .i64 p.1.2)))), (5, .a (.c (.t (.int .i64 p.1.1))))], [], 1000, 27⟩) (fun p => a.length - p.1.1) ⟨(0, left - a.length), by omega, by omega, by omega, by simp [szD, h]⟩ (Nat.le_of_ble_eq_true rfl) (by simp only [go_sem]) (by simp only [go_sem]; rfl) fun p => ?_
  obtain ⟨⟨i, l⟩, hi, hl0, hl1, hz⟩ := p
  simp only [go_sem, List.length_map]
  refine act_split (fun h2 => ?_) (fun h2 => ?_) <;> simp only [go_sem] <;> simp only [decide_eq_true_eq, decide_eq_false_iff_not] at h2
  · obtain ⟨x, hx⟩ : ∃ x, a[i]? = some x := ⟨_, List.getElem?_eq_getElem (by omega)⟩
    have hw := hW x (List.mem_of_getElem? hx)
    have hc := c94 x hw.1 hw.2 l hl0 hl1
    have hxl := szI_le x l hl0
    have hd : a.drop i = x :: a.drop (i + 1) := by
      rw [List.drop_eq_getElem_cons (by omega)]
      rw [List.getElem?_eq_getElem (by omega)] at hx; rw [Option.some.inj hx]
    dsimp only at hz
    rw [hd, szIL] at hz
    generalize szI x l = y at hc hxl hz
    rw [It.t_def] at hc
    simp only [go_sem, List.getElem?_map, hx, List.length_map, It.t_def]
    refine ⟨by omega, by omega, ?_⟩
    refine act_callE hc ?_
    simp only [go_sem]
    refine act_split (fun h3 => ?_) (fun h3 => ?_) <;> simp only [go_sem] <;> simp only [decide_eq_true_eq, decide_eq_false_iff_not] at h3
    · rw [if_pos h3] at hz
      rw [← hz]
    · rw [if_neg h3] at hz
      refine nextK_of ⟨(i + 1, y), by omega, by omega, by omega, hz⟩ (by simp only [go_sem]) ?_ (by dsimp only; omega)
      simp only [go_sem]
      rw [wrap64 (by omega) (by omega)]; rfl
  · have : i = a.length := by omega
    subst this
    dsimp only at hz
    rw [List.drop_length, szIL] at hz
    rw [← hz]
theorem c28 (a : List It) (r left : Int) (h0 : 0 ≤ left) (h1 : left ≤ 1048576) (hl : a.length ≤ 9223372036854775807) (hW : ∀ o ∈ a, Wd o.o ∧ o.data.size ≤ 9223372036854775807) :
    CS Try.prog false 28 [.v (docT a r), .v (.int .i64 left)] [.int .i64 (szD a left)] [] := by
  have hc := c67 a left h0 h1 hl hW
  have hn := szD_neg a left
  generalize szD a left = z at hc hn ⊢
  unfold docT its at *
  refine CS_act tab_ok md Try.func28 rfl rfl Try.ntmps28 (rl := [.tmp 4]) rfl (Nat.le_of_ble_eq_true rfl) ?_
  simp only [go_sem]
  refine act_callE hc ?_
  simp only [go_sem]
  refine act_split (fun h => ?_) (fun h => ?_) <;> simp only [go_sem] <;> simp only [decide_eq_true_eq, decide_eq_false_iff_not] at h
  rw [hn h]
/-- What a measured document is. -/
theorem tn_of_szD (l : List It) (x : Int) (hx : x ≤ 1048576) (h : 0 ≤ szD l x) : l.length ≤ 1048576 ∧ ∀ o ∈ l, Tn o.o ∧ o.data.size ≤ 1048576 := by
  unfold szD at h
  split at h
  · omega
  refine ⟨by omega, ?_⟩
  have key : ∀ (l : List It) (y : Int), 0 ≤ y → y ≤ 1048576 → 0 ≤ szIL l y → ∀ o ∈ l, Tn o.o ∧ o.data.size ≤ 1048576 := fun l => by
    induction l with
    | nil => intro y _ _ _ o ho; cases ho
    | cons a r ih =>
      intro y hy0 hy1 hh o ho
      rw [szIL] at hh
      split at hh
      · omega
      rename_i hn
      have hle := szI_le a y hy0
      rcases List.mem_cons.1 ho with rfl | ho
      · unfold szI at hn hle
        have := szO_le' o.o y hy0
        split at hn
        · omega
        split at hn
        · omega
        exact ⟨tn_of_sz o.o y hy1 (by omega), by omega⟩
      · exact ih _ (by omega) (by omega) hh o ho
  exact key l _ (by omega) (by omega) h
end Go.Proofs.Ytbmdncjnnlajnaa.M
