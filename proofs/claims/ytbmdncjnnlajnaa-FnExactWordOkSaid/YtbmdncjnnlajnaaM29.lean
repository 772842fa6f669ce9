/- A machine of values: an operation's outcome is one. No condition. Made by gen29.py. -/
import Derived.Test.YtbmdncjnnlajnaaM28
namespace Go.Proofs.Ytbmdncjnnlajnaa.M
open Go
set_option linter.unusedSimpArgs false
set_option linter.unusedVariables false
set_option linter.unusedSectionVars false

theorem op_det {P : Program} {τ : Tab} {md : Nat → Bool} {o : Oper} {s : St} {n : Nat} {K : AV → List (Nat × Blk) → Prop} (h : op P τ md o s n K) :
    ∃ v u, K v u ∧ ∀ K' : AV → List (Nat × Blk) → Prop, K' v u → op P τ md o s n K' := by
  cases ho : o.op with
  | move x =>
    simp only [op, ho] at h ⊢
    (repeat' split at h) <;> ((try simp only [*, reduceIte, true_and]); first
      | exact h.elim
      | exact ⟨_, _, h, fun _ h' => h'⟩
      | exact ⟨_, _, h.2, fun _ h' => h'⟩
      | exact ⟨_, _, h.2.2, fun _ h' => h'⟩
      | exact ⟨_, _, h.2.2.2, fun _ h' => h'⟩
      | exact ⟨_, _, h.2.2.2.2, fun _ h' => h'⟩
      | exact ⟨_, _, h.2, fun _ h' => ⟨h.1, h'⟩⟩
      | exact ⟨_, _, h.2.2, fun _ h' => ⟨h.1, h.2.1, h'⟩⟩
      | exact ⟨_, _, h.2.2.2, fun _ h' => ⟨h.1, h.2.1, h.2.2.1, h'⟩⟩
      | exact ⟨_, _, h.2.2.2.2, fun _ h' => ⟨h.1, h.2.1, h.2.2.1, h.2.2.2.1, h'⟩⟩
      | (obtain ⟨x1, x2, x3⟩ := partK_det h; exact ⟨_, _, x2, fun _ h' => x3 _ h'⟩)
      | (obtain ⟨x1, x2, x3⟩ := fillK_det h; exact ⟨_, _, x2, fun _ h' => x3 _ h'⟩)
      | (obtain ⟨x1, x2, x3⟩ := binT_det h; exact ⟨_, _, x2, fun _ h' => x3 _ h'⟩)
      | (obtain ⟨x1, x4, x2, x3⟩ := cutK_det h; exact ⟨_, _, x2, fun _ h' => x3 _ h'⟩)
      | (obtain ⟨x1, x4, x2, x3⟩ := callK_det h; exact ⟨_, _, x2, fun _ h' => x3 _ h'⟩)
      | (obtain ⟨x1, x2, x3⟩ := h; subst x1; exact ⟨_, _, x3, fun _ h' => h'⟩)
      | skip)
  | assign x =>
    simp only [op, ho] at h ⊢
    (repeat' split at h) <;> ((try simp only [*, reduceIte, true_and]); first
      | exact h.elim
      | exact ⟨_, _, h, fun _ h' => h'⟩
      | exact ⟨_, _, h.2, fun _ h' => h'⟩
      | exact ⟨_, _, h.2.2, fun _ h' => h'⟩
      | exact ⟨_, _, h.2.2.2, fun _ h' => h'⟩
      | exact ⟨_, _, h.2.2.2.2, fun _ h' => h'⟩
      | exact ⟨_, _, h.2, fun _ h' => ⟨h.1, h'⟩⟩
      | exact ⟨_, _, h.2.2, fun _ h' => ⟨h.1, h.2.1, h'⟩⟩
      | exact ⟨_, _, h.2.2.2, fun _ h' => ⟨h.1, h.2.1, h.2.2.1, h'⟩⟩
      | exact ⟨_, _, h.2.2.2.2, fun _ h' => ⟨h.1, h.2.1, h.2.2.1, h.2.2.2.1, h'⟩⟩
      | (obtain ⟨x1, x2, x3⟩ := partK_det h; exact ⟨_, _, x2, fun _ h' => x3 _ h'⟩)
      | (obtain ⟨x1, x2, x3⟩ := fillK_det h; exact ⟨_, _, x2, fun _ h' => x3 _ h'⟩)
      | (obtain ⟨x1, x2, x3⟩ := binT_det h; exact ⟨_, _, x2, fun _ h' => x3 _ h'⟩)
      | (obtain ⟨x1, x4, x2, x3⟩ := cutK_det h; exact ⟨_, _, x2, fun _ h' => x3 _ h'⟩)
      | (obtain ⟨x1, x4, x2, x3⟩ := callK_det h; exact ⟨_, _, x2, fun _ h' => x3 _ h'⟩)
      | (obtain ⟨x1, x2, x3⟩ := h; subst x1; exact ⟨_, _, x3, fun _ h' => h'⟩)
      | skip)
  | alloc t =>
    simp only [op, ho] at h ⊢
    (repeat' split at h) <;> ((try simp only [*, reduceIte, true_and]); first
      | exact h.elim
      | exact ⟨_, _, h, fun _ h' => h'⟩
      | exact ⟨_, _, h.2, fun _ h' => h'⟩
      | exact ⟨_, _, h.2.2, fun _ h' => h'⟩
      | exact ⟨_, _, h.2.2.2, fun _ h' => h'⟩
      | exact ⟨_, _, h.2.2.2.2, fun _ h' => h'⟩
      | exact ⟨_, _, h.2, fun _ h' => ⟨h.1, h'⟩⟩
      | exact ⟨_, _, h.2.2, fun _ h' => ⟨h.1, h.2.1, h'⟩⟩
      | exact ⟨_, _, h.2.2.2, fun _ h' => ⟨h.1, h.2.1, h.2.2.1, h'⟩⟩
      | exact ⟨_, _, h.2.2.2.2, fun _ h' => ⟨h.1, h.2.1, h.2.2.1, h.2.2.2.1, h'⟩⟩
      | (obtain ⟨x1, x2, x3⟩ := partK_det h; exact ⟨_, _, x2, fun _ h' => x3 _ h'⟩)
      | (obtain ⟨x1, x2, x3⟩ := fillK_det h; exact ⟨_, _, x2, fun _ h' => x3 _ h'⟩)
      | (obtain ⟨x1, x2, x3⟩ := binT_det h; exact ⟨_, _, x2, fun _ h' => x3 _ h'⟩)
      | (obtain ⟨x1, x4, x2, x3⟩ := cutK_det h; exact ⟨_, _, x2, fun _ h' => x3 _ h'⟩)
      | (obtain ⟨x1, x4, x2, x3⟩ := callK_det h; exact ⟨_, _, x2, fun _ h' => x3 _ h'⟩)
      | (obtain ⟨x1, x2, x3⟩ := h; subst x1; exact ⟨_, _, x3, fun _ h' => h'⟩)
      | skip)
  | box t x =>
    simp only [op, ho] at h ⊢
    (repeat' split at h) <;> ((try simp only [*, reduceIte, true_and]); first
      | exact h.elim
      | exact ⟨_, _, h, fun _ h' => h'⟩
      | exact ⟨_, _, h.2, fun _ h' => h'⟩
      | exact ⟨_, _, h.2.2, fun _ h' => h'⟩
      | exact ⟨_, _, h.2.2.2, fun _ h' => h'⟩
      | exact ⟨_, _, h.2.2.2.2, fun _ h' => h'⟩
      | exact ⟨_, _, h.2, fun _ h' => ⟨h.1, h'⟩⟩
      | exact ⟨_, _, h.2.2, fun _ h' => ⟨h.1, h.2.1, h'⟩⟩
      | exact ⟨_, _, h.2.2.2, fun _ h' => ⟨h.1, h.2.1, h.2.2.1, h'⟩⟩
      | exact ⟨_, _, h.2.2.2.2, fun _ h' => ⟨h.1, h.2.1, h.2.2.1, h.2.2.2.1, h'⟩⟩
      | (obtain ⟨x1, x2, x3⟩ := partK_det h; exact ⟨_, _, x2, fun _ h' => x3 _ h'⟩)
      | (obtain ⟨x1, x2, x3⟩ := fillK_det h; exact ⟨_, _, x2, fun _ h' => x3 _ h'⟩)
      | (obtain ⟨x1, x2, x3⟩ := binT_det h; exact ⟨_, _, x2, fun _ h' => x3 _ h'⟩)
      | (obtain ⟨x1, x4, x2, x3⟩ := cutK_det h; exact ⟨_, _, x2, fun _ h' => x3 _ h'⟩)
      | (obtain ⟨x1, x4, x2, x3⟩ := callK_det h; exact ⟨_, _, x2, fun _ h' => x3 _ h'⟩)
      | (obtain ⟨x1, x2, x3⟩ := h; subst x1; exact ⟨_, _, x3, fun _ h' => h'⟩)
      | skip)
  | build t ps =>
    simp only [op, ho] at h ⊢
    (repeat' split at h) <;> ((try simp only [*, reduceIte, true_and]); first
      | exact h.elim
      | exact ⟨_, _, h, fun _ h' => h'⟩
      | exact ⟨_, _, h.2, fun _ h' => h'⟩
      | exact ⟨_, _, h.2.2, fun _ h' => h'⟩
      | exact ⟨_, _, h.2.2.2, fun _ h' => h'⟩
      | exact ⟨_, _, h.2.2.2.2, fun _ h' => h'⟩
      | exact ⟨_, _, h.2, fun _ h' => ⟨h.1, h'⟩⟩
      | exact ⟨_, _, h.2.2, fun _ h' => ⟨h.1, h.2.1, h'⟩⟩
      | exact ⟨_, _, h.2.2.2, fun _ h' => ⟨h.1, h.2.1, h.2.2.1, h'⟩⟩
      | exact ⟨_, _, h.2.2.2.2, fun _ h' => ⟨h.1, h.2.1, h.2.2.1, h.2.2.2.1, h'⟩⟩
      | (obtain ⟨x1, x2, x3⟩ := partK_det h; exact ⟨_, _, x2, fun _ h' => x3 _ h'⟩)
      | (obtain ⟨x1, x2, x3⟩ := fillK_det h; exact ⟨_, _, x2, fun _ h' => x3 _ h'⟩)
      | (obtain ⟨x1, x2, x3⟩ := binT_det h; exact ⟨_, _, x2, fun _ h' => x3 _ h'⟩)
      | (obtain ⟨x1, x4, x2, x3⟩ := cutK_det h; exact ⟨_, _, x2, fun _ h' => x3 _ h'⟩)
      | (obtain ⟨x1, x4, x2, x3⟩ := callK_det h; exact ⟨_, _, x2, fun _ h' => x3 _ h'⟩)
      | (obtain ⟨x1, x2, x3⟩ := h; subst x1; exact ⟨_, _, x3, fun _ h' => h'⟩)
      | skip)
  | load t x =>
    simp only [op, ho] at h ⊢
    (repeat' split at h) <;> ((try simp only [*, reduceIte, true_and]); first
      | exact h.elim
      | exact ⟨_, _, h, fun _ h' => h'⟩
      | exact ⟨_, _, h.2, fun _ h' => h'⟩
      | exact ⟨_, _, h.2.2, fun _ h' => h'⟩
      | exact ⟨_, _, h.2.2.2, fun _ h' => h'⟩
      | exact ⟨_, _, h.2.2.2.2, fun _ h' => h'⟩
      | exact ⟨_, _, h.2, fun _ h' => ⟨h.1, h'⟩⟩
      | exact ⟨_, _, h.2.2, fun _ h' => ⟨h.1, h.2.1, h'⟩⟩
      | exact ⟨_, _, h.2.2.2, fun _ h' => ⟨h.1, h.2.1, h.2.2.1, h'⟩⟩
      | exact ⟨_, _, h.2.2.2.2, fun _ h' => ⟨h.1, h.2.1, h.2.2.1, h.2.2.2.1, h'⟩⟩
      | (obtain ⟨x1, x2, x3⟩ := partK_det h; exact ⟨_, _, x2, fun _ h' => x3 _ h'⟩)
      | (obtain ⟨x1, x2, x3⟩ := fillK_det h; exact ⟨_, _, x2, fun _ h' => x3 _ h'⟩)
      | (obtain ⟨x1, x2, x3⟩ := binT_det h; exact ⟨_, _, x2, fun _ h' => x3 _ h'⟩)
      | (obtain ⟨x1, x4, x2, x3⟩ := cutK_det h; exact ⟨_, _, x2, fun _ h' => x3 _ h'⟩)
      | (obtain ⟨x1, x4, x2, x3⟩ := callK_det h; exact ⟨_, _, x2, fun _ h' => x3 _ h'⟩)
      | (obtain ⟨x1, x2, x3⟩ := h; subst x1; exact ⟨_, _, x3, fun _ h' => h'⟩)
      | skip)
  | store t x y =>
    simp only [op, ho] at h ⊢
    (repeat' split at h) <;> ((try simp only [*, reduceIte, true_and]); first
      | exact h.elim
      | exact ⟨_, _, h, fun _ h' => h'⟩
      | exact ⟨_, _, h.2, fun _ h' => h'⟩
      | exact ⟨_, _, h.2.2, fun _ h' => h'⟩
      | exact ⟨_, _, h.2.2.2, fun _ h' => h'⟩
      | exact ⟨_, _, h.2.2.2.2, fun _ h' => h'⟩
      | exact ⟨_, _, h.2, fun _ h' => ⟨h.1, h'⟩⟩
      | exact ⟨_, _, h.2.2, fun _ h' => ⟨h.1, h.2.1, h'⟩⟩
      | exact ⟨_, _, h.2.2.2, fun _ h' => ⟨h.1, h.2.1, h.2.2.1, h'⟩⟩
      | exact ⟨_, _, h.2.2.2.2, fun _ h' => ⟨h.1, h.2.1, h.2.2.1, h.2.2.2.1, h'⟩⟩
      | (obtain ⟨x1, x2, x3⟩ := partK_det h; exact ⟨_, _, x2, fun _ h' => x3 _ h'⟩)
      | (obtain ⟨x1, x2, x3⟩ := fillK_det h; exact ⟨_, _, x2, fun _ h' => x3 _ h'⟩)
      | (obtain ⟨x1, x2, x3⟩ := binT_det h; exact ⟨_, _, x2, fun _ h' => x3 _ h'⟩)
      | (obtain ⟨x1, x4, x2, x3⟩ := cutK_det h; exact ⟨_, _, x2, fun _ h' => x3 _ h'⟩)
      | (obtain ⟨x1, x4, x2, x3⟩ := callK_det h; exact ⟨_, _, x2, fun _ h' => x3 _ h'⟩)
      | (obtain ⟨x1, x2, x3⟩ := h; subst x1; exact ⟨_, _, x3, fun _ h' => h'⟩)
      | skip)
  | nilCheck x =>
    simp only [op, ho] at h ⊢
    (repeat' split at h) <;> ((try simp only [*, reduceIte, true_and]); first
      | exact h.elim
      | exact ⟨_, _, h, fun _ h' => h'⟩
      | exact ⟨_, _, h.2, fun _ h' => h'⟩
      | exact ⟨_, _, h.2.2, fun _ h' => h'⟩
      | exact ⟨_, _, h.2.2.2, fun _ h' => h'⟩
      | exact ⟨_, _, h.2.2.2.2, fun _ h' => h'⟩
      | exact ⟨_, _, h.2, fun _ h' => ⟨h.1, h'⟩⟩
      | exact ⟨_, _, h.2.2, fun _ h' => ⟨h.1, h.2.1, h'⟩⟩
      | exact ⟨_, _, h.2.2.2, fun _ h' => ⟨h.1, h.2.1, h.2.2.1, h'⟩⟩
      | exact ⟨_, _, h.2.2.2.2, fun _ h' => ⟨h.1, h.2.1, h.2.2.1, h.2.2.2.1, h'⟩⟩
      | (obtain ⟨x1, x2, x3⟩ := partK_det h; exact ⟨_, _, x2, fun _ h' => x3 _ h'⟩)
      | (obtain ⟨x1, x2, x3⟩ := fillK_det h; exact ⟨_, _, x2, fun _ h' => x3 _ h'⟩)
      | (obtain ⟨x1, x2, x3⟩ := binT_det h; exact ⟨_, _, x2, fun _ h' => x3 _ h'⟩)
      | (obtain ⟨x1, x4, x2, x3⟩ := cutK_det h; exact ⟨_, _, x2, fun _ h' => x3 _ h'⟩)
      | (obtain ⟨x1, x4, x2, x3⟩ := callK_det h; exact ⟨_, _, x2, fun _ h' => x3 _ h'⟩)
      | (obtain ⟨x1, x2, x3⟩ := h; subst x1; exact ⟨_, _, x3, fun _ h' => h'⟩)
      | skip)
  | binOp b t x y u =>
    simp only [op, ho] at h ⊢
    (repeat' split at h) <;> ((try simp only [*, reduceIte, true_and]); first
      | exact h.elim
      | exact ⟨_, _, h, fun _ h' => h'⟩
      | exact ⟨_, _, h.2, fun _ h' => h'⟩
      | exact ⟨_, _, h.2.2, fun _ h' => h'⟩
      | exact ⟨_, _, h.2.2.2, fun _ h' => h'⟩
      | exact ⟨_, _, h.2.2.2.2, fun _ h' => h'⟩
      | exact ⟨_, _, h.2, fun _ h' => ⟨h.1, h'⟩⟩
      | exact ⟨_, _, h.2.2, fun _ h' => ⟨h.1, h.2.1, h'⟩⟩
      | exact ⟨_, _, h.2.2.2, fun _ h' => ⟨h.1, h.2.1, h.2.2.1, h'⟩⟩
      | exact ⟨_, _, h.2.2.2.2, fun _ h' => ⟨h.1, h.2.1, h.2.2.1, h.2.2.2.1, h'⟩⟩
      | (obtain ⟨x1, x2, x3⟩ := partK_det h; exact ⟨_, _, x2, fun _ h' => x3 _ h'⟩)
      | (obtain ⟨x1, x2, x3⟩ := fillK_det h; exact ⟨_, _, x2, fun _ h' => x3 _ h'⟩)
      | (obtain ⟨x1, x2, x3⟩ := binT_det h; exact ⟨_, _, x2, fun _ h' => x3 _ h'⟩)
      | (obtain ⟨x1, x4, x2, x3⟩ := cutK_det h; exact ⟨_, _, x2, fun _ h' => x3 _ h'⟩)
      | (obtain ⟨x1, x4, x2, x3⟩ := callK_det h; exact ⟨_, _, x2, fun _ h' => x3 _ h'⟩)
      | (obtain ⟨x1, x2, x3⟩ := h; subst x1; exact ⟨_, _, x3, fun _ h' => h'⟩)
      | skip)
  | unOp u t x =>
    simp only [op, ho] at h ⊢
    (repeat' split at h) <;> ((try simp only [*, reduceIte, true_and]); first
      | exact h.elim
      | exact ⟨_, _, h, fun _ h' => h'⟩
      | exact ⟨_, _, h.2, fun _ h' => h'⟩
      | exact ⟨_, _, h.2.2, fun _ h' => h'⟩
      | exact ⟨_, _, h.2.2.2, fun _ h' => h'⟩
      | exact ⟨_, _, h.2.2.2.2, fun _ h' => h'⟩
      | exact ⟨_, _, h.2, fun _ h' => ⟨h.1, h'⟩⟩
      | exact ⟨_, _, h.2.2, fun _ h' => ⟨h.1, h.2.1, h'⟩⟩
      | exact ⟨_, _, h.2.2.2, fun _ h' => ⟨h.1, h.2.1, h.2.2.1, h'⟩⟩
      | exact ⟨_, _, h.2.2.2.2, fun _ h' => ⟨h.1, h.2.1, h.2.2.1, h.2.2.2.1, h'⟩⟩
      | (obtain ⟨x1, x2, x3⟩ := partK_det h; exact ⟨_, _, x2, fun _ h' => x3 _ h'⟩)
      | (obtain ⟨x1, x2, x3⟩ := fillK_det h; exact ⟨_, _, x2, fun _ h' => x3 _ h'⟩)
      | (obtain ⟨x1, x2, x3⟩ := binT_det h; exact ⟨_, _, x2, fun _ h' => x3 _ h'⟩)
      | (obtain ⟨x1, x4, x2, x3⟩ := cutK_det h; exact ⟨_, _, x2, fun _ h' => x3 _ h'⟩)
      | (obtain ⟨x1, x4, x2, x3⟩ := callK_det h; exact ⟨_, _, x2, fun _ h' => x3 _ h'⟩)
      | (obtain ⟨x1, x2, x3⟩ := h; subst x1; exact ⟨_, _, x3, fun _ h' => h'⟩)
      | skip)
  | convert t u x =>
    simp only [op, ho] at h ⊢
    (repeat' split at h) <;> ((try simp only [*, reduceIte, true_and]); first
      | exact h.elim
      | exact ⟨_, _, h, fun _ h' => h'⟩
      | exact ⟨_, _, h.2, fun _ h' => h'⟩
      | exact ⟨_, _, h.2.2, fun _ h' => h'⟩
      | exact ⟨_, _, h.2.2.2, fun _ h' => h'⟩
      | exact ⟨_, _, h.2.2.2.2, fun _ h' => h'⟩
      | exact ⟨_, _, h.2, fun _ h' => ⟨h.1, h'⟩⟩
      | exact ⟨_, _, h.2.2, fun _ h' => ⟨h.1, h.2.1, h'⟩⟩
      | exact ⟨_, _, h.2.2.2, fun _ h' => ⟨h.1, h.2.1, h.2.2.1, h'⟩⟩
      | exact ⟨_, _, h.2.2.2.2, fun _ h' => ⟨h.1, h.2.1, h.2.2.1, h.2.2.2.1, h'⟩⟩
      | (obtain ⟨x1, x2, x3⟩ := partK_det h; exact ⟨_, _, x2, fun _ h' => x3 _ h'⟩)
      | (obtain ⟨x1, x2, x3⟩ := fillK_det h; exact ⟨_, _, x2, fun _ h' => x3 _ h'⟩)
      | (obtain ⟨x1, x2, x3⟩ := binT_det h; exact ⟨_, _, x2, fun _ h' => x3 _ h'⟩)
      | (obtain ⟨x1, x4, x2, x3⟩ := cutK_det h; exact ⟨_, _, x2, fun _ h' => x3 _ h'⟩)
      | (obtain ⟨x1, x4, x2, x3⟩ := callK_det h; exact ⟨_, _, x2, fun _ h' => x3 _ h'⟩)
      | (obtain ⟨x1, x2, x3⟩ := h; subst x1; exact ⟨_, _, x3, fun _ h' => h'⟩)
      | skip)
  | fieldAddr t x f =>
    simp only [op, ho] at h ⊢
    (repeat' split at h) <;> ((try simp only [*, reduceIte, true_and]); first
      | exact h.elim
      | exact ⟨_, _, h, fun _ h' => h'⟩
      | exact ⟨_, _, h.2, fun _ h' => h'⟩
      | exact ⟨_, _, h.2.2, fun _ h' => h'⟩
      | exact ⟨_, _, h.2.2.2, fun _ h' => h'⟩
      | exact ⟨_, _, h.2.2.2.2, fun _ h' => h'⟩
      | exact ⟨_, _, h.2, fun _ h' => ⟨h.1, h'⟩⟩
      | exact ⟨_, _, h.2.2, fun _ h' => ⟨h.1, h.2.1, h'⟩⟩
      | exact ⟨_, _, h.2.2.2, fun _ h' => ⟨h.1, h.2.1, h.2.2.1, h'⟩⟩
      | exact ⟨_, _, h.2.2.2.2, fun _ h' => ⟨h.1, h.2.1, h.2.2.1, h.2.2.2.1, h'⟩⟩
      | (obtain ⟨x1, x2, x3⟩ := partK_det h; exact ⟨_, _, x2, fun _ h' => x3 _ h'⟩)
      | (obtain ⟨x1, x2, x3⟩ := fillK_det h; exact ⟨_, _, x2, fun _ h' => x3 _ h'⟩)
      | (obtain ⟨x1, x2, x3⟩ := binT_det h; exact ⟨_, _, x2, fun _ h' => x3 _ h'⟩)
      | (obtain ⟨x1, x4, x2, x3⟩ := cutK_det h; exact ⟨_, _, x2, fun _ h' => x3 _ h'⟩)
      | (obtain ⟨x1, x4, x2, x3⟩ := callK_det h; exact ⟨_, _, x2, fun _ h' => x3 _ h'⟩)
      | (obtain ⟨x1, x2, x3⟩ := h; subst x1; exact ⟨_, _, x3, fun _ h' => h'⟩)
      | skip)
  | field t x f =>
    simp only [op, ho] at h ⊢
    (repeat' split at h) <;> ((try simp only [*, reduceIte, true_and]); first
      | exact h.elim
      | exact ⟨_, _, h, fun _ h' => h'⟩
      | exact ⟨_, _, h.2, fun _ h' => h'⟩
      | exact ⟨_, _, h.2.2, fun _ h' => h'⟩
      | exact ⟨_, _, h.2.2.2, fun _ h' => h'⟩
      | exact ⟨_, _, h.2.2.2.2, fun _ h' => h'⟩
      | exact ⟨_, _, h.2, fun _ h' => ⟨h.1, h'⟩⟩
      | exact ⟨_, _, h.2.2, fun _ h' => ⟨h.1, h.2.1, h'⟩⟩
      | exact ⟨_, _, h.2.2.2, fun _ h' => ⟨h.1, h.2.1, h.2.2.1, h'⟩⟩
      | exact ⟨_, _, h.2.2.2.2, fun _ h' => ⟨h.1, h.2.1, h.2.2.1, h.2.2.2.1, h'⟩⟩
      | (obtain ⟨x1, x2, x3⟩ := partK_det h; exact ⟨_, _, x2, fun _ h' => x3 _ h'⟩)
      | (obtain ⟨x1, x2, x3⟩ := fillK_det h; exact ⟨_, _, x2, fun _ h' => x3 _ h'⟩)
      | (obtain ⟨x1, x2, x3⟩ := binT_det h; exact ⟨_, _, x2, fun _ h' => x3 _ h'⟩)
      | (obtain ⟨x1, x4, x2, x3⟩ := cutK_det h; exact ⟨_, _, x2, fun _ h' => x3 _ h'⟩)
      | (obtain ⟨x1, x4, x2, x3⟩ := callK_det h; exact ⟨_, _, x2, fun _ h' => x3 _ h'⟩)
      | (obtain ⟨x1, x2, x3⟩ := h; subst x1; exact ⟨_, _, x3, fun _ h' => h'⟩)
      | skip)
  | indexAddr t x i =>
    simp only [op, ho] at h ⊢
    (repeat' split at h) <;> ((try simp only [*, reduceIte, true_and]); first
      | exact h.elim
      | exact ⟨_, _, h, fun _ h' => h'⟩
      | exact ⟨_, _, h.2, fun _ h' => h'⟩
      | exact ⟨_, _, h.2.2, fun _ h' => h'⟩
      | exact ⟨_, _, h.2.2.2, fun _ h' => h'⟩
      | exact ⟨_, _, h.2.2.2.2, fun _ h' => h'⟩
      | exact ⟨_, _, h.2, fun _ h' => ⟨h.1, h'⟩⟩
      | exact ⟨_, _, h.2.2, fun _ h' => ⟨h.1, h.2.1, h'⟩⟩
      | exact ⟨_, _, h.2.2.2, fun _ h' => ⟨h.1, h.2.1, h.2.2.1, h'⟩⟩
      | exact ⟨_, _, h.2.2.2.2, fun _ h' => ⟨h.1, h.2.1, h.2.2.1, h.2.2.2.1, h'⟩⟩
      | (obtain ⟨x1, x2, x3⟩ := partK_det h; exact ⟨_, _, x2, fun _ h' => x3 _ h'⟩)
      | (obtain ⟨x1, x2, x3⟩ := fillK_det h; exact ⟨_, _, x2, fun _ h' => x3 _ h'⟩)
      | (obtain ⟨x1, x2, x3⟩ := binT_det h; exact ⟨_, _, x2, fun _ h' => x3 _ h'⟩)
      | (obtain ⟨x1, x4, x2, x3⟩ := cutK_det h; exact ⟨_, _, x2, fun _ h' => x3 _ h'⟩)
      | (obtain ⟨x1, x4, x2, x3⟩ := callK_det h; exact ⟨_, _, x2, fun _ h' => x3 _ h'⟩)
      | (obtain ⟨x1, x2, x3⟩ := h; subst x1; exact ⟨_, _, x3, fun _ h' => h'⟩)
      | skip)
  | index t x i =>
    simp only [op, ho] at h ⊢
    (repeat' split at h) <;> ((try simp only [*, reduceIte, true_and]); first
      | exact h.elim
      | exact ⟨_, _, h, fun _ h' => h'⟩
      | exact ⟨_, _, h.2, fun _ h' => h'⟩
      | exact ⟨_, _, h.2.2, fun _ h' => h'⟩
      | exact ⟨_, _, h.2.2.2, fun _ h' => h'⟩
      | exact ⟨_, _, h.2.2.2.2, fun _ h' => h'⟩
      | exact ⟨_, _, h.2, fun _ h' => ⟨h.1, h'⟩⟩
      | exact ⟨_, _, h.2.2, fun _ h' => ⟨h.1, h.2.1, h'⟩⟩
      | exact ⟨_, _, h.2.2.2, fun _ h' => ⟨h.1, h.2.1, h.2.2.1, h'⟩⟩
      | exact ⟨_, _, h.2.2.2.2, fun _ h' => ⟨h.1, h.2.1, h.2.2.1, h.2.2.2.1, h'⟩⟩
      | (obtain ⟨x1, x2, x3⟩ := partK_det h; exact ⟨_, _, x2, fun _ h' => x3 _ h'⟩)
      | (obtain ⟨x1, x2, x3⟩ := fillK_det h; exact ⟨_, _, x2, fun _ h' => x3 _ h'⟩)
      | (obtain ⟨x1, x2, x3⟩ := binT_det h; exact ⟨_, _, x2, fun _ h' => x3 _ h'⟩)
      | (obtain ⟨x1, x4, x2, x3⟩ := cutK_det h; exact ⟨_, _, x2, fun _ h' => x3 _ h'⟩)
      | (obtain ⟨x1, x4, x2, x3⟩ := callK_det h; exact ⟨_, _, x2, fun _ h' => x3 _ h'⟩)
      | (obtain ⟨x1, x2, x3⟩ := h; subst x1; exact ⟨_, _, x3, fun _ h' => h'⟩)
      | skip)
  | extract x i =>
    simp only [op, ho] at h ⊢
    (repeat' split at h) <;> ((try simp only [*, reduceIte, true_and]); first
      | exact h.elim
      | exact ⟨_, _, h, fun _ h' => h'⟩
      | exact ⟨_, _, h.2, fun _ h' => h'⟩
      | exact ⟨_, _, h.2.2, fun _ h' => h'⟩
      | exact ⟨_, _, h.2.2.2, fun _ h' => h'⟩
      | exact ⟨_, _, h.2.2.2.2, fun _ h' => h'⟩
      | exact ⟨_, _, h.2, fun _ h' => ⟨h.1, h'⟩⟩
      | exact ⟨_, _, h.2.2, fun _ h' => ⟨h.1, h.2.1, h'⟩⟩
      | exact ⟨_, _, h.2.2.2, fun _ h' => ⟨h.1, h.2.1, h.2.2.1, h'⟩⟩
      | exact ⟨_, _, h.2.2.2.2, fun _ h' => ⟨h.1, h.2.1, h.2.2.1, h.2.2.2.1, h'⟩⟩
      | (obtain ⟨x1, x2, x3⟩ := partK_det h; exact ⟨_, _, x2, fun _ h' => x3 _ h'⟩)
      | (obtain ⟨x1, x2, x3⟩ := fillK_det h; exact ⟨_, _, x2, fun _ h' => x3 _ h'⟩)
      | (obtain ⟨x1, x2, x3⟩ := binT_det h; exact ⟨_, _, x2, fun _ h' => x3 _ h'⟩)
      | (obtain ⟨x1, x4, x2, x3⟩ := cutK_det h; exact ⟨_, _, x2, fun _ h' => x3 _ h'⟩)
      | (obtain ⟨x1, x4, x2, x3⟩ := callK_det h; exact ⟨_, _, x2, fun _ h' => x3 _ h'⟩)
      | (obtain ⟨x1, x2, x3⟩ := h; subst x1; exact ⟨_, _, x3, fun _ h' => h'⟩)
      | skip)
  | pick c a b =>
    simp only [op, ho] at h ⊢
    split at h
    · exact ⟨_, _, h, fun _ h' => h'⟩
    · rename_i _ _ _ c' _ _
      cases hcc : c' with
      | true => exact ⟨_, _, h.1 hcc, fun _ h' => ⟨fun _ => h', fun hf => Bool.noConfusion hf⟩⟩
      | false => exact ⟨_, _, h.2 hcc, fun _ h' => ⟨fun hf => Bool.noConfusion hf, fun _ => h'⟩⟩
    · exact h.elim
  | buildSlice t l ps =>
    simp only [op, ho] at h ⊢
    split at h
    · split at h
      · obtain ⟨x1, x2, x3⟩ := sealK_det h
        split at x2
        · rename_i hc
          obtain ⟨x4, x5, x6⟩ := litK_det x2
          exact ⟨_, _, x5, fun _ h' => x3 _ (by rw [if_pos hc]; exact x6 _ h')⟩
        · exact x2.elim
      · exact h.elim
    · exact h.elim
  | makeSlice t l c =>
    simp only [op, ho] at h ⊢
    split at h
    · split at h
      · obtain ⟨x1, x2, x3⟩ := sealK_det h
        split at x2
        · rename_i hc
          exact ⟨_, _, x2.2.2.2.2, fun _ h' => x3 _ (by rw [if_pos hc]; exact ⟨x2.1, x2.2.1, x2.2.2.1, x2.2.2.2.1, h'⟩)⟩
        · exact x2.elim
      · exact h.elim
    · exact h.elim
  | slice t x lo hi mx =>
    cases mx with
    | some m => simp only [op, ho] at h
    | none =>
      simp only [op, ho] at h ⊢
      (repeat' split at h) <;> ((try simp only [*, reduceIte, true_and]); first
      | exact h.elim
      | exact ⟨_, _, h, fun _ h' => h'⟩
      | exact ⟨_, _, h.2, fun _ h' => h'⟩
      | exact ⟨_, _, h.2.2, fun _ h' => h'⟩
      | exact ⟨_, _, h.2.2.2, fun _ h' => h'⟩
      | exact ⟨_, _, h.2.2.2.2, fun _ h' => h'⟩
      | exact ⟨_, _, h.2, fun _ h' => ⟨h.1, h'⟩⟩
      | exact ⟨_, _, h.2.2, fun _ h' => ⟨h.1, h.2.1, h'⟩⟩
      | exact ⟨_, _, h.2.2.2, fun _ h' => ⟨h.1, h.2.1, h.2.2.1, h'⟩⟩
      | exact ⟨_, _, h.2.2.2.2, fun _ h' => ⟨h.1, h.2.1, h.2.2.1, h.2.2.2.1, h'⟩⟩
      | (obtain ⟨x1, x2, x3⟩ := partK_det h; exact ⟨_, _, x2, fun _ h' => x3 _ h'⟩)
      | (obtain ⟨x1, x2, x3⟩ := fillK_det h; exact ⟨_, _, x2, fun _ h' => x3 _ h'⟩)
      | (obtain ⟨x1, x2, x3⟩ := binT_det h; exact ⟨_, _, x2, fun _ h' => x3 _ h'⟩)
      | (obtain ⟨x1, x4, x2, x3⟩ := cutK_det h; exact ⟨_, _, x2, fun _ h' => x3 _ h'⟩)
      | (obtain ⟨x1, x4, x2, x3⟩ := callK_det h; exact ⟨_, _, x2, fun _ h' => x3 _ h'⟩)
      | (obtain ⟨x1, x2, x3⟩ := h; subst x1; exact ⟨_, _, x3, fun _ h' => h'⟩)
      | skip)
  | call c =>
    obtain ⟨f, xs, ts⟩ := c
    cases f with
    | value f =>
      simp only [op, ho] at h ⊢
      (repeat' split at h) <;> ((try simp only [*, reduceIte, true_and]); first
      | exact h.elim
      | exact ⟨_, _, h, fun _ h' => h'⟩
      | exact ⟨_, _, h.2, fun _ h' => h'⟩
      | exact ⟨_, _, h.2.2, fun _ h' => h'⟩
      | exact ⟨_, _, h.2.2.2, fun _ h' => h'⟩
      | exact ⟨_, _, h.2.2.2.2, fun _ h' => h'⟩
      | exact ⟨_, _, h.2, fun _ h' => ⟨h.1, h'⟩⟩
      | exact ⟨_, _, h.2.2, fun _ h' => ⟨h.1, h.2.1, h'⟩⟩
      | exact ⟨_, _, h.2.2.2, fun _ h' => ⟨h.1, h.2.1, h.2.2.1, h'⟩⟩
      | exact ⟨_, _, h.2.2.2.2, fun _ h' => ⟨h.1, h.2.1, h.2.2.1, h.2.2.2.1, h'⟩⟩
      | (obtain ⟨x1, x2, x3⟩ := partK_det h; exact ⟨_, _, x2, fun _ h' => x3 _ h'⟩)
      | (obtain ⟨x1, x2, x3⟩ := fillK_det h; exact ⟨_, _, x2, fun _ h' => x3 _ h'⟩)
      | (obtain ⟨x1, x2, x3⟩ := binT_det h; exact ⟨_, _, x2, fun _ h' => x3 _ h'⟩)
      | (obtain ⟨x1, x4, x2, x3⟩ := cutK_det h; exact ⟨_, _, x2, fun _ h' => x3 _ h'⟩)
      | (obtain ⟨x1, x4, x2, x3⟩ := callK_det h; exact ⟨_, _, x2, fun _ h' => x3 _ h'⟩)
      | (obtain ⟨x1, x2, x3⟩ := h; subst x1; exact ⟨_, _, x3, fun _ h' => h'⟩)
      | skip)
    | invoke r m => simp only [op, ho] at h
    | builtin b =>
      cases b with
      | len =>
        simp only [op, ho] at h ⊢
        (repeat' split at h) <;> ((try simp only [*, reduceIte, true_and]); first
      | exact h.elim
      | exact ⟨_, _, h, fun _ h' => h'⟩
      | exact ⟨_, _, h.2, fun _ h' => h'⟩
      | exact ⟨_, _, h.2.2, fun _ h' => h'⟩
      | exact ⟨_, _, h.2.2.2, fun _ h' => h'⟩
      | exact ⟨_, _, h.2.2.2.2, fun _ h' => h'⟩
      | exact ⟨_, _, h.2, fun _ h' => ⟨h.1, h'⟩⟩
      | exact ⟨_, _, h.2.2, fun _ h' => ⟨h.1, h.2.1, h'⟩⟩
      | exact ⟨_, _, h.2.2.2, fun _ h' => ⟨h.1, h.2.1, h.2.2.1, h'⟩⟩
      | exact ⟨_, _, h.2.2.2.2, fun _ h' => ⟨h.1, h.2.1, h.2.2.1, h.2.2.2.1, h'⟩⟩
      | (obtain ⟨x1, x2, x3⟩ := partK_det h; exact ⟨_, _, x2, fun _ h' => x3 _ h'⟩)
      | (obtain ⟨x1, x2, x3⟩ := fillK_det h; exact ⟨_, _, x2, fun _ h' => x3 _ h'⟩)
      | (obtain ⟨x1, x2, x3⟩ := binT_det h; exact ⟨_, _, x2, fun _ h' => x3 _ h'⟩)
      | (obtain ⟨x1, x4, x2, x3⟩ := cutK_det h; exact ⟨_, _, x2, fun _ h' => x3 _ h'⟩)
      | (obtain ⟨x1, x4, x2, x3⟩ := callK_det h; exact ⟨_, _, x2, fun _ h' => x3 _ h'⟩)
      | (obtain ⟨x1, x2, x3⟩ := h; subst x1; exact ⟨_, _, x3, fun _ h' => h'⟩)
      | skip)
      | append =>
        simp only [op, ho] at h ⊢
        (repeat' split at h) <;> ((try simp only [*, reduceIte, true_and]); first
      | exact h.elim
      | exact ⟨_, _, h, fun _ h' => h'⟩
      | exact ⟨_, _, h.2, fun _ h' => h'⟩
      | exact ⟨_, _, h.2.2, fun _ h' => h'⟩
      | exact ⟨_, _, h.2.2.2, fun _ h' => h'⟩
      | exact ⟨_, _, h.2.2.2.2, fun _ h' => h'⟩
      | exact ⟨_, _, h.2, fun _ h' => ⟨h.1, h'⟩⟩
      | exact ⟨_, _, h.2.2, fun _ h' => ⟨h.1, h.2.1, h'⟩⟩
      | exact ⟨_, _, h.2.2.2, fun _ h' => ⟨h.1, h.2.1, h.2.2.1, h'⟩⟩
      | exact ⟨_, _, h.2.2.2.2, fun _ h' => ⟨h.1, h.2.1, h.2.2.1, h.2.2.2.1, h'⟩⟩
      | (obtain ⟨x1, x2, x3⟩ := partK_det h; exact ⟨_, _, x2, fun _ h' => x3 _ h'⟩)
      | (obtain ⟨x1, x2, x3⟩ := fillK_det h; exact ⟨_, _, x2, fun _ h' => x3 _ h'⟩)
      | (obtain ⟨x1, x2, x3⟩ := binT_det h; exact ⟨_, _, x2, fun _ h' => x3 _ h'⟩)
      | (obtain ⟨x1, x4, x2, x3⟩ := cutK_det h; exact ⟨_, _, x2, fun _ h' => x3 _ h'⟩)
      | (obtain ⟨x1, x4, x2, x3⟩ := callK_det h; exact ⟨_, _, x2, fun _ h' => x3 _ h'⟩)
      | (obtain ⟨x1, x2, x3⟩ := h; subst x1; exact ⟨_, _, x3, fun _ h' => h'⟩)
      | skip)
      | _ => simp only [op, ho] at h
  | _ => simp only [op, ho] at h
end Go.Proofs.Ytbmdncjnnlajnaa.M
