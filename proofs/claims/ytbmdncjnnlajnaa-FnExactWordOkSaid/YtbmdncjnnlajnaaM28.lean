/- A machine of values: an operation's outcome is one; it hangs on what the operation looks at alone. No condition. -/
import Derived.Test.YtbmdncjnnlajnaaM27
namespace Go.Proofs.Ytbmdncjnnlajnaa.M
open Go
set_option linter.unusedSimpArgs false
set_option linter.unusedVariables false
set_option linter.unusedSectionVars false

theorem partK_det {d : TD} {cs : List C} {off : Nat} {K : A → Prop} (h : partK d cs off K) : ∃ a, K a ∧ ∀ K' : A → Prop, K' a → partK d cs off K' := by
  unfold partK at h
  split at h
  · rename_i hd
    exact ⟨_, h.2, fun K' h' => by unfold partK; rw [if_pos hd]; exact ⟨h.1, h'⟩⟩
  · rename_i hd
    split at h
    · rename_i c hc
      exact ⟨_, h, fun K' h' => by unfold partK; rw [if_neg hd, hc]; exact h'⟩
    · exact h.elim
theorem sealK_det {a : A} {K : T → Prop} (h : sealK a K) : ∃ x, K x ∧ ∀ K' : T → Prop, K' x → sealK a K' := by
  unfold sealK at h
  split at h
  · rename_i x hx
    exact ⟨x, h, fun K' h' => by unfold sealK; rw [hx]; exact h'⟩
  · exact h.elim
theorem cutK_det {lo hi : Option AV} {len : Nat} {K : Nat → Nat → Prop} (h : cutK lo hi len K) : ∃ a b, K a b ∧ ∀ K' : Nat → Nat → Prop, K' a b → cutK lo hi len K' := by
  unfold cutK at h
  split at h
  · rename_i x y h1 h2
    exact ⟨_, _, h.2.2.2, fun K' h' => by unfold cutK; rw [h1, h2]; exact ⟨h.1, h.2.1, h.2.2.1, h'⟩⟩
  · exact h.elim
theorem fillK_det {τ : Tab} {s : St} {d : TD} {K : List C → Prop} : ∀ {l : List (Nat × Operand)} {cs : List C}, fillK τ s d l cs K → ∃ x, K x ∧ ∀ K' : List C → Prop, K' x → fillK τ s d l cs K'
  | [], cs, h => ⟨cs, h, fun _ h => h⟩
  | (i, x) :: r, cs, h => by
    simp only [fillK] at h
    split at h
    · rename_i off ft hp
      split at h
      · rename_i a ha
        split at h
        · rename_i hc
          obtain ⟨y, h1, h2⟩ := fillK_det h
          exact ⟨y, h1, fun K' h' => by simp only [fillK, hp, ha, if_pos hc]; exact h2 K' h'⟩
        · exact h.elim
      · exact h.elim
    · exact h.elim
theorem litK_det {τ : Tab} {s : St} {e : Nat} {K : List T → Prop} : ∀ {l : List (Nat × Operand)} {es : List T}, litK τ s e l es K → ∃ x, K x ∧ ∀ K' : List T → Prop, K' x → litK τ s e l es K'
  | [], es, h => ⟨es, h, fun _ h => h⟩
  | (i, x) :: r, es, h => by
    simp only [litK] at h
    split at h
    · rename_i a ha
      split at h
      · rename_i hc
        obtain ⟨y, h1, h2⟩ := sealK_det h
        obtain ⟨z, h3, h4⟩ := litK_det h1
        exact ⟨z, h3, fun K' h' => by simp only [litK, ha, if_pos hc]; exact h2 _ (h4 K' h')⟩
      · exact h.elim
    · exact h.elim
theorem binT_det {o : BinOp} {x y : T} {K : T → Prop} (h : binT o x y K) : ∃ r, K r ∧ ∀ K' : T → Prop, K' r → binT o x y K' := by
  cases x <;> cases y <;> simp only [binT] at h ⊢ <;> cases o <;> simp only at h ⊢ <;>
    first
    | exact h.elim
    | exact ⟨_, h, fun _ h => h⟩
    | exact h.2.elim
    | exact ⟨_, h.2, fun _ h' => ⟨h.1, h'⟩⟩
    | exact ⟨_, h.2.2, fun _ h' => ⟨h.1, h.2.1, h'⟩⟩
theorem bcK_det {hp : List (Nat × Blk)} {c : C} {K : BC → Prop} (h : bcK hp c K) : ∃ x, K x ∧ ∀ K' : BC → Prop, K' x → bcK hp c K' := by
  unfold bcK at h ⊢
  split at h
  · exact ⟨_, h, fun _ h => h⟩
  · exact ⟨_, h, fun _ h => h⟩
  · split at h
    · rename_i hf
      split at h
      · rename_i hv
        exact ⟨_, h.2.2, fun K' h' => by simp only [hf, if_pos hv]; exact ⟨h.1, h.2.1, h'⟩⟩
      · exact h.elim
    · exact h.elim
  · exact h.elim
theorem bcsK_det {hp : List (Nat × Blk)} {K : List BC → Prop} : ∀ {l : List C}, bcsK hp l K → ∃ x, K x ∧ ∀ K' : List BC → Prop, K' x → bcsK hp l K'
  | [], h => ⟨_, h, fun _ h => h⟩
  | c :: r, h => by
    simp only [bcsK] at h ⊢
    obtain ⟨x, h1, h2⟩ := bcK_det h
    obtain ⟨y, h3, h4⟩ := bcsK_det h1
    exact ⟨_, h3, fun K' h' => h2 _ (h4 _ h')⟩
theorem argK_det {hp : List (Nat × Blk)} {x : AV} {K : AA → List Nat → Prop} (h : argK hp x K) : ∃ a i, K a i ∧ ∀ K' : AA → List Nat → Prop, K' a i → argK hp x K' := by
  unfold argK at h ⊢
  split at h
  · split at h
    · rename_i hf
      obtain ⟨y, h1, h2⟩ := bcsK_det h
      exact ⟨_, _, h1, fun K' h' => h2 _ h'⟩
    · exact h.elim
  · exact ⟨_, _, h, fun _ h => h⟩
  · split at h
    · rename_i hr
      exact ⟨_, _, h, fun K' h' => h'⟩
    · exact h.elim
  · exact h.elim
theorem argsK_det {hp : List (Nat × Blk)} {K : List AA → List Nat → Prop} : ∀ {l : List AV}, argsK hp l K → ∃ a i, K a i ∧ ∀ K' : List AA → List Nat → Prop, K' a i → argsK hp l K'
  | [], h => ⟨_, _, h, fun _ h => h⟩
  | c :: r, h => by
    simp only [argsK] at h ⊢
    obtain ⟨x, i, h1, h2⟩ := argK_det h
    obtain ⟨y, j, h3, h4⟩ := argsK_det h1
    exact ⟨_, _, h3, fun K' h' => h2 _ (h4 _ h')⟩
theorem callK_det {P : Program} {md : Nat → Bool} {f : FuncId} {hp : List (Nat × Blk)} {n : Nat} {xs : List AV} {K : AV → List (Nat × Blk) → Prop} (h : callK P md f hp n xs K) :
    ∃ v u, K v u ∧ ∀ K' : AV → List (Nat × Blk) → Prop, K' v u → callK P md f hp n xs K' := by
  unfold callK at h ⊢
  obtain ⟨as, is, h1, h2⟩ := argsK_det h
  split at h1
  · rename_i hc
    obtain ⟨rs, os, h3, h4⟩ := h1
    dsimp only at h4
    split at h4
    · rename_i hu
      exact ⟨_, _, h4, fun K' h' => h2 _ (by dsimp only; rw [if_pos hc]; exact ⟨rs, os, h3, by rw [if_pos hu]; exact h'⟩)⟩
    · exact h4.elim
  · exact h1.elim
end Go.Proofs.Ytbmdncjnnlajnaa.M
