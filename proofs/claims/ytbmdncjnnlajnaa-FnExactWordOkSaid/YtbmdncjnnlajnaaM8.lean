/- A machine of values: each operation does on the machine what is told of it, part 4: sums, cuts, boxes, strings. No condition. -/
import Derived.Test.YtbmdncjnnlajnaaM7
namespace Go.Proofs.Ytbmdncjnnlajnaa.M
open Go
set_option linter.unusedSimpArgs false
set_option linter.unusedVariables false
set_option linter.unusedSectionVars false

section
variable {P : Program} {τ : Tab} {Γ : Ctx} {al : Nat → Prop} {s : St} {a : Act} {w : World} {μ : Nat → Option Pl} {n : Nat} {K : AV → List (Nat × Blk) → Prop} {next : Act → World → Prop}
variable {o : Oper} {Q : Exit → Act → World → Prop} {md : Nat → Bool} {hp : List (Nat × Blk)} {S : Addr → Option Value}

/-- A plain cell as a value. -/
def tv : T → Value
  | .int k n => .int k n
  | .bool b => .bool b
  | .str s => .string s
  | _ => undef
theorem binT_ok (w : World) {op : BinOp} {t : TypeId} {x y : T} {K : T → Prop} (h : binT op x y K) (hb : ∀ b, x = .bool b → P.underlying t = some .bool) :
    ∃ r, K r ∧ (Go.binOp op t (tv x) (tv y)).run P w = .ok (tv r) w ∧ Hold S r (tv r) ∧ (tv r).oneCell' = true ∧ r.scal = true := by
  unfold binT at h
  split at h
  · rename_i k m k' m'
    split at h
    · obtain ⟨h1, h2⟩ := h
      have : ¬ m' < 0 := by omega
      exact ⟨_, h2, by simp [tv, Go.binOp, Op.shift, this], .int _ _, rfl, rfl⟩
    · obtain ⟨h1, h2⟩ := h
      have : ¬ m' < 0 := by omega
      exact ⟨_, h2, by simp [tv, Go.binOp, Op.shift, this], .int _ _, rfl, rfl⟩
    · obtain ⟨rfl, h⟩ := h
      split at h
      case h_4 => obtain ⟨h1, h2⟩ := h; exact ⟨_, h2, by simp [tv, Go.binOp, Op.intDiv, h1], .int _ _, rfl, rfl⟩
      case h_5 => obtain ⟨h1, h2⟩ := h; exact ⟨_, h2, by simp [tv, Go.binOp, Op.intDiv, h1], .int _ _, rfl, rfl⟩
      all_goals first
        | exact h.elim
        | (refine ⟨_, h, ?_, .int _ _, rfl, rfl⟩; first | (simp [tv, Go.binOp, Op.intArith]; done) | (simp only [tv, Go.binOp]; rw [if_neg (by simp)]; rfl))
        | (refine ⟨_, h, ?_, .bool _, rfl, rfl⟩; simp [tv, Go.binOp, Op.intCmp]; done)
  · rename_i b b'
    split at h
    · obtain ⟨h1, h2⟩ := h
      have h3 : ((b.size : Int) + (b'.size : Int)) ≤ 9223372036854775807 := by omega
      exact ⟨_, h2, by simp [tv, Go.binOp, Op.stringOp, h3], .str _, rfl, rfl⟩
    all_goals first
      | exact h.elim
      | exact ⟨_, h, by simp [tv, Go.binOp, Op.stringOp], .bool _, rfl, rfl⟩
  · rename_i b b'
    have hu := hb b rfl
    have he' : ∀ d, (Op.equalIn (d + 1) t (.bool b) (.bool b')).run P w = .ok (b == b') w := fun d => by simp [Op.equalIn, run_underlying hu]
    have he : (Op.equal t (.bool b) (.bool b')).run P w = .ok (b == b') w := he' 9999
    split at h
    · exact ⟨_, h, by simp [tv, Go.binOp, he], .bool _, rfl, rfl⟩
    · exact ⟨_, h, by simp [tv, Go.binOp, he], .bool _, rfl, rfl⟩
    · exact h.elim
  · exact h.elim

theorem binT_shape {op : BinOp} {x y : T} {K : T → Prop} (h : binT op x y K) : x.scal = true ∧ y.scal = true := by
  unfold binT at h
  split at h <;> first | exact ⟨rfl, rfl⟩ | exact h.elim
theorem tv_of {x : T} {v : Value} (h : Hold S x v) (hx : x.scal = true) : v = tv x := by
  cases h <;> first | rfl | (simp [T.scal] at hx)

theorem op_binOp (hτ : TOk P τ) (R : Rel Γ al s a w μ) {b : BinOp} {t yt : TypeId} {x y : Operand} (ho : o.op = .binOp b t x y yt) (h : op P τ md o s n K) (N : Nxt Γ al s a w μ n o.dst K next) : o.wp P a w next Q := by
  have hx := eval_ok (τ := τ) R t x
  have hy := eval_ok (τ := τ) R yt y
  simp only [op, ho] at h
  have key : ∀ p q, s.eval τ t x = .a (.c (.t p)) → s.eval τ yt y = .a (.c (.t q)) → (∀ b, p = .bool b → P.underlying t = some .bool) → (binT b p q fun r => K (.t r) []) → o.wp P a w next Q := fun p q e1 e2 hb h => by
    rw [e1] at hx
    rw [e2] at hy
    obtain ⟨s1, s2⟩ := binT_shape h
    obtain ⟨r, hK, hr, hH, h1, _⟩ := binT_ok (P := P) (S := Sv Γ.G s.hp μ w) w h hb
    have ex := tv_of hx.1 s1
    have ey := tv_of hy.1 s2
    refine wp_val (val := tv r) ?_ (N.quiet R hK ⟨hH, h1⟩)
    have hg : (eqGuard b t x y (tv p) (tv q)).run P w = .ok () w := by
      clear h hr
      cases p <;> first | (simp [T.scal] at s1; done) | skip
      all_goals cases q <;> first | (simp [T.scal] at s2; done) | skip
      all_goals cases b <;> simp [eqGuard, tv]
    simp [execOp, ho, ex, ey, hg, hr]
  split at h
  · rename_i p q e1 e2
    split at h
    · rename_i hk
      have hk' := (hτ t _ (find_of_k (by rw [hk]; simp))).k
      simp only [kOk, hk] at hk'
      exact key _ _ e1 e2 (fun _ _ => hk') h
    · exact h.elim
  · rename_i p q hno e1 e2
    refine key _ _ e1 e2 (fun b hb => ?_) h
    subst hb
    have := (binT_shape h).2
    cases q <;> first | (simp [T.scal] at this; done) | (unfold binT at h; simp at h; done) | exact (hno _ _ rfl rfl).elim
  · exact h.elim
end
end Go.Proofs.Ytbmdncjnnlajnaa.M
