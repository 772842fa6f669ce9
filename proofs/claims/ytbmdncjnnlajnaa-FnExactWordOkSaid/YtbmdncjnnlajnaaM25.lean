/- A machine of values: a table of types, checked. No condition. -/
import Derived.Test.YtbmdncjnnlajnaaM24
namespace Go.Proofs.Ytbmdncjnnlajnaa.M
open Go
set_option linter.unusedSimpArgs false
set_option linter.unusedVariables false

def zB : C → Value → Bool
  | .t (.int .i64 n), .int .i64 n' => decide (n = n')
  | .t (.int .u8 n), .int .u8 n' => decide (n = n')
  | .t (.int .i32 n), .int .i32 n' => decide (n = n')
  | .t (.int .u32 n), .int .u32 n' => decide (n = n')
  | .t (.int .u64 n), .int .u64 n' => decide (n = n')
  | .t (.int .u16 n), .int .u16 n' => decide (n = n')
  | .t (.bool b), .bool b' => b == b'
  | .t (.str s), .string s' => s.size == 0 && s'.size == 0
  | .nil _, .slice none 0 0 => true
  | .nilp, .pointer none => true
  | _, _ => false
theorem size0 {s : ByteArray} (h : s.size = 0) : s = ⟨#[]⟩ := by
  cases s with | mk d => congr; exact Array.eq_empty_of_size_eq_zero h
theorem zB_ok {c : C} {v : Value} (h : zB c v = true) : zOk c v := by
  unfold zB at h
  split at h <;> first | (simp at h; done) | skip
  all_goals first
    | (simp only [decide_eq_true_eq] at h; subst h; exact ⟨rfl, rfl⟩)
    | (simp only [beq_iff_eq] at h; subst h; rfl)
    | (simp only [Bool.and_eq_true, beq_iff_eq] at h; rw [size0 h.1, size0 h.2]; rfl)
    | trivial
def zsB : List C → List Value → Bool
  | [], [] => true
  | c :: cs, v :: vs => zB c v && v.oneCell' && zsB cs vs
  | _, _ => false
theorem zsB_ok : ∀ {cs : List C} {vs : List Value}, zsB cs vs = true → vs.length = cs.length ∧ (∀ v ∈ vs, v.oneCell' = true) ∧ ∀ (j : Nat) c v, cs[j]? = some c → vs[j]? = some v → zOk c v
  | [], [], _ => ⟨rfl, by simp, by simp⟩
  | c :: cs, v :: vs, h => by
    simp only [zsB, Bool.and_eq_true] at h
    obtain ⟨h1, h2, h3⟩ := zsB_ok h.2
    refine ⟨by simp [h1], fun x hx => ?_, fun j c' v' hc hv => ?_⟩
    · rcases List.mem_cons.1 hx with rfl | hx
      · exact h.1.2
      · exact h2 x hx
    · cases j with
      | zero => cases hc; cases hv; exact zB_ok h.1.1
      | succ j => exact h3 j c' v' hc hv
  | [], _ :: _, h => by simp [zsB] at h
  | _ :: _, [], h => by simp [zsB] at h
def fsB : List Field → List (Nat × Nat) → Bool
  | [], [] => true
  | f :: F, x :: X => f.offset == x.1 && f.type == x.2 && fsB F X
  | _, _ => false
theorem fsB_ok : ∀ {F : List Field} {X : List (Nat × Nat)}, fsB F X = true → F.map (fun f => (f.offset, f.type)) = X
  | [], [], _ => rfl
  | f :: F, x :: X, h => by
    simp only [fsB, Bool.and_eq_true, beq_iff_eq] at h
    simp only [List.map_cons, fsB_ok h.2, h.1.1, h.1.2]
  | [], _ :: _, h => by simp [fsB] at h
  | _ :: _, [], h => by simp [fsB] at h
def kB (P : Program) (τ : Tab) (t : Nat) (d : TD) : Bool :=
  match d.k, P.underlying t with
  | .int .i64, some (.int .i64) => true
  | .int .u8, some (.int .u8) => true
  | .int .i32, some (.int .i32) => true
  | .int .u32, some (.int .u32) => true
  | .int .u64, some (.int .u64) => true
  | .int .u16, some (.int .u16) => true
  | .bool, some .bool => true
  | .str, some .string => true
  | .slice e, some (.slice e') => e == e' && (find τ e).isSome
  | .array n e, some (.array n' e') => n == n' && e == e' && (find τ e).isSome
  | .struct fs, some (.struct F) => fsB F.toList fs && fs.all fun f => (find τ f.2).isSome
  | .ptr e, some (.pointer e') => e == e'
  | .other, some (.func ..) => true
  | .other, some (.interface ..) => true
  | .other, some (.map ..) => true
  | .other, some (.tuple ..) => true
  | _, _ => false
theorem kB_ok {P : Program} {τ : Tab} {t : Nat} {d : TD} (h : kB P τ t d = true) : kOk P τ t d := by
  unfold kB at h
  unfold kOk
  split at h <;> first | (simp at h; done) | skip
  all_goals (rename_i h1 h2; rw [h1]; dsimp only)
  case h_9 => simp only [Bool.and_eq_true, beq_iff_eq] at h; exact ⟨by rw [h2, h.1], h.2⟩
  case h_10 => simp only [Bool.and_eq_true, beq_iff_eq] at h; exact ⟨by rw [h2, h.1.1, h.1.2], h.2⟩
  case h_11 => simp only [Bool.and_eq_true] at h; exact ⟨⟨_, h2, fsB_ok h.1⟩, fun f hf => List.all_eq_true.1 h.2 f hf⟩
  case h_12 => simp only [beq_iff_eq] at h; rw [h2, h]
  all_goals first | exact h2 | exact ⟨_, h2, trivial⟩
def tdB (P : Program) (τ : Tab) (t : Nat) (d : TD) : Bool :=
  (match P.info? t with
  | some i => i.size == d.sz && i.bytes == d.bytes && (match i.zero with | some z => z.cells.size == d.sz && zsB d.z z.cells.toList | none => false)
  | none => false) && kB P τ t d
theorem tdB_ok {P : Program} {τ : Tab} {t : Nat} {d : TD} (h : tdB P τ t d = true) : TDok P τ t d := by
  simp only [tdB, Bool.and_eq_true] at h
  obtain ⟨h, hk⟩ := h
  refine ⟨?_, kB_ok hk⟩
  split at h
  · rename_i i hi
    simp only [Bool.and_eq_true, beq_iff_eq] at h
    obtain ⟨h1, h2⟩ := h
    split at h2
    · rename_i z hz
      simp only [Bool.and_eq_true, beq_iff_eq] at h2
      obtain ⟨h3, h4, h5⟩ := zsB_ok h2.2
      exact ⟨i, z, hi, h1.1, h1.2, hz, h2.1, by rw [← h3, ← h2.1]; simp, h4, h5⟩
    · cases h2
  · cases h
def tabB (P : Program) (τ : Tab) : Bool := τ.all fun x => tdB P τ x.1 x.2
theorem tabB_ok {P : Program} {τ : Tab} (h : tabB P τ = true) : TOk P τ := by
  have key : ∀ (l : Tab), (∀ x ∈ l, tdB P τ x.1 x.2 = true) → ∀ t d, find l t = some d → TDok P τ t d := fun l => by
    induction l with
    | nil => intro _ t d h; cases h
    | cons x r ih =>
      intro hl t d h
      obtain ⟨k, v⟩ := x
      simp only [find] at h
      split at h
      · rename_i hk
        obtain rfl := Option.some.inj h
        simp only [beq_iff_eq] at hk; subst hk
        exact tdB_ok (hl (k, v) (by simp))
      · exact ih (fun x hx => hl x (by simp [hx])) t d h
  exact key τ fun x hx => List.all_eq_true.1 h x hx

end Go.Proofs.Ytbmdncjnnlajnaa.M
