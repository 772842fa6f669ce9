/- A machine of values: each operation does on the machine what is told of it, part 13: calls, the memory behind. No condition. -/
import Derived.Test.YtbmdncjnnlajnaaM16
namespace Go.Proofs.Ytbmdncjnnlajnaa.M
open Go
set_option linter.unusedSimpArgs false
set_option linter.unusedVariables false
set_option linter.unusedSectionVars false

section
variable {P : Program} {τ : Tab} {Γ : Ctx} {al al' : Nat → Prop} {s : St} {a : Act} {w w' : World} {μ : Nat → Option Pl} {n : Nat} {K : AV → List (Nat × Blk) → Prop} {next : Act → World → Prop}
variable {o : Oper} {Q : Exit → Act → World → Prop} {md : Nat → Bool} {hp : List (Nat × Blk)} {S S0 S' : Addr → Option Value}

theorem HoldL.scal {ts : List T} {vs : List Value} (h : HoldL S ts vs) (hs : ∀ t ∈ ts, t.scal = true) : HoldL S' ts vs :=
  ⟨h.1, h.2.1, fun j t v a b => (h.2.2 j t v a b).scal (hs t (List.mem_of_getElem? a))⟩
theorem EOk.blk {e : E} (h : EOk S w e) {al' : Nat → Prop} {hp' : List (Nat × Blk)} {μ' : Nat → Option Pl} : BlkOk al' hp' S' μ' w e.2.1 e.2.2 := by
  obtain ⟨i, b, p⟩ := e
  cases b with
  | arr sz es v =>
    cases p with
    | none => exact h
    | some p =>
      obtain ⟨hsc, vs, h1, h2, h3, h4, h5⟩ := h
      exact ⟨vs, h1.scal hsc, h2, h3, h4, h5⟩
  | froz sz es v =>
    cases p with
    | none => exact h
    | some p => exact h.elim
  | box cs => cases p <;> exact h.elim

theorem Ids.box {i : Nat} {cs cs' : List C} (h : find hp i = some (.box cs)) : Ids hp μ [(i, .box cs', μ i)] [i] n 0 :=
  ⟨fun e he => .inl (by rw [List.mem_singleton.1 he]; simp), fun _ _ => by simp, fun j hj => ⟨_, List.mem_singleton.2 rfl, (List.mem_singleton.1 hj).symm⟩, fun e he _ => by
    obtain rfl := List.mem_singleton.1 he
    exact .inl ⟨cs, cs', rfl, h, rfl⟩⟩

theorem outsK_plain {own : Bool} {x : AV} {xs : List AV} {os : List (List BC)} (hne : ∀ i o, x ≠ .a (.c (.ptr i o))) : outsK own hp n (x :: xs) os = outsK own hp n xs os := by
  cases x with
  | tup ys => cases os <;> rfl
  | a y =>
    cases y with
    | g cs => cases os <;> rfl
    | c c =>
      cases c with
      | ptr i o => exact absurd rfl (hne i o)
      | _ => cases os <;> rfl
theorem outsK_ok {own : Bool} (M : Mem Γ al hp w μ) : ∀ {xs : List AV} {ys : List AA} {vs : List Value} {os : List (List BC)} {is r : List Nat} (n k : Nat), Gaves hp xs ys is → OutsOk S w' ys vs os r →
    (∀ (j : Nat) x v, xs[j]? = some x → vs[j]? = some v → AVOk al hp (Sv Γ.G hp μ w) μ x v) → vs.length = xs.length → (∀ i ∈ is, ¬ (n ≤ i ∧ i < n + k)) → (outsK own hp n xs os).length ≤ k →
    ∃ (L : List E) (m : Nat), L.map (fun e => (e.1, e.2.1)) = outsK own hp n xs os ∧ L.filterMap E.blk = r ∧ Ids hp μ L is n m ∧ m ≤ L.length ∧
      ∀ al' hp' S' μ', Fits al' hp' μ' L → (own = false → ∀ a v, S a = some v → S' a = some v) → ∀ e ∈ L, BlkOk al' hp' S' μ' w' e.2.1 e.2.2
  | [], [], vs, os, is, r, n, k, hg, ho, _, _, _, _ => by
    obtain rfl := hg
    obtain ⟨rfl, rfl⟩ := ho
    exact ⟨[], 0, rfl, rfl, Ids.nil, Nat.le_refl _, by simp⟩
  | x :: xs, [], vs, os, is, r, n, k, hg, ho, _, _, _, _ => hg.elim
  | [], y :: ys, vs, os, is, r, n, k, hg, ho, _, _, _, _ => hg.elim
  | x :: xs, y :: ys, [], os, is, r, n, k, hg, ho, hx, hl, hno, _ => by simp at hl
  | x :: xs, y :: ys, v :: vs, os, is, r, n, k, hg, ho, hx, hl, hno, hk => by
    obtain ⟨i1, i2, rfl, g1, g2⟩ := hg
    have hx' := fun (j : Nat) x v (p : xs[j]? = some x) (q : vs[j]? = some v) => hx (j + 1) x v (by simpa using p) (by simpa using q)
    have hl' : vs.length = xs.length := by simpa using hl
    have plain : (∀ i o, x ≠ .a (.c (.ptr i o))) → i1 = [] → OutsOk S w' ys vs os r → ∃ (L : List E) (m : Nat), L.map (fun e => (e.1, e.2.1)) = outsK own hp n (x :: xs) os ∧ L.filterMap E.blk = r ∧ Ids hp μ L (i1 ++ i2) n m ∧ m ≤ L.length ∧
        ∀ al' hp' S' μ', Fits al' hp' μ' L → (own = false → ∀ a v, S a = some v → S' a = some v) → ∀ e ∈ L, BlkOk al' hp' S' μ' w' e.2.1 e.2.2 := fun hne h0 ho' => by
      subst h0
      have hK := outsK_plain (own := own) (hp := hp) (n := n) (xs := xs) (os := os) hne
      rw [hK] at hk ⊢
      exact outsK_ok M n k g2 ho' hx' hl' hno hk
    cases y with
    | mb bcs =>
      obtain ⟨i, cs, rfl, hb, hbl, rfl, hbc⟩ := g1
      obtain ⟨o1, os', b, r1, r2, rfl, hol, rfl, hv, hbox, ho'⟩ := ho
      obtain ⟨p, hp1, hp2⟩ := (hx 0 _ _ rfl rfl).2.2 _ hb
      rw [hv] at hp2
      simp only [Value.pointer.injEq, Option.some.injEq, Addr.mk.injEq, and_true] at hp2
      subst hp2
      obtain ⟨ws, hC, hc⟩ := hbox
      have hK : outsK own hp n (.a (.c (.ptr i 0)) :: xs) (o1 :: os') = (i, .box (outCs own n cs o1).1) :: (outCs own n cs o1).2 ++ outsK own hp (n + (outCs own n cs o1).2.length) xs os' := by simp [outsK, hb]
      rw [hK] at hk ⊢
      simp only [List.cons_append, List.length_cons, List.length_append] at hk
      obtain ⟨L1, a1, a2, a3, a4, a5, a6⟩ := outCs_ok (own := own) (μ := μ) n k hbc (by rw [hol, hbl]) hC (fun j hj => hno j (by simp [hj])) (by omega)
      have hlen : (outCs own n cs o1).2.length = L1.length := by rw [← a1]; simp
      rw [hlen] at hk ⊢
      obtain ⟨L2, m2, b1, b2, b3, b4, b5⟩ := outsK_ok (own := own) M (n + L1.length) (k - L1.length) g2 ho' hx' hl' (fun j hj hh => hno j (by simp [hj]) ⟨by omega, by omega⟩) (by omega)
      have hl2 : (outsK own hp (n + L1.length) xs os').length = L2.length := by rw [← b1]; simp
      have hB := M.blk _ _ hb
      rw [hp1] at hB
      have hids1 : Ids hp μ ((i, .box (outCs own n cs o1).1, μ i) :: L1) (i :: cs.flatMap ownsC) n L1.length := by
        have := Ids.app (m1 := 0) (m2 := L1.length) (Ids.box (μ := μ) (n := n) (cs' := (outCs own n cs o1).1) hb) a4 (fun j hj hh => hno j (by simp at hj ⊢; rcases hj with hj | hj; (· exact .inl hj); (· exact .inr (.inl hj))) ⟨by omega, by omega⟩)
        simpa using this
      refine ⟨((i, .box (outCs own n cs o1).1, μ i) :: L1) ++ L2, L1.length + m2, by simp [a1, b1], ?_, Ids.app hids1 b3 (fun j hj hh => hno j hj ⟨by omega, by omega⟩), by simp; omega, fun al' hp' S' μ' hf hS e he => ?_⟩
      · rw [List.filterMap_append, List.filterMap_cons, a2, b2]
        simp [E.blk, Blk.live, hp1]
      · obtain ⟨f1, f2⟩ := hf.app
        have f3 : Fits al' hp' μ' L1 := fun e he => f1 e (by simp [he])
        rcases List.mem_append.1 he with he | he
        · rcases List.mem_cons.1 he with rfl | he
          · show BlkOk al' hp' S' μ' w' (.box (outCs own n cs o1).1) (μ i)
            rw [hp1]
            exact ⟨hB.1, ws, a6 al' hp' S' μ' f3 hS, hc⟩
          · exact (a3 e he).blk
        · exact b5 al' hp' S' μ' f2 hS e he
    | v y => exact plain g1.1 g1.2 ho
    | nilp => exact plain g1.1 g1.2 ho
end
end Go.Proofs.Ytbmdncjnnlajnaa.M
