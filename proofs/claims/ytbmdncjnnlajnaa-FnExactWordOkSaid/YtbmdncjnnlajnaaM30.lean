/- A machine of values: an operation hangs on what it looks at alone. No condition. Made by gen30.py. -/
import Derived.Test.YtbmdncjnnlajnaaM29
namespace Go.Proofs.Ytbmdncjnnlajnaa.M
open Go
set_option linter.unusedSimpArgs false
set_option linter.unusedVariables false
set_option linter.unusedSectionVars false

def idC : C → List Nat
  | .own i _ _ _ => [i]
  | .ptr i _ => [i]
  | .eptr i _ _ _ => [i]
  | _ => []
def idA (x : A) : List Nat := x.cells.flatMap idC
def idV : AV → List Nat
  | .a x => idA x
  | .tup xs => xs.flatMap idA
/-- What a callee may reach. -/
def deepC (hp : List (Nat × Blk)) : C → List Nat
  | .ptr i _ => i :: (match find hp i with | some (.box cs) => cs.flatMap idC | _ => [])
  | c => idC c
def deepV (hp : List (Nat × Blk)) : AV → List Nat
  | .a x => x.cells.flatMap (deepC hp)
  | .tup _ => []
def opers : Op → List Operand
  | .move x | .assign x | .nilCheck x => [x]
  | .pick c a b => [c, a, b]
  | .box _ x | .load _ x | .unOp _ _ x | .convert _ _ x | .fieldAddr _ x _ | .field _ x _ | .extract x _ => [x]
  | .store _ x y | .binOp _ _ x y _ | .indexAddr _ x y | .index _ x y | .makeSlice _ x y => [x, y]
  | .build _ ps | .buildSlice _ _ ps => ps.toList.map (·.2)
  | .slice _ x lo hi _ => x :: (lo.toList ++ hi.toList)
  | .call ⟨f, xs, _⟩ => (match f with | .value f => [f] | _ => []) ++ xs.toList
  | _ => []
def tmpO : Operand → List Nat
  | .tmp i => [i]
  | _ => []
def looks (ops : Array Oper) (o : Oper) : List Nat :=
  (match o.guard with | some (j, _) => (match ops[j]? with | some x => x.dst.toList | none => []) | none => []) ++ (opers o.op).flatMap tmpO
def rdO.tmpV (s : St) : Operand → AV
  | .tmp i => s.get i
  | _ => .a (.c .undef)
def rdO (s : St) (o : Oper) : List Nat :=
  match o.op with
  | .call ⟨.value _, xs, ts⟩ => xs.toList.flatMap fun x => deepV s.hp (rdO.tmpV s x)
  | p => (opers p).flatMap fun x => idV (rdO.tmpV s x)
structure Agree (ops : Array Oper) (o : Oper) (s s' : St) : Prop where
  tm : ∀ t ∈ looks ops o, s'.get t = s.get t
  hp : ∀ i ∈ rdO s o, find s'.hp i = find s.hp i

theorem idEval {τ : Tab} {s : St} {t : Nat} {x : Operand} {i : Nat} (h : i ∈ idV (s.eval τ t x)) : i ∈ idV (rdO.tmpV s x) := by
  cases x with
  | tmp j => exact h
  | const v =>
    exfalso
    simp only [St.eval, ofValue] at h
    split at h <;> simp [idV, idA, A.cells, idC] at h
  | func f => simp [St.eval, idV, idA, A.cells, idC] at h
  | global g => simp [St.eval, idV, idA, A.cells, idC] at h
def idEq (hp hp' : List (Nat × Blk)) : C → Prop
  | .own i _ _ _ => find hp' i = find hp i ∧ ∀ v, arrOf hp' i v = arrOf hp i v
  | .ptr i _ => find hp' i = find hp i
  | .eptr i _ _ _ => find hp' i = find hp i ∧ ∀ v, arrOf hp' i v = arrOf hp i v
  | _ => True
theorem arrOf_eq {hp hp' : List (Nat × Blk)} {i : Nat} (h : find hp' i = find hp i) (v : Nat) : arrOf hp' i v = arrOf hp i v := by simp [arrOf, h]
theorem idEq_of {hp hp' : List (Nat × Blk)} {c : C} (h : ∀ i ∈ idC c, find hp' i = find hp i) : idEq hp hp' c := by
  cases c <;> simp only [idEq, idC] at h ⊢ <;> first | trivial | exact ⟨h _ (by simp), arrOf_eq (h _ (by simp))⟩ | exact h _ (by simp)
theorem listOf_eq {hp hp' : List (Nat × Blk)} {c : C} (h : ∀ i ∈ idC c, find hp' i = find hp i) : listOf hp' c = listOf hp c := by
  cases c with
  | t x => cases x <;> rfl
  | own i v o n => simp only [listOf]; rw [arrOf_eq (h i (by simp [idC]))]
  | _ => rfl
theorem vEq {hp hp' : List (Nat × Blk)} {c : C} (h : ∀ i ∈ idV (.a (.c c)), find hp' i = find hp i) : idEq hp hp' c := idEq_of fun i hi => h i (by simpa [idV, idA, A.cells] using hi)
theorem vList {hp hp' : List (Nat × Blk)} {c : C} (h : ∀ i ∈ idV (.a (.c c)), find hp' i = find hp i) : listOf hp' c = listOf hp c := listOf_eq fun i hi => h i (by simpa [idV, idA, A.cells] using hi)

theorem deepEval {τ : Tab} {s : St} {t : Nat} {x : Operand} {i : Nat} (h : i ∈ deepV s.hp (s.eval τ t x)) : i ∈ deepV s.hp (rdO.tmpV s x) := by
  cases x with
  | tmp j => exact h
  | const v =>
    exfalso
    simp only [St.eval, ofValue] at h
    split at h <;> simp [deepV, A.cells, deepC, idC] at h
  | func f => simp [St.eval, deepV, A.cells, deepC, idC] at h
  | global g => simp [St.eval, deepV, A.cells, deepC, idC] at h
section
variable {hp hp' : List (Nat × Blk)}
theorem readC_fr {c : C} (h : ∀ i ∈ idC c, find hp' i = find hp i) : readC hp' c = readC hp c := by
  cases c <;> first | rfl | simp only [readC, listOf_eq h]
theorem readL_fr : ∀ {l : List C}, (∀ c ∈ l, ∀ i ∈ idC c, find hp' i = find hp i) → readL hp' l = readL hp l
  | [], _ => rfl
  | c :: r, h => by simp only [readL, readC_fr (h c (by simp)), readL_fr (l := r) fun c hc => h c (by simp [hc])]
theorem readA_fr {x : A} (h : ∀ c ∈ x.cells, ∀ i ∈ idC c, find hp' i = find hp i) : readA hp' x = readA hp x := by
  cases x with
  | c c => exact readC_fr (h c (by simp [A.cells]))
  | g cs => simp only [readA]; rw [readL_fr (hp := hp) (l := cs) h]
theorem bcK_fr {c : C} {K : BC → Prop} (h : ∀ i ∈ idC c, find hp' i = find hp i) : bcK hp' c K = bcK hp c K := by
  cases c with
  | own i v o n =>
    have := h i (by simp [idC])
    cases o <;> simp only [bcK, this]
  | _ => rfl
theorem bcsK_fr : ∀ {l : List C} {K : List BC → Prop}, (∀ c ∈ l, ∀ i ∈ idC c, find hp' i = find hp i) → bcsK hp' l K = bcsK hp l K
  | [], K, _ => rfl
  | c :: r, K, h => by
    have ih : ∀ K, bcsK hp' r K = bcsK hp r K := fun K => bcsK_fr fun c hc => h c (by simp [hc])
    simp only [bcsK, bcK_fr (h c (by simp)), ih]
theorem deep_id {x : A} {c : C} (hc : c ∈ x.cells) {i : Nat} (hi : i ∈ idC c) : i ∈ deepV hp (.a x) := by
  refine List.mem_flatMap.2 ⟨c, hc, ?_⟩
  cases c <;> simp only [deepC] <;> first | exact hi | (simp only [idC, List.mem_singleton] at hi; subst hi; simp)
theorem argK_fr {x : AV} {K : AA → List Nat → Prop} (h : ∀ i ∈ deepV hp x, find hp' i = find hp i) : argK hp' x K = argK hp x K := by
  unfold argK
  split
  · rename_i i
    have h1 := h i (by simp [deepV, A.cells, deepC])
    rw [h1]
    split
    · rename_i cs hf
      exact bcsK_fr fun c hc j hj => h j (by simp only [deepV, A.cells, List.flatMap_cons, List.flatMap_nil, List.append_nil, deepC, hf]; exact List.mem_cons_of_mem _ (List.mem_flatMap.2 ⟨c, hc, hj⟩))
    · rfl
  · rfl
  · rename_i x _ _
    rw [readA_fr (hp := hp) fun c hc i hi => h i (deep_id hc hi)]
  · rfl
theorem argsK_fr : ∀ {l : List AV} {K : List AA → List Nat → Prop}, (∀ x ∈ l, ∀ i ∈ deepV hp x, find hp' i = find hp i) → argsK hp' l K = argsK hp l K
  | [], K, _ => rfl
  | c :: r, K, h => by
    have ih : ∀ K, argsK hp' r K = argsK hp r K := fun K => argsK_fr fun c hc => h c (by simp [hc])
    simp only [argsK, argK_fr (h c (by simp)), ih]
theorem freeze_fr : ∀ {l : List Nat}, (∀ i ∈ l, find hp' i = find hp i) → freeze hp' l = freeze hp l
  | [], _ => rfl
  | i :: r, h => by simp only [freeze, h i (by simp), freeze_fr (l := r) fun c hc => h c (by simp [hc])]
theorem outsK_fr {own : Bool} : ∀ {xs : List AV} {os : List (List BC)} {n : Nat}, (∀ x ∈ xs, ∀ i ∈ deepV hp x, find hp' i = find hp i) → outsK own hp' n xs os = outsK own hp n xs os
  | [], os, n, _ => by cases os <;> rfl
  | x :: xs, os, n, h => by
    have ih : ∀ n os, outsK own hp' n xs os = outsK own hp n xs os := fun n os => outsK_fr fun c hc => h c (by simp [hc])
    rcases x with ((c | g) | tt)
    · cases c with
      | ptr i o =>
        cases o with
        | zero =>
          cases os with
          | nil => simp only [outsK, ih]
          | cons o os => simp only [outsK, h (.a (.c (.ptr i 0))) (by simp) i (by simp [deepV, A.cells, deepC]), ih]
        | succ o => simp only [outsK, ih]
      | _ => simp only [outsK, ih]
    · simp only [outsK, ih]
    · simp only [outsK, ih]
theorem ownsA_sub {x : AV} {i : Nat} (h : i ∈ ownsA x) : i ∈ deepV hp x := by
  cases x with
  | tup xs => simp [ownsA] at h
  | a x =>
    obtain ⟨c, hc, hi⟩ := List.mem_flatMap.1 h
    refine deep_id hc ?_
    cases c <;> simp only [ownsC] at hi <;> first | exact hi | simp at hi
theorem callK_fr {P : Program} {md : Nat → Bool} {f : FuncId} {n : Nat} {xs : List AV} {K : AV → List (Nat × Blk) → Prop} (h : ∀ x ∈ xs, ∀ i ∈ deepV hp x, find hp' i = find hp i) : callK P md f hp' n xs K = callK P md f hp n xs K := by
  have h2 : freeze hp' (xs.flatMap ownsA) = freeze hp (xs.flatMap ownsA) := freeze_fr fun i hi => by
    obtain ⟨x, hx, hi⟩ := List.mem_flatMap.1 hi
    exact h x hx i (ownsA_sub hi)
  have h3 : ∀ own n os, outsK own hp' n xs os = outsK own hp n xs os := fun own n os => outsK_fr h
  unfold callK
  rw [argsK_fr h]
  simp only [h2, h3]
end
section
variable {P : Program} {τ : Tab} {md : Nat → Bool} {ops : Array Oper} {o : Oper} {s s' : St} {n : Nat} {K : AV → List (Nat × Blk) → Prop}
theorem agree_eval (hA : Agree ops o s s') {x : Operand} (hx : x ∈ opers o.op) (t : Nat) : s'.eval τ t x = s.eval τ t x := by
  cases x with
  | tmp i => exact hA.tm i (List.mem_append_right _ (List.mem_flatMap.2 ⟨_, hx, by simp [tmpO]⟩))
  | _ => rfl
theorem fillK_fr {d : TD} {K : List C → Prop} : ∀ {l : List (Nat × Operand)} {cs : List C}, (∀ x ∈ l, ∀ t, s'.eval τ t x.2 = s.eval τ t x.2) → fillK τ s' d l cs K = fillK τ s d l cs K
  | [], cs, h => rfl
  | (i, x) :: r, cs, h => by
    have ih : ∀ cs, fillK τ s' d r cs K = fillK τ s d r cs K := fun cs => fillK_fr fun y hy => h y (by simp [hy])
    have hx : ∀ t, s'.eval τ t x = s.eval τ t x := h (i, x) (by simp)
    simp only [fillK, hx, ih]
theorem litK_fr {e : Nat} {K : List T → Prop} : ∀ {l : List (Nat × Operand)} {cs : List T}, (∀ x ∈ l, ∀ t, s'.eval τ t x.2 = s.eval τ t x.2) → litK τ s' e l cs K = litK τ s e l cs K
  | [], cs, h => rfl
  | (i, x) :: r, cs, h => by
    have ih : ∀ cs, litK τ s' e r cs K = litK τ s e r cs K := fun cs => litK_fr fun y hy => h y (by simp [hy])
    have hx : ∀ t, s'.eval τ t x = s.eval τ t x := h (i, x) (by simp)
    simp only [litK, hx, ih]
theorem op_frame (hA : Agree ops o s s') : op P τ md o s' n K = op P τ md o s n K := by
  have hE : ∀ x ∈ opers o.op, ∀ t, s'.eval τ t x = s.eval τ t x := fun x hx t => agree_eval hA hx t
  have hV : ∀ x ∈ opers o.op, (∀ c, o.op ≠ .call c) → ∀ t, ∀ i ∈ idV (s.eval τ t x), find s'.hp i = find s.hp i := fun x hx hc t i hi => by
    refine hA.hp i ?_
    unfold rdO
    split
    · rename_i hh; exact absurd hh (hc _)
    · exact List.mem_flatMap.2 ⟨x, hx, idEval hi⟩
  cases ho : o.op with
  | move x =>
    have hx := hE x (by simp [opers, ho])
    simp only [op, ho, hx]
  | assign x =>
    have hx := hE x (by simp [opers, ho])
    simp only [op, ho, hx]
  | pick c a b =>
    have hc := hE c (by simp [opers, ho])
    have ha := hE a (by simp [opers, ho])
    have hb := hE b (by simp [opers, ho])
    simp only [op, ho, hc, ha, hb]
  | alloc t =>
    simp only [op, ho]
  | box t x =>
    have hx := hE x (by simp [opers, ho])
    simp only [op, ho, hx]
  | load t x =>
    have hx := hE x (by simp [opers, ho])
    have hv := hV x (by simp [opers, ho]) (by simp [ho]) 0
    simp only [op, ho, hx]
    generalize s.eval τ 0 x = v at hv ⊢
    (repeat' split) <;> first | rfl | (have hq := vEq hv; simp only [idEq] at hq; simp_all; done) | (have hl := vList hv; simp_all; done) | skip
  | store t x y =>
    have hx := hE x (by simp [opers, ho])
    have hy := hE y (by simp [opers, ho])
    have hv := hV x (by simp [opers, ho]) (by simp [ho]) 0
    simp only [op, ho, hx, hy]
    generalize s.eval τ 0 x = v at hv ⊢
    split <;> first | rfl | (have hq := vEq hv; simp only [idEq] at hq; simp only [hq]; done) | (have hl := vList hv; simp only [hl]; done) | skip
  | nilCheck x =>
    have hx := hE x (by simp [opers, ho])
    have hv := hV x (by simp [opers, ho]) (by simp [ho]) 0
    simp only [op, ho, hx]
    generalize s.eval τ 0 x = v at hv ⊢
    (repeat' split) <;> first | rfl | (have hq := vEq hv; simp only [idEq] at hq; simp_all; done) | (have hl := vList hv; simp_all; done) | skip
  | binOp b t x y u =>
    have hx := hE x (by simp [opers, ho])
    have hy := hE y (by simp [opers, ho])
    simp only [op, ho, hx, hy]
  | unOp u t x =>
    have hx := hE x (by simp [opers, ho])
    simp only [op, ho, hx]
  | convert t u x =>
    have hx := hE x (by simp [opers, ho])
    have hv := hV x (by simp [opers, ho]) (by simp [ho]) t
    simp only [op, ho, hx]
    generalize s.eval τ t x = v at hv ⊢
    (repeat' split) <;> first | rfl | (have hq := vEq hv; simp only [idEq] at hq; simp_all; done) | (have hl := vList hv; simp_all; done) | skip
  | makeSlice t l c =>
    have hl := hE l (by simp [opers, ho])
    have hc := hE c (by simp [opers, ho])
    simp only [op, ho, hl, hc]
  | fieldAddr t x f =>
    have hx := hE x (by simp [opers, ho])
    have hv := hV x (by simp [opers, ho]) (by simp [ho]) 0
    simp only [op, ho, hx]
    generalize s.eval τ 0 x = v at hv ⊢
    (repeat' split) <;> first | rfl | (have hq := vEq hv; simp only [idEq] at hq; simp_all; done) | (have hl := vList hv; simp_all; done) | skip
  | field t x f =>
    have hx := hE x (by simp [opers, ho])
    simp only [op, ho, hx]
  | indexAddr t x i =>
    have hx := hE x (by simp [opers, ho])
    have hi := hE i (by simp [opers, ho])
    have hv := hV x (by simp [opers, ho]) (by simp [ho]) t
    simp only [op, ho, hx, hi]
    generalize s.eval τ t x = v at hv ⊢
    (repeat' split) <;> first | rfl | (have hq := vEq hv; simp only [idEq] at hq; simp_all; done) | (have hl := vList hv; simp_all; done) | skip
  | index t x i =>
    have hx := hE x (by simp [opers, ho])
    have hi := hE i (by simp [opers, ho])
    simp only [op, ho, hx, hi]
  | extract x i =>
    have hx := hE x (by simp [opers, ho])
    simp only [op, ho, hx]
  | build t ps =>
    simp only [op, ho, fun d cs K => fillK_fr (τ := τ) (s := s) (s' := s') (d := d) (K := K) (l := ps.toList) (cs := cs) fun x hx t => hE x.2 (by simp only [opers, ho]; exact List.mem_map.2 ⟨x, hx, rfl⟩) t]
  | buildSlice t l ps =>
    simp only [op, ho, fun d cs K => litK_fr (τ := τ) (s := s) (s' := s') (e := d) (K := K) (l := ps.toList) (cs := cs) fun x hx t => hE x.2 (by simp only [opers, ho]; exact List.mem_map.2 ⟨x, hx, rfl⟩) t]
  | slice t x lo hi mx =>
    cases mx with
    | some m => simp only [op, ho]
    | none =>
      have hx := hE x (by simp [opers, ho])
      have hv := hV x (by simp [opers, ho]) (by simp [ho]) t
      have hlo : lo.map (s'.eval τ 0) = lo.map (s.eval τ 0) := by cases lo with | none => rfl | some y => simp [hE y (by simp [opers, ho])]
      have hhi : hi.map (s'.eval τ 0) = hi.map (s.eval τ 0) := by cases hi with | none => rfl | some y => simp [hE y (by simp [opers, ho])]
      simp only [op, ho, hx, hlo, hhi]
      generalize s.eval τ t x = v at hv ⊢
      split <;> first | rfl | (have hq := vEq hv; simp only [idEq] at hq; simp only [hq]; done) | (have hl := vList hv; simp only [hl]; done) | skip
  | call c =>
    obtain ⟨f, xs, ts⟩ := c
    cases f with
    | value f =>
      have hf := hE f (by simp [opers, ho])
      have hxs : ∀ (l : List (Operand × TypeId)), (∀ x ∈ l, x.1 ∈ xs.toList) → l.map (fun x => s'.eval τ x.2 x.1) = l.map (fun x => s.eval τ x.2 x.1) := fun l hl =>
        List.map_congr_left fun x hx => hE x.1 (by simp only [opers, ho]; exact List.mem_append_right _ (hl x hx)) x.2
      simp only [op, ho, hf, hxs _ fun x hx => (List.of_mem_zip hx).1]
      split
      · split
        · refine callK_fr fun v hv i hi => ?_
          obtain ⟨x, hx, rfl⟩ := List.mem_map.1 hv
          refine hA.hp i ?_
          unfold rdO
          rw [ho]
          exact List.mem_flatMap.2 ⟨x.1, (List.of_mem_zip hx).1, deepEval hi⟩
        · rfl
      · rfl
    | invoke r m => simp only [op, ho]
    | builtin b =>
      have hE' : ∀ x ∈ xs.toList, ∀ t, s'.eval τ t x = s.eval τ t x := fun x hx => hE x (by simp only [opers, ho]; exact List.mem_append_right _ hx)
      have hV' : ∀ x ∈ xs.toList, ∀ t, ∀ i ∈ idV (s.eval τ t x), find s'.hp i = find s.hp i := fun x hx t i hi => by
        refine hA.hp i ?_
        unfold rdO
        rw [ho]
        exact List.mem_flatMap.2 ⟨x, by simp only [opers]; exact List.mem_append_right _ hx, idEval hi⟩
      cases b with
      | len =>
        simp only [op, ho]
        split
        · rename_i x t h1 h2
          have hx := hE' x (by simp [h1])
          have hv := hV' x (by simp [h1]) t
          simp only [hx]
          generalize s.eval τ t x = v at hv ⊢
          split <;> first | rfl | (have hq := vEq hv; simp only [idEq] at hq; simp only [hq]; done) | (have hl := vList hv; simp only [hl]; done) | skip
        · rfl
      | append =>
        simp only [op, ho]
        split
        · rename_i x y t u h1 h2
          have hx := hE' x (by simp [h1])
          have hy := hE' y (by simp [h1])
          have hv := hV' x (by simp [h1]) t
          have hw := hV' y (by simp [h1]) u
          simp only [hx, hy]
          generalize s.eval τ t x = v at hv ⊢
          generalize s.eval τ u y = v' at hw ⊢
          split
          · rename_i e a b _
            simp only [vList hw]
            (repeat' split) <;> first | rfl | (have hq := vEq hv; simp only [idEq] at hq; simp_all; done) | skip
          · rfl
        · rfl
      | _ => simp only [op, ho]
  | _ => simp only [op, ho]
end
end Go.Proofs.Ytbmdncjnnlajnaa.M
