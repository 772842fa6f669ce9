/- A machine of values: a function's contract out of what is reckoned of its code, part 3. No condition. -/
import Derived.Test.YtbmdncjnnlajnaaM23
namespace Go.Proofs.Ytbmdncjnnlajnaa.M
open Go
set_option linter.unusedSimpArgs false
set_option linter.unusedVariables false
set_option linter.unusedSectionVars false

section
variable {P : Program} {τ : Tab} {Γ : Ctx} {al al' : Nat → Prop} {s : St} {a : Act} {w w' : World} {μ μ' : Nat → Option Pl} {n : Nat}
variable {hp hp' : List (Nat × Blk)} {S S0 S' : Addr → Option Value} {own : Bool}

theorem BCOk.mono {S S' : Addr → Option Value} (hS : ∀ a v, S a = some v → S' a = some v) {x : BC} {v : Value} {r : List Nat} (h : BCOk S w x v r) : BCOk S' w x v r := by
  cases x with
  | t x => exact ⟨h.1, h.2.1.mono hS, h.2.2⟩
  | nil sz => exact h
  | arr sz es =>
    rcases h with h | ⟨b, base, room, cap, h1, h2, h3, h4, h5, h6⟩
    · exact .inl h
    · exact .inr ⟨b, base, room, cap, h1, h2, h3, h4, h5, ArrOk.mono hS (fun _ => rfl) (fun _ => rfl) h6⟩
theorem BCsOk.mono {S S' : Addr → Option Value} (hS : ∀ a v, S a = some v → S' a = some v) : ∀ {xs : List BC} {vs : List Value} {r : List Nat}, BCsOk S w xs vs r → BCsOk S' w xs vs r
  | [], _, _, h => h
  | x :: xs, vs, r, ⟨v, vs', r1, r2, h1, h2, h3, h4⟩ => ⟨v, vs', r1, r2, h1, h2, h3.mono hS, BCsOk.mono hS h4⟩
theorem OutsOk.mono {S S' : Addr → Option Value} (hS : ∀ a v, S a = some v → S' a = some v) : ∀ {xs : List AA} {vs : List Value} {os : List (List BC)} {r : List Nat}, OutsOk S w xs vs os r → OutsOk S' w xs vs os r
  | [], _, _, _, h => h
  | .mb cs :: xs, v :: vs, os, r, ⟨o, os', b, r1, r2, h1, h2, h3, h4, ⟨ws, h5, h6⟩, h7⟩ => ⟨o, os', b, r1, r2, h1, h2, h3, h4, ⟨ws, h5.mono hS, h6⟩, OutsOk.mono hS h7⟩
  | .v x :: xs, v :: vs, os, r, h => OutsOk.mono (xs := xs) (vs := vs) hS h
  | .nilp :: xs, v :: vs, os, r, h => OutsOk.mono (xs := xs) (vs := vs) hS h
  | .mb cs :: xs, [], os, r, h => h.elim
  | .v x :: xs, [], os, r, h => h.elim
  | .nilp :: xs, [], os, r, h => h.elim
theorem ResC.mono {S S' : Addr → Option Value} (hS : ∀ a v, S a = some v → S' a = some v) {x : T} {v : Value} {r : List Nat} (h : ResC own S w x v r) : ResC own S' w x v r := by
  cases own with
  | false => exact ⟨h.1, h.2.mono hS⟩
  | true =>
    cases x with
    | list sz es => exact BCOk.mono (x := .arr sz es) hS h
    | _ => exact ⟨h.1, h.2.mono hS⟩
theorem ResCs.mono {S S' : Addr → Option Value} (hS : ∀ a v, S a = some v → S' a = some v) : ∀ {xs : List T} {vs : List Value} {r : List Nat}, ResCs own S w xs vs r → ResCs own S' w xs vs r
  | [], _, _, h => h
  | x :: xs, vs, r, ⟨v, vs', r1, r2, h1, h2, h3, h4, h5⟩ => ⟨v, vs', r1, r2, h1, h2, h3.mono hS, h4, ResCs.mono hS h5⟩
theorem ResA.mono {S S' : Addr → Option Value} (hS : ∀ a v, S a = some v → S' a = some v) {x : T} {v : Value} {r : List Nat} (h : ResA own S w x v r) : ResA own S' w x v r := by
  cases x with
  | agg cs => obtain ⟨vs, h1, h2⟩ := h; exact ⟨vs, h1, h2.mono hS⟩
  | _ => exact ResC.mono hS h
theorem ResL.mono {S S' : Addr → Option Value} (hS : ∀ a v, S a = some v → S' a = some v) : ∀ {xs : List T} {vs : List Value} {r : List Nat}, ResL own S w xs vs r → ResL own S' w xs vs r
  | [], _, _, h => h
  | x :: xs, vs, r, ⟨v, vs', r1, r2, h1, h2, h3, h4⟩ => ⟨v, vs', r1, r2, h1, h2, h3.mono hS, ResL.mono hS h4⟩

theorem ExC_modes {c : C} {x : T} {is js : List Nat} (h : ExC own hp c x is js) : (own = true → js = []) ∧ (own = false → is = []) := by
  cases own with
  | true => rcases h with ⟨_, _, _, h⟩ | ⟨_, _, _, _, h⟩ | ⟨_, _, _, _, _, _, _, _, _, _, _, _, h⟩ <;> exact ⟨fun _ => h, fun h => by cases h⟩
  | false => exact ⟨fun h' => (by cases h'), fun _ => h.2.1⟩
theorem ExCs_modes : ∀ {cs : List C} {xs : List T} {is js : List Nat}, ExCs own hp cs xs is js → (own = true → js = []) ∧ (own = false → is = [])
  | [], xs, is, js, h => ⟨fun _ => h.2.2, fun _ => h.2.1⟩
  | c :: cs, xs, is, js, ⟨x, xs', i, i', j, j', _, h1, h2, h3, h4⟩ => by
    obtain ⟨a1, a2⟩ := ExC_modes h3
    obtain ⟨b1, b2⟩ := ExCs_modes h4
    exact ⟨fun h => by rw [h2, a1 h, b1 h]; rfl, fun h => by rw [h1, a2 h, b2 h]; rfl⟩
theorem ExA_modes {y : A} {x : T} {is js : List Nat} (h : ExA own hp y x is js) : (own = true → js = []) ∧ (own = false → is = []) := by
  cases y with
  | c c => exact ExC_modes h
  | g cs => obtain ⟨xs, _, h1⟩ := h; exact ExCs_modes h1
theorem ExAs_modes' : ∀ {cs : List A} {xs : List T} {is js : List Nat}, ExAs own hp cs xs is js → (own = true → js = []) ∧ (own = false → is = [])
  | [], xs, is, js, h => ⟨fun _ => h.2.2, fun _ => h.2.1⟩
  | c :: cs, xs, is, js, ⟨x, xs', i, i', j, j', _, h1, h2, h3, h4⟩ => by
    obtain ⟨a1, a2⟩ := ExA_modes h3
    obtain ⟨b1, b2⟩ := ExAs_modes' h4
    exact ⟨fun h => by rw [h2, a1 h, b1 h]; rfl, fun h => by rw [h1, a2 h, b2 h]; rfl⟩
theorem ExAs_modes {cs : List A} {xs : List T} {is js : List Nat} (h : ExAs own hp cs xs is js) : js = [] ∨ is = [] := by
  cases own with
  | true => exact .inl ((ExAs_modes' h).1 rfl)
  | false => exact .inr ((ExAs_modes' h).2 rfl)

theorem slots_find : ∀ (xs : List AV) (k t : Nat), find (slots k xs) t = if k ≤ t then xs[t - k]? else none
  | [], k, t => by simp [slots, find]
  | x :: xs, k, t => by
    simp only [slots, find, slots_find xs (k + 1) t]
    by_cases h1 : (k == t) = true
    · simp only [beq_iff_eq] at h1; subst h1; simp
    · rw [if_neg h1]
      simp only [beq_iff_eq] at h1
      by_cases h2 : k ≤ t
      · rw [if_pos h2, if_pos (by omega)]
        obtain ⟨m, hm⟩ : ∃ m, t - k = m + 1 := ⟨t - k - 1, by omega⟩
        rw [hm, List.getElem?_cons_succ]; congr 1; omega
      · rw [if_neg h2, if_neg (by omega)]

theorem results_run {fn : Func} {tmps : Array Value} {vs : List Value} (h : (fn.results.toList.mapM (actR tmps)).run P w = .ok vs w) : (results fn tmps).run P w = .ok (if h : vs.length = 1 then vs[0] else .tuple vs.toArray) w := by
  have e : results fn tmps = (fn.results.mapM (actR tmps) >>= fun vs => pure (if h : vs.size = 1 then vs[0] else .tuple vs)) := by
    unfold results
    refine congrArg (fun z => z >>= _) ?_
    refine congrArg (fun g => fn.results.mapM g) ?_
    funext r; cases r <;> rfl
  rw [e]
  simp only [Array.mapM_eq_mapM_toList, Sem.run_bind, h, map_eq_pure_bind, Result.andThen_ok, Sem.run_pure]
  by_cases hl : vs.length = 1
  · simp [hl]
  · simp [hl]

/-- **A function's contract out of what is reckoned of its code.** -/
theorem CS_of_W (hτ : TOk P τ) {md : Nat → Bool} {f : FuncId} {fn : Func} {c : Code} (hf : P.funcs[f]? = some fn) (hb : fn.body = some c) (hname : (fn.name == "runtime.NumGoroutine") = false) {args : List AA} {rs : List T} {os : List (List BC)} (hlen : args.length ≤ fn.ntmps)
    (h : W P τ md c (initS fn.ntmps args) fun x s => x ≠ .exit 0 ∧ (match x with | .exit _ => False | _ => retK τ own fn args s fun rs' os' => rs' = rs ∧ os' = os)) : CS P own f args rs os := by
  intro G w vals bs hA hnd hbs hG
  have hname' : ¬ fn.name = "runtime.NumGoroutine" := by simpa using hname
  refine .inl ⟨by simp [callFunc, hf, hname', hb], ?_⟩
  obtain ⟨L, a1, a2, a3, a0, a4, a5⟩ := initL_ok 0 hA
  -- the beginning
  let pin : Nat → Option Nat := fun i => (L.find? (fun e => e.1 == i)).bind fun e => match e.2.1 with | .box _ => e.2.2.map (·.b) | _ => none
  let Γ : Ctx := ⟨fun b => G b ∨ w.heap.size ≤ b ∨ b ∈ bs, w, bs, pin⟩
  let μ : Nat → Option Pl := fun i => (L.find? (fun e => e.1 == i)).bind fun e => e.2.2
  have hid : (L.map (·.1)).Nodup := by rw [a3]; exact List.nodup_range'
  have hfind : ∀ e ∈ L, L.find? (fun e' => e'.1 == e.1) = some e := by
    clear a0 a1 a2 a3 a4 a5
    induction L with
    | nil => intro e he; cases he
    | cons x r ih =>
      intro e he
      simp only [List.map_cons, List.nodup_cons] at hid
      rcases List.mem_cons.1 he with h1 | h1
      · subst h1; simp
      · have : (x.1 == e.1) = false := by
          simp only [beq_eq_false_iff_ne]; exact fun hh => hid.1 (List.mem_map.2 ⟨e, h1, hh.symm⟩)
        rw [List.find?_cons, this]
        exact ih hid.2 e h1
  have hhp : (initL 0 args).2 = updH [] (L.map fun e => (e.1, e.2.1)) := by
    have key : ∀ (u : List (Nat × Blk)) (l : List (Nat × Blk)), ((l ++ u).map (·.1)).Nodup → updH l u = l ++ u := fun u => by
      induction u with
      | nil => intro l _; simp [updH]
      | cons x r ih =>
        intro l hn
        obtain ⟨i, b⟩ := x
        rw [updH]
        have hput : put l i b = l ++ [(i, b)] := by
          have hni : i ∉ l.map (·.1) := by
            rw [List.map_append, List.nodup_append] at hn
            exact fun hi => hn.2.2 _ hi i (by simp) rfl
          clear ih hn
          induction l with
          | nil => rfl
          | cons y l ih2 =>
            obtain ⟨k, z⟩ := y
            simp only [List.map_cons, List.mem_cons, not_or] at hni
            have : (k == i) = false := by simpa using fun hh => hni.1 hh.symm
            simp only [put, this, Bool.false_eq_true, if_false, List.cons_append]
            rw [ih2 hni.2]
        rw [hput, ih _ (by simpa using hn)]; simp
    rw [a1, key _ _ (by rw [← a1, List.nil_append, List.map_map]; exact hid)]; simp
  have hfit : Fits (· < L.length) (initL 0 args).2 μ L := fun e he => by
    refine ⟨?_, ?_, ?_⟩
    · have : e.1 ∈ L.map (·.1) := List.mem_map.2 ⟨e, he, rfl⟩
      rw [a3, List.mem_range'_1] at this; omega
    · rw [hhp]; exact updH_mem _ _ (by rw [List.map_map]; exact hid) (e.1, e.2.1) (List.mem_map.2 ⟨e, he, rfl⟩)
    · show (L.find? (fun e' => e'.1 == e.1)).bind (fun e => e.2.2) = _
      rw [hfind e he]; rfl
  have hin : ∀ i b, find (initL 0 args).2 i = some b → ∃ e ∈ L, e.1 = i ∧ e.2.1 = b := fun i b hb => by
    by_cases hh : ∃ e ∈ L, e.1 = i
    · obtain ⟨e, he, rfl⟩ := hh
      rw [(hfit e he).2.1] at hb
      exact ⟨e, he, rfl, Option.some.inj hb⟩
    · rw [hhp, updH_none _ _ _ (fun e he => by obtain ⟨e', he', rfl⟩ := List.mem_map.1 he; exact fun h => hh ⟨e', he', h⟩)] at hb
      cases hb
  have hlive : ∀ i p, live (initL 0 args).2 i → μ i = some p → ∃ e ∈ L, e.1 = i ∧ e.blk = some p.b := fun i p ⟨b, hb, hl⟩ hp => by
    obtain ⟨e, he, rfl, rfl⟩ := hin i b hb
    rw [(hfit e he).2.2] at hp
    exact ⟨e, he, rfl, by simp [E.blk, hl, hp]⟩
  have hbl : ∀ e ∈ L, ∀ b, e.blk = some b → b ∈ bs := fun e he b hb => by rw [← a2]; exact List.mem_filterMap.2 ⟨e, he, hb⟩
  have hSv : ∀ a v, inV G w a = some v → Sv Γ.G (initL 0 args).2 μ w a = some v := fun a v hv => by
    rw [inV_some] at hv
    rw [Sv_some]
    refine ⟨⟨.inl hv.1, fun ⟨i, p, h1, h2, h3⟩ => ?_⟩, hv.2⟩
    obtain ⟨e, he, _, heb⟩ := hlive i p h1 h2
    exact (hbs _ (hbl e he _ heb)).2 (h3 ▸ hv.1)
  obtain ⟨hav, hblk⟩ := a4 _ _ _ _ hfit hSv
  have hone : ∀ e ∈ L, ∀ e' ∈ L, e.1 = e'.1 → e = e' := fun e he e' he' hh => by
    have h1 := hfind e he
    have h2 := hfind e' he'
    rw [hh, h2] at h1; exact (Option.some.inj h1).symm
  have M : Mem Γ (· < L.length) (initL 0 args).2 w μ := by
    refine ⟨Fr.refl _ _, fun b hb => ?_, fun i b hb => ?_, fun i b hb => ?_, fun i p hi hp => ?_, fun i j p q hi hj hp hq hpq => ?_, fun i b hb => ?_⟩
    · rcases hb with hb | hb
      · exact .inr (.inr hb)
      · exact .inr (.inl hb)
    · have hpin : (L.find? (fun e => e.1 == i)).bind (fun e => match e.2.1 with | .box _ => e.2.2.map (·.b) | _ => none) = some b := hb
      rw [Option.bind_eq_some_iff] at hpin
      obtain ⟨e, h1, h2⟩ := hpin
      have he := List.mem_of_find?_eq_some h1
      have hei : e.1 = i := by simpa using List.find?_some h1
      subst hei
      refine ⟨(hfit e he).1, fun cs hcs => ?_⟩
      split at h2
      · rw [Option.map_eq_some_iff] at h2
        obtain ⟨p, h3, h4⟩ := h2
        exact ⟨p, by rw [(hfit e he).2.2]; exact h3, h4⟩
      · cases h2
    · obtain ⟨e, he, rfl, _⟩ := hin i b hb; exact (hfit e he).1
    · obtain ⟨e, he, _, heb⟩ := hlive i p hi hp
      have := hbl e he _ heb
      exact ⟨(hbs _ this).1, .inl this⟩
    · obtain ⟨e, he, rfl, heb⟩ := hlive i p hi hp
      obtain ⟨e', he', rfl, heb'⟩ := hlive j q hj hq
      rw [← hpq] at heb'
      rw [blk_inj (by rw [a2]; exact hnd) hone he he' heb heb']
    · obtain ⟨e, he, rfl, rfl⟩ := hin i b hb
      rw [(hfit e he).2.2]
      exact hblk e he
  have hnx : (initS fn.ntmps args).nx = L.length := by show (initL 0 args).2.length = _; rw [← a1]; simp
  have hl0 : (initL 0 args).1.length = args.length := by
    have : ∀ (xs : List AA) (n : Nat), (initL n xs).1.length = xs.length := fun xs => by
      induction xs with
      | nil => intro n; rfl
      | cons x r ih => intro n; simp [initL, ih]
    exact this args 0
  have R : Rel Γ (· < (initS fn.ntmps args).nx) (initS fn.ntmps args) { tmps := vals.toArray ++ Array.replicate (fn.ntmps - vals.toArray.size) undef, defers := [] } w μ := by
    rw [hnx]
    refine ⟨M, ?_, fun t => ?_, rfl⟩
    · show (vals.toArray ++ Array.replicate (fn.ntmps - vals.toArray.size) undef).size = fn.ntmps
      simp; omega
    · show AVOk _ (initL 0 args).2 _ μ ((find (slots 0 (initL 0 args).1) t).getD (.a (.c .undef))) _
      rw [slots_find]
      simp only [Nat.zero_le, if_true, Nat.sub_zero]
      cases hx : (initL 0 args).1[t]? with
      | none => trivial
      | some x =>
        have hlt : t < vals.length := by rw [a0]; exact (List.getElem?_eq_some_iff.1 hx).1
        have : (vals.toArray ++ Array.replicate (fn.ntmps - vals.toArray.size) undef).getD t undef = vals[t] := by
          rw [Array.getD_eq_getD_getElem?, Array.getElem?_append_left (by simpa using hlt)]; simp [hlt]
        rw [this]
        exact hav t x _ hx (List.getElem?_eq_getElem hlt)
  refine calls_of_wp hf hb (wp_mono (W_sound hτ c _ _ h Γ _ w μ R) fun e a' w' ⟨x, s', μ', hx, ⟨_, hq⟩, R'⟩ => ?_)
  -- the end
  have fin : (retK τ own fn args s' fun rs' os' => rs' = rs ∧ os' = os) → a'.defers = [] ∧ ∃ v, (results fn a'.tmps).run P w' = .ok v w' ∧ ∃ v2, Ending.returned v = .returned v2 ∧ ∃ r1 r2, Fr bs w w' ∧ ResOk own (inV (fun b => G b ∨ (w.heap.size ≤ b ∨ b ∈ bs) ∧ b ∉ r1 ++ r2) w') w' rs v2 r1 ∧
      OutsOk (inV (fun b => G b ∨ (w.heap.size ≤ b ∨ b ∈ bs) ∧ b ∉ r1 ++ r2) w') w' args vals os r2 ∧ (r1 ++ r2).Nodup ∧ ∀ b ∈ r1 ++ r2, b < w'.heap.size ∧ (b ∈ bs ∨ w.heap.size ≤ b) := fun hr => by
    refine ⟨R'.defers, ?_⟩
    unfold retK at hr
    obtain ⟨as, vs, ys, is, js, hK, hrun, hvl, hvs, hex, hvl2⟩ := exL_ok hτ R' hr
    obtain ⟨zs, ks, hK2, hout⟩ := outX_iff hK
    split at hK2
    · rename_i hck
      simp only [Bool.and_eq_true, List.all_eq_true, Bool.not_eq_true', List.contains_eq_mem, decide_eq_false_iff_not] at hck
      obtain ⟨hnd0, hdis⟩ := hck
      have hnd1 := nodup_of_B hnd0
      obtain ⟨rfl, rfl⟩ := hK2
      have hno : ∀ b, (¬ ∃ i p, live s'.hp i ∧ μ' i = some p ∧ p.b = b) → ¬ ∃ i ∈ is ++ ks, live s'.hp i ∧ bOf μ' i = some b := fun b h ⟨i, _, h1, h2⟩ => by
        simp only [bOf, Option.map_eq_some_iff] at h2
        obtain ⟨p, h3, h4⟩ := h2
        exact h ⟨i, p, h1, h3, h4⟩
      have hS : ∀ a v, Sv Γ.G s'.hp μ' w' a = some v → inV (fun b => G b ∨ (w.heap.size ≤ b ∨ b ∈ bs) ∧ ¬ ∃ i ∈ is ++ ks, live s'.hp i ∧ bOf μ' i = some b) w' a = some v := fun a v hv => by
        rw [Sv_some] at hv
        rw [inV_some]
        refine ⟨?_, hv.2⟩
        rcases hv.1.1 with h | h
        · exact .inl h
        · exact .inr ⟨h, hno _ hv.1.2⟩
      have hmodes := ExAs_modes hex
      obtain ⟨r1, c1, c2, c3, c4⟩ := ExAs_ok R'.mem hS hex hvl hvs (fun i hi ⟨sz, es, ver, hb⟩ p hp a ha v hv => by
        have hli : live s'.hp i := ⟨_, hb, rfl⟩
        rw [inV_some]
        refine ⟨.inr ⟨?_, fun ⟨j, hj, h1, h2⟩ => ?_⟩, hv⟩
        · rw [ha]
          rcases (R'.mem.mine i p hli hp).2 with h | h
          · exact .inr h
          · exact .inl h
        · simp only [bOf, Option.map_eq_some_iff] at h2
          obtain ⟨q, h3, h4⟩ := h2
          have := R'.mem.inj i j p q hli h1 hp h3 (by rw [h4, ha])
          subst this
          rcases List.mem_append.1 hj with hj | hj
          · rcases hmodes with h | h
            · rw [h] at hi; cases hi
            · rw [h] at hj; cases hj
          · exact hdis i hi hj)
      obtain ⟨r2, d1, d2, d3⟩ := OutR_ok R'.mem hS hout (a5 pin fun e he cs hcs => by
        show (L.find? (fun e' => e'.1 == e.1)).bind _ = _
        rw [hfind e he]
        simp only [Option.bind_some, hcs])
      have hliv : ∀ i ∈ is ++ ks, live s'.hp i := fun i hi => by
        rcases List.mem_append.1 hi with hi | hi
        · exact c3 i hi
        · exact d3 i hi
      have hsub : (r1 ++ r2).Sublist ((is ++ ks).filterMap (bOf μ')) := by rw [List.filterMap_append]; exact c2.append d2
      have hin2 : ∀ b ∈ r1 ++ r2, ∃ i ∈ is ++ ks, live s'.hp i ∧ bOf μ' i = some b := fun b hb => by
        obtain ⟨i, hi, hib⟩ := List.mem_filterMap.1 (hsub.subset hb)
        exact ⟨i, hi, hliv i hi, hib⟩
      have hmono : ∀ a v, inV (fun b => G b ∨ (w.heap.size ≤ b ∨ b ∈ bs) ∧ ¬ ∃ i ∈ is ++ ks, live s'.hp i ∧ bOf μ' i = some b) w' a = some v → inV (fun b => G b ∨ (w.heap.size ≤ b ∨ b ∈ bs) ∧ b ∉ r1 ++ r2) w' a = some v := fun a v hv => by
        rw [inV_some] at hv ⊢
        refine ⟨?_, hv.2⟩
        rcases hv.1 with h | ⟨h, h2⟩
        · exact .inl h
        · exact .inr ⟨h, fun hb => h2 (hin2 _ hb)⟩
      refine ⟨_, results_run hrun, _, rfl, r1, r2, R'.mem.fr, ?_, OutsOk.mono hmono d1, hsub.nodup (bOf_nodup R'.mem hnd1 hliv), fun b hb => ?_⟩
      · have hL := ResL.mono hmono c1
        unfold ResOk
        split
        · rename_i x
          obtain ⟨v, vs', q1, q2, rfl, rfl, h1, h2⟩ := hL
          obtain ⟨rfl, rfl⟩ := h2
          simpa using h1
        · rename_i hne
          refine ⟨vs, ?_, hL⟩
          rw [dif_neg]
          intro hl
          have : ys.length = 1 := by rw [c4, hl]
          match ys, this with
          | [y], _ => exact hne y rfl
      · obtain ⟨i, _, hl, hib⟩ := hin2 b hb
        simp only [bOf, Option.map_eq_some_iff] at hib
        obtain ⟨p, hp, rfl⟩ := hib
        exact R'.mem.mine i p hl hp
    · exact hK2.elim
  cases x with
  | normal =>
    obtain rfl : e = .normal := by cases e <;> first | rfl | exact hx.elim
    exact fin hq
  | exit j => exact hq.elim
  | ret =>
    obtain rfl : e = .ret := by cases e <;> first | rfl | exact hx.elim
    exact fin hq
end
end Go.Proofs.Ytbmdncjnnlajnaa.M
